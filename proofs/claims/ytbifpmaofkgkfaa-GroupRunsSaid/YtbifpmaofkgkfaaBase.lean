/- Small plain lemmas: numbers, masks, closers of walks. Nothing of the program. -/
import Derived.WalkKit
import Derived.WalkSpells
import Derived.WalkLawsBesides
import Derived.KernelRfl
import Derived.Deep.LoopGhost
import Derived.Deep.QuietTactic
import Derived.BigQuiet
import Derived.Deep.DeepFit
import Derived.Lib.Hide
namespace Go.Proofs.Ytbifpmaofkgkfaa
open Go.RowKit
theorem ret_int {k : IntKind} {a b : Int} (h : a = b) : Ending.returned (.int k a) = .returned (.int k b) := by rw [h]
theorem ret_bool {a b : Bool} (h : a = b) : Ending.returned (.bool a) = .returned (.bool b) := by rw [h]
theorem pow64 : (2 : Int) ^ 64 = 18446744073709551616 := by decide
theorem pow_le64 {n : Nat} (h : n ≤ 64) : (2 : Nat) ^ n ≤ 2 ^ 64 := Nat.pow_le_pow_right (by decide) h
theorem pow_lt64 {n : Nat} (h : n < 64) : (2 : Nat) ^ n ≤ 2 ^ 63 := Nat.pow_le_pow_right (by decide) (by omega)
theorem icast_pow (n : Nat) : ((2 ^ n : Nat) : Int) = (2 : Int) ^ n := by simp
theorem ones_fits {n : Nat} (h : n < 64) : IntKind.u64.wrap (IntKind.u64.wrap ((2 : Int) ^ n) - 1) = ((2 ^ n - 1 : Nat) : Int) := by
  have h1 := pow_lt64 h
  have h2 : 0 < 2 ^ n := Nat.pow_pos (by decide)
  rw [← icast_pow]
  generalize 2 ^ n = p at *
  rw [IntKind.wrap_u64, IntKind.wrap_u64]
  omega
theorem ones_all : (18446744073709551615 : Int) = ((2 ^ 64 - 1 : Nat) : Int) := by decide
theorem u64_and {a b : Nat} (ha : a < 18446744073709551616) (hb : b < 18446744073709551616) : bits .and .u64 (a : Int) (b : Int) = ((a &&& b : Nat) : Int) := by
  have hx : a &&& b < 2 ^ 64 := Nat.and_lt_two_pow _ (by omega)
  have h1 : (BitVec.ofInt 64 (a : Int)).toNat = a := by
    rw [BitVec.ofInt_natCast, BitVec.toNat_ofNat]; exact Nat.mod_eq_of_lt (by omega)
  have h2 : (BitVec.ofInt 64 (b : Int)).toNat = b := by
    rw [BitVec.ofInt_natCast, BitVec.toNat_ofNat]; exact Nat.mod_eq_of_lt (by omega)
  show IntKind.u64.wrap ((BitVec.ofInt 64 (a : Int) &&& BitVec.ofInt 64 (b : Int)).toNat : Int) = _
  rw [BitVec.toNat_and, h1, h2, IntKind.wrap_u64]
  omega
theorem u64_or {a b : Nat} (ha : a < 18446744073709551616) (hb : b < 18446744073709551616) : bits .or .u64 (a : Int) (b : Int) = ((a ||| b : Nat) : Int) := by
  have hx : a ||| b < 2 ^ 64 := Nat.or_lt_two_pow (by omega) (by omega)
  have h1 : (BitVec.ofInt 64 (a : Int)).toNat = a := by
    rw [BitVec.ofInt_natCast, BitVec.toNat_ofNat]; exact Nat.mod_eq_of_lt (by omega)
  have h2 : (BitVec.ofInt 64 (b : Int)).toNat = b := by
    rw [BitVec.ofInt_natCast, BitVec.toNat_ofNat]; exact Nat.mod_eq_of_lt (by omega)
  show IntKind.u64.wrap ((BitVec.ofInt 64 (a : Int) ||| BitVec.ofInt 64 (b : Int)).toNat : Int) = _
  rw [BitVec.toNat_or, h1, h2, IntKind.wrap_u64]
  omega
theorem u64_andNot {a b : Nat} (ha : a < 18446744073709551616) (hb : b < 18446744073709551616) : bits .andNot .u64 (a : Int) (b : Int) = ((a &&& (18446744073709551615 - b) : Nat) : Int) := by
  have hx : a &&& (18446744073709551615 - b) < 2 ^ 64 := Nat.and_lt_two_pow _ (by omega)
  have h1 : (BitVec.ofInt 64 (a : Int)).toNat = a := by
    rw [BitVec.ofInt_natCast, BitVec.toNat_ofNat]; exact Nat.mod_eq_of_lt (by omega)
  have h2 : (BitVec.ofInt 64 (b : Int)).toNat = b := by
    rw [BitVec.ofInt_natCast, BitVec.toNat_ofNat]; exact Nat.mod_eq_of_lt (by omega)
  show IntKind.u64.wrap ((BitVec.ofInt 64 (a : Int) &&& ~~~BitVec.ofInt 64 (b : Int)).toNat : Int) = _
  rw [BitVec.toNat_and, BitVec.toNat_not, h1, h2, IntKind.wrap_u64]
  have e : 2 ^ 64 - 1 - b = 18446744073709551615 - b := by omega
  rw [e]
  omega
theorem shr_and {x lo n : Nat} (hx : x < 18446744073709551616) (h : n ≤ 64) : bits .and .u64 ((x : Int) / 2 ^ lo) ((2 ^ n - 1 : Nat) : Int) = ((x / 2 ^ lo % 2 ^ n : Nat) : Int) := by
  have h1 := pow_le64 h
  have h2 : 0 < 2 ^ n := Nat.pow_pos (by decide)
  have e : ((x : Int) / 2 ^ lo) = ((x / 2 ^ lo : Nat) : Int) := by rw [← icast_pow, Int.natCast_ediv]
  rw [e, u64_and (Nat.lt_of_le_of_lt (Nat.div_le_self _ _) hx) (by omega), Nat.and_two_pow_sub_one_eq_mod]
theorem wrapu_nat (n : Nat) : IntKind.u64.wrap (n : Int) = ((n % 18446744073709551616 : Nat) : Int) := by rw [IntKind.wrap_u64]; omega
theorem wrapu_shl (v lo : Nat) : IntKind.u64.wrap ((v : Int) * 2 ^ lo) = ((v * 2 ^ lo % 18446744073709551616 : Nat) : Int) := by
  rw [← icast_pow, ← Int.natCast_mul, wrapu_nat]
theorem beq_nat (a b : Nat) : (((a : Nat) : Int) == ((b : Nat) : Int)) = (a == b) := by rw [Bool.eq_iff_iff]; simp; omega
theorem ret_tup2 {a b c d : Value} (h : a = c) (h' : b = d) : Ending.returned (.tuple #[a, b]) = .returned (.tuple #[c, d]) := by rw [h, h']
theorem wrap64_nat {n : Nat} (h : n < 9223372036854775808) : wrap64 (n : Int) = n := by unfold wrap64; omega
theorem wrapu_in {n : Int} (h0 : 0 ≤ n) (h : n < 18446744073709551616) : IntKind.u64.wrap n = n := by rw [IntKind.wrap_u64]; omega
/-- x and all ones below n. -/
theorem and_ones (x n : Nat) : x &&& (2 ^ n - 1) = x % 2 ^ n := Nat.and_two_pow_sub_one_eq_mod x n

/-! ### A world with more behind it: new blocks and draws that nobody looks at -/
abbrev Grows (w w' : World) : Prop := Below w.heap.size w w'
structure Gh where
  objs : Array Obj
  at_ : Nat
instance : Nonempty Gh := ⟨⟨#[], 0⟩⟩
def grow (w : World) (g : Gh) : World := { w with heap := w.heap ++ g.objs, drawn := g.at_ }
theorem Grows.isGrow {w w' : World} (h : Grows w w') : ∃ g, w' = grow w g := by
  refine ⟨⟨w'.heap.extract w.heap.size w'.heap.size, w'.drawn⟩, ?_⟩
  have e : w'.heap = w.heap ++ w'.heap.extract w.heap.size w'.heap.size := by
    apply Array.ext_getElem?
    intro i
    rw [Array.getElem?_append]
    by_cases hi : i < w.heap.size
    · rw [if_pos hi, h.block i hi]
    · rw [if_neg hi, Array.getElem?_extract]
      by_cases hj : i < w'.heap.size
      · rw [if_pos (by omega)]
        congr 1
        omega
      · rw [if_neg (by omega), Array.getElem?_eq_none (by omega)]
  cases w'
  cases w
  obtain ⟨h1, h2, h3, h4, h5⟩ := h
  simp only [grow, World.mk.injEq]
  exact ⟨e, h2, trivial, h1, h3⟩
theorem grow_size (w : World) (g : Gh) : (grow w g).heap.size = w.heap.size + g.objs.size := by simp [grow]
theorem grow_heap (w : World) (g : Gh) (k : Nat) (h : k < w.heap.size) : (grow w g).heap[k]? = w.heap[k]? := by
  simp only [grow]
  rw [Array.getElem?_append, if_pos h]
theorem grows_grow (w : World) (g : Gh) : Grows w (grow w g) :=
  ⟨rfl, rfl, rfl, by rw [grow_size]; omega, fun k hk => grow_heap w g k hk⟩
theorem Grows.trans' {a b c : World} (h : Grows a b) (k : Grows b c) : Grows a c := Below.trans h (Below.mono k h.size)
theorem grow_cell (w : World) (g : Gh) (b o : Nat) (h : b < w.heap.size) : (grow w g).cell? ⟨b, o, none⟩ = w.cell? ⟨b, o, none⟩ :=
  World.cell?_of_block (w := w) (grow_heap w g b h)
theorem grow_frozen (w : World) (g : Gh) (b o : Nat) (h : b < w.heap.size) : (grow w g).frozen? ⟨b, o, none⟩ = w.frozen? ⟨b, o, none⟩ :=
  World.frozen?_of_block (w := w) (grow_heap w g b h)
theorem grow_drew (w : World) (g : Gh) : (grow w g).drew = grow w ⟨g.objs, g.at_ + 1⟩ := rfl
theorem grow_drewN (w : World) (g : Gh) (n : Nat) : (grow w g).drewN n = grow w ⟨g.objs, g.at_ + n⟩ := rfl
theorem grow_grow (w : World) (g h : Gh) : grow (grow w g) h = grow w ⟨g.objs ++ h.objs, h.at_⟩ := by simp [grow]
theorem alloc_heap_new (w : World) (o : Obj) : (w.alloc o).heap[w.heap.size]? = some o := by
  show (w.heap.push o)[w.heap.size]? = _
  simp
theorem grow_new (w : World) (o : Obj) (g : Gh) : (grow (w.alloc o) g).heap[w.heap.size]? = some o := by
  rw [grow_heap _ _ _ (by simp), alloc_heap_new]
theorem grow_new_cell (w : World) (cs : Array Value) (T : TypeId) (fz : Nat × Nat) (g : Gh) (i : Nat) : (grow (w.alloc (.cells cs T fz)) g).cell? ⟨w.heap.size, i, none⟩ = cs[i]? := by
  simp [World.cell?, grow_new]
theorem grow_new_frozen (w : World) (cs : Array Value) (T : TypeId) (g : Gh) (i : Nat) : (grow (w.alloc (.cells cs T)) g).frozen? ⟨w.heap.size, i, none⟩ = false := by
  simp [World.frozen?, grow_new]
/-- a block of cells that stands in a world -/
def Has (w : World) (b : Nat) (cs : Array Value) (T : TypeId) : Prop := w.heap[b]? = some (.cells cs T (0, 0))
theorem Has.lt {w : World} {b : Nat} {cs : Array Value} {T : TypeId} (h : Has w b cs T) : b < w.heap.size := by
  rcases Nat.lt_or_ge b w.heap.size with hlt | hge
  · exact hlt
  · unfold Has at h; rw [Array.getElem?_eq_none hge] at h; cases h
theorem Has.cell {w : World} {b : Nat} {cs : Array Value} {T : TypeId} (h : Has w b cs T) (i : Nat) : w.cell? ⟨b, i, none⟩ = cs[i]? := by
  unfold Has at h
  simp [World.cell?, h]
theorem Has.frozen {w : World} {b : Nat} {cs : Array Value} {T : TypeId} (h : Has w b cs T) (i : Nat) : w.frozen? ⟨b, i, none⟩ = false := by
  unfold Has at h
  simp [World.frozen?, h]
theorem Has.grows {w w' : World} {b : Nat} {cs : Array Value} {T : TypeId} (h : Has w b cs T) (hg : Grows w w') : Has w' b cs T := (hg.block b h.lt).trans h
theorem Has.new (w : World) (cs : Array Value) (T : TypeId) : Has (w.alloc (.cells cs T)) w.heap.size cs T := alloc_heap_new w _
theorem Has.alloc {w : World} {b : Nat} {cs : Array Value} {T : TypeId} (h : Has w b cs T) (o : Obj) : Has (w.alloc o) b cs T := (Below.heap_alloc w o b h.lt).trans h
theorem Has.set {w : World} {b : Nat} {cs : Array Value} {T : TypeId} (h : Has w b cs T) (i : Nat) (v : Value) : Has (w.setCell ⟨b, i, none⟩ v) b (cs.setIfInBounds i v) T := by
  unfold Has at *
  simp [World.setCell, Array.getElem?_modify, h]
theorem Has.far {w : World} {b c : Nat} {cs : Array Value} {T : TypeId} (h : Has w b cs T) (hne : b ≠ c) (i : Nat) (v : Value) : Has (w.setCell ⟨c, i, none⟩ v) b cs T := (Below.heap_setCell w ⟨c, i, none⟩ v b hne).trans h
theorem Has.gcell {w : World} {b : Nat} {cs : Array Value} {T : TypeId} (h : Has w b cs T) (g : Gh) (i : Nat) : (grow w g).cell? ⟨b, i, none⟩ = cs[i]? := (h.grows (grows_grow w g)).cell i
theorem Has.gfrozen {w : World} {b : Nat} {cs : Array Value} {T : TypeId} (h : Has w b cs T) (g : Gh) (i : Nat) : (grow w g).frozen? ⟨b, i, none⟩ = false := (h.grows (grows_grow w g)).frozen i
/-- a region that draws its order, whose operations only read and whose callees only lay new blocks -/
theorem wp_region_grow {P : Program} {id : Nat} {Q : Exit → Act → World → Prop} {a : Act} {w : World} {l : List Oper} (hm : P.follows .mixedOrders = true) (hB : Region.lexB .any l.toArray = true)
    (h : wpQuiet P l.toArray (fun w' => ∃ g, w' = grow w g) (fun a' => ∀ w', (∃ g, w' = grow w g) → Q .normal a' w') l a) : (Code.region id l.toArray true).wp P Q a w :=
  wp_region_quiet (C := fun w' => ∃ g, w' = grow w g) hm hB ⟨⟨#[], w.drawn + 1⟩, by simp [grow]⟩ (by simpa using h)
theorem wp_region_grown {P : Program} {id : Nat} {Q : Exit → Act → World → Prop} {a : Act} {w : World} {g0 : Gh} {l : List Oper} (hm : P.follows .mixedOrders = true) (hB : Region.lexB .any l.toArray = true)
    (h : wpQuiet P l.toArray (fun w' => ∃ g, w' = grow w g) (fun a' => ∀ w', (∃ g, w' = grow w g) → Q .normal a' w') l a) : (Code.region id l.toArray true).wp P Q a (grow w g0) :=
  wp_region_quiet (C := fun w' => ∃ g, w' = grow w g) hm hB ⟨⟨g0.objs, g0.at_ + 1⟩, rfl⟩ (by simpa using h)
theorem quiet_grows {P : Program} {f : FuncId} {args : Array Value} {w : World} {g : Gh} {v : Value}
    (h : Calls P f args (grow w g) fun e w' => e = .returned v ∧ Grows (grow w g) w') : Calls P f args (grow w g) fun e w'' => e = .returned v ∧ ∃ m, w'' = grow w m :=
  h.mono fun _ _ ⟨he, hw⟩ => ⟨he, by obtain ⟨k, hk⟩ := hw.isGrow; exact ⟨_, hk.trans (grow_grow w g k)⟩⟩
theorem quiet_same {P : Program} {f : FuncId} {args : Array Value} {w : World} {g : Gh} {v : Value}
    (h : Calls P f args (grow w g) fun e w' => e = .returned v ∧ grow w g = w') : Calls P f args (grow w g) fun e w'' => e = .returned v ∧ ∃ m, w'' = grow w m :=
  h.mono fun _ _ ⟨he, hw⟩ => ⟨he, ⟨g, hw.symm⟩⟩
attribute [go_sem] grow_new_cell grow_new_frozen grow_size grow_cell grow_frozen grow_drew grow_drewN grow_grow
end Go.Proofs.Ytbifpmaofkgkfaa
