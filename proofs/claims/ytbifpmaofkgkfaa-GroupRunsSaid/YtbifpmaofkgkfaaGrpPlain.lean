/- Layer 12: plain facts. Nothing of the program's code. -/
import Derived.Test.YtbifpmaofkgkfaaGrp
namespace Go.Proofs.Ytbifpmaofkgkfaa
open Go.RowKit
theorem u64_xor {a b : Nat} (ha : a < 18446744073709551616) (hb : b < 18446744073709551616) : bits .xor .u64 (a : Int) (b : Int) = ((a ^^^ b : Nat) : Int) := by
  have hx : a ^^^ b < 2 ^ 64 := Nat.xor_lt_two_pow (by omega) (by omega)
  have h1 : (BitVec.ofInt 64 (a : Int)).toNat = a := by
    rw [BitVec.ofInt_natCast, BitVec.toNat_ofNat]; exact Nat.mod_eq_of_lt (by omega)
  have h2 : (BitVec.ofInt 64 (b : Int)).toNat = b := by
    rw [BitVec.ofInt_natCast, BitVec.toNat_ofNat]; exact Nat.mod_eq_of_lt (by omega)
  show IntKind.u64.wrap ((BitVec.ofInt 64 (a : Int) ^^^ BitVec.ofInt 64 (b : Int)).toNat : Int) = _
  rw [BitVec.toNat_xor, h1, h2, IntKind.wrap_u64]
  omega
def alikeB (x y : Nat) : Bool := (x ^^^ y) &&& 9223372036854775878 == 0
theorem alike_run {x y : Nat} (hx : x < 18446744073709551616) (hy : y < 18446744073709551616) : (bits .and .u64 (bits .xor .u64 (x : Int) (y : Int)) 9223372036854775878 == 0) = alikeB x y := by
  rw [u64_xor hx hy, show (9223372036854775878 : Int) = ((9223372036854775878 : Nat) : Int) from rfl, u64_and (Nat.xor_lt_two_pow (n := 64) (by omega) (by omega)) (by decide)]
  exact beq_nat _ 0
def usedB (x y : Nat) (t : Int) (n : Bool) : Bool := mayB y t n && (y.testBit 5 && alikeB x y)
def frN (x i : Nat) : Nat := (tab x + 18446744073709551616 - 4096 * i) % 18446744073709551616
def togB (ws : Nat → Nat) (i : Nat) (t : Int) (n : Bool) (j : Nat) : Bool :=
  decide (j = i) || (usedB (ws i) (ws j) t n && decide (tab (ws j) = (frN (ws i) i + 4096 * j) % 18446744073709551616))
def gm (f : Nat → Bool) : Nat → Nat
  | 0 => 0
  | k + 1 => if f k then gm f k ||| 2 ^ k else gm f k
theorem gm_lt (f : Nat → Bool) (k : Nat) : gm f k < 2 ^ k := by
  induction k with
  | zero => simp [gm]
  | succ k ih =>
    unfold gm
    have h1 : 2 ^ k < 2 ^ (k + 1) := by rw [Nat.pow_succ]; have : 0 < 2 ^ k := Nat.pow_pos (by decide); omega
    split
    · exact Nat.or_lt_two_pow (Nat.lt_trans ih h1) h1
    · exact Nat.lt_trans ih h1
theorem gm_bit (f : Nat → Bool) (k j : Nat) : (gm f k).testBit j = (decide (j < k) && f j) := by
  induction k with
  | zero => simp [gm]
  | succ k ih =>
    unfold gm
    by_cases hjk : j = k
    · subst hjk
      cases hf : f j <;> simp [ih]
    · have e : decide (j < k + 1) = decide (j < k) := by rw [decide_eq_decide]; omega
      have e2 : decide (k = j) = false := by rw [decide_eq_false_iff_not]; omega
      rw [e]
      split <;> simp [ih, Nat.testBit_two_pow, e2]
theorem gm_add (f : Nat → Bool) (k : Nat) : gm f k + 2 ^ k = gm f k ||| 2 ^ k := by
  have := Nat.two_pow_add_eq_or_of_lt (gm_lt f k) 1
  rw [Nat.mul_one] at this
  rw [Nat.add_comm, this, Nat.or_comm]
structure Ln where
  f : Nat
  a : Bool
  b : Bool
  c : Bool
  d : Bool
  m : Nat
def Ln.zero : Ln := ⟨0, false, false, false, false, 0⟩
def lnV (l : Ln) : Value := .agg #[.int .u64 l.f, .bool l.a, .bool l.b, .bool l.c, .bool l.d, .int .u8 l.m]
def runOk (ws : Nat → Nat) (i : Int) (t : Int) (n : Bool) : Bool := decide (0 ≤ i) && (decide (i < 8) && mayB (ws i.toNat) t n)
def runL (ws : Nat → Nat) (i : Nat) (a b c : Bool) (t : Int) (n : Bool) : Ln :=
  ⟨frN (ws i) i, a && (ws i).testBit 1, b && (ws i).testBit 2, c && !(ws i).testBit 63, (ws i).testBit 6, gm (togB ws i t n) 8⟩
def runN (ws : Nat → Nat) (i : Int) (a b c : Bool) (t : Int) (n : Bool) : Ln := if runOk ws i t n then runL ws i.toNat a b c t n else Ln.zero
def seenC (ws : Nat → Nat) (i : Int) (a b c : Bool) (t : Int) (n : Bool) : Array Value :=
  #[.int .u64 (ws 0), .int .u64 (ws 1), .int .u64 (ws 2), .int .u64 (ws 3), .int .u64 (ws 4), .int .u64 (ws 5), .int .u64 (ws 6), .int .u64 (ws 7), .int .i64 i, .bool a, .bool b, .bool c, .int .i64 t, .bool n]
theorem seenC_get (ws : Nat → Nat) (i : Int) (a b c : Bool) (t : Int) (n : Bool) {j : Nat} (h : j < 8) : (seenC ws i a b c t n)[j]? = some (.int .u64 (ws j)) := by
  have h8 : j = 0 ∨ j = 1 ∨ j = 2 ∨ j = 3 ∨ j = 4 ∨ j = 5 ∨ j = 6 ∨ j = 7 := by omega
  rcases h8 with rfl | rfl | rfl | rfl | rfl | rfl | rfl | rfl <;> rfl
def zLn : Array Value := #[.int .u64 0, .bool false, .bool false, .bool false, .bool false, .int .u8 0]
def seenW (w : World) (ws : Nat → Nat) (i : Int) (a b c : Bool) (t : Int) (n : Bool) : World := (w.alloc (.cells (seenC ws i a b c t n) 59)).alloc (.cells zLn 65)
theorem seenW_0 (w : World) (ws : Nat → Nat) (i : Int) (a b c : Bool) (t : Int) (n : Bool) : Has (seenW w ws i a b c t n) w.heap.size (seenC ws i a b c t n) 59 := (Has.new w _ _).alloc _
theorem seenW_1 (w : World) (ws : Nat → Nat) (i : Int) (a b c : Bool) (t : Int) (n : Bool) : Has (seenW w ws i a b c t n) (w.heap.size + 1) zLn 65 := by
  have h := Has.new (w.alloc (.cells (seenC ws i a b c t n) 59)) zLn 65
  rw [show (w.alloc (.cells (seenC ws i a b c t n) 59)).heap.size = w.heap.size + 1 by simp] at h
  exact h
theorem seenW_g (w : World) (ws : Nat → Nat) (i : Int) (a b c : Bool) (t : Int) (n : Bool) : Grows w (seenW w ws i a b c t n) := ((Below.refl _ _).alloc (Nat.le_refl _) _).alloc (by simp) _
theorem below_swap {B : Nat} {w : World} (o o' : Obj) (h : B ≤ w.heap.size) : Below B (w.alloc o) (w.alloc o') :=
  ⟨rfl, rfl, rfl, by simp, fun k hk => by
    show (w.heap.push o')[k]? = (w.heap.push o)[k]?
    rw [Array.getElem?_push_lt (by omega), Array.getElem?_push_lt (by omega)]⟩
theorem below_set6 {B b : Nat} {w : World} (h : B ≤ b) (v0 v1 v2 v3 v4 v5 : Value) :
    Below B w ((((((w.setCell ⟨b, 0, none⟩ v0).setCell ⟨b, 1, none⟩ v1).setCell ⟨b, 2, none⟩ v2).setCell ⟨b, 3, none⟩ v3).setCell ⟨b, 4, none⟩ v4).setCell ⟨b, 5, none⟩ v5) :=
  Below.setCell (Below.setCell (Below.setCell (Below.setCell (Below.setCell (Below.setCell (Below.refl _ _) h _) h _) h _) h _) h _) h _
theorem grows_drew (w : World) : Grows w w.drew := ⟨rfl, rfl, rfl, Nat.le_refl _, fun _ _ => rfl⟩
theorem grows_alloc_drew (w : World) (o : Obj) : Grows w (w.alloc o).drew := Grows.trans' ((Below.refl _ _).alloc (Nat.le_refl _) o) (grows_drew _)
theorem kd {W w' : World} (h : Grows W.drew w') : Grows W w' := Grows.trans' (grows_drew _) h
theorem kda {W w' : World} (o : Obj) (h : Grows W.drew w') : Grows W (w'.alloc o) := Below.alloc (kd h) (kd h).size _
theorem kad {W w' : World} {o : Obj} (h : Grows (W.alloc o).drew w') : Grows W w' := Grows.trans' (grows_alloc_drew _ _) h
theorem kads {W w' : World} {o : Obj} (h : Grows (W.alloc o).drew w') (v0 v1 v2 v3 v4 v5 : Value) : Grows W ((((((w'.setCell ⟨W.heap.size, 0, none⟩ v0).setCell ⟨W.heap.size, 1, none⟩ v1).setCell ⟨W.heap.size, 2, none⟩ v2).setCell ⟨W.heap.size, 3, none⟩ v3).setCell ⟨W.heap.size, 4, none⟩ v4).setCell ⟨W.heap.size, 5, none⟩ v5) :=
  Below.trans (kad h) (below_set6 (Nat.le_refl _) _ _ _ _ _ _)
theorem hasd {W w' : World} {cs : Array Value} {T : TypeId} (h : Grows (W.alloc (.cells cs T)).drew w') : Has w' W.heap.size cs T := Has.grows (show Has (W.alloc (.cells cs T)).drew W.heap.size cs T from Has.new W _ _) h
def lnC (f : Nat) (a b c d : Bool) (m : Nat) : Array Value := #[.int .u64 f, .bool a, .bool b, .bool c, .bool d, .int .u8 m]
theorem wayC {W w' : World} (h : Grows W.drew w') (cs : Array Value) (T : TypeId) : Has (w'.alloc (.cells cs T)) w'.heap.size cs T ∧ Grows W (w'.alloc (.cells cs T)) ∧ W.heap.size ≤ w'.heap.size :=
  ⟨Has.new _ _ _, kda _ h, (kd h).size⟩
theorem wayA {W w' : World} {T : TypeId} (h : Grows (W.alloc (.cells #[.int .u64 0, .bool false, .bool false, .bool false, .bool false, .int .u8 0] T)).drew w') (v0 v1 v2 v3 v4 v5 : Value) :
    Has ((((((w'.setCell ⟨W.heap.size, 0, none⟩ v0).setCell ⟨W.heap.size, 1, none⟩ v1).setCell ⟨W.heap.size, 2, none⟩ v2).setCell ⟨W.heap.size, 3, none⟩ v3).setCell ⟨W.heap.size, 4, none⟩ v4).setCell ⟨W.heap.size, 5, none⟩ v5) W.heap.size #[v0, v1, v2, v3, v4, v5] T := by
  have H := (((((( hasd h).set 0 v0).set 1 v1).set 2 v2).set 3 v3).set 4 v4).set 5 v5
  simp only [List.setIfInBounds_toArray, List.set_cons_succ, List.set_cons_zero] at H
  exact H
theorem fr_run (x i : Nat) (hi : i < 8) : IntKind.u64.wrap (((tab x : Nat) : Int) - IntKind.u64.wrap (4096 * IntKind.u64.wrap ((i : Nat) : Int))) = ((frN x i : Nat) : Int) := by
  have h := tab_lt x
  have e1 : IntKind.u64.wrap ((i : Nat) : Int) = i := by rw [IntKind.wrap_u64]; omega
  have e2 : IntKind.u64.wrap (4096 * (i : Int)) = 4096 * (i : Int) := by rw [IntKind.wrap_u64]; omega
  rw [e1, e2, IntKind.wrap_u64]
  unfold frN; omega
theorem at_run (f k : Nat) : IntKind.u64.wrap (((f : Nat) : Int) + 4096 * ((k : Nat) : Int)) = (((f + 4096 * k) % 18446744073709551616 : Nat) : Int) := by
  rw [IntKind.wrap_u64]
  omega
structure RInv (w : World) (cs : Array Value) (b0 b1 bb f : Nat) (a b c d : Bool) (t : Nat → Bool) (k : Nat) (wr : World) : Prop where
  line : Has wr bb (lnC f a b c d (gm t k)) 65
  seen : Has wr b0 cs 59
  out : Has wr b1 zLn 65
  grows : Grows w wr
theorem RInv.to {w : World} {cs : Array Value} {b0 b1 bb f : Nat} {a b c d : Bool} {t : Nat → Bool} {k : Nat} {wr wr' : World} (h : RInv w cs b0 b1 bb f a b c d t k wr) (g : Grows wr wr') : RInv w cs b0 b1 bb f a b c d t k wr' :=
  ⟨h.line.grows g, h.seen.grows g, h.out.grows g, Grows.trans' h.grows g⟩
theorem RInv.skip {w : World} {cs : Array Value} {b0 b1 bb f : Nat} {a b c d : Bool} {t : Nat → Bool} {k : Nat} {wr : World} (h : RInv w cs b0 b1 bb f a b c d t k wr) (ht : t k = false) : RInv w cs b0 b1 bb f a b c d t (k + 1) wr := by
  obtain ⟨h1, h2, h3, h4⟩ := h
  refine ⟨?_, h2, h3, h4⟩
  show Has wr bb (lnC f a b c d (if t k = true then gm t k ||| 2 ^ k else gm t k)) _
  rw [if_neg (by rw [ht]; decide)]
  exact h1
theorem RInv.put {w : World} {cs : Array Value} {b0 b1 bb f : Nat} {a b c d : Bool} {t : Nat → Bool} {k : Nat} {wr : World} (h : RInv w cs b0 b1 bb f a b c d t k wr) (ht : t k = true) (n0 : b0 ≠ bb) (n1 : b1 ≠ bb) (hle : w.heap.size ≤ bb) {m : Int} (hm : m = ((gm t k ||| 2 ^ k : Nat) : Int)) :
    RInv w cs b0 b1 bb f a b c d t (k + 1) (wr.setCell ⟨bb, 5, none⟩ (.int .u8 m)) := by
  obtain ⟨h1, h2, h3, h4⟩ := h
  subst hm
  refine ⟨?_, h2.far n0 _ _, h3.far n1 _ _, Below.setCell h4 hle _⟩
  show Has _ bb (lnC f a b c d (if t k = true then gm t k ||| 2 ^ k else gm t k)) _
  rw [if_pos ht]
  exact h1.set 5 _
theorem u8_or {a b : Nat} (ha : a < 256) (hb : b < 256) : bits .or .u8 (a : Int) (b : Int) = ((a ||| b : Nat) : Int) := by
  have hx : a ||| b < 2 ^ 8 := Nat.or_lt_two_pow (by omega) (by omega)
  have h1 : (BitVec.ofInt 8 (a : Int)).toNat = a := by
    rw [BitVec.ofInt_natCast, BitVec.toNat_ofNat]; exact Nat.mod_eq_of_lt (by omega)
  have h2 : (BitVec.ofInt 8 (b : Int)).toNat = b := by
    rw [BitVec.ofInt_natCast, BitVec.toNat_ofNat]; exact Nat.mod_eq_of_lt (by omega)
  show IntKind.u8.wrap ((BitVec.ofInt 8 (a : Int) ||| BitVec.ofInt 8 (b : Int)).toNat : Int) = _
  rw [BitVec.toNat_or, h1, h2, IntKind.wrap_u8]
  omega
theorem idx8 (ws : Nat → Nat) (k : Nat) (h : k < 8) (w : World) : (Instr.index 55 (.agg #[.int .u64 (ws 0), .int .u64 (ws 1), .int .u64 (ws 2), .int .u64 (ws 3), .int .u64 (ws 4), .int .u64 (ws 5), .int .u64 (ws 6), .int .u64 (ws 7)]) (.int .i64 k)).run Try.prog w = .ok (.int .u64 (ws k)) w := by
  have h8 : k = 0 ∨ k = 1 ∨ k = 2 ∨ k = 3 ∨ k = 4 ∨ k = 5 ∨ k = 6 ∨ k = 7 := by omega
  rcases h8 with rfl | rfl | rfl | rfl | rfl | rfl | rfl | rfl <;> (show _ = _; kernel_rfl)
theorem shl_run (k : Nat) (h : k < 8) : IntKind.u8.wrap (2 ^ k : Int) = ((2 ^ k : Nat) : Int) := by
  have h8 : k = 0 ∨ k = 1 ∨ k = 2 ∨ k = 3 ∨ k = 4 ∨ k = 5 ∨ k = 6 ∨ k = 7 := by omega
  rcases h8 with rfl | rfl | rfl | rfl | rfl | rfl | rfl | rfl <;> decide
theorem or_run (f : Nat → Bool) (k : Nat) (h : k < 8) : bits .or .u8 ((gm f k : Nat) : Int) ((2 ^ k : Nat) : Int) = ((gm f k ||| 2 ^ k : Nat) : Int) := by
  have hp : 2 ^ k < 2 ^ 8 := Nat.pow_lt_pow_right (by decide : 1 < 2) h
  exact u8_or (Nat.lt_trans (gm_lt f k) hp) hp
end Go.Proofs.Ytbifpmaofkgkfaa
