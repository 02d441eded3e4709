/- The row's step of a law, once for all: the arguments read as they did, the result is true, nothing that was there has changed. -/
import Derived.Test.YtbifpmaofkgkfaaRows
import Derived.Test.YtbifpmaofkgkfaaBase
import Derived.ProofKit
import Derived.OpenShut
import Derived.Carry
namespace Go.Proofs.Ytbifpmaofkgkfaa
open Go.ChangeShapes Go.WideShapes Go.ChangeAt Go.RowKit
theorem laidOut : laidOutB Try.prog = true := by kernel_rfl
theorem own : ownKnob Try.prog.godebug = none := by kernel_rfl
/-- arguments, one by one -/
theorem trodAll_stays {H : Type} {enc : TypeId × Value → H} {W W' : World} (hb : Below W.heap.size W W') : ∀ {ts : List TypeId} {vs : List Value} {ds : List (DataW H)} {ps : List MemPlace},
    (∀ t ∈ ts, Try.prog.readableRec t = true ∧ t < Try.prog.types.size) → DataW.TrodAll enc Try.prog W 0 (fun _ => true) true ts vs ds ps → (∀ x ∈ ps, x.block < W.heap.size) →
    DataW.TrodAll enc Try.prog W' 0 (fun b => decide (b < W.heap.size)) true ts vs ds ps
  | [], vs, ds, ps, _, h, _ => by
    cases vs with
    | nil => cases ds with
      | nil => exact h
      | cons => exact h
    | cons => exact h
  | t :: ts, [], ds, ps, _, h, _ => h
  | t :: ts, v :: vs, [], ps, _, h, _ => h
  | t :: ts, v :: vs, d :: ds, ps, hr, h, hlt => by
    obtain ⟨p, q, h1, h2, rfl⟩ := h
    obtain ⟨hr1, hr2⟩ := hr t (List.mem_cons_self ..)
    exact ⟨p, q, Below.trod laidOut hr1 hr2 h1 hb (fun x hx => hlt x (List.mem_append.2 (.inl hx))), trodAll_stays hb (fun t ht => hr t (List.mem_cons_of_mem _ ht)) h2 (fun x hx => hlt x (List.mem_append.2 (.inr hx))), rfl⟩
theorem post_law {H : Type} {enc : TypeId × Value → H} {f : Func} {s : ChangeSpec} {apart : Bool} {W W' : World} {args : Array Value} {ds : List (DataW H)} {before : List MemPlace}
    (hW : DataW.Whole enc Try.prog f.params.toList s.vars apart W args.toList ds [] before) (hv : s.vars = []) (hr : f.resultTypes = #[4])
    (hread : ∀ t ∈ f.params.toList, Try.prog.readableRec t = true ∧ t < Try.prog.types.size)
    (hfn : s.fn H (ds ++ []) = { results := [.lit (.bool true)], args := ds }) (hb : Below W.heap.size W W') :
    s.post enc Try.prog f apart true false false W args (.bool true) W' := by
  have hlt : ∀ x ∈ before, x.block < W.heap.size := fun x hx => by simpa using hW.lt x hx
  have hW2 := hW
  obtain ⟨p, q, hA, hV, rfl, hz, hn⟩ := hW
  rw [hv] at hV
  obtain ⟨-, rfl⟩ := trodVars_none hV
  rw [List.append_nil] at hlt
  refine ⟨ds, [], p ++ [], [], p, [], hW2, ?_, ?_, ?_, hb.frame _, fun h => by cases h⟩
  · rw [hfn, hr]
    exact trodAll_cons_mk (shut_bool Try.underlying4 _) trodAll_mk0
  · rw [hfn]
    exact trodAll_stays hb hread hA hlt
  · rw [hfn, hv]
    rfl
/-! ### Arguments opened: cell by cell -/
section
variable {P : Program} {w : World} {r : Reach} {b : Nat}
def OkCells (P : Program) (w : World) (r : Reach) (b : Nat) : List TypeId → List Value → Prop
  | [], [] => True
  | t :: ts, c :: cs => Cell.okWide P w r b t c ∧ OkCells P w r b ts cs
  | _, _ => False
theorem okCells_of : ∀ (ts : List TypeId) (cs : List Value), cs.length = ts.length → (∀ (i : Nat) (c : Value), cs[i]? = some c → ∃ u, ts[i]? = some u ∧ Cell.okWide P w r b u c) → OkCells P w r b ts cs
  | [], [], _, _ => trivial
  | [], c :: cs, h, _ => by simp at h
  | t :: ts, [], h, _ => by simp at h
  | t :: ts, c :: cs, h, hc => by
    obtain ⟨u, hu, ho⟩ := hc 0 c rfl
    simp at hu
    subst hu
    exact ⟨ho, okCells_of ts cs (by simpa using h) fun i c' hi => hc (i + 1) c' (by simpa using hi)⟩
theorem OkCells.cons {t : TypeId} {ts : List TypeId} {cs : List Value} (h : OkCells P w r b (t :: ts) cs) : ∃ c cs', cs = c :: cs' ∧ Cell.okWide P w r b t c ∧ OkCells P w r b ts cs' := by
  cases cs with
  | nil => exact h.elim
  | cons c cs => exact ⟨c, cs, rfl, h.1, h.2⟩
theorem OkCells.nil {cs : List Value} (h : OkCells P w r b [] cs) : cs = [] := by
  cases cs with
  | nil => rfl
  | cons c cs => exact h.elim
theorem open_flat {t : TypeId} {v : Value} {d : TypeDesc} (ts : List TypeId) (hd : P.underlying t = some d) (hk : (match d with | .struct _ => true | .array _ _ => true | _ => false) = true)
    (hts : P.cellTypes P.depth t = some ts) (hsz : P.cellsOf t = ts.length) (h : Value.okWide P w r b t v) : ∃ cs : List Value, v = .agg cs.toArray ∧ OkCells P w r b ts cs := by
  have h' : ∃ cs, v = .agg cs ∧ cs.size = P.cellsOf t ∧ Row.okWide P w r b t cs := by
    unfold Value.okWide at h
    rw [hd] at h
    cases d <;> first | exact h | (simp at hk)
  obtain ⟨cs, rfl, hs, ts', hts', _, hall⟩ := h'
  rw [hts] at hts'
  obtain rfl := Option.some.inj hts'
  refine ⟨cs.toList, by simp, okCells_of ts cs.toList (by simpa using hs.trans hsz) fun i c hi => ?_⟩
  obtain ⟨u, hu, ho⟩ := hall i c (by simpa using hi)
  have hi' : i < ts.length := by
    have := (List.getElem?_eq_some_iff.1 hi).1
    simp at this
    omega
  rw [Nat.mod_eq_of_lt hi'] at hu
  exact ⟨u, hu, ho⟩
theorem open_scalar {t : TypeId} {v : Value} {d : TypeDesc} (hd : P.underlying t = some d) (hk : (match d with | .int _ => true | .bool => true | _ => false) = true) (h : Value.okWide P w r b t v) : Cell.okWide P w r b t v := by
  unfold Value.okWide at h
  rw [hd] at h
  cases d <;> first | exact h | (simp at hk)
theorem cell_int {t : TypeId} {k : IntKind} {v : Value} (hd : P.underlying t = some (.int k)) (h : Cell.okWide P w r b t v) : ∃ n, v = .int k n ∧ k.has n := by
  unfold Cell.okWide at h
  rw [hd] at h
  cases v <;> simp [Cell.ok, hd] at h
  obtain ⟨rfl, h⟩ := h
  exact ⟨_, rfl, h⟩
theorem cell_bool {t : TypeId} {v : Value} (hd : P.underlying t = some .bool) (h : Cell.okWide P w r b t v) : ∃ x, v = .bool x := by
  unfold Cell.okWide at h
  rw [hd] at h
  cases v <;> simp [Cell.ok, hd] at h
  exact ⟨_, rfl⟩
theorem cell_u64 {t : TypeId} {v : Value} (hd : P.underlying t = some (.int .u64)) (h : Cell.okWide P w r b t v) : ∃ n : Nat, v = .int .u64 n ∧ n < 18446744073709551616 := by
  obtain ⟨n, rfl, hn⟩ := cell_int hd h
  simp [IntKind.has, IntKind.min, IntKind.max, IntKind.signed, IntKind.bits] at hn
  obtain ⟨m, rfl⟩ := Int.eq_ofNat_of_zero_le hn.1
  exact ⟨m, rfl, by omega⟩
theorem cell_u8 {t : TypeId} {v : Value} (hd : P.underlying t = some (.int .u8)) (h : Cell.okWide P w r b t v) : ∃ n : Nat, v = .int .u8 n ∧ n < 256 := by
  obtain ⟨n, rfl, hn⟩ := cell_int hd h
  simp [IntKind.has, IntKind.min, IntKind.max, IntKind.signed, IntKind.bits] at hn
  obtain ⟨m, rfl⟩ := Int.eq_ofNat_of_zero_le hn.1
  exact ⟨m, rfl, by omega⟩
theorem cell_u16 {t : TypeId} {v : Value} (hd : P.underlying t = some (.int .u16)) (h : Cell.okWide P w r b t v) : ∃ n : Nat, v = .int .u16 n ∧ n < 65536 := by
  obtain ⟨n, rfl, hn⟩ := cell_int hd h
  simp [IntKind.has, IntKind.min, IntKind.max, IntKind.signed, IntKind.bits] at hn
  obtain ⟨m, rfl⟩ := Int.eq_ofNat_of_zero_le hn.1
  exact ⟨m, rfl, by omega⟩
theorem cell_u32 {t : TypeId} {v : Value} (hd : P.underlying t = some (.int .u32)) (h : Cell.okWide P w r b t v) : ∃ n : Nat, v = .int .u32 n ∧ n < 4294967296 := by
  obtain ⟨n, rfl, hn⟩ := cell_int hd h
  simp [IntKind.has, IntKind.min, IntKind.max, IntKind.signed, IntKind.bits] at hn
  obtain ⟨m, rfl⟩ := Int.eq_ofNat_of_zero_le hn.1
  exact ⟨m, rfl, by omega⟩
theorem cell_i64 {t : TypeId} {v : Value} (hd : P.underlying t = some (.int .i64)) (h : Cell.okWide P w r b t v) : ∃ n : Int, v = .int .i64 n ∧ -9223372036854775808 ≤ n ∧ n ≤ 9223372036854775807 := by
  obtain ⟨n, rfl, hn⟩ := cell_int hd h
  simp [IntKind.has, IntKind.min, IntKind.max, IntKind.signed, IntKind.bits] at hn
  exact ⟨n, rfl, by omega, by omega⟩
end
end Go.Proofs.Ytbifpmaofkgkfaa
