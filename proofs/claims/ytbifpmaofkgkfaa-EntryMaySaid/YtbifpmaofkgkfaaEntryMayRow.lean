/- EntryMay: whatever the input, the call returns true, and each argument reads behind it as it read before. No condition. -/
import Derived.Test.YtbifpmaofkgkfaaFrame
import Derived.Test.YtbifpmaofkgkfaaLaw05
namespace Go.Proofs.Ytbifpmaofkgkfaa
open Go.ChangeShapes Go.WideShapes Go.ChangeAt Go.RowKit
set_option maxRecDepth 100000 in
theorem liftedEntryMay (os : Os) (started : os.Started) (H : Type) (enc : TypeId × Value → H) :
    ReturnsInHanded {} Try.checked os 7 .any (Rows.entryMaySpec.pre6 enc Try.prog Try.f7 Rows.entryMayRow.domain false) (Rows.entryMaySpec.post enc Try.prog Try.f7 false true false false) := by
  refine returnsInHanded_of_change (C := Try.checked) own started (by kernel_rfl) Try.func7
    (ChangeSpec.witness6 (enc := enc) (C := Try.checked) false ⟨#[], #[.int .u64 0, .int .u64 0, .agg #[.int .i64 0, .int .i64 0, .bool false]], []⟩ 8 (by kernel_rfl) (by kernel_rfl) (by kernel_rfl) (by kernel_rfl)) ?_
  intro W base args ds gs before hval0 hW hcnd _
  have hval : ∀ (j : Nat) t v, Try.f7.params[j]? = some t → args[j]? = some v → Value.okWide Try.prog W .any base t v := hval0
  have hW' := hW
  obtain ⟨p, q, hA, hV, rfl, hfz, hnd⟩ := hW
  rw [Try.params7] at hA hval
  obtain ⟨v0, vs0, d0, ds0, p0, q0, hargs, rfl, rfl, h0, r0⟩ := trodAll_cons hA
  obtain ⟨v1, vs1, d1, ds1, p1, q1, rfl, rfl, rfl, h1, r1⟩ := trodAll_cons r0
  obtain ⟨v2, vs2, d2, ds2, p2, q2, rfl, rfl, rfl, h2, r2⟩ := trodAll_cons r1
  obtain ⟨rfl, rfl, rfl⟩ := trodAll_nil r2
  obtain rfl : args = #[v0, v1, v2] := by cases args; simp_all
  obtain ⟨rfl, rfl⟩ := trodVars_none hV
  clear hval0
  obtain ⟨x0, rfl, bx0⟩ := cell_u64 Try.underlying22 (open_scalar Try.underlying22 rfl (hval 0 22 v0 rfl rfl))
  obtain ⟨x1, rfl, bx1⟩ := cell_u64 Try.underlying22 (open_scalar Try.underlying22 rfl (hval 1 22 v1 rfl rfl))
  obtain ⟨cs2, rfl, k2_0⟩ := open_flat [3, 3, 4] Try.underlying37 rfl (by kernel_rfl) (by kernel_rfl) (hval 2 37 v2 rfl rfl)
  obtain ⟨cx2, cs2_0, rfl, qx2, k2_1⟩ := k2_0.cons
  obtain ⟨x2, rfl, lx2, ux2⟩ := cell_i64 Try.underlying3 qx2
  obtain ⟨cx3, cs2_1, rfl, qx3, k2_2⟩ := k2_1.cons
  obtain ⟨x3, rfl, lx3, ux3⟩ := cell_i64 Try.underlying3 qx3
  obtain ⟨cx4, cs2_2, rfl, qx4, k2_3⟩ := k2_2.cons
  obtain ⟨x4, rfl⟩ := cell_bool Try.underlying4 qx4
  obtain rfl := k2_3.nil
  refine (entryMay_ x0 x1 x2 x3 x4 W bx0 bx1).mono fun e W' ⟨he, hg⟩ => ?_
  subst he
  exact ⟨_, rfl, post_law hW' rfl (by kernel_rfl) (by rw [Try.params7]; intro t ht; simp at ht; rcases ht with rfl | rfl | rfl <;> exact ⟨by kernel_rfl, of_decide_eq_true (by kernel_rfl)⟩) rfl hg⟩
theorem entryMay_holds : Rows.EntryMaySaid :=
  OpenClaim.holds_of_wide 7 Try.f7 rfl rfl rfl rfl rfl rfl rfl ⟨rfl, rfl, rfl, rfl, rfl⟩ rfl rfl rfl rfl rfl (by kernel_rfl) Try.func7 (by kernel_rfl)
    (of_decide_eq_true (by kernel_rfl)) (by unfold Func.isWrapper; first | (rw [if_pos (by decide +kernel)]; kernel_rfl) | (rw [if_neg (by decide +kernel)]; exact ⟨rfl, rfl⟩))
    (fun os started H enc _ => liftedEntryMay os started H enc)
#print axioms entryMay_holds
end Go.Proofs.Ytbifpmaofkgkfaa
