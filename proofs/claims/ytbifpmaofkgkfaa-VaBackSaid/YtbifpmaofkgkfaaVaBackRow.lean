/- VaBack: whatever the input, the call returns true, and each argument reads behind it as it read before. No condition. -/
import Derived.Test.YtbifpmaofkgkfaaFrame
import Derived.Test.YtbifpmaofkgkfaaLaw03d
namespace Go.Proofs.Ytbifpmaofkgkfaa
open Go.ChangeShapes Go.WideShapes Go.ChangeAt Go.RowKit
set_option maxRecDepth 100000 in
theorem liftedVaBack (os : Os) (started : os.Started) (H : Type) (enc : TypeId × Value → H) :
    ReturnsInHanded {} Try.checked os 10 .any (Rows.vaBackSpec.pre6 enc Try.prog Try.f10 Rows.vaBackRow.domain false) (Rows.vaBackSpec.post enc Try.prog Try.f10 false true false false) := by
  refine returnsInHanded_of_change (C := Try.checked) own started (by kernel_rfl) Try.func10
    (ChangeSpec.witness6 (enc := enc) (C := Try.checked) false ⟨#[], #[.int .u64 0, .agg #[.int .u16 0, .int .u16 0, .int .u16 0, .int .u16 0]], []⟩ 8 (by kernel_rfl) (by kernel_rfl) (by kernel_rfl) (by kernel_rfl)) ?_
  intro W base args ds gs before hval0 hW hcnd _
  have hval : ∀ (j : Nat) t v, Try.f10.params[j]? = some t → args[j]? = some v → Value.okWide Try.prog W .any base t v := hval0
  have hW' := hW
  obtain ⟨p, q, hA, hV, rfl, hfz, hnd⟩ := hW
  rw [Try.params10] at hA hval
  obtain ⟨v0, vs0, d0, ds0, p0, q0, hargs, rfl, rfl, h0, r0⟩ := trodAll_cons hA
  obtain ⟨v1, vs1, d1, ds1, p1, q1, rfl, rfl, rfl, h1, r1⟩ := trodAll_cons r0
  obtain ⟨rfl, rfl, rfl⟩ := trodAll_nil r1
  obtain rfl : args = #[v0, v1] := by cases args; simp_all
  obtain ⟨rfl, rfl⟩ := trodVars_none hV
  clear hval0
  obtain ⟨x0, rfl, bx0⟩ := cell_u64 Try.underlying22 (open_scalar Try.underlying22 rfl (hval 0 22 v0 rfl rfl))
  obtain ⟨cs1, rfl, k1_0⟩ := open_flat [46, 46, 46, 46] Try.underlying47 rfl (by kernel_rfl) (by kernel_rfl) (hval 1 47 v1 rfl rfl)
  obtain ⟨cx1, cs1_0, rfl, qx1, k1_1⟩ := k1_0.cons
  obtain ⟨x1, rfl, bx1⟩ := cell_u16 Try.underlying46 qx1
  obtain ⟨cx2, cs1_1, rfl, qx2, k1_2⟩ := k1_1.cons
  obtain ⟨x2, rfl, bx2⟩ := cell_u16 Try.underlying46 qx2
  obtain ⟨cx3, cs1_2, rfl, qx3, k1_3⟩ := k1_2.cons
  obtain ⟨x3, rfl, bx3⟩ := cell_u16 Try.underlying46 qx3
  obtain ⟨cx4, cs1_3, rfl, qx4, k1_4⟩ := k1_3.cons
  obtain ⟨x4, rfl, bx4⟩ := cell_u16 Try.underlying46 qx4
  obtain rfl := k1_4.nil
  refine (vaBack_ x0 x1 x2 x3 x4 W bx0 bx1 bx2 bx3 bx4).mono fun e W' ⟨he, hg⟩ => ?_
  subst he
  exact ⟨_, rfl, post_law hW' rfl (by kernel_rfl) (by rw [Try.params10]; intro t ht; simp at ht; rcases ht with rfl | rfl <;> exact ⟨by kernel_rfl, of_decide_eq_true (by kernel_rfl)⟩) rfl hg⟩
theorem vaBack_holds : Rows.VaBackSaid :=
  OpenClaim.holds_of_wide 10 Try.f10 rfl rfl rfl rfl rfl rfl rfl ⟨rfl, rfl, rfl, rfl, rfl⟩ rfl rfl rfl rfl rfl (by kernel_rfl) Try.func10 (by kernel_rfl)
    (of_decide_eq_true (by kernel_rfl)) (by unfold Func.isWrapper; first | (rw [if_pos (by decide +kernel)]; kernel_rfl) | (rw [if_neg (by decide +kernel)]; exact ⟨rfl, rfl⟩))
    (fun os started H enc _ => liftedVaBack os started H enc)
#print axioms vaBack_holds
end Go.Proofs.Ytbifpmaofkgkfaa
