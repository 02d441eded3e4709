/- VaJoins: whatever the input, the call returns true, and each argument reads behind it as it read before. No condition. -/
import Derived.Test.YtbifpmaofkgkfaaFrame
import Derived.Test.YtbifpmaofkgkfaaLaw03
namespace Go.Proofs.Ytbifpmaofkgkfaa
open Go.ChangeShapes Go.WideShapes Go.ChangeAt Go.RowKit
set_option maxRecDepth 100000 in
theorem liftedVaJoins (os : Os) (started : os.Started) (H : Type) (enc : TypeId × Value → H) :
    ReturnsInHanded {} Try.checked os 9 .any (Rows.vaJoinsSpec.pre6 enc Try.prog Try.f9 Rows.vaJoinsRow.domain false) (Rows.vaJoinsSpec.post enc Try.prog Try.f9 false true false false) := by
  refine returnsInHanded_of_change (C := Try.checked) own started (by kernel_rfl) Try.func9
    (ChangeSpec.witness6 (enc := enc) (C := Try.checked) false ⟨#[], #[.agg #[.int .i64 0, .int .i64 0, .int .i64 0, .int .i64 0], .int .u64 0], []⟩ 8 (by kernel_rfl) (by kernel_rfl) (by kernel_rfl) (by kernel_rfl)) ?_
  intro W base args ds gs before hval0 hW hcnd _
  have hval : ∀ (j : Nat) t v, Try.f9.params[j]? = some t → args[j]? = some v → Value.okWide Try.prog W .any base t v := hval0
  have hW' := hW
  obtain ⟨p, q, hA, hV, rfl, hfz, hnd⟩ := hW
  rw [Try.params9] at hA hval
  obtain ⟨v0, vs0, d0, ds0, p0, q0, hargs, rfl, rfl, h0, r0⟩ := trodAll_cons hA
  obtain ⟨v1, vs1, d1, ds1, p1, q1, rfl, rfl, rfl, h1, r1⟩ := trodAll_cons r0
  obtain ⟨rfl, rfl, rfl⟩ := trodAll_nil r1
  obtain rfl : args = #[v0, v1] := by cases args; simp_all
  obtain ⟨rfl, rfl⟩ := trodVars_none hV
  clear hval0
  obtain ⟨cs0, rfl, k0_0⟩ := open_flat [3, 3, 3, 3] Try.underlying43 rfl (by kernel_rfl) (by kernel_rfl) (hval 0 43 v0 rfl rfl)
  obtain ⟨cx0, cs0_0, rfl, qx0, k0_1⟩ := k0_0.cons
  obtain ⟨x0, rfl, lx0, ux0⟩ := cell_i64 Try.underlying3 qx0
  obtain ⟨cx1, cs0_1, rfl, qx1, k0_2⟩ := k0_1.cons
  obtain ⟨x1, rfl, lx1, ux1⟩ := cell_i64 Try.underlying3 qx1
  obtain ⟨cx2, cs0_2, rfl, qx2, k0_3⟩ := k0_2.cons
  obtain ⟨x2, rfl, lx2, ux2⟩ := cell_i64 Try.underlying3 qx2
  obtain ⟨cx3, cs0_3, rfl, qx3, k0_4⟩ := k0_3.cons
  obtain ⟨x3, rfl, lx3, ux3⟩ := cell_i64 Try.underlying3 qx3
  obtain rfl := k0_4.nil
  obtain ⟨x4, rfl, bx4⟩ := cell_u64 Try.underlying22 (open_scalar Try.underlying22 rfl (hval 1 22 v1 rfl rfl))
  refine (vaJoins_ x0 x1 x2 x3 x4 W bx4).mono fun e W' ⟨he, hg⟩ => ?_
  subst he
  exact ⟨_, rfl, post_law hW' rfl (by kernel_rfl) (by rw [Try.params9]; intro t ht; simp at ht; rcases ht with rfl | rfl <;> exact ⟨by kernel_rfl, of_decide_eq_true (by kernel_rfl)⟩) rfl hg⟩
theorem vaJoins_holds : Rows.VaJoinsSaid :=
  OpenClaim.holds_of_wide 9 Try.f9 rfl rfl rfl rfl rfl rfl rfl ⟨rfl, rfl, rfl, rfl, rfl⟩ rfl rfl rfl rfl rfl (by kernel_rfl) Try.func9 (by kernel_rfl)
    (of_decide_eq_true (by kernel_rfl)) (by unfold Func.isWrapper; first | (rw [if_pos (by decide +kernel)]; kernel_rfl) | (rw [if_neg (by decide +kernel)]; exact ⟨rfl, rfl⟩))
    (fun os started H enc _ => liftedVaJoins os started H enc)
#print axioms vaJoins_holds
end Go.Proofs.Ytbifpmaofkgkfaa
