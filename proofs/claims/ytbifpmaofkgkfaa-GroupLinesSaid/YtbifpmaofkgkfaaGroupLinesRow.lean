/- GroupLines: whatever the input, the call returns true, and each argument reads behind it as it read before. No condition. -/
import Derived.Test.YtbifpmaofkgkfaaFrame
import Derived.Test.YtbifpmaofkgkfaaLaw12c
namespace Go.Proofs.Ytbifpmaofkgkfaa
open Go.ChangeShapes Go.WideShapes Go.ChangeAt Go.RowKit
set_option maxRecDepth 100000 in
theorem liftedGroupLines (os : Os) (started : os.Started) (H : Type) (enc : TypeId × Value → H) :
    ReturnsInHanded {} Try.checked os 18 .any (Rows.groupLinesSpec.pre6 enc Try.prog Try.f18 Rows.groupLinesRow.domain false) (Rows.groupLinesSpec.post enc Try.prog Try.f18 false true false false) := by
  refine returnsInHanded_of_change (C := Try.checked) own started (by kernel_rfl) Try.func18
    (ChangeSpec.witness6 (enc := enc) (C := Try.checked) false ⟨#[], #[.agg #[.int .u64 0, .bool false, .bool false, .bool false, .bool false, .int .u8 0], .int .i64 0, .int .u64 0], []⟩ 8 (by kernel_rfl) (by kernel_rfl) (by kernel_rfl) (by kernel_rfl)) ?_
  intro W base args ds gs before hval0 hW hcnd _
  have hval : ∀ (j : Nat) t v, Try.f18.params[j]? = some t → args[j]? = some v → Value.okWide Try.prog W .any base t v := hval0
  have hW' := hW
  obtain ⟨p, q, hA, hV, rfl, hfz, hnd⟩ := hW
  rw [Try.params18] at hA hval
  obtain ⟨v0, vs0, d0, ds0, p0, q0, hargs, rfl, rfl, h0, r0⟩ := trodAll_cons hA
  obtain ⟨v1, vs1, d1, ds1, p1, q1, rfl, rfl, rfl, h1, r1⟩ := trodAll_cons r0
  obtain ⟨v2, vs2, d2, ds2, p2, q2, rfl, rfl, rfl, h2, r2⟩ := trodAll_cons r1
  obtain ⟨rfl, rfl, rfl⟩ := trodAll_nil r2
  obtain rfl : args = #[v0, v1, v2] := by cases args; simp_all
  obtain ⟨rfl, rfl⟩ := trodVars_none hV
  clear hval0
  obtain ⟨cs0, rfl, k0_0⟩ := open_flat [22, 4, 4, 4, 4, 5] Try.underlying65 rfl (by kernel_rfl) (by kernel_rfl) (hval 0 65 v0 rfl rfl)
  obtain ⟨cx0, cs0_0, rfl, qx0, k0_1⟩ := k0_0.cons
  obtain ⟨x0, rfl, bx0⟩ := cell_u64 Try.underlying22 qx0
  obtain ⟨cx1, cs0_1, rfl, qx1, k0_2⟩ := k0_1.cons
  obtain ⟨x1, rfl⟩ := cell_bool Try.underlying4 qx1
  obtain ⟨cx2, cs0_2, rfl, qx2, k0_3⟩ := k0_2.cons
  obtain ⟨x2, rfl⟩ := cell_bool Try.underlying4 qx2
  obtain ⟨cx3, cs0_3, rfl, qx3, k0_4⟩ := k0_3.cons
  obtain ⟨x3, rfl⟩ := cell_bool Try.underlying4 qx3
  obtain ⟨cx4, cs0_4, rfl, qx4, k0_5⟩ := k0_4.cons
  obtain ⟨x4, rfl⟩ := cell_bool Try.underlying4 qx4
  obtain ⟨cx5, cs0_5, rfl, qx5, k0_6⟩ := k0_5.cons
  obtain ⟨x5, rfl, bx5⟩ := cell_u8 Try.underlying5 qx5
  obtain rfl := k0_6.nil
  obtain ⟨x6, rfl, lx6, ux6⟩ := cell_i64 Try.underlying3 (open_scalar Try.underlying3 rfl (hval 1 3 v1 rfl rfl))
  obtain ⟨x7, rfl, bx7⟩ := cell_u64 Try.underlying22 (open_scalar Try.underlying22 rfl (hval 2 22 v2 rfl rfl))
  refine (groupLines_ ⟨x0, x1, x2, x3, x4, x5⟩ x6 x7 W bx5 bx7).mono fun e W' ⟨he, hg⟩ => ?_
  subst he
  exact ⟨_, rfl, post_law hW' rfl (by kernel_rfl) (by rw [Try.params18]; intro t ht; simp at ht; rcases ht with rfl | rfl | rfl <;> exact ⟨by kernel_rfl, of_decide_eq_true (by kernel_rfl)⟩) rfl hg⟩
theorem groupLines_holds : Rows.GroupLinesSaid :=
  OpenClaim.holds_of_wide 18 Try.f18 rfl rfl rfl rfl rfl rfl rfl ⟨rfl, rfl, rfl, rfl, rfl⟩ rfl rfl rfl rfl rfl (by kernel_rfl) Try.func18 (by kernel_rfl)
    (of_decide_eq_true (by kernel_rfl)) (by unfold Func.isWrapper; first | (rw [if_pos (by decide +kernel)]; kernel_rfl) | (rw [if_neg (by decide +kernel)]; exact ⟨rfl, rfl⟩))
    (fun os started H enc _ => liftedGroupLines os started H enc)
#print axioms groupLines_holds
end Go.Proofs.Ytbifpmaofkgkfaa
