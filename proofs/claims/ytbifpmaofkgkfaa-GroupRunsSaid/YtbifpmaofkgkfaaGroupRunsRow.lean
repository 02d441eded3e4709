/- GroupRuns: whatever the input, the call returns true, and each argument reads behind it as it read before. No condition. -/
import Derived.Test.YtbifpmaofkgkfaaFrame
import Derived.Test.YtbifpmaofkgkfaaLaw12f
namespace Go.Proofs.Ytbifpmaofkgkfaa
open Go.ChangeShapes Go.WideShapes Go.ChangeAt Go.RowKit
set_option maxRecDepth 100000 in
theorem liftedGroupRuns (os : Os) (started : os.Started) (H : Type) (enc : TypeId × Value → H) :
    ReturnsInHanded {} Try.checked os 13 .any (Rows.groupRunsSpec.pre6 enc Try.prog Try.f13 Rows.groupRunsRow.domain false) (Rows.groupRunsSpec.post enc Try.prog Try.f13 false true false false) := by
  refine returnsInHanded_of_change (C := Try.checked) own started (by kernel_rfl) Try.func13
    (ChangeSpec.witness6 (enc := enc) (C := Try.checked) false ⟨#[], #[.agg #[.int .u64 0, .int .u64 0, .int .u64 0, .int .u64 0, .int .u64 0, .int .u64 0, .int .u64 0, .int .u64 0, .int .i64 0, .bool false, .bool false, .bool false, .int .i64 0, .bool false]], []⟩ 8 (by kernel_rfl) (by kernel_rfl) (by kernel_rfl) (by kernel_rfl)) ?_
  intro W base args ds gs before hval0 hW hcnd _
  have hval : ∀ (j : Nat) t v, Try.f13.params[j]? = some t → args[j]? = some v → Value.okWide Try.prog W .any base t v := hval0
  have hW' := hW
  obtain ⟨p, q, hA, hV, rfl, hfz, hnd⟩ := hW
  rw [Try.params13] at hA hval
  obtain ⟨v0, vs0, d0, ds0, p0, q0, hargs, rfl, rfl, h0, r0⟩ := trodAll_cons hA
  obtain ⟨rfl, rfl, rfl⟩ := trodAll_nil r0
  obtain rfl : args = #[v0] := by cases args; simp_all
  obtain ⟨rfl, rfl⟩ := trodVars_none hV
  clear hval0
  obtain ⟨cs0, rfl, k0_0⟩ := open_flat [22, 22, 22, 22, 22, 22, 22, 22, 3, 4, 4, 4, 3, 4] Try.underlying59 rfl (by kernel_rfl) (by kernel_rfl) (hval 0 59 v0 rfl rfl)
  obtain ⟨cx0, cs0_0, rfl, qx0, k0_1⟩ := k0_0.cons
  obtain ⟨x0, rfl, bx0⟩ := cell_u64 Try.underlying22 qx0
  obtain ⟨cx1, cs0_1, rfl, qx1, k0_2⟩ := k0_1.cons
  obtain ⟨x1, rfl, bx1⟩ := cell_u64 Try.underlying22 qx1
  obtain ⟨cx2, cs0_2, rfl, qx2, k0_3⟩ := k0_2.cons
  obtain ⟨x2, rfl, bx2⟩ := cell_u64 Try.underlying22 qx2
  obtain ⟨cx3, cs0_3, rfl, qx3, k0_4⟩ := k0_3.cons
  obtain ⟨x3, rfl, bx3⟩ := cell_u64 Try.underlying22 qx3
  obtain ⟨cx4, cs0_4, rfl, qx4, k0_5⟩ := k0_4.cons
  obtain ⟨x4, rfl, bx4⟩ := cell_u64 Try.underlying22 qx4
  obtain ⟨cx5, cs0_5, rfl, qx5, k0_6⟩ := k0_5.cons
  obtain ⟨x5, rfl, bx5⟩ := cell_u64 Try.underlying22 qx5
  obtain ⟨cx6, cs0_6, rfl, qx6, k0_7⟩ := k0_6.cons
  obtain ⟨x6, rfl, bx6⟩ := cell_u64 Try.underlying22 qx6
  obtain ⟨cx7, cs0_7, rfl, qx7, k0_8⟩ := k0_7.cons
  obtain ⟨x7, rfl, bx7⟩ := cell_u64 Try.underlying22 qx7
  obtain ⟨cx8, cs0_8, rfl, qx8, k0_9⟩ := k0_8.cons
  obtain ⟨x8, rfl, lx8, ux8⟩ := cell_i64 Try.underlying3 qx8
  obtain ⟨cx9, cs0_9, rfl, qx9, k0_10⟩ := k0_9.cons
  obtain ⟨x9, rfl⟩ := cell_bool Try.underlying4 qx9
  obtain ⟨cx10, cs0_10, rfl, qx10, k0_11⟩ := k0_10.cons
  obtain ⟨x10, rfl⟩ := cell_bool Try.underlying4 qx10
  obtain ⟨cx11, cs0_11, rfl, qx11, k0_12⟩ := k0_11.cons
  obtain ⟨x11, rfl⟩ := cell_bool Try.underlying4 qx11
  obtain ⟨cx12, cs0_12, rfl, qx12, k0_13⟩ := k0_12.cons
  obtain ⟨x12, rfl, lx12, ux12⟩ := cell_i64 Try.underlying3 qx12
  obtain ⟨cx13, cs0_13, rfl, qx13, k0_14⟩ := k0_13.cons
  obtain ⟨x13, rfl⟩ := cell_bool Try.underlying4 qx13
  obtain rfl := k0_14.nil
  refine (groupRuns_ (wsOf x0 x1 x2 x3 x4 x5 x6 x7) x8 x9 x10 x11 x12 x13 W (wsOf_lt bx0 bx1 bx2 bx3 bx4 bx5 bx6 bx7)).mono fun e W' ⟨he, hg⟩ => ?_
  subst he
  exact ⟨_, rfl, post_law hW' rfl (by kernel_rfl) (by rw [Try.params13]; intro t ht; simp at ht; rcases ht with rfl <;> exact ⟨by kernel_rfl, of_decide_eq_true (by kernel_rfl)⟩) rfl hg⟩
theorem groupRuns_holds : Rows.GroupRunsSaid :=
  OpenClaim.holds_of_wide 13 Try.f13 rfl rfl rfl rfl rfl rfl rfl ⟨rfl, rfl, rfl, rfl, rfl⟩ rfl rfl rfl rfl rfl (by kernel_rfl) Try.func13 (by kernel_rfl)
    (of_decide_eq_true (by kernel_rfl)) (by unfold Func.isWrapper; first | (rw [if_pos (by decide +kernel)]; kernel_rfl) | (rw [if_neg (by decide +kernel)]; exact ⟨rfl, rfl⟩))
    (fun os started H enc _ => liftedGroupRuns os started H enc)
#print axioms groupRuns_holds
end Go.Proofs.Ytbifpmaofkgkfaa
