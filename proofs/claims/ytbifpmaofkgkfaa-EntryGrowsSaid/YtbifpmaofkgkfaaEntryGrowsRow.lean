/- EntryGrows: whatever the input, the call returns true, and each argument reads behind it as it read before. No condition. -/
import Derived.Test.YtbifpmaofkgkfaaFrame
import Derived.Test.YtbifpmaofkgkfaaLaw05d
namespace Go.Proofs.Ytbifpmaofkgkfaa
open Go.ChangeShapes Go.WideShapes Go.ChangeAt Go.RowKit
set_option maxRecDepth 100000 in
theorem liftedEntryGrows (os : Os) (started : os.Started) (H : Type) (enc : TypeId × Value → H) :
    ReturnsInHanded {} Try.checked os 12 .any (Rows.entryGrowsSpec.pre6 enc Try.prog Try.f12 Rows.entryGrowsRow.domain false) (Rows.entryGrowsSpec.post enc Try.prog Try.f12 false true false false) := by
  refine returnsInHanded_of_change (C := Try.checked) own started (by kernel_rfl) Try.func12
    (ChangeSpec.witness6 (enc := enc) (C := Try.checked) false ⟨#[], #[.int .u64 0, .agg #[.bool false, .bool false, .bool false, .bool false, .bool false, .bool false, .bool false, .int .u64 0], .agg #[.int .i64 0, .int .i64 0, .bool false]], []⟩ 8 (by kernel_rfl) (by kernel_rfl) (by kernel_rfl) (by kernel_rfl)) ?_
  intro W base args ds gs before hval0 hW hcnd _
  have hval : ∀ (j : Nat) t v, Try.f12.params[j]? = some t → args[j]? = some v → Value.okWide Try.prog W .any base t v := hval0
  have hW' := hW
  obtain ⟨p, q, hA, hV, rfl, hfz, hnd⟩ := hW
  rw [Try.params12] at hA hval
  obtain ⟨v0, vs0, d0, ds0, p0, q0, hargs, rfl, rfl, h0, r0⟩ := trodAll_cons hA
  obtain ⟨v1, vs1, d1, ds1, p1, q1, rfl, rfl, rfl, h1, r1⟩ := trodAll_cons r0
  obtain ⟨v2, vs2, d2, ds2, p2, q2, rfl, rfl, rfl, h2, r2⟩ := trodAll_cons r1
  obtain ⟨rfl, rfl, rfl⟩ := trodAll_nil r2
  obtain rfl : args = #[v0, v1, v2] := by cases args; simp_all
  obtain ⟨rfl, rfl⟩ := trodVars_none hV
  clear hval0
  obtain ⟨x0, rfl, bx0⟩ := cell_u64 Try.underlying22 (open_scalar Try.underlying22 rfl (hval 0 22 v0 rfl rfl))
  obtain ⟨cs1, rfl, k1_0⟩ := open_flat [4, 4, 4, 4, 4, 4, 4, 22] Try.underlying50 rfl (by kernel_rfl) (by kernel_rfl) (hval 1 50 v1 rfl rfl)
  obtain ⟨cx1, cs1_0, rfl, qx1, k1_1⟩ := k1_0.cons
  obtain ⟨x1, rfl⟩ := cell_bool Try.underlying4 qx1
  obtain ⟨cx2, cs1_1, rfl, qx2, k1_2⟩ := k1_1.cons
  obtain ⟨x2, rfl⟩ := cell_bool Try.underlying4 qx2
  obtain ⟨cx3, cs1_2, rfl, qx3, k1_3⟩ := k1_2.cons
  obtain ⟨x3, rfl⟩ := cell_bool Try.underlying4 qx3
  obtain ⟨cx4, cs1_3, rfl, qx4, k1_4⟩ := k1_3.cons
  obtain ⟨x4, rfl⟩ := cell_bool Try.underlying4 qx4
  obtain ⟨cx5, cs1_4, rfl, qx5, k1_5⟩ := k1_4.cons
  obtain ⟨x5, rfl⟩ := cell_bool Try.underlying4 qx5
  obtain ⟨cx6, cs1_5, rfl, qx6, k1_6⟩ := k1_5.cons
  obtain ⟨x6, rfl⟩ := cell_bool Try.underlying4 qx6
  obtain ⟨cx7, cs1_6, rfl, qx7, k1_7⟩ := k1_6.cons
  obtain ⟨x7, rfl⟩ := cell_bool Try.underlying4 qx7
  obtain ⟨cx8, cs1_7, rfl, qx8, k1_8⟩ := k1_7.cons
  obtain ⟨x8, rfl, bx8⟩ := cell_u64 Try.underlying22 qx8
  obtain rfl := k1_8.nil
  obtain ⟨cs2, rfl, k2_0⟩ := open_flat [3, 3, 4] Try.underlying37 rfl (by kernel_rfl) (by kernel_rfl) (hval 2 37 v2 rfl rfl)
  obtain ⟨cx9, cs2_0, rfl, qx9, k2_1⟩ := k2_0.cons
  obtain ⟨x9, rfl, lx9, ux9⟩ := cell_i64 Try.underlying3 qx9
  obtain ⟨cx10, cs2_1, rfl, qx10, k2_2⟩ := k2_1.cons
  obtain ⟨x10, rfl, lx10, ux10⟩ := cell_i64 Try.underlying3 qx10
  obtain ⟨cx11, cs2_2, rfl, qx11, k2_3⟩ := k2_2.cons
  obtain ⟨x11, rfl⟩ := cell_bool Try.underlying4 qx11
  obtain rfl := k2_3.nil
  refine (entryGrows_ x0 x1 x2 x3 x4 x5 x6 x7 x8 x9 x10 x11 W bx0 bx8).mono fun e W' ⟨he, hg⟩ => ?_
  subst he
  exact ⟨_, rfl, post_law hW' rfl (by kernel_rfl) (by rw [Try.params12]; intro t ht; simp at ht; rcases ht with rfl | rfl | rfl <;> exact ⟨by kernel_rfl, of_decide_eq_true (by kernel_rfl)⟩) rfl hg⟩
theorem entryGrows_holds : Rows.EntryGrowsSaid :=
  OpenClaim.holds_of_wide 12 Try.f12 rfl rfl rfl rfl rfl rfl rfl ⟨rfl, rfl, rfl, rfl, rfl⟩ rfl rfl rfl rfl rfl (by kernel_rfl) Try.func12 (by kernel_rfl)
    (of_decide_eq_true (by kernel_rfl)) (by unfold Func.isWrapper; first | (rw [if_pos (by decide +kernel)]; kernel_rfl) | (rw [if_neg (by decide +kernel)]; exact ⟨rfl, rfl⟩))
    (fun os started H enc _ => liftedEntryGrows os started H enc)
#print axioms entryGrows_holds
end Go.Proofs.Ytbifpmaofkgkfaa
