/- VaPages: whatever the input, the call returns true, and each argument reads behind it as it read before. No condition. -/
import Derived.Test.YtbifpmaofkgkfaaFrame
import Derived.Test.YtbifpmaofkgkfaaLaw03b
namespace Go.Proofs.Ytbifpmaofkgkfaa
open Go.ChangeShapes Go.WideShapes Go.ChangeAt Go.RowKit
set_option maxRecDepth 100000 in
theorem liftedVaPages (os : Os) (started : os.Started) (H : Type) (enc : TypeId × Value → H) :
    ReturnsInHanded {} Try.checked os 4 .any (Rows.vaPagesSpec.pre6 enc Try.prog Try.f4 Rows.vaPagesRow.domain false) (Rows.vaPagesSpec.post enc Try.prog Try.f4 false true false false) := by
  refine returnsInHanded_of_change (C := Try.checked) own started (by kernel_rfl) Try.func4
    (ChangeSpec.witness6 (enc := enc) (C := Try.checked) false ⟨#[], #[.int .u64 0, .int .u64 0, .int .u8 0], []⟩ 8 (by kernel_rfl) (by kernel_rfl) (by kernel_rfl) (by kernel_rfl)) ?_
  intro W base args ds gs before hval0 hW hcnd _
  have hval : ∀ (j : Nat) t v, Try.f4.params[j]? = some t → args[j]? = some v → Value.okWide Try.prog W .any base t v := hval0
  have hW' := hW
  obtain ⟨p, q, hA, hV, rfl, hfz, hnd⟩ := hW
  rw [Try.params4] at hA hval
  obtain ⟨v0, vs0, d0, ds0, p0, q0, hargs, rfl, rfl, h0, r0⟩ := trodAll_cons hA
  obtain ⟨v1, vs1, d1, ds1, p1, q1, rfl, rfl, rfl, h1, r1⟩ := trodAll_cons r0
  obtain ⟨v2, vs2, d2, ds2, p2, q2, rfl, rfl, rfl, h2, r2⟩ := trodAll_cons r1
  obtain ⟨rfl, rfl, rfl⟩ := trodAll_nil r2
  obtain rfl : args = #[v0, v1, v2] := by cases args; simp_all
  obtain ⟨rfl, rfl⟩ := trodVars_none hV
  clear hval0
  obtain ⟨x0, rfl, bx0⟩ := cell_u64 Try.underlying22 (open_scalar Try.underlying22 rfl (hval 0 22 v0 rfl rfl))
  obtain ⟨x1, rfl, bx1⟩ := cell_u64 Try.underlying22 (open_scalar Try.underlying22 rfl (hval 1 22 v1 rfl rfl))
  obtain ⟨x2, rfl, bx2⟩ := cell_u8 Try.underlying5 (open_scalar Try.underlying5 rfl (hval 2 5 v2 rfl rfl))
  refine (vaPages_ x0 x1 x2 W bx0 bx1 bx2).mono fun e W' ⟨he, hg⟩ => ?_
  subst he
  exact ⟨_, rfl, post_law hW' rfl (by kernel_rfl) (by rw [Try.params4]; intro t ht; simp at ht; rcases ht with rfl | rfl | rfl <;> exact ⟨by kernel_rfl, of_decide_eq_true (by kernel_rfl)⟩) rfl hg⟩
theorem vaPages_holds : Rows.VaPagesSaid :=
  OpenClaim.holds_of_wide 4 Try.f4 rfl rfl rfl rfl rfl rfl rfl ⟨rfl, rfl, rfl, rfl, rfl⟩ rfl rfl rfl rfl rfl (by kernel_rfl) Try.func4 (by kernel_rfl)
    (of_decide_eq_true (by kernel_rfl)) (by unfold Func.isWrapper; first | (rw [if_pos (by decide +kernel)]; kernel_rfl) | (rw [if_neg (by decide +kernel)]; exact ⟨rfl, rfl⟩))
    (fun os started H enc _ => liftedVaPages os started H enc)
#print axioms vaPages_holds
end Go.Proofs.Ytbifpmaofkgkfaa
