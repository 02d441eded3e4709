/- GroupSlots: whatever the input, the call returns true, and each argument reads behind it as it read before. No condition. -/
import Derived.Test.YtbifpmaofkgkfaaFrame
import Derived.Test.YtbifpmaofkgkfaaLaw12a
namespace Go.Proofs.Ytbifpmaofkgkfaa
open Go.ChangeShapes Go.WideShapes Go.ChangeAt Go.RowKit
set_option maxRecDepth 100000 in
theorem liftedGroupSlots (os : Os) (started : os.Started) (H : Type) (enc : TypeId × Value → H) :
    ReturnsInHanded {} Try.checked os 16 .any (Rows.groupSlotsSpec.pre6 enc Try.prog Try.f16 Rows.groupSlotsRow.domain false) (Rows.groupSlotsSpec.post enc Try.prog Try.f16 false true false false) := by
  refine returnsInHanded_of_change (C := Try.checked) own started (by kernel_rfl) Try.func16
    (ChangeSpec.witness6 (enc := enc) (C := Try.checked) false ⟨#[], #[.int .u32 0, .int .u8 0], []⟩ 8 (by kernel_rfl) (by kernel_rfl) (by kernel_rfl) (by kernel_rfl)) ?_
  intro W base args ds gs before hval0 hW hcnd _
  have hval : ∀ (j : Nat) t v, Try.f16.params[j]? = some t → args[j]? = some v → Value.okWide Try.prog W .any base t v := hval0
  have hW' := hW
  obtain ⟨p, q, hA, hV, rfl, hfz, hnd⟩ := hW
  rw [Try.params16] at hA hval
  obtain ⟨v0, vs0, d0, ds0, p0, q0, hargs, rfl, rfl, h0, r0⟩ := trodAll_cons hA
  obtain ⟨v1, vs1, d1, ds1, p1, q1, rfl, rfl, rfl, h1, r1⟩ := trodAll_cons r0
  obtain ⟨rfl, rfl, rfl⟩ := trodAll_nil r1
  obtain rfl : args = #[v0, v1] := by cases args; simp_all
  obtain ⟨rfl, rfl⟩ := trodVars_none hV
  clear hval0
  obtain ⟨x0, rfl, bx0⟩ := cell_u32 Try.underlying75 (open_scalar Try.underlying75 rfl (hval 0 75 v0 rfl rfl))
  obtain ⟨x1, rfl, bx1⟩ := cell_u8 Try.underlying5 (open_scalar Try.underlying5 rfl (hval 1 5 v1 rfl rfl))
  refine (groupSlots_ x0 x1 W bx0 bx1).mono fun e W' ⟨he, hg⟩ => ?_
  subst he
  exact ⟨_, rfl, post_law hW' rfl (by kernel_rfl) (by rw [Try.params16]; intro t ht; simp at ht; rcases ht with rfl | rfl <;> exact ⟨by kernel_rfl, of_decide_eq_true (by kernel_rfl)⟩) rfl hg⟩
theorem groupSlots_holds : Rows.GroupSlotsSaid :=
  OpenClaim.holds_of_wide 16 Try.f16 rfl rfl rfl rfl rfl rfl rfl ⟨rfl, rfl, rfl, rfl, rfl⟩ rfl rfl rfl rfl rfl (by kernel_rfl) Try.func16 (by kernel_rfl)
    (of_decide_eq_true (by kernel_rfl)) (by unfold Func.isWrapper; first | (rw [if_pos (by decide +kernel)]; kernel_rfl) | (rw [if_neg (by decide +kernel)]; exact ⟨rfl, rfl⟩))
    (fun os started H enc _ => liftedGroupSlots os started H enc)
#print axioms groupSlots_holds
end Go.Proofs.Ytbifpmaofkgkfaa
