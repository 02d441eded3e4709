/- Layer 12: plain facts of the pages that a run has. -/
import Derived.Test.YtbifpmaofkgkfaaMeetsPlain
namespace Go.Proofs.Ytbifpmaofkgkfaa
open Go.RowKit
theorem mayB_0 {x : Nat} {t : Int} {n : Bool} (h : mayB x t n = true) : x.testBit 0 = true ∧ resB x 1 t n = false := by
  unfold mayB at h
  rw [Bool.and_eq_true, Bool.not_eq_true'] at h
  exact h
theorem frames_line (ws : Nat → Nat) (p : Nat) (a b c : Bool) (t : Int) (n : Bool) (hp : p < 8) (hm : mayB (ws p) t n = true) : runN ws (p : Int) a b c t n = runL ws p a b c t n := by
  rw [runN_in _ _ _ _ _ _ _ hp, hm, if_pos rfl]
theorem frames_own (ws : Nat → Nat) (p : Nat) (a b c : Bool) (t : Int) (n : Bool) (hp : p < 8) : hasB (runL ws p a b c t n).m (p : Int) = true := by
  rw [hasB_m _ _ hp]
  show (gm (togB ws p t n) 8).testBit p = _
  rw [gm_bit, decide_eq_true hp]
  unfold togB
  rw [decide_eq_true rfl]; rfl
theorem frames_has (ws : Nat → Nat) (p k : Nat) (a b c : Bool) (t : Int) (n : Bool) (hp : p < 8) (hk : k < 8) (hm : mayB (ws p) t n = true) (h : hasB (runL ws p a b c t n).m (k : Int) = true) :
    hasF (runL ws p a b c t n).f (runL ws p a b c t n).m (k : Int) = tab (ws k) ∧ (ws k).testBit 0 = true ∧ (a && (ws k).testBit 1) = (runL ws p a b c t n).a ∧ (b && (ws k).testBit 2) = (runL ws p a b c t n).b ∧ (c && !(ws k).testBit 63) = (runL ws p a b c t n).c ∧ (ws k).testBit 6 = (runL ws p a b c t n).d ∧ (k = p ∨ (k ≠ p ∧ (ws k).testBit 5 = true)) := by
  have hF : hasF (runL ws p a b c t n).f (runL ws p a b c t n).m (k : Int) = (frN (ws p) p + 4096 * k) % 18446744073709551616 := by
    unfold hasF
    rw [if_pos h, Int.toNat_natCast]; rfl
  rw [hF]
  rw [hasB_m _ _ hk] at h
  have h2 : togB ws p t n k = true := by
    have : (gm (togB ws p t n) 8).testBit k = true := h
    rw [gm_bit, decide_eq_true hk] at this
    simpa using this
  by_cases hkp : k = p
  · subst hkp
    refine ⟨?_, (mayB_0 hm).1, rfl, rfl, rfl, rfl, Or.inl rfl⟩
    have := tab_lt (ws k)
    unfold frN; omega
  · unfold togB usedB at h2
    rw [decide_eq_false hkp, Bool.false_or, Bool.and_eq_true, Bool.and_eq_true, Bool.and_eq_true, decide_eq_true_eq] at h2
    obtain ⟨⟨hmk, hak, hal⟩, htab⟩ := h2
    obtain ⟨e1, e2, e6, e63⟩ := (alike_iff _ _).1 hal
    refine ⟨htab.symm, (mayB_0 hmk).1, ?_, ?_, ?_, e6.symm, Or.inr ⟨hkp, hak⟩⟩
    · show _ = (a && (ws p).testBit 1); rw [e1]
    · show _ = (b && (ws p).testBit 2); rw [e2]
    · show _ = (c && !(ws p).testBit 63); rw [e63]
theorem bit0_run (x : Nat) : (((x : Nat) : Int) % 2 == 0) = !x.testBit 0 := by
  rw [Nat.testBit_eq_decide_div_mod_eq, Bool.eq_iff_iff]
  simp
  omega
theorem bit6_run (x : Nat) (hx : x < 18446744073709551616) : ((IntKind.u64.wrap (((x : Nat) : Int) / 64)).tmod 2 == 1) = x.testBit 6 := by
  have e : IntKind.u64.wrap (((x : Nat) : Int) / 64) = ((x : Nat) : Int) / 64 := by rw [IntKind.wrap_u64]; omega
  rw [e, Int.tmod_eq_emod_of_nonneg (by omega), Nat.testBit_eq_decide_div_mod_eq, Bool.eq_iff_iff]
  simp
  omega
theorem bit6_q (x : Nat) : (((x : Nat) : Int) / 64 % 2 == 1) = x.testBit 6 := by
  rw [Nat.testBit_eq_decide_div_mod_eq, Bool.eq_iff_iff]
  simp
  omega
theorem bit5_q (x : Nat) : (((x : Nat) : Int) / 32 % 2 == 0) = !x.testBit 5 := by
  rw [Nat.testBit_eq_decide_div_mod_eq, Bool.eq_iff_iff]
  simp
  omega
end Go.Proofs.Ytbifpmaofkgkfaa
