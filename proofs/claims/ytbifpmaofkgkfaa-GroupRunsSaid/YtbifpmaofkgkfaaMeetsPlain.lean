/- Layer 12: plain facts of a run: what a page in it says. -/
import Derived.Test.YtbifpmaofkgkfaaLessPlain
namespace Go.Proofs.Ytbifpmaofkgkfaa
open Go.RowKit
theorem alike_iff (x y : Nat) : alikeB x y = true ↔ (x.testBit 1 = y.testBit 1 ∧ x.testBit 2 = y.testBit 2 ∧ x.testBit 6 = y.testBit 6 ∧ x.testBit 63 = y.testBit 63) := by
  unfold alikeB
  rw [beq_iff_eq]
  have hb : ∀ j : Fin 64, (9223372036854775878 : Nat).testBit j.val = (decide (j.val = 1) || decide (j.val = 2) || decide (j.val = 6) || decide (j.val = 63)) := by decide
  have hc : ∀ j, 64 ≤ j → (9223372036854775878 : Nat).testBit j = false := fun j hj => testBit_64 (by decide) hj
  constructor
  · intro h
    have hj : ∀ j, ((x ^^^ y) &&& 9223372036854775878).testBit j = false := fun j => by rw [h, Nat.zero_testBit]
    have k1 := hj 1
    have k2 := hj 2
    have k6 := hj 6
    have k63 := hj 63
    rw [Nat.testBit_and, Nat.testBit_xor] at k1 k2 k6 k63
    rw [hb ⟨1, by omega⟩] at k1
    rw [hb ⟨2, by omega⟩] at k2
    rw [hb ⟨6, by omega⟩] at k6
    rw [hb ⟨63, by omega⟩] at k63
    simp at k1 k2 k6 k63
    exact ⟨k1, k2, k6, k63⟩
  · rintro ⟨k1, k2, k6, k63⟩
    apply Nat.eq_of_testBit_eq
    intro j
    rw [Nat.testBit_and, Nat.testBit_xor, Nat.zero_testBit]
    by_cases hj : j < 64
    · rw [hb ⟨j, hj⟩]
      by_cases e1 : j = 1
      · subst e1; simp [k1]
      · by_cases e2 : j = 2
        · subst e2; simp [k2]
        · by_cases e6 : j = 6
          · subst e6; simp [k6]
          · by_cases e63 : j = 63
            · subst e63; simp [k63]
            · simp [e1, e2, e6, e63]
    · rw [hc j (by omega), Bool.and_false]
theorem alike_comm (x y z : Nat) (h : alikeB x y = true) : alikeB x z = alikeB y z := by
  rw [Bool.eq_iff_iff, alike_iff, alike_iff]
  obtain ⟨h1, h2, h3, h4⟩ := (alike_iff x y).1 h
  rw [h1, h2, h3, h4]
theorem runN_in (ws : Nat → Nat) (i : Nat) (a b c : Bool) (t : Int) (n : Bool) (hi : i < 8) : runN ws (i : Int) a b c t n = if mayB (ws i) t n then runL ws i a b c t n else Ln.zero := by
  unfold runN runOk
  rw [decide_eq_true (by omega : 0 ≤ (i : Int)), decide_eq_true (by omega : (i : Int) < 8), Int.toNat_natCast, Bool.true_and, Bool.true_and]
theorem runN_has (ws : Nat → Nat) (i k : Nat) (a b c : Bool) (t : Int) (n : Bool) (hi : i < 8) (hk : k < 8) : hasB (runN ws (i : Int) a b c t n).m (k : Int) = (mayB (ws i) t n && togB ws i t n k) := by
  rw [hasB_m _ _ hk, runN_in _ _ _ _ _ _ _ hi]
  cases hm : mayB (ws i) t n with
  | true => rw [if_pos rfl]; show (gm (togB ws i t n) 8).testBit k = _; rw [gm_bit, decide_eq_true hk]
  | false => rw [if_neg (by decide)]; show (0 : Nat).testBit k = _; simp
theorem fr_back (x y i k : Nat) (hk : k < 8) (h : tab y = (frN x i + 4096 * k) % 18446744073709551616) : frN y k = frN x i := by
  have h1 := tab_lt x
  have h2 := tab_lt y
  unfold frN at *
  omega
theorem gm_congr {f g : Nat → Bool} (k : Nat) (h : ∀ j, j < k → f j = g j) : gm f k = gm g k := by
  induction k with
  | zero => rfl
  | succ k ih =>
    show (if f k then gm f k ||| 2 ^ k else gm f k) = (if g k then gm g k ||| 2 ^ k else gm g k)
    rw [h k (by omega), ih (fun j hj => h j (by omega))]
theorem meets (ws : Nat → Nat) (i k : Nat) (a b c : Bool) (t : Int) (n : Bool) (hi : i < 8) (hk : k < 8) (hh : hasB (runN ws (i : Int) a b c t n).m (k : Int) = true) (ha : (ws i).testBit 5 = true) :
    runN ws (k : Int) a b c t n = runN ws (i : Int) a b c t n := by
  rw [runN_has _ _ _ _ _ _ _ _ hi hk, Bool.and_eq_true] at hh
  obtain ⟨hm, ht⟩ := hh
  by_cases hki : k = i
  · subst hki; rfl
  · unfold togB usedB at ht
    rw [decide_eq_false hki, Bool.false_or, Bool.and_eq_true, Bool.and_eq_true, Bool.and_eq_true, decide_eq_true_eq] at ht
    obtain ⟨⟨hmk, hak, hal⟩, htab⟩ := ht
    rw [runN_in _ _ _ _ _ _ _ hi, runN_in _ _ _ _ _ _ _ hk, hm, hmk, if_pos rfl, if_pos rfl]
    have hfr := fr_back (ws i) (ws k) i k hk htab
    obtain ⟨e1, e2, e6, e63⟩ := (alike_iff _ _).1 hal
    unfold runL
    rw [hfr, e1, e2, e6, e63]
    congr 1
    apply gm_congr
    intro j hj
    unfold togB usedB
    rw [hfr, alike_comm _ _ (ws j) hal]
    by_cases hjk : j = k
    · subst hjk
      rw [decide_eq_true rfl, decide_eq_false hki, Bool.true_or, Bool.false_or, hmk, hak, ← alike_comm _ _ (ws j) hal, hal, decide_eq_true htab]; rfl
    · by_cases hji : j = i
      · subst hji
        rw [decide_eq_false hjk, decide_eq_true rfl, Bool.false_or, Bool.true_or, hm, ha]
        have hal2 : alikeB (ws k) (ws j) = true := by rw [alike_iff]; exact ⟨e1.symm, e2.symm, e6.symm, e63.symm⟩
        rw [hal2]
        have : tab (ws j) = (frN (ws j) j + 4096 * j) % 18446744073709551616 := by have := tab_lt (ws j); unfold frN; omega
        rw [← this, decide_eq_true rfl]; rfl
      · rw [decide_eq_false hjk, decide_eq_false hji]
theorem at8 (i : Int) : ∃ p : Nat, p < 8 ∧ (wrap64 (i.tmod 8 + 8)).tmod 8 = (p : Int) := by
  have h1 : i.tmod 8 < 8 := Int.tmod_lt_of_pos i (by decide)
  have h2 : -8 < i.tmod 8 := Int.lt_tmod_of_pos i (by decide)
  generalize i.tmod 8 = r at *
  have h3 : wrap64 (r + 8) = r + 8 := by unfold wrap64; omega
  rw [h3, Int.tmod_eq_emod_of_nonneg (by omega)]
  exact ⟨((r + 8) % 8).toNat, by omega, by omega⟩
theorem bit5_run (x : Nat) (hx : x < 18446744073709551616) : ((IntKind.u64.wrap (((x : Nat) : Int) / 32)).tmod 2 == 0) = !x.testBit 5 := by
  have e : IntKind.u64.wrap (((x : Nat) : Int) / 32) = ((x : Nat) : Int) / 32 := by rw [IntKind.wrap_u64]; omega
  rw [e, Int.tmod_eq_emod_of_nonneg (by omega), Nat.testBit_eq_decide_div_mod_eq, Bool.eq_iff_iff]
  simp
  omega
end Go.Proofs.Ytbifpmaofkgkfaa
