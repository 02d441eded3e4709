/- Plain facts on entries: what the laws of layer 5 ask. Nothing of the program. -/
import Derived.Test.YtbifpmaofkgkfaaEntW
namespace Go.Proofs.Ytbifpmaofkgkfaa
open Go.RowKit
theorem tab_eq_of_bits {x y : Nat} (h : ∀ i, 12 ≤ i → i < 52 → x.testBit i = y.testBit i) : tab x = tab y := by
  apply Nat.eq_of_testBit_eq
  intro i
  rw [testBit_tab, testBit_tab]
  by_cases h1 : 12 ≤ i
  · by_cases h2 : i < 52
    · rw [h i h1 h2]
    · simp [h2]
  · simp [h1]
theorem word_bits (e : Ent) : (wordN e).testBit 0 = e.p ∧ (wordN e).testBit 1 = e.w ∧ (wordN e).testBit 2 = e.u ∧ (wordN e).testBit 5 = e.a ∧ (wordN e).testBit 6 = e.d ∧ (wordN e).testBit 7 = e.ps ∧ (wordN e).testBit 63 = e.nx ∧ tab (wordN e) = tab e.fr := by
  refine ⟨?_, ?_, ?_, ?_, ?_, ?_, ?_, ?_⟩
  · rw [testBit_word]; rfl
  · rw [testBit_word]; rfl
  · rw [testBit_word]; rfl
  · rw [testBit_word]; rfl
  · rw [testBit_word]; rfl
  · rw [testBit_word]; rfl
  · rw [testBit_word]; rfl
  · rw [← tab_tab e.fr]
    apply tab_eq_of_bits
    intro i h1 h2
    rw [testBit_word, if_neg (by omega), if_neg (by omega), if_neg (by omega), if_neg (by omega), if_neg (by omega), if_neg (by omega), if_neg (by omega)]
theorem pw_bit (x i : Nat) : (wordN (parseN x)).testBit i = (x.testBit i && (decide (i = 63) || decide (i = 7) || decide (i = 6) || decide (i = 5) || decide (i = 2) || decide (i = 1) || decide (i = 0) || (decide (12 ≤ i) && decide (i < 52)))) := by
  rw [testBit_word]
  unfold parseN
  by_cases h63 : i = 63
  · subst h63; simp
  · by_cases h7 : i = 7
    · subst h7; simp
    · by_cases h6 : i = 6
      · subst h6; simp
      · by_cases h5 : i = 5
        · subst h5; simp
        · by_cases h2 : i = 2
          · subst h2; simp
          · by_cases h1 : i = 1
            · subst h1; simp
            · by_cases h0 : i = 0
              · subst h0; simp
              · rw [if_neg h63, if_neg h7, if_neg h6, if_neg h5, if_neg h2, if_neg h1, if_neg h0]
                simp only [testBit_tab, h63, h7, h6, h5, h2, h1, h0, decide_false, Bool.false_or]
                cases x.testBit i <;> cases decide (12 ≤ i) <;> cases decide (i < 52) <;> rfl
theorem andNot_bit {x y i : Nat} (hy : y < 18446744073709551616) : (x &&& (18446744073709551615 - y)).testBit i = (x.testBit i && (decide (i < 64) && !y.testBit i)) := by
  rw [Nat.testBit_and]
  congr 1
  have := Nat.testBit_two_pow_sub_succ (n := 64) (x := y) (by simpa using hy) i
  have e2 : 2 ^ 64 - (y + 1) = 18446744073709551615 - y := by omega
  rw [e2] at this
  exact this
theorem back_1 {x : Nat} (hx : x < 18446744073709551616) : bits .andNot .u64 ((wordN (parseN x) : Nat) : Int) (x : Int) = 0 := by
  rw [u64_andNot (wordN_lt _) hx]
  have : wordN (parseN x) &&& (18446744073709551615 - x) = 0 := by
    apply Nat.eq_of_testBit_eq
    intro i
    rw [andNot_bit hx, pw_bit]
    cases x.testBit i <;> simp
  rw [this]; rfl
theorem back_2 (x : Nat) : wordN (parseN (wordN (parseN x))) = wordN (parseN x) := by
  apply Nat.eq_of_testBit_eq
  intro i
  rw [pw_bit, pw_bit]
  cases x.testBit i <;> simp
def oddN : Nat := 9218868437227409176
theorem odd_bit (i : Nat) (h : i < 64) : oddN.testBit i = !(decide (i = 63) || decide (i = 7) || decide (i = 6) || decide (i = 5) || decide (i = 2) || decide (i = 1) || decide (i = 0) || (decide (12 ≤ i) && decide (i < 52))) := by
  have : ∀ j : Fin 64, oddN.testBit j.val = !(decide (j.val = 63) || decide (j.val = 7) || decide (j.val = 6) || decide (j.val = 5) || decide (j.val = 2) || decide (j.val = 1) || decide (j.val = 0) || (decide (12 ≤ j.val) && decide (j.val < 52))) := by decide
  exact this ⟨i, h⟩
theorem back_3 {x : Nat} (hx : x < 18446744073709551616) : bits .andNot .u64 (x : Int) ((wordN (parseN x) : Nat) : Int) = bits .and .u64 (x : Int) 9218868437227409176 := by
  rw [u64_andNot hx (wordN_lt _), show (9218868437227409176 : Int) = ((oddN : Nat) : Int) from rfl, u64_and hx (by decide)]
  congr 1
  apply Nat.eq_of_testBit_eq
  intro i
  rw [andNot_bit (wordN_lt _), Nat.testBit_and, pw_bit]
  by_cases h : i < 64
  · rw [odd_bit i h, decide_eq_true h]
    cases x.testBit i <;> simp
  · rw [testBit_64 hx (by omega)]; simp
/-! ### Reserved -/
theorem some_mono {x : Nat} {a b : Nat} (_ha : 12 ≤ a) (hab : a ≤ b) (hb : b ≤ 52) (h : someB x (b : Int) 52 = true) : someB x (a : Int) 52 = true := by
  unfold someB at *
  rw [decide_eq_true_eq] at *
  by_cases hb2 : b = 52
  · subst hb2
    exfalso; apply h
    unfold getN; rw [if_pos (by unfold isNone; omega)]
  · rw [show (52 : Int) - (b : Int) = ((52 - b : Nat) : Int) by omega] at h
    rw [show (52 : Int) - (a : Int) = ((52 - a : Nat) : Int) by omega]
    obtain ⟨i, h1, h2, h3⟩ := (some_iff x b (52 - b) (by omega) (by omega)).1 h
    exact (some_iff x a (52 - a) (by omega) (by omega)).2 ⟨i, by omega, by omega, h3⟩
theorem grows_1 (x : Nat) (l : Int) (h : resB x l 30 true = true) : resB x l 20 true = true := by
  unfold resB at *
  rw [show from_ 30 = ((30 : Nat) : Int) from rfl] at h
  rw [show from_ 20 = ((20 : Nat) : Int) from rfl]
  have := some_mono (x := x) (a := 20) (b := 30) (by omega) (by omega) (by omega)
  cases h1 : someB x ((30 : Nat) : Int) 52 with
  | true => rw [this h1]; rfl
  | false =>
    rw [h1] at h
    cases h2 : someB x ((20 : Nat) : Int) 52 with
    | true => rfl
    | false => exact h
theorem grows_2 (x : Nat) (l : Int) (h : resB x l 20 true = true) : resB x l 20 false = true := by
  unfold resB at *
  cases h1 : someB x (from_ 20) 52 with
  | true => rfl
  | false =>
    rw [h1] at h
    simp only [Bool.not_true, Bool.and_false, Bool.false_or] at h
    simp only [Bool.not_false, Bool.and_true, h, Bool.or_true]
theorem grows_3 (e : Ent) (l : Int) (n : Bool) (hf : e.fr < 1048576) (hn : e.nx = false) (hp : e.ps = false) : resB (wordN e) l 20 n = false := by
  have h1 : someB (wordN e) (from_ 20) 52 = false := by
    unfold someB
    rw [decide_eq_false_iff_not, Decidable.not_not, show from_ 20 = ((20 : Nat) : Int) from rfl, show (52 : Int) - ((20 : Nat) : Int) = ((32 : Nat) : Int) from rfl]
    by_cases h0 : getN (wordN e) ((20 : Nat) : Int) ((32 : Nat) : Int) = 0
    · exact h0
    · obtain ⟨i, a, b, c⟩ := (some_iff (wordN e) 20 32 (by omega) (by omega)).1 h0
      rw [testBit_word, if_neg (by omega), if_neg (by omega), if_neg (by omega), if_neg (by omega), if_neg (by omega), if_neg (by omega), if_neg (by omega), testBit_tab] at c
      have : e.fr.testBit i = false := Nat.testBit_lt_two_pow (Nat.lt_of_lt_of_le hf (by
        have : (2 : Nat) ^ 20 ≤ 2 ^ i := Nat.pow_le_pow_right (by decide) a
        simpa using this))
      rw [this] at c
      simp at c
  have hw := word_bits e
  unfold resB
  rw [h1, hw.2.2.2.2.2.2.1, hw.2.2.2.2.2.1, hn, hp]
  simp
theorem or_51 {x : Nat} (hx : x < 18446744073709551616) : bits .or .u64 (x : Int) 2251799813685248 = ((x ||| 2251799813685248 : Nat) : Int) ∧ x ||| 2251799813685248 < 18446744073709551616 := by
  refine ⟨?_, ?_⟩
  · exact u64_or (b := 2251799813685248) hx (by decide)
  · exact Nat.or_lt_two_pow (n := 64) (by simpa using hx) (by decide)
theorem grows_4 (x : Nat) (l : Int) (n : Bool) : resB (x ||| 2251799813685248) l 51 n = true := by
  have h1 : someB (x ||| 2251799813685248) (from_ 51) 52 = true := by
    unfold someB
    rw [decide_eq_true_eq, show from_ 51 = ((51 : Nat) : Int) from rfl, show (52 : Int) - ((51 : Nat) : Int) = ((1 : Nat) : Int) from rfl]
    refine (some_iff _ 51 1 (by omega) (by omega)).2 ⟨51, by omega, by omega, ?_⟩
    rw [Nat.testBit_or]
    have : (2251799813685248 : Nat).testBit 51 = true := by decide
    rw [this, Bool.or_true]
  unfold resB
  rw [h1]; rfl
/-! ### Frames -/
theorem frame_leaf {x : Nat} {k : Int} (h : leafB x k = true) : frameN x k = page (tab x) k := by unfold frameN; rw [h]; rfl
theorem frame_not {x : Nat} {k : Int} (h : leafB x k = false) : frameN x k = tab x := by unfold frameN; rw [h]; rfl
theorem page_facts (a : Nat) (k : Int) (hk : k = 1 ∨ k = 2 ∨ k = 3) : page a k % size k = 0 ∧ page a k ≤ a ∧ a - page a k < size k := by
  rcases hk with rfl | rfl | rfl
  · show (a - a % 4096) % 4096 = 0 ∧ a - a % 4096 ≤ a ∧ a - (a - a % 4096) < 4096; omega
  · show (a - a % 2097152) % 2097152 = 0 ∧ a - a % 2097152 ≤ a ∧ a - (a - a % 2097152) < 2097152; omega
  · show (a - a % 1073741824) % 1073741824 = 0 ∧ a - a % 1073741824 ≤ a ∧ a - (a - a % 1073741824) < 1073741824; omega
theorem page_tab1 (x : Nat) : page (tab x) 1 = tab x := by
  show tab x - tab x % 4096 = tab x
  unfold tab; omega
theorem free_2 {x : Nat} (h : leafB x 2 = true) (hr : resB x 2 52 true = false) : page (tab x) 2 = tab x ∨ page (tab x) 2 + 4096 = tab x := by
  have h7 : x.testBit 7 = true := by unfold leafB at h; simpa using h
  unfold resB at hr
  rw [h7] at hr
  simp at hr
  have h2 := hr.2
  unfold someB at h2
  rw [decide_eq_false_iff_not, Decidable.not_not] at h2
  have h3 : x / 8192 % 256 = 0 := h2
  show tab x - tab x % 2097152 = tab x ∨ tab x - tab x % 2097152 + 4096 = tab x
  unfold tab; omega
theorem free_3 {x : Nat} (h : leafB x 3 = true) (hr : resB x 3 52 true = false) : page (tab x) 3 = tab x ∨ page (tab x) 3 + 4096 = tab x := by
  have h7 : x.testBit 7 = true := by unfold leafB at h; simpa using h
  unfold resB at hr
  rw [h7] at hr
  simp at hr
  have h2 := hr.2
  unfold someB at h2
  rw [decide_eq_false_iff_not, Decidable.not_not] at h2
  have h3 : x / 8192 % 131072 = 0 := h2
  show tab x - tab x % 1073741824 = tab x ∨ tab x - tab x % 1073741824 + 4096 = tab x
  unfold tab; omega
end Go.Proofs.Ytbifpmaofkgkfaa
