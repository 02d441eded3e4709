/- Plain functions of entry: bits of words. Nothing of the program. -/
import Derived.Test.YtbifpmaofkgkfaaRefPlain
namespace Go.Proofs.Ytbifpmaofkgkfaa
open Go.RowKit
/-- x and a field of ones -/
theorem and_field (x lo n : Nat) : x &&& ((2 ^ n - 1) * 2 ^ lo) = x / 2 ^ lo % 2 ^ n * 2 ^ lo := by
  apply Nat.eq_of_testBit_eq
  intro i
  rw [Nat.testBit_and, testBit_mask, Nat.testBit_mul_two_pow, Nat.testBit_mod_two_pow, Nat.testBit_div_two_pow]
  by_cases h : lo ≤ i
  · rw [show i - lo + lo = i by omega]
    by_cases h2 : i < lo + n
    · rw [decide_eq_true h, decide_eq_true h2, decide_eq_true (show i - lo < n by omega)]; simp
    · rw [decide_eq_true h, decide_eq_false h2, decide_eq_false (show ¬ i - lo < n by omega)]; simp
  · rw [decide_eq_false h]; simp
/-- one bit of a word, asked by a mask -/
theorem and_bit (x k : Nat) : x &&& 2 ^ k = if x.testBit k then 2 ^ k else 0 := by
  apply Nat.eq_of_testBit_eq
  intro i
  rw [Nat.testBit_and, Nat.testBit_two_pow]
  by_cases h : k = i
  · subst h
    cases hx : x.testBit k <;> simp
  · cases hx : x.testBit k <;> simp [h]
theorem ask_bit {x k : Nat} {m : Int} (hm : m = ((2 ^ k : Nat) : Int)) (hk : k < 64) (hx : x < 18446744073709551616) : (bits .and .u64 (x : Int) m != 0) = x.testBit k := by
  have hp : 2 ^ k < 18446744073709551616 := by have := pow_lt64 hk; omega
  rw [hm, u64_and hx hp, and_bit]
  cases hb : x.testBit k with
  | false => simp
  | true =>
    have : 0 < 2 ^ k := Nat.pow_pos (by decide)
    generalize 2 ^ k = q at *
    rw [bne_iff_ne]; simp; omega
def tab (x : Nat) : Nat := x / 4096 % 1099511627776 * 4096
theorem tab_lt (x : Nat) : tab x < 4503599627370496 := by unfold tab; omega
theorem tab_lt64 (x : Nat) : tab x < 18446744073709551616 := by unfold tab; omega
theorem tab_pow (x : Nat) : tab x = x / 2 ^ 12 % 2 ^ 40 * 2 ^ 12 := rfl
theorem testBit_tab (x i : Nat) : (tab x).testBit i = (decide (12 ≤ i) && decide (i < 52) && x.testBit i) := by
  rw [tab_pow, ← and_field, Nat.testBit_and, testBit_mask]
  cases x.testBit i <;> simp
theorem mask_12_40 : maskN 12 40 = (2 ^ 40 - 1) * 2 ^ 12 := by decide
theorem tab_run {x : Nat} (hx : x < 18446744073709551616) : bits .and .u64 (x : Int) ((maskN 12 40 : Nat) : Int) = ((tab x : Nat) : Int) := by
  rw [u64_and hx maskN_lt, mask_12_40, and_field, tab_pow]
theorem tab_get (x : Nat) : tab x = getN x 12 40 * 4096 := rfl
theorem tab_tab (x : Nat) : tab (tab x) = tab x := by unfold tab; omega
def leafB (x : Nat) (l : Int) : Bool := decide (l = 1) || ((decide (l = 2) || decide (l = 3)) && x.testBit 7)
def slotN (t a : Nat) (l : Int) : Nat := tab t + 8 * idx a l
def frameN (x : Nat) (l : Int) : Nat := if leafB x l then page (tab x) l else tab x
def from_ (b : Int) : Int := if b < 12 then 12 else if b > 52 then 52 else b
theorem from_bd (b : Int) : 12 ≤ from_ b ∧ from_ b ≤ 52 := by unfold from_; repeat' split <;> omega
/-- some bit of a field -/
def someB (x : Nat) (lo hi : Int) : Bool := decide (getN x lo (hi - lo) ≠ 0)
def resB (x : Nat) (l b : Int) (nxe : Bool) : Bool :=
  someB x (from_ b) 52 || ((x.testBit 63 && !nxe) || ((decide (l = 4) && x.testBit 7) || ((decide (l = 2) && (x.testBit 7 && someB x 13 21)) || (decide (l = 3) && (x.testBit 7 && someB x 13 30)))))
structure Ent where
  p : Bool
  w : Bool
  u : Bool
  a : Bool
  d : Bool
  ps : Bool
  nx : Bool
  fr : Nat
def parseN (x : Nat) : Ent := ⟨x.testBit 0, x.testBit 1, x.testBit 2, x.testBit 5, x.testBit 6, x.testBit 7, x.testBit 63, tab x⟩
def word1 (e : Ent) : Nat := withN (withN (withN (tab e.fr) ((0 : Nat) : Int) e.p) ((1 : Nat) : Int) e.w) ((2 : Nat) : Int) e.u
def word2 (e : Ent) : Nat := withN (withN (withN (word1 e) ((5 : Nat) : Int) e.a) ((6 : Nat) : Int) e.d) ((7 : Nat) : Int) e.ps
def wordN (e : Ent) : Nat := withN (word2 e) ((63 : Nat) : Int) e.nx
theorem wordN_lt (e : Ent) : wordN e < 18446744073709551616 := by
  unfold wordN word2 word1
  repeat apply withN_lt
  exact tab_lt64 _
theorem testBit_word (e : Ent) (i : Nat) : (wordN e).testBit i = if i = 63 then e.nx else if i = 7 then e.ps else if i = 6 then e.d else if i = 5 then e.a else if i = 2 then e.u else if i = 1 then e.w else if i = 0 then e.p else (tab e.fr).testBit i := by
  unfold wordN word2 word1
  simp only [testBit_withN (show 63 < 64 by omega), testBit_withN (show 7 < 64 by omega), testBit_withN (show 6 < 64 by omega), testBit_withN (show 5 < 64 by omega), testBit_withN (show 2 < 64 by omega), testBit_withN (show 1 < 64 by omega), testBit_withN (show 0 < 64 by omega)]
/-- or-ing a bit that is not there -/
theorem or_bit {x k : Nat} {b : Bool} (hk : k < 64) (h : x.testBit k = false) : (if b then x ||| 2 ^ k else x) = withN x (k : Int) b := by
  apply Nat.eq_of_testBit_eq
  intro i
  rw [testBit_withN hk]
  cases b with
  | false =>
    by_cases hi : i = k
    · subst hi; simpa using h
    · rw [if_neg hi]; rfl
  | true =>
    rw [if_pos rfl, Nat.testBit_or, Nat.testBit_two_pow]
    by_cases hi : i = k
    · subst hi; simp
    · rw [if_neg hi, decide_eq_false (fun e => hi e.symm), Bool.or_false]
theorem some_iff (x lo n : Nat) (hn : 1 ≤ n) (hl : lo + n ≤ 64) : getN x lo n ≠ 0 ↔ ∃ i, lo ≤ i ∧ i < lo + n ∧ x.testBit i = true := by
  unfold getN
  rw [if_neg (by unfold isNone; omega), Int.toNat_natCast, Int.toNat_natCast]
  constructor
  · intro h
    obtain ⟨i, hi⟩ := Nat.exists_testBit_of_ne_zero h
    rw [Nat.testBit_mod_two_pow, Nat.testBit_div_two_pow] at hi
    simp at hi
    exact ⟨i + lo, by omega, by omega, hi.2⟩
  · rintro ⟨i, h1, h2, h3⟩ h0
    have : (x / 2 ^ lo % 2 ^ n).testBit (i - lo) = true := by
      rw [Nat.testBit_mod_two_pow, Nat.testBit_div_two_pow, show i - lo + lo = i by omega, h3]
      simp; omega
    rw [h0] at this
    simp at this
end Go.Proofs.Ytbifpmaofkgkfaa
