/- Plain functions of the references of the layers 1 and 3. -/
import Derived.Test.YtbifpmaofkgkfaaPlain
namespace Go.Proofs.Ytbifpmaofkgkfaa
open Go.RowKit
/-- two to a power, kept closed -/
def p2 (n : Nat) : Nat := 2 ^ n
theorem p2_pos (n : Nat) : 0 < p2 n := Nat.pow_pos (by decide)
theorem p2_lt {n : Nat} (h : n < 64) : p2 n < 18446744073709551616 := by have := pow_lt64 h; unfold p2; omega
theorem p2_succ {n : Nat} (h : n < 63) : IntKind.u64.wrap ((2 : Int) * ((p2 n : Nat) : Int)) = ((p2 (n + 1) : Nat) : Int) := by
  have hp : 2 ^ n ≤ 2 ^ 62 := Nat.pow_le_pow_right (by decide) (by omega)
  unfold p2
  rw [Nat.pow_succ]
  generalize 2 ^ n = q at *
  rw [wrapu_in (by omega) (by omega)]; omega
def bitI (x : Nat) (i : Int) : Bool := decide (0 ≤ i) && x.testBit i.toNat
def oneN (b : Bool) : Nat := if b then 1 else 0
theorem bit_div (x i : Nat) : (x / 2 ^ i % 2 == 1) = x.testBit i := by
  rw [Nat.testBit_eq_decide_div_mod_eq, Bool.eq_iff_iff]; simp
theorem testBit_64 {x i : Nat} (h : x < 18446744073709551616) (hi : 64 ≤ i) : x.testBit i = false :=
  Nat.testBit_lt_two_pow (Nat.lt_of_lt_of_le h (by
    have : (2 : Nat) ^ 64 ≤ 2 ^ i := Nat.pow_le_pow_right (by decide) hi
    simpa using this))
theorem div_p2 (x i : Nat) : ((x : Nat) : Int) / ((p2 i : Nat) : Int) = ((x / p2 i : Nat) : Int) := (Int.natCast_ediv x (p2 i)).symm
theorem wrap_div {x : Nat} (i : Nat) (hx : x < 18446744073709551616) : IntKind.u64.wrap (((x : Nat) : Int) / ((p2 i : Nat) : Int)) = ((x / p2 i : Nat) : Int) := by
  have h2 : x / p2 i ≤ x := Nat.div_le_self _ _
  rw [div_p2]
  generalize x / p2 i = q at *
  exact wrapu_in (by omega) (by omega)
theorem rem512 (q : Nat) : wrap64 ((((q : Nat) : Int)).tmod 512) = ((q % 512 : Nat) : Int) := by
  rw [Int.tmod_eq_emod_of_nonneg (by omega)]
  unfold wrap64
  omega
theorem bitI_run {x : Nat} {i : Nat} (hx : x < 18446744073709551616) : (((IntKind.u64.wrap (((x : Nat) : Int) / ((p2 i : Nat) : Int))).tmod 2) == 1) = x.testBit i := by
  have h2 : x / p2 i ≤ x := Nat.div_le_self _ _
  rw [div_p2, ← bit_div, show x / 2 ^ i = x / p2 i from rfl]
  generalize x / p2 i = q at *
  rw [wrapu_in (by omega) (by omega), Int.tmod_eq_emod_of_nonneg (by omega)]
  rw [Bool.eq_iff_iff]; simp; omega
theorem mod_succ_bit (s i : Nat) : s % 2 ^ (i + 1) = s % 2 ^ i + (if s.testBit i then 2 ^ i else 0) := by
  rw [Nat.mod_pow_succ, Nat.testBit_eq_decide_div_mod_eq]
  by_cases h : s / 2 ^ i % 2 = 1
  · simp [h]
  · have : s / 2 ^ i % 2 = 0 := by omega
    simp [this]
def signTo (a i : Nat) : Nat := putN a 48 (i - 48) (if a.testBit 47 then 65535 else 0)
theorem signTo_0 (a : Nat) : signTo a 48 = a := by
  apply Nat.eq_of_testBit_eq
  intro j
  unfold signTo
  rw [testBit_putN]
  split
  · rfl
  · first | rfl | rw [if_neg (by omega)]
theorem signTo_bit (a i j : Nat) (h : 48 ≤ i) (h2 : i ≤ 64) : (signTo a i).testBit j = if j < 48 then a.testBit j else if j < i then a.testBit 47 else a.testBit j := by
  unfold signTo
  rw [testBit_putN]
  by_cases h3 : j < 48
  · rw [if_pos h3, if_pos h3]
  · rw [if_neg h3, if_neg h3]
    by_cases h4 : j < i
    · rw [if_pos (by omega), if_pos h4]
      cases a.testBit 47 with
      | false => simp
      | true =>
        rw [if_pos rfl, show (65535 : Nat) = 2 ^ 16 - 1 from rfl, Nat.testBit_two_pow_sub_one]
        simp; omega
    · rw [if_neg (by omega), if_neg h4]
theorem signTo_47 (a i : Nat) (h : 48 ≤ i) (h2 : i ≤ 64) : (signTo a i).testBit 47 = a.testBit 47 := by
  rw [signTo_bit a i 47 h h2, if_pos (by omega)]
theorem signTo_succ (a i : Nat) (h : 48 ≤ i) (h2 : i < 64) : signTo a (i + 1) = putN (signTo a i) i 1 (oneN (a.testBit 47)) := by
  apply Nat.eq_of_testBit_eq
  intro j
  rw [testBit_putN, signTo_bit a (i + 1) j (by omega) (by omega), signTo_bit a i j h (by omega)]
  by_cases h3 : j < 48
  · rw [if_pos h3, if_pos (by omega), if_pos h3]
  · rw [if_neg h3, if_neg h3]
    by_cases h4 : j < i
    · rw [if_pos (by omega), if_pos h4, if_pos h4]
    · rw [if_neg h4, if_neg h4]
      by_cases h5 : j < i + 1
      · rw [if_pos h5, if_pos h5]
        have : j - i = 0 := by omega
        rw [this]
        cases a.testBit 47 <;> rfl
      · rw [if_neg h5, if_neg h5]
theorem testBit_47 (a : Nat) : a.testBit 47 = (a / 140737488355328 % 2 == 1) := by
  rw [← bit_div]
theorem signTo_64 (a : Nat) (h : a < 18446744073709551616) : signTo a 64 = sgn a := by
  unfold signTo putN sgn
  rw [testBit_47]
  rw [show (2 : Nat) ^ (48 + (64 - 48)) = 18446744073709551616 by decide, show (2 : Nat) ^ (64 - 48) = 65536 by decide, show (2 : Nat) ^ 48 = 281474976710656 by decide]
  by_cases h1 : a / 140737488355328 % 2 = 1
  · rw [if_pos (by simp [h1]), if_pos h1]; omega
  · rw [if_neg (by simp [h1]), if_neg h1]; omega
theorem signTo_lt (a i : Nat) (h : a < 18446744073709551616) (h1 : 48 ≤ i) (h2 : i ≤ 64) : signTo a i < 18446744073709551616 := by
  have e : signTo a i % 2 ^ 64 = signTo a i := by
    apply Nat.eq_of_testBit_eq
    intro j
    rw [Nat.testBit_mod_two_pow]
    by_cases hj : j < 64
    · simp [hj]
    · rw [signTo_bit a i j h1 h2, if_neg (by omega), if_neg (by omega), testBit_64 h (by omega)]; simp
  have := Nat.mod_lt (signTo a i) (show 0 < 2 ^ 64 by decide)
  omega
def withN (x : Nat) (i : Int) (b : Bool) : Nat := setN x i 1 (oneN b)
theorem setN_lt {x : Nat} {lo n : Int} {v : Nat} (h : x < 18446744073709551616) : setN x lo n v < 18446744073709551616 := by
  unfold setN
  split
  · exact h
  · rename_i hn
    unfold isNone at hn
    exact putN_lt h (by omega) (by omega)
theorem withN_lt {x : Nat} {i : Int} {b : Bool} (h : x < 18446744073709551616) : withN x i b < 18446744073709551616 := setN_lt h
theorem testBit_oneN (b : Bool) (i : Nat) : (oneN b).testBit i = (decide (i = 0) && b) := by
  cases b with
  | false => simp [oneN]
  | true =>
    show (1 : Nat).testBit i = _
    cases i with
    | zero => rfl
    | succ i => simp [Nat.testBit_succ]
theorem testBit_withN {x : Nat} {i : Nat} {b : Bool} (hi : i < 64) (j : Nat) : (withN x i b).testBit j = if j = i then b else x.testBit j := by
  unfold withN setN
  rw [if_neg (by unfold isNone; omega), testBit_putN, testBit_oneN]
  rw [show ((i : Int)).toNat = i from rfl, show ((1 : Int)).toNat = 1 from rfl]
  by_cases h1 : j < i
  · rw [if_pos h1, if_neg (by omega)]
  · rw [if_neg h1]
    by_cases h2 : j = i
    · subst h2; rw [if_pos (by omega), if_pos rfl]; simp
    · rw [if_neg (by omega), if_neg h2]
/-- a sum of bits so far -/
def setTo (s i : Nat) : Nat := s % p2 i
theorem setTo_0 (s : Nat) : setTo s 0 = 0 := by unfold setTo p2; omega
theorem setTo_64 {s : Nat} (h : s < 18446744073709551616) : setTo s 64 = s := Nat.mod_eq_of_lt (by unfold p2; omega)
theorem setTo_yes {s i : Nat} (h : s.testBit i = true) : setTo s (i + 1) = setTo s i + p2 i := by
  unfold setTo p2; rw [mod_succ_bit, if_pos h]
theorem setTo_no {s i : Nat} (h : s.testBit i = false) : setTo s (i + 1) = setTo s i := by
  unfold setTo p2; rw [mod_succ_bit, h]; simp
theorem setTo_lt (s : Nat) {i : Nat} (h : i ≤ 64) : setTo s i < 18446744073709551616 := by
  unfold setTo
  have h1 : s % p2 i < p2 i := Nat.mod_lt _ (p2_pos i)
  have h2 := pow_le64 h
  unfold p2 at *
  omega
end Go.Proofs.Ytbifpmaofkgkfaa
