/- The plain functions of field and va: numbers alone. -/
import Derived.Test.YtbifpmaofkgkfaaBase
namespace Go.Proofs.Ytbifpmaofkgkfaa
open Go.RowKit
def isNone (lo n : Int) : Prop := lo < 0 ∨ n < 1 ∨ 64 ≤ lo ∨ 64 - lo < n
instance (lo n : Int) : Decidable (isNone lo n) := by unfold isNone; infer_instance
def getN (x : Nat) (lo n : Int) : Nat := if isNone lo n then 0 else x / 2 ^ lo.toNat % 2 ^ n.toNat
def maskN (lo n : Int) : Nat := if isNone lo n then 0 else (2 ^ n.toNat - 1) * 2 ^ lo.toNat
def putN (x lo n v : Nat) : Nat := x / 2 ^ (lo + n) * 2 ^ (lo + n) + v % 2 ^ n * 2 ^ lo + x % 2 ^ lo
def setN (x : Nat) (lo n : Int) (v : Nat) : Nat := if isNone lo n then x else putN x lo.toNat n.toNat v
theorem getN_lt {x : Nat} {lo n : Int} (h : x < 18446744073709551616) : getN x lo n < 18446744073709551616 := by
  unfold getN
  split
  · omega
  · exact Nat.lt_of_le_of_lt (Nat.mod_le _ _) (Nat.lt_of_le_of_lt (Nat.div_le_self _ _) h)
theorem mask_lt {lo n : Nat} (h : lo + n ≤ 64) : (2 ^ n - 1) * 2 ^ lo < 18446744073709551616 := by
  have h1 : 2 ^ n * 2 ^ lo ≤ 2 ^ 64 := by rw [← Nat.pow_add]; exact pow_le64 (by omega)
  have h2 : 0 < 2 ^ lo := Nat.pow_pos (by decide)
  have h3 : (2 ^ n - 1) * 2 ^ lo = 2 ^ n * 2 ^ lo - 2 ^ lo := by rw [Nat.sub_mul, Nat.one_mul]
  have h4 : 0 < 2 ^ n := Nat.pow_pos (by decide)
  have h5 : 2 ^ lo ≤ 2 ^ n * 2 ^ lo := Nat.le_mul_of_pos_left _ h4
  omega
theorem maskN_lt {lo n : Int} : maskN lo n < 18446744073709551616 := by
  unfold maskN
  split
  · omega
  · rename_i h
    unfold isNone at h
    exact mask_lt (by omega)
/-- a word with a field set, bit by bit -/
theorem testBit_mask (lo n i : Nat) : ((2 ^ n - 1) * 2 ^ lo).testBit i = (decide (lo ≤ i) && decide (i < lo + n)) := by
  rw [Nat.testBit_mul_two_pow, Nat.testBit_two_pow_sub_one]
  by_cases h : lo ≤ i <;> simp [h]
  omega
theorem testBit_putN (x lo n v i : Nat) : (putN x lo n v).testBit i = if i < lo then x.testBit i else if i < lo + n then v.testBit (i - lo) else x.testBit i := by
  unfold putN
  have hv : v % 2 ^ n * 2 ^ lo + x % 2 ^ lo < 2 ^ (lo + n) := by
    have h1 : v % 2 ^ n < 2 ^ n := Nat.mod_lt _ (Nat.pow_pos (by decide))
    have h2 : x % 2 ^ lo < 2 ^ lo := Nat.mod_lt _ (Nat.pow_pos (by decide))
    have h3 : (v % 2 ^ n + 1) * 2 ^ lo ≤ 2 ^ n * 2 ^ lo := Nat.mul_le_mul_right _ h1
    rw [Nat.add_mul, Nat.one_mul, ← Nat.pow_add, Nat.add_comm n lo] at h3
    omega
  rw [Nat.add_assoc, Nat.mul_comm (x / _), Nat.testBit_two_pow_mul_add _ hv]
  have h2 : x % 2 ^ lo < 2 ^ lo := Nat.mod_lt _ (Nat.pow_pos (by decide))
  by_cases h : i < lo + n
  · rw [if_pos h, Nat.mul_comm (v % _), Nat.testBit_two_pow_mul_add _ h2]
    by_cases hl : i < lo
    · rw [if_pos hl, if_pos hl, Nat.testBit_mod_two_pow]; simp [hl]
    · rw [if_neg hl, if_neg hl, if_pos h, Nat.testBit_mod_two_pow]
      have : i - lo < n := by omega
      simp [this]
  · rw [if_neg h, if_neg (by omega), if_neg h, Nat.testBit_div_two_pow]
    congr 1
    omega
theorem set_bits {x lo n v : Nat} (hx : x < 18446744073709551616) (h : lo + n ≤ 64) (hn : 1 ≤ n) :
    (x &&& (18446744073709551615 - (2 ^ n - 1) * 2 ^ lo)) ||| (v * 2 ^ lo % 18446744073709551616 &&& (2 ^ n - 1) * 2 ^ lo) = putN x lo n v := by
  have hm := mask_lt h
  apply Nat.eq_of_testBit_eq
  intro i
  rw [testBit_putN, Nat.testBit_or, Nat.testBit_and, Nat.testBit_and]
  have e : (18446744073709551615 - (2 ^ n - 1) * 2 ^ lo).testBit i = (decide (i < 64) && !((2 ^ n - 1) * 2 ^ lo).testBit i) := by
    have := Nat.testBit_two_pow_sub_succ (n := 64) (x := (2 ^ n - 1) * 2 ^ lo) (by simpa using hm) i
    have e2 : 2 ^ 64 - ((2 ^ n - 1) * 2 ^ lo + 1) = 18446744073709551615 - (2 ^ n - 1) * 2 ^ lo := by omega
    rw [e2] at this
    exact this
  rw [e, testBit_mask]
  have e3 : (v * 2 ^ lo % 18446744073709551616).testBit i = (decide (i < 64) && (decide (lo ≤ i) && v.testBit (i - lo))) := by
    rw [show (18446744073709551616 : Nat) = 2 ^ 64 from rfl, Nat.testBit_mod_two_pow, Nat.testBit_mul_two_pow]
  rw [e3]
  by_cases h1 : i < 64
  · by_cases h2 : i < lo
    · have : ¬ lo ≤ i := by omega
      simp [h1, h2, this]
    · have h2' : lo ≤ i := by omega
      by_cases h3 : i < lo + n <;> simp [h1, h2, h2', h3]
  · have : x.testBit i = false := Nat.testBit_lt_two_pow (Nat.lt_of_lt_of_le hx (by
      have : (2 : Nat) ^ 64 ≤ 2 ^ i := Nat.pow_le_pow_right (by decide) (by omega)
      simpa using this))
    have h3 : ¬ i < lo + n := by omega
    have h2 : ¬ i < lo := by omega
    simp [h1, this, h2, h3]
theorem putN_lt {x lo n v : Nat} (hx : x < 18446744073709551616) (h : lo + n ≤ 64) (hn : 1 ≤ n) : putN x lo n v < 18446744073709551616 := by
  rw [← set_bits (v := v) hx h hn]
  exact Nat.or_lt_two_pow (n := 64) (Nat.lt_of_le_of_lt Nat.and_le_left (by simpa using hx)) (Nat.lt_of_le_of_lt Nat.and_le_left (by omega))
/-! ### va -/
def sgn (a : Nat) : Nat := if a / 140737488355328 % 2 = 1 then a % 281474976710656 + 18446462598732840960 else a % 281474976710656
def canon (a : Nat) : Bool := sgn a == a
def shiftN (l : Int) : Nat := if l = 1 then 12 else if l = 2 then 21 else if l = 3 then 30 else if l = 4 then 39 else 0
def isLevel (l : Int) : Bool := decide (1 ≤ l ∧ l ≤ 4)
def idx (a : Nat) (l : Int) : Nat := if l = 1 then a / 4096 % 512 else if l = 2 then a / 2097152 % 512 else if l = 3 then a / 1073741824 % 512 else if l = 4 then a / 549755813888 % 512 else 0
def size (l : Int) : Nat := if l = 1 then 4096 else if l = 2 then 2097152 else if l = 3 then 1073741824 else 0
def low (a : Nat) (l : Int) : Nat := if size l = 0 then 0 else a % size l
def page (a : Nat) (l : Int) : Nat := a - low a l
def nextOk (a : Nat) : Bool := canon a && (decide (page a 1 + 4096 < 18446744073709551616) && canon (page a 1 + 4096))
def next (a : Nat) : Nat := if nextOk a then page a 1 + 4096 else 0
def join (p : List Int) (lo : Nat) : Nat :=
  sgn ((p.getD 0 0 % 512).toNat * 549755813888 + (p.getD 1 0 % 512).toNat * 1073741824 + (p.getD 2 0 % 512).toNat * 2097152 + (p.getD 3 0 % 512).toNat * 4096 + lo % 4096)
theorem sgn_run {a : Nat} : IntKind.u64.wrap (wrap64 (IntKind.u64.wrap ((a : Int) * 65536)) / 65536) = ((sgn a : Nat) : Int) := by
  unfold sgn wrap64
  rw [IntKind.wrap_u64, IntKind.wrap_u64]
  split <;> omega
theorem sgn_lt (a : Nat) : sgn a < 18446744073709551616 := by unfold sgn; split <;> omega
theorem idx_lt (a : Nat) (l : Int) : idx a l < 512 := by unfold idx; (repeat' split) <;> omega
theorem size_cases (l : Int) : size l = 0 ∨ size l = 4096 ∨ size l = 2097152 ∨ size l = 1073741824 := by unfold size; (repeat' split) <;> omega
theorem low_le (a : Nat) (l : Int) : low a l ≤ a := by unfold low; split; omega; exact Nat.mod_le _ _
theorem page_le (a : Nat) (l : Int) : page a l ≤ a := Nat.sub_le _ _
def joinTo (p : List Int) (lo : Nat) : Nat → Nat
  | 0 => lo % 4096
  | k + 1 => setN (joinTo p lo k) (39 - 9 * (k : Int)) 9 (p.getD k 0 % 512).toNat
theorem joinTo_lt (p : List Int) (lo : Nat) : ∀ k, k ≤ 4 → joinTo p lo k < 18446744073709551616
  | 0, _ => by unfold joinTo; omega
  | k + 1, h => by
    unfold joinTo setN
    split
    · exact joinTo_lt p lo k (by omega)
    · exact putN_lt (joinTo_lt p lo k (by omega)) (by omega) (by omega)
theorem putN_step {A x lo v q r : Nat} (hq : 2 ^ lo = q) (hr : 2 ^ (lo + 9) = r) (hx : x < q) (hv : v < 512) : putN (A * r + x) lo 9 v = A * r + v * q + x := by
  have hr' : r = 512 * q := by rw [← hr, Nat.pow_add, hq, Nat.mul_comm]
  have h1 : (A * r + x) / r = A := by
    rw [Nat.add_comm, Nat.add_mul_div_right _ _ (by omega), Nat.div_eq_of_lt (by omega), Nat.zero_add]
  have h2 : (A * r + x) % q = x := by
    rw [hr', ← Nat.mul_assoc, Nat.add_comm, Nat.add_mul_mod_self_right, Nat.mod_eq_of_lt hx]
  have h3 : v % 2 ^ 9 = v := Nat.mod_eq_of_lt hv
  unfold putN
  rw [hr, hq, h1, h2, h3]
theorem joinTo_all (p : List Int) (lo : Nat) : sgn (joinTo p lo 4) = join p lo := by
  unfold join
  refine congrArg sgn ?_
  have h0 : (p.getD 0 0 % 512).toNat < 512 := by omega
  have h1 : (p.getD 1 0 % 512).toNat < 512 := by omega
  have h2 : (p.getD 2 0 % 512).toNat < 512 := by omega
  have h3 : (p.getD 3 0 % 512).toNat < 512 := by omega
  have hl : lo % 4096 < 4096 := by omega
  simp only [joinTo, setN]
  generalize (p.getD 0 0 % 512).toNat = a at *
  generalize (p.getD 1 0 % 512).toNat = b at *
  generalize (p.getD 2 0 % 512).toNat = c at *
  generalize (p.getD 3 0 % 512).toNat = d at *
  generalize lo % 4096 = e at *
  rw [if_neg (by unfold isNone; omega), if_neg (by unfold isNone; omega), if_neg (by unfold isNone; omega), if_neg (by unfold isNone; omega)]
  rw [show ((39 : Int) - 9 * ((3 : Nat) : Int)).toNat = 12 from rfl, show ((39 : Int) - 9 * ((2 : Nat) : Int)).toNat = 21 from rfl, show ((39 : Int) - 9 * ((1 : Nat) : Int)).toNat = 30 from rfl, show ((39 : Int) - 9 * ((0 : Nat) : Int)).toNat = 39 from rfl, show ((9 : Int)).toNat = 9 from rfl]
  have e1 : putN e 39 9 a = a * 549755813888 + e := by
    have := putN_step (A := 0) (x := e) (lo := 39) (v := a) (q := 549755813888) (r := 281474976710656) (by decide) (by decide) (by omega) h0
    simpa using this
  have e2 : putN (a * 549755813888 + e) 30 9 b = a * 549755813888 + b * 1073741824 + e :=
    putN_step (A := a) (lo := 30) (by decide) (by decide) (by omega) h1
  have e3 : putN (a * 549755813888 + b * 1073741824 + e) 21 9 c = a * 549755813888 + b * 1073741824 + c * 2097152 + e := by
    have := putN_step (A := a * 512 + b) (x := e) (lo := 21) (v := c) (q := 2097152) (r := 1073741824) (by decide) (by decide) (by omega) h2
    rw [show (a * 512 + b) * 1073741824 = a * 549755813888 + b * 1073741824 by omega] at this
    exact this
  have e4 : putN (a * 549755813888 + b * 1073741824 + c * 2097152 + e) 12 9 d = a * 549755813888 + b * 1073741824 + c * 2097152 + d * 4096 + e := by
    have := putN_step (A := a * 262144 + b * 512 + c) (x := e) (lo := 12) (v := d) (q := 4096) (r := 2097152) (by decide) (by decide) (by omega) h3
    rw [show (a * 262144 + b * 512 + c) * 2097152 = a * 549755813888 + b * 1073741824 + c * 2097152 by omega] at this
    exact this
  rw [e1, e2, e3, e4]
theorem and511 (n : Int) : bits .and .u64 (IntKind.u64.wrap n) 511 = (((n % 512).toNat : Nat) : Int) := by
  have e : IntKind.u64.wrap n = ((n % 18446744073709551616).toNat : Int) := by rw [IntKind.wrap_u64]; omega
  rw [e, show (511 : Int) = ((2 ^ 9 - 1 : Nat) : Int) by decide, u64_and (by omega) (by decide), and_ones]
  omega
theorem and4095 (n : Nat) (h : n < 18446744073709551616) : bits .and .u64 (n : Int) 4095 = ((n % 4096 : Nat) : Int) := by
  rw [show (4095 : Int) = ((2 ^ 12 - 1 : Nat) : Int) by decide, u64_and h (by decide), and_ones]
end Go.Proofs.Ytbifpmaofkgkfaa
