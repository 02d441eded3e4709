/- The laws of layer 3, the rest: the walks. -/
import Derived.Test.YtbifpmaofkgkfaaLaw03
namespace Go.Proofs.Ytbifpmaofkgkfaa
open Go.RowKit
theorem index_no {x : Int} {a : Nat} (hx : x = a) (l : Int) (w : World) (ha : a < 18446744073709551616) (h : ¬ (1 ≤ l ∧ l ≤ 4)) :
    Calls Try.prog 28 #[.int .u64 x, .int .i64 l] w fun e w' => e = .returned (.int .i64 0) ∧ Grows w w' := by
  refine (index_ hx l w ha).mono fun e w' ⟨he, hw⟩ => ⟨?_, hw⟩
  rw [he]; unfold idx; rw [if_neg (by omega), if_neg (by omega), if_neg (by omega), if_neg (by omega)]; rfl
theorem size_no (l : Int) (w : World) (h : ¬ (1 ≤ l ∧ l ≤ 3)) :
    Calls Try.prog 30 #[.int .i64 l] w fun e w' => e = .returned (.int .u64 0) ∧ Grows w w' := by
  refine (size_ l w).mono fun e w' ⟨he, hw⟩ => ⟨?_, hw⟩
  rw [he]; unfold size; rw [if_neg (by omega), if_neg (by omega), if_neg (by omega)]; rfl
theorem low_no {x : Int} {a : Nat} (hx : x = a) (l : Int) (w : World) (ha : a < 18446744073709551616) (h : ¬ (1 ≤ l ∧ l ≤ 3)) :
    Calls Try.prog 34 #[.int .u64 x, .int .i64 l] w fun e w' => e = .returned (.int .u64 0) ∧ Grows w w' := by
  refine (low_ hx l w ha).mono fun e w' ⟨he, hw⟩ => ⟨?_, hw⟩
  rw [he]; unfold low size; rw [if_neg (by omega : ¬ l = 1), if_neg (by omega : ¬ l = 2), if_neg (by omega : ¬ l = 3)]; rfl
theorem page_no {x : Int} {a : Nat} (hx : x = a) (l : Int) (w : World) (ha : a < 18446744073709551616) (h : ¬ (1 ≤ l ∧ l ≤ 3)) :
    Calls Try.prog 32 #[.int .u64 x, .int .i64 l] w fun e w' => e = .returned (.int .u64 a) ∧ Grows w w' := by
  refine (page_ hx l w ha).mono fun e w' ⟨he, hw⟩ => ⟨?_, hw⟩
  rw [he]; unfold page low size; rw [if_neg (by omega : ¬ l = 1), if_neg (by omega : ¬ l = 2), if_neg (by omega : ¬ l = 3)]; rfl
theorem vaNone_ (a : Nat) (n : Nat) (w : World) (ha : a < 18446744073709551616) (hn : n < 256) :
    Calls Try.prog 6 #[.int .u64 a, .int .u8 n] w fun e w' => e = .returned (.bool true) ∧ Grows w w' := by
  go_enter Try.func6, Try.ntmps6
  go_wp2_with fail
  refine (awake03_ _).mono ?_; rintro e w1 ⟨rfl, hb1⟩
  go_wp2_with fail
  refine (index_no rfl _ _ ha (by omega)).mono ?_; rintro e w2 ⟨rfl, hb2⟩
  go_wp2_with fail
  refine (index_no rfl _ _ ha (by omega)).mono ?_; rintro e w3 ⟨rfl, hb3⟩
  go_wp2_with fail
  refine (size_no _ _ (by omega)).mono ?_; rintro e w4 ⟨rfl, hb4⟩
  go_wp2_with fail
  refine (page_no rfl _ _ ha (by omega)).mono ?_; rintro e w5 ⟨rfl, hb5⟩
  go_wp2_with fail
  refine (low_no rfl _ _ ha (by omega)).mono ?_; rintro e w6 ⟨rfl, hb6⟩
  go_wp2_with fail
  refine (page_no rfl _ _ ha (by omega)).mono ?_; rintro e w7 ⟨rfl, hb7⟩
  go_wp2_with fail
  go_ret
  exact ⟨rfl, ((hb1.trans' hb2).trans' hb3).trans' (((hb4.trans' hb5).trans' hb6).trans' hb7)⟩
theorem one_ (b : Bool) (w : World) : Calls Try.prog 36 #[.bool b] w fun e w' => e = .returned (.int .u64 (if b then 1 else 0)) ∧ w = w' := by
  cases b <;> (go_enter Try.func36, Try.ntmps36; go_wp2; go_ret; exact ⟨rfl, rfl⟩)
theorem low_lt (a : Nat) (k : Int) (h : 1 ≤ k ∧ k ≤ 3) : low a k < size k := by
  have h3 : k = 1 ∨ k = 2 ∨ k = 3 := by omega
  rcases h3 with rfl | rfl | rfl <;> (unfold low size; simp; omega)
theorem page_page (a : Nat) (k : Int) (h : 1 ≤ k ∧ k ≤ 3) : page (page a k) k = page a k := by
  have h3 : k = 1 ∨ k = 2 ∨ k = 3 := by omega
  rcases h3 with rfl | rfl | rfl <;> (unfold page low size; simp; omega)
theorem page_up (a b : Nat) (k : Int) (h : 1 ≤ k ∧ k ≤ 2) (he : page a k = page b k) : page a (k + 1) = page b (k + 1) := by
  have h3 : k = 1 ∨ k = 2 := by omega
  rcases h3 with rfl | rfl <;> (unfold page low size at *; simp at *; omega)
theorem vaPages_1 (a b : Nat) (n : Nat) (w : World) (ha : a < 18446744073709551616) (hb : b < 18446744073709551616) (hn : n < 256) (hk : (n : Int) % 3 = 0) :
    Calls Try.prog 4 #[.int .u64 a, .int .u64 b, .int .u8 n] w fun e w' => e = .returned (.bool true) ∧ Grows w w' := by
  have hlt : ((low a 1 : Nat) : Int) < 4096 := by have := low_lt a 1 (by omega); rw [show size 1 = 4096 from rfl] at this; omega
  have hle := low_le a 1
  have hsum : ((page a 1 : Nat) : Int) + ((low a 1 : Nat) : Int) = a := by unfold page; omega
  have P2 := Lib.hid (page_page a 1 (by omega))
  have hpl : page a 1 < 18446744073709551616 := Nat.lt_of_le_of_lt (page_le a 1) ha
  clear hle
  by_cases hs : page a 1 = page b 1
  · have pu : page a 2 = page b 2 := page_up a b 1 (by omega) hs
    have PU := Lib.hid pu
    clear pu
    have hs1 : (((page a 1 : Nat) : Int) == ((page b 1 : Nat) : Int)) = true := by rw [hs]; exact beq_self_eq_true _
    clear hs
    go_enter Try.func4, Try.ntmps4
    go_wp2_with fail
    refine (awake03_ _).mono ?_; rintro e w1 ⟨rfl, hb1⟩
    go_wp2_with fail
    refine (page_ rfl _ _ ha).mono ?_; rintro e w2 ⟨rfl, hb2⟩
    go_wp2_with fail
    refine (page_ rfl _ _ ha).mono ?_; rintro e w3 ⟨rfl, hb3⟩
    go_wp2_with fail
    refine (page_ rfl _ _ hb).mono ?_; rintro e w4 ⟨rfl, hb4⟩
    go_wp2_with fail
    refine (low_ rfl _ _ ha).mono ?_; rintro e w5 ⟨rfl, hb5⟩
    go_wp2_with fail
    refine (low_ rfl _ _ ha).mono ?_; rintro e w6 ⟨rfl, hb6⟩
    go_wp2_with fail
    refine (size_ 1 _).mono ?_; rw [show size 1 = 4096 from rfl]; rintro e w7 ⟨rfl, hb7⟩
    go_wp2_with fail
    refine (page_ rfl _ _ hpl).mono ?_; rw [P2.out]; rintro e w8 ⟨rfl, hb8⟩
    go_wp2_with fail
    refine (page_ rfl _ _ ha).mono ?_; rintro e w9 ⟨rfl, hb9⟩
    go_wp2_with fail
    refine (page_ rfl _ _ hb).mono ?_; rw [← PU.out]; rintro e w10 ⟨rfl, hb10⟩
    go_wp2_with fail
    refine (size_ 1 _).mono ?_; rw [show size 1 = 4096 from rfl]; rintro e w11 ⟨rfl, hb11⟩
    go_wp2_with fail
    refine (size_ 0 _).mono ?_; rw [show size 0 = 0 from rfl]; rintro e w12 ⟨rfl, hb12⟩
    go_wp2_with fail
    refine (one_ _ _).mono ?_; rintro e w13 ⟨rfl, rfl⟩
    go_wp2_with fail
    go_ret
    exact ⟨rfl, Grows.trans' (((((hb1.trans' hb2).trans' hb3).trans' hb4).trans' hb5).trans' ((hb6.trans' hb7).trans' hb8)) ((hb9.trans' hb10).trans' (hb11.trans' hb12))⟩
  · have hs1 : (((page a 1 : Nat) : Int) == ((page b 1 : Nat) : Int)) = false := by rw [beq_eq_false_iff_ne]; omega
    clear hs
    go_enter Try.func4, Try.ntmps4
    go_wp2_with fail
    refine (awake03_ _).mono ?_; rintro e w1 ⟨rfl, hb1⟩
    go_wp2_with fail
    refine (page_ rfl _ _ ha).mono ?_; rintro e w2 ⟨rfl, hb2⟩
    go_wp2_with fail
    refine (page_ rfl _ _ ha).mono ?_; rintro e w3 ⟨rfl, hb3⟩
    go_wp2_with fail
    refine (page_ rfl _ _ hb).mono ?_; rintro e w4 ⟨rfl, hb4⟩
    go_wp2_with fail
    refine (low_ rfl _ _ ha).mono ?_; rintro e w5 ⟨rfl, hb5⟩
    go_wp2_with fail
    refine (low_ rfl _ _ ha).mono ?_; rintro e w6 ⟨rfl, hb6⟩
    go_wp2_with fail
    refine (size_ 1 _).mono ?_; rw [show size 1 = 4096 from rfl]; rintro e w7 ⟨rfl, hb7⟩
    go_wp2_with fail
    refine (page_ rfl _ _ hpl).mono ?_; rw [P2.out]; rintro e w8 ⟨rfl, hb8⟩
    go_wp2_with fail
    refine (size_ 1 _).mono ?_; rw [show size 1 = 4096 from rfl]; rintro e w11 ⟨rfl, hb11⟩
    go_wp2_with fail
    refine (size_ 0 _).mono ?_; rw [show size 0 = 0 from rfl]; rintro e w12 ⟨rfl, hb12⟩
    go_wp2_with fail
    refine (one_ _ _).mono ?_; rintro e w13 ⟨rfl, rfl⟩
    go_wp2_with fail
    go_ret
    exact ⟨rfl, Grows.trans' (((((hb1.trans' hb2).trans' hb3).trans' hb4).trans' hb5).trans' ((hb6.trans' hb7).trans' hb8)) (hb11.trans' hb12)⟩
theorem vaPages_2 (a b : Nat) (n : Nat) (w : World) (ha : a < 18446744073709551616) (hb : b < 18446744073709551616) (hn : n < 256) (hk : (n : Int) % 3 = 1) :
    Calls Try.prog 4 #[.int .u64 a, .int .u64 b, .int .u8 n] w fun e w' => e = .returned (.bool true) ∧ Grows w w' := by
  have hlt : ((low a 2 : Nat) : Int) < 2097152 := by have := low_lt a 2 (by omega); rw [show size 2 = 2097152 from rfl] at this; omega
  have hle := low_le a 2
  have hsum : ((page a 2 : Nat) : Int) + ((low a 2 : Nat) : Int) = a := by unfold page; omega
  have P2 := Lib.hid (page_page a 2 (by omega))
  have hpl : page a 2 < 18446744073709551616 := Nat.lt_of_le_of_lt (page_le a 2) ha
  clear hle
  by_cases hs : page a 2 = page b 2
  · have pu : page a 3 = page b 3 := page_up a b 2 (by omega) hs
    have PU := Lib.hid pu
    clear pu
    have hs1 : (((page a 2 : Nat) : Int) == ((page b 2 : Nat) : Int)) = true := by rw [hs]; exact beq_self_eq_true _
    clear hs
    go_enter Try.func4, Try.ntmps4
    go_wp2_with fail
    refine (awake03_ _).mono ?_; rintro e w1 ⟨rfl, hb1⟩
    go_wp2_with fail
    refine (page_ rfl _ _ ha).mono ?_; rintro e w2 ⟨rfl, hb2⟩
    go_wp2_with fail
    refine (page_ rfl _ _ ha).mono ?_; rintro e w3 ⟨rfl, hb3⟩
    go_wp2_with fail
    refine (page_ rfl _ _ hb).mono ?_; rintro e w4 ⟨rfl, hb4⟩
    go_wp2_with fail
    refine (low_ rfl _ _ ha).mono ?_; rintro e w5 ⟨rfl, hb5⟩
    go_wp2_with fail
    refine (low_ rfl _ _ ha).mono ?_; rintro e w6 ⟨rfl, hb6⟩
    go_wp2_with fail
    refine (size_ 2 _).mono ?_; rw [show size 2 = 2097152 from rfl]; rintro e w7 ⟨rfl, hb7⟩
    go_wp2_with fail
    refine (page_ rfl _ _ hpl).mono ?_; rw [P2.out]; rintro e w8 ⟨rfl, hb8⟩
    go_wp2_with fail
    refine (page_ rfl _ _ ha).mono ?_; rintro e w9 ⟨rfl, hb9⟩
    go_wp2_with fail
    refine (page_ rfl _ _ hb).mono ?_; rw [← PU.out]; rintro e w10 ⟨rfl, hb10⟩
    go_wp2_with fail
    refine (size_ 2 _).mono ?_; rw [show size 2 = 2097152 from rfl]; rintro e w11 ⟨rfl, hb11⟩
    go_wp2_with fail
    refine (size_ 1 _).mono ?_; rw [show size 1 = 4096 from rfl]; rintro e w12 ⟨rfl, hb12⟩
    go_wp2_with fail
    refine (one_ _ _).mono ?_; rintro e w13 ⟨rfl, rfl⟩
    go_wp2_with fail
    go_ret
    exact ⟨rfl, Grows.trans' (((((hb1.trans' hb2).trans' hb3).trans' hb4).trans' hb5).trans' ((hb6.trans' hb7).trans' hb8)) ((hb9.trans' hb10).trans' (hb11.trans' hb12))⟩
  · have hs1 : (((page a 2 : Nat) : Int) == ((page b 2 : Nat) : Int)) = false := by rw [beq_eq_false_iff_ne]; omega
    clear hs
    go_enter Try.func4, Try.ntmps4
    go_wp2_with fail
    refine (awake03_ _).mono ?_; rintro e w1 ⟨rfl, hb1⟩
    go_wp2_with fail
    refine (page_ rfl _ _ ha).mono ?_; rintro e w2 ⟨rfl, hb2⟩
    go_wp2_with fail
    refine (page_ rfl _ _ ha).mono ?_; rintro e w3 ⟨rfl, hb3⟩
    go_wp2_with fail
    refine (page_ rfl _ _ hb).mono ?_; rintro e w4 ⟨rfl, hb4⟩
    go_wp2_with fail
    refine (low_ rfl _ _ ha).mono ?_; rintro e w5 ⟨rfl, hb5⟩
    go_wp2_with fail
    refine (low_ rfl _ _ ha).mono ?_; rintro e w6 ⟨rfl, hb6⟩
    go_wp2_with fail
    refine (size_ 2 _).mono ?_; rw [show size 2 = 2097152 from rfl]; rintro e w7 ⟨rfl, hb7⟩
    go_wp2_with fail
    refine (page_ rfl _ _ hpl).mono ?_; rw [P2.out]; rintro e w8 ⟨rfl, hb8⟩
    go_wp2_with fail
    refine (size_ 2 _).mono ?_; rw [show size 2 = 2097152 from rfl]; rintro e w11 ⟨rfl, hb11⟩
    go_wp2_with fail
    refine (size_ 1 _).mono ?_; rw [show size 1 = 4096 from rfl]; rintro e w12 ⟨rfl, hb12⟩
    go_wp2_with fail
    refine (one_ _ _).mono ?_; rintro e w13 ⟨rfl, rfl⟩
    go_wp2_with fail
    go_ret
    exact ⟨rfl, Grows.trans' (((((hb1.trans' hb2).trans' hb3).trans' hb4).trans' hb5).trans' ((hb6.trans' hb7).trans' hb8)) (hb11.trans' hb12)⟩
theorem vaPages_3 (a b : Nat) (n : Nat) (w : World) (ha : a < 18446744073709551616) (hb : b < 18446744073709551616) (hn : n < 256) (hk : (n : Int) % 3 = 2) :
    Calls Try.prog 4 #[.int .u64 a, .int .u64 b, .int .u8 n] w fun e w' => e = .returned (.bool true) ∧ Grows w w' := by
  have hlt : ((low a 3 : Nat) : Int) < 1073741824 := by have := low_lt a 3 (by omega); rw [show size 3 = 1073741824 from rfl] at this; omega
  have hle := low_le a 3
  have hsum : ((page a 3 : Nat) : Int) + ((low a 3 : Nat) : Int) = a := by unfold page; omega
  have P2 := Lib.hid (page_page a 3 (by omega))
  have hpl : page a 3 < 18446744073709551616 := Nat.lt_of_le_of_lt (page_le a 3) ha
  clear hle
  by_cases hs : page a 3 = page b 3
  · have hs1 : (((page a 3 : Nat) : Int) == ((page b 3 : Nat) : Int)) = true := by rw [hs]; exact beq_self_eq_true _
    clear hs
    go_enter Try.func4, Try.ntmps4
    go_wp2_with fail
    refine (awake03_ _).mono ?_; rintro e w1 ⟨rfl, hb1⟩
    go_wp2_with fail
    refine (page_ rfl _ _ ha).mono ?_; rintro e w2 ⟨rfl, hb2⟩
    go_wp2_with fail
    refine (page_ rfl _ _ ha).mono ?_; rintro e w3 ⟨rfl, hb3⟩
    go_wp2_with fail
    refine (page_ rfl _ _ hb).mono ?_; rintro e w4 ⟨rfl, hb4⟩
    go_wp2_with fail
    refine (low_ rfl _ _ ha).mono ?_; rintro e w5 ⟨rfl, hb5⟩
    go_wp2_with fail
    refine (low_ rfl _ _ ha).mono ?_; rintro e w6 ⟨rfl, hb6⟩
    go_wp2_with fail
    refine (size_ 3 _).mono ?_; rw [show size 3 = 1073741824 from rfl]; rintro e w7 ⟨rfl, hb7⟩
    go_wp2_with fail
    refine (page_ rfl _ _ hpl).mono ?_; rw [P2.out]; rintro e w8 ⟨rfl, hb8⟩
    go_wp2_with fail
    refine (size_ 3 _).mono ?_; rw [show size 3 = 1073741824 from rfl]; rintro e w11 ⟨rfl, hb11⟩
    go_wp2_with fail
    refine (size_ 2 _).mono ?_; rw [show size 2 = 2097152 from rfl]; rintro e w12 ⟨rfl, hb12⟩
    go_wp2_with fail
    refine (one_ _ _).mono ?_; rintro e w13 ⟨rfl, rfl⟩
    go_wp2_with fail
    go_ret
    exact ⟨rfl, Grows.trans' (((((hb1.trans' hb2).trans' hb3).trans' hb4).trans' hb5).trans' ((hb6.trans' hb7).trans' hb8)) (hb11.trans' hb12)⟩
  · have hs1 : (((page a 3 : Nat) : Int) == ((page b 3 : Nat) : Int)) = false := by rw [beq_eq_false_iff_ne]; omega
    clear hs
    go_enter Try.func4, Try.ntmps4
    go_wp2_with fail
    refine (awake03_ _).mono ?_; rintro e w1 ⟨rfl, hb1⟩
    go_wp2_with fail
    refine (page_ rfl _ _ ha).mono ?_; rintro e w2 ⟨rfl, hb2⟩
    go_wp2_with fail
    refine (page_ rfl _ _ ha).mono ?_; rintro e w3 ⟨rfl, hb3⟩
    go_wp2_with fail
    refine (page_ rfl _ _ hb).mono ?_; rintro e w4 ⟨rfl, hb4⟩
    go_wp2_with fail
    refine (low_ rfl _ _ ha).mono ?_; rintro e w5 ⟨rfl, hb5⟩
    go_wp2_with fail
    refine (low_ rfl _ _ ha).mono ?_; rintro e w6 ⟨rfl, hb6⟩
    go_wp2_with fail
    refine (size_ 3 _).mono ?_; rw [show size 3 = 1073741824 from rfl]; rintro e w7 ⟨rfl, hb7⟩
    go_wp2_with fail
    refine (page_ rfl _ _ hpl).mono ?_; rw [P2.out]; rintro e w8 ⟨rfl, hb8⟩
    go_wp2_with fail
    refine (size_ 3 _).mono ?_; rw [show size 3 = 1073741824 from rfl]; rintro e w11 ⟨rfl, hb11⟩
    go_wp2_with fail
    refine (size_ 2 _).mono ?_; rw [show size 2 = 2097152 from rfl]; rintro e w12 ⟨rfl, hb12⟩
    go_wp2_with fail
    refine (one_ _ _).mono ?_; rintro e w13 ⟨rfl, rfl⟩
    go_wp2_with fail
    go_ret
    exact ⟨rfl, Grows.trans' (((((hb1.trans' hb2).trans' hb3).trans' hb4).trans' hb5).trans' ((hb6.trans' hb7).trans' hb8)) (hb11.trans' hb12)⟩
theorem vaPages_ (a b : Nat) (n : Nat) (w : World) (ha : a < 18446744073709551616) (hb : b < 18446744073709551616) (hn : n < 256) :
    Calls Try.prog 4 #[.int .u64 a, .int .u64 b, .int .u8 n] w fun e w' => e = .returned (.bool true) ∧ Grows w w' := by
  have h : (n : Int) % 3 = 0 ∨ (n : Int) % 3 = 1 ∨ (n : Int) % 3 = 2 := by omega
  rcases h with h | h | h
  · exact vaPages_1 a b n w ha hb hn h
  · exact vaPages_2 a b n w ha hb hn h
  · exact vaPages_3 a b n w ha hb hn h
end Go.Proofs.Ytbifpmaofkgkfaa
