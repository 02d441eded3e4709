/- The references of layer 3, on those of layer 1. -/
import Derived.Test.YtbifpmaofkgkfaaRef
namespace Go.Proofs.Ytbifpmaofkgkfaa
open Go.RowKit
theorem refwith_ {x : Int} {a : Nat} (hx : x = a) (i : Int) (b : Bool) (w : World) (ha : a < 18446744073709551616) :
    Calls Try.prog 66 #[.int .u64 x, .int .i64 i, .bool b] w fun e w' => e = .returned (.int .u64 (withN a i b)) ∧ w = w' := by
  subst hx
  cases b with
  | true =>
    go_enter Try.func66, Try.ntmps66
    go_wp2_with (go_at_call 83; refine (refset_ rfl (show (1 : Int) = ((1 : Nat) : Int) from rfl) _ _ _ ha (by omega)).mono ?_; rintro e w' ⟨rfl, rfl⟩)
    go_ret
    exact ⟨rfl, rfl⟩
  | false =>
    go_enter Try.func66, Try.ntmps66
    go_wp2_with (go_at_call 83; refine (refset_ rfl (show (0 : Int) = ((0 : Nat) : Int) from rfl) _ _ _ ha (by omega)).mono ?_; rintro e w' ⟨rfl, rfl⟩)
    go_ret
    exact ⟨rfl, rfl⟩
theorem refget_ {x : Int} {a : Nat} (hx : x = a) (lo n : Int) (w : World) (ha : a < 18446744073709551616) :
    Calls Try.prog 82 #[.int .u64 x, .int .i64 lo, .int .i64 n] w fun e w' => e = .returned (.int .u64 (getN a lo n)) ∧ w = w' := by
  subst hx
  by_cases h : isNone lo n
  · have H := Lib.hid h
    have e : getN a lo n = 0 := by unfold getN; rw [if_pos h]
    have E := Lib.hid e
    clear h e
    go_enter Try.func82, Try.ntmps82
    go_wp2_with (go_at_call 86; refine (is_no _ _ _ H.out).mono ?_; rintro e w' ⟨rfl, rfl⟩)
    go_ret
    exact ⟨by rw [E.out]; rfl, rfl⟩
  · have H := Lib.hid h
    have e : getN a lo n = a / p2 lo.toNat % p2 n.toNat := by unfold getN p2; rw [if_neg h]
    have hd : a / p2 lo.toNat ≤ a := Nat.div_le_self _ _
    unfold isNone at h
    obtain ⟨l, rfl⟩ := Int.eq_ofNat_of_zero_le (show 0 ≤ lo by omega)
    obtain ⟨m, rfl⟩ := Int.eq_ofNat_of_zero_le (show 0 ≤ n by omega)
    rw [Int.toNat_natCast] at hd e
    rw [Int.toNat_natCast] at e
    have D := Lib.hid (div_p2 a l)
    have E := Lib.hid e
    have hl : l < 64 := by omega
    have hm : m ≤ 64 := by omega
    have hp := p2_pos l
    have hp2 := p2_pos m
    have hp0 : (((p2 l : Nat) : Int) == 0) = false := by rw [beq_eq_false_iff_ne]; omega
    have hq0 : (((p2 m : Nat) : Int) == 0) = false := by rw [beq_eq_false_iff_ne]; omega
    have hw : IntKind.u64.wrap (((a : Nat) : Int) / ((p2 l : Nat) : Int)) = ((a / p2 l : Nat) : Int) := wrap_div l ha
    by_cases h64 : m = 64
    · subst h64
      have e2 : getN a l ((64 : Nat) : Int) = a / p2 l := by
        rw [E.out]; exact Nat.mod_eq_of_lt (by unfold p2 at *; omega)
      have E2 := Lib.hid e2
      have W := Lib.hid hw
      clear h e hw e2
      go_enter Try.func82, Try.ntmps82
      go_wp2_with (first | (go_at_call 86; refine (is_yes _ _ _ H.out).mono ?_; rintro e w' ⟨rfl, rfl⟩) | (go_at_call 70; refine (power_ l _ (by omega) rfl).mono ?_; rintro e w' ⟨rfl, rfl⟩))
      go_ret
      exact ⟨by first | exact ret_int (by rw [W.out, E2.out]) | exact ret_int (W.out.trans (by rw [← E2.out]; rfl)), rfl⟩
    · have hm' : ((m : Int) == 64) = false := by rw [beq_eq_false_iff_ne]; omega
      have hmlt := p2_lt (n := m) (by omega)
      clear h e
      go_enter Try.func82, Try.ntmps82
      go_wp2_with (first | (go_at_call 86; refine (is_yes _ _ _ H.out).mono ?_; rintro e w' ⟨rfl, rfl⟩) | (go_at_call 70; first | ((with_reducible refine (power_ l _ (by omega) rfl).mono ?_); rintro e w' ⟨rfl, rfl⟩) | (refine (power_ m _ (by omega) rfl).mono ?_; rintro e w' ⟨rfl, rfl⟩)))
      go_ret
      exact ⟨ret_int (by rw [E.out, Int.natCast_emod]; first | rfl | (rw [Int.tmod_eq_emod_of_nonneg (by omega)])), rfl⟩
theorem refsign_ {x : Int} {a : Nat} (hx : x = a) (w : World) (ha : a < 18446744073709551616) :
    Calls Try.prog 27 #[.int .u64 x] w fun e w' => e = .returned (.int .u64 (sgn a)) ∧ w = w' := by
  subst hx
  have S0 := Lib.hid (signTo_0 a)
  have S64 := Lib.hid (signTo_64 a ha)
  have SS := Lib.hid (signTo_succ a)
  have S47 := Lib.hid (signTo_47 a)
  have SL := Lib.hid (fun i => signTo_lt a i ha)
  go_enter Try.func27, Try.ntmps27
  go_wp2
  go_loop [0, 3] (fun v i => ∃ k : Nat, 48 ≤ k ∧ k ≤ 64 ∧ i = .int .i64 k ∧ v = .int .u64 ((signTo a k : Nat) : Int)) (fun _ i => 64 - (intOf i).toNat)
  case atStart => exact ⟨48, by omega, by omega, rfl, by rw [S0.out]⟩
  case round =>
    obtain ⟨k, hk0, hk, rfl, rfl⟩ := hrel
    by_cases hlt : k < 64
    · have hb := S47.out k hk0 hk
      have hs := SL.out k hk0 hk
      have hn : signTo a (k + 1) = withN (signTo a k) k (a.testBit 47) := by
        rw [SS.out k hk0 hlt]
        unfold withN setN
        rw [if_neg (by unfold isNone; omega)]; rfl
      have HN := Lib.hid hn
      have HB := Lib.hid hb
      have HS := Lib.hid hs
      clear hb hs hn
      go_wp2_with (first | (go_at_call 67; refine (bit_in rfl HS.out 47 _ (by omega)).mono ?_; rw [HB.out]; rintro e w' ⟨rfl, rfl⟩) | (go_at_call 66; refine (refwith_ rfl _ _ _ HS.out).mono ?_; rintro e w' ⟨rfl, rfl⟩))
      go_round
      case rel => exact ⟨k + 1, by omega, by omega, by go_num, by rw [HN.out]⟩
      case measure => simp [intOf]; omega
    · obtain rfl : k = 64 := by omega
      go_wp2
      go_ret
      exact ⟨by rw [← S64.out]; rfl, rfl⟩
theorem refcanon_ {x : Int} {a : Nat} (hx : x = a) (w : World) (ha : a < 18446744073709551616) :
    Calls Try.prog 25 #[.int .u64 x] w fun e w' => e = .returned (.bool (canon a)) ∧ w = w' := by
  subst hx
  go_enter Try.func25, Try.ntmps25
  go_wp2_with (go_at_call 27; refine (refsign_ rfl _ ha).mono ?_; rintro e w' ⟨rfl, rfl⟩)
  go_ret
  exact ⟨ret_bool (beq_nat _ _), rfl⟩
theorem idx_p2 (a l : Nat) (h : 1 ≤ l ∧ l ≤ 4) : a / p2 (3 + 9 * l) % 512 = idx a l := by
  have h4 : l = 1 ∨ l = 2 ∨ l = 3 ∨ l = 4 := by omega
  rcases h4 with rfl | rfl | rfl | rfl <;> rfl
theorem refindex_ {x : Int} {a : Nat} (hx : x = a) (l : Int) (w : World) (ha : a < 18446744073709551616) :
    Calls Try.prog 29 #[.int .u64 x, .int .i64 l] w fun e w' => e = .returned (.int .i64 (idx a l)) ∧ w = w' := by
  subst hx
  by_cases h : 1 ≤ l ∧ l ≤ 4
  · obtain ⟨m, rfl⟩ := Int.eq_ofNat_of_zero_le (show 0 ≤ l by omega)
    have e := idx_p2 a m (by omega)
    have E := Lib.hid e
    have hp := p2_pos (3 + 9 * m)
    have hp0 : (((p2 (3 + 9 * m) : Nat) : Int) == 0) = false := by rw [beq_eq_false_iff_ne]; omega
    have hd : a / p2 (3 + 9 * m) ≤ a := Nat.div_le_self _ _
    have hw : IntKind.u64.wrap (((a : Nat) : Int) / ((p2 (3 + 9 * m) : Nat) : Int)) = ((a / p2 (3 + 9 * m) : Nat) : Int) := wrap_div (3 + 9 * m) ha
    have h1 : decide ((m : Int) < 1) = false := decide_eq_false (by omega)
    have h2 : decide ((4 : Int) < m) = false := decide_eq_false (by omega)
    have h3 : (m : Int) ≤ 4 := by omega
    clear h e
    go_enter Try.func29, Try.ntmps29
    go_wp2_with (first | (go_at_call 70; refine (power_ (3 + 9 * m) _ (by omega) (by omega)).mono ?_; rintro e w' ⟨rfl, rfl⟩))
    go_ret
    exact ⟨ret_int (by rw [← E.out]; first | exact rem512 _ | (rw [div_p2]; exact rem512 _) | (trace_state; omega)), rfl⟩
  · have e : idx a l = 0 := by unfold idx; rw [if_neg (by omega), if_neg (by omega), if_neg (by omega), if_neg (by omega)]
    have E := Lib.hid e
    by_cases h1 : l < 1
    · have h1' : decide (l < 1) = true := decide_eq_true h1
      clear h e
      go_enter Try.func29, Try.ntmps29
      go_wp2
      go_ret
      exact ⟨by rw [E.out]; rfl, rfl⟩
    · have h1' : decide (l < 1) = false := decide_eq_false h1
      have h2' : decide (4 < l) = true := decide_eq_true (by omega)
      clear h e
      go_enter Try.func29, Try.ntmps29
      go_wp2
      go_ret
      exact ⟨by rw [E.out]; rfl, rfl⟩
theorem refsize_ (l : Int) (w : World) :
    Calls Try.prog 31 #[.int .i64 l] w fun e w' => e = .returned (.int .u64 (size l)) ∧ w = w' := by
  by_cases h1 : l = 1
  · subst h1
    go_enter Try.func31, Try.ntmps31
    go_wp2
    go_ret
    exact ⟨rfl, rfl⟩
  · by_cases h2 : l = 2
    · subst h2
      go_enter Try.func31, Try.ntmps31
      go_wp2
      go_ret
      exact ⟨rfl, rfl⟩
    · by_cases h3 : l = 3
      · subst h3
        go_enter Try.func31, Try.ntmps31
        go_wp2
        go_ret
        exact ⟨rfl, rfl⟩
      · have e : size l = 0 := by unfold size; rw [if_neg h1, if_neg h2, if_neg h3]
        have E := Lib.hid e
        have b1 : (l == 1) = false := beq_eq_false_iff_ne.2 h1
        have b2 : (l == 2) = false := beq_eq_false_iff_ne.2 h2
        have b3 : (l == 3) = false := beq_eq_false_iff_ne.2 h3
        clear e
        go_enter Try.func31, Try.ntmps31
        go_wp2
        go_ret
        exact ⟨by rw [E.out]; rfl, rfl⟩
theorem reflow_ {x : Int} {a : Nat} (hx : x = a) (l : Int) (w : World) :
    Calls Try.prog 35 #[.int .u64 x, .int .i64 l] w fun e w' => e = .returned (.int .u64 (low a l)) ∧ w = w' := by
  subst hx
  by_cases h0 : size l = 0
  · have e : low a l = 0 := by unfold low; rw [if_pos h0]
    have E := Lib.hid e
    have h0' : (((size l : Nat) : Int) == 0) = true := by rw [h0]; rfl
    clear h0 e
    go_enter Try.func35, Try.ntmps35
    go_wp2_with (first | (go_at_call 31; refine (refsize_ _ _).mono ?_; rintro e w' ⟨rfl, rfl⟩))
    go_ret
    exact ⟨by rw [E.out]; rfl, rfl⟩
  · have e : low a l = a % size l := by unfold low; rw [if_neg h0]
    have E := Lib.hid e
    have h0' : (((size l : Nat) : Int) == 0) = false := by rw [beq_eq_false_iff_ne]; omega
    have h2 : 0 < size l := by omega
    clear h0 e
    go_enter Try.func35, Try.ntmps35
    go_wp2_with (first | (go_at_call 31; refine (refsize_ _ _).mono ?_; rintro e w' ⟨rfl, rfl⟩))
    go_ret
    exact ⟨by rw [E.out]; exact ret_int (by rw [Int.natCast_emod]; first | done | rfl | (rw [Int.tmod_eq_emod_of_nonneg (by omega)])), rfl⟩
theorem refpage_ {x : Int} {a : Nat} (hx : x = a) (l : Int) (w : World) (ha : a < 18446744073709551616) :
    Calls Try.prog 33 #[.int .u64 x, .int .i64 l] w fun e w' => e = .returned (.int .u64 (page a l)) ∧ w = w' := by
  subst hx
  have h1 := low_le a l
  go_enter Try.func33, Try.ntmps33
  go_wp2_with (first | (go_at_call 35; refine (reflow_ rfl _ _).mono ?_; rintro e w' ⟨rfl, rfl⟩))
  go_ret
  exact ⟨ret_int (by unfold page; omega), rfl⟩
end Go.Proofs.Ytbifpmaofkgkfaa
