/- The references of the layers 1 and 3. -/
import Derived.Test.YtbifpmaofkgkfaaProg
import Derived.Test.YtbifpmaofkgkfaaRefPlain
namespace Go.Proofs.Ytbifpmaofkgkfaa
open Go.RowKit
theorem power_ (n : Nat) (w : World) (h : n ≤ 63) {x : Int} (hx : x = n) :
    Calls Try.prog 70 #[.int .i64 x] w fun e w' => e = .returned (.int .u64 ((p2 n : Nat) : Int)) ∧ w = w' := by
  subst hx
  go_enter Try.func70, Try.ntmps70
  go_wp2
  go_loop [3, 4] (fun v i => ∃ k : Nat, k ≤ n ∧ i = .int .i64 k ∧ v = .int .u64 ((p2 k : Nat) : Int)) (fun _ i => n - (intOf i).toNat)
  case atStart => exact ⟨0, by omega, rfl, rfl⟩
  case round =>
    obtain ⟨k, hk, rfl, rfl⟩ := hrel
    by_cases hlt : k < n
    · have HW := Lib.hid (p2_succ (n := k) (by omega))
      go_wp2
      go_round
      case rel => exact ⟨k + 1, by omega, by go_num, by rw [HW.out]⟩
      case measure => simp [intOf]; omega
    · obtain rfl : k = n := by omega
      go_wp2
      go_ret
      exact ⟨rfl, rfl⟩
theorem bit_out {x : Int} {a : Nat} (_hx : x = a) (i : Int) (w : World) (h : i < 0 ∨ 64 ≤ i) :
    Calls Try.prog 67 #[.int .u64 x, .int .i64 i] w fun e w' => e = .returned (.bool false) ∧ w = w' := by
  by_cases h1 : i < 0
  · have h2 : decide (0 ≤ i) = false := decide_eq_false (by omega)
    go_enter Try.func67, Try.ntmps67
    go_wp2
    go_ret
    exact ⟨rfl, rfl⟩
  · have h2 : decide (0 ≤ i) = true := decide_eq_true (by omega)
    have h3 : decide (i ≤ 63) = false := decide_eq_false (by omega)
    go_enter Try.func67, Try.ntmps67
    go_wp2
    go_ret
    exact ⟨rfl, rfl⟩
theorem bit_in {x : Int} {a : Nat} (hx : x = a) (ha : a < 18446744073709551616) (i : Nat) (w : World) (h : i < 64) :
    Calls Try.prog 67 #[.int .u64 x, .int .i64 i] w fun e w' => e = .returned (.bool (a.testBit i)) ∧ w = w' := by
  subst hx
  have h2 : decide ((0 : Int) ≤ (i : Int)) = true := decide_eq_true (by omega)
  have h3 : decide ((i : Int) ≤ 63) = true := decide_eq_true (by omega)
  have H := Lib.hid (bitI_run (x := a) (i := i) ha)
  have hp := p2_pos i
  go_enter Try.func67, Try.ntmps67
  go_wp2_with (first | (go_at_call 70; refine (power_ i _ (by omega) rfl).mono ?_; rintro e w' ⟨rfl, rfl⟩))
  go_ret
  exact ⟨ret_bool H.out, rfl⟩
theorem bit_at {x y : Int} {a i : Nat} (hx : x = a) (hy : y = i) (ha : a < 18446744073709551616) (w : World) (h : i < 64) :
    Calls Try.prog 67 #[.int .u64 x, .int .i64 y] w fun e w' => e = .returned (.bool (a.testBit i)) ∧ w = w' := by
  subst hy
  exact bit_in hx ha i w h
theorem bit_ {x : Int} {a : Nat} (hx : x = a) (ha : a < 18446744073709551616) (i : Int) (w : World) :
    Calls Try.prog 67 #[.int .u64 x, .int .i64 i] w fun e w' => e = .returned (.bool (bitI a i)) ∧ w = w' := by
  by_cases h : i < 0 ∨ 64 ≤ i
  · refine (bit_out hx i w h).mono fun e w' ⟨he, hw⟩ => ⟨?_, hw⟩
    rw [he]
    unfold bitI
    rcases h with h | h
    · rw [decide_eq_false (by omega)]; rfl
    · rw [testBit_64 ha (by omega), Bool.and_false]
  · obtain ⟨j, rfl⟩ := Int.eq_ofNat_of_zero_le (show 0 ≤ i by omega)
    refine (bit_in hx ha j w (by omega)).mono fun e w' ⟨he, hw⟩ => ⟨?_, hw⟩
    rw [he]
    unfold bitI
    rw [decide_eq_true (by omega), Bool.true_and]; rfl
theorem is_yes (lo n : Int) (w : World) (h : ¬ isNone lo n) :
    Calls Try.prog 86 #[.int .i64 lo, .int .i64 n] w fun e w' => e = .returned (.bool true) ∧ w = w' := by
  unfold isNone at h
  have h0 : decide (0 ≤ lo) = true := decide_eq_true (by omega)
  have h1 : decide (1 ≤ n) = true := decide_eq_true (by omega)
  have h2 : decide (lo ≤ 64) = true := decide_eq_true (by omega)
  have h3 : decide (n ≤ 64 - lo) = true := decide_eq_true (by omega)
  have h4 : 0 ≤ lo := by omega
  have h5 : lo ≤ 64 := by omega
  have h6 : n ≤ 64 - lo := by omega
  clear h
  go_enter Try.func86, Try.ntmps86
  go_wp2
  go_ret
  exact ⟨rfl, rfl⟩
theorem is_no (lo n : Int) (w : World) (h : isNone lo n) :
    Calls Try.prog 86 #[.int .i64 lo, .int .i64 n] w fun e w' => e = .returned (.bool false) ∧ w = w' := by
  unfold isNone at h
  by_cases h0 : 0 ≤ lo
  · have h0' : decide (0 ≤ lo) = true := decide_eq_true h0
    by_cases h1 : 1 ≤ n
    · have h1' : decide (1 ≤ n) = true := decide_eq_true h1
      by_cases h2 : lo ≤ 64
      · have h2' : decide (lo ≤ 64) = true := decide_eq_true h2
        have h3' : decide (n ≤ 64 - lo) = false := decide_eq_false (by omega)
        clear h
        go_enter Try.func86, Try.ntmps86
        go_wp2
        go_ret
        exact ⟨rfl, rfl⟩
      · have h2' : decide (lo ≤ 64) = false := decide_eq_false h2
        clear h
        go_enter Try.func86, Try.ntmps86
        go_wp2
        go_ret
        exact ⟨rfl, rfl⟩
    · have h1' : decide (1 ≤ n) = false := decide_eq_false h1
      clear h
      go_enter Try.func86, Try.ntmps86
      go_wp2
      go_ret
      exact ⟨rfl, rfl⟩
  · have h0' : decide (0 ≤ lo) = false := decide_eq_false h0
    clear h
    go_enter Try.func86, Try.ntmps86
    go_wp2
    go_ret
    exact ⟨rfl, rfl⟩
theorem refset_ {x y : Int} {a v : Nat} (hx : x = a) (hy : y = v) (lo n : Int) (w : World) (ha : a < 18446744073709551616) (hv : v < 18446744073709551616) :
    Calls Try.prog 83 #[.int .u64 x, .int .i64 lo, .int .i64 n, .int .u64 y] w fun e w' => e = .returned (.int .u64 (setN a lo n v)) ∧ w = w' := by
  subst hx hy
  by_cases h : isNone lo n
  · have H := Lib.hid h
    have e : setN a lo n v = a := by unfold setN; rw [if_pos h]
    have E := Lib.hid e
    clear h e
    go_enter Try.func83, Try.ntmps83
    go_wp2_with (go_at_call 86; refine (is_no _ _ _ H.out).mono ?_; rintro e w' ⟨rfl, rfl⟩)
    go_ret
    exact ⟨by rw [E.out]; rfl, rfl⟩
  · have H := Lib.hid h
    have S := Lib.hid (setN_lt (lo := lo) (n := n) (v := v) ha)
    have e : setN a lo n v = putN a lo.toNat n.toNat v := by unfold setN; rw [if_neg h]
    have B : Hid (∀ k : Nat, k < 64 → (setN a lo n v).testBit k = if lo ≤ k ∧ (k : Int) < lo + n then v.testBit (k - lo.toNat) else a.testBit k) := by
      intro k hk
      rw [e, testBit_putN]
      unfold isNone at h
      by_cases h1 : k < lo.toNat
      · rw [if_pos h1, if_neg (by omega)]
      · rw [if_neg h1]
        by_cases h2 : k < lo.toNat + n.toNat
        · rw [if_pos h2, if_pos (by omega)]
        · rw [if_neg h2, if_neg (by omega)]
    unfold isNone at h
    have h0 : 0 ≤ lo := by omega
    have h1 : 1 ≤ n := by omega
    have h2 : lo < 64 := by omega
    have h3 : n ≤ 64 - lo := by omega
    clear h e
    generalize setN a lo n v = s at *
    go_enter Try.func83, Try.ntmps83
    go_wp2_with (go_at_call 86; refine (is_yes _ _ _ H.out).mono ?_; rintro e w' ⟨rfl, rfl⟩)
    go_loop [9, 10] (fun o i => ∃ k : Nat, k ≤ 64 ∧ i = .int .i64 k ∧ o = .int .u64 ((setTo s k : Nat) : Int)) (fun _ i => 64 - (intOf i).toNat)
    case atStart => exact ⟨0, by omega, rfl, by rw [setTo_0]; rfl⟩
    case round =>
      obtain ⟨k, hk, rfl, rfl⟩ := hrel
      by_cases hlt : k < 64
      · have hb := B.out k hlt
        have hl1 := setTo_lt s (i := k) (by omega)
        have hl2 := setTo_lt s (i := k + 1) (by omega)
        by_cases hin : lo ≤ k ∧ (k : Int) < lo + n
        · obtain ⟨hi1, hi2⟩ := hin
          rw [if_pos ⟨hi1, hi2⟩] at hb
          have hi1' : decide (lo ≤ (k : Int)) = true := decide_eq_true hi1
          have hi2' : decide ((k : Int) < lo + n) = true := decide_eq_true hi2
          have hk2 : (k : Int) - lo = ((k - lo.toNat : Nat) : Int) := by omega
          have HK := Lib.hid hk2
          have hk3 : k - lo.toNat < 64 := by omega
          cases hbb : s.testBit k with
          | true =>
            have ST := Lib.hid (setTo_yes hbb)
            have hs : (setTo s k : Int) + (p2 k : Int) ≤ 18446744073709551615 := by have := ST.out; omega
            have HB := Lib.hid (hb.symm.trans hbb)
            clear hb hbb hl2 hk2
            go_wp2_with (first | (go_at_call 67; first | ((with_reducible refine (bit_in rfl ha k _ hlt).mono ?_); rintro e w' ⟨rfl, rfl⟩) | (rw [HK.out]; refine (bit_in rfl hv _ _ hk3).mono ?_; rw [HB.out]; rintro e w' ⟨rfl, rfl⟩)) | (go_at_call 70; refine (power_ k _ (by omega) rfl).mono ?_; rintro e w' ⟨rfl, rfl⟩))
            go_round
            case rel => exact ⟨k + 1, by omega, by go_num, by rw [ST.out]; go_num⟩
            case measure => simp [intOf]; omega
          | false =>
            have ST := Lib.hid (setTo_no hbb)
            have HB := Lib.hid (hb.symm.trans hbb)
            clear hb hbb hl2 hk2
            go_wp2_with (first | (go_at_call 67; first | ((with_reducible refine (bit_in rfl ha k _ hlt).mono ?_); rintro e w' ⟨rfl, rfl⟩) | (rw [HK.out]; refine (bit_in rfl hv _ _ hk3).mono ?_; rw [HB.out]; rintro e w' ⟨rfl, rfl⟩)))
            go_round
            case rel => exact ⟨k + 1, by omega, by go_num, by rw [ST.out]⟩
            case measure => simp [intOf]; omega
        · rw [if_neg hin] at hb
          have hc : decide (lo ≤ (k : Int)) = false ∨ decide (lo ≤ (k : Int)) = true ∧ decide ((k : Int) < lo + n) = false := by
            by_cases h4 : lo ≤ (k : Int)
            · exact .inr ⟨decide_eq_true h4, decide_eq_false (by omega)⟩
            · exact .inl (decide_eq_false h4)
          clear hin
          cases hbb : s.testBit k with
          | true =>
            have ST := Lib.hid (setTo_yes hbb)
            have hs : (setTo s k : Int) + (p2 k : Int) ≤ 18446744073709551615 := by have := ST.out; omega
            have HB := Lib.hid (hb.symm.trans hbb)
            clear hb hbb hl2
            rcases hc with hc | ⟨hc, hc2⟩
            all_goals
             go_wp2_with (first | (go_at_call 67; refine (bit_in rfl ha k _ hlt).mono ?_; rw [HB.out]; rintro e w' ⟨rfl, rfl⟩) | (go_at_call 70; refine (power_ k _ (by omega) rfl).mono ?_; rintro e w' ⟨rfl, rfl⟩))
             go_round
             case rel => exact ⟨k + 1, by omega, by go_num, by rw [ST.out]; go_num⟩
             case measure => simp [intOf]; omega
          | false =>
            have ST := Lib.hid (setTo_no hbb)
            have HB := Lib.hid (hb.symm.trans hbb)
            clear hb hbb hl2
            rcases hc with hc | ⟨hc, hc2⟩
            all_goals
             go_wp2_with (first | (go_at_call 67; refine (bit_in rfl ha k _ hlt).mono ?_; rw [HB.out]; rintro e w' ⟨rfl, rfl⟩))
             go_round
             case rel => exact ⟨k + 1, by omega, by go_num, by rw [ST.out]⟩
             case measure => simp [intOf]; omega
      · obtain rfl : k = 64 := by omega
        go_wp2
        go_ret
        exact ⟨by rw [setTo_64 S.out]; rfl, rfl⟩
end Go.Proofs.Ytbifpmaofkgkfaa
