/- Packages field and va: each function comes to the plain function of the same name. -/
import Derived.Test.YtbifpmaofkgkfaaProg
import Derived.Test.YtbifpmaofkgkfaaPlain
namespace Go.Proofs.Ytbifpmaofkgkfaa
open Go.RowKit
theorem none_yes (lo n : Int) (w : World) (h : isNone lo n) :
    Calls Try.prog 84 #[.int .i64 lo, .int .i64 n] w fun e w' => e = .returned (.bool true) ∧ w = w' := by
  unfold isNone at h
  by_cases h1 : lo < 0
  · have h1' : decide (lo < 0) = true := decide_eq_true h1
    go_enter Try.func84, Try.ntmps84
    go_wp2
    go_ret
    exact ⟨rfl, rfl⟩
  · by_cases h2 : n < 1
    · go_enter Try.func84, Try.ntmps84
      go_wp2
      go_ret
      exact ⟨rfl, rfl⟩
    · go_enter Try.func84, Try.ntmps84
      go_wp2
      all_goals (go_ret; exact ⟨rfl, rfl⟩)
theorem none_no (lo n : Int) (w : World) (h : ¬ isNone lo n) :
    Calls Try.prog 84 #[.int .i64 lo, .int .i64 n] w fun e w' => e = .returned (.bool false) ∧ w = w' := by
  unfold isNone at h
  have h0 : 0 ≤ lo := by omega
  have h1 : 1 ≤ n := by omega
  have h2 : lo < 64 := by omega
  have h3 : n ≤ 64 - lo := by omega
  clear h
  go_enter Try.func84, Try.ntmps84
  go_wp2
  go_ret
  exact ⟨rfl, rfl⟩
theorem ones_ (n : Int) (w : World) (h1 : 1 ≤ n) (h2 : n ≤ 64) :
    Calls Try.prog 85 #[.int .i64 n] w fun e w' => e = .returned (.int .u64 ((2 ^ n.toNat - 1 : Nat) : Int)) ∧ w = w' := by
  go_enter Try.func85, Try.ntmps85
  go_wp2
  · go_ret
    obtain rfl : n = 64 := by omega
    exact ⟨ret_int ones_all, rfl⟩
  · go_ret
    exact ⟨ret_int (ones_fits (by omega)), rfl⟩
theorem get_ {xx : Int} {x : Nat} (hxx : xx = x) (lo n : Int) (w : World) (hx : x < 18446744073709551616) :
    Calls Try.prog 69 #[.int .u64 xx, .int .i64 lo, .int .i64 n] w fun e w' => e = .returned (.int .u64 (getN x lo n)) ∧ w = w' := by
  subst hxx
  by_cases h : isNone lo n
  · have H := Lib.hid h
    have e : getN x lo n = 0 := by unfold getN; rw [if_pos h]
    have E := Lib.hid e
    clear h e
    go_enter Try.func69, Try.ntmps69
    go_wp2_with (go_at_call 84; refine (none_yes _ _ _ H.out).mono ?_; rintro e w' ⟨rfl, rfl⟩)
    go_ret
    exact ⟨by rw [E.out]; rfl, rfl⟩
  · have H := Lib.hid h
    have e : getN x lo n = x / 2 ^ lo.toNat % 2 ^ n.toNat := by unfold getN; rw [if_neg h]
    have E := Lib.hid e
    unfold isNone at h
    have h0 : 0 ≤ lo := by omega
    have h1 : 1 ≤ n := by omega
    have h2 : lo < 64 := by omega
    have h3 : n ≤ 64 := by omega
    clear h e
    go_enter Try.func69, Try.ntmps69
    go_wp2_with (first | (go_at_call 84; refine (none_no _ _ _ H.out).mono ?_; rintro e w' ⟨rfl, rfl⟩) | (go_at_call 85; refine (ones_ _ _ h1 h3).mono ?_; rintro e w' ⟨rfl, rfl⟩))
    go_ret
    exact ⟨by rw [E.out]; exact ret_int (shr_and hx (by omega)), rfl⟩
theorem mask_ (lo n : Int) (w : World) :
    Calls Try.prog 72 #[.int .i64 lo, .int .i64 n] w fun e w' => e = .returned (.int .u64 (maskN lo n)) ∧ w = w' := by
  by_cases h : isNone lo n
  · have H := Lib.hid h
    have e : maskN lo n = 0 := by unfold maskN; rw [if_pos h]
    have E := Lib.hid e
    clear h e
    go_enter Try.func72, Try.ntmps72
    go_wp2_with (go_at_call 84; refine (none_yes _ _ _ H.out).mono ?_; rintro e w' ⟨rfl, rfl⟩)
    go_ret
    exact ⟨by rw [E.out]; rfl, rfl⟩
  · have H := Lib.hid h
    have e : maskN lo n = (2 ^ n.toNat - 1) * 2 ^ lo.toNat := by unfold maskN; rw [if_neg h]
    have hm : (2 ^ n.toNat - 1) * 2 ^ lo.toNat < 18446744073709551616 := mask_lt (by unfold isNone at h; omega)
    have E := Lib.hid e
    have M := Lib.hid hm
    unfold isNone at h
    have h0 : 0 ≤ lo := by omega
    have h1 : 1 ≤ n := by omega
    have h2 : lo < 64 := by omega
    have h3 : n ≤ 64 := by omega
    clear h e hm
    go_enter Try.func72, Try.ntmps72
    go_wp2_with (first | (go_at_call 84; refine (none_no _ _ _ H.out).mono ?_; rintro e w' ⟨rfl, rfl⟩) | (go_at_call 85; refine (ones_ _ _ h1 h3).mono ?_; rintro e w' ⟨rfl, rfl⟩))
    go_ret
    exact ⟨by rw [E.out]; exact ret_int (by rw [wrapu_shl, Nat.mod_eq_of_lt M.out]), rfl⟩
theorem set_ {xx : Int} {x : Nat} (hxx : xx = x) (lo n : Int) {xv : Int} {v : Nat} (hvx : xv = v) (w : World) (hx : x < 18446744073709551616) :
    Calls Try.prog 73 #[.int .u64 xx, .int .i64 lo, .int .i64 n, .int .u64 xv] w fun e w' => e = .returned (.int .u64 (setN x lo n v)) ∧ w = w' := by
  subst hxx
  subst hvx
  by_cases h : isNone lo n
  · have H := Lib.hid h
    have e : setN x lo n v = x := by unfold setN; rw [if_pos h]
    have E := Lib.hid e
    clear h e
    go_enter Try.func73, Try.ntmps73
    go_wp2_with (go_at_call 84; refine (none_yes _ _ _ H.out).mono ?_; rintro e w' ⟨rfl, rfl⟩)
    go_ret
    exact ⟨by rw [E.out]; rfl, rfl⟩
  · have H := Lib.hid h
    have e : setN x lo n v = putN x lo.toNat n.toNat v := by unfold setN; rw [if_neg h]
    have em : maskN lo n = (2 ^ n.toNat - 1) * 2 ^ lo.toNat := by unfold maskN; rw [if_neg h]
    have hp : putN x lo.toNat n.toNat v = _ := (set_bits (x := x) (lo := lo.toNat) (n := n.toNat) (v := v) hx (by unfold isNone at h; omega) (by unfold isNone at h; omega)).symm
    have E := Lib.hid (e.trans (by rw [hp, ← em]))
    have M := Lib.hid (maskN_lt (lo := lo) (n := n))
    unfold isNone at h
    have h0 : 0 ≤ lo := by omega
    have h1 : 1 ≤ n := by omega
    have h2 : lo < 64 := by omega
    have h3 : n ≤ 64 := by omega
    clear h e em hp
    go_enter Try.func73, Try.ntmps73
    go_wp2_with (first | (go_at_call 84; refine (none_no _ _ _ H.out).mono ?_; rintro e w' ⟨rfl, rfl⟩) | (go_at_call 72; refine (mask_ _ _ _).mono ?_; rintro e w' ⟨rfl, rfl⟩))
    go_ret
    exact ⟨by rw [E.out]; exact ret_int (by rw [wrapu_shl, u64_andNot hx M.out, u64_and (Nat.mod_lt _ (by decide)) M.out, u64_or (Nat.lt_of_le_of_lt Nat.and_le_left hx) (Nat.lt_of_le_of_lt Nat.and_le_right M.out)]), rfl⟩
theorem shift_no (l : Int) (w : World) (h : ¬ (1 ≤ l ∧ l ≤ 4)) :
    Calls Try.prog 68 #[.int .i64 l] w fun e w' => e = .returned (.tuple #[.int .i64 0, .bool false]) ∧ Grows w w' := by
  by_cases h1 : l < 1
  · have h1' : decide (l < 1) = true := decide_eq_true h1
    go_enter Try.func68, Try.ntmps68
    go_wp2
    go_ret2
    exact ⟨rfl, (Below.refl _ _).alloc (Nat.le_refl _) _⟩
  · have h2 : 5 ≤ l := by omega
    have h1' : decide (l < 1) = false := decide_eq_false h1
    have h2' : decide (5 ≤ l) = true := decide_eq_true h2
    go_enter Try.func68, Try.ntmps68
    go_wp2
    go_ret2
    exact ⟨rfl, (Below.refl _ _).alloc (Nat.le_refl _) _⟩
theorem shift_yes (l s : Int) (w : World) (h : l = 1 ∧ s = 12 ∨ l = 2 ∧ s = 21 ∨ l = 3 ∧ s = 30 ∨ l = 4 ∧ s = 39) :
    Calls Try.prog 68 #[.int .i64 l] w fun e w' => e = .returned (.tuple #[.int .i64 s, .bool true]) ∧ Grows w w' := by
  rcases h with ⟨rfl, rfl⟩ | ⟨rfl, rfl⟩ | ⟨rfl, rfl⟩ | ⟨rfl, rfl⟩
  all_goals
    go_enter Try.func68, Try.ntmps68
    go_wp2
    go_ret2
    exact ⟨rfl, (Below.refl _ _).alloc (Nat.le_refl _) _⟩
theorem sign_ {xa : Int} {a : Nat} (hax : xa = a) (w : World) :
    Calls Try.prog 26 #[.int .u64 xa] w fun e w' => e = .returned (.int .u64 (sgn a)) ∧ w = w' := by
  subst hax
  go_enter Try.func26, Try.ntmps26
  go_wp2
  go_ret
  exact ⟨ret_int sgn_run, rfl⟩
theorem canon_ {xa : Int} {a : Nat} (hax : xa = a) (w : World) :
    Calls Try.prog 24 #[.int .u64 xa] w fun e w' => e = .returned (.bool (canon a)) ∧ w = w' := by
  subst hax
  go_enter Try.func24, Try.ntmps24
  go_wp2_with (go_at_call 26; refine (sign_ rfl _).mono ?_; rintro e w' ⟨rfl, rfl⟩)
  go_ret
  exact ⟨ret_bool (beq_nat _ _), rfl⟩
theorem index_lit {xa : Int} {a : Nat} (hax : xa = a) (l s : Int) (w : World) (ha : a < 18446744073709551616) (h : l = 1 ∧ s = 12 ∨ l = 2 ∧ s = 21 ∨ l = 3 ∧ s = 30 ∨ l = 4 ∧ s = 39) :
    Calls Try.prog 28 #[.int .u64 xa, .int .i64 l] w fun e w' => e = .returned (.int .i64 (getN a s 9)) ∧ Grows w w' := by
  subst hax
  have H := Lib.hid h
  have hg : getN a s 9 < 512 := by
    unfold getN
    split
    · omega
    · exact Nat.mod_lt _ (by decide)
  clear h
  go_enter Try.func28, Try.ntmps28
  go_wp2_with (first | (go_at_call 68; refine (shift_yes _ _ _ H.out).mono ?_; rintro e w' ⟨rfl, hb⟩) | (go_at_call 69; refine (get_ rfl _ _ _ ha).mono ?_; rintro e w' ⟨rfl, rfl⟩))
  go_ret
  exact ⟨ret_int (by first | rfl | exact wrap64_nat (by omega)), hb⟩
theorem index_ {xa : Int} {a : Nat} (hax : xa = a) (l : Int) (w : World) (ha : a < 18446744073709551616) :
    Calls Try.prog 28 #[.int .u64 xa, .int .i64 l] w fun e w' => e = .returned (.int .i64 (idx a l)) ∧ Grows w w' := by
  subst hax
  by_cases h : 1 ≤ l ∧ l ≤ 4
  · have h4 : l = 1 ∨ l = 2 ∨ l = 3 ∨ l = 4 := by omega
    rcases h4 with rfl | rfl | rfl | rfl
    · exact index_lit rfl 1 12 w ha (by omega)
    · exact index_lit rfl 2 21 w ha (by omega)
    · exact index_lit rfl 3 30 w ha (by omega)
    · exact index_lit rfl 4 39 w ha (by omega)
  · have H := Lib.hid h
    have e : idx a l = 0 := by unfold idx; rw [if_neg (by omega), if_neg (by omega), if_neg (by omega), if_neg (by omega)]
    have E := Lib.hid e
    clear h e
    go_enter Try.func28, Try.ntmps28
    go_wp2_with (first | (go_at_call 68; refine (shift_no _ _ H.out).mono ?_; rintro e w' ⟨rfl, hb⟩))
    go_ret
    exact ⟨by rw [E.out]; rfl, hb⟩
theorem size_ (l : Int) (w : World) :
    Calls Try.prog 30 #[.int .i64 l] w fun e w' => e = .returned (.int .u64 (size l)) ∧ Grows w w' := by
  by_cases h : 1 ≤ l ∧ l ≤ 4
  · have h4 : l = 1 ∨ l = 2 ∨ l = 3 ∨ l = 4 := by omega
    clear h
    rcases h4 with rfl | rfl | rfl | rfl
    · go_enter Try.func30, Try.ntmps30
      go_wp2_with (first | (go_at_call 68; refine (shift_yes 1 12 _ (by omega)).mono ?_; rintro e w' ⟨rfl, hb⟩))
      go_ret
      exact ⟨rfl, hb⟩
    · go_enter Try.func30, Try.ntmps30
      go_wp2_with (first | (go_at_call 68; refine (shift_yes 2 21 _ (by omega)).mono ?_; rintro e w' ⟨rfl, hb⟩))
      go_ret
      exact ⟨rfl, hb⟩
    · go_enter Try.func30, Try.ntmps30
      go_wp2_with (first | (go_at_call 68; refine (shift_yes 3 30 _ (by omega)).mono ?_; rintro e w' ⟨rfl, hb⟩))
      go_ret
      exact ⟨rfl, hb⟩
    · go_enter Try.func30, Try.ntmps30
      go_wp2_with (first | (go_at_call 68; refine (shift_yes 4 39 _ (by omega)).mono ?_; rintro e w' ⟨rfl, hb⟩))
      go_ret
      exact ⟨rfl, hb⟩
  · have H := Lib.hid h
    have e : size l = 0 := by unfold size; rw [if_neg (by omega), if_neg (by omega), if_neg (by omega)]
    have E := Lib.hid e
    clear h e
    go_enter Try.func30, Try.ntmps30
    go_wp2_with (first | (go_at_call 68; refine (shift_no _ _ H.out).mono ?_; rintro e w' ⟨rfl, hb⟩))
    go_ret
    exact ⟨by rw [E.out]; rfl, hb⟩
theorem low_ {xa : Int} {a : Nat} (hax : xa = a) (l : Int) (w : World) (ha : a < 18446744073709551616) :
    Calls Try.prog 34 #[.int .u64 xa, .int .i64 l] w fun e w' => e = .returned (.int .u64 (low a l)) ∧ Grows w w' := by
  subst hax
  have h4 := size_cases l
  by_cases h0 : size l = 0
  · have e : low a l = 0 := by unfold low; rw [if_pos h0]
    have E := Lib.hid e
    have h0' : (((size l : Nat) : Int) == 0) = true := by rw [h0]; rfl
    clear h4 h0 e
    go_enter Try.func34, Try.ntmps34
    go_wp2_with (first | (go_at_call 30; refine (size_ _ _).mono ?_; rintro e w' ⟨rfl, hb⟩))
    go_ret
    exact ⟨by rw [E.out]; rfl, hb⟩
  · have e : low a l = a % size l := by unfold low; rw [if_neg h0]
    have E := Lib.hid e
    have h0' : (((size l : Nat) : Int) == 0) = false := by rw [beq_eq_false_iff_ne]; omega
    have h1 : bits .and .u64 (a : Int) (((size l : Nat) : Int) - 1) = ((a % size l : Nat) : Int) := by
      rcases h4 with h | h | h | h
      · exact absurd h h0
      · rw [h, show (((4096 : Nat) : Int) - 1) = ((2 ^ 12 - 1 : Nat) : Int) by decide, u64_and ha (by decide), and_ones]
      · rw [h, show (((2097152 : Nat) : Int) - 1) = ((2 ^ 21 - 1 : Nat) : Int) by decide, u64_and ha (by decide), and_ones]
      · rw [h, show (((1073741824 : Nat) : Int) - 1) = ((2 ^ 30 - 1 : Nat) : Int) by decide, u64_and ha (by decide), and_ones]
    have H1 := Lib.hid h1
    have h2 : 0 < size l := by omega
    have h3 : size l ≤ 1073741824 := by omega
    clear h4 h0 e h1
    go_enter Try.func34, Try.ntmps34
    go_wp2_with (first | (go_at_call 30; refine (size_ _ _).mono ?_; rintro e w' ⟨rfl, hb⟩))
    go_ret
    exact ⟨by rw [E.out]; exact ret_int H1.out, hb⟩
theorem page_ {xa : Int} {a : Nat} (hax : xa = a) (l : Int) (w : World) (ha : a < 18446744073709551616) :
    Calls Try.prog 32 #[.int .u64 xa, .int .i64 l] w fun e w' => e = .returned (.int .u64 (page a l)) ∧ Grows w w' := by
  subst hax
  have h1 := low_le a l
  go_enter Try.func32, Try.ntmps32
  go_wp2_with (first | (go_at_call 34; refine (low_ rfl _ _ ha).mono ?_; rintro e w' ⟨rfl, hb⟩))
  go_ret
  exact ⟨ret_int (by unfold page; omega), hb⟩
theorem canon_f {x : Int} {a : Nat} (hx : x = a) (h : canon a = false) (w : World) :
    Calls Try.prog 24 #[.int .u64 x] w fun e w' => e = .returned (.bool false) ∧ w = w' :=
  (canon_ hx w).mono fun _ _ ⟨he, hw⟩ => ⟨by rw [he, h], hw⟩
theorem canon_t {x : Int} {a : Nat} (hx : x = a) (h : canon a = true) (w : World) :
    Calls Try.prog 24 #[.int .u64 x] w fun e w' => e = .returned (.bool true) ∧ w = w' :=
  (canon_ hx w).mono fun _ _ ⟨he, hw⟩ => ⟨by rw [he, h], hw⟩
theorem next_no {x : Int} {a : Nat} (hx : x = a) (w : World) (ha : a < 18446744073709551616) (h : nextOk a = false) :
    Calls Try.prog 22 #[.int .u64 x] w fun e w' => e = .returned (.tuple #[.int .u64 0, .bool false]) ∧ Grows w w' := by
  subst hx
  have hp := page_le a 1
  cases h1 : canon a with
  | false =>
    have H1 := Lib.hid h1
    clear h1 h hp
    go_enter Try.func22, Try.ntmps22
    go_wp2_with (first | (go_at_call 32; refine (page_ rfl _ _ ha).mono ?_; rintro e w' ⟨rfl, hb⟩) | (go_at_call 24; refine (canon_f rfl H1.out _).mono ?_; rintro e w' ⟨rfl, rfl⟩))
    go_ret2
    exact ⟨rfl, hb⟩
  | true =>
    have H1 := Lib.hid h1
    by_cases h2 : page a 1 + 4096 < 18446744073709551616
    · have hw : IntKind.u64.wrap (((page a 1 : Nat) : Int) + 4096) = ((page a 1 + 4096 : Nat) : Int) := by rw [IntKind.wrap_u64]; omega
      have h3 : canon (page a 1 + 4096) = false := by unfold nextOk at h; simpa [h1, h2] using h
      have H3 := Lib.hid h3
      have h4 : (page a 1 : Int) + 4096 ≤ 18446744073709551615 := by omega
      clear h h3 h1 h2 hw
      go_enter Try.func22, Try.ntmps22
      go_wp2_with (first | (go_at_call 32; refine (page_ rfl _ _ ha).mono ?_; rintro e w' ⟨rfl, hb⟩) | (go_at_call 24; (first | ((with_reducible refine (canon_t rfl H1.out _).mono ?_); rintro e w' ⟨rfl, rfl⟩) | (refine (canon_f (a := page a 1 + 4096) (by omega) H3.out _).mono ?_; rintro e w' ⟨rfl, rfl⟩))))
      go_ret2
      exact ⟨rfl, hb⟩
    · have h2' : page a 1 + 4096 = 18446744073709551616 := by unfold page low size at h2 ⊢; simp at h2 ⊢; omega
      have hw : IntKind.u64.wrap (((page a 1 : Nat) : Int) + 4096) = 0 := by rw [IntKind.wrap_u64]; omega
      have h3 : canon 0 = true := by decide
      have H3 := Lib.hid h3
      clear h h3 h1 h2 h2'
      go_enter Try.func22, Try.ntmps22
      go_wp2_with (first | (go_at_call 32; refine (page_ rfl _ _ ha).mono ?_; rintro e w' ⟨rfl, hb⟩) | (go_at_call 24; (first | ((with_reducible refine (canon_t rfl H1.out _).mono ?_); rintro e w' ⟨rfl, rfl⟩) | (refine (canon_t (a := 0) rfl H3.out _).mono ?_; rintro e w' ⟨rfl, rfl⟩))))
      go_ret2
      exact ⟨rfl, hb⟩
theorem next_yes {x : Int} {a : Nat} (hx : x = a) (w : World) (ha : a < 18446744073709551616) (h : nextOk a = true) :
    Calls Try.prog 22 #[.int .u64 x] w fun e w' => e = .returned (.tuple #[.int .u64 ((page a 1 + 4096 : Nat) : Int), .bool true]) ∧ Grows w w' := by
  subst hx
  have hp := page_le a 1
  have h1 : canon a = true := by unfold nextOk at h; simp at h; exact h.1
  have h2 : page a 1 + 4096 < 18446744073709551616 := by unfold nextOk at h; simp at h; exact h.2.1
  have h3 : canon (page a 1 + 4096) = true := by unfold nextOk at h; simp at h; exact h.2.2
  have H1 := Lib.hid h1
  have H3 := Lib.hid h3
  have h4 : (page a 1 : Int) + 4096 ≤ 18446744073709551615 := by omega
  have h5 : decide ((page a 1 : Int) + 4096 < 4096) = false := decide_eq_false (by omega)
  clear h h3 h1 h2
  go_enter Try.func22, Try.ntmps22
  go_wp2_with (first | (go_at_call 32; refine (page_ rfl _ _ ha).mono ?_; rintro e w' ⟨rfl, hb⟩) | (go_at_call 24; (first | ((with_reducible refine (canon_t rfl H1.out _).mono ?_); rintro e w' ⟨rfl, rfl⟩) | (refine (canon_t (a := page a 1 + 4096) (by omega) H3.out _).mono ?_; rintro e w' ⟨rfl, rfl⟩))))
  go_ret2
  exact ⟨ret_tup2 (by rw [Int.natCast_add]; rfl) rfl, hb⟩
theorem next_ {x : Int} {a : Nat} (hx : x = a) (w : World) (ha : a < 18446744073709551616) :
    Calls Try.prog 22 #[.int .u64 x] w fun e w' => e = .returned (.tuple #[.int .u64 (next a), .bool (nextOk a)]) ∧ Grows w w' := by
  cases h : nextOk a with
  | false => exact (next_no hx w ha h).mono fun e w' ⟨he, hw⟩ => ⟨by rw [he]; unfold next; rw [h]; rfl, hw⟩
  | true => exact (next_yes hx w ha h).mono fun e w' ⟨he, hw⟩ => ⟨by rw [he]; unfold next; rw [h]; rfl, hw⟩
set_option maxRecDepth 100000 in
theorem join_ {x : Int} {lo : Nat} (hx : x = lo) (p0 p1 p2 p3 : Int) (w : World) (ha : lo < 18446744073709551616) :
    Calls Try.prog 43 #[.agg #[.int .i64 p0, .int .i64 p1, .int .i64 p2, .int .i64 p3], .int .u64 x] w fun e w' => e = .returned (.int .u64 (join [p0, p1, p2, p3] lo)) ∧ Grows w w' := by
  subst hx
  have hlt := Lib.hid (joinTo_lt [p0, p1, p2, p3] lo)
  have hj := Lib.hid (joinTo_all [p0, p1, p2, p3] lo)
  have i0 : ∀ w, (Instr.index 43 (.agg #[.int .i64 p0, .int .i64 p1, .int .i64 p2, .int .i64 p3]) (.int .i64 0)).run Try.prog w = .ok (.int .i64 p0) w := fun _ => by kernel_rfl
  have i1 : ∀ w, (Instr.index 43 (.agg #[.int .i64 p0, .int .i64 p1, .int .i64 p2, .int .i64 p3]) (.int .i64 1)).run Try.prog w = .ok (.int .i64 p1) w := fun _ => by kernel_rfl
  have i2 : ∀ w, (Instr.index 43 (.agg #[.int .i64 p0, .int .i64 p1, .int .i64 p2, .int .i64 p3]) (.int .i64 2)).run Try.prog w = .ok (.int .i64 p2) w := fun _ => by kernel_rfl
  have i3 : ∀ w, (Instr.index 43 (.agg #[.int .i64 p0, .int .i64 p1, .int .i64 p2, .int .i64 p3]) (.int .i64 3)).run Try.prog w = .ok (.int .i64 p3) w := fun _ => by kernel_rfl
  have hl : bits .and .u64 (lo : Int) 4095 = ((joinTo [p0, p1, p2, p3] lo 0 : Nat) : Int) := and4095 lo ha
  go_enter Try.func43, Try.ntmps43
  go_wp2
  go_loopw [5, 13] (fun v i wr => ∃ k : Nat, k ≤ 4 ∧ i = .int .i64 k ∧ v = .int .u64 (joinTo [p0, p1, p2, p3] lo k) ∧ Grows w wr) (fun _ i _ => 4 - (intOf i).toNat)
  case atStart => exact ⟨0, by omega, rfl, rfl, (Below.refl _ _).alloc (Nat.le_refl _) _⟩
  case round =>
    obtain ⟨k, hk, rfl, rfl, hb⟩ := hrel
    have hk5 : k = 0 ∨ k = 1 ∨ k = 2 ∨ k = 3 ∨ k = 4 := by omega
    clear hk hl
    rcases hk5 with rfl | rfl | rfl | rfl | rfl
    · go_wp2_with (first | (go_at_call 68; refine (shift_yes 4 39 _ (by omega)).mono ?_; rintro e w' ⟨rfl, hb2⟩) | (go_at_call 73; refine (set_ rfl 39 9 (and511 p0) _ (hlt.out 0 (by omega))).mono ?_; rintro e w' ⟨rfl, rfl⟩))
      go_roundw
      case rel => exact ⟨1, by omega, rfl, rfl, Grows.trans' hb hb2⟩
      case measure => simp [intOf]
    · go_wp2_with (first | (go_at_call 68; refine (shift_yes 3 30 _ (by omega)).mono ?_; rintro e w' ⟨rfl, hb2⟩) | (go_at_call 73; refine (set_ rfl 30 9 (and511 p1) _ (hlt.out 1 (by omega))).mono ?_; rintro e w' ⟨rfl, rfl⟩))
      go_roundw
      case rel => exact ⟨2, by omega, rfl, rfl, Grows.trans' hb hb2⟩
      case measure => simp [intOf]
    · go_wp2_with (first | (go_at_call 68; refine (shift_yes 2 21 _ (by omega)).mono ?_; rintro e w' ⟨rfl, hb2⟩) | (go_at_call 73; refine (set_ rfl 21 9 (and511 p2) _ (hlt.out 2 (by omega))).mono ?_; rintro e w' ⟨rfl, rfl⟩))
      go_roundw
      case rel => exact ⟨3, by omega, rfl, rfl, Grows.trans' hb hb2⟩
      case measure => simp [intOf]
    · go_wp2_with (first | (go_at_call 68; refine (shift_yes 1 12 _ (by omega)).mono ?_; rintro e w' ⟨rfl, hb2⟩) | (go_at_call 73; refine (set_ rfl 12 9 (and511 p3) _ (hlt.out 3 (by omega))).mono ?_; rintro e w' ⟨rfl, rfl⟩))
      go_roundw
      case rel => exact ⟨4, by omega, rfl, rfl, Grows.trans' hb hb2⟩
      case measure => simp [intOf]
    · go_wp2_with (go_at_call 26; refine (sign_ rfl _).mono ?_; rintro e w' ⟨rfl, rfl⟩)
      go_ret
      exact ⟨by rw [← hj.out]; rfl, hb⟩
end Go.Proofs.Ytbifpmaofkgkfaa
