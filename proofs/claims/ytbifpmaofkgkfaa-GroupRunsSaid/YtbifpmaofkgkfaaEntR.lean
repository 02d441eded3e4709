/- entry.Reserved and its reference: a walk a way (written by wip/gen_res.py). -/
import Derived.Test.YtbifpmaofkgkfaaEnt
namespace Go.Proofs.Ytbifpmaofkgkfaa
open Go.RowKit
theorem someB_false {x : Nat} {lo hi : Int} (h : someB x lo hi = false) : getN x lo (hi - lo) = 0 := by
  unfold someB at h; simpa using h
theorem ne0 (n : Nat) : (((n : Nat) : Int) != 0) = decide (n ≠ 0) := by
  rw [Bool.eq_iff_iff, bne_iff_ne, decide_eq_true_eq]; omega
theorem some_ {x : Int} {a : Nat} (hx : x = a) {lo' hi' : Int} {lo hi : Nat} (hlo' : lo' = lo) (hhi' : hi' = hi) (w : World) (ha : a < 18446744073709551616) (hh : hi < 64) :
    Calls Try.prog 71 #[.int .u64 x, .int .i64 lo', .int .i64 hi'] w fun e w' => e = .returned (.bool (someB a lo' (hi' + 1))) ∧ w = w' := by
  subst hx hlo' hhi'
  have Y : Hid (∀ k, lo ≤ k → k ≤ hi → a.testBit k = true → someB a lo ((hi : Int) + 1) = true) := by
    intro k h1 h2 h3
    unfold someB
    rw [decide_eq_true_eq, show (hi : Int) + 1 - lo = ((hi + 1 - lo : Nat) : Int) by omega]
    exact (some_iff a lo (hi + 1 - lo) (by omega) (by omega)).2 ⟨k, h1, by omega, h3⟩
  have N : Hid ((∀ k, lo ≤ k → k ≤ hi → a.testBit k = false) → someB a lo ((hi : Int) + 1) = false) := by
    intro hall
    unfold someB
    rw [decide_eq_false_iff_not, Decidable.not_not]
    by_cases hlo : lo ≤ hi
    · rw [show (hi : Int) + 1 - lo = ((hi + 1 - lo : Nat) : Int) by omega]
      by_cases h0 : getN a lo ((hi + 1 - lo : Nat) : Int) = 0
      · exact h0
      · obtain ⟨i, h1, h2, h3⟩ := (some_iff a lo (hi + 1 - lo) (by omega) (by omega)).1 h0
        rw [hall i h1 (by omega)] at h3
        cases h3
    · unfold getN
      rw [if_pos (by unfold isNone; omega)]
  go_enter Try.func71, Try.ntmps71
  go_wp2
  go_loop [7] (fun i => ∃ k : Nat, lo ≤ k ∧ (k ≤ hi + 1 ∨ k = lo) ∧ i = .int .i64 k ∧ Hid (∀ j, lo ≤ j → j < k → a.testBit j = false)) (fun i => 70 - (intOf i).toNat)
  case atStart => exact ⟨lo, Nat.le_refl _, .inr rfl, rfl, fun j h1 h2 => by omega⟩
  case round =>
    obtain ⟨k, hk0, hk, rfl, hno⟩ := hrel
    by_cases hlt : k ≤ hi
    · have hle : decide ((k : Int) ≤ (hi : Int)) = true := decide_eq_true (by omega)
      have B := Lib.hid (fun w => bit_in (a := a) rfl ha k w (by omega))
      cases hb : a.testBit k with
      | true =>
        rw [hb] at B
        have E := Lib.hid (Y.out k hk0 hlt hb)
        clear hb hk
        go_wp2_with (go_at_call 67; refine (B.out _).mono ?_; rintro e w' ⟨rfl, rfl⟩)
        go_ret
        exact ⟨ret_bool (by rw [E.out]), rfl⟩
      | false =>
        rw [hb] at B
        have HB := Lib.hid hb
        clear hb hk
        go_wp2_with (go_at_call 67; refine (B.out _).mono ?_; rintro e w' ⟨rfl, rfl⟩)
        go_round
        case rel =>
          refine ⟨k + 1, by omega, .inl (by omega), by go_num, fun j h1 h2 => ?_⟩
          by_cases hj : j = k
          · subst hj; exact HB.out
          · exact hno.out j h1 (by omega)
        case measure => simp [intOf]; omega
    · have hle : decide ((k : Int) ≤ (hi : Int)) = false := decide_eq_false (by omega)
      have E := Lib.hid (N.out (fun j h1 h2 => hno.out j h1 (by omega)))
      clear hk
      go_wp2
      go_ret
      exact ⟨ret_bool (by rw [E.out]), rfl⟩

theorem res_s (x : Nat) (b : Int) (l : Int) (nxe : Bool) (w : World) (hx : x < 18446744073709551616) (hs : someB x (from_ b) 52 = true) :
    Calls Try.prog 38 #[.int .u64 x, .int .i64 l, .int .i64 b, .bool nxe] w fun e w' => e = .returned (.bool (resB x l b nxe)) ∧ w = w' := by
  have E := Lib.hid (show resB x l b nxe = true by unfold resB; simp [hs])
  have L := Lib.hid (fun w => leaf_ (a := x) rfl l w hx)
  have hb : b < 12 ∨ 52 < b ∨ 12 ≤ b ∧ b ≤ 52 := by omega
  rcases hb with hb | hb | hb
  · have hf : from_ b = 12 := by unfold from_; (repeat' split) <;> omega
    rw [hf] at hs
    have hg : (((getN x 12 40 : Nat) : Int) != 0) = true := by rw [ne0]; exact hs
    clear hs hf
    go_enter Try.func38, Try.ntmps38
    go_wp2_with (first | (go_at_call 56; refine (L.out _).mono ?_; rintro e w' ⟨rfl, rfl⟩) | (go_at_call 69; refine (get_ rfl _ _ _ hx).mono ?_; rintro e w' ⟨rfl, rfl⟩))
    all_goals (go_ret; exact ⟨ret_bool (by rw [E.out]), rfl⟩)
  · have hf : from_ b = 52 := by unfold from_; (repeat' split) <;> omega
    rw [hf] at hs
    have hg : (((getN x 52 0 : Nat) : Int) != 0) = true := by rw [ne0]; exact hs
    clear hs hf
    go_enter Try.func38, Try.ntmps38
    go_wp2_with (first | (go_at_call 56; refine (L.out _).mono ?_; rintro e w' ⟨rfl, rfl⟩) | (go_at_call 69; refine (get_ rfl _ _ _ hx).mono ?_; rintro e w' ⟨rfl, rfl⟩))
    all_goals (go_ret; exact ⟨ret_bool (by rw [E.out]), rfl⟩)
  · have hf : from_ b = b := by unfold from_; (repeat' split) <;> omega
    rw [hf] at hs
    have hg : (((getN x b (52 - b) : Nat) : Int) != 0) = true := by rw [ne0]; exact hs
    obtain ⟨hb1, hb2⟩ := hb
    clear hs hf
    go_enter Try.func38, Try.ntmps38
    go_wp2_with (first | (go_at_call 56; refine (L.out _).mono ?_; rintro e w' ⟨rfl, rfl⟩) | (go_at_call 69; refine (get_ rfl _ _ _ hx).mono ?_; rintro e w' ⟨rfl, rfl⟩))
    all_goals (go_ret; exact ⟨ret_bool (by rw [E.out]), rfl⟩)
theorem res_n (x : Nat) (b : Int) (l : Int) (w : World) (hx : x < 18446744073709551616) (hs : someB x (from_ b) 52 = false) (h63 : x.testBit 63 = true) :
    Calls Try.prog 38 #[.int .u64 x, .int .i64 l, .int .i64 b, .bool false] w fun e w' => e = .returned (.bool (resB x l b false)) ∧ w = w' := by
  have E := Lib.hid (show resB x l b false = true by unfold resB; simp [hs, h63])
  have L := Lib.hid (fun w => leaf_ (a := x) rfl l w hx)
  have m63 := (ask_bit (x := x) (k := 63) (m := 9223372036854775808) (by decide) (by omega) hx).trans h63
  have hb : b < 12 ∨ 52 < b ∨ 12 ≤ b ∧ b ≤ 52 := by omega
  rcases hb with hb | hb | hb
  · have hf : from_ b = 12 := by unfold from_; (repeat' split) <;> omega
    rw [hf] at hs
    have hg : (((getN x 12 40 : Nat) : Int) != 0) = false := by rw [ne0]; exact hs
    clear hs hf h63
    go_enter Try.func38, Try.ntmps38
    go_wp2_with (first | (go_at_call 56; refine (L.out _).mono ?_; rintro e w' ⟨rfl, rfl⟩) | (go_at_call 69; refine (get_ rfl _ _ _ hx).mono ?_; rintro e w' ⟨rfl, rfl⟩))
    all_goals (go_ret; exact ⟨ret_bool (by rw [E.out]), rfl⟩)
  · have hf : from_ b = 52 := by unfold from_; (repeat' split) <;> omega
    rw [hf] at hs
    have hg : (((getN x 52 0 : Nat) : Int) != 0) = false := by rw [ne0]; exact hs
    clear hs hf h63
    go_enter Try.func38, Try.ntmps38
    go_wp2_with (first | (go_at_call 56; refine (L.out _).mono ?_; rintro e w' ⟨rfl, rfl⟩) | (go_at_call 69; refine (get_ rfl _ _ _ hx).mono ?_; rintro e w' ⟨rfl, rfl⟩))
    all_goals (go_ret; exact ⟨ret_bool (by rw [E.out]), rfl⟩)
  · have hf : from_ b = b := by unfold from_; (repeat' split) <;> omega
    rw [hf] at hs
    have hg : (((getN x b (52 - b) : Nat) : Int) != 0) = false := by rw [ne0]; exact hs
    obtain ⟨hb1, hb2⟩ := hb
    clear hs hf h63
    go_enter Try.func38, Try.ntmps38
    go_wp2_with (first | (go_at_call 56; refine (L.out _).mono ?_; rintro e w' ⟨rfl, rfl⟩) | (go_at_call 69; refine (get_ rfl _ _ _ hx).mono ?_; rintro e w' ⟨rfl, rfl⟩))
    all_goals (go_ret; exact ⟨ret_bool (by rw [E.out]), rfl⟩)
theorem res_4ta (x : Nat) (b : Int) (nxe : Bool) (w : World) (hx : x < 18446744073709551616) (hs : someB x (from_ b) 52 = false) (h63 : x.testBit 63 = false) (h7 : x.testBit 7 = true) :
    Calls Try.prog 38 #[.int .u64 x, .int .i64 4, .int .i64 b, .bool nxe] w fun e w' => e = .returned (.bool (resB x 4 b nxe)) ∧ w = w' := by
  have E := Lib.hid (show resB x 4 b nxe = true by unfold resB; simp [hs, h63, h7])
  have L := Lib.hid (fun w => leaf_ (a := x) rfl 4 w hx)
  rw [show leafB x 4 = false by unfold leafB; simp] at L
  have m63 := (ask_bit (x := x) (k := 63) (m := 9223372036854775808) (by decide) (by omega) hx).trans h63
  have m7 := (ask_bit (x := x) (k := 7) (m := 128) (by decide) (by omega) hx).trans h7
  have hb : b < 12 ∨ 52 < b ∨ 12 ≤ b ∧ b ≤ 52 := by omega
  rcases hb with hb | hb | hb
  · have hf : from_ b = 12 := by unfold from_; (repeat' split) <;> omega
    rw [hf] at hs
    have hg : (((getN x 12 40 : Nat) : Int) != 0) = false := by rw [ne0]; exact hs
    clear hs hf h63 h7
    go_enter Try.func38, Try.ntmps38
    go_wp2_with (first | (go_at_call 56; refine (L.out _).mono ?_; rintro e w' ⟨rfl, rfl⟩) | (go_at_call 69; refine (get_ rfl _ _ _ hx).mono ?_; rintro e w' ⟨rfl, rfl⟩))
    all_goals (go_ret; exact ⟨ret_bool (by rw [E.out]), rfl⟩)
  · have hf : from_ b = 52 := by unfold from_; (repeat' split) <;> omega
    rw [hf] at hs
    have hg : (((getN x 52 0 : Nat) : Int) != 0) = false := by rw [ne0]; exact hs
    clear hs hf h63 h7
    go_enter Try.func38, Try.ntmps38
    go_wp2_with (first | (go_at_call 56; refine (L.out _).mono ?_; rintro e w' ⟨rfl, rfl⟩) | (go_at_call 69; refine (get_ rfl _ _ _ hx).mono ?_; rintro e w' ⟨rfl, rfl⟩))
    all_goals (go_ret; exact ⟨ret_bool (by rw [E.out]), rfl⟩)
  · have hf : from_ b = b := by unfold from_; (repeat' split) <;> omega
    rw [hf] at hs
    have hg : (((getN x b (52 - b) : Nat) : Int) != 0) = false := by rw [ne0]; exact hs
    obtain ⟨hb1, hb2⟩ := hb
    clear hs hf h63 h7
    go_enter Try.func38, Try.ntmps38
    go_wp2_with (first | (go_at_call 56; refine (L.out _).mono ?_; rintro e w' ⟨rfl, rfl⟩) | (go_at_call 69; refine (get_ rfl _ _ _ hx).mono ?_; rintro e w' ⟨rfl, rfl⟩))
    all_goals (go_ret; exact ⟨ret_bool (by rw [E.out]), rfl⟩)
theorem res_4fa (x : Nat) (b : Int) (nxe : Bool) (w : World) (hx : x < 18446744073709551616) (hs : someB x (from_ b) 52 = false) (h63 : x.testBit 63 = false) (h7 : x.testBit 7 = false) :
    Calls Try.prog 38 #[.int .u64 x, .int .i64 4, .int .i64 b, .bool nxe] w fun e w' => e = .returned (.bool (resB x 4 b nxe)) ∧ w = w' := by
  have E := Lib.hid (show resB x 4 b nxe = false by unfold resB; simp [hs, h63, h7])
  have L := Lib.hid (fun w => leaf_ (a := x) rfl 4 w hx)
  rw [show leafB x 4 = false by unfold leafB; simp] at L
  have m63 := (ask_bit (x := x) (k := 63) (m := 9223372036854775808) (by decide) (by omega) hx).trans h63
  have m7 := (ask_bit (x := x) (k := 7) (m := 128) (by decide) (by omega) hx).trans h7
  have hb : b < 12 ∨ 52 < b ∨ 12 ≤ b ∧ b ≤ 52 := by omega
  rcases hb with hb | hb | hb
  · have hf : from_ b = 12 := by unfold from_; (repeat' split) <;> omega
    rw [hf] at hs
    have hg : (((getN x 12 40 : Nat) : Int) != 0) = false := by rw [ne0]; exact hs
    clear hs hf h63 h7
    go_enter Try.func38, Try.ntmps38
    go_wp2_with (first | (go_at_call 56; refine (L.out _).mono ?_; rintro e w' ⟨rfl, rfl⟩) | (go_at_call 69; refine (get_ rfl _ _ _ hx).mono ?_; rintro e w' ⟨rfl, rfl⟩))
    all_goals (go_ret; exact ⟨ret_bool (by rw [E.out]), rfl⟩)
  · have hf : from_ b = 52 := by unfold from_; (repeat' split) <;> omega
    rw [hf] at hs
    have hg : (((getN x 52 0 : Nat) : Int) != 0) = false := by rw [ne0]; exact hs
    clear hs hf h63 h7
    go_enter Try.func38, Try.ntmps38
    go_wp2_with (first | (go_at_call 56; refine (L.out _).mono ?_; rintro e w' ⟨rfl, rfl⟩) | (go_at_call 69; refine (get_ rfl _ _ _ hx).mono ?_; rintro e w' ⟨rfl, rfl⟩))
    all_goals (go_ret; exact ⟨ret_bool (by rw [E.out]), rfl⟩)
  · have hf : from_ b = b := by unfold from_; (repeat' split) <;> omega
    rw [hf] at hs
    have hg : (((getN x b (52 - b) : Nat) : Int) != 0) = false := by rw [ne0]; exact hs
    obtain ⟨hb1, hb2⟩ := hb
    clear hs hf h63 h7
    go_enter Try.func38, Try.ntmps38
    go_wp2_with (first | (go_at_call 56; refine (L.out _).mono ?_; rintro e w' ⟨rfl, rfl⟩) | (go_at_call 69; refine (get_ rfl _ _ _ hx).mono ?_; rintro e w' ⟨rfl, rfl⟩))
    all_goals (go_ret; exact ⟨ret_bool (by rw [E.out]), rfl⟩)
theorem res_2ta (x : Nat) (b : Int) (nxe : Bool) (w : World) (hx : x < 18446744073709551616) (hs : someB x (from_ b) 52 = false) (h63 : x.testBit 63 = false) (h7 : x.testBit 7 = true) :
    Calls Try.prog 38 #[.int .u64 x, .int .i64 2, .int .i64 b, .bool nxe] w fun e w' => e = .returned (.bool (resB x 2 b nxe)) ∧ w = w' := by
  have E := Lib.hid (show resB x 2 b nxe = someB x 13 21 by unfold resB; simp [hs, h63, h7])
  have L := Lib.hid (fun w => leaf_ (a := x) rfl 2 w hx)
  rw [show leafB x 2 = true by unfold leafB; simp [h7]] at L
  have m63 := (ask_bit (x := x) (k := 63) (m := 9223372036854775808) (by decide) (by omega) hx).trans h63
  have hb : b < 12 ∨ 52 < b ∨ 12 ≤ b ∧ b ≤ 52 := by omega
  rcases hb with hb | hb | hb
  · have hf : from_ b = 12 := by unfold from_; (repeat' split) <;> omega
    rw [hf] at hs
    have hg : (((getN x 12 40 : Nat) : Int) != 0) = false := by rw [ne0]; exact hs
    clear hs hf h63 h7
    go_enter Try.func38, Try.ntmps38
    go_wp2_with (first | (go_at_call 56; refine (L.out _).mono ?_; rintro e w' ⟨rfl, rfl⟩) | (go_at_call 69; refine (get_ rfl _ _ _ hx).mono ?_; rintro e w' ⟨rfl, rfl⟩))
    go_ret
    exact ⟨ret_bool (by rw [E.out]; exact ne0 _), rfl⟩
  · have hf : from_ b = 52 := by unfold from_; (repeat' split) <;> omega
    rw [hf] at hs
    have hg : (((getN x 52 0 : Nat) : Int) != 0) = false := by rw [ne0]; exact hs
    clear hs hf h63 h7
    go_enter Try.func38, Try.ntmps38
    go_wp2_with (first | (go_at_call 56; refine (L.out _).mono ?_; rintro e w' ⟨rfl, rfl⟩) | (go_at_call 69; refine (get_ rfl _ _ _ hx).mono ?_; rintro e w' ⟨rfl, rfl⟩))
    go_ret
    exact ⟨ret_bool (by rw [E.out]; exact ne0 _), rfl⟩
  · have hf : from_ b = b := by unfold from_; (repeat' split) <;> omega
    rw [hf] at hs
    have hg : (((getN x b (52 - b) : Nat) : Int) != 0) = false := by rw [ne0]; exact hs
    obtain ⟨hb1, hb2⟩ := hb
    clear hs hf h63 h7
    go_enter Try.func38, Try.ntmps38
    go_wp2_with (first | (go_at_call 56; refine (L.out _).mono ?_; rintro e w' ⟨rfl, rfl⟩) | (go_at_call 69; refine (get_ rfl _ _ _ hx).mono ?_; rintro e w' ⟨rfl, rfl⟩))
    go_ret
    exact ⟨ret_bool (by rw [E.out]; exact ne0 _), rfl⟩
theorem res_2fa (x : Nat) (b : Int) (nxe : Bool) (w : World) (hx : x < 18446744073709551616) (hs : someB x (from_ b) 52 = false) (h63 : x.testBit 63 = false) (h7 : x.testBit 7 = false) :
    Calls Try.prog 38 #[.int .u64 x, .int .i64 2, .int .i64 b, .bool nxe] w fun e w' => e = .returned (.bool (resB x 2 b nxe)) ∧ w = w' := by
  have E := Lib.hid (show resB x 2 b nxe = false by unfold resB; simp [hs, h63, h7])
  have L := Lib.hid (fun w => leaf_ (a := x) rfl 2 w hx)
  rw [show leafB x 2 = false by unfold leafB; simp [h7]] at L
  have m63 := (ask_bit (x := x) (k := 63) (m := 9223372036854775808) (by decide) (by omega) hx).trans h63
  have hb : b < 12 ∨ 52 < b ∨ 12 ≤ b ∧ b ≤ 52 := by omega
  rcases hb with hb | hb | hb
  · have hf : from_ b = 12 := by unfold from_; (repeat' split) <;> omega
    rw [hf] at hs
    have hg : (((getN x 12 40 : Nat) : Int) != 0) = false := by rw [ne0]; exact hs
    clear hs hf h63 h7
    go_enter Try.func38, Try.ntmps38
    go_wp2_with (first | (go_at_call 56; refine (L.out _).mono ?_; rintro e w' ⟨rfl, rfl⟩) | (go_at_call 69; refine (get_ rfl _ _ _ hx).mono ?_; rintro e w' ⟨rfl, rfl⟩))
    all_goals (go_ret; exact ⟨ret_bool (by rw [E.out]), rfl⟩)
  · have hf : from_ b = 52 := by unfold from_; (repeat' split) <;> omega
    rw [hf] at hs
    have hg : (((getN x 52 0 : Nat) : Int) != 0) = false := by rw [ne0]; exact hs
    clear hs hf h63 h7
    go_enter Try.func38, Try.ntmps38
    go_wp2_with (first | (go_at_call 56; refine (L.out _).mono ?_; rintro e w' ⟨rfl, rfl⟩) | (go_at_call 69; refine (get_ rfl _ _ _ hx).mono ?_; rintro e w' ⟨rfl, rfl⟩))
    all_goals (go_ret; exact ⟨ret_bool (by rw [E.out]), rfl⟩)
  · have hf : from_ b = b := by unfold from_; (repeat' split) <;> omega
    rw [hf] at hs
    have hg : (((getN x b (52 - b) : Nat) : Int) != 0) = false := by rw [ne0]; exact hs
    obtain ⟨hb1, hb2⟩ := hb
    clear hs hf h63 h7
    go_enter Try.func38, Try.ntmps38
    go_wp2_with (first | (go_at_call 56; refine (L.out _).mono ?_; rintro e w' ⟨rfl, rfl⟩) | (go_at_call 69; refine (get_ rfl _ _ _ hx).mono ?_; rintro e w' ⟨rfl, rfl⟩))
    all_goals (go_ret; exact ⟨ret_bool (by rw [E.out]), rfl⟩)
theorem res_3ta (x : Nat) (b : Int) (nxe : Bool) (w : World) (hx : x < 18446744073709551616) (hs : someB x (from_ b) 52 = false) (h63 : x.testBit 63 = false) (h7 : x.testBit 7 = true) :
    Calls Try.prog 38 #[.int .u64 x, .int .i64 3, .int .i64 b, .bool nxe] w fun e w' => e = .returned (.bool (resB x 3 b nxe)) ∧ w = w' := by
  have E := Lib.hid (show resB x 3 b nxe = someB x 13 30 by unfold resB; simp [hs, h63, h7])
  have L := Lib.hid (fun w => leaf_ (a := x) rfl 3 w hx)
  rw [show leafB x 3 = true by unfold leafB; simp [h7]] at L
  have m63 := (ask_bit (x := x) (k := 63) (m := 9223372036854775808) (by decide) (by omega) hx).trans h63
  have hb : b < 12 ∨ 52 < b ∨ 12 ≤ b ∧ b ≤ 52 := by omega
  rcases hb with hb | hb | hb
  · have hf : from_ b = 12 := by unfold from_; (repeat' split) <;> omega
    rw [hf] at hs
    have hg : (((getN x 12 40 : Nat) : Int) != 0) = false := by rw [ne0]; exact hs
    clear hs hf h63 h7
    go_enter Try.func38, Try.ntmps38
    go_wp2_with (first | (go_at_call 56; refine (L.out _).mono ?_; rintro e w' ⟨rfl, rfl⟩) | (go_at_call 69; refine (get_ rfl _ _ _ hx).mono ?_; rintro e w' ⟨rfl, rfl⟩))
    go_ret
    exact ⟨ret_bool (by rw [E.out]; exact ne0 _), rfl⟩
  · have hf : from_ b = 52 := by unfold from_; (repeat' split) <;> omega
    rw [hf] at hs
    have hg : (((getN x 52 0 : Nat) : Int) != 0) = false := by rw [ne0]; exact hs
    clear hs hf h63 h7
    go_enter Try.func38, Try.ntmps38
    go_wp2_with (first | (go_at_call 56; refine (L.out _).mono ?_; rintro e w' ⟨rfl, rfl⟩) | (go_at_call 69; refine (get_ rfl _ _ _ hx).mono ?_; rintro e w' ⟨rfl, rfl⟩))
    go_ret
    exact ⟨ret_bool (by rw [E.out]; exact ne0 _), rfl⟩
  · have hf : from_ b = b := by unfold from_; (repeat' split) <;> omega
    rw [hf] at hs
    have hg : (((getN x b (52 - b) : Nat) : Int) != 0) = false := by rw [ne0]; exact hs
    obtain ⟨hb1, hb2⟩ := hb
    clear hs hf h63 h7
    go_enter Try.func38, Try.ntmps38
    go_wp2_with (first | (go_at_call 56; refine (L.out _).mono ?_; rintro e w' ⟨rfl, rfl⟩) | (go_at_call 69; refine (get_ rfl _ _ _ hx).mono ?_; rintro e w' ⟨rfl, rfl⟩))
    go_ret
    exact ⟨ret_bool (by rw [E.out]; exact ne0 _), rfl⟩
theorem res_3fa (x : Nat) (b : Int) (nxe : Bool) (w : World) (hx : x < 18446744073709551616) (hs : someB x (from_ b) 52 = false) (h63 : x.testBit 63 = false) (h7 : x.testBit 7 = false) :
    Calls Try.prog 38 #[.int .u64 x, .int .i64 3, .int .i64 b, .bool nxe] w fun e w' => e = .returned (.bool (resB x 3 b nxe)) ∧ w = w' := by
  have E := Lib.hid (show resB x 3 b nxe = false by unfold resB; simp [hs, h63, h7])
  have L := Lib.hid (fun w => leaf_ (a := x) rfl 3 w hx)
  rw [show leafB x 3 = false by unfold leafB; simp [h7]] at L
  have m63 := (ask_bit (x := x) (k := 63) (m := 9223372036854775808) (by decide) (by omega) hx).trans h63
  have hb : b < 12 ∨ 52 < b ∨ 12 ≤ b ∧ b ≤ 52 := by omega
  rcases hb with hb | hb | hb
  · have hf : from_ b = 12 := by unfold from_; (repeat' split) <;> omega
    rw [hf] at hs
    have hg : (((getN x 12 40 : Nat) : Int) != 0) = false := by rw [ne0]; exact hs
    clear hs hf h63 h7
    go_enter Try.func38, Try.ntmps38
    go_wp2_with (first | (go_at_call 56; refine (L.out _).mono ?_; rintro e w' ⟨rfl, rfl⟩) | (go_at_call 69; refine (get_ rfl _ _ _ hx).mono ?_; rintro e w' ⟨rfl, rfl⟩))
    all_goals (go_ret; exact ⟨ret_bool (by rw [E.out]), rfl⟩)
  · have hf : from_ b = 52 := by unfold from_; (repeat' split) <;> omega
    rw [hf] at hs
    have hg : (((getN x 52 0 : Nat) : Int) != 0) = false := by rw [ne0]; exact hs
    clear hs hf h63 h7
    go_enter Try.func38, Try.ntmps38
    go_wp2_with (first | (go_at_call 56; refine (L.out _).mono ?_; rintro e w' ⟨rfl, rfl⟩) | (go_at_call 69; refine (get_ rfl _ _ _ hx).mono ?_; rintro e w' ⟨rfl, rfl⟩))
    all_goals (go_ret; exact ⟨ret_bool (by rw [E.out]), rfl⟩)
  · have hf : from_ b = b := by unfold from_; (repeat' split) <;> omega
    rw [hf] at hs
    have hg : (((getN x b (52 - b) : Nat) : Int) != 0) = false := by rw [ne0]; exact hs
    obtain ⟨hb1, hb2⟩ := hb
    clear hs hf h63 h7
    go_enter Try.func38, Try.ntmps38
    go_wp2_with (first | (go_at_call 56; refine (L.out _).mono ?_; rintro e w' ⟨rfl, rfl⟩) | (go_at_call 69; refine (get_ rfl _ _ _ hx).mono ?_; rintro e w' ⟨rfl, rfl⟩))
    all_goals (go_ret; exact ⟨ret_bool (by rw [E.out]), rfl⟩)
theorem res_1a (x : Nat) (b : Int) (nxe : Bool) (w : World) (hx : x < 18446744073709551616) (hs : someB x (from_ b) 52 = false) (h63 : x.testBit 63 = false) :
    Calls Try.prog 38 #[.int .u64 x, .int .i64 1, .int .i64 b, .bool nxe] w fun e w' => e = .returned (.bool (resB x 1 b nxe)) ∧ w = w' := by
  have E := Lib.hid (show resB x 1 b nxe = false by unfold resB; simp [hs, h63])
  have L := Lib.hid (fun w => leaf_ (a := x) rfl 1 w hx)
  rw [show leafB x 1 = true by unfold leafB; simp] at L
  have m63 := (ask_bit (x := x) (k := 63) (m := 9223372036854775808) (by decide) (by omega) hx).trans h63
  have hb : b < 12 ∨ 52 < b ∨ 12 ≤ b ∧ b ≤ 52 := by omega
  rcases hb with hb | hb | hb
  · have hf : from_ b = 12 := by unfold from_; (repeat' split) <;> omega
    rw [hf] at hs
    have hg : (((getN x 12 40 : Nat) : Int) != 0) = false := by rw [ne0]; exact hs
    clear hs hf h63
    go_enter Try.func38, Try.ntmps38
    go_wp2_with (first | (go_at_call 56; refine (L.out _).mono ?_; rintro e w' ⟨rfl, rfl⟩) | (go_at_call 69; refine (get_ rfl _ _ _ hx).mono ?_; rintro e w' ⟨rfl, rfl⟩))
    all_goals (go_ret; exact ⟨ret_bool (by rw [E.out]), rfl⟩)
  · have hf : from_ b = 52 := by unfold from_; (repeat' split) <;> omega
    rw [hf] at hs
    have hg : (((getN x 52 0 : Nat) : Int) != 0) = false := by rw [ne0]; exact hs
    clear hs hf h63
    go_enter Try.func38, Try.ntmps38
    go_wp2_with (first | (go_at_call 56; refine (L.out _).mono ?_; rintro e w' ⟨rfl, rfl⟩) | (go_at_call 69; refine (get_ rfl _ _ _ hx).mono ?_; rintro e w' ⟨rfl, rfl⟩))
    all_goals (go_ret; exact ⟨ret_bool (by rw [E.out]), rfl⟩)
  · have hf : from_ b = b := by unfold from_; (repeat' split) <;> omega
    rw [hf] at hs
    have hg : (((getN x b (52 - b) : Nat) : Int) != 0) = false := by rw [ne0]; exact hs
    obtain ⟨hb1, hb2⟩ := hb
    clear hs hf h63
    go_enter Try.func38, Try.ntmps38
    go_wp2_with (first | (go_at_call 56; refine (L.out _).mono ?_; rintro e w' ⟨rfl, rfl⟩) | (go_at_call 69; refine (get_ rfl _ _ _ hx).mono ?_; rintro e w' ⟨rfl, rfl⟩))
    all_goals (go_ret; exact ⟨ret_bool (by rw [E.out]), rfl⟩)
theorem res_oa (x : Nat) (b : Int) (l : Int) (nxe : Bool) (w : World) (hx : x < 18446744073709551616) (hs : someB x (from_ b) 52 = false) (h63 : x.testBit 63 = false) (h1 : l ≠ 1) (h2 : l ≠ 2) (h3 : l ≠ 3) (h4 : l ≠ 4) :
    Calls Try.prog 38 #[.int .u64 x, .int .i64 l, .int .i64 b, .bool nxe] w fun e w' => e = .returned (.bool (resB x l b nxe)) ∧ w = w' := by
  have E := Lib.hid (show resB x l b nxe = false by unfold resB; simp [hs, h63, h2, h3, h4])
  have L := Lib.hid (fun w => leaf_ (a := x) rfl l w hx)
  rw [show leafB x l = false by unfold leafB; simp [h2, h3, h1]] at L
  have m63 := (ask_bit (x := x) (k := 63) (m := 9223372036854775808) (by decide) (by omega) hx).trans h63
  have n4 : (l == 4) = false := beq_eq_false_iff_ne.2 h4
  have hb : b < 12 ∨ 52 < b ∨ 12 ≤ b ∧ b ≤ 52 := by omega
  rcases hb with hb | hb | hb
  · have hf : from_ b = 12 := by unfold from_; (repeat' split) <;> omega
    rw [hf] at hs
    have hg : (((getN x 12 40 : Nat) : Int) != 0) = false := by rw [ne0]; exact hs
    clear hs hf h63 h1 h2 h3 h4
    go_enter Try.func38, Try.ntmps38
    go_wp2_with (first | (go_at_call 56; refine (L.out _).mono ?_; rintro e w' ⟨rfl, rfl⟩) | (go_at_call 69; refine (get_ rfl _ _ _ hx).mono ?_; rintro e w' ⟨rfl, rfl⟩))
    all_goals (go_ret; exact ⟨ret_bool (by rw [E.out]), rfl⟩)
  · have hf : from_ b = 52 := by unfold from_; (repeat' split) <;> omega
    rw [hf] at hs
    have hg : (((getN x 52 0 : Nat) : Int) != 0) = false := by rw [ne0]; exact hs
    clear hs hf h63 h1 h2 h3 h4
    go_enter Try.func38, Try.ntmps38
    go_wp2_with (first | (go_at_call 56; refine (L.out _).mono ?_; rintro e w' ⟨rfl, rfl⟩) | (go_at_call 69; refine (get_ rfl _ _ _ hx).mono ?_; rintro e w' ⟨rfl, rfl⟩))
    all_goals (go_ret; exact ⟨ret_bool (by rw [E.out]), rfl⟩)
  · have hf : from_ b = b := by unfold from_; (repeat' split) <;> omega
    rw [hf] at hs
    have hg : (((getN x b (52 - b) : Nat) : Int) != 0) = false := by rw [ne0]; exact hs
    obtain ⟨hb1, hb2⟩ := hb
    clear hs hf h63 h1 h2 h3 h4
    go_enter Try.func38, Try.ntmps38
    go_wp2_with (first | (go_at_call 56; refine (L.out _).mono ?_; rintro e w' ⟨rfl, rfl⟩) | (go_at_call 69; refine (get_ rfl _ _ _ hx).mono ?_; rintro e w' ⟨rfl, rfl⟩))
    all_goals (go_ret; exact ⟨ret_bool (by rw [E.out]), rfl⟩)
theorem res_4tb (x : Nat) (b : Int) (w : World) (hx : x < 18446744073709551616) (hs : someB x (from_ b) 52 = false) (h63 : x.testBit 63 = true) (h7 : x.testBit 7 = true) :
    Calls Try.prog 38 #[.int .u64 x, .int .i64 4, .int .i64 b, .bool true] w fun e w' => e = .returned (.bool (resB x 4 b true)) ∧ w = w' := by
  have E := Lib.hid (show resB x 4 b true = true by unfold resB; simp [hs, h63, h7])
  have L := Lib.hid (fun w => leaf_ (a := x) rfl 4 w hx)
  rw [show leafB x 4 = false by unfold leafB; simp] at L
  have m63 := (ask_bit (x := x) (k := 63) (m := 9223372036854775808) (by decide) (by omega) hx).trans h63
  have m7 := (ask_bit (x := x) (k := 7) (m := 128) (by decide) (by omega) hx).trans h7
  have hb : b < 12 ∨ 52 < b ∨ 12 ≤ b ∧ b ≤ 52 := by omega
  rcases hb with hb | hb | hb
  · have hf : from_ b = 12 := by unfold from_; (repeat' split) <;> omega
    rw [hf] at hs
    have hg : (((getN x 12 40 : Nat) : Int) != 0) = false := by rw [ne0]; exact hs
    clear hs hf h63 h7
    go_enter Try.func38, Try.ntmps38
    go_wp2_with (first | (go_at_call 56; refine (L.out _).mono ?_; rintro e w' ⟨rfl, rfl⟩) | (go_at_call 69; refine (get_ rfl _ _ _ hx).mono ?_; rintro e w' ⟨rfl, rfl⟩))
    all_goals (go_ret; exact ⟨ret_bool (by rw [E.out]), rfl⟩)
  · have hf : from_ b = 52 := by unfold from_; (repeat' split) <;> omega
    rw [hf] at hs
    have hg : (((getN x 52 0 : Nat) : Int) != 0) = false := by rw [ne0]; exact hs
    clear hs hf h63 h7
    go_enter Try.func38, Try.ntmps38
    go_wp2_with (first | (go_at_call 56; refine (L.out _).mono ?_; rintro e w' ⟨rfl, rfl⟩) | (go_at_call 69; refine (get_ rfl _ _ _ hx).mono ?_; rintro e w' ⟨rfl, rfl⟩))
    all_goals (go_ret; exact ⟨ret_bool (by rw [E.out]), rfl⟩)
  · have hf : from_ b = b := by unfold from_; (repeat' split) <;> omega
    rw [hf] at hs
    have hg : (((getN x b (52 - b) : Nat) : Int) != 0) = false := by rw [ne0]; exact hs
    obtain ⟨hb1, hb2⟩ := hb
    clear hs hf h63 h7
    go_enter Try.func38, Try.ntmps38
    go_wp2_with (first | (go_at_call 56; refine (L.out _).mono ?_; rintro e w' ⟨rfl, rfl⟩) | (go_at_call 69; refine (get_ rfl _ _ _ hx).mono ?_; rintro e w' ⟨rfl, rfl⟩))
    all_goals (go_ret; exact ⟨ret_bool (by rw [E.out]), rfl⟩)
theorem res_4fb (x : Nat) (b : Int) (w : World) (hx : x < 18446744073709551616) (hs : someB x (from_ b) 52 = false) (h63 : x.testBit 63 = true) (h7 : x.testBit 7 = false) :
    Calls Try.prog 38 #[.int .u64 x, .int .i64 4, .int .i64 b, .bool true] w fun e w' => e = .returned (.bool (resB x 4 b true)) ∧ w = w' := by
  have E := Lib.hid (show resB x 4 b true = false by unfold resB; simp [hs, h63, h7])
  have L := Lib.hid (fun w => leaf_ (a := x) rfl 4 w hx)
  rw [show leafB x 4 = false by unfold leafB; simp] at L
  have m63 := (ask_bit (x := x) (k := 63) (m := 9223372036854775808) (by decide) (by omega) hx).trans h63
  have m7 := (ask_bit (x := x) (k := 7) (m := 128) (by decide) (by omega) hx).trans h7
  have hb : b < 12 ∨ 52 < b ∨ 12 ≤ b ∧ b ≤ 52 := by omega
  rcases hb with hb | hb | hb
  · have hf : from_ b = 12 := by unfold from_; (repeat' split) <;> omega
    rw [hf] at hs
    have hg : (((getN x 12 40 : Nat) : Int) != 0) = false := by rw [ne0]; exact hs
    clear hs hf h63 h7
    go_enter Try.func38, Try.ntmps38
    go_wp2_with (first | (go_at_call 56; refine (L.out _).mono ?_; rintro e w' ⟨rfl, rfl⟩) | (go_at_call 69; refine (get_ rfl _ _ _ hx).mono ?_; rintro e w' ⟨rfl, rfl⟩))
    all_goals (go_ret; exact ⟨ret_bool (by rw [E.out]), rfl⟩)
  · have hf : from_ b = 52 := by unfold from_; (repeat' split) <;> omega
    rw [hf] at hs
    have hg : (((getN x 52 0 : Nat) : Int) != 0) = false := by rw [ne0]; exact hs
    clear hs hf h63 h7
    go_enter Try.func38, Try.ntmps38
    go_wp2_with (first | (go_at_call 56; refine (L.out _).mono ?_; rintro e w' ⟨rfl, rfl⟩) | (go_at_call 69; refine (get_ rfl _ _ _ hx).mono ?_; rintro e w' ⟨rfl, rfl⟩))
    all_goals (go_ret; exact ⟨ret_bool (by rw [E.out]), rfl⟩)
  · have hf : from_ b = b := by unfold from_; (repeat' split) <;> omega
    rw [hf] at hs
    have hg : (((getN x b (52 - b) : Nat) : Int) != 0) = false := by rw [ne0]; exact hs
    obtain ⟨hb1, hb2⟩ := hb
    clear hs hf h63 h7
    go_enter Try.func38, Try.ntmps38
    go_wp2_with (first | (go_at_call 56; refine (L.out _).mono ?_; rintro e w' ⟨rfl, rfl⟩) | (go_at_call 69; refine (get_ rfl _ _ _ hx).mono ?_; rintro e w' ⟨rfl, rfl⟩))
    all_goals (go_ret; exact ⟨ret_bool (by rw [E.out]), rfl⟩)
theorem res_2tb (x : Nat) (b : Int) (w : World) (hx : x < 18446744073709551616) (hs : someB x (from_ b) 52 = false) (h63 : x.testBit 63 = true) (h7 : x.testBit 7 = true) :
    Calls Try.prog 38 #[.int .u64 x, .int .i64 2, .int .i64 b, .bool true] w fun e w' => e = .returned (.bool (resB x 2 b true)) ∧ w = w' := by
  have E := Lib.hid (show resB x 2 b true = someB x 13 21 by unfold resB; simp [hs, h63, h7])
  have L := Lib.hid (fun w => leaf_ (a := x) rfl 2 w hx)
  rw [show leafB x 2 = true by unfold leafB; simp [h7]] at L
  have m63 := (ask_bit (x := x) (k := 63) (m := 9223372036854775808) (by decide) (by omega) hx).trans h63
  have hb : b < 12 ∨ 52 < b ∨ 12 ≤ b ∧ b ≤ 52 := by omega
  rcases hb with hb | hb | hb
  · have hf : from_ b = 12 := by unfold from_; (repeat' split) <;> omega
    rw [hf] at hs
    have hg : (((getN x 12 40 : Nat) : Int) != 0) = false := by rw [ne0]; exact hs
    clear hs hf h63 h7
    go_enter Try.func38, Try.ntmps38
    go_wp2_with (first | (go_at_call 56; refine (L.out _).mono ?_; rintro e w' ⟨rfl, rfl⟩) | (go_at_call 69; refine (get_ rfl _ _ _ hx).mono ?_; rintro e w' ⟨rfl, rfl⟩))
    go_ret
    exact ⟨ret_bool (by rw [E.out]; exact ne0 _), rfl⟩
  · have hf : from_ b = 52 := by unfold from_; (repeat' split) <;> omega
    rw [hf] at hs
    have hg : (((getN x 52 0 : Nat) : Int) != 0) = false := by rw [ne0]; exact hs
    clear hs hf h63 h7
    go_enter Try.func38, Try.ntmps38
    go_wp2_with (first | (go_at_call 56; refine (L.out _).mono ?_; rintro e w' ⟨rfl, rfl⟩) | (go_at_call 69; refine (get_ rfl _ _ _ hx).mono ?_; rintro e w' ⟨rfl, rfl⟩))
    go_ret
    exact ⟨ret_bool (by rw [E.out]; exact ne0 _), rfl⟩
  · have hf : from_ b = b := by unfold from_; (repeat' split) <;> omega
    rw [hf] at hs
    have hg : (((getN x b (52 - b) : Nat) : Int) != 0) = false := by rw [ne0]; exact hs
    obtain ⟨hb1, hb2⟩ := hb
    clear hs hf h63 h7
    go_enter Try.func38, Try.ntmps38
    go_wp2_with (first | (go_at_call 56; refine (L.out _).mono ?_; rintro e w' ⟨rfl, rfl⟩) | (go_at_call 69; refine (get_ rfl _ _ _ hx).mono ?_; rintro e w' ⟨rfl, rfl⟩))
    go_ret
    exact ⟨ret_bool (by rw [E.out]; exact ne0 _), rfl⟩
theorem res_2fb (x : Nat) (b : Int) (w : World) (hx : x < 18446744073709551616) (hs : someB x (from_ b) 52 = false) (h63 : x.testBit 63 = true) (h7 : x.testBit 7 = false) :
    Calls Try.prog 38 #[.int .u64 x, .int .i64 2, .int .i64 b, .bool true] w fun e w' => e = .returned (.bool (resB x 2 b true)) ∧ w = w' := by
  have E := Lib.hid (show resB x 2 b true = false by unfold resB; simp [hs, h63, h7])
  have L := Lib.hid (fun w => leaf_ (a := x) rfl 2 w hx)
  rw [show leafB x 2 = false by unfold leafB; simp [h7]] at L
  have m63 := (ask_bit (x := x) (k := 63) (m := 9223372036854775808) (by decide) (by omega) hx).trans h63
  have hb : b < 12 ∨ 52 < b ∨ 12 ≤ b ∧ b ≤ 52 := by omega
  rcases hb with hb | hb | hb
  · have hf : from_ b = 12 := by unfold from_; (repeat' split) <;> omega
    rw [hf] at hs
    have hg : (((getN x 12 40 : Nat) : Int) != 0) = false := by rw [ne0]; exact hs
    clear hs hf h63 h7
    go_enter Try.func38, Try.ntmps38
    go_wp2_with (first | (go_at_call 56; refine (L.out _).mono ?_; rintro e w' ⟨rfl, rfl⟩) | (go_at_call 69; refine (get_ rfl _ _ _ hx).mono ?_; rintro e w' ⟨rfl, rfl⟩))
    all_goals (go_ret; exact ⟨ret_bool (by rw [E.out]), rfl⟩)
  · have hf : from_ b = 52 := by unfold from_; (repeat' split) <;> omega
    rw [hf] at hs
    have hg : (((getN x 52 0 : Nat) : Int) != 0) = false := by rw [ne0]; exact hs
    clear hs hf h63 h7
    go_enter Try.func38, Try.ntmps38
    go_wp2_with (first | (go_at_call 56; refine (L.out _).mono ?_; rintro e w' ⟨rfl, rfl⟩) | (go_at_call 69; refine (get_ rfl _ _ _ hx).mono ?_; rintro e w' ⟨rfl, rfl⟩))
    all_goals (go_ret; exact ⟨ret_bool (by rw [E.out]), rfl⟩)
  · have hf : from_ b = b := by unfold from_; (repeat' split) <;> omega
    rw [hf] at hs
    have hg : (((getN x b (52 - b) : Nat) : Int) != 0) = false := by rw [ne0]; exact hs
    obtain ⟨hb1, hb2⟩ := hb
    clear hs hf h63 h7
    go_enter Try.func38, Try.ntmps38
    go_wp2_with (first | (go_at_call 56; refine (L.out _).mono ?_; rintro e w' ⟨rfl, rfl⟩) | (go_at_call 69; refine (get_ rfl _ _ _ hx).mono ?_; rintro e w' ⟨rfl, rfl⟩))
    all_goals (go_ret; exact ⟨ret_bool (by rw [E.out]), rfl⟩)
theorem res_3tb (x : Nat) (b : Int) (w : World) (hx : x < 18446744073709551616) (hs : someB x (from_ b) 52 = false) (h63 : x.testBit 63 = true) (h7 : x.testBit 7 = true) :
    Calls Try.prog 38 #[.int .u64 x, .int .i64 3, .int .i64 b, .bool true] w fun e w' => e = .returned (.bool (resB x 3 b true)) ∧ w = w' := by
  have E := Lib.hid (show resB x 3 b true = someB x 13 30 by unfold resB; simp [hs, h63, h7])
  have L := Lib.hid (fun w => leaf_ (a := x) rfl 3 w hx)
  rw [show leafB x 3 = true by unfold leafB; simp [h7]] at L
  have m63 := (ask_bit (x := x) (k := 63) (m := 9223372036854775808) (by decide) (by omega) hx).trans h63
  have hb : b < 12 ∨ 52 < b ∨ 12 ≤ b ∧ b ≤ 52 := by omega
  rcases hb with hb | hb | hb
  · have hf : from_ b = 12 := by unfold from_; (repeat' split) <;> omega
    rw [hf] at hs
    have hg : (((getN x 12 40 : Nat) : Int) != 0) = false := by rw [ne0]; exact hs
    clear hs hf h63 h7
    go_enter Try.func38, Try.ntmps38
    go_wp2_with (first | (go_at_call 56; refine (L.out _).mono ?_; rintro e w' ⟨rfl, rfl⟩) | (go_at_call 69; refine (get_ rfl _ _ _ hx).mono ?_; rintro e w' ⟨rfl, rfl⟩))
    go_ret
    exact ⟨ret_bool (by rw [E.out]; exact ne0 _), rfl⟩
  · have hf : from_ b = 52 := by unfold from_; (repeat' split) <;> omega
    rw [hf] at hs
    have hg : (((getN x 52 0 : Nat) : Int) != 0) = false := by rw [ne0]; exact hs
    clear hs hf h63 h7
    go_enter Try.func38, Try.ntmps38
    go_wp2_with (first | (go_at_call 56; refine (L.out _).mono ?_; rintro e w' ⟨rfl, rfl⟩) | (go_at_call 69; refine (get_ rfl _ _ _ hx).mono ?_; rintro e w' ⟨rfl, rfl⟩))
    go_ret
    exact ⟨ret_bool (by rw [E.out]; exact ne0 _), rfl⟩
  · have hf : from_ b = b := by unfold from_; (repeat' split) <;> omega
    rw [hf] at hs
    have hg : (((getN x b (52 - b) : Nat) : Int) != 0) = false := by rw [ne0]; exact hs
    obtain ⟨hb1, hb2⟩ := hb
    clear hs hf h63 h7
    go_enter Try.func38, Try.ntmps38
    go_wp2_with (first | (go_at_call 56; refine (L.out _).mono ?_; rintro e w' ⟨rfl, rfl⟩) | (go_at_call 69; refine (get_ rfl _ _ _ hx).mono ?_; rintro e w' ⟨rfl, rfl⟩))
    go_ret
    exact ⟨ret_bool (by rw [E.out]; exact ne0 _), rfl⟩
theorem res_3fb (x : Nat) (b : Int) (w : World) (hx : x < 18446744073709551616) (hs : someB x (from_ b) 52 = false) (h63 : x.testBit 63 = true) (h7 : x.testBit 7 = false) :
    Calls Try.prog 38 #[.int .u64 x, .int .i64 3, .int .i64 b, .bool true] w fun e w' => e = .returned (.bool (resB x 3 b true)) ∧ w = w' := by
  have E := Lib.hid (show resB x 3 b true = false by unfold resB; simp [hs, h63, h7])
  have L := Lib.hid (fun w => leaf_ (a := x) rfl 3 w hx)
  rw [show leafB x 3 = false by unfold leafB; simp [h7]] at L
  have m63 := (ask_bit (x := x) (k := 63) (m := 9223372036854775808) (by decide) (by omega) hx).trans h63
  have hb : b < 12 ∨ 52 < b ∨ 12 ≤ b ∧ b ≤ 52 := by omega
  rcases hb with hb | hb | hb
  · have hf : from_ b = 12 := by unfold from_; (repeat' split) <;> omega
    rw [hf] at hs
    have hg : (((getN x 12 40 : Nat) : Int) != 0) = false := by rw [ne0]; exact hs
    clear hs hf h63 h7
    go_enter Try.func38, Try.ntmps38
    go_wp2_with (first | (go_at_call 56; refine (L.out _).mono ?_; rintro e w' ⟨rfl, rfl⟩) | (go_at_call 69; refine (get_ rfl _ _ _ hx).mono ?_; rintro e w' ⟨rfl, rfl⟩))
    all_goals (go_ret; exact ⟨ret_bool (by rw [E.out]), rfl⟩)
  · have hf : from_ b = 52 := by unfold from_; (repeat' split) <;> omega
    rw [hf] at hs
    have hg : (((getN x 52 0 : Nat) : Int) != 0) = false := by rw [ne0]; exact hs
    clear hs hf h63 h7
    go_enter Try.func38, Try.ntmps38
    go_wp2_with (first | (go_at_call 56; refine (L.out _).mono ?_; rintro e w' ⟨rfl, rfl⟩) | (go_at_call 69; refine (get_ rfl _ _ _ hx).mono ?_; rintro e w' ⟨rfl, rfl⟩))
    all_goals (go_ret; exact ⟨ret_bool (by rw [E.out]), rfl⟩)
  · have hf : from_ b = b := by unfold from_; (repeat' split) <;> omega
    rw [hf] at hs
    have hg : (((getN x b (52 - b) : Nat) : Int) != 0) = false := by rw [ne0]; exact hs
    obtain ⟨hb1, hb2⟩ := hb
    clear hs hf h63 h7
    go_enter Try.func38, Try.ntmps38
    go_wp2_with (first | (go_at_call 56; refine (L.out _).mono ?_; rintro e w' ⟨rfl, rfl⟩) | (go_at_call 69; refine (get_ rfl _ _ _ hx).mono ?_; rintro e w' ⟨rfl, rfl⟩))
    all_goals (go_ret; exact ⟨ret_bool (by rw [E.out]), rfl⟩)
theorem res_1b (x : Nat) (b : Int) (w : World) (hx : x < 18446744073709551616) (hs : someB x (from_ b) 52 = false) (h63 : x.testBit 63 = true) :
    Calls Try.prog 38 #[.int .u64 x, .int .i64 1, .int .i64 b, .bool true] w fun e w' => e = .returned (.bool (resB x 1 b true)) ∧ w = w' := by
  have E := Lib.hid (show resB x 1 b true = false by unfold resB; simp [hs, h63])
  have L := Lib.hid (fun w => leaf_ (a := x) rfl 1 w hx)
  rw [show leafB x 1 = true by unfold leafB; simp] at L
  have m63 := (ask_bit (x := x) (k := 63) (m := 9223372036854775808) (by decide) (by omega) hx).trans h63
  have hb : b < 12 ∨ 52 < b ∨ 12 ≤ b ∧ b ≤ 52 := by omega
  rcases hb with hb | hb | hb
  · have hf : from_ b = 12 := by unfold from_; (repeat' split) <;> omega
    rw [hf] at hs
    have hg : (((getN x 12 40 : Nat) : Int) != 0) = false := by rw [ne0]; exact hs
    clear hs hf h63
    go_enter Try.func38, Try.ntmps38
    go_wp2_with (first | (go_at_call 56; refine (L.out _).mono ?_; rintro e w' ⟨rfl, rfl⟩) | (go_at_call 69; refine (get_ rfl _ _ _ hx).mono ?_; rintro e w' ⟨rfl, rfl⟩))
    all_goals (go_ret; exact ⟨ret_bool (by rw [E.out]), rfl⟩)
  · have hf : from_ b = 52 := by unfold from_; (repeat' split) <;> omega
    rw [hf] at hs
    have hg : (((getN x 52 0 : Nat) : Int) != 0) = false := by rw [ne0]; exact hs
    clear hs hf h63
    go_enter Try.func38, Try.ntmps38
    go_wp2_with (first | (go_at_call 56; refine (L.out _).mono ?_; rintro e w' ⟨rfl, rfl⟩) | (go_at_call 69; refine (get_ rfl _ _ _ hx).mono ?_; rintro e w' ⟨rfl, rfl⟩))
    all_goals (go_ret; exact ⟨ret_bool (by rw [E.out]), rfl⟩)
  · have hf : from_ b = b := by unfold from_; (repeat' split) <;> omega
    rw [hf] at hs
    have hg : (((getN x b (52 - b) : Nat) : Int) != 0) = false := by rw [ne0]; exact hs
    obtain ⟨hb1, hb2⟩ := hb
    clear hs hf h63
    go_enter Try.func38, Try.ntmps38
    go_wp2_with (first | (go_at_call 56; refine (L.out _).mono ?_; rintro e w' ⟨rfl, rfl⟩) | (go_at_call 69; refine (get_ rfl _ _ _ hx).mono ?_; rintro e w' ⟨rfl, rfl⟩))
    all_goals (go_ret; exact ⟨ret_bool (by rw [E.out]), rfl⟩)
theorem res_ob (x : Nat) (b : Int) (l : Int) (w : World) (hx : x < 18446744073709551616) (hs : someB x (from_ b) 52 = false) (h63 : x.testBit 63 = true) (h1 : l ≠ 1) (h2 : l ≠ 2) (h3 : l ≠ 3) (h4 : l ≠ 4) :
    Calls Try.prog 38 #[.int .u64 x, .int .i64 l, .int .i64 b, .bool true] w fun e w' => e = .returned (.bool (resB x l b true)) ∧ w = w' := by
  have E := Lib.hid (show resB x l b true = false by unfold resB; simp [hs, h63, h2, h3, h4])
  have L := Lib.hid (fun w => leaf_ (a := x) rfl l w hx)
  rw [show leafB x l = false by unfold leafB; simp [h2, h3, h1]] at L
  have m63 := (ask_bit (x := x) (k := 63) (m := 9223372036854775808) (by decide) (by omega) hx).trans h63
  have n4 : (l == 4) = false := beq_eq_false_iff_ne.2 h4
  have hb : b < 12 ∨ 52 < b ∨ 12 ≤ b ∧ b ≤ 52 := by omega
  rcases hb with hb | hb | hb
  · have hf : from_ b = 12 := by unfold from_; (repeat' split) <;> omega
    rw [hf] at hs
    have hg : (((getN x 12 40 : Nat) : Int) != 0) = false := by rw [ne0]; exact hs
    clear hs hf h63 h1 h2 h3 h4
    go_enter Try.func38, Try.ntmps38
    go_wp2_with (first | (go_at_call 56; refine (L.out _).mono ?_; rintro e w' ⟨rfl, rfl⟩) | (go_at_call 69; refine (get_ rfl _ _ _ hx).mono ?_; rintro e w' ⟨rfl, rfl⟩))
    all_goals (go_ret; exact ⟨ret_bool (by rw [E.out]), rfl⟩)
  · have hf : from_ b = 52 := by unfold from_; (repeat' split) <;> omega
    rw [hf] at hs
    have hg : (((getN x 52 0 : Nat) : Int) != 0) = false := by rw [ne0]; exact hs
    clear hs hf h63 h1 h2 h3 h4
    go_enter Try.func38, Try.ntmps38
    go_wp2_with (first | (go_at_call 56; refine (L.out _).mono ?_; rintro e w' ⟨rfl, rfl⟩) | (go_at_call 69; refine (get_ rfl _ _ _ hx).mono ?_; rintro e w' ⟨rfl, rfl⟩))
    all_goals (go_ret; exact ⟨ret_bool (by rw [E.out]), rfl⟩)
  · have hf : from_ b = b := by unfold from_; (repeat' split) <;> omega
    rw [hf] at hs
    have hg : (((getN x b (52 - b) : Nat) : Int) != 0) = false := by rw [ne0]; exact hs
    obtain ⟨hb1, hb2⟩ := hb
    clear hs hf h63 h1 h2 h3 h4
    go_enter Try.func38, Try.ntmps38
    go_wp2_with (first | (go_at_call 56; refine (L.out _).mono ?_; rintro e w' ⟨rfl, rfl⟩) | (go_at_call 69; refine (get_ rfl _ _ _ hx).mono ?_; rintro e w' ⟨rfl, rfl⟩))
    all_goals (go_ret; exact ⟨ret_bool (by rw [E.out]), rfl⟩)
theorem resv_ {y : Int} {x : Nat} (hy : y = x) (l b : Int) (nxe : Bool) (w : World) (hx : x < 18446744073709551616) :
    Calls Try.prog 38 #[.int .u64 y, .int .i64 l, .int .i64 b, .bool nxe] w fun e w' => e = .returned (.bool (resB x l b nxe)) ∧ w = w' := by
  subst hy
  cases hs : someB x (from_ b) 52 with
  | true => exact res_s x b l nxe w hx hs
  | false =>
    cases h63 : x.testBit 63 with
    | false =>
      by_cases h1 : l = 1
      · subst h1; exact res_1a x b nxe w hx hs h63
      · by_cases h2 : l = 2
        · subst h2
          cases h7 : x.testBit 7 with
          | true => exact res_2ta x b nxe w hx hs h63 h7
          | false => exact res_2fa x b nxe w hx hs h63 h7
        · by_cases h3 : l = 3
          · subst h3
            cases h7 : x.testBit 7 with
            | true => exact res_3ta x b nxe w hx hs h63 h7
            | false => exact res_3fa x b nxe w hx hs h63 h7
          · by_cases h4 : l = 4
            · subst h4
              cases h7 : x.testBit 7 with
              | true => exact res_4ta x b nxe w hx hs h63 h7
              | false => exact res_4fa x b nxe w hx hs h63 h7
            · exact res_oa x b l nxe w hx hs h63 h1 h2 h3 h4
    | true =>
      cases nxe with
      | false => exact res_n x b l w hx hs h63
      | true =>
        by_cases h1 : l = 1
        · subst h1; exact res_1b x b  w hx hs h63
        · by_cases h2 : l = 2
          · subst h2
            cases h7 : x.testBit 7 with
            | true => exact res_2tb x b  w hx hs h63 h7
            | false => exact res_2fb x b  w hx hs h63 h7
          · by_cases h3 : l = 3
            · subst h3
              cases h7 : x.testBit 7 with
              | true => exact res_3tb x b  w hx hs h63 h7
              | false => exact res_3fb x b  w hx hs h63 h7
            · by_cases h4 : l = 4
              · subst h4
                cases h7 : x.testBit 7 with
                | true => exact res_4tb x b  w hx hs h63 h7
                | false => exact res_4fb x b  w hx hs h63 h7
              · exact res_ob x b l w hx hs h63 h1 h2 h3 h4
theorem refres_s (x : Nat) (b : Int) (l : Int) (nxe : Bool) (w : World) (hx : x < 18446744073709551616) (hs : someB x (from_ b) 52 = true) :
    Calls Try.prog 39 #[.int .u64 x, .int .i64 l, .int .i64 b, .bool nxe] w fun e w' => e = .returned (.bool (resB x l b nxe)) ∧ w = w' := by
  have E := Lib.hid (show resB x l b nxe = true by unfold resB; simp [hs])
  have hb : b < 12 ∨ 52 < b ∨ 12 ≤ b ∧ b ≤ 52 := by omega
  rcases hb with hb | hb | hb
  · have hf : from_ b = 12 := by unfold from_; (repeat' split) <;> omega
    rw [hf] at hs
    have S := Lib.hid (fun w => some_ (a := x) rfl (lo' := 12) (hi' := 51) (lo := 12) (hi := 51) rfl rfl w hx (by omega))
    rw [show someB x (12 : Int) ((51 : Int) + 1) = true from hs] at S
    have hd0 : decide (b < 12) = true := decide_eq_true hb
    clear hs hf hb
    go_enter Try.func39, Try.ntmps39
    go_wp2_with (first | (go_at_call 71; first | ((with_reducible refine (S.out _).mono ?_); rintro e w' ⟨rfl, rfl⟩)))
    go_ret
    exact ⟨ret_bool (by rw [E.out]), rfl⟩
  · have hf : from_ b = 52 := by unfold from_; (repeat' split) <;> omega
    rw [hf] at hs
    have S := Lib.hid (fun w => some_ (a := x) rfl (lo' := 52) (hi' := 51) (lo := 52) (hi := 51) rfl rfl w hx (by omega))
    rw [show someB x (52 : Int) ((51 : Int) + 1) = true from hs] at S
    have hd0 : decide (b < 12) = false := decide_eq_false (by omega)
    have hd1 : decide (52 < b) = true := decide_eq_true hb
    clear hs hf hb
    go_enter Try.func39, Try.ntmps39
    go_wp2_with (first | (go_at_call 71; first | ((with_reducible refine (S.out _).mono ?_); rintro e w' ⟨rfl, rfl⟩)))
    go_ret
    exact ⟨ret_bool (by rw [E.out]), rfl⟩
  · have hf : from_ b = b := by unfold from_; (repeat' split) <;> omega
    rw [hf] at hs
    obtain ⟨hb1, hb2⟩ := hb
    obtain ⟨bn, rfl⟩ := Int.eq_ofNat_of_zero_le (show 0 ≤ b by omega)
    have S := Lib.hid (fun w => some_ (a := x) rfl (lo' := (bn : Int)) (hi' := 51) (lo := bn) (hi := 51) rfl rfl w hx (by omega))
    rw [show someB x (bn : Int) ((51 : Int) + 1) = true from hs] at S
    have hd0 : decide ((bn : Int) < 12) = false := decide_eq_false (by omega)
    have hd1 : decide (52 < (bn : Int)) = false := decide_eq_false (by omega)
    clear hs hf
    go_enter Try.func39, Try.ntmps39
    go_wp2_with (first | (go_at_call 71; first | ((with_reducible refine (S.out _).mono ?_); rintro e w' ⟨rfl, rfl⟩)))
    go_ret
    exact ⟨ret_bool (by rw [E.out]), rfl⟩
theorem refres_n (x : Nat) (b : Int) (l : Int) (w : World) (hx : x < 18446744073709551616) (hs : someB x (from_ b) 52 = false) (h63 : x.testBit 63 = true) :
    Calls Try.prog 39 #[.int .u64 x, .int .i64 l, .int .i64 b, .bool false] w fun e w' => e = .returned (.bool (resB x l b false)) ∧ w = w' := by
  have E := Lib.hid (show resB x l b false = true by unfold resB; simp [hs, h63])
  have B63 := Lib.hid (fun w => bit_at (a := x) rfl (y := 63) (i := 63) rfl hx w (by omega))
  rw [h63] at B63
  have hb : b < 12 ∨ 52 < b ∨ 12 ≤ b ∧ b ≤ 52 := by omega
  rcases hb with hb | hb | hb
  · have hf : from_ b = 12 := by unfold from_; (repeat' split) <;> omega
    rw [hf] at hs
    have S := Lib.hid (fun w => some_ (a := x) rfl (lo' := 12) (hi' := 51) (lo := 12) (hi := 51) rfl rfl w hx (by omega))
    rw [show someB x (12 : Int) ((51 : Int) + 1) = false from hs] at S
    have hd0 : decide (b < 12) = true := decide_eq_true hb
    clear hs hf hb h63
    go_enter Try.func39, Try.ntmps39
    go_wp2_with (first | (go_at_call 71; first | ((with_reducible refine (S.out _).mono ?_); rintro e w' ⟨rfl, rfl⟩)) | (go_at_call 67; first | ((with_reducible refine (B63.out _).mono ?_); rintro e w' ⟨rfl, rfl⟩)))
    go_ret
    exact ⟨ret_bool (by rw [E.out]), rfl⟩
  · have hf : from_ b = 52 := by unfold from_; (repeat' split) <;> omega
    rw [hf] at hs
    have S := Lib.hid (fun w => some_ (a := x) rfl (lo' := 52) (hi' := 51) (lo := 52) (hi := 51) rfl rfl w hx (by omega))
    rw [show someB x (52 : Int) ((51 : Int) + 1) = false from hs] at S
    have hd0 : decide (b < 12) = false := decide_eq_false (by omega)
    have hd1 : decide (52 < b) = true := decide_eq_true hb
    clear hs hf hb h63
    go_enter Try.func39, Try.ntmps39
    go_wp2_with (first | (go_at_call 71; first | ((with_reducible refine (S.out _).mono ?_); rintro e w' ⟨rfl, rfl⟩)) | (go_at_call 67; first | ((with_reducible refine (B63.out _).mono ?_); rintro e w' ⟨rfl, rfl⟩)))
    go_ret
    exact ⟨ret_bool (by rw [E.out]), rfl⟩
  · have hf : from_ b = b := by unfold from_; (repeat' split) <;> omega
    rw [hf] at hs
    obtain ⟨hb1, hb2⟩ := hb
    obtain ⟨bn, rfl⟩ := Int.eq_ofNat_of_zero_le (show 0 ≤ b by omega)
    have S := Lib.hid (fun w => some_ (a := x) rfl (lo' := (bn : Int)) (hi' := 51) (lo := bn) (hi := 51) rfl rfl w hx (by omega))
    rw [show someB x (bn : Int) ((51 : Int) + 1) = false from hs] at S
    have hd0 : decide ((bn : Int) < 12) = false := decide_eq_false (by omega)
    have hd1 : decide (52 < (bn : Int)) = false := decide_eq_false (by omega)
    clear hs hf h63
    go_enter Try.func39, Try.ntmps39
    go_wp2_with (first | (go_at_call 71; first | ((with_reducible refine (S.out _).mono ?_); rintro e w' ⟨rfl, rfl⟩)) | (go_at_call 67; first | ((with_reducible refine (B63.out _).mono ?_); rintro e w' ⟨rfl, rfl⟩)))
    go_ret
    exact ⟨ret_bool (by rw [E.out]), rfl⟩
theorem refres_4ta (x : Nat) (b : Int) (nxe : Bool) (w : World) (hx : x < 18446744073709551616) (hs : someB x (from_ b) 52 = false) (h63 : x.testBit 63 = false) (h7 : x.testBit 7 = true) :
    Calls Try.prog 39 #[.int .u64 x, .int .i64 4, .int .i64 b, .bool nxe] w fun e w' => e = .returned (.bool (resB x 4 b nxe)) ∧ w = w' := by
  have E := Lib.hid (show resB x 4 b nxe = true by unfold resB; simp [hs, h63, h7])
  have B63 := Lib.hid (fun w => bit_at (a := x) rfl (y := 63) (i := 63) rfl hx w (by omega))
  rw [h63] at B63
  have B7 := Lib.hid (fun w => bit_at (a := x) rfl (y := 7) (i := 7) rfl hx w (by omega))
  rw [h7] at B7
  have hb : b < 12 ∨ 52 < b ∨ 12 ≤ b ∧ b ≤ 52 := by omega
  rcases hb with hb | hb | hb
  · have hf : from_ b = 12 := by unfold from_; (repeat' split) <;> omega
    rw [hf] at hs
    have S := Lib.hid (fun w => some_ (a := x) rfl (lo' := 12) (hi' := 51) (lo := 12) (hi := 51) rfl rfl w hx (by omega))
    rw [show someB x (12 : Int) ((51 : Int) + 1) = false from hs] at S
    have hd0 : decide (b < 12) = true := decide_eq_true hb
    clear hs hf hb h63 h7
    go_enter Try.func39, Try.ntmps39
    go_wp2_with (first | (go_at_call 71; first | ((with_reducible refine (S.out _).mono ?_); rintro e w' ⟨rfl, rfl⟩)) | (go_at_call 67; first | ((with_reducible refine (B63.out _).mono ?_); rintro e w' ⟨rfl, rfl⟩) | ((with_reducible refine (B7.out _).mono ?_); rintro e w' ⟨rfl, rfl⟩)))
    go_ret
    exact ⟨ret_bool (by rw [E.out]), rfl⟩
  · have hf : from_ b = 52 := by unfold from_; (repeat' split) <;> omega
    rw [hf] at hs
    have S := Lib.hid (fun w => some_ (a := x) rfl (lo' := 52) (hi' := 51) (lo := 52) (hi := 51) rfl rfl w hx (by omega))
    rw [show someB x (52 : Int) ((51 : Int) + 1) = false from hs] at S
    have hd0 : decide (b < 12) = false := decide_eq_false (by omega)
    have hd1 : decide (52 < b) = true := decide_eq_true hb
    clear hs hf hb h63 h7
    go_enter Try.func39, Try.ntmps39
    go_wp2_with (first | (go_at_call 71; first | ((with_reducible refine (S.out _).mono ?_); rintro e w' ⟨rfl, rfl⟩)) | (go_at_call 67; first | ((with_reducible refine (B63.out _).mono ?_); rintro e w' ⟨rfl, rfl⟩) | ((with_reducible refine (B7.out _).mono ?_); rintro e w' ⟨rfl, rfl⟩)))
    go_ret
    exact ⟨ret_bool (by rw [E.out]), rfl⟩
  · have hf : from_ b = b := by unfold from_; (repeat' split) <;> omega
    rw [hf] at hs
    obtain ⟨hb1, hb2⟩ := hb
    obtain ⟨bn, rfl⟩ := Int.eq_ofNat_of_zero_le (show 0 ≤ b by omega)
    have S := Lib.hid (fun w => some_ (a := x) rfl (lo' := (bn : Int)) (hi' := 51) (lo := bn) (hi := 51) rfl rfl w hx (by omega))
    rw [show someB x (bn : Int) ((51 : Int) + 1) = false from hs] at S
    have hd0 : decide ((bn : Int) < 12) = false := decide_eq_false (by omega)
    have hd1 : decide (52 < (bn : Int)) = false := decide_eq_false (by omega)
    clear hs hf h63 h7
    go_enter Try.func39, Try.ntmps39
    go_wp2_with (first | (go_at_call 71; first | ((with_reducible refine (S.out _).mono ?_); rintro e w' ⟨rfl, rfl⟩)) | (go_at_call 67; first | ((with_reducible refine (B63.out _).mono ?_); rintro e w' ⟨rfl, rfl⟩) | ((with_reducible refine (B7.out _).mono ?_); rintro e w' ⟨rfl, rfl⟩)))
    go_ret
    exact ⟨ret_bool (by rw [E.out]), rfl⟩
theorem refres_4fa (x : Nat) (b : Int) (nxe : Bool) (w : World) (hx : x < 18446744073709551616) (hs : someB x (from_ b) 52 = false) (h63 : x.testBit 63 = false) (h7 : x.testBit 7 = false) :
    Calls Try.prog 39 #[.int .u64 x, .int .i64 4, .int .i64 b, .bool nxe] w fun e w' => e = .returned (.bool (resB x 4 b nxe)) ∧ w = w' := by
  have E := Lib.hid (show resB x 4 b nxe = false by unfold resB; simp [hs, h63, h7])
  have B63 := Lib.hid (fun w => bit_at (a := x) rfl (y := 63) (i := 63) rfl hx w (by omega))
  rw [h63] at B63
  have B7 := Lib.hid (fun w => bit_at (a := x) rfl (y := 7) (i := 7) rfl hx w (by omega))
  rw [h7] at B7
  have hb : b < 12 ∨ 52 < b ∨ 12 ≤ b ∧ b ≤ 52 := by omega
  rcases hb with hb | hb | hb
  · have hf : from_ b = 12 := by unfold from_; (repeat' split) <;> omega
    rw [hf] at hs
    have S := Lib.hid (fun w => some_ (a := x) rfl (lo' := 12) (hi' := 51) (lo := 12) (hi := 51) rfl rfl w hx (by omega))
    rw [show someB x (12 : Int) ((51 : Int) + 1) = false from hs] at S
    have hd0 : decide (b < 12) = true := decide_eq_true hb
    clear hs hf hb h63 h7
    go_enter Try.func39, Try.ntmps39
    go_wp2_with (first | (go_at_call 71; first | ((with_reducible refine (S.out _).mono ?_); rintro e w' ⟨rfl, rfl⟩)) | (go_at_call 67; first | ((with_reducible refine (B63.out _).mono ?_); rintro e w' ⟨rfl, rfl⟩) | ((with_reducible refine (B7.out _).mono ?_); rintro e w' ⟨rfl, rfl⟩)))
    go_ret
    exact ⟨ret_bool (by rw [E.out]), rfl⟩
  · have hf : from_ b = 52 := by unfold from_; (repeat' split) <;> omega
    rw [hf] at hs
    have S := Lib.hid (fun w => some_ (a := x) rfl (lo' := 52) (hi' := 51) (lo := 52) (hi := 51) rfl rfl w hx (by omega))
    rw [show someB x (52 : Int) ((51 : Int) + 1) = false from hs] at S
    have hd0 : decide (b < 12) = false := decide_eq_false (by omega)
    have hd1 : decide (52 < b) = true := decide_eq_true hb
    clear hs hf hb h63 h7
    go_enter Try.func39, Try.ntmps39
    go_wp2_with (first | (go_at_call 71; first | ((with_reducible refine (S.out _).mono ?_); rintro e w' ⟨rfl, rfl⟩)) | (go_at_call 67; first | ((with_reducible refine (B63.out _).mono ?_); rintro e w' ⟨rfl, rfl⟩) | ((with_reducible refine (B7.out _).mono ?_); rintro e w' ⟨rfl, rfl⟩)))
    go_ret
    exact ⟨ret_bool (by rw [E.out]), rfl⟩
  · have hf : from_ b = b := by unfold from_; (repeat' split) <;> omega
    rw [hf] at hs
    obtain ⟨hb1, hb2⟩ := hb
    obtain ⟨bn, rfl⟩ := Int.eq_ofNat_of_zero_le (show 0 ≤ b by omega)
    have S := Lib.hid (fun w => some_ (a := x) rfl (lo' := (bn : Int)) (hi' := 51) (lo := bn) (hi := 51) rfl rfl w hx (by omega))
    rw [show someB x (bn : Int) ((51 : Int) + 1) = false from hs] at S
    have hd0 : decide ((bn : Int) < 12) = false := decide_eq_false (by omega)
    have hd1 : decide (52 < (bn : Int)) = false := decide_eq_false (by omega)
    clear hs hf h63 h7
    go_enter Try.func39, Try.ntmps39
    go_wp2_with (first | (go_at_call 71; first | ((with_reducible refine (S.out _).mono ?_); rintro e w' ⟨rfl, rfl⟩)) | (go_at_call 67; first | ((with_reducible refine (B63.out _).mono ?_); rintro e w' ⟨rfl, rfl⟩) | ((with_reducible refine (B7.out _).mono ?_); rintro e w' ⟨rfl, rfl⟩)))
    go_ret
    exact ⟨ret_bool (by rw [E.out]), rfl⟩
theorem refres_2ta (x : Nat) (b : Int) (nxe : Bool) (w : World) (hx : x < 18446744073709551616) (hs : someB x (from_ b) 52 = false) (h63 : x.testBit 63 = false) (h7 : x.testBit 7 = true) :
    Calls Try.prog 39 #[.int .u64 x, .int .i64 2, .int .i64 b, .bool nxe] w fun e w' => e = .returned (.bool (resB x 2 b nxe)) ∧ w = w' := by
  have E := Lib.hid (show resB x 2 b nxe = someB x 13 21 by unfold resB; simp [hs, h63, h7])
  have B63 := Lib.hid (fun w => bit_at (a := x) rfl (y := 63) (i := 63) rfl hx w (by omega))
  rw [h63] at B63
  have L := Lib.hid (fun w => refleaf_ (a := x) rfl 2 w hx)
  rw [show leafB x 2 = true by unfold leafB; simp [h7]] at L
  have hb : b < 12 ∨ 52 < b ∨ 12 ≤ b ∧ b ≤ 52 := by omega
  rcases hb with hb | hb | hb
  · have hf : from_ b = 12 := by unfold from_; (repeat' split) <;> omega
    rw [hf] at hs
    have S := Lib.hid (fun w => some_ (a := x) rfl (lo' := 12) (hi' := 51) (lo := 12) (hi := 51) rfl rfl w hx (by omega))
    rw [show someB x (12 : Int) ((51 : Int) + 1) = false from hs] at S
    have hd0 : decide (b < 12) = true := decide_eq_true hb
    clear hs hf hb h63 h7
    go_enter Try.func39, Try.ntmps39
    go_wp2_with (first | (go_at_call 71; first | ((with_reducible refine (S.out _).mono ?_); rintro e w' ⟨rfl, rfl⟩) | (refine (some_ rfl (lo' := 13) (hi' := 20) (lo := 13) (hi := 20) rfl rfl _ hx (by omega)).mono ?_; rintro e w' ⟨rfl, rfl⟩)) | (go_at_call 67; first | ((with_reducible refine (B63.out _).mono ?_); rintro e w' ⟨rfl, rfl⟩)) | (go_at_call 64; refine (L.out _).mono ?_; rintro e w' ⟨rfl, rfl⟩))
    all_goals (go_ret; exact ⟨ret_bool (by rw [E.out]; first | done | simp [*]), rfl⟩)
  · have hf : from_ b = 52 := by unfold from_; (repeat' split) <;> omega
    rw [hf] at hs
    have S := Lib.hid (fun w => some_ (a := x) rfl (lo' := 52) (hi' := 51) (lo := 52) (hi := 51) rfl rfl w hx (by omega))
    rw [show someB x (52 : Int) ((51 : Int) + 1) = false from hs] at S
    have hd0 : decide (b < 12) = false := decide_eq_false (by omega)
    have hd1 : decide (52 < b) = true := decide_eq_true hb
    clear hs hf hb h63 h7
    go_enter Try.func39, Try.ntmps39
    go_wp2_with (first | (go_at_call 71; first | ((with_reducible refine (S.out _).mono ?_); rintro e w' ⟨rfl, rfl⟩) | (refine (some_ rfl (lo' := 13) (hi' := 20) (lo := 13) (hi := 20) rfl rfl _ hx (by omega)).mono ?_; rintro e w' ⟨rfl, rfl⟩)) | (go_at_call 67; first | ((with_reducible refine (B63.out _).mono ?_); rintro e w' ⟨rfl, rfl⟩)) | (go_at_call 64; refine (L.out _).mono ?_; rintro e w' ⟨rfl, rfl⟩))
    all_goals (go_ret; exact ⟨ret_bool (by rw [E.out]; first | done | simp [*]), rfl⟩)
  · have hf : from_ b = b := by unfold from_; (repeat' split) <;> omega
    rw [hf] at hs
    obtain ⟨hb1, hb2⟩ := hb
    obtain ⟨bn, rfl⟩ := Int.eq_ofNat_of_zero_le (show 0 ≤ b by omega)
    have S := Lib.hid (fun w => some_ (a := x) rfl (lo' := (bn : Int)) (hi' := 51) (lo := bn) (hi := 51) rfl rfl w hx (by omega))
    rw [show someB x (bn : Int) ((51 : Int) + 1) = false from hs] at S
    have hd0 : decide ((bn : Int) < 12) = false := decide_eq_false (by omega)
    have hd1 : decide (52 < (bn : Int)) = false := decide_eq_false (by omega)
    clear hs hf h63 h7
    go_enter Try.func39, Try.ntmps39
    go_wp2_with (first | (go_at_call 71; first | ((with_reducible refine (S.out _).mono ?_); rintro e w' ⟨rfl, rfl⟩) | (refine (some_ rfl (lo' := 13) (hi' := 20) (lo := 13) (hi := 20) rfl rfl _ hx (by omega)).mono ?_; rintro e w' ⟨rfl, rfl⟩)) | (go_at_call 67; first | ((with_reducible refine (B63.out _).mono ?_); rintro e w' ⟨rfl, rfl⟩)) | (go_at_call 64; refine (L.out _).mono ?_; rintro e w' ⟨rfl, rfl⟩))
    all_goals (go_ret; exact ⟨ret_bool (by rw [E.out]; first | done | simp [*]), rfl⟩)
theorem refres_2fa (x : Nat) (b : Int) (nxe : Bool) (w : World) (hx : x < 18446744073709551616) (hs : someB x (from_ b) 52 = false) (h63 : x.testBit 63 = false) (h7 : x.testBit 7 = false) :
    Calls Try.prog 39 #[.int .u64 x, .int .i64 2, .int .i64 b, .bool nxe] w fun e w' => e = .returned (.bool (resB x 2 b nxe)) ∧ w = w' := by
  have E := Lib.hid (show resB x 2 b nxe = false by unfold resB; simp [hs, h63, h7])
  have B63 := Lib.hid (fun w => bit_at (a := x) rfl (y := 63) (i := 63) rfl hx w (by omega))
  rw [h63] at B63
  have L := Lib.hid (fun w => refleaf_ (a := x) rfl 2 w hx)
  rw [show leafB x 2 = false by unfold leafB; simp [h7]] at L
  have hb : b < 12 ∨ 52 < b ∨ 12 ≤ b ∧ b ≤ 52 := by omega
  rcases hb with hb | hb | hb
  · have hf : from_ b = 12 := by unfold from_; (repeat' split) <;> omega
    rw [hf] at hs
    have S := Lib.hid (fun w => some_ (a := x) rfl (lo' := 12) (hi' := 51) (lo := 12) (hi := 51) rfl rfl w hx (by omega))
    rw [show someB x (12 : Int) ((51 : Int) + 1) = false from hs] at S
    have hd0 : decide (b < 12) = true := decide_eq_true hb
    clear hs hf hb h63 h7
    go_enter Try.func39, Try.ntmps39
    go_wp2_with (first | (go_at_call 71; first | ((with_reducible refine (S.out _).mono ?_); rintro e w' ⟨rfl, rfl⟩)) | (go_at_call 67; first | ((with_reducible refine (B63.out _).mono ?_); rintro e w' ⟨rfl, rfl⟩)) | (go_at_call 64; refine (L.out _).mono ?_; rintro e w' ⟨rfl, rfl⟩))
    go_ret
    exact ⟨ret_bool (by rw [E.out]), rfl⟩
  · have hf : from_ b = 52 := by unfold from_; (repeat' split) <;> omega
    rw [hf] at hs
    have S := Lib.hid (fun w => some_ (a := x) rfl (lo' := 52) (hi' := 51) (lo := 52) (hi := 51) rfl rfl w hx (by omega))
    rw [show someB x (52 : Int) ((51 : Int) + 1) = false from hs] at S
    have hd0 : decide (b < 12) = false := decide_eq_false (by omega)
    have hd1 : decide (52 < b) = true := decide_eq_true hb
    clear hs hf hb h63 h7
    go_enter Try.func39, Try.ntmps39
    go_wp2_with (first | (go_at_call 71; first | ((with_reducible refine (S.out _).mono ?_); rintro e w' ⟨rfl, rfl⟩)) | (go_at_call 67; first | ((with_reducible refine (B63.out _).mono ?_); rintro e w' ⟨rfl, rfl⟩)) | (go_at_call 64; refine (L.out _).mono ?_; rintro e w' ⟨rfl, rfl⟩))
    go_ret
    exact ⟨ret_bool (by rw [E.out]), rfl⟩
  · have hf : from_ b = b := by unfold from_; (repeat' split) <;> omega
    rw [hf] at hs
    obtain ⟨hb1, hb2⟩ := hb
    obtain ⟨bn, rfl⟩ := Int.eq_ofNat_of_zero_le (show 0 ≤ b by omega)
    have S := Lib.hid (fun w => some_ (a := x) rfl (lo' := (bn : Int)) (hi' := 51) (lo := bn) (hi := 51) rfl rfl w hx (by omega))
    rw [show someB x (bn : Int) ((51 : Int) + 1) = false from hs] at S
    have hd0 : decide ((bn : Int) < 12) = false := decide_eq_false (by omega)
    have hd1 : decide (52 < (bn : Int)) = false := decide_eq_false (by omega)
    clear hs hf h63 h7
    go_enter Try.func39, Try.ntmps39
    go_wp2_with (first | (go_at_call 71; first | ((with_reducible refine (S.out _).mono ?_); rintro e w' ⟨rfl, rfl⟩)) | (go_at_call 67; first | ((with_reducible refine (B63.out _).mono ?_); rintro e w' ⟨rfl, rfl⟩)) | (go_at_call 64; refine (L.out _).mono ?_; rintro e w' ⟨rfl, rfl⟩))
    go_ret
    exact ⟨ret_bool (by rw [E.out]), rfl⟩
theorem refres_3ta (x : Nat) (b : Int) (nxe : Bool) (w : World) (hx : x < 18446744073709551616) (hs : someB x (from_ b) 52 = false) (h63 : x.testBit 63 = false) (h7 : x.testBit 7 = true) :
    Calls Try.prog 39 #[.int .u64 x, .int .i64 3, .int .i64 b, .bool nxe] w fun e w' => e = .returned (.bool (resB x 3 b nxe)) ∧ w = w' := by
  have E := Lib.hid (show resB x 3 b nxe = someB x 13 30 by unfold resB; simp [hs, h63, h7])
  have B63 := Lib.hid (fun w => bit_at (a := x) rfl (y := 63) (i := 63) rfl hx w (by omega))
  rw [h63] at B63
  have L := Lib.hid (fun w => refleaf_ (a := x) rfl 3 w hx)
  rw [show leafB x 3 = true by unfold leafB; simp [h7]] at L
  have hb : b < 12 ∨ 52 < b ∨ 12 ≤ b ∧ b ≤ 52 := by omega
  rcases hb with hb | hb | hb
  · have hf : from_ b = 12 := by unfold from_; (repeat' split) <;> omega
    rw [hf] at hs
    have S := Lib.hid (fun w => some_ (a := x) rfl (lo' := 12) (hi' := 51) (lo := 12) (hi := 51) rfl rfl w hx (by omega))
    rw [show someB x (12 : Int) ((51 : Int) + 1) = false from hs] at S
    have hd0 : decide (b < 12) = true := decide_eq_true hb
    clear hs hf hb h63 h7
    go_enter Try.func39, Try.ntmps39
    go_wp2_with (first | (go_at_call 71; first | ((with_reducible refine (S.out _).mono ?_); rintro e w' ⟨rfl, rfl⟩) | (refine (some_ rfl (lo' := 13) (hi' := 29) (lo := 13) (hi := 29) rfl rfl _ hx (by omega)).mono ?_; rintro e w' ⟨rfl, rfl⟩)) | (go_at_call 67; first | ((with_reducible refine (B63.out _).mono ?_); rintro e w' ⟨rfl, rfl⟩)) | (go_at_call 64; refine (L.out _).mono ?_; rintro e w' ⟨rfl, rfl⟩))
    all_goals (go_ret; exact ⟨ret_bool (by rw [E.out]; first | done | simp [*]), rfl⟩)
  · have hf : from_ b = 52 := by unfold from_; (repeat' split) <;> omega
    rw [hf] at hs
    have S := Lib.hid (fun w => some_ (a := x) rfl (lo' := 52) (hi' := 51) (lo := 52) (hi := 51) rfl rfl w hx (by omega))
    rw [show someB x (52 : Int) ((51 : Int) + 1) = false from hs] at S
    have hd0 : decide (b < 12) = false := decide_eq_false (by omega)
    have hd1 : decide (52 < b) = true := decide_eq_true hb
    clear hs hf hb h63 h7
    go_enter Try.func39, Try.ntmps39
    go_wp2_with (first | (go_at_call 71; first | ((with_reducible refine (S.out _).mono ?_); rintro e w' ⟨rfl, rfl⟩) | (refine (some_ rfl (lo' := 13) (hi' := 29) (lo := 13) (hi := 29) rfl rfl _ hx (by omega)).mono ?_; rintro e w' ⟨rfl, rfl⟩)) | (go_at_call 67; first | ((with_reducible refine (B63.out _).mono ?_); rintro e w' ⟨rfl, rfl⟩)) | (go_at_call 64; refine (L.out _).mono ?_; rintro e w' ⟨rfl, rfl⟩))
    all_goals (go_ret; exact ⟨ret_bool (by rw [E.out]; first | done | simp [*]), rfl⟩)
  · have hf : from_ b = b := by unfold from_; (repeat' split) <;> omega
    rw [hf] at hs
    obtain ⟨hb1, hb2⟩ := hb
    obtain ⟨bn, rfl⟩ := Int.eq_ofNat_of_zero_le (show 0 ≤ b by omega)
    have S := Lib.hid (fun w => some_ (a := x) rfl (lo' := (bn : Int)) (hi' := 51) (lo := bn) (hi := 51) rfl rfl w hx (by omega))
    rw [show someB x (bn : Int) ((51 : Int) + 1) = false from hs] at S
    have hd0 : decide ((bn : Int) < 12) = false := decide_eq_false (by omega)
    have hd1 : decide (52 < (bn : Int)) = false := decide_eq_false (by omega)
    clear hs hf h63 h7
    go_enter Try.func39, Try.ntmps39
    go_wp2_with (first | (go_at_call 71; first | ((with_reducible refine (S.out _).mono ?_); rintro e w' ⟨rfl, rfl⟩) | (refine (some_ rfl (lo' := 13) (hi' := 29) (lo := 13) (hi := 29) rfl rfl _ hx (by omega)).mono ?_; rintro e w' ⟨rfl, rfl⟩)) | (go_at_call 67; first | ((with_reducible refine (B63.out _).mono ?_); rintro e w' ⟨rfl, rfl⟩)) | (go_at_call 64; refine (L.out _).mono ?_; rintro e w' ⟨rfl, rfl⟩))
    all_goals (go_ret; exact ⟨ret_bool (by rw [E.out]; first | done | simp [*]), rfl⟩)
theorem refres_3fa (x : Nat) (b : Int) (nxe : Bool) (w : World) (hx : x < 18446744073709551616) (hs : someB x (from_ b) 52 = false) (h63 : x.testBit 63 = false) (h7 : x.testBit 7 = false) :
    Calls Try.prog 39 #[.int .u64 x, .int .i64 3, .int .i64 b, .bool nxe] w fun e w' => e = .returned (.bool (resB x 3 b nxe)) ∧ w = w' := by
  have E := Lib.hid (show resB x 3 b nxe = false by unfold resB; simp [hs, h63, h7])
  have B63 := Lib.hid (fun w => bit_at (a := x) rfl (y := 63) (i := 63) rfl hx w (by omega))
  rw [h63] at B63
  have L := Lib.hid (fun w => refleaf_ (a := x) rfl 3 w hx)
  rw [show leafB x 3 = false by unfold leafB; simp [h7]] at L
  have hb : b < 12 ∨ 52 < b ∨ 12 ≤ b ∧ b ≤ 52 := by omega
  rcases hb with hb | hb | hb
  · have hf : from_ b = 12 := by unfold from_; (repeat' split) <;> omega
    rw [hf] at hs
    have S := Lib.hid (fun w => some_ (a := x) rfl (lo' := 12) (hi' := 51) (lo := 12) (hi := 51) rfl rfl w hx (by omega))
    rw [show someB x (12 : Int) ((51 : Int) + 1) = false from hs] at S
    have hd0 : decide (b < 12) = true := decide_eq_true hb
    clear hs hf hb h63 h7
    go_enter Try.func39, Try.ntmps39
    go_wp2_with (first | (go_at_call 71; first | ((with_reducible refine (S.out _).mono ?_); rintro e w' ⟨rfl, rfl⟩)) | (go_at_call 67; first | ((with_reducible refine (B63.out _).mono ?_); rintro e w' ⟨rfl, rfl⟩)) | (go_at_call 64; refine (L.out _).mono ?_; rintro e w' ⟨rfl, rfl⟩))
    go_ret
    exact ⟨ret_bool (by rw [E.out]), rfl⟩
  · have hf : from_ b = 52 := by unfold from_; (repeat' split) <;> omega
    rw [hf] at hs
    have S := Lib.hid (fun w => some_ (a := x) rfl (lo' := 52) (hi' := 51) (lo := 52) (hi := 51) rfl rfl w hx (by omega))
    rw [show someB x (52 : Int) ((51 : Int) + 1) = false from hs] at S
    have hd0 : decide (b < 12) = false := decide_eq_false (by omega)
    have hd1 : decide (52 < b) = true := decide_eq_true hb
    clear hs hf hb h63 h7
    go_enter Try.func39, Try.ntmps39
    go_wp2_with (first | (go_at_call 71; first | ((with_reducible refine (S.out _).mono ?_); rintro e w' ⟨rfl, rfl⟩)) | (go_at_call 67; first | ((with_reducible refine (B63.out _).mono ?_); rintro e w' ⟨rfl, rfl⟩)) | (go_at_call 64; refine (L.out _).mono ?_; rintro e w' ⟨rfl, rfl⟩))
    go_ret
    exact ⟨ret_bool (by rw [E.out]), rfl⟩
  · have hf : from_ b = b := by unfold from_; (repeat' split) <;> omega
    rw [hf] at hs
    obtain ⟨hb1, hb2⟩ := hb
    obtain ⟨bn, rfl⟩ := Int.eq_ofNat_of_zero_le (show 0 ≤ b by omega)
    have S := Lib.hid (fun w => some_ (a := x) rfl (lo' := (bn : Int)) (hi' := 51) (lo := bn) (hi := 51) rfl rfl w hx (by omega))
    rw [show someB x (bn : Int) ((51 : Int) + 1) = false from hs] at S
    have hd0 : decide ((bn : Int) < 12) = false := decide_eq_false (by omega)
    have hd1 : decide (52 < (bn : Int)) = false := decide_eq_false (by omega)
    clear hs hf h63 h7
    go_enter Try.func39, Try.ntmps39
    go_wp2_with (first | (go_at_call 71; first | ((with_reducible refine (S.out _).mono ?_); rintro e w' ⟨rfl, rfl⟩)) | (go_at_call 67; first | ((with_reducible refine (B63.out _).mono ?_); rintro e w' ⟨rfl, rfl⟩)) | (go_at_call 64; refine (L.out _).mono ?_; rintro e w' ⟨rfl, rfl⟩))
    go_ret
    exact ⟨ret_bool (by rw [E.out]), rfl⟩
theorem refres_1a (x : Nat) (b : Int) (nxe : Bool) (w : World) (hx : x < 18446744073709551616) (hs : someB x (from_ b) 52 = false) (h63 : x.testBit 63 = false) :
    Calls Try.prog 39 #[.int .u64 x, .int .i64 1, .int .i64 b, .bool nxe] w fun e w' => e = .returned (.bool (resB x 1 b nxe)) ∧ w = w' := by
  have E := Lib.hid (show resB x 1 b nxe = false by unfold resB; simp [hs, h63])
  have B63 := Lib.hid (fun w => bit_at (a := x) rfl (y := 63) (i := 63) rfl hx w (by omega))
  rw [h63] at B63
  have hb : b < 12 ∨ 52 < b ∨ 12 ≤ b ∧ b ≤ 52 := by omega
  rcases hb with hb | hb | hb
  · have hf : from_ b = 12 := by unfold from_; (repeat' split) <;> omega
    rw [hf] at hs
    have S := Lib.hid (fun w => some_ (a := x) rfl (lo' := 12) (hi' := 51) (lo := 12) (hi := 51) rfl rfl w hx (by omega))
    rw [show someB x (12 : Int) ((51 : Int) + 1) = false from hs] at S
    have hd0 : decide (b < 12) = true := decide_eq_true hb
    clear hs hf hb h63
    go_enter Try.func39, Try.ntmps39
    go_wp2_with (first | (go_at_call 71; first | ((with_reducible refine (S.out _).mono ?_); rintro e w' ⟨rfl, rfl⟩)) | (go_at_call 67; first | ((with_reducible refine (B63.out _).mono ?_); rintro e w' ⟨rfl, rfl⟩)))
    go_ret
    exact ⟨ret_bool (by rw [E.out]), rfl⟩
  · have hf : from_ b = 52 := by unfold from_; (repeat' split) <;> omega
    rw [hf] at hs
    have S := Lib.hid (fun w => some_ (a := x) rfl (lo' := 52) (hi' := 51) (lo := 52) (hi := 51) rfl rfl w hx (by omega))
    rw [show someB x (52 : Int) ((51 : Int) + 1) = false from hs] at S
    have hd0 : decide (b < 12) = false := decide_eq_false (by omega)
    have hd1 : decide (52 < b) = true := decide_eq_true hb
    clear hs hf hb h63
    go_enter Try.func39, Try.ntmps39
    go_wp2_with (first | (go_at_call 71; first | ((with_reducible refine (S.out _).mono ?_); rintro e w' ⟨rfl, rfl⟩)) | (go_at_call 67; first | ((with_reducible refine (B63.out _).mono ?_); rintro e w' ⟨rfl, rfl⟩)))
    go_ret
    exact ⟨ret_bool (by rw [E.out]), rfl⟩
  · have hf : from_ b = b := by unfold from_; (repeat' split) <;> omega
    rw [hf] at hs
    obtain ⟨hb1, hb2⟩ := hb
    obtain ⟨bn, rfl⟩ := Int.eq_ofNat_of_zero_le (show 0 ≤ b by omega)
    have S := Lib.hid (fun w => some_ (a := x) rfl (lo' := (bn : Int)) (hi' := 51) (lo := bn) (hi := 51) rfl rfl w hx (by omega))
    rw [show someB x (bn : Int) ((51 : Int) + 1) = false from hs] at S
    have hd0 : decide ((bn : Int) < 12) = false := decide_eq_false (by omega)
    have hd1 : decide (52 < (bn : Int)) = false := decide_eq_false (by omega)
    clear hs hf h63
    go_enter Try.func39, Try.ntmps39
    go_wp2_with (first | (go_at_call 71; first | ((with_reducible refine (S.out _).mono ?_); rintro e w' ⟨rfl, rfl⟩)) | (go_at_call 67; first | ((with_reducible refine (B63.out _).mono ?_); rintro e w' ⟨rfl, rfl⟩)))
    go_ret
    exact ⟨ret_bool (by rw [E.out]), rfl⟩
theorem refres_oa (x : Nat) (b : Int) (l : Int) (nxe : Bool) (w : World) (hx : x < 18446744073709551616) (hs : someB x (from_ b) 52 = false) (h63 : x.testBit 63 = false) (_h1 : l ≠ 1) (h2 : l ≠ 2) (h3 : l ≠ 3) (h4 : l ≠ 4) :
    Calls Try.prog 39 #[.int .u64 x, .int .i64 l, .int .i64 b, .bool nxe] w fun e w' => e = .returned (.bool (resB x l b nxe)) ∧ w = w' := by
  have E := Lib.hid (show resB x l b nxe = false by unfold resB; simp [hs, h63, h2, h3, h4])
  have B63 := Lib.hid (fun w => bit_at (a := x) rfl (y := 63) (i := 63) rfl hx w (by omega))
  rw [h63] at B63
  have n4 : (l == 4) = false := beq_eq_false_iff_ne.2 h4
  have n2 : (l == 2) = false := beq_eq_false_iff_ne.2 h2
  have n3 : (l == 3) = false := beq_eq_false_iff_ne.2 h3
  have hb : b < 12 ∨ 52 < b ∨ 12 ≤ b ∧ b ≤ 52 := by omega
  rcases hb with hb | hb | hb
  · have hf : from_ b = 12 := by unfold from_; (repeat' split) <;> omega
    rw [hf] at hs
    have S := Lib.hid (fun w => some_ (a := x) rfl (lo' := 12) (hi' := 51) (lo := 12) (hi := 51) rfl rfl w hx (by omega))
    rw [show someB x (12 : Int) ((51 : Int) + 1) = false from hs] at S
    have hd0 : decide (b < 12) = true := decide_eq_true hb
    clear hs hf hb h63 h2 h3 h4
    go_enter Try.func39, Try.ntmps39
    go_wp2_with (first | (go_at_call 71; first | ((with_reducible refine (S.out _).mono ?_); rintro e w' ⟨rfl, rfl⟩)) | (go_at_call 67; first | ((with_reducible refine (B63.out _).mono ?_); rintro e w' ⟨rfl, rfl⟩)))
    go_ret
    exact ⟨ret_bool (by rw [E.out]), rfl⟩
  · have hf : from_ b = 52 := by unfold from_; (repeat' split) <;> omega
    rw [hf] at hs
    have S := Lib.hid (fun w => some_ (a := x) rfl (lo' := 52) (hi' := 51) (lo := 52) (hi := 51) rfl rfl w hx (by omega))
    rw [show someB x (52 : Int) ((51 : Int) + 1) = false from hs] at S
    have hd0 : decide (b < 12) = false := decide_eq_false (by omega)
    have hd1 : decide (52 < b) = true := decide_eq_true hb
    clear hs hf hb h63 h2 h3 h4
    go_enter Try.func39, Try.ntmps39
    go_wp2_with (first | (go_at_call 71; first | ((with_reducible refine (S.out _).mono ?_); rintro e w' ⟨rfl, rfl⟩)) | (go_at_call 67; first | ((with_reducible refine (B63.out _).mono ?_); rintro e w' ⟨rfl, rfl⟩)))
    go_ret
    exact ⟨ret_bool (by rw [E.out]), rfl⟩
  · have hf : from_ b = b := by unfold from_; (repeat' split) <;> omega
    rw [hf] at hs
    obtain ⟨hb1, hb2⟩ := hb
    obtain ⟨bn, rfl⟩ := Int.eq_ofNat_of_zero_le (show 0 ≤ b by omega)
    have S := Lib.hid (fun w => some_ (a := x) rfl (lo' := (bn : Int)) (hi' := 51) (lo := bn) (hi := 51) rfl rfl w hx (by omega))
    rw [show someB x (bn : Int) ((51 : Int) + 1) = false from hs] at S
    have hd0 : decide ((bn : Int) < 12) = false := decide_eq_false (by omega)
    have hd1 : decide (52 < (bn : Int)) = false := decide_eq_false (by omega)
    clear hs hf h63 h2 h3 h4
    go_enter Try.func39, Try.ntmps39
    go_wp2_with (first | (go_at_call 71; first | ((with_reducible refine (S.out _).mono ?_); rintro e w' ⟨rfl, rfl⟩)) | (go_at_call 67; first | ((with_reducible refine (B63.out _).mono ?_); rintro e w' ⟨rfl, rfl⟩)))
    go_ret
    exact ⟨ret_bool (by rw [E.out]), rfl⟩
theorem refres_4tb (x : Nat) (b : Int) (w : World) (hx : x < 18446744073709551616) (hs : someB x (from_ b) 52 = false) (h63 : x.testBit 63 = true) (h7 : x.testBit 7 = true) :
    Calls Try.prog 39 #[.int .u64 x, .int .i64 4, .int .i64 b, .bool true] w fun e w' => e = .returned (.bool (resB x 4 b true)) ∧ w = w' := by
  have E := Lib.hid (show resB x 4 b true = true by unfold resB; simp [hs, h63, h7])
  have B63 := Lib.hid (fun w => bit_at (a := x) rfl (y := 63) (i := 63) rfl hx w (by omega))
  rw [h63] at B63
  have B7 := Lib.hid (fun w => bit_at (a := x) rfl (y := 7) (i := 7) rfl hx w (by omega))
  rw [h7] at B7
  have hb : b < 12 ∨ 52 < b ∨ 12 ≤ b ∧ b ≤ 52 := by omega
  rcases hb with hb | hb | hb
  · have hf : from_ b = 12 := by unfold from_; (repeat' split) <;> omega
    rw [hf] at hs
    have S := Lib.hid (fun w => some_ (a := x) rfl (lo' := 12) (hi' := 51) (lo := 12) (hi := 51) rfl rfl w hx (by omega))
    rw [show someB x (12 : Int) ((51 : Int) + 1) = false from hs] at S
    have hd0 : decide (b < 12) = true := decide_eq_true hb
    clear hs hf hb h63 h7
    go_enter Try.func39, Try.ntmps39
    go_wp2_with (first | (go_at_call 71; first | ((with_reducible refine (S.out _).mono ?_); rintro e w' ⟨rfl, rfl⟩)) | (go_at_call 67; first | ((with_reducible refine (B63.out _).mono ?_); rintro e w' ⟨rfl, rfl⟩) | ((with_reducible refine (B7.out _).mono ?_); rintro e w' ⟨rfl, rfl⟩)))
    go_ret
    exact ⟨ret_bool (by rw [E.out]), rfl⟩
  · have hf : from_ b = 52 := by unfold from_; (repeat' split) <;> omega
    rw [hf] at hs
    have S := Lib.hid (fun w => some_ (a := x) rfl (lo' := 52) (hi' := 51) (lo := 52) (hi := 51) rfl rfl w hx (by omega))
    rw [show someB x (52 : Int) ((51 : Int) + 1) = false from hs] at S
    have hd0 : decide (b < 12) = false := decide_eq_false (by omega)
    have hd1 : decide (52 < b) = true := decide_eq_true hb
    clear hs hf hb h63 h7
    go_enter Try.func39, Try.ntmps39
    go_wp2_with (first | (go_at_call 71; first | ((with_reducible refine (S.out _).mono ?_); rintro e w' ⟨rfl, rfl⟩)) | (go_at_call 67; first | ((with_reducible refine (B63.out _).mono ?_); rintro e w' ⟨rfl, rfl⟩) | ((with_reducible refine (B7.out _).mono ?_); rintro e w' ⟨rfl, rfl⟩)))
    go_ret
    exact ⟨ret_bool (by rw [E.out]), rfl⟩
  · have hf : from_ b = b := by unfold from_; (repeat' split) <;> omega
    rw [hf] at hs
    obtain ⟨hb1, hb2⟩ := hb
    obtain ⟨bn, rfl⟩ := Int.eq_ofNat_of_zero_le (show 0 ≤ b by omega)
    have S := Lib.hid (fun w => some_ (a := x) rfl (lo' := (bn : Int)) (hi' := 51) (lo := bn) (hi := 51) rfl rfl w hx (by omega))
    rw [show someB x (bn : Int) ((51 : Int) + 1) = false from hs] at S
    have hd0 : decide ((bn : Int) < 12) = false := decide_eq_false (by omega)
    have hd1 : decide (52 < (bn : Int)) = false := decide_eq_false (by omega)
    clear hs hf h63 h7
    go_enter Try.func39, Try.ntmps39
    go_wp2_with (first | (go_at_call 71; first | ((with_reducible refine (S.out _).mono ?_); rintro e w' ⟨rfl, rfl⟩)) | (go_at_call 67; first | ((with_reducible refine (B63.out _).mono ?_); rintro e w' ⟨rfl, rfl⟩) | ((with_reducible refine (B7.out _).mono ?_); rintro e w' ⟨rfl, rfl⟩)))
    go_ret
    exact ⟨ret_bool (by rw [E.out]), rfl⟩
theorem refres_4fb (x : Nat) (b : Int) (w : World) (hx : x < 18446744073709551616) (hs : someB x (from_ b) 52 = false) (h63 : x.testBit 63 = true) (h7 : x.testBit 7 = false) :
    Calls Try.prog 39 #[.int .u64 x, .int .i64 4, .int .i64 b, .bool true] w fun e w' => e = .returned (.bool (resB x 4 b true)) ∧ w = w' := by
  have E := Lib.hid (show resB x 4 b true = false by unfold resB; simp [hs, h63, h7])
  have B63 := Lib.hid (fun w => bit_at (a := x) rfl (y := 63) (i := 63) rfl hx w (by omega))
  rw [h63] at B63
  have B7 := Lib.hid (fun w => bit_at (a := x) rfl (y := 7) (i := 7) rfl hx w (by omega))
  rw [h7] at B7
  have hb : b < 12 ∨ 52 < b ∨ 12 ≤ b ∧ b ≤ 52 := by omega
  rcases hb with hb | hb | hb
  · have hf : from_ b = 12 := by unfold from_; (repeat' split) <;> omega
    rw [hf] at hs
    have S := Lib.hid (fun w => some_ (a := x) rfl (lo' := 12) (hi' := 51) (lo := 12) (hi := 51) rfl rfl w hx (by omega))
    rw [show someB x (12 : Int) ((51 : Int) + 1) = false from hs] at S
    have hd0 : decide (b < 12) = true := decide_eq_true hb
    clear hs hf hb h63 h7
    go_enter Try.func39, Try.ntmps39
    go_wp2_with (first | (go_at_call 71; first | ((with_reducible refine (S.out _).mono ?_); rintro e w' ⟨rfl, rfl⟩)) | (go_at_call 67; first | ((with_reducible refine (B63.out _).mono ?_); rintro e w' ⟨rfl, rfl⟩) | ((with_reducible refine (B7.out _).mono ?_); rintro e w' ⟨rfl, rfl⟩)))
    go_ret
    exact ⟨ret_bool (by rw [E.out]), rfl⟩
  · have hf : from_ b = 52 := by unfold from_; (repeat' split) <;> omega
    rw [hf] at hs
    have S := Lib.hid (fun w => some_ (a := x) rfl (lo' := 52) (hi' := 51) (lo := 52) (hi := 51) rfl rfl w hx (by omega))
    rw [show someB x (52 : Int) ((51 : Int) + 1) = false from hs] at S
    have hd0 : decide (b < 12) = false := decide_eq_false (by omega)
    have hd1 : decide (52 < b) = true := decide_eq_true hb
    clear hs hf hb h63 h7
    go_enter Try.func39, Try.ntmps39
    go_wp2_with (first | (go_at_call 71; first | ((with_reducible refine (S.out _).mono ?_); rintro e w' ⟨rfl, rfl⟩)) | (go_at_call 67; first | ((with_reducible refine (B63.out _).mono ?_); rintro e w' ⟨rfl, rfl⟩) | ((with_reducible refine (B7.out _).mono ?_); rintro e w' ⟨rfl, rfl⟩)))
    go_ret
    exact ⟨ret_bool (by rw [E.out]), rfl⟩
  · have hf : from_ b = b := by unfold from_; (repeat' split) <;> omega
    rw [hf] at hs
    obtain ⟨hb1, hb2⟩ := hb
    obtain ⟨bn, rfl⟩ := Int.eq_ofNat_of_zero_le (show 0 ≤ b by omega)
    have S := Lib.hid (fun w => some_ (a := x) rfl (lo' := (bn : Int)) (hi' := 51) (lo := bn) (hi := 51) rfl rfl w hx (by omega))
    rw [show someB x (bn : Int) ((51 : Int) + 1) = false from hs] at S
    have hd0 : decide ((bn : Int) < 12) = false := decide_eq_false (by omega)
    have hd1 : decide (52 < (bn : Int)) = false := decide_eq_false (by omega)
    clear hs hf h63 h7
    go_enter Try.func39, Try.ntmps39
    go_wp2_with (first | (go_at_call 71; first | ((with_reducible refine (S.out _).mono ?_); rintro e w' ⟨rfl, rfl⟩)) | (go_at_call 67; first | ((with_reducible refine (B63.out _).mono ?_); rintro e w' ⟨rfl, rfl⟩) | ((with_reducible refine (B7.out _).mono ?_); rintro e w' ⟨rfl, rfl⟩)))
    go_ret
    exact ⟨ret_bool (by rw [E.out]), rfl⟩
theorem refres_2tb (x : Nat) (b : Int) (w : World) (hx : x < 18446744073709551616) (hs : someB x (from_ b) 52 = false) (h63 : x.testBit 63 = true) (h7 : x.testBit 7 = true) :
    Calls Try.prog 39 #[.int .u64 x, .int .i64 2, .int .i64 b, .bool true] w fun e w' => e = .returned (.bool (resB x 2 b true)) ∧ w = w' := by
  have E := Lib.hid (show resB x 2 b true = someB x 13 21 by unfold resB; simp [hs, h63, h7])
  have B63 := Lib.hid (fun w => bit_at (a := x) rfl (y := 63) (i := 63) rfl hx w (by omega))
  rw [h63] at B63
  have L := Lib.hid (fun w => refleaf_ (a := x) rfl 2 w hx)
  rw [show leafB x 2 = true by unfold leafB; simp [h7]] at L
  have hb : b < 12 ∨ 52 < b ∨ 12 ≤ b ∧ b ≤ 52 := by omega
  rcases hb with hb | hb | hb
  · have hf : from_ b = 12 := by unfold from_; (repeat' split) <;> omega
    rw [hf] at hs
    have S := Lib.hid (fun w => some_ (a := x) rfl (lo' := 12) (hi' := 51) (lo := 12) (hi := 51) rfl rfl w hx (by omega))
    rw [show someB x (12 : Int) ((51 : Int) + 1) = false from hs] at S
    have hd0 : decide (b < 12) = true := decide_eq_true hb
    clear hs hf hb h63 h7
    go_enter Try.func39, Try.ntmps39
    go_wp2_with (first | (go_at_call 71; first | ((with_reducible refine (S.out _).mono ?_); rintro e w' ⟨rfl, rfl⟩) | (refine (some_ rfl (lo' := 13) (hi' := 20) (lo := 13) (hi := 20) rfl rfl _ hx (by omega)).mono ?_; rintro e w' ⟨rfl, rfl⟩)) | (go_at_call 67; first | ((with_reducible refine (B63.out _).mono ?_); rintro e w' ⟨rfl, rfl⟩)) | (go_at_call 64; refine (L.out _).mono ?_; rintro e w' ⟨rfl, rfl⟩))
    all_goals (go_ret; exact ⟨ret_bool (by rw [E.out]; first | done | simp [*]), rfl⟩)
  · have hf : from_ b = 52 := by unfold from_; (repeat' split) <;> omega
    rw [hf] at hs
    have S := Lib.hid (fun w => some_ (a := x) rfl (lo' := 52) (hi' := 51) (lo := 52) (hi := 51) rfl rfl w hx (by omega))
    rw [show someB x (52 : Int) ((51 : Int) + 1) = false from hs] at S
    have hd0 : decide (b < 12) = false := decide_eq_false (by omega)
    have hd1 : decide (52 < b) = true := decide_eq_true hb
    clear hs hf hb h63 h7
    go_enter Try.func39, Try.ntmps39
    go_wp2_with (first | (go_at_call 71; first | ((with_reducible refine (S.out _).mono ?_); rintro e w' ⟨rfl, rfl⟩) | (refine (some_ rfl (lo' := 13) (hi' := 20) (lo := 13) (hi := 20) rfl rfl _ hx (by omega)).mono ?_; rintro e w' ⟨rfl, rfl⟩)) | (go_at_call 67; first | ((with_reducible refine (B63.out _).mono ?_); rintro e w' ⟨rfl, rfl⟩)) | (go_at_call 64; refine (L.out _).mono ?_; rintro e w' ⟨rfl, rfl⟩))
    all_goals (go_ret; exact ⟨ret_bool (by rw [E.out]; first | done | simp [*]), rfl⟩)
  · have hf : from_ b = b := by unfold from_; (repeat' split) <;> omega
    rw [hf] at hs
    obtain ⟨hb1, hb2⟩ := hb
    obtain ⟨bn, rfl⟩ := Int.eq_ofNat_of_zero_le (show 0 ≤ b by omega)
    have S := Lib.hid (fun w => some_ (a := x) rfl (lo' := (bn : Int)) (hi' := 51) (lo := bn) (hi := 51) rfl rfl w hx (by omega))
    rw [show someB x (bn : Int) ((51 : Int) + 1) = false from hs] at S
    have hd0 : decide ((bn : Int) < 12) = false := decide_eq_false (by omega)
    have hd1 : decide (52 < (bn : Int)) = false := decide_eq_false (by omega)
    clear hs hf h63 h7
    go_enter Try.func39, Try.ntmps39
    go_wp2_with (first | (go_at_call 71; first | ((with_reducible refine (S.out _).mono ?_); rintro e w' ⟨rfl, rfl⟩) | (refine (some_ rfl (lo' := 13) (hi' := 20) (lo := 13) (hi := 20) rfl rfl _ hx (by omega)).mono ?_; rintro e w' ⟨rfl, rfl⟩)) | (go_at_call 67; first | ((with_reducible refine (B63.out _).mono ?_); rintro e w' ⟨rfl, rfl⟩)) | (go_at_call 64; refine (L.out _).mono ?_; rintro e w' ⟨rfl, rfl⟩))
    all_goals (go_ret; exact ⟨ret_bool (by rw [E.out]; first | done | simp [*]), rfl⟩)
theorem refres_2fb (x : Nat) (b : Int) (w : World) (hx : x < 18446744073709551616) (hs : someB x (from_ b) 52 = false) (h63 : x.testBit 63 = true) (h7 : x.testBit 7 = false) :
    Calls Try.prog 39 #[.int .u64 x, .int .i64 2, .int .i64 b, .bool true] w fun e w' => e = .returned (.bool (resB x 2 b true)) ∧ w = w' := by
  have E := Lib.hid (show resB x 2 b true = false by unfold resB; simp [hs, h63, h7])
  have B63 := Lib.hid (fun w => bit_at (a := x) rfl (y := 63) (i := 63) rfl hx w (by omega))
  rw [h63] at B63
  have L := Lib.hid (fun w => refleaf_ (a := x) rfl 2 w hx)
  rw [show leafB x 2 = false by unfold leafB; simp [h7]] at L
  have hb : b < 12 ∨ 52 < b ∨ 12 ≤ b ∧ b ≤ 52 := by omega
  rcases hb with hb | hb | hb
  · have hf : from_ b = 12 := by unfold from_; (repeat' split) <;> omega
    rw [hf] at hs
    have S := Lib.hid (fun w => some_ (a := x) rfl (lo' := 12) (hi' := 51) (lo := 12) (hi := 51) rfl rfl w hx (by omega))
    rw [show someB x (12 : Int) ((51 : Int) + 1) = false from hs] at S
    have hd0 : decide (b < 12) = true := decide_eq_true hb
    clear hs hf hb h63 h7
    go_enter Try.func39, Try.ntmps39
    go_wp2_with (first | (go_at_call 71; first | ((with_reducible refine (S.out _).mono ?_); rintro e w' ⟨rfl, rfl⟩)) | (go_at_call 67; first | ((with_reducible refine (B63.out _).mono ?_); rintro e w' ⟨rfl, rfl⟩)) | (go_at_call 64; refine (L.out _).mono ?_; rintro e w' ⟨rfl, rfl⟩))
    go_ret
    exact ⟨ret_bool (by rw [E.out]), rfl⟩
  · have hf : from_ b = 52 := by unfold from_; (repeat' split) <;> omega
    rw [hf] at hs
    have S := Lib.hid (fun w => some_ (a := x) rfl (lo' := 52) (hi' := 51) (lo := 52) (hi := 51) rfl rfl w hx (by omega))
    rw [show someB x (52 : Int) ((51 : Int) + 1) = false from hs] at S
    have hd0 : decide (b < 12) = false := decide_eq_false (by omega)
    have hd1 : decide (52 < b) = true := decide_eq_true hb
    clear hs hf hb h63 h7
    go_enter Try.func39, Try.ntmps39
    go_wp2_with (first | (go_at_call 71; first | ((with_reducible refine (S.out _).mono ?_); rintro e w' ⟨rfl, rfl⟩)) | (go_at_call 67; first | ((with_reducible refine (B63.out _).mono ?_); rintro e w' ⟨rfl, rfl⟩)) | (go_at_call 64; refine (L.out _).mono ?_; rintro e w' ⟨rfl, rfl⟩))
    go_ret
    exact ⟨ret_bool (by rw [E.out]), rfl⟩
  · have hf : from_ b = b := by unfold from_; (repeat' split) <;> omega
    rw [hf] at hs
    obtain ⟨hb1, hb2⟩ := hb
    obtain ⟨bn, rfl⟩ := Int.eq_ofNat_of_zero_le (show 0 ≤ b by omega)
    have S := Lib.hid (fun w => some_ (a := x) rfl (lo' := (bn : Int)) (hi' := 51) (lo := bn) (hi := 51) rfl rfl w hx (by omega))
    rw [show someB x (bn : Int) ((51 : Int) + 1) = false from hs] at S
    have hd0 : decide ((bn : Int) < 12) = false := decide_eq_false (by omega)
    have hd1 : decide (52 < (bn : Int)) = false := decide_eq_false (by omega)
    clear hs hf h63 h7
    go_enter Try.func39, Try.ntmps39
    go_wp2_with (first | (go_at_call 71; first | ((with_reducible refine (S.out _).mono ?_); rintro e w' ⟨rfl, rfl⟩)) | (go_at_call 67; first | ((with_reducible refine (B63.out _).mono ?_); rintro e w' ⟨rfl, rfl⟩)) | (go_at_call 64; refine (L.out _).mono ?_; rintro e w' ⟨rfl, rfl⟩))
    go_ret
    exact ⟨ret_bool (by rw [E.out]), rfl⟩
theorem refres_3tb (x : Nat) (b : Int) (w : World) (hx : x < 18446744073709551616) (hs : someB x (from_ b) 52 = false) (h63 : x.testBit 63 = true) (h7 : x.testBit 7 = true) :
    Calls Try.prog 39 #[.int .u64 x, .int .i64 3, .int .i64 b, .bool true] w fun e w' => e = .returned (.bool (resB x 3 b true)) ∧ w = w' := by
  have E := Lib.hid (show resB x 3 b true = someB x 13 30 by unfold resB; simp [hs, h63, h7])
  have B63 := Lib.hid (fun w => bit_at (a := x) rfl (y := 63) (i := 63) rfl hx w (by omega))
  rw [h63] at B63
  have L := Lib.hid (fun w => refleaf_ (a := x) rfl 3 w hx)
  rw [show leafB x 3 = true by unfold leafB; simp [h7]] at L
  have hb : b < 12 ∨ 52 < b ∨ 12 ≤ b ∧ b ≤ 52 := by omega
  rcases hb with hb | hb | hb
  · have hf : from_ b = 12 := by unfold from_; (repeat' split) <;> omega
    rw [hf] at hs
    have S := Lib.hid (fun w => some_ (a := x) rfl (lo' := 12) (hi' := 51) (lo := 12) (hi := 51) rfl rfl w hx (by omega))
    rw [show someB x (12 : Int) ((51 : Int) + 1) = false from hs] at S
    have hd0 : decide (b < 12) = true := decide_eq_true hb
    clear hs hf hb h63 h7
    go_enter Try.func39, Try.ntmps39
    go_wp2_with (first | (go_at_call 71; first | ((with_reducible refine (S.out _).mono ?_); rintro e w' ⟨rfl, rfl⟩) | (refine (some_ rfl (lo' := 13) (hi' := 29) (lo := 13) (hi := 29) rfl rfl _ hx (by omega)).mono ?_; rintro e w' ⟨rfl, rfl⟩)) | (go_at_call 67; first | ((with_reducible refine (B63.out _).mono ?_); rintro e w' ⟨rfl, rfl⟩)) | (go_at_call 64; refine (L.out _).mono ?_; rintro e w' ⟨rfl, rfl⟩))
    all_goals (go_ret; exact ⟨ret_bool (by rw [E.out]; first | done | simp [*]), rfl⟩)
  · have hf : from_ b = 52 := by unfold from_; (repeat' split) <;> omega
    rw [hf] at hs
    have S := Lib.hid (fun w => some_ (a := x) rfl (lo' := 52) (hi' := 51) (lo := 52) (hi := 51) rfl rfl w hx (by omega))
    rw [show someB x (52 : Int) ((51 : Int) + 1) = false from hs] at S
    have hd0 : decide (b < 12) = false := decide_eq_false (by omega)
    have hd1 : decide (52 < b) = true := decide_eq_true hb
    clear hs hf hb h63 h7
    go_enter Try.func39, Try.ntmps39
    go_wp2_with (first | (go_at_call 71; first | ((with_reducible refine (S.out _).mono ?_); rintro e w' ⟨rfl, rfl⟩) | (refine (some_ rfl (lo' := 13) (hi' := 29) (lo := 13) (hi := 29) rfl rfl _ hx (by omega)).mono ?_; rintro e w' ⟨rfl, rfl⟩)) | (go_at_call 67; first | ((with_reducible refine (B63.out _).mono ?_); rintro e w' ⟨rfl, rfl⟩)) | (go_at_call 64; refine (L.out _).mono ?_; rintro e w' ⟨rfl, rfl⟩))
    all_goals (go_ret; exact ⟨ret_bool (by rw [E.out]; first | done | simp [*]), rfl⟩)
  · have hf : from_ b = b := by unfold from_; (repeat' split) <;> omega
    rw [hf] at hs
    obtain ⟨hb1, hb2⟩ := hb
    obtain ⟨bn, rfl⟩ := Int.eq_ofNat_of_zero_le (show 0 ≤ b by omega)
    have S := Lib.hid (fun w => some_ (a := x) rfl (lo' := (bn : Int)) (hi' := 51) (lo := bn) (hi := 51) rfl rfl w hx (by omega))
    rw [show someB x (bn : Int) ((51 : Int) + 1) = false from hs] at S
    have hd0 : decide ((bn : Int) < 12) = false := decide_eq_false (by omega)
    have hd1 : decide (52 < (bn : Int)) = false := decide_eq_false (by omega)
    clear hs hf h63 h7
    go_enter Try.func39, Try.ntmps39
    go_wp2_with (first | (go_at_call 71; first | ((with_reducible refine (S.out _).mono ?_); rintro e w' ⟨rfl, rfl⟩) | (refine (some_ rfl (lo' := 13) (hi' := 29) (lo := 13) (hi := 29) rfl rfl _ hx (by omega)).mono ?_; rintro e w' ⟨rfl, rfl⟩)) | (go_at_call 67; first | ((with_reducible refine (B63.out _).mono ?_); rintro e w' ⟨rfl, rfl⟩)) | (go_at_call 64; refine (L.out _).mono ?_; rintro e w' ⟨rfl, rfl⟩))
    all_goals (go_ret; exact ⟨ret_bool (by rw [E.out]; first | done | simp [*]), rfl⟩)
theorem refres_3fb (x : Nat) (b : Int) (w : World) (hx : x < 18446744073709551616) (hs : someB x (from_ b) 52 = false) (h63 : x.testBit 63 = true) (h7 : x.testBit 7 = false) :
    Calls Try.prog 39 #[.int .u64 x, .int .i64 3, .int .i64 b, .bool true] w fun e w' => e = .returned (.bool (resB x 3 b true)) ∧ w = w' := by
  have E := Lib.hid (show resB x 3 b true = false by unfold resB; simp [hs, h63, h7])
  have B63 := Lib.hid (fun w => bit_at (a := x) rfl (y := 63) (i := 63) rfl hx w (by omega))
  rw [h63] at B63
  have L := Lib.hid (fun w => refleaf_ (a := x) rfl 3 w hx)
  rw [show leafB x 3 = false by unfold leafB; simp [h7]] at L
  have hb : b < 12 ∨ 52 < b ∨ 12 ≤ b ∧ b ≤ 52 := by omega
  rcases hb with hb | hb | hb
  · have hf : from_ b = 12 := by unfold from_; (repeat' split) <;> omega
    rw [hf] at hs
    have S := Lib.hid (fun w => some_ (a := x) rfl (lo' := 12) (hi' := 51) (lo := 12) (hi := 51) rfl rfl w hx (by omega))
    rw [show someB x (12 : Int) ((51 : Int) + 1) = false from hs] at S
    have hd0 : decide (b < 12) = true := decide_eq_true hb
    clear hs hf hb h63 h7
    go_enter Try.func39, Try.ntmps39
    go_wp2_with (first | (go_at_call 71; first | ((with_reducible refine (S.out _).mono ?_); rintro e w' ⟨rfl, rfl⟩)) | (go_at_call 67; first | ((with_reducible refine (B63.out _).mono ?_); rintro e w' ⟨rfl, rfl⟩)) | (go_at_call 64; refine (L.out _).mono ?_; rintro e w' ⟨rfl, rfl⟩))
    go_ret
    exact ⟨ret_bool (by rw [E.out]), rfl⟩
  · have hf : from_ b = 52 := by unfold from_; (repeat' split) <;> omega
    rw [hf] at hs
    have S := Lib.hid (fun w => some_ (a := x) rfl (lo' := 52) (hi' := 51) (lo := 52) (hi := 51) rfl rfl w hx (by omega))
    rw [show someB x (52 : Int) ((51 : Int) + 1) = false from hs] at S
    have hd0 : decide (b < 12) = false := decide_eq_false (by omega)
    have hd1 : decide (52 < b) = true := decide_eq_true hb
    clear hs hf hb h63 h7
    go_enter Try.func39, Try.ntmps39
    go_wp2_with (first | (go_at_call 71; first | ((with_reducible refine (S.out _).mono ?_); rintro e w' ⟨rfl, rfl⟩)) | (go_at_call 67; first | ((with_reducible refine (B63.out _).mono ?_); rintro e w' ⟨rfl, rfl⟩)) | (go_at_call 64; refine (L.out _).mono ?_; rintro e w' ⟨rfl, rfl⟩))
    go_ret
    exact ⟨ret_bool (by rw [E.out]), rfl⟩
  · have hf : from_ b = b := by unfold from_; (repeat' split) <;> omega
    rw [hf] at hs
    obtain ⟨hb1, hb2⟩ := hb
    obtain ⟨bn, rfl⟩ := Int.eq_ofNat_of_zero_le (show 0 ≤ b by omega)
    have S := Lib.hid (fun w => some_ (a := x) rfl (lo' := (bn : Int)) (hi' := 51) (lo := bn) (hi := 51) rfl rfl w hx (by omega))
    rw [show someB x (bn : Int) ((51 : Int) + 1) = false from hs] at S
    have hd0 : decide ((bn : Int) < 12) = false := decide_eq_false (by omega)
    have hd1 : decide (52 < (bn : Int)) = false := decide_eq_false (by omega)
    clear hs hf h63 h7
    go_enter Try.func39, Try.ntmps39
    go_wp2_with (first | (go_at_call 71; first | ((with_reducible refine (S.out _).mono ?_); rintro e w' ⟨rfl, rfl⟩)) | (go_at_call 67; first | ((with_reducible refine (B63.out _).mono ?_); rintro e w' ⟨rfl, rfl⟩)) | (go_at_call 64; refine (L.out _).mono ?_; rintro e w' ⟨rfl, rfl⟩))
    go_ret
    exact ⟨ret_bool (by rw [E.out]), rfl⟩
theorem refres_1b (x : Nat) (b : Int) (w : World) (hx : x < 18446744073709551616) (hs : someB x (from_ b) 52 = false) (h63 : x.testBit 63 = true) :
    Calls Try.prog 39 #[.int .u64 x, .int .i64 1, .int .i64 b, .bool true] w fun e w' => e = .returned (.bool (resB x 1 b true)) ∧ w = w' := by
  have E := Lib.hid (show resB x 1 b true = false by unfold resB; simp [hs, h63])
  have B63 := Lib.hid (fun w => bit_at (a := x) rfl (y := 63) (i := 63) rfl hx w (by omega))
  rw [h63] at B63
  have hb : b < 12 ∨ 52 < b ∨ 12 ≤ b ∧ b ≤ 52 := by omega
  rcases hb with hb | hb | hb
  · have hf : from_ b = 12 := by unfold from_; (repeat' split) <;> omega
    rw [hf] at hs
    have S := Lib.hid (fun w => some_ (a := x) rfl (lo' := 12) (hi' := 51) (lo := 12) (hi := 51) rfl rfl w hx (by omega))
    rw [show someB x (12 : Int) ((51 : Int) + 1) = false from hs] at S
    have hd0 : decide (b < 12) = true := decide_eq_true hb
    clear hs hf hb h63
    go_enter Try.func39, Try.ntmps39
    go_wp2_with (first | (go_at_call 71; first | ((with_reducible refine (S.out _).mono ?_); rintro e w' ⟨rfl, rfl⟩)) | (go_at_call 67; first | ((with_reducible refine (B63.out _).mono ?_); rintro e w' ⟨rfl, rfl⟩)))
    go_ret
    exact ⟨ret_bool (by rw [E.out]), rfl⟩
  · have hf : from_ b = 52 := by unfold from_; (repeat' split) <;> omega
    rw [hf] at hs
    have S := Lib.hid (fun w => some_ (a := x) rfl (lo' := 52) (hi' := 51) (lo := 52) (hi := 51) rfl rfl w hx (by omega))
    rw [show someB x (52 : Int) ((51 : Int) + 1) = false from hs] at S
    have hd0 : decide (b < 12) = false := decide_eq_false (by omega)
    have hd1 : decide (52 < b) = true := decide_eq_true hb
    clear hs hf hb h63
    go_enter Try.func39, Try.ntmps39
    go_wp2_with (first | (go_at_call 71; first | ((with_reducible refine (S.out _).mono ?_); rintro e w' ⟨rfl, rfl⟩)) | (go_at_call 67; first | ((with_reducible refine (B63.out _).mono ?_); rintro e w' ⟨rfl, rfl⟩)))
    go_ret
    exact ⟨ret_bool (by rw [E.out]), rfl⟩
  · have hf : from_ b = b := by unfold from_; (repeat' split) <;> omega
    rw [hf] at hs
    obtain ⟨hb1, hb2⟩ := hb
    obtain ⟨bn, rfl⟩ := Int.eq_ofNat_of_zero_le (show 0 ≤ b by omega)
    have S := Lib.hid (fun w => some_ (a := x) rfl (lo' := (bn : Int)) (hi' := 51) (lo := bn) (hi := 51) rfl rfl w hx (by omega))
    rw [show someB x (bn : Int) ((51 : Int) + 1) = false from hs] at S
    have hd0 : decide ((bn : Int) < 12) = false := decide_eq_false (by omega)
    have hd1 : decide (52 < (bn : Int)) = false := decide_eq_false (by omega)
    clear hs hf h63
    go_enter Try.func39, Try.ntmps39
    go_wp2_with (first | (go_at_call 71; first | ((with_reducible refine (S.out _).mono ?_); rintro e w' ⟨rfl, rfl⟩)) | (go_at_call 67; first | ((with_reducible refine (B63.out _).mono ?_); rintro e w' ⟨rfl, rfl⟩)))
    go_ret
    exact ⟨ret_bool (by rw [E.out]), rfl⟩
theorem refres_ob (x : Nat) (b : Int) (l : Int) (w : World) (hx : x < 18446744073709551616) (hs : someB x (from_ b) 52 = false) (h63 : x.testBit 63 = true) (_h1 : l ≠ 1) (h2 : l ≠ 2) (h3 : l ≠ 3) (h4 : l ≠ 4) :
    Calls Try.prog 39 #[.int .u64 x, .int .i64 l, .int .i64 b, .bool true] w fun e w' => e = .returned (.bool (resB x l b true)) ∧ w = w' := by
  have E := Lib.hid (show resB x l b true = false by unfold resB; simp [hs, h63, h2, h3, h4])
  have B63 := Lib.hid (fun w => bit_at (a := x) rfl (y := 63) (i := 63) rfl hx w (by omega))
  rw [h63] at B63
  have n4 : (l == 4) = false := beq_eq_false_iff_ne.2 h4
  have n2 : (l == 2) = false := beq_eq_false_iff_ne.2 h2
  have n3 : (l == 3) = false := beq_eq_false_iff_ne.2 h3
  have hb : b < 12 ∨ 52 < b ∨ 12 ≤ b ∧ b ≤ 52 := by omega
  rcases hb with hb | hb | hb
  · have hf : from_ b = 12 := by unfold from_; (repeat' split) <;> omega
    rw [hf] at hs
    have S := Lib.hid (fun w => some_ (a := x) rfl (lo' := 12) (hi' := 51) (lo := 12) (hi := 51) rfl rfl w hx (by omega))
    rw [show someB x (12 : Int) ((51 : Int) + 1) = false from hs] at S
    have hd0 : decide (b < 12) = true := decide_eq_true hb
    clear hs hf hb h63 h2 h3 h4
    go_enter Try.func39, Try.ntmps39
    go_wp2_with (first | (go_at_call 71; first | ((with_reducible refine (S.out _).mono ?_); rintro e w' ⟨rfl, rfl⟩)) | (go_at_call 67; first | ((with_reducible refine (B63.out _).mono ?_); rintro e w' ⟨rfl, rfl⟩)))
    go_ret
    exact ⟨ret_bool (by rw [E.out]), rfl⟩
  · have hf : from_ b = 52 := by unfold from_; (repeat' split) <;> omega
    rw [hf] at hs
    have S := Lib.hid (fun w => some_ (a := x) rfl (lo' := 52) (hi' := 51) (lo := 52) (hi := 51) rfl rfl w hx (by omega))
    rw [show someB x (52 : Int) ((51 : Int) + 1) = false from hs] at S
    have hd0 : decide (b < 12) = false := decide_eq_false (by omega)
    have hd1 : decide (52 < b) = true := decide_eq_true hb
    clear hs hf hb h63 h2 h3 h4
    go_enter Try.func39, Try.ntmps39
    go_wp2_with (first | (go_at_call 71; first | ((with_reducible refine (S.out _).mono ?_); rintro e w' ⟨rfl, rfl⟩)) | (go_at_call 67; first | ((with_reducible refine (B63.out _).mono ?_); rintro e w' ⟨rfl, rfl⟩)))
    go_ret
    exact ⟨ret_bool (by rw [E.out]), rfl⟩
  · have hf : from_ b = b := by unfold from_; (repeat' split) <;> omega
    rw [hf] at hs
    obtain ⟨hb1, hb2⟩ := hb
    obtain ⟨bn, rfl⟩ := Int.eq_ofNat_of_zero_le (show 0 ≤ b by omega)
    have S := Lib.hid (fun w => some_ (a := x) rfl (lo' := (bn : Int)) (hi' := 51) (lo := bn) (hi := 51) rfl rfl w hx (by omega))
    rw [show someB x (bn : Int) ((51 : Int) + 1) = false from hs] at S
    have hd0 : decide ((bn : Int) < 12) = false := decide_eq_false (by omega)
    have hd1 : decide (52 < (bn : Int)) = false := decide_eq_false (by omega)
    clear hs hf h63 h2 h3 h4
    go_enter Try.func39, Try.ntmps39
    go_wp2_with (first | (go_at_call 71; first | ((with_reducible refine (S.out _).mono ?_); rintro e w' ⟨rfl, rfl⟩)) | (go_at_call 67; first | ((with_reducible refine (B63.out _).mono ?_); rintro e w' ⟨rfl, rfl⟩)))
    go_ret
    exact ⟨ret_bool (by rw [E.out]), rfl⟩
theorem refresv_ {y : Int} {x : Nat} (hy : y = x) (l b : Int) (nxe : Bool) (w : World) (hx : x < 18446744073709551616) :
    Calls Try.prog 39 #[.int .u64 y, .int .i64 l, .int .i64 b, .bool nxe] w fun e w' => e = .returned (.bool (resB x l b nxe)) ∧ w = w' := by
  subst hy
  cases hs : someB x (from_ b) 52 with
  | true => exact refres_s x b l nxe w hx hs
  | false =>
    cases h63 : x.testBit 63 with
    | false =>
      by_cases h1 : l = 1
      · subst h1; exact refres_1a x b nxe w hx hs h63
      · by_cases h2 : l = 2
        · subst h2
          cases h7 : x.testBit 7 with
          | true => exact refres_2ta x b nxe w hx hs h63 h7
          | false => exact refres_2fa x b nxe w hx hs h63 h7
        · by_cases h3 : l = 3
          · subst h3
            cases h7 : x.testBit 7 with
            | true => exact refres_3ta x b nxe w hx hs h63 h7
            | false => exact refres_3fa x b nxe w hx hs h63 h7
          · by_cases h4 : l = 4
            · subst h4
              cases h7 : x.testBit 7 with
              | true => exact refres_4ta x b nxe w hx hs h63 h7
              | false => exact refres_4fa x b nxe w hx hs h63 h7
            · exact refres_oa x b l nxe w hx hs h63 h1 h2 h3 h4
    | true =>
      cases nxe with
      | false => exact refres_n x b l w hx hs h63
      | true =>
        by_cases h1 : l = 1
        · subst h1; exact refres_1b x b  w hx hs h63
        · by_cases h2 : l = 2
          · subst h2
            cases h7 : x.testBit 7 with
            | true => exact refres_2tb x b  w hx hs h63 h7
            | false => exact refres_2fb x b  w hx hs h63 h7
          · by_cases h3 : l = 3
            · subst h3
              cases h7 : x.testBit 7 with
              | true => exact refres_3tb x b  w hx hs h63 h7
              | false => exact refres_3fb x b  w hx hs h63 h7
            · by_cases h4 : l = 4
              · subst h4
                cases h7 : x.testBit 7 with
                | true => exact refres_4tb x b  w hx hs h63 h7
                | false => exact refres_4fb x b  w hx hs h63 h7
              · exact refres_ob x b l w hx hs h63 h1 h2 h3 h4
end Go.Proofs.Ytbifpmaofkgkfaa
