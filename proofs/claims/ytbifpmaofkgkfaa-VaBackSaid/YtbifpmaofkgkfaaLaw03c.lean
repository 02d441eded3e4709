/- The laws of layer 3, VaNext and VaBack: the walks. -/
import Derived.Test.YtbifpmaofkgkfaaLaw03b
namespace Go.Proofs.Ytbifpmaofkgkfaa
open Go.RowKit
theorem sgn_sgn (a : Nat) : sgn (sgn a) = sgn a := by
  unfold sgn
  by_cases h : a / 140737488355328 % 2 = 1
  · rw [if_pos h, if_pos (by omega)]; omega
  · rw [if_neg h, if_neg (by omega)]; omega
theorem canon_sgn (a : Nat) : canon (sgn a) = true := by unfold canon; rw [sgn_sgn]; exact beq_self_eq_true _
theorem page_1 (b : Nat) : page b 1 = b - b % 4096 := rfl
theorem page_2 (b : Nat) : page b 2 = b - b % 2097152 := rfl
theorem idx_1 (b : Nat) : idx b 1 = b / 4096 % 512 := rfl
theorem next_idx (b : Nat) : idx (page b 1 + 4096) 1 = (idx b 1 + 1) % 512 := by
  rw [page_1, idx_1, idx_1]; omega
theorem next_page (b : Nat) (h : idx b 1 ≠ 511) : page b 2 = page (page b 1 + 4096) 2 := by
  rw [idx_1] at h
  rw [page_1, page_2, page_2]; omega
theorem canon_iff (b : Nat) (hb : b < 18446744073709551616) : canon b = true ↔ b < 140737488355328 ∨ 18446603336221196288 ≤ b := by
  unfold canon sgn
  rw [beq_iff_eq]
  split <;> omega
theorem nextOk_iff (b : Nat) (hb : b < 18446744073709551616) (hc : canon b = true) : nextOk b = true ↔ b / 4096 ≠ 34359738367 ∧ b / 4096 ≠ 4503599627370495 := by
  have h1 := (canon_iff b hb).1 hc
  unfold nextOk
  rw [hc, Bool.true_and, Bool.and_eq_true, decide_eq_true_eq, page_1]
  constructor
  · rintro ⟨h2, h3⟩
    have h4 := (canon_iff _ h2).1 h3
    omega
  · intro h2
    have h3 : b - b % 4096 + 4096 < 18446744073709551616 := by omega
    exact ⟨h3, (canon_iff _ h3).2 (by omega)⟩
theorem vaNext_last (a : Nat) (w : World) (h1 : sgn a / 4096 = 34359738367 ∨ sgn a / 4096 ≠ 34359738367 ∧ sgn a / 4096 = 4503599627370495) :
    Calls Try.prog 5 #[.int .u64 a] w fun e w' => e = .returned (.bool true) ∧ Grows w w' := by
  have hb := sgn_lt a
  have hn : nextOk (sgn a) = false := by
    cases h : nextOk (sgn a) with
    | false => rfl
    | true => have := (nextOk_iff _ hb (canon_sgn a)).1 h; omega
  have N := Lib.hid (fun w => next_no rfl w hb hn)
  have SG := Lib.hid (fun w => sign_ (a := a) rfl w)
  have ht : ((((sgn a : Nat) : Int) / 4096 == 34359738367) = true) ∨ ((((sgn a : Nat) : Int) / 4096 == 34359738367) = false) ∧ ((((sgn a : Nat) : Int) / 4096 == 4503599627370495) = true) := by
    rcases h1 with h | ⟨h, h'⟩
    · exact .inl (by rw [beq_iff_eq]; omega)
    · exact .inr ⟨by rw [beq_eq_false_iff_ne]; omega, by rw [beq_iff_eq]; omega⟩
  clear h1 hn hb
  generalize sgn a = b at *
  rcases ht with h | ⟨h, h'⟩
  all_goals
    go_enter Try.func5, Try.ntmps5
    go_wp2_with fail
    refine (awake03_ _).mono ?_; rintro e w1 ⟨rfl, hb1⟩
    go_wp2_with fail
    refine (SG.out _).mono ?_; rintro e w2 ⟨rfl, rfl⟩
    go_wp2_with fail
    refine (N.out _).mono ?_; rintro e w2 ⟨rfl, hb2⟩
    go_wp2_with fail
    go_ret
    exact ⟨rfl, hb1.trans' hb2⟩
theorem vaNext_more (a : Nat) (w : World) (h1 : sgn a / 4096 ≠ 34359738367 ∧ sgn a / 4096 ≠ 4503599627370495) :
    Calls Try.prog 5 #[.int .u64 a] w fun e w' => e = .returned (.bool true) ∧ Grows w w' := by
  have hb := sgn_lt a
  have hn : nextOk (sgn a) = true := (nextOk_iff _ hb (canon_sgn a)).2 h1
  have hcc : canon (page (sgn a) 1 + 4096) = true ∧ page (sgn a) 1 + 4096 < 18446744073709551616 := by
    unfold nextOk at hn; simp at hn; exact ⟨hn.2.2, hn.2.1⟩
  have N := Lib.hid (fun w => next_yes rfl w hb hn)
  have SG := Lib.hid (fun w => sign_ (a := a) rfl w)
  have hi := next_idx (sgn a)
  have hp := next_page (sgn a)
  have t1 : (((sgn a : Nat) : Int) / 4096 == 34359738367) = false := by rw [beq_eq_false_iff_ne]; omega
  have t2 : (((sgn a : Nat) : Int) / 4096 == 4503599627370495) = false := by rw [beq_eq_false_iff_ne]; omega
  have hil := idx_lt (sgn a) 1
  have PB := Lib.hid (fun w => page_ (a := sgn a) rfl 1 w hb)
  have CC := Lib.hid (fun w => canon_t (a := page (sgn a) 1 + 4096) rfl hcc.1 w)
  have IC := Lib.hid (fun w => index_ (a := page (sgn a) 1 + 4096) rfl 1 w hcc.2)
  have IB := Lib.hid (fun w => index_ (a := sgn a) rfl 1 w hb)
  have P2 := Lib.hid (fun w => page_ (a := sgn a) rfl 2 w hb)
  have P3 := Lib.hid (fun w => page_ (a := page (sgn a) 1 + 4096) rfl 2 w hcc.2)
  have hpc : (page (sgn a) 1 : Int) + 4096 = ((page (sgn a) 1 + 4096 : Nat) : Int) := by omega
  have hc2 := hcc.2
  generalize hcn : page (sgn a) 1 + 4096 = c at *
  have hpc' : page (sgn a) 1 + 4096 = c := hcn
  generalize page (sgn a) 1 = p at *
  have tj : ((idx c 1 : Nat) : Int) = (((idx (sgn a) 1 : Nat) : Int) + 1) % 512 := by rw [hi]; omega
  generalize idx c 1 = j at *
  generalize idx (sgn a) 1 = i at *
  generalize page (sgn a) 2 = p2 at *
  generalize page c 2 = p3 at *
  have tj' : (((j : Nat) : Int) == ((i : Int) + 1) % 512) = true := by rw [beq_iff_eq]; exact tj
  have t5 : (((i : Nat) : Int) == 511) = true ∨ (((i : Nat) : Int) == 511) = false ∧ (((p2 : Nat) : Int) == ((p3 : Nat) : Int)) = true := by
    by_cases h : i = 511
    · exact .inl (by rw [beq_iff_eq]; omega)
    · exact .inr ⟨by rw [beq_eq_false_iff_ne]; omega, by rw [hp h]; exact beq_self_eq_true _⟩
  have HC := Lib.hid (show (p : Int) + 4096 = (c : Int) by omega)
  have hcb : (p : Int) + 4096 ≤ 18446744073709551615 := by omega
  have tc : (((c : Nat) : Int) == (p : Int) + 4096) = true := by rw [beq_iff_eq]; omega
  clear hi hp hcc hb hn h1 hpc hcn hpc' tj hc2
  generalize sgn a = b at *
  rcases t5 with h5 | ⟨h5, h6⟩
  all_goals
    go_enter Try.func5, Try.ntmps5
    go_wp2_with fail
    refine (awake03_ _).mono ?_; rintro e w1 ⟨rfl, hb1⟩
    go_wp2_with fail
    refine (SG.out _).mono ?_; rintro e w2 ⟨rfl, rfl⟩
    go_wp2_with fail
    refine (N.out _).mono ?_; rintro e w2 ⟨rfl, hb2⟩
    go_wp2_with fail
    refine (PB.out _).mono ?_; rintro e w3 ⟨rfl, hb3⟩
    go_wp2_with fail
    refine (CC.out _).mono ?_; rintro e w4 ⟨rfl, rfl⟩
    go_wp2_with fail
    refine (IC.out _).mono ?_; rintro e w4 ⟨rfl, hb4⟩
    go_wp2_with fail
    refine (IB.out _).mono ?_; rintro e w5 ⟨rfl, hb5⟩
    go_wp2_with fail
    refine (IB.out _).mono ?_; rintro e w6 ⟨rfl, hb6⟩
    go_wp2_with fail
  · go_ret
    exact ⟨rfl, ((hb1.trans' hb2).trans' hb3).trans' ((hb4.trans' hb5).trans' hb6)⟩
  · refine (P2.out _).mono ?_; rintro e w7 ⟨rfl, hb7⟩
    go_wp2_with fail
    refine (P3.out _).mono ?_; rintro e w8 ⟨rfl, hb8⟩
    go_wp2_with fail
    go_ret
    exact ⟨rfl, (((hb1.trans' hb2).trans' hb3).trans' ((hb4.trans' hb5).trans' hb6)).trans' (hb7.trans' hb8)⟩
theorem vaNext_ (a : Nat) (w : World) : Calls Try.prog 5 #[.int .u64 a] w fun e w' => e = .returned (.bool true) ∧ Grows w w' := by
  by_cases h1 : sgn a / 4096 = 34359738367
  · exact vaNext_last a w (.inl h1)
  · by_cases h2 : sgn a / 4096 = 4503599627370495
    · exact vaNext_last a w (.inr ⟨h1, h2⟩)
    · exact vaNext_more a w ⟨h1, h2⟩
end Go.Proofs.Ytbifpmaofkgkfaa
