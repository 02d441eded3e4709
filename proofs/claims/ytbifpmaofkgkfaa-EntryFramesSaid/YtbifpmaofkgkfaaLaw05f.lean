/- The laws of layer 5: EntryFrames. Printed by gen_frames.py. -/
import Derived.Test.YtbifpmaofkgkfaaLaw05
namespace Go.Proofs.Ytbifpmaofkgkfaa
open Go.RowKit
theorem frames_not2 (x n : Nat) (w : World) (hx : x < 18446744073709551616) (hn : n < 256) (hk : (n : Int) % 3 = 1) (hl : leafB x 2 = false) :
    Calls Try.prog 17 #[.int .u64 x, .int .u8 n] w fun e w' => e = .returned (.bool true) ∧ Grows w w' := by
  have L := Lib.hid (fun w => leaf_ (a := x) rfl 2 w hx)
  have F := Lib.hid (fun w => frame_ (a := x) rfl 2 w hx)
  have T := Lib.hid (fun w => table_ (a := x) rfl w hx)
  rw [hl] at L
  rw [frame_not hl] at F
  clear hl
  generalize tab x = t at *
  go_enter Try.func17, Try.ntmps17
  go_wp2_with fail
  refine (awake05_ _).mono ?_; rintro e w1 ⟨rfl, hb1⟩
  go_wp2_with fail
  refine (L.out _).mono ?_; rintro e w2 ⟨rfl, rfl⟩
  go_wp2_with fail
  refine (F.out _).mono ?_; rintro e w3 ⟨rfl, hb3⟩
  go_wp2_with fail
  refine (T.out _).mono ?_; rintro e w4 ⟨rfl, rfl⟩
  go_wp2_with fail
  go_ret
  exact ⟨rfl, hb1.trans' hb3⟩
theorem frames_not3 (x n : Nat) (w : World) (hx : x < 18446744073709551616) (hn : n < 256) (hk : (n : Int) % 3 = 2) (hl : leafB x 3 = false) :
    Calls Try.prog 17 #[.int .u64 x, .int .u8 n] w fun e w' => e = .returned (.bool true) ∧ Grows w w' := by
  have L := Lib.hid (fun w => leaf_ (a := x) rfl 3 w hx)
  have F := Lib.hid (fun w => frame_ (a := x) rfl 3 w hx)
  have T := Lib.hid (fun w => table_ (a := x) rfl w hx)
  rw [hl] at L
  rw [frame_not hl] at F
  clear hl
  generalize tab x = t at *
  go_enter Try.func17, Try.ntmps17
  go_wp2_with fail
  refine (awake05_ _).mono ?_; rintro e w1 ⟨rfl, hb1⟩
  go_wp2_with fail
  refine (L.out _).mono ?_; rintro e w2 ⟨rfl, rfl⟩
  go_wp2_with fail
  refine (F.out _).mono ?_; rintro e w3 ⟨rfl, hb3⟩
  go_wp2_with fail
  refine (T.out _).mono ?_; rintro e w4 ⟨rfl, rfl⟩
  go_wp2_with fail
  go_ret
  exact ⟨rfl, hb1.trans' hb3⟩
set_option maxRecDepth 100000 in
theorem frames_leaf1 (x n : Nat) (w : World) (hx : x < 18446744073709551616) (hn : n < 256) (hk : (n : Int) % 3 = 0) :
    Calls Try.prog 17 #[.int .u64 x, .int .u8 n] w fun e w' => e = .returned (.bool true) ∧ Grows w w' := by
  have hl : leafB x 1 = true := rfl
  have L := Lib.hid (fun w => leaf_ (a := x) rfl 1 w hx)
  have F := Lib.hid (fun w => frame_ (a := x) rfl 1 w hx)
  have T := Lib.hid (fun w => table_ (a := x) rfl w hx)
  have SZ := Lib.hid (fun w => size_ 1 w)
  have R := Lib.hid (fun w => resv_ (x := x) rfl 1 52 true w hx)
  rw [hl] at L
  rw [frame_leaf hl] at F
  rw [show size 1 = 4096 from rfl] at SZ
  obtain ⟨f1, f2, f3⟩ := page_facts (tab x) 1 (by omega)
  rw [show size 1 = 4096 from rfl] at f1 f3
  have fr := page_tab1 x
  rw [fr] at F f1
  clear f2 f3 fr hl
  have tl := tab_lt x
  generalize tab x = t at *
  have g1 : (t : Int) % 4096 = 0 := by omega
  generalize resB x 1 52 true = r at *
  cases r with
  | true =>
    clear f1
    go_enter Try.func17, Try.ntmps17
    go_wp2_with fail
    refine (awake05_ _).mono ?_; rintro e w1 ⟨rfl, hb1⟩
    go_wp2_with fail
    refine (L.out _).mono ?_; rintro e w2 ⟨rfl, rfl⟩
    go_wp2_with fail
    refine (F.out _).mono ?_; rintro e w3 ⟨rfl, hb3⟩
    go_wp2_with fail
    refine (SZ.out _).mono ?_; rintro e w4 ⟨rfl, hb4⟩
    go_wp2_with fail
    refine (T.out _).mono ?_; rintro e w5 ⟨rfl, rfl⟩
    go_wp2_with fail
    refine (T.out _).mono ?_; rintro e w5 ⟨rfl, rfl⟩
    go_wp2_with fail
    refine (SZ.out _).mono ?_; rintro e w5 ⟨rfl, hb5⟩
    go_wp2_with fail
    refine (R.out _).mono ?_; rintro e w6 ⟨rfl, rfl⟩
    go_wp2_with fail
    go_ret
    exact ⟨rfl, (hb1.trans' hb3).trans' (hb4.trans' hb5)⟩
  | false =>
    clear f1
    go_enter Try.func17, Try.ntmps17
    go_wp2_with fail
    refine (awake05_ _).mono ?_; rintro e w1 ⟨rfl, hb1⟩
    go_wp2_with fail
    refine (L.out _).mono ?_; rintro e w2 ⟨rfl, rfl⟩
    go_wp2_with fail
    refine (F.out _).mono ?_; rintro e w3 ⟨rfl, hb3⟩
    go_wp2_with fail
    refine (SZ.out _).mono ?_; rintro e w4 ⟨rfl, hb4⟩
    go_wp2_with fail
    refine (T.out _).mono ?_; rintro e w5 ⟨rfl, rfl⟩
    go_wp2_with fail
    refine (T.out _).mono ?_; rintro e w5 ⟨rfl, rfl⟩
    go_wp2_with fail
    refine (SZ.out _).mono ?_; rintro e w5 ⟨rfl, hb5⟩
    go_wp2_with fail
    refine (R.out _).mono ?_; rintro e w6 ⟨rfl, rfl⟩
    go_wp2_with fail
    refine (T.out _).mono ?_; rintro e w6 ⟨rfl, rfl⟩
    go_wp2_with fail
    go_ret
    exact ⟨rfl, (hb1.trans' hb3).trans' (hb4.trans' hb5)⟩
set_option maxRecDepth 100000 in
theorem frames_leaf2 (x n : Nat) (w : World) (hx : x < 18446744073709551616) (hn : n < 256) (hk : (n : Int) % 3 = 1) (hl : leafB x 2 = true) :
    Calls Try.prog 17 #[.int .u64 x, .int .u8 n] w fun e w' => e = .returned (.bool true) ∧ Grows w w' := by
  have L := Lib.hid (fun w => leaf_ (a := x) rfl 2 w hx)
  have F := Lib.hid (fun w => frame_ (a := x) rfl 2 w hx)
  have T := Lib.hid (fun w => table_ (a := x) rfl w hx)
  have SZ := Lib.hid (fun w => size_ 2 w)
  have R := Lib.hid (fun w => resv_ (x := x) rfl 2 52 true w hx)
  rw [hl] at L
  rw [frame_leaf hl] at F
  rw [show size 2 = 2097152 from rfl] at SZ
  obtain ⟨f1, f2, f3⟩ := page_facts (tab x) 2 (by omega)
  rw [show size 2 = 2097152 from rfl] at f1 f3
  have fr := fun h => free_2 (x := x) hl h
  clear hl
  generalize page (tab x) 2 = f at *
  have tl := tab_lt x
  generalize tab x = t at *
  have g1 : (f : Int) % 2097152 = 0 := by omega
  have g2 : decide (t < f) = false := by rw [decide_eq_false_iff_not]; omega
  obtain ⟨dd, g3, g5⟩ : ∃ dd : Nat, (t : Int) - (f : Int) = (dd : Int) ∧ dd < 2097152 := ⟨t - f, by omega, by omega⟩
  have hw : IntKind.u64.wrap ((t : Int) - (f : Int)) = dd := by rw [IntKind.wrap_u64, g3]; omega
  have g7 : ((2097152 : Int) ≤ (dd : Int)) = False := by simp; omega
  have G3 := Lib.hid hw
  have G7 := Lib.hid g7
  have G4 := Lib.hid (show (f : Int) + 4096 ≤ 18446744073709551615 by omega)
  clear g3 g7 g5 hw
  generalize resB x 2 52 true = r at *
  cases r with
  | true =>
    clear fr f1 f2 f3
    go_enter Try.func17, Try.ntmps17
    go_wp2_with fail
    refine (awake05_ _).mono ?_; rintro e w1 ⟨rfl, hb1⟩
    go_wp2_with fail
    refine (L.out _).mono ?_; rintro e w2 ⟨rfl, rfl⟩
    go_wp2_with fail
    refine (F.out _).mono ?_; rintro e w3 ⟨rfl, hb3⟩
    go_wp2_with fail
    refine (SZ.out _).mono ?_; rintro e w4 ⟨rfl, hb4⟩
    go_wp2_with fail
    refine (T.out _).mono ?_; rintro e w5 ⟨rfl, rfl⟩
    go_wp2_with fail
    refine (T.out _).mono ?_; rintro e w5 ⟨rfl, rfl⟩
    go_wp2_with fail
    refine (SZ.out _).mono ?_; rintro e w5 ⟨rfl, hb5⟩
    have g3 := G3.out
    have g7 := G7.out
    clear g1 tl g2
    go_wp2_with fail
    refine (R.out _).mono ?_; rintro e w6 ⟨rfl, rfl⟩
    clear g3 g7
    go_wp2_with fail
    go_ret
    exact ⟨rfl, (hb1.trans' hb3).trans' (hb4.trans' hb5)⟩
  | false =>
    rcases fr rfl with h | h
    · have s1 : ((f : Int) == (t : Int)) = true := by rw [h]; exact beq_self_eq_true _
      clear fr f1 f2 f3 h
      go_enter Try.func17, Try.ntmps17
      go_wp2_with fail
      refine (awake05_ _).mono ?_; rintro e w1 ⟨rfl, hb1⟩
      go_wp2_with fail
      refine (L.out _).mono ?_; rintro e w2 ⟨rfl, rfl⟩
      go_wp2_with fail
      refine (F.out _).mono ?_; rintro e w3 ⟨rfl, hb3⟩
      go_wp2_with fail
      refine (SZ.out _).mono ?_; rintro e w4 ⟨rfl, hb4⟩
      go_wp2_with fail
      refine (T.out _).mono ?_; rintro e w5 ⟨rfl, rfl⟩
      go_wp2_with fail
      refine (T.out _).mono ?_; rintro e w5 ⟨rfl, rfl⟩
      go_wp2_with fail
      refine (SZ.out _).mono ?_; rintro e w5 ⟨rfl, hb5⟩
      have g3 := G3.out
      have g7 := G7.out
      clear g1 tl g2
      go_wp2_with fail
      refine (R.out _).mono ?_; rintro e w6 ⟨rfl, rfl⟩
      clear g3 g7
      go_wp2_with fail
      refine (T.out _).mono ?_; rintro e w6 ⟨rfl, rfl⟩
      go_wp2_with fail
      go_ret
      exact ⟨rfl, (hb1.trans' hb3).trans' (hb4.trans' hb5)⟩
    · have s1 : ((f : Int) == (t : Int)) = false := by rw [beq_eq_false_iff_ne]; omega
      have g4 := G4.out
      have s2 : ((f : Int) + 4096 == (t : Int)) = true := by rw [beq_iff_eq]; omega
      clear fr f1 f2 f3 h
      go_enter Try.func17, Try.ntmps17
      go_wp2_with fail
      refine (awake05_ _).mono ?_; rintro e w1 ⟨rfl, hb1⟩
      go_wp2_with fail
      refine (L.out _).mono ?_; rintro e w2 ⟨rfl, rfl⟩
      go_wp2_with fail
      refine (F.out _).mono ?_; rintro e w3 ⟨rfl, hb3⟩
      go_wp2_with fail
      refine (SZ.out _).mono ?_; rintro e w4 ⟨rfl, hb4⟩
      go_wp2_with fail
      refine (T.out _).mono ?_; rintro e w5 ⟨rfl, rfl⟩
      go_wp2_with fail
      refine (T.out _).mono ?_; rintro e w5 ⟨rfl, rfl⟩
      go_wp2_with fail
      refine (SZ.out _).mono ?_; rintro e w5 ⟨rfl, hb5⟩
      have g3 := G3.out
      have g7 := G7.out
      clear g1 tl g2
      go_wp2_with fail
      refine (R.out _).mono ?_; rintro e w6 ⟨rfl, rfl⟩
      clear g3 g7
      go_wp2_with fail
      refine (T.out _).mono ?_; rintro e w6 ⟨rfl, rfl⟩
      go_wp2_with fail
      refine (T.out _).mono ?_; rintro e w6 ⟨rfl, rfl⟩
      go_wp2_with fail
      go_ret
      exact ⟨rfl, (hb1.trans' hb3).trans' (hb4.trans' hb5)⟩
set_option maxRecDepth 100000 in
theorem frames_leaf3 (x n : Nat) (w : World) (hx : x < 18446744073709551616) (hn : n < 256) (hk : (n : Int) % 3 = 2) (hl : leafB x 3 = true) :
    Calls Try.prog 17 #[.int .u64 x, .int .u8 n] w fun e w' => e = .returned (.bool true) ∧ Grows w w' := by
  have L := Lib.hid (fun w => leaf_ (a := x) rfl 3 w hx)
  have F := Lib.hid (fun w => frame_ (a := x) rfl 3 w hx)
  have T := Lib.hid (fun w => table_ (a := x) rfl w hx)
  have SZ := Lib.hid (fun w => size_ 3 w)
  have R := Lib.hid (fun w => resv_ (x := x) rfl 3 52 true w hx)
  rw [hl] at L
  rw [frame_leaf hl] at F
  rw [show size 3 = 1073741824 from rfl] at SZ
  obtain ⟨f1, f2, f3⟩ := page_facts (tab x) 3 (by omega)
  rw [show size 3 = 1073741824 from rfl] at f1 f3
  have fr := fun h => free_3 (x := x) hl h
  clear hl
  generalize page (tab x) 3 = f at *
  have tl := tab_lt x
  generalize tab x = t at *
  have g1 : (f : Int) % 1073741824 = 0 := by omega
  have g2 : decide (t < f) = false := by rw [decide_eq_false_iff_not]; omega
  obtain ⟨dd, g3, g5⟩ : ∃ dd : Nat, (t : Int) - (f : Int) = (dd : Int) ∧ dd < 1073741824 := ⟨t - f, by omega, by omega⟩
  have hw : IntKind.u64.wrap ((t : Int) - (f : Int)) = dd := by rw [IntKind.wrap_u64, g3]; omega
  have g7 : ((1073741824 : Int) ≤ (dd : Int)) = False := by simp; omega
  have G3 := Lib.hid hw
  have G7 := Lib.hid g7
  have G4 := Lib.hid (show (f : Int) + 4096 ≤ 18446744073709551615 by omega)
  clear g3 g7 g5 hw
  generalize resB x 3 52 true = r at *
  cases r with
  | true =>
    clear fr f1 f2 f3
    go_enter Try.func17, Try.ntmps17
    go_wp2_with fail
    refine (awake05_ _).mono ?_; rintro e w1 ⟨rfl, hb1⟩
    go_wp2_with fail
    refine (L.out _).mono ?_; rintro e w2 ⟨rfl, rfl⟩
    go_wp2_with fail
    refine (F.out _).mono ?_; rintro e w3 ⟨rfl, hb3⟩
    go_wp2_with fail
    refine (SZ.out _).mono ?_; rintro e w4 ⟨rfl, hb4⟩
    go_wp2_with fail
    refine (T.out _).mono ?_; rintro e w5 ⟨rfl, rfl⟩
    go_wp2_with fail
    refine (T.out _).mono ?_; rintro e w5 ⟨rfl, rfl⟩
    go_wp2_with fail
    refine (SZ.out _).mono ?_; rintro e w5 ⟨rfl, hb5⟩
    have g3 := G3.out
    have g7 := G7.out
    clear g1 tl g2
    go_wp2_with fail
    refine (R.out _).mono ?_; rintro e w6 ⟨rfl, rfl⟩
    clear g3 g7
    go_wp2_with fail
    go_ret
    exact ⟨rfl, (hb1.trans' hb3).trans' (hb4.trans' hb5)⟩
  | false =>
    rcases fr rfl with h | h
    · have s1 : ((f : Int) == (t : Int)) = true := by rw [h]; exact beq_self_eq_true _
      clear fr f1 f2 f3 h
      go_enter Try.func17, Try.ntmps17
      go_wp2_with fail
      refine (awake05_ _).mono ?_; rintro e w1 ⟨rfl, hb1⟩
      go_wp2_with fail
      refine (L.out _).mono ?_; rintro e w2 ⟨rfl, rfl⟩
      go_wp2_with fail
      refine (F.out _).mono ?_; rintro e w3 ⟨rfl, hb3⟩
      go_wp2_with fail
      refine (SZ.out _).mono ?_; rintro e w4 ⟨rfl, hb4⟩
      go_wp2_with fail
      refine (T.out _).mono ?_; rintro e w5 ⟨rfl, rfl⟩
      go_wp2_with fail
      refine (T.out _).mono ?_; rintro e w5 ⟨rfl, rfl⟩
      go_wp2_with fail
      refine (SZ.out _).mono ?_; rintro e w5 ⟨rfl, hb5⟩
      have g3 := G3.out
      have g7 := G7.out
      clear g1 tl g2
      go_wp2_with fail
      refine (R.out _).mono ?_; rintro e w6 ⟨rfl, rfl⟩
      clear g3 g7
      go_wp2_with fail
      refine (T.out _).mono ?_; rintro e w6 ⟨rfl, rfl⟩
      go_wp2_with fail
      go_ret
      exact ⟨rfl, (hb1.trans' hb3).trans' (hb4.trans' hb5)⟩
    · have s1 : ((f : Int) == (t : Int)) = false := by rw [beq_eq_false_iff_ne]; omega
      have g4 := G4.out
      have s2 : ((f : Int) + 4096 == (t : Int)) = true := by rw [beq_iff_eq]; omega
      clear fr f1 f2 f3 h
      go_enter Try.func17, Try.ntmps17
      go_wp2_with fail
      refine (awake05_ _).mono ?_; rintro e w1 ⟨rfl, hb1⟩
      go_wp2_with fail
      refine (L.out _).mono ?_; rintro e w2 ⟨rfl, rfl⟩
      go_wp2_with fail
      refine (F.out _).mono ?_; rintro e w3 ⟨rfl, hb3⟩
      go_wp2_with fail
      refine (SZ.out _).mono ?_; rintro e w4 ⟨rfl, hb4⟩
      go_wp2_with fail
      refine (T.out _).mono ?_; rintro e w5 ⟨rfl, rfl⟩
      go_wp2_with fail
      refine (T.out _).mono ?_; rintro e w5 ⟨rfl, rfl⟩
      go_wp2_with fail
      refine (SZ.out _).mono ?_; rintro e w5 ⟨rfl, hb5⟩
      have g3 := G3.out
      have g7 := G7.out
      clear g1 tl g2
      go_wp2_with fail
      refine (R.out _).mono ?_; rintro e w6 ⟨rfl, rfl⟩
      clear g3 g7
      go_wp2_with fail
      refine (T.out _).mono ?_; rintro e w6 ⟨rfl, rfl⟩
      go_wp2_with fail
      refine (T.out _).mono ?_; rintro e w6 ⟨rfl, rfl⟩
      go_wp2_with fail
      go_ret
      exact ⟨rfl, (hb1.trans' hb3).trans' (hb4.trans' hb5)⟩
theorem entryFrames_ (x n : Nat) (w : World) (hx : x < 18446744073709551616) (hn : n < 256) :
    Calls Try.prog 17 #[.int .u64 x, .int .u8 n] w fun e w' => e = .returned (.bool true) ∧ Grows w w' := by
  have h : (n : Int) % 3 = 0 ∨ (n : Int) % 3 = 1 ∨ (n : Int) % 3 = 2 := by omega
  rcases h with h | h | h
  · exact frames_leaf1 x n w hx hn h
  · cases hl : leafB x 2 with
    | true => exact frames_leaf2 x n w hx hn h hl
    | false => exact frames_not2 x n w hx hn h hl
  · cases hl : leafB x 3 with
    | true => exact frames_leaf3 x n w hx hn h hl
    | false => exact frames_not3 x n w hx hn h hl
end Go.Proofs.Ytbifpmaofkgkfaa
