/- Layer 12: the reference's Together. Printed by gen_tog.py. -/
import Derived.Test.YtbifpmaofkgkfaaGrpTog
namespace Go.Proofs.Ytbifpmaofkgkfaa
open Go.RowKit
theorem at_ref (x p k : Nat) (hp : p < 8) : IntKind.u64.wrap (((tab x : Nat) : Int) + 4096 * ((k : Nat) : Int) - 4096 * ((p : Nat) : Int)) = (((frN x p + 4096 * k) % 18446744073709551616 : Nat) : Int) := by
  have := tab_lt x
  rw [IntKind.wrap_u64]
  unfold frN
  omega
theorem seenR (w : World) (ws : Nat → Nat) (i : Int) (a b c : Bool) (t : Int) (n : Bool) : Has (w.alloc (.cells (seenC ws i a b c t n) 69)) w.heap.size (seenC ws i a b c t n) 69 ∧ Grows w (w.alloc (.cells (seenC ws i a b c t n) 69)) := ⟨Has.new _ _ _, (Below.refl _ _).alloc (Nat.le_refl _) _⟩
theorem alike_bits (x y : Nat) : alikeB x y = ((y.testBit 1 == x.testBit 1) && ((y.testBit 2 == x.testBit 2) && ((y.testBit 6 == x.testBit 6) && (y.testBit 63 == x.testBit 63)))) := by
  rw [Bool.eq_iff_iff, alike_iff]
  simp only [Bool.and_eq_true, beq_iff_eq]
  constructor
  · rintro ⟨h1, h2, h3, h4⟩; exact ⟨h1.symm, h2.symm, h3.symm, h4.symm⟩
  · rintro ⟨h1, h2, h3, h4⟩; exact ⟨h1.symm, h2.symm, h3.symm, h4.symm⟩
set_option maxHeartbeats 4000000 in
set_option maxRecDepth 100000 in
theorem tog_ (ws : Nat → Nat) (p : Nat) (a b c : Bool) (t : Int) (n : Bool) (k : Nat) (w : World) (hw : ∀ j, ws j < 18446744073709551616) (hp : p < 8) (hk : k < 8) :
    Calls Try.prog 79 #[seenV ws p a b c t n, .int .i64 k] w fun e w' => e = .returned (.bool (togB ws p t n k)) ∧ Grows w w' := by
  have G0 := Lib.hid (seenR w ws (p : Int) a b c t n)
  have SP := Lib.hid (seenC_get ws (p : Int) a b c t n hp)
  have SK := Lib.hid (seenC_get ws (p : Int) a b c t n hk)
  have p0 : (0 : Int) ≤ (p : Int) := by omega
  have p8 : (p : Int) < 8 := by omega
  have k0 : (0 : Int) ≤ (k : Int) := by omega
  have k8 : (k : Int) < 8 := by omega
  have tl : ((tab (ws p) : Nat) : Int) < 4503599627370496 := by have := tab_lt (ws p); omega
  have MK := Lib.hid (fun w => refmay_ (y := ws k) rfl ws (p : Int) a b c t n w (hw k))
  have X1 := Lib.hid (fun w => bit_at (a := ws k) (x := ((ws k : Nat) : Int)) (y := 1) (i := 1) rfl rfl (hw k) w (by omega))
  have X2 := Lib.hid (fun w => bit_at (a := ws k) (x := ((ws k : Nat) : Int)) (y := 2) (i := 2) rfl rfl (hw k) w (by omega))
  have X6 := Lib.hid (fun w => bit_at (a := ws k) (x := ((ws k : Nat) : Int)) (y := 6) (i := 6) rfl rfl (hw k) w (by omega))
  have X63 := Lib.hid (fun w => bit_at (a := ws k) (x := ((ws k : Nat) : Int)) (y := 63) (i := 63) rfl rfl (hw k) w (by omega))
  have X5 := Lib.hid (fun w => bit_at (a := ws k) (x := ((ws k : Nat) : Int)) (y := 5) (i := 5) rfl rfl (hw k) w (by omega))
  have Y1 := Lib.hid (fun w => bit_at (a := ws p) (x := ((ws p : Nat) : Int)) (y := 1) (i := 1) rfl rfl (hw p) w (by omega))
  have Y2 := Lib.hid (fun w => bit_at (a := ws p) (x := ((ws p : Nat) : Int)) (y := 2) (i := 2) rfl rfl (hw p) w (by omega))
  have Y6 := Lib.hid (fun w => bit_at (a := ws p) (x := ((ws p : Nat) : Int)) (y := 6) (i := 6) rfl rfl (hw p) w (by omega))
  have Y63 := Lib.hid (fun w => bit_at (a := ws p) (x := ((ws p : Nat) : Int)) (y := 63) (i := 63) rfl rfl (hw p) w (by omega))
  have TK := Lib.hid (fun w => reftable_ (a := ws k) rfl w (hw k))
  have TP := Lib.hid (fun w => reftable_ (a := ws p) rfl w (hw p))
  have QI : (((k : Nat) : Int) == ((p : Nat) : Int)) = decide (k = p) := by rw [beq_nat]; rfl
  have QT : (((tab (ws k) : Nat) : Int) == IntKind.u64.wrap (((tab (ws p) : Nat) : Int) + 4096 * ((k : Nat) : Int) - 4096 * ((p : Nat) : Int))) = decide (tab (ws k) = (frN (ws p) p + 4096 * k) % 18446744073709551616) := by rw [at_ref _ _ _ hp, beq_nat]; rfl
  have TG : togB ws p t n k = (decide (k = p) || ((mayB (ws k) t n && ((ws k).testBit 5 && alikeB (ws p) (ws k))) && decide (tab (ws k) = (frN (ws p) p + 4096 * k) % 18446744073709551616))) := rfl
  rw [alike_bits] at TG
  generalize mayB (ws k) t n = m0 at MK TG
  generalize (ws k).testBit 5 = m1 at X5 TG
  generalize decide (k = p) = m3 at QI TG
  generalize decide (tab (ws k) = (frN (ws p) p + 4096 * k) % 18446744073709551616) = m4 at QT TG
  generalize (ws k).testBit 1 = x1 at *
  generalize (ws k).testBit 2 = x2 at *
  generalize (ws k).testBit 6 = x6 at *
  generalize (ws k).testBit 63 = x63 at *
  generalize (ws p).testBit 1 = y1 at *
  generalize (ws p).testBit 2 = y2 at *
  generalize (ws p).testBit 6 = y6 at *
  generalize (ws p).testBit 63 = y63 at *
  have HTG := Lib.hid TG
  clear TG hp hk hw
  unfold seenV at MK ⊢
  cases m3 with
  | true =>
    go_enter Try.func79, Try.ntmps79
    have sp := SP.out
    have sk := SK.out
    unfold seenC at sp sk
    go_wp2_with (go_at_call 67; first | ((with_reducible refine (X1.out _).mono ?_); rintro e w' ⟨rfl, rfl⟩) | ((with_reducible refine (X2.out _).mono ?_); rintro e w' ⟨rfl, rfl⟩) | ((with_reducible refine (X6.out _).mono ?_); rintro e w' ⟨rfl, rfl⟩) | ((with_reducible refine (X63.out _).mono ?_); rintro e w' ⟨rfl, rfl⟩) | ((with_reducible refine (Y1.out _).mono ?_); rintro e w' ⟨rfl, rfl⟩) | ((with_reducible refine (Y2.out _).mono ?_); rintro e w' ⟨rfl, rfl⟩) | ((with_reducible refine (Y6.out _).mono ?_); rintro e w' ⟨rfl, rfl⟩) | ((with_reducible refine (Y63.out _).mono ?_); rintro e w' ⟨rfl, rfl⟩))
    go_ret
    exact ⟨by rw [HTG.out]; rfl, G0.out.2⟩
  | false =>
    by_cases h1 : x1 = y1
    · subst h1
      by_cases h2 : x2 = y2
      · subst h2
        by_cases h6 : x6 = y6
        · subst h6
          by_cases h63 : x63 = y63
          · subst h63
            cases m0 with
            | false =>
              go_enter Try.func79, Try.ntmps79
              have sp := SP.out
              have sk := SK.out
              unfold seenC at sp sk
              go_wp2_with (go_at_call 67; first | ((with_reducible refine (X1.out _).mono ?_); rintro e w' ⟨rfl, rfl⟩) | ((with_reducible refine (X2.out _).mono ?_); rintro e w' ⟨rfl, rfl⟩) | ((with_reducible refine (X6.out _).mono ?_); rintro e w' ⟨rfl, rfl⟩) | ((with_reducible refine (X63.out _).mono ?_); rintro e w' ⟨rfl, rfl⟩) | ((with_reducible refine (Y1.out _).mono ?_); rintro e w' ⟨rfl, rfl⟩) | ((with_reducible refine (Y2.out _).mono ?_); rintro e w' ⟨rfl, rfl⟩) | ((with_reducible refine (Y6.out _).mono ?_); rintro e w' ⟨rfl, rfl⟩) | ((with_reducible refine (Y63.out _).mono ?_); rintro e w' ⟨rfl, rfl⟩))
              have B0 := G0.out.1
              have GG := Lib.hid G0.out.2
              have HB := Lib.hid B0
              clear sp sk
              have q0 := fun g => HB.out.gcell g 0
              have q1 := fun g => HB.out.gcell g 1
              have q2 := fun g => HB.out.gcell g 2
              have q3 := fun g => HB.out.gcell g 3
              have q4 := fun g => HB.out.gcell g 4
              have q5 := fun g => HB.out.gcell g 5
              have q6 := fun g => HB.out.gcell g 6
              have q7 := fun g => HB.out.gcell g 7
              have q8 := fun g => HB.out.gcell g 8
              have q9 := fun g => HB.out.gcell g 9
              have q10 := fun g => HB.out.gcell g 10
              have q11 := fun g => HB.out.gcell g 11
              have q12 := fun g => HB.out.gcell g 12
              have q13 := fun g => HB.out.gcell g 13
              unfold seenC at q0 q1 q2 q3 q4 q5 q6 q7 q8 q9 q10 q11 q12 q13 B0 HB
              simp only [List.getElem?_toArray, List.getElem?_cons_zero, List.getElem?_cons_succ] at q0 q1 q2 q3 q4 q5 q6 q7 q8 q9 q10 q11 q12 q13
              clear B0
              refine wp_region_grow (by kernel_rfl) (by kernel_rfl) ?_
              repeat (go_big_quiet_step ((first | (go_at_call 78; exact quiet_grows (MK.out _)) | (go_at_call 67; exact quiet_same (X5.out _)) | (go_at_call 53; first | (with_reducible exact quiet_same (TK.out _)) | (with_reducible exact quiet_same (TP.out _))))))
              refine wpQuiet_nil ?_
              intro _ hw'
              obtain ⟨g, rfl⟩ := hw'
              clear q0 q1 q2 q3 q4 q5 q6 q7 q8 q9 q10 q11 q12 q13 HB
              go_wp2_with fail
              go_ret
              exact ⟨by rw [HTG.out]; first | rfl | simp_all, Grows.trans' GG.out (grows_grow _ _)⟩
            | true =>
              cases m1 with
              | false =>
                go_enter Try.func79, Try.ntmps79
                have sp := SP.out
                have sk := SK.out
                unfold seenC at sp sk
                go_wp2_with (go_at_call 67; first | ((with_reducible refine (X1.out _).mono ?_); rintro e w' ⟨rfl, rfl⟩) | ((with_reducible refine (X2.out _).mono ?_); rintro e w' ⟨rfl, rfl⟩) | ((with_reducible refine (X6.out _).mono ?_); rintro e w' ⟨rfl, rfl⟩) | ((with_reducible refine (X63.out _).mono ?_); rintro e w' ⟨rfl, rfl⟩) | ((with_reducible refine (Y1.out _).mono ?_); rintro e w' ⟨rfl, rfl⟩) | ((with_reducible refine (Y2.out _).mono ?_); rintro e w' ⟨rfl, rfl⟩) | ((with_reducible refine (Y6.out _).mono ?_); rintro e w' ⟨rfl, rfl⟩) | ((with_reducible refine (Y63.out _).mono ?_); rintro e w' ⟨rfl, rfl⟩))
                have B0 := G0.out.1
                have GG := Lib.hid G0.out.2
                have HB := Lib.hid B0
                clear sp sk
                have q0 := fun g => HB.out.gcell g 0
                have q1 := fun g => HB.out.gcell g 1
                have q2 := fun g => HB.out.gcell g 2
                have q3 := fun g => HB.out.gcell g 3
                have q4 := fun g => HB.out.gcell g 4
                have q5 := fun g => HB.out.gcell g 5
                have q6 := fun g => HB.out.gcell g 6
                have q7 := fun g => HB.out.gcell g 7
                have q8 := fun g => HB.out.gcell g 8
                have q9 := fun g => HB.out.gcell g 9
                have q10 := fun g => HB.out.gcell g 10
                have q11 := fun g => HB.out.gcell g 11
                have q12 := fun g => HB.out.gcell g 12
                have q13 := fun g => HB.out.gcell g 13
                unfold seenC at q0 q1 q2 q3 q4 q5 q6 q7 q8 q9 q10 q11 q12 q13 B0 HB
                simp only [List.getElem?_toArray, List.getElem?_cons_zero, List.getElem?_cons_succ] at q0 q1 q2 q3 q4 q5 q6 q7 q8 q9 q10 q11 q12 q13
                clear B0
                refine wp_region_grow (by kernel_rfl) (by kernel_rfl) ?_
                repeat (go_big_quiet_step ((first | (go_at_call 78; exact quiet_grows (MK.out _)) | (go_at_call 67; exact quiet_same (X5.out _)) | (go_at_call 53; first | (with_reducible exact quiet_same (TK.out _)) | (with_reducible exact quiet_same (TP.out _))))))
                refine wpQuiet_nil ?_
                intro _ hw'
                obtain ⟨g, rfl⟩ := hw'
                clear q0 q1 q2 q3 q4 q5 q6 q7 q8 q9 q10 q11 q12 q13 HB
                go_wp2_with fail
                go_ret
                exact ⟨by rw [HTG.out]; first | rfl | simp_all, Grows.trans' GG.out (grows_grow _ _)⟩
              | true =>
                cases m4 with
                | false =>
                  go_enter Try.func79, Try.ntmps79
                  have sp := SP.out
                  have sk := SK.out
                  unfold seenC at sp sk
                  go_wp2_with (go_at_call 67; first | ((with_reducible refine (X1.out _).mono ?_); rintro e w' ⟨rfl, rfl⟩) | ((with_reducible refine (X2.out _).mono ?_); rintro e w' ⟨rfl, rfl⟩) | ((with_reducible refine (X6.out _).mono ?_); rintro e w' ⟨rfl, rfl⟩) | ((with_reducible refine (X63.out _).mono ?_); rintro e w' ⟨rfl, rfl⟩) | ((with_reducible refine (Y1.out _).mono ?_); rintro e w' ⟨rfl, rfl⟩) | ((with_reducible refine (Y2.out _).mono ?_); rintro e w' ⟨rfl, rfl⟩) | ((with_reducible refine (Y6.out _).mono ?_); rintro e w' ⟨rfl, rfl⟩) | ((with_reducible refine (Y63.out _).mono ?_); rintro e w' ⟨rfl, rfl⟩))
                  have B0 := G0.out.1
                  have GG := Lib.hid G0.out.2
                  have HB := Lib.hid B0
                  clear sp sk
                  have q0 := fun g => HB.out.gcell g 0
                  have q1 := fun g => HB.out.gcell g 1
                  have q2 := fun g => HB.out.gcell g 2
                  have q3 := fun g => HB.out.gcell g 3
                  have q4 := fun g => HB.out.gcell g 4
                  have q5 := fun g => HB.out.gcell g 5
                  have q6 := fun g => HB.out.gcell g 6
                  have q7 := fun g => HB.out.gcell g 7
                  have q8 := fun g => HB.out.gcell g 8
                  have q9 := fun g => HB.out.gcell g 9
                  have q10 := fun g => HB.out.gcell g 10
                  have q11 := fun g => HB.out.gcell g 11
                  have q12 := fun g => HB.out.gcell g 12
                  have q13 := fun g => HB.out.gcell g 13
                  unfold seenC at q0 q1 q2 q3 q4 q5 q6 q7 q8 q9 q10 q11 q12 q13 B0 HB
                  simp only [List.getElem?_toArray, List.getElem?_cons_zero, List.getElem?_cons_succ] at q0 q1 q2 q3 q4 q5 q6 q7 q8 q9 q10 q11 q12 q13
                  clear B0
                  refine wp_region_grow (by kernel_rfl) (by kernel_rfl) ?_
                  repeat (go_big_quiet_step ((first | (go_at_call 78; exact quiet_grows (MK.out _)) | (go_at_call 67; exact quiet_same (X5.out _)) | (go_at_call 53; first | (with_reducible exact quiet_same (TK.out _)) | (with_reducible exact quiet_same (TP.out _))))))
                  refine wpQuiet_nil ?_
                  intro _ hw'
                  obtain ⟨g, rfl⟩ := hw'
                  clear q0 q1 q2 q3 q4 q5 q6 q7 q8 q9 q10 q11 q12 q13 HB
                  go_wp2_with fail
                  go_ret
                  exact ⟨by rw [HTG.out]; first | rfl | simp_all, Grows.trans' GG.out (grows_grow _ _)⟩
                | true =>
                  go_enter Try.func79, Try.ntmps79
                  have sp := SP.out
                  have sk := SK.out
                  unfold seenC at sp sk
                  go_wp2_with (go_at_call 67; first | ((with_reducible refine (X1.out _).mono ?_); rintro e w' ⟨rfl, rfl⟩) | ((with_reducible refine (X2.out _).mono ?_); rintro e w' ⟨rfl, rfl⟩) | ((with_reducible refine (X6.out _).mono ?_); rintro e w' ⟨rfl, rfl⟩) | ((with_reducible refine (X63.out _).mono ?_); rintro e w' ⟨rfl, rfl⟩) | ((with_reducible refine (Y1.out _).mono ?_); rintro e w' ⟨rfl, rfl⟩) | ((with_reducible refine (Y2.out _).mono ?_); rintro e w' ⟨rfl, rfl⟩) | ((with_reducible refine (Y6.out _).mono ?_); rintro e w' ⟨rfl, rfl⟩) | ((with_reducible refine (Y63.out _).mono ?_); rintro e w' ⟨rfl, rfl⟩))
                  have B0 := G0.out.1
                  have GG := Lib.hid G0.out.2
                  have HB := Lib.hid B0
                  clear sp sk
                  have q0 := fun g => HB.out.gcell g 0
                  have q1 := fun g => HB.out.gcell g 1
                  have q2 := fun g => HB.out.gcell g 2
                  have q3 := fun g => HB.out.gcell g 3
                  have q4 := fun g => HB.out.gcell g 4
                  have q5 := fun g => HB.out.gcell g 5
                  have q6 := fun g => HB.out.gcell g 6
                  have q7 := fun g => HB.out.gcell g 7
                  have q8 := fun g => HB.out.gcell g 8
                  have q9 := fun g => HB.out.gcell g 9
                  have q10 := fun g => HB.out.gcell g 10
                  have q11 := fun g => HB.out.gcell g 11
                  have q12 := fun g => HB.out.gcell g 12
                  have q13 := fun g => HB.out.gcell g 13
                  unfold seenC at q0 q1 q2 q3 q4 q5 q6 q7 q8 q9 q10 q11 q12 q13 B0 HB
                  simp only [List.getElem?_toArray, List.getElem?_cons_zero, List.getElem?_cons_succ] at q0 q1 q2 q3 q4 q5 q6 q7 q8 q9 q10 q11 q12 q13
                  clear B0
                  refine wp_region_grow (by kernel_rfl) (by kernel_rfl) ?_
                  repeat (go_big_quiet_step ((first | (go_at_call 78; exact quiet_grows (MK.out _)) | (go_at_call 67; exact quiet_same (X5.out _)) | (go_at_call 53; first | (with_reducible exact quiet_same (TK.out _)) | (with_reducible exact quiet_same (TP.out _))))))
                  refine wpQuiet_nil ?_
                  intro _ hw'
                  obtain ⟨g, rfl⟩ := hw'
                  clear q0 q1 q2 q3 q4 q5 q6 q7 q8 q9 q10 q11 q12 q13 HB
                  go_wp2_with fail
                  go_ret
                  exact ⟨by rw [HTG.out]; first | rfl | simp_all, Grows.trans' GG.out (grows_grow _ _)⟩
          · have e63 : (x63 == y63) = false := by rw [beq_eq_false_iff_ne]; exact h63
            rw [e63] at HTG
            clear h63
            go_enter Try.func79, Try.ntmps79
            have sp := SP.out
            have sk := SK.out
            unfold seenC at sp sk
            go_wp2_with (go_at_call 67; first | ((with_reducible refine (X1.out _).mono ?_); rintro e w' ⟨rfl, rfl⟩) | ((with_reducible refine (X2.out _).mono ?_); rintro e w' ⟨rfl, rfl⟩) | ((with_reducible refine (X6.out _).mono ?_); rintro e w' ⟨rfl, rfl⟩) | ((with_reducible refine (X63.out _).mono ?_); rintro e w' ⟨rfl, rfl⟩) | ((with_reducible refine (Y1.out _).mono ?_); rintro e w' ⟨rfl, rfl⟩) | ((with_reducible refine (Y2.out _).mono ?_); rintro e w' ⟨rfl, rfl⟩) | ((with_reducible refine (Y6.out _).mono ?_); rintro e w' ⟨rfl, rfl⟩) | ((with_reducible refine (Y63.out _).mono ?_); rintro e w' ⟨rfl, rfl⟩))
            have B0 := G0.out.1
            have GG := Lib.hid G0.out.2
            have HB := Lib.hid B0
            clear sp sk
            have q0 := fun g => HB.out.gcell g 0
            have q1 := fun g => HB.out.gcell g 1
            have q2 := fun g => HB.out.gcell g 2
            have q3 := fun g => HB.out.gcell g 3
            have q4 := fun g => HB.out.gcell g 4
            have q5 := fun g => HB.out.gcell g 5
            have q6 := fun g => HB.out.gcell g 6
            have q7 := fun g => HB.out.gcell g 7
            have q8 := fun g => HB.out.gcell g 8
            have q9 := fun g => HB.out.gcell g 9
            have q10 := fun g => HB.out.gcell g 10
            have q11 := fun g => HB.out.gcell g 11
            have q12 := fun g => HB.out.gcell g 12
            have q13 := fun g => HB.out.gcell g 13
            unfold seenC at q0 q1 q2 q3 q4 q5 q6 q7 q8 q9 q10 q11 q12 q13 B0 HB
            simp only [List.getElem?_toArray, List.getElem?_cons_zero, List.getElem?_cons_succ] at q0 q1 q2 q3 q4 q5 q6 q7 q8 q9 q10 q11 q12 q13
            clear B0
            refine wp_region_grow (by kernel_rfl) (by kernel_rfl) ?_
            repeat (go_big_quiet_step ((first | (go_at_call 78; exact quiet_grows (MK.out _)) | (go_at_call 67; exact quiet_same (X5.out _)) | (go_at_call 53; first | (with_reducible exact quiet_same (TK.out _)) | (with_reducible exact quiet_same (TP.out _))))))
            refine wpQuiet_nil ?_
            intro _ hw'
            obtain ⟨g, rfl⟩ := hw'
            clear q0 q1 q2 q3 q4 q5 q6 q7 q8 q9 q10 q11 q12 q13 HB
            go_wp2_with fail
            go_ret
            exact ⟨by rw [HTG.out]; first | rfl | simp_all, Grows.trans' GG.out (grows_grow _ _)⟩
        · have e6 : (x6 == y6) = false := by rw [beq_eq_false_iff_ne]; exact h6
          rw [e6] at HTG
          clear h6
          go_enter Try.func79, Try.ntmps79
          have sp := SP.out
          have sk := SK.out
          unfold seenC at sp sk
          go_wp2_with (go_at_call 67; first | ((with_reducible refine (X1.out _).mono ?_); rintro e w' ⟨rfl, rfl⟩) | ((with_reducible refine (X2.out _).mono ?_); rintro e w' ⟨rfl, rfl⟩) | ((with_reducible refine (X6.out _).mono ?_); rintro e w' ⟨rfl, rfl⟩) | ((with_reducible refine (X63.out _).mono ?_); rintro e w' ⟨rfl, rfl⟩) | ((with_reducible refine (Y1.out _).mono ?_); rintro e w' ⟨rfl, rfl⟩) | ((with_reducible refine (Y2.out _).mono ?_); rintro e w' ⟨rfl, rfl⟩) | ((with_reducible refine (Y6.out _).mono ?_); rintro e w' ⟨rfl, rfl⟩) | ((with_reducible refine (Y63.out _).mono ?_); rintro e w' ⟨rfl, rfl⟩))
          have B0 := G0.out.1
          have GG := Lib.hid G0.out.2
          have HB := Lib.hid B0
          clear sp sk
          have q0 := fun g => HB.out.gcell g 0
          have q1 := fun g => HB.out.gcell g 1
          have q2 := fun g => HB.out.gcell g 2
          have q3 := fun g => HB.out.gcell g 3
          have q4 := fun g => HB.out.gcell g 4
          have q5 := fun g => HB.out.gcell g 5
          have q6 := fun g => HB.out.gcell g 6
          have q7 := fun g => HB.out.gcell g 7
          have q8 := fun g => HB.out.gcell g 8
          have q9 := fun g => HB.out.gcell g 9
          have q10 := fun g => HB.out.gcell g 10
          have q11 := fun g => HB.out.gcell g 11
          have q12 := fun g => HB.out.gcell g 12
          have q13 := fun g => HB.out.gcell g 13
          unfold seenC at q0 q1 q2 q3 q4 q5 q6 q7 q8 q9 q10 q11 q12 q13 B0 HB
          simp only [List.getElem?_toArray, List.getElem?_cons_zero, List.getElem?_cons_succ] at q0 q1 q2 q3 q4 q5 q6 q7 q8 q9 q10 q11 q12 q13
          clear B0
          refine wp_region_grow (by kernel_rfl) (by kernel_rfl) ?_
          repeat (go_big_quiet_step ((first | (go_at_call 78; exact quiet_grows (MK.out _)) | (go_at_call 67; exact quiet_same (X5.out _)) | (go_at_call 53; first | (with_reducible exact quiet_same (TK.out _)) | (with_reducible exact quiet_same (TP.out _))))))
          refine wpQuiet_nil ?_
          intro _ hw'
          obtain ⟨g, rfl⟩ := hw'
          clear q0 q1 q2 q3 q4 q5 q6 q7 q8 q9 q10 q11 q12 q13 HB
          go_wp2_with fail
          go_ret
          exact ⟨by rw [HTG.out]; first | rfl | simp_all, Grows.trans' GG.out (grows_grow _ _)⟩
      · have e2 : (x2 == y2) = false := by rw [beq_eq_false_iff_ne]; exact h2
        rw [e2] at HTG
        clear h2
        go_enter Try.func79, Try.ntmps79
        have sp := SP.out
        have sk := SK.out
        unfold seenC at sp sk
        go_wp2_with (go_at_call 67; first | ((with_reducible refine (X1.out _).mono ?_); rintro e w' ⟨rfl, rfl⟩) | ((with_reducible refine (X2.out _).mono ?_); rintro e w' ⟨rfl, rfl⟩) | ((with_reducible refine (X6.out _).mono ?_); rintro e w' ⟨rfl, rfl⟩) | ((with_reducible refine (X63.out _).mono ?_); rintro e w' ⟨rfl, rfl⟩) | ((with_reducible refine (Y1.out _).mono ?_); rintro e w' ⟨rfl, rfl⟩) | ((with_reducible refine (Y2.out _).mono ?_); rintro e w' ⟨rfl, rfl⟩) | ((with_reducible refine (Y6.out _).mono ?_); rintro e w' ⟨rfl, rfl⟩) | ((with_reducible refine (Y63.out _).mono ?_); rintro e w' ⟨rfl, rfl⟩))
        have B0 := G0.out.1
        have GG := Lib.hid G0.out.2
        have HB := Lib.hid B0
        clear sp sk
        have q0 := fun g => HB.out.gcell g 0
        have q1 := fun g => HB.out.gcell g 1
        have q2 := fun g => HB.out.gcell g 2
        have q3 := fun g => HB.out.gcell g 3
        have q4 := fun g => HB.out.gcell g 4
        have q5 := fun g => HB.out.gcell g 5
        have q6 := fun g => HB.out.gcell g 6
        have q7 := fun g => HB.out.gcell g 7
        have q8 := fun g => HB.out.gcell g 8
        have q9 := fun g => HB.out.gcell g 9
        have q10 := fun g => HB.out.gcell g 10
        have q11 := fun g => HB.out.gcell g 11
        have q12 := fun g => HB.out.gcell g 12
        have q13 := fun g => HB.out.gcell g 13
        unfold seenC at q0 q1 q2 q3 q4 q5 q6 q7 q8 q9 q10 q11 q12 q13 B0 HB
        simp only [List.getElem?_toArray, List.getElem?_cons_zero, List.getElem?_cons_succ] at q0 q1 q2 q3 q4 q5 q6 q7 q8 q9 q10 q11 q12 q13
        clear B0
        refine wp_region_grow (by kernel_rfl) (by kernel_rfl) ?_
        repeat (go_big_quiet_step ((first | (go_at_call 78; exact quiet_grows (MK.out _)) | (go_at_call 67; exact quiet_same (X5.out _)) | (go_at_call 53; first | (with_reducible exact quiet_same (TK.out _)) | (with_reducible exact quiet_same (TP.out _))))))
        refine wpQuiet_nil ?_
        intro _ hw'
        obtain ⟨g, rfl⟩ := hw'
        clear q0 q1 q2 q3 q4 q5 q6 q7 q8 q9 q10 q11 q12 q13 HB
        go_wp2_with fail
        go_ret
        exact ⟨by rw [HTG.out]; first | rfl | simp_all, Grows.trans' GG.out (grows_grow _ _)⟩
    · have e1 : (x1 == y1) = false := by rw [beq_eq_false_iff_ne]; exact h1
      rw [e1] at HTG
      clear h1
      go_enter Try.func79, Try.ntmps79
      have sp := SP.out
      have sk := SK.out
      unfold seenC at sp sk
      go_wp2_with (go_at_call 67; first | ((with_reducible refine (X1.out _).mono ?_); rintro e w' ⟨rfl, rfl⟩) | ((with_reducible refine (X2.out _).mono ?_); rintro e w' ⟨rfl, rfl⟩) | ((with_reducible refine (X6.out _).mono ?_); rintro e w' ⟨rfl, rfl⟩) | ((with_reducible refine (X63.out _).mono ?_); rintro e w' ⟨rfl, rfl⟩) | ((with_reducible refine (Y1.out _).mono ?_); rintro e w' ⟨rfl, rfl⟩) | ((with_reducible refine (Y2.out _).mono ?_); rintro e w' ⟨rfl, rfl⟩) | ((with_reducible refine (Y6.out _).mono ?_); rintro e w' ⟨rfl, rfl⟩) | ((with_reducible refine (Y63.out _).mono ?_); rintro e w' ⟨rfl, rfl⟩))
      have B0 := G0.out.1
      have GG := Lib.hid G0.out.2
      have HB := Lib.hid B0
      clear sp sk
      have q0 := fun g => HB.out.gcell g 0
      have q1 := fun g => HB.out.gcell g 1
      have q2 := fun g => HB.out.gcell g 2
      have q3 := fun g => HB.out.gcell g 3
      have q4 := fun g => HB.out.gcell g 4
      have q5 := fun g => HB.out.gcell g 5
      have q6 := fun g => HB.out.gcell g 6
      have q7 := fun g => HB.out.gcell g 7
      have q8 := fun g => HB.out.gcell g 8
      have q9 := fun g => HB.out.gcell g 9
      have q10 := fun g => HB.out.gcell g 10
      have q11 := fun g => HB.out.gcell g 11
      have q12 := fun g => HB.out.gcell g 12
      have q13 := fun g => HB.out.gcell g 13
      unfold seenC at q0 q1 q2 q3 q4 q5 q6 q7 q8 q9 q10 q11 q12 q13 B0 HB
      simp only [List.getElem?_toArray, List.getElem?_cons_zero, List.getElem?_cons_succ] at q0 q1 q2 q3 q4 q5 q6 q7 q8 q9 q10 q11 q12 q13
      clear B0
      refine wp_region_grow (by kernel_rfl) (by kernel_rfl) ?_
      repeat (go_big_quiet_step ((first | (go_at_call 78; exact quiet_grows (MK.out _)) | (go_at_call 67; exact quiet_same (X5.out _)) | (go_at_call 53; first | (with_reducible exact quiet_same (TK.out _)) | (with_reducible exact quiet_same (TP.out _))))))
      refine wpQuiet_nil ?_
      intro _ hw'
      obtain ⟨g, rfl⟩ := hw'
      clear q0 q1 q2 q3 q4 q5 q6 q7 q8 q9 q10 q11 q12 q13 HB
      go_wp2_with fail
      go_ret
      exact ⟨by rw [HTG.out]; first | rfl | simp_all, Grows.trans' GG.out (grows_grow _ _)⟩
end Go.Proofs.Ytbifpmaofkgkfaa
