/- Layer 12: group.Run. -/
import Derived.Test.YtbifpmaofkgkfaaGrpPlain
import Derived.Deep.RegionHeld3
namespace Go.Proofs.Ytbifpmaofkgkfaa
open Go.RowKit
set_option maxHeartbeats 4000000 in
set_option maxRecDepth 100000 in
theorem run_yes (ws : Nat → Nat) (i : Nat) (a b c : Bool) (t : Int) (n : Bool) (w : World) (hi : i < 8) (hw : ∀ j, ws j < 18446744073709551616) (hm : mayB (ws i) t n = true) :
    Calls Try.prog 49 #[seenV ws i a b c t n] w fun e w' => e = .returned (lnV (runL ws i a b c t n)) ∧ Grows w w' := by
  have M := Lib.hid (fun w => may_ (y := ws i) rfl ws (i : Int) a b c t n w (hw i))
  rw [hm] at M
  have R := Lib.hid (fun w => rand_ (y := ws i) rfl a b c w (hw i))
  unfold seenV at M ⊢
  have B0 := seenW_0 w ws i a b c t n
  have B1 := Lib.hid (seenW_1 w ws i a b c t n)
  have G0 := Lib.hid (seenW_g w ws i a b c t n)
  have SG := Lib.hid (fun j h => seenC_get ws (i : Int) a b c t n (j := j) h)
  have HI := Lib.hid hi
  have HW := Lib.hid hw
  have T := Lib.hid (fun w => table_ (a := ws i) rfl w (hw i))
  have EF := Lib.hid (fr_run (ws i) i hi)
  have ED := Lib.hid (ask_bit (x := ws i) (k := 6) (m := 64) (by decide) (by omega) (hw i))
  go_enter Try.func49, Try.ntmps49
  go_wp2_with fail
  show Code.wp _ _ _ _ (seenW w ws i a b c t n)
  generalize seenW w ws i a b c t n = W at *
  have L0 := Lib.hid (show w.heap.size ≤ w.heap.size by omega)
  have L1 := Lib.hid (show w.heap.size ≤ w.heap.size + 1 by omega)
  have NE := Lib.hid (show w.heap.size ≠ w.heap.size + 1 by omega)
  generalize hb1 : w.heap.size + 1 = b1 at B0 B1 L1 NE ⊢
  generalize hb0 : w.heap.size = b0 at B0 B1 NE ⊢
  clear hb1 hb0
  have qi := fun g => (B0.gcell g i).trans (SG.out i HI.out)
  have q0 := fun g => B0.gcell g 0
  have q1 := fun g => B0.gcell g 1
  have q2 := fun g => B0.gcell g 2
  have q3 := fun g => B0.gcell g 3
  have q4 := fun g => B0.gcell g 4
  have q5 := fun g => B0.gcell g 5
  have q6 := fun g => B0.gcell g 6
  have q7 := fun g => B0.gcell g 7
  have q8 := fun g => B0.gcell g 8
  have q9 := fun g => B0.gcell g 9
  have q10 := fun g => B0.gcell g 10
  have q11 := fun g => B0.gcell g 11
  have q12 := fun g => B0.gcell g 12
  have q13 := fun g => B0.gcell g 13
  have HB0 := Lib.hid B0
  unfold seenC at q0 q1 q2 q3 q4 q5 q6 q7 q8 q9 q10 q11 q12 q13
  simp only [List.getElem?_toArray, List.getElem?_cons_zero, List.getElem?_cons_succ] at q0 q1 q2 q3 q4 q5 q6 q7 q8 q9 q10 q11 q12 q13
  clear B0
  have i0 : (0 : Int) ≤ (i : Int) := by omega
  have i8 : (i : Int) < 8 := by omega
  have n8 : decide ((8 : Int) ≤ (i : Int)) = false := by rw [decide_eq_false_iff_not]; omega
  have n0 : decide ((i : Int) < 0) = false := by rw [decide_eq_false_iff_not]; omega
  refine wp_region_grow (by kernel_rfl) (by kernel_rfl) ?_
  repeat (go_big_quiet_step ((go_at_call 77; exact quiet_grows (M.out _))))
  refine wpQuiet_nil ?_
  intro _ hw'
  obtain ⟨g, rfl⟩ := hw'
  go_wp2_with fail
  have B0 := HB0.out.grows (grows_grow W g)
  have B1' := Lib.hid (B1.out.grows (grows_grow W g))
  have G1 := Lib.hid (Grows.trans' G0.out (grows_grow W g))
  clear q0 q1 q2 q3 q4 q5 q6 q7 q8 q9 q10 q11 q12 q13 qi B1 G0 HB0
  generalize grow W g = W2 at *
  have c8 := B0.cell 8
  have c9 := B0.cell 9
  have c10 := B0.cell 10
  have c11 := B0.cell 11
  have lt0 := B0.lt
  have HB0 := Lib.hid B0
  clear B0
  unfold seenC at c8 c9 c10 c11
  simp only [List.getElem?_toArray, List.getElem?_cons_zero, List.getElem?_cons_succ] at c8 c9 c10 c11
  have LT0 := Lib.hid lt0
  clear lt0
  have KS : Hid (∀ w1 w2 : World, (w1.cell? ⟨b0, 8, none⟩ = some (.int .i64 i) ∧ w1.cell? ⟨b0, 9, none⟩ = some (.bool a) ∧ w1.cell? ⟨b0, 10, none⟩ = some (.bool b) ∧ w1.cell? ⟨b0, 11, none⟩ = some (.bool c) ∧ Grows W2 w1) → Below W2.heap.size w1 w2 → (w2.cell? ⟨b0, 8, none⟩ = some (.int .i64 i) ∧ w2.cell? ⟨b0, 9, none⟩ = some (.bool a) ∧ w2.cell? ⟨b0, 10, none⟩ = some (.bool b) ∧ w2.cell? ⟨b0, 11, none⟩ = some (.bool c) ∧ Grows W2 w2)) := Lib.hid (fun w1 w2 h k =>
    ⟨(World.cell?_of_block (k.block b0 LT0.out)).trans h.1, (World.cell?_of_block (k.block b0 LT0.out)).trans h.2.1, (World.cell?_of_block (k.block b0 LT0.out)).trans h.2.2.1, (World.cell?_of_block (k.block b0 LT0.out)).trans h.2.2.2.1, Below.trans h.2.2.2.2 k⟩)
  have S0 : Hid (W2.cell? ⟨b0, 8, none⟩ = some (.int .i64 i) ∧ W2.cell? ⟨b0, 9, none⟩ = some (.bool a) ∧ W2.cell? ⟨b0, 10, none⟩ = some (.bool b) ∧ W2.cell? ⟨b0, 11, none⟩ = some (.bool c) ∧ Grows W2 W2) := Lib.hid ⟨c8, c9, c10, c11, Below.refl _ _⟩
  clear c8 c9 c10 c11
  have KG : Hid (∀ w1 w2 : World, (w1.cell? ⟨b0, 8, none⟩ = some (.int .i64 i) ∧ w1.cell? ⟨b0, 9, none⟩ = some (.bool a) ∧ w1.cell? ⟨b0, 10, none⟩ = some (.bool b) ∧ w1.cell? ⟨b0, 11, none⟩ = some (.bool c) ∧ Grows W2 w1) → Grows w1 w2 → (w2.cell? ⟨b0, 8, none⟩ = some (.int .i64 i) ∧ w2.cell? ⟨b0, 9, none⟩ = some (.bool a) ∧ w2.cell? ⟨b0, 10, none⟩ = some (.bool b) ∧ w2.cell? ⟨b0, 11, none⟩ = some (.bool c) ∧ Grows W2 w2)) := Lib.hid (fun w1 w2 h k => KS.out w1 w2 h (Below.mono k h.2.2.2.2.size))
  have KD := Lib.hid (KS.out _ _ S0.out (grows_drew W2))
  have KAD := Lib.hid (fun o => KS.out _ _ S0.out (grows_alloc_drew W2 o))
  go_region_held3 (fun w1 : World => w1.cell? ⟨b0, 8, none⟩ = some (.int .i64 i) ∧ w1.cell? ⟨b0, 9, none⟩ = some (.bool a) ∧ w1.cell? ⟨b0, 10, none⟩ = some (.bool b) ∧ w1.cell? ⟨b0, 11, none⟩ = some (.bool c) ∧ Grows W2 w1)
    (first | (with_reducible assumption) | (with_reducible exact KD.out) | (with_reducible exact KAD.out _) | (with_reducible exact hS.out) | (with_reducible exact hA.out _) | (with_reducible exact hT.out _ _ _ _ _ _))
    (first | (go_at_call 42; refine (T.out _).mono ?_; rintro e w' ⟨rfl, rfl⟩) | (go_at_call 54; refine (R.out _).mono ?_; rintro e w' ⟨rfl, hb⟩; first | (have BB := hasd (by with_reducible exact hb); have hS := Lib.hid (KS.out _ _ S0.out (kad hb)); have hT := Lib.hid (fun v0 v1 v2 v3 v4 v5 => KS.out _ _ S0.out (kads hb v0 v1 v2 v3 v4 v5)); have y0 := BB.cell 0; have y1 := BB.cell 1; have y2 := BB.cell 2; have y3 := BB.cell 3; have y4 := BB.cell 4; have y5 := BB.cell 5; have z0 := BB.frozen 0; have z1 := BB.frozen 1; have z2 := BB.frozen 2; have z3 := BB.frozen 3; have z4 := BB.frozen 4; have z5 := BB.frozen 5; simp only [List.getElem?_toArray, List.getElem?_cons_zero, List.getElem?_cons_succ] at y0 y1 y2 y3 y4 y5; clear BB) | (have hS := Lib.hid (KS.out _ _ S0.out (kd hb)); have hA := Lib.hid (fun o => KS.out _ _ S0.out (kda o hb)))))
  all_goals (
    simp only [EF.out, ED.out]
    first
      | (have WW := And.intro (wayA (by with_reducible exact hb) (.int .u64 ((frN (ws i) i : Nat) : Int)) (.bool (a && (ws i).testBit 1)) (.bool (b && (ws i).testBit 2)) (.bool (c && !(ws i).testBit 63)) (.bool ((ws i).testBit 6)) (.int .u8 0)) (And.intro (kads hb (.int .u64 ((frN (ws i) i : Nat) : Int)) (.bool (a && (ws i).testBit 1)) (.bool (b && (ws i).testBit 2)) (.bool (c && !(ws i).testBit 63)) (.bool ((ws i).testBit 6)) (.int .u8 0)) (Nat.le_refl W2.heap.size))
         generalize (((((w'.setCell ⟨W2.heap.size, 0, none⟩ (.int .u64 ((frN (ws i) i : Nat) : Int))).setCell ⟨W2.heap.size, 1, none⟩ (.bool (a && (ws i).testBit 1))).setCell ⟨W2.heap.size, 2, none⟩ (.bool (b && (ws i).testBit 2))).setCell ⟨W2.heap.size, 3, none⟩ (.bool (c && !(ws i).testBit 63))).setCell ⟨W2.heap.size, 4, none⟩ (.bool ((ws i).testBit 6))).setCell ⟨W2.heap.size, 5, none⟩ (.int .u8 0) = W3 at WW ⊢
         generalize hbb : W2.heap.size = bb at WW ⊢)
      | (have WW := wayC hb #[.int .u64 ((frN (ws i) i : Nat) : Int), .bool (a && (ws i).testBit 1), .bool (b && (ws i).testBit 2), .bool (c && !(ws i).testBit 63), .bool ((ws i).testBit 6), .int .u8 0] 65
         generalize w'.alloc (.cells #[.int .u64 ((frN (ws i) i : Nat) : Int), .bool (a && (ws i).testBit 1), .bool (b && (ws i).testBit 2), .bool (c && !(ws i).testBit 63), .bool ((ws i).testBit 6), .int .u8 0] 65) = W3 at WW ⊢
         generalize w'.heap.size = bb at WW ⊢)
    obtain ⟨w1, w2, w3⟩ := WW
    have R0 : RInv w (seenC ws (i : Int) a b c t n) b0 b1 bb (frN (ws i) i) (a && (ws i).testBit 1) (b && (ws i).testBit 2) (c && !(ws i).testBit 63) ((ws i).testBit 6) (togB ws i t n) 0 W3 := ⟨w1, HB0.out.grows w2, B1'.out.grows w2, Grows.trans' G1.out w2⟩
    have LL : w.heap.size ≤ bb := Nat.le_trans G1.out.size (by omega)
    have N0 : b0 ≠ bb := by have := LT0.out; omega
    have N1 : b1 ≠ bb := by have := B1'.out.lt; omega
    have HR := Lib.hid R0
    have HL := Lib.hid LL
    have HN0 := Lib.hid N0
    have HN1 := Lib.hid N1
    clear w1 w2 w3 LL N0 N1 hb
    try clear hbb
    try clear hA
    try clear hT
    try clear y0 y1 y2 y3 y4 y5 z0 z1 z2 z3 z4 z5
    clear hS KS KG KD KAD S0 G1 B1' HB0 LT0 R
    have p0 := R0.seen.cell 0
    have p1 := R0.seen.cell 1
    have p2 := R0.seen.cell 2
    have p3 := R0.seen.cell 3
    have p4 := R0.seen.cell 4
    have p5 := R0.seen.cell 5
    have p6 := R0.seen.cell 6
    have p7 := R0.seen.cell 7
    unfold seenC at p0 p1 p2 p3 p4 p5 p6 p7
    simp only [List.getElem?_toArray, List.getElem?_cons_zero, List.getElem?_cons_succ] at p0 p1 p2 p3 p4 p5 p6 p7
    clear R0
    have II := Lib.hid (idx8 ws)
    go_wp2_with fail
    clear p0 p1 p2 p3 p4 p5 p6 p7
    go_loopw [49] (fun v wr => ∃ k : Nat, k ≤ 8 ∧ v = .int .i64 k ∧ Hid (RInv w (seenC ws (i : Int) a b c t n) b0 b1 bb (frN (ws i) i) (a && (ws i).testBit 1) (b && (ws i).testBit 2) (c && !(ws i).testBit 63) ((ws i).testBit 6) (togB ws i t n) k wr)) (fun v _ => 8 - (intOf v).toNat)
    case atStart => exact ⟨0, by omega, rfl, HR⟩
    case round =>
      obtain ⟨k, hk, rfl, hr⟩ := hrel
      by_cases hlt : k < 8
      · have ii := fun w => II.out k hlt w
        have k0 : (0 : Int) ≤ (k : Int) := by omega
        have k8 : (k : Int) < 8 := by omega
        have MK := Lib.hid (fun w => may_ (y := ws k) rfl ws (i : Int) a b c t n w (HW.out k))
        unfold seenV at MK
        have TK := Lib.hid (fun w => table_ (a := ws k) rfl w (HW.out k))
        have QA := ask_bit (x := ws k) (k := 5) (m := 32) (by decide) (by omega) (HW.out k)
        have QL := alike_run (x := ws i) (y := ws k) (HW.out i) (HW.out k)
        have QI : (((k : Nat) : Int) == ((i : Nat) : Int)) = decide (k = i) := by rw [beq_nat]; rfl
        have QT : (((tab (ws k) : Nat) : Int) == IntKind.u64.wrap (((frN (ws i) i : Nat) : Int) + 4096 * ((k : Nat) : Int))) = decide (tab (ws k) = (frN (ws i) i + 4096 * k) % 18446744073709551616) := by rw [at_run, beq_nat]; rfl
        have TG : togB ws i t n k = (decide (k = i) || ((mayB (ws k) t n && ((ws k).testBit 5 && alikeB (ws i) (ws k))) && decide (tab (ws k) = (frN (ws i) i + 4096 * k) % 18446744073709551616))) := rfl
        generalize mayB (ws k) t n = m0 at MK TG
        generalize (ws k).testBit 5 = m1 at QA TG
        generalize alikeB (ws i) (ws k) = m2 at QL TG
        generalize decide (k = i) = m3 at QI TG
        generalize decide (tab (ws k) = (frN (ws i) i + 4096 * k) % 18446744073709551616) = m4 at QT TG
        have HTG := Lib.hid TG
        clear TG hk
        have p0 := hr.out.seen.cell 0
        have p1 := hr.out.seen.cell 1
        have p2 := hr.out.seen.cell 2
        have p3 := hr.out.seen.cell 3
        have p4 := hr.out.seen.cell 4
        have p5 := hr.out.seen.cell 5
        have p6 := hr.out.seen.cell 6
        have p7 := hr.out.seen.cell 7
        have p8 := hr.out.seen.cell 8
        have p9 := hr.out.seen.cell 9
        have p10 := hr.out.seen.cell 10
        have p11 := hr.out.seen.cell 11
        have p12 := hr.out.seen.cell 12
        have p13 := hr.out.seen.cell 13
        unfold seenC at p0 p1 p2 p3 p4 p5 p6 p7 p8 p9 p10 p11 p12 p13
        simp only [List.getElem?_toArray, List.getElem?_cons_zero, List.getElem?_cons_succ] at p0 p1 p2 p3 p4 p5 p6 p7 p8 p9 p10 p11 p12 p13
        cases m3 with
        | true =>
          cases m0 with
          | false =>
            go_wp2_with fail
            refine (MK.out _).mono ?_; rintro e w4 ⟨rfl, hb4⟩
            have r4 := hr.out.to hb4
            clear p0 p1 p2 p3 p4 p5 p6 p7 p8 p9 p10 p11 p12 p13 hb4
            have g8 := fun g => r4.seen.gcell g 8
            have gF := fun g => r4.line.gcell g 0
            unfold seenC at g8
            unfold lnC at gF
            simp only [List.getElem?_toArray, List.getElem?_cons_zero, List.getElem?_cons_succ] at g8 gF
            have H4 := Lib.hid r4
            clear r4
            go_wp2_with fail
            refine wp_region_grow (by kernel_rfl) (by kernel_rfl) ?_
            repeat (go_big_quiet_step ((go_at_call 42; exact quiet_same (TK.out _))))
            refine wpQuiet_nil ?_
            intro _ hw'
            obtain ⟨g2, rfl⟩ := hw'
            have H5 := H4.out.to (grows_grow w4 g2)
            clear g8 gF
            generalize grow w4 g2 = w5 at *
            have y5 := H5.line.cell 5
            have z5 := H5.line.frozen 5
            unfold lnC at y5
            simp only [List.getElem?_toArray, List.getElem?_cons_zero, List.getElem?_cons_succ] at y5
            have H6 := Lib.hid H5
            clear H5
            have SH := shl_run k hlt
            go_wp2_with fail
            go_roundw
            case rel => exact ⟨k + 1, by omega, by go_num, Lib.hid (H6.out.put (by rw [HTG.out]; rfl) HN0.out HN1.out HL.out (or_run _ k hlt))⟩
            case measure => simp [intOf]; omega
          | true =>
            cases m1 with
            | false =>
              go_wp2_with fail
              refine (MK.out _).mono ?_; rintro e w4 ⟨rfl, hb4⟩
              have r4 := hr.out.to hb4
              clear p0 p1 p2 p3 p4 p5 p6 p7 p8 p9 p10 p11 p12 p13 hb4
              have g8 := fun g => r4.seen.gcell g 8
              have gF := fun g => r4.line.gcell g 0
              unfold seenC at g8
              unfold lnC at gF
              simp only [List.getElem?_toArray, List.getElem?_cons_zero, List.getElem?_cons_succ] at g8 gF
              have H4 := Lib.hid r4
              clear r4
              go_wp2_with fail
              refine wp_region_grow (by kernel_rfl) (by kernel_rfl) ?_
              repeat (go_big_quiet_step ((go_at_call 42; exact quiet_same (TK.out _))))
              refine wpQuiet_nil ?_
              intro _ hw'
              obtain ⟨g2, rfl⟩ := hw'
              have H5 := H4.out.to (grows_grow w4 g2)
              clear g8 gF
              generalize grow w4 g2 = w5 at *
              have y5 := H5.line.cell 5
              have z5 := H5.line.frozen 5
              unfold lnC at y5
              simp only [List.getElem?_toArray, List.getElem?_cons_zero, List.getElem?_cons_succ] at y5
              have H6 := Lib.hid H5
              clear H5
              have SH := shl_run k hlt
              go_wp2_with fail
              go_roundw
              case rel => exact ⟨k + 1, by omega, by go_num, Lib.hid (H6.out.put (by rw [HTG.out]; rfl) HN0.out HN1.out HL.out (or_run _ k hlt))⟩
              case measure => simp [intOf]; omega
            | true =>
              cases m2 with
              | false =>
                go_wp2_with fail
                refine (MK.out _).mono ?_; rintro e w4 ⟨rfl, hb4⟩
                have r4 := hr.out.to hb4
                clear p0 p1 p2 p3 p4 p5 p6 p7 p8 p9 p10 p11 p12 p13 hb4
                have g8 := fun g => r4.seen.gcell g 8
                have gF := fun g => r4.line.gcell g 0
                unfold seenC at g8
                unfold lnC at gF
                simp only [List.getElem?_toArray, List.getElem?_cons_zero, List.getElem?_cons_succ] at g8 gF
                have H4 := Lib.hid r4
                clear r4
                go_wp2_with fail
                refine wp_region_grow (by kernel_rfl) (by kernel_rfl) ?_
                repeat (go_big_quiet_step ((go_at_call 42; exact quiet_same (TK.out _))))
                refine wpQuiet_nil ?_
                intro _ hw'
                obtain ⟨g2, rfl⟩ := hw'
                have H5 := H4.out.to (grows_grow w4 g2)
                clear g8 gF
                generalize grow w4 g2 = w5 at *
                have y5 := H5.line.cell 5
                have z5 := H5.line.frozen 5
                unfold lnC at y5
                simp only [List.getElem?_toArray, List.getElem?_cons_zero, List.getElem?_cons_succ] at y5
                have H6 := Lib.hid H5
                clear H5
                have SH := shl_run k hlt
                go_wp2_with fail
                go_roundw
                case rel => exact ⟨k + 1, by omega, by go_num, Lib.hid (H6.out.put (by rw [HTG.out]; rfl) HN0.out HN1.out HL.out (or_run _ k hlt))⟩
                case measure => simp [intOf]; omega
              | true =>
                go_wp2_with fail
                refine (MK.out _).mono ?_; rintro e w4 ⟨rfl, hb4⟩
                have r4 := hr.out.to hb4
                clear p0 p1 p2 p3 p4 p5 p6 p7 p8 p9 p10 p11 p12 p13 hb4
                have g8 := fun g => r4.seen.gcell g 8
                have gF := fun g => r4.line.gcell g 0
                unfold seenC at g8
                unfold lnC at gF
                simp only [List.getElem?_toArray, List.getElem?_cons_zero, List.getElem?_cons_succ] at g8 gF
                have H4 := Lib.hid r4
                clear r4
                go_wp2_with fail
                refine wp_region_grow (by kernel_rfl) (by kernel_rfl) ?_
                repeat (go_big_quiet_step ((go_at_call 42; exact quiet_same (TK.out _))))
                refine wpQuiet_nil ?_
                intro _ hw'
                obtain ⟨g2, rfl⟩ := hw'
                have H5 := H4.out.to (grows_grow w4 g2)
                clear g8 gF
                generalize grow w4 g2 = w5 at *
                have y5 := H5.line.cell 5
                have z5 := H5.line.frozen 5
                unfold lnC at y5
                simp only [List.getElem?_toArray, List.getElem?_cons_zero, List.getElem?_cons_succ] at y5
                have H6 := Lib.hid H5
                clear H5
                have SH := shl_run k hlt
                go_wp2_with fail
                go_roundw
                case rel => exact ⟨k + 1, by omega, by go_num, Lib.hid (H6.out.put (by rw [HTG.out]; rfl) HN0.out HN1.out HL.out (or_run _ k hlt))⟩
                case measure => simp [intOf]; omega
        | false =>
          cases m0 with
          | false =>
            go_wp2_with fail
            refine (MK.out _).mono ?_; rintro e w4 ⟨rfl, hb4⟩
            have r4 := hr.out.to hb4
            clear p0 p1 p2 p3 p4 p5 p6 p7 p8 p9 p10 p11 p12 p13 hb4
            have g8 := fun g => r4.seen.gcell g 8
            have gF := fun g => r4.line.gcell g 0
            unfold seenC at g8
            unfold lnC at gF
            simp only [List.getElem?_toArray, List.getElem?_cons_zero, List.getElem?_cons_succ] at g8 gF
            have H4 := Lib.hid r4
            clear r4
            go_wp2_with fail
            refine wp_region_grow (by kernel_rfl) (by kernel_rfl) ?_
            repeat (go_big_quiet_step ((go_at_call 42; exact quiet_same (TK.out _))))
            refine wpQuiet_nil ?_
            intro _ hw'
            obtain ⟨g2, rfl⟩ := hw'
            have H5 := H4.out.to (grows_grow w4 g2)
            clear g8 gF
            generalize grow w4 g2 = w5 at *
            have H6 := Lib.hid H5
            clear H5
            go_wp2_with fail
            go_roundw
            case rel => exact ⟨k + 1, by omega, by go_num, Lib.hid (H6.out.skip (by rw [HTG.out]; rfl))⟩
            case measure => simp [intOf]; omega
          | true =>
            cases m1 with
            | false =>
              go_wp2_with fail
              refine (MK.out _).mono ?_; rintro e w4 ⟨rfl, hb4⟩
              have r4 := hr.out.to hb4
              clear p0 p1 p2 p3 p4 p5 p6 p7 p8 p9 p10 p11 p12 p13 hb4
              have g8 := fun g => r4.seen.gcell g 8
              have gF := fun g => r4.line.gcell g 0
              unfold seenC at g8
              unfold lnC at gF
              simp only [List.getElem?_toArray, List.getElem?_cons_zero, List.getElem?_cons_succ] at g8 gF
              have H4 := Lib.hid r4
              clear r4
              go_wp2_with fail
              refine wp_region_grow (by kernel_rfl) (by kernel_rfl) ?_
              repeat (go_big_quiet_step ((go_at_call 42; exact quiet_same (TK.out _))))
              refine wpQuiet_nil ?_
              intro _ hw'
              obtain ⟨g2, rfl⟩ := hw'
              have H5 := H4.out.to (grows_grow w4 g2)
              clear g8 gF
              generalize grow w4 g2 = w5 at *
              have H6 := Lib.hid H5
              clear H5
              go_wp2_with fail
              go_roundw
              case rel => exact ⟨k + 1, by omega, by go_num, Lib.hid (H6.out.skip (by rw [HTG.out]; rfl))⟩
              case measure => simp [intOf]; omega
            | true =>
              cases m2 with
              | false =>
                go_wp2_with fail
                refine (MK.out _).mono ?_; rintro e w4 ⟨rfl, hb4⟩
                have r4 := hr.out.to hb4
                clear p0 p1 p2 p3 p4 p5 p6 p7 p8 p9 p10 p11 p12 p13 hb4
                have g8 := fun g => r4.seen.gcell g 8
                have gF := fun g => r4.line.gcell g 0
                unfold seenC at g8
                unfold lnC at gF
                simp only [List.getElem?_toArray, List.getElem?_cons_zero, List.getElem?_cons_succ] at g8 gF
                have H4 := Lib.hid r4
                clear r4
                go_wp2_with fail
                refine wp_region_grow (by kernel_rfl) (by kernel_rfl) ?_
                repeat (go_big_quiet_step ((go_at_call 42; exact quiet_same (TK.out _))))
                refine wpQuiet_nil ?_
                intro _ hw'
                obtain ⟨g2, rfl⟩ := hw'
                have H5 := H4.out.to (grows_grow w4 g2)
                clear g8 gF
                generalize grow w4 g2 = w5 at *
                have H6 := Lib.hid H5
                clear H5
                go_wp2_with fail
                go_roundw
                case rel => exact ⟨k + 1, by omega, by go_num, Lib.hid (H6.out.skip (by rw [HTG.out]; rfl))⟩
                case measure => simp [intOf]; omega
              | true =>
                cases m4 with
                | false =>
                  go_wp2_with fail
                  refine (MK.out _).mono ?_; rintro e w4 ⟨rfl, hb4⟩
                  have r4 := hr.out.to hb4
                  clear p0 p1 p2 p3 p4 p5 p6 p7 p8 p9 p10 p11 p12 p13 hb4
                  have g8 := fun g => r4.seen.gcell g 8
                  have gF := fun g => r4.line.gcell g 0
                  unfold seenC at g8
                  unfold lnC at gF
                  simp only [List.getElem?_toArray, List.getElem?_cons_zero, List.getElem?_cons_succ] at g8 gF
                  have H4 := Lib.hid r4
                  clear r4
                  go_wp2_with fail
                  refine wp_region_grow (by kernel_rfl) (by kernel_rfl) ?_
                  repeat (go_big_quiet_step ((go_at_call 42; exact quiet_same (TK.out _))))
                  refine wpQuiet_nil ?_
                  intro _ hw'
                  obtain ⟨g2, rfl⟩ := hw'
                  have H5 := H4.out.to (grows_grow w4 g2)
                  clear g8 gF
                  generalize grow w4 g2 = w5 at *
                  have H6 := Lib.hid H5
                  clear H5
                  go_wp2_with fail
                  go_roundw
                  case rel => exact ⟨k + 1, by omega, by go_num, Lib.hid (H6.out.skip (by rw [HTG.out]; rfl))⟩
                  case measure => simp [intOf]; omega
                | true =>
                  go_wp2_with fail
                  refine (MK.out _).mono ?_; rintro e w4 ⟨rfl, hb4⟩
                  have r4 := hr.out.to hb4
                  clear p0 p1 p2 p3 p4 p5 p6 p7 p8 p9 p10 p11 p12 p13 hb4
                  have g8 := fun g => r4.seen.gcell g 8
                  have gF := fun g => r4.line.gcell g 0
                  unfold seenC at g8
                  unfold lnC at gF
                  simp only [List.getElem?_toArray, List.getElem?_cons_zero, List.getElem?_cons_succ] at g8 gF
                  have H4 := Lib.hid r4
                  clear r4
                  go_wp2_with fail
                  refine wp_region_grow (by kernel_rfl) (by kernel_rfl) ?_
                  repeat (go_big_quiet_step ((go_at_call 42; exact quiet_same (TK.out _))))
                  refine wpQuiet_nil ?_
                  intro _ hw'
                  obtain ⟨g2, rfl⟩ := hw'
                  have H5 := H4.out.to (grows_grow w4 g2)
                  clear g8 gF
                  generalize grow w4 g2 = w5 at *
                  have y5 := H5.line.cell 5
                  have z5 := H5.line.frozen 5
                  unfold lnC at y5
                  simp only [List.getElem?_toArray, List.getElem?_cons_zero, List.getElem?_cons_succ] at y5
                  have H6 := Lib.hid H5
                  clear H5
                  have SH := shl_run k hlt
                  go_wp2_with fail
                  go_roundw
                  case rel => exact ⟨k + 1, by omega, by go_num, Lib.hid (H6.out.put (by rw [HTG.out]; rfl) HN0.out HN1.out HL.out (or_run _ k hlt))⟩
                  case measure => simp [intOf]; omega
      · obtain rfl : k = 8 := by omega
        have p0 := hr.out.line.cell 0
        have p1 := hr.out.line.cell 1
        have p2 := hr.out.line.cell 2
        have p3 := hr.out.line.cell 3
        have p4 := hr.out.line.cell 4
        have p5 := hr.out.line.cell 5
        have z0 := hr.out.out.cell 0
        have f0 := hr.out.out.frozen 0
        have z1 := hr.out.out.cell 1
        have f1 := hr.out.out.frozen 1
        have z2 := hr.out.out.cell 2
        have f2 := hr.out.out.frozen 2
        have z3 := hr.out.out.cell 3
        have f3 := hr.out.out.frozen 3
        have z4 := hr.out.out.cell 4
        have f4 := hr.out.out.frozen 4
        have z5 := hr.out.out.cell 5
        have f5 := hr.out.out.frozen 5
        unfold lnC at p0 p1 p2 p3 p4 p5
        unfold zLn at z0 z1 z2 z3 z4 z5
        simp only [List.getElem?_toArray, List.getElem?_cons_zero, List.getElem?_cons_succ] at p0 p1 p2 p3 p4 p5 z0 z1 z2 z3 z4 z5
        have HF := Lib.hid (fun v0 v1 v2 v3 v4 v5 => Below.trans hr.out.grows (below_set6 (w := wr) L1.out v0 v1 v2 v3 v4 v5))
        go_wp2_with fail
        refine bodyPost_ret (v := .agg #[.int .u64 ((frN (ws i) i : Nat) : Int), .bool (a && (ws i).testBit 1), .bool (b && (ws i).testBit 2), .bool (c && !(ws i).testBit 63), .bool ((ws i).testBit 6), .int .u8 ((gm (togB ws i t n) 8 : Nat) : Int)]) ?_ rfl ⟨rfl, HF.out _ _ _ _ _ _⟩
        simp [results, Try.results49, go_sem, z0, z1, z2, z3, z4, z5])
end Go.Proofs.Ytbifpmaofkgkfaa
