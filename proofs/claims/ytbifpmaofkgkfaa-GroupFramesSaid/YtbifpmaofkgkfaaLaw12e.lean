/- The laws of layer 12: GroupFrames. Printed by gen_frames12.py. -/
import Derived.Test.YtbifpmaofkgkfaaFramesPlain
namespace Go.Proofs.Ytbifpmaofkgkfaa
open Go.RowKit
set_option maxHeartbeats 4000000 in
set_option maxRecDepth 100000 in
theorem frames12_none (ws : Nat → Nat) (i : Int) (a b c : Bool) (t : Int) (n : Bool) (p : Nat) (w : World) (hw : ∀ j, ws j < 18446744073709551616) (hp : p < 8) (hat : (wrap64 (i.tmod 8 + 8)).tmod 8 = (p : Int)) (hm : mayB (ws p) t n = false) :
    Calls Try.prog 14 #[seenV ws i a b c t n] w fun e w' => e = .returned (.bool true) ∧ Grows w w' := by
  have G0 := Lib.hid (seenW0 w ws i a b c t n)
  have R1 := Lib.hid (fun w => run_ ws (p : Int) a b c t n w hw)
  rw [show runN ws (p : Int) a b c t n = Ln.zero by rw [runN_in _ _ _ _ _ _ _ hp, hm, if_neg (by decide)]] at R1
  have SP := Lib.hid (seenC_get ws (p : Int) a b c t n hp)
  have Q0 := bit0_run (ws p)
  have RR := Lib.hid (fun w => refresv_ (x := ws p) rfl 1 t n w (hw p))
  have HX : (ws p).testBit 0 = false ∨ ((ws p).testBit 0 = true ∧ resB (ws p) 1 t n = true) := by
    unfold mayB at hm
    cases h0 : (ws p).testBit 0 with
    | false => exact Or.inl rfl
    | true => rw [h0] at hm; simp at hm; exact Or.inr ⟨rfl, hm⟩
  generalize resB (ws p) 1 t n = rb at *
  generalize (ws p).testBit 0 = b0 at *
  unfold seenV at R1 ⊢
  unfold lnV at R1
  have p0 : (0 : Int) ≤ (p : Int) := by omega
  have p8 : (p : Int) < 8 := by omega
  clear hp hm
  unfold Ln.zero at R1
  rcases HX with rfl | ⟨rfl, rfl⟩
  · go_enter Try.func14, Try.ntmps14
    go_wp2_with fail
    refine (awake12_ _).mono ?_; rintro e w1 ⟨rfl, hb1⟩
    have B0 := G0.out.1.grows hb1
    have GA := Grows.trans' G0.out.2 hb1
    have f8 := B0.frozen 8
    have c0 := B0.cell 0
    have c1 := B0.cell 1
    have c2 := B0.cell 2
    have c3 := B0.cell 3
    have c4 := B0.cell 4
    have c5 := B0.cell 5
    have c6 := B0.cell 6
    have c7 := B0.cell 7
    have c8 := B0.cell 8
    have c9 := B0.cell 9
    have c10 := B0.cell 10
    have c11 := B0.cell 11
    have c12 := B0.cell 12
    have c13 := B0.cell 13
    unfold seenC at c0 c1 c2 c3 c4 c5 c6 c7 c8 c9 c10 c11 c12 c13
    simp only [List.getElem?_toArray, List.getElem?_cons_zero, List.getElem?_cons_succ] at c0 c1 c2 c3 c4 c5 c6 c7 c8 c9 c10 c11 c12 c13
    have B1 := B0.set 8 (.int .i64 p)
    have E1 : (seenC ws i a b c t n).setIfInBounds 8 (.int .i64 p) = seenC ws (p : Int) a b c t n := rfl
    rw [E1] at B1
    have GB := Below.setCell (p := ⟨w.heap.size, 8, none⟩) GA (Nat.le_refl _) (.int .i64 p)
    have HB1 := Lib.hid B1
    have HGB := Lib.hid GB
    clear B0 E1 GA hb1 B1 GB
    generalize hbp : w.heap.size = bp at HB1 c0 c1 c2 c3 c4 c5 c6 c7 c8 c9 c10 c11 c12 c13 f8 ⊢
    go_wp2_with fail
    refine (R1.out _).mono ?_; rintro e w2 ⟨rfl, hb2⟩
    subst hbp
    have B2 := HB1.out.grows hb2
    have G2 := Grows.trans' HGB.out hb2
    generalize w.heap.size = bp at B2 ⊢
    have A1 := Lib.hid (Has.new w2 #[.int .u64 0, .bool false, .bool false, .bool false, .bool false, .int .u8 0] 65)
    have G3 := Lib.hid (Below.alloc G2 G2.size (.cells #[.int .u64 0, .bool false, .bool false, .bool false, .bool false, .int .u8 0] 65))
    have B3 := Lib.hid (B2.alloc (.cells #[.int .u64 0, .bool false, .bool false, .bool false, .bool false, .int .u8 0] 65))
    clear HB1 HGB hb2 B2 f8 c0 c1 c2 c3 c4 c5 c6 c7 c8 c9 c10 c11 c12 c13 G2
    have sp := (B3.out.cell p).trans SP.out
    have c8 := B3.out.cell 8
    have c12 := B3.out.cell 12
    have c13 := B3.out.cell 13
    unfold seenC at c8 c12 c13
    try unfold lC at sp c8 c12 c13
    simp only [List.getElem?_toArray, List.getElem?_cons_zero, List.getElem?_cons_succ] at c8 c12 c13
    have HA1 := A1.out
    have a0 := HA1.cell 0
    have a1 := HA1.cell 1
    have a2 := HA1.cell 2
    have a3 := HA1.cell 3
    have a4 := HA1.cell 4
    have a5 := HA1.cell 5
    simp only [List.getElem?_toArray, List.getElem?_cons_zero, List.getElem?_cons_succ] at a0 a1 a2 a3 a4 a5
    clear HA1
    go_wp2_with (go_at_call 39; refine (RR.out _).mono ?_; rintro e w' ⟨rfl, rfl⟩)
    go_ret
    exact ⟨rfl, G3.out⟩
  · go_enter Try.func14, Try.ntmps14
    go_wp2_with fail
    refine (awake12_ _).mono ?_; rintro e w1 ⟨rfl, hb1⟩
    have B0 := G0.out.1.grows hb1
    have GA := Grows.trans' G0.out.2 hb1
    have f8 := B0.frozen 8
    have c0 := B0.cell 0
    have c1 := B0.cell 1
    have c2 := B0.cell 2
    have c3 := B0.cell 3
    have c4 := B0.cell 4
    have c5 := B0.cell 5
    have c6 := B0.cell 6
    have c7 := B0.cell 7
    have c8 := B0.cell 8
    have c9 := B0.cell 9
    have c10 := B0.cell 10
    have c11 := B0.cell 11
    have c12 := B0.cell 12
    have c13 := B0.cell 13
    unfold seenC at c0 c1 c2 c3 c4 c5 c6 c7 c8 c9 c10 c11 c12 c13
    simp only [List.getElem?_toArray, List.getElem?_cons_zero, List.getElem?_cons_succ] at c0 c1 c2 c3 c4 c5 c6 c7 c8 c9 c10 c11 c12 c13
    have B1 := B0.set 8 (.int .i64 p)
    have E1 : (seenC ws i a b c t n).setIfInBounds 8 (.int .i64 p) = seenC ws (p : Int) a b c t n := rfl
    rw [E1] at B1
    have GB := Below.setCell (p := ⟨w.heap.size, 8, none⟩) GA (Nat.le_refl _) (.int .i64 p)
    have HB1 := Lib.hid B1
    have HGB := Lib.hid GB
    clear B0 E1 GA hb1 B1 GB
    generalize hbp : w.heap.size = bp at HB1 c0 c1 c2 c3 c4 c5 c6 c7 c8 c9 c10 c11 c12 c13 f8 ⊢
    go_wp2_with fail
    refine (R1.out _).mono ?_; rintro e w2 ⟨rfl, hb2⟩
    subst hbp
    have B2 := HB1.out.grows hb2
    have G2 := Grows.trans' HGB.out hb2
    generalize w.heap.size = bp at B2 ⊢
    have A1 := Lib.hid (Has.new w2 #[.int .u64 0, .bool false, .bool false, .bool false, .bool false, .int .u8 0] 65)
    have G3 := Lib.hid (Below.alloc G2 G2.size (.cells #[.int .u64 0, .bool false, .bool false, .bool false, .bool false, .int .u8 0] 65))
    have B3 := Lib.hid (B2.alloc (.cells #[.int .u64 0, .bool false, .bool false, .bool false, .bool false, .int .u8 0] 65))
    clear HB1 HGB hb2 B2 f8 c0 c1 c2 c3 c4 c5 c6 c7 c8 c9 c10 c11 c12 c13 G2
    have sp := (B3.out.cell p).trans SP.out
    have c8 := B3.out.cell 8
    have c12 := B3.out.cell 12
    have c13 := B3.out.cell 13
    unfold seenC at c8 c12 c13
    try unfold lC at sp c8 c12 c13
    simp only [List.getElem?_toArray, List.getElem?_cons_zero, List.getElem?_cons_succ] at c8 c12 c13
    have HA1 := A1.out
    have a0 := HA1.cell 0
    have a1 := HA1.cell 1
    have a2 := HA1.cell 2
    have a3 := HA1.cell 3
    have a4 := HA1.cell 4
    have a5 := HA1.cell 5
    simp only [List.getElem?_toArray, List.getElem?_cons_zero, List.getElem?_cons_succ] at a0 a1 a2 a3 a4 a5
    clear HA1
    go_wp2_with (go_at_call 39; refine (RR.out _).mono ?_; rintro e w' ⟨rfl, rfl⟩)
    go_ret
    exact ⟨rfl, G3.out⟩
set_option maxHeartbeats 4000000 in
set_option maxRecDepth 100000 in
theorem frames12_some (ws : Nat → Nat) (i : Int) (a b c : Bool) (t : Int) (n : Bool) (p : Nat) (w : World) (hw : ∀ j, ws j < 18446744073709551616) (hp : p < 8) (hat : (wrap64 (i.tmod 8 + 8)).tmod 8 = (p : Int)) (hm : mayB (ws p) t n = true) :
    Calls Try.prog 14 #[seenV ws i a b c t n] w fun e w' => e = .returned (.bool true) ∧ Grows w w' := by
  have G0 := Lib.hid (seenW0 w ws i a b c t n)
  have R1 := Lib.hid (fun w => run_ ws (p : Int) a b c t n w hw)
  have hl := runN_lt ws (p : Int) a b c t n
  rw [frames_line ws p a b c t n hp hm] at R1 hl
  have SP := Lib.hid (seenC_get ws (p : Int) a b c t n hp)
  have Q0 := bit0_run (ws p)
  rw [(mayB_0 hm).1] at Q0
  have RR := Lib.hid (fun w => refresv_ (x := ws p) rfl 1 t n w (hw p))
  rw [(mayB_0 hm).2] at RR
  have Q6 : ((IntKind.u64.wrap (((ws p : Nat) : Int) / 64)).tmod 2 == 1) = (runL ws p a b c t n).d := bit6_run (ws p) (hw p)
  have HO := Lib.hid (fun w => ha_ (runL ws p a b c t n) (p : Int) w hl)
  rw [frames_own ws p a b c t n hp] at HO
  have HK := Lib.hid (fun (k : Nat) w => ha_ (runL ws p a b c t n) (k : Int) w hl)
  have FK := Lib.hid (fun (k : Nat) hk h => frames_has ws p k a b c t n hp hk hm h)
  have SK := Lib.hid (fun (k : Nat) (hk : k < 8) => seenC_get ws (p : Int) a b c t n hk)
  generalize runL ws p a b c t n = l at *
  generalize hasF l.f l.m (p : Int) = hf at *
  unfold seenV at R1 ⊢
  unfold lnV at R1 HO HK
  have HW := Lib.hid hw
  have p0 : (0 : Int) ≤ (p : Int) := by omega
  have p8 : (p : Int) < 8 := by omega
  clear hp hm hl hw
  go_enter Try.func14, Try.ntmps14
  go_wp2_with fail
  refine (awake12_ _).mono ?_; rintro e w1 ⟨rfl, hb1⟩
  have B0 := G0.out.1.grows hb1
  have GA := Grows.trans' G0.out.2 hb1
  have f8 := B0.frozen 8
  have c0 := B0.cell 0
  have c1 := B0.cell 1
  have c2 := B0.cell 2
  have c3 := B0.cell 3
  have c4 := B0.cell 4
  have c5 := B0.cell 5
  have c6 := B0.cell 6
  have c7 := B0.cell 7
  have c8 := B0.cell 8
  have c9 := B0.cell 9
  have c10 := B0.cell 10
  have c11 := B0.cell 11
  have c12 := B0.cell 12
  have c13 := B0.cell 13
  unfold seenC at c0 c1 c2 c3 c4 c5 c6 c7 c8 c9 c10 c11 c12 c13
  simp only [List.getElem?_toArray, List.getElem?_cons_zero, List.getElem?_cons_succ] at c0 c1 c2 c3 c4 c5 c6 c7 c8 c9 c10 c11 c12 c13
  have B1 := B0.set 8 (.int .i64 p)
  have E1 : (seenC ws i a b c t n).setIfInBounds 8 (.int .i64 p) = seenC ws (p : Int) a b c t n := rfl
  rw [E1] at B1
  have GB := Below.setCell (p := ⟨w.heap.size, 8, none⟩) GA (Nat.le_refl _) (.int .i64 p)
  have HB1 := Lib.hid B1
  have HGB := Lib.hid GB
  clear B0 E1 GA hb1 B1 GB
  generalize hbp : w.heap.size = bp at HB1 c0 c1 c2 c3 c4 c5 c6 c7 c8 c9 c10 c11 c12 c13 f8 ⊢
  go_wp2_with fail
  refine (R1.out _).mono ?_; rintro e w2 ⟨rfl, hb2⟩
  subst hbp
  have B2 := HB1.out.grows hb2
  have G2 := Grows.trans' HGB.out hb2
  generalize w.heap.size = bp at B2 ⊢
  have A1 := Lib.hid (Has.new w2 (lC l) 65)
  have G3 := Lib.hid (Below.alloc G2 G2.size (.cells (lC l) 65))
  have B3 := Lib.hid (B2.alloc (.cells (lC l) 65))
  clear HB1 HGB hb2 B2 f8 c0 c1 c2 c3 c4 c5 c6 c7 c8 c9 c10 c11 c12 c13 G2
  have sp := (B3.out.cell p).trans SP.out
  have c8 := B3.out.cell 8
  have c12 := B3.out.cell 12
  have c13 := B3.out.cell 13
  unfold seenC at c8 c12 c13
  try unfold lC at sp c8 c12 c13
  simp only [List.getElem?_toArray, List.getElem?_cons_zero, List.getElem?_cons_succ] at c8 c12 c13
  have HA1 := A1.out
  have a0 := HA1.cell 0
  have a1 := HA1.cell 1
  have a2 := HA1.cell 2
  have a3 := HA1.cell 3
  have a4 := HA1.cell 4
  have a5 := HA1.cell 5
  unfold lC at a0 a1 a2 a3 a4 a5
  simp only [List.getElem?_toArray, List.getElem?_cons_zero, List.getElem?_cons_succ] at a0 a1 a2 a3 a4 a5
  clear HA1
  go_wp2_with (first | (go_at_call 39; refine (RR.out _).mono ?_; rintro e w' ⟨rfl, rfl⟩) | fail)
  refine (HO.out _).mono ?_; rintro e w3 ⟨rfl, hb3⟩
  have A3 := A1.out.grows hb3
  have B4 := B3.out.grows hb3
  have G4 := Grows.trans' G3.out hb3
  clear sp c8 c12 c13 a0 a1 a2 a3 a4 a5 A1 B3 G3 hb3
  generalize w2.heap.size = bl at *
  have a2 := A3.cell 4
  unfold lC at a2
  simp only [List.getElem?_toArray, List.getElem?_cons_zero, List.getElem?_cons_succ] at a2
  have HI := Lib.hid (And.intro A3 (And.intro B4 G4))
  clear A3 B4 G4
  go_wp2_with fail
  clear a2
  go_loopw [8] (fun v wr => ∃ k : Nat, k ≤ 8 ∧ v = .int .i64 k ∧ Hid (Has wr bl (lC l) 65 ∧ Has wr bp (seenC ws (p : Int) a b c t n) 59 ∧ Grows w wr)) (fun v _ => 8 - (intOf v).toNat)
  case atStart => exact ⟨0, by omega, rfl, HI⟩
  case round =>
    obtain ⟨k, hk, rfl, hr⟩ := hrel
    by_cases hlt : k < 8
    · have k0 : (0 : Int) ≤ (k : Int) := by omega
      have k8 : (k : Int) < 8 := by omega
      have HKK := Lib.hid (HK.out k)
      have FKK := Lib.hid (FK.out k hlt)
      have hwk := HW.out k
      have SKK := Lib.hid (SK.out k hlt)
      have QK0 := bit0_run (ws k)
      have QK5 := bit5_run (ws k) hwk
      have QK6 := bit6_run (ws k) hwk
      have QJ5 := bit5_q (ws k)
      have QJ6 := bit6_q (ws k)
      have TK := Lib.hid (fun w => table_ (a := ws k) rfl w hwk)
      have RK := Lib.hid (fun w => rand_ (y := ws k) rfl a b c w hwk)
      clear hk
      have a0 := hr.out.1.cell 0
      have a1 := hr.out.1.cell 1
      have a2 := hr.out.1.cell 2
      have a3 := hr.out.1.cell 3
      have a4 := hr.out.1.cell 4
      have a5 := hr.out.1.cell 5
      unfold lC at a0 a1 a2 a3 a4 a5
      simp only [List.getElem?_toArray, List.getElem?_cons_zero, List.getElem?_cons_succ] at a0 a1 a2 a3 a4 a5
      generalize hhb : hasB l.m (k : Int) = hbk at HKK FKK
      cases hbk with
      | false =>
        go_wp2_with fail
        refine (HKK.out _).mono ?_; rintro e w4 ⟨rfl, hb4⟩
        have A5 := hr.out.1.grows hb4
        have B5 := hr.out.2.1.grows hb4
        have G5 := Grows.trans' hr.out.2.2 hb4
        clear a0 a1 a2 a3 a4 a5 hb4
        have sk := (B5.cell k).trans SKK.out
        unfold lC at sk
        have g1 := fun g => A5.gcell g 1
        have g2 := fun g => A5.gcell g 2
        have g3 := fun g => A5.gcell g 3
        have g4 := fun g => A5.gcell g 4
        have h8 := fun g => B5.gcell g 8
        have h9 := fun g => B5.gcell g 9
        have h10 := fun g => B5.gcell g 10
        have h11 := fun g => B5.gcell g 11
        unfold lC at g1 g2 g3 g4
        unfold seenC at h8 h9 h10 h11
        simp only [List.getElem?_toArray, List.getElem?_cons_zero, List.getElem?_cons_succ] at g1 g2 g3 g4 h8 h9 h10 h11
        have HN := Lib.hid (And.intro A5 (And.intro B5 G5))
        clear A5 B5 G5
        go_wp2_with fail
        refine wp_region_grow (by kernel_rfl) (by kernel_rfl) ?_
        repeat (go_big_quiet_step ((first | (go_at_call 53; exact quiet_same (reftable_ rfl _ hwk)) | (go_at_call 54; exact quiet_grows (RK.out _)))))
        refine wpQuiet_nil ?_
        intro _ hw'
        obtain ⟨g, rfl⟩ := hw'
        clear g1 g2 g3 g4 h8 h9 h10 h11
        go_wp2_with fail
        go_roundw
        case rel => exact ⟨k + 1, by omega, by go_num, Lib.hid ⟨HN.out.1.grows (grows_grow _ _), HN.out.2.1.grows (grows_grow _ _), Grows.trans' HN.out.2.2 (grows_grow _ _)⟩⟩
        case measure => simp [intOf]; omega
      | true =>
        obtain ⟨e1, e2, e3, e4, e5, e6, e7⟩ := FKK.out rfl
        rw [e1] at HKK
        rw [e2] at QK0
        rw [e3, e4, e5] at RK
        rw [e6] at QK6 QJ6
        clear e1 e2 e3 e4 e5 e6 FKK hhb
        rcases e7 with hkp | ⟨hne, e7⟩
        · have kp1 : ((k : Int) == (p : Int)) = true := by rw [hkp]; exact beq_self_eq_true _
          have kp2 : ((k : Int) != (p : Int)) = false := by rw [hkp]; exact bne_self_eq_false _
          clear hkp
          go_wp2_with fail
          refine (HKK.out _).mono ?_; rintro e w4 ⟨rfl, hb4⟩
          have A5 := hr.out.1.grows hb4
          have B5 := hr.out.2.1.grows hb4
          have G5 := Grows.trans' hr.out.2.2 hb4
          clear a0 a1 a2 a3 a4 a5 hb4
          have sk := (B5.cell k).trans SKK.out
          unfold lC at sk
          have g1 := fun g => A5.gcell g 1
          have g2 := fun g => A5.gcell g 2
          have g3 := fun g => A5.gcell g 3
          have g4 := fun g => A5.gcell g 4
          have h8 := fun g => B5.gcell g 8
          have h9 := fun g => B5.gcell g 9
          have h10 := fun g => B5.gcell g 10
          have h11 := fun g => B5.gcell g 11
          unfold lC at g1 g2 g3 g4
          unfold seenC at h8 h9 h10 h11
          simp only [List.getElem?_toArray, List.getElem?_cons_zero, List.getElem?_cons_succ] at g1 g2 g3 g4 h8 h9 h10 h11
          have HN := Lib.hid (And.intro A5 (And.intro B5 G5))
          clear A5 B5 G5
          go_wp2_with fail
          refine wp_region_grow (by kernel_rfl) (by kernel_rfl) ?_
          repeat (go_big_quiet_step ((first | (go_at_call 53; exact quiet_same (reftable_ rfl _ hwk)) | (go_at_call 54; exact quiet_grows (RK.out _)))))
          refine wpQuiet_nil ?_
          intro _ hw'
          obtain ⟨g, rfl⟩ := hw'
          clear g1 g2 g3 g4 h8 h9 h10 h11
          go_wp2_with fail
          go_roundw
          case rel => exact ⟨k + 1, by omega, by go_num, Lib.hid ⟨HN.out.1.grows (grows_grow _ _), HN.out.2.1.grows (grows_grow _ _), Grows.trans' HN.out.2.2 (grows_grow _ _)⟩⟩
          case measure => simp [intOf]; omega
        · rw [e7] at QK5 QJ5
          have kp1 : ((k : Int) == (p : Int)) = false := by rw [beq_eq_false_iff_ne]; omega
          have kp2 : ((k : Int) != (p : Int)) = true := by rw [bne_iff_ne]; omega
          have kp3 : ¬ (k = p) := hne
          clear hne
          go_wp2_with fail
          refine (HKK.out _).mono ?_; rintro e w4 ⟨rfl, hb4⟩
          have A5 := hr.out.1.grows hb4
          have B5 := hr.out.2.1.grows hb4
          have G5 := Grows.trans' hr.out.2.2 hb4
          clear a0 a1 a2 a3 a4 a5 hb4
          have sk := (B5.cell k).trans SKK.out
          unfold lC at sk
          have g1 := fun g => A5.gcell g 1
          have g2 := fun g => A5.gcell g 2
          have g3 := fun g => A5.gcell g 3
          have g4 := fun g => A5.gcell g 4
          have h8 := fun g => B5.gcell g 8
          have h9 := fun g => B5.gcell g 9
          have h10 := fun g => B5.gcell g 10
          have h11 := fun g => B5.gcell g 11
          unfold lC at g1 g2 g3 g4
          unfold seenC at h8 h9 h10 h11
          simp only [List.getElem?_toArray, List.getElem?_cons_zero, List.getElem?_cons_succ] at g1 g2 g3 g4 h8 h9 h10 h11
          have HN := Lib.hid (And.intro A5 (And.intro B5 G5))
          clear A5 B5 G5
          go_wp2_with fail
          refine wp_region_grow (by kernel_rfl) (by kernel_rfl) ?_
          repeat (go_big_quiet_step ((first | (go_at_call 53; exact quiet_same (reftable_ rfl _ hwk)) | (go_at_call 54; exact quiet_grows (RK.out _)))))
          refine wpQuiet_nil ?_
          intro _ hw'
          obtain ⟨g, rfl⟩ := hw'
          clear g1 g2 g3 g4 h8 h9 h10 h11
          go_wp2_with fail
          go_roundw
          case rel => exact ⟨k + 1, by omega, by go_num, Lib.hid ⟨HN.out.1.grows (grows_grow _ _), HN.out.2.1.grows (grows_grow _ _), Grows.trans' HN.out.2.2 (grows_grow _ _)⟩⟩
          case measure => simp [intOf]; omega
    · obtain rfl : k = 8 := by omega
      go_wp2_with fail
      go_ret
      exact ⟨rfl, hr.out.2.2⟩
theorem groupFrames_ (ws : Nat → Nat) (i : Int) (a b c : Bool) (t : Int) (n : Bool) (w : World) (hw : ∀ j, ws j < 18446744073709551616) :
    Calls Try.prog 14 #[seenV ws i a b c t n] w fun e w' => e = .returned (.bool true) ∧ Grows w w' := by
  obtain ⟨p, hp, hat⟩ := at8 i
  cases hm : mayB (ws p) t n with
  | false => exact frames12_none ws i a b c t n p w hw hp hat hm
  | true => exact frames12_some ws i a b c t n p w hw hp hat hm
end Go.Proofs.Ytbifpmaofkgkfaa
