/- The laws of layer 12: GroupMeets. Printed by gen_meets.py. -/
import Derived.Test.YtbifpmaofkgkfaaMeetsPlain
namespace Go.Proofs.Ytbifpmaofkgkfaa
open Go.RowKit
set_option maxHeartbeats 4000000 in
set_option maxRecDepth 100000 in
theorem groupMeets_ (ws : Nat → Nat) (i : Int) (a b c : Bool) (t : Int) (n : Bool) (x : Nat) (w : World) (hw : ∀ j, ws j < 18446744073709551616) :
    Calls Try.prog 15 #[seenV ws i a b c t n, .int .u8 x] w fun e w' => e = .returned (.bool true) ∧ Grows w w' := by
  have G0 := Lib.hid (seenW0 w ws i a b c t n)
  obtain ⟨p, hp, hat⟩ := at8 i
  obtain ⟨k, hk, hke⟩ : ∃ k : Nat, k < 8 ∧ (x : Int) % 8 = k := ⟨x % 8, by omega, by omega⟩
  have R1 := Lib.hid (fun w => run_ ws (p : Int) a b c t n w hw)
  have R2 := Lib.hid (fun w => run_ ws (k : Int) a b c t n w hw)
  have hl := runN_lt ws (p : Int) a b c t n
  have HH := Lib.hid (fun w => ha_ (runN ws (p : Int) a b c t n) (k : Int) w hl)
  have ME := meets ws p k a b c t n hp hk
  have Q5 := bit5_run (ws p) (hw p)
  have SP := Lib.hid (seenC_get ws (p : Int) a b c t n hp)
  generalize runN ws (p : Int) a b c t n = l at *
  generalize runN ws (k : Int) a b c t n = m at *
  generalize (ws p).testBit 5 = b5 at *
  generalize hasB l.m (k : Int) = hb at *
  generalize hasF l.f l.m (k : Int) = hf at *
  have HX : (hb = false) ∨ (hb = true ∧ b5 = false) ∨ (hb = true ∧ b5 = true ∧ m = l) := by
    cases hb with
    | false => exact Or.inl rfl
    | true => cases b5 with
      | false => exact Or.inr (Or.inl ⟨rfl, rfl⟩)
      | true => exact Or.inr (Or.inr ⟨rfl, rfl, ME rfl rfl⟩)
  clear ME hl
  unfold seenV at R1 R2 ⊢
  unfold lnV at R1 R2 HH
  have p0 : (0 : Int) ≤ (p : Int) := by omega
  have p8 : (p : Int) < 8 := by omega
  have k0 : (0 : Int) ≤ (k : Int) := by omega
  have k8 : (k : Int) < 8 := by omega
  clear hp hk
  rcases HX with rfl | ⟨rfl, rfl⟩ | ⟨rfl, rfl, rfl⟩
  · go_enter Try.func15, Try.ntmps15
    go_wp2_with fail
    refine (awake12_ _).mono ?_; rintro e w1 ⟨rfl, hb1⟩
    have B0 := G0.out.1.grows hb1
    have GA := Grows.trans' G0.out.2 hb1
    have f8 := B0.frozen 8
    have c0 := B0.cell 0
    have c1 := B0.cell 1
    have c2 := B0.cell 2
    have c3 := B0.cell 3
    have c4 := B0.cell 4
    have c5 := B0.cell 5
    have c6 := B0.cell 6
    have c7 := B0.cell 7
    have c8 := B0.cell 8
    have c9 := B0.cell 9
    have c10 := B0.cell 10
    have c11 := B0.cell 11
    have c12 := B0.cell 12
    have c13 := B0.cell 13
    unfold seenC at c0 c1 c2 c3 c4 c5 c6 c7 c8 c9 c10 c11 c12 c13
    simp only [List.getElem?_toArray, List.getElem?_cons_zero, List.getElem?_cons_succ] at c0 c1 c2 c3 c4 c5 c6 c7 c8 c9 c10 c11 c12 c13
    have B1 := B0.set 8 (.int .i64 p)
    have E1 : (seenC ws i a b c t n).setIfInBounds 8 (.int .i64 p) = seenC ws (p : Int) a b c t n := rfl
    rw [E1] at B1
    have GB := Below.setCell (p := ⟨w.heap.size, 8, none⟩) GA (Nat.le_refl _) (.int .i64 p)
    have LW := Lib.hid (Nat.le_refl w.heap.size)
    have HB1 := Lib.hid B1
    have HGB := Lib.hid GB
    clear B0 E1 GA hb1 B1 GB
    generalize hbp : w.heap.size = bp at HB1 c0 c1 c2 c3 c4 c5 c6 c7 c8 c9 c10 c11 c12 c13 f8 ⊢
    go_wp2_with fail
    refine (R1.out _).mono ?_; rintro e w2 ⟨rfl, hb2⟩
    subst hbp
    have B2 := HB1.out.grows hb2
    have G2 := Grows.trans' HGB.out hb2
    generalize w.heap.size = bp at B2 ⊢
    have A1 := Has.new w2 (lC l) 65
    have G3 := Below.alloc G2 G2.size (.cells (lC l) 65)
    have B3 := B2.alloc (.cells (lC l) 65)
    clear HB1 HGB hb2 B2 f8 c0 c1 c2 c3 c4 c5 c6 c7 c8 c9 c10 c11 c12 c13
    have y0 := A1.cell 0
    go_wp2_with fail
    clear y0
    refine (HH.out _).mono ?_; rintro e w3 ⟨rfl, hb3⟩
    have A4 := A1.grows hb3
    have B4 := B3.grows hb3
    have G4 := Grows.trans' G3 hb3
    clear A1 B3 G3 hb3 G2
    have c0 := B4.cell 0
    have c1 := B4.cell 1
    have c2 := B4.cell 2
    have c3 := B4.cell 3
    have c4 := B4.cell 4
    have c5 := B4.cell 5
    have c6 := B4.cell 6
    have c7 := B4.cell 7
    have c8 := B4.cell 8
    have c9 := B4.cell 9
    have c10 := B4.cell 10
    have c11 := B4.cell 11
    have c12 := B4.cell 12
    have c13 := B4.cell 13
    unfold seenC at c0 c1 c2 c3 c4 c5 c6 c7 c8 c9 c10 c11 c12 c13
    simp only [List.getElem?_toArray, List.getElem?_cons_zero, List.getElem?_cons_succ] at c0 c1 c2 c3 c4 c5 c6 c7 c8 c9 c10 c11 c12 c13
    have D5 := Has.new w3 (seenC ws (k : Int) a b c t n) 59
    have A5 := A4.alloc (.cells (seenC ws (k : Int) a b c t n) 59)
    have B5 := B4.alloc (.cells (seenC ws (k : Int) a b c t n) 59)
    have G5 := Below.alloc G4 G4.size (.cells (seenC ws (k : Int) a b c t n) 59)
    go_wp2_with fail
    refine (R2.out _).mono ?_; rintro e w4 ⟨rfl, hb4⟩
    have A6 := (A5.grows hb4).alloc (.cells (lC m) 65)
    have B6 := (B5.grows hb4).alloc (.cells (lC m) 65)
    have D6 := Has.new w4 (lC m) 65
    have G6 := Grows.trans' G5 hb4
    have HG6 := Lib.hid (Below.alloc G6 G6.size (.cells (lC m) 65))
    have sp := (B6.cell p).trans SP.out
    have a0 := A6.cell 0
    have a1 := A6.cell 1
    have a2 := A6.cell 2
    have a3 := A6.cell 3
    have a4 := A6.cell 4
    have a5 := A6.cell 5
    have a8 := B6.cell 8
    unfold lC at a0 a1 a2 a3 a4 a5 sp a8
    unfold seenC at a8
    simp only [List.getElem?_toArray, List.getElem?_cons_zero, List.getElem?_cons_succ] at a0 a1 a2 a3 a4 a5 a8
    clear c0 c1 c2 c3 c4 c5 c6 c7 c8 c9 c10 c11 c12 c13 A4 B4 G4 D5 A5 B5 G5 A6 B6 G6 hb4 D6
    go_wp2_with fail
    go_ret
    exact ⟨rfl, HG6.out⟩
  · go_enter Try.func15, Try.ntmps15
    go_wp2_with fail
    refine (awake12_ _).mono ?_; rintro e w1 ⟨rfl, hb1⟩
    have B0 := G0.out.1.grows hb1
    have GA := Grows.trans' G0.out.2 hb1
    have f8 := B0.frozen 8
    have c0 := B0.cell 0
    have c1 := B0.cell 1
    have c2 := B0.cell 2
    have c3 := B0.cell 3
    have c4 := B0.cell 4
    have c5 := B0.cell 5
    have c6 := B0.cell 6
    have c7 := B0.cell 7
    have c8 := B0.cell 8
    have c9 := B0.cell 9
    have c10 := B0.cell 10
    have c11 := B0.cell 11
    have c12 := B0.cell 12
    have c13 := B0.cell 13
    unfold seenC at c0 c1 c2 c3 c4 c5 c6 c7 c8 c9 c10 c11 c12 c13
    simp only [List.getElem?_toArray, List.getElem?_cons_zero, List.getElem?_cons_succ] at c0 c1 c2 c3 c4 c5 c6 c7 c8 c9 c10 c11 c12 c13
    have B1 := B0.set 8 (.int .i64 p)
    have E1 : (seenC ws i a b c t n).setIfInBounds 8 (.int .i64 p) = seenC ws (p : Int) a b c t n := rfl
    rw [E1] at B1
    have GB := Below.setCell (p := ⟨w.heap.size, 8, none⟩) GA (Nat.le_refl _) (.int .i64 p)
    have LW := Lib.hid (Nat.le_refl w.heap.size)
    have HB1 := Lib.hid B1
    have HGB := Lib.hid GB
    clear B0 E1 GA hb1 B1 GB
    generalize hbp : w.heap.size = bp at HB1 c0 c1 c2 c3 c4 c5 c6 c7 c8 c9 c10 c11 c12 c13 f8 ⊢
    go_wp2_with fail
    refine (R1.out _).mono ?_; rintro e w2 ⟨rfl, hb2⟩
    subst hbp
    have B2 := HB1.out.grows hb2
    have G2 := Grows.trans' HGB.out hb2
    generalize w.heap.size = bp at B2 ⊢
    have A1 := Has.new w2 (lC l) 65
    have G3 := Below.alloc G2 G2.size (.cells (lC l) 65)
    have B3 := B2.alloc (.cells (lC l) 65)
    clear HB1 HGB hb2 B2 f8 c0 c1 c2 c3 c4 c5 c6 c7 c8 c9 c10 c11 c12 c13
    have y0 := A1.cell 0
    go_wp2_with fail
    clear y0
    refine (HH.out _).mono ?_; rintro e w3 ⟨rfl, hb3⟩
    have A4 := A1.grows hb3
    have B4 := B3.grows hb3
    have G4 := Grows.trans' G3 hb3
    clear A1 B3 G3 hb3 G2
    have c0 := B4.cell 0
    have c1 := B4.cell 1
    have c2 := B4.cell 2
    have c3 := B4.cell 3
    have c4 := B4.cell 4
    have c5 := B4.cell 5
    have c6 := B4.cell 6
    have c7 := B4.cell 7
    have c8 := B4.cell 8
    have c9 := B4.cell 9
    have c10 := B4.cell 10
    have c11 := B4.cell 11
    have c12 := B4.cell 12
    have c13 := B4.cell 13
    unfold seenC at c0 c1 c2 c3 c4 c5 c6 c7 c8 c9 c10 c11 c12 c13
    simp only [List.getElem?_toArray, List.getElem?_cons_zero, List.getElem?_cons_succ] at c0 c1 c2 c3 c4 c5 c6 c7 c8 c9 c10 c11 c12 c13
    have D5 := Has.new w3 (seenC ws (k : Int) a b c t n) 59
    have A5 := A4.alloc (.cells (seenC ws (k : Int) a b c t n) 59)
    have B5 := B4.alloc (.cells (seenC ws (k : Int) a b c t n) 59)
    have G5 := Below.alloc G4 G4.size (.cells (seenC ws (k : Int) a b c t n) 59)
    go_wp2_with fail
    refine (R2.out _).mono ?_; rintro e w4 ⟨rfl, hb4⟩
    have A6 := (A5.grows hb4).alloc (.cells (lC m) 65)
    have B6 := (B5.grows hb4).alloc (.cells (lC m) 65)
    have D6 := Has.new w4 (lC m) 65
    have G6 := Grows.trans' G5 hb4
    have HG6 := Lib.hid (Below.alloc G6 G6.size (.cells (lC m) 65))
    have sp := (B6.cell p).trans SP.out
    have a0 := A6.cell 0
    have a1 := A6.cell 1
    have a2 := A6.cell 2
    have a3 := A6.cell 3
    have a4 := A6.cell 4
    have a5 := A6.cell 5
    have a8 := B6.cell 8
    unfold lC at a0 a1 a2 a3 a4 a5 sp a8
    unfold seenC at a8
    simp only [List.getElem?_toArray, List.getElem?_cons_zero, List.getElem?_cons_succ] at a0 a1 a2 a3 a4 a5 a8
    clear c0 c1 c2 c3 c4 c5 c6 c7 c8 c9 c10 c11 c12 c13 A4 B4 G4 D5 A5 B5 G5 A6 B6 G6 hb4 D6
    go_wp2_with fail
    go_ret
    exact ⟨rfl, HG6.out⟩
  · go_enter Try.func15, Try.ntmps15
    go_wp2_with fail
    refine (awake12_ _).mono ?_; rintro e w1 ⟨rfl, hb1⟩
    have B0 := G0.out.1.grows hb1
    have GA := Grows.trans' G0.out.2 hb1
    have f8 := B0.frozen 8
    have c0 := B0.cell 0
    have c1 := B0.cell 1
    have c2 := B0.cell 2
    have c3 := B0.cell 3
    have c4 := B0.cell 4
    have c5 := B0.cell 5
    have c6 := B0.cell 6
    have c7 := B0.cell 7
    have c8 := B0.cell 8
    have c9 := B0.cell 9
    have c10 := B0.cell 10
    have c11 := B0.cell 11
    have c12 := B0.cell 12
    have c13 := B0.cell 13
    unfold seenC at c0 c1 c2 c3 c4 c5 c6 c7 c8 c9 c10 c11 c12 c13
    simp only [List.getElem?_toArray, List.getElem?_cons_zero, List.getElem?_cons_succ] at c0 c1 c2 c3 c4 c5 c6 c7 c8 c9 c10 c11 c12 c13
    have B1 := B0.set 8 (.int .i64 p)
    have E1 : (seenC ws i a b c t n).setIfInBounds 8 (.int .i64 p) = seenC ws (p : Int) a b c t n := rfl
    rw [E1] at B1
    have GB := Below.setCell (p := ⟨w.heap.size, 8, none⟩) GA (Nat.le_refl _) (.int .i64 p)
    have LW := Lib.hid (Nat.le_refl w.heap.size)
    have HB1 := Lib.hid B1
    have HGB := Lib.hid GB
    clear B0 E1 GA hb1 B1 GB
    generalize hbp : w.heap.size = bp at HB1 c0 c1 c2 c3 c4 c5 c6 c7 c8 c9 c10 c11 c12 c13 f8 ⊢
    go_wp2_with fail
    refine (R1.out _).mono ?_; rintro e w2 ⟨rfl, hb2⟩
    subst hbp
    have B2 := HB1.out.grows hb2
    have G2 := Grows.trans' HGB.out hb2
    generalize w.heap.size = bp at B2 ⊢
    have A1 := Has.new w2 (lC m) 65
    have G3 := Below.alloc G2 G2.size (.cells (lC m) 65)
    have B3 := B2.alloc (.cells (lC m) 65)
    clear HB1 HGB hb2 B2 f8 c0 c1 c2 c3 c4 c5 c6 c7 c8 c9 c10 c11 c12 c13
    have y0 := A1.cell 0
    go_wp2_with fail
    clear y0
    refine (HH.out _).mono ?_; rintro e w3 ⟨rfl, hb3⟩
    have A4 := A1.grows hb3
    have B4 := B3.grows hb3
    have G4 := Grows.trans' G3 hb3
    clear A1 B3 G3 hb3 G2
    have c0 := B4.cell 0
    have c1 := B4.cell 1
    have c2 := B4.cell 2
    have c3 := B4.cell 3
    have c4 := B4.cell 4
    have c5 := B4.cell 5
    have c6 := B4.cell 6
    have c7 := B4.cell 7
    have c8 := B4.cell 8
    have c9 := B4.cell 9
    have c10 := B4.cell 10
    have c11 := B4.cell 11
    have c12 := B4.cell 12
    have c13 := B4.cell 13
    unfold seenC at c0 c1 c2 c3 c4 c5 c6 c7 c8 c9 c10 c11 c12 c13
    simp only [List.getElem?_toArray, List.getElem?_cons_zero, List.getElem?_cons_succ] at c0 c1 c2 c3 c4 c5 c6 c7 c8 c9 c10 c11 c12 c13
    have D5 := Has.new w3 (seenC ws (k : Int) a b c t n) 59
    have A5 := A4.alloc (.cells (seenC ws (k : Int) a b c t n) 59)
    have B5 := B4.alloc (.cells (seenC ws (k : Int) a b c t n) 59)
    have G5 := Below.alloc G4 G4.size (.cells (seenC ws (k : Int) a b c t n) 59)
    go_wp2_with fail
    refine (R2.out _).mono ?_; rintro e w4 ⟨rfl, hb4⟩
    have A6 := (A5.grows hb4).alloc (.cells (lC m) 65)
    have B6 := (B5.grows hb4).alloc (.cells (lC m) 65)
    have D6 := Has.new w4 (lC m) 65
    have G6 := Grows.trans' G5 hb4
    have HG6 := Lib.hid (Below.alloc G6 G6.size (.cells (lC m) 65))
    have sp := (B6.cell p).trans SP.out
    have a0 := A6.cell 0
    have a1 := A6.cell 1
    have a2 := A6.cell 2
    have a3 := A6.cell 3
    have a4 := A6.cell 4
    have a5 := A6.cell 5
    have a8 := B6.cell 8
    unfold lC at a0 a1 a2 a3 a4 a5 sp a8
    unfold seenC at a8
    simp only [List.getElem?_toArray, List.getElem?_cons_zero, List.getElem?_cons_succ] at a0 a1 a2 a3 a4 a5 a8
    clear c0 c1 c2 c3 c4 c5 c6 c7 c8 c9 c10 c11 c12 c13 A4 B4 G4 D5 A5 B5 G5 A6 B6 G6 hb4 D6
    go_wp2_with fail
    go_ret
    exact ⟨rfl, HG6.out⟩
end Go.Proofs.Ytbifpmaofkgkfaa
