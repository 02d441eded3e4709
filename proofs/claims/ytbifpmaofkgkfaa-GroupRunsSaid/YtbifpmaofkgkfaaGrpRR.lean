/- Layer 12: the reference's Run. -/
import Derived.Test.YtbifpmaofkgkfaaGrpTog2
namespace Go.Proofs.Ytbifpmaofkgkfaa
open Go.RowKit
def seenX (w : World) (ws : Nat → Nat) (i : Int) (a b c : Bool) (t : Int) (n : Bool) : World := (w.alloc (.cells (seenC ws i a b c t n) 69)).alloc (.cells zLn 62)
theorem seenX_0 (w : World) (ws : Nat → Nat) (i : Int) (a b c : Bool) (t : Int) (n : Bool) : Has (seenX w ws i a b c t n) w.heap.size (seenC ws i a b c t n) 69 := (Has.new w _ _).alloc _
theorem seenX_1 (w : World) (ws : Nat → Nat) (i : Int) (a b c : Bool) (t : Int) (n : Bool) : Has (seenX w ws i a b c t n) (w.heap.size + 1) zLn 62 := by
  have h := Has.new (w.alloc (.cells (seenC ws i a b c t n) 69)) zLn 62
  rw [show (w.alloc (.cells (seenC ws i a b c t n) 69)).heap.size = w.heap.size + 1 by simp] at h
  exact h
theorem seenX_g (w : World) (ws : Nat → Nat) (i : Int) (a b c : Bool) (t : Int) (n : Bool) : Grows w (seenX w ws i a b c t n) := ((Below.refl _ _).alloc (Nat.le_refl _) _).alloc (by simp) _
set_option maxHeartbeats 1000000 in
theorem refrun_lo (ws : Nat → Nat) (i : Int) (a b c : Bool) (t : Int) (n : Bool) (w : World) (hi : i < 0) :
    Calls Try.prog 50 #[seenV ws i a b c t n] w fun e w' => e = .returned (lnV Ln.zero) ∧ Grows w w' := by
  have n0 : decide (i < 0) = true := decide_eq_true hi
  clear hi
  unfold seenV
  have B0 := seenX_0 w ws i a b c t n
  have B1 := Lib.hid (seenX_1 w ws i a b c t n)
  have G0 := Lib.hid (seenX_g w ws i a b c t n)
  go_enter Try.func50, Try.ntmps50
  go_wp2_with fail
  show Code.wp _ _ _ _ (seenX w ws i a b c t n)
  generalize seenX w ws i a b c t n = W at *
  have L1 := Lib.hid (show w.heap.size ≤ w.heap.size + 1 by omega)
  generalize hb1 : w.heap.size + 1 = b1 at B0 B1 L1 ⊢
  generalize hb0 : w.heap.size = b0 at B0 B1 ⊢
  clear hb1 hb0
  have q0 := fun g => B0.gcell g 0
  have q1 := fun g => B0.gcell g 1
  have q2 := fun g => B0.gcell g 2
  have q3 := fun g => B0.gcell g 3
  have q4 := fun g => B0.gcell g 4
  have q5 := fun g => B0.gcell g 5
  have q6 := fun g => B0.gcell g 6
  have q7 := fun g => B0.gcell g 7
  have q8 := fun g => B0.gcell g 8
  have q9 := fun g => B0.gcell g 9
  have q10 := fun g => B0.gcell g 10
  have q11 := fun g => B0.gcell g 11
  have q12 := fun g => B0.gcell g 12
  have q13 := fun g => B0.gcell g 13
  unfold seenC at q0 q1 q2 q3 q4 q5 q6 q7 q8 q9 q10 q11 q12 q13
  simp only [List.getElem?_toArray, List.getElem?_cons_zero, List.getElem?_cons_succ] at q0 q1 q2 q3 q4 q5 q6 q7 q8 q9 q10 q11 q12 q13
  clear B0
  refine wp_region_grow (by kernel_rfl) (by kernel_rfl) ?_
  repeat (go_big_quiet_step ((fail)))
  refine wpQuiet_nil ?_
  intro _ hw'
  obtain ⟨g, rfl⟩ := hw'
  have C1 := B1.out.grows (grows_grow W g)
  have G1 := Lib.hid (Grows.trans' G0.out (grows_grow W g))
  clear q0 q1 q2 q3 q4 q5 q6 q7 q8 q9 q10 q11 q12 q13 B1 G0
  generalize grow W g = W2 at *
  have z0 := C1.cell 0
  have e0 := C1.frozen 0
  have z1 := C1.cell 1
  have e1 := C1.frozen 1
  have z2 := C1.cell 2
  have e2 := C1.frozen 2
  have z3 := C1.cell 3
  have e3 := C1.frozen 3
  have z4 := C1.cell 4
  have e4 := C1.frozen 4
  have z5 := C1.cell 5
  have e5 := C1.frozen 5
  unfold zLn at z0 z1 z2 z3 z4 z5
  simp only [List.getElem?_toArray, List.getElem?_cons_zero, List.getElem?_cons_succ] at z0 z1 z2 z3 z4 z5
  have HF := Lib.hid (fun v0 v1 v2 v3 v4 v5 => Below.trans G1.out (below_set6 (w := W2) L1.out v0 v1 v2 v3 v4 v5))
  clear C1
  go_wp2
  refine bodyPost_ret (v := lnV Ln.zero) ?_ rfl ⟨rfl, HF.out _ _ _ _ _ _⟩
  simp [results, Try.results50, go_sem, lnV, Ln.zero, z0, z1, z2, z3, z4, z5]
set_option maxHeartbeats 1000000 in
theorem refrun_hi (ws : Nat → Nat) (i : Int) (a b c : Bool) (t : Int) (n : Bool) (w : World) (hi : ¬ i < 0) (h8 : 7 < i) :
    Calls Try.prog 50 #[seenV ws i a b c t n] w fun e w' => e = .returned (lnV Ln.zero) ∧ Grows w w' := by
  have n0 : decide (i < 0) = false := decide_eq_false hi
  have n8 : decide (7 < i) = true := decide_eq_true h8
  clear hi h8
  unfold seenV
  have B0 := seenX_0 w ws i a b c t n
  have B1 := Lib.hid (seenX_1 w ws i a b c t n)
  have G0 := Lib.hid (seenX_g w ws i a b c t n)
  go_enter Try.func50, Try.ntmps50
  go_wp2_with fail
  show Code.wp _ _ _ _ (seenX w ws i a b c t n)
  generalize seenX w ws i a b c t n = W at *
  have L1 := Lib.hid (show w.heap.size ≤ w.heap.size + 1 by omega)
  generalize hb1 : w.heap.size + 1 = b1 at B0 B1 L1 ⊢
  generalize hb0 : w.heap.size = b0 at B0 B1 ⊢
  clear hb1 hb0
  have q0 := fun g => B0.gcell g 0
  have q1 := fun g => B0.gcell g 1
  have q2 := fun g => B0.gcell g 2
  have q3 := fun g => B0.gcell g 3
  have q4 := fun g => B0.gcell g 4
  have q5 := fun g => B0.gcell g 5
  have q6 := fun g => B0.gcell g 6
  have q7 := fun g => B0.gcell g 7
  have q8 := fun g => B0.gcell g 8
  have q9 := fun g => B0.gcell g 9
  have q10 := fun g => B0.gcell g 10
  have q11 := fun g => B0.gcell g 11
  have q12 := fun g => B0.gcell g 12
  have q13 := fun g => B0.gcell g 13
  unfold seenC at q0 q1 q2 q3 q4 q5 q6 q7 q8 q9 q10 q11 q12 q13
  simp only [List.getElem?_toArray, List.getElem?_cons_zero, List.getElem?_cons_succ] at q0 q1 q2 q3 q4 q5 q6 q7 q8 q9 q10 q11 q12 q13
  clear B0
  refine wp_region_grow (by kernel_rfl) (by kernel_rfl) ?_
  repeat (go_big_quiet_step ((fail)))
  refine wpQuiet_nil ?_
  intro _ hw'
  obtain ⟨g, rfl⟩ := hw'
  have C1 := B1.out.grows (grows_grow W g)
  have G1 := Lib.hid (Grows.trans' G0.out (grows_grow W g))
  clear q0 q1 q2 q3 q4 q5 q6 q7 q8 q9 q10 q11 q12 q13 B1 G0
  generalize grow W g = W2 at *
  have z0 := C1.cell 0
  have e0 := C1.frozen 0
  have z1 := C1.cell 1
  have e1 := C1.frozen 1
  have z2 := C1.cell 2
  have e2 := C1.frozen 2
  have z3 := C1.cell 3
  have e3 := C1.frozen 3
  have z4 := C1.cell 4
  have e4 := C1.frozen 4
  have z5 := C1.cell 5
  have e5 := C1.frozen 5
  unfold zLn at z0 z1 z2 z3 z4 z5
  simp only [List.getElem?_toArray, List.getElem?_cons_zero, List.getElem?_cons_succ] at z0 z1 z2 z3 z4 z5
  have HF := Lib.hid (fun v0 v1 v2 v3 v4 v5 => Below.trans G1.out (below_set6 (w := W2) L1.out v0 v1 v2 v3 v4 v5))
  clear C1
  go_wp2
  refine bodyPost_ret (v := lnV Ln.zero) ?_ rfl ⟨rfl, HF.out _ _ _ _ _ _⟩
  simp [results, Try.results50, go_sem, lnV, Ln.zero, z0, z1, z2, z3, z4, z5]
set_option maxHeartbeats 1000000 in
theorem refrun_not (ws : Nat → Nat) (i : Nat) (a b c : Bool) (t : Int) (n : Bool) (w : World) (hi : i < 8) (hw : ∀ j, ws j < 18446744073709551616) (hm : mayB (ws i) t n = false) :
    Calls Try.prog 50 #[seenV ws i a b c t n] w fun e w' => e = .returned (lnV Ln.zero) ∧ Grows w w' := by
  have M := Lib.hid (fun w => refmay_ (y := ws i) rfl ws (i : Int) a b c t n w (hw i))
  rw [hm] at M
  unfold seenV at M
  have SG := Lib.hid (fun j h => seenC_get ws (i : Int) a b c t n (j := j) h)
  have HI := Lib.hid hi
  have i0 : (0 : Int) ≤ (i : Int) := by omega
  have i8 : (i : Int) < 8 := by omega
  have n8 : decide ((7 : Int) < (i : Int)) = false := by rw [decide_eq_false_iff_not]; omega
  have n0 : decide ((i : Int) < 0) = false := by rw [decide_eq_false_iff_not]; omega
  unfold seenV
  have B0 := seenX_0 w ws i a b c t n
  have B1 := Lib.hid (seenX_1 w ws i a b c t n)
  have G0 := Lib.hid (seenX_g w ws i a b c t n)
  go_enter Try.func50, Try.ntmps50
  go_wp2_with fail
  show Code.wp _ _ _ _ (seenX w ws i a b c t n)
  generalize seenX w ws i a b c t n = W at *
  have L1 := Lib.hid (show w.heap.size ≤ w.heap.size + 1 by omega)
  generalize hb1 : w.heap.size + 1 = b1 at B0 B1 L1 ⊢
  generalize hb0 : w.heap.size = b0 at B0 B1 ⊢
  clear hb1 hb0
  have qi := fun g => (B0.gcell g i).trans (SG.out i HI.out)
  have q0 := fun g => B0.gcell g 0
  have q1 := fun g => B0.gcell g 1
  have q2 := fun g => B0.gcell g 2
  have q3 := fun g => B0.gcell g 3
  have q4 := fun g => B0.gcell g 4
  have q5 := fun g => B0.gcell g 5
  have q6 := fun g => B0.gcell g 6
  have q7 := fun g => B0.gcell g 7
  have q8 := fun g => B0.gcell g 8
  have q9 := fun g => B0.gcell g 9
  have q10 := fun g => B0.gcell g 10
  have q11 := fun g => B0.gcell g 11
  have q12 := fun g => B0.gcell g 12
  have q13 := fun g => B0.gcell g 13
  unfold seenC at q0 q1 q2 q3 q4 q5 q6 q7 q8 q9 q10 q11 q12 q13
  simp only [List.getElem?_toArray, List.getElem?_cons_zero, List.getElem?_cons_succ] at q0 q1 q2 q3 q4 q5 q6 q7 q8 q9 q10 q11 q12 q13
  clear B0
  refine wp_region_grow (by kernel_rfl) (by kernel_rfl) ?_
  repeat (go_big_quiet_step ((go_at_call 78; exact quiet_grows (M.out _))))
  refine wpQuiet_nil ?_
  intro _ hw'
  obtain ⟨g, rfl⟩ := hw'
  have C1 := B1.out.grows (grows_grow W g)
  have G1 := Lib.hid (Grows.trans' G0.out (grows_grow W g))
  clear q0 q1 q2 q3 q4 q5 q6 q7 q8 q9 q10 q11 q12 q13 B1 G0
  clear qi
  generalize grow W g = W2 at *
  have z0 := C1.cell 0
  have e0 := C1.frozen 0
  have z1 := C1.cell 1
  have e1 := C1.frozen 1
  have z2 := C1.cell 2
  have e2 := C1.frozen 2
  have z3 := C1.cell 3
  have e3 := C1.frozen 3
  have z4 := C1.cell 4
  have e4 := C1.frozen 4
  have z5 := C1.cell 5
  have e5 := C1.frozen 5
  unfold zLn at z0 z1 z2 z3 z4 z5
  simp only [List.getElem?_toArray, List.getElem?_cons_zero, List.getElem?_cons_succ] at z0 z1 z2 z3 z4 z5
  have HF := Lib.hid (fun v0 v1 v2 v3 v4 v5 => Below.trans G1.out (below_set6 (w := W2) L1.out v0 v1 v2 v3 v4 v5))
  clear C1
  go_wp2
  refine bodyPost_ret (v := lnV Ln.zero) ?_ rfl ⟨rfl, HF.out _ _ _ _ _ _⟩
  simp [results, Try.results50, go_sem, lnV, Ln.zero, z0, z1, z2, z3, z4, z5]
set_option maxHeartbeats 4000000 in
set_option maxRecDepth 100000 in
theorem refrun_yes (ws : Nat → Nat) (i : Nat) (a b c : Bool) (t : Int) (n : Bool) (w : World) (hi : i < 8) (hw : ∀ j, ws j < 18446744073709551616) (hm : mayB (ws i) t n = true) :
    Calls Try.prog 50 #[seenV ws i a b c t n] w fun e w' => e = .returned (lnV (runL ws i a b c t n)) ∧ Grows w w' := by
  have M := Lib.hid (fun w => refmay_ (y := ws i) rfl ws (i : Int) a b c t n w (hw i))
  rw [hm] at M
  have R := Lib.hid (fun w => refand_ (y := ws i) rfl a b c w (hw i))
  have TT := Lib.hid (fun k hk w => tog_ ws i a b c t n k w hw hi hk)
  have B6 := Lib.hid (fun w => bit_at (a := ws i) (x := ((ws i : Nat) : Int)) (y := 6) (i := 6) rfl rfl (hw i) w (by omega))
  have T := Lib.hid (fun w => reftable_ (a := ws i) rfl w (hw i))
  unfold seenV at M TT ⊢
  have B0 := seenX_0 w ws i a b c t n
  have B1 := Lib.hid (seenX_1 w ws i a b c t n)
  have G0 := Lib.hid (seenX_g w ws i a b c t n)
  have SG := Lib.hid (fun j h => seenC_get ws (i : Int) a b c t n (j := j) h)
  have HI := Lib.hid hi
  have EF := fr_run (ws i) i hi
  have EF2 : IntKind.u64.wrap (((tab (ws i) : Nat) : Int) - 4096 * ((i : Nat) : Int)) = ((frN (ws i) i : Nat) : Int) := by have := tab_lt (ws i); rw [IntKind.wrap_u64]; unfold frN; omega
  have EM : IntKind.u8.wrap ((gm (togB ws i t n) 8 : Nat) : Int) = ((gm (togB ws i t n) 8 : Nat) : Int) := by have := gm_lt (togB ws i t n) 8; rw [IntKind.wrap_u8]; omega
  have HEF := Lib.hid EF
  have HEF2 := Lib.hid EF2
  have HEM := Lib.hid EM
  clear EF EF2 EM
  go_enter Try.func50, Try.ntmps50
  go_wp2_with fail
  show Code.wp _ _ _ _ (seenX w ws i a b c t n)
  generalize seenX w ws i a b c t n = W at *
  have L1 := Lib.hid (show w.heap.size ≤ w.heap.size + 1 by omega)
  generalize hb1 : w.heap.size + 1 = b1 at B0 B1 L1 ⊢
  generalize hb0 : w.heap.size = b0 at B0 B1 ⊢
  clear hb1 hb0
  have qi := fun g => (B0.gcell g i).trans (SG.out i HI.out)
  have q0 := fun g => B0.gcell g 0
  have q1 := fun g => B0.gcell g 1
  have q2 := fun g => B0.gcell g 2
  have q3 := fun g => B0.gcell g 3
  have q4 := fun g => B0.gcell g 4
  have q5 := fun g => B0.gcell g 5
  have q6 := fun g => B0.gcell g 6
  have q7 := fun g => B0.gcell g 7
  have q8 := fun g => B0.gcell g 8
  have q9 := fun g => B0.gcell g 9
  have q10 := fun g => B0.gcell g 10
  have q11 := fun g => B0.gcell g 11
  have q12 := fun g => B0.gcell g 12
  have q13 := fun g => B0.gcell g 13
  have HB0 := Lib.hid B0
  unfold seenC at q0 q1 q2 q3 q4 q5 q6 q7 q8 q9 q10 q11 q12 q13
  simp only [List.getElem?_toArray, List.getElem?_cons_zero, List.getElem?_cons_succ] at q0 q1 q2 q3 q4 q5 q6 q7 q8 q9 q10 q11 q12 q13
  clear B0
  have i0 : (0 : Int) ≤ (i : Int) := by omega
  have i8 : (i : Int) < 8 := by omega
  have n8 : decide ((7 : Int) < (i : Int)) = false := by rw [decide_eq_false_iff_not]; omega
  have n0 : decide ((i : Int) < 0) = false := by rw [decide_eq_false_iff_not]; omega
  refine wp_region_grow (by kernel_rfl) (by kernel_rfl) ?_
  repeat (go_big_quiet_step ((go_at_call 78; exact quiet_grows (M.out _))))
  refine wpQuiet_nil ?_
  intro _ hw'
  obtain ⟨g, rfl⟩ := hw'
  clear q0 q1 q2 q3 q4 q5 q6 q7 q8 q9 q10 q11 q12 q13 qi
  have P0 := HB0.out.grows (grows_grow W g)
  have P1 := B1.out.grows (grows_grow W g)
  have P2 := Grows.trans' G0.out (grows_grow W g)
  clear HB0 B1 G0
  generalize grow W g = W2 at *
  have c8 := P0.cell 8
  have ci := (P0.cell i).trans (SG.out i HI.out)
  unfold seenC at c8
  simp only [List.getElem?_toArray, List.getElem?_cons_zero, List.getElem?_cons_succ] at c8
  have HP := Lib.hid (And.intro P0 (And.intro P1 P2))
  clear P0 P1 P2
  go_wp2_with fail
  clear c8 ci
  go_loopw [4, 5] (fun m v wr => ∃ k : Nat, k ≤ 8 ∧ v = .int .i64 k ∧ m = .int .u64 ((gm (togB ws i t n) k : Nat) : Int) ∧ Hid (Has wr b0 (seenC ws (i : Int) a b c t n) 69 ∧ Has wr b1 zLn 62 ∧ Grows w wr)) (fun _ v _ => 8 - (intOf v).toNat)
  case atStart => exact ⟨0, by omega, rfl, rfl, HP⟩
  case round =>
    obtain ⟨k, hk, rfl, rfl, hr⟩ := hrel
    by_cases hlt : k < 8
    · have k0 : (0 : Int) ≤ (k : Int) := by omega
      have k8 : (k : Int) < 8 := by omega
      have TK := Lib.hid (TT.out k hlt)
      have PW := Lib.hid (fun w => power_ k w (by omega) (x := (k : Int)) rfl)
      have q0 := hr.out.1.cell 0
      have q1 := hr.out.1.cell 1
      have q2 := hr.out.1.cell 2
      have q3 := hr.out.1.cell 3
      have q4 := hr.out.1.cell 4
      have q5 := hr.out.1.cell 5
      have q6 := hr.out.1.cell 6
      have q7 := hr.out.1.cell 7
      have q8 := hr.out.1.cell 8
      have q9 := hr.out.1.cell 9
      have q10 := hr.out.1.cell 10
      have q11 := hr.out.1.cell 11
      have q12 := hr.out.1.cell 12
      have q13 := hr.out.1.cell 13
      unfold seenC at q0 q1 q2 q3 q4 q5 q6 q7 q8 q9 q10 q11 q12 q13
      simp only [List.getElem?_toArray, List.getElem?_cons_zero, List.getElem?_cons_succ] at q0 q1 q2 q3 q4 q5 q6 q7 q8 q9 q10 q11 q12 q13
      have GK : gm (togB ws i t n) (k + 1) = if togB ws i t n k then gm (togB ws i t n) k ||| 2 ^ k else gm (togB ws i t n) k := rfl
      have AD : IntKind.u64.wrap (((gm (togB ws i t n) k : Nat) : Int) + ((p2 k : Nat) : Int)) = ((gm (togB ws i t n) k ||| 2 ^ k : Nat) : Int) := by
        have h1 := gm_lt (togB ws i t n) k
        have h2 : (2 : Nat) ^ k < 2 ^ 8 := Nat.pow_lt_pow_right (by decide) hlt
        rw [← gm_add, IntKind.wrap_u64]
        show (((gm (togB ws i t n) k : Nat) : Int) + ((2 ^ k : Nat) : Int)) % _ = _
        omega
      generalize gm (togB ws i t n) k ||| 2 ^ k = g2 at GK AD
      have HGK := Lib.hid GK
      clear GK hk
      generalize p2 k = pk at PW AD
      cases htg : togB ws i t n k with
      | false =>
        rw [htg] at TK
        go_wp2_with fail
        refine (TK.out _).mono ?_; rintro e w4 ⟨rfl, hb4⟩
        clear q0 q1 q2 q3 q4 q5 q6 q7 q8 q9 q10 q11 q12 q13
        have HN := Lib.hid (And.intro (hr.out.1.grows hb4) (And.intro (hr.out.2.1.grows hb4) (Grows.trans' hr.out.2.2 hb4)))
        clear hb4
        go_wp2_with fail
        go_roundw
        case rel => exact ⟨k + 1, by omega, by go_num, by rw [HGK.out, htg]; rfl, HN⟩
        case measure => simp [intOf]; omega
      | true =>
        rw [htg] at TK
        go_wp2_with fail
        refine (TK.out _).mono ?_; rintro e w4 ⟨rfl, hb4⟩
        clear q0 q1 q2 q3 q4 q5 q6 q7 q8 q9 q10 q11 q12 q13
        have HN := Lib.hid (And.intro (hr.out.1.grows hb4) (And.intro (hr.out.2.1.grows hb4) (Grows.trans' hr.out.2.2 hb4)))
        clear hb4
        go_wp2_with (go_at_call 70; refine (PW.out _).mono ?_; rintro e w' ⟨rfl, rfl⟩)
        go_roundw
        case rel => exact ⟨k + 1, by omega, by go_num, by rw [HGK.out, htg]; rfl, HN⟩
        case measure => simp [intOf]; omega
    · obtain rfl : k = 8 := by omega
      have q8 := fun g => hr.out.1.gcell g 8
      have q9 := fun g => hr.out.1.gcell g 9
      have q10 := fun g => hr.out.1.gcell g 10
      have q11 := fun g => hr.out.1.gcell g 11
      unfold seenC at q8 q9 q10 q11
      simp only [List.getElem?_toArray, List.getElem?_cons_zero, List.getElem?_cons_succ] at q8 q9 q10 q11
      have EF := HEF.out
      have EF2 := HEF2.out
      have EM := HEM.out
      go_wp2_with fail
      refine wp_region_grow_tail 16 (by kernel_rfl) (by kernel_rfl) ?_
      simp only [List.take_succ_cons, List.take_zero, List.drop_succ_cons, List.drop_zero]
      repeat (go_big_quiet_step ((first | (go_at_call 53; exact quiet_same (T.out _)) | (go_at_call 80; exact quiet_grows (R.out _)) | (go_at_call 67; exact quiet_same (B6.out _)))))
      refine wpQuiet_nil ?_
      intro _ hw'
      obtain ⟨g, rfl⟩ := hw'
      have C1 := hr.out.2.1.grows (grows_grow wr g)
      have G1 := Lib.hid (Grows.trans' hr.out.2.2 (grows_grow wr g))
      clear q8 q9 q10 q11
      generalize grow wr g = W5 at *
      have z0 := C1.cell 0
      have e0 := C1.frozen 0
      have z1 := C1.cell 1
      have e1 := C1.frozen 1
      have z2 := C1.cell 2
      have e2 := C1.frozen 2
      have z3 := C1.cell 3
      have e3 := C1.frozen 3
      have z4 := C1.cell 4
      have e4 := C1.frozen 4
      have z5 := C1.cell 5
      have e5 := C1.frozen 5
      unfold zLn at z0 z1 z2 z3 z4 z5
      simp only [List.getElem?_toArray, List.getElem?_cons_zero, List.getElem?_cons_succ] at z0 z1 z2 z3 z4 z5
      have HF := Lib.hid (fun v0 v1 v2 v3 v4 v5 => Below.trans G1.out (below_set6 (w := W5) L1.out v0 v1 v2 v3 v4 v5))
      clear C1
      go_wp2
      refine bodyPost_ret (v := .agg #[.int .u64 ((frN (ws i) i : Nat) : Int), .bool (a && (ws i).testBit 1), .bool (b && (ws i).testBit 2), .bool (c && !(ws i).testBit 63), .bool ((ws i).testBit 6), .int .u8 ((gm (togB ws i t n) 8 : Nat) : Int)]) ?_ rfl ⟨rfl, HF.out _ _ _ _ _ _⟩
      simp [results, Try.results50, go_sem, z0, z1, z2, z3, z4, z5]
theorem refrun_ (ws : Nat → Nat) (i : Int) (a b c : Bool) (t : Int) (n : Bool) (w : World) (hw : ∀ j, ws j < 18446744073709551616) :
    Calls Try.prog 50 #[seenV ws i a b c t n] w fun e w' => e = .returned (lnV (runN ws i a b c t n)) ∧ Grows w w' := by
  by_cases h0 : i < 0
  · rw [show runN ws i a b c t n = Ln.zero by unfold runN runOk; rw [decide_eq_false (by omega : ¬ 0 ≤ i)]; rfl]
    exact refrun_lo ws i a b c t n w h0
  · by_cases h8 : 8 ≤ i
    · rw [show runN ws i a b c t n = Ln.zero by unfold runN runOk; rw [decide_eq_false (by omega : ¬ i < 8), Bool.false_and, Bool.and_false]; rfl]
      exact refrun_hi ws i a b c t n w h0 (by omega)
    · obtain ⟨k, rfl⟩ : ∃ k : Nat, i = k := ⟨i.toNat, by omega⟩
      cases hm : mayB (ws k) t n with
      | true =>
        rw [show runN ws (k : Int) a b c t n = runL ws k a b c t n by unfold runN runOk; rw [decide_eq_true (by omega : 0 ≤ (k : Int)), decide_eq_true (by omega : (k : Int) < 8), Int.toNat_natCast, hm]; rfl]
        exact refrun_yes ws k a b c t n w (by omega) hw hm
      | false =>
        rw [show runN ws (k : Int) a b c t n = Ln.zero by unfold runN runOk; rw [Int.toNat_natCast, hm, Bool.and_false, Bool.and_false]; rfl]
        exact refrun_not ws k a b c t n w (by omega) hw hm
end Go.Proofs.Ytbifpmaofkgkfaa
