/- Layer 12: group.Run where there is none. Printed by gen_run_no.py. -/
import Derived.Test.YtbifpmaofkgkfaaGrpRun
namespace Go.Proofs.Ytbifpmaofkgkfaa
open Go.RowKit
set_option maxHeartbeats 1000000 in
theorem run_lo (ws : Nat → Nat) (i : Int) (a b c : Bool) (t : Int) (n : Bool) (w : World) (hi : i < 0) :
    Calls Try.prog 49 #[seenV ws i a b c t n] w fun e w' => e = .returned (lnV Ln.zero) ∧ Grows w w' := by
  have n0 : decide (i < 0) = true := decide_eq_true hi
  clear hi
  unfold seenV
  have B0 := seenW_0 w ws i a b c t n
  have B1 := Lib.hid (seenW_1 w ws i a b c t n)
  have G0 := Lib.hid (seenW_g w ws i a b c t n)
  go_enter Try.func49, Try.ntmps49
  go_wp2_with fail
  show Code.wp _ _ _ _ (seenW w ws i a b c t n)
  generalize seenW w ws i a b c t n = W at *
  have L1 := Lib.hid (show w.heap.size ≤ w.heap.size + 1 by omega)
  generalize hb1 : w.heap.size + 1 = b1 at B0 B1 L1 ⊢
  generalize hb0 : w.heap.size = b0 at B0 B1 ⊢
  clear hb1 hb0
  have q0 := fun g => B0.gcell g 0
  have q1 := fun g => B0.gcell g 1
  have q2 := fun g => B0.gcell g 2
  have q3 := fun g => B0.gcell g 3
  have q4 := fun g => B0.gcell g 4
  have q5 := fun g => B0.gcell g 5
  have q6 := fun g => B0.gcell g 6
  have q7 := fun g => B0.gcell g 7
  have q8 := fun g => B0.gcell g 8
  have q9 := fun g => B0.gcell g 9
  have q10 := fun g => B0.gcell g 10
  have q11 := fun g => B0.gcell g 11
  have q12 := fun g => B0.gcell g 12
  have q13 := fun g => B0.gcell g 13
  unfold seenC at q0 q1 q2 q3 q4 q5 q6 q7 q8 q9 q10 q11 q12 q13
  simp only [List.getElem?_toArray, List.getElem?_cons_zero, List.getElem?_cons_succ] at q0 q1 q2 q3 q4 q5 q6 q7 q8 q9 q10 q11 q12 q13
  clear B0
  refine wp_region_grow (by kernel_rfl) (by kernel_rfl) ?_
  repeat (go_big_quiet_step ((fail)))
  refine wpQuiet_nil ?_
  intro _ hw'
  obtain ⟨g, rfl⟩ := hw'
  have C1 := B1.out.grows (grows_grow W g)
  have G1 := Lib.hid (Grows.trans' G0.out (grows_grow W g))
  clear q0 q1 q2 q3 q4 q5 q6 q7 q8 q9 q10 q11 q12 q13 B1 G0
  generalize grow W g = W2 at *
  have z0 := C1.cell 0
  have e0 := C1.frozen 0
  have z1 := C1.cell 1
  have e1 := C1.frozen 1
  have z2 := C1.cell 2
  have e2 := C1.frozen 2
  have z3 := C1.cell 3
  have e3 := C1.frozen 3
  have z4 := C1.cell 4
  have e4 := C1.frozen 4
  have z5 := C1.cell 5
  have e5 := C1.frozen 5
  unfold zLn at z0 z1 z2 z3 z4 z5
  simp only [List.getElem?_toArray, List.getElem?_cons_zero, List.getElem?_cons_succ] at z0 z1 z2 z3 z4 z5
  have HF := Lib.hid (fun v0 v1 v2 v3 v4 v5 => Below.trans G1.out (below_set6 (w := W2) L1.out v0 v1 v2 v3 v4 v5))
  clear C1
  go_wp2
  refine bodyPost_ret (v := lnV Ln.zero) ?_ rfl ⟨rfl, HF.out _ _ _ _ _ _⟩
  simp [results, Try.results49, go_sem, lnV, Ln.zero, z0, z1, z2, z3, z4, z5]
set_option maxHeartbeats 1000000 in
theorem run_hi (ws : Nat → Nat) (i : Int) (a b c : Bool) (t : Int) (n : Bool) (w : World) (hi : ¬ i < 0) (h8 : 8 ≤ i) :
    Calls Try.prog 49 #[seenV ws i a b c t n] w fun e w' => e = .returned (lnV Ln.zero) ∧ Grows w w' := by
  have n0 : decide (i < 0) = false := decide_eq_false hi
  have n8 : decide (8 ≤ i) = true := decide_eq_true h8
  clear hi h8
  unfold seenV
  have B0 := seenW_0 w ws i a b c t n
  have B1 := Lib.hid (seenW_1 w ws i a b c t n)
  have G0 := Lib.hid (seenW_g w ws i a b c t n)
  go_enter Try.func49, Try.ntmps49
  go_wp2_with fail
  show Code.wp _ _ _ _ (seenW w ws i a b c t n)
  generalize seenW w ws i a b c t n = W at *
  have L1 := Lib.hid (show w.heap.size ≤ w.heap.size + 1 by omega)
  generalize hb1 : w.heap.size + 1 = b1 at B0 B1 L1 ⊢
  generalize hb0 : w.heap.size = b0 at B0 B1 ⊢
  clear hb1 hb0
  have q0 := fun g => B0.gcell g 0
  have q1 := fun g => B0.gcell g 1
  have q2 := fun g => B0.gcell g 2
  have q3 := fun g => B0.gcell g 3
  have q4 := fun g => B0.gcell g 4
  have q5 := fun g => B0.gcell g 5
  have q6 := fun g => B0.gcell g 6
  have q7 := fun g => B0.gcell g 7
  have q8 := fun g => B0.gcell g 8
  have q9 := fun g => B0.gcell g 9
  have q10 := fun g => B0.gcell g 10
  have q11 := fun g => B0.gcell g 11
  have q12 := fun g => B0.gcell g 12
  have q13 := fun g => B0.gcell g 13
  unfold seenC at q0 q1 q2 q3 q4 q5 q6 q7 q8 q9 q10 q11 q12 q13
  simp only [List.getElem?_toArray, List.getElem?_cons_zero, List.getElem?_cons_succ] at q0 q1 q2 q3 q4 q5 q6 q7 q8 q9 q10 q11 q12 q13
  clear B0
  refine wp_region_grow (by kernel_rfl) (by kernel_rfl) ?_
  repeat (go_big_quiet_step ((fail)))
  refine wpQuiet_nil ?_
  intro _ hw'
  obtain ⟨g, rfl⟩ := hw'
  have C1 := B1.out.grows (grows_grow W g)
  have G1 := Lib.hid (Grows.trans' G0.out (grows_grow W g))
  clear q0 q1 q2 q3 q4 q5 q6 q7 q8 q9 q10 q11 q12 q13 B1 G0
  generalize grow W g = W2 at *
  have z0 := C1.cell 0
  have e0 := C1.frozen 0
  have z1 := C1.cell 1
  have e1 := C1.frozen 1
  have z2 := C1.cell 2
  have e2 := C1.frozen 2
  have z3 := C1.cell 3
  have e3 := C1.frozen 3
  have z4 := C1.cell 4
  have e4 := C1.frozen 4
  have z5 := C1.cell 5
  have e5 := C1.frozen 5
  unfold zLn at z0 z1 z2 z3 z4 z5
  simp only [List.getElem?_toArray, List.getElem?_cons_zero, List.getElem?_cons_succ] at z0 z1 z2 z3 z4 z5
  have HF := Lib.hid (fun v0 v1 v2 v3 v4 v5 => Below.trans G1.out (below_set6 (w := W2) L1.out v0 v1 v2 v3 v4 v5))
  clear C1
  go_wp2
  refine bodyPost_ret (v := lnV Ln.zero) ?_ rfl ⟨rfl, HF.out _ _ _ _ _ _⟩
  simp [results, Try.results49, go_sem, lnV, Ln.zero, z0, z1, z2, z3, z4, z5]
set_option maxHeartbeats 1000000 in
theorem run_not (ws : Nat → Nat) (i : Nat) (a b c : Bool) (t : Int) (n : Bool) (w : World) (hi : i < 8) (hw : ∀ j, ws j < 18446744073709551616) (hm : mayB (ws i) t n = false) :
    Calls Try.prog 49 #[seenV ws i a b c t n] w fun e w' => e = .returned (lnV Ln.zero) ∧ Grows w w' := by
  have M := Lib.hid (fun w => may_ (y := ws i) rfl ws (i : Int) a b c t n w (hw i))
  rw [hm] at M
  unfold seenV at M
  have SG := Lib.hid (fun j h => seenC_get ws (i : Int) a b c t n (j := j) h)
  have HI := Lib.hid hi
  have i0 : (0 : Int) ≤ (i : Int) := by omega
  have i8 : (i : Int) < 8 := by omega
  have n8 : decide ((8 : Int) ≤ (i : Int)) = false := by rw [decide_eq_false_iff_not]; omega
  have n0 : decide ((i : Int) < 0) = false := by rw [decide_eq_false_iff_not]; omega
  unfold seenV
  have B0 := seenW_0 w ws i a b c t n
  have B1 := Lib.hid (seenW_1 w ws i a b c t n)
  have G0 := Lib.hid (seenW_g w ws i a b c t n)
  go_enter Try.func49, Try.ntmps49
  go_wp2_with fail
  show Code.wp _ _ _ _ (seenW w ws i a b c t n)
  generalize seenW w ws i a b c t n = W at *
  have L1 := Lib.hid (show w.heap.size ≤ w.heap.size + 1 by omega)
  generalize hb1 : w.heap.size + 1 = b1 at B0 B1 L1 ⊢
  generalize hb0 : w.heap.size = b0 at B0 B1 ⊢
  clear hb1 hb0
  have qi := fun g => (B0.gcell g i).trans (SG.out i HI.out)
  have q0 := fun g => B0.gcell g 0
  have q1 := fun g => B0.gcell g 1
  have q2 := fun g => B0.gcell g 2
  have q3 := fun g => B0.gcell g 3
  have q4 := fun g => B0.gcell g 4
  have q5 := fun g => B0.gcell g 5
  have q6 := fun g => B0.gcell g 6
  have q7 := fun g => B0.gcell g 7
  have q8 := fun g => B0.gcell g 8
  have q9 := fun g => B0.gcell g 9
  have q10 := fun g => B0.gcell g 10
  have q11 := fun g => B0.gcell g 11
  have q12 := fun g => B0.gcell g 12
  have q13 := fun g => B0.gcell g 13
  unfold seenC at q0 q1 q2 q3 q4 q5 q6 q7 q8 q9 q10 q11 q12 q13
  simp only [List.getElem?_toArray, List.getElem?_cons_zero, List.getElem?_cons_succ] at q0 q1 q2 q3 q4 q5 q6 q7 q8 q9 q10 q11 q12 q13
  clear B0
  refine wp_region_grow (by kernel_rfl) (by kernel_rfl) ?_
  repeat (go_big_quiet_step ((go_at_call 77; exact quiet_grows (M.out _))))
  refine wpQuiet_nil ?_
  intro _ hw'
  obtain ⟨g, rfl⟩ := hw'
  have C1 := B1.out.grows (grows_grow W g)
  have G1 := Lib.hid (Grows.trans' G0.out (grows_grow W g))
  clear q0 q1 q2 q3 q4 q5 q6 q7 q8 q9 q10 q11 q12 q13 B1 G0
  clear qi
  generalize grow W g = W2 at *
  have z0 := C1.cell 0
  have e0 := C1.frozen 0
  have z1 := C1.cell 1
  have e1 := C1.frozen 1
  have z2 := C1.cell 2
  have e2 := C1.frozen 2
  have z3 := C1.cell 3
  have e3 := C1.frozen 3
  have z4 := C1.cell 4
  have e4 := C1.frozen 4
  have z5 := C1.cell 5
  have e5 := C1.frozen 5
  unfold zLn at z0 z1 z2 z3 z4 z5
  simp only [List.getElem?_toArray, List.getElem?_cons_zero, List.getElem?_cons_succ] at z0 z1 z2 z3 z4 z5
  have HF := Lib.hid (fun v0 v1 v2 v3 v4 v5 => Below.trans G1.out (below_set6 (w := W2) L1.out v0 v1 v2 v3 v4 v5))
  clear C1
  go_wp2
  refine bodyPost_ret (v := lnV Ln.zero) ?_ rfl ⟨rfl, HF.out _ _ _ _ _ _⟩
  simp [results, Try.results49, go_sem, lnV, Ln.zero, z0, z1, z2, z3, z4, z5]
theorem run_ (ws : Nat → Nat) (i : Int) (a b c : Bool) (t : Int) (n : Bool) (w : World) (hw : ∀ j, ws j < 18446744073709551616) :
    Calls Try.prog 49 #[seenV ws i a b c t n] w fun e w' => e = .returned (lnV (runN ws i a b c t n)) ∧ Grows w w' := by
  by_cases h0 : i < 0
  · rw [show runN ws i a b c t n = Ln.zero by unfold runN runOk; rw [decide_eq_false (by omega : ¬ 0 ≤ i)]; rfl]
    exact run_lo ws i a b c t n w h0
  · by_cases h8 : 8 ≤ i
    · rw [show runN ws i a b c t n = Ln.zero by unfold runN runOk; rw [decide_eq_false (by omega : ¬ i < 8), Bool.false_and, Bool.and_false]; rfl]
      exact run_hi ws i a b c t n w h0 h8
    · obtain ⟨k, rfl⟩ : ∃ k : Nat, i = k := ⟨i.toNat, by omega⟩
      cases hm : mayB (ws k) t n with
      | true =>
        rw [show runN ws (k : Int) a b c t n = runL ws k a b c t n by unfold runN runOk; rw [decide_eq_true (by omega : 0 ≤ (k : Int)), decide_eq_true (by omega : (k : Int) < 8), Int.toNat_natCast, hm]; rfl]
        exact run_yes ws k a b c t n w (by omega) hw hm
      | false =>
        rw [show runN ws (k : Int) a b c t n = Ln.zero by unfold runN runOk; rw [Int.toNat_natCast, hm, Bool.and_false, Bool.and_false]; rfl]
        exact run_not ws k a b c t n w (by omega) hw hm
def ws0 (j : Nat) : Nat := if j = 0 then 32807 else if j = 1 then 36903 else if j = 2 then 45095 else 0
theorem ws0_lt (j : Nat) : ws0 j < 18446744073709551616 := by unfold ws0; (repeat' split) <;> omega
theorem run0_ (w : World) : Calls Try.prog 49 #[.agg #[.int .u64 32807, .int .u64 36903, .int .u64 45095, .int .u64 0, .int .u64 0, .int .u64 0, .int .u64 0, .int .u64 0, .int .i64 0, .bool true, .bool true, .bool true, .int .i64 20, .bool true]] w fun e w' =>
    e = .returned (.agg #[.int .u64 32768, .bool true, .bool true, .bool true, .bool false, .int .u8 3]) ∧ Grows w w' := by
  have h := run_ ws0 0 true true true 20 true w ws0_lt
  rw [show lnV (runN ws0 0 true true true 20 true) = .agg #[.int .u64 32768, .bool true, .bool true, .bool true, .bool false, .int .u8 3] by kernel_rfl] at h
  exact h
end Go.Proofs.Ytbifpmaofkgkfaa
