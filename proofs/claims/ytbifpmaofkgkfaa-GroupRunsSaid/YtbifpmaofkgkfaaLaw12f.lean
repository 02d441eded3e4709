/- The laws of layer 12: GroupRuns. -/
import Derived.Test.YtbifpmaofkgkfaaGrpRR
namespace Go.Proofs.Ytbifpmaofkgkfaa
open Go.RowKit
set_option maxHeartbeats 4000000 in
set_option maxRecDepth 100000 in
theorem groupRuns_ (ws : Nat → Nat) (i : Int) (a b c : Bool) (t : Int) (n : Bool) (w : World) (hw : ∀ j, ws j < 18446744073709551616) :
    Calls Try.prog 13 #[seenV ws i a b c t n] w fun e w' => e = .returned (.bool true) ∧ Grows w w' := by
  have G0 := Lib.hid (seenW0 w ws i a b c t n)
  have R1 := Lib.hid (fun w => run_ ws i a b c t n w hw)
  have R2 := Lib.hid (fun w => refrun_ ws i a b c t n w hw)
  have LN := Lib.hid (fun w => lined_ (runN ws i a b c t n) w)
  have SE := Lib.hid (fun w => seen_ ws i a b c t n w)
  generalize runN ws i a b c t n = l at *
  unfold seenV at R1 R2 SE ⊢
  unfold lnV at R1 R2 LN
  go_enter Try.func13, Try.ntmps13
  go_wp2_with fail
  refine (awake12_ _).mono ?_; rintro e w1 ⟨rfl, hb1⟩
  have B0 := G0.out.1.grows hb1
  have GA := Lib.hid (Grows.trans' G0.out.2 hb1)
  have q0 := fun g => B0.gcell g 0
  have q1 := fun g => B0.gcell g 1
  have q2 := fun g => B0.gcell g 2
  have q3 := fun g => B0.gcell g 3
  have q4 := fun g => B0.gcell g 4
  have q5 := fun g => B0.gcell g 5
  have q6 := fun g => B0.gcell g 6
  have q7 := fun g => B0.gcell g 7
  have q8 := fun g => B0.gcell g 8
  have q9 := fun g => B0.gcell g 9
  have q10 := fun g => B0.gcell g 10
  have q11 := fun g => B0.gcell g 11
  have q12 := fun g => B0.gcell g 12
  have q13 := fun g => B0.gcell g 13
  unfold seenC at q0 q1 q2 q3 q4 q5 q6 q7 q8 q9 q10 q11 q12 q13
  simp only [List.getElem?_toArray, List.getElem?_cons_zero, List.getElem?_cons_succ] at q0 q1 q2 q3 q4 q5 q6 q7 q8 q9 q10 q11 q12 q13
  clear hb1 B0 G0
  generalize w.heap.size = bp at *
  go_wp2_with fail
  refine wp_region_grow (by kernel_rfl) (by kernel_rfl) ?_
  repeat (go_big_quiet_step ((first | (go_at_call 49; exact quiet_grows (R1.out _)) | (go_at_call 48; exact quiet_grows (LN.out _)) | (go_at_call 51; exact quiet_grows (SE.out _)) | (go_at_call 50; exact quiet_grows (R2.out _)))))
  refine wpQuiet_nil ?_
  intro _ hw'
  obtain ⟨g, rfl⟩ := hw'
  go_wp2_with fail
  go_ret
  exact ⟨rfl, Grows.trans' GA.out (grows_grow _ _)⟩
end Go.Proofs.Ytbifpmaofkgkfaa
