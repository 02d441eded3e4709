/- Layer 12: the reference's may, And; seen. -/
import Derived.Test.YtbifpmaofkgkfaaFramesPlain
import Derived.Test.YtbifpmaofkgkfaaGrpRef
namespace Go.Proofs.Ytbifpmaofkgkfaa
open Go.RowKit
theorem refmay_ {y : Int} {x : Nat} (hy : y = x) (ws : Nat → Nat) (i : Int) (a b c : Bool) (t : Int) (n : Bool) (w : World) (hx : x < 18446744073709551616) :
    Calls Try.prog 78 #[seenV ws i a b c t n, .int .u64 y] w fun e w' => e = .returned (.bool (mayB x t n)) ∧ Grows w w' := by
  subst hy
  unfold seenV mayB
  have BT := Lib.hid (fun w => bit_at (a := x) (x := (x : Int)) (y := 0) (i := 0) rfl rfl hx w (by omega))
  cases hb : x.testBit 0 <;> (
  rw [hb] at BT
  clear hb
  go_enter Try.func78, Try.ntmps78
  go_wp2_with (first | (go_at_call 67; refine (BT.out _).mono ?_; rintro e w' ⟨rfl, rfl⟩) | (go_at_call 39; refine (refresv_ rfl 1 t n _ hx).mono ?_; rintro e w' ⟨rfl, rfl⟩))
  go_ret
  exact ⟨rfl, (Below.refl _ _).alloc (Nat.le_refl _) _⟩)
theorem seen_ (ws : Nat → Nat) (i : Int) (a b c : Bool) (t : Int) (n : Bool) (w : World) :
    Calls Try.prog 51 #[seenV ws i a b c t n] w fun e w' => e = .returned (seenV ws i a b c t n) ∧ Grows w w' := by
  unfold seenV
  go_enter Try.func51, Try.ntmps51
  go_wp2
  refine bodyPost_ret (v := seenV ws i a b c t n) ?_ rfl ⟨rfl, ((Below.refl _ _).alloc (Nat.le_refl _) _).alloc (by simp) _⟩
  simp [results, Try.results51, go_sem, seenV]
def z3 : Array Value := #[.bool false, .bool false, .bool false]
def rW (w : World) (a b c : Bool) : World := (w.alloc (.cells #[.bool a, .bool b, .bool c] 60)).alloc (.cells z3 60)
theorem rW_0 (w : World) (a b c : Bool) : Has (rW w a b c) w.heap.size #[.bool a, .bool b, .bool c] 60 := (Has.new w _ _).alloc _
theorem rW_1 (w : World) (a b c : Bool) : Has (rW w a b c) (w.heap.size + 1) z3 60 := by
  have h := Has.new (w.alloc (.cells #[.bool a, .bool b, .bool c] 60)) z3 60
  rw [show (w.alloc (.cells #[.bool a, .bool b, .bool c] 60)).heap.size = w.heap.size + 1 by simp] at h
  exact h
theorem rW_g (w : World) (a b c : Bool) : Grows w (rW w a b c) := ((Below.refl _ _).alloc (Nat.le_refl _) _).alloc (by simp) _
set_option maxHeartbeats 2000000 in
theorem refand_ {y : Int} {x : Nat} (hy : y = x) (a b c : Bool) (w : World) (hx : x < 18446744073709551616) :
    Calls Try.prog 80 #[.agg #[.bool a, .bool b, .bool c], .int .u64 y] w fun e w' => e = .returned (.agg #[.bool (a && x.testBit 1), .bool (b && x.testBit 2), .bool (c && !x.testBit 63)]) ∧ Grows w w' := by
  subst hy
  have T1 := Lib.hid (fun w => bit_at (a := x) (x := (x : Int)) (y := 1) (i := 1) rfl rfl hx w (by omega))
  have T2 := Lib.hid (fun w => bit_at (a := x) (x := (x : Int)) (y := 2) (i := 2) rfl rfl hx w (by omega))
  have T3 := Lib.hid (fun w => bit_at (a := x) (x := (x : Int)) (y := 63) (i := 63) rfl rfl hx w (by omega))
  generalize x.testBit 1 = x1 at *
  generalize x.testBit 2 = x2 at *
  generalize x.testBit 63 = x3 at *
  have B0 := rW_0 w a b c
  have B1 := Lib.hid (rW_1 w a b c)
  have G0 := Lib.hid (rW_g w a b c)
  generalize hW : rW w a b c = W at B0 B1 G0
  cases a <;> cases b <;> cases c <;> (
  go_enter Try.func80, Try.ntmps80
  go_wp2_with fail
  show Code.wp _ _ _ _ (rW w _ _ _)
  rw [hW]
  clear hW
  have L1 := Lib.hid (show w.heap.size ≤ w.heap.size + 1 by omega)
  generalize hb1 : w.heap.size + 1 = b1 at B0 B1 L1 ⊢
  generalize hb0 : w.heap.size = b0 at B0 B1 ⊢
  clear hb1 hb0
  have q0 := fun g => B0.gcell g 0
  have q1 := fun g => B0.gcell g 1
  have q2 := fun g => B0.gcell g 2
  simp only [List.getElem?_toArray, List.getElem?_cons_zero, List.getElem?_cons_succ] at q0 q1 q2
  clear B0
  refine wp_region_grow_tail 20 (by kernel_rfl) (by kernel_rfl) ?_
  simp only [List.take_succ_cons, List.take_zero, List.drop_succ_cons, List.drop_zero]
  repeat (go_big_quiet_step ((go_at_call 67; first | (with_reducible exact quiet_same (T1.out _)) | (with_reducible exact quiet_same (T2.out _)) | (with_reducible exact quiet_same (T3.out _)))))
  refine wpQuiet_nil ?_
  intro _ hw'
  obtain ⟨g, rfl⟩ := hw'
  have C1 := B1.out.grows (grows_grow W g)
  have G1 := Lib.hid (Grows.trans' G0.out (grows_grow W g))
  clear q0 q1 q2
  generalize grow W g = W2 at *
  have z0 := C1.cell 0
  have z1 := C1.cell 1
  have z2 := C1.cell 2
  have e0 := C1.frozen 0
  have e1 := C1.frozen 1
  have e2 := C1.frozen 2
  unfold z3 at z0 z1 z2
  simp only [List.getElem?_toArray, List.getElem?_cons_zero, List.getElem?_cons_succ] at z0 z1 z2
  have HF := Lib.hid (fun v0 v1 v2 => Below.setCell (p := ⟨b1, 2, none⟩) (Below.setCell (p := ⟨b1, 1, none⟩) (Below.setCell (p := ⟨b1, 0, none⟩) G1.out L1.out v0) L1.out v1) L1.out v2)
  clear C1 G0 B1
  go_wp2
  refine bodyPost_ret (v := .agg #[.bool (_ && x1), .bool (_ && x2), .bool (_ && !x3)]) ?_ rfl ⟨rfl, HF.out _ _ _⟩
  simp [results, Try.results80, go_sem, z0, z1, z2])
end Go.Proofs.Ytbifpmaofkgkfaa
