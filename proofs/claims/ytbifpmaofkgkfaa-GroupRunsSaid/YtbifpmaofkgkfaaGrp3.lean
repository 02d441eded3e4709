/- Layer 12: group.Without, Slots. -/
import Derived.Test.YtbifpmaofkgkfaaGrp2
namespace Go.Proofs.Ytbifpmaofkgkfaa
open Go.RowKit
def lineW (w : World) (f : Nat) (a b c d : Bool) (m : Nat) : World := (w.alloc (.cells (lnC f a b c d m) 65)).alloc (.cells zLn 65)
theorem lineW_0 (w : World) (f : Nat) (a b c d : Bool) (m : Nat) : Has (lineW w f a b c d m) w.heap.size (lnC f a b c d m) 65 := (Has.new w _ _).alloc _
theorem lineW_1 (w : World) (f : Nat) (a b c d : Bool) (m : Nat) : Has (lineW w f a b c d m) (w.heap.size + 1) zLn 65 := by
  have h := Has.new (w.alloc (.cells (lnC f a b c d m) 65)) zLn 65
  rw [show (w.alloc (.cells (lnC f a b c d m) 65)).heap.size = w.heap.size + 1 by simp] at h
  exact h
theorem lineW_g (w : World) (f : Nat) (a b c d : Bool) (m : Nat) : Grows w (lineW w f a b c d m) := ((Below.refl _ _).alloc (Nat.le_refl _) _).alloc (by simp) _
def outN (m : Nat) (i : Int) : Nat := m &&& (255 - bitN i)
def outV (f : Nat) (a b c d : Bool) (m : Nat) (i : Int) : Ln := if outN m i = 0 then Ln.zero else ⟨f, a, b, c, d, outN m i⟩
set_option maxHeartbeats 1000000 in
theorem without_ {y z : Int} {f m : Nat} (hy : y = f) (hz : z = m) (a b c d : Bool) (i : Int) (w : World) (hm : m < 256) :
    Calls Try.prog 59 #[.agg #[.int .u64 y, .bool a, .bool b, .bool c, .bool d, .int .u8 z], .int .i64 i] w fun e w' => e = .returned (lnV (outV f a b c d m i)) ∧ Grows w w' := by
  subst hy hz
  have BT := Lib.hid (fun w => bit8_ i w)
  have U : bits .andNot .u8 (m : Int) ((bitN i : Nat) : Int) = ((outN m i : Nat) : Int) := u8_andNot hm (bitN_lt i)
  unfold outV
  generalize bitN i = bt at *
  generalize outN m i = m2 at *
  have B0 := lineW_0 w f a b c d m
  have B1 := Lib.hid (lineW_1 w f a b c d m)
  have G0 := Lib.hid (lineW_g w f a b c d m)
  have hz : ((m2 : Nat) : Int) = 0 ↔ m2 = 0 := by omega
  by_cases h0 : m2 = 0
  · subst h0
    rw [if_pos rfl]
    clear hz
    go_enter Try.func59, Try.ntmps59
    go_wp2_with fail
    show Code.wp _ _ _ _ (lineW w f a b c d m)
    generalize lineW w f a b c d m = W at *
    have L0 := Lib.hid (show w.heap.size ≤ w.heap.size by omega)
    have L1 := Lib.hid (show w.heap.size ≤ w.heap.size + 1 by omega)
    have NE := Lib.hid (show w.heap.size ≠ w.heap.size + 1 by omega)
    generalize hb1 : w.heap.size + 1 = b1 at B0 B1 L1 NE ⊢
    generalize hb0 : w.heap.size = b0 at B0 B1 NE ⊢
    have L00 := Lib.hid (show w.heap.size ≤ b0 by omega)
    clear hb1 hb0 L0
    have HB0 := Lib.hid B0
    have q5 := fun g => B0.gcell g 5
    unfold lnC at q5
    simp only [List.getElem?_toArray, List.getElem?_cons_zero, List.getElem?_cons_succ] at q5
    clear B0
    refine wp_region_grow_tail 6 (by kernel_rfl) (by kernel_rfl) ?_
    simp only [List.take_succ_cons, List.take_zero, List.drop_succ_cons, List.drop_zero]
    repeat (go_big_quiet_step ((go_at_call 81; exact quiet_same (BT.out _))))
    refine wpQuiet_nil ?_
    intro _ hw'
    obtain ⟨g, rfl⟩ := hw'
    have C0 := HB0.out.grows (grows_grow W g)
    have C1 := B1.out.grows (grows_grow W g)
    have G1 := Lib.hid (Grows.trans' G0.out (grows_grow W g))
    clear q5
    generalize grow W g = W2 at *
    have y5 := C0.cell 5
    have f5 := C0.frozen 5
    have z0 := C1.cell 0
    have z1 := C1.cell 1
    have z2 := C1.cell 2
    have z3 := C1.cell 3
    have z4 := C1.cell 4
    have z5 := C1.cell 5
    have e0 := C1.frozen 0
    have e1 := C1.frozen 1
    have e2 := C1.frozen 2
    have e3 := C1.frozen 3
    have e4 := C1.frozen 4
    have e5 := C1.frozen 5
    unfold lnC at y5
    unfold zLn at z0 z1 z2 z3 z4 z5
    simp only [List.getElem?_toArray, List.getElem?_cons_zero, List.getElem?_cons_succ] at y5 z0 z1 z2 z3 z4 z5
    have n01 := NE.out
    have n10 := NE.out.symm
    have HF := Lib.hid (fun v v0 v1 v2 v3 v4 v5 => Below.trans (Below.setCell (p := ⟨b0, 5, none⟩) G1.out L00.out v) (below_set6 (w := W2.setCell ⟨b0, 5, none⟩ v) L1.out v0 v1 v2 v3 v4 v5))
    clear C0 C1 G0 B1
    go_wp2
    refine bodyPost_ret (v := lnV Ln.zero) ?_ rfl ⟨rfl, HF.out _ _ _ _ _ _ _⟩
    simp [results, Try.results59, go_sem, lnV, Ln.zero, z0, z1, z2, z3, z4, z5]
  · have hq : (((m2 : Nat) : Int) == 0) = false := by rw [beq_eq_false_iff_ne]; omega
    rw [if_neg h0]
    clear hz h0
    go_enter Try.func59, Try.ntmps59
    go_wp2_with fail
    show Code.wp _ _ _ _ (lineW w f a b c d m)
    generalize lineW w f a b c d m = W at *
    have L0 := Lib.hid (show w.heap.size ≤ w.heap.size by omega)
    have L1 := Lib.hid (show w.heap.size ≤ w.heap.size + 1 by omega)
    have NE := Lib.hid (show w.heap.size ≠ w.heap.size + 1 by omega)
    generalize hb1 : w.heap.size + 1 = b1 at B0 B1 L1 NE ⊢
    generalize hb0 : w.heap.size = b0 at B0 B1 NE ⊢
    have L00 := Lib.hid (show w.heap.size ≤ b0 by omega)
    clear hb1 hb0 L0
    have HB0 := Lib.hid B0
    have q5 := fun g => B0.gcell g 5
    unfold lnC at q5
    simp only [List.getElem?_toArray, List.getElem?_cons_zero, List.getElem?_cons_succ] at q5
    clear B0
    refine wp_region_grow_tail 6 (by kernel_rfl) (by kernel_rfl) ?_
    simp only [List.take_succ_cons, List.take_zero, List.drop_succ_cons, List.drop_zero]
    repeat (go_big_quiet_step ((go_at_call 81; exact quiet_same (BT.out _))))
    refine wpQuiet_nil ?_
    intro _ hw'
    obtain ⟨g, rfl⟩ := hw'
    have C0 := HB0.out.grows (grows_grow W g)
    have C1 := B1.out.grows (grows_grow W g)
    have G1 := Lib.hid (Grows.trans' G0.out (grows_grow W g))
    clear q5
    generalize grow W g = W2 at *
    have y5 := C0.cell 5
    have y0 := C0.cell 0
    have y1 := C0.cell 1
    have y2 := C0.cell 2
    have y3 := C0.cell 3
    have y4 := C0.cell 4
    have f5 := C0.frozen 5
    have z0 := C1.cell 0
    have z1 := C1.cell 1
    have z2 := C1.cell 2
    have z3 := C1.cell 3
    have z4 := C1.cell 4
    have z5 := C1.cell 5
    have e0 := C1.frozen 0
    have e1 := C1.frozen 1
    have e2 := C1.frozen 2
    have e3 := C1.frozen 3
    have e4 := C1.frozen 4
    have e5 := C1.frozen 5
    unfold lnC at y0 y1 y2 y3 y4 y5
    unfold zLn at z0 z1 z2 z3 z4 z5
    simp only [List.getElem?_toArray, List.getElem?_cons_zero, List.getElem?_cons_succ] at y0 y1 y2 y3 y4 y5 z0 z1 z2 z3 z4 z5
    have n01 := NE.out
    have n10 := NE.out.symm
    have HF := Lib.hid (fun v v0 v1 v2 v3 v4 v5 => Below.trans (Below.setCell (p := ⟨b0, 5, none⟩) G1.out L00.out v) (below_set6 (w := W2.setCell ⟨b0, 5, none⟩ v) L1.out v0 v1 v2 v3 v4 v5))
    clear C0 C1 G0 B1
    go_wp2
    refine bodyPost_ret (v := lnV ⟨f, a, b, c, d, m2⟩) ?_ rfl ⟨rfl, HF.out _ _ _ _ _ _ _⟩
    simp [results, Try.results59, go_sem, lnV, z0, z1, z2, z3, z4, z5]
end Go.Proofs.Ytbifpmaofkgkfaa
