/- The laws of layer 12: GroupLines. -/
import Derived.Test.YtbifpmaofkgkfaaGrpRef
namespace Go.Proofs.Ytbifpmaofkgkfaa
open Go.RowKit
set_option maxHeartbeats 4000000 in
set_option maxRecDepth 100000 in
theorem groupLines_ (l : Ln) (i : Int) (x : Nat) (w : World) (hm : l.m < 256) (hx : x < 18446744073709551616) :
    Calls Try.prog 18 #[lnV l, .int .i64 i, .int .u64 x] w fun e w' => e = .returned (.bool true) ∧ Grows w w' := by
  have HA := Lib.hid (fun w => ha_ l i w hm)
  have HR := Lib.hid (fun w => refhas12_ l.f l.m l.a l.b l.c l.d i w hm)
  have LN := Lib.hid (fun w => lined_ l w)
  have WO := Lib.hid (fun w => wo_ l i w hm)
  have LO := Lib.hid (fun w => lined_ (l.out i) w)
  have RO := Lib.hid (fun w => refout_ l.f l.m l.a l.b l.c l.d i w hm)
  rw [show outV l.f l.a l.b l.c l.d l.m i = l.out i from rfl] at RO
  have S1 := Lib.hid (fun w => slots_ (x := x) rfl w hx)
  have S2 := Lib.hid (fun w => refslots_ (x := x) rfl w hx)
  have EQS := eq_slots x
  generalize l.out i = q at *
  generalize hasB l.m i = hb at *
  generalize hasF l.f l.m i = hf at *
  unfold lnV at HA LN WO LO RO ⊢
  unfold slV at S1 S2 EQS
  cases hb <;> (
  go_enter Try.func18, Try.ntmps18
  go_wp2_with fail
  refine (awake12_ _).mono ?_; rintro e w1 ⟨rfl, hb1⟩
  have B0 := (Has.new w (lC l) 65).grows hb1
  have G0 := Grows.trans' ((Below.refl _ _).alloc (Nat.le_refl _) (.cells (lC l) 65)) hb1
  have c0 := B0.cell 0
  have c1 := B0.cell 1
  have c2 := B0.cell 2
  have c3 := B0.cell 3
  have c4 := B0.cell 4
  have c5 := B0.cell 5
  unfold lC at c0 c1 c2 c3 c4 c5
  simp only [List.getElem?_toArray, List.getElem?_cons_zero, List.getElem?_cons_succ] at c0 c1 c2 c3 c4 c5
  have HB := Lib.hid B0
  have HG := Lib.hid G0
  clear hb1 B0 G0
  generalize w.heap.size = bp at *
  go_wp2_with fail
  refine (HA.out _).mono ?_; rintro e w2 ⟨rfl, hb2⟩
  have HB2 := Lib.hid (HB.out.grows hb2)
  have HG2 := Lib.hid (Grows.trans' HG.out hb2)
  clear c0 c1 c2 c3 c4 c5 HB HG hb2
  have c0 := HB2.out.cell 0
  have c1 := HB2.out.cell 1
  have c2 := HB2.out.cell 2
  have c3 := HB2.out.cell 3
  have c4 := HB2.out.cell 4
  have c5 := HB2.out.cell 5
  unfold lC at c0 c1 c2 c3 c4 c5
  simp only [List.getElem?_toArray, List.getElem?_cons_zero, List.getElem?_cons_succ] at c0 c1 c2 c3 c4 c5
  go_wp2_with fail
  refine (LN.out _).mono ?_; rintro e w3 ⟨rfl, hb3⟩
  go_wp2_with fail
  refine (HR.out _).mono ?_; rintro e w4 ⟨rfl, hb4⟩
  have HB4 := Lib.hid (HB2.out.grows (hb3.trans' hb4))
  have HG4 := Lib.hid (Grows.trans' HG2.out (hb3.trans' hb4))
  clear c0 c1 c2 c3 c4 c5 HB2 HG2 hb3 hb4
  have c0 := fun g => HB4.out.gcell g 0
  have c1 := fun g => HB4.out.gcell g 1
  have c2 := fun g => HB4.out.gcell g 2
  have c3 := fun g => HB4.out.gcell g 3
  have c4 := fun g => HB4.out.gcell g 4
  have c5 := fun g => HB4.out.gcell g 5
  unfold lC at c0 c1 c2 c3 c4 c5
  simp only [List.getElem?_toArray, List.getElem?_cons_zero, List.getElem?_cons_succ] at c0 c1 c2 c3 c4 c5
  go_wp2_with fail
  refine wp_region_grow (by kernel_rfl) (by kernel_rfl) ?_
  repeat (go_big_quiet_step ((first | (go_at_call 59; exact quiet_grows (WO.out _)) | (go_at_call 48; first | (with_reducible exact quiet_grows (LN.out _)) | (with_reducible exact quiet_grows (LO.out _))) | (go_at_call 60; exact quiet_grows (RO.out _)) | (go_at_call 55; exact quiet_grows (S1.out _)) | (go_at_call 61; exact quiet_grows (S2.out _)))))
  refine wpQuiet_nil ?_
  intro _ hw'
  obtain ⟨g, rfl⟩ := hw'
  go_wp2_with fail
  go_ret
  exact ⟨rfl, Grows.trans' HG4.out (grows_grow _ _)⟩)
end Go.Proofs.Ytbifpmaofkgkfaa
