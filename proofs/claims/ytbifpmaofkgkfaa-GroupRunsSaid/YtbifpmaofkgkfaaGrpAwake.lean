/- Layer 12: awake. -/
import Derived.Test.YtbifpmaofkgkfaaGrpNo
import Derived.Test.YtbifpmaofkgkfaaGrp4
namespace Go.Proofs.Ytbifpmaofkgkfaa
open Go.RowKit
theorem word8_ (w : World) : Calls Try.prog 75 #[.int .u64 8] w fun e w' => e = .returned (.int .u64 32807) ∧ w = w' := by
  go_enter Try.func75, Try.ntmps75
  go_wp2
  go_ret
  exact ⟨rfl, rfl⟩
theorem word9_ (w : World) : Calls Try.prog 75 #[.int .u64 9] w fun e w' => e = .returned (.int .u64 36903) ∧ w = w' := by
  go_enter Try.func75, Try.ntmps75
  go_wp2
  go_ret
  exact ⟨rfl, rfl⟩
theorem word11_ (w : World) : Calls Try.prog 75 #[.int .u64 11] w fun e w' => e = .returned (.int .u64 45095) ∧ w = w' := by
  go_enter Try.func75, Try.ntmps75
  go_wp2
  go_ret
  exact ⟨rfl, rfl⟩
set_option maxRecDepth 100000 in
theorem awake12_ (w : World) : Calls Try.prog 47 #[] w fun e w' => e = .returned (.bool true) ∧ Grows w w' := by
  have H1 := Lib.hid (fun w => has12_ (f := 32768) (m := 3) rfl rfl true true true false 1 w (by omega))
  have H2 := Lib.hid (fun w => has12_ (f := 32768) (m := 3) rfl rfl true true true false 2 w (by omega))
  rw [show hasF 32768 3 1 = 36864 by decide, show hasB 3 1 = true by decide] at H1
  rw [show hasF 32768 3 2 = 0 by decide, show hasB 3 2 = false by decide] at H2
  have SL := Lib.hid (fun w => slots_ (x := 72) rfl w (by omega))
  rw [show slV 72 = .agg #[.int .u64 64, .int .u64 72, .int .u64 80, .int .u64 88, .int .u64 96, .int .u64 104, .int .u64 112, .int .u64 120] by kernel_rfl] at SL
  go_enter Try.func47, Try.ntmps47
  go_wp2_with fail
  refine (word8_ _).mono ?_; rintro e w1 ⟨rfl, rfl⟩
  go_wp2_with fail
  refine (word9_ _).mono ?_; rintro e w1 ⟨rfl, rfl⟩
  go_wp2_with fail
  refine (word11_ _).mono ?_; rintro e w1 ⟨rfl, rfl⟩
  go_wp2_with fail
  refine (rall_ _).mono ?_; rintro e w1 ⟨rfl, hb1⟩
  go_wp2_with fail
  refine (run0_ _).mono ?_; rintro e w2 ⟨rfl, hb2⟩
  have B0 := Has.new w2 #[.int .u64 32768, .bool true, .bool true, .bool true, .bool false, .int .u8 3] 65
  have GA := (Below.alloc (hb1.trans' hb2) (hb1.trans' hb2).size (.cells #[.int .u64 32768, .bool true, .bool true, .bool true, .bool false, .int .u8 3] 65))
  go_wp2_with fail
  refine (H1.out _).mono ?_; rintro e w3 ⟨rfl, hb3⟩
  have B1 := B0.grows hb3
  have G1 := Grows.trans' GA hb3
  have y0 := B1.cell 0
  have y1 := B1.cell 1
  have y2 := B1.cell 2
  have y3 := B1.cell 3
  have y4 := B1.cell 4
  have y5 := B1.cell 5
  simp only [List.getElem?_toArray, List.getElem?_cons_zero, List.getElem?_cons_succ] at y0 y1 y2 y3 y4 y5
  have HB1 := Lib.hid B1
  have HG1 := Lib.hid G1
  clear B0 GA hb1 hb2 hb3 B1 G1
  generalize w2.heap.size = bp at *
  go_wp2_with fail
  refine (H2.out _).mono ?_; rintro e w4 ⟨rfl, hb4⟩
  have B2 := HB1.out.grows hb4
  have HG2 := Lib.hid (Grows.trans' HG1.out hb4)
  clear y0 y1 y2 y3 y4 y5 hb4 HB1 HG1
  have y0 := B2.cell 0
  have y1 := B2.cell 1
  have y5 := B2.cell 5
  simp only [List.getElem?_toArray, List.getElem?_cons_zero, List.getElem?_cons_succ] at y0 y1 y5
  clear B2
  have ix : ∀ w, (Instr.index 55 (.agg #[.int .u64 64, .int .u64 72, .int .u64 80, .int .u64 88, .int .u64 96, .int .u64 104, .int .u64 112, .int .u64 120]) (.int .i64 0)).run Try.prog w = .ok (.int .u64 64) w := fun _ => by kernel_rfl
  go_wp2_with fail
  refine (SL.out _).mono ?_; rintro e w5 ⟨rfl, hb5⟩
  go_wp2_with fail
  go_ret
  exact ⟨rfl, Grows.trans' HG2.out hb5⟩
end Go.Proofs.Ytbifpmaofkgkfaa
