/- The laws of layer 5: awake, EntryMay, EntryTells. -/
import Derived.Test.YtbifpmaofkgkfaaEntQ
import Derived.Test.YtbifpmaofkgkfaaEntR
import Derived.Test.YtbifpmaofkgkfaaEntFacts
namespace Go.Proofs.Ytbifpmaofkgkfaa
open Go.RowKit
theorem awake05_ (w : World) : Calls Try.prog 37 #[] w fun e w' => e = .returned (.bool true) ∧ Grows w w' := by
  have EV := Lib.hid (show entV (parseN 20487) = .agg #[.bool true, .bool true, .bool true, .bool false, .bool false, .bool false, .bool false, .int .u64 20480] by kernel_rfl)
  have SV := Lib.hid (show ((slotN 12288 4096 1 : Nat) : Int) = 12296 by decide)
  have L1 := Lib.hid (show leafB 128 2 = true by decide)
  have L2 := Lib.hid (show leafB 0 2 = false by decide)
  have R := Lib.hid (show resB 1073741824 1 20 true = true by decide)
  go_enter Try.func37, Try.ntmps37
  go_wp2_with fail
  refine (parse_ (x := 20487) rfl _ (by omega)).mono ?_; rw [EV.out]; rintro e w1 ⟨rfl, hb1⟩
  go_wp2_with fail
  refine (slot_ (t := 12288) (a := 4096) rfl rfl 1 _ (by omega) (by omega)).mono ?_; rw [SV.out]; rintro e w2 ⟨rfl, hb2⟩
  have B0 := (Has.new w1 _ _).grows hb2
  have HB := Lib.hid (Grows.trans' (Below.alloc hb1 (by have := hb1.size; omega) _) hb2)
  have c0 := B0.cell 0
  have c1 := B0.cell 1
  have c2 := B0.cell 2
  have c3 := B0.cell 3
  have c7 := B0.cell 7
  simp only [List.getElem?_toArray, List.getElem?_cons_zero, List.getElem?_cons_succ] at c0 c1 c2 c3 c7
  clear hb1 hb2 B0
  generalize w1.heap.size = bp at *
  go_wp2_with fail
  refine (leaf_ (a := 128) rfl 2 _ (by omega)).mono ?_; rw [L1.out]; rintro e w3 ⟨rfl, rfl⟩
  go_wp2_with fail
  refine (leaf_ (a := 0) rfl 2 _ (by omega)).mono ?_; rw [L2.out]; rintro e w3 ⟨rfl, rfl⟩
  go_wp2_with fail
  refine (resv_ (x := 1073741824) rfl 1 20 true _ (by omega)).mono ?_; rw [R.out]; rintro e w3 ⟨rfl, rfl⟩
  go_wp2_with fail
  go_ret
  exact ⟨rfl, HB.out⟩
theorem entryMay_ (x a : Nat) (l b : Int) (n : Bool) (w : World) (hx : x < 18446744073709551616) (ha : a < 18446744073709551616) :
    Calls Try.prog 7 #[.int .u64 x, .int .u64 a, .agg #[.int .i64 l, .int .i64 b, .bool n]] w fun e w' => e = .returned (.bool true) ∧ Grows w w' := by
  have R := Lib.hid (fun w => resv_ (x := x) rfl l b n w hx)
  have RR := Lib.hid (fun w => refresv_ (x := x) rfl l b n w hx)
  generalize resB x l b n = r at *
  cases r <;> (
  go_enter Try.func7, Try.ntmps7
  go_wp2_with fail
  refine (awake05_ _).mono ?_; rintro e w1 ⟨rfl, hb1⟩
  have B0 := (Has.new w _ _).grows hb1
  have HB := Lib.hid (Grows.trans' ((Below.refl _ _).alloc (Nat.le_refl _) _) hb1)
  have q0 := fun g => B0.gcell g 0
  have q1 := fun g => B0.gcell g 1
  have q2 := fun g => B0.gcell g 2
  simp only [List.getElem?_toArray, List.getElem?_cons_zero, List.getElem?_cons_succ] at q0 q1 q2
  clear hb1 B0
  generalize w.heap.size = bp at *
  go_wp2_with fail
  refine wp_region_grow (by kernel_rfl) (by kernel_rfl) ?_
  repeat (go_big_quiet_step ((first | (go_at_call 38; exact quiet_same (R.out _)) | (go_at_call 39; exact quiet_same (RR.out _)) | (go_at_call 40; exact quiet_grows (slot_ rfl rfl l _ hx ha)) | (go_at_call 41; exact quiet_same (refslot_ rfl rfl l _ hx ha)))))
  refine wpQuiet_nil ?_
  intro _ hw'
  obtain ⟨g, rfl⟩ := hw'
  go_wp2
  go_ret
  exact ⟨rfl, Grows.trans' HB.out (grows_grow _ _)⟩)
end Go.Proofs.Ytbifpmaofkgkfaa
