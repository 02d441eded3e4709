/- The laws of layer 5: EntryGrows. -/
import Derived.Test.YtbifpmaofkgkfaaLaw05
namespace Go.Proofs.Ytbifpmaofkgkfaa
open Go.RowKit
theorem mod20 (f : Nat) : ((f : Nat) : Int) % 1048576 = ((f % 1048576 : Nat) : Int) := by omega
set_option maxHeartbeats 1000000 in
theorem entryGrows_ (x : Nat) (p wr u a d ps nx : Bool) (f : Nat) (l b : Int) (n : Bool) (w : World) (hx : x < 18446744073709551616) (hf : f < 18446744073709551616) :
    Calls Try.prog 12 #[.int .u64 x, .agg #[.bool p, .bool wr, .bool u, .bool a, .bool d, .bool ps, .bool nx, .int .u64 f], .agg #[.int .i64 l, .int .i64 b, .bool n]] w fun e w' => e = .returned (.bool true) ∧ Grows w w' := by
  have R1 := Lib.hid (fun w => resv_ (x := x) rfl l 20 true w hx)
  have R2 := Lib.hid (fun w => resv_ (x := x) rfl l 30 true w hx)
  have R3 := Lib.hid (fun w => resv_ (x := x) rfl l 20 false w hx)
  have h1 := grows_1 x l
  have h2 := grows_2 x l
  have h3 := grows_3 ⟨p, wr, u, a, d, false, false, f % 1048576⟩ l n (by show f % 1048576 < _; omega) rfl rfl
  have WD := Lib.hid (fun w => word_ ⟨p, wr, u, a, d, false, false, f % 1048576⟩ w (by show f % 1048576 < _; omega))
  have R4 := Lib.hid (fun w => resv_ (x := wordN ⟨p, wr, u, a, d, false, false, f % 1048576⟩) rfl l 20 n w (wordN_lt _))
  have R5 := Lib.hid (fun y hy w => resv_ (y := y) (x := x ||| 2251799813685248) hy l 51 n w (or_51 hx).2)
  rw [h3] at R4
  rw [grows_4] at R5
  have OR := Lib.hid (or_51 hx).1
  generalize wordN ⟨p, wr, u, a, d, false, false, f % 1048576⟩ = v at *
  clear h3
  generalize resB x l 20 true = ra at *
  generalize resB x l 30 true = rb at *
  generalize resB x l 20 false = rc at *
  have M := Lib.hid (mod20 f)
  have h4 : (ra = false ∧ rb = false ∧ rc = false) ∨ (ra = false ∧ rb = false ∧ rc = true) ∨ (ra = true ∧ rb = false ∧ rc = true) ∨ (ra = true ∧ rb = true ∧ rc = true) := by
    cases ra <;> cases rb <;> cases rc <;> simp at h1 h2 ⊢
  clear h1 h2
  generalize f % 1048576 = f2 at *
  rcases h4 with ⟨rfl, rfl, rfl⟩ | ⟨rfl, rfl, rfl⟩ | ⟨rfl, rfl, rfl⟩ | ⟨rfl, rfl, rfl⟩ <;> (
  go_enter Try.func12, Try.ntmps12
  go_wp2_with fail
  refine (awake05_ _).mono ?_; rintro e w1 ⟨rfl, hb1⟩
  have D0 := (Has.new (w.alloc (.cells #[.bool p, .bool wr, .bool u, .bool a, .bool d, .bool ps, .bool nx, .int .u64 f] 50)) #[.int .i64 l, .int .i64 b, .bool n] 37).grows hb1
  have E0 := ((Has.new w #[.bool p, .bool wr, .bool u, .bool a, .bool d, .bool ps, .bool nx, .int .u64 f] 50).alloc (.cells #[.int .i64 l, .int .i64 b, .bool n] 37)).grows hb1
  have HB := Lib.hid (Grows.trans' (Below.alloc ((Below.refl _ _).alloc (Nat.le_refl _) _) (by simp) _) hb1)
  have e1 : (w.alloc (.cells #[.bool p, .bool wr, .bool u, .bool a, .bool d, .bool ps, .bool nx, .int .u64 f] 50)).heap.size = w.heap.size + 1 := by simp
  rw [e1] at D0
  clear e1 hb1
  have hne : w.heap.size ≠ w.heap.size + 1 := by omega
  have HNE := Lib.hid hne
  clear hne
  generalize hbd : w.heap.size + 1 = bd at D0 HNE ⊢
  clear hbd
  generalize hbp : w.heap.size = bp at D0 E0 HNE ⊢
  have HLE := Lib.hid (show w.heap.size ≤ bp by omega)
  clear hbp
  have d0 := D0.cell 0
  have d1 := D0.cell 1
  have d2 := D0.cell 2
  simp only [List.getElem?_toArray, List.getElem?_cons_zero, List.getElem?_cons_succ] at d0 d1 d2
  have HD := Lib.hid D0
  have HE := Lib.hid E0
  clear D0 E0
  go_wp2_with fail
  refine (R1.out _).mono ?_; rintro e w2 ⟨rfl, rfl⟩
  go_wp2_with fail
  refine (R2.out _).mono ?_; rintro e w2 ⟨rfl, rfl⟩
  go_wp2_with fail
  refine (R3.out _).mono ?_; rintro e w2 ⟨rfl, rfl⟩
  have c7 := HE.out.cell 7
  have f7 := HE.out.frozen 7
  have c6 := HE.out.cell 6
  have f6 := HE.out.frozen 6
  have c5 := HE.out.cell 5
  have f5 := HE.out.frozen 5
  simp only [List.getElem?_toArray, List.getElem?_cons_zero, List.getElem?_cons_succ] at c7 c6 c5
  have m := M.out
  go_wp2_with fail
  have E1 := ((HE.out.set 7 (.int .u64 f2)).set 6 (.bool false)).set 5 (.bool false)
  have D1 := ((HD.out.far HNE.out.symm 7 (.int .u64 f2)).far HNE.out.symm 6 (.bool false)).far HNE.out.symm 5 (.bool false)
  have HB2 := Lib.hid (Below.setCell (p := ⟨bp, 5, none⟩) (Below.setCell (p := ⟨bp, 6, none⟩) (Below.setCell (p := ⟨bp, 7, none⟩) HB.out HLE.out (.int .u64 f2)) HLE.out (.bool false)) HLE.out (.bool false))
  simp only [List.setIfInBounds_toArray, List.set_cons_succ, List.set_cons_zero] at E1
  clear c7 f7 c6 f6 c5 f5 m d0 d1 d2 HE HD HB HLE HNE
  generalize ((w1.setCell ⟨bp, 7, none⟩ (.int .u64 f2)).setCell ⟨bp, 6, none⟩ (.bool false)).setCell ⟨bp, 5, none⟩ (.bool false) = w3 at *
  have q0 := fun g => E1.gcell g 0
  have q1 := fun g => E1.gcell g 1
  have q2 := fun g => E1.gcell g 2
  have q3 := fun g => E1.gcell g 3
  have q4 := fun g => E1.gcell g 4
  have q5 := fun g => E1.gcell g 5
  have q6 := fun g => E1.gcell g 6
  have q7 := fun g => E1.gcell g 7
  have d0 := fun g => D1.gcell g 0
  have d1 := fun g => D1.gcell g 1
  have d2 := fun g => D1.gcell g 2
  simp only [List.getElem?_toArray, List.getElem?_cons_zero, List.getElem?_cons_succ] at q0 q1 q2 q3 q4 q5 q6 q7 d0 d1 d2
  clear E1 D1
  refine wp_region_grow (by kernel_rfl) (by kernel_rfl) ?_
  repeat (go_big_quiet_step ((first | (go_at_call 45; exact quiet_grows (WD.out _)) | (go_at_call 38; first | (with_reducible exact quiet_same (R4.out _)) | (exact quiet_same (R5.out _ OR.out _))))))
  refine wpQuiet_nil ?_
  intro _ hw'
  obtain ⟨g, rfl⟩ := hw'
  go_wp2
  go_ret
  exact ⟨rfl, Grows.trans' HB2.out (grows_grow _ _)⟩)
end Go.Proofs.Ytbifpmaofkgkfaa
