/- The laws of layer 12: GroupLess. Printed by gen_less.py. -/
import Derived.Test.YtbifpmaofkgkfaaLessPlain
namespace Go.Proofs.Ytbifpmaofkgkfaa
open Go.RowKit
set_option maxHeartbeats 4000000 in
set_option maxRecDepth 100000 in
theorem groupLess_ (ws : Nat → Nat) (i : Int) (a b c : Bool) (t : Int) (n : Bool) (x y : Nat) (w : World) (hw : ∀ j, ws j < 18446744073709551616) :
    Calls Try.prog 19 #[seenV ws i a b c t n, .int .u8 x, .int .u8 y] w fun e w' => e = .returned (.bool true) ∧ Grows w w' := by
  obtain ⟨p, hp, hpe⟩ : ∃ p : Nat, p < 8 ∧ (x : Int) % 8 = p := ⟨x % 8, by omega, by omega⟩
  obtain ⟨q, hq, hqe⟩ : ∃ q : Nat, q < 8 ∧ (y : Int) % 8 = q := ⟨y % 8, by omega, by omega⟩
  have RN := Lib.hid (fun w => run_ ws i a b c t n w hw)
  have hl := runN_lt ws i a b c t n
  have G0 := Lib.hid (seenW0 w ws i a b c t n)
  generalize runN ws i a b c t n = l at *
  have hm := Ln.out_lt (p : Int) hl
  have hm2 := Ln.out_lt (q : Int) hm
  have WP := Lib.hid (fun w => wo_ l (p : Int) w hl)
  have WA := Lib.hid (fun w => wo_ (l.out (p : Int)) (q : Int) w hm)
  have WB := Lib.hid (fun w => wo_ ((l.out (p : Int)).out (q : Int)) (p : Int) w hm2)
  rw [less_last l p q hp hl] at WB
  have HG := Lib.hid (fun w => ha_ (l.out (p : Int)) (p : Int) w hm)
  rw [show hasF (l.out (p : Int)).f (l.out (p : Int)).m (p : Int) = 0 by unfold hasF; rw [less_gone l p hp hl]; rfl, less_gone l p hp hl] at HG
  have HL := Lib.hid (fun w => ha_ l (q : Int) w hl)
  have HM := Lib.hid (fun w => ha_ (l.out (p : Int)) (q : Int) w hm)
  have WK := Lib.hid (fun k w => wo_ (l.outs k) ((k : Nat) : Int) w (Ln.outs_lt hl k))
  have O8 := Lib.hid (Ln.outs_8 hl)
  have L0 : l.outs 0 = l := rfl
  have HPQ : Hid (p = q ∨ (((p : Int) == (q : Int)) = false ∧ ((p : Int) != (q : Int)) = true ∧ ¬ ((p : Int) = (q : Int)) ∧ ¬ (p = q) ∧ hasB (l.out (p : Int)).m (q : Int) = hasB l.m (q : Int) ∧ hasF (l.out (p : Int)).f (l.out (p : Int)).m (q : Int) = hasF l.f l.m (q : Int))) := Lib.hid (by
    by_cases h : p = q
    · left; exact h
    · right; exact ⟨by rw [beq_eq_false_iff_ne]; omega, by rw [bne_iff_ne]; omega, by omega, h, less_still l p q hq hl h, less_now l p q hq hl h⟩)
  have HOS : Hid (∀ k, l.outs (k + 1) = (l.outs k).out ((k : Nat) : Int)) := Lib.hid (fun k => rfl)
  generalize hasB l.m (q : Int) = B1 at *
  generalize hasF l.f l.m (q : Int) = F1 at *
  generalize hasB (l.out (p : Int)).m (q : Int) = B2 at *
  generalize hasF (l.out (p : Int)).f (l.out (p : Int)).m (q : Int) = F2 at *
  generalize (l.out (p : Int)).out (q : Int) = m2 at *
  generalize l.out (p : Int) = m at *
  unfold lnV at RN WP WA WB HG HL HM WK
  unfold seenV at RN ⊢
  have HPE := Lib.hid hpe
  have HQE := Lib.hid hqe
  clear hm hm2
  have p0 : (0 : Int) ≤ (p : Int) := by omega
  have q0 : (0 : Int) ≤ (q : Int) := by omega
  clear hp hq hl hpe hqe
  go_enter Try.func19, Try.ntmps19
  go_wp2_with fail
  refine (awake12_ _).mono ?_; rintro e w1 ⟨rfl, hb1⟩
  have B0 := G0.out.1.grows hb1
  have GA := Lib.hid (Grows.trans' G0.out.2 hb1)
  have c0 := B0.cell 0
  have c1 := B0.cell 1
  have c2 := B0.cell 2
  have c3 := B0.cell 3
  have c4 := B0.cell 4
  have c5 := B0.cell 5
  have c6 := B0.cell 6
  have c7 := B0.cell 7
  have c8 := B0.cell 8
  have c9 := B0.cell 9
  have c10 := B0.cell 10
  have c11 := B0.cell 11
  have c12 := B0.cell 12
  have c13 := B0.cell 13
  unfold seenC at c0 c1 c2 c3 c4 c5 c6 c7 c8 c9 c10 c11 c12 c13
  simp only [List.getElem?_toArray, List.getElem?_cons_zero, List.getElem?_cons_succ] at c0 c1 c2 c3 c4 c5 c6 c7 c8 c9 c10 c11 c12 c13
  clear B0 hb1
  go_wp2_with fail
  refine (RN.out _).mono ?_; rintro e w2 ⟨rfl, hb2⟩
  clear c0 c1 c2 c3 c4 c5 c6 c7 c8 c9 c10 c11 c12 c13
  have GB := Grows.trans' GA.out hb2
  have A1 := Has.new w2 (lC l) 65
  have A2 := Below.alloc GB GB.size (.cells (lC l) 65)
  have L1 := Lib.hid GB.size
  have hpe := HPE.out
  have hqe := HQE.out
  go_wp2_with fail
  refine (WP.out _).mono ?_; rintro e w3 ⟨rfl, hb3⟩
  have A3 := A1.grows hb3
  have A4 := Grows.trans' A2 hb3
  have D1 := Has.new w3 (lC m) 65
  have D2 := Below.alloc A4 A4.size (.cells (lC m) 65)
  have D3 := A3.alloc (.cells (lC m) 65)
  have NE := Lib.hid (show w3.heap.size ≠ w2.heap.size by have := A3.lt; omega)
  clear A1 A2 A3 A4 GB hb2 hb3
  go_wp2_with fail
  refine (HG.out _).mono ?_; rintro e w4 ⟨rfl, hb4⟩
  have E1 := D1.grows hb4
  have E2 := Grows.trans' D2 hb4
  have E3 := D3.grows hb4
  clear D1 D2 D3 hb4
  generalize w3.heap.size = bm at *
  generalize w2.heap.size = bl at *
  have I0 : LInv w l m bl bm 0 w4 := ⟨E3, E1, E2⟩
  clear E1 E2 E3
  have H4 := Lib.hid I0
  clear I0
  have c0 := H4.out.one.cell 0
  have c1 := H4.out.one.cell 1
  have c2 := H4.out.one.cell 2
  have c3 := H4.out.one.cell 3
  have c4 := H4.out.one.cell 4
  have c5 := H4.out.one.cell 5
  unfold lC at c0 c1 c2 c3 c4 c5
  simp only [List.getElem?_toArray, List.getElem?_cons_zero, List.getElem?_cons_succ] at c0 c1 c2 c3 c4 c5
  rw [L0] at c0 c1 c2 c3 c4 c5
  go_wp2_with fail
  refine (HL.out _).mono ?_; rintro e w5 ⟨rfl, hb5⟩
  have H5 := Lib.hid (H4.out.to hb5)
  clear c0 c1 c2 c3 c4 c5 hb5 H4
  have c0 := H5.out.two.cell 0
  have c1 := H5.out.two.cell 1
  have c2 := H5.out.two.cell 2
  have c3 := H5.out.two.cell 3
  have c4 := H5.out.two.cell 4
  have c5 := H5.out.two.cell 5
  unfold lC at c0 c1 c2 c3 c4 c5
  simp only [List.getElem?_toArray, List.getElem?_cons_zero, List.getElem?_cons_succ] at c0 c1 c2 c3 c4 c5
  go_wp2_with fail
  refine (HM.out _).mono ?_; rintro e w6 ⟨rfl, hb6⟩
  have H6 := Lib.hid (H5.out.to hb6)
  clear c0 c1 c2 c3 c4 c5 hb6 H5
  go_wp2_with fail
  go_loopw [18] (fun v wr => ∃ k : Nat, k ≤ 8 ∧ v = .int .i64 k ∧ Hid (LInv w l m bl bm k wr)) (fun v _ => 8 - (intOf v).toNat)
  case atStart => exact ⟨0, by omega, rfl, H6⟩
  case round =>
    obtain ⟨k, hk, rfl, hr⟩ := hrel
    by_cases hlt : k < 8
    · have k0 : (0 : Int) ≤ (k : Int) := by omega
      have k8 : (k : Int) < 8 := by omega
      have WKK := Lib.hid (WK.out k)
      have HO := Lib.hid (HOS.out k)
      have c0 := hr.out.one.cell 0
      have c1 := hr.out.one.cell 1
      have c2 := hr.out.one.cell 2
      have c3 := hr.out.one.cell 3
      have c4 := hr.out.one.cell 4
      have c5 := hr.out.one.cell 5
      unfold lC at c0 c1 c2 c3 c4 c5
      simp only [List.getElem?_toArray, List.getElem?_cons_zero, List.getElem?_cons_succ] at c0 c1 c2 c3 c4 c5
      go_wp2_with fail
      refine (WKK.out _).mono ?_; rintro e w7 ⟨rfl, hb7⟩
      have H7 := Lib.hid (hr.out.to hb7)
      clear c0 c1 c2 c3 c4 c5 hb7
      generalize (l.outs k).out ((k : Nat) : Int) = qq at *
      have c0 := H7.out.one.cell 0
      have z0 := H7.out.one.frozen 0
      have c1 := H7.out.one.cell 1
      have z1 := H7.out.one.frozen 1
      have c2 := H7.out.one.cell 2
      have z2 := H7.out.one.frozen 2
      have c3 := H7.out.one.cell 3
      have z3 := H7.out.one.frozen 3
      have c4 := H7.out.one.cell 4
      have z4 := H7.out.one.frozen 4
      have c5 := H7.out.one.cell 5
      have z5 := H7.out.one.frozen 5
      unfold lC at c0 c1 c2 c3 c4 c5
      simp only [List.getElem?_toArray, List.getElem?_cons_zero, List.getElem?_cons_succ] at c0 c1 c2 c3 c4 c5
      go_wp2_with fail
      go_roundw
      case rel => exact ⟨k + 1, by omega, by go_num, Lib.hid (H7.out.step NE.out L1.out qq HO.out.symm)⟩
      case measure => simp [intOf]; omega
    · obtain rfl : k = 8 := by omega
      have c0 := fun g => hr.out.one.gcell g 0
      have d0 := fun g => hr.out.two.gcell g 0
      have c1 := fun g => hr.out.one.gcell g 1
      have d1 := fun g => hr.out.two.gcell g 1
      have c2 := fun g => hr.out.one.gcell g 2
      have d2 := fun g => hr.out.two.gcell g 2
      have c3 := fun g => hr.out.one.gcell g 3
      have d3 := fun g => hr.out.two.gcell g 3
      have c4 := fun g => hr.out.one.gcell g 4
      have d4 := fun g => hr.out.two.gcell g 4
      have c5 := fun g => hr.out.one.gcell g 5
      have d5 := fun g => hr.out.two.gcell g 5
      rw [O8.out] at c0 c1 c2 c3 c4 c5
      unfold lC at c0 c1 c2 c3 c4 c5 d0 d1 d2 d3 d4 d5
      unfold Ln.zero at c0 c1 c2 c3 c4 c5
      simp only [List.getElem?_toArray, List.getElem?_cons_zero, List.getElem?_cons_succ] at c0 c1 c2 c3 c4 c5 d0 d1 d2 d3 d4 d5
      clear RN WP HG HL HM WK G0 GA H6 hlt hk hpe hqe HPE HQE
      rcases HPQ.out with rfl | ⟨h1, h2, h3, h4, rfl, rfl⟩ <;> (
      go_wp2_with fail
      refine wp_region_grow (by kernel_rfl) (by kernel_rfl) ?_
      repeat (go_big_quiet_step ((go_at_call 59; first | (with_reducible exact quiet_grows (WA.out _)) | (with_reducible exact quiet_grows (WB.out _)))))
      refine wpQuiet_nil ?_
      intro _ hw'
      obtain ⟨g, rfl⟩ := hw'
      go_wp2_with fail
      go_ret
      exact ⟨rfl, Grows.trans' hr.out.grows (grows_grow _ _)⟩)
end Go.Proofs.Ytbifpmaofkgkfaa
