/- Layer 12: the references of Has, Without, Slots; lined. -/
import Derived.Test.YtbifpmaofkgkfaaLessPlain
import Derived.Test.YtbifpmaofkgkfaaRef3
namespace Go.Proofs.Ytbifpmaofkgkfaa
open Go.RowKit
theorem lined_ (l : Ln) (w : World) : Calls Try.prog 48 #[lnV l] w fun e w' => e = .returned (lnV l) ∧ Grows w w' := by
  unfold lnV
  go_enter Try.func48, Try.ntmps48
  go_wp2
  refine bodyPost_ret (v := .agg #[.int .u64 l.f, .bool l.a, .bool l.b, .bool l.c, .bool l.d, .int .u8 l.m]) ?_ rfl ⟨rfl, ((Below.refl _ _).alloc (Nat.le_refl _) _).alloc (by simp) _⟩
  simp [results, Try.results48, go_sem]
theorem refhas12_ (f m : Nat) (a b c d : Bool) (i : Int) (w : World) (hm : m < 256) :
    Calls Try.prog 58 #[.agg #[.int .u64 f, .bool a, .bool b, .bool c, .bool d, .int .u8 m], .int .i64 i] w fun e w' => e = .returned (.tuple #[.int .u64 ((hasF f m i : Nat) : Int), .bool (hasB m i)]) ∧ Grows w w' := by
  have HG := Lib.hid ((Below.refl w.heap.size w).alloc (Nat.le_refl _) (.cells #[.int .u64 (f : Int), .bool a, .bool b, .bool c, .bool d, .int .u8 (m : Int)] 62))
  by_cases h0 : i < 0
  · have E := Lib.hid (show hasB m i = false by unfold hasB; rw [decide_eq_false (by omega)]; rfl)
    have E2 := Lib.hid (show hasF f m i = 0 by unfold hasF; rw [E.out]; rfl)
    have n0 : decide (i < 0) = true := decide_eq_true h0
    clear h0
    go_enter Try.func58, Try.ntmps58
    go_wp2
    go_ret2
    exact ⟨ret_tup2 (by rw [E2.out]; rfl) (by rw [E.out]; rfl), HG.out⟩
  · by_cases h8 : 7 < i
    · have E := Lib.hid (show hasB m i = false by unfold hasB; rw [decide_eq_false (by omega)]; rfl)
      have E2 := Lib.hid (show hasF f m i = 0 by unfold hasF; rw [E.out]; rfl)
      have n0 : decide (i < 0) = false := decide_eq_false h0
      have n8 : decide (7 < i) = true := decide_eq_true h8
      clear h0 h8
      go_enter Try.func58, Try.ntmps58
      go_wp2
      go_ret2
      exact ⟨ret_tup2 (by rw [E2.out]; rfl) (by rw [E.out]; rfl), HG.out⟩
    · obtain ⟨k, rfl⟩ : ∃ k : Nat, i = k := ⟨i.toNat, by omega⟩
      have hk : k < 8 := by omega
      have n0 : decide ((k : Int) < 0) = false := decide_eq_false h0
      have n8 : decide (7 < (k : Int)) = false := decide_eq_false h8
      have BT := Lib.hid (fun w => bit_in (a := m) (x := (m : Int)) rfl (by omega) k w (by omega))
      have HB := Lib.hid (hasB_m m k hk)
      have AR := Lib.hid (at_run f k)
      have k0 : (0 : Int) ≤ (k : Int) := by omega
      have k8 : (k : Int) < 8 := by omega
      have m0 : (m : Int) < 256 := by omega
      clear h0 h8 hk
      cases hb : m.testBit k with
      | false =>
        rw [hb] at BT HB
        have E2 := Lib.hid (show hasF f m (k : Int) = 0 by unfold hasF; rw [HB.out]; rfl)
        clear hb
        go_enter Try.func58, Try.ntmps58
        go_wp2_with (go_at_call 67; refine (BT.out _).mono ?_; rintro e w' ⟨rfl, rfl⟩)
        go_ret2
        exact ⟨ret_tup2 (by rw [E2.out]; rfl) (by rw [HB.out]; rfl), HG.out⟩
      | true =>
        rw [hb] at BT HB
        have E2 := Lib.hid (show hasF f m (k : Int) = (f + 4096 * k) % 18446744073709551616 by unfold hasF; rw [HB.out, if_pos rfl, Int.toNat_natCast])
        clear hb
        go_enter Try.func58, Try.ntmps58
        go_wp2_with (go_at_call 67; refine (BT.out _).mono ?_; rintro e w' ⟨rfl, rfl⟩)
        go_ret2
        exact ⟨ret_tup2 (by rw [E2.out, ← AR.out]; rfl) (by rw [HB.out]; rfl), HG.out⟩
theorem outN_out {m : Nat} {i : Int} (hm : m < 256) (h : ¬ (0 ≤ i ∧ i < 8)) : outN m i = m := by
  apply Nat.eq_of_testBit_eq
  intro j
  rw [outN_bit _ _ _ hm, decide_eq_false h]; simp
theorem with_out {m k : Nat} (hm : m < 256) (hk : k < 8) : IntKind.u8.wrap ((withN m (k : Int) false : Nat) : Int) = ((outN m (k : Int) : Nat) : Int) := by
  have e : withN m (k : Int) false = outN m (k : Int) := by
    apply Nat.eq_of_testBit_eq
    intro j
    rw [testBit_withN (by omega), outN_bit _ _ _ hm, decide_eq_true (by omega : 0 ≤ (k : Int) ∧ (k : Int) < 8)]
    by_cases hj : j = k
    · subst hj; simp
    · rw [if_neg hj, decide_eq_false (by omega : ¬ (k : Int) = (j : Int))]; simp
  have := outN_lt (k : Int) hm
  rw [e, IntKind.wrap_u8]; omega
set_option maxHeartbeats 1000000 in
theorem refout_ (f m : Nat) (a b c d : Bool) (i : Int) (w : World) (hm : m < 256) :
    Calls Try.prog 60 #[.agg #[.int .u64 f, .bool a, .bool b, .bool c, .bool d, .int .u8 m], .int .i64 i] w fun e w' => e = .returned (lnV (outV f a b c d m i)) ∧ Grows w w' := by
  unfold outV
  by_cases h : 0 ≤ i ∧ i < 8
  · obtain ⟨k, rfl⟩ : ∃ k : Nat, i = k := ⟨i.toNat, by omega⟩
    have WT := Lib.hid (fun w => refwith_ (a := m) (x := (m : Int)) rfl (k : Int) false w (by omega))
    have U := with_out (k := k) hm (by omega)
    have k0 : (0 : Int) ≤ (k : Int) := by omega
    have k7 : (k : Int) ≤ 7 := by omega
    have n0 : decide ((0 : Int) ≤ (k : Int)) = true := decide_eq_true k0
    have n7 : decide ((k : Int) ≤ 7) = true := decide_eq_true k7
    generalize withN m (k : Int) false = wv at *
    generalize outN m (k : Int) = m2 at *
    clear h
    by_cases hz : m2 = 0
    · subst hz
      rw [if_pos rfl]
      go_enter Try.func60, Try.ntmps60
      go_wp2_with (go_at_call 66; refine (WT.out _).mono ?_; rintro e w' ⟨rfl, rfl⟩)
      refine bodyPost_ret (v := lnV Ln.zero) ?_ rfl ⟨rfl, ((Below.refl _ _).alloc (Nat.le_refl _) _).alloc (by simp) _⟩
      simp [results, Try.results60, go_sem, lnV, Ln.zero]
    · have hq : (((m2 : Nat) : Int) == 0) = false := by rw [beq_eq_false_iff_ne]; omega
      rw [if_neg hz]
      clear hz
      go_enter Try.func60, Try.ntmps60
      go_wp2_with (go_at_call 66; refine (WT.out _).mono ?_; rintro e w' ⟨rfl, rfl⟩)
      refine bodyPost_ret (v := lnV ⟨f, a, b, c, d, m2⟩) ?_ rfl ⟨rfl, ((Below.refl _ _).alloc (Nat.le_refl _) _).alloc (by simp) _⟩
      simp [results, Try.results60, go_sem, lnV]
  · rw [outN_out hm h]
    by_cases h0 : 0 ≤ i
    · have n0 : decide ((0 : Int) ≤ i) = true := decide_eq_true h0
      have n7 : decide (i ≤ 7) = false := decide_eq_false (by omega)
      clear h h0
      by_cases hz : m = 0
      · subst hz
        rw [if_pos rfl]
        go_enter Try.func60, Try.ntmps60
        go_wp2
        refine bodyPost_ret (v := lnV Ln.zero) ?_ rfl ⟨rfl, ((Below.refl _ _).alloc (Nat.le_refl _) _).alloc (by simp) _⟩
        simp [results, Try.results60, go_sem, lnV, Ln.zero]
      · have hq : (((m : Nat) : Int) == 0) = false := by rw [beq_eq_false_iff_ne]; omega
        rw [if_neg hz]
        clear hz
        go_enter Try.func60, Try.ntmps60
        go_wp2
        refine bodyPost_ret (v := lnV ⟨f, a, b, c, d, m⟩) ?_ rfl ⟨rfl, ((Below.refl _ _).alloc (Nat.le_refl _) _).alloc (by simp) _⟩
        simp [results, Try.results60, go_sem, lnV]
    · have n0 : decide ((0 : Int) ≤ i) = false := decide_eq_false h0
      clear h h0
      by_cases hz : m = 0
      · subst hz
        rw [if_pos rfl]
        go_enter Try.func60, Try.ntmps60
        go_wp2
        refine bodyPost_ret (v := lnV Ln.zero) ?_ rfl ⟨rfl, ((Below.refl _ _).alloc (Nat.le_refl _) _).alloc (by simp) _⟩
        simp [results, Try.results60, go_sem, lnV, Ln.zero]
      · have hq : (((m : Nat) : Int) == 0) = false := by rw [beq_eq_false_iff_ne]; omega
        rw [if_neg hz]
        clear hz
        go_enter Try.func60, Try.ntmps60
        go_wp2
        refine bodyPost_ret (v := lnV ⟨f, a, b, c, d, m⟩) ?_ rfl ⟨rfl, ((Below.refl _ _).alloc (Nat.le_refl _) _).alloc (by simp) _⟩
        simp [results, Try.results60, go_sem, lnV]
set_option maxHeartbeats 2000000 in
theorem refslots_ {y : Int} {x : Nat} (hy : y = x) (w : World) (hx : x < 18446744073709551616) :
    Calls Try.prog 61 #[.int .u64 y] w fun e w' => e = .returned (slV x) ∧ Grows w w' := by
  subst hy
  have AN : (x : Int) - (x : Int) % 64 = ((x - x % 64 : Nat) : Int) := by omega
  have SR := Lib.hid (fun k h => sl_run (x := x) (k := k) hx h)
  have BL : x - x % 64 < 18446744073709551616 := by omega
  generalize x - x % 64 = bs at AN SR BL
  have B0 := zzW_0 w
  have B1 := zzW_1 w
  have G0 := zzW_g w
  go_enter Try.func61, Try.ntmps61
  go_wp2_with fail
  show Code.wp _ _ _ _ (zzW w)
  generalize zzW w = W at *
  have P0 : SInv x w.heap.size (w.heap.size + 1) w 0 W := ⟨⟨z8, B1, rfl, fun j hj => by omega⟩, B0, G0⟩
  have HB := Lib.hid (show w.heap.size ≠ w.heap.size + 1 by omega)
  have HW := Lib.hid (show w.heap.size ≤ w.heap.size + 1 by omega)
  generalize hq : w.heap.size + 1 = b1 at *
  have HP := Lib.hid P0
  clear hq P0 B0 B1 G0
  go_loopw [4] (fun i wr => ∃ k : Nat, k ≤ 8 ∧ i = .int .i64 k ∧ Hid (SInv x w.heap.size b1 w k wr)) (fun i _ => 8 - (intOf i).toNat)
  case atStart => exact ⟨0, by omega, rfl, HP⟩
  case round =>
    obtain ⟨k, hk, rfl, hp⟩ := hrel
    by_cases hlt : k < 8
    · obtain ⟨v0, hc⟩ := hp.out.cell hlt
      have hfz := hp.out.frozen k
      have k0 : (0 : Int) ≤ (k : Int) := by omega
      have k8 : (k : Int) < 8 := by omega
      have sr := SR.out k hlt
      go_wp2_with fail
      go_roundw
      case rel => exact ⟨k + 1, by omega, by go_num, Lib.hid (hp.out.step hlt HB.out HW.out)⟩
      case measure => simp [intOf]; omega
    · obtain rfl : k = 8 := by omega
      have r0 := hp.out.read (i := 0) (by omega)
      have r1 := hp.out.read (i := 1) (by omega)
      have r2 := hp.out.read (i := 2) (by omega)
      have r3 := hp.out.read (i := 3) (by omega)
      have r4 := hp.out.read (i := 4) (by omega)
      have r5 := hp.out.read (i := 5) (by omega)
      have r6 := hp.out.read (i := 6) (by omega)
      have r7 := hp.out.read (i := 7) (by omega)
      have BO := hp.out.out
      have y0 := BO.cell 0
      have y1 := BO.cell 1
      have y2 := BO.cell 2
      have y3 := BO.cell 3
      have y4 := BO.cell 4
      have y5 := BO.cell 5
      have y6 := BO.cell 6
      have y7 := BO.cell 7
      have f0 := BO.frozen 0
      have f1 := BO.frozen 1
      have f2 := BO.frozen 2
      have f3 := BO.frozen 3
      have f4 := BO.frozen 4
      have f5 := BO.frozen 5
      have f6 := BO.frozen 6
      have f7 := BO.frozen 7
      unfold z8 at y0 y1 y2 y3 y4 y5 y6 y7
      simp only [List.getElem?_toArray, List.getElem?_cons_zero, List.getElem?_cons_succ] at y0 y1 y2 y3 y4 y5 y6 y7
      clear BO AN
      have HF := Lib.hid (fun v0 v1 v2 v3 v4 v5 v6 v7 => grows_set8 hp.out.grows (Nat.le_refl _) v0 v1 v2 v3 v4 v5 v6 v7)
      go_wp2
      refine bodyPost_ret (v := slV x) ?_ rfl ⟨rfl, HF.out _ _ _ _ _ _ _ _⟩
      simp [results, Try.results61, go_sem, slV, y0, y1, y2, y3, y4, y5, y6, y7]
end Go.Proofs.Ytbifpmaofkgkfaa
