/- The reference's Parse and Word of layer 5. -/
import Derived.Test.YtbifpmaofkgkfaaEntW
namespace Go.Proofs.Ytbifpmaofkgkfaa
open Go.RowKit
def z64 : Array Value := Array.replicate 64 (.bool false)
theorem z64_get (i : Nat) (h : i < 64) : z64[i]? = some (.bool false) := by unfold z64; simp [h]
theorem z64_size : z64.size = 64 := by unfold z64; simp
theorem refword_ (e : Ent) (w : World) (hf : e.fr < 18446744073709551616) :
    Calls Try.prog 63 #[.agg #[.bool e.p, .bool e.w, .bool e.u, .bool e.a, .bool e.d, .bool e.ps, .bool e.nx, .int .u64 e.fr]] w fun e' w' => e' = .returned (.int .u64 (wordN e)) ∧ Grows w w' := by
  have l0 := tab_lt64 e.fr
  have L := Lib.hid (wp_lt e)
  have H0 := Lib.hid (show tab e.fr = wp e 0 from rfl)
  have W := Lib.hid (fun j w => refwith_ (a := wp e j) rfl ((kk j : Nat) : Int) (eb e j) w (wp_lt e j))
  clear l0
  go_enter Try.func63, Try.ntmps63
  go_wp2_with fail
  refine (reftable_ rfl _ hf).mono ?_; rw [H0.out]; rintro e w1 ⟨rfl, rfl⟩
  go_wp2_with fail
  refine (W.out 0 _).mono ?_; rintro e w1 ⟨rfl, rfl⟩
  go_wp2_with fail
  refine (W.out 1 _).mono ?_; rintro e w1 ⟨rfl, rfl⟩
  go_wp2_with fail
  refine (W.out 2 _).mono ?_; rintro e w1 ⟨rfl, rfl⟩
  go_wp2_with fail
  refine (W.out 3 _).mono ?_; rintro e w1 ⟨rfl, rfl⟩
  go_wp2_with fail
  refine (W.out 4 _).mono ?_; rintro e w1 ⟨rfl, rfl⟩
  go_wp2_with fail
  refine (W.out 5 _).mono ?_; rintro e w1 ⟨rfl, rfl⟩
  go_wp2_with fail
  refine (W.out 6 _).mono ?_; rintro e w1 ⟨rfl, rfl⟩
  go_wp2_with fail
  go_ret
  exact ⟨rfl, (Below.refl _ _).alloc (Nat.le_refl _) _⟩
def zEnt : Array Value := #[.bool false, .bool false, .bool false, .bool false, .bool false, .bool false, .bool false, .int .u64 0]
structure PInv (x b0 b1 : Nat) (w : World) (k : Nat) (wr : World) : Prop where
  cs : ∃ cs : Array Value, Has wr b1 cs 4 ∧ cs.size = 64 ∧ (∀ j, j < k → cs[j]? = some (.bool (x.testBit j)))
  out : Has wr b0 zEnt 83
  grows : Grows w wr
theorem PInv.step {x b0 b1 : Nat} {w : World} {k : Nat} {wr : World} (h : PInv x b0 b1 w k wr) (hk : k < 64) (hb : b0 ≠ b1) (hw : w.heap.size ≤ b1) : PInv x b0 b1 w (k + 1) (wr.setCell ⟨b1, k, none⟩ (.bool (x.testBit k))) := by
  obtain ⟨⟨cs, h1, h2, h3⟩, ho, hg⟩ := h
  refine ⟨⟨_, h1.set k _, by simp [h2], fun j hj => ?_⟩, ho.far hb _ _, Below.setCell hg hw _⟩
  by_cases hjk : k = j
  · subst hjk; simp [h2, hk]
  · rw [Array.getElem?_setIfInBounds_ne hjk]; exact h3 j (by omega)
theorem PInv.cell {x b0 b1 : Nat} {w : World} {k : Nat} {wr : World} (h : PInv x b0 b1 w k wr) (hk : k < 64) : ∃ v, wr.cell? ⟨b1, k, none⟩ = some v := by
  obtain ⟨⟨cs, h1, h2, h3⟩, ho, hg⟩ := h
  exact ⟨_, (h1.cell k).trans (Array.getElem?_eq_getElem (by omega))⟩
theorem PInv.frozen {x b0 b1 : Nat} {w : World} {k : Nat} {wr : World} (h : PInv x b0 b1 w k wr) (i : Nat) : wr.frozen? ⟨b1, i, none⟩ = false := by
  obtain ⟨⟨cs, h1, h2, h3⟩, ho, hg⟩ := h
  exact h1.frozen i
theorem PInv.read {x b0 b1 : Nat} {w : World} {wr : World} (h : PInv x b0 b1 w 64 wr) (g : Gh) {i : Nat} (hi : i < 64) : (grow wr g).cell? ⟨b1, i, none⟩ = some (.bool (x.testBit i)) := by
  obtain ⟨⟨cs, h1, h2, h3⟩, ho, hg⟩ := h
  rw [h1.gcell g i]
  exact h3 i hi
set_option maxHeartbeats 2000000 in
theorem refparse_ {y : Int} {x : Nat} (hy : y = x) (w : World) (hx : x < 18446744073709551616) :
    Calls Try.prog 62 #[.int .u64 y] w fun e w' => e = .returned (entV (parseN x)) ∧ Grows w w' := by
  subst hy
  have hmk : ∀ w, (Instr.makeSlice 101 (.int .i64 64) (.int .i64 64)).run Try.prog w = .ok (.slice (some ⟨w.heap.size, 0, none⟩) 64 64) (w.alloc (.cells z64 4)) := fun _ => by kernel_rfl
  go_enter Try.func62, Try.ntmps62
  go_wp2_with fail
  have B1 := Has.new (w.alloc (.cells zEnt 83)) z64 4
  have B0 := (Has.new w zEnt 83).alloc (.cells z64 4)
  have G0 : Grows w ((w.alloc (.cells zEnt 83)).alloc (.cells z64 4)) := ((Below.refl _ _).alloc (Nat.le_refl _) _).alloc (by simp) _
  have e1 : (w.alloc (.cells zEnt 83)).heap.size = w.heap.size + 1 := by simp
  rw [e1] at B1
  clear e1
  have P0 : PInv x w.heap.size (w.heap.size + 1) w 0 ((w.alloc (.cells zEnt 83)).alloc (.cells z64 4)) := ⟨⟨z64, B1, z64_size, fun j hj => by omega⟩, B0, G0⟩
  unfold zEnt at P0
  have hb : w.heap.size ≠ w.heap.size + 1 := by omega
  have hw : w.heap.size ≤ w.heap.size + 1 := by omega
  have hw0 : w.heap.size ≤ w.heap.size := Nat.le_refl _
  clear B1 B0 G0 hmk
  generalize (w.alloc (.cells #[.bool false, .bool false, .bool false, .bool false, .bool false, .bool false, .bool false, .int .u64 0] 83)).alloc (.cells z64 4) = W at *
  generalize hq : w.heap.size + 1 = b1 at *
  have HP := Lib.hid P0
  have HB := Lib.hid hb
  have HW := Lib.hid hw
  have HW0 := Lib.hid hw0
  clear hq P0 hb hw hw0
  go_loopw [4] (fun i wr => ∃ k : Nat, k ≤ 64 ∧ i = .int .i64 k ∧ Hid (PInv x w.heap.size b1 w k wr)) (fun i _ => 64 - (intOf i).toNat)
  case atStart => exact ⟨0, by omega, rfl, HP⟩
  case round =>
    obtain ⟨k, hk, rfl, hp⟩ := hrel
    by_cases hlt : k < 64
    · obtain ⟨v0, hc⟩ := hp.out.cell hlt
      have hfz := hp.out.frozen k
      have hbk := fun w => bit_in (a := x) rfl hx k w hlt
      have HBK := Lib.hid hbk
      clear hbk
      go_wp2_with (go_at_call 67; refine (HBK.out _).mono ?_; rintro e w' ⟨rfl, rfl⟩)
      go_roundw
      case rel => exact ⟨k + 1, by omega, by go_num, hp.out.step hlt HB.out HW.out⟩
      case measure => simp [intOf]; omega
    · obtain rfl : k = 64 := by omega
      have r0 := fun g => hp.out.read g (i := 0) (by omega)
      have r1 := fun g => hp.out.read g (i := 1) (by omega)
      have r2 := fun g => hp.out.read g (i := 2) (by omega)
      have r5 := fun g => hp.out.read g (i := 5) (by omega)
      have r6 := fun g => hp.out.read g (i := 6) (by omega)
      have r7 := fun g => hp.out.read g (i := 7) (by omega)
      have r63 := fun g => hp.out.read g (i := 63) (by omega)
      go_wp2_with fail
      refine wp_region_grow_tail 24 (by kernel_rfl) (by kernel_rfl) ?_
      simp only [List.take_succ_cons, List.take_zero, List.drop_succ_cons, List.drop_zero]
      repeat (go_big_quiet_step ((go_at_call 53; exact quiet_same (reftable_ rfl _ hx))))
      refine wpQuiet_nil ?_
      intro _ hw'
      obtain ⟨g, rfl⟩ := hw'
      have BO := hp.out.out.grows (grows_grow wr g)
      have HG2 := Lib.hid (Grows.trans' hp.out.grows (grows_grow wr g))
      clear r0 r1 r2 r5 r6 r7 r63
      generalize grow wr g = W2 at *
      have y0 := BO.cell 0
      have f0 := BO.frozen 0
      have y1 := BO.cell 1
      have f1 := BO.frozen 1
      have y2 := BO.cell 2
      have f2 := BO.frozen 2
      have y3 := BO.cell 3
      have f3 := BO.frozen 3
      have y4 := BO.cell 4
      have f4 := BO.frozen 4
      have y5 := BO.cell 5
      have f5 := BO.frozen 5
      have y6 := BO.cell 6
      have f6 := BO.frozen 6
      have y7 := BO.cell 7
      have f7 := BO.frozen 7
      unfold zEnt at y0 y1 y2 y3 y4 y5 y6 y7
      simp only [List.getElem?_toArray, List.getElem?_cons_zero, List.getElem?_cons_succ] at y0 y1 y2 y3 y4 y5 y6 y7
      clear BO
      have HF := Lib.hid (fun v0 v1 v2 v3 v4 v5 v6 v7 => grows_set8 HG2.out HW0.out v0 v1 v2 v3 v4 v5 v6 v7)
      go_wp2
      refine bodyPost_ret (v := .agg #[.bool (x.testBit 0), .bool (x.testBit 1), .bool (x.testBit 2), .bool (x.testBit 5), .bool (x.testBit 6), .bool (x.testBit 7), .bool (x.testBit 63), .int .u64 (tab x)]) ?_ rfl ⟨rfl, HF.out _ _ _ _ _ _ _ _⟩
      simp [results, Try.results62, go_sem, y0, y1, y2, y3, y4, y5, y6, y7]
end Go.Proofs.Ytbifpmaofkgkfaa
