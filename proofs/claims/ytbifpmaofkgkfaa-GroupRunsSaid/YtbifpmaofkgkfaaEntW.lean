/- entry.Word. -/
import Derived.Test.YtbifpmaofkgkfaaEntP
namespace Go.Proofs.Ytbifpmaofkgkfaa
open Go.RowKit
def kk : Nat → Nat
  | 0 => 0 | 1 => 1 | 2 => 2 | 3 => 5 | 4 => 6 | 5 => 7 | _ => 63
def eb (e : Ent) : Nat → Bool
  | 0 => e.p | 1 => e.w | 2 => e.u | 3 => e.a | 4 => e.d | 5 => e.ps | _ => e.nx
def wp (e : Ent) : Nat → Nat
  | 0 => tab e.fr
  | j + 1 => withN (wp e j) ((kk j : Nat) : Int) (eb e j)
theorem wp_7 (e : Ent) : wp e 7 = wordN e := rfl
theorem wp_lt (e : Ent) : ∀ j, wp e j < 18446744073709551616
  | 0 => tab_lt64 _
  | j + 1 => withN_lt (wp_lt e j)
theorem kk_lt (j : Nat) : kk j < 64 := by unfold kk; split <;> omega
theorem kk_ne {i j : Nat} (hj : j < 7) (h : i < j) : kk j ≠ kk i := by
  have h1 : j = 1 ∨ j = 2 ∨ j = 3 ∨ j = 4 ∨ j = 5 ∨ j = 6 := by omega
  rcases h1 with rfl | rfl | rfl | rfl | rfl | rfl
  all_goals
    have h2 : i = 0 ∨ i = 1 ∨ i = 2 ∨ i = 3 ∨ i = 4 ∨ i = 5 := by omega
    rcases h2 with rfl | rfl | rfl | rfl | rfl | rfl <;> first | decide | (exfalso; omega)
theorem kk_tab (j : Nat) (x : Nat) : (tab x).testBit (kk j) = false := by
  rw [testBit_tab]
  unfold kk
  split <;> simp
theorem wp_free (e : Ent) (j : Nat) (hj : j < 7) : ∀ i, i ≤ j → (wp e i).testBit (kk j) = false
  | 0, _ => kk_tab j _
  | i + 1, h => by
    unfold wp
    rw [testBit_withN (kk_lt i), if_neg (kk_ne hj (by omega))]
    exact wp_free e j hj i (by omega)
theorem wp_yes {e : Ent} {j : Nat} {m : Int} (hj : j < 7) (hm : m = ((2 ^ kk j : Nat) : Int)) (h : eb e j = true) : bits .or .u64 ((wp e j : Nat) : Int) m = ((wp e (j + 1) : Nat) : Int) := by
  have hp : 2 ^ kk j < 18446744073709551616 := by have := pow_lt64 (kk_lt j); omega
  rw [hm, u64_or (wp_lt e j) hp]
  have := or_bit (b := true) (kk_lt j) (wp_free e j hj j (Nat.le_refl _))
  rw [if_pos rfl] at this
  show _ = ((withN (wp e j) ((kk j : Nat) : Int) (eb e j) : Nat) : Int)
  rw [this, h]
theorem wp_no {e : Ent} {j : Nat} (hj : j < 7) (h : eb e j = false) : wp e (j + 1) = wp e j := by
  have := or_bit (b := false) (kk_lt j) (wp_free e j hj j (Nat.le_refl _))
  show withN (wp e j) ((kk j : Nat) : Int) (eb e j) = _
  rw [h, ← this]; rfl
set_option maxHeartbeats 2000000 in
set_option maxRecDepth 100000 in
theorem word_ (e : Ent) (w : World) (hf : e.fr < 18446744073709551616) :
    Calls Try.prog 45 #[.agg #[.bool e.p, .bool e.w, .bool e.u, .bool e.a, .bool e.d, .bool e.ps, .bool e.nx, .int .u64 e.fr]] w fun e' w' => e' = .returned (.int .u64 (wordN e)) ∧ Grows w w' := by
  have h0 : ((tab e.fr : Nat) : Int) = ((wp e 0 : Nat) : Int) := rfl
  have H0 := Lib.hid h0
  clear h0
  go_enter Try.func45, Try.ntmps45
  go_wp2_with (go_at_call 42; refine (table_ rfl _ hf).mono ?_; rw [H0.out]; rintro e w' ⟨rfl, rfl⟩)
  have B1 := Has.new (w.alloc (.cells #[.bool e.p, .bool e.w, .bool e.u, .bool e.a, .bool e.d, .bool e.ps, .bool e.nx, .int .u64 e.fr] 50)) #[.bool e.p, .int .u64 1, .bool e.w, .int .u64 2, .bool e.u, .int .u64 4, .bool e.a, .int .u64 32, .bool e.d, .int .u64 64, .bool e.ps, .int .u64 128, .bool e.nx, .int .u64 9223372036854775808] 94
  have G0 : Grows w ((w.alloc (.cells #[.bool e.p, .bool e.w, .bool e.u, .bool e.a, .bool e.d, .bool e.ps, .bool e.nx, .int .u64 e.fr] 50)).alloc (.cells #[.bool e.p, .int .u64 1, .bool e.w, .int .u64 2, .bool e.u, .int .u64 4, .bool e.a, .int .u64 32, .bool e.d, .int .u64 64, .bool e.ps, .int .u64 128, .bool e.nx, .int .u64 9223372036854775808] 94)) := ((Below.refl _ _).alloc (Nat.le_refl _) _).alloc (by simp) _
  have e1 : (w.alloc (.cells #[.bool e.p, .bool e.w, .bool e.u, .bool e.a, .bool e.d, .bool e.ps, .bool e.nx, .int .u64 e.fr] 50)).heap.size = w.heap.size + 1 := by simp
  rw [e1] at B1
  clear e1
  generalize (w.alloc (.cells #[.bool e.p, .bool e.w, .bool e.u, .bool e.a, .bool e.d, .bool e.ps, .bool e.nx, .int .u64 e.fr] 50)).alloc (.cells #[.bool e.p, .int .u64 1, .bool e.w, .int .u64 2, .bool e.u, .int .u64 4, .bool e.a, .int .u64 32, .bool e.d, .int .u64 64, .bool e.ps, .int .u64 128, .bool e.nx, .int .u64 9223372036854775808] 94) = W at *
  generalize w.heap.size + 1 = bs at *
  have HG := Lib.hid G0
  have HB := Lib.hid B1
  have hw7 := Lib.hid (wp_7 e)
  clear G0 B1
  go_loopw [3, 32] (fun v i wr => ∃ k : Nat, k ≤ 7 ∧ i = .int .i64 k ∧ v = .int .u64 ((wp e k : Nat) : Int) ∧ Grows W wr) (fun _ i _ => 7 - (intOf i).toNat)
  case atStart => exact ⟨0, by omega, rfl, rfl, Below.refl _ _⟩
  case round =>
    obtain ⟨k, hk, rfl, rfl, hgr⟩ := hrel
    have BR := HB.out.grows hgr
    have HGR := Lib.hid hgr
    have hk8 : k = 0 ∨ k = 1 ∨ k = 2 ∨ k = 3 ∨ k = 4 ∨ k = 5 ∨ k = 6 ∨ k = 7 := by omega
    clear hk hgr
    rcases hk8 with rfl | rfl | rfl | rfl | rfl | rfl | rfl | rfl
    · have a0 := BR.cell 0
      have a1 := BR.cell 1
      simp only [List.getElem?_toArray, List.getElem?_cons_zero, List.getElem?_cons_succ] at a0 a1
      clear BR
      cases hb : e.p with
      | true =>
        rw [hb] at a0
        have Y := Lib.hid (wp_yes (e := e) (j := 0) (m := 1) (by omega) (by decide) hb)
        clear hb
        go_wp2
        go_roundw
        case rel => exact ⟨1, by omega, rfl, by rw [Y.out], Grows.trans' HGR.out (by repeat (first | exact Below.refl _ _ | refine Below.setCell ?_ (by simp) _ | refine Below.alloc ?_ (by simp) _))⟩
        case measure => simp [intOf]
      | false =>
        rw [hb] at a0
        have Y := Lib.hid (wp_no (e := e) (j := 0) (by omega) hb)
        clear hb
        go_wp2
        go_roundw
        case rel => exact ⟨1, by omega, rfl, by rw [Y.out], Grows.trans' HGR.out (by repeat (first | exact Below.refl _ _ | refine Below.setCell ?_ (by simp) _ | refine Below.alloc ?_ (by simp) _))⟩
        case measure => simp [intOf]
    · have a0 := BR.cell 2
      have a1 := BR.cell 3
      simp only [List.getElem?_toArray, List.getElem?_cons_zero, List.getElem?_cons_succ] at a0 a1
      clear BR
      cases hb : e.w with
      | true =>
        rw [hb] at a0
        have Y := Lib.hid (wp_yes (e := e) (j := 1) (m := 2) (by omega) (by decide) hb)
        clear hb
        go_wp2
        go_roundw
        case rel => exact ⟨2, by omega, rfl, by rw [Y.out], Grows.trans' HGR.out (by repeat (first | exact Below.refl _ _ | refine Below.setCell ?_ (by simp) _ | refine Below.alloc ?_ (by simp) _))⟩
        case measure => simp [intOf]
      | false =>
        rw [hb] at a0
        have Y := Lib.hid (wp_no (e := e) (j := 1) (by omega) hb)
        clear hb
        go_wp2
        go_roundw
        case rel => exact ⟨2, by omega, rfl, by rw [Y.out], Grows.trans' HGR.out (by repeat (first | exact Below.refl _ _ | refine Below.setCell ?_ (by simp) _ | refine Below.alloc ?_ (by simp) _))⟩
        case measure => simp [intOf]
    · have a0 := BR.cell 4
      have a1 := BR.cell 5
      simp only [List.getElem?_toArray, List.getElem?_cons_zero, List.getElem?_cons_succ] at a0 a1
      clear BR
      cases hb : e.u with
      | true =>
        rw [hb] at a0
        have Y := Lib.hid (wp_yes (e := e) (j := 2) (m := 4) (by omega) (by decide) hb)
        clear hb
        go_wp2
        go_roundw
        case rel => exact ⟨3, by omega, rfl, by rw [Y.out], Grows.trans' HGR.out (by repeat (first | exact Below.refl _ _ | refine Below.setCell ?_ (by simp) _ | refine Below.alloc ?_ (by simp) _))⟩
        case measure => simp [intOf]
      | false =>
        rw [hb] at a0
        have Y := Lib.hid (wp_no (e := e) (j := 2) (by omega) hb)
        clear hb
        go_wp2
        go_roundw
        case rel => exact ⟨3, by omega, rfl, by rw [Y.out], Grows.trans' HGR.out (by repeat (first | exact Below.refl _ _ | refine Below.setCell ?_ (by simp) _ | refine Below.alloc ?_ (by simp) _))⟩
        case measure => simp [intOf]
    · have a0 := BR.cell 6
      have a1 := BR.cell 7
      simp only [List.getElem?_toArray, List.getElem?_cons_zero, List.getElem?_cons_succ] at a0 a1
      clear BR
      cases hb : e.a with
      | true =>
        rw [hb] at a0
        have Y := Lib.hid (wp_yes (e := e) (j := 3) (m := 32) (by omega) (by decide) hb)
        clear hb
        go_wp2
        go_roundw
        case rel => exact ⟨4, by omega, rfl, by rw [Y.out], Grows.trans' HGR.out (by repeat (first | exact Below.refl _ _ | refine Below.setCell ?_ (by simp) _ | refine Below.alloc ?_ (by simp) _))⟩
        case measure => simp [intOf]
      | false =>
        rw [hb] at a0
        have Y := Lib.hid (wp_no (e := e) (j := 3) (by omega) hb)
        clear hb
        go_wp2
        go_roundw
        case rel => exact ⟨4, by omega, rfl, by rw [Y.out], Grows.trans' HGR.out (by repeat (first | exact Below.refl _ _ | refine Below.setCell ?_ (by simp) _ | refine Below.alloc ?_ (by simp) _))⟩
        case measure => simp [intOf]
    · have a0 := BR.cell 8
      have a1 := BR.cell 9
      simp only [List.getElem?_toArray, List.getElem?_cons_zero, List.getElem?_cons_succ] at a0 a1
      clear BR
      cases hb : e.d with
      | true =>
        rw [hb] at a0
        have Y := Lib.hid (wp_yes (e := e) (j := 4) (m := 64) (by omega) (by decide) hb)
        clear hb
        go_wp2
        go_roundw
        case rel => exact ⟨5, by omega, rfl, by rw [Y.out], Grows.trans' HGR.out (by repeat (first | exact Below.refl _ _ | refine Below.setCell ?_ (by simp) _ | refine Below.alloc ?_ (by simp) _))⟩
        case measure => simp [intOf]
      | false =>
        rw [hb] at a0
        have Y := Lib.hid (wp_no (e := e) (j := 4) (by omega) hb)
        clear hb
        go_wp2
        go_roundw
        case rel => exact ⟨5, by omega, rfl, by rw [Y.out], Grows.trans' HGR.out (by repeat (first | exact Below.refl _ _ | refine Below.setCell ?_ (by simp) _ | refine Below.alloc ?_ (by simp) _))⟩
        case measure => simp [intOf]
    · have a0 := BR.cell 10
      have a1 := BR.cell 11
      simp only [List.getElem?_toArray, List.getElem?_cons_zero, List.getElem?_cons_succ] at a0 a1
      clear BR
      cases hb : e.ps with
      | true =>
        rw [hb] at a0
        have Y := Lib.hid (wp_yes (e := e) (j := 5) (m := 128) (by omega) (by decide) hb)
        clear hb
        go_wp2
        go_roundw
        case rel => exact ⟨6, by omega, rfl, by rw [Y.out], Grows.trans' HGR.out (by repeat (first | exact Below.refl _ _ | refine Below.setCell ?_ (by simp) _ | refine Below.alloc ?_ (by simp) _))⟩
        case measure => simp [intOf]
      | false =>
        rw [hb] at a0
        have Y := Lib.hid (wp_no (e := e) (j := 5) (by omega) hb)
        clear hb
        go_wp2
        go_roundw
        case rel => exact ⟨6, by omega, rfl, by rw [Y.out], Grows.trans' HGR.out (by repeat (first | exact Below.refl _ _ | refine Below.setCell ?_ (by simp) _ | refine Below.alloc ?_ (by simp) _))⟩
        case measure => simp [intOf]
    · have a0 := BR.cell 12
      have a1 := BR.cell 13
      simp only [List.getElem?_toArray, List.getElem?_cons_zero, List.getElem?_cons_succ] at a0 a1
      clear BR
      cases hb : e.nx with
      | true =>
        rw [hb] at a0
        have Y := Lib.hid (wp_yes (e := e) (j := 6) (m := 9223372036854775808) (by omega) (by decide) hb)
        clear hb
        go_wp2
        go_roundw
        case rel => exact ⟨7, by omega, rfl, by rw [Y.out], Grows.trans' HGR.out (by repeat (first | exact Below.refl _ _ | refine Below.setCell ?_ (by simp) _ | refine Below.alloc ?_ (by simp) _))⟩
        case measure => simp [intOf]
      | false =>
        rw [hb] at a0
        have Y := Lib.hid (wp_no (e := e) (j := 6) (by omega) hb)
        clear hb
        go_wp2
        go_roundw
        case rel => exact ⟨7, by omega, rfl, by rw [Y.out], Grows.trans' HGR.out (by repeat (first | exact Below.refl _ _ | refine Below.setCell ?_ (by simp) _ | refine Below.alloc ?_ (by simp) _))⟩
        case measure => simp [intOf]
    · clear BR
      go_wp2
      go_ret
      exact ⟨by rw [← hw7.out]; rfl, Grows.trans' HG.out HGR.out⟩
end Go.Proofs.Ytbifpmaofkgkfaa
