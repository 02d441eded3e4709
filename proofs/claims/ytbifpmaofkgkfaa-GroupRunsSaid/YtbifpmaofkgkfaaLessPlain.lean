/- Layer 12: plain facts of Without. -/
import Derived.Test.YtbifpmaofkgkfaaGrpAwake
namespace Go.Proofs.Ytbifpmaofkgkfaa
open Go.RowKit
theorem outN_bit (m : Nat) (i : Int) (j : Nat) (hm : m < 256) : (outN m i).testBit j = (m.testBit j && !(decide (0 ≤ i ∧ i < 8) && decide (i = (j : Int)))) := by
  unfold outN bitN
  rw [Nat.testBit_and]
  by_cases h : 0 ≤ i ∧ i < 8
  · rw [if_pos h, decide_eq_true h]
    obtain ⟨k, rfl⟩ : ∃ k : Nat, i = k := ⟨i.toNat, by omega⟩
    rw [Int.toNat_natCast]
    have hp : 2 ^ k < 2 ^ 8 := Nat.pow_lt_pow_right (by decide : 1 < 2) (by omega)
    have := Nat.testBit_two_pow_sub_succ (n := 8) (x := 2 ^ k) hp j
    have e2 : 2 ^ 8 - (2 ^ k + 1) = 255 - 2 ^ k := by omega
    rw [e2] at this
    rw [this, Nat.testBit_two_pow]
    by_cases hj : j < 8
    · have e : decide (k = j) = decide ((k : Int) = (j : Int)) := by rw [decide_eq_decide]; omega
      rw [e, decide_eq_true hj]; simp
    · have hb : m.testBit j = false := Nat.testBit_lt_two_pow (Nat.lt_of_lt_of_le hm (by
        have : (2 : Nat) ^ 8 ≤ 2 ^ j := Nat.pow_le_pow_right (by decide) (by omega)
        simpa using this))
      rw [hb]; simp
  · rw [if_neg h, decide_eq_false h]
    by_cases hj : j < 8
    · have : (255 - 0 : Nat).testBit j = true := by
        rw [show (255 - 0 : Nat) = 2 ^ 8 - 1 from rfl, Nat.testBit_two_pow_sub_one, decide_eq_true hj]
      rw [this]; simp
    · have hb : m.testBit j = false := Nat.testBit_lt_two_pow (Nat.lt_of_lt_of_le hm (by
        have : (2 : Nat) ^ 8 ≤ 2 ^ j := Nat.pow_le_pow_right (by decide) (by omega)
        simpa using this))
      rw [hb]; simp
theorem outN_lt {m : Nat} (i : Int) (hm : m < 256) : outN m i < 256 := Nat.lt_of_le_of_lt Nat.and_le_left hm
def Ln.out (l : Ln) (i : Int) : Ln := outV l.f l.a l.b l.c l.d l.m i
theorem Ln.out_m (l : Ln) (i : Int) : (l.out i).m = outN l.m i := by
  unfold Ln.out outV
  by_cases h : outN l.m i = 0
  · rw [if_pos h, h]; rfl
  · rw [if_neg h]
theorem Ln.out_lt {l : Ln} (i : Int) (h : l.m < 256) : (l.out i).m < 256 := by rw [Ln.out_m]; exact outN_lt i h
theorem Ln.out_zero (l : Ln) (i : Int) (h : (l.out i).m = 0) : l.out i = Ln.zero := by
  rw [Ln.out_m] at h
  unfold Ln.out outV
  rw [if_pos h]
theorem hasB_m (m : Nat) (k : Nat) (hk : k < 8) : hasB m (k : Int) = m.testBit k := by
  unfold hasB
  rw [decide_eq_true (by omega : 0 ≤ (k : Int) ∧ (k : Int) < 8), Int.toNat_natCast, Bool.true_and]
theorem less_gone (l : Ln) (a : Nat) (ha : a < 8) (hm : l.m < 256) : hasB (l.out (a : Int)).m (a : Int) = false := by
  rw [hasB_m _ _ ha, Ln.out_m, outN_bit _ _ _ hm, decide_eq_true (by omega : 0 ≤ (a : Int) ∧ (a : Int) < 8), decide_eq_true rfl]
  simp
theorem less_still (l : Ln) (a b : Nat) (hb : b < 8) (hm : l.m < 256) (hab : a ≠ b) : hasB (l.out (a : Int)).m (b : Int) = hasB l.m (b : Int) := by
  rw [hasB_m _ _ hb, hasB_m _ _ hb, Ln.out_m, outN_bit _ _ _ hm, decide_eq_false (by omega : ¬ (a : Int) = (b : Int))]
  simp
theorem less_now (l : Ln) (a b : Nat) (hb : b < 8) (hm : l.m < 256) (hab : a ≠ b) : hasF (l.out (a : Int)).f (l.out (a : Int)).m (b : Int) = hasF l.f l.m (b : Int) := by
  have h := less_still l a b hb hm hab
  unfold hasF
  rw [h]
  cases hc : hasB l.m (b : Int) with
  | false => rfl
  | true =>
    rw [if_pos rfl, if_pos rfl]
    rw [hc, hasB_m _ _ hb] at h
    have hf : (l.out (a : Int)).f = l.f := by
      rw [Ln.out_m] at h
      unfold Ln.out outV
      rw [if_neg]
      intro h0
      rw [h0] at h
      simp at h
    rw [hf]
def Ln.outs (l : Ln) : Nat → Ln
  | 0 => l
  | k + 1 => (l.outs k).out (k : Int)
theorem Ln.outs_lt {l : Ln} (h : l.m < 256) (k : Nat) : (l.outs k).m < 256 := by
  induction k with
  | zero => exact h
  | succ k ih => exact Ln.out_lt _ ih
theorem Ln.outs_bit {l : Ln} (h : l.m < 256) (k : Nat) (hk : k ≤ 8) : ∀ j, j < k → (l.outs k).m.testBit j = false := by
  induction k with
  | zero => intro j hj; omega
  | succ k ih =>
    intro j hj
    show ((l.outs k).out (k : Int)).m.testBit j = false
    rw [Ln.out_m, outN_bit _ _ _ (Ln.outs_lt h k)]
    by_cases hjk : j = k
    · subst hjk
      rw [decide_eq_true (by omega : 0 ≤ (j : Int) ∧ (j : Int) < 8), decide_eq_true rfl]; simp
    · rw [ih (by omega) j (by omega), Bool.false_and]
theorem Ln.outs_8 {l : Ln} (h : l.m < 256) : l.outs 8 = Ln.zero := by
  apply Ln.out_zero (l.outs 7) ((7 : Nat) : Int)
  show (l.outs 8).m = 0
  apply Nat.eq_of_testBit_eq
  intro j
  rw [Nat.zero_testBit]
  by_cases hj : j < 8
  · exact Ln.outs_bit h 8 (by omega) j hj
  · exact Nat.testBit_lt_two_pow (Nat.lt_of_lt_of_le (Ln.outs_lt h 8) (by
      have : (2 : Nat) ^ 8 ≤ 2 ^ j := Nat.pow_le_pow_right (by decide) (by omega)
      simpa using this))
theorem less_last (l : Ln) (a b : Nat) (ha : a < 8) (hm : l.m < 256) : ((l.out (a : Int)).out (b : Int)).out (a : Int) = (l.out (a : Int)).out (b : Int) := by
  have h1 := Ln.out_lt (a : Int) hm
  have h2 := Ln.out_lt (b : Int) h1
  have e : outN ((l.out (a : Int)).out (b : Int)).m (a : Int) = ((l.out (a : Int)).out (b : Int)).m := by
    apply Nat.eq_of_testBit_eq
    intro j
    rw [outN_bit _ _ _ h2, Ln.out_m, outN_bit _ _ _ h1, Ln.out_m, outN_bit _ _ _ hm, decide_eq_true (by omega : 0 ≤ (a : Int) ∧ (a : Int) < 8)]
    cases l.m.testBit j <;> cases decide ((a : Int) = (j : Int)) <;> simp
  by_cases h0 : ((l.out (a : Int)).out (b : Int)).m = 0
  · rw [Ln.out_zero _ _ h0]
    apply Ln.out_zero
    rw [Ln.out_m]
    show (0 &&& _ : Nat) = 0
    exact Nat.zero_and _
  · have ne : outN ((l.out (a : Int)).out (b : Int)).m (a : Int) ≠ 0 := by rw [e]; exact h0
    generalize (l.out (a : Int)).out (b : Int) = q at *
    unfold Ln.out outV
    rw [if_neg ne, e]
theorem runN_lt (ws : Nat → Nat) (i : Int) (a b c : Bool) (t : Int) (n : Bool) : (runN ws i a b c t n).m < 256 := by
  unfold runN
  split
  · exact gm_lt _ 8
  · decide
theorem wo_ (l : Ln) (i : Int) (w : World) (hm : l.m < 256) : Calls Try.prog 59 #[lnV l, .int .i64 i] w fun e w' => e = .returned (lnV (l.out i)) ∧ Grows w w' :=
  without_ rfl rfl l.a l.b l.c l.d i w hm
theorem ha_ (l : Ln) (i : Int) (w : World) (hm : l.m < 256) : Calls Try.prog 52 #[lnV l, .int .i64 i] w fun e w' => e = .returned (.tuple #[.int .u64 ((hasF l.f l.m i : Nat) : Int), .bool (hasB l.m i)]) ∧ Grows w w' :=
  has12_ rfl rfl l.a l.b l.c l.d i w hm
theorem seenW0 (w : World) (ws : Nat → Nat) (i : Int) (a b c : Bool) (t : Int) (n : Bool) : Has (w.alloc (.cells (seenC ws i a b c t n) 59)) w.heap.size (seenC ws i a b c t n) 59 ∧ Grows w (w.alloc (.cells (seenC ws i a b c t n) 59)) := ⟨Has.new _ _ _, (Below.refl _ _).alloc (Nat.le_refl _) _⟩
def lC (l : Ln) : Array Value := #[.int .u64 l.f, .bool l.a, .bool l.b, .bool l.c, .bool l.d, .int .u8 l.m]
structure LInv (w : World) (l m : Ln) (bl bm : Nat) (k : Nat) (wr : World) : Prop where
  one : Has wr bl (lC (l.outs k)) 65
  two : Has wr bm (lC m) 65
  grows : Grows w wr
theorem LInv.to {w : World} {l m : Ln} {bl bm k : Nat} {wr wr' : World} (h : LInv w l m bl bm k wr) (g : Grows wr wr') : LInv w l m bl bm k wr' := ⟨h.one.grows g, h.two.grows g, Grows.trans' h.grows g⟩
theorem LInv.step {w : World} {l m : Ln} {bl bm k : Nat} {wr : World} (h : LInv w l m bl bm k wr) (hne : bm ≠ bl) (hle : w.heap.size ≤ bl) (q : Ln) (hq : q = l.outs (k + 1)) :
    LInv w l m bl bm (k + 1) ((((((wr.setCell ⟨bl, 0, none⟩ (.int .u64 q.f)).setCell ⟨bl, 1, none⟩ (.bool q.a)).setCell ⟨bl, 2, none⟩ (.bool q.b)).setCell ⟨bl, 3, none⟩ (.bool q.c)).setCell ⟨bl, 4, none⟩ (.bool q.d)).setCell ⟨bl, 5, none⟩ (.int .u8 q.m)) := by
  subst hq
  have H := (((((h.one.set 0 (.int .u64 (l.outs (k + 1)).f)).set 1 (.bool (l.outs (k + 1)).a)).set 2 (.bool (l.outs (k + 1)).b)).set 3 (.bool (l.outs (k + 1)).c)).set 4 (.bool (l.outs (k + 1)).d)).set 5 (.int .u8 (l.outs (k + 1)).m)
  unfold lC at H
  simp only [List.setIfInBounds_toArray, List.set_cons_succ, List.set_cons_zero] at H
  exact ⟨H, (((((h.two.far hne 0 _).far hne 1 _).far hne 2 _).far hne 3 _).far hne 4 _).far hne 5 _, Below.trans h.grows (below_set6 hle _ _ _ _ _ _)⟩
def wsOf (x0 x1 x2 x3 x4 x5 x6 x7 : Nat) : Nat → Nat
  | 0 => x0 | 1 => x1 | 2 => x2 | 3 => x3 | 4 => x4 | 5 => x5 | 6 => x6 | _ => x7
theorem wsOf_lt {x0 x1 x2 x3 x4 x5 x6 x7 : Nat} (h0 : x0 < 18446744073709551616) (h1 : x1 < 18446744073709551616) (h2 : x2 < 18446744073709551616) (h3 : x3 < 18446744073709551616) (h4 : x4 < 18446744073709551616) (h5 : x5 < 18446744073709551616) (h6 : x6 < 18446744073709551616) (h7 : x7 < 18446744073709551616) (j : Nat) : wsOf x0 x1 x2 x3 x4 x5 x6 x7 j < 18446744073709551616 := by
  unfold wsOf
  split <;> assumption
end Go.Proofs.Ytbifpmaofkgkfaa
