/- The laws of layer 5: EntrySlots. -/
import Derived.Test.YtbifpmaofkgkfaaLaw05
namespace Go.Proofs.Ytbifpmaofkgkfaa
open Go.RowKit
theorem slot_facts (t a : Nat) (k : Int) : slotN t a k = tab t + 8 * idx a k ∧ idx a k < 512 ∧ tab t % 4096 = 0 ∧ tab t < 4503599627370496 := by
  refine ⟨rfl, ?_, by unfold tab; omega, tab_lt t⟩
  unfold idx; (repeat' split) <;> omega
theorem slots_at (t a b n : Nat) (k : Int) (w : World) (ht : t < 18446744073709551616) (ha : a < 18446744073709551616) (hb : b < 18446744073709551616) (hn : n < 256) (hk : 1 + (n : Int) % 4 = k) :
    Calls Try.prog 8 #[.int .u64 t, .agg #[.int .u64 a, .int .u64 b], .int .u8 n] w fun e w' => e = .returned (.bool true) ∧ Grows w w' := by
  obtain ⟨p1, p2, p3, p4⟩ := slot_facts t a k
  obtain ⟨q1, q2, _, _⟩ := slot_facts t b k
  have SP := Lib.hid (fun w => slot_ (t := t) (a := a) rfl rfl k w ht ha)
  have SQ := Lib.hid (fun w => slot_ (t := t) (a := b) rfl rfl k w ht hb)
  have IP := Lib.hid (fun w => index_ (a := a) rfl k w ha)
  have IQ := Lib.hid (fun w => index_ (a := b) rfl k w hb)
  have TB := Lib.hid (fun w => table_ (a := t) rfl w ht)
  generalize slotN t a k = P at *
  generalize slotN t b k = Q at *
  generalize idx a k = i at *
  generalize idx b k = j at *
  generalize tab t = B at *
  have m1 : (P : Int) % 8 = 0 := by omega
  have m2 : (B : Int) ≤ (P : Int) := by omega
  have m3 : (P : Int) < (B : Int) + 4096 := by omega
  have m4 : (B : Int) + 4096 ≤ 18446744073709551615 := by omega
  have h3 : (((P : Int) == (Q : Int)) = true ∧ ((i : Int) == (j : Int)) = true ∧ ¬ ((P : Int) < (Q : Int)) ∧ ¬ ((i : Int) < (j : Int))) ∨ (((P : Int) == (Q : Int)) = false ∧ ((i : Int) == (j : Int)) = false ∧ ((P : Int) < (Q : Int)) ∧ ((i : Int) < (j : Int))) ∨ (((P : Int) == (Q : Int)) = false ∧ ((i : Int) == (j : Int)) = false ∧ ¬ ((P : Int) < (Q : Int)) ∧ ¬ ((i : Int) < (j : Int))) := by
    simp only [beq_iff_eq, beq_eq_false_iff_ne, ne_eq]
    omega
  have K := Lib.hid hk
  have DD := Lib.hid (show (decide (P < Q) == decide (i < j)) = true by rw [beq_iff_eq, decide_eq_decide]; omega)
  clear p1 p2 p3 p4 q1 q2 hk
  rcases h3 with ⟨s1, s2, s3, s4⟩ | ⟨s1, s2, s3, s4⟩ | ⟨s1, s2, s3, s4⟩ <;> (
  go_enter Try.func8, Try.ntmps8
  go_wp2_with fail
  refine (awake05_ _).mono ?_; rintro e w1 ⟨rfl, hb1⟩
  have A0 := (Has.new w _ _).grows hb1
  have HB := Lib.hid (Grows.trans' ((Below.refl _ _).alloc (Nat.le_refl _) _) hb1)
  have c0 := A0.cell 0
  have c1 := A0.cell 1
  simp only [List.getElem?_toArray, List.getElem?_cons_zero, List.getElem?_cons_succ] at c0 c1
  clear hb1 A0
  generalize w.heap.size = bp at *
  have hk := K.out
  go_wp2_with fail
  refine (SP.out _).mono ?_; rintro e w2 ⟨rfl, hb2⟩
  go_wp2_with fail
  refine (SQ.out _).mono ?_; rintro e w3 ⟨rfl, hb3⟩
  go_wp2_with fail
  refine (TB.out _).mono ?_; rintro e w4 ⟨rfl, rfl⟩
  go_wp2_with fail
  refine (IP.out _).mono ?_; rintro e w4 ⟨rfl, hb4⟩
  go_wp2_with fail
  refine (IQ.out _).mono ?_; rintro e w5 ⟨rfl, hb5⟩
  go_wp2_with fail
  refine (IP.out _).mono ?_; rintro e w6 ⟨rfl, hb6⟩
  go_wp2_with fail
  refine (IQ.out _).mono ?_; rintro e w7 ⟨rfl, hb7⟩
  go_wp2_with fail
  go_ret
  refine ⟨?_, Grows.trans' HB.out ((hb2.trans' hb3).trans' ((hb4.trans' hb5).trans' (hb6.trans' hb7)))⟩
  first | rfl | exact congrArg (fun b => Ending.returned (.bool b)) DD.out)
theorem entrySlots_ (t a b n : Nat) (w : World) (ht : t < 18446744073709551616) (ha : a < 18446744073709551616) (hb : b < 18446744073709551616) (hn : n < 256) :
    Calls Try.prog 8 #[.int .u64 t, .agg #[.int .u64 a, .int .u64 b], .int .u8 n] w fun e w' => e = .returned (.bool true) ∧ Grows w w' :=
  slots_at t a b n _ w ht ha hb hn rfl
end Go.Proofs.Ytbifpmaofkgkfaa
