/- Layer 12: group.bit, Has, Without. -/
import Derived.Test.YtbifpmaofkgkfaaGrpPlain
namespace Go.Proofs.Ytbifpmaofkgkfaa
open Go.RowKit
def bitN (i : Int) : Nat := if 0 ≤ i ∧ i < 8 then 2 ^ i.toNat else 0
theorem bitN_lt (i : Int) : bitN i < 256 := by
  unfold bitN
  split
  · have : 2 ^ i.toNat < 2 ^ 8 := Nat.pow_lt_pow_right (by decide : 1 < 2) (by omega)
    simpa using this
  · decide
theorem bit8_ (i : Int) (w : World) : Calls Try.prog 81 #[.int .i64 i] w fun e w' => e = .returned (.int .u8 ((bitN i : Nat) : Int)) ∧ w = w' := by
  by_cases h0 : i < 0
  · have E := Lib.hid (show bitN i = 0 by unfold bitN; rw [if_neg (by omega)])
    have n0 : decide (i < 0) = true := decide_eq_true h0
    clear h0
    go_enter Try.func81, Try.ntmps81
    go_wp2
    go_ret
    exact ⟨by rw [E.out]; rfl, rfl⟩
  · by_cases h8 : 8 ≤ i
    · have E := Lib.hid (show bitN i = 0 by unfold bitN; rw [if_neg (by omega)])
      have n0 : decide (i < 0) = false := decide_eq_false h0
      have n8 : decide (8 ≤ i) = true := decide_eq_true h8
      clear h0 h8
      go_enter Try.func81, Try.ntmps81
      go_wp2
      go_ret
      exact ⟨by rw [E.out]; rfl, rfl⟩
    · have hh : i = 0 ∨ i = 1 ∨ i = 2 ∨ i = 3 ∨ i = 4 ∨ i = 5 ∨ i = 6 ∨ i = 7 := by omega
      rcases hh with rfl | rfl | rfl | rfl | rfl | rfl | rfl | rfl <;> (
      go_enter Try.func81, Try.ntmps81
      go_wp2
      go_ret
      exact ⟨rfl, rfl⟩)
theorem u8_and {a b : Nat} (ha : a < 256) (hb : b < 256) : bits .and .u8 (a : Int) (b : Int) = ((a &&& b : Nat) : Int) := by
  have hx : a &&& b < 2 ^ 8 := Nat.and_lt_two_pow _ (by omega)
  have h1 : (BitVec.ofInt 8 (a : Int)).toNat = a := by
    rw [BitVec.ofInt_natCast, BitVec.toNat_ofNat]; exact Nat.mod_eq_of_lt (by omega)
  have h2 : (BitVec.ofInt 8 (b : Int)).toNat = b := by
    rw [BitVec.ofInt_natCast, BitVec.toNat_ofNat]; exact Nat.mod_eq_of_lt (by omega)
  show IntKind.u8.wrap ((BitVec.ofInt 8 (a : Int) &&& BitVec.ofInt 8 (b : Int)).toNat : Int) = _
  rw [BitVec.toNat_and, h1, h2, IntKind.wrap_u8]
  omega
theorem u8_andNot {a b : Nat} (ha : a < 256) (hb : b < 256) : bits .andNot .u8 (a : Int) (b : Int) = ((a &&& (255 - b) : Nat) : Int) := by
  have hx : a &&& (255 - b) < 2 ^ 8 := Nat.and_lt_two_pow _ (by omega)
  have h1 : (BitVec.ofInt 8 (a : Int)).toNat = a := by
    rw [BitVec.ofInt_natCast, BitVec.toNat_ofNat]; exact Nat.mod_eq_of_lt (by omega)
  have h2 : (BitVec.ofInt 8 (b : Int)).toNat = b := by
    rw [BitVec.ofInt_natCast, BitVec.toNat_ofNat]; exact Nat.mod_eq_of_lt (by omega)
  show IntKind.u8.wrap ((BitVec.ofInt 8 (a : Int) &&& ~~~BitVec.ofInt 8 (b : Int)).toNat : Int) = _
  rw [BitVec.toNat_and, BitVec.toNat_not, h1, h2, IntKind.wrap_u8]
  have e : 2 ^ 8 - 1 - b = 255 - b := by omega
  rw [e]
  omega
def hasB (m : Nat) (i : Int) : Bool := decide (0 ≤ i ∧ i < 8) && m.testBit i.toNat
def hasF (f m : Nat) (i : Int) : Nat := if hasB m i then (f + 4096 * i.toNat) % 18446744073709551616 else 0
theorem has_run {m : Nat} (i : Int) (hm : m < 256) : (bits .and .u8 (m : Int) ((bitN i : Nat) : Int) == 0) = !hasB m i := by
  rw [u8_and hm (bitN_lt i)]
  unfold hasB bitN
  by_cases h : 0 ≤ i ∧ i < 8
  · rw [if_pos h, decide_eq_true h, and_bit]
    cases hb : m.testBit i.toNat with
    | false => simp
    | true =>
      have : 0 < 2 ^ i.toNat := Nat.pow_pos (by decide)
      generalize 2 ^ i.toNat = q at *
      simp; omega
  · rw [if_neg h, decide_eq_false h]; simp
theorem has12_ {y z : Int} {f m : Nat} (hy : y = f) (hz : z = m) (a b c d : Bool) (i : Int) (w : World) (hm : m < 256) :
    Calls Try.prog 52 #[.agg #[.int .u64 y, .bool a, .bool b, .bool c, .bool d, .int .u8 z], .int .i64 i] w fun e w' => e = .returned (.tuple #[.int .u64 ((hasF f m i : Nat) : Int), .bool (hasB m i)]) ∧ Grows w w' := by
  subst hy hz
  have q := has_run i hm
  have BT := Lib.hid (fun w => bit8_ i w)
  generalize bitN i = bb at *
  cases hb : hasB m i with
  | false =>
    have E := Lib.hid (show hasF f m i = 0 by unfold hasF; rw [hb]; rfl)
    rw [hb] at q
    clear hb
    go_enter Try.func52, Try.ntmps52
    go_wp2_with fail
    have B0 := Has.new w #[.int .u64 (f : Int), .bool a, .bool b, .bool c, .bool d, .int .u8 (m : Int)] 65
    have HB := Lib.hid ((Below.refl w.heap.size w).alloc (Nat.le_refl _) (.cells #[.int .u64 (f : Int), .bool a, .bool b, .bool c, .bool d, .int .u8 (m : Int)] 65))
    generalize w.alloc (.cells #[.int .u64 (f : Int), .bool a, .bool b, .bool c, .bool d, .int .u8 (m : Int)] 65) = W at *
    have q5 := fun g => B0.gcell g 5
    have q0 := fun g => B0.gcell g 0
    simp only [List.getElem?_toArray, List.getElem?_cons_zero, List.getElem?_cons_succ] at q5 q0
    clear B0
    generalize w.heap.size = bp at q5 q0 ⊢
    refine wp_region_grow (by kernel_rfl) (by kernel_rfl) ?_
    repeat (go_big_quiet_step ((go_at_call 81; exact quiet_same (BT.out _))))
    refine wpQuiet_nil ?_
    intro _ hw'
    obtain ⟨g, rfl⟩ := hw'
    go_wp2
    go_ret2
    exact ⟨ret_tup2 (by rw [E.out]; rfl) rfl, Grows.trans' HB.out (grows_grow _ _)⟩
  | true =>
    have hi : 0 ≤ i ∧ i < 8 := by unfold hasB at hb; simp at hb; exact hb.1
    obtain ⟨k, rfl⟩ : ∃ k : Nat, i = k := ⟨i.toNat, by omega⟩
    have E := Lib.hid (show hasF f m (k : Int) = (f + 4096 * k) % 18446744073709551616 by unfold hasF; rw [hb, if_pos rfl, Int.toNat_natCast])
    rw [hb] at q
    have AR := Lib.hid (at_run f k)
    have k0 : (0 : Int) ≤ (k : Int) := by omega
    have k8 : (k : Int) < 8 := by omega
    clear hb hi
    go_enter Try.func52, Try.ntmps52
    go_wp2_with fail
    have B0 := Has.new w #[.int .u64 (f : Int), .bool a, .bool b, .bool c, .bool d, .int .u8 (m : Int)] 65
    have HB := Lib.hid ((Below.refl w.heap.size w).alloc (Nat.le_refl _) (.cells #[.int .u64 (f : Int), .bool a, .bool b, .bool c, .bool d, .int .u8 (m : Int)] 65))
    generalize w.alloc (.cells #[.int .u64 (f : Int), .bool a, .bool b, .bool c, .bool d, .int .u8 (m : Int)] 65) = W at *
    have q5 := fun g => B0.gcell g 5
    have q0 := fun g => B0.gcell g 0
    simp only [List.getElem?_toArray, List.getElem?_cons_zero, List.getElem?_cons_succ] at q5 q0
    clear B0
    generalize w.heap.size = bp at q5 q0 ⊢
    refine wp_region_grow (by kernel_rfl) (by kernel_rfl) ?_
    repeat (go_big_quiet_step ((go_at_call 81; exact quiet_same (BT.out _))))
    refine wpQuiet_nil ?_
    intro _ hw'
    obtain ⟨g, rfl⟩ := hw'
    go_wp2
    go_ret2
    exact ⟨ret_tup2 (by rw [E.out, ← AR.out]; rfl) rfl, Grows.trans' HB.out (grows_grow _ _)⟩
end Go.Proofs.Ytbifpmaofkgkfaa
