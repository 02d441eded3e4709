/- Layer 12: rights, a word that may be, a bit of a mask. -/
import Derived.Test.YtbifpmaofkgkfaaEntQ
import Derived.Test.YtbifpmaofkgkfaaEntR
import Derived.Test.YtbifpmaofkgkfaaEntFacts
namespace Go.Proofs.Ytbifpmaofkgkfaa
open Go.RowKit
theorem ask_bit0 {x k : Nat} {m : Int} (hm : m = ((2 ^ k : Nat) : Int)) (hk : k < 64) (hx : x < 18446744073709551616) : (bits .and .u64 (x : Int) m == 0) = !x.testBit k := by
  rw [← ask_bit hm hk hx, bne, Bool.not_not]
theorem rall_ (w : World) : Calls Try.prog 76 #[] w fun e w' => e = .returned (.agg #[.bool true, .bool true, .bool true]) ∧ Grows w w' := by
  go_enter Try.func76, Try.ntmps76
  go_wp2
  refine bodyPost_ret (v := .agg #[.bool true, .bool true, .bool true]) ?_ rfl ⟨rfl, (Below.refl _ _).alloc (Nat.le_refl _) _⟩
  simp [results, Try.results76, go_sem]
set_option maxHeartbeats 1000000 in
theorem rand_ {y : Int} {x : Nat} (hy : y = x) (a b c : Bool) (w : World) (hx : x < 18446744073709551616) :
    Calls Try.prog 54 #[.agg #[.bool a, .bool b, .bool c], .int .u64 y] w fun e w' => e = .returned (.agg #[.bool (a && x.testBit 1), .bool (b && x.testBit 2), .bool (c && !x.testBit 63)]) ∧ Grows w w' := by
  subst hy
  have Q1 := Lib.hid (ask_bit (x := x) (k := 1) (m := 2) (by decide) (by omega) hx)
  have Q2 := Lib.hid (ask_bit (x := x) (k := 2) (m := 4) (by decide) (by omega) hx)
  have Q3 := Lib.hid (ask_bit0 (x := x) (k := 63) (m := 9223372036854775808) (by decide) (by omega) hx)
  cases a <;> cases b <;> cases c <;> (
  go_enter Try.func54, Try.ntmps54
  go_wp2
  try rw [Q1.out]
  try rw [Q2.out]
  try rw [Q3.out]
  refine bodyPost_ret (v := .agg #[.bool (_ && x.testBit 1), .bool (_ && x.testBit 2), .bool (_ && !x.testBit 63)]) ?_ rfl ⟨rfl, ((Below.refl _ _).alloc (Nat.le_refl _) _).alloc (by simp) _⟩
  simp [results, Try.results54, go_sem])
def seenV (ws : Nat → Nat) (i : Int) (a b c : Bool) (t : Int) (n : Bool) : Value :=
  .agg #[.int .u64 (ws 0), .int .u64 (ws 1), .int .u64 (ws 2), .int .u64 (ws 3), .int .u64 (ws 4), .int .u64 (ws 5), .int .u64 (ws 6), .int .u64 (ws 7), .int .i64 i, .bool a, .bool b, .bool c, .int .i64 t, .bool n]
def mayB (x : Nat) (t : Int) (n : Bool) : Bool := x.testBit 0 && !resB x 1 t n
theorem may_ {y : Int} {x : Nat} (hy : y = x) (ws : Nat → Nat) (i : Int) (a b c : Bool) (t : Int) (n : Bool) (w : World) (hx : x < 18446744073709551616) :
    Calls Try.prog 77 #[seenV ws i a b c t n, .int .u64 y] w fun e w' => e = .returned (.bool (mayB x t n)) ∧ Grows w w' := by
  subst hy
  unfold seenV mayB
  have Q := ask_bit (x := x) (k := 0) (m := 1) (by decide) (by omega) hx
  cases hb : x.testBit 0 <;> (
  rw [hb] at Q
  clear hb
  go_enter Try.func77, Try.ntmps77
  go_wp2_with (go_at_call 38; refine (resv_ rfl 1 t n _ hx).mono ?_; rintro e w' ⟨rfl, rfl⟩)
  go_ret
  exact ⟨rfl, (Below.refl _ _).alloc (Nat.le_refl _) _⟩)
end Go.Proofs.Ytbifpmaofkgkfaa
