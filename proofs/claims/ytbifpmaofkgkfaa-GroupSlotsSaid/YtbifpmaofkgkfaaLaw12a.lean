/- The laws of layer 12: GroupSlots. -/
import Derived.Test.YtbifpmaofkgkfaaGrpAwake
namespace Go.Proofs.Ytbifpmaofkgkfaa
open Go.RowKit
theorem sl_same (x c : Nat) (hc : c < 8) : slV (slN x c) = slV x := by
  have h : slN x c - slN x c % 64 = x - x % 64 := by unfold slN; omega
  unfold slV
  have e : ∀ j, slN (slN x c) j = slN x j := fun j => by show slN x c - slN x c % 64 + 8 * j = _; rw [h]; rfl
  simp only [e]
def fnd (x k : Nat) : Bool := decide (x % 64 / 8 < k)
theorem fnd_step (x k : Nat) (hx : x % 8 = 0) : fnd x (k + 1) = (fnd x k || decide (slN x k = x)) := by
  unfold fnd slN
  rw [Bool.eq_iff_iff]
  simp only [Bool.or_eq_true, decide_eq_true_eq]
  omega
theorem sl_lt {x j : Nat} (hx : x < 18446744073709551616) (hj : j < 8) : slN x j < 18446744073709551616 := by unfold slN; omega
def slC (x : Nat) : Array Value := #[.int .u64 ((slN x 0 : Nat) : Int), .int .u64 ((slN x 1 : Nat) : Int), .int .u64 ((slN x 2 : Nat) : Int), .int .u64 ((slN x 3 : Nat) : Int), .int .u64 ((slN x 4 : Nat) : Int), .int .u64 ((slN x 5 : Nat) : Int), .int .u64 ((slN x 6 : Nat) : Int), .int .u64 ((slN x 7 : Nat) : Int)]
theorem slC_get (x : Nat) {j : Nat} (h : j < 8) : (slC x)[j]? = some (.int .u64 ((slN x j : Nat) : Int)) := by
  have h8 : j = 0 ∨ j = 1 ∨ j = 2 ∨ j = 3 ∨ j = 4 ∨ j = 5 ∨ j = 6 ∨ j = 7 := by omega
  rcases h8 with rfl | rfl | rfl | rfl | rfl | rfl | rfl | rfl <;> rfl
set_option maxHeartbeats 4000000 in
set_option maxRecDepth 100000 in
theorem groupSlots_ (n o : Nat) (w : World) (hn : n < 4294967296) (ho : o < 256) :
    Calls Try.prog 16 #[.int .u32 n, .int .u8 o] w fun e w' => e = .returned (.bool true) ∧ Grows w w' := by
  have SL := Lib.hid (fun w => slots_ (x := n * 8) (y := (n : Int) * 8) (by omega) w (by omega))
  have hx : n * 8 < 18446744073709551616 := by omega
  have hx8 : n * 8 % 8 = 0 := by omega
  have HN := Lib.hid (show (n : Int) * 8 = ((n * 8 : Nat) : Int) by omega)
  obtain ⟨c, hc, hoc⟩ : ∃ c : Nat, c < 8 ∧ (o : Int) % 8 = c := ⟨o % 8, by omega, by omega⟩
  have SS := Lib.hid (fun w => slots_ (x := slN (n * 8) c) rfl w (sl_lt hx hc))
  rw [sl_same _ _ hc] at SS
  have EQS := eq_slots (n * 8)
  unfold slV at SL SS EQS
  have hnn := HN.out
  generalize n * 8 = x at *
  go_enter Try.func16, Try.ntmps16
  go_wp2_with fail
  refine (awake12_ _).mono ?_; rintro e w1 ⟨rfl, hb1⟩
  go_wp2_with fail
  rw [hnn] at SL
  refine (SL.out _).mono ?_; rintro e w2 ⟨rfl, hb2⟩
  have B0 := Has.new w2 (slC x) 55
  have GA := Below.alloc (hb1.trans' hb2) (hb1.trans' hb2).size (.cells (slC x) 55)
  go_wp2_with fail
  have B0' : Has (w2.alloc (.cells #[.int .u64 ((slN x 0 : Nat) : Int), .int .u64 ((slN x 1 : Nat) : Int), .int .u64 ((slN x 2 : Nat) : Int), .int .u64 ((slN x 3 : Nat) : Int), .int .u64 ((slN x 4 : Nat) : Int), .int .u64 ((slN x 5 : Nat) : Int), .int .u64 ((slN x 6 : Nat) : Int), .int .u64 ((slN x 7 : Nat) : Int)] 55)) w2.heap.size (slC x) 55 := B0
  have GA' : Grows w (w2.alloc (.cells #[.int .u64 ((slN x 0 : Nat) : Int), .int .u64 ((slN x 1 : Nat) : Int), .int .u64 ((slN x 2 : Nat) : Int), .int .u64 ((slN x 3 : Nat) : Int), .int .u64 ((slN x 4 : Nat) : Int), .int .u64 ((slN x 5 : Nat) : Int), .int .u64 ((slN x 6 : Nat) : Int), .int .u64 ((slN x 7 : Nat) : Int)] 55)) := GA
  clear B0 GA hb1 hb2
  generalize w2.alloc (.cells #[.int .u64 ((slN x 0 : Nat) : Int), .int .u64 ((slN x 1 : Nat) : Int), .int .u64 ((slN x 2 : Nat) : Int), .int .u64 ((slN x 3 : Nat) : Int), .int .u64 ((slN x 4 : Nat) : Int), .int .u64 ((slN x 5 : Nat) : Int), .int .u64 ((slN x 6 : Nat) : Int), .int .u64 ((slN x 7 : Nat) : Int)] 55) = W at *
  generalize w2.heap.size = bp at *
  have HB := Lib.hid B0'
  have HG := Lib.hid GA'
  have SG := Lib.hid (fun j h => slC_get x (j := j) h)
  have HX := Lib.hid hx
  have HX8 := Lib.hid hx8
  have HC := Lib.hid hc
  have HOC := Lib.hid hoc
  clear B0' GA' hx8 hnn HN hc hoc
  go_loopw [8, 9] (fun v i wr => ∃ k : Nat, k ≤ 8 ∧ i = .int .i64 k ∧ v = .bool (fnd x k) ∧ Hid (Has wr bp (slC x) 55 ∧ Grows w wr)) (fun _ i _ => 8 - (intOf i).toNat)
  case atStart => exact ⟨0, by omega, rfl, rfl, Lib.hid ⟨HB.out, HG.out⟩⟩
  case round =>
    obtain ⟨k, hk, rfl, rfl, hp⟩ := hrel
    by_cases hlt : k < 8
    · have FS := Lib.hid (fnd_step x k HX8.out)
      have ck := hp.out.1.cell k
      rw [SG.out k hlt] at ck
      have gk := fun g => (hp.out.1.gcell g k).trans (SG.out k hlt)
      have g0 := fun g => (hp.out.1.gcell g 0).trans (SG.out 0 (by omega))
      have k0 : (0 : Int) ≤ (k : Int) := by omega
      have k8 : (k : Int) < 8 := by omega
      have ES : (((slN x k : Nat) : Int) == ((x : Nat) : Int)) = decide (slN x k = x) := by rw [beq_nat]; rfl
      have EA : IntKind.u64.wrap (((slN x 0 : Nat) : Int) + 8 * ((k : Nat) : Int)) = ((slN x k : Nat) : Int) := by have := HX.out; rw [IntKind.wrap_u64]; unfold slN; omega
      generalize decide (slN x k = x) = m1 at ES FS
      generalize hf : fnd x k = m0 at FS ⊢
      clear hf
      cases m0 <;> cases m1 <;> (
      go_wp2_with fail
      refine wp_region_grow (by kernel_rfl) (by kernel_rfl) ?_
      repeat (go_big_quiet_step (fail))
      refine wpQuiet_nil ?_
      intro _ hw'
      obtain ⟨g, rfl⟩ := hw'
      go_wp2_with fail
      go_roundw
      case rel => exact ⟨k + 1, by omega, by go_num, by rw [FS.out]; rfl, Lib.hid ⟨hp.out.1.grows (grows_grow _ _), Grows.trans' hp.out.2 (grows_grow _ _)⟩⟩
      case measure => simp [intOf]; omega)
    · obtain rfl : k = 8 := by omega
      have FT := Lib.hid (show fnd x 8 = true by unfold fnd; rw [decide_eq_true]; omega)
      rw [FT.out]
      have hc := HC.out
      have M64 : ((slN x 0 : Nat) : Int) % 64 = 0 := by unfold slN; omega
      have q0 := fun g => hp.out.1.gcell g 0
      have q1 := fun g => hp.out.1.gcell g 1
      have q2 := fun g => hp.out.1.gcell g 2
      have q3 := fun g => hp.out.1.gcell g 3
      have q4 := fun g => hp.out.1.gcell g 4
      have q5 := fun g => hp.out.1.gcell g 5
      have q6 := fun g => hp.out.1.gcell g 6
      have q7 := fun g => hp.out.1.gcell g 7
      unfold slC at q0 q1 q2 q3 q4 q5 q6 q7
      simp only [List.getElem?_toArray, List.getElem?_cons_zero, List.getElem?_cons_succ] at q0 q1 q2 q3 q4 q5 q6 q7
      have ho8 := HOC.out
      have h8 : c = 0 ∨ c = 1 ∨ c = 2 ∨ c = 3 ∨ c = 4 ∨ c = 5 ∨ c = 6 ∨ c = 7 := by omega
      clear hc HC HOC SG HX HX8 HB HG hlt hk
      rcases h8 with rfl | rfl | rfl | rfl | rfl | rfl | rfl | rfl <;> (
      go_wp2_with fail
      refine wp_region_grow (by kernel_rfl) (by kernel_rfl) ?_
      repeat (go_big_quiet_step ((go_at_call 55; exact quiet_grows (SS.out _))))
      refine wpQuiet_nil ?_
      intro _ hw'
      obtain ⟨g, rfl⟩ := hw'
      go_wp2_with fail
      go_ret
      exact ⟨rfl, Grows.trans' hp.out.2 (grows_grow _ _)⟩)
end Go.Proofs.Ytbifpmaofkgkfaa
