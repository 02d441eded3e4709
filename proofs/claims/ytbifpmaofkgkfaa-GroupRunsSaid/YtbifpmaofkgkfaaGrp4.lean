/- Layer 12: group.Slots. -/
import Derived.Test.YtbifpmaofkgkfaaGrp3
import Derived.DeepKeys
namespace Go.Proofs.Ytbifpmaofkgkfaa
open Go.RowKit
def z8 : Array Value := #[.int .u64 0, .int .u64 0, .int .u64 0, .int .u64 0, .int .u64 0, .int .u64 0, .int .u64 0, .int .u64 0]
def zzW (w : World) : World := (w.alloc (.cells z8 55)).alloc (.cells z8 55)
theorem zzW_0 (w : World) : Has (zzW w) w.heap.size z8 55 := (Has.new w _ _).alloc _
theorem zzW_1 (w : World) : Has (zzW w) (w.heap.size + 1) z8 55 := by
  have h := Has.new (w.alloc (.cells z8 55)) z8 55
  rw [show (w.alloc (.cells z8 55)).heap.size = w.heap.size + 1 by simp] at h
  exact h
theorem zzW_g (w : World) : Grows w (zzW w) := ((Below.refl _ _).alloc (Nat.le_refl _) _).alloc (by simp) _
def slN (x j : Nat) : Nat := x - x % 64 + 8 * j
structure SInv (x b0 b1 : Nat) (w : World) (k : Nat) (wr : World) : Prop where
  cs : ∃ cs : Array Value, Has wr b1 cs 55 ∧ cs.size = 8 ∧ (∀ j, j < k → cs[j]? = some (.int .u64 ((slN x j : Nat) : Int)))
  out : Has wr b0 z8 55
  grows : Grows w wr
theorem SInv.step {x b0 b1 : Nat} {w : World} {k : Nat} {wr : World} (h : SInv x b0 b1 w k wr) (hk : k < 8) (hb : b0 ≠ b1) (hw : w.heap.size ≤ b1) : SInv x b0 b1 w (k + 1) (wr.setCell ⟨b1, k, none⟩ (.int .u64 ((slN x k : Nat) : Int))) := by
  obtain ⟨⟨cs, h1, h2, h3⟩, ho, hg⟩ := h
  refine ⟨⟨_, h1.set k _, by simp [h2], fun j hj => ?_⟩, ho.far hb _ _, Below.setCell hg hw _⟩
  by_cases hjk : k = j
  · subst hjk; simp [h2, hk]
  · rw [Array.getElem?_setIfInBounds_ne hjk]; exact h3 j (by omega)
theorem SInv.cell {x b0 b1 : Nat} {w : World} {k : Nat} {wr : World} (h : SInv x b0 b1 w k wr) (hk : k < 8) : ∃ v, wr.cell? ⟨b1, k, none⟩ = some v := by
  obtain ⟨⟨cs, h1, h2, h3⟩, ho, hg⟩ := h
  exact ⟨_, (h1.cell k).trans (Array.getElem?_eq_getElem (by omega))⟩
theorem SInv.frozen {x b0 b1 : Nat} {w : World} {k : Nat} {wr : World} (h : SInv x b0 b1 w k wr) (i : Nat) : wr.frozen? ⟨b1, i, none⟩ = false := by
  obtain ⟨⟨cs, h1, h2, h3⟩, ho, hg⟩ := h
  exact h1.frozen i
theorem SInv.read {x b0 b1 : Nat} {w : World} {wr : World} (h : SInv x b0 b1 w 8 wr) {i : Nat} (hi : i < 8) : wr.cell? ⟨b1, i, none⟩ = some (.int .u64 ((slN x i : Nat) : Int)) := by
  obtain ⟨⟨cs, h1, h2, h3⟩, ho, hg⟩ := h
  rw [h1.cell i]
  exact h3 i hi
def slV (x : Nat) : Value := .agg #[.int .u64 ((slN x 0 : Nat) : Int), .int .u64 ((slN x 1 : Nat) : Int), .int .u64 ((slN x 2 : Nat) : Int), .int .u64 ((slN x 3 : Nat) : Int), .int .u64 ((slN x 4 : Nat) : Int), .int .u64 ((slN x 5 : Nat) : Int), .int .u64 ((slN x 6 : Nat) : Int), .int .u64 ((slN x 7 : Nat) : Int)]
theorem andNot63 {x : Nat} (hx : x < 18446744073709551616) : bits .andNot .u64 (x : Int) 63 = ((x - x % 64 : Nat) : Int) := by
  rw [show (63 : Int) = ((63 : Nat) : Int) from rfl, u64_andNot hx (by decide)]
  congr 1
  have h1 : x &&& (18446744073709551615 - 63) = x / 64 * 64 := by
    apply Nat.eq_of_testBit_eq
    intro i
    rw [andNot_bit (by decide), show x / 64 * 64 = x / 2 ^ 6 * 2 ^ 6 from rfl, Nat.testBit_mul_two_pow, Nat.testBit_div_two_pow, show (63 : Nat) = 2 ^ 6 - 1 from rfl, Nat.testBit_two_pow_sub_one]
    by_cases h6 : 6 ≤ i
    · rw [show i - 6 + 6 = i by omega]
      by_cases h64 : i < 64
      · simp [h6, h64]
      · rw [testBit_64 hx (by omega)]; simp
    · simp [h6]; omega
  rw [h1]; omega
theorem sl_run {x k : Nat} (hx : x < 18446744073709551616) (hk : k < 8) : IntKind.u64.wrap (((x - x % 64 : Nat) : Int) + 8 * ((k : Nat) : Int)) = ((slN x k : Nat) : Int) := by
  rw [IntKind.wrap_u64]; unfold slN; omega
set_option maxHeartbeats 2000000 in
theorem slots_ {y : Int} {x : Nat} (hy : y = x) (w : World) (hx : x < 18446744073709551616) :
    Calls Try.prog 55 #[.int .u64 y] w fun e w' => e = .returned (slV x) ∧ Grows w w' := by
  subst hy
  have AN := andNot63 hx
  have SR := Lib.hid (fun k h => sl_run (x := x) (k := k) hx h)
  have B0 := zzW_0 w
  have B1 := zzW_1 w
  have G0 := zzW_g w
  go_enter Try.func55, Try.ntmps55
  go_wp2_with fail
  show Code.wp _ _ _ _ (zzW w)
  generalize zzW w = W at *
  have P0 : SInv x w.heap.size (w.heap.size + 1) w 0 W := ⟨⟨z8, B1, rfl, fun j hj => by omega⟩, B0, G0⟩
  have HB := Lib.hid (show w.heap.size ≠ w.heap.size + 1 by omega)
  have HW := Lib.hid (show w.heap.size ≤ w.heap.size + 1 by omega)
  generalize hq : w.heap.size + 1 = b1 at *
  have HP := Lib.hid P0
  clear hq P0 B0 B1 G0
  go_loopw [5] (fun i wr => ∃ k : Nat, k ≤ 8 ∧ i = .int .i64 k ∧ Hid (SInv x w.heap.size b1 w k wr)) (fun i _ => 8 - (intOf i).toNat)
  case atStart => exact ⟨0, by omega, rfl, HP⟩
  case round =>
    obtain ⟨k, hk, rfl, hp⟩ := hrel
    by_cases hlt : k < 8
    · obtain ⟨v0, hc⟩ := hp.out.cell hlt
      have hfz := hp.out.frozen k
      have k0 : (0 : Int) ≤ (k : Int) := by omega
      have k8 : (k : Int) < 8 := by omega
      have sr := SR.out k hlt
      go_wp2_with fail
      go_roundw
      case rel => exact ⟨k + 1, by omega, by go_num, Lib.hid (hp.out.step hlt HB.out HW.out)⟩
      case measure => simp [intOf]; omega
    · obtain rfl : k = 8 := by omega
      have r0 := hp.out.read (i := 0) (by omega)
      have r1 := hp.out.read (i := 1) (by omega)
      have r2 := hp.out.read (i := 2) (by omega)
      have r3 := hp.out.read (i := 3) (by omega)
      have r4 := hp.out.read (i := 4) (by omega)
      have r5 := hp.out.read (i := 5) (by omega)
      have r6 := hp.out.read (i := 6) (by omega)
      have r7 := hp.out.read (i := 7) (by omega)
      have BO := hp.out.out
      have y0 := BO.cell 0
      have y1 := BO.cell 1
      have y2 := BO.cell 2
      have y3 := BO.cell 3
      have y4 := BO.cell 4
      have y5 := BO.cell 5
      have y6 := BO.cell 6
      have y7 := BO.cell 7
      have f0 := BO.frozen 0
      have f1 := BO.frozen 1
      have f2 := BO.frozen 2
      have f3 := BO.frozen 3
      have f4 := BO.frozen 4
      have f5 := BO.frozen 5
      have f6 := BO.frozen 6
      have f7 := BO.frozen 7
      unfold z8 at y0 y1 y2 y3 y4 y5 y6 y7
      simp only [List.getElem?_toArray, List.getElem?_cons_zero, List.getElem?_cons_succ] at y0 y1 y2 y3 y4 y5 y6 y7
      clear BO AN
      have HF := Lib.hid (fun v0 v1 v2 v3 v4 v5 v6 v7 => grows_set8 hp.out.grows (Nat.le_refl _) v0 v1 v2 v3 v4 v5 v6 v7)
      go_wp2
      refine bodyPost_ret (v := slV x) ?_ rfl ⟨rfl, HF.out _ _ _ _ _ _ _ _⟩
      simp [results, Try.results55, go_sem, slV, y0, y1, y2, y3, y4, y5, y6, y7]
theorem eqItems_same (xs : Array Value) (w : World) : ∀ is : List Nat, (∀ i ∈ is, ∃ n : Int, xs[i * 1]? = some (.int .u64 n)) → (Op.eqItems 9999 22 1 xs xs is).run Try.prog w = .ok true w
  | [], _ => by simp [Op.eqItems]
  | i :: is, h => by
    obtain ⟨n, hn⟩ := h i (List.mem_cons_self ..)
    have hp := run_part_plain (P := Try.prog) w (e := 22) (by kernel_rfl) hn
    have he := run_equalIn_int (P := Try.prog) (w := w) 9998 22 .u64 .u64 n n (by kernel_rfl)
    have ih := eqItems_same xs w is (fun j hj => h j (List.mem_cons_of_mem _ hj))
    simp only [Op.eqItems, Sem.run_bind, hp, Result.andThen_ok, he, beq_self_eq_true, Bool.not_true, Bool.false_eq_true, if_false, ih]
theorem eq_slots (x : Nat) (w : World) : (Op.equalIn 10000 55 (slV x) (slV x)).run Try.prog w = .ok true w := by
  unfold slV
  rw [run_equalIn_array (P := Try.prog) (e := 22) (n := 8) (i := (Try.prog.info? 22).get (by kernel_rfl)) w 9999 _ _ (by kernel_rfl) (Option.some_get _).symm]
  rw [show Try.prog.cellsOf 22 = 1 by kernel_rfl]
  apply eqItems_same
  intro i hi
  have h8 : i < 8 := List.mem_range.1 hi
  have h8 : i = 0 ∨ i = 1 ∨ i = 2 ∨ i = 3 ∨ i = 4 ∨ i = 5 ∨ i = 6 ∨ i = 7 := by omega
  rcases h8 with rfl | rfl | rfl | rfl | rfl | rfl | rfl | rfl <;> exact ⟨_, rfl⟩
end Go.Proofs.Ytbifpmaofkgkfaa
