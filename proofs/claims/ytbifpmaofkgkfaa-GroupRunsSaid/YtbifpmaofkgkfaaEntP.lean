/- entry.Parse, entry.Word, and their references. -/
import Derived.Test.YtbifpmaofkgkfaaEntR
namespace Go.Proofs.Ytbifpmaofkgkfaa
open Go.RowKit
def entV (e : Ent) : Value := .agg #[.bool e.p, .bool e.w, .bool e.u, .bool e.a, .bool e.d, .bool e.ps, .bool e.nx, .int .u64 e.fr]
theorem has_ {m : Int} {x k b : Nat} (hm : m = ((2 ^ k : Nat) : Int)) (hk : k < 64) (hx : x < 18446744073709551616) (w : World) (hc : w.cell? ⟨b, 0, none⟩ = some (.int .u64 x)) :
    Calls Try.prog 74 #[.int .u64 m, .pointer (some ⟨b, 0, none⟩)] w fun e w' => e = .returned (.bool (x.testBit k)) ∧ w = w' := by
  have Q := Lib.hid (ask_bit hm hk hx)
  have M := Lib.hid hm
  clear hm
  go_enter Try.func74, Try.ntmps74
  go_wp2
  go_ret
  exact ⟨ret_bool Q.out, rfl⟩
theorem grows_set8 {w W : World} {b : Nat} (h : Grows w W) (hb : w.heap.size ≤ b) (v0 v1 v2 v3 v4 v5 v6 v7 : Value) :
    Grows w ((((((((W.setCell ⟨b, 0, none⟩ v0).setCell ⟨b, 1, none⟩ v1).setCell ⟨b, 2, none⟩ v2).setCell ⟨b, 3, none⟩ v3).setCell ⟨b, 4, none⟩ v4).setCell ⟨b, 5, none⟩ v5).setCell ⟨b, 6, none⟩ v6).setCell ⟨b, 7, none⟩ v7) :=
  Below.setCell (Below.setCell (Below.setCell (Below.setCell (Below.setCell (Below.setCell (Below.setCell (Below.setCell h hb _) hb _) hb _) hb _) hb _) hb _) hb _) hb _
set_option maxHeartbeats 1000000 in
theorem parse_ {y : Int} {x : Nat} (hy : y = x) (w : World) (hx : x < 18446744073709551616) :
    Calls Try.prog 46 #[.int .u64 y] w fun e w' => e = .returned (entV (parseN x)) ∧ Grows w w' := by
  subst hy
  go_enter Try.func46, Try.ntmps46
  go_wp2_with fail
  have B1 := Has.new (w.alloc (.cells #[.int .u64 x] 22)) #[.bool false, .bool false, .bool false, .bool false, .bool false, .bool false, .bool false, .int .u64 0] 50
  have B0 := (Has.new w #[.int .u64 x] 22).alloc (.cells #[.bool false, .bool false, .bool false, .bool false, .bool false, .bool false, .bool false, .int .u64 0] 50)
  have G0 : Grows w ((w.alloc (.cells #[.int .u64 x] 22)).alloc (.cells #[.bool false, .bool false, .bool false, .bool false, .bool false, .bool false, .bool false, .int .u64 0] 50)) :=
    ((Below.refl _ _).alloc (Nat.le_refl _) _).alloc (by simp) _
  have e1 : (w.alloc (.cells #[.int .u64 x] 22)).heap.size = w.heap.size + 1 := by simp
  rw [e1] at B1
  have hb1 : w.heap.size ≤ w.heap.size + 1 := by omega
  clear e1
  generalize hq : w.heap.size + 1 = b1 at *
  clear hq
  generalize (w.alloc (.cells #[.int .u64 x] 22)).alloc (.cells #[.bool false, .bool false, .bool false, .bool false, .bool false, .bool false, .bool false, .int .u64 0] 50) = W at *
  have HG := Lib.hid G0
  have HW := Lib.hid hb1
  clear G0
  generalize hq : w.heap.size = b0 at B0 ⊢
  have x0 := fun g => B0.gcell g 0
  simp only [List.getElem?_toArray, List.getElem?_cons_zero] at x0
  have hlt := B1.lt
  have z := fun g i => B1.gcell g i
  have zf := fun g i => B1.gfrozen g i
  have B0' := Lib.hid B0
  have B1' := Lib.hid B1
  have HQ := Lib.hid hq
  clear B0 B1 hq hb1
  refine wp_region_grow_tail 17 (by kernel_rfl) (by kernel_rfl) ?_
  simp only [List.take_succ_cons, List.take_zero, List.drop_succ_cons, List.drop_zero]
  go_big_quiet_step (fail)
  go_big_quiet_step ((go_at_call 74; exact quiet_same (has_ (k := 0) (by decide) (by omega) hx _ (x0 _))))
  go_big_quiet_step (fail)
  go_big_quiet_step ((go_at_call 74; exact quiet_same (has_ (k := 1) (by decide) (by omega) hx _ (x0 _))))
  go_big_quiet_step (fail)
  go_big_quiet_step ((go_at_call 74; exact quiet_same (has_ (k := 2) (by decide) (by omega) hx _ (x0 _))))
  go_big_quiet_step (fail)
  go_big_quiet_step ((go_at_call 74; exact quiet_same (has_ (k := 5) (by decide) (by omega) hx _ (x0 _))))
  go_big_quiet_step (fail)
  go_big_quiet_step ((go_at_call 74; exact quiet_same (has_ (k := 6) (by decide) (by omega) hx _ (x0 _))))
  go_big_quiet_step (fail)
  go_big_quiet_step ((go_at_call 74; exact quiet_same (has_ (k := 7) (by decide) (by omega) hx _ (x0 _))))
  go_big_quiet_step (fail)
  go_big_quiet_step ((go_at_call 74; exact quiet_same (has_ (k := 63) (by decide) (by omega) hx _ (x0 _))))
  go_big_quiet_step (fail)
  go_big_quiet_step ((go_at_call 42; exact quiet_same (table_ rfl _ hx)))
  go_big_quiet_step (fail)
  refine wpQuiet_nil ?_
  intro _ hw'
  obtain ⟨g, rfl⟩ := hw'
  have y0 := z g 0
  have f0 := zf g 0
  have y1 := z g 1
  have f1 := zf g 1
  have y2 := z g 2
  have f2 := zf g 2
  have y3 := z g 3
  have f3 := zf g 3
  have y4 := z g 4
  have f4 := zf g 4
  have y5 := z g 5
  have f5 := zf g 5
  have y6 := z g 6
  have f6 := zf g 6
  have y7 := z g 7
  have f7 := zf g 7
  simp only [List.getElem?_toArray, List.getElem?_cons_zero, List.getElem?_cons_succ] at y0 y1 y2 y3 y4 y5 y6 y7
  have HG2 := Lib.hid (Grows.trans' HG.out (grows_grow W g))
  have hlt2 : b1 < (grow W g).heap.size := by rw [grow_size]; omega
  clear z zf hlt x0
  generalize grow W g = W2 at *
  go_wp2
  have HF := Lib.hid (fun v0 v1 v2 v3 v4 v5 v6 v7 => grows_set8 HG2.out HW.out v0 v1 v2 v3 v4 v5 v6 v7)
  refine bodyPost_ret (v := .agg #[.bool (x.testBit 0), .bool (x.testBit 1), .bool (x.testBit 2), .bool (x.testBit 5), .bool (x.testBit 6), .bool (x.testBit 7), .bool (x.testBit 63), .int .u64 (tab x)]) ?_ rfl ⟨rfl, HF.out _ _ _ _ _ _ _ _⟩
  simp [results, Try.results46, go_sem, y0, y1, y2, y3, y4, y5, y6, y7]
end Go.Proofs.Ytbifpmaofkgkfaa
