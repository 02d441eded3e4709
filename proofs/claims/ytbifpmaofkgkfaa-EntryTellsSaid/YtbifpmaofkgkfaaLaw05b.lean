/- The laws of layer 5: EntryTells. -/
import Derived.Test.YtbifpmaofkgkfaaLaw05
namespace Go.Proofs.Ytbifpmaofkgkfaa
open Go.RowKit
theorem entryTells_ (x : Nat) (e : Ent) (l : Int) (w : World) (hx : x < 18446744073709551616) (hf : e.fr < 18446744073709551616) :
    Calls Try.prog 20 #[.int .u64 x, .agg #[.bool e.p, .bool e.w, .bool e.u, .bool e.a, .bool e.d, .bool e.ps, .bool e.nx, .int .u64 e.fr], .int .i64 l] w fun e w' => e = .returned (.bool true) ∧ Grows w w' := by
  have P := Lib.hid (fun w => parse_ (x := x) rfl w hx)
  have RP := Lib.hid (fun w => refparse_ (x := x) rfl w hx)
  have L := Lib.hid (fun w => leaf_ (a := x) rfl l w hx)
  have RL := Lib.hid (fun w => refleaf_ (a := x) rfl l w hx)
  have WD := Lib.hid (fun w => word_ e w hf)
  have RWD := Lib.hid (fun w => refword_ e w hf)
  generalize parseN x = y at *
  generalize leafB x l = r at *
  unfold entV at P RP
  cases r <;> (
  go_enter Try.func20, Try.ntmps20
  go_wp2_with fail
  refine (awake05_ _).mono ?_; rintro e w1 ⟨rfl, hb1⟩
  have B0 := (Has.new w _ _).grows hb1
  have HB := Lib.hid (Grows.trans' ((Below.refl _ _).alloc (Nat.le_refl _) _) hb1)
  have q0 := fun g => B0.gcell g 0
  have q1 := fun g => B0.gcell g 1
  have q2 := fun g => B0.gcell g 2
  have q3 := fun g => B0.gcell g 3
  have q4 := fun g => B0.gcell g 4
  have q5 := fun g => B0.gcell g 5
  have q6 := fun g => B0.gcell g 6
  have q7 := fun g => B0.gcell g 7
  simp only [List.getElem?_toArray, List.getElem?_cons_zero, List.getElem?_cons_succ] at q0 q1 q2 q3 q4 q5 q6 q7
  clear hb1 B0
  generalize w.heap.size = bp at *
  go_wp2_with fail
  refine wp_region_grow (by kernel_rfl) (by kernel_rfl) ?_
  repeat (go_big_quiet_step ((first | (go_at_call 46; exact quiet_grows (P.out _)) | (go_at_call 62; exact quiet_grows (RP.out _)) | (go_at_call 45; exact quiet_grows (WD.out _)) | (go_at_call 63; exact quiet_grows (RWD.out _)) | (go_at_call 56; exact quiet_same (L.out _)) | (go_at_call 64; exact quiet_same (RL.out _)) | (go_at_call 42; exact quiet_same (table_ rfl _ hx)) | (go_at_call 53; exact quiet_same (reftable_ rfl _ hx)) | (go_at_call 57; exact quiet_grows (frame_ rfl l _ hx)) | (go_at_call 65; exact quiet_same (refframe_ rfl l _ hx)))))
  refine wpQuiet_nil ?_
  intro _ hw'
  obtain ⟨g, rfl⟩ := hw'
  go_wp2
  go_ret
  exact ⟨rfl, Grows.trans' HB.out (grows_grow _ _)⟩)
end Go.Proofs.Ytbifpmaofkgkfaa
