/- The laws of layer 5: EntryBack, EntryGrows. -/
import Derived.Test.YtbifpmaofkgkfaaLaw05
namespace Go.Proofs.Ytbifpmaofkgkfaa
open Go.RowKit
theorem parse_word (p w u a d ps nx : Bool) (f : Nat) : parseN (wordN ⟨p, w, u, a, d, ps, nx, tab f⟩) = ⟨p, w, u, a, d, ps, nx, tab f⟩ := by
  obtain ⟨h1, h2, h3, h4, h5, h6, h7, h8⟩ := word_bits ⟨p, w, u, a, d, ps, nx, tab f⟩
  unfold parseN
  rw [h1, h2, h3, h4, h5, h6, h7, h8]
  show (⟨p, w, u, a, d, ps, nx, tab (tab f)⟩ : Ent) = _
  rw [tab_tab]
theorem entryBack_ (x : Nat) (p wr u a d ps nx : Bool) (f : Nat) (w : World) (hx : x < 18446744073709551616) (hf : f < 18446744073709551616) :
    Calls Try.prog 11 #[.int .u64 x, .agg #[.bool p, .bool wr, .bool u, .bool a, .bool d, .bool ps, .bool nx, .int .u64 f]] w fun e w' => e = .returned (.bool true) ∧ Grows w w' := by
  have W1 := Lib.hid (fun w => word_ ⟨p, wr, u, a, d, ps, nx, tab f⟩ w (tab_lt64 f))
  have P1 := Lib.hid (fun w => parse_ (x := wordN ⟨p, wr, u, a, d, ps, nx, tab f⟩) rfl w (wordN_lt _))
  have W2 := Lib.hid (fun w => word_ (parseN x) w (tab_lt64 x))
  have P2 := Lib.hid (fun w => parse_ (x := x) rfl w hx)
  have P3 := Lib.hid (fun w => parse_ (x := wordN (parseN x)) rfl w (wordN_lt _))
  have W3 := Lib.hid (fun w => word_ (parseN (wordN (parseN x))) w (tab_lt64 _))
  have T := Lib.hid (fun w => table_ (a := f) rfl w hf)
  have b1 := back_1 hx
  have b3 := back_3 hx
  rw [parse_word] at P1
  rw [back_2] at W3
  generalize wordN ⟨p, wr, u, a, d, ps, nx, tab f⟩ = v at *
  generalize parseN (wordN (parseN x)) = e3 at *
  generalize wordN (parseN x) = y at *
  generalize parseN x = e2 at *
  generalize tab f = f2 at *
  unfold entV at P1 P2 P3
  have B1 := Lib.hid b1
  have B3 := Lib.hid b3
  clear b1 b3
  go_enter Try.func11, Try.ntmps11
  go_wp2_with fail
  refine (awake05_ _).mono ?_; rintro e w1 ⟨rfl, hb1⟩
  have A0 := (Has.new w _ _).grows hb1
  have HB := Lib.hid (Grows.trans' ((Below.refl _ _).alloc (Nat.le_refl _) _) hb1)
  have c7 := A0.cell 7
  have f7 := A0.frozen 7
  simp only [List.getElem?_toArray, List.getElem?_cons_zero, List.getElem?_cons_succ] at c7
  have HA := Lib.hid A0
  have hle : w.heap.size ≤ w.heap.size := Nat.le_refl _
  have HLE := Lib.hid hle
  clear hb1 A0 hle
  generalize hbp : w.heap.size = bp at c7 f7 HA HLE ⊢
  go_wp2_with fail
  refine (T.out _).mono ?_; rintro e w2 ⟨rfl, rfl⟩
  go_wp2_with fail
  refine (P2.out _).mono ?_; rintro e w2 ⟨rfl, hb2⟩
  go_wp2_with fail
  refine (W2.out _).mono ?_; rintro e w3 ⟨rfl, hb3⟩
  subst hbp
  have A1 := (HA.out.set 7 (.int .u64 f2)).grows (hb2.trans' hb3)
  simp only [List.setIfInBounds_toArray, List.set_cons_succ, List.set_cons_zero] at A1
  have HB2 := Lib.hid (Grows.trans' (Below.setCell HB.out HLE.out _) (hb2.trans' hb3))
  have q0 := fun g => A1.gcell g 0
  have q1 := fun g => A1.gcell g 1
  have q2 := fun g => A1.gcell g 2
  have q3 := fun g => A1.gcell g 3
  have q4 := fun g => A1.gcell g 4
  have q5 := fun g => A1.gcell g 5
  have q6 := fun g => A1.gcell g 6
  have q7 := fun g => A1.gcell g 7
  simp only [List.getElem?_toArray, List.getElem?_cons_zero, List.getElem?_cons_succ] at q0 q1 q2 q3 q4 q5 q6 q7
  clear c7 f7 HA HB HLE hb2 hb3 A1
  generalize w.heap.size = bp at *
  have b1 := B1.out
  have b3 := B3.out
  go_wp2_with fail
  refine wp_region_grow (by kernel_rfl) (by kernel_rfl) ?_
  repeat (go_big_quiet_step ((first | (go_at_call 46; first | (with_reducible exact quiet_grows (P1.out _)) | (with_reducible exact quiet_grows (P3.out _))) | (go_at_call 45; first | (with_reducible exact quiet_grows (W1.out _)) | (with_reducible exact quiet_grows (W3.out _))))))
  refine wpQuiet_nil ?_
  intro _ hw'
  obtain ⟨g, rfl⟩ := hw'
  go_wp2
  go_ret
  exact ⟨rfl, Grows.trans' HB2.out (grows_grow _ _)⟩
end Go.Proofs.Ytbifpmaofkgkfaa
