/- The laws of layer 3: the walks. -/
import Derived.Test.YtbifpmaofkgkfaaRef3
import Derived.Test.YtbifpmaofkgkfaaVa
namespace Go.Proofs.Ytbifpmaofkgkfaa
open Go.RowKit
theorem refnext_ {x : Int} {a : Nat} (hx : x = a) (w : World) (ha : a < 18446744073709551616) :
    Calls Try.prog 23 #[.int .u64 x] w fun e w' => e = .returned (.tuple #[.int .u64 (next a), .bool (nextOk a)]) ∧ w = w' := by
  subst hx
  have hp := page_le a 1
  cases h1 : canon a with
  | false =>
    have e1 : nextOk a = false := by unfold nextOk; rw [h1]; rfl
    have E := Lib.hid (And.intro e1 (show next a = 0 by unfold next; rw [e1]; rfl))
    have RC := Lib.hid (fun w => refcanon_ (a := a) rfl w ha)
    rw [h1] at RC
    clear h1 e1 hp
    go_enter Try.func23, Try.ntmps23
    go_wp2_with (first | (go_at_call 33; refine (refpage_ rfl _ _ ha).mono ?_; rintro e w' ⟨rfl, rfl⟩) | (go_at_call 25; refine (RC.out _).mono ?_; rintro e w' ⟨rfl, rfl⟩))
    go_ret2
    exact ⟨ret_tup2 (by rw [E.out.2]; rfl) (by rw [E.out.1]; rfl), rfl⟩
  | true =>
    have RC := Lib.hid (fun w => refcanon_ (a := a) rfl w ha)
    rw [h1] at RC
    by_cases h2 : page a 1 + 4096 < 18446744073709551616
    · have h4 : (page a 1 : Int) + 4096 ≤ 18446744073709551615 := by omega
      have RB := Lib.hid (fun w => refcanon_ (x := (page a 1 : Int) + 4096) (a := page a 1 + 4096) (by omega) w h2)
      have h5 : (((page a 1 : Nat) : Int) + 4096 == 0) = false := by rw [beq_eq_false_iff_ne]; omega
      cases h3 : canon (page a 1 + 4096) with
      | false =>
        rw [h3] at RB
        have e1 : nextOk a = false := by unfold nextOk; rw [h3, Bool.and_false, Bool.and_false]
        have E := Lib.hid (And.intro e1 (show next a = 0 by unfold next; rw [e1]; rfl))
        clear h1 h2 h3 e1
        go_enter Try.func23, Try.ntmps23
        go_wp2_with (first | (go_at_call 33; refine (refpage_ rfl _ _ ha).mono ?_; rintro e w' ⟨rfl, rfl⟩) | (go_at_call 25; first | ((with_reducible refine (RC.out _).mono ?_); rintro e w' ⟨rfl, rfl⟩) | ((with_reducible refine (RB.out _).mono ?_); rintro e w' ⟨rfl, rfl⟩)))
        go_ret2
        exact ⟨ret_tup2 (by rw [E.out.2]; rfl) (by rw [E.out.1]; rfl), rfl⟩
      | true =>
        rw [h3] at RB
        have e1 : nextOk a = true := by unfold nextOk; rw [h1, h3, decide_eq_true h2]; rfl
        have E := Lib.hid (And.intro e1 (show next a = page a 1 + 4096 by unfold next; rw [e1]; rfl))
        clear h1 h2 h3 e1
        go_enter Try.func23, Try.ntmps23
        go_wp2_with (first | (go_at_call 33; refine (refpage_ rfl _ _ ha).mono ?_; rintro e w' ⟨rfl, rfl⟩) | (go_at_call 25; first | ((with_reducible refine (RC.out _).mono ?_); rintro e w' ⟨rfl, rfl⟩) | ((with_reducible refine (RB.out _).mono ?_); rintro e w' ⟨rfl, rfl⟩)))
        go_ret2
        exact ⟨ret_tup2 (by rw [E.out.2, Int.natCast_add]; rfl) (by rw [E.out.1]; rfl), rfl⟩
    · have h2' : page a 1 + 4096 = 18446744073709551616 := by unfold page low size at h2 ⊢; simp at h2 ⊢; omega
      have hw : IntKind.u64.wrap (((page a 1 : Nat) : Int) + 4096) = 0 := by rw [IntKind.wrap_u64]; omega
      have e1 : nextOk a = false := by unfold nextOk; rw [decide_eq_false h2, Bool.false_and, Bool.and_false]
      have E := Lib.hid (And.intro e1 (show next a = 0 by unfold next; rw [e1]; rfl))
      have RB := Lib.hid (fun w => refcanon_ (x := 0) (a := 0) rfl w (by omega))
      rw [show canon 0 = true by decide] at RB
      clear h1 h2 h2' e1
      go_enter Try.func23, Try.ntmps23
      go_wp2_with (first | (go_at_call 33; refine (refpage_ rfl _ _ ha).mono ?_; rintro e w' ⟨rfl, rfl⟩) | (go_at_call 25; first | ((with_reducible refine (RC.out _).mono ?_); rintro e w' ⟨rfl, rfl⟩) | ((with_reducible refine (RB.out _).mono ?_); rintro e w' ⟨rfl, rfl⟩)))
      go_ret2
      exact ⟨ret_tup2 (by rw [E.out.2]; rfl) (by rw [E.out.1]; rfl), rfl⟩
theorem awake03_ (w : World) : Calls Try.prog 21 #[] w fun e w' => e = .returned (.bool true) ∧ Grows w w' := by
  go_enter Try.func21, Try.ntmps21
  go_wp2_with fail
  refine (next_no (a := 140737488351232) rfl _ (by decide) (by decide)).mono ?_; rintro e w1 ⟨rfl, hb1⟩
  go_wp2_with fail
  refine (next_yes (a := 4660) rfl _ (by decide) (by decide)).mono ?_; rintro e w2 ⟨rfl, hb2⟩
  go_wp2_with fail
  refine (index_ (a := 4096) rfl 1 _ (by decide)).mono ?_; rintro e w3 ⟨rfl, hb3⟩
  go_wp2_with fail
  refine (canon_t (a := 0) rfl (by decide) _).mono ?_; rintro e w4 ⟨rfl, rfl⟩
  go_wp2_with fail
  refine (canon_f (a := 140737488355328) rfl (by decide) _).mono ?_; rintro e w5 ⟨rfl, rfl⟩
  go_wp2_with fail
  refine (size_ 2 _).mono ?_; rintro e w6 ⟨rfl, hb6⟩
  go_wp2_with fail
  go_ret
  exact ⟨rfl, (hb1.trans' hb2).trans' (hb3.trans' hb6)⟩
theorem vaTells_ (a : Nat) (l : Int) (w : World) (ha : a < 18446744073709551616) :
    Calls Try.prog 3 #[.int .u64 a, .int .i64 l] w fun e w' => e = .returned (.bool true) ∧ Grows w w' := by
  go_enter Try.func3, Try.ntmps3
  go_wp2_with fail
  refine (awake03_ _).mono ?_; rintro e w1 ⟨rfl, hb1⟩
  go_wp2_with fail
  refine (next_ rfl _ ha).mono ?_; rintro e w2 ⟨rfl, hb2⟩
  go_wp2_with fail
  refine (refnext_ rfl _ ha).mono ?_; rintro e w3 ⟨rfl, rfl⟩
  go_wp2_with fail
  refine (canon_ rfl _).mono ?_; rintro e w3 ⟨rfl, rfl⟩
  go_wp2_with fail
  refine (refcanon_ rfl _ ha).mono ?_; rintro e w3 ⟨rfl, rfl⟩
  go_wp2_with fail
  refine (sign_ rfl _).mono ?_; rintro e w3 ⟨rfl, rfl⟩
  go_wp2_with fail
  refine (refsign_ rfl _ ha).mono ?_; rintro e w3 ⟨rfl, rfl⟩
  go_wp2_with fail
  refine (index_ rfl _ _ ha).mono ?_; rintro e w3 ⟨rfl, hb3⟩
  go_wp2_with fail
  refine (refindex_ rfl _ _ ha).mono ?_; rintro e w4 ⟨rfl, rfl⟩
  go_wp2_with fail
  refine (size_ _ _).mono ?_; rintro e w4 ⟨rfl, hb4⟩
  go_wp2_with fail
  refine (refsize_ _ _).mono ?_; rintro e w5 ⟨rfl, rfl⟩
  go_wp2_with fail
  refine (page_ rfl _ _ ha).mono ?_; rintro e w5 ⟨rfl, hb5⟩
  go_wp2_with fail
  refine (refpage_ rfl _ _ ha).mono ?_; rintro e w6 ⟨rfl, rfl⟩
  go_wp2_with fail
  refine (low_ rfl _ _ ha).mono ?_; rintro e w6 ⟨rfl, hb6⟩
  go_wp2_with fail
  refine (reflow_ rfl _ _).mono ?_; rintro e w7 ⟨rfl, rfl⟩
  go_wp2_with fail
  go_ret
  exact ⟨rfl, ((hb1.trans' hb2).trans' hb3).trans' ((hb4.trans' hb5).trans' hb6)⟩
def joinUp (p : List Int) : Nat → Nat
  | 0 => 0
  | k + 1 => 512 * joinUp p k + (p.getD k 0 % 512).toNat
theorem joinUp_lt (p : List Int) : ∀ k, joinUp p k < 512 ^ k
  | 0 => by simp [joinUp]
  | k + 1 => by have := joinUp_lt p k; unfold joinUp; rw [Nat.pow_succ]; omega
theorem joinUp_all (p : List Int) (lo : Nat) : sgn (4096 * joinUp p 4 + lo % 4096) = join p lo := by
  unfold join
  refine congrArg sgn ?_
  simp only [joinUp]
  omega
theorem mod512 (n : Int) : (n.tmod 512 + 512).tmod 512 = (((n % 512).toNat : Nat) : Int) := by
  have h1 : n.tmod 512 = if 0 ≤ n then n % 512 else -((-n) % 512) := by
    split
    · exact Int.tmod_eq_emod_of_nonneg ‹_›
    · have := Int.tmod_eq_emod_of_nonneg (a := -n) (b := 512) (by omega)
      rw [Int.neg_tmod] at this
      omega
  have h2 : 0 ≤ n.tmod 512 + 512 := by rw [h1]; split <;> omega
  rw [Int.tmod_eq_emod_of_nonneg h2, h1]
  split <;> omega
theorem wrap64_rem (n : Int) : wrap64 (n.tmod 512 + 512) = n.tmod 512 + 512 := by
  have h1 : n.tmod 512 = if 0 ≤ n then n % 512 else -((-n) % 512) := by
    split
    · exact Int.tmod_eq_emod_of_nonneg ‹_›
    · have := Int.tmod_eq_emod_of_nonneg (a := -n) (b := 512) (by omega)
      rw [Int.neg_tmod] at this
      omega
  rw [h1]
  unfold wrap64
  split <;> omega
theorem refjoin_ {x : Int} {lo : Nat} (hx : x = lo) (p0 p1 p2 p3 : Int) (w : World) (ha : lo < 18446744073709551616) :
    Calls Try.prog 44 #[.agg #[.int .i64 p0, .int .i64 p1, .int .i64 p2, .int .i64 p3], .int .u64 x] w fun e w' => e = .returned (.int .u64 (join [p0, p1, p2, p3] lo)) ∧ Grows w w' := by
  subst hx
  have J := Lib.hid (joinUp_all [p0, p1, p2, p3] lo)
  have L := Lib.hid (joinUp_lt [p0, p1, p2, p3])
  go_enter Try.func44, Try.ntmps44
  go_wp2
  go_loop [5, 6] (fun v i => ∃ k : Nat, k ≤ 4 ∧ i = .int .i64 k ∧ v = .int .u64 ((joinUp [p0, p1, p2, p3] k : Nat) : Int)) (fun _ i => 4 - (intOf i).toNat)
  case atStart => exact ⟨0, by omega, rfl, rfl⟩
  case round =>
    obtain ⟨k, hk, rfl, rfl⟩ := hrel
    have hk5 : k = 0 ∨ k = 1 ∨ k = 2 ∨ k = 3 ∨ k = 4 := by omega
    have hl := L.out k
    clear hk
    rcases hk5 with rfl | rfl | rfl | rfl | rfl
    · have hb : joinUp [p0, p1, p2, p3] 0 < 1 := hl
      have hw : IntKind.u64.wrap (512 * ((joinUp [p0, p1, p2, p3] 0 : Nat) : Int) + (((p0 % 512).toNat : Nat) : Int)) = ((joinUp [p0, p1, p2, p3] 1 : Nat) : Int) := by
        rw [show joinUp [p0, p1, p2, p3] 1 = 512 * joinUp [p0, p1, p2, p3] 0 + (p0 % 512).toNat from rfl]
        exact (wrapu_in (by omega) (by omega)).trans (by omega)
      have hm : IntKind.u64.wrap ((wrap64 (p0.tmod 512 + 512)).tmod 512) = (((p0 % 512).toNat : Nat) : Int) := by
        rw [wrap64_rem, mod512]; exact wrapu_in (by omega) (by omega)
      have H := Lib.hid (And.intro hw hm)
      clear hw hm hl
      go_wp2
      exact ⟨⟨1, by omega, rfl, by rw [H.out.2, H.out.1]⟩, by decide⟩
    · have hb : joinUp [p0, p1, p2, p3] 1 < 512 := hl
      have hw : IntKind.u64.wrap (512 * ((joinUp [p0, p1, p2, p3] 1 : Nat) : Int) + (((p1 % 512).toNat : Nat) : Int)) = ((joinUp [p0, p1, p2, p3] 2 : Nat) : Int) := by
        rw [show joinUp [p0, p1, p2, p3] 2 = 512 * joinUp [p0, p1, p2, p3] 1 + (p1 % 512).toNat from rfl]
        exact (wrapu_in (by omega) (by omega)).trans (by omega)
      have hm : IntKind.u64.wrap ((wrap64 (p1.tmod 512 + 512)).tmod 512) = (((p1 % 512).toNat : Nat) : Int) := by
        rw [wrap64_rem, mod512]; exact wrapu_in (by omega) (by omega)
      have H := Lib.hid (And.intro hw hm)
      clear hw hm hl
      go_wp2
      exact ⟨⟨2, by omega, rfl, by rw [H.out.2, H.out.1]⟩, by decide⟩
    · have hb : joinUp [p0, p1, p2, p3] 2 < 262144 := hl
      have hw : IntKind.u64.wrap (512 * ((joinUp [p0, p1, p2, p3] 2 : Nat) : Int) + (((p2 % 512).toNat : Nat) : Int)) = ((joinUp [p0, p1, p2, p3] 3 : Nat) : Int) := by
        rw [show joinUp [p0, p1, p2, p3] 3 = 512 * joinUp [p0, p1, p2, p3] 2 + (p2 % 512).toNat from rfl]
        exact (wrapu_in (by omega) (by omega)).trans (by omega)
      have hm : IntKind.u64.wrap ((wrap64 (p2.tmod 512 + 512)).tmod 512) = (((p2 % 512).toNat : Nat) : Int) := by
        rw [wrap64_rem, mod512]; exact wrapu_in (by omega) (by omega)
      have H := Lib.hid (And.intro hw hm)
      clear hw hm hl
      go_wp2
      exact ⟨⟨3, by omega, rfl, by rw [H.out.2, H.out.1]⟩, by decide⟩
    · have hb : joinUp [p0, p1, p2, p3] 3 < 134217728 := hl
      have hw : IntKind.u64.wrap (512 * ((joinUp [p0, p1, p2, p3] 3 : Nat) : Int) + (((p3 % 512).toNat : Nat) : Int)) = ((joinUp [p0, p1, p2, p3] 4 : Nat) : Int) := by
        rw [show joinUp [p0, p1, p2, p3] 4 = 512 * joinUp [p0, p1, p2, p3] 3 + (p3 % 512).toNat from rfl]
        exact (wrapu_in (by omega) (by omega)).trans (by omega)
      have hm : IntKind.u64.wrap ((wrap64 (p3.tmod 512 + 512)).tmod 512) = (((p3 % 512).toNat : Nat) : Int) := by
        rw [wrap64_rem, mod512]; exact wrapu_in (by omega) (by omega)
      have H := Lib.hid (And.intro hw hm)
      clear hw hm hl
      go_wp2
      exact ⟨⟨4, by omega, rfl, by rw [H.out.2, H.out.1]⟩, by decide⟩
    · have h64 : joinUp [p0, p1, p2, p3] 4 < 68719476736 := hl
      clear hl
      go_wp2_with (go_at_call 27; refine (refsign_ (a := 4096 * joinUp [p0, p1, p2, p3] 4 + lo % 4096) (by omega) _ (by omega)).mono ?_; rintro e w' ⟨rfl, rfl⟩)
      go_ret
      exact ⟨by rw [J.out]; rfl, (Below.refl _ _).alloc (Nat.le_refl _) _⟩
theorem vaJoins_ (p0 p1 p2 p3 : Int) (lo : Nat) (w : World) (ha : lo < 18446744073709551616) :
    Calls Try.prog 9 #[.agg #[.int .i64 p0, .int .i64 p1, .int .i64 p2, .int .i64 p3], .int .u64 lo] w fun e w' => e = .returned (.bool true) ∧ Grows w w' := by
  go_enter Try.func9, Try.ntmps9
  go_wp2_with fail
  refine (awake03_ _).mono ?_; rintro e w1 ⟨rfl, hb1⟩
  obtain ⟨g1, rfl⟩ := hb1.isGrow
  go_wp2_with fail
  refine wp_region_grown (by kernel_rfl) (by kernel_rfl) ?_
  repeat (go_big_quiet_step ((first | (go_at_call 43; exact quiet_grows (join_ rfl _ _ _ _ _ ha)) | (go_at_call 44; exact quiet_grows (refjoin_ rfl _ _ _ _ _ ha)))))
  refine wpQuiet_nil ?_
  intro _ hw'
  obtain ⟨g2, rfl⟩ := hw'
  go_wp2
  go_ret
  exact ⟨rfl, Grows.trans' ((Below.refl _ _).alloc (Nat.le_refl _) _) (grows_grow _ _)⟩
end Go.Proofs.Ytbifpmaofkgkfaa
