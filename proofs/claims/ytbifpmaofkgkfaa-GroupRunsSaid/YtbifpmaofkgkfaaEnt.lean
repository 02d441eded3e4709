/- Package entry, and the reference of layer 5: each function comes to its plain function. -/
import Derived.Test.YtbifpmaofkgkfaaRef3
import Derived.Test.YtbifpmaofkgkfaaVa
import Derived.Test.YtbifpmaofkgkfaaEntPlain
import Derived.Test.YtbifpmaofkgkfaaRegion
namespace Go.Proofs.Ytbifpmaofkgkfaa
open Go.RowKit
theorem table_ {x : Int} {a : Nat} (hx : x = a) (w : World) (ha : a < 18446744073709551616) :
    Calls Try.prog 42 #[.int .u64 x] w fun e w' => e = .returned (.int .u64 (tab a)) ∧ w = w' := by
  subst hx
  have H := Lib.hid (tab_run ha)
  go_enter Try.func42, Try.ntmps42
  go_wp2_with (go_at_call 72; refine (mask_ _ _ _).mono ?_; rintro e w' ⟨rfl, rfl⟩)
  go_ret
  exact ⟨ret_int H.out, rfl⟩
theorem reftable_ {x : Int} {a : Nat} (hx : x = a) (w : World) (ha : a < 18446744073709551616) :
    Calls Try.prog 53 #[.int .u64 x] w fun e w' => e = .returned (.int .u64 (tab a)) ∧ w = w' := by
  subst hx
  have H := Lib.hid (tab_get a)
  have hl := tab_lt a
  rw [tab_get] at hl
  have hs : ((getN a 12 40 : Nat) : Int) * 4096 ≤ 4503599627370496 := by omega
  clear hl
  go_enter Try.func53, Try.ntmps53
  go_wp2_with (go_at_call 82; refine (refget_ rfl _ _ _ ha).mono ?_; rintro e w' ⟨rfl, rfl⟩)
  go_ret
  exact ⟨ret_int (by rw [H.out, Int.natCast_mul]; rfl), rfl⟩
theorem slot_ {x y : Int} {t a : Nat} (hx : x = t) (hy : y = a) (l : Int) (w : World) (ht : t < 18446744073709551616) (ha : a < 18446744073709551616) :
    Calls Try.prog 40 #[.int .u64 x, .int .u64 y, .int .i64 l] w fun e w' => e = .returned (.int .u64 (slotN t a l)) ∧ Grows w w' := by
  subst hx hy
  have h1 := tab_lt t
  have h2 := idx_lt a l
  go_enter Try.func40, Try.ntmps40
  go_wp2_with (first | (go_at_call 42; refine (table_ rfl _ ht).mono ?_; rintro e w' ⟨rfl, rfl⟩) | (go_at_call 28; refine (index_ rfl _ _ ha).mono ?_; rintro e w' ⟨rfl, hb⟩))
  go_ret
  exact ⟨ret_int (by unfold slotN; omega), hb⟩
theorem refslot_ {x y : Int} {t a : Nat} (hx : x = t) (hy : y = a) (l : Int) (w : World) (ht : t < 18446744073709551616) (ha : a < 18446744073709551616) :
    Calls Try.prog 41 #[.int .u64 x, .int .u64 y, .int .i64 l] w fun e w' => e = .returned (.int .u64 (slotN t a l)) ∧ w = w' := by
  subst hx hy
  have h1 := tab_lt t
  have h2 := idx_lt a l
  go_enter Try.func41, Try.ntmps41
  go_wp2_with (first | (go_at_call 53; refine (reftable_ rfl _ ht).mono ?_; rintro e w' ⟨rfl, rfl⟩) | (go_at_call 29; refine (refindex_ rfl _ _ ha).mono ?_; rintro e w' ⟨rfl, rfl⟩))
  go_ret
  exact ⟨ret_int (by unfold slotN; omega), rfl⟩
theorem leaf_ {x : Int} {a : Nat} (hx : x = a) (l : Int) (w : World) (ha : a < 18446744073709551616) :
    Calls Try.prog 56 #[.int .u64 x, .int .i64 l] w fun e w' => e = .returned (.bool (leafB a l)) ∧ w = w' := by
  subst hx
  have hq := ask_bit (x := a) (k := 7) (m := 128) (by decide) (by omega) ha
  have Q := Lib.hid hq
  clear hq
  by_cases h1 : l = 1
  · subst h1
    go_enter Try.func56, Try.ntmps56
    go_wp2
    go_ret
    exact ⟨rfl, rfl⟩
  · have b1 : (l == 1) = false := beq_eq_false_iff_ne.2 h1
    by_cases h2 : l = 2
    · subst h2
      go_enter Try.func56, Try.ntmps56
      go_wp2
      go_ret
      exact ⟨ret_bool (by rw [Q.out]; unfold leafB; simp), rfl⟩
    · have b2 : (l == 2) = false := beq_eq_false_iff_ne.2 h2
      by_cases h3 : l = 3
      · subst h3
        go_enter Try.func56, Try.ntmps56
        go_wp2
        go_ret
        exact ⟨ret_bool (by rw [Q.out]; unfold leafB; simp), rfl⟩
      · have b3 : (l == 3) = false := beq_eq_false_iff_ne.2 h3
        have e : leafB a l = false := by unfold leafB; simp [h1, h2, h3]
        have E := Lib.hid e
        clear e
        go_enter Try.func56, Try.ntmps56
        go_wp2
        go_ret
        exact ⟨ret_bool (by rw [E.out]), rfl⟩
theorem refleaf_ {x : Int} {a : Nat} (hx : x = a) (l : Int) (w : World) (ha : a < 18446744073709551616) :
    Calls Try.prog 64 #[.int .u64 x, .int .i64 l] w fun e w' => e = .returned (.bool (leafB a l)) ∧ w = w' := by
  subst hx
  by_cases h1 : l = 1
  · subst h1
    go_enter Try.func64, Try.ntmps64
    go_wp2
    go_ret
    exact ⟨rfl, rfl⟩
  · have b1 : (l == 1) = false := beq_eq_false_iff_ne.2 h1
    by_cases h2 : l = 2
    · subst h2
      go_enter Try.func64, Try.ntmps64
      go_wp2_with (go_at_call 67; refine (bit_in rfl ha 7 _ (by omega)).mono ?_; rintro e w' ⟨rfl, rfl⟩)
      go_ret
      exact ⟨ret_bool (by unfold leafB; simp), rfl⟩
    · have b2 : (l == 2) = false := beq_eq_false_iff_ne.2 h2
      by_cases h3 : l = 3
      · subst h3
        go_enter Try.func64, Try.ntmps64
        go_wp2_with (go_at_call 67; refine (bit_in rfl ha 7 _ (by omega)).mono ?_; rintro e w' ⟨rfl, rfl⟩)
        go_ret
        exact ⟨ret_bool (by unfold leafB; simp), rfl⟩
      · have b3 : (l == 3) = false := beq_eq_false_iff_ne.2 h3
        have e : leafB a l = false := by unfold leafB; simp [h1, h2, h3]
        have E := Lib.hid e
        clear e
        go_enter Try.func64, Try.ntmps64
        go_wp2
        go_ret
        exact ⟨ret_bool (by rw [E.out]), rfl⟩
theorem frame_ {x : Int} {a : Nat} (hx : x = a) (l : Int) (w : World) (ha : a < 18446744073709551616) :
    Calls Try.prog 57 #[.int .u64 x, .int .i64 l] w fun e w' => e = .returned (.int .u64 (frameN a l)) ∧ Grows w w' := by
  subst hx
  have L := Lib.hid (fun w => leaf_ (a := a) rfl l w ha)
  cases h : leafB a l with
  | true =>
    rw [h] at L
    have E := Lib.hid (show frameN a l = page (tab a) l by unfold frameN; rw [h]; rfl)
    clear h
    go_enter Try.func57, Try.ntmps57
    go_wp2_with (first | (go_at_call 56; refine (L.out _).mono ?_; rintro e w' ⟨rfl, rfl⟩) | (go_at_call 42; refine (table_ rfl _ ha).mono ?_; rintro e w' ⟨rfl, rfl⟩) | (go_at_call 32; refine (page_ rfl _ _ (tab_lt64 a)).mono ?_; rintro e w' ⟨rfl, hb⟩))
    go_ret
    exact ⟨by rw [E.out]; rfl, hb⟩
  | false =>
    rw [h] at L
    have E := Lib.hid (show frameN a l = tab a by unfold frameN; rw [h]; rfl)
    clear h
    go_enter Try.func57, Try.ntmps57
    go_wp2_with (first | (go_at_call 56; refine (L.out _).mono ?_; rintro e w' ⟨rfl, rfl⟩) | (go_at_call 42; refine (table_ rfl _ ha).mono ?_; rintro e w' ⟨rfl, rfl⟩))
    go_ret
    exact ⟨by rw [E.out]; rfl, Below.refl _ _⟩
theorem refframe_ {x : Int} {a : Nat} (hx : x = a) (l : Int) (w : World) (ha : a < 18446744073709551616) :
    Calls Try.prog 65 #[.int .u64 x, .int .i64 l] w fun e w' => e = .returned (.int .u64 (frameN a l)) ∧ w = w' := by
  subst hx
  have L := Lib.hid (fun w => refleaf_ (a := a) rfl l w ha)
  cases h : leafB a l with
  | true =>
    rw [h] at L
    have hl : l = 1 ∨ l = 2 ∨ l = 3 := by unfold leafB at h; simp at h; omega
    have hz : size l ≠ 0 := by rcases hl with rfl | rfl | rfl <;> decide
    have E := Lib.hid (show frameN a l = tab a - tab a % size l by unfold frameN page low; rw [h, if_pos rfl, if_neg hz])
    have hz0 : (((size l : Nat) : Int) == 0) = false := by rw [beq_eq_false_iff_ne]; omega
    have hm := Lib.hid (show tab a % size l ≤ tab a from Nat.mod_le _ _)
    have HMS := Lib.hid (show ((tab a : Nat) : Int) % ((size l : Nat) : Int) = ((tab a % size l : Nat) : Int) by rw [Int.natCast_emod])
    have ht := tab_lt a
    have hz1 : 0 < size l := by omega
    clear h hl hz
    go_enter Try.func65, Try.ntmps65
    go_wp2_with (first | (go_at_call 64; refine (L.out _).mono ?_; rintro e w' ⟨rfl, rfl⟩) | (go_at_call 53; refine (reftable_ rfl _ ha).mono ?_; rintro e w' ⟨rfl, rfl⟩) | (go_at_call 31; refine (refsize_ _ _).mono ?_; rintro e w' ⟨rfl, rfl⟩))
    go_ret
    exact ⟨by rw [E.out]; exact ret_int (by have := hm.out; rw [HMS.out]; generalize tab a % size l = m at *; rw [wrapu_in (by omega) (by omega)]; omega), rfl⟩
  | false =>
    rw [h] at L
    have E := Lib.hid (show frameN a l = tab a by unfold frameN; rw [h]; rfl)
    clear h
    go_enter Try.func65, Try.ntmps65
    go_wp2_with (first | (go_at_call 64; refine (L.out _).mono ?_; rintro e w' ⟨rfl, rfl⟩) | (go_at_call 53; refine (reftable_ rfl _ ha).mono ?_; rintro e w' ⟨rfl, rfl⟩))
    go_ret
    exact ⟨by rw [E.out]; rfl, rfl⟩
end Go.Proofs.Ytbifpmaofkgkfaa
