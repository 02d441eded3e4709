/- The laws of layer 3, VaBack: the walk. -/
import Derived.Test.YtbifpmaofkgkfaaLaw03c
namespace Go.Proofs.Ytbifpmaofkgkfaa
open Go.RowKit
theorem sgn_mod (x : Nat) : sgn x % 281474976710656 = x % 281474976710656 := by unfold sgn; split <;> omega
theorem sgn_of_mod (x : Nat) : sgn (x % 281474976710656) = sgn x := by
  have e1 : x % 281474976710656 / 140737488355328 % 2 = x / 140737488355328 % 2 := by omega
  have e2 : x % 281474976710656 % 281474976710656 = x % 281474976710656 := by omega
  unfold sgn
  rw [e1, e2]
theorem idx4_mod (x : Nat) : x / 549755813888 % 512 = x % 281474976710656 / 549755813888 := by omega
theorem idx3_mod (x : Nat) : x / 1073741824 % 512 = x % 281474976710656 / 1073741824 % 512 := by omega
theorem idx2_mod (x : Nat) : x / 2097152 % 512 = x % 281474976710656 / 2097152 % 512 := by omega
theorem idx1_mod (x : Nat) : x / 4096 % 512 = x % 281474976710656 / 4096 % 512 := by omega
theorem low12_mod (x : Nat) : x % 4096 = x % 281474976710656 % 4096 := by omega
theorem idx_sgn (x : Nat) : idx (sgn x) 4 = x / 549755813888 % 512 ∧ idx (sgn x) 3 = x / 1073741824 % 512 ∧ idx (sgn x) 2 = x / 2097152 % 512 ∧ idx (sgn x) 1 = x / 4096 % 512 ∧ sgn x % 4096 = x % 4096 := by
  refine ⟨?_, ?_, ?_, ?_, ?_⟩
  · show sgn x / 549755813888 % 512 = _; rw [idx4_mod, sgn_mod, ← idx4_mod]
  · show sgn x / 1073741824 % 512 = _; rw [idx3_mod, sgn_mod, ← idx3_mod]
  · show sgn x / 2097152 % 512 = _; rw [idx2_mod, sgn_mod, ← idx2_mod]
  · show sgn x / 4096 % 512 = _; rw [idx1_mod, sgn_mod, ← idx1_mod]
  · rw [low12_mod, sgn_mod, ← low12_mod]
theorem nat_mod (p : Nat) : ((p : Int) % 512 % 512).toNat = p % 512 := by omega
theorem sum_parts (A B C D r : Nat) (hA : A < 512) (hB : B < 512) (hC : C < 512) (hD : D < 512) (hr : r < 4096) :
    (A * 549755813888 + B * 1073741824 + C * 2097152 + D * 4096 + r) / 549755813888 % 512 = A ∧ (A * 549755813888 + B * 1073741824 + C * 2097152 + D * 4096 + r) / 1073741824 % 512 = B ∧
    (A * 549755813888 + B * 1073741824 + C * 2097152 + D * 4096 + r) / 2097152 % 512 = C ∧ (A * 549755813888 + B * 1073741824 + C * 2097152 + D * 4096 + r) / 4096 % 512 = D ∧
    (A * 549755813888 + B * 1073741824 + C * 2097152 + D * 4096 + r) % 4096 = r := by
  refine ⟨?_, ?_, ?_, ?_, ?_⟩ <;> omega
theorem join_parts (p0 p1 p2 p3 a : Nat) : idx (join [(p0 : Int) % 512, (p1 : Int) % 512, (p2 : Int) % 512, (p3 : Int) % 512] a) 4 = p0 % 512 ∧ idx (join [(p0 : Int) % 512, (p1 : Int) % 512, (p2 : Int) % 512, (p3 : Int) % 512] a) 3 = p1 % 512 ∧
    idx (join [(p0 : Int) % 512, (p1 : Int) % 512, (p2 : Int) % 512, (p3 : Int) % 512] a) 2 = p2 % 512 ∧ idx (join [(p0 : Int) % 512, (p1 : Int) % 512, (p2 : Int) % 512, (p3 : Int) % 512] a) 1 = p3 % 512 ∧
    join [(p0 : Int) % 512, (p1 : Int) % 512, (p2 : Int) % 512, (p3 : Int) % 512] a % 4096 = a % 4096 := by
  unfold join
  simp only [List.getD_cons_zero, List.getD_cons_succ]
  rw [nat_mod, nat_mod, nat_mod, nat_mod]
  have h := idx_sgn (p0 % 512 * 549755813888 + p1 % 512 * 1073741824 + p2 % 512 * 2097152 + p3 % 512 * 4096 + a % 4096)
  have k := sum_parts (p0 % 512) (p1 % 512) (p2 % 512) (p3 % 512) (a % 4096) (by omega) (by omega) (by omega) (by omega) (by omega)
  exact ⟨h.1.trans k.1, h.2.1.trans k.2.1, h.2.2.1.trans k.2.2.1, h.2.2.2.1.trans k.2.2.2.1, h.2.2.2.2.trans k.2.2.2.2⟩
theorem join_back (b : Nat) (h : canon b = true) : join [((idx b 4 : Nat) : Int), ((idx b 3 : Nat) : Int), ((idx b 2 : Nat) : Int), ((idx b 1 : Nat) : Int)] (b % 4096) = b := by
  unfold join
  simp only [List.getD_cons_zero, List.getD_cons_succ]
  have e : ((((idx b 4 : Nat) : Int) % 512).toNat * 549755813888 + (((idx b 3 : Nat) : Int) % 512).toNat * 1073741824 + (((idx b 2 : Nat) : Int) % 512).toNat * 2097152 + (((idx b 1 : Nat) : Int) % 512).toNat * 4096 + b % 4096 % 4096) = b % 281474976710656 := by
    have i4 : idx b 4 = b / 549755813888 % 512 := rfl
    have i3 : idx b 3 = b / 1073741824 % 512 := rfl
    have i2 : idx b 2 = b / 2097152 % 512 := rfl
    have i1 : idx b 1 = b / 4096 % 512 := rfl
    rw [i4, i3, i2, i1]
    omega
  rw [e, sgn_of_mod]
  unfold canon at h
  exact eq_of_beq h
theorem join_canon (p : List Int) (a : Nat) : canon (join p a) = true ∧ join p a < 18446744073709551616 := by
  unfold join
  exact ⟨canon_sgn _, sgn_lt _⟩
set_option maxRecDepth 100000 in
theorem vaBack_ (a p0 p1 p2 p3 : Nat) (w : World) (ha : a < 18446744073709551616) (h0 : p0 < 65536) (h1 : p1 < 65536) (h2 : p2 < 65536) (h3 : p3 < 65536) :
    Calls Try.prog 10 #[.int .u64 a, .agg #[.int .u16 p0, .int .u16 p1, .int .u16 p2, .int .u16 p3]] w fun e w' => e = .returned (.bool true) ∧ Grows w w' := by
  have hb := sgn_lt a
  have SG := Lib.hid (fun w => sign_ (a := a) rfl w)
  have I4 := Lib.hid (fun w => index_ (a := sgn a) rfl 4 w hb)
  have I3 := Lib.hid (fun w => index_ (a := sgn a) rfl 3 w hb)
  have I2 := Lib.hid (fun w => index_ (a := sgn a) rfl 2 w hb)
  have I1 := Lib.hid (fun w => index_ (a := sgn a) rfl 1 w hb)
  go_enter Try.func10, Try.ntmps10
  go_wp2_with fail
  refine (awake03_ _).mono ?_; rintro e w1 ⟨rfl, hb1⟩
  go_wp2_with fail
  refine (SG.out _).mono ?_; rintro e w2 ⟨rfl, rfl⟩
  go_wp2_with fail
  refine (I4.out _).mono ?_; rintro e w2 ⟨rfl, hb2⟩
  go_wp2_with fail
  refine (I3.out _).mono ?_; rintro e w3 ⟨rfl, hb3⟩
  go_wp2_with fail
  refine (I2.out _).mono ?_; rintro e w4 ⟨rfl, hb4⟩
  go_wp2_with fail
  refine (I1.out _).mono ?_; rintro e w5 ⟨rfl, hb5⟩
  have hb : Grows _ w5 := ((hb1.trans' hb2).trans' hb3).trans' (hb4.trans' hb5)
  have B0 := (Has.new w _ _).grows hb
  have HB := Lib.hid (Grows.trans' ((Below.refl _ _).alloc (Nat.le_refl _) _) hb)
  have c0 := B0.cell 0
  have c1 := B0.cell 1
  have c2 := B0.cell 2
  have c3 := B0.cell 3
  simp only [List.getElem?_toArray, List.getElem?_cons_zero, List.getElem?_cons_succ] at c0 c1 c2 c3
  have hlt := B0.lt
  have F := fun i => B0.frozen i
  have HB0 := Lib.hid B0
  clear hb1 hb2 hb3 hb4 hb5 hb B0
  go_wp2_with fail
  refine (join_ rfl _ _ _ _ _ ha).mono ?_; rintro e w6 ⟨rfl, hb6⟩
  have JP := join_parts p0 p1 p2 p3 a
  obtain ⟨CC0, CL'⟩ := join_canon [(p0 : Int) % 512, (p1 : Int) % 512, (p2 : Int) % 512, (p3 : Int) % 512] a
  have CC' := Lib.hid CC0
  clear CC0
  generalize join [(p0 : Int) % 512, (p1 : Int) % 512, (p2 : Int) % 512, (p3 : Int) % 512] a = c at *
  have BQ := (Has.new (w5.alloc _) _ _).grows hb6
  have BP := ((Has.new w5 _ _).alloc _).grows hb6
  have HB6 := Lib.hid (Grows.trans' (Grows.trans' HB.out (Below.alloc (Below.alloc (Below.refl _ _) (Nat.le_refl _) _) (by simp) _)) hb6)
  have eq1 : (w5.alloc (Obj.cells #[Value.int IntKind.i64 ↑(idx (sgn a) 4), Value.int IntKind.i64 ↑(idx (sgn a) 3), Value.int IntKind.i64 ↑(idx (sgn a) 2), Value.int IntKind.i64 ↑(idx (sgn a) 1)] 43)).heap.size = w5.heap.size + 1 := by simp
  rw [eq1] at BQ
  clear hb6 HB HB0 c0 c1 c2 c3 F hlt eq1
  generalize w5.heap.size + 1 = bq at *
  generalize w5.heap.size = bp at *
  have q0 := fun g => BQ.gcell g 0
  have q1 := fun g => BQ.gcell g 1
  have q2 := fun g => BQ.gcell g 2
  have q3 := fun g => BQ.gcell g 3
  simp only [List.getElem?_toArray, List.getElem?_cons_zero, List.getElem?_cons_succ] at q0 q1 q2 q3
  have HBP := Lib.hid BP
  obtain ⟨j4, j3, j2, j1, jm⟩ := JP
  have IC4 := Lib.hid (fun w => index_ (a := c) rfl 4 w CL')
  have IC3 := Lib.hid (fun w => index_ (a := c) rfl 3 w CL')
  have IC2 := Lib.hid (fun w => index_ (a := c) rfl 2 w CL')
  have IC1 := Lib.hid (fun w => index_ (a := c) rfl 1 w CL')
  have n4 : ((idx c 4 : Nat) : Int) = (p0 : Int) % 512 := by omega
  have n3 : ((idx c 3 : Nat) : Int) = (p1 : Int) % 512 := by omega
  have n2 : ((idx c 2 : Nat) : Int) = (p2 : Int) % 512 := by omega
  have n1 : ((idx c 1 : Nat) : Int) = (p3 : Int) % 512 := by omega
  have JM := Lib.hid jm
  clear BQ BP j4 j3 j2 j1 jm
  go_wp2_with fail
  go_loopw [10] (fun i wr => ∃ k : Nat, k ≤ 4 ∧ i = .int .i64 k ∧ Grows w6 wr) (fun i _ => 4 - (intOf i).toNat)
  case atStart => exact ⟨0, by omega, rfl, Below.refl _ _⟩
  case round =>
    obtain ⟨k, hk, rfl, hgr⟩ := hrel
    obtain ⟨g, rfl⟩ := hgr.isGrow
    have hk5 : k = 0 ∨ k = 1 ∨ k = 2 ∨ k = 3 ∨ k = 4 := by omega
    clear hk hgr
    rcases hk5 with rfl | rfl | rfl | rfl | rfl
    · go_wp2_with fail
      refine wp_region_grown (by kernel_rfl) (by kernel_rfl) ?_
      repeat (go_big_quiet_step ((go_at_call 28; exact quiet_grows (IC4.out _))))
      refine wpQuiet_nil ?_
      intro _ hw'
      obtain ⟨g2, rfl⟩ := hw'
      go_wp2_with fail
      go_roundw
      case rel => exact ⟨1, by omega, rfl, grows_grow _ _⟩
      case measure => simp [intOf]
    · go_wp2_with fail
      refine wp_region_grown (by kernel_rfl) (by kernel_rfl) ?_
      repeat (go_big_quiet_step ((go_at_call 28; exact quiet_grows (IC3.out _))))
      refine wpQuiet_nil ?_
      intro _ hw'
      obtain ⟨g2, rfl⟩ := hw'
      go_wp2_with fail
      go_roundw
      case rel => exact ⟨2, by omega, rfl, grows_grow _ _⟩
      case measure => simp [intOf]
    · go_wp2_with fail
      refine wp_region_grown (by kernel_rfl) (by kernel_rfl) ?_
      repeat (go_big_quiet_step ((go_at_call 28; exact quiet_grows (IC2.out _))))
      refine wpQuiet_nil ?_
      intro _ hw'
      obtain ⟨g2, rfl⟩ := hw'
      go_wp2_with fail
      go_roundw
      case rel => exact ⟨3, by omega, rfl, grows_grow _ _⟩
      case measure => simp [intOf]
    · go_wp2_with fail
      refine wp_region_grown (by kernel_rfl) (by kernel_rfl) ?_
      repeat (go_big_quiet_step ((go_at_call 28; exact quiet_grows (IC1.out _))))
      refine wpQuiet_nil ?_
      intro _ hw'
      obtain ⟨g2, rfl⟩ := hw'
      go_wp2_with fail
      go_roundw
      case rel => exact ⟨4, by omega, rfl, grows_grow _ _⟩
      case measure => simp [intOf]
    · have BP2 := HBP.out.grows (grows_grow w6 g)
      have HB7 := Lib.hid (Grows.trans' HB6.out (grows_grow w6 g))
      generalize grow w6 g = w7 at *
      have d0 := BP2.cell 0
      have d1 := BP2.cell 1
      have d2 := BP2.cell 2
      have d3 := BP2.cell 3
      simp only [List.getElem?_toArray, List.getElem?_cons_zero, List.getElem?_cons_succ] at d0 d1 d2 d3
      have JB := Lib.hid (join_back (sgn a) (canon_sgn a))
      have m1 : ((sgn a : Nat) : Int) % 4096 = ((sgn a % 4096 : Nat) : Int) := by omega
      have m2 : ((c : Nat) : Int) % 4096 = (a : Int) % 4096 := by have := JM.out; omega
      have CB := Lib.hid (canon_sgn a)
      have JJ := Lib.hid (fun w => join_ (x := ((sgn a : Nat) : Int) % 4096) m1 ((idx (sgn a) 4 : Nat) : Int) ((idx (sgn a) 3 : Nat) : Int) ((idx (sgn a) 2 : Nat) : Int) ((idx (sgn a) 1 : Nat) : Int) w (by omega))
      have tq : canon a = (((a : Nat) : Int) == ((sgn a : Nat) : Int)) := by
        unfold canon
        rw [Bool.eq_iff_iff, beq_iff_eq, beq_iff_eq]; omega
      have TQ := Lib.hid tq
      clear q0 q1 q2 q3 BP2 n1 n2 n3 n4 tq m1
      go_wp2_with fail
      refine (JJ.out _).mono ?_; rw [JB.out]; rintro e w8 ⟨rfl, hb8⟩
      go_wp2_with fail
      refine (canon_t rfl CB.out _).mono ?_; rintro e w9 ⟨rfl, rfl⟩
      go_wp2_with fail
      refine (canon_t rfl CC'.out _).mono ?_; rintro e w9 ⟨rfl, rfl⟩
      go_wp2_with fail
      refine (canon_ rfl _).mono ?_; rw [TQ.out]; rintro e w9 ⟨rfl, rfl⟩
      go_wp2_with fail
      go_ret
      exact ⟨rfl, Grows.trans' HB7.out hb8⟩
end Go.Proofs.Ytbifpmaofkgkfaa
