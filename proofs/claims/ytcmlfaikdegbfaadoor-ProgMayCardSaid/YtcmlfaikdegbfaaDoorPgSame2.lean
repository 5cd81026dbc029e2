/-
  When two programs are the same, continued: classes, methods, programs, by the document; written by gen_pgsame2.py.
-/
import Derived.Test.YtcmlfaikdegbfaaDoorPgSame
import Derived.Test.YtcmlfaikdegbfaaDoorPgRefIns
import Derived.Laws.StructEq
namespace Go.Proofs.YtcmlfaikdegbfaaDoor
open Go.RowKit Go.Maps

set_option maxRecDepth 100000 in
set_option maxHeartbeats 1000000 in
theorem sameClasses_any (A1 A2 : Option Addr) (c1 c2 : Nat) (l1 l2 : List ByteArray) (w : World) (hn1 : l1.length ≤ 9223372036854775807) (h1 : Rd w w.heap.size 1 A1 l1.length (l1.map Value.string)) (h2 : Rd w w.heap.size 1 A2 l2.length (l2.map Value.string)) :
    Calls Tryd.prog 34 #[.slice A1 l1.length c1, .slice A2 l2.length c2] w fun e w' => e = .returned (.bool (decide (l1 = l2))) ∧ Below w.heap.size w w' := by
  by_cases hne : l1.length = l2.length
  · obtain ⟨n, hn⟩ : ∃ n, l1.length = n := ⟨_, rfl⟩
    have hn2 : l2.length = n := by omega
    rw [hn] at hn1
    rw [hn, hn2]
    have Hl1 := Lib.hid hn
    have Hl2 := Lib.hid hn2
    clear hn hn2 hne
    go_enter Tryd.func34, Tryd.ntmps34
    go_wp2
    go_loopw [5] (fun i wr => ∃ k : Nat, k ≤ n ∧ i = .int .i64 k ∧ Hid (upTo l1 l2 k) ∧ Below w.heap.size w wr) (fun i _ => n - (intOf i).toNat)
    case atStart => exact ⟨0, Nat.zero_le _, rfl, Lib.hid rfl, Below.refl _ _⟩
    case round =>
      obtain ⟨k, hk, rfl, Heq, hb⟩ := hrel
      have hz := hb.size
      by_cases hlt : k < n
      · obtain ⟨b1, o1, rfl, hb1, x0⟩ := str_at (l := l1) ((h1.below hb (Nat.le_refl _)).more hz) (by rw [Hl1.out]; exact hlt)
        obtain ⟨b2, o2, rfl, hb2, y0⟩ := str_at (l := l2) ((h2.below hb (Nat.le_refl _)).more hz) (by rw [Hl2.out]; exact hlt)
        have hyes := fun he => upTo_next (l1 := l1) (l2 := l2) (k := k) (d := ⟨#[]⟩) (by rw [Hl1.out]; exact hlt) (by rw [Hl2.out]; exact hlt) Heq.out he
        have hno := fun he => upTo_not (l1 := l1) (l2 := l2) (k := k) (d := ⟨#[]⟩) he
        generalize l1.getD k ⟨#[]⟩ = x at *
        generalize l2.getD k ⟨#[]⟩ = y at *
        have k0 : (0 : Int) ≤ k := by omega
        have k1 : (k : Int) < n := by omega
        have Hs := Lib.hid (fun W => sameClass_any x y W)
        cases hxy : decide (x = y) with
        | true =>
          have Hy := Lib.hid (hyes (of_decide_eq_true hxy))
          rw [hxy] at Hs
          clear hxy hyes hno
          go_wp2_with fail
          go_still_tail 8, (by kernel_rfl)
          change wpList _ _ _ _ _ wr.drew
          go_wp2_with fail
          refine (Hs.out _).mono ?_
          rintro e w6 ⟨rfl, hb6⟩
          have hb7 := hb.drew.trans (hb6.mono hz)
          go_wp2
          go_roundw
          case rel => exact ⟨k + 1, by omega, by go_num, Hy, hb7⟩
          case measure => simp [intOf]; omega
        | false =>
          have Hy := Lib.hid (hno (of_decide_eq_false hxy))
          rw [hxy] at Hs
          clear hxy hyes hno
          go_wp2_with fail
          go_still_tail 8, (by kernel_rfl)
          change wpList _ _ _ _ _ wr.drew
          go_wp2_with fail
          refine (Hs.out _).mono ?_
          rintro e w6 ⟨rfl, hb6⟩
          have hb7 := hb.drew.trans (hb6.mono hz)
          go_wp2
          go_ret
          exact ⟨ret_bool (decide_eq_false Hy.out).symm, hb7⟩
      · have e : k = n := by omega
        clear hlt
        go_wp2
        go_ret
        exact ⟨ret_bool (decide_eq_true (upTo_all (k := k) (by rw [Hl1.out, e]) (by rw [Hl2.out, e]) Heq.out)).symm, hb⟩
  · have Hn := Lib.hid (len_not hne)
    go_enter Tryd.func34, Tryd.ntmps34
    go_wp2
    all_goals
      go_ret
      exact ⟨ret_bool (decide_eq_false Hn.out).symm, Below.refl _ _⟩

set_option maxRecDepth 100000 in
set_option maxHeartbeats 1000000 in
theorem equalC_any (A1 A2 : Option Addr) (c1 c2 : Nat) (l1 l2 : List ByteArray) (w : World) (hn1 : l1.length ≤ 9223372036854775807) (h1 : Rd w w.heap.size 1 A1 l1.length (l1.map Value.string)) (h2 : Rd w w.heap.size 1 A2 l2.length (l2.map Value.string)) :
    Calls Tryd.prog 30 #[.slice A1 l1.length c1, .slice A2 l2.length c2] w fun e w' => e = .returned (.bool (decide (l1 = l2))) ∧ Below w.heap.size w w' := by
  by_cases hne : l1.length = l2.length
  · obtain ⟨n, hn⟩ : ∃ n, l1.length = n := ⟨_, rfl⟩
    have hn2 : l2.length = n := by omega
    rw [hn] at hn1
    rw [hn, hn2]
    have Hl1 := Lib.hid hn
    have Hl2 := Lib.hid hn2
    clear hn hn2 hne
    go_enter Tryd.func30, Tryd.ntmps30
    go_wp2
    go_loopw [13] (fun i wr => ∃ k : Nat, k ≤ n ∧ i = .int .i64 k ∧ Hid (upTo l1 l2 k) ∧ Below w.heap.size w wr) (fun i _ => n - (intOf i).toNat)
    case atStart => exact ⟨0, Nat.zero_le _, rfl, Lib.hid rfl, Below.refl _ _⟩
    case round =>
      obtain ⟨k, hk, rfl, Heq, hb⟩ := hrel
      have hz := hb.size
      by_cases hlt : k < n
      · obtain ⟨b1, o1, rfl, hb1, x0⟩ := str_at (l := l1) ((h1.below hb (Nat.le_refl _)).more hz) (by rw [Hl1.out]; exact hlt)
        obtain ⟨b2, o2, rfl, hb2, y0⟩ := str_at (l := l2) ((h2.below hb (Nat.le_refl _)).more hz) (by rw [Hl2.out]; exact hlt)
        have hyes := fun he => upTo_next (l1 := l1) (l2 := l2) (k := k) (d := ⟨#[]⟩) (by rw [Hl1.out]; exact hlt) (by rw [Hl2.out]; exact hlt) Heq.out he
        have hno := fun he => upTo_not (l1 := l1) (l2 := l2) (k := k) (d := ⟨#[]⟩) he
        generalize l1.getD k ⟨#[]⟩ = x at *
        generalize l2.getD k ⟨#[]⟩ = y at *
        have k0 : (0 : Int) ≤ k := by omega
        have k1 : (k : Int) < n := by omega
        have hs := str_eqb x y
        cases hxy : decide (x = y) with
        | true =>
          have Hy := Lib.hid (hyes (of_decide_eq_true hxy))
          rw [hxy] at hs
          clear hxy hyes hno
          go_wp2
          go_quiet (fail)
          have hb7 := below_drewN hb nq
          go_wp2
          go_roundw
          case rel => exact ⟨k + 1, by omega, by go_num, Hy, hb7⟩
          case measure => simp [intOf]; omega
        | false =>
          have Hy := Lib.hid (hno (of_decide_eq_false hxy))
          rw [hxy] at hs
          clear hxy hyes hno
          go_wp2
          go_quiet (fail)
          have hb7 := below_drewN hb nq
          go_wp2
          go_ret
          exact ⟨ret_bool (decide_eq_false Hy.out).symm, hb7⟩
      · have e : k = n := by omega
        clear hlt
        go_wp2
        go_ret
        exact ⟨ret_bool (decide_eq_true (upTo_all (k := k) (by rw [Hl1.out, e]) (by rw [Hl2.out, e]) Heq.out)).symm, hb⟩
  · have Hn := Lib.hid (len_not hne)
    go_enter Tryd.func30, Tryd.ntmps30
    go_wp2
    all_goals
      go_ret
      exact ⟨ret_bool (decide_eq_false Hn.out).symm, Below.refl _ _⟩

theorem neq_ins (x y : Ins) (W : World) : (binOp .neq 29 (iv x) (iv y)).run Tryd.prog W = .ok (.bool (!decide (x = y))) W := by
  obtain ⟨a1, a2, a3, a4⟩ := x
  obtain ⟨b1, b2, b3, b4⟩ := y
  simp [go_sem]
  (repeat' split) <;> simp_all
set_option maxRecDepth 100000 in
set_option maxHeartbeats 1000000 in
theorem equalI_any (A1 A2 : Option Addr) (c1 c2 : Nat) (l1 l2 : List Ins) (w : World) (hn1 : l1.length ≤ 9223372036854775807) (h1 : Rd w w.heap.size 4 A1 l1.length (icells l1)) (h2 : Rd w w.heap.size 4 A2 l2.length (icells l2)) :
    Calls Tryd.prog 33 #[.slice A1 l1.length c1, .slice A2 l2.length c2] w fun e w' => e = .returned (.bool (decide (l1 = l2))) ∧ Below w.heap.size w w' := by
  by_cases hne : l1.length = l2.length
  · obtain ⟨n, hn⟩ : ∃ n, l1.length = n := ⟨_, rfl⟩
    have hn2 : l2.length = n := by omega
    rw [hn] at hn1
    rw [hn, hn2]
    have Hl1 := Lib.hid hn
    have Hl2 := Lib.hid hn2
    clear hn hn2 hne
    go_enter Tryd.func33, Tryd.ntmps33
    go_wp2
    go_loopw [13] (fun i wr => ∃ k : Nat, k ≤ n ∧ i = .int .i64 k ∧ Hid (upTo l1 l2 k) ∧ Below w.heap.size w wr) (fun i _ => n - (intOf i).toNat)
    case atStart => exact ⟨0, Nat.zero_le _, rfl, Lib.hid rfl, Below.refl _ _⟩
    case round =>
      obtain ⟨k, hk, rfl, Heq, hb⟩ := hrel
      have hz := hb.size
      by_cases hlt : k < n
      · obtain ⟨b1, o1, rfl, hb1, x0, x1, x2, x3⟩ := ins_at (l := l1) ((h1.below hb (Nat.le_refl _)).more hz) (by rw [Hl1.out]; exact hlt)
        obtain ⟨b2, o2, rfl, hb2, y0, y1, y2, y3⟩ := ins_at (l := l2) ((h2.below hb (Nat.le_refl _)).more hz) (by rw [Hl2.out]; exact hlt)
        have hyes := fun he => upTo_next (l1 := l1) (l2 := l2) (k := k) (d := default) (by rw [Hl1.out]; exact hlt) (by rw [Hl2.out]; exact hlt) Heq.out he
        have hno := fun he => upTo_not (l1 := l1) (l2 := l2) (k := k) (d := default) he
        generalize l1.getD k default = x at *
        generalize l2.getD k default = y at *
        have k0 : (0 : Int) ≤ k := by omega
        have k1 : (k : Int) < n := by omega
        have hs := fun W => neq_ins x y W
        simp only [iv] at hs
        cases hxy : decide (x = y) with
        | true =>
          have Hy := Lib.hid (hyes (of_decide_eq_true hxy))
          rw [hxy] at hs
          clear hxy hyes hno
          go_wp2
          go_quiet (fail)
          have hb7 := below_drewN hb nq
          go_wp2
          go_roundw
          case rel => exact ⟨k + 1, by omega, by go_num, Hy, hb7⟩
          case measure => simp [intOf]; omega
        | false =>
          have Hy := Lib.hid (hno (of_decide_eq_false hxy))
          rw [hxy] at hs
          clear hxy hyes hno
          go_wp2
          go_quiet (fail)
          have hb7 := below_drewN hb nq
          go_wp2
          go_ret
          exact ⟨ret_bool (decide_eq_false Hy.out).symm, hb7⟩
      · have e : k = n := by omega
        clear hlt
        go_wp2
        go_ret
        exact ⟨ret_bool (decide_eq_true (upTo_all (k := k) (by rw [Hl1.out, e]) (by rw [Hl2.out, e]) Heq.out)).symm, hb⟩
  · have Hn := Lib.hid (len_not hne)
    go_enter Tryd.func33, Tryd.ntmps33
    go_wp2
    all_goals
      go_ret
      exact ⟨ret_bool (decide_eq_false Hn.out).symm, Below.refl _ _⟩
end Go.Proofs.YtcmlfaikdegbfaaDoor
