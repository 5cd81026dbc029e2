/-
  When two programs are the same: the program's own (prog.Same) and the document's (overdriveref.SameProgram).
-/
import Derived.Test.YtcmlfaikdegbfaaDoorPgSmall
import Derived.StillTailTactics
namespace Go.Proofs.YtcmlfaikdegbfaaDoor
open Go.RowKit Go.Maps

instance : DecidableEq Mth := fun a b =>
  if h : a.pa = b.pa ∧ a.lo = b.lo ∧ a.re = b.re ∧ a.code = b.code then .isTrue (by cases a; cases b; simp at h; obtain ⟨rfl, rfl, rfl, rfl⟩ := h; rfl)
  else .isFalse (fun e => h (by subst e; exact ⟨rfl, rfl, rfl, rfl⟩))
/-- As far as k. -/
def upTo {α : Type} (l1 l2 : List α) (k : Nat) : Prop := l1.take k = l2.take k
theorem upTo_next {α : Type} [Inhabited α] {l1 l2 : List α} {k : Nat} {d : α} (h1 : k < l1.length) (h2 : k < l2.length) (h : upTo l1 l2 k) (he : l1.getD k d = l2.getD k d) : upTo l1 l2 (k + 1) := by
  unfold upTo at *
  rw [List.take_succ_eq_append_getElem h1, List.take_succ_eq_append_getElem h2, h]
  simp [h1, h2] at he
  rw [he]
theorem upTo_not {α : Type} {l1 l2 : List α} {k : Nat} {d : α} (he : l1.getD k d ≠ l2.getD k d) : l1 ≠ l2 := fun e => he (by rw [e])
theorem upTo_all {α : Type} {l1 l2 : List α} {k : Nat} (h1 : l1.length = k) (h2 : l2.length = k) (h : upTo l1 l2 k) : l1 = l2 := by
  unfold upTo at h
  rwa [List.take_of_length_le (by omega), List.take_of_length_le (by omega)] at h
theorem len_not {α : Type} {l1 l2 : List α} (h : l1.length ≠ l2.length) : l1 ≠ l2 := fun e => h (by rw [e])

set_option maxHeartbeats 400000 in
theorem sameInstr_any (x y : Ins) (w : World) : Calls Tryd.prog 80 #[iv x, iv y] w fun e w' => e = .returned (.bool (decide (x = y))) ∧ Below w.heap.size w w' := by
  obtain ⟨a1, a2, a3, a4⟩ := x
  obtain ⟨b1, b2, b3, b4⟩ := y
  have H := Lib.hid (show decide ((⟨a1, a2, a3, a4⟩ : Ins) = ⟨b1, b2, b3, b4⟩) = (decide (a1 = b1) && (decide (a2 = b2) && (decide (a3 = b3) && decide (a4 = b4)))) by rw [Bool.eq_iff_iff]; simp)
  go_enter Tryd.func80, Tryd.ntmps80
  go_wp2
  all_goals
    go_ret
    refine ⟨ret_bool ?_, ((Below.refl _ _).alloc (Nat.le_refl _) _).alloc (by simp) _⟩
    rw [H.out, Bool.eq_iff_iff]
    simp_all
theorem str_eqb (s t : ByteArray) : (s.toList == t.toList) = decide (s = t) := by
  rw [Bool.eq_iff_iff]
  simp only [beq_iff_eq, decide_eq_true_eq]
  exact ⟨fun h => ByteArray.ext (Array.ext' (by rw [ByteArray.toList_eq, ByteArray.toList_eq] at h; exact h)), fun h => by rw [h]⟩
theorem sameClass_any (s t : ByteArray) (w : World) : Calls Tryd.prog 48 #[.agg #[.string s], .agg #[.string t]] w fun e w' => e = .returned (.bool (decide (s = t))) ∧ Below w.heap.size w w' := by
  go_enter Tryd.func48, Tryd.ntmps48
  go_wp2
  go_ret
  exact ⟨ret_bool (str_eqb s t), ((Below.refl _ _).alloc (Nat.le_refl _) _).alloc (by simp) _⟩

set_option maxRecDepth 100000 in
set_option maxHeartbeats 1000000 in
theorem sameInstrs_any (A1 A2 : Option Addr) (c1 c2 : Nat) (l1 l2 : List Ins) (w : World) (hn1 : l1.length ≤ 9223372036854775807) (h1 : Rd w w.heap.size 4 A1 l1.length (icells l1)) (h2 : Rd w w.heap.size 4 A2 l2.length (icells l2)) :
    Calls Tryd.prog 61 #[.slice A1 l1.length c1, .slice A2 l2.length c2] w fun e w' => e = .returned (.bool (decide (l1 = l2))) ∧ Below w.heap.size w w' := by
  by_cases hne : l1.length = l2.length
  · obtain ⟨n, hn⟩ : ∃ n, l1.length = n := ⟨_, rfl⟩
    have hn2 : l2.length = n := by omega
    rw [hn] at hn1 h1
    rw [hn2] at h2
    rw [hn, hn2]
    have Hl1 := Lib.hid hn
    have Hl2 := Lib.hid hn2
    clear hn hn2 hne
    go_enter Tryd.func61, Tryd.ntmps61
    go_wp2
    go_loopw [5] (fun i wr => ∃ k : Nat, k ≤ n ∧ i = .int .i64 k ∧ Hid (upTo l1 l2 k) ∧ Below w.heap.size w wr) (fun i _ => n - (intOf i).toNat)
    case atStart => exact ⟨0, Nat.zero_le _, rfl, Lib.hid rfl, Below.refl _ _⟩
    case round =>
      obtain ⟨k, hk, rfl, Heq, hb⟩ := hrel
      have hz := hb.size
      by_cases hlt : k < n
      · obtain ⟨b1, o1, rfl, hb1, x0, x1, x2, x3⟩ := ins_at (l := l1) (by rw [Hl1.out]; exact (h1.below hb (Nat.le_refl _)).more hz) (by rw [Hl1.out]; exact hlt)
        obtain ⟨b2, o2, rfl, hb2, y0, y1, y2, y3⟩ := ins_at (l := l2) (by rw [Hl2.out]; exact (h2.below hb (Nat.le_refl _)).more hz) (by rw [Hl2.out]; exact hlt)
        have hyes := fun he => upTo_next (l1 := l1) (l2 := l2) (k := k) (d := default) (by rw [Hl1.out]; exact hlt) (by rw [Hl2.out]; exact hlt) Heq.out he
        have hno := fun he => upTo_not (l1 := l1) (l2 := l2) (k := k) (d := default) he
        generalize l1.getD k default = x at *
        generalize l2.getD k default = y at *
        have k0 : (0 : Int) ≤ k := by omega
        have k1 : (k : Int) < n := by omega
        have Hs := Lib.hid (fun W => sameInstr_any x y W)
        cases hxy : decide (x = y) with
        | true =>
          have Hy := Lib.hid (hyes (of_decide_eq_true hxy))
          rw [hxy] at Hs
          clear hxy hyes hno
          go_wp2_with fail
          go_still_tail 8, (by kernel_rfl)
          change wpList _ _ _ _ _ wr.drew
          go_wp2_with fail
          refine (Hs.out _).mono ?_
          rintro e w6 ⟨rfl, hb6⟩
          go_wp2
          go_roundw
          case rel => exact ⟨k + 1, by omega, by go_num, Hy, hb.drew.trans (hb6.mono hz)⟩
          case measure => simp [intOf]; omega
        | false =>
          have Hy := Lib.hid (hno (of_decide_eq_false hxy))
          rw [hxy] at Hs
          clear hxy hyes hno
          go_wp2_with fail
          go_still_tail 8, (by kernel_rfl)
          change wpList _ _ _ _ _ wr.drew
          go_wp2_with fail
          refine (Hs.out _).mono ?_
          rintro e w6 ⟨rfl, hb6⟩
          go_wp2
          go_ret
          exact ⟨ret_bool (decide_eq_false Hy.out).symm, hb.drew.trans (hb6.mono hz)⟩
      · have e : k = n := by omega
        clear hlt
        go_wp2
        go_ret
        exact ⟨ret_bool (decide_eq_true (upTo_all (k := k) (by rw [Hl1.out, e]) (by rw [Hl2.out, e]) Heq.out)).symm, hb⟩
  · have Hn := Lib.hid (len_not hne)
    go_enter Tryd.func61, Tryd.ntmps61
    go_wp2
    all_goals
      go_ret
      exact ⟨ret_bool (decide_eq_false Hn.out).symm, Below.refl _ _⟩
end Go.Proofs.YtcmlfaikdegbfaaDoor
