/-
  The statements' own examples: first.
-/
import Derived.Test.YteapnfobcebpfaaDoorRounds
namespace Go.Proofs.YteapnfobcebpfaaDoor
open Go.RowKit Go.Maps Mov

theorem ex1 : orderBad [(1, 2), (2, 1)] 9 = 0 := by decide
theorem ex2 : (orderF [(1, 2), (2, 1)] 9).length = 3 := by decide
theorem ex3 : orderBad [(1, 1)] 9 = 0 := by decide
theorem ex4 : (orderF [(1, 1)] 9).length = 0 := by decide
theorem ex5 : cyclesF [(1, 2), (2, 1)] = 1 := by decide

set_option maxRecDepth 100000 in
set_option maxHeartbeats 1000000 in
theorem first_any (a : Nat → Addr) (B : Nat) (w : World) (h : Sent w B [1, 3, 5] a) (hB : B ≤ w.heap.size) :
    Calls Tryd.prog 7 #[] w fun e w' => e = .returned (.bool true) ∧ Below w.heap.size w w' := by
  have ho1 : ∀ (x : Nat) (W : World), Below w.heap.size w W → Blk W x 31 #[.int .i64 1, .int .i64 2, .int .i64 2, .int .i64 1] → Calls Tryd.prog 8 #[.slice (some ⟨x, 0, none⟩) 2 2, .int .i64 9] W fun e w' => ∃ A c, e = .returned (.tuple #[.slice A 3 c, .nilIface]) ∧ Below W.heap.size W w' := fun x W hW hb => by
    have := order_yes a B (some ⟨x, 0, none⟩) 2 [(1, 2), (2, 1)] 9 W (h.below hW hB) (Nat.le_trans hB hW.size) (Blk.rd (xs := mcells [(1, 2), (2, 1)]) hb rfl hb.lt) (by intro m hm; simp at hm; rcases hm with rfl | rfl <;> exact ⟨wf64_of (by omega), wf64_of (by omega)⟩) (wf64_of (by omega)) (by decide) ex1
    rw [ex2] at this
    exact this.mono fun e w' ⟨A, c, h1, _, h2⟩ => ⟨A, c, h1, h2⟩
  have ho2 : ∀ (x : Nat) (W : World), Below w.heap.size w W → Blk W x 31 #[.int .i64 1, .int .i64 1] → Calls Tryd.prog 8 #[.slice (some ⟨x, 0, none⟩) 1 1, .int .i64 9] W fun e w' => ∃ A c, e = .returned (.tuple #[.slice A 0 c, .nilIface]) ∧ Below W.heap.size W w' := fun x W hW hb => by
    have := order_yes a B (some ⟨x, 0, none⟩) 1 [(1, 1)] 9 W (h.below hW hB) (Nat.le_trans hB hW.size) (Blk.rd (xs := mcells [(1, 1)]) hb rfl hb.lt) (by intro m hm; simp at hm; rcases hm with rfl; exact ⟨wf64_of (by omega), wf64_of (by omega)⟩) (wf64_of (by omega)) (by decide) ex3
    rw [ex4] at this
    exact this.mono fun e w' ⟨A, c, h1, _, h2⟩ => ⟨A, c, h1, h2⟩
  have hc : ∀ (x : Nat) (W : World), Below w.heap.size w W → Blk W x 31 #[.int .i64 1, .int .i64 2, .int .i64 2, .int .i64 1] → Calls Tryd.prog 10 #[.slice (some ⟨x, 0, none⟩) 2 2] W fun e w' => e = .returned (.int .i64 1) ∧ Below W.heap.size W w' := fun x W hW hb => by
    have := cycles_any a B (some ⟨x, 0, none⟩) 2 [(1, 2), (2, 1)] W (h.below hW hB) (Nat.le_trans hB hW.size) (Blk.rd (xs := mcells [(1, 2), (2, 1)]) hb rfl hb.lt) (by intro m hm; simp at hm; rcases hm with rfl | rfl <;> exact ⟨wf64_of (by omega), wf64_of (by omega)⟩) (by decide)
    rw [ex5] at this
    exact this
  have Ho1 := Lib.hid ho1
  have Ho2 := Lib.hid ho2
  have Hc := Lib.hid hc
  clear ho1 ho2 hc
  go_enter Tryd.func7, Tryd.ntmps7
  go_wp2_with fail
  refine (Ho1.out _ _ ((Below.refl _ _).alloc (Nat.le_refl _) _) (Blk.new w _ _)).mono ?_
  rintro e w1 ⟨A1, c1, rfl, hb1⟩
  have hbb1 : Below w.heap.size w w1 := ((Below.refl _ _).alloc (Nat.le_refl _) _).trans (hb1.mono (by simp))
  go_wp2_with fail
  refine (Ho2.out _ _ (hbb1.alloc hbb1.size _) (Blk.new w1 _ _)).mono ?_
  rintro e w2 ⟨A2, c2, rfl, hb2⟩
  have hbb2 : Below w.heap.size w w2 := (hbb1.alloc hbb1.size _).trans (hb2.mono (by simp; have := hbb1.size; omega))
  go_wp2_with fail
  refine (Hc.out _ _ (hbb2.alloc hbb2.size _) (Blk.new w2 _ _)).mono ?_
  rintro e w3 ⟨rfl, hb3⟩
  have hbb3 : Below w.heap.size w w3 := (hbb2.alloc hbb2.size _).trans (hb3.mono (by simp; have := hbb2.size; omega))
  go_wp2
  go_ret
  exact ⟨rfl, hbb3⟩
end Go.Proofs.YteapnfobcebpfaaDoor
