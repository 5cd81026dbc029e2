/-
  The walk of MovesAtOnce.
-/
import Derived.Test.YteapnfobcebpfaaDoorOnceLaw
import Derived.Deep.DeepCutAuto
import Derived.StillTailTactics
namespace Go.Proofs.YteapnfobcebpfaaDoor
open Go.RowKit Go.Maps Mov

set_option maxRecDepth 100000 in
set_option maxHeartbeats 1000000 in
theorem once_skip (a : Nat → Addr) (B : Nat) (w : World) (h : Sent w B [1, 3, 5] a) (hB : B ≤ w.heap.size) (A A2 : Option Addr) (n c q c2 : Nat) (sp : Int)
    (hc : (60 < n ∧ n ≤ 500) ∨ (60 < n ∧ 500 < n ∧ 600 < n) ∨ (n ≤ 60 ∧ n ≤ 600 ∧ 40 < q) ∨ (60 < n ∧ 500 < n ∧ n ≤ 600 ∧ 40 < q)) :
    Calls Tryd.prog 3 #[.slice A n c, .int .i64 sp, .slice A2 q c2] w fun e w' => e = .returned (.bool true) ∧ Below w.heap.size w w' := by
  have g1 : 60 < n → decide (60 < (n : Int)) = true := fun h => by simp; omega
  have g2 : n ≤ 60 → decide (60 < (n : Int)) = false := fun h => by simp; omega
  have g3 : n ≤ 500 → decide ((n : Int) ≤ 500) = true := fun h => by simp; omega
  have g4 : 500 < n → decide ((n : Int) ≤ 500) = false := fun h => by simp; omega
  have g5 : 600 < n → decide (600 < (n : Int)) = true := fun h => by simp; omega
  have g6 : n ≤ 600 → decide (600 < (n : Int)) = false := fun h => by simp; omega
  have g7 : 40 < q → decide (40 < (q : Int)) = true := fun h => by simp; omega
  have k : ∀ b1 b2 b3 b4 : Bool, decide (60 < (n : Int)) = b1 → decide ((n : Int) ≤ 500) = b2 → decide (600 < (n : Int)) = b3 → decide (40 < (q : Int)) = b4 → ((b1 = true ∧ b2 = true) ∨ b3 = true ∨ b4 = true) → 
    Calls Tryd.prog 3 #[.slice A n c, .int .i64 sp, .slice A2 q c2] w fun e w' => e = .returned (.bool true) ∧ Below w.heap.size w w' := by
    clear g1 g2 g3 g4 g5 g6 g7 hc
    intro b1 b2 b3 b4 g1 g2 g3 g4 hc
    cases b1 <;> cases b2 <;> cases b3 <;> cases b4 <;> first
      | (simp at hc; done)
      | (clear hc
         go_enter Tryd.func3, Tryd.ntmps3
         go_wp2_with (go_at_call 7; refine (first_any a B _ h hB).mono ?_; rintro e w0 ⟨rfl, hb0⟩)
         go_ret
         exact ⟨rfl, hb0⟩)
  rcases hc with ⟨h1, h2⟩ | ⟨h1, h2, h3⟩ | ⟨h1, h2, h3⟩ | ⟨h1, h2, h3, h4⟩
  · exact k _ _ _ _ (g1 h1) (g3 h2) rfl rfl (.inl ⟨rfl, rfl⟩)
  · exact k _ _ _ _ (g1 h1) (g4 h2) (g5 h3) rfl (.inr (.inl rfl))
  · exact k _ _ _ _ (g2 h1) rfl (g6 h2) (g7 h3) (.inr (.inr rfl))
  · exact k _ _ _ _ (g1 h1) (g4 h2) (g6 h3) (g7 h4) (.inr (.inr rfl))

set_option maxRecDepth 100000 in
set_option maxHeartbeats 1000000 in
theorem once_many (a : Nat → Addr) (B : Nat) (w : World) (h : Sent w B all14 a) (hB : B ≤ w.heap.size) (A A2 : Option Addr) (c q c2 : Nat) (l : List Mv) (sp : Int) (hr : Rd w w.heap.size 2 A l.length (mcells l)) (hw : Wf l) (hsp : wf64 sp)
    (h1 : 500 < l.length) (h2 : l.length ≤ 600) (h3 : q ≤ 40) :
    Calls Tryd.prog 3 #[.slice A l.length c, .int .i64 sp, .slice A2 q c2] w fun e w' => e = .returned (.bool true) ∧ Below w.heap.size w w' := by
  have h135 : Sent w B [1, 3, 5] a := h.sub (by intro k hk; simp at hk; rcases hk with rfl | rfl | rfl <;> simp [all14])
  have hord : ∀ W, Below w.heap.size w W → Calls Tryd.prog 8 #[.slice A l.length c, .int .i64 sp] W fun e w' => e = .returned (.tuple #[.slice none 0 0, sent (a 1)]) ∧ Below W.heap.size W w' := fun W hW =>
    order_no a B A c l sp W (h135.below hW hB) (Nat.le_trans hB hW.size) ((hr.below hW (Nat.le_refl _)).more hW.size) hw hsp (by omega) (k := 0) (bad_many h1)
  have his : ∀ W, Below w.heap.size w W → Calls Tryd.prog 9 #[.iface 67 (.pointer (some (a 1))), .int .i64 101] W fun e w' => e = .returned (.bool true) ∧ Below W.heap.size W w' := fun W hW => is_any a B W (h.below hW hB) (Nat.le_trans hB hW.size) (k := 1) (by omega) 101
  have Hord := Lib.hid hord
  have His := Lib.hid his
  generalize hn : l.length = n at *
  have q1 : decide (60 < (n : Int)) = true := by simp; omega
  have q2 : decide ((n : Int) ≤ 500) = false := by simp; omega
  have q3 : decide (600 < (n : Int)) = false := by simp; omega
  have q4 : decide (40 < (q : Int)) = false := by simp; omega
  have q5 : decide (500 < (n : Int)) = true := by simp; omega
  clear hord his hn hr hw hsp h1 h2 h3
  go_enter Tryd.func3, Tryd.ntmps3
  go_wp2_with (go_at_call 7; refine (first_any a B _ h135 hB).mono ?_; rintro e w0 ⟨rfl, hb0⟩)
  refine (Hord.out _ hb0).mono ?_
  rintro e w1 ⟨rfl, hb1⟩
  have hbb := hb0.trans (hb1.mono hb0.size)
  clear hb0 hb1
  simp only [sent]
  go_wp2_with fail
  refine (His.out _ hbb).mono ?_
  rintro e w2 ⟨rfl, hb2⟩
  go_wp2
  go_ret
  exact ⟨rfl, hbb.trans (hb2.mono hbb.size)⟩
end Go.Proofs.YteapnfobcebpfaaDoor
