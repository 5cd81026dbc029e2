/-
  The statements' own count of rings: rounds.
-/
import Derived.Test.YteapnfobcebpfaaDoorAt
namespace Go.Proofs.YteapnfobcebpfaaDoor
open Go.RowKit Go.Maps Mov

def nxV : Option Nat → Value
  | none => .int .i64 (-1)
  | some j => .int .i64 j
theorem roundsTo_le (l : List Mv) : ∀ i, roundsTo l i ≤ i
  | 0 => Nat.le_refl _
  | i + 1 => by
    have := roundsTo_le l i
    unfold roundsTo
    split <;> omega

theorem chain_none {l : List Mv} {i n k st : Nat} {first : Bool} (hn : 0 < n) (h : nextTo l (frAt l k) l.length = none) : chainF l i n k st first = false := by
  obtain ⟨m, rfl⟩ : ∃ m, n = m + 1 := ⟨n - 1, by omega⟩
  unfold chainF; rw [h]
theorem chain_back {l : List Mv} {i n k st : Nat} {first : Bool} (hn : 0 < n) (h : nextTo l (frAt l k) l.length = some i) : chainF l i n k st first = (decide (0 < st) && first) := by
  obtain ⟨m, rfl⟩ : ∃ m, n = m + 1 := ⟨n - 1, by omega⟩
  unfold chainF; rw [h]; simp
theorem chain_on {l : List Mv} {i n k st j : Nat} {first : Bool} (h : nextTo l (frAt l k) l.length = some j) (hj : j ≠ i) : chainF l i (n + 1) k st first = chainF l i n j (st + 1) (first && decide (i < j)) := by
  conv => lhs; unfold chainF
  rw [h]; simp [hj]
theorem nextTo_hit {l : List Mv} {f : Int} {j : Nat} (h : toAt l j = f) : nextTo l f (j + 1) = some j := by unfold nextTo; rw [if_pos h]
theorem nextTo_miss {l : List Mv} {f : Int} {j : Nat} (h : toAt l j ≠ f) : nextTo l f (j + 1) = nextTo l f j := by conv => lhs; unfold nextTo; rw [if_neg h]

set_option maxRecDepth 100000 in
set_option maxHeartbeats 1000000 in
theorem rounds_any (A : Option Addr) (c : Nat) (l : List Mv) (w : World) (hr : Rd w w.heap.size 2 A l.length (mcells l)) (hl : l.length ≤ 100000) :
    Calls Tryd.prog 11 #[.slice A l.length c] w fun e w' => e = .returned (.int .i64 (roundsF l)) ∧ Below w.heap.size w w' := by
  go_enter Tryd.func11, Tryd.ntmps11
  go_wp2
  go_loopw [3, 4] (fun n i wr => ∃ k : Nat, k ≤ l.length ∧ i = .int .i64 k ∧ n = .int .i64 (roundsTo l k : Nat) ∧ Below w.heap.size w wr) (fun _ i _ => l.length - (intOf i).toNat)
  case atStart => exact ⟨0, Nat.zero_le _, rfl, rfl, Below.refl _ _⟩
  case round =>
    obtain ⟨i, hi, rfl, rfl, hb⟩ := hrel
    have hro := roundsTo_le l i
    by_cases hlt : i < l.length
    · obtain ⟨b, off, rfl, hbl, _, _⟩ := moves_at (hr.below hb (Nat.le_refl _)) hlt
      have k0 : (0 : Int) ≤ i := by omega
      have k1 : (i : Int) < l.length := by omega
      have hro2 : roundsTo l (i + 1) = roundsTo l i + if chainF l i (l.length + 1) i 0 true then 1 else 0 := rfl
      have Hro2 := Lib.hid hro2
      clear hro2
      go_wp2
      obtain ⟨w1, hw1⟩ : ∃ w1 : World, w1 = wr := ⟨_, rfl⟩
      rw [← hw1] at hb ⊢
      clear hw1
      go_loopw [3, 5, 6, 7] (fun n k f s w2 => ∃ (kk st : Nat) (first : Bool), st ≤ l.length + 1 ∧ kk < l.length ∧ s = .int .i64 st ∧ k = .int .i64 kk ∧ f = .bool first ∧ n = .int .i64 (roundsTo l i : Nat) ∧ chainF l i (l.length + 1 - st) kk st first = chainF l i (l.length + 1) i 0 true ∧ Below w.heap.size w w2) (fun _ _ _ s _ => l.length + 1 - (intOf s).toNat)
      case atStart => exact ⟨i, 0, true, by omega, hlt, rfl, rfl, rfl, rfl, rfl, hb⟩
      case round =>
        obtain ⟨k, st, first, hst, hkl, rfl, rfl, rfl, rfl, hch, hb2⟩ := hrel
        have Hch := Lib.hid hch
        clear hch
        by_cases hst2 : st ≤ l.length
        · go_wp2
          obtain ⟨w3, hw3⟩ : ∃ w3 : World, w3 = wr := ⟨_, rfl⟩
          rw [← hw3] at hb2 ⊢
          clear hw3
          go_loopw [8, 9] (fun nx j w4 => ∃ jj : Nat, jj ≤ l.length ∧ j = .int .i64 jj ∧ nx = nxV (nextTo l (frAt l k) jj) ∧ Below w.heap.size w w4) (fun _ j _ => l.length - (intOf j).toNat)
          case atStart => exact ⟨0, Nat.zero_le _, rfl, rfl, hb2⟩
          case round =>
            obtain ⟨j, hj, rfl, rfl, hb4⟩ := hrel
            by_cases hjl : j < l.length
            · have j0 : (0 : Int) ≤ j := by omega
              have j1 : (j : Int) < l.length := by omega
              have q0 : (0 : Int) ≤ k := by omega
              have q1 : (k : Int) < l.length := by omega
              obtain ⟨b', off', e1, _, c1, c1'⟩ := moves_at (hr.below hb4 (Nat.le_refl _)) hjl
              obtain ⟨rfl, rfl⟩ : b = b' ∧ off = off' := by injection e1 with e1; injection e1 with e1 e2; exact ⟨e1, e2⟩
              obtain ⟨b', off', e2, _, c2', c2⟩ := moves_at (hr.below hb4 (Nat.le_refl _)) hkl
              obtain ⟨rfl, rfl⟩ : b = b' ∧ off = off' := by injection e2 with e2; injection e2 with e1 e2; exact ⟨e1, e2⟩
              clear e1 e2 c1' c2'
              by_cases he : toAt l j = frAt l k
              · have heb : (toAt l j == frAt l k) = true := by simpa using he
                have He := Lib.hid he
                clear he
                go_wp2
                go_quiet (fail)
                go_wp2
                go_roundw
                case rel => exact ⟨j + 1, by omega, by go_num, by rw [nextTo_hit He.out]; rfl, below_drewN hb4 _⟩
                case measure => simp [intOf]; omega
              · have heb : (toAt l j == frAt l k) = false := by simpa using he
                have He := Lib.hid he
                clear he
                go_wp2
                go_quiet (fail)
                go_wp2
                go_roundw
                case rel => exact ⟨j + 1, by omega, by go_num, by rw [nextTo_miss He.out], below_drewN hb4 _⟩
                case measure => simp [intOf]; omega
            · have e : j = l.length := by omega
              subst e
              cases hnx : nextTo l (frAt l k) l.length with
              | none =>
                have hch := Hch.out
                rw [chain_none (by omega) hnx] at hch
                have Hch2 := Lib.hid hch
                clear hch hnx
                simp only [nxV]
                go_wp2
                go_roundw
                case rel => exact ⟨i + 1, by omega, by go_num, by rw [Hro2.out, ← Hch2.out]; rfl, hb4⟩
                case measure => simp [intOf]; omega
              | some nx =>
                have hnl := (nextTo_some hnx).1
                by_cases hni : nx = i
                · subst hni
                  have hch := Hch.out
                  rw [chain_back (by omega) hnx] at hch
                  have Hch2 := Lib.hid hch
                  clear hch hnx
                  simp only [nxV]
                  by_cases hs0 : 0 < st
                  · cases first with
                    | true =>
                      go_wp2
                      go_roundw
                      case rel => exact ⟨nx + 1, by omega, by go_num, by rw [Hro2.out, ← Hch2.out]; simp [hs0], hb4⟩
                      case measure => simp [intOf]; omega
                    | false =>
                      go_wp2
                      go_roundw
                      case rel => exact ⟨nx + 1, by omega, by go_num, by rw [Hro2.out, ← Hch2.out]; simp, hb4⟩
                      case measure => simp [intOf]; omega
                  · go_wp2
                    go_roundw
                    case rel => exact ⟨nx + 1, by omega, by go_num, by rw [Hro2.out, ← Hch2.out]; simp [hs0], hb4⟩
                    case measure => simp [intOf]; omega
                · have hch := Hch.out
                  have en : l.length + 1 - st = (l.length + 1 - (st + 1)) + 1 := by omega
                  rw [en, chain_on hnx hni] at hch
                  have Hch2 := Lib.hid hch
                  clear hch hnx en
                  simp only [nxV]
                  have hneb : ((nx : Int) == (i : Int)) = false := by simp; omega
                  have Hni := Lib.hid hni
                  clear hni
                  cases first with
                  | true =>
                    go_wp2
                    go_roundw
                    case rel => exact ⟨nx, st + 1, decide (i < nx), by omega, hnl, by go_num, rfl, rfl, rfl, by rw [← Hch2.out]; simp, hb4⟩
                    case measure => simp [intOf]; omega
                  | false =>
                    go_wp2
                    go_roundw
                    case rel => exact ⟨nx, st + 1, false, by omega, hnl, by go_num, rfl, rfl, rfl, by rw [← Hch2.out]; simp, hb4⟩
                    case measure => simp [intOf]; omega
        · have en : l.length + 1 - st = 0 := by omega
          have hch := Hch.out
          rw [en] at hch
          have Hch2 := Lib.hid hch
          clear hch en
          go_wp2
          go_roundw
          case rel => exact ⟨i + 1, by omega, by go_num, by rw [Hro2.out, ← Hch2.out]; rfl, hb2⟩
          case measure => simp [intOf]; omega
    · have e : i = l.length := by omega
      subst e
      go_wp2
      go_ret
      exact ⟨rfl, hb⟩
end Go.Proofs.YteapnfobcebpfaaDoor
