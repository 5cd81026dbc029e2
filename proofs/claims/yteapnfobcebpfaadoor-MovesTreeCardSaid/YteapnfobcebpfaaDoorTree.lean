/-
  The walk of MovesTree.
-/
import Derived.Test.YteapnfobcebpfaaDoorFirst
import Derived.Test.YteapnfobcebpfaaDoorTreeLaw
import Derived.StillTailTactics
namespace Go.Proofs.YteapnfobcebpfaaDoor
open Go.RowKit Go.Maps Mov

theorem tree_ok {fr : List Int} {n : Nat} (hn : n ≤ 40) : orderBad (treeL fr n) 500 = 0 ∧ (orderF (treeL fr n) 500).length = n ∧ cyclesF (treeL fr n) = 0 := by
  have hnod := tree_nod fr n
  have hlow : ∀ p ∈ treeL fr n, 0 ≤ p.2 ∧ p.2 < p.1 := fun p hp => ⟨(tree_mem hp).1, (tree_mem hp).2.1⟩
  have hsp : ∀ p ∈ treeL fr n, p.1 ≠ 500 ∧ p.2 ≠ 500 := fun p hp => by have := tree_mem hp; omega
  have hm : mayF (treeL fr n) = 0 := by
    unfold mayF
    rw [if_neg (by rw [tree_len]; omega), if_pos, if_pos hnod]
    rw [List.all_eq_true]
    intro p hp
    have := tree_mem hp
    simp [plB]; omega
  have hc := cycles_fall hnod hlow
  refine ⟨?_, ?_, ?_⟩
  · rw [orderBad_of hm (by decide), coll_not.2 hsp]; rfl
  · rw [(phase2 hnod hsp).2, nonTriv_fall hlow, hc, tree_len]; rfl
  · unfold cyclesF; rw [if_pos hm, hc]
theorem tree_wf {fr : List Int} {n : Nat} (hn : n ≤ 40) : Wf (treeL fr n) := fun p hp => by
  have := tree_mem hp
  exact ⟨wf64_of (by omega), wf64_of (by omega)⟩

set_option maxRecDepth 100000 in
set_option maxHeartbeats 1000000 in
theorem tree_big (a : Nat → Addr) (B : Nat) (w : World) (h : Sent w B [1, 3, 5] a) (hB : B ≤ w.heap.size) (A : Option Addr) (n c : Nat) (hn : 40 < n) (hn2 : n ≤ 9223372036854775807) :
    Calls Tryd.prog 6 #[.slice A n c] w fun e w' => e = .returned (.bool true) ∧ Below w.heap.size w w' := by
  have hnb : decide (40 < (n : Int)) = true := by simp; omega
  go_enter Tryd.func6, Tryd.ntmps6
  go_wp2_with (go_at_call 7; refine (first_any a B _ h hB).mono ?_; rintro e w0 ⟨rfl, hb0⟩)
  go_ret
  exact ⟨rfl, hb0⟩

set_option maxRecDepth 100000 in
set_option maxHeartbeats 1000000 in
theorem tree_walk (a : Nat → Addr) (B : Nat) (w : World) (h : Sent w B [1, 3, 5] a) (hB : B ≤ w.heap.size) (A : Option Addr) (n c : Nat) (fr : List Int) (hr : Rd w w.heap.size 1 A n (ints fr)) (hfr : ∀ x ∈ fr, wf64 x) (hn : n ≤ 40) :
    Calls Tryd.prog 6 #[.slice A n c] w fun e w' => e = .returned (.bool true) ∧ Below w.heap.size w w' := by
  have hnb : decide (40 < (n : Int)) = false := by simp; omega
  obtain ⟨hok, hlenO, hcy⟩ := tree_ok (fr := fr) hn
  have hlow : ∀ p ∈ treeL fr n, 0 ≤ p.2 ∧ p.2 < p.1 := fun p hp => ⟨(tree_mem hp).1, (tree_mem hp).2.1⟩
  have hsp : ∀ p ∈ treeL fr n, p.1 ≠ 500 ∧ p.2 ≠ 500 := fun p hp => by have := tree_mem hp; omega
  have hnod := tree_nod fr n
  have hll := tree_len fr n
  have hord : ∀ (A' : Option Addr) (c' : Nat) (W : World), Below w.heap.size w W → Rd W W.heap.size 2 A' n (mcells (treeL fr n)) → Calls Tryd.prog 8 #[.slice A' n c', .int .i64 500] W fun e w' => ∃ A c, e = .returned (.tuple #[.slice A n c, .nilIface]) ∧ w'.ownsRow W.heap.size 31 2 (.slice A n c) n (mcells (orderF (treeL fr n) 500)) ∧ Below W.heap.size W w' := fun A' c' W hW hrd => by
    have := order_yes a B A' c' (treeL fr n) 500 W (h.below hW hB) (Nat.le_trans hB hW.size) (by rw [hll]; exact hrd) (tree_wf hn) (wf64_of (by omega)) (by rw [hll]; omega) hok
    rwa [hll, hlenO] at this
  have hcyc : ∀ (A' : Option Addr) (c' : Nat) (W : World), Below w.heap.size w W → Rd W W.heap.size 2 A' n (mcells (treeL fr n)) → Calls Tryd.prog 10 #[.slice A' n c'] W fun e w' => e = .returned (.int .i64 0) ∧ Below W.heap.size W w' := fun A' c' W hW hrd => by
    have := cycles_any a B A' c' (treeL fr n) W (h.below hW hB) (Nat.le_trans hB hW.size) (by rw [hll]; exact hrd) (tree_wf hn) (by rw [hll]; omega)
    rwa [hll, hcy] at this
  have htos : ∀ k, k < n → toAt (orderF (treeL fr n) 500) k ≠ 500 := fun k hk e => by
    have h1 := (order_used hnod hsp).1 ⟨_, at_mem (by rw [hlenO]; exact hk), e⟩
    rw [cycles_fall hnod hlow] at h1
    omega
  have hdoes : ∀ k, k < n → atF (haveF (orderF (treeL fr n) 500) []) (toAt (treeL fr n) k) = frAt (treeL fr n) k := fun k hk => by
    rw [at_have]
    exact order_does hnod hsp (at_mem (by rw [hll]; exact hk))
  have hzero : atF (haveF (orderF (treeL fr n) 500) []) 0 = 0 := by
    rw [at_have]
    exact order_leaves hnod hsp (by omega) (fun p hp => by have := tree_mem hp; omega)
  generalize hO : orderF (treeL fr n) 500 = O at *
  have Hord := Lib.hid hord
  have Hcyc := Lib.hid hcyc
  have Htos := Lib.hid htos
  have Hdoes := Lib.hid hdoes
  have Hzero := Lib.hid hzero
  have Hll := Lib.hid hll
  have HlenO := Lib.hid hlenO
  clear hord hcyc htos hdoes hzero hok hcy hlow hsp hnod hll hlenO hO
  go_enter Tryd.func6, Tryd.ntmps6
  go_wp2_with (go_at_call 7; refine (first_any a B _ h hB).mono ?_; rintro e w0 ⟨rfl, hb0⟩)
  go_loopw [4, 5] (fun v i wr => ∃ (k : Nat) (A' : Option Addr) (c' : Nat), k ≤ n ∧ i = .int .i64 k ∧ v = .slice A' k c' ∧ wr.ownsRow w.heap.size 31 2 (.slice A' k c') k (mcells (treeL fr k)) ∧ Below w.heap.size w wr) (fun _ i _ => n - (intOf i).toNat)
  case atStart => exact ⟨0, none, 0, Nat.zero_le _, rfl, rfl, World.ownsRow_nil _ _ _ _, hb0⟩
  case round =>
    obtain ⟨k, A', c', hk, rfl, rfl, hown, hb⟩ := hrel
    have hz := hb.size
    by_cases hlt : k < n
    · obtain ⟨b, off, rfl, hbl, c1⟩ := ints_at (hr.below hb (Nat.le_refl _)) hlt
      have k0 : (0 : Int) ≤ k := by omega
      have k1 : (k : Int) < n := by omega
      have ht1 := Int.tmod_lt_of_pos (fr[k]?.getD 0) (show (0 : Int) < (k : Int) + 1 by omega)
      have ht2 := Int.lt_tmod_of_pos (fr[k]?.getD 0) (show (0 : Int) < (k : Int) + 1 by omega)
      go_wp2_with (at_builtin
                   refine wpList_append_row rfl (.tmp 26) (.tmp 43) 22 rfl w.heap.size 31 _ 2 16 Tryd.underlying22 infoM rfl (by omega) A' c' k (mcells (treeL fr k)) rfl (hown.alloc _) wr.heap.size 1 1 31 [.int .i64 ((k : Int) + 1), .int .i64 (((fr[k]?.getD 0).tmod ((k : Int) + 1) + k + 1) % ((k : Int) + 1))] rfl (Blk.new _ _ _) rfl (by intro u hu; simp at hu; rcases hu with rfl | rfl <;> rfl) (by unfold maxLen; omega) (by omega) (by simp; omega) ?_
                   intro A1 c1 w1 hown1 hg1 hat1)
      go_roundw
      case rel => exact ⟨k + 1, A1, c1, by omega, by go_num, rfl, by rw [tree_succ, mcells_snoc]; exact hown1, (hb.alloc hz _).grown hg1 (by simp; omega) (fun j hj => (hown.lt j hj).1)⟩
      case measure => simp [intOf]; omega
    · have e : k = n := by omega
      subst e
      obtain ⟨A1, c1, hA1, hrd⟩ := Rd.of_own hown
      injection hA1 with hA1 _ hc1
      subst hA1 hc1
      go_wp2_with fail
      refine (Hord.out _ _ _ hb hrd).mono ?_
      rintro e w2 ⟨A2, c2, rfl, hownO, hb2⟩
      go_wp2_with fail
      refine (Hcyc.out _ _ _ (hb.trans (hb2.mono hb.size)) ((hrd.below hb2 (Nat.le_refl _)).more hb2.size)).mono ?_
      rintro e w3 ⟨rfl, hb3⟩
      obtain ⟨A3, c3, hA3, hrO⟩ := Rd.of_own hownO
      injection hA3 with hA3 _ hc3
      subst hA3 hc3
      have hbw : Below w.heap.size w w3 := (hb.trans (hb2.mono hb.size)).trans (hb3.mono (Nat.le_trans hb.size hb2.size))
      have hrL3 := ((hrd.below hb2 (Nat.le_refl _)).below hb3 hb2.size).more (Nat.le_trans hb2.size hb3.size)
      have hrO3 := (hrO.below hb3 (Nat.le_refl _)).more hb3.size
      clear hrd hrO hownO hown hb2 hb hz hr
      go_wp2
      go_loopw [8, 9] (fun v i wr => ∃ (k : Nat) (A4 : Option Addr) (n4 c4 : Nat) (gs : List Nat), k ≤ k ∧ k ≤ O.length ∧ i = .int .i64 k ∧ v = .slice A4 n4 c4 ∧ HR wr w3.heap.size A4 n4 c4 gs (haveF (O.take k) []) ∧ Below w3.heap.size w3 wr) (fun _ i _ => O.length - (intOf i).toNat)
      case atStart => exact ⟨0, none, 0, 0, [], Nat.le_refl _, Nat.zero_le _, rfl, rfl, HR.nil _ _, Below.refl _ _⟩
      case round =>
        obtain ⟨j, A4, n4, c4, gs, _, hj, rfl, rfl, hR, hb4⟩ := hrel
        have hz4 := hb4.size
        have hn4 : n4 ≤ 100000 := by
          have h1 := len_haveF (O.take j) []
          have h2 := hR.lh
          have h3 := HlenO.out
          simp at h1
          omega
        by_cases hlt2 : j < k
        · have hjO : j < O.length := by rw [HlenO.out]; exact hlt2
          have hrO4 := hrO3.below hb4 (Nat.le_refl _)
          have HO := Lib.hid HlenO.out
          rw [← HlenO.out] at hrO4
          obtain ⟨b, off, rfl, hbl, q1, q2⟩ := moves_at hrO4 hjO
          have k0 : (0 : Int) ≤ j := by omega
          have k1 : (j : Int) < k := by omega
          have h5 : (toAt O j == 500) = false := by simpa using Htos.out j hlt2
          clear hrO4
          go_wp2
          refine wp_region_still_tail 13 (by kernel_rfl) (by kernel_rfl) ?_
          simp only [List.take_succ_cons, List.take_zero, List.drop_succ_cons, List.drop_zero]
          repeat still_step
          still_call (at_same wr.drew hR.drew hn4 _)
          repeat still_step
          refine wpStill_nil ?_
          change wpList _ _ _ _ _ wr.drew
          go_wp2_with fail
          refine (put_any _ hR.drew hz4 hn4 _ _).mono ?_
          rintro e w5 ⟨A5, n5, c5, gs5, rfl, hR5, hb5⟩
          go_wp2
          go_roundw
          case rel => exact ⟨j + 1, A5, n5, c5, gs5, Nat.le_refl _, by omega, by go_num, rfl, by rw [haveF_next hjO]; exact hR5, hb4.drew.trans hb5⟩
          case measure => simp [intOf]; omega
        · have hjO : j = O.length := by have := HlenO.out; omega
          have ej : j = k := by rw [hjO, HlenO.out]
          subst ej
          have hR6 : HR wr w3.heap.size A4 n4 c4 gs (haveF O []) := by
            have := hR
            rw [hjO, List.take_length] at this
            exact this
          clear hR hlt2 hjO hj
          obtain ⟨w4, hw4⟩ : ∃ w4 : World, w4 = wr := ⟨_, rfl⟩
          go_wp2
          rw [← hw4] at hR6 hb4 ⊢
          clear hw4 hz4
          go_loopw [10] (fun i w7 => ∃ m : Nat, m ≤ j ∧ i = .int .i64 m ∧ Below w4.heap.size w4 w7) (fun i _ => j - (intOf i).toNat)
          case atStart => exact ⟨0, Nat.zero_le _, rfl, Below.refl _ _⟩
          case round =>
            obtain ⟨m, hm, rfl, hb7⟩ := hrel
            have hR7 := hR6.kept hb7
            by_cases hlt3 : m < j
            · have hL7 : Rd wr w3.heap.size 2 A' (treeL fr j).length (mcells (treeL fr j)) := by rw [Hll.out]; exact (hrL3.below hb4 (Nat.le_refl _)).below hb7 hb4.size
              have HmL := Lib.hid (show m < (treeL fr j).length by rw [Hll.out]; exact hlt3)
              obtain ⟨b, off, rfl, hbl, q1, q2⟩ := moves_at hL7 HmL.out
              clear hL7
              have k0 : (0 : Int) ≤ m := by omega
              have k1 : (m : Int) < j := by omega
              have hd := Hdoes.out m hlt3
              go_wp2
              go_quiet ((go_at_call 13; exact Calls.quiet_of_same (at_same _ hR7.drewN hn4 _)))
              go_wp2
              go_roundw
              case rel => exact ⟨m + 1, by omega, by go_num, below_drewN hb7 _⟩
              case measure => simp [intOf]; omega
            · have em : m = j := by omega
              subst em
              go_wp2_with (go_at_call 13; refine (at_any _ hR7 hn4 _).mono ?_; rintro e w8 ⟨rfl, rfl⟩; rw [Hzero.out])
              go_ret
              exact ⟨rfl, hbw.trans ((hb4.trans (hb7.mono hb4.size)).mono hbw.size)⟩
end Go.Proofs.YteapnfobcebpfaaDoor
