/-
  The walk of MovesNone.
-/
import Derived.Test.YteapnfobcebpfaaDoorFirst
import Derived.Laws.BitsAllLaws
namespace Go.Proofs.YteapnfobcebpfaaDoor
open Go.RowKit Go.Maps Mov

theorem and7 (n : Int) : ∃ m : Nat, m ≤ 7 ∧ bits .and .i64 n 7 = (m : Int) := by
  have h : ((BitVec.ofInt 64 n) &&& (BitVec.ofInt 64 7)).toNat ≤ 7 := by
    rw [BitVec.toNat_and]
    exact Nat.le_trans Nat.and_le_right (by decide)
  refine ⟨_, h, ?_⟩
  show IntKind.i64.wrap ((((BitVec.ofInt 64 n) &&& (BitVec.ofInt 64 7)).toNat : Nat) : Int) = _
  rw [IntKind.wrap_i64]
  omega

/-- Moves that go nowhere. -/
def idL (n : Nat) : List Mv := (List.range n).map fun i : Nat => ((i : Int), (i : Int))
theorem idL_len (n : Nat) : (idL n).length = n := by simp [idL]
theorem idL_succ (n : Nat) : idL (n + 1) = idL n ++ [((n : Int), (n : Int))] := by
  unfold idL
  rw [List.range_succ, List.map_append]
  rfl
theorem idL_mem {n : Nat} {p : Mv} (h : p ∈ idL n) : p.1 = p.2 ∧ 0 ≤ p.1 ∧ p.1 < n := by
  obtain ⟨i, hi, rfl⟩ := List.mem_map.1 h
  have := List.mem_range.1 hi
  exact ⟨rfl, by simp only; omega, by simp only; omega⟩
theorem idL_nod (n : Nat) : (keys (idL n)).Nodup := by
  unfold keys idL
  rw [List.map_map]
  refine List.Pairwise.map _ (fun a b hab => ?_) List.nodup_range
  simp only [Function.comp]
  omega
theorem idL_wf {n : Nat} (hn : n ≤ 1000) : Wf (idL n) := fun p hp => by
  have := idL_mem hp
  exact ⟨wf64_of (by omega), wf64_of (by omega)⟩
theorem idL_non (n : Nat) : nonTriv (idL n) = [] := by
  unfold nonTriv
  rw [List.filter_eq_nil_iff]
  intro p hp
  have := idL_mem hp
  simp [this.1]
theorem idL_cyc (n : Nat) : cycles (idL n) = 0 := by
  have h1 := (phase1 (idL_nod n)).len
  rw [idL_non] at h1
  have : restF (idL n) = [] := List.eq_nil_of_length_eq_zero (by simp only [List.length_nil] at h1; omega)
  unfold cycles
  rw [this]
  generalize keys (idL n) = todo
  induction todo with
  | nil => rfl
  | cons t r ih => unfold cycF; exact ih
theorem idL_ok {n : Nat} (hn : n ≤ 500) : orderBad (idL n) 900 = 0 ∧ (orderF (idL n) 900).length = 0 ∧ cyclesF (idL n) = 0 := by
  have hsp : ∀ p ∈ idL n, p.1 ≠ 900 ∧ p.2 ≠ 900 := fun p hp => by have := idL_mem hp; omega
  have hm : mayF (idL n) = 0 := by
    unfold mayF
    rw [if_neg (by rw [idL_len]; omega), if_pos, if_pos (idL_nod n)]
    rw [List.all_eq_true]
    intro p hp
    have := idL_mem hp
    simp [plB]; omega
  refine ⟨?_, ?_, ?_⟩
  · rw [orderBad_of hm (by decide), coll_not.2 hsp]; rfl
  · rw [(phase2 (idL_nod n) hsp).2, idL_non, idL_cyc]; rfl
  · unfold cyclesF; rw [if_pos hm, idL_cyc]
theorem idL_bad {n : Nat} (hn : 500 < n) : orderBad (idL n) 900 = 1 := by
  have hm : mayF (idL n) = 1 := by unfold mayF; rw [if_pos (by rw [idL_len]; omega)]
  unfold orderBad
  rw [if_neg (by rw [idL_len]; omega), hm]; rfl
theorem bad_one (x y sp : Int) : orderBad [(x, y)] sp = if plB sp = false then 3 else if plB x && plB y then (if x = sp ∨ y = sp then 5 else 0) else 3 := by
  unfold orderBad mayF collB
  by_cases h1 : plB sp = false
  · simp [h1]
  · by_cases h2 : plB x = true
    · by_cases h3 : plB y = true
      · simp [h1, h2, h3, keys]
      · simp [h1, h2, h3]
    · simp [h1, h2]
theorem bad_nil (sp : Int) : orderBad [] sp = if plB sp = false then 3 else 0 := by
  unfold orderBad mayF collB
  by_cases h1 : plB sp = false
  · simp [h1]
  · simp [h1, keys]

set_option maxRecDepth 100000 in
set_option maxHeartbeats 1000000 in
theorem none_big (a : Nat → Addr) (B : Nat) (w : World) (h : Sent w B all14 a) (hB : B ≤ w.heap.size) (n p : Int) (m : Nat) (hm : m ≤ 7) (hb7 : bits .and .i64 n 7 = (m : Int)) (h4 : 4 < m) :
    Calls Tryd.prog 5 #[.int .i64 n, .int .i64 p] w fun e w' => e = .returned (.bool true) ∧ Below w.heap.size w w' := by
  have h135 : Sent w B [1, 3, 5] a := h.sub (by intro k hk; simp at hk; rcases hk with rfl | rfl | rfl <;> simp [all14])
  go_enter Tryd.func5, Tryd.ntmps5
  go_wp2_with (go_at_call 7; refine (first_any a B _ h135 hB).mono ?_; rintro e w0 ⟨rfl, hb0⟩)
  go_loopw [6, 7] (fun v i wr => ∃ (k : Nat) (A' : Option Addr) (c' : Nat), k ≤ 496 + m ∧ i = .int .i64 k ∧ v = .slice A' k c' ∧ wr.ownsRow w.heap.size 31 2 (.slice A' k c') k (mcells (idL k)) ∧ Below w.heap.size w wr) (fun _ i _ => 496 + m - (intOf i).toNat)
  case atStart => exact ⟨0, none, 0, Nat.zero_le _, rfl, rfl, World.ownsRow_nil _ _ _ _, hb0⟩
  case round =>
    obtain ⟨k, A', c', hk, rfl, rfl, hown, hb⟩ := hrel
    have hz := hb.size
    by_cases hlt : k < 496 + m
    · have k1 : (k : Int) < 496 + m := by omega
      go_wp2_with (at_builtin
                   refine wpList_append_row rfl (.tmp 28) (.tmp 32) 22 rfl w.heap.size 31 _ 2 16 Tryd.underlying22 infoM rfl (by omega) A' c' k (mcells (idL k)) rfl (hown.alloc _) wr.heap.size 1 1 31 [.int .i64 k, .int .i64 k] rfl (Blk.new _ _ _) rfl (by intro u hu; simp at hu; rcases hu with rfl | rfl <;> rfl) (by unfold maxLen; omega) (by omega) (by simp; omega) ?_
                   intro A1 c1 w1 hown1 hg1 hat1)
      go_roundw
      case rel => exact ⟨k + 1, A1, c1, by omega, by go_num, rfl, by rw [idL_succ, mcells_snoc]; exact hown1, (hb.alloc hz _).grown hg1 (by simp; omega) (fun j hj => (hown.lt j hj).1)⟩
      case measure => simp [intOf]; omega
    · have e : k = 496 + m := by omega
      have k1 : ¬ (k : Int) < 496 + m := by omega
      have hll := idL_len k
      obtain ⟨A1, c1, hA1, hrd⟩ := Rd.of_own hown
      injection hA1 with hA1 _ hc1
      subst hA1 hc1
      have hord : Calls Tryd.prog 8 #[.slice A' k c', .int .i64 900] wr fun e w' => e = .returned (.tuple #[.slice none 0 0, sent (a 1)]) ∧ Below wr.heap.size wr w' := by
        have := order_no a B A' c' (idL k) 900 wr (h135.below hb hB) (Nat.le_trans hB hz) (by rw [hll]; exact hrd) (idL_wf (by omega)) (wf64_of (by omega)) (by rw [hll]; omega) (k := 0) (idL_bad (by omega))
        rwa [hll] at this
      have Hord := Lib.hid hord
      clear hord hll e
      go_wp2_with fail
      refine Hord.out.mono ?_
      rintro e w2 ⟨rfl, hb2⟩
      have his := is_any a B w2 (h.below (hb.trans (hb2.mono hz)) hB) (Nat.le_trans (Nat.le_trans hB hz) hb2.size) (k := 1) (by omega) 101
      have Hbb := Lib.hid (hb.trans (hb2.mono hz))
      clear hb hb2 hown hrd Hord
      go_wp2_with fail
      refine his.mono ?_
      rintro e w3 ⟨rfl, hb3⟩
      go_wp2
      go_ret
      exact ⟨rfl, Hbb.out.trans (hb3.mono Hbb.out.size)⟩

/-- Order, whatever comes of it: the error's number. -/
theorem order_code (a : Nat → Addr) (B : Nat) (A : Option Addr) (c : Nat) (l : List Mv) (sp : Int) (w : World) (h : Sent w B [1, 3, 5] a) (hB : B ≤ w.heap.size) (hr : Rd w w.heap.size 2 A l.length (mcells l)) (hw : Wf l) (hws : wf64 sp) (hl : l.length ≤ 9223372036854775807) {k : Nat} (hk : orderBad l sp = k) :
    Calls Tryd.prog 8 #[.slice A l.length c, .int .i64 sp] w fun e w' => ∃ v, e = .returned (.tuple #[v, errV a k]) ∧ Below w.heap.size w w' :=
  (order_any a B A c l sp w h hB hr hw hws hl).mono fun e w' ⟨hb, ho⟩ => by
    rw [hk] at ho
    rcases ho with ⟨_, he⟩ | ⟨h0, A, c, he, _⟩
    · exact ⟨_, he, hb⟩
    · subst h0; exact ⟨_, he, hb⟩

set_option maxRecDepth 100000 in
set_option maxHeartbeats 2000000 in
theorem none_small (a : Nat → Addr) (B : Nat) (w : World) (h : Sent w B all14 a) (hB : B ≤ w.heap.size) (n p : Int) (hp : wf64 p) (m : Nat) (hb7 : bits .and .i64 n 7 = (m : Int)) (h4 : m ≤ 4) (k1 k2 k3 : Nat) (hk1 : orderBad [(p, 5)] 900 = k1) (hk2 : orderBad [(7, p)] 901 = k2) (hk3 : orderBad [] p = k3)
    (hcase : (p < -1000 ∧ k1 = 3 ∧ k2 = 3 ∧ k3 = 3) ∨ ((-1000 ≤ p ∧ decide (p ≤ 1000) = false) ∧ k1 = 3 ∧ k2 = 3 ∧ k3 = 3) ∨ (p = 900 ∧ k1 = 5 ∧ k2 = 0 ∧ k3 = 0) ∨ (p = 901 ∧ k1 = 0 ∧ k2 = 5 ∧ k3 = 0) ∨ ((-1000 ≤ p ∧ p ≤ 1000) ∧ ((p != 900) = true ∧ (p != 901) = true) ∧ k1 = 0 ∧ k2 = 0 ∧ k3 = 0)) :
    Calls Tryd.prog 5 #[.int .i64 n, .int .i64 p] w fun e w' => e = .returned (.bool true) ∧ Below w.heap.size w w' := by
  have h135 : Sent w B [1, 3, 5] a := h.sub (by intro k hk; simp at hk; rcases hk with rfl | rfl | rfl <;> simp [all14])
  have ho1 : ∀ (x : Nat) (W : World), Below w.heap.size w W → Blk W x 31 #[.int .i64 p, .int .i64 5] → Calls Tryd.prog 8 #[.slice (some ⟨x, 0, none⟩) 1 1, .int .i64 900] W fun e w' => ∃ v, e = .returned (.tuple #[v, errV a k1]) ∧ Below W.heap.size W w' := fun x W hW hb =>
    order_code a B (some ⟨x, 0, none⟩) 1 [(p, 5)] 900 W (h135.below hW hB) (Nat.le_trans hB hW.size) (Blk.rd (xs := mcells [(p, 5)]) hb rfl hb.lt) (by intro q hq; simp at hq; subst hq; exact ⟨hp, wf64_of (by omega)⟩) (wf64_of (by omega)) (by simp) hk1
  have ho2 : ∀ (x : Nat) (W : World), Below w.heap.size w W → Blk W x 31 #[.int .i64 7, .int .i64 p] → Calls Tryd.prog 8 #[.slice (some ⟨x, 0, none⟩) 1 1, .int .i64 901] W fun e w' => ∃ v, e = .returned (.tuple #[v, errV a k2]) ∧ Below W.heap.size W w' := fun x W hW hb =>
    order_code a B (some ⟨x, 0, none⟩) 1 [(7, p)] 901 W (h135.below hW hB) (Nat.le_trans hB hW.size) (Blk.rd (xs := mcells [(7, p)]) hb rfl hb.lt) (by intro q hq; simp at hq; subst hq; exact ⟨wf64_of (by omega), hp⟩) (wf64_of (by omega)) (by simp) hk2
  have ho3 : ∀ (W : World), Below w.heap.size w W → Calls Tryd.prog 8 #[.slice none 0 0, .int .i64 p] W fun e w' => ∃ v, e = .returned (.tuple #[v, errV a k3]) ∧ Below W.heap.size W w' := fun W hW =>
    order_code a B none 0 [] p W (h135.below hW hB) (Nat.le_trans hB hW.size) (Rd.nil _ _ _ _) (by intro q hq; cases hq) hp (by decide) hk3
  have his3 : ∀ W, Below w.heap.size w W → Calls Tryd.prog 9 #[.iface 67 (.pointer (some (a 3))), .int .i64 103] W fun e w' => e = .returned (.bool true) ∧ Below W.heap.size W w' := fun W hW => is_any a B W (h.below hW hB) (Nat.le_trans hB hW.size) (k := 3) (by omega) 103
  have his5 : ∀ W, Below w.heap.size w W → Calls Tryd.prog 9 #[.iface 67 (.pointer (some (a 5))), .int .i64 105] W fun e w' => e = .returned (.bool true) ∧ Below W.heap.size W w' := fun W hW => is_any a B W (h.below hW hB) (Nat.le_trans hB hW.size) (k := 5) (by omega) 105
  have Ho1 := Lib.hid ho1
  have Ho2 := Lib.hid ho2
  have Ho3 := Lib.hid ho3
  have His3 := Lib.hid his3
  have His5 := Lib.hid his5
  clear ho1 ho2 ho3 his3 his5 hk1 hk2 hk3
  go_enter Tryd.func5, Tryd.ntmps5
  go_wp2_with (go_at_call 7; refine (first_any a B _ h135 hB).mono ?_; rintro e w0 ⟨rfl, hb0⟩)
  go_loopw [6, 7] (fun v i wr => ∃ (k : Nat) (A' : Option Addr) (c' : Nat), k ≤ 496 + m ∧ i = .int .i64 k ∧ v = .slice A' k c' ∧ wr.ownsRow w.heap.size 31 2 (.slice A' k c') k (mcells (idL k)) ∧ Below w.heap.size w wr) (fun _ i _ => 496 + m - (intOf i).toNat)
  case atStart => exact ⟨0, none, 0, Nat.zero_le _, rfl, rfl, World.ownsRow_nil _ _ _ _, hb0⟩
  case round =>
    obtain ⟨k, A', c', hk, rfl, rfl, hown, hb⟩ := hrel
    have hz := hb.size
    by_cases hlt : k < 496 + m
    · have k1 : (k : Int) < 496 + m := by omega
      clear hcase
      go_wp2_with (at_builtin
                   refine wpList_append_row rfl (.tmp 28) (.tmp 32) 22 rfl w.heap.size 31 _ 2 16 Tryd.underlying22 infoM rfl (by omega) A' c' k (mcells (idL k)) rfl (hown.alloc _) wr.heap.size 1 1 31 [.int .i64 k, .int .i64 k] rfl (Blk.new _ _ _) rfl (by intro u hu; simp at hu; rcases hu with rfl | rfl <;> rfl) (by unfold maxLen; omega) (by omega) (by simp; omega) ?_
                   intro A1 c1 w1 hown1 hg1 hat1)
      go_roundw
      case rel => exact ⟨k + 1, A1, c1, by omega, by go_num, rfl, by rw [idL_succ, mcells_snoc]; exact hown1, (hb.alloc hz _).grown hg1 (by simp; omega) (fun j hj => (hown.lt j hj).1)⟩
      case measure => simp [intOf]; omega
    · have e : k = 496 + m := by omega
      have q1 : ¬ (k : Int) < 496 + m := by omega
      have q2 : ¬ (500 : Int) < 496 + m := by omega
      have hll := idL_len k
      obtain ⟨A1, c1, hA1, hrd⟩ := Rd.of_own hown
      injection hA1 with hA1 _ hc1
      subst hA1 hc1
      obtain ⟨f1, f2, f3⟩ := idL_ok (n := k) (by omega)
      have hord : Calls Tryd.prog 8 #[.slice A' k c', .int .i64 900] wr fun e w' => ∃ A c, e = .returned (.tuple #[.slice A 0 c, .nilIface]) ∧ Below wr.heap.size wr w' := by
        have := order_yes a B A' c' (idL k) 900 wr (h135.below hb hB) (Nat.le_trans hB hz) (by rw [hll]; exact hrd) (idL_wf (by omega)) (wf64_of (by omega)) (by rw [hll]; omega) f1
        rw [hll, f2] at this
        exact this.mono fun e w' ⟨A, c, h1, _, h2⟩ => ⟨A, c, h1, h2⟩
      have hcyc : ∀ W, Below wr.heap.size wr W → Calls Tryd.prog 10 #[.slice A' k c'] W fun e w' => e = .returned (.int .i64 0) ∧ Below W.heap.size W w' := fun W hW => by
        have := cycles_any a B A' c' (idL k) W (h135.below (hb.trans (hW.mono hz)) hB) (Nat.le_trans (Nat.le_trans hB hz) hW.size) (by rw [hll]; exact (hrd.below hW (Nat.le_refl _)).more hW.size) (idL_wf (by omega)) (by rw [hll]; omega)
        rwa [hll, f3] at this
      have Hord := Lib.hid hord
      have Hcyc := Lib.hid hcyc
      have HB := Lib.hid hb
      clear hord hcyc hll f1 f2 f3 hb hown hrd e
      go_wp2_with fail
      refine Hord.out.mono ?_
      rintro e w2 ⟨A2, c2, rfl, hb2⟩
      go_wp2_with fail
      refine (Hcyc.out _ hb2).mono ?_
      rintro e w3 ⟨rfl, hb3⟩
      have hbb3 : Below w.heap.size w w3 := (HB.out.trans (hb2.mono hz)).trans (hb3.mono (Nat.le_trans hz hb2.size))
      clear hb2 hb3
      rcases hcase with ⟨hp1, rfl, rfl, rfl⟩ | ⟨⟨hp0, hp1⟩, rfl, rfl, rfl⟩ | ⟨rfl, rfl, rfl, rfl⟩ | ⟨rfl, rfl, rfl, rfl⟩ | ⟨⟨hp1, hp2⟩, ⟨hp3, hp4⟩, rfl, rfl, rfl⟩
      all_goals
        go_wp2_with fail
        refine (Ho1.out _ _ (hbb3.alloc hbb3.size _) (Blk.new w3 _ _)).mono ?_
        rintro e w4 ⟨v4, rfl, hb4⟩
        have hbb4 : Below w.heap.size w w4 := (hbb3.alloc hbb3.size _).trans (hb4.mono (by simp; have := hbb3.size; omega))
        clear hb4
        go_wp2_with fail
        refine (Ho2.out _ _ (hbb4.alloc hbb4.size _) (Blk.new w4 _ _)).mono ?_
        rintro e w5 ⟨v5, rfl, hb5⟩
        have hbb5 : Below w.heap.size w w5 := (hbb4.alloc hbb4.size _).trans (hb5.mono (by simp; have := hbb4.size; omega))
        clear hb5
        go_wp2_with fail
        refine (Ho3.out _ hbb5).mono ?_
        rintro e w6 ⟨v6, rfl, hb6⟩
        have hbb6 : Below w.heap.size w w6 := hbb5.trans (hb6.mono hbb5.size)
        clear hb6
        simp only [errV, sent, Nat.reduceAdd]
        go_wp2_with (first
          | (go_at_call 9; with_reducible (refine (His3.out _ hbb6).mono ?_); rintro e w7 ⟨rfl, hb7⟩; have hbb7 := hbb6.trans (hb7.mono hbb6.size))
          | (go_at_call 9; with_reducible (refine (His5.out _ hbb6).mono ?_); rintro e w7 ⟨rfl, hb7⟩; have hbb7 := hbb6.trans (hb7.mono hbb6.size)))
        go_ret
        exact ⟨rfl, by first | exact hbb7 | exact hbb6⟩

theorem movesNone_walk (a : Nat → Addr) (B : Nat) (w : World) (h : Sent w B all14 a) (hB : B ≤ w.heap.size) (n p : Int) (hp : wf64 p) :
    Calls Tryd.prog 5 #[.int .i64 n, .int .i64 p] w fun e w' => e = .returned (.bool true) ∧ Below w.heap.size w w' := by
  obtain ⟨m, hm, hb7⟩ := and7 n
  by_cases h4 : 4 < m
  · exact none_big a B w h hB n p m hm hb7 h4
  · refine none_small a B w h hB n p hp m hb7 (by omega) _ _ _ rfl rfl rfl ?_
    rw [bad_one, bad_one, bad_nil]
    have e1 : plB 900 = true := by decide
    have e2 : plB 901 = true := by decide
    have e3 : plB 5 = true := by decide
    have e4 : plB 7 = true := by decide
    by_cases h1 : p < -1000
    · have : plB p = false := by simp [plB]; omega
      refine .inl ⟨h1, ?_, ?_, ?_⟩ <;> simp [e1, e2, e3, e4, this]
    · by_cases h2 : 1000 < p
      · have : plB p = false := by simp [plB]; omega
        refine .inr (.inl ⟨⟨by omega, by simp; omega⟩, ?_, ?_, ?_⟩) <;> simp [e1, e2, e3, e4, this]
      · have : plB p = true := by simp [plB]; omega
        by_cases h3 : p = 900
        · subst h3
          exact .inr (.inr (.inl ⟨rfl, by decide, by decide, by decide⟩))
        · by_cases h5 : p = 901
          · subst h5
            exact .inr (.inr (.inr (.inl ⟨rfl, by decide, by decide, by decide⟩)))
          · refine .inr (.inr (.inr (.inr ⟨⟨by omega, by omega⟩, ⟨by simpa using h3, by simpa using h5⟩, ?_, ?_, ?_⟩))) <;> simp [e1, e2, e3, e4, this, h3, h5]
end Go.Proofs.YteapnfobcebpfaaDoor
