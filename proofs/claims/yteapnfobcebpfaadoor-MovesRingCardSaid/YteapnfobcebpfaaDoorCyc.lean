/-
  moves.Cycles.
-/
import Derived.Test.YteapnfobcebpfaaDoorOrder2
namespace Go.Proofs.YteapnfobcebpfaaDoor
open Go.RowKit Go.Maps Mov

theorem eql_sent_same {w : World} (x : Addr) : (binOp .eql 26 (sent x) (sent x)).run Tryd.prog w = .ok (.bool true) w := by
  obtain ⟨i, hi, hic⟩ := Option.map_eq_some_iff.1 infoE
  obtain ⟨i2, hi2, hic2⟩ := Option.map_eq_some_iff.1 infoES
  exact run_eql_iface_ptr_same w x Tryd.underlying26 Tryd.underlying67 hi hic hi2
theorem eql_nil_sent {w : World} (x : Addr) : (binOp .eql 26 .nilIface (sent x)).run Tryd.prog w = .ok (.bool false) w :=
  run_eql_iface_nil_left w _ _ Tryd.underlying26

/-- How many rings the program finds: 0 of what may not be. -/
def cyclesF (l : List Mv) : Nat := if mayF l = 0 then cycles l else 0

set_option maxRecDepth 100000 in
set_option maxHeartbeats 1000000 in
theorem cycles_no (a : Nat → Addr) (B : Nat) (A : Option Addr) (c : Nat) (l : List Mv) (w : World) (h : Sent w B [1, 3, 5] a) (hB : B ≤ w.heap.size) (hr : Rd w w.heap.size 2 A l.length (mcells l)) (hw : Wf l) (hl : l.length ≤ 9223372036854775807) (hm : mayF l ≠ 0) :
    Calls Tryd.prog 10 #[.slice A l.length c] w fun e w' => e = .returned (.int .i64 0) ∧ Below w.heap.size w w' := by
  have hmay := may_any a B A c l w h hB hr hw hl
  have hm2 : errV a (mayF l) = sent (a (mayF l)) := by
    rcases mayF_cases l with e | e | e | e
    · exact absurd e hm
    all_goals rw [e]; rfl
  rw [hm2] at hmay
  simp only [sent] at hmay
  generalize a (mayF l) = ad at *
  have Hmay := Lib.hid hmay
  clear hmay hm2
  go_enter Tryd.func10, Tryd.ntmps10
  go_wp2_with (go_at_call 16; refine Hmay.out.mono ?_; rintro e w0 ⟨rfl, hb0⟩)
  go_ret
  exact ⟨rfl, hb0⟩

/-- A state of the search for a spare place: none yet above s; or what Order said. -/
def CSt (l : List Mv) (x : Addr) (s : Int) (v ev : Value) : Prop :=
  (ev = sent x ∧ ∀ t, s < t → t ≤ 1000 → collB l t = true) ∨ (ev = .nilIface ∧ ∃ A c, v = .slice A ((nonTriv l).length + cycles l) c)

theorem order_st (a : Nat → Addr) (B : Nat) (A : Option Addr) (c : Nat) (l : List Mv) (w : World) (h : Sent w B [1, 3, 5] a) (hB : B ≤ w.heap.size) (hr : Rd w w.heap.size 2 A l.length (mcells l)) (hw : Wf l) (hm : mayF l = 0) (s : Int) (hs : -1000 ≤ s ∧ s ≤ 1000)
    (W : World) (hW : Below w.heap.size w W) (hall : ∀ t, s < t → t ≤ 1000 → collB l t = true) :
    Calls Tryd.prog 8 #[.slice A l.length c, .int .i64 s] W fun e w' => ∃ v ev, e = .returned (.tuple #[v, ev]) ∧ CSt l (a 5) (s - 1) v ev ∧ Below w.heap.size w w' := by
  have hlen := mayF_len hm
  have hp : plB s = true := by unfold plB; simpa using hs
  cases hcl : collB l s with
  | true =>
    refine (order_no a B A c l s W (h.below hW hB) (Nat.le_trans hB hW.size) ((hr.below hW (Nat.le_refl _)).more hW.size) hw (wf64_of (by omega)) (by omega) (k := 4) (by rw [orderBad_of hm hp, if_pos hcl])).mono fun e w' ⟨he, hb⟩ => ⟨_, _, he, .inl ⟨rfl, fun t h1 h2 => ?_⟩, hW.trans (hb.mono hW.size)⟩
    by_cases e : t = s
    · rw [e]; exact hcl
    · exact hall t (by omega) h2
  | false =>
    refine (order_yes a B A c l s W (h.below hW hB) (Nat.le_trans hB hW.size) ((hr.below hW (Nat.le_refl _)).more hW.size) hw (wf64_of (by omega)) (by omega) (by rw [orderBad_of hm hp, hcl]; rfl)).mono fun e w' ⟨A', c', he, _, hb⟩ => ?_
    rw [(phase2 (mayF_nod hm) (coll_not.1 hcl)).2] at he
    exact ⟨_, _, he, .inr ⟨rfl, A', c', rfl⟩, hW.trans (hb.mono hW.size)⟩

set_option maxRecDepth 100000 in
set_option maxHeartbeats 1000000 in
theorem cycles_yes (a : Nat → Addr) (B : Nat) (A : Option Addr) (c : Nat) (l : List Mv) (w : World) (h : Sent w B [1, 3, 5] a) (hB : B ≤ w.heap.size) (hr : Rd w w.heap.size 2 A l.length (mcells l)) (hw : Wf l) (hm : mayF l = 0) :
    Calls Tryd.prog 10 #[.slice A l.length c] w fun e w' => e = .returned (.int .i64 (cycles l)) ∧ Below w.heap.size w w' := by
  have hlen := mayF_len hm
  have hmay := may_any a B A c l w h hB hr hw (by omega)
  rw [hm] at hmay
  have heq := fun W => eql_sent_same (w := W) (a 5)
  have hne := fun W => eql_nil_sent (w := W) (a 5)
  have hord := order_st a B A c l w h hB hr hw hm
  simp only [sent] at heq hne
  have Hord := Lib.hid hord
  have Hmay := Lib.hid hmay
  have Hm := Lib.hid hm
  clear hmay hm hord
  go_enter Tryd.func10, Tryd.ntmps10
  go_wp2_with (first | (go_at_call 16; refine Hmay.out.mono ?_; rintro e w0 ⟨rfl, hb0⟩; simp only [errV]) | (go_at_call 8; refine (Hord.out 1000 (by omega) _ hb0 (fun t h1 h2 => by omega)).mono ?_; rintro e w1 ⟨v1, e1, rfl, hst, hb1⟩))
  go_loopw [3, 4, 5] (fun v ev s wr => ∃ si : Int, s = .int .i64 si ∧ -1000 ≤ si ∧ si ≤ 1000 ∧ CSt l (a 5) si v ev ∧ Below w.heap.size w wr) (fun _ _ s _ => (intOf s + 1000).toNat)
  case atStart =>
    refine ⟨1000, rfl, by omega, by omega, ?_, hb1⟩
    rcases hst with ⟨h1, _⟩ | h1
    · exact .inl ⟨h1, fun t h1 h2 => by omega⟩
    · exact .inr h1
  case round =>
    obtain ⟨si, rfl, hs1, hs2, hst2, hb⟩ := hrel
    have hc5 := ((h.below hb hB).cell 5 (by simp)).2
    simp only [gOf, sent] at hc5
    rcases hst2 with ⟨rfl, hall⟩ | ⟨rfl, A1, c1, rfl⟩
    · have hs3 : -1000 < si := by
        rcases Int.lt_or_le (-1000) si with h1 | h1
        · exact h1
        · exact (some_free hlen fun t h2 h3 => hall t (by omega) h3).elim
      have Hall := Lib.hid hall
      clear hall
      simp only [sent]
      go_wp2_with (go_at_call 8; refine (Hord.out si ⟨hs1, hs2⟩ _ hb Hall.out).mono ?_; rintro e w2 ⟨v2, e2, rfl, hst2, hb2⟩)
      go_roundw
      case rel => exact ⟨si - 1, by go_num, by omega, by omega, hst2, hb2⟩
      case measure => simp [intOf]; omega
    · go_wp2
      go_loopw [6, 34] (fun n i w2 => ∃ k : Nat, k ≤ l.length ∧ i = .int .i64 k ∧ n = .int .i64 ((nonTriv (l.take k)).length : Nat) ∧ Below w.heap.size w w2) (fun _ i _ => l.length - (intOf i).toNat)
      case atStart => exact ⟨0, Nat.zero_le _, rfl, rfl, hb⟩
      case round =>
        obtain ⟨k, hk, rfl, rfl, hb3⟩ := hrel
        have hz3 := hb3.size
        have hn1 : (nonTriv (l.take k)).length ≤ l.length := Nat.le_trans (List.length_filter_le _ _) (by simp; omega)
        by_cases hlt : k < l.length
        · obtain ⟨b, off, rfl, hbl, c1, c2⟩ := moves_at (hr.below hb3 (Nat.le_refl _)) hlt
          have k0 : (0 : Int) ≤ k := by omega
          have k1 : (k : Int) < l.length := by omega
          by_cases he : toAt l k = frAt l k
          · have heb : (toAt l k != frAt l k) = false := by simpa using he
            have He := Lib.hid he
            clear he
            go_wp2
            go_roundw
            case rel => exact ⟨k + 1, by omega, by go_num, by rw [nonTriv_same hlt He.out], hb3.alloc hz3 _⟩
            case measure => simp [intOf]; omega
          · have heb : (toAt l k != frAt l k) = true := by simpa using he
            have He := Lib.hid he
            clear he
            go_wp2
            go_roundw
            case rel => exact ⟨k + 1, by omega, by go_num, by rw [nonTriv_more hlt He.out]; simp, hb3.alloc hz3 _⟩
            case measure => simp [intOf]; omega
        · have e : k = l.length := by omega
          subst e
          rw [List.take_length]
          have hcy := cycles_le l
          go_wp2
          go_ret
          exact ⟨ret_int (by omega), hb3⟩

theorem cycles_any (a : Nat → Addr) (B : Nat) (A : Option Addr) (c : Nat) (l : List Mv) (w : World) (h : Sent w B [1, 3, 5] a) (hB : B ≤ w.heap.size) (hr : Rd w w.heap.size 2 A l.length (mcells l)) (hw : Wf l) (hl : l.length ≤ 9223372036854775807) :
    Calls Tryd.prog 10 #[.slice A l.length c] w fun e w' => e = .returned (.int .i64 (cyclesF l)) ∧ Below w.heap.size w w' := by
  unfold cyclesF
  by_cases hm : mayF l = 0
  · rw [if_pos hm]; exact cycles_yes a B A c l w h hB hr hw hm
  · rw [if_neg hm]; exact cycles_no a B A c l w h hB hr hw hl hm
end Go.Proofs.YteapnfobcebpfaaDoor
