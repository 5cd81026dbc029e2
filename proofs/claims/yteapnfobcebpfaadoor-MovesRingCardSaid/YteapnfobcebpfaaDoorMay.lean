/-
  moves.place and moves.may: what they answer.
-/
import Derived.Test.YteapnfobcebpfaaDoorSee2
import Derived.Test.YteapnfobcebpfaaDoorRings
namespace Go.Proofs.YteapnfobcebpfaaDoor
open Go.RowKit Go.Maps Mov

def plB (n : Int) : Bool := decide (-1000 ≤ n ∧ n ≤ 1000)
set_option maxHeartbeats 400000 in
theorem place_any (n : Int) (w : World) :
    Calls Tryd.prog 15 #[.int .i64 n] w fun e w' => e = .returned (.bool (plB n)) ∧ w = w' := by
  go_enter Tryd.func15, Tryd.ntmps15
  go_wp2
  · have h : -1000 ≤ n := by assumption
    go_ret
    exact ⟨ret_bool (by simp [plB, h]), rfl⟩
  · have h : n < -1000 := by assumption
    go_ret
    exact ⟨ret_bool (by simp [plB]; omega), rfl⟩

/-- The cells of a row of moves. -/
def mcells (l : List Mv) : List Value := l.flatMap fun m => [.int .i64 m.1, .int .i64 m.2]
theorem mcells_at (l : List Mv) (k : Nat) (h : k < l.length) : (mcells l)[k * 2]? = some (.int .i64 (toAt l k)) ∧ (mcells l)[k * 2 + 1]? = some (.int .i64 (frAt l k)) := by
  induction l generalizing k with
  | nil => cases h
  | cons m r ih =>
    cases k with
    | zero => simp [mcells, toAt, frAt]
    | succ k =>
      have := ih k (by simpa using h)
      have e1 : mcells (m :: r) = .int .i64 m.1 :: .int .i64 m.2 :: mcells r := rfl
      have e2 : (k + 1) * 2 = k * 2 + 1 + 1 := by omega
      rw [e1, e2]
      simpa [toAt, frAt] using this
theorem mcells_len (l : List Mv) : (mcells l).length = l.length * 2 := by
  induction l with
  | nil => rfl
  | cons m r ih =>
    have e1 : mcells (m :: r) = .int .i64 m.1 :: .int .i64 m.2 :: mcells r := rfl
    rw [e1]; simp [ih]; omega
theorem moves_at {w : World} {B : Nat} {A : Option Addr} {l : List Mv} (h : Rd w B 2 A l.length (mcells l)) {k : Nat} (hk : k < l.length) :
    ∃ b off, A = some ⟨b, off, none⟩ ∧ b < B ∧ w.cell? ⟨b, off + k * 2, none⟩ = some (.int .i64 (toAt l k)) ∧ w.cell? ⟨b, off + k * 2 + 1, none⟩ = some (.int .i64 (frAt l k)) := by
  obtain ⟨b, off, e, hb, hc⟩ := h.2 (by omega)
  have := mcells_at l k hk
  exact ⟨b, off, e, hb, hc _ _ this.1, by have := hc _ _ this.2; rwa [← Nat.add_assoc] at this⟩

/-- Why moves may not be: 0: they may. -/
def mayF (l : List Mv) : Nat :=
  if 500 < l.length then 1 else if l.all (fun m => plB m.1 && plB m.2) then (if (keys l).Nodup then 0 else 5) else 3

theorem mayF_3 {l : List Mv} (h : ¬ 500 < l.length) {k : Nat} (hk : k < l.length) (hb : plB (toAt l k) = false ∨ plB (frAt l k) = false) : mayF l = 3 := by
  unfold mayF
  rw [if_neg h, if_neg]
  intro ha
  have := List.all_eq_true.1 ha _ (at_mem hk)
  simp only [Bool.and_eq_true] at this
  rcases hb with hb | hb
  · rw [hb] at this; cases this.1
  · rw [hb] at this; cases this.2
theorem all_pl {l : List Mv} (ha : ∀ j, j < l.length → plB (toAt l j) = true ∧ plB (frAt l j) = true) : l.all (fun m => plB m.1 && plB m.2) = true := by
  rw [List.all_eq_true]
  intro p hp
  obtain ⟨k, hk, e1, e2⟩ := at_of_mem hp
  have := ha k hk
  rw [← e1, ← e2, this.1, this.2]; rfl
theorem take_keys {l : List Mv} {k : Nat} (hk : k < l.length) : (keys l).take (k + 1) = (keys l).take k ++ [toAt l k] := by
  have hk' : k < (keys l).length := by simpa [keys] using hk
  rw [List.take_succ_eq_append_getElem hk']
  simp [keys, toAt, List.getElem?_eq_getElem hk]
theorem mayF_5 {l : List Mv} (h : ¬ 500 < l.length) (ha : ∀ j, j < l.length → plB (toAt l j) = true ∧ plB (frAt l j) = true) {k : Nat} (hk : k < l.length) (hx : toAt l k ∈ (keys l).take k) : mayF l = 5 := by
  unfold mayF
  rw [if_neg h, if_pos (all_pl ha), if_neg]
  intro hn
  have h1 : ((keys l).take (k + 1)).Nodup := hn.sublist (List.take_sublist _ _)
  rw [take_keys hk, List.nodup_append] at h1
  exact h1.2.2 _ hx _ (List.mem_singleton.2 rfl) rfl
theorem mayF_0 {l : List Mv} (h : ¬ 500 < l.length) (ha : ∀ j, j < l.length → plB (toAt l j) = true ∧ plB (frAt l j) = true) (hn : ((keys l).take l.length).Nodup) : mayF l = 0 := by
  unfold mayF
  rw [if_neg h, if_pos (all_pl ha), if_pos]
  rwa [List.take_of_length_le (by simp [keys])] at hn
theorem nod_next {l : List Mv} {k : Nat} (hk : k < l.length) (hn : ((keys l).take k).Nodup) (hx : toAt l k ∉ (keys l).take k) : ((keys l).take (k + 1)).Nodup := by
  rw [take_keys hk, List.nodup_append]
  refine ⟨hn, by simp, fun x hx1 y hy e => ?_⟩
  rw [List.mem_singleton.1 hy] at e
  rw [e] at hx1
  exact hx hx1
theorem met_next {l : List Mv} {k : Nat} (hk : k < l.length) (x : Int) : fput (fun x => if x ∈ (keys l).take k then some true else none) (toAt l k) true x = if x ∈ (keys l).take (k + 1) then some true else none := by
  rw [take_keys hk]
  unfold fput
  by_cases e : x = toAt l k
  · simp [e]
  · simp [e]

def Wf (l : List Mv) : Prop := ∀ m ∈ l, wf64 m.1 ∧ wf64 m.2
theorem zeroB (w : World) : (zeroValue 4).run Tryd.prog w = .ok (.bool false) w := by kernel_rfl
theorem zeroI (w : World) : (zeroValue 3).run Tryd.prog w = .ok (.int .i64 0) w := by kernel_rfl
noncomputable def EB : Elt Tryd.prog 4 Bool := boolElt Tryd.underlying4 zeroB
noncomputable def EI : Elt Tryd.prog 3 Int := intElt Tryd.underlying3 zeroI

set_option maxHeartbeats 400000 in
theorem may_any (a : Nat → Addr) (B : Nat) (A : Option Addr) (c : Nat) (l : List Mv) (w : World) (h : Sent w B [1, 3, 5] a) (hB : B ≤ w.heap.size) (hr : Rd w w.heap.size 2 A l.length (mcells l)) (hw : Wf l) (hlen : l.length ≤ 9223372036854775807) :
    Calls Tryd.prog 16 #[.slice A l.length c] w fun e w' => e = .returned (errV a (mayF l)) ∧ Below w.heap.size w w' := by
  have hmm := @run_makeMap Tryd.prog
  by_cases h500 : 500 < l.length
  · have hc := (h.cell 1 (by simp)).2
    simp only [gOf, sent] at hc
    go_enter Tryd.func16, Tryd.ntmps16
    go_wp2
    go_ret
    exact ⟨by simp [mayF, h500, errV, sent], Below.refl _ _⟩
  · have h500b : decide (500 < (l.length : Int)) = false := by simp; omega
    go_enter Tryd.func16, Tryd.ntmps16
    go_wp2
    go_loopw [15] (fun i wr => ∃ k : Nat, k ≤ l.length ∧ i = .int .i64 k ∧ (∀ j, j < k → plB (toAt l j) = true ∧ plB (frAt l j) = true) ∧ IMap wr 3 EB w.heap.size 0 (fun _ => none) ∧ Below w.heap.size w wr) (fun i _ => l.length - (intOf i).toNat)
    case atStart => exact ⟨0, Nat.zero_le _, rfl, fun j hj => by omega, IMap.made _ _ _, (Below.refl _ _).alloc (Nat.le_refl _) _⟩
    case round =>
      obtain ⟨k, hk, rfl, hall, hmap, hb⟩ := hrel
      have Hall := Lib.hid hall
      clear hall
      by_cases hlt : k < l.length
      · obtain ⟨b, off, rfl, hbl, c1, c2⟩ := moves_at (hr.below hb (Nat.le_refl _)) hlt
        have k0 : (0 : Int) ≤ k := by omega
        have k1 : (k : Int) < l.length := by omega
        have hz := hb.size
        have c3 := (h.below hb hB).cellA (Nat.le_trans hB hz) (k := 3) (by simp)
        simp only [gOf, sent] at c3
        cases hp1 : plB (toAt l k)
        · go_wp2_with (go_at_call 15; refine (place_any _ _).mono ?_; rintro e w' ⟨rfl, rfl⟩)
          go_ret
          exact ⟨by rw [mayF_3 h500 hlt (.inl hp1)]; rfl, hb.alloc hz _⟩
        · cases hp2 : plB (frAt l k)
          · go_wp2_with (go_at_call 15; refine (place_any _ _).mono ?_; rintro e w' ⟨rfl, rfl⟩)
            go_ret
            exact ⟨by rw [mayF_3 h500 hlt (.inr hp2)]; rfl, hb.alloc hz _⟩
          · go_wp2_with (go_at_call 15; refine (place_any _ _).mono ?_; rintro e w' ⟨rfl, rfl⟩)
            go_roundw
            case rel => exact ⟨k + 1, by omega, by go_num, fun j hj => by
              by_cases e : j = k
              · subst e; exact ⟨hp1, hp2⟩
              · exact Hall.out j (by omega), hmap.alloc _, hb.alloc hz _⟩
            case measure => simp [intOf]; omega
      · have e : k = l.length := by omega
        subst e
        go_wp2
        go_loopw [33] (fun i wr => ∃ k : Nat, k ≤ l.length ∧ i = .int .i64 k ∧ ((keys l).take k).Nodup ∧ IMap wr 3 EB w.heap.size k (fun x => if x ∈ (keys l).take k then some true else none) ∧ Below w.heap.size w wr) (fun i _ => l.length - (intOf i).toNat)
        case atStart => exact ⟨0, Nat.zero_le _, rfl, by simp, hmap.congr (fun x _ => by simp), hb⟩
        case round =>
          obtain ⟨k, hk, rfl, hnod, hmap, hb⟩ := hrel
          have Hnod := Lib.hid hnod
          clear hnod
          by_cases hlt : k < l.length
          · obtain ⟨b, off, rfl, hbl, c1, c2⟩ := moves_at (hr.below hb (Nat.le_refl _)) hlt
            have k0 : (0 : Int) ≤ k := by omega
            have k1 : (k : Int) < l.length := by omega
            have hz := hb.size
            have c3 := (h.below hb hB).cellA (Nat.le_trans hB hz) (k := 5) (by simp)
            simp only [gOf, sent] at c3
            have hwx := (hw _ (at_mem hlt)).1
            by_cases hx : toAt l k ∈ (keys l).take k
            · have hv : EB.val ((if toAt l k ∈ (keys l).take k then some true else none).getD EB.zero) = .bool true := by rw [if_pos hx]; rfl
              have Hx := Lib.hid hx
              have Hv := Lib.hid hv
              clear hx hv
              go_wp2_with (at_lookup; refine wpList_ilook rfl _ _ 51 rfl Tryd.underlying3 Tryd.underlying51 (hmap.alloc _) rfl _ rfl hwx (.bool true) Hv.out ?_)
              go_ret
              exact ⟨by rw [mayF_5 h500 Hall.out hlt Hx.out]; rfl, hb.alloc hz _⟩
            · have hv : EB.val ((if toAt l k ∈ (keys l).take k then some true else none).getD EB.zero) = .bool false := by rw [if_neg hx]; rfl
              have Hx := Lib.hid hx
              have Hv := Lib.hid hv
              clear hx hv
              go_wp2_with (first | (at_lookup; refine wpList_ilook rfl _ _ 51 rfl Tryd.underlying3 Tryd.underlying51 (hmap.alloc _) rfl _ rfl hwx (.bool false) Hv.out ?_) | (at_mapUpdate; refine wpList_iupd rfl _ _ _ 51 rfl Tryd.underlying3 Tryd.underlying51 (hmap.alloc _) (by unfold maxLen; omega) rfl _ rfl hwx true rfl trivial ?_; intro w1 hmap1 hg1))
              go_roundw
              case rel =>
                refine ⟨k + 1, by omega, by go_num, ?_, hmap1.congr (fun x _ => ?_), (hb.alloc hz _).grown hg1 (by simp; omega) (fun j hj => by cases hj; exact Nat.le_refl _)⟩
                · exact nod_next hlt Hnod.out Hx.out
                · exact met_next hlt x
              case measure => simp [intOf]; omega
          · have e : k = l.length := by omega
            subst e
            go_wp2
            go_ret
            exact ⟨by rw [mayF_0 h500 Hall.out Hnod.out]; rfl, hb⟩
end Go.Proofs.YteapnfobcebpfaaDoor
