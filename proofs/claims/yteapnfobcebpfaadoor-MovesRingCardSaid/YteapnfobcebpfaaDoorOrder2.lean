/-
  moves.Order at all arguments; moves.Cycles.
-/
import Derived.Test.YteapnfobcebpfaaDoorOrder
namespace Go.Proofs.YteapnfobcebpfaaDoor
open Go.RowKit Go.Maps Mov

/-- Why Order refuses: 0: it does not. -/
def orderBad (l : List Mv) (sp : Int) : Nat :=
  if l.length ≤ 500 ∧ plB sp = false then 3 else if mayF l ≠ 0 then mayF l else if collB l sp = true then 5 else 0
def OrderRes (a : Nat → Addr) (w : World) (l : List Mv) (sp : Int) (e : Ending) (w' : World) : Prop :=
  Below w.heap.size w w' ∧ ((orderBad l sp ≠ 0 ∧ e = .returned (.tuple #[.slice none 0 0, errV a (orderBad l sp)])) ∨
    (orderBad l sp = 0 ∧ ∃ A c, e = .returned (.tuple #[.slice A (orderF l sp).length c, .nilIface]) ∧ w'.ownsRow w.heap.size 31 2 (.slice A (orderF l sp).length c) (orderF l sp).length (mcells (orderF l sp))))
theorem mayF_cases (l : List Mv) : mayF l = 0 ∨ mayF l = 1 ∨ mayF l = 3 ∨ mayF l = 5 := by
  unfold mayF
  split
  · exact .inr (.inl rfl)
  · split
    · split
      · exact .inl rfl
      · exact .inr (.inr (.inr rfl))
    · exact .inr (.inr (.inl rfl))
theorem mayF_len {l : List Mv} (h : mayF l = 0) : l.length ≤ 500 := by
  unfold mayF at h
  split at h
  · cases h
  · omega

set_option maxRecDepth 100000 in
set_option maxHeartbeats 1000000 in
theorem order_place (a : Nat → Addr) (B : Nat) (A : Option Addr) (c : Nat) (l : List Mv) (sp : Int) (w : World) (h : Sent w B [1, 3, 5] a) (hlen : l.length ≤ 500) (hp : plB sp = false) :
    Calls Tryd.prog 8 #[.slice A l.length c, .int .i64 sp] w fun e w' => e = .returned (.tuple #[.slice none 0 0, sent (a 3)]) ∧ Below w.heap.size w w' := by
  have hl1 : decide ((l.length : Int) ≤ 500) = true := by simp; omega
  have c3 := (h.cell 3 (by simp)).2
  simp only [gOf, sent] at c3
  go_enter Tryd.func8, Tryd.ntmps8
  go_wp2_with (go_at_call 15; refine (place_any _ _).mono ?_; rintro e w' ⟨rfl, rfl⟩)
  go_quiet (fail)
  go_wp2
  go_ret2
  exact ⟨rfl, below_drewN (Below.refl _ _) _⟩

set_option maxRecDepth 100000 in
set_option maxHeartbeats 1000000 in
theorem order_may (a : Nat → Addr) (B : Nat) (A : Option Addr) (c : Nat) (l : List Mv) (sp : Int) (w : World) (h : Sent w B [1, 3, 5] a) (hB : B ≤ w.heap.size) (hr : Rd w w.heap.size 2 A l.length (mcells l)) (hw : Wf l) (hl : l.length ≤ 9223372036854775807)
    (hp : l.length ≤ 500 → plB sp = true) (hm : mayF l ≠ 0) :
    Calls Tryd.prog 8 #[.slice A l.length c, .int .i64 sp] w fun e w' => e = .returned (.tuple #[.slice none 0 0, errV a (mayF l)]) ∧ Below w.heap.size w w' := by
  have hmay := may_any a B A c l w h hB hr hw hl
  have hm2 : errV a (mayF l) = sent (a (mayF l)) := by
    rcases mayF_cases l with e | e | e | e
    · exact absurd e hm
    all_goals rw [e]; rfl
  rw [hm2] at hmay ⊢
  simp only [sent] at hmay ⊢
  generalize a (mayF l) = ad at *
  have Hmay := Lib.hid hmay
  clear hmay hm2
  by_cases hlen : l.length ≤ 500
  · have hl1 : decide ((l.length : Int) ≤ 500) = true := by simp; omega
    have hp1 := hp hlen
    clear hp
    go_enter Tryd.func8, Tryd.ntmps8
    go_wp2_with (first | (go_at_call 15; refine (place_any _ _).mono ?_; rintro e w' ⟨rfl, rfl⟩) | (go_at_call 16; refine Hmay.out.mono ?_; rintro e w0 ⟨rfl, hb0⟩))
    go_ret2
    exact ⟨rfl, hb0⟩
  · have hl1 : decide ((l.length : Int) ≤ 500) = false := by simp; omega
    clear hp
    go_enter Tryd.func8, Tryd.ntmps8
    go_wp2_with (first | (go_at_call 15; refine (place_any _ _).mono ?_; rintro e w' ⟨rfl, rfl⟩) | (go_at_call 16; refine Hmay.out.mono ?_; rintro e w0 ⟨rfl, hb0⟩))
    go_ret2
    exact ⟨rfl, hb0⟩

theorem order_any (a : Nat → Addr) (B : Nat) (A : Option Addr) (c : Nat) (l : List Mv) (sp : Int) (w : World) (h : Sent w B [1, 3, 5] a) (hB : B ≤ w.heap.size) (hr : Rd w w.heap.size 2 A l.length (mcells l)) (hw : Wf l) (_ : wf64 sp) (hl : l.length ≤ 9223372036854775807) :
    Calls Tryd.prog 8 #[.slice A l.length c, .int .i64 sp] w (OrderRes a w l sp) := by
  by_cases h1 : l.length ≤ 500 ∧ plB sp = false
  · refine (order_place a B A c l sp w h h1.1 h1.2).mono fun e w' ⟨he, hb⟩ => ⟨hb, .inl ?_⟩
    have : orderBad l sp = 3 := by unfold orderBad; rw [if_pos h1]
    rw [this]
    exact ⟨by decide, he⟩
  · by_cases h2 : mayF l = 0
    · have hlen := mayF_len h2
      have hp : plB sp = true := by
        cases hq : plB sp
        · exact absurd ⟨hlen, hq⟩ h1
        · rfl
      refine (order_some a B A c l sp w h hB hr hw hlen hp h2).mono fun e w' ⟨hb, ho⟩ => ⟨hb, ?_⟩
      rcases ho with ⟨h3, he⟩ | ⟨h3, ho⟩
      · have : orderBad l sp = 5 := by unfold orderBad; rw [if_neg h1, if_neg (by simpa using h2), if_pos h3]
        rw [this]
        exact .inl ⟨by decide, he⟩
      · have : orderBad l sp = 0 := by unfold orderBad; rw [if_neg h1, if_neg (by simpa using h2), if_neg (by simp [h3])]
        exact .inr ⟨this, ho⟩
    · refine (order_may a B A c l sp w h hB hr hw hl (fun hlen => ?_) h2).mono fun e w' ⟨he, hb⟩ => ⟨hb, .inl ?_⟩
      · cases hq : plB sp
        · exact absurd ⟨hlen, hq⟩ h1
        · rfl
      · have : orderBad l sp = mayF l := by unfold orderBad; rw [if_neg h1, if_pos h2]
        rw [this]
        exact ⟨h2, he⟩

theorem order_no (a : Nat → Addr) (B : Nat) (A : Option Addr) (c : Nat) (l : List Mv) (sp : Int) (w : World) (h : Sent w B [1, 3, 5] a) (hB : B ≤ w.heap.size) (hr : Rd w w.heap.size 2 A l.length (mcells l)) (hw : Wf l) (hws : wf64 sp) (hl : l.length ≤ 9223372036854775807) {k : Nat} (hk : orderBad l sp = k + 1) :
    Calls Tryd.prog 8 #[.slice A l.length c, .int .i64 sp] w fun e w' => e = .returned (.tuple #[.slice none 0 0, sent (a (k + 1))]) ∧ Below w.heap.size w w' :=
  (order_any a B A c l sp w h hB hr hw hws hl).mono fun e w' ⟨hb, ho⟩ => by
    rcases ho with ⟨_, he⟩ | ⟨h0, _⟩
    · rw [hk] at he; exact ⟨he, hb⟩
    · rw [hk] at h0; cases h0
theorem order_yes (a : Nat → Addr) (B : Nat) (A : Option Addr) (c : Nat) (l : List Mv) (sp : Int) (w : World) (h : Sent w B [1, 3, 5] a) (hB : B ≤ w.heap.size) (hr : Rd w w.heap.size 2 A l.length (mcells l)) (hw : Wf l) (hws : wf64 sp) (hl : l.length ≤ 9223372036854775807) (hk : orderBad l sp = 0) :
    Calls Tryd.prog 8 #[.slice A l.length c, .int .i64 sp] w fun e w' => ∃ A c, e = .returned (.tuple #[.slice A (orderF l sp).length c, .nilIface]) ∧ w'.ownsRow w.heap.size 31 2 (.slice A (orderF l sp).length c) (orderF l sp).length (mcells (orderF l sp)) ∧ Below w.heap.size w w' :=
  (order_any a B A c l sp w h hB hr hw hws hl).mono fun e w' ⟨hb, ho⟩ => by
    rcases ho with ⟨h0, _⟩ | ⟨_, A, c, he, ho⟩
    · exact absurd hk h0
    · exact ⟨A, c, he, ho, hb⟩
theorem orderBad_of {l : List Mv} (h : mayF l = 0) {sp : Int} (hp : plB sp = true) : orderBad l sp = if collB l sp = true then 5 else 0 := by
  unfold orderBad
  rw [if_neg (by simp [hp]), if_neg (by simp [h])]

/-! ### there is always a spare place -/
theorem nodup_le : ∀ (K V : List Int), K.Nodup → (∀ x ∈ K, x ∈ V) → K.length ≤ V.length
  | [], _, _, _ => Nat.zero_le _
  | x :: K, V, hn, hc => by
    rw [List.nodup_cons] at hn
    have hx := hc x List.mem_cons_self
    have h1 := (List.perm_cons_erase hx).length_eq
    have h2 := nodup_le K (V.erase x) hn.2 (fun y hy => by
      have hne : y ≠ x := fun e => hn.1 (e ▸ hy)
      exact (List.mem_erase_of_ne hne).2 (hc y (List.mem_cons_of_mem _ hy)))
    simp at h1 ⊢
    omega
theorem some_free {l : List Mv} (hl : l.length ≤ 500) (h : ∀ t : Int, -1000 < t → t ≤ 1000 → collB l t = true) : False := by
  have hK : ((List.range 2000).map fun i : Nat => (i : Int) - 999).Nodup := by
    refine List.Pairwise.map _ (fun a b hab => ?_) List.nodup_range
    omega
  have := nodup_le _ (keys l ++ vals l) hK (fun x hx => by
    obtain ⟨i, hi, rfl⟩ := List.mem_map.1 hx
    have hi2 := List.mem_range.1 hi
    have := h ((i : Int) - 999) (by omega) (by omega)
    unfold collB at this
    obtain ⟨m, hm, he⟩ := List.any_eq_true.1 this
    rw [Bool.or_eq_true, beq_iff_eq, beq_iff_eq] at he
    rcases he with he | he
    · exact List.mem_append_left _ (List.mem_map.2 ⟨m, hm, he⟩)
    · exact List.mem_append_right _ (List.mem_map.2 ⟨m, hm, he⟩))
  simp [keys, vals] at this
  omega
end Go.Proofs.YteapnfobcebpfaaDoor
