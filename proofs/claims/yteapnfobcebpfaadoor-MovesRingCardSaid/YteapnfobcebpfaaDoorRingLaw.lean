/-
  The plain law of rings turned round, with rows that hang on them: how many rings there are, and how many moves they take.
-/
import Derived.Test.YteapnfobcebpfaaDoorRingTab
import Derived.Test.YteapnfobcebpfaaDoorOrder2
import Derived.Test.YteapnfobcebpfaaDoorCyc
namespace Go.Proofs.YteapnfobcebpfaaDoor
open Mov
namespace Mov

theorem ring_len (n b m : Nat) : (ringL n b m).length = m := by simp [ringL]
theorem tail_len (n m : Nat) : (tailL n m).length = m := by simp [tailL]
theorem ringAll_len (n b t : Nat) : (ringAll n b t).length = n + t := by simp [ringAll, ring_len, tail_len]
theorem ring_mem {n b m : Nat} {p : Mv} : p ∈ ringL n b m ↔ ∃ i, i < m ∧ p = ((i : Int), (((i + b) % n : Nat) : Int)) := by
  unfold ringL
  rw [List.mem_map]
  constructor
  · rintro ⟨i, hi, rfl⟩; exact ⟨i, List.mem_range.1 hi, rfl⟩
  · rintro ⟨i, hi, rfl⟩; exact ⟨i, List.mem_range.2 hi, rfl⟩
theorem tail_mem {n m : Nat} {p : Mv} : p ∈ tailL n m ↔ ∃ i, i < m ∧ p = (100 + (i : Int), ((i % n : Nat) : Int)) := by
  unfold tailL
  rw [List.mem_map]
  constructor
  · rintro ⟨i, hi, rfl⟩; exact ⟨i, List.mem_range.1 hi, rfl⟩
  · rintro ⟨i, hi, rfl⟩; exact ⟨i, List.mem_range.2 hi, rfl⟩
theorem ring_succ (n b m : Nat) : ringL n b (m + 1) = ringL n b m ++ [((m : Int), (((m + b) % n : Nat) : Int))] := by
  unfold ringL
  rw [List.range_succ, List.map_append]
  rfl
theorem tail_succ (n m : Nat) : tailL n (m + 1) = tailL n m ++ [(100 + (m : Int), ((m % n : Nat) : Int))] := by
  unfold tailL
  rw [List.range_succ, List.map_append]
  rfl

section
variable {n b t : Nat} (hn : 0 < n) (hn2 : n ≤ 30) (hb : b < n) (ht : t < 10)
include hn
theorem all_mem {p : Mv} (h : p ∈ ringAll n b t) : 0 ≤ p.2 ∧ p.2 < n ∧ ((0 ≤ p.1 ∧ p.1 < n) ∨ (100 ≤ p.1 ∧ p.1 < 100 + t)) := by
  rcases List.mem_append.1 h with h | h
  · obtain ⟨i, hi, rfl⟩ := ring_mem.1 h
    have := Nat.mod_lt (i + b) hn
    simp only
    omega
  · obtain ⟨i, hi, rfl⟩ := tail_mem.1 h
    have := Nat.mod_lt i hn
    simp only
    omega
include hn2
theorem all_nod : (keys (ringAll n b t)).Nodup := by
  unfold keys ringAll
  rw [List.map_append, List.nodup_append]
  refine ⟨?_, ?_, ?_⟩
  · unfold ringL
    rw [List.map_map]
    refine List.Pairwise.map _ (fun a b hab => ?_) List.nodup_range
    simp only [Function.comp]
    omega
  · unfold tailL
    rw [List.map_map]
    refine List.Pairwise.map _ (fun a b hab => ?_) List.nodup_range
    simp only [Function.comp]
    omega
  · intro x hx y hy e
    obtain ⟨p, hp, rfl⟩ := List.mem_map.1 hx
    obtain ⟨q, hq, rfl⟩ := List.mem_map.1 hy
    obtain ⟨i, hi, rfl⟩ := ring_mem.1 hp
    obtain ⟨j, hj, rfl⟩ := tail_mem.1 hq
    simp only at e
    omega
end

theorem done_sublist (n : Nat) : ∀ (es : List Mv) (t : Int), ((doneF n es t).1).Sublist es := by
  induction n with
  | zero => intro es t; exact List.Sublist.refl _
  | succ n ih =>
    intro es t
    unfold doneF
    cases hf : lkup es t with
    | none => exact List.Sublist.refl _
    | some f =>
      by_cases h0 : asks es t = 0
      · simp only [if_pos h0]
        exact (ih _ _).trans List.filter_sublist
      · simp only [if_neg h0]
        exact List.Sublist.refl _
theorem dones_sublist (todo : List Int) : ∀ es : List Mv, ((donesF todo es).1).Sublist es := by
  induction todo with
  | nil => intro es; exact List.Sublist.refl _
  | cons t r ih =>
    intro es
    unfold donesF
    exact (ih _).trans (done_sublist _ _ _)

theorem cyc_more (ks rest : List Int) : ∀ es : List Mv, (∀ x ∈ rest, ∀ p ∈ es, p.1 ≠ x) → cycF (ks ++ rest) es = cycF ks es := by
  induction ks with
  | nil =>
    intro es h
    induction rest with
    | nil => rfl
    | cons x r ih =>
      have : lkup es x = none := by
        unfold lkup
        rw [Option.map_eq_none_iff, List.find?_eq_none]
        intro p hp
        have := h x List.mem_cons_self p hp
        simpa using this
      simp only [List.nil_append] at ih ⊢
      unfold cycF
      rw [this]
      exact ih (fun y hy => h y (List.mem_cons_of_mem _ hy))
  | cons k r ih =>
    intro es h
    simp only [List.cons_append]
    unfold cycF
    cases hk : lkup es k with
    | none => exact ih es h
    | some f => simp only; rw [ih _ (fun x hx p hp => h x hx p (turn_sub _ _ _ _ _ p hp))]

section
variable {n b t : Nat} (hn : 0 < n) (hn2 : n ≤ 30) (hb : b < n) (ht : t < 10)
include hn hn2
theorem nonTriv_tail : nonTriv (tailL n t) = tailL n t := by
  unfold nonTriv
  rw [List.filter_eq_self]
  intro p hp
  obtain ⟨i, hi, rfl⟩ := tail_mem.1 hp
  have := Nat.mod_lt i hn
  simp
  omega
include hb
omit hn hn2 in
theorem nonTriv_ring : nonTriv (ringL n b n) = if b = 0 then [] else ringL n b n := by
  by_cases e : b = 0
  · subst e
    rw [if_pos rfl]
    unfold nonTriv
    rw [List.filter_eq_nil_iff]
    intro p hp
    obtain ⟨i, hi, rfl⟩ := ring_mem.1 hp
    have : (i + 0) % n = i := Nat.mod_eq_of_lt (by omega)
    rw [this]
    simp
  · rw [if_neg e]
    unfold nonTriv
    rw [List.filter_eq_self]
    intro p hp
    obtain ⟨i, hi, rfl⟩ := ring_mem.1 hp
    have : (i + b) % n ≠ i := by
      by_cases h : i + b < n
      · rw [Nat.mod_eq_of_lt h]; omega
      · rw [Nat.mod_eq_sub_mod (by omega), Nat.mod_eq_of_lt (by omega)]; omega
    simp only [bne_iff_ne, ne_eq]
    omega
theorem nonTriv_all : nonTriv (ringAll n b t) = (if b = 0 then [] else ringL n b n) ++ tailL n t := by
  have h1 := nonTriv_ring hb
  have h2 := nonTriv_tail (t := t) hn hn2
  unfold ringAll
  rw [← h1, ← h2]
  unfold nonTriv
  rw [List.filter_append]
  simp
theorem rest_all : restF (ringAll n b t) = if b = 0 then [] else ringL n b n := by
  have hsub : (restF (ringAll n b t)).Sublist (nonTriv (ringAll n b t)) := dones_sublist _ _
  have hnod := all_nod (b := b) (t := t) hn hn2
  have h1 := phase1 hnod
  have hperm := h1.perm
  rw [nonTriv_all hn hn2 hb] at hsub
  obtain ⟨x, y, e, hx, hy⟩ := List.sublist_append_iff.1 hsub
  have hval : ∀ p ∈ restF (ringAll n b t), p.1 < n := fun p hp => by
    have h2 : p.1 ∈ vals (restF (ringAll n b t)) := hperm.mem_iff.2 (List.mem_map.2 ⟨p, hp, rfl⟩)
    obtain ⟨q, hq, e⟩ := List.mem_map.1 h2
    have := all_mem hn (mem_nonTriv.1 (h1.sub q hq)).1
    omega
  have hy0 : y = [] := by
    apply List.eq_nil_iff_forall_not_mem.2
    intro p hp
    have h2 := hval p (by rw [e]; exact List.mem_append_right _ hp)
    obtain ⟨i, hi, rfl⟩ := tail_mem.1 (hy.mem hp)
    simp only at h2
    omega
  subst hy0
  rw [List.append_nil] at e
  rw [e]
  by_cases h0 : b = 0
  · rw [if_pos h0] at hx ⊢
    exact List.sublist_nil.1 hx
  · rw [if_neg h0] at hx ⊢
    have hC : ∀ c, (0 ≤ c ∧ c < (n : Int)) → ∃ d, (c, d) ∈ restF (ringAll n b t) := by
      refine dones_keep hnod (C := fun c => 0 ≤ c ∧ c < (n : Int)) (fun c hc => ?_) (keys (ringAll n b t)) (nonTriv (ringAll n b t)) (fun p hp => hp) (fun c hc => ?_)
      · obtain ⟨k, rfl⟩ : ∃ k : Nat, c = k := ⟨c.toNat, by omega⟩
        refine ⟨(((k + (n - b)) % n : Nat) : Int), ?_, ?_⟩
        · have := Nat.mod_lt (k + (n - b)) hn
          omega
        · rw [nonTriv_all hn hn2 hb, if_neg h0]
          refine List.mem_append_left _ (ring_mem.2 ⟨(k + (n - b)) % n, Nat.mod_lt _ hn, ?_⟩)
          have : ((k + (n - b)) % n + b) % n = k := by
            have hk : k < n := by omega
            rw [Nat.mod_add_mod, show k + (n - b) + b = k + n from by omega, Nat.add_mod_right, Nat.mod_eq_of_lt hk]
          rw [this]
      · obtain ⟨k, rfl⟩ : ∃ k : Nat, c = k := ⟨c.toNat, by omega⟩
        rw [nonTriv_all hn hn2 hb, if_neg h0]
        exact ⟨_, List.mem_append_left _ (ring_mem.2 ⟨k, by omega, rfl⟩)⟩
    rw [e] at hC
    refine hx.eq_of_length_le ?_
    rw [ring_len]
    have hk : (List.range n).map (fun i : Nat => (i : Int)) ⊆ keys x := by
      intro c hc
      obtain ⟨i, hi, rfl⟩ := List.mem_map.1 hc
      obtain ⟨d, hd⟩ := hC i (by have := List.mem_range.1 hi; omega)
      exact List.mem_map.2 ⟨_, hd, rfl⟩
    have := nodup_le ((List.range n).map (fun i : Nat => (i : Int))) (keys x) (List.Pairwise.map _ (fun a b hab => by simp only [ne_eq]; omega) List.nodup_range) (fun c hc => hk hc)
    simpa [keys] using this
theorem cycles_all : cycles (ringAll n b t) = ringsC n b := by
  unfold cycles
  rw [rest_all hn hn2 hb]
  by_cases h0 : b = 0
  · rw [if_pos h0, cycF_nil, h0, none_table n (by omega)]
  · rw [if_neg h0, ← cyc_table n (by omega) b hb (by omega)]
    have : keys (ringAll n b t) = keys (ringL n b n) ++ keys (tailL n t) := by simp [keys, ringAll]
    rw [this]
    refine cyc_more _ _ _ (fun x hx p hp => ?_)
    obtain ⟨q, hq, rfl⟩ := List.mem_map.1 hx
    obtain ⟨i, hi, rfl⟩ := tail_mem.1 hq
    obtain ⟨j, hj, rfl⟩ := ring_mem.1 hp
    simp only
    omega
include ht
theorem ring_ok : orderBad (ringAll n b t) (-7) = 0 ∧ (orderF (ringAll n b t) (-7)).length = (if b = 0 then 0 else n) + t + ringsC n b ∧ cyclesF (ringAll n b t) = ringsC n b := by
  have hnod := all_nod (b := b) (t := t) hn hn2
  have hsp : ∀ p ∈ ringAll n b t, p.1 ≠ -7 ∧ p.2 ≠ -7 := fun p hp => by have := all_mem hn hp; omega
  have hm : mayF (ringAll n b t) = 0 := by
    unfold mayF
    rw [if_neg (by rw [ringAll_len]; omega), if_pos, if_pos hnod]
    rw [List.all_eq_true]
    intro p hp
    have := all_mem hn hp
    simp [plB]; omega
  have hc := cycles_all (t := t) hn hn2 hb
  refine ⟨?_, ?_, ?_⟩
  · rw [orderBad_of hm (by decide), coll_not.2 hsp]; rfl
  · rw [(phase2 hnod hsp).2, nonTriv_all hn hn2 hb, hc]
    by_cases h0 : b = 0 <;> simp [h0, ring_len, tail_len]
  · unfold cyclesF; rw [if_pos hm, hc]
omit hb ht in
theorem ring_does {k : Nat} (hk : k < n + t) : exec (orderF (ringAll n b t) (-7)) id (toAt (ringAll n b t) k) = frAt (ringAll n b t) k :=
  order_does (all_nod hn hn2) (fun p hp => by have := all_mem hn hp; omega) (at_mem (by rw [ringAll_len]; exact hk))
omit hb in
theorem ring_wf : Wf (ringAll n b t) := fun p hp => by
  have := all_mem hn hp
  exact ⟨wf64_of (by omega), wf64_of (by omega)⟩
end

/-! ### the marks -/
theorem mark_len (n b : Nat) : ∀ (f : Nat) (s : List Bool) (k : Nat), (markF n b f s k).length = s.length
  | 0, _, _ => rfl
  | f + 1, s, k => by
    unfold markF
    split
    · rfl
    · rw [mark_len n b f]; simp
theorem rings_len (n b : Nat) : ∀ i s, (ringsG n b i s).1.length = s.1.length
  | 0, _ => rfl
  | i + 1, s => by
    show (markF n b (n + 1) (ringsG n b i s).1 i).length = _
    rw [mark_len, rings_len n b i]
end Mov
end Go.Proofs.YteapnfobcebpfaaDoor
