/-
  MovesAtOnce, the plain law: what its first loops reckon, and Order's refusal.
-/
import Derived.Test.YteapnfobcebpfaaDoorFirst
namespace Go.Proofs.YteapnfobcebpfaaDoor
open Go.RowKit Go.Maps Mov

def ixF (l : List Mv) (sp : Int) (k : Nat) : Bool := !plB sp || (l.take k).any fun p => !(plB p.1 && plB p.2)
def shF (l : List Mv) (sp : Int) (k : Nat) : Bool := collB (l.take k) sp
def hasK (l : List Mv) (k : Nat) (x : Int) : Bool := decide (x ∈ (keys l).take k)
def twF (l : List Mv) (k : Nat) : Bool := (List.range k).any fun i => hasK l i (toAt l i)
theorem ixF_succ {l : List Mv} {sp : Int} {k : Nat} (hk : k < l.length) : ixF l sp (k + 1) = (ixF l sp k || !(plB (toAt l k) && plB (frAt l k))) := by
  unfold ixF
  rw [take_mv hk, List.any_append, Bool.or_assoc]
  simp
theorem shF_succ {l : List Mv} {sp : Int} {k : Nat} (hk : k < l.length) : shF l sp (k + 1) = (shF l sp k || (toAt l k == sp || frAt l k == sp)) := by
  unfold shF collB
  rw [take_mv hk, List.any_append]
  simp
theorem hasK_zero (l : List Mv) (x : Int) : hasK l 0 x = false := by simp [hasK]
theorem hasK_succ {l : List Mv} {j : Nat} (hj : j < l.length) (x : Int) : hasK l (j + 1) x = (hasK l j x || toAt l j == x) := by
  unfold hasK
  rw [take_keys hj]
  by_cases h : toAt l j = x
  · subst h; simp
  · have h' : ¬ x = toAt l j := fun e => h e.symm
    simp [h, h']
theorem twF_succ (l : List Mv) (k : Nat) : twF l (k + 1) = (twF l k || hasK l k (toAt l k)) := by
  unfold twF
  rw [List.range_succ, List.any_append]
  simp
theorem twF_nod {l : List Mv} : ∀ k, k ≤ l.length → (twF l k = false ↔ ((keys l).take k).Nodup)
  | 0, _ => by simp [twF]
  | k + 1, hk => by
    rw [twF_succ, Bool.or_eq_false_iff, twF_nod k (by omega)]
    constructor
    · rintro ⟨h1, h2⟩
      exact nod_next (by omega) h1 (by simpa [hasK] using h2)
    · intro h
      rw [take_keys (by omega)] at h
      rw [List.nodup_append] at h
      refine ⟨h.1, ?_⟩
      simp only [hasK, decide_eq_false_iff_not]
      exact fun hm => h.2.2 _ hm _ (by simp) rfl
theorem twF_keys {l : List Mv} : twF l l.length = false ↔ (keys l).Nodup := by
  rw [twF_nod _ (Nat.le_refl _), List.take_of_length_le (by simp [keys])]
theorem bad_ix {l : List Mv} {sp : Int} (hl : l.length ≤ 500) (h : ixF l sp l.length = true) : orderBad l sp = 3 := by
  unfold orderBad
  by_cases hp : plB sp = false
  · rw [if_pos ⟨hl, hp⟩]
  · rw [if_neg (fun q => hp q.2)]
    have ha : ¬ (l.all (fun m => plB m.1 && plB m.2) = true) := by
      intro ha
      unfold ixF at h
      rw [List.take_length] at h
      simp only [Bool.not_eq_false] at hp
      rw [hp] at h
      simp only [Bool.not_true, Bool.false_or, List.any_eq_true] at h
      obtain ⟨p, hm, hq⟩ := h
      rw [List.all_eq_true] at ha
      rw [ha p hm] at hq
      cases hq
    have hm : mayF l = 3 := by unfold mayF; rw [if_neg (by omega), if_neg ha]
    rw [hm]
    rfl
theorem ix_no {l : List Mv} {sp : Int} (h : ixF l sp l.length = false) : plB sp = true ∧ l.all (fun m => plB m.1 && plB m.2) = true := by
  unfold ixF at h
  rw [List.take_length, Bool.or_eq_false_iff] at h
  refine ⟨by simpa using h.1, ?_⟩
  rw [List.all_eq_true]
  intro p hp
  have := h.2
  rw [List.any_eq_false] at this
  simpa using this p hp
theorem may_tw {l : List Mv} {sp : Int} (hl : l.length ≤ 500) (h : ixF l sp l.length = false) : mayF l = if twF l l.length then 5 else 0 := by
  unfold mayF
  rw [if_neg (by omega), if_pos (ix_no h).2]
  by_cases ht : twF l l.length = true
  · have : ¬ (keys l).Nodup := fun hn => by rw [twF_keys.2 hn] at ht; cases ht
    rw [if_neg this, if_pos ht]
  · have : (keys l).Nodup := twF_keys.1 (by simpa using ht)
    rw [if_pos this, if_neg ht]
theorem bad_sh {l : List Mv} {sp : Int} (hl : l.length ≤ 500) (h : ixF l sp l.length = false) : orderBad l sp = if shF l sp l.length || twF l l.length then 5 else 0 := by
  unfold orderBad
  rw [if_neg (fun q => by rw [(ix_no h).1] at q; cases q.2), may_tw hl h]
  unfold shF
  rw [List.take_length]
  cases twF l l.length <;> cases collB l sp <;> rfl
theorem bad_many {l : List Mv} {sp : Int} (hl : 500 < l.length) : orderBad l sp = 1 := by
  have hm : mayF l = 1 := by unfold mayF; rw [if_pos hl]
  unfold orderBad
  rw [if_neg (by omega), hm]
  rfl
theorem cyc_tw {l : List Mv} {sp : Int} (hl : l.length ≤ 500) (h : ixF l sp l.length = false) (ht : twF l l.length = true) : cyclesF l = 0 := by
  unfold cyclesF
  rw [may_tw hl h, ht]
  rfl
end Go.Proofs.YteapnfobcebpfaaDoor
