/-
  What holds of a program that may be: plain Lean.
-/
import Derived.Test.YtcmlfaikdegbfaaGreatDoorPgMay
namespace Go.Proofs.YtcmlfaikdegbfaaGreatDoor
open Go.RowKit Go.Maps

theorem some_ne {k : Nat} {l : List Int} {f : Flt} (h : some_ k l = some f) : f.1 ≠ 0 := by
  unfold some_ at h
  split at h
  · cases h
  · cases h; assumption
theorem firstOf_ex {α : Type} {f : Nat → Option α} {n : Nat} {x : α} (h : firstOf f n = some x) : ∃ j, f j = some x := by
  unfold firstOf at h
  obtain ⟨j, _, hj⟩ := List.exists_of_findSome?_eq_some h
  exact ⟨j, hj⟩
theorem firstOf_all {α : Type} {f : Nat → Option α} {n : Nat} (h : firstOf f n = none) : ∀ j, j < n → f j = none := fun j hj => by
  unfold firstOf at h
  rw [List.findSome?_eq_none_iff] at h
  exact h j (List.mem_range.2 hj)
theorem cls_ne {p : Prg} {j : Nat} {f : Flt} (h : clsBad p j = some f) : f.1 ≠ 0 := some_ne h
theorem mth_ne {p : Prg} {j : Nat} {f : Flt} (h : mthBad p j = some f) : f.1 ≠ 0 := by
  unfold mthBad at h
  simp only at h
  cases h1 : some_ (headBad (p.methods.getD j default) (decide (j = 0))) [(j : Int), -1] with
  | some g =>
    rw [h1] at h
    cases h
    exact some_ne h1
  | none =>
    rw [h1] at h
    obtain ⟨i, hi⟩ := firstOf_ex (by simpa using h)
    exact some_ne hi
/-- A program that may be. -/
structure Fair (p : Prg) : Prop where
  many : ¬ manyP p
  cls : ∀ j, j < p.classes.length → (p.classes.getD j ⟨#[]⟩).size ≤ 10
  head : ∀ j, j < p.methods.length → headBad (p.methods.getD j default) (decide (j = 0)) = 0
  ins : ∀ j, j < p.methods.length → ∀ k, k < (p.methods.getD j default).code.length → insBad p.classes p.methods.length ((p.methods.getD j default).pa.size + (p.methods.getD j default).lo.size) (p.methods.getD j default).code.length ((p.methods.getD j default).code.getD k default) = 0
theorem some_none {k : Nat} {l : List Int} (h : some_ k l = none) : k = 0 := by
  unfold some_ at h
  split at h
  · assumption
  · cases h
theorem fair_of {p : Prg} (h : (mayP p).1 = 0) : Fair p := by
  by_cases hm : manyP p
  · rw [may_many hm] at h; cases h
  · unfold mayP at h
    unfold manyP at hm
    rw [if_neg hm] at h
    cases h1 : firstOf (clsBad p) p.classes.length with
    | some f =>
      rw [h1] at h
      obtain ⟨j, hj⟩ := firstOf_ex h1
      exact absurd (by simpa using h) (cls_ne hj)
    | none =>
      rw [h1] at h
      cases h2 : firstOf (mthBad p) p.methods.length with
      | some f =>
        rw [h2] at h
        obtain ⟨j, hj⟩ := firstOf_ex h2
        exact absurd (by simpa using h) (mth_ne hj)
      | none =>
        have hc := firstOf_all h1
        have hmt := firstOf_all h2
        have hhead : ∀ j, j < p.methods.length → headBad (p.methods.getD j default) (decide (j = 0)) = 0 ∧ firstOf (codeBad p (p.methods.getD j default) j) (p.methods.getD j default).code.length = none := fun j hj => by
          have := hmt j hj
          unfold mthBad at this
          simp only at this
          cases h3 : some_ (headBad (p.methods.getD j default) (decide (j = 0))) [(j : Int), -1] with
          | some g => rw [h3] at this; cases this
          | none =>
            rw [h3] at this
            exact ⟨some_none h3, by simpa using this⟩
        refine ⟨hm, fun j hj => ?_, fun j hj => (hhead j hj).1, fun j hj k hk => ?_⟩
        · have := some_none (hc j hj)
          by_cases hs : 10 < (p.classes.getD j ⟨#[]⟩).size
          · rw [if_pos hs] at this; cases this
          · omega
        · exact some_none (firstOf_all (hhead j hj).2 k hk)
theorem Fair.small {p : Prg} (h : Fair p) {j : Nat} (hj : j < p.methods.length) : (p.methods.getD j default).pa.size + (p.methods.getD j default).lo.size ≤ 12 := head_small (h.head j hj)
end Go.Proofs.YtcmlfaikdegbfaaGreatDoor
