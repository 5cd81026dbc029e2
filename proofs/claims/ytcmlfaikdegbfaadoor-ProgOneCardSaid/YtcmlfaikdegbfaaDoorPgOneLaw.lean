/-
  The plain law of ProgOne: why an instruction may not be.
-/
import Derived.Test.YtcmlfaikdegbfaaDoorPgFirst
namespace Go.Proofs.YtcmlfaikdegbfaaDoor
open Go.RowKit Go.Maps

/-- Why, by the statement's own cases, and which fields are used. -/
def whyS (op a b : Int) : Int :=
  if op < 1 ∨ 35 < op then 102
  else if op = 3 ∨ op = 4 then (if a < 0 ∨ 1 < a then 103 else 0)
  else if op = 24 ∨ op = 27 then (if a < 0 ∨ 1 < a then 103 else 0)
  else if op = 25 ∨ op = 26 then (if a ≠ 0 ∨ b < 0 ∨ 1 < b then 103 else 0)
  else if op = 28 ∨ op = 29 ∨ op = 30 then (if a ≠ 0 ∧ a ≠ 1 then 103 else 0)
  else if op = 32 then (if a ≠ 1 then 103 else 0)
  else if op = 22 ∨ op = 23 then (if a < 0 ∨ 1 < a then 104 else 0)
  else 0
def uaS (op : Int) : Bool := decide (op ∈ opsA)
def ubS (op : Int) : Bool := decide (op = 25 ∨ op = 26)
def whyF (x : Ins) : Int := if whyS x.op x.a x.b = 0 ∧ (uaS x.op = false ∧ x.a ≠ 0 ∨ ubS x.op = false ∧ x.b ≠ 0 ∨ x.op ≠ 1 ∧ x.n ≠ 0) then 103 else whyS x.op x.a x.b

theorem one_cls (x : Ins) : ∀ j, j < (oneP x).classes.length → clsBad (oneP x) j = none := by
  intro j hj
  have : j = 0 ∨ j = 1 := by simp [oneP] at hj; omega
  rcases this with rfl | rfl <;> rfl
theorem hd_0 : headBad ⟨s0, s0, s0, [retI]⟩ true = 0 := by decide +kernel
theorem hd_1 : ∀ l : List Ins, l.length = 2 → headBad ⟨strI, strR, s0, l⟩ false = 0 := by
  intro l hl
  have h : headBad ⟨strI, strR, s0, [retI, retI]⟩ false = 0 := by decide +kernel
  unfold headBad at h ⊢
  simpa [hl] using h
theorem one_m0 (x : Ins) : mthBad (oneP x) 0 = none := mth_ok (p := oneP x) (k := 0) hd_0 (fun j hj => by
  obtain rfl : j = 0 := by simp [oneP] at hj; omega
  rfl)
theorem one_h1 (x : Ins) : headBad ((oneP x).methods.getD 1 default) (decide (1 = 0)) = 0 := hd_1 _ rfl
theorem one_c0 (x : Ins) : codeBad (oneP x) ((oneP x).methods.getD 1 default) 1 0 = none := rfl
theorem one_c1 (x : Ins) : codeBad (oneP x) ((oneP x).methods.getD 1 default) 1 1 = some_ (insBad [sIR, s0] 2 2 2 x) [1, 1] := rfl
theorem one_many (x : Ins) : ¬ manyP (oneP x) := by simp [manyP, oneP]
theorem one_may (x : Ins) : mayP (oneP x) = if insBad [sIR, s0] 2 2 2 x = 0 then (0, []) else (insBad [sIR, s0] 2 2 2 x, [1, 1]) := by
  by_cases h : insBad [sIR, s0] 2 2 2 x = 0
  · rw [if_pos h]
    refine may_ok (one_many x) (one_cls x) (fun j hj => ?_)
    have : j = 0 ∨ j = 1 := by simp [oneP] at hj; omega
    rcases this with rfl | rfl
    · exact one_m0 x
    · refine mth_ok (one_h1 x) (fun k hk => ?_)
      have : k = 0 ∨ k = 1 := by simp [oneP] at hk; omega
      rcases this with rfl | rfl
      · exact one_c0 x
      · rw [one_c1, h]; rfl
  · rw [if_neg h]
    refine may_mth (one_many x) (one_cls x) (k := 1) (by simp [oneP]) (fun j hj => ?_) (mth_code (one_h1 x) (pc := 1) (by simp [oneP]) (fun j hj => ?_) ?_)
    · obtain rfl : j = 0 := by omega
      exact one_m0 x
    · obtain rfl : j = 0 := by omega
      exact one_c0 x
    · rw [one_c1]
      unfold some_
      rw [if_neg h]
theorem one_why (x : Ins) : whyF x = if insBad [sIR, s0] 2 2 2 x = 0 then 0 else 100 + (insBad [sIR, s0] 2 2 2 x : Int) := by
  by_cases h1 : 1 ≤ x.op ∧ x.op ≤ 35
  · rw [insBad_eq _ _ _ _ _ h1.1 h1.2]
    obtain ⟨op, xa, xb, xn⟩ := x
    simp only at h1
    have hc : op = 3 ∨ op = 4 ∨ op = 22 ∨ op = 23 ∨ op = 24 ∨ op = 25 ∨ op = 26 ∨ op = 27 ∨ op = 28 ∨ op = 29 ∨ op = 30 ∨ op = 32 ∨ (op ≠ 3 ∧ op ≠ 4 ∧ op ≠ 22 ∧ op ≠ 23 ∧ op ≠ 24 ∧ op ≠ 25 ∧ op ≠ 26 ∧ op ≠ 27 ∧ op ≠ 28 ∧ op ≠ 29 ∧ op ≠ 30 ∧ op ≠ 32) := by omega
    unfold whyF whyS tgtB thereB wantB uaS ubS usesA usesB opsA inB
    rcases hc with rfl | rfl | rfl | rfl | rfl | rfl | rfl | rfl | rfl | rfl | rfl | rfl | ⟨n1, n2, n3, n4, n5, n6, n7, n8, n9, n10, n11, n12⟩
    all_goals simp [*]
    all_goals
      have hs0 : xa = 0 → (([sIR, s0][xa.toNat]?.getD ⟨#[]⟩).size = 2) := fun e => by subst e; rfl
      have hs1 : xa = 1 → (([sIR, s0][xa.toNat]?.getD ⟨#[]⟩).size = 0) := fun e => by subst e; rfl
      generalize ([sIR, s0][xa.toNat]?.getD ⟨#[]⟩).size = z at *
      (repeat' split) <;> first | omega | (simp at *; omega)
  · have hh : insBad [sIR, s0] 2 2 2 x = 2 := by unfold insBad; rw [if_pos (by omega)]
    have hw : whyS x.op x.a x.b = 102 := by unfold whyS; rw [if_pos (by omega)]
    unfold whyF
    rw [hh, hw, if_neg (by omega)]
    rfl
end Go.Proofs.YtcmlfaikdegbfaaDoor
