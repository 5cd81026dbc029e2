/-
  The walk of ProgOne.
-/
import Derived.Test.YtcmlfaikdegbfaaDoorPgOneLaw
namespace Go.Proofs.YtcmlfaikdegbfaaDoor
open Go.RowKit Go.Maps

theorem sent_k (k : Nat) (hk : k + 1 ≤ 4) : k + 1 ∈ all14 := mem14.2 (by omega)
theorem one_err (a : Nat → Addr) (w : World) (v : Value) (x : Ins) (h : ErrV a w v (mayP (oneP x))) : (whyF x = 0 ∧ v = .nilIface) ∨ (whyF x ≠ 0 ∧ ErrV a w v ((whyF x - 100).toNat, [1, 1]) ∧ codeOf (whyF x - 100).toNat = whyF x) := by
  have h1 := one_may x
  have h2 := one_why x
  have h3 := insBad_le [sIR, s0] 2 2 2 x
  by_cases e : insBad [sIR, s0] 2 2 2 x = 0
  · rw [if_pos e] at h1 h2
    rw [h1] at h
    cases h
    exact .inl ⟨h2, rfl⟩
  · rw [if_neg e] at h1 h2
    rw [h1] at h
    have e2 : (whyF x - 100).toNat = insBad [sIR, s0] 2 2 2 x := by omega
    exact .inr ⟨by omega, by rw [e2]; exact h, by rw [e2]; unfold codeOf; rw [if_neg e, h2]⟩

set_option maxRecDepth 100000 in
set_option maxHeartbeats 8000000 in
theorem progOne_walk (a : Nat → Addr) (B : Nat) (w : World) (h : Sent w B all14 a) (hB : B ≤ w.heap.size) (op xa xb xn : Int) :
    Calls Tryd.prog 3 #[.int .i64 op, .int .i64 xa, .int .i64 xb, .int .i64 xn] w fun e w' => e = .returned (.bool true) ∧ Below w.heap.size w w' := by
  have hone := fun W => one_any ⟨op, xa, xb, xn⟩ W
  have hmay := fun Ac Am cc cm W hW hB' hr => may_any a B W (h := hW) (hB := hB') Ac Am cc cm (oneP ⟨op, xa, xb, xn⟩) hr (one_ok _)
  have herr := fun W v => one_err a W v ⟨op, xa, xb, xn⟩
  have hF : whyF ⟨op, xa, xb, xn⟩ = if whyS op xa xb = 0 ∧ (uaS op = false ∧ xa ≠ 0 ∨ ubS op = false ∧ xb ≠ 0 ∨ op ≠ 1 ∧ xn ≠ 0) then 103 else whyS op xa xb := rfl
  have hsame := fun W hW hB' v f hv A2 n2 p2 l2 => sameE a B W (h := hW) (hB := hB') (v := v) (f := f) hv (codeOf f.1) A2 n2 p2 l2
  have Hone := Lib.hid hone
  have Hmay := Lib.hid hmay
  have Herr := Lib.hid herr
  have HF := Lib.hid hF
  have Hs := Lib.hid hsame
  clear hone hmay herr hF hsame
  go_enter Tryd.func3, Tryd.ntmps3
  go_wp2_with (go_at_call 7; refine (first_any a B _ h hB).mono ?_; rintro e w0 ⟨rfl, hb0⟩)
  refine (Hone.out _).mono ?_
  rintro e w1 ⟨Ac, Am, rfl, hr1, hb1⟩
  have hw1 := hb0.trans (hb1.mono hb0.size)
  clear hb0 hb1
  go_wp2_with fail
  refine (Hmay.out _ _ _ _ _ ((h.below hw1 hB).below ((Below.refl _ _).alloc (Nat.le_refl _) _) (Nat.le_trans hB hw1.size)) (Nat.le_trans (Nat.le_trans hB hw1.size) (by simp)) ((hr1.below ((Below.refl _ _).alloc (Nat.le_refl _) _) (Nat.le_refl _)).more (by simp))).mono ?_
  rintro e w2 ⟨v, rfl, hv, hb2⟩
  have hw2 := (hw1.alloc hw1.size _).trans (hb2.mono (by simp; have := hw1.size; omega))
  have Hv := Lib.hid (Herr.out _ _ hv)
  clear hv hr1 hb2 hw1
  go_upto_block 0 with (fail)
  go_cut [12, 13, 14] from 24 to 108 (fun v1 v2 v3 wx => v1 = .int .i64 (whyS op xa xb) ∧ v2 = .bool (uaS op) ∧ v3 = .bool (ubS op) ∧ wx = w2)
  case first =>
    by_cases e1 : op < 1
    · have hv := Lib.hid (show whyS op xa xb = 102 by unfold whyS; rw [if_pos (.inl e1)])
      have hu := Lib.hid (show uaS op = false by unfold uaS opsA; simp; omega)
      have hq := Lib.hid (show ubS op = false by unfold ubS; simp; omega)
      have f1 : decide (op < 1) = true := by simp; omega
      clear e1
      go_wp2
      go_meet
      exact ⟨by rw [hv.out], by rw [hu.out], by rw [hq.out], rfl⟩
    · by_cases e35 : 35 < op
      · have hv := Lib.hid (show whyS op xa xb = 102 by unfold whyS; rw [if_pos (.inr e35)])
        have hu := Lib.hid (show uaS op = false by unfold uaS opsA; simp; omega)
        have hq := Lib.hid (show ubS op = false by unfold ubS; simp; omega)
        have f1 : decide (op < 1) = false := by simp; omega
        have f35 : decide (35 < op) = true := by simp; omega
        clear e1 e35
        go_wp2
        go_meet
        exact ⟨by rw [hv.out], by rw [hu.out], by rw [hq.out], rfl⟩
      · have hc : op = 3 ∨ op = 4 ∨ op = 24 ∨ op = 27 ∨ op = 25 ∨ op = 26 ∨ op = 28 ∨ op = 29 ∨ op = 30 ∨ op = 32 ∨ op = 22 ∨ op = 23 ∨ (op ≠ 3 ∧ op ≠ 4 ∧ op ≠ 24 ∧ op ≠ 27 ∧ op ≠ 25 ∧ op ≠ 26 ∧ op ≠ 28 ∧ op ≠ 29 ∧ op ≠ 30 ∧ op ≠ 32 ∧ op ≠ 22 ∧ op ≠ 23) := by omega
        rcases hc with e | e | e | e | e | e | e | e | e | e | e | e | ⟨n1, n2, n3, n4, n5, n6, n7, n8, n9, n10, n11, n12⟩
        · have hv := Lib.hid (show whyS op xa xb = if xa < 0 ∨ 1 < xa then 103 else 0 by unfold whyS; simp [e])
          have hu := Lib.hid (show uaS op = true by rw [e]; rfl)
          have hq := Lib.hid (show ubS op = false by rw [e]; rfl)
          have f1 : decide (op < 1) = false := by simp; omega
          have f35 : decide (35 < op) = false := by simp; omega
          have f3 : (op == 3) = true := by simp; omega
          clear e
          go_wp2
          all_goals
            go_meet
            refine ⟨?_, by rw [hu.out], by rw [hq.out], rfl⟩
            rw [hv.out]; first | rw [if_pos (by omega)] | rw [if_neg (by omega)]
        · have hv := Lib.hid (show whyS op xa xb = if xa < 0 ∨ 1 < xa then 103 else 0 by unfold whyS; simp [e])
          have hu := Lib.hid (show uaS op = true by rw [e]; rfl)
          have hq := Lib.hid (show ubS op = false by rw [e]; rfl)
          have f1 : decide (op < 1) = false := by simp; omega
          have f35 : decide (35 < op) = false := by simp; omega
          have f3 : (op == 3) = false := by simp; omega
          have f4 : (op == 4) = true := by simp; omega
          clear e
          go_wp2
          all_goals
            go_meet
            refine ⟨?_, by rw [hu.out], by rw [hq.out], rfl⟩
            rw [hv.out]; first | rw [if_pos (by omega)] | rw [if_neg (by omega)]
        · have hv := Lib.hid (show whyS op xa xb = if xa < 0 ∨ 1 < xa then 103 else 0 by unfold whyS; simp [e])
          have hu := Lib.hid (show uaS op = true by rw [e]; rfl)
          have hq := Lib.hid (show ubS op = false by rw [e]; rfl)
          have f1 : decide (op < 1) = false := by simp; omega
          have f35 : decide (35 < op) = false := by simp; omega
          have f3 : (op == 3) = false := by simp; omega
          have f4 : (op == 4) = false := by simp; omega
          have f24 : (op == 24) = true := by simp; omega
          clear e
          go_wp2
          all_goals
            go_meet
            refine ⟨?_, by rw [hu.out], by rw [hq.out], rfl⟩
            rw [hv.out]; first | rw [if_pos (by omega)] | rw [if_neg (by omega)]
        · have hv := Lib.hid (show whyS op xa xb = if xa < 0 ∨ 1 < xa then 103 else 0 by unfold whyS; simp [e])
          have hu := Lib.hid (show uaS op = true by rw [e]; rfl)
          have hq := Lib.hid (show ubS op = false by rw [e]; rfl)
          have f1 : decide (op < 1) = false := by simp; omega
          have f35 : decide (35 < op) = false := by simp; omega
          have f3 : (op == 3) = false := by simp; omega
          have f4 : (op == 4) = false := by simp; omega
          have f24 : (op == 24) = false := by simp; omega
          have f27 : (op == 27) = true := by simp; omega
          clear e
          go_wp2
          all_goals
            go_meet
            refine ⟨?_, by rw [hu.out], by rw [hq.out], rfl⟩
            rw [hv.out]; first | rw [if_pos (by omega)] | rw [if_neg (by omega)]
        · have hv := Lib.hid (show whyS op xa xb = if xa ≠ 0 ∨ xb < 0 ∨ 1 < xb then 103 else 0 by unfold whyS; simp [e])
          have hu := Lib.hid (show uaS op = true by rw [e]; rfl)
          have hq := Lib.hid (show ubS op = true by rw [e]; rfl)
          have f1 : decide (op < 1) = false := by simp; omega
          have f35 : decide (35 < op) = false := by simp; omega
          have f3 : (op == 3) = false := by simp; omega
          have f4 : (op == 4) = false := by simp; omega
          have f24 : (op == 24) = false := by simp; omega
          have f27 : (op == 27) = false := by simp; omega
          have f25 : (op == 25) = true := by simp; omega
          clear e
          by_cases ha : xa = 0
          · have g0 : (xa != 0) = false := by simp [ha]
            have Ha := Lib.hid ha
            clear ha
            go_wp2
            all_goals
              go_meet
              refine ⟨?_, by rw [hu.out], by rw [hq.out], rfl⟩
              have hA := Ha.out
              rw [hv.out]; first | rw [if_pos (by omega)] | rw [if_neg (by omega)]
          · have g0 : (xa != 0) = true := by simp [ha]
            have Ha := Lib.hid ha
            clear ha
            go_wp2
            all_goals
              go_meet
              refine ⟨?_, by rw [hu.out], by rw [hq.out], rfl⟩
              have hA := Ha.out
              rw [hv.out]; first | rw [if_pos (by omega)] | rw [if_neg (by omega)]
        · have hv := Lib.hid (show whyS op xa xb = if xa ≠ 0 ∨ xb < 0 ∨ 1 < xb then 103 else 0 by unfold whyS; simp [e])
          have hu := Lib.hid (show uaS op = true by rw [e]; rfl)
          have hq := Lib.hid (show ubS op = true by rw [e]; rfl)
          have f1 : decide (op < 1) = false := by simp; omega
          have f35 : decide (35 < op) = false := by simp; omega
          have f3 : (op == 3) = false := by simp; omega
          have f4 : (op == 4) = false := by simp; omega
          have f24 : (op == 24) = false := by simp; omega
          have f27 : (op == 27) = false := by simp; omega
          have f25 : (op == 25) = false := by simp; omega
          have f26 : (op == 26) = true := by simp; omega
          clear e
          by_cases ha : xa = 0
          · have g0 : (xa != 0) = false := by simp [ha]
            have Ha := Lib.hid ha
            clear ha
            go_wp2
            all_goals
              go_meet
              refine ⟨?_, by rw [hu.out], by rw [hq.out], rfl⟩
              have hA := Ha.out
              rw [hv.out]; first | rw [if_pos (by omega)] | rw [if_neg (by omega)]
          · have g0 : (xa != 0) = true := by simp [ha]
            have Ha := Lib.hid ha
            clear ha
            go_wp2
            all_goals
              go_meet
              refine ⟨?_, by rw [hu.out], by rw [hq.out], rfl⟩
              have hA := Ha.out
              rw [hv.out]; first | rw [if_pos (by omega)] | rw [if_neg (by omega)]
        · have hv := Lib.hid (show whyS op xa xb = if xa ≠ 0 ∧ xa ≠ 1 then 103 else 0 by unfold whyS; simp [e])
          have hu := Lib.hid (show uaS op = true by rw [e]; rfl)
          have hq := Lib.hid (show ubS op = false by rw [e]; rfl)
          have f1 : decide (op < 1) = false := by simp; omega
          have f35 : decide (35 < op) = false := by simp; omega
          have f3 : (op == 3) = false := by simp; omega
          have f4 : (op == 4) = false := by simp; omega
          have f24 : (op == 24) = false := by simp; omega
          have f27 : (op == 27) = false := by simp; omega
          have f25 : (op == 25) = false := by simp; omega
          have f26 : (op == 26) = false := by simp; omega
          have f28 : (op == 28) = true := by simp; omega
          clear e
          by_cases ha : xa = 0
          · have g0 : (xa != 0) = false := by simp [ha]
            have Ha := Lib.hid ha
            clear ha
            go_wp2
            all_goals
              go_meet
              refine ⟨?_, by rw [hu.out], by rw [hq.out], rfl⟩
              have hA := Ha.out
              rw [hv.out]; first | rw [if_pos (by omega)] | rw [if_neg (by omega)]
          · by_cases hb : xa = 1
            · have g0 : (xa != 0) = true := by simp [ha]
              have g1 : (xa != 1) = false := by simp [hb]
              have Ha := Lib.hid hb
              clear ha hb
              go_wp2
              all_goals
                go_meet
                refine ⟨?_, by rw [hu.out], by rw [hq.out], rfl⟩
                have hA := Ha.out
                rw [hv.out]; first | rw [if_pos (by omega)] | rw [if_neg (by omega)]
            · have g0 : (xa != 0) = true := by simp [ha]
              have g1 : (xa != 1) = true := by simp [hb]
              have Ha := Lib.hid (And.intro ha hb)
              clear ha hb
              go_wp2
              all_goals
                go_meet
                refine ⟨?_, by rw [hu.out], by rw [hq.out], rfl⟩
                have hA := Ha.out
                rw [hv.out]; first | rw [if_pos (by omega)] | rw [if_neg (by omega)]
        · have hv := Lib.hid (show whyS op xa xb = if xa ≠ 0 ∧ xa ≠ 1 then 103 else 0 by unfold whyS; simp [e])
          have hu := Lib.hid (show uaS op = true by rw [e]; rfl)
          have hq := Lib.hid (show ubS op = false by rw [e]; rfl)
          have f1 : decide (op < 1) = false := by simp; omega
          have f35 : decide (35 < op) = false := by simp; omega
          have f3 : (op == 3) = false := by simp; omega
          have f4 : (op == 4) = false := by simp; omega
          have f24 : (op == 24) = false := by simp; omega
          have f27 : (op == 27) = false := by simp; omega
          have f25 : (op == 25) = false := by simp; omega
          have f26 : (op == 26) = false := by simp; omega
          have f28 : (op == 28) = false := by simp; omega
          have f29 : (op == 29) = true := by simp; omega
          clear e
          by_cases ha : xa = 0
          · have g0 : (xa != 0) = false := by simp [ha]
            have Ha := Lib.hid ha
            clear ha
            go_wp2
            all_goals
              go_meet
              refine ⟨?_, by rw [hu.out], by rw [hq.out], rfl⟩
              have hA := Ha.out
              rw [hv.out]; first | rw [if_pos (by omega)] | rw [if_neg (by omega)]
          · by_cases hb : xa = 1
            · have g0 : (xa != 0) = true := by simp [ha]
              have g1 : (xa != 1) = false := by simp [hb]
              have Ha := Lib.hid hb
              clear ha hb
              go_wp2
              all_goals
                go_meet
                refine ⟨?_, by rw [hu.out], by rw [hq.out], rfl⟩
                have hA := Ha.out
                rw [hv.out]; first | rw [if_pos (by omega)] | rw [if_neg (by omega)]
            · have g0 : (xa != 0) = true := by simp [ha]
              have g1 : (xa != 1) = true := by simp [hb]
              have Ha := Lib.hid (And.intro ha hb)
              clear ha hb
              go_wp2
              all_goals
                go_meet
                refine ⟨?_, by rw [hu.out], by rw [hq.out], rfl⟩
                have hA := Ha.out
                rw [hv.out]; first | rw [if_pos (by omega)] | rw [if_neg (by omega)]
        · have hv := Lib.hid (show whyS op xa xb = if xa ≠ 0 ∧ xa ≠ 1 then 103 else 0 by unfold whyS; simp [e])
          have hu := Lib.hid (show uaS op = true by rw [e]; rfl)
          have hq := Lib.hid (show ubS op = false by rw [e]; rfl)
          have f1 : decide (op < 1) = false := by simp; omega
          have f35 : decide (35 < op) = false := by simp; omega
          have f3 : (op == 3) = false := by simp; omega
          have f4 : (op == 4) = false := by simp; omega
          have f24 : (op == 24) = false := by simp; omega
          have f27 : (op == 27) = false := by simp; omega
          have f25 : (op == 25) = false := by simp; omega
          have f26 : (op == 26) = false := by simp; omega
          have f28 : (op == 28) = false := by simp; omega
          have f29 : (op == 29) = false := by simp; omega
          have f30 : (op == 30) = true := by simp; omega
          clear e
          by_cases ha : xa = 0
          · have g0 : (xa != 0) = false := by simp [ha]
            have Ha := Lib.hid ha
            clear ha
            go_wp2
            all_goals
              go_meet
              refine ⟨?_, by rw [hu.out], by rw [hq.out], rfl⟩
              have hA := Ha.out
              rw [hv.out]; first | rw [if_pos (by omega)] | rw [if_neg (by omega)]
          · by_cases hb : xa = 1
            · have g0 : (xa != 0) = true := by simp [ha]
              have g1 : (xa != 1) = false := by simp [hb]
              have Ha := Lib.hid hb
              clear ha hb
              go_wp2
              all_goals
                go_meet
                refine ⟨?_, by rw [hu.out], by rw [hq.out], rfl⟩
                have hA := Ha.out
                rw [hv.out]; first | rw [if_pos (by omega)] | rw [if_neg (by omega)]
            · have g0 : (xa != 0) = true := by simp [ha]
              have g1 : (xa != 1) = true := by simp [hb]
              have Ha := Lib.hid (And.intro ha hb)
              clear ha hb
              go_wp2
              all_goals
                go_meet
                refine ⟨?_, by rw [hu.out], by rw [hq.out], rfl⟩
                have hA := Ha.out
                rw [hv.out]; first | rw [if_pos (by omega)] | rw [if_neg (by omega)]
        · have hv := Lib.hid (show whyS op xa xb = if xa ≠ 1 then 103 else 0 by unfold whyS; simp [e])
          have hu := Lib.hid (show uaS op = true by rw [e]; rfl)
          have hq := Lib.hid (show ubS op = false by rw [e]; rfl)
          have f1 : decide (op < 1) = false := by simp; omega
          have f35 : decide (35 < op) = false := by simp; omega
          have f3 : (op == 3) = false := by simp; omega
          have f4 : (op == 4) = false := by simp; omega
          have f24 : (op == 24) = false := by simp; omega
          have f27 : (op == 27) = false := by simp; omega
          have f25 : (op == 25) = false := by simp; omega
          have f26 : (op == 26) = false := by simp; omega
          have f28 : (op == 28) = false := by simp; omega
          have f29 : (op == 29) = false := by simp; omega
          have f30 : (op == 30) = false := by simp; omega
          have f32 : (op == 32) = true := by simp; omega
          clear e
          by_cases ha : xa = 1
          · have g0 : (xa != 1) = false := by simp [ha]
            have Ha := Lib.hid ha
            clear ha
            go_wp2
            all_goals
              go_meet
              refine ⟨?_, by rw [hu.out], by rw [hq.out], rfl⟩
              have hA := Ha.out
              rw [hv.out]; first | rw [if_pos (by omega)] | rw [if_neg (by omega)]
          · have g0 : (xa != 1) = true := by simp [ha]
            have Ha := Lib.hid ha
            clear ha
            go_wp2
            all_goals
              go_meet
              refine ⟨?_, by rw [hu.out], by rw [hq.out], rfl⟩
              have hA := Ha.out
              rw [hv.out]; first | rw [if_pos (by omega)] | rw [if_neg (by omega)]
        · have hv := Lib.hid (show whyS op xa xb = if xa < 0 ∨ 1 < xa then 104 else 0 by unfold whyS; simp [e])
          have hu := Lib.hid (show uaS op = true by rw [e]; rfl)
          have hq := Lib.hid (show ubS op = false by rw [e]; rfl)
          have f1 : decide (op < 1) = false := by simp; omega
          have f35 : decide (35 < op) = false := by simp; omega
          have f3 : (op == 3) = false := by simp; omega
          have f4 : (op == 4) = false := by simp; omega
          have f24 : (op == 24) = false := by simp; omega
          have f27 : (op == 27) = false := by simp; omega
          have f25 : (op == 25) = false := by simp; omega
          have f26 : (op == 26) = false := by simp; omega
          have f28 : (op == 28) = false := by simp; omega
          have f29 : (op == 29) = false := by simp; omega
          have f30 : (op == 30) = false := by simp; omega
          have f32 : (op == 32) = false := by simp; omega
          have f22 : (op == 22) = true := by simp; omega
          clear e
          go_wp2
          all_goals
            go_meet
            refine ⟨?_, by rw [hu.out], by rw [hq.out], rfl⟩
            rw [hv.out]; first | rw [if_pos (by omega)] | rw [if_neg (by omega)]
        · have hv := Lib.hid (show whyS op xa xb = if xa < 0 ∨ 1 < xa then 104 else 0 by unfold whyS; simp [e])
          have hu := Lib.hid (show uaS op = true by rw [e]; rfl)
          have hq := Lib.hid (show ubS op = false by rw [e]; rfl)
          have f1 : decide (op < 1) = false := by simp; omega
          have f35 : decide (35 < op) = false := by simp; omega
          have f3 : (op == 3) = false := by simp; omega
          have f4 : (op == 4) = false := by simp; omega
          have f24 : (op == 24) = false := by simp; omega
          have f27 : (op == 27) = false := by simp; omega
          have f25 : (op == 25) = false := by simp; omega
          have f26 : (op == 26) = false := by simp; omega
          have f28 : (op == 28) = false := by simp; omega
          have f29 : (op == 29) = false := by simp; omega
          have f30 : (op == 30) = false := by simp; omega
          have f32 : (op == 32) = false := by simp; omega
          have f22 : (op == 22) = false := by simp; omega
          have f23 : (op == 23) = true := by simp; omega
          clear e
          go_wp2
          all_goals
            go_meet
            refine ⟨?_, by rw [hu.out], by rw [hq.out], rfl⟩
            rw [hv.out]; first | rw [if_pos (by omega)] | rw [if_neg (by omega)]
        · have hv := Lib.hid (show whyS op xa xb = 0 by unfold whyS; simp [*])
          have hu := Lib.hid (show uaS op = false by unfold uaS opsA; simp [*])
          have hq := Lib.hid (show ubS op = false by unfold ubS; simp [*])
          have f1 : decide (op < 1) = false := by simp; omega
          have f35 : decide (35 < op) = false := by simp; omega
          have f3 : (op == 3) = false := by simp; omega
          have f4 : (op == 4) = false := by simp; omega
          have f24 : (op == 24) = false := by simp; omega
          have f27 : (op == 27) = false := by simp; omega
          have f25 : (op == 25) = false := by simp; omega
          have f26 : (op == 26) = false := by simp; omega
          have f28 : (op == 28) = false := by simp; omega
          have f29 : (op == 29) = false := by simp; omega
          have f30 : (op == 30) = false := by simp; omega
          have f32 : (op == 32) = false := by simp; omega
          have f22 : (op == 22) = false := by simp; omega
          have f23 : (op == 23) = false := by simp; omega
          clear n1 n2 n3 n4 n5 n6 n7 n8 n9 n10 n11 n12
          go_wp2
          go_meet
          exact ⟨by rw [hv.out], by rw [hu.out], by rw [hq.out], rfl⟩
  case rest =>
    obtain ⟨rfl, rfl, rfl, hwx⟩ := hcut
    subst hwx
    obtain ⟨na, hna⟩ : ∃ na, (xa != 0) = na := ⟨_, rfl⟩
    obtain ⟨nb, hnb⟩ : ∃ nb, (xb != 0) = nb := ⟨_, rfl⟩
    obtain ⟨n1, hn1⟩ : ∃ n1, (op != 1) = n1 := ⟨_, rfl⟩
    obtain ⟨nn, hnn⟩ : ∃ nn, (xn != 0) = nn := ⟨_, rfl⟩
    have hF2 := HF.out
    have hG : whyF ⟨op, xa, xb, xn⟩ = if (whyS op xa xb == 0) && (!uaS op && na || (!ubS op && nb || n1 && nn)) then 103 else whyS op xa xb := by
      rw [hF2, ← hna, ← hnb, ← hn1, ← hnn]
      congr 1
      simp
    have HG := Lib.hid hG
    clear hF2 hG HF
    generalize whyF ⟨op, xa, xb, xn⟩ = wf at *
    generalize uaS op = ua at *
    generalize ubS op = ub at *
    obtain ⟨wz, hwz⟩ : ∃ wz, (whyS op xa xb == 0) = wz := ⟨_, rfl⟩
    have HG2 := Lib.hid (show wf = if wz && (!ua && na || (!ub && nb || n1 && nn)) then 103 else whyS op xa xb by rw [HG.out, hwz])
    generalize whyS op xa xb = ws at *
    clear HG
    go_upto_region 33 with (fail)
    go_cut [134] from 109 to 134 (fun v1 wx => v1 = .bool (wz && (!ua && na || (!ub && nb || n1 && nn))) ∧ wx = wc)
    case first =>
      cases ua <;> cases ub
      all_goals
        go_wp2
        all_goals
          go_meet
          exact ⟨congrArg Value.bool (by simp [*]), rfl⟩
    case rest =>
      obtain ⟨rfl, hwx⟩ := hcut
      generalize (wz && (!ua && na || (!ub && nb || n1 && nn))) = z at *
      have hw3 : Below w.heap.size w wc := by rw [hwx]; exact hw2
      rw [← hwx] at Hv hw2
      clear hwx hna hnb hn1 hnn hwz
      rcases Hv.out with ⟨hw0, rfl⟩ | ⟨hw0, hev, hco⟩
      · have hz : z = false := by
          cases z with
          | false => rfl
          | true => have := HG2.out; simp at this; omega
        subst hz
        have hs0 : ws = 0 := by have := HG2.out; simp at this; omega
        subst hs0
        clear HG2 hw0
        go_wp2
        go_ret
        exact ⟨rfl, hw3⟩
      · have Hco := Lib.hid hco
        have Hw0 := Lib.hid hw0
        clear hco hw0 Hv
        cases z with
        | true =>
          obtain rfl : wf = 103 := by have := HG2.out; simpa using this
          clear HG2
          go_wp2_with fail
          refine (there_any 103 1 1 _).mono ?_
          rintro e w4 ⟨g, rfl, hg, hb4⟩
          have hw4 := hw3.trans (hb4.mono hw3.size)
          have hs := Hs.out w4 (h.below hw4 hB) (Nat.le_trans hB hw4.size) v _ (hev.below hb4) (some ⟨g, 0, none⟩) 2 2 [1, 1] (Blk.rd (xs := ints [1, 1]) hg rfl hg.lt)
          rw [Hco.out] at hs
          have Hs2 := Lib.hid hs
          clear hs hev
          go_wp2_with fail
          refine (Hs2.out).mono ?_
          rintro e w5 ⟨rfl, hb5⟩
          go_wp2
          go_ret
          exact ⟨by simp, hw4.trans (hb5.mono hw4.size)⟩
        | false =>
          obtain rfl : wf = ws := by have := HG2.out; simpa using this
          have f0 : (wf == 0) = false := by simpa using Hw0.out
          clear HG2
          go_wp2_with fail
          refine (there_any wf 1 1 _).mono ?_
          rintro e w4 ⟨g, rfl, hg, hb4⟩
          have hw4 := hw3.trans (hb4.mono hw3.size)
          have hs := Hs.out w4 (h.below hw4 hB) (Nat.le_trans hB hw4.size) v _ (hev.below hb4) (some ⟨g, 0, none⟩) 2 2 [1, 1] (Blk.rd (xs := ints [1, 1]) hg rfl hg.lt)
          rw [Hco.out] at hs
          have Hs2 := Lib.hid hs
          clear hs hev
          go_wp2_with fail
          refine (Hs2.out).mono ?_
          rintro e w5 ⟨rfl, hb5⟩
          go_wp2
          go_ret
          exact ⟨by simp, hw4.trans (hb5.mono hw4.size)⟩
end Go.Proofs.YtcmlfaikdegbfaaDoor
