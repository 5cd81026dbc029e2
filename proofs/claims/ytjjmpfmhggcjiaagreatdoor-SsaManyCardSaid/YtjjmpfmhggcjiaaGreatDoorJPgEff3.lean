/-
 PgEff3.
-/
import Derived.IntWalk
import Derived.Test.YtjjmpfmhggcjiaaGreatDoorJPgEff2
import Derived.Test.YtjjmpfmhggcjiaaGreatDoorJPgRefIns
set_option linter.unusedSimpArgs false
set_option linter.unusedVariables false
namespace Go.Proofs.YtjjmpfmhggcjiaaGreatDoor
open Go.RowKit Go.Maps
theorem relem_any (i : Int) (w : World) (hi : inB i 2 = true) : Calls Tryz.prog 123 #[.int .i64 i] w fun e w' => e = .returned (.string (atB sIRs i)) ∧ w = w' := by
 have h := in_true hi
 have : i = 0 ∨ i = 1 := by omega
 rcases this with rfl | rfl
 · have H := Lib.hid (show atB sIRs 0 = sI from by decide +kernel)
   go_enter Tryz.func123, Tryz.ntmps123
   go_wp2
   go_ret
   exact ⟨ret_str (by rw [H.out]; rfl), rfl⟩
 · have H := Lib.hid (show atB sIRs 1 = sR from by decide +kernel)
   go_enter Tryz.func123, Tryz.ntmps123
   go_wp2
   go_ret
   exact ⟨ret_str (by rw [H.out]; rfl), rfl⟩
theorem methodF_at {p : Prg} {k : Nat} (hk : k < p.methods.length) : methodF p k = p.methods.getD k default := by
 unfold methodF
 rw [if_pos (by simp [inB]; omega)]
 simp
theorem atB_at {s : ByteArray} {k : Nat} (hk : k < s.size) : atB s k = s.extract k (k + 1) := by
 unfold atB
 rw [if_pos (by simp [inB]; omega)]
 simp
theorem fieldF_at {p : Prg} {k j : Nat} (hk : k < p.classes.length) (hj : j < (p.classes.getD k ⟨#[]⟩).size) : fieldF p k j = (p.classes.getD k ⟨#[]⟩).extract j (j + 1) := by
 unfold fieldF
 rw [if_pos (by simp [inB]; omega)]
 simp only [Int.toNat_natCast]
 exact atB_at hj
set_option maxRecDepth 100000 in
set_option maxHeartbeats 8000000 in
theorem reffect_any (Ac Am : Option Addr) (cc cm : Nat) (p : Prg) (x : Ins) (m : Nat) (w : World) (hr : RdP w w.heap.size Ac Am p) (hp : POk p) (hm : m < p.methods.length) (mine : Mth) (hmine : p.methods.getD m default = mine) (hk : mine.pa.size + mine.lo.size ≤ 1000)
 (hv : insBad p.classes p.methods.length (mine.pa.size + mine.lo.size) mine.code.length x = 0) :
 Calls Tryz.prog 155 #[pv Ac cc Am cm p, .int .i64 m, iv x] w (EffPost w (effF p mine x)) := by
 obtain ⟨op, xa, xb, xn⟩ := x
 have hth : ∀ _ : 1 ≤ op ∧ op ≤ 35, thereB p.classes p.methods.length (mine.pa.size + mine.lo.size) ⟨op, xa, xb, xn⟩ = true := fun h => by
  have hv2 := hv
  rw [insBad_eq _ _ _ _ _ h.1 h.2] at hv2
  cases hth : thereB p.classes p.methods.length (mine.pa.size + mine.lo.size) ⟨op, xa, xb, xn⟩ with
  | true => rfl
  | false =>
    rw [hth] at hv2
    simp at hv2
    split at hv2 <;> omega
 have Hth := Lib.hid hth
 clear hth hv
 have hPP : ∀ f w', effF p mine ⟨op, xa, xb, xn⟩ = f → Below w.heap.size w w' → EffPost w (effF p mine ⟨op, xa, xb, xn⟩) (.returned (.tuple #[.string f.1, .string f.2.1, .bool f.2.2])) w' := fun f w' e h => by rw [e]; exact ⟨rfl, h⟩
 have HP := Lib.hid hPP
 clear hPP
 generalize EffPost w (effF p mine ⟨op, xa, xb, xn⟩) = Post at *
 have hms := hp.ms
 have hw2 : Below w.heap.size w ((w.alloc (.cells #[.slice Ac p.classes.length cc, .slice Am p.methods.length cm] 25)).alloc (.cells #[.int .i64 op, .int .i64 xa, .int .i64 xb, .int .i64 xn] 118)) := ((Below.refl _ _).alloc (Nat.le_refl _) _).alloc (by simp) _
 have hbp := (Blk.new w 25 #[.slice Ac p.classes.length cc, .slice Am p.methods.length cm]).alloc (.cells #[.int .i64 op, .int .i64 xa, .int .i64 xb, .int .i64 xn] 118)
 have hbx := Blk.newAt (w := w.alloc (.cells #[.slice Ac p.classes.length cc, .slice Am p.methods.length cm] 25)) (g := w.heap.size + 1) (by simp) 118 #[.int .i64 op, .int .i64 xa, .int .i64 xb, .int .i64 xn]
 obtain ⟨b, off, Ai, ci, rfl, hbb, y0, y1, y2, y3, _⟩ := mth_at (hr.ms.below hw2 (Nat.le_refl _)) hm
 rw [hmine] at y0 y1 y2 y3
 have k0 : (0 : Int) ≤ m := by omega
 have k1 : (m : Int) < p.methods.length := by omega
 go_enter Tryz.func155, Tryz.ntmps155
 go_wp2_with fail
 refine (rkinds_any _ _ _ _ hk).mono ?_
 rintro e w3 ⟨rfl, hb3⟩
 have hw1 := hw2.trans (hb3.mono hw2.size)
 have dP := hbp.below hb3 hbp.lt
 have dX := hbx.below hb3 hbx.lt
 clear hbp hbx hb3 y0 y1 y2 y3 hw2
 go_upto_region 2 with (fail)
 have p0 := dP.at0
 have p1 := dP.at1
 have i0 := dX.at0
 have i1 := dX.at1
 have i2 := dX.at2
 have i3 := dX.at3
 have lP := dP.lt
 have lX := dX.lt
 have hz := hw1.size
 have hrc := Lib.hid (hr.cl.below hw1 (Nat.le_refl _))
 have hrm := Lib.hid (hr.ms.below hw1 (Nat.le_refl _))
 have hcl := hp.cl
 obtain ⟨ks, hks⟩ : ∃ ks, mine.pa ++ mine.lo = ks := ⟨_, rfl⟩
 have hkz : ks.size = mine.pa.size + mine.lo.size := by rw [← hks, ByteArray.size_append]
 rw [hks]
 have Hks := Lib.hid hks
 clear hr hks
 by_cases hA : 8 ≤ op ∧ op ≤ 20 ∧ op ≠ 18
 · have Hf := Lib.hid (show effF p mine ⟨op, xa, xb, xn⟩ = (sII, sI, true) by unfold effF; rw [if_pos hA])
   obtain ⟨a1, a2, a3⟩ := hA
   have g1 : decide (8 ≤ op) = true := by simpa using a1
   have g2 : decide (op ≤ 20) = true := by simpa using a2
   have q1 : (op == 1) = false := by simp; omega
   have q2 : (op == 2) = false := by simp; omega
   have q3 : (op == 3) = false := by simp; omega
   have q4 : (op == 4) = false := by simp; omega
   have q18 : (op == 18) = false := by simp; omega
   have q21 : (op == 21) = false := by simp; omega
   have q22 : (op == 22) = false := by simp; omega
   have q23 : (op == 23) = false := by simp; omega
   have q24 : (op == 24) = false := by simp; omega
   have q25 : (op == 25) = false := by simp; omega
   have q26 : (op == 26) = false := by simp; omega
   have q27 : (op == 27) = false := by simp; omega
   have q28 : (op == 28) = false := by simp; omega
   have q29 : (op == 29) = false := by simp; omega
   have q30 : (op == 30) = false := by simp; omega
   have q31 : (op == 31) = false := by simp; omega
   have q32 : (op == 32) = false := by simp; omega
   have q33 : (op == 33) = false := by simp; omega
   have q34 : (op == 34) = false := by simp; omega
   have q35 : (op == 35) = false := by simp; omega
   clear a1 a2 a3
   go_wp2
   go_ret3
   exact HP.out _ _ Hf.out hw1
 have hc : op = 1 ∨ op = 2 ∨ op = 3 ∨ op = 4 ∨ op = 18 ∨ op = 21 ∨ op = 22 ∨ op = 23 ∨ op = 24 ∨ op = 25 ∨ op = 26 ∨ op = 27 ∨ op = 28 ∨ op = 29 ∨ op = 30 ∨ op = 31 ∨ op = 32 ∨ op = 33 ∨ op = 34 ∨ op = 35 ∨ (op ≠ 1 ∧ op ≠ 2 ∧ op ≠ 3 ∧ op ≠ 4 ∧ op ≠ 18 ∧ op ≠ 21 ∧ op ≠ 22 ∧ op ≠ 23 ∧ op ≠ 24 ∧ op ≠ 25 ∧ op ≠ 26 ∧ op ≠ 27 ∧ op ≠ 28 ∧ op ≠ 29 ∧ op ≠ 30 ∧ op ≠ 31 ∧ op ≠ 32 ∧ op ≠ 33 ∧ op ≠ 34 ∧ op ≠ 35) := by omega
 rcases hc with rfl | rfl | rfl | rfl | rfl | rfl | rfl | rfl | rfl | rfl | rfl | rfl | rfl | rfl | rfl | rfl | rfl | rfl | rfl | rfl | ⟨n1, n2, n3, n4, n18, n21, n22, n23, n24, n25, n26, n27, n28, n29, n30, n31, n32, n33, n34, n35⟩
 · have Hf := Lib.hid (show effF p mine ⟨1, xa, xb, xn⟩ = (sE, sI, true) from rfl)
   have hT := Hth.out (by omega)
   clear hA Hth
   clear hT
   go_wp2
   go_ret3
   exact HP.out _ _ Hf.out hw1
 · have Hf := Lib.hid (show effF p mine ⟨2, xa, xb, xn⟩ = (sE, sR, true) from rfl)
   have hT := Hth.out (by omega)
   clear hA Hth
   clear hT
   go_wp2
   go_ret3
   exact HP.out _ _ Hf.out hw1
 · have Hf := Lib.hid (show effF p mine ⟨3, xa, xb, xn⟩ = (sE, atB (mine.pa ++ mine.lo) xa, true) from rfl)
   have hT := Hth.out (by omega)
   clear hA Hth
   have hx := in_true (show inB xa (mine.pa.size + mine.lo.size) = true by simpa [thereB] using hT)
   obtain ⟨k, rfl⟩ : ∃ k : Nat, xa = k := ⟨xa.toNat, by omega⟩
   have hkk : k < ks.size := by omega
   have Hat := Lib.hid (atB_at hkk)
   have j0 : (0 : Int) ≤ k := by omega
   have j1 : (k : Int) + 1 ≤ ks.size := by omega
   have jw : IntKind.i64.wrap ((k : Int) + 1) = (k : Int) + 1 := IntWalk.i64_in _ (by omega)
   clear hT hx
   go_wp2
   go_quiet (fail)
   go_wp2
   go_ret3
   exact HP.out _ _ (by rw [Hf.out, Hks.out, Hat.out]) (below_drewN hw1 _)
 · have Hf := Lib.hid (show effF p mine ⟨4, xa, xb, xn⟩ = (atB (mine.pa ++ mine.lo) xa, sE, true) from rfl)
   have hT := Hth.out (by omega)
   clear hA Hth
   have hx := in_true (show inB xa (mine.pa.size + mine.lo.size) = true by simpa [thereB] using hT)
   obtain ⟨k, rfl⟩ : ∃ k : Nat, xa = k := ⟨xa.toNat, by omega⟩
   have hkk : k < ks.size := by omega
   have Hat := Lib.hid (atB_at hkk)
   have j0 : (0 : Int) ≤ k := by omega
   have j1 : (k : Int) + 1 ≤ ks.size := by omega
   have jw : IntKind.i64.wrap ((k : Int) + 1) = (k : Int) + 1 := IntWalk.i64_in _ (by omega)
   clear hT hx
   go_wp2
   skip
   go_ret3
   exact HP.out _ _ (by rw [Hf.out, Hks.out, Hat.out]) hw1
 · have Hf := Lib.hid (show effF p mine ⟨18, xa, xb, xn⟩ = (sI, sI, true) from rfl)
   have hT := Hth.out (by omega)
   clear hA Hth
   clear hT
   go_wp2
   go_ret3
   exact HP.out _ _ Hf.out hw1
 · have Hf := Lib.hid (show effF p mine ⟨21, xa, xb, xn⟩ = (sRR, sI, true) from rfl)
   have hT := Hth.out (by omega)
   clear hA Hth
   clear hT
   go_wp2
   go_ret3
   exact HP.out _ _ Hf.out hw1
 · have Hf := Lib.hid (show effF p mine ⟨22, xa, xb, xn⟩ = (sE, sE, true) from rfl)
   have hT := Hth.out (by omega)
   clear hA Hth
   clear hT
   go_wp2
   go_ret3
   exact HP.out _ _ Hf.out hw1
 · have Hf := Lib.hid (show effF p mine ⟨23, xa, xb, xn⟩ = (sI, sE, true) from rfl)
   have hT := Hth.out (by omega)
   clear hA Hth
   clear hT
   go_wp2
   go_ret3
   exact HP.out _ _ Hf.out hw1
 · have Hf := Lib.hid (show effF p mine ⟨24, xa, xb, xn⟩ = (sE, sR, true) from rfl)
   have hT := Hth.out (by omega)
   clear hA Hth
   clear hT
   go_wp2
   go_ret3
   exact HP.out _ _ Hf.out hw1
 · have Hf := Lib.hid (show effF p mine ⟨25, xa, xb, xn⟩ = (sR, fieldF p xa xb, true) from rfl)
   have hT := Hth.out (by omega)
   clear hA Hth
   have hx0 := show (inB xa p.classes.length && inB xb (p.classes.getD xa.toNat ⟨#[]⟩).size) = true by simpa [thereB] using hT
   rw [Bool.and_eq_true] at hx0
   have hx := in_true hx0.1
   have hy := in_true hx0.2
   obtain ⟨k, rfl⟩ : ∃ k : Nat, xa = k := ⟨xa.toNat, by omega⟩
   obtain ⟨j, rfl⟩ : ∃ j : Nat, xb = j := ⟨xb.toNat, by omega⟩
   simp only [Int.toNat_natCast] at hy
   have hkk : k < p.classes.length := by omega
   have Hat := Lib.hid (fieldF_at (p := p) (k := k) (j := j) hkk (by omega))
   obtain ⟨bc, offc, rfl, hbl, c1⟩ := str_at hrc.out hkk
   have hfs := hp.fs k hkk
   generalize p.classes.getD k ⟨#[]⟩ = s at *
   have j0 : (0 : Int) ≤ k := by omega
   have j1 : (k : Int) < p.classes.length := by omega
   have j2 : (0 : Int) ≤ j := by omega
   have j3 : (j : Int) + 1 ≤ s.size := by omega
   have jw : IntKind.i64.wrap ((j : Int) + 1) = (j : Int) + 1 := IntWalk.i64_in _ (by omega)
   have hex : (s.extract j (j + 1)).size ≤ 1 := by rw [ByteArray.size_extract]; omega
   have hk1 : ¬ 9223372036854775807 < (s.extract j (j + 1)).size + 1 := by omega
   clear hT hx0 hx hy hrc
   go_wp2
   go_quiet (fail)
   go_wp2
   go_ret3
   exact HP.out _ _ (by rw [Hf.out, Hat.out]) (below_drewN hw1 _)
 · have Hf := Lib.hid (show effF p mine ⟨26, xa, xb, xn⟩ = (sR ++ fieldF p xa xb, sE, true) from rfl)
   have hT := Hth.out (by omega)
   clear hA Hth
   have hx0 := show (inB xa p.classes.length && inB xb (p.classes.getD xa.toNat ⟨#[]⟩).size) = true by simpa [thereB] using hT
   rw [Bool.and_eq_true] at hx0
   have hx := in_true hx0.1
   have hy := in_true hx0.2
   obtain ⟨k, rfl⟩ : ∃ k : Nat, xa = k := ⟨xa.toNat, by omega⟩
   obtain ⟨j, rfl⟩ : ∃ j : Nat, xb = j := ⟨xb.toNat, by omega⟩
   simp only [Int.toNat_natCast] at hy
   have hkk : k < p.classes.length := by omega
   have Hat := Lib.hid (fieldF_at (p := p) (k := k) (j := j) hkk (by omega))
   obtain ⟨bc, offc, rfl, hbl, c1⟩ := str_at hrc.out hkk
   have hfs := hp.fs k hkk
   generalize p.classes.getD k ⟨#[]⟩ = s at *
   have j0 : (0 : Int) ≤ k := by omega
   have j1 : (k : Int) < p.classes.length := by omega
   have j2 : (0 : Int) ≤ j := by omega
   have j3 : (j : Int) + 1 ≤ s.size := by omega
   have jw : IntKind.i64.wrap ((j : Int) + 1) = (j : Int) + 1 := IntWalk.i64_in _ (by omega)
   have hex : (s.extract j (j + 1)).size ≤ 1 := by rw [ByteArray.size_extract]; omega
   have hk1 : ¬ 9223372036854775807 < (s.extract j (j + 1)).size + 1 := by omega
   clear hT hx0 hx hy hrc
   go_wp2
   go_quiet (fail)
   go_wp2
   go_ret3
   exact HP.out _ _ (by rw [Hf.out, Hat.out]) (below_drewN hw1 _)
 · have Hf := Lib.hid (show effF p mine ⟨27, xa, xb, xn⟩ = (sR, sI, true) from rfl)
   have hT := Hth.out (by omega)
   clear hA Hth
   clear hT
   go_wp2
   go_ret3
   exact HP.out _ _ Hf.out hw1
 · have Hf := Lib.hid (show effF p mine ⟨28, xa, xb, xn⟩ = (sI, sR, true) from rfl)
   have hT := Hth.out (by omega)
   clear hA Hth
   clear hT
   go_wp2
   go_ret3
   exact HP.out _ _ Hf.out hw1
 · have Hf := Lib.hid (show effF p mine ⟨29, xa, xb, xn⟩ = (sRI, atB sIRs xa, true) from rfl)
   have hT := Hth.out (by omega)
   clear hA Hth
   have Hx := Lib.hid (show inB xa 2 = true by simpa [thereB] using hT)
   have has := atB_le sIRs xa
   have hk1 : ¬ 9223372036854775807 < (atB sIRs xa).size + 2 := by omega
   clear hT
   go_wp2_with (go_at_call 123; refine (relem_any _ _ Hx.out).mono ?_; rintro e w4 ⟨rfl, rfl⟩)
   go_ret3
   exact HP.out _ _ Hf.out hw1
 · have Hf := Lib.hid (show effF p mine ⟨30, xa, xb, xn⟩ = (sRI ++ atB sIRs xa, sE, true) from rfl)
   have hT := Hth.out (by omega)
   clear hA Hth
   have Hx := Lib.hid (show inB xa 2 = true by simpa [thereB] using hT)
   have has := atB_le sIRs xa
   have hk1 : ¬ 9223372036854775807 < (atB sIRs xa).size + 2 := by omega
   clear hT
   go_wp2_with (go_at_call 123; refine (relem_any _ _ Hx.out).mono ?_; rintro e w4 ⟨rfl, rfl⟩)
   go_ret3
   exact HP.out _ _ Hf.out hw1
 · have Hf := Lib.hid (show effF p mine ⟨31, xa, xb, xn⟩ = (sR, sI, true) from rfl)
   have hT := Hth.out (by omega)
   clear hA Hth
   clear hT
   go_wp2
   go_ret3
   exact HP.out _ _ Hf.out hw1
 · have Hf := Lib.hid (show effF p mine ⟨32, xa, xb, xn⟩ = ((methodF p xa).pa, (methodF p xa).re, true) from rfl)
   have hT := Hth.out (by omega)
   clear hA Hth
   have hx0 := show (decide (0 < xa) && inB xa p.methods.length) = true by simpa [thereB] using hT
   rw [Bool.and_eq_true] at hx0
   have hx := in_true hx0.2
   obtain ⟨k, rfl⟩ : ∃ k : Nat, xa = k := ⟨xa.toNat, by omega⟩
   have hkk : k < p.methods.length := by omega
   have Hat := Lib.hid (methodF_at hkk)
   obtain ⟨bc, offc, Aj, cj, eA, hbl, y0, y1, y2, y3, _⟩ := mth_at hrm.out hkk
   injection eA with eA
   injection eA with eA1 eA2
   subst eA1 eA2
   generalize p.methods.getD k default = m2 at *
   have j0 : (0 : Int) ≤ k := by omega
   have j1 : (k : Int) < p.methods.length := by omega
   clear hT hx0 hx hrc hrm
   go_wp2
   go_quiet (fail)
   go_wp2
   go_ret3
   exact HP.out _ _ (by rw [Hf.out, Hat.out]) (below_drewN hw1 _)
 · have Hf := Lib.hid (show effF p mine ⟨33, xa, xb, xn⟩ = (mine.re, sE, true) from rfl)
   have hT := Hth.out (by omega)
   clear hA Hth
   obtain ⟨bc, offc, Aj, cj, eA, hbl, y0, y1, y2, y3, _⟩ := mth_at hrm.out hm
   injection eA with eA
   injection eA with eA1 eA2
   subst eA1 eA2
   rw [hmine] at y0 y1 y2 y3
   clear hT hrc hrm
   go_wp2
   go_ret3
   exact HP.out _ _ Hf.out hw1
 · have Hf := Lib.hid (show effF p mine ⟨34, xa, xb, xn⟩ = (sE, sI, true) from rfl)
   have hT := Hth.out (by omega)
   clear hA Hth
   clear hT
   go_wp2
   go_ret3
   exact HP.out _ _ Hf.out hw1
 · have Hf := Lib.hid (show effF p mine ⟨35, xa, xb, xn⟩ = (sI, sE, true) from rfl)
   have hT := Hth.out (by omega)
   clear hA Hth
   clear hT
   go_wp2
   go_ret3
   exact HP.out _ _ Hf.out hw1
 · have Hf := Lib.hid (show effF p mine ⟨op, xa, xb, xn⟩ = (sE, sE, false) by unfold effF; rw [if_neg hA]; simp [*])
   have hg : decide (8 ≤ op) = false ∨ decide (op ≤ 20) = false := by
    simp only [decide_eq_false_iff_not]
    omega
   have g1 : (op == 1) = false := by simp; omega
   have g2 : (op == 2) = false := by simp; omega
   have g3 : (op == 3) = false := by simp; omega
   have g4 : (op == 4) = false := by simp; omega
   have g18 : (op == 18) = false := by simp; omega
   have g21 : (op == 21) = false := by simp; omega
   have g22 : (op == 22) = false := by simp; omega
   have g23 : (op == 23) = false := by simp; omega
   have g24 : (op == 24) = false := by simp; omega
   have g25 : (op == 25) = false := by simp; omega
   have g26 : (op == 26) = false := by simp; omega
   have g27 : (op == 27) = false := by simp; omega
   have g28 : (op == 28) = false := by simp; omega
   have g29 : (op == 29) = false := by simp; omega
   have g30 : (op == 30) = false := by simp; omega
   have g31 : (op == 31) = false := by simp; omega
   have g32 : (op == 32) = false := by simp; omega
   have g33 : (op == 33) = false := by simp; omega
   have g34 : (op == 34) = false := by simp; omega
   have g35 : (op == 35) = false := by simp; omega
   clear hA n1 n2 n3 n4 n18 n21 n22 n23 n24 n25 n26 n27 n28 n29 n30 n31 n32 n33 n34 n35
   rcases hg with hg | hg
   · go_wp2
     all_goals
      go_ret3
      exact HP.out _ _ Hf.out hw1
   · go_wp2
     all_goals
      go_ret3
      exact HP.out _ _ Hf.out hw1
end Go.Proofs.YtjjmpfmhggcjiaaGreatDoor
