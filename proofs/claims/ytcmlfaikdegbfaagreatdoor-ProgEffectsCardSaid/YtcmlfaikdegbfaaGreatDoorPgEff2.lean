/-
  prog.Effect: what an instruction pops and pushes. Written by gen_pgeff.py.
-/
import Derived.Test.YtcmlfaikdegbfaaGreatDoorPgEff1
import Derived.Deep.RegionHeld3
namespace Go.Proofs.YtcmlfaikdegbfaaGreatDoor
open Go.RowKit Go.Maps

def sE : ByteArray := ⟨#[]⟩
def sI : ByteArray := ⟨#[73]⟩
def sR : ByteArray := ⟨#[82]⟩
def sII : ByteArray := ⟨#[73, 73]⟩
def sRR : ByteArray := ⟨#[82, 82]⟩
def sRI : ByteArray := ⟨#[82, 73]⟩
def sIRs : ByteArray := ⟨#[73, 82]⟩
abbrev Eff := ByteArray × ByteArray × Bool
/-- What an instruction of the method mine pops and pushes. -/
def effF (p : Prg) (mine : Mth) (x : Ins) : Eff :=
  if 8 ≤ x.op ∧ x.op ≤ 20 ∧ x.op ≠ 18 then (sII, sI, true)
  else if x.op = 1 ∨ x.op = 34 then (sE, sI, true)
  else if x.op = 2 ∨ x.op = 24 then (sE, sR, true)
  else if x.op = 3 then (sE, atB (mine.pa ++ mine.lo) x.a, true)
  else if x.op = 4 then (atB (mine.pa ++ mine.lo) x.a, sE, true)
  else if x.op = 18 then (sI, sI, true)
  else if x.op = 21 then (sRR, sI, true)
  else if x.op = 22 then (sE, sE, true)
  else if x.op = 23 ∨ x.op = 35 then (sI, sE, true)
  else if x.op = 25 then (sR, fieldF p x.a x.b, true)
  else if x.op = 26 then (sR ++ fieldF p x.a x.b, sE, true)
  else if x.op = 27 ∨ x.op = 31 then (sR, sI, true)
  else if x.op = 28 then (sI, sR, true)
  else if x.op = 29 then (sRI, atB sIRs x.a, true)
  else if x.op = 30 then (sRI ++ atB sIRs x.a, sE, true)
  else if x.op = 32 then ((methodF p x.a).pa, (methodF p x.a).re, true)
  else if x.op = 33 then (mine.re, sE, true)
  else (sE, sE, false)
def EffPost (w : World) (f : Eff) (e : Ending) (w' : World) : Prop := e = .returned (.tuple #[.string f.1, .string f.2.1, .bool f.2.2]) ∧ Below w.heap.size w w'
theorem atB_le (s : ByteArray) (i : Int) : (atB s i).size ≤ 1 := by
  unfold atB
  split
  · rw [ByteArray.size_extract]; omega
  · decide
theorem fieldF_le (p : Prg) (c i : Int) : (fieldF p c i).size ≤ 1 := by
  unfold fieldF
  split
  · exact atB_le _ _
  · decide

set_option maxRecDepth 100000 in
set_option maxHeartbeats 8000000 in
theorem effect_any (Ac Am : Option Addr) (cc cm : Nat) (p : Prg) (x : Ins) (m : Int) (w : World) (hr : RdP w w.heap.size Ac Am p) (hp : POk p) (hk : (methodF p m).pa.size + (methodF p m).lo.size ≤ 1000) :
    Calls Tryz.prog 17 #[pv Ac cc Am cm p, .int .i64 m, iv x] w (EffPost w (effF p (methodF p m) x)) := by
  obtain ⟨op, xa, xb, xn⟩ := x
  have hmt := method_any Ac Am cc cm p m
  have hmt2 := method_any Ac Am cc cm p xa
  have hft := field_any Ac Am cc cm p xa xb
  have Hmt := Lib.hid hmt
  have Hmt2 := Lib.hid hmt2
  have Hft := Lib.hid hft
  have hfs := fieldF_le p xa xb
  have has := atB_le sIRs xa
  clear hmt hmt2 hft
  have HE := Lib.hid (show effF p (methodF p m) ⟨op, xa, xb, xn⟩ = effF p (methodF p m) ⟨op, xa, xb, xn⟩ from rfl)
  have hPP : ∀ f w', effF p (methodF p m) ⟨op, xa, xb, xn⟩ = f → Below w.heap.size w w' → EffPost w (effF p (methodF p m) ⟨op, xa, xb, xn⟩) (.returned (.tuple #[.string f.1, .string f.2.1, .bool f.2.2])) w' := fun f w' e h => by rw [e]; exact ⟨rfl, h⟩
  have HP := Lib.hid hPP
  clear hPP HE
  generalize EffPost w (effF p (methodF p m) ⟨op, xa, xb, xn⟩) = Post at *
  go_enter Tryz.func17, Tryz.ntmps17
  have hw2 : Below w.heap.size w ((w.alloc (.cells #[.slice Ac p.classes.length cc, .slice Am p.methods.length cm] 25)).alloc (.cells #[.int .i64 op, .int .i64 xa, .int .i64 xb, .int .i64 xn] 44)) := ((Below.refl _ _).alloc (Nat.le_refl _) _).alloc (by simp) _
  have hbp := (Blk.new w 25 #[.slice Ac p.classes.length cc, .slice Am p.methods.length cm]).alloc (.cells #[.int .i64 op, .int .i64 xa, .int .i64 xb, .int .i64 xn] 44)
  have hbx := Blk.newAt (w := w.alloc (.cells #[.slice Ac p.classes.length cc, .slice Am p.methods.length cm] 25)) (g := w.heap.size + 1) (by simp) 44 #[.int .i64 op, .int .i64 xa, .int .i64 xb, .int .i64 xn]
  go_wp2_with fail
  refine (Hmt.out _ ((hr.ms.below hw2 (Nat.le_refl _)).more hw2.size) hp.ms).mono ?_
  rintro e w1 ⟨A1, c1, rfl, hb1⟩
  generalize methodF p m = mine at *
  have hw1 := (hw2.trans (hb1.mono hw2.size)).alloc (Nat.le_trans hw2.size hb1.size) (.cells #[.string mine.pa, .string mine.lo, .string mine.re, .slice A1 mine.code.length c1] 39)
  have dP := (hbp.below hb1 hbp.lt).alloc (.cells #[.string mine.pa, .string mine.lo, .string mine.re, .slice A1 mine.code.length c1] 39)
  have dX := (hbx.below hb1 hbx.lt).alloc (.cells #[.string mine.pa, .string mine.lo, .string mine.re, .slice A1 mine.code.length c1] 39)
  have dM := Blk.new w1 39 #[.string mine.pa, .string mine.lo, .string mine.re, .slice A1 mine.code.length c1]
  clear hw2 hbp hbx hb1
  go_upto_region 2 with (fail)
  generalize w1.alloc (.cells #[.string mine.pa, .string mine.lo, .string mine.re, .slice A1 mine.code.length c1] 39) = w3 at *
  generalize w1.heap.size = gm at *
  have p0 := dP.at0
  have p1 := dP.at1
  have i0 := dX.at0
  have i1 := dX.at1
  have i2 := dX.at2
  have i3 := dX.at3
  have m0 := dM.at0
  have m1 := dM.at1
  have m2 := dM.at2
  have m3 := dM.at3
  have lP := dP.lt
  have lX := dX.lt
  have lM := dM.lt
  have hz := hw1.size
  have hrc := Lib.hid ((hr.cl.below hw1 (Nat.le_refl _)).more hz)
  have hrm := Lib.hid ((hr.ms.below hw1 (Nat.le_refl _)).more hz)
  have hks : (mine.pa ++ mine.lo).size ≤ 9223372036854775807 := by rw [ByteArray.size_append]; omega
  clear hr
  by_cases hA : 8 ≤ op ∧ op ≤ 20 ∧ op ≠ 18
  · have Hf := Lib.hid (show effF p mine ⟨op, xa, xb, xn⟩ = (sII, sI, true) by unfold effF; rw [if_pos hA])
    obtain ⟨a1, a2, a3⟩ := hA
    have g1 : decide (8 ≤ op) = true := by simpa using a1
    have g2 : decide (op ≤ 20) = true := by simpa using a2
    have g3 : (op != 18) = true := by simpa using a3
    clear a1 a2 a3
    go_wp2
    go_ret3
    exact HP.out _ _ Hf.out hw1
  have hc : op = 1 ∨ op = 2 ∨ op = 3 ∨ op = 4 ∨ op = 18 ∨ op = 21 ∨ op = 22 ∨ op = 23 ∨ op = 24 ∨ op = 25 ∨ op = 26 ∨ op = 27 ∨ op = 28 ∨ op = 29 ∨ op = 30 ∨ op = 31 ∨ op = 32 ∨ op = 33 ∨ op = 34 ∨ op = 35 ∨ (op ≠ 1 ∧ op ≠ 2 ∧ op ≠ 3 ∧ op ≠ 4 ∧ op ≠ 18 ∧ op ≠ 21 ∧ op ≠ 22 ∧ op ≠ 23 ∧ op ≠ 24 ∧ op ≠ 25 ∧ op ≠ 26 ∧ op ≠ 27 ∧ op ≠ 28 ∧ op ≠ 29 ∧ op ≠ 30 ∧ op ≠ 31 ∧ op ≠ 32 ∧ op ≠ 33 ∧ op ≠ 34 ∧ op ≠ 35) := by omega
  rcases hc with rfl | rfl | rfl | rfl | rfl | rfl | rfl | rfl | rfl | rfl | rfl | rfl | rfl | rfl | rfl | rfl | rfl | rfl | rfl | rfl | ⟨n1, n2, n3, n4, n18, n21, n22, n23, n24, n25, n26, n27, n28, n29, n30, n31, n32, n33, n34, n35⟩
  · have Hf := Lib.hid (show effF p mine ⟨1, xa, xb, xn⟩ = (sE, sI, true) from rfl)
    clear hA
    go_wp2
    go_ret3
    exact HP.out _ _ Hf.out hw1
  · have Hf := Lib.hid (show effF p mine ⟨2, xa, xb, xn⟩ = (sE, sR, true) from rfl)
    clear hA
    go_wp2
    go_ret3
    exact HP.out _ _ Hf.out hw1
  · have Hf := Lib.hid (show effF p mine ⟨3, xa, xb, xn⟩ = (sE, atB (mine.pa ++ mine.lo) xa, true) from rfl)
    clear hA
    go_wp2
    go_region_held3 (fun w' => w'.cell? ⟨gm, 0, none⟩ = some (.string mine.pa) ∧ w'.cell? ⟨gm, 1, none⟩ = some (.string mine.lo) ∧ w'.cell? ⟨gm, 2, none⟩ = some (.string mine.re) ∧ w'.cell? ⟨gm, 3, none⟩ = some (.slice A1 mine.code.length c1) ∧ w'.cell? ⟨w.heap.size + 1, 1, none⟩ = some (.int .i64 xa))
      (first | exact ⟨m0, m1, m2, m3, i1⟩ | exact ⟨(dM.drew.below hb lM).at0, (dM.drew.below hb lM).at1, (dM.drew.below hb lM).at2, (dM.drew.below hb lM).at3, (dX.drew.below hb lX).at1⟩)
      (first | (go_at_call 15; refine (kinds_any _ _ _ _ hk).mono ?_; rintro e w' ⟨rfl, hb⟩) | (go_at_call 35; refine (at_str _ _ _ hks).mono ?_; rintro e w' ⟨rfl, rfl⟩))
    go_wp2
    go_ret3
    exact HP.out _ _ Hf.out (hw1.drew.trans (hb.mono hz))
  · have Hf := Lib.hid (show effF p mine ⟨4, xa, xb, xn⟩ = (atB (mine.pa ++ mine.lo) xa, sE, true) from rfl)
    clear hA
    go_wp2
    go_region_held3 (fun w' => w'.cell? ⟨gm, 0, none⟩ = some (.string mine.pa) ∧ w'.cell? ⟨gm, 1, none⟩ = some (.string mine.lo) ∧ w'.cell? ⟨gm, 2, none⟩ = some (.string mine.re) ∧ w'.cell? ⟨gm, 3, none⟩ = some (.slice A1 mine.code.length c1) ∧ w'.cell? ⟨w.heap.size + 1, 1, none⟩ = some (.int .i64 xa))
      (first | exact ⟨m0, m1, m2, m3, i1⟩ | exact ⟨(dM.drew.below hb lM).at0, (dM.drew.below hb lM).at1, (dM.drew.below hb lM).at2, (dM.drew.below hb lM).at3, (dX.drew.below hb lX).at1⟩)
      (first | (go_at_call 15; refine (kinds_any _ _ _ _ hk).mono ?_; rintro e w' ⟨rfl, hb⟩) | (go_at_call 35; refine (at_str _ _ _ hks).mono ?_; rintro e w' ⟨rfl, rfl⟩))
    go_wp2
    go_ret3
    exact HP.out _ _ Hf.out (hw1.drew.trans (hb.mono hz))
  · have Hf := Lib.hid (show effF p mine ⟨18, xa, xb, xn⟩ = (sI, sI, true) from rfl)
    clear hA
    go_wp2
    go_ret3
    exact HP.out _ _ Hf.out hw1
  · have Hf := Lib.hid (show effF p mine ⟨21, xa, xb, xn⟩ = (sRR, sI, true) from rfl)
    clear hA
    go_wp2
    go_ret3
    exact HP.out _ _ Hf.out hw1
  · have Hf := Lib.hid (show effF p mine ⟨22, xa, xb, xn⟩ = (sE, sE, true) from rfl)
    clear hA
    go_wp2
    go_ret3
    exact HP.out _ _ Hf.out hw1
  · have Hf := Lib.hid (show effF p mine ⟨23, xa, xb, xn⟩ = (sI, sE, true) from rfl)
    clear hA
    go_wp2
    go_ret3
    exact HP.out _ _ Hf.out hw1
  · have Hf := Lib.hid (show effF p mine ⟨24, xa, xb, xn⟩ = (sE, sR, true) from rfl)
    clear hA
    go_wp2
    go_ret3
    exact HP.out _ _ Hf.out hw1
  · have Hf := Lib.hid (show effF p mine ⟨25, xa, xb, xn⟩ = (sR, fieldF p xa xb, true) from rfl)
    clear hA
    have hk1 : ¬ 9223372036854775807 < (fieldF p xa xb).size + 1 := by omega
    go_wp2_with (go_at_call 36; refine (Hft.out _ hrc.out hp).mono ?_; rintro e w4 ⟨rfl, hb4⟩)
    go_ret3
    exact HP.out _ _ Hf.out (hw1.trans (hb4.mono hz))
  · have Hf := Lib.hid (show effF p mine ⟨26, xa, xb, xn⟩ = (sR ++ fieldF p xa xb, sE, true) from rfl)
    clear hA
    have hk1 : ¬ 9223372036854775807 < (fieldF p xa xb).size + 1 := by omega
    go_wp2_with (go_at_call 36; refine (Hft.out _ hrc.out hp).mono ?_; rintro e w4 ⟨rfl, hb4⟩)
    go_ret3
    exact HP.out _ _ Hf.out (hw1.trans (hb4.mono hz))
  · have Hf := Lib.hid (show effF p mine ⟨27, xa, xb, xn⟩ = (sR, sI, true) from rfl)
    clear hA
    go_wp2
    go_ret3
    exact HP.out _ _ Hf.out hw1
  · have Hf := Lib.hid (show effF p mine ⟨28, xa, xb, xn⟩ = (sI, sR, true) from rfl)
    clear hA
    go_wp2
    go_ret3
    exact HP.out _ _ Hf.out hw1
  · have Hf := Lib.hid (show effF p mine ⟨29, xa, xb, xn⟩ = (sRI, atB sIRs xa, true) from rfl)
    clear hA
    have hk1 : ¬ 9223372036854775807 < (atB sIRs xa).size + 2 := by omega
    go_wp2_with (go_at_call 35; refine (at_str sIRs _ _ (by decide)).mono ?_; rintro e w4 ⟨rfl, rfl⟩)
    go_ret3
    exact HP.out _ _ Hf.out hw1
  · have Hf := Lib.hid (show effF p mine ⟨30, xa, xb, xn⟩ = (sRI ++ atB sIRs xa, sE, true) from rfl)
    clear hA
    have hk1 : ¬ 9223372036854775807 < (atB sIRs xa).size + 2 := by omega
    go_wp2_with (go_at_call 35; refine (at_str sIRs _ _ (by decide)).mono ?_; rintro e w4 ⟨rfl, rfl⟩)
    go_ret3
    exact HP.out _ _ Hf.out hw1
  · have Hf := Lib.hid (show effF p mine ⟨31, xa, xb, xn⟩ = (sR, sI, true) from rfl)
    clear hA
    go_wp2
    go_ret3
    exact HP.out _ _ Hf.out hw1
  · have Hf := Lib.hid (show effF p mine ⟨32, xa, xb, xn⟩ = ((methodF p xa).pa, (methodF p xa).re, true) from rfl)
    clear hA
    go_wp2_with fail
    refine (Hmt2.out _ hrm.out hp.ms).mono ?_
    rintro e w4 ⟨A2, c2, rfl, hb4⟩
    generalize methodF p xa = m2 at *
    have hw4 := (hw1.trans (hb4.mono hz)).alloc (Nat.le_trans hz hb4.size) (.cells #[.string m2.pa, .string m2.lo, .string m2.re, .slice A2 m2.code.length c2] 39)
    go_wp2
    go_quiet (fail)
    go_wp2
    go_ret3
    exact HP.out _ _ Hf.out (below_drewN hw4 _)
  · have Hf := Lib.hid (show effF p mine ⟨33, xa, xb, xn⟩ = (mine.re, sE, true) from rfl)
    clear hA
    go_wp2
    go_ret3
    exact HP.out _ _ Hf.out hw1
  · have Hf := Lib.hid (show effF p mine ⟨34, xa, xb, xn⟩ = (sE, sI, true) from rfl)
    clear hA
    go_wp2
    go_ret3
    exact HP.out _ _ Hf.out hw1
  · have Hf := Lib.hid (show effF p mine ⟨35, xa, xb, xn⟩ = (sI, sE, true) from rfl)
    clear hA
    go_wp2
    go_ret3
    exact HP.out _ _ Hf.out hw1
  · have Hf := Lib.hid (show effF p mine ⟨op, xa, xb, xn⟩ = (sE, sE, false) by unfold effF; rw [if_neg hA]; simp [*])
    have hg : decide (8 ≤ op) = false ∨ decide (op ≤ 20) = false ∨ (op != 18) = false := by
      simp only [decide_eq_false_iff_not, bne_eq_false_iff_eq]
      omega
    have g1 : (op == 1) = false := by simp; omega
    have g2 : (op == 2) = false := by simp; omega
    have g3 : (op == 3) = false := by simp; omega
    have g4 : (op == 4) = false := by simp; omega
    have g18 : (op == 18) = false := by simp; omega
    have g21 : (op == 21) = false := by simp; omega
    have g22 : (op == 22) = false := by simp; omega
    have g23 : (op == 23) = false := by simp; omega
    have g24 : (op == 24) = false := by simp; omega
    have g25 : (op == 25) = false := by simp; omega
    have g26 : (op == 26) = false := by simp; omega
    have g27 : (op == 27) = false := by simp; omega
    have g28 : (op == 28) = false := by simp; omega
    have g29 : (op == 29) = false := by simp; omega
    have g30 : (op == 30) = false := by simp; omega
    have g31 : (op == 31) = false := by simp; omega
    have g32 : (op == 32) = false := by simp; omega
    have g33 : (op == 33) = false := by simp; omega
    have g34 : (op == 34) = false := by simp; omega
    have g35 : (op == 35) = false := by simp; omega
    clear hA n1 n2 n3 n4 n18 n21 n22 n23 n24 n25 n26 n27 n28 n29 n30 n31 n32 n33 n34 n35
    rcases hg with hg | hg | hg
    · go_wp2
      go_ret3
      exact HP.out _ _ Hf.out hw1
    · go_wp2
      all_goals
        go_ret3
        exact HP.out _ _ Hf.out hw1
    · go_wp2
      all_goals
        go_ret3
        exact HP.out _ _ Hf.out hw1
end Go.Proofs.YtcmlfaikdegbfaaGreatDoor
