/-
 PgKinds, PgEff2, DomPure2, RegInv, FlowPure, SettlePure, PgZeros.
-/
import Derived.Deep.RegionHeld3
import Derived.RegionTactic
import Derived.Lib.AppendZerosOnto
import Derived.Test.YtjjmpfmhggcjiaaGreatDoorJPgRef
import Derived.Test.YtjjmpfmhggcjiaaGreatDoorJDfsPure
import Derived.Test.YtjjmpfmhggcjiaaGreatDoorJSortLib
set_option linter.unusedSimpArgs false
set_option linter.unusedVariables false
namespace Go.Proofs.YtjjmpfmhggcjiaaGreatDoor
open Go.RowKit Go.Maps
theorem rkinds_any (A : Option Addr) (c : Nat) (m : Mth) (w : World) (hm : m.pa.size + m.lo.size ≤ 1000) :
 Calls Tryz.prog 124 #[mv A c m] w fun e w' => e = .returned (.string (m.pa ++ m.lo)) ∧ Below w.heap.size w w' := by
 go_enter Tryz.func124, Tryz.ntmps124
 have hk : ¬ 9223372036854775807 < m.pa.size + m.lo.size := by omega
 go_wp2
 go_ret
 exact ⟨rfl, (Below.refl _ _).alloc (Nat.le_refl _) _⟩
end Go.Proofs.YtjjmpfmhggcjiaaGreatDoor
namespace Go.Proofs.YtjjmpfmhggcjiaaGreatDoor
open Go.RowKit Go.Maps
def sE : ByteArray := ⟨#[]⟩
def sI : ByteArray := ⟨#[73]⟩
def sR : ByteArray := ⟨#[82]⟩
def sII : ByteArray := ⟨#[73, 73]⟩
def sRR : ByteArray := ⟨#[82, 82]⟩
def sRI : ByteArray := ⟨#[82, 73]⟩
def sIRs : ByteArray := ⟨#[73, 82]⟩
abbrev Eff := ByteArray × ByteArray × Bool
/-- What an instruction of the method mine pops and pushes. -/
def effF (p : Prg) (mine : Mth) (x : Ins) : Eff :=
 if 8 ≤ x.op ∧ x.op ≤ 20 ∧ x.op ≠ 18 then (sII, sI, true)
 else if x.op = 1 ∨ x.op = 34 then (sE, sI, true)
 else if x.op = 2 ∨ x.op = 24 then (sE, sR, true)
 else if x.op = 3 then (sE, atB (mine.pa ++ mine.lo) x.a, true)
 else if x.op = 4 then (atB (mine.pa ++ mine.lo) x.a, sE, true)
 else if x.op = 18 then (sI, sI, true)
 else if x.op = 21 then (sRR, sI, true)
 else if x.op = 22 then (sE, sE, true)
 else if x.op = 23 ∨ x.op = 35 then (sI, sE, true)
 else if x.op = 25 then (sR, fieldF p x.a x.b, true)
 else if x.op = 26 then (sR ++ fieldF p x.a x.b, sE, true)
 else if x.op = 27 ∨ x.op = 31 then (sR, sI, true)
 else if x.op = 28 then (sI, sR, true)
 else if x.op = 29 then (sRI, atB sIRs x.a, true)
 else if x.op = 30 then (sRI ++ atB sIRs x.a, sE, true)
 else if x.op = 32 then ((methodF p x.a).pa, (methodF p x.a).re, true)
 else if x.op = 33 then (mine.re, sE, true)
 else (sE, sE, false)
def EffPost (w : World) (f : Eff) (e : Ending) (w' : World) : Prop := e = .returned (.tuple #[.string f.1, .string f.2.1, .bool f.2.2]) ∧ Below w.heap.size w w'
theorem atB_le (s : ByteArray) (i : Int) : (atB s i).size ≤ 1 := by
 unfold atB
 split
 · rw [ByteArray.size_extract]; omega
 · decide
theorem fieldF_le (p : Prg) (c i : Int) : (fieldF p c i).size ≤ 1 := by
 unfold fieldF
 split
 · exact atB_le _ _
 · decide
set_option maxRecDepth 100000 in
set_option maxHeartbeats 8000000 in
theorem effect_any (Ac Am : Option Addr) (cc cm : Nat) (p : Prg) (x : Ins) (m : Int) (w : World) (hr : RdP w w.heap.size Ac Am p) (hp : POk p) (hk : (methodF p m).pa.size + (methodF p m).lo.size ≤ 1000) :
 Calls Tryz.prog 119 #[pv Ac cc Am cm p, .int .i64 m, iv x] w (EffPost w (effF p (methodF p m) x)) := by
 obtain ⟨op, xa, xb, xn⟩ := x
 have hmt := method_any Ac Am cc cm p m
 have hmt2 := method_any Ac Am cc cm p xa
 have hft := field_any Ac Am cc cm p xa xb
 have Hmt := Lib.hid hmt
 have Hmt2 := Lib.hid hmt2
 have Hft := Lib.hid hft
 have hfs := fieldF_le p xa xb
 have has := atB_le sIRs xa
 clear hmt hmt2 hft
 have HE := Lib.hid (show effF p (methodF p m) ⟨op, xa, xb, xn⟩ = effF p (methodF p m) ⟨op, xa, xb, xn⟩ from rfl)
 have hPP : ∀ f w', effF p (methodF p m) ⟨op, xa, xb, xn⟩ = f → Below w.heap.size w w' → EffPost w (effF p (methodF p m) ⟨op, xa, xb, xn⟩) (.returned (.tuple #[.string f.1, .string f.2.1, .bool f.2.2])) w' := fun f w' e h => by rw [e]; exact ⟨rfl, h⟩
 have HP := Lib.hid hPP
 clear hPP HE
 generalize EffPost w (effF p (methodF p m) ⟨op, xa, xb, xn⟩) = Post at *
 go_enter Tryz.func119, Tryz.ntmps119
 have hw2 : Below w.heap.size w ((w.alloc (.cells #[.slice Ac p.classes.length cc, .slice Am p.methods.length cm] 25)).alloc (.cells #[.int .i64 op, .int .i64 xa, .int .i64 xb, .int .i64 xn] 118)) := ((Below.refl _ _).alloc (Nat.le_refl _) _).alloc (by simp) _
 have hbp := (Blk.new w 25 #[.slice Ac p.classes.length cc, .slice Am p.methods.length cm]).alloc (.cells #[.int .i64 op, .int .i64 xa, .int .i64 xb, .int .i64 xn] 118)
 have hbx := Blk.newAt (w := w.alloc (.cells #[.slice Ac p.classes.length cc, .slice Am p.methods.length cm] 25)) (g := w.heap.size + 1) (by simp) 118 #[.int .i64 op, .int .i64 xa, .int .i64 xb, .int .i64 xn]
 go_wp2_with fail
 refine (Hmt.out _ ((hr.ms.below hw2 (Nat.le_refl _)).more hw2.size) hp.ms).mono ?_
 rintro e w1 ⟨A1, c1, rfl, hb1⟩
 generalize methodF p m = mine at *
 have hw1 := (hw2.trans (hb1.mono hw2.size)).alloc (Nat.le_trans hw2.size hb1.size) (.cells #[.string mine.pa, .string mine.lo, .string mine.re, .slice A1 mine.code.length c1] 90)
 have dP := (hbp.below hb1 hbp.lt).alloc (.cells #[.string mine.pa, .string mine.lo, .string mine.re, .slice A1 mine.code.length c1] 90)
 have dX := (hbx.below hb1 hbx.lt).alloc (.cells #[.string mine.pa, .string mine.lo, .string mine.re, .slice A1 mine.code.length c1] 90)
 have dM := Blk.new w1 90 #[.string mine.pa, .string mine.lo, .string mine.re, .slice A1 mine.code.length c1]
 clear hw2 hbp hbx hb1
 go_upto_region 2 with (fail)
 generalize w1.alloc (.cells #[.string mine.pa, .string mine.lo, .string mine.re, .slice A1 mine.code.length c1] 90) = w3 at *
 generalize w1.heap.size = gm at *
 have p0 := dP.at0
 have p1 := dP.at1
 have i0 := dX.at0
 have i1 := dX.at1
 have i2 := dX.at2
 have i3 := dX.at3
 have m0 := dM.at0
 have m1 := dM.at1
 have m2 := dM.at2
 have m3 := dM.at3
 have lP := dP.lt
 have lX := dX.lt
 have lM := dM.lt
 have hz := hw1.size
 have hrc := Lib.hid ((hr.cl.below hw1 (Nat.le_refl _)).more hz)
 have hrm := Lib.hid ((hr.ms.below hw1 (Nat.le_refl _)).more hz)
 have hks : (mine.pa ++ mine.lo).size ≤ 9223372036854775807 := by rw [ByteArray.size_append]; omega
 clear hr
 by_cases hA : 8 ≤ op ∧ op ≤ 20 ∧ op ≠ 18
 · have Hf := Lib.hid (show effF p mine ⟨op, xa, xb, xn⟩ = (sII, sI, true) by unfold effF; rw [if_pos hA])
   obtain ⟨a1, a2, a3⟩ := hA
   have g1 : decide (8 ≤ op) = true := by simpa using a1
   have g2 : decide (op ≤ 20) = true := by simpa using a2
   have g3 : (op != 18) = true := by simpa using a3
   clear a1 a2 a3
   go_wp2
   go_ret3
   exact HP.out _ _ Hf.out hw1
 have hc : op = 1 ∨ op = 2 ∨ op = 3 ∨ op = 4 ∨ op = 18 ∨ op = 21 ∨ op = 22 ∨ op = 23 ∨ op = 24 ∨ op = 25 ∨ op = 26 ∨ op = 27 ∨ op = 28 ∨ op = 29 ∨ op = 30 ∨ op = 31 ∨ op = 32 ∨ op = 33 ∨ op = 34 ∨ op = 35 ∨ (op ≠ 1 ∧ op ≠ 2 ∧ op ≠ 3 ∧ op ≠ 4 ∧ op ≠ 18 ∧ op ≠ 21 ∧ op ≠ 22 ∧ op ≠ 23 ∧ op ≠ 24 ∧ op ≠ 25 ∧ op ≠ 26 ∧ op ≠ 27 ∧ op ≠ 28 ∧ op ≠ 29 ∧ op ≠ 30 ∧ op ≠ 31 ∧ op ≠ 32 ∧ op ≠ 33 ∧ op ≠ 34 ∧ op ≠ 35) := by omega
 rcases hc with rfl | rfl | rfl | rfl | rfl | rfl | rfl | rfl | rfl | rfl | rfl | rfl | rfl | rfl | rfl | rfl | rfl | rfl | rfl | rfl | ⟨n1, n2, n3, n4, n18, n21, n22, n23, n24, n25, n26, n27, n28, n29, n30, n31, n32, n33, n34, n35⟩
 · have Hf := Lib.hid (show effF p mine ⟨1, xa, xb, xn⟩ = (sE, sI, true) from rfl)
   clear hA
   go_wp2
   go_ret3
   exact HP.out _ _ Hf.out hw1
 · have Hf := Lib.hid (show effF p mine ⟨2, xa, xb, xn⟩ = (sE, sR, true) from rfl)
   clear hA
   go_wp2
   go_ret3
   exact HP.out _ _ Hf.out hw1
 · have Hf := Lib.hid (show effF p mine ⟨3, xa, xb, xn⟩ = (sE, atB (mine.pa ++ mine.lo) xa, true) from rfl)
   clear hA
   go_wp2
   go_region_held3 (fun w' => w'.cell? ⟨gm, 0, none⟩ = some (.string mine.pa) ∧ w'.cell? ⟨gm, 1, none⟩ = some (.string mine.lo) ∧ w'.cell? ⟨gm, 2, none⟩ = some (.string mine.re) ∧ w'.cell? ⟨gm, 3, none⟩ = some (.slice A1 mine.code.length c1) ∧ w'.cell? ⟨w.heap.size + 1, 1, none⟩ = some (.int .i64 xa))
    (first | exact ⟨m0, m1, m2, m3, i1⟩ | exact ⟨(dM.drew.below hb lM).at0, (dM.drew.below hb lM).at1, (dM.drew.below hb lM).at2, (dM.drew.below hb lM).at3, (dX.drew.below hb lX).at1⟩)
    (first | (go_at_call 117; refine (kinds_any _ _ _ _ hk).mono ?_; rintro e w' ⟨rfl, hb⟩) | (go_at_call 165; refine (at_str _ _ _ hks).mono ?_; rintro e w' ⟨rfl, rfl⟩))
   go_wp2
   go_ret3
   exact HP.out _ _ Hf.out (hw1.drew.trans (hb.mono hz))
 · have Hf := Lib.hid (show effF p mine ⟨4, xa, xb, xn⟩ = (atB (mine.pa ++ mine.lo) xa, sE, true) from rfl)
   clear hA
   go_wp2
   go_region_held3 (fun w' => w'.cell? ⟨gm, 0, none⟩ = some (.string mine.pa) ∧ w'.cell? ⟨gm, 1, none⟩ = some (.string mine.lo) ∧ w'.cell? ⟨gm, 2, none⟩ = some (.string mine.re) ∧ w'.cell? ⟨gm, 3, none⟩ = some (.slice A1 mine.code.length c1) ∧ w'.cell? ⟨w.heap.size + 1, 1, none⟩ = some (.int .i64 xa))
    (first | exact ⟨m0, m1, m2, m3, i1⟩ | exact ⟨(dM.drew.below hb lM).at0, (dM.drew.below hb lM).at1, (dM.drew.below hb lM).at2, (dM.drew.below hb lM).at3, (dX.drew.below hb lX).at1⟩)
    (first | (go_at_call 117; refine (kinds_any _ _ _ _ hk).mono ?_; rintro e w' ⟨rfl, hb⟩) | (go_at_call 165; refine (at_str _ _ _ hks).mono ?_; rintro e w' ⟨rfl, rfl⟩))
   go_wp2
   go_ret3
   exact HP.out _ _ Hf.out (hw1.drew.trans (hb.mono hz))
 · have Hf := Lib.hid (show effF p mine ⟨18, xa, xb, xn⟩ = (sI, sI, true) from rfl)
   clear hA
   go_wp2
   go_ret3
   exact HP.out _ _ Hf.out hw1
 · have Hf := Lib.hid (show effF p mine ⟨21, xa, xb, xn⟩ = (sRR, sI, true) from rfl)
   clear hA
   go_wp2
   go_ret3
   exact HP.out _ _ Hf.out hw1
 · have Hf := Lib.hid (show effF p mine ⟨22, xa, xb, xn⟩ = (sE, sE, true) from rfl)
   clear hA
   go_wp2
   go_ret3
   exact HP.out _ _ Hf.out hw1
 · have Hf := Lib.hid (show effF p mine ⟨23, xa, xb, xn⟩ = (sI, sE, true) from rfl)
   clear hA
   go_wp2
   go_ret3
   exact HP.out _ _ Hf.out hw1
 · have Hf := Lib.hid (show effF p mine ⟨24, xa, xb, xn⟩ = (sE, sR, true) from rfl)
   clear hA
   go_wp2
   go_ret3
   exact HP.out _ _ Hf.out hw1
 · have Hf := Lib.hid (show effF p mine ⟨25, xa, xb, xn⟩ = (sR, fieldF p xa xb, true) from rfl)
   clear hA
   have hk1 : ¬ 9223372036854775807 < (fieldF p xa xb).size + 1 := by omega
   go_wp2_with (go_at_call 166; refine (Hft.out _ hrc.out hp).mono ?_; rintro e w4 ⟨rfl, hb4⟩)
   go_ret3
   exact HP.out _ _ Hf.out (hw1.trans (hb4.mono hz))
 · have Hf := Lib.hid (show effF p mine ⟨26, xa, xb, xn⟩ = (sR ++ fieldF p xa xb, sE, true) from rfl)
   clear hA
   have hk1 : ¬ 9223372036854775807 < (fieldF p xa xb).size + 1 := by omega
   go_wp2_with (go_at_call 166; refine (Hft.out _ hrc.out hp).mono ?_; rintro e w4 ⟨rfl, hb4⟩)
   go_ret3
   exact HP.out _ _ Hf.out (hw1.trans (hb4.mono hz))
 · have Hf := Lib.hid (show effF p mine ⟨27, xa, xb, xn⟩ = (sR, sI, true) from rfl)
   clear hA
   go_wp2
   go_ret3
   exact HP.out _ _ Hf.out hw1
 · have Hf := Lib.hid (show effF p mine ⟨28, xa, xb, xn⟩ = (sI, sR, true) from rfl)
   clear hA
   go_wp2
   go_ret3
   exact HP.out _ _ Hf.out hw1
 · have Hf := Lib.hid (show effF p mine ⟨29, xa, xb, xn⟩ = (sRI, atB sIRs xa, true) from rfl)
   clear hA
   have hk1 : ¬ 9223372036854775807 < (atB sIRs xa).size + 2 := by omega
   go_wp2_with (go_at_call 165; refine (at_str sIRs _ _ (by decide)).mono ?_; rintro e w4 ⟨rfl, rfl⟩)
   go_ret3
   exact HP.out _ _ Hf.out hw1
 · have Hf := Lib.hid (show effF p mine ⟨30, xa, xb, xn⟩ = (sRI ++ atB sIRs xa, sE, true) from rfl)
   clear hA
   have hk1 : ¬ 9223372036854775807 < (atB sIRs xa).size + 2 := by omega
   go_wp2_with (go_at_call 165; refine (at_str sIRs _ _ (by decide)).mono ?_; rintro e w4 ⟨rfl, rfl⟩)
   go_ret3
   exact HP.out _ _ Hf.out hw1
 · have Hf := Lib.hid (show effF p mine ⟨31, xa, xb, xn⟩ = (sR, sI, true) from rfl)
   clear hA
   go_wp2
   go_ret3
   exact HP.out _ _ Hf.out hw1
 · have Hf := Lib.hid (show effF p mine ⟨32, xa, xb, xn⟩ = ((methodF p xa).pa, (methodF p xa).re, true) from rfl)
   clear hA
   go_wp2_with fail
   refine (Hmt2.out _ hrm.out hp.ms).mono ?_
   rintro e w4 ⟨A2, c2, rfl, hb4⟩
   generalize methodF p xa = m2 at *
   have hw4 := (hw1.trans (hb4.mono hz)).alloc (Nat.le_trans hz hb4.size) (.cells #[.string m2.pa, .string m2.lo, .string m2.re, .slice A2 m2.code.length c2] 90)
   go_wp2
   go_quiet (fail)
   go_wp2
   go_ret3
   exact HP.out _ _ Hf.out (below_drewN hw4 _)
 · have Hf := Lib.hid (show effF p mine ⟨33, xa, xb, xn⟩ = (mine.re, sE, true) from rfl)
   clear hA
   go_wp2
   go_ret3
   exact HP.out _ _ Hf.out hw1
 · have Hf := Lib.hid (show effF p mine ⟨34, xa, xb, xn⟩ = (sE, sI, true) from rfl)
   clear hA
   go_wp2
   go_ret3
   exact HP.out _ _ Hf.out hw1
 · have Hf := Lib.hid (show effF p mine ⟨35, xa, xb, xn⟩ = (sI, sE, true) from rfl)
   clear hA
   go_wp2
   go_ret3
   exact HP.out _ _ Hf.out hw1
 · have Hf := Lib.hid (show effF p mine ⟨op, xa, xb, xn⟩ = (sE, sE, false) by unfold effF; rw [if_neg hA]; simp [*])
   have hg : decide (8 ≤ op) = false ∨ decide (op ≤ 20) = false ∨ (op != 18) = false := by
    simp only [decide_eq_false_iff_not, bne_eq_false_iff_eq]
    omega
   have g1 : (op == 1) = false := by simp; omega
   have g2 : (op == 2) = false := by simp; omega
   have g3 : (op == 3) = false := by simp; omega
   have g4 : (op == 4) = false := by simp; omega
   have g18 : (op == 18) = false := by simp; omega
   have g21 : (op == 21) = false := by simp; omega
   have g22 : (op == 22) = false := by simp; omega
   have g23 : (op == 23) = false := by simp; omega
   have g24 : (op == 24) = false := by simp; omega
   have g25 : (op == 25) = false := by simp; omega
   have g26 : (op == 26) = false := by simp; omega
   have g27 : (op == 27) = false := by simp; omega
   have g28 : (op == 28) = false := by simp; omega
   have g29 : (op == 29) = false := by simp; omega
   have g30 : (op == 30) = false := by simp; omega
   have g31 : (op == 31) = false := by simp; omega
   have g32 : (op == 32) = false := by simp; omega
   have g33 : (op == 33) = false := by simp; omega
   have g34 : (op == 34) = false := by simp; omega
   have g35 : (op == 35) = false := by simp; omega
   clear hA n1 n2 n3 n4 n18 n21 n22 n23 n24 n25 n26 n27 n28 n29 n30 n31 n32 n33 n34 n35
   rcases hg with hg | hg | hg
   · go_wp2
     go_ret3
     exact HP.out _ _ Hf.out hw1
   · go_wp2
     all_goals
      go_ret3
      exact HP.out _ _ Hf.out hw1
   · go_wp2
     all_goals
      go_ret3
      exact HP.out _ _ Hf.out hw1
end Go.Proofs.YtjjmpfmhggcjiaaGreatDoor
namespace Go.Proofs.YtjjmpfmhggcjiaaGreatDoor
/-- The edges of rows of integers: those that name a place. -/
def EI (g : List (List Int)) (p k : Nat) : Prop := k < g.length ∧ (k : Int) ∈ g.getD p []
section
variable {E : Nat → Nat → Prop}
end
section
variable {g : List (List Int)} {x : Int} {seen : List Bool} {todo cur : List Nat}
end
/-! ### a tree -/
structure TreeOk (E : Nat → Nat → Prop) (n : Nat) (idm dep : List Int) : Prop where
 li : idm.length = n
 ld : dep.length = n
 root : 0 < n → idm.getD 0 0 = -1 ∧ dep.getD 0 0 = 0
 out : ∀ k, k < n → ¬ Reach E k → idm.getD k 0 = -1
 up : ∀ k, k < n → k ≠ 0 → Reach E k → ∃ u : Nat, idm.getD k 0 = u ∧ u < n ∧ Reach E u ∧ (∀ x, x ≠ k → (Dm E x k ↔ Dm E x u)) ∧ dep.getD k 0 = dep.getD u 0 + 1 ∧ 0 ≤ dep.getD u 0
section
variable {E : Nat → Nat → Prop} {n : Nat} {idm dep : List Int}
theorem TreeOk.dep0 (T : TreeOk E n idm dep) {k : Nat} (hk : k < n) (hr : Reach E k) : 0 ≤ dep.getD k 0 := by
 by_cases h0 : k = 0
 · subst h0; rw [(T.root hk).2]; omega
 · obtain ⟨u, _, _, _, _, h1, h2⟩ := T.up k hk h0 hr
   omega
theorem TreeOk.low (T : TreeOk E n idm dep) (a : Nat) : ∀ (d b : Nat), b < n → Reach E b → (dep.getD b 0).toNat ≤ d → Dm E a b → a = b ∨ dep.getD a 0 < dep.getD b 0 := by
 intro d
 induction d with
 | zero =>
   intro b hb hr hd ha
   by_cases h0 : b = 0
   · subst h0; exact .inl ha.zero_of
   · obtain ⟨u, _, _, _, _, h1, h2⟩ := T.up b hb h0 hr
     omega
 | succ d ih =>
   intro b hb hr hd ha
   by_cases h0 : b = 0
   · subst h0; exact .inl ha.zero_of
   · by_cases e : a = b
     · exact .inl e
     · obtain ⟨u, _, hu, hru, h3, h1, h2⟩ := T.up b hb h0 hr
       rcases ih u hu hru (by omega) ((h3 a e).1 ha) with rfl | h
       · exact .inr (by omega)
       · exact .inr (by omega)
/-- Behind the loop of Above. -/
theorem TreeOk.above_end (T : TreeOk E n idm dep) {a b : Nat} (hb : b < n) (hr : Reach E b) (hd : dep.getD b 0 ≤ dep.getD a 0) : Dm E a b ↔ a = b := by
 constructor
 · intro h
   rcases T.low a _ b hb hr (Nat.le_refl _) h with h | h
   · exact h
   · omega
 · rintro rfl
   exact Dm.refl hr
/-- A round of it. -/
theorem TreeOk.above_step (T : TreeOk E n idm dep) {a b : Nat} (ha : a < n) (hra : Reach E a) (hb : b < n) (hr : Reach E b) (hd : dep.getD a 0 < dep.getD b 0) :
 ∃ u : Nat, idm.getD b 0 = u ∧ u < n ∧ Reach E u ∧ (Dm E a b ↔ Dm E a u) ∧ dep.getD b 0 = dep.getD u 0 + 1 := by
 have h0 : b ≠ 0 := fun e => by
  subst e
  have := T.dep0 ha hra
  rw [(T.root hb).2] at hd
  omega
 obtain ⟨u, h1, h2, h3, h4, h5, _⟩ := T.up b hb h0 hr
 exact ⟨u, h1, h2, h3, h4 a (fun e => by subst e; omega), h5⟩
theorem TreeOk.there (T : TreeOk E n idm dep) {k : Nat} (hk : k < n) (h0 : k ≠ 0) : (idm.getD k 0 ≠ -1) ↔ Reach E k := by
 constructor
 · intro h
   by_cases hr : Reach E k
   · exact hr
   · exact absurd (T.out k hk hr) h
 · intro hr
   obtain ⟨u, h1, _⟩ := T.up k hk h0 hr
   omega
end
end Go.Proofs.YtjjmpfmhggcjiaaGreatDoor
namespace Go.Proofs.YtjjmpfmhggcjiaaGreatDoor
section
variable {P : Program} {ops : Array Oper} {Q : Exit → Act → World → Prop} {md : Region.Mode}
end
end Go.Proofs.YtjjmpfmhggcjiaaGreatDoor
namespace Go.Proofs.YtjjmpfmhggcjiaaGreatDoor
def nats (l : List Nat) : List Int := l.map Int.ofNat
def addE (n : Nat) (acc : List Nat) (k : Int) : List Nat := if 0 ≤ k ∧ k < n ∧ k.toNat ∉ acc then acc ++ [k.toNat] else acc
def cleanRow (n : Nat) (l : List Int) : List Nat := l.foldl (addE n) []
def cleanF (g : List (List Int)) : List (List Nat) := g.map (cleanRow g.length)
section
variable {n : Nat} {g : List (List Int)}
theorem cleanRow_snoc (l : List Int) (k : Int) : cleanRow n (l ++ [k]) = addE n (cleanRow n l) k := by simp [cleanRow, List.foldl_append]
theorem mem_addE {acc : List Nat} {k : Int} {j : Nat} : j ∈ addE n acc k ↔ j ∈ acc ∨ (j < n ∧ (j : Int) = k) := by
 unfold addE
 split
 · rename_i h
   simp only [List.mem_append, List.mem_singleton]
   constructor
   · rintro (h1 | rfl)
     · exact .inl h1
     · exact .inr ⟨by omega, by omega⟩
   · rintro (h1 | ⟨_, h2⟩)
     · exact .inl h1
     · exact .inr (by omega)
 · rename_i h
   constructor
   · exact .inl
   · rintro (h1 | ⟨h2, h3⟩)
     · exact h1
     · subst h3
       by_cases hj : j ∈ acc
       · exact hj
       · exact absurd ⟨by omega, by omega, by simpa using hj⟩ h
theorem mem_cleanRow {l : List Int} {j : Nat} : j ∈ cleanRow n l ↔ j < n ∧ (j : Int) ∈ l := by
 have key : ∀ (l : List Int) (acc : List Nat), j ∈ l.foldl (addE n) acc ↔ j ∈ acc ∨ (j < n ∧ (j : Int) ∈ l) := by
  intro l
  induction l with
  | nil => simp
  | cons k l ih =>
    intro acc
    rw [List.foldl_cons, ih, mem_addE]
    simp only [List.mem_cons]
    constructor
    · rintro ((h | ⟨h1, h2⟩) | ⟨h1, h2⟩)
      · exact .inl h
      · exact .inr ⟨h1, .inl h2⟩
      · exact .inr ⟨h1, .inr h2⟩
    · rintro (h | ⟨h1, h2 | h2⟩)
      · exact .inl (.inl h)
      · exact .inl (.inr ⟨h1, h2⟩)
      · exact .inr ⟨h1, h2⟩
 have := key l []
 simpa [cleanRow] using this
theorem cleanRow_nodup (l : List Int) : (cleanRow n l).Nodup := by
 have key : ∀ (l : List Int) (acc : List Nat), acc.Nodup → (l.foldl (addE n) acc).Nodup := by
  intro l
  induction l with
  | nil => intro acc h; exact h
  | cons k l ih =>
    intro acc h
    rw [List.foldl_cons]
    refine ih _ ?_
    unfold addE
    split
    · rename_i h1
      rw [List.nodup_append]
      exact ⟨h, by simp, fun x hx y hy e => by simp at hy; subst hy e; exact h1.2.2 hx⟩
    · exact h
 exact key l [] List.nodup_nil
theorem cleanRow_len (l : List Int) : (cleanRow n l).length ≤ n := by
 have := nodup_le (cleanRow n l) (List.range n) (cleanRow_nodup l) fun x hx => List.mem_range.2 (mem_cleanRow.1 hx).1
 simpa using this
theorem cleanF_len : (cleanF g).length = g.length := by simp [cleanF]
theorem cleanF_at (p : Nat) : (cleanF g).getD p [] = if p < g.length then cleanRow g.length (g.getD p []) else [] := by
 unfold cleanF
 split
 · rename_i h; simp [h]
 · rename_i h
   rw [List.getD_eq_getElem?_getD, List.getElem?_eq_none (by simp; omega)]
   rfl
theorem eg_clean (p k : Nat) : EG (cleanF g) p k ↔ EI g p k := by
 unfold EG EI
 rw [cleanF_at]
 split
 · rw [mem_cleanRow]
 · rename_i h
   rw [List.getD_eq_getElem?_getD, List.getElem?_eq_none (by omega)]
   simp
/-- Who goes on to k among the first i places, and of place i by its first j edges. -/
def predsTo (c : List (List Nat)) (i j k : Nat) : List Nat := (List.range i).filter (fun p => decide (k ∈ c.getD p [])) ++ (if k ∈ (c.getD i []).take j then [i] else [])
def predsF (c : List (List Nat)) : List (List Nat) := (List.range c.length).map fun k => (List.range c.length).filter (fun p => decide (k ∈ c.getD p []))
variable {c : List (List Nat)}
theorem predsTo_row {i j : Nat} (hj : (c.getD i []).length ≤ j) (k : Nat) : predsTo c i j k = predsTo c (i + 1) 0 k := by
 unfold predsTo
 rw [List.take_of_length_le hj, List.range_succ, List.filter_append]
 generalize hf : (fun p => decide (k ∈ c.getD p [])) = f
 have hfi : f i = decide (k ∈ c.getD i []) := by rw [← hf]
 by_cases h : k ∈ c.getD i []
 · simp only [h, decide_true] at hfi
   rw [if_pos h]
   simp [hfi]
 · simp only [h, decide_false] at hfi
   rw [if_neg h]
   simp [hfi]
theorem predsTo_step {i j q : Nat} (hn : (c.getD i []).Nodup) (hq : (c.getD i [])[j]? = some q) (k : Nat) : predsTo c i (j + 1) k = if k = q then predsTo c i j k ++ [i] else predsTo c i j k := by
 obtain ⟨hj, hjq⟩ := List.getElem?_eq_some_iff.1 hq
 have ht : (c.getD i []).take (j + 1) = (c.getD i []).take j ++ [q] := by rw [List.take_succ_eq_append_getElem hj, hjq]
 have hnot : q ∉ (c.getD i []).take j := fun h => by
  have h2 : ((c.getD i []).take (j + 1)).Nodup := hn.sublist (List.take_sublist _ _)
  rw [ht, List.nodup_append] at h2
  exact h2.2.2 q h q (by simp) rfl
 unfold predsTo
 rw [ht]
 generalize (c.getD i []).take j = l at *
 by_cases e : k = q
 · subst e
   simp [hnot]
 · simp [e]
end
end Go.Proofs.YtjjmpfmhggcjiaaGreatDoor
namespace Go.Proofs.YtjjmpfmhggcjiaaGreatDoor
/-- A row of integers as who stands right above (-1: nobody yet). -/
def idOf (l : List Int) (k : Nat) : Option Nat := if l.getD k (-1) < 0 then none else some (l.getD k (-1)).toNat
section
variable {l : List Int} {k u : Nat}
theorem idOf_set (h : k < l.length) : idOf (l.set k (u : Int)) = updF (idOf l) k (some u) := by
 funext j
 unfold idOf updF
 by_cases e : j = k
 · subst e
   simp [h]
 · have e' : ¬ k = j := fun h => e h.symm
   simp [e, e']
theorem idOf_some (h : idOf l k = some u) : l.getD k (-1) = u := by
 unfold idOf at h
 split at h
 · cases h
 · cases h; omega
theorem idOf_none (hn : l.getD k (-1) = -1 ∨ 0 ≤ l.getD k (-1)) (h : idOf l k = none) : l.getD k (-1) = -1 := by
 unfold idOf at h
 split at h
 · omega
 · cases h
theorem idOf_lt (h : idOf l k = some u) : k < l.length := by
 by_cases hk : k < l.length
 · exact hk
 · unfold idOf at h
   rw [List.getD_eq_getElem?_getD, List.getElem?_eq_none (by omega)] at h
   simp at h
theorem getD_neg {k : Nat} (hk : k < l.length) : l.getD k (-1) = l.getD k 0 := by simp [hk]
end
section
variable {E : Nat → Nat → Prop} {order : List Nat} {pos tp : Nat → Nat} {n : Nat} {idl : List Int} {r : Nat → Nat} {R m k u : Nat} {ch : Bool}
/-- A new round: the first place is looked at by the way. -/
theorem Inv.bump (I : Inv E order pos tp (idOf idl) r) (R : Nat) : Inv E order pos tp (idOf idl) (updN r 0 R) := by
 refine ⟨I.zero, I.up, I.A, fun x j hj ha hc => ?_⟩
 by_cases e : j = 0
 · subst e
   exact ha.ne hc.zero_eq
 · exact I.B x j hj (by simpa [updN, e] using ha) hc
structure SetR (E : Nat → Nat → Prop) (order : List Nat) (pos tp : Nat → Nat) (n : Nat) (idl : List Int) (r : Nat → Nat) (R m : Nat) (ch : Bool) : Prop where
 len : idl.length = n
 neg : ∀ k, idl.getD k (-1) = -1 ∨ 0 ≤ idl.getD k (-1)
 inv : Inv E order pos tp (idOf idl) r
 bef : ∀ j, j ∈ order → pos j < m → (idOf idl j).isSome = true ∧ R ≤ r j
 aft : 1 ≤ R → ∀ j, j ∈ order → (idOf idl j).isSome = true ∧ R - 1 ≤ r j
 top : ∀ j, (idOf idl j).isSome = true → r j ≤ R
 fix : ch = false → ∀ k, k ∈ order → k ≠ 0 → pos k < m → ∀ u, idOf idl k = some u → ∀ x, Ch (idOf idl) x u → ∀ p, E p k → (idOf idl p).isSome = true → Ch (idOf idl) x p
 few : order.length + 1 ≤ R → ch = false
/-- What the meeting of all that go on to a place is. -/
structure Meets (E : Nat → Nat → Prop) (idl : List Int) (k u : Nat) : Prop where
 is : (idOf idl u).isSome = true
 all : ∀ x, Ch (idOf idl) x u ↔ ∀ p, E p k → (idOf idl p).isSome = true → Ch (idOf idl) x p
theorem SetR.begin0 (hn : 0 < n) (h0 : pos 0 = 0) (O : Ordd E order pos tp) : SetR E order pos tp n ((List.replicate n (-1)).set 0 0) (fun _ => 0) 0 1 false := by
 have hg : ∀ k, ((List.replicate n (-1 : Int)).set 0 0).getD k (-1) = if k = 0 then 0 else -1 := fun k => by
  by_cases e : k = 0
  · subst e; simp [hn]
  · have e' : ¬ 0 = k := fun h => e h.symm
    simp only [List.getD_eq_getElem?_getD, List.getElem?_set_ne e', List.getElem?_replicate, if_neg e]
    split <;> rfl
 have hid : ∀ k, idOf ((List.replicate n (-1 : Int)).set 0 0) k = if k = 0 then some 0 else none := fun k => by
  unfold idOf
  rw [hg]
  by_cases e : k = 0 <;> simp [e]
 have hk0 : ∀ k, (idOf ((List.replicate n (-1 : Int)).set 0 0) k).isSome = true → k = 0 := fun k h => by
  rw [hid] at h
  split at h
  · assumption
  · cases h
 refine ⟨by simp, fun k => by rw [hg]; split <;> omega, ⟨by rw [hid]; simp, fun k u h h1 => ?_, fun x k hd h => ?_, fun x k h ha hc => ?_⟩, fun j hj hp => ?_, by omega, fun _ _ => Nat.le_refl _, fun _ k hk hk0 hp => ?_, by omega⟩
 · rw [hid, if_neg h1] at h; cases h
 · obtain rfl := hk0 k h
   rw [hd.zero_of]
   exact .refl
 · obtain rfl := hk0 k h
   exact ha.ne hc.zero_eq
 · have : j = 0 := O.inj j 0 hj ((O.mem 0).2 .zero) (by omega)
   subst this
   exact ⟨by rw [hid]; rfl, Nat.le_refl _⟩
 · have : k = 0 := O.inj k 0 hk ((O.mem 0).2 .zero) (by omega)
   exact absurd this hk0
theorem SetR.again (S : SetR E order pos tp n idl r R order.length true) (O : Ordd E order pos tp) (h0 : pos 0 = 0) (hpos : ∀ j, j ∈ order → pos j < order.length) : SetR E order pos tp n idl (updN r 0 (R + 1)) (R + 1) 1 false := by
 have hR : R ≤ order.length := by
  by_cases h : order.length + 1 ≤ R
  · cases S.few h
  · omega
 have hz : ∀ j, j ∈ order → pos j < 1 → j = 0 := fun j hj hp => O.inj j 0 hj ((O.mem 0).2 .zero) (by omega)
 refine ⟨S.len, S.neg, S.inv.bump _, fun j hj hp => ?_, fun _ j hj => ?_, fun j hj => ?_, fun _ k hk hk0 hp => absurd (hz k hk hp) hk0, fun _ => rfl⟩
 · obtain rfl := hz j hj hp
   exact ⟨(S.bef 0 hj (by have := hpos 0 hj; omega)).1, by simp [updN]⟩
 · obtain ⟨h1, h2⟩ := S.bef j hj (hpos j hj)
   refine ⟨h1, ?_⟩
   unfold updN
   split <;> omega
 · have := S.top j hj
   unfold updN
   split <;> omega
theorem SetR.same (S : SetR E order pos tp n idl r R m ch) (O : Ordd E order pos tp) (hk : k ∈ order) (hk0 : k ≠ 0) (hm : pos k = m) (hu : idOf idl k = some u) (M : Meets E idl k u) :
 SetR E order pos tp n idl (updN r k R) R (m + 1) ch := by
 have hset : idl.set k (u : Int) = idl := by
  have hl := idOf_lt hu
  have := idOf_some hu
  apply List.ext_getElem?
  intro j
  by_cases e : k = j
  · subst e
    rw [List.getElem?_set_self hl, List.getElem?_eq_getElem hl]
    rw [List.getD_eq_getElem?_getD, List.getElem?_eq_getElem hl] at this
    simp at this
    rw [this]
  · rw [List.getElem?_set_ne e]
 have hI := S.inv.look O hk hk0 (fun j hj hp => S.bef j hj (by omega)) S.aft S.top M.is M.all
 rw [← idOf_set (idOf_lt hu), hset] at hI
 refine ⟨S.len, S.neg, hI, fun j hj hp => ?_, fun h1 j hj => ?_, fun j hj => ?_, fun hc j hj hj0 hp v hv x hx p e hp' => ?_, S.few⟩
 · by_cases e : j = k
   · subst e; exact ⟨by rw [hu]; rfl, by simp [updN]⟩
   · have hne : pos j ≠ m := fun h => e (O.inj j k hj hk (by omega))
     simpa [updN, e] using S.bef j hj (by omega)
 · obtain ⟨h2, h3⟩ := S.aft h1 j hj
   refine ⟨h2, ?_⟩
   unfold updN
   split <;> omega
 · have := S.top j hj
   unfold updN
   split <;> omega
 · by_cases e' : j = k
   · subst e'
     rw [hu] at hv
     cases hv
     exact (M.all x).1 hx p e hp'
   · have hne : pos j ≠ m := fun h => e' (O.inj j k hj hk (by omega))
     exact S.fix hc j hj hj0 (by omega) v hv x hx p e hp'
theorem SetR.turn (S : SetR E order pos tp n idl r R m ch) (O : Ordd E order pos tp) (hk : k ∈ order) (hkn : k < n) (hk0 : k ≠ 0) (hm : pos k = m) (M : Meets E idl k u) (hne : idOf idl k ≠ some u) :
 SetR E order pos tp n (idl.set k (u : Int)) (updN r k R) R (m + 1) true := by
 have hkl : k < idl.length := by rw [S.len]; exact hkn
 have hI := S.inv.look O hk hk0 (fun j hj hp => S.bef j hj (by omega)) S.aft S.top M.is M.all
 have hid := idOf_set (u := u) hkl
 rw [← hid] at hI
 have hsome : ∀ j, (idOf idl j).isSome = true → (idOf (idl.set k (u : Int)) j).isSome = true := fun j h => by
  rw [hid]
  unfold updF
  split
  · rfl
  · exact h
 refine ⟨by simp [S.len], fun j => ?_, hI, fun j hj hp => ?_, fun h1 j hj => ?_, fun j hj => ?_, by simp, fun hR => ?_⟩
 · by_cases e : j = k
   · subst e; simp [hkl]
   · have e' : ¬ k = j := fun h => e h.symm
     have := S.neg j
     simpa [e'] using this
 · by_cases e : j = k
   · subst e; exact ⟨by rw [hid]; simp [updF], by simp [updN]⟩
   · have hne : pos j ≠ m := fun h => e (O.inj j k hj hk (by omega))
     obtain ⟨h1, h2⟩ := S.bef j hj (by omega)
     exact ⟨hsome j h1, by simpa [updN, e] using h2⟩
 · obtain ⟨h2, h3⟩ := S.aft h1 j hj
   refine ⟨hsome j h2, ?_⟩
   unfold updN
   split <;> omega
 · unfold updN
   split
   · exact Nat.le_refl _
   · rename_i e
     refine S.top j ?_
     rw [hid] at hj
     simpa [updF, e] using hj
 · exfalso
   have hall : ∀ j, j ∈ order → (idOf idl j).isSome = true := fun j hj => (S.aft (by omega) j hj).1
   obtain ⟨v, hv⟩ := Option.isSome_iff_exists.1 (hall k hk)
   have hfull := fun x j hj => S.inv.full O hall (fun j hj => by have := (S.aft (by omega) j hj).2; omega) x j hj
   have := S.inv.still O hall hfull hk hk0 hv M.is M.all
   subst this
   exact hne hv
/-- It is done. -/
theorem SetR.fin (S : SetR E order pos tp n idl r R order.length false) (O : Ordd E order pos tp) (hpos : ∀ j, j ∈ order → pos j < order.length) (hk : k ∈ order) (hk0 : k ≠ 0) :
 ∃ u : Nat, idl.getD k (-1) = u ∧ u ∈ order ∧ pos u < pos k ∧ ∀ x, x ≠ k → (Dm E x k ↔ Dm E x u) := by
 have hall : ∀ j, j ∈ order → (idOf idl j).isSome = true := fun j hj => (S.bef j hj (hpos j hj)).1
 have hd := fun x j hj => S.inv.done O hall (fun k u hk hk0 hu => S.fix rfl k hk hk0 (hpos k hk) u hu) x j hj
 obtain ⟨u, hu⟩ := Option.isSome_iff_exists.1 (hall k hk)
 have hus := (S.inv.up k u hu hk0).2.2
 have huo := S.inv.mem O hus
 refine ⟨u, idOf_some hu, huo, S.inv.lt O hu hk0, fun x hx => ?_⟩
 rw [← hd x k hk, ← hd x u huo]
 exact ⟨fun h => h.up_of hx hu, fun h => .up hk0 hu h⟩
/-- Nobody stands above what cannot be reached. -/
theorem SetR.out (S : SetR E order pos tp n idl r R m ch) (O : Ordd E order pos tp) {k : Nat} (hk : k ∉ order) : idl.getD k (-1) = -1 := by
 refine idOf_none (S.neg k) ?_
 cases h : idOf idl k with
 | none => rfl
 | some u => exact absurd (S.inv.mem O (by rw [h]; rfl)) hk
/-- A part of those that go on to a place has met. -/
structure MeetTo (idl : List Int) (P : List Nat) (up : Int) : Prop where
 no : up = -1 → ∀ p, p ∈ P → idOf idl p = none
 yes : up ≠ -1 → ∃ u : Nat, up = u ∧ (idOf idl u).isSome = true ∧ ∀ x, Ch (idOf idl) x u ↔ ∀ p, p ∈ P → (idOf idl p).isSome = true → Ch (idOf idl) x p
theorem MeetTo.start (idl : List Int) : MeetTo idl [] (-1) := ⟨fun _ p hp => (by cases hp), fun h => absurd rfl h⟩
theorem MeetTo.skip {P : List Nat} {up : Int} {p : Nat} (T : MeetTo idl P up) (h : idOf idl p = none) : MeetTo idl (P ++ [p]) up := by
 refine ⟨fun e q hq => ?_, fun e => ?_⟩
 · simp at hq
   rcases hq with hq | rfl
   · exact T.no e q hq
   · exact h
 · obtain ⟨u, h1, h2, h3⟩ := T.yes e
   refine ⟨u, h1, h2, fun x => (h3 x).trans ⟨fun hh q hq hs => ?_, fun hh q hq hs => hh q (by simp [hq]) hs⟩⟩
   simp at hq
   rcases hq with hq | rfl
   · exact hh q hq hs
   · rw [h] at hs; cases hs
theorem MeetTo.first {P : List Nat} {p : Nat} (T : MeetTo idl P (-1)) (h : (idOf idl p).isSome = true) : MeetTo idl (P ++ [p]) (p : Int) := by
 refine ⟨fun e => by omega, fun _ => ⟨p, rfl, h, fun x => ⟨fun hx q hq hs => ?_, fun hh => hh p (by simp) h⟩⟩⟩
 simp at hq
 rcases hq with hq | rfl
 · rw [T.no rfl q hq] at hs; cases hs
 · exact hx
theorem MeetTo.meet {P : List Nat} {a p v : Nat} (T : MeetTo idl P (a : Int)) (h : (idOf idl p).isSome = true) (hv : (idOf idl v).isSome = true) (hm : ∀ x, Ch (idOf idl) x v ↔ Ch (idOf idl) x a ∧ Ch (idOf idl) x p) : MeetTo idl (P ++ [p]) (v : Int) := by
 refine ⟨fun e => by omega, fun _ => ⟨v, rfl, hv, fun x => ?_⟩⟩
 obtain ⟨u, h1, h2, h3⟩ := T.yes (by omega)
 obtain rfl : a = u := by omega
 rw [hm x, h3 x]
 constructor
 · rintro ⟨g1, g2⟩ q hq hs
   simp at hq
   rcases hq with hq | rfl
   · exact g1 q hq hs
   · exact g2
 · intro g
   exact ⟨fun q hq hs => g q (by simp [hq]) hs, g p (by simp) h⟩
theorem MeetTo.all {P : List Nat} {up : Int} (T : MeetTo idl P up) (hP : ∀ p, E p k → (idOf idl p).isSome = true → p ∈ P) (hE : ∀ p, p ∈ P → E p k) {p0 : Nat} (hp0 : E p0 k) (hs0 : (idOf idl p0).isSome = true) : ∃ u : Nat, up = u ∧ Meets E idl k u := by
 have hne : up ≠ -1 := fun e => by
  rw [T.no e p0 (hP p0 hp0 hs0)] at hs0
  cases hs0
 obtain ⟨u, h1, h2, h3⟩ := T.yes hne
 exact ⟨u, h1, h2, fun x => (h3 x).trans ⟨fun g p e hs => g p (hP p e hs) hs, fun g p hp hs => g p (hE p hp) hs⟩⟩
end
end Go.Proofs.YtjjmpfmhggcjiaaGreatDoor
namespace Go.Proofs.YtjjmpfmhggcjiaaGreatDoor
open Go.RowKit Go.Maps
theorem zeroCells_one (z0 : Value) (k : Nat) : (Builtin.zeroCells #[z0] k).toList = List.replicate k z0 := by
 apply List.ext_getElem
 · simp [Builtin.zeroCells]
 · intro i h1 h2
   simp [Builtin.zeroCells, Nat.mod_one]
end Go.Proofs.YtjjmpfmhggcjiaaGreatDoor
