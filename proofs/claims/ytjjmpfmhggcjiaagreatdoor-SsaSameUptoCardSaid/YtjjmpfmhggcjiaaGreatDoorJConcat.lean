/-
 PgSmall, PgRef, PgKinds, PgEff2, PgRefIns, PgZeros, Concat, PgRefMay.
-/
import Derived.Deep.CutBlock
import Derived.Deep.RegionHeld3
import Derived.Lib.AppendZerosOnto
import Derived.StillTailTactics
import Derived.Test.YtjjmpfmhggcjiaaGreatDoorJSee2
import Derived.Test.YtjjmpfmhggcjiaaGreatDoorJWr1
import Derived.Test.YtjjmpfmhggcjiaaGreatDoorJPgFair
set_option linter.unusedSimpArgs false
set_option linter.unusedVariables false
namespace Go.Proofs.YtjjmpfmhggcjiaaGreatDoor
open Go.RowKit Go.Maps
def atB (s : ByteArray) (i : Int) : ByteArray := if inB i s.size = true then s.extract i.toNat (i.toNat + 1) else ⟨#[]⟩
def methodF (p : Prg) (m : Int) : Mth := if inB m p.methods.length = true then p.methods.getD m.toNat default else default
def fieldF (p : Prg) (c i : Int) : ByteArray := if inB c p.classes.length = true then atB (p.classes.getD c.toNat ⟨#[]⟩) i else ⟨#[]⟩
theorem ret_str {a b : ByteArray} (h : a = b) : Ending.returned (.string a) = .returned (.string b) := by rw [h]
theorem at_str (s : ByteArray) (i : Int) (w : World) (hs : s.size ≤ 9223372036854775807) :
 Calls Tryz.prog 165 #[.string s, .int .i64 i] w fun e w' => e = .returned (.string (atB s i)) ∧ w = w' := by
 have hat := Lib.hid (show atB s i = if inB i s.size = true then s.extract i.toNat (i.toNat + 1) else ⟨#[]⟩ from rfl)
 cases hi : inB i s.size with
 | false =>
   rw [hi] at hat
   go_enter Tryz.func165, Tryz.ntmps165
   go_wp2_with (go_at_call 116; refine (in_any _ _ _).mono ?_; rintro e w' ⟨rfl, rfl⟩)
   go_ret
   exact ⟨ret_str (by rw [hat.out]; rfl), rfl⟩
 | true =>
   rw [hi] at hat
   have hx := in_true hi
   obtain ⟨k, rfl⟩ : ∃ k : Nat, i = k := ⟨i.toNat, by omega⟩
   have hks : k < s.size := by omega
   have k0 : (0 : Int) ≤ k := by omega
   go_enter Tryz.func165, Tryz.ntmps165
   go_wp2_with (go_at_call 116; refine (in_any _ _ _).mono ?_; rintro e w' ⟨rfl, rfl⟩)
   go_ret
   exact ⟨ret_str (by rw [hat.out]; rfl), rfl⟩
def MethodPost (w : World) (m : Mth) (e : Ending) (w' : World) : Prop := ∃ A c, e = .returned (mv A c m) ∧ Below w.heap.size w w'
set_option maxHeartbeats 1000000 in
theorem method_any (Ac Am : Option Addr) (cc cm : Nat) (p : Prg) (m : Int) (w : World) (hr : RdMs w w.heap.size Am p.methods) (_ : p.methods.length ≤ 9223372036854775807) :
 Calls Tryz.prog 164 #[pv Ac cc Am cm p, .int .i64 m] w (MethodPost w (methodF p m)) := by
 have hmf := Lib.hid (show methodF p m = if inB m p.methods.length = true then p.methods.getD m.toNat default else default from rfl)
 cases hi : inB m p.methods.length with
 | false =>
   rw [hi] at hmf
   rw [hmf.out]
   go_enter Tryz.func164, Tryz.ntmps164
   go_wp2_with (go_at_call 116; refine (in_any _ _ _).mono ?_; rintro e w' ⟨rfl, rfl⟩)
   exact bodyPost_ret (v := mv none 0 default) (by simp [results, Tryz.results164, go_sem, default]) rfl ⟨_, _, rfl, ((Below.refl _ _).alloc (Nat.le_refl _) _).alloc (by simp) _⟩
 | true =>
   rw [hi] at hmf
   rw [hmf.out]
   have hx := in_true hi
   obtain ⟨k, rfl⟩ : ∃ k : Nat, m = k := ⟨m.toNat, by omega⟩
   have hks : k < p.methods.length := by omega
   have k0 : (0 : Int) ≤ k := by omega
   obtain ⟨b, off, Ai, ci, rfl, hbb, m0, m1, m2, m3, _⟩ := mth_at hr hks
   simp only [Int.toNat_natCast, if_true]
   generalize p.methods.getD k default = mm at *
   go_enter Tryz.func164, Tryz.ntmps164
   go_wp2_with (go_at_call 116; refine (in_any _ _ _).mono ?_; rintro e w' ⟨rfl, rfl⟩)
   exact bodyPost_ret (v := mv Ai ci mm) (by simp [results, Tryz.results164, go_sem]) rfl ⟨_, _, rfl, ((Below.refl _ _).alloc (Nat.le_refl _) _).alloc (by simp) _⟩
set_option maxHeartbeats 1000000 in
theorem field_any (Ac Am : Option Addr) (cc cm : Nat) (p : Prg) (m i : Int) (w : World) (hr : Rd w w.heap.size 1 Ac p.classes.length (p.classes.map Value.string)) (hp : POk p) :
 Calls Tryz.prog 166 #[pv Ac cc Am cm p, .int .i64 m, .int .i64 i] w fun e w' => e = .returned (.string (fieldF p m i)) ∧ Below w.heap.size w w' := by
 have hcl := hp.cl
 have hmf := Lib.hid (show fieldF p m i = if inB m p.classes.length = true then atB (p.classes.getD m.toNat ⟨#[]⟩) i else ⟨#[]⟩ from rfl)
 cases hi : inB m p.classes.length with
 | false =>
   rw [hi] at hmf
   go_enter Tryz.func166, Tryz.ntmps166
   go_wp2_with (go_at_call 116; refine (in_any _ _ _).mono ?_; rintro e w' ⟨rfl, rfl⟩)
   go_ret
   exact ⟨ret_str (by rw [hmf.out]; rfl), (Below.refl _ _).alloc (Nat.le_refl _) _⟩
 | true =>
   rw [hi] at hmf
   have hx := in_true hi
   obtain ⟨k, rfl⟩ : ∃ k : Nat, m = k := ⟨m.toNat, by omega⟩
   have hks : k < p.classes.length := by omega
   have k0 : (0 : Int) ≤ k := by omega
   obtain ⟨b, off, rfl, hbb, c1⟩ := str_at hr hks
   have hfs := hp.fs k hks
   have hmf2 := hmf.out
   simp only [Int.toNat_natCast, if_true] at hmf2
   have Hmf := Lib.hid hmf2
   clear hmf hmf2
   generalize p.classes.getD k ⟨#[]⟩ = s at *
   go_enter Tryz.func166, Tryz.ntmps166
   go_wp2_with (first | (go_at_call 116; refine (in_any _ _ _).mono ?_; rintro e w' ⟨rfl, rfl⟩) | (go_at_call 165; refine (at_str s i _ hfs).mono ?_; rintro e w' ⟨rfl, rfl⟩))
   go_ret
   exact ⟨ret_str (by rw [Hmf.out]), (Below.refl _ _).alloc (Nat.le_refl _) _⟩
end Go.Proofs.YtjjmpfmhggcjiaaGreatDoor
namespace Go.Proofs.YtjjmpfmhggcjiaaGreatDoor
open Go.RowKit Go.Maps
end Go.Proofs.YtjjmpfmhggcjiaaGreatDoor
namespace Go.Proofs.YtjjmpfmhggcjiaaGreatDoor
open Go.RowKit Go.Maps
end Go.Proofs.YtjjmpfmhggcjiaaGreatDoor
namespace Go.Proofs.YtjjmpfmhggcjiaaGreatDoor
open Go.RowKit Go.Maps
def sE : ByteArray := ⟨#[]⟩
def sI : ByteArray := ⟨#[73]⟩
def sR : ByteArray := ⟨#[82]⟩
def sII : ByteArray := ⟨#[73, 73]⟩
def sRR : ByteArray := ⟨#[82, 82]⟩
def sRI : ByteArray := ⟨#[82, 73]⟩
def sIRs : ByteArray := ⟨#[73, 82]⟩
abbrev Eff := ByteArray × ByteArray × Bool
/-- What an instruction of the method mine pops and pushes. -/
def effF (p : Prg) (mine : Mth) (x : Ins) : Eff :=
 if 8 ≤ x.op ∧ x.op ≤ 20 ∧ x.op ≠ 18 then (sII, sI, true)
 else if x.op = 1 ∨ x.op = 34 then (sE, sI, true)
 else if x.op = 2 ∨ x.op = 24 then (sE, sR, true)
 else if x.op = 3 then (sE, atB (mine.pa ++ mine.lo) x.a, true)
 else if x.op = 4 then (atB (mine.pa ++ mine.lo) x.a, sE, true)
 else if x.op = 18 then (sI, sI, true)
 else if x.op = 21 then (sRR, sI, true)
 else if x.op = 22 then (sE, sE, true)
 else if x.op = 23 ∨ x.op = 35 then (sI, sE, true)
 else if x.op = 25 then (sR, fieldF p x.a x.b, true)
 else if x.op = 26 then (sR ++ fieldF p x.a x.b, sE, true)
 else if x.op = 27 ∨ x.op = 31 then (sR, sI, true)
 else if x.op = 28 then (sI, sR, true)
 else if x.op = 29 then (sRI, atB sIRs x.a, true)
 else if x.op = 30 then (sRI ++ atB sIRs x.a, sE, true)
 else if x.op = 32 then ((methodF p x.a).pa, (methodF p x.a).re, true)
 else if x.op = 33 then (mine.re, sE, true)
 else (sE, sE, false)
def EffPost (w : World) (f : Eff) (e : Ending) (w' : World) : Prop := e = .returned (.tuple #[.string f.1, .string f.2.1, .bool f.2.2]) ∧ Below w.heap.size w w'
theorem atB_le (s : ByteArray) (i : Int) : (atB s i).size ≤ 1 := by
 unfold atB
 split
 · rw [ByteArray.size_extract]; omega
 · decide
theorem fieldF_le (p : Prg) (c i : Int) : (fieldF p c i).size ≤ 1 := by
 unfold fieldF
 split
 · exact atB_le _ _
 · decide
set_option maxRecDepth 100000 in
set_option maxHeartbeats 8000000 in
theorem effect_any (Ac Am : Option Addr) (cc cm : Nat) (p : Prg) (x : Ins) (m : Int) (w : World) (hr : RdP w w.heap.size Ac Am p) (hp : POk p) (hk : (methodF p m).pa.size + (methodF p m).lo.size ≤ 1000) :
 Calls Tryz.prog 119 #[pv Ac cc Am cm p, .int .i64 m, iv x] w (EffPost w (effF p (methodF p m) x)) := by
 obtain ⟨op, xa, xb, xn⟩ := x
 have hmt := method_any Ac Am cc cm p m
 have hmt2 := method_any Ac Am cc cm p xa
 have hft := field_any Ac Am cc cm p xa xb
 have Hmt := Lib.hid hmt
 have Hmt2 := Lib.hid hmt2
 have Hft := Lib.hid hft
 have hfs := fieldF_le p xa xb
 have has := atB_le sIRs xa
 clear hmt hmt2 hft
 have HE := Lib.hid (show effF p (methodF p m) ⟨op, xa, xb, xn⟩ = effF p (methodF p m) ⟨op, xa, xb, xn⟩ from rfl)
 have hPP : ∀ f w', effF p (methodF p m) ⟨op, xa, xb, xn⟩ = f → Below w.heap.size w w' → EffPost w (effF p (methodF p m) ⟨op, xa, xb, xn⟩) (.returned (.tuple #[.string f.1, .string f.2.1, .bool f.2.2])) w' := fun f w' e h => by rw [e]; exact ⟨rfl, h⟩
 have HP := Lib.hid hPP
 clear hPP HE
 generalize EffPost w (effF p (methodF p m) ⟨op, xa, xb, xn⟩) = Post at *
 go_enter Tryz.func119, Tryz.ntmps119
 have hw2 : Below w.heap.size w ((w.alloc (.cells #[.slice Ac p.classes.length cc, .slice Am p.methods.length cm] 25)).alloc (.cells #[.int .i64 op, .int .i64 xa, .int .i64 xb, .int .i64 xn] 118)) := ((Below.refl _ _).alloc (Nat.le_refl _) _).alloc (by simp) _
 have hbp := (Blk.new w 25 #[.slice Ac p.classes.length cc, .slice Am p.methods.length cm]).alloc (.cells #[.int .i64 op, .int .i64 xa, .int .i64 xb, .int .i64 xn] 118)
 have hbx := Blk.newAt (w := w.alloc (.cells #[.slice Ac p.classes.length cc, .slice Am p.methods.length cm] 25)) (g := w.heap.size + 1) (by simp) 118 #[.int .i64 op, .int .i64 xa, .int .i64 xb, .int .i64 xn]
 go_wp2_with fail
 refine (Hmt.out _ ((hr.ms.below hw2 (Nat.le_refl _)).more hw2.size) hp.ms).mono ?_
 rintro e w1 ⟨A1, c1, rfl, hb1⟩
 generalize methodF p m = mine at *
 have hw1 := (hw2.trans (hb1.mono hw2.size)).alloc (Nat.le_trans hw2.size hb1.size) (.cells #[.string mine.pa, .string mine.lo, .string mine.re, .slice A1 mine.code.length c1] 90)
 have dP := (hbp.below hb1 hbp.lt).alloc (.cells #[.string mine.pa, .string mine.lo, .string mine.re, .slice A1 mine.code.length c1] 90)
 have dX := (hbx.below hb1 hbx.lt).alloc (.cells #[.string mine.pa, .string mine.lo, .string mine.re, .slice A1 mine.code.length c1] 90)
 have dM := Blk.new w1 90 #[.string mine.pa, .string mine.lo, .string mine.re, .slice A1 mine.code.length c1]
 clear hw2 hbp hbx hb1
 go_upto_region 2 with (fail)
 generalize w1.alloc (.cells #[.string mine.pa, .string mine.lo, .string mine.re, .slice A1 mine.code.length c1] 90) = w3 at *
 generalize w1.heap.size = gm at *
 have p0 := dP.at0
 have p1 := dP.at1
 have i0 := dX.at0
 have i1 := dX.at1
 have i2 := dX.at2
 have i3 := dX.at3
 have m0 := dM.at0
 have m1 := dM.at1
 have m2 := dM.at2
 have m3 := dM.at3
 have lP := dP.lt
 have lX := dX.lt
 have lM := dM.lt
 have hz := hw1.size
 have hrc := Lib.hid ((hr.cl.below hw1 (Nat.le_refl _)).more hz)
 have hrm := Lib.hid ((hr.ms.below hw1 (Nat.le_refl _)).more hz)
 have hks : (mine.pa ++ mine.lo).size ≤ 9223372036854775807 := by rw [ByteArray.size_append]; omega
 clear hr
 by_cases hA : 8 ≤ op ∧ op ≤ 20 ∧ op ≠ 18
 · have Hf := Lib.hid (show effF p mine ⟨op, xa, xb, xn⟩ = (sII, sI, true) by unfold effF; rw [if_pos hA])
   obtain ⟨a1, a2, a3⟩ := hA
   have g1 : decide (8 ≤ op) = true := by simpa using a1
   have g2 : decide (op ≤ 20) = true := by simpa using a2
   have g3 : (op != 18) = true := by simpa using a3
   clear a1 a2 a3
   go_wp2
   go_ret3
   exact HP.out _ _ Hf.out hw1
 have hc : op = 1 ∨ op = 2 ∨ op = 3 ∨ op = 4 ∨ op = 18 ∨ op = 21 ∨ op = 22 ∨ op = 23 ∨ op = 24 ∨ op = 25 ∨ op = 26 ∨ op = 27 ∨ op = 28 ∨ op = 29 ∨ op = 30 ∨ op = 31 ∨ op = 32 ∨ op = 33 ∨ op = 34 ∨ op = 35 ∨ (op ≠ 1 ∧ op ≠ 2 ∧ op ≠ 3 ∧ op ≠ 4 ∧ op ≠ 18 ∧ op ≠ 21 ∧ op ≠ 22 ∧ op ≠ 23 ∧ op ≠ 24 ∧ op ≠ 25 ∧ op ≠ 26 ∧ op ≠ 27 ∧ op ≠ 28 ∧ op ≠ 29 ∧ op ≠ 30 ∧ op ≠ 31 ∧ op ≠ 32 ∧ op ≠ 33 ∧ op ≠ 34 ∧ op ≠ 35) := by omega
 rcases hc with rfl | rfl | rfl | rfl | rfl | rfl | rfl | rfl | rfl | rfl | rfl | rfl | rfl | rfl | rfl | rfl | rfl | rfl | rfl | rfl | ⟨n1, n2, n3, n4, n18, n21, n22, n23, n24, n25, n26, n27, n28, n29, n30, n31, n32, n33, n34, n35⟩
 · have Hf := Lib.hid (show effF p mine ⟨1, xa, xb, xn⟩ = (sE, sI, true) from rfl)
   clear hA
   go_wp2
   go_ret3
   exact HP.out _ _ Hf.out hw1
 · have Hf := Lib.hid (show effF p mine ⟨2, xa, xb, xn⟩ = (sE, sR, true) from rfl)
   clear hA
   go_wp2
   go_ret3
   exact HP.out _ _ Hf.out hw1
 · have Hf := Lib.hid (show effF p mine ⟨3, xa, xb, xn⟩ = (sE, atB (mine.pa ++ mine.lo) xa, true) from rfl)
   clear hA
   go_wp2
   go_region_held3 (fun w' => w'.cell? ⟨gm, 0, none⟩ = some (.string mine.pa) ∧ w'.cell? ⟨gm, 1, none⟩ = some (.string mine.lo) ∧ w'.cell? ⟨gm, 2, none⟩ = some (.string mine.re) ∧ w'.cell? ⟨gm, 3, none⟩ = some (.slice A1 mine.code.length c1) ∧ w'.cell? ⟨w.heap.size + 1, 1, none⟩ = some (.int .i64 xa))
    (first | exact ⟨m0, m1, m2, m3, i1⟩ | exact ⟨(dM.drew.below hb lM).at0, (dM.drew.below hb lM).at1, (dM.drew.below hb lM).at2, (dM.drew.below hb lM).at3, (dX.drew.below hb lX).at1⟩)
    (first | (go_at_call 117; refine (kinds_any _ _ _ _ hk).mono ?_; rintro e w' ⟨rfl, hb⟩) | (go_at_call 165; refine (at_str _ _ _ hks).mono ?_; rintro e w' ⟨rfl, rfl⟩))
   go_wp2
   go_ret3
   exact HP.out _ _ Hf.out (hw1.drew.trans (hb.mono hz))
 · have Hf := Lib.hid (show effF p mine ⟨4, xa, xb, xn⟩ = (atB (mine.pa ++ mine.lo) xa, sE, true) from rfl)
   clear hA
   go_wp2
   go_region_held3 (fun w' => w'.cell? ⟨gm, 0, none⟩ = some (.string mine.pa) ∧ w'.cell? ⟨gm, 1, none⟩ = some (.string mine.lo) ∧ w'.cell? ⟨gm, 2, none⟩ = some (.string mine.re) ∧ w'.cell? ⟨gm, 3, none⟩ = some (.slice A1 mine.code.length c1) ∧ w'.cell? ⟨w.heap.size + 1, 1, none⟩ = some (.int .i64 xa))
    (first | exact ⟨m0, m1, m2, m3, i1⟩ | exact ⟨(dM.drew.below hb lM).at0, (dM.drew.below hb lM).at1, (dM.drew.below hb lM).at2, (dM.drew.below hb lM).at3, (dX.drew.below hb lX).at1⟩)
    (first | (go_at_call 117; refine (kinds_any _ _ _ _ hk).mono ?_; rintro e w' ⟨rfl, hb⟩) | (go_at_call 165; refine (at_str _ _ _ hks).mono ?_; rintro e w' ⟨rfl, rfl⟩))
   go_wp2
   go_ret3
   exact HP.out _ _ Hf.out (hw1.drew.trans (hb.mono hz))
 · have Hf := Lib.hid (show effF p mine ⟨18, xa, xb, xn⟩ = (sI, sI, true) from rfl)
   clear hA
   go_wp2
   go_ret3
   exact HP.out _ _ Hf.out hw1
 · have Hf := Lib.hid (show effF p mine ⟨21, xa, xb, xn⟩ = (sRR, sI, true) from rfl)
   clear hA
   go_wp2
   go_ret3
   exact HP.out _ _ Hf.out hw1
 · have Hf := Lib.hid (show effF p mine ⟨22, xa, xb, xn⟩ = (sE, sE, true) from rfl)
   clear hA
   go_wp2
   go_ret3
   exact HP.out _ _ Hf.out hw1
 · have Hf := Lib.hid (show effF p mine ⟨23, xa, xb, xn⟩ = (sI, sE, true) from rfl)
   clear hA
   go_wp2
   go_ret3
   exact HP.out _ _ Hf.out hw1
 · have Hf := Lib.hid (show effF p mine ⟨24, xa, xb, xn⟩ = (sE, sR, true) from rfl)
   clear hA
   go_wp2
   go_ret3
   exact HP.out _ _ Hf.out hw1
 · have Hf := Lib.hid (show effF p mine ⟨25, xa, xb, xn⟩ = (sR, fieldF p xa xb, true) from rfl)
   clear hA
   have hk1 : ¬ 9223372036854775807 < (fieldF p xa xb).size + 1 := by omega
   go_wp2_with (go_at_call 166; refine (Hft.out _ hrc.out hp).mono ?_; rintro e w4 ⟨rfl, hb4⟩)
   go_ret3
   exact HP.out _ _ Hf.out (hw1.trans (hb4.mono hz))
 · have Hf := Lib.hid (show effF p mine ⟨26, xa, xb, xn⟩ = (sR ++ fieldF p xa xb, sE, true) from rfl)
   clear hA
   have hk1 : ¬ 9223372036854775807 < (fieldF p xa xb).size + 1 := by omega
   go_wp2_with (go_at_call 166; refine (Hft.out _ hrc.out hp).mono ?_; rintro e w4 ⟨rfl, hb4⟩)
   go_ret3
   exact HP.out _ _ Hf.out (hw1.trans (hb4.mono hz))
 · have Hf := Lib.hid (show effF p mine ⟨27, xa, xb, xn⟩ = (sR, sI, true) from rfl)
   clear hA
   go_wp2
   go_ret3
   exact HP.out _ _ Hf.out hw1
 · have Hf := Lib.hid (show effF p mine ⟨28, xa, xb, xn⟩ = (sI, sR, true) from rfl)
   clear hA
   go_wp2
   go_ret3
   exact HP.out _ _ Hf.out hw1
 · have Hf := Lib.hid (show effF p mine ⟨29, xa, xb, xn⟩ = (sRI, atB sIRs xa, true) from rfl)
   clear hA
   have hk1 : ¬ 9223372036854775807 < (atB sIRs xa).size + 2 := by omega
   go_wp2_with (go_at_call 165; refine (at_str sIRs _ _ (by decide)).mono ?_; rintro e w4 ⟨rfl, rfl⟩)
   go_ret3
   exact HP.out _ _ Hf.out hw1
 · have Hf := Lib.hid (show effF p mine ⟨30, xa, xb, xn⟩ = (sRI ++ atB sIRs xa, sE, true) from rfl)
   clear hA
   have hk1 : ¬ 9223372036854775807 < (atB sIRs xa).size + 2 := by omega
   go_wp2_with (go_at_call 165; refine (at_str sIRs _ _ (by decide)).mono ?_; rintro e w4 ⟨rfl, rfl⟩)
   go_ret3
   exact HP.out _ _ Hf.out hw1
 · have Hf := Lib.hid (show effF p mine ⟨31, xa, xb, xn⟩ = (sR, sI, true) from rfl)
   clear hA
   go_wp2
   go_ret3
   exact HP.out _ _ Hf.out hw1
 · have Hf := Lib.hid (show effF p mine ⟨32, xa, xb, xn⟩ = ((methodF p xa).pa, (methodF p xa).re, true) from rfl)
   clear hA
   go_wp2_with fail
   refine (Hmt2.out _ hrm.out hp.ms).mono ?_
   rintro e w4 ⟨A2, c2, rfl, hb4⟩
   generalize methodF p xa = m2 at *
   have hw4 := (hw1.trans (hb4.mono hz)).alloc (Nat.le_trans hz hb4.size) (.cells #[.string m2.pa, .string m2.lo, .string m2.re, .slice A2 m2.code.length c2] 90)
   go_wp2
   go_quiet (fail)
   go_wp2
   go_ret3
   exact HP.out _ _ Hf.out (below_drewN hw4 _)
 · have Hf := Lib.hid (show effF p mine ⟨33, xa, xb, xn⟩ = (mine.re, sE, true) from rfl)
   clear hA
   go_wp2
   go_ret3
   exact HP.out _ _ Hf.out hw1
 · have Hf := Lib.hid (show effF p mine ⟨34, xa, xb, xn⟩ = (sE, sI, true) from rfl)
   clear hA
   go_wp2
   go_ret3
   exact HP.out _ _ Hf.out hw1
 · have Hf := Lib.hid (show effF p mine ⟨35, xa, xb, xn⟩ = (sI, sE, true) from rfl)
   clear hA
   go_wp2
   go_ret3
   exact HP.out _ _ Hf.out hw1
 · have Hf := Lib.hid (show effF p mine ⟨op, xa, xb, xn⟩ = (sE, sE, false) by unfold effF; rw [if_neg hA]; simp [*])
   have hg : decide (8 ≤ op) = false ∨ decide (op ≤ 20) = false ∨ (op != 18) = false := by
    simp only [decide_eq_false_iff_not, bne_eq_false_iff_eq]
    omega
   have g1 : (op == 1) = false := by simp; omega
   have g2 : (op == 2) = false := by simp; omega
   have g3 : (op == 3) = false := by simp; omega
   have g4 : (op == 4) = false := by simp; omega
   have g18 : (op == 18) = false := by simp; omega
   have g21 : (op == 21) = false := by simp; omega
   have g22 : (op == 22) = false := by simp; omega
   have g23 : (op == 23) = false := by simp; omega
   have g24 : (op == 24) = false := by simp; omega
   have g25 : (op == 25) = false := by simp; omega
   have g26 : (op == 26) = false := by simp; omega
   have g27 : (op == 27) = false := by simp; omega
   have g28 : (op == 28) = false := by simp; omega
   have g29 : (op == 29) = false := by simp; omega
   have g30 : (op == 30) = false := by simp; omega
   have g31 : (op == 31) = false := by simp; omega
   have g32 : (op == 32) = false := by simp; omega
   have g33 : (op == 33) = false := by simp; omega
   have g34 : (op == 34) = false := by simp; omega
   have g35 : (op == 35) = false := by simp; omega
   clear hA n1 n2 n3 n4 n18 n21 n22 n23 n24 n25 n26 n27 n28 n29 n30 n31 n32 n33 n34 n35
   rcases hg with hg | hg | hg
   · go_wp2
     go_ret3
     exact HP.out _ _ Hf.out hw1
   · go_wp2
     all_goals
      go_ret3
      exact HP.out _ _ Hf.out hw1
   · go_wp2
     all_goals
      go_ret3
      exact HP.out _ _ Hf.out hw1
end Go.Proofs.YtjjmpfmhggcjiaaGreatDoor
namespace Go.Proofs.YtjjmpfmhggcjiaaGreatDoor
open Go.RowKit Go.Maps
end Go.Proofs.YtjjmpfmhggcjiaaGreatDoor
namespace Go.Proofs.YtjjmpfmhggcjiaaGreatDoor
open Go.RowKit Go.Maps
theorem zeroCells_one (z0 : Value) (k : Nat) : (Builtin.zeroCells #[z0] k).toList = List.replicate k z0 := by
 apply List.ext_getElem
 · simp [Builtin.zeroCells]
 · intro i h1 h2
   simp [Builtin.zeroCells, Nat.mod_one]
end Go.Proofs.YtjjmpfmhggcjiaaGreatDoor
namespace Go.Proofs.YtjjmpfmhggcjiaaGreatDoor
open Go.RowKit Go.Maps
theorem wpList_append_zeros0 {P : Program} {w : World} {ops : Array Oper} {rest : List Oper} {o : Oper} {a : Act} {Q : Exit → Act → World → Prop} (hw : Region.wanted o (yielded ops a.tmps) = true) (s x : Operand) (t tn : TypeId)
 (ho : o.op = .call { callee := .builtin .append, args := #[s, x], argTypes := #[t, tn] }) (e : TypeId) (i : TypeInfo) (z0 : Value) (kq kn : IntKind) (ht : P.underlying t = some (.slice e)) (htn : P.underlying tn = some (.int kn)) (hi : P.info? e = some i) (hz : i.zero = some z0)
 (hzc : z0.cells = #[z0]) (hs1 : i.size = 1) (hs : a.eval s = .slice none 0 0) (k : Nat) (hx : a.eval x = .int kq k) (hk : 0 < k)
 (h63 : k ≤ maxLen) (hbytes : k * i.bytes ≤ 140737488355328)
 (h : ∀ c' w', w'.ownsRow w.heap.size e 1 (.slice (some ⟨w.heap.size, 0, none⟩) k c') k (List.replicate k z0) → Below w.heap.size w w' → k ≤ c' → wpList P ops Q rest (a.put o.dst (.slice (some ⟨w.heap.size, 0, none⟩) k c')) w') : wpList P ops Q (o :: rest) a w := by
 refine wpList_on hw fun K hK => ?_
 have hsmall : k ≤ 9223372036854775807 := by simp only [maxLen] at h63; omega
 have hfit := growslice_fits (need := 0 + k) (old := 0) (bytes := i.bytes) (by omega) (by simpa using hbytes)
 have hfc : (Builtin.firstCells i.size 0 (.slice none 0 0)).run P w.drew = .ok ([] : List Value).toArray w.drew := by simp [Builtin.firstCells, go_sem]
 have hr := Lib.run_append_grow_zeros (P := P) w t tn o.type e i z0 kq kn ht htn hi hz none 0 0 [] hfc k hk (by omega) (by omega) (by omega) (by omega) hfit
 have hge := grownCap_ge w (0 + k) 0 e
 have hcmx : grownCap w (0 + k) 0 e ≤ maxLen := grownCap_le_maxLen w (0 + k) 0 e (by omega)
 have hge' : k ≤ grownCap w (0 + k) 0 e := by omega
 unfold Oper.wp execOp
 simp only [ho, resolve, invoke, builtin, Sem.run_bind, Sem.run_pure, Result.andThen_ok, List.map_toArray, List.map_cons, List.map_nil, hs, hx, hr, Nat.zero_add] at hge' ⊢
 rw [Nat.zero_add] at hcmx
 refine hK _ _ (h _ _ ⟨by simp, .inr ⟨w.heap.size, _, _, rfl, Nat.le_refl _, heap_alloc_new w.drew _, hge', hcmx, ?_, ?_⟩⟩ ((Below.refl _ _).drew.alloc (Nat.le_refl _) _) hge')
 · simp only [Array.size_append, List.size_toArray, size_zeroCells, hzc]
   simp
   omega
 · simp only [Array.toList_append, List.append_assoc, hzc, zeroCells_one]
   simp
def GrowPost (w : World) (e : Ending) (w' : World) : Prop := ∃ A c, e = .returned (.slice A 0 c) ∧ w'.ownsRow w.heap.size 3 1 (.slice A 0 c) 0 [] ∧ Below w.heap.size w w'
set_option maxRecDepth 100000 in
set_option maxHeartbeats 1000000 in
theorem grow_any (n : Nat) (hn : n ≤ 10000000) (w : World) : Calls Tryz.prog 172 #[.slice none 0 0, .int .i64 n] w (GrowPost w) := by
 have hPP : ∀ A c w', w'.ownsRow w.heap.size 3 1 (.slice A 0 c) 0 [] → Below w.heap.size w w' → GrowPost w (.returned (.slice A 0 c)) w' := fun A c w' h1 h2 => ⟨A, c, rfl, h1, h2⟩
 have HP := Lib.hid hPP
 clear hPP
 generalize GrowPost w = Post at *
 obtain ⟨ii, hi1, hi2, hi3, hi4⟩ := info_parts infoIntR
 have Hi1 := Lib.hid hi1
 have Hi2 := Lib.hid hi2
 have Hi3 := Lib.hid hi3
 have Hi4 := Lib.hid hi4
 clear hi1 hi2 hi3 hi4
 by_cases h0 : n = 0
 · subst h0
   go_enter Tryz.func172, Tryz.ntmps172
   go_wp2
   exact HP.out none 0 _ (World.ownsRow_nil _ _ _ _) (Below.refl _ _)
 · have n0 : (0 : Int) < n := by omega
   have n1 : 0 < n := by omega
   go_enter Tryz.func172, Tryz.ntmps172
   go_upto_region 6 with (at_builtin
                          refine wpList_append_zeros0 rfl (.tmp 20) (.tmp 21) 47 3 rfl 3 ii _ .i64 .i64 Tryz.underlying47 Tryz.underlying3 Hi1.out Hi2.out rfl Hi3.out rfl n rfl n1 (by unfold maxLen; omega) (by rw [Hi4.out]; omega) ?_
                          intro c2 w2 hown2 hb2 hc2)
   have hown3 := own_take hown2 (k := 0) (by omega) (fun h => by cases h)
   rw [List.take_zero] at hown3
   go_wp2
   exact HP.out _ _ _ hown3 hb2
def ConcatPost (w : World) (l : List Int) (e : Ending) (w' : World) : Prop := ∃ A c, e = .returned (.slice A l.length c) ∧ w'.ownsRow w.heap.size 3 1 (.slice A l.length c) l.length (ints l) ∧ Below w.heap.size w w'
theorem flat_take_step (ls : List (List Int)) {k : Nat} (hk : k < ls.length) : (ls.take (k + 1)).flatten = (ls.take k).flatten ++ ls.getD k [] := by
 rw [List.take_add_one, List.flatten_append]
 simp [hk]
theorem flat_take_le (ls : List (List Int)) (k : Nat) : (ls.take k).flatten.length ≤ ls.flatten.length := by
 have e : ls.flatten = (ls.take k).flatten ++ (ls.drop k).flatten := by rw [← List.flatten_append, List.take_append_drop]
 rw [e, List.length_append]
 omega
set_option maxRecDepth 100000 in
set_option maxHeartbeats 2000000 in
theorem concat_any (A : Option Addr) (c : Nat) (ls : List (List Int)) (w : World) (hr : RdL rowShape w (· < w.heap.size) A ls) (hn : ls.length ≤ 1000) (ht : ls.flatten.length ≤ 1000000) :
 Calls Tryz.prog 131 #[.slice A ls.length c] w (ConcatPost w ls.flatten) := by
 have hPP : ∀ A' c' n w', n = ls.flatten.length → w'.ownsRow w.heap.size 3 1 (.slice A' n c') n (ints ls.flatten) → Below w.heap.size w w' → ConcatPost w ls.flatten (.returned (.slice A' n c')) w' := fun A' c' n w' h0 h1 h2 => by subst h0; exact ⟨A', c', rfl, h1, h2⟩
 have HP := Lib.hid hPP
 clear hPP
 generalize ConcatPost w ls.flatten = Post at *
 obtain ⟨ii, hi1, hi2, hi3, hi4⟩ := info_parts infoIntR
 have Hi1 := Lib.hid hi1
 have Hi2 := Lib.hid hi2
 have Hi3 := Lib.hid hi3
 have Hi4 := Lib.hid hi4
 have Hle := Lib.hid (fun k => Nat.le_trans (flat_take_le ls k) ht)
 have Hst := Lib.hid (fun k (hk : k < ls.length) => flat_take_step ls hk)
 have Hr := Lib.hid hr
 clear hi1 hi2 hi3 hi4 hr
 go_enter Tryz.func131, Tryz.ntmps131
 go_wp2
 go_loopw [11, 3] (fun iv sv wr => ∃ k : Nat, k ≤ ls.length ∧ iv = .int .i64 k ∧ sv = .int .i64 ((ls.take k).flatten.length : Nat) ∧ wr = w) (fun iv _ _ => ls.length - (intOf iv).toNat)
 case atStart => exact ⟨0, Nat.zero_le _, rfl, rfl, rfl⟩
 case round =>
  obtain ⟨k, hk, rfl, rfl, rfl⟩ := hrel
  by_cases hlt : k < ls.length
  · have k0 : (0 : Int) ≤ k := by omega
    have k1 : (k : Int) < ls.length := by omega
    obtain ⟨b, off, A1, c1, hA, hb, y, hrd⟩ := rd_row Hr.out hlt
    subst hA
    have hs1 := Hle.out (k + 1)
    have hs2 := Hst.out k hlt
    have hs3 := congrArg List.length hs2
    rw [List.length_append] at hs3
    have Hs3 := Lib.hid hs3
    rw [hs3] at hs1
    clear hs2 hs3 hrd
    generalize (ls.take k).flatten.length = sz at *
    generalize (ls.getD k []).length = m at *
    have hw1 : IntKind.i64.wrap ((sz : Int) + m) = (sz : Int) + m := IntWalk.i64_in _ (by omega)
    have hnn : ¬ ((sz : Int) + m < 0) := by omega
    go_wp2
    go_roundw
    case rel => exact ⟨k + 1, by omega, by go_num, by rw [Hs3.out]; simp, by trivial⟩
    case measure => simp [intOf]; omega
  · have e : k = ls.length := by omega
    have hge : ¬ (k : Int) < ls.length := by omega
    have hfl : (ls.take k).flatten.length = ls.flatten.length := by rw [e, List.take_length]
    rw [hfl]
    clear hlt hfl
    generalize hfn : ls.flatten.length = fn at *
    have Hfn := Lib.hid hfn
    clear hfn
    generalize wr = w at *
    go_wp2_with fail
    refine (grow_any fn (by omega) _).mono ?_
    rintro e w2 ⟨A2, c2, rfl, own2, hb2⟩
    go_wp2
    go_loopw [27, 6] (fun iv rv wr => ∃ (j : Nat) (A3 : Option Addr) (c3 : Nat), j ≤ ls.length ∧ iv = .int .i64 j ∧ rv = .slice A3 (ls.take j).flatten.length c3 ∧ wr.ownsRow w.heap.size 3 1 (.slice A3 (ls.take j).flatten.length c3) (ls.take j).flatten.length (ints (ls.take j).flatten) ∧ Below w.heap.size w wr) (fun iv _ _ => ls.length - (intOf iv).toNat)
    case atStart => exact ⟨0, A2, c2, Nat.zero_le _, rfl, rfl, own2, hb2⟩
    case round =>
     clear own2 hb2
     obtain ⟨j, A3, c3, hj, rfl, rfl, own, hb⟩ := hrel
     by_cases hlt : j < ls.length
     · have k0 : (0 : Int) ≤ j := by omega
       have k1 : (j : Int) < ls.length := by omega
       obtain ⟨b, off, A1, c1, hA, hb1, y, hrd⟩ := rd_row (Hr.out.below hb (fun _ h => h)) hlt
       subst hA
       have hs1 := Hle.out (j + 1)
       have hs2 := Hst.out j hlt
       have hs3 := congrArg List.length hs2
       rw [List.length_append] at hs3
       have Hs2 := Lib.hid hs2
       have Hs3 := Lib.hid hs3
       rw [hs3] at hs1
       have hrd2 := hrd.rd (B := w.heap.size) (fun b h => h)
       have Hrd := Lib.hid hrd2
       have hwz := hb.size
       clear hs2 hs3 hrd hrd2
       generalize (ls.take j).flatten = sl at *
       generalize ls.getD j [] = l1 at *
       go_wp2_with (at_builtin
                    refine wpList_append_rd rfl (.tmp 31) (.tmp 32) 47 rfl w.heap.size 3 ii _ 8 Tryz.underlying47 Hi1.out Hi2.out Hi3.out Hi4.out rfl (.slice A3 sl.length c3) sl.length (ints sl) rfl own w.heap.size A1 l1.length c1 (ints l1) rfl Hrd.out (fun u hu => ints_one hu) (by unfold maxLen; omega) (by omega) hwz ?_
                    intro A4 c4 w4 own4 hg4)
       go_roundw
       case rel => exact ⟨j + 1, A4, c4, by omega, by go_num, by rw [Hs3.out], by rw [Hs2.out, List.length_append]; simpa [ints] using own4, hb.grown hg4 hwz (fun i hi => (own.lt i hi).1)⟩
       case measure => simp [intOf]; omega
     · have e : j = ls.length := by omega
       have hge2 : ¬ (j : Int) < ls.length := by omega
       have e2 : (ls.take j).flatten = ls.flatten := by rw [e, List.take_length]
       rw [e2] at own ⊢
       rw [Hfn.out] at own ⊢
       clear hlt e e2
       go_wp2
       exact HP.out _ _ _ _ rfl own hb
end Go.Proofs.YtjjmpfmhggcjiaaGreatDoor
namespace Go.Proofs.YtjjmpfmhggcjiaaGreatDoor
open Go.RowKit Go.Maps
end Go.Proofs.YtjjmpfmhggcjiaaGreatDoor
