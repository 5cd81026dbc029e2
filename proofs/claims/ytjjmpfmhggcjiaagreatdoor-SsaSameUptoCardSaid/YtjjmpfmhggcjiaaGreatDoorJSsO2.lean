/-
 Ss8, Ss9, SsO1, SsO2, SsO4.
-/
import Derived.StillTailTactics
import Derived.Test.YtjjmpfmhggcjiaaGreatDoorJSs7b
set_option linter.unusedSimpArgs false
set_option linter.unusedVariables false
namespace Go.Proofs.YtjjmpfmhggcjiaaGreatDoor
open Go.RowKit Go.Maps
end Go.Proofs.YtjjmpfmhggcjiaaGreatDoor
namespace Go.Proofs.YtjjmpfmhggcjiaaGreatDoor
open Go.RowKit Go.Maps
abbrev formV (fm : Form) : Value := .agg #[.string fm.kind, .string fm.args, .bool fm.a, .bool fm.b, .bool fm.n, .bool fm.st]
def OfPost (w : World) (r : Option Form) (e : Ending) (w' : World) : Prop := Below w.heap.size w w' ∧ ∃ fm, e = .returned (.tuple #[formV fm, .bool r.isSome]) ∧ (r.isSome = true → r = some fm)
/-- What the rules on nodes stand on. -/
structure NodesIn (w : World) (S : Nat → Prop) (gc gv : Nat) (p : Prg) (vs : List Vs) (f : Fn) (gb gp : Nat) (blk plc : List Int) (tv lv dv : Value) : Prop where
 chk : Chk w S gc gv p vs f (.slice (some ⟨gb, 0, none⟩) f.nodes.length f.nodes.length) (.slice (some ⟨gp, 0, none⟩) f.nodes.length f.nodes.length) tv lv dv
 bb : Blk w gb 3 ⟨ints blk⟩
 st : Stands f blk plc
 mth : inB f.mth p.methods.length = true
 cls : ∀ k, k < p.classes.length → (p.classes.getD k ⟨#[]⟩).size ≤ 1000000
 mts : ∀ k, k < p.methods.length → (p.methods.getD k default).pa.size + (p.methods.getD k default).lo.size ≤ 1000
 nd : f.nodes.length ≤ 4000
 kinds : ∀ k, k < f.nodes.length → (ndAt f k).kind.size ≤ 1000000
 prs : ∀ b, b < f.blocks.length → (bkAt f b).preds.length ≤ 1000000
theorem NodesIn.below {w w' : World} {S : Nat → Prop} {gc gv : Nat} {p : Prg} {vs : List Vs} {f : Fn} {gb gp : Nat} {blk plc : List Int} {tv lv dv : Value} (h : NodesIn w S gc gv p vs f gb gp blk plc tv lv dv) (hb : Below w.heap.size w w') : NodesIn w' S gc gv p vs f gb gp blk plc tv lv dv :=
 ⟨h.chk.below hb, h.bb.below hb h.bb.lt, h.st, h.mth, h.cls, h.mts, h.nd, h.kinds, h.prs⟩
theorem ChkAt.below {w w' : World} {S : Nat → Prop} {gc gv : Nat} {p : Prg} {vs : List Vs} {f : Fn} {Ac Am An Ab As : Option Addr} {cc cm cn cb cs : Nat} {bv qv tv lv dv : Value} (h : ChkAt w S gc gv p vs f Ac cc Am cm An cn Ab cb As cs bv qv tv lv dv) (hb : Below w.heap.size w w') : ChkAt w' S gc gv p vs f Ac cc Am cm An cn Ab cb As cs bv qv tv lv dv :=
 h.kb (KB.of_below hb (fun b hb => hb.elim (fun h2 => (h.lt b h2).1) (fun h2 => h2.elim (fun e => e ▸ h.gv.1) (fun e => e ▸ h.blk.lt)))) hb.size
def set6 (w : World) (g : Nat) (a b c d e f : Value) : World := (((((w.setCell ⟨g, 0, none⟩ a).setCell ⟨g, 1, none⟩ b).setCell ⟨g, 2, none⟩ c).setCell ⟨g, 3, none⟩ d).setCell ⟨g, 4, none⟩ e).setCell ⟨g, 5, none⟩ f
theorem below_set6 {B g : Nat} {w w' : World} {a b c d e f : Value} (h : Below B w w') (hg : B ≤ g) : Below B w (set6 w' g a b c d e f) := (((((h.setCell (p := ⟨g, 0, none⟩) hg _).setCell (p := ⟨g, 1, none⟩) hg _).setCell (p := ⟨g, 2, none⟩) hg _).setCell (p := ⟨g, 3, none⟩) hg _).setCell (p := ⟨g, 4, none⟩) hg _).setCell (p := ⟨g, 5, none⟩) hg _
theorem kb_set6 {w : World} {g : Nat} {a b c d e f : Value} : KB (fun b => b ≠ g) w (set6 w g a b c d e f) :=
 ((((((KB.refl _ w).set (p := ⟨g, 0, none⟩) (fun h => h rfl) a).set (p := ⟨g, 1, none⟩) (fun h => h rfl) b).set (p := ⟨g, 2, none⟩) (fun h => h rfl) c).set (p := ⟨g, 3, none⟩) (fun h => h rfl) d).set (p := ⟨g, 4, none⟩) (fun h => h rfl) e).set (p := ⟨g, 5, none⟩) (fun h => h rfl) f
theorem Blk.set6 {w : World} {g : Nat} {T : TypeId} {x0 x1 x2 x3 x4 x5 a b c d e f : Value} (h : Blk w g T #[x0, x1, x2, x3, x4, x5]) : Blk (set6 w g a b c d e f) g T #[a, b, c, d, e, f] := by
 have := (((((h.set_ 0 a).set_ 1 b).set_ 2 c).set_ 3 d).set_ 4 e).set_ 5 f
 simpa [Proofs.YtjjmpfmhggcjiaaGreatDoor.set6] using this
end Go.Proofs.YtjjmpfmhggcjiaaGreatDoor
namespace Go.Proofs.YtjjmpfmhggcjiaaGreatDoor
open Go.RowKit Go.Maps
set_option maxRecDepth 100000 in
set_option maxHeartbeats 8000000 in
theorem of_1 {w : World} {S : Nat → Prop} {gc gv : Nat} {p : Prg} {vs : List Vs} {f : Fn} {gb gp : Nat} {blk plc : List Int} {tv lv dv : Value} (hN : NodesIn w S gc gv p vs f gb gp blk plc tv lv dv) {i : Nat} (hi : i < f.nodes.length) (hop : (ndAt f i).op = 1) :
 Calls Tryz.prog 94 #[.pointer (some ⟨gc, 0, none⟩), .int .i64 i] w (OfPost w (formF p f blk i)) := by
 have hPP : ∀ fm w' r, formF p f blk i = r → Below w.heap.size w w' → (r.isSome = true → r = some fm) → OfPost w (formF p f blk i) (.returned (.tuple #[formV fm, .bool r.isSome])) w' := fun fm w' r h1 h2 h3 => by
  subst h1
  exact ⟨h2, fm, rfl, h3⟩
 have HP := Lib.hid hPP
 clear hPP
 have HN := Lib.hid hN
 obtain ⟨Ac, cc, Am, cm, An, cn, Ab, cb, As, cs, hC⟩ := hN.chk
 have c5 : w.cell? ⟨gc, 5, none⟩ = some (.slice An f.nodes.length cn) := hC.blk.cell 5
 have lC := hC.blk.lt
 obtain ⟨bn, on_, A1, c1n, hAn, hSn, v0, v1, v2, v3, v4, v5, v6, -⟩ := rd_nd hC.fn.nodes hi
 subst hAn
 have i0 : (0 : Int) ≤ i := by omega
 have i1 : (i : Int) < f.nodes.length := by omega
 have hnd := hN.nd
 have lbn := (hC.lt bn hSn).1
 have hm := in_true hN.mth
 have mth0 : 0 ≤ f.mth := hm.1
 have mth1 : f.mth < p.methods.length := hm.2
 obtain ⟨x, hxx⟩ : ∃ x, ndAt f i = x := ⟨_, rfl⟩
 have hxg : f.nodes.getD i default = x := hxx
 rw [hxg] at v0 v1 v2 v3 v4 v5 v6
 have HC := Lib.hid hC
 obtain ⟨op, xa, xb, st, kd, xn, args⟩ := x
 obtain rfl : op = 1 := by
  have := hop
  rw [hxx] at this
  exact this
 have Hx := Lib.hid hxx
 clear hxx hxg hop hN hC hm
 generalize hpost : OfPost w (formF p f blk i) = Post at *
 clear hpost
 go_enter Tryz.func94, Tryz.ntmps94
 go_upto_region 3 with (fail)
 have R2 := (Blk.new w 172 #[.string ⟨#[]⟩, .string ⟨#[]⟩, .bool false, .bool false, .bool false, .bool false]).alloc (.cells #[.int .i64 1, .int .i64 xa, .int .i64 xb, .int .i64 st, .string kd, .int .i64 xn, .slice A1 args.length c1n] 59)
 have X2 := Blk.newAt (w := w.alloc (.cells #[.string ⟨#[]⟩, .string ⟨#[]⟩, .bool false, .bool false, .bool false, .bool false] 172)) (g := w.heap.size + 1) (by simp) 59 #[.int .i64 1, .int .i64 xa, .int .i64 xb, .int .i64 st, .string kd, .int .i64 xn, .slice A1 args.length c1n]
 have hb2 := ((Below.refl w.heap.size w).alloc (Nat.le_refl _) (.cells #[.string ⟨#[]⟩, .string ⟨#[]⟩, .bool false, .bool false, .bool false, .bool false] 172)).alloc (by simp) (.cells #[.int .i64 1, .int .i64 xa, .int .i64 xb, .int .i64 st, .string kd, .int .i64 xn, .slice A1 args.length c1n] 59)
 clear c5 v0 v1 v2 v3 v4 v5 v6 lbn lC
 generalize (w.alloc (.cells #[.string ⟨#[]⟩, .string ⟨#[]⟩, .bool false, .bool false, .bool false, .bool false] 172)).alloc (.cells #[.int .i64 1, .int .i64 xa, .int .i64 xb, .int .i64 st, .string kd, .int .i64 xn, .slice A1 args.length c1n] 59) = w2 at *
 have HC2 := Lib.hid (HC.out.below hb2)
 have HN2 := Lib.hid (HN.out.below hb2)
 have x0 := X2.at0
 have x1 := X2.at1
 have x2 := X2.at2
 have x4 : w2.cell? ⟨w.heap.size + 1, 4, none⟩ = some (.string kd) := X2.cell 4
 have x5 : w2.cell? ⟨w.heap.size + 1, 5, none⟩ = some (.int .i64 xn) := X2.cell 5
 have lR2 := R2.lt
 have lX2 := X2.lt
 have Hf := Lib.hid (show formF p f blk i = some ⟨sI, sE, false, false, true, false⟩ by unfold formF; rw [Hx.out]; rfl)
 have r0 := R2.at0
 have r1 := R2.at1
 have r2 := R2.at2
 have r3 := R2.at3
 have r4 : w2.cell? ⟨w.heap.size, 4, none⟩ = some (.bool false) := R2.cell 4
 have r5 : w2.cell? ⟨w.heap.size, 5, none⟩ = some (.bool false) := R2.cell 5
 have f0 := R2.frozen 0
 have f1 := R2.frozen 1
 have f2 := R2.frozen 2
 have f3 := R2.frozen 3
 have f4 := R2.frozen 4
 have f5 := R2.frozen 5
 go_wp2
 have Q6 := R2.set6 (a := .string ⟨#[73]⟩) (b := .string ⟨#[]⟩) (c := .bool false) (d := .bool false) (e := .bool true) (f := .bool false)
 have q0 := Q6.at0
 have q1 := Q6.at1
 have q2 := Q6.at2
 have q3 := Q6.at3
 have q4 := Q6.cell 4
 have q5 := Q6.cell 5
 simp only [set6] at q0 q1 q2 q3 q4 q5
 refine bodyPost_ret (v := .tuple #[formV ⟨sI, sE, false, false, true, false⟩, .bool true]) (by simp [results, Tryz.results94, go_sem, q0, q1, q2, q3, q4, q5, sE, sI, sR, sII, sRR, sRI]) rfl ?_
 exact HP.out ⟨sI, sE, false, false, true, false⟩ _ (some _) Hf.out (below_set6 hb2 (Nat.le_refl _)) (fun _ => rfl)
set_option maxRecDepth 100000 in
set_option maxHeartbeats 8000000 in
theorem of_46 {w : World} {S : Nat → Prop} {gc gv : Nat} {p : Prg} {vs : List Vs} {f : Fn} {gb gp : Nat} {blk plc : List Int} {tv lv dv : Value} (hN : NodesIn w S gc gv p vs f gb gp blk plc tv lv dv) {i : Nat} (hi : i < f.nodes.length) (hop : (ndAt f i).op = 46) :
 Calls Tryz.prog 94 #[.pointer (some ⟨gc, 0, none⟩), .int .i64 i] w (OfPost w (formF p f blk i)) := by
 have hPP : ∀ fm w' r, formF p f blk i = r → Below w.heap.size w w' → (r.isSome = true → r = some fm) → OfPost w (formF p f blk i) (.returned (.tuple #[formV fm, .bool r.isSome])) w' := fun fm w' r h1 h2 h3 => by
  subst h1
  exact ⟨h2, fm, rfl, h3⟩
 have HP := Lib.hid hPP
 clear hPP
 have HN := Lib.hid hN
 obtain ⟨Ac, cc, Am, cm, An, cn, Ab, cb, As, cs, hC⟩ := hN.chk
 have c5 : w.cell? ⟨gc, 5, none⟩ = some (.slice An f.nodes.length cn) := hC.blk.cell 5
 have lC := hC.blk.lt
 obtain ⟨bn, on_, A1, c1n, hAn, hSn, v0, v1, v2, v3, v4, v5, v6, -⟩ := rd_nd hC.fn.nodes hi
 subst hAn
 have i0 : (0 : Int) ≤ i := by omega
 have i1 : (i : Int) < f.nodes.length := by omega
 have hnd := hN.nd
 have lbn := (hC.lt bn hSn).1
 have hm := in_true hN.mth
 have mth0 : 0 ≤ f.mth := hm.1
 have mth1 : f.mth < p.methods.length := hm.2
 obtain ⟨x, hxx⟩ : ∃ x, ndAt f i = x := ⟨_, rfl⟩
 have hxg : f.nodes.getD i default = x := hxx
 rw [hxg] at v0 v1 v2 v3 v4 v5 v6
 have HC := Lib.hid hC
 obtain ⟨op, xa, xb, st, kd, xn, args⟩ := x
 obtain rfl : op = 46 := by
  have := hop
  rw [hxx] at this
  exact this
 have Hx := Lib.hid hxx
 clear hxx hxg hop hN hC hm
 generalize hpost : OfPost w (formF p f blk i) = Post at *
 clear hpost
 go_enter Tryz.func94, Tryz.ntmps94
 go_upto_region 3 with (fail)
 have R2 := (Blk.new w 172 #[.string ⟨#[]⟩, .string ⟨#[]⟩, .bool false, .bool false, .bool false, .bool false]).alloc (.cells #[.int .i64 46, .int .i64 xa, .int .i64 xb, .int .i64 st, .string kd, .int .i64 xn, .slice A1 args.length c1n] 59)
 have X2 := Blk.newAt (w := w.alloc (.cells #[.string ⟨#[]⟩, .string ⟨#[]⟩, .bool false, .bool false, .bool false, .bool false] 172)) (g := w.heap.size + 1) (by simp) 59 #[.int .i64 46, .int .i64 xa, .int .i64 xb, .int .i64 st, .string kd, .int .i64 xn, .slice A1 args.length c1n]
 have hb2 := ((Below.refl w.heap.size w).alloc (Nat.le_refl _) (.cells #[.string ⟨#[]⟩, .string ⟨#[]⟩, .bool false, .bool false, .bool false, .bool false] 172)).alloc (by simp) (.cells #[.int .i64 46, .int .i64 xa, .int .i64 xb, .int .i64 st, .string kd, .int .i64 xn, .slice A1 args.length c1n] 59)
 clear c5 v0 v1 v2 v3 v4 v5 v6 lbn lC
 generalize (w.alloc (.cells #[.string ⟨#[]⟩, .string ⟨#[]⟩, .bool false, .bool false, .bool false, .bool false] 172)).alloc (.cells #[.int .i64 46, .int .i64 xa, .int .i64 xb, .int .i64 st, .string kd, .int .i64 xn, .slice A1 args.length c1n] 59) = w2 at *
 have HC2 := Lib.hid (HC.out.below hb2)
 have HN2 := Lib.hid (HN.out.below hb2)
 have x0 := X2.at0
 have x1 := X2.at1
 have x2 := X2.at2
 have x4 : w2.cell? ⟨w.heap.size + 1, 4, none⟩ = some (.string kd) := X2.cell 4
 have x5 : w2.cell? ⟨w.heap.size + 1, 5, none⟩ = some (.int .i64 xn) := X2.cell 5
 have lR2 := R2.lt
 have lX2 := X2.lt
 have Hf := Lib.hid (show formF p f blk i = some ⟨sE, sI, false, false, false, false⟩ by unfold formF; rw [Hx.out]; rfl)
 have r0 := R2.at0
 have r1 := R2.at1
 have r2 := R2.at2
 have r3 := R2.at3
 have r4 : w2.cell? ⟨w.heap.size, 4, none⟩ = some (.bool false) := R2.cell 4
 have r5 : w2.cell? ⟨w.heap.size, 5, none⟩ = some (.bool false) := R2.cell 5
 have f0 := R2.frozen 0
 have f1 := R2.frozen 1
 have f2 := R2.frozen 2
 have f3 := R2.frozen 3
 have f4 := R2.frozen 4
 have f5 := R2.frozen 5
 go_wp2
 have Q6 := R2.set6 (a := .string ⟨#[]⟩) (b := .string ⟨#[73]⟩) (c := .bool false) (d := .bool false) (e := .bool false) (f := .bool false)
 have q0 := Q6.at0
 have q1 := Q6.at1
 have q2 := Q6.at2
 have q3 := Q6.at3
 have q4 := Q6.cell 4
 have q5 := Q6.cell 5
 simp only [set6] at q0 q1 q2 q3 q4 q5
 refine bodyPost_ret (v := .tuple #[formV ⟨sE, sI, false, false, false, false⟩, .bool true]) (by simp [results, Tryz.results94, go_sem, q0, q1, q2, q3, q4, q5, sE, sI, sR, sII, sRR, sRI]) rfl ?_
 exact HP.out ⟨sE, sI, false, false, false, false⟩ _ (some _) Hf.out (below_set6 hb2 (Nat.le_refl _)) (fun _ => rfl)
set_option maxRecDepth 100000 in
set_option maxHeartbeats 8000000 in
theorem of_45 {w : World} {S : Nat → Prop} {gc gv : Nat} {p : Prg} {vs : List Vs} {f : Fn} {gb gp : Nat} {blk plc : List Int} {tv lv dv : Value} (hN : NodesIn w S gc gv p vs f gb gp blk plc tv lv dv) {i : Nat} (hi : i < f.nodes.length) (hop : (ndAt f i).op = 45) :
 Calls Tryz.prog 94 #[.pointer (some ⟨gc, 0, none⟩), .int .i64 i] w (OfPost w (formF p f blk i)) := by
 have hPP : ∀ fm w' r, formF p f blk i = r → Below w.heap.size w w' → (r.isSome = true → r = some fm) → OfPost w (formF p f blk i) (.returned (.tuple #[formV fm, .bool r.isSome])) w' := fun fm w' r h1 h2 h3 => by
  subst h1
  exact ⟨h2, fm, rfl, h3⟩
 have HP := Lib.hid hPP
 clear hPP
 have HN := Lib.hid hN
 obtain ⟨Ac, cc, Am, cm, An, cn, Ab, cb, As, cs, hC⟩ := hN.chk
 have c5 : w.cell? ⟨gc, 5, none⟩ = some (.slice An f.nodes.length cn) := hC.blk.cell 5
 have lC := hC.blk.lt
 obtain ⟨bn, on_, A1, c1n, hAn, hSn, v0, v1, v2, v3, v4, v5, v6, -⟩ := rd_nd hC.fn.nodes hi
 subst hAn
 have i0 : (0 : Int) ≤ i := by omega
 have i1 : (i : Int) < f.nodes.length := by omega
 have hnd := hN.nd
 have lbn := (hC.lt bn hSn).1
 have hm := in_true hN.mth
 have mth0 : 0 ≤ f.mth := hm.1
 have mth1 : f.mth < p.methods.length := hm.2
 obtain ⟨x, hxx⟩ : ∃ x, ndAt f i = x := ⟨_, rfl⟩
 have hxg : f.nodes.getD i default = x := hxx
 rw [hxg] at v0 v1 v2 v3 v4 v5 v6
 have HC := Lib.hid hC
 obtain ⟨op, xa, xb, st, kd, xn, args⟩ := x
 obtain rfl : op = 45 := by
  have := hop
  rw [hxx] at this
  exact this
 have Hx := Lib.hid hxx
 clear hxx hxg hop hN hC hm
 generalize hpost : OfPost w (formF p f blk i) = Post at *
 clear hpost
 go_enter Tryz.func94, Tryz.ntmps94
 go_upto_region 3 with (fail)
 have R2 := (Blk.new w 172 #[.string ⟨#[]⟩, .string ⟨#[]⟩, .bool false, .bool false, .bool false, .bool false]).alloc (.cells #[.int .i64 45, .int .i64 xa, .int .i64 xb, .int .i64 st, .string kd, .int .i64 xn, .slice A1 args.length c1n] 59)
 have X2 := Blk.newAt (w := w.alloc (.cells #[.string ⟨#[]⟩, .string ⟨#[]⟩, .bool false, .bool false, .bool false, .bool false] 172)) (g := w.heap.size + 1) (by simp) 59 #[.int .i64 45, .int .i64 xa, .int .i64 xb, .int .i64 st, .string kd, .int .i64 xn, .slice A1 args.length c1n]
 have hb2 := ((Below.refl w.heap.size w).alloc (Nat.le_refl _) (.cells #[.string ⟨#[]⟩, .string ⟨#[]⟩, .bool false, .bool false, .bool false, .bool false] 172)).alloc (by simp) (.cells #[.int .i64 45, .int .i64 xa, .int .i64 xb, .int .i64 st, .string kd, .int .i64 xn, .slice A1 args.length c1n] 59)
 clear c5 v0 v1 v2 v3 v4 v5 v6 lbn lC
 generalize (w.alloc (.cells #[.string ⟨#[]⟩, .string ⟨#[]⟩, .bool false, .bool false, .bool false, .bool false] 172)).alloc (.cells #[.int .i64 45, .int .i64 xa, .int .i64 xb, .int .i64 st, .string kd, .int .i64 xn, .slice A1 args.length c1n] 59) = w2 at *
 have HC2 := Lib.hid (HC.out.below hb2)
 have HN2 := Lib.hid (HN.out.below hb2)
 have x0 := X2.at0
 have x1 := X2.at1
 have x2 := X2.at2
 have x4 : w2.cell? ⟨w.heap.size + 1, 4, none⟩ = some (.string kd) := X2.cell 4
 have x5 : w2.cell? ⟨w.heap.size + 1, 5, none⟩ = some (.int .i64 xn) := X2.cell 5
 have lR2 := R2.lt
 have lX2 := X2.lt
 have Hf := Lib.hid (show formF p f blk i = some ⟨sE, sE, false, false, false, false⟩ by unfold formF; rw [Hx.out]; rfl)
 have r0 := R2.at0
 have r1 := R2.at1
 have r2 := R2.at2
 have r3 := R2.at3
 have r4 : w2.cell? ⟨w.heap.size, 4, none⟩ = some (.bool false) := R2.cell 4
 have r5 : w2.cell? ⟨w.heap.size, 5, none⟩ = some (.bool false) := R2.cell 5
 have f0 := R2.frozen 0
 have f1 := R2.frozen 1
 have f2 := R2.frozen 2
 have f3 := R2.frozen 3
 have f4 := R2.frozen 4
 have f5 := R2.frozen 5
 go_wp2
 have Q6 := R2.set6 (a := .string ⟨#[]⟩) (b := .string ⟨#[]⟩) (c := .bool false) (d := .bool false) (e := .bool false) (f := .bool false)
 have q0 := Q6.at0
 have q1 := Q6.at1
 have q2 := Q6.at2
 have q3 := Q6.at3
 have q4 := Q6.cell 4
 have q5 := Q6.cell 5
 simp only [set6] at q0 q1 q2 q3 q4 q5
 refine bodyPost_ret (v := .tuple #[formV ⟨sE, sE, false, false, false, false⟩, .bool true]) (by simp [results, Tryz.results94, go_sem, q0, q1, q2, q3, q4, q5, sE, sI, sR, sII, sRR, sRI]) rfl ?_
 exact HP.out ⟨sE, sE, false, false, false, false⟩ _ (some _) Hf.out (below_set6 hb2 (Nat.le_refl _)) (fun _ => rfl)
end Go.Proofs.YtjjmpfmhggcjiaaGreatDoor
namespace Go.Proofs.YtjjmpfmhggcjiaaGreatDoor
open Go.RowKit Go.Maps
set_option maxRecDepth 100000 in
set_option maxHeartbeats 8000000 in
theorem of_8 {w : World} {S : Nat → Prop} {gc gv : Nat} {p : Prg} {vs : List Vs} {f : Fn} {gb gp : Nat} {blk plc : List Int} {tv lv dv : Value} (hN : NodesIn w S gc gv p vs f gb gp blk plc tv lv dv) {i : Nat} (hi : i < f.nodes.length) (hop : (ndAt f i).op = 8) :
 Calls Tryz.prog 94 #[.pointer (some ⟨gc, 0, none⟩), .int .i64 i] w (OfPost w (formF p f blk i)) := by
 have hPP : ∀ fm w' r, formF p f blk i = r → Below w.heap.size w w' → (r.isSome = true → r = some fm) → OfPost w (formF p f blk i) (.returned (.tuple #[formV fm, .bool r.isSome])) w' := fun fm w' r h1 h2 h3 => by
  subst h1
  exact ⟨h2, fm, rfl, h3⟩
 have HP := Lib.hid hPP
 clear hPP
 have HN := Lib.hid hN
 obtain ⟨Ac, cc, Am, cm, An, cn, Ab, cb, As, cs, hC⟩ := hN.chk
 have c5 : w.cell? ⟨gc, 5, none⟩ = some (.slice An f.nodes.length cn) := hC.blk.cell 5
 have lC := hC.blk.lt
 obtain ⟨bn, on_, A1, c1n, hAn, hSn, v0, v1, v2, v3, v4, v5, v6, -⟩ := rd_nd hC.fn.nodes hi
 subst hAn
 have i0 : (0 : Int) ≤ i := by omega
 have i1 : (i : Int) < f.nodes.length := by omega
 have hnd := hN.nd
 have lbn := (hC.lt bn hSn).1
 have hm := in_true hN.mth
 have mth0 : 0 ≤ f.mth := hm.1
 have mth1 : f.mth < p.methods.length := hm.2
 obtain ⟨x, hxx⟩ : ∃ x, ndAt f i = x := ⟨_, rfl⟩
 have hxg : f.nodes.getD i default = x := hxx
 rw [hxg] at v0 v1 v2 v3 v4 v5 v6
 have HC := Lib.hid hC
 obtain ⟨op, xa, xb, st, kd, xn, args⟩ := x
 obtain rfl : op = 8 := by
  have := hop
  rw [hxx] at this
  exact this
 have Hx := Lib.hid hxx
 clear hxx hxg hop hN hC hm
 generalize hpost : OfPost w (formF p f blk i) = Post at *
 clear hpost
 go_enter Tryz.func94, Tryz.ntmps94
 go_upto_region 3 with (fail)
 have R2 := (Blk.new w 172 #[.string ⟨#[]⟩, .string ⟨#[]⟩, .bool false, .bool false, .bool false, .bool false]).alloc (.cells #[.int .i64 8, .int .i64 xa, .int .i64 xb, .int .i64 st, .string kd, .int .i64 xn, .slice A1 args.length c1n] 59)
 have X2 := Blk.newAt (w := w.alloc (.cells #[.string ⟨#[]⟩, .string ⟨#[]⟩, .bool false, .bool false, .bool false, .bool false] 172)) (g := w.heap.size + 1) (by simp) 59 #[.int .i64 8, .int .i64 xa, .int .i64 xb, .int .i64 st, .string kd, .int .i64 xn, .slice A1 args.length c1n]
 have hb2 := ((Below.refl w.heap.size w).alloc (Nat.le_refl _) (.cells #[.string ⟨#[]⟩, .string ⟨#[]⟩, .bool false, .bool false, .bool false, .bool false] 172)).alloc (by simp) (.cells #[.int .i64 8, .int .i64 xa, .int .i64 xb, .int .i64 st, .string kd, .int .i64 xn, .slice A1 args.length c1n] 59)
 clear c5 v0 v1 v2 v3 v4 v5 v6 lbn lC
 generalize (w.alloc (.cells #[.string ⟨#[]⟩, .string ⟨#[]⟩, .bool false, .bool false, .bool false, .bool false] 172)).alloc (.cells #[.int .i64 8, .int .i64 xa, .int .i64 xb, .int .i64 st, .string kd, .int .i64 xn, .slice A1 args.length c1n] 59) = w2 at *
 have HC2 := Lib.hid (HC.out.below hb2)
 have HN2 := Lib.hid (HN.out.below hb2)
 have x0 := X2.at0
 have x1 := X2.at1
 have x2 := X2.at2
 have x4 : w2.cell? ⟨w.heap.size + 1, 4, none⟩ = some (.string kd) := X2.cell 4
 have x5 : w2.cell? ⟨w.heap.size + 1, 5, none⟩ = some (.int .i64 xn) := X2.cell 5
 have lR2 := R2.lt
 have lX2 := X2.lt
 have Hf := Lib.hid (show formF p f blk i = some ⟨sI, sII, false, false, false, false⟩ by unfold formF; rw [Hx.out]; rfl)
 have r0 := R2.at0
 have r1 := R2.at1
 have r2 := R2.at2
 have r3 := R2.at3
 have r4 : w2.cell? ⟨w.heap.size, 4, none⟩ = some (.bool false) := R2.cell 4
 have r5 : w2.cell? ⟨w.heap.size, 5, none⟩ = some (.bool false) := R2.cell 5
 have f0 := R2.frozen 0
 have f1 := R2.frozen 1
 have f2 := R2.frozen 2
 have f3 := R2.frozen 3
 have f4 := R2.frozen 4
 have f5 := R2.frozen 5
 go_wp2
 have Q6 := R2.set6 (a := .string ⟨#[73]⟩) (b := .string ⟨#[73, 73]⟩) (c := .bool false) (d := .bool false) (e := .bool false) (f := .bool false)
 have q0 := Q6.at0
 have q1 := Q6.at1
 have q2 := Q6.at2
 have q3 := Q6.at3
 have q4 := Q6.cell 4
 have q5 := Q6.cell 5
 simp only [set6] at q0 q1 q2 q3 q4 q5
 refine bodyPost_ret (v := .tuple #[formV ⟨sI, sII, false, false, false, false⟩, .bool true]) (by simp [results, Tryz.results94, go_sem, q0, q1, q2, q3, q4, q5, sE, sI, sR, sII, sRR, sRI]) rfl ?_
 exact HP.out ⟨sI, sII, false, false, false, false⟩ _ (some _) Hf.out (below_set6 hb2 (Nat.le_refl _)) (fun _ => rfl)
set_option maxRecDepth 100000 in
set_option maxHeartbeats 8000000 in
theorem of_9 {w : World} {S : Nat → Prop} {gc gv : Nat} {p : Prg} {vs : List Vs} {f : Fn} {gb gp : Nat} {blk plc : List Int} {tv lv dv : Value} (hN : NodesIn w S gc gv p vs f gb gp blk plc tv lv dv) {i : Nat} (hi : i < f.nodes.length) (hop : (ndAt f i).op = 9) :
 Calls Tryz.prog 94 #[.pointer (some ⟨gc, 0, none⟩), .int .i64 i] w (OfPost w (formF p f blk i)) := by
 have hPP : ∀ fm w' r, formF p f blk i = r → Below w.heap.size w w' → (r.isSome = true → r = some fm) → OfPost w (formF p f blk i) (.returned (.tuple #[formV fm, .bool r.isSome])) w' := fun fm w' r h1 h2 h3 => by
  subst h1
  exact ⟨h2, fm, rfl, h3⟩
 have HP := Lib.hid hPP
 clear hPP
 have HN := Lib.hid hN
 obtain ⟨Ac, cc, Am, cm, An, cn, Ab, cb, As, cs, hC⟩ := hN.chk
 have c5 : w.cell? ⟨gc, 5, none⟩ = some (.slice An f.nodes.length cn) := hC.blk.cell 5
 have lC := hC.blk.lt
 obtain ⟨bn, on_, A1, c1n, hAn, hSn, v0, v1, v2, v3, v4, v5, v6, -⟩ := rd_nd hC.fn.nodes hi
 subst hAn
 have i0 : (0 : Int) ≤ i := by omega
 have i1 : (i : Int) < f.nodes.length := by omega
 have hnd := hN.nd
 have lbn := (hC.lt bn hSn).1
 have hm := in_true hN.mth
 have mth0 : 0 ≤ f.mth := hm.1
 have mth1 : f.mth < p.methods.length := hm.2
 obtain ⟨x, hxx⟩ : ∃ x, ndAt f i = x := ⟨_, rfl⟩
 have hxg : f.nodes.getD i default = x := hxx
 rw [hxg] at v0 v1 v2 v3 v4 v5 v6
 have HC := Lib.hid hC
 obtain ⟨op, xa, xb, st, kd, xn, args⟩ := x
 obtain rfl : op = 9 := by
  have := hop
  rw [hxx] at this
  exact this
 have Hx := Lib.hid hxx
 clear hxx hxg hop hN hC hm
 generalize hpost : OfPost w (formF p f blk i) = Post at *
 clear hpost
 go_enter Tryz.func94, Tryz.ntmps94
 go_upto_region 3 with (fail)
 have R2 := (Blk.new w 172 #[.string ⟨#[]⟩, .string ⟨#[]⟩, .bool false, .bool false, .bool false, .bool false]).alloc (.cells #[.int .i64 9, .int .i64 xa, .int .i64 xb, .int .i64 st, .string kd, .int .i64 xn, .slice A1 args.length c1n] 59)
 have X2 := Blk.newAt (w := w.alloc (.cells #[.string ⟨#[]⟩, .string ⟨#[]⟩, .bool false, .bool false, .bool false, .bool false] 172)) (g := w.heap.size + 1) (by simp) 59 #[.int .i64 9, .int .i64 xa, .int .i64 xb, .int .i64 st, .string kd, .int .i64 xn, .slice A1 args.length c1n]
 have hb2 := ((Below.refl w.heap.size w).alloc (Nat.le_refl _) (.cells #[.string ⟨#[]⟩, .string ⟨#[]⟩, .bool false, .bool false, .bool false, .bool false] 172)).alloc (by simp) (.cells #[.int .i64 9, .int .i64 xa, .int .i64 xb, .int .i64 st, .string kd, .int .i64 xn, .slice A1 args.length c1n] 59)
 clear c5 v0 v1 v2 v3 v4 v5 v6 lbn lC
 generalize (w.alloc (.cells #[.string ⟨#[]⟩, .string ⟨#[]⟩, .bool false, .bool false, .bool false, .bool false] 172)).alloc (.cells #[.int .i64 9, .int .i64 xa, .int .i64 xb, .int .i64 st, .string kd, .int .i64 xn, .slice A1 args.length c1n] 59) = w2 at *
 have HC2 := Lib.hid (HC.out.below hb2)
 have HN2 := Lib.hid (HN.out.below hb2)
 have x0 := X2.at0
 have x1 := X2.at1
 have x2 := X2.at2
 have x4 : w2.cell? ⟨w.heap.size + 1, 4, none⟩ = some (.string kd) := X2.cell 4
 have x5 : w2.cell? ⟨w.heap.size + 1, 5, none⟩ = some (.int .i64 xn) := X2.cell 5
 have lR2 := R2.lt
 have lX2 := X2.lt
 have Hf := Lib.hid (show formF p f blk i = some ⟨sI, sII, false, false, false, false⟩ by unfold formF; rw [Hx.out]; rfl)
 have r0 := R2.at0
 have r1 := R2.at1
 have r2 := R2.at2
 have r3 := R2.at3
 have r4 : w2.cell? ⟨w.heap.size, 4, none⟩ = some (.bool false) := R2.cell 4
 have r5 : w2.cell? ⟨w.heap.size, 5, none⟩ = some (.bool false) := R2.cell 5
 have f0 := R2.frozen 0
 have f1 := R2.frozen 1
 have f2 := R2.frozen 2
 have f3 := R2.frozen 3
 have f4 := R2.frozen 4
 have f5 := R2.frozen 5
 go_wp2
 have Q6 := R2.set6 (a := .string ⟨#[73]⟩) (b := .string ⟨#[73, 73]⟩) (c := .bool false) (d := .bool false) (e := .bool false) (f := .bool false)
 have q0 := Q6.at0
 have q1 := Q6.at1
 have q2 := Q6.at2
 have q3 := Q6.at3
 have q4 := Q6.cell 4
 have q5 := Q6.cell 5
 simp only [set6] at q0 q1 q2 q3 q4 q5
 refine bodyPost_ret (v := .tuple #[formV ⟨sI, sII, false, false, false, false⟩, .bool true]) (by simp [results, Tryz.results94, go_sem, q0, q1, q2, q3, q4, q5, sE, sI, sR, sII, sRR, sRI]) rfl ?_
 exact HP.out ⟨sI, sII, false, false, false, false⟩ _ (some _) Hf.out (below_set6 hb2 (Nat.le_refl _)) (fun _ => rfl)
set_option maxRecDepth 100000 in
set_option maxHeartbeats 8000000 in
theorem of_10 {w : World} {S : Nat → Prop} {gc gv : Nat} {p : Prg} {vs : List Vs} {f : Fn} {gb gp : Nat} {blk plc : List Int} {tv lv dv : Value} (hN : NodesIn w S gc gv p vs f gb gp blk plc tv lv dv) {i : Nat} (hi : i < f.nodes.length) (hop : (ndAt f i).op = 10) :
 Calls Tryz.prog 94 #[.pointer (some ⟨gc, 0, none⟩), .int .i64 i] w (OfPost w (formF p f blk i)) := by
 have hPP : ∀ fm w' r, formF p f blk i = r → Below w.heap.size w w' → (r.isSome = true → r = some fm) → OfPost w (formF p f blk i) (.returned (.tuple #[formV fm, .bool r.isSome])) w' := fun fm w' r h1 h2 h3 => by
  subst h1
  exact ⟨h2, fm, rfl, h3⟩
 have HP := Lib.hid hPP
 clear hPP
 have HN := Lib.hid hN
 obtain ⟨Ac, cc, Am, cm, An, cn, Ab, cb, As, cs, hC⟩ := hN.chk
 have c5 : w.cell? ⟨gc, 5, none⟩ = some (.slice An f.nodes.length cn) := hC.blk.cell 5
 have lC := hC.blk.lt
 obtain ⟨bn, on_, A1, c1n, hAn, hSn, v0, v1, v2, v3, v4, v5, v6, -⟩ := rd_nd hC.fn.nodes hi
 subst hAn
 have i0 : (0 : Int) ≤ i := by omega
 have i1 : (i : Int) < f.nodes.length := by omega
 have hnd := hN.nd
 have lbn := (hC.lt bn hSn).1
 have hm := in_true hN.mth
 have mth0 : 0 ≤ f.mth := hm.1
 have mth1 : f.mth < p.methods.length := hm.2
 obtain ⟨x, hxx⟩ : ∃ x, ndAt f i = x := ⟨_, rfl⟩
 have hxg : f.nodes.getD i default = x := hxx
 rw [hxg] at v0 v1 v2 v3 v4 v5 v6
 have HC := Lib.hid hC
 obtain ⟨op, xa, xb, st, kd, xn, args⟩ := x
 obtain rfl : op = 10 := by
  have := hop
  rw [hxx] at this
  exact this
 have Hx := Lib.hid hxx
 clear hxx hxg hop hN hC hm
 generalize hpost : OfPost w (formF p f blk i) = Post at *
 clear hpost
 go_enter Tryz.func94, Tryz.ntmps94
 go_upto_region 3 with (fail)
 have R2 := (Blk.new w 172 #[.string ⟨#[]⟩, .string ⟨#[]⟩, .bool false, .bool false, .bool false, .bool false]).alloc (.cells #[.int .i64 10, .int .i64 xa, .int .i64 xb, .int .i64 st, .string kd, .int .i64 xn, .slice A1 args.length c1n] 59)
 have X2 := Blk.newAt (w := w.alloc (.cells #[.string ⟨#[]⟩, .string ⟨#[]⟩, .bool false, .bool false, .bool false, .bool false] 172)) (g := w.heap.size + 1) (by simp) 59 #[.int .i64 10, .int .i64 xa, .int .i64 xb, .int .i64 st, .string kd, .int .i64 xn, .slice A1 args.length c1n]
 have hb2 := ((Below.refl w.heap.size w).alloc (Nat.le_refl _) (.cells #[.string ⟨#[]⟩, .string ⟨#[]⟩, .bool false, .bool false, .bool false, .bool false] 172)).alloc (by simp) (.cells #[.int .i64 10, .int .i64 xa, .int .i64 xb, .int .i64 st, .string kd, .int .i64 xn, .slice A1 args.length c1n] 59)
 clear c5 v0 v1 v2 v3 v4 v5 v6 lbn lC
 generalize (w.alloc (.cells #[.string ⟨#[]⟩, .string ⟨#[]⟩, .bool false, .bool false, .bool false, .bool false] 172)).alloc (.cells #[.int .i64 10, .int .i64 xa, .int .i64 xb, .int .i64 st, .string kd, .int .i64 xn, .slice A1 args.length c1n] 59) = w2 at *
 have HC2 := Lib.hid (HC.out.below hb2)
 have HN2 := Lib.hid (HN.out.below hb2)
 have x0 := X2.at0
 have x1 := X2.at1
 have x2 := X2.at2
 have x4 : w2.cell? ⟨w.heap.size + 1, 4, none⟩ = some (.string kd) := X2.cell 4
 have x5 : w2.cell? ⟨w.heap.size + 1, 5, none⟩ = some (.int .i64 xn) := X2.cell 5
 have lR2 := R2.lt
 have lX2 := X2.lt
 have Hf := Lib.hid (show formF p f blk i = some ⟨sI, sII, false, false, false, false⟩ by unfold formF; rw [Hx.out]; rfl)
 have r0 := R2.at0
 have r1 := R2.at1
 have r2 := R2.at2
 have r3 := R2.at3
 have r4 : w2.cell? ⟨w.heap.size, 4, none⟩ = some (.bool false) := R2.cell 4
 have r5 : w2.cell? ⟨w.heap.size, 5, none⟩ = some (.bool false) := R2.cell 5
 have f0 := R2.frozen 0
 have f1 := R2.frozen 1
 have f2 := R2.frozen 2
 have f3 := R2.frozen 3
 have f4 := R2.frozen 4
 have f5 := R2.frozen 5
 go_wp2
 have Q6 := R2.set6 (a := .string ⟨#[73]⟩) (b := .string ⟨#[73, 73]⟩) (c := .bool false) (d := .bool false) (e := .bool false) (f := .bool false)
 have q0 := Q6.at0
 have q1 := Q6.at1
 have q2 := Q6.at2
 have q3 := Q6.at3
 have q4 := Q6.cell 4
 have q5 := Q6.cell 5
 simp only [set6] at q0 q1 q2 q3 q4 q5
 refine bodyPost_ret (v := .tuple #[formV ⟨sI, sII, false, false, false, false⟩, .bool true]) (by simp [results, Tryz.results94, go_sem, q0, q1, q2, q3, q4, q5, sE, sI, sR, sII, sRR, sRI]) rfl ?_
 exact HP.out ⟨sI, sII, false, false, false, false⟩ _ (some _) Hf.out (below_set6 hb2 (Nat.le_refl _)) (fun _ => rfl)
end Go.Proofs.YtjjmpfmhggcjiaaGreatDoor
namespace Go.Proofs.YtjjmpfmhggcjiaaGreatDoor
open Go.RowKit Go.Maps
set_option maxRecDepth 100000 in
set_option maxHeartbeats 8000000 in
theorem of_47 {w : World} {S : Nat → Prop} {gc gv : Nat} {p : Prg} {vs : List Vs} {f : Fn} {gb gp : Nat} {blk plc : List Int} {tv lv dv : Value} (hN : NodesIn w S gc gv p vs f gb gp blk plc tv lv dv) {i : Nat} (hi : i < f.nodes.length) (hop : (ndAt f i).op = 47) :
 Calls Tryz.prog 94 #[.pointer (some ⟨gc, 0, none⟩), .int .i64 i] w (OfPost w (formF p f blk i)) := by
 have hPP : ∀ fm w' r, formF p f blk i = r → Below w.heap.size w w' → (r.isSome = true → r = some fm) → OfPost w (formF p f blk i) (.returned (.tuple #[formV fm, .bool r.isSome])) w' := fun fm w' r h1 h2 h3 => by
  subst h1
  exact ⟨h2, fm, rfl, h3⟩
 have HP := Lib.hid hPP
 clear hPP
 have HN := Lib.hid hN
 obtain ⟨Ac, cc, Am, cm, An, cn, Ab, cb, As, cs, hC⟩ := hN.chk
 have c5 : w.cell? ⟨gc, 5, none⟩ = some (.slice An f.nodes.length cn) := hC.blk.cell 5
 have lC := hC.blk.lt
 obtain ⟨bn, on_, A1, c1n, hAn, hSn, v0, v1, v2, v3, v4, v5, v6, -⟩ := rd_nd hC.fn.nodes hi
 subst hAn
 have i0 : (0 : Int) ≤ i := by omega
 have i1 : (i : Int) < f.nodes.length := by omega
 have hnd := hN.nd
 have lbn := (hC.lt bn hSn).1
 have hm := in_true hN.mth
 have mth0 : 0 ≤ f.mth := hm.1
 have mth1 : f.mth < p.methods.length := hm.2
 obtain ⟨x, hxx⟩ : ∃ x, ndAt f i = x := ⟨_, rfl⟩
 have hxg : f.nodes.getD i default = x := hxx
 rw [hxg] at v0 v1 v2 v3 v4 v5 v6
 have HC := Lib.hid hC
 obtain ⟨op, xa, xb, st, kd, xn, args⟩ := x
 obtain rfl : op = 47 := by
  have := hop
  rw [hxx] at this
  exact this
 have Hx := Lib.hid hxx
 clear hxx hxg hop hN hC hm
 generalize hpost : OfPost w (formF p f blk i) = Post at *
 clear hpost
 go_enter Tryz.func94, Tryz.ntmps94
 go_upto_region 3 with (fail)
 have R2 := (Blk.new w 172 #[.string ⟨#[]⟩, .string ⟨#[]⟩, .bool false, .bool false, .bool false, .bool false]).alloc (.cells #[.int .i64 47, .int .i64 xa, .int .i64 xb, .int .i64 st, .string kd, .int .i64 xn, .slice A1 args.length c1n] 59)
 have X2 := Blk.newAt (w := w.alloc (.cells #[.string ⟨#[]⟩, .string ⟨#[]⟩, .bool false, .bool false, .bool false, .bool false] 172)) (g := w.heap.size + 1) (by simp) 59 #[.int .i64 47, .int .i64 xa, .int .i64 xb, .int .i64 st, .string kd, .int .i64 xn, .slice A1 args.length c1n]
 have hb2 := ((Below.refl w.heap.size w).alloc (Nat.le_refl _) (.cells #[.string ⟨#[]⟩, .string ⟨#[]⟩, .bool false, .bool false, .bool false, .bool false] 172)).alloc (by simp) (.cells #[.int .i64 47, .int .i64 xa, .int .i64 xb, .int .i64 st, .string kd, .int .i64 xn, .slice A1 args.length c1n] 59)
 clear c5 v0 v1 v2 v3 v4 v5 v6 lbn lC
 generalize (w.alloc (.cells #[.string ⟨#[]⟩, .string ⟨#[]⟩, .bool false, .bool false, .bool false, .bool false] 172)).alloc (.cells #[.int .i64 47, .int .i64 xa, .int .i64 xb, .int .i64 st, .string kd, .int .i64 xn, .slice A1 args.length c1n] 59) = w2 at *
 have HC2 := Lib.hid (HC.out.below hb2)
 have HN2 := Lib.hid (HN.out.below hb2)
 have x0 := X2.at0
 have x1 := X2.at1
 have x2 := X2.at2
 have x4 : w2.cell? ⟨w.heap.size + 1, 4, none⟩ = some (.string kd) := X2.cell 4
 have x5 : w2.cell? ⟨w.heap.size + 1, 5, none⟩ = some (.int .i64 xn) := X2.cell 5
 have lR2 := R2.lt
 have lX2 := X2.lt
 have lgc := HC.out.blk.lt
 obtain ⟨mk, hmk⟩ : ∃ mk : Nat, f.mth = mk := ⟨f.mth.toNat, by omega⟩
 have hmkl : mk < p.methods.length := by omega
 obtain ⟨bm, om, Ai, ci, hAm, hSm, m0, m1, m2, m3⟩ := mthS_at HC2.out.prg.ms hmkl
 subst hAm
 have lbm := (HC.out.lt bm hSm).1
 have lbm2 := (HC2.out.lt bm hSm).1
 have c2 : w2.cell? ⟨gc, 2, none⟩ = some (.slice (some ⟨bm, om, none⟩) p.methods.length cm) := HC2.out.blk.cell 2
 have c3 : w2.cell? ⟨gc, 3, none⟩ = some (.int .i64 f.mth) := HC2.out.blk.cell 3
 rw [hmk] at c3
 have hmf : methodF p f.mth = p.methods.getD mk default := by rw [hmk]; exact methodF_at hmkl
 have q0 : (0 : Int) ≤ mk := by omega
 have q1 : (mk : Int) < p.methods.length := by omega
 have Hf := Lib.hid (show formF p f blk i = some ⟨sE, (p.methods.getD mk default).re, false, false, false, false⟩ by unfold formF; rw [Hx.out, ← hmf]; rfl)
 clear hmf hmk mth0 mth1
 generalize p.methods.getD mk default = mm at *
 go_upto_region 51 with (fail)
 refine wpJ_start (S := fun W => W.cell? ⟨gc, 2, none⟩ = some (.slice (some ⟨bm, om, none⟩) p.methods.length cm) ∧ W.cell? ⟨gc, 3, none⟩ = some (.int .i64 (mk : Int)) ∧ W.cell? ⟨bm, om + mk * 4 + 2, none⟩ = some (.string mm.re)) (fun _ => true) (by kernel_rfl) ⟨c2, c3, m2⟩ (fun HS => ?_)
 have R4 : Blk w2.drew w.heap.size 172 _ := R2
 have hb4 : Below w.heap.size w w2.drew := hb2.drew
 clear c2 c3 m0 m1 m2 m3 X2 R2 hb2 x0 x1 x2 x4 x5
 have lbw : bm < w2.drew.heap.size := lbm2
 have lgw : gc < w2.drew.heap.size := HC2.out.blk.lt
 generalize w2.drew = w4 at *
 refine takeQ 0 171 rfl HS (.inl ⟨rfl, fun W hW => by obtain ⟨h0, h1, h2⟩ := hW; go_simp; rfl⟩) ?_
 simp only [pS]
 refine takeQ 1 172 rfl HS (.inl ⟨rfl, fun W hW => by obtain ⟨h0, h1, h2⟩ := hW; go_simp; rfl⟩) ?_
 simp only [pS]
 refine takeQ 2 173 rfl HS (.inl ⟨rfl, fun W hW => by obtain ⟨h0, h1, h2⟩ := hW; go_simp; rfl⟩) ?_
 simp only [pS]
 refine takeQ 3 174 rfl HS (.inl ⟨rfl, fun W hW => by obtain ⟨h0, h1, h2⟩ := hW; go_simp; rfl⟩) ?_
 simp only [pS]
 refine takeQ 4 175 rfl HS (.inl ⟨rfl, fun W hW => by obtain ⟨h0, h1, h2⟩ := hW; go_simp; rfl⟩) ?_
 simp only [pS]
 refine takeQ 5 176 rfl HS (.inl ⟨rfl, fun W hW => by obtain ⟨h0, h1, h2⟩ := hW; go_simp; rfl⟩) ?_
 simp only [pS]
 refine takeQ 6 177 rfl HS (.inl ⟨rfl, fun W hW => by obtain ⟨h0, h1, h2⟩ := hW; go_simp; rfl⟩) ?_
 simp only [pS]
 refine takeQ 7 178 rfl HS (.inl ⟨rfl, fun W hW => by obtain ⟨h0, h1, h2⟩ := hW; go_simp; rfl⟩) ?_
 simp only [pS]
 refine takeQ 8 179 rfl HS (.inl ⟨rfl, fun W hW => by obtain ⟨h0, h1, h2⟩ := hW; go_simp; rfl⟩) ?_
 simp only [pS]
 refine takeQ 9 180 rfl HS (.inl ⟨rfl, fun W hW => by obtain ⟨h0, h1, h2⟩ := hW; go_simp; rfl⟩) ?_
 simp only [pS]
 refine takeQ 10 181 rfl HS (.inl ⟨rfl, fun W hW => by obtain ⟨h0, h1, h2⟩ := hW; go_simp; rfl⟩) ?_
 simp only [pS]
 refine takeQ 11 182 rfl HS (.inl ⟨rfl, fun W hW => by obtain ⟨h0, h1, h2⟩ := hW; go_simp; rfl⟩) ?_
 simp only [pS]
 refine takeQ 12 183 rfl HS (.inl ⟨rfl, fun W hW => by obtain ⟨h0, h1, h2⟩ := hW; go_simp; rfl⟩) ?_
 simp only [pS]
 refine takeQ 13 184 rfl HS (.inl ⟨rfl, fun W hW => by obtain ⟨h0, h1, h2⟩ := hW; go_simp; rfl⟩) ?_
 simp only [pS]
 have r0 := R4.at0
 have r1 := R4.at1
 have r2 := R4.at2
 have r3 := R4.at3
 have r4 : w4.cell? ⟨w.heap.size, 4, none⟩ = some (.bool false) := R4.cell 4
 have r5 : w4.cell? ⟨w.heap.size, 5, none⟩ = some (.bool false) := R4.cell 5
 have f0 := R4.frozen 0
 have f1 := R4.frozen 1
 have f2 := R4.frozen 2
 have f3 := R4.frozen 3
 have f4 := R4.frozen 4
 have f5 := R4.frozen 5
 have lR4 := R4.lt
 refine stepQ 14 rfl (fun K HK => ?_)
 go_simp
 have R6 := R4.set6 (a := .string ⟨#[]⟩) (b := .string (mm.re)) (c := .bool false) (d := .bool false) (e := .bool false) (f := .bool false)
 have hb6 := below_set6 (a := .string ⟨#[]⟩) (b := .string (mm.re)) (c := .bool false) (d := .bool false) (e := .bool false) (f := .bool false) hb4 (Nat.le_refl w.heap.size)
 have K6 : KB (fun b => b ≠ w.heap.size) w4 (set6 w4 w.heap.size (.string ⟨#[]⟩) (.string (mm.re)) (.bool false) (.bool false) (.bool false) (.bool false)) := kb_set6
 have old6 := fun (q : Addr) (v : Value) (hq : q.block ≠ w.heap.size) (h : w4.cell? q = some v) => (World.cell?_of_block (K6 q.block hq)).trans h
 unfold set6 at R6 hb6 old6
 obtain ⟨s0, s1, s2⟩ := HS
 have HS6 := And.intro (old6 ⟨gc, 2, none⟩ _ (by show gc ≠ w.heap.size; omega) s0) (And.intro (old6 ⟨gc, 3, none⟩ _ (by show gc ≠ w.heap.size; omega) s1) (old6 ⟨bm, om + mk * 4 + 2, none⟩ _ (by show bm ≠ w.heap.size; omega) s2))
 clear K6 old6 s0 s1 s2
 refine HK.out _ _ (fun _ => HS6) ?_
 clear HK r0 r1 r2 r3 r4 r5 f0 f1 f2 f3 f4 f5 R4 hb4 lR4
 generalize (((((w4.setCell ⟨w.heap.size, 0, none⟩ (.string ⟨#[]⟩)).setCell ⟨w.heap.size, 1, none⟩ (.string (mm.re))).setCell ⟨w.heap.size, 2, none⟩ (.bool false)).setCell ⟨w.heap.size, 3, none⟩ (.bool false)).setCell ⟨w.heap.size, 4, none⟩ (.bool false)).setCell ⟨w.heap.size, 5, none⟩ (.bool false) = w6 at *
 try simp only [pS]
 refine takeQ 15 5 rfl HS6 (.inl ⟨rfl, fun W hW => by obtain ⟨h0, h1, h2⟩ := hW; go_simp; rfl⟩) ?_
 simp only [pS]
 refine wpAnyJ_done (by kernel_rfl) ?_ _
 have q0 := R6.at0
 have q1 := R6.at1
 have q2 := R6.at2
 have q3 := R6.at3
 have q4 := R6.cell 4
 have q5 := R6.cell 5
 clear HS6
 go_wp2
 refine bodyPost_ret (v := .tuple #[formV ⟨sE, mm.re, false, false, false, false⟩, .bool true]) (by simp [results, Tryz.results94, go_sem, q0, q1, q2, q3, q4, q5, sE, sI, sR, sII, sRR, sRI]) rfl ?_
 exact HP.out ⟨sE, mm.re, false, false, false, false⟩ _ (some _) Hf.out hb6 (fun _ => rfl)
end Go.Proofs.YtjjmpfmhggcjiaaGreatDoor
