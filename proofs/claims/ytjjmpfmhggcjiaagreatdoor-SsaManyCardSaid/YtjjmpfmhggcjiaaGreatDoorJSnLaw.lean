/-
 Ss8, Ss9, PgLight, LightB, SsO4, SmLaw, SnLaw.
-/
import Derived.StillTailTactics
import Derived.Test.YtjjmpfmhggcjiaaGreatDoorJPgRef
import Derived.Test.YtjjmpfmhggcjiaaGreatDoorJSs7b
import Derived.Test.YtjjmpfmhggcjiaaGreatDoorJSrLaw
set_option linter.unusedSimpArgs false
set_option linter.unusedVariables false
namespace Go.Proofs.YtjjmpfmhggcjiaaGreatDoor
open Go.RowKit Go.Maps
end Go.Proofs.YtjjmpfmhggcjiaaGreatDoor
namespace Go.Proofs.YtjjmpfmhggcjiaaGreatDoor
open Go.RowKit Go.Maps
abbrev formV (fm : Form) : Value := .agg #[.string fm.kind, .string fm.args, .bool fm.a, .bool fm.b, .bool fm.n, .bool fm.st]
def OfPost (w : World) (r : Option Form) (e : Ending) (w' : World) : Prop := Below w.heap.size w w' ∧ ∃ fm, e = .returned (.tuple #[formV fm, .bool r.isSome]) ∧ (r.isSome = true → r = some fm)
/-- What the rules on nodes stand on. -/
structure NodesIn (w : World) (S : Nat → Prop) (gc gv : Nat) (p : Prg) (vs : List Vs) (f : Fn) (gb gp : Nat) (blk plc : List Int) (tv lv dv : Value) : Prop where
 chk : Chk w S gc gv p vs f (.slice (some ⟨gb, 0, none⟩) f.nodes.length f.nodes.length) (.slice (some ⟨gp, 0, none⟩) f.nodes.length f.nodes.length) tv lv dv
 bb : Blk w gb 3 ⟨ints blk⟩
 st : Stands f blk plc
 mth : inB f.mth p.methods.length = true
 cls : ∀ k, k < p.classes.length → (p.classes.getD k ⟨#[]⟩).size ≤ 1000000
 mts : ∀ k, k < p.methods.length → (p.methods.getD k default).pa.size + (p.methods.getD k default).lo.size ≤ 1000
 nd : f.nodes.length ≤ 4000
 kinds : ∀ k, k < f.nodes.length → (ndAt f k).kind.size ≤ 1000000
 prs : ∀ b, b < f.blocks.length → (bkAt f b).preds.length ≤ 1000000
theorem NodesIn.below {w w' : World} {S : Nat → Prop} {gc gv : Nat} {p : Prg} {vs : List Vs} {f : Fn} {gb gp : Nat} {blk plc : List Int} {tv lv dv : Value} (h : NodesIn w S gc gv p vs f gb gp blk plc tv lv dv) (hb : Below w.heap.size w w') : NodesIn w' S gc gv p vs f gb gp blk plc tv lv dv :=
 ⟨h.chk.below hb, h.bb.below hb h.bb.lt, h.st, h.mth, h.cls, h.mts, h.nd, h.kinds, h.prs⟩
theorem ChkAt.below {w w' : World} {S : Nat → Prop} {gc gv : Nat} {p : Prg} {vs : List Vs} {f : Fn} {Ac Am An Ab As : Option Addr} {cc cm cn cb cs : Nat} {bv qv tv lv dv : Value} (h : ChkAt w S gc gv p vs f Ac cc Am cm An cn Ab cb As cs bv qv tv lv dv) (hb : Below w.heap.size w w') : ChkAt w' S gc gv p vs f Ac cc Am cm An cn Ab cb As cs bv qv tv lv dv :=
 h.kb (KB.of_below hb (fun b hb => hb.elim (fun h2 => (h.lt b h2).1) (fun h2 => h2.elim (fun e => e ▸ h.gv.1) (fun e => e ▸ h.blk.lt)))) hb.size
def set6 (w : World) (g : Nat) (a b c d e f : Value) : World := (((((w.setCell ⟨g, 0, none⟩ a).setCell ⟨g, 1, none⟩ b).setCell ⟨g, 2, none⟩ c).setCell ⟨g, 3, none⟩ d).setCell ⟨g, 4, none⟩ e).setCell ⟨g, 5, none⟩ f
theorem below_set6 {B g : Nat} {w w' : World} {a b c d e f : Value} (h : Below B w w') (hg : B ≤ g) : Below B w (set6 w' g a b c d e f) := (((((h.setCell (p := ⟨g, 0, none⟩) hg _).setCell (p := ⟨g, 1, none⟩) hg _).setCell (p := ⟨g, 2, none⟩) hg _).setCell (p := ⟨g, 3, none⟩) hg _).setCell (p := ⟨g, 4, none⟩) hg _).setCell (p := ⟨g, 5, none⟩) hg _
theorem kb_set6 {w : World} {g : Nat} {a b c d e f : Value} : KB (fun b => b ≠ g) w (set6 w g a b c d e f) :=
 ((((((KB.refl _ w).set (p := ⟨g, 0, none⟩) (fun h => h rfl) a).set (p := ⟨g, 1, none⟩) (fun h => h rfl) b).set (p := ⟨g, 2, none⟩) (fun h => h rfl) c).set (p := ⟨g, 3, none⟩) (fun h => h rfl) d).set (p := ⟨g, 4, none⟩) (fun h => h rfl) e).set (p := ⟨g, 5, none⟩) (fun h => h rfl) f
theorem Blk.set6 {w : World} {g : Nat} {T : TypeId} {x0 x1 x2 x3 x4 x5 a b c d e f : Value} (h : Blk w g T #[x0, x1, x2, x3, x4, x5]) : Blk (set6 w g a b c d e f) g T #[a, b, c, d, e, f] := by
 have := (((((h.set_ 0 a).set_ 1 b).set_ 2 c).set_ 3 d).set_ 4 e).set_ 5 f
 simpa [Proofs.YtjjmpfmhggcjiaaGreatDoor.set6] using this
end Go.Proofs.YtjjmpfmhggcjiaaGreatDoor
namespace Go.Proofs.YtjjmpfmhggcjiaaGreatDoor
open Go.RowKit Go.Maps
end Go.Proofs.YtjjmpfmhggcjiaaGreatDoor
namespace Go.Proofs.YtjjmpfmhggcjiaaGreatDoor
open Go.RowKit Go.Maps
/-- A program is small. -/
structure LightP (p : Prg) : Prop where
 cl : p.classes.length ≤ 20
 ms : p.methods.length ≤ 20
 fs : ∀ k, k < p.classes.length → (p.classes.getD k ⟨#[]⟩).size ≤ 30
 m : ∀ k, k < p.methods.length → (p.methods.getD k default).pa.size ≤ 30 ∧ (p.methods.getD k default).lo.size ≤ 30 ∧ (p.methods.getD k default).re.size ≤ 30 ∧ (p.methods.getD k default).code.length ≤ 140
/-- A Boolean tells a proposition. -/
def IsB (b : Bool) (P : Prop) : Prop := b = true ↔ P
def LightPost (w : World) (p : Prg) (e : Ending) (w' : World) : Prop := ∃ b, e = .returned (.bool b) ∧ (b = true ↔ LightP p) ∧ Below w.heap.size w w'
set_option maxRecDepth 100000 in
set_option maxHeartbeats 2000000 in
theorem light_is (Ac Am : Option Addr) (cc cm : Nat) (p : Prg) (w : World) (hr : RdP w w.heap.size Ac Am p) (hp : POk p) :
 Calls Tryz.prog 29 #[pv Ac cc Am cm p] w (LightPost w p) := by
 have hcl := hp.cl
 have hms := hp.ms
 have hPP : ∀ (b : Bool) (w' : World), (b = true ↔ LightP p) → Below w.heap.size w w' → LightPost w p (.returned (.bool b)) w' := fun b w' h1 h => ⟨b, rfl, h1, h⟩
 have HP := Lib.hid hPP
 clear hPP
 have hP := Blk.new w 25 #[.slice Ac p.classes.length cc, .slice Am p.methods.length cm]
 have hw2 := (Below.refl w.heap.size w).alloc (Nat.le_refl _) (.cells #[.slice Ac p.classes.length cc, .slice Am p.methods.length cm] 25)
 generalize LightPost w p = Post at *
 go_enter Tryz.func29, Tryz.ntmps29
 go_upto_region 1 with (fail)
 generalize w.alloc (.cells #[.slice Ac p.classes.length cc, .slice Am p.methods.length cm] 25) = w2 at *
 have p0 := hP.at0
 have p1 := hP.at1
 have hPl := hP.lt
 have hr2 := hr.below hw2 (Nat.le_refl _)
 go_cut [15] from 6 to 15 (fun v wx => ∃ b : Bool, v = .bool b ∧ Hid (IsB b (20 < p.classes.length ∨ 20 < p.methods.length)) ∧ w2 = wx)
 case first =>
  by_cases h1 : 20 < p.classes.length
  · have Hb := Lib.hid (show IsB true (20 < p.classes.length ∨ 20 < p.methods.length) by simp [IsB, h1])
    have g1 : decide ((20 : Int) < p.classes.length) = true := by simp; omega
    clear h1
    go_wp2
    go_meet
    exact ⟨true, rfl, Hb, rfl⟩
  · have Hb := Lib.hid (show IsB (decide ((20 : Int) < p.methods.length)) (20 < p.classes.length ∨ 20 < p.methods.length) by simp [IsB]; omega)
    have g1 : decide ((20 : Int) < p.classes.length) = false := by simp; omega
    clear h1
    go_wp2
    go_meet
    exact ⟨_, rfl, Hb, rfl⟩
 case rest =>
  obtain ⟨bb, rfl, Hbb, hwx⟩ := hcut
  subst hwx
  cases bb with
  | true =>
    go_wp2
    exact HP.out false _ (by simp; intro hl; have h2 : 20 < p.classes.length ∨ 20 < p.methods.length := Hbb.out.1 rfl; have := hl.cl; have := hl.ms; omega) hw2
  | false =>
    have Hlen := Lib.hid (show p.classes.length ≤ 20 ∧ p.methods.length ≤ 20 by
     have h := Hbb.out
     simp [IsB] at h
     omega)
    go_wp2
    go_loop [3] (fun iv => ∃ k : Nat, k ≤ p.classes.length ∧ iv = .int .i64 k ∧ Hid (∀ j, j < k → (p.classes.getD j ⟨#[]⟩).size ≤ 30)) (fun iv => p.classes.length - (intOf iv).toNat)
    case atStart => exact ⟨0, Nat.zero_le _, rfl, Lib.hid (fun j h => by omega)⟩
    case round =>
     obtain ⟨k, hk, rfl, Hk⟩ := hrel
     by_cases hlt : k < p.classes.length
     · obtain ⟨b, off, hA, hbb, c1⟩ := str_at hr2.cl hlt
       have hfs := hp.fs k hlt
       have Hs : Hid (30 < (p.classes.getD k ⟨#[]⟩).size → ¬ LightP p) := Lib.hid (fun h hl => by have := hl.fs k hlt; omega)
       have Hs2 : Hid (¬ 30 < (p.classes.getD k ⟨#[]⟩).size → ∀ j, j < k + 1 → (p.classes.getD j ⟨#[]⟩).size ≤ 30) := Lib.hid (fun h j hj => by
        by_cases e : j = k
        · subst e; omega
        · exact Hk.out j (by omega))
       generalize p.classes.getD k ⟨#[]⟩ = s at *
       have k0 : (0 : Int) ≤ k := by omega
       have k1 : (k : Int) < p.classes.length := by omega
       subst hA
       cases hs : decide (30 < (s.size : Int)) with
       | true =>
         have Hn := Lib.hid (Hs.out (by have := of_decide_eq_true hs; omega))
         go_wp2
         exact HP.out false _ (by simp [Hn.out]) hw2
       | false =>
         have Hn := Lib.hid (Hs2.out (by have := of_decide_eq_false hs; omega))
         go_wp2
         go_round
         case rel => exact ⟨k + 1, by omega, by go_num, Hn⟩
         case measure => simp [intOf]; omega
     · have hge : ¬ (k : Int) < p.classes.length := by omega
       have Hcl := Lib.hid (fun j (hj : j < p.classes.length) => Hk.out j (by omega))
       clear hlt
       go_wp2
       clear hge p0 p1
       go_loopw [4] (fun iv wr => ∃ i : Nat, i ≤ p.methods.length ∧ iv = .int .i64 i ∧ Hid (∀ k, k < i → (p.methods.getD k default).pa.size ≤ 30 ∧ (p.methods.getD k default).lo.size ≤ 30 ∧ (p.methods.getD k default).re.size ≤ 30 ∧ (p.methods.getD k default).code.length ≤ 140) ∧ Below w.heap.size w wr ∧ Blk wr w.heap.size 25 #[.slice Ac p.classes.length cc, .slice Am p.methods.length cm]) (fun iv _ => p.methods.length - (intOf iv).toNat)
       case atStart => exact ⟨0, Nat.zero_le _, rfl, Lib.hid (fun j h => by omega), hw2, hP⟩
       case round =>
        clear hw2 hP hPl hr2
        obtain ⟨i, hi, rfl, Hi, hb, hP⟩ := hrel
        have hz := hb.size
        have p0 := hP.at0
        have p1 := hP.at1
        have hPl := hP.lt
        by_cases hlt : i < p.methods.length
        · obtain ⟨b, off, Ai, ci, hA, hbb, m0, m1, m2, m3, hcode⟩ := mth_at (hr.ms.below hb (Nat.le_refl _)) hlt
          have hmk := hp.m i hlt
          have hm1 := hmk.pa
          have hm2 := hmk.lo
          have hm3 := hmk.re
          have hm4 := hmk.code
          have Hs : Hid ((30 < (p.methods.getD i default).pa.size ∨ 30 < (p.methods.getD i default).lo.size ∨ 30 < (p.methods.getD i default).re.size ∨ 140 < (p.methods.getD i default).code.length) → ¬ LightP p) := Lib.hid (fun h hl => by have := hl.m i hlt; omega)
          have Hs2 : Hid (¬ (30 < (p.methods.getD i default).pa.size ∨ 30 < (p.methods.getD i default).lo.size ∨ 30 < (p.methods.getD i default).re.size ∨ 140 < (p.methods.getD i default).code.length) → ∀ k, k < i + 1 → (p.methods.getD k default).pa.size ≤ 30 ∧ (p.methods.getD k default).lo.size ≤ 30 ∧ (p.methods.getD k default).re.size ≤ 30 ∧ (p.methods.getD k default).code.length ≤ 140) := Lib.hid (fun h j hj => by
           by_cases e : j = i
           · subst e; omega
           · exact Hi.out j (by omega))
          generalize p.methods.getD i default = m at *
          have k0 : (0 : Int) ≤ i := by omega
          have k1 : (i : Int) < p.methods.length := by omega
          subst hA
          go_upto_region 12 with (fail)
          have hM := Blk.new wr 90 #[.string m.pa, .string m.lo, .string m.re, .slice Ai m.code.length ci]
          have hP1 := hP.alloc (.cells #[.string m.pa, .string m.lo, .string m.re, .slice Ai m.code.length ci] 90)
          have hb1 := hb.alloc hz (.cells #[.string m.pa, .string m.lo, .string m.re, .slice Ai m.code.length ci] 90)
          clear p0 p1 m0 m1 m2 m3 hcode hP hb
          generalize wr.alloc (.cells #[.string m.pa, .string m.lo, .string m.re, .slice Ai m.code.length ci] 90) = w3 at *
          generalize wr.heap.size = gm at *
          have y0 := hM.at0
          have y1 := hM.at1
          have y2 := hM.at2
          have y3 := hM.at3
          have hMl := hM.lt
          go_cut [64] from 43 to 64 (fun v wx => ∃ b : Bool, v = .bool b ∧ Hid (IsB b (30 < m.pa.size ∨ 30 < m.lo.size ∨ 30 < m.re.size ∨ 140 < m.code.length)) ∧ w3 = wx)
          case first =>
           by_cases h1 : 30 < m.pa.size
           · have Hb := Lib.hid (show IsB true (30 < m.pa.size ∨ 30 < m.lo.size ∨ 30 < m.re.size ∨ 140 < m.code.length) by simp [IsB, h1])
             have g1 : decide ((30 : Int) < m.pa.size) = true := by simp; omega
             clear h1
             go_wp2
             go_meet
             exact ⟨true, rfl, Hb, rfl⟩
           · by_cases h2 : 30 < m.lo.size
             · have Hb := Lib.hid (show IsB true (30 < m.pa.size ∨ 30 < m.lo.size ∨ 30 < m.re.size ∨ 140 < m.code.length) by simp [IsB, h2])
               have g1 : decide ((30 : Int) < m.pa.size) = false := by simp; omega
               have g2 : decide ((30 : Int) < m.lo.size) = true := by simp; omega
               clear h1 h2
               go_wp2
               go_meet
               exact ⟨true, rfl, Hb, rfl⟩
             · by_cases h3 : 30 < m.re.size
               · have Hb := Lib.hid (show IsB true (30 < m.pa.size ∨ 30 < m.lo.size ∨ 30 < m.re.size ∨ 140 < m.code.length) by simp [IsB, h3])
                 have g1 : decide ((30 : Int) < m.pa.size) = false := by simp; omega
                 have g2 : decide ((30 : Int) < m.lo.size) = false := by simp; omega
                 have g3 : decide ((30 : Int) < m.re.size) = true := by simp; omega
                 clear h1 h2 h3
                 go_wp2
                 go_meet
                 exact ⟨true, rfl, Hb, rfl⟩
               · have Hb := Lib.hid (show IsB (decide ((140 : Int) < m.code.length)) (30 < m.pa.size ∨ 30 < m.lo.size ∨ 30 < m.re.size ∨ 140 < m.code.length) by simp [IsB]; omega)
                 have g1 : decide ((30 : Int) < m.pa.size) = false := by simp; omega
                 have g2 : decide ((30 : Int) < m.lo.size) = false := by simp; omega
                 have g3 : decide ((30 : Int) < m.re.size) = false := by simp; omega
                 clear h1 h2 h3
                 go_wp2
                 go_meet
                 exact ⟨_, rfl, Hb, rfl⟩
          case rest =>
           obtain ⟨bb, rfl, Hbb, hwx⟩ := hcut
           subst hwx
           cases bb with
           | true =>
             have Hn := Lib.hid (Hs.out (Hbb.out.1 rfl))
             go_wp2
             exact HP.out false _ (by simp [Hn.out]) hb1
           | false =>
             have Hn := Lib.hid (Hs2.out (fun h => by have := Hbb.out.2 h; cases this))
             go_wp2
             go_roundw
             case rel => exact ⟨i + 1, by omega, by go_num, Hn, hb1, hP1⟩
             case measure => simp [intOf]; omega
        · have hge : ¬ (i : Int) < p.methods.length := by omega
          clear hlt
          have HL := Lib.hid (show LightP p from ⟨Hlen.out.1, Hlen.out.2, Hcl.out, fun k hk => Hi.out k (by omega)⟩)
          go_wp2
          exact HP.out true _ (by simp [HL.out]) hb
end Go.Proofs.YtjjmpfmhggcjiaaGreatDoor
namespace Go.Proofs.YtjjmpfmhggcjiaaGreatDoor
open Go.RowKit Go.Maps
set_option maxRecDepth 100000 in
set_option maxHeartbeats 8000000 in
theorem of_47 {w : World} {S : Nat → Prop} {gc gv : Nat} {p : Prg} {vs : List Vs} {f : Fn} {gb gp : Nat} {blk plc : List Int} {tv lv dv : Value} (hN : NodesIn w S gc gv p vs f gb gp blk plc tv lv dv) {i : Nat} (hi : i < f.nodes.length) (hop : (ndAt f i).op = 47) :
 Calls Tryz.prog 94 #[.pointer (some ⟨gc, 0, none⟩), .int .i64 i] w (OfPost w (formF p f blk i)) := by
 have hPP : ∀ fm w' r, formF p f blk i = r → Below w.heap.size w w' → (r.isSome = true → r = some fm) → OfPost w (formF p f blk i) (.returned (.tuple #[formV fm, .bool r.isSome])) w' := fun fm w' r h1 h2 h3 => by
  subst h1
  exact ⟨h2, fm, rfl, h3⟩
 have HP := Lib.hid hPP
 clear hPP
 have HN := Lib.hid hN
 obtain ⟨Ac, cc, Am, cm, An, cn, Ab, cb, As, cs, hC⟩ := hN.chk
 have c5 : w.cell? ⟨gc, 5, none⟩ = some (.slice An f.nodes.length cn) := hC.blk.cell 5
 have lC := hC.blk.lt
 obtain ⟨bn, on_, A1, c1n, hAn, hSn, v0, v1, v2, v3, v4, v5, v6, -⟩ := rd_nd hC.fn.nodes hi
 subst hAn
 have i0 : (0 : Int) ≤ i := by omega
 have i1 : (i : Int) < f.nodes.length := by omega
 have hnd := hN.nd
 have lbn := (hC.lt bn hSn).1
 have hm := in_true hN.mth
 have mth0 : 0 ≤ f.mth := hm.1
 have mth1 : f.mth < p.methods.length := hm.2
 obtain ⟨x, hxx⟩ : ∃ x, ndAt f i = x := ⟨_, rfl⟩
 have hxg : f.nodes.getD i default = x := hxx
 rw [hxg] at v0 v1 v2 v3 v4 v5 v6
 have HC := Lib.hid hC
 obtain ⟨op, xa, xb, st, kd, xn, args⟩ := x
 obtain rfl : op = 47 := by
  have := hop
  rw [hxx] at this
  exact this
 have Hx := Lib.hid hxx
 clear hxx hxg hop hN hC hm
 generalize hpost : OfPost w (formF p f blk i) = Post at *
 clear hpost
 go_enter Tryz.func94, Tryz.ntmps94
 go_upto_region 3 with (fail)
 have R2 := (Blk.new w 172 #[.string ⟨#[]⟩, .string ⟨#[]⟩, .bool false, .bool false, .bool false, .bool false]).alloc (.cells #[.int .i64 47, .int .i64 xa, .int .i64 xb, .int .i64 st, .string kd, .int .i64 xn, .slice A1 args.length c1n] 59)
 have X2 := Blk.newAt (w := w.alloc (.cells #[.string ⟨#[]⟩, .string ⟨#[]⟩, .bool false, .bool false, .bool false, .bool false] 172)) (g := w.heap.size + 1) (by simp) 59 #[.int .i64 47, .int .i64 xa, .int .i64 xb, .int .i64 st, .string kd, .int .i64 xn, .slice A1 args.length c1n]
 have hb2 := ((Below.refl w.heap.size w).alloc (Nat.le_refl _) (.cells #[.string ⟨#[]⟩, .string ⟨#[]⟩, .bool false, .bool false, .bool false, .bool false] 172)).alloc (by simp) (.cells #[.int .i64 47, .int .i64 xa, .int .i64 xb, .int .i64 st, .string kd, .int .i64 xn, .slice A1 args.length c1n] 59)
 clear c5 v0 v1 v2 v3 v4 v5 v6 lbn lC
 generalize (w.alloc (.cells #[.string ⟨#[]⟩, .string ⟨#[]⟩, .bool false, .bool false, .bool false, .bool false] 172)).alloc (.cells #[.int .i64 47, .int .i64 xa, .int .i64 xb, .int .i64 st, .string kd, .int .i64 xn, .slice A1 args.length c1n] 59) = w2 at *
 have HC2 := Lib.hid (HC.out.below hb2)
 have HN2 := Lib.hid (HN.out.below hb2)
 have x0 := X2.at0
 have x1 := X2.at1
 have x2 := X2.at2
 have x4 : w2.cell? ⟨w.heap.size + 1, 4, none⟩ = some (.string kd) := X2.cell 4
 have x5 : w2.cell? ⟨w.heap.size + 1, 5, none⟩ = some (.int .i64 xn) := X2.cell 5
 have lR2 := R2.lt
 have lX2 := X2.lt
 have lgc := HC.out.blk.lt
 obtain ⟨mk, hmk⟩ : ∃ mk : Nat, f.mth = mk := ⟨f.mth.toNat, by omega⟩
 have hmkl : mk < p.methods.length := by omega
 obtain ⟨bm, om, Ai, ci, hAm, hSm, m0, m1, m2, m3⟩ := mthS_at HC2.out.prg.ms hmkl
 subst hAm
 have lbm := (HC.out.lt bm hSm).1
 have lbm2 := (HC2.out.lt bm hSm).1
 have c2 : w2.cell? ⟨gc, 2, none⟩ = some (.slice (some ⟨bm, om, none⟩) p.methods.length cm) := HC2.out.blk.cell 2
 have c3 : w2.cell? ⟨gc, 3, none⟩ = some (.int .i64 f.mth) := HC2.out.blk.cell 3
 rw [hmk] at c3
 have hmf : methodF p f.mth = p.methods.getD mk default := by rw [hmk]; exact methodF_at hmkl
 have q0 : (0 : Int) ≤ mk := by omega
 have q1 : (mk : Int) < p.methods.length := by omega
 have Hf := Lib.hid (show formF p f blk i = some ⟨sE, (p.methods.getD mk default).re, false, false, false, false⟩ by unfold formF; rw [Hx.out, ← hmf]; rfl)
 clear hmf hmk mth0 mth1
 generalize p.methods.getD mk default = mm at *
 go_upto_region 51 with (fail)
 refine wpJ_start (S := fun W => W.cell? ⟨gc, 2, none⟩ = some (.slice (some ⟨bm, om, none⟩) p.methods.length cm) ∧ W.cell? ⟨gc, 3, none⟩ = some (.int .i64 (mk : Int)) ∧ W.cell? ⟨bm, om + mk * 4 + 2, none⟩ = some (.string mm.re)) (fun _ => true) (by kernel_rfl) ⟨c2, c3, m2⟩ (fun HS => ?_)
 have R4 : Blk w2.drew w.heap.size 172 _ := R2
 have hb4 : Below w.heap.size w w2.drew := hb2.drew
 clear c2 c3 m0 m1 m2 m3 X2 R2 hb2 x0 x1 x2 x4 x5
 have lbw : bm < w2.drew.heap.size := lbm2
 have lgw : gc < w2.drew.heap.size := HC2.out.blk.lt
 generalize w2.drew = w4 at *
 refine takeQ 0 171 rfl HS (.inl ⟨rfl, fun W hW => by obtain ⟨h0, h1, h2⟩ := hW; go_simp; rfl⟩) ?_
 simp only [pS]
 refine takeQ 1 172 rfl HS (.inl ⟨rfl, fun W hW => by obtain ⟨h0, h1, h2⟩ := hW; go_simp; rfl⟩) ?_
 simp only [pS]
 refine takeQ 2 173 rfl HS (.inl ⟨rfl, fun W hW => by obtain ⟨h0, h1, h2⟩ := hW; go_simp; rfl⟩) ?_
 simp only [pS]
 refine takeQ 3 174 rfl HS (.inl ⟨rfl, fun W hW => by obtain ⟨h0, h1, h2⟩ := hW; go_simp; rfl⟩) ?_
 simp only [pS]
 refine takeQ 4 175 rfl HS (.inl ⟨rfl, fun W hW => by obtain ⟨h0, h1, h2⟩ := hW; go_simp; rfl⟩) ?_
 simp only [pS]
 refine takeQ 5 176 rfl HS (.inl ⟨rfl, fun W hW => by obtain ⟨h0, h1, h2⟩ := hW; go_simp; rfl⟩) ?_
 simp only [pS]
 refine takeQ 6 177 rfl HS (.inl ⟨rfl, fun W hW => by obtain ⟨h0, h1, h2⟩ := hW; go_simp; rfl⟩) ?_
 simp only [pS]
 refine takeQ 7 178 rfl HS (.inl ⟨rfl, fun W hW => by obtain ⟨h0, h1, h2⟩ := hW; go_simp; rfl⟩) ?_
 simp only [pS]
 refine takeQ 8 179 rfl HS (.inl ⟨rfl, fun W hW => by obtain ⟨h0, h1, h2⟩ := hW; go_simp; rfl⟩) ?_
 simp only [pS]
 refine takeQ 9 180 rfl HS (.inl ⟨rfl, fun W hW => by obtain ⟨h0, h1, h2⟩ := hW; go_simp; rfl⟩) ?_
 simp only [pS]
 refine takeQ 10 181 rfl HS (.inl ⟨rfl, fun W hW => by obtain ⟨h0, h1, h2⟩ := hW; go_simp; rfl⟩) ?_
 simp only [pS]
 refine takeQ 11 182 rfl HS (.inl ⟨rfl, fun W hW => by obtain ⟨h0, h1, h2⟩ := hW; go_simp; rfl⟩) ?_
 simp only [pS]
 refine takeQ 12 183 rfl HS (.inl ⟨rfl, fun W hW => by obtain ⟨h0, h1, h2⟩ := hW; go_simp; rfl⟩) ?_
 simp only [pS]
 refine takeQ 13 184 rfl HS (.inl ⟨rfl, fun W hW => by obtain ⟨h0, h1, h2⟩ := hW; go_simp; rfl⟩) ?_
 simp only [pS]
 have r0 := R4.at0
 have r1 := R4.at1
 have r2 := R4.at2
 have r3 := R4.at3
 have r4 : w4.cell? ⟨w.heap.size, 4, none⟩ = some (.bool false) := R4.cell 4
 have r5 : w4.cell? ⟨w.heap.size, 5, none⟩ = some (.bool false) := R4.cell 5
 have f0 := R4.frozen 0
 have f1 := R4.frozen 1
 have f2 := R4.frozen 2
 have f3 := R4.frozen 3
 have f4 := R4.frozen 4
 have f5 := R4.frozen 5
 have lR4 := R4.lt
 refine stepQ 14 rfl (fun K HK => ?_)
 go_simp
 have R6 := R4.set6 (a := .string ⟨#[]⟩) (b := .string (mm.re)) (c := .bool false) (d := .bool false) (e := .bool false) (f := .bool false)
 have hb6 := below_set6 (a := .string ⟨#[]⟩) (b := .string (mm.re)) (c := .bool false) (d := .bool false) (e := .bool false) (f := .bool false) hb4 (Nat.le_refl w.heap.size)
 have K6 : KB (fun b => b ≠ w.heap.size) w4 (set6 w4 w.heap.size (.string ⟨#[]⟩) (.string (mm.re)) (.bool false) (.bool false) (.bool false) (.bool false)) := kb_set6
 have old6 := fun (q : Addr) (v : Value) (hq : q.block ≠ w.heap.size) (h : w4.cell? q = some v) => (World.cell?_of_block (K6 q.block hq)).trans h
 unfold set6 at R6 hb6 old6
 obtain ⟨s0, s1, s2⟩ := HS
 have HS6 := And.intro (old6 ⟨gc, 2, none⟩ _ (by show gc ≠ w.heap.size; omega) s0) (And.intro (old6 ⟨gc, 3, none⟩ _ (by show gc ≠ w.heap.size; omega) s1) (old6 ⟨bm, om + mk * 4 + 2, none⟩ _ (by show bm ≠ w.heap.size; omega) s2))
 clear K6 old6 s0 s1 s2
 refine HK.out _ _ (fun _ => HS6) ?_
 clear HK r0 r1 r2 r3 r4 r5 f0 f1 f2 f3 f4 f5 R4 hb4 lR4
 generalize (((((w4.setCell ⟨w.heap.size, 0, none⟩ (.string ⟨#[]⟩)).setCell ⟨w.heap.size, 1, none⟩ (.string (mm.re))).setCell ⟨w.heap.size, 2, none⟩ (.bool false)).setCell ⟨w.heap.size, 3, none⟩ (.bool false)).setCell ⟨w.heap.size, 4, none⟩ (.bool false)).setCell ⟨w.heap.size, 5, none⟩ (.bool false) = w6 at *
 try simp only [pS]
 refine takeQ 15 5 rfl HS6 (.inl ⟨rfl, fun W hW => by obtain ⟨h0, h1, h2⟩ := hW; go_simp; rfl⟩) ?_
 simp only [pS]
 refine wpAnyJ_done (by kernel_rfl) ?_ _
 have q0 := R6.at0
 have q1 := R6.at1
 have q2 := R6.at2
 have q3 := R6.at3
 have q4 := R6.cell 4
 have q5 := R6.cell 5
 clear HS6
 go_wp2
 refine bodyPost_ret (v := .tuple #[formV ⟨sE, mm.re, false, false, false, false⟩, .bool true]) (by simp [results, Tryz.results94, go_sem, q0, q1, q2, q3, q4, q5, sE, sI, sR, sII, sRR, sRI]) rfl ?_
 exact HP.out ⟨sE, mm.re, false, false, false, false⟩ _ (some _) Hf.out hb6 (fun _ => rfl)
end Go.Proofs.YtjjmpfmhggcjiaaGreatDoor
namespace Go.Proofs.YtjjmpfmhggcjiaaGreatDoor
open Go.RowKit Go.Maps
theorem not_avoid_zero {E : Nat → Nat → Prop} {k : Nat} (h : Avoid E 0 k) : False := by
 induction h with
 | zero h => exact h rfl
 | step _ _ _ ih => exact ih
theorem dm_zero {E : Nat → Nat → Prop} {k : Nat} (h : Reach E k) : Dm E 0 k := ⟨h, not_avoid_zero⟩
section
variable (a b : Int) (turned : Bool)
end
end Go.Proofs.YtjjmpfmhggcjiaaGreatDoor
namespace Go.Proofs.YtjjmpfmhggcjiaaGreatDoor
open Go.RowKit Go.Maps
def manyNd (n : Nat) (cut : Bool) (i : Nat) : Nd :=
 if i = 0 then ⟨1, 0, 0, -1, sI, 0, []⟩ else if i = n ∨ (cut = true ∧ i + 1 = n) then ⟨47, 0, 0, -1, sE, 0, [0]⟩ else ⟨45, 0, 0, -1, sE, 0, []⟩
def manyBk (n : Nat) (cut : Bool) (b : Nat) : Bk :=
 ⟨[], if b = 0 then [0, 1] else [((b + 1 : Nat) : Int)], if b + 1 = n ∨ (cut = true ∧ b + 2 = n) then [] else [((b + 1 : Nat) : Int)], if b = 0 ∨ (cut = true ∧ b + 1 = n) then [] else [((b - 1 : Nat) : Int)]⟩
def manyFn (n : Nat) (cut : Bool) : Fn := ⟨0, 0, (List.range (n + 1)).map (manyNd n cut), (List.range n).map (manyBk n cut), []⟩
def manyBlk (n : Nat) : List Int := (List.range (n + 1)).map fun i => ((i - 1 : Nat) : Int)
def manyPlc (n : Nat) : List Int := (List.range (n + 1)).map fun i => if i = 1 then (1 : Int) else 0
section
variable {n : Nat} {cut : Bool}
theorem many_nd {i : Nat} (h : i < n + 1) : ndAt (manyFn n cut) i = manyNd n cut i := mapr_at h
theorem many_bk {b : Nat} (h : b < n) : bkAt (manyFn n cut) b = manyBk n cut b := mapr_at h
theorem many_ln : (manyFn n cut).nodes.length = n + 1 := by simp [manyFn]
theorem many_lb : (manyFn n cut).blocks.length = n := by simp [manyFn]
theorem many_phi (i : Nat) : (manyNd n cut i).op ≠ 41 := by
 unfold manyNd
 split
 · decide
 · split <;> decide
theorem many_stands (hn : 0 < n) : Stands (manyFn n cut) (manyBlk n) (manyPlc n) := by
 refine ⟨by simp [manyFn, manyBlk], by simp [manyFn, manyPlc], fun b k m hb hm => ?_, fun i hi => ?_⟩
 · rw [many_lb] at hb
   have key : ∀ i : Nat, i < n + 1 → ((i - 1 : Nat) = b) → ((if i = 1 then (1 : Int) else 0) = k) → (m = (i : Int)) → StAt (manyFn n cut) (manyBlk n) (manyPlc n) b k m := fun i hi h1 h2 h3 => by
    subst h3
    refine ⟨by omega, by rw [many_ln]; omega, ?_, ?_, ?_⟩
    · rw [Int.toNat_natCast, show (manyBlk n).getD i 0 = ((i - 1 : Nat) : Int) from mapr_at hi, h1]
    · rw [Int.toNat_natCast, show (manyPlc n).getD i 0 = _ from mapr_at hi, h2]
    · rw [Int.toNat_natCast, many_nd hi, many_bk hb]
      exact ⟨fun h => absurd h (many_phi i), fun h => absurd h (by unfold manyBk; simp)⟩
   rw [many_bk hb] at hm
   unfold manyBk allN at hm
   simp only [List.nil_append] at hm
   by_cases h0 : b = 0
   · rw [if_pos h0] at hm
     match k, hm with
     | 0, hm => cases hm; exact key 0 (by omega) (by omega) (by simp) rfl
     | 1, hm => cases hm; exact key 1 (by omega) (by omega) (by simp) rfl
     | k + 2, hm => simp at hm
   · rw [if_neg h0] at hm
     match k, hm with
     | 0, hm => cases hm; exact key (b + 1) (by omega) (by omega) (by rw [if_neg (by omega)]; rfl) rfl
     | k + 1, hm => simp at hm
 · rw [many_ln] at hi
   by_cases h0 : i = 0
   · subst h0
     exact ⟨0, 0, by rw [many_lb]; exact hn, by rw [many_bk hn]; unfold manyBk allN; simp⟩
   · by_cases h1 : i = 1
     · subst h1
       exact ⟨0, 1, by rw [many_lb]; exact hn, by rw [many_bk hn]; unfold manyBk allN; simp⟩
     · refine ⟨i - 1, 0, by rw [many_lb]; omega, ?_⟩
       rw [many_bk (by omega)]
       unfold manyBk allN
       simp only [List.nil_append]
       rw [if_neg (by omega), show i - 1 + 1 = i by omega]
       rfl
theorem many_gr {p k : Nat} (hp : p < n) : EI (grF (manyFn n cut)) p k ↔ k < n ∧ (k : Int) ∈ (manyBk n cut p).succ := by
 unfold EI
 have h1 : (grF (manyFn n cut)).length = n := by simp [grF, manyFn]
 have h2 : (grF (manyFn n cut)).getD p [] = (manyBk n cut p).succ := by simp [grF, manyFn, List.getD_eq_getElem?_getD, hp]
 rw [h1, h2]
theorem many_gr_out {p k : Nat} (hp : n ≤ p) : ¬ EI (grF (manyFn n cut)) p k := by
 unfold EI
 have h2 : (grF (manyFn n cut)).getD p [] = [] := by simp [grF, manyFn, List.getD_eq_getElem?_getD, hp]
 rw [h2]
 simp
theorem many_reach (b : Nat) (h : b < n) : Reach (EI (grF (manyFn n false))) b := by
 induction b with
 | zero => exact .zero
 | succ b ih =>
   refine .step (ih (by omega)) ((many_gr (by omega)).2 ⟨h, ?_⟩)
   unfold manyBk
   simp only [Bool.false_eq_true, false_and, or_false]
   rw [if_neg (by omega)]
   simp
theorem many_cut (hn : 2 ≤ n) : ¬ Reach (EI (grF (manyFn n true))) (n - 1) := by
 intro h
 generalize hk : n - 1 = k at h
 cases h with
 | zero => omega
 | step _ e =>
   rename_i p _
   by_cases hp : p < n
   · have := ((many_gr hp).1 e).2
     unfold manyBk at this
     simp only [true_and] at this
     by_cases h1 : p + 1 = n ∨ p + 2 = n
     · rw [if_pos h1] at this; cases this
     · rw [if_neg h1] at this
       simp only [List.mem_singleton] at this
       omega
   · exact many_gr_out (by omega) e
theorem filt_one (n b : Nat) : (List.range n).filter (fun c => decide (c + 1 = b)) = if 0 < b ∧ b ≤ n then [b - 1] else [] := by
 induction n with
 | zero => rw [if_neg (by omega)]; rfl
 | succ n ih =>
   rw [List.range_succ, List.filter_append, ih]
   by_cases h : n + 1 = b
   · rw [if_neg (by omega), if_pos (by omega)]
     have e2 : n = b - 1 := by omega
     subst h
     simp
   · have e : List.filter (fun c => decide (c + 1 = b)) [n] = [] := by simp [h]
     rw [e, List.append_nil]
     by_cases h2 : 0 < b ∧ b ≤ n
     · rw [if_pos h2, if_pos (by omega)]
     · rw [if_neg h2, if_neg (by omega)]
theorem many_pds {b : Nat} (hb : b < n) : pdsTo (manyFn n false) n b = if b = 0 then [] else [((b - 1 : Nat) : Int)] := by
 unfold pdsTo
 have e : (List.range n).filter (fun c => decide ((b : Int) ∈ (bkAt (manyFn n false) c).succ)) = (List.range n).filter (fun c => decide (c + 1 = b)) := by
  apply List.filter_congr
  intro c hc
  rw [List.mem_range] at hc
  have e : ((b : Int) ∈ (bkAt (manyFn n false) c).succ) ↔ c + 1 = b := by
   rw [many_bk hc]
   unfold manyBk
   simp only [Bool.false_eq_true, false_and, or_false]
   by_cases h1 : c + 1 = n
   · rw [if_pos h1]
     constructor
     · intro h; cases h
     · omega
   · rw [if_neg h1]
     simp only [List.mem_singleton]
     omega
  simp only [e]
 rw [e, filt_one]
 by_cases h0 : b = 0
 · rw [if_neg (by omega), if_pos h0]; rfl
 · rw [if_pos (by omega), if_neg h0]; rfl
theorem many_blocks (hn : 2 ≤ n) : BlocksOk (manyFn n false) := by
 refine ⟨fun b hb => ?_, fun b hb => ?_, fun b hb => ?_, fun b hb => ?_, ?_⟩
 · rw [many_lb] at hb
   have ops : ∀ i, i < n + 1 → (ndAt (manyFn n false) i).op = if i = 0 then 1 else if i = n then 47 else 45 := fun i hi => by
    rw [many_nd hi]
    unfold manyNd
    simp only [Bool.false_eq_true, false_and, or_false]
    split
    · rfl
    · split <;> rfl
   have es : (bkAt (manyFn n false) b).succ = if b + 1 = n then [] else [((b + 1 : Nat) : Int)] := by
    rw [many_bk hb]; unfold manyBk; simp only [Bool.false_eq_true, false_and, or_false]
   have eb : (bkAt (manyFn n false) b).body = if b = 0 then [0, 1] else [((b + 1 : Nat) : Int)] := by
    rw [many_bk hb]; rfl
   have last : endsF (ndAt (manyFn n false) (b + 1)).op = some (bkAt (manyFn n false) b).succ.length := by
    rw [ops _ (by omega), es, if_neg (by omega)]
    by_cases h : b + 1 = n
    · rw [if_pos h, if_pos h]; rfl
    · rw [if_neg h, if_neg h]; rfl
   refine ⟨?_, fun k m hm => ?_⟩
   · rw [eb]; split <;> simp
   · unfold endAt
     rw [eb] at hm ⊢
     by_cases h0 : b = 0
     · rw [if_pos h0] at hm ⊢
       match k, hm with
       | 0, hm =>
         cases hm
         rw [if_neg (by simp)]
         show endsF (ndAt (manyFn n false) 0).op = none
         rw [ops 0 (by omega)]; rfl
       | 1, hm =>
         cases hm
         rw [if_pos (show 1 + 1 = ([0, 1] : List Int).length from rfl)]
         subst h0
         exact last
       | k + 2, hm => simp at hm
     · rw [if_neg h0] at hm ⊢
       match k, hm with
       | 0, hm =>
         cases hm
         rw [if_pos (show 0 + 1 = ([((b + 1 : Nat) : Int)] : List Int).length from rfl), Int.toNat_natCast]
         exact last
       | k + 1, hm => simp at hm
 · rw [many_lb] at hb
   have es : (bkAt (manyFn n false) b).succ = if b + 1 = n then [] else [((b + 1 : Nat) : Int)] := by
    rw [many_bk hb]; unfold manyBk; simp only [Bool.false_eq_true, false_and, or_false]
   refine ⟨fun s hs => ?_, ?_⟩
   · rw [es] at hs
     rw [many_lb]
     by_cases h1 : b + 1 = n
     · rw [if_pos h1] at hs; cases hs
     · rw [if_neg h1] at hs
       simp only [List.mem_singleton] at hs
       omega
   · rw [es]; split <;> simp
 · rw [many_lb] at hb ⊢
   rw [many_pds hb, many_bk hb]
   unfold manyBk
   simp only [Bool.false_eq_true, false_and, or_false]
 · rw [many_lb] at hb
   exact many_reach b hb
 · rw [many_bk (by omega)]
   exact ⟨rfl, rfl⟩
theorem many_nodes (hn : 2 ≤ n) (blk : List Int) : nodesOk oneP (manyFn n false) blk := by
 intro i hi
 rw [many_ln] at hi
 have hnd : ndAt (manyFn n false) i = manyNd n false i := many_nd hi
 have none_ : ∀ (fm : Form) (k : Nat) (x : Int), ([] : List Int)[k]? = some x → argOk (manyFn n false) fm k x := fun fm k x h => by simp at h
 by_cases h0 : i = 0
 · have e : manyNd n false i = ⟨1, 0, 0, -1, sI, 0, []⟩ := by unfold manyNd; rw [if_pos h0]
   refine ⟨⟨sI, sE, false, false, true, false⟩, by unfold formF; rw [hnd, e]; rfl, ?_⟩
   rw [hnd, e]
   exact ⟨rfl, rfl, fun _ => rfl, fun _ => rfl, fun h => (by cases h), rfl, none_ _⟩
 · by_cases h1 : i = n
   · have e : manyNd n false i = ⟨47, 0, 0, -1, sE, 0, [0]⟩ := by unfold manyNd; rw [if_neg h0, if_pos (.inl h1)]
     refine ⟨⟨sE, sI, false, false, false, false⟩, by unfold formF; rw [hnd, e]; rfl, ?_⟩
     rw [hnd, e]
     refine ⟨rfl, rfl, fun _ => rfl, fun _ => rfl, fun _ => rfl, rfl, fun k x h => ?_⟩
     match k, h with
     | 0, h =>
       cases h
       refine ⟨by decide, by rw [many_ln]; omega, ?_⟩
       show (ndAt (manyFn n false) 0).kind = _
       rw [many_nd (by omega)]
       show sI = _
       decide
     | k + 1, h => cases h
   · have e : manyNd n false i = ⟨45, 0, 0, -1, sE, 0, []⟩ := by unfold manyNd; rw [if_neg h0, if_neg (by simp [h1])]
     refine ⟨⟨sE, sE, false, false, false, false⟩, by unfold formF; rw [hnd, e]; rfl, ?_⟩
     rw [hnd, e]
     exact ⟨rfl, rfl, fun _ => rfl, fun _ => rfl, fun _ => rfl, rfl, none_ _⟩
theorem many_abv (hn : 2 ≤ n) : standsOk (manyFn n false) (manyBlk n) (manyPlc n) := by
 intro i hi k a ha
 rw [many_ln] at hi
 rw [many_nd hi] at ha
 unfold manyNd at ha
 by_cases h0 : i = 0
 · rw [if_pos h0] at ha; simp at ha
 · rw [if_neg h0] at ha
   by_cases h1 : i = n
   · rw [if_pos (.inl h1)] at ha
     match k, ha with
     | 0, ha =>
       cases ha
       unfold argAbv abvN
       rw [many_nd hi, if_neg (many_phi i)]
       rw [show (manyBlk n).getD (Int.toNat 0) 0 = ((0 - 1 : Nat) : Int) from mapr_at (by show 0 < n + 1; omega), show (manyBlk n).getD i 0 = ((i - 1 : Nat) : Int) from mapr_at hi]
       rw [if_neg (by omega)]
       have := dm_zero (many_reach (n := n) (i - 1) (by omega))
       simpa using this
     | k + 1, ha => simp at ha
   · rw [if_neg (by simp [h1])] at ha; simp at ha
theorem many_core (hn : 2 ≤ n) : coreOk oneP (manyFn n false) := ⟨_, _, many_stands (by omega), many_blocks hn, many_nodes hn _, many_abv hn⟩
theorem many_core_cut (hn : 2 ≤ n) : ¬ coreOk oneP (manyFn n true) := by
 rintro ⟨blk, plc, _, hb, _⟩
 exact many_cut hn (hb.reach (n - 1) (by rw [many_lb]; omega))
end
end Go.Proofs.YtjjmpfmhggcjiaaGreatDoor
