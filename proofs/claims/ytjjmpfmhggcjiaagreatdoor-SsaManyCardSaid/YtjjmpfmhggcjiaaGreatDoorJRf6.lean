/-
 SsCk, Rf6.
-/
import Derived.Test.YtjjmpfmhggcjiaaGreatDoorJSsSn
import Derived.Test.YtjjmpfmhggcjiaaGreatDoorJSrLaw
set_option linter.unusedSimpArgs false
set_option linter.unusedVariables false
namespace Go.Proofs.YtjjmpfmhggcjiaaGreatDoor
open Go.RowKit Go.Maps
/-- The blocks that a new checker reads. -/
def SCk (S : Nat → Prop) (z gc : Nat) (b : Nat) : Prop := S b ∨ (z ≤ b ∧ b < gc)
/-- A new checker. -/
def Born (w : World) (S : Nat → Prop) (gv : Nat) (p : Prg) (vs : List Vs) (f : Fn) (gc : Nat) (w' : World) : Prop :=
 ∃ lv, Chk w' (SCk S w.heap.size gc) gc gv p vs f (.slice none 0 0) (.slice none 0 0) (.pointer none) lv (.slice none 0 0) ∧ w.heap.size ≤ gc ∧ Below w.heap.size w w'
theorem InfoG.grown {w w' : World} {S : Nat → Prop} {gc gv : Nat} {p : Prg} {vs : List Vs} {f : Fn} {bv qv tv lv dv : Value} (h : Chk w S gc gv p vs f bv qv tv lv dv) (hg : w.grownBy w' (some gc)) : InfoG w' S gv p vs := by
 obtain ⟨Ac, cc, Am, cm, An, cn, Ab, cb, As, cs, h⟩ := h
 refine h.inf.kb (KB.of_grown hg (fun b hb => ?_) (fun b hb e => ?_)) hg.size
 · rcases hb with hb | rfl
   · exact (h.lt b hb).1
   · exact h.gv.1
 · cases e
   rcases hb with hb | hb
   · exact (h.lt gc hb).2.1 rfl
   · exact h.gv.2 hb.symm
theorem belowB {w w' : World} {B gv : Nat} (h : w.grownBy w' (some gv)) (hB : B ≤ gv) (hgv : gv < w.heap.size) : Below B w w' :=
 ⟨h.os, h.tape, h.output, h.size, fun k hk => h.block k (by omega) (fun e => by cases e; omega)⟩
theorem cell_gt {w : World} {g o : Nat} {v : Value} (h : w.cell? ⟨g, o, none⟩ = some v) : g < w.heap.size := World.block_lt_of_cell? w ⟨g, o, none⟩ h
theorem born {w w' : World} {S : Nat → Prop} {gv : Nat} {p : Prg} {vs : List Vs} {f : Fn} {An Ab As Ac2 Am2 : Option Addr} {cn cb cs cc2 cm2 : Nat} {lv : Value} (hI : InfoG w S gv p vs) (hF : RdF w S An Ab As f) (hcap : f.nodes.length ≤ cn) (hb : Below w.heap.size w w')
 {z : Nat} (hps : RdPS w' (fun b => w.heap.size ≤ b ∧ b < z) Ac2 Am2 p) (hz : z ≤ w'.heap.size) :
 Born w S gv p vs f w'.heap.size (w'.alloc (.cells #[.pointer (some ⟨gv, 0, none⟩), .slice Ac2 p.classes.length cc2, .slice Am2 p.methods.length cm2, .int .i64 f.mth, .int .i64 f.entry, .slice An f.nodes.length cn, .slice Ab f.blocks.length cb, .slice As f.states.length cs, .slice none 0 0, .slice none 0 0, .pointer none, lv, .slice none 0 0] 112)) := by
 have hz2 := hb.size
 generalize hO : Obj.cells #[.pointer (some ⟨gv, 0, none⟩), .slice Ac2 p.classes.length cc2, .slice Am2 p.methods.length cm2, .int .i64 f.mth, .int .i64 f.entry, .slice An f.nodes.length cn, .slice Ab f.blocks.length cb, .slice As f.states.length cs, .slice none 0 0, .slice none 0 0, .pointer none, lv, .slice none 0 0] 112 = O
 have hb2 := hb.alloc hz2 O
 have hk1 : Kept (fun b => b < w.heap.size) w (w'.alloc O) := Kept.of_below hb2 (fun b h => h)
 have hk2 : Kept (fun b => b < w'.heap.size) w' (w'.alloc O) := Kept.of_below ((Below.refl w'.heap.size w').alloc (Nat.le_refl _) O) (fun b h => h)
 have hlt := hI.lt
 obtain ⟨Ac, cc, Am, cm, Al, cl, cnt, hA⟩ := hI
 have hgv := hA.blk.lt
 have hsz : (w'.alloc O).heap.size = w'.heap.size + 1 := by simp
 have hlt2 : ∀ b, SCk S w.heap.size w'.heap.size b → b < (w'.alloc O).heap.size ∧ b ≠ w'.heap.size ∧ b ≠ gv := fun b h => by
  rw [hsz]
  rcases h with h | h
  · have := hlt b h
    exact ⟨by omega, by omega, this.2⟩
  · exact ⟨by omega, by omega, by omega⟩
 refine ⟨lv, ⟨Ac2, cc2, Am2, cm2, An, cn, Ab, cb, As, cs, ⟨?_, ?_, ?_, ⟨Ac, cc, Am, cm, Al, cl, cnt, ⟨?_, ?_, ?_, fun b h => ⟨(hlt2 b h).1, (hlt2 b h).2.2⟩⟩⟩, hlt2, ⟨by rw [hsz]; omega, by omega⟩, hcap⟩⟩, hz2, hb2⟩
 · rw [← hO]; exact Blk.new w' _ _
 · exact (hps.keep (hk2.sub (fun b h => by omega))).more (fun b h => .inr ⟨h.1, by omega⟩)
 · exact (hF.keep (hk1.sub (fun b h => (hlt b h).1))).more (fun b h => .inl h)
 · exact hA.blk.below hb2 hgv
 · exact (hA.prg.keep (hk1.sub (fun b h => (hlt b h).1))).more (fun b h => .inl h)
 · exact (hA.inf.keep (hk1.sub (fun b h => (hlt b h).1))).more (fun b h => .inl h)
/-- What may be of a function in which no node has a state: 0, or the error's number. -/
noncomputable def ckF (p : Prg) (vs : List Vs) (f : Fn) : Nat :=
 if f.blocks.length < 1 ∨ 500 < f.blocks.length ∨ 4000 < f.nodes.length ∨ 4000 < f.states.length then 1 else if dec (entryB p vs f = true ∧ coreOk p f) = true then 0 else 12
def CkPost (w : World) (a : Nat → Addr) (S : Nat → Prop) (gv : Nat) (p : Prg) (vs : List Vs) (n : Nat) (e : Ending) (w' : World) : Prop :=
 e = .returned (errV a n) ∧ (∃ S', InfoG w' S' gv p vs ∧ (∀ b, S b → S' b) ∧ ∀ b, S' b → S b ∨ w.heap.size ≤ b) ∧ w.grownBy w' (some gv)
/-- What Check stands on. -/
structure CkIn (w : World) (S : Nat → Prop) (gv : Nat) (p : Prg) (vs : List Vs) (f : Fn) (An Ab As : Option Addr) (cn : Nat) : Prop where
 inf : InfoG w S gv p vs
 fn : RdF w S An Ab As f
 cap : f.nodes.length ≤ cn
 vlen : vs.length = p.methods.length
 vsz : ∀ i, i < vs.length → (vs.getD i default).stacks.length = (vs.getD i default).seen.length
 cls : p.classes.length ≤ 1000 ∧ ∀ k, k < p.classes.length → (p.classes.getD k ⟨#[]⟩).size ≤ 1000000
 mts : p.methods.length ≤ 1000 ∧ ∀ k, k < p.methods.length → (p.methods.getD k default).pa.size + (p.methods.getD k default).lo.size ≤ 1000 ∧ (p.methods.getD k default).code.length ≤ 1000
 rows : ∀ b, b < f.blocks.length → (allN (bkAt f b)).length ≤ 1000000 ∧ (bkAt f b).succ.length ≤ 1000000 ∧ (bkAt f b).preds.length ≤ 1000000
 nds : ∀ i, i < f.nodes.length → (ndAt f i).kind.size ≤ 1000000 ∧ (ndAt f i).args.length ≤ 1000000
set_option maxRecDepth 100000 in
set_option maxHeartbeats 8000000 in
theorem check_any {w : World} {a : Nat → Addr} {B : Nat} {S : Nat → Prop} {gv : Nat} {p : Prg} {vs : List Vs} {f : Fn} {An Ab As : Option Addr} {cn : Nat} (cb cs : Nat) (hOf : OfAll p f) (h0 : CkIn w S gv p vs f An Ab As cn) (hs : Sent w B all14 a) (hBv : B ≤ gv) (hst : ∀ i, i < f.nodes.length → (ndAt f i).st = -1) :
 Calls Tryz.prog 14 #[.pointer (some ⟨gv, 0, none⟩), fv An Ab As cn cb cs f] w (CkPost w a S gv p vs (ckF p vs f)) := by
 have HP := Lib.hid (fun w' n S' (h1 : ckF p vs f = n) (h2 : InfoG w' S' gv p vs) (h3 : ∀ b, S b → S' b) (h4 : ∀ b, S' b → S b ∨ w.heap.size ≤ b) (h5 : w.grownBy w' (some gv)) => (show CkPost w a S gv p vs (ckF p vs f) (.returned (errV a n)) w' from ⟨by rw [h1], ⟨S', h2, h3, h4⟩, h5⟩))
 have hI := h0.inf
 have hF := h0.fn
 have hcap := h0.cap
 have H0 := Lib.hid h0
 have lgv : gv < w.heap.size := by obtain ⟨_, _, _, _, _, _, _, h⟩ := hI; exact h.blk.lt
 have bF := Blk.new w 30 #[.int .i64 f.mth, .int .i64 f.entry, .slice An f.nodes.length cn, .slice Ab f.blocks.length cb, .slice As f.states.length cs]
 have hb1 := (Below.refl w.heap.size w).alloc (Nat.le_refl _) (.cells #[.int .i64 f.mth, .int .i64 f.entry, .slice An f.nodes.length cn, .slice Ab f.blocks.length cb, .slice As f.states.length cs] 30)
 have hs1 := hs.below hb1 (by omega)
 have s1 := (hs1.cell 1 (by simp [all14])).2
 have sl1 := (hs1.cell 1 (by simp [all14])).1
 simp only [gOf, sent] at s1 sl1
 have y3 := bF.at3
 have y2 := bF.at2
 have y4 : World.cell? _ ⟨w.heap.size, 4, none⟩ = some (.slice As f.states.length cs) := bF.cell 4
 have lF := bF.lt
 have HS := Lib.hid hs
 generalize hpost : CkPost w a S gv p vs (ckF p vs f) = Post at *
 clear hpost
 go_enter Tryz.func14, Tryz.ntmps14
 go_upto_region 1 with (fail)
 have HI1 := Lib.hid (hI.below hb1)
 by_cases l1 : f.blocks.length < 1
 · have gl1 : decide ((f.blocks.length : Int) < 1) = true := by simp; omega
   have HN := Lib.hid (show ckF p vs f = 1 by unfold ckF; rw [if_pos (by omega)])
   clear l1
   go_wp2
   exact HP.out _ 1 S HN.out HI1.out (fun b h => h) (fun b h => .inl h) (grown_of_below hb1 (Nat.le_refl _) (some gv))
 · have gl1 : decide ((f.blocks.length : Int) < 1) = false := by simp; omega
   by_cases l2 : 500 < f.blocks.length
   · have gl2 : decide ((500 : Int) < f.blocks.length) = true := by simp; omega
     have HN := Lib.hid (show ckF p vs f = 1 by unfold ckF; rw [if_pos (by omega)])
     clear l2
     go_wp2
     exact HP.out _ 1 S HN.out HI1.out (fun b h => h) (fun b h => .inl h) (grown_of_below hb1 (Nat.le_refl _) (some gv))
   · have gl2 : decide ((500 : Int) < f.blocks.length) = false := by simp; omega
     by_cases l3 : 4000 < f.nodes.length
     · have gl3 : decide ((4000 : Int) < f.nodes.length) = true := by simp; omega
       have HN := Lib.hid (show ckF p vs f = 1 by unfold ckF; rw [if_pos (by omega)])
       clear l3
       go_wp2
       exact HP.out _ 1 S HN.out HI1.out (fun b h => h) (fun b h => .inl h) (grown_of_below hb1 (Nat.le_refl _) (some gv))
     · have gl3 : decide ((4000 : Int) < f.nodes.length) = false := by simp; omega
       by_cases l4 : 4000 < f.states.length
       · have gl4 : decide ((4000 : Int) < f.states.length) = true := by simp; omega
         have HN := Lib.hid (show ckF p vs f = 1 by unfold ckF; rw [if_pos (by omega)])
         clear l4
         go_wp2
         exact HP.out _ 1 S HN.out HI1.out (fun b h => h) (fun b h => .inl h) (grown_of_below hb1 (Nat.le_refl _) (some gv))
       · have gl4 : decide ((4000 : Int) < f.states.length) = false := by simp; omega
         have hlim : ¬ (f.blocks.length < 1 ∨ 500 < f.blocks.length ∨ 4000 < f.nodes.length ∨ 4000 < f.states.length) := by omega
         have HL := Lib.hid hlim
         have hck := Lib.hid (show ckF p vs f = if dec (entryB p vs f = true ∧ coreOk p f) = true then 0 else 12 by unfold ckF; rw [if_neg hlim])
         clear hlim y2 y3 y4 s1 sl1 hs1
         go_upto_region 3 with (fail)
         have f0 := bF.at0
         have f1 := bF.at1
         have f2 := bF.at2
         have f3 := bF.at3
         have f4 : World.cell? _ ⟨w.heap.size, 4, none⟩ = some (.slice As f.states.length cs) := bF.cell 4
         clear gl1 gl2 gl3 gl4
         obtain ⟨g3, hg3⟩ : ∃ g3, g3 = w.heap.size := ⟨_, rfl⟩
         have Hg3 := Lib.hid hg3
         rw [← hg3] at bF f0 f1 f2 f3 f4 lF ⊢
         clear hg3
         generalize w.alloc (.cells #[.int .i64 f.mth, .int .i64 f.entry, .slice An f.nodes.length cn, .slice Ab f.blocks.length cb, .slice As f.states.length cs] 30) = w1 at *
         go_cut [5] from 29 to 35 (fun v wx => ∃ gc, v = .pointer (some ⟨gc, 0, none⟩) ∧ Born w S gv p vs f gc wx)
         case first =>
          clear hs H0 HS hck HP HL
          have hprog := fun W (h : InfoG W S gv p vs) => program_any W h h0.cls.1 h0.mts.1 (fun k hk => (h0.mts.2 k hk).2)
          have Hprog := Lib.hid hprog
          have hmm := @run_makeMap Tryz.prog
          clear hprog
          refine wpJ_start (S := fun W => W.cell? ⟨g3, 0, none⟩ = some (.int .i64 f.mth) ∧ W.cell? ⟨g3, 1, none⟩ = some (.int .i64 f.entry) ∧ W.cell? ⟨g3, 2, none⟩ = some (.slice An f.nodes.length cn) ∧ W.cell? ⟨g3, 3, none⟩ = some (.slice Ab f.blocks.length cb) ∧ W.cell? ⟨g3, 4, none⟩ = some (.slice As f.states.length cs)) (fun _ => true) (by kernel_rfl) ⟨f0, f1, f2, f3, f4⟩ (fun HS => ?_)
          have bFd : Blk w1.drew g3 30 _ := bF
          have hbd : Below w.heap.size w w1.drew := hb1.drew
          have HId : Hid (InfoG w1.drew S gv p vs) := Lib.hid HI1.out.drew
          have lFd : g3 < w1.drew.heap.size := lF
          clear f0 f1 f2 f3 f4 bF hb1 HI1 lF
          generalize w1.drew = wd at *
          refine takeQ 0 29 rfl HS (.inl ⟨rfl, fun W hW => by obtain ⟨h0, h1, h2, h3, h4⟩ := hW; go_simp; rfl⟩) ?_
          simp only [pS]
          refine takeQ 1 30 rfl HS (.inl ⟨rfl, fun W hW => by obtain ⟨h0, h1, h2, h3, h4⟩ := hW; go_simp; rfl⟩) ?_
          simp only [pS]
          refine takeQ 3 32 rfl HS (.inl ⟨rfl, fun W hW => by obtain ⟨h0, h1, h2, h3, h4⟩ := hW; go_simp; rfl⟩) ?_
          simp only [pS]
          refine twoH 2 4 (by kernel_rfl) (by kernel_rfl) (by kernel_rfl) (fun oi h K hK => ?_) (fun oi h K hK => ?_)
          · simp only [List.getElem?_toArray, List.getElem?_cons_zero, List.getElem?_cons_succ, Option.some.injEq] at h
            subst h
            have HK := Lib.hid hK
            clear hK
            go_simp
            refine (Hprog.out _ HId.out).mono ?_
            rintro e wa ⟨Ac2, cc2, Am2, cm2, rfl, hps, hba⟩
            have bFa := bFd.below hba lFd
            have hbA := hbd.trans (hba.mono hbd.size)
            have hza := hba.size
            have HSwa : wa.cell? ⟨g3, 0, none⟩ = some (.int .i64 f.mth) ∧ wa.cell? ⟨g3, 1, none⟩ = some (.int .i64 f.entry) ∧ wa.cell? ⟨g3, 2, none⟩ = some (.slice An f.nodes.length cn) ∧ wa.cell? ⟨g3, 3, none⟩ = some (.slice Ab f.blocks.length cb) ∧ wa.cell? ⟨g3, 4, none⟩ = some (.slice As f.states.length cs) := ⟨bFa.at0, bFa.at1, bFa.at2, bFa.at3, bFa.cell 4⟩
            refine HK.out _ _ (fun _ => HSwa) ?_
            clear HK HS
            try simp only [pS]
            refine stepQ 4 rfl (fun K HK => ?_)
            go_simp
            have bFwb := bFa.alloc (.map #[] 0)
            have hbB := hbA.alloc hbA.size (.map #[] 0)
            obtain ⟨gm, hgm⟩ : ∃ gm, gm = wa.heap.size := ⟨_, rfl⟩
            rw [← hgm]
            have hpsB : RdPS (wa.alloc (.map #[] 0)) (fun b => w.heap.size ≤ b ∧ b < gm) Ac2 Am2 p := (hps.keep (Kept.of_below ((Below.refl wa.heap.size wa).alloc (Nat.le_refl _) (.map #[] 0)) (fun b h => h.2))).more (fun b h => ⟨Nat.le_trans hbd.size h.1, by rw [hgm]; exact h.2⟩)
            have lz : gm ≤ (wa.alloc (.map #[] 0)).heap.size := by simp; omega
            refine HK.out _ _ (fun _ => ⟨bFwb.at0, bFwb.at1, bFwb.at2, bFwb.at3, bFwb.cell 4⟩) ?_
            clear HK HSwa hps hbA hgm
            generalize wa.alloc (.map #[] 0) = wb at *
            have HSwb : wb.cell? ⟨g3, 0, none⟩ = some (.int .i64 f.mth) ∧ wb.cell? ⟨g3, 1, none⟩ = some (.int .i64 f.entry) ∧ wb.cell? ⟨g3, 2, none⟩ = some (.slice An f.nodes.length cn) ∧ wb.cell? ⟨g3, 3, none⟩ = some (.slice Ab f.blocks.length cb) ∧ wb.cell? ⟨g3, 4, none⟩ = some (.slice As f.states.length cs) := ⟨bFwb.at0, bFwb.at1, bFwb.at2, bFwb.at3, bFwb.cell 4⟩
            try simp only [pS]
            refine takeQ 5 34 rfl HSwb (.inl ⟨rfl, fun W hW => by obtain ⟨h0, h1, h2, h3, h4⟩ := hW; go_simp; rfl⟩) ?_
            simp only [pS]
            refine stepQ 6 rfl (fun K HK => ?_)
            go_simp
            have bK := Blk.new wb 112 #[.pointer (some ⟨gv, 0, none⟩), .slice Ac2 p.classes.length cc2, .slice Am2 p.methods.length cm2, .int .i64 f.mth, .int .i64 f.entry, .slice An f.nodes.length cn, .slice Ab f.blocks.length cb, .slice As f.states.length cs, .slice none 0 0, .slice none 0 0, .pointer none, .map (some gm), .slice none 0 0]
            have bF9 := bFwb.alloc (.cells #[.pointer (some ⟨gv, 0, none⟩), .slice Ac2 p.classes.length cc2, .slice Am2 p.methods.length cm2, .int .i64 f.mth, .int .i64 f.entry, .slice An f.nodes.length cn, .slice Ab f.blocks.length cb, .slice As f.states.length cs, .slice none 0 0, .slice none 0 0, .pointer none, .map (some gm), .slice none 0 0] 112)
            have hb9 := hbB.alloc hbB.size (.cells #[.pointer (some ⟨gv, 0, none⟩), .slice Ac2 p.classes.length cc2, .slice Am2 p.methods.length cm2, .int .i64 f.mth, .int .i64 f.entry, .slice An f.nodes.length cn, .slice Ab f.blocks.length cb, .slice As f.states.length cs, .slice none 0 0, .slice none 0 0, .pointer none, .map (some gm), .slice none 0 0] 112)
            have HB := Lib.hid (born hI hF hcap (w' := wb) hbB hpsB lz (lv := .map (some gm)) (cb := cb) (cs := cs) (cc2 := cc2) (cm2 := cm2))
            refine HK.out _ _ (fun _ => ⟨bF9.at0, bF9.at1, bF9.at2, bF9.at3, bF9.cell 4⟩) ?_
            clear HK
            try simp only [pS]
            refine takeQ 7 5 rfl ⟨bF9.at0, bF9.at1, bF9.at2, bF9.at3, bF9.cell 4⟩ (.inl ⟨rfl, fun W hW => by obtain ⟨h0, h1, h2, h3, h4⟩ := hW; go_simp; rfl⟩) ?_
            simp only [pS]
            refine wpAnyJ_done (by kernel_rfl) ?_ _
            go_wp2_with fail
            go_meet
            exact ⟨_, rfl, HB.out⟩
          · simp only [List.getElem?_toArray, List.getElem?_cons_zero, List.getElem?_cons_succ, Option.some.injEq] at h
            subst h
            have HK := Lib.hid hK
            clear hK
            go_simp
            have bFa := bFd.alloc (.map #[] 0)
            have hbA := hbd.alloc hbd.size (.map #[] 0)
            have HIa := Lib.hid (HId.out.below ((Below.refl wd.heap.size wd).alloc (Nat.le_refl _) (.map #[] 0)))
            obtain ⟨gm, hgm⟩ : ∃ gm, gm = wd.heap.size := ⟨_, rfl⟩
            rw [← hgm]
            have lFa := bFa.lt
            refine HK.out _ _ (fun _ => ⟨bFa.at0, bFa.at1, bFa.at2, bFa.at3, bFa.cell 4⟩) ?_
            clear HK HS hgm
            generalize wd.alloc (.map #[] 0) = wa at *
            have HSwa : wa.cell? ⟨g3, 0, none⟩ = some (.int .i64 f.mth) ∧ wa.cell? ⟨g3, 1, none⟩ = some (.int .i64 f.entry) ∧ wa.cell? ⟨g3, 2, none⟩ = some (.slice An f.nodes.length cn) ∧ wa.cell? ⟨g3, 3, none⟩ = some (.slice Ab f.blocks.length cb) ∧ wa.cell? ⟨g3, 4, none⟩ = some (.slice As f.states.length cs) := ⟨bFa.at0, bFa.at1, bFa.at2, bFa.at3, bFa.cell 4⟩
            try simp only [pS]
            refine stepQ 2 rfl (fun K HK => ?_)
            go_simp
            refine (Hprog.out _ HIa.out).mono ?_
            rintro e wb ⟨Ac2, cc2, Am2, cm2, rfl, hps, hba⟩
            have bFwb := bFa.below hba lFa
            have hbB := hbA.trans (hba.mono hbA.size)
            have hpsB : RdPS wb (fun b => w.heap.size ≤ b ∧ b < wb.heap.size) Ac2 Am2 p := hps.more (fun b h => ⟨Nat.le_trans hbA.size h.1, h.2⟩)
            have HSwb : wb.cell? ⟨g3, 0, none⟩ = some (.int .i64 f.mth) ∧ wb.cell? ⟨g3, 1, none⟩ = some (.int .i64 f.entry) ∧ wb.cell? ⟨g3, 2, none⟩ = some (.slice An f.nodes.length cn) ∧ wb.cell? ⟨g3, 3, none⟩ = some (.slice Ab f.blocks.length cb) ∧ wb.cell? ⟨g3, 4, none⟩ = some (.slice As f.states.length cs) := ⟨bFwb.at0, bFwb.at1, bFwb.at2, bFwb.at3, bFwb.cell 4⟩
            refine HK.out _ _ (fun _ => HSwb) ?_
            clear HK hps
            try simp only [pS]
            refine takeQ 5 34 rfl HSwb (.inl ⟨rfl, fun W hW => by obtain ⟨h0, h1, h2, h3, h4⟩ := hW; go_simp; rfl⟩) ?_
            simp only [pS]
            refine stepQ 6 rfl (fun K HK => ?_)
            go_simp
            have bK := Blk.new wb 112 #[.pointer (some ⟨gv, 0, none⟩), .slice Ac2 p.classes.length cc2, .slice Am2 p.methods.length cm2, .int .i64 f.mth, .int .i64 f.entry, .slice An f.nodes.length cn, .slice Ab f.blocks.length cb, .slice As f.states.length cs, .slice none 0 0, .slice none 0 0, .pointer none, .map (some gm), .slice none 0 0]
            have bF9 := bFwb.alloc (.cells #[.pointer (some ⟨gv, 0, none⟩), .slice Ac2 p.classes.length cc2, .slice Am2 p.methods.length cm2, .int .i64 f.mth, .int .i64 f.entry, .slice An f.nodes.length cn, .slice Ab f.blocks.length cb, .slice As f.states.length cs, .slice none 0 0, .slice none 0 0, .pointer none, .map (some gm), .slice none 0 0] 112)
            have hb9 := hbB.alloc hbB.size (.cells #[.pointer (some ⟨gv, 0, none⟩), .slice Ac2 p.classes.length cc2, .slice Am2 p.methods.length cm2, .int .i64 f.mth, .int .i64 f.entry, .slice An f.nodes.length cn, .slice Ab f.blocks.length cb, .slice As f.states.length cs, .slice none 0 0, .slice none 0 0, .pointer none, .map (some gm), .slice none 0 0] 112)
            have HB := Lib.hid (born hI hF hcap (w' := wb) hbB hpsB (Nat.le_refl _) (lv := .map (some gm)) (cb := cb) (cs := cs) (cc2 := cc2) (cm2 := cm2))
            refine HK.out _ _ (fun _ => ⟨bF9.at0, bF9.at1, bF9.at2, bF9.at3, bF9.cell 4⟩) ?_
            clear HK
            try simp only [pS]
            refine takeQ 7 5 rfl ⟨bF9.at0, bF9.at1, bF9.at2, bF9.at3, bF9.cell 4⟩ (.inl ⟨rfl, fun W hW => by obtain ⟨h0, h1, h2, h3, h4⟩ := hW; go_simp; rfl⟩) ?_
            simp only [pS]
            refine wpAnyJ_done (by kernel_rfl) ?_ _
            go_wp2_with fail
            go_meet
            exact ⟨_, rfl, HB.out⟩
         case rest =>
          obtain ⟨gc, rfl, lv, hk0, hgcw, hbc⟩ := hcut
          have hg0 : w.grownBy wc (some gv) := grown_of_below hbc (Nat.le_refl _) (some gv)
          clear bF hb1 f0 f1 f2 f3 f4 lF HI1
          have hen := entry_any H0.out.vlen H0.out.vsz hk0
          have Hen := Lib.hid hen
          clear hen
          go_wp2_with fail
          refine Hen.out.mono ?_
          rintro e w2 ⟨rfl, hk1, hg1⟩
          have hg01 := hg0.trans hg1
          have HG1 := Lib.hid hg01
          have HK1 := Lib.hid hk1
          clear Hen hk0 hbc hg0 hg1 hg01 hk1
          cases heb : entryB p vs f with
          | false =>
            have hsE := HS.out.below (belowB HG1.out hBv lgv) (Nat.le_refl B)
            have s12 := (hsE.cell 12 (by simp [all14])).2
            have sl12 := (hsE.cell 12 (by simp [all14])).1
            simp only [gOf, sent] at s12 sl12
            have HN := Lib.hid (show ckF p vs f = 12 by rw [hck.out, if_neg (by rw [dec_f (fun h => by rw [heb] at h; cases h.1)]; simp)])
            have HG := Lib.hid HG1.out
            have HIE := Lib.hid (show InfoG w2 _ gv p vs by obtain ⟨_, _, _, _, _, _, _, _, _, _, h⟩ := HK1.out; exact h.inf)
            go_wp2
            exact HP.out _ 12 _ HN.out HIE.out (fun b h => .inl h) (fun b h => h.elim .inl (fun h => .inr h.1)) HG.out
          | true =>
            have hmth : inB f.mth p.methods.length = true := by
             unfold entryB at heb
             cases h : inB f.mth p.methods.length with
             | true => rfl
             | false => rw [h] at heb; cases heb
            have Hmth := Lib.hid hmth
            have Heb := Lib.hid heb
            clear hmth heb
            have hbl := blocks_any HK1.out (by have := HL.out; omega) (by have := HL.out; omega) (by have := HL.out; omega) (fun b hb => (H0.out.rows b hb).1) (fun b hb => (H0.out.rows b hb).2)
            have Hbl := Lib.hid hbl
            clear hbl
            go_wp2_with fail
            refine Hbl.out.mono ?_
            rintro e w3 ⟨hg3, ⟨rfl, hno⟩ | ⟨rfl, hbk, gb, gp, gt, gi, gd, blk, plc, idm, dep, hS, R⟩⟩
            · have HG2 := Lib.hid (grown_more HG1.out hg3 (fun x hx => by cases hx; exact hgcw))
              have HNo := Lib.hid hno
              have HI3 := Lib.hid (InfoG.grown HK1.out hg3)
              clear Hbl hno hg3
              have hsE := HS.out.below (belowB HG2.out hBv lgv) (Nat.le_refl B)
              have s12 := (hsE.cell 12 (by simp [all14])).2
              have sl12 := (hsE.cell 12 (by simp [all14])).1
              simp only [gOf, sent] at s12 sl12
              have HN := Lib.hid (show ckF p vs f = 12 by rw [hck.out, if_neg (by rw [dec_f (fun h => by obtain ⟨b, q, h1, h2, _⟩ := h.2; exact HNo.out ⟨⟨b, q, h1⟩, h2⟩)]; simp)])
              have HG := Lib.hid HG2.out
              have HIE := Lib.hid HI3.out
              go_wp2
              exact HP.out _ 12 _ HN.out HIE.out (fun b h => .inl h) (fun b h => h.elim .inl (fun h => .inr h.1)) HG.out
            · have HG2 := Lib.hid (grown_more HG1.out hg3 (fun x hx => by cases hx; exact hgcw))
              have HR := Lib.hid R
              have HS2 := Lib.hid hS
              have Hbk := Lib.hid hbk
              clear Hbl hg3 R hS hbk
              have hnin : NodesIn w3 _ gc gv p vs f gb gp blk plc (.pointer (some ⟨gt, 0, none⟩)) lv (.slice none 0 0) := ⟨HR.out.chk, HR.out.bb, HS2.out, Hmth.out, H0.out.cls.2, fun k hk => (H0.out.mts.2 k hk).1, by have := HL.out; omega, fun k hk => (H0.out.nds k hk).1, fun b hb => (H0.out.rows b hb).2.2⟩
              have hnd := nodes_any hnin hOf (fun i hi => (H0.out.nds i hi).2)
              have HND := Lib.hid hnd
              have HNI := Lib.hid hnin
              clear hnd hnin
              go_wp2_with fail
              refine HND.out.mono ?_
              rintro e w4 ⟨hb34, ⟨rfl, hnok⟩ | ⟨rfl, hno⟩⟩
              · have hsi : StandsIn w4 _ gc gv p vs f gb gp gt gi gd blk plc idm dep lv (.slice none 0 0) := (StandsIn.below ⟨HNI.out, HR.out.bp, HR.out.tree, HR.out.ok, Hbk.out, hnok, by have := HL.out; omega, fun i hi => (H0.out.nds i hi).2, ⟨cell_gt HR.out.tree.t1, HR.out.tree.bi.lt, HR.out.tree.bd.lt⟩⟩ hb34)
                have HSI := Lib.hid hsi
                have hsd := stands_any hsi
                have HSD := Lib.hid hsd
                have HG4 := Lib.hid (HG2.out.trans (grown_more (row2 := none) ⟨rfl, rfl, rfl, Nat.le_refl _, fun _ _ _ => rfl⟩ (grown_of_below hb34 (Nat.le_refl _) none) (fun x hx => by cases hx) (row := some gv)))
                have Hnok := Lib.hid hnok
                clear hsi hsd hb34 hnok HND
                go_wp2_with fail
                refine HSD.out.mono ?_
                rintro e w5 ⟨hb45, ⟨rfl, hsok⟩ | ⟨rfl, hno⟩⟩
                · have HG5 := Lib.hid (HG4.out.trans (grown_of_below hb45 (Nat.le_refl _) (some gv)))
                  have HK5 := Lib.hid (HSI.out.nin.chk.below hb45)
                  have Hcore := Lib.hid (show ckF p vs f = 0 by rw [hck.out, if_pos (dec_t ⟨Heb.out, blk, plc, HS2.out, Hbk.out, Hnok.out, hsok⟩)])
                  have hsn := states_none HK5.out (by have := HL.out; omega) (by have := HL.out; omega) hst
                  have HSN := Lib.hid hsn
                  clear hsn hb45 hsok HSD
                  go_wp2_with fail
                  refine HSN.out.mono ?_
                  rintro e w6 ⟨rfl, hg56⟩
                  have HG6 := Lib.hid (grown_more HG5.out hg56 (fun x hx => by cases hx; exact hgcw))
                  have HI6 := Lib.hid (InfoG.grown HK5.out hg56)
                  clear hg56 HSN
                  go_wp2
                  exact HP.out _ 0 _ Hcore.out HI6.out (fun b h => .inl h) (fun b h => h.elim .inl (fun h => .inr h.1)) HG6.out
                · have HG5 := Lib.hid (HG4.out.trans (grown_of_below hb45 (Nat.le_refl _) (some gv)))
                  have HNo := Lib.hid hno
                  have HI5 := Lib.hid (show InfoG w5 _ gv p vs by obtain ⟨_, _, _, _, _, _, _, _, _, _, h⟩ := HSI.out.nin.chk.below hb45; exact h.inf)
                  clear hb45 hno HSD
                  have hsE := HS.out.below (belowB HG5.out hBv lgv) (Nat.le_refl B)
                  have s12 := (hsE.cell 12 (by simp [all14])).2
                  have sl12 := (hsE.cell 12 (by simp [all14])).1
                  simp only [gOf, sent] at s12 sl12
                  have HN := Lib.hid (show ckF p vs f = 12 by rw [hck.out, if_neg (by rw [dec_f (fun h => HNo.out ((core_iff HS2.out).1 h.2).2.2)]; simp)])
                  have HG := Lib.hid HG5.out
                  have HIE := Lib.hid HI5.out
                  go_wp2
                  exact HP.out _ 12 _ HN.out HIE.out (fun b h => .inl h) (fun b h => h.elim .inl (fun h => .inr h.1)) HG.out
              · have HG4 := Lib.hid (HG2.out.trans (grown_of_below hb34 (Nat.le_refl _) (some gv)))
                have HNo := Lib.hid hno
                have HI4 := Lib.hid (show InfoG w4 _ gv p vs by obtain ⟨_, _, _, _, _, _, _, _, _, _, h⟩ := HNI.out.chk.below hb34; exact h.inf)
                clear hb34 hno HND
                have hsE := HS.out.below (belowB HG4.out hBv lgv) (Nat.le_refl B)
                have s12 := (hsE.cell 12 (by simp [all14])).2
                have sl12 := (hsE.cell 12 (by simp [all14])).1
                simp only [gOf, sent] at s12 sl12
                have HN := Lib.hid (show ckF p vs f = 12 by rw [hck.out, if_neg (by rw [dec_f (fun h => HNo.out ((core_iff HS2.out).1 h.2).2.1)]; simp)])
                have HG := Lib.hid HG4.out
                have HIE := Lib.hid HI4.out
                go_wp2
                exact HP.out _ 12 _ HN.out HIE.out (fun b h => .inl h) (fun b h => h.elim .inl (fun h => .inr h.1)) HG.out
end Go.Proofs.YtjjmpfmhggcjiaaGreatDoor
namespace Go.Proofs.YtjjmpfmhggcjiaaGreatDoor
open Go.RowKit Go.Maps
/-- One more is named. -/
def meet1 (us : List Int) (n : Int) : List Int := if 0 ≤ n ∧ n < us.length then us.set n.toNat (us.getD n.toNat 0 + 1) else us
def meetL (us : List Int) (l : List Int) : List Int := l.foldl meet1 us
theorem meet1_len (us : List Int) (n : Int) : (meet1 us n).length = us.length := by
 unfold meet1
 split <;> simp
theorem meetL_len (l : List Int) : ∀ us : List Int, (meetL us l).length = us.length := by
 induction l with
 | nil => intro us; rfl
 | cons n l ih => intro us; show (meetL (meet1 us n) l).length = _; rw [ih, meet1_len]
theorem meet1_le {us : List Int} {n M : Int} (h : ∀ k, 0 ≤ us.getD k 0 ∧ us.getD k 0 ≤ M) : ∀ k, 0 ≤ (meet1 us n).getD k 0 ∧ (meet1 us n).getD k 0 ≤ M + 1 := by
 intro k
 unfold meet1
 have h1 := h k
 split
 · rw [List.getD_eq_getElem?_getD, List.getElem?_set]
   have h2 := h n.toNat
   split
   · split
     · simp only [Option.getD_some]; omega
     · simp; have := h k; omega
   · rw [← List.getD_eq_getElem?_getD]; omega
 · omega
theorem meetL_snoc (us : List Int) (l : List Int) (n : Int) : meetL us (l ++ [n]) = meet1 (meetL us l) n := by
 unfold meetL
 rw [List.foldl_append]
 rfl
theorem meetL_le {M : Int} (l : List Int) : ∀ {us : List Int}, (∀ k, 0 ≤ us.getD k 0 ∧ us.getD k 0 ≤ M) → ∀ k, 0 ≤ (meetL us l).getD k 0 ∧ (meetL us l).getD k 0 ≤ M + l.length := by
 induction l generalizing M with
 | nil => intro us h k; have := h k; simp [meetL]; exact this
 | cons n l ih =>
   intro us h k
   have := ih (M := M + 1) (us := meet1 us n) (meet1_le h) k
   show 0 ≤ (meetL (meet1 us n) l).getD k 0 ∧ (meetL (meet1 us n) l).getD k 0 ≤ _
   simp only [List.length_cons]
   omega
theorem grown_then {w w' w2 : World} {row : Option Nat} (h1 : w.grownBy w' row) (h2 : w'.grownBy w2 row) : w.grownBy w2 row :=
 ⟨h2.os.trans h1.os, h2.tape.trans h1.tape, h2.output.trans h1.output, Nat.le_trans h1.size h2.size, fun k hk hr => (h2.block k (Nat.lt_of_lt_of_le hk h1.size) hr).trans (h1.block k hk hr)⟩
theorem grown_same (w : World) (row : Option Nat) : w.grownBy w row := ⟨rfl, rfl, rfl, Nat.le_refl _, fun _ _ _ => rfl⟩
theorem ints_put {w : World} {g : Nat} {t : TypeId} {l : List Int} (h : Blk w g t ⟨ints l⟩) (k : Nat) (x : Int) : Blk (w.setCell ⟨g, k, none⟩ (.int .i64 x)) g t ⟨ints (l.set k x)⟩ := by
 have := h.set_ k (.int .i64 x)
 unfold ints at this ⊢
 rw [List.map_set]
 simpa using this
def MeetsPost (w : World) (go : Nat) (us : List Int) (e : Ending) (w' : World) : Prop := e = .returned (.tuple #[]) ∧ Blk w' go 3 ⟨ints us⟩ ∧ w.grownBy w' (some go)
set_option maxRecDepth 100000 in
set_option maxHeartbeats 2000000 in
theorem meets_any (A : Option Addr) (c : Nat) (l us : List Int) (M : Int) (gd go : Nat) (w : World) (hr : Rd w w.heap.size 1 A l.length (ints l)) (hne : gd ≠ go) (hd : Blk w gd 47 #[.slice (some ⟨go, 0, none⟩) us.length us.length]) (ho : Blk w go 3 ⟨ints us⟩)
 (hap : RdS w (fun b => b ≠ go ∧ b < w.heap.size) 1 A l.length (ints l)) (hM : ∀ k, 0 ≤ us.getD k 0 ∧ us.getD k 0 ≤ M) (hl : l.length ≤ 1000000) (hM2 : M ≤ 1000000000000) :
 Calls Tryz.prog 46 #[.slice A l.length c, .pointer (some ⟨gd, 0, none⟩)] w (MeetsPost w go (meetL us l)) := by
 have HP := Lib.hid (fun w' (h1 : Blk w' go 3 ⟨ints (meetL us l)⟩) (h2 : w.grownBy w' (some go)) => (show MeetsPost w go (meetL us l) (.returned (.tuple #[])) w' from ⟨rfl, h1, h2⟩))
 generalize MeetsPost w go (meetL us l) = Post at *
 have HA := Lib.hid hap
 have HM := Lib.hid hM
 clear hr hap hM
 go_enter Tryz.func46, Tryz.ntmps46
 go_wp2
 go_loopw [7] (fun iv wr => ∃ k : Nat, k ≤ l.length ∧ iv = .int .i64 k ∧ Blk wr go 3 ⟨ints (meetL us (l.take k))⟩ ∧ Blk wr gd 47 #[.slice (some ⟨go, 0, none⟩) us.length us.length] ∧ w.grownBy wr (some go)) (fun iv _ => l.length - (intOf iv).toNat)
 case atStart => exact ⟨0, Nat.zero_le _, rfl, ho, hd, grown_same _ _⟩
 case round =>
  clear ho hd
  obtain ⟨k, hk, rfl, bO, bD, hg⟩ := hrel
  by_cases hlt : k < l.length
  · obtain ⟨b, off, rfl, hbb, x0⟩ := ints_at (((HA.out.keep (Kept.grown (Kept.refl _ _) hg (fun b h => h.2) (fun b h e => h.1 (Option.some.inj e)))).rd (B := w.heap.size) (fun b h => h.2)).more hg.size) hlt
    have k0 : (0 : Int) ≤ k := by omega
    have k1 : (k : Int) < l.length := by omega
    have Htk := Lib.hid (show meetL us (l.take (k + 1)) = meet1 (meetL us (l.take k)) (l[k]?.getD 0) by rw [← meetL_snoc, List.take_succ_eq_append_getElem hlt, List.getElem?_eq_getElem hlt]; rfl)
    have Hle := Lib.hid (meetL_le (l.take k) HM.out)
    have hlen := meetL_len (l.take k) us
    have hk2 : ((l.take k).length : Int) ≤ 1000000 := by rw [List.length_take]; omega
    have Hk2 := Lib.hid hk2
    clear hk2
    generalize l[k]?.getD 0 = x at *
    generalize meetL us (l.take k) = u at *
    have d0 := bD.at0
    have lD := bD.lt
    by_cases hx0 : 0 ≤ x
    · by_cases hx1 : x < u.length
      · obtain ⟨q, rfl⟩ : ∃ q : Nat, x = q := ⟨x.toNat, by omega⟩
        have hq : q < u.length := by omega
        have y0 := ints_cell bO hq
        have fo := bO.frozen q
        have lO := bO.lt
        have g1 : decide ((q : Int) < us.length) = true := by simp; omega
        have g2 : (q : Int) < us.length := by omega
        have Hq := Lib.hid (show meetL us (l.take (k + 1)) = u.set q (u.getD q 0 + 1) by rw [Htk.out]; unfold meet1; rw [if_pos ⟨hx0, hx1⟩]; rfl)
        have hv := Hle.out q
        have hv2 := Hk2.out
        generalize u.getD q 0 = v at *
        have hwrap : IntKind.i64.wrap (v + 1) = v + 1 := IntWalk.i64_in _ (by omega)
        clear hx1 Htk Hle
        go_wp2
        go_roundw
        case rel => exact ⟨k + 1, by omega, by go_num, by rw [Hq.out]; exact ints_put bO q (v + 1), bD.far (p := ⟨go, q, none⟩) hne (.int .i64 (v + 1)), grown_then hg (grown_setCell wr ⟨go, q, none⟩ (.int .i64 (v + 1)))⟩
        case measure => simp [intOf]; omega
      · have g1 : decide (x < us.length) = false := by simp; omega
        have g2 : ¬ x < us.length := by omega
        have Hq := Lib.hid (show meetL us (l.take (k + 1)) = u by rw [Htk.out]; unfold meet1; rw [if_neg (fun h => hx1 h.2)])
        clear hx1 Htk Hle
        go_wp2
        go_roundw
        case rel => exact ⟨k + 1, by omega, by go_num, by rw [Hq.out]; exact bO, bD, hg⟩
        case measure => simp [intOf]; omega
    · have g1 : decide (0 ≤ x) = false := by simp; omega
      have Hq := Lib.hid (show meetL us (l.take (k + 1)) = u by rw [Htk.out]; unfold meet1; rw [if_neg (fun h => hx0 h.1)])
      clear Htk Hle
      go_wp2
      go_roundw
      case rel => exact ⟨k + 1, by omega, by go_num, by rw [Hq.out]; exact bO, bD, hg⟩
      case measure => simp [intOf]; omega
  · have e : k = l.length := by omega
    subst e
    clear hlt
    go_wp2
    exact bodyPost_end (v := .tuple #[]) (by simp [results, Tryz.results46]) rfl (HP.out wr (by simpa using bO) hg)
def NilPost (w : World) (e : Ending) (w' : World) : Prop := e = .returned (.slice none 0 0) ∧ Below w.heap.size w w'
set_option maxRecDepth 100000 in
set_option maxHeartbeats 2000000 in
theorem named_none (An Ab As : Option Addr) (n1 n2 n3 cn cb cs : Nat) (m en : Int) (w : World) :
 Calls Tryz.prog 47 #[.agg #[.int .i64 m, .int .i64 en, .slice An n1 cn, .slice Ab n2 cb, .slice As n3 cs], .int .i64 (-1)] w (NilPost w) := by
 have HP := Lib.hid (fun w' (h2 : Below w.heap.size w w') => (show NilPost w (.returned (.slice none 0 0)) w' from ⟨rfl, h2⟩))
 generalize NilPost w = Post at *
 have hb := (Below.refl w.heap.size w).alloc (Nat.le_refl _) (.cells #[.int .i64 m, .int .i64 en, .slice An n1 cn, .slice Ab n2 cb, .slice As n3 cs] 30)
 go_enter Tryz.func47, Tryz.ntmps47
 go_wp2
 go_loopw [1, 5] (fun iv lv wr => iv = .int .i64 (-1) ∧ lv = .slice none 0 0 ∧ wr = w.alloc (.cells #[.int .i64 m, .int .i64 en, .slice An n1 cn, .slice Ab n2 cb, .slice As n3 cs] 30)) (fun _ _ _ => 0)
 case atStart => exact ⟨rfl, rfl, rfl⟩
 case round =>
  obtain ⟨rfl, rfl, rfl⟩ := hrel
  go_wp2
  exact HP.out _ hb
/-- How often nodes are named. -/
def usesTo (f : Fn) (k : Nat) : List Int := ((f.nodes.take k).map (·.args)).foldl meetL (List.replicate f.nodes.length 0)
def usesF (f : Fn) : List Int := usesTo f f.nodes.length
theorem usesTo_len (f : Fn) (k : Nat) : (usesTo f k).length = f.nodes.length := by
 unfold usesTo
 generalize ((f.nodes.take k).map (·.args)) = ll
 have : ∀ us : List Int, (ll.foldl meetL us).length = us.length := by
  induction ll with
  | nil => intro us; rfl
  | cons a ll ih => intro us; show ((ll.foldl meetL (meetL us a))).length = _; rw [ih, meetL_len]
 rw [this]
 simp
theorem usesTo_succ {f : Fn} {k : Nat} (hk : k < f.nodes.length) : usesTo f (k + 1) = meetL (usesTo f k) (ndAt f k).args := by
 unfold usesTo
 rw [List.take_succ_eq_append_getElem hk, List.map_append, List.foldl_append]
 simp [ndAt, hk]
theorem usesTo_le {f : Fn} {N : Nat} (hN : ∀ i, i < f.nodes.length → (ndAt f i).args.length ≤ N) : ∀ k, k ≤ f.nodes.length → ∀ j, 0 ≤ (usesTo f k).getD j 0 ∧ (usesTo f k).getD j 0 ≤ (k * N : Nat)
 | 0, _, j => by
   have : (usesTo f 0).getD j 0 = 0 := by
    unfold usesTo
    simp only [List.take_zero, List.map_nil, List.foldl_nil, List.getD_eq_getElem?_getD, List.getElem?_replicate]
    split <;> rfl
   omega
 | k + 1, hk, j => by
   rw [usesTo_succ (by omega)]
   have := meetL_le (ndAt f k).args (usesTo_le hN k (by omega)) j
   have h2 := hN k (by omega)
   have e : (k + 1) * N = k * N + N := Nat.succ_mul _ _
   omega
def UsesPost (w : World) (f : Fn) (e : Ending) (w' : World) : Prop := ∃ go, e = .returned (.slice (some ⟨go, 0, none⟩) f.nodes.length f.nodes.length) ∧ Blk w' go 3 ⟨ints (usesF f)⟩ ∧ Below w.heap.size w w'
set_option maxRecDepth 100000 in
set_option maxHeartbeats 2000000 in
theorem uses_none {S : Nat → Prop} (An Ab As : Option Addr) (n3 cn cb cs : Nat) (f : Fn) (w : World) (hrn : RdL ndShape w S An f.nodes) (hS : ∀ b, S b → b < w.heap.size) (hl : f.nodes.length ≤ 100000) (hx : ∀ i, i < f.nodes.length → (ndAt f i).args.length ≤ 1000000) (hst : ∀ i, i < f.nodes.length → (ndAt f i).st = -1) :
 Calls Tryz.prog 16 #[.agg #[.int .i64 f.mth, .int .i64 f.entry, .slice An f.nodes.length cn, .slice Ab f.blocks.length cb, .slice As n3 cs]] w (UsesPost w f) := by
 have HP := Lib.hid (fun go w' (h1 : Blk w' go 3 ⟨ints (usesF f)⟩) (h2 : Below w.heap.size w w') => (show UsesPost w f (.returned (.slice (some ⟨go, 0, none⟩) f.nodes.length f.nodes.length)) w' from ⟨go, rfl, h1, h2⟩))
 generalize UsesPost w f = Post at *
 have hm2 := fun W => run_make_row' (P := Tryz.prog) 47 3 (.int .i64 0) 8 Tryz.underlying47 infoIntR rfl .i64 .i64 f.nodes.length (by omega) (by omega) W
 rw [made_ints] at hm2
 have bF := ((Blk.new w 30 #[.int .i64 f.mth, .int .i64 f.entry, .slice An f.nodes.length cn, .slice Ab f.blocks.length cb, .slice As n3 cs]))
 have hb1 := (Below.refl w.heap.size w).alloc (Nat.le_refl _) (.cells #[.int .i64 f.mth, .int .i64 f.entry, .slice An f.nodes.length cn, .slice Ab f.blocks.length cb, .slice As n3 cs] 30)
 have HR := Lib.hid hrn
 have HS := Lib.hid hS
 have HX := Lib.hid hx
 have HT := Lib.hid hst
 clear hrn hS hx hst
 go_enter Tryz.func16, Tryz.ntmps16
 go_upto_region 1 with (fail)
 have y2 := bF.at2
 have lF := bF.lt
 go_upto_region 3 with (fail)
 have bF2 := (bF.alloc (.cells ⟨ints (List.replicate f.nodes.length 0)⟩ 3)).alloc (.cells #[.slice (some ⟨w.heap.size + 1, 0, none⟩) f.nodes.length f.nodes.length] 47)
 have bO2 := (Blk.newAt (w := w.alloc (.cells #[.int .i64 f.mth, .int .i64 f.entry, .slice An f.nodes.length cn, .slice Ab f.blocks.length cb, .slice As n3 cs] 30)) (g := w.heap.size + 1) (by simp) 3 ⟨ints (List.replicate f.nodes.length 0)⟩).alloc (.cells #[.slice (some ⟨w.heap.size + 1, 0, none⟩) f.nodes.length f.nodes.length] 47)
 have bD2 := Blk.newAt (w := (w.alloc (.cells #[.int .i64 f.mth, .int .i64 f.entry, .slice An f.nodes.length cn, .slice Ab f.blocks.length cb, .slice As n3 cs] 30)).alloc (.cells ⟨ints (List.replicate f.nodes.length 0)⟩ 3)) (g := w.heap.size + 1 + 1) (by simp) 47 #[.slice (some ⟨w.heap.size + 1, 0, none⟩) f.nodes.length f.nodes.length]
 have hb2 := (hb1.alloc hb1.size (.cells ⟨ints (List.replicate f.nodes.length 0)⟩ 3)).alloc (by simp; omega) (.cells #[.slice (some ⟨w.heap.size + 1, 0, none⟩) f.nodes.length f.nodes.length] 47)
 clear bF hb1 y2 lF hm2
 generalize ((w.alloc (.cells #[.int .i64 f.mth, .int .i64 f.entry, .slice An f.nodes.length cn, .slice Ab f.blocks.length cb, .slice As n3 cs] 30)).alloc (.cells ⟨ints (List.replicate f.nodes.length 0)⟩ 3)).alloc (.cells #[.slice (some ⟨w.heap.size + 1, 0, none⟩) f.nodes.length f.nodes.length] 47) = w2 at *
 have y2 := bF2.at2
 have lF := bF2.lt
 go_wp2
 go_loopw [15] (fun iv wr => ∃ k : Nat, k ≤ f.nodes.length ∧ iv = .int .i64 k ∧ Blk wr (w.heap.size + 1) 3 ⟨ints (usesTo f k)⟩ ∧ Blk wr (w.heap.size + 1 + 1) 47 #[.slice (some ⟨w.heap.size + 1, 0, none⟩) f.nodes.length f.nodes.length] ∧ Blk wr w.heap.size 30 #[.int .i64 f.mth, .int .i64 f.entry, .slice An f.nodes.length cn, .slice Ab f.blocks.length cb, .slice As n3 cs] ∧ Below w.heap.size w wr) (fun iv _ => f.nodes.length - (intOf iv).toNat)
 case atStart => exact ⟨0, Nat.zero_le _, rfl, bO2, bD2, bF2, hb2⟩
 case round =>
  clear bO2 bD2 bF2 hb2 y2 lF
  obtain ⟨k, hk, rfl, bO, bD, bF, hb⟩ := hrel
  by_cases hlt : k < f.nodes.length
  · have k0 : (0 : Int) ≤ k := by omega
    have k1 : (k : Int) < f.nodes.length := by omega
    obtain ⟨b, off, A2, c2, rfl, hSb, x0, x1, x2, x3, x4, x5, x6, hrow⟩ := rd_nd (HR.out.below hb HS.out) hlt
    have hbb := HS.out b hSb
    have hxk := HX.out k hlt
    have htk := HT.out k hlt
    have Hsu := Lib.hid (usesTo_succ hlt)
    have Hle := Lib.hid (usesTo_le (N := 1000000) HX.out k (by omega))
    have Hln := Lib.hid (usesTo_len f k)
    unfold ndAt at hxk htk Hsu
    generalize f.nodes.getD k default = x at *
    rw [htk] at x3
    clear htk
    have hbw := hb.size
    generalize usesTo f k = us at *
    go_upto_region 6 with (fail)
    have bX := Blk.new wr 59 #[.int .i64 x.op, .int .i64 x.a, .int .i64 x.b, .int .i64 (-1), .string x.kind, .int .i64 x.n, .slice A2 x.args.length c2]
    have bO3 := bO.alloc (.cells #[.int .i64 x.op, .int .i64 x.a, .int .i64 x.b, .int .i64 (-1), .string x.kind, .int .i64 x.n, .slice A2 x.args.length c2] 59)
    have bD3 := bD.alloc (.cells #[.int .i64 x.op, .int .i64 x.a, .int .i64 x.b, .int .i64 (-1), .string x.kind, .int .i64 x.n, .slice A2 x.args.length c2] 59)
    have bF3 := bF.alloc (.cells #[.int .i64 x.op, .int .i64 x.a, .int .i64 x.b, .int .i64 (-1), .string x.kind, .int .i64 x.n, .slice A2 x.args.length c2] 59)
    have hb3 := hb.alloc hbw (.cells #[.int .i64 x.op, .int .i64 x.a, .int .i64 x.b, .int .i64 (-1), .string x.kind, .int .i64 x.n, .slice A2 x.args.length c2] 59)
    have hrow3 := hrow.keep (Kept.alloc (Kept.refl _ _) (fun b h => Nat.lt_of_lt_of_le (HS.out b h) hbw) (.cells #[.int .i64 x.op, .int .i64 x.a, .int .i64 x.b, .int .i64 (-1), .string x.kind, .int .i64 x.n, .slice A2 x.args.length c2] 59))
    have hgx : w.heap.size + 2 < wr.heap.size + 1 := by have := bD.lt; omega
    have hz3 : (wr.alloc (.cells #[.int .i64 x.op, .int .i64 x.a, .int .i64 x.b, .int .i64 (-1), .string x.kind, .int .i64 x.n, .slice A2 x.args.length c2] 59)).heap.size = wr.heap.size + 1 := by simp
    have Hz3 := Lib.hid hz3
    clear bO bD bF hb hrow x0 x1 x2 x3 x4 x5 x6 hz3
    generalize wr.alloc (.cells #[.int .i64 x.op, .int .i64 x.a, .int .i64 x.b, .int .i64 (-1), .string x.kind, .int .i64 x.n, .slice A2 x.args.length c2] 59) = w3 at *
    generalize wr.heap.size = gx at *
    have z6 : w3.cell? ⟨gx, 6, none⟩ = some (.slice A2 x.args.length c2) := bX.cell 6
    have z3 := bX.at3
    have lX := bX.lt
    have hl1 := Hln.out
    have hM := meets_any A2 c2 x.args us (k * 1000000 : Nat) (w.heap.size + 1 + 1) (w.heap.size + 1) w3 ((hrow3.rd (B := w.heap.size) HS.out).more hb3.size) (by omega) (by rw [hl1]; exact bD3) bO3 (hrow3.more (fun b h => ⟨by have := HS.out b h; omega, by have := HS.out b h; have := hb3.size; omega⟩)) Hle.out hxk (by have : k * 1000000 ≤ 100000 * 1000000 := Nat.mul_le_mul_right _ (by omega); omega)
    have HM := Lib.hid hM
    clear hM hl1
    go_wp2_with fail
    refine HM.out.mono ?_
    rintro e w4 ⟨rfl, bO4, hg4⟩
    have hlm : (meetL us x.args).length = f.nodes.length := by rw [meetL_len]; exact Hln.out
    rw [← Hsu.out] at bO4
    have bD4 := bD3.grown hg4 (by simp)
    have bF4 := bF3.grown hg4 (by simp)
    have bX4 := bX.grown hg4 (by simp; omega)
    have hb4 := hb3.grown hg4 hb3.size (fun j hj => by cases hj; omega)
    clear bX bO3 bD3 bF3 hb3 hg4 z6 z3 lX HM
    have z3 := bX4.at3
    have lX := bX4.lt
    have y0 := bF4.at0
    have y1 := bF4.at1
    have y2 := bF4.at2
    have y3 := bF4.at3
    have y4 : w4.cell? ⟨w.heap.size, 4, none⟩ = some (.slice As n3 cs) := bF4.cell 4
    have lF := bF4.lt
    go_wp2_with fail
    refine (named_none _ _ _ _ _ _ _ _ _ _ _ w4).mono ?_
    rintro e w5 ⟨rfl, hb45⟩
    have bO5 := bO4.below hb45 bO4.lt
    have bD5 := bD4.below hb45 bD4.lt
    have bF5 := bF4.below hb45 bF4.lt
    have hb5 := hb4.trans (hb45.mono hb4.size)
    clear bO4 bD4 bF4 bX4 hb4 hb45 z3 lX y0 y1 y2 y3 y4 lF hlm hrow3
    have hl5 := usesTo_len f (k + 1)
    have HM5 := Lib.hid (show Calls Tryz.prog 46 #[.slice none 0 0, .pointer (some ⟨w.heap.size + 1 + 1, 0, none⟩)] w5 (MeetsPost w5 (w.heap.size + 1) (usesTo f (k + 1))) from
     meets_any none 0 [] (usesTo f (k + 1)) ((k + 1) * 1000000 : Nat) (w.heap.size + 1 + 1) (w.heap.size + 1) w5 (Rd.nil _ _ _ _) (by omega) (by rw [hl5]; exact bD5) bO5 (RdS.nil _ _ _ _) (usesTo_le (N := 1000000) HX.out (k + 1) hlt) (by simp) (by have : (k + 1) * 1000000 ≤ 100000 * 1000000 := Nat.mul_le_mul_right _ (by omega); omega))
    clear hl5
    go_wp2_with fail
    refine HM5.out.mono ?_
    rintro e w6 ⟨rfl, bO6, hg6⟩
    have bD6 := bD5.grown hg6 (by simp)
    have bF6 := bF5.grown hg6 (by simp)
    have hb6 := hb5.grown hg6 hb5.size (fun j hj => by cases hj; omega)
    clear bO5 bD5 bF5 hb5 hg6 HM5
    go_wp2
    go_roundw
    case rel => exact ⟨k + 1, by omega, by go_num, bO6, bD6, bF6, hb6⟩
    case measure => simp [intOf]; omega
  · have e : k = f.nodes.length := by omega
    subst e
    have d0 := bD.at0
    have lD := bD.lt
    clear hlt
    go_wp2
    exact HP.out _ _ bO hb
end Go.Proofs.YtjjmpfmhggcjiaaGreatDoor
