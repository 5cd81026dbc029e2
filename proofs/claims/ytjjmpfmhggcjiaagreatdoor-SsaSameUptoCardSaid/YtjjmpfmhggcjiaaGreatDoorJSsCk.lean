/-
 SsCk.
-/
import Derived.Test.YtjjmpfmhggcjiaaGreatDoorJSsSn
import Derived.Test.YtjjmpfmhggcjiaaGreatDoorJSrLaw
set_option linter.unusedSimpArgs false
set_option linter.unusedVariables false
namespace Go.Proofs.YtjjmpfmhggcjiaaGreatDoor
open Go.RowKit Go.Maps
/-- The blocks that a new checker reads. -/
def SCk (S : Nat → Prop) (z gc : Nat) (b : Nat) : Prop := S b ∨ (z ≤ b ∧ b < gc)
/-- A new checker. -/
def Born (w : World) (S : Nat → Prop) (gv : Nat) (p : Prg) (vs : List Vs) (f : Fn) (gc : Nat) (w' : World) : Prop :=
 ∃ lv, Chk w' (SCk S w.heap.size gc) gc gv p vs f (.slice none 0 0) (.slice none 0 0) (.pointer none) lv (.slice none 0 0) ∧ w.heap.size ≤ gc ∧ Below w.heap.size w w'
theorem InfoG.grown {w w' : World} {S : Nat → Prop} {gc gv : Nat} {p : Prg} {vs : List Vs} {f : Fn} {bv qv tv lv dv : Value} (h : Chk w S gc gv p vs f bv qv tv lv dv) (hg : w.grownBy w' (some gc)) : InfoG w' S gv p vs := by
 obtain ⟨Ac, cc, Am, cm, An, cn, Ab, cb, As, cs, h⟩ := h
 refine h.inf.kb (KB.of_grown hg (fun b hb => ?_) (fun b hb e => ?_)) hg.size
 · rcases hb with hb | rfl
   · exact (h.lt b hb).1
   · exact h.gv.1
 · cases e
   rcases hb with hb | hb
   · exact (h.lt gc hb).2.1 rfl
   · exact h.gv.2 hb.symm
theorem belowB {w w' : World} {B gv : Nat} (h : w.grownBy w' (some gv)) (hB : B ≤ gv) (hgv : gv < w.heap.size) : Below B w w' :=
 ⟨h.os, h.tape, h.output, h.size, fun k hk => h.block k (by omega) (fun e => by cases e; omega)⟩
theorem cell_gt {w : World} {g o : Nat} {v : Value} (h : w.cell? ⟨g, o, none⟩ = some v) : g < w.heap.size := World.block_lt_of_cell? w ⟨g, o, none⟩ h
theorem born {w w' : World} {S : Nat → Prop} {gv : Nat} {p : Prg} {vs : List Vs} {f : Fn} {An Ab As Ac2 Am2 : Option Addr} {cn cb cs cc2 cm2 : Nat} {lv : Value} (hI : InfoG w S gv p vs) (hF : RdF w S An Ab As f) (hcap : f.nodes.length ≤ cn) (hb : Below w.heap.size w w')
 {z : Nat} (hps : RdPS w' (fun b => w.heap.size ≤ b ∧ b < z) Ac2 Am2 p) (hz : z ≤ w'.heap.size) :
 Born w S gv p vs f w'.heap.size (w'.alloc (.cells #[.pointer (some ⟨gv, 0, none⟩), .slice Ac2 p.classes.length cc2, .slice Am2 p.methods.length cm2, .int .i64 f.mth, .int .i64 f.entry, .slice An f.nodes.length cn, .slice Ab f.blocks.length cb, .slice As f.states.length cs, .slice none 0 0, .slice none 0 0, .pointer none, lv, .slice none 0 0] 112)) := by
 have hz2 := hb.size
 generalize hO : Obj.cells #[.pointer (some ⟨gv, 0, none⟩), .slice Ac2 p.classes.length cc2, .slice Am2 p.methods.length cm2, .int .i64 f.mth, .int .i64 f.entry, .slice An f.nodes.length cn, .slice Ab f.blocks.length cb, .slice As f.states.length cs, .slice none 0 0, .slice none 0 0, .pointer none, lv, .slice none 0 0] 112 = O
 have hb2 := hb.alloc hz2 O
 have hk1 : Kept (fun b => b < w.heap.size) w (w'.alloc O) := Kept.of_below hb2 (fun b h => h)
 have hk2 : Kept (fun b => b < w'.heap.size) w' (w'.alloc O) := Kept.of_below ((Below.refl w'.heap.size w').alloc (Nat.le_refl _) O) (fun b h => h)
 have hlt := hI.lt
 obtain ⟨Ac, cc, Am, cm, Al, cl, cnt, hA⟩ := hI
 have hgv := hA.blk.lt
 have hsz : (w'.alloc O).heap.size = w'.heap.size + 1 := by simp
 have hlt2 : ∀ b, SCk S w.heap.size w'.heap.size b → b < (w'.alloc O).heap.size ∧ b ≠ w'.heap.size ∧ b ≠ gv := fun b h => by
  rw [hsz]
  rcases h with h | h
  · have := hlt b h
    exact ⟨by omega, by omega, this.2⟩
  · exact ⟨by omega, by omega, by omega⟩
 refine ⟨lv, ⟨Ac2, cc2, Am2, cm2, An, cn, Ab, cb, As, cs, ⟨?_, ?_, ?_, ⟨Ac, cc, Am, cm, Al, cl, cnt, ⟨?_, ?_, ?_, fun b h => ⟨(hlt2 b h).1, (hlt2 b h).2.2⟩⟩⟩, hlt2, ⟨by rw [hsz]; omega, by omega⟩, hcap⟩⟩, hz2, hb2⟩
 · rw [← hO]; exact Blk.new w' _ _
 · exact (hps.keep (hk2.sub (fun b h => by omega))).more (fun b h => .inr ⟨h.1, by omega⟩)
 · exact (hF.keep (hk1.sub (fun b h => (hlt b h).1))).more (fun b h => .inl h)
 · exact hA.blk.below hb2 hgv
 · exact (hA.prg.keep (hk1.sub (fun b h => (hlt b h).1))).more (fun b h => .inl h)
 · exact (hA.inf.keep (hk1.sub (fun b h => (hlt b h).1))).more (fun b h => .inl h)
/-- What may be of a function in which no node has a state: 0, or the error's number. -/
noncomputable def ckF (p : Prg) (vs : List Vs) (f : Fn) : Nat :=
 if f.blocks.length < 1 ∨ 500 < f.blocks.length ∨ 4000 < f.nodes.length ∨ 4000 < f.states.length then 1 else if dec (entryB p vs f = true ∧ coreOk p f) = true then 0 else 12
def CkPost (w : World) (a : Nat → Addr) (S : Nat → Prop) (gv : Nat) (p : Prg) (vs : List Vs) (n : Nat) (e : Ending) (w' : World) : Prop :=
 e = .returned (errV a n) ∧ (∃ S', InfoG w' S' gv p vs ∧ (∀ b, S b → S' b) ∧ ∀ b, S' b → S b ∨ w.heap.size ≤ b) ∧ w.grownBy w' (some gv)
/-- What Check stands on. -/
structure CkIn (w : World) (S : Nat → Prop) (gv : Nat) (p : Prg) (vs : List Vs) (f : Fn) (An Ab As : Option Addr) (cn : Nat) : Prop where
 inf : InfoG w S gv p vs
 fn : RdF w S An Ab As f
 cap : f.nodes.length ≤ cn
 vlen : vs.length = p.methods.length
 vsz : ∀ i, i < vs.length → (vs.getD i default).stacks.length = (vs.getD i default).seen.length
 cls : p.classes.length ≤ 1000 ∧ ∀ k, k < p.classes.length → (p.classes.getD k ⟨#[]⟩).size ≤ 1000000
 mts : p.methods.length ≤ 1000 ∧ ∀ k, k < p.methods.length → (p.methods.getD k default).pa.size + (p.methods.getD k default).lo.size ≤ 1000 ∧ (p.methods.getD k default).code.length ≤ 1000
 rows : ∀ b, b < f.blocks.length → (allN (bkAt f b)).length ≤ 1000000 ∧ (bkAt f b).succ.length ≤ 1000000 ∧ (bkAt f b).preds.length ≤ 1000000
 nds : ∀ i, i < f.nodes.length → (ndAt f i).kind.size ≤ 1000000 ∧ (ndAt f i).args.length ≤ 1000000
set_option maxRecDepth 100000 in
set_option maxHeartbeats 8000000 in
theorem check_any {w : World} {a : Nat → Addr} {B : Nat} {S : Nat → Prop} {gv : Nat} {p : Prg} {vs : List Vs} {f : Fn} {An Ab As : Option Addr} {cn : Nat} (cb cs : Nat) (hOf : OfAll p f) (h0 : CkIn w S gv p vs f An Ab As cn) (hs : Sent w B all14 a) (hBv : B ≤ gv) (hst : ∀ i, i < f.nodes.length → (ndAt f i).st = -1) :
 Calls Tryz.prog 14 #[.pointer (some ⟨gv, 0, none⟩), fv An Ab As cn cb cs f] w (CkPost w a S gv p vs (ckF p vs f)) := by
 have HP := Lib.hid (fun w' n S' (h1 : ckF p vs f = n) (h2 : InfoG w' S' gv p vs) (h3 : ∀ b, S b → S' b) (h4 : ∀ b, S' b → S b ∨ w.heap.size ≤ b) (h5 : w.grownBy w' (some gv)) => (show CkPost w a S gv p vs (ckF p vs f) (.returned (errV a n)) w' from ⟨by rw [h1], ⟨S', h2, h3, h4⟩, h5⟩))
 have hI := h0.inf
 have hF := h0.fn
 have hcap := h0.cap
 have H0 := Lib.hid h0
 have lgv : gv < w.heap.size := by obtain ⟨_, _, _, _, _, _, _, h⟩ := hI; exact h.blk.lt
 have bF := Blk.new w 30 #[.int .i64 f.mth, .int .i64 f.entry, .slice An f.nodes.length cn, .slice Ab f.blocks.length cb, .slice As f.states.length cs]
 have hb1 := (Below.refl w.heap.size w).alloc (Nat.le_refl _) (.cells #[.int .i64 f.mth, .int .i64 f.entry, .slice An f.nodes.length cn, .slice Ab f.blocks.length cb, .slice As f.states.length cs] 30)
 have hs1 := hs.below hb1 (by omega)
 have s1 := (hs1.cell 1 (by simp [all14])).2
 have sl1 := (hs1.cell 1 (by simp [all14])).1
 simp only [gOf, sent] at s1 sl1
 have y3 := bF.at3
 have y2 := bF.at2
 have y4 : World.cell? _ ⟨w.heap.size, 4, none⟩ = some (.slice As f.states.length cs) := bF.cell 4
 have lF := bF.lt
 have HS := Lib.hid hs
 generalize hpost : CkPost w a S gv p vs (ckF p vs f) = Post at *
 clear hpost
 go_enter Tryz.func14, Tryz.ntmps14
 go_upto_region 1 with (fail)
 have HI1 := Lib.hid (hI.below hb1)
 by_cases l1 : f.blocks.length < 1
 · have gl1 : decide ((f.blocks.length : Int) < 1) = true := by simp; omega
   have HN := Lib.hid (show ckF p vs f = 1 by unfold ckF; rw [if_pos (by omega)])
   clear l1
   go_wp2
   exact HP.out _ 1 S HN.out HI1.out (fun b h => h) (fun b h => .inl h) (grown_of_below hb1 (Nat.le_refl _) (some gv))
 · have gl1 : decide ((f.blocks.length : Int) < 1) = false := by simp; omega
   by_cases l2 : 500 < f.blocks.length
   · have gl2 : decide ((500 : Int) < f.blocks.length) = true := by simp; omega
     have HN := Lib.hid (show ckF p vs f = 1 by unfold ckF; rw [if_pos (by omega)])
     clear l2
     go_wp2
     exact HP.out _ 1 S HN.out HI1.out (fun b h => h) (fun b h => .inl h) (grown_of_below hb1 (Nat.le_refl _) (some gv))
   · have gl2 : decide ((500 : Int) < f.blocks.length) = false := by simp; omega
     by_cases l3 : 4000 < f.nodes.length
     · have gl3 : decide ((4000 : Int) < f.nodes.length) = true := by simp; omega
       have HN := Lib.hid (show ckF p vs f = 1 by unfold ckF; rw [if_pos (by omega)])
       clear l3
       go_wp2
       exact HP.out _ 1 S HN.out HI1.out (fun b h => h) (fun b h => .inl h) (grown_of_below hb1 (Nat.le_refl _) (some gv))
     · have gl3 : decide ((4000 : Int) < f.nodes.length) = false := by simp; omega
       by_cases l4 : 4000 < f.states.length
       · have gl4 : decide ((4000 : Int) < f.states.length) = true := by simp; omega
         have HN := Lib.hid (show ckF p vs f = 1 by unfold ckF; rw [if_pos (by omega)])
         clear l4
         go_wp2
         exact HP.out _ 1 S HN.out HI1.out (fun b h => h) (fun b h => .inl h) (grown_of_below hb1 (Nat.le_refl _) (some gv))
       · have gl4 : decide ((4000 : Int) < f.states.length) = false := by simp; omega
         have hlim : ¬ (f.blocks.length < 1 ∨ 500 < f.blocks.length ∨ 4000 < f.nodes.length ∨ 4000 < f.states.length) := by omega
         have HL := Lib.hid hlim
         have hck := Lib.hid (show ckF p vs f = if dec (entryB p vs f = true ∧ coreOk p f) = true then 0 else 12 by unfold ckF; rw [if_neg hlim])
         clear hlim y2 y3 y4 s1 sl1 hs1
         go_upto_region 3 with (fail)
         have f0 := bF.at0
         have f1 := bF.at1
         have f2 := bF.at2
         have f3 := bF.at3
         have f4 : World.cell? _ ⟨w.heap.size, 4, none⟩ = some (.slice As f.states.length cs) := bF.cell 4
         clear gl1 gl2 gl3 gl4
         obtain ⟨g3, hg3⟩ : ∃ g3, g3 = w.heap.size := ⟨_, rfl⟩
         have Hg3 := Lib.hid hg3
         rw [← hg3] at bF f0 f1 f2 f3 f4 lF ⊢
         clear hg3
         generalize w.alloc (.cells #[.int .i64 f.mth, .int .i64 f.entry, .slice An f.nodes.length cn, .slice Ab f.blocks.length cb, .slice As f.states.length cs] 30) = w1 at *
         go_cut [5] from 29 to 35 (fun v wx => ∃ gc, v = .pointer (some ⟨gc, 0, none⟩) ∧ Born w S gv p vs f gc wx)
         case first =>
          clear hs H0 HS hck HP HL
          have hprog := fun W (h : InfoG W S gv p vs) => program_any W h h0.cls.1 h0.mts.1 (fun k hk => (h0.mts.2 k hk).2)
          have Hprog := Lib.hid hprog
          have hmm := @run_makeMap Tryz.prog
          clear hprog
          refine wpJ_start (S := fun W => W.cell? ⟨g3, 0, none⟩ = some (.int .i64 f.mth) ∧ W.cell? ⟨g3, 1, none⟩ = some (.int .i64 f.entry) ∧ W.cell? ⟨g3, 2, none⟩ = some (.slice An f.nodes.length cn) ∧ W.cell? ⟨g3, 3, none⟩ = some (.slice Ab f.blocks.length cb) ∧ W.cell? ⟨g3, 4, none⟩ = some (.slice As f.states.length cs)) (fun _ => true) (by kernel_rfl) ⟨f0, f1, f2, f3, f4⟩ (fun HS => ?_)
          have bFd : Blk w1.drew g3 30 _ := bF
          have hbd : Below w.heap.size w w1.drew := hb1.drew
          have HId : Hid (InfoG w1.drew S gv p vs) := Lib.hid HI1.out.drew
          have lFd : g3 < w1.drew.heap.size := lF
          clear f0 f1 f2 f3 f4 bF hb1 HI1 lF
          generalize w1.drew = wd at *
          refine takeQ 0 29 rfl HS (.inl ⟨rfl, fun W hW => by obtain ⟨h0, h1, h2, h3, h4⟩ := hW; go_simp; rfl⟩) ?_
          simp only [pS]
          refine takeQ 1 30 rfl HS (.inl ⟨rfl, fun W hW => by obtain ⟨h0, h1, h2, h3, h4⟩ := hW; go_simp; rfl⟩) ?_
          simp only [pS]
          refine takeQ 3 32 rfl HS (.inl ⟨rfl, fun W hW => by obtain ⟨h0, h1, h2, h3, h4⟩ := hW; go_simp; rfl⟩) ?_
          simp only [pS]
          refine twoH 2 4 (by kernel_rfl) (by kernel_rfl) (by kernel_rfl) (fun oi h K hK => ?_) (fun oi h K hK => ?_)
          · simp only [List.getElem?_toArray, List.getElem?_cons_zero, List.getElem?_cons_succ, Option.some.injEq] at h
            subst h
            have HK := Lib.hid hK
            clear hK
            go_simp
            refine (Hprog.out _ HId.out).mono ?_
            rintro e wa ⟨Ac2, cc2, Am2, cm2, rfl, hps, hba⟩
            have bFa := bFd.below hba lFd
            have hbA := hbd.trans (hba.mono hbd.size)
            have hza := hba.size
            have HSwa : wa.cell? ⟨g3, 0, none⟩ = some (.int .i64 f.mth) ∧ wa.cell? ⟨g3, 1, none⟩ = some (.int .i64 f.entry) ∧ wa.cell? ⟨g3, 2, none⟩ = some (.slice An f.nodes.length cn) ∧ wa.cell? ⟨g3, 3, none⟩ = some (.slice Ab f.blocks.length cb) ∧ wa.cell? ⟨g3, 4, none⟩ = some (.slice As f.states.length cs) := ⟨bFa.at0, bFa.at1, bFa.at2, bFa.at3, bFa.cell 4⟩
            refine HK.out _ _ (fun _ => HSwa) ?_
            clear HK HS
            try simp only [pS]
            refine stepQ 4 rfl (fun K HK => ?_)
            go_simp
            have bFwb := bFa.alloc (.map #[] 0)
            have hbB := hbA.alloc hbA.size (.map #[] 0)
            obtain ⟨gm, hgm⟩ : ∃ gm, gm = wa.heap.size := ⟨_, rfl⟩
            rw [← hgm]
            have hpsB : RdPS (wa.alloc (.map #[] 0)) (fun b => w.heap.size ≤ b ∧ b < gm) Ac2 Am2 p := (hps.keep (Kept.of_below ((Below.refl wa.heap.size wa).alloc (Nat.le_refl _) (.map #[] 0)) (fun b h => h.2))).more (fun b h => ⟨Nat.le_trans hbd.size h.1, by rw [hgm]; exact h.2⟩)
            have lz : gm ≤ (wa.alloc (.map #[] 0)).heap.size := by simp; omega
            refine HK.out _ _ (fun _ => ⟨bFwb.at0, bFwb.at1, bFwb.at2, bFwb.at3, bFwb.cell 4⟩) ?_
            clear HK HSwa hps hbA hgm
            generalize wa.alloc (.map #[] 0) = wb at *
            have HSwb : wb.cell? ⟨g3, 0, none⟩ = some (.int .i64 f.mth) ∧ wb.cell? ⟨g3, 1, none⟩ = some (.int .i64 f.entry) ∧ wb.cell? ⟨g3, 2, none⟩ = some (.slice An f.nodes.length cn) ∧ wb.cell? ⟨g3, 3, none⟩ = some (.slice Ab f.blocks.length cb) ∧ wb.cell? ⟨g3, 4, none⟩ = some (.slice As f.states.length cs) := ⟨bFwb.at0, bFwb.at1, bFwb.at2, bFwb.at3, bFwb.cell 4⟩
            try simp only [pS]
            refine takeQ 5 34 rfl HSwb (.inl ⟨rfl, fun W hW => by obtain ⟨h0, h1, h2, h3, h4⟩ := hW; go_simp; rfl⟩) ?_
            simp only [pS]
            refine stepQ 6 rfl (fun K HK => ?_)
            go_simp
            have bK := Blk.new wb 112 #[.pointer (some ⟨gv, 0, none⟩), .slice Ac2 p.classes.length cc2, .slice Am2 p.methods.length cm2, .int .i64 f.mth, .int .i64 f.entry, .slice An f.nodes.length cn, .slice Ab f.blocks.length cb, .slice As f.states.length cs, .slice none 0 0, .slice none 0 0, .pointer none, .map (some gm), .slice none 0 0]
            have bF9 := bFwb.alloc (.cells #[.pointer (some ⟨gv, 0, none⟩), .slice Ac2 p.classes.length cc2, .slice Am2 p.methods.length cm2, .int .i64 f.mth, .int .i64 f.entry, .slice An f.nodes.length cn, .slice Ab f.blocks.length cb, .slice As f.states.length cs, .slice none 0 0, .slice none 0 0, .pointer none, .map (some gm), .slice none 0 0] 112)
            have hb9 := hbB.alloc hbB.size (.cells #[.pointer (some ⟨gv, 0, none⟩), .slice Ac2 p.classes.length cc2, .slice Am2 p.methods.length cm2, .int .i64 f.mth, .int .i64 f.entry, .slice An f.nodes.length cn, .slice Ab f.blocks.length cb, .slice As f.states.length cs, .slice none 0 0, .slice none 0 0, .pointer none, .map (some gm), .slice none 0 0] 112)
            have HB := Lib.hid (born hI hF hcap (w' := wb) hbB hpsB lz (lv := .map (some gm)) (cb := cb) (cs := cs) (cc2 := cc2) (cm2 := cm2))
            refine HK.out _ _ (fun _ => ⟨bF9.at0, bF9.at1, bF9.at2, bF9.at3, bF9.cell 4⟩) ?_
            clear HK
            try simp only [pS]
            refine takeQ 7 5 rfl ⟨bF9.at0, bF9.at1, bF9.at2, bF9.at3, bF9.cell 4⟩ (.inl ⟨rfl, fun W hW => by obtain ⟨h0, h1, h2, h3, h4⟩ := hW; go_simp; rfl⟩) ?_
            simp only [pS]
            refine wpAnyJ_done (by kernel_rfl) ?_ _
            go_wp2_with fail
            go_meet
            exact ⟨_, rfl, HB.out⟩
          · simp only [List.getElem?_toArray, List.getElem?_cons_zero, List.getElem?_cons_succ, Option.some.injEq] at h
            subst h
            have HK := Lib.hid hK
            clear hK
            go_simp
            have bFa := bFd.alloc (.map #[] 0)
            have hbA := hbd.alloc hbd.size (.map #[] 0)
            have HIa := Lib.hid (HId.out.below ((Below.refl wd.heap.size wd).alloc (Nat.le_refl _) (.map #[] 0)))
            obtain ⟨gm, hgm⟩ : ∃ gm, gm = wd.heap.size := ⟨_, rfl⟩
            rw [← hgm]
            have lFa := bFa.lt
            refine HK.out _ _ (fun _ => ⟨bFa.at0, bFa.at1, bFa.at2, bFa.at3, bFa.cell 4⟩) ?_
            clear HK HS hgm
            generalize wd.alloc (.map #[] 0) = wa at *
            have HSwa : wa.cell? ⟨g3, 0, none⟩ = some (.int .i64 f.mth) ∧ wa.cell? ⟨g3, 1, none⟩ = some (.int .i64 f.entry) ∧ wa.cell? ⟨g3, 2, none⟩ = some (.slice An f.nodes.length cn) ∧ wa.cell? ⟨g3, 3, none⟩ = some (.slice Ab f.blocks.length cb) ∧ wa.cell? ⟨g3, 4, none⟩ = some (.slice As f.states.length cs) := ⟨bFa.at0, bFa.at1, bFa.at2, bFa.at3, bFa.cell 4⟩
            try simp only [pS]
            refine stepQ 2 rfl (fun K HK => ?_)
            go_simp
            refine (Hprog.out _ HIa.out).mono ?_
            rintro e wb ⟨Ac2, cc2, Am2, cm2, rfl, hps, hba⟩
            have bFwb := bFa.below hba lFa
            have hbB := hbA.trans (hba.mono hbA.size)
            have hpsB : RdPS wb (fun b => w.heap.size ≤ b ∧ b < wb.heap.size) Ac2 Am2 p := hps.more (fun b h => ⟨Nat.le_trans hbA.size h.1, h.2⟩)
            have HSwb : wb.cell? ⟨g3, 0, none⟩ = some (.int .i64 f.mth) ∧ wb.cell? ⟨g3, 1, none⟩ = some (.int .i64 f.entry) ∧ wb.cell? ⟨g3, 2, none⟩ = some (.slice An f.nodes.length cn) ∧ wb.cell? ⟨g3, 3, none⟩ = some (.slice Ab f.blocks.length cb) ∧ wb.cell? ⟨g3, 4, none⟩ = some (.slice As f.states.length cs) := ⟨bFwb.at0, bFwb.at1, bFwb.at2, bFwb.at3, bFwb.cell 4⟩
            refine HK.out _ _ (fun _ => HSwb) ?_
            clear HK hps
            try simp only [pS]
            refine takeQ 5 34 rfl HSwb (.inl ⟨rfl, fun W hW => by obtain ⟨h0, h1, h2, h3, h4⟩ := hW; go_simp; rfl⟩) ?_
            simp only [pS]
            refine stepQ 6 rfl (fun K HK => ?_)
            go_simp
            have bK := Blk.new wb 112 #[.pointer (some ⟨gv, 0, none⟩), .slice Ac2 p.classes.length cc2, .slice Am2 p.methods.length cm2, .int .i64 f.mth, .int .i64 f.entry, .slice An f.nodes.length cn, .slice Ab f.blocks.length cb, .slice As f.states.length cs, .slice none 0 0, .slice none 0 0, .pointer none, .map (some gm), .slice none 0 0]
            have bF9 := bFwb.alloc (.cells #[.pointer (some ⟨gv, 0, none⟩), .slice Ac2 p.classes.length cc2, .slice Am2 p.methods.length cm2, .int .i64 f.mth, .int .i64 f.entry, .slice An f.nodes.length cn, .slice Ab f.blocks.length cb, .slice As f.states.length cs, .slice none 0 0, .slice none 0 0, .pointer none, .map (some gm), .slice none 0 0] 112)
            have hb9 := hbB.alloc hbB.size (.cells #[.pointer (some ⟨gv, 0, none⟩), .slice Ac2 p.classes.length cc2, .slice Am2 p.methods.length cm2, .int .i64 f.mth, .int .i64 f.entry, .slice An f.nodes.length cn, .slice Ab f.blocks.length cb, .slice As f.states.length cs, .slice none 0 0, .slice none 0 0, .pointer none, .map (some gm), .slice none 0 0] 112)
            have HB := Lib.hid (born hI hF hcap (w' := wb) hbB hpsB (Nat.le_refl _) (lv := .map (some gm)) (cb := cb) (cs := cs) (cc2 := cc2) (cm2 := cm2))
            refine HK.out _ _ (fun _ => ⟨bF9.at0, bF9.at1, bF9.at2, bF9.at3, bF9.cell 4⟩) ?_
            clear HK
            try simp only [pS]
            refine takeQ 7 5 rfl ⟨bF9.at0, bF9.at1, bF9.at2, bF9.at3, bF9.cell 4⟩ (.inl ⟨rfl, fun W hW => by obtain ⟨h0, h1, h2, h3, h4⟩ := hW; go_simp; rfl⟩) ?_
            simp only [pS]
            refine wpAnyJ_done (by kernel_rfl) ?_ _
            go_wp2_with fail
            go_meet
            exact ⟨_, rfl, HB.out⟩
         case rest =>
          obtain ⟨gc, rfl, lv, hk0, hgcw, hbc⟩ := hcut
          have hg0 : w.grownBy wc (some gv) := grown_of_below hbc (Nat.le_refl _) (some gv)
          clear bF hb1 f0 f1 f2 f3 f4 lF HI1
          have hen := entry_any H0.out.vlen H0.out.vsz hk0
          have Hen := Lib.hid hen
          clear hen
          go_wp2_with fail
          refine Hen.out.mono ?_
          rintro e w2 ⟨rfl, hk1, hg1⟩
          have hg01 := hg0.trans hg1
          have HG1 := Lib.hid hg01
          have HK1 := Lib.hid hk1
          clear Hen hk0 hbc hg0 hg1 hg01 hk1
          cases heb : entryB p vs f with
          | false =>
            have hsE := HS.out.below (belowB HG1.out hBv lgv) (Nat.le_refl B)
            have s12 := (hsE.cell 12 (by simp [all14])).2
            have sl12 := (hsE.cell 12 (by simp [all14])).1
            simp only [gOf, sent] at s12 sl12
            have HN := Lib.hid (show ckF p vs f = 12 by rw [hck.out, if_neg (by rw [dec_f (fun h => by rw [heb] at h; cases h.1)]; simp)])
            have HG := Lib.hid HG1.out
            have HIE := Lib.hid (show InfoG w2 _ gv p vs by obtain ⟨_, _, _, _, _, _, _, _, _, _, h⟩ := HK1.out; exact h.inf)
            go_wp2
            exact HP.out _ 12 _ HN.out HIE.out (fun b h => .inl h) (fun b h => h.elim .inl (fun h => .inr h.1)) HG.out
          | true =>
            have hmth : inB f.mth p.methods.length = true := by
             unfold entryB at heb
             cases h : inB f.mth p.methods.length with
             | true => rfl
             | false => rw [h] at heb; cases heb
            have Hmth := Lib.hid hmth
            have Heb := Lib.hid heb
            clear hmth heb
            have hbl := blocks_any HK1.out (by have := HL.out; omega) (by have := HL.out; omega) (by have := HL.out; omega) (fun b hb => (H0.out.rows b hb).1) (fun b hb => (H0.out.rows b hb).2)
            have Hbl := Lib.hid hbl
            clear hbl
            go_wp2_with fail
            refine Hbl.out.mono ?_
            rintro e w3 ⟨hg3, ⟨rfl, hno⟩ | ⟨rfl, hbk, gb, gp, gt, gi, gd, blk, plc, idm, dep, hS, R⟩⟩
            · have HG2 := Lib.hid (grown_more HG1.out hg3 (fun x hx => by cases hx; exact hgcw))
              have HNo := Lib.hid hno
              have HI3 := Lib.hid (InfoG.grown HK1.out hg3)
              clear Hbl hno hg3
              have hsE := HS.out.below (belowB HG2.out hBv lgv) (Nat.le_refl B)
              have s12 := (hsE.cell 12 (by simp [all14])).2
              have sl12 := (hsE.cell 12 (by simp [all14])).1
              simp only [gOf, sent] at s12 sl12
              have HN := Lib.hid (show ckF p vs f = 12 by rw [hck.out, if_neg (by rw [dec_f (fun h => by obtain ⟨b, q, h1, h2, _⟩ := h.2; exact HNo.out ⟨⟨b, q, h1⟩, h2⟩)]; simp)])
              have HG := Lib.hid HG2.out
              have HIE := Lib.hid HI3.out
              go_wp2
              exact HP.out _ 12 _ HN.out HIE.out (fun b h => .inl h) (fun b h => h.elim .inl (fun h => .inr h.1)) HG.out
            · have HG2 := Lib.hid (grown_more HG1.out hg3 (fun x hx => by cases hx; exact hgcw))
              have HR := Lib.hid R
              have HS2 := Lib.hid hS
              have Hbk := Lib.hid hbk
              clear Hbl hg3 R hS hbk
              have hnin : NodesIn w3 _ gc gv p vs f gb gp blk plc (.pointer (some ⟨gt, 0, none⟩)) lv (.slice none 0 0) := ⟨HR.out.chk, HR.out.bb, HS2.out, Hmth.out, H0.out.cls.2, fun k hk => (H0.out.mts.2 k hk).1, by have := HL.out; omega, fun k hk => (H0.out.nds k hk).1, fun b hb => (H0.out.rows b hb).2.2⟩
              have hnd := nodes_any hnin hOf (fun i hi => (H0.out.nds i hi).2)
              have HND := Lib.hid hnd
              have HNI := Lib.hid hnin
              clear hnd hnin
              go_wp2_with fail
              refine HND.out.mono ?_
              rintro e w4 ⟨hb34, ⟨rfl, hnok⟩ | ⟨rfl, hno⟩⟩
              · have hsi : StandsIn w4 _ gc gv p vs f gb gp gt gi gd blk plc idm dep lv (.slice none 0 0) := (StandsIn.below ⟨HNI.out, HR.out.bp, HR.out.tree, HR.out.ok, Hbk.out, hnok, by have := HL.out; omega, fun i hi => (H0.out.nds i hi).2, ⟨cell_gt HR.out.tree.t1, HR.out.tree.bi.lt, HR.out.tree.bd.lt⟩⟩ hb34)
                have HSI := Lib.hid hsi
                have hsd := stands_any hsi
                have HSD := Lib.hid hsd
                have HG4 := Lib.hid (HG2.out.trans (grown_more (row2 := none) ⟨rfl, rfl, rfl, Nat.le_refl _, fun _ _ _ => rfl⟩ (grown_of_below hb34 (Nat.le_refl _) none) (fun x hx => by cases hx) (row := some gv)))
                have Hnok := Lib.hid hnok
                clear hsi hsd hb34 hnok HND
                go_wp2_with fail
                refine HSD.out.mono ?_
                rintro e w5 ⟨hb45, ⟨rfl, hsok⟩ | ⟨rfl, hno⟩⟩
                · have HG5 := Lib.hid (HG4.out.trans (grown_of_below hb45 (Nat.le_refl _) (some gv)))
                  have HK5 := Lib.hid (HSI.out.nin.chk.below hb45)
                  have Hcore := Lib.hid (show ckF p vs f = 0 by rw [hck.out, if_pos (dec_t ⟨Heb.out, blk, plc, HS2.out, Hbk.out, Hnok.out, hsok⟩)])
                  have hsn := states_none HK5.out (by have := HL.out; omega) (by have := HL.out; omega) hst
                  have HSN := Lib.hid hsn
                  clear hsn hb45 hsok HSD
                  go_wp2_with fail
                  refine HSN.out.mono ?_
                  rintro e w6 ⟨rfl, hg56⟩
                  have HG6 := Lib.hid (grown_more HG5.out hg56 (fun x hx => by cases hx; exact hgcw))
                  have HI6 := Lib.hid (InfoG.grown HK5.out hg56)
                  clear hg56 HSN
                  go_wp2
                  exact HP.out _ 0 _ Hcore.out HI6.out (fun b h => .inl h) (fun b h => h.elim .inl (fun h => .inr h.1)) HG6.out
                · have HG5 := Lib.hid (HG4.out.trans (grown_of_below hb45 (Nat.le_refl _) (some gv)))
                  have HNo := Lib.hid hno
                  have HI5 := Lib.hid (show InfoG w5 _ gv p vs by obtain ⟨_, _, _, _, _, _, _, _, _, _, h⟩ := HSI.out.nin.chk.below hb45; exact h.inf)
                  clear hb45 hno HSD
                  have hsE := HS.out.below (belowB HG5.out hBv lgv) (Nat.le_refl B)
                  have s12 := (hsE.cell 12 (by simp [all14])).2
                  have sl12 := (hsE.cell 12 (by simp [all14])).1
                  simp only [gOf, sent] at s12 sl12
                  have HN := Lib.hid (show ckF p vs f = 12 by rw [hck.out, if_neg (by rw [dec_f (fun h => HNo.out ((core_iff HS2.out).1 h.2).2.2)]; simp)])
                  have HG := Lib.hid HG5.out
                  have HIE := Lib.hid HI5.out
                  go_wp2
                  exact HP.out _ 12 _ HN.out HIE.out (fun b h => .inl h) (fun b h => h.elim .inl (fun h => .inr h.1)) HG.out
              · have HG4 := Lib.hid (HG2.out.trans (grown_of_below hb34 (Nat.le_refl _) (some gv)))
                have HNo := Lib.hid hno
                have HI4 := Lib.hid (show InfoG w4 _ gv p vs by obtain ⟨_, _, _, _, _, _, _, _, _, _, h⟩ := HNI.out.chk.below hb34; exact h.inf)
                clear hb34 hno HND
                have hsE := HS.out.below (belowB HG4.out hBv lgv) (Nat.le_refl B)
                have s12 := (hsE.cell 12 (by simp [all14])).2
                have sl12 := (hsE.cell 12 (by simp [all14])).1
                simp only [gOf, sent] at s12 sl12
                have HN := Lib.hid (show ckF p vs f = 12 by rw [hck.out, if_neg (by rw [dec_f (fun h => HNo.out ((core_iff HS2.out).1 h.2).2.1)]; simp)])
                have HG := Lib.hid HG4.out
                have HIE := Lib.hid HI4.out
                go_wp2
                exact HP.out _ 12 _ HN.out HIE.out (fun b h => .inl h) (fun b h => h.elim .inl (fun h => .inr h.1)) HG.out
end Go.Proofs.YtjjmpfmhggcjiaaGreatDoor
