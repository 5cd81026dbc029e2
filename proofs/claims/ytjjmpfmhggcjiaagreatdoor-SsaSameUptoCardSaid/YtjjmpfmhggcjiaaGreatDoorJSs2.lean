/-
 Vr9, Ss1, Ss2.
-/
import Derived.Test.YtjjmpfmhggcjiaaGreatDoorJVr8
import Derived.Test.YtjjmpfmhggcjiaaGreatDoorJSrLaw
set_option linter.unusedSimpArgs false
set_option linter.unusedVariables false
namespace Go.Proofs.YtjjmpfmhggcjiaaGreatDoor
open Go.RowKit Go.Maps
set_option maxRecDepth 100000 in
set_option maxHeartbeats 4000000 in
theorem program_any {S : Nat → Prop} {gv : Nat} {p : Prg} {vs : List Vs} (w : World) (hI : InfoG w S gv p vs) (hc : p.classes.length ≤ 1000) (hm : p.methods.length ≤ 1000) (hcode : ∀ k, k < p.methods.length → (p.methods.getD k default).code.length ≤ 1000) :
 Calls Tryz.prog 40 #[.pointer (some ⟨gv, 0, none⟩)] w (CopyPost w p) := by
 obtain ⟨Ac, cc, Am, cm, Al, cl, cnt, hI⟩ := hI
 have hlv := hI.blk.lt
 have hb1 := (Below.refl w.heap.size w).alloc (Nat.le_refl _) (.cells #[.slice none 0 0, .slice none 0 0] 25)
 have bV := hI.blk.alloc (.cells #[.slice none 0 0, .slice none 0 0] 25)
 have bR := Blk.new w 25 #[.slice none 0 0, .slice none 0 0]
 have hcp := copied_any Ac Am cc cm p (w.alloc (.cells #[.slice none 0 0, .slice none 0 0] 25)) ((hI.prg.keep (Kept.of_below hb1 (fun b hs => (hI.lt b hs).1))).rd (fun b hs => Nat.lt_of_lt_of_le (hI.lt b hs).1 hb1.size)) hc hm hcode
 have Hcp := Lib.hid hcp
 have v0 := bV.at0
 have v1 := bV.at1
 clear hcp hI bV
 go_enter Tryz.func40, Tryz.ntmps40
 go_wp2_with fail
 refine Hcp.out.mono ?_
 rintro e w2 ⟨Ac2, cc2, Am2, cm2, rfl, hps, hb2⟩
 have bR2 := bR.below hb2 bR.lt
 have hz2 := hb2.size
 have x0 := bR2.at0
 have x1 := bR2.at1
 have f0 := bR2.frozen 0
 have f1 := bR2.frozen 1
 have lr := bR2.lt
 have hbb := hb1.trans (hb2.mono hb1.size)
 have hzz : w.heap.size + 1 ≤ w2.heap.size := by simpa using hz2
 have HA := Lib.hid (show RdPS w2 (fun b => w.heap.size + 1 ≤ b ∧ b < w2.heap.size) Ac2 Am2 p from hps.more (fun b h => ⟨by simpa using h.1, h.2⟩))
 clear Hcp hb1 hb2 v0 v1 hps bR hz2
 go_wp2
 have e2 : Blk ((w2.setCell ⟨w.heap.size, 0, none⟩ (.slice Ac2 p.classes.length cc2)).setCell ⟨w.heap.size, 1, none⟩ (.slice Am2 p.methods.length cm2)) w.heap.size 25 #[.slice Ac2 p.classes.length cc2, .slice Am2 p.methods.length cm2] := by simpa using (bR2.set_ 0 (.slice Ac2 p.classes.length cc2)).set_ 1 (.slice Am2 p.methods.length cm2)
 have q0 := e2.at0
 have q1 := e2.at1
 refine bodyPost_ret (v := .agg #[.slice Ac2 p.classes.length cc2, .slice Am2 p.methods.length cm2]) (by simp [results, Tryz.results40, go_sem, q0, q1]) rfl ?_
 have hKz : Kept (fun b => w.heap.size + 1 ≤ b ∧ b < w2.heap.size) w2 ((w2.setCell ⟨w.heap.size, 0, none⟩ (.slice Ac2 p.classes.length cc2)).setCell ⟨w.heap.size, 1, none⟩ (.slice Am2 p.methods.length cm2)) := ((Kept.refl _ w2).set (fun h => absurd h.1 (by show ¬ w.heap.size + 1 ≤ w.heap.size; omega)) _).set (fun h => absurd h.1 (by show ¬ w.heap.size + 1 ≤ w.heap.size; omega)) _
 exact ⟨Ac2, cc2, Am2, cm2, rfl, (HA.out.keep hKz).more (fun b h => ⟨by omega, by simpa using h.2⟩), (hbb.setCell (by show w.heap.size ≤ w.heap.size; omega) _).setCell (by show w.heap.size ≤ w.heap.size; omega) _⟩
end Go.Proofs.YtjjmpfmhggcjiaaGreatDoor
namespace Go.Proofs.YtjjmpfmhggcjiaaGreatDoor
open Go.RowKit Go.Maps
theorem ssaIn_any (i : Int) (n : Nat) (w : World) : Calls Tryz.prog 86 #[.int .i64 i, .int .i64 n] w fun e w' => e = .returned (.bool (inB i n)) ∧ w = w' := by
 by_cases h0 : 0 ≤ i
 · by_cases h1 : i < n
   · have hb : inB i n = true := by unfold inB; simp [h0, h1]
     rw [hb]
     go_enter Tryz.func86, Tryz.ntmps86
     go_wp2
     go_ret
     exact ⟨rfl, rfl⟩
   · have hb : inB i n = false := by unfold inB; simp [h0, h1]
     rw [hb]
     go_enter Tryz.func86, Tryz.ntmps86
     go_wp2
     go_ret
     exact ⟨rfl, rfl⟩
 · have hb : inB i n = false := by unfold inB; simp [h0]
   rw [hb]
   go_enter Tryz.func86, Tryz.ntmps86
   go_wp2
   go_ret
   exact ⟨rfl, rfl⟩
theorem ret_ib {a a' : Int} {b b' : Bool} (h1 : a = a') (h2 : b = b') : Ending.returned (.tuple #[.int .i64 a, .bool b]) = .returned (.tuple #[.int .i64 a', .bool b']) := by rw [h1, h2]
theorem ends_any (op : Int) (w : World) : Calls Tryz.prog 89 #[.int .i64 op] w fun e w' => e = .returned (.tuple #[.int .i64 (((endsF op).getD 0 : Nat) : Int), .bool (endsF op).isSome]) ∧ w = w' := by
 by_cases h1 : op = 47
 · subst h1
   go_enter Tryz.func89, Tryz.ntmps89
   go_wp2
   go_ret2
   exact ⟨rfl, rfl⟩
 · by_cases h2 : op = 45
   · subst h2
     go_enter Tryz.func89, Tryz.ntmps89
     go_wp2
     go_ret2
     exact ⟨rfl, rfl⟩
   · by_cases h3 : op = 46
     · subst h3
       go_enter Tryz.func89, Tryz.ntmps89
       go_wp2
       go_ret2
       exact ⟨rfl, rfl⟩
     · have hE : endsF op = none := by unfold endsF; rw [if_neg h1, if_neg h2, if_neg h3]
       have HE := Lib.hid hE
       have e1 : (op == 47) = false := by simpa using h1
       have e2 : (op == 45) = false := by simpa using h2
       have e3 : (op == 46) = false := by simpa using h3
       clear hE
       go_enter Tryz.func89, Tryz.ntmps89
       go_wp2
       go_ret2
       exact ⟨ret_ib (by rw [HE.out]; rfl) (by rw [HE.out]; rfl), rfl⟩
/-- The checker in memory. -/
structure ChkAt (w : World) (S : Nat → Prop) (gc gv : Nat) (p : Prg) (vs : List Vs) (f : Fn) (Ac : Option Addr) (cc : Nat) (Am : Option Addr) (cm : Nat) (An : Option Addr) (cn : Nat) (Ab : Option Addr) (cb : Nat) (As : Option Addr) (cs : Nat) (bv qv tv lv dv : Value) : Prop where
 blk : Blk w gc 112 #[.pointer (some ⟨gv, 0, none⟩), .slice Ac p.classes.length cc, .slice Am p.methods.length cm, .int .i64 f.mth, .int .i64 f.entry, .slice An f.nodes.length cn, .slice Ab f.blocks.length cb, .slice As f.states.length cs, bv, qv, tv, lv, dv]
 prg : RdPS w S Ac Am p
 fn : RdF w S An Ab As f
 inf : InfoG w S gv p vs
 lt : ∀ b, S b → b < w.heap.size ∧ b ≠ gc ∧ b ≠ gv
 gv : gv < w.heap.size ∧ gv ≠ gc
 cap : f.nodes.length ≤ cn
def Chk (w : World) (S : Nat → Prop) (gc gv : Nat) (p : Prg) (vs : List Vs) (f : Fn) (bv qv tv lv dv : Value) : Prop := ∃ Ac cc Am cm An cn Ab cb As cs, ChkAt w S gc gv p vs f Ac cc Am cm An cn Ab cb As cs bv qv tv lv dv
theorem InfoG.kb {w w' : World} {S : Nat → Prop} {gv : Nat} {p : Prg} {vs : List Vs} (h : InfoG w S gv p vs) (hk : KB (fun b => S b ∨ b = gv) w w') (hz : w.heap.size ≤ w'.heap.size) : InfoG w' S gv p vs := by
 obtain ⟨Ac, cc, Am, cm, Al, cl, cnt, h⟩ := h
 have hk' : Kept S w w' := (hk.sub (fun b hb => .inl hb)).kept
 exact ⟨Ac, cc, Am, cm, Al, cl, cnt, h.blk.kb hk (.inr rfl), h.prg.keep hk', h.inf.keep hk', fun b hs => ⟨Nat.lt_of_lt_of_le (h.lt b hs).1 hz, (h.lt b hs).2⟩⟩
section
variable {w w' : World} {S : Nat → Prop} {gc gv : Nat} {p : Prg} {vs : List Vs} {f : Fn} {bv qv tv lv dv : Value}
/-- All that it reads stays. -/
theorem Chk.kb (h : Chk w S gc gv p vs f bv qv tv lv dv) (hk : KB (fun b => S b ∨ b = gv ∨ b = gc) w w') (hz : w.heap.size ≤ w'.heap.size) : Chk w' S gc gv p vs f bv qv tv lv dv := by
 obtain ⟨Ac, cc, Am, cm, An, cn, Ab, cb, As, cs, h⟩ := h
 have hk' : Kept S w w' := (hk.sub (fun b hb => .inl hb)).kept
 exact ⟨Ac, cc, Am, cm, An, cn, Ab, cb, As, cs, h.blk.kb hk (.inr (.inr rfl)), h.prg.keep hk', h.fn.keep hk', h.inf.kb (hk.sub (fun b hb => hb.elim .inl (fun h => .inr (.inl h)))) hz, fun b hs => ⟨Nat.lt_of_lt_of_le (h.lt b hs).1 hz, (h.lt b hs).2⟩, ⟨Nat.lt_of_lt_of_le h.gv.1 hz, h.gv.2⟩, h.cap⟩
theorem Chk.below (h : Chk w S gc gv p vs f bv qv tv lv dv) (hb : Below w.heap.size w w') : Chk w' S gc gv p vs f bv qv tv lv dv := by
 refine h.kb (KB.of_below hb ?_) hb.size
 obtain ⟨Ac, cc, Am, cm, An, cn, Ab, cb, As, cs, h⟩ := h
 rintro b (hs | rfl | rfl)
 · exact (h.lt b hs).1
 · exact h.gv.1
 · exact h.blk.lt
/-- The counter alone turns. -/
theorem Chk.asked (h : Chk w S gc gv p vs f bv qv tv lv dv) (hg : w.grownBy w' (some gv)) (hI : InfoG w' S gv p vs) : Chk w' S gc gv p vs f bv qv tv lv dv := by
 obtain ⟨Ac, cc, Am, cm, An, cn, Ab, cb, As, cs, h⟩ := h
 have hk' : Kept S w w' := Kept.grown (Kept.refl S w) hg (fun b hb => (h.lt b hb).1) (fun b hb e => (h.lt b hb).2.2 (Option.some.inj e))
 exact ⟨Ac, cc, Am, cm, An, cn, Ab, cb, As, cs, h.blk.grown hg (fun e => h.gv.2 (Option.some.inj e).symm), h.prg.keep hk', h.fn.keep hk', hI, fun b hs => ⟨Nat.lt_of_lt_of_le (h.lt b hs).1 hg.size, (h.lt b hs).2⟩, ⟨Nat.lt_of_lt_of_le h.gv.1 hg.size, h.gv.2⟩, h.cap⟩
end
end Go.Proofs.YtjjmpfmhggcjiaaGreatDoor
namespace Go.Proofs.YtjjmpfmhggcjiaaGreatDoor
open Go.RowKit Go.Maps
theorem ssaIn_same (i : Int) (n : Nat) (w : World) : Calls Tryz.prog 86 #[.int .i64 i, .int .i64 n] w fun e w' => e = .returned (.bool (inB i n)) ∧ w' = w := (ssaIn_any i n w).mono fun _ _ ⟨h1, h2⟩ => ⟨h1, h2.symm⟩
theorem ssaIn_eq {i : Int} {n : Nat} {b : Bool} (h : inB i n = b) (w : World) : Calls Tryz.prog 86 #[.int .i64 i, .int .i64 n] w fun e w' => e = .returned (.bool b) ∧ w' = w := by subst h; exact ssaIn_same i n w
/-- The method and the entry may be. -/
def entryB (p : Prg) (vs : List Vs) (f : Fn) : Bool := inB f.mth p.methods.length && ((stackF vs f.mth f.entry).2 && (decide (f.entry = 0) || (stackF vs f.mth f.entry).1.toList.isEmpty))
def EntryPost (w : World) (S : Nat → Prop) (gc gv : Nat) (p : Prg) (vs : List Vs) (f : Fn) (bv qv tv lv dv : Value) (e : Ending) (w' : World) : Prop := e = .returned (.bool (entryB p vs f)) ∧ Chk w' S gc gv p vs f bv qv tv lv dv ∧ w.grownBy w' (some gv)
set_option maxRecDepth 100000 in
set_option maxHeartbeats 4000000 in
theorem entry_any {w : World} {S : Nat → Prop} {gc gv : Nat} {p : Prg} {vs : List Vs} {f : Fn} {bv qv tv lv dv : Value} (hvs : vs.length = p.methods.length) (hsz : ∀ i, i < vs.length → (vs.getD i default).stacks.length = (vs.getD i default).seen.length) (hC : Chk w S gc gv p vs f bv qv tv lv dv) :
 Calls Tryz.prog 41 #[.pointer (some ⟨gc, 0, none⟩)] w (EntryPost w S gc gv p vs f bv qv tv lv dv) := by
 have hPP : ∀ b w', entryB p vs f = b → Chk w' S gc gv p vs f bv qv tv lv dv → w.grownBy w' (some gv) → EntryPost w S gc gv p vs f bv qv tv lv dv (.returned (.bool b)) w' := fun b w' h1 h2 h3 => ⟨by rw [h1], h2, h3⟩
 have HP := Lib.hid hPP
 clear hPP
 generalize hpost : EntryPost w S gc gv p vs f bv qv tv lv dv = Post at *
 clear hpost
 have hC0 := hC
 obtain ⟨Ac, cc, Am, cm, An, cn, Ab, cb, As, cs, hC⟩ := hC
 have bC := hC.blk
 have c2 := bC.at2
 have c0 := bC.at0
 have c3 := bC.at3
 have c4 : w.cell? ⟨gc, 4, none⟩ = some (.int .i64 f.entry) := bC.cell 4
 have Hst := Lib.hid (fun W hI => stack_any (S := S) (gv := gv) hvs hsz f.mth f.entry W hI)
 have HC := Lib.hid hC
 have HC0 := Lib.hid hC0
 clear hC hC0 hsz hvs
 cases hi : inB f.mth p.methods.length with
 | false =>
   have HB := Lib.hid (show entryB p vs f = false by unfold entryB; rw [hi]; rfl)
   have Hi := Lib.hid hi
   clear hi
   go_enter Tryz.func41, Tryz.ntmps41
   go_wp2
   go_quiet ((go_at_call 86; exact Calls.quiet_of_same (ssaIn_eq Hi.out _)))
   rename Nat => q
   go_wp2
   exact HP.out _ _ HB.out (HC0.out.kb (fun _ _ => rfl) (Nat.le_refl _)) ⟨rfl, rfl, rfl, Nat.le_refl _, fun _ _ _ => rfl⟩
 | true =>
   have Hi := Lib.hid hi
   clear hi
   go_enter Tryz.func41, Tryz.ntmps41
   go_wp2
   go_quiet ((go_at_call 86; exact Calls.quiet_of_same (ssaIn_eq Hi.out _)))
   rename Nat => q
   go_upto_region 3 with (fail)
   have hI0 : InfoG (w.drewN q).drew S gv p vs := HC.out.inf.below ((Below.refl _ _) : Below w.heap.size w w) |>.below (⟨rfl, rfl, rfl, Nat.le_refl _, fun _ _ => rfl⟩ : Below w.heap.size w (w.drewN q).drew)
   have HI0 := Lib.hid hI0
   clear hI0
   refine wpJ_start (S := fun W => W.cell? ⟨gc, 0, none⟩ = some (.pointer (some ⟨gv, 0, none⟩)) ∧ W.cell? ⟨gc, 3, none⟩ = some (.int .i64 f.mth) ∧ W.cell? ⟨gc, 4, none⟩ = some (.int .i64 f.entry)) (fun _ => true) (by kernel_rfl) ⟨c0, c3, c4⟩ (fun HS => ?_)
   refine takeQ 0 19 rfl HS (.inl ⟨rfl, fun W hW => by obtain ⟨h0, h3, h4⟩ := hW; go_simp; rfl⟩) ?_
   simp only [pS]
   refine takeQ 1 20 rfl HS (.inl ⟨rfl, fun W hW => by obtain ⟨h0, h3, h4⟩ := hW; go_simp; rfl⟩) ?_
   simp only [pS]
   refine takeQ 2 21 rfl HS (.inl ⟨rfl, fun W hW => by obtain ⟨h0, h3, h4⟩ := hW; go_simp; rfl⟩) ?_
   simp only [pS]
   refine takeQ 3 22 rfl HS (.inl ⟨rfl, fun W hW => by obtain ⟨h0, h3, h4⟩ := hW; go_simp; rfl⟩) ?_
   simp only [pS]
   refine takeQ 4 23 rfl HS (.inl ⟨rfl, fun W hW => by obtain ⟨h0, h3, h4⟩ := hW; go_simp; rfl⟩) ?_
   simp only [pS]
   refine takeQ 5 24 rfl HS (.inl ⟨rfl, fun W hW => by obtain ⟨h0, h3, h4⟩ := hW; go_simp; rfl⟩) ?_
   simp only [pS]
   refine takeQ 6 25 rfl HS (.inl ⟨rfl, fun W hW => by obtain ⟨h0, h3, h4⟩ := hW; go_simp; rfl⟩) ?_
   simp only [pS]
   refine takeQ 7 26 rfl HS (.inl ⟨rfl, fun W hW => by obtain ⟨h0, h3, h4⟩ := hW; go_simp; rfl⟩) ?_
   simp only [pS]
   refine takeQ 8 27 rfl HS (.inl ⟨rfl, fun W hW => by obtain ⟨h0, h3, h4⟩ := hW; go_simp; rfl⟩) ?_
   simp only [pS]
   refine takeQ 9 28 rfl HS (.inl ⟨rfl, fun W hW => by obtain ⟨h0, h3, h4⟩ := hW; go_simp; rfl⟩) ?_
   simp only [pS]
   refine takeQ 10 29 rfl HS (.inl ⟨rfl, fun W hW => by obtain ⟨h0, h3, h4⟩ := hW; go_simp; rfl⟩) ?_
   simp only [pS]
   refine takeQ 11 30 rfl HS (.inl ⟨rfl, fun W hW => by obtain ⟨h0, h3, h4⟩ := hW; go_simp; rfl⟩) ?_
   simp only [pS]
   refine takeQ 12 31 rfl HS (.inl ⟨rfl, fun W hW => by obtain ⟨h0, h3, h4⟩ := hW; go_simp; rfl⟩) ?_
   simp only [pS]
   refine takeQ 13 32 rfl HS (.inl ⟨rfl, fun W hW => by obtain ⟨h0, h3, h4⟩ := hW; go_simp; rfl⟩) ?_
   simp only [pS]
   refine stepQ 14 rfl (fun K HK => ?_)
   go_simp
   refine (Hst.out _ HI0.out).mono ?_
   rintro e w2 ⟨rfl, hI2, hg2d⟩
   have hg2 : w.grownBy w2 (some gv) := ⟨hg2d.os, hg2d.tape, hg2d.output, hg2d.size, hg2d.block⟩
   have bC2 := bC.grown hg2 (fun e => HC.out.gv.2 (Option.some.inj e).symm)
   have d4 : w2.cell? ⟨gc, 4, none⟩ = some (.int .i64 f.entry) := bC2.cell 4
   have HS2 : w2.cell? ⟨gc, 0, none⟩ = some (.pointer (some ⟨gv, 0, none⟩)) ∧ w2.cell? ⟨gc, 3, none⟩ = some (.int .i64 f.mth) ∧ w2.cell? ⟨gc, 4, none⟩ = some (.int .i64 f.entry) := ⟨bC2.at0, bC2.at3, d4⟩
   refine HK.out _ _ (fun _ => HS2) ?_
   clear HK HS
   try simp only [pS]
   refine takeQ 15 18 rfl HS2 (.inl ⟨rfl, fun W hW => by go_simp; rfl⟩) ?_
   simp only [pS]
   refine takeQ 16 34 rfl HS2 (.inl ⟨rfl, fun W hW => by go_simp; rfl⟩) ?_
   simp only [pS]
   refine takeQ 17 35 rfl HS2 (.inl ⟨rfl, fun W hW => by go_simp; rfl⟩) ?_
   simp only [pS]
   refine takeQ 18 3 rfl HS2 (.inl ⟨rfl, fun W hW => by go_simp; rfl⟩) ?_
   simp only [pS]
   refine takeQ 19 4 rfl HS2 (.inl ⟨rfl, fun W hW => by go_simp; rfl⟩) ?_
   simp only [pS]
   refine wpAnyJ_done (by kernel_rfl) ?_ _
   have Hc2 := Lib.hid (HC0.out.asked hg2 hI2)
   have Hg2 := Lib.hid hg2
   have hB : entryB p vs f = ((stackF vs f.mth f.entry).2 && (decide (f.entry = 0) || (stackF vs f.mth f.entry).1.toList.isEmpty)) := by unfold entryB; rw [Hi.out]; rfl
   generalize stackF vs f.mth f.entry = sf at *
   obtain ⟨st, sb⟩ := sf
   simp only at hB
   have HB := Lib.hid hB
   clear hB hg2 hg2d hI2 HI0 bC bC2 HS2 c0 c2 c3 c4
   cases sb with
   | false =>
     go_wp2
     exact HP.out _ _ (by rw [HB.out]; rfl) Hc2.out Hg2.out
   | true =>
     by_cases h0 : f.entry = 0
     · have g0 : (f.entry == 0) = true := by simpa using h0
       have HB2 := Lib.hid (show entryB p vs f = true by rw [HB.out, decide_eq_true h0]; rfl)
       clear h0
       go_wp2
       exact HP.out _ _ HB2.out Hc2.out Hg2.out
     · have g0 : (f.entry == 0) = false := by simpa using h0
       have HB2 := Lib.hid (show entryB p vs f = st.toList.isEmpty by rw [HB.out, decide_eq_false h0]; rfl)
       clear h0
       go_wp2
       exact HP.out _ _ HB2.out Hc2.out Hg2.out
end Go.Proofs.YtjjmpfmhggcjiaaGreatDoor
