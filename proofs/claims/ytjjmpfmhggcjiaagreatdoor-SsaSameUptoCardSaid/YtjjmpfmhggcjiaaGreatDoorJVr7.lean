/-
 Vr7.
-/
import Derived.Test.YtjjmpfmhggcjiaaGreatDoorJPgFair
import Derived.Test.YtjjmpfmhggcjiaaGreatDoorJVr6
set_option linter.unusedSimpArgs false
set_option linter.unusedVariables false
namespace Go.Proofs.YtjjmpfmhggcjiaaGreatDoor
open Go.RowKit Go.Maps
instance : Inhabited Vs := ⟨⟨[], [], [], 0⟩⟩
theorem head_len {m : Mth} {b : Bool} (h : headBad m b = 0) : m.pa.size + m.lo.size ≤ 12 ∧ 0 < m.code.length ∧ m.code.length ≤ 120 := by
 unfold headBad at h
 by_cases hc : 12 < m.pa.size + m.lo.size ∨ m.code.length = 0 ∨ 120 < m.code.length
 · rw [if_pos hc] at h; cases h
 · omega
theorem ins_op {cl : List ByteArray} {nm l c : Nat} {x : Ins} (h : insBad cl nm l c x = 0) : 1 ≤ x.op ∧ x.op ≤ 35 := by
 unfold insBad at h
 by_cases hc : x.op < 1 ∨ 35 < x.op
 · rw [if_pos hc] at h; cases h
 · omega
/-- What is known of a method, in memory. -/
def viShape : Shape Vs where
 size := 3
 H := (Option Addr × Nat) × (Option Addr × Nat)
 cell s h := [.slice h.1.1 s.stacks.length h.1.2, .slice h.2.1 s.seen.length h.2.2, .int .i64 s.most]
 len _ _ := rfl
 inner S w s h := RdS w S 1 h.1.1 s.stacks.length (s.stacks.map Value.string) ∧ RdS w S 1 h.2.1 s.seen.length (s.seen.map Value.bool)
 keep h hk := ⟨h.1.keep hk, h.2.keep hk⟩
 more h hs := ⟨h.1.more hs, h.2.more hs⟩
theorem blk_rds {w : World} {g : Nat} {T : TypeId} {xs : List Value} (h : Blk w g T ⟨xs⟩) {S : Nat → Prop} {size n : Nat} (hl : xs.length = n * size) (hS : S g) : RdS w S size (some ⟨g, 0, none⟩) n xs :=
 ⟨hl, fun _ => ⟨g, 0, rfl, hS, fun j u hu => by rw [Nat.zero_add, h.cell]; simpa using hu⟩⟩
theorem infoVm : (Tryz.prog.info? 94).map (fun i => (i.zero, i.size, i.bytes)) = some (some (.agg #[.slice none 0 0, .slice none 0 0, .int .i64 0]), 3, 56) := by kernel_rfl
/-- The document's verifier comes through. -/
structure Ver (p : Prg) (vs : List Vs) : Prop where
 fair : mayP p = (0, [])
 len : vs.length = p.methods.length
 ver : ∀ i, i < p.methods.length → verM p (p.methods.getD i default) = some (vs.getD i default)
/-- What is known of a program, in memory. -/
structure InfoAt (w : World) (S : Nat → Prop) (gv : Nat) (Ac : Option Addr) (cc : Nat) (Am : Option Addr) (cm : Nat) (Al : Option Addr) (cl : Nat) (cnt : Int) (p : Prg) (vs : List Vs) : Prop where
 blk : Blk w gv 87 #[.slice Ac p.classes.length cc, .slice Am p.methods.length cm, .slice Al vs.length cl, .int .i64 cnt]
 prg : RdPS w S Ac Am p
 inf : RdL viShape w S Al vs
 lt : ∀ b, S b → b < w.heap.size ∧ b ≠ gv
def VerPost (w : World) (p : Prg) (vs : List Vs) (e : Ending) (w' : World) : Prop :=
 ∃ gv Ac cc Am cm Al cl, e = .returned (.tuple #[.pointer (some ⟨gv, 0, none⟩), .nilIface]) ∧ InfoAt w' (fun b => w.heap.size ≤ b ∧ b < w'.heap.size ∧ b ≠ gv) gv Ac cc Am cm Al cl 0 p vs ∧ w.heap.size ≤ gv ∧ Below w.heap.size w w'
set_option maxRecDepth 100000 in
set_option maxHeartbeats 8000000 in
theorem verOf_any (Ac Am : Option Addr) (cc cm : Nat) (p : Prg) (vs : List Vs) (w : World) (hr : RdP w w.heap.size Ac Am p) (hp : POk p) (hV : Ver p vs)
 (hmay : ∀ W, Below w.heap.size w W → Calls Tryz.prog 31 #[pv Ac cc Am cm p] W (fun e w' => e = .returned .nilIface ∧ Below W.heap.size W w')) :
 Calls Tryz.prog 11 #[pv Ac cc Am cm p] w (VerPost w p vs) := by
 have F := fair_of (p := p) (by rw [hV.fair])
 have hmany := F.many
 have Hmay := Lib.hid hmay
 have b1 := Blk.new w 25 #[.slice Ac p.classes.length cc, .slice Am p.methods.length cm]
 have hb1 := (Below.refl w.heap.size w).alloc (Nat.le_refl _) (.cells #[.slice Ac p.classes.length cc, .slice Am p.methods.length cm] 25)
 unfold manyP at hmany
 clear hmay
 go_enter Tryz.func11, Tryz.ntmps11
 go_wp2_with fail
 refine (Hmay.out _ hb1).mono ?_
 rintro e w1 ⟨rfl, hb⟩
 have b2 := b1.below hb b1.lt
 have hb2 := hb1.trans (hb.mono hb1.size)
 have y0 := b2.at0
 have y1 := b2.at1
 clear b1 hb1 hb
 go_wp2_with fail
 have hm12 : p.methods.length ≤ 12 := by omega
 have hcode : ∀ k, k < p.methods.length → (p.methods.getD k default).code.length ≤ 1000 := fun k hk => by have := (head_len (F.head k hk)).2.2; omega
 refine (copied_any Ac Am cc cm p w1 ((hr.below hb2 (Nat.le_refl _)).more hb2.size) (by omega) (by omega) hcode).mono ?_
 rintro e w2 ⟨Ac2, cc2, Am2, cm2, rfl, hps, hb12⟩
 have hb3 := hb2.trans (hb12.mono hb2.size)
 have hz21 := hb2.size
 clear y0 y1 b2 hb2
 have Hins := Lib.hid (fun i (hi : i < p.methods.length) k hk => ins_op (F.ins i hi k hk))
 have Hhead := Lib.hid (fun i (hi : i < p.methods.length) => head_len (F.head i hi))
 have Hfn := Lib.hid (fun i (hi : i < p.methods.length) => F.next hi)
 have HV := Lib.hid hV
 have hPP : ∀ gv Ac cc Am cm Al cl w', InfoAt w' (fun b => w.heap.size ≤ b ∧ b < w'.heap.size ∧ b ≠ gv) gv Ac cc Am cm Al cl 0 p vs → w.heap.size ≤ gv → Below w.heap.size w w' → VerPost w p vs (.returned (.tuple #[.pointer (some ⟨gv, 0, none⟩), .nilIface])) w' := fun gv Ac cc Am cm Al cl w' h1 h2 h3 => ⟨gv, Ac, cc, Am, cm, Al, cl, rfl, h1, h2, h3⟩
 have HP := Lib.hid hPP
 clear hPP hmany F hV hcode Hmay
 generalize VerPost w p vs = Post at *
 go_upto_region 5 with (fail)
 obtain ⟨gv, hgv⟩ : ∃ gv, gv = w2.heap.size := ⟨_, rfl⟩
 rw [← hgv]
 have bV4 := Blk.newAt (w := w2) (g := gv) hgv.symm 87 #[.slice Ac2 p.classes.length cc2, .slice Am2 p.methods.length cm2, .slice none 0 0, .int .i64 0]
 have hb4 := hb3.alloc hb3.size (.cells #[.slice Ac2 p.classes.length cc2, .slice Am2 p.methods.length cm2, .slice none 0 0, .int .i64 0] 87)
 have hps4 := (hps.keep (Kept.alloc (Kept.refl _ _) (fun b h => h.2) (.cells #[.slice Ac2 p.classes.length cc2, .slice Am2 p.methods.length cm2, .slice none 0 0, .int .i64 0] 87))).more (S' := fun b => w.heap.size ≤ b ∧ b < gv) (fun b h => ⟨by have := hb12.size; omega, by omega⟩)
 have hwv : w.heap.size ≤ gv := by have := hb3.size; omega
 clear hb3 hps hb12 hgv
 generalize w2.alloc (.cells #[.slice Ac2 p.classes.length cc2, .slice Am2 p.methods.length cm2, .slice none 0 0, .int .i64 0] 87) = w3 at *
 have y0 := bV4.at0
 have y1 := bV4.at1
 go_wp2
 go_loopw [26] (fun iv wr => ∃ (k : Nat) (A : Option Addr) (c : Nat) (hs : List ((Option Addr × Nat) × (Option Addr × Nat))), k ≤ p.methods.length ∧ iv = .int .i64 k ∧ Blk wr gv 87 #[.slice Ac2 p.classes.length cc2, .slice Am2 p.methods.length cm2, .slice A k c, .int .i64 0] ∧ Hid (hs.length = k) ∧ wr.ownsRow (gv + 1) 94 3 (.slice A k c) k (viShape.cells (vs.take k) hs) ∧ Hid (∀ (j : Nat) (s : Vs) (h : (Option Addr × Nat) × (Option Addr × Nat)), (vs.take k)[j]? = some s → hs[j]? = some h → viShape.inner (fun b => gv + 1 ≤ b ∧ b < wr.heap.size ∧ (Value.slice A k c).ownBlock ≠ some b) wr s h) ∧ Hid (KB (fun b => b < gv) w3 wr) ∧ Below w.heap.size w wr) (fun iv _ => p.methods.length - (intOf iv).toNat)
 case atStart => exact ⟨0, none, 0, [], Nat.zero_le _, rfl, bV4, Lib.hid rfl, World.ownsRow_nil _ _ _ _, Lib.hid (fun j s h e => by simp at e), Lib.hid (KB.refl _ _), hb4⟩
 case round =>
  clear bV4 hb4 y0 y1
  obtain ⟨k, A, c, hs, hk, rfl, bV, Hhs, own, Hin, K, hb⟩ := hrel
  have hps5 := hps4.keep (K.out.kept.sub (fun b h => h.2))
  by_cases hlt : k < p.methods.length
  · have k0 : (0 : Int) ≤ k := by omega
    have k1 : (k : Int) < p.methods.length := by omega
    have hrd := hps5.rd (B := gv) (fun b h => h.2)
    obtain ⟨bm, om, Ai, ci, hA2, hbm, m0, m1, m2, m3, hcd⟩ := mth_at hrd.ms hlt
    subst hA2
    have hlen := Hhead.out k hlt
    have Hcd := Lib.hid hcd
    have Hlk := Lib.hid (fun W (hW : Below w.heap.size w W) (hW2 : KB (fun b => b < gv) w3 W) (hz : gv < W.heap.size) => look_any Ac2 (some ⟨bm, om, none⟩) cc2 cm2 p k (p.methods.getD k default) Ai ci W ((((hps4.keep (hW2.kept.sub (fun b h => h.2))).rd (B := W.heap.size) (fun b h => by omega)))) hp hlt rfl (((Hcd.out.keep (fun q hq => ((hW2.kept q hq).trans (K.out.kept q hq).symm))).more (by omega))) (by omega) (by omega) (Hins.out k hlt) (by omega) (Hfn.out k hlt) (vs.getD k default) (HV.out.ver k hlt))
    have hver := Lib.hid (HV.out.len)
    generalize hmm : p.methods.getD k default = mm at *
    have Hmm := Lib.hid hmm
    generalize hsk : vs.getD k default = sk at *
    have Hsk := Lib.hid hsk
    clear hmm hsk hcd hps5 hrd
    have lm := Nat.lt_trans hbm bV.lt
    go_upto_region 8 with (fail)
    have bM6 := Blk.new wr 90 #[.string mm.pa, .string mm.lo, .string mm.re, .slice Ai mm.code.length ci]
    have bV6 := bV.alloc (.cells #[.string mm.pa, .string mm.lo, .string mm.re, .slice Ai mm.code.length ci] 90)
    have hb6 := hb.alloc hb.size (.cells #[.string mm.pa, .string mm.lo, .string mm.re, .slice Ai mm.code.length ci] 90)
    have K6 := Lib.hid (K.out.alloc (fun b h => Nat.lt_trans h bV.lt) (.cells #[.string mm.pa, .string mm.lo, .string mm.re, .slice Ai mm.code.length ci] 90))
    have own6 := own.alloc (.cells #[.string mm.pa, .string mm.lo, .string mm.re, .slice Ai mm.code.length ci] 90)
    have Kin := Lib.hid (show KB (fun b => b < wr.heap.size) wr (wr.alloc (.cells #[.string mm.pa, .string mm.lo, .string mm.re, .slice Ai mm.code.length ci] 90)) from (KB.refl _ _).alloc (fun b h => h) _)
    have hzr : gv < wr.heap.size := bV.lt
    obtain ⟨g6, hg6⟩ : ∃ g6, g6 = wr.heap.size := ⟨_, rfl⟩
    rw [← hg6] at bM6 hzr ⊢
    have Hg6 := Lib.hid hg6
    have Olt := Lib.hid own.lt
    clear hg6 m0 m1 m2 m3 bV own K hb
    generalize wr.alloc (.cells #[.string mm.pa, .string mm.lo, .string mm.re, .slice Ai mm.code.length ci] 90) = w6 at *
    have Hl6 := Lib.hid (fun W (hW : Below w6.heap.size w6 W) => Hlk.out W (hb6.trans (hW.mono hb6.size)) (K6.out.below hW (fun b h => by have := bV6.lt; omega)) (Nat.lt_of_lt_of_le bV6.lt hW.size))
    go_cut [8, 9, 10] from 31 to 41 (fun v8 v9 v10 wx => ∃ gm gs ge, v8 = .pointer (some ⟨gm, 0, none⟩) ∧ v9 = .int .i64 0 ∧ v10 = .nilIface ∧ Blk wx gm 94 #[.slice (some ⟨gs, 0, none⟩) mm.code.length mm.code.length, .slice (some ⟨ge, 0, none⟩) mm.code.length mm.code.length, .int .i64 sk.most] ∧ Blk wx gs 9 ⟨sk.stacks.map Value.string⟩ ∧ Blk wx ge 4 ⟨sk.seen.map Value.bool⟩ ∧ w6.heap.size ≤ gs ∧ w6.heap.size ≤ ge ∧ w6.heap.size ≤ gm ∧ gs ≠ gm ∧ ge ≠ gm ∧ Below w6.heap.size w6 wx)
    case first =>
     refine wpJ_start (S := Below w6.heap.size w6) (fun _ => true) (by kernel_rfl) (Below.refl _ _).drew (fun HS => ?_)
     refine takeQ 0 32 rfl HS (.inl ⟨rfl, fun W hW => by go_simp; rfl⟩) ?_
     simp only [pS]
     refine takeQ 1 33 rfl HS (.inl ⟨rfl, fun W hW => by go_simp; rfl⟩) ?_
     simp only [pS]
     refine takeQ 2 34 rfl HS (.inl ⟨rfl, fun W hW => by go_simp; rfl⟩) ?_
     simp only [pS]
     refine takeQ 3 35 rfl HS (.inl ⟨rfl, fun W hW => by have hc0 := (bV6.below hW bV6.lt).at0; have hc1 := (bV6.below hW bV6.lt).at1; go_simp; rfl⟩) ?_
     simp only [pS]
     refine takeQ 4 36 rfl HS (.inl ⟨rfl, fun W hW => by go_simp; rfl⟩) ?_
     simp only [pS]
     refine takeQ 5 37 rfl HS (.inl ⟨rfl, fun W hW => by have hc0 := (bM6.below hW bM6.lt).at0; have hc1 := (bM6.below hW bM6.lt).at1; have hc2 := (bM6.below hW bM6.lt).at2; have hc3 := (bM6.below hW bM6.lt).at3; go_simp; rfl⟩) ?_
     simp only [pS]
     refine twoH 6 11 (by kernel_rfl) (by kernel_rfl) (by kernel_rfl) (fun oi h K hK => ?_) (fun oi h K hK => ?_)
     · -- the call first
       simp only [List.getElem?_toArray, List.getElem?_cons_zero, List.getElem?_cons_succ, Option.some.injEq] at h
       subst h
       have HK := Lib.hid hK
       clear hK
       go_simp
       refine (Hl6.out w6.drew (Below.refl _ _).drew).mono ?_
       rintro e w7 ⟨gs, ge, rfl, bS7, bE7, ls7, le7, hb67d⟩
       have hb67 : Below w6.heap.size w6 w7 := (Below.refl _ _).drew.trans hb67d
       refine HK.out _ _ (fun _ => hb67) ?_
       clear HK HS
       refine takeQ 7 31 rfl hb67 (.inl ⟨rfl, fun W hW => by go_simp; rfl⟩) ?_
       simp only [pS]
       refine takeQ 8 39 rfl hb67 (.inl ⟨rfl, fun W hW => by go_simp; rfl⟩) ?_
       simp only [pS]
       refine takeQ 9 40 rfl hb67 (.inl ⟨rfl, fun W hW => by go_simp; rfl⟩) ?_
       simp only [pS]
       refine takeQ 10 41 rfl hb67 (.inl ⟨rfl, fun W hW => by go_simp; rfl⟩) ?_
       simp only [pS]
       refine stepQ 11 rfl (fun K HK => ?_)
       go_simp
       have bG := Blk.new w7 94 #[.slice none 0 0, .slice none 0 0, .int .i64 0]
       have bS8 := bS7.alloc (.cells #[.slice none 0 0, .slice none 0 0, .int .i64 0] 94)
       have bE8 := bE7.alloc (.cells #[.slice none 0 0, .slice none 0 0, .int .i64 0] 94)
       have hb8 := hb67.alloc hb67.size (.cells #[.slice none 0 0, .slice none 0 0, .int .i64 0] 94)
       have n1 : gs ≠ w7.heap.size := Nat.ne_of_lt bS7.lt
       have n2 : ge ≠ w7.heap.size := Nat.ne_of_lt bE7.lt
       have lg : w6.heap.size ≤ w7.heap.size := hb67.size
       refine HK.out _ _ (fun _ => hb8) ?_
       clear HK bS7 bE7
       obtain ⟨gm, hgm⟩ : ∃ gm, gm = w7.heap.size := ⟨_, rfl⟩
       rw [← hgm] at bG n1 n2 lg ⊢
       clear hgm
       generalize w7.alloc (.cells #[.slice none 0 0, .slice none 0 0, .int .i64 0] 94) = w8 at *
       try simp only [pS]
       have x0 := bG.at0
       have x1 := bG.at1
       have x2 := bG.at2
       have f0 := bG.frozen 0
       have f1 := bG.frozen 1
       have f2 := bG.frozen 2
       have lG := bG.lt
       refine stepQ 12 rfl (fun K HK => ?_)
       go_simp
       have bG9 := (((bG.set_ 0 (.slice (some ⟨gs, 0, none⟩) mm.code.length mm.code.length)).set_ 1 (.slice (some ⟨ge, 0, none⟩) mm.code.length mm.code.length)).set_ 2 (.int .i64 sk.most))
       have bS9 := (((bS8.far (p := ⟨gm, 0, none⟩) n1 (.slice (some ⟨gs, 0, none⟩) mm.code.length mm.code.length)).far (p := ⟨gm, 1, none⟩) n1 (.slice (some ⟨ge, 0, none⟩) mm.code.length mm.code.length)).far (p := ⟨gm, 2, none⟩) n1 (.int .i64 sk.most))
       have bE9 := (((bE8.far (p := ⟨gm, 0, none⟩) n2 (.slice (some ⟨gs, 0, none⟩) mm.code.length mm.code.length)).far (p := ⟨gm, 1, none⟩) n2 (.slice (some ⟨ge, 0, none⟩) mm.code.length mm.code.length)).far (p := ⟨gm, 2, none⟩) n2 (.int .i64 sk.most))
       have hb9 := ((hb8.setCell (p := ⟨gm, 0, none⟩) (by show w6.heap.size ≤ gm; omega) (.slice (some ⟨gs, 0, none⟩) mm.code.length mm.code.length)).setCell (p := ⟨gm, 1, none⟩) (by show w6.heap.size ≤ gm; omega) (.slice (some ⟨ge, 0, none⟩) mm.code.length mm.code.length)).setCell (p := ⟨gm, 2, none⟩) (by show w6.heap.size ≤ gm; omega) (.int .i64 sk.most)
       refine HK.out _ _ (fun _ => hb9) ?_
       clear HK x0 x1 x2 f0 f1 f2
       try simp only [pS]
       refine takeQ 13 9 rfl hb9 (.inl ⟨rfl, fun W hW => by go_simp; rfl⟩) ?_
       simp only [pS]
       refine takeQ 14 10 rfl hb9 (.inl ⟨rfl, fun W hW => by go_simp; rfl⟩) ?_
       simp only [pS]
       refine wpAnyJ_done (by kernel_rfl) ?_ _
       go_wp2_with fail
       go_meet
       exact ⟨gm, gs, ge, rfl, rfl, rfl, by simpa using bG9, bS9, bE9, ls7, le7, lg, n1, n2, hb9⟩
     · -- the variable first
       simp only [List.getElem?_toArray, List.getElem?_cons_zero, List.getElem?_cons_succ, Option.some.injEq] at h
       subst h
       have HK := Lib.hid hK
       clear hK
       go_simp
       have bG0 := Blk.new w6 94 #[.slice none 0 0, .slice none 0 0, .int .i64 0]
       have hbA := (Below.refl w6.heap.size w6).alloc (Nat.le_refl _) (.cells #[.slice none 0 0, .slice none 0 0, .int .i64 0] 94)
       refine HK.out _ _ (fun _ => hbA.drew) ?_
       clear HK HS
       try simp only [pS]
       refine stepQ 6 rfl (fun K HK => ?_)
       go_simp
       refine (Hl6.out (w6.alloc (.cells #[.slice none 0 0, .slice none 0 0, .int .i64 0] 94)).drew hbA.drew).mono ?_
       rintro e w7 ⟨gs, ge, rfl, bS8, bE8, ls7', le7', hb67d⟩
       have ls8 : w6.heap.size + 1 ≤ gs := by have := ls7'; simp at this; omega
       have le8 : w6.heap.size + 1 ≤ ge := by have := le7'; simp at this; omega
       have hb67 : Below w6.heap.size w6 w7 := hbA.trans (((Below.refl _ _).drew.trans hb67d).mono (by simp))
       have bG : Blk w7 w6.heap.size 94 #[.slice none 0 0, .slice none 0 0, .int .i64 0] := bG0.below ((Below.refl _ _).drew.trans hb67d) (by simp)
       refine HK.out _ _ (fun _ => hb67) ?_
       clear HK ls7' le7' hb67d hbA bG0
       have ls7 : w6.heap.size ≤ gs := by omega
       have le7 : w6.heap.size ≤ ge := by omega
       have lg : w6.heap.size ≤ w6.heap.size := Nat.le_refl _
       have n1 : gs ≠ w6.heap.size := by omega
       have n2 : ge ≠ w6.heap.size := by omega
       have hb8 := hb67
       have HG := Lib.hid ls8
       clear ls8 le8
       try simp only [pS]
       refine takeQ 7 31 rfl hb67 (.inl ⟨rfl, fun W hW => by go_simp; rfl⟩) ?_
       simp only [pS]
       refine takeQ 8 39 rfl hb67 (.inl ⟨rfl, fun W hW => by go_simp; rfl⟩) ?_
       simp only [pS]
       refine takeQ 9 40 rfl hb67 (.inl ⟨rfl, fun W hW => by go_simp; rfl⟩) ?_
       simp only [pS]
       refine takeQ 10 41 rfl hb67 (.inl ⟨rfl, fun W hW => by go_simp; rfl⟩) ?_
       simp only [pS]
       have x0 := bG.at0
       have x1 := bG.at1
       have x2 := bG.at2
       have f0 := bG.frozen 0
       have f1 := bG.frozen 1
       have f2 := bG.frozen 2
       have lG := bG.lt
       refine stepQ 12 rfl (fun K HK => ?_)
       go_simp
       have bG9 := (((bG.set_ 0 (.slice (some ⟨gs, 0, none⟩) mm.code.length mm.code.length)).set_ 1 (.slice (some ⟨ge, 0, none⟩) mm.code.length mm.code.length)).set_ 2 (.int .i64 sk.most))
       have bS9 := (((bS8.far (p := ⟨w6.heap.size, 0, none⟩) n1 (.slice (some ⟨gs, 0, none⟩) mm.code.length mm.code.length)).far (p := ⟨w6.heap.size, 1, none⟩) n1 (.slice (some ⟨ge, 0, none⟩) mm.code.length mm.code.length)).far (p := ⟨w6.heap.size, 2, none⟩) n1 (.int .i64 sk.most))
       have bE9 := (((bE8.far (p := ⟨w6.heap.size, 0, none⟩) n2 (.slice (some ⟨gs, 0, none⟩) mm.code.length mm.code.length)).far (p := ⟨w6.heap.size, 1, none⟩) n2 (.slice (some ⟨ge, 0, none⟩) mm.code.length mm.code.length)).far (p := ⟨w6.heap.size, 2, none⟩) n2 (.int .i64 sk.most))
       have hb9 := ((hb8.setCell (p := ⟨w6.heap.size, 0, none⟩) (by show w6.heap.size ≤ w6.heap.size; omega) (.slice (some ⟨gs, 0, none⟩) mm.code.length mm.code.length)).setCell (p := ⟨w6.heap.size, 1, none⟩) (by show w6.heap.size ≤ w6.heap.size; omega) (.slice (some ⟨ge, 0, none⟩) mm.code.length mm.code.length)).setCell (p := ⟨w6.heap.size, 2, none⟩) (by show w6.heap.size ≤ w6.heap.size; omega) (.int .i64 sk.most)
       refine HK.out _ _ (fun _ => hb9) ?_
       clear HK x0 x1 x2 f0 f1 f2
       try simp only [pS]
       refine takeQ 13 9 rfl hb9 (.inl ⟨rfl, fun W hW => by go_simp; rfl⟩) ?_
       simp only [pS]
       refine takeQ 14 10 rfl hb9 (.inl ⟨rfl, fun W hW => by go_simp; rfl⟩) ?_
       simp only [pS]
       refine wpAnyJ_done (by kernel_rfl) ?_ _
       go_wp2_with fail
       go_meet
       exact ⟨w6.heap.size, gs, ge, rfl, rfl, rfl, by simpa using bG9, bS9, bE9, ls7, le7, lg, n1, n2, hb9⟩
    case rest =>
     obtain ⟨gm, gs, ge, rfl, rfl, rfl, bG, bS, bE, s1, s2, s3, n1, n2, hb67⟩ := hcut
     have hg6z : g6 + 1 ≤ w6.heap.size := by have := bM6.lt; omega
     have bV7 := bV6.below hb67 bV6.lt
     have own7 := own_below own6 hb67 (Nat.le_refl _)
     have hb7 := hb6.trans (hb67.mono hb6.size)
     have K7 := Lib.hid (K6.out.below hb67 (fun b h => by have := bV6.lt; omega))
     have Kin7 := Lib.hid (Kin.out.below hb67 (fun b h => by rw [← Hg6.out] at h; omega))
     have hgm := bG.lt
     have hgs := bS.lt
     have hge' := bE.lt
     have hv2 := bV7.lt
     clear bV6 own6 hb6 K6 Kin hb67 bM6
     have y2 := bV7.at2
     have x0 := bG.at0
     have x1 := bG.at1
     have x2 := bG.at2
     go_upto_region 11 with (fail)
     refine wpJ_start (S := fun W => W.cell? ⟨gv, 2, none⟩ = some (.slice A k c) ∧ W.cell? ⟨gm, 0, none⟩ = some (.slice (some ⟨gs, 0, none⟩) mm.code.length mm.code.length) ∧ W.cell? ⟨gm, 1, none⟩ = some (.slice (some ⟨ge, 0, none⟩) mm.code.length mm.code.length) ∧ W.cell? ⟨gm, 2, none⟩ = some (.int .i64 sk.most)) (fun j => !(j == 10)) (by kernel_rfl) ⟨y2, x0, x1, x2⟩ (fun HS => ?_)
     refine takeQ 0 50 rfl HS (.inl ⟨rfl, fun W hW => by obtain ⟨hW1, hW2, hW3, hW4⟩ := hW; go_simp; rfl⟩) ?_
     simp only [pS]
     refine takeQ 1 51 rfl HS (.inl ⟨rfl, fun W hW => by obtain ⟨hW1, hW2, hW3, hW4⟩ := hW; go_simp; rfl⟩) ?_
     simp only [pS]
     refine takeQ 2 52 rfl HS (.inl ⟨rfl, fun W hW => by obtain ⟨hW1, hW2, hW3, hW4⟩ := hW; go_simp; rfl⟩) ?_
     simp only [pS]
     refine takeQ 3 53 rfl HS (.inl ⟨rfl, fun W hW => by obtain ⟨hW1, hW2, hW3, hW4⟩ := hW; go_simp; rfl⟩) ?_
     simp only [pS]
     refine takeQ 4 54 rfl HS (.inl ⟨rfl, fun W hW => by obtain ⟨hW1, hW2, hW3, hW4⟩ := hW; go_simp; rfl⟩) ?_
     simp only [pS]
     refine takeQ 5 55 rfl HS (.inl ⟨rfl, fun W hW => by obtain ⟨hW1, hW2, hW3, hW4⟩ := hW; go_simp; rfl⟩) ?_
     simp only [pS]
     refine stepQ 6 rfl (fun K HK => ?_)
     go_simp
     have bN := Blk.new wc 94 #[.slice (some ⟨gs, 0, none⟩) mm.code.length mm.code.length, .slice (some ⟨ge, 0, none⟩) mm.code.length mm.code.length, .int .i64 sk.most]
     have bV8 := bV7.alloc (.cells #[.slice (some ⟨gs, 0, none⟩) mm.code.length mm.code.length, .slice (some ⟨ge, 0, none⟩) mm.code.length mm.code.length, .int .i64 sk.most] 94)
     have bG8 := bG.alloc (.cells #[.slice (some ⟨gs, 0, none⟩) mm.code.length mm.code.length, .slice (some ⟨ge, 0, none⟩) mm.code.length mm.code.length, .int .i64 sk.most] 94)
     have bS8 := bS.alloc (.cells #[.slice (some ⟨gs, 0, none⟩) mm.code.length mm.code.length, .slice (some ⟨ge, 0, none⟩) mm.code.length mm.code.length, .int .i64 sk.most] 94)
     have bE8 := bE.alloc (.cells #[.slice (some ⟨gs, 0, none⟩) mm.code.length mm.code.length, .slice (some ⟨ge, 0, none⟩) mm.code.length mm.code.length, .int .i64 sk.most] 94)
     have own8 := own7.alloc (.cells #[.slice (some ⟨gs, 0, none⟩) mm.code.length mm.code.length, .slice (some ⟨ge, 0, none⟩) mm.code.length mm.code.length, .int .i64 sk.most] 94)
     have hb8 := hb7.alloc hb7.size (.cells #[.slice (some ⟨gs, 0, none⟩) mm.code.length mm.code.length, .slice (some ⟨ge, 0, none⟩) mm.code.length mm.code.length, .int .i64 sk.most] 94)
     have K8 := Lib.hid (K7.out.alloc (fun b h => by omega) (.cells #[.slice (some ⟨gs, 0, none⟩) mm.code.length mm.code.length, .slice (some ⟨ge, 0, none⟩) mm.code.length mm.code.length, .int .i64 sk.most] 94))
     have Kin8 := Lib.hid (Kin7.out.alloc (fun b h => by rw [← Hg6.out] at h; omega) (.cells #[.slice (some ⟨gs, 0, none⟩) mm.code.length mm.code.length, .slice (some ⟨ge, 0, none⟩) mm.code.length mm.code.length, .int .i64 sk.most] 94))
     have hz8 : (wc.alloc (.cells #[.slice (some ⟨gs, 0, none⟩) mm.code.length mm.code.length, .slice (some ⟨ge, 0, none⟩) mm.code.length mm.code.length, .int .i64 sk.most] 94)).heap.size = wc.heap.size + 1 := by simp
     refine HK.out _ _ (fun _ => ⟨bV8.at2, bG8.at0, bG8.at1, bG8.at2⟩) ?_
     clear HK HS bV7 bG bS bE own7 hb7 K7 Kin7 y2 x0 x1 x2
     have Hz8 := Lib.hid hz8
     clear hz8
     try simp only [pS]
     refine stepQ 7 rfl (fun K HK => ?_)
     rw [if_pos (by rfl)]
     have hbase8 : gv + 1 ≤ (wc.alloc (.cells #[.slice (some ⟨gs, 0, none⟩) mm.code.length mm.code.length, .slice (some ⟨ge, 0, none⟩) mm.code.length mm.code.length, .int .i64 sk.most] 94)).heap.size := by have := Hz8.out; omega
     refine oper_append_row (.tmp 54) (.tmp 56) 80 rfl (gv + 1) 94 _ 3 56 Tryz.underlying80 infoVm rfl (by omega) A c k (viShape.cells (vs.take k) hs) rfl own8 wc.heap.size 1 1 94 [.slice (some ⟨gs, 0, none⟩) mm.code.length mm.code.length, .slice (some ⟨ge, 0, none⟩) mm.code.length mm.code.length, .int .i64 sk.most] rfl bN rfl (by intro u hu; simp at hu; rcases hu with rfl | rfl | rfl <;> rfl) (by unfold maxLen; omega) (by omega) hbase8 ?_
     intro A3 c3 w9 own9 hg9d hat9
     have hg9 : (wc.alloc (.cells #[.slice (some ⟨gs, 0, none⟩) mm.code.length mm.code.length, .slice (some ⟨ge, 0, none⟩) mm.code.length mm.code.length, .int .i64 sk.most] 94)).grownBy w9 (Value.slice A k c).ownBlock := ⟨hg9d.os, hg9d.tape, hg9d.output, hg9d.size, hg9d.block⟩
     have hat9' : (Value.slice A3 (k + 1) c3).ownBlock = (Value.slice A k c).ownBlock ∨ (Value.slice A3 (k + 1) c3).ownBlock = some (wc.heap.size + 1) := by
      rcases hat9 with h | h
      · exact .inl h
      · exact .inr (by rw [h]; exact congrArg some Hz8.out)
     clear hg9d hat9
     have hne : ∀ b, (b < gv + 1 ∨ wr.heap.size ≤ b) → (Value.slice A k c).ownBlock ≠ some b := fun b hb e => by
      have := Olt.out b e
      omega
     have hz9 := hg9.size
     rw [Hz8.out] at hz9
     have bV9 := bV8.grown hg9 (Ne.symm (hne gv (by omega)))
     have bG9 := bG8.grown hg9 (Ne.symm (hne gm (by have := Hg6.out; omega)))
     have bS9 := bS8.grown hg9 (Ne.symm (hne gs (by have := Hg6.out; omega)))
     have bE9 := bE8.grown hg9 (Ne.symm (hne ge (by have := Hg6.out; omega)))
     have hb9 := hb8.grown hg9 hb8.size (fun j hj => by have := (Olt.out j hj).1; omega)
     have K9 := Lib.hid (K8.out.grown hg9 (fun b h => by have := Hz8.out; omega) (fun b h e => hne b (.inl (by omega)) e.symm))
     have Kin9 := Lib.hid ((Kin8.out.sub (S' := fun b => b < wr.heap.size ∧ (Value.slice A k c).ownBlock ≠ some b) (fun b h => h.1)).grown hg9 (fun b h => by have := Hz8.out; have := Hg6.out; omega) (fun b h e => h.2 e.symm))
     have HS9 : w9.cell? ⟨gv, 2, none⟩ = some (.slice A k c) ∧ w9.cell? ⟨gm, 0, none⟩ = some (.slice (some ⟨gs, 0, none⟩) mm.code.length mm.code.length) ∧ w9.cell? ⟨gm, 1, none⟩ = some (.slice (some ⟨ge, 0, none⟩) mm.code.length mm.code.length) ∧ w9.cell? ⟨gm, 2, none⟩ = some (.int .i64 sk.most) := ⟨bV9.at2, bG9.at0, bG9.at1, bG9.at2⟩
     refine HK.out _ _ (fun _ => HS9) ?_
     clear HK
     simp only [pS]
     have yv := HS9.1
     have fv := bV9.frozen 2
     have lv9 := bV9.lt
     clear bV8 bG8 bS8 bE8 own8 hb8 K8 Kin8 bN
     refine stepQ 8 rfl (fun K HK => ?_)
     go_simp
     refine HK.out _ _ (fun _ => HS9) ?_
     clear HK
     try simp only [pS]
     refine takeQ 9 59 rfl HS9 (.inl ⟨rfl, fun W hW => by obtain ⟨hW1, hW2, hW3, hW4⟩ := hW; go_simp; rfl⟩) ?_
     simp only [pS]
     refine stepQ 10 rfl (fun K HK => ?_)
     clear HS9
     go_simp
     refine HK.out _ _ (fun h => by cases h) ?_
     clear HK
     refine wpAnyJ_done (by kernel_rfl) ?_ _
     have bVA := bV9.set_ 2 (.slice A3 (k + 1) c3)
     simp only [List.setIfInBounds_toArray, List.set_cons_zero, List.set_cons_succ] at bVA
     have ownA := own_keep own9 (grown_setCell w9 ⟨gv, 2, none⟩ (.slice A3 (k + 1) c3)) (.inl (blk_own_ne (g := gv) (Nat.lt_succ_self _) own9))
     have hbA := hb9.setCell (p := ⟨gv, 2, none⟩) hwv (.slice A3 (k + 1) c3)
     have KA := Lib.hid (K9.out.set (p := ⟨gv, 2, none⟩) (by simp) (.slice A3 (k + 1) c3))
     have KinA := Lib.hid ((Kin9.out.sub (S' := fun b => gv + 1 ≤ b ∧ b < wr.heap.size ∧ (Value.slice A k c).ownBlock ≠ some b) (fun b h => h.2)).set (p := ⟨gv, 2, none⟩) (fun h => absurd h.1 (by show ¬ gv + 1 ≤ gv; omega)) (.slice A3 (k + 1) c3))
     have bSA := bS9.far (p := ⟨gv, 2, none⟩) (by show gs ≠ gv; have := Hg6.out; omega) (.slice A3 (k + 1) c3)
     have bEA := bE9.far (p := ⟨gv, 2, none⟩) (by show ge ≠ gv; have := Hg6.out; omega) (.slice A3 (k + 1) c3)
     have hzA : (w9.setCell ⟨gv, 2, none⟩ (.slice A3 (k + 1) c3)).heap.size = w9.heap.size := by simp
     have HzA := Lib.hid hzA
     clear hzA yv fv lv9 bV9 bG9 bS9 bE9 hb9 K9 Kin9
     generalize w9.setCell ⟨gv, 2, none⟩ (.slice A3 (k + 1) c3) = wA at *
     go_wp2
     go_roundw
     case rel =>
      have hvk : vs[k]? = some sk := by
       have hkl : k < vs.length := by rw [hver.out]; exact hlt
       rw [List.getElem?_eq_getElem hkl, ← Hsk.out]
       simp [hkl]
      have hok : VOk p mm sk := verM_ok (Hmm.out ▸ Hfn.out k hlt) (by omega) (by have := HV.out.ver k hlt; rw [Hmm.out, Hsk.out] at this; exact this)
      have hvl := hver.out
      have hlk : (vs.take k).length = k := by simp; omega
      have htk : vs.take (k + 1) = vs.take k ++ [sk] := by rw [List.take_add_one, hvk]; rfl
      have hcs := cells_snoc viShape (l := vs.take k) (hs := hs) (by rw [hlk]; exact Hhs.out) sk ((some ⟨gs, 0, none⟩, mm.code.length), (some ⟨ge, 0, none⟩, mm.code.length))
      have hcell : viShape.cell sk ((some ⟨gs, 0, none⟩, mm.code.length), (some ⟨ge, 0, none⟩, mm.code.length)) = [.slice (some ⟨gs, 0, none⟩) mm.code.length mm.code.length, .slice (some ⟨ge, 0, none⟩) mm.code.length mm.code.length, .int .i64 sk.most] := by
       simp only [viShape, hok.l1, hok.l2]
      rw [hcell] at hcs
      refine ⟨k + 1, A3, c3, hs ++ [((some ⟨gs, 0, none⟩, mm.code.length), (some ⟨ge, 0, none⟩, mm.code.length))], by omega, by go_num, bVA, Lib.hid (by simp [Hhs.out]), ?_, Lib.hid ?_, KA, hbA⟩
      · rw [htk]
        exact (congrArg (fun xs => World.ownsRow wA (gv + 1) 94 3 (.slice A3 (k + 1) c3) (k + 1) xs) hcs).mpr ownA
      · intro j s h e1 e2
        rw [htk] at e1
        have hzz := HzA.out
        have hg6e := Hg6.out
        by_cases hj : j < k
        · rw [List.getElem?_append_left (by omega)] at e1
          rw [List.getElem?_append_left (by rw [Hhs.out]; exact hj)] at e2
          refine viShape.more (viShape.keep (Hin.out j s h e1 e2) KinA.out.kept) (fun b hb => ⟨hb.1, by omega, fun e => ?_⟩)
          rcases hat9' with h9 | h9
          · exact hb.2.2 (by rw [← h9]; exact e)
          · rw [h9] at e
            have := Option.some.inj e
            omega
        · have hjk : j = k := by
           have := (List.getElem?_eq_some_iff.1 e1).1
           simp [hlk] at this
           omega
          subst hjk
          rw [List.getElem?_append_right (by omega), hlk] at e1
          rw [List.getElem?_append_right (by rw [Hhs.out]; omega), Hhs.out] at e2
          simp at e1 e2
          subst e1 e2
          have hown9 : ∀ b, (Value.slice A3 (j + 1) c3).ownBlock = some b → b < wr.heap.size ∨ b = wc.heap.size + 1 := fun b e => by
           rcases hat9' with h9 | h9
           · exact .inl (Olt.out b (by rw [← h9]; exact e)).2
           · rw [h9] at e; exact .inr (Option.some.inj e).symm
          refine ⟨blk_rds bSA (by simp) ⟨by omega, by omega, fun e => ?_⟩, blk_rds bEA (by simp) ⟨by omega, by omega, fun e => ?_⟩⟩
          · rcases hown9 _ e with h | h <;> omega
          · rcases hown9 _ e with h | h <;> omega
     case measure => simp [intOf]; omega
  · have e : k = p.methods.length := by omega
    have hge : ¬ (k : Int) < p.methods.length := by omega
    have htk : vs.take k = vs := by rw [e, ← HV.out.len, List.take_length]
    have hkv : k = vs.length := by rw [e, HV.out.len]
    have Htk := Lib.hid htk
    have Hkv := Lib.hid hkv
    have HE := Lib.hid e
    clear hlt e htk hkv
    go_wp2
    have hlv := bV.lt
    refine HP.out gv Ac2 cc2 Am2 cm2 A c _ ⟨?_, ?_, ?_, ?_⟩ hwv hb
    · have := bV
      rw [Hkv.out] at this
      exact this
    · exact hps5.more (fun b h => ⟨h.1, by omega, by omega⟩)
    · have own' := own
      rw [Htk.out] at own'
      refine ⟨hs, Hhs.out.trans Hkv.out, ?_, fun j s h e1 e2 => ?_⟩
      · have r := rds_own own' (S := fun b => gv + 1 ≤ b ∧ b < wr.heap.size) (fun g _ h1 h2 => ⟨h1, h2⟩)
        rw [← Hkv.out]
        exact r.more (fun b h => ⟨by omega, h.2, by omega⟩)
      · exact viShape.more (Hin.out j s h (by rw [Htk.out]; exact e1) e2) (fun b h => ⟨by omega, h.2.1, by omega⟩)
    · exact fun b h => ⟨h.2.1, h.2.2⟩
end Go.Proofs.YtjjmpfmhggcjiaaGreatDoor
