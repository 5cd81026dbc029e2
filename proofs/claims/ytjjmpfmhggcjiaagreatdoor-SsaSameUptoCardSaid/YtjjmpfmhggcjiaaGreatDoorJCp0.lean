/-
 Rl3, Lw1, Lw0, Lw5, Lw6, Cp0.
-/
import Derived.Test.YtjjmpfmhggcjiaaGreatDoorJRl2
set_option linter.unusedSimpArgs false
set_option linter.unusedVariables false
namespace Go.Proofs.YtjjmpfmhggcjiaaGreatDoor
open Go.RowKit Go.Maps
theorem InfoG.widen {w : World} {S S2 : Nat → Prop} {gv : Nat} {p : Prg} {vs : List Vs} (h : InfoG w S gv p vs) (h1 : ∀ b, S b → S2 b) (h2 : ∀ b, S2 b → b < w.heap.size ∧ b ≠ gv) : InfoG w S2 gv p vs := by
 obtain ⟨Ac, cc, Am, cm, Al, cl, cnt, h⟩ := h
 exact ⟨Ac, cc, Am, cm, Al, cl, cnt, h.blk, h.prg.more h1, h.inf.more h1, h2⟩
/-- Of a function that is not much: what Check wants of its rows. -/
structure Small (f : Fn) : Prop where
 rows : ∀ b, b < f.blocks.length → (allN (bkAt f b)).length ≤ 1000000 ∧ (bkAt f b).succ.length ≤ 1000000 ∧ (bkAt f b).preds.length ≤ 1000000
 nds : ∀ i, i < f.nodes.length → (ndAt f i).kind.size ≤ 1000000 ∧ (ndAt f i).args.length ≤ 1000000
 st : ∀ i, i < f.nodes.length → (ndAt f i).st = -1
 few : ∀ i, i < f.nodes.length → FewOp (ndAt f i).op
def CheckPost (W : World) (a : Nat → Addr) (lo gv n : Nat) (e : Ending) (w' : World) : Prop :=
 e = .returned (errV a n) ∧ (∃ S', InfoG w' S' gv oneP oneVs ∧ ∀ b, S' b → lo ≤ b) ∧ W.grownBy w' (some gv)
theorem check_one {W : World} {a : Nat → Addr} {B : Nat} {S S2 : Nat → Prop} {lo gv : Nat} {f : Fn} {An Ab As : Option Addr} {cn : Nat} (cb cs : Nat) (hI : InfoG W S gv oneP oneVs) (hlo : ∀ b, S b → lo ≤ b) (hF : RdF W S2 An Ab As f) (hS2 : ∀ b, S2 b → lo ≤ b ∧ b < W.heap.size ∧ b ≠ gv) (hcap : f.nodes.length ≤ cn)
 (hf : Small f) (hs : Sent W B all14 a) (hBv : B ≤ gv) (hlW : lo ≤ W.heap.size) : Calls Tryz.prog 14 #[.pointer (some ⟨gv, 0, none⟩), fv An Ab As cn cb cs f] W (CheckPost W a lo gv (ckF oneP oneVs f)) := by
 have h0 : CkIn W (fun b => lo ≤ b ∧ b < W.heap.size ∧ b ≠ gv) gv oneP oneVs f An Ab As cn :=
  ⟨hI.widen (fun b h => ⟨hlo b h, hI.lt b h⟩) (fun b h => h.2), hF.more hS2, hcap, rfl, fun i hi => (by match i, hi with | 0, _ => rfl), ⟨by decide, fun k hk => (by simp [oneP] at hk)⟩, ⟨by decide, fun k hk => (by match k, hk with | 0, _ => exact ⟨by decide, by decide⟩)⟩, hf.rows, hf.nds⟩
 refine (check_any cb cs (of_few hf.few) h0 hs hBv hf.st).mono ?_
 rintro e w' ⟨h1, ⟨S', h2, h3, h4⟩, h5⟩
 exact ⟨h1, ⟨S', h2, fun b hb => by rcases h4 b hb with h | h <;> omega⟩, h5⟩
theorem one_small : Small oneFn := by
 refine ⟨fun b hb => ?_, fun i hi => ?_, fun i hi => ?_, fun i hi => ?_⟩
 · match b, hb with
   | 0, _ => exact ⟨by decide, by decide, by decide⟩
 · match i, hi with
   | 0, _ => exact ⟨by decide, by decide⟩
   | 1, _ => exact ⟨by decide, by decide⟩
 · match i, hi with
   | 0, _ => rfl
   | 1, _ => rfl
 · match i, hi with
   | 0, _ => exact (by decide : FewOp 1)
   | 1, _ => exact (by decide : FewOp 47)
theorem bad_small : Small badFn := by
 refine ⟨fun b hb => ?_, fun i hi => ?_, fun i hi => ?_, fun i hi => ?_⟩
 · match b, hb with
   | 0, _ => exact ⟨by decide, by decide, by decide⟩
 · match i, hi with
   | 0, _ => exact ⟨by decide, by decide⟩
   | 1, _ => exact ⟨by decide, by decide⟩
 · match i, hi with
   | 0, _ => rfl
   | 1, _ => rfl
 · match i, hi with
   | 0, _ => exact (by decide : FewOp 1)
   | 1, _ => exact (by decide : FewOp 47)
/-- The copy's last argument, and what is read behind a store to it. -/
theorem NodesAt.last {w : World} {lo hi : Nat} {A : Option Addr} {c : Nat} (h : NodesAt w lo hi A c oneFn.nodes) :
 ∃ gN ga c1 cur cur2, A = some ⟨gN, 0, none⟩ ∧ Blk w gN 59 cur2 ∧ cur2[13]? = some (.slice (some ⟨ga, 0, none⟩) 1 c1) ∧ Blk w ga 3 cur ∧ cur[0]? = some (.int .i64 0) ∧ lo ≤ ga ∧ ga < hi ∧ 2 ≤ c ∧
  RdL ndShape (w.setCell ⟨ga, 0, none⟩ (.int .i64 1)) (fun b => lo ≤ b ∧ b < hi) A badFn.nodes := by
 obtain ⟨hs, h1, h2, h3, h4, h5⟩ := h
 obtain ⟨x0, x1, rfl⟩ : ∃ x0 x1, hs = [x0, x1] := by
  match hs, h1 with
  | [x0, x1], _ => exact ⟨x0, x1, rfl⟩
 obtain ⟨A1, c1⟩ := x1
 have ho := h3.own 1 (A1, c1) [0] rfl rfl
 have ho' : w.ownsRow lo 3 1 (.slice A1 1 c1) 1 [.int .i64 0] := ho
 rcases ho'.2 with ⟨e1, _⟩ | ⟨ga, cap, cur, hv, hga, hh, hnc, -, hcs, hcur⟩
 · cases e1
 · cases hv
   rcases h2.2 with ⟨e1, _⟩ | ⟨gN, cap2, cur2, hv2, hgN, hh2, hnc2, -, hcs2, hcur2⟩
   · cases e1
   · have hA : A = some ⟨gN, 0, none⟩ := by cases hv2; rfl
     have hcap : c = cap2 := by cases hv2; rfl
     subst hA
     have hne : ga ≠ gN := fun e => (h5 1 _ ga rfl rfl).2 (by rw [e]; rfl)
     have hat : cur2[13]? = some (.slice (some ⟨ga, 0, none⟩) 1 c1) := by
      have h6 : (cur2.toList.take (oneFn.nodes.length * 7))[13]? = some (.slice (some ⟨ga, 0, none⟩) 1 c1) := by rw [hcur2]; rfl
      rw [List.getElem?_take, if_pos (by decide)] at h6
      simpa using h6
     have hat0 : cur[0]? = some (.int .i64 0) := by
      have h6 : (cur.toList.take (1 * 1))[0]? = some (.int .i64 0) := by rw [hcur]; rfl
      rw [List.getElem?_take, if_pos (by decide)] at h6
      simpa using h6
     have hlt := (h5 1 _ ga rfl rfl).1
     have bA : Blk w ga 3 cur := hh
     have bB := bA.set_ 0 (.int .i64 1)
     have hc0 : 0 < cur.size := (Array.getElem?_eq_some_iff.1 hat0).1
     refine ⟨gN, ga, c1, cur, cur2, rfl, hh2, hat, hh, hat0, hga, hlt, by rw [hcap]; exact hnc2, [x0, (some ⟨ga, 0, none⟩, c1)], rfl, ?_, fun k x h f1 f2 => ?_⟩
     · have h7 : (w.setCell ⟨ga, 0, none⟩ (.int .i64 1)).ownsRow lo 59 7 (.slice (some ⟨gN, 0, none⟩) 2 c) 2 (ndShape.cells oneFn.nodes [x0, (some ⟨ga, 0, none⟩, c1)]) := own_kb h2 (fun g hg => by
        cases hg
        exact Below.heap_setCell _ _ _ _ (Ne.symm hne))
       exact rds_own h7 (fun g e hl _ => ⟨hl, h4 g (by rw [e]; rfl)⟩)
     · match k with
       | 0 => cases f2; cases f1; exact RdS.nil _ _ _ _
       | 1 =>
         cases f2; cases f1
         refine ⟨rfl, fun _ => ⟨ga, 0, rfl, ⟨hga, hlt⟩, fun j u hu => ?_⟩⟩
         match j, hu with
         | 0, hu =>
           cases hu
           rw [bB.cell]
           simp [hc0]
       | k + 2 => cases f2
def YesPost (w : World) (e : Ending) (w' : World) : Prop := e = .returned (.bool true) ∧ Below w.heap.size w w'
set_option maxRecDepth 100000 in
set_option maxHeartbeats 4000000 in
theorem first_any (a : Nat → Addr) (B : Nat) (w : World) (hs : Sent w B all14 a) (hB : B ≤ w.heap.size) : Calls Tryz.prog 8 #[] w (YesPost w) := by
 have HP := Lib.hid (fun w' (h : Below w.heap.size w w') => (show YesPost w (.returned (.bool true)) w' from ⟨rfl, h⟩))
 generalize YesPost w = Post at *
 have HS := Lib.hid hs
 clear hs
 go_enter Tryz.func8, Tryz.ntmps8
 go_wp2_with fail
 refine (one_any w).mono ?_
 rintro e w1 ⟨gm, gn, gb, rfl, hP, hF, hb1⟩
 have bP2 := (Blk.new w1 25 #[.slice none 0 0, .slice (some ⟨gm, 0, none⟩) 1 1]).alloc (.cells #[.int .i64 0, .int .i64 0, .slice (some ⟨gn, 0, none⟩) 2 2, .slice (some ⟨gb, 0, none⟩) 1 1, .slice none 0 0] 30)
 have bF2 := Blk.newAt (w := w1.alloc (.cells #[.slice none 0 0, .slice (some ⟨gm, 0, none⟩) 1 1] 25)) (g := w1.heap.size + 1) (by simp) 30 #[.int .i64 0, .int .i64 0, .slice (some ⟨gn, 0, none⟩) 2 2, .slice (some ⟨gb, 0, none⟩) 1 1, .slice none 0 0]
 have hb12 := ((Below.refl w1.heap.size w1).alloc (Nat.le_refl _) (.cells #[.slice none 0 0, .slice (some ⟨gm, 0, none⟩) 1 1] 25)).alloc (by simp) (.cells #[.int .i64 0, .int .i64 0, .slice (some ⟨gn, 0, none⟩) 2 2, .slice (some ⟨gb, 0, none⟩) 1 1, .slice none 0 0] 30)
 have hb2 := hb1.trans (hb12.mono hb1.size)
 have hz1 := Lib.hid hb1.size
 have hP2 := hP.below hb12 (Nat.le_refl _)
 have hF2 := hF.keep (Kept.of_below hb12 (fun b h => h.2))
 have hl2 := Lib.hid bF2.lt
 go_upto_region 2 with (fail)
 generalize (w1.alloc (.cells #[.slice none 0 0, .slice (some ⟨gm, 0, none⟩) 1 1] 25)).alloc (.cells #[.int .i64 0, .int .i64 0, .slice (some ⟨gn, 0, none⟩) 2 2, .slice (some ⟨gb, 0, none⟩) 1 1, .slice none 0 0] 30) = w2 at *
 have HV := Lib.hid (show Calls Tryz.prog 11 #[.agg #[.slice none 0 0, .slice (some ⟨gm, 0, none⟩) 1 1]] w2 (VerPost w2 oneP oneVs) from
  verOf_any none (some ⟨gm, 0, none⟩) 0 1 oneP oneVs w2 (hP2.more hb12.size) one_pok one_ver (fun W hW => by
   have hb := hb2.trans (hW.mono hb2.size)
   refine (may_any a B W (HS.out.below hb hB) (Nat.le_trans hB hb.size) none (some ⟨gm, 0, none⟩) 0 1 oneP (((hP2.more hb12.size).below hW (Nat.le_refl _)).more hW.size) one_pok).mono ?_
   rintro e w' ⟨v, rfl, hv, hb'⟩
   rw [one_may] at hv
   cases hv
   exact ⟨rfl, hb'⟩))
 have p0 := bP2.at0
 have p1 := bP2.at1
 have lP := bP2.lt
 clear hP hF hb1 hb12 hP2
 go_wp2_with fail
 refine HV.out.mono ?_
 rintro e w3 ⟨gv, Ac, cc, Am, cm, Al, cl, rfl, hI, hgv, hb23⟩
 have bF3 := bF2.below hb23 bF2.lt
 have hb3 := hb2.trans (hb23.mono hb2.size)
 have hF3 := hF2.keep (Kept.of_below hb23 (fun b h => by have := hl2.out; omega))
 have HI3 := Lib.hid (show InfoG w3 (fun b => w2.heap.size ≤ b ∧ b < w3.heap.size ∧ b ≠ gv) gv oneP oneVs from ⟨Ac, cc, Am, cm, Al, cl, 0, hI⟩)
 have hgv3 := hI.blk.lt
 have hz2 := Lib.hid hb2.size
 have HC := Lib.hid (fun W (hW : Below w3.heap.size w3 W) => (show Calls Tryz.prog 28 #[.agg #[.int .i64 0, .int .i64 0, .slice (some ⟨gn, 0, none⟩) 2 2, .slice (some ⟨gb, 0, none⟩) 1 1, .slice none 0 0]] W (FnCopied W oneFn) from
  fn_copy (some ⟨gn, 0, none⟩) (some ⟨gb, 0, none⟩) none 2 1 0 oneFn W (hF3.nodes.below hW (fun b h => by have := hl2.out; have := hb23.size; omega)) (hF3.blocks.below hW (fun b h => by have := hl2.out; have := hb23.size; omega)) (fun b h => by have := hl2.out; have := hb23.size; have := hW.size; omega) (by decide) (by decide)
   (fun k hk => by match k, hk with | 0, _ => decide | 1, _ => decide) (fun k hk => by match k, hk with | 0, _ => decide)))
 clear bP2 bF2 hb2 hF2 p0 p1 lP HV hI
 have f0 := bF3.at0
 have f1 := bF3.at1
 have f2 := bF3.at2
 have f3 := bF3.at3
 have f4 : w3.cell? ⟨w1.heap.size + 1, 4, none⟩ = some (.slice none 0 0) := bF3.cell 4
 have lF := bF3.lt
 go_wp2_with fail
 refine (HC.out w3 (Below.refl _ _)).mono ?_
 rintro e w4 ⟨An, cn, Ab, cb, As, cs, lo, hi, rfl, hN, hBk, hlo, hlh, hhi, hb34⟩
 simp only [show oneFn.mth = 0 from rfl, show oneFn.entry = 0 from rfl, show oneFn.nodes.length = 2 from rfl, show oneFn.blocks.length = 1 from rfl]
 have bF4 := bF3.below hb34 bF3.lt
 have hb4 := hb3.trans (hb34.mono hb3.size)
 have hF4 := hF3.keep (Kept.of_below hb34 (fun b h => by have := hl2.out; have := hb23.size; omega))
 have HI4 := Lib.hid (HI3.out.below hb34)
 have hz34 := hb34.size
 clear bF3 hb3 hF3 HI3 HC f0 f1 f2 f3 f4 lF hb34
 go_upto_region 6 with (fail)
 have hA := (Below.refl w4.heap.size w4).alloc (Nat.le_refl _) (.cells #[.int .i64 0, .int .i64 0, .slice An 2 cn, .slice Ab 1 cb, .slice As 0 cs] 30)
 have bG5 := Blk.new w4 30 #[.int .i64 0, .int .i64 0, .slice An 2 cn, .slice Ab 1 cb, .slice As 0 cs]
 have bF5 := bF4.alloc (.cells #[.int .i64 0, .int .i64 0, .slice An 2 cn, .slice Ab 1 cb, .slice As 0 cs] 30)
 have hb5 := hb4.alloc hb4.size (.cells #[.int .i64 0, .int .i64 0, .slice An 2 cn, .slice Ab 1 cb, .slice As 0 cs] 30)
 have hF5 := hF4.keep (Kept.of_below hA (fun b h => by have := hl2.out; have := hb23.size; omega))
 have HI5 := Lib.hid (HI4.out.below hA)
 have hN5 := hN.below (hA.mono hhi)
 have hBk5 := hBk.keep (Kept.of_below hA (fun b h => h.2))
 have hz5 : (w4.alloc (.cells #[.int .i64 0, .int .i64 0, .slice An 2 cn, .slice Ab 1 cb, .slice As 0 cs] 30)).heap.size = w4.heap.size + 1 := by simp
 have Hz5 := Lib.hid hz5
 clear bF4 hb4 hF4 HI4 hN hBk hA hz5
 generalize w4.alloc (.cells #[.int .i64 0, .int .i64 0, .slice An 2 cn, .slice Ab 1 cb, .slice As 0 cs] 30) = w5 at *
 obtain ⟨gN, ga, c1, cur, cur2, rfl, bN, hc13, bA, hc0, hga1, hga2, hcn, hrd⟩ := hN5.last
 have y13 : w5.cell? ⟨gN, 13, none⟩ = some (.slice (some ⟨ga, 0, none⟩) 1 c1) := (bN.cell 13).trans hc13
 have y0 : w5.cell? ⟨ga, 0, none⟩ = some (.int .i64 0) := (bA.cell 0).trans hc0
 have fa0 := bA.frozen 0
 have la := bA.lt
 have lN := bN.lt
 have z2 := bG5.at2
 have lG := bG5.lt
 clear hc13 hc0 hN5
 go_upto_region 7 with (fail)
 have l2 := hl2.out
 have l1 := hz1.out
 have l23 := hb23.size
 have l2w := hz2.out
 have l5 := Hz5.out
 have bF6 := bF5.far (p := ⟨ga, 0, none⟩) (by show w1.heap.size + 1 ≠ ga; omega) (.int .i64 1)
 have bG6 := bG5.far (p := ⟨ga, 0, none⟩) (by show w4.heap.size ≠ ga; omega) (.int .i64 1)
 have hb6 := hb5.setCell (p := ⟨ga, 0, none⟩) (by show w.heap.size ≤ ga; omega) (.int .i64 1)
 have K6 := (KB.refl (fun b => b ≠ ga) w5).set (p := ⟨ga, 0, none⟩) (fun h => h rfl) (.int .i64 1)
 have hF6 := hF5.keep (K6.kept.sub (fun b h => by omega))
 have hBk6 := hBk5.keep (K6.kept.sub (fun b h => by omega))
 have HI6 := Lib.hid (HI5.out.kb (K6.sub (fun b h => by omega)) (by simp))
 have hz6 : (w5.setCell ⟨ga, 0, none⟩ (.int .i64 1)).heap.size = w4.heap.size + 1 := by simp [l5]
 clear bF5 bG5 hb5 K6 hF5 hBk5 HI5 bA bN y13 y0 fa0 la lN z2 lG
 generalize w5.setCell ⟨ga, 0, none⟩ (.int .i64 1) = w6 at *
 have hG6 : RdF w6 (fun b => lo ≤ b ∧ b < w4.heap.size) (some ⟨gN, 0, none⟩) Ab As badFn := ⟨hrd.more (fun b h => by omega), hBk6.more (fun b h => by omega), RdL.nil _ _ _ _⟩
 have HC1 := Lib.hid (show Calls Tryz.prog 14 #[.pointer (some ⟨gv, 0, none⟩), .agg #[.int .i64 0, .int .i64 0, .slice (some ⟨gn, 0, none⟩) 2 2, .slice (some ⟨gb, 0, none⟩) 1 1, .slice none 0 0]] w6 (CheckPost w6 a w.heap.size gv 0) from by
  have h := check_one (a := a) (B := B) (lo := w.heap.size) 1 0 HI6.out (fun b h => by omega) hF6 (fun b h => by omega) (by decide) one_small (HS.out.below hb6 hB) (by omega) hb6.size (cn := 2)
  rw [one_ck] at h
  exact h)
 have Hz6 := Lib.hid hz6
 have Hsz := Lib.hid (show w.heap.size ≤ w1.heap.size ∧ w1.heap.size + 1 < w2.heap.size ∧ w2.heap.size ≤ gv ∧ gv < w3.heap.size ∧ w3.heap.size ≤ lo ∧ lo ≤ w4.heap.size from ⟨l1, l2, hgv, hgv3, hlo, by omega⟩)
 have f0 := bF6.at0
 have f1 := bF6.at1
 have f2 := bF6.at2
 have f3 := bF6.at3
 have f4 : w6.cell? ⟨w1.heap.size + 1, 4, none⟩ = some (.slice none 0 0) := bF6.cell 4
 have lF := bF6.lt
 clear hrd hBk6 hz6 l5 l2w l23 l1 l2 hz1 hl2 hz2 hlo hlh hhi hga1 hga2 hz34 hgv3 hgv hb23
 go_wp2_with fail
 refine HC1.out.mono ?_
 rintro e w7 ⟨rfl, ⟨S7, HI7, hS7⟩, hg7⟩
 have hq := Hsz.out
 have bF7 := bF6.grown hg7 (fun e => by have := Option.some.inj e; omega)
 have bG7 := bG6.grown hg7 (fun e => by have := Option.some.inj e; omega)
 have hb7 := hb6.grown hg7 hb6.size (fun j hj => by cases hj; omega)
 have hz6 := Hz6.out
 have hF7 := hF6.keep (Kept.grown (Kept.refl _ _) hg7 (fun b h => by omega) (fun b h e => by have := Option.some.inj e; omega))
 have hG7 := hG6.keep (Kept.grown (Kept.refl _ _) hg7 (fun b h => by omega) (fun b h e => by have := Option.some.inj e; omega))
 have hz7 := hg7.size
 have HC2 := Lib.hid (show Calls Tryz.prog 14 #[.pointer (some ⟨gv, 0, none⟩), .agg #[.int .i64 0, .int .i64 0, .slice (some ⟨gN, 0, none⟩) 2 cn, .slice Ab 1 cb, .slice As 0 cs]] w7 (CheckPost w7 a w.heap.size gv 12) from by
  have h := check_one (a := a) (B := B) (lo := w.heap.size) cb cs HI7 hS7 hG7 (fun b h => by omega) hcn bad_small (HS.out.below hb7 hB) (by omega) hb7.size
  rw [bad_ck] at h
  exact h)
 have Hz7 := Lib.hid hz7
 clear bF6 bG6 hb6 hF6 hG6 HI7 hS7 hg7 f0 f1 f2 f3 f4 lF hz6 hz7 hG7 HC1
 have g0 := bG7.at0
 have g1 := bG7.at1
 have g2 := bG7.at2
 have g3 := bG7.at3
 have g4 : w7.cell? ⟨w4.heap.size, 4, none⟩ = some (.slice As 0 cs) := bG7.cell 4
 have lG := bG7.lt
 clear hq
 unfold errV
 go_wp2_with fail
 refine HC2.out.mono ?_
 rintro e w8 ⟨rfl, -, hg8⟩
 have hq := Hsz.out
 have hz6 := Hz6.out
 have hz7 := Hz7.out
 have bF8 := bF7.grown hg8 (fun e => by have := Option.some.inj e; omega)
 have hb8 := hb7.grown hg8 hb7.size (fun j hj => by cases hj; omega)
 have hF8 := hF7.keep (Kept.grown (Kept.refl _ _) hg8 (fun b h => by omega) (fun b h e => by have := Option.some.inj e; omega))
 have HIs := Lib.hid (is_any a B w8 (HS.out.below hb8 hB) (Nat.le_trans hB hb8.size) (k := 12) (by omega) 112)
 generalize errV a 12 = ve at *
 have Hz8 := Lib.hid hg8.size
 clear bF7 bG7 hb7 hF7 hg8 g0 g1 g2 g3 g4 lG hz6 hz7 hq HC2
 go_wp2_with fail
 refine HIs.out.mono ?_
 rintro e w9 ⟨rfl, hb89⟩
 have bF9 := bF8.below hb89 bF8.lt
 have hb9 := hb8.trans (hb89.mono hb8.size)
 have hF9 := hF8.keep (Kept.of_below hb89 (fun b h => by have := Hsz.out; have := Hz6.out; have := Hz7.out; have := Hz8.out; omega))
 have hz9 := Lib.hid (show w1.heap.size < w9.heap.size from by have := bF9.lt; omega)
 have HSz := Lib.hid (show Calls Tryz.prog 21 #[.agg #[.int .i64 0, .int .i64 0, .slice (some ⟨gn, 0, none⟩) 2 2, .slice (some ⟨gb, 0, none⟩) 1 1, .slice none 0 0]] w9 (fun e w' => e = .returned (.int .i64 2) ∧ Below w9.heap.size w9 w') from by
  have h := size_any (some ⟨gn, 0, none⟩) (some ⟨gb, 0, none⟩) none 2 1 0 oneFn w9 hF9.blocks (fun b h => by have := hz9.out; omega) (by decide) (fun k hk => by match k, hk with | 0, _ => decide | 1, _ => decide)
  rw [one_size] at h
  exact h)
 have f0 := bF9.at0
 have f1 := bF9.at1
 have f2 := bF9.at2
 have f3 := bF9.at3
 have f4 : w9.cell? ⟨w1.heap.size + 1, 4, none⟩ = some (.slice none 0 0) := bF9.cell 4
 have lF := bF9.lt
 have gT : decide (codeOf 12 = 112) = true := by decide
 rw [gT]
 clear bF8 hb8 hF8 hb89 HIs gT
 go_wp2_with fail
 refine HSz.out.mono ?_
 rintro e wA ⟨rfl, hb9A⟩
 have bFA := bF9.below hb9A bF9.lt
 have hbA := hb9.trans (hb9A.mono hb9.size)
 have hFA := hF9.keep (Kept.of_below hb9A (fun b h => by have := hz9.out; omega))
 have hzA := hb9A.size
 have HU := Lib.hid (show Calls Tryz.prog 16 #[.agg #[.int .i64 0, .int .i64 0, .slice (some ⟨gn, 0, none⟩) 2 2, .slice (some ⟨gb, 0, none⟩) 1 1, .slice none 0 0]] wA (UsesPost wA oneFn) from uses_none (some ⟨gn, 0, none⟩) (some ⟨gb, 0, none⟩) none 0 2 1 0 oneFn wA hFA.nodes (fun b h => by have := hz9.out; omega) (by decide) (fun i hi => (one_small.nds i hi).2) one_small.st)
 clear bF9 hb9 hF9 hb9A f0 f1 f2 f3 f4 lF hzA HSz
 have f0 := bFA.at0
 have f1 := bFA.at1
 have f2 := bFA.at2
 have f3 := bFA.at3
 have f4 : wA.cell? ⟨w1.heap.size + 1, 4, none⟩ = some (.slice none 0 0) := bFA.cell 4
 have lF := bFA.lt
 go_wp2_with fail
 refine HU.out.mono ?_
 rintro e wB ⟨go, rfl, bO, hbAB⟩
 have hbB := hbA.trans (hbAB.mono hbA.size)
 rw [one_uses] at bO
 have HSI := Lib.hid (show Calls Tryz.prog 15 #[.slice (some ⟨go, 0, none⟩) 2 2, .slice (some ⟨wB.heap.size, 0, none⟩) 2 2] (wB.alloc (.cells #[.int .i64 1, .int .i64 0] 3)) (fun e w' => e = .returned (.bool true) ∧ Below (wB.alloc (.cells #[.int .i64 1, .int .i64 0] 3)).heap.size (wB.alloc (.cells #[.int .i64 1, .int .i64 0] 3)) w') from by
  have h := sameInts_any (some ⟨go, 0, none⟩) (some ⟨wB.heap.size, 0, none⟩) 2 2 2 2 [1, 0] [1, 0] (wB.alloc (.cells #[.int .i64 1, .int .i64 0] 3)) (by omega) (Blk.rd (bO.alloc _) rfl (by simp; have := bO.lt; omega)) (Blk.rd (xs := ints [1, 0]) (Blk.new wB _ _) rfl (by simp))
  rw [decide_eq_true rfl] at h
  exact h)
 have hbC := hbB.alloc hbB.size (.cells #[.int .i64 1, .int .i64 0] 3)
 clear bFA hbA hFA hbAB f0 f1 f2 f3 f4 lF HU bO
 simp only [show oneFn.nodes.length = 2 from rfl]
 go_wp2_with fail
 refine HSI.out.mono ?_
 rintro e wD ⟨rfl, hbCD⟩
 have hbD := hbC.trans (hbCD.mono hbC.size)
 go_wp2
 exact HP.out wD hbD
end Go.Proofs.YtjjmpfmhggcjiaaGreatDoor
namespace Go.Proofs.YtjjmpfmhggcjiaaGreatDoor
open Go.RowKit Go.Maps
end Go.Proofs.YtjjmpfmhggcjiaaGreatDoor
namespace Go.Proofs.YtjjmpfmhggcjiaaGreatDoor
open Go.RowKit Go.Maps
theorem own_cast {w : World} {z : Nat} {T : TypeId} {size n m c : Nat} {A : Option Addr} {xs ys : List Value} (h : w.ownsRow z T size (.slice A n c) n xs) (e : n = m) (e2 : xs = ys) : w.ownsRow z T size (.slice A m c) m ys := by
 subst e e2
 exact h
section
variable {wr w' w3 : World} {z : Nat} {X Y : Nat → Prop} {ns : List Nd} {hs : List (Option Addr × Nat)} {A A3 : Option Addr} {c c3 : Nat}
end
end Go.Proofs.YtjjmpfmhggcjiaaGreatDoor
namespace Go.Proofs.YtjjmpfmhggcjiaaGreatDoor
open Go.RowKit Go.Maps
section
variable {w w3 : World} {z gB gF cn cb c3 : Nat} {An Ab A3 : Option Addr} {ns : List Nd} {ks : List Int} {hs : List (Option Addr × Nat)}
end
end Go.Proofs.YtjjmpfmhggcjiaaGreatDoor
namespace Go.Proofs.YtjjmpfmhggcjiaaGreatDoor
open Go.RowKit Go.Maps
section
variable {α : Type} {s : Shape α} {T : TypeId} {wr w' w3 : World} {z : Nat} {X Y : Nat → Prop} {l : List α} {hs : List s.H} {A A3 B B3 : Option Addr} {c c3 : Nat}
/-- A block, and another row's. -/
def X2 (gF : Nat) (B : Option Addr) (b : Nat) : Prop := b = gF ∨ B.map (·.block) = some b
end
end Go.Proofs.YtjjmpfmhggcjiaaGreatDoor
namespace Go.Proofs.YtjjmpfmhggcjiaaGreatDoor
open Go.RowKit Go.Maps
/-- A block that may be written. -/
def Free (w : World) (b : Nat) : Prop := ∀ i, w.frozen? ⟨b, i, none⟩ = false
theorem Free.of_heap {w w' : World} {b : Nat} (h : Free w b) (e : w'.heap[b]? = w.heap[b]?) : Free w' b := fun i => (World.frozen?_of_block (a := ⟨b, i, none⟩) e).trans (h i)
theorem Free.of_cells {w : World} {b : Nat} {cs : Array Value} {T : TypeId} (h : w.heap[b]? = some (.cells cs T (0, 0))) : Free w b := fun i => Lib.frozen_of_heap h i
/-- What was made behind z, and may be written. -/
def UIn (z : Nat) (w : World) (b : Nat) : Prop := z ≤ b ∧ b < w.heap.size ∧ Free w b
theorem UIn.keep {z : Nat} {w w' : World} {b : Nat} (h : UIn z w b) (hz : w.heap.size ≤ w'.heap.size) (e : w'.heap[b]? = w.heap[b]?) : UIn z w' b := ⟨h.1, by have := h.2.1; omega, h.2.2.of_heap e⟩
theorem rds_free {w : World} {base : Nat} {e : TypeId} {size n c : Nat} {A : Option Addr} {xs : List Value} (h : w.ownsRow base e size (.slice A n c) n xs) : RdS w (UIn base w) size A n xs := by
 refine ⟨h.1, fun hn => ?_⟩
 rcases h.2 with ⟨hv, hn0⟩ | ⟨g, cap, cur, hv, hb, hh, _⟩
 · omega
 · cases hv
   refine ⟨g, 0, rfl, ⟨hb, (Array.getElem?_eq_some_iff.1 hh).1, Free.of_cells hh⟩, fun j u hu => ?_⟩
   have := h.cells (g := g) rfl j u hu
   rwa [Go.WideShapes.add_plain] at this
structure URow {α : Type} (s : Shape α) (T : TypeId) (wr : World) (z : Nat) (l : List α) (hs : List s.H) (A : Option Addr) (c : Nat) : Prop where
 len : hs.length = l.length
 own : wr.ownsRow z T s.size (.slice A l.length c) l.length (s.cells l hs)
 inn : ∀ (k : Nat) (x : α) (h : s.H), l[k]? = some x → hs[k]? = some h → s.inner (fun b => UIn z wr b ∧ A.map (·.block) ≠ some b) wr x h
section
variable {α : Type} {s : Shape α} {T : TypeId} {wr w' w3 : World} {z z' : Nat} {l : List α} {hs : List s.H} {A A3 : Option Addr} {c c3 : Nat}
theorem URow.nil (s : Shape α) (T : TypeId) (w : World) (z : Nat) : URow s T w z [] [] none 0 := ⟨rfl, World.ownsRow_nil _ _ _ _, fun k x h e => (by cases e)⟩
theorem URow.kb (R : URow s T wr z l hs A c) (hk : KB (fun b => z ≤ b ∧ b < wr.heap.size) wr w') (hz : wr.heap.size ≤ w'.heap.size) : URow s T w' z l hs A c := by
 have hA : ∀ g, A.map (·.block) = some g → z ≤ g ∧ g < wr.heap.size := fun g hg => R.own.lt g (by rw [slice_block]; exact hg)
 refine ⟨R.len, own_kb R.own (fun g hg => ?_), fun k x h e1 e2 => ?_⟩
 · rw [slice_block] at hg
   exact hk g (hA g hg)
 · exact s.more (s.keep (R.inn k x h e1 e2) (hk.kept.sub (fun b hb => ⟨hb.1.1, hb.1.2.1⟩))) (fun b hb => ⟨hb.1.keep hz (hk b ⟨hb.1.1, hb.1.2.1⟩), hb.2⟩)
theorem URow.below (R : URow s T wr z l hs A c) (hb : Below wr.heap.size wr w') : URow s T w' z l hs A c := R.kb (fun b h => hb.block b h.2) hb.size
theorem URow.snoc (R : URow s T wr z l hs A c) (x : α) (h : s.H) (hin : s.inner (fun b => UIn z wr b ∧ A.map (·.block) ≠ some b) wr x h)
 (own3 : w3.ownsRow z T s.size (.slice A3 (l.length + 1) c3) (l.length + 1) (s.cells l hs ++ s.cell x h)) (hg : wr.grownBy w3 (Value.slice A l.length c).ownBlock)
 (hat : (Value.slice A3 (l.length + 1) c3).ownBlock = (Value.slice A l.length c).ownBlock ∨ (Value.slice A3 (l.length + 1) c3).ownBlock = some wr.heap.size) : URow s T w3 z (l ++ [x]) (hs ++ [h]) A3 c3 := by
 have hl := R.len
 have hsz := hg.size
 rw [slice_block, slice_block] at hat
 rw [slice_block] at hg
 have K := Kept.grown (Kept.refl (fun b => UIn z wr b ∧ A.map (·.block) ≠ some b) wr) hg (fun b hb => hb.1.2.1) (fun b hb e => hb.2 e.symm)
 have key : ∀ (x : α) h, s.inner (fun b => UIn z wr b ∧ A.map (·.block) ≠ some b) wr x h → s.inner (fun b => UIn z w3 b ∧ A3.map (·.block) ≠ some b) w3 x h := fun x h hi =>
  s.more (s.keep hi K) (fun b hb => ⟨hb.1.keep hsz (hg.block b hb.1.2.1 (fun e => hb.2 e.symm)), fun e => by
   rcases hat with h5 | h5
   · exact hb.2 (by rw [← h5]; exact e)
   · rw [h5] at e
     have := Option.some.inj e
     have := hb.1.2.1
     omega⟩)
 refine ⟨by simp [hl], ?_, fun k x' h' e1 e2 => ?_⟩
 · have e := cells_snoc s (l := l) (hs := hs) hl x h
   exact own_cast own3 (by simp) e.symm
 · by_cases hk : k < l.length
   · rw [List.getElem?_append_left hk] at e1
     rw [List.getElem?_append_left (by omega)] at e2
     exact key _ _ (R.inn k x' h' e1 e2)
   · have h4 := (List.getElem?_eq_some_iff.1 e1).1
     simp at h4
     have e3 : k = l.length := by omega
     subst e3
     rw [List.getElem?_append_right (Nat.le_refl _)] at e1
     rw [← hl, List.getElem?_append_right (Nat.le_refl _)] at e2
     simp at e1 e2
     subst e1 e2
     exact key _ _ hin
theorem URow.rd (R : URow s T wr z l hs A c) : RdL s wr (UIn z wr) A l :=
 ⟨hs, R.len, rds_free R.own, fun k x h e1 e2 => s.more (R.inn k x h e1 e2) (fun b hb => hb.1)⟩
/-- A row that was made beside goes in: it lies apart from the growing row. -/
theorem URow.apart (R : URow s T wr z l hs A c) {w1 : World} (hb : Below wr.heap.size wr w1) {b : Nat} (h : UIn wr.heap.size w1 b) (hz : z ≤ wr.heap.size) : UIn z w1 b ∧ A.map (·.block) ≠ some b := by
 refine ⟨⟨by have := h.1; omega, h.2⟩, fun e => ?_⟩
 have := (R.own.lt b (by rw [slice_block]; exact e)).2
 have := h.1
 omega
theorem UIn.base {b : Nat} {w : World} (h : UIn z w b) (hz : z' ≤ z) : UIn z' w b := ⟨Nat.le_trans hz h.1, h.2⟩
end
end Go.Proofs.YtjjmpfmhggcjiaaGreatDoor
