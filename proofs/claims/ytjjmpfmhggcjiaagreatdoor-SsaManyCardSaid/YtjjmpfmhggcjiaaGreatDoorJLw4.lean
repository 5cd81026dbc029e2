/-
 Lw4.
-/
import Derived.Test.YtjjmpfmhggcjiaaGreatDoorJLw10
set_option linter.unusedSimpArgs false
set_option linter.unusedVariables false
namespace Go.Proofs.YtjjmpfmhggcjiaaGreatDoor
open Go.RowKit Go.Maps
set_option maxRecDepth 100000 in
set_option maxHeartbeats 8000000 in
theorem ssaMany_walk (a : Nat → Addr) (B : Nat) (W : World) (hs : Sent W B all14 a) (hB : B ≤ W.heap.size) (x : Int) (hx1 : -9223372036854775808 ≤ x) (hx2 : x ≤ 9223372036854775807) (cut : Bool) :
 Calls Tryz.prog 6 #[.int .i64 x, .bool cut] W (YesPost W) := by
 have HP := Lib.hid (fun w' (h : Below W.heap.size W w') => (show YesPost W (.returned (.bool true)) w' from ⟨rfl, h⟩))
 generalize YesPost W = Post at *
 have HS := Lib.hid hs
 clear hs
 obtain ⟨m, hm, h7⟩ := low7 x
 go_enter Tryz.func6, Tryz.ntmps6
 go_wp2_with fail
 refine (first_any a B W HS.out hB).mono ?_
 rintro e w1 ⟨rfl, hb1⟩
 go_upto_region 3 with (fail)
 obtain ⟨n, hn⟩ : ∃ n : Nat, (n : Int) = 496 + (m : Int) := ⟨496 + m, by omega⟩
 have hnl : 496 ≤ n ∧ n ≤ 503 := by omega
 rw [← hn]
 clear hn h7 hm
 go_wp2_with fail
 refine (one_any w1).mono ?_
 rintro e w2 ⟨gm, gn, gb, rfl, hP, -, hb12⟩
 have hb2 := hb1.trans (hb12.mono hb1.size)
 clear hb12 hb1
 have bP3 := (Blk.new w2 25 #[.slice none 0 0, .slice (some ⟨gm, 0, none⟩) 1 1]).alloc (.cells #[.int .i64 0, .int .i64 0, .slice (some ⟨gn, 0, none⟩) 2 2, .slice (some ⟨gb, 0, none⟩) 1 1, .slice none 0 0] 30)
 have hb23 := ((Below.refl w2.heap.size w2).alloc (Nat.le_refl _) (.cells #[.slice none 0 0, .slice (some ⟨gm, 0, none⟩) 1 1] 25)).alloc (by simp) (.cells #[.int .i64 0, .int .i64 0, .slice (some ⟨gn, 0, none⟩) 2 2, .slice (some ⟨gb, 0, none⟩) 1 1, .slice none 0 0] 30)
 have hb3 := hb2.trans (hb23.mono hb2.size)
 have hP3 := (hP.below hb23 (Nat.le_refl _)).more hb23.size
 clear hP hb23 hb2
 go_upto_region 4 with (fail)
 generalize (w2.alloc (.cells #[.slice none 0 0, .slice (some ⟨gm, 0, none⟩) 1 1] 25)).alloc (.cells #[.int .i64 0, .int .i64 0, .slice (some ⟨gn, 0, none⟩) 2 2, .slice (some ⟨gb, 0, none⟩) 1 1, .slice none 0 0] 30) = w3 at *
 have p0 := bP3.at0
 have p1 := bP3.at1
 have lP := bP3.lt
 have HMd := Lib.hid (made_one a B w3 (HS.out.below hb3 hB) (Nat.le_trans hB hb3.size) gm hP3)
 clear hP3
 go_wp2_with fail
 refine HMd.out.mono ?_
 rintro e w4 ⟨gv, A1, n1, c1, A2, n2, c2, A3, n3, c3, rfl, ⟨S, hI, hSlo⟩, hgv, hgv4, hb34⟩
 have hb4 := hb3.trans (hb34.mono hb3.size)
 have hz3 := Lib.hid hb3.size
 have HI4 := Lib.hid hI
 have HSlo := Lib.hid hSlo
 clear bP3 hb3 p0 p1 lP HMd hI hSlo hb34
 go_upto_region 5 with (fail)
 have hb5 := hb4.alloc hb4.size (.cells #[.slice A1 n1 c1, .slice A2 n2 c2, .slice A3 n3 c3] 34)
 have HI5 := Lib.hid (HI4.out.below ((Below.refl w4.heap.size w4).alloc (Nat.le_refl _) (.cells #[.slice A1 n1 c1, .slice A2 n2 c2, .slice A3 n3 c3] 34)))
 have hz5 : (w4.alloc (.cells #[.slice A1 n1 c1, .slice A2 n2 c2, .slice A3 n3 c3] 34)).heap.size = w4.heap.size + 1 := by simp
 have Hz5 := Lib.hid hz5
 have hz5b := Lib.hid (show w3.heap.size ≤ gv ∧ gv < w4.heap.size from ⟨hgv, hgv4⟩)
 clear hz5 HI4 hgv hgv4 hb4
 generalize w4.alloc (.cells #[.slice A1 n1 c1, .slice A2 n2 c2, .slice A3 n3 c3] 34) = w5 at *
 go_upto_region 8 with (fail)
 have Hb5 := Lib.hid hb5
 have Hw5 := Lib.hid hb5.size
 have hM7 : Many (w5.alloc (.cells #[.int .i64 0, .int .i64 0, .slice none 0 0, .slice none 0 0, .slice none 0 0] 30)) w5.heap.size w5.heap.size (fun _ => False) (nodesTo n 0) (blocksTo n 0) 0 0 none none [] [] :=
  ⟨Blk.new _ _ _, SRow.nil _ _ _ _ _, SRow.nil _ _ _ _ _, Nat.le_refl _, id⟩
 have hB7 := (Below.refl w5.heap.size w5).alloc (Nat.le_refl _) (.cells #[.int .i64 0, .int .i64 0, .slice none 0 0, .slice none 0 0, .slice none 0 0] 30)
 have hb7 := hb5.alloc hb5.size (.cells #[.int .i64 0, .int .i64 0, .slice none 0 0, .slice none 0 0, .slice none 0 0] 30)
 have hs7 : w5.heap.size < (w5.alloc (.cells #[.int .i64 0, .int .i64 0, .slice none 0 0, .slice none 0 0, .slice none 0 0] 30)).heap.size := by simp
 clear hb5
 generalize w5.alloc (.cells #[.int .i64 0, .int .i64 0, .slice none 0 0, .slice none 0 0, .slice none 0 0] 30) = w7 at *
 obtain ⟨gF, hgF⟩ : ∃ gF, gF = w5.heap.size := ⟨_, rfl⟩
 rw [← hgF] at hM7 hB7 hs7 ⊢
 have HM7 := Lib.hid hM7
 have HB7 := Lib.hid hB7
 have HgF := Lib.hid hgF
 have Hs7 := Lib.hid hs7
 clear hM7 hB7 hgF hs7
 go_wp2
 go_loopw [12] (fun iv wr => ∃ (i cn cb : Nat) (An Ab : Option Addr) (hn : List (Option Addr × Nat)) (hbk : List H4), i ≤ n ∧ iv = .int .i64 i ∧ Hid (Many wr gF gF (fun _ => False) (nodesTo n i) (blocksTo n i) cn cb An Ab hn hbk) ∧ Hid (Below gF w5 wr) ∧ Below W.heap.size W wr) (fun iv _ => n - (intOf iv).toNat)
 case atStart =>
  exact ⟨0, 0, 0, none, none, [], [], Nat.zero_le _, rfl, HM7, HB7, hb7⟩
 case round =>
  clear hb7 HM7 HB7
  obtain ⟨i, cn, cb, An, Ab, hn, hbk, hi, rfl, HM, HB, hb⟩ := hrel
  have lF := HM.out.fn.lt
  by_cases hlt : i < n
  · go_upto_region 12 with (fail)
    have hM0 := HM.out.mid (by have := HM.out.zF; omega)
    have hB0 := HB.out.alloc (show gF ≤ wr.heap.size by omega) (.cells #[.slice none 0 0, .slice none 0 0, .slice none 0 0, .slice none 0 0] 61)
    obtain ⟨gB, hgB⟩ : ∃ gB, gB = wr.heap.size := ⟨_, rfl⟩
    generalize wr.alloc (.cells #[.slice none 0 0, .slice none 0 0, .slice none 0 0, .slice none 0 0] 61) = w2 at *
    rw [← hgB] at hM0 ⊢
    obtain ⟨Bb0, cB0, hM00⟩ : ∃ Bb cB, Mid w2 gF gF gB gB (nodesTo n i) (blocksTo n i) cn cb An Ab hn hbk [] [] [] Bb cB none none 0 0 [gB] := ⟨none, 0, hM0⟩
    have HM0 := Lib.hid hM00
    have HB0 := Lib.hid hB0
    clear hM0 hM00 hB0 hgB HM HB lF hb
    go_upto_if 43 with (fail)
    go_cut [] from 36 to 94 (fun wx => ∃ (cn2 : Nat) (An2 : Option Addr) (hn2 : List (Option Addr × Nat)) (Bb : Option Addr) (cB : Nat) (pA : Option Addr) (pc : Nat) (pl : List Nat), Hid (Mid wx gF gF gB gB (nodesA n i) (blocksTo n i) cn2 cb An2 Ab hn2 hbk (bodyA i) [] (predsA i) Bb cB none pA 0 pc pl) ∧ Hid (Below gF w5 wx))
    case first =>
     by_cases h0 : i = 0
     · have h0b : ((i : Int) == 0) = true := by simp; omega
       have HM1 := Lib.hid (show Mid w2 gF gF gB gB [] (blocksTo n i) cn cb An Ab hn hbk [] [] [] Bb0 cB0 none none 0 0 [gB] from by
        have h := HM0.out
        rw [show nodesTo n i = [] from by rw [h0]; rfl] at h
        exact h)
       have Hi0 := Lib.hid h0
       clear HM0 h0
       go_upto_region 13 with (fail)
       go_cut [] from 36 to 94 (fun wx => ∃ (cn2 : Nat) (An2 : Option Addr) (hn2 : List (Option Addr × Nat)) (Bb : Option Addr) (cB : Nat), Hid (Mid wx gF gF gB gB (nodesA n i) (blocksTo n i) cn2 cb An2 Ab hn2 hbk [] [] [] Bb cB none none 0 0 [gB]) ∧ Hid (Below gF w5 wx))
       case first =>
        have bF : Blk w2 gF 30 #[.int .i64 0, .int .i64 0, .slice An (0) cn, .slice Ab i cb, .slice none 0 0] := by
         have h := HM1.out.many.fn
         rw [blocksTo_len] at h
         exact h
        have lF := bF.lt
        have zw : gF ≤ w2.heap.size := by omega
        have ownN : w2.ownsRow gF 59 7 (.slice An (0) cn) (0) (ndShape.cells [] hn) := by
         have h := HM1.out.many.nds.own
         exact h
        have nF : (Value.slice An (0) cn).ownBlock ≠ some gF := fun e => HM1.out.many.nds.out gF (by rw [slice_block] at e; exact e) (.inl rfl)
        have bFa := bF.alloc (.cells #[.int .i64 1, .int .i64 0, .int .i64 0, .int .i64 (-1), .string ⟨#[73]⟩, .int .i64 0, .slice none 0 0] 59)
        have f2 := bF.at2
        go_wp2_with (at_builtin
                     refine wpList_append_row rfl (.tmp 45) (.tmp 47) 26 rfl gF 59 _ 7 80 Tryz.underlying26 infoNd rfl (by omega) An cn (0) (ndShape.cells [] hn) rfl (ownN.alloc _) w2.heap.size 1 1 59 [.int .i64 1, .int .i64 0, .int .i64 0, .int .i64 (-1), .string ⟨#[73]⟩, .int .i64 0, .slice none 0 0] rfl (Blk.new _ _ _) rfl (by intro u hu; simp at hu; rcases hu with rfl | rfl | rfl | rfl | rfl | rfl | rfl <;> rfl) (by unfold maxLen; omega) (by omega) (by simp; omega) ?_
                     intro A3 c3 v3 own3 hg3 hat3
                     have bF3 := bFa.grown hg3 (Ne.symm nF)
                     have z2 := bF3.at2
                     have zf := bF3.frozen 2
                     have zl := bF3.lt)
        obtain ⟨hM3, hB3⟩ := HM1.out.node (w3 := v3) (A3 := A3) (c3 := c3) ⟨1, 0, 0, -1, sI, 0, []⟩ (none, 0) zw (RdS.nil _ _ _ _) (by exact own3) (by exact hg3) (by exact hat3)
        have hB4 := hB3 HB0.out (Nat.le_refl _)
        go_meet
        refine ⟨c3, A3, hn ++ [(none, 0)], Bb0, cB0, Lib.hid ?_, Lib.hid hB4⟩
        rw [show nodesA n i = [] ++ [⟨1, 0, 0, -1, sI, 0, []⟩] from by rw [Hi0.out]; rfl]
        exact hM3
       case rest =>
        obtain ⟨cn2, An2, hn2, Bb, cB, HM3, HB3⟩ := hcut
        clear HM1 HB0
        clear w2
        have bV : Blk wc gB 61 #[.slice none 0 0, .slice Bb 0 cB, .slice none 0 0, .slice none 0 0] := HM3.out.bv
        have lB := bV.lt
        have zB := (HM3.out.rng gB HM3.out.inB).1
        have nBF : gB ≠ gF := fun e => HM3.out.many.pF (e ▸ HM3.out.inB)
        have ownB : wc.ownsRow gB 3 1 (.slice Bb 0 cB) 0 (ints []) := HM3.out.own
        have nB : (Value.slice Bb 0 cB).ownBlock ≠ some gB := fun e => (HM3.out.bin gB (by rw [slice_block] at e; exact e)).2 rfl
        have bVa := bV.alloc (.cells #[.int .i64 0] 3)
        have f1 := bV.at1
        go_wp2_with (at_builtin
                     refine wpList_append_row rfl (.tmp 51) (.tmp 52) 47 rfl gB 3 _ 1 8 Tryz.underlying47 infoIntR rfl (by omega) Bb cB 0 (ints []) rfl (ownB.alloc _) wc.heap.size 1 1 3 [.int .i64 0] rfl (Blk.new _ _ _) rfl (by intro u hu; simp at hu; subst hu; rfl) (by unfold maxLen; omega) (by omega) (by simp; omega) ?_
                     intro A3 c3 v3 own3 hg3 hat3
                     have bV3 := bVa.grown hg3 (Ne.symm nB)
                     have z2 := bV3.at1
                     have zf := bV3.frozen 1
                     have zl := bV3.lt)
        obtain ⟨⟨pl4, hM3⟩, hB3⟩ := HM3.out.num (w3 := v3) (A3 := A3) (c3 := c3) 0 (by omega) own3 hg3 hat3
        have hB4 := hB3 HB3.out (Nat.le_refl _)
        go_meet
        refine ⟨cn2, An2, hn2, A3, c3, none, 0, pl4, Lib.hid ?_, Lib.hid hB4⟩
        rw [show bodyA i = [] ++ [0] from by rw [Hi0.out]; rfl, show predsA i = [] from by rw [Hi0.out]; rfl]
        exact hM3
     · have h0b : ((i : Int) == 0) = false := by simp; omega
       have HM1 := Lib.hid (show Mid w2 gF gF gB gB (nodesA n i) (blocksTo n i) cn cb An Ab hn hbk (bodyA i) [] [] Bb0 cB0 none none 0 0 [gB] from by
        have h := HM0.out
        rw [show nodesA n i = nodesTo n i from if_neg h0, show bodyA i = [] from if_neg h0]
        exact h)
       have Hp := Lib.hid (show predsA i = [(i : Int) - 1] from if_neg h0)
       have hp1 : (1 : Int) ≤ i := by omega
       clear HM0 h0
       have bV : Blk w2 gB 61 #[.slice none 0 0, .slice Bb0 (bodyA i).length cB0, .slice none 0 0, .slice none 0 0] := HM1.out.bv
       have lB := bV.lt
       have zB := (HM1.out.rng gB HM1.out.inB).1
       have nBF : gB ≠ gF := fun e => HM1.out.many.pF (e ▸ HM1.out.inB)
       have bVa := bV.alloc (.cells #[.int .i64 ((i : Int) - 1)] 3)
       have zf := bVa.frozen 3
       have z3 := bVa.at3
       have zl := bVa.lt
       go_wp2
       obtain ⟨hM3, hB3⟩ := HM1.out.setP ((i : Int) - 1) (by omega)
       have hB4 := hB3 HB0.out (Nat.le_refl _)
       go_meet
       rw [World.setCell_alloc_past _ _ _ _ lB] at hM3 hB4
       rw [← Hp.out] at hM3
       exact ⟨cn, An, hn, Bb0, cB0, _, _, _, Lib.hid hM3, Lib.hid hB4⟩
    case rest =>
     obtain ⟨cn2, An2, hn2, Bb, cB, pA, pc, pl, HM1, HB1⟩ := hcut
     clear HM0 HB0
     clear w2
     go_upto_if 62 with (fail)
     go_cut [] from 36 to 94 (fun wx => ∃ (cn3 : Nat) (An3 : Option Addr) (hn3 : List (Option Addr × Nat)) (sA : Option Addr) (sc : Nat) (pl3 : List Nat), Hid (Mid wx gF gF gB gB (nodesTo n (i + 1)) (blocksTo n i) cn3 cb An3 Ab hn3 hbk (bodyA i) (succA n i) (predsA i) Bb cB sA pA sc pc pl3) ∧ Hid (Below gF w5 wx))
     case first =>
      by_cases h1 : i + 1 < n
      · have Hs := Lib.hid (show succA n i = [(i : Int) + 1] from if_pos h1)
        go_upto_region 17 with (fail)
        go_cut [] from 36 to 94 (fun wx => ∃ (cn3 : Nat) (An3 : Option Addr) (hn3 : List (Option Addr × Nat)), Hid (Mid wx gF gF gB gB (nodesTo n (i + 1)) (blocksTo n i) cn3 cb An3 Ab hn3 hbk (bodyA i) [] (predsA i) Bb cB none pA 0 pc pl) ∧ Hid (Below gF w5 wx))
        case first =>
         have bF : Blk wc gF 30 #[.int .i64 0, .int .i64 0, .slice An2 (i + 1) cn2, .slice Ab i cb, .slice none 0 0] := by
          have h := HM1.out.many.fn
          rw [blocksTo_len] at h
          rw [nodesA_len] at h; exact h
         have lF := bF.lt
         have zw : gF ≤ wc.heap.size := by omega
         have ownN : wc.ownsRow gF 59 7 (.slice An2 (i + 1) cn2) (i + 1) (ndShape.cells (nodesA n i) hn2) := by
          have h := HM1.out.many.nds.own
          rw [nodesA_len] at h; exact h
         have nF : (Value.slice An2 (i + 1) cn2).ownBlock ≠ some gF := fun e => HM1.out.many.nds.out gF (by rw [slice_block] at e; exact e) (.inl rfl)
         have bFa := bF.alloc (.cells #[.int .i64 45, .int .i64 0, .int .i64 0, .int .i64 (-1), .string ⟨#[]⟩, .int .i64 0, .slice none 0 0] 59)
         have f2 := bF.at2
         go_wp2_with (at_builtin
                      refine wpList_append_row rfl (.tmp 64) (.tmp 66) 26 rfl gF 59 _ 7 80 Tryz.underlying26 infoNd rfl (by omega) An2 cn2 (i + 1) (ndShape.cells (nodesA n i) hn2) rfl (ownN.alloc _) wc.heap.size 1 1 59 [.int .i64 45, .int .i64 0, .int .i64 0, .int .i64 (-1), .string ⟨#[]⟩, .int .i64 0, .slice none 0 0] rfl (Blk.new _ _ _) rfl (by intro u hu; simp at hu; rcases hu with rfl | rfl | rfl | rfl | rfl | rfl | rfl <;> rfl) (by unfold maxLen; omega) (by omega) (by simp; omega) ?_
                      intro A3 c3 v3 own3 hg3 hat3
                      have bF3 := bFa.grown hg3 (Ne.symm nF)
                      have z2 := bF3.at2
                      have zf := bF3.frozen 2
                      have zl := bF3.lt)
         obtain ⟨hM3, hB3⟩ := HM1.out.node (w3 := v3) (A3 := A3) (c3 := c3) ⟨45, 0, 0, -1, sE, 0, []⟩ (none, 0) zw (RdS.nil _ _ _ _) (by rw [nodesA_len]; exact own3) (by rw [nodesA_len]; exact hg3) (by rw [nodesA_len]; exact hat3)
         have hB4 := hB3 HB1.out (Nat.le_refl _)
         go_meet
         refine ⟨c3, A3, hn2 ++ [(none, 0)], Lib.hid ?_, Lib.hid (by rw [nodesA_len] at hB4; exact hB4)⟩
         rw [nodesA_len] at hM3
         rw [← nodesA_snoc, many_jump h1]
         exact hM3
        case rest =>
         obtain ⟨cn3, An3, hn3, HM3, HB3⟩ := hcut
         clear HM1 HB1
         have bV : Blk wc gB 61 #[.slice none 0 0, .slice Bb (bodyA i).length cB, .slice none 0 0, .slice pA (predsA i).length pc] := HM3.out.bv
         have lB := bV.lt
         have zB := (HM3.out.rng gB HM3.out.inB).1
         have nBF : gB ≠ gF := fun e => HM3.out.many.pF (e ▸ HM3.out.inB)
         have bVa := bV.alloc (.cells #[.int .i64 ((i : Int) + 1)] 3)
         have zf := bVa.frozen 2
         have z2 := bVa.at2
         have zl := bVa.lt
         go_wp2
         obtain ⟨hM4, hB4⟩ := HM3.out.setS ((i : Int) + 1) (by omega)
         have hB5 := hB4 HB3.out (Nat.le_refl _)
         go_meet
         rw [World.setCell_alloc_past _ _ _ _ lB] at hM4 hB5
         rw [← Hs.out] at hM4
         exact ⟨cn3, An3, hn3, _, _, _, Lib.hid hM4, Lib.hid hB5⟩
      · have Hs := Lib.hid (show succA n i = [] from if_neg h1)
        go_upto_region 19 with (fail)
        have bF : Blk wc gF 30 #[.int .i64 0, .int .i64 0, .slice An2 (i + 1) cn2, .slice Ab i cb, .slice none 0 0] := by
         have h := HM1.out.many.fn
         rw [blocksTo_len] at h
         rw [nodesA_len] at h; exact h
        have lF := bF.lt
        have zw : gF ≤ wc.heap.size := by omega
        have ownN : wc.ownsRow gF 59 7 (.slice An2 (i + 1) cn2) (i + 1) (ndShape.cells (nodesA n i) hn2) := by
         have h := HM1.out.many.nds.own
         rw [nodesA_len] at h; exact h
        have nF : (Value.slice An2 (i + 1) cn2).ownBlock ≠ some gF := fun e => HM1.out.many.nds.out gF (by rw [slice_block] at e; exact e) (.inl rfl)
        have bFa := (bF.alloc (.cells #[.int .i64 0] 3)).alloc (.cells #[.int .i64 47, .int .i64 0, .int .i64 0, .int .i64 (-1), .string ⟨#[]⟩, .int .i64 0, .slice (some ⟨wc.heap.size, 0, none⟩) 1 1] 59)
        have f2 := bF.at2
        go_wp2_with (at_builtin
                     refine wpList_append_row rfl (.tmp 74) (.tmp 77) 26 rfl gF 59 _ 7 80 Tryz.underlying26 infoNd rfl (by omega) An2 cn2 (i + 1) (ndShape.cells (nodesA n i) hn2) rfl ((ownN.alloc _).alloc _) (wc.heap.size + 1) 1 1 59 [.int .i64 47, .int .i64 0, .int .i64 0, .int .i64 (-1), .string ⟨#[]⟩, .int .i64 0, .slice (some ⟨wc.heap.size, 0, none⟩) 1 1] rfl (Blk.newAt (by simp) _ _) rfl (by intro u hu; simp at hu; rcases hu with rfl | rfl | rfl | rfl | rfl | rfl | rfl <;> rfl) (by unfold maxLen; omega) (by omega) (by simp; omega) ?_
                     intro A3 c3 v3 own3 hg3 hat3
                     have bF3 := bFa.grown hg3 (Ne.symm nF)
                     have z2 := bF3.at2
                     have zf := bF3.frozen 2
                     have zl := bF3.lt)
        obtain ⟨hMa, hin⟩ := HM1.out.args 0
        obtain ⟨hM3, hB3⟩ := hMa.node (w3 := v3) (A3 := A3) (c3 := c3) ⟨47, 0, 0, -1, sE, 0, [0]⟩ (some ⟨wc.heap.size, 0, none⟩, 1) (by simp; omega) (hin _) (by rw [nodesA_len]; exact own3) (by rw [nodesA_len]; exact hg3) (by rw [nodesA_len]; exact hat3)
        have hB4 := hB3 (HB1.out.alloc zw _) (Nat.le_refl _)
        go_meet
        refine ⟨c3, A3, hn2 ++ [(some ⟨wc.heap.size, 0, none⟩, 1)], none, 0, pl, Lib.hid ?_, Lib.hid (by rw [nodesA_len] at hB4; exact hB4)⟩
        rw [nodesA_len] at hM3
        rw [← nodesA_snoc, many_last (show i + 1 = n by omega), Hs.out]
        exact hM3
     case rest =>
      obtain ⟨cn3, An3, hn3, sA, sc, pl3, HM2, HB2⟩ := hcut
      clear HM1 HB1
      go_upto_region 20 with (fail)
      go_cut [] from 36 to 94 (fun wx => ∃ (Bb2 : Option Addr) (cB2 : Nat) (pl4 : List Nat), Hid (Mid wx gF gF gB gB (nodesTo n (i + 1)) (blocksTo n i) cn3 cb An3 Ab hn3 hbk (bodyA i ++ [(i : Int) + 1]) (succA n i) (predsA i) Bb2 cB2 sA pA sc pc pl4) ∧ Hid (Below gF w5 wx))
      case first =>
       have bV : Blk wc gB 61 #[.slice none 0 0, .slice Bb (bodyA i).length cB, .slice sA (succA n i).length sc, .slice pA (predsA i).length pc] := HM2.out.bv
       have lB := bV.lt
       have zB := (HM2.out.rng gB HM2.out.inB).1
       have nBF : gB ≠ gF := fun e => HM2.out.many.pF (e ▸ HM2.out.inB)
       have bF : Blk wc gF 30 #[.int .i64 0, .int .i64 0, .slice An3 (i + 1 + 1) cn3, .slice Ab i cb, .slice none 0 0] := by
        have h := HM2.out.many.fn
        rw [blocksTo_len] at h
        rw [nodesTo_len _ _ (Nat.succ_pos _)] at h; exact h
       have lF := bF.lt
       have zw : gF ≤ wc.heap.size := by omega
       have f2 := bF.at2
       have hbl : (bodyA i).length ≤ 1 := by unfold bodyA; split <;> simp
       have ownB : wc.ownsRow gB 3 1 (.slice Bb (bodyA i).length cB) (bodyA i).length (ints (bodyA i)) := HM2.out.own
       have nB : (Value.slice Bb (bodyA i).length cB).ownBlock ≠ some gB := fun e => (HM2.out.bin gB (by rw [slice_block] at e; exact e)).2 rfl
       have bVa := bV.alloc (.cells #[.int .i64 ((i : Int) + 1)] 3)
       have f1 := bV.at1
       go_wp2_with (at_builtin
                    refine wpList_append_row rfl (.tmp 81) (.tmp 86) 47 rfl gB 3 _ 1 8 Tryz.underlying47 infoIntR rfl (by omega) Bb cB (bodyA i).length (ints (bodyA i)) rfl (ownB.alloc _) wc.heap.size 1 1 3 [.int .i64 ((i : Int) + 1)] rfl (Blk.new _ _ _) rfl (by intro u hu; simp at hu; subst hu; rfl) (by unfold maxLen; omega) (by omega) (by simp; omega) ?_
                    intro A3 c3 v3 own3 hg3 hat3
                    have bV3 := bVa.grown hg3 (Ne.symm nB)
                    have z2 := bV3.at1
                    have zf := bV3.frozen 1
                    have zl := bV3.lt)
       obtain ⟨⟨pl4, hM3⟩, hB3⟩ := HM2.out.num (w3 := v3) (A3 := A3) (c3 := c3) ((i : Int) + 1) (by omega) own3 hg3 hat3
       have hB4 := hB3 HB2.out (Nat.le_refl _)
       go_meet
       exact ⟨A3, c3, pl4, Lib.hid hM3, Lib.hid hB4⟩
      case rest =>
       obtain ⟨Bb2, cB2, pl4, HM3, HB3⟩ := hcut
       clear HM2 HB2
       go_upto_region 21 with (fail)
       have bF : Blk wc gF 30 #[.int .i64 0, .int .i64 0, .slice An3 (i + 1 + 1) cn3, .slice Ab i cb, .slice none 0 0] := by
        have h := HM3.out.many.fn
        rw [blocksTo_len] at h
        rw [nodesTo_len _ _ (Nat.succ_pos _)] at h; exact h
       have lF := bF.lt
       have zw : gF ≤ wc.heap.size := by omega
       have bV : Blk wc gB 61 #[.slice none 0 0, .slice Bb2 (bodyA i ++ [(i : Int) + 1]).length cB2, .slice sA (succA n i).length sc, .slice pA (predsA i).length pc] := HM3.out.bv
       have lB := bV.lt
       have zB := (HM3.out.rng gB HM3.out.inB).1
       have nBF : gB ≠ gF := fun e => HM3.out.many.pF (e ▸ HM3.out.inB)
       obtain ⟨L, hL⟩ : ∃ L, L = (bodyA i ++ [(i : Int) + 1]).length := ⟨_, rfl⟩
       rw [← hL] at bV
       have HL := Lib.hid hL
       clear hL
       have ownK : wc.ownsRow gF 61 4 (.slice Ab i cb) i (bkShape.cells (blocksTo n i) hbk) := by
        have h := HM3.out.many.bks.own
        rw [blocksTo_len] at h
        exact h
       have nF : (Value.slice Ab i cb).ownBlock ≠ some gF := fun e => HM3.out.many.bks.out gF (by rw [slice_block] at e; exact e) (.inl rfl)
       have bFa := bF.alloc (.cells #[.slice none 0 0, .slice Bb2 L cB2, .slice sA (succA n i).length sc, .slice pA (predsA i).length pc] 61)
       have f3 := bF.at3
       have v0 := bV.at0
       have v1 := bV.at1
       have v2 := bV.at2
       have v3 := bV.at3
       go_wp2_with (at_builtin
                    refine wpList_append_row rfl (.tmp 90) (.tmp 92) 27 rfl gF 61 _ 4 96 Tryz.underlying27 infoBk rfl (by omega) Ab cb i (bkShape.cells (blocksTo n i) hbk) rfl (ownK.alloc _) wc.heap.size 1 1 61 [.slice none 0 0, .slice Bb2 L cB2, .slice sA (succA n i).length sc, .slice pA (predsA i).length pc] rfl (Blk.new _ _ _) rfl (by intro u hu; simp at hu; rcases hu with rfl | rfl | rfl | rfl <;> rfl) (by unfold maxLen; omega) (by omega) (by simp; omega) ?_
                    intro A3 c3 v9 own3 hg3 hat3
                    have bF3 := bFa.grown hg3 (Ne.symm nF)
                    have z3 := bF3.at3
                    have zf := bF3.frozen 3
                    have zl := bF3.lt)
       have hL := HL.out
       subst hL
       obtain ⟨hM4, hB4⟩ := HM3.out.block (w3 := v9) (A3 := A3) (c3 := c3) zw (by rw [blocksTo_len]; exact own3) (by rw [blocksTo_len]; exact hg3) (by rw [blocksTo_len]; exact hat3)
       have hB5 := hB4 HB3.out (Nat.le_refl _)
       rw [blocksTo_len] at hM4 hB5
       rw [many_block hlt] at hM4
       have hb9 := Hb5.out.trans (hB5.mono (by have := Hw5.out; have := HgF.out; omega))
       have HM9 := Lib.hid hM4
       have HB9 := Lib.hid hB5
       clear hM4 hB5 hB4 own3 hg3 hat3 bF3 z3 zf zl bFa nF ownK f3 v0 v1 v2 v3 bF bV
       go_wp2
       go_roundw
       case rel =>
        exact ⟨i + 1, cn3, c3, An3, A3, hn3, _, by omega, by go_num, HM9, HB9, hb9⟩
       case measure => simp [intOf]; omega
  · have e : n = i := by omega
    subst e
    clear hlt hi
    have hn3 : 3 ≤ n := by omega
    have HM2 := Lib.hid (show Many wr gF gF (fun _ => False) (manyFn n false).nodes (manyFn n false).blocks cn cb An Ab hn hbk from by
     have h := HM.out
     have e := many_all (n := n) (by omega)
     rw [show nodesTo n n = (manyFn n false).nodes from congrArg Fn.nodes e, show blocksTo n n = (manyFn n false).blocks from congrArg Fn.blocks e] at h
     exact h)
    clear HM
    go_upto_if 95 with (fail)
    go_cut [] from 95 to 150 (fun wx => ∃ (cn cb : Nat) (An Ab : Option Addr) (hn : List (Option Addr × Nat)) (hbk : List H4), Hid (Many wx gF gF (fun _ => False) (manyFn n cut).nodes (manyFn n cut).blocks cn cb An Ab hn hbk) ∧ Hid (Below gF w5 wx))
    case first =>
     cases cut with
     | false =>
       go_wp2
       go_meet
       exact ⟨cn, cb, An, Ab, hn, hbk, HM2, HB⟩
     | true =>
       obtain ⟨gN, rfl⟩ : ∃ g, An = some ⟨g, 0, none⟩ := HM2.out.nds.at0 (by rw [many_ln]; omega)
       obtain ⟨gA, rfl⟩ : ∃ g, Ab = some ⟨g, 0, none⟩ := HM2.out.bks.at0 (by rw [many_lb]; omega)
       obtain ⟨P2, d2, y1, b2, o2, rfl, yb⟩ := HM2.out.cut_body hn3
       have bF : Blk wr gF 30 #[.int .i64 0, .int .i64 0, .slice (some ⟨gN, 0, none⟩) (n + 1) cn, .slice (some ⟨gA, 0, none⟩) n cb, .slice none 0 0] := by
        have h := HM2.out.fn
        rw [many_ln, many_lb] at h
        exact h
       have lF := bF.lt
       have f3 := bF.at3
       have f2 := bF.at2
       obtain ⟨m2, hm2⟩ : ∃ m2 : Nat, n - 2 = m2 := ⟨_, rfl⟩
       rw [hm2] at y1
       have e2 : (n : Int) - 2 = (m2 : Int) := by omega
       have e3 : (m2 : Int) < (n : Int) := by omega
       have Hm2 := Lib.hid hm2
       clear hm2
       go_upto_region 24 with (fail)
       obtain ⟨m1, hm1⟩ : ∃ m1 : Nat, n - 1 = m1 := ⟨_, rfl⟩
       have e4 : (n : Int) - 1 = (m1 : Int) := by omega
       have e5 : (m1 : Int) < (n : Int) + 1 := by omega
       obtain ⟨⟨q0, s0⟩, ⟨q1, s1⟩, ⟨q2, s2⟩, ⟨q3, s3⟩, ⟨q4, s4⟩, ⟨q5, s5⟩, ⟨q6, s6⟩⟩ := HM2.out.nds.cells7 (k := n - 1) (by rw [many_ln]; omega)
       rw [hm1] at s0 s1 s2 s3 s4 s5 s6
       have Hm1 := Lib.hid hm1
       clear hm1
       have sN := HM2.out.nds.soft
       have sN0 := sN.1
       have sN1 := sN.2
       clear sN
       go_cut [] from 95 to 150 (fun wx => ∃ (cn cb : Nat) (gN gA : Nat) (hn : List (Option Addr × Nat)) (hbk : List H4), Hid (Many wx gF gF (fun _ => False) ((manyFn n false).nodes.set (n - 1) ⟨47, 0, 0, -1, sE, 0, [0]⟩) (manyFn n false).blocks cn cb (some ⟨gN, 0, none⟩) (some ⟨gA, 0, none⟩) hn hbk) ∧ Hid (Below gF w5 wx))
       case first =>
        go_wp2
        obtain ⟨⟨hn', hM3⟩, hB3⟩ := HM2.out.cutN (k := n - 1) (by rw [many_ln]; omega)
        have hB4 := hB3 HB.out (Nat.le_refl _)
        rw [Hm1.out] at hM3 hB4
        go_meet
        refine ⟨cn, cb, gN, gA, hn', hbk, Lib.hid ?_, Lib.hid hB4⟩
        rw [Hm1.out]
        exact hM3
       case rest =>
        clear HM2 HB s0 s1 s2 s3 s4 s5 s6 sN0 sN1 f2 f3 y1 yb bF hb
        obtain ⟨cn, cb, gN, gA, hn, hbk, HM2, HB⟩ := hcut
        have bF : Blk wc gF 30 #[.int .i64 0, .int .i64 0, .slice (some ⟨gN, 0, none⟩) (n + 1) cn, .slice (some ⟨gA, 0, none⟩) n cb, .slice none 0 0] := by
         have h := HM2.out.fn
         rw [List.length_set, many_ln, many_lb] at h
         exact h
        have lF := bF.lt
        have f3 := bF.at3
        obtain ⟨⟨q2, s2⟩, -⟩ := HM2.out.bks.cells4 (k := n - 2) (by rw [many_lb]; omega)
        have sA := HM2.out.bks.soft
        have sA0 := sA.1 (m2 * 4 + 2)
        have sA1 := sA.2
        clear sA
        rw [Hm2.out] at s2
        go_upto_region 25 with (fail)
        go_cut [] from 95 to 150 (fun wx => ∃ (cn cb : Nat) (gN gA : Nat) (hn : List (Option Addr × Nat)) (hbk : List H4), Hid (Many wx gF gF (fun _ => False) ((manyFn n false).nodes.set (n - 1) ⟨47, 0, 0, -1, sE, 0, [0]⟩) ((manyFn n false).blocks.set (n - 2) ⟨[], [(n : Int) - 1], [], [(n : Int) - 3]⟩) cn cb (some ⟨gN, 0, none⟩) (some ⟨gA, 0, none⟩) hn hbk) ∧ Hid (Below gF w5 wx))
        case first =>
         go_wp2
         obtain ⟨⟨hb', hM3⟩, hB3⟩ := HM2.out.cutB (k := n - 2) (i := 2) (many_b2 hn3) (.inl ⟨rfl, rfl⟩)
         have hB4 := hB3 HB.out (Nat.le_refl _)
         rw [Hm2.out] at hM3 hB4
         go_meet
         refine ⟨cn, cb, gN, gA, hn, hb', Lib.hid ?_, Lib.hid hB4⟩
         rw [Hm2.out]
         exact hM3
        case rest =>
         clear HM2 HB s2 sA0 sA1 f3 bF
         obtain ⟨cn, cb, gN, gA, hn, hbk, HM2, HB⟩ := hcut
         have bF : Blk wc gF 30 #[.int .i64 0, .int .i64 0, .slice (some ⟨gN, 0, none⟩) (n + 1) cn, .slice (some ⟨gA, 0, none⟩) n cb, .slice none 0 0] := by
          have h := HM2.out.fn
          rw [List.length_set, List.length_set, many_ln, many_lb] at h
          exact h
         have lF := bF.lt
         have f3 := bF.at3
         obtain ⟨-, ⟨q3, s3⟩⟩ := HM2.out.bks.cells4 (k := n - 1) (by rw [List.length_set, many_lb]; omega)
         have sA := HM2.out.bks.soft
         have sA0 := sA.1 (m1 * 4 + 3)
         have sA1 := sA.2
         clear sA
         rw [Hm1.out] at s3
         have e6 : (m1 : Int) < (n : Int) := by have := Hm1.out; omega
         go_wp2
         obtain ⟨⟨hb', hM3⟩, hB3⟩ := HM2.out.cutB (k := n - 1) (i := 3) (x := ⟨[], [(n : Int)], [], [(n : Int) - 2]⟩) (by rw [List.getElem?_set_ne (by omega)]; exact many_b1 hn3) (.inr ⟨rfl, rfl⟩)
         have hB4 := hB3 HB.out (Nat.le_refl _)
         obtain ⟨q5, q6⟩ := many_cut_all hn3
         rw [q5, show ({ (⟨[], [(n : Int)], [], [(n : Int) - 2]⟩ : Bk) with preds := [] } : Bk) = ⟨[], [(n : Int)], [], []⟩ from rfl, q6] at hM3
         rw [Hm1.out] at hM3 hB4
         go_meet
         exact ⟨cn, cb, _, _, hn, hb', Lib.hid hM3, Lib.hid hB4⟩
    case rest =>
     clear HM2 HB hb
     obtain ⟨cn, cb, An, Ab, hn, hbk, HM, HB⟩ := hcut
     have hb9 := Hb5.out.trans (HB.out.mono (by have := Hw5.out; have := HgF.out; omega))
     have HI9 := Lib.hid (HI5.out.below (show Below w5.heap.size w5 wc from HgF.out ▸ HB.out))
     have HF := Lib.hid (show RdF wc (fun b => gF ≤ b ∧ b < wc.heap.size) An Ab none (manyFn n cut) from HM.out.rdf)
     have bF : Blk wc gF 30 #[.int .i64 0, .int .i64 0, .slice An (n + 1) cn, .slice Ab n cb, .slice none 0 0] := by
      have h := HM.out.fn
      rw [many_ln, many_lb] at h
      exact h
     have Hcap := Lib.hid (show n + 1 ≤ cn from by
      have h := HM.out.nds.own
      rw [many_ln] at h
      rcases h.2 with ⟨_, h⟩ | ⟨g, cap, cur, h, _, _, h2, _⟩
      · omega
      · cases h
        omega)
     have Hgv := Lib.hid (show gv < gF ∧ w3.heap.size ≤ gv ∧ W.heap.size ≤ gF from by
      have h1 := hz5b.out
      have h2 := Hz5.out
      have h3 := HgF.out
      have h4 := Hw5.out
      omega)
     clear HM HB
     have HC := Lib.hid (show ∀ k, ckF oneP oneVs (manyFn n cut) = k → Calls Tryz.prog 14 #[.pointer (some ⟨gv, 0, none⟩), .agg #[.int .i64 0, .int .i64 0, .slice An (n + 1) cn, .slice Ab n cb, .slice none 0 0]] wc (CheckPost wc a W.heap.size gv k) from fun k hk => by
      have h1 := hz3.out
      have h2 := Hgv.out
      have h3 := hb9.size
      have h := check_one (a := a) (B := B) (lo := W.heap.size) (cn := cn) cb 0 HI9.out (fun b h => by have := HSlo.out b h; omega) HF.out (fun b h => by omega) (by rw [many_ln]; exact Hcap.out) (many_small cut) (HS.out.below hb9 hB) (by omega) hb9.size
      rw [hk] at h
      simp only [fv, many_ln, many_lb] at h
      exact h)
     have f0 := bF.at0
     have f1 := bF.at1
     have f2 := bF.at2
     have f3 := bF.at3
     have f4 : wc.cell? ⟨gF, 4, none⟩ = some (.slice none 0 0) := bF.cell 4
     have lF := bF.lt
     by_cases h5 : 500 < n
     · have H0 := Lib.hid (HC.out 1 (ck_many (by rw [many_lb]; exact h5)))
       have h5b : decide ((500 : Int) < (n : Int)) = true := by simp; omega
       clear HC Hcap HF bF
       go_wp2_with fail
       refine H0.out.mono ?_
       rintro e wd ⟨rfl, -, hg⟩
       have hbd := hb9.grown hg hb9.size (fun j hj => by cases hj; have := Hgv.out; have := hz3.out; omega)
       have HIs := Lib.hid (is_any a B wd (HS.out.below hbd hB) (Nat.le_trans hB hbd.size) (k := 1) (by omega) 101)
       generalize errV a 1 = ve at *
       go_wp2_with fail
       refine HIs.out.mono ?_
       rintro e we ⟨rfl, hbe⟩
       have gT : decide (codeOf 1 = 101) = true := by decide
       rw [gT]
       clear gT
       have hbf := hbd.trans (hbe.mono hbd.size)
       go_wp2
       exact HP.out we hbf
     · have h5b : decide ((500 : Int) < (n : Int)) = false := by simp; omega
       have Hn := Lib.hid (show 1 ≤ (manyFn n cut).blocks.length ∧ (manyFn n cut).blocks.length ≤ 500 ∧ (manyFn n cut).nodes.length ≤ 4000 ∧ (manyFn n cut).states.length ≤ 4000 from ⟨by rw [many_lb]; omega, by rw [many_lb]; omega, by rw [many_ln]; omega, by simp [manyFn]⟩)
       cases cut with
       | true =>
         have H0 := Lib.hid (HC.out 12 (ck_no Hn.out (many_core_cut (by omega))))
         clear HC Hcap HF bF
         go_wp2_with fail
         refine H0.out.mono ?_
         rintro e wd ⟨rfl, -, hg⟩
         have hbd := hb9.grown hg hb9.size (fun j hj => by cases hj; have := Hgv.out; have := hz3.out; omega)
         have HIs := Lib.hid (is_any a B wd (HS.out.below hbd hB) (Nat.le_trans hB hbd.size) (k := 12) (by omega) 112)
         generalize errV a 12 = ve at *
         go_wp2_with fail
         refine HIs.out.mono ?_
         rintro e we ⟨rfl, hbe⟩
         have gT : decide (codeOf 12 = 112) = true := by decide
         rw [gT]
         clear gT
         have hbf := hbd.trans (hbe.mono hbd.size)
         go_wp2
         exact HP.out we hbf
       | false =>
         have H0 := Lib.hid (HC.out 0 (ck_ok rfl rfl Hn.out (many_core (by omega))))
         clear HC Hcap
         go_wp2_with fail
         refine H0.out.mono ?_
         rintro e wd ⟨rfl, -, hg⟩
         have hbd := hb9.grown hg hb9.size (fun j hj => by cases hj; have := Hgv.out; have := hz3.out; omega)
         have hFd := HF.out.keep (Kept.grown (Kept.refl _ _) hg (fun b h => h.2) (fun b h e => by have := Option.some.inj e; have := Hgv.out; omega))
         have bF := bF.grown hg (fun e => by have := Option.some.inj e; have := Hgv.out; omega)
         have Hsz := Lib.hid hg.size
         have HSz := Lib.hid (show Calls Tryz.prog 21 #[.agg #[.int .i64 0, .int .i64 0, .slice An (n + 1) cn, .slice Ab n cb, .slice none 0 0]] wd (fun e w' => e = .returned (.int .i64 ((n + 1 : Nat) : Int)) ∧ Below wd.heap.size wd w') from by
          have h := size_any An Ab none cn cb 0 (manyFn n false) wd hFd.blocks (fun b h => by have := Hsz.out; omega) (by rw [many_lb]; omega) (many_sizes (by omega))
          rw [many_size (by omega)] at h
          simp only [fv, many_ln, many_lb] at h
          exact h)
         unfold errV
         clear f0 f1 f2 f3 f4 lF HF hg
         have f0 := bF.at0
         have f1 := bF.at1
         have f2 := bF.at2
         have f3 := bF.at3
         have f4 : wd.cell? ⟨gF, 4, none⟩ = some (.slice none 0 0) := bF.cell 4
         have lF := bF.lt
         go_wp2_with fail
         refine HSz.out.mono ?_
         rintro e we ⟨rfl, hbe⟩
         have hbf := hbd.trans (hbe.mono hbd.size)
         have hFe := hFd.keep (Kept.of_below hbe (fun b h => by have := Hsz.out; omega))
         have bF := bF.below hbe bF.lt
         have Hsz2 := Lib.hid hbe.size
         have HGr := Lib.hid (show Calls Tryz.prog 19 #[.agg #[.int .i64 0, .int .i64 0, .slice An (n + 1) cn, .slice Ab n cb, .slice none 0 0]] we (MatPost we (grF (manyFn n false))) from by
          have h := graph_any An Ab none cn cb 0 (manyFn n false) we hFe.blocks (fun b h => by have := Hsz.out; have := Hsz2.out; omega) (by rw [many_lb]; omega) many_succ1
          simp only [fv, many_ln, many_lb] at h
          exact h)
         have e1 : ((n + 1 : Nat) : Int) = (n : Int) + 1 := by omega
         rw [e1]
         clear e1
         clear f0 f1 f2 f3 f4 lF hFd hFe HSz
         have f0 := bF.at0
         have f1 := bF.at1
         have f2 := bF.at2
         have f3 := bF.at3
         have f4 : we.cell? ⟨gF, 4, none⟩ = some (.slice none 0 0) := bF.cell 4
         have lF := bF.lt
         go_wp2_with fail
         refine HGr.out.mono ?_
         rintro e wg ⟨G, hs, rfl, bG, hM, hG, hbg⟩
         have hbh := hbf.trans (hbg.mono hbf.size)
         have gl : (grF (manyFn n false)).length = n := by simp [grF, many_lb]
         obtain ⟨b, off, A0, c0, hA, hb0, x0, x1⟩ := rd_row (hM.rd bG (S := fun b => b < wg.heap.size) bG.lt (fun b _ h => h)) (k := 0) (by rw [gl]; omega)
         cases hA
         rw [many_g0 (by omega)] at x0 x1
         rw [gl]
         clear gl hM bG HGr bF f0 f1 f2 f3 f4 lF hbg
         have HSI := Lib.hid (show Calls Tryz.prog 15 #[.slice A0 1 c0, .slice (some ⟨wg.heap.size, 0, none⟩) 1 1] (wg.alloc (.cells #[.int .i64 1] 3)) (fun e w' => e = .returned (.bool true) ∧ Below (wg.alloc (.cells #[.int .i64 1] 3)).heap.size (wg.alloc (.cells #[.int .i64 1] 3)) w') from by
          have h := sameInts_any A0 (some ⟨wg.heap.size, 0, none⟩) 1 1 c0 1 [1] [1] (wg.alloc (.cells #[.int .i64 1] 3)) (by omega) ((x1.keep (Kept.alloc (Kept.refl _ _) (fun b h => h) _)).rd (fun b h => by simp; omega)) (Blk.rd (xs := ints [1]) (Blk.new wg _ _) rfl (by simp))
          rw [decide_eq_true rfl] at h
          exact h)
         have hbi := hbh.alloc hbh.size (.cells #[.int .i64 1] 3)
         have x0 : wg.cell? ⟨G, 0, none⟩ = some (.slice A0 1 c0) := x0
         have n0 : (0 : Int) < (n : Int) := by omega
         clear x1
         go_wp2_with fail
         refine HSI.out.mono ?_
         rintro e wj ⟨rfl, hbj⟩
         have hbk := hbi.trans (hbj.mono hbi.size)
         go_wp2
         exact HP.out wj hbk
end Go.Proofs.YtjjmpfmhggcjiaaGreatDoor
