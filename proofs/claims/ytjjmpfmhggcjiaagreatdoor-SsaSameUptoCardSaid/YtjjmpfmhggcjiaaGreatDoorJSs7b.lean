/-
 Ss7b.
-/
import Derived.Test.YtjjmpfmhggcjiaaGreatDoorJSs7
set_option linter.unusedSimpArgs false
set_option linter.unusedVariables false
namespace Go.Proofs.YtjjmpfmhggcjiaaGreatDoor
open Go.RowKit Go.Maps
set_option maxRecDepth 100000 in
set_option maxHeartbeats 8000000 in
theorem blocks_any {w : World} {S : Nat → Prop} {gc gv : Nat} {p : Prg} {vs : List Vs} {f : Fn} {bv qv tv lv dv : Value} (hC : Chk w S gc gv p vs f bv qv tv lv dv) (hN : f.nodes.length ≤ 4000) (hB : f.blocks.length ≤ 500) (hB0 : 0 < f.blocks.length) (hrow : ∀ b, b < f.blocks.length → (allN (bkAt f b)).length ≤ 1000000) (hsu : ∀ b, b < f.blocks.length → (bkAt f b).succ.length ≤ 1000000 ∧ (bkAt f b).preds.length ≤ 1000000) :
 Calls Tryz.prog 42 #[.pointer (some ⟨gc, 0, none⟩)] w (BlocksPost w S gc gv p vs f lv dv) := by
 have hst := stand_any hC hN hB hrow
 have hm1 := fun W => run_make_row' (P := Tryz.prog) 50 47 (.slice none 0 0) 24 Tryz.underlying50 infoSl rfl .i64 .i64 f.blocks.length (by omega) (by omega) W
 rw [made_hdrs] at hm1
 have hP1 : ∀ w', w.grownBy w' (some gc) → ¬ (standOk f ∧ BlocksOk f) → BlocksPost w S gc gv p vs f lv dv (.returned (.bool false)) w' := fun w' h1 h2 => ⟨h1, .inl ⟨rfl, h2⟩⟩
 have HPf := Lib.hid hP1
 have Hst := Lib.hid hst
 have hP2 : ∀ w' gb gp gt gi gd blk plc idm dep, w.grownBy w' (some gc) → BlocksOk f → Stands f blk plc → BlocksR w w' S gc gv p vs f lv dv gb gp gt gi gd blk plc idm dep → BlocksPost w S gc gv p vs f lv dv (.returned (.bool true)) w' := fun w' gb gp gt gi gd blk plc idm dep h1 h2 h3 h4 => ⟨h1, .inr ⟨rfl, h2, gb, gp, gt, gi, gd, blk, plc, idm, dep, h3, h4⟩⟩
 have HPt := Lib.hid hP2
 clear hP1 hP2 hst
 generalize BlocksPost w S gc gv p vs f lv dv = Post at *
 have Hrow := Lib.hid hrow
 have Hsu := Lib.hid hsu
 have HC := Lib.hid hC
 clear hrow hsu hC
 go_enter Tryz.func42, Tryz.ntmps42
 go_wp2_with fail
 refine Hst.out.mono ?_
 rintro e w1 ⟨hg, ⟨rfl, hno⟩ | ⟨rfl, gb, gp, blk, plc, hS, R⟩⟩
 · have HN := Lib.hid (show ¬ (standOk f ∧ BlocksOk f) from fun h => hno h.1)
   clear hno
   go_wp2
   exact HPf.out _ hg HN.out
 · obtain ⟨Ac, cc, Am, cm, An, cn, Ab, cb, As, cs, hC1⟩ := R.chk
   have bC := hC1.blk
   have y6 : w1.cell? ⟨gc, 6, none⟩ = some (.slice Ab f.blocks.length cb) := bC.cell 6
   have Hlt := Lib.hid hC1.lt
   have HC1 := Lib.hid hC1
   have HR := Lib.hid R
   have HS := Lib.hid hS
   obtain ⟨gq, hgq⟩ : ∃ gq, gq = w1.heap.size := ⟨_, rfl⟩
   have hlC : gc < gq := by have := bC.lt; omega
   have hlV : gv < gq := by have := hC1.gv.1; omega
   have hwq : w.heap.size ≤ gq := by have := hg.size; omega
   have HltQ := Lib.hid (fun b (hb : S b) => (show b < gq by have := (Hlt.out b hb).1; omega))
   have HKQ := Lib.hid (fun b (hb : S b ∨ b = gv ∨ b = gc) => (show b < gq from hb.elim (HltQ.out b) (fun h => h.elim (fun e => e ▸ hlV) (fun e => e ▸ hlC))))
   have ST0 : Hid (BlkSt w w1 (w1.alloc (.cells ⟨hdrs (List.replicate f.blocks.length (none, 0)) (List.replicate f.blocks.length [])⟩ 47)) gc gq (List.replicate f.blocks.length (none, 0)) (pdsL f 0 0)) := Lib.hid (by
    rw [pdsL_zero]
    exact ⟨Blk.newAt hgq.symm _ _, OwnMat.made _ _ _ _, (KB.refl _ w1).alloc (fun x hx => by omega) _, by simp; omega, hg.trans (World.grownBy_alloc w1 _ (some gc))⟩)
   have bC2 := bC.alloc (.cells ⟨hdrs (List.replicate f.blocks.length (none, 0)) (List.replicate f.blocks.length [])⟩ 47)
   clear hC1 R hS Hst HC
   go_upto_region 4 with (fail)
   rw [← hgq]
   have Hgq := Lib.hid hgq
   clear bC hg y6 hgq
   generalize w1.alloc (.cells ⟨hdrs (List.replicate f.blocks.length (none, 0)) (List.replicate f.blocks.length [])⟩ 47) = w2 at *
   have y6 : w2.cell? ⟨gc, 6, none⟩ = some (.slice Ab f.blocks.length cb) := bC2.cell 6
   -- what the checker's cells and rows say in any world of the loops
   have HA := Lib.hid (fun wr hs ls (h : BlkSt w w1 wr gc gq hs ls) => (show ChkAt wr S gc gv p vs f Ac cc Am cm An cn Ab cb As cs _ _ tv lv dv from HC1.out.kb (h.k.sub HKQ.out) (by have := h.z; have := Hgq.out; omega)))
   go_wp2
   go_loopw [31] (fun iv wr => ∃ (b : Nat) (hs : List (Option Addr × Nat)), b ≤ f.blocks.length ∧ iv = .int .i64 b ∧ Hid (∀ c, c < b → BodyOk f (bkAt f c) ∧ SuccOk f (bkAt f c)) ∧ Hid (BlkSt w w1 wr gc gq hs (pdsL f b 0))) (fun iv _ => f.blocks.length - (intOf iv).toNat)
   case atStart => exact ⟨0, _, Nat.zero_le _, rfl, Lib.hid (fun c hc => by omega), ST0⟩
   case round =>
    clear ST0 y6 bC2
    obtain ⟨b, hs, hb, rfl, HO, ST⟩ := hrel
    have hC2 := HA.out _ _ _ ST.out
    by_cases hlt : b < f.blocks.length
    · skip
      -- dev<
      have k0 : (0 : Int) ≤ b := by omega
      have k1 : (b : Int) < f.blocks.length := by omega
      obtain ⟨bb, off, A1, c1, A2, c2, A3, c3, A4, c4, hAb, hSb, x0, x1, x2, x3, r1, r2, r3, r4⟩ := rd_bk hC2.fn.blocks hlt
      subst hAb
      have hat := fun k n => HS.out.at_ b k n hlt
      have hal := Hrow.out b hlt
      have hsl : (f.blocks.getD b default).succ.length ≤ 1000000 := (Hsu.out b hlt).1
      generalize hxb : f.blocks.getD b default = xb at *
      have Hxb := Lib.hid hxb
      have Hat := Lib.hid hat
      have lbb := (hC2.lt bb hSb).1
      clear hxb hat r1 r4
      have bX := Blk.new wr 61 #[.slice A1 xb.phis.length c1, .slice A2 xb.body.length c2, .slice A3 xb.succ.length c3, .slice A4 xb.preds.length c4]
      have ST2 := Lib.hid (ST.out.alloc (.cells #[.slice A1 xb.phis.length c1, .slice A2 xb.body.length c2, .slice A3 xb.succ.length c3, .slice A4 xb.preds.length c4] 61))
      by_cases hbe : xb.body.length = 0
      · have HN := Lib.hid (show ¬ (standOk f ∧ BlocksOk f) from fun h => by
         have := (h.2.body b hlt).ne
         rw [show bkAt f b = xb from Hxb.out] at this
         exact this (List.eq_nil_of_length_eq_zero hbe))
        have ge : (xb.body.length == 0) = true := by simpa using hbe
        rw [hbe] at x1 ST2
        clear bX hC2 r2 r3
        generalize hbl3 : xb.body.length = bl at *
        go_wp2
        exact HPf.out _ ST2.out.g HN.out
      · have ge : (xb.body.length == 0) = false := by simpa using hbe
        have hbm : xb.body.length ≤ 1000000 := by
         have : (allN (bkAt f b)).length = xb.phis.length + xb.body.length := by rw [show bkAt f b = xb from Hxb.out]; simp [allN]
         omega
        have hr2 := r2.keep (Kept.of_below ((Below.refl wr.heap.size wr).alloc (Nat.le_refl _) (.cells #[.slice A1 xb.phis.length c1, .slice A2 xb.body.length c2, .slice A3 xb.succ.length c3, .slice A4 xb.preds.length c4] 61)) (fun x hx => (hC2.lt x hx).1))
        have hr3 := r3.keep (Kept.of_below ((Below.refl wr.heap.size wr).alloc (Nat.le_refl _) (.cells #[.slice A1 xb.phis.length c1, .slice A2 xb.body.length c2, .slice A3 xb.succ.length c3, .slice A4 xb.preds.length c4] 61)) (fun x hx => (hC2.lt x hx).1))
        have y1 := bX.at1
        have lX := bX.lt
        clear r2 r3 hC2
        go_upto_region 9 with (fail)
        obtain ⟨gx, hgx⟩ : ∃ gx, gx = wr.heap.size := ⟨_, rfl⟩
        rw [← hgx] at bX y1 lX ⊢
        clear hgx x0 x1 x2 x3 lbb
        have y2 := bX.at2
        generalize wr.alloc (.cells #[.slice A1 xb.phis.length c1, .slice A2 xb.body.length c2, .slice A3 xb.succ.length c3, .slice A4 xb.preds.length c4] 61) = w4 at *
        have hC4 := HA.out _ _ _ ST2.out
        have c5 : w4.cell? ⟨gc, 5, none⟩ = some (.slice An f.nodes.length cn) := hC4.blk.cell 5
        have c6 : w4.cell? ⟨gc, 6, none⟩ = some (.slice (some ⟨bb, off, none⟩) f.blocks.length cb) := hC4.blk.cell 6
        have hnd := hC4.fn.nodes
        have HC4 := Lib.hid hC4
        have Hbe := Lib.hid hbe
        have gei : ((xb.body.length : Int) == 0) = false := by simpa using hbe
        clear hC4 ST hbe ge
        go_wp2
        simp only [gei]
        go_loopw [43] (fun jv wx => ∃ k : Nat, k ≤ xb.body.length ∧ jv = .int .i64 k ∧ Hid (∀ (j : Nat) (n : Int), j < k → xb.body[j]? = some n → endAt f xb j n) ∧ wx = w4) (fun jv _ => xb.body.length - (intOf jv).toNat)
        case atStart => exact ⟨0, Nat.zero_le _, rfl, Lib.hid (fun j n h => by omega), rfl⟩
        case round =>
         clear gei
         obtain ⟨k, hk, rfl, HE, rfl⟩ := hrel
         by_cases hkl : k < xb.body.length
         · have j0 : (0 : Int) ≤ k := by omega
           have j1 : (k : Int) < xb.body.length := by omega
           obtain ⟨n, hn⟩ : ∃ n, xb.body[k]? = some n := ⟨_, List.getElem?_eq_getElem hkl⟩
           have hall : (allN (bkAt f b))[xb.phis.length + k]? = some n := by
            rw [show bkAt f b = xb from Hxb.out]
            unfold allN
            rw [List.getElem?_append_right (by omega), Nat.add_sub_cancel_left]
            exact hn
           obtain ⟨n0, n1, -⟩ := Hat.out _ n hall
           obtain ⟨m, rfl⟩ : ∃ m : Nat, n = m := ⟨n.toNat, by omega⟩
           obtain ⟨br, orr, hA2, hbr, z0⟩ := ints_at (hr2.rd (B := gq) (fun x hx => HltQ.out x hx)) (k := k) hkl
           subst hA2
           have hnv : xb.body[k]?.getD 0 = (m : Int) := by rw [hn]; rfl
           rw [hnv] at z0
           obtain ⟨bn, on_, An2, cn2, hAn, hSn, v0, v1, v2, v3, v4, v5, v6, -⟩ := rd_nd hnd (show m < f.nodes.length by omega)
           subst hAn
           have hEnd : ∀ op, (ndAt f m).op = op → (endAt f xb k (m : Int) ↔ if k + 1 = xb.body.length then endsF op = some xb.succ.length else endsF op = none) := fun op e => by
            unfold endAt
            simp only [Int.toNat_natCast]
            rw [e]
           have hEnd2 := hEnd _ rfl
           have Hn := Lib.hid hn
           have hend := ends_any (f.nodes.getD m default).op
           generalize (f.nodes.getD m default).op = op at *
           obtain ⟨en, hen⟩ : ∃ en, endsF op = en := ⟨_, rfl⟩
           simp only [hen] at hend
           rw [hen] at hEnd2
           have Hend := Lib.hid hend
           have HE2 := Lib.hid hEnd2
           have HNN := Lib.hid (fun (h : ¬ endAt f xb k (m : Int)) => (show ¬ (standOk f ∧ BlocksOk f) from fun h2 => h (by
            have := (h2.2.body b hlt).ends k m
            rw [show bkAt f b = xb from Hxb.out] at this
            exact this Hn.out)))
           clear v1 v2 v3 v4 v5 v6 hnv hn hall hEnd hEnd2 hend hen
           have gl : ((k : Int) == (xb.body.length : Int) - 1) = decide (k + 1 = xb.body.length) := by
            rw [Bool.eq_iff_iff]; simp; omega
           -- dev<
           have Hk := Lib.hid (fun (h : endAt f xb k (m : Int)) => (show ∀ (j : Nat) (n : Int), j < k + 1 → xb.body[j]? = some n → endAt f xb j n from fun j n' hj hn' => by
            by_cases e : j = k
            · subst e
              rw [Hn.out] at hn'
              cases hn'
              exact h
            · exact HE.out j n' (by omega) hn'))
           go_wp2_with fail
           refine (Hend.out _).mono ?_
           rintro e w5 ⟨rfl, rfl⟩
           clear Hend
           by_cases hl : k + 1 = xb.body.length
           · rw [decide_eq_true hl] at gl
             have HE3 := Lib.hid (HE2.out.trans (by rw [if_pos hl]))
             clear hl
             cases en with
             | none =>
               have HN := Lib.hid (HNN.out (fun h => by have := HE3.out.1 h; cases this))
               go_wp2
               exact HPf.out _ ST2.out.g HN.out
             | some mm =>
               by_cases hm : mm = xb.succ.length
               · have HK2 := Lib.hid (Hk.out (HE3.out.2 (by rw [hm])))
                 have gm : ((xb.succ.length : Int) != (mm : Int)) = false := by simp; omega
                 clear hm
                 go_wp2
                 go_roundw
                 case rel => exact ⟨k + 1, by omega, by go_num, HK2, trivial⟩
                 case measure => simp [intOf]; omega
               · have HN := Lib.hid (HNN.out (fun h => by have := HE3.out.1 h; cases this; exact hm rfl))
                 have gm : ((xb.succ.length : Int) != (mm : Int)) = true := by simp; omega
                 clear hm
                 go_wp2
                 exact HPf.out _ ST2.out.g HN.out
           · rw [decide_eq_false hl] at gl
             have HE3 := Lib.hid (HE2.out.trans (by rw [if_neg hl]))
             cases en with
             | none =>
               have HK2 := Lib.hid (Hk.out (HE3.out.2 rfl))
               go_wp2
               go_roundw
               case rel => exact ⟨k + 1, by omega, by go_num, HK2, trivial⟩
               case measure => simp [intOf]; omega
             | some mm =>
               have HN := Lib.hid (HNN.out (fun h => by have := HE3.out.1 h; cases this))
               go_wp2
               exact HPf.out _ ST2.out.g HN.out
           -- dev>
         · have hge : ¬ (k : Int) < xb.body.length := by omega
           have HBO := Lib.hid (show BodyOk f (bkAt f b) from by
            rw [show bkAt f b = xb from Hxb.out]
            exact ⟨fun h => Hbe.out (by rw [h]; rfl), fun j n hn => HE.out j n (by have := (List.getElem?_eq_some_iff.1 hn).1; omega) hn⟩)
           have HR3 := Lib.hid hr3
           clear hkl hr2 hr3 HE
           go_wp2
           go_loopw [83] (fun jv wx => ∃ (i : Nat) (hs : List (Option Addr × Nat)), i ≤ xb.succ.length ∧ jv = .int .i64 i ∧ Hid (∀ (j : Nat) (s : Int), j < i → xb.succ[j]? = some s → (0 ≤ s ∧ s < f.blocks.length) ∧ s ∉ xb.succ.take j) ∧ Hid (BlkSt w w1 wx gc gq hs (pdsL f b i))) (fun jv _ => xb.succ.length - (intOf jv).toNat)
           case atStart => exact ⟨0, hs, Nat.zero_le _, rfl, Lib.hid (fun j s h => by omega), ST2⟩
           case round =>
            clear c5 c6 y1 y2 hnd bX lX
            obtain ⟨i, hs, hi, rfl, HU, ST⟩ := hrel
            by_cases hil : i < xb.succ.length
            · have i0 : (0 : Int) ≤ i := by omega
              have i1 : (i : Int) < xb.succ.length := by omega
              obtain ⟨s, hsx⟩ : ∃ s, xb.succ[i]? = some s := ⟨_, List.getElem?_eq_getElem hil⟩
              have hC5 := HA.out _ _ _ ST.out
              have d6 : wr.cell? ⟨gc, 6, none⟩ = some (.slice (some ⟨bb, off, none⟩) f.blocks.length cb) := hC5.blk.cell 6
              obtain ⟨br, orr, hA3, hbr, z0⟩ := ints_at ((HR3.out.keep (BlkSt.kept ST2.out ST.out HltQ.out)).rd (B := gq) HltQ.out) (k := i) hil
              subst hA3
              have hsv : xb.succ[i]?.getD 0 = s := by rw [hsx]; rfl
              rw [hsv] at z0
              have hCl := hC5.blk.lt
              have hz5 := ST.out.z
              have HSn := Lib.hid (fun (h : (0 ≤ s ∧ s < f.blocks.length) → s ∈ xb.succ.take i) => (show ¬ (standOk f ∧ BlocksOk f) from fun h2 => by
               have hso := h2.2.succ b hlt
               rw [show bkAt f b = xb from Hxb.out] at hso
               exact nodup_not hsx (h (hso.rng s (List.mem_of_getElem? hsx))) hso.nodup))
              have Hsx := Lib.hid hsx
              clear hsx hsv hC5
              cases hin : inB s f.blocks.length with
              | false =>
                have Hin := Lib.hid hin
                have HN := Lib.hid (HSn.out (fun h => by exfalso; unfold inB at hin; simp at hin; omega))
                clear hin
                go_wp2_with fail
                refine (ssaIn_eq Hin.out _).mono ?_
                rintro e w' ⟨rfl, hw'⟩
                rw [hw']
                clear hw'
                go_wp2
                exact HPf.out _ ST.out.g HN.out
              | true =>
                have hr0 : 0 ≤ s ∧ s < f.blocks.length := by unfold inB at hin; simp at hin; exact hin
                have Hin := Lib.hid hin
                obtain ⟨q, rfl⟩ : ∃ q : Nat, s = q := ⟨s.toNat, by omega⟩
                have q0 : (0 : Int) ≤ q := by omega
                have q1 : (q : Int) < f.blocks.length := by omega
                have hget := pdsL_get (f := f) (B := b) (i := i) (s := q) (by omega)
                have hln := pdsAt_len (f := f) (B := b) (i := i) (s := q)
                obtain ⟨A5, c5, hh1, -, hown⟩ := ST.out.m.get (k := q) (by rw [pdsL_len]; omega)
                rw [show (pdsL f b i).getD q [] = pdsAt f b i q by rw [List.getD_eq_getElem?_getD, hget]; rfl] at hown
                have hstep := fun h => pdsL_step (f := f) (B := b) (i := i) (k := (q : Int)) (by rw [show bkAt f b = xb from Hxb.out]; exact Hsx.out) q0 q1 h
                have hmm := pdsAt_mem (f := f) (B := b) (i := i) (s := q)
                simp only [Int.toNat_natCast] at hstep
                rw [show bkAt f b = xb from Hxb.out] at hmm hstep
                have Hstep := Lib.hid hstep
                have Hmm := Lib.hid hmm
                have Hget := Lib.hid hget
                have y5 : wr.cell? ⟨gq, q, none⟩ = some (.slice A5 (pdsAt f b i q).length c5) := hdrs_cell ST.out.q hh1 hget
                clear hin hr0 hstep hmm hget
                generalize pdsAt f b i q = la at *
                go_wp2_with fail
                refine (ssaIn_eq Hin.out _).mono ?_
                rintro e w' ⟨rfl, hw'⟩
                rw [hw']
                clear hw'
                go_wp2_with fail
                refine (contains_any _ (own_rd hown) (by omega) _).mono ?_
                rintro e w' ⟨rfl, hw'⟩
                rw [← hw']
                clear hw'
                by_cases hm : (b : Int) ∈ la
                · rw [decide_eq_true hm]
                  have HN := Lib.hid (HSn.out (fun _ => Hmm.out.1 hm))
                  clear hm
                  go_wp2
                  exact HPf.out _ ST.out.g HN.out
                · rw [decide_eq_false hm]
                  have hnt : (q : Int) ∉ xb.succ.take i := fun h => hm (Hmm.out.2 h)
                  have Hst := Lib.hid (Hstep.out hnt)
                  have Hnt := Lib.hid hnt
                  clear hm hnt
                  go_wp2_with (at_builtin
                               refine wpList_append_row rfl (.tmp 109) (.tmp 111) 47 rfl (gq + 1) 3 _ 1 8 Tryz.underlying47 infoIntR rfl (by omega) A5 c5 la.length (ints la) rfl (hown.alloc _) wr.heap.size 1 1 3 [.int .i64 (b : Int)] rfl (Blk.new _ _ _) rfl (by intro u hu; simp at hu; subst hu; rfl) (by unfold maxLen; omega) (by omega) (by simp; omega) ?_
                               intro A6 c6 w3 hown3 hg3 hat3
                               have hpp := Lib.hid ((ST.out.alloc (.cells ⟨[.int .i64 (b : Int)]⟩ 3)).put (l' := la ++ [(b : Int)]) hh1 Hget.out hown3 (by simp) (by simp [ints]) hg3 hat3 hwq)
                               have f4 := hpp.out.2.frozen q
                               have y4 := hdrs_cell hpp.out.2 hh1 Hget.out
                               have l4 := hpp.out.2.lt)
                  go_roundw
                  case rel => exact ⟨i + 1, _, by omega, by go_num, Lib.hid (fun j s' hj hs' => by
                   by_cases e : j = i
                   · subst e
                     rw [Hsx.out] at hs'
                     cases hs'
                     exact ⟨⟨q0, q1⟩, Hnt.out⟩
                   · exact HU.out j s' (by omega) hs'), Lib.hid (by rw [Hst.out]; exact hpp.out.1)⟩
                  case measure => simp [intOf]; omega
            · have e : i = xb.succ.length := by omega
              have hge : ¬ (i : Int) < xb.succ.length := by omega
              have HSO := Lib.hid (show SuccOk f (bkAt f b) from by
               rw [show bkAt f b = xb from Hxb.out]
               refine ⟨fun s hs => ?_, nodup_of_takes fun j s hj => (HU.out j s (by have := (List.getElem?_eq_some_iff.1 hj).1; omega) hj).2⟩
               obtain ⟨j, hj, rfl⟩ := List.mem_iff_getElem.1 hs
               exact (HU.out j _ (by omega) (List.getElem?_eq_getElem hj)).1)
              have hrw := pdsL_row (f := f) (B := b) (i := i) (by rw [show bkAt f b = xb from Hxb.out]; omega)
              have Hrw := Lib.hid hrw
              clear hil e hrw
              go_wp2
              go_roundw
              case rel => exact ⟨b + 1, hs, by omega, by go_num, Lib.hid (fun c hc => by
               by_cases e : c = b
               · subst e; exact ⟨HBO.out, HSO.out⟩
               · exact HO.out c (by omega)), Lib.hid (by rw [← Hrw.out]; exact ST.out)⟩
              case measure => simp [intOf]; omega
      -- dev>
    · obtain rfl : b = f.blocks.length := by omega
      have hge : ¬ (f.blocks.length : Int) < f.blocks.length := by omega
      have y6 : wr.cell? ⟨gc, 6, none⟩ = some (.slice Ab f.blocks.length cb) := hC2.blk.cell 6
      have hCl := hC2.blk.lt
      clear hlt hC2
      go_wp2
      go_loopw [122] (fun iv wx => ∃ c : Nat, c ≤ f.blocks.length ∧ iv = .int .i64 c ∧ Hid (∀ j, j < c → (bkAt f j).preds = pdsTo f f.blocks.length j) ∧ Hid (BlkSt w w1 wx gc gq hs (pdsL f f.blocks.length 0))) (fun iv _ => f.blocks.length - (intOf iv).toNat)
      case atStart => exact ⟨0, Nat.zero_le _, rfl, Lib.hid (fun j h => by omega), ST⟩
      case round =>
       clear y6 hCl ST
       obtain ⟨c, hc, rfl, HP4, ST⟩ := hrel
       have hC2 := HA.out _ _ _ ST.out
       have y6 : wr.cell? ⟨gc, 6, none⟩ = some (.slice Ab f.blocks.length cb) := hC2.blk.cell 6
       have hCl := hC2.blk.lt
       by_cases hlt : c < f.blocks.length
       · have k0 : (0 : Int) ≤ c := by omega
         have k1 : (c : Int) < f.blocks.length := by omega
         obtain ⟨bb, off, A1, c1, A2, c2, A3, c3, A4, c4, hAb, hSb, x0, x1, x2, x3, r1, r2, r3, r4⟩ := rd_bk hC2.fn.blocks hlt
         subst hAb
         have hpl : (f.blocks.getD c default).preds.length ≤ 1000000 := (Hsu.out c hlt).2
         have lbb := (hC2.lt bb hSb).1
         have hget := pdsL_get (f := f) (B := f.blocks.length) (i := 0) (s := c) hlt
         rw [pdsAt_zero] at hget
         obtain ⟨A5, c5, hh1, -, hown⟩ := ST.out.m.get (k := c) (by rw [pdsL_len]; exact hlt)
         rw [show (pdsL f f.blocks.length 0).getD c [] = pdsTo f f.blocks.length c by rw [List.getD_eq_getElem?_getD, hget]; rfl] at hown
         have hno : (f.blocks.getD c default).preds ≠ pdsTo f f.blocks.length c → ¬ (standOk f ∧ BlocksOk f) := fun h h2 => h (h2.2.preds c hlt)
         have HNO := Lib.hid hno
         have hyes : (f.blocks.getD c default).preds = pdsTo f f.blocks.length c → ∀ j, j < c + 1 → (bkAt f j).preds = pdsTo f f.blocks.length j := fun h j hj => by
          by_cases e : j = c
          · subst e; exact h
          · exact HP4.out j (by omega)
         have HYES := Lib.hid hyes
         have Hget := Lib.hid hget
         clear r1 r2 r3 hno hyes hget hC2
         generalize f.blocks.getD c default = xb at *
         generalize pdsTo f f.blocks.length c = la at *
         have bX := Blk.new wr 61 #[.slice A1 xb.phis.length c1, .slice A2 xb.body.length c2, .slice A3 xb.succ.length c3, .slice A4 xb.preds.length c4]
         have ST2 := Lib.hid (ST.out.alloc (.cells #[.slice A1 xb.phis.length c1, .slice A2 xb.body.length c2, .slice A3 xb.succ.length c3, .slice A4 xb.preds.length c4] 61))
         have y5 := hdrs_cell ST2.out.q hh1 Hget.out
         have hr4 := (r4.keep (BlkSt.kept ST.out ST2.out HltQ.out)).rd (B := gq) HltQ.out
         have hrow := own_rd (hown.alloc (.cells #[.slice A1 xb.phis.length c1, .slice A2 xb.body.length c2, .slice A3 xb.succ.length c3, .slice A4 xb.preds.length c4] 61))
         have lX := bX.lt
         clear r4 hown hh1
         go_upto_region 27 with (fail)
         obtain ⟨gx, hgx⟩ : ∃ gx, gx = wr.heap.size := ⟨_, rfl⟩
         rw [← hgx] at bX lX ⊢
         clear hgx x0 x1 x2 x3 lbb y6 hCl
         have y3 := bX.at3
         generalize wr.alloc (.cells #[.slice A1 xb.phis.length c1, .slice A2 xb.body.length c2, .slice A3 xb.succ.length c3, .slice A4 xb.preds.length c4] 61) = w4 at *
         have lq := ST2.out.q.lt
         by_cases he : xb.preds = la
         · have Hq := Lib.hid (fun n => equal_eq (c1 := c4) (c2 := c5) (decide_eq_true he) (w4.drewN n) (hr4.drewN n) (hrow.drewN n) (by omega))
           have HY := Lib.hid (HYES.out he)
           have hcc : c5 = c5 := rfl
           clear hr4 hrow he HYES HNO bX hcc
           go_quiet ((go_at_call 91; exact Calls.quiet_of (Hq.out _)))
           rename Nat => q
           go_wp2
           go_roundw
           case rel => exact ⟨c + 1, by omega, by go_num, HY, Lib.hid (ST2.out.drewN q)⟩
           case measure => simp [intOf]; omega
         · have Hq := Lib.hid (fun n => equal_eq (c1 := c4) (c2 := c5) (decide_eq_false he) (w4.drewN n) (hr4.drewN n) (hrow.drewN n) (by omega))
           have HN := Lib.hid (HNO.out he)
           clear hr4 hrow he HYES HNO bX
           go_quiet ((go_at_call 91; exact Calls.quiet_of (Hq.out _)))
           rename Nat => q
           go_wp2
           exact HPf.out _ (ST2.out.drewN q).g HN.out
       · obtain rfl : c = f.blocks.length := by omega
         have hge : ¬ (f.blocks.length : Int) < f.blocks.length := by omega
         have z3 : wr.cell? ⟨gc, 3, none⟩ = some (.int .i64 f.mth) := hC2.blk.cell 3
         have z4 : wr.cell? ⟨gc, 4, none⟩ = some (.int .i64 f.entry) := hC2.blk.cell 4
         have z5 : wr.cell? ⟨gc, 5, none⟩ = some (.slice An f.nodes.length cn) := hC2.blk.cell 5
         have z7 : wr.cell? ⟨gc, 7, none⟩ = some (.slice As f.states.length cs) := hC2.blk.cell 7
         have HC2 := Lib.hid hC2
         have Hgl := Lib.hid (show (grF f).length = f.blocks.length by simp [grF])
         clear hlt hC2
         go_wp2_with fail
         refine (graph_any An Ab As cn cb cs f _ HC2.out.fn.blocks (fun b hb => (HC2.out.lt b hb).1) hB (fun b hb => (Hsu.out b hb).1)).mono ?_
         rintro e w6 ⟨G, hsG, rfl, bG, mG, hG, hb6⟩
         go_wp2_with fail
         refine (domOf_any (some ⟨G, 0, none⟩) (grF f).length (grF f) w6 (mG.rd bG bG.lt (fun b _ h => h)) (by rw [Hgl.out]; omega) (by rw [Hgl.out]; omega) (Nat.le_refl _) (fun i hi => by
          rw [Hgl.out] at hi
          have hi' : i < f.blocks.length := hi
          rw [List.getD_eq_getElem?_getD, gr_at hi']
          have := (Hsu.out i hi').1
          exact Nat.le_trans this (by decide))).mono ?_
         rintro e w7 ⟨gt, gi, gd, idm, dep, rfl, T, TO, h1, h2, h3, hb7⟩
         have hb67 : Below wr.heap.size wr w7 := hb6.trans (hb7.mono hb6.size)
         have hC7 := HC2.out.kb (KB.of_below hb67 (fun b hb => by have := HKQ.out b hb; have := ST.out.z; omega)) hb67.size
         have hC8 := hC7.tree (.pointer (some ⟨gt, 0, none⟩))
         have t10 : w7.cell? ⟨gc, 10, none⟩ = some tv := hC7.blk.cell 10
         have f10 := hC7.blk.frozen 10
         have l10 := hC7.blk.lt
         have z6 := hb6.size
         rw [Hgl.out] at T TO
         have T8 := T.kb (S := fun b => b ≠ gc) ((KB.refl _ w7).set (p := ⟨gc, 10, none⟩) (by show ¬ gc ≠ gc; simp) (.pointer (some ⟨gt, 0, none⟩))) (by show gt ≠ gc; omega) (by show gi ≠ gc; omega) (by show gd ≠ gc; omega)
         have G8 := (ST.out.g.trans (grown_of_below hb67 (Nat.le_refl _) (some gc))).trans (grown_setCell w7 ⟨gc, 10, none⟩ (.pointer (some ⟨gt, 0, none⟩)))
         have hzr := ST.out.z
         have K8 : KB (fun b => b < gq ∧ b ≠ gc) w1 (w7.setCell ⟨gc, 10, none⟩ (.pointer (some ⟨gt, 0, none⟩))) := (((ST.out.k.sub (S' := fun b => b < gq ∧ b ≠ gc) (fun b hb => hb.1)).below hb67 (fun b hb => by omega))).set (by show ¬ (gc < gq ∧ gc ≠ gc); simp) _
         have hnew : w.heap.size ≤ gt ∧ w.heap.size ≤ gi ∧ w.heap.size ≤ gd := by omega
         have HC8 := Lib.hid hC8
         have HT8 := Lib.hid T8
         have HG8 := Lib.hid G8
         have HK8 := Lib.hid K8
         have HTO := Lib.hid TO
         clear hC7 hC8 T8 G8 K8 T TO bG mG hG hb6 hb7 hb67 z3 z4 z5 z7 y6 hCl z6 h1 h2 h3 HC2
         go_upto_region 31 with (fail)
         clear t10 f10 l10
         generalize w7.setCell ⟨gc, 10, none⟩ (.pointer (some ⟨gt, 0, none⟩)) = w8 at *
         have y6 : w8.cell? ⟨gc, 6, none⟩ = some (.slice Ab f.blocks.length cb) := HC8.out.blk.cell 6
         have y10 : w8.cell? ⟨gc, 10, none⟩ = some (.pointer (some ⟨gt, 0, none⟩)) := HC8.out.blk.cell 10
         have lC8 := HC8.out.blk.lt
         go_wp2
         go_loopw [151] (fun iv wx => ∃ c q : Nat, c ≤ f.blocks.length ∧ iv = .int .i64 c ∧ Hid (∀ j, j < c → Reach (EI (grF f)) j) ∧ wx = w8.drewN q) (fun iv _ => f.blocks.length - (intOf iv).toNat)
         case atStart => exact ⟨0, 0, Nat.zero_le _, rfl, Lib.hid (fun j h => by omega), rfl⟩
         case round =>
          obtain ⟨c, q, hc, rfl, HRE, rfl⟩ := hrel
          by_cases hlt : c < f.blocks.length
          · have k0 : (0 : Int) ≤ c := by omega
            have k1 : (c : Int) < f.blocks.length := by omega
            have haz := above_zero (E := EI (grF f)) hlt
            have hab := above_any HTO.out (by omega) (HT8.out.drewN q) 0 (c : Int)
            cases hb : aboveB (EI (grF f)) f.blocks.length 0 c with
            | false =>
              rw [hb] at hab
              have HAB := Lib.hid hab
              have HN := Lib.hid (show ¬ (standOk f ∧ BlocksOk f) from fun h => by
               have := haz.2 (h.2.reach c hlt)
               rw [hb] at this
               cases this)
              clear hab hb haz
              go_wp2_with fail
              refine HAB.out.mono ?_
              rintro e w' ⟨q2, rfl, rfl⟩
              go_wp2
              exact HPf.out _ (grownN HG8.out _) HN.out
            | true =>
              rw [hb] at hab
              have HAB := Lib.hid hab
              have HR2 := Lib.hid (show ∀ j, j < c + 1 → Reach (EI (grF f)) j from fun j hj => by
               by_cases e : j = c
               · subst e; exact haz.1 hb
               · exact HRE.out j (by omega))
              clear hab hb haz
              go_wp2_with fail
              refine HAB.out.mono ?_
              rintro e w' ⟨q2, rfl, rfl⟩
              go_wp2
              go_roundw
              case rel => exact ⟨c + 1, q + q2, by omega, by go_num, HR2, by first | rfl | exact World.drewN_drewN _ _ _⟩
              case measure => simp [intOf]; omega
          · obtain rfl : c = f.blocks.length := by omega
            have hge : ¬ (f.blocks.length : Int) < f.blocks.length := by omega
            obtain ⟨bb, off, A1, c1, A2, c2, A3, c3, A4, c4, hAb, hSb, x0, x1, x2, x3, -, -, -, -⟩ := rd_bk HC8.out.fn.blocks hB0
            subst hAb
            simp only [Nat.zero_mul, Nat.add_zero] at x0 x3
            obtain ⟨xb, hxb⟩ : ∃ xb, f.blocks.getD 0 default = xb := ⟨_, rfl⟩
            rw [hxb] at x0 x3
            have n1 : (0 : Int) < f.blocks.length := by omega
            have lbb := (HC8.out.lt bb hSb).1
            have HT := Lib.hid (show xb.preds = [] ∧ xb.phis = [] → Post (.returned (.bool true)) (w8.drewN q) from fun h => by
             rw [← hxb] at h
             have hK := HK8.out
             have R := HR.out
             have hbn : gb ≠ gc := Blk.ne_ R.bb HC1.out.blk (by decide)
             have hpn : gp ≠ gc := Blk.ne_ R.bp HC1.out.blk (by decide)
             have hgq := Hgq.out
             have hbl := R.bb.lt
             have hpl := R.bp.lt
             refine HPt.out _ gb gp gt gi gd blk plc idm dep (grownN HG8.out q) ⟨fun b hb => (HO.out b hb).1, fun b hb => (HO.out b hb).2, HP4.out, HRE.out, h⟩ HS.out ⟨⟨Ac, cc, Am, cm, An, cn, some ⟨bb, off, none⟩, cb, As, cs, ?_⟩, ?_, ?_, HT8.out.drewN q, HTO.out, R.lb, R.lp, hnew⟩
             · exact HC8.out.kb (fun _ _ => rfl) (Nat.le_refl _)
             · exact R.bb.kb hK (by omega)
             · exact R.bp.kb hK (by omega))
            have HF := Lib.hid (show ¬ (xb.preds = [] ∧ xb.phis = []) → Post (.returned (.bool false)) (w8.drewN q) from fun h => HPf.out _ (grownN HG8.out q) (fun h2 => h (by rw [← hxb]; exact h2.2.root)))
            clear x1 x2
            have ep := List.length_eq_zero_iff (l := xb.preds)
            have eq := List.length_eq_zero_iff (l := xb.phis)
            have Hep := Lib.hid ep
            have Heq := Lib.hid eq
            clear ep eq hxb
            by_cases e1 : xb.preds.length = 0
            · by_cases e2 : xb.phis.length = 0
              · have HX := Lib.hid (HT.out ⟨Hep.out.1 e1, Heq.out.1 e2⟩)
                rw [e1] at x3
                rw [e2] at x0
                go_wp2
                exact HX.out
              · have HX := Lib.hid (HF.out (fun h => e2 (Heq.out.2 h.2)))
                have g2 : ((xb.phis.length : Int) == 0) = false := by simpa using e2
                rw [e1] at x3
                go_wp2
                exact HX.out
            · have HX := Lib.hid (HF.out (fun h => e1 (Hep.out.2 h.1)))
              have g1 : ((xb.preds.length : Int) == 0) = false := by simpa using e1
              go_wp2
              exact HX.out
end Go.Proofs.YtjjmpfmhggcjiaaGreatDoor
