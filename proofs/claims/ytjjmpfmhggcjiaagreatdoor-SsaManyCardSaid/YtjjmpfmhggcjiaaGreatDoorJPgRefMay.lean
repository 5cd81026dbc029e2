/-
 PgRefMay.
-/
import Derived.StillTailTactics
import Derived.Test.YtjjmpfmhggcjiaaGreatDoorJPgRefIns
set_option linter.unusedSimpArgs false
set_option linter.unusedVariables false
namespace Go.Proofs.YtjjmpfmhggcjiaaGreatDoor
open Go.RowKit Go.Maps
/-- A fault as the document's plain data. -/
def RefFault (w : World) (f : Flt) (e : Ending) (w' : World) : Prop := ∃ A n c, e = .returned (.agg #[.int .i64 (codeOf f.1), .slice A n c]) ∧ n ≤ 2 ∧ Rd w' w'.heap.size 1 A n (ints f.2) ∧ Below w.heap.size w w'
theorem ref_there {w w1 : World} {r g : Nat} {c m pc : Int} {f : Flt} (hR : Blk w1 r 75 #[.int .i64 0, .slice none 0 0]) (hg : Blk w1 g 3 #[.int .i64 m, .int .i64 pc]) (hb : Below w.heap.size w w1) (hr : w.heap.size ≤ r) (h1 : codeOf f.1 = c) (h2 : f.2 = [m, pc]) :
 RefFault w f (.returned (.agg #[.int .i64 c, .slice (some ⟨g, 0, none⟩) 2 2])) ((w1.setCell ⟨r, 0, none⟩ (.int .i64 c)).setCell ⟨r, 1, none⟩ (.slice (some ⟨g, 0, none⟩) 2 2)) := by
 have hne : g ≠ r := hg.ne_ hR (by decide)
 have hG := (hg.far (p := ⟨r, 0, none⟩) hne (.int .i64 c)).far (p := ⟨r, 1, none⟩) hne (.slice (some ⟨g, 0, none⟩) 2 2)
 exact ⟨_, _, _, by rw [h1], by omega, by rw [h2]; exact Blk.rd (xs := ints [m, pc]) hG rfl hG.lt, (hb.setCell hr _).setCell hr _⟩
theorem ref_bare {w w1 : World} {r : Nat} {c : Int} {f : Flt} (hb : Below w.heap.size w w1) (hr : w.heap.size ≤ r) (h1 : codeOf f.1 = c) (h2 : f.2 = []) :
 RefFault w f (.returned (.agg #[.int .i64 c, .slice none 0 0])) ((w1.setCell ⟨r, 0, none⟩ (.int .i64 c)).setCell ⟨r, 1, none⟩ (.slice none 0 0)) :=
 ⟨_, _, _, by rw [h1], by omega, by rw [h2]; exact Rd.nil _ _ _ _, (hb.setCell hr _).setCell hr _⟩
set_option maxRecDepth 100000 in
set_option maxHeartbeats 4000000 in
theorem rmay_any (w : World) (Ac Am : Option Addr) (cc cm : Nat) (p : Prg) (hr : RdP w w.heap.size Ac Am p) (hp : POk p) :
 Calls Tryz.prog 63 #[pv Ac cc Am cm p] w (RefFault w (mayP p)) := by
 have hcl := hp.cl
 have hms := hp.ms
 have HB := Lib.hid (fun (w1 : World) (c : Int) (hb : Below w.heap.size w w1) => ref_bare (w := w) (w1 := w1) (r := w.heap.size + 1) (c := c) (f := mayP p) hb (by omega))
 have HT := Lib.hid (fun (w1 : World) (g : Nat) (c m pc : Int) hR hg (hb : Below w.heap.size w w1) => ref_there (w := w) (w1 := w1) (r := w.heap.size + 1) (g := g) (c := c) (m := m) (pc := pc) (f := mayP p) hR hg hb (by omega))
 by_cases hmany : manyP p
 · have Hm := Lib.hid (may_many hmany)
   have Hmany := Lib.hid hmany
   clear hmany
   go_enter Tryz.func63, Tryz.ntmps63
   go_upto_region 1 with (fail)
   go_cut [25] from 10 to 25 (fun v wx => v = .bool true ∧ wx = (w.alloc (.cells #[.slice Ac p.classes.length cc, .slice Am p.methods.length cm] 25)).alloc (.cells #[.int .i64 0, .slice none 0 0] 75))
   case first =>
    go_wp2
    all_goals
     go_meet
     refine ⟨congrArg Value.bool ?_, rfl⟩
     have hmm := Hmany.out
     unfold manyP at hmm
     simp only [Bool.or_eq_true, decide_eq_true_eq] <;> omega
   case rest =>
    obtain ⟨rfl, hwx⟩ := hcut
    subst hwx
    go_wp2_with fail
    refine (bare_any _ _).mono ?_
    rintro e w1 ⟨rfl, hb1⟩
    have hR := (Blk.newAt (w := w.alloc (.cells #[.slice Ac p.classes.length cc, .slice Am p.methods.length cm] 25)) (g := w.heap.size + 1) (by simp) 75 #[.int .i64 0, .slice none 0 0]).below hb1 (by simp)
    have hw1 := (((Below.refl w.heap.size w).alloc (Nat.le_refl _) (.cells #[.slice Ac p.classes.length cc, .slice Am p.methods.length cm] 25)).alloc (by simp) (.cells #[.int .i64 0, .slice none 0 0] 75)).trans (hb1.mono (by simp; omega))
    have r0 := hR.at0
    have r1 := hR.at1
    have f0 := hR.frozen 0
    have f1 := hR.frozen 1
    have hl := hR.lt
    have hF := (hR.set_ 0 (.int .i64 101)).set_ 1 (.slice none 0 0)
    have z0 := hF.at0
    have z1 := hF.at1
    go_wp2
    exact bodyPost_ret (v := .agg #[.int .i64 101, .slice none 0 0]) (by simp [results, Tryz.results63, go_sem, z0, z1]) rfl (HB.out w1 101 hw1 (by rw [Hm.out]; rfl) (by rw [Hm.out]))
 · have h1 : decide (12 < (p.classes.length : Int)) = false := by unfold manyP at hmany; simp; omega
   have h2 : decide ((p.methods.length : Int) < 1) = false := by unfold manyP at hmany; simp; omega
   have h3 : decide (12 < (p.methods.length : Int)) = false := by unfold manyP at hmany; simp; omega
   have Hmany := Lib.hid hmany
   clear hmany
   generalize RefFault w (mayP p) = Post at *
   go_enter Tryz.func63, Tryz.ntmps63
   go_wp2
   have hP := (Blk.new w 25 #[.slice Ac p.classes.length cc, .slice Am p.methods.length cm]).alloc (.cells #[.int .i64 0, .slice none 0 0] 75)
   have hR := Blk.newAt (w := w.alloc (.cells #[.slice Ac p.classes.length cc, .slice Am p.methods.length cm] 25)) (g := w.heap.size + 1) (by simp) 75 #[.int .i64 0, .slice none 0 0]
   have hw2 := ((Below.refl w.heap.size w).alloc (Nat.le_refl _) (.cells #[.slice Ac p.classes.length cc, .slice Am p.methods.length cm] 25)).alloc (by simp) (.cells #[.int .i64 0, .slice none 0 0] 75)
   generalize (w.alloc (.cells #[.slice Ac p.classes.length cc, .slice Am p.methods.length cm] 25)).alloc (.cells #[.int .i64 0, .slice none 0 0] 75) = w2 at *
   have p0 := hP.at0
   have p1 := hP.at1
   have hPl := hP.lt
   have hRl := hR.lt
   have hr2 := hr.below hw2 (Nat.le_refl _)
   clear h1 h2 h3
   go_loop [3] (fun iv => ∃ k : Nat, k ≤ p.classes.length ∧ iv = .int .i64 k ∧ Hid (∀ j, j < k → clsBad p j = none)) (fun iv => p.classes.length - (intOf iv).toNat)
   case atStart => exact ⟨0, Nat.zero_le _, rfl, Lib.hid (fun j hj => by omega)⟩
   case round =>
    obtain ⟨k, hk, rfl, Hno⟩ := hrel
    by_cases hlt : k < p.classes.length
    · obtain ⟨b, off, hA, hbb, c1⟩ := str_at hr2.cl hlt
      have hfs := hp.fs k hlt
      have hcb : clsBad p k = some_ (if 10 < (p.classes.getD k ⟨#[]⟩).size then 1 else if lettersB (p.classes.getD k ⟨#[]⟩) = false then 2 else 0) [(k : Int), -1] := rfl
      generalize p.classes.getD k ⟨#[]⟩ = s at *
      have k0 : (0 : Int) ≤ k := by omega
      have k1 : (k : Int) < p.classes.length := by omega
      subst hA
      by_cases hs : 10 < s.size
      · have hs1 : decide (10 < (s.size : Int)) = true := by simp; omega
        have Hcb := Lib.hid (may_cls Hmany.out hlt Hno.out (show clsBad p k = some (1, [(k : Int), -1]) by rw [hcb, if_pos hs]; rfl))
        clear hcb hs
        go_wp2_with fail
        refine (there_any _ _ _ _).mono ?_
        rintro e w3 ⟨g, rfl, hg, hb3⟩
        have hR3 := hR.below hb3 hRl
        have hw3 := hw2.trans (hb3.mono hw2.size)
        have r0 := hR3.at0
        have r1 := hR3.at1
        have f0 := hR3.frozen 0
        have f1 := hR3.frozen 1
        have hl3 := hR3.lt
        have hF := (hR3.set_ 0 (.int .i64 101)).set_ 1 (.slice (some ⟨g, 0, none⟩) 2 2)
        have z0 := hF.at0
        have z1 := hF.at1
        go_wp2
        exact bodyPost_ret (v := .agg #[.int .i64 101, .slice (some ⟨g, 0, none⟩) 2 2]) (by simp [results, Tryz.results63, go_sem, z0, z1]) rfl (HT.out w3 g 101 k (-1) hR3 hg hw3 (by rw [Hcb.out]; rfl) (by rw [Hcb.out]))
      · have hs1 : decide (10 < (s.size : Int)) = false := by simp; omega
        have hl := fun W => rletters_any s W hfs
        cases hlet : lettersB s with
        | false =>
          have Hcb := Lib.hid (may_cls Hmany.out hlt Hno.out (show clsBad p k = some (2, [(k : Int), -1]) by rw [hcb, if_neg hs, if_pos hlet]; rfl))
          rw [hlet] at hl
          have Hl := Lib.hid hl
          clear hcb hs hlet hl
          go_wp2_with (go_at_call 110; refine (Hl.out _).mono ?_; rintro e w1 ⟨rfl, rfl⟩)
          refine (there_any _ _ _ _).mono ?_
          rintro e w3 ⟨g, rfl, hg, hb3⟩
          have hR3 := hR.below hb3 hRl
          have hw3 := hw2.trans (hb3.mono hw2.size)
          have r0 := hR3.at0
          have r1 := hR3.at1
          have f0 := hR3.frozen 0
          have f1 := hR3.frozen 1
          have hl3 := hR3.lt
          have hF := (hR3.set_ 0 (.int .i64 102)).set_ 1 (.slice (some ⟨g, 0, none⟩) 2 2)
          have z0 := hF.at0
          have z1 := hF.at1
          go_wp2
          exact bodyPost_ret (v := .agg #[.int .i64 102, .slice (some ⟨g, 0, none⟩) 2 2]) (by simp [results, Tryz.results63, go_sem, z0, z1]) rfl (HT.out w3 g 102 k (-1) hR3 hg hw3 (by rw [Hcb.out]; rfl) (by rw [Hcb.out]))
        | true =>
          have Hcb := Lib.hid (show clsBad p k = none by rw [hcb, if_neg hs, if_neg (by simp [hlet])]; rfl)
          rw [hlet] at hl
          have Hl := Lib.hid hl
          clear hcb hs hlet hl
          go_wp2_with (go_at_call 110; refine (Hl.out _).mono ?_; rintro e w1 ⟨rfl, rfl⟩)
          go_round
          case rel => exact ⟨k + 1, by omega, by go_num, Lib.hid (next_none Hno.out Hcb.out)⟩
          case measure => simp [intOf]; omega
    · have e : k = p.classes.length := by omega
      have Hcls := Lib.hid (fun j (hj : j < p.classes.length) => Hno.out j (by omega))
      have hge : ¬ (k : Int) < p.classes.length := by omega
      clear Hno e hlt hk
      go_wp2
      clear hge p0 p1
      go_loopw [5] (fun iv wr => ∃ i : Nat, i ≤ p.methods.length ∧ iv = .int .i64 i ∧ Hid (∀ j, j < i → mthBad p j = none) ∧ Below w.heap.size w wr ∧ Blk wr w.heap.size 25 #[.slice Ac p.classes.length cc, .slice Am p.methods.length cm] ∧ Blk wr (w.heap.size + 1) 75 #[.int .i64 0, .slice none 0 0]) (fun iv _ => p.methods.length - (intOf iv).toNat)
      case atStart => exact ⟨0, Nat.zero_le _, rfl, Lib.hid (fun j hj => by omega), hw2, hP, hR⟩
      case round =>
       clear hw2 hP hR hPl hRl hr2
       obtain ⟨i, hi, rfl, Hno, hb, hP, hR⟩ := hrel
       have hz := hb.size
       have p0 := hP.at0
       have p1 := hP.at1
       have hPl := hP.lt
       have hRl := hR.lt
       by_cases hlt : i < p.methods.length
       · obtain ⟨b, off, Ai, ci, hA, hbb, m0, m1, m2, m3, hcode⟩ := mth_at (hr.ms.below hb (Nat.le_refl _)) hlt
         have hmk := hp.m i hlt
         have Hhead := Lib.hid (fun e => mth_head (p := p) (k := i) (e := e))
         have Hcode := Lib.hid (fun pc f => mth_code (p := p) (k := i) (pc := pc) (f := f))
         have Hok := Lib.hid (mth_ok (p := p) (k := i))
         generalize p.methods.getD i default = m at *
         have k0 : (0 : Int) ≤ i := by omega
         have k1 : (i : Int) < p.methods.length := by omega
         subst hA
         go_upto_region 15 with (fail)
         have hM := Blk.new wr 90 #[.string m.pa, .string m.lo, .string m.re, .slice Ai m.code.length ci]
         have hP1 := hP.alloc (.cells #[.string m.pa, .string m.lo, .string m.re, .slice Ai m.code.length ci] 90)
         have hR1 := hR.alloc (.cells #[.string m.pa, .string m.lo, .string m.re, .slice Ai m.code.length ci] 90)
         have hb1 := hb.alloc hz (.cells #[.string m.pa, .string m.lo, .string m.re, .slice Ai m.code.length ci] 90)
         have hcd := hcode.alloc hz (.cells #[.string m.pa, .string m.lo, .string m.re, .slice Ai m.code.length ci] 90)
         clear p0 p1 m0 m1 m2 m3 hcode hP hR hb
         generalize wr.alloc (.cells #[.string m.pa, .string m.lo, .string m.re, .slice Ai m.code.length ci] 90) = w3 at *
         generalize wr.heap.size = gm at *
         have hmc := hmk.code
         have hmp := hmk.pa
         have hml := hmk.lo
         have y0 := hM.at0
         have y1 := hM.at1
         have y2 := hM.at2
         have y3 := hM.at3
         have hMl := hM.lt
         have hHB : headBad m (decide (i = 0)) = if manyB m = true then 1 else if kindB m (decide (i = 0)) = true then 2 else 0 := by
          unfold headBad manyB kindB
          simp only [decide_eq_true_eq]
         have HHB := Lib.hid hHB
         clear hHB
         go_cut [87] from 62 to 87 (fun v wx => v = .bool (manyB m) ∧ w3 = wx)
         case first =>
          by_cases hc0 : m.code.length = 0
          · have g1 : decide ((m.code.length : Int) < 1) = true := by simp only [decide_eq_true_eq]; omega
            have Hm := Lib.hid (show manyB m = true by unfold manyB; exact decide_eq_true (.inr (.inl hc0)))
            clear hc0
            go_wp2
            all_goals
             go_meet
             exact ⟨by rw [Hm.out], rfl⟩
          · have g1 : decide ((m.code.length : Int) < 1) = false := by simp only [decide_eq_false_iff_not]; omega
            have Hm := Lib.hid (show manyB m = decide (12 < m.pa.size + m.lo.size ∨ 120 < m.code.length) by unfold manyB; rw [decide_eq_decide]; omega)
            clear hc0
            go_wp2
            all_goals
             go_meet
             refine ⟨congrArg Value.bool ?_, rfl⟩
             rw [Hm.out]
             first | (symm; rw [decide_eq_true_eq]; omega) | (symm; rw [decide_eq_false_iff_not]; omega) | (rw [Bool.eq_iff_iff]; simp only [Bool.or_eq_true, decide_eq_true_eq]; omega)
         case rest =>
          obtain ⟨rfl, hwx⟩ := hcut
          subst hwx
          cases hmany : manyB m with
          | true =>
            rw [hmany] at HHB
            have Hmb := Lib.hid (may_mth Hmany.out Hcls.out hlt Hno.out (Hhead.out 0 (by rw [HHB.out]; rfl)))
            clear hmany
            go_wp2_with fail
            refine (there_any _ _ _ _).mono ?_
            rintro e w4 ⟨g, rfl, hg, hb4⟩
            have hR4 := hR1.below hb4 hR1.lt
            have hw4 := hb1.trans (hb4.mono hb1.size)
            have r0 := hR4.at0
            have r1 := hR4.at1
            have f0 := hR4.frozen 0
            have f1 := hR4.frozen 1
            have hl4 := hR4.lt
            have hF := (hR4.set_ 0 (.int .i64 (101))).set_ 1 (.slice (some ⟨g, 0, none⟩) 2 2)
            have z0 := hF.at0
            have z1 := hF.at1
            go_wp2
            exact bodyPost_ret (v := .agg #[.int .i64 (101), .slice (some ⟨g, 0, none⟩) 2 2]) (by simp [results, Tryz.results63, go_sem, z0, z1]) rfl (HT.out w4 g (101) i (-1) hR4 hg hw4 (by rw [Hmb.out]; rfl) (by rw [Hmb.out]))
          | false =>
            rw [hmany] at HHB
            clear hmany
            go_upto_region 17 with (fail)
            go_cut [7] from 90 to 102 (fun v wx => v = .bool (retOk m.re) ∧ w3 = wx)
            case first =>
             go_wp2
             all_goals
              go_meet
              refine ⟨?_, rfl⟩
              simp [retOk, *]
            case rest =>
             obtain ⟨rfl, hwx⟩ := hcut
             subst hwx
             have Hl1 := Lib.hid (fun W => rletters_any m.pa W hmk.pa)
             have Hl2 := Lib.hid (fun W => rletters_any m.lo W hmk.lo)
             have Hk := Lib.hid (show kindB m (decide (i = 0)) = (!lettersB m.pa || !lettersB m.lo || !retOk m.re || decide (i = 0) && (!m.pa.toList.isEmpty || m.re.toList == [82])) by rw [Bool.eq_iff_iff]; simp [kindB, or_assoc])
             have hi0 : ((i : Int) == 0) = decide (i = 0) := by rw [Bool.eq_iff_iff]; simp
             go_upto_region 18 with (fail)
             generalize lettersB m.pa = la at *
             generalize lettersB m.lo = ll at *
             generalize retOk m.re = ro at *
             generalize decide (i = 0) = first at *
             go_cut [130] from 103 to 130 (fun v wx => v = .bool (kindB m first) ∧ w3 = wx)
             case first =>
              cases la <;> cases ll <;> cases ro <;> cases first
              all_goals
               go_wp2_with (first | (go_at_call 110; with_reducible refine (Hl1.out _).mono ?_; rintro e w1 ⟨rfl, rfl⟩) | (go_at_call 110; with_reducible refine (Hl2.out _).mono ?_; rintro e w1 ⟨rfl, rfl⟩))
               all_goals
                go_meet
                refine ⟨congrArg Value.bool ?_, rfl⟩
                rw [Hk.out]
                simp [*]
             case rest =>
              obtain ⟨rfl, hwx⟩ := hcut
              subst hwx
              cases hk : kindB m first with
              | true =>
                rw [hk] at HHB
                have Hmb := Lib.hid (may_mth Hmany.out Hcls.out hlt Hno.out (Hhead.out 1 (by rw [HHB.out]; rfl)))
                clear hk
                go_wp2_with fail
                refine (there_any _ _ _ _).mono ?_
                rintro e w4 ⟨g, rfl, hg, hb4⟩
                have hR4 := hR1.below hb4 hR1.lt
                have hw4 := hb1.trans (hb4.mono hb1.size)
                have r0 := hR4.at0
                have r1 := hR4.at1
                have f0 := hR4.frozen 0
                have f1 := hR4.frozen 1
                have hl4 := hR4.lt
                have hF := (hR4.set_ 0 (.int .i64 (102))).set_ 1 (.slice (some ⟨g, 0, none⟩) 2 2)
                have z0 := hF.at0
                have z1 := hF.at1
                go_wp2
                exact bodyPost_ret (v := .agg #[.int .i64 (102), .slice (some ⟨g, 0, none⟩) 2 2]) (by simp [results, Tryz.results63, go_sem, z0, z1]) rfl (HT.out w4 g (102) i (-1) hR4 hg hw4 (by rw [Hmb.out]; rfl) (by rw [Hmb.out]))
              | false =>
                rw [hk] at HHB
                have Hd0 := Lib.hid (show headBad m first = 0 by rw [HHB.out]; rfl)
                have hsm := head_small Hd0.out
                clear hk HHB Hk Hl1 Hl2
                go_wp2
                clear y0 y1 y2 y3 hMl
                go_loopw [8] (fun iv wr => ∃ pc : Nat, pc ≤ m.code.length ∧ iv = .int .i64 pc ∧ Hid (∀ j, j < pc → codeBad p m i j = none) ∧ Below w3.heap.size w3 wr) (fun iv _ => m.code.length - (intOf iv).toNat)
                case atStart => exact ⟨0, Nat.zero_le _, rfl, Lib.hid (fun j hj => by omega), Below.refl _ _⟩
                case round =>
                 obtain ⟨pc, hpc, rfl, Hnc, hb3⟩ := hrel
                 have hb5 := hb1.trans (hb3.mono hb1.size)
                 have hz5 := hb5.size
                 have hP5 := hP1.below hb3 hP1.lt
                 have hM5 := hM.below hb3 hM.lt
                 have hR5 := hR1.below hb3 hR1.lt
                 have p0 := hP5.at0
                 have p1 := hP5.at1
                 have y0 := hM5.at0
                 have y1 := hM5.at1
                 have y2 := hM5.at2
                 have y3 := hM5.at3
                 have hPl := hP5.lt
                 have hMl := hM5.lt
                 by_cases hlt2 : pc < m.code.length
                 · obtain ⟨b2, off2, hA2, hbb2, x0, x1, x2, x3⟩ := ins_at ((hcd.more (Nat.le_trans (Nat.le_refl _) hb1.size)).below hb3 (Nat.le_refl _)) hlt2
                   have hcb : codeBad p m i pc = some_ (insBad p.classes p.methods.length (m.pa.size + m.lo.size) m.code.length (m.code.getD pc default)) [(i : Int), (pc : Int)] := rfl
                   generalize m.code.getD pc default = x at *
                   subst hA2
                   have j0 : (0 : Int) ≤ pc := by omega
                   have j1 : (pc : Int) < m.code.length := by omega
                   have hin := fun W hr' => rinstr_any Ac (some ⟨b, off, none⟩) cc cm p W hr' hp (some ⟨b2, off2, none⟩) ci m (by omega) hmk.code x
                   have hrc := ((hr.cl.below hb5 (Nat.le_refl _)).more hz5).drew
                   rcases Nat.eq_zero_or_pos (insBad p.classes p.methods.length (m.pa.size + m.lo.size) m.code.length x) with hd0 | hd0
                   · rw [hd0] at hin hcb
                     have hc0 : codeOf 0 = 0 := rfl
                     rw [hc0] at hin
                     have Hin := Lib.hid hin
                     have Hcb := Lib.hid hcb
                     have Hrc := Lib.hid hrc
                     clear hin hd0 hcb hc0 hrc hr
                     go_wp2_with fail
                     go_still_tail 7, (by kernel_rfl)
                     change wpList _ _ _ _ _ wr.drew
                     go_wp2_with fail
                     refine (Hin.out _ Hrc.out).mono ?_
                     rintro e w6 ⟨rfl, hb6⟩
                     go_wp2
                     go_roundw
                     case rel => exact ⟨pc + 1, by omega, by go_num, Lib.hid (next_none Hnc.out Hcb.out), hb3.drew.trans (hb6.mono hb3.size)⟩
                     case measure => simp [intOf]; omega
                   · obtain ⟨ee, hee⟩ : ∃ ee, insBad p.classes p.methods.length (m.pa.size + m.lo.size) m.code.length x = ee + 1 := ⟨insBad p.classes p.methods.length (m.pa.size + m.lo.size) m.code.length x - 1, by omega⟩
                     rw [hee] at hin hcb
                     have Hmb := Lib.hid (may_mth Hmany.out Hcls.out hlt Hno.out (Hcode.out pc (ee + 1, [(i : Int), (pc : Int)]) Hd0.out hlt2 Hnc.out hcb))
                     obtain ⟨c, hc⟩ : ∃ c, codeOf (ee + 1) = c := ⟨_, rfl⟩
                     have hcn : c ≠ 0 := by rw [← hc]; unfold codeOf; simp; omega
                     have hcb2 : (c != 0) = true := by simpa using hcn
                     rw [hc] at hin
                     have Hc := Lib.hid hc
                     have Hin := Lib.hid hin
                     have Hrc := Lib.hid hrc
                     clear hin hd0 hcb hrc hr hcn hc hee
                     go_wp2_with fail
                     go_still_tail 7, (by kernel_rfl)
                     change wpList _ _ _ _ _ wr.drew
                     go_wp2_with fail
                     refine (Hin.out _ Hrc.out).mono ?_
                     rintro e w6 ⟨rfl, hb6⟩
                     have hR6 := hR5.drew.below hb6 hR5.lt
                     have hb56 := hb5.drew.trans (hb6.mono hz5)
                     clear hR5 hb5
                     have hR5 := hR6
                     have hb5 := hb56
                     go_wp2_with fail
                     refine (there_any _ _ _ _).mono ?_
                     rintro e w4 ⟨g, rfl, hg, hb4⟩
                     have hR4 := hR5.below hb4 hR5.lt
                     have hw4 := hb5.trans (hb4.mono hb5.size)
                     have r0 := hR4.at0
                     have r1 := hR4.at1
                     have f0 := hR4.frozen 0
                     have f1 := hR4.frozen 1
                     have hl4 := hR4.lt
                     have hF := (hR4.set_ 0 (.int .i64 (c))).set_ 1 (.slice (some ⟨g, 0, none⟩) 2 2)
                     have z0 := hF.at0
                     have z1 := hF.at1
                     go_wp2
                     exact bodyPost_ret (v := .agg #[.int .i64 (c), .slice (some ⟨g, 0, none⟩) 2 2]) (by simp [results, Tryz.results63, go_sem, z0, z1]) rfl (HT.out w4 g (c) i (pc) hR4 hg hw4 (by rw [Hmb.out]; exact Hc.out) (by rw [Hmb.out]))
                 · have hge : ¬ (pc : Int) < m.code.length := by omega
                   have Hmo := Lib.hid (Hok.out Hd0.out (fun j hj => Hnc.out j (by omega)))
                   clear hlt2
                   go_wp2
                   go_roundw
                   case rel => exact ⟨i + 1, by omega, by go_num, Lib.hid (next_none Hno.out Hmo.out), hb5, hP5, hR5⟩
                   case measure => simp [intOf]; omega
       · have hge : ¬ (i : Int) < p.methods.length := by omega
         have Hmy := Lib.hid (may_ok Hmany.out Hcls.out (fun j hj => Hno.out j (by omega)))
         clear hlt
         go_wp2_with fail
         refine (none_any _).mono ?_
         rintro e w3 ⟨rfl, hb3⟩
         have hR3 := hR.below hb3 hRl
         have hw3 := hb.trans (hb3.mono hz)
         have r0 := hR3.at0
         have r1 := hR3.at1
         have f0 := hR3.frozen 0
         have f1 := hR3.frozen 1
         have hl3 := hR3.lt
         have hF := (hR3.set_ 0 (.int .i64 0)).set_ 1 (.slice none 0 0)
         have z0 := hF.at0
         have z1 := hF.at1
         go_wp2
         exact bodyPost_ret (v := .agg #[.int .i64 0, .slice none 0 0]) (by simp [results, Tryz.results63, go_sem, z0, z1]) rfl (HB.out w3 0 hw3 (by rw [Hmy.out]; rfl) (by rw [Hmy.out]))
end Go.Proofs.YtjjmpfmhggcjiaaGreatDoor
