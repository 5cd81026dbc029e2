/-
 Sf2, Lt.
-/
import Derived.Test.YtjjmpfmhggcjiaaGreatDoorJSf1
set_option linter.unusedSimpArgs false
set_option linter.unusedVariables false
namespace Go.Proofs.YtjjmpfmhggcjiaaGreatDoor
open Go.RowKit Go.Maps
/-- Rows are of such lengths as can be reckoned with. -/
structure Mild (f : Fn) : Prop where
 args : ∀ k, (f.nodes.getD k default).args.length ≤ 2000000
 phis : ∀ k, (f.blocks.getD k default).phis.length ≤ 2000000
 body : ∀ k, (f.blocks.getD k default).body.length ≤ 2000000
 succ : ∀ k, (f.blocks.getD k default).succ.length ≤ 2000000
 preds : ∀ k, (f.blocks.getD k default).preds.length ≤ 2000000
 locals : ∀ k, (f.states.getD k default).locals.length ≤ 2000000
 stack : ∀ k, (f.states.getD k default).stack.length ≤ 2000000
 virts : ∀ k, (f.states.getD k default).virts.length ≤ 2000000
 fields : ∀ k j, ((f.states.getD k default).virts.getD j default).fields.length ≤ 2000000
set_option maxRecDepth 100000 in
set_option maxHeartbeats 2000000 in
theorem sameFn_any (An1 Ab1 As1 An2 Ab2 As2 : Option Addr) (cn1 cb1 cs1 cn2 cb2 cs2 : Nat) (x y : Fn) (w : World) (h1 : RdF w (fun b => b < w.heap.size) An1 Ab1 As1 x) (h2 : RdF w (fun b => b < w.heap.size) An2 Ab2 As2 y) (hm : Mild x)
 (ln : x.nodes.length ≤ 2000000) (lb : x.blocks.length ≤ 2000000) (ls : x.states.length ≤ 2000000) :
 Calls Tryz.prog 25 #[.agg #[.int .i64 x.mth, .int .i64 x.entry, .slice An1 x.nodes.length cn1, .slice Ab1 x.blocks.length cb1, .slice As1 x.states.length cs1], .agg #[.int .i64 y.mth, .int .i64 y.entry, .slice An2 y.nodes.length cn2, .slice Ab2 y.blocks.length cb2, .slice As2 y.states.length cs2]] w (SamePost w x y) := by
 have H := Lib.hid (show dec (x = y) = (decide (x.mth = y.mth) && (decide (x.entry = y.entry) && (dec (x.nodes = y.nodes) && (dec (x.blocks = y.blocks) && dec (x.states = y.states))))) from by
  obtain ⟨x1, x2, x3, x4, x5⟩ := x
  obtain ⟨y1, y2, y3, y4, y5⟩ := y
  rw [Bool.eq_iff_iff]; simp [dec_iff5])
 unfold SamePost
 have bX := (Blk.new w 30 #[.int .i64 x.mth, .int .i64 x.entry, .slice An1 x.nodes.length cn1, .slice Ab1 x.blocks.length cb1, .slice As1 x.states.length cs1]).alloc (.cells #[.int .i64 y.mth, .int .i64 y.entry, .slice An2 y.nodes.length cn2, .slice Ab2 y.blocks.length cb2, .slice As2 y.states.length cs2] 30)
 have bY := Blk.newAt (w := w.alloc (.cells #[.int .i64 x.mth, .int .i64 x.entry, .slice An1 x.nodes.length cn1, .slice Ab1 x.blocks.length cb1, .slice As1 x.states.length cs1] 30)) (g := w.heap.size + 1) (by simp) 30 #[.int .i64 y.mth, .int .i64 y.entry, .slice An2 y.nodes.length cn2, .slice Ab2 y.blocks.length cb2, .slice As2 y.states.length cs2]
 have hb := ((Below.refl w.heap.size w).alloc (Nat.le_refl _) (.cells #[.int .i64 x.mth, .int .i64 x.entry, .slice An1 x.nodes.length cn1, .slice Ab1 x.blocks.length cb1, .slice As1 x.states.length cs1] 30)).alloc (by simp) (.cells #[.int .i64 y.mth, .int .i64 y.entry, .slice An2 y.nodes.length cn2, .slice Ab2 y.blocks.length cb2, .slice As2 y.states.length cs2] 30)
 have HS1 := Lib.hid (fun W (hW : Below w.heap.size w W) => sameNds_any An1 An2 cn1 cn2 x.nodes y.nodes W (by omega) ((h1.nodes.below hW (fun _ h => h)).more (fun b h => Nat.lt_of_lt_of_le h hW.size)) ((h2.nodes.below hW (fun _ h => h)).more (fun b h => Nat.lt_of_lt_of_le h hW.size)) hm.args)
 have HS2 := Lib.hid (fun W (hW : Below w.heap.size w W) => sameBks_any Ab1 Ab2 cb1 cb2 x.blocks y.blocks W (by omega) ((h1.blocks.below hW (fun _ h => h)).more (fun b h => Nat.lt_of_lt_of_le h hW.size)) ((h2.blocks.below hW (fun _ h => h)).more (fun b h => Nat.lt_of_lt_of_le h hW.size)) hm.phis hm.body hm.succ hm.preds)
 have HS3 := Lib.hid (fun W (hW : Below w.heap.size w W) => sameStes_any As1 As2 cs1 cs2 x.states y.states W (by omega) ((h1.states.below hW (fun _ h => h)).more (fun b h => Nat.lt_of_lt_of_le h hW.size)) ((h2.states.below hW (fun _ h => h)).more (fun b h => Nat.lt_of_lt_of_le h hW.size)) hm.locals hm.stack hm.virts hm.fields)
 clear h1 h2 hm ln lb ls
 go_enter Tryz.func25, Tryz.ntmps25
 go_upto_region 1 with (fail)
 generalize (w.alloc (.cells #[.int .i64 x.mth, .int .i64 x.entry, .slice An1 x.nodes.length cn1, .slice Ab1 x.blocks.length cb1, .slice As1 x.states.length cs1] 30)).alloc (.cells #[.int .i64 y.mth, .int .i64 y.entry, .slice An2 y.nodes.length cn2, .slice Ab2 y.blocks.length cb2, .slice As2 y.states.length cs2] 30) = w2 at *
 have x1 := bX.cell 2
 have y1 := bY.cell 2
 simp at x1 y1
 go_wp2_with fail
 refine (HS1.out _ hb).mono ?_
 rintro e w3 ⟨rfl, hb3⟩
 have bX := bX.below hb3 bX.lt
 have bY := bY.below hb3 bY.lt
 have hb := hb.trans (hb3.mono hb.size)
 clear x1 y1 hb3
 have x2 := bX.cell 3
 have y2 := bY.cell 3
 simp at x2 y2
 go_wp2_with fail
 refine (HS2.out _ hb).mono ?_
 rintro e w4 ⟨rfl, hb4⟩
 have bX := bX.below hb4 bX.lt
 have bY := bY.below hb4 bY.lt
 have hb := hb.trans (hb4.mono hb.size)
 clear x2 y2 hb4
 have x3 := bX.cell 4
 have y3 := bY.cell 4
 simp at x3 y3
 go_wp2_with fail
 refine (HS3.out _ hb).mono ?_
 rintro e w5 ⟨rfl, hb5⟩
 have bX := bX.below hb5 bX.lt
 have bY := bY.below hb5 bY.lt
 have hb := hb.trans (hb5.mono hb.size)
 clear x3 y3 hb5
 have u0 := bX.cell 0
 have v0 := bY.cell 0
 have u1 := bX.cell 1
 have v1 := bY.cell 1
 simp at u0 v0 u1 v1
 generalize dec (x.nodes = y.nodes) = q1 at *
 generalize dec (x.blocks = y.blocks) = q2 at *
 generalize dec (x.states = y.states) = q3 at *
 clear HS1 HS2 HS3
 go_wp2
 all_goals
  go_ret
  refine ⟨ret_bool ?_, hb⟩
  clear bX bY hb
  rw [H.out, Bool.eq_iff_iff]
  simp_all
end Go.Proofs.YtjjmpfmhggcjiaaGreatDoor
namespace Go.Proofs.YtjjmpfmhggcjiaaGreatDoor
open Go.RowKit Go.Maps
def SomePost (w : World) (e : Ending) (w' : World) : Prop := (∃ b, e = .returned (.bool b)) ∧ Below w.heap.size w w'
set_option maxRecDepth 100000 in
set_option maxHeartbeats 4000000 in
theorem light16_any (An Ab As : Option Addr) (cn cb cs : Nat) (f : Fn) (w : World) (hF : RdF w (fun b => b < w.heap.size) An Ab As f) (ln : f.nodes.length ≤ 1000000000) (lb : f.blocks.length ≤ 1000000000) (ls : f.states.length ≤ 1000000000)
 (lv : ∀ k, (f.states.getD k default).virts.length ≤ 1000000000) :
 Calls Tryz.prog 10 #[.agg #[.int .i64 f.mth, .int .i64 f.entry, .slice An f.nodes.length cn, .slice Ab f.blocks.length cb, .slice As f.states.length cs]] w (SomePost w) := by
 have HP := Lib.hid (fun b w' (h : Below w.heap.size w w') => (show SomePost w (.returned (.bool b)) w' from ⟨⟨b, rfl⟩, h⟩))
 generalize SomePost w = Post at *
 have bF := Blk.new w 30 #[.int .i64 f.mth, .int .i64 f.entry, .slice An f.nodes.length cn, .slice Ab f.blocks.length cb, .slice As f.states.length cs]
 have hb := (Below.refl w.heap.size w).alloc (Nat.le_refl _) (.cells #[.int .i64 f.mth, .int .i64 f.entry, .slice An f.nodes.length cn, .slice Ab f.blocks.length cb, .slice As f.states.length cs] 30)
 have HF := Lib.hid hF
 clear hF
 go_enter Tryz.func10, Tryz.ntmps10
 go_upto_region 1 with (fail)
 generalize w.alloc (.cells #[.int .i64 f.mth, .int .i64 f.entry, .slice An f.nodes.length cn, .slice Ab f.blocks.length cb, .slice As f.states.length cs] 30) = w2 at *
 go_wp2
 go_loopw [3, 4] (fun nv iv wr => ∃ (k : Nat) (z : Int), k ≤ f.nodes.length ∧ iv = .int .i64 k ∧ nv = .int .i64 z ∧ Blk wr w.heap.size 30 #[.int .i64 f.mth, .int .i64 f.entry, .slice An f.nodes.length cn, .slice Ab f.blocks.length cb, .slice As f.states.length cs] ∧ Below w.heap.size w wr) (fun _ iv _ => f.nodes.length - (intOf iv).toNat)
 case atStart => exact ⟨0, _, Nat.zero_le _, rfl, rfl, bF, hb⟩
 case round =>
  clear bF hb
  obtain ⟨k, z, hk, rfl, rfl, bF, hb⟩ := hrel
  have y := bF.cell 2
  simp at y
  have lF := bF.lt
  have k0 : (0 : Int) ≤ k := by omega
  have hz := hb.size
  go_upto_region 3 with (fail)
  go_cut [16] from 8 to 35 (fun v wx => v = .bool (decide (k < f.nodes.length ∧ k ≤ 300)) ∧ wr = wx)
  case first =>
   by_cases hlt : k < f.nodes.length
   · have k1 : (k : Int) < f.nodes.length := by omega
     by_cases h3 : k ≤ 300
     · have g3 : decide ((k : Int) ≤ 300) = true := by simp; omega
       have Hd := Lib.hid (show decide (k < f.nodes.length ∧ k ≤ 300) = true by simp; omega)
       clear h3 hlt
       go_wp2
       go_meet
       exact ⟨by rw [Hd.out], rfl⟩
     · have g3 : decide ((k : Int) ≤ 300) = false := by simp; omega
       have Hd := Lib.hid (show decide (k < f.nodes.length ∧ k ≤ 300) = false by simp; omega)
       clear h3 hlt
       go_wp2
       go_meet
       exact ⟨by rw [Hd.out], rfl⟩
   · have k1 : ¬ (k : Int) < f.nodes.length := by omega
     have Hd := Lib.hid (show decide (k < f.nodes.length ∧ k ≤ 300) = false by simp; omega)
     clear hlt
     go_wp2
     go_meet
     exact ⟨by rw [Hd.out], rfl⟩
  case rest =>
   obtain ⟨rfl, hwx⟩ := hcut
   subst hwx
   cases hd : decide (k < f.nodes.length ∧ k ≤ 300) with
   | true =>
     have hlt := (of_decide_eq_true hd).1
     clear hd
     have k1 : (k : Int) < f.nodes.length := by omega
     obtain ⟨b, off, A1, c1, hA, hbb, x0, x1, x2, x3, x4, x5, x6, r1⟩ := rd_nd (HF.out.nodes.below hb (fun _ h => h)) hlt
     rw [hA] at y
     clear hA
     generalize f.nodes.getD k default = x at *
     clear x0 x1 x2 x3 x5 r1 hlt
     go_upto_region 5 with (fail)
     go_quiet (fail)
     have hb7 := below_drewN hb nq
     have bF7 : Blk (wr.drewN nq) w.heap.size 30 #[.int .i64 f.mth, .int .i64 f.entry, .slice An f.nodes.length cn, .slice Ab f.blocks.length cb, .slice As f.states.length cs] := bF
     clear hb bF
     go_wp2
     go_roundw
     case rel => exact ⟨k + 1, _, by omega, by go_num, rfl, bF7, hb7⟩
     case measure => simp [intOf]; omega
   | false =>
     clear hd
     go_wp2
     clear y
     go_loopw [3, 5] (fun nv iv wr => ∃ (k : Nat) (z : Int), k ≤ f.blocks.length ∧ iv = .int .i64 k ∧ nv = .int .i64 z ∧ Blk wr w.heap.size 30 #[.int .i64 f.mth, .int .i64 f.entry, .slice An f.nodes.length cn, .slice Ab f.blocks.length cb, .slice As f.states.length cs] ∧ Below w.heap.size w wr) (fun _ iv _ => f.blocks.length - (intOf iv).toNat)
     case atStart => exact ⟨0, _, Nat.zero_le _, rfl, rfl, bF, hb⟩
     case round =>
      clear bF hb
      obtain ⟨k, z, hk, rfl, rfl, bF, hb⟩ := hrel
      have y := bF.cell 3
      simp at y
      have lF := bF.lt
      have k0 : (0 : Int) ≤ k := by omega
      have hz := hb.size
      go_upto_region 7 with (fail)
      go_cut [44] from 36 to 79 (fun v wx => v = .bool (decide (k < f.blocks.length ∧ k ≤ 210)) ∧ wr = wx)
      case first =>
       by_cases hlt : k < f.blocks.length
       · have k1 : (k : Int) < f.blocks.length := by omega
         by_cases h3 : k ≤ 210
         · have g3 : decide ((k : Int) ≤ 210) = true := by simp; omega
           have Hd := Lib.hid (show decide (k < f.blocks.length ∧ k ≤ 210) = true by simp; omega)
           clear h3 hlt
           go_wp2
           go_meet
           exact ⟨by rw [Hd.out], rfl⟩
         · have g3 : decide ((k : Int) ≤ 210) = false := by simp; omega
           have Hd := Lib.hid (show decide (k < f.blocks.length ∧ k ≤ 210) = false by simp; omega)
           clear h3 hlt
           go_wp2
           go_meet
           exact ⟨by rw [Hd.out], rfl⟩
       · have k1 : ¬ (k : Int) < f.blocks.length := by omega
         have Hd := Lib.hid (show decide (k < f.blocks.length ∧ k ≤ 210) = false by simp; omega)
         clear hlt
         go_wp2
         go_meet
         exact ⟨by rw [Hd.out], rfl⟩
      case rest =>
       obtain ⟨rfl, hwx⟩ := hcut
       subst hwx
       cases hd : decide (k < f.blocks.length ∧ k ≤ 210) with
       | true =>
         have hlt := (of_decide_eq_true hd).1
         clear hd
         have k1 : (k : Int) < f.blocks.length := by omega
         obtain ⟨b, off, A1, c1, A2, c2, A3, c3, A4, c4, hA, hbb, x0, x1, x2, x3, r1, r2, r3, r4⟩ := rd_bk (HF.out.blocks.below hb (fun _ h => h)) hlt
         rw [hA] at y
         clear hA
         generalize f.blocks.getD k default = x at *
         clear r1 r2 r3 r4 hlt
         go_upto_region 9 with (fail)
         go_quiet (fail)
         have hb7 := below_drewN hb nq
         have bF7 : Blk (wr.drewN nq) w.heap.size 30 #[.int .i64 f.mth, .int .i64 f.entry, .slice An f.nodes.length cn, .slice Ab f.blocks.length cb, .slice As f.states.length cs] := bF
         clear hb bF
         go_wp2
         go_roundw
         case rel => exact ⟨k + 1, _, by omega, by go_num, rfl, bF7, hb7⟩
         case measure => simp [intOf]; omega
       | false =>
         clear hd
         go_wp2
         clear y
         go_loopw [3, 6] (fun nv iv wr => ∃ (k : Nat) (z : Int), k ≤ f.states.length ∧ iv = .int .i64 k ∧ nv = .int .i64 z ∧ Blk wr w.heap.size 30 #[.int .i64 f.mth, .int .i64 f.entry, .slice An f.nodes.length cn, .slice Ab f.blocks.length cb, .slice As f.states.length cs] ∧ Below w.heap.size w wr) (fun _ iv _ => f.states.length - (intOf iv).toNat)
         case atStart => exact ⟨0, _, Nat.zero_le _, rfl, rfl, bF, hb⟩
         case round =>
          clear bF hb
          obtain ⟨k, z, hk, rfl, rfl, bF, hb⟩ := hrel
          have y := bF.cell 4
          simp at y
          have lF := bF.lt
          have k0 : (0 : Int) ≤ k := by omega
          have hz := hb.size
          go_upto_region 11 with (fail)
          go_cut [88] from 80 to 143 (fun v wx => v = .bool (decide (k < f.states.length ∧ k ≤ 100)) ∧ wr = wx)
          case first =>
           by_cases hlt : k < f.states.length
           · have k1 : (k : Int) < f.states.length := by omega
             by_cases h3 : k ≤ 100
             · have g3 : decide ((k : Int) ≤ 100) = true := by simp; omega
               have Hd := Lib.hid (show decide (k < f.states.length ∧ k ≤ 100) = true by simp; omega)
               clear h3 hlt
               go_wp2
               go_meet
               exact ⟨by rw [Hd.out], rfl⟩
             · have g3 : decide ((k : Int) ≤ 100) = false := by simp; omega
               have Hd := Lib.hid (show decide (k < f.states.length ∧ k ≤ 100) = false by simp; omega)
               clear h3 hlt
               go_wp2
               go_meet
               exact ⟨by rw [Hd.out], rfl⟩
           · have k1 : ¬ (k : Int) < f.states.length := by omega
             have Hd := Lib.hid (show decide (k < f.states.length ∧ k ≤ 100) = false by simp; omega)
             clear hlt
             go_wp2
             go_meet
             exact ⟨by rw [Hd.out], rfl⟩
          case rest =>
           obtain ⟨rfl, hwx⟩ := hcut
           subst hwx
           cases hd : decide (k < f.states.length ∧ k ≤ 100) with
           | true =>
             have hlt := (of_decide_eq_true hd).1
             clear hd
             have k1 : (k : Int) < f.states.length := by omega
             obtain ⟨b, off, A1, c1, A2, c2, A3, c3, hA, hbb, x0, x1, x2, x3, x4, x5, r1, r2, r3⟩ := rd_ste (HF.out.states.below hb (fun _ h => h)) hlt
             rw [hA] at y
             clear hA
             have hvl := lv k
             have Hst := Lib.hid (fun wr (hb : Below w.heap.size w wr) => rd_ste (HF.out.states.below hb (fun _ h => h)) hlt)
             generalize f.states.getD k default = x at *
             clear r1 r2 x0 x1 x2
             go_upto_region 13 with (fail)
             go_quiet (fail)
             have hb7 := below_drewN hb nq
             have bF7 : Blk (wr.drewN nq) w.heap.size 30 #[.int .i64 f.mth, .int .i64 f.entry, .slice An f.nodes.length cn, .slice Ab f.blocks.length cb, .slice As f.states.length cs] := bF
             clear hb bF
             go_wp2
             clear x3 x4 x5 r3 y lF
             have Hk := Lib.hid hlt
             clear hlt
             go_loopw [3, 7] (fun nv iv wr => ∃ (j : Nat) (z : Int), j ≤ x.virts.length ∧ iv = .int .i64 j ∧ nv = .int .i64 z ∧ Blk wr w.heap.size 30 #[.int .i64 f.mth, .int .i64 f.entry, .slice An f.nodes.length cn, .slice Ab f.blocks.length cb, .slice As f.states.length cs] ∧ Below w.heap.size w wr) (fun _ iv _ => x.virts.length - (intOf iv).toNat)
             case atStart => exact ⟨0, _, Nat.zero_le _, rfl, rfl, bF7, hb7⟩
             case round =>
              clear bF7 hb7
              obtain ⟨j, z, hj, rfl, rfl, bF, hb⟩ := hrel
              have y := bF.cell 4
              simp at y
              have lF := bF.lt
              obtain ⟨b9, off9, A91, c91, A92, c92, A93, c93, e9, hbb9, -, -, -, -, -, x5, -, -, r3⟩ := Hst.out _ hb
              rw [e9] at y
              clear e9
              have hz := hb.size
              have j0 : (0 : Int) ≤ j := by omega
              by_cases hlj : j < x.virts.length
              · have j1 : (j : Int) < x.virts.length := by omega
                by_cases h3 : j < 100
                · have g3 : decide ((j : Int) < 100) = true := by simp; omega
                  clear h3
                  obtain ⟨b8, off8, A8, c8, rfl, hbb8, v0, v1, rv⟩ := rd_vt r3 hlj
                  generalize x.virts.getD j default = q at *
                  clear v0 rv hlj
                  go_wp2
                  go_roundw
                  case rel => exact ⟨j + 1, _, by omega, by go_num, rfl, bF, hb⟩
                  case measure => simp [intOf]; omega
                · have g3 : decide ((j : Int) < 100) = false := by simp; omega
                  clear h3 hlj
                  go_wp2
                  have bF7 := bF
                  have hb7 := hb
                  have Hlt := Hk.out
                  go_roundw
                  case rel => exact ⟨k + 1, _, by omega, by go_num, rfl, bF7, hb7⟩
                  case measure => simp [intOf]; omega
              · have j1 : ¬ (j : Int) < x.virts.length := by omega
                clear hlj
                go_wp2
                have bF7 := bF
                have hb7 := hb
                have Hlt := Hk.out
                go_roundw
                case rel => exact ⟨k + 1, _, by omega, by go_num, rfl, bF7, hb7⟩
                case measure => simp [intOf]; omega
           | false =>
             clear hd
             have y2 := bF.cell 2
             have y3 := bF.cell 3
             simp at y2 y3
             go_wp2
             all_goals exact HP.out _ _ hb
end Go.Proofs.YtjjmpfmhggcjiaaGreatDoor
