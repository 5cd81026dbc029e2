/-
  The walk of ProgEffects.
-/
import Derived.Test.YtcmlfaikdegbfaaGreatDoorPgEff3
import Derived.Test.YtcmlfaikdegbfaaGreatDoorPgRNext
import Derived.Test.YtcmlfaikdegbfaaGreatDoorPgRefMay
import Derived.Test.YtcmlfaikdegbfaaGreatDoorPgLight
import Derived.Test.YtcmlfaikdegbfaaGreatDoorPgFair
import Derived.Test.YtcmlfaikdegbfaaGreatDoorPgFirst
import Derived.Deep.RegionHeld3
import Derived.Deep.CutBlock
import Derived.StillTailTactics
namespace Go.Proofs.YtcmlfaikdegbfaaGreatDoor
open Go.RowKit Go.Maps

theorem field_code (x : Int) (A : Option Addr) (n c : Nat) (W : World) : (Instr.field 34 (.agg #[.int .i64 x, .slice A n c]) 0).run Tryz.prog W = .ok (.int .i64 x) W := by kernel_rfl
theorem sameInts_self (A1 A2 : Option Addr) (n1 n2 c1 c2 : Nat) (l : List Int) (w : World) (hn1 : n1 ≤ 9223372036854775807) (h1 : Rd w w.heap.size 1 A1 n1 (ints l)) (h2 : Rd w w.heap.size 1 A2 n2 (ints l)) :
    Calls Tryz.prog 19 #[.slice A1 n1 c1, .slice A2 n2 c2] w fun e w' => e = .returned (.bool true) ∧ Below w.heap.size w w' := by
  have := sameInts_any A1 A2 n1 n2 c1 c2 l l w hn1 h1 h2
  rw [decide_eq_true rfl] at this
  exact this
set_option maxRecDepth 100000 in
set_option maxHeartbeats 8000000 in
theorem progEffects_walk (a : Nat → Addr) (B : Nat) (w : World) (h : Sent w B all14 a) (hB : B ≤ w.heap.size) (ht : Tab w) (Ac Am : Option Addr) (cc cm : Nat) (p : Prg) (hp : POk p) (hr : RdP w w.heap.size Ac Am p) (op c n m pc : Int) :
    Calls Tryz.prog 3 #[pv Ac cc Am cm p, .int .i64 op, .int .i64 c, .int .i64 n, .int .i64 m, .int .i64 pc] w fun e w' => e = .returned (.bool true) ∧ Below w.heap.size w w' := by
  have HT := Lib.hid (Lib.tabBelow_of_tabIs ht)
  have r1 := fun W (hW : Below w.heap.size w W) => (hr.below hW (Nat.le_refl _)).more hW.size
  have R1 := Lib.hid r1
  have HS := Lib.hid (fun W (hW : Below w.heap.size w W) => h.below hW hB)
  have hw := (Below.refl w.heap.size w).alloc (Nat.le_refl _) (.cells #[.slice Ac p.classes.length cc, .slice Am p.methods.length cm] 25)
  have b1 := Blk.new w 25 #[.slice Ac p.classes.length cc, .slice Am p.methods.length cm]
  have hcl := hp.cl
  have hms := hp.ms
  clear r1 hr h ht
  go_enter Tryz.func3, Tryz.ntmps3
  go_wp2_with fail
  refine (first_any a B _ (HS.out _ hw) (Nat.le_trans hB hw.size)).mono ?_
  rintro e w3 ⟨rfl, hb3⟩
  have d1 := b1.below hb3 b1.lt
  have hw3 := hw.trans (hb3.mono hw.size)
  clear b1 hw hb3
  have x0 := d1.at0
  have x1 := d1.at1
  have hl1 := d1.lt
  go_wp2_with fail
  refine (light_any Ac Am cc cm p _ (R1.out _ hw3) hp).mono ?_
  rintro e w4 ⟨l1, rfl, hb4⟩
  have hw4 := hw3.trans (hb4.mono hw3.size)
  have d4 := d1.below hb4 d1.lt
  clear x0 x1 hl1 d1 hw3 hb4
  cases l1 with
  | false =>
    go_wp2
    go_ret
    exact ⟨rfl, hw4⟩
  | true =>
    go_wp2_with fail
    refine (rnames_any _).mono ?_
    rintro e w5 ⟨rfl, hw5⟩
    subst hw5
    have hw5 := hw4.alloc hw4.size (.cells ⟨names47.map Value.string⟩ 9)
    have d5 := d4.alloc (.cells ⟨names47.map Value.string⟩ 9)
    have hN := Blk.new w4 9 ⟨names47.map Value.string⟩
    clear hw4 d4
    generalize w4.alloc (.cells ⟨names47.map Value.string⟩ 9) = w5 at *
    generalize w4.heap.size = gn at *
    go_upto_region 6 with (fail)
    go_cut [42] from 35 to 42 (fun v wx => v = .bool (decide (1 ≤ op ∧ op ≤ 47)) ∧ w5 = wx)
    case first =>
      -- dev<
      by_cases h1 : 1 ≤ op
      · by_cases h2 : op ≤ 47
        · have H := Lib.hid (show decide (1 ≤ op ∧ op ≤ 47) = true from decide_eq_true ⟨h1, h2⟩)
          go_wp2
          go_meet
          exact ⟨by rw [H.out], rfl⟩
        · have H := Lib.hid (show decide (1 ≤ op ∧ op ≤ 47) = false from decide_eq_false (by omega))
          go_wp2
          go_meet
          exact ⟨by rw [H.out], rfl⟩
      · have H := Lib.hid (show decide (1 ≤ op ∧ op ≤ 47) = false from decide_eq_false (by omega))
        go_wp2
        go_meet
        exact ⟨by rw [H.out], rfl⟩
      -- dev>
    case rest =>
      obtain ⟨rfl, hwx⟩ := hcut
      subst hwx
      go_upto_if 42 with (fail)
      go_cut [14] from 42 to 47 (fun v wx => v = .string (nameF op) ∧ w5 = wx)
      case first =>
        -- dev<
        by_cases hq : 1 ≤ op ∧ op ≤ 47
        · have hd : decide (1 ≤ op ∧ op ≤ 47) = true := decide_eq_true hq
          rw [hd]
          obtain ⟨j, rfl⟩ : ∃ j : Nat, op = j + 1 := ⟨(op - 1).toNat, by omega⟩
          have Hn := Lib.hid (name_47 hq.1 hq.2)
          have hj : j < 47 := by omega
          have e2 : ((j : Int) + 1 - 1).toNat = j := by omega
          rw [e2] at Hn
          have c1 : w5.cell? ⟨gn, j, none⟩ = some (.string (names47.getD j ⟨#[]⟩)) := by
            rw [hN.cell]
            have hl : j < names47.length := by show j < 47; exact hj
            simp [hl]
          generalize names47.getD j ⟨#[]⟩ = s at *
          have k0 : (0 : Int) ≤ j := by omega
          have k1 : (j : Int) < 47 := by omega
          clear hd hq e2
          go_wp2
          go_meet
          exact ⟨by rw [Hn.out], rfl⟩
        · have hd : decide (1 ≤ op ∧ op ≤ 47) = false := decide_eq_false hq
          rw [hd]
          have Hn := Lib.hid (name_out hq)
          clear hd hq
          go_wp2
          go_meet
          exact ⟨by rw [Hn.out], rfl⟩
        -- dev>
      case rest =>
        obtain ⟨rfl, hwx⟩ := hcut
        subst hwx
        have HN := Lib.hid (fun W hW => name_any op W (HT.out W hW))
        generalize nameF op = nm at *
        go_wp2_with fail
        refine (HN.out _ hw5).mono ?_
        rintro e w6 ⟨rfl, hb6⟩
        have hw6 := hw5.trans (hb6.mono hw5.size)
        have d6 := d5.below hb6 d5.lt
        clear hN hb6 hw5 d5
        go_wp2_with fail
        refine (traps_any op _).mono ?_
        rintro e w7 ⟨rfl, hb7⟩
        have hw7 := hw6.trans (hb7.mono hw6.size)
        have d7 := d6.below hb7 d6.lt
        clear hb7 hw6 d6
        have HR := Lib.hid (fun W => rtraps_any op W)
        have HS1 := Lib.hid (fun W => safe_any op W)
        have HS2 := Lib.hid (fun W => rsafe_any op W)
        generalize decide (op ∈ trapsL) = tb at *
        generalize safeF op = sb at *
        have x0 := d7.at0
        have x1 := d7.at1
        have hl7 := d7.lt
        go_upto_region 10 with (first | (go_at_call 9; refine (HR.out _).mono ?_; rintro e w8 ⟨rfl, rfl⟩) | (go_at_call 10; refine (HS1.out _).mono ?_; rintro e w8 ⟨rfl, rfl⟩) | (go_at_call 11; refine (HS2.out _).mono ?_; rintro e w8 ⟨rfl, rfl⟩))
        clear HR HS1 HS2 HN
        go_wp2_with fail
        refine (rmay_any _ Ac Am cc cm p (R1.out _ hw7) hp).mono ?_
        rintro e w8 ⟨A8, n8, c8, rfl, hn8, hrd8, hb8⟩
        have hw8 := hw7.trans (hb8.mono hw7.size)
        have d8 := d7.below hb8 d7.lt
        clear hw7 d7 hb8 hrd8 x0 x1 hl7
        by_cases hz : (mayP p).1 = 0
        · have hfair := fair_of hz
          have hcz : codeOf (mayP p).1 = 0 := by rw [hz]; rfl
          rw [hcz]
          have hfd := fun W => field_code 0 A8 n8 c8 W
          clear hz hcz
          go_upto_region 12 with (fail)
          have x0 := d8.at0
          have x1 := d8.at1
          have hl8 := d8.lt
          go_cut [97] from 70 to 97 (fun v wx => v = .bool false ∧ Below w.heap.size w wx ∧ Blk wx w.heap.size 25 #[.slice Ac p.classes.length cc, .slice Am p.methods.length cm])
          case first =>
            -- dev<
            by_cases h1 : -2 ≤ c
            · have g1 : decide (-2 ≤ c) = true := by simpa using h1
              by_cases h2 : c < p.classes.length
              · have g2 : decide (c < (p.classes.length : Int)) = true := by simpa using h2
                by_cases h3 : 0 ≤ n
                · have g3 : decide (0 ≤ n) = true := by simpa using h3
                  by_cases h4 : n ≤ 100
                  · have g4 : decide (n ≤ 100) = true := by simpa using h4
                    have HW1 := Lib.hid (fun W (hW : Hid (Below w.heap.size w W)) => words_any Ac Am cc cm p c n W (R1.out W hW.out).cl hcl h2 ⟨h3, h4⟩ (fun k hk => Nat.le_trans (hfair.cls k hk) (by omega)))
                    have HW2 := Lib.hid (fun W (hW : Hid (Below w.heap.size w W)) => rwords_any Ac Am cc cm p c n W (R1.out W hW.out).cl hcl h2 ⟨h3, h4⟩ (fun k hk => Nat.le_trans (hfair.cls k hk) (by omega)))
                    generalize wordsF p c n = wv at *
                    clear h1 h2 h3 h4
                    go_wp2
                    go_region_held3 (fun w' => w'.cell? ⟨w.heap.size, 0, none⟩ = some (.slice Ac p.classes.length cc) ∧ w'.cell? ⟨w.heap.size, 1, none⟩ = some (.slice Am p.methods.length cm) ∧ Hid (Blk w' w.heap.size 25 #[.slice Ac p.classes.length cc, .slice Am p.methods.length cm]) ∧ Hid (Below w.heap.size w w'))
                      (first
                        | exact ⟨d8.at0, d8.at1, Lib.hid d8, Lib.hid hw8⟩
                        | exact ⟨d8.drew.at0, d8.drew.at1, Lib.hid d8.drew, Lib.hid hw8.drew⟩
                        | (go_split_ands
                           have z1 := Blk.below (Hid.out (by assumption : Hid (Blk _ w.heap.size 25 _))) hb (Blk.lt (Hid.out (by assumption)))
                           exact ⟨z1.at0, z1.at1, Lib.hid z1, Lib.hid (Below.trans (Hid.out (by assumption)) (hb.mono (Below.size (Hid.out (by assumption)))))⟩))
                      (first
                        | (go_at_call 13; go_split_ands; refine (HW1.out _ (by assumption)).mono ?_; rintro e w' ⟨rfl, hb⟩)
                        | (go_at_call 14; go_split_ands; refine (HW2.out _ (by assumption)).mono ?_; rintro e w' ⟨rfl, hb⟩))
                    go_wp2
                    go_split_ands
                    go_meet
                    exact ⟨by first | rfl | simp, Hid.out (by assumption), Hid.out (by assumption)⟩
                  · have g4 : decide (n ≤ 100) = false := by simpa using h4
                    clear h1 h2 h3 h4
                    go_wp2
                    go_quiet (fail)
                    go_wp2
                    go_meet
                    exact ⟨rfl, below_drewN hw8 _, d8.drewN _⟩
                · have g3 : decide (0 ≤ n) = false := by simpa using h3
                  clear h1 h2 h3
                  go_wp2
                  go_quiet (fail)
                  go_wp2
                  go_meet
                  exact ⟨rfl, below_drewN hw8 _, d8.drewN _⟩
              · have g2 : decide (c < (p.classes.length : Int)) = false := by simpa using h2
                clear h1 h2
                go_wp2
                go_quiet (fail)
                go_wp2
                go_meet
                exact ⟨rfl, below_drewN hw8 _, d8.drewN _⟩
            · have g1 : decide (-2 ≤ c) = false := by simpa using h1
              clear h1
              go_wp2
              go_quiet (fail)
              go_wp2
              go_meet
              exact ⟨rfl, below_drewN hw8 _, d8.drewN _⟩
            -- dev>
          case rest =>
            clear x0 x1 hl8 hw8 d8
            obtain ⟨rfl, hw9, d9⟩ := hcut
            go_wp2
            go_loopw [16] (fun iv wr => ∃ i : Nat, i ≤ p.methods.length ∧ iv = .int .i64 i ∧ Below w.heap.size w wr ∧ Blk wr w.heap.size 25 #[.slice Ac p.classes.length cc, .slice Am p.methods.length cm]) (fun iv _ => p.methods.length - (intOf iv).toNat)
            case atStart => exact ⟨0, Nat.zero_le _, rfl, hw9, d9⟩
            case round =>
              clear hw9 d9
              obtain ⟨i, hi, rfl, hb, hP⟩ := hrel
              have hb0 := hb
              have hz := hb.size
              have p0 := hP.at0
              have p1 := hP.at1
              have hPl := hP.lt
              by_cases hlt : i < p.methods.length
              ·
                -- dev<
                obtain ⟨b, off, Ai, ci, hA, hbb, m0, m1, m2, m3, hcode⟩ := mth_at (R1.out _ hb).ms hlt
                have hsm := hfair.small hlt
                have hmk := hp.m i hlt
                have Hins := Lib.hid (hfair.ins i hlt)
                have Hmf := Lib.hid (methodF_at hlt)
                have Hre := Lib.hid (fun (x : Ins) W hrW hv => reffect_any Ac Am cc cm p x i W hrW hp hlt _ rfl (by omega) hv)
                generalize p.methods.getD i default = mm at *
                have k0 : (0 : Int) ≤ i := by omega
                have k1 : (i : Int) < p.methods.length := by omega
                subst hA
                go_upto_region 18 with (fail)
                have hM := Blk.new wr 39 #[.string mm.pa, .string mm.lo, .string mm.re, .slice Ai mm.code.length ci]
                have hP1 := hP.alloc (.cells #[.string mm.pa, .string mm.lo, .string mm.re, .slice Ai mm.code.length ci] 39)
                have hb1 := hb.alloc hz (.cells #[.string mm.pa, .string mm.lo, .string mm.re, .slice Ai mm.code.length ci] 39)
                have hcd := (hcode.alloc (Nat.le_refl _) (.cells #[.string mm.pa, .string mm.lo, .string mm.re, .slice Ai mm.code.length ci] 39)).more (by simp : _ ≤ (wr.alloc (.cells #[.string mm.pa, .string mm.lo, .string mm.re, .slice Ai mm.code.length ci] 39)).heap.size)
                clear p0 p1 m0 m1 m2 m3 hcode hP hb hPl
                generalize wr.alloc (.cells #[.string mm.pa, .string mm.lo, .string mm.re, .slice Ai mm.code.length ci] 39) = w3 at *
                generalize wr.heap.size = gm at *
                have y0 := hM.at0
                have y1 := hM.at1
                have y2 := hM.at2
                have y3 := hM.at3
                have hMl := hM.lt
                have hksum : mm.pa.size + mm.lo.size ≤ 1000 := by omega
                go_cut [114] from 110 to 114 (fun v wx => v = .bool false ∧ Below w3.heap.size w3 wx)
                case first =>
                  -- dev<
                  go_region_held3 (fun w' => w'.cell? ⟨gm, 0, none⟩ = some (.string mm.pa) ∧ w'.cell? ⟨gm, 1, none⟩ = some (.string mm.lo) ∧ w'.cell? ⟨gm, 2, none⟩ = some (.string mm.re) ∧ w'.cell? ⟨gm, 3, none⟩ = some (.slice Ai mm.code.length ci) ∧ Hid (Blk w' gm 39 #[.string mm.pa, .string mm.lo, .string mm.re, .slice Ai mm.code.length ci]) ∧ Hid (Below w3.heap.size w3 w'))
                    (first
                      | exact ⟨hM.at0, hM.at1, hM.at2, hM.at3, Lib.hid hM, Lib.hid (Below.refl _ _)⟩
                      | exact ⟨hM.drew.at0, hM.drew.at1, hM.drew.at2, hM.drew.at3, Lib.hid hM.drew, Lib.hid (Below.refl _ _).drew⟩
                      | (go_split_ands
                         have z1 := Blk.below (Hid.out (by assumption : Hid (Blk _ gm 39 _))) hb (Blk.lt (Hid.out (by assumption)))
                         exact ⟨z1.at0, z1.at1, z1.at2, z1.at3, Lib.hid z1, Lib.hid (Below.trans (Hid.out (by assumption)) (hb.mono (Below.size (Hid.out (by assumption)))))⟩))
                    (first
                      | (go_at_call 15; go_split_ands; refine (kinds_any _ _ _ _ hksum).mono ?_; rintro e w' ⟨rfl, hb⟩)
                      | (go_at_call 16; go_split_ands; refine (rkinds_any _ _ _ _ hksum).mono ?_; rintro e w' ⟨rfl, hb⟩))
                  go_wp2
                  go_split_ands
                  go_meet
                  exact ⟨by first | rfl | simp, Hid.out (by assumption)⟩
                  -- dev>
                case rest =>
                  obtain ⟨rfl, hS⟩ := hcut
                  go_wp2
                  clear y0 y1 y2 y3 hMl
                  go_loopw [18] (fun kv wq => ∃ k : Nat, k ≤ mm.code.length ∧ kv = .int .i64 k ∧ Below w3.heap.size w3 wq) (fun kv _ => mm.code.length - (intOf kv).toNat)
                  case atStart => exact ⟨0, Nat.zero_le _, rfl, hS⟩
                  case round =>
                    clear hS
                    obtain ⟨k, hk, rfl, hSS⟩ := hrel
                    have hb2 := hb1.trans (hSS.mono hb1.size)
                    have hP2 := hP1.below hSS hP1.lt
                    have hM2 := hM.below hSS hM.lt
                    have hmc := hmk.code
                    have p0 := hP2.at0
                    have p1 := hP2.at1
                    have y0 := hM2.at0
                    have y1 := hM2.at1
                    have y2 := hM2.at2
                    have y3 := hM2.at3
                    have hPl := hP2.lt
                    have hMl := hM2.lt
                    by_cases hlt2 : k < mm.code.length
                    · have hcd2 := (hcd.below hSS (Nat.le_refl _)).more hSS.size
                      obtain ⟨b2, off2, hA2, hbb2, x0, x1, x2, x3⟩ := ins_at hcd2 hlt2
                      have Hv := Lib.hid (Hins.out k hlt2)
                      generalize mm.code.getD k default = x at *
                      subst hA2
                      have j0 : (0 : Int) ≤ k := by omega
                      have j1 : (k : Int) < mm.code.length := by omega
                      have HE1 := Lib.hid (effect_any Ac (some ⟨b, off, none⟩) cc cm p x i wr.drew (R1.out _ hb2.drew) hp (by rw [Hmf.out]; exact hksum))
                      rw [Hmf.out] at HE1
                      go_upto_region 23 with (fail)
                      go_cut [19, 20, 21] from 122 to 133 (fun v1 v2 v3 wx => v1 = .string (effF p mm x).1 ∧ v2 = .string (effF p mm x).2.1 ∧ v3 = .bool (effF p mm x).2.2 ∧ Below wr.heap.size wr wx)
                      case first =>
                        -- dev<
                        go_region_held3 (fun w' => w'.cell? ⟨w.heap.size, 0, none⟩ = some (.slice Ac p.classes.length cc) ∧ w'.cell? ⟨w.heap.size, 1, none⟩ = some (.slice (some ⟨b, off, none⟩) p.methods.length cm) ∧ w'.cell? ⟨gm, 3, none⟩ = some (.slice (some ⟨b2, off2, none⟩) mm.code.length ci) ∧ w'.cell? ⟨b2, off2 + k * 4, none⟩ = some (.int .i64 x.op) ∧ w'.cell? ⟨b2, off2 + k * 4 + 1, none⟩ = some (.int .i64 x.a) ∧ w'.cell? ⟨b2, off2 + k * 4 + 2, none⟩ = some (.int .i64 x.b) ∧ w'.cell? ⟨b2, off2 + k * 4 + 3, none⟩ = some (.int .i64 x.n) ∧ Hid (Below wr.heap.size wr w'))
                          (first
                            | exact ⟨hP2.drew.at0, hP2.drew.at1, hM2.drew.at3, x0, x1, x2, x3, Lib.hid (Below.refl _ _).drew⟩
                            | exact ⟨(hP2.drew.below hb hPl).at0, (hP2.drew.below hb hPl).at1, (hM2.drew.below hb hMl).at3, (hb.cell (p := ⟨b2, off2 + k * 4, none⟩) hbb2).trans x0, (hb.cell (p := ⟨b2, off2 + k * 4 + 1, none⟩) hbb2).trans x1, (hb.cell (p := ⟨b2, off2 + k * 4 + 2, none⟩) hbb2).trans x2, (hb.cell (p := ⟨b2, off2 + k * 4 + 3, none⟩) hbb2).trans x3, Lib.hid ((Below.refl wr.heap.size wr).drew.trans hb)⟩)
                          ((go_at_call 17; refine HE1.out.mono ?_; rintro e w' ⟨rfl, hb⟩))
                        go_wp2
                        go_split_ands
                        go_meet
                        exact ⟨rfl, rfl, rfl, Hid.out (by assumption)⟩
                        -- dev>
                      case rest =>
                        obtain ⟨rfl, rfl, rfl, hS2⟩ := hcut
                        rename World => W3
                        clear HE1 p0 p1 y0 y1 y2 y3
                        have hP3 := hP2.below hS2 hPl
                        have hM3 := hM2.below hS2 hMl
                        have hb3 := hb2.trans (hS2.mono hb2.size)
                        have hcd3 := (hcd2.below hS2 (Nat.le_refl _)).more hS2.size
                        have z0 := (hS2.cell (p := ⟨b2, off2 + k * 4, none⟩) hbb2).trans x0
                        have z1 := (hS2.cell (p := ⟨b2, off2 + k * 4 + 1, none⟩) hbb2).trans x1
                        have z2 := (hS2.cell (p := ⟨b2, off2 + k * 4 + 2, none⟩) hbb2).trans x2
                        have z3 := (hS2.cell (p := ⟨b2, off2 + k * 4 + 3, none⟩) hbb2).trans x3
                        have hbb3 := Nat.lt_of_lt_of_le hbb2 hS2.size
                        have hS3 := hSS.trans (hS2.mono hSS.size)
                        have HE2 := Lib.hid (Hre.out x _ (R1.out _ hb3.drew) Hv.out)
                        clear hP2 hM2 hb2 hcd2 x0 x1 x2 x3 hbb2 hSS hPl hMl hS2
                        have p0 := hP3.at0
                        have p1 := hP3.at1
                        have y3 := hM3.at3
                        have hPl := hP3.lt
                        have hMl := hM3.lt
                        go_upto_region 24 with (fail)
                        go_cut [22, 23, 24] from 134 to 145 (fun v1 v2 v3 wx => v1 = .string (effF p mm x).1 ∧ v2 = .string (effF p mm x).2.1 ∧ v3 = .bool (effF p mm x).2.2 ∧ Below W3.heap.size W3 wx)
                        case first =>
                          -- dev<
                          go_region_held3 (fun w' => w'.cell? ⟨w.heap.size, 0, none⟩ = some (.slice Ac p.classes.length cc) ∧ w'.cell? ⟨w.heap.size, 1, none⟩ = some (.slice (some ⟨b, off, none⟩) p.methods.length cm) ∧ w'.cell? ⟨gm, 3, none⟩ = some (.slice (some ⟨b2, off2, none⟩) mm.code.length ci) ∧ w'.cell? ⟨b2, off2 + k * 4, none⟩ = some (.int .i64 x.op) ∧ w'.cell? ⟨b2, off2 + k * 4 + 1, none⟩ = some (.int .i64 x.a) ∧ w'.cell? ⟨b2, off2 + k * 4 + 2, none⟩ = some (.int .i64 x.b) ∧ w'.cell? ⟨b2, off2 + k * 4 + 3, none⟩ = some (.int .i64 x.n) ∧ Hid (Below W3.heap.size W3 w'))
                            (first
                              | exact ⟨hP3.drew.at0, hP3.drew.at1, hM3.drew.at3, z0, z1, z2, z3, Lib.hid (Below.refl _ _).drew⟩
                              | exact ⟨(hP3.drew.below hb hPl).at0, (hP3.drew.below hb hPl).at1, (hM3.drew.below hb hMl).at3, (hb.cell (p := ⟨b2, off2 + k * 4, none⟩) hbb3).trans z0, (hb.cell (p := ⟨b2, off2 + k * 4 + 1, none⟩) hbb3).trans z1, (hb.cell (p := ⟨b2, off2 + k * 4 + 2, none⟩) hbb3).trans z2, (hb.cell (p := ⟨b2, off2 + k * 4 + 3, none⟩) hbb3).trans z3, Lib.hid ((Below.refl W3.heap.size W3).drew.trans hb)⟩)
                            ((go_at_call 18; refine HE2.out.mono ?_; rintro e w' ⟨rfl, hb⟩))
                          go_wp2
                          go_split_ands
                          go_meet
                          exact ⟨rfl, rfl, rfl, Hid.out (by assumption)⟩
                          -- dev>
                        case rest =>
                          obtain ⟨rfl, rfl, rfl, hS4⟩ := hcut
                          rename World => W4
                          clear HE2 p0 p1 y3 z0 z1 z2 z3
                          have hM4 := hM3.below hS4 hMl
                          have hP4 := hP3.below hS4 hPl
                          have hb4 := hb3.trans (hS4.mono hb3.size)
                          have hcd4 := (hcd3.below hS4 (Nat.le_refl _)).more hS4.size
                          have hS5 := hS3.trans (hS4.mono hS3.size)
                          clear hP3 hM3 hb3 hcd3 hS3 hS4 hbb3 hPl hMl
                          have HN1 := Lib.hid (fun W (hW : Hid (Below W4.heap.size W4 W)) => next_any (some ⟨b2, off2, none⟩) ci mm k W ((hcd4.below hW.out (Nat.le_refl _)).more hW.out.size) hmc)
                          have HN2 := Lib.hid (fun W (hW : Hid (Below W4.heap.size W4 W)) => rnext_any (some ⟨b2, off2, none⟩) ci mm k W ((hcd4.below hW.out (Nat.le_refl _)).more hW.out.size) hmc)
                          have HB1 := Lib.hid (fun W (hW : Hid (Below W4.heap.size W4 W)) => back_any (some ⟨b2, off2, none⟩) ci mm k W ((hcd4.below hW.out (Nat.le_refl _)).more hW.out.size) hmc)
                          have HB2 := Lib.hid (fun W (hW : Hid (Below W4.heap.size W4 W)) => rback_any (some ⟨b2, off2, none⟩) ci mm k W ((hcd4.below hW.out (Nat.le_refl _)).more hW.out.size) hmc)
                          have HSI := Lib.hid (fun W A1 A2 n1 n2 c1 c2 h0 h1 h2 => sameInts_self A1 A2 n1 n2 c1 c2 (nextF mm k) W h0 h1 h2)
                          generalize nextF mm k = ln at *
                          generalize backF mm k = bk at *
                          generalize (effF p mm x).1 = e1 at *
                          generalize (effF p mm x).2.1 = e2 at *
                          generalize (effF p mm x).2.2 = e3 at *
                          go_upto_region 25 with (fail)
                          go_region_held3 (fun w' => w'.cell? ⟨gm, 0, none⟩ = some (.string mm.pa) ∧ w'.cell? ⟨gm, 1, none⟩ = some (.string mm.lo) ∧ w'.cell? ⟨gm, 2, none⟩ = some (.string mm.re) ∧ w'.cell? ⟨gm, 3, none⟩ = some (.slice (some ⟨b2, off2, none⟩) mm.code.length ci) ∧ Hid (Blk w' gm 39 #[.string mm.pa, .string mm.lo, .string mm.re, .slice (some ⟨b2, off2, none⟩) mm.code.length ci]) ∧ Hid (Below W4.heap.size W4 w'))
                            (first
                              | exact ⟨hM4.at0, hM4.at1, hM4.at2, hM4.at3, Lib.hid hM4, Lib.hid (Below.refl _ _)⟩
                              | exact ⟨hM4.drew.at0, hM4.drew.at1, hM4.drew.at2, hM4.drew.at3, Lib.hid hM4.drew, Lib.hid (Below.refl _ _).drew⟩
                              | (go_split_ands
                                 have z1 := Blk.below (Hid.out (by assumption : Hid (Blk _ gm 39 _))) hb (Blk.lt (Hid.out (by assumption)))
                                 exact ⟨z1.at0, z1.at1, z1.at2, z1.at3, Lib.hid z1, Lib.hid (Below.trans (Hid.out (by assumption)) (hb.mono (Below.size (Hid.out (by assumption)))))⟩))
                            (first
                              | (go_at_call 20; go_split_ands; refine (HN1.out _ (by assumption)).mono ?_; rintro e w' ⟨A1, n1, c1, hn1, rfl, hr1, hb⟩)
                              | (go_at_call 21; go_split_ands; refine (HN2.out _ (by assumption)).mono ?_; rintro e w' ⟨A2, n2, c2, hn2, rfl, hr2, hb⟩)
                              | (go_at_call 19; go_split_ands; refine (HSI.out _ A1 A2 n1 n2 c1 c2 (by omega) ((hr1.below hb (Nat.le_refl _)).more hb.size) hr2).mono ?_; rintro e w' ⟨rfl, hb⟩)
                              | (go_at_call 22; go_split_ands; refine (HB1.out _ (by assumption)).mono ?_; rintro e w' ⟨rfl, hb⟩)
                              | (go_at_call 23; go_split_ands; refine (HB2.out _ (by assumption)).mono ?_; rintro e w' ⟨rfl, hb⟩))
                          go_wp2
                          go_split_ands
                          go_roundw
                          case rel => exact ⟨k + 1, by omega, by go_num, hS5.trans (Below.mono (Hid.out (by assumption)) hS5.size)⟩
                          case measure => simp [intOf]; omega
                    · have hge : ¬ (k : Int) < mm.code.length := by omega
                      clear hlt2
                      go_wp2
                      go_roundw
                      case rel => exact ⟨i + 1, by omega, by go_num, hb2, hP2⟩
                      case measure => simp [intOf]; omega
                -- dev>
              · have hge : ¬ (i : Int) < p.methods.length := by omega
                clear hlt
                by_cases g1 : m < 0
                · have g1' : decide (m < 0) = true := by simpa using g1
                  clear g1
                  go_wp2
                  go_ret
                  exact ⟨rfl, hb⟩
                · have g1' : decide (m < 0) = false := by simpa using g1
                  by_cases g2 : (p.methods.length : Int) ≤ m
                  · have g2' : decide ((p.methods.length : Int) ≤ m) = true := by simpa using g2
                    clear g1 g2
                    go_wp2
                    go_ret
                    exact ⟨rfl, hb⟩
                  · have g2' : decide ((p.methods.length : Int) ≤ m) = false := by simpa using g2
                    obtain ⟨j, rfl⟩ : ∃ j : Nat, m = j := ⟨m.toNat, by omega⟩
                    have hj : j < p.methods.length := by omega
                    obtain ⟨b, off, Ai, ci, hA, hbb, m0, m1, m2, m3, hcode⟩ := mth_at (R1.out _ hb).ms hj
                    have hmc := (hp.m j hj).code
                    generalize p.methods.getD j default = mm at *
                    have k0 : (0 : Int) ≤ j := by omega
                    have k1 : (j : Int) < p.methods.length := by omega
                    subst hA
                    clear g1 g2
                    have HN1 := Lib.hid (fun W (hW : Hid (Below wr.heap.size wr W)) => next_any Ai ci mm pc W ((hcode.below hW.out (Nat.le_refl _)).more hW.out.size) hmc)
                    have HN2 := Lib.hid (fun W (hW : Hid (Below wr.heap.size wr W)) => rnext_any Ai ci mm pc W ((hcode.below hW.out (Nat.le_refl _)).more hW.out.size) hmc)
                    have HB1 := Lib.hid (fun W (hW : Hid (Below wr.heap.size wr W)) => back_any Ai ci mm pc W ((hcode.below hW.out (Nat.le_refl _)).more hW.out.size) hmc)
                    have HB2 := Lib.hid (fun W (hW : Hid (Below wr.heap.size wr W)) => rback_any Ai ci mm pc W ((hcode.below hW.out (Nat.le_refl _)).more hW.out.size) hmc)
                    have HSI := Lib.hid (fun W A1 A2 n1 n2 c1 c2 h0 h1 h2 => sameInts_self A1 A2 n1 n2 c1 c2 (nextF mm pc) W h0 h1 h2)
                    generalize nextF mm pc = ln at *
                    generalize backF mm pc = bk at *
                    go_upto_region 29 with (fail)
                    go_region_held3 (fun w' => w'.cell? ⟨w.heap.size, 1, none⟩ = some (.slice (some ⟨b, off, none⟩) p.methods.length cm) ∧ w'.cell? ⟨b, off + j * 4, none⟩ = some (.string mm.pa) ∧ w'.cell? ⟨b, off + j * 4 + 1, none⟩ = some (.string mm.lo) ∧ w'.cell? ⟨b, off + j * 4 + 2, none⟩ = some (.string mm.re) ∧ w'.cell? ⟨b, off + j * 4 + 3, none⟩ = some (.slice Ai mm.code.length ci) ∧ Hid (Below wr.heap.size wr w'))
                      (first
                        | exact ⟨hP.drew.at1, m0, m1, m2, m3, Lib.hid (Below.refl _ _).drew⟩
                        | (go_split_ands
                           have z1 := Below.trans (Hid.out (by assumption : Hid (Below wr.heap.size wr _))) (hb.mono (Below.size (Hid.out (by assumption))))
                           exact ⟨(hP.below z1 hPl).at1, (z1.cell (p := ⟨b, off + j * 4, none⟩) hbb).trans m0, (z1.cell (p := ⟨b, off + j * 4 + 1, none⟩) hbb).trans m1, (z1.cell (p := ⟨b, off + j * 4 + 2, none⟩) hbb).trans m2, (z1.cell (p := ⟨b, off + j * 4 + 3, none⟩) hbb).trans m3, Lib.hid z1⟩))
                      (first
                        | (go_at_call 20; go_split_ands; refine (HN1.out _ (by assumption)).mono ?_; rintro e w' ⟨A1, n1, c1, hn1, rfl, hr1, hb⟩)
                        | (go_at_call 21; go_split_ands; refine (HN2.out _ (by assumption)).mono ?_; rintro e w' ⟨A2, n2, c2, hn2, rfl, hr2, hb⟩)
                        | (go_at_call 19; go_split_ands; refine (HSI.out _ A1 A2 n1 n2 c1 c2 (by omega) ((hr1.below hb (Nat.le_refl _)).more hb.size) hr2).mono ?_; rintro e w' ⟨rfl, hb⟩)
                        | (go_at_call 22; go_split_ands; refine (HB1.out _ (by assumption)).mono ?_; rintro e w' ⟨rfl, hb⟩)
                        | (go_at_call 23; go_split_ands; refine (HB2.out _ (by assumption)).mono ?_; rintro e w' ⟨rfl, hb⟩))
                    go_wp2
                    go_split_ands
                    go_ret
                    exact ⟨by first | rfl | simp, hb0.trans (Below.mono (Hid.out (by assumption)) hb0.size)⟩
        · have hcz : (codeOf (mayP p).1 != 0) = true := by unfold codeOf; rw [if_neg hz]; simp; omega
          clear hz
          generalize codeOf (mayP p).1 = cd at *
          have hfd := fun W => field_code cd A8 n8 c8 W
          go_wp2
          go_ret
          exact ⟨rfl, hw8⟩
end Go.Proofs.YtcmlfaikdegbfaaGreatDoor
