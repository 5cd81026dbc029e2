/-
  The walk of ProgCounts.
-/
import Derived.Test.YtcmlfaikdegbfaaDoorPgCntLaw
import Derived.Deep.AppendLies
import Derived.Deep.RegionHeld3
import Derived.Deep.RegionLaw
import Derived.Deep.OwnRows
import Derived.OwnWalk
import Derived.IntWalk
namespace Go.Proofs.YtcmlfaikdegbfaaDoor
open Go.RowKit Go.Maps

/-- The program of one instruction, its blocks known whole. -/
def OneWhole (w : World) (x : Ins) (e : Ending) (w' : World) : Prop := ∃ g1 g2 g3 g4, e = .returned (.agg #[.slice (some ⟨g1, 0, none⟩) 2 2, .slice (some ⟨g2, 0, none⟩) 2 2]) ∧ Blk w' g1 40 #[.string sIR, .string s0] ∧
  Blk w' g2 43 ⟨mcell (⟨s0, s0, s0, [retI]⟩, (some ⟨g3, 0, none⟩, 1)) ++ mcell (⟨strI, strR, s0, [retI, x]⟩, (some ⟨g4, 0, none⟩, 2))⟩ ∧ Blk w' g3 29 ⟨icells [retI]⟩ ∧ Blk w' g4 29 ⟨icells [retI, x]⟩ ∧ w.heap.size ≤ g1 ∧ w.heap.size ≤ g2 ∧ Below w.heap.size w w'
set_option maxHeartbeats 1000000 in
theorem one_whole (x : Ins) (w : World) : Calls Tryd.prog 8 #[iv x] w (OneWhole w x) := by
  obtain ⟨op, xa, xb, xn⟩ := x
  go_enter Tryd.func8, Tryd.ntmps8
  go_wp2
  refine bodyPost_ret (v := .agg #[.slice (some ⟨w.heap.size + 1 + 1, 0, none⟩) 2 2, .slice (some ⟨w.heap.size + 1 + 1 + 1 + 1 + 1, 0, none⟩) 2 2]) (by simp [results, Tryd.results8, go_sem]) rfl ⟨w.heap.size + 1 + 1, w.heap.size + 1 + 1 + 1 + 1 + 1, w.heap.size + 1 + 1 + 1, w.heap.size + 1 + 1 + 1 + 1, rfl, ?_, ?_, ?_, ?_, by omega, by omega, ?_⟩
  · exact (((Blk.newAt (by simp) _ _).alloc _).alloc _).alloc _
  · exact Blk.newAt (by simp) _ _
  · exact ((Blk.newAt (g := w.heap.size + 1 + 1 + 1) (by simp) _ _).alloc _).alloc _
  · exact (Blk.newAt (g := w.heap.size + 1 + 1 + 1 + 1) (by simp) _ _).alloc _
  · exact ((((((Below.refl _ _).alloc (Nat.le_refl _) _).alloc (by simp) _).alloc (by simp; omega) _).alloc (by simp; omega) _).alloc (by simp; omega) _).alloc (by simp; omega) _

theorem and7 (n : Int) : bits BinOp.and IntKind.i64 n 7 = n % 8 := by
  show IntKind.i64.wrap ((BitVec.ofInt 64 n &&& BitVec.ofInt 64 7).toNat : Int) = _
  have h1 : (BitVec.ofInt 64 n).toNat = (n % 18446744073709551616).toNat := by simp [BitVec.toNat_ofInt]
  have h2 : (BitVec.ofInt 64 7).toNat = 2 ^ 3 - 1 := by decide
  rw [BitVec.toNat_and, h1, h2, Nat.and_two_pow_sub_one_eq_mod, IntWalk.i64_in _ (by omega)]
  omega
theorem iStr_succ (i : Nat) : iStr i ++ strI = iStr (i + 1) := by
  apply ByteArray.ext
  apply Array.ext'
  simp [iStr, strI, List.replicate_succ']
theorem iStr_ext (m a b : Nat) (hb : b ≤ m) : (iStr m).extract a b = iStr (b - a) := by
  apply ByteArray.ext
  rw [ByteArray.data_extract]
  apply Array.ext'
  simp [iStr]
  omega
theorem most_le (k : Nat) : 10 ≤ mostC k ∧ mostC k ≤ 120 := by
  unfold mostC
  split <;> omega
theorem infoC : (Tryd.prog.info? 40).map (fun i => (i.zero, i.size, i.bytes)) = some (some (.agg #[.string ⟨#[]⟩]), 1, 16) := by kernel_rfl
theorem infoMt : (Tryd.prog.info? 43).map (fun i => (i.zero, i.size, i.bytes)) = some (some (.agg #[.string ⟨#[]⟩, .string ⟨#[]⟩, .string ⟨#[]⟩, .slice none 0 0]), 4, 72) := by kernel_rfl
theorem infoIn : (Tryd.prog.info? 29).map (fun i => (i.zero, i.size, i.bytes)) = some (some (.agg #[.int .i64 0, .int .i64 0, .int .i64 0, .int .i64 0]), 4, 32) := by kernel_rfl
theorem made_cls (n : Nat) : (madeCells (Value.agg #[.string ⟨#[]⟩]).cells (n * 1)).toList = (List.replicate n s0).map Value.string := by
  apply List.ext_getElem
  · simp [madeCells]
  · intro i h1 h2
    simp [madeCells, Nat.mod_one, s0, Value.cells]
theorem Rd.setCell {w : World} {B size n b0 o0 : Nat} {xs : List Value} (h : Rd w B size (some ⟨b0, o0, none⟩) n xs) {p : Addr} (hp : b0 ≠ p.block) (u : Value) : Rd (w.setCell p u) B size (some ⟨b0, o0, none⟩) n xs :=
  ⟨h.1, fun hn => by
    obtain ⟨b, off, e, hb, hc⟩ := h.2 hn
    injection e with e
    injection e with e1 e2
    subst e1 e2
    exact ⟨_, _, rfl, hb, fun j x hx => (World.cell?_setCell_other w p _ u (fun e => hp (by first | rw [e] | rw [← e]))).trans (hc j x hx)⟩⟩
/-- Methods of one kind, their code in blocks of these numbers. -/
def mtCells (gs : List Nat) : List Value := gs.flatMap fun g => mcell (⟨s0, s0, s0, [retI]⟩, (some ⟨g, 0, none⟩, 1))
theorem mtCells_snoc (gs : List Nat) (g : Nat) : mtCells (gs ++ [g]) = mtCells gs ++ [.string s0, .string s0, .string s0, .slice (some ⟨g, 0, none⟩) 1 1] := by
  simp [mtCells, mcell]
theorem mtCells_eq : ∀ gs : List Nat, mthCells (List.replicate gs.length ⟨s0, s0, s0, [retI]⟩) (gs.map fun g => (some ⟨g, 0, none⟩, 1)) = mtCells gs
  | [] => rfl
  | g :: gs => by
    have ih := mtCells_eq gs
    unfold mthCells mtCells at *
    simp only [List.length_cons, List.replicate_succ, List.map_cons, List.zip_cons_cons, List.flatMap_cons]
    rw [ih]
theorem rdMs_rep {w : World} {B : Nat} {A : Option Addr} {gs : List Nat} (h : Rd w B 4 A gs.length (mtCells gs)) (hg : ∀ g ∈ gs, Blk w g 29 ⟨icells [retI]⟩) (hB : w.heap.size ≤ B) : RdMs w B A (List.replicate gs.length ⟨s0, s0, s0, [retI]⟩) := by
  refine ⟨gs.map fun g => (some ⟨g, 0, none⟩, 1), by simp, by rw [mtCells_eq]; simpa using h, fun k m hh e1 e2 => ?_⟩
  rw [List.getElem?_replicate] at e1
  split at e1
  · cases e1
    rw [List.getElem?_map] at e2
    obtain ⟨g, hgk, rfl⟩ := Option.map_eq_some_iff.1 e2
    have hb := hg g (List.mem_of_getElem? hgk)
    exact Blk.rd hb rfl (Nat.lt_of_lt_of_le hb.lt hB)
  · cases e1
theorem icells_snoc (i : Nat) : icells (List.replicate (i + 1) retI) = icells (List.replicate i retI) ++ [.int .i64 33, .int .i64 0, .int .i64 0, .int .i64 0] := by
  rw [List.replicate_succ']
  simp [icells, icell, retI]
/-- The program that is made lies there. -/
def CntMem (w wx : World) (g : Nat) (p : Prg) : Prop := ∃ Ac cc Am cm, Blk wx g 26 #[.slice Ac p.classes.length cc, .slice Am p.methods.length cm] ∧ RdP wx wx.heap.size Ac Am p ∧ Below w.heap.size w wx
theorem cnt_ok {k m : Nat} (hm : m ≤ 1000) : POk (cntP k m) := by
  have hz : (iStr m).size = m := by simp [iStr, ByteArray.size]
  have hz1 : (iStr (m / 2)).size = m / 2 := by simp [iStr, ByteArray.size]
  have hz2 : (iStr (m - m / 2)).size = m - m / 2 := by simp [iStr, ByteArray.size]
  unfold cntP
  split
  · exact POk.of (by simp; omega) (by simp [oneP]) (by simp [sz0]) (by simp [oneP, sz0, szI, szR])
  · exact POk.of (by simp) (by simp [oneP]) (by simp [szIR, hz]; omega) (by simp [oneP, sz0, szI, szR])
  · exact POk.of (by simp) (by simp; omega) (by simp [szIR, sz0]) (by simp [sz0])
  · exact POk.of (by simp) (by simp) (by simp [szIR, sz0]) (by simp [sz0, hz1, hz2]; omega)
  · exact POk.of (by simp) (by simp) (by simp [szIR, sz0]) (by simp [sz0, szI, szR]; omega)

set_option maxRecDepth 100000 in
set_option maxHeartbeats 4000000 in
theorem progCounts_walk (a : Nat → Addr) (B : Nat) (w : World) (h : Sent w B all14 a) (hB : B ≤ w.heap.size) (what n : Int) (hw1 : -9223372036854775808 ≤ what) (hw2 : what ≤ 9223372036854775807) (hn1 : -9223372036854775808 ≤ n) (hn2 : n ≤ 9223372036854775807) :
    Calls Tryd.prog 4 #[.int .i64 what, .int .i64 n] w fun e w' => e = .returned (.bool true) ∧ Below w.heap.size w w' := by
  have hx1 := Int.tmod_lt_of_pos what (show (0 : Int) < 5 by omega)
  have hx2 := Int.lt_tmod_of_pos what (show (0 : Int) < 5 by omega)
  obtain ⟨k, hk5, hk⟩ : ∃ k : Nat, k < 5 ∧ (what.tmod 5 + 5) % 5 = k := ⟨((what.tmod 5 + 5) % 5).toNat, by omega, by omega⟩
  obtain ⟨j, hj8, hj⟩ : ∃ j : Nat, j < 8 ∧ n % 8 = j := ⟨(n % 8).toNat, by omega, by omega⟩
  obtain ⟨q, hq⟩ : ∃ q : Int, (k : Int) = q := ⟨_, rfl⟩
  have h7 := and7 n
  have b0 : 0 ≤ bits BinOp.and IntKind.i64 n 7 := by omega
  have b1 : bits BinOp.and IntKind.i64 n 7 ≤ 7 := by omega
  obtain ⟨m, hm⟩ : ∃ m, m = mostC k - 3 + j := ⟨_, rfl⟩
  obtain ⟨hM1, hM2⟩ := most_le k
  have hsum : (mostC k : Int) - 3 + bits BinOp.and IntKind.i64 n 7 = m := by omega
  have hcnt := cnt_table k hk5 j hj8
  rw [← hm] at hcnt
  have hpok : POk (cntP k m) := cnt_ok (by omega)
  have hm9 : 7 ≤ m := by omega
  have hm127 : m ≤ 130 := by omega
  have Hk := Lib.hid hk
  have Hq := Lib.hid hq
  have Hsum := Lib.hid hsum
  have Hcnt := Lib.hid hcnt
  have Hmost := Lib.hid (show mostC k = mostC k from rfl)
  clear hk hq hsum hcnt h7 hj hj8 hm
  generalize hM : mostC k = M at *
  have HM := Lib.hid hM
  clear hM Hmost
  go_enter Tryd.func4, Tryd.ntmps4
  go_upto_region 3 with (go_at_call 7; refine (first_any a B _ h hB).mono ?_; rintro e w0 ⟨rfl, hb0⟩)
  rw [Hk.out, Hq.out]
  clear hx1 hx2 Hk
  go_cut [6] from 19 to 22 (fun v wx => v = .int .i64 M ∧ Below w.heap.size w wx)
  case first =>
    have hkc : k = 0 ∨ k = 1 ∨ k = 2 ∨ k = 3 ∨ k = 4 := by omega
    rcases hkc with rfl | rfl | rfl | rfl | rfl
    all_goals
      have hq := Hq.out
      simp at hq
      subst hq
      have hM := HM.out
      simp [mostC] at hM
      subst hM
      go_wp2
      go_meet
      exact ⟨rfl, hb0.alloc hb0.size _⟩
  case rest =>
    obtain ⟨rfl, hbx⟩ := hcut
    go_upto_region 5 with (fail)
    rw [Hsum.out]
    clear b0 b1 Hsum
    go_upto_region 7 with (go_at_call 8; refine (one_whole retI _).mono ?_; rintro e w1 ⟨g1, g2, g3, g4, rfl, hB1, hB2, hB3, hB4, hg1, hg2, hb1⟩)
    have hP := Blk.new w1 26 #[.slice (some ⟨g1, 0, none⟩) 2 2, .slice (some ⟨g2, 0, none⟩) 2 2]
    have hC1 := hB1.alloc (.cells #[.slice (some ⟨g1, 0, none⟩) 2 2, .slice (some ⟨g2, 0, none⟩) 2 2] 26)
    have hC2 := hB2.alloc (.cells #[.slice (some ⟨g1, 0, none⟩) 2 2, .slice (some ⟨g2, 0, none⟩) 2 2] 26)
    have hC3 := hB3.alloc (.cells #[.slice (some ⟨g1, 0, none⟩) 2 2, .slice (some ⟨g2, 0, none⟩) 2 2] 26)
    have hC4 := hB4.alloc (.cells #[.slice (some ⟨g1, 0, none⟩) 2 2, .slice (some ⟨g2, 0, none⟩) 2 2] 26)
    have hw2 := (hbx.trans (hb1.mono hbx.size)).alloc (Nat.le_trans hbx.size hb1.size) (.cells #[.slice (some ⟨g1, 0, none⟩) 2 2, .slice (some ⟨g2, 0, none⟩) 2 2] 26)
    have hl1 : w.heap.size ≤ g1 := Nat.le_trans (by have := hbx.size; simpa using this) hg1
    have hl2 : w.heap.size ≤ g2 := Nat.le_trans (by have := hbx.size; simpa using this) hg2
    have hl7 : w.heap.size ≤ w1.heap.size := Nat.le_trans hbx.size hb1.size
    clear hB1 hB2 hB3 hB4 hg1 hg2 hb1 hbx hb0
    generalize w1.alloc (.cells #[.slice (some ⟨g1, 0, none⟩) 2 2, .slice (some ⟨g2, 0, none⟩) 2 2] 26) = w2 at *
    generalize w1.heap.size = g7 at *
    go_wp2
    go_loop [8, 9] (fun s i => ∃ k : Nat, k ≤ m ∧ i = .int .i64 k ∧ s = .string (iStr k)) (fun _ i => m - (intOf i).toNat)
    case atStart => exact ⟨0, Nat.zero_le _, rfl, rfl⟩
    case round =>
      obtain ⟨i, hi, rfl, rfl⟩ := hrel
      by_cases hlt : i < m
      · have hsi : (iStr i).size = i := by simp [iStr, ByteArray.size]
        have hk : ¬ 9223372036854775807 < (iStr i).size + 1 := by omega
        have Hs := Lib.hid (iStr_succ i)
        clear hsi
        go_wp2
        go_round
        case rel => exact ⟨i + 1, by omega, by go_num, by first | (rw [← Hs.out]; rfl) | trace_state⟩
        case measure => simp [intOf]; omega
      · obtain rfl : m = i := by omega
        clear hlt hi
        go_upto_block 2 with (fail)
        have hwlt : w.heap.size ≤ w2.heap.size := hw2.size
        go_cut [10, 11] from 38 to 104 (fun _ _ wx => CntMem w wx g7 (cntP k m))
        case first =>
          have p0 := hP.at0
          have p1 := hP.at1
          have f0 := hP.frozen 0
          have f1 := hP.frozen 1
          have hPl := hP.lt
          have hC1l := hC1.lt
          have hC2l := hC2.lt
          have hC3l := hC3.lt
          have hC4l := hC4.lt
          have hPC1 : g7 ≠ g1 := hP.ne_ hC1 (by decide)
          have hPC2 : g7 ≠ g2 := hP.ne_ hC2 (by decide)
          have hPC3 : g7 ≠ g3 := hP.ne_ hC3 (by decide)
          have hPC4 : g7 ≠ g4 := hP.ne_ hC4 (by decide)
          have hC12 : g1 ≠ g2 := hC1.ne_ hC2 (by decide)
          have hC13 : g1 ≠ g3 := hC1.ne_ hC3 (by decide)
          have hC14 : g1 ≠ g4 := hC1.ne_ hC4 (by decide)
          have hC23 : g2 ≠ g3 := hC2.ne_ hC3 (by decide)
          have hC24 : g2 ≠ g4 := hC2.ne_ hC4 (by decide)
          have hkc : k = 0 ∨ k = 1 ∨ k = 2 ∨ k = 3 ∨ k = 4 := by omega
          rcases hkc with rfl | rfl | rfl | rfl | rfl
          · obtain rfl : q = 0 := by have := Hq.out; omega
            clear hC12 hC13 hC14 hC23 hC24 f0 p0 p1
            obtain ⟨ic, hi1, hi2, hi3, hi4⟩ := info_parts infoC
            have hi2' := Lib.hid hi2
            have hi3' := Lib.hid hi3
            have hi4' := Lib.hid hi4
            have hi1' := Lib.hid hi1
            clear hi1 hi2 hi3 hi4
            go_wp2_with (at_make
                         refine wpList_make_full _ rfl (.tmp 61) (.tmp 61) 23 rfl w.heap.size 40 ic _ 1 Tryd.underlying23 hi1'.out hi2'.out hi3'.out .i64 .i64 m m m rfl rfl rfl rfl (by rw [hi4'.out]; omega) (by unfold maxLen; omega) hwlt ?_
                         intro w3 hown3 hgr3
                         have f3 := (hP.grown hgr3 (by simp)).frozen 0
                         have e3 := (hP.grown hgr3 (by simp)).at0
                         have hl3 := (hP.grown hgr3 (by simp)).lt
                         have hz3 := hgr3.size)
            go_meet
            obtain ⟨A3, d3, hA3, hrd3⟩ := Rd.of_own hown3
            injection hA3 with hA3 _ hd3
            subst hA3 hd3
            rw [made_cls] at hrd3
            have hb3 := hw2.grown hgr3 hwlt (fun j hj => by cases hj)
            have hlen : (cntP 0 m).classes.length = m := by simp [cntP]
            have hlt3 : g1 < w3.heap.size ∧ g2 < w3.heap.size ∧ g3 < w3.heap.size ∧ g4 < w3.heap.size := by omega
            refine ⟨some ⟨w2.heap.size, 0, none⟩, m, some ⟨g2, 0, none⟩, 2, by rw [hlen]; exact (hP.grown hgr3 (by simp)).set_ 0 _, ⟨?_, RdMs.of2 (Blk.rd ((hC2.grown hgr3 (by simp)).far hPC2.symm _) rfl (by simp; omega)) (Blk.rd ((hC3.grown hgr3 (by simp)).far hPC3.symm _) rfl (by simp; omega)) (Blk.rd ((hC4.grown hgr3 (by simp)).far hPC4.symm _) rfl (by simp; omega))⟩, hb3.setCell hl7 _⟩
            rw [hlen]
            have hne7 : w2.heap.size ≠ g7 := by omega
            exact (hrd3.setCell (p := ⟨g7, 0, none⟩) hne7 _).more (by simp)
          · obtain rfl : q = 1 := by have := Hq.out; omega
            have c1 := hC1.at1
            have c2 := hC1.frozen 1
            go_wp2
            go_meet
            refine ⟨_, _, _, _, hP.far hPC1 _, ⟨Blk.rd (xs := [.string sIR, .string (iStr m)]) (hC1.set_ 1 (.string (iStr m))) rfl (by simpa using hC1l), RdMs.of2 (Blk.rd (hC2.far hC12.symm _) rfl (by simpa using hC2l)) (Blk.rd (hC3.far hC13.symm _) rfl (by simpa using hC3l)) (Blk.rd (hC4.far hC14.symm _) rfl (by simpa using hC4l))⟩, hw2.setCell hl1 _⟩
          · obtain rfl : q = 2 := by have := Hq.out; omega
            go_wp2
            have hP2 := hP.set_ 1 (.slice none 0 0)
            have hC12 := hC1.far (p := ⟨g7, 1, none⟩) hPC1.symm (.slice none 0 0)
            have hw3 := hw2.setCell (p := ⟨g7, 1, none⟩) hl7 (.slice none 0 0)
            have hl3 : g7 < (w2.setCell ⟨g7, 1, none⟩ (.slice none 0 0)).heap.size := hP2.lt
            have hl4 : g1 < (w2.setCell ⟨g7, 1, none⟩ (.slice none 0 0)).heap.size := hC12.lt
            clear hP hC1 hC2 hC3 hC4 p0 p1 f0 f1 hPl hC1l hC2l hC3l hC4l hPC2 hPC3 hPC4 hC13 hC14 hC23 hC24 hw2 hwlt
            generalize w2.setCell ⟨g7, 1, none⟩ (.slice none 0 0) = w3 at *
            have hz3 := hw3.size
            go_loopw [10] (fun iv wr => ∃ (i : Nat) (gs : List Nat) (A' : Option Addr) (c' : Nat), i ≤ m ∧ iv = .int .i64 i ∧ gs.length = i ∧ Hid (∀ g ∈ gs, Blk wr g 29 ⟨icells [retI]⟩) ∧ wr.ownsRow w3.heap.size 43 4 (.slice A' i c') i (mtCells gs) ∧ Blk wr g7 26 #[.slice (some ⟨g1, 0, none⟩) 2 2, .slice A' i c'] ∧ Blk wr g1 40 #[.string sIR, .string s0] ∧ Below w.heap.size w wr ∧ w3.heap.size ≤ wr.heap.size) (fun iv _ => m - (intOf iv).toNat)
            case atStart => exact ⟨0, [], none, 0, Nat.zero_le _, rfl, rfl, Lib.hid (by simp), World.ownsRow_nil _ _ _ _, hP2, hC12, hw3, Nat.le_refl _⟩
            case round =>
              obtain ⟨i, gs, A', c', hi, rfl, hgl, Hgs, hown, hPb, hCb, hb, hzr⟩ := hrel
              have p0 := hPb.at0
              have p1 := hPb.at1
              have f1 := hPb.frozen 1
              have hPbl := hPb.lt
              have Hgl := Lib.hid hgl
              clear hgl
              by_cases hlt : i < m
              · have i0 : (0 : Int) ≤ i := by omega
                have i1 : (i : Int) < m := by omega
                have hne7 : some g7 ≠ (Value.slice A' i c').ownBlock := fun e => by have := (hown.lt g7 e.symm).1; omega
                have hne1 : some g1 ≠ (Value.slice A' i c').ownBlock := fun e => by have := (hown.lt g1 e.symm).1; omega
                have HneG := Lib.hid (fun g (hg : g ∈ gs) => (Hgs.out g hg).own_ne hown (by decide))
                have hwr := (hb.alloc hb.size (.cells ⟨icells [retI]⟩ 29)).alloc (by have := hb.size; simp; omega) (.cells #[.string s0, .string s0, .string s0, .slice (some ⟨wr.heap.size, 0, none⟩) 1 1] 43)
                have hI := (Blk.new wr 29 ⟨icells [retI]⟩).alloc (.cells #[.string s0, .string s0, .string s0, .slice (some ⟨wr.heap.size, 0, none⟩) 1 1] 43)
                have hneI : some wr.heap.size ≠ (Value.slice A' i c').ownBlock := fun e => by have := (hown.lt _ e.symm).2; omega
                clear p0
                go_wp2_with (at_builtin
                             refine wpList_append_row rfl (.tmp 80) (.tmp 84) 24 rfl w3.heap.size 43 _ 4 72 Tryd.underlying24 infoMt rfl (by omega) A' c' i (mtCells gs) rfl ((hown.alloc _).alloc _) (wr.heap.size + 1) 1 1 43 [.string s0, .string s0, .string s0, .slice (some ⟨wr.heap.size, 0, none⟩) 1 1] rfl (Blk.newAt (by simp) _ _) rfl (by intro u hu; simp at hu; rcases hu with rfl | rfl <;> rfl) (by unfold maxLen; omega) (by omega) (by simp; omega) ?_
                             intro A1 c1 w4 hown1 hgr hat
                             have hx4 := ((hPb.alloc _).alloc _).grown hgr hne7
                             have hx5 := hx4.at1
                             have hx6 := hx4.frozen 1
                             have hx7 := hx4.lt)
                have hne8 : (Value.slice A1 (i + 1) c1).ownBlock ≠ some g7 := fun e => by have := (hown1.lt g7 e).1; omega
                have hzz := hgr.size
                have hb4 := hwr.grown hgr hwr.size (fun j hj => Nat.le_trans hz3 (hown.lt j hj).1)
                go_roundw
                case rel =>
                  refine ⟨i + 1, gs ++ [wr.heap.size], A1, c1, by omega, by go_num, by simp [Hgl.out], Lib.hid (fun g hg => ?_), ?_, hx4.set_ 1 _, (((hCb.alloc _).alloc _).grown hgr hne1).far hPC1.symm _, hb4.setCell hl7 _, ?_⟩
                  · rcases List.mem_append.1 hg with hg | hg
                    · exact ((((Hgs.out g hg).alloc _).alloc _).grown hgr (fun e => HneG.out g hg e.symm)).far (by
                        have h3 := hPb.ne_ (Hgs.out g hg) (by decide)
                        exact h3.symm) _
                    · obtain rfl := List.mem_singleton.1 hg
                      exact (hI.grown hgr hneI).far (by simp; omega) _
                  · rw [mtCells_snoc]
                    exact hown1.kept (grown_setCell _ _ _) (.inr hne8)
                  · simp at hzz ⊢; omega
                case measure => simp [intOf]; omega
              · obtain rfl : m = i := by omega
                clear hlt hi
                go_wp2
                go_meet
                obtain ⟨A3, d3, hA3, hrd3⟩ := Rd.of_own hown
                injection hA3 with hA3 _ hd3
                subst hA3 hd3
                have hgl := Hgl.out
                subst hgl
                have hlen : (cntP 2 gs.length).methods.length = gs.length := by simp [cntP]
                exact ⟨_, _, _, _, by rw [hlen]; exact hPb, ⟨Blk.rd (xs := [.string sIR, .string s0]) hCb rfl hCb.lt, rdMs_rep hrd3 Hgs.out (Nat.le_refl _)⟩, hb⟩
          · obtain rfl : q = 3 := by have := Hq.out; omega
            have c4 := hC2.frozen 4
            have c5 := hC2.frozen 5
            have d4 : w2.cell? ⟨g2, 4, none⟩ = some (.string strI) := hC2.cell 4
            have d5 : w2.cell? ⟨g2, 5, none⟩ = some (.string strR) := hC2.cell 5
            have hms : (iStr m).size = m := by simp [iStr, ByteArray.size]
            have Hms := Lib.hid hms
            have hmi : (0 : Int) ≤ m := by omega
            go_wp2
            go_region
            go_wp2
            go_region
            go_wp2
            go_meet
            have hM2 : Blk (w2.setCell ⟨g2, 4, none⟩ (.string ((iStr m).extract 0 (m / 2)))) g2 43 _ := hC2.set_ 4 _
            have hM3 := hM2.set_ 5 (.string ((iStr m).extract (m / 2) m))
            have hb3 := (hw2.setCell (p := ⟨g2, 4, none⟩) hl2 (.string ((iStr m).extract 0 (m / 2)))).setCell (p := ⟨g2, 5, none⟩) hl2 (.string ((iStr m).extract (m / 2) m))
            have hP3 := (hP.far (p := ⟨g2, 4, none⟩) hPC2 (.string ((iStr m).extract 0 (m / 2)))).far (p := ⟨g2, 5, none⟩) hPC2 (.string ((iStr m).extract (m / 2) m))
            have hK1 := (hC1.far (p := ⟨g2, 4, none⟩) hC12 (.string ((iStr m).extract 0 (m / 2)))).far (p := ⟨g2, 5, none⟩) hC12 (.string ((iStr m).extract (m / 2) m))
            have hK3 := (hC3.far (p := ⟨g2, 4, none⟩) hC23.symm (.string ((iStr m).extract 0 (m / 2)))).far (p := ⟨g2, 5, none⟩) hC23.symm (.string ((iStr m).extract (m / 2) m))
            have hK4 := (hC4.far (p := ⟨g2, 4, none⟩) hC24.symm (.string ((iStr m).extract 0 (m / 2)))).far (p := ⟨g2, 5, none⟩) hC24.symm (.string ((iStr m).extract (m / 2) m))
            rw [iStr_ext _ _ _ (by omega), iStr_ext _ _ _ (by omega)] at hM3 hb3 hP3 hK1 hK3 hK4 ⊢
            simp only [Nat.sub_zero] at hM3 hb3 hP3 hK1 hK3 hK4 ⊢
            exact ⟨_, _, _, _, hP3.drew.drew, ⟨Blk.rd (xs := [.string sIR, .string s0]) hK1.drew.drew rfl hK1.lt, RdMs.of2 (Blk.rd (xs := mcell (⟨s0, s0, s0, [retI]⟩, (some ⟨g3, 0, none⟩, 1)) ++ mcell (⟨iStr (m / 2), iStr (m - m / 2), s0, [retI, retI]⟩, (some ⟨g4, 0, none⟩, 2))) hM3.drew.drew rfl hM3.lt) (Blk.rd hK3.drew.drew rfl hK3.lt) (Blk.rd hK4.drew.drew rfl hK4.lt)⟩, hb3.drew.drew⟩
          · obtain rfl : q = 4 := by have := Hq.out; omega
            have c7 := hC2.frozen 7
            have d7 : w2.cell? ⟨g2, 7, none⟩ = some (.slice (some ⟨g4, 0, none⟩) 2 2) := hC2.cell 7
            go_wp2
            have hC22 := hC2.set_ 7 (.slice none 0 0)
            have hP2 := hP.far (p := ⟨g2, 7, none⟩) hPC2 (.slice none 0 0)
            have hC12' := hC1.far (p := ⟨g2, 7, none⟩) hC12 (.slice none 0 0)
            have hC32 := hC3.far (p := ⟨g2, 7, none⟩) hC23.symm (.slice none 0 0)
            have hw3 := hw2.setCell (p := ⟨g2, 7, none⟩) hl2 (.slice none 0 0)
            clear hP hC1 hC2 hC3 hC4 p0 p1 f0 f1 hPl hC1l hC2l hC3l hC4l hPC3 hPC4 hC13 hC14 hC24 hw2 hwlt c7 d7
            generalize w2.setCell ⟨g2, 7, none⟩ (.slice none 0 0) = w3 at *
            have hz3 := hw3.size
            have hl3 := hP2.lt
            have hl4 := hC12'.lt
            have hl5 := hC22.lt
            have hl6 := hC32.lt
            go_loopw [11] (fun iv wr => ∃ (i : Nat) (A' : Option Addr) (c' : Nat), i ≤ m ∧ iv = .int .i64 i ∧ wr.ownsRow w3.heap.size 29 4 (.slice A' i c') i (icells (List.replicate i retI)) ∧ Blk wr g7 26 #[.slice (some ⟨g1, 0, none⟩) 2 2, .slice (some ⟨g2, 0, none⟩) 2 2] ∧ Blk wr g1 40 #[.string sIR, .string s0] ∧ Blk wr g2 43 ⟨mcell (⟨s0, s0, s0, [retI]⟩, (some ⟨g3, 0, none⟩, 1)) ++ [.string strI, .string strR, .string s0, .slice A' i c']⟩ ∧ Blk wr g3 29 ⟨icells [retI]⟩ ∧ Below w.heap.size w wr ∧ w3.heap.size ≤ wr.heap.size) (fun iv _ => m - (intOf iv).toNat)
            case atStart => exact ⟨0, none, 0, Nat.zero_le _, rfl, World.ownsRow_nil _ _ _ _, hP2, hC12', hC22, hC32, hw3, Nat.le_refl _⟩
            case round =>
              obtain ⟨i, A', c', hi, rfl, hown, hPb, hCb, hMb, hIb, hb, hzr⟩ := hrel
              have p1 := hPb.at1
              have d7 : wr.cell? ⟨g2, 7, none⟩ = some (.slice A' i c') := hMb.cell 7
              have f7 := hMb.frozen 7
              have hPbl := hPb.lt
              have hMbl := hMb.lt
              by_cases hlt : i < m
              · have i0 : (0 : Int) ≤ i := by omega
                have i1 : (i : Int) < m := by omega
                obtain ⟨ii, hi1, hi2, hi3, hi4⟩ := info_parts infoIn
                have Hi1 := Lib.hid hi1
                have Hi2 := Lib.hid hi2
                have Hi3 := Lib.hid hi3
                have Hi4 := Lib.hid hi4
                clear hi1 hi2 hi3 hi4
                have hne7 : (Value.slice A' i c').ownBlock ≠ some g7 := fun e => by have := (hown.lt g7 e).1; omega
                have hne2 : (Value.slice A' i c').ownBlock ≠ some g2 := fun e => by have := (hown.lt g2 e).1; omega
                have hwr := hb.alloc hb.size (.cells #[.int .i64 33, .int .i64 0, .int .i64 0, .int .i64 0] 29)
                have hne1 : some g1 ≠ (Value.slice A' i c').ownBlock := fun e => by have := (hown.lt g1 e.symm).1; omega
                have hne3 : some g3 ≠ (Value.slice A' i c').ownBlock := fun e => by have := (hown.lt g3 e.symm).1; omega
                go_wp2
                have hx1 := fun w4 (hgrow : ((wr.alloc (.cells #[.int .i64 33, .int .i64 0, .int .i64 0, .int .i64 0] 29)).drew).grownBy w4 (Value.slice A' i c').ownBlock) => ((hPb.alloc _).drew.grown hgrow (Ne.symm hne7)).at1
                have hx2 := fun w4 (hgrow : ((wr.alloc (.cells #[.int .i64 33, .int .i64 0, .int .i64 0, .int .i64 0] 29)).drew).grownBy w4 (Value.slice A' i c').ownBlock) => ((hMb.alloc _).drew.grown hgrow (Ne.symm hne2))
                have Hx1 := Lib.hid hx1
                have Hx2 := Lib.hid hx2
                clear hx1 hx2
                go_region_law
                  ((refine step_append_lies _ (by rfl) _ _ _ (by rfl) w3.heap.size 29 ii _ 4 32 Tryd.underlying41 Hi1.out Hi2.out Hi3.out Hi4.out rfl (by omega) (.slice A' i c') i (icells (List.replicate i retI)) (by rfl) ((hown.alloc _).drew) ⟨wr.heap.size, 0, none⟩ 1 1 [.int .i64 33, .int .i64 0, .int .i64 0, .int .i64 0] (by rfl) (by rfl) (World.news_of_block (cs := #[.int .i64 33, .int .i64 0, .int .i64 0, .int .i64 0]) (t := 29) (fr := (0, 0)) (heap_alloc_new wr _)) (by simp [Value.oneCell']) (by omega) (by unfold maxLen; omega) (by omega) (by simp; omega) (wr.heap.size + 1) (by simp) ?_; intro gg cap w4 hown1 hgrow hat hlt4; have hy1 := Hx1.out _ hgrow; have hy2 : w4.cell? ⟨g2, 7, none⟩ = some (.slice A' i c') := (Hx2.out _ hgrow).cell 7; have hy3 := (Hx2.out _ hgrow).frozen 7))
                all_goals
                  go_wp2
                  have hne8 : (Value.slice (some ⟨gg, 0, none⟩) (i + 1) cap).ownBlock ≠ some g2 := fun e => by have := (hown1.lt g2 e).1; omega
                  have hzz := hgrow.size
                  have hb4 := hwr.drew.grown hgrow hwr.size (fun j hj => Nat.le_trans hz3 (hown.lt j hj).1)
                  go_roundw
                  case rel => exact ⟨i + 1, some ⟨gg, 0, none⟩, cap, by omega, by go_num, by rw [icells_snoc]; exact hown1.kept (grown_setCell _ _ _) (.inr hne8), ((hPb.alloc _).drew.grown hgrow (Ne.symm hne7)).far hPC2 _, ((hCb.alloc _).drew.grown hgrow hne1).far hC12 _, (Hx2.out _ hgrow).set_ 7 _, ((hIb.alloc _).drew.grown hgrow hne3).far hC23.symm _, hb4.setCell hl2 _, by simp at hzz ⊢; omega⟩
                  case measure => simp [intOf]; omega
              · obtain rfl : m = i := by omega
                clear hlt hi
                go_wp2
                go_meet
                obtain ⟨A3, d3, hA3, hrd3⟩ := Rd.of_own hown
                injection hA3 with hA3 _ hd3
                subst hA3 hd3
                have hlen : (List.replicate m retI).length = m := by simp
                refine ⟨some ⟨g1, 0, none⟩, 2, some ⟨g2, 0, none⟩, 2, hPb, ⟨Blk.rd (xs := [.string sIR, .string s0]) hCb rfl hCb.lt, RdMs.of2 (A1 := some ⟨g3, 0, none⟩) (c1 := 1) (A2 := A') (c2 := c') ?_ (Blk.rd hIb rfl hIb.lt) (by rw [hlen]; exact hrd3)⟩, hb⟩
                have hrr := Blk.rd (n := 2) (size := 4) (B := wr.heap.size) hMb rfl hMb.lt
                simpa [mcell, hlen] using hrr
        case rest =>
          obtain ⟨Ac, cc, Am, cm, hPx, hR, hbx⟩ := hcut
          clear hP hC1 hC2 hC3 hC4 hw2 hl1 hl2 hl7 hwlt
          have p0 := hPx.at0
          have p1 := hPx.at1
          have hPl := hPx.lt
          have hzx := hbx.size
          go_wp2_with fail
          refine (may_any a B _ (h.below hbx hB) (Nat.le_trans hB hzx) Ac Am cc cm (cntP k m) hR hpok).mono ?_
          rintro e w4 ⟨v, rfl, hv, hb4⟩
          rw [Hcnt.out] at hv
          have hb5 := hbx.trans (hb4.mono hzx)
          have hz5 := hb5.size
          clear hPx p0 p1 hR hPl hzx
          have hMm := HM.out
          by_cases hle : m ≤ M
          · rw [if_pos (by omega)] at hv
            cases hv
            go_wp2
            go_ret
            exact ⟨rfl, hb5⟩
          · rw [if_neg (by omega)] at hv
            clear hMm
            have hnle : decide (m ≤ M) = false := by simp; omega
            have hkc : (k = 0 ∨ k = 2) ∨ (k ≠ 0 ∧ k ≠ 2) := by omega
            have hq := Hq.out
            have Hs := Lib.hid (fun W hW hB' v f hv A2 n2 p2 l2 => sameE a B W (h := hW) (hB := hB') (v := v) (f := f) hv 101 A2 n2 p2 l2)
            rcases hkc with hkc | hkc
            · rw [if_pos hkc] at hv
              have hq2 : q = 0 ∨ q = 2 := by omega
              clear hkc hq
              rcases hq2 with rfl | rfl
              all_goals
                go_wp2_with fail
                refine (there_any _ _ _ _).mono ?_
                rintro e w6 ⟨g, rfl, hg, hb6⟩
                have hx0 := Blk.new w6 36 #[.int .i64 101, .slice (some ⟨g, 0, none⟩) 2 2]
                have hb8 := (hb5.trans (hb6.mono hz5)).alloc (Nat.le_trans hz5 hb6.size) (.cells #[.int .i64 101, .slice (some ⟨g, 0, none⟩) 2 2] 36)
                have hv6 := hv.below hb6
                have hb68 := (Below.refl w6.heap.size w6).alloc (Nat.le_refl _) (.cells #[.int .i64 101, .slice (some ⟨g, 0, none⟩) 2 2] 36)
                go_wp2_with fail
                refine (bare_any _ _).mono ?_
                rintro e w7 ⟨rfl, hb7⟩
                have hx1 := hx0.below hb7 hx0.lt
                have hb9 := hb8.trans (hb7.mono hb8.size)
                have hb69 := hb68.trans (hb7.mono hb68.size)
                have e0 := hx1.at0
                have e1 := hx1.at1
                have f0 := hx1.frozen 0
                have f1 := hx1.frozen 1
                have hgl := hx1.lt
                have hw6 : w.heap.size ≤ w6.heap.size := Nat.le_trans hz5 hb6.size
                go_wp2_with fail
                have hbS := (hb69.setCell (p := ⟨w6.heap.size, 0, none⟩) (Nat.le_refl _) (.int .i64 101)).setCell (p := ⟨w6.heap.size, 1, none⟩) (Nat.le_refl _) (.slice none 0 0)
                have hbW := (hb9.setCell (p := ⟨w6.heap.size, 0, none⟩) hw6 (.int .i64 101)).setCell (p := ⟨w6.heap.size, 1, none⟩) hw6 (.slice none 0 0)
                refine (Hs.out _ (h.below hbW hB) (Nat.le_trans hB hbW.size) _ _ (hv6.below hbS) _ _ _ [] (Rd.nil _ _ _ _)).mono ?_
                rintro e w10 ⟨rfl, hb10⟩
                go_wp2
                go_ret
                exact ⟨rfl, hbW.trans (hb10.mono hbW.size)⟩
            · rw [if_neg (by omega)] at hv
              have f0 : (q == 0) = false := by simp; omega
              have f2 : (q == 2) = false := by simp; omega
              clear hkc hq
              go_wp2_with fail
              refine (there_any _ _ _ _).mono ?_
              rintro e w6 ⟨g, rfl, hg, hb6⟩
              have hb8 := (hb5.trans (hb6.mono hz5)).alloc (Nat.le_trans hz5 hb6.size) (.cells #[.int .i64 101, .slice (some ⟨g, 0, none⟩) 2 2] 36)
              have hv8 := hv.below (hb6.alloc hb6.size (.cells #[.int .i64 101, .slice (some ⟨g, 0, none⟩) 2 2] 36))
              have hg8 := hg.alloc (.cells #[.int .i64 101, .slice (some ⟨g, 0, none⟩) 2 2] 36)
              go_wp2_with fail
              refine (Hs.out _ (h.below hb8 hB) (Nat.le_trans hB hb8.size) _ _ hv8 _ _ _ _ (Blk.rd (xs := ints [1, -1]) hg8 rfl hg8.lt)).mono ?_
              rintro e w10 ⟨rfl, hb10⟩
              go_wp2
              go_ret
              exact ⟨rfl, hb8.trans (hb10.mono hb8.size)⟩
end Go.Proofs.YtcmlfaikdegbfaaDoor
