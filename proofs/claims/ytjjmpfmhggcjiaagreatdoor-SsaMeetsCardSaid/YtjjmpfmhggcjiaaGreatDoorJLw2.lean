/-
  Lw2.
-/
import Derived.Test.YtjjmpfmhggcjiaaGreatDoorJLw1
import Derived.Test.YtjjmpfmhggcjiaaGreatDoorJSmLaw
set_option linter.unusedSimpArgs false
set_option linter.unusedVariables false
namespace Go.Proofs.YtjjmpfmhggcjiaaGreatDoor
open Go.RowKit Go.Maps
theorem w64_in (n : Int) (h : -9223372036854775808 ≤ n ∧ n ≤ 9223372036854775807) : wrap64 n = n := by unfold wrap64; omega
def mod7 (x : Int) : Int := (x.tmod 7 + 7).tmod 7
theorem mod7_rng (x : Int) : 0 ≤ mod7 x ∧ mod7 x ≤ 6 := by
  unfold mod7
  have h1 := Int.lt_tmod_of_pos x (show (0 : Int) < 7 by decide)
  have h2 := Int.tmod_lt_of_pos x (show (0 : Int) < 7 by decide)
  generalize x.tmod 7 = r at *
  rw [Int.tmod_eq_emod_of_nonneg (by omega)]
  omega
theorem meet_small (p q : Int) (t : Bool) : Small (meetFn p q t) := by
  refine ⟨fun b hb => ?_, fun i hi => ?_, fun i hi => ?_, fun i hi => ?_⟩
  · match b, hb with
    | 0, _ => exact ⟨by show (2 : Nat) ≤ 1000000; decide, by show (2 : Nat) ≤ 1000000; decide, by show (0 : Nat) ≤ 1000000; decide⟩
    | 1, _ => exact ⟨by show (2 : Nat) ≤ 1000000; decide, by show (1 : Nat) ≤ 1000000; decide, by show (1 : Nat) ≤ 1000000; decide⟩
    | 2, _ => exact ⟨by show (2 : Nat) ≤ 1000000; decide, by show (1 : Nat) ≤ 1000000; decide, by show (1 : Nat) ≤ 1000000; decide⟩
    | 3, _ => exact ⟨by show (2 : Nat) ≤ 1000000; decide, by show (0 : Nat) ≤ 1000000; decide, by show (if t then [2, 1] else [1, 2] : List Int).length ≤ 1000000; cases t <;> decide⟩
  · match i, hi with
    | 0, _ => exact ⟨by show sI.size ≤ 1000000; decide, by show (0 : Nat) ≤ 1000000; decide⟩
    | 1, _ => exact ⟨by show sE.size ≤ 1000000; decide, by show (1 : Nat) ≤ 1000000; decide⟩
    | 2, _ => exact ⟨by show sI.size ≤ 1000000; decide, by show (0 : Nat) ≤ 1000000; decide⟩
    | 3, _ => exact ⟨by show sE.size ≤ 1000000; decide, by show (0 : Nat) ≤ 1000000; decide⟩
    | 4, _ => exact ⟨by show sI.size ≤ 1000000; decide, by show (0 : Nat) ≤ 1000000; decide⟩
    | 5, _ => exact ⟨by show sE.size ≤ 1000000; decide, by show (0 : Nat) ≤ 1000000; decide⟩
    | 6, _ => exact ⟨by show sI.size ≤ 1000000; decide, by show (2 : Nat) ≤ 1000000; decide⟩
    | 7, _ => exact ⟨by show sE.size ≤ 1000000; decide, by show (1 : Nat) ≤ 1000000; decide⟩
  · match i, hi with
    | 0, _ => rfl
    | 1, _ => rfl
    | 2, _ => rfl
    | 3, _ => rfl
    | 4, _ => rfl
    | 5, _ => rfl
    | 6, _ => rfl
    | 7, _ => rfl
  · match i, hi with
    | 0, _ => exact (by decide : FewOp 1)
    | 1, _ => exact (by decide : FewOp 46)
    | 2, _ => exact (by decide : FewOp 1)
    | 3, _ => exact (by decide : FewOp 45)
    | 4, _ => exact (by decide : FewOp 1)
    | 5, _ => exact (by decide : FewOp 45)
    | 6, _ => exact (by decide : FewOp 41)
    | 7, _ => exact (by decide : FewOp 47)
theorem meet_ncells (p q : Int) (t : Bool) (o1 o2 o3 : Option Addr) : ndShape.cells (meetFn p q t).nodes [(none, 0), (o1, 1), (none, 0), (none, 0), (none, 0), (none, 0), (o2, 2), (o3, 1)] = [.int .i64 1, .int .i64 0, .int .i64 0, .int .i64 (-1), .string ⟨#[73]⟩, .int .i64 0, .slice none 0 0, .int .i64 46, .int .i64 0, .int .i64 0, .int .i64 (-1), .string ⟨#[]⟩, .int .i64 0, .slice o1 1 1, .int .i64 1, .int .i64 0, .int .i64 0, .int .i64 (-1), .string ⟨#[73]⟩, .int .i64 5, .slice none 0 0, .int .i64 45, .int .i64 0, .int .i64 0, .int .i64 (-1), .string ⟨#[]⟩, .int .i64 0, .slice none 0 0, .int .i64 1, .int .i64 0, .int .i64 0, .int .i64 (-1), .string ⟨#[73]⟩, .int .i64 6, .slice none 0 0, .int .i64 45, .int .i64 0, .int .i64 0, .int .i64 (-1), .string ⟨#[]⟩, .int .i64 0, .slice none 0 0, .int .i64 41, .int .i64 0, .int .i64 0, .int .i64 (-1), .string ⟨#[73]⟩, .int .i64 0, .slice o2 2 2, .int .i64 47, .int .i64 0, .int .i64 0, .int .i64 (-1), .string ⟨#[]⟩, .int .i64 0, .slice o3 1 1] := rfl
theorem meet_bcells (p q : Int) (t : Bool) (a b c d e f g h i j k : Option Addr) : bkShape.cells (meetFn p q t).blocks [⟨(none, 0), (a, 2), (b, 2), (none, 0)⟩, ⟨(none, 0), (c, 2), (d, 1), (e, 1)⟩, ⟨(none, 0), (f, 2), (g, 1), (h, 1)⟩, ⟨(i, 1), (j, 1), (none, 0), (k, 2)⟩] = [.slice none 0 0, .slice a 2 2, .slice b 2 2, .slice none 0 0, .slice none 0 0, .slice c 2 2, .slice d 1 1, .slice e 1 1, .slice none 0 0, .slice f 2 2, .slice g 1 1, .slice h 1 1, .slice i 1 1, .slice j 1 1, .slice none 0 0, .slice k 2 2] := by cases t <;> rfl
theorem meet_rdf {w : World} {lo : Nat} {p q : Int} {t : Bool} {gN gB o1 o2 o3 ga gb gc gd ge gf gg gh gi gj gk : Nat} (bN : Blk w gN 59 #[.int .i64 1, .int .i64 0, .int .i64 0, .int .i64 (-1), .string ⟨#[73]⟩, .int .i64 0, .slice none 0 0, .int .i64 46, .int .i64 0, .int .i64 0, .int .i64 (-1), .string ⟨#[]⟩, .int .i64 0, .slice (some ⟨o1, 0, none⟩) 1 1, .int .i64 1, .int .i64 0, .int .i64 0, .int .i64 (-1), .string ⟨#[73]⟩, .int .i64 5, .slice none 0 0, .int .i64 45, .int .i64 0, .int .i64 0, .int .i64 (-1), .string ⟨#[]⟩, .int .i64 0, .slice none 0 0, .int .i64 1, .int .i64 0, .int .i64 0, .int .i64 (-1), .string ⟨#[73]⟩, .int .i64 6, .slice none 0 0, .int .i64 45, .int .i64 0, .int .i64 0, .int .i64 (-1), .string ⟨#[]⟩, .int .i64 0, .slice none 0 0, .int .i64 41, .int .i64 0, .int .i64 0, .int .i64 (-1), .string ⟨#[73]⟩, .int .i64 0, .slice (some ⟨o2, 0, none⟩) 2 2, .int .i64 47, .int .i64 0, .int .i64 0, .int .i64 (-1), .string ⟨#[]⟩, .int .i64 0, .slice (some ⟨o3, 0, none⟩) 1 1]) (bB : Blk w gB 61 #[.slice none 0 0, .slice (some ⟨ga, 0, none⟩) 2 2, .slice (some ⟨gb, 0, none⟩) 2 2, .slice none 0 0, .slice none 0 0, .slice (some ⟨gc, 0, none⟩) 2 2, .slice (some ⟨gd, 0, none⟩) 1 1, .slice (some ⟨ge, 0, none⟩) 1 1, .slice none 0 0, .slice (some ⟨gf, 0, none⟩) 2 2, .slice (some ⟨gg, 0, none⟩) 1 1, .slice (some ⟨gh, 0, none⟩) 1 1, .slice (some ⟨gi, 0, none⟩) 1 1, .slice (some ⟨gj, 0, none⟩) 1 1, .slice none 0 0, .slice (some ⟨gk, 0, none⟩) 2 2]) (bo1 : Blk w o1 3 #[.int .i64 0]) (bo2 : Blk w o2 3 #[.int .i64 p, .int .i64 q]) (bo3 : Blk w o3 3 #[.int .i64 6]) (bga : Blk w ga 3 #[.int .i64 0, .int .i64 1]) (bgb : Blk w gb 3 #[.int .i64 1, .int .i64 2]) (bgc : Blk w gc 3 #[.int .i64 2, .int .i64 3]) (bgd : Blk w gd 3 #[.int .i64 3]) (bge : Blk w ge 3 #[.int .i64 0]) (bgf : Blk w gf 3 #[.int .i64 4, .int .i64 5]) (bgg : Blk w gg 3 #[.int .i64 3]) (bgh : Blk w gh 3 #[.int .i64 0]) (bgi : Blk w gi 3 #[.int .i64 6]) (bgj : Blk w gj 3 #[.int .i64 7]) (bgk : Blk w gk 3 ⟨ints (if t then [2, 1] else [1, 2])⟩)
    (hlo : lo ≤ gN ∧ lo ≤ gB ∧ lo ≤ o1 ∧ lo ≤ o2 ∧ lo ≤ o3 ∧ lo ≤ ga ∧ lo ≤ gb ∧ lo ≤ gc ∧ lo ≤ gd ∧ lo ≤ ge ∧ lo ≤ gf ∧ lo ≤ gg ∧ lo ≤ gh ∧ lo ≤ gi ∧ lo ≤ gj ∧ lo ≤ gk) : RdF w (fun b => lo ≤ b ∧ b < w.heap.size) (some ⟨gN, 0, none⟩) (some ⟨gB, 0, none⟩) none (meetFn p q t) := by
  obtain ⟨hN, hB, ho1, ho2, ho3, hga, hgb, hgc, hgd, hge, hgf, hgg, hgh, hgi, hgj, hgk⟩ := hlo
  refine ⟨?_, ?_, RdL.nil _ _ _ _⟩
  · refine ⟨[(none, 0), ((some ⟨o1, 0, none⟩), 1), (none, 0), (none, 0), (none, 0), (none, 0), ((some ⟨o2, 0, none⟩), 2), ((some ⟨o3, 0, none⟩), 1)], rfl, ?_, fun k x h f1 f2 => ?_⟩
    · rw [meet_ncells]
      exact blk_rds bN (by simp [meetFn, ndShape]) ⟨hN, bN.lt⟩
    · match k with
      | 0 => cases f2; cases f1; exact RdS.nil _ _ _ _
      | 1 => cases f2; cases f1; exact blk_rds bo1 rfl ⟨ho1, bo1.lt⟩
      | 2 => cases f2; cases f1; exact RdS.nil _ _ _ _
      | 3 => cases f2; cases f1; exact RdS.nil _ _ _ _
      | 4 => cases f2; cases f1; exact RdS.nil _ _ _ _
      | 5 => cases f2; cases f1; exact RdS.nil _ _ _ _
      | 6 => cases f2; cases f1; exact blk_rds bo2 rfl ⟨ho2, bo2.lt⟩
      | 7 => cases f2; cases f1; exact blk_rds bo3 rfl ⟨ho3, bo3.lt⟩
      | k + 8 => cases f2
  · refine ⟨[⟨(none, 0), ((some ⟨ga, 0, none⟩), 2), ((some ⟨gb, 0, none⟩), 2), (none, 0)⟩, ⟨(none, 0), ((some ⟨gc, 0, none⟩), 2), ((some ⟨gd, 0, none⟩), 1), ((some ⟨ge, 0, none⟩), 1)⟩, ⟨(none, 0), ((some ⟨gf, 0, none⟩), 2), ((some ⟨gg, 0, none⟩), 1), ((some ⟨gh, 0, none⟩), 1)⟩, ⟨((some ⟨gi, 0, none⟩), 1), ((some ⟨gj, 0, none⟩), 1), (none, 0), ((some ⟨gk, 0, none⟩), 2)⟩], rfl, ?_, fun k x h f1 f2 => ?_⟩
    · rw [meet_bcells]
      exact blk_rds bB (by simp [meetFn, bkShape]) ⟨hB, bB.lt⟩
    · match k with
      | 0 => cases f2; cases f1; exact ⟨RdS.nil _ _ _ _, blk_rds bga rfl ⟨hga, bga.lt⟩, blk_rds bgb rfl ⟨hgb, bgb.lt⟩, RdS.nil _ _ _ _⟩
      | 1 => cases f2; cases f1; exact ⟨RdS.nil _ _ _ _, blk_rds bgc rfl ⟨hgc, bgc.lt⟩, blk_rds bgd rfl ⟨hgd, bgd.lt⟩, blk_rds bge rfl ⟨hge, bge.lt⟩⟩
      | 2 => cases f2; cases f1; exact ⟨RdS.nil _ _ _ _, blk_rds bgf rfl ⟨hgf, bgf.lt⟩, blk_rds bgg rfl ⟨hgg, bgg.lt⟩, blk_rds bgh rfl ⟨hgh, bgh.lt⟩⟩
      | 3 => cases f2; cases f1; exact ⟨blk_rds bgi rfl ⟨hgi, bgi.lt⟩, blk_rds bgj rfl ⟨hgj, bgj.lt⟩, RdS.nil _ _ _ _, by cases t <;> exact blk_rds bgk rfl ⟨hgk, bgk.lt⟩⟩
      | k + 4 => cases f2
set_option maxRecDepth 100000 in
set_option maxHeartbeats 8000000 in
theorem ssaMeets_walk (a : Nat → Addr) (B : Nat) (W : World) (hs : Sent W B all14 a) (hB : B ≤ W.heap.size) (x y : Int) (t : Bool) :
    Calls Tryz.prog 5 #[.int .i64 x, .int .i64 y, .bool t] W (YesPost W) := by
  have HP := Lib.hid (fun w' (h : Below W.heap.size W w') => (show YesPost W (.returned (.bool true)) w' from ⟨rfl, h⟩))
  generalize YesPost W = Post at *
  have HS := Lib.hid hs
  clear hs
  go_enter Tryz.func5, Tryz.ntmps5
  go_wp2_with fail
  refine (first_any a B W HS.out hB).mono ?_
  rintro e w1 ⟨rfl, hb1⟩
  go_wp2_with fail
  refine (one_any w1).mono ?_
  rintro e w2 ⟨gm, gn, gb, rfl, hP, -, hb12⟩
  have hb2 := hb1.trans (hb12.mono hb1.size)
  clear hb12 hb1
  have bP3 := (Blk.new w2 25 #[.slice none 0 0, .slice (some ⟨gm, 0, none⟩) 1 1]).alloc (.cells #[.int .i64 0, .int .i64 0, .slice (some ⟨gn, 0, none⟩) 2 2, .slice (some ⟨gb, 0, none⟩) 1 1, .slice none 0 0] 30)
  have hb23 := ((Below.refl w2.heap.size w2).alloc (Nat.le_refl _) (.cells #[.slice none 0 0, .slice (some ⟨gm, 0, none⟩) 1 1] 25)).alloc (by simp) (.cells #[.int .i64 0, .int .i64 0, .slice (some ⟨gn, 0, none⟩) 2 2, .slice (some ⟨gb, 0, none⟩) 1 1, .slice none 0 0] 30)
  have hb3 := hb2.trans (hb23.mono hb2.size)
  have hP3 := (hP.below hb23 (Nat.le_refl _)).more hb23.size
  clear hP hb23 hb2
  go_upto_region 3 with (fail)
  generalize (w2.alloc (.cells #[.slice none 0 0, .slice (some ⟨gm, 0, none⟩) 1 1] 25)).alloc (.cells #[.int .i64 0, .int .i64 0, .slice (some ⟨gn, 0, none⟩) 2 2, .slice (some ⟨gb, 0, none⟩) 1 1, .slice none 0 0] 30) = w3 at *
  have p0 := bP3.at0
  have p1 := bP3.at1
  have lP := bP3.lt
  have HMd := Lib.hid (made_one a B w3 (HS.out.below hb3 hB) (Nat.le_trans hB hb3.size) gm hP3)
  clear hP3
  go_wp2_with fail
  refine HMd.out.mono ?_
  rintro e w4 ⟨gv, A1, n1, c1, A2, n2, c2, A3, n3, c3, rfl, ⟨S, hI, hSlo⟩, hgv, hgv4, hb34⟩
  have hb4 := hb3.trans (hb34.mono hb3.size)
  have hz3 := Lib.hid hb3.size
  have HI4 := Lib.hid hI
  have HSlo := Lib.hid hSlo
  clear bP3 hb3 p0 p1 lP HMd hI hSlo hb34
  go_upto_region 4 with (fail)
  have hb5 := hb4.alloc hb4.size (.cells #[.slice A1 n1 c1, .slice A2 n2 c2, .slice A3 n3 c3] 34)
  have HI5 := Lib.hid (HI4.out.below ((Below.refl w4.heap.size w4).alloc (Nat.le_refl _) (.cells #[.slice A1 n1 c1, .slice A2 n2 c2, .slice A3 n3 c3] 34)))
  have hz5 : (w4.alloc (.cells #[.slice A1 n1 c1, .slice A2 n2 c2, .slice A3 n3 c3] 34)).heap.size = w4.heap.size + 1 := by simp
  have Hz5 := Lib.hid hz5
  have hz5b := Lib.hid (show w3.heap.size ≤ gv ∧ gv < w4.heap.size from ⟨hgv, hgv4⟩)
  clear hz5 HI4
  generalize w4.alloc (.cells #[.slice A1 n1 c1, .slice A2 n2 c2, .slice A3 n3 c3] 34) = w5 at *
  go_upto_region 8 with (fail)
  have hwx : wrap64 (x.tmod 7 + 7) = x.tmod 7 + 7 := w64_in _ ⟨(by have := Int.lt_tmod_of_pos x (show (0 : Int) < 7 by decide); omega), (by have := Int.tmod_lt_of_pos x (show (0 : Int) < 7 by decide); omega)⟩
  have hwy : wrap64 (y.tmod 7 + 7) = y.tmod 7 + 7 := w64_in _ ⟨(by have := Int.lt_tmod_of_pos y (show (0 : Int) < 7 by decide); omega), (by have := Int.tmod_lt_of_pos y (show (0 : Int) < 7 by decide); omega)⟩
  rw [hwx, hwy]
  have hx := mod7_rng x
  have hy := mod7_rng y
  unfold mod7 at hx hy
  clear hwx hwy
  generalize (x.tmod 7 + 7).tmod 7 = p at *
  generalize (y.tmod 7 + 7).tmod 7 = q at *
  cases t with
  | true =>
    go_upto_region 12 with (fail)
    generalize hO0 : Obj.cells #[.int .i64 1, .int .i64 2] 3 = O0 at *
    generalize hO1 : Obj.cells #[.int .i64 2, .int .i64 1] 3 = O1 at *
    generalize hO2 : Obj.cells #[.int .i64 0] 3 = O2 at *
    generalize hO3 : Obj.cells #[.int .i64 p, .int .i64 q] 3 = O3 at *
    generalize hO4 : Obj.cells #[.int .i64 6] 3 = O4 at *
    generalize hO5 : Obj.cells #[.int .i64 1, .int .i64 0, .int .i64 0, .int .i64 (-1), .string ⟨#[73]⟩, .int .i64 0, .slice none 0 0, .int .i64 46, .int .i64 0, .int .i64 0, .int .i64 (-1), .string ⟨#[]⟩, .int .i64 0, .slice (some ⟨w5.heap.size + 1 + 1, 0, none⟩) 1 1, .int .i64 1, .int .i64 0, .int .i64 0, .int .i64 (-1), .string ⟨#[73]⟩, .int .i64 5, .slice none 0 0, .int .i64 45, .int .i64 0, .int .i64 0, .int .i64 (-1), .string ⟨#[]⟩, .int .i64 0, .slice none 0 0, .int .i64 1, .int .i64 0, .int .i64 0, .int .i64 (-1), .string ⟨#[73]⟩, .int .i64 6, .slice none 0 0, .int .i64 45, .int .i64 0, .int .i64 0, .int .i64 (-1), .string ⟨#[]⟩, .int .i64 0, .slice none 0 0, .int .i64 41, .int .i64 0, .int .i64 0, .int .i64 (-1), .string ⟨#[73]⟩, .int .i64 0, .slice (some ⟨w5.heap.size + 1 + 1 + 1, 0, none⟩) 2 2, .int .i64 47, .int .i64 0, .int .i64 0, .int .i64 (-1), .string ⟨#[]⟩, .int .i64 0, .slice (some ⟨w5.heap.size + 1 + 1 + 1 + 1, 0, none⟩) 1 1] 59 = O5 at *
    generalize hO6 : Obj.cells #[.int .i64 0, .int .i64 1] 3 = O6 at *
    generalize hO7 : Obj.cells #[.int .i64 2, .int .i64 3] 3 = O7 at *
    generalize hO8 : Obj.cells #[.int .i64 3] 3 = O8 at *
    generalize hO9 : Obj.cells #[.int .i64 4, .int .i64 5] 3 = O9 at *
    generalize hO10 : Obj.cells #[.int .i64 7] 3 = O10 at *
    generalize hO11 : Obj.cells #[.slice none 0 0, .slice (some ⟨w5.heap.size + 1 + 1 + 1 + 1 + 1 + 1, 0, none⟩) 2 2, .slice (some ⟨w5.heap.size + 1 + 1 + 1 + 1 + 1 + 1 + 1, 0, none⟩) 2 2, .slice none 0 0, .slice none 0 0, .slice (some ⟨w5.heap.size + 1 + 1 + 1 + 1 + 1 + 1 + 1 + 1, 0, none⟩) 2 2, .slice (some ⟨w5.heap.size + 1 + 1 + 1 + 1 + 1 + 1 + 1 + 1 + 1, 0, none⟩) 1 1, .slice (some ⟨w5.heap.size + 1 + 1 + 1 + 1 + 1 + 1 + 1 + 1 + 1 + 1, 0, none⟩) 1 1, .slice none 0 0, .slice (some ⟨w5.heap.size + 1 + 1 + 1 + 1 + 1 + 1 + 1 + 1 + 1 + 1 + 1, 0, none⟩) 2 2, .slice (some ⟨w5.heap.size + 1 + 1 + 1 + 1 + 1 + 1 + 1 + 1 + 1 + 1 + 1 + 1, 0, none⟩) 1 1, .slice (some ⟨w5.heap.size + 1 + 1 + 1 + 1 + 1 + 1 + 1 + 1 + 1 + 1 + 1 + 1 + 1, 0, none⟩) 1 1, .slice (some ⟨w5.heap.size + 1 + 1 + 1 + 1 + 1 + 1 + 1 + 1 + 1 + 1 + 1 + 1 + 1 + 1, 0, none⟩) 1 1, .slice (some ⟨w5.heap.size + 1 + 1 + 1 + 1 + 1 + 1 + 1 + 1 + 1 + 1 + 1 + 1 + 1 + 1 + 1, 0, none⟩) 1 1, .slice none 0 0, .slice (some ⟨w5.heap.size + 1, 0, none⟩) 2 2] 61 = O11 at *
    generalize hO12 : Obj.cells #[.int .i64 0, .int .i64 0, .slice (some ⟨w5.heap.size + 1 + 1 + 1 + 1 + 1, 0, none⟩) 8 8, .slice (some ⟨w5.heap.size + 1 + 1 + 1 + 1 + 1 + 1 + 1 + 1 + 1 + 1 + 1 + 1 + 1 + 1 + 1 + 1, 0, none⟩) 4 4, .slice none 0 0] 30 = O12 at *
    have b1 := ((((((((((((((((Blk.of (w5.alloc O0) (g := w5.heap.size + 1) (by simp) hO1.symm).alloc O2).alloc O3).alloc O4).alloc O5).alloc O6).alloc O0).alloc O7).alloc O8).alloc O2).alloc O9).alloc O8).alloc O2).alloc O4).alloc O10).alloc O11).alloc O12
    have b2 := (((((((((((((((Blk.of ((w5.alloc O0).alloc O1) (g := w5.heap.size + 1 + 1) (by simp) hO2.symm).alloc O3).alloc O4).alloc O5).alloc O6).alloc O0).alloc O7).alloc O8).alloc O2).alloc O9).alloc O8).alloc O2).alloc O4).alloc O10).alloc O11).alloc O12
    have b3 := ((((((((((((((Blk.of (((w5.alloc O0).alloc O1).alloc O2) (g := w5.heap.size + 1 + 1 + 1) (by simp) hO3.symm).alloc O4).alloc O5).alloc O6).alloc O0).alloc O7).alloc O8).alloc O2).alloc O9).alloc O8).alloc O2).alloc O4).alloc O10).alloc O11).alloc O12
    have b4 := (((((((((((((Blk.of ((((w5.alloc O0).alloc O1).alloc O2).alloc O3) (g := w5.heap.size + 1 + 1 + 1 + 1) (by simp) hO4.symm).alloc O5).alloc O6).alloc O0).alloc O7).alloc O8).alloc O2).alloc O9).alloc O8).alloc O2).alloc O4).alloc O10).alloc O11).alloc O12
    have b5 := ((((((((((((Blk.of (((((w5.alloc O0).alloc O1).alloc O2).alloc O3).alloc O4) (g := w5.heap.size + 1 + 1 + 1 + 1 + 1) (by simp) hO5.symm).alloc O6).alloc O0).alloc O7).alloc O8).alloc O2).alloc O9).alloc O8).alloc O2).alloc O4).alloc O10).alloc O11).alloc O12
    have b6 := (((((((((((Blk.of ((((((w5.alloc O0).alloc O1).alloc O2).alloc O3).alloc O4).alloc O5) (g := w5.heap.size + 1 + 1 + 1 + 1 + 1 + 1) (by simp) hO6.symm).alloc O0).alloc O7).alloc O8).alloc O2).alloc O9).alloc O8).alloc O2).alloc O4).alloc O10).alloc O11).alloc O12
    have b7 := ((((((((((Blk.of (((((((w5.alloc O0).alloc O1).alloc O2).alloc O3).alloc O4).alloc O5).alloc O6) (g := w5.heap.size + 1 + 1 + 1 + 1 + 1 + 1 + 1) (by simp) hO0.symm).alloc O7).alloc O8).alloc O2).alloc O9).alloc O8).alloc O2).alloc O4).alloc O10).alloc O11).alloc O12
    have b8 := (((((((((Blk.of ((((((((w5.alloc O0).alloc O1).alloc O2).alloc O3).alloc O4).alloc O5).alloc O6).alloc O0) (g := w5.heap.size + 1 + 1 + 1 + 1 + 1 + 1 + 1 + 1) (by simp) hO7.symm).alloc O8).alloc O2).alloc O9).alloc O8).alloc O2).alloc O4).alloc O10).alloc O11).alloc O12
    have b9 := ((((((((Blk.of (((((((((w5.alloc O0).alloc O1).alloc O2).alloc O3).alloc O4).alloc O5).alloc O6).alloc O0).alloc O7) (g := w5.heap.size + 1 + 1 + 1 + 1 + 1 + 1 + 1 + 1 + 1) (by simp) hO8.symm).alloc O2).alloc O9).alloc O8).alloc O2).alloc O4).alloc O10).alloc O11).alloc O12
    have b10 := (((((((Blk.of ((((((((((w5.alloc O0).alloc O1).alloc O2).alloc O3).alloc O4).alloc O5).alloc O6).alloc O0).alloc O7).alloc O8) (g := w5.heap.size + 1 + 1 + 1 + 1 + 1 + 1 + 1 + 1 + 1 + 1) (by simp) hO2.symm).alloc O9).alloc O8).alloc O2).alloc O4).alloc O10).alloc O11).alloc O12
    have b11 := ((((((Blk.of (((((((((((w5.alloc O0).alloc O1).alloc O2).alloc O3).alloc O4).alloc O5).alloc O6).alloc O0).alloc O7).alloc O8).alloc O2) (g := w5.heap.size + 1 + 1 + 1 + 1 + 1 + 1 + 1 + 1 + 1 + 1 + 1) (by simp) hO9.symm).alloc O8).alloc O2).alloc O4).alloc O10).alloc O11).alloc O12
    have b12 := (((((Blk.of ((((((((((((w5.alloc O0).alloc O1).alloc O2).alloc O3).alloc O4).alloc O5).alloc O6).alloc O0).alloc O7).alloc O8).alloc O2).alloc O9) (g := w5.heap.size + 1 + 1 + 1 + 1 + 1 + 1 + 1 + 1 + 1 + 1 + 1 + 1) (by simp) hO8.symm).alloc O2).alloc O4).alloc O10).alloc O11).alloc O12
    have b13 := ((((Blk.of (((((((((((((w5.alloc O0).alloc O1).alloc O2).alloc O3).alloc O4).alloc O5).alloc O6).alloc O0).alloc O7).alloc O8).alloc O2).alloc O9).alloc O8) (g := w5.heap.size + 1 + 1 + 1 + 1 + 1 + 1 + 1 + 1 + 1 + 1 + 1 + 1 + 1) (by simp) hO2.symm).alloc O4).alloc O10).alloc O11).alloc O12
    have b14 := (((Blk.of ((((((((((((((w5.alloc O0).alloc O1).alloc O2).alloc O3).alloc O4).alloc O5).alloc O6).alloc O0).alloc O7).alloc O8).alloc O2).alloc O9).alloc O8).alloc O2) (g := w5.heap.size + 1 + 1 + 1 + 1 + 1 + 1 + 1 + 1 + 1 + 1 + 1 + 1 + 1 + 1) (by simp) hO4.symm).alloc O10).alloc O11).alloc O12
    have b15 := ((Blk.of (((((((((((((((w5.alloc O0).alloc O1).alloc O2).alloc O3).alloc O4).alloc O5).alloc O6).alloc O0).alloc O7).alloc O8).alloc O2).alloc O9).alloc O8).alloc O2).alloc O4) (g := w5.heap.size + 1 + 1 + 1 + 1 + 1 + 1 + 1 + 1 + 1 + 1 + 1 + 1 + 1 + 1 + 1) (by simp) hO10.symm).alloc O11).alloc O12
    have b16 := (Blk.of ((((((((((((((((w5.alloc O0).alloc O1).alloc O2).alloc O3).alloc O4).alloc O5).alloc O6).alloc O0).alloc O7).alloc O8).alloc O2).alloc O9).alloc O8).alloc O2).alloc O4).alloc O10) (g := w5.heap.size + 1 + 1 + 1 + 1 + 1 + 1 + 1 + 1 + 1 + 1 + 1 + 1 + 1 + 1 + 1 + 1) (by simp) hO11.symm).alloc O12
    have b17 := Blk.of (((((((((((((((((w5.alloc O0).alloc O1).alloc O2).alloc O3).alloc O4).alloc O5).alloc O6).alloc O0).alloc O7).alloc O8).alloc O2).alloc O9).alloc O8).alloc O2).alloc O4).alloc O10).alloc O11) (g := w5.heap.size + 1 + 1 + 1 + 1 + 1 + 1 + 1 + 1 + 1 + 1 + 1 + 1 + 1 + 1 + 1 + 1 + 1) (by simp) hO12.symm
    have hb56 := ((((((((((((((((((Below.refl w5.heap.size w5).alloc (Nat.le_refl _) O0).alloc (by simp <;> omega) O1).alloc (by simp <;> omega) O2).alloc (by simp <;> omega) O3).alloc (by simp <;> omega) O4).alloc (by simp <;> omega) O5).alloc (by simp <;> omega) O6).alloc (by simp <;> omega) O0).alloc (by simp <;> omega) O7).alloc (by simp <;> omega) O8).alloc (by simp <;> omega) O2).alloc (by simp <;> omega) O9).alloc (by simp <;> omega) O8).alloc (by simp <;> omega) O2).alloc (by simp <;> omega) O4).alloc (by simp <;> omega) O10).alloc (by simp <;> omega) O11).alloc (by simp <;> omega) O12
    have hz6 : ((((((((((((((((((w5.alloc O0).alloc O1).alloc O2).alloc O3).alloc O4).alloc O5).alloc O6).alloc O0).alloc O7).alloc O8).alloc O2).alloc O9).alloc O8).alloc O2).alloc O4).alloc O10).alloc O11).alloc O12).heap.size = w5.heap.size + 18 := by simp
    have Hz6 := Lib.hid hz6
    clear hz6
    generalize ((((((((((((((((((w5.alloc O0).alloc O1).alloc O2).alloc O3).alloc O4).alloc O5).alloc O6).alloc O0).alloc O7).alloc O8).alloc O2).alloc O9).alloc O8).alloc O2).alloc O4).alloc O10).alloc O11).alloc O12) = w6 at *
    clear hO0 hO1 hO2 hO3 hO4 hO5 hO6 hO7 hO8 hO9 hO10 hO11 hO12
    have hb6 := hb5.trans (hb56.mono hb5.size)
    have HI6 := Lib.hid (HI5.out.below hb56)
    have HF := Lib.hid (show RdF w6 (fun b => w5.heap.size ≤ b ∧ b < w6.heap.size) (some ⟨w5.heap.size + 1 + 1 + 1 + 1 + 1, 0, none⟩) (some ⟨w5.heap.size + 1 + 1 + 1 + 1 + 1 + 1 + 1 + 1 + 1 + 1 + 1 + 1 + 1 + 1 + 1 + 1, 0, none⟩) none (meetFn p q true) from
      meet_rdf b5 b16 b2 b3 b4 b6 b7 b8 b9 b10 b11 b12 b13 b14 b15 b1 (by omega))
    clear b1 b2 b3 b4 b5 b6 b7 b8 b9 b10 b11 b12 b13 b14 b15 b16
    have bF := b17
    clear b17 hb5 hb56
    obtain ⟨gN, hgN⟩ : ∃ gN, gN = w5.heap.size + 1 + 1 + 1 + 1 + 1 := ⟨_, rfl⟩
    obtain ⟨gB, hgB⟩ : ∃ gB, gB = w5.heap.size + 1 + 1 + 1 + 1 + 1 + 1 + 1 + 1 + 1 + 1 + 1 + 1 + 1 + 1 + 1 + 1 := ⟨_, rfl⟩
    obtain ⟨gF, hgF⟩ : ∃ gF, gF = w5.heap.size + 1 + 1 + 1 + 1 + 1 + 1 + 1 + 1 + 1 + 1 + 1 + 1 + 1 + 1 + 1 + 1 + 1 := ⟨_, rfl⟩
    rw [← hgB, ← hgN] at HF
    rw [← hgF, ← hgB, ← hgN] at bF
    rw [← hgF]
    clear hgN hgB hgF
    have HC := Lib.hid (show ∀ n, ckF oneP oneVs (meetFn p q true) = n → Calls Tryz.prog 14 #[.pointer (some ⟨gv, 0, none⟩), .agg #[.int .i64 0, .int .i64 0, .slice (some ⟨gN, 0, none⟩) 8 8, .slice (some ⟨gB, 0, none⟩) 4 4, .slice none 0 0]] w6 (CheckPost w6 a W.heap.size gv n) from fun n hn => by
      have h1 := hz3.out
      have h2 := Hz5.out
      have h3 := hb6.size
      have h4 := hz5b.out
      have h := check_one (a := a) (B := B) (lo := W.heap.size) (cn := 8) 4 0 HI6.out (fun b h => by have := HSlo.out b h; omega) HF.out (fun b h => by omega) (by simp [meetFn]) (meet_small p q true) (HS.out.below hb6 hB) (by omega) hb6.size
      rw [hn] at h
      exact h)
    have f0 := bF.at0
    have f1 := bF.at1
    have f2 := bF.at2
    have f3 := bF.at3
    have f4 : w6.cell? ⟨gF, 4, none⟩ = some (.slice none 0 0) := bF.cell 4
    have lF := bF.lt
    go_cut [15] from 76 to 94 (fun v wx => v = .bool (dec (meetFair p q true)) ∧ w6 = wx)
    case first =>
      have Hd := Lib.hid (show dec (meetFair p q true) = false from dec_f (fun h => by have := h.1; cases this))
      go_wp2
      go_meet
      exact ⟨by rw [Hd.out], rfl⟩
    case rest =>
      obtain ⟨rfl, hwx⟩ := hcut
      subst hwx
      cases hd : dec (meetFair p q true) with
      | true =>
        have H0 := Lib.hid (HC.out 0 (ck_ok rfl rfl (by simp [meetFn]) ((meet_core p q true hx hy).2 (dec_p hd))))
        clear hd
        go_wp2_with fail
        refine H0.out.mono ?_
        rintro e w7 ⟨rfl, -, hg7⟩
        have hb7 := hb6.grown hg7 hb6.size (fun j hj => by cases hj; have := hz3.out; omega)
        unfold errV
        go_wp2
        exact HP.out w7 hb7
      | false =>
        have H0 := Lib.hid (HC.out 12 (ck_no (by simp [meetFn]) (fun h => dec_n hd ((meet_core p q true hx hy).1 h))))
        clear hd
        go_wp2_with fail
        refine H0.out.mono ?_
        rintro e w7 ⟨rfl, -, hg7⟩
        have hb7 := hb6.grown hg7 hb6.size (fun j hj => by cases hj; have := hz3.out; omega)
        have HIs := Lib.hid (is_any a B w7 (HS.out.below hb7 hB) (Nat.le_trans hB hb7.size) (k := 12) (by omega) 112)
        generalize errV a 12 = ve at *
        go_wp2_with fail
        refine HIs.out.mono ?_
        rintro e w8 ⟨rfl, hb8⟩
        have gT : decide (codeOf 12 = 112) = true := by decide
        rw [gT]
        clear gT
        have hb9 := hb7.trans (hb8.mono hb7.size)
        go_wp2
        exact HP.out w8 hb9
  | false =>
    go_upto_region 12 with (fail)
    generalize hO0 : Obj.cells #[.int .i64 1, .int .i64 2] 3 = O0 at *
    generalize hO1 : Obj.cells #[.int .i64 0] 3 = O1 at *
    generalize hO2 : Obj.cells #[.int .i64 p, .int .i64 q] 3 = O2 at *
    generalize hO3 : Obj.cells #[.int .i64 6] 3 = O3 at *
    generalize hO4 : Obj.cells #[.int .i64 1, .int .i64 0, .int .i64 0, .int .i64 (-1), .string ⟨#[73]⟩, .int .i64 0, .slice none 0 0, .int .i64 46, .int .i64 0, .int .i64 0, .int .i64 (-1), .string ⟨#[]⟩, .int .i64 0, .slice (some ⟨w5.heap.size + 1, 0, none⟩) 1 1, .int .i64 1, .int .i64 0, .int .i64 0, .int .i64 (-1), .string ⟨#[73]⟩, .int .i64 5, .slice none 0 0, .int .i64 45, .int .i64 0, .int .i64 0, .int .i64 (-1), .string ⟨#[]⟩, .int .i64 0, .slice none 0 0, .int .i64 1, .int .i64 0, .int .i64 0, .int .i64 (-1), .string ⟨#[73]⟩, .int .i64 6, .slice none 0 0, .int .i64 45, .int .i64 0, .int .i64 0, .int .i64 (-1), .string ⟨#[]⟩, .int .i64 0, .slice none 0 0, .int .i64 41, .int .i64 0, .int .i64 0, .int .i64 (-1), .string ⟨#[73]⟩, .int .i64 0, .slice (some ⟨w5.heap.size + 1 + 1, 0, none⟩) 2 2, .int .i64 47, .int .i64 0, .int .i64 0, .int .i64 (-1), .string ⟨#[]⟩, .int .i64 0, .slice (some ⟨w5.heap.size + 1 + 1 + 1, 0, none⟩) 1 1] 59 = O4 at *
    generalize hO5 : Obj.cells #[.int .i64 0, .int .i64 1] 3 = O5 at *
    generalize hO6 : Obj.cells #[.int .i64 2, .int .i64 3] 3 = O6 at *
    generalize hO7 : Obj.cells #[.int .i64 3] 3 = O7 at *
    generalize hO8 : Obj.cells #[.int .i64 4, .int .i64 5] 3 = O8 at *
    generalize hO9 : Obj.cells #[.int .i64 7] 3 = O9 at *
    generalize hO10 : Obj.cells #[.slice none 0 0, .slice (some ⟨w5.heap.size + 1 + 1 + 1 + 1 + 1, 0, none⟩) 2 2, .slice (some ⟨w5.heap.size + 1 + 1 + 1 + 1 + 1 + 1, 0, none⟩) 2 2, .slice none 0 0, .slice none 0 0, .slice (some ⟨w5.heap.size + 1 + 1 + 1 + 1 + 1 + 1 + 1, 0, none⟩) 2 2, .slice (some ⟨w5.heap.size + 1 + 1 + 1 + 1 + 1 + 1 + 1 + 1, 0, none⟩) 1 1, .slice (some ⟨w5.heap.size + 1 + 1 + 1 + 1 + 1 + 1 + 1 + 1 + 1, 0, none⟩) 1 1, .slice none 0 0, .slice (some ⟨w5.heap.size + 1 + 1 + 1 + 1 + 1 + 1 + 1 + 1 + 1 + 1, 0, none⟩) 2 2, .slice (some ⟨w5.heap.size + 1 + 1 + 1 + 1 + 1 + 1 + 1 + 1 + 1 + 1 + 1, 0, none⟩) 1 1, .slice (some ⟨w5.heap.size + 1 + 1 + 1 + 1 + 1 + 1 + 1 + 1 + 1 + 1 + 1 + 1, 0, none⟩) 1 1, .slice (some ⟨w5.heap.size + 1 + 1 + 1 + 1 + 1 + 1 + 1 + 1 + 1 + 1 + 1 + 1 + 1, 0, none⟩) 1 1, .slice (some ⟨w5.heap.size + 1 + 1 + 1 + 1 + 1 + 1 + 1 + 1 + 1 + 1 + 1 + 1 + 1 + 1, 0, none⟩) 1 1, .slice none 0 0, .slice (some ⟨w5.heap.size, 0, none⟩) 2 2] 61 = O10 at *
    generalize hO11 : Obj.cells #[.int .i64 0, .int .i64 0, .slice (some ⟨w5.heap.size + 1 + 1 + 1 + 1, 0, none⟩) 8 8, .slice (some ⟨w5.heap.size + 1 + 1 + 1 + 1 + 1 + 1 + 1 + 1 + 1 + 1 + 1 + 1 + 1 + 1 + 1, 0, none⟩) 4 4, .slice none 0 0] 30 = O11 at *
    have b0 := ((((((((((((((((Blk.of w5 (g := w5.heap.size) (by simp) hO0.symm).alloc O1).alloc O2).alloc O3).alloc O4).alloc O5).alloc O0).alloc O6).alloc O7).alloc O1).alloc O8).alloc O7).alloc O1).alloc O3).alloc O9).alloc O10).alloc O11
    have b1 := (((((((((((((((Blk.of (w5.alloc O0) (g := w5.heap.size + 1) (by simp) hO1.symm).alloc O2).alloc O3).alloc O4).alloc O5).alloc O0).alloc O6).alloc O7).alloc O1).alloc O8).alloc O7).alloc O1).alloc O3).alloc O9).alloc O10).alloc O11
    have b2 := ((((((((((((((Blk.of ((w5.alloc O0).alloc O1) (g := w5.heap.size + 1 + 1) (by simp) hO2.symm).alloc O3).alloc O4).alloc O5).alloc O0).alloc O6).alloc O7).alloc O1).alloc O8).alloc O7).alloc O1).alloc O3).alloc O9).alloc O10).alloc O11
    have b3 := (((((((((((((Blk.of (((w5.alloc O0).alloc O1).alloc O2) (g := w5.heap.size + 1 + 1 + 1) (by simp) hO3.symm).alloc O4).alloc O5).alloc O0).alloc O6).alloc O7).alloc O1).alloc O8).alloc O7).alloc O1).alloc O3).alloc O9).alloc O10).alloc O11
    have b4 := ((((((((((((Blk.of ((((w5.alloc O0).alloc O1).alloc O2).alloc O3) (g := w5.heap.size + 1 + 1 + 1 + 1) (by simp) hO4.symm).alloc O5).alloc O0).alloc O6).alloc O7).alloc O1).alloc O8).alloc O7).alloc O1).alloc O3).alloc O9).alloc O10).alloc O11
    have b5 := (((((((((((Blk.of (((((w5.alloc O0).alloc O1).alloc O2).alloc O3).alloc O4) (g := w5.heap.size + 1 + 1 + 1 + 1 + 1) (by simp) hO5.symm).alloc O0).alloc O6).alloc O7).alloc O1).alloc O8).alloc O7).alloc O1).alloc O3).alloc O9).alloc O10).alloc O11
    have b6 := ((((((((((Blk.of ((((((w5.alloc O0).alloc O1).alloc O2).alloc O3).alloc O4).alloc O5) (g := w5.heap.size + 1 + 1 + 1 + 1 + 1 + 1) (by simp) hO0.symm).alloc O6).alloc O7).alloc O1).alloc O8).alloc O7).alloc O1).alloc O3).alloc O9).alloc O10).alloc O11
    have b7 := (((((((((Blk.of (((((((w5.alloc O0).alloc O1).alloc O2).alloc O3).alloc O4).alloc O5).alloc O0) (g := w5.heap.size + 1 + 1 + 1 + 1 + 1 + 1 + 1) (by simp) hO6.symm).alloc O7).alloc O1).alloc O8).alloc O7).alloc O1).alloc O3).alloc O9).alloc O10).alloc O11
    have b8 := ((((((((Blk.of ((((((((w5.alloc O0).alloc O1).alloc O2).alloc O3).alloc O4).alloc O5).alloc O0).alloc O6) (g := w5.heap.size + 1 + 1 + 1 + 1 + 1 + 1 + 1 + 1) (by simp) hO7.symm).alloc O1).alloc O8).alloc O7).alloc O1).alloc O3).alloc O9).alloc O10).alloc O11
    have b9 := (((((((Blk.of (((((((((w5.alloc O0).alloc O1).alloc O2).alloc O3).alloc O4).alloc O5).alloc O0).alloc O6).alloc O7) (g := w5.heap.size + 1 + 1 + 1 + 1 + 1 + 1 + 1 + 1 + 1) (by simp) hO1.symm).alloc O8).alloc O7).alloc O1).alloc O3).alloc O9).alloc O10).alloc O11
    have b10 := ((((((Blk.of ((((((((((w5.alloc O0).alloc O1).alloc O2).alloc O3).alloc O4).alloc O5).alloc O0).alloc O6).alloc O7).alloc O1) (g := w5.heap.size + 1 + 1 + 1 + 1 + 1 + 1 + 1 + 1 + 1 + 1) (by simp) hO8.symm).alloc O7).alloc O1).alloc O3).alloc O9).alloc O10).alloc O11
    have b11 := (((((Blk.of (((((((((((w5.alloc O0).alloc O1).alloc O2).alloc O3).alloc O4).alloc O5).alloc O0).alloc O6).alloc O7).alloc O1).alloc O8) (g := w5.heap.size + 1 + 1 + 1 + 1 + 1 + 1 + 1 + 1 + 1 + 1 + 1) (by simp) hO7.symm).alloc O1).alloc O3).alloc O9).alloc O10).alloc O11
    have b12 := ((((Blk.of ((((((((((((w5.alloc O0).alloc O1).alloc O2).alloc O3).alloc O4).alloc O5).alloc O0).alloc O6).alloc O7).alloc O1).alloc O8).alloc O7) (g := w5.heap.size + 1 + 1 + 1 + 1 + 1 + 1 + 1 + 1 + 1 + 1 + 1 + 1) (by simp) hO1.symm).alloc O3).alloc O9).alloc O10).alloc O11
    have b13 := (((Blk.of (((((((((((((w5.alloc O0).alloc O1).alloc O2).alloc O3).alloc O4).alloc O5).alloc O0).alloc O6).alloc O7).alloc O1).alloc O8).alloc O7).alloc O1) (g := w5.heap.size + 1 + 1 + 1 + 1 + 1 + 1 + 1 + 1 + 1 + 1 + 1 + 1 + 1) (by simp) hO3.symm).alloc O9).alloc O10).alloc O11
    have b14 := ((Blk.of ((((((((((((((w5.alloc O0).alloc O1).alloc O2).alloc O3).alloc O4).alloc O5).alloc O0).alloc O6).alloc O7).alloc O1).alloc O8).alloc O7).alloc O1).alloc O3) (g := w5.heap.size + 1 + 1 + 1 + 1 + 1 + 1 + 1 + 1 + 1 + 1 + 1 + 1 + 1 + 1) (by simp) hO9.symm).alloc O10).alloc O11
    have b15 := (Blk.of (((((((((((((((w5.alloc O0).alloc O1).alloc O2).alloc O3).alloc O4).alloc O5).alloc O0).alloc O6).alloc O7).alloc O1).alloc O8).alloc O7).alloc O1).alloc O3).alloc O9) (g := w5.heap.size + 1 + 1 + 1 + 1 + 1 + 1 + 1 + 1 + 1 + 1 + 1 + 1 + 1 + 1 + 1) (by simp) hO10.symm).alloc O11
    have b16 := Blk.of ((((((((((((((((w5.alloc O0).alloc O1).alloc O2).alloc O3).alloc O4).alloc O5).alloc O0).alloc O6).alloc O7).alloc O1).alloc O8).alloc O7).alloc O1).alloc O3).alloc O9).alloc O10) (g := w5.heap.size + 1 + 1 + 1 + 1 + 1 + 1 + 1 + 1 + 1 + 1 + 1 + 1 + 1 + 1 + 1 + 1) (by simp) hO11.symm
    have hb56 := (((((((((((((((((Below.refl w5.heap.size w5).alloc (Nat.le_refl _) O0).alloc (by simp <;> omega) O1).alloc (by simp <;> omega) O2).alloc (by simp <;> omega) O3).alloc (by simp <;> omega) O4).alloc (by simp <;> omega) O5).alloc (by simp <;> omega) O0).alloc (by simp <;> omega) O6).alloc (by simp <;> omega) O7).alloc (by simp <;> omega) O1).alloc (by simp <;> omega) O8).alloc (by simp <;> omega) O7).alloc (by simp <;> omega) O1).alloc (by simp <;> omega) O3).alloc (by simp <;> omega) O9).alloc (by simp <;> omega) O10).alloc (by simp <;> omega) O11
    have hz6 : (((((((((((((((((w5.alloc O0).alloc O1).alloc O2).alloc O3).alloc O4).alloc O5).alloc O0).alloc O6).alloc O7).alloc O1).alloc O8).alloc O7).alloc O1).alloc O3).alloc O9).alloc O10).alloc O11).heap.size = w5.heap.size + 17 := by simp
    have Hz6 := Lib.hid hz6
    clear hz6
    generalize (((((((((((((((((w5.alloc O0).alloc O1).alloc O2).alloc O3).alloc O4).alloc O5).alloc O0).alloc O6).alloc O7).alloc O1).alloc O8).alloc O7).alloc O1).alloc O3).alloc O9).alloc O10).alloc O11) = w6 at *
    clear hO0 hO1 hO2 hO3 hO4 hO5 hO6 hO7 hO8 hO9 hO10 hO11
    have hb6 := hb5.trans (hb56.mono hb5.size)
    have HI6 := Lib.hid (HI5.out.below hb56)
    have HF := Lib.hid (show RdF w6 (fun b => w5.heap.size ≤ b ∧ b < w6.heap.size) (some ⟨w5.heap.size + 1 + 1 + 1 + 1, 0, none⟩) (some ⟨w5.heap.size + 1 + 1 + 1 + 1 + 1 + 1 + 1 + 1 + 1 + 1 + 1 + 1 + 1 + 1 + 1, 0, none⟩) none (meetFn p q false) from
      meet_rdf b4 b15 b1 b2 b3 b5 b6 b7 b8 b9 b10 b11 b12 b13 b14 b0 (by omega))
    clear b0 b1 b2 b3 b4 b5 b6 b7 b8 b9 b10 b11 b12 b13 b14 b15
    have bF := b16
    clear b16 hb5 hb56
    obtain ⟨gN, hgN⟩ : ∃ gN, gN = w5.heap.size + 1 + 1 + 1 + 1 := ⟨_, rfl⟩
    obtain ⟨gB, hgB⟩ : ∃ gB, gB = w5.heap.size + 1 + 1 + 1 + 1 + 1 + 1 + 1 + 1 + 1 + 1 + 1 + 1 + 1 + 1 + 1 := ⟨_, rfl⟩
    obtain ⟨gF, hgF⟩ : ∃ gF, gF = w5.heap.size + 1 + 1 + 1 + 1 + 1 + 1 + 1 + 1 + 1 + 1 + 1 + 1 + 1 + 1 + 1 + 1 := ⟨_, rfl⟩
    rw [← hgB, ← hgN] at HF
    rw [← hgF, ← hgB, ← hgN] at bF
    rw [← hgF]
    clear hgN hgB hgF
    have HC := Lib.hid (show ∀ n, ckF oneP oneVs (meetFn p q false) = n → Calls Tryz.prog 14 #[.pointer (some ⟨gv, 0, none⟩), .agg #[.int .i64 0, .int .i64 0, .slice (some ⟨gN, 0, none⟩) 8 8, .slice (some ⟨gB, 0, none⟩) 4 4, .slice none 0 0]] w6 (CheckPost w6 a W.heap.size gv n) from fun n hn => by
      have h1 := hz3.out
      have h2 := Hz5.out
      have h3 := hb6.size
      have h4 := hz5b.out
      have h := check_one (a := a) (B := B) (lo := W.heap.size) (cn := 8) 4 0 HI6.out (fun b h => by have := HSlo.out b h; omega) HF.out (fun b h => by omega) (by simp [meetFn]) (meet_small p q false) (HS.out.below hb6 hB) (by omega) hb6.size
      rw [hn] at h
      exact h)
    have f0 := bF.at0
    have f1 := bF.at1
    have f2 := bF.at2
    have f3 := bF.at3
    have f4 : w6.cell? ⟨gF, 4, none⟩ = some (.slice none 0 0) := bF.cell 4
    have lF := bF.lt
    go_cut [15] from 76 to 94 (fun v wx => v = .bool (dec (meetFair p q false)) ∧ w6 = wx)
    case first =>
      have HD := Lib.hid (show ∀ b : Bool, (b = true ↔ (p = 0 ∨ p = 2) ∧ (q = 0 ∨ q = 4)) → dec (meetFair p q false) = b from fun b h => by
        cases b with
        | true => exact dec_t ⟨rfl, h.1 rfl⟩
        | false => exact dec_f (fun e => by have := h.2 e.2; cases this))
      by_cases p0 : p = 0
      · have e1 : (p == 0) = true := by simpa using p0
        by_cases q0 : q = 0
        · have e3 : (q == 0) = true := by simpa using q0
          have Hd := Lib.hid (HD.out true (by simp <;> omega))
          go_wp2
          go_meet
          exact ⟨by rw [Hd.out], rfl⟩
        · have e3 : (q == 0) = false := by simpa using q0
          by_cases q4 : q = 4
          · have e4 : (q == 4) = true := by simpa using q4
            have Hd := Lib.hid (HD.out true (by simp <;> omega))
            go_wp2
            go_meet
            exact ⟨by rw [Hd.out], rfl⟩
          · have e4 : (q == 4) = false := by simpa using q4
            have Hd := Lib.hid (HD.out false (by simp <;> omega))
            go_wp2
            go_meet
            exact ⟨by rw [Hd.out], rfl⟩
      · have e1 : (p == 0) = false := by simpa using p0
        by_cases p2 : p = 2
        · have e2 : (p == 2) = true := by simpa using p2
          by_cases q0 : q = 0
          · have e3 : (q == 0) = true := by simpa using q0
            have Hd := Lib.hid (HD.out true (by simp <;> omega))
            go_wp2
            go_meet
            exact ⟨by rw [Hd.out], rfl⟩
          · have e3 : (q == 0) = false := by simpa using q0
            by_cases q4 : q = 4
            · have e4 : (q == 4) = true := by simpa using q4
              have Hd := Lib.hid (HD.out true (by simp <;> omega))
              go_wp2
              go_meet
              exact ⟨by rw [Hd.out], rfl⟩
            · have e4 : (q == 4) = false := by simpa using q4
              have Hd := Lib.hid (HD.out false (by simp <;> omega))
              go_wp2
              go_meet
              exact ⟨by rw [Hd.out], rfl⟩
        · have e2 : (p == 2) = false := by simpa using p2
          have Hd := Lib.hid (HD.out false (by simp <;> omega))
          go_wp2
          go_meet
          exact ⟨by rw [Hd.out], rfl⟩
    case rest =>
      obtain ⟨rfl, hwx⟩ := hcut
      subst hwx
      cases hd : dec (meetFair p q false) with
      | true =>
        have H0 := Lib.hid (HC.out 0 (ck_ok rfl rfl (by simp [meetFn]) ((meet_core p q false hx hy).2 (dec_p hd))))
        clear hd
        go_wp2_with fail
        refine H0.out.mono ?_
        rintro e w7 ⟨rfl, -, hg7⟩
        have hb7 := hb6.grown hg7 hb6.size (fun j hj => by cases hj; have := hz3.out; omega)
        unfold errV
        go_wp2
        exact HP.out w7 hb7
      | false =>
        have H0 := Lib.hid (HC.out 12 (ck_no (by simp [meetFn]) (fun h => dec_n hd ((meet_core p q false hx hy).1 h))))
        clear hd
        go_wp2_with fail
        refine H0.out.mono ?_
        rintro e w7 ⟨rfl, -, hg7⟩
        have hb7 := hb6.grown hg7 hb6.size (fun j hj => by cases hj; have := hz3.out; omega)
        have HIs := Lib.hid (is_any a B w7 (HS.out.below hb7 hB) (Nat.le_trans hB hb7.size) (k := 12) (by omega) 112)
        generalize errV a 12 = ve at *
        go_wp2_with fail
        refine HIs.out.mono ?_
        rintro e w8 ⟨rfl, hb8⟩
        have gT : decide (codeOf 12 = 112) = true := by decide
        rw [gT]
        clear gT
        have hb9 := hb7.trans (hb8.mono hb7.size)
        go_wp2
        exact HP.out w8 hb9
end Go.Proofs.YtjjmpfmhggcjiaaGreatDoor
