/-
  Lw3.
-/
import Derived.Test.YtjjmpfmhggcjiaaGreatDoorJSrLaw
import Derived.Test.YtjjmpfmhggcjiaaGreatDoorJLw5
set_option linter.unusedSimpArgs false
set_option linter.unusedVariables false
namespace Go.Proofs.YtjjmpfmhggcjiaaGreatDoor
open Go.RowKit Go.Maps
def rowsTo (l : List Int) (y : Int) (k : Nat) : List Nd := (List.range k).map (rowNd l y)
def numsTo (k : Nat) : List Int := (List.range k).map Int.ofNat
theorem rowsTo_len (l : List Int) (y : Int) (k : Nat) : (rowsTo l y k).length = k := by simp [rowsTo]
theorem numsTo_len (k : Nat) : (numsTo k).length = k := by simp [numsTo]
theorem rowsTo_succ (l : List Int) (y : Int) (k : Nat) : rowsTo l y (k + 1) = rowsTo l y k ++ [rowNd l y k] := by simp [rowsTo, List.range_succ]
theorem numsTo_succ (k : Nat) : numsTo (k + 1) = numsTo k ++ [(k : Int)] := by simp [numsTo, List.range_succ]
theorem aOf_wrap {i : Nat} (hi : i ≤ 1000) (x : Int) : wrap64 ((wrap64 (wrap64 (x.tmod (i + 3) + i) + 3)).tmod (i + 3) - 1) = aOf i x := by
  have h1 := Int.lt_tmod_of_pos x (show (0 : Int) < (i : Int) + 3 by omega)
  have h2 := Int.tmod_lt_of_pos x (show (0 : Int) < (i : Int) + 3 by omega)
  have h3 := aOf_rng i x
  unfold aOf at h3 ⊢
  generalize x.tmod ((i : Int) + 3) = r at *
  have e1 : wrap64 (r + i) = r + i := by unfold wrap64; omega
  have e2 : wrap64 (r + i + 3) = r + i + 3 := by unfold wrap64; omega
  rw [e1, e2]
  generalize (r + i + 3).tmod ((i : Int) + 3) = s at *
  unfold wrap64
  omega
theorem tmod3 (i : Nat) : ((i : Int)).tmod 3 = ((i % 3 : Nat) : Int) := by
  rw [Int.tmod_eq_emod_of_nonneg (by omega)]
  omega
theorem row_small (l : List Int) (y : Int) (hl : l.length ≤ 100) : Small (rowFn l y) := by
  refine ⟨fun b hb => ?_, fun i hi => ?_, fun i hi => ?_, fun i hi => ?_⟩
  · have e : b = 0 := by simp [rowFn] at hb; omega
    subst e
    rw [row_bk]
    exact ⟨by simp [allN]; omega, by simp, by simp⟩
  · rw [row_len] at hi
    rw [row_nd l y hi]
    unfold rowNd
    split
    · exact ⟨by show sI.size ≤ 1000000; decide, by simp⟩
    · split
      · exact ⟨by show sI.size ≤ 1000000; decide, by simp⟩
      · exact ⟨by show sE.size ≤ 1000000; decide, by simp⟩
  · rw [row_len] at hi
    rw [row_nd l y hi]
    unfold rowNd
    split
    · rfl
    · split <;> rfl
  · rw [row_len] at hi
    rw [row_nd l y hi]
    rcases row_op l y i with h | (h | h | h) | h <;> simp [FewOp, h]
set_option maxRecDepth 100000 in
set_option maxHeartbeats 2000000 in
theorem ssaRows_big (a : Nat → Addr) (B : Nat) (W : World) (hs : Sent W B all14 a) (hB : B ≤ W.heap.size) (A : Option Addr) (n c : Nat) (hn : 100 < n) (hmax : n ≤ 9223372036854775807) (y : Int) :
    Calls Tryz.prog 4 #[.slice A n c, .int .i64 y] W (YesPost W) := by
  have HP := Lib.hid (fun w' (h : Below W.heap.size W w') => (show YesPost W (.returned (.bool true)) w' from ⟨rfl, h⟩))
  generalize YesPost W = Post at *
  have HS := Lib.hid hs
  have g1 : decide ((100 : Int) < n) = true := by simp; omega
  clear hs
  go_enter Tryz.func4, Tryz.ntmps4
  go_wp2_with fail
  refine (first_any a B W HS.out hB).mono ?_
  rintro e w1 ⟨rfl, hb1⟩
  go_wp2
  exact HP.out w1 hb1
set_option maxRecDepth 100000 in
set_option maxHeartbeats 8000000 in
theorem ssaRows_walk (a : Nat → Addr) (B : Nat) (W : World) (hs : Sent W B all14 a) (hB : B ≤ W.heap.size) (A : Option Addr) (n c : Nat) (l : List Int) (hrd : Rd W W.heap.size 1 A n (ints l)) (hn : n ≤ 100) (y : Int) :
    Calls Tryz.prog 4 #[.slice A n c, .int .i64 y] W (YesPost W) := by
  obtain rfl : l.length = n := by have := hrd.1; simpa [ints] using this
  have HP := Lib.hid (fun w' (h : Below W.heap.size W w') => (show YesPost W (.returned (.bool true)) w' from ⟨rfl, h⟩))
  generalize YesPost W = Post at *
  have HS := Lib.hid hs
  have HR := Lib.hid hrd
  have g1 : decide ((100 : Int) < l.length) = false := by simp; omega
  clear hs hrd
  go_enter Tryz.func4, Tryz.ntmps4
  go_wp2_with fail
  refine (first_any a B W HS.out hB).mono ?_
  rintro e w1 ⟨rfl, hb1⟩
  go_wp2_with fail
  refine (one_any w1).mono ?_
  rintro e w2 ⟨gm, gn, gb, rfl, hP, -, hb12⟩
  have hb2 := hb1.trans (hb12.mono hb1.size)
  clear hb12 hb1
  have bP3 := (Blk.new w2 25 #[.slice none 0 0, .slice (some ⟨gm, 0, none⟩) 1 1]).alloc (.cells #[.int .i64 0, .int .i64 0, .slice (some ⟨gn, 0, none⟩) 2 2, .slice (some ⟨gb, 0, none⟩) 1 1, .slice none 0 0] 30)
  have hb23 := ((Below.refl w2.heap.size w2).alloc (Nat.le_refl _) (.cells #[.slice none 0 0, .slice (some ⟨gm, 0, none⟩) 1 1] 25)).alloc (by simp) (.cells #[.int .i64 0, .int .i64 0, .slice (some ⟨gn, 0, none⟩) 2 2, .slice (some ⟨gb, 0, none⟩) 1 1, .slice none 0 0] 30)
  have hb3 := hb2.trans (hb23.mono hb2.size)
  have hP3 := (hP.below hb23 (Nat.le_refl _)).more hb23.size
  clear hP hb23 hb2
  go_upto_region 5 with (fail)
  generalize (w2.alloc (.cells #[.slice none 0 0, .slice (some ⟨gm, 0, none⟩) 1 1] 25)).alloc (.cells #[.int .i64 0, .int .i64 0, .slice (some ⟨gn, 0, none⟩) 2 2, .slice (some ⟨gb, 0, none⟩) 1 1, .slice none 0 0] 30) = w3 at *
  have p0 := bP3.at0
  have p1 := bP3.at1
  have lP := bP3.lt
  have HMd := Lib.hid (made_one a B w3 (HS.out.below hb3 hB) (Nat.le_trans hB hb3.size) gm hP3)
  clear hP3
  go_wp2_with fail
  refine HMd.out.mono ?_
  rintro e w4 ⟨gv, A1, n1, c1, A2, n2, c2, A3, n3, c3, rfl, ⟨S, hI, hSlo⟩, hgv, hgv4, hb34⟩
  have hb4 := hb3.trans (hb34.mono hb3.size)
  have hz3 := Lib.hid hb3.size
  have HI4 := Lib.hid hI
  have HSlo := Lib.hid hSlo
  clear bP3 hb3 p0 p1 lP HMd hI hSlo hb34
  go_upto_region 6 with (fail)
  have hb5 := hb4.alloc hb4.size (.cells #[.slice A1 n1 c1, .slice A2 n2 c2, .slice A3 n3 c3] 34)
  have HI5 := Lib.hid (HI4.out.below ((Below.refl w4.heap.size w4).alloc (Nat.le_refl _) (.cells #[.slice A1 n1 c1, .slice A2 n2 c2, .slice A3 n3 c3] 34)))
  have hz5 : (w4.alloc (.cells #[.slice A1 n1 c1, .slice A2 n2 c2, .slice A3 n3 c3] 34)).heap.size = w4.heap.size + 1 := by simp
  have Hz5 := Lib.hid hz5
  have hz5b := Lib.hid (show w3.heap.size ≤ gv ∧ gv < w4.heap.size from ⟨hgv, hgv4⟩)
  clear hz5 HI4 hgv hgv4 hb4
  generalize w4.alloc (.cells #[.slice A1 n1 c1, .slice A2 n2 c2, .slice A3 n3 c3] 34) = w5 at *
  go_upto_region 9 with (fail)
  have ownN := ((((World.ownsRow_lit (base := w5.heap.size) (e := 59) (size := 7) w5 #[.int .i64 1, .int .i64 0, .int .i64 0, .int .i64 (-1), .string ⟨#[73]⟩, .int .i64 y, .slice none 0 0] 1 (Nat.le_refl _) (by unfold maxLen; omega) rfl).alloc (.cells #[.int .i64 0] 3)).alloc (.cells #[.slice none 0 0, .slice (some ⟨w5.heap.size + 1, 0, none⟩) 1 1, .slice none 0 0, .slice none 0 0] 61)).alloc (.cells #[.int .i64 0, .int .i64 0, .slice (some ⟨w5.heap.size, 0, none⟩) 1 1, .slice (some ⟨w5.heap.size + 1 + 1, 0, none⟩) 1 1, .slice none 0 0] 30))
  have ownB := (((World.ownsRow_lit (base := w5.heap.size) (e := 3) (size := 1) (w5.alloc (.cells #[.int .i64 1, .int .i64 0, .int .i64 0, .int .i64 (-1), .string ⟨#[73]⟩, .int .i64 y, .slice none 0 0] 59)) #[.int .i64 0] 1 (by simp) (by unfold maxLen; omega) rfl).alloc (.cells #[.slice none 0 0, .slice (some ⟨w5.heap.size + 1, 0, none⟩) 1 1, .slice none 0 0, .slice none 0 0] 61)).alloc (.cells #[.int .i64 0, .int .i64 0, .slice (some ⟨w5.heap.size, 0, none⟩) 1 1, .slice (some ⟨w5.heap.size + 1 + 1, 0, none⟩) 1 1, .slice none 0 0] 30))
  have bB0 := (Blk.newAt (w := (w5.alloc (.cells #[.int .i64 1, .int .i64 0, .int .i64 0, .int .i64 (-1), .string ⟨#[73]⟩, .int .i64 y, .slice none 0 0] 59)).alloc (.cells #[.int .i64 0] 3)) (g := w5.heap.size + 1 + 1) (by simp) 61 #[.slice none 0 0, .slice (some ⟨w5.heap.size + 1, 0, none⟩) 1 1, .slice none 0 0, .slice none 0 0]).alloc (.cells #[.int .i64 0, .int .i64 0, .slice (some ⟨w5.heap.size, 0, none⟩) 1 1, .slice (some ⟨w5.heap.size + 1 + 1, 0, none⟩) 1 1, .slice none 0 0] 30)
  have bF0 := Blk.newAt (w := ((w5.alloc (.cells #[.int .i64 1, .int .i64 0, .int .i64 0, .int .i64 (-1), .string ⟨#[73]⟩, .int .i64 y, .slice none 0 0] 59)).alloc (.cells #[.int .i64 0] 3)).alloc (.cells #[.slice none 0 0, .slice (some ⟨w5.heap.size + 1, 0, none⟩) 1 1, .slice none 0 0, .slice none 0 0] 61)) (g := w5.heap.size + 1 + 1 + 1) (by simp) 30 #[.int .i64 0, .int .i64 0, .slice (some ⟨w5.heap.size, 0, none⟩) 1 1, .slice (some ⟨w5.heap.size + 1 + 1, 0, none⟩) 1 1, .slice none 0 0]
  have hb59 := (((((Below.refl w5.heap.size w5).alloc (Nat.le_refl _) (.cells #[.int .i64 1, .int .i64 0, .int .i64 0, .int .i64 (-1), .string ⟨#[73]⟩, .int .i64 y, .slice none 0 0] 59)).alloc (by simp) (.cells #[.int .i64 0] 3)).alloc (by simp <;> omega) (.cells #[.slice none 0 0, .slice (some ⟨w5.heap.size + 1, 0, none⟩) 1 1, .slice none 0 0, .slice none 0 0] 61)).alloc (by simp <;> omega) (.cells #[.int .i64 0, .int .i64 0, .slice (some ⟨w5.heap.size, 0, none⟩) 1 1, .slice (some ⟨w5.heap.size + 1 + 1, 0, none⟩) 1 1, .slice none 0 0] 30))
  have hb9 := hb5.trans (hb59.mono hb5.size)
  have hsz1 : (w5.alloc (.cells #[.int .i64 1, .int .i64 0, .int .i64 0, .int .i64 (-1), .string ⟨#[73]⟩, .int .i64 y, .slice none 0 0] 59)).heap.size = w5.heap.size + 1 := by simp
  rw [hsz1] at ownB
  have Hw5 := Lib.hid hb5.size
  have Hb5 := Lib.hid hb5
  clear hsz1 hb5
  generalize (((w5.alloc (.cells #[.int .i64 1, .int .i64 0, .int .i64 0, .int .i64 (-1), .string ⟨#[73]⟩, .int .i64 y, .slice none 0 0] 59)).alloc (.cells #[.int .i64 0] 3)).alloc (.cells #[.slice none 0 0, .slice (some ⟨w5.heap.size + 1, 0, none⟩) 1 1, .slice none 0 0, .slice none 0 0] 61)).alloc (.cells #[.int .i64 0, .int .i64 0, .slice (some ⟨w5.heap.size, 0, none⟩) 1 1, .slice (some ⟨w5.heap.size + 1 + 1, 0, none⟩) 1 1, .slice none 0 0] 30) = w9 at *
  have HI9 := Lib.hid (HI5.out.below hb59)
  obtain ⟨gB, hgB⟩ : ∃ gB, gB = w5.heap.size + 1 + 1 := ⟨_, rfl⟩
  obtain ⟨gF, hgF⟩ : ∃ gF, gF = w5.heap.size + 1 + 1 + 1 := ⟨_, rfl⟩
  rw [← hgF, ← hgB] at bF0
  rw [← hgB] at bB0
  rw [← hgF]
  have HR9 := Lib.hid (show NRow w9 w5.heap.size (XOf gB gF (some ⟨w5.heap.size + 1, 0, none⟩)) (rowsTo l y 1) [(none, 0)] (some ⟨w5.heap.size, 0, none⟩) 1 from by
    refine ⟨rfl, own_cast ownN rfl rfl, fun k x h e1 e2 => ?_, fun g hg e => ?_⟩
    · match k with
      | 0 => cases e2; cases e1; exact RdS.nil _ _ _ _
      | k + 1 => cases e2
    · have := Option.some.inj hg
      rcases e with e | e | e
      · simp at this; omega
      · simp at this; omega
      · have := Option.some.inj e
        simp at *
        omega)
  have HO9 := Lib.hid (show w9.ownsRow w5.heap.size 3 1 (.slice (some ⟨w5.heap.size + 1, 0, none⟩) 1 1) 1 (ints (numsTo 1)) from ownB)
  have Hg := Lib.hid (show w5.heap.size + 2 = gB ∧ w5.heap.size + 3 = gF ∧ gF < w9.heap.size from ⟨by omega, by omega, bF0.lt⟩)
  clear ownN ownB hgB hgF
  go_wp2
  have hG9 : Grow w9 w5.heap.size gB gF (rowsTo l y 1) (numsTo 1) 1 1 (some ⟨w5.heap.size, 0, none⟩) (some ⟨w5.heap.size + 1, 0, none⟩) [(none, 0)] := by
    have hg := Hg.out
    exact ⟨bF0, bB0, HR9.out, HO9.out, ⟨by omega, by omega, by omega⟩, fun g hg' => by have := Option.some.inj hg'; simp at this; omega⟩
  have HG9 := Lib.hid hG9
  have HB9 := Lib.hid hb59
  clear hb59 hG9 bF0 bB0 HR9 HO9
  go_loopw [12, 13] (fun fv iv wr => ∃ (i cn cb : Nat) (An Ab : Option Addr) (hs : List (Option Addr × Nat)) (fb : Bool), i ≤ l.length ∧ iv = .int .i64 i ∧ fv = .bool fb ∧ Hid (IsB fb (∀ j, j < i → 0 ≤ aOf j (l.getD j 0) ∧ aOf j (l.getD j 0) ≤ j)) ∧ Hid (Grow wr w5.heap.size gB gF (rowsTo l y (i + 1)) (numsTo (i + 1)) cn cb An Ab hs) ∧ Hid (Below w5.heap.size w5 wr) ∧ Below W.heap.size W wr) (fun _ iv _ => l.length - (intOf iv).toNat)
  case atStart =>
    exact ⟨0, 1, 1, some ⟨w5.heap.size, 0, none⟩, some ⟨w5.heap.size + 1, 0, none⟩, [(none, 0)], true, Nat.zero_le _, rfl, rfl, Lib.hid (by unfold IsB; simp), HG9, HB9, hb9⟩
  case round =>
    clear hb9 HG9 HB9
    obtain ⟨i, cn, cb, An, Ab, hs, fb, hi, rfl, rfl, Hfb, HG, HB, hb⟩ := hrel
    have bF := HG.out.fn
    have bB := HG.out.bk
    rw [rowsTo_len] at bF
    rw [numsTo_len] at bB
    have lF := bF.lt
    have lB := bB.lt
    have Hzw := Lib.hid (show w5.heap.size ≤ wr.heap.size ∧ gB ≠ gF ∧ W.heap.size ≤ w5.heap.size from ⟨by have := HG.out.ne.2.1; omega, HG.out.ne.1, Hw5.out⟩)
    by_cases hlt : i < l.length
    · obtain ⟨ba, off, rfl, hba, x0⟩ := ints_at (HR.out.below hb (Nat.le_refl _)) hlt
      have k0 : (0 : Int) ≤ i := by omega
      have k1 : (i : Int) < l.length := by omega
      have hnz : ((i : Int) + 3 == 0) = false := by simp; omega
      have hxe : l[i]?.getD 0 = l.getD i 0 := by rw [List.getD_eq_getElem?_getD]
      rw [hxe] at x0
      have Hav := Lib.hid (aOf_wrap (show i ≤ 1000 by omega) (l.getD i 0))
      have Hnd := Lib.hid (show rowNd l y (i + 1) = ⟨8 + ((i % 3 : Nat) : Int), 0, 0, -1, sI, 0, [aOf i (l.getD i 0), (i : Int)]⟩ by
        unfold rowNd
        rw [if_neg (by omega), if_pos (by omega)]
        simp)
      generalize hx : l.getD i 0 = x at *
      have Hx := Lib.hid hx
      clear hx hxe
      have hlb := Nat.lt_of_lt_of_le hba hb.size
      go_upto_region 14 with (fail)
      rw [Hav.out]
      obtain ⟨av, hav⟩ : ∃ av, av = aOf i x := ⟨_, rfl⟩
      rw [← hav] at Hnd ⊢
      have Hav2 := Lib.hid (show av = aOf i (l.getD i 0) by rw [hav, Hx.out])
      clear hav Hav x0
      go_cut [12] from 64 to 73 (fun v wx => v = .bool (fb && (decide (0 ≤ av) && decide (av ≤ (i : Int)))) ∧ wr = wx)
      case first =>
        clear HG Hfb Hnd Hav2 HB bF bB
        cases fb with
        | false =>
          go_wp2
          go_meet
          exact ⟨rfl, rfl⟩
        | true =>
          by_cases h1 : 0 ≤ av
          · by_cases h2 : av ≤ (i : Int)
            · have e := Lib.hid (show (true && (decide (0 ≤ av) && decide (av ≤ (i : Int)))) = true by simp [h1, h2])
              go_wp2
              go_meet
              exact ⟨by rw [e.out], rfl⟩
            · have e := Lib.hid (show (true && (decide (0 ≤ av) && decide (av ≤ (i : Int)))) = false by simp [h2])
              go_wp2
              go_meet
              exact ⟨by rw [e.out], rfl⟩
          · have e := Lib.hid (show (true && (decide (0 ≤ av) && decide (av ≤ (i : Int)))) = false by simp [h1])
            go_wp2
            go_meet
            exact ⟨by rw [e.out], rfl⟩
      case rest =>
        obtain ⟨rfl, hwx⟩ := hcut
        subst hwx
        have Hfb2 := Lib.hid (show IsB (fb && (decide (0 ≤ av) && decide (av ≤ (i : Int)))) (∀ j, j < i + 1 → 0 ≤ aOf j (l.getD j 0) ∧ aOf j (l.getD j 0) ≤ j) by
          have h0 := Hfb.out
          have h1 := Hav2.out
          unfold IsB at h0 ⊢
          simp only [Bool.and_eq_true, decide_eq_true_eq]
          rw [h0]
          constructor
          · rintro ⟨a, b⟩ j hj
            by_cases e : j = i
            · subst e
              rw [← h1]
              exact b
            · exact a j (by omega)
          · intro a
            have h2 := a i (by omega)
            rw [← h1] at h2
            exact ⟨fun j hj => a j (by omega), h2⟩)
        generalize (fb && (decide (0 ≤ av) && decide (av ≤ (i : Int)))) = fb2 at *
        clear Hfb Hav2
        obtain ⟨q, ht, hq3⟩ : ∃ q : Nat, ((i : Int)).tmod 3 = q ∧ q < 3 := ⟨i % 3, tmod3 i, by omega⟩
        have Hq := Lib.hid (show rowNd l y (i + 1) = ⟨8 + (q : Int), 0, 0, -1, sI, 0, [av, (i : Int)]⟩ by
          rw [Hnd.out]
          have h := tmod3 i
          rw [ht] at h
          rw [← h])
        clear Hnd
        have f2 := bF.at2
        have ownN := HG.out.nds.own
        rw [rowsTo_len] at ownN
        go_upto_region 15 with (fail)
        have bFa := (bF.alloc (.cells #[.int .i64 av, .int .i64 (i : Int)] 3)).alloc (.cells #[.int .i64 (8 + (q : Int)), .int .i64 0, .int .i64 0, .int .i64 (-1), .string ⟨#[73]⟩, .int .i64 0, .slice (some ⟨wr.heap.size, 0, none⟩) 2 2] 59)
        have nF : (Value.slice An (i + 1) cn).ownBlock ≠ some gF := fun e => HG.out.nds.out gF (by rw [slice_block] at e; exact e) (.inr (.inl rfl))
        have zw := Hzw.out.1
        go_wp2_with (at_builtin
                     refine wpList_append_row rfl (.tmp 75) (.tmp 83) 26 rfl w5.heap.size 59 _ 7 80 Tryz.underlying26 infoNd rfl (by omega) An cn (i + 1) (ndShape.cells (rowsTo l y (i + 1)) hs) rfl ((ownN.alloc _).alloc _) (wr.heap.size + 1) 1 1 59 [.int .i64 (8 + (q : Int)), .int .i64 0, .int .i64 0, .int .i64 (-1), .string ⟨#[73]⟩, .int .i64 0, .slice (some ⟨wr.heap.size, 0, none⟩) 2 2] rfl (Blk.newAt (by simp) _ _) rfl (by intro u hu; simp at hu; rcases hu with rfl | rfl | rfl | rfl | rfl | rfl | rfl <;> rfl) (by unfold maxLen; omega) (by omega) (by simp; omega) ?_
                     intro A4 c4 w6 own6 hg6 hat6
                     have bF6 := bFa.grown hg6 (Ne.symm nF)
                     have z2 := bF6.at2
                     have zf := bF6.frozen 2
                     have zl := bF6.lt)
        obtain ⟨hG7, -, hB7⟩ := HG.out.node (w3 := w6) (A3 := A4) (c3 := c4) ⟨8 + (q : Int), 0, 0, -1, sI, 0, [av, (i : Int)]⟩ Hzw.out.1 (by rw [rowsTo_len]; exact own6) (by rw [rowsTo_len]; exact hg6) (by rw [rowsTo_len]; exact hat6)
        have hbx7 := hB7 HB.out (Nat.le_refl _)
        rw [rowsTo_len, ← Hq.out, ← rowsTo_succ] at hG7
        rw [rowsTo_len] at hbx7
        have HG7 := Lib.hid hG7
        have HB7 := Lib.hid hbx7
        clear hG7 hbx7 hB7 own6 hg6 hat6 bF6 z2 zf zl bFa nF ownN f2 HG HB bF bB hb
        go_upto_region 16 with (fail)
        generalize w6.setCell ⟨gF, 2, none⟩ (.slice A4 (i + 1 + 1) c4) = w7 at *
        have HG7d := Lib.hid HG7.out.drew
        have HB7d := Lib.hid HB7.out.drew
        have hw1 : IntKind.i64.wrap ((i : Int) + 1) = ((i : Int) + 1) := IntWalk.i64_in _ (by omega)
        refine wpJ_start (S := fun W => W.cell? ⟨gF, 3, none⟩ = some (.slice (some ⟨gB, 0, none⟩) 1 1) ∧ W.cell? ⟨gB, 1, none⟩ = some (.slice Ab (i + 1) cb)) (fun j => !(j == 13)) (by kernel_rfl) (by have bF7 := HG7.out.fn; have bB7 := HG7.out.bk; rw [numsTo_len] at bB7; exact ⟨bF7.at3, bB7.at1⟩) (fun HS7 => ?_)
        clear HG7 HB7
        generalize w7.drew = wd at *
        have bF7 := HG7d.out.fn
        have bB7 := HG7d.out.bk
        rw [numsTo_len] at bB7
        rw [rowsTo_len] at bF7
        have Hz7 := Lib.hid (show w5.heap.size ≤ wd.heap.size from by have := HG7d.out.ne.2.1; have := bB7.lt; omega)
        have own7 := HG7d.out.own
        rw [numsTo_len] at own7
        have lF7 := bF7.lt
        have lB7 := bB7.lt
        refine takeQ 0 86 rfl HS7 (.inl ⟨rfl, fun W hW => by obtain ⟨hW1, hW2⟩ := hW; go_simp; rfl⟩) ?_
        simp only [pS]
        refine takeQ 1 87 rfl HS7 (.inl ⟨rfl, fun W hW => by obtain ⟨hW1, hW2⟩ := hW; go_simp; rfl⟩) ?_
        simp only [pS]
        refine takeQ 2 88 rfl HS7 (.inl ⟨rfl, fun W hW => by obtain ⟨hW1, hW2⟩ := hW; go_simp; rfl⟩) ?_
        simp only [pS]
        refine takeQ 3 89 rfl HS7 (.inl ⟨rfl, fun W hW => by obtain ⟨hW1, hW2⟩ := hW; go_simp; rfl⟩) ?_
        simp only [pS]
        refine takeQ 4 90 rfl HS7 (.inl ⟨rfl, fun W hW => by obtain ⟨hW1, hW2⟩ := hW; go_simp; rfl⟩) ?_
        simp only [pS]
        refine takeQ 5 91 rfl HS7 (.inl ⟨rfl, fun W hW => by obtain ⟨hW1, hW2⟩ := hW; go_simp; rfl⟩) ?_
        simp only [pS]
        refine takeQ 6 92 rfl HS7 (.inl ⟨rfl, fun W hW => by obtain ⟨hW1, hW2⟩ := hW; go_simp; rfl⟩) ?_
        simp only [pS]
        refine takeQ 7 93 rfl HS7 (.inl ⟨rfl, fun W hW => by obtain ⟨hW1, hW2⟩ := hW; go_simp; rfl⟩) ?_
        simp only [pS]
        refine takeQ 8 94 rfl HS7 (.inl ⟨rfl, fun W hW => by obtain ⟨hW1, hW2⟩ := hW; go_simp; rfl⟩) ?_
        simp only [pS]
        clear hw1
        refine stepQ 9 rfl (fun K HK => ?_)
        go_simp
        have bFb := bF7.alloc (.cells #[.int .i64 ((i : Int) + 1)] 3)
        have bBb := bB7.alloc (.cells #[.int .i64 ((i : Int) + 1)] 3)
        refine HK.out _ _ (fun _ => ⟨bFb.at3, bBb.at1⟩) ?_
        clear HK HS7
        try simp only [pS]
        refine stepQ 10 rfl (fun K HK => ?_)
        rw [if_pos (by rfl)]
        have nO : (Value.slice Ab (i + 1) cb).ownBlock ≠ some gF ∧ (Value.slice Ab (i + 1) cb).ownBlock ≠ some gB := ⟨fun e => (HG7d.out.apart gF (by rw [slice_block] at e; exact e)).2 rfl, fun e => (HG7d.out.apart gB (by rw [slice_block] at e; exact e)).1 rfl⟩
        have hz8 : w5.heap.size ≤ (wd.alloc (.cells #[.int .i64 ((i : Int) + 1)] 3)).heap.size := Nat.le_trans Hz7.out (by simp)
        refine oper_append_row (.tmp 92) (.tmp 95) 47 rfl w5.heap.size 3 _ 1 8 Tryz.underlying47 infoIntR rfl (by omega) Ab cb (i + 1) (ints (numsTo (i + 1))) rfl (own7.alloc _) wd.heap.size 1 1 3 [.int .i64 ((i : Int) + 1)] rfl (Blk.new _ _ _) rfl (by intro u hu; simp at hu; subst hu; rfl) (by unfold maxLen; omega) (by omega) hz8 ?_
        intro Ab2 cb2 w8 own8 hg8d hat8
        have hg8 : (wd.alloc (.cells #[.int .i64 ((i : Int) + 1)] 3)).grownBy w8 (Value.slice Ab (i + 1) cb).ownBlock := ⟨hg8d.os, hg8d.tape, hg8d.output, hg8d.size, hg8d.block⟩
        have bF8 := bFb.grown hg8 (Ne.symm nO.1)
        have bB8 := bBb.grown hg8 (Ne.symm nO.2)
        have HS8 : w8.cell? ⟨gF, 3, none⟩ = some (.slice (some ⟨gB, 0, none⟩) 1 1) ∧ w8.cell? ⟨gB, 1, none⟩ = some (.slice Ab (i + 1) cb) := ⟨bF8.at3, bB8.at1⟩
        obtain ⟨hG9, -, hB9⟩ := HG7d.out.num (w3 := w8) (A3 := Ab2) (c3 := cb2) ((i : Int) + 1) Hz7.out (by rw [numsTo_len]; exact own8) (by rw [numsTo_len]; exact hg8) (by rw [numsTo_len]; exact hat8)
        have hbx9 := hB9 HB7d.out (Nat.le_refl _)
        rw [numsTo_len] at hG9 hbx9
        rw [show numsTo (i + 1) ++ [((i : Int) + 1)] = numsTo (i + 1 + 1) from by rw [numsTo_succ (i + 1)]; congr 2] at hG9
        have HG9 := Lib.hid hG9
        have HB9 := Lib.hid hbx9
        refine HK.out _ _ (fun _ => HS8) ?_
        clear HK hG9 hbx9 hB9 own8 hg8 hg8d hat8 bFb bBb own7 nO hz8 HG7d HB7d bF7 bB7 lF7 lB7
        simp only [pS]
        have yf := bB8.frozen 1
        have yb := HS8.2
        have yl := bB8.lt
        refine stepQ 11 rfl (fun K HK => ?_)
        go_simp
        refine HK.out _ _ (fun _ => HS8) ?_
        clear HK
        try simp only [pS]
        refine takeQ 12 98 rfl HS8 (.inl ⟨rfl, fun W hW => by obtain ⟨hW1, hW2⟩ := hW; go_simp; rfl⟩) ?_
        simp only [pS]
        refine stepQ 13 rfl (fun K HK => ?_)
        clear HS8
        go_simp
        refine HK.out _ _ (fun h => by cases h) ?_
        clear HK
        refine wpAnyJ_done (by kernel_rfl) ?_ _
        clear bF8 bB8 yf yb yl Hz7
        have hb9 := Hb5.out.trans (HB9.out.mono Hw5.out)
        generalize w8.setCell ⟨gB, 1, none⟩ (.slice Ab2 (i + 1 + 1) cb2) = w10 at *
        go_wp2
        go_roundw
        case rel =>
          exact ⟨i + 1, c4, cb2, A4, Ab2, _, fb2, by omega, by go_num, rfl, Hfb2, HG9, HB9, hb9⟩
        case measure => simp [intOf]; omega
    · have e : i = l.length := by omega
      subst e
      clear hlt
      have Hq := Lib.hid (show rowNd l y (l.length + 1) = ⟨47, 0, 0, -1, sE, 0, [(l.length : Int)]⟩ by
        unfold rowNd
        rw [if_neg (by omega), if_neg (by omega)])
      have f2 := bF.at2
      have ownN := HG.out.nds.own
      rw [rowsTo_len] at ownN
      go_upto_region 17 with (fail)
      have bFa := (bF.alloc (.cells #[.int .i64 (l.length : Int)] 3)).alloc (.cells #[.int .i64 47, .int .i64 0, .int .i64 0, .int .i64 (-1), .string ⟨#[]⟩, .int .i64 0, .slice (some ⟨wr.heap.size, 0, none⟩) 1 1] 59)
      have nF : (Value.slice An (l.length + 1) cn).ownBlock ≠ some gF := fun e => HG.out.nds.out gF (by rw [slice_block] at e; exact e) (.inr (.inl rfl))
      have zw := Hzw.out.1
      go_wp2_with (at_builtin
                   refine wpList_append_row rfl (.tmp 100) (.tmp 105) 26 rfl w5.heap.size 59 _ 7 80 Tryz.underlying26 infoNd rfl (by omega) An cn (l.length + 1) (ndShape.cells (rowsTo l y (l.length + 1)) hs) rfl ((ownN.alloc _).alloc _) (wr.heap.size + 1) 1 1 59 [.int .i64 47, .int .i64 0, .int .i64 0, .int .i64 (-1), .string ⟨#[]⟩, .int .i64 0, .slice (some ⟨wr.heap.size, 0, none⟩) 1 1] rfl (Blk.newAt (by simp) _ _) rfl (by intro u hu; simp at hu; rcases hu with rfl | rfl | rfl | rfl | rfl | rfl | rfl <;> rfl) (by unfold maxLen; omega) (by omega) (by simp; omega) ?_
                   intro A4 c4 w6 own6 hg6 hat6
                   have bF6 := bFa.grown hg6 (Ne.symm nF)
                   have z2 := bF6.at2
                   have zf := bF6.frozen 2
                   have zl := bF6.lt)
      obtain ⟨hG7, -, hB7⟩ := HG.out.node (w3 := w6) (A3 := A4) (c3 := c4) ⟨47, 0, 0, -1, sE, 0, [(l.length : Int)]⟩ Hzw.out.1 (by rw [rowsTo_len]; exact own6) (by rw [rowsTo_len]; exact hg6) (by rw [rowsTo_len]; exact hat6)
      have hbx7 := hB7 HB.out (Nat.le_refl _)
      rw [rowsTo_len, ← Hq.out, ← rowsTo_succ] at hG7
      rw [rowsTo_len] at hbx7
      have HG7 := Lib.hid hG7
      have HB7 := Lib.hid hbx7
      clear hG7 hbx7 hB7 own6 hg6 hat6 bF6 z2 zf zl bFa nF ownN f2 HG HB bF bB hb
      go_upto_region 18 with (fail)
      generalize w6.setCell ⟨gF, 2, none⟩ (.slice A4 (l.length + 1 + 1) c4) = w7 at *
      have HG7d := Lib.hid HG7.out.drew
      have HB7d := Lib.hid HB7.out.drew
      have hw1 : IntKind.i64.wrap ((l.length : Int) + 1) = ((l.length : Int) + 1) := IntWalk.i64_in _ (by omega)
      refine wpJ_start (S := fun W => W.cell? ⟨gF, 3, none⟩ = some (.slice (some ⟨gB, 0, none⟩) 1 1) ∧ W.cell? ⟨gB, 1, none⟩ = some (.slice Ab (l.length + 1) cb)) (fun j => !(j == 14)) (by kernel_rfl) (by have bF7 := HG7.out.fn; have bB7 := HG7.out.bk; rw [numsTo_len] at bB7; exact ⟨bF7.at3, bB7.at1⟩) (fun HS7 => ?_)
      clear HG7 HB7
      generalize w7.drew = wd at *
      have bF7 := HG7d.out.fn
      have bB7 := HG7d.out.bk
      rw [numsTo_len] at bB7
      rw [rowsTo_len] at bF7
      have Hz7 := Lib.hid (show w5.heap.size ≤ wd.heap.size from by have := HG7d.out.ne.2.1; have := bB7.lt; omega)
      have own7 := HG7d.out.own
      rw [numsTo_len] at own7
      have lF7 := bF7.lt
      have lB7 := bB7.lt
      refine takeQ 0 108 rfl HS7 (.inl ⟨rfl, fun W hW => by obtain ⟨hW1, hW2⟩ := hW; go_simp; rfl⟩) ?_
      simp only [pS]
      refine takeQ 1 109 rfl HS7 (.inl ⟨rfl, fun W hW => by obtain ⟨hW1, hW2⟩ := hW; go_simp; rfl⟩) ?_
      simp only [pS]
      refine takeQ 2 110 rfl HS7 (.inl ⟨rfl, fun W hW => by obtain ⟨hW1, hW2⟩ := hW; go_simp; rfl⟩) ?_
      simp only [pS]
      refine takeQ 3 111 rfl HS7 (.inl ⟨rfl, fun W hW => by obtain ⟨hW1, hW2⟩ := hW; go_simp; rfl⟩) ?_
      simp only [pS]
      refine takeQ 4 112 rfl HS7 (.inl ⟨rfl, fun W hW => by obtain ⟨hW1, hW2⟩ := hW; go_simp; rfl⟩) ?_
      simp only [pS]
      refine takeQ 5 113 rfl HS7 (.inl ⟨rfl, fun W hW => by obtain ⟨hW1, hW2⟩ := hW; go_simp; rfl⟩) ?_
      simp only [pS]
      refine takeQ 6 114 rfl HS7 (.inl ⟨rfl, fun W hW => by obtain ⟨hW1, hW2⟩ := hW; go_simp; rfl⟩) ?_
      simp only [pS]
      refine takeQ 7 115 rfl HS7 (.inl ⟨rfl, fun W hW => by obtain ⟨hW1, hW2⟩ := hW; go_simp; rfl⟩) ?_
      simp only [pS]
      refine takeQ 8 116 rfl HS7 (.inl ⟨rfl, fun W hW => by obtain ⟨hW1, hW2⟩ := hW; go_simp; rfl⟩) ?_
      simp only [pS]
      refine takeQ 9 117 rfl HS7 (.inl ⟨rfl, fun W hW => by obtain ⟨hW1, hW2⟩ := hW; go_simp; rfl⟩) ?_
      simp only [pS]
      clear hw1
      refine stepQ 10 rfl (fun K HK => ?_)
      go_simp
      have bFb := bF7.alloc (.cells #[.int .i64 ((l.length : Int) + 1)] 3)
      have bBb := bB7.alloc (.cells #[.int .i64 ((l.length : Int) + 1)] 3)
      refine HK.out _ _ (fun _ => ⟨bFb.at3, bBb.at1⟩) ?_
      clear HK HS7
      try simp only [pS]
      refine stepQ 11 rfl (fun K HK => ?_)
      rw [if_pos (by rfl)]
      have nO : (Value.slice Ab (l.length + 1) cb).ownBlock ≠ some gF ∧ (Value.slice Ab (l.length + 1) cb).ownBlock ≠ some gB := ⟨fun e => (HG7d.out.apart gF (by rw [slice_block] at e; exact e)).2 rfl, fun e => (HG7d.out.apart gB (by rw [slice_block] at e; exact e)).1 rfl⟩
      have hz8 : w5.heap.size ≤ (wd.alloc (.cells #[.int .i64 ((l.length : Int) + 1)] 3)).heap.size := Nat.le_trans Hz7.out (by simp)
      refine oper_append_row (.tmp 114) (.tmp 118) 47 rfl w5.heap.size 3 _ 1 8 Tryz.underlying47 infoIntR rfl (by omega) Ab cb (l.length + 1) (ints (numsTo (l.length + 1))) rfl (own7.alloc _) wd.heap.size 1 1 3 [.int .i64 ((l.length : Int) + 1)] rfl (Blk.new _ _ _) rfl (by intro u hu; simp at hu; subst hu; rfl) (by unfold maxLen; omega) (by omega) hz8 ?_
      intro Ab2 cb2 w8 own8 hg8d hat8
      have hg8 : (wd.alloc (.cells #[.int .i64 ((l.length : Int) + 1)] 3)).grownBy w8 (Value.slice Ab (l.length + 1) cb).ownBlock := ⟨hg8d.os, hg8d.tape, hg8d.output, hg8d.size, hg8d.block⟩
      have bF8 := bFb.grown hg8 (Ne.symm nO.1)
      have bB8 := bBb.grown hg8 (Ne.symm nO.2)
      have HS8 : w8.cell? ⟨gF, 3, none⟩ = some (.slice (some ⟨gB, 0, none⟩) 1 1) ∧ w8.cell? ⟨gB, 1, none⟩ = some (.slice Ab (l.length + 1) cb) := ⟨bF8.at3, bB8.at1⟩
      obtain ⟨hG9, -, hB9⟩ := HG7d.out.num (w3 := w8) (A3 := Ab2) (c3 := cb2) ((l.length : Int) + 1) Hz7.out (by rw [numsTo_len]; exact own8) (by rw [numsTo_len]; exact hg8) (by rw [numsTo_len]; exact hat8)
      have hbx9 := hB9 HB7d.out (Nat.le_refl _)
      rw [numsTo_len] at hG9 hbx9
      rw [show numsTo (l.length + 1) ++ [((l.length : Int) + 1)] = numsTo (l.length + 1 + 1) from by rw [numsTo_succ (l.length + 1)]; congr 2] at hG9
      have HG9 := Lib.hid hG9
      have HB9 := Lib.hid hbx9
      refine HK.out _ _ (fun _ => HS8) ?_
      clear HK hG9 hbx9 hB9 own8 hg8 hg8d hat8 bFb bBb own7 nO hz8 HG7d HB7d bF7 bB7 lF7 lB7
      simp only [pS]
      have yf := bB8.frozen 1
      have yb := HS8.2
      have yl := bB8.lt
      refine stepQ 12 rfl (fun K HK => ?_)
      go_simp
      refine HK.out _ _ (fun _ => HS8) ?_
      clear HK
      try simp only [pS]
      refine takeQ 13 121 rfl HS8 (.inl ⟨rfl, fun W hW => by obtain ⟨hW1, hW2⟩ := hW; go_simp; rfl⟩) ?_
      simp only [pS]
      refine stepQ 14 rfl (fun K HK => ?_)
      clear HS8
      go_simp
      refine HK.out _ _ (fun h => by cases h) ?_
      clear HK
      refine wpAnyJ_done (by kernel_rfl) ?_ _
      clear bF8 bB8 yf yb yl Hz7
      have hb9 := Hb5.out.trans (HB9.out.mono Hw5.out)
      have HI10 := Lib.hid (HI5.out.below HB9.out)
      have HF := Lib.hid (show RdF _ _ A4 (some ⟨gB, 0, none⟩) none (rowFn l y) from HG9.out.rdf)
      have bF := HG9.out.fn
      have ownC := HG9.out.nds.own
      rw [rowsTo_len] at bF ownC
      have Hcap := Lib.hid (show l.length + 2 ≤ c4 from by
        rcases ownC.2 with ⟨_, h⟩ | ⟨g, cap, cur, h, _, _, h2, _⟩
        · omega
        · cases h
          omega)
      clear ownC
      clear HG9 HB9
      generalize w8.setCell ⟨gB, 1, none⟩ (.slice Ab2 (l.length + 1 + 1) cb2) = w10 at *
      have HC := Lib.hid (show ∀ n, ckF oneP oneVs (rowFn l y) = n → Calls Tryz.prog 14 #[.pointer (some ⟨gv, 0, none⟩), .agg #[.int .i64 0, .int .i64 0, .slice A4 (l.length + 1 + 1) c4, .slice (some ⟨gB, 0, none⟩) 1 1, .slice none 0 0]] w10 (CheckPost w10 a W.heap.size gv n) from fun n hnn => by
        have h1 := hz3.out
        have h2 := Hz5.out
        have h3 := hb9.size
        have h4 := hz5b.out
        have h5 := Hw5.out
        have h6 := row_len l y
        have hcap : (rowFn l y).nodes.length ≤ c4 := by
          rw [h6]
          exact Hcap.out
        have h := check_one (a := a) (B := B) (lo := W.heap.size) (cn := c4) 1 0 HI10.out (fun b h => by have := HSlo.out b h; omega) HF.out (fun b h => by omega) hcap (row_small l y hn) (HS.out.below hb9 hB) (by omega) hb9.size
        rw [hnn] at h
        simp only [fv, row_len] at h
        exact h)
      have f0 := bF.at0
      have f1 := bF.at1
      have f2 := bF.at2
      have f3 := bF.at3
      have f4 : w10.cell? ⟨gF, 4, none⟩ = some (.slice none 0 0) := bF.cell 4
      have lF := bF.lt
      have Hn := Lib.hid (show 1 ≤ (rowFn l y).blocks.length ∧ (rowFn l y).blocks.length ≤ 500 ∧ (rowFn l y).nodes.length ≤ 4000 ∧ (rowFn l y).states.length ≤ 4000 from ⟨by simp [rowFn], by simp [rowFn], by rw [row_len]; omega, by simp [rowFn]⟩)
      clear bF Hcap
      cases fb with
      | true =>
        have H0 := Lib.hid (HC.out 0 (ck_ok rfl rfl Hn.out ((row_core l y).2 (Hfb.out.1 rfl))))
        clear Hfb HC
        go_wp2_with fail
        refine H0.out.mono ?_
        rintro e w11 ⟨rfl, -, hg11⟩
        have hb11 := hb9.grown hg11 hb9.size (fun j hj => by cases hj; have := hz3.out; have := hz5b.out; omega)
        unfold errV
        go_wp2
        exact HP.out w11 hb11
      | false =>
        have H0 := Lib.hid (HC.out 12 (ck_no Hn.out (fun h => by have := Hfb.out.2 ((row_core l y).1 h); cases this)))
        clear Hfb HC
        go_wp2_with fail
        refine H0.out.mono ?_
        rintro e w11 ⟨rfl, -, hg11⟩
        have hb11 := hb9.grown hg11 hb9.size (fun j hj => by cases hj; have := hz3.out; have := hz5b.out; omega)
        have HIs := Lib.hid (is_any a B w11 (HS.out.below hb11 hB) (Nat.le_trans hB hb11.size) (k := 12) (by omega) 112)
        generalize errV a 12 = ve at *
        go_wp2_with fail
        refine HIs.out.mono ?_
        rintro e w12 ⟨rfl, hb12⟩
        have gT : decide (codeOf 12 = 112) = true := by decide
        rw [gT]
        clear gT
        have hb13 := hb11.trans (hb12.mono hb11.size)
        go_wp2
        exact HP.out w12 hb13
end Go.Proofs.YtjjmpfmhggcjiaaGreatDoor
