/-
 Lw9, Lw10.
-/
import Derived.Test.YtjjmpfmhggcjiaaGreatDoorJLw8
import Derived.Test.YtjjmpfmhggcjiaaGreatDoorJSnLaw
set_option linter.unusedSimpArgs false
set_option linter.unusedVariables false
namespace Go.Proofs.YtjjmpfmhggcjiaaGreatDoor
open Go.RowKit Go.Maps
theorem low7 (n : Int) : ∃ m : Nat, m ≤ 7 ∧ bits .and .i64 n 7 = (m : Int) := by
 have h : ((BitVec.ofInt 64 n) &&& (BitVec.ofInt 64 7)).toNat ≤ 7 := by
  rw [BitVec.toNat_and]
  exact Nat.le_trans Nat.and_le_right (by decide)
 refine ⟨_, h, ?_⟩
 show IntKind.i64.wrap ((((BitVec.ofInt 64 n) &&& (BitVec.ofInt 64 7)).toNat : Nat) : Int) = _
 rw [IntKind.wrap_i64]
 omega
def nodesTo (n i : Nat) : List Nd := if i = 0 then [] else (List.range (i + 1)).map (manyNd n false)
def blocksTo (n i : Nat) : List Bk := (List.range i).map (manyBk n false)
def nodesA (n i : Nat) : List Nd := if i = 0 then [manyNd n false 0] else nodesTo n i
def bodyA (i : Nat) : List Int := if i = 0 then [0] else []
def predsA (i : Nat) : List Int := if i = 0 then [] else [(i : Int) - 1]
def succA (n i : Nat) : List Int := if i + 1 < n then [(i : Int) + 1] else []
theorem nodesTo_len (n i : Nat) (h : 0 < i) : (nodesTo n i).length = i + 1 := by
 unfold nodesTo
 rw [if_neg (by omega)]
 simp
theorem blocksTo_len (n i : Nat) : (blocksTo n i).length = i := by simp [blocksTo]
theorem nodesTo_succ (n i : Nat) (h : 0 < i) : nodesTo n (i + 1) = nodesTo n i ++ [manyNd n false (i + 1)] := by
 unfold nodesTo
 rw [if_neg (by omega), if_neg (by omega), List.range_succ, List.map_append]
 rfl
theorem blocksTo_succ (n i : Nat) : blocksTo n (i + 1) = blocksTo n i ++ [manyBk n false i] := by simp [blocksTo, List.range_succ]
theorem nodesA_len (n i : Nat) : (nodesA n i).length = i + 1 := by
 unfold nodesA
 split
 · rename_i h; subst h; rfl
 · exact nodesTo_len n i (by omega)
theorem nodesA_snoc (n i : Nat) : nodesA n i ++ [manyNd n false (i + 1)] = nodesTo n (i + 1) := by
 unfold nodesA
 split
 · rename_i h; subst h; rfl
 · rw [nodesTo_succ n i (by omega)]
theorem many_jump {n i : Nat} (h : i + 1 < n) : manyNd n false (i + 1) = ⟨45, 0, 0, -1, sE, 0, []⟩ := by
 unfold manyNd
 rw [if_neg (by omega), if_neg (by simp; omega)]
theorem many_last {n i : Nat} (h : i + 1 = n) : manyNd n false (i + 1) = ⟨47, 0, 0, -1, sE, 0, [0]⟩ := by
 unfold manyNd
 rw [if_neg (by omega), if_pos (.inl h)]
theorem many_block {n i : Nat} (h : i < n) : blocksTo n i ++ [⟨[], bodyA i ++ [(i : Int) + 1], succA n i, predsA i⟩] = blocksTo n (i + 1) := by
 rw [blocksTo_succ]
 congr 2
 unfold manyBk bodyA succA predsA
 congr 1
 · by_cases h0 : i = 0
   · subst h0; rfl
   · rw [if_neg h0, if_neg h0]
     simp
 · by_cases h0 : i + 1 < n
   · rw [if_pos h0, if_neg (by simp; omega)]
     simp
   · rw [if_neg h0, if_pos (.inl (by omega))]
 · by_cases h0 : i = 0
   · rw [if_pos h0, if_pos (.inl h0)]
   · rw [if_neg h0, if_neg (by simp [h0])]
     congr 1
     omega
theorem many_all {n : Nat} (h : 0 < n) : (⟨0, 0, nodesTo n n, blocksTo n n, []⟩ : Fn) = manyFn n false := by
 unfold nodesTo blocksTo manyFn
 rw [if_neg (by omega)]
/-- The row written anew at one place. -/
theorem map_set {α : Type} (f f' : Nat → α) (m k : Nat) (hk : k < m) (he : ∀ i, i < m → i ≠ k → f' i = f i) : (List.range m).map f' = ((List.range m).map f).set k (f' k) := by
 apply List.ext_getElem?
 intro i
 by_cases e : k = i
 · subst e
   rw [List.getElem?_set_self (by simpa using hk)]
   simp [hk]
 · rw [List.getElem?_set_ne e]
   by_cases hi : i < m
   · simp [hi, he i hi (fun h => e h.symm)]
   · simp [hi]
def cutBs (n : Nat) : List Bk := ((blocksTo n n).set (n - 2) ⟨[], [(n : Int) - 1], [], [(n : Int) - 3]⟩).set (n - 1) ⟨[], [(n : Int)], [], []⟩
def cutNs (n : Nat) : List Nd := (nodesTo n n).set (n - 1) ⟨47, 0, 0, -1, sE, 0, [0]⟩
theorem many_cutNs {n : Nat} (h : 3 ≤ n) : cutNs n = (List.range (n + 1)).map (manyNd n true) := by
 have e : manyNd n true (n - 1) = ⟨47, 0, 0, -1, sE, 0, [0]⟩ := by
  unfold manyNd
  rw [if_neg (by omega), if_pos (.inr ⟨rfl, by omega⟩)]
 unfold cutNs nodesTo
 rw [if_neg (by omega), ← e]
 refine (map_set (manyNd n false) (manyNd n true) (n + 1) (n - 1) (by omega) (fun i hi hne => ?_)).symm
 unfold manyNd
 by_cases h0 : i = 0
 · rw [if_pos h0, if_pos h0]
 · rw [if_neg h0, if_neg h0]
   by_cases h1 : i = n
   · rw [if_pos (.inl h1), if_pos (.inl h1)]
   · rw [if_neg (by simp [h1]; omega), if_neg (by simp [h1])]
theorem many_cutBs {n : Nat} (h : 3 ≤ n) : cutBs n = (List.range n).map (manyBk n true) := by
 have e1 : manyBk n true (n - 1) = ⟨[], [(n : Int)], [], []⟩ := by
  unfold manyBk
  rw [if_neg (by omega), if_pos (.inl (by omega)), if_pos (.inr ⟨rfl, by omega⟩), show n - 1 + 1 = n by omega]
 have e2 : manyBk n true (n - 2) = ⟨[], [(n : Int) - 1], [], [(n : Int) - 3]⟩ := by
  unfold manyBk
  rw [if_neg (by omega), if_pos (.inr ⟨rfl, by omega⟩), if_neg (by omega)]
  congr 2
  · omega
  · congr 1; omega
 have key : (List.range n).map (manyBk n true) = ((List.range n).map (fun i => if i = n - 1 then manyBk n false i else manyBk n true i)).set (n - 1) (manyBk n true (n - 1)) := by
  refine map_set _ (manyBk n true) n (n - 1) (by omega) (fun i hi hne => ?_)
  show _ = if i = n - 1 then _ else _
  rw [if_neg hne]
 have key2 : (List.range n).map (fun i => if i = n - 1 then manyBk n false i else manyBk n true i) = ((List.range n).map (manyBk n false)).set (n - 2) (manyBk n true (n - 2)) := by
  have h3 := map_set (manyBk n false) (fun i => if i = n - 1 then manyBk n false i else manyBk n true i) n (n - 2) (by omega) (fun i hi hne => by
   show (if i = n - 1 then _ else _) = _
   by_cases h5 : i = n - 1
   · rw [if_pos h5]
   · rw [if_neg h5]
     unfold manyBk
     congr 1
     · by_cases h6 : i + 1 = n
       · omega
       · rw [if_neg (by simp [h6]; omega), if_neg (by simp [h6])]
     · by_cases h6 : i = 0
       · rw [if_pos (.inl h6), if_pos (.inl h6)]
       · rw [if_neg (by simp [h6]; omega), if_neg (by simp [h6])])
  rw [h3]
  congr 1
  show (if n - 2 = n - 1 then _ else _) = _
  rw [if_neg (by omega)]
 unfold cutBs blocksTo
 rw [key, key2, e1, e2]
theorem many_cutF {n : Nat} (h : 3 ≤ n) : (⟨0, 0, cutNs n, cutBs n, []⟩ : Fn) = manyFn n true := by
 rw [many_cutNs h, many_cutBs h]
 rfl
theorem many_small {n : Nat} (cut : Bool) : Small (manyFn n cut) := by
 refine ⟨fun b hb => ?_, fun i hi => ?_, fun i hi => ?_, fun i hi => ?_⟩
 · rw [many_lb] at hb
   rw [many_bk hb]
   unfold manyBk allN
   refine ⟨?_, ?_, ?_⟩
   · simp only [List.nil_append]; split <;> simp
   · simp only []; split <;> simp
   · simp only []; split <;> simp
 · rw [many_ln] at hi
   rw [many_nd hi]
   unfold manyNd
   split
   · exact ⟨by show sI.size ≤ 1000000; decide, by simp⟩
   · split
     · exact ⟨by show sE.size ≤ 1000000; decide, by simp⟩
     · exact ⟨by show sE.size ≤ 1000000; decide, by simp⟩
 · rw [many_ln] at hi
   rw [many_nd hi]
   unfold manyNd
   split
   · rfl
   · split <;> rfl
 · rw [many_ln] at hi
   rw [many_nd hi]
   unfold manyNd
   split
   · simp [FewOp]
   · split <;> simp [FewOp]
theorem many_sizeTo {n : Nat} : ∀ k, k ≤ n → sizeTo (manyFn n false) k = if k = 0 then 0 else k + 1
 | 0, _ => rfl
 | k + 1, h => by
   rw [sizeTo_next (by rw [many_lb]; omega), many_sizeTo k (by omega)]
   rw [show (manyFn n false).blocks.getD k default = manyBk n false k from many_bk (by omega)]
   unfold manyBk
   by_cases h0 : k = 0
   · subst h0
     simp
   · simp [h0]
theorem many_size {n : Nat} (h : 0 < n) : sizeF (manyFn n false) = n + 1 := by
 unfold sizeF
 rw [many_lb, many_sizeTo n (Nat.le_refl _), if_neg (by omega)]
theorem many_sizes {n : Nat} (hn : n ≤ 503) : ∀ k, k ≤ (manyFn n false).blocks.length → sizeTo (manyFn n false) k ≤ 100000000 := by
 intro k hk
 rw [many_lb] at hk
 rw [many_sizeTo k hk]
 split <;> omega
theorem many_g0 {n : Nat} (h : 2 ≤ n) : (grF (manyFn n false)).getD 0 [] = [1] := by
 have e : (grF (manyFn n false))[0]? = some ((manyFn n false).blocks.getD 0 default).succ := gr_at (by rw [many_lb]; omega)
 rw [List.getD_eq_getElem?_getD, e]
 show ((manyFn n false).blocks.getD 0 default).succ = _
 rw [show (manyFn n false).blocks.getD 0 default = manyBk n false 0 from many_bk (by omega)]
 unfold manyBk
 simp only []
 rw [if_neg (by simp; omega)]
 rfl
theorem many_succ1 {n : Nat} : ∀ b, b < (manyFn n false).blocks.length → (bkAt (manyFn n false) b).succ.length ≤ 1000000 := fun b hb => (many_small (n := n) false).rows b hb |>.2.1
theorem ck_many {f : Fn} (h : 500 < f.blocks.length) : ckF oneP oneVs f = 1 := by
 unfold ckF
 rw [if_pos (.inr (.inl h))]
/-- A row of cells, parted where one thing stands. -/
theorem cells_part {α : Type} (s : Shape α) {l : List α} {hs : List s.H} (hl : hs.length = l.length) {k : Nat} {x : α} {h : s.H} (e1 : l[k]? = some x) (e2 : hs[k]? = some h) :
 ∃ pre post, pre.length = k * s.size ∧ s.cells l hs = pre ++ (s.cell x h ++ post) ∧ ∀ x' h', s.cells (l.set k x') (hs.set k h') = pre ++ (s.cell x' h' ++ post) := by
 induction k generalizing l hs with
 | zero =>
   match l, hs, hl, e1, e2 with
   | y :: l, g :: hs, hl, e1, e2 =>
     simp at e1 e2
     subst e1 e2
     exact ⟨[], s.cells l hs, by simp, by simp [Shape.cells], fun x' h' => by simp [Shape.cells]⟩
 | succ k ih =>
   match l, hs, hl, e1, e2 with
   | y :: l, g :: hs, hl, e1, e2 =>
     obtain ⟨pre, post, h1, h2, h3⟩ := ih (l := l) (hs := hs) (by simpa using hl) (by simpa using e1) (by simpa using e2)
     refine ⟨s.cell y g ++ pre, post, by simp [h1, s.len, Nat.succ_mul, Nat.add_comm], ?_, fun x' h' => ?_⟩
     · have e : s.cells (y :: l) (g :: hs) = s.cell y g ++ s.cells l hs := by simp [Shape.cells]
       rw [e, h2]
       simp
     · have e : s.cells ((y :: l).set (k + 1) x') ((g :: hs).set (k + 1) h') = s.cell y g ++ s.cells (l.set k x') (hs.set k h') := by simp [Shape.cells]
       rw [e, h3]
       simp
theorem own_put {w : World} {base g size n c : Nat} {e : TypeId} {xs : List Value} (h : w.ownsRow base e size (.slice (some ⟨g, 0, none⟩) n c) n xs) {k : Nat} (u : Value) : (w.setCell ⟨g, k, none⟩ u).ownsRow base e size (.slice (some ⟨g, 0, none⟩) n c) n (xs.set k u) := by
 have hl := h.1
 refine ⟨by simpa using hl, ?_⟩
 rcases h.2 with ⟨hv, _⟩ | ⟨g', cap, cur, hv, h1, h2, h3, h4, h5, h6⟩
 · cases hv
 · cases hv
   refine .inr ⟨g, c, cur.setIfInBounds k u, rfl, h1, ?_, h3, h4, by simpa using h5, ?_⟩
   · simp [World.setCell, Array.getElem?_modify, h2]
   · rw [← h6]
     simp [List.take_set]
section
variable {α : Type} {s : Shape α} {T : TypeId} {wr w' : World} {z g : Nat} {X : Nat → Prop} {l : List α} {hs : List s.H} {c : Nat}
/-- A thing written anew. -/
theorem SRow.put (R : SRow s T wr z X l hs (some ⟨g, 0, none⟩) c) {k : Nat} (x : α) (h : s.H) (own3 : w'.ownsRow z T s.size (.slice (some ⟨g, 0, none⟩) l.length c) l.length (s.cells (l.set k x) (hs.set k h)))
 (hin : s.inner (fun b => z ≤ b ∧ b < wr.heap.size ∧ ¬ X b ∧ (some (⟨g, 0, none⟩ : Addr)).map (·.block) ≠ some b) wr x h) (hk : KB (fun b => z ≤ b ∧ b < wr.heap.size ∧ b ≠ g) wr w') (hz : wr.heap.size ≤ w'.heap.size) :
 SRow s T w' z X (l.set k x) (hs.set k h) (some ⟨g, 0, none⟩) c := by
 have mv : ∀ {x h}, s.inner (fun b => z ≤ b ∧ b < wr.heap.size ∧ ¬ X b ∧ (some (⟨g, 0, none⟩ : Addr)).map (·.block) ≠ some b) wr x h → s.inner (fun b => z ≤ b ∧ b < w'.heap.size ∧ ¬ X b ∧ (some (⟨g, 0, none⟩ : Addr)).map (·.block) ≠ some b) w' x h := fun h =>
  s.more (s.keep h (hk.kept.sub (fun b hb => ⟨hb.1, hb.2.1, fun e => hb.2.2.2 (by subst e; rfl)⟩))) (fun b hb => ⟨hb.1, by omega, hb.2.2⟩)
 refine ⟨by simp [R.len], own_cast own3 (by simp) rfl, fun j y hy e1 e2 => ?_, R.out⟩
 by_cases e : k = j
 · subst e
   have hlt : k < l.length := by
    have := (List.getElem?_eq_some_iff.1 e1).1
    simpa using this
   rw [List.getElem?_set_self hlt] at e1
   rw [List.getElem?_set_self (by rw [R.len]; exact hlt)] at e2
   cases e1; cases e2
   exact mv hin
 · rw [List.getElem?_set_ne e] at e1 e2
   exact mv (R.inn j y hy e1 e2)
end
/-- A row of one argument, made beside. -/
theorem Mid.args {w : World} {z gF gB m cn cb cB sc pc : Nat} {An Ab Bb sA pA : Option Addr} {ns : List Nd} {bs : List Bk} {hn : List (Option Addr × Nat)} {hb : List H4} {body succ preds : List Int} {pl : List Nat}
 (M : Mid w z gF gB m ns bs cn cb An Ab hn hb body succ preds Bb cB sA pA sc pc pl) (v : Int) :
 Mid (w.alloc (.cells #[.int .i64 v] 3)) z gF gB m ns bs cn cb An Ab hn hb body succ preds Bb cB sA pA sc pc pl ∧
  ∀ op : Int, ndShape.inner (fun b => z ≤ b ∧ b < (w.alloc (.cells #[.int .i64 v] 3)).heap.size ∧ ¬ X3 gF (fun b => b ∈ pl) Ab b ∧ An.map (·.block) ≠ some b) (w.alloc (.cells #[.int .i64 v] 3)) ⟨op, 0, 0, -1, sE, 0, [v]⟩ (some ⟨w.heap.size, 0, none⟩, 1) := by
 have lF := M.many.fn.lt
 have zF := M.many.zF
 refine ⟨M.keep ((KB.refl _ _).alloc (fun b hb => hb.2) _) (by simp), fun op => ?_⟩
 refine blk_rds (Blk.new w 3 #[.int .i64 v]) rfl ⟨by omega, by simp, fun e => ?_, fun e => ?_⟩
 · rcases e with e | e | e
   · omega
   · have := (M.many.bks.own.lt w.heap.size (by rw [slice_block]; exact e)).2
     omega
   · have := (M.rng _ e).2
     omega
 · have := (M.many.nds.own.lt w.heap.size (by rw [slice_block]; exact e)).2
   omega
end Go.Proofs.YtjjmpfmhggcjiaaGreatDoor
namespace Go.Proofs.YtjjmpfmhggcjiaaGreatDoor
open Go.RowKit Go.Maps
theorem set_mid {pre m post : List Value} {p i : Nat} (h : pre.length = p) (hi : i < m.length) (u : Value) : (pre ++ (m ++ post)).set (p + i) u = pre ++ (m.set i u ++ post) := by
 subst h
 rw [List.set_append_right _ _ (by omega), show pre.length + i - pre.length = i by omega, List.set_append_left _ _ hi]
theorem SRow.at0 {α : Type} {s : Shape α} {T : TypeId} {w : World} {z : Nat} {X : Nat → Prop} {l : List α} {hs : List s.H} {A : Option Addr} {c : Nat} (R : SRow s T w z X l hs A c) (h : 0 < l.length) : ∃ g, A = some ⟨g, 0, none⟩ := by
 rcases R.own.2 with ⟨_, h0⟩ | ⟨g, cap, cur, hv, _⟩
 · omega
 · cases hv
   exact ⟨g, rfl⟩
theorem SRow.soft {α : Type} {s : Shape α} {T : TypeId} {w : World} {z g : Nat} {X : Nat → Prop} {l : List α} {hs : List s.H} {c : Nat} (R : SRow s T w z X l hs (some ⟨g, 0, none⟩) c) : (∀ i, w.frozen? ⟨g, i, none⟩ = false) ∧ g < w.heap.size := by
 rcases R.own.2 with ⟨hv, _⟩ | ⟨g', cap, cur, hv, h1, h2, _⟩
 · cases hv
 · cases hv
   exact ⟨fun i => Lib.frozen_of_heap h2 i, (Array.getElem?_eq_some_iff.1 h2).1⟩
theorem SRow.cells7 {w : World} {z g : Nat} {X : Nat → Prop} {l : List Nd} {hs : List (Option Addr × Nat)} {c : Nat} (R : SRow ndShape 59 w z X l hs (some ⟨g, 0, none⟩) c) {k : Nat} (hk : k < l.length) :
 (∃ v, w.cell? ⟨g, k * 7, none⟩ = some v) ∧ (∃ v, w.cell? ⟨g, k * 7 + 1, none⟩ = some v) ∧ (∃ v, w.cell? ⟨g, k * 7 + 2, none⟩ = some v) ∧ (∃ v, w.cell? ⟨g, k * 7 + 3, none⟩ = some v) ∧ (∃ v, w.cell? ⟨g, k * 7 + 4, none⟩ = some v) ∧ (∃ v, w.cell? ⟨g, k * 7 + 5, none⟩ = some v) ∧ (∃ v, w.cell? ⟨g, k * 7 + 6, none⟩ = some v) := by
 obtain ⟨b, off, A1, c1, hA, -, x0, x1, x2, x3, x4, x5, x6, -⟩ := rd_nd R.rd hk
 cases hA
 simp only [Nat.zero_add] at x0 x1 x2 x3 x4 x5 x6
 exact ⟨⟨_, x0⟩, ⟨_, x1⟩, ⟨_, x2⟩, ⟨_, x3⟩, ⟨_, x4⟩, ⟨_, x5⟩, ⟨_, x6⟩⟩
theorem Many.cut_body {w : World} {z gF gA n cn cb : Nat} {P : Nat → Prop} {An : Option Addr} {hn : List (Option Addr × Nat)} {hb : List H4} (M : Many w z gF P (manyFn n false).nodes (manyFn n false).blocks cn cb An (some ⟨gA, 0, none⟩) hn hb) (h : 3 ≤ n) :
 ∃ P2 d2, w.cell? ⟨gA, (n - 2) * 4 + 1, none⟩ = some (.slice P2 1 d2) ∧ ∃ b o, P2 = some ⟨b, o, none⟩ ∧ w.cell? ⟨b, o, none⟩ = some (.int .i64 ((n : Int) - 1)) := by
 obtain ⟨b, off, P1, d1, P2, d2, P3, d3, P4, d4, hAb, -, y0, y1, y2, y3, -, rB, -, -⟩ := rd_bk M.bks.rd (k := n - 2) (by rw [many_lb]; omega)
 cases hAb
 have e : (manyFn n false).blocks.getD (n - 2) default = manyBk n false (n - 2) := many_bk (by omega)
 have e2 : (manyBk n false (n - 2)).body = [(n : Int) - 1] := by
  unfold manyBk
  simp only []
  rw [if_neg (by omega)]
  congr 1
  omega
 rw [e, e2] at y1 rB
 simp only [Nat.zero_add] at y1
 obtain ⟨b2, o2, rfl, -, hc⟩ := rB.2 (by simp)
 exact ⟨_, d2, y1, b2, o2, rfl, hc 0 _ rfl⟩
section
variable {w w' : World} {z gF gA cn cb : Nat} {An Ab : Option Addr} {ns : List Nd} {bs : List Bk} {hn : List (Option Addr × Nat)} {hb : List H4}
/-- A row of a block is dropped. -/
theorem Many.putB (M : Many w z gF (fun _ => False) ns bs cn cb An (some ⟨gA, 0, none⟩) hn hb) {k i : Nat} {x x' : Bk} {h h' : bkShape.H} (e1 : bs[k]? = some x) (e2 : hb[k]? = some h) (hi : i < 4) (u : Value) (hc : (bkShape.cell x h).set i u = bkShape.cell x' h') (hin : ∀ S w, bkShape.inner S w x h → bkShape.inner S w x' h') :
 Many (w.setCell ⟨gA, k * 4 + i, none⟩ u) z gF (fun _ => False) ns (bs.set k x') cn cb An (some ⟨gA, 0, none⟩) hn (hb.set k h') ∧ z ≤ gA := by
 have hl := M.bks.len
 have zA := (M.bks.own.lt gA (by rw [slice_block]; rfl)).1
 have nA := M.bks.out gA rfl
 obtain ⟨pre, post, p1, p2, p3⟩ := cells_part bkShape hl e1 e2
 have own := own_put M.bks.own (k := k * 4 + i) u
 rw [p2, set_mid (p := k * 4) (show pre.length = k * 4 from p1) (show i < (bkShape.cell x h).length from hi), hc, ← p3] at own
 refine ⟨⟨?_, ?_, ?_, M.zF, M.pF⟩, zA⟩
 · have := M.fn.far (p := ⟨gA, k * 4 + i, none⟩) (fun e => nA (.inl e.symm)) u
   rw [List.length_set]
   exact this
 · exact M.nds.move ((KB.refl _ _).set (p := ⟨gA, k * 4 + i, none⟩) (fun h => h.2.2 (.inr (.inl rfl))) _) (by simp) (fun _ _ h => h)
 · exact M.bks.put x' h' own (hin _ _ (M.bks.inn k x h e1 e2)) ((KB.refl _ _).set (p := ⟨gA, k * 4 + i, none⟩) (fun h => h.2.2 rfl) _) (by simp)
end
abbrev set7 (w : World) (g k : Nat) (x : Nd) (h : Option Addr × Nat) : World := ((((((w.setCell ⟨g, k * 7, none⟩ (.int .i64 x.op)).setCell ⟨g, k * 7 + 1, none⟩ (.int .i64 x.a)).setCell ⟨g, k * 7 + 2, none⟩ (.int .i64 x.b)).setCell ⟨g, k * 7 + 3, none⟩ (.int .i64 x.st)).setCell ⟨g, k * 7 + 4, none⟩ (.string x.kind)).setCell ⟨g, k * 7 + 5, none⟩ (.int .i64 x.n)).setCell ⟨g, k * 7 + 6, none⟩ (.slice h.1 x.args.length h.2)
section
variable {w w' : World} {z gF gN cn cb : Nat} {Ab : Option Addr} {ns : List Nd} {bs : List Bk} {hn : List (Option Addr × Nat)} {hb : List H4}
/-- A node written anew. -/
theorem Many.putN (M : Many w z gF (fun _ => False) ns bs cn cb (some ⟨gN, 0, none⟩) Ab hn hb) {k : Nat} (hk : k < ns.length) (x : Nd) (h : ndShape.H)
 (hin : ndShape.inner (fun b => z ≤ b ∧ b < w.heap.size ∧ ¬ X3 gF (fun _ => False) Ab b ∧ (some (⟨gN, 0, none⟩ : Addr)).map (·.block) ≠ some b) w x h) :
 Many (set7 w gN k x h) z gF (fun _ => False) (ns.set k x) bs cn cb (some ⟨gN, 0, none⟩) Ab (hn.set k h) hb ∧ z ≤ gN := by
 have hl : hn.length = ns.length := M.nds.len
 have zA := (M.nds.own.lt gN (by rw [slice_block]; rfl)).1
 have nA := M.nds.out gN rfl
 obtain ⟨x0, e1⟩ : ∃ x0, ns[k]? = some x0 := ⟨_, List.getElem?_eq_getElem hk⟩
 obtain ⟨h0, e2⟩ : ∃ h0, hn[k]? = some h0 := ⟨_, List.getElem?_eq_getElem (by omega)⟩
 obtain ⟨pre, post, p1, p2, p3⟩ := cells_part ndShape hl e1 e2
 have p1 : pre.length = k * 7 := p1
 have own := M.nds.own
 rw [p2] at own
 generalize hm : ndShape.cell x0 h0 = m at own
 have hm7 : m.length = 7 := by rw [← hm]; rfl
 replace own := own_put own (k := k * 7 + 0) (.int .i64 x.op)
 rw [set_mid (p := k * 7) p1 (by simp [hm7])] at own
 replace own := own_put own (k := k * 7 + 1) (.int .i64 x.a)
 rw [set_mid (p := k * 7) p1 (by simp [hm7])] at own
 replace own := own_put own (k := k * 7 + 2) (.int .i64 x.b)
 rw [set_mid (p := k * 7) p1 (by simp [hm7])] at own
 replace own := own_put own (k := k * 7 + 3) (.int .i64 x.st)
 rw [set_mid (p := k * 7) p1 (by simp [hm7])] at own
 replace own := own_put own (k := k * 7 + 4) (.string x.kind)
 rw [set_mid (p := k * 7) p1 (by simp [hm7])] at own
 replace own := own_put own (k := k * 7 + 5) (.int .i64 x.n)
 rw [set_mid (p := k * 7) p1 (by simp [hm7])] at own
 replace own := own_put own (k := k * 7 + 6) (.slice h.1 x.args.length h.2)
 rw [set_mid (p := k * 7) p1 (by simp [hm7])] at own
 have e7 : (((((((m.set 0 (.int .i64 x.op)).set 1 (.int .i64 x.a)).set 2 (.int .i64 x.b)).set 3 (.int .i64 x.st)).set 4 (.string x.kind)).set 5 (.int .i64 x.n)).set 6 (.slice h.1 x.args.length h.2)) = ndShape.cell x h := by
  match m, hm7 with
  | [a0, a1, a2, a3, a4, a5, a6], _ => rfl
 rw [e7, ← p3] at own
 have kb : ∀ {S : Nat → Prop}, (∀ b, S b → b ≠ gN) → KB S w (set7 w gN k x h) := fun hS =>
  (((((((KB.refl _ _).set (p := ⟨gN, k * 7, none⟩) (fun hb => hS _ hb rfl) _).set (p := ⟨gN, k * 7 + 1, none⟩) (fun hb => hS _ hb rfl) _).set (p := ⟨gN, k * 7 + 2, none⟩) (fun hb => hS _ hb rfl) _).set (p := ⟨gN, k * 7 + 3, none⟩) (fun hb => hS _ hb rfl) _).set (p := ⟨gN, k * 7 + 4, none⟩) (fun hb => hS _ hb rfl) _).set (p := ⟨gN, k * 7 + 5, none⟩) (fun hb => hS _ hb rfl) _).set (p := ⟨gN, k * 7 + 6, none⟩) (fun hb => hS _ hb rfl) _
 have hz : w.heap.size ≤ (set7 w gN k x h).heap.size := by simp
 refine ⟨⟨?_, ?_, ?_, M.zF, M.pF⟩, zA⟩
 · have := M.fn.kb (kb (S := fun b => b = gF) (fun b hb e => nA (.inl (by rw [← e]; exact hb)))) rfl
   rw [List.length_set]
   exact this
 · exact M.nds.put x h own hin (kb (fun b hb => hb.2.2)) hz
 · exact M.bks.move (kb (fun b hb e => hb.2.2 (.inr (.inl (by rw [e]; rfl))))) hz (fun _ _ h => h)
end
theorem SRow.cells4 {w : World} {z g : Nat} {X : Nat → Prop} {l : List Bk} {hs : List H4} {c : Nat} (R : SRow bkShape 61 w z X l hs (some ⟨g, 0, none⟩) c) {k : Nat} (hk : k < l.length) :
 (∃ v, w.cell? ⟨g, k * 4 + 2, none⟩ = some v) ∧ (∃ v, w.cell? ⟨g, k * 4 + 3, none⟩ = some v) := by
 obtain ⟨b, off, A1, c1, A2, c2, A3, c3, A4, c4, hA, -, x0, x1, x2, x3, -, -, -, -⟩ := rd_bk R.rd hk
 cases hA
 simp only [Nat.zero_add] at x0 x1 x2 x3
 exact ⟨⟨_, x2⟩, ⟨_, x3⟩⟩
theorem set7_alloc {w : World} {g : Nat} (hg : g < w.heap.size) (k : Nat) (x : Nd) (h : Option Addr × Nat) (O : Obj) : set7 (w.alloc O) g k x h = (set7 w g k x h).alloc O := by
 unfold set7
 rw [World.setCell_alloc_past _ _ _ _ hg, World.setCell_alloc_past _ _ _ _ (by simpa using hg), World.setCell_alloc_past _ _ _ _ (by simpa using hg), World.setCell_alloc_past _ _ _ _ (by simpa using hg), World.setCell_alloc_past _ _ _ _ (by simpa using hg), World.setCell_alloc_past _ _ _ _ (by simpa using hg), World.setCell_alloc_past _ _ _ _ (by simpa using hg)]
/-- A Return in a node's place, with a row of its own. -/
theorem Many.cutN {w : World} {z gF gN cn cb k : Nat} {Ab : Option Addr} {ns : List Nd} {bs : List Bk} {hn : List (Option Addr × Nat)} {hb : List H4} (M : Many w z gF (fun _ => False) ns bs cn cb (some ⟨gN, 0, none⟩) Ab hn hb) (hk : k < ns.length) :
 (∃ hn', Many ((set7 w gN k ⟨47, 0, 0, -1, sE, 0, [0]⟩ (some ⟨w.heap.size, 0, none⟩, 1)).alloc (.cells #[.int .i64 0] 3)) z gF (fun _ => False) (ns.set k ⟨47, 0, 0, -1, sE, 0, [0]⟩) bs cn cb (some ⟨gN, 0, none⟩) Ab hn' hb) ∧
  ∀ {B : Nat} {w0 : World}, Below B w0 w → B ≤ z → Below B w0 ((set7 w gN k ⟨47, 0, 0, -1, sE, 0, [0]⟩ (some ⟨w.heap.size, 0, none⟩, 1)).alloc (.cells #[.int .i64 0] 3)) := by
 have lF := M.fn.lt
 have zF := M.zF
 have zA := M.nds.own.lt gN (by rw [slice_block]; rfl)
 have M1 := M.move (w' := w.alloc (.cells #[.int .i64 0] 3)) (P' := fun _ => False) ((KB.refl _ _).alloc (fun b hb => hb.2.1) _) (by simp) (fun _ _ h => h)
 obtain ⟨M2, z2⟩ := M1.putN hk ⟨47, 0, 0, -1, sE, 0, [0]⟩ (some ⟨w.heap.size, 0, none⟩, 1) (blk_rds (Blk.new w 3 #[.int .i64 0]) rfl ⟨by omega, by simp, fun e => by
  rcases e with e | e | e
  · omega
  · have := (M.bks.own.lt w.heap.size (by rw [slice_block]; exact e)).2
    omega
  · exact e, fun e => by
  have := Option.some.inj e
  have := zA.2
  simp at *
  omega⟩)
 rw [set7_alloc zA.2] at M2
 refine ⟨⟨_, M2⟩, fun hb hB => ?_⟩
 have hsz := hb.size
 refine Below.alloc ?_ (by simp; omega) _
 exact ((((((hb.setCell (p := ⟨gN, k * 7, none⟩) (Nat.le_trans hB zA.1) _).setCell (p := ⟨gN, k * 7 + 1, none⟩) (Nat.le_trans hB zA.1) _).setCell (p := ⟨gN, k * 7 + 2, none⟩) (Nat.le_trans hB zA.1) _).setCell (p := ⟨gN, k * 7 + 3, none⟩) (Nat.le_trans hB zA.1) _).setCell (p := ⟨gN, k * 7 + 4, none⟩) (Nat.le_trans hB zA.1) _).setCell (p := ⟨gN, k * 7 + 5, none⟩) (Nat.le_trans hB zA.1) _).setCell (p := ⟨gN, k * 7 + 6, none⟩) (Nat.le_trans hB zA.1) _
theorem Many.cutB {w : World} {z gF gA cn cb k i : Nat} {An : Option Addr} {ns : List Nd} {bs : List Bk} {hn : List (Option Addr × Nat)} {hb : List H4} (M : Many w z gF (fun _ => False) ns bs cn cb An (some ⟨gA, 0, none⟩) hn hb) {x x' : Bk} (e1 : bs[k]? = some x) (hi : i = 2 ∧ x' = { x with succ := [] } ∨ i = 3 ∧ x' = { x with preds := [] }) :
 (∃ hb', Many (w.setCell ⟨gA, k * 4 + i, none⟩ (.slice none 0 0)) z gF (fun _ => False) ns (bs.set k x') cn cb An (some ⟨gA, 0, none⟩) hn hb') ∧ ∀ {B : Nat} {w0 : World}, Below B w0 w → B ≤ z → Below B w0 (w.setCell ⟨gA, k * 4 + i, none⟩ (.slice none 0 0)) := by
 have hl : hb.length = bs.length := M.bks.len
 have hk := (List.getElem?_eq_some_iff.1 e1).1
 obtain ⟨h, e2⟩ : ∃ h, hb[k]? = some h := ⟨_, List.getElem?_eq_getElem (by omega)⟩
 have key : ∃ h' : H4, (bkShape.cell x h).set i (.slice none 0 0) = bkShape.cell x' h' ∧ ∀ S w, bkShape.inner S w x h → bkShape.inner S w x' h' := by
  rcases hi with ⟨rfl, rfl⟩ | ⟨rfl, rfl⟩
  · exact ⟨⟨h.h1, h.h2, (none, 0), h.h4⟩, rfl, fun S w h => ⟨h.1, h.2.1, RdS.nil _ _ _ _, h.2.2.2⟩⟩
  · exact ⟨⟨h.h1, h.h2, h.h3, (none, 0)⟩, rfl, fun S w h => ⟨h.1, h.2.1, h.2.2.1, RdS.nil _ _ _ _⟩⟩
 obtain ⟨h', k1, k2⟩ := key
 obtain ⟨M2, zA⟩ := M.putB e1 e2 (by omega) _ k1 k2
 exact ⟨⟨_, M2⟩, fun hb hB => hb.setCell (p := ⟨gA, k * 4 + i, none⟩) (Nat.le_trans hB zA) _⟩
theorem many_b2 {n : Nat} (h : 3 ≤ n) : (manyFn n false).blocks[n - 2]? = some ⟨[], [(n : Int) - 1], [(n : Int) - 1], [(n : Int) - 3]⟩ := by
 have e : n - 2 < n := by omega
 unfold manyFn
 simp only [List.getElem?_map, List.getElem?_range e, Option.map_some]
 unfold manyBk
 rw [if_neg (by omega), if_neg (by simp; omega), if_neg (by simp; omega), show ((n - 2 + 1 : Nat) : Int) = (n : Int) - 1 by omega, show ((n - 2 - 1 : Nat) : Int) = (n : Int) - 3 by omega]
theorem many_b1 {n : Nat} (h : 3 ≤ n) : (manyFn n false).blocks[n - 1]? = some ⟨[], [(n : Int)], [], [(n : Int) - 2]⟩ := by
 have e : n - 1 < n := by omega
 unfold manyFn
 simp only [List.getElem?_map, List.getElem?_range e, Option.map_some]
 unfold manyBk
 rw [if_neg (by omega), if_pos (by simp; omega), if_neg (by simp; omega), show ((n - 1 + 1 : Nat) : Int) = (n : Int) by omega, show ((n - 1 - 1 : Nat) : Int) = (n : Int) - 2 by omega]
theorem many_cut_all {n : Nat} (h : 3 ≤ n) : (manyFn n false).nodes.set (n - 1) ⟨47, 0, 0, -1, sE, 0, [0]⟩ = (manyFn n true).nodes ∧ ((manyFn n false).blocks.set (n - 2) ⟨[], [(n : Int) - 1], [], [(n : Int) - 3]⟩).set (n - 1) ⟨[], [(n : Int)], [], []⟩ = (manyFn n true).blocks := by
 have e := many_all (n := n) (by omega)
 rw [← show nodesTo n n = (manyFn n false).nodes from congrArg Fn.nodes e, ← show blocksTo n n = (manyFn n false).blocks from congrArg Fn.blocks e]
 have e2 := many_cutF h
 exact ⟨congrArg Fn.nodes e2, congrArg Fn.blocks e2⟩
end Go.Proofs.YtjjmpfmhggcjiaaGreatDoor
