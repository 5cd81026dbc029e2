/-
  Ss5, Ss7.
-/
import Derived.Test.YtjjmpfmhggcjiaaGreatDoorJSs4
import Derived.Test.YtjjmpfmhggcjiaaGreatDoorJDom4
set_option linter.unusedSimpArgs false
set_option linter.unusedVariables false
namespace Go.Proofs.YtjjmpfmhggcjiaaGreatDoor
open Go.RowKit Go.Maps
noncomputable def abvB (E : Nat → Nat → Prop) (nB : Nat) (blk plc : List Int) (a n : Nat) : Bool := dec (if blk.getD a 0 = blk.getD n 0 then plc.getD a 0 < plc.getD n 0 else aboveP E nB (blk.getD a 0) (blk.getD n 0))
set_option maxRecDepth 100000 in
set_option maxHeartbeats 2000000 in
theorem chkAbove_any {E : Nat → Nat → Prop} {nB : Nat} {idm dep : List Int} (T : TreeOk E nB idm dep) (hn : nB ≤ 100000) {w : World} {gc gb gp gt gi gd N : Nat} {blk plc : List Int} (H : TreeAt w gt gi gd nB idm dep)
    (c8 : w.cell? ⟨gc, 8, none⟩ = some (.slice (some ⟨gb, 0, none⟩) N N)) (c9 : w.cell? ⟨gc, 9, none⟩ = some (.slice (some ⟨gp, 0, none⟩) N N)) (c10 : w.cell? ⟨gc, 10, none⟩ = some (.pointer (some ⟨gt, 0, none⟩)))
    (b1 : Blk w gb 3 ⟨ints blk⟩) (b2 : Blk w gp 3 ⟨ints plc⟩) (hl1 : blk.length = N) (hl2 : plc.length = N) (a n : Nat) (ha : a < N) (hnN : n < N) :
    Calls Tryz.prog 95 #[.pointer (some ⟨gc, 0, none⟩), .int .i64 a, .int .i64 n] w (AboveP w (abvB E nB blk plc a n)) := by
  have hPP : ∀ r q, abvB E nB blk plc a n = r → AboveP w (abvB E nB blk plc a n) (.returned (.bool r)) (w.drewN q) := fun r q e => ⟨q, by rw [e], rfl⟩
  have HP := Lib.hid hPP
  clear hPP
  generalize AboveP w (abvB E nB blk plc a n) = Post at *
  have x1 := ints_cell b1 (show a < blk.length by omega)
  have x2 := ints_cell b1 (show n < blk.length by omega)
  have z1 := ints_cell b2 (show a < plc.length by omega)
  have z2 := ints_cell b2 (show n < plc.length by omega)
  have hF : abvB E nB blk plc a n = dec (if blk.getD a 0 = blk.getD n 0 then plc.getD a 0 < plc.getD n 0 else aboveP E nB (blk.getD a 0) (blk.getD n 0)) := rfl
  have Hab := Lib.hid (fun q => above_any T hn (w := (w.drewN q).drew) (gt := gt) (gi := gi) (gd := gd) ⟨H.t1, H.t2, H.bi, H.bd⟩ (blk.getD a 0) (blk.getD n 0))
  generalize blk.getD a 0 = ba at *
  generalize blk.getD n 0 = bn at *
  generalize plc.getD a 0 = pa at *
  generalize plc.getD n 0 = pn at *
  have a0 : (0 : Int) ≤ a := by omega
  have a1 : (a : Int) < N := by omega
  have n0 : (0 : Int) ≤ n := by omega
  have n1 : (n : Int) < N := by omega
  clear H T b1 b2 hl1 hl2
  by_cases he : ba = bn
  · rw [if_pos he] at hF
    have g1 : (ba == bn) = true := by simpa using he
    by_cases hp : pa < pn
    · have HB := Lib.hid (hF.trans (dec_t hp))
      have g2 : decide (pa < pn) = true := by simpa using hp
      subst he
      clear hF hp g1
      have g1 : (ba == ba) = true := by simp
      go_enter Tryz.func95, Tryz.ntmps95
      go_wp2
      go_quiet (fail)
      rename Nat => q1
      go_wp2
      go_quiet (fail)
      rename Nat => q2
      go_wp2
      first | exact HP.out _ _ HB.out | (rw [World.drewN_drewN]; exact HP.out _ _ HB.out)
    · have HB := Lib.hid (hF.trans (dec_f hp))
      have g2 : decide (pa < pn) = false := by simpa using hp
      subst he
      clear hF hp g1
      go_enter Tryz.func95, Tryz.ntmps95
      go_wp2
      go_quiet (fail)
      rename Nat => q1
      go_wp2
      go_quiet (fail)
      rename Nat => q2
      go_wp2
      first | exact HP.out _ _ HB.out | (rw [World.drewN_drewN]; exact HP.out _ _ HB.out)
  · rw [if_neg he] at hF
    have g1 : (ba == bn) = false := by simpa using he
    have HB := Lib.hid (show abvB E nB blk plc a n = aboveB E nB ba bn from hF)
    clear hF he
    generalize aboveB E nB ba bn = ab at *
    go_enter Tryz.func95, Tryz.ntmps95
    go_wp2
    go_quiet (fail)
    rename Nat => q1
    go_wp2
    refine wpJ_start (S := fun W => W.cell? ⟨gc, 8, none⟩ = some (.slice (some ⟨gb, 0, none⟩) N N) ∧ W.cell? ⟨gc, 10, none⟩ = some (.pointer (some ⟨gt, 0, none⟩)) ∧ W.cell? ⟨gb, a, none⟩ = some (.int .i64 ba) ∧ W.cell? ⟨gb, n, none⟩ = some (.int .i64 bn)) (fun _ => true) (by kernel_rfl) ⟨c8, c10, x1, x2⟩ (fun HS => ?_)
    refine takeQ 0 37 rfl HS (.inl ⟨rfl, fun W hW => by obtain ⟨h8, h10, h1, h2⟩ := hW; go_simp; rfl⟩) ?_
    simp only [pS]
    refine takeQ 1 38 rfl HS (.inl ⟨rfl, fun W hW => by obtain ⟨h8, h10, h1, h2⟩ := hW; go_simp; rfl⟩) ?_
    simp only [pS]
    refine takeQ 2 39 rfl HS (.inl ⟨rfl, fun W hW => by obtain ⟨h8, h10, h1, h2⟩ := hW; go_simp; rfl⟩) ?_
    simp only [pS]
    refine takeQ 3 40 rfl HS (.inl ⟨rfl, fun W hW => by obtain ⟨h8, h10, h1, h2⟩ := hW; go_simp; rfl⟩) ?_
    simp only [pS]
    refine takeQ 4 41 rfl HS (.inl ⟨rfl, fun W hW => by obtain ⟨h8, h10, h1, h2⟩ := hW; go_simp; rfl⟩) ?_
    simp only [pS]
    refine takeQ 5 42 rfl HS (.inl ⟨rfl, fun W hW => by obtain ⟨h8, h10, h1, h2⟩ := hW; go_simp; rfl⟩) ?_
    simp only [pS]
    refine takeQ 6 43 rfl HS (.inl ⟨rfl, fun W hW => by obtain ⟨h8, h10, h1, h2⟩ := hW; go_simp; rfl⟩) ?_
    simp only [pS]
    refine takeQ 7 44 rfl HS (.inl ⟨rfl, fun W hW => by obtain ⟨h8, h10, h1, h2⟩ := hW; go_simp; rfl⟩) ?_
    simp only [pS]
    refine takeQ 8 45 rfl HS (.inl ⟨rfl, fun W hW => by obtain ⟨h8, h10, h1, h2⟩ := hW; go_simp; rfl⟩) ?_
    simp only [pS]
    refine takeQ 9 46 rfl HS (.inl ⟨rfl, fun W hW => by obtain ⟨h8, h10, h1, h2⟩ := hW; go_simp; rfl⟩) ?_
    simp only [pS]
    refine takeQ 10 47 rfl HS (.inl ⟨rfl, fun W hW => by obtain ⟨h8, h10, h1, h2⟩ := hW; go_simp; rfl⟩) ?_
    simp only [pS]
    refine takeQ 11 48 rfl HS (.inl ⟨rfl, fun W hW => by obtain ⟨h8, h10, h1, h2⟩ := hW; go_simp; rfl⟩) ?_
    simp only [pS]
    refine takeQ 12 49 rfl HS (.inl ⟨rfl, fun W hW => by obtain ⟨h8, h10, h1, h2⟩ := hW; go_simp; rfl⟩) ?_
    simp only [pS]
    refine takeQ 13 50 rfl HS (.inl ⟨rfl, fun W hW => by obtain ⟨h8, h10, h1, h2⟩ := hW; go_simp; rfl⟩) ?_
    simp only [pS]
    refine takeQ 14 51 rfl HS (.inl ⟨rfl, fun W hW => by obtain ⟨h8, h10, h1, h2⟩ := hW; go_simp; rfl⟩) ?_
    simp only [pS]
    refine takeQ 15 52 rfl HS (.inl ⟨rfl, fun W hW => by obtain ⟨h8, h10, h1, h2⟩ := hW; go_simp; rfl⟩) ?_
    simp only [pS]
    refine takeQ 16 53 rfl HS (.inl ⟨rfl, fun W hW => by obtain ⟨h8, h10, h1, h2⟩ := hW; go_simp; rfl⟩) ?_
    simp only [pS]
    refine takeQ 17 54 rfl HS (.inl ⟨rfl, fun W hW => by obtain ⟨h8, h10, h1, h2⟩ := hW; go_simp; rfl⟩) ?_
    simp only [pS]
    refine stepQ 18 rfl (fun K HK => ?_)
    go_simp
    refine (Hab.out _).mono ?_
    rintro e w9 ⟨qq, rfl, rfl⟩
    have HS9 : (((w.drewN q1).drew).drewN qq).cell? ⟨gc, 8, none⟩ = some (.slice (some ⟨gb, 0, none⟩) N N) ∧ (((w.drewN q1).drew).drewN qq).cell? ⟨gc, 10, none⟩ = some (.pointer (some ⟨gt, 0, none⟩)) ∧ (((w.drewN q1).drew).drewN qq).cell? ⟨gb, a, none⟩ = some (.int .i64 ba) ∧ (((w.drewN q1).drew).drewN qq).cell? ⟨gb, n, none⟩ = some (.int .i64 bn) := ⟨c8, c10, x1, x2⟩
    refine HK.out _ _ (fun _ => HS9) ?_
    clear HK
    try simp only [pS]
    refine takeQ 19 6 rfl HS9 (.inl ⟨rfl, fun W hW => by go_simp; rfl⟩) ?_
    simp only [pS]
    refine wpAnyJ_done (by kernel_rfl) ?_ _
    have hw : ((w.drewN q1).drew).drewN qq = w.drewN (q1 + 1 + qq) := by simp [World.drewN, World.drew, Nat.add_assoc]
    rw [hw]
    go_wp2
    exact HP.out _ _ HB.out
end Go.Proofs.YtjjmpfmhggcjiaaGreatDoor
namespace Go.Proofs.YtjjmpfmhggcjiaaGreatDoor
open Go.RowKit Go.Maps
/-- slices.Equal of numbers. -/
theorem equal_any {B B' : Nat} (A1 A2 : Option Addr) (c1 c2 : Nat) (l1 l2 : List Int) (w : World) (h1 : Rd w B 1 A1 l1.length (ints l1)) (h2 : Rd w B' 1 A2 l2.length (ints l2)) (hn : l1.length ≤ 1000000000) :
    Calls Tryz.prog 91 #[.slice A1 l1.length c1, .slice A2 l2.length c2] w fun e w' => e = .returned (.bool (decide (l1 = l2))) ∧ ∃ q, w' = w.drewN q := by
  by_cases hl : l1.length = l2.length
  · by_cases h0 : l1.length = 0
    · have e1 := List.eq_nil_of_length_eq_zero h0
      have e2 := List.eq_nil_of_length_eq_zero (l := l2) (by omega)
      subst e1 e2
      exact (Any.slices_Equal_int_empty lays111 A1 A2 c1 0 c2 w (by omega)).mono fun e w' ⟨h1, h2⟩ => ⟨h1, 0, h2⟩
    · obtain ⟨b1, o1, rfl, _, y1⟩ := h1.2 (by omega)
      obtain ⟨b2, o2, rfl, _, y2⟩ := h2.2 (by omega)
      refine (Any.slices_Equal_int lays111 b1 o1 l1.length c1 b2 o2 l2.length c2 l1 l2 w (Nat.le_refl _) (Nat.le_refl _) (by omega) (by omega) (fun j hj => y1 j _ (by simp [ints, hj])) (fun j hj => y2 j _ (by simp [ints, hj]))).mono fun e w' ⟨h1, h2⟩ => ⟨?_, h2⟩
      rw [h1, List.take_length, List.take_length]
      congr 2
      rw [Bool.eq_iff_iff]
      simp
  · refine (Any.slices_Equal_int_lens lays111 A1 A2 l1.length c1 l2.length c2 w hl).mono fun e w' ⟨h1, h2⟩ => ⟨?_, 0, h2⟩
    rw [h1, decide_eq_false (fun e => hl (by rw [e]))]
theorem equal_eq {B B' : Nat} {A1 A2 : Option Addr} {c1 c2 : Nat} {l1 l2 : List Int} {b : Bool} (hb : decide (l1 = l2) = b) (w : World) (h1 : Rd w B 1 A1 l1.length (ints l1)) (h2 : Rd w B' 1 A2 l2.length (ints l2)) (hn : l1.length ≤ 1000000000) :
    Calls Tryz.prog 91 #[.slice A1 l1.length c1, .slice A2 l2.length c2] w fun e w' => e = .returned (.bool b) ∧ ∃ q, w' = w.drewN q := by subst hb; exact equal_any A1 A2 c1 c2 l1 l2 w h1 h2 hn
theorem ChkAt.kb {w w' : World} {S : Nat → Prop} {gc gv : Nat} {p : Prg} {vs : List Vs} {f : Fn} {Ac Am An Ab As : Option Addr} {cc cm cn cb cs : Nat} {bv qv tv lv dv : Value} (h : ChkAt w S gc gv p vs f Ac cc Am cm An cn Ab cb As cs bv qv tv lv dv) (hk : KB (fun b => S b ∨ b = gv ∨ b = gc) w w') (hz : w.heap.size ≤ w'.heap.size) : ChkAt w' S gc gv p vs f Ac cc Am cm An cn Ab cb As cs bv qv tv lv dv := by
  have hk' : Kept S w w' := (hk.sub (fun b hb => .inl hb)).kept
  exact ⟨h.blk.kb hk (.inr (.inr rfl)), h.prg.keep hk', h.fn.keep hk', h.inf.kb (hk.sub (fun b hb => hb.elim .inl (fun h => .inr (.inl h)))) hz, fun b hs => ⟨Nat.lt_of_lt_of_le (h.lt b hs).1 hz, (h.lt b hs).2⟩, ⟨Nat.lt_of_lt_of_le h.gv.1 hz, h.gv.2⟩, h.cap⟩
/-- The tree is put. -/
theorem ChkAt.tree {w : World} {S : Nat → Prop} {gc gv : Nat} {p : Prg} {vs : List Vs} {f : Fn} {Ac Am An Ab As : Option Addr} {cc cm cn cb cs : Nat} {bv qv tv lv dv : Value} (h : ChkAt w S gc gv p vs f Ac cc Am cm An cn Ab cb As cs bv qv tv lv dv) (v : Value) : ChkAt (w.setCell ⟨gc, 10, none⟩ v) S gc gv p vs f Ac cc Am cm An cn Ab cb As cs bv qv v lv dv := by
  have hk : KB (fun b => S b ∨ b = gv) w (w.setCell ⟨gc, 10, none⟩ v) := (KB.refl _ w).set (by
    show ¬ (S gc ∨ gc = gv)
    rintro (hs | e)
    · exact (h.lt gc hs).2.1 rfl
    · exact h.gv.2 e.symm) v
  have hk' : Kept S w (w.setCell ⟨gc, 10, none⟩ v) := (hk.sub (fun b hb => .inl hb)).kept
  have b := h.blk.set_ 10 v
  simp only [List.setIfInBounds_toArray, List.set_cons_zero, List.set_cons_succ] at b
  exact ⟨b, h.prg.keep hk', h.fn.keep hk', h.inf.kb hk (by simp), fun b hs => ⟨by simpa using (h.lt b hs).1, (h.lt b hs).2⟩, ⟨by simpa using h.gv.1, h.gv.2⟩, h.cap⟩
theorem TreeAt.kb {w w' : World} {gt gi gd n : Nat} {idm dep : List Int} {S : Nat → Prop} (h : TreeAt w gt gi gd n idm dep) (hk : KB S w w') (h1 : S gt) (h2 : S gi) (h3 : S gd) : TreeAt w' gt gi gd n idm dep :=
  ⟨(World.cell?_of_block (hk gt h1)).trans h.t1, (World.cell?_of_block (hk gt h1)).trans h.t2, h.bi.kb hk h2, h.bd.kb hk h3⟩
theorem TreeAt.drewN {w : World} {gt gi gd n : Nat} {idm dep : List Int} (h : TreeAt w gt gi gd n idm dep) (q : Nat) : TreeAt (w.drewN q) gt gi gd n idm dep := ⟨h.t1, h.t2, h.bi, h.bd⟩
theorem dm0 {E : Nat → Nat → Prop} {k : Nat} (h : Reach E k) : Dm E 0 k := by
  refine ⟨h, fun a => ?_⟩
  clear h
  induction a with
  | zero h => exact h rfl
  | step _ _ _ ih => exact ih
theorem above_zero {E : Nat → Nat → Prop} {n k : Nat} (hk : k < n) : aboveB E n 0 k = true ↔ Reach E k := by
  constructor
  · intro h
    have := (dec_p h).2.1.2.2
    simpa using this
  · intro h
    exact dec_t ⟨⟨by omega, by omega, .zero⟩, ⟨by omega, by omega, by simpa using h⟩, by simpa using dm0 h⟩
theorem own_rd {w : World} {base : Nat} {e : TypeId} {size n c : Nat} {A : Option Addr} {xs : List Value} (h : w.ownsRow base e size (.slice A n c) n xs) : Rd w w.heap.size size A n xs := by
  obtain ⟨A', c', hv, hr⟩ := Rd.of_own h
  cases hv
  exact hr
/-- What stands once the blocks may be. -/
structure BlocksR (w w' : World) (S : Nat → Prop) (gc gv : Nat) (p : Prg) (vs : List Vs) (f : Fn) (lv dv : Value) (gb gp gt gi gd : Nat) (blk plc idm dep : List Int) : Prop where
  chk : Chk w' S gc gv p vs f (.slice (some ⟨gb, 0, none⟩) f.nodes.length f.nodes.length) (.slice (some ⟨gp, 0, none⟩) f.nodes.length f.nodes.length) (.pointer (some ⟨gt, 0, none⟩)) lv dv
  bb : Blk w' gb 3 ⟨ints blk⟩
  bp : Blk w' gp 3 ⟨ints plc⟩
  tree : TreeAt w' gt gi gd f.blocks.length idm dep
  ok : TreeOk (EI (grF f)) f.blocks.length idm dep
  new : w.heap.size ≤ gb ∧ w.heap.size ≤ gp ∧ w.heap.size ≤ gt ∧ w.heap.size ≤ gi ∧ w.heap.size ≤ gd
def BlocksPost (w : World) (S : Nat → Prop) (gc gv : Nat) (p : Prg) (vs : List Vs) (f : Fn) (lv dv : Value) (e : Ending) (w' : World) : Prop :=
  w.grownBy w' (some gc) ∧ ((e = .returned (.bool false) ∧ ¬ (standOk f ∧ BlocksOk f)) ∨ (e = .returned (.bool true) ∧ BlocksOk f ∧ ∃ gb gp gt gi gd blk plc idm dep, Stands f blk plc ∧ BlocksR w w' S gc gv p vs f lv dv gb gp gt gi gd blk plc idm dep))
/-- The rows of those that go on at each block, block B's first i edges among them. -/
def pdsL (f : Fn) (B i : Nat) : List (List Int) := (List.range f.blocks.length).map (pdsAt f B i)
section
variable {f : Fn} {B i s : Nat}
theorem pdsL_len : (pdsL f B i).length = f.blocks.length := by simp [pdsL]
theorem pdsL_get (hs : s < f.blocks.length) : (pdsL f B i)[s]? = some (pdsAt f B i s) := by simp [pdsL, hs]
theorem pdsL_zero : pdsL f 0 0 = List.replicate f.blocks.length [] := by
  apply List.ext_getElem?
  intro k
  by_cases hk : k < f.blocks.length
  · rw [pdsL_get hk, pdsAt_zero, pdsTo_zero]; simp [hk]
  · rw [List.getElem?_eq_none (by rw [pdsL_len]; omega), List.getElem?_eq_none (by simp; omega)]
theorem pdsL_row (hi : (bkAt f B).succ.length ≤ i) : pdsL f B i = pdsL f (B + 1) 0 := by
  unfold pdsL
  refine List.map_congr_left fun s _ => ?_
  rw [pdsAt_zero, pdsTo_next]
  unfold pdsAt
  rw [List.take_of_length_le hi, List.take_length]
theorem pdsL_step {k : Int} (hk : (bkAt f B).succ[i]? = some k) (h0 : 0 ≤ k) (h1 : k < f.blocks.length) (hn : k ∉ (bkAt f B).succ.take i) : pdsL f B (i + 1) = (pdsL f B i).set k.toNat (pdsAt f B i k.toNat ++ [(B : Int)]) := by
  apply List.ext_getElem?
  intro j
  by_cases hj : j < f.blocks.length
  · by_cases e : k.toNat = j
    · subst e
      rw [List.getElem?_set_self (by rw [pdsL_len]; exact hj), pdsL_get hj, pdsAt_same hk (by omega) hn]
    · rw [List.getElem?_set_ne e, pdsL_get hj, pdsL_get hj, pdsAt_other hk (by omega)]
  · rw [List.getElem?_eq_none (by rw [pdsL_len]; omega), List.getElem?_eq_none (by rw [List.length_set, pdsL_len]; omega)]
theorem pdsAt_len : (pdsAt f B i s).length ≤ B + 1 := by
  unfold pdsAt
  rw [List.length_append]
  have h1 : (pdsTo f B s).length ≤ B := by
    unfold pdsTo
    have := List.length_filter_le (fun b => decide ((s : Int) ∈ (bkAt f b).succ)) (List.range B)
    simpa using this
  split
  · simpa using h1
  · simpa using Nat.le_succ_of_le h1
end
/-- The state of the loops of blocks. -/
structure BlkSt (w w1 wr : World) (gc gq : Nat) (hs : List (Option Addr × Nat)) (ls : List (List Int)) : Prop where
  q : Blk wr gq 47 ⟨hdrs hs ls⟩
  m : OwnMat wr (gq + 1) 3 hs ls
  k : KB (fun x => x < gq) w1 wr
  z : gq + 1 ≤ wr.heap.size
  g : w.grownBy wr (some gc)
theorem grown_more {w w1 w2 : World} {row row2 : Option Nat} (h : w.grownBy w1 row) (h2 : w1.grownBy w2 row2) (hr : ∀ x, row2 = some x → w.heap.size ≤ x) : w.grownBy w2 row :=
  ⟨h2.os.trans h.os, h2.tape.trans h.tape, h2.output.trans h.output, Nat.le_trans h.size h2.size, fun k hk hne => (h2.block k (Nat.lt_of_lt_of_le hk h.size) (fun e => by have := hr k e.symm; omega)).trans (h.block k hk hne)⟩
section
variable {w w1 wr w3 : World} {gc gq : Nat} {hs : List (Option Addr × Nat)} {ls : List (List Int)}
theorem BlkSt.alloc (h : BlkSt w w1 wr gc gq hs ls) (o : Obj) : BlkSt w w1 (wr.alloc o) gc gq hs ls :=
  ⟨h.q.alloc o, h.m.alloc o, h.k.alloc (fun x hx => by have := h.z; omega) o, by have := h.z; simp; omega, h.g.trans (World.grownBy_alloc wr o (some gc))⟩
theorem BlkSt.drewN (h : BlkSt w w1 wr gc gq hs ls) (n : Nat) : BlkSt w w1 (wr.drewN n) gc gq hs ls :=
  ⟨h.q, h.m.below (below_drewN (Below.refl _ _) n) (Nat.le_refl _), h.k, h.z, grownN h.g n⟩
/-- What lies ahead of these rows is as it was. -/
theorem BlkSt.kept {wa wb : World} {hs' : List (Option Addr × Nat)} {ls' : List (List Int)} {S : Nat → Prop} (h1 : BlkSt w w1 wa gc gq hs ls) (h2 : BlkSt w w1 wb gc gq hs' ls') (hS : ∀ b, S b → b < gq) : Kept S wa wb := fun p hp => World.cell?_of_block ((h2.k p.block (hS _ hp)).trans (h1.k p.block (hS _ hp)).symm)
/-- A row has grown by one, and its header is put. -/
theorem BlkSt.put (h : BlkSt w w1 wr gc gq hs ls) {k : Nat} {A A' : Option Addr} {c c' n : Nat} {l l' : List Int} {xs : List Value} (hk : hs[k]? = some (A, c)) (hl : ls[k]? = some l) (hown : w3.ownsRow (gq + 1) 3 1 (.slice A' n c') n xs) (hn : n = l'.length) (hx : xs = ints l')
    (hg3 : wr.grownBy w3 (Value.slice A l.length c).ownBlock) (hat : (Value.slice A' n c').ownBlock = (Value.slice A l.length c).ownBlock ∨ (Value.slice A' n c').ownBlock = some wr.heap.size) (hwq : w.heap.size ≤ gq) :
    BlkSt w w1 (w3.setCell ⟨gq, k, none⟩ (.slice A' n c')) gc gq (hs.set k (A', c')) (ls.set k l') ∧ Blk w3 gq 47 ⟨hdrs hs ls⟩ := by
  have hkl : k < ls.length := (List.getElem?_eq_some_iff.1 hl).1
  have hold := h.m.own k _ _ hk hl
  have hne : ∀ x, (Value.slice A l.length c).ownBlock = some x → gq < x := fun x hx => by
    have := (hold.lt x (by rw [hdr_block]; cases A <;> first | exact hx | simp [Value.ownBlock] at hx)).1
    omega
  have q3 := h.q.grown hg3 (fun e => by have := hne gq e.symm; omega)
  have m3 := h.m.grown hk hkl hown hn hx hg3 hat
  have z3 := hg3.size
  have z := h.z
  refine ⟨⟨?_, ?_, ?_, ?_, ?_⟩, q3⟩
  · subst hn
    exact hdrs_blk_put q3 k A' c' rfl
  · exact m3.far (grown_setCell _ _ _) (by show gq < gq + 1; omega)
  · exact (h.k.grown hg3 (fun b hb => by omega) (fun b hb e => by have := hne b e.symm; omega)).set (by show ¬ gq < gq; omega) _
  · simp; omega
  · exact grown_new (grown_more h.g hg3 (fun x hx => by have := hne x hx; omega)) (p := ⟨gq, k, none⟩) hwq _
end
end Go.Proofs.YtjjmpfmhggcjiaaGreatDoor
