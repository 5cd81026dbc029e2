/-
 Ss3.
-/
import Derived.Test.YtjjmpfmhggcjiaaGreatDoorJSs2
import Derived.Test.YtjjmpfmhggcjiaaGreatDoorJConcat
set_option linter.unusedSimpArgs false
set_option linter.unusedVariables false
namespace Go.Proofs.YtjjmpfmhggcjiaaGreatDoor
open Go.RowKit Go.Maps
theorem rdl_two {W : World} {g : Nat} {T : TypeId} {A1 A2 : Option Addr} {c1 c2 : Nat} {l1 l2 : List Int} {S S' : Nat → Prop} (hG : Blk W g T ⟨[.slice A1 l1.length c1, .slice A2 l2.length c2]⟩) (r1 : RdS W S 1 A1 l1.length (ints l1)) (r2 : RdS W S 1 A2 l2.length (ints l2)) (hS : ∀ b, S b → S' b) (hg : S' g) : RdL rowShape W S' (some ⟨g, 0, none⟩) [l1, l2] := by
 refine ⟨[(A1, c1), (A2, c2)], rfl, ⟨rfl, fun _ => ⟨g, 0, rfl, hg, fun j u hu => ?_⟩⟩, fun k l h e1 e2 => ?_⟩
 · rw [Nat.zero_add, hG.cell]
   simpa [Shape.cells, rowShape] using hu
 · match k with
   | 0 => cases e1; cases e2; exact r1.more hS
   | 1 => cases e1; cases e2; exact r2.more hS
   | k + 2 => simp at e1
structure StandR (w w' : World) (S : Nat → Prop) (gc gv : Nat) (p : Prg) (vs : List Vs) (f : Fn) (tv lv dv : Value) (gb gp : Nat) (blk plc : List Int) : Prop where
 chk : Chk w' S gc gv p vs f (.slice (some ⟨gb, 0, none⟩) f.nodes.length f.nodes.length) (.slice (some ⟨gp, 0, none⟩) f.nodes.length f.nodes.length) tv lv dv
 bb : Blk w' gb 3 ⟨ints blk⟩
 bp : Blk w' gp 3 ⟨ints plc⟩
 lb : w.heap.size ≤ gb
 lp : w.heap.size ≤ gp
 ne : gb ≠ gp
def StandPost (w : World) (S : Nat → Prop) (gc gv : Nat) (p : Prg) (vs : List Vs) (f : Fn) (tv lv dv : Value) (e : Ending) (w' : World) : Prop :=
 w.grownBy w' (some gc) ∧ ((e = .returned (.bool false) ∧ ¬ standOk f) ∨ (e = .returned (.bool true) ∧ ∃ gb gp blk plc, Stands f blk plc ∧ StandR w w' S gc gv p vs f tv lv dv gb gp blk plc))
set_option maxRecDepth 100000 in
set_option maxHeartbeats 8000000 in
theorem stand_any {w : World} {S : Nat → Prop} {gc gv : Nat} {p : Prg} {vs : List Vs} {f : Fn} {bv qv tv lv dv : Value} (hC : Chk w S gc gv p vs f bv qv tv lv dv) (hN : f.nodes.length ≤ 4000) (hB : f.blocks.length ≤ 500) (hrow : ∀ b, b < f.blocks.length → (allN (bkAt f b)).length ≤ 1000000) :
 Calls Tryz.prog 88 #[.pointer (some ⟨gc, 0, none⟩)] w (StandPost w S gc gv p vs f tv lv dv) := by
 obtain ⟨Ac, cc, Am, cm, An, cn, Ab, cb, As, cs, hC⟩ := hC
 have bC := hC.blk
 have c5 : w.cell? ⟨gc, 5, none⟩ = some (.slice An f.nodes.length cn) := bC.cell 5
 have hm2 := fun W => run_make_row' (P := Tryz.prog) 47 3 (.int .i64 0) 8 Tryz.underlying47 infoIntR rfl .i64 .i64 f.nodes.length (by omega) (by omega) W
 rw [made_ints] at hm2
 go_enter Tryz.func88, Tryz.ntmps88
 go_upto_region 1 with (fail)
 have hgw2 := hC.blk.lt
 go_cut [] from 8 to 27 (fun wx => ∃ gb gp, Blk wx gc 112 #[.pointer (some ⟨gv, 0, none⟩), .slice Ac p.classes.length cc, .slice Am p.methods.length cm, .int .i64 f.mth, .int .i64 f.entry, .slice An f.nodes.length cn, .slice Ab f.blocks.length cb, .slice As f.states.length cs, .slice (some ⟨gb, 0, none⟩) f.nodes.length f.nodes.length, .slice (some ⟨gp, 0, none⟩) f.nodes.length f.nodes.length, tv, lv, dv] ∧ Blk wx gb 3 ⟨ints (List.replicate f.nodes.length 0)⟩ ∧ Blk wx gp 3 ⟨ints (List.replicate f.nodes.length 0)⟩ ∧ w.heap.size ≤ gb ∧ w.heap.size ≤ gp ∧ gb ≠ gp ∧ w.grownBy wx (some gc))
 case first =>
  refine wpJ_start (S := fun W => W.cell? ⟨gc, 5, none⟩ = some (.slice An f.nodes.length cn)) (fun _ => true) (by kernel_rfl) c5 (fun HS => ?_)
  have bCw := bC
  have hgw : w.grownBy w (some gc) := ⟨rfl, rfl, rfl, Nat.le_refl _, fun _ _ _ => rfl⟩
  refine takeQ 0 8 rfl HS (.inl ⟨rfl, fun W hW => by have h5 := hW; go_simp; rfl⟩) ?_
  simp only [pS]
  refine takeQ 1 9 rfl HS (.inl ⟨rfl, fun W hW => by have h5 := hW; go_simp; rfl⟩) ?_
  simp only [pS]
  refine takeQ 2 10 rfl HS (.inl ⟨rfl, fun W hW => by have h5 := hW; go_simp; rfl⟩) ?_
  simp only [pS]
  refine takeQ 3 11 rfl HS (.inl ⟨rfl, fun W hW => by have h5 := hW; go_simp; rfl⟩) ?_
  simp only [pS]
  refine takeQ 4 12 rfl HS (.inl ⟨rfl, fun W hW => by have h5 := hW; go_simp; rfl⟩) ?_
  simp only [pS]
  refine takeQ 5 13 rfl HS (.inl ⟨rfl, fun W hW => by have h5 := hW; go_simp; rfl⟩) ?_
  simp only [pS]
  refine takeQ 6 14 rfl HS (.inl ⟨rfl, fun W hW => by have h5 := hW; go_simp; rfl⟩) ?_
  simp only [pS]
  refine takeQ 7 15 rfl HS (.inl ⟨rfl, fun W hW => by have h5 := hW; go_simp; rfl⟩) ?_
  simp only [pS]
  refine takeQ 9 17 rfl HS (.inl ⟨rfl, fun W hW => by have h5 := hW; go_simp; rfl⟩) ?_
  simp only [pS]
  refine takeQ 10 18 rfl HS (.inl ⟨rfl, fun W hW => by have h5 := hW; go_simp; rfl⟩) ?_
  simp only [pS]
  refine takeQ 11 19 rfl HS (.inl ⟨rfl, fun W hW => by have h5 := hW; go_simp; rfl⟩) ?_
  simp only [pS]
  refine takeQ 12 20 rfl HS (.inl ⟨rfl, fun W hW => by have h5 := hW; go_simp; rfl⟩) ?_
  simp only [pS]
  refine takeQ 13 21 rfl HS (.inl ⟨rfl, fun W hW => by have h5 := hW; go_simp; rfl⟩) ?_
  simp only [pS]
  refine takeQ 14 22 rfl HS (.inl ⟨rfl, fun W hW => by have h5 := hW; go_simp; rfl⟩) ?_
  simp only [pS]
  clear HS
  refine twoH 8 15 (by kernel_rfl) (by kernel_rfl) (by kernel_rfl) (fun oi h K hK => ?_) (fun oi h K hK => ?_)
  · -- the first make first
    simp only [List.getElem?_toArray, List.getElem?_cons_zero, List.getElem?_cons_succ, Option.some.injEq] at h
    subst h
    have HK := Lib.hid hK
    clear hK
    go_simp
    have b_gb := Blk.new w 3 ⟨ints (List.replicate f.nodes.length 0)⟩
    have bCwA := bCw.alloc (.cells ⟨ints (List.replicate f.nodes.length 0)⟩ 3)
    have hgwA := hgw.trans (World.grownBy_alloc w (.cells ⟨ints (List.replicate f.nodes.length 0)⟩ 3) (some gc))
    have hszwA := hgw.size
    have HSwA : World.cell? (w.alloc (.cells ⟨ints (List.replicate f.nodes.length 0)⟩ 3)) ⟨gc, 5, none⟩ = some (.slice An f.nodes.length cn) := bCwA.cell 5
    refine HK.out _ _ (fun _ => HSwA) ?_
    clear HK
    obtain ⟨gb, e_gb⟩ : ∃ gb, gb = w.heap.size := ⟨_, rfl⟩
    rw [← e_gb] at b_gb ⊢
    have lw_gb : w.heap.size ≤ gb := by omega
    clear e_gb hszwA bCw hgw
    generalize w.alloc (.cells ⟨ints (List.replicate f.nodes.length 0)⟩ 3) = wA at *
    try simp only [pS]
    refine takeQ 16 24 rfl HSwA (.inl ⟨rfl, fun W hW => by go_simp; rfl⟩) ?_
    simp only [pS]
    refine takeQ 17 25 rfl HSwA (.inl ⟨rfl, fun W hW => by go_simp; rfl⟩) ?_
    simp only [pS]
    have y18 : wA.cell? ⟨gc, 8, none⟩ = some bv := bCwA.cell 8
    have f18 := bCwA.frozen 8
    have lc18 := bCwA.lt
    refine twoH 15 18 (by kernel_rfl) (by kernel_rfl) (by kernel_rfl) (fun oi h K hK => ?_) (fun oi h K hK => ?_)
    · -- the second one next
      simp only [List.getElem?_toArray, List.getElem?_cons_zero, List.getElem?_cons_succ, Option.some.injEq] at h
      subst h
      have HK := Lib.hid hK
      clear hK
      clear y18 f18 lc18
      go_simp
      have b_gp := Blk.new wA 3 ⟨ints (List.replicate f.nodes.length 0)⟩
      have bCwB := bCwA.alloc (.cells ⟨ints (List.replicate f.nodes.length 0)⟩ 3)
      have b_gb2 := b_gb.alloc (.cells ⟨ints (List.replicate f.nodes.length 0)⟩ 3)
      have l_gb2 := b_gb.lt
      have hgwB := hgwA.trans (World.grownBy_alloc wA (.cells ⟨ints (List.replicate f.nodes.length 0)⟩ 3) (some gc))
      have hszwB := hgwA.size
      have HSwB : World.cell? (wA.alloc (.cells ⟨ints (List.replicate f.nodes.length 0)⟩ 3)) ⟨gc, 5, none⟩ = some (.slice An f.nodes.length cn) := bCwB.cell 5
      refine HK.out _ _ (fun _ => HSwB) ?_
      clear HK
      obtain ⟨gp, e_gp⟩ : ∃ gp, gp = wA.heap.size := ⟨_, rfl⟩
      rw [← e_gp] at b_gp ⊢
      have lw_gp : w.heap.size ≤ gp := by omega
      have ne_gb_gp : gb ≠ gp := by omega
      clear b_gb l_gb2
      have b_gb := b_gb2
      clear b_gb2
      clear e_gp hszwB bCwA hgwA
      generalize wA.alloc (.cells ⟨ints (List.replicate f.nodes.length 0)⟩ 3) = wB at *
      try simp only [pS]
      have y18 : wB.cell? ⟨gc, 8, none⟩ = some (bv) := bCwB.cell 8
      have f18 := bCwB.frozen 8
      have lc18 := bCwB.lt
      refine stepQ 18 rfl (fun K HK => ?_)
      go_simp
      have bCwC := bCwB.set_ 8 (.slice (some ⟨gb, 0, none⟩) f.nodes.length f.nodes.length)
      simp only [List.setIfInBounds_toArray, List.set_cons_zero, List.set_cons_succ] at bCwC
      have b_gb2 := b_gb.far (p := ⟨gc, 8, none⟩) (by show gb ≠ gc; omega) (.slice (some ⟨gb, 0, none⟩) f.nodes.length f.nodes.length)
      clear b_gb
      have b_gb := b_gb2
      clear b_gb2
      have b_gp2 := b_gp.far (p := ⟨gc, 8, none⟩) (by show gp ≠ gc; omega) (.slice (some ⟨gb, 0, none⟩) f.nodes.length f.nodes.length)
      clear b_gp
      have b_gp := b_gp2
      clear b_gp2
      have hgwC := hgwB.trans (grown_setCell wB ⟨gc, 8, none⟩ (.slice (some ⟨gb, 0, none⟩) f.nodes.length f.nodes.length))
      have HSwC : World.cell? (wB.setCell ⟨gc, 8, none⟩ (.slice (some ⟨gb, 0, none⟩) f.nodes.length f.nodes.length)) ⟨gc, 5, none⟩ = some (.slice An f.nodes.length cn) := bCwC.cell 5
      refine HK.out _ _ (fun _ => HSwC) ?_
      clear HK y18 f18 lc18 bCwB hgwB
      generalize wB.setCell ⟨gc, 8, none⟩ (.slice (some ⟨gb, 0, none⟩) f.nodes.length f.nodes.length) = wC at *
      try simp only [pS]
      refine takeQ 19 26 rfl HSwC (.inl ⟨rfl, fun W hW => by go_simp; rfl⟩) ?_
      simp only [pS]
      refine takeQ 20 27 rfl HSwC (.inl ⟨rfl, fun W hW => by go_simp; rfl⟩) ?_
      simp only [pS]
      have y21 : wC.cell? ⟨gc, 9, none⟩ = some (qv) := bCwC.cell 9
      have f21 := bCwC.frozen 9
      have lc21 := bCwC.lt
      refine stepQ 21 rfl (fun K HK => ?_)
      go_simp
      have bCwE := bCwC.set_ 9 (.slice (some ⟨gp, 0, none⟩) f.nodes.length f.nodes.length)
      simp only [List.setIfInBounds_toArray, List.set_cons_zero, List.set_cons_succ] at bCwE
      have b_gb2 := b_gb.far (p := ⟨gc, 9, none⟩) (by show gb ≠ gc; omega) (.slice (some ⟨gp, 0, none⟩) f.nodes.length f.nodes.length)
      clear b_gb
      have b_gb := b_gb2
      clear b_gb2
      have b_gp2 := b_gp.far (p := ⟨gc, 9, none⟩) (by show gp ≠ gc; omega) (.slice (some ⟨gp, 0, none⟩) f.nodes.length f.nodes.length)
      clear b_gp
      have b_gp := b_gp2
      clear b_gp2
      have hgwE := hgwC.trans (grown_setCell wC ⟨gc, 9, none⟩ (.slice (some ⟨gp, 0, none⟩) f.nodes.length f.nodes.length))
      have HSwE : World.cell? (wC.setCell ⟨gc, 9, none⟩ (.slice (some ⟨gp, 0, none⟩) f.nodes.length f.nodes.length)) ⟨gc, 5, none⟩ = some (.slice An f.nodes.length cn) := bCwE.cell 5
      refine HK.out _ _ (fun _ => HSwE) ?_
      clear HK y21 f21 lc21 bCwC hgwC
      generalize wC.setCell ⟨gc, 9, none⟩ (.slice (some ⟨gp, 0, none⟩) f.nodes.length f.nodes.length) = wE at *
      try simp only [pS]
      refine wpAnyJ_done (by kernel_rfl) ?_ _
      go_wp2_with fail
      go_meet
      exact ⟨gb, gp, bCwE, b_gb, b_gp, lw_gb, lw_gp, ne_gb_gp, hgwE.os, hgwE.tape, hgwE.output, hgwE.size, hgwE.block⟩
    · -- the store next
      simp only [List.getElem?_toArray, List.getElem?_cons_zero, List.getElem?_cons_succ, Option.some.injEq] at h
      subst h
      have HK := Lib.hid hK
      clear hK
      go_simp
      have bCwB := bCwA.set_ 8 (.slice (some ⟨gb, 0, none⟩) f.nodes.length f.nodes.length)
      simp only [List.setIfInBounds_toArray, List.set_cons_zero, List.set_cons_succ] at bCwB
      have b_gb2 := b_gb.far (p := ⟨gc, 8, none⟩) (by show gb ≠ gc; omega) (.slice (some ⟨gb, 0, none⟩) f.nodes.length f.nodes.length)
      clear b_gb
      have b_gb := b_gb2
      clear b_gb2
      have hgwB := hgwA.trans (grown_setCell wA ⟨gc, 8, none⟩ (.slice (some ⟨gb, 0, none⟩) f.nodes.length f.nodes.length))
      have HSwB : World.cell? (wA.setCell ⟨gc, 8, none⟩ (.slice (some ⟨gb, 0, none⟩) f.nodes.length f.nodes.length)) ⟨gc, 5, none⟩ = some (.slice An f.nodes.length cn) := bCwB.cell 5
      refine HK.out _ _ (fun _ => HSwB) ?_
      clear HK y18 f18 lc18 bCwA hgwA
      generalize wA.setCell ⟨gc, 8, none⟩ (.slice (some ⟨gb, 0, none⟩) f.nodes.length f.nodes.length) = wB at *
      try simp only [pS]
      refine stepQ 15 rfl (fun K HK => ?_)
      go_simp
      have b_gp := Blk.new wB 3 ⟨ints (List.replicate f.nodes.length 0)⟩
      have bCwC := bCwB.alloc (.cells ⟨ints (List.replicate f.nodes.length 0)⟩ 3)
      have b_gb2 := b_gb.alloc (.cells ⟨ints (List.replicate f.nodes.length 0)⟩ 3)
      have l_gb2 := b_gb.lt
      have hgwC := hgwB.trans (World.grownBy_alloc wB (.cells ⟨ints (List.replicate f.nodes.length 0)⟩ 3) (some gc))
      have hszwC := hgwB.size
      have HSwC : World.cell? (wB.alloc (.cells ⟨ints (List.replicate f.nodes.length 0)⟩ 3)) ⟨gc, 5, none⟩ = some (.slice An f.nodes.length cn) := bCwC.cell 5
      refine HK.out _ _ (fun _ => HSwC) ?_
      clear HK
      obtain ⟨gp, e_gp⟩ : ∃ gp, gp = wB.heap.size := ⟨_, rfl⟩
      rw [← e_gp] at b_gp ⊢
      have lw_gp : w.heap.size ≤ gp := by omega
      have ne_gb_gp : gb ≠ gp := by omega
      clear b_gb l_gb2
      have b_gb := b_gb2
      clear b_gb2
      clear e_gp hszwC bCwB hgwB
      generalize wB.alloc (.cells ⟨ints (List.replicate f.nodes.length 0)⟩ 3) = wC at *
      try simp only [pS]
      refine takeQ 19 26 rfl HSwC (.inl ⟨rfl, fun W hW => by go_simp; rfl⟩) ?_
      simp only [pS]
      refine takeQ 20 27 rfl HSwC (.inl ⟨rfl, fun W hW => by go_simp; rfl⟩) ?_
      simp only [pS]
      have y21 : wC.cell? ⟨gc, 9, none⟩ = some (qv) := bCwC.cell 9
      have f21 := bCwC.frozen 9
      have lc21 := bCwC.lt
      refine stepQ 21 rfl (fun K HK => ?_)
      go_simp
      have bCwE := bCwC.set_ 9 (.slice (some ⟨gp, 0, none⟩) f.nodes.length f.nodes.length)
      simp only [List.setIfInBounds_toArray, List.set_cons_zero, List.set_cons_succ] at bCwE
      have b_gb2 := b_gb.far (p := ⟨gc, 9, none⟩) (by show gb ≠ gc; omega) (.slice (some ⟨gp, 0, none⟩) f.nodes.length f.nodes.length)
      clear b_gb
      have b_gb := b_gb2
      clear b_gb2
      have b_gp2 := b_gp.far (p := ⟨gc, 9, none⟩) (by show gp ≠ gc; omega) (.slice (some ⟨gp, 0, none⟩) f.nodes.length f.nodes.length)
      clear b_gp
      have b_gp := b_gp2
      clear b_gp2
      have hgwE := hgwC.trans (grown_setCell wC ⟨gc, 9, none⟩ (.slice (some ⟨gp, 0, none⟩) f.nodes.length f.nodes.length))
      have HSwE : World.cell? (wC.setCell ⟨gc, 9, none⟩ (.slice (some ⟨gp, 0, none⟩) f.nodes.length f.nodes.length)) ⟨gc, 5, none⟩ = some (.slice An f.nodes.length cn) := bCwE.cell 5
      refine HK.out _ _ (fun _ => HSwE) ?_
      clear HK y21 f21 lc21 bCwC hgwC
      generalize wC.setCell ⟨gc, 9, none⟩ (.slice (some ⟨gp, 0, none⟩) f.nodes.length f.nodes.length) = wE at *
      try simp only [pS]
      refine wpAnyJ_done (by kernel_rfl) ?_ _
      go_wp2_with fail
      go_meet
      exact ⟨gb, gp, bCwE, b_gb, b_gp, lw_gb, lw_gp, ne_gb_gp, hgwE.os, hgwE.tape, hgwE.output, hgwE.size, hgwE.block⟩
  · -- the second make first
    simp only [List.getElem?_toArray, List.getElem?_cons_zero, List.getElem?_cons_succ, Option.some.injEq] at h
    subst h
    have HK := Lib.hid hK
    clear hK
    go_simp
    have b_gp := Blk.new w 3 ⟨ints (List.replicate f.nodes.length 0)⟩
    have bCwA := bCw.alloc (.cells ⟨ints (List.replicate f.nodes.length 0)⟩ 3)
    have hgwA := hgw.trans (World.grownBy_alloc w (.cells ⟨ints (List.replicate f.nodes.length 0)⟩ 3) (some gc))
    have hszwA := hgw.size
    have HSwA : World.cell? (w.alloc (.cells ⟨ints (List.replicate f.nodes.length 0)⟩ 3)) ⟨gc, 5, none⟩ = some (.slice An f.nodes.length cn) := bCwA.cell 5
    refine HK.out _ _ (fun _ => HSwA) ?_
    clear HK
    obtain ⟨gp, e_gp⟩ : ∃ gp, gp = w.heap.size := ⟨_, rfl⟩
    rw [← e_gp] at b_gp ⊢
    have lw_gp : w.heap.size ≤ gp := by omega
    clear e_gp hszwA bCw hgw
    generalize w.alloc (.cells ⟨ints (List.replicate f.nodes.length 0)⟩ 3) = wA at *
    try simp only [pS]
    refine stepQ 8 rfl (fun K HK => ?_)
    go_simp
    have b_gb := Blk.new wA 3 ⟨ints (List.replicate f.nodes.length 0)⟩
    have bCwB := bCwA.alloc (.cells ⟨ints (List.replicate f.nodes.length 0)⟩ 3)
    have b_gp2 := b_gp.alloc (.cells ⟨ints (List.replicate f.nodes.length 0)⟩ 3)
    have l_gp2 := b_gp.lt
    have hgwB := hgwA.trans (World.grownBy_alloc wA (.cells ⟨ints (List.replicate f.nodes.length 0)⟩ 3) (some gc))
    have hszwB := hgwA.size
    have HSwB : World.cell? (wA.alloc (.cells ⟨ints (List.replicate f.nodes.length 0)⟩ 3)) ⟨gc, 5, none⟩ = some (.slice An f.nodes.length cn) := bCwB.cell 5
    refine HK.out _ _ (fun _ => HSwB) ?_
    clear HK
    obtain ⟨gb, e_gb⟩ : ∃ gb, gb = wA.heap.size := ⟨_, rfl⟩
    rw [← e_gb] at b_gb ⊢
    have lw_gb : w.heap.size ≤ gb := by omega
    have ne_gp_gb : gp ≠ gb := by omega
    clear b_gp l_gp2
    have b_gp := b_gp2
    clear b_gp2
    clear e_gb hszwB bCwA hgwA
    generalize wA.alloc (.cells ⟨ints (List.replicate f.nodes.length 0)⟩ 3) = wB at *
    try simp only [pS]
    refine takeQ 16 24 rfl HSwB (.inl ⟨rfl, fun W hW => by go_simp; rfl⟩) ?_
    simp only [pS]
    refine takeQ 17 25 rfl HSwB (.inl ⟨rfl, fun W hW => by go_simp; rfl⟩) ?_
    simp only [pS]
    have y18 : wB.cell? ⟨gc, 8, none⟩ = some (bv) := bCwB.cell 8
    have f18 := bCwB.frozen 8
    have lc18 := bCwB.lt
    refine stepQ 18 rfl (fun K HK => ?_)
    go_simp
    have bCwC := bCwB.set_ 8 (.slice (some ⟨gb, 0, none⟩) f.nodes.length f.nodes.length)
    simp only [List.setIfInBounds_toArray, List.set_cons_zero, List.set_cons_succ] at bCwC
    have b_gp2 := b_gp.far (p := ⟨gc, 8, none⟩) (by show gp ≠ gc; omega) (.slice (some ⟨gb, 0, none⟩) f.nodes.length f.nodes.length)
    clear b_gp
    have b_gp := b_gp2
    clear b_gp2
    have b_gb2 := b_gb.far (p := ⟨gc, 8, none⟩) (by show gb ≠ gc; omega) (.slice (some ⟨gb, 0, none⟩) f.nodes.length f.nodes.length)
    clear b_gb
    have b_gb := b_gb2
    clear b_gb2
    have hgwC := hgwB.trans (grown_setCell wB ⟨gc, 8, none⟩ (.slice (some ⟨gb, 0, none⟩) f.nodes.length f.nodes.length))
    have HSwC : World.cell? (wB.setCell ⟨gc, 8, none⟩ (.slice (some ⟨gb, 0, none⟩) f.nodes.length f.nodes.length)) ⟨gc, 5, none⟩ = some (.slice An f.nodes.length cn) := bCwC.cell 5
    refine HK.out _ _ (fun _ => HSwC) ?_
    clear HK y18 f18 lc18 bCwB hgwB
    generalize wB.setCell ⟨gc, 8, none⟩ (.slice (some ⟨gb, 0, none⟩) f.nodes.length f.nodes.length) = wC at *
    try simp only [pS]
    refine takeQ 19 26 rfl HSwC (.inl ⟨rfl, fun W hW => by go_simp; rfl⟩) ?_
    simp only [pS]
    refine takeQ 20 27 rfl HSwC (.inl ⟨rfl, fun W hW => by go_simp; rfl⟩) ?_
    simp only [pS]
    have y21 : wC.cell? ⟨gc, 9, none⟩ = some (qv) := bCwC.cell 9
    have f21 := bCwC.frozen 9
    have lc21 := bCwC.lt
    refine stepQ 21 rfl (fun K HK => ?_)
    go_simp
    have bCwE := bCwC.set_ 9 (.slice (some ⟨gp, 0, none⟩) f.nodes.length f.nodes.length)
    simp only [List.setIfInBounds_toArray, List.set_cons_zero, List.set_cons_succ] at bCwE
    have b_gp2 := b_gp.far (p := ⟨gc, 9, none⟩) (by show gp ≠ gc; omega) (.slice (some ⟨gp, 0, none⟩) f.nodes.length f.nodes.length)
    clear b_gp
    have b_gp := b_gp2
    clear b_gp2
    have b_gb2 := b_gb.far (p := ⟨gc, 9, none⟩) (by show gb ≠ gc; omega) (.slice (some ⟨gp, 0, none⟩) f.nodes.length f.nodes.length)
    clear b_gb
    have b_gb := b_gb2
    clear b_gb2
    have hgwE := hgwC.trans (grown_setCell wC ⟨gc, 9, none⟩ (.slice (some ⟨gp, 0, none⟩) f.nodes.length f.nodes.length))
    have HSwE : World.cell? (wC.setCell ⟨gc, 9, none⟩ (.slice (some ⟨gp, 0, none⟩) f.nodes.length f.nodes.length)) ⟨gc, 5, none⟩ = some (.slice An f.nodes.length cn) := bCwE.cell 5
    refine HK.out _ _ (fun _ => HSwE) ?_
    clear HK y21 f21 lc21 bCwC hgwC
    generalize wC.setCell ⟨gc, 9, none⟩ (.slice (some ⟨gp, 0, none⟩) f.nodes.length f.nodes.length) = wE at *
    try simp only [pS]
    refine wpAnyJ_done (by kernel_rfl) ?_ _
    go_wp2_with fail
    go_meet
    exact ⟨gb, gp, bCwE, b_gb, b_gp, lw_gb, lw_gp, Ne.symm ne_gp_gb, hgwE.os, hgwE.tape, hgwE.output, hgwE.size, hgwE.block⟩
 case rest =>
  obtain ⟨gb, gp, bC1, b1, b2, lb, lp, ne, hg⟩ := hcut
  have hSk : Kept S w wc := Kept.grown (Kept.refl S w) hg (fun b hb => (hC.lt b hb).1) (fun b hb e => (hC.lt b hb).2.1 (Option.some.inj e))
  have hbl := hC.fn.blocks.keep hSk
  have hnd := hC.fn.nodes.keep hSk
  have HC := Lib.hid hC
  have Hlt := Lib.hid hC.lt
  have lC1 := bC1.lt
  have l1 := b1.lt
  have l2 := b2.lt
  have hP2 : ∀ W, w.grownBy W (some gc) → ¬ standOk f → StandPost w S gc gv p vs f tv lv dv (.returned (.bool false)) W := fun W h1 h2 => ⟨h1, .inl ⟨rfl, h2⟩⟩
  have HPf := Lib.hid hP2
  have hP3 : ∀ W blk plc, w.grownBy W (some gc) → Stands f blk plc → Blk W gb 3 ⟨ints blk⟩ → Blk W gp 3 ⟨ints plc⟩ → KB (fun x => x < wc.heap.size ∧ x ≠ gb ∧ x ≠ gp) wc W → StandPost w S gc gv p vs f tv lv dv (.returned (.bool true)) W := fun W blk plc h1 h2 h3 h4 h5 => by
   refine ⟨h1, .inr ⟨rfl, gb, gp, blk, plc, h2, ⟨⟨Ac, cc, Am, cm, An, cn, Ab, cb, As, cs, ?_⟩, h3, h4, lb, lp, ne⟩⟩⟩
   have hzz := hg.size
   have hkb : KB (fun b => S b ∨ b = gv) w W := fun b hb => by
    have hb' : b < w.heap.size ∧ b ≠ gc := by
     rcases hb with hb | rfl
     · exact ⟨(HC.out.lt b hb).1, (HC.out.lt b hb).2.1⟩
     · exact HC.out.gv
    exact h1.block b hb'.1 (fun e => hb'.2 (Option.some.inj e))
   have hk' : Kept S w W := (hkb.sub (fun b hb => .inl hb)).kept
   exact ⟨bC1.kb h5 ⟨lC1, by omega, by omega⟩, HC.out.prg.keep hk', HC.out.fn.keep hk', HC.out.inf.kb hkb h1.size, fun b hs => ⟨Nat.lt_of_lt_of_le (HC.out.lt b hs).1 h1.size, (HC.out.lt b hs).2⟩, ⟨Nat.lt_of_lt_of_le HC.out.gv.1 h1.size, HC.out.gv.2⟩, HC.out.cap⟩
  have HPt := Lib.hid hP3
  clear hP2 hP3 hC bC c5 hm2 hSk
  generalize StandPost w S gc gv p vs f tv lv dv = Post at *
  have y8 : wc.cell? ⟨gc, 8, none⟩ = some (.slice (some ⟨gb, 0, none⟩) f.nodes.length f.nodes.length) := bC1.cell 8
  rw [← initF_zero] at b1
  go_wp2
  go_loopw [33] (fun iv wr => ∃ k : Nat, k ≤ f.nodes.length ∧ iv = .int .i64 k ∧ Blk wr gb 3 ⟨ints (initF k f.nodes.length)⟩ ∧ Hid (KB (fun x => x < wc.heap.size ∧ x ≠ gb) wc wr) ∧ Hid (wr.heap.size = wc.heap.size) ∧ w.grownBy wr (some gc)) (fun iv _ => f.nodes.length - (intOf iv).toNat)
  case atStart => exact ⟨0, Nat.zero_le _, rfl, b1, Lib.hid (KB.refl _ _), Lib.hid rfl, hg⟩
  case round =>
   clear b1 hg y8
   obtain ⟨k, hk, rfl, b1, K, hz, hg⟩ := hrel
   have bC := bC1.kb K.out ⟨lC1, by omega⟩
   have y8 : wr.cell? ⟨gc, 8, none⟩ = some (.slice (some ⟨gb, 0, none⟩) f.nodes.length f.nodes.length) := bC.cell 8
   by_cases hlt : k < f.nodes.length
   · have k0 : (0 : Int) ≤ k := by omega
     have k1 : (k : Int) < f.nodes.length := by omega
     have yb := ints_cell b1 (show k < (initF k f.nodes.length).length by rw [initF_len hk]; exact hlt)
     have fb := b1.frozen k
     have lbb := b1.lt
     clear bC
     go_wp2
     go_roundw
     case rel =>
      have b3 := ints_blk_set b1 k (-1)
      rw [initF_set hlt] at b3
      exact ⟨k + 1, by omega, by go_num, b3, Lib.hid (K.out.set (p := ⟨gb, k, none⟩) (by simp) _), Lib.hid (by simpa using hz.out), grown_new hg lb _⟩
     case measure => simp [intOf]; omega
   · have e : k = f.nodes.length := by omega
     subst e
     have hge : ¬ (f.nodes.length : Int) < f.nodes.length := by omega
     rw [initF_all] at b1
     have b2' := b2.kb K.out ⟨l2, Ne.symm ne⟩
     have hbl2 := hbl.keep (K.out.kept.sub (fun b hb => ⟨by have := (Hlt.out b hb).1; omega, by have := (Hlt.out b hb).1; omega⟩))
     have hnd2 := hnd.keep (K.out.kept.sub (fun b hb => ⟨by have := (Hlt.out b hb).1; omega, by have := (Hlt.out b hb).1; omega⟩))
     have bC2 := bC
     have y6 : wr.cell? ⟨gc, 6, none⟩ = some (.slice Ab f.blocks.length cb) := bC2.cell 6
     have hz5 := hz.out
     have HK1 := Lib.hid K.out
     clear b2 hbl hnd y8 K hz
     have Hz5 := Lib.hid hz5
     clear hz5 hlt
     generalize wr = w5 at *
     go_wp2
     go_loopw [49] (fun iv wr => ∃ (b : Nat) (blk plc : List Int), b ≤ f.blocks.length ∧ iv = .int .i64 b ∧ Hid (Noted f blk plc b 0) ∧ Blk wr gb 3 ⟨ints blk⟩ ∧ Blk wr gp 3 ⟨ints plc⟩ ∧ Hid (KB (fun x => x < wc.heap.size ∧ x ≠ gb ∧ x ≠ gp) w5 wr) ∧ wc.heap.size ≤ wr.heap.size ∧ w.grownBy wr (some gc)) (fun iv _ => f.blocks.length - (intOf iv).toNat)
     case atStart => exact ⟨0, _, _, Nat.zero_le _, rfl, Lib.hid Noted.start, b1, b2', Lib.hid (KB.refl _ _), by rw [Hz5.out]; exact Nat.le_refl _, hg⟩
     case round =>
      clear b1 b2' hg y6
      obtain ⟨b, blk, plc, hb, rfl, HN, b1, b2, K, hz, hg⟩ := hrel
      have bC3 := bC2.kb K.out ⟨lC1, by omega, by omega⟩
      have hSK : ∀ x, S x → x < wc.heap.size ∧ x ≠ gb ∧ x ≠ gp := fun x hx => by have := (Hlt.out x hx).1; exact ⟨by omega, by omega, by omega⟩
      by_cases hlt : b < f.blocks.length
      · have k0 : (0 : Int) ≤ b := by omega
        have k1 : (b : Int) < f.blocks.length := by omega
        have hbl3 := hbl2.keep (K.out.kept.sub hSK)
        obtain ⟨bb, off, A1, c1, A2, c2, A3, c3, A4, c4, hAb, hSb, x0, x1, x2, x3, r1, r2, r3, r4⟩ := rd_bk hbl3 hlt
        subst hAb
        have HSK := Lib.hid hSK
        have hra : (allN (f.blocks.getD b default)).length ≤ 1000000 := hrow b hlt
        generalize hxb : f.blocks.getD b default = xb at *
        have Hxb := Lib.hid hxb
        clear hxb r3 r4 hbl3 hSK
        have hbbz := (Hlt.out bb hSb).1
        have lbw : bb < wr.heap.size := by omega
        have O1z : (wr.alloc (.cells #[.slice A1 xb.phis.length c1, .slice A2 xb.body.length c2, .slice A3 xb.succ.length c3, .slice A4 xb.preds.length c4] 61)).heap.size = wr.heap.size + 1 := by simp
        have bX := (Blk.new wr 61 #[.slice A1 xb.phis.length c1, .slice A2 xb.body.length c2, .slice A3 xb.succ.length c3, .slice A4 xb.preds.length c4]).alloc (.cells #[.slice A1 xb.phis.length c1, .slice A2 xb.body.length c2] 47)
        have bL := Blk.newAt (w := wr.alloc (.cells #[.slice A1 xb.phis.length c1, .slice A2 xb.body.length c2, .slice A3 xb.succ.length c3, .slice A4 xb.preds.length c4] 61)) (g := wr.heap.size + 1) O1z 47 ⟨[.slice A1 xb.phis.length c1, .slice A2 xb.body.length c2]⟩
        have hbW : Below wr.heap.size wr ((wr.alloc (.cells #[.slice A1 xb.phis.length c1, .slice A2 xb.body.length c2, .slice A3 xb.succ.length c3, .slice A4 xb.preds.length c4] 61)).alloc (.cells #[.slice A1 xb.phis.length c1, .slice A2 xb.body.length c2] 47)) := ((Below.refl _ _).alloc (Nat.le_refl _) _).alloc (by simp) _
        have hkW := Kept.of_below hbW (S := S) (fun x hx => by have := (HSK.out x hx).1; omega)
        have hsW : ((wr.alloc (.cells #[.slice A1 xb.phis.length c1, .slice A2 xb.body.length c2, .slice A3 xb.succ.length c3, .slice A4 xb.preds.length c4] 61)).alloc (.cells #[.slice A1 xb.phis.length c1, .slice A2 xb.body.length c2] 47)).heap.size = wr.heap.size + 2 := by simp
        have hcc := concat_any (some ⟨wr.heap.size + 1, 0, none⟩) 2 [xb.phis, xb.body] _ (rdl_two (S' := (· < ((wr.alloc (.cells #[.slice A1 xb.phis.length c1, .slice A2 xb.body.length c2, .slice A3 xb.succ.length c3, .slice A4 xb.preds.length c4] 61)).alloc (.cells #[.slice A1 xb.phis.length c1, .slice A2 xb.body.length c2] 47)).heap.size)) bL (r1.keep hkW) (r2.keep hkW) (fun x hx => by have := (HSK.out x hx).1; rw [hsW]; omega) (by rw [hsW]; omega)) (by simp) (by simpa [allN] using hra)
        have hfl : [xb.phis, xb.body].flatten = allN xb := by simp [allN]
        rw [hfl] at hcc
        unfold ConcatPost at hcc
        rw [hsW] at hcc
        have Hcc := Lib.hid hcc
        have y0 := bX.at0
        have y1 := bX.at1
        clear hcc
        go_wp2_with fail
        refine Hcc.out.mono ?_
        rintro e w7 ⟨A9, c9, rfl, own9, hb79⟩
        have hb7 := hbW.trans (hb79.mono (by omega))
        have b13 := b1.below hb7 b1.lt
        have b23 := b2.below hb7 b2.lt
        have bC4 := bC3.below hb7 bC3.lt
        have bX4 := bX.below hb79 (by omega)
        have hg7 := hg.trans (grown_of_below hb7 (Nat.le_refl _) (some gc))
        have K7 := Lib.hid (K.out.below hb7 (fun x hx => by omega))
        have hz7 := hb7.size
        have row9 := rds_own own9 (S := fun x => wr.heap.size + 2 ≤ x ∧ x < w7.heap.size) (fun g _ h1 h2 => ⟨h1, h2⟩)
        have lgb := b1.lt
        have lgp := b2.lt
        have Hz := Lib.hid hz
        have Hrow := Lib.hid row9
        clear b1 b2 hg K own9 hb79 hb7 hbW bX bL Hcc hkW hsW O1z x0 x1 x2 x3 r1 r2 y0 y1 bC3 hfl row9
        generalize hWr : wr.heap.size = zr at *
        have HWr := Lib.hid hWr
        clear hWr
        generalize wr = w6 at *
        go_wp2
        go_loopw [61] (fun iv wr => ∃ (k : Nat) (blk plc : List Int), k ≤ (allN xb).length ∧ iv = .int .i64 k ∧ Hid (Noted f blk plc b k) ∧ Blk wr gb 3 ⟨ints blk⟩ ∧ Blk wr gp 3 ⟨ints plc⟩ ∧ Hid (KB (fun x => x < w7.heap.size ∧ x ≠ gb ∧ x ≠ gp) w7 wr) ∧ w7.heap.size ≤ wr.heap.size ∧ w.grownBy wr (some gc)) (fun iv _ => (allN xb).length - (intOf iv).toNat)
        case atStart => exact ⟨0, blk, plc, Nat.zero_le _, rfl, HN, b13, b23, Lib.hid (KB.refl _ _), Nat.le_refl _, hg7⟩
        case round =>
         clear b13 b23 hg7
         obtain ⟨k, blk, plc, hk, rfl, HN, b1, b2, K8, hz8, hg⟩ := hrel
         have bC := bC4.kb K8.out ⟨bC4.lt, by omega, by omega⟩
         have bX := bX4.kb K8.out ⟨bX4.lt, by omega, by omega⟩
         by_cases hkl : k < (allN xb).length
         · have j0 : (0 : Int) ≤ k := by omega
           have j1 : (k : Int) < (allN xb).length := by omega
           obtain ⟨n, hn⟩ : ∃ n, (allN xb)[k]? = some n := ⟨_, List.getElem?_eq_getElem hkl⟩
           have hrk := Hrow.out.keep (K8.out.kept.sub (fun x hx => ⟨by omega, by omega, by omega⟩))
           obtain ⟨br, orr, hA9, hbr, z0⟩ := ints_at (hrk.rd (B := w7.heap.size) (fun x hx => hx.2)) (k := k) hkl
           subst hA9
           have hnv : (allN xb)[k]?.getD 0 = n := by rw [hn]; rfl
           rw [hnv] at z0
           have y5 : wr.cell? ⟨gc, 5, none⟩ = some (.slice An f.nodes.length cn) := bC.cell 5
           have y8 : wr.cell? ⟨gc, 8, none⟩ = some (.slice (some ⟨gb, 0, none⟩) f.nodes.length f.nodes.length) := bC.cell 8
           have y9 : wr.cell? ⟨gc, 9, none⟩ = some (.slice (some ⟨gp, 0, none⟩) f.nodes.length f.nodes.length) := bC.cell 9
           have y0 := bX.at0
           have hnx : (allN (bkAt f b))[k]? = some n := by rw [show bkAt f b = xb from Hxb.out]; exact hn
           have Hnx := Lib.hid hnx
           clear hnv hn hnx hrk
           cases hi : inB n f.nodes.length with
           | false =>
             have HB := Lib.hid (HN.out.bad hlt Hnx.out (.inl (fun h => by unfold inB at hi; simp [h.1, h.2] at hi)))
             have Hi := Lib.hid hi
             clear hi
             go_upto_region 13 with (fail)
             go_quiet ((go_at_call 86; exact Calls.quiet_of_same (ssaIn_eq Hi.out _)))
             rename Nat => qq
             go_wp2
             exact HPf.out _ ⟨hg.os, hg.tape, hg.output, hg.size, hg.block⟩ HB.out
           | true =>
             obtain ⟨m, hnm⟩ : ∃ m : Nat, n = m := ⟨n.toNat, by unfold inB at hi; simp at hi; omega⟩
             subst hnm
             have hmn : m < f.nodes.length := by unfold inB at hi; simp at hi; omega
             have hnd3 := (hnd2.keep (K7.out.kept.sub HSK.out)).keep (K8.out.kept.sub (fun x hx => by have := HSK.out x hx; have := Hz.out; exact ⟨by omega, by omega, by omega⟩))
             obtain ⟨bn, on_, An2, cn2, hAn, hSn, v0, v1, v2, v3, v4, v5, v6, -⟩ := rd_nd hnd3 hmn
             subst hAn
             have z1 := ints_cell b1 (show m < blk.length by rw [HN.out.l1]; exact hmn)
             have hbad := fun h => HN.out.bad hlt Hnx.out h
             simp only [Int.toNat_natCast] at hbad
             have hstep := fun h1 h2 h3 h4 => HN.out.step hlt Hnx.out h1 h2 h3 h4
             simp only [Int.toNat_natCast] at hstep
             have hrng := HN.out.range hmn
             have hph : (bkAt f b).phis = xb.phis := by rw [show bkAt f b = xb from Hxb.out]
             rw [hph] at hbad hstep
             have z2 := ints_cell b2 (show m < plc.length by rw [HN.out.l2]; exact hmn)
             have m0 : (0 : Int) ≤ m := by omega
             have m1 : (m : Int) < f.nodes.length := by omega
             have Hi := Lib.hid hi
             clear hi v1 v2 v3 v4 v5 v6 hnd3 hph
             generalize hop : (f.nodes.getD m default).op = op at *
             generalize hbm : blk.getD m 0 = bm at *
             have Hbad := Lib.hid hbad
             have Hstep := Lib.hid hstep
             clear hbad hstep hop hbm
             by_cases hb0 : 0 ≤ bm
             · have g0 : decide (0 ≤ bm) = true := by simpa using hb0
               have HB := Lib.hid (Hbad.out (.inr (.inl hb0)))
               clear hrng
               go_upto_region 13 with (fail)
               go_quiet ((go_at_call 86; exact Calls.quiet_of_same (ssaIn_eq Hi.out _)))
               rename Nat => qq
               go_wp2
               exact HPf.out _ ⟨hg.os, hg.tape, hg.output, hg.size, hg.block⟩ HB.out
             · have hbm1 : bm = -1 := by omega
               subst hbm1
               have Hst2 := Lib.hid (Hstep.out m0 m1 rfl)
               clear hrng hb0 Hstep
               by_cases ho : op = 41
               · by_cases hkp : k < xb.phis.length
                 · have HS4 := Lib.hid (Hst2.out ⟨fun _ => hkp, fun _ => ho⟩)
                   have g1 : (op == 41) = true := by simpa using ho
                   have g2 : (k : Int) < xb.phis.length := by omega
                   clear ho hkp
                   go_upto_region 13 with (fail)
                   go_quiet ((go_at_call 86; exact Calls.quiet_of_same (ssaIn_eq Hi.out _)))
                   rename Nat => qq
                   go_upto_region 15 with (fail)
                   have b1q : Blk (wr.drewN qq) gb 3 ⟨ints blk⟩ := b1
                   have b2q : Blk (wr.drewN qq) gp 3 ⟨ints plc⟩ := b2
                   have bCq : Blk (wr.drewN qq) gc 112 #[.pointer (some ⟨gv, 0, none⟩), .slice Ac p.classes.length cc, .slice Am p.methods.length cm, .int .i64 f.mth, .int .i64 f.entry, .slice (some ⟨bn, on_, none⟩) f.nodes.length cn, .slice (some ⟨bb, off, none⟩) f.blocks.length cb, .slice As f.states.length cs, .slice (some ⟨gb, 0, none⟩) f.nodes.length f.nodes.length, .slice (some ⟨gp, 0, none⟩) f.nodes.length f.nodes.length, tv, lv, dv] := bC
                   have Kq : KB (fun x => x < w7.heap.size ∧ x ≠ gb ∧ x ≠ gp) w7 (wr.drewN qq) := K8.out
                   have hgq : w.grownBy (wr.drewN qq) (some gc) := ⟨hg.os, hg.tape, hg.output, hg.size, hg.block⟩
                   have hzq : w7.heap.size ≤ (wr.drewN qq).heap.size := hz8
                   have KQ := Lib.hid Kq
                   clear b1 b2 bC bX hg hz8 K8 y5 y8 y9 y0 z0 z1 z2 v0 Kq
                   generalize wr.drewN qq = wq at *
                   have y8 : wq.cell? ⟨gc, 8, none⟩ = some (.slice (some ⟨gb, 0, none⟩) f.nodes.length f.nodes.length) := bCq.cell 8
                   have y9 : wq.cell? ⟨gc, 9, none⟩ = some (.slice (some ⟨gp, 0, none⟩) f.nodes.length f.nodes.length) := bCq.cell 9
                   refine wpJ_start (S := fun W => W.cell? ⟨gc, 8, none⟩ = some (.slice (some ⟨gb, 0, none⟩) f.nodes.length f.nodes.length) ∧ W.cell? ⟨gc, 9, none⟩ = some (.slice (some ⟨gp, 0, none⟩) f.nodes.length f.nodes.length)) (fun _ => true) (by kernel_rfl) ⟨y8, y9⟩ (fun HS => ?_)
                   refine takeQ 0 103 rfl HS (.inl ⟨rfl, fun W hW => by obtain ⟨h8, h9⟩ := hW; go_simp; rfl⟩) ?_
                   simp only [pS]
                   refine takeQ 1 104 rfl HS (.inl ⟨rfl, fun W hW => by obtain ⟨h8, h9⟩ := hW; go_simp; rfl⟩) ?_
                   simp only [pS]
                   refine takeQ 2 105 rfl HS (.inl ⟨rfl, fun W hW => by obtain ⟨h8, h9⟩ := hW; go_simp; rfl⟩) ?_
                   simp only [pS]
                   refine takeQ 3 106 rfl HS (.inl ⟨rfl, fun W hW => by obtain ⟨h8, h9⟩ := hW; go_simp; rfl⟩) ?_
                   simp only [pS]
                   refine takeQ 4 107 rfl HS (.inl ⟨rfl, fun W hW => by obtain ⟨h8, h9⟩ := hW; go_simp; rfl⟩) ?_
                   simp only [pS]
                   refine takeQ 5 108 rfl HS (.inl ⟨rfl, fun W hW => by obtain ⟨h8, h9⟩ := hW; go_simp; rfl⟩) ?_
                   simp only [pS]
                   refine takeQ 6 109 rfl HS (.inl ⟨rfl, fun W hW => by obtain ⟨h8, h9⟩ := hW; go_simp; rfl⟩) ?_
                   simp only [pS]
                   refine takeQ 7 110 rfl HS (.inl ⟨rfl, fun W hW => by obtain ⟨h8, h9⟩ := hW; go_simp; rfl⟩) ?_
                   simp only [pS]
                   refine takeQ 8 111 rfl HS (.inl ⟨rfl, fun W hW => by obtain ⟨h8, h9⟩ := hW; go_simp; rfl⟩) ?_
                   simp only [pS]
                   refine takeQ 9 112 rfl HS (.inl ⟨rfl, fun W hW => by obtain ⟨h8, h9⟩ := hW; go_simp; rfl⟩) ?_
                   simp only [pS]
                   refine takeQ 10 113 rfl HS (.inl ⟨rfl, fun W hW => by obtain ⟨h8, h9⟩ := hW; go_simp; rfl⟩) ?_
                   simp only [pS]
                   refine takeQ 11 114 rfl HS (.inl ⟨rfl, fun W hW => by obtain ⟨h8, h9⟩ := hW; go_simp; rfl⟩) ?_
                   simp only [pS]
                   refine takeQ 12 115 rfl HS (.inl ⟨rfl, fun W hW => by obtain ⟨h8, h9⟩ := hW; go_simp; rfl⟩) ?_
                   simp only [pS]
                   have z1 := ints_cell b1q (show m < blk.length by rw [HN.out.l1]; exact hmn)
                   have f1 := b1q.frozen m
                   have lq1 := b1q.lt
                   refine stepQ 13 rfl (fun K HK => ?_)
                   go_simp
                   have b1r := ints_blk_set b1q m (b : Int)
                   have b2r := b2q.far (p := ⟨gb, m, none⟩) (Ne.symm ne) (.int .i64 (b : Int))
                   have bCr := bCq.far (p := ⟨gb, m, none⟩) (by show gc ≠ gb; omega) (.int .i64 (b : Int))
                   have Kr := Lib.hid (KQ.out.set (p := ⟨gb, m, none⟩) (by simp) (.int .i64 (b : Int)))
                   have hgr := grown_new hgq (p := ⟨gb, m, none⟩) lb (.int .i64 (b : Int))
                   have hzr : w7.heap.size ≤ (wq.setCell ⟨gb, m, none⟩ (.int .i64 (b : Int))).heap.size := by simpa using hzq
                   have HSr : World.cell? (wq.setCell ⟨gb, m, none⟩ (.int .i64 (b : Int))) ⟨gc, 8, none⟩ = some (.slice (some ⟨gb, 0, none⟩) f.nodes.length f.nodes.length) ∧ World.cell? (wq.setCell ⟨gb, m, none⟩ (.int .i64 (b : Int))) ⟨gc, 9, none⟩ = some (.slice (some ⟨gp, 0, none⟩) f.nodes.length f.nodes.length) := ⟨bCr.cell 8, bCr.cell 9⟩
                   refine HK.out _ _ (fun _ => HSr) ?_
                   clear HK HS z1 f1 lq1 b1q b2q bCq KQ hgq hzq y8 y9
                   generalize wq.setCell ⟨gb, m, none⟩ (.int .i64 (b : Int)) = ws at *
                   try simp only [pS]
                   refine takeQ 14 116 rfl HSr (.inl ⟨rfl, fun W hW => by obtain ⟨h8, h9⟩ := hW; go_simp; rfl⟩) ?_
                   simp only [pS]
                   have z2 := ints_cell b2r (show m < plc.length by rw [HN.out.l2]; exact hmn)
                   have f2 := b2r.frozen m
                   have lq2 := b2r.lt
                   refine stepQ 15 rfl (fun K HK => ?_)
                   go_simp
                   have b1s := b1r.far (p := ⟨gp, m, none⟩) ne (.int .i64 (k : Int))
                   have b2s := ints_blk_set b2r m (k : Int)
                   have bCs := bCr.far (p := ⟨gp, m, none⟩) (by show gc ≠ gp; omega) (.int .i64 (k : Int))
                   have Ks := Lib.hid (Kr.out.set (p := ⟨gp, m, none⟩) (by simp) (.int .i64 (k : Int)))
                   have hgs := grown_new hgr (p := ⟨gp, m, none⟩) lp (.int .i64 (k : Int))
                   have hzs : w7.heap.size ≤ (ws.setCell ⟨gp, m, none⟩ (.int .i64 (k : Int))).heap.size := by simpa using hzr
                   have HSs : World.cell? (ws.setCell ⟨gp, m, none⟩ (.int .i64 (k : Int))) ⟨gc, 8, none⟩ = some (.slice (some ⟨gb, 0, none⟩) f.nodes.length f.nodes.length) ∧ World.cell? (ws.setCell ⟨gp, m, none⟩ (.int .i64 (k : Int))) ⟨gc, 9, none⟩ = some (.slice (some ⟨gp, 0, none⟩) f.nodes.length f.nodes.length) := ⟨bCs.cell 8, bCs.cell 9⟩
                   refine HK.out _ _ (fun _ => HSs) ?_
                   clear HK HSr z2 f2 lq2 b1r b2r bCr Kr hgr hzr
                   generalize ws.setCell ⟨gp, m, none⟩ (.int .i64 (k : Int)) = wt at *
                   refine wpAnyJ_done (by kernel_rfl) ?_ _
                   go_wp2
                   go_roundw
                   case rel => exact ⟨k + 1, _, _, by omega, by go_num, HS4, b1s, b2s, Lib.hid Ks.out, hzs, ⟨hgs.os, hgs.tape, hgs.output, hgs.size, hgs.block⟩⟩
                   case measure => simp [intOf]; omega
                 · have HB := Lib.hid (Hbad.out (.inr (.inr (fun h => hkp (h.1 ho)))))
                   have g1 : (op == 41) = true := by simpa using ho
                   have g2 : ¬ ((k : Int) < xb.phis.length) := by omega
                   clear ho hkp
                   go_upto_region 13 with (fail)
                   go_quiet ((go_at_call 86; exact Calls.quiet_of_same (ssaIn_eq Hi.out _)))
                   rename Nat => qq
                   go_wp2
                   exact HPf.out _ ⟨hg.os, hg.tape, hg.output, hg.size, hg.block⟩ HB.out
               · have g1 : (op == 41) = false := by simpa using ho
                 by_cases hkp : k < xb.phis.length
                 · have HB := Lib.hid (Hbad.out (.inr (.inr (fun h => ho (h.2 hkp)))))
                   have g2 : (k : Int) < xb.phis.length := by omega
                   clear ho hkp
                   go_upto_region 13 with (fail)
                   go_quiet ((go_at_call 86; exact Calls.quiet_of_same (ssaIn_eq Hi.out _)))
                   rename Nat => qq
                   go_wp2
                   exact HPf.out _ ⟨hg.os, hg.tape, hg.output, hg.size, hg.block⟩ HB.out
                 · have HS4 := Lib.hid (Hst2.out ⟨fun h => absurd h ho, fun h => absurd h hkp⟩)
                   have g2 : ¬ ((k : Int) < xb.phis.length) := by omega
                   clear ho hkp
                   go_upto_region 13 with (fail)
                   go_quiet ((go_at_call 86; exact Calls.quiet_of_same (ssaIn_eq Hi.out _)))
                   rename Nat => qq
                   go_upto_region 15 with (fail)
                   have b1q : Blk (wr.drewN qq) gb 3 ⟨ints blk⟩ := b1
                   have b2q : Blk (wr.drewN qq) gp 3 ⟨ints plc⟩ := b2
                   have bCq : Blk (wr.drewN qq) gc 112 #[.pointer (some ⟨gv, 0, none⟩), .slice Ac p.classes.length cc, .slice Am p.methods.length cm, .int .i64 f.mth, .int .i64 f.entry, .slice (some ⟨bn, on_, none⟩) f.nodes.length cn, .slice (some ⟨bb, off, none⟩) f.blocks.length cb, .slice As f.states.length cs, .slice (some ⟨gb, 0, none⟩) f.nodes.length f.nodes.length, .slice (some ⟨gp, 0, none⟩) f.nodes.length f.nodes.length, tv, lv, dv] := bC
                   have Kq : KB (fun x => x < w7.heap.size ∧ x ≠ gb ∧ x ≠ gp) w7 (wr.drewN qq) := K8.out
                   have hgq : w.grownBy (wr.drewN qq) (some gc) := ⟨hg.os, hg.tape, hg.output, hg.size, hg.block⟩
                   have hzq : w7.heap.size ≤ (wr.drewN qq).heap.size := hz8
                   have KQ := Lib.hid Kq
                   clear b1 b2 bC bX hg hz8 K8 y5 y8 y9 y0 z0 z1 z2 v0 Kq
                   generalize wr.drewN qq = wq at *
                   have y8 : wq.cell? ⟨gc, 8, none⟩ = some (.slice (some ⟨gb, 0, none⟩) f.nodes.length f.nodes.length) := bCq.cell 8
                   have y9 : wq.cell? ⟨gc, 9, none⟩ = some (.slice (some ⟨gp, 0, none⟩) f.nodes.length f.nodes.length) := bCq.cell 9
                   refine wpJ_start (S := fun W => W.cell? ⟨gc, 8, none⟩ = some (.slice (some ⟨gb, 0, none⟩) f.nodes.length f.nodes.length) ∧ W.cell? ⟨gc, 9, none⟩ = some (.slice (some ⟨gp, 0, none⟩) f.nodes.length f.nodes.length)) (fun _ => true) (by kernel_rfl) ⟨y8, y9⟩ (fun HS => ?_)
                   refine takeQ 0 103 rfl HS (.inl ⟨rfl, fun W hW => by obtain ⟨h8, h9⟩ := hW; go_simp; rfl⟩) ?_
                   simp only [pS]
                   refine takeQ 1 104 rfl HS (.inl ⟨rfl, fun W hW => by obtain ⟨h8, h9⟩ := hW; go_simp; rfl⟩) ?_
                   simp only [pS]
                   refine takeQ 2 105 rfl HS (.inl ⟨rfl, fun W hW => by obtain ⟨h8, h9⟩ := hW; go_simp; rfl⟩) ?_
                   simp only [pS]
                   refine takeQ 3 106 rfl HS (.inl ⟨rfl, fun W hW => by obtain ⟨h8, h9⟩ := hW; go_simp; rfl⟩) ?_
                   simp only [pS]
                   refine takeQ 4 107 rfl HS (.inl ⟨rfl, fun W hW => by obtain ⟨h8, h9⟩ := hW; go_simp; rfl⟩) ?_
                   simp only [pS]
                   refine takeQ 5 108 rfl HS (.inl ⟨rfl, fun W hW => by obtain ⟨h8, h9⟩ := hW; go_simp; rfl⟩) ?_
                   simp only [pS]
                   refine takeQ 6 109 rfl HS (.inl ⟨rfl, fun W hW => by obtain ⟨h8, h9⟩ := hW; go_simp; rfl⟩) ?_
                   simp only [pS]
                   refine takeQ 7 110 rfl HS (.inl ⟨rfl, fun W hW => by obtain ⟨h8, h9⟩ := hW; go_simp; rfl⟩) ?_
                   simp only [pS]
                   refine takeQ 8 111 rfl HS (.inl ⟨rfl, fun W hW => by obtain ⟨h8, h9⟩ := hW; go_simp; rfl⟩) ?_
                   simp only [pS]
                   refine takeQ 9 112 rfl HS (.inl ⟨rfl, fun W hW => by obtain ⟨h8, h9⟩ := hW; go_simp; rfl⟩) ?_
                   simp only [pS]
                   refine takeQ 10 113 rfl HS (.inl ⟨rfl, fun W hW => by obtain ⟨h8, h9⟩ := hW; go_simp; rfl⟩) ?_
                   simp only [pS]
                   refine takeQ 11 114 rfl HS (.inl ⟨rfl, fun W hW => by obtain ⟨h8, h9⟩ := hW; go_simp; rfl⟩) ?_
                   simp only [pS]
                   refine takeQ 12 115 rfl HS (.inl ⟨rfl, fun W hW => by obtain ⟨h8, h9⟩ := hW; go_simp; rfl⟩) ?_
                   simp only [pS]
                   have z1 := ints_cell b1q (show m < blk.length by rw [HN.out.l1]; exact hmn)
                   have f1 := b1q.frozen m
                   have lq1 := b1q.lt
                   refine stepQ 13 rfl (fun K HK => ?_)
                   go_simp
                   have b1r := ints_blk_set b1q m (b : Int)
                   have b2r := b2q.far (p := ⟨gb, m, none⟩) (Ne.symm ne) (.int .i64 (b : Int))
                   have bCr := bCq.far (p := ⟨gb, m, none⟩) (by show gc ≠ gb; omega) (.int .i64 (b : Int))
                   have Kr := Lib.hid (KQ.out.set (p := ⟨gb, m, none⟩) (by simp) (.int .i64 (b : Int)))
                   have hgr := grown_new hgq (p := ⟨gb, m, none⟩) lb (.int .i64 (b : Int))
                   have hzr : w7.heap.size ≤ (wq.setCell ⟨gb, m, none⟩ (.int .i64 (b : Int))).heap.size := by simpa using hzq
                   have HSr : World.cell? (wq.setCell ⟨gb, m, none⟩ (.int .i64 (b : Int))) ⟨gc, 8, none⟩ = some (.slice (some ⟨gb, 0, none⟩) f.nodes.length f.nodes.length) ∧ World.cell? (wq.setCell ⟨gb, m, none⟩ (.int .i64 (b : Int))) ⟨gc, 9, none⟩ = some (.slice (some ⟨gp, 0, none⟩) f.nodes.length f.nodes.length) := ⟨bCr.cell 8, bCr.cell 9⟩
                   refine HK.out _ _ (fun _ => HSr) ?_
                   clear HK HS z1 f1 lq1 b1q b2q bCq KQ hgq hzq y8 y9
                   generalize wq.setCell ⟨gb, m, none⟩ (.int .i64 (b : Int)) = ws at *
                   try simp only [pS]
                   refine takeQ 14 116 rfl HSr (.inl ⟨rfl, fun W hW => by obtain ⟨h8, h9⟩ := hW; go_simp; rfl⟩) ?_
                   simp only [pS]
                   have z2 := ints_cell b2r (show m < plc.length by rw [HN.out.l2]; exact hmn)
                   have f2 := b2r.frozen m
                   have lq2 := b2r.lt
                   refine stepQ 15 rfl (fun K HK => ?_)
                   go_simp
                   have b1s := b1r.far (p := ⟨gp, m, none⟩) ne (.int .i64 (k : Int))
                   have b2s := ints_blk_set b2r m (k : Int)
                   have bCs := bCr.far (p := ⟨gp, m, none⟩) (by show gc ≠ gp; omega) (.int .i64 (k : Int))
                   have Ks := Lib.hid (Kr.out.set (p := ⟨gp, m, none⟩) (by simp) (.int .i64 (k : Int)))
                   have hgs := grown_new hgr (p := ⟨gp, m, none⟩) lp (.int .i64 (k : Int))
                   have hzs : w7.heap.size ≤ (ws.setCell ⟨gp, m, none⟩ (.int .i64 (k : Int))).heap.size := by simpa using hzr
                   have HSs : World.cell? (ws.setCell ⟨gp, m, none⟩ (.int .i64 (k : Int))) ⟨gc, 8, none⟩ = some (.slice (some ⟨gb, 0, none⟩) f.nodes.length f.nodes.length) ∧ World.cell? (ws.setCell ⟨gp, m, none⟩ (.int .i64 (k : Int))) ⟨gc, 9, none⟩ = some (.slice (some ⟨gp, 0, none⟩) f.nodes.length f.nodes.length) := ⟨bCs.cell 8, bCs.cell 9⟩
                   refine HK.out _ _ (fun _ => HSs) ?_
                   clear HK HSr z2 f2 lq2 b1r b2r bCr Kr hgr hzr
                   generalize ws.setCell ⟨gp, m, none⟩ (.int .i64 (k : Int)) = wt at *
                   refine wpAnyJ_done (by kernel_rfl) ?_ _
                   go_wp2
                   go_roundw
                   case rel => exact ⟨k + 1, _, _, by omega, by go_num, HS4, b1s, b2s, Lib.hid Ks.out, hzs, ⟨hgs.os, hgs.tape, hgs.output, hgs.size, hgs.block⟩⟩
                   case measure => simp [intOf]; omega
         · have e : k = (allN xb).length := by omega
           have hge : ¬ (k : Int) < (allN xb).length := by omega
           have HN0 := HN.out
           rw [e] at HN0
           have HN2 := Lib.hid (HN0.next (by rw [show bkAt f b = xb from Hxb.out]; exact Nat.le_refl _))
           have hzz := Hz.out
           have K9 := Lib.hid (K7.out.trans (K8.out.sub (fun x hx => ⟨by omega, hx.2.1, hx.2.2⟩)))
           have hz9 : wc.heap.size ≤ wr.heap.size := by omega
           clear e hkl HN0 bC bX hzz
           go_wp2
           go_roundw
           case rel => exact ⟨b + 1, blk, plc, by omega, by go_num, HN2, b1, b2, K9, hz9, hg⟩
           case measure => simp [intOf]; omega
      · have e : b = f.blocks.length := by omega
        have hge : ¬ (b : Int) < f.blocks.length := by omega
        have hN0 := HN.out
        rw [e] at hN0
        have HN0 := Lib.hid hN0
        have y8 : wr.cell? ⟨gc, 8, none⟩ = some (.slice (some ⟨gb, 0, none⟩) f.nodes.length f.nodes.length) := bC3.cell 8
        have hlb : blk.length = f.nodes.length := hN0.l1
        have Hcon := Lib.hid (contains_any (c := f.nodes.length) wr (Blk.rd (B := wr.heap.size) (size := 1) (n := f.nodes.length) b1 (by simpa [ints] using hlb) b1.lt) (by omega) (-1))
        have Kf := Lib.hid (HK1.out.sub (S' := fun x => x < wc.heap.size ∧ x ≠ gb ∧ x ≠ gp) (fun x hx => ⟨hx.1, hx.2.1⟩) |>.trans K.out)
        have Hlb := Lib.hid hlb
        clear e hlt hN0 bC3 hlb hSK
        go_wp2_with fail
        refine Hcon.out.mono ?_
        rintro e w9 ⟨rfl, rfl⟩
        by_cases hm : (-1 : Int) ∈ blk
        · rw [decide_eq_true hm]
          obtain ⟨i, hi, e2⟩ := List.getElem_of_mem hm
          have HB := Lib.hid (HN0.out.left (Nat.le_refl _) (i := i) (by rw [← Hlb.out]; exact hi) (by simp [List.getD_eq_getElem?_getD, hi, e2]))
          clear hm e2
          go_wp2
          exact HPf.out _ hg HB.out
        · rw [decide_eq_false hm]
          have HS := Lib.hid (HN0.out.done (Nat.le_refl _) (fun i hi h => hm (by
           have hil : i < blk.length := by rw [Hlb.out]; exact hi
           have : blk.getD i 0 = blk[i] := by simp [List.getD_eq_getElem?_getD, hil]
           rw [this] at h
           rw [← h]
           exact List.getElem_mem hil)))
          clear hm
          go_wp2
          exact HPt.out _ _ _ hg HS.out b1 b2 Kf.out
end Go.Proofs.YtjjmpfmhggcjiaaGreatDoor
