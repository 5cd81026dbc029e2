/-
 PgRNext, Rv1, Rv2, Rv3, PgLight, LightB, Rv4, Rv5, OfFew, Rf5, Ss6, Rl2.
-/
import Derived.IntWalk
import Derived.Test.YtjjmpfmhggcjiaaGreatDoorJShape
import Derived.Test.YtjjmpfmhggcjiaaGreatDoorJSettlePure
import Derived.Test.YtjjmpfmhggcjiaaGreatDoorJPgNext
import Derived.Test.YtjjmpfmhggcjiaaGreatDoorJPgFair
import Derived.Test.YtjjmpfmhggcjiaaGreatDoorJVr1
import Derived.Test.YtjjmpfmhggcjiaaGreatDoorJVr6
import Derived.Test.YtjjmpfmhggcjiaaGreatDoorJVr7
import Derived.Test.YtjjmpfmhggcjiaaGreatDoorJConcat
import Derived.Test.YtjjmpfmhggcjiaaGreatDoorJSs7
import Derived.Test.YtjjmpfmhggcjiaaGreatDoorJSsNd
import Derived.Test.YtjjmpfmhggcjiaaGreatDoorJSsO6
import Derived.Test.YtjjmpfmhggcjiaaGreatDoorJSsCk
import Derived.Test.YtjjmpfmhggcjiaaGreatDoorJRl1
import Derived.Test.YtjjmpfmhggcjiaaGreatDoorJSsO2
import Derived.Test.YtjjmpfmhggcjiaaGreatDoorJRf4
set_option linter.unusedSimpArgs false
set_option linter.unusedVariables false
namespace Go.Proofs.YtjjmpfmhggcjiaaGreatDoor
open Go.RowKit Go.Maps
end Go.Proofs.YtjjmpfmhggcjiaaGreatDoor
namespace Go.Proofs.YtjjmpfmhggcjiaaGreatDoor
open Go.RowKit Go.Maps
end Go.Proofs.YtjjmpfmhggcjiaaGreatDoor
namespace Go.Proofs.YtjjmpfmhggcjiaaGreatDoor
open Go.RowKit Go.Maps
end Go.Proofs.YtjjmpfmhggcjiaaGreatDoor
namespace Go.Proofs.YtjjmpfmhggcjiaaGreatDoor
open Go.RowKit Go.Maps
end Go.Proofs.YtjjmpfmhggcjiaaGreatDoor
namespace Go.Proofs.YtjjmpfmhggcjiaaGreatDoor
open Go.RowKit Go.Maps
end Go.Proofs.YtjjmpfmhggcjiaaGreatDoor
namespace Go.Proofs.YtjjmpfmhggcjiaaGreatDoor
open Go.RowKit Go.Maps
end Go.Proofs.YtjjmpfmhggcjiaaGreatDoor
namespace Go.Proofs.YtjjmpfmhggcjiaaGreatDoor
open Go.RowKit Go.Maps
end Go.Proofs.YtjjmpfmhggcjiaaGreatDoor
namespace Go.Proofs.YtjjmpfmhggcjiaaGreatDoor
open Go.RowKit Go.Maps
end Go.Proofs.YtjjmpfmhggcjiaaGreatDoor
namespace Go.Proofs.YtjjmpfmhggcjiaaGreatDoor
open Go.RowKit Go.Maps
abbrev FewOp (o : Int) : Prop := o = 1 ∨ o = 8 ∨ o = 9 ∨ o = 10 ∨ o = 41 ∨ o = 45 ∨ o = 46 ∨ o = 47
theorem of_few {p : Prg} {f : Fn} (h : ∀ i, i < f.nodes.length → FewOp (ndAt f i).op) : OfAll p f := by
 intro w S gc gv vs gb gp blk plc tv lv dv hN i hi
 rcases h i hi with h | h | h | h | h | h | h | h
 · exact of_1 hN hi h
 · exact of_8 hN hi h
 · exact of_9 hN hi h
 · exact of_10 hN hi h
 · exact of_41 hN hi h
 · exact of_45 hN hi h
 · exact of_46 hN hi h
 · exact of_47 hN hi h
end Go.Proofs.YtjjmpfmhggcjiaaGreatDoor
namespace Go.Proofs.YtjjmpfmhggcjiaaGreatDoor
open Go.RowKit Go.Maps
theorem infoSte : (Tryz.prog.info? 70).map (fun i => (i.zero, i.size, i.bytes)) = some (some (.agg #[.int .i64 0, .int .i64 0, .int .i64 0, .slice none 0 0, .slice none 0 0, .slice none 0 0]), 6, 96) := by kernel_rfl
set_option maxRecDepth 100000 in
set_option maxHeartbeats 2000000 in
theorem states_copy0 (A : Option Addr) (c : Nat) (w : World) :
 Calls Tryz.prog 62 #[.slice A 0 c] w (fun e w' => ∃ A' c', e = .returned (.slice A' 0 c') ∧ Below w.heap.size w w') := by
 obtain ⟨ii, hi1, hi2, hi3, hi4⟩ := info_parts infoSte
 have Hi1 := Lib.hid hi1
 have Hi2 := Lib.hid hi2
 have Hi3 := Lib.hid hi3
 have Hi4 := Lib.hid hi4
 clear hi1 hi2 hi3 hi4
 have hmk : ∀ W : World, (Instr.makeSlice 28 (.int .i64 0) (.int .i64 0)).run Tryz.prog W = .ok (.slice (some ⟨W.heap.size, 0, none⟩) 0 0) (W.alloc (.cells (madeCells #[.int .i64 0, .int .i64 0, .int .i64 0, .slice none 0 0, .slice none 0 0, .slice none 0 0] 0) 70)) := fun W => by
  have h := run_make (P := Tryz.prog) W 28 70 ii (.agg #[.int .i64 0, .int .i64 0, .int .i64 0, .slice none 0 0, .slice none 0 0, .slice none 0 0]) Tryz.underlying28 Hi1.out Hi2.out .i64 .i64 0 0 (by omega) (by omega) (by rw [Hi4.out]; omega) (by omega)
  rw [Int.toNat_zero, Hi3.out, Nat.zero_mul] at h
  exact h
 have HP := Lib.hid (fun A' c' w' (h : Below w.heap.size w w') => (show (fun (e : Ending) (w' : World) => ∃ A' c', e = .returned (.slice A' 0 c') ∧ Below w.heap.size w w') (.returned (.slice A' 0 c')) w' from ⟨A', c', rfl, h⟩))
 generalize (fun (e : Ending) (w' : World) => ∃ A' c', e = .returned (.slice A' 0 c') ∧ Below w.heap.size w w') = Post at *
 go_enter Tryz.func62, Tryz.ntmps62
 go_wp2
 go_loopw [3, 4] (fun v iv wr => iv = .int .i64 0 ∧ ∃ A' c', v = .slice A' 0 c' ∧ Below w.heap.size w wr) (fun _ _ _ => 0)
 case atStart => exact ⟨rfl, _, _, rfl, (Below.refl _ _).alloc (Nat.le_refl _) _⟩
 case round =>
  obtain ⟨rfl, A', c', rfl, hb⟩ := hrel
  go_wp2
  exact HP.out A' c' wr hb
theorem NodesAt.kb {w w' : World} {lo hi : Nat} {A : Option Addr} {c : Nat} {l : List Nd} (h : NodesAt w lo hi A c l) (hk : KB (fun b => lo ≤ b) w w') : NodesAt w' lo hi A c l := by
 obtain ⟨hs, h1, h2, h3, h4, h5⟩ := h
 exact ⟨hs, h1, own_kb h2 (fun g hg => hk g (h2.lt g hg).1), h3.kb (S := fun b => lo ≤ b) hk (fun k h b e1 e2 => (h3.block e1 e2).1), h4, h5⟩
def FnCopied (w : World) (f : Fn) (e : Ending) (w' : World) : Prop :=
 ∃ An cn Ab cb As cs lo hi, e = .returned (.agg #[.int .i64 f.mth, .int .i64 f.entry, .slice An f.nodes.length cn, .slice Ab f.blocks.length cb, .slice As 0 cs]) ∧ NodesAt w' lo hi An cn f.nodes ∧ RdL bkShape w' (fun b => hi ≤ b ∧ b < w'.heap.size) Ab f.blocks ∧ w.heap.size ≤ lo ∧ lo ≤ hi ∧ hi ≤ w'.heap.size ∧ Below w.heap.size w w'
theorem rdl_live {α : Type} {s : Shape α} {w w' : World} {S : Nat → Prop} {B : Nat} {A : Option Addr} {l : List α} (h : RdL s w S A l) (hb : Below B w w') (hS : ∀ b, S b → b < B) : RdL s w' S A l := h.keep (Kept.of_below hb hS)
set_option maxRecDepth 100000 in
set_option maxHeartbeats 2000000 in
theorem fn_copy {S : Nat → Prop} (An Ab As : Option Addr) (cn cb cs : Nat) (f : Fn) (w : World) (hrn : RdL ndShape w S An f.nodes) (hrb : RdL bkShape w S Ab f.blocks) (hS : ∀ b, S b → b < w.heap.size) (hl1 : f.nodes.length ≤ 100000) (hl2 : f.blocks.length ≤ 100000) (hx : ∀ k, k < f.nodes.length → (f.nodes.getD k default).args.length ≤ 1000000)
 (hy : ∀ k, k < f.blocks.length → (f.blocks.getD k default).phis.length ≤ 1000000 ∧ (f.blocks.getD k default).body.length ≤ 1000000 ∧ (f.blocks.getD k default).succ.length ≤ 1000000 ∧ (f.blocks.getD k default).preds.length ≤ 1000000) :
 Calls Tryz.prog 28 #[.agg #[.int .i64 f.mth, .int .i64 f.entry, .slice An f.nodes.length cn, .slice Ab f.blocks.length cb, .slice As 0 cs]] w (FnCopied w f) := by
 have HP := Lib.hid (fun A1 c1 A2 c2 A3 c3 lo hi w' (h1 : NodesAt w' lo hi A1 c1 f.nodes) (h2 : RdL bkShape w' (fun b => hi ≤ b ∧ b < w'.heap.size) A2 f.blocks) (h3 : w.heap.size ≤ lo) (h4 : lo ≤ hi) (h5 : hi ≤ w'.heap.size) (h6 : Below w.heap.size w w') => (show FnCopied w f (.returned (.agg #[.int .i64 f.mth, .int .i64 f.entry, .slice A1 f.nodes.length c1, .slice A2 f.blocks.length c2, .slice A3 0 c3])) w' from ⟨A1, c1, A2, c2, A3, c3, lo, hi, rfl, h1, h2, h3, h4, h5, h6⟩))
 generalize FnCopied w f = Post at *
 have H1 := Lib.hid (fun W (hW : Below w.heap.size w W) => nodes_copy An cn f.nodes W (hrn.below hW hS) (fun b h => Nat.lt_of_lt_of_le (hS b h) hW.size) hl1 hx)
 have H2 := Lib.hid (fun W (hW : Below w.heap.size w W) => blocks_copy Ab cb f.blocks W (hrb.below hW hS) (fun b h => Nat.lt_of_lt_of_le (hS b h) hW.size) hl2 hy)
 have bN := (Blk.new w 30 #[.int .i64 f.mth, .int .i64 f.entry, .slice An f.nodes.length cn, .slice Ab f.blocks.length cb, .slice As 0 cs]).alloc (.cells #[.int .i64 0, .int .i64 0, .slice none 0 0, .slice none 0 0, .slice none 0 0] 30)
 have bR := Blk.newAt (w := w.alloc (.cells #[.int .i64 f.mth, .int .i64 f.entry, .slice An f.nodes.length cn, .slice Ab f.blocks.length cb, .slice As 0 cs] 30)) (g := w.heap.size + 1) (by simp) 30 #[.int .i64 0, .int .i64 0, .slice none 0 0, .slice none 0 0, .slice none 0 0]
 have hb := ((Below.refl w.heap.size w).alloc (Nat.le_refl _) (.cells #[.int .i64 f.mth, .int .i64 f.entry, .slice An f.nodes.length cn, .slice Ab f.blocks.length cb, .slice As 0 cs] 30)).alloc (by simp) (.cells #[.int .i64 0, .int .i64 0, .slice none 0 0, .slice none 0 0, .slice none 0 0] 30)
 have hz : ((w.alloc (.cells #[.int .i64 f.mth, .int .i64 f.entry, .slice An f.nodes.length cn, .slice Ab f.blocks.length cb, .slice As 0 cs] 30)).alloc (.cells #[.int .i64 0, .int .i64 0, .slice none 0 0, .slice none 0 0, .slice none 0 0] 30)).heap.size = w.heap.size + 2 := by simp
 have Hz := Lib.hid hz
 clear hz hrn hrb hS hx hy hl1 hl2
 go_enter Tryz.func28, Tryz.ntmps28
 go_upto_region 1 with (fail)
 generalize (w.alloc (.cells #[.int .i64 f.mth, .int .i64 f.entry, .slice An f.nodes.length cn, .slice Ab f.blocks.length cb, .slice As 0 cs] 30)).alloc (.cells #[.int .i64 0, .int .i64 0, .slice none 0 0, .slice none 0 0, .slice none 0 0] 30) = w2 at *
 refine wpJ_start (S := Below w2.heap.size w2) (fun q => decide (q ≤ 13)) (by kernel_rfl) (Below.refl _ _).drew (fun HS => ?_)
 refine takeQ 0 3 rfl HS (.inl ⟨rfl, fun W hW => by go_simp; rfl⟩) ?_
 simp only [pS]
 refine takeQ 1 4 rfl HS (.inl ⟨rfl, fun W hW => by have h0 := (bN.below hW bN.lt).cell 0; simp at h0; go_simp; rfl⟩) ?_
 simp only [pS]
 refine takeQ 2 5 rfl HS (.inl ⟨rfl, fun W hW => by go_simp; rfl⟩) ?_
 simp only [pS]
 refine takeQ 3 6 rfl HS (.inl ⟨rfl, fun W hW => by have h0 := (bN.below hW bN.lt).cell 1; simp at h0; go_simp; rfl⟩) ?_
 simp only [pS]
 refine takeQ 4 7 rfl HS (.inl ⟨rfl, fun W hW => by go_simp; rfl⟩) ?_
 simp only [pS]
 refine takeQ 5 8 rfl HS (.inl ⟨rfl, fun W hW => by have h0 := (bN.below hW bN.lt).cell 2; simp at h0; go_simp; rfl⟩) ?_
 simp only [pS]
 refine takeQ 7 10 rfl HS (.inl ⟨rfl, fun W hW => by go_simp; rfl⟩) ?_
 simp only [pS]
 refine takeQ 8 11 rfl HS (.inl ⟨rfl, fun W hW => by have h0 := (bN.below hW bN.lt).cell 3; simp at h0; go_simp; rfl⟩) ?_
 simp only [pS]
 refine takeQ 10 13 rfl HS (.inl ⟨rfl, fun W hW => by go_simp; rfl⟩) ?_
 simp only [pS]
 refine takeQ 11 14 rfl HS (.inl ⟨rfl, fun W hW => by have h0 := (bN.below hW bN.lt).cell 4; simp at h0; go_simp; rfl⟩) ?_
 simp only [pS]
 have hw3 := HS
 refine stepQ 6 rfl (fun K' HK => ?_)
 go_simp
 refine (H1.out w2.drew (hb.trans (hw3.mono hb.size))).mono ?_
 rintro e u1 ⟨A1, c1, rfl, hn1, hbn⟩
 have hw3 := hw3.trans (hbn.mono hw3.size)
 have hlo : w2.heap.size ≤ w2.drew.heap.size := Nat.le_refl _
 have hn2 : NodesAt u1 w2.heap.size u1.heap.size A1 c1 f.nodes := hn1
 have hs1 := hw3.size
 refine HK.out _ _ (fun _ => hw3) ?_
 clear HK hbn hn1 hlo
 try simp only [pS]
 refine stepQ 9 rfl (fun K' HK => ?_)
 go_simp
 refine (H2.out u1 (hb.trans (hw3.mono hb.size))).mono ?_
 rintro e u2 ⟨A2, c2, rfl, hr1, hbn⟩
 have hn3 := hn2.below hbn
 have hs2 := hbn.size
 have hw3 := hw3.trans (hbn.mono hw3.size)
 refine HK.out _ _ (fun _ => hw3) ?_
 clear HK hbn hn2
 try simp only [pS]
 refine stepQ 12 rfl (fun K' HK => ?_)
 go_simp
 refine (states_copy0 As cs u2).mono ?_
 rintro e u3 ⟨A3, c3, rfl, hbn⟩
 have hn4 := hn3.below (hbn.mono hs2)
 have hr2 := rdl_live hr1 hbn (fun b h => h.2)
 have hs3 := hbn.size
 have hw3 := hw3.trans (hbn.mono hw3.size)
 refine HK.out _ _ (fun _ => hw3) ?_
 clear HK hbn hn3 hr1 HS
 try simp only [pS]
 refine takeQ 13 16 rfl hw3 (.inl ⟨rfl, fun W hW => by go_simp; rfl⟩) ?_
 simp only [pS]
 have bR3 := bR.below hw3 bR.lt
 have hb3 := hb.trans (hw3.mono hb.size)
 have hzz := Hz.out
 have hr3 := hr2.more (S' := fun b => u1.heap.size ≤ b ∧ b < u3.heap.size) (fun b h => ⟨h.1, by omega⟩)
 have hn5 := hn4
 clear hr2 hn4 bN bR hb
 have i0 : World.cell? _ ⟨w.heap.size + 1, 0, none⟩ = some (.int .i64 0) := bR3.cell 0
 have if0 := bR3.frozen 0
 have i1 : World.cell? _ ⟨w.heap.size + 1, 1, none⟩ = some (.int .i64 0) := bR3.cell 1
 have if1 := bR3.frozen 1
 have i2 : World.cell? _ ⟨w.heap.size + 1, 2, none⟩ = some (.slice none 0 0) := bR3.cell 2
 have if2 := bR3.frozen 2
 have i3 : World.cell? _ ⟨w.heap.size + 1, 3, none⟩ = some (.slice none 0 0) := bR3.cell 3
 have if3 := bR3.frozen 3
 have i4 : World.cell? _ ⟨w.heap.size + 1, 4, none⟩ = some (.slice none 0 0) := bR3.cell 4
 have if4 := bR3.frozen 4
 have il := bR3.lt
 refine stepQ 14 rfl (fun K' HK => ?_)
 go_simp
 have K4 := Lib.hid ((((((KB.refl (fun b => w2.heap.size ≤ b) u3).set (p := ⟨w.heap.size + 1, 0, none⟩) (by show ¬ w2.heap.size ≤ w.heap.size + 1; omega) (.int .i64 f.mth)).set (p := ⟨w.heap.size + 1, 1, none⟩) (by show ¬ w2.heap.size ≤ w.heap.size + 1; omega) (.int .i64 f.entry)).set (p := ⟨w.heap.size + 1, 2, none⟩) (by show ¬ w2.heap.size ≤ w.heap.size + 1; omega) (.slice A1 f.nodes.length c1)).set (p := ⟨w.heap.size + 1, 3, none⟩) (by show ¬ w2.heap.size ≤ w.heap.size + 1; omega) (.slice A2 f.blocks.length c2)).set (p := ⟨w.heap.size + 1, 4, none⟩) (by show ¬ w2.heap.size ≤ w.heap.size + 1; omega) (.slice A3 0 c3))
 have hb4 := (((((hb3.setCell (p := ⟨w.heap.size + 1, 0, none⟩) (by show w.heap.size ≤ w.heap.size + 1; omega) (.int .i64 f.mth)).setCell (p := ⟨w.heap.size + 1, 1, none⟩) (by show w.heap.size ≤ w.heap.size + 1; omega) (.int .i64 f.entry)).setCell (p := ⟨w.heap.size + 1, 2, none⟩) (by show w.heap.size ≤ w.heap.size + 1; omega) (.slice A1 f.nodes.length c1)).setCell (p := ⟨w.heap.size + 1, 3, none⟩) (by show w.heap.size ≤ w.heap.size + 1; omega) (.slice A2 f.blocks.length c2)).setCell (p := ⟨w.heap.size + 1, 4, none⟩) (by show w.heap.size ≤ w.heap.size + 1; omega) (.slice A3 0 c3))
 have bR4 := (((((bR3.set_ 0 (.int .i64 f.mth)).set_ 1 (.int .i64 f.entry)).set_ 2 (.slice A1 f.nodes.length c1)).set_ 3 (.slice A2 f.blocks.length c2)).set_ 4 (.slice A3 0 c3))
 simp only [List.setIfInBounds_toArray, List.set_cons_zero, List.set_cons_succ] at bR4
 have Hz4 := Lib.hid (show (((((u3.setCell ⟨w.heap.size + 1, 0, none⟩ (.int .i64 f.mth)).setCell ⟨w.heap.size + 1, 1, none⟩ (.int .i64 f.entry)).setCell ⟨w.heap.size + 1, 2, none⟩ (.slice A1 f.nodes.length c1)).setCell ⟨w.heap.size + 1, 3, none⟩ (.slice A2 f.blocks.length c2)).setCell ⟨w.heap.size + 1, 4, none⟩ (.slice A3 0 c3)).heap.size = u3.heap.size by simp)
 refine HK.out _ _ (fun h => by simp at h) ?_
 clear HK i0 if0 i1 if1 i2 if2 i3 if3 i4 if4 il bR3 hb3 hw3
 generalize (((((u3.setCell ⟨w.heap.size + 1, 0, none⟩ (.int .i64 f.mth)).setCell ⟨w.heap.size + 1, 1, none⟩ (.int .i64 f.entry)).setCell ⟨w.heap.size + 1, 2, none⟩ (.slice A1 f.nodes.length c1)).setCell ⟨w.heap.size + 1, 3, none⟩ (.slice A2 f.blocks.length c2)).setCell ⟨w.heap.size + 1, 4, none⟩ (.slice A3 0 c3)) = w4 at *
 refine wpAnyJ_done (by kernel_rfl) ?_ _
 have q0 : World.cell? _ ⟨w.heap.size + 1, 0, none⟩ = some (.int .i64 f.mth) := bR4.cell 0
 have q1 : World.cell? _ ⟨w.heap.size + 1, 1, none⟩ = some (.int .i64 f.entry) := bR4.cell 1
 have q2 : World.cell? _ ⟨w.heap.size + 1, 2, none⟩ = some (.slice A1 f.nodes.length c1) := bR4.cell 2
 have q3 : World.cell? _ ⟨w.heap.size + 1, 3, none⟩ = some (.slice A2 f.blocks.length c2) := bR4.cell 3
 have q4 : World.cell? _ ⟨w.heap.size + 1, 4, none⟩ = some (.slice A3 0 c3) := bR4.cell 4
 go_wp2
 refine bodyPost_ret (v := .agg #[.int .i64 f.mth, .int .i64 f.entry, .slice A1 f.nodes.length c1, .slice A2 f.blocks.length c2, .slice A3 0 c3]) (by simp [results, Tryz.results28, go_sem, q0, q1, q2, q3, q4]) rfl ?_
 have h1 := Hz4.out
 refine HP.out A1 c1 A2 c2 A3 c3 w2.heap.size u1.heap.size w4 (hn5.kb K4.out) ((hr3.keep (K4.out.kept.sub (fun b h => by omega))).more (fun b h => ⟨h.1, by omega⟩)) (by omega) hs1 (by omega) hb4
end Go.Proofs.YtjjmpfmhggcjiaaGreatDoor
namespace Go.Proofs.YtjjmpfmhggcjiaaGreatDoor
open Go.RowKit Go.Maps
def sizeTo (f : Fn) (k : Nat) : Nat := ((f.blocks.take k).map fun b => (allN b).length).sum
def sizeF (f : Fn) : Nat := sizeTo f f.blocks.length
theorem sizeTo_next {f : Fn} {k : Nat} (hk : k < f.blocks.length) : sizeTo f (k + 1) = sizeTo f k + ((f.blocks.getD k default).phis.length + (f.blocks.getD k default).body.length) := by
 unfold sizeTo
 rw [List.take_add_one, List.map_append, List.sum_append]
 simp [hk, allN]
set_option maxRecDepth 100000 in
set_option maxHeartbeats 4000000 in
theorem size_any {S : Nat → Prop} (An Ab As : Option Addr) (cn cb cs : Nat) (f : Fn) (w : World) (hbl : RdL bkShape w S Ab f.blocks) (hS : ∀ b, S b → b < w.heap.size) (hB : f.blocks.length ≤ 500) (hsz : ∀ k, k ≤ f.blocks.length → sizeTo f k ≤ 100000000) :
 Calls Tryz.prog 21 #[fv An Ab As cn cb cs f] w (fun e w' => e = .returned (.int .i64 (sizeF f : Nat)) ∧ Below w.heap.size w w') := by
 have bF := Blk.new w 30 #[.int .i64 f.mth, .int .i64 f.entry, .slice An f.nodes.length cn, .slice Ab f.blocks.length cb, .slice As f.states.length cs]
 have hb1 := (Below.refl w.heap.size w).alloc (Nat.le_refl _) (.cells #[.int .i64 f.mth, .int .i64 f.entry, .slice An f.nodes.length cn, .slice Ab f.blocks.length cb, .slice As f.states.length cs] 30)
 have y3 : World.cell? _ ⟨w.heap.size, 3, none⟩ = some (.slice Ab f.blocks.length cb) := bF.cell 3
 have Hbl := Lib.hid hbl
 have HS := Lib.hid hS
 have Hsz := Lib.hid hsz
 clear hbl hS bF hsz
 go_enter Tryz.func21, Tryz.ntmps21
 go_wp2
 go_loopw [9, 3] (fun iv sv wr => ∃ k : Nat, k ≤ f.blocks.length ∧ iv = .int .i64 k ∧ sv = .int .i64 (sizeTo f k : Nat) ∧ Below w.heap.size w wr) (fun iv _ _ => f.blocks.length - (intOf iv).toNat)
 case atStart => exact ⟨0, Nat.zero_le _, rfl, rfl, hb1⟩
 case round =>
  clear hb1 y3
  obtain ⟨k, hk, rfl, rfl, hb⟩ := hrel
  by_cases hlt : k < f.blocks.length
  · have k0 : (0 : Int) ≤ k := by omega
    have k1 : (k : Int) < f.blocks.length := by omega
    obtain ⟨bb, off, A1, c1, A2, c2, A3, c3, A4, c4, hAb, hSb, x0, x1, x2, x3, -, -, -, -⟩ := rd_bk (Hbl.out.below hb HS.out) hlt
    subst hAb
    have hn := sizeTo_next hlt
    have hle := Hsz.out (k + 1) (by omega)
    generalize f.blocks.getD k default = xb at *
    have Hn := Lib.hid hn
    rw [hn] at hle
    generalize sizeTo f k = sz at *
    generalize xb.phis.length = m1 at *
    generalize xb.body.length = m2 at *
    have hw1 : IntKind.i64.wrap ((m1 : Int) + m2) = (m1 : Int) + m2 := IntWalk.i64_in _ (by omega)
    have hw2 : IntKind.i64.wrap ((sz : Int) + ((m1 : Int) + m2)) = (sz : Int) + ((m1 : Int) + m2) := IntWalk.i64_in _ (by omega)
    have lbw : bb < wr.heap.size := by have := HS.out bb hSb; have := hb.size; omega
    have hbX := hb.alloc hb.size (.cells #[.slice A1 m1 c1, .slice A2 m2 c2, .slice A3 xb.succ.length c3, .slice A4 xb.preds.length c4] 61)
    clear hn
    go_wp2
    go_roundw
    case rel => exact ⟨k + 1, by omega, by go_num, by rw [Hn.out]; simp, hbX⟩
    case measure => simp [intOf]; omega
  · have e : k = f.blocks.length := by omega
    have hge : ¬ (k : Int) < f.blocks.length := by omega
    have HE := Lib.hid (show sizeTo f k = sizeF f by rw [e]; rfl)
    clear hlt e
    generalize sizeTo f k = sz at *
    go_wp2
    go_ret
    exact ⟨congrArg (fun x : Nat => Ending.returned (.int .i64 (x : Int))) HE.out, hb⟩
end Go.Proofs.YtjjmpfmhggcjiaaGreatDoor
namespace Go.Proofs.YtjjmpfmhggcjiaaGreatDoor
open Go.RowKit Go.Maps
def oneVs : List Vs := [⟨[sE, sI], [true, true], [true, true], 1⟩]
theorem one_may : mayP oneP = (0, []) := by decide +kernel
theorem one_verM : verM oneP ⟨sE, sE, sI, [⟨1, 0, 0, 1⟩, ⟨33, 0, 0, 0⟩]⟩ = some ⟨[sE, sI], [true, true], [true, true], 1⟩ := by kernel_rfl
theorem one_ver : Ver oneP oneVs := by
 refine ⟨one_may, rfl, fun i hi => ?_⟩
 match i, hi with
 | 0, _ => exact one_verM
theorem one_pok : POk oneP := by
 refine ⟨by decide, by decide, fun k hk => (by simp [oneP] at hk), fun k hk => ?_⟩
 match k, hk with
 | 0, _ => exact ⟨by decide, by decide, by decide, by decide⟩
theorem one_entry {f : Fn} (h1 : f.mth = 0) (h2 : f.entry = 0) : entryB oneP oneVs f = true := by
 unfold entryB
 rw [h1, h2]
 kernel_rfl
theorem ck_ok {f : Fn} (h1 : f.mth = 0) (h2 : f.entry = 0) (h3 : 1 ≤ f.blocks.length ∧ f.blocks.length ≤ 500 ∧ f.nodes.length ≤ 4000 ∧ f.states.length ≤ 4000) (h : coreOk oneP f) : ckF oneP oneVs f = 0 := by
 unfold ckF
 rw [if_neg (by omega), if_pos (dec_t ⟨one_entry h1 h2, h⟩)]
theorem ck_no {f : Fn} (h3 : 1 ≤ f.blocks.length ∧ f.blocks.length ≤ 500 ∧ f.nodes.length ≤ 4000 ∧ f.states.length ≤ 4000) (h : ¬ coreOk oneP f) : ckF oneP oneVs f = 12 := by
 unfold ckF
 rw [if_neg (by omega), if_neg (fun e => h (dec_p e).2)]
def badFn : Fn := ⟨0, 0, [⟨1, 0, 0, -1, sI, 1, []⟩, ⟨47, 0, 0, -1, sE, 0, [1]⟩], [⟨[], [0, 1], [], []⟩], []⟩
theorem one_row : oneFn = rowFn [] 1 := by rfl
theorem one_ck : ckF oneP oneVs oneFn = 0 := ck_ok rfl rfl (by decide) (by rw [one_row]; exact (row_core [] 1).2 (fun i hi => by simp at hi))
theorem bad_ck : ckF oneP oneVs badFn = 12 := by
 refine ck_no (by decide) ?_
 rintro ⟨blk, plc, S, h1, h2, h3⟩
 obtain ⟨fm, e1, e2⟩ := h2 1 (by decide)
 have e3 : formF oneP badFn blk 1 = some ⟨sE, sI, false, false, false, false⟩ := by
  unfold formF
  rfl
 rw [e3] at e1
 cases e1
 have := (e2.args 0 1 rfl).2.2
 revert this
 decide
theorem one_size : sizeF oneFn = 2 := by decide
theorem one_uses : usesF oneFn = [1, 0] := by decide
end Go.Proofs.YtjjmpfmhggcjiaaGreatDoor
