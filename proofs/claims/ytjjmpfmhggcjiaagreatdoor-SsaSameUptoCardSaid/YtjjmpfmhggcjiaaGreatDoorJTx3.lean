/-
 Tx3.
-/
import Derived.Test.YtjjmpfmhggcjiaaGreatDoorJTx2
import Derived.Test.YtjjmpfmhggcjiaaGreatDoorJCp1
set_option linter.unusedSimpArgs false
set_option linter.unusedVariables false
namespace Go.Proofs.YtjjmpfmhggcjiaaGreatDoor
open Go.RowKit Go.Maps
structure FnOk (T : Lib.PrintTabs) (f : Fn) : Prop where
 mild : Mild f
 i64 : FnI f
 len : (textL T f).length ≤ 100000000000
 ln : f.nodes.length ≤ 2000000
 lb : f.blocks.length ≤ 2000000
 ls : f.states.length ≤ 2000000
theorem RdF.at {w W : World} {An Ab As : Option Addr} {f : Fn} (h : RdF w (fun b => b < w.heap.size) An Ab As f) (hb : Below w.heap.size w W) : RdF W (fun b => b < W.heap.size) An Ab As f :=
 (h.keep (Kept.of_below hb (fun _ h => h))).more (fun b h => Nat.lt_of_lt_of_le h hb.size)
abbrev TPost (s : ByteArray) (w : World) (e : Ending) (w' : World) : Prop := e = .returned (.string s) ∧ Below w.heap.size w w'
theorem text_at {T : Lib.PrintTabs} {w W : World} {An Ab As : Option Addr} (cn cb cs : Nat) {f : Fn} (hF : RdF w (fun b => b < w.heap.size) An Ab As f) (hT : Tabs T w) (ok : FnOk T f) (hb : Below w.heap.size w W) :
 Calls Tryz.prog 27 #[.agg #[.int .i64 f.mth, .int .i64 f.entry, .slice An f.nodes.length cn, .slice Ab f.blocks.length cb, .slice As f.states.length cs]] W (TPost ⟨(textL T f).toArray⟩ W) :=
 text_any T An Ab As cn cb cs f W (hF.at hb) (hT.below hb) ok.mild ok.i64 ok.len ok.ln ok.lb ok.ls
theorem text_eq (T : Lib.PrintTabs) (f g : Fn) : ((⟨(textL T f).toArray⟩ : ByteArray).toList == (⟨(textL T g).toArray⟩ : ByteArray).toList) = dec (f = g) := by
 rw [str_eqb5, Bool.eq_iff_iff, dec_iff5, decide_eq_true_eq]
 refine ⟨fun h => textL_inj T ?_, fun h => by rw [h]⟩
 have := congrArg (fun s => s.data.toList) h
 simpa using this
set_option maxRecDepth 100000 in
set_option maxHeartbeats 4000000 in
theorem same_fn {T : Lib.PrintTabs} (An1 Ab1 As1 An2 Ab2 As2 : Option Addr) (cn1 cb1 cs1 cn2 cb2 cs2 : Nat) (x y : Fn) (w : World) (h1 : RdF w (fun b => b < w.heap.size) An1 Ab1 As1 x) (h2 : RdF w (fun b => b < w.heap.size) An2 Ab2 As2 y) (hT : Tabs T w) (ok1 : FnOk T x) (ok2 : FnOk T y) :
 Calls Tryz.prog 26 #[.agg #[.int .i64 x.mth, .int .i64 x.entry, .slice An1 x.nodes.length cn1, .slice Ab1 x.blocks.length cb1, .slice As1 x.states.length cs1], .agg #[.int .i64 y.mth, .int .i64 y.entry, .slice An2 y.nodes.length cn2, .slice Ab2 y.blocks.length cb2, .slice As2 y.states.length cs2]] w (SamePost w x y) := by
 unfold SamePost
 have k1 := (Blk.new w 30 #[.int .i64 x.mth, .int .i64 x.entry, .slice An1 x.nodes.length cn1, .slice Ab1 x.blocks.length cb1, .slice As1 x.states.length cs1]).alloc (.cells #[.int .i64 y.mth, .int .i64 y.entry, .slice An2 y.nodes.length cn2, .slice Ab2 y.blocks.length cb2, .slice As2 y.states.length cs2] 30)
 have k2 := Blk.newAt (w := w.alloc (.cells #[.int .i64 x.mth, .int .i64 x.entry, .slice An1 x.nodes.length cn1, .slice Ab1 x.blocks.length cb1, .slice As1 x.states.length cs1] 30)) (g := w.heap.size + 1) (by simp) 30 #[.int .i64 y.mth, .int .i64 y.entry, .slice An2 y.nodes.length cn2, .slice Ab2 y.blocks.length cb2, .slice As2 y.states.length cs2]
 have hw2 := ((Below.refl w.heap.size w).alloc (Nat.le_refl _) (.cells #[.int .i64 x.mth, .int .i64 x.entry, .slice An1 x.nodes.length cn1, .slice Ab1 x.blocks.length cb1, .slice As1 x.states.length cs1] 30)).alloc (by simp) (.cells #[.int .i64 y.mth, .int .i64 y.entry, .slice An2 y.nodes.length cn2, .slice Ab2 y.blocks.length cb2, .slice As2 y.states.length cs2] 30)
 have Ht1 := Lib.hid (fun W (hW : Below w.heap.size w W) => text_at cn1 cb1 cs1 h1 hT ok1 hW)
 have Ht2 := Lib.hid (fun W (hW : Below w.heap.size w W) => text_at cn2 cb2 cs2 h2 hT ok2 hW)
 have hse := text_eq T x y
 clear h1 h2 hT ok1 ok2
 generalize (⟨(textL T x).toArray⟩ : ByteArray) = s1 at *
 generalize (⟨(textL T y).toArray⟩ : ByteArray) = s2 at *
 generalize dec (x = y) = same at *
 go_enter Tryz.func26, Tryz.ntmps26
 go_upto_region 1 with (fail)
 generalize (w.alloc (.cells #[.int .i64 x.mth, .int .i64 x.entry, .slice An1 x.nodes.length cn1, .slice Ab1 x.blocks.length cb1, .slice As1 x.states.length cs1] 30)).alloc (.cells #[.int .i64 y.mth, .int .i64 y.entry, .slice An2 y.nodes.length cn2, .slice Ab2 y.blocks.length cb2, .slice As2 y.states.length cs2] 30) = w2 at *
 refine wpJ_start (S := fun W : World => Blk W w.heap.size 30 #[.int .i64 x.mth, .int .i64 x.entry, .slice An1 x.nodes.length cn1, .slice Ab1 x.blocks.length cb1, .slice As1 x.states.length cs1] ∧ Blk W (w.heap.size + 1) 30 #[.int .i64 y.mth, .int .i64 y.entry, .slice An2 y.nodes.length cn2, .slice Ab2 y.blocks.length cb2, .slice As2 y.states.length cs2]) (fun _ => true) (by kernel_rfl) ⟨k1, k2⟩ (fun HS => ?_)
 refine takeQ 0 5 rfl HS (.inl ⟨rfl, fun W hW => by have q0 : World.cell? W ⟨w.heap.size, 0, none⟩ = some (.int .i64 x.mth) := hW.1.cell 0; have q1 : World.cell? W ⟨w.heap.size, 1, none⟩ = some (.int .i64 x.entry) := hW.1.cell 1; have q2 : World.cell? W ⟨w.heap.size, 2, none⟩ = some (.slice An1 x.nodes.length cn1) := hW.1.cell 2; have q3 : World.cell? W ⟨w.heap.size, 3, none⟩ = some (.slice Ab1 x.blocks.length cb1) := hW.1.cell 3; have q4 : World.cell? W ⟨w.heap.size, 4, none⟩ = some (.slice As1 x.states.length cs1) := hW.1.cell 4; go_simp; rfl⟩) ?_
 simp only [pS]
 refine takeQ 2 7 rfl HS (.inl ⟨rfl, fun W hW => by have q0 : World.cell? W ⟨w.heap.size + 1, 0, none⟩ = some (.int .i64 y.mth) := hW.2.cell 0; have q1 : World.cell? W ⟨w.heap.size + 1, 1, none⟩ = some (.int .i64 y.entry) := hW.2.cell 1; have q2 : World.cell? W ⟨w.heap.size + 1, 2, none⟩ = some (.slice An2 y.nodes.length cn2) := hW.2.cell 2; have q3 : World.cell? W ⟨w.heap.size + 1, 3, none⟩ = some (.slice Ab2 y.blocks.length cb2) := hW.2.cell 3; have q4 : World.cell? W ⟨w.heap.size + 1, 4, none⟩ = some (.slice As2 y.states.length cs2) := hW.2.cell 4; go_simp; rfl⟩) ?_
 simp only [pS]
 clear HS
 have hb := hw2.drew
 refine stepQ 1 rfl (fun K HK => ?_)
 go_simp
 refine (Ht1.out w2.drew hb).mono ?_
 rintro e w3 ⟨rfl, hb3⟩
 have k1 : Blk w3 _ _ _ := Blk.below (w := w2.drew) k1 hb3 k1.lt
 have k2 : Blk w3 _ _ _ := Blk.below (w := w2.drew) k2 hb3 k2.lt
 have hb := hb.trans (hb3.mono hb.size)
 refine HK.out _ _ (fun _ => ⟨k1, k2⟩) ?_
 clear HK hb3
 try simp only [pS]
 refine stepQ 3 rfl (fun K HK => ?_)
 go_simp
 refine (Ht2.out w3 hb).mono ?_
 rintro e w4 ⟨rfl, hb4⟩
 have k1 := k1.below hb4 k1.lt
 have k2 := k2.below hb4 k2.lt
 have hb := hb.trans (hb4.mono hb.size)
 refine HK.out _ _ (fun _ => ⟨k1, k2⟩) ?_
 clear HK hb4
 try simp only [pS]
 refine stepQ 4 rfl (fun K HK => ?_)
 go_simp
 refine HK.out _ _ (fun _ => ⟨k1, k2⟩) ?_
 clear HK
 try simp only [pS]
 refine stepQ 5 rfl (fun K HK => ?_)
 go_simp
 refine HK.out _ _ (fun _ => ⟨k1, k2⟩) ?_
 clear HK
 refine wpAnyJ_done (by kernel_rfl) ?_ _
 go_wp2
 go_ret
 exact ⟨ret_bool rfl, hb⟩
end Go.Proofs.YtjjmpfmhggcjiaaGreatDoor
