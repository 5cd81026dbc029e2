/-
 Ls1.
-/
import Derived.Test.YtjjmpfmhggcjiaaGreatDoorJCp0
import Derived.Test.YtjjmpfmhggcjiaaGreatDoorJTx3
import Derived.Test.YtjjmpfmhggcjiaaGreatDoorJLt
set_option linter.unusedSimpArgs false
set_option linter.unusedVariables false
namespace Go.Proofs.YtjjmpfmhggcjiaaGreatDoor
open Go.RowKit Go.Maps
/-- Where an int lay an int lies; all else lies as it did. -/
def KI (w w' : World) : Prop := ∀ p v, w.cell? p = some v → (∃ n, v = .int .i64 n ∧ ∃ m, w'.cell? p = some (.int .i64 m)) ∨ w'.cell? p = some v
theorem KI.refl (w : World) : KI w w := fun _ _ h => .inr h
theorem KI.set {w w' : World} {p : Addr} {n : Int} (h : KI w w') (hp : w.cell? p = some (.int .i64 n)) (m : Int) : KI w (w'.setCell p (.int .i64 m)) := fun q v hq => by
 by_cases e : q = p
 · subst e
   rw [hp] at hq
   cases hq
   have hc : ∃ u, w'.cell? q = some u := by
    rcases h q _ hp with ⟨_, _, m2, h2⟩ | h2
    · exact ⟨_, h2⟩
    · exact ⟨_, h2⟩
   obtain ⟨u, hu⟩ := hc
   exact .inl ⟨n, rfl, m, World.cell?_setCell_same w' q (.int .i64 m) hu⟩
 · rcases h q v hq with ⟨n2, e2, m2, h2⟩ | h2
   · exact .inl ⟨n2, e2, m2, by rw [World.cell?_setCell_other w' p q (.int .i64 m) (fun h => e h.symm)]; exact h2⟩
   · exact .inr (by rw [World.cell?_setCell_other w' p q (.int .i64 m) (fun h => e h.symm)]; exact h2)
/-- What stands of a copy while numbers are written into it. -/
structure Soft (wc wd wr : World) : Prop where
 ki : KI wd wr
 fz : ∀ p, wr.frozen? p = wd.frozen? p
 sz : wr.heap.size = wd.heap.size
 bl : Below wc.heap.size wc wr
section
variable {wc wd wr : World} {p : Addr}
theorem Soft.set (h : Soft wc wd wr) {n : Int} (hp : wd.cell? p = some (.int .i64 n)) (hb : wc.heap.size ≤ p.block) (m : Int) : Soft wc wd (wr.setCell p (.int .i64 m)) :=
 ⟨h.ki.set hp m, fun q => by rw [World.frozen?_setCell]; exact h.fz q, by simp [h.sz], h.bl.setCell hb _⟩
theorem Soft.int (h : Soft wc wd wr) {n : Int} (hp : wd.cell? p = some (.int .i64 n)) : ∃ m, wr.cell? p = some (.int .i64 m) := by
 rcases h.ki p _ hp with ⟨_, _, m, h2⟩ | h2
 · exact ⟨m, h2⟩
 · exact ⟨n, h2⟩
theorem Soft.slice (h : Soft wc wd wr) {A : Option Addr} {n c : Nat} (hp : wd.cell? p = some (.slice A n c)) : wr.cell? p = some (.slice A n c) := by
 rcases h.ki p _ hp with ⟨_, e, _⟩ | h2
 · cases e
 · exact h2
theorem Soft.free (h : Soft wc wd wr) {b : Nat} (hU : UIn wc.heap.size wd b) (i : Nat) : wr.frozen? ⟨b, i, none⟩ = false ∧ b < wr.heap.size := ⟨(h.fz _).trans (hU.2.2 i), by rw [h.sz]; exact hU.2.1⟩
end
def BPost (b : Bool) (w : World) (e : Ending) (w' : World) : Prop := e = .returned (.bool b) ∧ Below w.heap.size w w'
set_option maxRecDepth 100000 in
set_option maxHeartbeats 8000000 in
theorem ssaSame_walk (a : Nat → Addr) (B : Nat) (W : World) (hs : Sent W B all14 a) (hB : B ≤ W.heap.size) (T : Lib.PrintTabs) (hT : Tabs T W) (An1 Ab1 As1 An2 Ab2 As2 : Option Addr) (cn1 cb1 cs1 cn2 cb2 cs2 : Nat) (f g : Fn)
 (hf : RdF W (fun b => b < W.heap.size) An1 Ab1 As1 f) (hg : RdF W (fun b => b < W.heap.size) An2 Ab2 As2 g) (okf : FnOk T f) (okg : FnOk T g) :
 Calls Tryz.prog 7 #[.agg #[.int .i64 f.mth, .int .i64 f.entry, .slice An1 f.nodes.length cn1, .slice Ab1 f.blocks.length cb1, .slice As1 f.states.length cs1], .agg #[.int .i64 g.mth, .int .i64 g.entry, .slice An2 g.nodes.length cn2, .slice Ab2 g.blocks.length cb2, .slice As2 g.states.length cs2]] W (YesPost W) := by
 have HP := Lib.hid (fun w' (h : Below W.heap.size W w') => (show YesPost W (.returned (.bool true)) w' from ⟨rfl, h⟩))
 generalize YesPost W = Post at *
 have HS := Lib.hid hs
 have HT := Lib.hid hT
 have HF := Lib.hid hf
 have HG := Lib.hid hg
 have OF := Lib.hid okf
 have OG := Lib.hid okg
 clear hs hT hf hg okf okg
 have k1 := (Blk.new W 30 #[.int .i64 f.mth, .int .i64 f.entry, .slice An1 f.nodes.length cn1, .slice Ab1 f.blocks.length cb1, .slice As1 f.states.length cs1]).alloc (.cells #[.int .i64 g.mth, .int .i64 g.entry, .slice An2 g.nodes.length cn2, .slice Ab2 g.blocks.length cb2, .slice As2 g.states.length cs2] 30)
 have k2 := Blk.newAt (w := W.alloc (.cells #[.int .i64 f.mth, .int .i64 f.entry, .slice An1 f.nodes.length cn1, .slice Ab1 f.blocks.length cb1, .slice As1 f.states.length cs1] 30)) (g := W.heap.size + 1) (by simp) 30 #[.int .i64 g.mth, .int .i64 g.entry, .slice An2 g.nodes.length cn2, .slice Ab2 g.blocks.length cb2, .slice As2 g.states.length cs2]
 have hb := ((Below.refl W.heap.size W).alloc (Nat.le_refl _) (.cells #[.int .i64 f.mth, .int .i64 f.entry, .slice An1 f.nodes.length cn1, .slice Ab1 f.blocks.length cb1, .slice As1 f.states.length cs1] 30)).alloc (by simp) (.cells #[.int .i64 g.mth, .int .i64 g.entry, .slice An2 g.nodes.length cn2, .slice Ab2 g.blocks.length cb2, .slice As2 g.states.length cs2] 30)
 have hz : ((W.alloc (.cells #[.int .i64 f.mth, .int .i64 f.entry, .slice An1 f.nodes.length cn1, .slice Ab1 f.blocks.length cb1, .slice As1 f.states.length cs1] 30)).alloc (.cells #[.int .i64 g.mth, .int .i64 g.entry, .slice An2 g.nodes.length cn2, .slice Ab2 g.blocks.length cb2, .slice As2 g.states.length cs2] 30)).heap.size = W.heap.size + 2 := by simp
 go_enter Tryz.func7, Tryz.ntmps7
 go_upto_region 1 with (fail)
 generalize (W.alloc (.cells #[.int .i64 f.mth, .int .i64 f.entry, .slice An1 f.nodes.length cn1, .slice Ab1 f.blocks.length cb1, .slice As1 f.states.length cs1] 30)).alloc (.cells #[.int .i64 g.mth, .int .i64 g.entry, .slice An2 g.nodes.length cn2, .slice Ab2 g.blocks.length cb2, .slice As2 g.states.length cs2] 30) = w2 at *
 have HZ := Lib.hid (show W.heap.size + 2 ≤ w2.heap.size by omega)
 clear hz
 have H1 := Lib.hid (first_any a B w2 (HS.out.below hb hB) (Nat.le_trans hB hb.size))
 go_wp2_with fail
 refine H1.out.mono ?_
 rintro e w3 ⟨rfl, hb3⟩
 have k1 := k1.below hb3 k1.lt
 have k2 := k2.below hb3 k2.lt
 have hb := hb.trans (hb3.mono hb.size)
 have HZ := Lib.hid (Nat.le_trans HZ.out hb3.size)
 clear H1 hb3
 have x0 : World.cell? _ ⟨W.heap.size, 0, none⟩ = some (.int .i64 f.mth) := k1.cell 0
 have x1 : World.cell? _ ⟨W.heap.size, 1, none⟩ = some (.int .i64 f.entry) := k1.cell 1
 have x2 : World.cell? _ ⟨W.heap.size, 2, none⟩ = some (.slice An1 f.nodes.length cn1) := k1.cell 2
 have x3 : World.cell? _ ⟨W.heap.size, 3, none⟩ = some (.slice Ab1 f.blocks.length cb1) := k1.cell 3
 have x4 : World.cell? _ ⟨W.heap.size, 4, none⟩ = some (.slice As1 f.states.length cs1) := k1.cell 4
 have xl := k1.lt
 have L1 := Lib.hid (light16_any An1 Ab1 As1 cn1 cb1 cs1 f w3 (HF.out.at hb) (by have := OF.out.ln; omega) (by have := OF.out.lb; omega) (by have := OF.out.ls; omega) (fun k => by have := OF.out.mild.virts k; omega))
 go_wp2_with fail
 refine L1.out.mono ?_
 rintro e w4 ⟨⟨l1, rfl⟩, hb4⟩
 clear x0 x1 x2 x3 x4 xl
 have k1 := k1.below hb4 k1.lt
 have k2 := k2.below hb4 k2.lt
 have hb := hb.trans (hb4.mono hb.size)
 have HZ := Lib.hid (Nat.le_trans HZ.out hb4.size)
 clear L1 hb4
 cases l1 with
 | false =>
   go_wp2
   exact HP.out w4 hb
 | true =>
   have x0 : World.cell? _ ⟨W.heap.size + 1, 0, none⟩ = some (.int .i64 g.mth) := k2.cell 0
   have x1 : World.cell? _ ⟨W.heap.size + 1, 1, none⟩ = some (.int .i64 g.entry) := k2.cell 1
   have x2 : World.cell? _ ⟨W.heap.size + 1, 2, none⟩ = some (.slice An2 g.nodes.length cn2) := k2.cell 2
   have x3 : World.cell? _ ⟨W.heap.size + 1, 3, none⟩ = some (.slice Ab2 g.blocks.length cb2) := k2.cell 3
   have x4 : World.cell? _ ⟨W.heap.size + 1, 4, none⟩ = some (.slice As2 g.states.length cs2) := k2.cell 4
   have xl := k2.lt
   have L2 := Lib.hid (light16_any An2 Ab2 As2 cn2 cb2 cs2 g w4 (HG.out.at hb) (by have := OG.out.ln; omega) (by have := OG.out.lb; omega) (by have := OG.out.ls; omega) (fun k => by have := OG.out.mild.virts k; omega))
   go_wp2_with fail
   refine L2.out.mono ?_
   rintro e w5 ⟨⟨l2, rfl⟩, hb5⟩
   clear x0 x1 x2 x3 x4 xl
   have k1 := k1.below hb5 k1.lt
   have k2 := k2.below hb5 k2.lt
   have hb := hb.trans (hb5.mono hb.size)
   have HZ := Lib.hid (Nat.le_trans HZ.out hb5.size)
   clear L2 hb5
   cases l2 with
   | false =>
     go_wp2
     exact HP.out w5 hb
   | true =>
     have x0 : World.cell? _ ⟨W.heap.size, 0, none⟩ = some (.int .i64 f.mth) := k1.cell 0
     have x1 : World.cell? _ ⟨W.heap.size, 1, none⟩ = some (.int .i64 f.entry) := k1.cell 1
     have x2 : World.cell? _ ⟨W.heap.size, 2, none⟩ = some (.slice An1 f.nodes.length cn1) := k1.cell 2
     have x3 : World.cell? _ ⟨W.heap.size, 3, none⟩ = some (.slice Ab1 f.blocks.length cb1) := k1.cell 3
     have x4 : World.cell? _ ⟨W.heap.size, 4, none⟩ = some (.slice As1 f.states.length cs1) := k1.cell 4
     have xl := k1.lt
     have Cp := Lib.hid (copyFn_any An1 Ab1 As1 cn1 cb1 cs1 f w5 (HF.out.at hb) OF.out.mild OF.out.ln OF.out.lb OF.out.ls)
     go_wp2_with fail
     refine Cp.out.mono ?_
     rintro e w6 ⟨An3, Ab3, As3, cn3, cb3, cs3, rfl, hc6, hb6⟩
     clear x0 x1 x2 x3 x4 xl
     have hlo5 := Lib.hid hb.size
     have k1 := k1.below hb6 k1.lt
     have k2 := k2.below hb6 k2.lt
     have hb := hb.trans (hb6.mono hb.size)
     have HZ := Lib.hid (Nat.le_trans HZ.out hb6.size)
     have HC := Lib.hid (hc6.more (S' := fun b => b < w6.heap.size) (fun b h => h.2.1))
     clear Cp hb6 hc6
     have hG3 := HZ
     go_upto_region 5 with (fail)
     have k3 := Blk.new w6 30 #[.int .i64 f.mth, .int .i64 f.entry, .slice An3 f.nodes.length cn3, .slice Ab3 f.blocks.length cb3, .slice As3 f.states.length cs3]
     have hA := (Below.refl w6.heap.size w6).alloc (Nat.le_refl _) (.cells #[.int .i64 f.mth, .int .i64 f.entry, .slice An3 f.nodes.length cn3, .slice Ab3 f.blocks.length cb3, .slice As3 f.states.length cs3] 30)
     have k1 := k1.alloc (.cells #[.int .i64 f.mth, .int .i64 f.entry, .slice An3 f.nodes.length cn3, .slice Ab3 f.blocks.length cb3, .slice As3 f.states.length cs3] 30)
     have k2 := k2.alloc (.cells #[.int .i64 f.mth, .int .i64 f.entry, .slice An3 f.nodes.length cn3, .slice Ab3 f.blocks.length cb3, .slice As3 f.states.length cs3] 30)
     have hb := hb.alloc hb.size (.cells #[.int .i64 f.mth, .int .i64 f.entry, .slice An3 f.nodes.length cn3, .slice Ab3 f.blocks.length cb3, .slice As3 f.states.length cs3] 30)
     have HZ := Lib.hid (Nat.le_trans HZ.out hA.size)
     have HC := Lib.hid (HC.out.at hA)
     clear hA
     obtain ⟨g3, hg3⟩ : ∃ g3, g3 = w6.heap.size := ⟨_, rfl⟩
     rw [← hg3] at k3 hG3 ⊢
     clear hg3
     generalize w6.alloc (.cells #[.int .i64 f.mth, .int .i64 f.entry, .slice An3 f.nodes.length cn3, .slice Ab3 f.blocks.length cb3, .slice As3 f.states.length cs3] 30) = w7 at *
     have x0 : World.cell? _ ⟨W.heap.size, 0, none⟩ = some (.int .i64 f.mth) := k1.cell 0
     have x1 : World.cell? _ ⟨W.heap.size, 1, none⟩ = some (.int .i64 f.entry) := k1.cell 1
     have x2 : World.cell? _ ⟨W.heap.size, 2, none⟩ = some (.slice An1 f.nodes.length cn1) := k1.cell 2
     have x3 : World.cell? _ ⟨W.heap.size, 3, none⟩ = some (.slice Ab1 f.blocks.length cb1) := k1.cell 3
     have x4 : World.cell? _ ⟨W.heap.size, 4, none⟩ = some (.slice As1 f.states.length cs1) := k1.cell 4
     have xl := k1.lt
     have y0 : World.cell? _ ⟨W.heap.size + 1, 0, none⟩ = some (.int .i64 g.mth) := k2.cell 0
     have y1 : World.cell? _ ⟨W.heap.size + 1, 1, none⟩ = some (.int .i64 g.entry) := k2.cell 1
     have y2 : World.cell? _ ⟨W.heap.size + 1, 2, none⟩ = some (.slice An2 g.nodes.length cn2) := k2.cell 2
     have y3 : World.cell? _ ⟨W.heap.size + 1, 3, none⟩ = some (.slice Ab2 g.blocks.length cb2) := k2.cell 3
     have y4 : World.cell? _ ⟨W.heap.size + 1, 4, none⟩ = some (.slice As2 g.states.length cs2) := k2.cell 4
     have yl := k2.lt
     have Sf := Lib.hid (sameFn_any An1 Ab1 As1 An2 Ab2 As2 cn1 cb1 cs1 cn2 cb2 cs2 f g w7 (HF.out.at hb) (HG.out.at hb) OF.out.mild OF.out.ln OF.out.lb OF.out.ls)
     go_wp2_with fail
     refine Sf.out.mono ?_
     rintro e w8 ⟨rfl, hb8⟩
     clear x0 x1 x2 x3 x4 xl
     clear y0 y1 y2 y3 y4 yl
     have k1 := k1.below hb8 k1.lt
     have k2 := k2.below hb8 k2.lt
     have k3 := k3.below hb8 k3.lt
     have hb := hb.trans (hb8.mono hb.size)
     have HZ := Lib.hid (Nat.le_trans HZ.out hb8.size)
     have HC := Lib.hid (HC.out.at hb8)
     clear Sf hb8
     have Q1 := Lib.hid (fun V (h : Hid (Below w8.heap.size w8 V)) => show Calls Tryz.prog 25 #[.agg #[.int .i64 f.mth, .int .i64 f.entry, .slice An3 f.nodes.length cn3, .slice Ab3 f.blocks.length cb3, .slice As3 f.states.length cs3], .agg #[.int .i64 f.mth, .int .i64 f.entry, .slice An1 f.nodes.length cn1, .slice Ab1 f.blocks.length cb1, .slice As1 f.states.length cs1]] V (BPost true V) from (dec_t (show f = f from rfl)) ▸ sameFn_any An3 Ab3 As3 An1 Ab1 As1 cn3 cb3 cs3 cn1 cb1 cs1 f f V (HC.out.at h.out) (HF.out.at (hb.trans (h.out.mono hb.size))) OF.out.mild OF.out.ln OF.out.lb OF.out.ls)
     have Q2 := Lib.hid (fun V (h : Hid (Below w8.heap.size w8 V)) => show Calls Tryz.prog 26 #[.agg #[.int .i64 f.mth, .int .i64 f.entry, .slice An3 f.nodes.length cn3, .slice Ab3 f.blocks.length cb3, .slice As3 f.states.length cs3], .agg #[.int .i64 f.mth, .int .i64 f.entry, .slice An1 f.nodes.length cn1, .slice Ab1 f.blocks.length cb1, .slice As1 f.states.length cs1]] V (BPost true V) from (dec_t (show f = f from rfl)) ▸ same_fn (T := T) An3 Ab3 As3 An1 Ab1 As1 cn3 cb3 cs3 cn1 cb1 cs1 f f V (HC.out.at h.out) (HF.out.at (hb.trans (h.out.mono hb.size))) (HT.out.below (hb.trans (h.out.mono hb.size))) OF.out OF.out)
     have Q3 := Lib.hid (fun V (h : Hid (Below w8.heap.size w8 V)) => show Calls Tryz.prog 26 #[.agg #[.int .i64 f.mth, .int .i64 f.entry, .slice An1 f.nodes.length cn1, .slice Ab1 f.blocks.length cb1, .slice As1 f.states.length cs1], .agg #[.int .i64 g.mth, .int .i64 g.entry, .slice An2 g.nodes.length cn2, .slice Ab2 g.blocks.length cb2, .slice As2 g.states.length cs2]] V (BPost (dec (f = g)) V) from same_fn (T := T) An1 Ab1 As1 An2 Ab2 As2 cn1 cb1 cs1 cn2 cb2 cs2 f g V (HF.out.at (hb.trans (h.out.mono hb.size))) (HG.out.at (hb.trans (h.out.mono hb.size))) (HT.out.below (hb.trans (h.out.mono hb.size))) OF.out OG.out)
     have Q4 := Lib.hid (fun V (h : Hid (Below w8.heap.size w8 V)) => text_at cn1 cb1 cs1 (HF.out.at hb) (HT.out.below hb) OF.out h.out)
     have Q5 := Lib.hid (fun V (h : Hid (Below w8.heap.size w8 V)) => text_at cn2 cb2 cs2 (HG.out.at hb) (HT.out.below hb) OG.out h.out)
     have hse := text_eq T f g
     generalize (⟨(textL T f).toArray⟩ : ByteArray) = s1 at *
     generalize (⟨(textL T g).toArray⟩ : ByteArray) = s2 at *
     generalize dec (f = g) = same at *
     go_upto_region 6 with (fail)
     go_cut [58] from 33 to 140 (fun v wx => v = .bool false ∧ Hid (Blk wx W.heap.size 30 #[.int .i64 f.mth, .int .i64 f.entry, .slice An1 f.nodes.length cn1, .slice Ab1 f.blocks.length cb1, .slice As1 f.states.length cs1]) ∧ Hid (Blk wx g3 30 #[.int .i64 f.mth, .int .i64 f.entry, .slice An3 f.nodes.length cn3, .slice Ab3 f.blocks.length cb3, .slice As3 f.states.length cs3]) ∧ Hid (Below w8.heap.size w8 wx))
     case first =>
      have hB8 := Below.refl w8.heap.size w8
      cases same <;>
      (go_region_held3 (fun V : World => V.cell? ⟨W.heap.size, 0, none⟩ = some (.int .i64 f.mth) ∧ V.cell? ⟨W.heap.size, 1, none⟩ = some (.int .i64 f.entry) ∧ V.cell? ⟨W.heap.size, 2, none⟩ = some (.slice An1 f.nodes.length cn1) ∧ V.cell? ⟨W.heap.size, 3, none⟩ = some (.slice Ab1 f.blocks.length cb1) ∧ V.cell? ⟨W.heap.size, 4, none⟩ = some (.slice As1 f.states.length cs1) ∧ V.cell? ⟨W.heap.size + 1, 0, none⟩ = some (.int .i64 g.mth) ∧ V.cell? ⟨W.heap.size + 1, 1, none⟩ = some (.int .i64 g.entry) ∧ V.cell? ⟨W.heap.size + 1, 2, none⟩ = some (.slice An2 g.nodes.length cn2) ∧ V.cell? ⟨W.heap.size + 1, 3, none⟩ = some (.slice Ab2 g.blocks.length cb2) ∧ V.cell? ⟨W.heap.size + 1, 4, none⟩ = some (.slice As2 g.states.length cs2) ∧ V.cell? ⟨g3, 0, none⟩ = some (.int .i64 f.mth) ∧ V.cell? ⟨g3, 1, none⟩ = some (.int .i64 f.entry) ∧ V.cell? ⟨g3, 2, none⟩ = some (.slice An3 f.nodes.length cn3) ∧ V.cell? ⟨g3, 3, none⟩ = some (.slice Ab3 f.blocks.length cb3) ∧ V.cell? ⟨g3, 4, none⟩ = some (.slice As3 f.states.length cs3) ∧ Hid (Blk V W.heap.size 30 #[.int .i64 f.mth, .int .i64 f.entry, .slice An1 f.nodes.length cn1, .slice Ab1 f.blocks.length cb1, .slice As1 f.states.length cs1]) ∧ Hid (Blk V (W.heap.size + 1) 30 #[.int .i64 g.mth, .int .i64 g.entry, .slice An2 g.nodes.length cn2, .slice Ab2 g.blocks.length cb2, .slice As2 g.states.length cs2]) ∧ Hid (Blk V g3 30 #[.int .i64 f.mth, .int .i64 f.entry, .slice An3 f.nodes.length cn3, .slice Ab3 f.blocks.length cb3, .slice As3 f.states.length cs3]) ∧ Hid (Below w8.heap.size w8 V))
       (first
        | exact ⟨k1.cell 0, k1.cell 1, k1.cell 2, k1.cell 3, k1.cell 4, k2.cell 0, k2.cell 1, k2.cell 2, k2.cell 3, k2.cell 4, k3.cell 0, k3.cell 1, k3.cell 2, k3.cell 3, k3.cell 4, Lib.hid k1, Lib.hid k2, Lib.hid k3, Lib.hid hB8⟩
        | exact ⟨k1.drew.cell 0, k1.drew.cell 1, k1.drew.cell 2, k1.drew.cell 3, k1.drew.cell 4, k2.drew.cell 0, k2.drew.cell 1, k2.drew.cell 2, k2.drew.cell 3, k2.drew.cell 4, k3.drew.cell 0, k3.drew.cell 1, k3.drew.cell 2, k3.drew.cell 3, k3.drew.cell 4, Lib.hid k1.drew, Lib.hid k2.drew, Lib.hid k3.drew, Lib.hid hB8.drew⟩
        | (go_split_ands
           have z1 := Blk.below (Hid.out (by assumption : Hid (Blk _ W.heap.size 30 _))) hbz (Blk.lt (Hid.out (by assumption)))
           have z2 := Blk.below (Hid.out (by assumption : Hid (Blk _ (W.heap.size + 1) 30 _))) hbz (Blk.lt (Hid.out (by assumption)))
           have z3 := Blk.below (Hid.out (by assumption : Hid (Blk _ g3 30 _))) hbz (Blk.lt (Hid.out (by assumption)))
           exact ⟨z1.cell 0, z1.cell 1, z1.cell 2, z1.cell 3, z1.cell 4, z2.cell 0, z2.cell 1, z2.cell 2, z2.cell 3, z2.cell 4, z3.cell 0, z3.cell 1, z3.cell 2, z3.cell 3, z3.cell 4, Lib.hid z1, Lib.hid z2, Lib.hid z3, Lib.hid (Below.trans (Hid.out (by assumption)) (hbz.mono (Below.size (Hid.out (by assumption)))))⟩))
       (first
        | (go_at_call 25; go_split_ands; have zz := Q1.out _ (by assumption); unfold BPost at zz; with_reducible refine zz.mono ?_; rintro e w' ⟨rfl, hbz⟩)
        | (go_at_call 26; go_split_ands; have zz := Q2.out _ (by assumption); unfold BPost at zz; with_reducible refine zz.mono ?_; rintro e w' ⟨rfl, hbz⟩)
        | (go_at_call 26; go_split_ands; have zz := Q3.out _ (by assumption); unfold BPost at zz; with_reducible refine zz.mono ?_; rintro e w' ⟨rfl, hbz⟩)
        | (go_at_call 27; go_split_ands; have zz := Q4.out _ (by assumption); unfold TPost at zz; with_reducible refine zz.mono ?_; rintro e w' ⟨rfl, hbz⟩)
        | (go_at_call 27; go_split_ands; have zz := Q5.out _ (by assumption); unfold TPost at zz; with_reducible refine zz.mono ?_; rintro e w' ⟨rfl, hbz⟩)))
      all_goals
       go_split_ands
       go_wp2
       go_meet
       refine ⟨rfl, ?_, ?_, ?_⟩ <;> assumption
     case rest =>
      obtain ⟨rfl, K1, K3, HB⟩ := hcut
      have k1 := K1.out
      have k3 := K3.out
      have hb := hb.trans (HB.out.mono hb.size)
      have HC := Lib.hid (HC.out.at HB.out)
      have HZ := Lib.hid (Nat.le_trans HZ.out HB.out.size)
      clear K1 K3 HB k2 Q1 Q2 Q3 Q4 Q5 hse
      have x0 : World.cell? _ ⟨W.heap.size, 0, none⟩ = some (.int .i64 f.mth) := k1.cell 0
      have x1 : World.cell? _ ⟨W.heap.size, 1, none⟩ = some (.int .i64 f.entry) := k1.cell 1
      have x2 : World.cell? _ ⟨W.heap.size, 2, none⟩ = some (.slice An1 f.nodes.length cn1) := k1.cell 2
      have x3 : World.cell? _ ⟨W.heap.size, 3, none⟩ = some (.slice Ab1 f.blocks.length cb1) := k1.cell 3
      have x4 : World.cell? _ ⟨W.heap.size, 4, none⟩ = some (.slice As1 f.states.length cs1) := k1.cell 4
      have xl := k1.lt
      have Cp2 := Lib.hid (copyFn_any An1 Ab1 As1 cn1 cb1 cs1 f wc (HF.out.at hb) OF.out.mild OF.out.ln OF.out.lb OF.out.ls)
      go_wp2_with fail
      refine Cp2.out.mono ?_
      rintro e w9 ⟨An4, Ab4, As4, cn4, cb4, cs4, rfl, hd9, hb9⟩
      clear x0 x1 x2 x3 x4 xl
      go_upto_region 9 with (fail)
      have k4 := Blk.new w9 30 #[.int .i64 f.mth, .int .i64 f.entry, .slice An4 f.nodes.length cn4, .slice Ab4 f.blocks.length cb4, .slice As4 f.states.length cs4]
      have hA := (Below.refl w9.heap.size w9).alloc (Nat.le_refl _) (.cells #[.int .i64 f.mth, .int .i64 f.entry, .slice An4 f.nodes.length cn4, .slice Ab4 f.blocks.length cb4, .slice As4 f.states.length cs4] 30)
      have HD := Lib.hid (show RdF (w9.alloc (.cells #[.int .i64 f.mth, .int .i64 f.entry, .slice An4 f.nodes.length cn4, .slice Ab4 f.blocks.length cb4, .slice As4 f.states.length cs4] 30)) (UIn wc.heap.size (w9.alloc (.cells #[.int .i64 f.mth, .int .i64 f.entry, .slice An4 f.nodes.length cn4, .slice Ab4 f.blocks.length cb4, .slice As4 f.states.length cs4] 30))) An4 Ab4 As4 f from (hd9.keep (Kept.of_below hA (fun b h => h.2.1))).more (fun b h => h.keep hA.size (hA.block b h.2.1)))
      have hbd := hb9.trans (hA.mono hb9.size)
      obtain ⟨gd, hgd⟩ : ∃ gd, gd = w9.heap.size := ⟨_, rfl⟩
      rw [← hgd] at k4 ⊢
      clear hgd Cp2 hd9 hb9 hA
      generalize w9.alloc (.cells #[.int .i64 f.mth, .int .i64 f.entry, .slice An4 f.nodes.length cn4, .slice Ab4 f.blocks.length cb4, .slice As4 f.states.length cs4] 30) = wd at *
      have K2 := Lib.hid (k4.cell 2)
      have K4 := Lib.hid (k4.cell 4)
      have Hgd := Lib.hid k4.lt
      have hln := OF.out.ln
      have hls := OF.out.ls
      have HS0 := Lib.hid (show Soft wc wd wd from ⟨KI.refl _, fun _ => rfl, rfl, hbd⟩)
      clear k4 hbd
      go_wp2
      go_loopw [9] (fun iv wr => ∃ i : Nat, i ≤ f.nodes.length ∧ iv = .int .i64 i ∧ Hid (Soft wc wd wr)) (fun iv _ => f.nodes.length - (intOf iv).toNat)
      case atStart => exact ⟨0, Nat.zero_le _, rfl, HS0⟩
      case round =>
       clear HS0
       obtain ⟨i, hi, rfl, HS0⟩ := hrel
       have y := HS0.out.slice (p := ⟨gd, 2, none⟩) K2.out
       have lG : gd < wr.heap.size := by have := HS0.out.sz; have := Hgd.out; omega
       by_cases hlt : i < f.nodes.length
       · have k0 : (0 : Int) ≤ i := by omega
         have k1' : (i : Int) < f.nodes.length := by omega
         obtain ⟨b, off, A5, c5, rfl, hU, x0, x1, x2, x3, x4, x5, x6, r5⟩ := rd_nd HD.out.nodes hlt
         have ha5 := OF.out.mild.args i
         generalize f.nodes.getD i default = x at *
         obtain ⟨m0, z0⟩ := HS0.out.int x0
         have ff := HS0.out.free hU (off + i * 7)
         have ff1 := ff.1
         have ff2 := ff.2
         have z6 := HS0.out.slice x6
         obtain ⟨n5, hn5⟩ : ∃ n5, n5 = x.args.length := ⟨_, rfl⟩
         have R5 := Lib.hid r5
         have NI := Lib.hid (show ∀ j, j < n5 → ∃ m, (ints x.args)[j]? = some (.int .i64 m) from fun j h => ⟨_, by rw [ints, List.getElem?_map, List.getElem?_eq_getElem (by omega)]; rfl⟩)
         rw [← hn5] at R5 x6 z6
         have hn9 : n5 ≤ 2000000 := by rw [hn5]; exact ha5
         have X6 := Lib.hid x6
         have Hit := Lib.hid hlt
         clear ff x1 x2 x3 x4 x5 r5 hn5 hlt ha5
         go_wp2
         have HS0 := Lib.hid (HS0.out.set x0 hU.1 (-3))
         clear z0 ff1 ff2 y z6 x0 x6
         go_loopw [10] (fun iv wr => ∃ j : Nat, j ≤ n5 ∧ iv = .int .i64 j ∧ Hid (Soft wc wd wr)) (fun iv _ => n5 - (intOf iv).toNat)
         case atStart => exact ⟨0, Nat.zero_le _, rfl, HS0⟩
         case round =>
          clear HS0
          obtain ⟨j, hj, rfl, HS0⟩ := hrel
          have y := HS0.out.slice (p := ⟨gd, 2, none⟩) K2.out
          have lG : gd < wr.heap.size := by have := HS0.out.sz; have := Hgd.out; omega
          have z6 := HS0.out.slice X6.out
          have lB := (HS0.out.free hU 0).2
          have k0 : (0 : Int) ≤ i := by omega
          have k1' : (i : Int) < f.nodes.length := by omega
          by_cases hlj : j < n5
          · have j0 : (0 : Int) ≤ j := by omega
            have j1 : (j : Int) < n5 := by omega
            obtain ⟨b2, o2, rfl, hU2, hc2⟩ := R5.out.2 (by omega)
            obtain ⟨m5, hm5⟩ := NI.out j hlj
            have hc := hc2 j _ hm5
            obtain ⟨m6, z7⟩ := HS0.out.int hc
            have ff := HS0.out.free hU2 (o2 + j)
            have ff1 := ff.1
            have ff2 := ff.2
            clear ff
            go_wp2
            have HS1 := Lib.hid (HS0.out.set hc hU2.1 (-3))
            go_roundw
            case rel => exact ⟨j + 1, by omega, by go_num, HS1⟩
            case measure => simp [intOf]; omega
          · have j1 : ¬ (j : Int) < n5 := by omega
            clear hlj
            go_wp2
            go_roundw
            case rel => exact ⟨i + 1, by have := Hit.out; omega, by go_num, HS0⟩
            case measure => simp [intOf]; omega
       · have k1' : ¬ (i : Int) < f.nodes.length := by omega
         clear hlt
         go_wp2
         go_loopw [11] (fun iv wr => ∃ i : Nat, i ≤ f.states.length ∧ iv = .int .i64 i ∧ Hid (Soft wc wd wr)) (fun iv _ => f.states.length - (intOf iv).toNat)
         case atStart => exact ⟨0, Nat.zero_le _, rfl, HS0⟩
         case round =>
          clear HS0
          obtain ⟨i, hi, rfl, HS0⟩ := hrel
          have y := HS0.out.slice (p := ⟨gd, 4, none⟩) K4.out
          have lG : gd < wr.heap.size := by have := HS0.out.sz; have := Hgd.out; omega
          by_cases hlt : i < f.states.length
          · have k0 : (0 : Int) ≤ i := by omega
            have k1' : (i : Int) < f.states.length := by omega
            obtain ⟨b, off, A3', c3', A4', c4', A5, c5, rfl, hU, x0, x1, x2, x3, x4, x5, r3, r4, r5⟩ := rd_ste HD.out.states hlt
            have ha3 := OF.out.mild.locals i
            have ha5 := OF.out.mild.virts i
            generalize f.states.getD i default = x at *
            have ff := HS0.out.free hU 0
            have ff2 := ff.2
            have z3 := HS0.out.slice x3
            obtain ⟨n3, hn3⟩ : ∃ n3, n3 = x.locals.length := ⟨_, rfl⟩
            obtain ⟨n5, hn5⟩ : ∃ n5, n5 = x.virts.length := ⟨_, rfl⟩
            have R3 := Lib.hid r3
            have R5 := Lib.hid r5
            have NI := Lib.hid (show ∀ j, j < n3 → ∃ m, (ints x.locals)[j]? = some (.int .i64 m) from fun j h => ⟨_, by rw [ints, List.getElem?_map, List.getElem?_eq_getElem (by omega)]; rfl⟩)
            rw [← hn3] at R3 x3 z3
            rw [← hn5] at x5
            have hn9 : n3 ≤ 2000000 := by rw [hn3]; exact ha3
            have hn8 : n5 ≤ 2000000 := by rw [hn5]; exact ha5
            have H5 := Lib.hid hn5
            have X3 := Lib.hid x3
            have X5 := Lib.hid x5
            have Hit := Lib.hid hlt
            clear ff x0 x1 x2 x3 x4 x5 r3 r4 r5 hn3 hn5 hlt ha3 ha5
            go_wp2
            clear y z3 ff2
            go_loopw [12] (fun iv wr => ∃ j : Nat, j ≤ n3 ∧ iv = .int .i64 j ∧ Hid (Soft wc wd wr)) (fun iv _ => n3 - (intOf iv).toNat)
            case atStart => exact ⟨0, Nat.zero_le _, rfl, HS0⟩
            case round =>
             clear HS0
             obtain ⟨j, hj, rfl, HS0⟩ := hrel
             have y := HS0.out.slice (p := ⟨gd, 4, none⟩) K4.out
             have lG : gd < wr.heap.size := by have := HS0.out.sz; have := Hgd.out; omega
             have z3 := HS0.out.slice X3.out
             have lB := (HS0.out.free hU 0).2
             have k0 : (0 : Int) ≤ i := by omega
             have k1' : (i : Int) < f.states.length := by have := Hit.out; omega
             by_cases hlj : j < n3
             · have j0 : (0 : Int) ≤ j := by omega
               have j1 : (j : Int) < n3 := by omega
               obtain ⟨b2, o2, hA7, hU2, hc2⟩ := R3.out.2 (by omega)
               rw [hA7] at z3
               obtain ⟨m5, hm5⟩ := NI.out j hlj
               have hc := hc2 j _ hm5
               obtain ⟨m6, z7⟩ := HS0.out.int hc
               have ff := HS0.out.free hU2 (o2 + j)
               have ff1 := ff.1
               have ff2 := ff.2
               clear ff hA7
               go_wp2
               have HS1 := Lib.hid (HS0.out.set hc hU2.1 (-9))
               go_roundw
               case rel => exact ⟨j + 1, by omega, by go_num, HS1⟩
               case measure => simp [intOf]; omega
             · have j1 : ¬ (j : Int) < n3 := by omega
               clear hlj
               go_wp2
               clear y z3 lG lB k0 k1'
               go_loopw [13] (fun iv wr => ∃ j : Nat, j ≤ n5 ∧ iv = .int .i64 j ∧ Hid (Soft wc wd wr)) (fun iv _ => n5 - (intOf iv).toNat)
               case atStart => exact ⟨0, Nat.zero_le _, rfl, HS0⟩
               case round =>
                clear HS0
                obtain ⟨j, hj, rfl, HS0⟩ := hrel
                have y := HS0.out.slice (p := ⟨gd, 4, none⟩) K4.out
                have lG : gd < wr.heap.size := by have := HS0.out.sz; have := Hgd.out; omega
                have z5 := HS0.out.slice X5.out
                have lB := (HS0.out.free hU 0).2
                have k0 : (0 : Int) ≤ i := by omega
                have k1' : (i : Int) < f.states.length := by have := Hit.out; omega
                by_cases hlj : j < n5
                · have j0 : (0 : Int) ≤ j := by omega
                  have j1 : (j : Int) < n5 := by omega
                  obtain ⟨b2, o2, A7, c7, hA7, hU2, v0, v1, rv⟩ := rd_vt R5.out (show j < x.virts.length by have := H5.out; omega)
                  rw [hA7] at z5
                  obtain ⟨m6, z7⟩ := HS0.out.int v0
                  have ff := HS0.out.free hU2 (o2 + j * 2)
                  have ff1 := ff.1
                  have ff2 := ff.2
                  clear ff hA7
                  go_wp2
                  have HS1 := Lib.hid (HS0.out.set v0 hU2.1 (-9))
                  go_roundw
                  case rel => exact ⟨j + 1, by omega, by go_num, HS1⟩
                  case measure => simp [intOf]; omega
                · have j1 : ¬ (j : Int) < n5 := by omega
                  clear hlj
                  go_wp2
                  go_roundw
                  case rel => exact ⟨i + 1, by have := Hit.out; omega, by go_num, HS0⟩
                  case measure => simp [intOf]; omega
          · have k1' : ¬ (i : Int) < f.states.length := by omega
            clear hlt
            have hbr := hb.trans (HS0.out.bl.mono hb.size)
            have HCr := Lib.hid (HC.out.at HS0.out.bl)
            have HFr := Lib.hid (HF.out.at hbr)
            have k1 := k1.below HS0.out.bl k1.lt
            have k3 := k3.below HS0.out.bl k3.lt
            have x0 : World.cell? _ ⟨W.heap.size, 0, none⟩ = some (.int .i64 f.mth) := k1.cell 0
            have x1 : World.cell? _ ⟨W.heap.size, 1, none⟩ = some (.int .i64 f.entry) := k1.cell 1
            have x2 : World.cell? _ ⟨W.heap.size, 2, none⟩ = some (.slice An1 f.nodes.length cn1) := k1.cell 2
            have x3 : World.cell? _ ⟨W.heap.size, 3, none⟩ = some (.slice Ab1 f.blocks.length cb1) := k1.cell 3
            have x4 : World.cell? _ ⟨W.heap.size, 4, none⟩ = some (.slice As1 f.states.length cs1) := k1.cell 4
            have xl := k1.lt
            have y0 : World.cell? _ ⟨g3, 0, none⟩ = some (.int .i64 f.mth) := k3.cell 0
            have y1 : World.cell? _ ⟨g3, 1, none⟩ = some (.int .i64 f.entry) := k3.cell 1
            have y2 : World.cell? _ ⟨g3, 2, none⟩ = some (.slice An3 f.nodes.length cn3) := k3.cell 2
            have y3 : World.cell? _ ⟨g3, 3, none⟩ = some (.slice Ab3 f.blocks.length cb3) := k3.cell 3
            have y4 : World.cell? _ ⟨g3, 4, none⟩ = some (.slice As3 f.states.length cs3) := k3.cell 4
            have yl := k3.lt
            have Sz := Lib.hid (show Calls Tryz.prog 25 #[.agg #[.int .i64 f.mth, .int .i64 f.entry, .slice An3 f.nodes.length cn3, .slice Ab3 f.blocks.length cb3, .slice As3 f.states.length cs3], .agg #[.int .i64 f.mth, .int .i64 f.entry, .slice An1 f.nodes.length cn1, .slice Ab1 f.blocks.length cb1, .slice As1 f.states.length cs1]] wr (BPost true wr) from (dec_t (show f = f from rfl)) ▸ sameFn_any An3 Ab3 As3 An1 Ab1 As1 cn3 cb3 cs3 cn1 cb1 cs1 f f wr HCr.out HFr.out OF.out.mild OF.out.ln OF.out.lb OF.out.ls)
            go_wp2_with fail
            refine Sz.out.mono ?_
            rintro e we ⟨rfl, hbe⟩
            go_wp2
            exact HP.out we (hbr.trans (hbe.mono hbr.size))
end Go.Proofs.YtjjmpfmhggcjiaaGreatDoor
