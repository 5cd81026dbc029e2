/-
 Rv4, Rv5.
-/
import Derived.Test.YtjjmpfmhggcjiaaGreatDoorJPgRef
import Derived.Test.YtjjmpfmhggcjiaaGreatDoorJRv3
import Derived.Test.YtjjmpfmhggcjiaaGreatDoorJSnLaw
set_option linter.unusedSimpArgs false
set_option linter.unusedVariables false
namespace Go.Proofs.YtjjmpfmhggcjiaaGreatDoor
open Go.RowKit Go.Maps
def WinfoPost (w : World) (Ac Am : Option Addr) (cc cm : Nat) (p : Prg) (e : Ending) (w' : World) : Prop :=
 ∃ x b, e = .returned (.tuple #[.agg x, .bool b]) ∧ (∃ A1 n1 c1 A2 n2 c2 A3 n3 c3, x = #[.slice A1 n1 c1, .slice A2 n2 c2, .slice A3 n3 c3]) ∧ (b = true ↔ LightP p ∧ ∃ vs, Ver p vs) ∧ (∀ vs, LightP p → Ver p vs → ∃ Al cl, x = #[.slice Ac p.classes.length cc, .slice Am p.methods.length cm, .slice Al vs.length cl] ∧ RdL riShape w' (fun b => w.heap.size ≤ b ∧ b < w'.heap.size) Al vs) ∧ Below w.heap.size w w'
set_option maxRecDepth 100000 in
set_option maxHeartbeats 8000000 in
theorem winfo_any (Ac Am : Option Addr) (cc cm : Nat) (p : Prg) (w : World) (hr : RdP w w.heap.size Ac Am p) (hp : POk p) :
 Calls Tryz.prog 9 #[pv Ac cc Am cm p] w (WinfoPost w Ac Am cc cm p) := by
 have HP := Lib.hid (fun (x : Array Value) (b : Bool) (w' : World) (h0 : ∃ A1 n1 c1 A2 n2 c2 A3 n3 c3, x = #[.slice A1 n1 c1, .slice A2 n2 c2, .slice A3 n3 c3]) (h1 : b = true ↔ LightP p ∧ ∃ vs, Ver p vs) (h2 : ∀ vs, LightP p → Ver p vs → ∃ Al cl, x = #[.slice Ac p.classes.length cc, .slice Am p.methods.length cm, .slice Al vs.length cl] ∧ RdL riShape w' (fun b => w.heap.size ≤ b ∧ b < w'.heap.size) Al vs) (h3 : Below w.heap.size w w') => (show WinfoPost w Ac Am cc cm p (.returned (.tuple #[.agg x, .bool b])) w' from ⟨x, b, rfl, h0, h1, h2, h3⟩))
 generalize WinfoPost w Ac Am cc cm p = Post at *
 have HL := Lib.hid (fun W (hW : Below w.heap.size w W) => light_is Ac Am cc cm p W ((hr.below hW (Nat.le_refl _)).more hW.size) hp)
 have HO := Lib.hid (fun W (hW : Below w.heap.size w W) => rof_any Ac Am cc cm p W ((hr.below hW (Nat.le_refl _)).more hW.size) hp)
 have bP2 := (Blk.new w 25 #[.slice Ac p.classes.length cc, .slice Am p.methods.length cm]).alloc (.cells #[.slice none 0 0, .slice none 0 0, .slice none 0 0] 34)
 have hb2 := ((Below.refl w.heap.size w).alloc (Nat.le_refl _) (.cells #[.slice Ac p.classes.length cc, .slice Am p.methods.length cm] 25)).alloc (by simp) (.cells #[.slice none 0 0, .slice none 0 0, .slice none 0 0] 34)
 have bI2 := Blk.newAt (w := w.alloc (.cells #[.slice Ac p.classes.length cc, .slice Am p.methods.length cm] 25)) (g := w.heap.size + 1) (by simp) 34 #[.slice none 0 0, .slice none 0 0, .slice none 0 0]
 go_enter Tryz.func9, Tryz.ntmps9
 go_upto_region 1 with (fail)
 have p0 := bP2.at0
 have p1 := bP2.at1
 have lP := bP2.lt
 clear hr
 go_wp2_with fail
 refine (HL.out _ hb2).mono ?_
 rintro e w3 ⟨b, rfl, hlight, hb3'⟩
 have HLi := Lib.hid (show IsB b (LightP p) from hlight)
 have Hl3 := Lib.hid (show w.heap.size + 1 < w3.heap.size from (bI2.below hb3' bI2.lt).lt)
 have Hw3 := Lib.hid hb3'.size
 have bP3 := bP2.below hb3' bP2.lt
 have bI3 := bI2.below hb3' bI2.lt
 have hb3 := hb2.trans (hb3'.mono hb2.size)
 clear bP2 bI2 hb2 hb3' hlight p0 p1 lP
 have p0 := bP3.at0
 have p1 := bP3.at1
 have lP := bP3.lt
 have i0 := bI3.at0
 have i1 := bI3.at1
 have i2 := bI3.at2
 have fi0 := bI3.frozen 0
 have fi1 := bI3.frozen 1
 have fi2 := bI3.frozen 2
 have lI := bI3.lt
 cases b with
 | false =>
   go_wp2
   have bI5 := (((bI3.set_ 0 (.slice none 0 0)).set_ 1 (.slice none 0 0)).set_ 2 (.slice none 0 0))
   have hb5 := (((hb3.setCell (p := ⟨w.heap.size + 1, 0, none⟩) (by show w.heap.size ≤ w.heap.size + 1; omega) (.slice none 0 0)).setCell (p := ⟨w.heap.size + 1, 1, none⟩) (by show w.heap.size ≤ w.heap.size + 1; omega) (.slice none 0 0)).setCell (p := ⟨w.heap.size + 1, 2, none⟩) (by show w.heap.size ≤ w.heap.size + 1; omega) (.slice none 0 0))
   generalize (((w3.setCell ⟨w.heap.size + 1, 0, none⟩ (.slice none 0 0)).setCell ⟨w.heap.size + 1, 1, none⟩ (.slice none 0 0)).setCell ⟨w.heap.size + 1, 2, none⟩ (.slice none 0 0)) = w5 at *
   have q0 := bI5.at0
   have q1 := bI5.at1
   have q2 := bI5.at2
   refine bodyPost_ret (v := .tuple #[.agg #[.slice none 0 0, .slice none 0 0, .slice none 0 0], .bool false]) (by simp [results, Tryz.results9, go_sem, q0, q1, q2]) rfl ?_
   exact HP.out #[.slice none 0 0, .slice none 0 0, .slice none 0 0] false _ ⟨_, _, _, _, _, _, _, _, _, rfl⟩ ⟨fun h => (by cases h), fun h => absurd (show false = true from HLi.out.2 h.1) (by simp)⟩ (fun vs hl => absurd (show false = true from HLi.out.2 hl) (by simp)) hb5
 | true =>
   go_wp2_with fail
   refine (HO.out _ hb3).mono ?_
   rintro e w4 ⟨Al, n, cl, co, Af, nf, cf, rfl, hco, hvs, hb4'⟩
   have hb4 := hb3.trans (hb4'.mono hb3.size)
   have bI4 := bI3.below hb4' bI3.lt
   have Hco := Lib.hid hco
   have Hvs := Lib.hid hvs
   clear i0 i1 i2 fi0 fi1 fi2 lI p0 p1 lP bP3 bI3 hb4' hb3 hco hvs
   go_upto_region 4 with (fail)
   have bIa := (Blk.new w4 34 #[.slice Ac p.classes.length cc, .slice Am p.methods.length cm, .slice Al n cl]).alloc (.cells #[.int .i64 co, .slice Af nf cf] 75)
   have bFa := Blk.newAt (w := w4.alloc (.cells #[.slice Ac p.classes.length cc, .slice Am p.methods.length cm, .slice Al n cl] 34)) (g := w4.heap.size + 1) (by simp) 75 #[.int .i64 co, .slice Af nf cf]
   have bIb := (bI4.alloc (.cells #[.slice Ac p.classes.length cc, .slice Am p.methods.length cm, .slice Al n cl] 34)).alloc (.cells #[.int .i64 co, .slice Af nf cf] 75)
   have hb5 := (hb4.alloc hb4.size (.cells #[.slice Ac p.classes.length cc, .slice Am p.methods.length cm, .slice Al n cl] 34)).alloc (by simp; have := hb4.size; omega) (.cells #[.int .i64 co, .slice Af nf cf] 75)
   have K5 := Lib.hid (((KB.refl (fun b => b < w4.heap.size ∧ b ≠ w.heap.size + 1) w4).alloc (fun b h => h.1) (.cells #[.slice Ac p.classes.length cc, .slice Am p.methods.length cm, .slice Al n cl] 34)).alloc (fun b h => by simp; omega) (.cells #[.int .i64 co, .slice Af nf cf] 75))
   have Hz5 := Lib.hid (show ((w4.alloc (.cells #[.slice Ac p.classes.length cc, .slice Am p.methods.length cm, .slice Al n cl] 34)).alloc (.cells #[.int .i64 co, .slice Af nf cf] 75)).heap.size = w4.heap.size + 2 by simp)
   have hlt4 : w.heap.size + 1 < w4.heap.size := bI4.lt
   clear hb4 bI4
   generalize (w4.alloc (.cells #[.slice Ac p.classes.length cc, .slice Am p.methods.length cm, .slice Al n cl] 34)).alloc (.cells #[.int .i64 co, .slice Af nf cf] 75) = w5 at *
   have hne1 : w4.heap.size ≠ w.heap.size + 1 := by omega
   have hne2 : w4.heap.size + 1 ≠ w.heap.size + 1 := by omega
   refine wpJ_start (S := fun W => Blk W w4.heap.size 34 #[.slice Ac p.classes.length cc, .slice Am p.methods.length cm, .slice Al n cl] ∧ Blk W (w4.heap.size + 1) 75 #[.int .i64 co, .slice Af nf cf]) (fun q => decide (q ≤ 4)) (by kernel_rfl) ⟨bIa, bFa⟩ (fun HS => ?_)
   refine takeQ 0 15 rfl HS (.inl ⟨rfl, fun W hW => by have h0 := hW.1.at0; have h1 := hW.1.at1; have h2 := hW.1.at2; go_simp; rfl⟩) ?_
   simp only [pS]
   refine takeQ 1 16 rfl HS (.inl ⟨rfl, fun W hW => by go_simp; rfl⟩) ?_
   simp only [pS]
   refine takeQ 2 17 rfl HS (.inl ⟨rfl, fun W hW => by have h0 := hW.2.at0; go_simp; rfl⟩) ?_
   simp only [pS]
   refine takeQ 3 18 rfl HS (.inl ⟨rfl, fun W hW => by go_simp; rfl⟩) ?_
   simp only [pS]
   have i0 := bIb.at0
   have i1 := bIb.at1
   have i2 := bIb.at2
   have fi0 := bIb.frozen 0
   have fi1 := bIb.frozen 1
   have fi2 := bIb.frozen 2
   have lI := bIb.lt
   refine stepQ 4 rfl (fun K' HK => ?_)
   clear HS
   go_simp
   have bIc := (((bIb.set_ 0 (.slice Ac p.classes.length cc)).set_ 1 (.slice Am p.methods.length cm)).set_ 2 (.slice Al n cl))
   have hb6 := (((hb5.setCell (p := ⟨w.heap.size + 1, 0, none⟩) (by show w.heap.size ≤ w.heap.size + 1; omega) (.slice Ac p.classes.length cc)).setCell (p := ⟨w.heap.size + 1, 1, none⟩) (by show w.heap.size ≤ w.heap.size + 1; omega) (.slice Am p.methods.length cm)).setCell (p := ⟨w.heap.size + 1, 2, none⟩) (by show w.heap.size ≤ w.heap.size + 1; omega) (.slice Al n cl))
   have bIa' := (((bIa.far (p := ⟨w.heap.size + 1, 0, none⟩) hne1 (.slice Ac p.classes.length cc)).far (p := ⟨w.heap.size + 1, 1, none⟩) hne1 (.slice Am p.methods.length cm)).far (p := ⟨w.heap.size + 1, 2, none⟩) hne1 (.slice Al n cl))
   have bFa' := (((bFa.far (p := ⟨w.heap.size + 1, 0, none⟩) hne2 (.slice Ac p.classes.length cc)).far (p := ⟨w.heap.size + 1, 1, none⟩) hne2 (.slice Am p.methods.length cm)).far (p := ⟨w.heap.size + 1, 2, none⟩) hne2 (.slice Al n cl))
   have K6 := Lib.hid (((K5.out.set (p := ⟨w.heap.size + 1, 0, none⟩) (fun h => h.2 rfl) (.slice Ac p.classes.length cc)).set (p := ⟨w.heap.size + 1, 1, none⟩) (fun h => h.2 rfl) (.slice Am p.methods.length cm)).set (p := ⟨w.heap.size + 1, 2, none⟩) (fun h => h.2 rfl) (.slice Al n cl))
   have Hz6 := Lib.hid (show (((w5.setCell ⟨w.heap.size + 1, 0, none⟩ (.slice Ac p.classes.length cc)).setCell ⟨w.heap.size + 1, 1, none⟩ (.slice Am p.methods.length cm)).setCell ⟨w.heap.size + 1, 2, none⟩ (.slice Al n cl)).heap.size = w4.heap.size + 2 by simp [Hz5.out])
   refine HK.out _ _ (fun _ => ⟨bIa', bFa'⟩) ?_
   clear HK i0 i1 i2 fi0 fi1 fi2 lI bIa bFa bIb hb5 K5
   try simp only [pS]
   generalize (((w5.setCell ⟨w.heap.size + 1, 0, none⟩ (.slice Ac p.classes.length cc)).setCell ⟨w.heap.size + 1, 1, none⟩ (.slice Am p.methods.length cm)).setCell ⟨w.heap.size + 1, 2, none⟩ (.slice Al n cl)) = w6 at *
   refine stepQ 5 rfl (fun K' HK => ?_)
   go_simp
   refine HK.out _ _ (fun h => by simp at h) ?_
   clear HK
   refine wpAnyJ_done (by kernel_rfl) ?_ _
   have q0 := bIc.at0
   have q1 := bIc.at1
   have q2 := bIc.at2
   go_wp2
   refine bodyPost_ret (v := .tuple #[.agg #[.slice Ac p.classes.length cc, .slice Am p.methods.length cm, .slice Al n cl], .bool (co == 0)]) (by simp [results, Tryz.results9, go_sem, q0, q1, q2]) rfl ?_
   refine HP.out #[.slice Ac p.classes.length cc, .slice Am p.methods.length cm, .slice Al n cl] (co == 0) _ ⟨_, _, _, _, _, _, _, _, _, rfl⟩ ⟨fun h => ⟨HLi.out.1 rfl, Hco.out.1 (by simpa using h)⟩, fun h => by simpa using Hco.out.2 h.2⟩ (fun vs hl hv => ?_) hb6.drew
   obtain ⟨e1, e2⟩ := Hvs.out vs hv
   have h1 := Hl3.out
   have h2 := Hz6.out
   exact ⟨Al, cl, by rw [e1], (e2.keep (w' := w6.drew) (Kept.sub (S := fun b => b < w4.heap.size ∧ b ≠ w.heap.size + 1) (w := w4) (w' := w6.drew) K6.out.kept (fun b h => ⟨h.2, by omega⟩))).more (fun b h => ⟨by omega, by show b < w6.heap.size; omega⟩)⟩
end Go.Proofs.YtjjmpfmhggcjiaaGreatDoor
namespace Go.Proofs.YtjjmpfmhggcjiaaGreatDoor
open Go.RowKit Go.Maps
/-- Where both verifiers come through. -/
def MadeOk (w : World) (p : Prg) (vs : List Vs) (v : Value) (b : Bool) (w' : World) : Prop :=
 b = true ∧ ∃ gv S, v = .pointer (some ⟨gv, 0, none⟩) ∧ (∃ Ac cc Am cm Al cl, InfoAt w' S gv Ac cc Am cm Al cl 0 p vs) ∧ w.heap.size ≤ gv ∧ ∀ b, S b → w.heap.size ≤ b
def MadePost (w : World) (p : Prg) (e : Ending) (w' : World) : Prop :=
 ∃ v x b, e = .returned (.tuple #[v, .agg x, .bool b]) ∧ (∃ A1 n1 c1 A2 n2 c2 A3 n3 c3, x = #[.slice A1 n1 c1, .slice A2 n2 c2, .slice A3 n3 c3]) ∧ ((¬ LightP p ∨ ∀ vs, ¬ Ver p vs) → b = false) ∧ (∀ vs, LightP p → Ver p vs → MadeOk w p vs v b w') ∧ Below w.heap.size w w'
set_option maxRecDepth 100000 in
set_option maxHeartbeats 8000000 in
theorem made_any (a : Nat → Addr) (B : Nat) (w : World) (h : Sent w B all14 a) (hB : B ≤ w.heap.size) (Ac Am : Option Addr) (cc cm : Nat) (p : Prg) (hr : RdP w w.heap.size Ac Am p) (hp : POk p) :
 Calls Tryz.prog 23 #[pv Ac cc Am cm p] w (MadePost w p) := by
 have HP := Lib.hid (fun (v : Value) (x : Array Value) (b : Bool) (w' : World) (h0 : ∃ A1 n1 c1 A2 n2 c2 A3 n3 c3, x = #[.slice A1 n1 c1, .slice A2 n2 c2, .slice A3 n3 c3]) (h1 : (¬ LightP p ∨ ∀ vs, ¬ Ver p vs) → b = false) (h2 : ∀ vs, LightP p → Ver p vs → MadeOk w p vs v b w') (h3 : Below w.heap.size w w') => (show MadePost w p (.returned (.tuple #[v, .agg x, .bool b])) w' from ⟨v, x, b, rfl, h0, h1, h2, h3⟩))
 generalize MadePost w p = Post at *
 have HI := Lib.hid (fun W (hW : Below w.heap.size w W) => winfo_any Ac Am cc cm p W ((hr.below hW (Nat.le_refl _)).more hW.size) hp)
 have HV := Lib.hid (fun W (hW : Below w.heap.size w W) vs (hV : Ver p vs) => (show Calls Tryz.prog 11 #[pv Ac cc Am cm p] W (VerPost W p vs) from
  verOf_any Ac Am cc cm p vs W ((hr.below hW (Nat.le_refl _)).more hW.size) hp hV (fun W2 hW2 => by
   have hb := hW.trans (hW2.mono hW.size)
   refine (may_any a B W2 (h.below hb hB) (Nat.le_trans hB hb.size) Ac Am cc cm p ((hr.below hb (Nat.le_refl _)).more hb.size) hp).mono ?_
   rintro e w' ⟨v, rfl, hv, hb'⟩
   rw [hV.fair] at hv
   cases hv
   exact ⟨rfl, hb'⟩)))
 have bP2 := (Blk.new w 25 #[.slice Ac p.classes.length cc, .slice Am p.methods.length cm]).alloc (.cells #[.slice none 0 0, .slice none 0 0, .slice none 0 0] 34)
 have hb2 := ((Below.refl w.heap.size w).alloc (Nat.le_refl _) (.cells #[.slice Ac p.classes.length cc, .slice Am p.methods.length cm] 25)).alloc (by simp) (.cells #[.slice none 0 0, .slice none 0 0, .slice none 0 0] 34)
 have bI2 := Blk.newAt (w := w.alloc (.cells #[.slice Ac p.classes.length cc, .slice Am p.methods.length cm] 25)) (g := w.heap.size + 1) (by simp) 34 #[.slice none 0 0, .slice none 0 0, .slice none 0 0]
 go_enter Tryz.func23, Tryz.ntmps23
 go_upto_region 1 with (fail)
 have p0 := bP2.at0
 have p1 := bP2.at1
 have lP := bP2.lt
 clear hr h hB
 go_wp2_with fail
 refine (HI.out _ hb2).mono ?_
 rintro e w3 ⟨x, b, rfl, hx3, hbt, hvs, hb3'⟩
 have Hbt := Lib.hid (show IsB b (LightP p ∧ ∃ vs, Ver p vs) from hbt)
 have bP3 := bP2.below hb3' bP2.lt
 have bI3 := bI2.below hb3' bI2.lt
 have hb3 := hb2.trans (hb3'.mono hb2.size)
 obtain ⟨A1, n1, c1, A2, n2, c2, A3, n3, c3, rfl⟩ := hx3
 clear bP2 bI2 hb2 hb3' hbt p0 p1 lP hvs
 cases b with
 | false =>
   go_upto_region 3 with (fail)
   have bXa := Blk.new w3 34 #[.slice A1 n1 c1, .slice A2 n2 c2, .slice A3 n3 c3]
   have bIb := bI3.alloc (.cells #[.slice A1 n1 c1, .slice A2 n2 c2, .slice A3 n3 c3] 34)
   have hb5 := hb3.alloc hb3.size (.cells #[.slice A1 n1 c1, .slice A2 n2 c2, .slice A3 n3 c3] 34)
   have hne1 : w3.heap.size ≠ w.heap.size + 1 := by have := bI3.lt; omega
   clear bI3 bP3 hb3
   generalize w3.alloc (.cells #[.slice A1 n1 c1, .slice A2 n2 c2, .slice A3 n3 c3] 34) = w5 at *
   refine wpJ_start (S := fun W => Blk W w3.heap.size 34 #[.slice A1 n1 c1, .slice A2 n2 c2, .slice A3 n3 c3]) (fun q => decide (q ≤ 1)) (by kernel_rfl) bXa (fun HS => ?_)
   refine takeQ 0 16 rfl HS (.inl ⟨rfl, fun W hW => by have h0 := hW.at0; have h1 := hW.at1; have h2 := hW.at2; go_simp; rfl⟩) ?_
   simp only [pS]
   refine takeQ 1 2 rfl HS (.inl ⟨rfl, fun W hW => by go_simp; rfl⟩) ?_
   simp only [pS]
   have i0 := bIb.at0
   have i1 := bIb.at1
   have i2 := bIb.at2
   have fi0 := bIb.frozen 0
   have fi1 := bIb.frozen 1
   have fi2 := bIb.frozen 2
   have lI := bIb.lt
   refine stepQ 2 rfl (fun K' HK => ?_)
   go_simp
   have bIb' := (((bIb.set_ 0 (.slice A1 n1 c1)).set_ 1 (.slice A2 n2 c2)).set_ 2 (.slice A3 n3 c3))
   have hb5' := (((hb5.setCell (p := ⟨w.heap.size + 1, 0, none⟩) (by show w.heap.size ≤ w.heap.size + 1; omega) (.slice A1 n1 c1)).setCell (p := ⟨w.heap.size + 1, 1, none⟩) (by show w.heap.size ≤ w.heap.size + 1; omega) (.slice A2 n2 c2)).setCell (p := ⟨w.heap.size + 1, 2, none⟩) (by show w.heap.size ≤ w.heap.size + 1; omega) (.slice A3 n3 c3))
   have bXa' := (((bXa.far (p := ⟨w.heap.size + 1, 0, none⟩) hne1 (.slice A1 n1 c1)).far (p := ⟨w.heap.size + 1, 1, none⟩) hne1 (.slice A2 n2 c2)).far (p := ⟨w.heap.size + 1, 2, none⟩) hne1 (.slice A3 n3 c3))
   refine HK.out _ _ (fun h => by simp at h) ?_
   clear HK i0 i1 i2 fi0 fi1 fi2 lI bIb hb5 bXa
   try simp only [pS]
   generalize (((w5.setCell ⟨w.heap.size + 1, 0, none⟩ (.slice A1 n1 c1)).setCell ⟨w.heap.size + 1, 1, none⟩ (.slice A2 n2 c2)).setCell ⟨w.heap.size + 1, 2, none⟩ (.slice A3 n3 c3)) = w6 at *
   refine stepQ 3 rfl (fun K' HK => ?_)
   go_simp
   refine HK.out _ _ (fun h => by simp at h) ?_
   clear HK
   refine wpAnyJ_done (by kernel_rfl) ?_ _
   have q0 := bIb'.at0
   have q1 := bIb'.at1
   have q2 := bIb'.at2
   go_wp2
   refine bodyPost_ret (v := .tuple #[.pointer none, .agg #[.slice A1 n1 c1, .slice A2 n2 c2, .slice A3 n3 c3], .bool false]) (by simp [results, Tryz.results23, go_sem, q0, q1, q2]) rfl ?_
   exact HP.out (.pointer none) #[.slice A1 n1 c1, .slice A2 n2 c2, .slice A3 n3 c3] false _ ⟨_, _, _, _, _, _, _, _, _, rfl⟩ (fun _ => rfl) (fun vs hl hv => absurd (show false = true from Hbt.out.2 ⟨hl, vs, hv⟩) (by simp)) hb5'.drew
 | true =>
   have HVe := Hbt.out.1 rfl
   obtain ⟨hl, vs, hv⟩ := HVe
   have Hl := Lib.hid hl
   have Hv := Lib.hid hv
   clear hl hv
   have bXa := Blk.new w3 34 #[.slice A1 n1 c1, .slice A2 n2 c2, .slice A3 n3 c3]
   have bIb := bI3.alloc (.cells #[.slice A1 n1 c1, .slice A2 n2 c2, .slice A3 n3 c3] 34)
   have bPb := bP3.alloc (.cells #[.slice A1 n1 c1, .slice A2 n2 c2, .slice A3 n3 c3] 34)
   have hb5 := hb3.alloc hb3.size (.cells #[.slice A1 n1 c1, .slice A2 n2 c2, .slice A3 n3 c3] 34)
   have hne1 : w3.heap.size ≠ w.heap.size + 1 := by have := bI3.lt; omega
   go_upto_region 4 with (fail)
   clear bI3 bP3 hb3
   generalize w3.alloc (.cells #[.slice A1 n1 c1, .slice A2 n2 c2, .slice A3 n3 c3] 34) = w5 at *
   have p0 := bPb.at0
   have p1 := bPb.at1
   have lP := bPb.lt
   go_wp2_with fail
   refine (HV.out _ hb5 vs Hv.out).mono ?_
   rintro e w6 ⟨gv, Ac2, cc2, Am2, cm2, Al2, cl2, rfl, hInf, hgv, hb6'⟩
   have bX6 := bXa.below hb6' bXa.lt
   have bI6 := bIb.below hb6' bIb.lt
   have hb6 := hb5.trans (hb6'.mono hb5.size)
   have Hinf := Lib.hid hInf
   have Hgv := Lib.hid hgv
   have Hl5 := Lib.hid (show w.heap.size + 1 < w5.heap.size from bIb.lt)
   have Hws := Lib.hid hb5.size
   clear bXa bIb bPb hb5 p0 p1 lP hb6' hInf hgv
   go_upto_region 5 with (fail)
   refine wpJ_start (S := fun W => Blk W w3.heap.size 34 #[.slice A1 n1 c1, .slice A2 n2 c2, .slice A3 n3 c3]) (fun q => decide (q ≤ 9)) (by kernel_rfl) bX6 (fun HS => ?_)
   refine takeQ 0 22 rfl HS (.inl ⟨rfl, fun W hW => by go_simp; rfl⟩) ?_
   simp only [pS]
   refine takeQ 1 23 rfl HS (.inl ⟨rfl, fun W hW => by have h0 := hW.at0; have h1 := hW.at1; have h2 := hW.at2; go_simp; rfl⟩) ?_
   simp only [pS]
   refine takeQ 2 24 rfl HS (.inl ⟨rfl, fun W hW => by go_simp; rfl⟩) ?_
   simp only [pS]
   refine takeQ 3 25 rfl HS (.inl ⟨rfl, fun W hW => by go_simp; rfl⟩) ?_
   simp only [pS]
   refine takeQ 4 26 rfl HS (.inl ⟨rfl, fun W hW => by go_simp; rfl⟩) ?_
   simp only [pS]
   refine takeQ 5 27 rfl HS (.inl ⟨rfl, fun W hW => by go_simp; rfl⟩) ?_
   simp only [pS]
   refine takeQ 6 28 rfl HS (.inl ⟨rfl, fun W hW => by go_simp; rfl⟩) ?_
   simp only [pS]
   refine takeQ 7 29 rfl HS (.inl ⟨rfl, fun W hW => by go_simp; rfl⟩) ?_
   simp only [pS]
   refine stepQ 8 rfl (fun K' HK => ?_)
   go_simp
   refine HK.out _ _ (fun _ => HS) ?_
   clear HK HS
   try simp only [pS]
   have i0 := bI6.at0
   have i1 := bI6.at1
   have i2 := bI6.at2
   have fi0 := bI6.frozen 0
   have fi1 := bI6.frozen 1
   have fi2 := bI6.frozen 2
   have lI := bI6.lt
   refine stepQ 9 rfl (fun K' HK => ?_)
   go_simp
   have bI6' := (((bI6.set_ 0 (.slice A1 n1 c1)).set_ 1 (.slice A2 n2 c2)).set_ 2 (.slice A3 n3 c3))
   have hb6' := (((hb6.setCell (p := ⟨w.heap.size + 1, 0, none⟩) (by show w.heap.size ≤ w.heap.size + 1; omega) (.slice A1 n1 c1)).setCell (p := ⟨w.heap.size + 1, 1, none⟩) (by show w.heap.size ≤ w.heap.size + 1; omega) (.slice A2 n2 c2)).setCell (p := ⟨w.heap.size + 1, 2, none⟩) (by show w.heap.size ≤ w.heap.size + 1; omega) (.slice A3 n3 c3))
   have bX6' := (((bX6.far (p := ⟨w.heap.size + 1, 0, none⟩) hne1 (.slice A1 n1 c1)).far (p := ⟨w.heap.size + 1, 1, none⟩) hne1 (.slice A2 n2 c2)).far (p := ⟨w.heap.size + 1, 2, none⟩) hne1 (.slice A3 n3 c3))
   have K6 := Lib.hid ((((KB.refl (fun b => b < w6.heap.size ∧ b ≠ w.heap.size + 1) w6).set (p := ⟨w.heap.size + 1, 0, none⟩) (fun h => h.2 rfl) (.slice A1 n1 c1)).set (p := ⟨w.heap.size + 1, 1, none⟩) (fun h => h.2 rfl) (.slice A2 n2 c2)).set (p := ⟨w.heap.size + 1, 2, none⟩) (fun h => h.2 rfl) (.slice A3 n3 c3))
   have Hz6 := Lib.hid (show (((w6.setCell ⟨w.heap.size + 1, 0, none⟩ (.slice A1 n1 c1)).setCell ⟨w.heap.size + 1, 1, none⟩ (.slice A2 n2 c2)).setCell ⟨w.heap.size + 1, 2, none⟩ (.slice A3 n3 c3)).heap.size = w6.heap.size by simp)
   refine HK.out _ _ (fun _ => bX6') ?_
   clear HK i0 i1 i2 fi0 fi1 fi2 lI bI6 hb6 bX6
   try simp only [pS]
   generalize (((w6.setCell ⟨w.heap.size + 1, 0, none⟩ (.slice A1 n1 c1)).setCell ⟨w.heap.size + 1, 1, none⟩ (.slice A2 n2 c2)).setCell ⟨w.heap.size + 1, 2, none⟩ (.slice A3 n3 c3)) = w7 at *
   refine stepQ 10 rfl (fun K' HK => ?_)
   go_simp
   refine HK.out _ _ (fun h => by simp at h) ?_
   clear HK
   refine wpAnyJ_done (by kernel_rfl) ?_ _
   have q0 := bI6'.at0
   have q1 := bI6'.at1
   have q2 := bI6'.at2
   go_wp2
   refine bodyPost_ret (v := .tuple #[.pointer (some ⟨gv, 0, none⟩), .agg #[.slice A1 n1 c1, .slice A2 n2 c2, .slice A3 n3 c3], .bool true]) (by simp [results, Tryz.results23, go_sem, q0, q1, q2]) rfl ?_
   refine HP.out (.pointer (some ⟨gv, 0, none⟩)) #[.slice A1 n1 c1, .slice A2 n2 c2, .slice A3 n3 c3] true _ ⟨_, _, _, _, _, _, _, _, _, rfl⟩ (fun h => ?_) (fun vs2 hl hv => ?_) hb6'.drew
   · rcases h with h | h
     · exact absurd Hl.out h
     · exact absurd Hv.out (h vs)
   · have e := ver_inj hv Hv.out
     subst e
     have h1 := Hl5.out
     have h2 := Hws.out
     have h3 := Hgv.out
     have hk := K6.out
     have hi := Hinf.out
     have hgv6 := hi.blk.lt
     refine ⟨rfl, gv, fun b => w5.heap.size ≤ b ∧ b < w6.heap.size ∧ b ≠ gv, rfl, ⟨Ac2, cc2, Am2, cm2, Al2, cl2, ⟨?_, ?_, ?_, ?_⟩⟩, by omega, fun b h => by omega⟩
     · exact hi.blk.kb (w' := w7.drew) hk ⟨hgv6, by omega⟩
     · exact hi.prg.keep (Kept.sub (S := fun b => b < w6.heap.size ∧ b ≠ w.heap.size + 1) (w := w6) (w' := w7.drew) hk.kept (fun b h => ⟨h.2.1, by omega⟩))
     · exact hi.inf.keep (Kept.sub (S := fun b => b < w6.heap.size ∧ b ≠ w.heap.size + 1) (w := w6) (w' := w7.drew) hk.kept (fun b h => ⟨h.2.1, by omega⟩))
     · intro b h
       have h4 := Hz6.out
       exact ⟨by show b < w7.heap.size; omega, h.2.2⟩
end Go.Proofs.YtjjmpfmhggcjiaaGreatDoor
