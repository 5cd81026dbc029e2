/-
 Vr8.
-/
import Derived.Test.YtjjmpfmhggcjiaaGreatDoorJVr7
set_option linter.unusedSimpArgs false
set_option linter.unusedVariables false
namespace Go.Proofs.YtjjmpfmhggcjiaaGreatDoor
open Go.RowKit Go.Maps
/-- What is known of a method, of any number. -/
def askF (vs : List Vs) (m : Int) : Vs := if 0 ≤ m ∧ m < vs.length then vs.getD m.toNat default else ⟨[], [], [], 0⟩
def InfoG (w : World) (S : Nat → Prop) (gv : Nat) (p : Prg) (vs : List Vs) : Prop := ∃ Ac cc Am cm Al cl cnt, InfoAt w S gv Ac cc Am cm Al cl cnt p vs
theorem InfoAt.grown {w w' : World} {S : Nat → Prop} {gv : Nat} {Ac Am Al : Option Addr} {cc cm cl : Nat} {cnt cnt' : Int} {p : Prg} {vs : List Vs} (h : InfoAt w S gv Ac cc Am cm Al cl cnt p vs) (hg : w.grownBy w' (some gv)) (hb : Blk w' gv 87 #[.slice Ac p.classes.length cc, .slice Am p.methods.length cm, .slice Al vs.length cl, .int .i64 cnt']) : InfoAt w' S gv Ac cc Am cm Al cl cnt' p vs :=
 have hk : Kept S w w' := Kept.grown (Kept.refl S w) hg (fun b hb => (h.lt b hb).1) (fun b hb e => (h.lt b hb).2 (Option.some.inj e))
 ⟨hb, h.prg.keep hk, h.inf.keep hk, fun b hb => ⟨Nat.lt_of_lt_of_le (h.lt b hb).1 hg.size, (h.lt b hb).2⟩⟩
theorem rd_vi {w : World} {S : Nat → Prop} {A : Option Addr} {l : List Vs} (h : RdL viShape w S A l) {k : Nat} (hk : k < l.length) :
 ∃ b off A1 c1 A2 c2, A = some ⟨b, off, none⟩ ∧ S b ∧ w.cell? ⟨b, off + k * 3, none⟩ = some (.slice A1 (l.getD k default).stacks.length c1) ∧ w.cell? ⟨b, off + k * 3 + 1, none⟩ = some (.slice A2 (l.getD k default).seen.length c2) ∧ w.cell? ⟨b, off + k * 3 + 2, none⟩ = some (.int .i64 (l.getD k default).most) ∧
  RdS w S 1 A1 (l.getD k default).stacks.length ((l.getD k default).stacks.map Value.string) ∧ RdS w S 1 A2 (l.getD k default).seen.length ((l.getD k default).seen.map Value.bool) := by
 obtain ⟨b, off, hd, e, hb, hc, h1, h2⟩ := h.at (show l[k]? = some (l.getD k default) by simp [hk])
 exact ⟨b, off, hd.1.1, hd.1.2, hd.2.1, hd.2.2, e, hb, hc 0 _ rfl, hc 1 _ rfl, hc 2 _ rfl, h1, h2⟩
/-- A struct of three, of four cells is stored. -/
def set3 (w : World) (g : Nat) (a b c : Value) : World := ((w.setCell ⟨g, 0, none⟩ a).setCell ⟨g, 1, none⟩ b).setCell ⟨g, 2, none⟩ c
def set4 (w : World) (g : Nat) (a b c d : Value) : World := (((w.setCell ⟨g, 0, none⟩ a).setCell ⟨g, 1, none⟩ b).setCell ⟨g, 2, none⟩ c).setCell ⟨g, 3, none⟩ d
section
variable {w w' : World} {g g' : Nat} {T : TypeId} {cs : Array Value} {a b c d x y z u : Value}
theorem Blk.set3 (h : Blk w g T #[x, y, z]) : Blk (set3 w g a b c) g T #[a, b, c] := by
 have := ((h.set_ 0 a).set_ 1 b).set_ 2 c
 simpa [Proofs.YtjjmpfmhggcjiaaGreatDoor.set3] using this
theorem Blk.set4 (h : Blk w g T #[x, y, z, u]) : Blk (set4 w g a b c d) g T #[a, b, c, d] := by
 have := (((h.set_ 0 a).set_ 1 b).set_ 2 c).set_ 3 d
 simpa [Proofs.YtjjmpfmhggcjiaaGreatDoor.set4] using this
theorem Blk.far3 (h : Blk w g' T cs) (hne : g' ≠ g) : Blk (Proofs.YtjjmpfmhggcjiaaGreatDoor.set3 w g a b c) g' T cs := ((h.far (p := ⟨g, 0, none⟩) hne _).far (p := ⟨g, 1, none⟩) hne _).far (p := ⟨g, 2, none⟩) hne _
theorem Blk.far4 (h : Blk w g' T cs) (hne : g' ≠ g) : Blk (Proofs.YtjjmpfmhggcjiaaGreatDoor.set4 w g a b c d) g' T cs := (((h.far (p := ⟨g, 0, none⟩) hne _).far (p := ⟨g, 1, none⟩) hne _).far (p := ⟨g, 2, none⟩) hne _).far (p := ⟨g, 3, none⟩) hne _
theorem grown_new {row : Option Nat} (h : w.grownBy w' row) {p : Addr} (hp : w.heap.size ≤ p.block) (v : Value) : w.grownBy (w'.setCell p v) row :=
 ⟨h.os, h.tape, h.output, by simpa using h.size, fun k hk hne => (Below.heap_setCell _ _ _ _ (by omega)).trans (h.block k hk hne)⟩
theorem grown_set3 {row : Option Nat} (h : w.grownBy w' row) (hp : w.heap.size ≤ g) : w.grownBy (Proofs.YtjjmpfmhggcjiaaGreatDoor.set3 w' g a b c) row := grown_new (grown_new (grown_new h hp _) hp _) hp _
theorem grown_set4 {row : Option Nat} (h : w.grownBy w' row) (hp : w.heap.size ≤ g) : w.grownBy (Proofs.YtjjmpfmhggcjiaaGreatDoor.set4 w' g a b c d) row := grown_new (grown_new (grown_new (grown_new h hp _) hp _) hp _) hp _
end
theorem cell_drew (w : World) (q : Addr) : w.drew.cell? q = w.cell? q := rfl
theorem mthS_at {w : World} {S : Nat → Prop} {A : Option Addr} {l : List Mth} (h : RdL mthShape w S A l) {k : Nat} (hk : k < l.length) :
 ∃ b off Ai ci, A = some ⟨b, off, none⟩ ∧ S b ∧ w.cell? ⟨b, off + k * 4, none⟩ = some (.string (l.getD k default).pa) ∧ w.cell? ⟨b, off + k * 4 + 1, none⟩ = some (.string (l.getD k default).lo) ∧ w.cell? ⟨b, off + k * 4 + 2, none⟩ = some (.string (l.getD k default).re) ∧ w.cell? ⟨b, off + k * 4 + 3, none⟩ = some (.slice Ai (l.getD k default).code.length ci) := by
 obtain ⟨b, off, hd, e, hb, hc, _⟩ := h.at (show l[k]? = some (l.getD k default) by simp [hk])
 exact ⟨b, off, hd.1, hd.2, e, hb, hc 0 _ rfl, hc 1 _ rfl, hc 2 _ rfl, hc 3 _ rfl⟩
def AskPost (w : World) (S : Nat → Prop) (gv : Nat) (p : Prg) (vs : List Vs) (m : Int) (e : Ending) (w' : World) : Prop :=
 ∃ As cs Ae ce Ai ci mm, e = .returned (.tuple #[vm As Ae cs ce (askF vs m).stacks (askF vs m).seen (askF vs m).most, mv Ai ci mm]) ∧ InfoG w' S gv p vs ∧ w.grownBy w' (some gv) ∧
  RdS w' S 1 As (askF vs m).stacks.length ((askF vs m).stacks.map Value.string) ∧ RdS w' S 1 Ae (askF vs m).seen.length ((askF vs m).seen.map Value.bool)
theorem RdPS.drew {w : World} {S : Nat → Prop} {Ac Am : Option Addr} {p : Prg} (h : RdPS w S Ac Am p) : RdPS w.drew S Ac Am p := h.keep (fun _ _ => rfl)
theorem InfoG.drew {w : World} {S : Nat → Prop} {gv : Nat} {p : Prg} {vs : List Vs} (h : InfoG w S gv p vs) : InfoG w.drew S gv p vs := by
 obtain ⟨Ac, cc, Am, cm, Al, cl, cnt, h⟩ := h
 exact ⟨Ac, cc, Am, cm, Al, cl, cnt, h.blk, h.prg.drew, h.inf.keep (fun _ _ => rfl), h.lt⟩
theorem AskPost.drew {w w' : World} {S : Nat → Prop} {gv : Nat} {p : Prg} {vs : List Vs} {m : Int} {e : Ending} (h : AskPost w S gv p vs m e w') : AskPost w S gv p vs m e w'.drew := by
 obtain ⟨As, cs, Ae, ce, Ai, ci, mm, h1, h2, h3, h4, h5⟩ := h
 exact ⟨As, cs, Ae, ce, Ai, ci, mm, h1, h2.drew, ⟨h3.os, h3.tape, h3.output, h3.size, h3.block⟩, h4.keep (fun _ _ => rfl), h5.keep (fun _ _ => rfl)⟩
set_option maxRecDepth 100000 in
set_option maxHeartbeats 4000000 in
theorem ask_any {S : Nat → Prop} {gv : Nat} {p : Prg} {vs : List Vs} (hvs : vs.length = p.methods.length) (m : Int) (w : World) (hI : InfoG w S gv p vs) :
 Calls Tryz.prog 129 #[.pointer (some ⟨gv, 0, none⟩), .int .i64 m] w (AskPost w S gv p vs m) := by
 obtain ⟨Ac, cc, Am, cm, Al, cl, cnt, hI⟩ := hI
 have Hvs := Lib.hid hvs
 clear hvs
 have hlv := hI.blk.lt
 have O1 := Obj.cells #[.slice none 0 0, .slice none 0 0, .int .i64 0] 94
 have bV1 := (hI.blk.alloc (.cells #[.slice none 0 0, .slice none 0 0, .int .i64 0] 94)).alloc (.cells #[.string ⟨#[]⟩, .string ⟨#[]⟩, .string ⟨#[]⟩, .slice none 0 0] 90)
 have bA1 := (Blk.new w 94 #[.slice none 0 0, .slice none 0 0, .int .i64 0]).alloc (.cells #[.string ⟨#[]⟩, .string ⟨#[]⟩, .string ⟨#[]⟩, .slice none 0 0] 90)
 have bB1 := Blk.newAt (w := w.alloc (.cells #[.slice none 0 0, .slice none 0 0, .int .i64 0] 94)) (g := w.heap.size + 1) (by simp) 90 #[.string ⟨#[]⟩, .string ⟨#[]⟩, .string ⟨#[]⟩, .slice none 0 0]
 have hg1 := (World.grownBy_alloc w (.cells #[.slice none 0 0, .slice none 0 0, .int .i64 0] 94) (some gv)).trans (World.grownBy_alloc _ (.cells #[.string ⟨#[]⟩, .string ⟨#[]⟩, .string ⟨#[]⟩, .slice none 0 0] 90) (some gv))
 have y3 := bV1.at3
 have f3 := bV1.frozen 3
 clear O1
 go_enter Tryz.func129, Tryz.ntmps129
 go_wp2_with fail
 refine (atomic_add gv 3 cnt _ y3 f3).mono ?_
 rintro e w2 ⟨rfl, rfl⟩
 generalize IntKind.i64.wrap (cnt + 1) = cnt2
 have bV2 := bV1.set_ 3 (.int .i64 cnt2)
 simp only [List.setIfInBounds_toArray, List.set_cons_zero, List.set_cons_succ] at bV2
 have bA2 := bA1.far (p := ⟨gv, 3, none⟩) (by show w.heap.size ≠ gv; omega) (.int .i64 cnt2)
 have bB2 := bB1.far (p := ⟨gv, 3, none⟩) (by show w.heap.size + 1 ≠ gv; omega) (.int .i64 cnt2)
 have hg2 := hg1.trans (grown_setCell _ ⟨gv, 3, none⟩ (.int .i64 cnt2))
 clear bV1 bA1 bB1 hg1 y3 f3
 generalize ((w.alloc (.cells #[.slice none 0 0, .slice none 0 0, .int .i64 0] 94)).alloc (.cells #[.string ⟨#[]⟩, .string ⟨#[]⟩, .string ⟨#[]⟩, .slice none 0 0] 90)).setCell ⟨gv, 3, none⟩ (.int .i64 cnt2) = w3 at *
 have hI3 := hI.grown hg2 bV2
 have v0 := bV2.at0
 have v1 := bV2.at1
 have v2 := bV2.at2
 have a0 := bA2.at0
 have a1 := bA2.at1
 have a2 := bA2.at2
 have c0 := bB2.at0
 have c1 := bB2.at1
 have c2 := bB2.at2
 have c3 := bB2.at3
 have fa0 := bA2.frozen 0
 have fa1 := bA2.frozen 1
 have fa2 := bA2.frozen 2
 have fc0 := bB2.frozen 0
 have fc1 := bB2.frozen 1
 have fc2 := bB2.frozen 2
 have fc3 := bB2.frozen 3
 have la := bA2.lt
 have lc := bB2.lt
 have hwg : gv < w.heap.size := hlv
 have HI3 := Lib.hid hI3
 have hout : ¬ (0 ≤ m ∧ m < vs.length) → ∀ W, W = set4 (set3 w3 w.heap.size (.slice none 0 0) (.slice none 0 0) (.int .i64 0)) (w.heap.size + 1) (.string ⟨#[]⟩) (.string ⟨#[]⟩) (.string ⟨#[]⟩) (.slice none 0 0) → AskPost w S gv p vs m (.returned (.tuple #[.agg #[.slice none 0 0, .slice none 0 0, .int .i64 0], .agg #[.string ⟨#[]⟩, .string ⟨#[]⟩, .string ⟨#[]⟩, .slice none 0 0]])) W := fun hm W hW => by
  subst hW
  have e0 : askF vs m = ⟨[], [], [], 0⟩ := by unfold askF; rw [if_neg hm]
  have hg3 := grown_set4 (g := w.heap.size + 1) (a := .string ⟨#[]⟩) (b := .string ⟨#[]⟩) (c := .string ⟨#[]⟩) (d := .slice none 0 0) (grown_set3 (g := w.heap.size) (a := .slice none 0 0) (b := .slice none 0 0) (c := .int .i64 0) hg2 (Nat.le_refl _)) (by omega)
  refine ⟨none, 0, none, 0, none, 0, ⟨⟨#[]⟩, ⟨#[]⟩, ⟨#[]⟩, []⟩, by rw [e0]; rfl, ⟨Ac, cc, Am, cm, Al, cl, _, hI.grown hg3 ((bV2.far3 (by omega)).far4 (by omega))⟩, hg3, by rw [e0]; exact RdS.nil _ _ _ _, by rw [e0]; exact RdS.nil _ _ _ _⟩
 have Hout := Lib.hid hout
 have HIg := Lib.hid (fun W (hg : w.grownBy W (some gv)) (hb : Blk W gv 87 #[.slice Ac p.classes.length cc, .slice Am p.methods.length cm, .slice Al vs.length cl, .int .i64 cnt2]) => (show InfoG W S gv p vs ∧ Kept S w W from ⟨⟨Ac, cc, Am, cm, Al, cl, _, hI.grown hg hb⟩, Kept.grown (Kept.refl S w) hg (fun b hb => (hI.lt b hb).1) (fun b hb e => (hI.lt b hb).2 (Option.some.inj e))⟩))
 have Hk3 := Lib.hid (HIg.out w3 hg2 bV2).2
 have Hlt := Lib.hid (fun b hb => (hI.lt b hb).1)
 clear hout hI hI3
 by_cases hm0 : m < 0
 · have g0 : decide (m < 0) = true := by simpa using hm0
   have hn := Lib.hid (show ¬ (0 ≤ m ∧ m < vs.length) by omega)
   clear hm0
   go_wp2
   have bA5 := (bA2.set3 (a := .slice none 0 0) (b := .slice none 0 0) (c := .int .i64 0)).far4 (a := .string ⟨#[]⟩) (b := .string ⟨#[]⟩) (c := .string ⟨#[]⟩) (d := .slice none 0 0) (g := w.heap.size + 1) (by omega)
   have bB5 := (bB2.far3 (a := .slice none 0 0) (b := .slice none 0 0) (c := .int .i64 0) (g := w.heap.size) (by omega)).set4 (a := .string ⟨#[]⟩) (b := .string ⟨#[]⟩) (c := .string ⟨#[]⟩) (d := .slice none 0 0)
   have q0 := bA5.at0
   have q1 := bA5.at1
   have q2 := bA5.at2
   have r0 := bB5.at0
   have r1 := bB5.at1
   have r2 := bB5.at2
   have r3 := bB5.at3
   simp only [set3, set4] at q0 q1 q2 r0 r1 r2 r3
   refine bodyPost_ret (v := .tuple #[.agg #[.slice none 0 0, .slice none 0 0, .int .i64 0], .agg #[.string ⟨#[]⟩, .string ⟨#[]⟩, .string ⟨#[]⟩, .slice none 0 0]]) (by simp [results, Tryz.results129, go_sem, q0, q1, q2, r0, r1, r2, r3]) rfl ?_
   exact Hout.out hn.out _ rfl
 · have g0 : decide (m < 0) = false := by simpa using hm0
   by_cases hm1 : (vs.length : Int) ≤ m
   · have hn := Lib.hid (show ¬ (0 ≤ m ∧ m < vs.length) by omega)
     clear hm0
     go_wp2
     have bA5 := (bA2.set3 (a := .slice none 0 0) (b := .slice none 0 0) (c := .int .i64 0)).far4 (a := .string ⟨#[]⟩) (b := .string ⟨#[]⟩) (c := .string ⟨#[]⟩) (d := .slice none 0 0) (g := w.heap.size + 1) (by omega)
     have bB5 := (bB2.far3 (a := .slice none 0 0) (b := .slice none 0 0) (c := .int .i64 0) (g := w.heap.size) (by omega)).set4 (a := .string ⟨#[]⟩) (b := .string ⟨#[]⟩) (c := .string ⟨#[]⟩) (d := .slice none 0 0)
     have q0 := bA5.at0
     have q1 := bA5.at1
     have q2 := bA5.at2
     have r0 := bB5.at0
     have r1 := bB5.at1
     have r2 := bB5.at2
     have r3 := bB5.at3
     simp only [set3, set4] at q0 q1 q2 r0 r1 r2 r3
     refine bodyPost_ret (v := .tuple #[.agg #[.slice none 0 0, .slice none 0 0, .int .i64 0], .agg #[.string ⟨#[]⟩, .string ⟨#[]⟩, .string ⟨#[]⟩, .slice none 0 0]]) (by simp [results, Tryz.results129, go_sem, q0, q1, q2, r0, r1, r2, r3]) rfl ?_
     exact Hout.out hn.out _ rfl
   · obtain ⟨k, rfl⟩ : ∃ k : Nat, m = k := ⟨m.toNat, by omega⟩
     have hk : k < vs.length := by omega
     obtain ⟨b1, o1, A1, c1', A2, c2', hAl, hb1, x0, x1, x2, rd1, rd2⟩ := rd_vi HI3.out.inf hk
     subst hAl
     obtain ⟨b2, o2, Ai, ci, hAm, hb2S, m0, m1, m2, m3⟩ := mthS_at HI3.out.prg.ms (k := k) (by have := Hvs.out; omega)
     subst hAm
     have hF : askF vs k = vs.getD k default := by unfold askF; rw [if_pos ⟨by omega, by omega⟩]; simp
     have HF := Lib.hid hF
     generalize vs.getD k default = s at *
     generalize p.methods.getD k default = mm at *
     have nb1 : b1 ≠ gv := (HI3.out.lt b1 hb1).2
     have k0 : (0 : Int) ≤ k := by omega
     have k1 : (k : Int) < vs.length := by omega
     have k2 : (k : Int) < p.methods.length := by have := Hvs.out; omega
     have hfin : AskPost w S gv p vs k (.returned (.tuple #[vm A1 A2 c1' c2' s.stacks s.seen s.most, mv Ai ci mm])) (set4 (set3 w3 w.heap.size (.slice A1 s.stacks.length c1') (.slice A2 s.seen.length c2') (.int .i64 s.most)) (w.heap.size + 1) (.string mm.pa) (.string mm.lo) (.string mm.re) (.slice Ai mm.code.length ci)) := by
      have hg3 := grown_set4 (g := w.heap.size + 1) (a := .string mm.pa) (b := .string mm.lo) (c := .string mm.re) (d := .slice Ai mm.code.length ci) (grown_set3 (g := w.heap.size) (a := .slice A1 s.stacks.length c1') (b := .slice A2 s.seen.length c2') (c := .int .i64 s.most) hg2 (Nat.le_refl _)) (by omega)
      obtain ⟨hi, hkf⟩ := HIg.out _ hg3 ((bV2.far3 (by omega)).far4 (by omega))
      have hk3 : Kept S w3 (set4 (set3 w3 w.heap.size (.slice A1 s.stacks.length c1') (.slice A2 s.seen.length c2') (.int .i64 s.most)) (w.heap.size + 1) (.string mm.pa) (.string mm.lo) (.string mm.re) (.slice Ai mm.code.length ci)) := fun q hq => (hkf q hq).trans (Hk3.out q hq).symm
      exact ⟨A1, c1', A2, c2', Ai, ci, mm, by rw [HF.out], hi, hg3, by rw [HF.out]; exact rd1.keep hk3, by rw [HF.out]; exact rd2.keep hk3⟩
     have oldA : ∀ (q : Addr) (v : Value), q.block < w.heap.size → w3.cell? q = some v → World.cell? (set3 w3 w.heap.size (.slice A1 s.stacks.length c1') (.slice A2 s.seen.length c2') (.int .i64 s.most)) q = some v := fun q v hq h => by
      have hne : ∀ o, q ≠ ⟨w.heap.size, o, none⟩ := fun o e => by rw [e] at hq; exact absurd hq (Nat.lt_irrefl _)
      unfold set3
      rw [World.cell?_setCell_far _ _ _ _ (by show w.heap.size ≠ q.block; omega), World.cell?_setCell_far _ _ _ _ (by show w.heap.size ≠ q.block; omega), World.cell?_setCell_far _ _ _ _ (by show w.heap.size ≠ q.block; omega)]
      exact h
     have oldB : ∀ (q : Addr) (v : Value), q.block < w.heap.size → w3.cell? q = some v → World.cell? (set4 (set3 w3 w.heap.size (.slice A1 s.stacks.length c1') (.slice A2 s.seen.length c2') (.int .i64 s.most)) (w.heap.size + 1) (.string mm.pa) (.string mm.lo) (.string mm.re) (.slice Ai mm.code.length ci)) q = some v := fun q v hq h => by
      have h2 := oldA q v hq h
      unfold set4
      rw [World.cell?_setCell_far _ _ _ _ (by show w.heap.size + 1 ≠ q.block; omega), World.cell?_setCell_far _ _ _ _ (by show w.heap.size + 1 ≠ q.block; omega), World.cell?_setCell_far _ _ _ _ (by show w.heap.size + 1 ≠ q.block; omega), World.cell?_setCell_far _ _ _ _ (by show w.heap.size + 1 ≠ q.block; omega)]
      exact h2
     have HSA : World.cell? (set3 w3 w.heap.size (.slice A1 s.stacks.length c1') (.slice A2 s.seen.length c2') (.int .i64 s.most)) ⟨gv, 2, none⟩ = some (.slice (some ⟨b1, o1, none⟩) vs.length cl) ∧ World.cell? (set3 w3 w.heap.size (.slice A1 s.stacks.length c1') (.slice A2 s.seen.length c2') (.int .i64 s.most)) ⟨gv, 1, none⟩ = some (.slice (some ⟨b2, o2, none⟩) p.methods.length cm) ∧ World.cell? (set3 w3 w.heap.size (.slice A1 s.stacks.length c1') (.slice A2 s.seen.length c2') (.int .i64 s.most)) ⟨b1, o1 + k * 3, none⟩ = some (.slice A1 s.stacks.length c1') ∧ World.cell? (set3 w3 w.heap.size (.slice A1 s.stacks.length c1') (.slice A2 s.seen.length c2') (.int .i64 s.most)) ⟨b1, o1 + k * 3 + 1, none⟩ = some (.slice A2 s.seen.length c2') ∧ World.cell? (set3 w3 w.heap.size (.slice A1 s.stacks.length c1') (.slice A2 s.seen.length c2') (.int .i64 s.most)) ⟨b1, o1 + k * 3 + 2, none⟩ = some (.int .i64 s.most) ∧ World.cell? (set3 w3 w.heap.size (.slice A1 s.stacks.length c1') (.slice A2 s.seen.length c2') (.int .i64 s.most)) ⟨b2, o2 + k * 4, none⟩ = some (.string mm.pa) ∧ World.cell? (set3 w3 w.heap.size (.slice A1 s.stacks.length c1') (.slice A2 s.seen.length c2') (.int .i64 s.most)) ⟨b2, o2 + k * 4 + 1, none⟩ = some (.string mm.lo) ∧ World.cell? (set3 w3 w.heap.size (.slice A1 s.stacks.length c1') (.slice A2 s.seen.length c2') (.int .i64 s.most)) ⟨b2, o2 + k * 4 + 2, none⟩ = some (.string mm.re) ∧ World.cell? (set3 w3 w.heap.size (.slice A1 s.stacks.length c1') (.slice A2 s.seen.length c2') (.int .i64 s.most)) ⟨b2, o2 + k * 4 + 3, none⟩ = some (.slice Ai mm.code.length ci) := ⟨oldA _ _ (hlv) v2, oldA _ _ (hlv) v1, oldA _ _ (Hlt.out b1 hb1) x0, oldA _ _ (Hlt.out b1 hb1) x1, oldA _ _ (Hlt.out b1 hb1) x2, oldA _ _ (Hlt.out b2 hb2S) m0, oldA _ _ (Hlt.out b2 hb2S) m1, oldA _ _ (Hlt.out b2 hb2S) m2, oldA _ _ (Hlt.out b2 hb2S) m3⟩
     have HSB : World.cell? (set4 (set3 w3 w.heap.size (.slice A1 s.stacks.length c1') (.slice A2 s.seen.length c2') (.int .i64 s.most)) (w.heap.size + 1) (.string mm.pa) (.string mm.lo) (.string mm.re) (.slice Ai mm.code.length ci)) ⟨gv, 2, none⟩ = some (.slice (some ⟨b1, o1, none⟩) vs.length cl) ∧ World.cell? (set4 (set3 w3 w.heap.size (.slice A1 s.stacks.length c1') (.slice A2 s.seen.length c2') (.int .i64 s.most)) (w.heap.size + 1) (.string mm.pa) (.string mm.lo) (.string mm.re) (.slice Ai mm.code.length ci)) ⟨gv, 1, none⟩ = some (.slice (some ⟨b2, o2, none⟩) p.methods.length cm) ∧ World.cell? (set4 (set3 w3 w.heap.size (.slice A1 s.stacks.length c1') (.slice A2 s.seen.length c2') (.int .i64 s.most)) (w.heap.size + 1) (.string mm.pa) (.string mm.lo) (.string mm.re) (.slice Ai mm.code.length ci)) ⟨b1, o1 + k * 3, none⟩ = some (.slice A1 s.stacks.length c1') ∧ World.cell? (set4 (set3 w3 w.heap.size (.slice A1 s.stacks.length c1') (.slice A2 s.seen.length c2') (.int .i64 s.most)) (w.heap.size + 1) (.string mm.pa) (.string mm.lo) (.string mm.re) (.slice Ai mm.code.length ci)) ⟨b1, o1 + k * 3 + 1, none⟩ = some (.slice A2 s.seen.length c2') ∧ World.cell? (set4 (set3 w3 w.heap.size (.slice A1 s.stacks.length c1') (.slice A2 s.seen.length c2') (.int .i64 s.most)) (w.heap.size + 1) (.string mm.pa) (.string mm.lo) (.string mm.re) (.slice Ai mm.code.length ci)) ⟨b1, o1 + k * 3 + 2, none⟩ = some (.int .i64 s.most) ∧ World.cell? (set4 (set3 w3 w.heap.size (.slice A1 s.stacks.length c1') (.slice A2 s.seen.length c2') (.int .i64 s.most)) (w.heap.size + 1) (.string mm.pa) (.string mm.lo) (.string mm.re) (.slice Ai mm.code.length ci)) ⟨b2, o2 + k * 4, none⟩ = some (.string mm.pa) ∧ World.cell? (set4 (set3 w3 w.heap.size (.slice A1 s.stacks.length c1') (.slice A2 s.seen.length c2') (.int .i64 s.most)) (w.heap.size + 1) (.string mm.pa) (.string mm.lo) (.string mm.re) (.slice Ai mm.code.length ci)) ⟨b2, o2 + k * 4 + 1, none⟩ = some (.string mm.lo) ∧ World.cell? (set4 (set3 w3 w.heap.size (.slice A1 s.stacks.length c1') (.slice A2 s.seen.length c2') (.int .i64 s.most)) (w.heap.size + 1) (.string mm.pa) (.string mm.lo) (.string mm.re) (.slice Ai mm.code.length ci)) ⟨b2, o2 + k * 4 + 2, none⟩ = some (.string mm.re) ∧ World.cell? (set4 (set3 w3 w.heap.size (.slice A1 s.stacks.length c1') (.slice A2 s.seen.length c2') (.int .i64 s.most)) (w.heap.size + 1) (.string mm.pa) (.string mm.lo) (.string mm.re) (.slice Ai mm.code.length ci)) ⟨b2, o2 + k * 4 + 3, none⟩ = some (.slice Ai mm.code.length ci) := ⟨oldB _ _ (hlv) v2, oldB _ _ (hlv) v1, oldB _ _ (Hlt.out b1 hb1) x0, oldB _ _ (Hlt.out b1 hb1) x1, oldB _ _ (Hlt.out b1 hb1) x2, oldB _ _ (Hlt.out b2 hb2S) m0, oldB _ _ (Hlt.out b2 hb2S) m1, oldB _ _ (Hlt.out b2 hb2S) m2, oldB _ _ (Hlt.out b2 hb2S) m3⟩
     clear oldA oldB
     simp only [set3, set4] at HSA HSB
     have HHA := Lib.hid HSA
     have HHB := Lib.hid HSB
     clear HSA HSB
     have Hfin := Lib.hid hfin
     clear hfin hF hm0 hm1 rd1 rd2
     go_upto_region 4 with (fail)
     refine wpJ_start (S := fun W => W.cell? ⟨gv, 2, none⟩ = some (.slice (some ⟨b1, o1, none⟩) vs.length cl) ∧ W.cell? ⟨gv, 1, none⟩ = some (.slice (some ⟨b2, o2, none⟩) p.methods.length cm) ∧ W.cell? ⟨b1, o1 + k * 3, none⟩ = some (.slice A1 s.stacks.length c1') ∧ W.cell? ⟨b1, o1 + k * 3 + 1, none⟩ = some (.slice A2 s.seen.length c2') ∧ W.cell? ⟨b1, o1 + k * 3 + 2, none⟩ = some (.int .i64 s.most) ∧ W.cell? ⟨b2, o2 + k * 4, none⟩ = some (.string mm.pa) ∧ W.cell? ⟨b2, o2 + k * 4 + 1, none⟩ = some (.string mm.lo) ∧ W.cell? ⟨b2, o2 + k * 4 + 2, none⟩ = some (.string mm.re) ∧ W.cell? ⟨b2, o2 + k * 4 + 3, none⟩ = some (.slice Ai mm.code.length ci)) (fun j => true) (by kernel_rfl) ⟨v2, v1, x0, x1, x2, m0, m1, m2, m3⟩ (fun HS => ?_)
     refine takeQ 0 23 rfl HS (.inl ⟨rfl, fun W hW => by obtain ⟨h0, h1, h2, h3, h4, h5, h6, h7, h8⟩ := hW; go_simp; rfl⟩) ?_
     simp only [pS]
     refine takeQ 1 24 rfl HS (.inl ⟨rfl, fun W hW => by obtain ⟨h0, h1, h2, h3, h4, h5, h6, h7, h8⟩ := hW; go_simp; rfl⟩) ?_
     simp only [pS]
     refine takeQ 2 25 rfl HS (.inl ⟨rfl, fun W hW => by obtain ⟨h0, h1, h2, h3, h4, h5, h6, h7, h8⟩ := hW; go_simp; rfl⟩) ?_
     simp only [pS]
     refine takeQ 3 26 rfl HS (.inl ⟨rfl, fun W hW => by obtain ⟨h0, h1, h2, h3, h4, h5, h6, h7, h8⟩ := hW; go_simp; rfl⟩) ?_
     simp only [pS]
     refine takeQ 4 27 rfl HS (.inl ⟨rfl, fun W hW => by obtain ⟨h0, h1, h2, h3, h4, h5, h6, h7, h8⟩ := hW; go_simp; rfl⟩) ?_
     simp only [pS]
     refine takeQ 5 28 rfl HS (.inl ⟨rfl, fun W hW => by obtain ⟨h0, h1, h2, h3, h4, h5, h6, h7, h8⟩ := hW; go_simp; rfl⟩) ?_
     simp only [pS]
     refine takeQ 6 29 rfl HS (.inl ⟨rfl, fun W hW => by obtain ⟨h0, h1, h2, h3, h4, h5, h6, h7, h8⟩ := hW; go_simp; rfl⟩) ?_
     simp only [pS]
     refine takeQ 7 30 rfl HS (.inl ⟨rfl, fun W hW => by obtain ⟨h0, h1, h2, h3, h4, h5, h6, h7, h8⟩ := hW; go_simp; rfl⟩) ?_
     simp only [pS]
     refine takeQ 8 31 rfl HS (.inl ⟨rfl, fun W hW => by obtain ⟨h0, h1, h2, h3, h4, h5, h6, h7, h8⟩ := hW; go_simp; rfl⟩) ?_
     simp only [pS]
     refine takeQ 9 32 rfl HS (.inl ⟨rfl, fun W hW => by obtain ⟨h0, h1, h2, h3, h4, h5, h6, h7, h8⟩ := hW; go_simp; rfl⟩) ?_
     simp only [pS]
     refine takeQ 10 33 rfl HS (.inl ⟨rfl, fun W hW => by obtain ⟨h0, h1, h2, h3, h4, h5, h6, h7, h8⟩ := hW; go_simp; rfl⟩) ?_
     simp only [pS]
     refine takeQ 11 34 rfl HS (.inl ⟨rfl, fun W hW => by obtain ⟨h0, h1, h2, h3, h4, h5, h6, h7, h8⟩ := hW; go_simp; rfl⟩) ?_
     simp only [pS]
     refine takeQ 12 35 rfl HS (.inl ⟨rfl, fun W hW => by obtain ⟨h0, h1, h2, h3, h4, h5, h6, h7, h8⟩ := hW; go_simp; rfl⟩) ?_
     simp only [pS]
     refine takeQ 13 36 rfl HS (.inl ⟨rfl, fun W hW => by obtain ⟨h0, h1, h2, h3, h4, h5, h6, h7, h8⟩ := hW; go_simp; rfl⟩) ?_
     simp only [pS]
     refine takeQ 14 37 rfl HS (.inl ⟨rfl, fun W hW => by obtain ⟨h0, h1, h2, h3, h4, h5, h6, h7, h8⟩ := hW; go_simp; rfl⟩) ?_
     simp only [pS]
     refine stepQ 15 rfl (fun K HK => ?_)
     clear HS
     go_simp
     refine HK.out _ _ (fun _ => by simp only [cell_drew]; exact HHA.out) ?_
     clear HK
     try simp only [pS]
     refine stepQ 16 rfl (fun K HK => ?_)
     go_simp
     refine HK.out _ _ (fun _ => by simp only [cell_drew]; exact HHB.out) ?_
     clear HK
     refine wpAnyJ_done (by kernel_rfl) ?_ _
     go_wp2
     have bA5 := (bA2.set3 (a := .slice A1 s.stacks.length c1') (b := .slice A2 s.seen.length c2') (c := .int .i64 s.most)).far4 (a := .string mm.pa) (b := .string mm.lo) (c := .string mm.re) (d := .slice Ai mm.code.length ci) (g := w.heap.size + 1) (by omega)
     have bB5 := (bB2.far3 (a := .slice A1 s.stacks.length c1') (b := .slice A2 s.seen.length c2') (c := .int .i64 s.most) (g := w.heap.size) (by omega)).set4 (a := .string mm.pa) (b := .string mm.lo) (c := .string mm.re) (d := .slice Ai mm.code.length ci)
     have q0 := bA5.at0
     have q1 := bA5.at1
     have q2 := bA5.at2
     have r0 := bB5.at0
     have r1 := bB5.at1
     have r2 := bB5.at2
     have r3 := bB5.at3
     have hfin := Hfin.out
     simp only [set3, set4] at q0 q1 q2 r0 r1 r2 r3 hfin
     refine bodyPost_ret (v := .tuple #[vm A1 A2 c1' c2' s.stacks s.seen s.most, mv Ai ci mm]) (by simp [results, Tryz.results129, go_sem, q0, q1, q2, r0, r1, r2, r3]) rfl ?_
     exact AskPost.drew hfin
theorem InfoG.below {w w' : World} {S : Nat → Prop} {gv : Nat} {p : Prg} {vs : List Vs} (h : InfoG w S gv p vs) (hb : Below w.heap.size w w') : InfoG w' S gv p vs := by
 obtain ⟨Ac, cc, Am, cm, Al, cl, cnt, h⟩ := h
 exact ⟨Ac, cc, Am, cm, Al, cl, cnt, h.blk.below hb h.blk.lt, h.prg.keep (Kept.of_below hb (fun b hs => (h.lt b hs).1)), h.inf.keep (Kept.of_below hb (fun b hs => (h.lt b hs).1)), fun b hs => ⟨Nat.lt_of_lt_of_le (h.lt b hs).1 hb.size, (h.lt b hs).2⟩⟩
theorem InfoG.lt {w : World} {S : Nat → Prop} {gv : Nat} {p : Prg} {vs : List Vs} (h : InfoG w S gv p vs) : ∀ b, S b → b < w.heap.size ∧ b ≠ gv := by
 obtain ⟨Ac, cc, Am, cm, Al, cl, cnt, h⟩ := h
 exact h.lt
/-- The stack ahead of an instruction, of any method. -/
def stackF (vs : List Vs) (m pc : Int) : ByteArray × Bool := stkF (askF vs m).stacks (askF vs m).seen pc
set_option maxRecDepth 100000 in
set_option maxHeartbeats 4000000 in
theorem stack_any {S : Nat → Prop} {gv : Nat} {p : Prg} {vs : List Vs} (hvs : vs.length = p.methods.length) (hsz : ∀ i, i < vs.length → (vs.getD i default).stacks.length = (vs.getD i default).seen.length) (m pc : Int) (w : World) (hI : InfoG w S gv p vs) :
 Calls Tryz.prog 87 #[.pointer (some ⟨gv, 0, none⟩), .int .i64 m, .int .i64 pc] w fun e w' => e = .returned (.tuple #[.string (stackF vs m pc).1, .bool (stackF vs m pc).2]) ∧ InfoG w' S gv p vs ∧ w.grownBy w' (some gv) := by
 have hask := ask_any hvs m w hI
 have hl : (askF vs m).stacks.length = (askF vs m).seen.length := by
  unfold askF
  split
  · exact hsz _ (by omega)
  · rfl
 have Hask := Lib.hid hask
 have Hl := Lib.hid hl
 clear hask hl hI
 go_enter Tryz.func87, Tryz.ntmps87
 go_wp2_with fail
 refine Hask.out.mono ?_
 rintro e w2 ⟨As, cs, Ae, ce, Ai, ci, mm, rfl, hI, hg, hrs, hre⟩
 have hSlt := hI.lt
 have hbf : Below w2.heap.size w2 ((w2.alloc (.cells #[.slice As (askF vs m).stacks.length cs, .slice Ae (askF vs m).seen.length ce, .int .i64 (askF vs m).most] 94)).alloc (.cells #[.string mm.pa, .string mm.lo, .string mm.re, .slice Ai mm.code.length ci] 90)) := ((Below.refl _ _).alloc (Nat.le_refl _) _).alloc (by simp) _
 have bA2 := (Blk.new w2 94 #[.slice As (askF vs m).stacks.length cs, .slice Ae (askF vs m).seen.length ce, .int .i64 (askF vs m).most]).alloc (.cells #[.string mm.pa, .string mm.lo, .string mm.re, .slice Ai mm.code.length ci] 90)
 have q0 := bA2.at0
 have q1 := bA2.at1
 have q2 := bA2.at2
 have hlen := hbf.size
 have hvat := fun W (h1 : Rd W W.heap.size 1 As (askF vs m).stacks.length ((askF vs m).stacks.map Value.string)) h2 => vat_any As Ae cs ce (askF vs m).stacks (askF vs m).seen (askF vs m).most pc W h1 h2 Hl.out
 have hcall := hvat _ ((hrs.keep (Kept.of_below hbf (fun b hs => (hSlt b hs).1))).rd (fun b hs => Nat.lt_of_lt_of_le (hSlt b hs).1 hlen)) ((hre.keep (Kept.of_below hbf (fun b hs => (hSlt b hs).1))).rd (fun b hs => Nat.lt_of_lt_of_le (hSlt b hs).1 hlen))
 have Hcall := Lib.hid hcall
 have Hbf := Lib.hid hbf
 have HI := Lib.hid hI
 have Hg := Lib.hid hg
 clear hcall hvat hrs hre hlen bA2 hbf hI hg hSlt
 generalize hst : (askF vs m).stacks = st at *
 generalize hse : (askF vs m).seen = se at *
 generalize hmo : (askF vs m).most = mo at *
 have HF := Lib.hid (show stackF vs m pc = stkF st se pc by unfold stackF; rw [hst, hse])
 clear hst hse hmo
 go_wp2_with fail
 refine Hcall.out.mono ?_
 rintro e w6 ⟨rfl, hb6⟩
 go_wp2
 go_ret2
 have hb26 := Hbf.out.trans (hb6.mono Hbf.out.size)
 exact ⟨ret_sb (by rw [HF.out]) (by rw [HF.out]), HI.out.below hb26, Hg.out.trans (grown_of_below hb26 (Nat.le_refl _) _)⟩
end Go.Proofs.YtjjmpfmhggcjiaaGreatDoor
