/-
  The walk of ProgMay.
-/
import Derived.Test.YtcmlfaikdegbfaaDoorPgSame4
import Derived.Test.YtcmlfaikdegbfaaDoorPgRefMay
import Derived.Test.YtcmlfaikdegbfaaDoorPgLight
import Derived.Test.YtcmlfaikdegbfaaDoorPgFirst
import Derived.Deep.RegionHeld3
namespace Go.Proofs.YtcmlfaikdegbfaaDoor
open Go.RowKit Go.Maps

set_option maxRecDepth 100000 in
set_option maxHeartbeats 4000000 in
theorem progMay_walk (a : Nat → Addr) (B : Nat) (w : World) (h : Sent w B all14 a) (hB : B ≤ w.heap.size) (Ac Am Bc Bm : Option Addr) (cc cm dc dm : Nat) (p q : Prg) (hp : POk p) (hq : POk q) (h1 : RdP w w.heap.size Ac Am p) (h2 : RdP w w.heap.size Bc Bm q) :
    Calls Tryd.prog 5 #[pv Ac cc Am cm p, pv Bc dc Bm dm q] w fun e w' => e = .returned (.bool true) ∧ Below w.heap.size w w' := by
  have r1 := fun W (hW : Below w.heap.size w W) => (h1.below hW (Nat.le_refl _)).more hW.size
  have r2 := fun W (hW : Below w.heap.size w W) => (h2.below hW (Nat.le_refl _)).more hW.size
  have HS := Lib.hid (fun W (hW : Below w.heap.size w W) => h.below hW hB)
  have HMay := Lib.hid (fun W (hW : Hid (Below w.heap.size w W)) => may_any a B W (h.below hW.out hB) (Nat.le_trans hB hW.out.size) Ac Am cc cm p (r1 W hW.out) hp)
  have HRef := Lib.hid (fun W (hW : Hid (Below w.heap.size w W)) => rmay_any W Ac Am cc cm p (r1 W hW.out) hp)
  have hsm := fun W (hW : Hid (Below w.heap.size w W)) => progSame_any Ac Am Bc Bm cc cm dc dm p q W hp (r1 W hW.out) (r2 W hW.out)
  have hsr := fun W (hW : Hid (Below w.heap.size w W)) => sameProgram_any Ac Am Bc Bm cc cm dc dm p q W hp (r1 W hW.out) (r2 W hW.out)
  have hss := fun W (hW : Hid (Below w.heap.size w W)) => progSame_any Ac Am Ac Am cc cm cc cm p p W hp (r1 W hW.out) (r1 W hW.out)
  rw [sameP_self] at hss
  have HSm := Lib.hid hsm
  have HSr := Lib.hid hsr
  have HSs := Lib.hid hss
  have HSe := Lib.hid (fun W (hW : Hid (Below w.heap.size w W)) v f (hv : ErrV a W v f) A n c (hr : Rd W W.heap.size 1 A n (ints f.2)) => (sameE a B W (h.below hW.out hB) (Nat.le_trans hB hW.out.size) hv (codeOf f.1) A n c f.2 hr))
  have HL1 := Lib.hid (fun W (hW : Below w.heap.size w W) => light_any Ac Am cc cm p W (r1 W hW) hp)
  have HL2 := Lib.hid (fun W (hW : Below w.heap.size w W) => light_any Bc Bm dc dm q W (r2 W hW) hq)
  clear hsm hsr hss r1 r2 h1 h2
  generalize sameP p q = sq at *
  have hw := ((Below.refl w.heap.size w).alloc (Nat.le_refl _) (.cells #[.slice Ac p.classes.length cc, .slice Am p.methods.length cm] 26)).alloc (by simp) (.cells #[.slice Bc q.classes.length dc, .slice Bm q.methods.length dm] 26)
  have b1 := (Blk.new w 26 #[.slice Ac p.classes.length cc, .slice Am p.methods.length cm]).alloc (.cells #[.slice Bc q.classes.length dc, .slice Bm q.methods.length dm] 26)
  have b2 := Blk.newAt (w := w.alloc (.cells #[.slice Ac p.classes.length cc, .slice Am p.methods.length cm] 26)) (g := w.heap.size + 1) (by simp) 26 #[.slice Bc q.classes.length dc, .slice Bm q.methods.length dm]
  go_enter Tryd.func5, Tryd.ntmps5
  go_wp2_with fail
  refine (first_any a B _ (HS.out _ hw) (Nat.le_trans hB hw.size)).mono ?_
  rintro e w3 ⟨rfl, hb3⟩
  have d1 := b1.below hb3 b1.lt
  have d2 := b2.below hb3 b2.lt
  have hw3 := hw.trans (hb3.mono hw.size)
  clear b1 b2 hw hb3
  have x0 := d1.at0
  have x1 := d1.at1
  have hl1 := d1.lt
  go_wp2_with fail
  refine (HL1.out _ hw3).mono ?_
  rintro e w4 ⟨l1, rfl, hb4⟩
  have hw4 := hw3.trans (hb4.mono hw3.size)
  clear x0 x1 hl1
  cases l1 with
  | false =>
    go_wp2
    go_ret
    exact ⟨rfl, hw4⟩
  | true =>
    have e1 := d1.below hb4 d1.lt
    have e2 := d2.below hb4 d2.lt
    have y0 := e2.at0
    have y1 := e2.at1
    have hl2 := e2.lt
    clear d1 d2 hw3 hb4
    go_wp2_with fail
    refine (HL2.out _ hw4).mono ?_
    rintro e w5 ⟨l2, rfl, hb5⟩
    have hw5 := hw4.trans (hb5.mono hw4.size)
    clear y0 y1 hl2
    cases l2 with
    | false =>
      go_wp2
      go_ret
      exact ⟨rfl, hw5⟩
    | true =>
      have k1 := e1.below hb5 e1.lt
      have k2 := e2.below hb5 e2.lt
      clear e1 e2 hw4 hb5 HL1 HL2
      go_wp2
      go_region_held3 (fun w' => w'.cell? ⟨w.heap.size, 0, none⟩ = some (.slice Ac p.classes.length cc) ∧ w'.cell? ⟨w.heap.size, 1, none⟩ = some (.slice Am p.methods.length cm) ∧ w'.cell? ⟨w.heap.size + 1, 0, none⟩ = some (.slice Bc q.classes.length dc) ∧ w'.cell? ⟨w.heap.size + 1, 1, none⟩ = some (.slice Bm q.methods.length dm) ∧ Hid (Blk w' w.heap.size 26 #[.slice Ac p.classes.length cc, .slice Am p.methods.length cm]) ∧ Hid (Blk w' (w.heap.size + 1) 26 #[.slice Bc q.classes.length dc, .slice Bm q.methods.length dm]) ∧ Hid (Below w.heap.size w w'))
        (first
          | exact ⟨k1.at0, k1.at1, k2.at0, k2.at1, Lib.hid k1, Lib.hid k2, Lib.hid hw5⟩
          | exact ⟨k1.drew.at0, k1.drew.at1, k2.drew.at0, k2.drew.at1, Lib.hid k1.drew, Lib.hid k2.drew, Lib.hid hw5.drew⟩
          | (go_split_ands
             have z1 := Blk.below (Hid.out (by assumption : Hid (Blk _ w.heap.size 26 _))) hb (Blk.lt (Hid.out (by assumption)))
             have z2 := Blk.below (Hid.out (by assumption : Hid (Blk _ (w.heap.size + 1) 26 _))) hb (Blk.lt (Hid.out (by assumption)))
             exact ⟨z1.at0, z1.at1, z2.at0, z2.at1, Lib.hid z1, Lib.hid z2, Lib.hid (Below.trans (Hid.out (by assumption)) (hb.mono (Below.size (Hid.out (by assumption)))))⟩))
        (first
          | (go_at_call 9; go_split_ands; refine (HMay.out _ (by assumption)).mono ?_; rintro e w' ⟨v, rfl, hv, hb⟩)
          | (go_at_call 14; go_split_ands; refine (HRef.out _ (by assumption)).mono ?_; rintro e w' ⟨A, n, c, rfl, hn, hrd, hb⟩)
          | (go_at_call 10; go_split_ands; refine (HSe.out _ (by assumption) v _ (hv.below hb) A n c hrd).mono ?_; rintro e w' ⟨rfl, hb⟩)
          | (go_at_call 15; go_split_ands; with_reducible refine (HSm.out _ (by assumption)).mono ?_; rintro e w' ⟨rfl, hb⟩)
          | (go_at_call 15; go_split_ands; with_reducible refine (HSs.out _ (by assumption)).mono ?_; rintro e w' ⟨rfl, hb⟩)
          | (go_at_call 16; go_split_ands; refine (HSr.out _ (by assumption)).mono ?_; rintro e w' ⟨rfl, hb⟩))
      go_wp2
      go_ret
      go_split_ands
      exact ⟨by first | rfl | simp, Hid.out (by assumption)⟩
end Go.Proofs.YtcmlfaikdegbfaaDoor
