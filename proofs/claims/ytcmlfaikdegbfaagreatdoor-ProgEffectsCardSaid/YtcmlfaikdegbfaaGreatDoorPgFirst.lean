/-
  The statements' own examples of chapter 3 (first) and their program of one instruction (one).
-/
import Derived.Test.YtcmlfaikdegbfaaGreatDoorPgSmall
namespace Go.Proofs.YtcmlfaikdegbfaaGreatDoor
open Go.RowKit Go.Maps

def retI : Ins := ⟨33, 0, 0, 0⟩
def sIR : ByteArray := ⟨#[73, 82]⟩
def s0 : ByteArray := ⟨#[]⟩
/-- The program of one instruction behind others. -/
def oneP (x : Ins) : Prg := ⟨[sIR, s0], [⟨s0, s0, s0, [retI]⟩, ⟨strI, strR, s0, [retI, x]⟩]⟩
def exP1 : Prg := ⟨[], [⟨s0, s0, strI, [⟨1, 0, 0, 1⟩, retI]⟩]⟩
def exP2 : Prg := ⟨[], [⟨s0, s0, strI, [⟨3, 0, 0, 0⟩, retI]⟩]⟩
def exP3 : Prg := ⟨[sIR], [⟨s0, s0, strI, [⟨1, 0, 0, 1⟩, retI]⟩]⟩
theorem may1 : mayP exP1 = (0, []) := by decide +kernel
theorem may2 : mayP exP2 = (3, [0, 0]) := by decide +kernel

theorem field3 : strR ++ fieldF exP3 0 1 = ⟨#[82, 82]⟩ := by decide +kernel
theorem field3s : (fieldF exP3 0 1).size ≤ 100 := by decide +kernel
theorem RdMs.of1 {w : World} {B : Nat} {A A1 : Option Addr} {c1 : Nat} {m1 : Mth} (h : Rd w B 4 A 1 (mcell (m1, (A1, c1)))) (h1 : Rd w B 4 A1 m1.code.length (icells m1.code)) : RdMs w B A [m1] := by
  refine ⟨[(A1, c1)], rfl, by simpa [mthCells] using h, fun k m hh e1 e2 => ?_⟩
  match k with
  | 0 =>
    simp at e1 e2
    subst e1 e2
    exact h1
  | k + 1 => simp at e1
theorem RdMs.of2 {w : World} {B : Nat} {A A1 A2 : Option Addr} {c1 c2 : Nat} {m1 m2 : Mth} (h : Rd w B 4 A 2 (mcell (m1, (A1, c1)) ++ mcell (m2, (A2, c2)))) (h1 : Rd w B 4 A1 m1.code.length (icells m1.code)) (h2 : Rd w B 4 A2 m2.code.length (icells m2.code)) : RdMs w B A [m1, m2] := by
  refine ⟨[(A1, c1), (A2, c2)], rfl, by simpa [mthCells] using h, fun k m hh e1 e2 => ?_⟩
  match k with
  | 0 =>
    simp at e1 e2
    subst e1 e2
    exact h1
  | 1 =>
    simp at e1 e2
    subst e1 e2
    exact h2
  | k + 2 => simp at e1
theorem POk.of {p : Prg} (h1 : p.classes.length ≤ 1000) (h2 : p.methods.length ≤ 1000) (h3 : ∀ s ∈ p.classes, s.size ≤ 1000) (h4 : ∀ m ∈ p.methods, m.pa.size ≤ 1000 ∧ m.lo.size ≤ 1000 ∧ m.re.size ≤ 1000 ∧ m.code.length ≤ 1000) : POk p := by
  refine ⟨by omega, by omega, fun k hk => ?_, fun k hk => ?_⟩
  · have := h3 (p.classes.getD k ⟨#[]⟩) (by simp [hk])
    omega
  · obtain ⟨g1, g2, g3, g4⟩ := h4 (p.methods.getD k default) (by simp [hk])
    exact ⟨by omega, by omega, by omega, by omega⟩
theorem sz0 : s0.size = 0 := rfl
theorem szIR : sIR.size = 2 := rfl
theorem szI : strI.size = 1 := rfl
theorem szR : strR.size = 1 := rfl
theorem one_ok (x : Ins) : POk (oneP x) := POk.of (by simp [oneP]) (by simp [oneP]) (by simp [oneP, sz0, szIR]) (by simp [oneP, sz0, szI, szR])
theorem ex1_ok : POk exP1 := POk.of (by simp [exP1]) (by simp [exP1]) (by simp [exP1]) (by simp [exP1, sz0, szI])
theorem ex2_ok : POk exP2 := POk.of (by simp [exP2]) (by simp [exP2]) (by simp [exP2]) (by simp [exP2, sz0, szI])
theorem ex3_ok : POk exP3 := POk.of (by simp [exP3]) (by simp [exP3]) (by simp [exP3, szIR]) (by simp [exP3, sz0, szI])

def OnePost (w : World) (x : Ins) (e : Ending) (w' : World) : Prop := ∃ Ac Am, e = .returned (pv Ac 2 Am 2 (oneP x)) ∧ RdP w' w'.heap.size Ac Am (oneP x) ∧ Below w.heap.size w w'

set_option maxRecDepth 100000 in
set_option maxHeartbeats 1000000 in
theorem first_any (a : Nat → Addr) (B : Nat) (w : World) (h : Sent w B all14 a) (hB : B ≤ w.heap.size) :
    Calls Tryz.prog 4 #[] w fun e w' => e = .returned (.bool true) ∧ Below w.heap.size w w' := by
  have he := fun Ac Am cc cm W => effect_put Ac Am cc cm exP3 ⟨26, 0, 1, 0⟩ rfl 0 W
  have hm1 := fun Ac Am cc cm W hW hB' => may_any a B W (h := hW) (hB := hB') Ac Am cc cm exP1
  have hm2 := fun Ac Am cc cm W hW hB' => may_any a B W (h := hW) (hB := hB') Ac Am cc cm exP2
  have hsame := fun W hW hB' v hv A2 n2 p2 l2 => sameE a B W (h := hW) (hB := hB') (v := v) (f := (3, [0, 0])) hv 103 A2 n2 p2 l2
  rw [field3] at he
  unfold MayPost at hm1 hm2
  rw [may1] at hm1
  rw [may2] at hm2
  have He := Lib.hid he
  have Hm1 := Lib.hid hm1
  have Hm2 := Lib.hid hm2
  have Hs := Lib.hid hsame
  clear he hm1 hm2 hsame
  go_enter Tryz.func4, Tryz.ntmps4
  go_wp2_with fail
  let W8 := (((((((w.alloc (.cells ⟨icells [⟨1, 0, 0, 1⟩, retI]⟩ 44)).alloc (.cells ⟨mcell (⟨s0, s0, strI, [⟨1, 0, 0, 1⟩, retI]⟩, (some ⟨w.heap.size, 0, none⟩, 2))⟩ 39)).alloc (.cells #[.slice none 0 0, .slice (some ⟨w.heap.size + 1, 0, none⟩) 1 1] 25)).alloc (.cells ⟨icells [⟨3, 0, 0, 0⟩, retI]⟩ 44)).alloc (.cells ⟨mcell (⟨s0, s0, strI, [⟨3, 0, 0, 0⟩, retI]⟩, (some ⟨w.heap.size + 1 + 1 + 1, 0, none⟩, 2))⟩ 39)).alloc (.cells #[.slice none 0 0, .slice (some ⟨w.heap.size + 1 + 1 + 1 + 1, 0, none⟩) 1 1] 25)).alloc (.cells #[.string sIR] 50)).alloc (.cells #[.slice (some ⟨w.heap.size + 1 + 1 + 1 + 1 + 1 + 1, 0, none⟩) 1 1, .slice (some ⟨w.heap.size + 1, 0, none⟩) 1 1] 25)
  have hw : Below w.heap.size w W8 := ((((((((Below.refl _ _).alloc (Nat.le_refl _) _).alloc (by simp) _).alloc (by simp; omega) _).alloc (by simp; omega) _).alloc (by simp; omega) _).alloc (by simp; omega) _).alloc (by simp; omega) _).alloc (by simp; omega) _
  change Calls _ _ _ W8 _
  have b1 : Blk W8 (w.heap.size + 1 + 1) 25 #[.slice none 0 0, .slice (some ⟨w.heap.size + 1, 0, none⟩) 1 1] := (((((Blk.newAt (by simp) _ _).alloc _).alloc _).alloc _).alloc _).alloc _
  have b2 : Blk W8 (w.heap.size + 1 + 1 + 1 + 1 + 1) 25 #[.slice none 0 0, .slice (some ⟨w.heap.size + 1 + 1 + 1 + 1, 0, none⟩) 1 1] := ((Blk.newAt (by simp) _ _).alloc _).alloc _
  have k1 : Blk W8 w.heap.size 44 ⟨icells [⟨1, 0, 0, 1⟩, retI]⟩ := (((((((Blk.newAt (by simp) _ _).alloc _).alloc _).alloc _).alloc _).alloc _).alloc _).alloc _
  have k2 : Blk W8 (w.heap.size + 1) 39 ⟨mcell (⟨s0, s0, strI, [⟨1, 0, 0, 1⟩, retI]⟩, (some ⟨w.heap.size, 0, none⟩, 2))⟩ := ((((((Blk.newAt (by simp) _ _).alloc _).alloc _).alloc _).alloc _).alloc _).alloc _
  have k4 : Blk W8 (w.heap.size + 1 + 1 + 1) 44 ⟨icells [⟨3, 0, 0, 0⟩, retI]⟩ := ((((Blk.newAt (by simp) _ _).alloc _).alloc _).alloc _).alloc _
  have k5 : Blk W8 (w.heap.size + 1 + 1 + 1 + 1) 39 ⟨mcell (⟨s0, s0, strI, [⟨3, 0, 0, 0⟩, retI]⟩, (some ⟨w.heap.size + 1 + 1 + 1, 0, none⟩, 2))⟩ := (((Blk.newAt (by simp) _ _).alloc _).alloc _).alloc _
  have k7 : Blk W8 (w.heap.size + 1 + 1 + 1 + 1 + 1 + 1) 50 ⟨[Value.string sIR]⟩ := (Blk.newAt (by simp) _ _).alloc _
  generalize W8 = W at *
  have r1 : RdP W W.heap.size none (some ⟨w.heap.size + 1, 0, none⟩) exP1 := ⟨Rd.nil _ _ _ _, RdMs.of1 (Blk.rd k2 rfl k2.lt) (Blk.rd k1 rfl k1.lt)⟩
  have r2 : RdP W W.heap.size none (some ⟨w.heap.size + 1 + 1 + 1 + 1, 0, none⟩) exP2 := ⟨Rd.nil _ _ _ _, RdMs.of1 (Blk.rd k5 rfl k5.lt) (Blk.rd k4 rfl k4.lt)⟩
  have r3 : RdP W W.heap.size (some ⟨w.heap.size + 1 + 1 + 1 + 1 + 1 + 1, 0, none⟩) (some ⟨w.heap.size + 1, 0, none⟩) exP3 := ⟨Blk.rd k7 rfl k7.lt, RdMs.of1 (Blk.rd k2 rfl k2.lt) (Blk.rd k1 rfl k1.lt)⟩
  clear k1 k2 k4 k5 k7
  refine (He.out _ _ 1 1 W r3 ex3_ok field3s).mono ?_
  rintro e w1 ⟨rfl, hb1⟩
  have hw1 := hw.trans (hb1.mono hw.size)
  have c1 := b1.below hb1 b1.lt
  have c2 := b2.below hb1 b2.lt
  have q0 := c1.at0
  have q1 := c1.at1
  have u0 := c2.at0
  have u1 := c2.at1
  have s1 := (r1.below hb1 (Nat.le_refl _)).more hb1.size
  have s2 := (r2.below hb1 (Nat.le_refl _)).more hb1.size
  clear b1 b2 r1 r2 r3 hb1 hw
  go_wp2_with fail
  refine (Hm1.out _ _ 0 1 w1 (h.below hw1 hB) (Nat.le_trans hB hw1.size) s1 ex1_ok).mono ?_
  rintro e w2 ⟨v, rfl, hv, hb2⟩
  cases hv
  have hw2 := hw1.trans (hb2.mono hw1.size)
  have d2 := c2.below hb2 c2.lt
  have v0 := d2.at0
  have v1 := d2.at1
  have t2 := (s2.below hb2 (Nat.le_refl _)).more hb2.size
  clear q0 q1 u0 u1 s1 s2 hb2 c1 c2 hw1
  go_wp2_with fail
  refine (Hm2.out _ _ 0 1 w2 (h.below hw2 hB) (Nat.le_trans hB hw2.size) t2 ex2_ok).mono ?_
  rintro e w3 ⟨v, rfl, hv, hb3⟩
  have hw3 := hw2.trans (hb3.mono hw2.size)
  clear v0 v1 t2 hb3 d2 hw2
  go_wp2_with fail
  refine (there_any 103 0 0 _).mono ?_
  rintro e w4 ⟨g, rfl, hg, hb4⟩
  have hw4 := hw3.trans (hb4.mono hw3.size)
  go_wp2_with fail
  refine (Hs.out _ (h.below hw4 hB) (Nat.le_trans hB hw4.size) _ (hv.below hb4) _ _ _ _ (Blk.rd (xs := ints [0, 0]) hg rfl hg.lt)).mono ?_
  rintro e w5 ⟨rfl, hb5⟩
  go_wp2
  go_ret
  exact ⟨rfl, hw4.trans (hb5.mono hw4.size)⟩
end Go.Proofs.YtcmlfaikdegbfaaGreatDoor
