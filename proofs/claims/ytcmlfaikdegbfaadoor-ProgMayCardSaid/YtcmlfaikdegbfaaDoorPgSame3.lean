/-
  When two programs are the same, continued: methods, programs.
-/
import Derived.Test.YtcmlfaikdegbfaaDoorPgSame2
namespace Go.Proofs.YtcmlfaikdegbfaaDoor
open Go.RowKit Go.Maps

theorem mth_eqb (m1 m2 : Mth) : decide (m1 = m2) = (decide (m1.pa = m2.pa) && (decide (m1.lo = m2.lo) && (decide (m1.re = m2.re) && decide (m1.code = m2.code)))) := by
  obtain ⟨a1, a2, a3, a4⟩ := m1
  obtain ⟨b1, b2, b3, b4⟩ := m2
  rw [Bool.eq_iff_iff]
  simp
set_option maxRecDepth 100000 in
set_option maxHeartbeats 1000000 in
theorem sameMethod_any (A1 A2 : Option Addr) (c1 c2 : Nat) (m1 m2 : Mth) (w : World) (ok1 : MOk m1) (h1 : Rd w w.heap.size 4 A1 m1.code.length (icells m1.code)) (h2 : Rd w w.heap.size 4 A2 m2.code.length (icells m2.code)) :
    Calls Tryd.prog 49 #[mv A1 c1 m1, mv A2 c2 m2] w fun e w' => e = .returned (.bool (decide (m1 = m2))) ∧ Below w.heap.size w w' := by
  have H := Lib.hid (mth_eqb m1 m2)
  have e1 := str_eqb m1.pa m2.pa
  have e2 := str_eqb m1.lo m2.lo
  have e3 := str_eqb m1.re m2.re
  have hs := fun W hW1 hW2 => sameInstrs_any A1 A2 c1 c2 m1.code m2.code W ok1.code hW1 hW2
  have Hs := Lib.hid hs
  clear hs
  have hw := ((Below.refl w.heap.size w).alloc (Nat.le_refl _) (.cells #[.string m1.pa, .string m1.lo, .string m1.re, .slice A1 m1.code.length c1] 43)).alloc (by simp) (.cells #[.string m2.pa, .string m2.lo, .string m2.re, .slice A2 m2.code.length c2] 43)
  have b1 := (Blk.new w 43 #[.string m1.pa, .string m1.lo, .string m1.re, .slice A1 m1.code.length c1]).alloc (.cells #[.string m2.pa, .string m2.lo, .string m2.re, .slice A2 m2.code.length c2] 43)
  have b2 := Blk.newAt (w := w.alloc (.cells #[.string m1.pa, .string m1.lo, .string m1.re, .slice A1 m1.code.length c1] 43)) (g := w.heap.size + 1) (by simp) 43 #[.string m2.pa, .string m2.lo, .string m2.re, .slice A2 m2.code.length c2]
  go_enter Tryd.func49, Tryd.ntmps49
  go_wp2_with fail
  refine (Hs.out _ ((h1.below hw (Nat.le_refl _)).more hw.size) ((h2.below hw (Nat.le_refl _)).more hw.size)).mono ?_
  rintro e w3 ⟨rfl, hb3⟩
  have d1 := b1.below hb3 b1.lt
  have d2 := b2.below hb3 b2.lt
  have x0 := d1.at0
  have x1 := d1.at1
  have x2 := d1.at2
  have y0 := d2.at0
  have y1 := d2.at1
  have y2 := d2.at2
  have hl1 := d1.lt
  have hl2 := d2.lt
  have hw3 := hw.trans (hb3.mono hw.size)
  clear b1 b2 d1 d2 hb3 hw h1 h2
  generalize decide (m1.pa = m2.pa) = q1 at *
  generalize decide (m1.lo = m2.lo) = q2 at *
  generalize decide (m1.re = m2.re) = q3 at *
  generalize decide (m1.code = m2.code) = q4 at *
  cases q1 <;> cases q2 <;> cases q3 <;> cases q4
  all_goals
    go_wp2
    go_ret
    exact ⟨ret_bool (by rw [H.out]; rfl), hw3⟩

set_option maxRecDepth 100000 in
set_option maxHeartbeats 1000000 in
theorem same1_any (A1 A2 : Option Addr) (c1 c2 : Nat) (m1 m2 : Mth) (w : World) (ok1 : MOk m1) (h1 : Rd w w.heap.size 4 A1 m1.code.length (icells m1.code)) (h2 : Rd w w.heap.size 4 A2 m2.code.length (icells m2.code)) :
    Calls Tryd.prog 32 #[mv A1 c1 m1, mv A2 c2 m2] w fun e w' => e = .returned (.bool (decide (m1 = m2))) ∧ Below w.heap.size w w' := by
  have H := Lib.hid (mth_eqb m1 m2)
  have e1 := str_eqb m1.pa m2.pa
  have e2 := str_eqb m1.lo m2.lo
  have e3 := str_eqb m1.re m2.re
  have hs := fun W hW1 hW2 => equalI_any A1 A2 c1 c2 m1.code m2.code W ok1.code hW1 hW2
  have Hs := Lib.hid hs
  clear hs
  have hw := ((Below.refl w.heap.size w).alloc (Nat.le_refl _) (.cells #[.string m1.pa, .string m1.lo, .string m1.re, .slice A1 m1.code.length c1] 43)).alloc (by simp) (.cells #[.string m2.pa, .string m2.lo, .string m2.re, .slice A2 m2.code.length c2] 43)
  have r1 := (h1.below hw (Nat.le_refl _)).more hw.size
  have r2 := (h2.below hw (Nat.le_refl _)).more hw.size
  have R1 := Lib.hid r1
  have R2 := Lib.hid r2
  clear r1 r2 h1 h2
  generalize decide (m1.pa = m2.pa) = q1 at *
  generalize decide (m1.lo = m2.lo) = q2 at *
  generalize decide (m1.re = m2.re) = q3 at *
  generalize decide (m1.code = m2.code) = q4 at *
  cases q1 <;> cases q2 <;> cases q3 <;> cases q4
  all_goals
    go_enter Tryd.func32, Tryd.ntmps32
    go_wp2_with (go_at_call 33; refine (Hs.out _ R1.out R2.out).mono ?_; rintro e w3 ⟨rfl, hb3⟩)
    go_ret
    exact ⟨ret_bool (by rw [H.out]; rfl), by first | exact hw | exact hw.trans (hb3.mono hw.size)⟩
end Go.Proofs.YtcmlfaikdegbfaaDoor
