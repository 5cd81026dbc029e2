/-
  The contract of prog.instr, whatever the instruction.
-/
import Derived.Test.YtcmlfaikdegbfaaGreatDoorPgIns
namespace Go.Proofs.YtcmlfaikdegbfaaGreatDoor
open Go.RowKit Go.Maps

set_option maxRecDepth 100000 in
set_option maxHeartbeats 1000000 in
theorem instr_any (a : Nat → Addr) (B : Nat) (w : World) (h : Sent w B all14 a) (hB : B ≤ w.heap.size) (Ac Am : Option Addr) (cc cm : Nat) (p : Prg) (hr : Rd w w.heap.size 1 Ac p.classes.length (p.classes.map Value.string)) (hp : POk p)
    (A : Option Addr) (c : Nat) (m : Mth) (hk : m.pa.size + m.lo.size ≤ 1000) (hm : m.code.length ≤ 9223372036854775807) (x : Ins) :
    Calls Tryz.prog 43 #[pv Ac cc Am cm p, mv A c m, iv x] w fun e w' => e = .returned (errV a (insBad p.classes p.methods.length (m.pa.size + m.lo.size) m.code.length x)) ∧ Below w.heap.size w w' := by
  by_cases h1 : 1 ≤ x.op
  · by_cases h35 : x.op ≤ 35
    · exact instr_in a B w h hB Ac Am cc cm p hr hp A c m hk hm x h1 h35
    · have hh := Lib.hid (show insBad p.classes p.methods.length (m.pa.size + m.lo.size) m.code.length x = 2 by unfold insBad; rw [if_pos (by omega)])
      obtain ⟨op, xa, xb, xn⟩ := x
      simp only at h1 h35
      have f1 : decide (op < 1) = false := by simp; omega
      have f2 : decide (35 < op) = true := by simp; omega
      clear h1 h35
      have c2 := fun o1 o2 o3 => (((h.below ((Below.refl w.heap.size w).alloc (Nat.le_refl _) o1) hB).below ((Below.refl _ _).alloc (Nat.le_refl _) o2) (by simp; omega)).below ((Below.refl _ _).alloc (Nat.le_refl _) o3) (by simp; omega)).cell 2 (by decide)
      have c3 := fun o1 o2 o3 => (c2 o1 o2 o3).2
      simp only [gOf, sent] at c3
      clear c2
      go_enter Tryz.func43, Tryz.ntmps43
      go_wp2
      go_ret
      exact ⟨by rw [hh.out]; rfl, (((Below.refl _ _).alloc (Nat.le_refl _) _).alloc (by simp) _).alloc (by simp; omega) _⟩
  · have hh := Lib.hid (show insBad p.classes p.methods.length (m.pa.size + m.lo.size) m.code.length x = 2 by unfold insBad; rw [if_pos (by omega)])
    obtain ⟨op, xa, xb, xn⟩ := x
    simp only at h1
    have f1 : decide (op < 1) = true := by simp; omega
    clear h1
    have c2 := fun o1 o2 o3 => (((h.below ((Below.refl w.heap.size w).alloc (Nat.le_refl _) o1) hB).below ((Below.refl _ _).alloc (Nat.le_refl _) o2) (by simp; omega)).below ((Below.refl _ _).alloc (Nat.le_refl _) o3) (by simp; omega)).cell 2 (by decide)
    have c3 := fun o1 o2 o3 => (c2 o1 o2 o3).2
    simp only [gOf, sent] at c3
    clear c2
    go_enter Tryz.func43, Tryz.ntmps43
    go_wp2
    go_ret
    exact ⟨by rw [hh.out]; rfl, (((Below.refl _ _).alloc (Nat.le_refl _) _).alloc (by simp) _).alloc (by simp; omega) _⟩
end Go.Proofs.YtcmlfaikdegbfaaGreatDoor
