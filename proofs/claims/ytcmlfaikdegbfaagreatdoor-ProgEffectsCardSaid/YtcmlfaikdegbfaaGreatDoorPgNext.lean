/-
  Contracts of prog.Next and prog.Back.
-/
import Derived.Test.YtcmlfaikdegbfaaGreatDoorPgSort
import Derived.Test.YtcmlfaikdegbfaaGreatDoorPgIns
namespace Go.Proofs.YtcmlfaikdegbfaaGreatDoor
open Go.RowKit Go.Maps

def nextF (m : Mth) (pc : Int) : List Int :=
  if inB pc m.code.length = false then []
  else if (m.code.getD pc.toNat default).op = 33 then []
  else if (m.code.getD pc.toNat default).op = 22 then [(m.code.getD pc.toNat default).a]
  else if (m.code.getD pc.toNat default).op = 23 then cmp2 (lo2 (m.code.getD pc.toNat default).a (pc + 1)) (hi2 (m.code.getD pc.toNat default).a (pc + 1))
  else [pc + 1]
def bkI (x : Ins) (pc : Int) : Bool := (x.op == 22 || x.op == 23) && decide (x.a ≤ pc)
def backF (m : Mth) (pc : Int) : Bool := inB pc m.code.length && bkI (m.code.getD pc.toNat default) pc
def RowPost (w : World) (l : List Int) (e : Ending) (w' : World) : Prop := ∃ A n c, n ≤ 2 ∧ e = .returned (.slice A n c) ∧ Rd w' w'.heap.size 1 A n (ints l) ∧ Below w.heap.size w w'
theorem below_of_grown {B g : Nat} {w w' : World} (h : w.grownBy w' (some g)) (hg : B ≤ g) (hB : B ≤ w.heap.size) : Below B w w' := (Below.refl B w).grown h hB (fun j hj => by
  have : g = j := by simpa using hj
  omega)

set_option maxRecDepth 1000000 in
set_option maxHeartbeats 2000000 in
theorem next_any (A : Option Addr) (c : Nat) (m : Mth) (pc : Int) (w : World) (hr : Rd w w.heap.size 4 A m.code.length (icells m.code)) (hm : m.code.length ≤ 9223372036854775807) :
    Calls Tryz.prog 20 #[mv A c m, .int .i64 pc] w (RowPost w (nextF m pc)) := by
  have hF : nextF m pc = if inB pc m.code.length = false then []
  else if (m.code.getD pc.toNat default).op = 33 then []
  else if (m.code.getD pc.toNat default).op = 22 then [(m.code.getD pc.toNat default).a]
  else if (m.code.getD pc.toNat default).op = 23 then cmp2 (lo2 (m.code.getD pc.toNat default).a (pc + 1)) (hi2 (m.code.getD pc.toNat default).a (pc + 1))
  else [pc + 1] := rfl
  have hP : ∀ l A n c w', nextF m pc = l → n ≤ 2 → Rd w' w'.heap.size 1 A n (ints l) → Below w.heap.size w w' → RowPost w (nextF m pc) (.returned (.slice A n c)) w' := fun l A n c w' e h1 h2 h3 => ⟨A, n, c, h1, rfl, by rw [e]; exact h2, h3⟩
  have HP := Lib.hid hP
  clear hP
  generalize RowPost w (nextF m pc) = Post at *
  cases hi : inB pc m.code.length with
  | false =>
    rw [hi] at hF
    have HF := Lib.hid hF
    clear hF
    go_enter Tryz.func20, Tryz.ntmps20
    go_wp2_with (go_at_call 33; refine (in_any _ _ _).mono ?_; rintro e w' ⟨rfl, rfl⟩)
    exact HP.out [] _ _ _ _ HF.out (by omega) (Rd.nil _ _ _ _) ((Below.refl _ _).alloc (Nat.le_refl _) _)
  | true =>
    have hx := in_true hi
    obtain ⟨k, rfl⟩ : ∃ k : Nat, pc = k := ⟨pc.toNat, by omega⟩
    have hkl : k < m.code.length := by omega
    obtain ⟨b, off, rfl, hbb, x0, x1, x2, x3⟩ := ins_at hr hkl
    have k0 : (0 : Int) ≤ k := by omega
    have k1 : (k : Int) < m.code.length := by omega
    rw [if_neg (by simp [hi])] at hF
    simp only [Int.toNat_natCast] at hF
    generalize m.code.getD k default = x at *
    obtain ⟨op, xa, xb, xn⟩ := x
    simp only at hF x0 x1 x2 x3
    have hc : op = 33 ∨ op = 22 ∨ op = 23 ∨ (op ≠ 33 ∧ op ≠ 22 ∧ op ≠ 23) := by omega
    rcases hc with e | e | e | ⟨e1, e2, e3⟩
    · have HF := Lib.hid (show nextF m k = [] by rw [hF, if_pos e])
      have f1 : (op == 33) = true := by simp [e]
      clear hF e
      go_enter Tryz.func20, Tryz.ntmps20
      go_wp2_with (go_at_call 33; refine (in_any _ _ _).mono ?_; rintro e w' ⟨rfl, rfl⟩)
      exact HP.out [] _ _ _ _ HF.out (by omega) (Rd.nil _ _ _ _) (((Below.refl _ _).alloc (Nat.le_refl _) _).alloc (by simp) _)
    · have HF := Lib.hid (show nextF m k = [xa] by rw [hF, if_neg (by omega), if_pos e])
      have f1 : (op == 33) = false := by simp; omega
      have f2 : (op == 22) = true := by simp [e]
      clear hF e
      go_enter Tryz.func20, Tryz.ntmps20
      go_wp2_with (go_at_call 33; refine (in_any _ _ _).mono ?_; rintro e w' ⟨rfl, rfl⟩)
      exact HP.out [xa] _ _ _ _ HF.out (by omega) (Blk.rd (xs := ints [xa]) (Blk.newAt (by simp) _ _) rfl (by simp)) ((((Below.refl _ _).alloc (Nat.le_refl _) _).alloc (by simp) _).alloc (by simp; omega) _)
    · have HF := Lib.hid (show nextF m k = cmp2 (lo2 xa (k + 1)) (hi2 xa (k + 1)) by rw [hF, if_neg (by omega), if_neg (by omega), if_pos e])
      have f1 : (op == 33) = false := by simp; omega
      have f2 : (op == 22) = false := by simp; omega
      have f3 : (op == 23) = true := by simp [e]
      clear hF e
      go_enter Tryz.func20, Tryz.ntmps20
      go_wp2_with (go_at_call 33; refine (in_any _ _ _).mono ?_; rintro e w' ⟨rfl, rfl⟩)
      have hw3 := (((Below.refl w.heap.size w).alloc (Nat.le_refl _) (.cells #[.string m.pa, .string m.lo, .string m.re, .slice (some ⟨b, off, none⟩) m.code.length c] 39)).alloc (by simp) (.cells #[.int .i64 op, .int .i64 xa, .int .i64 xb, .int .i64 xn] 44)).alloc (by simp; omega) (.cells #[.int .i64 xa, .int .i64 ((k : Int) + 1)] 3)
      refine (sort2_any _ xa (k + 1) _ (Blk.newAt (by simp) _ _)).mono ?_
      rintro e w4 ⟨rfl, h4, g4⟩
      have hw4 := hw3.trans (below_of_grown g4 (by omega) hw3.size)
      go_wp2_with fail
      refine (compact2_any _ _ _ _ h4).mono ?_
      rintro e w5 ⟨n5, hn5, rfl, r5, g5⟩
      have hw5 := hw4.trans (below_of_grown g5 (by omega) hw4.size)
      go_wp2
      exact HP.out _ _ _ _ _ HF.out hn5 (r5.more (by have := h4.lt; have := g5.size; omega)) hw5
    · have HF := Lib.hid (show nextF m k = [(k : Int) + 1] by rw [hF, if_neg e1, if_neg e2, if_neg e3])
      have f1 : (op == 33) = false := by simp; omega
      have f2 : (op == 22) = false := by simp; omega
      have f3 : (op == 23) = false := by simp; omega
      clear hF e1 e2 e3
      go_enter Tryz.func20, Tryz.ntmps20
      go_wp2_with (go_at_call 33; refine (in_any _ _ _).mono ?_; rintro e w' ⟨rfl, rfl⟩)
      exact HP.out [(k : Int) + 1] _ _ _ _ HF.out (by omega) (Blk.rd (xs := ints [(k : Int) + 1]) (Blk.newAt (by simp) _ _) rfl (by simp)) ((((Below.refl _ _).alloc (Nat.le_refl _) _).alloc (by simp) _).alloc (by simp; omega) _)

set_option maxRecDepth 1000000 in
set_option maxHeartbeats 2000000 in
theorem back_any (A : Option Addr) (c : Nat) (m : Mth) (pc : Int) (w : World) (hr : Rd w w.heap.size 4 A m.code.length (icells m.code)) (hm : m.code.length ≤ 9223372036854775807) :
    Calls Tryz.prog 22 #[mv A c m, .int .i64 pc] w fun e w' => e = .returned (.bool (backF m pc)) ∧ Below w.heap.size w w' := by
  have hF : backF m pc = (inB pc m.code.length && bkI (m.code.getD pc.toNat default) pc) := rfl
  generalize backF m pc = bf at *
  cases hi : inB pc m.code.length with
  | false =>
    rw [hi] at hF
    have HF := Lib.hid hF
    clear hF
    go_enter Tryz.func22, Tryz.ntmps22
    go_wp2_with (go_at_call 33; refine (in_any _ _ _).mono ?_; rintro e w' ⟨rfl, rfl⟩)
    go_ret
    exact ⟨ret_bool (by rw [HF.out]; rfl), (Below.refl _ _).alloc (Nat.le_refl _) _⟩
  | true =>
    have hx := in_true hi
    obtain ⟨k, rfl⟩ : ∃ k : Nat, pc = k := ⟨pc.toNat, by omega⟩
    have hkl : k < m.code.length := by omega
    obtain ⟨b, off, rfl, hbb, x0, x1, x2, x3⟩ := ins_at hr hkl
    have k0 : (0 : Int) ≤ k := by omega
    have k1 : (k : Int) < m.code.length := by omega
    rw [hi] at hF
    simp only [Int.toNat_natCast] at hF
    generalize m.code.getD k default = x at *
    obtain ⟨op, xa, xb, xn⟩ := x
    have hI : bkI ⟨op, xa, xb, xn⟩ k = ((op == 22 || op == 23) && decide (xa ≤ k)) := rfl
    rw [hI] at hF
    clear hI
    simp only at x0 x1 x2 x3
    have HF := Lib.hid hF
    clear hF
    cases e1 : (op == 22) with
    | true =>
      rw [e1] at HF
      go_enter Tryz.func22, Tryz.ntmps22
      go_wp2_with (go_at_call 33; refine (in_any _ _ _).mono ?_; rintro e w' ⟨rfl, rfl⟩)
      go_ret
      exact ⟨ret_bool (by rw [HF.out]; simp), ((Below.refl _ _).alloc (Nat.le_refl _) _).alloc (by simp) _⟩
    | false =>
      cases e2 : (op == 23) with
      | true =>
        rw [e1, e2] at HF
        go_enter Tryz.func22, Tryz.ntmps22
        go_wp2_with (go_at_call 33; refine (in_any _ _ _).mono ?_; rintro e w' ⟨rfl, rfl⟩)
        go_ret
        exact ⟨ret_bool (by rw [HF.out]; simp), ((Below.refl _ _).alloc (Nat.le_refl _) _).alloc (by simp) _⟩
      | false =>
        rw [e1, e2] at HF
        go_enter Tryz.func22, Tryz.ntmps22
        go_wp2_with (go_at_call 33; refine (in_any _ _ _).mono ?_; rintro e w' ⟨rfl, rfl⟩)
        go_ret
        exact ⟨ret_bool (by rw [HF.out]; simp), ((Below.refl _ _).alloc (Nat.le_refl _) _).alloc (by simp) _⟩
end Go.Proofs.YtcmlfaikdegbfaaGreatDoor
