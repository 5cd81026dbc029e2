/-
  PgNext, PgRNext.
-/
import Derived.Test.YtjjmpfmhggcjiaaGreatDoorJPgIns
import Derived.Test.YtjjmpfmhggcjiaaGreatDoorJShape
import Derived.Test.YtjjmpfmhggcjiaaGreatDoorJSorted
set_option linter.unusedSimpArgs false
set_option linter.unusedVariables false
namespace Go.Proofs.YtjjmpfmhggcjiaaGreatDoor
open Go.RowKit Go.Maps
def nextF (m : Mth) (pc : Int) : List Int :=
  if inB pc m.code.length = false then []
  else if (m.code.getD pc.toNat default).op = 33 then []
  else if (m.code.getD pc.toNat default).op = 22 then [(m.code.getD pc.toNat default).a]
  else if (m.code.getD pc.toNat default).op = 23 then cmp2 (lo2 (m.code.getD pc.toNat default).a (pc + 1)) (hi2 (m.code.getD pc.toNat default).a (pc + 1))
  else [pc + 1]
def RowPost (w : World) (l : List Int) (e : Ending) (w' : World) : Prop := ∃ A n c, n ≤ 2 ∧ e = .returned (.slice A n c) ∧ Rd w' w'.heap.size 1 A n (ints l) ∧ Below w.heap.size w w'
theorem below_of_grown {B g : Nat} {w w' : World} (h : w.grownBy w' (some g)) (hg : B ≤ g) (hB : B ≤ w.heap.size) : Below B w w' := (Below.refl B w).grown h hB (fun j hj => by
  have : g = j := by simpa using hj
  omega)
set_option maxRecDepth 1000000 in
set_option maxHeartbeats 2000000 in
theorem next_any (A : Option Addr) (c : Nat) (m : Mth) (pc : Int) (w : World) (hr : Rd w w.heap.size 4 A m.code.length (icells m.code)) (hm : m.code.length ≤ 9223372036854775807) :
    Calls Tryz.prog 71 #[mv A c m, .int .i64 pc] w (RowPost w (nextF m pc)) := by
  have hF : nextF m pc = if inB pc m.code.length = false then []
  else if (m.code.getD pc.toNat default).op = 33 then []
  else if (m.code.getD pc.toNat default).op = 22 then [(m.code.getD pc.toNat default).a]
  else if (m.code.getD pc.toNat default).op = 23 then cmp2 (lo2 (m.code.getD pc.toNat default).a (pc + 1)) (hi2 (m.code.getD pc.toNat default).a (pc + 1))
  else [pc + 1] := rfl
  have hP : ∀ l A n c w', nextF m pc = l → n ≤ 2 → Rd w' w'.heap.size 1 A n (ints l) → Below w.heap.size w w' → RowPost w (nextF m pc) (.returned (.slice A n c)) w' := fun l A n c w' e h1 h2 h3 => ⟨A, n, c, h1, rfl, by rw [e]; exact h2, h3⟩
  have HP := Lib.hid hP
  clear hP
  generalize RowPost w (nextF m pc) = Post at *
  cases hi : inB pc m.code.length with
  | false =>
    rw [hi] at hF
    have HF := Lib.hid hF
    clear hF
    go_enter Tryz.func71, Tryz.ntmps71
    go_wp2_with (go_at_call 116; refine (in_any _ _ _).mono ?_; rintro e w' ⟨rfl, rfl⟩)
    exact HP.out [] _ _ _ _ HF.out (by omega) (Rd.nil _ _ _ _) ((Below.refl _ _).alloc (Nat.le_refl _) _)
  | true =>
    have hx := in_true hi
    obtain ⟨k, rfl⟩ : ∃ k : Nat, pc = k := ⟨pc.toNat, by omega⟩
    have hkl : k < m.code.length := by omega
    obtain ⟨b, off, rfl, hbb, x0, x1, x2, x3⟩ := ins_at hr hkl
    have k0 : (0 : Int) ≤ k := by omega
    have k1 : (k : Int) < m.code.length := by omega
    rw [if_neg (by simp [hi])] at hF
    simp only [Int.toNat_natCast] at hF
    generalize m.code.getD k default = x at *
    obtain ⟨op, xa, xb, xn⟩ := x
    simp only at hF x0 x1 x2 x3
    have hc : op = 33 ∨ op = 22 ∨ op = 23 ∨ (op ≠ 33 ∧ op ≠ 22 ∧ op ≠ 23) := by omega
    rcases hc with e | e | e | ⟨e1, e2, e3⟩
    · have HF := Lib.hid (show nextF m k = [] by rw [hF, if_pos e])
      have f1 : (op == 33) = true := by simp [e]
      clear hF e
      go_enter Tryz.func71, Tryz.ntmps71
      go_wp2_with (go_at_call 116; refine (in_any _ _ _).mono ?_; rintro e w' ⟨rfl, rfl⟩)
      exact HP.out [] _ _ _ _ HF.out (by omega) (Rd.nil _ _ _ _) (((Below.refl _ _).alloc (Nat.le_refl _) _).alloc (by simp) _)
    · have HF := Lib.hid (show nextF m k = [xa] by rw [hF, if_neg (by omega), if_pos e])
      have f1 : (op == 33) = false := by simp; omega
      have f2 : (op == 22) = true := by simp [e]
      clear hF e
      go_enter Tryz.func71, Tryz.ntmps71
      go_wp2_with (go_at_call 116; refine (in_any _ _ _).mono ?_; rintro e w' ⟨rfl, rfl⟩)
      exact HP.out [xa] _ _ _ _ HF.out (by omega) (Blk.rd (xs := ints [xa]) (Blk.newAt (by simp) _ _) rfl (by simp)) ((((Below.refl _ _).alloc (Nat.le_refl _) _).alloc (by simp) _).alloc (by simp; omega) _)
    · have HF := Lib.hid (show nextF m k = cmp2 (lo2 xa (k + 1)) (hi2 xa (k + 1)) by rw [hF, if_neg (by omega), if_neg (by omega), if_pos e])
      have f1 : (op == 33) = false := by simp; omega
      have f2 : (op == 22) = false := by simp; omega
      have f3 : (op == 23) = true := by simp [e]
      clear hF e
      go_enter Tryz.func71, Tryz.ntmps71
      go_wp2_with (go_at_call 116; refine (in_any _ _ _).mono ?_; rintro e w' ⟨rfl, rfl⟩)
      have hw3 := (((Below.refl w.heap.size w).alloc (Nat.le_refl _) (.cells #[.string m.pa, .string m.lo, .string m.re, .slice (some ⟨b, off, none⟩) m.code.length c] 90)).alloc (by simp) (.cells #[.int .i64 op, .int .i64 xa, .int .i64 xb, .int .i64 xn] 118)).alloc (by simp; omega) (.cells #[.int .i64 xa, .int .i64 ((k : Int) + 1)] 3)
      refine (sort2_any _ xa (k + 1) _ (Blk.newAt (by simp) _ _)).mono ?_
      rintro e w4 ⟨rfl, h4, g4⟩
      have hw4 := hw3.trans (below_of_grown g4 (by omega) hw3.size)
      go_wp2_with fail
      refine (compact2_any _ _ _ _ h4).mono ?_
      rintro e w5 ⟨n5, hn5, rfl, r5, g5⟩
      have hw5 := hw4.trans (below_of_grown g5 (by omega) hw4.size)
      go_wp2
      exact HP.out _ _ _ _ _ HF.out hn5 (r5.more (by have := h4.lt; have := g5.size; omega)) hw5
    · have HF := Lib.hid (show nextF m k = [(k : Int) + 1] by rw [hF, if_neg e1, if_neg e2, if_neg e3])
      have f1 : (op == 33) = false := by simp; omega
      have f2 : (op == 22) = false := by simp; omega
      have f3 : (op == 23) = false := by simp; omega
      clear hF e1 e2 e3
      go_enter Tryz.func71, Tryz.ntmps71
      go_wp2_with (go_at_call 116; refine (in_any _ _ _).mono ?_; rintro e w' ⟨rfl, rfl⟩)
      exact HP.out [(k : Int) + 1] _ _ _ _ HF.out (by omega) (Blk.rd (xs := ints [(k : Int) + 1]) (Blk.newAt (by simp) _ _) rfl (by simp)) ((((Below.refl _ _).alloc (Nat.le_refl _) _).alloc (by simp) _).alloc (by simp; omega) _)
end Go.Proofs.YtjjmpfmhggcjiaaGreatDoor
namespace Go.Proofs.YtjjmpfmhggcjiaaGreatDoor
open Go.RowKit Go.Maps
theorem sort_two (a b : Int) : sortS [a, b] = cmp2 (lo2 b a) (hi2 b a) := by
  unfold cmp2 lo2 hi2
  have h0 : sortS [a, b] = insS [a] b := rfl
  rw [h0]
  unfold insS
  by_cases h : a < b
  · have hp : posS [a] b = 1 := by simp [posS, h]
    have hne : ¬ b = a := by omega
    rw [hp]
    simp [h, hne]
  · have hp : posS [a] b = 0 := by simp [posS, h]
    rw [hp]
    by_cases e : b = a
    · subst e; simp
    · simp [h, e, show ¬ a = b from fun x => e x.symm]
theorem sort_two_le (a b : Int) : (sortS [a, b]).length ≤ 2 := sortS_len _
set_option maxRecDepth 1000000 in
set_option maxHeartbeats 2000000 in
theorem rnext_any (A : Option Addr) (c : Nat) (m : Mth) (pc : Int) (w : World) (hr : Rd w w.heap.size 4 A m.code.length (icells m.code)) (hm : m.code.length ≤ 9223372036854775807) :
    Calls Tryz.prog 114 #[mv A c m, .int .i64 pc] w (RowPost w (nextF m pc)) := by
  have hF : nextF m pc = if inB pc m.code.length = false then []
  else if (m.code.getD pc.toNat default).op = 33 then []
  else if (m.code.getD pc.toNat default).op = 22 then [(m.code.getD pc.toNat default).a]
  else if (m.code.getD pc.toNat default).op = 23 then cmp2 (lo2 (m.code.getD pc.toNat default).a (pc + 1)) (hi2 (m.code.getD pc.toNat default).a (pc + 1))
  else [pc + 1] := rfl
  have hP : ∀ l A n c w', nextF m pc = l → n ≤ 2 → Rd w' w'.heap.size 1 A n (ints l) → Below w.heap.size w w' → RowPost w (nextF m pc) (.returned (.slice A n c)) w' := fun l A n c w' e h1 h2 h3 => ⟨A, n, c, h1, rfl, by rw [e]; exact h2, h3⟩
  have HP := Lib.hid hP
  clear hP
  generalize RowPost w (nextF m pc) = Post at *
  cases hi : inB pc m.code.length with
  | false =>
    rw [hi] at hF
    have HF := Lib.hid hF
    have hx : pc < 0 ∨ (m.code.length : Int) ≤ pc := by
      have : ¬ (0 ≤ pc ∧ pc < m.code.length) := fun hh => by
        rw [show inB pc m.code.length = true by simp [inB, hh]] at hi
        cases hi
      omega
    clear hF hi
    rcases hx with hx | hx
    · go_enter Tryz.func114, Tryz.ntmps114
      go_wp2
      exact HP.out [] _ _ _ _ HF.out (by omega) (Rd.nil _ _ _ _) ((Below.refl _ _).alloc (Nat.le_refl _) _)
    · by_cases h0 : pc < 0
      · go_enter Tryz.func114, Tryz.ntmps114
        go_wp2
        exact HP.out [] _ _ _ _ HF.out (by omega) (Rd.nil _ _ _ _) ((Below.refl _ _).alloc (Nat.le_refl _) _)
      · go_enter Tryz.func114, Tryz.ntmps114
        go_wp2
        exact HP.out [] _ _ _ _ HF.out (by omega) (Rd.nil _ _ _ _) ((Below.refl _ _).alloc (Nat.le_refl _) _)
  | true =>
    have hx := in_true hi
    obtain ⟨k, rfl⟩ : ∃ k : Nat, pc = k := ⟨pc.toNat, by omega⟩
    have hkl : k < m.code.length := by omega
    obtain ⟨b, off, rfl, hbb, x0, x1, x2, x3⟩ := ins_at hr hkl
    have k0 : (0 : Int) ≤ k := by omega
    have k1 : (k : Int) < m.code.length := by omega
    rw [if_neg (by simp [hi])] at hF
    simp only [Int.toNat_natCast] at hF
    generalize m.code.getD k default = x at *
    obtain ⟨op, xa, xb, xn⟩ := x
    simp only at hF x0 x1 x2 x3
    have hc : op = 33 ∨ op = 22 ∨ op = 23 ∨ (op ≠ 33 ∧ op ≠ 22 ∧ op ≠ 23) := by omega
    rcases hc with e | e | e | ⟨e1, e2, e3⟩
    · have HF := Lib.hid (show nextF m k = [] by rw [hF, if_pos e])
      have f1 : (op == 33) = true := by simp [e]
      clear hF e
      go_enter Tryz.func114, Tryz.ntmps114
      go_wp2
      exact HP.out [] _ _ _ _ HF.out (by omega) (Rd.nil _ _ _ _) (((Below.refl _ _).alloc (Nat.le_refl _) _).alloc (by simp) _)
    · have HF := Lib.hid (show nextF m k = [xa] by rw [hF, if_neg (by omega), if_pos e])
      have f1 : (op == 33) = false := by simp; omega
      have f2 : (op == 22) = true := by simp [e]
      clear hF e
      go_enter Tryz.func114, Tryz.ntmps114
      go_wp2
      exact HP.out [xa] _ _ _ _ HF.out (by omega) (Blk.rd (xs := ints [xa]) (Blk.newAt (by simp) _ _) rfl (by simp)) ((((Below.refl _ _).alloc (Nat.le_refl _) _).alloc (by simp) _).alloc (by simp; omega) _)
    · have HF := Lib.hid (show nextF m k = cmp2 (lo2 xa (k + 1)) (hi2 xa (k + 1)) by rw [hF, if_neg (by omega), if_neg (by omega), if_pos e])
      have f1 : (op == 33) = false := by simp; omega
      have f2 : (op == 22) = false := by simp; omega
      have f3 : (op == 23) = true := by simp [e]
      clear hF e
      go_enter Tryz.func114, Tryz.ntmps114
      go_wp2_with fail
      have hw3 := (((Below.refl w.heap.size w).alloc (Nat.le_refl _) (.cells #[.string m.pa, .string m.lo, .string m.re, .slice (some ⟨b, off, none⟩) m.code.length c] 90)).alloc (by simp) (.cells #[.int .i64 op, .int .i64 xa, .int .i64 xb, .int .i64 xn] 118)).alloc (by simp; omega) (.cells #[.int .i64 ((k : Int) + 1), .int .i64 xa] 3)
      have hbk := Blk.newAt (w := (w.alloc (.cells #[.string m.pa, .string m.lo, .string m.re, .slice (some ⟨b, off, none⟩) m.code.length c] 90)).alloc (.cells #[.int .i64 op, .int .i64 xa, .int .i64 xb, .int .i64 xn] 118)) (g := w.heap.size + 1 + 1) (by simp) 3 #[.int .i64 ((k : Int) + 1), .int .i64 xa]
      refine (sorted_any _ _ [(k : Int) + 1, xa] _ (Blk.rd (xs := ints [(k : Int) + 1, xa]) hbk rfl hbk.lt) (by simp)).mono ?_
      rintro e w4 ⟨A4, c4, rfl, r4, b4⟩
      rw [sort_two] at r4
      have hl4 := sort_two_le ((k : Int) + 1) xa
      have hw4 := hw3.trans (b4.mono hw3.size)
      go_wp2
      exact HP.out _ _ _ _ _ HF.out hl4 (by rw [sort_two]; exact r4) hw4
    · have HF := Lib.hid (show nextF m k = [(k : Int) + 1] by rw [hF, if_neg e1, if_neg e2, if_neg e3])
      have f1 : (op == 33) = false := by simp; omega
      have f2 : (op == 22) = false := by simp; omega
      have f3 : (op == 23) = false := by simp; omega
      clear hF e1 e2 e3
      go_enter Tryz.func114, Tryz.ntmps114
      go_wp2
      exact HP.out [(k : Int) + 1] _ _ _ _ HF.out (by omega) (Blk.rd (xs := ints [(k : Int) + 1]) (Blk.newAt (by simp) _ _) rfl (by simp)) ((((Below.refl _ _).alloc (Nat.le_refl _) _).alloc (by simp) _).alloc (by simp; omega) _)
end Go.Proofs.YtjjmpfmhggcjiaaGreatDoor
