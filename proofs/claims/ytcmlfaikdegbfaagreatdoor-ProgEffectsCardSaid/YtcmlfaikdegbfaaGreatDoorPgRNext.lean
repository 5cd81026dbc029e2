/-
  The document's Next and Back; written by gen_pgrnext.py.
-/
import Derived.Test.YtcmlfaikdegbfaaGreatDoorPgNext
import Derived.Test.YtcmlfaikdegbfaaGreatDoorSorted
namespace Go.Proofs.YtcmlfaikdegbfaaGreatDoor
open Go.RowKit Go.Maps

theorem sort_two (a b : Int) : sortS [a, b] = cmp2 (lo2 b a) (hi2 b a) := by
  unfold cmp2 lo2 hi2
  have h0 : sortS [a, b] = insS [a] b := rfl
  rw [h0]
  unfold insS
  by_cases h : a < b
  · have hp : posS [a] b = 1 := by simp [posS, h]
    have hne : ¬ b = a := by omega
    rw [hp]
    simp [h, hne]
  · have hp : posS [a] b = 0 := by simp [posS, h]
    rw [hp]
    by_cases e : b = a
    · subst e; simp
    · simp [h, e, show ¬ a = b from fun x => e x.symm]
theorem sort_two_le (a b : Int) : (sortS [a, b]).length ≤ 2 := sortS_len _
set_option maxRecDepth 1000000 in
set_option maxHeartbeats 2000000 in
theorem rnext_any (A : Option Addr) (c : Nat) (m : Mth) (pc : Int) (w : World) (hr : Rd w w.heap.size 4 A m.code.length (icells m.code)) (hm : m.code.length ≤ 9223372036854775807) :
    Calls Tryz.prog 21 #[mv A c m, .int .i64 pc] w (RowPost w (nextF m pc)) := by
  have hF : nextF m pc = if inB pc m.code.length = false then []
  else if (m.code.getD pc.toNat default).op = 33 then []
  else if (m.code.getD pc.toNat default).op = 22 then [(m.code.getD pc.toNat default).a]
  else if (m.code.getD pc.toNat default).op = 23 then cmp2 (lo2 (m.code.getD pc.toNat default).a (pc + 1)) (hi2 (m.code.getD pc.toNat default).a (pc + 1))
  else [pc + 1] := rfl
  have hP : ∀ l A n c w', nextF m pc = l → n ≤ 2 → Rd w' w'.heap.size 1 A n (ints l) → Below w.heap.size w w' → RowPost w (nextF m pc) (.returned (.slice A n c)) w' := fun l A n c w' e h1 h2 h3 => ⟨A, n, c, h1, rfl, by rw [e]; exact h2, h3⟩
  have HP := Lib.hid hP
  clear hP
  generalize RowPost w (nextF m pc) = Post at *
  cases hi : inB pc m.code.length with
  | false =>
    rw [hi] at hF
    have HF := Lib.hid hF
    have hx : pc < 0 ∨ (m.code.length : Int) ≤ pc := by
      have : ¬ (0 ≤ pc ∧ pc < m.code.length) := fun hh => by
        rw [show inB pc m.code.length = true by simp [inB, hh]] at hi
        cases hi
      omega
    clear hF hi
    rcases hx with hx | hx
    · go_enter Tryz.func21, Tryz.ntmps21
      go_wp2
      exact HP.out [] _ _ _ _ HF.out (by omega) (Rd.nil _ _ _ _) ((Below.refl _ _).alloc (Nat.le_refl _) _)
    · by_cases h0 : pc < 0
      · go_enter Tryz.func21, Tryz.ntmps21
        go_wp2
        exact HP.out [] _ _ _ _ HF.out (by omega) (Rd.nil _ _ _ _) ((Below.refl _ _).alloc (Nat.le_refl _) _)
      · go_enter Tryz.func21, Tryz.ntmps21
        go_wp2
        exact HP.out [] _ _ _ _ HF.out (by omega) (Rd.nil _ _ _ _) ((Below.refl _ _).alloc (Nat.le_refl _) _)
  | true =>
    have hx := in_true hi
    obtain ⟨k, rfl⟩ : ∃ k : Nat, pc = k := ⟨pc.toNat, by omega⟩
    have hkl : k < m.code.length := by omega
    obtain ⟨b, off, rfl, hbb, x0, x1, x2, x3⟩ := ins_at hr hkl
    have k0 : (0 : Int) ≤ k := by omega
    have k1 : (k : Int) < m.code.length := by omega
    rw [if_neg (by simp [hi])] at hF
    simp only [Int.toNat_natCast] at hF
    generalize m.code.getD k default = x at *
    obtain ⟨op, xa, xb, xn⟩ := x
    simp only at hF x0 x1 x2 x3
    have hc : op = 33 ∨ op = 22 ∨ op = 23 ∨ (op ≠ 33 ∧ op ≠ 22 ∧ op ≠ 23) := by omega
    rcases hc with e | e | e | ⟨e1, e2, e3⟩
    · have HF := Lib.hid (show nextF m k = [] by rw [hF, if_pos e])
      have f1 : (op == 33) = true := by simp [e]
      clear hF e
      go_enter Tryz.func21, Tryz.ntmps21
      go_wp2
      exact HP.out [] _ _ _ _ HF.out (by omega) (Rd.nil _ _ _ _) (((Below.refl _ _).alloc (Nat.le_refl _) _).alloc (by simp) _)
    · have HF := Lib.hid (show nextF m k = [xa] by rw [hF, if_neg (by omega), if_pos e])
      have f1 : (op == 33) = false := by simp; omega
      have f2 : (op == 22) = true := by simp [e]
      clear hF e
      go_enter Tryz.func21, Tryz.ntmps21
      go_wp2
      exact HP.out [xa] _ _ _ _ HF.out (by omega) (Blk.rd (xs := ints [xa]) (Blk.newAt (by simp) _ _) rfl (by simp)) ((((Below.refl _ _).alloc (Nat.le_refl _) _).alloc (by simp) _).alloc (by simp; omega) _)
    · have HF := Lib.hid (show nextF m k = cmp2 (lo2 xa (k + 1)) (hi2 xa (k + 1)) by rw [hF, if_neg (by omega), if_neg (by omega), if_pos e])
      have f1 : (op == 33) = false := by simp; omega
      have f2 : (op == 22) = false := by simp; omega
      have f3 : (op == 23) = true := by simp [e]
      clear hF e
      go_enter Tryz.func21, Tryz.ntmps21
      go_wp2_with fail
      have hw3 := (((Below.refl w.heap.size w).alloc (Nat.le_refl _) (.cells #[.string m.pa, .string m.lo, .string m.re, .slice (some ⟨b, off, none⟩) m.code.length c] 39)).alloc (by simp) (.cells #[.int .i64 op, .int .i64 xa, .int .i64 xb, .int .i64 xn] 44)).alloc (by simp; omega) (.cells #[.int .i64 ((k : Int) + 1), .int .i64 xa] 3)
      have hbk := Blk.newAt (w := (w.alloc (.cells #[.string m.pa, .string m.lo, .string m.re, .slice (some ⟨b, off, none⟩) m.code.length c] 39)).alloc (.cells #[.int .i64 op, .int .i64 xa, .int .i64 xb, .int .i64 xn] 44)) (g := w.heap.size + 1 + 1) (by simp) 3 #[.int .i64 ((k : Int) + 1), .int .i64 xa]
      refine (sorted_any _ _ [(k : Int) + 1, xa] _ (Blk.rd (xs := ints [(k : Int) + 1, xa]) hbk rfl hbk.lt) (by simp)).mono ?_
      rintro e w4 ⟨A4, c4, rfl, r4, b4⟩
      rw [sort_two] at r4
      have hl4 := sort_two_le ((k : Int) + 1) xa
      have hw4 := hw3.trans (b4.mono hw3.size)
      go_wp2
      exact HP.out _ _ _ _ _ HF.out hl4 (by rw [sort_two]; exact r4) hw4
    · have HF := Lib.hid (show nextF m k = [(k : Int) + 1] by rw [hF, if_neg e1, if_neg e2, if_neg e3])
      have f1 : (op == 33) = false := by simp; omega
      have f2 : (op == 22) = false := by simp; omega
      have f3 : (op == 23) = false := by simp; omega
      clear hF e1 e2 e3
      go_enter Tryz.func21, Tryz.ntmps21
      go_wp2
      exact HP.out [(k : Int) + 1] _ _ _ _ HF.out (by omega) (Blk.rd (xs := ints [(k : Int) + 1]) (Blk.newAt (by simp) _ _) rfl (by simp)) ((((Below.refl _ _).alloc (Nat.le_refl _) _).alloc (by simp) _).alloc (by simp; omega) _)

set_option maxRecDepth 1000000 in
set_option maxHeartbeats 2000000 in
theorem rback_any (A : Option Addr) (c : Nat) (m : Mth) (pc : Int) (w : World) (hr : Rd w w.heap.size 4 A m.code.length (icells m.code)) (hm : m.code.length ≤ 9223372036854775807) :
    Calls Tryz.prog 23 #[mv A c m, .int .i64 pc] w fun e w' => e = .returned (.bool (backF m pc)) ∧ Below w.heap.size w w' := by
  have hF : backF m pc = (inB pc m.code.length && bkI (m.code.getD pc.toNat default) pc) := rfl
  generalize backF m pc = bf at *
  cases hi : inB pc m.code.length with
  | false =>
    rw [hi] at hF
    have HF := Lib.hid hF
    have hx : pc < 0 ∨ (m.code.length : Int) ≤ pc := by
      have : ¬ (0 ≤ pc ∧ pc < m.code.length) := fun hh => by
        rw [show inB pc m.code.length = true by simp [inB, hh]] at hi
        cases hi
      omega
    clear hF hi
    rcases hx with hx | hx
    · go_enter Tryz.func23, Tryz.ntmps23
      go_wp2
      go_ret
      exact ⟨ret_bool (by rw [HF.out]; rfl), (Below.refl _ _).alloc (Nat.le_refl _) _⟩
    · by_cases h0 : pc < 0
      · go_enter Tryz.func23, Tryz.ntmps23
        go_wp2
        go_ret
        exact ⟨ret_bool (by rw [HF.out]; rfl), (Below.refl _ _).alloc (Nat.le_refl _) _⟩
      · go_enter Tryz.func23, Tryz.ntmps23
        go_wp2
        go_ret
        exact ⟨ret_bool (by rw [HF.out]; rfl), (Below.refl _ _).alloc (Nat.le_refl _) _⟩
  | true =>
    have hx := in_true hi
    obtain ⟨k, rfl⟩ : ∃ k : Nat, pc = k := ⟨pc.toNat, by omega⟩
    have hkl : k < m.code.length := by omega
    obtain ⟨b, off, rfl, hbb, x0, x1, x2, x3⟩ := ins_at hr hkl
    have k0 : (0 : Int) ≤ k := by omega
    have k1 : (k : Int) < m.code.length := by omega
    rw [hi] at hF
    simp only [Int.toNat_natCast] at hF
    generalize m.code.getD k default = x at *
    obtain ⟨op, xa, xb, xn⟩ := x
    have hI : bkI ⟨op, xa, xb, xn⟩ k = ((op == 22 || op == 23) && decide (xa ≤ k)) := rfl
    rw [hI] at hF
    clear hI
    simp only at x0 x1 x2 x3
    have HF := Lib.hid hF
    clear hF
    cases e1 : (op == 22) with
    | true =>
      rw [e1] at HF
      go_enter Tryz.func23, Tryz.ntmps23
      go_wp2
      go_ret
      exact ⟨ret_bool (by rw [HF.out]; simp), ((Below.refl _ _).alloc (Nat.le_refl _) _).alloc (by simp) _⟩
    | false =>
      cases e2 : (op == 23) with
      | true =>
        rw [e1, e2] at HF
        go_enter Tryz.func23, Tryz.ntmps23
        go_wp2
        go_ret
        exact ⟨ret_bool (by rw [HF.out]; simp), ((Below.refl _ _).alloc (Nat.le_refl _) _).alloc (by simp) _⟩
      | false =>
        rw [e1, e2] at HF
        go_enter Tryz.func23, Tryz.ntmps23
        go_wp2
        go_ret
        exact ⟨ret_bool (by rw [HF.out]; simp), ((Below.refl _ _).alloc (Nat.le_refl _) _).alloc (by simp) _⟩
end Go.Proofs.YtcmlfaikdegbfaaGreatDoor
