/-
  The walk of ProgGoes.
-/
import Derived.Test.YtcmlfaikdegbfaaDoorPgNext
import Derived.Test.YtcmlfaikdegbfaaDoorPgFirst
import Derived.IntWalk
namespace Go.Proofs.YtcmlfaikdegbfaaDoor
open Go.RowKit Go.Maps

set_option maxRecDepth 1000000 in
set_option maxHeartbeats 1000000 in
theorem goes_big (a : Nat → Addr) (B : Nat) (w : World) (h : Sent w B all14 a) (hB : B ≤ w.heap.size) (A : Option Addr) (n c : Nat) (hn : 120 < n) (hn2 : n ≤ 9223372036854775807) (pc : Int) :
    Calls Tryd.prog 6 #[.slice A n c, .int .i64 pc] w fun e w' => e = .returned (.bool true) ∧ Below w.heap.size w w' := by
  have hnb : decide (120 < (n : Int)) = true := by simp; omega
  go_enter Tryd.func6, Tryd.ntmps6
  go_wp2_with (go_at_call 7; refine (first_any a B _ h hB).mono ?_; rintro e w0 ⟨rfl, hb0⟩)
  go_ret
  exact ⟨rfl, hb0⟩

theorem names_len (w : World) : Calls Tryd.prog 20 #[] w fun e w' => e = .returned (.slice (some ⟨w.heap.size, 0, none⟩) 47 47) ∧ Below w.heap.size w w' := by
  go_enter Tryd.func20, Tryd.ntmps20
  go_wp2
  go_ret
  exact ⟨rfl, (Below.refl _ _).alloc (Nat.le_refl _) _⟩

set_option maxRecDepth 1000000 in
set_option maxHeartbeats 4000000 in
theorem goes_walk (a : Nat → Addr) (B : Nat) (w : World) (h : Sent w B all14 a) (hB : B ≤ w.heap.size) (A : Option Addr) (c : Nat) (l : List Ins) (hr : Rd w w.heap.size 4 A l.length (icells l)) (hn : l.length ≤ 120) (pc : Int) :
    Calls Tryd.prog 6 #[.slice A l.length c, .int .i64 pc] w fun e w' => e = .returned (.bool true) ∧ Below w.heap.size w w' := by
  have hnb : decide (120 < (l.length : Int)) = false := by simp; omega
  have hnx := fun W hW => next_any A c ⟨s0, s0, s0, l⟩ pc W hW (by simp only; omega)
  have hbk := fun W hW => back_any A c ⟨s0, s0, s0, l⟩ pc W hW (by simp only; omega)
  have Hnx := Lib.hid hnx
  have Hbk := Lib.hid hbk
  clear hnx hbk
  go_enter Tryd.func6, Tryd.ntmps6
  go_wp2_with (go_at_call 7; refine (first_any a B _ h hB).mono ?_; rintro e w0 ⟨rfl, hb0⟩)
  refine (Hnx.out _ (((hr.below hb0 (Nat.le_refl _)).more hb0.size).alloc (Nat.le_refl _) _ |>.more (by simp))).mono ?_
  rintro e w1 ⟨A1, n1, c1, hn1, rfl, hr1, hb1⟩
  have hw0 := hb0.alloc hb0.size (.cells #[.string s0, .string s0, .string s0, .slice A l.length c] 43)
  have hw1 := hw0.trans (hb1.mono hw0.size)
  have hbm := (Blk.new w0 43 #[.string s0, .string s0, .string s0, .slice A l.length c]).below hb1 (by simp)
  have q0 := hbm.at0
  have q1 := hbm.at1
  have q2 := hbm.at2
  have q3 := hbm.at3
  have hbl := hbm.lt
  go_wp2_with fail
  refine (Hbk.out _ ((hr.below hw1 (Nat.le_refl _)).more hw1.size)).mono ?_
  rintro e w2 ⟨rfl, hb2⟩
  have hw2 := hw1.trans (hb2.mono hw1.size)
  have hr2 := (hr1.below hb2 (Nat.le_refl _)).more hb2.size
  have hrl := (hr.below hw2 (Nat.le_refl _)).more hw2.size
  have hln : (nextF ⟨s0, s0, s0, l⟩ pc).length = n1 := by have := hr2.1; simpa [ints] using this
  clear hr1 hbm q0 q1 q2 q3 hbl hb1 hb2 hw0 hw1 hb0 Hnx Hbk
  have hbF : backF ⟨s0, s0, s0, l⟩ pc = (inB pc l.length && bkI (l.getD pc.toNat default) pc) := rfl
  have hnF : nextF ⟨s0, s0, s0, l⟩ pc = if inB pc l.length = false then []
  else if (l.getD pc.toNat default).op = 33 then []
  else if (l.getD pc.toNat default).op = 22 then [(l.getD pc.toNat default).a]
  else if (l.getD pc.toNat default).op = 23 then cmp2 (lo2 (l.getD pc.toNat default).a (pc + 1)) (hi2 (l.getD pc.toNat default).a (pc + 1))
  else [pc + 1] := rfl
  generalize nextF ⟨s0, s0, s0, l⟩ pc = nx at *
  generalize backF ⟨s0, s0, s0, l⟩ pc = bk at *
  cases hi : inB pc l.length with
  | false =>
    rw [hi] at hbF hnF
    simp only [Bool.false_and, if_true] at hbF hnF
    subst hbF hnF
    obtain rfl : n1 = 0 := by simpa using hln.symm
    have hpc : pc < 0 ∨ (l.length : Int) ≤ pc := by
      have : ¬ (0 ≤ pc ∧ pc < l.length) := by
        intro hh
        rw [show inB pc l.length = true by simp [inB, hh]] at hi
        cases hi
      omega
    clear hi hln
    rcases hpc with hp | hp
    · go_wp2
      go_ret
      exact ⟨rfl, hw2⟩
    · by_cases hp0 : pc < 0
      · go_wp2
        go_ret
        exact ⟨rfl, hw2⟩
      · go_wp2
        go_ret
        exact ⟨rfl, hw2⟩
  | true =>
    have hx := in_true hi
    obtain ⟨k, rfl⟩ : ∃ k : Nat, pc = k := ⟨pc.toNat, by omega⟩
    have hkl : k < l.length := by omega
    obtain ⟨b, off, rfl, hbb, x0, x1, x2, x3⟩ := ins_at hrl hkl
    have k0 : (0 : Int) ≤ k := by omega
    have k1 : (k : Int) < l.length := by omega
    rw [hi] at hbF
    rw [if_neg (by simp [hi])] at hnF
    simp only [Int.toNat_natCast, Bool.true_and] at hnF hbF
    clear hi
    generalize l.getD k default = x at *
    obtain ⟨op, xa, xb, xn⟩ := x
    have hI : bkI ⟨op, xa, xb, xn⟩ k = ((op == 22 || op == 23) && decide (xa ≤ k)) := rfl
    rw [hI] at hbF
    clear hI
    simp only at hnF x0 x1 x2 x3
    have hc : op = 33 ∨ op = 22 ∨ op = 23 ∨ (op ≠ 33 ∧ op ≠ 22 ∧ op ≠ 23) := by omega
    rcases hc with e | e | e | ⟨e1, e2, e3⟩
    · rw [if_pos e] at hnF
      have f1 : (op == 33) = true := by simp [e]
      have hbk : bk = false := by rw [hbF, e]; rfl
      subst hbk hnF
      obtain rfl : n1 = 0 := by simpa using hln.symm
      clear hln hbF e
      go_wp2
      go_ret
      exact ⟨rfl, hw2.alloc hw2.size _⟩
    · rw [if_neg (by omega), if_pos e] at hnF
      have f1 : (op == 33) = false := by simp; omega
      have f2 : (op == 22) = true := by simp [e]
      have hbk : bk = decide (xa ≤ k) := by rw [hbF, e]; rfl
      subst hbk hnF
      obtain rfl : n1 = 1 := by simpa using hln.symm
      clear hln hbF e
      have hwa := (hw2.alloc hw2.size (.cells #[.int .i64 op, .int .i64 xa, .int .i64 xb, .int .i64 xn] 29)).alloc (by have := hw2.size; simp; omega) (.cells #[.int .i64 xa] 3)
      have hba := (((Below.refl w2.heap.size w2).alloc (Nat.le_refl _) (.cells #[.int .i64 op, .int .i64 xa, .int .i64 xb, .int .i64 xn] 29)).alloc (by simp) (.cells #[.int .i64 xa] 3))
      have hbx := (Blk.new w2 29 #[.int .i64 op, .int .i64 xa, .int .i64 xb, .int .i64 xn]).alloc (.cells #[.int .i64 xa] 3)
      have hb1 := Blk.newAt (w := w2.alloc (.cells #[.int .i64 op, .int .i64 xa, .int .i64 xb, .int .i64 xn] 29)) (g := w2.heap.size + 1) (by simp) 3 #[.int .i64 xa]
      have hra := (hr2.below hba (Nat.le_refl _)).more hba.size
      go_wp2_with fail
      refine (sameInts_any _ _ _ _ _ _ [xa] [xa] _ (by omega) hra (Blk.rd (xs := ints [xa]) hb1 rfl hb1.lt)).mono ?_
      rintro e w3 ⟨rfl, hb3⟩
      have hbx3 := hbx.below hb3 hbx.lt
      have hw3 := hwa.trans (hb3.mono hwa.size)
      have y1 := hbx3.at1
      have hz3 := hbx3.lt
      clear hbx hb1 hra hba hwa hb3
      by_cases hxk : xa ≤ k
      · have hd : decide (xa ≤ (k : Int)) = true := by simpa using hxk
        go_wp2
        go_ret
        exact ⟨ret_bool (by simp [hxk]), hw3⟩
      · have hd : decide (xa ≤ (k : Int)) = false := by simpa using hxk
        go_wp2
        go_ret
        exact ⟨ret_bool (by simp [hxk]), hw3⟩
    · rw [if_neg (by omega), if_neg (by omega), if_pos e] at hnF
      have f1 : (op == 33) = false := by simp; omega
      have f2 : (op == 22) = false := by simp; omega
      have f3 : (op == 23) = true := by simp [e]
      have hbk : bk = decide (xa ≤ k) := by rw [hbF, e]; rfl
      clear hbF e
      by_cases hxe : xa = k + 1
      · have hl1 : cmp2 (lo2 xa (k + 1)) (hi2 xa (k + 1)) = [(k : Int) + 1] := by
          unfold cmp2 lo2 hi2
          simp [hxe]
        rw [hl1] at hnF
        have hbk2 : bk = false := by rw [hbk]; simp; omega
        subst hbk2 hnF hxe
        obtain rfl : n1 = 1 := by simpa using hln.symm
        clear hln hbk hl1
        have hwa := (hw2.alloc hw2.size (.cells #[.int .i64 op, .int .i64 ((k : Int) + 1), .int .i64 xb, .int .i64 xn] 29)).alloc (by have := hw2.size; simp; omega) (.cells #[.int .i64 ((k : Int) + 1)] 3)
        have hba := (((Below.refl w2.heap.size w2).alloc (Nat.le_refl _) (.cells #[.int .i64 op, .int .i64 ((k : Int) + 1), .int .i64 xb, .int .i64 xn] 29)).alloc (by simp) (.cells #[.int .i64 ((k : Int) + 1)] 3))
        have hb1 := Blk.newAt (w := w2.alloc (.cells #[.int .i64 op, .int .i64 ((k : Int) + 1), .int .i64 xb, .int .i64 xn] 29)) (g := w2.heap.size + 1) (by simp) 3 #[.int .i64 ((k : Int) + 1)]
        have hra := (hr2.below hba (Nat.le_refl _)).more hba.size
        go_wp2_with fail
        refine (sameInts_any _ _ _ _ _ _ [(k : Int) + 1] [(k : Int) + 1] _ (by omega) hra (Blk.rd (xs := ints [(k : Int) + 1]) hb1 rfl hb1.lt)).mono ?_
        rintro e w3 ⟨rfl, hb3⟩
        have hw3 := hwa.trans (hb3.mono hwa.size)
        clear hb1 hra hba hwa hb3
        go_wp2
        go_ret
        exact ⟨rfl, hw3⟩
      · have hne : (xa == (k : Int) + 1) = false := by simpa using hxe
        have hwr : IntKind.i64.wrap ((k : Int) + 1) = (k : Int) + 1 := IntWalk.i64_in _ (by omega)
        by_cases hlt : (k : Int) + 1 < xa
        · have hl1 : cmp2 (lo2 xa (k + 1)) (hi2 xa (k + 1)) = [(k : Int) + 1, xa] := by
            unfold cmp2 lo2 hi2
            rw [if_pos hlt, if_pos hlt, if_neg hxe]
          rw [hl1] at hnF
          have hbk2 : bk = false := by rw [hbk]; simp; omega
          subst hbk2 hnF
          obtain rfl : n1 = 2 := by simpa using hln.symm
          clear hln hbk hl1
          obtain ⟨b1, o1, rfl, hb1, z0⟩ := ints_at hr2 (show 0 < 2 by omega)
          obtain ⟨b1', o1', e1', _, z1⟩ := ints_at hr2 (show 1 < 2 by omega)
          injection e1' with e1'
          injection e1' with e1' e2'
          subst e1' e2'
          have hd : decide (xa ≤ (k : Int)) = false := by simp; omega
          have hmn : min xa ((k : Int) + 1) = k + 1 := by omega
          have hmx : max xa ((k : Int) + 1) = xa := by omega
          simp only [Nat.add_zero] at z0
          simp at z0 z1
          clear hr hrl hr2
          go_wp2
          go_quiet (fail)
          go_wp2
          go_ret
          exact ⟨rfl, below_drewN (hw2.alloc hw2.size _) _⟩
        · have hl1 : cmp2 (lo2 xa (k + 1)) (hi2 xa (k + 1)) = [xa, (k : Int) + 1] := by
            unfold cmp2 lo2 hi2
            rw [if_neg hlt, if_neg hlt, if_neg (fun e => hxe e.symm)]
          rw [hl1] at hnF
          have hbk2 : bk = true := by rw [hbk]; simp; omega
          subst hbk2 hnF
          obtain rfl : n1 = 2 := by simpa using hln.symm
          clear hln hbk hl1
          obtain ⟨b1, o1, rfl, hb1, z0⟩ := ints_at hr2 (show 0 < 2 by omega)
          obtain ⟨b1', o1', e1', _, z1⟩ := ints_at hr2 (show 1 < 2 by omega)
          injection e1' with e1'
          injection e1' with e1' e2'
          subst e1' e2'
          have hd : decide (xa ≤ (k : Int)) = true := by simp; omega
          have hmn : min xa ((k : Int) + 1) = xa := by omega
          have hmx : max xa ((k : Int) + 1) = k + 1 := by omega
          simp only [Nat.add_zero] at z0
          simp at z0 z1
          clear hr hrl hr2
          go_wp2
          go_quiet (fail)
          go_wp2
          go_ret
          exact ⟨rfl, below_drewN (hw2.alloc hw2.size _) _⟩
    · rw [if_neg e1, if_neg e2, if_neg e3] at hnF
      have f1 : (op == 33) = false := by simp; omega
      have f2 : (op == 22) = false := by simp; omega
      have f3 : (op == 23) = false := by simp; omega
      have hbk : bk = false := by rw [hbF, f2, f3]; rfl
      subst hbk hnF
      obtain rfl : n1 = 1 := by simpa using hln.symm
      clear hln hbF e1 e2 e3
      have hwa := (hw2.alloc hw2.size (.cells #[.int .i64 op, .int .i64 xa, .int .i64 xb, .int .i64 xn] 29)).alloc (by have := hw2.size; simp; omega) (.cells #[.int .i64 ((k : Int) + 1)] 3)
      have hba := (((Below.refl w2.heap.size w2).alloc (Nat.le_refl _) (.cells #[.int .i64 op, .int .i64 xa, .int .i64 xb, .int .i64 xn] 29)).alloc (by simp) (.cells #[.int .i64 ((k : Int) + 1)] 3))
      have hb1 := Blk.newAt (w := w2.alloc (.cells #[.int .i64 op, .int .i64 xa, .int .i64 xb, .int .i64 xn] 29)) (g := w2.heap.size + 1) (by simp) 3 #[.int .i64 ((k : Int) + 1)]
      have hra := (hr2.below hba (Nat.le_refl _)).more hba.size
      go_wp2_with fail
      refine (sameInts_any _ _ _ _ _ _ [(k : Int) + 1] [(k : Int) + 1] _ (by omega) hra (Blk.rd (xs := ints [(k : Int) + 1]) hb1 rfl hb1.lt)).mono ?_
      rintro e w3 ⟨rfl, hb3⟩
      have hw3 := hwa.trans (hb3.mono hwa.size)
      clear hb1 hra hba hwa hb3
      go_wp2_with fail
      refine (names_len _).mono ?_
      rintro e w4 ⟨rfl, hb4⟩
      go_wp2
      go_ret
      exact ⟨rfl, hw3.trans (hb4.mono hw3.size)⟩
end Go.Proofs.YtcmlfaikdegbfaaDoor
