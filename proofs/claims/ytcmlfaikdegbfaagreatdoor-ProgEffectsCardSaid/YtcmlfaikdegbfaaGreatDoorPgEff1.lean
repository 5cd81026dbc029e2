/-
  Small functions of ProgEffects: the document's names, traps, safepoints, words, kinds.
-/
import Derived.Test.YtcmlfaikdegbfaaGreatDoorPgNames
import Derived.Test.YtcmlfaikdegbfaaGreatDoorPgRef
namespace Go.Proofs.YtcmlfaikdegbfaaGreatDoor
open Go.RowKit Go.Maps

def names47 : List ByteArray := names1 ++ (List.replicate 4 ⟨#[]⟩ ++ names2)
set_option maxRecDepth 100000 in
theorem rnames_any (w : World) : Calls Tryz.prog 6 #[] w fun e w' => e = .returned (.slice (some ⟨w.heap.size, 0, none⟩) 47 47) ∧ w' = w.alloc (.cells ⟨names47.map Value.string⟩ 9) := by
  go_enter Tryz.func6, Tryz.ntmps6
  go_wp2
  go_ret
  exact ⟨rfl, rfl⟩
theorem name_47 {op : Int} (h1 : 1 ≤ op) (h2 : op ≤ 47) : names47.getD (op - 1).toNat ⟨#[]⟩ = nameF op := by
  obtain ⟨k, rfl⟩ : ∃ k : Nat, op = k + 1 := ⟨(op - 1).toNat, by omega⟩
  have hi : inB ((k : Int) + 1) 48 = true := by simp [inB]; omega
  unfold nameF
  rw [if_pos hi]
  have e1 : ((k : Int) + 1 - 1).toNat = k := by omega
  have e2 : ((k : Int) + 1).toNat = k + 1 := by omega
  rw [e1, e2]
  rfl
theorem name_out {op : Int} (h : ¬ (1 ≤ op ∧ op ≤ 47)) : nameF op = ⟨#[]⟩ := by
  unfold nameF
  by_cases hi : inB op 48 = true
  · have hx : 0 ≤ op ∧ op < (48 : Nat) := by simpa [inB] using hi
    obtain rfl : op = 0 := by omega
    rfl
  · rw [if_neg hi]

def trapsL : List Int := [11, 12, 25, 26, 28, 29, 30, 31, 34]
theorem traps_any (op : Int) (w : World) : Calls Tryz.prog 8 #[.int .i64 op] w fun e w' => e = .returned (.bool (decide (op ∈ trapsL))) ∧ Below w.heap.size w w' := by
  have hrd : Rd (w.alloc (.cells ⟨ints trapsL⟩ 3)) (w.heap.size + 1) 1 (some ⟨w.heap.size, 0, none⟩) 9 (ints trapsL) := Blk.rd (Blk.new w 3 ⟨ints trapsL⟩) rfl (Nat.lt_succ_self _)
  have hb : Below w.heap.size w (w.alloc (.cells ⟨ints trapsL⟩ 3)) := (Below.refl _ _).alloc (Nat.le_refl _) _
  go_enter Tryz.func8, Tryz.ntmps8
  go_wp2_with fail
  refine (contains_any _ hrd (by omega) _).mono ?_
  rintro e w1 ⟨rfl, rfl⟩
  go_wp2
  go_ret
  exact ⟨rfl, hb⟩
theorem rtraps_any (op : Int) (w : World) : Calls Tryz.prog 9 #[.int .i64 op] w fun e w' => e = .returned (.bool (decide (op ∈ trapsL))) ∧ w = w' := by
  have H := Lib.hid (show decide (op ∈ trapsL) = decide (op ∈ trapsL) from rfl)
  go_enter Tryz.func9, Tryz.ntmps9
  go_wp2
  all_goals
    go_ret
    refine ⟨ret_bool ?_, rfl⟩
    rw [Bool.eq_iff_iff]
    simp_all [trapsL]
def safeF (op : Int) : Bool := op == 24 || op == 28 || op == 32
theorem safe_any (op : Int) (w : World) : Calls Tryz.prog 10 #[.int .i64 op] w fun e w' => e = .returned (.bool (safeF op)) ∧ w = w' := by
  have H := Lib.hid (show safeF op = (op == 24 || op == 28 || op == 32) from rfl)
  go_enter Tryz.func10, Tryz.ntmps10
  go_wp2
  all_goals
    go_ret
    refine ⟨ret_bool ?_, rfl⟩
    rw [H.out] <;> simp_all
theorem rsafe_any (op : Int) (w : World) : Calls Tryz.prog 11 #[.int .i64 op] w fun e w' => e = .returned (.bool (safeF op)) ∧ w = w' := by
  have H := Lib.hid (show safeF op = (op == 24 || op == 28 || op == 32) from rfl)
  go_enter Tryz.func11, Tryz.ntmps11
  go_wp2
  all_goals
    go_ret
    refine ⟨ret_bool ?_, rfl⟩
    rw [H.out] <;> simp_all

/-- An object's words. -/
def wordsF (p : Prg) (c n : Int) : Int := 2 + if 0 ≤ c then ((p.classes.getD c.toNat ⟨#[]⟩).size : Int) else n
theorem rkinds_any (A : Option Addr) (c : Nat) (m : Mth) (w : World) (hm : m.pa.size + m.lo.size ≤ 1000) :
    Calls Tryz.prog 16 #[mv A c m] w fun e w' => e = .returned (.string (m.pa ++ m.lo)) ∧ Below w.heap.size w w' := by
  go_enter Tryz.func16, Tryz.ntmps16
  have hk : ¬ 9223372036854775807 < m.pa.size + m.lo.size := by omega
  go_wp2
  go_ret
  exact ⟨rfl, (Below.refl _ _).alloc (Nat.le_refl _) _⟩
set_option maxHeartbeats 1000000 in
theorem words_any (Ac Am : Option Addr) (cc cm : Nat) (p : Prg) (c n : Int) (w : World) (hr : Rd w w.heap.size 1 Ac p.classes.length (p.classes.map Value.string)) (_ : p.classes.length ≤ 9223372036854775807) (hc : c < p.classes.length) (hn : 0 ≤ n ∧ n ≤ 100)
    (hs : ∀ k, k < p.classes.length → (p.classes.getD k ⟨#[]⟩).size ≤ 100) :
    Calls Tryz.prog 13 #[pv Ac cc Am cm p, .int .i64 c, .int .i64 n] w fun e w' => e = .returned (.int .i64 (wordsF p c n)) ∧ Below w.heap.size w w' := by
  obtain ⟨hn0, hn1⟩ := hn
  by_cases h0 : 0 ≤ c
  · obtain ⟨k, rfl⟩ : ∃ k : Nat, c = k := ⟨c.toNat, by omega⟩
    have hk : k < p.classes.length := by omega
    obtain ⟨b, off, rfl, hbl, c1⟩ := str_at hr hk
    have hfs := hs k hk
    have Hi := Lib.hid (show inB (k : Int) p.classes.length = true by simp [inB]; omega)
    have Hw := Lib.hid (show wordsF p k n = 2 + ((p.classes.getD k ⟨#[]⟩).size : Int) by unfold wordsF; rw [if_pos (by omega)]; simp)
    generalize p.classes.getD k ⟨#[]⟩ = s at *
    have k1 : (k : Int) < p.classes.length := by omega
    clear hc hs
    go_enter Tryz.func13, Tryz.ntmps13
    go_wp2_with (go_at_call 33; refine (in_eq Hi.out _).mono ?_; rintro e w' ⟨rfl, rfl⟩)
    go_ret
    exact ⟨ret_int (by rw [Hw.out]), (Below.refl _ _).alloc (Nat.le_refl _) _⟩
  · have Hi := Lib.hid (show inB c p.classes.length = false by simp [inB]; omega)
    have Hw := Lib.hid (show wordsF p c n = 2 + n by unfold wordsF; rw [if_neg (by omega)])
    clear hc hs h0
    go_enter Tryz.func13, Tryz.ntmps13
    go_wp2_with (go_at_call 33; refine (in_eq Hi.out _).mono ?_; rintro e w' ⟨rfl, rfl⟩)
    go_ret
    exact ⟨ret_int (by rw [Hw.out]), (Below.refl _ _).alloc (Nat.le_refl _) _⟩
set_option maxHeartbeats 1000000 in
theorem rwords_any (Ac Am : Option Addr) (cc cm : Nat) (p : Prg) (c n : Int) (w : World) (hr : Rd w w.heap.size 1 Ac p.classes.length (p.classes.map Value.string)) (_ : p.classes.length ≤ 9223372036854775807) (hc : c < p.classes.length) (hn : 0 ≤ n ∧ n ≤ 100)
    (hs : ∀ k, k < p.classes.length → (p.classes.getD k ⟨#[]⟩).size ≤ 100) :
    Calls Tryz.prog 14 #[pv Ac cc Am cm p, .int .i64 c, .int .i64 n] w fun e w' => e = .returned (.int .i64 (wordsF p c n)) ∧ Below w.heap.size w w' := by
  obtain ⟨hn0, hn1⟩ := hn
  by_cases h0 : 0 ≤ c
  · obtain ⟨k, rfl⟩ : ∃ k : Nat, c = k := ⟨c.toNat, by omega⟩
    have hk : k < p.classes.length := by omega
    obtain ⟨b, off, rfl, hbl, c1⟩ := str_at hr hk
    have hfs := hs k hk
    have Hw := Lib.hid (show wordsF p k n = 2 + ((p.classes.getD k ⟨#[]⟩).size : Int) by unfold wordsF; rw [if_pos (by omega)]; simp)
    generalize p.classes.getD k ⟨#[]⟩ = s at *
    have k1 : (k : Int) < p.classes.length := by omega
    clear hc hs
    go_enter Tryz.func14, Tryz.ntmps14
    go_wp2
    go_ret
    exact ⟨ret_int (by rw [Hw.out]), (Below.refl _ _).alloc (Nat.le_refl _) _⟩
  · have Hw := Lib.hid (show wordsF p c n = 2 + n by unfold wordsF; rw [if_neg (by omega)])
    clear hc hs
    go_enter Tryz.func14, Tryz.ntmps14
    go_wp2
    go_ret
    exact ⟨ret_int (by rw [Hw.out]), (Below.refl _ _).alloc (Nat.le_refl _) _⟩
end Go.Proofs.YtcmlfaikdegbfaaGreatDoor
