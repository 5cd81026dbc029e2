/-
  The document's own rules (overdriveref3): letters, UsesA, UsesB, instr: contracts to the same plain functions.
-/
import Derived.Test.YtcmlfaikdegbfaaGreatDoorPgSmall
import Derived.Deep.CutBlock
namespace Go.Proofs.YtcmlfaikdegbfaaGreatDoor
open Go.RowKit Go.Maps

def isLet (c : UInt8) : Bool := c == 73 || c == 82
theorem let_snoc (s : ByteArray) (k : Nat) (h : k < s.size) : (s.data.toList.take (k + 1)).all isLet = ((s.data.toList.take k).all isLet && isLet s[k]) := by
  rw [List.take_succ_eq_append_getElem (by simpa using h), List.all_append]
  simp
  rfl
theorem let_no {l : List UInt8} {k : Nat} (h : (l.take k).all isLet = false) : l.all isLet = false := by
  rw [← List.take_append_drop k l, List.all_append, h]
  rfl
set_option maxHeartbeats 400000 in
theorem rletters_any (s : ByteArray) (w : World) (hs : s.size ≤ 9223372036854775807) :
    Calls Tryz.prog 30 #[.string s] w fun e w' => e = .returned (.bool (lettersB s)) ∧ w = w' := by
  have hL : lettersB s = s.data.toList.all isLet := rfl
  have HL := Lib.hid hL
  clear hL
  go_enter Tryz.func30, Tryz.ntmps30
  go_wp2
  go_loop [3] (fun i => ∃ k : Nat, k ≤ s.size ∧ i = .int .i64 k ∧ Hid ((s.data.toList.take k).all isLet = true)) (fun i => s.size - (intOf i).toNat)
  case atStart => exact ⟨0, Nat.zero_le _, rfl, Lib.hid rfl⟩
  case round =>
    obtain ⟨k, hk, rfl, Hk⟩ := hrel
    by_cases hlt : k < s.size
    · have Hn := Lib.hid (let_snoc s k hlt)
      have k0 : (0 : Int) ≤ k := by omega
      by_cases h73 : s[k] = 73
      · have f1 : ((s[k].toNat : Int) != 73) = false := by simp [h73]
        have Hx := Lib.hid (show isLet s[k] = true by rw [h73]; rfl)
        clear h73
        go_wp2
        go_round
        case rel => exact ⟨k + 1, by omega, by go_num, Lib.hid (by rw [Hn.out, Hk.out, Hx.out]; rfl)⟩
        case measure => simp [intOf]; omega
      · have f1 : ((s[k].toNat : Int) != 73) = true := by
          have : s[k].toNat ≠ 73 := fun e => h73 (UInt8.toNat_inj.1 e)
          simp; omega
        by_cases h82 : s[k] = 82
        · have f2 : ((s[k].toNat : Int) != 82) = false := by simp [h82]
          have Hx := Lib.hid (show isLet s[k] = true by rw [h82]; rfl)
          clear h73 h82
          go_wp2
          go_round
          case rel => exact ⟨k + 1, by omega, by go_num, Lib.hid (by rw [Hn.out, Hk.out, Hx.out]; rfl)⟩
          case measure => simp [intOf]; omega
        · have f2 : ((s[k].toNat : Int) != 82) = true := by
            have : s[k].toNat ≠ 82 := fun e => h82 (UInt8.toNat_inj.1 e)
            simp; omega
          have Hx := Lib.hid (show isLet s[k] = false by unfold isLet; simp [h73, h82])
          clear h73 h82
          go_wp2
          go_ret
          exact ⟨ret_bool (by rw [HL.out]; exact (let_no (k := k + 1) (by rw [Hn.out, Hx.out, Bool.and_false])).symm), rfl⟩
    · have e : k = s.size := by omega
      go_wp2
      go_ret
      refine ⟨ret_bool ?_, rfl⟩
      rw [HL.out, ← Hk.out, List.take_of_length_le (by simp; omega)]

theorem rusesB_any (op : Int) (w : World) : Calls Tryz.prog 48 #[.int .i64 op] w fun e w' => e = .returned (.bool (usesB op)) ∧ w' = w := by
  have h : usesB op = decide (op = 25 ∨ op = 26) := rfl
  have H := Lib.hid h
  clear h
  go_enter Tryz.func48, Tryz.ntmps48
  go_wp2
  all_goals
    go_ret
    refine ⟨ret_bool ?_, rfl⟩
    rw [H.out, Bool.eq_iff_iff]
    simp_all
theorem rusesA_any (op : Int) (w : World) : Calls Tryz.prog 49 #[.int .i64 op] w fun e w' => e = .returned (.bool (usesA op)) ∧ w' = w := by
  have h : usesA op = decide (op ∈ opsA) := rfl
  have H := Lib.hid h
  clear h
  go_enter Tryz.func49, Tryz.ntmps49
  go_wp2
  all_goals
    go_ret
    refine ⟨ret_bool ?_, rfl⟩
    rw [H.out, Bool.eq_iff_iff]
    simp_all [opsA]
theorem rusesB_eq {op : Int} {b : Bool} (h : usesB op = b) (w : World) : Calls Tryz.prog 48 #[.int .i64 op] w fun e w' => e = .returned (.bool b) ∧ w' = w := by subst h; exact rusesB_any op w
end Go.Proofs.YtcmlfaikdegbfaaGreatDoor
