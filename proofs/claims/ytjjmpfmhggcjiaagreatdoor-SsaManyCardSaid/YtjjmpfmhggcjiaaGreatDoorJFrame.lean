/-
 See1, See2, Pg, Err, Shelf3, Frame.
-/
import Derived.LaidEql
import Derived.RegionTactic
import Derived.ChangeAlike
import Derived.Shelf.Slices.Reverse
import Derived.Shelf.Slices.Clone
import Derived.Test.YtjjmpfmhggcjiaaGreatDoorProg
import Derived.ProofKit
import Derived.LaidMore
import Derived.OpenShut
import Derived.Deep.DeepHandedRow
import Derived.Deep.DeepWitnessRowRef
import Derived.Lay
import Derived.Test.YtjjmpfmhggcjiaaGreatDoorJSortLib
set_option linter.unusedSimpArgs false
set_option linter.unusedVariables false
namespace Go.Proofs.YtjjmpfmhggcjiaaGreatDoor
open Go.RowKit Go.Maps
theorem ret_bool {a b : Bool} (h : a = b) : Ending.returned (.bool a) = .returned (.bool b) := by rw [h]
set_option maxHeartbeats 400000 in
theorem bare_any (c : Int) (w : World) :
 Calls Tryz.prog 39 #[.int .i64 c] w fun e w' => e = .returned (.agg #[.int .i64 c, .slice none 0 0]) ∧ Below w.heap.size w w' := by
 go_enter Tryz.func39, Tryz.ntmps39
 go_wp2
 exact bodyPost_ret (v := .agg #[.int .i64 c, .slice none 0 0]) (by simp [results, Tryz.results39, go_sem]) rfl ⟨rfl, (Below.refl _ _).alloc (Nat.le_refl _) _⟩
set_option maxHeartbeats 400000 in
theorem none_any (w : World) :
 Calls Tryz.prog 112 #[] w fun e w' => e = .returned (.agg #[.int .i64 0, .slice none 0 0]) ∧ Below w.heap.size w w' := by
 go_enter Tryz.func112, Tryz.ntmps112
 go_wp2
 exact bodyPost_ret (v := .agg #[.int .i64 0, .slice none 0 0]) (by simp [results, Tryz.results112, go_sem]) rfl ⟨rfl, (Below.refl _ _).alloc (Nat.le_refl _) _⟩
/-- The cells of a row of ints. -/
def ints (l : List Int) : List Value := l.map (Value.int .i64)
theorem ints_at {w : World} {B n : Nat} {A : Option Addr} {l : List Int} (h : Rd w B 1 A n (ints l)) {k : Nat} (hk : k < n) : ∃ b off, A = some ⟨b, off, none⟩ ∧ b < B ∧ w.cell? ⟨b, off + k, none⟩ = some (.int .i64 (l[k]?.getD 0)) := by
 obtain ⟨b, off, e, hb, hc⟩ := h.2 (by omega)
 have hl : l.length = n := by have := h.1; simpa [ints] using this
 refine ⟨b, off, e, hb, hc k _ ?_⟩
 simp [ints, List.getElem?_eq_getElem (show k < l.length by omega)]
theorem take_next {l1 l2 : List Int} {k : Nat} (h1 : k < l1.length) (h2 : k < l2.length) (h : l1.take k = l2.take k) (e : (!l1[k]?.getD 0 == l2[k]?.getD 0) = false) : l1.take (k + 1) = l2.take (k + 1) := by
 have : l1[k]?.getD 0 = l2[k]?.getD 0 := by simpa using e
 rw [List.take_succ_eq_append_getElem h1, List.take_succ_eq_append_getElem h2, h]
 simp only [List.getElem?_eq_getElem h1, List.getElem?_eq_getElem h2, Option.getD_some] at this
 rw [this]
theorem not_next {l1 l2 : List Int} {k : Nat} (e : (!l1[k]?.getD 0 == l2[k]?.getD 0) = true) : false = decide (l1 = l2) := by
 symm
 rw [decide_eq_false_iff_not]
 rintro rfl
 simp at e
set_option maxHeartbeats 400000 in
theorem sameInts_any (A1 A2 : Option Addr) (n1 n2 c1 c2 : Nat) (l1 l2 : List Int) (w : World) (hn1 : n1 ≤ 9223372036854775807) (h1 : Rd w w.heap.size 1 A1 n1 (ints l1)) (h2 : Rd w w.heap.size 1 A2 n2 (ints l2)) :
 Calls Tryz.prog 15 #[.slice A1 n1 c1, .slice A2 n2 c2] w fun e w' => e = .returned (.bool (decide (l1 = l2))) ∧ Below w.heap.size w w' := by
 have hl1 : l1.length = n1 := by have := h1.1; simpa [ints] using this
 have hl2 : l2.length = n2 := by have := h2.1; simpa [ints] using this
 by_cases hne : n1 = n2
 · subst hne
   have Hl1 := Lib.hid hl1
   have Hl2 := Lib.hid hl2
   clear hl1 hl2
   go_enter Tryz.func15, Tryz.ntmps15
   go_wp2
   go_loopw [5] (fun i wr => ∃ k : Nat, k ≤ n1 ∧ i = .int .i64 k ∧ l1.take k = l2.take k ∧ Below w.heap.size w wr) (fun i _ => n1 - (intOf i).toNat)
   case atStart => exact ⟨0, Nat.zero_le _, rfl, rfl, Below.refl _ _⟩
   case round =>
    obtain ⟨k, hk, rfl, heq, hb⟩ := hrel
    have Heq := Lib.hid heq
    clear heq
    by_cases hlt : k < n1
    · obtain ⟨b1, o1, rfl, hb1, hc1⟩ := ints_at (h1.below hb (Nat.le_refl _)) hlt
      obtain ⟨b2, o2, rfl, hb2, hc2⟩ := ints_at (h2.below hb (Nat.le_refl _)) hlt
      have k0 : (0 : Int) ≤ k := by omega
      have k1 : (k : Int) < n1 := by omega
      go_wp2
      go_quiet (fail)
      go_wp2
      · have e : (!l1[k]?.getD 0 == l2[k]?.getD 0) = true := by assumption
        go_ret
        exact ⟨ret_bool (not_next e), below_drewN hb _⟩
      · have e : (!l1[k]?.getD 0 == l2[k]?.getD 0) = false := by assumption
        go_roundw
        case rel => exact ⟨k + 1, by omega, by go_num, take_next (by have := Hl1.out; omega) (by have := Hl2.out; omega) Heq.out e, below_drewN hb _⟩
        case measure => simp [intOf]; omega
    · have : k = n1 := by omega
      subst this
      go_wp2
      go_ret
      refine ⟨ret_bool ?_, hb⟩
      have := Heq.out
      rw [List.take_of_length_le (by have := Hl1.out; omega), List.take_of_length_le (by have := Hl2.out; omega)] at this
      simp [this]
 · go_enter Tryz.func15, Tryz.ntmps15
   go_wp2
   all_goals go_ret
   · refine ⟨ret_bool ?_, Below.refl _ _⟩
     symm
     rw [decide_eq_false_iff_not]
     rintro rfl
     omega
set_option maxHeartbeats 400000 in
theorem sameFault_any (x1 x2 : Int) (A1 A2 : Option Addr) (n1 n2 c1 c2 : Nat) (l1 l2 : List Int) (w : World) (hn1 : n1 ≤ 9223372036854775807) (h1 : Rd w w.heap.size 1 A1 n1 (ints l1)) (h2 : Rd w w.heap.size 1 A2 n2 (ints l2)) :
 Calls Tryz.prog 85 #[.agg #[.int .i64 x1, .slice A1 n1 c1], .agg #[.int .i64 x2, .slice A2 n2 c2]] w fun e w' => e = .returned (.bool (decide (x1 = x2 ∧ l1 = l2))) ∧ Below w.heap.size w w' := by
 go_enter Tryz.func85, Tryz.ntmps85
 go_wp2_with fail
 refine (sameInts_any _ _ _ _ _ _ l1 l2 _ hn1 (((h1.alloc (Nat.le_refl _) _).alloc (by simp) _).more (by simp; omega)) (((h2.alloc (Nat.le_refl _) _).alloc (by simp) _).more (by simp; omega))).mono ?_
 rintro e w1 ⟨rfl, hb⟩
 obtain ⟨hc, hf⟩ := bcell hb
 have hbb : Below w.heap.size w w1 := (((Below.refl _ _).alloc (Nat.le_refl _) _).alloc (by simp) _).trans (hb.mono (by simp; omega))
 go_wp2
 · have e : x1 = x2 := by assumption
   go_ret
   exact ⟨ret_bool (by simp [e]), hbb⟩
 · have e : ¬ x1 = x2 := by assumption
   go_ret
   exact ⟨ret_bool (by simp [e]), hbb⟩
/-! ### the sentinels -/
/-- The package-level variable of the sentinel of number 100 + k. -/
def gOf : Nat → Nat
 | 1 => 0
 | 2 => 3
 | 3 => 7
 | 4 => 6
 | 5 => 10
 | 6 => 11
 | 7 => 12
 | 8 => 8
 | 9 => 5
 | 10 => 4
 | 11 => 13
 | 12 => 1
 | 13 => 2
 | _ => 14
def sent (a : Addr) : Value := .iface 345 (.pointer (some a))
/-- Of the numbers in S the variables hold pointers, which are different, to blocks below B. -/
structure Sent (w : World) (B : Nat) (S : List Nat) (a : Nat → Addr) : Prop where
 cell : ∀ k ∈ S, gOf k < B ∧ w.cell? ⟨gOf k, 0, none⟩ = some (sent (a k))
 row : ∀ k ∈ S, (a k).block < B ∧ ∃ cs t, w.heap[(a k).block]? = some (.cells cs t (0, 0))
 inj : ∀ k ∈ S, ∀ j ∈ S, a k = a j → k = j
theorem Sent.below {w w' : World} {B C : Nat} {S : List Nat} {a : Nat → Addr} (h : Sent w B S a) (hb : Below C w w') (hC : B ≤ C) : Sent w' B S a :=
 ⟨fun k hk => ⟨(h.cell k hk).1, (hb.cell (p := ⟨gOf k, 0, none⟩) (Nat.lt_of_lt_of_le (h.cell k hk).1 hC)).trans (h.cell k hk).2⟩,
  fun k hk => ⟨(h.row k hk).1, by
   obtain ⟨hlt, cs, t, hr⟩ := h.row k hk
   exact ⟨cs, t, (hb.block _ (Nat.lt_of_lt_of_le hlt hC)).trans hr⟩⟩, h.inj⟩
theorem Sent.cellA {w : World} {B : Nat} {S : List Nat} {a : Nat → Addr} (h : Sent w B S a) (hB : B ≤ w.heap.size) {k : Nat} (hk : k ∈ S) (o : Obj) : (w.alloc o).cell? ⟨gOf k, 0, none⟩ = some (sent (a k)) :=
 (World.cell?_alloc_lt w o ⟨gOf k, 0, none⟩ (Nat.lt_of_lt_of_le (h.cell k hk).1 hB)).trans (h.cell k hk).2
/-- An error that is nil, or one of the sentinels. -/
def errV (a : Nat → Addr) : Nat → Value
 | 0 => .nilIface
 | k + 1 => sent (a (k + 1))
def all14 : List Nat := [1, 2, 3, 4, 5, 6, 7, 8, 9, 10, 11, 12, 13, 14]
set_option maxHeartbeats 400000 in
theorem sentinels_any (a : Nat → Addr) (B : Nat) (w : World) (h : Sent w B all14 a) :
 Calls Tryz.prog 204 #[] w fun e w' => e = .returned (.slice (some ⟨w.heap.size, 0, none⟩) 14 14) ∧ w' = w.alloc (.cells #[sent (a 1), sent (a 2), sent (a 3), sent (a 4), sent (a 5), sent (a 6), sent (a 7), sent (a 8), sent (a 9), sent (a 10), sent (a 11), sent (a 12), sent (a 13), sent (a 14)] 40) := by
 have h1 := (h.cell 1 (by simp [all14])).2
 have h2 := (h.cell 2 (by simp [all14])).2
 have h3 := (h.cell 3 (by simp [all14])).2
 have h4 := (h.cell 4 (by simp [all14])).2
 have h5 := (h.cell 5 (by simp [all14])).2
 have h6 := (h.cell 6 (by simp [all14])).2
 have h7 := (h.cell 7 (by simp [all14])).2
 have h8 := (h.cell 8 (by simp [all14])).2
 have h9 := (h.cell 9 (by simp [all14])).2
 have h10 := (h.cell 10 (by simp [all14])).2
 have h11 := (h.cell 11 (by simp [all14])).2
 have h12 := (h.cell 12 (by simp [all14])).2
 have h13 := (h.cell 13 (by simp [all14])).2
 have h14 := (h.cell 14 (by simp [all14])).2
 simp only [gOf, sent] at h1 h2 h3 h4 h5 h6 h7 h8 h9 h10 h11 h12 h13 h14
 simp only [sent]
 go_enter Tryz.func204, Tryz.ntmps204
 go_wp2
 go_ret
 exact ⟨rfl, rfl⟩
end Go.Proofs.YtjjmpfmhggcjiaaGreatDoor
namespace Go.Proofs.YtjjmpfmhggcjiaaGreatDoor
open Go.RowKit Go.Maps
theorem ret_int {k : IntKind} {a b : Int} (h : a = b) : Ending.returned (.int k a) = .returned (.int k b) := by rw [h]
theorem infoE : (Tryz.prog.info? 345).map (·.comparable) = some true := by kernel_rfl
theorem infoES : (Tryz.prog.info? 360).map (·.size) = some 1 := by kernel_rfl
theorem eql_sent {w : World} {B : Nat} {S : List Nat} {a : Nat → Addr} (h : Sent w B S a) {k j : Nat} (hk : k ∈ S) (hj : j ∈ S) :
 (binOp .eql 40 (sent (a k)) (sent (a j))).run Tryz.prog w = .ok (.bool (decide (k = j))) w := by
 obtain ⟨i, hi, hic⟩ := Option.map_eq_some_iff.1 infoE
 obtain ⟨i2, hi2, hic2⟩ := Option.map_eq_some_iff.1 infoES
 by_cases e : k = j
 · subst e
   rw [decide_eq_true rfl]
   exact run_eql_iface_ptr_same w (a k) Tryz.underlying40 Tryz.underlying345 hi hic hi2
 · rw [decide_eq_false e]
   obtain ⟨_, cs, t, hr⟩ := h.row k hk
   obtain ⟨_, cs', t', hr'⟩ := h.row j hj
   exact run_eql_iface_ptr_other w Tryz.underlying40 Tryz.underlying345 hi hic hi2 (by rw [hic2]; decide) (fun e2 => e (h.inj k hk j hj e2)) hr hr'
set_option maxHeartbeats 400000 in
theorem alike_any (a : Nat → Addr) (B : Nat) (S : List Nat) (w : World) (h : Sent w B S a) {k j : Nat} (hk : k ∈ S) (hj : j ∈ S) :
 Calls Tryz.prog 205 #[sent (a k), sent (a j)] w fun e w' => e = .returned (.bool (decide (k = j))) ∧ w = w' := by
 have he := eql_sent h hk hj
 simp only [sent] at he ⊢
 go_enter Tryz.func205, Tryz.ntmps205
 go_wp2
 go_ret
 exact ⟨rfl, rfl⟩
theorem sentCell (a : Nat → Addr) (w : World) (j : Nat) (hj : j < 14) : (w.alloc (.cells #[sent (a 1), sent (a 2), sent (a 3), sent (a 4), sent (a 5), sent (a 6), sent (a 7), sent (a 8), sent (a 9), sent (a 10), sent (a 11), sent (a 12), sent (a 13), sent (a 14)] 40)).cell? ⟨w.heap.size, j, none⟩ = some (sent (a (j + 1))) := by
 rw [(Blk.new w _ _).cell]
 have : j = 0 ∨ j = 1 ∨ j = 2 ∨ j = 3 ∨ j = 4 ∨ j = 5 ∨ j = 6 ∨ j = 7 ∨ j = 8 ∨ j = 9 ∨ j = 10 ∨ j = 11 ∨ j = 12 ∨ j = 13 := by omega
 rcases this with rfl | rfl | rfl | rfl | rfl | rfl | rfl | rfl | rfl | rfl | rfl | rfl | rfl | rfl <;> rfl
theorem mem14 {k : Nat} : k ∈ all14 ↔ 1 ≤ k ∧ k ≤ 14 := by
 unfold all14
 simp
 omega
set_option maxHeartbeats 400000 in
theorem sentinel_any (a : Nat → Addr) (B : Nat) (w : World) (h : Sent w B all14 a) (hB : B ≤ w.heap.size) {k : Nat} (hk : k ∈ all14) :
 Calls Tryz.prog 170 #[sent (a k)] w fun e w' => e = .returned (.int .i64 (100 + k)) ∧ Below w.heap.size w w' := by
 have hk2 := mem14.1 hk
 have h1 : Sent (w.alloc (.cells #[sent (a 1), sent (a 2), sent (a 3), sent (a 4), sent (a 5), sent (a 6), sent (a 7), sent (a 8), sent (a 9), sent (a 10), sent (a 11), sent (a 12), sent (a 13), sent (a 14)] 40)) B all14 a := h.below ((Below.refl w.heap.size w).alloc (Nat.le_refl _) _) hB
 have hb1 : Below w.heap.size w (w.alloc (.cells #[sent (a 1), sent (a 2), sent (a 3), sent (a 4), sent (a 5), sent (a 6), sent (a 7), sent (a 8), sent (a 9), sent (a 10), sent (a 11), sent (a 12), sent (a 13), sent (a 14)] 40)) := (Below.refl w.heap.size w).alloc (Nat.le_refl _) _
 have hcell := sentCell a w
 generalize hW : (w.alloc (.cells #[sent (a 1), sent (a 2), sent (a 3), sent (a 4), sent (a 5), sent (a 6), sent (a 7), sent (a 8), sent (a 9), sent (a 10), sent (a 11), sent (a 12), sent (a 13), sent (a 14)] 40)) = W at *
 have HW := Lib.hid hW
 have Hcell := Lib.hid hcell
 clear hW hcell
 go_enter Tryz.func170, Tryz.ntmps170
 go_wp2_with (go_at_call 204; refine (sentinels_any a B _ h).mono ?_; rintro e w' ⟨rfl, hw'⟩; rw [HW.out] at hw'; subst hw')
 go_loop [4] (fun i => ∃ j : Nat, j < k ∧ i = .int .i64 j) (fun i => 14 - (intOf i).toNat)
 case atStart => exact ⟨0, by omega, rfl⟩
 case round =>
  obtain ⟨j, hj, rfl⟩ := hrel
  have hc := Hcell.out j (by omega)
  go_wp2_with (go_at_call 205; refine (alike_any a B all14 _ h1 hk (mem14.2 ⟨by omega, by omega⟩ : j + 1 ∈ all14)).mono ?_; rintro e w' ⟨rfl, rfl⟩)
  · have e : k = j + 1 := by assumption
    go_ret
    exact ⟨ret_int (by omega), hb1⟩
  · have e : ¬ k = j + 1 := by assumption
    go_round
    case rel => exact ⟨j + 1, by omega, by go_num⟩
    case measure => simp [intOf]; omega
/-- What a type assertion on an error comes to. -/
theorem assert_no1 (x : Value) (w : World) : (Instr.typeAssert (.iface 345 x) 40 249 true).run Tryz.prog w = .ok (.tuple #[.pointer none, .bool false]) w := by kernel_rfl
theorem assert_no2 (x : Value) (w : World) : (Instr.typeAssert (.iface 345 x) 40 97 true).run Tryz.prog w = .ok (.tuple #[.pointer none, .bool false]) w := by kernel_rfl
set_option maxHeartbeats 400000 in
theorem fault_sent (a : Nat → Addr) (B : Nat) (w : World) (h : Sent w B all14 a) (hB : B ≤ w.heap.size) {k : Nat} (hk : k ∈ all14) (left : Int) (hl : 0 < left) :
 Calls Tryz.prog 128 #[sent (a k), .int .i64 left] w fun e w' => e = .returned (.agg #[.int .i64 (100 + k), .slice none 0 0]) ∧ Below w.heap.size w w' := by
 have hl0 : (left == 0) = false := by simp; omega
 have ha1 := assert_no1
 have ha2 := assert_no2
 have hs := fun W hW hB' => sentinel_any a B W (h := hW) (hB := hB') hk
 have Hs := Lib.hid hs
 clear hs
 unfold sent at *
 go_enter Tryz.func128, Tryz.ntmps128
 go_wp2_with fail
 refine (Hs.out _ (h.below ((Below.refl w.heap.size w).alloc (Nat.le_refl _) _) hB) (by simp; omega)).mono ?_
 rintro e w1 ⟨rfl, hb⟩
 have hbb : Below w.heap.size w w1 := ((Below.refl _ _).alloc (Nat.le_refl _) _).trans (hb.mono (by simp))
 have hB1 := (Blk.new w 75 #[.int .i64 0, .slice none 0 0]).below hb (by simp)
 go_wp2_with fail
 refine (bare_any _ _).mono ?_
 rintro e w2 ⟨rfl, hb2⟩
 have hbb2 : Below w.heap.size w w2 := hbb.trans (hb2.mono hbb.size)
 have hB2 := hB1.below hb2 hB1.lt
 have q0 := hB2.at0
 have q1 := hB2.at1
 have f0 := hB2.frozen 0
 have f1 := hB2.frozen 1
 go_wp2
 exact bodyPost_ret (v := .agg #[.int .i64 (100 + k), .slice none 0 0]) (by simp [results, Tryz.results128, go_sem, q0, q1]) rfl ⟨rfl, (hbb2.setCell (by simp) _).setCell (by simp) _⟩
set_option maxHeartbeats 400000 in
theorem faultAll_nil (w : World) :
 Calls Tryz.prog 84 #[.nilIface] w fun e w' => e = .returned (.agg #[.int .i64 0, .slice none 0 0]) ∧ Below w.heap.size w w' := by
 go_enter Tryz.func84, Tryz.ntmps84
 go_wp2_with fail
 refine (none_any _).mono ?_
 rintro e w1 ⟨rfl, hb⟩
 have hbb : Below w.heap.size w w1 := ((Below.refl _ _).alloc (Nat.le_refl _) _).trans (hb.mono (by simp))
 have hB1 := (Blk.new w 75 #[.int .i64 0, .slice none 0 0]).below hb (by simp)
 have q0 := hB1.at0
 have q1 := hB1.at1
 have f0 := hB1.frozen 0
 have f1 := hB1.frozen 1
 go_wp2
 exact bodyPost_ret (v := .agg #[.int .i64 0, .slice none 0 0]) (by simp [results, Tryz.results84, go_sem, q0, q1]) rfl ⟨rfl, (hbb.setCell (by simp) _).setCell (by simp) _⟩
set_option maxHeartbeats 400000 in
theorem faultAll_sent (a : Nat → Addr) (B : Nat) (w : World) (h : Sent w B all14 a) (hB : B ≤ w.heap.size) {k : Nat} (hk : k ∈ all14) :
 Calls Tryz.prog 84 #[sent (a k)] w fun e w' => e = .returned (.agg #[.int .i64 (100 + k), .slice none 0 0]) ∧ Below w.heap.size w w' := by
 have hs := fun W hW hB' => fault_sent a B W (h := hW) (hB := hB') hk 9 (by omega)
 have Hs := Lib.hid hs
 clear hs
 unfold sent at *
 go_enter Tryz.func84, Tryz.ntmps84
 go_wp2_with fail
 refine (Hs.out _ (h.below ((Below.refl w.heap.size w).alloc (Nat.le_refl _) _) hB) (by simp; omega)).mono ?_
 rintro e w1 ⟨rfl, hb⟩
 have hbb : Below w.heap.size w w1 := ((Below.refl _ _).alloc (Nat.le_refl _) _).trans (hb.mono (by simp))
 have hB1 := (Blk.new w 75 #[.int .i64 0, .slice none 0 0]).below hb (by simp)
 have q0 := hB1.at0
 have q1 := hB1.at1
 have f0 := hB1.frozen 0
 have f1 := hB1.frozen 1
 go_wp2
 exact bodyPost_ret (v := .agg #[.int .i64 (100 + k), .slice none 0 0]) (by simp [results, Tryz.results84, go_sem, q0, q1]) rfl ⟨rfl, (hbb.setCell (by simp) _).setCell (by simp) _⟩
/-- The number of an error: 0 of none. -/
def codeOf (k : Nat) : Int := if k = 0 then 0 else 100 + k
theorem faultAll_any (a : Nat → Addr) (B : Nat) (w : World) (h : Sent w B all14 a) (hB : B ≤ w.heap.size) {k : Nat} (hk : k ≤ 14) :
 Calls Tryz.prog 84 #[errV a k] w fun e w' => e = .returned (.agg #[.int .i64 (codeOf k), .slice none 0 0]) ∧ Below w.heap.size w w' := by
 cases k with
 | zero => exact faultAll_nil w
 | succ k => exact faultAll_sent a B w h hB (mem14.2 ⟨by omega, by omega⟩)
set_option maxHeartbeats 400000 in
theorem same_any (v : Value) (c1 : Int) (c2 : Int) (A1 A2 : Option Addr) (n1 n2 p1 p2 : Nat) (l1 l2 : List Int) (w : World) (hn1 : n1 ≤ 9223372036854775807) (hr2 : Rd w w.heap.size 1 A2 n2 (ints l2))
 (hf : ∀ W, Below w.heap.size w W → Calls Tryz.prog 84 #[v] W fun e w' => e = .returned (.agg #[.int .i64 c1, .slice A1 n1 p1]) ∧ Rd w' w'.heap.size 1 A1 n1 (ints l1) ∧ Below W.heap.size W w') :
 Calls Tryz.prog 38 #[v, .agg #[.int .i64 c2, .slice A2 n2 p2]] w fun e w' => e = .returned (.bool (decide (c1 = c2 ∧ l1 = l2))) ∧ Below w.heap.size w w' := by
 have Hf := Lib.hid hf
 clear hf
 go_enter Tryz.func38, Tryz.ntmps38
 go_wp2_with fail
 refine (Hf.out _ ((Below.refl w.heap.size w).alloc (Nat.le_refl _) _)).mono ?_
 rintro e w1 ⟨rfl, hr1, hb⟩
 have hbb : Below w.heap.size w w1 := ((Below.refl _ _).alloc (Nat.le_refl _) _).trans (hb.mono (by simp))
 have hB1 := (Blk.new w 75 #[.int .i64 c2, .slice A2 n2 p2]).below hb (by simp)
 have q0 := hB1.at0
 have q1 := hB1.at1
 have hz := hB1.lt
 go_wp2_with fail
 refine (sameFault_any c1 c2 A1 A2 n1 n2 p1 p2 l1 l2 _ hn1 ((hr1.alloc (Nat.le_refl _) _).more (by simp)) (((hr2.below hbb (Nat.le_refl _)).alloc (by omega) _).more (by simp; omega))).mono ?_
 rintro e w2 ⟨rfl, hb2⟩
 go_wp2
 go_ret
 exact ⟨ret_bool (by simp), (hbb.alloc (by omega) _).trans (hb2.mono (by simp; omega))⟩
set_option maxHeartbeats 400000 in
theorem is_any (a : Nat → Addr) (B : Nat) (w : World) (h : Sent w B all14 a) (hB : B ≤ w.heap.size) {k : Nat} (hk : k ≤ 14) (c : Int) :
 Calls Tryz.prog 13 #[errV a k, .int .i64 c] w fun e w' => e = .returned (.bool (decide (codeOf k = c))) ∧ Below w.heap.size w w' := by
 have hs := fun W (hW : Below w.heap.size w W) => same_any (errV a k) (codeOf k) c none none 0 0 0 0 [] [] W (by omega) (Rd.nil _ _ _ _) (fun W' hW' => (faultAll_any a B W' (h.below (hW.trans (hW'.mono hW.size)) hB) (Nat.le_trans (Nat.le_trans hB hW.size) hW'.size) hk).mono fun e w' ⟨h1, h2⟩ => ⟨h1, Rd.nil _ _ _ _, h2⟩)
 have Hs := Lib.hid hs
 clear hs
 generalize errV a k = v at *
 go_enter Tryz.func13, Tryz.ntmps13
 go_wp2_with fail
 refine (bare_any _ _).mono ?_
 rintro e w1 ⟨rfl, hb1⟩
 go_wp2_with fail
 refine (Hs.out _ hb1).mono ?_
 rintro e w2 ⟨rfl, hb2⟩
 go_wp2
 go_ret
 exact ⟨ret_bool (by simp), hb1.trans (hb2.mono hb1.size)⟩
end Go.Proofs.YtjjmpfmhggcjiaaGreatDoor
namespace Go.Proofs.YtjjmpfmhggcjiaaGreatDoor
/-! ### the first of many -/
def firstOf {α : Type} (f : Nat → Option α) (n : Nat) : Option α := (List.range n).findSome? f
theorem firstOf_none {α : Type} {f : Nat → Option α} {n : Nat} (h : ∀ j, j < n → f j = none) : firstOf f n = none := by
 unfold firstOf
 rw [List.findSome?_eq_none_iff]
 intro x hx
 exact h x (List.mem_range.1 hx)
theorem firstOf_some {α : Type} {f : Nat → Option α} {n k : Nat} {x : α} (hk : k < n) (h : ∀ j, j < k → f j = none) (hx : f k = some x) : firstOf f n = some x := by
 unfold firstOf
 obtain ⟨m, rfl⟩ : ∃ m, n = k + 1 + m := ⟨n - (k + 1), by omega⟩
 have e : List.range (k + 1 + m) = List.range k ++ (k :: (List.range m).map fun i => k + 1 + i) := by
  rw [List.range_add, List.range_succ, List.append_assoc]
  rfl
 rw [e, List.findSome?_append]
 have h0 : List.findSome? f (List.range k) = none := by
  rw [List.findSome?_eq_none_iff]
  intro x hx
  exact h x (List.mem_range.1 hx)
 rw [h0]
 simp [hx]
/-! ### programs -/
/-- An instruction; a method; a program. -/
structure Ins where
 op : Int
 a : Int
 b : Int
 n : Int
deriving DecidableEq, Inhabited
structure Mth where
 pa : ByteArray
 lo : ByteArray
 re : ByteArray
 code : List Ins
instance : Inhabited Mth := ⟨⟨⟨#[]⟩, ⟨#[]⟩, ⟨#[]⟩, []⟩⟩
structure Prg where
 classes : List ByteArray
 methods : List Mth
def lettersB (s : ByteArray) : Bool := s.data.toList.all fun c => c == 73 || c == 82
def inB (i : Int) (n : Nat) : Bool := decide (0 ≤ i) && decide (i < n)
def opsA : List Int := [3, 4, 22, 23, 24, 25, 26, 27, 28, 29, 30, 32]
def usesA (op : Int) : Bool := decide (op ∈ opsA)
def usesB (op : Int) : Bool := decide (op = 25 ∨ op = 26)
/-- What is amiss with an instruction: 0, or a sentinel's number. -/
def insBad (cl : List ByteArray) (nm : Nat) (locals codes : Nat) (x : Ins) : Nat :=
 if x.op < 1 ∨ 35 < x.op then 2
 else if (x.op = 22 ∨ x.op = 23) ∧ inB x.a codes = false then 4
 else if (x.op = 3 ∨ x.op = 4) ∧ inB x.a locals = false then 3
 else if (x.op = 24 ∨ x.op = 27 ∨ x.op = 25 ∨ x.op = 26) ∧ inB x.a cl.length = false then 3
 else if (x.op = 25 ∨ x.op = 26) ∧ inB x.b (cl.getD x.a.toNat ⟨#[]⟩).size = false then 3
 else if (x.op = 28 ∨ x.op = 29 ∨ x.op = 30) ∧ inB x.a 2 = false then 3
 else if x.op = 32 ∧ (x.a ≤ 0 ∨ inB x.a nm = false) then 3
 else if usesA x.op = false ∧ x.a ≠ 0 ∨ usesB x.op = false ∧ x.b ≠ 0 ∨ x.op ≠ 1 ∧ x.n ≠ 0 then 3
 else 0
def retOk (s : ByteArray) : Bool := s.toList.isEmpty || s.toList == [73] || s.toList == [82]
/-- What is amiss with a method, but for its instructions. -/
def headBad (m : Mth) (first : Bool) : Nat :=
 if 12 < m.pa.size + m.lo.size ∨ m.code.length = 0 ∨ 120 < m.code.length then 1
 else if lettersB m.pa = false ∨ lettersB m.lo = false ∨ retOk m.re = false ∨ first = true ∧ (m.pa.toList ≠ [] ∨ m.re.toList = [82]) then 2
 else 0
/-- A fault: 0, or a sentinel's number; where. -/
abbrev Flt := Nat × List Int
def some_ (k : Nat) (at_ : List Int) : Option Flt := if k = 0 then none else some (k, at_)
def clsBad (p : Prg) (i : Nat) : Option Flt :=
 let f := p.classes.getD i ⟨#[]⟩
 some_ (if 10 < f.size then 1 else if lettersB f = false then 2 else 0) [i, -1]
def codeBad (p : Prg) (m : Mth) (i pc : Nat) : Option Flt := some_ (insBad p.classes p.methods.length (m.pa.size + m.lo.size) m.code.length (m.code.getD pc default)) [i, pc]
def mthBad (p : Prg) (i : Nat) : Option Flt :=
 let m := p.methods.getD i default
 (some_ (headBad m (decide (i = 0))) [i, -1]).or (firstOf (codeBad p m i) m.code.length)
def mayP (p : Prg) : Flt :=
 if 12 < p.classes.length ∨ p.methods.length = 0 ∨ 12 < p.methods.length then (1, [])
 else ((firstOf (clsBad p) p.classes.length).or (firstOf (mthBad p) p.methods.length)).getD (0, [])
end Go.Proofs.YtjjmpfmhggcjiaaGreatDoor
namespace Go.Proofs.YtjjmpfmhggcjiaaGreatDoor
open Go.RowKit Go.Maps
def whereV (b : Nat) : Value := .iface 97 (.pointer (some ⟨b, 0, none⟩))
/-- The error value v stands for the fault. -/
inductive ErrV (a : Nat → Addr) (w : World) : Value → Flt → Prop
 | nil : ErrV a w .nilIface (0, [])
 | bare (k : Nat) (h : k + 1 ∈ all14) : ErrV a w (sent (a (k + 1))) (k + 1, [])
 | there (k : Nat) (m pc : Int) (b : Nat) (h : k + 1 ∈ all14) (hb : Blk w b 99 #[.int .i64 m, .int .i64 pc, sent (a (k + 1))]) : ErrV a w (whereV b) (k + 1, [m, pc])
end Go.Proofs.YtjjmpfmhggcjiaaGreatDoor
namespace Go.Proofs.YtjjmpfmhggcjiaaGreatDoor
open Go.Shelf
def lays112_ren : Go.Shelf.Ren := ⟨fun | 112 => 175 | n => n, fun | 28 => 47 | 3 => 3 | 4 => 4 | 0 => 0 | n => n, fun | n => n⟩
theorem lays112 : Go.Proofs.Lays.n112 Tryz.prog lays112_ren := {
 mixed := by kernel_rfl
 f112 := Tryz.func175.trans (congrArg some (by kernel_rfl))
 t0 := Tryz.underlying0
 a0 := Tryz.isAgg0
 z0 := Tryz.sizeOf0
 v0 := Tryz.zeroValue0
 t3 := Tryz.underlying3
 a3 := Tryz.isAgg3
 z3 := Tryz.sizeOf3
 v3 := Tryz.zeroValue3
 t4 := Tryz.underlying4
 a4 := Tryz.isAgg4
 z4 := Tryz.sizeOf4
 v4 := Tryz.zeroValue4
 t28 := Tryz.underlying47
 a28 := Tryz.isAgg47
 z28 := Tryz.sizeOf47
 v28 := Tryz.zeroValue47 }
end Go.Proofs.YtjjmpfmhggcjiaaGreatDoor
namespace Go.Proofs.YtjjmpfmhggcjiaaGreatDoor
open Go.ChangeShapes Go.WideShapes Go.ChangeAt Go.RowKit
theorem own_knob : ownKnob Tryz.prog.godebug = none := by kernel_rfl
theorem laid_out : laidOutB Tryz.prog = true := by kernel_rfl
section
variable {H : Type} {enc : TypeId × Value → H} {P : Program}
theorem below_trodAll (hl : laidOutB P = true) {W W' : World} (hb : Below W.heap.size W W') : ∀ {ts : List TypeId} {vs : List Value} {ds : List (DataW H)} {ps : List MemPlace}, (∀ t ∈ ts, P.readableRec t = true ∧ t < P.types.size) →
 DataW.TrodAll enc P W 0 (fun _ => true) true ts vs ds ps → (∀ x ∈ ps, x.block < W.heap.size) → DataW.TrodAll enc P W' 0 (fun b => decide (b < W.heap.size)) true ts vs ds ps
 | [], [], [], _, _, h, _ => h
 | t :: ts, v :: vs, d :: ds, ps, hr, h, hlt => by
   obtain ⟨p, q, h1, h2, rfl⟩ := h
   exact ⟨p, q, Below.trod hl (hr t List.mem_cons_self).1 (hr t List.mem_cons_self).2 h1 hb (fun x hx => hlt x (List.mem_append_left _ hx)), below_trodAll hl hb (fun u hu => hr u (List.mem_cons_of_mem _ hu)) h2 (fun x hx => hlt x (List.mem_append_right _ hx)), rfl⟩
/-- A walk that answers true and leaves what was there: the row's own words. -/
theorem law_post (hl : laidOutB P = true) {f : Func} {s : ChangeSpec} {W W' : World} {args : Array Value} {ds : List (DataW H)} {before : List MemPlace} {tb : TypeId}
 (hvars : s.vars = []) (hres : f.resultTypes = #[tb]) (htb : P.underlying tb = some .bool)
 (hr : (s.fn H (ds ++ [])).results = [.lit (.bool true)]) (ha : (s.fn H (ds ++ [])).args = ds) (hv : (s.fn H (ds ++ [])).vars = [])
 (hread : ∀ t ∈ f.params.toList, P.readableRec t = true ∧ t < P.types.size)
 (hW : DataW.Whole enc P f.params.toList s.vars false W args.toList ds [] before) (hb : Below W.heap.size W W') :
 s.post enc P f false true false false W args (.bool true) W' := by
 have hW' := hW
 have hlt := DataW.Whole.lt hW
 obtain ⟨p, q, hA, hV, rfl, hfz, hnd⟩ := hW
 rw [hvars] at hV
 have hq : q = [] := hV
 subst hq
 simp only [List.append_nil] at hlt hW'
 refine ⟨ds, [], p, [], p, [], hW', ?_, ?_, ?_, hb.frame _, fun h => by cases h⟩
 · rw [hr, hres]
   exact trodAll_mk1 (shut_bool htb _)
 · rw [ha]
   exact below_trodAll hl hb hread hA hlt
 · rw [hv, hvars]
   rfl
end
/-! ### what the listed sentinels give -/
def nmOf : Nat → String
 | 1 => "overdrive/api.ErrMany"
 | 2 => "overdrive/api.ErrKind"
 | 3 => "overdrive/api.ErrIndex"
 | 4 => "overdrive/api.ErrTarget"
 | 5 => "overdrive/api.ErrShape"
 | 6 => "overdrive/api.ErrEnd"
 | 7 => "overdrive/api.ErrByte"
 | 8 => "overdrive/api.ErrStack"
 | 9 => "overdrive/api.ErrMerge"
 | 10 => "overdrive/api.ErrFall"
 | 11 => "overdrive/api.ErrLimit"
 | 12 => "overdrive/api.ErrNode"
 | 13 => "overdrive/api.ErrState"
 | _ => "overdrive/api.ErrRoom"
theorem gNamed : ∀ k, 1 ≤ k → k ≤ 14 → Tryz.prog.globalNamed (nmOf k) = some (gOf k) ∧ (Tryz.prog.globals[gOf k]?).map (·.type) = some 40 := by
 intro k h1 h2
 have : k = 1 ∨ k = 2 ∨ k = 3 ∨ k = 4 ∨ k = 5 ∨ k = 6 ∨ k = 7 ∨ k = 8 ∨ k = 9 ∨ k = 10 ∨ k = 11 ∨ k = 12 ∨ k = 13 ∨ k = 14 := by omega
 rcases this with rfl | rfl | rfl | rfl | rfl | rfl | rfl | rfl | rfl | rfl | rfl | rfl | rfl | rfl <;> exact ⟨by kernel_rfl, by kernel_rfl⟩
theorem starE : "*" ++ "errors.errorString" = "*errors.errorString" := by decide
theorem rowE (u : TypeId) (h : Tryz.prog.typeName? 3 u = some "*errors.errorString") : u = 345 :=
 typeName_ptr_named (nm := "errors.errorString") (by rw [starE]; kernel_rfl) (by kernel_rfl) (by decide) u (by rw [starE]; exact h)
theorem cellsES : Tryz.prog.cellsOf 360 = 1 := by kernel_rfl
theorem cellsS : Tryz.prog.cellsOf 9 = 1 := by kernel_rfl
/-- The list names the sentinels of these numbers, and maybe more. -/
inductive LaidIs : List (String × DataW Unit) → List Nat → Prop
 | nil : LaidIs [] []
 | sent {x : String × DataW Unit} {r : List (String × DataW Unit)} {k : Nat} {s : List Nat} (h1 : 1 ≤ k ∧ k ≤ 14) (h2 : x.1 = nmOf k) (h3 : ∃ text, x.2 = .iface "*errors.errorString" (.ptr (.agg [.lit (.string text)]))) (h : LaidIs r s) : LaidIs (x :: r) (k :: s)
 | skip {x : String × DataW Unit} {r : List (String × DataW Unit)} {s : List Nat} (h : LaidIs r s) : LaidIs (x :: r) s
set_option maxRecDepth 100000 in
theorem sents_of_laid {W : World} {L : List (String × DataW Unit)} {S : List Nat} (hi : LaidIs L S) : ∀ (ps : List MemPlace), DataW.LaidVars Tryz.prog W L ps →
 (∀ b off, MemPlace.cell b off ∈ ps → (∃ c t, W.heap[b]? = some (.cells c t (0, 0))) ∧ ∀ u v, W.cell? ⟨b, off, none⟩ = some (.iface u v) → Value.okWide Tryz.prog W .any 0 u v) →
 ∃ ads : List Addr, ads.length = S.length ∧ (ads.map fun a => MemPlace.cell a.block a.off).Sublist ps ∧ ∀ (i k : Nat) (a : Addr), S[i]? = some k → ads[i]? = some a → W.cell? ⟨gOf k, 0, none⟩ = some (sent a) ∧ a.spot = none := by
 induction hi with
 | nil => intro ps _ _; exact ⟨[], rfl, by simp, fun i k a h => by simp at h⟩
 | skip hr ih =>
   rename_i x r s
   intro ps hv hrows
   obtain ⟨n, d⟩ := x
   obtain ⟨g0, t0, cs0, f0, p0, q0, hg0, ht0, hv0, hd0, hq, rfl⟩ := hv
   obtain ⟨ads, h1, h2, h3⟩ := ih q0 hq (fun b off hm => hrows b off (List.mem_append_right _ hm))
   exact ⟨ads, h1, h2.trans (List.sublist_append_right _ _), h3⟩
 | sent hk hn hd hr ih =>
   rename_i x r k s
   intro ps hv hrows
   obtain ⟨n, d⟩ := x
   obtain ⟨text, hd⟩ := hd
   obtain ⟨g0, t0, cs0, f0, p0, q0, hg0, ht0, hv0, hd0, hq, rfl⟩ := hv
   simp only at hn hd
   subst hn hd
   obtain ⟨hgn, hgt⟩ := gNamed k hk.1 hk.2
   obtain rfl := Option.some.inj (hgn.symm.trans hg0)
   obtain rfl := Option.some.inj (hgt.symm.trans ht0)
   obtain ⟨l0⟩ := cs0
   obtain ⟨ads, h1, h2, h3⟩ := ih q0 hq (fun b off hm => hrows b off (List.mem_append_right _ hm))
   have ok0 : ∀ u v, l0 = [.iface u v] → Value.okWide Tryz.prog W .any 0 u v := fun u v e => by
    subst e
    exact (hrows (gOf k) 0 (by simp [MemPlace.row])).2 u v (by simpa using World.var?_cell hgn hv0 0)
   obtain ⟨a0, s0, rfl, hc0, _, _, rfl⟩ := errorString_of_trod Tryz.underlying40 rowE Tryz.underlying345 Tryz.underlying360 rfl rfl Tryz.underlying9 cellsES cellsS hd0 ok0
   refine ⟨a0 :: ads, by simp [h1], ?_, fun i k' a hk' ha => ?_⟩
   · simp only [List.map_cons]
     have e1 : MemPlace.row a0 1 = [.cell a0.block a0.off] := by simp [MemPlace.row]
     rw [e1]
     exact (List.Sublist.cons_cons _ h2).trans (by simp)
   · cases i with
     | zero =>
       simp at hk' ha
       subst hk' ha
       refine ⟨by simpa [sent] using World.var?_cell hgn hv0 0, ?_⟩
       unfold World.cell? at hc0
       cases hsp : a0.spot with
       | none => rfl
       | some q =>
         rw [hsp] at hc0
         split at hc0 <;> simp at hc0
     | succ i => exact h3 i k' a (by simpa using hk') (by simpa using ha)
set_option maxRecDepth 100000 in
theorem sent_of_laid {W : World} {L : List (String × DataW Unit)} {S : List Nat} (h : laidMetH Tryz.prog L W) (hplain : (L.all fun x => x.2.handleName?.isNone) = true) (hi : LaidIs L S) : ∃ a, Sent W W.heap.size S a := by
 rw [MakeChecks.laidMetH_plain _ _ _ hplain] at h
 obtain ⟨ps, hv, hnd, hrows⟩ := h
 obtain ⟨ads, h1, h2, h3⟩ := sents_of_laid hi ps hv hrows
 have hget : ∀ k ∈ S, ∃ i a, S[i]? = some k ∧ ads[i]? = some a ∧ S.idxOf k = i := fun k hk => by
  have hlt : S.idxOf k < S.length := List.idxOf_lt_length_of_mem hk
  refine ⟨S.idxOf k, ads[S.idxOf k]'(by omega), ?_, List.getElem?_eq_getElem (by omega), rfl⟩
  rw [List.getElem?_eq_getElem hlt]
  simp
 refine ⟨fun k => (ads[S.idxOf k]?).getD ⟨0, 0, none⟩, ⟨fun k hk => ?_, fun k hk => ?_, fun k hk j hj e => ?_⟩⟩
 · obtain ⟨i, a, e1, e2, e3⟩ := hget k hk
   obtain ⟨q1, q2⟩ := h3 i k a e1 e2
   rw [e3, e2]
   exact ⟨block_lt_of_cell q1, q1⟩
 · obtain ⟨i, a, e1, e2, e3⟩ := hget k hk
   rw [e3, e2]
   have hm : MemPlace.cell a.block a.off ∈ ps := h2.mem (List.mem_map.2 ⟨a, List.mem_of_getElem? e2, rfl⟩)
   obtain ⟨c, t, hr⟩ := (hrows _ _ hm).1
   exact ⟨(Array.getElem?_eq_some_iff.1 hr).1, c, t, hr⟩
 · obtain ⟨i, a, e1, e2, e3⟩ := hget k hk
   obtain ⟨i', a', e1', e2', e3'⟩ := hget j hj
   simp only [e3, e2, e3', e2', Option.getD_some] at e
   subst e
   have hn : (ads.map fun a => MemPlace.cell a.block a.off).Nodup := hnd.sublist h2
   have q1 : (ads.map fun a => MemPlace.cell a.block a.off)[i]? = some (.cell a.block a.off) := by rw [List.getElem?_map, e2]; rfl
   have q2 : (ads.map fun a => MemPlace.cell a.block a.off)[i']? = some (.cell a.block a.off) := by rw [List.getElem?_map, e2']; rfl
   have := (List.getElem?_inj (List.getElem?_eq_some_iff.1 q1).1 hn).1 (q1.trans q2.symm)
   subst this
   rw [e1] at e1'
   injection e1'
end Go.Proofs.YtjjmpfmhggcjiaaGreatDoor
