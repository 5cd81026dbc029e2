/-
  Contracts of the functions by which the statements see errors: Alike, sentinel, fault, Fault, Same, Is.
-/
import Derived.Test.YtcmlfaikdegbfaaGreatDoorSee1
import Derived.LaidEql
namespace Go.Proofs.YtcmlfaikdegbfaaGreatDoor
open Go.RowKit Go.Maps

theorem ret_int {k : IntKind} {a b : Int} (h : a = b) : Ending.returned (.int k a) = .returned (.int k b) := by rw [h]

theorem infoE : (Tryz.prog.info? 150).map (·.comparable) = some true := by kernel_rfl
theorem infoES : (Tryz.prog.info? 167).map (·.size) = some 1 := by kernel_rfl

theorem eql_sent {w : World} {B : Nat} {S : List Nat} {a : Nat → Addr} (h : Sent w B S a) {k j : Nat} (hk : k ∈ S) (hj : j ∈ S) :
    (binOp .eql 52 (sent (a k)) (sent (a j))).run Tryz.prog w = .ok (.bool (decide (k = j))) w := by
  obtain ⟨i, hi, hic⟩ := Option.map_eq_some_iff.1 infoE
  obtain ⟨i2, hi2, hic2⟩ := Option.map_eq_some_iff.1 infoES
  by_cases e : k = j
  · subst e
    rw [decide_eq_true rfl]
    exact run_eql_iface_ptr_same w (a k) Tryz.underlying52 Tryz.underlying150 hi hic hi2
  · rw [decide_eq_false e]
    obtain ⟨_, cs, t, hr⟩ := h.row k hk
    obtain ⟨_, cs', t', hr'⟩ := h.row j hj
    exact run_eql_iface_ptr_other w Tryz.underlying52 Tryz.underlying150 hi hic hi2 (by rw [hic2]; decide) (fun e2 => e (h.inj k hk j hj e2)) hr hr'

set_option maxHeartbeats 400000 in
theorem alike_any (a : Nat → Addr) (B : Nat) (S : List Nat) (w : World) (h : Sent w B S a) {k j : Nat} (hk : k ∈ S) (hj : j ∈ S) :
    Calls Tryz.prog 88 #[sent (a k), sent (a j)] w fun e w' => e = .returned (.bool (decide (k = j))) ∧ w = w' := by
  have he := eql_sent h hk hj
  simp only [sent] at he ⊢
  go_enter Tryz.func88, Tryz.ntmps88
  go_wp2
  go_ret
  exact ⟨rfl, rfl⟩

theorem sentCell (a : Nat → Addr) (w : World) (j : Nat) (hj : j < 14) : (w.alloc (.cells #[sent (a 1), sent (a 2), sent (a 3), sent (a 4), sent (a 5), sent (a 6), sent (a 7), sent (a 8), sent (a 9), sent (a 10), sent (a 11), sent (a 12), sent (a 13), sent (a 14)] 52)).cell? ⟨w.heap.size, j, none⟩ = some (sent (a (j + 1))) := by
  rw [(Blk.new w _ _).cell]
  have : j = 0 ∨ j = 1 ∨ j = 2 ∨ j = 3 ∨ j = 4 ∨ j = 5 ∨ j = 6 ∨ j = 7 ∨ j = 8 ∨ j = 9 ∨ j = 10 ∨ j = 11 ∨ j = 12 ∨ j = 13 := by omega
  rcases this with rfl | rfl | rfl | rfl | rfl | rfl | rfl | rfl | rfl | rfl | rfl | rfl | rfl | rfl <;> rfl
theorem mem14 {k : Nat} : k ∈ all14 ↔ 1 ≤ k ∧ k ≤ 14 := by
  unfold all14
  simp
  omega

set_option maxHeartbeats 400000 in
theorem sentinel_any (a : Nat → Addr) (B : Nat) (w : World) (h : Sent w B all14 a) (hB : B ≤ w.heap.size) {k : Nat} (hk : k ∈ all14) :
    Calls Tryz.prog 75 #[sent (a k)] w fun e w' => e = .returned (.int .i64 (100 + k)) ∧ Below w.heap.size w w' := by
  have hk2 := mem14.1 hk
  have h1 : Sent (w.alloc (.cells #[sent (a 1), sent (a 2), sent (a 3), sent (a 4), sent (a 5), sent (a 6), sent (a 7), sent (a 8), sent (a 9), sent (a 10), sent (a 11), sent (a 12), sent (a 13), sent (a 14)] 52)) B all14 a := h.below ((Below.refl w.heap.size w).alloc (Nat.le_refl _) _) hB
  have hb1 : Below w.heap.size w (w.alloc (.cells #[sent (a 1), sent (a 2), sent (a 3), sent (a 4), sent (a 5), sent (a 6), sent (a 7), sent (a 8), sent (a 9), sent (a 10), sent (a 11), sent (a 12), sent (a 13), sent (a 14)] 52)) := (Below.refl w.heap.size w).alloc (Nat.le_refl _) _
  have hcell := sentCell a w
  generalize hW : (w.alloc (.cells #[sent (a 1), sent (a 2), sent (a 3), sent (a 4), sent (a 5), sent (a 6), sent (a 7), sent (a 8), sent (a 9), sent (a 10), sent (a 11), sent (a 12), sent (a 13), sent (a 14)] 52)) = W at *
  have HW := Lib.hid hW
  have Hcell := Lib.hid hcell
  clear hW hcell
  go_enter Tryz.func75, Tryz.ntmps75
  go_wp2_with (go_at_call 87; refine (sentinels_any a B _ h).mono ?_; rintro e w' ⟨rfl, hw'⟩; rw [HW.out] at hw'; subst hw')
  go_loop [4] (fun i => ∃ j : Nat, j < k ∧ i = .int .i64 j) (fun i => 14 - (intOf i).toNat)
  case atStart => exact ⟨0, by omega, rfl⟩
  case round =>
    obtain ⟨j, hj, rfl⟩ := hrel
    have hc := Hcell.out j (by omega)
    go_wp2_with (go_at_call 88; refine (alike_any a B all14 _ h1 hk (mem14.2 ⟨by omega, by omega⟩ : j + 1 ∈ all14)).mono ?_; rintro e w' ⟨rfl, rfl⟩)
    · have e : k = j + 1 := by assumption
      go_ret
      exact ⟨ret_int (by omega), hb1⟩
    · have e : ¬ k = j + 1 := by assumption
      go_round
      case rel => exact ⟨j + 1, by omega, by go_num⟩
      case measure => simp [intOf]; omega

/-- What a type assertion on an error comes to. -/
theorem assert_no1 (x : Value) (w : World) : (Instr.typeAssert (.iface 150 x) 52 105 true).run Tryz.prog w = .ok (.tuple #[.pointer none, .bool false]) w := by kernel_rfl
theorem assert_no2 (x : Value) (w : World) : (Instr.typeAssert (.iface 150 x) 52 67 true).run Tryz.prog w = .ok (.tuple #[.pointer none, .bool false]) w := by kernel_rfl

set_option maxHeartbeats 400000 in
theorem fault_sent (a : Nat → Addr) (B : Nat) (w : World) (h : Sent w B all14 a) (hB : B ≤ w.heap.size) {k : Nat} (hk : k ∈ all14) (left : Int) (hl : 0 < left) :
    Calls Tryz.prog 54 #[sent (a k), .int .i64 left] w fun e w' => e = .returned (.agg #[.int .i64 (100 + k), .slice none 0 0]) ∧ Below w.heap.size w w' := by
  have hl0 : (left == 0) = false := by simp; omega
  have ha1 := assert_no1
  have ha2 := assert_no2
  have hs := fun W hW hB' => sentinel_any a B W (h := hW) (hB := hB') hk
  have Hs := Lib.hid hs
  clear hs
  unfold sent at *
  go_enter Tryz.func54, Tryz.ntmps54
  go_wp2_with fail
  refine (Hs.out _ (h.below ((Below.refl w.heap.size w).alloc (Nat.le_refl _) _) hB) (by simp; omega)).mono ?_
  rintro e w1 ⟨rfl, hb⟩
  have hbb : Below w.heap.size w w1 := ((Below.refl _ _).alloc (Nat.le_refl _) _).trans (hb.mono (by simp))
  have hB1 := (Blk.new w 34 #[.int .i64 0, .slice none 0 0]).below hb (by simp)
  go_wp2_with fail
  refine (bare_any _ _).mono ?_
  rintro e w2 ⟨rfl, hb2⟩
  have hbb2 : Below w.heap.size w w2 := hbb.trans (hb2.mono hbb.size)
  have hB2 := hB1.below hb2 hB1.lt
  have q0 := hB2.at0
  have q1 := hB2.at1
  have f0 := hB2.frozen 0
  have f1 := hB2.frozen 1
  go_wp2
  exact bodyPost_ret (v := .agg #[.int .i64 (100 + k), .slice none 0 0]) (by simp [results, Tryz.results54, go_sem, q0, q1]) rfl ⟨rfl, (hbb2.setCell (by simp) _).setCell (by simp) _⟩

set_option maxHeartbeats 400000 in
theorem faultAll_nil (w : World) :
    Calls Tryz.prog 44 #[.nilIface] w fun e w' => e = .returned (.agg #[.int .i64 0, .slice none 0 0]) ∧ Below w.heap.size w w' := by
  go_enter Tryz.func44, Tryz.ntmps44
  go_wp2_with fail
  refine (none_any _).mono ?_
  rintro e w1 ⟨rfl, hb⟩
  have hbb : Below w.heap.size w w1 := ((Below.refl _ _).alloc (Nat.le_refl _) _).trans (hb.mono (by simp))
  have hB1 := (Blk.new w 34 #[.int .i64 0, .slice none 0 0]).below hb (by simp)
  have q0 := hB1.at0
  have q1 := hB1.at1
  have f0 := hB1.frozen 0
  have f1 := hB1.frozen 1
  go_wp2
  exact bodyPost_ret (v := .agg #[.int .i64 0, .slice none 0 0]) (by simp [results, Tryz.results44, go_sem, q0, q1]) rfl ⟨rfl, (hbb.setCell (by simp) _).setCell (by simp) _⟩

set_option maxHeartbeats 400000 in
theorem faultAll_sent (a : Nat → Addr) (B : Nat) (w : World) (h : Sent w B all14 a) (hB : B ≤ w.heap.size) {k : Nat} (hk : k ∈ all14) :
    Calls Tryz.prog 44 #[sent (a k)] w fun e w' => e = .returned (.agg #[.int .i64 (100 + k), .slice none 0 0]) ∧ Below w.heap.size w w' := by
  have hs := fun W hW hB' => fault_sent a B W (h := hW) (hB := hB') hk 9 (by omega)
  have Hs := Lib.hid hs
  clear hs
  unfold sent at *
  go_enter Tryz.func44, Tryz.ntmps44
  go_wp2_with fail
  refine (Hs.out _ (h.below ((Below.refl w.heap.size w).alloc (Nat.le_refl _) _) hB) (by simp; omega)).mono ?_
  rintro e w1 ⟨rfl, hb⟩
  have hbb : Below w.heap.size w w1 := ((Below.refl _ _).alloc (Nat.le_refl _) _).trans (hb.mono (by simp))
  have hB1 := (Blk.new w 34 #[.int .i64 0, .slice none 0 0]).below hb (by simp)
  have q0 := hB1.at0
  have q1 := hB1.at1
  have f0 := hB1.frozen 0
  have f1 := hB1.frozen 1
  go_wp2
  exact bodyPost_ret (v := .agg #[.int .i64 (100 + k), .slice none 0 0]) (by simp [results, Tryz.results44, go_sem, q0, q1]) rfl ⟨rfl, (hbb.setCell (by simp) _).setCell (by simp) _⟩

/-- The number of an error: 0 of none. -/
def codeOf (k : Nat) : Int := if k = 0 then 0 else 100 + k
theorem faultAll_any (a : Nat → Addr) (B : Nat) (w : World) (h : Sent w B all14 a) (hB : B ≤ w.heap.size) {k : Nat} (hk : k ≤ 14) :
    Calls Tryz.prog 44 #[errV a k] w fun e w' => e = .returned (.agg #[.int .i64 (codeOf k), .slice none 0 0]) ∧ Below w.heap.size w w' := by
  cases k with
  | zero => exact faultAll_nil w
  | succ k => exact faultAll_sent a B w h hB (mem14.2 ⟨by omega, by omega⟩)

set_option maxHeartbeats 400000 in
theorem same_any (v : Value) (c1 : Int) (c2 : Int) (A1 A2 : Option Addr) (n1 n2 p1 p2 : Nat) (l1 l2 : List Int) (w : World) (hn1 : n1 ≤ 9223372036854775807) (hr2 : Rd w w.heap.size 1 A2 n2 (ints l2))
    (hf : ∀ W, Below w.heap.size w W → Calls Tryz.prog 44 #[v] W fun e w' => e = .returned (.agg #[.int .i64 c1, .slice A1 n1 p1]) ∧ Rd w' w'.heap.size 1 A1 n1 (ints l1) ∧ Below W.heap.size W w') :
    Calls Tryz.prog 25 #[v, .agg #[.int .i64 c2, .slice A2 n2 p2]] w fun e w' => e = .returned (.bool (decide (c1 = c2 ∧ l1 = l2))) ∧ Below w.heap.size w w' := by
  have Hf := Lib.hid hf
  clear hf
  go_enter Tryz.func25, Tryz.ntmps25
  go_wp2_with fail
  refine (Hf.out _ ((Below.refl w.heap.size w).alloc (Nat.le_refl _) _)).mono ?_
  rintro e w1 ⟨rfl, hr1, hb⟩
  have hbb : Below w.heap.size w w1 := ((Below.refl _ _).alloc (Nat.le_refl _) _).trans (hb.mono (by simp))
  have hB1 := (Blk.new w 34 #[.int .i64 c2, .slice A2 n2 p2]).below hb (by simp)
  have q0 := hB1.at0
  have q1 := hB1.at1
  have hz := hB1.lt
  go_wp2_with fail
  refine (sameFault_any c1 c2 A1 A2 n1 n2 p1 p2 l1 l2 _ hn1 ((hr1.alloc (Nat.le_refl _) _).more (by simp)) (((hr2.below hbb (Nat.le_refl _)).alloc (by omega) _).more (by simp; omega))).mono ?_
  rintro e w2 ⟨rfl, hb2⟩
  go_wp2
  go_ret
  exact ⟨ret_bool (by simp), (hbb.alloc (by omega) _).trans (hb2.mono (by simp; omega))⟩

end Go.Proofs.YtcmlfaikdegbfaaGreatDoor
