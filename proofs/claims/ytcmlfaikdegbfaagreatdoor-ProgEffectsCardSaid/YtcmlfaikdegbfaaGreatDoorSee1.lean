/-
  Contracts of the small functions by which the statements see errors: Bare, None, SameInts, SameFault, sentinels, Alike, sentinel.
-/
import Derived.Test.YtcmlfaikdegbfaaGreatDoorLib
namespace Go.Proofs.YtcmlfaikdegbfaaGreatDoor
open Go.RowKit Go.Maps

theorem ret_bool {a b : Bool} (h : a = b) : Ending.returned (.bool a) = .returned (.bool b) := by rw [h]

set_option maxHeartbeats 400000 in
theorem bare_any (c : Int) (w : World) :
    Calls Tryz.prog 29 #[.int .i64 c] w fun e w' => e = .returned (.agg #[.int .i64 c, .slice none 0 0]) ∧ Below w.heap.size w w' := by
  go_enter Tryz.func29, Tryz.ntmps29
  go_wp2
  exact bodyPost_ret (v := .agg #[.int .i64 c, .slice none 0 0]) (by simp [results, Tryz.results29, go_sem]) rfl ⟨rfl, (Below.refl _ _).alloc (Nat.le_refl _) _⟩

set_option maxHeartbeats 400000 in
theorem none_any (w : World) :
    Calls Tryz.prog 32 #[] w fun e w' => e = .returned (.agg #[.int .i64 0, .slice none 0 0]) ∧ Below w.heap.size w w' := by
  go_enter Tryz.func32, Tryz.ntmps32
  go_wp2
  exact bodyPost_ret (v := .agg #[.int .i64 0, .slice none 0 0]) (by simp [results, Tryz.results32, go_sem]) rfl ⟨rfl, (Below.refl _ _).alloc (Nat.le_refl _) _⟩

/-- The cells of a row of ints. -/
def ints (l : List Int) : List Value := l.map (Value.int .i64)
theorem ints_at {w : World} {B n : Nat} {A : Option Addr} {l : List Int} (h : Rd w B 1 A n (ints l)) {k : Nat} (hk : k < n) : ∃ b off, A = some ⟨b, off, none⟩ ∧ b < B ∧ w.cell? ⟨b, off + k, none⟩ = some (.int .i64 (l[k]?.getD 0)) := by
  obtain ⟨b, off, e, hb, hc⟩ := h.2 (by omega)
  have hl : l.length = n := by have := h.1; simpa [ints] using this
  refine ⟨b, off, e, hb, hc k _ ?_⟩
  simp [ints, List.getElem?_eq_getElem (show k < l.length by omega)]

theorem take_next {l1 l2 : List Int} {k : Nat} (h1 : k < l1.length) (h2 : k < l2.length) (h : l1.take k = l2.take k) (e : (!l1[k]?.getD 0 == l2[k]?.getD 0) = false) : l1.take (k + 1) = l2.take (k + 1) := by
  have : l1[k]?.getD 0 = l2[k]?.getD 0 := by simpa using e
  rw [List.take_succ_eq_append_getElem h1, List.take_succ_eq_append_getElem h2, h]
  simp only [List.getElem?_eq_getElem h1, List.getElem?_eq_getElem h2, Option.getD_some] at this
  rw [this]
theorem not_next {l1 l2 : List Int} {k : Nat} (e : (!l1[k]?.getD 0 == l2[k]?.getD 0) = true) : false = decide (l1 = l2) := by
  symm
  rw [decide_eq_false_iff_not]
  rintro rfl
  simp at e

set_option maxHeartbeats 400000 in
theorem sameInts_any (A1 A2 : Option Addr) (n1 n2 c1 c2 : Nat) (l1 l2 : List Int) (w : World) (hn1 : n1 ≤ 9223372036854775807) (h1 : Rd w w.heap.size 1 A1 n1 (ints l1)) (h2 : Rd w w.heap.size 1 A2 n2 (ints l2)) :
    Calls Tryz.prog 19 #[.slice A1 n1 c1, .slice A2 n2 c2] w fun e w' => e = .returned (.bool (decide (l1 = l2))) ∧ Below w.heap.size w w' := by
  have hl1 : l1.length = n1 := by have := h1.1; simpa [ints] using this
  have hl2 : l2.length = n2 := by have := h2.1; simpa [ints] using this
  by_cases hne : n1 = n2
  · subst hne
    have Hl1 := Lib.hid hl1
    have Hl2 := Lib.hid hl2
    clear hl1 hl2
    go_enter Tryz.func19, Tryz.ntmps19
    go_wp2
    go_loopw [5] (fun i wr => ∃ k : Nat, k ≤ n1 ∧ i = .int .i64 k ∧ l1.take k = l2.take k ∧ Below w.heap.size w wr) (fun i _ => n1 - (intOf i).toNat)
    case atStart => exact ⟨0, Nat.zero_le _, rfl, rfl, Below.refl _ _⟩
    case round =>
      obtain ⟨k, hk, rfl, heq, hb⟩ := hrel
      have Heq := Lib.hid heq
      clear heq
      by_cases hlt : k < n1
      · obtain ⟨b1, o1, rfl, hb1, hc1⟩ := ints_at (h1.below hb (Nat.le_refl _)) hlt
        obtain ⟨b2, o2, rfl, hb2, hc2⟩ := ints_at (h2.below hb (Nat.le_refl _)) hlt
        have k0 : (0 : Int) ≤ k := by omega
        have k1 : (k : Int) < n1 := by omega
        go_wp2
        go_quiet (fail)
        go_wp2
        · have e : (!l1[k]?.getD 0 == l2[k]?.getD 0) = true := by assumption
          go_ret
          exact ⟨ret_bool (not_next e), below_drewN hb _⟩
        · have e : (!l1[k]?.getD 0 == l2[k]?.getD 0) = false := by assumption
          go_roundw
          case rel => exact ⟨k + 1, by omega, by go_num, take_next (by have := Hl1.out; omega) (by have := Hl2.out; omega) Heq.out e, below_drewN hb _⟩
          case measure => simp [intOf]; omega
      · have : k = n1 := by omega
        subst this
        go_wp2
        go_ret
        refine ⟨ret_bool ?_, hb⟩
        have := Heq.out
        rw [List.take_of_length_le (by have := Hl1.out; omega), List.take_of_length_le (by have := Hl2.out; omega)] at this
        simp [this]
  · go_enter Tryz.func19, Tryz.ntmps19
    go_wp2
    all_goals go_ret
    · refine ⟨ret_bool ?_, Below.refl _ _⟩
      symm
      rw [decide_eq_false_iff_not]
      rintro rfl
      omega

theorem and_dec {p q : Prop} [Decidable p] [Decidable q] : (decide p && decide q) = decide (p ∧ q) := by simp

set_option maxHeartbeats 400000 in
theorem sameFault_any (x1 x2 : Int) (A1 A2 : Option Addr) (n1 n2 c1 c2 : Nat) (l1 l2 : List Int) (w : World) (hn1 : n1 ≤ 9223372036854775807) (h1 : Rd w w.heap.size 1 A1 n1 (ints l1)) (h2 : Rd w w.heap.size 1 A2 n2 (ints l2)) :
    Calls Tryz.prog 45 #[.agg #[.int .i64 x1, .slice A1 n1 c1], .agg #[.int .i64 x2, .slice A2 n2 c2]] w fun e w' => e = .returned (.bool (decide (x1 = x2 ∧ l1 = l2))) ∧ Below w.heap.size w w' := by
  go_enter Tryz.func45, Tryz.ntmps45
  go_wp2_with fail
  refine (sameInts_any _ _ _ _ _ _ l1 l2 _ hn1 (((h1.alloc (Nat.le_refl _) _).alloc (by simp) _).more (by simp; omega)) (((h2.alloc (Nat.le_refl _) _).alloc (by simp) _).more (by simp; omega))).mono ?_
  rintro e w1 ⟨rfl, hb⟩
  obtain ⟨hc, hf⟩ := bcell hb
  have hbb : Below w.heap.size w w1 := (((Below.refl _ _).alloc (Nat.le_refl _) _).alloc (by simp) _).trans (hb.mono (by simp; omega))
  go_wp2
  · have e : x1 = x2 := by assumption
    go_ret
    exact ⟨ret_bool (by simp [e]), hbb⟩
  · have e : ¬ x1 = x2 := by assumption
    go_ret
    exact ⟨ret_bool (by simp [e]), hbb⟩

/-! ### the sentinels -/
/-- The package-level variable of the sentinel of number 100 + k. -/
def gOf : Nat → Nat
  | 1 => 0
  | 2 => 1
  | 3 => 3
  | 4 => 2
  | 5 => 6
  | 6 => 7
  | 7 => 8
  | 8 => 9
  | 9 => 10
  | 10 => 11
  | 11 => 12
  | 12 => 13
  | 13 => 14
  | _ => 15
def sent (a : Addr) : Value := .iface 150 (.pointer (some a))
/-- Of the numbers in S the variables hold pointers, which are different, to blocks below B. -/
structure Sent (w : World) (B : Nat) (S : List Nat) (a : Nat → Addr) : Prop where
  cell : ∀ k ∈ S, gOf k < B ∧ w.cell? ⟨gOf k, 0, none⟩ = some (sent (a k))
  row : ∀ k ∈ S, (a k).block < B ∧ ∃ cs t, w.heap[(a k).block]? = some (.cells cs t (0, 0))
  inj : ∀ k ∈ S, ∀ j ∈ S, a k = a j → k = j
theorem Sent.below {w w' : World} {B C : Nat} {S : List Nat} {a : Nat → Addr} (h : Sent w B S a) (hb : Below C w w') (hC : B ≤ C) : Sent w' B S a :=
  ⟨fun k hk => ⟨(h.cell k hk).1, (hb.cell (p := ⟨gOf k, 0, none⟩) (Nat.lt_of_lt_of_le (h.cell k hk).1 hC)).trans (h.cell k hk).2⟩,
   fun k hk => ⟨(h.row k hk).1, by
    obtain ⟨hlt, cs, t, hr⟩ := h.row k hk
    exact ⟨cs, t, (hb.block _ (Nat.lt_of_lt_of_le hlt hC)).trans hr⟩⟩, h.inj⟩
theorem Sent.sub {w : World} {B : Nat} {S S' : List Nat} {a : Nat → Addr} (h : Sent w B S a) (hs : ∀ k ∈ S', k ∈ S) : Sent w B S' a :=
  ⟨fun k hk => h.cell k (hs k hk), fun k hk => h.row k (hs k hk), fun k hk j hj => h.inj k (hs k hk) j (hs j hj)⟩

theorem Sent.cellA {w : World} {B : Nat} {S : List Nat} {a : Nat → Addr} (h : Sent w B S a) (hB : B ≤ w.heap.size) {k : Nat} (hk : k ∈ S) (o : Obj) : (w.alloc o).cell? ⟨gOf k, 0, none⟩ = some (sent (a k)) :=
  (World.cell?_alloc_lt w o ⟨gOf k, 0, none⟩ (Nat.lt_of_lt_of_le (h.cell k hk).1 hB)).trans (h.cell k hk).2
/-- An error that is nil, or one of the sentinels. -/
def errV (a : Nat → Addr) : Nat → Value
  | 0 => .nilIface
  | k + 1 => sent (a (k + 1))

def sentCells (a : Nat → Addr) : List Value := (List.range 14).map fun i => sent (a (i + 1))
def all14 : List Nat := [1, 2, 3, 4, 5, 6, 7, 8, 9, 10, 11, 12, 13, 14]

set_option maxHeartbeats 400000 in
theorem sentinels_any (a : Nat → Addr) (B : Nat) (w : World) (h : Sent w B all14 a) :
    Calls Tryz.prog 87 #[] w fun e w' => e = .returned (.slice (some ⟨w.heap.size, 0, none⟩) 14 14) ∧ w' = w.alloc (.cells #[sent (a 1), sent (a 2), sent (a 3), sent (a 4), sent (a 5), sent (a 6), sent (a 7), sent (a 8), sent (a 9), sent (a 10), sent (a 11), sent (a 12), sent (a 13), sent (a 14)] 52) := by
  have h1 := (h.cell 1 (by simp [all14])).2
  have h2 := (h.cell 2 (by simp [all14])).2
  have h3 := (h.cell 3 (by simp [all14])).2
  have h4 := (h.cell 4 (by simp [all14])).2
  have h5 := (h.cell 5 (by simp [all14])).2
  have h6 := (h.cell 6 (by simp [all14])).2
  have h7 := (h.cell 7 (by simp [all14])).2
  have h8 := (h.cell 8 (by simp [all14])).2
  have h9 := (h.cell 9 (by simp [all14])).2
  have h10 := (h.cell 10 (by simp [all14])).2
  have h11 := (h.cell 11 (by simp [all14])).2
  have h12 := (h.cell 12 (by simp [all14])).2
  have h13 := (h.cell 13 (by simp [all14])).2
  have h14 := (h.cell 14 (by simp [all14])).2
  simp only [gOf, sent] at h1 h2 h3 h4 h5 h6 h7 h8 h9 h10 h11 h12 h13 h14
  simp only [sent]
  go_enter Tryz.func87, Tryz.ntmps87
  go_wp2
  go_ret
  exact ⟨rfl, rfl⟩

end Go.Proofs.YtcmlfaikdegbfaaGreatDoor
