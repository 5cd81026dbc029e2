/-
  How programs lie in memory; contracts of small functions over them: slices.Contains, prog.in, prog.letters, prog.uses, prog.Kinds, prog.head.
-/
import Derived.Test.YtcmlfaikdegbfaaGreatDoorErr
import Derived.Test.YtcmlfaikdegbfaaGreatDoorTrim
import Derived.Deep.DeepCutAuto
namespace Go.Proofs.YtcmlfaikdegbfaaGreatDoor
open Go.RowKit Go.Maps

/-! ### rows of rows -/
theorem flat_len {α : Type} (g : α → List Value) (s : Nat) (hg : ∀ x, (g x).length = s) : ∀ l : List α, (l.flatMap g).length = l.length * s
  | [] => by simp
  | x :: r => by rw [List.flatMap_cons, List.length_append, hg, flat_len g s hg r, List.length_cons, Nat.succ_mul]; omega
theorem flat_at {α : Type} (g : α → List Value) (s : Nat) (hg : ∀ x, (g x).length = s) : ∀ (l : List α) (k j : Nat) (x : α), l[k]? = some x → j < s → (l.flatMap g)[k * s + j]? = (g x)[j]?
  | [], k, j, x, h, _ => by simp at h
  | y :: r, 0, j, x, h, hj => by
    simp at h
    subst h
    rw [List.flatMap_cons, Nat.zero_mul, Nat.zero_add, List.getElem?_append_left (by rw [hg]; exact hj)]
  | y :: r, k + 1, j, x, h, hj => by
    have := flat_at g s hg r k j x (by simpa using h) hj
    rw [List.flatMap_cons, Nat.succ_mul, List.getElem?_append_right (by rw [hg]; omega), hg, ← this]
    congr 1
    omega
def icell (x : Ins) : List Value := [.int .i64 x.op, .int .i64 x.a, .int .i64 x.b, .int .i64 x.n]
def icells (l : List Ins) : List Value := l.flatMap icell
def mcell (x : Mth × (Option Addr × Nat)) : List Value := [.string x.1.pa, .string x.1.lo, .string x.1.re, .slice x.2.1 x.1.code.length x.2.2]
def mthCells (ms : List Mth) (hs : List (Option Addr × Nat)) : List Value := (ms.zip hs).flatMap mcell
/-- Methods at A. -/
def RdMs (w : World) (B : Nat) (A : Option Addr) (ms : List Mth) : Prop :=
  ∃ hs : List (Option Addr × Nat), hs.length = ms.length ∧ Rd w B 4 A ms.length (mthCells ms hs) ∧ ∀ (k : Nat) (m : Mth) (h : Option Addr × Nat), ms[k]? = some m → hs[k]? = some h → Rd w B 4 h.1 m.code.length (icells m.code)
section
variable {w w' : World} {B B' : Nat} {A : Option Addr}
theorem RdMs.keep {ms : List Mth} (h : RdMs w B A ms) (hk : ∀ p : Addr, p.block < B → w'.cell? p = w.cell? p) : RdMs w' B A ms := by
  obtain ⟨hs, h1, h2, h3⟩ := h
  exact ⟨hs, h1, h2.keep hk, fun k m h e1 e2 => (h3 k m h e1 e2).keep hk⟩
theorem RdMs.more {ms : List Mth} (h : RdMs w B A ms) (hB : B ≤ B') : RdMs w B' A ms := by
  obtain ⟨hs, h1, h2, h3⟩ := h
  exact ⟨hs, h1, h2.more hB, fun k m h e1 e2 => (h3 k m h e1 e2).more hB⟩
theorem RdMs.below {C : Nat} {ms : List Mth} (h : RdMs w B A ms) (hb : Below C w w') (hC : B ≤ C) : RdMs w' B A ms := h.keep fun _ hp => hb.cell (Nat.lt_of_lt_of_le hp hC)
theorem ins_at {l : List Ins} (h : Rd w B 4 A l.length (icells l)) {k : Nat} (hk : k < l.length) :
    ∃ b off, A = some ⟨b, off, none⟩ ∧ b < B ∧ w.cell? ⟨b, off + k * 4, none⟩ = some (.int .i64 (l.getD k default).op) ∧ w.cell? ⟨b, off + k * 4 + 1, none⟩ = some (.int .i64 (l.getD k default).a) ∧
      w.cell? ⟨b, off + k * 4 + 2, none⟩ = some (.int .i64 (l.getD k default).b) ∧ w.cell? ⟨b, off + k * 4 + 3, none⟩ = some (.int .i64 (l.getD k default).n) := by
  obtain ⟨b, off, e, hb, hc⟩ := h.2 (by omega)
  have hx : l[k]? = some (l.getD k default) := by simp [hk]
  have key := fun j (hj : j < 4) => flat_at icell 4 (fun _ => rfl) l k j _ hx hj
  exact ⟨b, off, e, hb, hc _ _ (key 0 (by omega)), hc _ _ (key 1 (by omega)), hc _ _ (key 2 (by omega)), hc _ _ (key 3 (by omega))⟩
theorem str_at {l : List ByteArray} (h : Rd w B 1 A l.length (l.map Value.string)) {k : Nat} (hk : k < l.length) :
    ∃ b off, A = some ⟨b, off, none⟩ ∧ b < B ∧ w.cell? ⟨b, off + k, none⟩ = some (.string (l.getD k ⟨#[]⟩)) := by
  obtain ⟨b, off, e, hb, hc⟩ := h.2 (by omega)
  exact ⟨b, off, e, hb, hc _ _ (by simp [hk])⟩
theorem mth_at {ms : List Mth} (h : RdMs w B A ms) {k : Nat} (hk : k < ms.length) :
    ∃ b off Ai ci, A = some ⟨b, off, none⟩ ∧ b < B ∧ w.cell? ⟨b, off + k * 4, none⟩ = some (.string (ms.getD k default).pa) ∧ w.cell? ⟨b, off + k * 4 + 1, none⟩ = some (.string (ms.getD k default).lo) ∧
      w.cell? ⟨b, off + k * 4 + 2, none⟩ = some (.string (ms.getD k default).re) ∧ w.cell? ⟨b, off + k * 4 + 3, none⟩ = some (.slice Ai (ms.getD k default).code.length ci) ∧
      Rd w B 4 Ai (ms.getD k default).code.length (icells (ms.getD k default).code) := by
  obtain ⟨hs, h1, h2, h3⟩ := h
  obtain ⟨b, off, e, hb, hc⟩ := h2.2 (by omega)
  have hx : ms[k]? = some (ms.getD k default) := by simp [hk]
  have hy : hs[k]? = some (hs[k]'(by omega)) := List.getElem?_eq_getElem (by omega)
  have hz : (ms.zip hs)[k]? = some (ms.getD k default, hs[k]'(by omega)) := by
    rw [List.getElem?_zip_eq_some]
    exact ⟨hx, hy⟩
  have key := fun j (hj : j < 4) => flat_at mcell 4 (fun _ => rfl) (ms.zip hs) k j _ hz hj
  exact ⟨b, off, _, _, e, hb, hc _ _ (key 0 (by omega)), hc _ _ (key 1 (by omega)), hc _ _ (key 2 (by omega)), hc _ _ (key 3 (by omega)), h3 k _ _ hx hy⟩
end
/-- Numbers that Go's lengths are. -/
def len63 (n : Nat) : Prop := n ≤ 9223372036854775807
structure MOk (m : Mth) : Prop where
  pa : m.pa.size ≤ 9223372036854775807
  lo : m.lo.size ≤ 9223372036854775807
  re : m.re.size ≤ 9223372036854775807
  code : m.code.length ≤ 9223372036854775807
structure POk (p : Prg) : Prop where
  cl : p.classes.length ≤ 9223372036854775807
  ms : p.methods.length ≤ 9223372036854775807
  fs : ∀ k, k < p.classes.length → (p.classes.getD k ⟨#[]⟩).size ≤ 9223372036854775807
  m : ∀ k, k < p.methods.length → MOk (p.methods.getD k default)
/-- A program's value, and how it lies. -/
abbrev pv (Ac : Option Addr) (cc : Nat) (Am : Option Addr) (cm : Nat) (p : Prg) : Value := .agg #[.slice Ac p.classes.length cc, .slice Am p.methods.length cm]
abbrev mv (A : Option Addr) (c : Nat) (m : Mth) : Value := .agg #[.string m.pa, .string m.lo, .string m.re, .slice A m.code.length c]
abbrev iv (x : Ins) : Value := .agg #[.int .i64 x.op, .int .i64 x.a, .int .i64 x.b, .int .i64 x.n]
structure RdP (w : World) (B : Nat) (Ac Am : Option Addr) (p : Prg) : Prop where
  cl : Rd w B 1 Ac p.classes.length (p.classes.map Value.string)
  ms : RdMs w B Am p.methods
theorem RdP.below {w w' : World} {B C : Nat} {Ac Am : Option Addr} {p : Prg} (h : RdP w B Ac Am p) (hb : Below C w w') (hC : B ≤ C) : RdP w' B Ac Am p := ⟨h.cl.below hb hC, h.ms.below hb hC⟩
theorem RdP.more {w : World} {B B' : Nat} {Ac Am : Option Addr} {p : Prg} (h : RdP w B Ac Am p) (hB : B ≤ B') : RdP w B' Ac Am p := ⟨h.cl.more hB, h.ms.more hB⟩

/-! ### small functions -/
theorem ret_tup3 {a b c a' b' c' : Bool} (h1 : a = a') (h2 : b = b') (h3 : c = c') : Ending.returned (.tuple #[.bool a, .bool b, .bool c]) = .returned (.tuple #[.bool a', .bool b', .bool c']) := by rw [h1, h2, h3]
def IndexPost (w : World) (l : List Int) (x : Int) (e : Ending) (w' : World) : Prop := ∃ r : Int, e = .returned (.int .i64 r) ∧ decide (0 ≤ r) = decide (x ∈ l) ∧ w = w'
set_option maxHeartbeats 400000 in
theorem index_any (w : World) {B : Nat} {A : Option Addr} {n c : Nat} {l : List Int} (hr : Rd w B 1 A n (ints l)) (hn : n ≤ 9223372036854775807) (x : Int) :
    Calls Tryz.prog 47 #[.slice A n c, .int .i64 x] w (IndexPost w l x) := by
  have hll : l.length = n := by simpa [ints] using hr.1
  have Hll := Lib.hid hll
  clear hll
  go_enter Tryz.func47, Tryz.ntmps47
  go_wp2
  go_loop [8] (fun i => ∃ k : Nat, k ≤ n ∧ i = .int .i64 k ∧ ∀ j, j < k → l[j]?.getD 0 ≠ x) (fun i => n - (intOf i).toNat)
  case atStart => exact ⟨0, Nat.zero_le _, rfl, fun j hj => by omega⟩
  case round =>
    obtain ⟨k, hk, rfl, hno⟩ := hrel
    have Hno := Lib.hid hno
    clear hno
    by_cases hlt : k < n
    · obtain ⟨b, off, rfl, hbl, c1⟩ := ints_at hr hlt
      have k0 : (0 : Int) ≤ k := by omega
      have k1 : (k : Int) < n := by omega
      go_wp2
      · have e : x = l[k]?.getD 0 := by simpa using (show (x == l[k]?.getD 0) = true by assumption)
        go_ret
        have hk2 : k < l.length := by rw [Hll.out]; exact hlt
        refine ⟨k, rfl, ?_, rfl⟩
        rw [List.getElem?_eq_getElem hk2] at e
        rw [decide_eq_true k0, decide_eq_true]
        rw [e]
        exact List.getElem_mem hk2
      · have e : ¬ x = l[k]?.getD 0 := by simpa using (show (x == l[k]?.getD 0) = false by assumption)
        go_round
        case rel => exact ⟨k + 1, by omega, by go_num, fun j hj => by
          by_cases h : j = k
          · subst h; exact fun e' => e e'.symm
          · exact Hno.out j (by omega)⟩
        case measure => simp [intOf]; omega
    · have e : k = n := by omega
      go_wp2
      go_ret
      refine ⟨-1, rfl, ?_, rfl⟩
      rw [decide_eq_false (by omega), decide_eq_false]
      intro hx
      obtain ⟨j, hj, he⟩ := List.mem_iff_getElem.1 hx
      have := Hno.out j (by rw [e, ← Hll.out]; exact hj)
      rw [List.getElem?_eq_getElem hj] at this
      exact this he
theorem contains_any (w : World) {B : Nat} {A : Option Addr} {n c : Nat} {l : List Int} (hr : Rd w B 1 A n (ints l)) (hn : n ≤ 9223372036854775807) (x : Int) :
    Calls Tryz.prog 28 #[.slice A n c, .int .i64 x] w fun e w' => e = .returned (.bool (decide (x ∈ l))) ∧ w = w' := by
  go_enter Tryz.func28, Tryz.ntmps28
  go_wp2_with fail
  refine (index_any _ hr hn x).mono ?_
  rintro e w' ⟨r, rfl, hr, rfl⟩
  have Hr := Lib.hid hr
  clear hr
  go_wp2
  go_ret
  exact ⟨ret_bool Hr.out, rfl⟩

theorem in_any (i : Int) (n : Nat) (w : World) : Calls Tryz.prog 33 #[.int .i64 i, .int .i64 n] w fun e w' => e = .returned (.bool (inB i n)) ∧ w = w' := by
  have e : inB i n = (decide (0 ≤ i) && decide (i < n)) := rfl
  have He := Lib.hid e
  clear e
  by_cases h : 0 ≤ i
  · go_enter Tryz.func33, Tryz.ntmps33
    go_wp2
    go_ret
    exact ⟨ret_bool (by rw [He.out]; simp [h]), rfl⟩
  · go_enter Tryz.func33, Tryz.ntmps33
    go_wp2
    go_ret
    exact ⟨ret_bool (by rw [He.out, decide_eq_false (by omega)]; rfl), rfl⟩

theorem info256 : (Tryz.prog.info? (lays160_ren.t 116)).map (fun i => (i.zero, i.size)) = some (some (.agg (Array.replicate 256 (.bool false))), 256) := by kernel_rfl
theorem dw_nil {α : Type} (p : α → Bool) : ∀ l : List α, l.dropWhile p = [] ↔ ∀ x ∈ l, p x = true
  | [] => by simp
  | x :: r => by
    rw [List.dropWhile_cons]
    by_cases h : p x = true
    · rw [if_pos h, dw_nil p r]; simp [h]
    · rw [if_neg h]; simp [h]
theorem trim_all (l : List UInt8) : Lib.trimS l [73, 82] = [] ↔ l.all (fun c => c == 73 || c == 82) = true := by
  have hc : (fun c : UInt8 => [73, 82].contains c) = fun c => c == 73 || c == 82 := by
    funext c
    rw [Bool.eq_iff_iff]
    simp
  unfold Lib.trimS Lib.trimLeftS Lib.trimRightS
  rw [hc]
  constructor
  · intro h
    rw [dw_nil] at h
    rw [List.all_eq_true]
    by_cases h0 : l.reverse.dropWhile (fun c => c == 73 || c == 82) = []
    · rw [dw_nil] at h0
      exact fun x hx => h0 x (List.mem_reverse.2 hx)
    · have h1 := List.head_dropWhile_not (fun c : UInt8 => c == 73 || c == 82) h0
      have h2 := h ((l.reverse.dropWhile (fun c => c == 73 || c == 82)).head h0) (List.mem_reverse.2 (List.head_mem h0))
      rw [h2] at h1
      cases h1
  · intro h
    have : l.reverse.dropWhile (fun c => c == 73 || c == 82) = [] := by
      rw [dw_nil]
      rw [List.all_eq_true] at h
      exact fun x hx => h x (List.mem_reverse.1 hx)
    rw [this]
    rfl
theorem letters_any (s : ByteArray) (w : World) (hs : s.size ≤ 9223372036854775807) :
    Calls Tryz.prog 41 #[.string s] w fun e w' => e = .returned (.bool (lettersB s)) ∧ Below w.heap.size w w' := by
  have ht := fun w => Any.strings_Trim_laid lays160 info256 s ⟨#[73, 82]⟩ w hs (by decide) (ascii_of_all (by decide))
  have Ht := Lib.hid ht
  clear ht
  go_enter Tryz.func41, Tryz.ntmps41
  go_wp2_with fail
  refine (Ht.out _).mono ?_
  rintro e w1 ⟨rfl, hb⟩
  go_wp2
  go_ret
  refine ⟨ret_bool ?_, hb⟩
  rw [Bool.eq_iff_iff, List.isEmpty_iff]
  exact trim_all _

theorem opsA_rd (w : World) : Rd (w.alloc (.cells #[.int .i64 3, .int .i64 4, .int .i64 22, .int .i64 23, .int .i64 24, .int .i64 25, .int .i64 26, .int .i64 27, .int .i64 28, .int .i64 29, .int .i64 30, .int .i64 32] 3)) (w.heap.size + 1) 1 (some ⟨w.heap.size, 0, none⟩) 12 (ints opsA) := Blk.rd (Blk.new w 3 ⟨ints opsA⟩) rfl (Nat.lt_succ_self _)
set_option maxHeartbeats 400000 in
theorem uses_any (op : Int) (w : World) : Calls Tryz.prog 53 #[.int .i64 op] w fun e w' => e = .returned (.tuple #[.bool (usesA op), .bool (usesB op), .bool (decide (op = 1))]) ∧ Below w.heap.size w w' := by
  have hrd := opsA_rd w
  have hb : Below w.heap.size w (w.alloc (.cells #[.int .i64 3, .int .i64 4, .int .i64 22, .int .i64 23, .int .i64 24, .int .i64 25, .int .i64 26, .int .i64 27, .int .i64 28, .int .i64 29, .int .i64 30, .int .i64 32] 3)) := (Below.refl _ _).alloc (Nat.le_refl _) _
  by_cases h25 : op = 25
  · subst h25
    go_enter Tryz.func53, Tryz.ntmps53
    go_wp2_with fail
    refine (contains_any _ hrd (by omega) _).mono ?_
    rintro e w1 ⟨rfl, rfl⟩
    go_wp2
    go_ret3
    exact ⟨rfl, hb⟩
  · go_enter Tryz.func53, Tryz.ntmps53
    go_wp2_with fail
    refine (contains_any _ hrd (by omega) _).mono ?_
    rintro e w1 ⟨rfl, rfl⟩
    go_wp2
    go_ret3
    exact ⟨ret_tup3 rfl (by rw [Bool.eq_iff_iff]; simp [usesB, h25]) (by rw [Bool.eq_iff_iff]; simp), hb⟩

theorem kinds_any (A : Option Addr) (c : Nat) (m : Mth) (w : World) (hm : m.pa.size + m.lo.size ≤ 1000) :
    Calls Tryz.prog 15 #[mv A c m] w fun e w' => e = .returned (.string (m.pa ++ m.lo)) ∧ Below w.heap.size w w' := by
  go_enter Tryz.func15, Tryz.ntmps15
  have hk : ¬ 9223372036854775807 < m.pa.size + m.lo.size := by omega
  go_wp2
  go_ret
  exact ⟨rfl, (Below.refl _ _).alloc (Nat.le_refl _) _⟩

def kindB (m : Mth) (first : Bool) : Bool := decide (lettersB m.pa = false ∨ lettersB m.lo = false ∨ retOk m.re = false ∨ first = true ∧ (m.pa.toList ≠ [] ∨ m.re.toList = [82]))
def manyB (m : Mth) : Bool := decide (12 < m.pa.size + m.lo.size ∨ m.code.length = 0 ∨ 120 < m.code.length)
set_option maxRecDepth 100000 in
set_option maxHeartbeats 1000000 in
theorem head_any (a : Nat → Addr) (B : Nat) (w : World) (h : Sent w B all14 a) (hB : B ≤ w.heap.size) (A : Option Addr) (c : Nat) (m : Mth) (hm : MOk m) (first : Bool) :
    Calls Tryz.prog 42 #[mv A c m, .bool first] w fun e w' => e = .returned (errV a (headBad m first)) ∧ Below w.heap.size w w' := by
  have h1 := hm.pa
  have h2 := hm.lo
  have h3 := hm.re
  have h4 := hm.code
  have g1 := fun o => h.cellA hB (k := 1) (by decide) o
  have g2 := fun o => h.cellA hB (k := 2) (by decide) o
  simp only [gOf, sent] at g1 g2
  have G1 := Lib.hid g1
  have G2 := Lib.hid g2
  clear g1 g2
  go_enter Tryz.func42, Tryz.ntmps42
  go_upto_region 1 with (fail)
  go_cut [5] from 6 to 18 (fun v wx => v = .bool (retOk m.re) ∧ wx = w.alloc (.cells #[.string m.pa, .string m.lo, .string m.re, .slice A m.code.length c] 39))
  case first =>
    go_wp2
    all_goals
      go_meet
      refine ⟨?_, rfl⟩
      simp [retOk, *]
  case rest =>
    obtain ⟨rfl, hwx⟩ := hcut
    subst hwx
    go_upto_region 2 with (fail)
    go_cut [19] from 20 to 45 (fun v wx => v = .bool (manyB m) ∧ wx = w.alloc (.cells #[.string m.pa, .string m.lo, .string m.re, .slice A m.code.length c] 39))
    case first =>
      go_wp2
      all_goals
        go_meet
        refine ⟨congrArg Value.bool ?_, by first | rfl | simp [*]⟩
        rw [Bool.eq_iff_iff]
        simp [manyB, *] <;> omega
    case rest =>
      obtain ⟨rfl, hwx⟩ := hcut
      subst hwx
      cases hmany : manyB m with
      | true =>
        have c1 := G1.out
        go_wp2
        go_ret
        have hh : headBad m first = 1 := by unfold headBad; rw [if_pos (of_decide_eq_true hmany)]
        exact ⟨by rw [hh]; rfl, (Below.refl _ _).alloc (Nat.le_refl _) _⟩
      | false =>
        have hh : headBad m first = if kindB m first then 2 else 0 := by
          unfold headBad kindB
          rw [if_neg (of_decide_eq_false hmany)]
          simp only [decide_eq_true_eq]
        have Hh := Lib.hid hh
        clear hh hmany
        have hl1 := fun W => letters_any m.pa W h1
        have hl2 := fun W => letters_any m.lo W h2
        have Hl1 := Lib.hid hl1
        have Hl2 := Lib.hid hl2
        clear hl1 hl2
        have Hk := Lib.hid (show kindB m first = (!lettersB m.pa || !lettersB m.lo || !retOk m.re || first && (!m.pa.toList.isEmpty || m.re.toList == [82])) by rw [Bool.eq_iff_iff]; simp [kindB, or_assoc])
        have hw0 : Below w.heap.size w (w.alloc (.cells #[.string m.pa, .string m.lo, .string m.re, .slice A m.code.length c] 39)) := (Below.refl _ _).alloc (Nat.le_refl _) _
        generalize retOk m.re = ro at *
        go_upto_region 4 with (fail)
        go_cut [47] from 48 to 74 (fun v wx => v = .bool (kindB m first) ∧ Below w.heap.size w wx)
        case first =>
          cases hlp : lettersB m.pa with
          | false =>
            rw [hlp] at Hl1 Hk
            clear hlp
            go_wp2_with fail
            refine (Hl1.out _).mono ?_
            rintro e w1 ⟨rfl, hb1⟩
            go_wp2
            go_meet
            exact ⟨by rw [Hk.out]; rfl, hw0.trans (hb1.mono (by simp))⟩
          | true =>
            rw [hlp] at Hl1 Hk
            clear hlp
            go_wp2_with fail
            refine (Hl1.out _).mono ?_
            rintro e w1 ⟨rfl, hb1⟩
            obtain ⟨hc1, hf1⟩ := bcell hb1
            have hw1 := hw0.trans (hb1.mono (by simp))
            have hz1 : w.heap.size < w1.heap.size := by have := hb1.size; simp at this; omega
            cases hll : lettersB m.lo with
            | false =>
              rw [hll] at Hl2 Hk
              clear hll
              go_wp2_with fail
              refine (Hl2.out _).mono ?_
              rintro e w2 ⟨rfl, hb2⟩
              go_wp2
              go_meet
              exact ⟨by rw [Hk.out]; rfl, hw1.trans (hb2.mono hw1.size)⟩
            | true =>
              rw [hll] at Hl2 Hk
              clear hll
              go_wp2_with fail
              refine (Hl2.out _).mono ?_
              rintro e w2 ⟨rfl, hb2⟩
              have hw2 := hw1.trans (hb2.mono hw1.size)
              have hB2 := ((Blk.new w 39 #[.string m.pa, .string m.lo, .string m.re, .slice A m.code.length c]).below hb1 (by simp)).below hb2 hz1
              have q0 := hB2.at0
              have q1 := hB2.at1
              have q2 := hB2.at2
              clear hc1 hf1
              cases ro with
              | false =>
                go_wp2
                go_meet
                exact ⟨by rw [Hk.out]; rfl, hw2⟩
              | true =>
                cases first with
                | false =>
                  go_wp2
                  go_meet
                  exact ⟨by rw [Hk.out]; rfl, hw2⟩
                | true =>
                  go_wp2
                  all_goals
                    go_meet
                    refine ⟨congrArg Value.bool ?_, hw2⟩
                    rw [Hk.out]
                    simp [*]
        case rest =>
          obtain ⟨rfl, hwx⟩ := hcut
          cases hk : kindB m first with
          | true =>
            rw [hk] at Hh
            have c2 := (h.below hwx hB).cell 2 (by decide)
            have c3 := c2.2
            clear c2
            simp only [gOf, sent] at c3
            go_wp2
            go_ret
            exact ⟨by rw [Hh.out]; rfl, hwx⟩
          | false =>
            rw [hk] at Hh
            go_wp2
            go_ret
            exact ⟨by rw [Hh.out]; rfl, hwx⟩
end Go.Proofs.YtcmlfaikdegbfaaGreatDoor
