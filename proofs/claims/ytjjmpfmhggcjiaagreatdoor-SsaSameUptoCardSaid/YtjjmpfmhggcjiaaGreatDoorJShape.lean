/-
 Pg, Err, Trim, PgRd, Shape, Sorted.
-/
import Derived.RegionTactic
import Derived.ChangeAlike
import Derived.Shelf.Strings.SlTrimAscii
import Derived.Test.YtjjmpfmhggcjiaaGreatDoorProg
import Derived.Deep.DeepCutAuto
import Derived.Deep.RegionLaw
import Derived.Deep.OwnRows
import Derived.Deep.CutBlock
import Derived.IntWalk
import Derived.Deep.Onto
import Derived.Test.YtjjmpfmhggcjiaaGreatDoorJSee2
set_option linter.unusedSimpArgs false
set_option linter.unusedVariables false
namespace Go.Proofs.YtjjmpfmhggcjiaaGreatDoor
/-! ### the first of many -/
def firstOf {α : Type} (f : Nat → Option α) (n : Nat) : Option α := (List.range n).findSome? f
theorem firstOf_none {α : Type} {f : Nat → Option α} {n : Nat} (h : ∀ j, j < n → f j = none) : firstOf f n = none := by
 unfold firstOf
 rw [List.findSome?_eq_none_iff]
 intro x hx
 exact h x (List.mem_range.1 hx)
theorem firstOf_some {α : Type} {f : Nat → Option α} {n k : Nat} {x : α} (hk : k < n) (h : ∀ j, j < k → f j = none) (hx : f k = some x) : firstOf f n = some x := by
 unfold firstOf
 obtain ⟨m, rfl⟩ : ∃ m, n = k + 1 + m := ⟨n - (k + 1), by omega⟩
 have e : List.range (k + 1 + m) = List.range k ++ (k :: (List.range m).map fun i => k + 1 + i) := by
  rw [List.range_add, List.range_succ, List.append_assoc]
  rfl
 rw [e, List.findSome?_append]
 have h0 : List.findSome? f (List.range k) = none := by
  rw [List.findSome?_eq_none_iff]
  intro x hx
  exact h x (List.mem_range.1 hx)
 rw [h0]
 simp [hx]
/-! ### programs -/
/-- An instruction; a method; a program. -/
structure Ins where
 op : Int
 a : Int
 b : Int
 n : Int
deriving DecidableEq, Inhabited
structure Mth where
 pa : ByteArray
 lo : ByteArray
 re : ByteArray
 code : List Ins
instance : Inhabited Mth := ⟨⟨⟨#[]⟩, ⟨#[]⟩, ⟨#[]⟩, []⟩⟩
structure Prg where
 classes : List ByteArray
 methods : List Mth
def lettersB (s : ByteArray) : Bool := s.data.toList.all fun c => c == 73 || c == 82
def inB (i : Int) (n : Nat) : Bool := decide (0 ≤ i) && decide (i < n)
def opsA : List Int := [3, 4, 22, 23, 24, 25, 26, 27, 28, 29, 30, 32]
def usesA (op : Int) : Bool := decide (op ∈ opsA)
def usesB (op : Int) : Bool := decide (op = 25 ∨ op = 26)
/-- What is amiss with an instruction: 0, or a sentinel's number. -/
def insBad (cl : List ByteArray) (nm : Nat) (locals codes : Nat) (x : Ins) : Nat :=
 if x.op < 1 ∨ 35 < x.op then 2
 else if (x.op = 22 ∨ x.op = 23) ∧ inB x.a codes = false then 4
 else if (x.op = 3 ∨ x.op = 4) ∧ inB x.a locals = false then 3
 else if (x.op = 24 ∨ x.op = 27 ∨ x.op = 25 ∨ x.op = 26) ∧ inB x.a cl.length = false then 3
 else if (x.op = 25 ∨ x.op = 26) ∧ inB x.b (cl.getD x.a.toNat ⟨#[]⟩).size = false then 3
 else if (x.op = 28 ∨ x.op = 29 ∨ x.op = 30) ∧ inB x.a 2 = false then 3
 else if x.op = 32 ∧ (x.a ≤ 0 ∨ inB x.a nm = false) then 3
 else if usesA x.op = false ∧ x.a ≠ 0 ∨ usesB x.op = false ∧ x.b ≠ 0 ∨ x.op ≠ 1 ∧ x.n ≠ 0 then 3
 else 0
def retOk (s : ByteArray) : Bool := s.toList.isEmpty || s.toList == [73] || s.toList == [82]
/-- What is amiss with a method, but for its instructions. -/
def headBad (m : Mth) (first : Bool) : Nat :=
 if 12 < m.pa.size + m.lo.size ∨ m.code.length = 0 ∨ 120 < m.code.length then 1
 else if lettersB m.pa = false ∨ lettersB m.lo = false ∨ retOk m.re = false ∨ first = true ∧ (m.pa.toList ≠ [] ∨ m.re.toList = [82]) then 2
 else 0
/-- A fault: 0, or a sentinel's number; where. -/
abbrev Flt := Nat × List Int
def some_ (k : Nat) (at_ : List Int) : Option Flt := if k = 0 then none else some (k, at_)
def clsBad (p : Prg) (i : Nat) : Option Flt :=
 let f := p.classes.getD i ⟨#[]⟩
 some_ (if 10 < f.size then 1 else if lettersB f = false then 2 else 0) [i, -1]
def codeBad (p : Prg) (m : Mth) (i pc : Nat) : Option Flt := some_ (insBad p.classes p.methods.length (m.pa.size + m.lo.size) m.code.length (m.code.getD pc default)) [i, pc]
def mthBad (p : Prg) (i : Nat) : Option Flt :=
 let m := p.methods.getD i default
 (some_ (headBad m (decide (i = 0))) [i, -1]).or (firstOf (codeBad p m i) m.code.length)
def mayP (p : Prg) : Flt :=
 if 12 < p.classes.length ∨ p.methods.length = 0 ∨ 12 < p.methods.length then (1, [])
 else ((firstOf (clsBad p) p.classes.length).or (firstOf (mthBad p) p.methods.length)).getD (0, [])
end Go.Proofs.YtjjmpfmhggcjiaaGreatDoor
namespace Go.Proofs.YtjjmpfmhggcjiaaGreatDoor
open Go.RowKit Go.Maps
def whereV (b : Nat) : Value := .iface 97 (.pointer (some ⟨b, 0, none⟩))
/-- The error value v stands for the fault. -/
inductive ErrV (a : Nat → Addr) (w : World) : Value → Flt → Prop
 | nil : ErrV a w .nilIface (0, [])
 | bare (k : Nat) (h : k + 1 ∈ all14) : ErrV a w (sent (a (k + 1))) (k + 1, [])
 | there (k : Nat) (m pc : Int) (b : Nat) (h : k + 1 ∈ all14) (hb : Blk w b 99 #[.int .i64 m, .int .i64 pc, sent (a (k + 1))]) : ErrV a w (whereV b) (k + 1, [m, pc])
end Go.Proofs.YtjjmpfmhggcjiaaGreatDoor
namespace Go.Proofs.YtjjmpfmhggcjiaaGreatDoor
open Go.Shelf
def lays160_ren : Go.Shelf.Ren := ⟨fun | 160 => 115 | 232 => 158 | 231 => 157 | 227 => 159 | 234 => 161 | 233 => 160 | 236 => 163 | 235 => 162 | 228 => 191 | 271 => 193 | 151 => 192 | 197 => 183 | 120 => 220 | 152 => 219 | 260 => 212 | 137 => 235 | 119 => 216 | 224 => 236 | 225 => 237 | 217 => 245 | 266 => 254 | n => n, fun | 9 => 9 | 4 => 4 | 3 => 3 | 5 => 5 | 117 => 239 | 116 => 238 | 0 => 0 | 124 => 242 | 21 => 21 | 105 => 263 | 46 => 248 | 119 => 307 | 139 => 310 | 138 => 309 | n => n, fun | 3 => 15 | 4 => 16 | n => n⟩
theorem lays160 : Go.Proofs.Lays.n160 Tryz.prog lays160_ren := {
 mixed := by kernel_rfl
 f119 := Tryz.func216.trans (congrArg some (by kernel_rfl))
 f120 := Tryz.func220.trans (congrArg some (by kernel_rfl))
 f137 := Tryz.func235.trans (congrArg some (by kernel_rfl))
 f151 := Tryz.func192.trans (congrArg some (by kernel_rfl))
 f152 := Tryz.func219.trans (congrArg some (by kernel_rfl))
 f160 := Tryz.func115.trans (congrArg some (by kernel_rfl))
 f197 := Tryz.func183.trans (congrArg some (by kernel_rfl))
 f217 := Tryz.func245.trans (congrArg some (by kernel_rfl))
 f224 := Tryz.func236.trans (congrArg some (by kernel_rfl))
 f225 := Tryz.func237.trans (congrArg some (by kernel_rfl))
 f227 := Tryz.func159.trans (congrArg some (by kernel_rfl))
 f228 := Tryz.func191.trans (congrArg some (by kernel_rfl))
 f231 := Tryz.func157.trans (congrArg some (by kernel_rfl))
 f232 := Tryz.func158.trans (congrArg some (by kernel_rfl))
 f233 := Tryz.func160.trans (congrArg some (by kernel_rfl))
 f234 := Tryz.func161.trans (congrArg some (by kernel_rfl))
 f235 := Tryz.func162.trans (congrArg some (by kernel_rfl))
 f236 := Tryz.func163.trans (congrArg some (by kernel_rfl))
 f260 := Tryz.func212.trans (congrArg some (by kernel_rfl))
 f266 := Tryz.func254.trans (congrArg some (by kernel_rfl))
 f271 := Tryz.func193.trans (congrArg some (by kernel_rfl))
 t0 := Tryz.underlying0
 a0 := Tryz.isAgg0
 z0 := Tryz.sizeOf0
 v0 := Tryz.zeroValue0
 t3 := Tryz.underlying3
 a3 := Tryz.isAgg3
 z3 := Tryz.sizeOf3
 v3 := Tryz.zeroValue3
 t4 := Tryz.underlying4
 a4 := Tryz.isAgg4
 z4 := Tryz.sizeOf4
 v4 := Tryz.zeroValue4
 t5 := Tryz.underlying5
 a5 := Tryz.isAgg5
 z5 := Tryz.sizeOf5
 v5 := Tryz.zeroValue5
 t9 := Tryz.underlying9
 a9 := Tryz.isAgg9
 z9 := Tryz.sizeOf9
 v9 := Tryz.zeroValue9
 t21 := Tryz.underlying21
 a21 := Tryz.isAgg21
 z21 := Tryz.sizeOf21
 v21 := Tryz.zeroValue21
 t46 := Tryz.underlying248
 a46 := Tryz.isAgg248
 z46 := Tryz.sizeOf248
 v46 := Tryz.zeroValue248
 t105 := Tryz.underlying263
 a105 := Tryz.isAgg263
 z105 := Tryz.sizeOf263
 v105 := Tryz.zeroValue263
 t116 := Tryz.underlying238
 a116 := Tryz.isAgg238
 z116 := Tryz.sizeOf238
 t117 := Tryz.underlying239
 a117 := Tryz.isAgg239
 z117 := Tryz.sizeOf239
 v117 := Tryz.zeroValue239
 t119 := Tryz.underlying307
 a119 := Tryz.isAgg307
 z119 := Tryz.sizeOf307
 t124 := Tryz.underlying242
 a124 := Tryz.isAgg242
 z124 := Tryz.sizeOf242
 v124 := Tryz.zeroValue242
 t138 := Tryz.underlying309
 a138 := Tryz.isAgg309
 z138 := Tryz.sizeOf309
 v138 := Tryz.zeroValue309
 t139 := Tryz.underlying310
 a139 := Tryz.isAgg310
 z139 := Tryz.sizeOf310
 v139 := Tryz.zeroValue310
 g3 := by kernel_rfl
 g4 := by kernel_rfl }
end Go.Proofs.YtjjmpfmhggcjiaaGreatDoor
namespace Go.Proofs.YtjjmpfmhggcjiaaGreatDoor
open Go.RowKit Go.Maps
/-! ### rows of rows -/
theorem flat_len {α : Type} (g : α → List Value) (s : Nat) (hg : ∀ x, (g x).length = s) : ∀ l : List α, (l.flatMap g).length = l.length * s
 | [] => by simp
 | x :: r => by rw [List.flatMap_cons, List.length_append, hg, flat_len g s hg r, List.length_cons, Nat.succ_mul]; omega
theorem flat_at {α : Type} (g : α → List Value) (s : Nat) (hg : ∀ x, (g x).length = s) : ∀ (l : List α) (k j : Nat) (x : α), l[k]? = some x → j < s → (l.flatMap g)[k * s + j]? = (g x)[j]?
 | [], k, j, x, h, _ => by simp at h
 | y :: r, 0, j, x, h, hj => by
   simp at h
   subst h
   rw [List.flatMap_cons, Nat.zero_mul, Nat.zero_add, List.getElem?_append_left (by rw [hg]; exact hj)]
 | y :: r, k + 1, j, x, h, hj => by
   have := flat_at g s hg r k j x (by simpa using h) hj
   rw [List.flatMap_cons, Nat.succ_mul, List.getElem?_append_right (by rw [hg]; omega), hg, ← this]
   congr 1
   omega
def icell (x : Ins) : List Value := [.int .i64 x.op, .int .i64 x.a, .int .i64 x.b, .int .i64 x.n]
def icells (l : List Ins) : List Value := l.flatMap icell
def mcell (x : Mth × (Option Addr × Nat)) : List Value := [.string x.1.pa, .string x.1.lo, .string x.1.re, .slice x.2.1 x.1.code.length x.2.2]
def mthCells (ms : List Mth) (hs : List (Option Addr × Nat)) : List Value := (ms.zip hs).flatMap mcell
/-- Methods at A. -/
def RdMs (w : World) (B : Nat) (A : Option Addr) (ms : List Mth) : Prop :=
 ∃ hs : List (Option Addr × Nat), hs.length = ms.length ∧ Rd w B 4 A ms.length (mthCells ms hs) ∧ ∀ (k : Nat) (m : Mth) (h : Option Addr × Nat), ms[k]? = some m → hs[k]? = some h → Rd w B 4 h.1 m.code.length (icells m.code)
section
variable {w w' : World} {B B' : Nat} {A : Option Addr}
theorem RdMs.keep {ms : List Mth} (h : RdMs w B A ms) (hk : ∀ p : Addr, p.block < B → w'.cell? p = w.cell? p) : RdMs w' B A ms := by
 obtain ⟨hs, h1, h2, h3⟩ := h
 exact ⟨hs, h1, h2.keep hk, fun k m h e1 e2 => (h3 k m h e1 e2).keep hk⟩
theorem RdMs.more {ms : List Mth} (h : RdMs w B A ms) (hB : B ≤ B') : RdMs w B' A ms := by
 obtain ⟨hs, h1, h2, h3⟩ := h
 exact ⟨hs, h1, h2.more hB, fun k m h e1 e2 => (h3 k m h e1 e2).more hB⟩
theorem RdMs.below {C : Nat} {ms : List Mth} (h : RdMs w B A ms) (hb : Below C w w') (hC : B ≤ C) : RdMs w' B A ms := h.keep fun _ hp => hb.cell (Nat.lt_of_lt_of_le hp hC)
theorem ins_at {l : List Ins} (h : Rd w B 4 A l.length (icells l)) {k : Nat} (hk : k < l.length) :
 ∃ b off, A = some ⟨b, off, none⟩ ∧ b < B ∧ w.cell? ⟨b, off + k * 4, none⟩ = some (.int .i64 (l.getD k default).op) ∧ w.cell? ⟨b, off + k * 4 + 1, none⟩ = some (.int .i64 (l.getD k default).a) ∧
  w.cell? ⟨b, off + k * 4 + 2, none⟩ = some (.int .i64 (l.getD k default).b) ∧ w.cell? ⟨b, off + k * 4 + 3, none⟩ = some (.int .i64 (l.getD k default).n) := by
 obtain ⟨b, off, e, hb, hc⟩ := h.2 (by omega)
 have hx : l[k]? = some (l.getD k default) := by simp [hk]
 have key := fun j (hj : j < 4) => flat_at icell 4 (fun _ => rfl) l k j _ hx hj
 exact ⟨b, off, e, hb, hc _ _ (key 0 (by omega)), hc _ _ (key 1 (by omega)), hc _ _ (key 2 (by omega)), hc _ _ (key 3 (by omega))⟩
theorem str_at {l : List ByteArray} (h : Rd w B 1 A l.length (l.map Value.string)) {k : Nat} (hk : k < l.length) :
 ∃ b off, A = some ⟨b, off, none⟩ ∧ b < B ∧ w.cell? ⟨b, off + k, none⟩ = some (.string (l.getD k ⟨#[]⟩)) := by
 obtain ⟨b, off, e, hb, hc⟩ := h.2 (by omega)
 exact ⟨b, off, e, hb, hc _ _ (by simp [hk])⟩
theorem mth_at {ms : List Mth} (h : RdMs w B A ms) {k : Nat} (hk : k < ms.length) :
 ∃ b off Ai ci, A = some ⟨b, off, none⟩ ∧ b < B ∧ w.cell? ⟨b, off + k * 4, none⟩ = some (.string (ms.getD k default).pa) ∧ w.cell? ⟨b, off + k * 4 + 1, none⟩ = some (.string (ms.getD k default).lo) ∧
  w.cell? ⟨b, off + k * 4 + 2, none⟩ = some (.string (ms.getD k default).re) ∧ w.cell? ⟨b, off + k * 4 + 3, none⟩ = some (.slice Ai (ms.getD k default).code.length ci) ∧
  Rd w B 4 Ai (ms.getD k default).code.length (icells (ms.getD k default).code) := by
 obtain ⟨hs, h1, h2, h3⟩ := h
 obtain ⟨b, off, e, hb, hc⟩ := h2.2 (by omega)
 have hx : ms[k]? = some (ms.getD k default) := by simp [hk]
 have hy : hs[k]? = some (hs[k]'(by omega)) := List.getElem?_eq_getElem (by omega)
 have hz : (ms.zip hs)[k]? = some (ms.getD k default, hs[k]'(by omega)) := by
  rw [List.getElem?_zip_eq_some]
  exact ⟨hx, hy⟩
 have key := fun j (hj : j < 4) => flat_at mcell 4 (fun _ => rfl) (ms.zip hs) k j _ hz hj
 exact ⟨b, off, _, _, e, hb, hc _ _ (key 0 (by omega)), hc _ _ (key 1 (by omega)), hc _ _ (key 2 (by omega)), hc _ _ (key 3 (by omega)), h3 k _ _ hx hy⟩
end
structure MOk (m : Mth) : Prop where
 pa : m.pa.size ≤ 9223372036854775807
 lo : m.lo.size ≤ 9223372036854775807
 re : m.re.size ≤ 9223372036854775807
 code : m.code.length ≤ 9223372036854775807
structure POk (p : Prg) : Prop where
 cl : p.classes.length ≤ 9223372036854775807
 ms : p.methods.length ≤ 9223372036854775807
 fs : ∀ k, k < p.classes.length → (p.classes.getD k ⟨#[]⟩).size ≤ 9223372036854775807
 m : ∀ k, k < p.methods.length → MOk (p.methods.getD k default)
/-- A program's value, and how it lies. -/
abbrev pv (Ac : Option Addr) (cc : Nat) (Am : Option Addr) (cm : Nat) (p : Prg) : Value := .agg #[.slice Ac p.classes.length cc, .slice Am p.methods.length cm]
abbrev mv (A : Option Addr) (c : Nat) (m : Mth) : Value := .agg #[.string m.pa, .string m.lo, .string m.re, .slice A m.code.length c]
abbrev iv (x : Ins) : Value := .agg #[.int .i64 x.op, .int .i64 x.a, .int .i64 x.b, .int .i64 x.n]
structure RdP (w : World) (B : Nat) (Ac Am : Option Addr) (p : Prg) : Prop where
 cl : Rd w B 1 Ac p.classes.length (p.classes.map Value.string)
 ms : RdMs w B Am p.methods
theorem RdP.below {w w' : World} {B C : Nat} {Ac Am : Option Addr} {p : Prg} (h : RdP w B Ac Am p) (hb : Below C w w') (hC : B ≤ C) : RdP w' B Ac Am p := ⟨h.cl.below hb hC, h.ms.below hb hC⟩
theorem RdP.more {w : World} {B B' : Nat} {Ac Am : Option Addr} {p : Prg} (h : RdP w B Ac Am p) (hB : B ≤ B') : RdP w B' Ac Am p := ⟨h.cl.more hB, h.ms.more hB⟩
/-! ### small functions -/
theorem ret_tup3 {a b c a' b' c' : Bool} (h1 : a = a') (h2 : b = b') (h3 : c = c') : Ending.returned (.tuple #[.bool a, .bool b, .bool c]) = .returned (.tuple #[.bool a', .bool b', .bool c']) := by rw [h1, h2, h3]
def IndexPost (w : World) (l : List Int) (x : Int) (e : Ending) (w' : World) : Prop := ∃ r : Int, e = .returned (.int .i64 r) ∧ decide (0 ≤ r) = decide (x ∈ l) ∧ w = w'
set_option maxHeartbeats 400000 in
theorem index_any (w : World) {B : Nat} {A : Option Addr} {n c : Nat} {l : List Int} (hr : Rd w B 1 A n (ints l)) (hn : n ≤ 9223372036854775807) (x : Int) :
 Calls Tryz.prog 132 #[.slice A n c, .int .i64 x] w (IndexPost w l x) := by
 have hll : l.length = n := by simpa [ints] using hr.1
 have Hll := Lib.hid hll
 clear hll
 go_enter Tryz.func132, Tryz.ntmps132
 go_wp2
 go_loop [8] (fun i => ∃ k : Nat, k ≤ n ∧ i = .int .i64 k ∧ ∀ j, j < k → l[j]?.getD 0 ≠ x) (fun i => n - (intOf i).toNat)
 case atStart => exact ⟨0, Nat.zero_le _, rfl, fun j hj => by omega⟩
 case round =>
  obtain ⟨k, hk, rfl, hno⟩ := hrel
  have Hno := Lib.hid hno
  clear hno
  by_cases hlt : k < n
  · obtain ⟨b, off, rfl, hbl, c1⟩ := ints_at hr hlt
    have k0 : (0 : Int) ≤ k := by omega
    have k1 : (k : Int) < n := by omega
    go_wp2
    · have e : x = l[k]?.getD 0 := by simpa using (show (x == l[k]?.getD 0) = true by assumption)
      go_ret
      have hk2 : k < l.length := by rw [Hll.out]; exact hlt
      refine ⟨k, rfl, ?_, rfl⟩
      rw [List.getElem?_eq_getElem hk2] at e
      rw [decide_eq_true k0, decide_eq_true]
      rw [e]
      exact List.getElem_mem hk2
    · have e : ¬ x = l[k]?.getD 0 := by simpa using (show (x == l[k]?.getD 0) = false by assumption)
      go_round
      case rel => exact ⟨k + 1, by omega, by go_num, fun j hj => by
       by_cases h : j = k
       · subst h; exact fun e' => e e'.symm
       · exact Hno.out j (by omega)⟩
      case measure => simp [intOf]; omega
  · have e : k = n := by omega
    go_wp2
    go_ret
    refine ⟨-1, rfl, ?_, rfl⟩
    rw [decide_eq_false (by omega), decide_eq_false]
    intro hx
    obtain ⟨j, hj, he⟩ := List.mem_iff_getElem.1 hx
    have := Hno.out j (by rw [e, ← Hll.out]; exact hj)
    rw [List.getElem?_eq_getElem hj] at this
    exact this he
theorem contains_any (w : World) {B : Nat} {A : Option Addr} {n c : Nat} {l : List Int} (hr : Rd w B 1 A n (ints l)) (hn : n ≤ 9223372036854775807) (x : Int) :
 Calls Tryz.prog 90 #[.slice A n c, .int .i64 x] w fun e w' => e = .returned (.bool (decide (x ∈ l))) ∧ w = w' := by
 go_enter Tryz.func90, Tryz.ntmps90
 go_wp2_with fail
 refine (index_any _ hr hn x).mono ?_
 rintro e w' ⟨r, rfl, hr, rfl⟩
 have Hr := Lib.hid hr
 clear hr
 go_wp2
 go_ret
 exact ⟨ret_bool Hr.out, rfl⟩
theorem in_any (i : Int) (n : Nat) (w : World) : Calls Tryz.prog 116 #[.int .i64 i, .int .i64 n] w fun e w' => e = .returned (.bool (inB i n)) ∧ w = w' := by
 have e : inB i n = (decide (0 ≤ i) && decide (i < n)) := rfl
 have He := Lib.hid e
 clear e
 by_cases h : 0 ≤ i
 · go_enter Tryz.func116, Tryz.ntmps116
   go_wp2
   go_ret
   exact ⟨ret_bool (by rw [He.out]; simp [h]), rfl⟩
 · go_enter Tryz.func116, Tryz.ntmps116
   go_wp2
   go_ret
   exact ⟨ret_bool (by rw [He.out, decide_eq_false (by omega)]; rfl), rfl⟩
theorem info256 : (Tryz.prog.info? (lays160_ren.t 116)).map (fun i => (i.zero, i.size)) = some (some (.agg (Array.replicate 256 (.bool false))), 256) := by kernel_rfl
theorem dw_nil {α : Type} (p : α → Bool) : ∀ l : List α, l.dropWhile p = [] ↔ ∀ x ∈ l, p x = true
 | [] => by simp
 | x :: r => by
   rw [List.dropWhile_cons]
   by_cases h : p x = true
   · rw [if_pos h, dw_nil p r]; simp [h]
   · rw [if_neg h]; simp [h]
theorem trim_all (l : List UInt8) : Lib.trimS l [73, 82] = [] ↔ l.all (fun c => c == 73 || c == 82) = true := by
 have hc : (fun c : UInt8 => [73, 82].contains c) = fun c => c == 73 || c == 82 := by
  funext c
  rw [Bool.eq_iff_iff]
  simp
 unfold Lib.trimS Lib.trimLeftS Lib.trimRightS
 rw [hc]
 constructor
 · intro h
   rw [dw_nil] at h
   rw [List.all_eq_true]
   by_cases h0 : l.reverse.dropWhile (fun c => c == 73 || c == 82) = []
   · rw [dw_nil] at h0
     exact fun x hx => h0 x (List.mem_reverse.2 hx)
   · have h1 := List.head_dropWhile_not (fun c : UInt8 => c == 73 || c == 82) h0
     have h2 := h ((l.reverse.dropWhile (fun c => c == 73 || c == 82)).head h0) (List.mem_reverse.2 (List.head_mem h0))
     rw [h2] at h1
     cases h1
 · intro h
   have : l.reverse.dropWhile (fun c => c == 73 || c == 82) = [] := by
    rw [dw_nil]
    rw [List.all_eq_true] at h
    exact fun x hx => h x (List.mem_reverse.1 hx)
   rw [this]
   rfl
theorem letters_any (s : ByteArray) (w : World) (hs : s.size ≤ 9223372036854775807) :
 Calls Tryz.prog 65 #[.string s] w fun e w' => e = .returned (.bool (lettersB s)) ∧ Below w.heap.size w w' := by
 have ht := fun w => Any.strings_Trim_laid lays160 info256 s ⟨#[73, 82]⟩ w hs (by decide) (ascii_of_all (by decide))
 have Ht := Lib.hid ht
 clear ht
 go_enter Tryz.func65, Tryz.ntmps65
 go_wp2_with fail
 refine (Ht.out _).mono ?_
 rintro e w1 ⟨rfl, hb⟩
 go_wp2
 go_ret
 refine ⟨ret_bool ?_, hb⟩
 rw [Bool.eq_iff_iff, List.isEmpty_iff]
 exact trim_all _
theorem opsA_rd (w : World) : Rd (w.alloc (.cells #[.int .i64 3, .int .i64 4, .int .i64 22, .int .i64 23, .int .i64 24, .int .i64 25, .int .i64 26, .int .i64 27, .int .i64 28, .int .i64 29, .int .i64 30, .int .i64 32] 3)) (w.heap.size + 1) 1 (some ⟨w.heap.size, 0, none⟩) 12 (ints opsA) := Blk.rd (Blk.new w 3 ⟨ints opsA⟩) rfl (Nat.lt_succ_self _)
set_option maxHeartbeats 400000 in
theorem uses_any (op : Int) (w : World) : Calls Tryz.prog 118 #[.int .i64 op] w fun e w' => e = .returned (.tuple #[.bool (usesA op), .bool (usesB op), .bool (decide (op = 1))]) ∧ Below w.heap.size w w' := by
 have hrd := opsA_rd w
 have hb : Below w.heap.size w (w.alloc (.cells #[.int .i64 3, .int .i64 4, .int .i64 22, .int .i64 23, .int .i64 24, .int .i64 25, .int .i64 26, .int .i64 27, .int .i64 28, .int .i64 29, .int .i64 30, .int .i64 32] 3)) := (Below.refl _ _).alloc (Nat.le_refl _) _
 by_cases h25 : op = 25
 · subst h25
   go_enter Tryz.func118, Tryz.ntmps118
   go_wp2_with fail
   refine (contains_any _ hrd (by omega) _).mono ?_
   rintro e w1 ⟨rfl, rfl⟩
   go_wp2
   go_ret3
   exact ⟨rfl, hb⟩
 · go_enter Tryz.func118, Tryz.ntmps118
   go_wp2_with fail
   refine (contains_any _ hrd (by omega) _).mono ?_
   rintro e w1 ⟨rfl, rfl⟩
   go_wp2
   go_ret3
   exact ⟨ret_tup3 rfl (by rw [Bool.eq_iff_iff]; simp [usesB, h25]) (by rw [Bool.eq_iff_iff]; simp), hb⟩
theorem kinds_any (A : Option Addr) (c : Nat) (m : Mth) (w : World) (hm : m.pa.size + m.lo.size ≤ 1000) :
 Calls Tryz.prog 117 #[mv A c m] w fun e w' => e = .returned (.string (m.pa ++ m.lo)) ∧ Below w.heap.size w w' := by
 go_enter Tryz.func117, Tryz.ntmps117
 have hk : ¬ 9223372036854775807 < m.pa.size + m.lo.size := by omega
 go_wp2
 go_ret
 exact ⟨rfl, (Below.refl _ _).alloc (Nat.le_refl _) _⟩
def kindB (m : Mth) (first : Bool) : Bool := decide (lettersB m.pa = false ∨ lettersB m.lo = false ∨ retOk m.re = false ∨ first = true ∧ (m.pa.toList ≠ [] ∨ m.re.toList = [82]))
def manyB (m : Mth) : Bool := decide (12 < m.pa.size + m.lo.size ∨ m.code.length = 0 ∨ 120 < m.code.length)
set_option maxRecDepth 100000 in
set_option maxHeartbeats 1000000 in
theorem head_any (a : Nat → Addr) (B : Nat) (w : World) (h : Sent w B all14 a) (hB : B ≤ w.heap.size) (A : Option Addr) (c : Nat) (m : Mth) (hm : MOk m) (first : Bool) :
 Calls Tryz.prog 66 #[mv A c m, .bool first] w fun e w' => e = .returned (errV a (headBad m first)) ∧ Below w.heap.size w w' := by
 have h1 := hm.pa
 have h2 := hm.lo
 have h3 := hm.re
 have h4 := hm.code
 have g1 := fun o => h.cellA hB (k := 1) (by decide) o
 have g2 := fun o => h.cellA hB (k := 2) (by decide) o
 simp only [gOf, sent] at g1 g2
 have G1 := Lib.hid g1
 have G2 := Lib.hid g2
 clear g1 g2
 go_enter Tryz.func66, Tryz.ntmps66
 go_upto_region 1 with (fail)
 go_cut [5] from 6 to 18 (fun v wx => v = .bool (retOk m.re) ∧ wx = w.alloc (.cells #[.string m.pa, .string m.lo, .string m.re, .slice A m.code.length c] 90))
 case first =>
  go_wp2
  all_goals
   go_meet
   refine ⟨?_, rfl⟩
   simp [retOk, *]
 case rest =>
  obtain ⟨rfl, hwx⟩ := hcut
  subst hwx
  go_upto_region 2 with (fail)
  go_cut [19] from 20 to 45 (fun v wx => v = .bool (manyB m) ∧ wx = w.alloc (.cells #[.string m.pa, .string m.lo, .string m.re, .slice A m.code.length c] 90))
  case first =>
   go_wp2
   all_goals
    go_meet
    refine ⟨congrArg Value.bool ?_, by first | rfl | simp [*]⟩
    rw [Bool.eq_iff_iff]
    simp [manyB, *] <;> omega
  case rest =>
   obtain ⟨rfl, hwx⟩ := hcut
   subst hwx
   cases hmany : manyB m with
   | true =>
     have c1 := G1.out
     go_wp2
     go_ret
     have hh : headBad m first = 1 := by unfold headBad; rw [if_pos (of_decide_eq_true hmany)]
     exact ⟨by rw [hh]; rfl, (Below.refl _ _).alloc (Nat.le_refl _) _⟩
   | false =>
     have hh : headBad m first = if kindB m first then 2 else 0 := by
      unfold headBad kindB
      rw [if_neg (of_decide_eq_false hmany)]
      simp only [decide_eq_true_eq]
     have Hh := Lib.hid hh
     clear hh hmany
     have hl1 := fun W => letters_any m.pa W h1
     have hl2 := fun W => letters_any m.lo W h2
     have Hl1 := Lib.hid hl1
     have Hl2 := Lib.hid hl2
     clear hl1 hl2
     have Hk := Lib.hid (show kindB m first = (!lettersB m.pa || !lettersB m.lo || !retOk m.re || first && (!m.pa.toList.isEmpty || m.re.toList == [82])) by rw [Bool.eq_iff_iff]; simp [kindB, or_assoc])
     have hw0 : Below w.heap.size w (w.alloc (.cells #[.string m.pa, .string m.lo, .string m.re, .slice A m.code.length c] 90)) := (Below.refl _ _).alloc (Nat.le_refl _) _
     generalize retOk m.re = ro at *
     go_upto_region 4 with (fail)
     go_cut [47] from 48 to 74 (fun v wx => v = .bool (kindB m first) ∧ Below w.heap.size w wx)
     case first =>
      cases hlp : lettersB m.pa with
      | false =>
        rw [hlp] at Hl1 Hk
        clear hlp
        go_wp2_with fail
        refine (Hl1.out _).mono ?_
        rintro e w1 ⟨rfl, hb1⟩
        go_wp2
        go_meet
        exact ⟨by rw [Hk.out]; rfl, hw0.trans (hb1.mono (by simp))⟩
      | true =>
        rw [hlp] at Hl1 Hk
        clear hlp
        go_wp2_with fail
        refine (Hl1.out _).mono ?_
        rintro e w1 ⟨rfl, hb1⟩
        obtain ⟨hc1, hf1⟩ := bcell hb1
        have hw1 := hw0.trans (hb1.mono (by simp))
        have hz1 : w.heap.size < w1.heap.size := by have := hb1.size; simp at this; omega
        cases hll : lettersB m.lo with
        | false =>
          rw [hll] at Hl2 Hk
          clear hll
          go_wp2_with fail
          refine (Hl2.out _).mono ?_
          rintro e w2 ⟨rfl, hb2⟩
          go_wp2
          go_meet
          exact ⟨by rw [Hk.out]; rfl, hw1.trans (hb2.mono hw1.size)⟩
        | true =>
          rw [hll] at Hl2 Hk
          clear hll
          go_wp2_with fail
          refine (Hl2.out _).mono ?_
          rintro e w2 ⟨rfl, hb2⟩
          have hw2 := hw1.trans (hb2.mono hw1.size)
          have hB2 := ((Blk.new w 90 #[.string m.pa, .string m.lo, .string m.re, .slice A m.code.length c]).below hb1 (by simp)).below hb2 hz1
          have q0 := hB2.at0
          have q1 := hB2.at1
          have q2 := hB2.at2
          clear hc1 hf1
          cases ro with
          | false =>
            go_wp2
            go_meet
            exact ⟨by rw [Hk.out]; rfl, hw2⟩
          | true =>
            cases first with
            | false =>
              go_wp2
              go_meet
              exact ⟨by rw [Hk.out]; rfl, hw2⟩
            | true =>
              go_wp2
              all_goals
               go_meet
               refine ⟨congrArg Value.bool ?_, hw2⟩
               rw [Hk.out]
               simp [*]
     case rest =>
      obtain ⟨rfl, hwx⟩ := hcut
      cases hk : kindB m first with
      | true =>
        rw [hk] at Hh
        have c2 := (h.below hwx hB).cell 2 (by decide)
        have c3 := c2.2
        clear c2
        simp only [gOf, sent] at c3
        go_wp2
        go_ret
        exact ⟨by rw [Hh.out]; rfl, hwx⟩
      | false =>
        rw [hk] at Hh
        go_wp2
        go_ret
        exact ⟨by rw [Hh.out]; rfl, hwx⟩
end Go.Proofs.YtjjmpfmhggcjiaaGreatDoor
namespace Go.Proofs.YtjjmpfmhggcjiaaGreatDoor
open Go.RowKit Go.Maps
/-- A slice of n elements, of size cells each, at A, in a block of S, holds the cells xs. -/
def RdS (w : World) (S : Nat → Prop) (size : Nat) (A : Option Addr) (n : Nat) (xs : List Value) : Prop :=
 xs.length = n * size ∧ (0 < n → ∃ b off, A = some ⟨b, off, none⟩ ∧ S b ∧ ∀ j u, xs[j]? = some u → w.cell? ⟨b, off + j, none⟩ = some u)
/-- What lies in the blocks of S stays. -/
def Kept (S : Nat → Prop) (w w' : World) : Prop := ∀ p : Addr, S p.block → w'.cell? p = w.cell? p
section
variable {w w' : World} {S S' : Nat → Prop} {B size n : Nat} {A : Option Addr} {xs : List Value}
theorem Kept.refl (S : Nat → Prop) (w : World) : Kept S w w := fun _ _ => rfl
theorem Kept.trans {w2 : World} (h1 : Kept S w w') (h2 : Kept S w' w2) : Kept S w w2 := fun p hp => (h2 p hp).trans (h1 p hp)
theorem Kept.sub (h : Kept S w w') (hs : ∀ b, S' b → S b) : Kept S' w w' := fun p hp => h p (hs _ hp)
theorem Kept.of_below (hb : Below B w w') (hs : ∀ b, S b → b < B) : Kept S w w' := fun _ hp => hb.cell (hs _ hp)
theorem RdS.of_rd (h : Rd w B size A n xs) (hs : ∀ b, b < B → S b) : RdS w S size A n xs :=
 ⟨h.1, fun hn => by
  obtain ⟨b, off, e, hb, hc⟩ := h.2 hn
  exact ⟨b, off, e, hs b hb, hc⟩⟩
theorem RdS.rd (h : RdS w S size A n xs) (hs : ∀ b, S b → b < B) : Rd w B size A n xs :=
 ⟨h.1, fun hn => by
  obtain ⟨b, off, e, hb, hc⟩ := h.2 hn
  exact ⟨b, off, e, hs b hb, hc⟩⟩
theorem RdS.keep (h : RdS w S size A n xs) (hk : Kept S w w') : RdS w' S size A n xs :=
 ⟨h.1, fun hn => by
  obtain ⟨b, off, e, hb, hc⟩ := h.2 hn
  exact ⟨b, off, e, hb, fun j u hu => (hk _ hb).trans (hc j u hu)⟩⟩
theorem RdS.more (h : RdS w S size A n xs) (hs : ∀ b, S b → S' b) : RdS w S' size A n xs :=
 ⟨h.1, fun hn => by
  obtain ⟨b, off, e, hb, hc⟩ := h.2 hn
  exact ⟨b, off, e, hs b hb, hc⟩⟩
theorem RdS.nil (w : World) (S : Nat → Prop) (size : Nat) (A : Option Addr) : RdS w S size A 0 [] := ⟨by simp, fun h => absurd h (by omega)⟩
end
/-- How things of a kind lie: size cells each, with rows of their own. -/
structure Shape (α : Type) where
 size : Nat
 H : Type
 cell : α → H → List Value
 len : ∀ a h, (cell a h).length = size
 inner : (Nat → Prop) → World → α → H → Prop
 keep : ∀ {S : Nat → Prop} {w w' : World} {a : α} {h : H}, inner S w a h → Kept S w w' → inner S w' a h
 more : ∀ {S S' : Nat → Prop} {w : World} {a : α} {h : H}, inner S w a h → (∀ b, S b → S' b) → inner S' w a h
def Shape.cells {α : Type} (s : Shape α) (l : List α) (hs : List s.H) : List Value := (l.zip hs).flatMap fun x => s.cell x.1 x.2
/-- A slice at A that holds these things. -/
def RdL {α : Type} (s : Shape α) (w : World) (S : Nat → Prop) (A : Option Addr) (l : List α) : Prop :=
 ∃ hs : List s.H, hs.length = l.length ∧ RdS w S s.size A l.length (s.cells l hs) ∧ ∀ (k : Nat) (a : α) (h : s.H), l[k]? = some a → hs[k]? = some h → s.inner S w a h
section
variable {α : Type} {s : Shape α} {w w' : World} {S S' : Nat → Prop} {A : Option Addr} {l : List α}
theorem Shape.zip_at {hs : List s.H} (h1 : hs.length = l.length) {k : Nat} {a : α} {h : s.H} (hk : l[k]? = some a) (hh : hs[k]? = some h) {j : Nat} (hj : j < s.size) : (s.cells l hs)[k * s.size + j]? = (s.cell a h)[j]? := by
 have hz : (l.zip hs)[k]? = some (a, h) := by rw [List.getElem?_zip_eq_some]; exact ⟨hk, hh⟩
 exact flat_at (fun x : α × s.H => s.cell x.1 x.2) s.size (fun x => s.len _ _) (l.zip hs) k j _ hz hj
theorem RdL.keep (h : RdL s w S A l) (hk : Kept S w w') : RdL s w' S A l := by
 obtain ⟨hs, h1, h2, h3⟩ := h
 exact ⟨hs, h1, h2.keep hk, fun k a h e1 e2 => s.keep (h3 k a h e1 e2) hk⟩
theorem RdL.more (h : RdL s w S A l) (hs : ∀ b, S b → S' b) : RdL s w S' A l := by
 obtain ⟨hs', h1, h2, h3⟩ := h
 exact ⟨hs', h1, h2.more hs, fun k a h e1 e2 => s.more (h3 k a h e1 e2) hs⟩
theorem RdL.below {B : Nat} (h : RdL s w S A l) (hb : Below B w w') (hs : ∀ b, S b → b < B) : RdL s w' S A l := h.keep (Kept.of_below hb hs)
theorem RdL.nil (s : Shape α) (w : World) (S : Nat → Prop) (A : Option Addr) : RdL s w S A [] := ⟨[], rfl, by simpa [Shape.cells] using RdS.nil w S s.size A, fun k a h e => by simp at e⟩
/-- One of them. -/
theorem RdL.at (h : RdL s w S A l) {k : Nat} {a : α} (hk : l[k]? = some a) :
 ∃ b off hd, A = some ⟨b, off, none⟩ ∧ S b ∧ (∀ j u, (s.cell a hd)[j]? = some u → w.cell? ⟨b, off + (k * s.size + j), none⟩ = some u) ∧ s.inner S w a hd := by
 obtain ⟨hs, h1, h2, h3⟩ := h
 have hkl : k < l.length := (List.getElem?_eq_some_iff.1 hk).1
 obtain ⟨b, off, e, hb, hc⟩ := h2.2 (by omega)
 have hh : hs[k]? = some (hs[k]'(by omega)) := List.getElem?_eq_getElem (by omega)
 refine ⟨b, off, hs[k]'(by omega), e, hb, fun j u hu => hc _ u ?_, h3 k a _ hk hh⟩
 rw [Shape.zip_at h1 hk hh (by have := (List.getElem?_eq_some_iff.1 hu).1; rwa [s.len] at this)]
 exact hu
end
/-! ### kinds -/
/-- Rows of integers: a header each. -/
def rowShape : Shape (List Int) where
 size := 1
 H := Option Addr × Nat
 cell l h := [.slice h.1 l.length h.2]
 len _ _ := rfl
 inner S w l h := RdS w S 1 h.1 l.length (ints l)
 keep h hk := h.keep hk
 more h hs := h.more hs
structure Vt where
 cls : Int
 fields : List Int
deriving Inhabited
def vtShape : Shape Vt where
 size := 2
 H := Option Addr × Nat
 cell v h := [.int .i64 v.cls, .slice h.1 v.fields.length h.2]
 len _ _ := rfl
 inner S w v h := RdS w S 1 h.1 v.fields.length (ints v.fields)
 keep h hk := h.keep hk
 more h hs := h.more hs
structure Nd where
 op : Int
 a : Int
 b : Int
 st : Int
 kind : ByteArray
 n : Int
 args : List Int
deriving Inhabited
def ndShape : Shape Nd where
 size := 7
 H := Option Addr × Nat
 cell x h := [.int .i64 x.op, .int .i64 x.a, .int .i64 x.b, .int .i64 x.st, .string x.kind, .int .i64 x.n, .slice h.1 x.args.length h.2]
 len _ _ := rfl
 inner S w x h := RdS w S 1 h.1 x.args.length (ints x.args)
 keep h hk := h.keep hk
 more h hs := h.more hs
structure Bk where
 phis : List Int
 body : List Int
 succ : List Int
 preds : List Int
deriving Inhabited
structure H4 where
 h1 : Option Addr × Nat
 h2 : Option Addr × Nat
 h3 : Option Addr × Nat
 h4 : Option Addr × Nat
def bkShape : Shape Bk where
 size := 4
 H := H4
 cell x h := [.slice h.h1.1 x.phis.length h.h1.2, .slice h.h2.1 x.body.length h.h2.2, .slice h.h3.1 x.succ.length h.h3.2, .slice h.h4.1 x.preds.length h.h4.2]
 len _ _ := rfl
 inner S w x h := RdS w S 1 h.h1.1 x.phis.length (ints x.phis) ∧ RdS w S 1 h.h2.1 x.body.length (ints x.body) ∧ RdS w S 1 h.h3.1 x.succ.length (ints x.succ) ∧ RdS w S 1 h.h4.1 x.preds.length (ints x.preds)
 keep h hk := ⟨h.1.keep hk, h.2.1.keep hk, h.2.2.1.keep hk, h.2.2.2.keep hk⟩
 more h hs := ⟨h.1.more hs, h.2.1.more hs, h.2.2.1.more hs, h.2.2.2.more hs⟩
structure Ste where
 mth : Int
 pc : Int
 up : Int
 locals : List Int
 stack : List Int
 virts : List Vt
deriving Inhabited
def steShape : Shape Ste where
 size := 6
 H := H4
 cell x h := [.int .i64 x.mth, .int .i64 x.pc, .int .i64 x.up, .slice h.h1.1 x.locals.length h.h1.2, .slice h.h2.1 x.stack.length h.h2.2, .slice h.h3.1 x.virts.length h.h3.2]
 len _ _ := rfl
 inner S w x h := RdS w S 1 h.h1.1 x.locals.length (ints x.locals) ∧ RdS w S 1 h.h2.1 x.stack.length (ints x.stack) ∧ RdL vtShape w S h.h3.1 x.virts
 keep h hk := ⟨h.1.keep hk, h.2.1.keep hk, h.2.2.keep hk⟩
 more h hs := ⟨h.1.more hs, h.2.1.more hs, h.2.2.more hs⟩
/-- A function. -/
structure Fn where
 mth : Int
 entry : Int
 nodes : List Nd
 blocks : List Bk
 states : List Ste
deriving Inhabited
structure RdF (w : World) (S : Nat → Prop) (An Ab As : Option Addr) (f : Fn) : Prop where
 nodes : RdL ndShape w S An f.nodes
 blocks : RdL bkShape w S Ab f.blocks
 states : RdL steShape w S As f.states
abbrev fv (An Ab As : Option Addr) (cn cb cs : Nat) (f : Fn) : Value := .agg #[.int .i64 f.mth, .int .i64 f.entry, .slice An f.nodes.length cn, .slice Ab f.blocks.length cb, .slice As f.states.length cs]
section
variable {w w' : World} {S S' : Nat → Prop} {An Ab As A : Option Addr} {f : Fn}
theorem RdF.keep (h : RdF w S An Ab As f) (hk : Kept S w w') : RdF w' S An Ab As f := ⟨h.nodes.keep hk, h.blocks.keep hk, h.states.keep hk⟩
theorem RdF.more (h : RdF w S An Ab As f) (hs : ∀ b, S b → S' b) : RdF w S' An Ab As f := ⟨h.nodes.more hs, h.blocks.more hs, h.states.more hs⟩
theorem rd_row {l : List (List Int)} (h : RdL rowShape w S A l) {k : Nat} (hk : k < l.length) :
 ∃ b off A1 c1, A = some ⟨b, off, none⟩ ∧ S b ∧ w.cell? ⟨b, off + k, none⟩ = some (.slice A1 (l.getD k []).length c1) ∧ RdS w S 1 A1 (l.getD k []).length (ints (l.getD k [])) := by
 obtain ⟨b, off, hd, e, hb, hc, hi⟩ := h.at (show l[k]? = some (l.getD k []) by simp [hk])
 refine ⟨b, off, hd.1, hd.2, e, hb, ?_, hi⟩
 have := hc 0 _ rfl
 simpa [rowShape] using this
theorem rd_nd {l : List Nd} (h : RdL ndShape w S A l) {k : Nat} (hk : k < l.length) :
 ∃ b off A1 c1, A = some ⟨b, off, none⟩ ∧ S b ∧ w.cell? ⟨b, off + k * 7, none⟩ = some (.int .i64 (l.getD k default).op) ∧ w.cell? ⟨b, off + k * 7 + 1, none⟩ = some (.int .i64 (l.getD k default).a) ∧
  w.cell? ⟨b, off + k * 7 + 2, none⟩ = some (.int .i64 (l.getD k default).b) ∧ w.cell? ⟨b, off + k * 7 + 3, none⟩ = some (.int .i64 (l.getD k default).st) ∧ w.cell? ⟨b, off + k * 7 + 4, none⟩ = some (.string (l.getD k default).kind) ∧
  w.cell? ⟨b, off + k * 7 + 5, none⟩ = some (.int .i64 (l.getD k default).n) ∧ w.cell? ⟨b, off + k * 7 + 6, none⟩ = some (.slice A1 (l.getD k default).args.length c1) ∧ RdS w S 1 A1 (l.getD k default).args.length (ints (l.getD k default).args) := by
 obtain ⟨b, off, hd, e, hb, hc, hi⟩ := h.at (show l[k]? = some (l.getD k default) by simp [hk])
 exact ⟨b, off, hd.1, hd.2, e, hb, hc 0 _ rfl, hc 1 _ rfl, hc 2 _ rfl, hc 3 _ rfl, hc 4 _ rfl, hc 5 _ rfl, hc 6 _ rfl, hi⟩
theorem rd_bk {l : List Bk} (h : RdL bkShape w S A l) {k : Nat} (hk : k < l.length) :
 ∃ b off A1 c1 A2 c2 A3 c3 A4 c4, A = some ⟨b, off, none⟩ ∧ S b ∧ w.cell? ⟨b, off + k * 4, none⟩ = some (.slice A1 (l.getD k default).phis.length c1) ∧ w.cell? ⟨b, off + k * 4 + 1, none⟩ = some (.slice A2 (l.getD k default).body.length c2) ∧
  w.cell? ⟨b, off + k * 4 + 2, none⟩ = some (.slice A3 (l.getD k default).succ.length c3) ∧ w.cell? ⟨b, off + k * 4 + 3, none⟩ = some (.slice A4 (l.getD k default).preds.length c4) ∧
  RdS w S 1 A1 (l.getD k default).phis.length (ints (l.getD k default).phis) ∧ RdS w S 1 A2 (l.getD k default).body.length (ints (l.getD k default).body) ∧ RdS w S 1 A3 (l.getD k default).succ.length (ints (l.getD k default).succ) ∧ RdS w S 1 A4 (l.getD k default).preds.length (ints (l.getD k default).preds) := by
 obtain ⟨b, off, hd, e, hb, hc, h1, h2, h3, h4⟩ := h.at (show l[k]? = some (l.getD k default) by simp [hk])
 exact ⟨b, off, hd.h1.1, hd.h1.2, hd.h2.1, hd.h2.2, hd.h3.1, hd.h3.2, hd.h4.1, hd.h4.2, e, hb, hc 0 _ rfl, hc 1 _ rfl, hc 2 _ rfl, hc 3 _ rfl, h1, h2, h3, h4⟩
theorem rd_vt {l : List Vt} (h : RdL vtShape w S A l) {k : Nat} (hk : k < l.length) :
 ∃ b off A1 c1, A = some ⟨b, off, none⟩ ∧ S b ∧ w.cell? ⟨b, off + k * 2, none⟩ = some (.int .i64 (l.getD k default).cls) ∧ w.cell? ⟨b, off + k * 2 + 1, none⟩ = some (.slice A1 (l.getD k default).fields.length c1) ∧ RdS w S 1 A1 (l.getD k default).fields.length (ints (l.getD k default).fields) := by
 obtain ⟨b, off, hd, e, hb, hc, hi⟩ := h.at (show l[k]? = some (l.getD k default) by simp [hk])
 exact ⟨b, off, hd.1, hd.2, e, hb, hc 0 _ rfl, hc 1 _ rfl, hi⟩
theorem rd_ste {l : List Ste} (h : RdL steShape w S A l) {k : Nat} (hk : k < l.length) :
 ∃ b off A1 c1 A2 c2 A3 c3, A = some ⟨b, off, none⟩ ∧ S b ∧ w.cell? ⟨b, off + k * 6, none⟩ = some (.int .i64 (l.getD k default).mth) ∧ w.cell? ⟨b, off + k * 6 + 1, none⟩ = some (.int .i64 (l.getD k default).pc) ∧ w.cell? ⟨b, off + k * 6 + 2, none⟩ = some (.int .i64 (l.getD k default).up) ∧
  w.cell? ⟨b, off + k * 6 + 3, none⟩ = some (.slice A1 (l.getD k default).locals.length c1) ∧ w.cell? ⟨b, off + k * 6 + 4, none⟩ = some (.slice A2 (l.getD k default).stack.length c2) ∧ w.cell? ⟨b, off + k * 6 + 5, none⟩ = some (.slice A3 (l.getD k default).virts.length c3) ∧
  RdS w S 1 A1 (l.getD k default).locals.length (ints (l.getD k default).locals) ∧ RdS w S 1 A2 (l.getD k default).stack.length (ints (l.getD k default).stack) ∧ RdL vtShape w S A3 (l.getD k default).virts := by
 obtain ⟨b, off, hd, e, hb, hc, h1, h2, h3⟩ := h.at (show l[k]? = some (l.getD k default) by simp [hk])
 exact ⟨b, off, hd.h1.1, hd.h1.2, hd.h2.1, hd.h2.2, hd.h3.1, hd.h3.2, e, hb, hc 0 _ rfl, hc 1 _ rfl, hc 2 _ rfl, hc 3 _ rfl, hc 4 _ rfl, hc 5 _ rfl, h1, h2, h3⟩
end
end Go.Proofs.YtjjmpfmhggcjiaaGreatDoor
namespace Go.Proofs.YtjjmpfmhggcjiaaGreatDoor
open Go.RowKit Go.Maps
theorem own_forms {w : World} {base : Nat} {e : TypeId} {size n c : Nat} {A : Option Addr} {xs : List Value} (h : w.ownsRow base e size (.slice A n c) n xs) : (A = none ∧ n = 0 ∧ c = 0) ∨ ∃ g, A = some ⟨g, 0, none⟩ ∧ n ≤ c ∧ base ≤ g ∧ g < w.heap.size := by
 rcases h.2 with ⟨h0, h1⟩ | ⟨g, cap, cur, hv, hb, hh, hnc, _⟩
 · cases h0
   exact .inl ⟨rfl, rfl, rfl⟩
 · cases hv
   exact .inr ⟨g, rfl, hnc, hb, (Array.getElem?_eq_some_iff.1 hh).1⟩
theorem infoIntR : (Tryz.prog.info? 3).map (fun i => (i.zero, i.size, i.bytes)) = some (some (.int .i64 0), 1, 8) := by kernel_rfl
theorem own_drewN {w : World} {base : Nat} {e : TypeId} {size n : Nat} {v : Value} {xs : List Value} (h : w.ownsRow base e size v n xs) (k : Nat) : (w.drewN k).ownsRow base e size v n xs := h
theorem ints_one {u : Value} {l : List Int} (h : u ∈ ints l) : u.oneCell' = true := by
 obtain ⟨x, _, rfl⟩ := List.mem_map.1 h
 rfl
end Go.Proofs.YtjjmpfmhggcjiaaGreatDoor
