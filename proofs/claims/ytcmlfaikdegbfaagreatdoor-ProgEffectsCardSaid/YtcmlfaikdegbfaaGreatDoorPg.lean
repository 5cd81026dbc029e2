/-
  Programs as plain data, and what may be (chapter 3): plain Lean, no walk. No statement of the seat is proved here.
-/
import Derived.Test.YtcmlfaikdegbfaaGreatDoorSee2
namespace Go.Proofs.YtcmlfaikdegbfaaGreatDoor

/-! ### the first of many -/
def firstOf {α : Type} (f : Nat → Option α) (n : Nat) : Option α := (List.range n).findSome? f
theorem firstOf_none {α : Type} {f : Nat → Option α} {n : Nat} (h : ∀ j, j < n → f j = none) : firstOf f n = none := by
  unfold firstOf
  rw [List.findSome?_eq_none_iff]
  intro x hx
  exact h x (List.mem_range.1 hx)
theorem firstOf_some {α : Type} {f : Nat → Option α} {n k : Nat} {x : α} (hk : k < n) (h : ∀ j, j < k → f j = none) (hx : f k = some x) : firstOf f n = some x := by
  unfold firstOf
  obtain ⟨m, rfl⟩ : ∃ m, n = k + 1 + m := ⟨n - (k + 1), by omega⟩
  have e : List.range (k + 1 + m) = List.range k ++ (k :: (List.range m).map fun i => k + 1 + i) := by
    rw [List.range_add, List.range_succ, List.append_assoc]
    rfl
  rw [e, List.findSome?_append]
  have h0 : List.findSome? f (List.range k) = none := by
    rw [List.findSome?_eq_none_iff]
    intro x hx
    exact h x (List.mem_range.1 hx)
  rw [h0]
  simp [hx]

/-! ### programs -/
/-- An instruction; a method; a program. -/
structure Ins where
  op : Int
  a : Int
  b : Int
  n : Int
deriving DecidableEq, Inhabited
structure Mth where
  pa : ByteArray
  lo : ByteArray
  re : ByteArray
  code : List Ins
instance : Inhabited Mth := ⟨⟨⟨#[]⟩, ⟨#[]⟩, ⟨#[]⟩, []⟩⟩
structure Prg where
  classes : List ByteArray
  methods : List Mth

def strI : ByteArray := ⟨#[73]⟩
def strR : ByteArray := ⟨#[82]⟩
def lettersB (s : ByteArray) : Bool := s.data.toList.all fun c => c == 73 || c == 82
def inB (i : Int) (n : Nat) : Bool := decide (0 ≤ i) && decide (i < n)

def opsA : List Int := [3, 4, 22, 23, 24, 25, 26, 27, 28, 29, 30, 32]
def usesA (op : Int) : Bool := decide (op ∈ opsA)
def usesB (op : Int) : Bool := decide (op = 25 ∨ op = 26)
/-- What is amiss with an instruction: 0, or a sentinel's number. -/
def insBad (cl : List ByteArray) (nm : Nat) (locals codes : Nat) (x : Ins) : Nat :=
  if x.op < 1 ∨ 35 < x.op then 2
  else if (x.op = 22 ∨ x.op = 23) ∧ inB x.a codes = false then 4
  else if (x.op = 3 ∨ x.op = 4) ∧ inB x.a locals = false then 3
  else if (x.op = 24 ∨ x.op = 27 ∨ x.op = 25 ∨ x.op = 26) ∧ inB x.a cl.length = false then 3
  else if (x.op = 25 ∨ x.op = 26) ∧ inB x.b (cl.getD x.a.toNat ⟨#[]⟩).size = false then 3
  else if (x.op = 28 ∨ x.op = 29 ∨ x.op = 30) ∧ inB x.a 2 = false then 3
  else if x.op = 32 ∧ (x.a ≤ 0 ∨ inB x.a nm = false) then 3
  else if usesA x.op = false ∧ x.a ≠ 0 ∨ usesB x.op = false ∧ x.b ≠ 0 ∨ x.op ≠ 1 ∧ x.n ≠ 0 then 3
  else 0
def retOk (s : ByteArray) : Bool := s.toList.isEmpty || s.toList == [73] || s.toList == [82]
/-- What is amiss with a method, but for its instructions. -/
def headBad (m : Mth) (first : Bool) : Nat :=
  if 12 < m.pa.size + m.lo.size ∨ m.code.length = 0 ∨ 120 < m.code.length then 1
  else if lettersB m.pa = false ∨ lettersB m.lo = false ∨ retOk m.re = false ∨ first = true ∧ (m.pa.toList ≠ [] ∨ m.re.toList = [82]) then 2
  else 0
/-- A fault: 0, or a sentinel's number; where. -/
abbrev Flt := Nat × List Int
def some_ (k : Nat) (at_ : List Int) : Option Flt := if k = 0 then none else some (k, at_)
def clsBad (p : Prg) (i : Nat) : Option Flt :=
  let f := p.classes.getD i ⟨#[]⟩
  some_ (if 10 < f.size then 1 else if lettersB f = false then 2 else 0) [i, -1]
def codeBad (p : Prg) (m : Mth) (i pc : Nat) : Option Flt := some_ (insBad p.classes p.methods.length (m.pa.size + m.lo.size) m.code.length (m.code.getD pc default)) [i, pc]
def mthBad (p : Prg) (i : Nat) : Option Flt :=
  let m := p.methods.getD i default
  (some_ (headBad m (decide (i = 0))) [i, -1]).or (firstOf (codeBad p m i) m.code.length)
def mayP (p : Prg) : Flt :=
  if 12 < p.classes.length ∨ p.methods.length = 0 ∨ 12 < p.methods.length then (1, [])
  else ((firstOf (clsBad p) p.classes.length).or (firstOf (mthBad p) p.methods.length)).getD (0, [])
end Go.Proofs.YtcmlfaikdegbfaaGreatDoor
