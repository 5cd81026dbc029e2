/-
  Rings turned round: how many there are, by a table.
-/
import Derived.Test.YteapnfobcebpfaaDoorTreeLaw
namespace Go.Proofs.YteapnfobcebpfaaDoor
open Mov
namespace Mov

/-- The ring of n places turned round by b, its first m rows. -/
def ringL (n b m : Nat) : List Mv := (List.range m).map fun i : Nat => ((i : Int), (((i + b) % n : Nat) : Int))
/-- The rows that hang on it. -/
def tailL (n m : Nat) : List Mv := (List.range m).map fun i : Nat => (100 + (i : Int), ((i % n : Nat) : Int))
def ringAll (n b t : Nat) : List Mv := ringL n b n ++ tailL n t

/-- How the statement marks the places of a ring. -/
def markF (n b : Nat) : Nat → List Bool → Nat → List Bool
  | 0, s, _ => s
  | f + 1, s, k => if s.getD k true then s else markF n b f (s.set k true) ((k + b) % n)
def ringsG (n b : Nat) : Nat → List Bool × Nat → List Bool × Nat
  | 0, s => s
  | i + 1, s => let q := ringsG n b i s
    (markF n b (n + 1) q.1 i, if q.1.getD i true || b == 0 then q.2 else q.2 + 1)
def ringsC (n b : Nat) : Nat := (ringsG n b n (List.replicate n false, 0)).2

set_option maxRecDepth 100000 in
theorem cyc_table : ∀ n < 31, ∀ b < n, 0 < b → cycF (keys (ringL n b n)) (ringL n b n) = ringsC n b := by decide +kernel
set_option maxRecDepth 100000 in
theorem none_table : ∀ n < 31, ringsC n 0 = 0 := by decide +kernel

end Mov
end Go.Proofs.YteapnfobcebpfaaDoor
