/-
  The plain law of ProgCounts: so many may be, one more not (a table by the kernel).
-/
import Derived.Test.YtcmlfaikdegbfaaDoorPgFirst
namespace Go.Proofs.YtcmlfaikdegbfaaDoor
open Go.RowKit Go.Maps

def mostC : Nat → Nat
  | 0 => 12
  | 1 => 10
  | 2 => 12
  | 3 => 12
  | _ => 120
/-- So many letters I. -/
def iStr (n : Nat) : ByteArray := ⟨⟨List.replicate n 73⟩⟩
def cntP (what n : Nat) : Prg :=
  match what with
  | 0 => ⟨List.replicate n s0, (oneP retI).methods⟩
  | 1 => ⟨[sIR, iStr n], (oneP retI).methods⟩
  | 2 => ⟨[sIR, s0], List.replicate n ⟨s0, s0, s0, [retI]⟩⟩
  | 3 => ⟨[sIR, s0], [⟨s0, s0, s0, [retI]⟩, ⟨iStr (n / 2), iStr (n - n / 2), s0, [retI, retI]⟩]⟩
  | _ => ⟨[sIR, s0], [⟨s0, s0, s0, [retI]⟩, ⟨strI, strR, s0, List.replicate n retI⟩]⟩
set_option maxRecDepth 100000 in
theorem cnt_table : ∀ what < 5, ∀ j < 8, mayP (cntP what (mostC what - 3 + j)) = if mostC what - 3 + j ≤ mostC what then (0, []) else (1, if what = 0 ∨ what = 2 then [] else [1, -1]) := by decide +kernel
end Go.Proofs.YtcmlfaikdegbfaaDoor
