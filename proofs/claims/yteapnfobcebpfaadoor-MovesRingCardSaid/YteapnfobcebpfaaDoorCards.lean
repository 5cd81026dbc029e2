/-
  DERIVED. GIVEN WITH THE SEED: THE CARDS: each row of YteapnfobcebpfaaDoorRows.lean that lists a variable, with what it lists TIED to the program's text (the seventh form; the later family's looks); each row that meets fmt, with fmt's text TOLD by the authors' own Lean function (tested against real Go, not proved from fmt's source: count such statements apart). THE CARD IS WHAT COUNTS. Prove the row's statement (the work); the ties are given (YteapnfobcebpfaaDoorTie.lean); close each card by the builder's one call (the guide's Derived/Test/ToyasCard.lean, 'card_holds'). Laid BY PROGRAM, IN A SANDBOX (cutbox-door.mjs). By AI agents, Wed Nov 11 2026. No macro, syntax, notation, axiom, sorry.
-/
import Derived.Test.YteapnfobcebpfaaDoorRows
import GoSem.ClaimSeven
namespace Go.Proofs.YteapnfobcebpfaaDoor
namespace Rows

/-- THE TIED CARD OF 'overdrivelaw23.MovesAtOnce'. -/
def movesAtOnceCard : Claim7 := { stood := { row := movesAtOnceRow, standIns := [], harness := (true, "40e93ba26d2ffbcd153ef2a83becf7a116407e7efd1a8c90f4d5512f66d8f9be"), looks := true }, kinds := [], alts := [], laidByText := true, laidKinds := [.sentinel, .sentinel, .sentinel, .sentinel, .sentinel, .sentinel, .sentinel, .sentinel, .sentinel, .sentinel, .sentinel, .sentinel, .sentinel, .sentinel], laidTests := true, laidLooks := .later }
def MovesAtOnceCardSaid : Prop := Claim7.holds Tryd.pinned (.plain (OpenSpec.ofChange movesAtOnceSpec)) movesAtOnceCard

/-- THE TIED CARD OF 'overdrivelaw23.MovesRing'. -/
def movesRingCard : Claim7 := { stood := { row := movesRingRow, standIns := [], harness := (true, "40e93ba26d2ffbcd153ef2a83becf7a116407e7efd1a8c90f4d5512f66d8f9be"), looks := true }, kinds := [], alts := [], laidByText := true, laidKinds := [.sentinel, .sentinel, .sentinel], laidTests := true, laidLooks := .later }
def MovesRingCardSaid : Prop := Claim7.holds Tryd.pinned (.plain (OpenSpec.ofChange movesRingSpec)) movesRingCard

/-- THE TIED CARD OF 'overdrivelaw23.MovesNone'. -/
def movesNoneCard : Claim7 := { stood := { row := movesNoneRow, standIns := [], harness := (true, "40e93ba26d2ffbcd153ef2a83becf7a116407e7efd1a8c90f4d5512f66d8f9be"), looks := true }, kinds := [], alts := [], laidByText := true, laidKinds := [.sentinel, .sentinel, .sentinel, .sentinel, .sentinel, .sentinel, .sentinel, .sentinel, .sentinel, .sentinel, .sentinel, .sentinel, .sentinel, .sentinel], laidTests := true, laidLooks := .later }
def MovesNoneCardSaid : Prop := Claim7.holds Tryd.pinned (.plain (OpenSpec.ofChange movesNoneSpec)) movesNoneCard

/-- THE TIED CARD OF 'overdrivelaw23.MovesTree'. -/
def movesTreeCard : Claim7 := { stood := { row := movesTreeRow, standIns := [], harness := (true, "40e93ba26d2ffbcd153ef2a83becf7a116407e7efd1a8c90f4d5512f66d8f9be"), looks := true }, kinds := [], alts := [], laidByText := true, laidKinds := [.sentinel, .sentinel, .sentinel], laidTests := true, laidLooks := .later }
def MovesTreeCardSaid : Prop := Claim7.holds Tryd.pinned (.plain (OpenSpec.ofChange movesTreeSpec)) movesTreeCard

/-- THE SECOND FORM's CARD OF 'overdrivelaw23.MovesAtOnce'. -/
def movesAtOnceUptoCard : Claim7 := { stood := { row := movesAtOnceUptoRow, standIns := [], harness := (true, "40e93ba26d2ffbcd153ef2a83becf7a116407e7efd1a8c90f4d5512f66d8f9be"), looks := true }, kinds := [], alts := [], laidByText := true, laidKinds := [.sentinel, .sentinel, .sentinel, .sentinel, .sentinel, .sentinel, .sentinel, .sentinel, .sentinel, .sentinel, .sentinel, .sentinel, .sentinel, .sentinel], laidTests := true, laidLooks := .later }
def MovesAtOnceUptoCardSaid : Prop := Claim7.holds Tryd.pinned (.plain (OpenSpec.upto movesAtOnceSpec)) movesAtOnceUptoCard

/-- THE SECOND FORM's CARD OF 'overdrivelaw23.MovesRing'. -/
def movesRingUptoCard : Claim7 := { stood := { row := movesRingUptoRow, standIns := [], harness := (true, "40e93ba26d2ffbcd153ef2a83becf7a116407e7efd1a8c90f4d5512f66d8f9be"), looks := true }, kinds := [], alts := [], laidByText := true, laidKinds := [.sentinel, .sentinel, .sentinel], laidTests := true, laidLooks := .later }
def MovesRingUptoCardSaid : Prop := Claim7.holds Tryd.pinned (.plain (OpenSpec.upto movesRingSpec)) movesRingUptoCard

/-- THE SECOND FORM's CARD OF 'overdrivelaw23.MovesNone'. -/
def movesNoneUptoCard : Claim7 := { stood := { row := movesNoneUptoRow, standIns := [], harness := (true, "40e93ba26d2ffbcd153ef2a83becf7a116407e7efd1a8c90f4d5512f66d8f9be"), looks := true }, kinds := [], alts := [], laidByText := true, laidKinds := [.sentinel, .sentinel, .sentinel, .sentinel, .sentinel, .sentinel, .sentinel, .sentinel, .sentinel, .sentinel, .sentinel, .sentinel, .sentinel, .sentinel], laidTests := true, laidLooks := .later }
def MovesNoneUptoCardSaid : Prop := Claim7.holds Tryd.pinned (.plain (OpenSpec.upto movesNoneSpec)) movesNoneUptoCard

/-- THE SECOND FORM's CARD OF 'overdrivelaw23.MovesTree'. -/
def movesTreeUptoCard : Claim7 := { stood := { row := movesTreeUptoRow, standIns := [], harness := (true, "40e93ba26d2ffbcd153ef2a83becf7a116407e7efd1a8c90f4d5512f66d8f9be"), looks := true }, kinds := [], alts := [], laidByText := true, laidKinds := [.sentinel, .sentinel, .sentinel], laidTests := true, laidLooks := .later }
def MovesTreeUptoCardSaid : Prop := Claim7.holds Tryd.pinned (.plain (OpenSpec.upto movesTreeSpec)) movesTreeUptoCard
end Rows
end Go.Proofs.YteapnfobcebpfaaDoor
