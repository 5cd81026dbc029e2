/-
  DERIVED. GIVEN WITH THE SEED: THE CARDS: each row of YtcmlfaikdegbfaaGreatDoorRows.lean that lists a variable, with what it lists TIED to the program's text (the seventh form; the later family's looks); each row that meets fmt, with fmt's text TOLD by the authors' own Lean function (tested against real Go, not proved from fmt's source: count such statements apart). THE CARD IS WHAT COUNTS. Prove the row's statement (the work); the ties are given (YtcmlfaikdegbfaaGreatDoorTie.lean); close each card by the builder's one call (the guide's Derived/Test/ToyasCard.lean, 'card_holds'). Laid BY PROGRAM, IN A SANDBOX (cutbox-door.mjs). By AI agents, Wed Nov 11 2026. No macro, syntax, notation, axiom, sorry.
-/
import Derived.Test.YtcmlfaikdegbfaaGreatDoorRows
import GoSem.ClaimSeven
namespace Go.Proofs.YtcmlfaikdegbfaaGreatDoor
namespace Rows

/-- THE TIED CARD OF 'overdrivelaw3.ProgEffects'. -/
def progEffectsCard : Claim7 := { stood := { row := progEffectsRow, standIns := [], harness := (true, "4e05621f38a6b5f156f8f1fec693f6c659ca7882bc1faff70573f462988bffbe"), looks := true }, kinds := [], alts := [], laidByText := true, laidKinds := [.data, .sentinel, .sentinel, .sentinel, .sentinel, .sentinel, .sentinel, .sentinel, .sentinel, .sentinel, .sentinel, .sentinel, .sentinel, .sentinel, .sentinel, .listed, .data, .pinned], laidTests := true, laidLooks := .later }
def ProgEffectsCardSaid : Prop := Claim7.holds Tryz.pinned (.plain (OpenSpec.ofChange progEffectsSpec)) progEffectsCard

/-- THE SECOND FORM's CARD OF 'overdrivelaw3.ProgEffects'. -/
def progEffectsUptoCard : Claim7 := { stood := { row := progEffectsUptoRow, standIns := [], harness := (true, "4e05621f38a6b5f156f8f1fec693f6c659ca7882bc1faff70573f462988bffbe"), looks := true }, kinds := [], alts := [], laidByText := true, laidKinds := [.data, .sentinel, .sentinel, .sentinel, .sentinel, .sentinel, .sentinel, .sentinel, .sentinel, .sentinel, .sentinel, .sentinel, .sentinel, .sentinel, .sentinel, .listed, .data, .pinned], laidTests := true, laidLooks := .later }
def ProgEffectsUptoCardSaid : Prop := Claim7.holds Tryz.pinned (.plain (OpenSpec.upto progEffectsSpec)) progEffectsUptoCard
end Rows
end Go.Proofs.YtcmlfaikdegbfaaGreatDoor
