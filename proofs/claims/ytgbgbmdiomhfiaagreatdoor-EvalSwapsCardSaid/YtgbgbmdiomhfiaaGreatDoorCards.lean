/-
  DERIVED. GIVEN WITH THE SEED: THE CARDS: each row of YtgbgbmdiomhfiaaGreatDoorRows.lean that lists a variable, with what it lists TIED to the program's text (the seventh form; the later family's looks); each row that meets fmt, with fmt's text TOLD by the authors' own Lean function (tested against real Go, not proved from fmt's source: count such statements apart). THE CARD IS WHAT COUNTS. Prove the row's statement (the work); the ties are given (YtgbgbmdiomhfiaaGreatDoorTie.lean); close each card by the builder's one call (the guide's Derived/Test/ToyasCard.lean, 'card_holds'). Laid BY PROGRAM, IN A SANDBOX (cutbox-door.mjs). By AI agents, Wed Nov 11 2026. No macro, syntax, notation, axiom, sorry.
-/
import Derived.Test.YtgbgbmdiomhfiaaGreatDoorRows
import GoSem.ClaimSeven
namespace Go.Proofs.YtgbgbmdiomhfiaaGreatDoor
namespace Rows

/-- THE TIED CARD OF 'overdrivelaw17.EvalSwaps'. -/
def evalSwapsCard : Claim7 := { stood := { row := evalSwapsRow, standIns := [], harness := (true, "54ae285f024c1eb493464ed785176f07c48af9ce1701d319cc59af430d81aed1"), looks := false }, kinds := [], alts := [], laidByText := true, laidKinds := [.data, .data, .sentinel, .sentinel, .sentinel, .sentinel, .sentinel, .sentinel, .sentinel, .sentinel, .sentinel, .sentinel, .pinned], laidTests := true, laidLooks := .later }
def EvalSwapsCardSaid : Prop := Claim7.holds Tryz.pinned (.plain (OpenSpec.ofChange evalSwapsSpec)) evalSwapsCard

/-- THE TIED CARD OF 'overdrivelaw17.EvalRings'. -/
def evalRingsCard : Claim7 := { stood := { row := evalRingsRow, standIns := [], harness := (true, "54ae285f024c1eb493464ed785176f07c48af9ce1701d319cc59af430d81aed1"), looks := false }, kinds := [], alts := [], laidByText := true, laidKinds := [.data, .data, .sentinel, .sentinel, .sentinel, .sentinel, .sentinel, .sentinel, .sentinel, .sentinel, .sentinel, .sentinel, .pinned], laidTests := true, laidLooks := .later }
def EvalRingsCardSaid : Prop := Claim7.holds Tryz.pinned (.plain (OpenSpec.ofChange evalRingsSpec)) evalRingsCard

/-- THE SECOND FORM's CARD OF 'overdrivelaw17.EvalSwaps'. -/
def evalSwapsUptoCard : Claim7 := { stood := { row := evalSwapsUptoRow, standIns := [], harness := (true, "54ae285f024c1eb493464ed785176f07c48af9ce1701d319cc59af430d81aed1"), looks := false }, kinds := [], alts := [], laidByText := true, laidKinds := [.data, .data, .sentinel, .sentinel, .sentinel, .sentinel, .sentinel, .sentinel, .sentinel, .sentinel, .sentinel, .sentinel, .pinned], laidTests := true, laidLooks := .later }
def EvalSwapsUptoCardSaid : Prop := Claim7.holds Tryz.pinned (.plain (OpenSpec.upto evalSwapsSpec)) evalSwapsUptoCard

/-- THE SECOND FORM's CARD OF 'overdrivelaw17.EvalRings'. -/
def evalRingsUptoCard : Claim7 := { stood := { row := evalRingsUptoRow, standIns := [], harness := (true, "54ae285f024c1eb493464ed785176f07c48af9ce1701d319cc59af430d81aed1"), looks := false }, kinds := [], alts := [], laidByText := true, laidKinds := [.data, .data, .sentinel, .sentinel, .sentinel, .sentinel, .sentinel, .sentinel, .sentinel, .sentinel, .sentinel, .sentinel, .pinned], laidTests := true, laidLooks := .later }
def EvalRingsUptoCardSaid : Prop := Claim7.holds Tryz.pinned (.plain (OpenSpec.upto evalRingsSpec)) evalRingsUptoCard
end Rows
end Go.Proofs.YtgbgbmdiomhfiaaGreatDoor
