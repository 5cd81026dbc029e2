/-
  DERIVED. GIVEN WITH THE SEED: THE CARDS: each row of YtcmlfaikdegbfaaDoorRows.lean that lists a variable, with what it lists TIED to the program's text (the seventh form; the later family's looks); each row that meets fmt, with fmt's text TOLD by the authors' own Lean function (tested against real Go, not proved from fmt's source: count such statements apart). THE CARD IS WHAT COUNTS. Prove the row's statement (the work); the ties are given (YtcmlfaikdegbfaaDoorTie.lean); close each card by the builder's one call (the guide's Derived/Test/ToyasCard.lean, 'card_holds'). Laid BY PROGRAM, IN A SANDBOX (cutbox-door.mjs). By AI agents, Wed Nov 11 2026. No macro, syntax, notation, axiom, sorry.
-/
import Derived.Test.YtcmlfaikdegbfaaDoorRows
import GoSem.ClaimSeven
namespace Go.Proofs.YtcmlfaikdegbfaaDoor
namespace Rows

/-- THE TIED CARD OF 'overdrivelaw3.ProgOne'. -/
def progOneCard : Claim7 := { stood := { row := progOneRow, standIns := [], harness := (true, "3c4356c3e5c66a0e821e7aadc585ea3230ae6599194448b742f375d0b1f540c8"), looks := true }, kinds := [], alts := [], laidByText := true, laidKinds := [.data, .sentinel, .sentinel, .sentinel, .sentinel, .sentinel, .sentinel, .sentinel, .sentinel, .sentinel, .sentinel, .sentinel, .sentinel, .sentinel, .sentinel, .pinned], laidTests := true, laidLooks := .later }
def ProgOneCardSaid : Prop := Claim7.holds Tryd.pinned (.plain (OpenSpec.ofChange progOneSpec)) progOneCard

/-- THE TIED CARD OF 'overdrivelaw3.ProgCounts'. -/
def progCountsCard : Claim7 := { stood := { row := progCountsRow, standIns := [], harness := (true, "3c4356c3e5c66a0e821e7aadc585ea3230ae6599194448b742f375d0b1f540c8"), looks := true }, kinds := [], alts := [], laidByText := true, laidKinds := [.data, .sentinel, .sentinel, .sentinel, .sentinel, .sentinel, .sentinel, .sentinel, .sentinel, .sentinel, .sentinel, .sentinel, .sentinel, .sentinel, .sentinel, .pinned], laidTests := true, laidLooks := .later }
def ProgCountsCardSaid : Prop := Claim7.holds Tryd.pinned (.plain (OpenSpec.ofChange progCountsSpec)) progCountsCard

/-- THE TIED CARD OF 'overdrivelaw3.ProgMay'. -/
def progMayCard : Claim7 := { stood := { row := progMayRow, standIns := [], harness := (true, "3c4356c3e5c66a0e821e7aadc585ea3230ae6599194448b742f375d0b1f540c8"), looks := true }, kinds := [], alts := [], laidByText := true, laidKinds := [.data, .sentinel, .sentinel, .sentinel, .sentinel, .sentinel, .sentinel, .sentinel, .sentinel, .sentinel, .sentinel, .sentinel, .sentinel, .sentinel, .sentinel, .pinned], laidTests := true, laidLooks := .later }
def ProgMayCardSaid : Prop := Claim7.holds Tryd.pinned (.plain (OpenSpec.ofChange progMaySpec)) progMayCard

/-- THE TIED CARD OF 'overdrivelaw3.ProgGoes'. -/
def progGoesCard : Claim7 := { stood := { row := progGoesRow, standIns := [], harness := (true, "3c4356c3e5c66a0e821e7aadc585ea3230ae6599194448b742f375d0b1f540c8"), looks := true }, kinds := [], alts := [], laidByText := true, laidKinds := [.data, .sentinel, .sentinel, .sentinel, .sentinel, .sentinel, .sentinel, .sentinel, .sentinel, .sentinel, .sentinel, .sentinel, .sentinel, .sentinel, .sentinel, .pinned], laidTests := true, laidLooks := .later }
def ProgGoesCardSaid : Prop := Claim7.holds Tryd.pinned (.plain (OpenSpec.ofChange progGoesSpec)) progGoesCard

/-- THE SECOND FORM's CARD OF 'overdrivelaw3.ProgOne'. -/
def progOneUptoCard : Claim7 := { stood := { row := progOneUptoRow, standIns := [], harness := (true, "3c4356c3e5c66a0e821e7aadc585ea3230ae6599194448b742f375d0b1f540c8"), looks := true }, kinds := [], alts := [], laidByText := true, laidKinds := [.data, .sentinel, .sentinel, .sentinel, .sentinel, .sentinel, .sentinel, .sentinel, .sentinel, .sentinel, .sentinel, .sentinel, .sentinel, .sentinel, .sentinel, .pinned], laidTests := true, laidLooks := .later }
def ProgOneUptoCardSaid : Prop := Claim7.holds Tryd.pinned (.plain (OpenSpec.upto progOneSpec)) progOneUptoCard

/-- THE SECOND FORM's CARD OF 'overdrivelaw3.ProgCounts'. -/
def progCountsUptoCard : Claim7 := { stood := { row := progCountsUptoRow, standIns := [], harness := (true, "3c4356c3e5c66a0e821e7aadc585ea3230ae6599194448b742f375d0b1f540c8"), looks := true }, kinds := [], alts := [], laidByText := true, laidKinds := [.data, .sentinel, .sentinel, .sentinel, .sentinel, .sentinel, .sentinel, .sentinel, .sentinel, .sentinel, .sentinel, .sentinel, .sentinel, .sentinel, .sentinel, .pinned], laidTests := true, laidLooks := .later }
def ProgCountsUptoCardSaid : Prop := Claim7.holds Tryd.pinned (.plain (OpenSpec.upto progCountsSpec)) progCountsUptoCard

/-- THE SECOND FORM's CARD OF 'overdrivelaw3.ProgMay'. -/
def progMayUptoCard : Claim7 := { stood := { row := progMayUptoRow, standIns := [], harness := (true, "3c4356c3e5c66a0e821e7aadc585ea3230ae6599194448b742f375d0b1f540c8"), looks := true }, kinds := [], alts := [], laidByText := true, laidKinds := [.data, .sentinel, .sentinel, .sentinel, .sentinel, .sentinel, .sentinel, .sentinel, .sentinel, .sentinel, .sentinel, .sentinel, .sentinel, .sentinel, .sentinel, .pinned], laidTests := true, laidLooks := .later }
def ProgMayUptoCardSaid : Prop := Claim7.holds Tryd.pinned (.plain (OpenSpec.upto progMaySpec)) progMayUptoCard

/-- THE SECOND FORM's CARD OF 'overdrivelaw3.ProgGoes'. -/
def progGoesUptoCard : Claim7 := { stood := { row := progGoesUptoRow, standIns := [], harness := (true, "3c4356c3e5c66a0e821e7aadc585ea3230ae6599194448b742f375d0b1f540c8"), looks := true }, kinds := [], alts := [], laidByText := true, laidKinds := [.data, .sentinel, .sentinel, .sentinel, .sentinel, .sentinel, .sentinel, .sentinel, .sentinel, .sentinel, .sentinel, .sentinel, .sentinel, .sentinel, .sentinel, .pinned], laidTests := true, laidLooks := .later }
def ProgGoesUptoCardSaid : Prop := Claim7.holds Tryd.pinned (.plain (OpenSpec.upto progGoesSpec)) progGoesUptoCard
end Rows
end Go.Proofs.YtcmlfaikdegbfaaDoor
