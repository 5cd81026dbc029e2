/-
  DERIVED. GIVEN WITH THE SEED: THE CARDS: each row of YtjjmpfmhggcjiaaGreatDoorRows.lean that lists a variable, with what it lists TIED to the program's text (the seventh form; the later family's looks); each row that meets fmt, with fmt's text TOLD by the authors' own Lean function (tested against real Go, not proved from fmt's source: count such statements apart). THE CARD IS WHAT COUNTS. Prove the row's statement (the work); the ties are given (YtjjmpfmhggcjiaaGreatDoorTie.lean); close each card by the builder's one call (the guide's Derived/Test/ToyasCard.lean, 'card_holds'). Laid BY PROGRAM, IN A SANDBOX (cutbox-door.mjs). By AI agents, Wed Nov 11 2026. No macro, syntax, notation, axiom, sorry.
-/
import Derived.Test.YtjjmpfmhggcjiaaGreatDoorRows
import GoSem.ClaimSeven
namespace Go.Proofs.YtjjmpfmhggcjiaaGreatDoor
namespace Rows

/-- THE TIED CARD OF 'overdrivelaw16.SsaChecks'. -/
def ssaChecksCard : Claim7 := { stood := { row := ssaChecksRow, standIns := [], harness := (true, "666c1f7c9d78d6829f781bd71898010d4ecf9d9ebace357f8cf4c4aebd29b5ce"), looks := true }, kinds := [], alts := [], laidByText := true, laidKinds := [.data, .data, .sentinel, .sentinel, .sentinel, .sentinel, .sentinel, .sentinel, .sentinel, .sentinel, .sentinel, .sentinel, .sentinel, .sentinel, .sentinel, .sentinel, .pinned], laidTests := true, laidLooks := .later }
def SsaChecksCardSaid : Prop := Claim7.holds Tryz.pinned (.plain (OpenSpec.ofChange ssaChecksSpec)) ssaChecksCard

/-- THE TIED CARD OF 'overdrivelaw16.SsaRows'. -/
def ssaRowsCard : Claim7 := { stood := { row := ssaRowsRow, standIns := [], harness := (true, "666c1f7c9d78d6829f781bd71898010d4ecf9d9ebace357f8cf4c4aebd29b5ce"), looks := true }, kinds := [], alts := [], laidByText := true, laidKinds := [.data, .data, .sentinel, .sentinel, .sentinel, .sentinel, .sentinel, .sentinel, .sentinel, .sentinel, .sentinel, .sentinel, .sentinel, .sentinel, .sentinel, .sentinel, .pinned], laidTests := true, laidLooks := .later }
def SsaRowsCardSaid : Prop := Claim7.holds Tryz.pinned (.plain (OpenSpec.ofChange ssaRowsSpec)) ssaRowsCard

/-- THE TIED CARD OF 'overdrivelaw16.SsaMeets'. -/
def ssaMeetsCard : Claim7 := { stood := { row := ssaMeetsRow, standIns := [], harness := (true, "666c1f7c9d78d6829f781bd71898010d4ecf9d9ebace357f8cf4c4aebd29b5ce"), looks := true }, kinds := [], alts := [], laidByText := true, laidKinds := [.data, .data, .sentinel, .sentinel, .sentinel, .sentinel, .sentinel, .sentinel, .sentinel, .sentinel, .sentinel, .sentinel, .sentinel, .sentinel, .sentinel, .sentinel, .pinned], laidTests := true, laidLooks := .later }
def SsaMeetsCardSaid : Prop := Claim7.holds Tryz.pinned (.plain (OpenSpec.ofChange ssaMeetsSpec)) ssaMeetsCard

/-- THE TIED CARD OF 'overdrivelaw16.SsaMany'. -/
def ssaManyCard : Claim7 := { stood := { row := ssaManyRow, standIns := [], harness := (true, "666c1f7c9d78d6829f781bd71898010d4ecf9d9ebace357f8cf4c4aebd29b5ce"), looks := true }, kinds := [], alts := [], laidByText := true, laidKinds := [.data, .data, .sentinel, .sentinel, .sentinel, .sentinel, .sentinel, .sentinel, .sentinel, .sentinel, .sentinel, .sentinel, .sentinel, .sentinel, .sentinel, .sentinel, .pinned], laidTests := true, laidLooks := .later }
def SsaManyCardSaid : Prop := Claim7.holds Tryz.pinned (.plain (OpenSpec.ofChange ssaManySpec)) ssaManyCard

/-- THE TIED CARD OF 'overdrivelaw16.SsaSame'. -/
def ssaSameCard : Claim7 := { stood := { row := ssaSameRow, standIns := [], harness := (true, "666c1f7c9d78d6829f781bd71898010d4ecf9d9ebace357f8cf4c4aebd29b5ce"), looks := true }, kinds := [], alts := [], laidByText := true, laidKinds := [.data, .data, .data, .data, .sentinel, .sentinel, .sentinel, .sentinel, .sentinel, .sentinel, .sentinel, .sentinel, .sentinel, .sentinel, .sentinel, .sentinel, .sentinel, .sentinel, .pinned, .pinned, .pinned, .pinned, .pinned, .pinned], laidTests := true, laidLooks := .later }
def SsaSameCardSaid : Prop := Claim7.holds Tryz.pinned (.plain (OpenSpec.ofChange ssaSameSpec)) ssaSameCard

/-- THE SECOND FORM's CARD OF 'overdrivelaw16.SsaChecks'. -/
def ssaChecksUptoCard : Claim7 := { stood := { row := ssaChecksUptoRow, standIns := [], harness := (true, "666c1f7c9d78d6829f781bd71898010d4ecf9d9ebace357f8cf4c4aebd29b5ce"), looks := true }, kinds := [], alts := [], laidByText := true, laidKinds := [.data, .data, .sentinel, .sentinel, .sentinel, .sentinel, .sentinel, .sentinel, .sentinel, .sentinel, .sentinel, .sentinel, .sentinel, .sentinel, .sentinel, .sentinel, .pinned], laidTests := true, laidLooks := .later }
def SsaChecksUptoCardSaid : Prop := Claim7.holds Tryz.pinned (.plain (OpenSpec.upto ssaChecksSpec)) ssaChecksUptoCard

/-- THE SECOND FORM's CARD OF 'overdrivelaw16.SsaRows'. -/
def ssaRowsUptoCard : Claim7 := { stood := { row := ssaRowsUptoRow, standIns := [], harness := (true, "666c1f7c9d78d6829f781bd71898010d4ecf9d9ebace357f8cf4c4aebd29b5ce"), looks := true }, kinds := [], alts := [], laidByText := true, laidKinds := [.data, .data, .sentinel, .sentinel, .sentinel, .sentinel, .sentinel, .sentinel, .sentinel, .sentinel, .sentinel, .sentinel, .sentinel, .sentinel, .sentinel, .sentinel, .pinned], laidTests := true, laidLooks := .later }
def SsaRowsUptoCardSaid : Prop := Claim7.holds Tryz.pinned (.plain (OpenSpec.upto ssaRowsSpec)) ssaRowsUptoCard

/-- THE SECOND FORM's CARD OF 'overdrivelaw16.SsaMeets'. -/
def ssaMeetsUptoCard : Claim7 := { stood := { row := ssaMeetsUptoRow, standIns := [], harness := (true, "666c1f7c9d78d6829f781bd71898010d4ecf9d9ebace357f8cf4c4aebd29b5ce"), looks := true }, kinds := [], alts := [], laidByText := true, laidKinds := [.data, .data, .sentinel, .sentinel, .sentinel, .sentinel, .sentinel, .sentinel, .sentinel, .sentinel, .sentinel, .sentinel, .sentinel, .sentinel, .sentinel, .sentinel, .pinned], laidTests := true, laidLooks := .later }
def SsaMeetsUptoCardSaid : Prop := Claim7.holds Tryz.pinned (.plain (OpenSpec.upto ssaMeetsSpec)) ssaMeetsUptoCard

/-- THE SECOND FORM's CARD OF 'overdrivelaw16.SsaMany'. -/
def ssaManyUptoCard : Claim7 := { stood := { row := ssaManyUptoRow, standIns := [], harness := (true, "666c1f7c9d78d6829f781bd71898010d4ecf9d9ebace357f8cf4c4aebd29b5ce"), looks := true }, kinds := [], alts := [], laidByText := true, laidKinds := [.data, .data, .sentinel, .sentinel, .sentinel, .sentinel, .sentinel, .sentinel, .sentinel, .sentinel, .sentinel, .sentinel, .sentinel, .sentinel, .sentinel, .sentinel, .pinned], laidTests := true, laidLooks := .later }
def SsaManyUptoCardSaid : Prop := Claim7.holds Tryz.pinned (.plain (OpenSpec.upto ssaManySpec)) ssaManyUptoCard

/-- THE SECOND FORM's CARD OF 'overdrivelaw16.SsaSame'. -/
def ssaSameUptoCard : Claim7 := { stood := { row := ssaSameUptoRow, standIns := [], harness := (true, "666c1f7c9d78d6829f781bd71898010d4ecf9d9ebace357f8cf4c4aebd29b5ce"), looks := true }, kinds := [], alts := [], laidByText := true, laidKinds := [.data, .data, .data, .data, .sentinel, .sentinel, .sentinel, .sentinel, .sentinel, .sentinel, .sentinel, .sentinel, .sentinel, .sentinel, .sentinel, .sentinel, .sentinel, .sentinel, .pinned, .pinned, .pinned, .pinned, .pinned, .pinned], laidTests := true, laidLooks := .later }
def SsaSameUptoCardSaid : Prop := Claim7.holds Tryz.pinned (.plain (OpenSpec.upto ssaSameSpec)) ssaSameUptoCard
end Rows
end Go.Proofs.YtjjmpfmhggcjiaaGreatDoor
