/-
  DERIVED. GIVEN WITH THE SEED: THE CARDS: each row of YtjfgeekjjlhbdaaGreatDoorRows.lean that lists a variable, with what it lists TIED to the program's text (the seventh form; the later family's looks); each row that meets fmt, with fmt's text TOLD by the authors' own Lean function (tested against real Go, not proved from fmt's source: count such statements apart). THE CARD IS WHAT COUNTS. Prove the row's statement (the work); the ties are given (YtjfgeekjjlhbdaaGreatDoorTie.lean); close each card by the builder's one call (the guide's Derived/Test/ToyasCard.lean, 'card_holds'). Laid BY PROGRAM, IN A SANDBOX (cutbox-door.mjs). By AI agents, Wed Nov 11 2026. No macro, syntax, notation, axiom, sorry.
-/
import Derived.Test.YtjfgeekjjlhbdaaGreatDoorRows
import GoSem.ClaimSeven
namespace Go.Proofs.YtjfgeekjjlhbdaaGreatDoor
namespace Rows

/-- THE TIED CARD OF 'slothlaw10.MeaningMore'. -/
def meaningMoreCard : Claim7 := { stood := { row := meaningMoreRow, standIns := [], harness := (true, "f8797eaf3cbe44ce7e35f1325e238537e1621ee38718c1ecdb4831a87f55f689"), looks := true }, kinds := [], alts := [], laidByText := true, laidKinds := [.data, .data, .data, .data, .pinned], laidTests := true, laidLooks := .later }
def MeaningMoreCardSaid : Prop := Claim7.holds Tryz.pinned (.plain (OpenSpec.ofChange meaningMoreSpec)) meaningMoreCard

/-- THE TIED CARD OF 'slothlaw10.MeaningNames'. -/
def meaningNamesCard : Claim7 := { stood := { row := meaningNamesRow, standIns := [], harness := (true, "f8797eaf3cbe44ce7e35f1325e238537e1621ee38718c1ecdb4831a87f55f689"), looks := true }, kinds := [], alts := [], laidByText := true, laidKinds := [.data, .data, .data, .data, .pinned], laidTests := true, laidLooks := .later }
def MeaningNamesCardSaid : Prop := Claim7.holds Tryz.pinned (.plain (OpenSpec.ofChange meaningNamesSpec)) meaningNamesCard

/-- THE TIED CARD OF 'slothlaw10.MeaningNumbers'. -/
def meaningNumbersCard : Claim7 := { stood := { row := meaningNumbersRow, standIns := [], harness := (true, "f8797eaf3cbe44ce7e35f1325e238537e1621ee38718c1ecdb4831a87f55f689"), looks := true }, kinds := [], alts := [], laidByText := true, laidKinds := [.data, .data, .data, .data, .pinned], laidTests := true, laidLooks := .later }
def MeaningNumbersCardSaid : Prop := Claim7.holds Tryz.pinned (.plain (OpenSpec.ofChange meaningNumbersSpec)) meaningNumbersCard

/-- THE TIED CARD OF 'slothlaw10.MeaningGives'. -/
def meaningGivesCard : Claim7 := { stood := { row := meaningGivesRow, standIns := [], harness := (true, "f8797eaf3cbe44ce7e35f1325e238537e1621ee38718c1ecdb4831a87f55f689"), looks := true }, kinds := [], alts := [], laidByText := true, laidKinds := [.data, .data, .data, .data, .pinned], laidTests := true, laidLooks := .later }
def MeaningGivesCardSaid : Prop := Claim7.holds Tryz.pinned (.plain (OpenSpec.ofChange meaningGivesSpec)) meaningGivesCard

/-- THE SECOND FORM's CARD OF 'slothlaw10.MeaningMore'. -/
def meaningMoreUptoCard : Claim7 := { stood := { row := meaningMoreUptoRow, standIns := [], harness := (true, "f8797eaf3cbe44ce7e35f1325e238537e1621ee38718c1ecdb4831a87f55f689"), looks := true }, kinds := [], alts := [], laidByText := true, laidKinds := [.data, .data, .data, .data, .pinned], laidTests := true, laidLooks := .later }
def MeaningMoreUptoCardSaid : Prop := Claim7.holds Tryz.pinned (.plain (OpenSpec.upto meaningMoreSpec)) meaningMoreUptoCard

/-- THE SECOND FORM's CARD OF 'slothlaw10.MeaningNames'. -/
def meaningNamesUptoCard : Claim7 := { stood := { row := meaningNamesUptoRow, standIns := [], harness := (true, "f8797eaf3cbe44ce7e35f1325e238537e1621ee38718c1ecdb4831a87f55f689"), looks := true }, kinds := [], alts := [], laidByText := true, laidKinds := [.data, .data, .data, .data, .pinned], laidTests := true, laidLooks := .later }
def MeaningNamesUptoCardSaid : Prop := Claim7.holds Tryz.pinned (.plain (OpenSpec.upto meaningNamesSpec)) meaningNamesUptoCard

/-- THE SECOND FORM's CARD OF 'slothlaw10.MeaningNumbers'. -/
def meaningNumbersUptoCard : Claim7 := { stood := { row := meaningNumbersUptoRow, standIns := [], harness := (true, "f8797eaf3cbe44ce7e35f1325e238537e1621ee38718c1ecdb4831a87f55f689"), looks := true }, kinds := [], alts := [], laidByText := true, laidKinds := [.data, .data, .data, .data, .pinned], laidTests := true, laidLooks := .later }
def MeaningNumbersUptoCardSaid : Prop := Claim7.holds Tryz.pinned (.plain (OpenSpec.upto meaningNumbersSpec)) meaningNumbersUptoCard

/-- THE SECOND FORM's CARD OF 'slothlaw10.MeaningGives'. -/
def meaningGivesUptoCard : Claim7 := { stood := { row := meaningGivesUptoRow, standIns := [], harness := (true, "f8797eaf3cbe44ce7e35f1325e238537e1621ee38718c1ecdb4831a87f55f689"), looks := true }, kinds := [], alts := [], laidByText := true, laidKinds := [.data, .data, .data, .data, .pinned], laidTests := true, laidLooks := .later }
def MeaningGivesUptoCardSaid : Prop := Claim7.holds Tryz.pinned (.plain (OpenSpec.upto meaningGivesSpec)) meaningGivesUptoCard
end Rows
end Go.Proofs.YtjfgeekjjlhbdaaGreatDoor
