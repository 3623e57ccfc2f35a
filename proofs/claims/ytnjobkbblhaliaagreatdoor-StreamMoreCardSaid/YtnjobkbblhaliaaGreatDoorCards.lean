/-
  DERIVED. GIVEN WITH THE SEED: THE CARDS: each row of YtnjobkbblhaliaaGreatDoorRows.lean that lists a variable, with what it lists TIED to the program's text (the seventh form; the later family's looks); each row that meets fmt, with fmt's text TOLD by the authors' own Lean function (tested against real Go, not proved from fmt's source: count such statements apart). THE CARD IS WHAT COUNTS. Prove the row's statement (the work); the ties are given (YtnjobkbblhaliaaGreatDoorTie.lean); close each card by the builder's one call (the guide's Derived/Test/ToyasCard.lean, 'card_holds'). Laid BY PROGRAM, IN A SANDBOX (cutbox-door.mjs). By AI agents, Wed Nov 11 2026. No macro, syntax, notation, axiom, sorry.
-/
import Derived.Test.YtnjobkbblhaliaaGreatDoorRows
import GoSem.ClaimSeven
namespace Go.Proofs.YtnjobkbblhaliaaGreatDoor
namespace Rows

/-- THE TIED CARD OF 'slothlaw23.StreamRuns'. -/
def streamRunsCard : Claim7 := { stood := { row := streamRunsRow, standIns := [], harness := (true, "c895de4540b60ab4098fd94799c8c0d4b80aa81f735a97c82f3d4596227009eb"), looks := false }, kinds := [], alts := [], laidByText := true, laidKinds := [.data, .data, .data], laidTests := true, laidLooks := .later }
def StreamRunsCardSaid : Prop := Claim7.holds Tryz.pinned (.plain (OpenSpec.ofChange streamRunsSpec)) streamRunsCard

/-- THE TIED CARD OF 'slothlaw23.StreamShows'. -/
def streamShowsCard : Claim7 := { stood := { row := streamShowsRow, standIns := [], harness := (true, "c895de4540b60ab4098fd94799c8c0d4b80aa81f735a97c82f3d4596227009eb"), looks := false }, kinds := [], alts := [], laidByText := true, laidKinds := [.data, .data, .data], laidTests := true, laidLooks := .later }
def StreamShowsCardSaid : Prop := Claim7.holds Tryz.pinned (.plain (OpenSpec.ofChange streamShowsSpec)) streamShowsCard

/-- THE TIED CARD OF 'slothlaw23.StreamOpen'. -/
def streamOpenCard : Claim7 := { stood := { row := streamOpenRow, standIns := [], harness := (true, "c895de4540b60ab4098fd94799c8c0d4b80aa81f735a97c82f3d4596227009eb"), looks := false }, kinds := [], alts := [], laidByText := true, laidKinds := [.data, .data, .data], laidTests := true, laidLooks := .later }
def StreamOpenCardSaid : Prop := Claim7.holds Tryz.pinned (.plain (OpenSpec.ofChange streamOpenSpec)) streamOpenCard

/-- THE TIED CARD OF 'slothlaw23.StreamMore'. -/
def streamMoreCard : Claim7 := { stood := { row := streamMoreRow, standIns := [], harness := (true, "c895de4540b60ab4098fd94799c8c0d4b80aa81f735a97c82f3d4596227009eb"), looks := false }, kinds := [], alts := [], laidByText := true, laidKinds := [.data, .data, .data], laidTests := true, laidLooks := .later }
def StreamMoreCardSaid : Prop := Claim7.holds Tryz.pinned (.plain (OpenSpec.ofChange streamMoreSpec)) streamMoreCard

/-- THE TIED CARD OF 'slothlaw23.StreamEach'. -/
def streamEachCard : Claim7 := { stood := { row := streamEachRow, standIns := [], harness := (true, "c895de4540b60ab4098fd94799c8c0d4b80aa81f735a97c82f3d4596227009eb"), looks := false }, kinds := [], alts := [], laidByText := true, laidKinds := [.data, .data, .data], laidTests := true, laidLooks := .later }
def StreamEachCardSaid : Prop := Claim7.holds Tryz.pinned (.plain (OpenSpec.ofChange streamEachSpec)) streamEachCard

/-- THE SECOND FORM's CARD OF 'slothlaw23.StreamRuns'. -/
def streamRunsUptoCard : Claim7 := { stood := { row := streamRunsUptoRow, standIns := [], harness := (true, "c895de4540b60ab4098fd94799c8c0d4b80aa81f735a97c82f3d4596227009eb"), looks := false }, kinds := [], alts := [], laidByText := true, laidKinds := [.data, .data, .data], laidTests := true, laidLooks := .later }
def StreamRunsUptoCardSaid : Prop := Claim7.holds Tryz.pinned (.plain (OpenSpec.upto streamRunsSpec)) streamRunsUptoCard

/-- THE SECOND FORM's CARD OF 'slothlaw23.StreamShows'. -/
def streamShowsUptoCard : Claim7 := { stood := { row := streamShowsUptoRow, standIns := [], harness := (true, "c895de4540b60ab4098fd94799c8c0d4b80aa81f735a97c82f3d4596227009eb"), looks := false }, kinds := [], alts := [], laidByText := true, laidKinds := [.data, .data, .data], laidTests := true, laidLooks := .later }
def StreamShowsUptoCardSaid : Prop := Claim7.holds Tryz.pinned (.plain (OpenSpec.upto streamShowsSpec)) streamShowsUptoCard

/-- THE SECOND FORM's CARD OF 'slothlaw23.StreamOpen'. -/
def streamOpenUptoCard : Claim7 := { stood := { row := streamOpenUptoRow, standIns := [], harness := (true, "c895de4540b60ab4098fd94799c8c0d4b80aa81f735a97c82f3d4596227009eb"), looks := false }, kinds := [], alts := [], laidByText := true, laidKinds := [.data, .data, .data], laidTests := true, laidLooks := .later }
def StreamOpenUptoCardSaid : Prop := Claim7.holds Tryz.pinned (.plain (OpenSpec.upto streamOpenSpec)) streamOpenUptoCard

/-- THE SECOND FORM's CARD OF 'slothlaw23.StreamMore'. -/
def streamMoreUptoCard : Claim7 := { stood := { row := streamMoreUptoRow, standIns := [], harness := (true, "c895de4540b60ab4098fd94799c8c0d4b80aa81f735a97c82f3d4596227009eb"), looks := false }, kinds := [], alts := [], laidByText := true, laidKinds := [.data, .data, .data], laidTests := true, laidLooks := .later }
def StreamMoreUptoCardSaid : Prop := Claim7.holds Tryz.pinned (.plain (OpenSpec.upto streamMoreSpec)) streamMoreUptoCard

/-- THE SECOND FORM's CARD OF 'slothlaw23.StreamEach'. -/
def streamEachUptoCard : Claim7 := { stood := { row := streamEachUptoRow, standIns := [], harness := (true, "c895de4540b60ab4098fd94799c8c0d4b80aa81f735a97c82f3d4596227009eb"), looks := false }, kinds := [], alts := [], laidByText := true, laidKinds := [.data, .data, .data], laidTests := true, laidLooks := .later }
def StreamEachUptoCardSaid : Prop := Claim7.holds Tryz.pinned (.plain (OpenSpec.upto streamEachSpec)) streamEachUptoCard
end Rows
end Go.Proofs.YtnjobkbblhaliaaGreatDoor
