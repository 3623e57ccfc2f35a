/-
  DERIVED. GIVEN WITH THE SEED: THE CARDS: each row of YtekkkjbjnhipkaaGreatDoorRows.lean that lists a variable, with what it lists TIED to the program's text (the seventh form; the later family's looks); each row that meets fmt, with fmt's text TOLD by the authors' own Lean function (tested against real Go, not proved from fmt's source: count such statements apart). THE CARD IS WHAT COUNTS. Prove the row's statement (the work); the ties are given (YtekkkjbjnhipkaaGreatDoorTie.lean); close each card by the builder's one call (the guide's Derived/Test/ToyasCard.lean, 'card_holds'). Laid BY PROGRAM, IN A SANDBOX (cutbox-door.mjs). By AI agents, Wed Nov 11 2026. No macro, syntax, notation, axiom, sorry.
-/
import Derived.Test.YtekkkjbjnhipkaaGreatDoorRows
import GoSem.ClaimSeven
namespace Go.Proofs.YtekkkjbjnhipkaaGreatDoor
namespace Rows

/-- THE TIED CARD OF 'slothlaw12.MonoMeans'. -/
def monoMeansCard : Claim7 := { stood := { row := monoMeansRow, standIns := [], harness := (true, "251bd19133340fbf09bc75123c725f7ded31d18d62a1ec4e7360ed19bfc23516"), looks := true }, kinds := [], alts := [], laidByText := true, laidKinds := [.data, .data, .data, .data, .pinned], laidTests := true, laidLooks := .later }
def MonoMeansCardSaid : Prop := Claim7.holds Tryz.pinned (.plain (OpenSpec.ofChange monoMeansSpec)) monoMeansCard

/-- THE SECOND FORM's CARD OF 'slothlaw12.MonoMeans'. -/
def monoMeansUptoCard : Claim7 := { stood := { row := monoMeansUptoRow, standIns := [], harness := (true, "251bd19133340fbf09bc75123c725f7ded31d18d62a1ec4e7360ed19bfc23516"), looks := true }, kinds := [], alts := [], laidByText := true, laidKinds := [.data, .data, .data, .data, .pinned], laidTests := true, laidLooks := .later }
def MonoMeansUptoCardSaid : Prop := Claim7.holds Tryz.pinned (.plain (OpenSpec.upto monoMeansSpec)) monoMeansUptoCard
end Rows
end Go.Proofs.YtekkkjbjnhipkaaGreatDoor
