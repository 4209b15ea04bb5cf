/-
  DERIVED. GIVEN WITH THE SEED: THE CARDS: each row of YtciikcmiiebfpaaGreatDoorRows.lean that lists a variable, with what it lists TIED to the program's text (the seventh form; the later family's looks); each row that meets fmt, with fmt's text TOLD by the authors' own Lean function (tested against real Go, not proved from fmt's source: count such statements apart). THE CARD IS WHAT COUNTS. Prove the row's statement (the work); the ties are given (YtciikcmiiebfpaaGreatDoorTie.lean); close each card by the builder's one call (the guide's Derived/Test/ToyasCard.lean, 'card_holds'). Laid BY PROGRAM, IN A SANDBOX (cutbox-door.mjs). By AI agents, Wed Nov 11 2026. No macro, syntax, notation, axiom, sorry.
-/
import Derived.Test.YtciikcmiiebfpaaGreatDoorRows
import GoSem.ClaimSeven
namespace Go.Proofs.YtciikcmiiebfpaaGreatDoor
namespace Rows

/-- THE TIED CARD OF 'leatlaw23.TopicsGets'. -/
def topicsGetsCard : Claim7 := { stood := { row := topicsGetsRow, standIns := [], harness := (true, "7fbd5005e513b9838f0ff4e7850ccc0159197af5ac2e78f2f118609925cca842"), looks := true }, kinds := [], alts := [], laidByText := true, laidKinds := [.data, .data, .data, .data, .sentinel, .sentinel, .data, .pinned], laidTests := true, laidLooks := .later }
def TopicsGetsCardSaid : Prop := Claim7.holds Tryz.pinned (.plain (OpenSpec.ofChange topicsGetsSpec)) topicsGetsCard

/-- THE SECOND FORM's CARD OF 'leatlaw23.TopicsGets'. -/
def topicsGetsUptoCard : Claim7 := { stood := { row := topicsGetsUptoRow, standIns := [], harness := (true, "7fbd5005e513b9838f0ff4e7850ccc0159197af5ac2e78f2f118609925cca842"), looks := true }, kinds := [], alts := [], laidByText := true, laidKinds := [.data, .data, .data, .data, .sentinel, .sentinel, .data, .pinned], laidTests := true, laidLooks := .later }
def TopicsGetsUptoCardSaid : Prop := Claim7.holds Tryz.pinned (.plain (OpenSpec.upto topicsGetsSpec)) topicsGetsUptoCard
end Rows
end Go.Proofs.YtciikcmiiebfpaaGreatDoor
