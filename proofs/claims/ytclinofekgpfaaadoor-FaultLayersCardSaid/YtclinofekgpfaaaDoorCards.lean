/-
  DERIVED. GIVEN WITH THE SEED: THE CARDS: each row of YtclinofekgpfaaaDoorRows.lean that lists a variable, with what it lists TIED to the program's text (the seventh form; the later family's looks); each row that meets fmt, with fmt's text TOLD by the authors' own Lean function (tested against real Go, not proved from fmt's source: count such statements apart). THE CARD IS WHAT COUNTS. Prove the row's statement (the work); the ties are given (YtclinofekgpfaaaDoorTie.lean); close each card by the builder's one call (the guide's Derived/Test/ToyasCard.lean, 'card_holds'). Laid BY PROGRAM, IN A SANDBOX (cutbox-door.mjs). By AI agents, Wed Nov 11 2026. No macro, syntax, notation, axiom, sorry.
-/
import Derived.Test.YtclinofekgpfaaaDoorRows
import GoSem.ClaimSeven
namespace Go.Proofs.YtclinofekgpfaaaDoor
namespace Rows

/-- THE TIED CARD OF 'leatlaw15.FaultWraps'. -/
def faultWrapsCard : Claim7 := { stood := { row := faultWrapsRow, standIns := [], harness := (true, "63b644ebfffd31c281ba6d5b9b9d6ee58db2d348a6d2dc80fe23981d342191e5"), looks := true }, kinds := [], alts := [], laidByText := true, laidKinds := [.handle], laidTests := true, laidLooks := .later }
def FaultWrapsCardSaid : Prop := Claim7.holds Tryd.pinned (.plain (OpenSpec.ofChange faultWrapsSpec)) faultWrapsCard

/-- THE TIED CARD OF 'leatlaw15.FaultCodes'. -/
def faultCodesCard : Claim7 := { stood := { row := faultCodesRow, standIns := [], harness := (true, "63b644ebfffd31c281ba6d5b9b9d6ee58db2d348a6d2dc80fe23981d342191e5"), looks := true }, kinds := [], alts := [], laidByText := true, laidKinds := [.handle], laidTests := true, laidLooks := .later }
def FaultCodesCardSaid : Prop := Claim7.holds Tryd.pinned (.plain (OpenSpec.ofChange faultCodesSpec)) faultCodesCard

/-- THE TIED CARD OF 'leatlaw15.FaultLayers'. -/
def faultLayersCard : Claim7 := { stood := { row := faultLayersRow, standIns := [], harness := (true, "63b644ebfffd31c281ba6d5b9b9d6ee58db2d348a6d2dc80fe23981d342191e5"), looks := true }, kinds := [], alts := [], laidByText := true, laidKinds := [.handle], laidTests := true, laidLooks := .later }
def FaultLayersCardSaid : Prop := Claim7.holds Tryd.pinned (.plain (OpenSpec.ofChange faultLayersSpec)) faultLayersCard

/-- THE TIED CARD OF 'leatlaw15.FaultFinds'. -/
def faultFindsCard : Claim7 := { stood := { row := faultFindsRow, standIns := [], harness := (true, "63b644ebfffd31c281ba6d5b9b9d6ee58db2d348a6d2dc80fe23981d342191e5"), looks := true }, kinds := [], alts := [], laidByText := true, laidKinds := [.handle], laidTests := true, laidLooks := .later }
def FaultFindsCardSaid : Prop := Claim7.holds Tryd.pinned (.plain (OpenSpec.ofChange faultFindsSpec)) faultFindsCard

/-- THE SECOND FORM's CARD OF 'leatlaw15.FaultWraps'. -/
def faultWrapsUptoCard : Claim7 := { stood := { row := faultWrapsUptoRow, standIns := [], harness := (true, "63b644ebfffd31c281ba6d5b9b9d6ee58db2d348a6d2dc80fe23981d342191e5"), looks := true }, kinds := [], alts := [], laidByText := true, laidKinds := [.handle], laidTests := true, laidLooks := .later }
def FaultWrapsUptoCardSaid : Prop := Claim7.holds Tryd.pinned (.plain (OpenSpec.upto faultWrapsSpec)) faultWrapsUptoCard

/-- THE SECOND FORM's CARD OF 'leatlaw15.FaultCodes'. -/
def faultCodesUptoCard : Claim7 := { stood := { row := faultCodesUptoRow, standIns := [], harness := (true, "63b644ebfffd31c281ba6d5b9b9d6ee58db2d348a6d2dc80fe23981d342191e5"), looks := true }, kinds := [], alts := [], laidByText := true, laidKinds := [.handle], laidTests := true, laidLooks := .later }
def FaultCodesUptoCardSaid : Prop := Claim7.holds Tryd.pinned (.plain (OpenSpec.upto faultCodesSpec)) faultCodesUptoCard

/-- THE SECOND FORM's CARD OF 'leatlaw15.FaultLayers'. -/
def faultLayersUptoCard : Claim7 := { stood := { row := faultLayersUptoRow, standIns := [], harness := (true, "63b644ebfffd31c281ba6d5b9b9d6ee58db2d348a6d2dc80fe23981d342191e5"), looks := true }, kinds := [], alts := [], laidByText := true, laidKinds := [.handle], laidTests := true, laidLooks := .later }
def FaultLayersUptoCardSaid : Prop := Claim7.holds Tryd.pinned (.plain (OpenSpec.upto faultLayersSpec)) faultLayersUptoCard

/-- THE SECOND FORM's CARD OF 'leatlaw15.FaultFinds'. -/
def faultFindsUptoCard : Claim7 := { stood := { row := faultFindsUptoRow, standIns := [], harness := (true, "63b644ebfffd31c281ba6d5b9b9d6ee58db2d348a6d2dc80fe23981d342191e5"), looks := true }, kinds := [], alts := [], laidByText := true, laidKinds := [.handle], laidTests := true, laidLooks := .later }
def FaultFindsUptoCardSaid : Prop := Claim7.holds Tryd.pinned (.plain (OpenSpec.upto faultFindsSpec)) faultFindsUptoCard
end Rows
end Go.Proofs.YtclinofekgpfaaaDoor
