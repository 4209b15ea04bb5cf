/-
  DERIVED. GIVEN WITH THE SEED: THE CARDS: each row of YtjiblegnknhghaaDoorRows.lean that lists a variable, with what it lists TIED to the program's text (the seventh form; the later family's looks); each row that meets fmt, with fmt's text TOLD by the authors' own Lean function (tested against real Go, not proved from fmt's source: count such statements apart). THE CARD IS WHAT COUNTS. Prove the row's statement (the work); the ties are given (YtjiblegnknhghaaDoorTie.lean); close each card by the builder's one call (the guide's Derived/Test/ToyasCard.lean, 'card_holds'). Laid BY PROGRAM, IN A SANDBOX (cutbox-door.mjs). By AI agents, Wed Nov 11 2026. No macro, syntax, notation, axiom, sorry.
-/
import Derived.Test.YtjiblegnknhghaaDoorRows
import GoSem.ClaimSeven
namespace Go.Proofs.YtjiblegnknhghaaDoor
namespace Rows

/-- THE TIED CARD OF 'leatlaw04.LabelClashes'. -/
def labelClashesCard : Claim7 := { stood := { row := labelClashesRow, standIns := [], harness := (true, "91b70cb7a41ad4a3b7add3d623a95341658b8480a1a4c190c436a289b5b2a170"), looks := true }, kinds := [], alts := [], laidByText := true, laidKinds := [.data, .data, .data, .data, .pinned], laidTests := true, laidLooks := .later }
def LabelClashesCardSaid : Prop := Claim7.holds Tryd.pinned (.plain (OpenSpec.ofChange labelClashesSpec)) labelClashesCard

/-- THE TIED CARD OF 'leatlaw04.LabelNames'. -/
def labelNamesCard : Claim7 := { stood := { row := labelNamesRow, standIns := [], harness := (true, "91b70cb7a41ad4a3b7add3d623a95341658b8480a1a4c190c436a289b5b2a170"), looks := true }, kinds := [], alts := [], laidByText := true, laidKinds := [.data, .data, .data, .data, .pinned], laidTests := true, laidLooks := .later }
def LabelNamesCardSaid : Prop := Claim7.holds Tryd.pinned (.plain (OpenSpec.ofChange labelNamesSpec)) labelNamesCard

/-- THE TIED CARD OF 'leatlaw04.LabelDirs'. -/
def labelDirsCard : Claim7 := { stood := { row := labelDirsRow, standIns := [], harness := (true, "91b70cb7a41ad4a3b7add3d623a95341658b8480a1a4c190c436a289b5b2a170"), looks := true }, kinds := [], alts := [], laidByText := true, laidKinds := [.data, .data, .data, .sentinel, .sentinel], laidTests := true, laidLooks := .later }
def LabelDirsCardSaid : Prop := Claim7.holds Tryd.pinned (.plain (OpenSpec.ofChange labelDirsSpec)) labelDirsCard

/-- THE TIED CARD OF 'leatlaw04.LabelApart'. -/
def labelApartCard : Claim7 := { stood := { row := labelApartRow, standIns := [], harness := (true, "91b70cb7a41ad4a3b7add3d623a95341658b8480a1a4c190c436a289b5b2a170"), looks := true }, kinds := [], alts := [], laidByText := true, laidKinds := [.data, .data, .data, .sentinel, .sentinel], laidTests := true, laidLooks := .later }
def LabelApartCardSaid : Prop := Claim7.holds Tryd.pinned (.plain (OpenSpec.ofChange labelApartSpec)) labelApartCard

/-- THE TIED CARD OF 'leatlaw04.LabelFiles'. -/
def labelFilesCard : Claim7 := { stood := { row := labelFilesRow, standIns := [], harness := (true, "91b70cb7a41ad4a3b7add3d623a95341658b8480a1a4c190c436a289b5b2a170"), looks := true }, kinds := [], alts := [], laidByText := true, laidKinds := [.data, .data, .data, .sentinel, .sentinel], laidTests := true, laidLooks := .later }
def LabelFilesCardSaid : Prop := Claim7.holds Tryd.pinned (.plain (OpenSpec.ofChange labelFilesSpec)) labelFilesCard

/-- THE TIED CARD OF 'leatlaw04.LabelOrder'. -/
def labelOrderCard : Claim7 := { stood := { row := labelOrderRow, standIns := [], harness := (true, "91b70cb7a41ad4a3b7add3d623a95341658b8480a1a4c190c436a289b5b2a170"), looks := true }, kinds := [], alts := [], laidByText := true, laidKinds := [.data, .data, .data, .sentinel, .sentinel], laidTests := true, laidLooks := .later }
def LabelOrderCardSaid : Prop := Claim7.holds Tryd.pinned (.plain (OpenSpec.ofChange labelOrderSpec)) labelOrderCard

/-- THE SECOND FORM's CARD OF 'leatlaw04.LabelClashes'. -/
def labelClashesUptoCard : Claim7 := { stood := { row := labelClashesUptoRow, standIns := [], harness := (true, "91b70cb7a41ad4a3b7add3d623a95341658b8480a1a4c190c436a289b5b2a170"), looks := true }, kinds := [], alts := [], laidByText := true, laidKinds := [.data, .data, .data, .data, .pinned], laidTests := true, laidLooks := .later }
def LabelClashesUptoCardSaid : Prop := Claim7.holds Tryd.pinned (.plain (OpenSpec.upto labelClashesSpec)) labelClashesUptoCard

/-- THE SECOND FORM's CARD OF 'leatlaw04.LabelNames'. -/
def labelNamesUptoCard : Claim7 := { stood := { row := labelNamesUptoRow, standIns := [], harness := (true, "91b70cb7a41ad4a3b7add3d623a95341658b8480a1a4c190c436a289b5b2a170"), looks := true }, kinds := [], alts := [], laidByText := true, laidKinds := [.data, .data, .data, .data, .pinned], laidTests := true, laidLooks := .later }
def LabelNamesUptoCardSaid : Prop := Claim7.holds Tryd.pinned (.plain (OpenSpec.upto labelNamesSpec)) labelNamesUptoCard

/-- THE SECOND FORM's CARD OF 'leatlaw04.LabelDirs'. -/
def labelDirsUptoCard : Claim7 := { stood := { row := labelDirsUptoRow, standIns := [], harness := (true, "91b70cb7a41ad4a3b7add3d623a95341658b8480a1a4c190c436a289b5b2a170"), looks := true }, kinds := [], alts := [], laidByText := true, laidKinds := [.data, .data, .data, .sentinel, .sentinel], laidTests := true, laidLooks := .later }
def LabelDirsUptoCardSaid : Prop := Claim7.holds Tryd.pinned (.plain (OpenSpec.upto labelDirsSpec)) labelDirsUptoCard

/-- THE SECOND FORM's CARD OF 'leatlaw04.LabelApart'. -/
def labelApartUptoCard : Claim7 := { stood := { row := labelApartUptoRow, standIns := [], harness := (true, "91b70cb7a41ad4a3b7add3d623a95341658b8480a1a4c190c436a289b5b2a170"), looks := true }, kinds := [], alts := [], laidByText := true, laidKinds := [.data, .data, .data, .sentinel, .sentinel], laidTests := true, laidLooks := .later }
def LabelApartUptoCardSaid : Prop := Claim7.holds Tryd.pinned (.plain (OpenSpec.upto labelApartSpec)) labelApartUptoCard

/-- THE SECOND FORM's CARD OF 'leatlaw04.LabelFiles'. -/
def labelFilesUptoCard : Claim7 := { stood := { row := labelFilesUptoRow, standIns := [], harness := (true, "91b70cb7a41ad4a3b7add3d623a95341658b8480a1a4c190c436a289b5b2a170"), looks := true }, kinds := [], alts := [], laidByText := true, laidKinds := [.data, .data, .data, .sentinel, .sentinel], laidTests := true, laidLooks := .later }
def LabelFilesUptoCardSaid : Prop := Claim7.holds Tryd.pinned (.plain (OpenSpec.upto labelFilesSpec)) labelFilesUptoCard

/-- THE SECOND FORM's CARD OF 'leatlaw04.LabelOrder'. -/
def labelOrderUptoCard : Claim7 := { stood := { row := labelOrderUptoRow, standIns := [], harness := (true, "91b70cb7a41ad4a3b7add3d623a95341658b8480a1a4c190c436a289b5b2a170"), looks := true }, kinds := [], alts := [], laidByText := true, laidKinds := [.data, .data, .data, .sentinel, .sentinel], laidTests := true, laidLooks := .later }
def LabelOrderUptoCardSaid : Prop := Claim7.holds Tryd.pinned (.plain (OpenSpec.upto labelOrderSpec)) labelOrderUptoCard
end Rows
end Go.Proofs.YtjiblegnknhghaaDoor
