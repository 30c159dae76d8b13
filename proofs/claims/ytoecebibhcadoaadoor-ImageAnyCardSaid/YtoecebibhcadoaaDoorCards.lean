/-
  DERIVED. GIVEN WITH THE SEED: THE CARDS: each row of YtoecebibhcadoaaDoorRows.lean that lists a variable, with what it lists TIED to the program's text (the seventh form; the later family's looks); each row that meets fmt, with fmt's text TOLD by the authors' own Lean function (tested against real Go, not proved from fmt's source: count such statements apart). THE CARD IS WHAT COUNTS. Prove the row's statement (the work); the ties are given (YtoecebibhcadoaaDoorTie.lean); close each card by the builder's one call (the guide's Derived/Test/ToyasCard.lean, 'card_holds'). Laid BY PROGRAM, IN A SANDBOX (cutbox-door.mjs). By AI agents, Wed Nov 11 2026. No macro, syntax, notation, axiom, sorry.
-/
import Derived.Test.YtoecebibhcadoaaDoorRows
import GoSem.ClaimSeven
namespace Go.Proofs.YtoecebibhcadoaaDoor
namespace Rows

/-- THE TIED CARD OF 'handbelllaw06.ImageBack'. -/
def imageBackCard : Claim7 := { stood := { row := imageBackRow, standIns := [], harness := (true, "bf61a0ac0b77768fd6463ca71fcf3807c313b05a13ffb6325fe70bc381b5822f"), looks := true }, kinds := [], alts := [], laidByText := true, laidKinds := [.handle], laidTests := true, laidLooks := .later }
def ImageBackCardSaid : Prop := Claim7.holds Tryd.pinned (.plain (OpenSpec.ofChange imageBackSpec)) imageBackCard

/-- THE TIED CARD OF 'handbelllaw06.ImageDecodes'. -/
def imageDecodesCard : Claim7 := { stood := { row := imageDecodesRow, standIns := [], harness := (true, "bf61a0ac0b77768fd6463ca71fcf3807c313b05a13ffb6325fe70bc381b5822f"), looks := true }, kinds := [], alts := [], laidByText := true, laidKinds := [.handle], laidTests := true, laidLooks := .later }
def ImageDecodesCardSaid : Prop := Claim7.holds Tryd.pinned (.plain (OpenSpec.ofChange imageDecodesSpec)) imageDecodesCard

/-- THE TIED CARD OF 'handbelllaw06.ImageTurned'. -/
def imageTurnedCard : Claim7 := { stood := { row := imageTurnedRow, standIns := [], harness := (true, "bf61a0ac0b77768fd6463ca71fcf3807c313b05a13ffb6325fe70bc381b5822f"), looks := true }, kinds := [], alts := [], laidByText := true, laidKinds := [.handle], laidTests := true, laidLooks := .later }
def ImageTurnedCardSaid : Prop := Claim7.holds Tryd.pinned (.plain (OpenSpec.ofChange imageTurnedSpec)) imageTurnedCard

/-- THE TIED CARD OF 'handbelllaw06.ImageCut'. -/
def imageCutCard : Claim7 := { stood := { row := imageCutRow, standIns := [], harness := (true, "bf61a0ac0b77768fd6463ca71fcf3807c313b05a13ffb6325fe70bc381b5822f"), looks := true }, kinds := [], alts := [], laidByText := true, laidKinds := [.handle], laidTests := true, laidLooks := .later }
def ImageCutCardSaid : Prop := Claim7.holds Tryd.pinned (.plain (OpenSpec.ofChange imageCutSpec)) imageCutCard

/-- THE TIED CARD OF 'handbelllaw06.ImageAny'. -/
def imageAnyCard : Claim7 := { stood := { row := imageAnyRow, standIns := [], harness := (true, "bf61a0ac0b77768fd6463ca71fcf3807c313b05a13ffb6325fe70bc381b5822f"), looks := true }, kinds := [], alts := [], laidByText := true, laidKinds := [.handle], laidTests := true, laidLooks := .later }
def ImageAnyCardSaid : Prop := Claim7.holds Tryd.pinned (.plain (OpenSpec.ofChange imageAnySpec)) imageAnyCard

/-- THE TIED CARD OF 'handbelllaw06.ImageLength'. -/
def imageLengthCard : Claim7 := { stood := { row := imageLengthRow, standIns := [], harness := (true, "bf61a0ac0b77768fd6463ca71fcf3807c313b05a13ffb6325fe70bc381b5822f"), looks := true }, kinds := [], alts := [], laidByText := true, laidKinds := [.handle], laidTests := true, laidLooks := .later }
def ImageLengthCardSaid : Prop := Claim7.holds Tryd.pinned (.plain (OpenSpec.ofChange imageLengthSpec)) imageLengthCard

/-- THE SECOND FORM's CARD OF 'handbelllaw06.ImageBack'. -/
def imageBackUptoCard : Claim7 := { stood := { row := imageBackUptoRow, standIns := [], harness := (true, "bf61a0ac0b77768fd6463ca71fcf3807c313b05a13ffb6325fe70bc381b5822f"), looks := true }, kinds := [], alts := [], laidByText := true, laidKinds := [.handle], laidTests := true, laidLooks := .later }
def ImageBackUptoCardSaid : Prop := Claim7.holds Tryd.pinned (.plain (OpenSpec.upto imageBackSpec)) imageBackUptoCard

/-- THE SECOND FORM's CARD OF 'handbelllaw06.ImageDecodes'. -/
def imageDecodesUptoCard : Claim7 := { stood := { row := imageDecodesUptoRow, standIns := [], harness := (true, "bf61a0ac0b77768fd6463ca71fcf3807c313b05a13ffb6325fe70bc381b5822f"), looks := true }, kinds := [], alts := [], laidByText := true, laidKinds := [.handle], laidTests := true, laidLooks := .later }
def ImageDecodesUptoCardSaid : Prop := Claim7.holds Tryd.pinned (.plain (OpenSpec.upto imageDecodesSpec)) imageDecodesUptoCard

/-- THE SECOND FORM's CARD OF 'handbelllaw06.ImageTurned'. -/
def imageTurnedUptoCard : Claim7 := { stood := { row := imageTurnedUptoRow, standIns := [], harness := (true, "bf61a0ac0b77768fd6463ca71fcf3807c313b05a13ffb6325fe70bc381b5822f"), looks := true }, kinds := [], alts := [], laidByText := true, laidKinds := [.handle], laidTests := true, laidLooks := .later }
def ImageTurnedUptoCardSaid : Prop := Claim7.holds Tryd.pinned (.plain (OpenSpec.upto imageTurnedSpec)) imageTurnedUptoCard

/-- THE SECOND FORM's CARD OF 'handbelllaw06.ImageCut'. -/
def imageCutUptoCard : Claim7 := { stood := { row := imageCutUptoRow, standIns := [], harness := (true, "bf61a0ac0b77768fd6463ca71fcf3807c313b05a13ffb6325fe70bc381b5822f"), looks := true }, kinds := [], alts := [], laidByText := true, laidKinds := [.handle], laidTests := true, laidLooks := .later }
def ImageCutUptoCardSaid : Prop := Claim7.holds Tryd.pinned (.plain (OpenSpec.upto imageCutSpec)) imageCutUptoCard

/-- THE SECOND FORM's CARD OF 'handbelllaw06.ImageAny'. -/
def imageAnyUptoCard : Claim7 := { stood := { row := imageAnyUptoRow, standIns := [], harness := (true, "bf61a0ac0b77768fd6463ca71fcf3807c313b05a13ffb6325fe70bc381b5822f"), looks := true }, kinds := [], alts := [], laidByText := true, laidKinds := [.handle], laidTests := true, laidLooks := .later }
def ImageAnyUptoCardSaid : Prop := Claim7.holds Tryd.pinned (.plain (OpenSpec.upto imageAnySpec)) imageAnyUptoCard

/-- THE SECOND FORM's CARD OF 'handbelllaw06.ImageLength'. -/
def imageLengthUptoCard : Claim7 := { stood := { row := imageLengthUptoRow, standIns := [], harness := (true, "bf61a0ac0b77768fd6463ca71fcf3807c313b05a13ffb6325fe70bc381b5822f"), looks := true }, kinds := [], alts := [], laidByText := true, laidKinds := [.handle], laidTests := true, laidLooks := .later }
def ImageLengthUptoCardSaid : Prop := Claim7.holds Tryd.pinned (.plain (OpenSpec.upto imageLengthSpec)) imageLengthUptoCard
end Rows
end Go.Proofs.YtoecebibhcadoaaDoor
