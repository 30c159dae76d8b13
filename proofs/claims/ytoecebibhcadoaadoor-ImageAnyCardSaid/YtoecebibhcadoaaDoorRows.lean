/-
  NARROWER THAN 'FOR EVERY INPUT', by the rows' own cells (each row's printed sentence says how): ImageBack: laid · ImageDecodes: laid · ImageTurned: laid · ImageCut: laid · ImageAny: laid · ImageLength: laid.
  DERIVED. THE GIVEN ROWS OF THIS SEAT. 6 by the template 'for every input the law returns true; each argument reads behind the call as it read before'; 0 by the template 'total and deterministic' (their statements: YtoecebibhcadoaaDoorTotals.lean).
  GIVEN WITH THE SEED: the statements are not yours to turn. If you find one false, say at which input.
  Laid BY PROGRAM, IN A SANDBOX (cutbox-rows.mjs): the forced cells as the released guide's own fill.sh prints them over the translation 787f3b0fa6d51107… (all of the seat's roots in one cut). By AI agents, Wed Nov 11 2026. No macro, syntax, notation, axiom, sorry.
-/
import Derived.Test.YtoecebibhcadoaaDoorChecked
import GoSem.Claim
import GoSem.ClaimJoined
import GoSem.ClaimMapViews
import Derived.JoinedTies
import Derived.KernelRfl
namespace Go.Proofs.YtoecebibhcadoaaDoor
/- THE CELL 'sum', in the pinned program and in every row, IS THE sha256 OF THE DUMP (.gsa) THAT YtoecebibhcadoaaDoorProg.lean LOADS. Nothing in Lean hashes anything: it is a label: what it is worth is what the hold of that sum in a sandbox is worth. -/
noncomputable def Tryd.pinned : Pinned := { name := "ytoecebibhcadoaadoor", sum := "787f3b0fa6d51107ca58384cb5d883f53d19a4292084e3ce25d0539243ac4754", checked := Tryd.checked }
namespace Rows
def none {H : Type} : Left H := { results := [], args := [] }

/- WHAT THE LISTED PACKAGE-LEVEL VARIABLES READ AS WHEN THE CALL BEGINS. Each datum BY PROGRAM (the guide's laid-datum.mjs) off the statement by which the dump's own 'gosem.cut.vars' lays the variable. In a bare row this is a premise. The card (YtoecebibhcadoaaDoorCards.lean) ties it to the program's text. -/
def laid_errors_errorType {H : Type} : DataW H := .iface "internal/reflectlite.rtype" (.agg [.ptr (.lit (.string [101, 114, 114, 111, 114]))])

/-- 'handbelllaw06.ImageBack': WHATEVER THE INPUT: true; the input reads as it did. -/
def imageBackSpec : ChangeSpec := { name := "imageBack", fn := fun _ => fun
  | [d] => { results := [.lit (.bool true)], args := [d] }
  | _ => none }
def imageBackRow : OpenClaim := { program := "ytoecebibhcadoaadoor", sum := "787f3b0fa6d51107ca58384cb5d883f53d19a4292084e3ce25d0539243ac4754", func := "handbell/handbelllaw06.ImageBack", spec := "imageBack", inPlace := ["internal/reflectlite.ValueOf", "(internal/reflectlite.Value).Type", "(internal/reflectlite.Value).IsNil", "internal/reflectlite.TypeOf", "(internal/reflectlite.Value).Elem", "(internal/reflectlite.Value).Set"], unfollowed := true, recurses := true, named := ["errors.errorType"], apart := false, laid := [("errors.errorType", laid_errors_errorType)] }
def ImageBackSaid : Prop := imageBackRow.holds Tryd.pinned (OpenSpec.ofChange imageBackSpec)

/-- ITS FALSE NEIGHBOUR: 'it returns false'. Refute it at one input. -/
def imageBackWrong : ChangeSpec := { name := "imageBack", fn := fun _ => fun
  | [d] => { results := [.lit (.bool false)], args := [d] }
  | _ => none }
def ImageBackWrongFalsely : Prop := imageBackRow.holds Tryd.pinned (OpenSpec.ofChange imageBackWrong)

/-- 'handbelllaw06.ImageDecodes': WHATEVER THE INPUT: true; the input reads as it did. -/
def imageDecodesSpec : ChangeSpec := { name := "imageDecodes", fn := fun _ => fun
  | [d] => { results := [.lit (.bool true)], args := [d] }
  | _ => none }
def imageDecodesRow : OpenClaim := { program := "ytoecebibhcadoaadoor", sum := "787f3b0fa6d51107ca58384cb5d883f53d19a4292084e3ce25d0539243ac4754", func := "handbell/handbelllaw06.ImageDecodes", spec := "imageDecodes", inPlace := ["internal/reflectlite.ValueOf", "(internal/reflectlite.Value).Type", "(internal/reflectlite.Value).IsNil", "internal/reflectlite.TypeOf", "(internal/reflectlite.Value).Elem", "(internal/reflectlite.Value).Set"], unfollowed := true, recurses := true, named := ["errors.errorType"], apart := false, laid := [("errors.errorType", laid_errors_errorType)] }
def ImageDecodesSaid : Prop := imageDecodesRow.holds Tryd.pinned (OpenSpec.ofChange imageDecodesSpec)

/-- ITS FALSE NEIGHBOUR: 'it returns false'. Refute it at one input. -/
def imageDecodesWrong : ChangeSpec := { name := "imageDecodes", fn := fun _ => fun
  | [d] => { results := [.lit (.bool false)], args := [d] }
  | _ => none }
def ImageDecodesWrongFalsely : Prop := imageDecodesRow.holds Tryd.pinned (OpenSpec.ofChange imageDecodesWrong)

/-- 'handbelllaw06.ImageTurned': WHATEVER THE INPUT: true; the input reads as it did. -/
def imageTurnedSpec : ChangeSpec := { name := "imageTurned", fn := fun _ => fun
  | [d1, d2, d3, d4, d5] => { results := [.lit (.bool true)], args := [d1, d2, d3, d4, d5] }
  | _ => none }
def imageTurnedRow : OpenClaim := { program := "ytoecebibhcadoaadoor", sum := "787f3b0fa6d51107ca58384cb5d883f53d19a4292084e3ce25d0539243ac4754", func := "handbell/handbelllaw06.ImageTurned", spec := "imageTurned", inPlace := ["internal/reflectlite.ValueOf", "(internal/reflectlite.Value).Type", "(internal/reflectlite.Value).IsNil", "internal/reflectlite.TypeOf", "(internal/reflectlite.Value).Elem", "(internal/reflectlite.Value).Set"], unfollowed := true, recurses := true, named := ["errors.errorType"], apart := false, laid := [("errors.errorType", laid_errors_errorType)] }
def ImageTurnedSaid : Prop := imageTurnedRow.holds Tryd.pinned (OpenSpec.ofChange imageTurnedSpec)

/-- ITS FALSE NEIGHBOUR: 'it returns false'. Refute it at one input. -/
def imageTurnedWrong : ChangeSpec := { name := "imageTurned", fn := fun _ => fun
  | [d1, d2, d3, d4, d5] => { results := [.lit (.bool false)], args := [d1, d2, d3, d4, d5] }
  | _ => none }
def ImageTurnedWrongFalsely : Prop := imageTurnedRow.holds Tryd.pinned (OpenSpec.ofChange imageTurnedWrong)

/-- 'handbelllaw06.ImageCut': WHATEVER THE INPUT: true; the input reads as it did. -/
def imageCutSpec : ChangeSpec := { name := "imageCut", fn := fun _ => fun
  | [d1, d2] => { results := [.lit (.bool true)], args := [d1, d2] }
  | _ => none }
def imageCutRow : OpenClaim := { program := "ytoecebibhcadoaadoor", sum := "787f3b0fa6d51107ca58384cb5d883f53d19a4292084e3ce25d0539243ac4754", func := "handbell/handbelllaw06.ImageCut", spec := "imageCut", inPlace := ["internal/reflectlite.ValueOf", "(internal/reflectlite.Value).Type", "(internal/reflectlite.Value).IsNil", "internal/reflectlite.TypeOf", "(internal/reflectlite.Value).Elem", "(internal/reflectlite.Value).Set"], unfollowed := true, recurses := true, named := ["errors.errorType"], apart := false, laid := [("errors.errorType", laid_errors_errorType)] }
def ImageCutSaid : Prop := imageCutRow.holds Tryd.pinned (OpenSpec.ofChange imageCutSpec)

/-- ITS FALSE NEIGHBOUR: 'it returns false'. Refute it at one input. -/
def imageCutWrong : ChangeSpec := { name := "imageCut", fn := fun _ => fun
  | [d1, d2] => { results := [.lit (.bool false)], args := [d1, d2] }
  | _ => none }
def ImageCutWrongFalsely : Prop := imageCutRow.holds Tryd.pinned (OpenSpec.ofChange imageCutWrong)

/-- 'handbelllaw06.ImageAny': WHATEVER THE INPUT: true; the input reads as it did. -/
def imageAnySpec : ChangeSpec := { name := "imageAny", fn := fun _ => fun
  | [d1, d2, d3, d4, d5, d6, d7, d8] => { results := [.lit (.bool true)], args := [d1, d2, d3, d4, d5, d6, d7, d8] }
  | _ => none }
def imageAnyRow : OpenClaim := { program := "ytoecebibhcadoaadoor", sum := "787f3b0fa6d51107ca58384cb5d883f53d19a4292084e3ce25d0539243ac4754", func := "handbell/handbelllaw06.ImageAny", spec := "imageAny", inPlace := ["internal/reflectlite.ValueOf", "(internal/reflectlite.Value).Type", "(internal/reflectlite.Value).IsNil", "internal/reflectlite.TypeOf", "(internal/reflectlite.Value).Elem", "(internal/reflectlite.Value).Set"], unfollowed := true, recurses := true, named := ["errors.errorType"], apart := false, laid := [("errors.errorType", laid_errors_errorType)] }
def ImageAnySaid : Prop := imageAnyRow.holds Tryd.pinned (OpenSpec.ofChange imageAnySpec)

/-- ITS FALSE NEIGHBOUR: 'it returns false'. Refute it at one input. -/
def imageAnyWrong : ChangeSpec := { name := "imageAny", fn := fun _ => fun
  | [d1, d2, d3, d4, d5, d6, d7, d8] => { results := [.lit (.bool false)], args := [d1, d2, d3, d4, d5, d6, d7, d8] }
  | _ => none }
def ImageAnyWrongFalsely : Prop := imageAnyRow.holds Tryd.pinned (OpenSpec.ofChange imageAnyWrong)

/-- 'handbelllaw06.ImageLength': WHATEVER THE INPUT: true; the input reads as it did. -/
def imageLengthSpec : ChangeSpec := { name := "imageLength", fn := fun _ => fun
  | [d] => { results := [.lit (.bool true)], args := [d] }
  | _ => none }
def imageLengthRow : OpenClaim := { program := "ytoecebibhcadoaadoor", sum := "787f3b0fa6d51107ca58384cb5d883f53d19a4292084e3ce25d0539243ac4754", func := "handbell/handbelllaw06.ImageLength", spec := "imageLength", inPlace := ["internal/reflectlite.ValueOf", "(internal/reflectlite.Value).Type", "(internal/reflectlite.Value).IsNil", "internal/reflectlite.TypeOf", "(internal/reflectlite.Value).Elem", "(internal/reflectlite.Value).Set"], unfollowed := true, recurses := true, named := ["errors.errorType"], apart := false, laid := [("errors.errorType", laid_errors_errorType)] }
def ImageLengthSaid : Prop := imageLengthRow.holds Tryd.pinned (OpenSpec.ofChange imageLengthSpec)

/-- ITS FALSE NEIGHBOUR: 'it returns false'. Refute it at one input. -/
def imageLengthWrong : ChangeSpec := { name := "imageLength", fn := fun _ => fun
  | [d] => { results := [.lit (.bool false)], args := [d] }
  | _ => none }
def ImageLengthWrongFalsely : Prop := imageLengthRow.holds Tryd.pinned (OpenSpec.ofChange imageLengthWrong)

/- THE SECOND FORM. 'bulk': how many values and letters a reading holds, each counted each time it is reached (what is shared counts as often as it is met; a slice's spare places count too). A statement '..UptoSaid' is the law's where the arguments, and the package variables that the reading takes, are together of bulk at most 1048576: NARROWER than '..Said'. Prove '..Said' where nothing that the law and all that it calls make is longer than what came in: it says more and counts as full. Else prove '..UptoSaid'. A law counts once. -/
mutual
def uptoBulk {H : Type} : DataW H → Nat
  | .lit (.string bytes) => bytes.length + 1
  | .lit _ => 1
  | .nil => 1
  | .ptr d => uptoBulk d + 1
  | .slice elems spare => uptoBulkAll elems + uptoBulkAll spare + 1
  | .agg parts => uptoBulkAll parts + 1
  | .iface _ d => uptoBulk d + 1
  | .map entries => uptoBulkEntries entries + 1
  | .held _ => 1
def uptoBulkAll {H : Type} : List (DataW H) → Nat
  | [] => 0
  | d :: r => uptoBulk d + uptoBulkAll r
def uptoBulkEntries {H : Type} : List (Lit × DataW H) → Nat
  | [] => 0
  | x :: r => uptoBulkEntry x + uptoBulkEntries r
def uptoBulkEntry {H : Type} : Lit × DataW H → Nat
  | (.string bytes, d) => bytes.length + uptoBulk d + 1
  | (_, d) => uptoBulk d + 1
 end
def uptoSmall : (H : Type) → List (DataW H) → Bool := fun _ ds => decide (uptoBulkAll ds ≤ 1048576)
def OpenSpec.upto (s : _root_.Go.ChangeSpec) : _root_.Go.OpenSpec := { _root_.Go.OpenSpec.ofChange s with cond := some uptoSmall }

/-- 'handbelllaw06.ImageBack', WHERE WHAT IT READS IS OF BULK AT MOST 1048576: true; the input reads as it did. -/
def imageBackUptoRow : OpenClaim := { program := "ytoecebibhcadoaadoor", sum := "787f3b0fa6d51107ca58384cb5d883f53d19a4292084e3ce25d0539243ac4754", func := "handbell/handbelllaw06.ImageBack", spec := "imageBack", inPlace := ["internal/reflectlite.ValueOf", "(internal/reflectlite.Value).Type", "(internal/reflectlite.Value).IsNil", "internal/reflectlite.TypeOf", "(internal/reflectlite.Value).Elem", "(internal/reflectlite.Value).Set"], unfollowed := true, recurses := true, named := ["errors.errorType"], apart := false, laid := [("errors.errorType", laid_errors_errorType)], narrowed := true }
def ImageBackUptoSaid : Prop := imageBackUptoRow.holds Tryd.pinned (OpenSpec.upto imageBackSpec)

/-- 'handbelllaw06.ImageDecodes', WHERE WHAT IT READS IS OF BULK AT MOST 1048576: true; the input reads as it did. -/
def imageDecodesUptoRow : OpenClaim := { program := "ytoecebibhcadoaadoor", sum := "787f3b0fa6d51107ca58384cb5d883f53d19a4292084e3ce25d0539243ac4754", func := "handbell/handbelllaw06.ImageDecodes", spec := "imageDecodes", inPlace := ["internal/reflectlite.ValueOf", "(internal/reflectlite.Value).Type", "(internal/reflectlite.Value).IsNil", "internal/reflectlite.TypeOf", "(internal/reflectlite.Value).Elem", "(internal/reflectlite.Value).Set"], unfollowed := true, recurses := true, named := ["errors.errorType"], apart := false, laid := [("errors.errorType", laid_errors_errorType)], narrowed := true }
def ImageDecodesUptoSaid : Prop := imageDecodesUptoRow.holds Tryd.pinned (OpenSpec.upto imageDecodesSpec)

/-- 'handbelllaw06.ImageTurned', WHERE WHAT IT READS IS OF BULK AT MOST 1048576: true; the input reads as it did. -/
def imageTurnedUptoRow : OpenClaim := { program := "ytoecebibhcadoaadoor", sum := "787f3b0fa6d51107ca58384cb5d883f53d19a4292084e3ce25d0539243ac4754", func := "handbell/handbelllaw06.ImageTurned", spec := "imageTurned", inPlace := ["internal/reflectlite.ValueOf", "(internal/reflectlite.Value).Type", "(internal/reflectlite.Value).IsNil", "internal/reflectlite.TypeOf", "(internal/reflectlite.Value).Elem", "(internal/reflectlite.Value).Set"], unfollowed := true, recurses := true, named := ["errors.errorType"], apart := false, laid := [("errors.errorType", laid_errors_errorType)], narrowed := true }
def ImageTurnedUptoSaid : Prop := imageTurnedUptoRow.holds Tryd.pinned (OpenSpec.upto imageTurnedSpec)

/-- 'handbelllaw06.ImageCut', WHERE WHAT IT READS IS OF BULK AT MOST 1048576: true; the input reads as it did. -/
def imageCutUptoRow : OpenClaim := { program := "ytoecebibhcadoaadoor", sum := "787f3b0fa6d51107ca58384cb5d883f53d19a4292084e3ce25d0539243ac4754", func := "handbell/handbelllaw06.ImageCut", spec := "imageCut", inPlace := ["internal/reflectlite.ValueOf", "(internal/reflectlite.Value).Type", "(internal/reflectlite.Value).IsNil", "internal/reflectlite.TypeOf", "(internal/reflectlite.Value).Elem", "(internal/reflectlite.Value).Set"], unfollowed := true, recurses := true, named := ["errors.errorType"], apart := false, laid := [("errors.errorType", laid_errors_errorType)], narrowed := true }
def ImageCutUptoSaid : Prop := imageCutUptoRow.holds Tryd.pinned (OpenSpec.upto imageCutSpec)

/-- 'handbelllaw06.ImageAny', WHERE WHAT IT READS IS OF BULK AT MOST 1048576: true; the input reads as it did. -/
def imageAnyUptoRow : OpenClaim := { program := "ytoecebibhcadoaadoor", sum := "787f3b0fa6d51107ca58384cb5d883f53d19a4292084e3ce25d0539243ac4754", func := "handbell/handbelllaw06.ImageAny", spec := "imageAny", inPlace := ["internal/reflectlite.ValueOf", "(internal/reflectlite.Value).Type", "(internal/reflectlite.Value).IsNil", "internal/reflectlite.TypeOf", "(internal/reflectlite.Value).Elem", "(internal/reflectlite.Value).Set"], unfollowed := true, recurses := true, named := ["errors.errorType"], apart := false, laid := [("errors.errorType", laid_errors_errorType)], narrowed := true }
def ImageAnyUptoSaid : Prop := imageAnyUptoRow.holds Tryd.pinned (OpenSpec.upto imageAnySpec)

/-- 'handbelllaw06.ImageLength', WHERE WHAT IT READS IS OF BULK AT MOST 1048576: true; the input reads as it did. -/
def imageLengthUptoRow : OpenClaim := { program := "ytoecebibhcadoaadoor", sum := "787f3b0fa6d51107ca58384cb5d883f53d19a4292084e3ce25d0539243ac4754", func := "handbell/handbelllaw06.ImageLength", spec := "imageLength", inPlace := ["internal/reflectlite.ValueOf", "(internal/reflectlite.Value).Type", "(internal/reflectlite.Value).IsNil", "internal/reflectlite.TypeOf", "(internal/reflectlite.Value).Elem", "(internal/reflectlite.Value).Set"], unfollowed := true, recurses := true, named := ["errors.errorType"], apart := false, laid := [("errors.errorType", laid_errors_errorType)], narrowed := true }
def ImageLengthUptoSaid : Prop := imageLengthUptoRow.holds Tryd.pinned (OpenSpec.upto imageLengthSpec)

end Rows
end Go.Proofs.YtoecebibhcadoaaDoor
