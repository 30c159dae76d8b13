/-
  No cell of these rows narrows 'for every input' (looked for: loops, veiled, ifaces, maps, wideKeys, modest, calm, conditions, laid).
  DERIVED. THE GIVEN ROWS OF THIS SEAT. 11 by the template 'for every input the law returns true; each argument reads behind the call as it read before'; 0 by the template 'total and deterministic' (their statements: YtmiinclnpcokkaaTotals.lean).
  GIVEN WITH THE SEED: the statements are not yours to turn. If you find one false, say at which input.
  Laid BY PROGRAM, IN A SANDBOX (cutbox-rows.mjs): the forced cells as the released guide's own fill.sh prints them over the translation 996637ca0feb6d34… (all of the seat's roots in one cut). By AI agents, Wed Nov 11 2026. No macro, syntax, notation, axiom, sorry.
-/
import Derived.Test.YtmiinclnpcokkaaChecked
import GoSem.Claim
import GoSem.ClaimJoined
import GoSem.ClaimMapViews
import Derived.JoinedTies
import Derived.KernelRfl
namespace Go.Proofs.Ytmiinclnpcokkaa
/- THE CELL 'sum', in the pinned program and in every row, IS THE sha256 OF THE DUMP (.gsa) THAT YtmiinclnpcokkaaProg.lean LOADS. Nothing in Lean hashes anything: it is a label: what it is worth is what the hold of that sum in a sandbox is worth. -/
noncomputable def Try.pinned : Pinned := { name := "ytmiinclnpcokkaa", sum := "996637ca0feb6d3492abaaae62f5252d3108e6e878ad40b8531f12b88e8566e0", checked := Try.checked }
namespace Rows
def none {H : Type} : Left H := { results := [], args := [] }

/-- 'handbelllaw14.TableSlots': WHATEVER THE INPUT: true; the input reads as it did. -/
def tableSlotsSpec : ChangeSpec := { name := "tableSlots", fn := fun _ => fun
  | [d1, d2] => { results := [.lit (.bool true)], args := [d1, d2] }
  | _ => none }
def tableSlotsRow : OpenClaim := { program := "ytmiinclnpcokkaa", sum := "996637ca0feb6d3492abaaae62f5252d3108e6e878ad40b8531f12b88e8566e0", func := "handbell/handbelllaw14.TableSlots", spec := "tableSlots", apart := false }
def TableSlotsSaid : Prop := tableSlotsRow.holds Try.pinned (OpenSpec.ofChange tableSlotsSpec)

/-- ITS FALSE NEIGHBOUR: 'it returns false'. Refute it at one input. -/
def tableSlotsWrong : ChangeSpec := { name := "tableSlots", fn := fun _ => fun
  | [d1, d2] => { results := [.lit (.bool false)], args := [d1, d2] }
  | _ => none }
def TableSlotsWrongFalsely : Prop := tableSlotsRow.holds Try.pinned (OpenSpec.ofChange tableSlotsWrong)

/-- 'handbelllaw14.TableLooks': WHATEVER THE INPUT: true; the input reads as it did. -/
def tableLooksSpec : ChangeSpec := { name := "tableLooks", fn := fun _ => fun
  | [d1, d2, d3] => { results := [.lit (.bool true)], args := [d1, d2, d3] }
  | _ => none }
def tableLooksRow : OpenClaim := { program := "ytmiinclnpcokkaa", sum := "996637ca0feb6d3492abaaae62f5252d3108e6e878ad40b8531f12b88e8566e0", func := "handbell/handbelllaw14.TableLooks", spec := "tableLooks", apart := false }
def TableLooksSaid : Prop := tableLooksRow.holds Try.pinned (OpenSpec.ofChange tableLooksSpec)

/-- ITS FALSE NEIGHBOUR: 'it returns false'. Refute it at one input. -/
def tableLooksWrong : ChangeSpec := { name := "tableLooks", fn := fun _ => fun
  | [d1, d2, d3] => { results := [.lit (.bool false)], args := [d1, d2, d3] }
  | _ => none }
def TableLooksWrongFalsely : Prop := tableLooksRow.holds Try.pinned (OpenSpec.ofChange tableLooksWrong)

/-- 'handbelllaw14.TableRound': WHATEVER THE INPUT: true; the input reads as it did. -/
def tableRoundSpec : ChangeSpec := { name := "tableRound", fn := fun _ => fun
  | [d1, d2, d3] => { results := [.lit (.bool true)], args := [d1, d2, d3] }
  | _ => none }
def tableRoundRow : OpenClaim := { program := "ytmiinclnpcokkaa", sum := "996637ca0feb6d3492abaaae62f5252d3108e6e878ad40b8531f12b88e8566e0", func := "handbell/handbelllaw14.TableRound", spec := "tableRound", apart := false }
def TableRoundSaid : Prop := tableRoundRow.holds Try.pinned (OpenSpec.ofChange tableRoundSpec)

/-- ITS FALSE NEIGHBOUR: 'it returns false'. Refute it at one input. -/
def tableRoundWrong : ChangeSpec := { name := "tableRound", fn := fun _ => fun
  | [d1, d2, d3] => { results := [.lit (.bool false)], args := [d1, d2, d3] }
  | _ => none }
def TableRoundWrongFalsely : Prop := tableRoundRow.holds Try.pinned (OpenSpec.ofChange tableRoundWrong)

/-- 'handbelllaw14.TableCounts': WHATEVER THE INPUT: true; the input reads as it did. -/
def tableCountsSpec : ChangeSpec := { name := "tableCounts", fn := fun _ => fun
  | [d1, d2, d3] => { results := [.lit (.bool true)], args := [d1, d2, d3] }
  | _ => none }
def tableCountsRow : OpenClaim := { program := "ytmiinclnpcokkaa", sum := "996637ca0feb6d3492abaaae62f5252d3108e6e878ad40b8531f12b88e8566e0", func := "handbell/handbelllaw14.TableCounts", spec := "tableCounts", apart := false }
def TableCountsSaid : Prop := tableCountsRow.holds Try.pinned (OpenSpec.ofChange tableCountsSpec)

/-- ITS FALSE NEIGHBOUR: 'it returns false'. Refute it at one input. -/
def tableCountsWrong : ChangeSpec := { name := "tableCounts", fn := fun _ => fun
  | [d1, d2, d3] => { results := [.lit (.bool false)], args := [d1, d2, d3] }
  | _ => none }
def TableCountsWrongFalsely : Prop := tableCountsRow.holds Try.pinned (OpenSpec.ofChange tableCountsWrong)

/-- 'handbelllaw14.TableGaps': WHATEVER THE INPUT: true; the input reads as it did. -/
def tableGapsSpec : ChangeSpec := { name := "tableGaps", fn := fun _ => fun
  | [d1, d2] => { results := [.lit (.bool true)], args := [d1, d2] }
  | _ => none }
def tableGapsRow : OpenClaim := { program := "ytmiinclnpcokkaa", sum := "996637ca0feb6d3492abaaae62f5252d3108e6e878ad40b8531f12b88e8566e0", func := "handbell/handbelllaw14.TableGaps", spec := "tableGaps", apart := false }
def TableGapsSaid : Prop := tableGapsRow.holds Try.pinned (OpenSpec.ofChange tableGapsSpec)

/-- ITS FALSE NEIGHBOUR: 'it returns false'. Refute it at one input. -/
def tableGapsWrong : ChangeSpec := { name := "tableGaps", fn := fun _ => fun
  | [d1, d2] => { results := [.lit (.bool false)], args := [d1, d2] }
  | _ => none }
def TableGapsWrongFalsely : Prop := tableGapsRow.holds Try.pinned (OpenSpec.ofChange tableGapsWrong)

/-- 'handbelllaw14.TableBounds': WHATEVER THE INPUT: true; the input reads as it did. -/
def tableBoundsSpec : ChangeSpec := { name := "tableBounds", fn := fun _ => fun
  | [d1, d2] => { results := [.lit (.bool true)], args := [d1, d2] }
  | _ => none }
def tableBoundsRow : OpenClaim := { program := "ytmiinclnpcokkaa", sum := "996637ca0feb6d3492abaaae62f5252d3108e6e878ad40b8531f12b88e8566e0", func := "handbell/handbelllaw14.TableBounds", spec := "tableBounds", apart := false }
def TableBoundsSaid : Prop := tableBoundsRow.holds Try.pinned (OpenSpec.ofChange tableBoundsSpec)

/-- ITS FALSE NEIGHBOUR: 'it returns false'. Refute it at one input. -/
def tableBoundsWrong : ChangeSpec := { name := "tableBounds", fn := fun _ => fun
  | [d1, d2] => { results := [.lit (.bool false)], args := [d1, d2] }
  | _ => none }
def TableBoundsWrongFalsely : Prop := tableBoundsRow.holds Try.pinned (OpenSpec.ofChange tableBoundsWrong)

/-- 'handbelllaw07.CheckDrafts': WHATEVER THE INPUT: true; the input reads as it did. -/
def checkDraftsSpec : ChangeSpec := { name := "checkDrafts", fn := fun _ => fun
  | [d] => { results := [.lit (.bool true)], args := [d] }
  | _ => none }
def checkDraftsRow : OpenClaim := { program := "ytmiinclnpcokkaa", sum := "996637ca0feb6d3492abaaae62f5252d3108e6e878ad40b8531f12b88e8566e0", func := "handbell/handbelllaw07.CheckDrafts", spec := "checkDrafts", unfollowed := true, recurses := true, apart := false }
def CheckDraftsSaid : Prop := checkDraftsRow.holds Try.pinned (OpenSpec.ofChange checkDraftsSpec)

/-- ITS FALSE NEIGHBOUR: 'it returns false'. Refute it at one input. -/
def checkDraftsWrong : ChangeSpec := { name := "checkDrafts", fn := fun _ => fun
  | [d] => { results := [.lit (.bool false)], args := [d] }
  | _ => none }
def CheckDraftsWrongFalsely : Prop := checkDraftsRow.holds Try.pinned (OpenSpec.ofChange checkDraftsWrong)

/-- 'handbelllaw07.CheckRule': WHATEVER THE INPUT: true; the input reads as it did. -/
def checkRuleSpec : ChangeSpec := { name := "checkRule", fn := fun _ => fun
  | [d1, d2, d3, d4, d5] => { results := [.lit (.bool true)], args := [d1, d2, d3, d4, d5] }
  | _ => none }
def checkRuleRow : OpenClaim := { program := "ytmiinclnpcokkaa", sum := "996637ca0feb6d3492abaaae62f5252d3108e6e878ad40b8531f12b88e8566e0", func := "handbell/handbelllaw07.CheckRule", spec := "checkRule", unfollowed := true, recurses := true, apart := false }
def CheckRuleSaid : Prop := checkRuleRow.holds Try.pinned (OpenSpec.ofChange checkRuleSpec)

/-- ITS FALSE NEIGHBOUR: 'it returns false'. Refute it at one input. -/
def checkRuleWrong : ChangeSpec := { name := "checkRule", fn := fun _ => fun
  | [d1, d2, d3, d4, d5] => { results := [.lit (.bool false)], args := [d1, d2, d3, d4, d5] }
  | _ => none }
def CheckRuleWrongFalsely : Prop := checkRuleRow.holds Try.pinned (OpenSpec.ofChange checkRuleWrong)

/-- 'handbelllaw07.CheckTable': WHATEVER THE INPUT: true; the input reads as it did. -/
def checkTableSpec : ChangeSpec := { name := "checkTable", fn := fun _ => fun
  | [d1, d2, d3] => { results := [.lit (.bool true)], args := [d1, d2, d3] }
  | _ => none }
def checkTableRow : OpenClaim := { program := "ytmiinclnpcokkaa", sum := "996637ca0feb6d3492abaaae62f5252d3108e6e878ad40b8531f12b88e8566e0", func := "handbell/handbelllaw07.CheckTable", spec := "checkTable", unfollowed := true, recurses := true, apart := false }
def CheckTableSaid : Prop := checkTableRow.holds Try.pinned (OpenSpec.ofChange checkTableSpec)

/-- ITS FALSE NEIGHBOUR: 'it returns false'. Refute it at one input. -/
def checkTableWrong : ChangeSpec := { name := "checkTable", fn := fun _ => fun
  | [d1, d2, d3] => { results := [.lit (.bool false)], args := [d1, d2, d3] }
  | _ => none }
def CheckTableWrongFalsely : Prop := checkTableRow.holds Try.pinned (OpenSpec.ofChange checkTableWrong)

/-- 'handbelllaw07.CheckRest': WHATEVER THE INPUT: true; the input reads as it did. -/
def checkRestSpec : ChangeSpec := { name := "checkRest", fn := fun _ => fun
  | [d1, d2, d3, d4] => { results := [.lit (.bool true)], args := [d1, d2, d3, d4] }
  | _ => none }
def checkRestRow : OpenClaim := { program := "ytmiinclnpcokkaa", sum := "996637ca0feb6d3492abaaae62f5252d3108e6e878ad40b8531f12b88e8566e0", func := "handbell/handbelllaw07.CheckRest", spec := "checkRest", unfollowed := true, recurses := true, apart := false }
def CheckRestSaid : Prop := checkRestRow.holds Try.pinned (OpenSpec.ofChange checkRestSpec)

/-- ITS FALSE NEIGHBOUR: 'it returns false'. Refute it at one input. -/
def checkRestWrong : ChangeSpec := { name := "checkRest", fn := fun _ => fun
  | [d1, d2, d3, d4] => { results := [.lit (.bool false)], args := [d1, d2, d3, d4] }
  | _ => none }
def CheckRestWrongFalsely : Prop := checkRestRow.holds Try.pinned (OpenSpec.ofChange checkRestWrong)

/-- 'handbelllaw07.CheckMany': WHATEVER THE INPUT: true; the input reads as it did. -/
def checkManySpec : ChangeSpec := { name := "checkMany", fn := fun _ => fun
  | [d1, d2, d3] => { results := [.lit (.bool true)], args := [d1, d2, d3] }
  | _ => none }
def checkManyRow : OpenClaim := { program := "ytmiinclnpcokkaa", sum := "996637ca0feb6d3492abaaae62f5252d3108e6e878ad40b8531f12b88e8566e0", func := "handbell/handbelllaw07.CheckMany", spec := "checkMany", unfollowed := true, recurses := true, apart := false }
def CheckManySaid : Prop := checkManyRow.holds Try.pinned (OpenSpec.ofChange checkManySpec)

/-- ITS FALSE NEIGHBOUR: 'it returns false'. Refute it at one input. -/
def checkManyWrong : ChangeSpec := { name := "checkMany", fn := fun _ => fun
  | [d1, d2, d3] => { results := [.lit (.bool false)], args := [d1, d2, d3] }
  | _ => none }
def CheckManyWrongFalsely : Prop := checkManyRow.holds Try.pinned (OpenSpec.ofChange checkManyWrong)

/- THE SECOND FORM. 'bulk': how many values and letters a reading holds, each counted each time it is reached (what is shared counts as often as it is met; a slice's spare places count too). A statement '..UptoSaid' is the law's where the arguments, and the package variables that the reading takes, are together of bulk at most 1048576: NARROWER than '..Said'. Prove '..Said' where nothing that the law and all that it calls make is longer than what came in: it says more and counts as full. Else prove '..UptoSaid'. A law counts once. -/
mutual
def uptoBulk {H : Type} : DataW H → Nat
  | .lit (.string bytes) => bytes.length + 1
  | .lit _ => 1
  | .nil => 1
  | .ptr d => uptoBulk d + 1
  | .slice elems spare => uptoBulkAll elems + uptoBulkAll spare + 1
  | .agg parts => uptoBulkAll parts + 1
  | .iface _ d => uptoBulk d + 1
  | .map entries => uptoBulkEntries entries + 1
  | .held _ => 1
def uptoBulkAll {H : Type} : List (DataW H) → Nat
  | [] => 0
  | d :: r => uptoBulk d + uptoBulkAll r
def uptoBulkEntries {H : Type} : List (Lit × DataW H) → Nat
  | [] => 0
  | x :: r => uptoBulkEntry x + uptoBulkEntries r
def uptoBulkEntry {H : Type} : Lit × DataW H → Nat
  | (.string bytes, d) => bytes.length + uptoBulk d + 1
  | (_, d) => uptoBulk d + 1
 end
def uptoSmall : (H : Type) → List (DataW H) → Bool := fun _ ds => decide (uptoBulkAll ds ≤ 1048576)
def OpenSpec.upto (s : _root_.Go.ChangeSpec) : _root_.Go.OpenSpec := { _root_.Go.OpenSpec.ofChange s with cond := some uptoSmall }

/-- 'handbelllaw14.TableSlots', WHERE WHAT IT READS IS OF BULK AT MOST 1048576: true; the input reads as it did. -/
def tableSlotsUptoRow : OpenClaim := { program := "ytmiinclnpcokkaa", sum := "996637ca0feb6d3492abaaae62f5252d3108e6e878ad40b8531f12b88e8566e0", func := "handbell/handbelllaw14.TableSlots", spec := "tableSlots", apart := false, narrowed := true }
def TableSlotsUptoSaid : Prop := tableSlotsUptoRow.holds Try.pinned (OpenSpec.upto tableSlotsSpec)

/-- 'handbelllaw14.TableLooks', WHERE WHAT IT READS IS OF BULK AT MOST 1048576: true; the input reads as it did. -/
def tableLooksUptoRow : OpenClaim := { program := "ytmiinclnpcokkaa", sum := "996637ca0feb6d3492abaaae62f5252d3108e6e878ad40b8531f12b88e8566e0", func := "handbell/handbelllaw14.TableLooks", spec := "tableLooks", apart := false, narrowed := true }
def TableLooksUptoSaid : Prop := tableLooksUptoRow.holds Try.pinned (OpenSpec.upto tableLooksSpec)

/-- 'handbelllaw14.TableRound', WHERE WHAT IT READS IS OF BULK AT MOST 1048576: true; the input reads as it did. -/
def tableRoundUptoRow : OpenClaim := { program := "ytmiinclnpcokkaa", sum := "996637ca0feb6d3492abaaae62f5252d3108e6e878ad40b8531f12b88e8566e0", func := "handbell/handbelllaw14.TableRound", spec := "tableRound", apart := false, narrowed := true }
def TableRoundUptoSaid : Prop := tableRoundUptoRow.holds Try.pinned (OpenSpec.upto tableRoundSpec)

/-- 'handbelllaw14.TableCounts', WHERE WHAT IT READS IS OF BULK AT MOST 1048576: true; the input reads as it did. -/
def tableCountsUptoRow : OpenClaim := { program := "ytmiinclnpcokkaa", sum := "996637ca0feb6d3492abaaae62f5252d3108e6e878ad40b8531f12b88e8566e0", func := "handbell/handbelllaw14.TableCounts", spec := "tableCounts", apart := false, narrowed := true }
def TableCountsUptoSaid : Prop := tableCountsUptoRow.holds Try.pinned (OpenSpec.upto tableCountsSpec)

/-- 'handbelllaw14.TableGaps', WHERE WHAT IT READS IS OF BULK AT MOST 1048576: true; the input reads as it did. -/
def tableGapsUptoRow : OpenClaim := { program := "ytmiinclnpcokkaa", sum := "996637ca0feb6d3492abaaae62f5252d3108e6e878ad40b8531f12b88e8566e0", func := "handbell/handbelllaw14.TableGaps", spec := "tableGaps", apart := false, narrowed := true }
def TableGapsUptoSaid : Prop := tableGapsUptoRow.holds Try.pinned (OpenSpec.upto tableGapsSpec)

/-- 'handbelllaw14.TableBounds', WHERE WHAT IT READS IS OF BULK AT MOST 1048576: true; the input reads as it did. -/
def tableBoundsUptoRow : OpenClaim := { program := "ytmiinclnpcokkaa", sum := "996637ca0feb6d3492abaaae62f5252d3108e6e878ad40b8531f12b88e8566e0", func := "handbell/handbelllaw14.TableBounds", spec := "tableBounds", apart := false, narrowed := true }
def TableBoundsUptoSaid : Prop := tableBoundsUptoRow.holds Try.pinned (OpenSpec.upto tableBoundsSpec)

/-- 'handbelllaw07.CheckDrafts', WHERE WHAT IT READS IS OF BULK AT MOST 1048576: true; the input reads as it did. -/
def checkDraftsUptoRow : OpenClaim := { program := "ytmiinclnpcokkaa", sum := "996637ca0feb6d3492abaaae62f5252d3108e6e878ad40b8531f12b88e8566e0", func := "handbell/handbelllaw07.CheckDrafts", spec := "checkDrafts", unfollowed := true, recurses := true, apart := false, narrowed := true }
def CheckDraftsUptoSaid : Prop := checkDraftsUptoRow.holds Try.pinned (OpenSpec.upto checkDraftsSpec)

/-- 'handbelllaw07.CheckRule', WHERE WHAT IT READS IS OF BULK AT MOST 1048576: true; the input reads as it did. -/
def checkRuleUptoRow : OpenClaim := { program := "ytmiinclnpcokkaa", sum := "996637ca0feb6d3492abaaae62f5252d3108e6e878ad40b8531f12b88e8566e0", func := "handbell/handbelllaw07.CheckRule", spec := "checkRule", unfollowed := true, recurses := true, apart := false, narrowed := true }
def CheckRuleUptoSaid : Prop := checkRuleUptoRow.holds Try.pinned (OpenSpec.upto checkRuleSpec)

/-- 'handbelllaw07.CheckTable', WHERE WHAT IT READS IS OF BULK AT MOST 1048576: true; the input reads as it did. -/
def checkTableUptoRow : OpenClaim := { program := "ytmiinclnpcokkaa", sum := "996637ca0feb6d3492abaaae62f5252d3108e6e878ad40b8531f12b88e8566e0", func := "handbell/handbelllaw07.CheckTable", spec := "checkTable", unfollowed := true, recurses := true, apart := false, narrowed := true }
def CheckTableUptoSaid : Prop := checkTableUptoRow.holds Try.pinned (OpenSpec.upto checkTableSpec)

/-- 'handbelllaw07.CheckRest', WHERE WHAT IT READS IS OF BULK AT MOST 1048576: true; the input reads as it did. -/
def checkRestUptoRow : OpenClaim := { program := "ytmiinclnpcokkaa", sum := "996637ca0feb6d3492abaaae62f5252d3108e6e878ad40b8531f12b88e8566e0", func := "handbell/handbelllaw07.CheckRest", spec := "checkRest", unfollowed := true, recurses := true, apart := false, narrowed := true }
def CheckRestUptoSaid : Prop := checkRestUptoRow.holds Try.pinned (OpenSpec.upto checkRestSpec)

/-- 'handbelllaw07.CheckMany', WHERE WHAT IT READS IS OF BULK AT MOST 1048576: true; the input reads as it did. -/
def checkManyUptoRow : OpenClaim := { program := "ytmiinclnpcokkaa", sum := "996637ca0feb6d3492abaaae62f5252d3108e6e878ad40b8531f12b88e8566e0", func := "handbell/handbelllaw07.CheckMany", spec := "checkMany", unfollowed := true, recurses := true, apart := false, narrowed := true }
def CheckManyUptoSaid : Prop := checkManyUptoRow.holds Try.pinned (OpenSpec.upto checkManySpec)

end Rows
end Go.Proofs.Ytmiinclnpcokkaa
