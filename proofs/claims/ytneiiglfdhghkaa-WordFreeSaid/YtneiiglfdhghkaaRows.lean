/-
  No cell of these rows narrows 'for every input' (looked for: loops, veiled, ifaces, maps, wideKeys, modest, calm, conditions, laid).
  DERIVED. THE GIVEN ROWS OF THIS SEAT. 10 by the template 'for every input the law returns true; each argument reads behind the call as it read before'; 0 by the template 'total and deterministic' (their statements: YtneiiglfdhghkaaTotals.lean).
  GIVEN WITH THE SEED: the statements are not yours to turn. If you find one false, say at which input.
  Laid BY PROGRAM, IN A SANDBOX (cutbox-rows.mjs): the forced cells as the released guide's own fill.sh prints them over the translation 8e75f14ae28d8a81… (all of the seat's roots in one cut). By AI agents, Wed Nov 11 2026. No macro, syntax, notation, axiom, sorry.
-/
import Derived.Test.YtneiiglfdhghkaaChecked
import GoSem.Claim
import GoSem.ClaimJoined
import GoSem.ClaimMapViews
import Derived.JoinedTies
import Derived.KernelRfl
namespace Go.Proofs.Ytneiiglfdhghkaa
/- THE CELL 'sum', in the pinned program and in every row, IS THE sha256 OF THE DUMP (.gsa) THAT YtneiiglfdhghkaaProg.lean LOADS. Nothing in Lean hashes anything: it is a label: what it is worth is what the hold of that sum in a sandbox is worth. -/
noncomputable def Try.pinned : Pinned := { name := "ytneiiglfdhghkaa", sum := "8e75f14ae28d8a8117f981d716058fc13d2c2ed422d08b53e068cfb0fe3833e4", checked := Try.checked }
namespace Rows
def none {H : Type} : Left H := { results := [], args := [] }

/-- 'handbelllaw04.SumOf': WHATEVER THE INPUT: true; the input reads as it did. -/
def sumOfSpec : ChangeSpec := { name := "sumOf", fn := fun _ => fun
  | [d] => { results := [.lit (.bool true)], args := [d] }
  | _ => none }
def sumOfRow : OpenClaim := { program := "ytneiiglfdhghkaa", sum := "8e75f14ae28d8a8117f981d716058fc13d2c2ed422d08b53e068cfb0fe3833e4", func := "handbell/handbelllaw04.SumOf", spec := "sumOf", apart := false }
def SumOfSaid : Prop := sumOfRow.holds Try.pinned (OpenSpec.ofChange sumOfSpec)

/-- ITS FALSE NEIGHBOUR: 'it returns false'. Refute it at one input. -/
def sumOfWrong : ChangeSpec := { name := "sumOf", fn := fun _ => fun
  | [d] => { results := [.lit (.bool false)], args := [d] }
  | _ => none }
def SumOfWrongFalsely : Prop := sumOfRow.holds Try.pinned (OpenSpec.ofChange sumOfWrong)

/-- 'handbelllaw04.SumBack': WHATEVER THE INPUT: true; the input reads as it did. -/
def sumBackSpec : ChangeSpec := { name := "sumBack", fn := fun _ => fun
  | [d] => { results := [.lit (.bool true)], args := [d] }
  | _ => none }
def sumBackRow : OpenClaim := { program := "ytneiiglfdhghkaa", sum := "8e75f14ae28d8a8117f981d716058fc13d2c2ed422d08b53e068cfb0fe3833e4", func := "handbell/handbelllaw04.SumBack", spec := "sumBack", apart := false }
def SumBackSaid : Prop := sumBackRow.holds Try.pinned (OpenSpec.ofChange sumBackSpec)

/-- ITS FALSE NEIGHBOUR: 'it returns false'. Refute it at one input. -/
def sumBackWrong : ChangeSpec := { name := "sumBack", fn := fun _ => fun
  | [d] => { results := [.lit (.bool false)], args := [d] }
  | _ => none }
def SumBackWrongFalsely : Prop := sumBackRow.holds Try.pinned (OpenSpec.ofChange sumBackWrong)

/-- 'handbelllaw04.SumOpens': WHATEVER THE INPUT: true; the input reads as it did. -/
def sumOpensSpec : ChangeSpec := { name := "sumOpens", fn := fun _ => fun
  | [d] => { results := [.lit (.bool true)], args := [d] }
  | _ => none }
def sumOpensRow : OpenClaim := { program := "ytneiiglfdhghkaa", sum := "8e75f14ae28d8a8117f981d716058fc13d2c2ed422d08b53e068cfb0fe3833e4", func := "handbell/handbelllaw04.SumOpens", spec := "sumOpens", apart := false }
def SumOpensSaid : Prop := sumOpensRow.holds Try.pinned (OpenSpec.ofChange sumOpensSpec)

/-- ITS FALSE NEIGHBOUR: 'it returns false'. Refute it at one input. -/
def sumOpensWrong : ChangeSpec := { name := "sumOpens", fn := fun _ => fun
  | [d] => { results := [.lit (.bool false)], args := [d] }
  | _ => none }
def SumOpensWrongFalsely : Prop := sumOpensRow.holds Try.pinned (OpenSpec.ofChange sumOpensWrong)

/-- 'handbelllaw04.SumShows': WHATEVER THE INPUT: true; the input reads as it did. -/
def sumShowsSpec : ChangeSpec := { name := "sumShows", fn := fun _ => fun
  | [d1, d2, d3, d4] => { results := [.lit (.bool true)], args := [d1, d2, d3, d4] }
  | _ => none }
def sumShowsRow : OpenClaim := { program := "ytneiiglfdhghkaa", sum := "8e75f14ae28d8a8117f981d716058fc13d2c2ed422d08b53e068cfb0fe3833e4", func := "handbell/handbelllaw04.SumShows", spec := "sumShows", apart := false }
def SumShowsSaid : Prop := sumShowsRow.holds Try.pinned (OpenSpec.ofChange sumShowsSpec)

/-- ITS FALSE NEIGHBOUR: 'it returns false'. Refute it at one input. -/
def sumShowsWrong : ChangeSpec := { name := "sumShows", fn := fun _ => fun
  | [d1, d2, d3, d4] => { results := [.lit (.bool false)], args := [d1, d2, d3, d4] }
  | _ => none }
def SumShowsWrongFalsely : Prop := sumShowsRow.holds Try.pinned (OpenSpec.ofChange sumShowsWrong)

/-- 'handbelllaw04.SumClosed': WHATEVER THE INPUT: true; the input reads as it did. -/
def sumClosedSpec : ChangeSpec := { name := "sumClosed", fn := fun _ => fun
  | [d] => { results := [.lit (.bool true)], args := [d] }
  | _ => none }
def sumClosedRow : OpenClaim := { program := "ytneiiglfdhghkaa", sum := "8e75f14ae28d8a8117f981d716058fc13d2c2ed422d08b53e068cfb0fe3833e4", func := "handbell/handbelllaw04.SumClosed", spec := "sumClosed", apart := false }
def SumClosedSaid : Prop := sumClosedRow.holds Try.pinned (OpenSpec.ofChange sumClosedSpec)

/-- ITS FALSE NEIGHBOUR: 'it returns false'. Refute it at one input. -/
def sumClosedWrong : ChangeSpec := { name := "sumClosed", fn := fun _ => fun
  | [d] => { results := [.lit (.bool false)], args := [d] }
  | _ => none }
def SumClosedWrongFalsely : Prop := sumClosedRow.holds Try.pinned (OpenSpec.ofChange sumClosedWrong)

/-- 'handbelllaw05.WordFree': WHATEVER THE INPUT: true; the input reads as it did. -/
def wordFreeSpec : ChangeSpec := { name := "wordFree", fn := fun _ => fun
  | [d1, d2] => { results := [.lit (.bool true)], args := [d1, d2] }
  | _ => none }
def wordFreeRow : OpenClaim := { program := "ytneiiglfdhghkaa", sum := "8e75f14ae28d8a8117f981d716058fc13d2c2ed422d08b53e068cfb0fe3833e4", func := "handbell/handbelllaw05.WordFree", spec := "wordFree", apart := false }
def WordFreeSaid : Prop := wordFreeRow.holds Try.pinned (OpenSpec.ofChange wordFreeSpec)

/-- ITS FALSE NEIGHBOUR: 'it returns false'. Refute it at one input. -/
def wordFreeWrong : ChangeSpec := { name := "wordFree", fn := fun _ => fun
  | [d1, d2] => { results := [.lit (.bool false)], args := [d1, d2] }
  | _ => none }
def WordFreeWrongFalsely : Prop := wordFreeRow.holds Try.pinned (OpenSpec.ofChange wordFreeWrong)

/-- 'handbelllaw05.WordReads': WHATEVER THE INPUT: true; the input reads as it did. -/
def wordReadsSpec : ChangeSpec := { name := "wordReads", fn := fun _ => fun
  | [d1, d2] => { results := [.lit (.bool true)], args := [d1, d2] }
  | _ => none }
def wordReadsRow : OpenClaim := { program := "ytneiiglfdhghkaa", sum := "8e75f14ae28d8a8117f981d716058fc13d2c2ed422d08b53e068cfb0fe3833e4", func := "handbell/handbelllaw05.WordReads", spec := "wordReads", apart := false }
def WordReadsSaid : Prop := wordReadsRow.holds Try.pinned (OpenSpec.ofChange wordReadsSpec)

/-- ITS FALSE NEIGHBOUR: 'it returns false'. Refute it at one input. -/
def wordReadsWrong : ChangeSpec := { name := "wordReads", fn := fun _ => fun
  | [d1, d2] => { results := [.lit (.bool false)], args := [d1, d2] }
  | _ => none }
def WordReadsWrongFalsely : Prop := wordReadsRow.holds Try.pinned (OpenSpec.ofChange wordReadsWrong)

/-- 'handbelllaw05.WordShort': WHATEVER THE INPUT: true; the input reads as it did. -/
def wordShortSpec : ChangeSpec := { name := "wordShort", fn := fun _ => fun
  | [d1, d2] => { results := [.lit (.bool true)], args := [d1, d2] }
  | _ => none }
def wordShortRow : OpenClaim := { program := "ytneiiglfdhghkaa", sum := "8e75f14ae28d8a8117f981d716058fc13d2c2ed422d08b53e068cfb0fe3833e4", func := "handbell/handbelllaw05.WordShort", spec := "wordShort", apart := false }
def WordShortSaid : Prop := wordShortRow.holds Try.pinned (OpenSpec.ofChange wordShortSpec)

/-- ITS FALSE NEIGHBOUR: 'it returns false'. Refute it at one input. -/
def wordShortWrong : ChangeSpec := { name := "wordShort", fn := fun _ => fun
  | [d1, d2] => { results := [.lit (.bool false)], args := [d1, d2] }
  | _ => none }
def WordShortWrongFalsely : Prop := wordShortRow.holds Try.pinned (OpenSpec.ofChange wordShortWrong)

/-- 'handbelllaw05.WordBack': WHATEVER THE INPUT: true; the input reads as it did. -/
def wordBackSpec : ChangeSpec := { name := "wordBack", fn := fun _ => fun
  | [d] => { results := [.lit (.bool true)], args := [d] }
  | _ => none }
def wordBackRow : OpenClaim := { program := "ytneiiglfdhghkaa", sum := "8e75f14ae28d8a8117f981d716058fc13d2c2ed422d08b53e068cfb0fe3833e4", func := "handbell/handbelllaw05.WordBack", spec := "wordBack", apart := false }
def WordBackSaid : Prop := wordBackRow.holds Try.pinned (OpenSpec.ofChange wordBackSpec)

/-- ITS FALSE NEIGHBOUR: 'it returns false'. Refute it at one input. -/
def wordBackWrong : ChangeSpec := { name := "wordBack", fn := fun _ => fun
  | [d] => { results := [.lit (.bool false)], args := [d] }
  | _ => none }
def WordBackWrongFalsely : Prop := wordBackRow.holds Try.pinned (OpenSpec.ofChange wordBackWrong)

/-- 'handbelllaw05.WordNil': WHATEVER THE INPUT: true; the input reads as it did. -/
def wordNilSpec : ChangeSpec := { name := "wordNil", fn := fun _ => fun
  | [d] => { results := [.lit (.bool true)], args := [d] }
  | _ => none }
def wordNilRow : OpenClaim := { program := "ytneiiglfdhghkaa", sum := "8e75f14ae28d8a8117f981d716058fc13d2c2ed422d08b53e068cfb0fe3833e4", func := "handbell/handbelllaw05.WordNil", spec := "wordNil", apart := false }
def WordNilSaid : Prop := wordNilRow.holds Try.pinned (OpenSpec.ofChange wordNilSpec)

/-- ITS FALSE NEIGHBOUR: 'it returns false'. Refute it at one input. -/
def wordNilWrong : ChangeSpec := { name := "wordNil", fn := fun _ => fun
  | [d] => { results := [.lit (.bool false)], args := [d] }
  | _ => none }
def WordNilWrongFalsely : Prop := wordNilRow.holds Try.pinned (OpenSpec.ofChange wordNilWrong)

/- THE SECOND FORM. 'bulk': how many values and letters a reading holds, each counted each time it is reached (what is shared counts as often as it is met; a slice's spare places count too). A statement '..UptoSaid' is the law's where the arguments, and the package variables that the reading takes, are together of bulk at most 1048576: NARROWER than '..Said'. Prove '..Said' where nothing that the law and all that it calls make is longer than what came in: it says more and counts as full. Else prove '..UptoSaid'. A law counts once. -/
mutual
def uptoBulk {H : Type} : DataW H → Nat
  | .lit (.string bytes) => bytes.length + 1
  | .lit _ => 1
  | .nil => 1
  | .ptr d => uptoBulk d + 1
  | .slice elems spare => uptoBulkAll elems + uptoBulkAll spare + 1
  | .agg parts => uptoBulkAll parts + 1
  | .iface _ d => uptoBulk d + 1
  | .map entries => uptoBulkEntries entries + 1
  | .held _ => 1
def uptoBulkAll {H : Type} : List (DataW H) → Nat
  | [] => 0
  | d :: r => uptoBulk d + uptoBulkAll r
def uptoBulkEntries {H : Type} : List (Lit × DataW H) → Nat
  | [] => 0
  | x :: r => uptoBulkEntry x + uptoBulkEntries r
def uptoBulkEntry {H : Type} : Lit × DataW H → Nat
  | (.string bytes, d) => bytes.length + uptoBulk d + 1
  | (_, d) => uptoBulk d + 1
 end
def uptoSmall : (H : Type) → List (DataW H) → Bool := fun _ ds => decide (uptoBulkAll ds ≤ 1048576)
def OpenSpec.upto (s : _root_.Go.ChangeSpec) : _root_.Go.OpenSpec := { _root_.Go.OpenSpec.ofChange s with cond := some uptoSmall }

/-- 'handbelllaw04.SumOf', WHERE WHAT IT READS IS OF BULK AT MOST 1048576: true; the input reads as it did. -/
def sumOfUptoRow : OpenClaim := { program := "ytneiiglfdhghkaa", sum := "8e75f14ae28d8a8117f981d716058fc13d2c2ed422d08b53e068cfb0fe3833e4", func := "handbell/handbelllaw04.SumOf", spec := "sumOf", apart := false, narrowed := true }
def SumOfUptoSaid : Prop := sumOfUptoRow.holds Try.pinned (OpenSpec.upto sumOfSpec)

/-- 'handbelllaw04.SumBack', WHERE WHAT IT READS IS OF BULK AT MOST 1048576: true; the input reads as it did. -/
def sumBackUptoRow : OpenClaim := { program := "ytneiiglfdhghkaa", sum := "8e75f14ae28d8a8117f981d716058fc13d2c2ed422d08b53e068cfb0fe3833e4", func := "handbell/handbelllaw04.SumBack", spec := "sumBack", apart := false, narrowed := true }
def SumBackUptoSaid : Prop := sumBackUptoRow.holds Try.pinned (OpenSpec.upto sumBackSpec)

/-- 'handbelllaw04.SumOpens', WHERE WHAT IT READS IS OF BULK AT MOST 1048576: true; the input reads as it did. -/
def sumOpensUptoRow : OpenClaim := { program := "ytneiiglfdhghkaa", sum := "8e75f14ae28d8a8117f981d716058fc13d2c2ed422d08b53e068cfb0fe3833e4", func := "handbell/handbelllaw04.SumOpens", spec := "sumOpens", apart := false, narrowed := true }
def SumOpensUptoSaid : Prop := sumOpensUptoRow.holds Try.pinned (OpenSpec.upto sumOpensSpec)

/-- 'handbelllaw04.SumShows', WHERE WHAT IT READS IS OF BULK AT MOST 1048576: true; the input reads as it did. -/
def sumShowsUptoRow : OpenClaim := { program := "ytneiiglfdhghkaa", sum := "8e75f14ae28d8a8117f981d716058fc13d2c2ed422d08b53e068cfb0fe3833e4", func := "handbell/handbelllaw04.SumShows", spec := "sumShows", apart := false, narrowed := true }
def SumShowsUptoSaid : Prop := sumShowsUptoRow.holds Try.pinned (OpenSpec.upto sumShowsSpec)

/-- 'handbelllaw04.SumClosed', WHERE WHAT IT READS IS OF BULK AT MOST 1048576: true; the input reads as it did. -/
def sumClosedUptoRow : OpenClaim := { program := "ytneiiglfdhghkaa", sum := "8e75f14ae28d8a8117f981d716058fc13d2c2ed422d08b53e068cfb0fe3833e4", func := "handbell/handbelllaw04.SumClosed", spec := "sumClosed", apart := false, narrowed := true }
def SumClosedUptoSaid : Prop := sumClosedUptoRow.holds Try.pinned (OpenSpec.upto sumClosedSpec)

/-- 'handbelllaw05.WordFree', WHERE WHAT IT READS IS OF BULK AT MOST 1048576: true; the input reads as it did. -/
def wordFreeUptoRow : OpenClaim := { program := "ytneiiglfdhghkaa", sum := "8e75f14ae28d8a8117f981d716058fc13d2c2ed422d08b53e068cfb0fe3833e4", func := "handbell/handbelllaw05.WordFree", spec := "wordFree", apart := false, narrowed := true }
def WordFreeUptoSaid : Prop := wordFreeUptoRow.holds Try.pinned (OpenSpec.upto wordFreeSpec)

/-- 'handbelllaw05.WordReads', WHERE WHAT IT READS IS OF BULK AT MOST 1048576: true; the input reads as it did. -/
def wordReadsUptoRow : OpenClaim := { program := "ytneiiglfdhghkaa", sum := "8e75f14ae28d8a8117f981d716058fc13d2c2ed422d08b53e068cfb0fe3833e4", func := "handbell/handbelllaw05.WordReads", spec := "wordReads", apart := false, narrowed := true }
def WordReadsUptoSaid : Prop := wordReadsUptoRow.holds Try.pinned (OpenSpec.upto wordReadsSpec)

/-- 'handbelllaw05.WordShort', WHERE WHAT IT READS IS OF BULK AT MOST 1048576: true; the input reads as it did. -/
def wordShortUptoRow : OpenClaim := { program := "ytneiiglfdhghkaa", sum := "8e75f14ae28d8a8117f981d716058fc13d2c2ed422d08b53e068cfb0fe3833e4", func := "handbell/handbelllaw05.WordShort", spec := "wordShort", apart := false, narrowed := true }
def WordShortUptoSaid : Prop := wordShortUptoRow.holds Try.pinned (OpenSpec.upto wordShortSpec)

/-- 'handbelllaw05.WordBack', WHERE WHAT IT READS IS OF BULK AT MOST 1048576: true; the input reads as it did. -/
def wordBackUptoRow : OpenClaim := { program := "ytneiiglfdhghkaa", sum := "8e75f14ae28d8a8117f981d716058fc13d2c2ed422d08b53e068cfb0fe3833e4", func := "handbell/handbelllaw05.WordBack", spec := "wordBack", apart := false, narrowed := true }
def WordBackUptoSaid : Prop := wordBackUptoRow.holds Try.pinned (OpenSpec.upto wordBackSpec)

/-- 'handbelllaw05.WordNil', WHERE WHAT IT READS IS OF BULK AT MOST 1048576: true; the input reads as it did. -/
def wordNilUptoRow : OpenClaim := { program := "ytneiiglfdhghkaa", sum := "8e75f14ae28d8a8117f981d716058fc13d2c2ed422d08b53e068cfb0fe3833e4", func := "handbell/handbelllaw05.WordNil", spec := "wordNil", apart := false, narrowed := true }
def WordNilUptoSaid : Prop := wordNilUptoRow.holds Try.pinned (OpenSpec.upto wordNilSpec)

end Rows
end Go.Proofs.Ytneiiglfdhghkaa
