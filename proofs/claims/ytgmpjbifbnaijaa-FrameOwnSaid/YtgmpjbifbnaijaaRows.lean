/-
  No cell of these rows narrows 'for every input' (looked for: loops, veiled, ifaces, maps, wideKeys, modest, calm, conditions, laid).
  DERIVED. THE GIVEN ROWS OF THIS SEAT. 6 by the template 'for every input the law returns true; each argument reads behind the call as it read before'; 0 by the template 'total and deterministic' (their statements: YtgmpjbifbnaijaaTotals.lean).
  GIVEN WITH THE SEED: the statements are not yours to turn. If you find one false, say at which input.
  Laid BY PROGRAM, IN A SANDBOX (cutbox-rows.mjs): the forced cells as the released guide's own fill.sh prints them over the translation fee891f8a7244cab… (all of the seat's roots in one cut). By AI agents, Wed Nov 11 2026. No macro, syntax, notation, axiom, sorry.
-/
import Derived.Test.YtgmpjbifbnaijaaChecked
import GoSem.Claim
import GoSem.ClaimJoined
import GoSem.ClaimMapViews
import Derived.JoinedTies
import Derived.KernelRfl
namespace Go.Proofs.Ytgmpjbifbnaijaa
/- THE CELL 'sum', in the pinned program and in every row, IS THE sha256 OF THE DUMP (.gsa) THAT YtgmpjbifbnaijaaProg.lean LOADS. Nothing in Lean hashes anything: it is a label: what it is worth is what the hold of that sum in a sandbox is worth. -/
noncomputable def Try.pinned : Pinned := { name := "ytgmpjbifbnaijaa", sum := "fee891f8a7244cabfb32fcc8ffd92e2455ceb915998f92f78deb042e43010aea", checked := Try.checked }
namespace Rows
def none {H : Type} : Left H := { results := [], args := [] }

/-- 'handbelllaw08.FrameThere': WHATEVER THE INPUT: true; the input reads as it did. -/
def frameThereSpec : ChangeSpec := { name := "frameThere", fn := fun _ => fun
  | [d] => { results := [.lit (.bool true)], args := [d] }
  | _ => none }
def frameThereRow : OpenClaim := { program := "ytgmpjbifbnaijaa", sum := "fee891f8a7244cabfb32fcc8ffd92e2455ceb915998f92f78deb042e43010aea", func := "handbell/handbelllaw08.FrameThere", spec := "frameThere", unfollowed := true, recurses := true, apart := false }
def FrameThereSaid : Prop := frameThereRow.holds Try.pinned (OpenSpec.ofChange frameThereSpec)

/-- ITS FALSE NEIGHBOUR: 'it returns false'. Refute it at one input. -/
def frameThereWrong : ChangeSpec := { name := "frameThere", fn := fun _ => fun
  | [d] => { results := [.lit (.bool false)], args := [d] }
  | _ => none }
def FrameThereWrongFalsely : Prop := frameThereRow.holds Try.pinned (OpenSpec.ofChange frameThereWrong)

/-- 'handbelllaw08.FrameScans': WHATEVER THE INPUT: true; the input reads as it did. -/
def frameScansSpec : ChangeSpec := { name := "frameScans", fn := fun _ => fun
  | [d1, d2] => { results := [.lit (.bool true)], args := [d1, d2] }
  | _ => none }
def frameScansRow : OpenClaim := { program := "ytgmpjbifbnaijaa", sum := "fee891f8a7244cabfb32fcc8ffd92e2455ceb915998f92f78deb042e43010aea", func := "handbell/handbelllaw08.FrameScans", spec := "frameScans", unfollowed := true, recurses := true, apart := false }
def FrameScansSaid : Prop := frameScansRow.holds Try.pinned (OpenSpec.ofChange frameScansSpec)

/-- ITS FALSE NEIGHBOUR: 'it returns false'. Refute it at one input. -/
def frameScansWrong : ChangeSpec := { name := "frameScans", fn := fun _ => fun
  | [d1, d2] => { results := [.lit (.bool false)], args := [d1, d2] }
  | _ => none }
def FrameScansWrongFalsely : Prop := frameScansRow.holds Try.pinned (OpenSpec.ofChange frameScansWrong)

/-- 'handbelllaw08.FramePieces': WHATEVER THE INPUT: true; the input reads as it did. -/
def framePiecesSpec : ChangeSpec := { name := "framePieces", fn := fun _ => fun
  | [d1, d2] => { results := [.lit (.bool true)], args := [d1, d2] }
  | _ => none }
def framePiecesRow : OpenClaim := { program := "ytgmpjbifbnaijaa", sum := "fee891f8a7244cabfb32fcc8ffd92e2455ceb915998f92f78deb042e43010aea", func := "handbell/handbelllaw08.FramePieces", spec := "framePieces", unfollowed := true, recurses := true, apart := false }
def FramePiecesSaid : Prop := framePiecesRow.holds Try.pinned (OpenSpec.ofChange framePiecesSpec)

/-- ITS FALSE NEIGHBOUR: 'it returns false'. Refute it at one input. -/
def framePiecesWrong : ChangeSpec := { name := "framePieces", fn := fun _ => fun
  | [d1, d2] => { results := [.lit (.bool false)], args := [d1, d2] }
  | _ => none }
def FramePiecesWrongFalsely : Prop := framePiecesRow.holds Try.pinned (OpenSpec.ofChange framePiecesWrong)

/-- 'handbelllaw08.FrameAgain': WHATEVER THE INPUT: true; the input reads as it did. -/
def frameAgainSpec : ChangeSpec := { name := "frameAgain", fn := fun _ => fun
  | [d1, d2] => { results := [.lit (.bool true)], args := [d1, d2] }
  | _ => none }
def frameAgainRow : OpenClaim := { program := "ytgmpjbifbnaijaa", sum := "fee891f8a7244cabfb32fcc8ffd92e2455ceb915998f92f78deb042e43010aea", func := "handbell/handbelllaw08.FrameAgain", spec := "frameAgain", unfollowed := true, recurses := true, apart := false }
def FrameAgainSaid : Prop := frameAgainRow.holds Try.pinned (OpenSpec.ofChange frameAgainSpec)

/-- ITS FALSE NEIGHBOUR: 'it returns false'. Refute it at one input. -/
def frameAgainWrong : ChangeSpec := { name := "frameAgain", fn := fun _ => fun
  | [d1, d2] => { results := [.lit (.bool false)], args := [d1, d2] }
  | _ => none }
def FrameAgainWrongFalsely : Prop := frameAgainRow.holds Try.pinned (OpenSpec.ofChange frameAgainWrong)

/-- 'handbelllaw08.FrameCounts': WHATEVER THE INPUT: true; the input reads as it did. -/
def frameCountsSpec : ChangeSpec := { name := "frameCounts", fn := fun _ => fun
  | [d] => { results := [.lit (.bool true)], args := [d] }
  | _ => none }
def frameCountsRow : OpenClaim := { program := "ytgmpjbifbnaijaa", sum := "fee891f8a7244cabfb32fcc8ffd92e2455ceb915998f92f78deb042e43010aea", func := "handbell/handbelllaw08.FrameCounts", spec := "frameCounts", unfollowed := true, recurses := true, apart := false }
def FrameCountsSaid : Prop := frameCountsRow.holds Try.pinned (OpenSpec.ofChange frameCountsSpec)

/-- ITS FALSE NEIGHBOUR: 'it returns false'. Refute it at one input. -/
def frameCountsWrong : ChangeSpec := { name := "frameCounts", fn := fun _ => fun
  | [d] => { results := [.lit (.bool false)], args := [d] }
  | _ => none }
def FrameCountsWrongFalsely : Prop := frameCountsRow.holds Try.pinned (OpenSpec.ofChange frameCountsWrong)

/-- 'handbelllaw08.FrameOwn': WHATEVER THE INPUT: true; the input reads as it did. -/
def frameOwnSpec : ChangeSpec := { name := "frameOwn", fn := fun _ => fun
  | [d1, d2] => { results := [.lit (.bool true)], args := [d1, d2] }
  | _ => none }
def frameOwnRow : OpenClaim := { program := "ytgmpjbifbnaijaa", sum := "fee891f8a7244cabfb32fcc8ffd92e2455ceb915998f92f78deb042e43010aea", func := "handbell/handbelllaw08.FrameOwn", spec := "frameOwn", unfollowed := true, recurses := true, apart := false }
def FrameOwnSaid : Prop := frameOwnRow.holds Try.pinned (OpenSpec.ofChange frameOwnSpec)

/-- ITS FALSE NEIGHBOUR: 'it returns false'. Refute it at one input. -/
def frameOwnWrong : ChangeSpec := { name := "frameOwn", fn := fun _ => fun
  | [d1, d2] => { results := [.lit (.bool false)], args := [d1, d2] }
  | _ => none }
def FrameOwnWrongFalsely : Prop := frameOwnRow.holds Try.pinned (OpenSpec.ofChange frameOwnWrong)

/- THE SECOND FORM. 'bulk': how many values and letters a reading holds, each counted each time it is reached (what is shared counts as often as it is met; a slice's spare places count too). A statement '..UptoSaid' is the law's where the arguments, and the package variables that the reading takes, are together of bulk at most 1048576: NARROWER than '..Said'. Prove '..Said' where nothing that the law and all that it calls make is longer than what came in: it says more and counts as full. Else prove '..UptoSaid'. A law counts once. -/
mutual
def uptoBulk {H : Type} : DataW H → Nat
  | .lit (.string bytes) => bytes.length + 1
  | .lit _ => 1
  | .nil => 1
  | .ptr d => uptoBulk d + 1
  | .slice elems spare => uptoBulkAll elems + uptoBulkAll spare + 1
  | .agg parts => uptoBulkAll parts + 1
  | .iface _ d => uptoBulk d + 1
  | .map entries => uptoBulkEntries entries + 1
  | .held _ => 1
def uptoBulkAll {H : Type} : List (DataW H) → Nat
  | [] => 0
  | d :: r => uptoBulk d + uptoBulkAll r
def uptoBulkEntries {H : Type} : List (Lit × DataW H) → Nat
  | [] => 0
  | x :: r => uptoBulkEntry x + uptoBulkEntries r
def uptoBulkEntry {H : Type} : Lit × DataW H → Nat
  | (.string bytes, d) => bytes.length + uptoBulk d + 1
  | (_, d) => uptoBulk d + 1
 end
def uptoSmall : (H : Type) → List (DataW H) → Bool := fun _ ds => decide (uptoBulkAll ds ≤ 1048576)
def OpenSpec.upto (s : _root_.Go.ChangeSpec) : _root_.Go.OpenSpec := { _root_.Go.OpenSpec.ofChange s with cond := some uptoSmall }

/-- 'handbelllaw08.FrameThere', WHERE WHAT IT READS IS OF BULK AT MOST 1048576: true; the input reads as it did. -/
def frameThereUptoRow : OpenClaim := { program := "ytgmpjbifbnaijaa", sum := "fee891f8a7244cabfb32fcc8ffd92e2455ceb915998f92f78deb042e43010aea", func := "handbell/handbelllaw08.FrameThere", spec := "frameThere", unfollowed := true, recurses := true, apart := false, narrowed := true }
def FrameThereUptoSaid : Prop := frameThereUptoRow.holds Try.pinned (OpenSpec.upto frameThereSpec)

/-- 'handbelllaw08.FrameScans', WHERE WHAT IT READS IS OF BULK AT MOST 1048576: true; the input reads as it did. -/
def frameScansUptoRow : OpenClaim := { program := "ytgmpjbifbnaijaa", sum := "fee891f8a7244cabfb32fcc8ffd92e2455ceb915998f92f78deb042e43010aea", func := "handbell/handbelllaw08.FrameScans", spec := "frameScans", unfollowed := true, recurses := true, apart := false, narrowed := true }
def FrameScansUptoSaid : Prop := frameScansUptoRow.holds Try.pinned (OpenSpec.upto frameScansSpec)

/-- 'handbelllaw08.FramePieces', WHERE WHAT IT READS IS OF BULK AT MOST 1048576: true; the input reads as it did. -/
def framePiecesUptoRow : OpenClaim := { program := "ytgmpjbifbnaijaa", sum := "fee891f8a7244cabfb32fcc8ffd92e2455ceb915998f92f78deb042e43010aea", func := "handbell/handbelllaw08.FramePieces", spec := "framePieces", unfollowed := true, recurses := true, apart := false, narrowed := true }
def FramePiecesUptoSaid : Prop := framePiecesUptoRow.holds Try.pinned (OpenSpec.upto framePiecesSpec)

/-- 'handbelllaw08.FrameAgain', WHERE WHAT IT READS IS OF BULK AT MOST 1048576: true; the input reads as it did. -/
def frameAgainUptoRow : OpenClaim := { program := "ytgmpjbifbnaijaa", sum := "fee891f8a7244cabfb32fcc8ffd92e2455ceb915998f92f78deb042e43010aea", func := "handbell/handbelllaw08.FrameAgain", spec := "frameAgain", unfollowed := true, recurses := true, apart := false, narrowed := true }
def FrameAgainUptoSaid : Prop := frameAgainUptoRow.holds Try.pinned (OpenSpec.upto frameAgainSpec)

/-- 'handbelllaw08.FrameCounts', WHERE WHAT IT READS IS OF BULK AT MOST 1048576: true; the input reads as it did. -/
def frameCountsUptoRow : OpenClaim := { program := "ytgmpjbifbnaijaa", sum := "fee891f8a7244cabfb32fcc8ffd92e2455ceb915998f92f78deb042e43010aea", func := "handbell/handbelllaw08.FrameCounts", spec := "frameCounts", unfollowed := true, recurses := true, apart := false, narrowed := true }
def FrameCountsUptoSaid : Prop := frameCountsUptoRow.holds Try.pinned (OpenSpec.upto frameCountsSpec)

/-- 'handbelllaw08.FrameOwn', WHERE WHAT IT READS IS OF BULK AT MOST 1048576: true; the input reads as it did. -/
def frameOwnUptoRow : OpenClaim := { program := "ytgmpjbifbnaijaa", sum := "fee891f8a7244cabfb32fcc8ffd92e2455ceb915998f92f78deb042e43010aea", func := "handbell/handbelllaw08.FrameOwn", spec := "frameOwn", unfollowed := true, recurses := true, apart := false, narrowed := true }
def FrameOwnUptoSaid : Prop := frameOwnUptoRow.holds Try.pinned (OpenSpec.upto frameOwnSpec)

end Rows
end Go.Proofs.Ytgmpjbifbnaijaa
