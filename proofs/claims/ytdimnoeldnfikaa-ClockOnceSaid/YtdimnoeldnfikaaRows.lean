/-
  No cell of these rows narrows 'for every input' (looked for: loops, veiled, ifaces, maps, wideKeys, modest, calm, conditions, laid).
  DERIVED. THE GIVEN ROWS OF THIS SEAT. 12 by the template 'for every input the law returns true; each argument reads behind the call as it read before'; 0 by the template 'total and deterministic' (their statements: YtdimnoeldnfikaaTotals.lean).
  GIVEN WITH THE SEED: the statements are not yours to turn. If you find one false, say at which input.
  Laid BY PROGRAM, IN A SANDBOX (cutbox-rows.mjs): the forced cells as the released guide's own fill.sh prints them over the translation eff51323aface57e… (all of the seat's roots in one cut). By AI agents, Wed Nov 11 2026. No macro, syntax, notation, axiom, sorry.
-/
import Derived.Test.YtdimnoeldnfikaaChecked
import GoSem.Claim
import GoSem.ClaimJoined
import GoSem.ClaimMapViews
import Derived.JoinedTies
import Derived.KernelRfl
namespace Go.Proofs.Ytdimnoeldnfikaa
/- THE CELL 'sum', in the pinned program and in every row, IS THE sha256 OF THE DUMP (.gsa) THAT YtdimnoeldnfikaaProg.lean LOADS. Nothing in Lean hashes anything: it is a label: what it is worth is what the hold of that sum in a sandbox is worth. -/
noncomputable def Try.pinned : Pinned := { name := "ytdimnoeldnfikaa", sum := "eff51323aface57e1fc4aeec7392e3c5cb0e9bd367008ac3e06b790a484db8a3", checked := Try.checked }
namespace Rows
def none {H : Type} : Left H := { results := [], args := [] }

/-- 'handbelllaw03.ClockOnce': WHATEVER THE INPUT: true; the input reads as it did. -/
def clockOnceSpec : ChangeSpec := { name := "clockOnce", fn := fun _ => fun
  | [d1, d2] => { results := [.lit (.bool true)], args := [d1, d2] }
  | _ => none }
def clockOnceRow : OpenClaim := { program := "ytdimnoeldnfikaa", sum := "eff51323aface57e1fc4aeec7392e3c5cb0e9bd367008ac3e06b790a484db8a3", func := "handbell/handbelllaw03.ClockOnce", spec := "clockOnce", unfollowed := true, recurses := true, apart := false }
def ClockOnceSaid : Prop := clockOnceRow.holds Try.pinned (OpenSpec.ofChange clockOnceSpec)

/-- ITS FALSE NEIGHBOUR: 'it returns false'. Refute it at one input. -/
def clockOnceWrong : ChangeSpec := { name := "clockOnce", fn := fun _ => fun
  | [d1, d2] => { results := [.lit (.bool false)], args := [d1, d2] }
  | _ => none }
def ClockOnceWrongFalsely : Prop := clockOnceRow.holds Try.pinned (OpenSpec.ofChange clockOnceWrong)

/-- 'handbelllaw03.ClockAdds': WHATEVER THE INPUT: true; the input reads as it did. -/
def clockAddsSpec : ChangeSpec := { name := "clockAdds", fn := fun _ => fun
  | [d1, d2] => { results := [.lit (.bool true)], args := [d1, d2] }
  | _ => none }
def clockAddsRow : OpenClaim := { program := "ytdimnoeldnfikaa", sum := "eff51323aface57e1fc4aeec7392e3c5cb0e9bd367008ac3e06b790a484db8a3", func := "handbell/handbelllaw03.ClockAdds", spec := "clockAdds", unfollowed := true, recurses := true, apart := false }
def ClockAddsSaid : Prop := clockAddsRow.holds Try.pinned (OpenSpec.ofChange clockAddsSpec)

/-- ITS FALSE NEIGHBOUR: 'it returns false'. Refute it at one input. -/
def clockAddsWrong : ChangeSpec := { name := "clockAdds", fn := fun _ => fun
  | [d1, d2] => { results := [.lit (.bool false)], args := [d1, d2] }
  | _ => none }
def ClockAddsWrongFalsely : Prop := clockAddsRow.holds Try.pinned (OpenSpec.ofChange clockAddsWrong)

/-- 'handbelllaw03.ClockThere': WHATEVER THE INPUT: true; the input reads as it did. -/
def clockThereSpec : ChangeSpec := { name := "clockThere", fn := fun _ => fun
  | [d1, d2] => { results := [.lit (.bool true)], args := [d1, d2] }
  | _ => none }
def clockThereRow : OpenClaim := { program := "ytdimnoeldnfikaa", sum := "eff51323aface57e1fc4aeec7392e3c5cb0e9bd367008ac3e06b790a484db8a3", func := "handbell/handbelllaw03.ClockThere", spec := "clockThere", unfollowed := true, recurses := true, apart := false }
def ClockThereSaid : Prop := clockThereRow.holds Try.pinned (OpenSpec.ofChange clockThereSpec)

/-- ITS FALSE NEIGHBOUR: 'it returns false'. Refute it at one input. -/
def clockThereWrong : ChangeSpec := { name := "clockThere", fn := fun _ => fun
  | [d1, d2] => { results := [.lit (.bool false)], args := [d1, d2] }
  | _ => none }
def ClockThereWrongFalsely : Prop := clockThereRow.holds Try.pinned (OpenSpec.ofChange clockThereWrong)

/-- 'handbelllaw03.ClockRises': WHATEVER THE INPUT: true; the input reads as it did. -/
def clockRisesSpec : ChangeSpec := { name := "clockRises", fn := fun _ => fun
  | [d1, d2, d3] => { results := [.lit (.bool true)], args := [d1, d2, d3] }
  | _ => none }
def clockRisesRow : OpenClaim := { program := "ytdimnoeldnfikaa", sum := "eff51323aface57e1fc4aeec7392e3c5cb0e9bd367008ac3e06b790a484db8a3", func := "handbell/handbelllaw03.ClockRises", spec := "clockRises", unfollowed := true, recurses := true, apart := false }
def ClockRisesSaid : Prop := clockRisesRow.holds Try.pinned (OpenSpec.ofChange clockRisesSpec)

/-- ITS FALSE NEIGHBOUR: 'it returns false'. Refute it at one input. -/
def clockRisesWrong : ChangeSpec := { name := "clockRises", fn := fun _ => fun
  | [d1, d2, d3] => { results := [.lit (.bool false)], args := [d1, d2, d3] }
  | _ => none }
def ClockRisesWrongFalsely : Prop := clockRisesRow.holds Try.pinned (OpenSpec.ofChange clockRisesWrong)

/-- 'handbelllaw03.ClockHeld': WHATEVER THE INPUT: true; the input reads as it did. -/
def clockHeldSpec : ChangeSpec := { name := "clockHeld", fn := fun _ => fun
  | [d1, d2] => { results := [.lit (.bool true)], args := [d1, d2] }
  | _ => none }
def clockHeldRow : OpenClaim := { program := "ytdimnoeldnfikaa", sum := "eff51323aface57e1fc4aeec7392e3c5cb0e9bd367008ac3e06b790a484db8a3", func := "handbell/handbelllaw03.ClockHeld", spec := "clockHeld", unfollowed := true, recurses := true, apart := false }
def ClockHeldSaid : Prop := clockHeldRow.holds Try.pinned (OpenSpec.ofChange clockHeldSpec)

/-- ITS FALSE NEIGHBOUR: 'it returns false'. Refute it at one input. -/
def clockHeldWrong : ChangeSpec := { name := "clockHeld", fn := fun _ => fun
  | [d1, d2] => { results := [.lit (.bool false)], args := [d1, d2] }
  | _ => none }
def ClockHeldWrongFalsely : Prop := clockHeldRow.holds Try.pinned (OpenSpec.ofChange clockHeldWrong)

/-- 'handbelllaw03.ClockWheels': WHATEVER THE INPUT: true; the input reads as it did. -/
def clockWheelsSpec : ChangeSpec := { name := "clockWheels", fn := fun _ => fun
  | [d1, d2] => { results := [.lit (.bool true)], args := [d1, d2] }
  | _ => none }
def clockWheelsRow : OpenClaim := { program := "ytdimnoeldnfikaa", sum := "eff51323aface57e1fc4aeec7392e3c5cb0e9bd367008ac3e06b790a484db8a3", func := "handbell/handbelllaw03.ClockWheels", spec := "clockWheels", unfollowed := true, recurses := true, apart := false }
def ClockWheelsSaid : Prop := clockWheelsRow.holds Try.pinned (OpenSpec.ofChange clockWheelsSpec)

/-- ITS FALSE NEIGHBOUR: 'it returns false'. Refute it at one input. -/
def clockWheelsWrong : ChangeSpec := { name := "clockWheels", fn := fun _ => fun
  | [d1, d2] => { results := [.lit (.bool false)], args := [d1, d2] }
  | _ => none }
def ClockWheelsWrongFalsely : Prop := clockWheelsRow.holds Try.pinned (OpenSpec.ofChange clockWheelsWrong)

/-- 'handbelllaw03.ClockNil': WHATEVER THE INPUT: true; the input reads as it did. -/
def clockNilSpec : ChangeSpec := { name := "clockNil", fn := fun _ => fun
  | [d1, d2] => { results := [.lit (.bool true)], args := [d1, d2] }
  | _ => none }
def clockNilRow : OpenClaim := { program := "ytdimnoeldnfikaa", sum := "eff51323aface57e1fc4aeec7392e3c5cb0e9bd367008ac3e06b790a484db8a3", func := "handbell/handbelllaw03.ClockNil", spec := "clockNil", unfollowed := true, recurses := true, apart := false }
def ClockNilSaid : Prop := clockNilRow.holds Try.pinned (OpenSpec.ofChange clockNilSpec)

/-- ITS FALSE NEIGHBOUR: 'it returns false'. Refute it at one input. -/
def clockNilWrong : ChangeSpec := { name := "clockNil", fn := fun _ => fun
  | [d1, d2] => { results := [.lit (.bool false)], args := [d1, d2] }
  | _ => none }
def ClockNilWrongFalsely : Prop := clockNilRow.holds Try.pinned (OpenSpec.ofChange clockNilWrong)

/-- 'handbelllaw20.PanelLamps': WHATEVER THE INPUT: true; the input reads as it did. -/
def panelLampsSpec : ChangeSpec := { name := "panelLamps", fn := fun _ => fun
  | [d1, d2] => { results := [.lit (.bool true)], args := [d1, d2] }
  | _ => none }
def panelLampsRow : OpenClaim := { program := "ytdimnoeldnfikaa", sum := "eff51323aface57e1fc4aeec7392e3c5cb0e9bd367008ac3e06b790a484db8a3", func := "handbell/handbelllaw20.PanelLamps", spec := "panelLamps", unfollowed := true, recurses := true, apart := false }
def PanelLampsSaid : Prop := panelLampsRow.holds Try.pinned (OpenSpec.ofChange panelLampsSpec)

/-- ITS FALSE NEIGHBOUR: 'it returns false'. Refute it at one input. -/
def panelLampsWrong : ChangeSpec := { name := "panelLamps", fn := fun _ => fun
  | [d1, d2] => { results := [.lit (.bool false)], args := [d1, d2] }
  | _ => none }
def PanelLampsWrongFalsely : Prop := panelLampsRow.holds Try.pinned (OpenSpec.ofChange panelLampsWrong)

/-- 'handbelllaw20.PanelOrder': WHATEVER THE INPUT: true; the input reads as it did. -/
def panelOrderSpec : ChangeSpec := { name := "panelOrder", fn := fun _ => fun
  | [d1, d2] => { results := [.lit (.bool true)], args := [d1, d2] }
  | _ => none }
def panelOrderRow : OpenClaim := { program := "ytdimnoeldnfikaa", sum := "eff51323aface57e1fc4aeec7392e3c5cb0e9bd367008ac3e06b790a484db8a3", func := "handbell/handbelllaw20.PanelOrder", spec := "panelOrder", unfollowed := true, recurses := true, apart := false }
def PanelOrderSaid : Prop := panelOrderRow.holds Try.pinned (OpenSpec.ofChange panelOrderSpec)

/-- ITS FALSE NEIGHBOUR: 'it returns false'. Refute it at one input. -/
def panelOrderWrong : ChangeSpec := { name := "panelOrder", fn := fun _ => fun
  | [d1, d2] => { results := [.lit (.bool false)], args := [d1, d2] }
  | _ => none }
def PanelOrderWrongFalsely : Prop := panelOrderRow.holds Try.pinned (OpenSpec.ofChange panelOrderWrong)

/-- 'handbelllaw20.PanelShows': WHATEVER THE INPUT: true; the input reads as it did. -/
def panelShowsSpec : ChangeSpec := { name := "panelShows", fn := fun _ => fun
  | [d1, d2] => { results := [.lit (.bool true)], args := [d1, d2] }
  | _ => none }
def panelShowsRow : OpenClaim := { program := "ytdimnoeldnfikaa", sum := "eff51323aface57e1fc4aeec7392e3c5cb0e9bd367008ac3e06b790a484db8a3", func := "handbell/handbelllaw20.PanelShows", spec := "panelShows", unfollowed := true, recurses := true, apart := false }
def PanelShowsSaid : Prop := panelShowsRow.holds Try.pinned (OpenSpec.ofChange panelShowsSpec)

/-- ITS FALSE NEIGHBOUR: 'it returns false'. Refute it at one input. -/
def panelShowsWrong : ChangeSpec := { name := "panelShows", fn := fun _ => fun
  | [d1, d2] => { results := [.lit (.bool false)], args := [d1, d2] }
  | _ => none }
def PanelShowsWrongFalsely : Prop := panelShowsRow.holds Try.pinned (OpenSpec.ofChange panelShowsWrong)

/-- 'handbelllaw20.PanelSilent': WHATEVER THE INPUT: true; the input reads as it did. -/
def panelSilentSpec : ChangeSpec := { name := "panelSilent", fn := fun _ => fun
  | [d1, d2, d3, d4] => { results := [.lit (.bool true)], args := [d1, d2, d3, d4] }
  | _ => none }
def panelSilentRow : OpenClaim := { program := "ytdimnoeldnfikaa", sum := "eff51323aface57e1fc4aeec7392e3c5cb0e9bd367008ac3e06b790a484db8a3", func := "handbell/handbelllaw20.PanelSilent", spec := "panelSilent", unfollowed := true, recurses := true, apart := false }
def PanelSilentSaid : Prop := panelSilentRow.holds Try.pinned (OpenSpec.ofChange panelSilentSpec)

/-- ITS FALSE NEIGHBOUR: 'it returns false'. Refute it at one input. -/
def panelSilentWrong : ChangeSpec := { name := "panelSilent", fn := fun _ => fun
  | [d1, d2, d3, d4] => { results := [.lit (.bool false)], args := [d1, d2, d3, d4] }
  | _ => none }
def PanelSilentWrongFalsely : Prop := panelSilentRow.holds Try.pinned (OpenSpec.ofChange panelSilentWrong)

/-- 'handbelllaw20.PanelBegins': WHATEVER THE INPUT: true; the input reads as it did. -/
def panelBeginsSpec : ChangeSpec := { name := "panelBegins", fn := fun _ => fun
  | [d1, d2, d3] => { results := [.lit (.bool true)], args := [d1, d2, d3] }
  | _ => none }
def panelBeginsRow : OpenClaim := { program := "ytdimnoeldnfikaa", sum := "eff51323aface57e1fc4aeec7392e3c5cb0e9bd367008ac3e06b790a484db8a3", func := "handbell/handbelllaw20.PanelBegins", spec := "panelBegins", unfollowed := true, recurses := true, apart := false }
def PanelBeginsSaid : Prop := panelBeginsRow.holds Try.pinned (OpenSpec.ofChange panelBeginsSpec)

/-- ITS FALSE NEIGHBOUR: 'it returns false'. Refute it at one input. -/
def panelBeginsWrong : ChangeSpec := { name := "panelBegins", fn := fun _ => fun
  | [d1, d2, d3] => { results := [.lit (.bool false)], args := [d1, d2, d3] }
  | _ => none }
def PanelBeginsWrongFalsely : Prop := panelBeginsRow.holds Try.pinned (OpenSpec.ofChange panelBeginsWrong)

/- THE SECOND FORM. 'bulk': how many values and letters a reading holds, each counted each time it is reached (what is shared counts as often as it is met; a slice's spare places count too). A statement '..UptoSaid' is the law's where the arguments, and the package variables that the reading takes, are together of bulk at most 1048576: NARROWER than '..Said'. Prove '..Said' where nothing that the law and all that it calls make is longer than what came in: it says more and counts as full. Else prove '..UptoSaid'. A law counts once. -/
mutual
def uptoBulk {H : Type} : DataW H → Nat
  | .lit (.string bytes) => bytes.length + 1
  | .lit _ => 1
  | .nil => 1
  | .ptr d => uptoBulk d + 1
  | .slice elems spare => uptoBulkAll elems + uptoBulkAll spare + 1
  | .agg parts => uptoBulkAll parts + 1
  | .iface _ d => uptoBulk d + 1
  | .map entries => uptoBulkEntries entries + 1
  | .held _ => 1
def uptoBulkAll {H : Type} : List (DataW H) → Nat
  | [] => 0
  | d :: r => uptoBulk d + uptoBulkAll r
def uptoBulkEntries {H : Type} : List (Lit × DataW H) → Nat
  | [] => 0
  | x :: r => uptoBulkEntry x + uptoBulkEntries r
def uptoBulkEntry {H : Type} : Lit × DataW H → Nat
  | (.string bytes, d) => bytes.length + uptoBulk d + 1
  | (_, d) => uptoBulk d + 1
 end
def uptoSmall : (H : Type) → List (DataW H) → Bool := fun _ ds => decide (uptoBulkAll ds ≤ 1048576)
def OpenSpec.upto (s : _root_.Go.ChangeSpec) : _root_.Go.OpenSpec := { _root_.Go.OpenSpec.ofChange s with cond := some uptoSmall }

/-- 'handbelllaw03.ClockOnce', WHERE WHAT IT READS IS OF BULK AT MOST 1048576: true; the input reads as it did. -/
def clockOnceUptoRow : OpenClaim := { program := "ytdimnoeldnfikaa", sum := "eff51323aface57e1fc4aeec7392e3c5cb0e9bd367008ac3e06b790a484db8a3", func := "handbell/handbelllaw03.ClockOnce", spec := "clockOnce", unfollowed := true, recurses := true, apart := false, narrowed := true }
def ClockOnceUptoSaid : Prop := clockOnceUptoRow.holds Try.pinned (OpenSpec.upto clockOnceSpec)

/-- 'handbelllaw03.ClockAdds', WHERE WHAT IT READS IS OF BULK AT MOST 1048576: true; the input reads as it did. -/
def clockAddsUptoRow : OpenClaim := { program := "ytdimnoeldnfikaa", sum := "eff51323aface57e1fc4aeec7392e3c5cb0e9bd367008ac3e06b790a484db8a3", func := "handbell/handbelllaw03.ClockAdds", spec := "clockAdds", unfollowed := true, recurses := true, apart := false, narrowed := true }
def ClockAddsUptoSaid : Prop := clockAddsUptoRow.holds Try.pinned (OpenSpec.upto clockAddsSpec)

/-- 'handbelllaw03.ClockThere', WHERE WHAT IT READS IS OF BULK AT MOST 1048576: true; the input reads as it did. -/
def clockThereUptoRow : OpenClaim := { program := "ytdimnoeldnfikaa", sum := "eff51323aface57e1fc4aeec7392e3c5cb0e9bd367008ac3e06b790a484db8a3", func := "handbell/handbelllaw03.ClockThere", spec := "clockThere", unfollowed := true, recurses := true, apart := false, narrowed := true }
def ClockThereUptoSaid : Prop := clockThereUptoRow.holds Try.pinned (OpenSpec.upto clockThereSpec)

/-- 'handbelllaw03.ClockRises', WHERE WHAT IT READS IS OF BULK AT MOST 1048576: true; the input reads as it did. -/
def clockRisesUptoRow : OpenClaim := { program := "ytdimnoeldnfikaa", sum := "eff51323aface57e1fc4aeec7392e3c5cb0e9bd367008ac3e06b790a484db8a3", func := "handbell/handbelllaw03.ClockRises", spec := "clockRises", unfollowed := true, recurses := true, apart := false, narrowed := true }
def ClockRisesUptoSaid : Prop := clockRisesUptoRow.holds Try.pinned (OpenSpec.upto clockRisesSpec)

/-- 'handbelllaw03.ClockHeld', WHERE WHAT IT READS IS OF BULK AT MOST 1048576: true; the input reads as it did. -/
def clockHeldUptoRow : OpenClaim := { program := "ytdimnoeldnfikaa", sum := "eff51323aface57e1fc4aeec7392e3c5cb0e9bd367008ac3e06b790a484db8a3", func := "handbell/handbelllaw03.ClockHeld", spec := "clockHeld", unfollowed := true, recurses := true, apart := false, narrowed := true }
def ClockHeldUptoSaid : Prop := clockHeldUptoRow.holds Try.pinned (OpenSpec.upto clockHeldSpec)

/-- 'handbelllaw03.ClockWheels', WHERE WHAT IT READS IS OF BULK AT MOST 1048576: true; the input reads as it did. -/
def clockWheelsUptoRow : OpenClaim := { program := "ytdimnoeldnfikaa", sum := "eff51323aface57e1fc4aeec7392e3c5cb0e9bd367008ac3e06b790a484db8a3", func := "handbell/handbelllaw03.ClockWheels", spec := "clockWheels", unfollowed := true, recurses := true, apart := false, narrowed := true }
def ClockWheelsUptoSaid : Prop := clockWheelsUptoRow.holds Try.pinned (OpenSpec.upto clockWheelsSpec)

/-- 'handbelllaw03.ClockNil', WHERE WHAT IT READS IS OF BULK AT MOST 1048576: true; the input reads as it did. -/
def clockNilUptoRow : OpenClaim := { program := "ytdimnoeldnfikaa", sum := "eff51323aface57e1fc4aeec7392e3c5cb0e9bd367008ac3e06b790a484db8a3", func := "handbell/handbelllaw03.ClockNil", spec := "clockNil", unfollowed := true, recurses := true, apart := false, narrowed := true }
def ClockNilUptoSaid : Prop := clockNilUptoRow.holds Try.pinned (OpenSpec.upto clockNilSpec)

/-- 'handbelllaw20.PanelLamps', WHERE WHAT IT READS IS OF BULK AT MOST 1048576: true; the input reads as it did. -/
def panelLampsUptoRow : OpenClaim := { program := "ytdimnoeldnfikaa", sum := "eff51323aface57e1fc4aeec7392e3c5cb0e9bd367008ac3e06b790a484db8a3", func := "handbell/handbelllaw20.PanelLamps", spec := "panelLamps", unfollowed := true, recurses := true, apart := false, narrowed := true }
def PanelLampsUptoSaid : Prop := panelLampsUptoRow.holds Try.pinned (OpenSpec.upto panelLampsSpec)

/-- 'handbelllaw20.PanelOrder', WHERE WHAT IT READS IS OF BULK AT MOST 1048576: true; the input reads as it did. -/
def panelOrderUptoRow : OpenClaim := { program := "ytdimnoeldnfikaa", sum := "eff51323aface57e1fc4aeec7392e3c5cb0e9bd367008ac3e06b790a484db8a3", func := "handbell/handbelllaw20.PanelOrder", spec := "panelOrder", unfollowed := true, recurses := true, apart := false, narrowed := true }
def PanelOrderUptoSaid : Prop := panelOrderUptoRow.holds Try.pinned (OpenSpec.upto panelOrderSpec)

/-- 'handbelllaw20.PanelShows', WHERE WHAT IT READS IS OF BULK AT MOST 1048576: true; the input reads as it did. -/
def panelShowsUptoRow : OpenClaim := { program := "ytdimnoeldnfikaa", sum := "eff51323aface57e1fc4aeec7392e3c5cb0e9bd367008ac3e06b790a484db8a3", func := "handbell/handbelllaw20.PanelShows", spec := "panelShows", unfollowed := true, recurses := true, apart := false, narrowed := true }
def PanelShowsUptoSaid : Prop := panelShowsUptoRow.holds Try.pinned (OpenSpec.upto panelShowsSpec)

/-- 'handbelllaw20.PanelSilent', WHERE WHAT IT READS IS OF BULK AT MOST 1048576: true; the input reads as it did. -/
def panelSilentUptoRow : OpenClaim := { program := "ytdimnoeldnfikaa", sum := "eff51323aface57e1fc4aeec7392e3c5cb0e9bd367008ac3e06b790a484db8a3", func := "handbell/handbelllaw20.PanelSilent", spec := "panelSilent", unfollowed := true, recurses := true, apart := false, narrowed := true }
def PanelSilentUptoSaid : Prop := panelSilentUptoRow.holds Try.pinned (OpenSpec.upto panelSilentSpec)

/-- 'handbelllaw20.PanelBegins', WHERE WHAT IT READS IS OF BULK AT MOST 1048576: true; the input reads as it did. -/
def panelBeginsUptoRow : OpenClaim := { program := "ytdimnoeldnfikaa", sum := "eff51323aface57e1fc4aeec7392e3c5cb0e9bd367008ac3e06b790a484db8a3", func := "handbell/handbelllaw20.PanelBegins", spec := "panelBegins", unfollowed := true, recurses := true, apart := false, narrowed := true }
def PanelBeginsUptoSaid : Prop := panelBeginsUptoRow.holds Try.pinned (OpenSpec.upto panelBeginsSpec)

end Rows
end Go.Proofs.Ytdimnoeldnfikaa
