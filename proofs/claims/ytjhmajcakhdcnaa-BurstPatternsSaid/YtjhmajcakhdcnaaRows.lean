/-
  No cell of these rows narrows 'for every input' (looked for: loops, veiled, ifaces, maps, wideKeys, modest, calm, conditions, laid).
  DERIVED. THE GIVEN ROWS OF THIS SEAT. 9 by the template 'for every input the law returns true; each argument reads behind the call as it read before'; 0 by the template 'total and deterministic' (their statements: YtjhmajcakhdcnaaTotals.lean).
  GIVEN WITH THE SEED: the statements are not yours to turn. If you find one false, say at which input.
  Laid BY PROGRAM, IN A SANDBOX (cutbox-rows.mjs): the forced cells as the released guide's own fill.sh prints them over the translation 2045c3770b407080… (all of the seat's roots in one cut). By AI agents, Wed Nov 11 2026. No macro, syntax, notation, axiom, sorry.
-/
import Derived.Test.YtjhmajcakhdcnaaChecked
import GoSem.Claim
import GoSem.ClaimJoined
import GoSem.ClaimMapViews
import Derived.JoinedTies
import Derived.KernelRfl
namespace Go.Proofs.Ytjhmajcakhdcnaa
/- THE CELL 'sum', in the pinned program and in every row, IS THE sha256 OF THE DUMP (.gsa) THAT YtjhmajcakhdcnaaProg.lean LOADS. Nothing in Lean hashes anything: it is a label: what it is worth is what the hold of that sum in a sandbox is worth. -/
noncomputable def Try.pinned : Pinned := { name := "ytjhmajcakhdcnaa", sum := "2045c3770b407080930674035daf1dae165542be94660a8b0d2cfd4159b6d28f", checked := Try.checked }
namespace Rows
def none {H : Type} : Left H := { results := [], args := [] }

/-- 'handbelllaw19.BurstSounds': WHATEVER THE INPUT: true; the input reads as it did. -/
def burstSoundsSpec : ChangeSpec := { name := "burstSounds", fn := fun _ => fun
  | [d1, d2] => { results := [.lit (.bool true)], args := [d1, d2] }
  | _ => none }
def burstSoundsRow : OpenClaim := { program := "ytjhmajcakhdcnaa", sum := "2045c3770b407080930674035daf1dae165542be94660a8b0d2cfd4159b6d28f", func := "handbell/handbelllaw19.BurstSounds", spec := "burstSounds", apart := false }
def BurstSoundsSaid : Prop := burstSoundsRow.holds Try.pinned (OpenSpec.ofChange burstSoundsSpec)

/-- ITS FALSE NEIGHBOUR: 'it returns false'. Refute it at one input. -/
def burstSoundsWrong : ChangeSpec := { name := "burstSounds", fn := fun _ => fun
  | [d1, d2] => { results := [.lit (.bool false)], args := [d1, d2] }
  | _ => none }
def BurstSoundsWrongFalsely : Prop := burstSoundsRow.holds Try.pinned (OpenSpec.ofChange burstSoundsWrong)

/-- 'handbelllaw19.BurstRound': WHATEVER THE INPUT: true; the input reads as it did. -/
def burstRoundSpec : ChangeSpec := { name := "burstRound", fn := fun _ => fun
  | [d1, d2, d3] => { results := [.lit (.bool true)], args := [d1, d2, d3] }
  | _ => none }
def burstRoundRow : OpenClaim := { program := "ytjhmajcakhdcnaa", sum := "2045c3770b407080930674035daf1dae165542be94660a8b0d2cfd4159b6d28f", func := "handbell/handbelllaw19.BurstRound", spec := "burstRound", apart := false }
def BurstRoundSaid : Prop := burstRoundRow.holds Try.pinned (OpenSpec.ofChange burstRoundSpec)

/-- ITS FALSE NEIGHBOUR: 'it returns false'. Refute it at one input. -/
def burstRoundWrong : ChangeSpec := { name := "burstRound", fn := fun _ => fun
  | [d1, d2, d3] => { results := [.lit (.bool false)], args := [d1, d2, d3] }
  | _ => none }
def BurstRoundWrongFalsely : Prop := burstRoundRow.holds Try.pinned (OpenSpec.ofChange burstRoundWrong)

/-- 'handbelllaw09.SampleTracks': WHATEVER THE INPUT: true; the input reads as it did. -/
def sampleTracksSpec : ChangeSpec := { name := "sampleTracks", fn := fun _ => fun
  | [d1, d2, d3] => { results := [.lit (.bool true)], args := [d1, d2, d3] }
  | _ => none }
def sampleTracksRow : OpenClaim := { program := "ytjhmajcakhdcnaa", sum := "2045c3770b407080930674035daf1dae165542be94660a8b0d2cfd4159b6d28f", func := "handbell/handbelllaw09.SampleTracks", spec := "sampleTracks", apart := false }
def SampleTracksSaid : Prop := sampleTracksRow.holds Try.pinned (OpenSpec.ofChange sampleTracksSpec)

/-- ITS FALSE NEIGHBOUR: 'it returns false'. Refute it at one input. -/
def sampleTracksWrong : ChangeSpec := { name := "sampleTracks", fn := fun _ => fun
  | [d1, d2, d3] => { results := [.lit (.bool false)], args := [d1, d2, d3] }
  | _ => none }
def SampleTracksWrongFalsely : Prop := sampleTracksRow.holds Try.pinned (OpenSpec.ofChange sampleTracksWrong)

/-- 'handbelllaw09.SampleRuns': WHATEVER THE INPUT: true; the input reads as it did. -/
def sampleRunsSpec : ChangeSpec := { name := "sampleRuns", fn := fun _ => fun
  | [d1, d2, d3] => { results := [.lit (.bool true)], args := [d1, d2, d3] }
  | _ => none }
def sampleRunsRow : OpenClaim := { program := "ytjhmajcakhdcnaa", sum := "2045c3770b407080930674035daf1dae165542be94660a8b0d2cfd4159b6d28f", func := "handbell/handbelllaw09.SampleRuns", spec := "sampleRuns", apart := false }
def SampleRunsSaid : Prop := sampleRunsRow.holds Try.pinned (OpenSpec.ofChange sampleRunsSpec)

/-- ITS FALSE NEIGHBOUR: 'it returns false'. Refute it at one input. -/
def sampleRunsWrong : ChangeSpec := { name := "sampleRuns", fn := fun _ => fun
  | [d1, d2, d3] => { results := [.lit (.bool false)], args := [d1, d2, d3] }
  | _ => none }
def SampleRunsWrongFalsely : Prop := sampleRunsRow.holds Try.pinned (OpenSpec.ofChange sampleRunsWrong)

/-- 'handbelllaw09.SampleBytes': WHATEVER THE INPUT: true; the input reads as it did. -/
def sampleBytesSpec : ChangeSpec := { name := "sampleBytes", fn := fun _ => fun
  | [d1, d2, d3, d4] => { results := [.lit (.bool true)], args := [d1, d2, d3, d4] }
  | _ => none }
def sampleBytesRow : OpenClaim := { program := "ytjhmajcakhdcnaa", sum := "2045c3770b407080930674035daf1dae165542be94660a8b0d2cfd4159b6d28f", func := "handbell/handbelllaw09.SampleBytes", spec := "sampleBytes", apart := false }
def SampleBytesSaid : Prop := sampleBytesRow.holds Try.pinned (OpenSpec.ofChange sampleBytesSpec)

/-- ITS FALSE NEIGHBOUR: 'it returns false'. Refute it at one input. -/
def sampleBytesWrong : ChangeSpec := { name := "sampleBytes", fn := fun _ => fun
  | [d1, d2, d3, d4] => { results := [.lit (.bool false)], args := [d1, d2, d3, d4] }
  | _ => none }
def SampleBytesWrongFalsely : Prop := sampleBytesRow.holds Try.pinned (OpenSpec.ofChange sampleBytesWrong)

/-- 'handbelllaw09.SampleReads': WHATEVER THE INPUT: true; the input reads as it did. -/
def sampleReadsSpec : ChangeSpec := { name := "sampleReads", fn := fun _ => fun
  | [d1, d2] => { results := [.lit (.bool true)], args := [d1, d2] }
  | _ => none }
def sampleReadsRow : OpenClaim := { program := "ytjhmajcakhdcnaa", sum := "2045c3770b407080930674035daf1dae165542be94660a8b0d2cfd4159b6d28f", func := "handbell/handbelllaw09.SampleReads", spec := "sampleReads", apart := false }
def SampleReadsSaid : Prop := sampleReadsRow.holds Try.pinned (OpenSpec.ofChange sampleReadsSpec)

/-- ITS FALSE NEIGHBOUR: 'it returns false'. Refute it at one input. -/
def sampleReadsWrong : ChangeSpec := { name := "sampleReads", fn := fun _ => fun
  | [d1, d2] => { results := [.lit (.bool false)], args := [d1, d2] }
  | _ => none }
def SampleReadsWrongFalsely : Prop := sampleReadsRow.holds Try.pinned (OpenSpec.ofChange sampleReadsWrong)

/-- 'handbelllaw09.SampleBack': WHATEVER THE INPUT: true; the input reads as it did. -/
def sampleBackSpec : ChangeSpec := { name := "sampleBack", fn := fun _ => fun
  | [d1, d2, d3, d4] => { results := [.lit (.bool true)], args := [d1, d2, d3, d4] }
  | _ => none }
def sampleBackRow : OpenClaim := { program := "ytjhmajcakhdcnaa", sum := "2045c3770b407080930674035daf1dae165542be94660a8b0d2cfd4159b6d28f", func := "handbell/handbelllaw09.SampleBack", spec := "sampleBack", apart := false }
def SampleBackSaid : Prop := sampleBackRow.holds Try.pinned (OpenSpec.ofChange sampleBackSpec)

/-- ITS FALSE NEIGHBOUR: 'it returns false'. Refute it at one input. -/
def sampleBackWrong : ChangeSpec := { name := "sampleBack", fn := fun _ => fun
  | [d1, d2, d3, d4] => { results := [.lit (.bool false)], args := [d1, d2, d3, d4] }
  | _ => none }
def SampleBackWrongFalsely : Prop := sampleBackRow.holds Try.pinned (OpenSpec.ofChange sampleBackWrong)

/-- 'handbelllaw19.BurstPatterns': WHATEVER THE INPUT: true; the input reads as it did. -/
def burstPatternsSpec : ChangeSpec := { name := "burstPatterns", fn := fun _ => fun
  | [d] => { results := [.lit (.bool true)], args := [d] }
  | _ => none }
def burstPatternsRow : OpenClaim := { program := "ytjhmajcakhdcnaa", sum := "2045c3770b407080930674035daf1dae165542be94660a8b0d2cfd4159b6d28f", func := "handbell/handbelllaw19.BurstPatterns", spec := "burstPatterns", inPlace := ["internal/bytealg.CountString", "internal/bytealg.IndexByteString", "internal/bytealg.IndexString"], named := ["internal/bytealg.MaxLen"], apart := false }
def BurstPatternsSaid : Prop := burstPatternsRow.holds Try.pinned (OpenSpec.ofChange burstPatternsSpec)

/-- ITS FALSE NEIGHBOUR: 'it returns false'. Refute it at one input. -/
def burstPatternsWrong : ChangeSpec := { name := "burstPatterns", fn := fun _ => fun
  | [d] => { results := [.lit (.bool false)], args := [d] }
  | _ => none }
def BurstPatternsWrongFalsely : Prop := burstPatternsRow.holds Try.pinned (OpenSpec.ofChange burstPatternsWrong)

/-- 'handbelllaw19.BurstUrgent': WHATEVER THE INPUT: true; the input reads as it did. -/
def burstUrgentSpec : ChangeSpec := { name := "burstUrgent", fn := fun _ => fun
  | [d] => { results := [.lit (.bool true)], args := [d] }
  | _ => none }
def burstUrgentRow : OpenClaim := { program := "ytjhmajcakhdcnaa", sum := "2045c3770b407080930674035daf1dae165542be94660a8b0d2cfd4159b6d28f", func := "handbell/handbelllaw19.BurstUrgent", spec := "burstUrgent", inPlace := ["internal/bytealg.CountString", "internal/bytealg.IndexByteString", "internal/bytealg.IndexString"], named := ["internal/bytealg.MaxLen"], apart := false }
def BurstUrgentSaid : Prop := burstUrgentRow.holds Try.pinned (OpenSpec.ofChange burstUrgentSpec)

/-- ITS FALSE NEIGHBOUR: 'it returns false'. Refute it at one input. -/
def burstUrgentWrong : ChangeSpec := { name := "burstUrgent", fn := fun _ => fun
  | [d] => { results := [.lit (.bool false)], args := [d] }
  | _ => none }
def BurstUrgentWrongFalsely : Prop := burstUrgentRow.holds Try.pinned (OpenSpec.ofChange burstUrgentWrong)

/- THE SECOND FORM. 'bulk': how many values and letters a reading holds, each counted each time it is reached (what is shared counts as often as it is met; a slice's spare places count too). A statement '..UptoSaid' is the law's where the arguments, and the package variables that the reading takes, are together of bulk at most 1048576: NARROWER than '..Said'. Prove '..Said' where nothing that the law and all that it calls make is longer than what came in: it says more and counts as full. Else prove '..UptoSaid'. A law counts once. -/
mutual
def uptoBulk {H : Type} : DataW H → Nat
  | .lit (.string bytes) => bytes.length + 1
  | .lit _ => 1
  | .nil => 1
  | .ptr d => uptoBulk d + 1
  | .slice elems spare => uptoBulkAll elems + uptoBulkAll spare + 1
  | .agg parts => uptoBulkAll parts + 1
  | .iface _ d => uptoBulk d + 1
  | .map entries => uptoBulkEntries entries + 1
  | .held _ => 1
def uptoBulkAll {H : Type} : List (DataW H) → Nat
  | [] => 0
  | d :: r => uptoBulk d + uptoBulkAll r
def uptoBulkEntries {H : Type} : List (Lit × DataW H) → Nat
  | [] => 0
  | x :: r => uptoBulkEntry x + uptoBulkEntries r
def uptoBulkEntry {H : Type} : Lit × DataW H → Nat
  | (.string bytes, d) => bytes.length + uptoBulk d + 1
  | (_, d) => uptoBulk d + 1
 end
def uptoSmall : (H : Type) → List (DataW H) → Bool := fun _ ds => decide (uptoBulkAll ds ≤ 1048576)
def OpenSpec.upto (s : _root_.Go.ChangeSpec) : _root_.Go.OpenSpec := { _root_.Go.OpenSpec.ofChange s with cond := some uptoSmall }

/-- 'handbelllaw19.BurstSounds', WHERE WHAT IT READS IS OF BULK AT MOST 1048576: true; the input reads as it did. -/
def burstSoundsUptoRow : OpenClaim := { program := "ytjhmajcakhdcnaa", sum := "2045c3770b407080930674035daf1dae165542be94660a8b0d2cfd4159b6d28f", func := "handbell/handbelllaw19.BurstSounds", spec := "burstSounds", apart := false, narrowed := true }
def BurstSoundsUptoSaid : Prop := burstSoundsUptoRow.holds Try.pinned (OpenSpec.upto burstSoundsSpec)

/-- 'handbelllaw19.BurstRound', WHERE WHAT IT READS IS OF BULK AT MOST 1048576: true; the input reads as it did. -/
def burstRoundUptoRow : OpenClaim := { program := "ytjhmajcakhdcnaa", sum := "2045c3770b407080930674035daf1dae165542be94660a8b0d2cfd4159b6d28f", func := "handbell/handbelllaw19.BurstRound", spec := "burstRound", apart := false, narrowed := true }
def BurstRoundUptoSaid : Prop := burstRoundUptoRow.holds Try.pinned (OpenSpec.upto burstRoundSpec)

/-- 'handbelllaw09.SampleTracks', WHERE WHAT IT READS IS OF BULK AT MOST 1048576: true; the input reads as it did. -/
def sampleTracksUptoRow : OpenClaim := { program := "ytjhmajcakhdcnaa", sum := "2045c3770b407080930674035daf1dae165542be94660a8b0d2cfd4159b6d28f", func := "handbell/handbelllaw09.SampleTracks", spec := "sampleTracks", apart := false, narrowed := true }
def SampleTracksUptoSaid : Prop := sampleTracksUptoRow.holds Try.pinned (OpenSpec.upto sampleTracksSpec)

/-- 'handbelllaw09.SampleRuns', WHERE WHAT IT READS IS OF BULK AT MOST 1048576: true; the input reads as it did. -/
def sampleRunsUptoRow : OpenClaim := { program := "ytjhmajcakhdcnaa", sum := "2045c3770b407080930674035daf1dae165542be94660a8b0d2cfd4159b6d28f", func := "handbell/handbelllaw09.SampleRuns", spec := "sampleRuns", apart := false, narrowed := true }
def SampleRunsUptoSaid : Prop := sampleRunsUptoRow.holds Try.pinned (OpenSpec.upto sampleRunsSpec)

/-- 'handbelllaw09.SampleBytes', WHERE WHAT IT READS IS OF BULK AT MOST 1048576: true; the input reads as it did. -/
def sampleBytesUptoRow : OpenClaim := { program := "ytjhmajcakhdcnaa", sum := "2045c3770b407080930674035daf1dae165542be94660a8b0d2cfd4159b6d28f", func := "handbell/handbelllaw09.SampleBytes", spec := "sampleBytes", apart := false, narrowed := true }
def SampleBytesUptoSaid : Prop := sampleBytesUptoRow.holds Try.pinned (OpenSpec.upto sampleBytesSpec)

/-- 'handbelllaw09.SampleReads', WHERE WHAT IT READS IS OF BULK AT MOST 1048576: true; the input reads as it did. -/
def sampleReadsUptoRow : OpenClaim := { program := "ytjhmajcakhdcnaa", sum := "2045c3770b407080930674035daf1dae165542be94660a8b0d2cfd4159b6d28f", func := "handbell/handbelllaw09.SampleReads", spec := "sampleReads", apart := false, narrowed := true }
def SampleReadsUptoSaid : Prop := sampleReadsUptoRow.holds Try.pinned (OpenSpec.upto sampleReadsSpec)

/-- 'handbelllaw09.SampleBack', WHERE WHAT IT READS IS OF BULK AT MOST 1048576: true; the input reads as it did. -/
def sampleBackUptoRow : OpenClaim := { program := "ytjhmajcakhdcnaa", sum := "2045c3770b407080930674035daf1dae165542be94660a8b0d2cfd4159b6d28f", func := "handbell/handbelllaw09.SampleBack", spec := "sampleBack", apart := false, narrowed := true }
def SampleBackUptoSaid : Prop := sampleBackUptoRow.holds Try.pinned (OpenSpec.upto sampleBackSpec)

/-- 'handbelllaw19.BurstPatterns', WHERE WHAT IT READS IS OF BULK AT MOST 1048576: true; the input reads as it did. -/
def burstPatternsUptoRow : OpenClaim := { program := "ytjhmajcakhdcnaa", sum := "2045c3770b407080930674035daf1dae165542be94660a8b0d2cfd4159b6d28f", func := "handbell/handbelllaw19.BurstPatterns", spec := "burstPatterns", inPlace := ["internal/bytealg.CountString", "internal/bytealg.IndexByteString", "internal/bytealg.IndexString"], named := ["internal/bytealg.MaxLen"], apart := false, narrowed := true }
def BurstPatternsUptoSaid : Prop := burstPatternsUptoRow.holds Try.pinned (OpenSpec.upto burstPatternsSpec)

/-- 'handbelllaw19.BurstUrgent', WHERE WHAT IT READS IS OF BULK AT MOST 1048576: true; the input reads as it did. -/
def burstUrgentUptoRow : OpenClaim := { program := "ytjhmajcakhdcnaa", sum := "2045c3770b407080930674035daf1dae165542be94660a8b0d2cfd4159b6d28f", func := "handbell/handbelllaw19.BurstUrgent", spec := "burstUrgent", inPlace := ["internal/bytealg.CountString", "internal/bytealg.IndexByteString", "internal/bytealg.IndexString"], named := ["internal/bytealg.MaxLen"], apart := false, narrowed := true }
def BurstUrgentUptoSaid : Prop := burstUrgentUptoRow.holds Try.pinned (OpenSpec.upto burstUrgentSpec)

end Rows
end Go.Proofs.Ytjhmajcakhdcnaa
