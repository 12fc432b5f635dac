/-
  No cell of these rows narrows 'for every input' (looked for: loops, veiled, ifaces, maps, wideKeys, modest, calm, conditions, laid).
  DERIVED. THE GIVEN ROWS OF THIS SEAT. 7 by the template 'for every input the law returns true; each argument reads behind the call as it read before'; 0 by the template 'total and deterministic' (their statements: YtnkiejbkfafciaaTotals.lean).
  GIVEN WITH THE SEED: the statements are not yours to turn. If you find one false, say at which input.
  Laid BY PROGRAM, IN A SANDBOX (cutbox-rows.mjs): the forced cells as the released guide's own fill.sh prints them over the translation f0bf588d16a8b167… (all of the seat's roots in one cut). By AI agents, Wed Nov 11 2026. No macro, syntax, notation, axiom, sorry.
-/
import Derived.Test.YtnkiejbkfafciaaChecked
import GoSem.Claim
import GoSem.ClaimJoined
import GoSem.ClaimMapViews
import Derived.JoinedTies
import Derived.KernelRfl
namespace Go.Proofs.Ytnkiejbkfafciaa
/- THE CELL 'sum', in the pinned program and in every row, IS THE sha256 OF THE DUMP (.gsa) THAT YtnkiejbkfafciaaProg.lean LOADS. Nothing in Lean hashes anything: it is a label: what it is worth is what the hold of that sum in a sandbox is worth. -/
noncomputable def Try.pinned : Pinned := { name := "ytnkiejbkfafciaa", sum := "f0bf588d16a8b1678b6cd003bb080d97df3a6a3b5fb9a92f7b0be2ea5110a419", checked := Try.checked }
namespace Rows
def none {H : Type} : Left H := { results := [], args := [] }

/-- 'wayfinderlaw43.MonitorStops': WHATEVER THE INPUT: true; the input reads as it did. -/
def monitorStopsSpec : ChangeSpec := { name := "monitorStops", fn := fun _ => fun
  | [d1, d2, d3] => { results := [.lit (.bool true)], args := [d1, d2, d3] }
  | _ => none }
def monitorStopsRow : OpenClaim := { program := "ytnkiejbkfafciaa", sum := "f0bf588d16a8b1678b6cd003bb080d97df3a6a3b5fb9a92f7b0be2ea5110a419", func := "wayfinder/wayfinderlaw43.MonitorStops", spec := "monitorStops", apart := false }
def MonitorStopsSaid : Prop := monitorStopsRow.holds Try.pinned (OpenSpec.ofChange monitorStopsSpec)

/-- ITS FALSE NEIGHBOUR: 'it returns false'. Refute it at one input. -/
def monitorStopsWrong : ChangeSpec := { name := "monitorStops", fn := fun _ => fun
  | [d1, d2, d3] => { results := [.lit (.bool false)], args := [d1, d2, d3] }
  | _ => none }
def MonitorStopsWrongFalsely : Prop := monitorStopsRow.holds Try.pinned (OpenSpec.ofChange monitorStopsWrong)

/-- 'wayfinderlaw43.MonitorPasses': WHATEVER THE INPUT: true; the input reads as it did. -/
def monitorPassesSpec : ChangeSpec := { name := "monitorPasses", fn := fun _ => fun
  | [d1, d2, d3] => { results := [.lit (.bool true)], args := [d1, d2, d3] }
  | _ => none }
def monitorPassesRow : OpenClaim := { program := "ytnkiejbkfafciaa", sum := "f0bf588d16a8b1678b6cd003bb080d97df3a6a3b5fb9a92f7b0be2ea5110a419", func := "wayfinder/wayfinderlaw43.MonitorPasses", spec := "monitorPasses", apart := false }
def MonitorPassesSaid : Prop := monitorPassesRow.holds Try.pinned (OpenSpec.ofChange monitorPassesSpec)

/-- ITS FALSE NEIGHBOUR: 'it returns false'. Refute it at one input. -/
def monitorPassesWrong : ChangeSpec := { name := "monitorPasses", fn := fun _ => fun
  | [d1, d2, d3] => { results := [.lit (.bool false)], args := [d1, d2, d3] }
  | _ => none }
def MonitorPassesWrongFalsely : Prop := monitorPassesRow.holds Try.pinned (OpenSpec.ofChange monitorPassesWrong)

/-- 'wayfinderlaw43.MonitorResets': WHATEVER THE INPUT: true; the input reads as it did. -/
def monitorResetsSpec : ChangeSpec := { name := "monitorResets", fn := fun _ => fun
  | [d1, d2, d3] => { results := [.lit (.bool true)], args := [d1, d2, d3] }
  | _ => none }
def monitorResetsRow : OpenClaim := { program := "ytnkiejbkfafciaa", sum := "f0bf588d16a8b1678b6cd003bb080d97df3a6a3b5fb9a92f7b0be2ea5110a419", func := "wayfinder/wayfinderlaw43.MonitorResets", spec := "monitorResets", apart := false }
def MonitorResetsSaid : Prop := monitorResetsRow.holds Try.pinned (OpenSpec.ofChange monitorResetsSpec)

/-- ITS FALSE NEIGHBOUR: 'it returns false'. Refute it at one input. -/
def monitorResetsWrong : ChangeSpec := { name := "monitorResets", fn := fun _ => fun
  | [d1, d2, d3] => { results := [.lit (.bool false)], args := [d1, d2, d3] }
  | _ => none }
def MonitorResetsWrongFalsely : Prop := monitorResetsRow.holds Try.pinned (OpenSpec.ofChange monitorResetsWrong)

/-- 'wayfinderlaw43.MonitorTraces': WHATEVER THE INPUT: true; the input reads as it did. -/
def monitorTracesSpec : ChangeSpec := { name := "monitorTraces", fn := fun _ => fun
  | [d1, d2] => { results := [.lit (.bool true)], args := [d1, d2] }
  | _ => none }
def monitorTracesRow : OpenClaim := { program := "ytnkiejbkfafciaa", sum := "f0bf588d16a8b1678b6cd003bb080d97df3a6a3b5fb9a92f7b0be2ea5110a419", func := "wayfinder/wayfinderlaw43.MonitorTraces", spec := "monitorTraces", apart := false }
def MonitorTracesSaid : Prop := monitorTracesRow.holds Try.pinned (OpenSpec.ofChange monitorTracesSpec)

/-- ITS FALSE NEIGHBOUR: 'it returns false'. Refute it at one input. -/
def monitorTracesWrong : ChangeSpec := { name := "monitorTraces", fn := fun _ => fun
  | [d1, d2] => { results := [.lit (.bool false)], args := [d1, d2] }
  | _ => none }
def MonitorTracesWrongFalsely : Prop := monitorTracesRow.holds Try.pinned (OpenSpec.ofChange monitorTracesWrong)

/-- 'wayfinderlaw43.MonitorLatches': WHATEVER THE INPUT: true; the input reads as it did. -/
def monitorLatchesSpec : ChangeSpec := { name := "monitorLatches", fn := fun _ => fun
  | [d1, d2] => { results := [.lit (.bool true)], args := [d1, d2] }
  | _ => none }
def monitorLatchesRow : OpenClaim := { program := "ytnkiejbkfafciaa", sum := "f0bf588d16a8b1678b6cd003bb080d97df3a6a3b5fb9a92f7b0be2ea5110a419", func := "wayfinder/wayfinderlaw43.MonitorLatches", spec := "monitorLatches", apart := false }
def MonitorLatchesSaid : Prop := monitorLatchesRow.holds Try.pinned (OpenSpec.ofChange monitorLatchesSpec)

/-- ITS FALSE NEIGHBOUR: 'it returns false'. Refute it at one input. -/
def monitorLatchesWrong : ChangeSpec := { name := "monitorLatches", fn := fun _ => fun
  | [d1, d2] => { results := [.lit (.bool false)], args := [d1, d2] }
  | _ => none }
def MonitorLatchesWrongFalsely : Prop := monitorLatchesRow.holds Try.pinned (OpenSpec.ofChange monitorLatchesWrong)

/-- 'wayfinderlaw43.MonitorPlays': WHATEVER THE INPUT: true; the input reads as it did. -/
def monitorPlaysSpec : ChangeSpec := { name := "monitorPlays", fn := fun _ => fun
  | [d1, d2, d3] => { results := [.lit (.bool true)], args := [d1, d2, d3] }
  | _ => none }
def monitorPlaysRow : OpenClaim := { program := "ytnkiejbkfafciaa", sum := "f0bf588d16a8b1678b6cd003bb080d97df3a6a3b5fb9a92f7b0be2ea5110a419", func := "wayfinder/wayfinderlaw43.MonitorPlays", spec := "monitorPlays", apart := false }
def MonitorPlaysSaid : Prop := monitorPlaysRow.holds Try.pinned (OpenSpec.ofChange monitorPlaysSpec)

/-- ITS FALSE NEIGHBOUR: 'it returns false'. Refute it at one input. -/
def monitorPlaysWrong : ChangeSpec := { name := "monitorPlays", fn := fun _ => fun
  | [d1, d2, d3] => { results := [.lit (.bool false)], args := [d1, d2, d3] }
  | _ => none }
def MonitorPlaysWrongFalsely : Prop := monitorPlaysRow.holds Try.pinned (OpenSpec.ofChange monitorPlaysWrong)

/-- 'wayfinderlaw43.MonitorSplits': WHATEVER THE INPUT: true; the input reads as it did. -/
def monitorSplitsSpec : ChangeSpec := { name := "monitorSplits", fn := fun _ => fun
  | [d1, d2, d3] => { results := [.lit (.bool true)], args := [d1, d2, d3] }
  | _ => none }
def monitorSplitsRow : OpenClaim := { program := "ytnkiejbkfafciaa", sum := "f0bf588d16a8b1678b6cd003bb080d97df3a6a3b5fb9a92f7b0be2ea5110a419", func := "wayfinder/wayfinderlaw43.MonitorSplits", spec := "monitorSplits", apart := false }
def MonitorSplitsSaid : Prop := monitorSplitsRow.holds Try.pinned (OpenSpec.ofChange monitorSplitsSpec)

/-- ITS FALSE NEIGHBOUR: 'it returns false'. Refute it at one input. -/
def monitorSplitsWrong : ChangeSpec := { name := "monitorSplits", fn := fun _ => fun
  | [d1, d2, d3] => { results := [.lit (.bool false)], args := [d1, d2, d3] }
  | _ => none }
def MonitorSplitsWrongFalsely : Prop := monitorSplitsRow.holds Try.pinned (OpenSpec.ofChange monitorSplitsWrong)

/- THE SECOND FORM. 'bulk': how many values and letters a reading holds, each counted each time it is reached (what is shared counts as often as it is met; a slice's spare places count too). A statement '..UptoSaid' is the law's where the arguments, and the package variables that the reading takes, are together of bulk at most 1048576: NARROWER than '..Said'. Prove '..Said' where nothing that the law and all that it calls make is longer than what came in: it says more and counts as full. Else prove '..UptoSaid'. A law counts once. -/
mutual
def uptoBulk {H : Type} : DataW H → Nat
  | .lit (.string bytes) => bytes.length + 1
  | .lit _ => 1
  | .nil => 1
  | .ptr d => uptoBulk d + 1
  | .slice elems spare => uptoBulkAll elems + uptoBulkAll spare + 1
  | .agg parts => uptoBulkAll parts + 1
  | .iface _ d => uptoBulk d + 1
  | .map entries => uptoBulkEntries entries + 1
  | .held _ => 1
def uptoBulkAll {H : Type} : List (DataW H) → Nat
  | [] => 0
  | d :: r => uptoBulk d + uptoBulkAll r
def uptoBulkEntries {H : Type} : List (Lit × DataW H) → Nat
  | [] => 0
  | x :: r => uptoBulkEntry x + uptoBulkEntries r
def uptoBulkEntry {H : Type} : Lit × DataW H → Nat
  | (.string bytes, d) => bytes.length + uptoBulk d + 1
  | (_, d) => uptoBulk d + 1
 end
def uptoSmall : (H : Type) → List (DataW H) → Bool := fun _ ds => decide (uptoBulkAll ds ≤ 1048576)
def OpenSpec.upto (s : _root_.Go.ChangeSpec) : _root_.Go.OpenSpec := { _root_.Go.OpenSpec.ofChange s with cond := some uptoSmall }

/-- 'wayfinderlaw43.MonitorStops', WHERE WHAT IT READS IS OF BULK AT MOST 1048576: true; the input reads as it did. -/
def monitorStopsUptoRow : OpenClaim := { program := "ytnkiejbkfafciaa", sum := "f0bf588d16a8b1678b6cd003bb080d97df3a6a3b5fb9a92f7b0be2ea5110a419", func := "wayfinder/wayfinderlaw43.MonitorStops", spec := "monitorStops", apart := false, narrowed := true }
def MonitorStopsUptoSaid : Prop := monitorStopsUptoRow.holds Try.pinned (OpenSpec.upto monitorStopsSpec)

/-- 'wayfinderlaw43.MonitorPasses', WHERE WHAT IT READS IS OF BULK AT MOST 1048576: true; the input reads as it did. -/
def monitorPassesUptoRow : OpenClaim := { program := "ytnkiejbkfafciaa", sum := "f0bf588d16a8b1678b6cd003bb080d97df3a6a3b5fb9a92f7b0be2ea5110a419", func := "wayfinder/wayfinderlaw43.MonitorPasses", spec := "monitorPasses", apart := false, narrowed := true }
def MonitorPassesUptoSaid : Prop := monitorPassesUptoRow.holds Try.pinned (OpenSpec.upto monitorPassesSpec)

/-- 'wayfinderlaw43.MonitorResets', WHERE WHAT IT READS IS OF BULK AT MOST 1048576: true; the input reads as it did. -/
def monitorResetsUptoRow : OpenClaim := { program := "ytnkiejbkfafciaa", sum := "f0bf588d16a8b1678b6cd003bb080d97df3a6a3b5fb9a92f7b0be2ea5110a419", func := "wayfinder/wayfinderlaw43.MonitorResets", spec := "monitorResets", apart := false, narrowed := true }
def MonitorResetsUptoSaid : Prop := monitorResetsUptoRow.holds Try.pinned (OpenSpec.upto monitorResetsSpec)

/-- 'wayfinderlaw43.MonitorTraces', WHERE WHAT IT READS IS OF BULK AT MOST 1048576: true; the input reads as it did. -/
def monitorTracesUptoRow : OpenClaim := { program := "ytnkiejbkfafciaa", sum := "f0bf588d16a8b1678b6cd003bb080d97df3a6a3b5fb9a92f7b0be2ea5110a419", func := "wayfinder/wayfinderlaw43.MonitorTraces", spec := "monitorTraces", apart := false, narrowed := true }
def MonitorTracesUptoSaid : Prop := monitorTracesUptoRow.holds Try.pinned (OpenSpec.upto monitorTracesSpec)

/-- 'wayfinderlaw43.MonitorLatches', WHERE WHAT IT READS IS OF BULK AT MOST 1048576: true; the input reads as it did. -/
def monitorLatchesUptoRow : OpenClaim := { program := "ytnkiejbkfafciaa", sum := "f0bf588d16a8b1678b6cd003bb080d97df3a6a3b5fb9a92f7b0be2ea5110a419", func := "wayfinder/wayfinderlaw43.MonitorLatches", spec := "monitorLatches", apart := false, narrowed := true }
def MonitorLatchesUptoSaid : Prop := monitorLatchesUptoRow.holds Try.pinned (OpenSpec.upto monitorLatchesSpec)

/-- 'wayfinderlaw43.MonitorPlays', WHERE WHAT IT READS IS OF BULK AT MOST 1048576: true; the input reads as it did. -/
def monitorPlaysUptoRow : OpenClaim := { program := "ytnkiejbkfafciaa", sum := "f0bf588d16a8b1678b6cd003bb080d97df3a6a3b5fb9a92f7b0be2ea5110a419", func := "wayfinder/wayfinderlaw43.MonitorPlays", spec := "monitorPlays", apart := false, narrowed := true }
def MonitorPlaysUptoSaid : Prop := monitorPlaysUptoRow.holds Try.pinned (OpenSpec.upto monitorPlaysSpec)

/-- 'wayfinderlaw43.MonitorSplits', WHERE WHAT IT READS IS OF BULK AT MOST 1048576: true; the input reads as it did. -/
def monitorSplitsUptoRow : OpenClaim := { program := "ytnkiejbkfafciaa", sum := "f0bf588d16a8b1678b6cd003bb080d97df3a6a3b5fb9a92f7b0be2ea5110a419", func := "wayfinder/wayfinderlaw43.MonitorSplits", spec := "monitorSplits", apart := false, narrowed := true }
def MonitorSplitsUptoSaid : Prop := monitorSplitsUptoRow.holds Try.pinned (OpenSpec.upto monitorSplitsSpec)

end Rows
end Go.Proofs.Ytnkiejbkfafciaa
