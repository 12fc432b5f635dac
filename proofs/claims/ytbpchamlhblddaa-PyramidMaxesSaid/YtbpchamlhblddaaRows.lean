/-
  No cell of these rows narrows 'for every input' (looked for: loops, veiled, ifaces, maps, wideKeys, modest, calm, conditions, laid).
  DERIVED. THE GIVEN ROWS OF THIS SEAT. 8 by the template 'for every input the law returns true; each argument reads behind the call as it read before'; 0 by the template 'total and deterministic' (their statements: YtbpchamlhblddaaTotals.lean).
  GIVEN WITH THE SEED: the statements are not yours to turn. If you find one false, say at which input.
  Laid BY PROGRAM, IN A SANDBOX (cutbox-rows.mjs): the forced cells as the released guide's own fill.sh prints them over the translation 8bb42883e13b1ca9… (all of the seat's roots in one cut). By AI agents, Wed Nov 11 2026. No macro, syntax, notation, axiom, sorry.
-/
import Derived.Test.YtbpchamlhblddaaChecked
import GoSem.Claim
import GoSem.ClaimJoined
import GoSem.ClaimMapViews
import Derived.JoinedTies
import Derived.KernelRfl
namespace Go.Proofs.Ytbpchamlhblddaa
/- THE CELL 'sum', in the pinned program and in every row, IS THE sha256 OF THE DUMP (.gsa) THAT YtbpchamlhblddaaProg.lean LOADS. Nothing in Lean hashes anything: it is a label: what it is worth is what the hold of that sum in a sandbox is worth. -/
noncomputable def Try.pinned : Pinned := { name := "ytbpchamlhblddaa", sum := "8bb42883e13b1ca9904d754bfd7d6d66f54ef60133da4073e4aa0e66563b8f94", checked := Try.checked }
namespace Rows
def none {H : Type} : Left H := { results := [], args := [] }

/-- 'wayfinderlaw18.PyramidSums': WHATEVER THE INPUT: true; the input reads as it did. -/
def pyramidSumsSpec : ChangeSpec := { name := "pyramidSums", fn := fun _ => fun
  | [d1, d2] => { results := [.lit (.bool true)], args := [d1, d2] }
  | _ => none }
def pyramidSumsRow : OpenClaim := { program := "ytbpchamlhblddaa", sum := "8bb42883e13b1ca9904d754bfd7d6d66f54ef60133da4073e4aa0e66563b8f94", func := "wayfinder/wayfinderlaw18.PyramidSums", spec := "pyramidSums", unfollowed := true, recurses := true, apart := false }
def PyramidSumsSaid : Prop := pyramidSumsRow.holds Try.pinned (OpenSpec.ofChange pyramidSumsSpec)

/-- ITS FALSE NEIGHBOUR: 'it returns false'. Refute it at one input. -/
def pyramidSumsWrong : ChangeSpec := { name := "pyramidSums", fn := fun _ => fun
  | [d1, d2] => { results := [.lit (.bool false)], args := [d1, d2] }
  | _ => none }
def PyramidSumsWrongFalsely : Prop := pyramidSumsRow.holds Try.pinned (OpenSpec.ofChange pyramidSumsWrong)

/-- 'wayfinderlaw18.PyramidQuarters': WHATEVER THE INPUT: true; the input reads as it did. -/
def pyramidQuartersSpec : ChangeSpec := { name := "pyramidQuarters", fn := fun _ => fun
  | [d1, d2, d3] => { results := [.lit (.bool true)], args := [d1, d2, d3] }
  | _ => none }
def pyramidQuartersRow : OpenClaim := { program := "ytbpchamlhblddaa", sum := "8bb42883e13b1ca9904d754bfd7d6d66f54ef60133da4073e4aa0e66563b8f94", func := "wayfinder/wayfinderlaw18.PyramidQuarters", spec := "pyramidQuarters", unfollowed := true, recurses := true, apart := false }
def PyramidQuartersSaid : Prop := pyramidQuartersRow.holds Try.pinned (OpenSpec.ofChange pyramidQuartersSpec)

/-- ITS FALSE NEIGHBOUR: 'it returns false'. Refute it at one input. -/
def pyramidQuartersWrong : ChangeSpec := { name := "pyramidQuarters", fn := fun _ => fun
  | [d1, d2, d3] => { results := [.lit (.bool false)], args := [d1, d2, d3] }
  | _ => none }
def PyramidQuartersWrongFalsely : Prop := pyramidQuartersRow.holds Try.pinned (OpenSpec.ofChange pyramidQuartersWrong)

/-- 'wayfinderlaw18.PyramidCuts': WHATEVER THE INPUT: true; the input reads as it did. -/
def pyramidCutsSpec : ChangeSpec := { name := "pyramidCuts", fn := fun _ => fun
  | [d1, d2, d3] => { results := [.lit (.bool true)], args := [d1, d2, d3] }
  | _ => none }
def pyramidCutsRow : OpenClaim := { program := "ytbpchamlhblddaa", sum := "8bb42883e13b1ca9904d754bfd7d6d66f54ef60133da4073e4aa0e66563b8f94", func := "wayfinder/wayfinderlaw18.PyramidCuts", spec := "pyramidCuts", unfollowed := true, recurses := true, apart := false }
def PyramidCutsSaid : Prop := pyramidCutsRow.holds Try.pinned (OpenSpec.ofChange pyramidCutsSpec)

/-- ITS FALSE NEIGHBOUR: 'it returns false'. Refute it at one input. -/
def pyramidCutsWrong : ChangeSpec := { name := "pyramidCuts", fn := fun _ => fun
  | [d1, d2, d3] => { results := [.lit (.bool false)], args := [d1, d2, d3] }
  | _ => none }
def PyramidCutsWrongFalsely : Prop := pyramidCutsRow.holds Try.pinned (OpenSpec.ofChange pyramidCutsWrong)

/-- 'wayfinderlaw18.PyramidMoves': WHATEVER THE INPUT: true; the input reads as it did. -/
def pyramidMovesSpec : ChangeSpec := { name := "pyramidMoves", fn := fun _ => fun
  | [d1, d2, d3] => { results := [.lit (.bool true)], args := [d1, d2, d3] }
  | _ => none }
def pyramidMovesRow : OpenClaim := { program := "ytbpchamlhblddaa", sum := "8bb42883e13b1ca9904d754bfd7d6d66f54ef60133da4073e4aa0e66563b8f94", func := "wayfinder/wayfinderlaw18.PyramidMoves", spec := "pyramidMoves", unfollowed := true, recurses := true, apart := false }
def PyramidMovesSaid : Prop := pyramidMovesRow.holds Try.pinned (OpenSpec.ofChange pyramidMovesSpec)

/-- ITS FALSE NEIGHBOUR: 'it returns false'. Refute it at one input. -/
def pyramidMovesWrong : ChangeSpec := { name := "pyramidMoves", fn := fun _ => fun
  | [d1, d2, d3] => { results := [.lit (.bool false)], args := [d1, d2, d3] }
  | _ => none }
def PyramidMovesWrongFalsely : Prop := pyramidMovesRow.holds Try.pinned (OpenSpec.ofChange pyramidMovesWrong)

/-- 'wayfinderlaw18.PyramidMaxes': WHATEVER THE INPUT: true; the input reads as it did. -/
def pyramidMaxesSpec : ChangeSpec := { name := "pyramidMaxes", fn := fun _ => fun
  | [d1, d2, d3] => { results := [.lit (.bool true)], args := [d1, d2, d3] }
  | _ => none }
def pyramidMaxesRow : OpenClaim := { program := "ytbpchamlhblddaa", sum := "8bb42883e13b1ca9904d754bfd7d6d66f54ef60133da4073e4aa0e66563b8f94", func := "wayfinder/wayfinderlaw18.PyramidMaxes", spec := "pyramidMaxes", unfollowed := true, recurses := true, apart := false }
def PyramidMaxesSaid : Prop := pyramidMaxesRow.holds Try.pinned (OpenSpec.ofChange pyramidMaxesSpec)

/-- ITS FALSE NEIGHBOUR: 'it returns false'. Refute it at one input. -/
def pyramidMaxesWrong : ChangeSpec := { name := "pyramidMaxes", fn := fun _ => fun
  | [d1, d2, d3] => { results := [.lit (.bool false)], args := [d1, d2, d3] }
  | _ => none }
def PyramidMaxesWrongFalsely : Prop := pyramidMaxesRow.holds Try.pinned (OpenSpec.ofChange pyramidMaxesWrong)

/-- 'wayfinderlaw18.PyramidAttained': WHATEVER THE INPUT: true; the input reads as it did. -/
def pyramidAttainedSpec : ChangeSpec := { name := "pyramidAttained", fn := fun _ => fun
  | [d1, d2, d3] => { results := [.lit (.bool true)], args := [d1, d2, d3] }
  | _ => none }
def pyramidAttainedRow : OpenClaim := { program := "ytbpchamlhblddaa", sum := "8bb42883e13b1ca9904d754bfd7d6d66f54ef60133da4073e4aa0e66563b8f94", func := "wayfinder/wayfinderlaw18.PyramidAttained", spec := "pyramidAttained", unfollowed := true, recurses := true, apart := false }
def PyramidAttainedSaid : Prop := pyramidAttainedRow.holds Try.pinned (OpenSpec.ofChange pyramidAttainedSpec)

/-- ITS FALSE NEIGHBOUR: 'it returns false'. Refute it at one input. -/
def pyramidAttainedWrong : ChangeSpec := { name := "pyramidAttained", fn := fun _ => fun
  | [d1, d2, d3] => { results := [.lit (.bool false)], args := [d1, d2, d3] }
  | _ => none }
def PyramidAttainedWrongFalsely : Prop := pyramidAttainedRow.holds Try.pinned (OpenSpec.ofChange pyramidAttainedWrong)

/-- 'wayfinderlaw18.PyramidPeaks': WHATEVER THE INPUT: true; the input reads as it did. -/
def pyramidPeaksSpec : ChangeSpec := { name := "pyramidPeaks", fn := fun _ => fun
  | [d1, d2] => { results := [.lit (.bool true)], args := [d1, d2] }
  | _ => none }
def pyramidPeaksRow : OpenClaim := { program := "ytbpchamlhblddaa", sum := "8bb42883e13b1ca9904d754bfd7d6d66f54ef60133da4073e4aa0e66563b8f94", func := "wayfinder/wayfinderlaw18.PyramidPeaks", spec := "pyramidPeaks", unfollowed := true, recurses := true, apart := false }
def PyramidPeaksSaid : Prop := pyramidPeaksRow.holds Try.pinned (OpenSpec.ofChange pyramidPeaksSpec)

/-- ITS FALSE NEIGHBOUR: 'it returns false'. Refute it at one input. -/
def pyramidPeaksWrong : ChangeSpec := { name := "pyramidPeaks", fn := fun _ => fun
  | [d1, d2] => { results := [.lit (.bool false)], args := [d1, d2] }
  | _ => none }
def PyramidPeaksWrongFalsely : Prop := pyramidPeaksRow.holds Try.pinned (OpenSpec.ofChange pyramidPeaksWrong)

/-- 'wayfinderlaw18.PyramidRises': WHATEVER THE INPUT: true; the input reads as it did. -/
def pyramidRisesSpec : ChangeSpec := { name := "pyramidRises", fn := fun _ => fun
  | [d1, d2, d3] => { results := [.lit (.bool true)], args := [d1, d2, d3] }
  | _ => none }
def pyramidRisesRow : OpenClaim := { program := "ytbpchamlhblddaa", sum := "8bb42883e13b1ca9904d754bfd7d6d66f54ef60133da4073e4aa0e66563b8f94", func := "wayfinder/wayfinderlaw18.PyramidRises", spec := "pyramidRises", unfollowed := true, recurses := true, apart := false }
def PyramidRisesSaid : Prop := pyramidRisesRow.holds Try.pinned (OpenSpec.ofChange pyramidRisesSpec)

/-- ITS FALSE NEIGHBOUR: 'it returns false'. Refute it at one input. -/
def pyramidRisesWrong : ChangeSpec := { name := "pyramidRises", fn := fun _ => fun
  | [d1, d2, d3] => { results := [.lit (.bool false)], args := [d1, d2, d3] }
  | _ => none }
def PyramidRisesWrongFalsely : Prop := pyramidRisesRow.holds Try.pinned (OpenSpec.ofChange pyramidRisesWrong)

/- THE SECOND FORM. 'bulk': how many values and letters a reading holds, each counted each time it is reached (what is shared counts as often as it is met; a slice's spare places count too). A statement '..UptoSaid' is the law's where the arguments, and the package variables that the reading takes, are together of bulk at most 1048576: NARROWER than '..Said'. Prove '..Said' where nothing that the law and all that it calls make is longer than what came in: it says more and counts as full. Else prove '..UptoSaid'. A law counts once. -/
mutual
def uptoBulk {H : Type} : DataW H → Nat
  | .lit (.string bytes) => bytes.length + 1
  | .lit _ => 1
  | .nil => 1
  | .ptr d => uptoBulk d + 1
  | .slice elems spare => uptoBulkAll elems + uptoBulkAll spare + 1
  | .agg parts => uptoBulkAll parts + 1
  | .iface _ d => uptoBulk d + 1
  | .map entries => uptoBulkEntries entries + 1
  | .held _ => 1
def uptoBulkAll {H : Type} : List (DataW H) → Nat
  | [] => 0
  | d :: r => uptoBulk d + uptoBulkAll r
def uptoBulkEntries {H : Type} : List (Lit × DataW H) → Nat
  | [] => 0
  | x :: r => uptoBulkEntry x + uptoBulkEntries r
def uptoBulkEntry {H : Type} : Lit × DataW H → Nat
  | (.string bytes, d) => bytes.length + uptoBulk d + 1
  | (_, d) => uptoBulk d + 1
 end
def uptoSmall : (H : Type) → List (DataW H) → Bool := fun _ ds => decide (uptoBulkAll ds ≤ 1048576)
def OpenSpec.upto (s : _root_.Go.ChangeSpec) : _root_.Go.OpenSpec := { _root_.Go.OpenSpec.ofChange s with cond := some uptoSmall }

/-- 'wayfinderlaw18.PyramidSums', WHERE WHAT IT READS IS OF BULK AT MOST 1048576: true; the input reads as it did. -/
def pyramidSumsUptoRow : OpenClaim := { program := "ytbpchamlhblddaa", sum := "8bb42883e13b1ca9904d754bfd7d6d66f54ef60133da4073e4aa0e66563b8f94", func := "wayfinder/wayfinderlaw18.PyramidSums", spec := "pyramidSums", unfollowed := true, recurses := true, apart := false, narrowed := true }
def PyramidSumsUptoSaid : Prop := pyramidSumsUptoRow.holds Try.pinned (OpenSpec.upto pyramidSumsSpec)

/-- 'wayfinderlaw18.PyramidQuarters', WHERE WHAT IT READS IS OF BULK AT MOST 1048576: true; the input reads as it did. -/
def pyramidQuartersUptoRow : OpenClaim := { program := "ytbpchamlhblddaa", sum := "8bb42883e13b1ca9904d754bfd7d6d66f54ef60133da4073e4aa0e66563b8f94", func := "wayfinder/wayfinderlaw18.PyramidQuarters", spec := "pyramidQuarters", unfollowed := true, recurses := true, apart := false, narrowed := true }
def PyramidQuartersUptoSaid : Prop := pyramidQuartersUptoRow.holds Try.pinned (OpenSpec.upto pyramidQuartersSpec)

/-- 'wayfinderlaw18.PyramidCuts', WHERE WHAT IT READS IS OF BULK AT MOST 1048576: true; the input reads as it did. -/
def pyramidCutsUptoRow : OpenClaim := { program := "ytbpchamlhblddaa", sum := "8bb42883e13b1ca9904d754bfd7d6d66f54ef60133da4073e4aa0e66563b8f94", func := "wayfinder/wayfinderlaw18.PyramidCuts", spec := "pyramidCuts", unfollowed := true, recurses := true, apart := false, narrowed := true }
def PyramidCutsUptoSaid : Prop := pyramidCutsUptoRow.holds Try.pinned (OpenSpec.upto pyramidCutsSpec)

/-- 'wayfinderlaw18.PyramidMoves', WHERE WHAT IT READS IS OF BULK AT MOST 1048576: true; the input reads as it did. -/
def pyramidMovesUptoRow : OpenClaim := { program := "ytbpchamlhblddaa", sum := "8bb42883e13b1ca9904d754bfd7d6d66f54ef60133da4073e4aa0e66563b8f94", func := "wayfinder/wayfinderlaw18.PyramidMoves", spec := "pyramidMoves", unfollowed := true, recurses := true, apart := false, narrowed := true }
def PyramidMovesUptoSaid : Prop := pyramidMovesUptoRow.holds Try.pinned (OpenSpec.upto pyramidMovesSpec)

/-- 'wayfinderlaw18.PyramidMaxes', WHERE WHAT IT READS IS OF BULK AT MOST 1048576: true; the input reads as it did. -/
def pyramidMaxesUptoRow : OpenClaim := { program := "ytbpchamlhblddaa", sum := "8bb42883e13b1ca9904d754bfd7d6d66f54ef60133da4073e4aa0e66563b8f94", func := "wayfinder/wayfinderlaw18.PyramidMaxes", spec := "pyramidMaxes", unfollowed := true, recurses := true, apart := false, narrowed := true }
def PyramidMaxesUptoSaid : Prop := pyramidMaxesUptoRow.holds Try.pinned (OpenSpec.upto pyramidMaxesSpec)

/-- 'wayfinderlaw18.PyramidAttained', WHERE WHAT IT READS IS OF BULK AT MOST 1048576: true; the input reads as it did. -/
def pyramidAttainedUptoRow : OpenClaim := { program := "ytbpchamlhblddaa", sum := "8bb42883e13b1ca9904d754bfd7d6d66f54ef60133da4073e4aa0e66563b8f94", func := "wayfinder/wayfinderlaw18.PyramidAttained", spec := "pyramidAttained", unfollowed := true, recurses := true, apart := false, narrowed := true }
def PyramidAttainedUptoSaid : Prop := pyramidAttainedUptoRow.holds Try.pinned (OpenSpec.upto pyramidAttainedSpec)

/-- 'wayfinderlaw18.PyramidPeaks', WHERE WHAT IT READS IS OF BULK AT MOST 1048576: true; the input reads as it did. -/
def pyramidPeaksUptoRow : OpenClaim := { program := "ytbpchamlhblddaa", sum := "8bb42883e13b1ca9904d754bfd7d6d66f54ef60133da4073e4aa0e66563b8f94", func := "wayfinder/wayfinderlaw18.PyramidPeaks", spec := "pyramidPeaks", unfollowed := true, recurses := true, apart := false, narrowed := true }
def PyramidPeaksUptoSaid : Prop := pyramidPeaksUptoRow.holds Try.pinned (OpenSpec.upto pyramidPeaksSpec)

/-- 'wayfinderlaw18.PyramidRises', WHERE WHAT IT READS IS OF BULK AT MOST 1048576: true; the input reads as it did. -/
def pyramidRisesUptoRow : OpenClaim := { program := "ytbpchamlhblddaa", sum := "8bb42883e13b1ca9904d754bfd7d6d66f54ef60133da4073e4aa0e66563b8f94", func := "wayfinder/wayfinderlaw18.PyramidRises", spec := "pyramidRises", unfollowed := true, recurses := true, apart := false, narrowed := true }
def PyramidRisesUptoSaid : Prop := pyramidRisesUptoRow.holds Try.pinned (OpenSpec.upto pyramidRisesSpec)

end Rows
end Go.Proofs.Ytbpchamlhblddaa
