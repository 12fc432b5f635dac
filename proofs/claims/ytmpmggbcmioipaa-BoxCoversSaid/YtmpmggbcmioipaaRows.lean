/-
  No cell of these rows narrows 'for every input' (looked for: loops, veiled, ifaces, maps, wideKeys, modest, calm, conditions, laid).
  DERIVED. THE GIVEN ROWS OF THIS SEAT. 5 by the template 'for every input the law returns true; each argument reads behind the call as it read before'; 0 by the template 'total and deterministic' (their statements: YtmpmggbcmioipaaTotals.lean).
  GIVEN WITH THE SEED: the statements are not yours to turn. If you find one false, say at which input.
  Laid BY PROGRAM, IN A SANDBOX (cutbox-rows.mjs): the forced cells as the released guide's own fill.sh prints them over the translation 20748f071aff31ba… (all of the seat's roots in one cut). By AI agents, Wed Nov 11 2026. No macro, syntax, notation, axiom, sorry.
-/
import Derived.Test.YtmpmggbcmioipaaChecked
import GoSem.Claim
import GoSem.ClaimJoined
import GoSem.ClaimMapViews
import Derived.JoinedTies
import Derived.KernelRfl
namespace Go.Proofs.Ytmpmggbcmioipaa
/- THE CELL 'sum', in the pinned program and in every row, IS THE sha256 OF THE DUMP (.gsa) THAT YtmpmggbcmioipaaProg.lean LOADS. Nothing in Lean hashes anything: it is a label: what it is worth is what the hold of that sum in a sandbox is worth. -/
noncomputable def Try.pinned : Pinned := { name := "ytmpmggbcmioipaa", sum := "20748f071aff31ba69e130cfa3a31a478a0c66421f2b326f7bc118e4ca73a42b", checked := Try.checked }
namespace Rows
def none {H : Type} : Left H := { results := [], args := [] }

/-- 'wayfinderlaw06.BoxCompacts': WHATEVER THE INPUT: true; the input reads as it did. -/
def boxCompactsSpec : ChangeSpec := { name := "boxCompacts", fn := fun _ => fun
  | [d1, d2, d3] => { results := [.lit (.bool true)], args := [d1, d2, d3] }
  | _ => none }
def boxCompactsRow : OpenClaim := { program := "ytmpmggbcmioipaa", sum := "20748f071aff31ba69e130cfa3a31a478a0c66421f2b326f7bc118e4ca73a42b", func := "wayfinder/wayfinderlaw06.BoxCompacts", spec := "boxCompacts", unfollowed := true, recurses := true, apart := false }
def BoxCompactsSaid : Prop := boxCompactsRow.holds Try.pinned (OpenSpec.ofChange boxCompactsSpec)

/-- ITS FALSE NEIGHBOUR: 'it returns false'. Refute it at one input. -/
def boxCompactsWrong : ChangeSpec := { name := "boxCompacts", fn := fun _ => fun
  | [d1, d2, d3] => { results := [.lit (.bool false)], args := [d1, d2, d3] }
  | _ => none }
def BoxCompactsWrongFalsely : Prop := boxCompactsRow.holds Try.pinned (OpenSpec.ofChange boxCompactsWrong)

/-- 'wayfinderlaw23.PredictBack': WHATEVER THE INPUT: true; the input reads as it did. -/
def predictBackSpec : ChangeSpec := { name := "predictBack", fn := fun _ => fun
  | [d1, d2, d3] => { results := [.lit (.bool true)], args := [d1, d2, d3] }
  | _ => none }
def predictBackRow : OpenClaim := { program := "ytmpmggbcmioipaa", sum := "20748f071aff31ba69e130cfa3a31a478a0c66421f2b326f7bc118e4ca73a42b", func := "wayfinder/wayfinderlaw23.PredictBack", spec := "predictBack", unfollowed := true, recurses := true, apart := false }
def PredictBackSaid : Prop := predictBackRow.holds Try.pinned (OpenSpec.ofChange predictBackSpec)

/-- ITS FALSE NEIGHBOUR: 'it returns false'. Refute it at one input. -/
def predictBackWrong : ChangeSpec := { name := "predictBack", fn := fun _ => fun
  | [d1, d2, d3] => { results := [.lit (.bool false)], args := [d1, d2, d3] }
  | _ => none }
def PredictBackWrongFalsely : Prop := predictBackRow.holds Try.pinned (OpenSpec.ofChange predictBackWrong)

/-- 'wayfinderlaw23.PredictBoxes': WHATEVER THE INPUT: true; the input reads as it did. -/
def predictBoxesSpec : ChangeSpec := { name := "predictBoxes", fn := fun _ => fun
  | [d1, d2, d3] => { results := [.lit (.bool true)], args := [d1, d2, d3] }
  | _ => none }
def predictBoxesRow : OpenClaim := { program := "ytmpmggbcmioipaa", sum := "20748f071aff31ba69e130cfa3a31a478a0c66421f2b326f7bc118e4ca73a42b", func := "wayfinder/wayfinderlaw23.PredictBoxes", spec := "predictBoxes", unfollowed := true, recurses := true, apart := false }
def PredictBoxesSaid : Prop := predictBoxesRow.holds Try.pinned (OpenSpec.ofChange predictBoxesSpec)

/-- ITS FALSE NEIGHBOUR: 'it returns false'. Refute it at one input. -/
def predictBoxesWrong : ChangeSpec := { name := "predictBoxes", fn := fun _ => fun
  | [d1, d2, d3] => { results := [.lit (.bool false)], args := [d1, d2, d3] }
  | _ => none }
def PredictBoxesWrongFalsely : Prop := predictBoxesRow.holds Try.pinned (OpenSpec.ofChange predictBoxesWrong)

/-- 'wayfinderlaw06.BoxCovers': WHATEVER THE INPUT: true; the input reads as it did. -/
def boxCoversSpec : ChangeSpec := { name := "boxCovers", fn := fun _ => fun
  | [d1, d2, d3] => { results := [.lit (.bool true)], args := [d1, d2, d3] }
  | _ => none }
def boxCoversRow : OpenClaim := { program := "ytmpmggbcmioipaa", sum := "20748f071aff31ba69e130cfa3a31a478a0c66421f2b326f7bc118e4ca73a42b", func := "wayfinder/wayfinderlaw06.BoxCovers", spec := "boxCovers", unfollowed := true, recurses := true, apart := false }
def BoxCoversSaid : Prop := boxCoversRow.holds Try.pinned (OpenSpec.ofChange boxCoversSpec)

/-- ITS FALSE NEIGHBOUR: 'it returns false'. Refute it at one input. -/
def boxCoversWrong : ChangeSpec := { name := "boxCovers", fn := fun _ => fun
  | [d1, d2, d3] => { results := [.lit (.bool false)], args := [d1, d2, d3] }
  | _ => none }
def BoxCoversWrongFalsely : Prop := boxCoversRow.holds Try.pinned (OpenSpec.ofChange boxCoversWrong)

/-- 'wayfinderlaw23.PredictHolds': WHATEVER THE INPUT: true; the input reads as it did. -/
def predictHoldsSpec : ChangeSpec := { name := "predictHolds", fn := fun _ => fun
  | [d1, d2, d3] => { results := [.lit (.bool true)], args := [d1, d2, d3] }
  | _ => none }
def predictHoldsRow : OpenClaim := { program := "ytmpmggbcmioipaa", sum := "20748f071aff31ba69e130cfa3a31a478a0c66421f2b326f7bc118e4ca73a42b", func := "wayfinder/wayfinderlaw23.PredictHolds", spec := "predictHolds", unfollowed := true, recurses := true, apart := false }
def PredictHoldsSaid : Prop := predictHoldsRow.holds Try.pinned (OpenSpec.ofChange predictHoldsSpec)

/-- ITS FALSE NEIGHBOUR: 'it returns false'. Refute it at one input. -/
def predictHoldsWrong : ChangeSpec := { name := "predictHolds", fn := fun _ => fun
  | [d1, d2, d3] => { results := [.lit (.bool false)], args := [d1, d2, d3] }
  | _ => none }
def PredictHoldsWrongFalsely : Prop := predictHoldsRow.holds Try.pinned (OpenSpec.ofChange predictHoldsWrong)

/- THE SECOND FORM. 'bulk': how many values and letters a reading holds, each counted each time it is reached (what is shared counts as often as it is met; a slice's spare places count too). A statement '..UptoSaid' is the law's where the arguments, and the package variables that the reading takes, are together of bulk at most 1048576: NARROWER than '..Said'. Prove '..Said' where nothing that the law and all that it calls make is longer than what came in: it says more and counts as full. Else prove '..UptoSaid'. A law counts once. -/
mutual
def uptoBulk {H : Type} : DataW H → Nat
  | .lit (.string bytes) => bytes.length + 1
  | .lit _ => 1
  | .nil => 1
  | .ptr d => uptoBulk d + 1
  | .slice elems spare => uptoBulkAll elems + uptoBulkAll spare + 1
  | .agg parts => uptoBulkAll parts + 1
  | .iface _ d => uptoBulk d + 1
  | .map entries => uptoBulkEntries entries + 1
  | .held _ => 1
def uptoBulkAll {H : Type} : List (DataW H) → Nat
  | [] => 0
  | d :: r => uptoBulk d + uptoBulkAll r
def uptoBulkEntries {H : Type} : List (Lit × DataW H) → Nat
  | [] => 0
  | x :: r => uptoBulkEntry x + uptoBulkEntries r
def uptoBulkEntry {H : Type} : Lit × DataW H → Nat
  | (.string bytes, d) => bytes.length + uptoBulk d + 1
  | (_, d) => uptoBulk d + 1
 end
def uptoSmall : (H : Type) → List (DataW H) → Bool := fun _ ds => decide (uptoBulkAll ds ≤ 1048576)
def OpenSpec.upto (s : _root_.Go.ChangeSpec) : _root_.Go.OpenSpec := { _root_.Go.OpenSpec.ofChange s with cond := some uptoSmall }

/-- 'wayfinderlaw06.BoxCompacts', WHERE WHAT IT READS IS OF BULK AT MOST 1048576: true; the input reads as it did. -/
def boxCompactsUptoRow : OpenClaim := { program := "ytmpmggbcmioipaa", sum := "20748f071aff31ba69e130cfa3a31a478a0c66421f2b326f7bc118e4ca73a42b", func := "wayfinder/wayfinderlaw06.BoxCompacts", spec := "boxCompacts", unfollowed := true, recurses := true, apart := false, narrowed := true }
def BoxCompactsUptoSaid : Prop := boxCompactsUptoRow.holds Try.pinned (OpenSpec.upto boxCompactsSpec)

/-- 'wayfinderlaw23.PredictBack', WHERE WHAT IT READS IS OF BULK AT MOST 1048576: true; the input reads as it did. -/
def predictBackUptoRow : OpenClaim := { program := "ytmpmggbcmioipaa", sum := "20748f071aff31ba69e130cfa3a31a478a0c66421f2b326f7bc118e4ca73a42b", func := "wayfinder/wayfinderlaw23.PredictBack", spec := "predictBack", unfollowed := true, recurses := true, apart := false, narrowed := true }
def PredictBackUptoSaid : Prop := predictBackUptoRow.holds Try.pinned (OpenSpec.upto predictBackSpec)

/-- 'wayfinderlaw23.PredictBoxes', WHERE WHAT IT READS IS OF BULK AT MOST 1048576: true; the input reads as it did. -/
def predictBoxesUptoRow : OpenClaim := { program := "ytmpmggbcmioipaa", sum := "20748f071aff31ba69e130cfa3a31a478a0c66421f2b326f7bc118e4ca73a42b", func := "wayfinder/wayfinderlaw23.PredictBoxes", spec := "predictBoxes", unfollowed := true, recurses := true, apart := false, narrowed := true }
def PredictBoxesUptoSaid : Prop := predictBoxesUptoRow.holds Try.pinned (OpenSpec.upto predictBoxesSpec)

/-- 'wayfinderlaw06.BoxCovers', WHERE WHAT IT READS IS OF BULK AT MOST 1048576: true; the input reads as it did. -/
def boxCoversUptoRow : OpenClaim := { program := "ytmpmggbcmioipaa", sum := "20748f071aff31ba69e130cfa3a31a478a0c66421f2b326f7bc118e4ca73a42b", func := "wayfinder/wayfinderlaw06.BoxCovers", spec := "boxCovers", unfollowed := true, recurses := true, apart := false, narrowed := true }
def BoxCoversUptoSaid : Prop := boxCoversUptoRow.holds Try.pinned (OpenSpec.upto boxCoversSpec)

/-- 'wayfinderlaw23.PredictHolds', WHERE WHAT IT READS IS OF BULK AT MOST 1048576: true; the input reads as it did. -/
def predictHoldsUptoRow : OpenClaim := { program := "ytmpmggbcmioipaa", sum := "20748f071aff31ba69e130cfa3a31a478a0c66421f2b326f7bc118e4ca73a42b", func := "wayfinder/wayfinderlaw23.PredictHolds", spec := "predictHolds", unfollowed := true, recurses := true, apart := false, narrowed := true }
def PredictHoldsUptoSaid : Prop := predictHoldsUptoRow.holds Try.pinned (OpenSpec.upto predictHoldsSpec)

end Rows
end Go.Proofs.Ytmpmggbcmioipaa
