/-
  No cell of these rows narrows 'for every input' (looked for: loops, veiled, ifaces, maps, wideKeys, modest, calm, conditions, laid).
  DERIVED. THE GIVEN ROWS OF THIS SEAT. 25 by the template 'for every input the law returns true; each argument reads behind the call as it read before'; 0 by the template 'total and deterministic' (their statements: YtnbgegapncdkjaaTotals.lean).
  GIVEN WITH THE SEED: the statements are not yours to turn. If you find one false, say at which input.
  Laid BY PROGRAM, IN A SANDBOX (cutbox-rows.mjs): the forced cells as the released guide's own fill.sh prints them over the translation 46bbd48104f83397… (all of the seat's roots in one cut). By AI agents, Wed Nov 11 2026. No macro, syntax, notation, axiom, sorry.
-/
import Derived.Test.YtnbgegapncdkjaaChecked
import GoSem.Claim
import GoSem.ClaimJoined
import GoSem.ClaimMapViews
import Derived.JoinedTies
import Derived.KernelRfl
namespace Go.Proofs.Ytnbgegapncdkjaa
/- THE CELL 'sum', in the pinned program and in every row, IS THE sha256 OF THE DUMP (.gsa) THAT YtnbgegapncdkjaaProg.lean LOADS. Nothing in Lean hashes anything: it is a label: what it is worth is what the hold of that sum in a sandbox is worth. -/
noncomputable def Try.pinned : Pinned := { name := "ytnbgegapncdkjaa", sum := "46bbd48104f83397ef8dd442c34c59ffecbce791e0986518aae32c763fc66c37", checked := Try.checked }
namespace Rows
def none {H : Type} : Left H := { results := [], args := [] }

/-- 'wayfinderlaw06.BoxSplits': WHATEVER THE INPUT: true; the input reads as it did. -/
def boxSplitsSpec : ChangeSpec := { name := "boxSplits", fn := fun _ => fun
  | [d] => { results := [.lit (.bool true)], args := [d] }
  | _ => none }
def boxSplitsRow : OpenClaim := { program := "ytnbgegapncdkjaa", sum := "46bbd48104f83397ef8dd442c34c59ffecbce791e0986518aae32c763fc66c37", func := "wayfinder/wayfinderlaw06.BoxSplits", spec := "boxSplits", unfollowed := true, recurses := true, apart := false }
def BoxSplitsSaid : Prop := boxSplitsRow.holds Try.pinned (OpenSpec.ofChange boxSplitsSpec)

/-- ITS FALSE NEIGHBOUR: 'it returns false'. Refute it at one input. -/
def boxSplitsWrong : ChangeSpec := { name := "boxSplits", fn := fun _ => fun
  | [d] => { results := [.lit (.bool false)], args := [d] }
  | _ => none }
def BoxSplitsWrongFalsely : Prop := boxSplitsRow.holds Try.pinned (OpenSpec.ofChange boxSplitsWrong)

/-- 'wayfinderlaw06.BoxMoves': WHATEVER THE INPUT: true; the input reads as it did. -/
def boxMovesSpec : ChangeSpec := { name := "boxMoves", fn := fun _ => fun
  | [d1, d2] => { results := [.lit (.bool true)], args := [d1, d2] }
  | _ => none }
def boxMovesRow : OpenClaim := { program := "ytnbgegapncdkjaa", sum := "46bbd48104f83397ef8dd442c34c59ffecbce791e0986518aae32c763fc66c37", func := "wayfinder/wayfinderlaw06.BoxMoves", spec := "boxMoves", unfollowed := true, recurses := true, apart := false }
def BoxMovesSaid : Prop := boxMovesRow.holds Try.pinned (OpenSpec.ofChange boxMovesSpec)

/-- ITS FALSE NEIGHBOUR: 'it returns false'. Refute it at one input. -/
def boxMovesWrong : ChangeSpec := { name := "boxMoves", fn := fun _ => fun
  | [d1, d2] => { results := [.lit (.bool false)], args := [d1, d2] }
  | _ => none }
def BoxMovesWrongFalsely : Prop := boxMovesRow.holds Try.pinned (OpenSpec.ofChange boxMovesWrong)

/-- 'wayfinderlaw06.BoxMoved': WHATEVER THE INPUT: true; the input reads as it did. -/
def boxMovedSpec : ChangeSpec := { name := "boxMoved", fn := fun _ => fun
  | [d1, d2, d3] => { results := [.lit (.bool true)], args := [d1, d2, d3] }
  | _ => none }
def boxMovedRow : OpenClaim := { program := "ytnbgegapncdkjaa", sum := "46bbd48104f83397ef8dd442c34c59ffecbce791e0986518aae32c763fc66c37", func := "wayfinder/wayfinderlaw06.BoxMoved", spec := "boxMoved", unfollowed := true, recurses := true, apart := false }
def BoxMovedSaid : Prop := boxMovedRow.holds Try.pinned (OpenSpec.ofChange boxMovedSpec)

/-- ITS FALSE NEIGHBOUR: 'it returns false'. Refute it at one input. -/
def boxMovedWrong : ChangeSpec := { name := "boxMoved", fn := fun _ => fun
  | [d1, d2, d3] => { results := [.lit (.bool false)], args := [d1, d2, d3] }
  | _ => none }
def BoxMovedWrongFalsely : Prop := boxMovedRow.holds Try.pinned (OpenSpec.ofChange boxMovedWrong)

/-- 'wayfinderlaw06.BoxHulls': WHATEVER THE INPUT: true; the input reads as it did. -/
def boxHullsSpec : ChangeSpec := { name := "boxHulls", fn := fun _ => fun
  | [d1, d2, d3] => { results := [.lit (.bool true)], args := [d1, d2, d3] }
  | _ => none }
def boxHullsRow : OpenClaim := { program := "ytnbgegapncdkjaa", sum := "46bbd48104f83397ef8dd442c34c59ffecbce791e0986518aae32c763fc66c37", func := "wayfinder/wayfinderlaw06.BoxHulls", spec := "boxHulls", unfollowed := true, recurses := true, apart := false }
def BoxHullsSaid : Prop := boxHullsRow.holds Try.pinned (OpenSpec.ofChange boxHullsSpec)

/-- ITS FALSE NEIGHBOUR: 'it returns false'. Refute it at one input. -/
def boxHullsWrong : ChangeSpec := { name := "boxHulls", fn := fun _ => fun
  | [d1, d2, d3] => { results := [.lit (.bool false)], args := [d1, d2, d3] }
  | _ => none }
def BoxHullsWrongFalsely : Prop := boxHullsRow.holds Try.pinned (OpenSpec.ofChange boxHullsWrong)

/-- 'wayfinderlaw06.BoxAnswers': WHATEVER THE INPUT: true; the input reads as it did. -/
def boxAnswersSpec : ChangeSpec := { name := "boxAnswers", fn := fun _ => fun
  | [d1, d2, d3] => { results := [.lit (.bool true)], args := [d1, d2, d3] }
  | _ => none }
def boxAnswersRow : OpenClaim := { program := "ytnbgegapncdkjaa", sum := "46bbd48104f83397ef8dd442c34c59ffecbce791e0986518aae32c763fc66c37", func := "wayfinder/wayfinderlaw06.BoxAnswers", spec := "boxAnswers", unfollowed := true, recurses := true, apart := false }
def BoxAnswersSaid : Prop := boxAnswersRow.holds Try.pinned (OpenSpec.ofChange boxAnswersSpec)

/-- ITS FALSE NEIGHBOUR: 'it returns false'. Refute it at one input. -/
def boxAnswersWrong : ChangeSpec := { name := "boxAnswers", fn := fun _ => fun
  | [d1, d2, d3] => { results := [.lit (.bool false)], args := [d1, d2, d3] }
  | _ => none }
def BoxAnswersWrongFalsely : Prop := boxAnswersRow.holds Try.pinned (OpenSpec.ofChange boxAnswersWrong)

/-- 'wayfinderlaw06.BoxCompacts': WHATEVER THE INPUT: true; the input reads as it did. -/
def boxCompactsSpec : ChangeSpec := { name := "boxCompacts", fn := fun _ => fun
  | [d1, d2, d3] => { results := [.lit (.bool true)], args := [d1, d2, d3] }
  | _ => none }
def boxCompactsRow : OpenClaim := { program := "ytnbgegapncdkjaa", sum := "46bbd48104f83397ef8dd442c34c59ffecbce791e0986518aae32c763fc66c37", func := "wayfinder/wayfinderlaw06.BoxCompacts", spec := "boxCompacts", unfollowed := true, recurses := true, apart := false }
def BoxCompactsSaid : Prop := boxCompactsRow.holds Try.pinned (OpenSpec.ofChange boxCompactsSpec)

/-- ITS FALSE NEIGHBOUR: 'it returns false'. Refute it at one input. -/
def boxCompactsWrong : ChangeSpec := { name := "boxCompacts", fn := fun _ => fun
  | [d1, d2, d3] => { results := [.lit (.bool false)], args := [d1, d2, d3] }
  | _ => none }
def BoxCompactsWrongFalsely : Prop := boxCompactsRow.holds Try.pinned (OpenSpec.ofChange boxCompactsWrong)

/-- 'wayfinderlaw06.BoxHalves': WHATEVER THE INPUT: true; the input reads as it did. -/
def boxHalvesSpec : ChangeSpec := { name := "boxHalves", fn := fun _ => fun
  | [d1, d2] => { results := [.lit (.bool true)], args := [d1, d2] }
  | _ => none }
def boxHalvesRow : OpenClaim := { program := "ytnbgegapncdkjaa", sum := "46bbd48104f83397ef8dd442c34c59ffecbce791e0986518aae32c763fc66c37", func := "wayfinder/wayfinderlaw06.BoxHalves", spec := "boxHalves", unfollowed := true, recurses := true, apart := false }
def BoxHalvesSaid : Prop := boxHalvesRow.holds Try.pinned (OpenSpec.ofChange boxHalvesSpec)

/-- ITS FALSE NEIGHBOUR: 'it returns false'. Refute it at one input. -/
def boxHalvesWrong : ChangeSpec := { name := "boxHalves", fn := fun _ => fun
  | [d1, d2] => { results := [.lit (.bool false)], args := [d1, d2] }
  | _ => none }
def BoxHalvesWrongFalsely : Prop := boxHalvesRow.holds Try.pinned (OpenSpec.ofChange boxHalvesWrong)

/-- 'wayfinderlaw06.BoxMeets': WHATEVER THE INPUT: true; the input reads as it did. -/
def boxMeetsSpec : ChangeSpec := { name := "boxMeets", fn := fun _ => fun
  | [d1, d2, d3] => { results := [.lit (.bool true)], args := [d1, d2, d3] }
  | _ => none }
def boxMeetsRow : OpenClaim := { program := "ytnbgegapncdkjaa", sum := "46bbd48104f83397ef8dd442c34c59ffecbce791e0986518aae32c763fc66c37", func := "wayfinder/wayfinderlaw06.BoxMeets", spec := "boxMeets", unfollowed := true, recurses := true, apart := false }
def BoxMeetsSaid : Prop := boxMeetsRow.holds Try.pinned (OpenSpec.ofChange boxMeetsSpec)

/-- ITS FALSE NEIGHBOUR: 'it returns false'. Refute it at one input. -/
def boxMeetsWrong : ChangeSpec := { name := "boxMeets", fn := fun _ => fun
  | [d1, d2, d3] => { results := [.lit (.bool false)], args := [d1, d2, d3] }
  | _ => none }
def BoxMeetsWrongFalsely : Prop := boxMeetsRow.holds Try.pinned (OpenSpec.ofChange boxMeetsWrong)

/-- 'wayfinderlaw23.PredictMonotone': WHATEVER THE INPUT: true; the input reads as it did. -/
def predictMonotoneSpec : ChangeSpec := { name := "predictMonotone", fn := fun _ => fun
  | [d1, d2, d3] => { results := [.lit (.bool true)], args := [d1, d2, d3] }
  | _ => none }
def predictMonotoneRow : OpenClaim := { program := "ytnbgegapncdkjaa", sum := "46bbd48104f83397ef8dd442c34c59ffecbce791e0986518aae32c763fc66c37", func := "wayfinder/wayfinderlaw23.PredictMonotone", spec := "predictMonotone", unfollowed := true, recurses := true, apart := false }
def PredictMonotoneSaid : Prop := predictMonotoneRow.holds Try.pinned (OpenSpec.ofChange predictMonotoneSpec)

/-- ITS FALSE NEIGHBOUR: 'it returns false'. Refute it at one input. -/
def predictMonotoneWrong : ChangeSpec := { name := "predictMonotone", fn := fun _ => fun
  | [d1, d2, d3] => { results := [.lit (.bool false)], args := [d1, d2, d3] }
  | _ => none }
def PredictMonotoneWrongFalsely : Prop := predictMonotoneRow.holds Try.pinned (OpenSpec.ofChange predictMonotoneWrong)

/-- 'wayfinderlaw04.HeadingRises': WHATEVER THE INPUT: true; the input reads as it did. -/
def headingRisesSpec : ChangeSpec := { name := "headingRises", fn := fun _ => fun
  | [d1, d2] => { results := [.lit (.bool true)], args := [d1, d2] }
  | _ => none }
def headingRisesRow : OpenClaim := { program := "ytnbgegapncdkjaa", sum := "46bbd48104f83397ef8dd442c34c59ffecbce791e0986518aae32c763fc66c37", func := "wayfinder/wayfinderlaw04.HeadingRises", spec := "headingRises", unfollowed := true, recurses := true, apart := false }
def HeadingRisesSaid : Prop := headingRisesRow.holds Try.pinned (OpenSpec.ofChange headingRisesSpec)

/-- ITS FALSE NEIGHBOUR: 'it returns false'. Refute it at one input. -/
def headingRisesWrong : ChangeSpec := { name := "headingRises", fn := fun _ => fun
  | [d1, d2] => { results := [.lit (.bool false)], args := [d1, d2] }
  | _ => none }
def HeadingRisesWrongFalsely : Prop := headingRisesRow.holds Try.pinned (OpenSpec.ofChange headingRisesWrong)

/-- 'wayfinderlaw04.HeadingFloors': WHATEVER THE INPUT: true; the input reads as it did. -/
def headingFloorsSpec : ChangeSpec := { name := "headingFloors", fn := fun _ => fun
  | [d] => { results := [.lit (.bool true)], args := [d] }
  | _ => none }
def headingFloorsRow : OpenClaim := { program := "ytnbgegapncdkjaa", sum := "46bbd48104f83397ef8dd442c34c59ffecbce791e0986518aae32c763fc66c37", func := "wayfinder/wayfinderlaw04.HeadingFloors", spec := "headingFloors", unfollowed := true, recurses := true, apart := false }
def HeadingFloorsSaid : Prop := headingFloorsRow.holds Try.pinned (OpenSpec.ofChange headingFloorsSpec)

/-- ITS FALSE NEIGHBOUR: 'it returns false'. Refute it at one input. -/
def headingFloorsWrong : ChangeSpec := { name := "headingFloors", fn := fun _ => fun
  | [d] => { results := [.lit (.bool false)], args := [d] }
  | _ => none }
def HeadingFloorsWrongFalsely : Prop := headingFloorsRow.holds Try.pinned (OpenSpec.ofChange headingFloorsWrong)

/-- 'wayfinderlaw04.HeadingArcs': WHATEVER THE INPUT: true; the input reads as it did. -/
def headingArcsSpec : ChangeSpec := { name := "headingArcs", fn := fun _ => fun
  | [d1, d2] => { results := [.lit (.bool true)], args := [d1, d2] }
  | _ => none }
def headingArcsRow : OpenClaim := { program := "ytnbgegapncdkjaa", sum := "46bbd48104f83397ef8dd442c34c59ffecbce791e0986518aae32c763fc66c37", func := "wayfinder/wayfinderlaw04.HeadingArcs", spec := "headingArcs", unfollowed := true, recurses := true, apart := false }
def HeadingArcsSaid : Prop := headingArcsRow.holds Try.pinned (OpenSpec.ofChange headingArcsSpec)

/-- ITS FALSE NEIGHBOUR: 'it returns false'. Refute it at one input. -/
def headingArcsWrong : ChangeSpec := { name := "headingArcs", fn := fun _ => fun
  | [d1, d2] => { results := [.lit (.bool false)], args := [d1, d2] }
  | _ => none }
def HeadingArcsWrongFalsely : Prop := headingArcsRow.holds Try.pinned (OpenSpec.ofChange headingArcsWrong)

/-- 'wayfinderlaw04.HeadingHulls': WHATEVER THE INPUT: true; the input reads as it did. -/
def headingHullsSpec : ChangeSpec := { name := "headingHulls", fn := fun _ => fun
  | [d1, d2, d3] => { results := [.lit (.bool true)], args := [d1, d2, d3] }
  | _ => none }
def headingHullsRow : OpenClaim := { program := "ytnbgegapncdkjaa", sum := "46bbd48104f83397ef8dd442c34c59ffecbce791e0986518aae32c763fc66c37", func := "wayfinder/wayfinderlaw04.HeadingHulls", spec := "headingHulls", unfollowed := true, recurses := true, apart := false }
def HeadingHullsSaid : Prop := headingHullsRow.holds Try.pinned (OpenSpec.ofChange headingHullsSpec)

/-- ITS FALSE NEIGHBOUR: 'it returns false'. Refute it at one input. -/
def headingHullsWrong : ChangeSpec := { name := "headingHulls", fn := fun _ => fun
  | [d1, d2, d3] => { results := [.lit (.bool false)], args := [d1, d2, d3] }
  | _ => none }
def HeadingHullsWrongFalsely : Prop := headingHullsRow.holds Try.pinned (OpenSpec.ofChange headingHullsWrong)

/-- 'wayfinderlaw23.PredictImages': WHATEVER THE INPUT: true; the input reads as it did. -/
def predictImagesSpec : ChangeSpec := { name := "predictImages", fn := fun _ => fun
  | [d1, d2, d3] => { results := [.lit (.bool true)], args := [d1, d2, d3] }
  | _ => none }
def predictImagesRow : OpenClaim := { program := "ytnbgegapncdkjaa", sum := "46bbd48104f83397ef8dd442c34c59ffecbce791e0986518aae32c763fc66c37", func := "wayfinder/wayfinderlaw23.PredictImages", spec := "predictImages", unfollowed := true, recurses := true, apart := false }
def PredictImagesSaid : Prop := predictImagesRow.holds Try.pinned (OpenSpec.ofChange predictImagesSpec)

/-- ITS FALSE NEIGHBOUR: 'it returns false'. Refute it at one input. -/
def predictImagesWrong : ChangeSpec := { name := "predictImages", fn := fun _ => fun
  | [d1, d2, d3] => { results := [.lit (.bool false)], args := [d1, d2, d3] }
  | _ => none }
def PredictImagesWrongFalsely : Prop := predictImagesRow.holds Try.pinned (OpenSpec.ofChange predictImagesWrong)

/-- 'wayfinderlaw23.PredictBack': WHATEVER THE INPUT: true; the input reads as it did. -/
def predictBackSpec : ChangeSpec := { name := "predictBack", fn := fun _ => fun
  | [d1, d2, d3] => { results := [.lit (.bool true)], args := [d1, d2, d3] }
  | _ => none }
def predictBackRow : OpenClaim := { program := "ytnbgegapncdkjaa", sum := "46bbd48104f83397ef8dd442c34c59ffecbce791e0986518aae32c763fc66c37", func := "wayfinder/wayfinderlaw23.PredictBack", spec := "predictBack", unfollowed := true, recurses := true, apart := false }
def PredictBackSaid : Prop := predictBackRow.holds Try.pinned (OpenSpec.ofChange predictBackSpec)

/-- ITS FALSE NEIGHBOUR: 'it returns false'. Refute it at one input. -/
def predictBackWrong : ChangeSpec := { name := "predictBack", fn := fun _ => fun
  | [d1, d2, d3] => { results := [.lit (.bool false)], args := [d1, d2, d3] }
  | _ => none }
def PredictBackWrongFalsely : Prop := predictBackRow.holds Try.pinned (OpenSpec.ofChange predictBackWrong)

/-- 'wayfinderlaw04.HeadingMatchesReference': WHATEVER THE INPUT: true; the input reads as it did. -/
def headingMatchesReferenceSpec : ChangeSpec := { name := "headingMatchesReference", fn := fun _ => fun
  | [d1, d2] => { results := [.lit (.bool true)], args := [d1, d2] }
  | _ => none }
def headingMatchesReferenceRow : OpenClaim := { program := "ytnbgegapncdkjaa", sum := "46bbd48104f83397ef8dd442c34c59ffecbce791e0986518aae32c763fc66c37", func := "wayfinder/wayfinderlaw04.HeadingMatchesReference", spec := "headingMatchesReference", unfollowed := true, recurses := true, apart := false }
def HeadingMatchesReferenceSaid : Prop := headingMatchesReferenceRow.holds Try.pinned (OpenSpec.ofChange headingMatchesReferenceSpec)

/-- ITS FALSE NEIGHBOUR: 'it returns false'. Refute it at one input. -/
def headingMatchesReferenceWrong : ChangeSpec := { name := "headingMatchesReference", fn := fun _ => fun
  | [d1, d2] => { results := [.lit (.bool false)], args := [d1, d2] }
  | _ => none }
def HeadingMatchesReferenceWrongFalsely : Prop := headingMatchesReferenceRow.holds Try.pinned (OpenSpec.ofChange headingMatchesReferenceWrong)

/-- 'wayfinderlaw04.HeadingTurns': WHATEVER THE INPUT: true; the input reads as it did. -/
def headingTurnsSpec : ChangeSpec := { name := "headingTurns", fn := fun _ => fun
  | [d1, d2, d3] => { results := [.lit (.bool true)], args := [d1, d2, d3] }
  | _ => none }
def headingTurnsRow : OpenClaim := { program := "ytnbgegapncdkjaa", sum := "46bbd48104f83397ef8dd442c34c59ffecbce791e0986518aae32c763fc66c37", func := "wayfinder/wayfinderlaw04.HeadingTurns", spec := "headingTurns", unfollowed := true, recurses := true, apart := false }
def HeadingTurnsSaid : Prop := headingTurnsRow.holds Try.pinned (OpenSpec.ofChange headingTurnsSpec)

/-- ITS FALSE NEIGHBOUR: 'it returns false'. Refute it at one input. -/
def headingTurnsWrong : ChangeSpec := { name := "headingTurns", fn := fun _ => fun
  | [d1, d2, d3] => { results := [.lit (.bool false)], args := [d1, d2, d3] }
  | _ => none }
def HeadingTurnsWrongFalsely : Prop := headingTurnsRow.holds Try.pinned (OpenSpec.ofChange headingTurnsWrong)

/-- 'wayfinderlaw04.HeadingVectors': WHATEVER THE INPUT: true; the input reads as it did. -/
def headingVectorsSpec : ChangeSpec := { name := "headingVectors", fn := fun _ => fun
  | [d1, d2] => { results := [.lit (.bool true)], args := [d1, d2] }
  | _ => none }
def headingVectorsRow : OpenClaim := { program := "ytnbgegapncdkjaa", sum := "46bbd48104f83397ef8dd442c34c59ffecbce791e0986518aae32c763fc66c37", func := "wayfinder/wayfinderlaw04.HeadingVectors", spec := "headingVectors", unfollowed := true, recurses := true, apart := false }
def HeadingVectorsSaid : Prop := headingVectorsRow.holds Try.pinned (OpenSpec.ofChange headingVectorsSpec)

/-- ITS FALSE NEIGHBOUR: 'it returns false'. Refute it at one input. -/
def headingVectorsWrong : ChangeSpec := { name := "headingVectors", fn := fun _ => fun
  | [d1, d2] => { results := [.lit (.bool false)], args := [d1, d2] }
  | _ => none }
def HeadingVectorsWrongFalsely : Prop := headingVectorsRow.holds Try.pinned (OpenSpec.ofChange headingVectorsWrong)

/-- 'wayfinderlaw04.HeadingCompares': WHATEVER THE INPUT: true; the input reads as it did. -/
def headingComparesSpec : ChangeSpec := { name := "headingCompares", fn := fun _ => fun
  | [d1, d2, d3] => { results := [.lit (.bool true)], args := [d1, d2, d3] }
  | _ => none }
def headingComparesRow : OpenClaim := { program := "ytnbgegapncdkjaa", sum := "46bbd48104f83397ef8dd442c34c59ffecbce791e0986518aae32c763fc66c37", func := "wayfinder/wayfinderlaw04.HeadingCompares", spec := "headingCompares", unfollowed := true, recurses := true, apart := false }
def HeadingComparesSaid : Prop := headingComparesRow.holds Try.pinned (OpenSpec.ofChange headingComparesSpec)

/-- ITS FALSE NEIGHBOUR: 'it returns false'. Refute it at one input. -/
def headingComparesWrong : ChangeSpec := { name := "headingCompares", fn := fun _ => fun
  | [d1, d2, d3] => { results := [.lit (.bool false)], args := [d1, d2, d3] }
  | _ => none }
def HeadingComparesWrongFalsely : Prop := headingComparesRow.holds Try.pinned (OpenSpec.ofChange headingComparesWrong)

/-- 'wayfinderlaw04.HeadingMoves': WHATEVER THE INPUT: true; the input reads as it did. -/
def headingMovesSpec : ChangeSpec := { name := "headingMoves", fn := fun _ => fun
  | [d1, d2, d3] => { results := [.lit (.bool true)], args := [d1, d2, d3] }
  | _ => none }
def headingMovesRow : OpenClaim := { program := "ytnbgegapncdkjaa", sum := "46bbd48104f83397ef8dd442c34c59ffecbce791e0986518aae32c763fc66c37", func := "wayfinder/wayfinderlaw04.HeadingMoves", spec := "headingMoves", unfollowed := true, recurses := true, apart := false }
def HeadingMovesSaid : Prop := headingMovesRow.holds Try.pinned (OpenSpec.ofChange headingMovesSpec)

/-- ITS FALSE NEIGHBOUR: 'it returns false'. Refute it at one input. -/
def headingMovesWrong : ChangeSpec := { name := "headingMoves", fn := fun _ => fun
  | [d1, d2, d3] => { results := [.lit (.bool false)], args := [d1, d2, d3] }
  | _ => none }
def HeadingMovesWrongFalsely : Prop := headingMovesRow.holds Try.pinned (OpenSpec.ofChange headingMovesWrong)

/-- 'wayfinderlaw23.PredictMarks': WHATEVER THE INPUT: true; the input reads as it did. -/
def predictMarksSpec : ChangeSpec := { name := "predictMarks", fn := fun _ => fun
  | [d1, d2, d3] => { results := [.lit (.bool true)], args := [d1, d2, d3] }
  | _ => none }
def predictMarksRow : OpenClaim := { program := "ytnbgegapncdkjaa", sum := "46bbd48104f83397ef8dd442c34c59ffecbce791e0986518aae32c763fc66c37", func := "wayfinder/wayfinderlaw23.PredictMarks", spec := "predictMarks", unfollowed := true, recurses := true, apart := false }
def PredictMarksSaid : Prop := predictMarksRow.holds Try.pinned (OpenSpec.ofChange predictMarksSpec)

/-- ITS FALSE NEIGHBOUR: 'it returns false'. Refute it at one input. -/
def predictMarksWrong : ChangeSpec := { name := "predictMarks", fn := fun _ => fun
  | [d1, d2, d3] => { results := [.lit (.bool false)], args := [d1, d2, d3] }
  | _ => none }
def PredictMarksWrongFalsely : Prop := predictMarksRow.holds Try.pinned (OpenSpec.ofChange predictMarksWrong)

/-- 'wayfinderlaw23.PredictBoxes': WHATEVER THE INPUT: true; the input reads as it did. -/
def predictBoxesSpec : ChangeSpec := { name := "predictBoxes", fn := fun _ => fun
  | [d1, d2, d3] => { results := [.lit (.bool true)], args := [d1, d2, d3] }
  | _ => none }
def predictBoxesRow : OpenClaim := { program := "ytnbgegapncdkjaa", sum := "46bbd48104f83397ef8dd442c34c59ffecbce791e0986518aae32c763fc66c37", func := "wayfinder/wayfinderlaw23.PredictBoxes", spec := "predictBoxes", unfollowed := true, recurses := true, apart := false }
def PredictBoxesSaid : Prop := predictBoxesRow.holds Try.pinned (OpenSpec.ofChange predictBoxesSpec)

/-- ITS FALSE NEIGHBOUR: 'it returns false'. Refute it at one input. -/
def predictBoxesWrong : ChangeSpec := { name := "predictBoxes", fn := fun _ => fun
  | [d1, d2, d3] => { results := [.lit (.bool false)], args := [d1, d2, d3] }
  | _ => none }
def PredictBoxesWrongFalsely : Prop := predictBoxesRow.holds Try.pinned (OpenSpec.ofChange predictBoxesWrong)

/-- 'wayfinderlaw04.HeadingMeets': WHATEVER THE INPUT: true; the input reads as it did. -/
def headingMeetsSpec : ChangeSpec := { name := "headingMeets", fn := fun _ => fun
  | [d1, d2, d3] => { results := [.lit (.bool true)], args := [d1, d2, d3] }
  | _ => none }
def headingMeetsRow : OpenClaim := { program := "ytnbgegapncdkjaa", sum := "46bbd48104f83397ef8dd442c34c59ffecbce791e0986518aae32c763fc66c37", func := "wayfinder/wayfinderlaw04.HeadingMeets", spec := "headingMeets", unfollowed := true, recurses := true, apart := false }
def HeadingMeetsSaid : Prop := headingMeetsRow.holds Try.pinned (OpenSpec.ofChange headingMeetsSpec)

/-- ITS FALSE NEIGHBOUR: 'it returns false'. Refute it at one input. -/
def headingMeetsWrong : ChangeSpec := { name := "headingMeets", fn := fun _ => fun
  | [d1, d2, d3] => { results := [.lit (.bool false)], args := [d1, d2, d3] }
  | _ => none }
def HeadingMeetsWrongFalsely : Prop := headingMeetsRow.holds Try.pinned (OpenSpec.ofChange headingMeetsWrong)

/-- 'wayfinderlaw06.BoxCovers': WHATEVER THE INPUT: true; the input reads as it did. -/
def boxCoversSpec : ChangeSpec := { name := "boxCovers", fn := fun _ => fun
  | [d1, d2, d3] => { results := [.lit (.bool true)], args := [d1, d2, d3] }
  | _ => none }
def boxCoversRow : OpenClaim := { program := "ytnbgegapncdkjaa", sum := "46bbd48104f83397ef8dd442c34c59ffecbce791e0986518aae32c763fc66c37", func := "wayfinder/wayfinderlaw06.BoxCovers", spec := "boxCovers", unfollowed := true, recurses := true, apart := false }
def BoxCoversSaid : Prop := boxCoversRow.holds Try.pinned (OpenSpec.ofChange boxCoversSpec)

/-- ITS FALSE NEIGHBOUR: 'it returns false'. Refute it at one input. -/
def boxCoversWrong : ChangeSpec := { name := "boxCovers", fn := fun _ => fun
  | [d1, d2, d3] => { results := [.lit (.bool false)], args := [d1, d2, d3] }
  | _ => none }
def BoxCoversWrongFalsely : Prop := boxCoversRow.holds Try.pinned (OpenSpec.ofChange boxCoversWrong)

/-- 'wayfinderlaw23.PredictHolds': WHATEVER THE INPUT: true; the input reads as it did. -/
def predictHoldsSpec : ChangeSpec := { name := "predictHolds", fn := fun _ => fun
  | [d1, d2, d3] => { results := [.lit (.bool true)], args := [d1, d2, d3] }
  | _ => none }
def predictHoldsRow : OpenClaim := { program := "ytnbgegapncdkjaa", sum := "46bbd48104f83397ef8dd442c34c59ffecbce791e0986518aae32c763fc66c37", func := "wayfinder/wayfinderlaw23.PredictHolds", spec := "predictHolds", unfollowed := true, recurses := true, apart := false }
def PredictHoldsSaid : Prop := predictHoldsRow.holds Try.pinned (OpenSpec.ofChange predictHoldsSpec)

/-- ITS FALSE NEIGHBOUR: 'it returns false'. Refute it at one input. -/
def predictHoldsWrong : ChangeSpec := { name := "predictHolds", fn := fun _ => fun
  | [d1, d2, d3] => { results := [.lit (.bool false)], args := [d1, d2, d3] }
  | _ => none }
def PredictHoldsWrongFalsely : Prop := predictHoldsRow.holds Try.pinned (OpenSpec.ofChange predictHoldsWrong)

/- THE SECOND FORM. 'bulk': how many values and letters a reading holds, each counted each time it is reached (what is shared counts as often as it is met; a slice's spare places count too). A statement '..UptoSaid' is the law's where the arguments, and the package variables that the reading takes, are together of bulk at most 1048576: NARROWER than '..Said'. Prove '..Said' where nothing that the law and all that it calls make is longer than what came in: it says more and counts as full. Else prove '..UptoSaid'. A law counts once. -/
mutual
def uptoBulk {H : Type} : DataW H → Nat
  | .lit (.string bytes) => bytes.length + 1
  | .lit _ => 1
  | .nil => 1
  | .ptr d => uptoBulk d + 1
  | .slice elems spare => uptoBulkAll elems + uptoBulkAll spare + 1
  | .agg parts => uptoBulkAll parts + 1
  | .iface _ d => uptoBulk d + 1
  | .map entries => uptoBulkEntries entries + 1
  | .held _ => 1
def uptoBulkAll {H : Type} : List (DataW H) → Nat
  | [] => 0
  | d :: r => uptoBulk d + uptoBulkAll r
def uptoBulkEntries {H : Type} : List (Lit × DataW H) → Nat
  | [] => 0
  | x :: r => uptoBulkEntry x + uptoBulkEntries r
def uptoBulkEntry {H : Type} : Lit × DataW H → Nat
  | (.string bytes, d) => bytes.length + uptoBulk d + 1
  | (_, d) => uptoBulk d + 1
 end
def uptoSmall : (H : Type) → List (DataW H) → Bool := fun _ ds => decide (uptoBulkAll ds ≤ 1048576)
def OpenSpec.upto (s : _root_.Go.ChangeSpec) : _root_.Go.OpenSpec := { _root_.Go.OpenSpec.ofChange s with cond := some uptoSmall }

/-- 'wayfinderlaw06.BoxSplits', WHERE WHAT IT READS IS OF BULK AT MOST 1048576: true; the input reads as it did. -/
def boxSplitsUptoRow : OpenClaim := { program := "ytnbgegapncdkjaa", sum := "46bbd48104f83397ef8dd442c34c59ffecbce791e0986518aae32c763fc66c37", func := "wayfinder/wayfinderlaw06.BoxSplits", spec := "boxSplits", unfollowed := true, recurses := true, apart := false, narrowed := true }
def BoxSplitsUptoSaid : Prop := boxSplitsUptoRow.holds Try.pinned (OpenSpec.upto boxSplitsSpec)

/-- 'wayfinderlaw06.BoxMoves', WHERE WHAT IT READS IS OF BULK AT MOST 1048576: true; the input reads as it did. -/
def boxMovesUptoRow : OpenClaim := { program := "ytnbgegapncdkjaa", sum := "46bbd48104f83397ef8dd442c34c59ffecbce791e0986518aae32c763fc66c37", func := "wayfinder/wayfinderlaw06.BoxMoves", spec := "boxMoves", unfollowed := true, recurses := true, apart := false, narrowed := true }
def BoxMovesUptoSaid : Prop := boxMovesUptoRow.holds Try.pinned (OpenSpec.upto boxMovesSpec)

/-- 'wayfinderlaw06.BoxMoved', WHERE WHAT IT READS IS OF BULK AT MOST 1048576: true; the input reads as it did. -/
def boxMovedUptoRow : OpenClaim := { program := "ytnbgegapncdkjaa", sum := "46bbd48104f83397ef8dd442c34c59ffecbce791e0986518aae32c763fc66c37", func := "wayfinder/wayfinderlaw06.BoxMoved", spec := "boxMoved", unfollowed := true, recurses := true, apart := false, narrowed := true }
def BoxMovedUptoSaid : Prop := boxMovedUptoRow.holds Try.pinned (OpenSpec.upto boxMovedSpec)

/-- 'wayfinderlaw06.BoxHulls', WHERE WHAT IT READS IS OF BULK AT MOST 1048576: true; the input reads as it did. -/
def boxHullsUptoRow : OpenClaim := { program := "ytnbgegapncdkjaa", sum := "46bbd48104f83397ef8dd442c34c59ffecbce791e0986518aae32c763fc66c37", func := "wayfinder/wayfinderlaw06.BoxHulls", spec := "boxHulls", unfollowed := true, recurses := true, apart := false, narrowed := true }
def BoxHullsUptoSaid : Prop := boxHullsUptoRow.holds Try.pinned (OpenSpec.upto boxHullsSpec)

/-- 'wayfinderlaw06.BoxAnswers', WHERE WHAT IT READS IS OF BULK AT MOST 1048576: true; the input reads as it did. -/
def boxAnswersUptoRow : OpenClaim := { program := "ytnbgegapncdkjaa", sum := "46bbd48104f83397ef8dd442c34c59ffecbce791e0986518aae32c763fc66c37", func := "wayfinder/wayfinderlaw06.BoxAnswers", spec := "boxAnswers", unfollowed := true, recurses := true, apart := false, narrowed := true }
def BoxAnswersUptoSaid : Prop := boxAnswersUptoRow.holds Try.pinned (OpenSpec.upto boxAnswersSpec)

/-- 'wayfinderlaw06.BoxCompacts', WHERE WHAT IT READS IS OF BULK AT MOST 1048576: true; the input reads as it did. -/
def boxCompactsUptoRow : OpenClaim := { program := "ytnbgegapncdkjaa", sum := "46bbd48104f83397ef8dd442c34c59ffecbce791e0986518aae32c763fc66c37", func := "wayfinder/wayfinderlaw06.BoxCompacts", spec := "boxCompacts", unfollowed := true, recurses := true, apart := false, narrowed := true }
def BoxCompactsUptoSaid : Prop := boxCompactsUptoRow.holds Try.pinned (OpenSpec.upto boxCompactsSpec)

/-- 'wayfinderlaw06.BoxHalves', WHERE WHAT IT READS IS OF BULK AT MOST 1048576: true; the input reads as it did. -/
def boxHalvesUptoRow : OpenClaim := { program := "ytnbgegapncdkjaa", sum := "46bbd48104f83397ef8dd442c34c59ffecbce791e0986518aae32c763fc66c37", func := "wayfinder/wayfinderlaw06.BoxHalves", spec := "boxHalves", unfollowed := true, recurses := true, apart := false, narrowed := true }
def BoxHalvesUptoSaid : Prop := boxHalvesUptoRow.holds Try.pinned (OpenSpec.upto boxHalvesSpec)

/-- 'wayfinderlaw06.BoxMeets', WHERE WHAT IT READS IS OF BULK AT MOST 1048576: true; the input reads as it did. -/
def boxMeetsUptoRow : OpenClaim := { program := "ytnbgegapncdkjaa", sum := "46bbd48104f83397ef8dd442c34c59ffecbce791e0986518aae32c763fc66c37", func := "wayfinder/wayfinderlaw06.BoxMeets", spec := "boxMeets", unfollowed := true, recurses := true, apart := false, narrowed := true }
def BoxMeetsUptoSaid : Prop := boxMeetsUptoRow.holds Try.pinned (OpenSpec.upto boxMeetsSpec)

/-- 'wayfinderlaw23.PredictMonotone', WHERE WHAT IT READS IS OF BULK AT MOST 1048576: true; the input reads as it did. -/
def predictMonotoneUptoRow : OpenClaim := { program := "ytnbgegapncdkjaa", sum := "46bbd48104f83397ef8dd442c34c59ffecbce791e0986518aae32c763fc66c37", func := "wayfinder/wayfinderlaw23.PredictMonotone", spec := "predictMonotone", unfollowed := true, recurses := true, apart := false, narrowed := true }
def PredictMonotoneUptoSaid : Prop := predictMonotoneUptoRow.holds Try.pinned (OpenSpec.upto predictMonotoneSpec)

/-- 'wayfinderlaw04.HeadingRises', WHERE WHAT IT READS IS OF BULK AT MOST 1048576: true; the input reads as it did. -/
def headingRisesUptoRow : OpenClaim := { program := "ytnbgegapncdkjaa", sum := "46bbd48104f83397ef8dd442c34c59ffecbce791e0986518aae32c763fc66c37", func := "wayfinder/wayfinderlaw04.HeadingRises", spec := "headingRises", unfollowed := true, recurses := true, apart := false, narrowed := true }
def HeadingRisesUptoSaid : Prop := headingRisesUptoRow.holds Try.pinned (OpenSpec.upto headingRisesSpec)

/-- 'wayfinderlaw04.HeadingFloors', WHERE WHAT IT READS IS OF BULK AT MOST 1048576: true; the input reads as it did. -/
def headingFloorsUptoRow : OpenClaim := { program := "ytnbgegapncdkjaa", sum := "46bbd48104f83397ef8dd442c34c59ffecbce791e0986518aae32c763fc66c37", func := "wayfinder/wayfinderlaw04.HeadingFloors", spec := "headingFloors", unfollowed := true, recurses := true, apart := false, narrowed := true }
def HeadingFloorsUptoSaid : Prop := headingFloorsUptoRow.holds Try.pinned (OpenSpec.upto headingFloorsSpec)

/-- 'wayfinderlaw04.HeadingArcs', WHERE WHAT IT READS IS OF BULK AT MOST 1048576: true; the input reads as it did. -/
def headingArcsUptoRow : OpenClaim := { program := "ytnbgegapncdkjaa", sum := "46bbd48104f83397ef8dd442c34c59ffecbce791e0986518aae32c763fc66c37", func := "wayfinder/wayfinderlaw04.HeadingArcs", spec := "headingArcs", unfollowed := true, recurses := true, apart := false, narrowed := true }
def HeadingArcsUptoSaid : Prop := headingArcsUptoRow.holds Try.pinned (OpenSpec.upto headingArcsSpec)

/-- 'wayfinderlaw04.HeadingHulls', WHERE WHAT IT READS IS OF BULK AT MOST 1048576: true; the input reads as it did. -/
def headingHullsUptoRow : OpenClaim := { program := "ytnbgegapncdkjaa", sum := "46bbd48104f83397ef8dd442c34c59ffecbce791e0986518aae32c763fc66c37", func := "wayfinder/wayfinderlaw04.HeadingHulls", spec := "headingHulls", unfollowed := true, recurses := true, apart := false, narrowed := true }
def HeadingHullsUptoSaid : Prop := headingHullsUptoRow.holds Try.pinned (OpenSpec.upto headingHullsSpec)

/-- 'wayfinderlaw23.PredictImages', WHERE WHAT IT READS IS OF BULK AT MOST 1048576: true; the input reads as it did. -/
def predictImagesUptoRow : OpenClaim := { program := "ytnbgegapncdkjaa", sum := "46bbd48104f83397ef8dd442c34c59ffecbce791e0986518aae32c763fc66c37", func := "wayfinder/wayfinderlaw23.PredictImages", spec := "predictImages", unfollowed := true, recurses := true, apart := false, narrowed := true }
def PredictImagesUptoSaid : Prop := predictImagesUptoRow.holds Try.pinned (OpenSpec.upto predictImagesSpec)

/-- 'wayfinderlaw23.PredictBack', WHERE WHAT IT READS IS OF BULK AT MOST 1048576: true; the input reads as it did. -/
def predictBackUptoRow : OpenClaim := { program := "ytnbgegapncdkjaa", sum := "46bbd48104f83397ef8dd442c34c59ffecbce791e0986518aae32c763fc66c37", func := "wayfinder/wayfinderlaw23.PredictBack", spec := "predictBack", unfollowed := true, recurses := true, apart := false, narrowed := true }
def PredictBackUptoSaid : Prop := predictBackUptoRow.holds Try.pinned (OpenSpec.upto predictBackSpec)

/-- 'wayfinderlaw04.HeadingMatchesReference', WHERE WHAT IT READS IS OF BULK AT MOST 1048576: true; the input reads as it did. -/
def headingMatchesReferenceUptoRow : OpenClaim := { program := "ytnbgegapncdkjaa", sum := "46bbd48104f83397ef8dd442c34c59ffecbce791e0986518aae32c763fc66c37", func := "wayfinder/wayfinderlaw04.HeadingMatchesReference", spec := "headingMatchesReference", unfollowed := true, recurses := true, apart := false, narrowed := true }
def HeadingMatchesReferenceUptoSaid : Prop := headingMatchesReferenceUptoRow.holds Try.pinned (OpenSpec.upto headingMatchesReferenceSpec)

/-- 'wayfinderlaw04.HeadingTurns', WHERE WHAT IT READS IS OF BULK AT MOST 1048576: true; the input reads as it did. -/
def headingTurnsUptoRow : OpenClaim := { program := "ytnbgegapncdkjaa", sum := "46bbd48104f83397ef8dd442c34c59ffecbce791e0986518aae32c763fc66c37", func := "wayfinder/wayfinderlaw04.HeadingTurns", spec := "headingTurns", unfollowed := true, recurses := true, apart := false, narrowed := true }
def HeadingTurnsUptoSaid : Prop := headingTurnsUptoRow.holds Try.pinned (OpenSpec.upto headingTurnsSpec)

/-- 'wayfinderlaw04.HeadingVectors', WHERE WHAT IT READS IS OF BULK AT MOST 1048576: true; the input reads as it did. -/
def headingVectorsUptoRow : OpenClaim := { program := "ytnbgegapncdkjaa", sum := "46bbd48104f83397ef8dd442c34c59ffecbce791e0986518aae32c763fc66c37", func := "wayfinder/wayfinderlaw04.HeadingVectors", spec := "headingVectors", unfollowed := true, recurses := true, apart := false, narrowed := true }
def HeadingVectorsUptoSaid : Prop := headingVectorsUptoRow.holds Try.pinned (OpenSpec.upto headingVectorsSpec)

/-- 'wayfinderlaw04.HeadingCompares', WHERE WHAT IT READS IS OF BULK AT MOST 1048576: true; the input reads as it did. -/
def headingComparesUptoRow : OpenClaim := { program := "ytnbgegapncdkjaa", sum := "46bbd48104f83397ef8dd442c34c59ffecbce791e0986518aae32c763fc66c37", func := "wayfinder/wayfinderlaw04.HeadingCompares", spec := "headingCompares", unfollowed := true, recurses := true, apart := false, narrowed := true }
def HeadingComparesUptoSaid : Prop := headingComparesUptoRow.holds Try.pinned (OpenSpec.upto headingComparesSpec)

/-- 'wayfinderlaw04.HeadingMoves', WHERE WHAT IT READS IS OF BULK AT MOST 1048576: true; the input reads as it did. -/
def headingMovesUptoRow : OpenClaim := { program := "ytnbgegapncdkjaa", sum := "46bbd48104f83397ef8dd442c34c59ffecbce791e0986518aae32c763fc66c37", func := "wayfinder/wayfinderlaw04.HeadingMoves", spec := "headingMoves", unfollowed := true, recurses := true, apart := false, narrowed := true }
def HeadingMovesUptoSaid : Prop := headingMovesUptoRow.holds Try.pinned (OpenSpec.upto headingMovesSpec)

/-- 'wayfinderlaw23.PredictMarks', WHERE WHAT IT READS IS OF BULK AT MOST 1048576: true; the input reads as it did. -/
def predictMarksUptoRow : OpenClaim := { program := "ytnbgegapncdkjaa", sum := "46bbd48104f83397ef8dd442c34c59ffecbce791e0986518aae32c763fc66c37", func := "wayfinder/wayfinderlaw23.PredictMarks", spec := "predictMarks", unfollowed := true, recurses := true, apart := false, narrowed := true }
def PredictMarksUptoSaid : Prop := predictMarksUptoRow.holds Try.pinned (OpenSpec.upto predictMarksSpec)

/-- 'wayfinderlaw23.PredictBoxes', WHERE WHAT IT READS IS OF BULK AT MOST 1048576: true; the input reads as it did. -/
def predictBoxesUptoRow : OpenClaim := { program := "ytnbgegapncdkjaa", sum := "46bbd48104f83397ef8dd442c34c59ffecbce791e0986518aae32c763fc66c37", func := "wayfinder/wayfinderlaw23.PredictBoxes", spec := "predictBoxes", unfollowed := true, recurses := true, apart := false, narrowed := true }
def PredictBoxesUptoSaid : Prop := predictBoxesUptoRow.holds Try.pinned (OpenSpec.upto predictBoxesSpec)

/-- 'wayfinderlaw04.HeadingMeets', WHERE WHAT IT READS IS OF BULK AT MOST 1048576: true; the input reads as it did. -/
def headingMeetsUptoRow : OpenClaim := { program := "ytnbgegapncdkjaa", sum := "46bbd48104f83397ef8dd442c34c59ffecbce791e0986518aae32c763fc66c37", func := "wayfinder/wayfinderlaw04.HeadingMeets", spec := "headingMeets", unfollowed := true, recurses := true, apart := false, narrowed := true }
def HeadingMeetsUptoSaid : Prop := headingMeetsUptoRow.holds Try.pinned (OpenSpec.upto headingMeetsSpec)

/-- 'wayfinderlaw06.BoxCovers', WHERE WHAT IT READS IS OF BULK AT MOST 1048576: true; the input reads as it did. -/
def boxCoversUptoRow : OpenClaim := { program := "ytnbgegapncdkjaa", sum := "46bbd48104f83397ef8dd442c34c59ffecbce791e0986518aae32c763fc66c37", func := "wayfinder/wayfinderlaw06.BoxCovers", spec := "boxCovers", unfollowed := true, recurses := true, apart := false, narrowed := true }
def BoxCoversUptoSaid : Prop := boxCoversUptoRow.holds Try.pinned (OpenSpec.upto boxCoversSpec)

/-- 'wayfinderlaw23.PredictHolds', WHERE WHAT IT READS IS OF BULK AT MOST 1048576: true; the input reads as it did. -/
def predictHoldsUptoRow : OpenClaim := { program := "ytnbgegapncdkjaa", sum := "46bbd48104f83397ef8dd442c34c59ffecbce791e0986518aae32c763fc66c37", func := "wayfinder/wayfinderlaw23.PredictHolds", spec := "predictHolds", unfollowed := true, recurses := true, apart := false, narrowed := true }
def PredictHoldsUptoSaid : Prop := predictHoldsUptoRow.holds Try.pinned (OpenSpec.upto predictHoldsSpec)

end Rows
end Go.Proofs.Ytnbgegapncdkjaa
