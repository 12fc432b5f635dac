/-
  No cell of these rows narrows 'for every input' (looked for: loops, veiled, ifaces, maps, wideKeys, modest, calm, conditions, laid).
  DERIVED. THE GIVEN ROWS OF THIS SEAT. 16 by the template 'for every input the law returns true; each argument reads behind the call as it read before'; 0 by the template 'total and deterministic' (their statements: YtokhaefcnbiadaaTotals.lean).
  GIVEN WITH THE SEED: the statements are not yours to turn. If you find one false, say at which input.
  Laid BY PROGRAM, IN A SANDBOX (cutbox-rows.mjs): the forced cells as the released guide's own fill.sh prints them over the translation 372c87c576ca19a5… (all of the seat's roots in one cut). By AI agents, Wed Nov 11 2026. No macro, syntax, notation, axiom, sorry.
-/
import Derived.Test.YtokhaefcnbiadaaChecked
import GoSem.Claim
import GoSem.ClaimJoined
import GoSem.ClaimMapViews
import Derived.JoinedTies
import Derived.KernelRfl
namespace Go.Proofs.Ytokhaefcnbiadaa
/- THE CELL 'sum', in the pinned program and in every row, IS THE sha256 OF THE DUMP (.gsa) THAT YtokhaefcnbiadaaProg.lean LOADS. Nothing in Lean hashes anything: it is a label: what it is worth is what the hold of that sum in a sandbox is worth. -/
noncomputable def Try.pinned : Pinned := { name := "ytokhaefcnbiadaa", sum := "372c87c576ca19a5f378616f72185496d333ebfed20e9d7298d5b179386e13e6", checked := Try.checked }
namespace Rows
def none {H : Type} : Left H := { results := [], args := [] }

/-- 'wayfindertop.WholeCertificate': WHATEVER THE INPUT: true; the input reads as it did. -/
def wholeCertificateSpec : ChangeSpec := { name := "wholeCertificate", fn := fun _ => fun
  | [d1, d2, d3] => { results := [.lit (.bool true)], args := [d1, d2, d3] }
  | _ => none }
def wholeCertificateRow : OpenClaim := { program := "ytokhaefcnbiadaa", sum := "372c87c576ca19a5f378616f72185496d333ebfed20e9d7298d5b179386e13e6", func := "wayfinder/wayfindertop.WholeCertificate", spec := "wholeCertificate", unfollowed := true, recurses := true, apart := false }
def WholeCertificateSaid : Prop := wholeCertificateRow.holds Try.pinned (OpenSpec.ofChange wholeCertificateSpec)

/-- ITS FALSE NEIGHBOUR: 'it returns false'. Refute it at one input. -/
def wholeCertificateWrong : ChangeSpec := { name := "wholeCertificate", fn := fun _ => fun
  | [d1, d2, d3] => { results := [.lit (.bool false)], args := [d1, d2, d3] }
  | _ => none }
def WholeCertificateWrongFalsely : Prop := wholeCertificateRow.holds Try.pinned (OpenSpec.ofChange wholeCertificateWrong)

/-- 'wayfinderlaw20.CertifyChecks': WHATEVER THE INPUT: true; the input reads as it did. -/
def certifyChecksSpec : ChangeSpec := { name := "certifyChecks", fn := fun _ => fun
  | [d1, d2] => { results := [.lit (.bool true)], args := [d1, d2] }
  | _ => none }
def certifyChecksRow : OpenClaim := { program := "ytokhaefcnbiadaa", sum := "372c87c576ca19a5f378616f72185496d333ebfed20e9d7298d5b179386e13e6", func := "wayfinder/wayfinderlaw20.CertifyChecks", spec := "certifyChecks", apart := false }
def CertifyChecksSaid : Prop := certifyChecksRow.holds Try.pinned (OpenSpec.ofChange certifyChecksSpec)

/-- ITS FALSE NEIGHBOUR: 'it returns false'. Refute it at one input. -/
def certifyChecksWrong : ChangeSpec := { name := "certifyChecks", fn := fun _ => fun
  | [d1, d2] => { results := [.lit (.bool false)], args := [d1, d2] }
  | _ => none }
def CertifyChecksWrongFalsely : Prop := certifyChecksRow.holds Try.pinned (OpenSpec.ofChange certifyChecksWrong)

/-- 'wayfinderlaw20.CertifyTrivial': WHATEVER THE INPUT: true; the input reads as it did. -/
def certifyTrivialSpec : ChangeSpec := { name := "certifyTrivial", fn := fun _ => fun
  | [d1, d2, d3] => { results := [.lit (.bool true)], args := [d1, d2, d3] }
  | _ => none }
def certifyTrivialRow : OpenClaim := { program := "ytokhaefcnbiadaa", sum := "372c87c576ca19a5f378616f72185496d333ebfed20e9d7298d5b179386e13e6", func := "wayfinder/wayfinderlaw20.CertifyTrivial", spec := "certifyTrivial", apart := false }
def CertifyTrivialSaid : Prop := certifyTrivialRow.holds Try.pinned (OpenSpec.ofChange certifyTrivialSpec)

/-- ITS FALSE NEIGHBOUR: 'it returns false'. Refute it at one input. -/
def certifyTrivialWrong : ChangeSpec := { name := "certifyTrivial", fn := fun _ => fun
  | [d1, d2, d3] => { results := [.lit (.bool false)], args := [d1, d2, d3] }
  | _ => none }
def CertifyTrivialWrongFalsely : Prop := certifyTrivialRow.holds Try.pinned (OpenSpec.ofChange certifyTrivialWrong)

/-- 'wayfinderlaw20.CertifySound': WHATEVER THE INPUT: true; the input reads as it did. -/
def certifySoundSpec : ChangeSpec := { name := "certifySound", fn := fun _ => fun
  | [d1, d2, d3] => { results := [.lit (.bool true)], args := [d1, d2, d3] }
  | _ => none }
def certifySoundRow : OpenClaim := { program := "ytokhaefcnbiadaa", sum := "372c87c576ca19a5f378616f72185496d333ebfed20e9d7298d5b179386e13e6", func := "wayfinder/wayfinderlaw20.CertifySound", spec := "certifySound", apart := false }
def CertifySoundSaid : Prop := certifySoundRow.holds Try.pinned (OpenSpec.ofChange certifySoundSpec)

/-- ITS FALSE NEIGHBOUR: 'it returns false'. Refute it at one input. -/
def certifySoundWrong : ChangeSpec := { name := "certifySound", fn := fun _ => fun
  | [d1, d2, d3] => { results := [.lit (.bool false)], args := [d1, d2, d3] }
  | _ => none }
def CertifySoundWrongFalsely : Prop := certifySoundRow.holds Try.pinned (OpenSpec.ofChange certifySoundWrong)

/-- 'wayfinderlaw20.CertifyAdds': WHATEVER THE INPUT: true; the input reads as it did. -/
def certifyAddsSpec : ChangeSpec := { name := "certifyAdds", fn := fun _ => fun
  | [d1, d2, d3] => { results := [.lit (.bool true)], args := [d1, d2, d3] }
  | _ => none }
def certifyAddsRow : OpenClaim := { program := "ytokhaefcnbiadaa", sum := "372c87c576ca19a5f378616f72185496d333ebfed20e9d7298d5b179386e13e6", func := "wayfinder/wayfinderlaw20.CertifyAdds", spec := "certifyAdds", apart := false }
def CertifyAddsSaid : Prop := certifyAddsRow.holds Try.pinned (OpenSpec.ofChange certifyAddsSpec)

/-- ITS FALSE NEIGHBOUR: 'it returns false'. Refute it at one input. -/
def certifyAddsWrong : ChangeSpec := { name := "certifyAdds", fn := fun _ => fun
  | [d1, d2, d3] => { results := [.lit (.bool false)], args := [d1, d2, d3] }
  | _ => none }
def CertifyAddsWrongFalsely : Prop := certifyAddsRow.holds Try.pinned (OpenSpec.ofChange certifyAddsWrong)

/-- 'wayfinderlaw20.CertifyForged': WHATEVER THE INPUT: true; the input reads as it did. -/
def certifyForgedSpec : ChangeSpec := { name := "certifyForged", fn := fun _ => fun
  | [d1, d2, d3] => { results := [.lit (.bool true)], args := [d1, d2, d3] }
  | _ => none }
def certifyForgedRow : OpenClaim := { program := "ytokhaefcnbiadaa", sum := "372c87c576ca19a5f378616f72185496d333ebfed20e9d7298d5b179386e13e6", func := "wayfinder/wayfinderlaw20.CertifyForged", spec := "certifyForged", apart := false }
def CertifyForgedSaid : Prop := certifyForgedRow.holds Try.pinned (OpenSpec.ofChange certifyForgedSpec)

/-- ITS FALSE NEIGHBOUR: 'it returns false'. Refute it at one input. -/
def certifyForgedWrong : ChangeSpec := { name := "certifyForged", fn := fun _ => fun
  | [d1, d2, d3] => { results := [.lit (.bool false)], args := [d1, d2, d3] }
  | _ => none }
def CertifyForgedWrongFalsely : Prop := certifyForgedRow.holds Try.pinned (OpenSpec.ofChange certifyForgedWrong)

/-- 'wayfinderlaw19.MatchEnds': WHATEVER THE INPUT: true; the input reads as it did. -/
def matchEndsSpec : ChangeSpec := { name := "matchEnds", fn := fun _ => fun
  | [d1, d2] => { results := [.lit (.bool true)], args := [d1, d2] }
  | _ => none }
def matchEndsRow : OpenClaim := { program := "ytokhaefcnbiadaa", sum := "372c87c576ca19a5f378616f72185496d333ebfed20e9d7298d5b179386e13e6", func := "wayfinder/wayfinderlaw19.MatchEnds", spec := "matchEnds", unfollowed := true, recurses := true, apart := false }
def MatchEndsSaid : Prop := matchEndsRow.holds Try.pinned (OpenSpec.ofChange matchEndsSpec)

/-- ITS FALSE NEIGHBOUR: 'it returns false'. Refute it at one input. -/
def matchEndsWrong : ChangeSpec := { name := "matchEnds", fn := fun _ => fun
  | [d1, d2] => { results := [.lit (.bool false)], args := [d1, d2] }
  | _ => none }
def MatchEndsWrongFalsely : Prop := matchEndsRow.holds Try.pinned (OpenSpec.ofChange matchEndsWrong)

/-- 'wayfinderlaw19.MatchScores': WHATEVER THE INPUT: true; the input reads as it did. -/
def matchScoresSpec : ChangeSpec := { name := "matchScores", fn := fun _ => fun
  | [d1, d2] => { results := [.lit (.bool true)], args := [d1, d2] }
  | _ => none }
def matchScoresRow : OpenClaim := { program := "ytokhaefcnbiadaa", sum := "372c87c576ca19a5f378616f72185496d333ebfed20e9d7298d5b179386e13e6", func := "wayfinder/wayfinderlaw19.MatchScores", spec := "matchScores", unfollowed := true, recurses := true, apart := false }
def MatchScoresSaid : Prop := matchScoresRow.holds Try.pinned (OpenSpec.ofChange matchScoresSpec)

/-- ITS FALSE NEIGHBOUR: 'it returns false'. Refute it at one input. -/
def matchScoresWrong : ChangeSpec := { name := "matchScores", fn := fun _ => fun
  | [d1, d2] => { results := [.lit (.bool false)], args := [d1, d2] }
  | _ => none }
def MatchScoresWrongFalsely : Prop := matchScoresRow.holds Try.pinned (OpenSpec.ofChange matchScoresWrong)

/-- 'wayfinderlaw19.MatchBounds': WHATEVER THE INPUT: true; the input reads as it did. -/
def matchBoundsSpec : ChangeSpec := { name := "matchBounds", fn := fun _ => fun
  | [d1, d2, d3] => { results := [.lit (.bool true)], args := [d1, d2, d3] }
  | _ => none }
def matchBoundsRow : OpenClaim := { program := "ytokhaefcnbiadaa", sum := "372c87c576ca19a5f378616f72185496d333ebfed20e9d7298d5b179386e13e6", func := "wayfinder/wayfinderlaw19.MatchBounds", spec := "matchBounds", unfollowed := true, recurses := true, apart := false }
def MatchBoundsSaid : Prop := matchBoundsRow.holds Try.pinned (OpenSpec.ofChange matchBoundsSpec)

/-- ITS FALSE NEIGHBOUR: 'it returns false'. Refute it at one input. -/
def matchBoundsWrong : ChangeSpec := { name := "matchBounds", fn := fun _ => fun
  | [d1, d2, d3] => { results := [.lit (.bool false)], args := [d1, d2, d3] }
  | _ => none }
def MatchBoundsWrongFalsely : Prop := matchBoundsRow.holds Try.pinned (OpenSpec.ofChange matchBoundsWrong)

/-- 'wayfinderlaw19.MatchFinds': WHATEVER THE INPUT: true; the input reads as it did. -/
def matchFindsSpec : ChangeSpec := { name := "matchFinds", fn := fun _ => fun
  | [d] => { results := [.lit (.bool true)], args := [d] }
  | _ => none }
def matchFindsRow : OpenClaim := { program := "ytokhaefcnbiadaa", sum := "372c87c576ca19a5f378616f72185496d333ebfed20e9d7298d5b179386e13e6", func := "wayfinder/wayfinderlaw19.MatchFinds", spec := "matchFinds", unfollowed := true, recurses := true, apart := false }
def MatchFindsSaid : Prop := matchFindsRow.holds Try.pinned (OpenSpec.ofChange matchFindsSpec)

/-- ITS FALSE NEIGHBOUR: 'it returns false'. Refute it at one input. -/
def matchFindsWrong : ChangeSpec := { name := "matchFinds", fn := fun _ => fun
  | [d] => { results := [.lit (.bool false)], args := [d] }
  | _ => none }
def MatchFindsWrongFalsely : Prop := matchFindsRow.holds Try.pinned (OpenSpec.ofChange matchFindsWrong)

/-- 'wayfinderlaw19.MatchBest': WHATEVER THE INPUT: true; the input reads as it did. -/
def matchBestSpec : ChangeSpec := { name := "matchBest", fn := fun _ => fun
  | [d1, d2] => { results := [.lit (.bool true)], args := [d1, d2] }
  | _ => none }
def matchBestRow : OpenClaim := { program := "ytokhaefcnbiadaa", sum := "372c87c576ca19a5f378616f72185496d333ebfed20e9d7298d5b179386e13e6", func := "wayfinder/wayfinderlaw19.MatchBest", spec := "matchBest", unfollowed := true, recurses := true, apart := false }
def MatchBestSaid : Prop := matchBestRow.holds Try.pinned (OpenSpec.ofChange matchBestSpec)

/-- ITS FALSE NEIGHBOUR: 'it returns false'. Refute it at one input. -/
def matchBestWrong : ChangeSpec := { name := "matchBest", fn := fun _ => fun
  | [d1, d2] => { results := [.lit (.bool false)], args := [d1, d2] }
  | _ => none }
def MatchBestWrongFalsely : Prop := matchBestRow.holds Try.pinned (OpenSpec.ofChange matchBestWrong)

/-- 'wayfinderlaw19.MatchCertifies': WHATEVER THE INPUT: true; the input reads as it did. -/
def matchCertifiesSpec : ChangeSpec := { name := "matchCertifies", fn := fun _ => fun
  | [d] => { results := [.lit (.bool true)], args := [d] }
  | _ => none }
def matchCertifiesRow : OpenClaim := { program := "ytokhaefcnbiadaa", sum := "372c87c576ca19a5f378616f72185496d333ebfed20e9d7298d5b179386e13e6", func := "wayfinder/wayfinderlaw19.MatchCertifies", spec := "matchCertifies", unfollowed := true, recurses := true, apart := false }
def MatchCertifiesSaid : Prop := matchCertifiesRow.holds Try.pinned (OpenSpec.ofChange matchCertifiesSpec)

/-- ITS FALSE NEIGHBOUR: 'it returns false'. Refute it at one input. -/
def matchCertifiesWrong : ChangeSpec := { name := "matchCertifies", fn := fun _ => fun
  | [d] => { results := [.lit (.bool false)], args := [d] }
  | _ => none }
def MatchCertifiesWrongFalsely : Prop := matchCertifiesRow.holds Try.pinned (OpenSpec.ofChange matchCertifiesWrong)

/-- 'wayfinderlaw19.MatchShifts': WHATEVER THE INPUT: true; the input reads as it did. -/
def matchShiftsSpec : ChangeSpec := { name := "matchShifts", fn := fun _ => fun
  | [d1, d2, d3] => { results := [.lit (.bool true)], args := [d1, d2, d3] }
  | _ => none }
def matchShiftsRow : OpenClaim := { program := "ytokhaefcnbiadaa", sum := "372c87c576ca19a5f378616f72185496d333ebfed20e9d7298d5b179386e13e6", func := "wayfinder/wayfinderlaw19.MatchShifts", spec := "matchShifts", unfollowed := true, recurses := true, apart := false }
def MatchShiftsSaid : Prop := matchShiftsRow.holds Try.pinned (OpenSpec.ofChange matchShiftsSpec)

/-- ITS FALSE NEIGHBOUR: 'it returns false'. Refute it at one input. -/
def matchShiftsWrong : ChangeSpec := { name := "matchShifts", fn := fun _ => fun
  | [d1, d2, d3] => { results := [.lit (.bool false)], args := [d1, d2, d3] }
  | _ => none }
def MatchShiftsWrongFalsely : Prop := matchShiftsRow.holds Try.pinned (OpenSpec.ofChange matchShiftsWrong)

/-- 'wayfinderlaw19.MatchBetter': WHATEVER THE INPUT: true; the input reads as it did. -/
def matchBetterSpec : ChangeSpec := { name := "matchBetter", fn := fun _ => fun
  | [d1, d2, d3] => { results := [.lit (.bool true)], args := [d1, d2, d3] }
  | _ => none }
def matchBetterRow : OpenClaim := { program := "ytokhaefcnbiadaa", sum := "372c87c576ca19a5f378616f72185496d333ebfed20e9d7298d5b179386e13e6", func := "wayfinder/wayfinderlaw19.MatchBetter", spec := "matchBetter", unfollowed := true, recurses := true, apart := false }
def MatchBetterSaid : Prop := matchBetterRow.holds Try.pinned (OpenSpec.ofChange matchBetterSpec)

/-- ITS FALSE NEIGHBOUR: 'it returns false'. Refute it at one input. -/
def matchBetterWrong : ChangeSpec := { name := "matchBetter", fn := fun _ => fun
  | [d1, d2, d3] => { results := [.lit (.bool false)], args := [d1, d2, d3] }
  | _ => none }
def MatchBetterWrongFalsely : Prop := matchBetterRow.holds Try.pinned (OpenSpec.ofChange matchBetterWrong)

/-- 'wayfinderlaw19.MatchEmpty': WHATEVER THE INPUT: true; the input reads as it did. -/
def matchEmptySpec : ChangeSpec := { name := "matchEmpty", fn := fun _ => fun
  | [d1, d2] => { results := [.lit (.bool true)], args := [d1, d2] }
  | _ => none }
def matchEmptyRow : OpenClaim := { program := "ytokhaefcnbiadaa", sum := "372c87c576ca19a5f378616f72185496d333ebfed20e9d7298d5b179386e13e6", func := "wayfinder/wayfinderlaw19.MatchEmpty", spec := "matchEmpty", unfollowed := true, recurses := true, apart := false }
def MatchEmptySaid : Prop := matchEmptyRow.holds Try.pinned (OpenSpec.ofChange matchEmptySpec)

/-- ITS FALSE NEIGHBOUR: 'it returns false'. Refute it at one input. -/
def matchEmptyWrong : ChangeSpec := { name := "matchEmpty", fn := fun _ => fun
  | [d1, d2] => { results := [.lit (.bool false)], args := [d1, d2] }
  | _ => none }
def MatchEmptyWrongFalsely : Prop := matchEmptyRow.holds Try.pinned (OpenSpec.ofChange matchEmptyWrong)

/-- 'wayfinderlaw20.CertifyFound': WHATEVER THE INPUT: true; the input reads as it did. -/
def certifyFoundSpec : ChangeSpec := { name := "certifyFound", fn := fun _ => fun
  | [d1, d2] => { results := [.lit (.bool true)], args := [d1, d2] }
  | _ => none }
def certifyFoundRow : OpenClaim := { program := "ytokhaefcnbiadaa", sum := "372c87c576ca19a5f378616f72185496d333ebfed20e9d7298d5b179386e13e6", func := "wayfinder/wayfinderlaw20.CertifyFound", spec := "certifyFound", unfollowed := true, recurses := true, apart := false }
def CertifyFoundSaid : Prop := certifyFoundRow.holds Try.pinned (OpenSpec.ofChange certifyFoundSpec)

/-- ITS FALSE NEIGHBOUR: 'it returns false'. Refute it at one input. -/
def certifyFoundWrong : ChangeSpec := { name := "certifyFound", fn := fun _ => fun
  | [d1, d2] => { results := [.lit (.bool false)], args := [d1, d2] }
  | _ => none }
def CertifyFoundWrongFalsely : Prop := certifyFoundRow.holds Try.pinned (OpenSpec.ofChange certifyFoundWrong)

/- THE SECOND FORM. 'bulk': how many values and letters a reading holds, each counted each time it is reached (what is shared counts as often as it is met; a slice's spare places count too). A statement '..UptoSaid' is the law's where the arguments, and the package variables that the reading takes, are together of bulk at most 1048576: NARROWER than '..Said'. Prove '..Said' where nothing that the law and all that it calls make is longer than what came in: it says more and counts as full. Else prove '..UptoSaid'. A law counts once. -/
mutual
def uptoBulk {H : Type} : DataW H → Nat
  | .lit (.string bytes) => bytes.length + 1
  | .lit _ => 1
  | .nil => 1
  | .ptr d => uptoBulk d + 1
  | .slice elems spare => uptoBulkAll elems + uptoBulkAll spare + 1
  | .agg parts => uptoBulkAll parts + 1
  | .iface _ d => uptoBulk d + 1
  | .map entries => uptoBulkEntries entries + 1
  | .held _ => 1
def uptoBulkAll {H : Type} : List (DataW H) → Nat
  | [] => 0
  | d :: r => uptoBulk d + uptoBulkAll r
def uptoBulkEntries {H : Type} : List (Lit × DataW H) → Nat
  | [] => 0
  | x :: r => uptoBulkEntry x + uptoBulkEntries r
def uptoBulkEntry {H : Type} : Lit × DataW H → Nat
  | (.string bytes, d) => bytes.length + uptoBulk d + 1
  | (_, d) => uptoBulk d + 1
 end
def uptoSmall : (H : Type) → List (DataW H) → Bool := fun _ ds => decide (uptoBulkAll ds ≤ 1048576)
def OpenSpec.upto (s : _root_.Go.ChangeSpec) : _root_.Go.OpenSpec := { _root_.Go.OpenSpec.ofChange s with cond := some uptoSmall }

/-- 'wayfindertop.WholeCertificate', WHERE WHAT IT READS IS OF BULK AT MOST 1048576: true; the input reads as it did. -/
def wholeCertificateUptoRow : OpenClaim := { program := "ytokhaefcnbiadaa", sum := "372c87c576ca19a5f378616f72185496d333ebfed20e9d7298d5b179386e13e6", func := "wayfinder/wayfindertop.WholeCertificate", spec := "wholeCertificate", unfollowed := true, recurses := true, apart := false, narrowed := true }
def WholeCertificateUptoSaid : Prop := wholeCertificateUptoRow.holds Try.pinned (OpenSpec.upto wholeCertificateSpec)

/-- 'wayfinderlaw20.CertifyChecks', WHERE WHAT IT READS IS OF BULK AT MOST 1048576: true; the input reads as it did. -/
def certifyChecksUptoRow : OpenClaim := { program := "ytokhaefcnbiadaa", sum := "372c87c576ca19a5f378616f72185496d333ebfed20e9d7298d5b179386e13e6", func := "wayfinder/wayfinderlaw20.CertifyChecks", spec := "certifyChecks", apart := false, narrowed := true }
def CertifyChecksUptoSaid : Prop := certifyChecksUptoRow.holds Try.pinned (OpenSpec.upto certifyChecksSpec)

/-- 'wayfinderlaw20.CertifyTrivial', WHERE WHAT IT READS IS OF BULK AT MOST 1048576: true; the input reads as it did. -/
def certifyTrivialUptoRow : OpenClaim := { program := "ytokhaefcnbiadaa", sum := "372c87c576ca19a5f378616f72185496d333ebfed20e9d7298d5b179386e13e6", func := "wayfinder/wayfinderlaw20.CertifyTrivial", spec := "certifyTrivial", apart := false, narrowed := true }
def CertifyTrivialUptoSaid : Prop := certifyTrivialUptoRow.holds Try.pinned (OpenSpec.upto certifyTrivialSpec)

/-- 'wayfinderlaw20.CertifySound', WHERE WHAT IT READS IS OF BULK AT MOST 1048576: true; the input reads as it did. -/
def certifySoundUptoRow : OpenClaim := { program := "ytokhaefcnbiadaa", sum := "372c87c576ca19a5f378616f72185496d333ebfed20e9d7298d5b179386e13e6", func := "wayfinder/wayfinderlaw20.CertifySound", spec := "certifySound", apart := false, narrowed := true }
def CertifySoundUptoSaid : Prop := certifySoundUptoRow.holds Try.pinned (OpenSpec.upto certifySoundSpec)

/-- 'wayfinderlaw20.CertifyAdds', WHERE WHAT IT READS IS OF BULK AT MOST 1048576: true; the input reads as it did. -/
def certifyAddsUptoRow : OpenClaim := { program := "ytokhaefcnbiadaa", sum := "372c87c576ca19a5f378616f72185496d333ebfed20e9d7298d5b179386e13e6", func := "wayfinder/wayfinderlaw20.CertifyAdds", spec := "certifyAdds", apart := false, narrowed := true }
def CertifyAddsUptoSaid : Prop := certifyAddsUptoRow.holds Try.pinned (OpenSpec.upto certifyAddsSpec)

/-- 'wayfinderlaw20.CertifyForged', WHERE WHAT IT READS IS OF BULK AT MOST 1048576: true; the input reads as it did. -/
def certifyForgedUptoRow : OpenClaim := { program := "ytokhaefcnbiadaa", sum := "372c87c576ca19a5f378616f72185496d333ebfed20e9d7298d5b179386e13e6", func := "wayfinder/wayfinderlaw20.CertifyForged", spec := "certifyForged", apart := false, narrowed := true }
def CertifyForgedUptoSaid : Prop := certifyForgedUptoRow.holds Try.pinned (OpenSpec.upto certifyForgedSpec)

/-- 'wayfinderlaw19.MatchEnds', WHERE WHAT IT READS IS OF BULK AT MOST 1048576: true; the input reads as it did. -/
def matchEndsUptoRow : OpenClaim := { program := "ytokhaefcnbiadaa", sum := "372c87c576ca19a5f378616f72185496d333ebfed20e9d7298d5b179386e13e6", func := "wayfinder/wayfinderlaw19.MatchEnds", spec := "matchEnds", unfollowed := true, recurses := true, apart := false, narrowed := true }
def MatchEndsUptoSaid : Prop := matchEndsUptoRow.holds Try.pinned (OpenSpec.upto matchEndsSpec)

/-- 'wayfinderlaw19.MatchScores', WHERE WHAT IT READS IS OF BULK AT MOST 1048576: true; the input reads as it did. -/
def matchScoresUptoRow : OpenClaim := { program := "ytokhaefcnbiadaa", sum := "372c87c576ca19a5f378616f72185496d333ebfed20e9d7298d5b179386e13e6", func := "wayfinder/wayfinderlaw19.MatchScores", spec := "matchScores", unfollowed := true, recurses := true, apart := false, narrowed := true }
def MatchScoresUptoSaid : Prop := matchScoresUptoRow.holds Try.pinned (OpenSpec.upto matchScoresSpec)

/-- 'wayfinderlaw19.MatchBounds', WHERE WHAT IT READS IS OF BULK AT MOST 1048576: true; the input reads as it did. -/
def matchBoundsUptoRow : OpenClaim := { program := "ytokhaefcnbiadaa", sum := "372c87c576ca19a5f378616f72185496d333ebfed20e9d7298d5b179386e13e6", func := "wayfinder/wayfinderlaw19.MatchBounds", spec := "matchBounds", unfollowed := true, recurses := true, apart := false, narrowed := true }
def MatchBoundsUptoSaid : Prop := matchBoundsUptoRow.holds Try.pinned (OpenSpec.upto matchBoundsSpec)

/-- 'wayfinderlaw19.MatchFinds', WHERE WHAT IT READS IS OF BULK AT MOST 1048576: true; the input reads as it did. -/
def matchFindsUptoRow : OpenClaim := { program := "ytokhaefcnbiadaa", sum := "372c87c576ca19a5f378616f72185496d333ebfed20e9d7298d5b179386e13e6", func := "wayfinder/wayfinderlaw19.MatchFinds", spec := "matchFinds", unfollowed := true, recurses := true, apart := false, narrowed := true }
def MatchFindsUptoSaid : Prop := matchFindsUptoRow.holds Try.pinned (OpenSpec.upto matchFindsSpec)

/-- 'wayfinderlaw19.MatchBest', WHERE WHAT IT READS IS OF BULK AT MOST 1048576: true; the input reads as it did. -/
def matchBestUptoRow : OpenClaim := { program := "ytokhaefcnbiadaa", sum := "372c87c576ca19a5f378616f72185496d333ebfed20e9d7298d5b179386e13e6", func := "wayfinder/wayfinderlaw19.MatchBest", spec := "matchBest", unfollowed := true, recurses := true, apart := false, narrowed := true }
def MatchBestUptoSaid : Prop := matchBestUptoRow.holds Try.pinned (OpenSpec.upto matchBestSpec)

/-- 'wayfinderlaw19.MatchCertifies', WHERE WHAT IT READS IS OF BULK AT MOST 1048576: true; the input reads as it did. -/
def matchCertifiesUptoRow : OpenClaim := { program := "ytokhaefcnbiadaa", sum := "372c87c576ca19a5f378616f72185496d333ebfed20e9d7298d5b179386e13e6", func := "wayfinder/wayfinderlaw19.MatchCertifies", spec := "matchCertifies", unfollowed := true, recurses := true, apart := false, narrowed := true }
def MatchCertifiesUptoSaid : Prop := matchCertifiesUptoRow.holds Try.pinned (OpenSpec.upto matchCertifiesSpec)

/-- 'wayfinderlaw19.MatchShifts', WHERE WHAT IT READS IS OF BULK AT MOST 1048576: true; the input reads as it did. -/
def matchShiftsUptoRow : OpenClaim := { program := "ytokhaefcnbiadaa", sum := "372c87c576ca19a5f378616f72185496d333ebfed20e9d7298d5b179386e13e6", func := "wayfinder/wayfinderlaw19.MatchShifts", spec := "matchShifts", unfollowed := true, recurses := true, apart := false, narrowed := true }
def MatchShiftsUptoSaid : Prop := matchShiftsUptoRow.holds Try.pinned (OpenSpec.upto matchShiftsSpec)

/-- 'wayfinderlaw19.MatchBetter', WHERE WHAT IT READS IS OF BULK AT MOST 1048576: true; the input reads as it did. -/
def matchBetterUptoRow : OpenClaim := { program := "ytokhaefcnbiadaa", sum := "372c87c576ca19a5f378616f72185496d333ebfed20e9d7298d5b179386e13e6", func := "wayfinder/wayfinderlaw19.MatchBetter", spec := "matchBetter", unfollowed := true, recurses := true, apart := false, narrowed := true }
def MatchBetterUptoSaid : Prop := matchBetterUptoRow.holds Try.pinned (OpenSpec.upto matchBetterSpec)

/-- 'wayfinderlaw19.MatchEmpty', WHERE WHAT IT READS IS OF BULK AT MOST 1048576: true; the input reads as it did. -/
def matchEmptyUptoRow : OpenClaim := { program := "ytokhaefcnbiadaa", sum := "372c87c576ca19a5f378616f72185496d333ebfed20e9d7298d5b179386e13e6", func := "wayfinder/wayfinderlaw19.MatchEmpty", spec := "matchEmpty", unfollowed := true, recurses := true, apart := false, narrowed := true }
def MatchEmptyUptoSaid : Prop := matchEmptyUptoRow.holds Try.pinned (OpenSpec.upto matchEmptySpec)

/-- 'wayfinderlaw20.CertifyFound', WHERE WHAT IT READS IS OF BULK AT MOST 1048576: true; the input reads as it did. -/
def certifyFoundUptoRow : OpenClaim := { program := "ytokhaefcnbiadaa", sum := "372c87c576ca19a5f378616f72185496d333ebfed20e9d7298d5b179386e13e6", func := "wayfinder/wayfinderlaw20.CertifyFound", spec := "certifyFound", unfollowed := true, recurses := true, apart := false, narrowed := true }
def CertifyFoundUptoSaid : Prop := certifyFoundUptoRow.holds Try.pinned (OpenSpec.upto certifyFoundSpec)

end Rows
end Go.Proofs.Ytokhaefcnbiadaa
