import Derived.Test.YtmpmggbcmioipaaK15
set_option linter.all false
namespace Go.Proofs.Ytmpmggbcmioipaa
open Go Go.K
theorem u8b {n : Int} (hn : inKind .u8 n) : 0 ≤ n ∧ n ≤ 255 := by
  simp [inKind, IntKind.min, IntKind.max, IntKind.signed, IntKind.bits] at hn; omega
theorem i8b {n : Int} (hn : inKind .i8 n) : -128 ≤ n ∧ n ≤ 127 := by
  simp [inKind, IntKind.min, IntKind.max, IntKind.signed, IntKind.bits] at hn; omega
end Go.Proofs.Ytmpmggbcmioipaa
