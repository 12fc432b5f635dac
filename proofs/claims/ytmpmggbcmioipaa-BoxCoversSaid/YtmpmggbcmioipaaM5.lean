import Derived.Test.YtmpmggbcmioipaaM4
set_option linter.all false
namespace Go.Proofs.Ytmpmggbcmioipaa
open Go Go.K
set_option maxRecDepth 20000
set_option maxHeartbeats 4000000
end Go.Proofs.Ytmpmggbcmioipaa
