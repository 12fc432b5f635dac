import Derived.Test.YtokhaefcnbiadaaH1
import Derived.Test.YtokhaefcnbiadaaPB
set_option linter.all false
namespace Go.Proofs.Ytokhaefcnbiadaa
open Go Go.K
end Go.Proofs.Ytokhaefcnbiadaa
