/- The laws' comparisons of the two queues. -/
import Derived.Test.YtjamgdepbjipdaaRef4
namespace Go.Proofs.Ytjamgdepbjipdaa.B
open Go
set_option linter.unusedVariables false

end Go.Proofs.Ytjamgdepbjipdaa.B
