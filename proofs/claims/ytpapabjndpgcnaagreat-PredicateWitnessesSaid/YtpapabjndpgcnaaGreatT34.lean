/- GPCo5 -/
import Derived.Test.YtpapabjndpgcnaaGreatT33
set_option linter.all false

namespace Go.Ab
open Go.RowKit Go.Proofs
variable [Ar] [Encs]
set_option maxRecDepth 100000
end Go.Ab

