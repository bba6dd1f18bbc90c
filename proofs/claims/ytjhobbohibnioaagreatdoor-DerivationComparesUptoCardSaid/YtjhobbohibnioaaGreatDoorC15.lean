/- GVCo4 GVCo5 -/
import Derived.Test.YtjhobbohibnioaaGreatDoorC14
set_option linter.all false
namespace Go.Ab
open Go.RowKit Go.Proofs Go.Proofs.Tryz I6
variable [Ar][I6]
set_option maxRecDepth 100000
end Go.Ab
namespace Go.Ab
open Go.RowKit Go.Proofs Go.Proofs.Tryz I6
variable [Ar][I6]
set_option maxRecDepth 100000
end Go.Ab
