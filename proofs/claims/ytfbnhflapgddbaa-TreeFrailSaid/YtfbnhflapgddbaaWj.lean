/- Walks of the program's functions,printed. -/
import Derived.Test.YtfbnhflapgddbaaWi
set_option linter.all false
namespace Go.Val
open Go.RowKit Go.Proofs
section
variable [NoDrw]
end
end Go.Val
