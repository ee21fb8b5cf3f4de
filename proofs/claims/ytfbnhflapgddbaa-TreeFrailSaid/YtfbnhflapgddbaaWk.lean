/- Walks of the program's functions,printed. -/
import Derived.Test.YtfbnhflapgddbaaWj
import Derived.Test.YtfbnhflapgddbaaHk
set_option linter.all false
namespace Go.Val
open Go.RowKit Go.Proofs
section
variable [NoDrw]
end
end Go.Val
