/- Rows of numbers in memory, and the walks of the small functions on trees. -/
import Derived.Test.YtbofgpmbocjbiaaTreeC
import Derived.Test.YtbofgpmbocjbiaaInts
import Derived.Test.YtbofgpmbocjbiaaDet
set_option linter.unusedSimpArgs false
set_option linter.unusedVariables false
namespace Go.Proofs.Ytbofgpmbocjbiaa
open Go.RowKit

end Go.Proofs.Ytbofgpmbocjbiaa
