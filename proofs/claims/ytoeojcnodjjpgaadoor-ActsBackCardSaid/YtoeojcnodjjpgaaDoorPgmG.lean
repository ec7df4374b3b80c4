/- ProgAny, walked. No condition. -/
import Derived.Test.YtoeojcnodjjpgaaDoorPgmF
set_option linter.unusedVariables false
set_option linter.unusedSimpArgs false
namespace Go.Eng
open Go Go.Proofs Go.RowKit

end Go.Eng

