/- prog.Same and ProgSames, walked. No condition. -/
import Derived.Test.YtoeojcnodjjpgaaDoorPgmG
set_option linter.unusedVariables false
set_option linter.unusedSimpArgs false
namespace Go.Eng
open Go Go.Proofs Go.RowKit

end Go.Eng

