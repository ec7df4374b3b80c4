/- Programs of words: how they are parsed; no program text in sight. No condition. -/
import Derived.Test.YtoeojcnodjjpgaaDoorWordLaw
import Derived.Test.YtoeojcnodjjpgaaDoorCritLaw
set_option linter.unusedVariables false
set_option linter.unusedSimpArgs false
namespace Go.Eng
open Go Go.RowKit

/-! what is parsed may be -/
end Go.Eng
