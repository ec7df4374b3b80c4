/- The walks of a reader of words. No condition. -/
import Derived.Test.YtbndlommbpkijaaDoorPgmA
set_option linter.unusedVariables false
set_option linter.unusedSimpArgs false
namespace Go.Eng
open Go Go.Proofs Go.RowKit

end Go.Eng

