/- The walks of the parser of programs. No condition. -/
import Derived.Test.YtbndlommbpkijaaDoorPgmB
set_option linter.unusedVariables false
set_option linter.unusedSimpArgs false
namespace Go.Eng
open Go Go.Proofs Go.RowKit

end Go.Eng

