/- The walks of ops and of programs that may be. No condition. -/
import Derived.Test.YtbndlommbpkijaaDoorWordsB
import Derived.Test.YtbndlommbpkijaaDoorPgmLaw
set_option linter.unusedVariables false
set_option linter.unusedSimpArgs false
namespace Go.Eng
open Go Go.Proofs Go.RowKit

theorem loA_cases (k : Int) : loA k = -1 ∨ 0 ≤ loA k := by unfold loA; (repeat' split) <;> omega
end Go.Eng

