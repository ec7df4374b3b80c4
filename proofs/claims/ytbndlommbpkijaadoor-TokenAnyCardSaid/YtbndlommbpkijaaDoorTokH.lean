/- What is joined is scanned again, but for its places; no program text in sight. No condition. -/
import Derived.Test.YtbndlommbpkijaaDoorTokG
set_option linter.unusedVariables false
set_option linter.unusedSimpArgs false
namespace Go.Eng
open Go Go.Proofs Go.RowKit

/-! one word, from its text on -/
end Go.Eng

