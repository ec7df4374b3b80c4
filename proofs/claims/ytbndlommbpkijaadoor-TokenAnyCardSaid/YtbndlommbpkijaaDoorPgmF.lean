/- The walks of a program's words, its text, and of programs that are the same. No condition. -/
import Derived.Test.YtbndlommbpkijaaDoorTokA
import Derived.Test.YtbndlommbpkijaaDoorPgmE
set_option linter.unusedVariables false
set_option linter.unusedSimpArgs false
namespace Go.Eng
open Go Go.Proofs Go.RowKit

deriving instance DecidableEq for COp
def WoT (r : List Wrd × Int) (n0 : Nat) (v : Value) (m : Mem0) : Prop := ∃ ad n cap, v = .tuple #[.slice ad n cap, .int .i64 r.2] ∧ n = r.1.length ∧ Sl fW 80 4 n0 r.1 (.slice ad n cap) m
theorem WoT.mono {r : List Wrd × Int} : ∀ (k k' : Nat) u m, k' ≤ k → WoT r k u m → WoT r k' u m := fun k k' u m h ⟨ad, n, cap, h1, h2, h3⟩ => ⟨ad, n, cap, h1, h2, h3.mono h⟩
end Go.Eng

