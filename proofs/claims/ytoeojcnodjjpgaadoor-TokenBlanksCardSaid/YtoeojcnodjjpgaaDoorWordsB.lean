/- The walk of the document's scanner: all words. No condition. -/
import Derived.Test.YtoeojcnodjjpgaaDoorWordsA
set_option linter.unusedVariables false
set_option linter.unusedSimpArgs false
namespace Go.Eng
open Go Go.Proofs Go.RowKit

def ScT (r : List Wrd × Int × Int) (n0 : Nat) (v : Value) (m : Mem0) : Prop := ∃ ad n cap, v = .tuple #[.slice ad n cap, .int .i64 r.2.1, .int .i64 r.2.2] ∧ n = r.1.length ∧ Sl fW 72 4 n0 r.1 (.slice ad n cap) m
theorem ScT.mono {r : List Wrd × Int × Int} : ∀ (k k' : Nat) u m, k' ≤ k → ScT r k u m → ScT r k' u m := fun k k' u m h ⟨ad, n, cap, h1, h2, h3⟩ => ⟨ad, n, cap, h1, h2, h3.mono h⟩
end Go.Eng

