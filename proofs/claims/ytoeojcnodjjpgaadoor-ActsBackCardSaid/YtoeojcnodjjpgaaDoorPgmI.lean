/- The walks of the document's words of a program, and of its text; the ops are gone over; ProgBack. No condition. -/
import Derived.Test.YtoeojcnodjjpgaaDoorPgmJ
import Derived.Test.YtoeojcnodjjpgaaDoorPgmH
import Derived.Test.YtoeojcnodjjpgaaDoorTokC
set_option linter.unusedVariables false
set_option linter.unusedSimpArgs false
namespace Go.Eng
open Go Go.Proofs Go.RowKit

def EachT (fv : Bool) (ad : Option Addr) (n cap : Nat) (n0 : Nat) (v : Value) (m : Mem0) : Prop := ∃ b1, v = .func (.func 73) #[] #[.pointer (some ⟨b1, 0, none⟩)] ∧ m = [pB b1 fv ad n cap] ∧ n0 ≤ b1
theorem EachT.mono {fv : Bool} {ad : Option Addr} {n cap : Nat} : ∀ (k k' : Nat) u m, k' ≤ k → EachT fv ad n cap k u m → EachT fv ad n cap k' u m := fun k k' u m h ⟨b1, h1, h2, h3⟩ => ⟨b1, h1, h2, by omega⟩
end Go.Eng

