/- The calculus, fifteenth part: a whole slice is appended ('append(out, l...)'). No condition. -/
import Derived.Test.YtbndlommbpkijaaDoorEng14
set_option linter.unusedVariables false
set_option linter.unusedSimpArgs false
namespace Go.Eng
open Go Go.RowKit

section
variable {P : Program} {r : Option Nat} {N : Nat} {Q : Exit → Act → World → Prop} {e : Env} {ds : List Nat} {M : Mem0} {S : Nat → Prop} {w0 : World} {G : World → Prop}
variable {ops : Array Oper} {l : List Oper} {ty : TypeId} {pos : String} {after : Array Edge} {d : Nat} {x y : Operand} {t : TypeId}
end
end Go.Eng
