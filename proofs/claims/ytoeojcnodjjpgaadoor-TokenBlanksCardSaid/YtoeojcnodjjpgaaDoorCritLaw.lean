/- Programs and their critical sections: ops, sections, what is met first; no program. No condition. -/
import Derived.Test.YtoeojcnodjjpgaaDoorEng11
import Derived.Test.YtoeojcnodjjpgaaDoorOpen
set_option linter.unusedVariables false
set_option linter.unusedSimpArgs false
namespace Go.Eng
open Go Go.RowKit

structure COp where
  k : Int
  a : Int
  b : Int
structure CLk where
  sh : Bool
  sl : Int
  cr : Int
  rd : Int
  wr : Int
instance : Inhabited COp := ⟨⟨0, 0, 0⟩⟩
instance : Inhabited CLk := ⟨⟨false, 0, 0, 0, 0⟩⟩
/-! the first that is such -/
/-! ops -/
/-! names -/
/-! sections: the steps to the end, and the ticks -/
def smallO (xs : List COp) : Prop := xs.length ≤ 20 ∧ ∀ o ∈ xs, -1125899906842624 ≤ o.a ∧ o.a ≤ 1125899906842624
theorem smallO.at {xs : List COp} (h : smallO xs) (i : Nat) : -1125899906842624 ≤ (xs.getD i default).a ∧ (xs.getD i default).a ≤ 1125899906842624 := by
  by_cases hi : i < xs.length
  · exact h.2 _ (List.mem_of_getElem? (getq default hi))
  · rw [List.getD_eq_getElem?_getD, List.getElem?_eq_none (by omega)]; decide
/-! which ops fit -/
/-! more ticks, more locks, more programs -/
/-! ### What is gone over -/
end Go.Eng
