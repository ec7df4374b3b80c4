/- What is scanned and parsed may be; acts are gone over; ActsAny. No condition. -/
import Derived.Test.YtoeojcnodjjpgaaDoorActD
set_option linter.unusedVariables false
set_option linter.unusedSimpArgs false
namespace Go.Eng
open Go Go.Proofs Go.RowKit

theorem eqA_at {xs ys : List Act} {i : Nat} (hl : xs.length = ys.length) (h : i < xs.length) (hp : xs.take i = ys.take i) (e : xs.getD i default = ys.getD i default) : xs.take (i + 1) = ys.take (i + 1) := by
  rw [take_snoc default h, take_snoc default (hl ▸ h), hp, e]
theorem fA_veqs (a b : Act) : veqs (fA a) (fA b) = decide (a = b) := by
  cases a; cases b; simp only [veqs, veq, fA, Bool.and_true, Act.mk.injEq, Bool.decide_and]; rfl
end Go.Eng

