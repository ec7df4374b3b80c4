/- A program's words are parsed again; no program text in sight. No condition. -/
import Derived.Test.YtoeojcnodjjpgaaDoorPgmF
set_option linter.unusedVariables false
set_option linter.unusedSimpArgs false
namespace Go.Eng
open Go Go.Proofs Go.RowKit

theorem drop_len {α : Type} {ws l : List α} {p : Nat} (h : ws.drop p = l) {j : Nat} (hj : j < l.length) : p + j < ws.length := by
  have := congrArg List.length h; rw [List.length_drop] at this; omega
theorem drop_getD {α : Type} {ws l : List α} {p : Nat} (d : α) (h : ws.drop p = l) (j : Nat) : ws.getD (p + j) d = l.getD j d := by
  rw [← h, List.getD_eq_getElem?_getD, List.getD_eq_getElem?_getD, List.getElem?_drop]
theorem drop_add {α : Type} {ws a b : List α} {p : Nat} (h : ws.drop p = a ++ b) : ws.drop (p + a.length) = b := by
  rw [← List.drop_drop, h, List.drop_left]
theorem isR_of {ws : List Wrd} {i : Nat} {k : Int} {t : List UInt8} {x : Wrd} (hi : i < ws.length) (hx : ws.getD i default = x) : isR ws i k t = (decide (x.k = k) && decide (x.t = t)) := by
  unfold isR; rw [hx, decide_eq_true hi, Bool.true_and]
/-! a program's text -/
end Go.Eng

