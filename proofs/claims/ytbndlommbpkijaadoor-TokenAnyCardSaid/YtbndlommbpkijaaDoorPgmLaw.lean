/- Programs of words: how they are parsed; no program text in sight. No condition. -/
import Derived.Test.YtbndlommbpkijaaDoorWordLaw
import Derived.Test.YtbndlommbpkijaaDoorCritLaw
set_option linter.unusedVariables false
set_option linter.unusedSimpArgs false
namespace Go.Eng
open Go Go.RowKit

def nmW : List (List UInt8) := [[], [99, 111, 109, 112, 117, 116, 101], [108, 111, 99, 107], [114, 101, 97, 100], [116, 114, 121], [116, 105, 109, 101, 100], [117, 110, 108, 111, 99, 107], [115, 108, 101, 101, 112], [121, 105, 101, 108, 100], [115, 112, 97, 119, 110], [119, 101, 105, 103, 104, 116], [101, 120, 105, 116]]
def kindT (t : List UInt8) : Int := mx0 (fixI (fun y => decide (t = y)) nmW)
def kindR (ws : List Wrd) (i : Nat) : Int := if (decide (i < ws.length) && decide ((ws.getD i default).k = 1)) then kindT (ws.getD i default).t else 0
def numR (ws : List Wrd) (i : Nat) (lo hi : Int) : Nat × Int × Int :=
  if lo = -1 then (i, 0, 0)
  else if (decide (ws.length ≤ i) || decide ((ws.getD i default).k ≠ 2)) then (i, 5, 0)
  else if hasB lo hi (ws.getD i default).n then (i + 1, 0, (ws.getD i default).n) else (i, 1, 0)
def num2 (ws : List Wrd) (a : Nat × Int × Int) (lo hi : Int) : Nat × Int × Int := if a.2.1 ≠ 0 then (a.1, a.2.1, 0) else numR ws a.1 lo hi
def opA (ws : List Wrd) (i : Nat) : Nat × Int × Int := numR ws (i + 1) (loA (kindR ws i)) (hiA (kindR ws i))
def opB (ws : List Wrd) (i : Nat) : Nat × Int × Int := num2 ws (opA ws i) (loB (kindR ws i)) (hiB (kindR ws i))
/-! what is parsed may be -/
end Go.Eng
