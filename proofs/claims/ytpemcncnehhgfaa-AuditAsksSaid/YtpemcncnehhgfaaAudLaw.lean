/- What an audit reads and tells: events, stays; no program. No condition. -/
import Derived.Test.YtpemcncnehhgfaaOpen
set_option linter.unusedVariables false
set_option linter.unusedSimpArgs false
namespace Go.Eng
open Go Go.RowKit

structure Ev where
  time : BitVec 64
  kind : Int
  task : Int
  lock : Int
  n : Int
structure St where
  task : Int
  lock : Int
  frm : BitVec 64
  to : BitVec 64
  fin : Int
  read : Bool
deriving DecidableEq
def fE (e : Ev) : List Value := [U e.time, .int .i64 e.kind, .int .i64 e.task, .int .i64 e.lock, .int .i64 e.n]
def fT (s : St) : List Value := [.int .i64 s.task, .int .i64 s.lock, U s.frm, U s.to, .int .i64 s.fin, .bool s.read]
def waitEnd (s : St) (e : Ev) : Int := if e.kind = 11 then 3 else if e.lock ≠ s.lock then 0 else if e.kind = 4 then 1 else if e.kind = 8 then 2 else 0
def holdEnd (s : St) (e : Ev) : Int := if e.lock ≠ s.lock then 0 else if e.kind = 5 then 1 else if e.kind = 12 then 3 else 0
/-- does the one begin ahead of the other's end? -/
def meetsB (a b : St) : Bool := decide (b.fin = 0) || decide (a.frm.toNat < b.to.toNat)
def endsF (b e : Ev) : Int :=
  if e.task ≠ b.task then 0 else if b.kind = 6 then (if e.kind = 4 ∧ e.lock = b.lock then 1 else if e.kind = 8 ∧ e.lock = b.lock then 2 else if e.kind = 11 then 3 else 0)
  else (if e.kind = 5 ∧ e.lock = b.lock then 1 else if e.kind = 12 ∧ e.lock = b.lock then 3 else 0)
def overlapB (a b : St) : Bool := meetsB a b && meetsB b a
end Go.Eng
