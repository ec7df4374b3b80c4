/- The stays of some events: one pass over all, or each by itself; no program. No condition. -/
import Derived.Test.YtpemcncnehhgfaaAudLaw
set_option linter.unusedVariables false
set_option linter.unusedSimpArgs false
namespace Go.Eng
open Go Go.RowKit

/-- a stay that begins -/
def mkT (kind : Int) (e : Ev) : St := ⟨e.task, e.lock, e.time, 0#64, 0, decide (kind = 4) && (decide (e.n = 2) || decide (e.n = 3))⟩
/-- what an event makes of a stay -/
def stepT (en : St → Ev → Int) (s : St) (e : Ev) : St := if s.fin = 0 ∧ s.task = e.task ∧ en s e ≠ 0 then { s with fin := en s e, to := e.time } else s
/-- one pass -/
def stepAll (en : St → Ev → Int) (kind : Int) (out : List St) (e : Ev) : List St := out.map (fun s => stepT en s e) ++ (if e.kind = kind then [mkT kind e] else [])
def passT (en : St → Ev → Int) (kind : Int) (l : List Ev) : List St := l.foldl (stepAll en kind) []
/-- each by itself -/
def eachT (en : St → Ev → Int) (kind : Int) : List Ev → List St
  | [] => []
  | e :: l => (if e.kind = kind then [l.foldl (stepT en) (mkT kind e)] else []) ++ eachT en kind l
theorem pass_each (en : St → Ev → Int) (kind : Int) : ∀ (l : List Ev) (out : List St), l.foldl (stepAll en kind) out = out.map (fun s => l.foldl (stepT en) s) ++ eachT en kind l
  | [], out => by simp [eachT]
  | e :: l, out => by
    simp only [List.foldl_cons]
    rw [pass_each en kind l (stepAll en kind out e)]
    rw [eachT]
    unfold stepAll
    by_cases h : e.kind = kind
    · rw [if_pos h, if_pos h]; simp [List.map_map, Function.comp_def]
    · rw [if_neg h, if_neg h]; simp [List.map_map, Function.comp_def]
theorem passT_eq (en : St → Ev → Int) (kind : Int) (l : List Ev) : passT en kind l = eachT en kind l := by
  unfold passT; rw [pass_each]; simp
/-- a stay that is over stays so -/
theorem step_over (en : St → Ev → Int) {s : St} (h : s.fin ≠ 0) (e : Ev) : stepT en s e = s := by unfold stepT; rw [if_neg (by intro k; exact h k.1)]
theorem fold_over (en : St → Ev → Int) {s : St} (h : s.fin ≠ 0) : ∀ l : List Ev, l.foldl (stepT en) s = s
  | [] => rfl
  | e :: l => by rw [List.foldl_cons, step_over en h, fold_over en h l]
theorem step_task (en : St → Ev → Int) (s : St) (e : Ev) : (stepT en s e).task = s.task ∧ (stepT en s e).lock = s.lock ∧ (stepT en s e).frm = s.frm ∧ (stepT en s e).read = s.read := by unfold stepT; split <;> simp
/-- how the document says that stays end, and how the code does -/
theorem ends_wait {b e : Ev} {s : St} (hb : b.kind = 6) (ht : s.task = b.task) (hl : s.lock = b.lock) : endsF b e = if s.task = e.task then waitEnd s e else 0 := by
  unfold endsF waitEnd
  rw [ht, hl]
  by_cases h : e.task = b.task
  · rw [if_neg (by simpa using h), if_pos hb, if_pos h.symm]; (repeat' split) <;> first | rfl | omega
  · rw [if_pos (by simpa using h), if_neg (fun k => h k.symm)]
theorem ends_hold {b e : Ev} {s : St} (hb : b.kind = 4) (ht : s.task = b.task) (hl : s.lock = b.lock) : endsF b e = if s.task = e.task then holdEnd s e else 0 := by
  unfold endsF holdEnd
  rw [ht, hl]
  by_cases h : e.task = b.task
  · rw [if_neg (by simpa using h), if_neg (by omega), if_pos h.symm]; (repeat' split) <;> first | rfl | omega
  · rw [if_pos (by simpa using h), if_neg (fun k => h k.symm)]
end Go.Eng
