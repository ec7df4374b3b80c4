/- How events and stays that are handed in are read. No condition. -/
import Derived.Test.YtpemcncnehhgfaaAudLaw
import Derived.Test.YtpemcncnehhgfaaRows
set_option linter.unusedVariables false
set_option linter.unusedSimpArgs false
namespace Go.Eng
open Go Go.Proofs Go.RowKit

def okI (n : Int) : Prop := -9223372036854775808 ≤ n ∧ n ≤ 9223372036854775807
def okE (e : Ev) : Prop := okI e.kind ∧ okI e.task ∧ okI e.lock ∧ okI e.n
def okT (s : St) : Prop := okI s.task ∧ okI s.lock ∧ okI s.fin
set_option maxRecDepth 100000 in
theorem rdb_api_Event : Rdb Try.prog 97 fE okE := fun {H enc w base sp held fuel cs x} h => by
  obtain ⟨h1, h2⟩ := trod_fields Try.underlying97 h
  rw [show Try.prog.cellsOf 97 = 5 by kernel_rfl] at h1
  have ci : Try.prog.cellsOf 3 = 1 := by kernel_rfl
  have cu : Try.prog.cellsOf 22 = 1 := by kernel_rfl
  match cs, h1 with
  | [a, b, c, d, e], _ =>
    simp only [List.forall_mem_cons, ci, cu, List.drop_succ_cons, List.drop_zero, List.take_succ_cons, List.take_zero] at h2
    obtain ⟨⟨_, _, f0⟩, ⟨_, _, f1⟩, ⟨_, _, f2⟩, ⟨_, _, f3⟩, ⟨_, _, f4⟩, _⟩ := h2
    obtain ⟨m0, e0, _, w0⟩ := DataW.trod_int Try.underlying22 f0
    obtain ⟨m1, e1, _, w1⟩ := DataW.trod_int Try.underlying3 f1
    obtain ⟨m2, e2, _, w2⟩ := DataW.trod_int Try.underlying3 f2
    obtain ⟨m3, e3, _, w3⟩ := DataW.trod_int Try.underlying3 f3
    obtain ⟨m4, e4, _, w4⟩ := DataW.trod_int Try.underlying3 f4
    obtain ⟨x0, rfl⟩ := bv_of (bounds_u64 w0)
    simp only [List.cons.injEq, and_true] at e0 e1 e2 e3 e4
    subst e0; subst e1; subst e2; subst e3; subst e4
    exact ⟨⟨x0, m1, m2, m3, m4⟩, rfl, bounds_i64 w1, bounds_i64 w2, bounds_i64 w3, bounds_i64 w4⟩
set_option maxRecDepth 100000 in
theorem rdb_api_Stay : Rdb Try.prog 72 fT okT := fun {H enc w base sp held fuel cs x} h => by
  obtain ⟨h1, h2⟩ := trod_fields Try.underlying72 h
  rw [show Try.prog.cellsOf 72 = 6 by kernel_rfl] at h1
  have ci : Try.prog.cellsOf 3 = 1 := by kernel_rfl
  have cu : Try.prog.cellsOf 22 = 1 := by kernel_rfl
  have cb : Try.prog.cellsOf 4 = 1 := by kernel_rfl
  match cs, h1 with
  | [a, b, c, d, e, f], _ =>
    simp only [List.forall_mem_cons, ci, cu, cb, List.drop_succ_cons, List.drop_zero, List.take_succ_cons, List.take_zero] at h2
    obtain ⟨⟨_, _, f0⟩, ⟨_, _, f1⟩, ⟨_, _, f2⟩, ⟨_, _, f3⟩, ⟨_, _, f4⟩, ⟨_, _, f5⟩, _⟩ := h2
    obtain ⟨m0, e0, _, w0⟩ := DataW.trod_int Try.underlying3 f0
    obtain ⟨m1, e1, _, w1⟩ := DataW.trod_int Try.underlying3 f1
    obtain ⟨m2, e2, _, w2⟩ := DataW.trod_int Try.underlying22 f2
    obtain ⟨m3, e3, _, w3⟩ := DataW.trod_int Try.underlying22 f3
    obtain ⟨m4, e4, _, w4⟩ := DataW.trod_int Try.underlying3 f4
    obtain ⟨m5, e5, _⟩ := DataW.trod_bool Try.underlying4 f5
    obtain ⟨x2, rfl⟩ := bv_of (bounds_u64 w2)
    obtain ⟨x3, rfl⟩ := bv_of (bounds_u64 w3)
    simp only [List.cons.injEq, and_true] at e0 e1 e2 e3 e4 e5
    subst e0; subst e1; subst e2; subst e3; subst e4; subst e5
    exact ⟨⟨m0, m1, x2, x3, m4, m5⟩, rfl, bounds_i64 w0, bounds_i64 w1, bounds_i64 w4⟩
end Go.Eng

