/- How words that are handed in are read. No condition. -/
import Derived.Test.YtoeojcnodjjpgaaDoorTokJ
set_option linter.unusedVariables false
set_option linter.unusedSimpArgs false
namespace Go.Eng
open Go Go.Proofs Go.RowKit Go.ChangeShapes Go.WideShapes

set_option maxRecDepth 100000 in
theorem rdb_api_Word : Rdb Tryd.prog 72 fW (fun a => (-9223372036854775808 ≤ a.k ∧ a.k ≤ 9223372036854775807) ∧ a.t.length ≤ maxLen ∧ (-9223372036854775808 ≤ a.n ∧ a.n ≤ 9223372036854775807) ∧ (-9223372036854775808 ≤ a.p ∧ a.p ≤ 9223372036854775807)) := fun {H enc w base sp held fuel cs x} h => by
  obtain ⟨h1, h2⟩ := trod_fields Tryd.underlying72 h
  rw [show Tryd.prog.cellsOf 72 = 4 by kernel_rfl] at h1
  have c3 : Tryd.prog.cellsOf 3 = 1 := by kernel_rfl
  have c9 : Tryd.prog.cellsOf 9 = 1 := by kernel_rfl
  match cs, h1 with
  | [a0, a1, a2, a3], _ =>
    simp only [List.forall_mem_cons, c3, c9, List.drop_succ_cons, List.drop_zero, List.take_succ_cons, List.take_zero] at h2
    obtain ⟨⟨_, _, f0⟩, ⟨_, _, f1⟩, ⟨_, _, f2⟩, ⟨_, _, f3⟩, _⟩ := h2
    obtain ⟨m0, e0, _, w0⟩ := DataW.trod_int Tryd.underlying3 f0
    obtain ⟨m1, e1, _, w1⟩ := DataW.trod_string Tryd.underlying9 f1
    obtain ⟨m2, e2, _, w2⟩ := DataW.trod_int Tryd.underlying3 f2
    obtain ⟨m3, e3, _, w3⟩ := DataW.trod_int Tryd.underlying3 f3
    obtain ⟨x1, rfl⟩ : ∃ l : List UInt8, m1 = bs l := ⟨_, bs_of m1⟩
    rw [bs_size] at w1
    simp only [List.cons.injEq, and_true] at e0 e1 e2 e3
    subst e0
    subst e1
    subst e2
    subst e3
    exact ⟨⟨m0, x1, m2, m3⟩, rfl, ⟨bounds_i64 w0, w1, bounds_i64 w2, bounds_i64 w3⟩⟩
end Go.Eng

