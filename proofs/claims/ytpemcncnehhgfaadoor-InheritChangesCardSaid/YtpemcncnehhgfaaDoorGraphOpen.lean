/- How edges and deeds that are handed in are read. No condition. -/
import Derived.Test.YtpemcncnehhgfaaDoorGraphLaw2
import Derived.Test.YtpemcncnehhgfaaDoorOpen
import Derived.Test.YtpemcncnehhgfaaDoorRows
set_option linter.unusedVariables false
set_option linter.unusedSimpArgs false
namespace Go.Eng
open Go Go.Proofs Go.RowKit

set_option maxRecDepth 100000 in
theorem rdb_forelocklaw22_Deed : Rdb Tryd.prog 41 fDd (fun a => (0 ≤ a.kind ∧ a.kind ≤ 255) ∧ (-9223372036854775808 ≤ a.who ∧ a.who ≤ 9223372036854775807)) := fun {H enc w base sp held fuel cs x} h => by
  obtain ⟨h1, h2⟩ := trod_fields Tryd.underlying41 h
  rw [show Tryd.prog.cellsOf 41 = 3 by kernel_rfl] at h1
  have c3 : Tryd.prog.cellsOf 3 = 1 := by kernel_rfl
  have c5 : Tryd.prog.cellsOf 5 = 1 := by kernel_rfl
  have c23 : Tryd.prog.cellsOf 23 = 1 := by kernel_rfl
  match cs, h1 with
  | [a0, a1, a2], _ =>
    simp only [List.forall_mem_cons, c3, c5, c23, List.drop_succ_cons, List.drop_zero, List.take_succ_cons, List.take_zero] at h2
    obtain ⟨⟨_, _, f0⟩, ⟨_, _, f1⟩, ⟨_, _, f2⟩, _⟩ := h2
    obtain ⟨m0, e0, _, w0⟩ := DataW.trod_int Tryd.underlying5 f0
    obtain ⟨m1, e1, _, w1⟩ := DataW.trod_int Tryd.underlying3 f1
    obtain ⟨m2, e2, _, w2⟩ := DataW.trod_int Tryd.underlying23 f2
    obtain ⟨x2, rfl⟩ := bv_of (bounds_u64 w2)
    simp only [List.cons.injEq, and_true] at e0 e1 e2
    subst e0
    subst e1
    subst e2
    exact ⟨⟨m0, m1, x2⟩, rfl, ⟨bounds_u8 w0, bounds_i64 w1⟩⟩
set_option maxRecDepth 100000 in
theorem rdb_api_Edge : Rdb Tryd.prog 80 fEd (fun a => (-9223372036854775808 ≤ a.who ∧ a.who ≤ 9223372036854775807) ∧ (-9223372036854775808 ≤ a.to ∧ a.to ≤ 9223372036854775807)) := fun {H enc w base sp held fuel cs x} h => by
  obtain ⟨h1, h2⟩ := trod_fields Tryd.underlying80 h
  rw [show Tryd.prog.cellsOf 80 = 2 by kernel_rfl] at h1
  have c3 : Tryd.prog.cellsOf 3 = 1 := by kernel_rfl
  match cs, h1 with
  | [a0, a1], _ =>
    simp only [List.forall_mem_cons, c3, List.drop_succ_cons, List.drop_zero, List.take_succ_cons, List.take_zero] at h2
    obtain ⟨⟨_, _, f0⟩, ⟨_, _, f1⟩, _⟩ := h2
    obtain ⟨m0, e0, _, w0⟩ := DataW.trod_int Tryd.underlying3 f0
    obtain ⟨m1, e1, _, w1⟩ := DataW.trod_int Tryd.underlying3 f1
    simp only [List.cons.injEq, and_true] at e0 e1
    subst e0
    subst e1
    exact ⟨⟨m0, m1⟩, rfl, ⟨bounds_i64 w0, bounds_i64 w1⟩⟩
end Go.Eng

