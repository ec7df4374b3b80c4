/- How programs that are handed in are read. No condition. -/
import Derived.Test.YtoeojcnodjjpgaaDoorPgmI
set_option linter.unusedVariables false
set_option linter.unusedSimpArgs false
namespace Go.Eng
open Go Go.Proofs Go.RowKit Go.ChangeShapes Go.WideShapes

set_option maxRecDepth 100000 in
theorem rdb_api_Op : Rdb Tryd.prog 69 fO (fun a => (-9223372036854775808 ≤ a.k ∧ a.k ≤ 9223372036854775807) ∧ (-9223372036854775808 ≤ a.a ∧ a.a ≤ 9223372036854775807) ∧ (-9223372036854775808 ≤ a.b ∧ a.b ≤ 9223372036854775807)) := fun {H enc w base sp held fuel cs x} h => by
  obtain ⟨h1, h2⟩ := trod_fields Tryd.underlying69 h
  rw [show Tryd.prog.cellsOf 69 = 3 by kernel_rfl] at h1
  have c3 : Tryd.prog.cellsOf 3 = 1 := by kernel_rfl
  match cs, h1 with
  | [a0, a1, a2], _ =>
    simp only [List.forall_mem_cons, c3, List.drop_succ_cons, List.drop_zero, List.take_succ_cons, List.take_zero] at h2
    obtain ⟨⟨_, _, f0⟩, ⟨_, _, f1⟩, ⟨_, _, f2⟩, _⟩ := h2
    obtain ⟨m0, e0, _, w0⟩ := DataW.trod_int Tryd.underlying3 f0
    obtain ⟨m1, e1, _, w1⟩ := DataW.trod_int Tryd.underlying3 f1
    obtain ⟨m2, e2, _, w2⟩ := DataW.trod_int Tryd.underlying3 f2
    simp only [List.cons.injEq, and_true] at e0 e1 e2
    subst e0
    subst e1
    subst e2
    exact ⟨⟨m0, m1, m2⟩, rfl, ⟨bounds_i64 w0, bounds_i64 w1, bounds_i64 w2⟩⟩
set_option maxRecDepth 100000 in
theorem open_api_Prog {H : Type} {enc : TypeId × Value → H} {w : World} {base : Nat} {sp : Nat → Bool} {held : Bool} {r : Reach} {b0 : Nat} {v : Value} {d : DataW H} {ps : List MemPlace}
    (hval : Value.okWide Tryd.prog w r b0 53 v) (h : DataW.Trod enc Tryd.prog w base sp held 53 v d ps) :
    ∃ (fv : Bool) (xs : List COp) (ad : Option Addr) (cap : Nat), v = .agg #[.bool fv, .slice ad xs.length cap] ∧ Sr fO 3 xs (.slice ad xs.length cap) w ∧ xs.length ≤ maxLen := by
  obtain ⟨fuel, h⟩ := h
  obtain ⟨cs, rfl⟩ : ∃ cs, v = .agg cs := by
    simp only [Value.okWide, Tryd.underlying53] at hval; obtain ⟨cs, h1, _⟩ := hval; exact ⟨cs, h1⟩
  obtain ⟨h1, h2⟩ := trod_fields Tryd.underlying53 h
  rw [show Tryd.prog.cellsOf 53 = 2 by kernel_rfl] at h1
  have c0 : Tryd.prog.cellsOf 4 = 1 := by kernel_rfl
  have c1 : Tryd.prog.cellsOf 51 = 1 := by kernel_rfl
  have hcs : (Value.agg cs).cells.toList = cs.toList := rfl
  rw [hcs] at h1 h2
  obtain ⟨l⟩ := cs
  match l, h1 with
  | [a0, a1], _ =>
    simp only [List.forall_mem_cons, c0, c1, List.drop_succ_cons, List.drop_zero, List.take_succ_cons, List.take_zero] at h2
    obtain ⟨⟨_, _, f0⟩, ⟨n1, y1, f1⟩, _⟩ := h2
    obtain ⟨m0, e0, _⟩ := DataW.trod_bool Tryd.underlying4 f0
    simp only [List.cons.injEq, and_true] at e0
    subst e0
    obtain ⟨ad, len, cap, rfl⟩ : ∃ ad len cap, a1 = .slice ad len cap := by
      rcases DataW.trod_slice Tryd.underlying51 f1 with ⟨h0, _⟩ | ⟨a, l, c, elems, rest, n, _, h0, _⟩
      · simp at h0; exact ⟨_, _, _, h0⟩
      · simp at h0; exact ⟨_, _, _, h0⟩
    obtain ⟨d1, p1⟩ := y1
    obtain ⟨xs, rfl, h3, _, h4⟩ := open_sl (s := 3) (H := H) (enc := enc) (ad := ad) (len := len) (cap := cap) (d := d1) (ps := p1) Tryd.underlying51 rdb_api_Op (by kernel_rfl) (by decide) (fun _ => rfl) ⟨n1, f1⟩
    exact ⟨m0, xs, ad, cap, rfl, h3, h4⟩
end Go.Eng

