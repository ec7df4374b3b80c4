/- The walk of the document's parser of programs. No condition. -/
import Derived.Test.YtbndlommbpkijaaDoorPgmD
set_option linter.unusedVariables false
set_option linter.unusedSimpArgs false
namespace Go.Eng
open Go Go.Proofs Go.RowKit

theorem nR1 {ws : List Wrd} {i : Nat} {lo hi : Int} (h : lo = -1) : numR ws i lo hi = (i, 0, 0) := by unfold numR; rw [if_pos h]
theorem opB_of {ws : List Wrd} {i j : Nat} {a : Int} (h : opA ws i = (j, 0, a)) : opB ws i = numR ws j (loB (kindR ws i)) (hiB (kindR ws i)) := by unfold opB num2; rw [h, if_neg (by simp)]
/-- what is known between an op's numbers -/
def NumI (ws : List Wrd) (i k j : Nat) (lo hi a b : Int) : Prop :=
  k ≤ 2 ∧ j ≤ ws.length ∧ (k = 0 → j = i + 1 ∧ lo = loA (kindR ws i) ∧ hi = hiA (kindR ws i) ∧ a = 0 ∧ b = 0) ∧ (k = 1 → opA ws i = (j, 0, a) ∧ b = 0) ∧ (k = 2 → (opA ws i).2.2 = a ∧ opB ws i = (j, 0, b))
theorem NumI.skip {ws : List Wrd} {i k j : Nat} {lo hi a b : Int} (h : NumI ws i k j lo hi a b) (hq : (k = 0 ∧ lo < 0) ∨ (k = 1 ∧ kindR ws i ≠ 5)) : NumI ws i (k + 1) j lo hi a b := by
  obtain ⟨h1, h2, h3, h4, h5⟩ := h
  rcases hq with ⟨rfl, hq⟩ | ⟨rfl, hq⟩
  · obtain ⟨e1, e2, e3, e4, e5⟩ := h3 rfl
    subst e1; subst e4; subst e5; subst e2; subst e3
    have := loA_cases (kindR ws i)
    exact ⟨by omega, h2, fun q => by omega, fun _ => ⟨nR1 (by omega), rfl⟩, fun q => by omega⟩
  · obtain ⟨e1, e2⟩ := h4 rfl
    subst e2
    exact ⟨by omega, h2, fun q => by omega, fun q => by omega, fun _ => ⟨by rw [e1], by rw [opB_of e1, nR1 (by unfold loB; rw [if_neg hq])]⟩⟩
end Go.Eng

