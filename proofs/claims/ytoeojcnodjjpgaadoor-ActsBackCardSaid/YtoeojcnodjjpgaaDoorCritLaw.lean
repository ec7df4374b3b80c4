/- Programs and their critical sections: ops, sections, what is met first; no program. No condition. -/
import Derived.Test.YtoeojcnodjjpgaaDoorEng11
import Derived.Test.YtoeojcnodjjpgaaDoorOpen
set_option linter.unusedVariables false
set_option linter.unusedSimpArgs false
namespace Go.Eng
open Go Go.RowKit

structure COp where
  k : Int
  a : Int
  b : Int
structure CLk where
  sh : Bool
  sl : Int
  cr : Int
  rd : Int
  wr : Int
instance : Inhabited COp := ⟨⟨0, 0, 0⟩⟩
instance : Inhabited CLk := ⟨⟨false, 0, 0, 0, 0⟩⟩
def fO (o : COp) : List Value := [.int .i64 o.k, .int .i64 o.a, .int .i64 o.b]
/-! the first that is such -/
def fixI {α : Type} (p : α → Bool) (xs : List α) : Int := if xs.any p then (xs.findIdx p : Nat) else -1
theorem any_snoc {α : Type} {p : α → Bool} {xs : List α} {i : Nat} (d : α) (h : i < xs.length) : (xs.take (i + 1)).any p = ((xs.take i).any p || p (xs.getD i d)) := by
  rw [take_snoc d h, List.any_append]; simp
theorem fix_hit {α : Type} {p : α → Bool} {xs : List α} {i : Nat} (d : α) (h0 : (xs.take i).any p = false) (h : i < xs.length) (hp : p (xs.getD i d) = true) : fixI p xs = (i : Nat) := by
  have e := getq d h
  have h1 : xs.any p = true := List.any_eq_true.2 ⟨_, List.mem_of_getElem? e, hp⟩
  have h2 : xs.findIdx p = i := by
    rw [List.findIdx_eq h]
    refine ⟨by rw [List.getElem?_eq_getElem h] at e; rw [Option.some.inj e]; exact hp, fun j hj => ?_⟩
    have h3 := List.any_eq_false.1 h0 xs[j] (by rw [List.mem_take_iff_getElem]; exact ⟨j, by omega, rfl⟩)
    simpa using h3
  unfold fixI; rw [if_pos h1, h2]
theorem fix_miss {α : Type} {p : α → Bool} {xs : List α} (h : xs.any p = false) : fixI p xs = -1 := by
  unfold fixI; rw [h]; rfl
theorem fix_pos {α : Type} {p : α → Bool} {xs : List α} : decide (0 ≤ fixI p xs) = xs.any p := by
  unfold fixI
  cases xs.any p
  · rfl
  · simp

/-! ops -/
def loA (k : Int) : Int := if k = 1 then 1 else if k = 2 ∨ k = 3 ∨ k = 4 ∨ k = 6 ∨ k = 9 then 0 else if k = 5 then 0 else if k = 7 then 1 else if k = 10 then 1 else -1
def hiA (k : Int) : Int := if k = 1 then 16 else if k = 2 ∨ k = 3 ∨ k = 4 ∨ k = 6 ∨ k = 9 then 7 else if k = 5 then 7 else if k = 7 then 64 else if k = 10 then 16 else -1
def loB (k : Int) : Int := if k = 5 then 1 else -1
def hiB (k : Int) : Int := if k = 5 then 64 else -1
def hasB (lo hi n : Int) : Bool := if lo = -1 then decide (n = 0) else decide (lo ≤ n) && decide (n ≤ hi)
/-! names -/
/-! sections: the steps to the end, and the ticks -/
def smallO (xs : List COp) : Prop := xs.length ≤ 20 ∧ ∀ o ∈ xs, -1125899906842624 ≤ o.a ∧ o.a ≤ 1125899906842624
theorem smallO.at {xs : List COp} (h : smallO xs) (i : Nat) : -1125899906842624 ≤ (xs.getD i default).a ∧ (xs.getD i default).a ≤ 1125899906842624 := by
  by_cases hi : i < xs.length
  · exact h.2 _ (List.mem_of_getElem? (getq default hi))
  · rw [List.getD_eq_getElem?_getD, List.getElem?_eq_none (by omega)]; decide
/-! which ops fit -/
/-! more ticks, more locks, more programs -/
def mx0 (c : Int) : Int := if 0 > c then 0 else c
/-! ### What is gone over -/
end Go.Eng
