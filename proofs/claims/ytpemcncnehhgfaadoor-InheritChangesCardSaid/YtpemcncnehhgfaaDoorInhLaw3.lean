/- Where two lists are not the same; no program. No condition. -/
import Derived.Test.YtpemcncnehhgfaaDoorInhLaw
set_option linter.unusedVariables false
set_option linter.unusedSimpArgs false
namespace Go.Eng
open Go Go.RowKit

def dif (a b : List Int) (i : Nat) : Bool := decide (a.getD i 0 ≠ b.getD i 0)
def chL (a b : List Int) (n : Nat) : List Nat := (List.range n).filter (dif a b)
def chN (a b : List Int) (n : Nat) : Nat := (chL a b n).length
def chA (a b : List Int) : List (Array Value) := (chL a b (max a.length b.length)).map (fun i => #[.int .i64 (i : Nat), .int .i64 (b.getD i 0)])
theorem chL_succ (a b : List Int) (n : Nat) : chL a b (n + 1) = if dif a b n = true then chL a b n ++ [n] else chL a b n := by
  unfold chL; rw [List.range_succ, List.filter_append]; simp only [List.filter_cons, List.filter_nil]; split <;> simp
theorem chN_yes {a b : List Int} {n : Nat} (h : a.getD n 0 ≠ b.getD n 0) : chN a b (n + 1) = chN a b n + 1 := by
  unfold chN; rw [chL_succ, if_pos (by unfold dif; exact decide_eq_true h)]; simp
theorem chN_no {a b : List Int} {n : Nat} (h : ¬ a.getD n 0 ≠ b.getD n 0) : chN a b (n + 1) = chN a b n := by
  unfold chN; rw [chL_succ, if_neg (by unfold dif; simpa using h)]
theorem chA_len (a b : List Int) : (chA a b).length = chN a b (max a.length b.length) := by unfold chA chN; simp
theorem chN_le (a b : List Int) (n : Nat) : chN a b n ≤ n := by unfold chN chL; refine Nat.le_trans (List.length_filter_le _ _) ?_; simp
theorem chN_mono (a b : List Int) {n : Nat} : ∀ {m : Nat}, n ≤ m → chN a b n ≤ chN a b m
  | 0, h => by rw [show n = 0 by omega]; exact Nat.le_refl _
  | m + 1, h => by
    by_cases e : n = m + 1
    · rw [e]; exact Nat.le_refl _
    · have ih := chN_mono a b (n := n) (m := m) (by omega)
      by_cases hd : a.getD m 0 ≠ b.getD m 0
      · rw [chN_yes hd]; omega
      · rw [chN_no hd]; exact ih
theorem chL_get {a b : List Int} {i : Nat} (hd : a.getD i 0 ≠ b.getD i 0) : ∀ n, i < n → (chL a b n)[chN a b i]? = some i
  | 0, h => by omega
  | n + 1, h => by
    rw [chL_succ]
    by_cases e : i = n
    · subst e
      rw [if_pos (by unfold dif; exact decide_eq_true hd)]; unfold chN
      rw [List.getElem?_append_right (Nat.le_refl _), Nat.sub_self]; rfl
    · have ih := chL_get hd n (by omega)
      split
      · rw [List.getElem?_append_left (List.getElem?_eq_some_iff.1 ih).1]; exact ih
      · exact ih
theorem chA_get {a b : List Int} {i : Nat} (hd : a.getD i 0 ≠ b.getD i 0) (hi : i < max a.length b.length) : (chA a b)[chN a b i]? = some #[.int .i64 (i : Nat), .int .i64 (b.getD i 0)] := by
  unfold chA; rw [List.getElem?_map, chL_get hd _ hi]; rfl
theorem chL_inv {a b : List Int} {k i : Nat} : ∀ n, (chL a b n)[k]? = some i → i < n ∧ a.getD i 0 ≠ b.getD i 0 ∧ chN a b i = k
  | 0, h => by simp [chL] at h
  | n + 1, h => by
    rw [chL_succ] at h
    split at h
    · rename_i hd
      have hd2 : a.getD n 0 ≠ b.getD n 0 := of_decide_eq_true hd
      by_cases e : k < (chL a b n).length
      · rw [List.getElem?_append_left e] at h
        have := chL_inv n h; exact ⟨by omega, this.2⟩
      · rw [List.getElem?_append_right (by omega)] at h
        have hk : k - (chL a b n).length = 0 := by have := (List.getElem?_eq_some_iff.1 h).1; simp at this; omega
        rw [hk] at h; simp only [List.getElem?_cons_zero, Option.some.injEq] at h; subst h
        exact ⟨by omega, hd2, by unfold chN; omega⟩
    · have := chL_inv n h; exact ⟨by omega, this.2⟩
theorem chA_inv {a b : List Int} {k : Nat} {av : Array Value} (h : (chA a b)[k]? = some av) : ∃ i, i < max a.length b.length ∧ a.getD i 0 ≠ b.getD i 0 ∧ chN a b i = k ∧ av = #[.int .i64 (i : Nat), .int .i64 (b.getD i 0)] := by
  unfold chA at h; rw [List.getElem?_map, Option.map_eq_some_iff] at h
  obtain ⟨i, h1, rfl⟩ := h
  obtain ⟨h2, h3, h4⟩ := chL_inv _ h1
  exact ⟨i, h2, h3, h4, rfl⟩
end Go.Eng
