/- Programs of words: how they are parsed; no program text in sight. No condition. -/
import Derived.Test.YtoeojcnodjjpgaaDoorWordLaw
import Derived.Test.YtoeojcnodjjpgaaDoorCritLaw
set_option linter.unusedVariables false
set_option linter.unusedSimpArgs false
namespace Go.Eng
open Go Go.RowKit

def fB (l : List UInt8) : List Value := [.string (bs l)]
def nmW : List (List UInt8) := [[], [99, 111, 109, 112, 117, 116, 101], [108, 111, 99, 107], [114, 101, 97, 100], [116, 114, 121], [116, 105, 109, 101, 100], [117, 110, 108, 111, 99, 107], [115, 108, 101, 101, 112], [121, 105, 101, 108, 100], [115, 112, 97, 119, 110], [119, 101, 105, 103, 104, 116], [101, 120, 105, 116]]
def nmT (k : Int) : List UInt8 := if 0 ≤ k ∧ k < 12 then nmW.getD k.toNat [] else []
theorem nmT_empty (k : Int) : decide (nmT k ≠ []) = kindB k := by
  unfold kindB
  by_cases h : 0 ≤ k ∧ k < 12
  · have : k = 0 ∨ k = 1 ∨ k = 2 ∨ k = 3 ∨ k = 4 ∨ k = 5 ∨ k = 6 ∨ k = 7 ∨ k = 8 ∨ k = 9 ∨ k = 10 ∨ k = 11 := by omega
    rcases this with rfl | rfl | rfl | rfl | rfl | rfl | rfl | rfl | rfl | rfl | rfl | rfl <;> decide +kernel
  · unfold nmT; rw [if_neg h]
    by_cases h2 : 1 ≤ k
    · rw [show decide (k ≤ 11) = false from decide_eq_false (by omega)]; simp
    · rw [show decide (1 ≤ k) = false from decide_eq_false h2]; simp
abbrev wProg : List UInt8 := [112, 114, 111, 103]
abbrev wForever : List UInt8 := [102, 111, 114, 101, 118, 101, 114]
def isR (ws : List Wrd) (i : Nat) (k : Int) (t : List UInt8) : Bool := decide (i < ws.length) && decide ((ws.getD i default).k = k) && decide ((ws.getD i default).t = t)
def kindT (t : List UInt8) : Int := mx0 (fixI (fun y => decide (t = y)) nmW)
def kindR (ws : List Wrd) (i : Nat) : Int := if (decide (i < ws.length) && decide ((ws.getD i default).k = 1)) then kindT (ws.getD i default).t else 0
/-- as the document looks for it -/
def refK (t : List UInt8) : Nat → Int
  | 0 => 0
  | k + 1 => if t = nmW.getD (k + 1) [] then ((k + 1 : Nat) : Int) else refK t k
theorem refK_eq (t : List UInt8) : refK t 11 = kindT t := by
  by_cases h : t ∈ nmW
  · have : t = [] ∨ t ∈ nmW.tail := by simpa [nmW] using h
    simp only [nmW, List.mem_cons, List.not_mem_nil, or_false] at h
    rcases h with rfl | rfl | rfl | rfl | rfl | rfl | rfl | rfl | rfl | rfl | rfl | rfl <;> decide +kernel
  · have h2 : fixI (fun y => decide (t = y)) nmW = -1 := fix_miss (by
      rw [List.any_eq_false]; intro y hy; simp only [decide_eq_true_eq]; rintro rfl; exact h hy)
    unfold kindT; rw [h2]
    simp only [nmW, List.mem_cons, List.not_mem_nil, or_false, not_or] at h
    obtain ⟨-, a1, a2, a3, a4, a5, a6, a7, a8, a9, a10, a11⟩ := h
    simp only [refK, nmW, List.getD_cons_succ, List.getD_cons_zero, if_neg a1, if_neg a2, if_neg a3, if_neg a4, if_neg a5, if_neg a6, if_neg a7, if_neg a8, if_neg a9, if_neg a10, if_neg a11]
    rfl
theorem kindT_rng (t : List UInt8) : 0 ≤ kindT t ∧ kindT t ≤ 11 := by
  rw [← refK_eq]
  have : ∀ k : Nat, 0 ≤ refK t k ∧ refK t k ≤ (k : Int) := by
    intro k
    induction k with
    | zero => exact ⟨Int.le_refl _, Int.le_refl _⟩
    | succ k ih => unfold refK; split <;> omega
  exact this 11
theorem kindR_rng (ws : List Wrd) (i : Nat) : 0 ≤ kindR ws i ∧ kindR ws i ≤ 11 := by
  unfold kindR; split
  · exact kindT_rng _
  · omega
theorem kindR_lt {ws : List Wrd} {i : Nat} (h : kindR ws i ≠ 0) : i < ws.length := by
  unfold kindR at h; split at h
  · rename_i q; simp only [Bool.and_eq_true, decide_eq_true_eq] at q; exact q.1
  · exact absurd rfl h
def numR (ws : List Wrd) (i : Nat) (lo hi : Int) : Nat × Int × Int :=
  if lo = -1 then (i, 0, 0)
  else if (decide (ws.length ≤ i) || decide ((ws.getD i default).k ≠ 2)) then (i, 5, 0)
  else if hasB lo hi (ws.getD i default).n then (i + 1, 0, (ws.getD i default).n) else (i, 1, 0)
theorem numR_le {ws : List Wrd} {i : Nat} {lo hi : Int} (h : i ≤ ws.length) : i ≤ (numR ws i lo hi).1 ∧ (numR ws i lo hi).1 ≤ ws.length := by
  unfold numR; split
  · exact ⟨Nat.le_refl _, h⟩
  split
  · exact ⟨Nat.le_refl _, h⟩
  rename_i q
  simp only [Bool.or_eq_true, decide_eq_true_eq, not_or] at q
  split
  · simp only; omega
  · exact ⟨Nat.le_refl _, h⟩
def num2 (ws : List Wrd) (a : Nat × Int × Int) (lo hi : Int) : Nat × Int × Int := if a.2.1 ≠ 0 then (a.1, a.2.1, 0) else numR ws a.1 lo hi
def opA (ws : List Wrd) (i : Nat) : Nat × Int × Int := numR ws (i + 1) (loA (kindR ws i)) (hiA (kindR ws i))
def opB (ws : List Wrd) (i : Nat) : Nat × Int × Int := num2 ws (opA ws i) (loB (kindR ws i)) (hiB (kindR ws i))
/-- an op: where it goes on, the error, the op -/
def opR (ws : List Wrd) (i ahead : Nat) : Nat × Int × COp :=
  if kindR ws i = 0 then (i, 5, ⟨0, 0, 0⟩)
  else if 12 ≤ ahead then (i, 6, ⟨0, 0, 0⟩)
  else if (opB ws i).2.1 ≠ 0 then ((opB ws i).1, (opB ws i).2.1, ⟨kindR ws i, (opA ws i).2.2, (opB ws i).2.2⟩)
  else if isR ws (opB ws i).1 3 [59] then ((opB ws i).1 + 1, 0, ⟨kindR ws i, (opA ws i).2.2, (opB ws i).2.2⟩)
  else ((opB ws i).1, 5, ⟨kindR ws i, (opA ws i).2.2, (opB ws i).2.2⟩)
theorem opB_le {ws : List Wrd} {i : Nat} (h : kindR ws i ≠ 0) : i < (opB ws i).1 ∧ (opB ws i).1 ≤ ws.length := by
  have h1 := kindR_lt h
  have h2 := numR_le (ws := ws) (i := i + 1) (lo := loA (kindR ws i)) (hi := hiA (kindR ws i)) h1
  unfold opB num2
  split
  · unfold opA; simp only; omega
  · have h3 := numR_le (ws := ws) (i := (opA ws i).1) (lo := loB (kindR ws i)) (hi := hiB (kindR ws i)) h2.2
    unfold opA at h3 ⊢; omega
theorem isR_lt {ws : List Wrd} {i : Nat} {k : Int} {t : List UInt8} (h : isR ws i k t = true) : i < ws.length := by
  unfold isR at h; simp only [Bool.and_eq_true, decide_eq_true_eq] at h; exact h.1.1
theorem opR_lt {ws : List Wrd} {i ahead : Nat} (h : (opR ws i ahead).2.1 = 0) : i < (opR ws i ahead).1 ∧ (opR ws i ahead).1 ≤ ws.length := by
  unfold opR at h ⊢
  split at h
  · cases h
  rename_i h1
  rw [if_neg h1]
  split at h
  · cases h
  rename_i h2
  rw [if_neg h2]
  split at h
  · rename_i h3; exact absurd h h3
  rename_i h3
  rw [if_neg h3]
  split at h
  · rename_i h4
    rw [if_pos h4]
    have := opB_le h1; have := isR_lt h4
    simp only; omega
  · cases h
def loopP : Nat → List Wrd → Nat → List COp → List COp × Int × Int
  | 0, _, i, _ => ([], (i : Nat), 5)
  | f + 1, ws, i, ops =>
    if isR ws i 3 [125] then (if ops.length = 0 then ([], (i : Nat), 4) else (ops, ((i + 1 : Nat) : Int), 0))
    else if (opR ws i ops.length).2.1 ≠ 0 then ([], ((opR ws i ops.length).1 : Nat), (opR ws i ops.length).2.1)
    else loopP f ws (opR ws i ops.length).1 (ops ++ [(opR ws i ops.length).2.2])
theorem opR_end {ws : List Wrd} {i ahead : Nat} (h : ws.length ≤ i) : opR ws i ahead = (i, 5, ⟨0, 0, 0⟩) := by
  unfold opR; rw [if_pos (Classical.byContradiction fun q => by have := kindR_lt q; omega)]
theorem loopP_fuel (ws : List Wrd) : ∀ (f g i : Nat) (ops : List COp), ws.length - i + 1 ≤ f → ws.length - i + 1 ≤ g → loopP f ws i ops = loopP g ws i ops
  | 0, _, i, _, h, _ => absurd h (by omega)
  | _ + 1, 0, i, _, _, h => absurd h (by omega)
  | f + 1, g + 1, i, ops, h1, h2 => by
    simp only [loopP]
    split
    · rfl
    split
    · rfl
    · rename_i h3 h4
      have := opR_lt (Classical.not_not.1 h4)
      exact loopP_fuel ws f g _ _ (by omega) (by omega)
def loopR (ws : List Wrd) (i : Nat) (ops : List COp) : List COp × Int × Int := loopP (ws.length - i + 1) ws i ops
theorem loopR_done {ws : List Wrd} {i : Nat} {ops : List COp} (h : isR ws i 3 [125] = true) : loopR ws i ops = if ops.length = 0 then ([], (i : Int), 4) else (ops, ((i + 1 : Nat) : Int), 0) := by
  unfold loopR; rw [loopP, if_pos h]
theorem loopR_bad {ws : List Wrd} {i : Nat} {ops : List COp} (h : isR ws i 3 [125] = false) (h2 : (opR ws i ops.length).2.1 ≠ 0) : loopR ws i ops = ([], ((opR ws i ops.length).1 : Int), (opR ws i ops.length).2.1) := by
  unfold loopR; rw [loopP, if_neg (by rw [h]; simp), if_pos h2]
theorem loopR_next {ws : List Wrd} {i : Nat} {ops : List COp} (h : isR ws i 3 [125] = false) (h2 : (opR ws i ops.length).2.1 = 0) : loopR ws i ops = loopR ws (opR ws i ops.length).1 (ops ++ [(opR ws i ops.length).2.2]) := by
  have h3 := opR_lt h2
  unfold loopR; rw [loopP, if_neg (by rw [h]; simp), if_neg (by rw [h2]; simp)]
  exact loopP_fuel ws _ _ _ _ (by omega) (by omega)
/-- behind 'prog' and, perhaps, 'forever' -/
def headR (ws : List Wrd) (i : Nat) : Bool × Nat := (isR ws (i + 1) 1 wForever, if isR ws (i + 1) 1 wForever then i + 2 else i + 1)
def bodyR (ws : List Wrd) (i : Nat) : List COp × Int × Int :=
  if isR ws i 1 wProg then (if isR ws (headR ws i).2 3 [123] then loopR ws ((headR ws i).2 + 1) [] else ([], ((headR ws i).2 : Int), 5)) else ([], (i : Int), 5)
def parseO (ws : List Wrd) (p : Int) : Bool × List COp × Int × Int :=
  if p < 0 ∨ (ws.length : Int) < p then (false, [], 0, 5)
  else (decide ((bodyR ws p.toNat).2.2 = 0) && (headR ws p.toNat).1, bodyR ws p.toNat)
/-! what is parsed may be -/
theorem numR_has {ws : List Wrd} {i : Nat} {lo hi : Int} (h : (numR ws i lo hi).2.1 = 0) : hasB lo hi (numR ws i lo hi).2.2 = true := by
  unfold numR at h ⊢
  split
  · rename_i q; unfold hasB; rw [if_pos q]; rfl
  rename_i q
  rw [if_neg q] at h
  split
  · rename_i r; rw [if_pos r] at h; cases h
  rename_i r
  rw [if_neg r] at h
  split
  · assumption
  · rename_i r2; rw [if_neg r2] at h; cases h
theorem opR_right {ws : List Wrd} {i ahead : Nat} (h : (opR ws i ahead).2.1 = 0) : rightB (opR ws i ahead).2.2 = true ∧ ahead < 12 := by
  unfold opR at h ⊢
  split at h
  · cases h
  rename_i h1
  rw [if_neg h1]
  split at h
  · cases h
  rename_i h2
  rw [if_neg h2]
  split at h
  · rename_i h3; exact absurd h h3
  rename_i h3
  rw [if_neg h3]
  have h4 : (opB ws i).2.1 = 0 := Classical.not_not.1 h3
  have hA : (opA ws i).2.1 = 0 := by
    apply Classical.byContradiction; intro q
    unfold opB num2 at h4; rw [if_pos q] at h4; exact q h4
  have hb : opB ws i = numR ws (opA ws i).1 (loB (kindR ws i)) (hiB (kindR ws i)) := by unfold opB num2; rw [if_neg (by rw [hA]; simp)]
  split at h
  · rename_i h5
    rw [if_pos h5]
    refine ⟨?_, by omega⟩
    unfold rightB
    have hk := kindR_rng ws i
    have e1 : hasB (loA (kindR ws i)) (hiA (kindR ws i)) (opA ws i).2.2 = true := numR_has hA
    have e2 : hasB (loB (kindR ws i)) (hiB (kindR ws i)) (opB ws i).2.2 = true := by rw [hb] at h4 ⊢; exact numR_has h4
    simp only [e1, e2, Bool.and_true]
    unfold kindB; simp only [Bool.and_eq_true, decide_eq_true_eq]; omega
  · cases h
theorem loopP_may (ws : List Wrd) : ∀ (f i : Nat) (ops : List COp), ops.length ≤ 12 → ops.all rightB = true → (loopP f ws i ops).2.2 = 0 → mayB (loopP f ws i ops).1 = true
  | 0, i, ops, _, _, h => by cases h
  | f + 1, i, ops, h1, h2, h => by
    simp only [loopP] at h ⊢
    split at h
    · rename_i q
      rw [if_pos q]
      split at h
      · cases h
      · rename_i q2
        rw [if_neg q2]
        unfold mayB; simp only [h2, Bool.and_true, Bool.and_eq_true, decide_eq_true_eq]; omega
    · rename_i q
      rw [if_neg q]
      split at h
      · rename_i q2; exact absurd h q2
      · rename_i q2
        rw [if_neg q2]
        have h3 := opR_right (Classical.not_not.1 q2)
        exact loopP_may ws f _ _ (by simp; omega) (by rw [List.all_append, h2]; simp [h3.1]) h
theorem parse_may {ws : List Wrd} {p : Int} (h : (parseO ws p).2.2.2 = 0) : mayB (parseO ws p).2.1 = true := by
  unfold parseO at h ⊢
  split at h
  · cases h
  rename_i q
  rw [if_neg q]
  simp only at h ⊢
  unfold bodyR at h ⊢
  split at h
  · rename_i q2
    rw [if_pos q2]
    split at h
    · rename_i q3; rw [if_pos q3]; exact loopP_may ws _ _ _ (by simp) rfl h
    · cases h
  · cases h
end Go.Eng
