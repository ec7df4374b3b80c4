/- Acts of words: how they are parsed; no program text in sight. No condition. -/
import Derived.Test.YtoeojcnodjjpgaaDoorPgmLaw
set_option linter.unusedVariables false
set_option linter.unusedSimpArgs false
namespace Go.Eng
open Go Go.RowKit

structure Act where
  k : Int
  a : Int
  b : Int
  c : Int
  d : Int
deriving DecidableEq
instance : Inhabited Act := ⟨⟨0, 0, 0, 0, 0⟩⟩
def fA (o : Act) : List Value := [.int .i64 o.k, .int .i64 o.a, .int .i64 o.b, .int .i64 o.c, .int .i64 o.d]
def acW : List (List UInt8) := [[], [116, 105, 99, 107], [102, 105, 114, 101], [98, 97, 108, 97, 110, 99, 101], [115, 112, 97, 119, 110], [107, 105, 108, 108], [103, 114, 111, 117, 112], [109, 111, 118, 101], [114, 111, 117, 110, 100]]
def acT (k : Int) : List UInt8 := if 0 ≤ k ∧ k < 9 then acW.getD k.toNat [] else []
def manyA (k : Int) : Nat := if k = 1 ∨ k = 5 ∨ k = 8 then 1 else if k = 6 ∨ k = 7 then 2 else if k = 4 then 4 else 0
theorem manyA_le (k : Int) : manyA k ≤ 4 := by unfold manyA; (repeat' split) <;> omega
def manyL : List Int := [0, 1, 0, 0, 4, 1, 2, 2, 1]
theorem manyL_get {k : Int} (h : 0 ≤ k ∧ k < 9) : manyL.getD k.toNat 0 = (manyA k : Int) := by
  have : k = 0 ∨ k = 1 ∨ k = 2 ∨ k = 3 ∨ k = 4 ∨ k = 5 ∨ k = 6 ∨ k = 7 ∨ k = 8 := by omega
  rcases this with rfl | rfl | rfl | rfl | rfl | rfl | rfl | rfl | rfl <;> rfl
def kindOk (k : Int) : Bool := decide (1 ≤ k) && decide (k ≤ 8)
theorem acT_empty (k : Int) : decide (acT k ≠ []) = kindOk k := by
  unfold kindOk
  by_cases h : 0 ≤ k ∧ k < 9
  · have : k = 0 ∨ k = 1 ∨ k = 2 ∨ k = 3 ∨ k = 4 ∨ k = 5 ∨ k = 6 ∨ k = 7 ∨ k = 8 := by omega
    rcases this with rfl | rfl | rfl | rfl | rfl | rfl | rfl | rfl | rfl <;> decide +kernel
  · unfold acT; rw [if_neg h]
    by_cases h2 : 1 ≤ k
    · rw [show decide (k ≤ 8) = false from decide_eq_false (by omega)]; simp
    · rw [show decide (1 ≤ k) = false from decide_eq_false h2]; simp
def numsA (o : Act) : List Int := [o.a, o.b, o.c, o.d]
def numB (k : Int) (i : Nat) (n : Int) : Bool := decide (0 ≤ n) && decide (n ≤ 999999999) && (decide (i < manyA k) || decide (n = 0))
def rightA (o : Act) : Bool := kindOk o.k && (numB o.k 0 o.a && numB o.k 1 o.b && numB o.k 2 o.c && numB o.k 3 o.d)
theorem right_all {o : Act} (hk : kindOk o.k = true) (h : ∀ j, j < 4 → numB o.k j ((numsA o).getD j 0) = true) : rightA o = true := by
  unfold rightA
  have h0 := h 0 (by decide); have h1 := h 1 (by decide); have h2 := h 2 (by decide); have h3 := h 3 (by decide)
  simp only [numsA, List.getD_cons_zero, List.getD_cons_succ] at h0 h1 h2 h3
  rw [hk, h0, h1, h2, h3]; rfl
theorem right_not {o : Act} {j : Nat} (hj : j < 4) (h : numB o.k j ((numsA o).getD j 0) = false) : rightA o = false := by
  unfold rightA
  have : j = 0 ∨ j = 1 ∨ j = 2 ∨ j = 3 := by omega
  rcases this with rfl | rfl | rfl | rfl <;> (simp only [numsA, List.getD_cons_zero, List.getD_cons_succ] at h; rw [h]; simp)
def mayA (l : List Act) : Bool := decide (l.length ≤ 4000) && l.all rightA
def kindAT (t : List UInt8) : Int := mx0 (fixI (fun y => decide (t = y)) acW)
def kindA (ws : List Wrd) (i : Nat) : Int := if (decide (i < ws.length) && decide ((ws.getD i default).k = 1)) then kindAT (ws.getD i default).t else 0
/-- so many numbers, from a place on: where it goes on, the error, what was read -/
def numG (ws : List Wrd) : Nat → Nat → Nat → List Int → Nat × Int × List Int
  | 0, j, _, xs => (j, 0, xs)
  | f + 1, j, i, xs => if (decide (ws.length ≤ j) || decide ((ws.getD j default).k ≠ 2)) then (j, 5, xs) else numG ws f (j + 1) (i + 1) (xs.set i (ws.getD j default).n)
def toA (k : Int) (xs : List Int) : Act := ⟨k, xs.getD 0 0, xs.getD 1 0, xs.getD 2 0, xs.getD 3 0⟩
def zer4 : List Int := [0, 0, 0, 0]
def numK (ws : List Wrd) (i : Nat) : Nat × Int × List Int := numG ws (manyA (kindA ws i)) (i + 1) 0 zer4
theorem numG_le (ws : List Wrd) : ∀ (f j i : Nat) (xs : List Int), j ≤ ws.length → j ≤ (numG ws f j i xs).1 ∧ (numG ws f j i xs).1 ≤ ws.length
  | 0, j, i, xs, h => ⟨Nat.le_refl _, h⟩
  | f + 1, j, i, xs, h => by
    unfold numG; split
    · exact ⟨Nat.le_refl _, h⟩
    · rename_i q
      simp only [Bool.or_eq_true, decide_eq_true_eq, not_or] at q
      have := numG_le ws f (j + 1) (i + 1) (xs.set i (ws.getD j default).n) (by omega)
      omega
/-- one act: the act, where it goes on, the error -/
def oneA (ws : List Wrd) (i : Nat) : Act × Nat × Int :=
  if kindA ws i = 0 then (default, i, 5)
  else if (numK ws i).2.1 ≠ 0 then (default, (numK ws i).1, (numK ws i).2.1)
  else if isR ws (numK ws i).1 3 [59] then (toA (kindA ws i) (numK ws i).2.2, (numK ws i).1 + 1, 0)
  else (default, (numK ws i).1, 5)
theorem kindA_lt {ws : List Wrd} {i : Nat} (h : kindA ws i ≠ 0) : i < ws.length := by
  unfold kindA at h; split at h
  · rename_i q; simp only [Bool.and_eq_true, decide_eq_true_eq] at q; exact q.1
  · exact absurd rfl h
theorem oneA_lt {ws : List Wrd} {i : Nat} (h : (oneA ws i).2.2 = 0) : i < (oneA ws i).2.1 ∧ (oneA ws i).2.1 ≤ ws.length := by
  unfold oneA at h ⊢
  split at h
  · cases h
  rename_i h1
  rw [if_neg h1]
  split at h
  · rename_i h2; exact absurd h h2
  rename_i h2
  rw [if_neg h2]
  split at h
  · rename_i h3
    rw [if_pos h3]
    have h4 := numG_le ws (manyA (kindA ws i)) (i + 1) 0 zer4 (kindA_lt h1)
    have h5 := isR_lt h3
    unfold numK at h5 ⊢
    simp only; omega
  · cases h
def loopAF : Nat → List Wrd → Nat → List Act → List Act × Int × Int
  | 0, _, i, out => (out, (i : Nat), 0)
  | f + 1, ws, i, out =>
    if ws.length ≤ i then (out, (i : Nat), 0)
    else if kindA ws i = 0 then ([], (i : Nat), 5)
    else if out.length = 4000 then ([], (i : Nat), 6)
    else if (oneA ws i).2.2 ≠ 0 then ([], ((oneA ws i).2.1 : Nat), (oneA ws i).2.2)
    else loopAF f ws (oneA ws i).2.1 (out ++ [(oneA ws i).1])
theorem loopAF_fuel (ws : List Wrd) : ∀ (f g i : Nat) (out : List Act), ws.length - i ≤ f → ws.length - i ≤ g → loopAF f ws i out = loopAF g ws i out
  | 0, 0, i, out, _, _ => rfl
  | 0, g + 1, i, out, h1, h2 => by rw [loopAF, loopAF, if_pos (by omega)]
  | f + 1, 0, i, out, h1, h2 => by rw [loopAF, loopAF, if_pos (by omega)]
  | f + 1, g + 1, i, out, h1, h2 => by
    simp only [loopAF]
    split
    · rfl
    split
    · rfl
    split
    · rfl
    split
    · rfl
    · rename_i h4
      have := oneA_lt (Classical.not_not.1 h4)
      exact loopAF_fuel ws f g _ _ (by omega) (by omega)
def loopA (ws : List Wrd) (i : Nat) (out : List Act) : List Act × Int × Int := loopAF (ws.length - i) ws i out
theorem loopA_end {ws : List Wrd} {i : Nat} {out : List Act} (h : ws.length ≤ i) : loopA ws i out = (out, (i : Int), 0) := by
  unfold loopA; rw [show ws.length - i = 0 by omega]; rfl
theorem loopA_step {ws : List Wrd} {i : Nat} {out : List Act} (h : i < ws.length) : loopA ws i out =
    if kindA ws i = 0 then ([], (i : Int), 5)
    else if out.length = 4000 then ([], (i : Int), 6)
    else if (oneA ws i).2.2 ≠ 0 then ([], ((oneA ws i).2.1 : Int), (oneA ws i).2.2)
    else loopA ws (oneA ws i).2.1 (out ++ [(oneA ws i).1]) := by
  unfold loopA
  obtain ⟨f, hf⟩ : ∃ f, ws.length - i = f + 1 := ⟨ws.length - i - 1, by omega⟩
  rw [hf, loopAF, if_neg (by omega)]
  split
  · rfl
  split
  · rfl
  split
  · rfl
  · rename_i h4
    have := oneA_lt (Classical.not_not.1 h4)
    exact loopAF_fuel ws _ _ _ _ (by omega) (by omega)
def actsO (ws : List Wrd) (p : Int) : List Act × Int × Int := if p < 0 ∨ (ws.length : Int) < p then ([], 0, 5) else loopA ws p.toNat []
theorem acts_nat {ws : List Wrd} {i : Nat} (hi : i ≤ ws.length) : actsO ws (i : Int) = loopA ws i [] := by
  unfold actsO; rw [if_neg (by omega), Int.toNat_natCast]
/-! what is parsed may be -/
end Go.Eng
