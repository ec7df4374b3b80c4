/- What is scanned and parsed may be; acts are gone over; ActsAny. No condition. -/
import Derived.Test.YtoeojcnodjjpgaaDoorActD
set_option linter.unusedVariables false
set_option linter.unusedSimpArgs false
namespace Go.Eng
open Go Go.Proofs Go.RowKit

theorem numF_rng : ∀ (k : Nat) (s : List UInt8) (n : Int), 0 ≤ n → 0 ≤ numF k s n ∧ numF k s n < (n + 1) * 10 ^ k
  | 0, s, n, h => by unfold numF; simp; omega
  | k + 1, [], n, h => by
    unfold numF
    have : (1 : Int) ≤ 10 ^ (k + 1) := Int.add_one_le_of_lt (Int.pow_pos (by decide))
    refine ⟨h, ?_⟩
    have h2 : (n + 1) * 1 ≤ (n + 1) * 10 ^ (k + 1) := Int.mul_le_mul_of_nonneg_left this (by omega)
    omega
  | k + 1, c :: l, n, h => by
    unfold numF; split
    · rename_i hd
      have hr := dig_rng hd
      have ih := numF_rng k l (n * 10 + ((c.toNat : Nat) : Int) - 48) (by omega)
      refine ⟨ih.1, Int.lt_of_lt_of_le ih.2 ?_⟩
      have h2 : (n * 10 + ((c.toNat : Nat) : Int) - 48 + 1) * 10 ^ k ≤ ((n + 1) * 10) * 10 ^ k := Int.mul_le_mul_of_nonneg_right (by omega) (Int.le_of_lt (Int.pow_pos (by decide)))
      rw [Int.pow_succ, Int.mul_comm (10 ^ k) 10, ← Int.mul_assoc]; exact h2
    · have : (1 : Int) ≤ 10 ^ (k + 1) := Int.add_one_le_of_lt (Int.pow_pos (by decide))
      refine ⟨h, ?_⟩
      have h2 : (n + 1) * 1 ≤ (n + 1) * 10 ^ (k + 1) := Int.mul_le_mul_of_nonneg_left this (by omega)
      omega
def okN (x : Wrd) : Prop := x.k = 2 → 0 ≤ x.n ∧ x.n ≤ 999999999
theorem one_okN (s : List UInt8) (i : Nat) : okN (oneO s i).1 := by
  unfold oneO okN
  split
  · intro h; cases h
  split
  · intro _
    have := numF_rng 9 (s.drop i) 0 (by decide)
    simp only; omega
  · intro h; cases h
theorem scanF_okN (s : List UInt8) : ∀ (f i : Nat) (last : Int) (out : List Wrd), (∀ x ∈ out, okN x) → ∀ x ∈ (scanF f s i last out).1, okN x
  | 0, i, last, out, h => h
  | f + 1, i, last, out, h => by
    rw [scanF]
    split
    · exact h
    split
    · exact scanF_okN s f _ _ _ h
    split
    · exact scanF_okN s f _ _ _ h
    split
    · intro x hx; cases hx
    · refine scanF_okN s f _ _ _ (fun x hx => ?_)
      rcases List.mem_append.1 hx with hx | hx
      · exact h x hx
      · rw [List.mem_singleton] at hx; subst hx; exact one_okN s i
theorem scan_okN (s : List UInt8) : ∀ x ∈ (scanO s).1, okN x := by
  unfold scanO; split
  · intro x hx; cases hx
  · exact scanF_okN s _ _ _ _ (fun x hx => by cases hx)
theorem numG_ok {ws : List Wrd} (hw : ∀ x ∈ ws, okN x) : ∀ (f j i : Nat) (xs : List Int), xs.length = 4 → i + f ≤ 4 → (∀ p, p < 4 → 0 ≤ xs.getD p 0 ∧ xs.getD p 0 ≤ 999999999 ∧ (i ≤ p → xs.getD p 0 = 0)) → (numG ws f j i xs).2.1 = 0 → ∀ p, p < 4 → 0 ≤ (numG ws f j i xs).2.2.getD p 0 ∧ (numG ws f j i xs).2.2.getD p 0 ≤ 999999999 ∧ (i + f ≤ p → (numG ws f j i xs).2.2.getD p 0 = 0)
  | 0, j, i, xs, hl, hf, h, _ => h
  | f + 1, j, i, xs, hl, hf, h, he => by
    unfold numG at he ⊢
    split at he
    · cases he
    · rename_i q
      rw [if_neg q]
      simp only [Bool.or_eq_true, decide_eq_true_eq, not_or, Classical.not_not] at q
      have hx : ws.getD j default ∈ ws := List.mem_of_getElem? (getq default (by omega))
      have hn := hw _ hx q.2
      have := numG_ok hw f (j + 1) (i + 1) (xs.set i (ws.getD j default).n) (by simpa using hl) (by omega) (fun p hp => by
        by_cases e : p = i
        · subst e
          rw [List.getD_eq_getElem?_getD, List.getElem?_set_self (by omega)]
          exact ⟨hn.1, hn.2, fun q => absurd q (by omega)⟩
        · rw [List.getD_eq_getElem?_getD, List.getElem?_set_ne (by omega), ← List.getD_eq_getElem?_getD]
          have h1 := h p hp
          exact ⟨h1.1, h1.2.1, fun q => h1.2.2 (by omega)⟩) he
      intro p hp
      have h2 := this p hp
      exact ⟨h2.1, h2.2.1, fun q => h2.2.2 (by omega)⟩
theorem oneA_right {ws : List Wrd} (hw : ∀ x ∈ ws, okN x) {i : Nat} (h : (oneA ws i).2.2 = 0) : rightA (oneA ws i).1 = true := by
  unfold oneA at h ⊢
  split at h
  · cases h
  rename_i h1
  rw [if_neg h1]
  split at h
  · rename_i h2; exact absurd h h2
  rename_i h2
  rw [if_neg h2]
  split at h
  · rename_i h3
    rw [if_pos h3]
    have hm := manyA_le (kindA ws i)
    have hr := kindA_rng ws i
    have hk : kindOk (kindA ws i) = true := by unfold kindOk; simp only [Bool.and_eq_true, decide_eq_true_eq]; omega
    have hG := numG_ok hw (manyA (kindA ws i)) (i + 1) 0 zer4 rfl (by omega) (fun p hp => by
      have : p = 0 ∨ p = 1 ∨ p = 2 ∨ p = 3 := by omega
      rcases this with rfl | rfl | rfl | rfl <;> simp [zer4]) (Classical.not_not.1 h2)
    refine right_all hk (fun j hj => ?_)
    have e : (numsA (toA (kindA ws i) (numK ws i).2.2)).getD j 0 = (numK ws i).2.2.getD j 0 := by
      have : j = 0 ∨ j = 1 ∨ j = 2 ∨ j = 3 := by omega
      rcases this with rfl | rfl | rfl | rfl <;> rfl
    have g := hG j hj
    show numB (kindA ws i) j ((numsA (toA (kindA ws i) (numK ws i).2.2)).getD j 0) = true
    rw [e]
    unfold numB
    unfold numK
    simp only [Bool.and_eq_true, Bool.or_eq_true, decide_eq_true_eq]
    refine ⟨⟨g.1, g.2.1⟩, ?_⟩
    by_cases q : j < manyA (kindA ws i)
    · exact .inl q
    · exact .inr (g.2.2 (by omega))
  · cases h
theorem loopAF_may {ws : List Wrd} (hw : ∀ x ∈ ws, okN x) : ∀ (f i : Nat) (out : List Act), out.length ≤ 4000 → out.all rightA = true → mayA (loopAF f ws i out).1 = true
  | 0, i, out, h1, h2 => by unfold loopAF mayA; simp [h1, h2]
  | f + 1, i, out, h1, h2 => by
    unfold loopAF
    split
    · unfold mayA; simp [h1, h2]
    split
    · rfl
    split
    · rfl
    split
    · rfl
    · rename_i a b c d
      refine loopAF_may hw f _ _ (by rw [List.length_append, List.length_singleton]; omega) ?_
      rw [List.all_append, h2]
      simp only [List.all_cons, List.all_nil, Bool.and_true, Bool.true_and]
      exact oneA_right hw (Classical.not_not.1 d)
theorem acts_may {s : List UInt8} {p : Int} : mayA (actsO (scanO s).1 p).1 = true := by
  unfold actsO; split
  · rfl
  · exact loopAF_may (scan_okN s) _ _ _ (Nat.zero_le _) rfl
theorem acts_len {ws : List Wrd} {p : Int} (h : mayA (actsO ws p).1 = true) : (actsO ws p).1.length ≤ 4000 := by
  unfold mayA at h; simp only [Bool.and_eq_true, decide_eq_true_eq] at h; exact h.1
theorem eqA_at {xs ys : List Act} {i : Nat} (hl : xs.length = ys.length) (h : i < xs.length) (hp : xs.take i = ys.take i) (e : xs.getD i default = ys.getD i default) : xs.take (i + 1) = ys.take (i + 1) := by
  rw [take_snoc default h, take_snoc default (hl ▸ h), hp, e]
theorem fA_veqs (a b : Act) : veqs (fA a) (fA b) = decide (a = b) := by
  cases a; cases b; simp only [veqs, veq, fA, Bool.and_true, Act.mk.injEq, Bool.decide_and]; rfl
end Go.Eng

