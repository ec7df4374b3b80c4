/- A lottery's law: who wins when somebody has lent to the next one; no program. No condition. -/
import Derived.Test.YtpemcncnehhgfaaLotLaw
set_option linter.unusedVariables false
set_option linter.unusedSimpArgs false
namespace Go.Eng
open Go Go.RowKit
section
variable {P : Program} {ty : TypeId} {e : Env} {t u : TypeId} {x y : Operand}
theorem ov_remK {k : IntKind} {a b : Int} (hx : ev e x = some (.int k a)) (hy : ev e y = some (.int k b)) (ha : 0 ≤ a) (h : 0 < b) : OpP P (.binOp .rem t x y u) ty e (.int k (a % b)) := ov_arith hx hy (fun w => by
  have hb : ¬ b = 0 := by omega
  have hd : a.tmod b = a % b := Int.tmod_eq_emod_of_nonneg ha
  simp [binOp, Op.intDiv, hb, hd])
end
/-- Who wins when the one has lent to the next. -/
theorem lend_pick : ∀ (i : Nat) (l : List Int) (k n : Int), i + 1 < l.length → 0 ≤ n → n ≤ l.getD i 0 → 0 ≤ l.getD (i + 1) 0 → 0 ≤ k →
    pick ((l.set i (l.getD i 0 - n)).set (i + 1) (l.getD (i + 1) 0 + n)) k = pick l k ∨ (pick l k = i ∧ pick ((l.set i (l.getD i 0 - n)).set (i + 1) (l.getD (i + 1) 0 + n)) k = i + 1)
  | 0, x :: y :: t, k, n, _, h0, h1, h2, hk => by
    simp only [List.getD_cons_zero, List.getD_cons_succ, List.set_cons_zero, List.set_cons_succ, Nat.zero_add] at *
    simp only [pick]
    by_cases a1 : k < x - n
    · rw [if_pos a1, if_pos (by omega)]; exact .inl rfl
    · rw [if_neg a1]
      by_cases a2 : k < x
      · rw [if_pos a2, if_pos (by omega)]; exact .inr ⟨rfl, rfl⟩
      · rw [if_neg a2]
        by_cases a3 : k - x < y
        · rw [if_pos a3, if_pos (by omega)]; exact .inl rfl
        · rw [if_neg a3, if_neg (by omega), show k - (x - n) - (y + n) = k - x - y by omega]; exact .inl rfl
  | 0, [], _, _, h, _, _, _, _ => by simp at h
  | 0, [_], _, _, h, _, _, _, _ => by simp at h
  | i + 1, [], _, _, h, _, _, _, _ => by simp at h
  | i + 1, z :: l, k, n, h, h0, h1, h2, hk => by
    simp only [List.getD_cons_succ, List.set_cons_succ, List.length_cons] at *
    simp only [pick]
    by_cases a1 : k < z
    · rw [if_pos a1, if_pos a1]; exact .inl rfl
    · rw [if_neg a1, if_neg a1]
      by_cases hz : 0 ≤ k - z
      · rcases lend_pick i l (k - z) n (by omega) h0 h1 h2 hz with h | ⟨h, h'⟩
        · exact .inl (by rw [h])
        · exact .inr ⟨by rw [h], by rw [h']⟩
      · omega
theorem sumL_set : ∀ (l : List Int) (i : Nat) (v : Int), i < l.length → sumL (l.set i v) = sumL l - l.getD i 0 + v
  | [], i, v, h => by simp at h
  | x :: l, 0, v, h => by simp [sumL]; omega
  | x :: l, i + 1, v, h => by
    simp only [List.length_cons] at h
    simp only [List.set_cons_succ, sumL, List.getD_cons_succ, sumL_set l i v (by omega)]; omega
theorem bringL_id {l : List Int} (h : ∀ x ∈ l, 0 ≤ x ∧ x ≤ 1000000) (hl : l.length ≤ 16) : bringL l = l := by
  rw [bringL, List.take_of_length_le hl]
  conv => rhs; rw [← List.map_id l]
  apply List.map_congr_left
  intro x hx
  have := h x hx
  unfold brg; simp only [id]; split <;> (try split) <;> omega
/-- the law's words -/
theorem lends_law {l : List Int} {i : Nat} {n : Int} {d : BitVec 64} (h : ∀ x ∈ l, 0 ≤ x ∧ x ≤ 1000) (hl : l.length ≤ 16) (hi : i + 1 < l.length) (hn : 0 ≤ n) (hle : n ≤ l.getD i 0) :
    lendL l i ((i : Int) + 1) n = (l.set i (l.getD i 0 - n)).set (i + 1) (l.getD (i + 1) 0 + n) ∧ (∀ x ∈ lendL l i ((i : Int) + 1) n, 0 ≤ x ∧ x ≤ 1000000) ∧ lendErr l i ((i : Int) + 1) n = 0 ∧
    (winI (lendL l i ((i : Int) + 1) n) d = winI l d ∨ (winI l d = i ∧ winI (lendL l i ((i : Int) + 1) n) d = (i : Int) + 1)) ∧ (0 ≤ winI (lendL l i ((i : Int) + 1) n) d ↔ 0 ≤ winI l d) := by
  have gi : 0 ≤ l.getD i 0 ∧ l.getD i 0 ≤ 1000 := by
    rw [List.getD_eq_getElem?_getD, List.getElem?_eq_getElem (by omega)]; exact h _ (List.getElem_mem _)
  have gj : 0 ≤ l.getD (i + 1) 0 ∧ l.getD (i + 1) 0 ≤ 1000 := by
    rw [List.getD_eq_getElem?_getD, List.getElem?_eq_getElem hi]; exact h _ (List.getElem_mem _)
  have e1 : ((i : Int) + 1).toNat = i + 1 := by omega
  have e2 : (i : Int).toNat = i := Int.toNat_natCast i
  have he : lendErr l i ((i : Int) + 1) n = 0 := lendErr0 (by omega) (by rw [e2]; omega) (by rw [e1]; omega)
  have hL : lendL l i ((i : Int) + 1) n = (l.set i (l.getD i 0 - n)).set (i + 1) (l.getD (i + 1) 0 + n) := by unfold lendL; rw [if_pos he, e1, e2]
  have hb : ∀ x ∈ lendL l i ((i : Int) + 1) n, 0 ≤ x ∧ x ≤ 1000000 := by
    intro x hx
    rw [hL] at hx
    rcases List.mem_or_eq_of_mem_set hx with hx | rfl
    · rcases List.mem_or_eq_of_mem_set hx with hx | rfl
      · have := h x hx; omega
      · omega
    · omega
  have hlen : (lendL l i ((i : Int) + 1) n).length = l.length := by rw [hL]; simp
  have hs : sumL (lendL l i ((i : Int) + 1) n) = sumL l := by
    rw [hL, sumL_set _ _ _ (by simp; omega), getD_set_ne (by omega), sumL_set _ _ _ (by omega)]; omega
  have b1 : bringL l = l := bringL_id (fun x hx => by have := h x hx; omega) hl
  have b2 : bringL (lendL l i ((i : Int) + 1) n) = lendL l i ((i : Int) + 1) n := bringL_id hb (by omega)
  have w1 := winI_rng l d
  have w2 := winI_rng (lendL l i ((i : Int) + 1) n) d
  rw [b1] at w1; rw [b2] at w2
  rw [hs] at w2
  have hwin : winI (lendL l i ((i : Int) + 1) n) d = winI l d ∨ (winI l d = i ∧ winI (lendL l i ((i : Int) + 1) n) d = (i : Int) + 1) := by
    by_cases h0 : sumL l = 0
    · exact .inl (by rw [w1.2.2.1 h0, w2.2.2.1 h0])
    · have hd : drawK (lendL l i ((i : Int) + 1) n) d = drawK l d := by unfold drawK; rw [hs]
      have hp := sumL_rng l (fun x hx => by have := h x hx; omega)
      have hk := drawK_rng (l := l) (n := d) (by omega)
      unfold winI winL
      rw [b1, b2, hs, if_neg h0, if_neg h0, hd, hL]
      rcases lend_pick i l (drawK l d) n hi hn hle gj.1 hk.1 with h | ⟨h, h'⟩
      · exact .inl (by rw [h])
      · exact .inr ⟨by rw [h], by rw [h']; omega⟩
  refine ⟨hL, hb, he, hwin, ?_⟩
  rcases hwin with h | ⟨h, h'⟩
  · rw [h]
  · omega
end Go.Eng
