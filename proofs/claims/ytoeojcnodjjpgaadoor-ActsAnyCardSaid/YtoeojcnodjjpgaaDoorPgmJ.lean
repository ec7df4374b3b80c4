/- A program's words are parsed again; no program text in sight. No condition. -/
import Derived.Test.YtoeojcnodjjpgaaDoorPgmF
set_option linter.unusedVariables false
set_option linter.unusedSimpArgs false
namespace Go.Eng
open Go Go.Proofs Go.RowKit

theorem drop_len {α : Type} {ws l : List α} {p : Nat} (h : ws.drop p = l) {j : Nat} (hj : j < l.length) : p + j < ws.length := by
  have := congrArg List.length h; rw [List.length_drop] at this; omega
theorem drop_getD {α : Type} {ws l : List α} {p : Nat} (d : α) (h : ws.drop p = l) (j : Nat) : ws.getD (p + j) d = l.getD j d := by
  rw [← h, List.getD_eq_getElem?_getD, List.getD_eq_getElem?_getD, List.getElem?_drop]
theorem drop_add {α : Type} {ws a b : List α} {p : Nat} (h : ws.drop p = a ++ b) : ws.drop (p + a.length) = b := by
  rw [← List.drop_drop, h, List.drop_left]
theorem isR_of {ws : List Wrd} {i : Nat} {k : Int} {t : List UInt8} {x : Wrd} (hi : i < ws.length) (hx : ws.getD i default = x) : isR ws i k t = (decide (x.k = k) && decide (x.t = t)) := by
  unfold isR; rw [hx, decide_eq_true hi, Bool.true_and]
theorem kindT_nm {k : Int} (h : 1 ≤ k ∧ k ≤ 11) : kindT (nmT k) = k := by
  have : k = 1 ∨ k = 2 ∨ k = 3 ∨ k = 4 ∨ k = 5 ∨ k = 6 ∨ k = 7 ∨ k = 8 ∨ k = 9 ∨ k = 10 ∨ k = 11 := by omega
  rcases this with rfl | rfl | rfl | rfl | rfl | rfl | rfl | rfl | rfl | rfl | rfl <;> decide +kernel
theorem kindR_of {ws : List Wrd} {i : Nat} {x : Wrd} (hi : i < ws.length) (hx : ws.getD i default = x) (hk : x.k = 1) : kindR ws i = kindT x.t := by
  unfold kindR; rw [hx, decide_eq_true hi, decide_eq_true hk]; rfl
theorem right_inv {o : COp} (h : rightB o = true) : (1 ≤ o.k ∧ o.k ≤ 11) ∧ hasB (loA o.k) (hiA o.k) o.a = true ∧ hasB (loB o.k) (hiB o.k) o.b = true := by
  unfold rightB kindB at h; simp only [Bool.and_eq_true, decide_eq_true_eq] at h; exact ⟨h.1.1, h.1.2, h.2⟩
theorem hasB_no {n : Int} {lo hi : Int} (h : hasB lo hi n = true) (hl : lo = -1) : n = 0 := by
  unfold hasB at h; rw [if_pos hl] at h; simpa using h
/-- one op's words, from some place on -/
theorem opR_words {ws tl : List Wrd} {p ahead : Nat} {o : COp} (h : ws.drop p = opW o ++ tl) (hr : rightB o = true) (ha : ahead < 12) : opR ws p ahead = (p + (opW o).length, 0, o) := by
  obtain ⟨hk, h1, h2⟩ := right_inv hr
  obtain ⟨k, a, b⟩ := o
  simp only at hk h1 h2
  have g := fun j => drop_getD (default : Wrd) h j
  have l := fun j hj => drop_len h (j := j) hj
  have g0 : ws.getD p default = ⟨1, nmT k, 0, 0⟩ := g 0
  have l0 : p < ws.length := l 0 (by unfold opW; simp)
  have hK : kindR ws p = k := by rw [kindR_of l0 g0 rfl]; exact kindT_nm hk
  have sep : (∃ m n, opA ws p = (p + m, 0, a) ∧ opB ws p = (p + n, 0, b) ∧ n + 1 = (opW ⟨k, a, b⟩).length ∧ (opW ⟨k, a, b⟩ ++ tl).getD n default = mk3 [59]) → opR ws p ahead = (p + (opW ⟨k, a, b⟩).length, 0, ⟨k, a, b⟩) := by
    rintro ⟨m, n, eA, eB, hn, hm⟩
    have hs : isR ws (p + n) 3 [59] = true := by
      rw [isR_of (l n (by rw [List.length_append]; omega)) ((g n).trans hm)]; rfl
    rw [opR_ok (by rw [hK]; omega) ha (by rw [eA]) eB hs, hK, ← hn]; rfl
  apply sep
  unfold opA
  rw [hK]
  by_cases hA : loA k = -1
  · have ea := hasB_no h1 hA
    subst ea
    by_cases hB : loB k = -1
    · have eb := hasB_no h2 hB
      subst eb
      have e : opW ⟨k, 0, 0⟩ = [⟨1, nmT k, 0, 0⟩, mk3 [59]] := by unfold opW; rw [if_neg (by simpa using hA), if_neg (by simpa using hB)]; rfl
      refine ⟨1, 1, by rw [nR1 hA], ?_, by rw [e]; rfl, by rw [e]; rfl⟩
      rw [opB_of (j := p + 1) (a := 0) (by unfold opA; rw [hK, nR1 hA]), hK, nR1 hB]
    · have e : opW ⟨k, 0, b⟩ = [⟨1, nmT k, 0, 0⟩, ⟨2, [], b, 0⟩, mk3 [59]] := by unfold opW; rw [if_neg (by simpa using hA), if_pos (by simpa using hB)]; rfl
      have g1 : ws.getD (p + 1) default = ⟨2, [], b, 0⟩ := (g 1).trans (by rw [e]; rfl)
      have l1 : p + 1 < ws.length := l 1 (by rw [e]; simp)
      refine ⟨1, 2, by rw [nR1 hA], ?_, by rw [e]; rfl, by rw [e]; rfl⟩
      rw [opB_of (j := p + 1) (a := 0) (by unfold opA; rw [hK, nR1 hA]), hK, nR4 hB l1 (by rw [g1]) (by rw [g1]; unfold hasB at h2; rw [if_neg hB] at h2; simpa using h2), g1]
  · by_cases hB : loB k = -1
    · have eb := hasB_no h2 hB
      subst eb
      have e : opW ⟨k, a, 0⟩ = [⟨1, nmT k, 0, 0⟩, ⟨2, [], a, 0⟩, mk3 [59]] := by unfold opW; rw [if_pos (by simpa using hA), if_neg (by simpa using hB)]; rfl
      have g1 : ws.getD (p + 1) default = ⟨2, [], a, 0⟩ := (g 1).trans (by rw [e]; rfl)
      have l1 : p + 1 < ws.length := l 1 (by rw [e]; simp)
      have hA4 := nR4 hA l1 (by rw [g1]) (by rw [g1]; unfold hasB at h1; rw [if_neg hA] at h1; simpa using h1)
      rw [g1] at hA4
      refine ⟨2, 2, hA4, ?_, by rw [e]; rfl, by rw [e]; rfl⟩
      rw [opB_of (j := p + 2) (a := a) (by unfold opA; rw [hK]; exact hA4), hK, nR1 hB]
    · have e : opW ⟨k, a, b⟩ = [⟨1, nmT k, 0, 0⟩, ⟨2, [], a, 0⟩, ⟨2, [], b, 0⟩, mk3 [59]] := by unfold opW; rw [if_pos (by simpa using hA), if_pos (by simpa using hB)]; rfl
      have g1 : ws.getD (p + 1) default = ⟨2, [], a, 0⟩ := (g 1).trans (by rw [e]; rfl)
      have l1 : p + 1 < ws.length := l 1 (by rw [e]; simp)
      have g2 : ws.getD (p + 2) default = ⟨2, [], b, 0⟩ := (g 2).trans (by rw [e]; rfl)
      have l2 : p + 2 < ws.length := l 2 (by rw [e]; simp)
      have hA4 := nR4 hA l1 (by rw [g1]) (by rw [g1]; unfold hasB at h1; rw [if_neg hA] at h1; simpa using h1)
      rw [g1] at hA4
      refine ⟨2, 3, hA4, ?_, by rw [e]; rfl, by rw [e]; rfl⟩
      rw [opB_of (j := p + 2) (a := a) (by unfold opA; rw [hK]; exact hA4), hK, nR4 hB l2 (by rw [g2]) (by rw [g2]; unfold hasB at h2; rw [if_neg hB] at h2; simpa using h2), g2]
theorem opW_ne (o : COp) : ∃ r, opW o = ⟨1, nmT o.k, 0, 0⟩ :: r := ⟨_, rfl⟩
theorem loop_words {ws tl : List Wrd} : ∀ (ys ops : List COp) (p : Nat), ws.drop p = ys.flatMap opW ++ (mk3 [125] :: tl) → ys.all rightB = true → ops.length + ys.length ≤ 12 → 0 < ops.length + ys.length → loopR ws p ops = (ops ++ ys, ((p + (ys.flatMap opW).length + 1 : Nat) : Int), 0)
  | [], ops, p, h, _, _, h0 => by
    have hs : isR ws p 3 [125] = true := by
      have e : ws.getD p default = mk3 [125] := drop_getD (default : Wrd) h 0
      have l : p < ws.length := drop_len h (j := 0) (by simp)
      rw [isR_of l e]; rfl
    rw [loopR_done hs, if_neg (by simp at h0; omega)]; simp
  | o :: ys, ops, p, h, hr, hl, _ => by
    rw [List.all_cons, Bool.and_eq_true] at hr
    rw [List.length_cons] at hl
    have h1 : ws.drop p = opW o ++ (ys.flatMap opW ++ (mk3 [125] :: tl)) := by rw [h, List.flatMap_cons, List.append_assoc]
    have hop := opR_words h1 hr.1 (show ops.length < 12 by omega)
    have hn : isR ws p 3 [125] = false := by
      obtain ⟨r, hr⟩ := opW_ne o
      have e : ws.getD p default = ⟨1, nmT o.k, 0, 0⟩ := (drop_getD (default : Wrd) h1 0).trans (by rw [hr]; rfl)
      have l : p < ws.length := drop_len h1 (j := 0) (by rw [hr]; simp)
      rw [isR_of l e]; rfl
    rw [loopR_next hn (by rw [hop]), hop]
    simp only
    rw [loop_words ys (ops ++ [o]) (p + (opW o).length) (drop_add h1) hr.2 (by simp; omega) (by simp; omega)]
    simp [Nat.add_assoc]
theorem words_cons (fv : Bool) (xs : List COp) (tl : List Wrd) : wordsF fv xs ++ tl = ⟨1, wProg, 0, 0⟩ :: ((if fv then [⟨1, wForever, 0, 0⟩] else []) ++ (mk3 [123] :: (xs.flatMap opW ++ (mk3 [125] :: tl)))) := by
  unfold wordsF; cases fv <;> simp
theorem mayB_inv {xs : List COp} (h : mayB xs = true) : 0 < xs.length ∧ xs.length ≤ 12 ∧ xs.all rightB = true := by
  unfold mayB at h; simp only [Bool.and_eq_true, decide_eq_true_eq] at h; exact ⟨h.1.1, h.1.2, h.2⟩
theorem parse_words {ws tl : List Wrd} {p : Nat} {fv : Bool} {xs : List COp} (h : ws.drop p = wordsF fv xs ++ tl) (hm : mayB xs = true) : parseO ws (p : Int) = (fv, xs, ((p + (wordsF fv xs).length : Nat) : Int), 0) := by
  obtain ⟨m1, m2, m3⟩ := mayB_inv hm
  have hw := words_cons fv xs tl
  rw [hw] at h
  have l0 : p < ws.length := drop_len h (j := 0) (by simp)
  have g0 : ws.getD p default = ⟨1, wProg, 0, 0⟩ := drop_getD default h 0
  have hp : isR ws p 1 wProg = true := by rw [isR_of l0 g0]; rfl
  rw [parse_nat (Nat.le_of_lt l0)]
  cases fv with
  | true =>
    have g1 : ws.getD (p + 1) default = ⟨1, wForever, 0, 0⟩ := drop_getD default h 1
    have l1 : p + 1 < ws.length := drop_len h (j := 1) (by simp)
    have hf : isR ws (p + 1) 1 wForever = true := by rw [isR_of l1 g1]; rfl
    have hH : headR ws p = (true, p + 2) := by unfold headR; rw [hf]; rfl
    have g2 : ws.getD (p + 2) default = mk3 [123] := drop_getD default h 2
    have l2 : p + 2 < ws.length := drop_len h (j := 2) (by simp)
    have hb : isR ws (headR ws p).2 3 [123] = true := by rw [hH]; exact (isR_of l2 g2).trans rfl
    have hd : ws.drop (p + 3) = xs.flatMap opW ++ (mk3 [125] :: tl) := by rw [← List.drop_drop, h]; rfl
    rw [← body_c hp hb, hH]
    rw [loop_words xs [] (p + 2 + 1) hd m3 (by simpa using m2) (by simpa using m1)]
    simp [wordsF]; omega
  | false =>
    have g1 : ws.getD (p + 1) default = mk3 [123] := drop_getD default h 1
    have l1 : p + 1 < ws.length := drop_len h (j := 1) (by simp)
    have hf : isR ws (p + 1) 1 wForever = false := by rw [isR_of l1 g1]; rfl
    have hH : headR ws p = (false, p + 1) := by unfold headR; rw [hf]; rfl
    have hb : isR ws (headR ws p).2 3 [123] = true := by rw [hH]; exact (isR_of l1 g1).trans rfl
    have hd : ws.drop (p + 2) = xs.flatMap opW ++ (mk3 [125] :: tl) := by rw [← List.drop_drop, h]; rfl
    rw [← body_c hp hb, hH]
    rw [loop_words xs [] (p + 1 + 1) hd m3 (by simpa using m2) (by simpa using m1)]
    simp [wordsF]; omega
/-! a program's text -/
theorem joinF_ok : ∀ (l : List Wrd) (out : List UInt8), (∀ x ∈ l, (textO x).2 = 0) → out.length + 13 * l.length ≤ 8000 → (joinF l out).2 = 0
  | [], out, _, h => by unfold joinF; rw [if_neg (by simp at h; omega)]
  | w :: l, out, h, hl => by
    have h1 := h w (List.mem_cons_self ..)
    have h2 := glue_len out w
    rw [List.length_cons] at hl
    unfold joinF; rw [if_neg (by rw [h1]; simp)]
    exact joinF_ok l _ (fun x hx => h x (List.mem_cons_of_mem _ hx)) (by omega)
theorem num_ok {n : Int} (h : 0 ≤ n ∧ n ≤ 999999999) : (textO ⟨2, [], n, 0⟩).2 = 0 := by
  have : isNum ⟨2, [], n, 0⟩ = true := by unfold isNum; simp [h.1, h.2]
  unfold textO; rw [this]; rfl
theorem nm_ok {k : Int} (h : 1 ≤ k ∧ k ≤ 11) : (textO ⟨1, nmT k, 0, 0⟩).2 = 0 := by
  have : k = 1 ∨ k = 2 ∨ k = 3 ∨ k = 4 ∨ k = 5 ∨ k = 6 ∨ k = 7 ∨ k = 8 ∨ k = 9 ∨ k = 10 ∨ k = 11 := by omega
  rcases this with rfl | rfl | rfl | rfl | rfl | rfl | rfl | rfl | rfl | rfl | rfl <;> decide +kernel
theorem loA_rng {k : Int} (h : loA k ≠ -1) : 0 ≤ loA k ∧ hiA k ≤ 64 := by
  unfold loA at h ⊢; unfold hiA; (repeat' split) <;> first | omega | (exfalso; simp_all; done) | (constructor <;> omega)
theorem loB_rng {k : Int} (h : loB k ≠ -1) : 0 ≤ loB k ∧ hiB k ≤ 64 := by
  unfold loB at h ⊢; unfold hiB; (repeat' split) <;> first | omega | (exfalso; simp_all; done) | (constructor <;> omega)
theorem opW_ok {o : COp} (hr : rightB o = true) : ∀ x ∈ opW o, (textO x).2 = 0 := by
  obtain ⟨hk, h1, h2⟩ := right_inv hr
  intro x hx
  unfold opW at hx
  simp only [List.mem_cons, List.mem_append, List.not_mem_nil, or_false] at hx
  rcases hx with rfl | hx | hx | rfl
  · exact nm_ok hk
  · split at hx
    · rename_i q
      simp at hx; subst hx
      have := loA_rng q
      unfold hasB at h1; rw [if_neg (by simpa using q)] at h1; simp only [Bool.and_eq_true, decide_eq_true_eq] at h1
      exact num_ok (by omega)
    · cases hx
  · split at hx
    · rename_i q
      simp at hx; subst hx
      have := loB_rng q
      unfold hasB at h2; rw [if_neg (by simpa using q)] at h2; simp only [Bool.and_eq_true, decide_eq_true_eq] at h2
      exact num_ok (by omega)
    · cases hx
  · decide +kernel
theorem words_ok {fv : Bool} {xs : List COp} (hm : mayB xs = true) : ∀ x ∈ wordsF fv xs, (textO x).2 = 0 := by
  obtain ⟨m1, m2, m3⟩ := mayB_inv hm
  intro x hx
  unfold wordsF at hx
  simp only [List.mem_cons, List.mem_append, List.not_mem_nil, or_false, List.mem_flatMap] at hx
  rcases hx with (((rfl | hx) | rfl) | ⟨o, ho, hx⟩) | rfl
  · decide +kernel
  · cases fv
    · simp at hx
    · simp at hx; subst hx; decide +kernel
  · decide +kernel
  · exact opW_ok (List.all_eq_true.1 m3 o ho) x hx
  · decide +kernel
theorem print_err (fv : Bool) (xs : List COp) : (printO fv xs).2 = 0 ↔ mayB xs = true := by
  unfold printO
  by_cases hm : mayB xs = true
  · rw [if_pos hm]
    obtain ⟨m1, m2, m3⟩ := mayB_inv hm
    have := words_len fv xs
    exact ⟨fun _ => hm, fun _ => joinF_ok _ [] (words_ok hm) (by simp; omega)⟩
  · rw [if_neg hm]; exact ⟨fun h => (by cases h), fun h => absurd h hm⟩
end Go.Eng

