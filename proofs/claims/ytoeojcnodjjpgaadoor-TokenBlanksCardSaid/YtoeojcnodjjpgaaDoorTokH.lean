/- What is joined is scanned again, but for its places; no program text in sight. No condition. -/
import Derived.Test.YtoeojcnodjjpgaaDoorTokG
set_option linter.unusedVariables false
set_option linter.unusedSimpArgs false
namespace Go.Eng
open Go Go.Proofs Go.RowKit

def valD (acc : Int) : List UInt8 → Int
  | [] => acc
  | c :: l => valD (acc * 10 + ((c.toNat : Nat) : Int) - 48) l
theorem valD_snoc (l : List UInt8) : ∀ (acc : Int) (c : UInt8), valD acc (l ++ [c]) = valD acc l * 10 + ((c.toNat : Nat) : Int) - 48 := by
  induction l with
  | nil => intro acc c; rfl
  | cons a l ih => intro acc c; rw [List.cons_append, valD, ih]; rfl
theorem numF_app : ∀ (l rest : List UInt8) (k : Nat) (acc : Int), l.all digB = true → l.length ≤ k → numF k (l ++ rest) acc = numF (k - l.length) rest (valD acc l)
  | [], rest, k, acc, _, _ => rfl
  | c :: l, rest, 0, acc, _, h => absurd h (by simp)
  | c :: l, rest, k + 1, acc, ha, h => by
    rw [List.all_cons, Bool.and_eq_true] at ha
    rw [List.cons_append, numF, if_pos ha.1, numF_app l rest k _ ha.2 (by simpa using h), valD, List.length_cons, Nat.add_sub_add_right]
def offB (p : UInt8 → Bool) : List UInt8 → Prop
  | [] => True
  | c :: _ => p c = false
theorem numF_off {rest : List UInt8} (h : offB digB rest) (k : Nat) (acc : Int) : numF k rest acc = acc := by
  cases k with
  | zero => rfl
  | succ k =>
    cases rest with
    | nil => rfl
    | cons c l => rw [numF, if_neg (by rw [show digB c = false from h]; simp)]
theorem tw_app {p : UInt8 → Bool} : ∀ {t rest : List UInt8}, t.all p = true → offB p rest → (t ++ rest).takeWhile p = t
  | [], [], _, _ => rfl
  | [], c :: l, _, h => by rw [List.nil_append, List.takeWhile_cons, show p c = false from h]; rfl
  | c :: t, rest, ha, h => by
    rw [List.all_cons, Bool.and_eq_true] at ha
    rw [List.cons_append, List.takeWhile_cons, if_pos ha.1, tw_app ha.2 h]
theorem dig_of {d : Nat} (h : d < 10) : digB (UInt8.ofNat (48 + d)) = true ∧ ((((UInt8.ofNat (48 + d)).toNat : Nat) : Int)) - 48 = d := by
  have e : (UInt8.ofNat (48 + d)).toNat = 48 + d := by simp; omega
  unfold digB digN
  rw [e]; simp only [Bool.and_eq_true, decide_eq_true_eq]; omega
theorem digF_dig : ∀ (f u : Nat), (digF f u).all digB = true
  | 0, u => rfl
  | f + 1, u => by
    unfold digF; split
    · rename_i h; rw [List.all_cons, (dig_of h).1]; rfl
    · rw [List.all_append, digF_dig f, List.all_cons, (dig_of (Nat.mod_lt u (by decide))).1]; rfl
theorem digF_val : ∀ (f u : Nat), u < 10 ^ f → valD 0 (digF f u) = (u : Int)
  | 0, u, h => by have : u = 0 := by simpa using h
                  subst this; rfl
  | f + 1, u, h => by
    unfold digF; split
    · rename_i q; have := (dig_of q).2; simp only [valD]; omega
    · rename_i q
      have h2 := (dig_of (Nat.mod_lt u (show 0 < 10 by decide))).2
      rw [valD_snoc, digF_val f (u / 10) (by rw [Nat.pow_succ] at h; omega)]; omega
theorem digF_short : ∀ (k f u : Nat), u < 10 ^ (k + 1) → (digF f u).length ≤ k + 1
  | k, 0, u, _ => Nat.zero_le _
  | 0, f + 1, u, h => by unfold digF; rw [if_pos (by simpa using h)]; simp
  | k + 1, f + 1, u, h => by
    unfold digF; split
    · simp
    · have := digF_short k f (u / 10) (by rw [Nat.pow_succ] at h; omega)
      rw [List.length_append, List.length_singleton]; omega
theorem digF_head : ∀ (f u : Nat), 1 ≤ u → u < 10 ^ f → ∃ c r, digF f u = c :: r ∧ c ≠ 48
  | 0, u, h1, h => absurd h (by simp; omega)
  | f + 1, u, h1, h => by
    unfold digF; split
    · rename_i q
      refine ⟨_, _, rfl, fun e => ?_⟩
      have h2 := (dig_of q).2
      rw [e] at h2; simp at h2; omega
    · obtain ⟨c, r, e, hc⟩ := digF_head f (u / 10) (by omega) (by rw [Nat.pow_succ] at h; omega)
      exact ⟨c, r ++ [UInt8.ofNat (48 + u % 10)], by rw [e]; rfl, hc⟩
theorem digF_ne {f u : Nat} : digF (f + 1) u ≠ [] := by unfold digF; split <;> simp
/-! one word, from its text on -/
theorem runL_of {p : UInt8 → Bool} {s t rest : List UInt8} {i : Nat} (h : s.drop i = t ++ rest) (ht : t.all p = true) (hr : offB p rest) : runL p s i = t.length := by
  unfold runL; rw [h, tw_app ht hr]
theorem getD_of {s t rest : List UInt8} {c : UInt8} {i : Nat} (h : s.drop i = (c :: t) ++ rest) : s.getD i 0 = c ∧ i < s.length := by
  have h1 : i < s.length := by have := congrArg List.length h; rw [List.length_drop] at this; simp at this; omega
  refine ⟨?_, h1⟩
  rw [drop_get h1, List.cons_append] at h
  exact (List.cons.inj h).1
theorem one_name {s t rest : List UInt8} {i : Nat} (h : s.drop i = t ++ rest) (ht : t.all letB = true) (h0 : t ≠ []) (hl : t.length ≤ 12) (hr : offB letB rest) : oneO s i = (⟨1, t, 0, (i : Nat)⟩, i + t.length, true) := by
  match t, h0 with
  | c :: t, _ =>
    obtain ⟨hc, _⟩ := getD_of h
    have hlc : letB c = true := by rw [List.all_cons, Bool.and_eq_true] at ht; exact ht.1
    unfold oneO
    rw [hc, if_pos hlc, runL_of h ht hr, h, List.take_left, decide_eq_true hl]
theorem one_num {s rest : List UInt8} {i : Nat} {n : Int} (h0 : 0 ≤ n ∧ n ≤ 999999999) (h : s.drop i = digF 10 n.toNat ++ rest) (hr : offB digB rest) : oneO s i = (⟨2, [], n, (i : Nat)⟩, i + (digF 10 n.toNat).length, true) := by
  have hn : n.toNat < 10 ^ 9 := by omega
  have hd := digF_dig 10 n.toNat
  have hlen := digF_short 8 10 n.toNat hn
  have hv := digF_val 10 n.toNat (Nat.lt_of_lt_of_le hn (by decide))
  obtain ⟨c, t, e⟩ : ∃ c t, digF 10 n.toNat = c :: t := by
    cases hq : digF 10 n.toNat with
    | nil => exact absurd hq digF_ne
    | cons c t => exact ⟨c, t, rfl⟩
  have hrun := runL_of h hd hr
  have hnum : numF 9 (s.drop i) 0 = n := by
    rw [h, numF_app _ _ _ _ hd hlen, numF_off hr, hv]; omega
  obtain ⟨hc, _⟩ := getD_of (t := t) (c := c) (by rw [h, e])
  have hdc : digB c = true := by rw [e, List.all_cons, Bool.and_eq_true] at hd; exact hd.1
  unfold oneO
  rw [hc, if_neg (by rw [dig_let c hdc]; simp), if_pos hdc, hrun, hnum, decide_eq_true hlen, Bool.true_and]
  have : (decide ((((c.toNat : Nat) : Int)) ≠ 48) || decide ((digF 10 n.toNat).length = 1)) = true := by
    by_cases q : n.toNat < 10
    · have : (digF 10 n.toNat).length = 1 := by unfold digF; rw [if_pos q]; rfl
      rw [decide_eq_true this, Bool.or_true]
    · obtain ⟨c', r, e', hc'⟩ := digF_head 10 n.toNat (by omega) (Nat.lt_of_lt_of_le hn (by decide))
      rw [e] at e'
      obtain rfl := (List.cons.inj e').1
      rw [decide_eq_true (show (((c.toNat : Nat) : Int)) ≠ 48 by
        intro q; apply hc'; apply UInt8.toNat_inj.1; simp; omega), Bool.true_or]
  rw [this]
theorem one_mrk {s rest : List UInt8} {c : UInt8} {i : Nat} (h : s.drop i = [c] ++ rest) (hm : markB c = true) : oneO s i = (⟨3, [c], 0, (i : Nat)⟩, i + 1, true) := by
  obtain ⟨hc, _⟩ := getD_of h
  have hl : letB c = false := by
    cases hl : letB c with
    | false => rfl
    | true => rw [let_mark c hl] at hm; cases hm
  have hd : digB c = false := by
    cases hd : digB c with
    | false => rfl
    | true => rw [dig_mark c hd] at hm; cases hm
  unfold oneO
  rw [hc, if_neg (by rw [hl]; simp), if_neg (by rw [hd]; simp), h, hm]; rfl
theorem textO_inv {x : Wrd} (h : (textO x).2 = 0) : (isNum x = true ∧ (textO x).1 = digF 10 x.n.toNat) ∨ (x.n = 0 ∧ x.t ≠ [] ∧ isName x = true ∧ (textO x).1 = x.t) ∨ (x.n = 0 ∧ x.t ≠ [] ∧ isMark x = true ∧ (textO x).1 = x.t) := by
  unfold textO at h ⊢
  by_cases h1 : isNum x = true
  · rw [if_pos h1]; exact .inl ⟨h1, rfl⟩
  rw [if_neg h1] at h ⊢
  by_cases h2 : isBad x = true
  · rw [if_pos h2] at h; cases h
  rw [if_neg h2] at h ⊢
  have hb : x.n = 0 ∧ x.t ≠ [] := by
    unfold isBad at h2; simp only [Bool.or_eq_true, decide_eq_true_eq, not_or, Classical.not_not] at h2; exact h2
  by_cases h3 : isName x = true
  · rw [if_pos h3]; exact .inr (.inl ⟨hb.1, hb.2, h3, rfl⟩)
  rw [if_neg h3] at h ⊢
  by_cases h4 : isMark x = true
  · rw [if_pos h4]; exact .inr (.inr ⟨hb.1, hb.2, h4, rfl⟩)
  rw [if_neg h4] at h; cases h
def sepB (rest : List UInt8) : Prop := offB letB rest ∧ offB digB rest
def wordB (c : UInt8) : Bool := letB c || digB c || markB c
theorem wordB_no (c : UInt8) (h : wordB c = true) : blankB c = false ∧ hashB c = false := by
  have := all256 (fun c => !wordB c || (!blankB c && !hashB c)) (fun _ => true) (by decide +kernel) c
  rw [h] at this; simpa using this
theorem one_word {x : Wrd} (hx : (textO x).2 = 0) {s rest : List UInt8} {i : Nat} (h : s.drop i = (textO x).1 ++ rest) (hr : sepB rest) : ∃ y, oneO s i = (y, i + (textO x).1.length, true) ∧ eqW false y x = true ∧ y.k = x.k ∧ i < s.length ∧ wordB (s.getD i 0) = true := by
  rcases textO_inv hx with ⟨h1, h2⟩ | ⟨hn, ht, h1, h2⟩ | ⟨hn, ht, h1, h2⟩
  · rw [h2] at h ⊢
    have hr1 := isNum_rng h1
    unfold isNum at h1; simp only [Bool.and_eq_true, decide_eq_true_eq] at h1
    refine ⟨_, one_num hr1 h hr.2, ?_, h1.1.1.1.symm, ?_⟩
    · unfold eqW; simp [h1.1.1.1, h1.1.1.2]
    · obtain ⟨c, t, e⟩ : ∃ c t, digF 10 x.n.toNat = c :: t := by
        cases hq : digF 10 x.n.toNat with
        | nil => exact absurd hq digF_ne
        | cons c t => exact ⟨c, t, rfl⟩
      rw [e] at h
      obtain ⟨hc, hl⟩ := getD_of h
      have hd := digF_dig 10 x.n.toNat
      rw [e, List.all_cons, Bool.and_eq_true] at hd
      exact ⟨hl, by rw [hc]; unfold wordB; rw [hd.1]; simp⟩
  · rw [h2] at h ⊢
    unfold isName at h1; simp only [Bool.and_eq_true, decide_eq_true_eq] at h1
    refine ⟨_, one_name h h1.2 ht h1.1.2 hr.1, ?_, h1.1.1.symm, ?_⟩
    · unfold eqW; simp [h1.1.1, hn]
    · match hq : x.t, ht with
      | c :: t, _ =>
        rw [hq] at h
        obtain ⟨hc, hl⟩ := getD_of h
        have h3 := h1.2
        rw [hq, List.all_cons, Bool.and_eq_true] at h3
        exact ⟨hl, by rw [hc]; unfold wordB; rw [h3.1]; rfl⟩
  · rw [h2] at h ⊢
    unfold isMark at h1; simp only [Bool.and_eq_true, decide_eq_true_eq] at h1
    match hq : x.t, ht, h1.1.2 with
    | [c], _, _ =>
      rw [hq] at h
      have h3 := h1.2
      rw [hq, List.all_cons, Bool.and_eq_true] at h3
      obtain ⟨hc, hl⟩ := getD_of (t := []) h
      refine ⟨_, one_mrk h h3.1, ?_, h1.1.1.symm, hl, by rw [hc]; unfold wordB; rw [h3.1]; simp⟩
      unfold eqW; simp [h1.1.1, hn, hq]
theorem word_step {x : Wrd} (hx : (textO x).2 = 0) {s rest : List UInt8} {i : Nat} {last : Int} {out : List Wrd} (h : s.drop i = (textO x).1 ++ rest) (hr : sepB rest) (hl : last ≠ (i : Int) ∨ x.k = 3) : ∃ y, scanR s i last out = scanR s (i + (textO x).1.length) ((i + (textO x).1.length : Nat) : Int) (out ++ [y]) ∧ eqW false y x = true := by
  obtain ⟨y, h1, h2, h3, h4, h5⟩ := one_word hx h hr
  have hb := wordB_no _ h5
  refine ⟨y, ?_, h2⟩
  rw [scanR_word h4 hb.1 hb.2 (by
    unfold badO; rw [h1]
    simp only [Bool.not_true, Bool.false_or]
    rcases hl with hl | hl
    · rw [decide_eq_false hl]; rfl
    · rw [h3, hl]; simp), h1]
end Go.Eng

