/- Blanks behind a text change nothing; TokenAny, walked. No condition. -/
import Derived.Test.YtbndlommbpkijaaDoorEng16
import Derived.Test.YtbndlommbpkijaaDoorTokI
set_option linter.unusedVariables false
set_option linter.unusedSimpArgs false
namespace Go.Eng
open Go Go.Proofs Go.RowKit

abbrev bl (k : Nat) : List UInt8 := List.replicate k 32
theorem tw_bl0 {p : UInt8 → Bool} (hp : p 32 = false) : ∀ k, (bl k).takeWhile p = []
  | 0 => rfl
  | k + 1 => by rw [show bl (k + 1) = 32 :: bl k from rfl, List.takeWhile_cons, hp]; rfl
theorem tw_bl {p : UInt8 → Bool} (hp : p 32 = false) (k : Nat) : ∀ (a : List UInt8), (a ++ bl k).takeWhile p = a.takeWhile p
  | [] => tw_bl0 hp k
  | c :: a => by rw [List.cons_append, List.takeWhile_cons, List.takeWhile_cons, tw_bl hp k a]
theorem tw_blN (k : Nat) : ∀ (a : List UInt8), a.all notNl = false → (a ++ bl k).takeWhile notNl = a.takeWhile notNl
  | [], h => by cases h
  | c :: a, h => by
    rw [List.cons_append, List.takeWhile_cons, List.takeWhile_cons]
    rw [List.all_cons] at h
    cases hc : notNl c with
    | false => rfl
    | true => rw [hc, Bool.true_and] at h; rw [if_pos rfl, if_pos rfl, tw_blN k a h]
theorem drop_bl {s : List UInt8} {k i : Nat} (h : i ≤ s.length) : (s ++ bl k).drop i = s.drop i ++ bl k := by rw [List.drop_append_of_le_length h]
theorem getD_bl {s : List UInt8} {k i : Nat} (h : i < s.length) : (s ++ bl k).getD i 0 = s.getD i 0 := by
  rw [List.getD_eq_getElem?_getD, List.getD_eq_getElem?_getD, List.getElem?_append_left h]
theorem runL_bl {p : UInt8 → Bool} (hp : p 32 = false) {s : List UInt8} {k i : Nat} (h : i ≤ s.length) : runL p (s ++ bl k) i = runL p s i := by
  unfold runL; rw [drop_bl h, tw_bl hp]
theorem one_bl {s : List UInt8} {k i : Nat} (h : i < s.length) : oneO (s ++ bl k) i = oneO s i := by
  have hl := runL_bl (p := letB) (by decide) (s := s) (k := k) (Nat.le_of_lt h)
  have hd := runL_bl (p := digB) (by decide) (s := s) (k := k) (Nat.le_of_lt h)
  have hn : numF 9 ((s ++ bl k).drop i) 0 = numF 9 (s.drop i) 0 := by
    rw [drop_bl (Nat.le_of_lt h), ← numF_tw, tw_bl (by decide), numF_tw]
  have ht : ∀ n, n ≤ s.length - i → ((s ++ bl k).drop i).take n = (s.drop i).take n := fun n hn => by
    rw [drop_bl (Nat.le_of_lt h), List.take_append_of_le_length (by rw [List.length_drop]; exact hn)]
  unfold oneO
  rw [getD_bl h, hl, hd, hn, ht _ (runL_le letB s i), ht 1 (by omega)]
theorem run_blN {s : List UInt8} {k i : Nat} (h : i ≤ s.length) : runL notNl (s ++ bl k) i = if (s.drop i).all notNl then s.length - i + k else runL notNl s i := by
  unfold runL; rw [drop_bl h]
  cases ha : (s.drop i).all notNl with
  | false => rw [if_neg (by simp), tw_blN k _ ha]
  | true =>
    rw [if_pos rfl, tw_eq (by
      rw [List.all_append, ha, Bool.true_and]
      rw [List.all_eq_true]; intro c hc; rw [List.mem_replicate] at hc; rw [hc.2]; decide), List.length_append, List.length_drop, List.length_replicate]
theorem run_all2 {s : List UInt8} {i : Nat} (h : (s.drop i).all notNl = true) : runL notNl s i = s.length - i := by
  unfold runL; rw [tw_eq h, List.length_drop]
theorem scan_blF {s : List UInt8} {k : Nat} : ∀ (f i : Nat) (last : Int) (out : List Wrd), i ≤ s.length → s.length - i ≤ f → scanR (s ++ bl k) i last out = scanR s i last out
  | f, i, last, out, h, hf => by
    have hlen : (s ++ bl k).length = s.length + k := by simp
    by_cases hi : i = s.length
    · subst hi
      have hr : runL blankB (s ++ bl k) s.length = k := by
        unfold runL; rw [drop_bl (Nat.le_refl _), List.drop_length, List.nil_append]
        rw [tw_eq (by rw [List.all_eq_true]; intro c hc; rw [List.mem_replicate] at hc; rw [hc.2]; decide), List.length_replicate]
      rw [scanR_end (s := s) (Nat.le_refl _), scanR_blanks _ _ rfl (by omega), hr]
      exact scanR_end (by omega)
    have hlt : i < s.length := by omega
    cases f with
    | zero => exact absurd hf (by omega)
    | succ f =>
      rw [scanR_step (s := s ++ bl k) (by omega), scanR_step (s := s) hlt, getD_bl hlt, one_bl hlt]
      by_cases hb : blankB (s.getD i 0) = true
      · rw [if_pos hb, if_pos hb]; exact scan_blF f _ _ _ (by omega) (by omega)
      rw [if_neg hb, if_neg hb]
      by_cases hh : hashB (s.getD i 0) = true
      · rw [if_pos hh, if_pos hh, run_blN (Nat.le_of_lt hlt)]
        have hg := hash_go hlt hh
        have hle := runL_le notNl s i
        cases ha : (s.drop i).all notNl with
        | false => rw [if_neg (by simp)]; exact scan_blF f _ _ _ (by omega) (by omega)
        | true =>
          rw [if_pos rfl, run_all2 ha, scanR_end (s := s ++ bl k) (by omega), scanR_end (s := s) (by omega)]
      rw [if_neg hh, if_neg hh]
      by_cases hq : badO (oneO s i) i last out = true
      · rw [if_pos hq, if_pos hq]
      · rw [if_neg hq, if_neg hq]
        have h1 := one_lt hlt
        exact scan_blF f _ _ _ h1.2 (by omega)
theorem scan_bl {s : List UInt8} {k : Nat} (h : s.length + k ≤ 8000) : scanO (s ++ bl k) = scanO s := by
  unfold scanO
  rw [if_neg (by simp; omega), if_neg (by omega)]
  exact scan_blF s.length 0 _ _ (Nat.zero_le _) (by omega)
theorem scan_long {s : List UInt8} (h : 8000 < s.length) : scanO s = ([], 8000, 6) := by unfold scanO; rw [if_pos h]
theorem bl_snoc2 (s : List UInt8) (k : Nat) : s ++ bl (k + 1) = (s ++ bl k) ++ [32] := by
  rw [show bl (k + 1) = bl k ++ [32] from List.replicate_succ', List.append_assoc]
end Go.Eng

