/- What a task weighs with all that wait for it; no program. No condition. -/
import Derived.Test.YtpemcncnehhgfaaDoorGraphLaw2
set_option linter.unusedVariables false
set_option linter.unusedSimpArgs false
namespace Go.Eng
open Go Go.RowKit

def wt (own : List Int) (i : Nat) : Int := if i < min own.length 64 then min (max (own.getD i 0) 0) 16 else 0
theorem wt_rng (own : List Int) (i : Nat) : 0 ≤ wt own i ∧ wt own i ≤ 16 := by unfold wt; split <;> omega
theorem wt_off {own : List Int} {i : Nat} (h : ¬ i < min own.length 64) : wt own i = 0 := by unfold wt; rw [if_neg h]
/-- the sum over those of a set below n -/
def sumN (own : List Int) (B : BitVec 64) : Nat → Int
  | 0 => 0
  | n + 1 => sumN own B n + if hasB B (n : Nat) = true then wt own n else 0
theorem sumN_rng (own : List Int) (B : BitVec 64) : ∀ n : Nat, 0 ≤ sumN own B n ∧ sumN own B n ≤ 16 * (n : Int)
  | 0 => by simp [sumN]
  | n + 1 => by
    have h := sumN_rng own B n
    have h2 := wt_rng own n
    rw [sumN]; split <;> omega
def sumL (own : List Int) (l : List Nat) : Int := (l.map (wt own)).sum
theorem sumL_snoc (own : List Int) (l : List Nat) (i : Nat) : sumL own (l ++ [i]) = sumL own l + wt own i := by unfold sumL; simp
theorem sumL_rng (own : List Int) : ∀ l : List Nat, 0 ≤ sumL own l ∧ sumL own l ≤ 16 * (l.length : Int)
  | [] => by simp [sumL]
  | i :: l => by
    have h := sumL_rng own l
    have h2 := wt_rng own i
    have e : sumL own (i :: l) = wt own i + sumL own l := by unfold sumL; simp
    rw [e, List.length_cons]; omega
theorem sumL_filter (own : List Int) (B : BitVec 64) : ∀ n : Nat, sumL own ((List.range n).filter (fun i => B.getLsbD i)) = sumN own B n
  | 0 => rfl
  | n + 1 => by
    rw [List.range_succ, List.filter_append, sumN, ← sumL_filter own B n, hasB_nat]
    simp only [List.filter_cons, List.filter_nil]
    split
    · rw [sumL_snoc]
    · rw [List.append_nil]; omega
theorem sumL_all (own : List Int) (B : BitVec 64) : sumL own (allL B) = sumN own B 64 := sumL_filter own B 64
theorem sumN_top (own : List Int) (B : BitVec 64) : ∀ n : Nat, min own.length 64 ≤ n → sumN own B n = sumN own B (min own.length 64)
  | 0, h => by rw [show min own.length 64 = 0 by omega]
  | n + 1, h => by
    by_cases e : min own.length 64 = n + 1
    · rw [e]
    · rw [sumN, sumN_top own B n (by omega), wt_off (i := n) (by omega)]; split <;> omega
/-- one's -/
def ofW (own : List Int) (G : Gr) (i : Nat) : Int := wt own i + sumN own (bhdG G (i : Nat)) 64
theorem ofW_rng (own : List Int) (G : Gr) (i : Nat) : 0 ≤ ofW own G i ∧ ofW own G i ≤ 1040 := by
  have h1 := wt_rng own i
  have h2 := sumN_rng own (bhdG G (i : Nat)) 64
  unfold ofW; omega
def effN (own : List Int) (G : Gr) (n : Nat) : List Int := (List.range n).map (ofW own G)
def effW (own : List Int) (G : Gr) : List Int := effN own G (min own.length 64)
theorem effN_len (own : List Int) (G : Gr) (n : Nat) : (effN own G n).length = n := by simp [effN]
theorem effN_succ (own : List Int) (G : Gr) (n : Nat) : effN own G (n + 1) = effN own G n ++ [ofW own G n] := by unfold effN; rw [List.range_succ, List.map_append]; rfl
/-- filled up to a place -/
def fillN (own : List Int) (G : Gr) (m n : Nat) : List Int := effN own G n ++ List.replicate (m - n) 0
theorem fillN_set (own : List Int) (G : Gr) {m n : Nat} (h : n < m) : (fillN own G m n).set n (ofW own G n) = fillN own G m (n + 1) := by
  unfold fillN
  rw [List.set_append_right _ _ (by rw [effN_len]; omega), effN_len, Nat.sub_self, effN_succ, List.append_assoc]
  congr 1
  rw [show m - n = (m - (n + 1)) + 1 by omega, List.replicate_succ]; rfl
theorem fillN_len (own : List Int) (G : Gr) {m n : Nat} (h : n ≤ m) : (fillN own G m n).length = m := by unfold fillN; rw [List.length_append, effN_len, List.length_replicate]; omega
theorem fillN_end (own : List Int) (G : Gr) (m : Nat) : fillN own G m m = effN own G m := by unfold fillN; rw [Nat.sub_self]; simp
/-- nobody waits for himself, where no cycle is -/
theorem bhd_self {G : Gr} (hG : Acy G) {i : Nat} (hi : i < 64) : hasB (bhdG G (i : Nat)) (i : Nat) = false := by
  unfold bhdG; rw [if_pos (inG_iff.2 ⟨by omega, by omega⟩), Int.toNat_natCast]
  cases h : hasB (bhd G i) (i : Nat)
  · rfl
  · exact absurd ((bhd_iff G i i hi).1 h) (hG i)
/-- a copy, so far -/
def cpN (G : Gr) (n : Nat) : Gr := G.take n ++ List.replicate (64 - n) 0#64
theorem cpN_len {G : Gr} (h : G.length = 64) {n : Nat} (hn : n ≤ 64) : (cpN G n).length = 64 := by unfold cpN; rw [List.length_append, List.length_take, List.length_replicate]; omega
theorem cpN_zero (G : Gr) : cpN G 0 = zeroG := by unfold cpN zeroG; rw [List.take_zero]; rfl
theorem cpN_end {G : Gr} (h : G.length = 64) : cpN G 64 = G := by unfold cpN; rw [List.take_of_length_le (by omega), Nat.sub_self]; simp
theorem cpN_set {G : Gr} (h : G.length = 64) {n : Nat} (hn : n < 64) : (cpN G n).set n (ot G n) = cpN G (n + 1) := by
  unfold cpN
  rw [List.set_append_right _ _ (by rw [List.length_take]; omega), List.length_take, show n - min n G.length = 0 by omega, take_snoc 0#64 (by omega), List.append_assoc]
  congr 1
  rw [show 64 - n = (64 - (n + 1)) + 1 by omega, List.replicate_succ]; rfl
theorem cpN_le {G : Gr} (h : G.length = 64) {n : Nat} (hn : n ≤ 64) : GLe (cpN G n) G := fun j k hb => by
  unfold cpN ot at hb
  rw [List.getD_eq_getElem?_getD] at hb
  by_cases hj : j < n
  · rw [List.getElem?_append_left (by rw [List.length_take]; omega), List.getElem?_take, if_pos hj, ← List.getD_eq_getElem?_getD] at hb; exact hb
  · rw [List.getElem?_append_right (by rw [List.length_take]; omega), List.getElem?_replicate] at hb
    split at hb <;> (simp only [Option.getD_some, Option.getD_none, hasB_zero] at hb; cases hb)
theorem cp_wait {G : Gr} (h : G.length = 64) (hA : Acy G) {n : Nat} (hn : n < 64) : wtE (cpN G n) (n : Nat) (ot G n) = 0 ∧ wtG (cpN G n) (n : Nat) (ot G n) = cpN G (n + 1) := by
  have h0 : wtE (cpN G n) (n : Nat) (ot G n) = 0 := by
    unfold wtE; rw [if_pos (inG_iff.2 ⟨by omega, by omega⟩), if_neg]
    intro hb
    exact hA n (((ovr_iff _ _ _).1 hb).mono (cpN_le h (by omega)) (fun _ hk => hk))
  exact ⟨h0, by unfold wtG; rw [if_pos h0, Int.toNat_natCast]; exact cpN_set h hn⟩
end Go.Eng
