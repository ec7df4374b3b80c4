/- What a task weighs: at least its own, no more than all; all are cleared; no program. No condition. -/
import Derived.Test.YtpemcncnehhgfaaDoorInhLaw
set_option linter.unusedVariables false
set_option linter.unusedSimpArgs false
namespace Go.Eng
open Go Go.RowKit

def sumA (own : List Int) : Nat → Int
  | 0 => 0
  | n + 1 => sumA own n + wt own n
theorem sumN_le {own : List Int} {B : BitVec 64} {i : Nat} (h : hasB B (i : Nat) = false) : ∀ n : Nat, sumN own B n + (if i < n then wt own i else 0) ≤ sumA own n
  | 0 => by simp [sumN, sumA]
  | n + 1 => by
    have ih := sumN_le (own := own) h n
    have hw := wt_rng own n
    rw [sumN, sumA]
    by_cases e : i = n
    · subst e
      rw [if_neg (by rw [h]; simp), if_pos (by omega)]
      rw [if_neg (by omega)] at ih
      omega
    · by_cases hi : i < n
      · rw [if_pos (show i < n + 1 by omega)]; rw [if_pos hi] at ih; split <;> omega
      · rw [if_neg (show ¬ i < n + 1 by omega)]; rw [if_neg hi] at ih; split <;> omega
def Small (ws : List Int) : Prop := ws.length ≤ 64 ∧ ∀ x ∈ ws, 0 ≤ x ∧ x ≤ 16
theorem wt_small {ws : List Int} (h : Small ws) {i : Nat} (hi : i < ws.length) : wt ws i = ws.getD i 0 := by
  unfold wt; have := h.1; rw [if_pos (by omega)]
  have := h.2 _ (List.mem_of_getElem? (show ws[i]? = some (ws.getD i 0) by rw [List.getD_eq_getElem?_getD, List.getElem?_eq_getElem hi]; rfl))
  omega
theorem sumA_take {ws : List Int} (h : Small ws) : ∀ n : Nat, n ≤ ws.length → sumA ws n = (ws.take n).sum
  | 0, _ => rfl
  | n + 1, hn => by
    rw [sumA, sumA_take h n (by omega), wt_small h (by omega)]
    have e : ws.take (n + 1) = ws.take n ++ [ws.getD n 0] := by
      rw [List.take_add_one, List.getD_eq_getElem?_getD, List.getElem?_eq_getElem (by omega)]; rfl
    rw [e]; simp
theorem ofW_ge {ws : List Int} (h : Small ws) (G : Gr) {i : Nat} (hi : i < ws.length) : ws.getD i 0 ≤ ofW ws G i := by
  have := sumN_rng ws (bhdG G (i : Nat)) 64
  unfold ofW; rw [wt_small h hi]; omega
theorem ofW_le {ws : List Int} (h : Small ws) {G : Gr} (hA : Acy G) {i : Nat} (hi : i < ws.length) : ofW ws G i ≤ ws.sum := by
  have h1 := h.1
  have h2 := sumN_le (own := ws) (bhd_self hA (show i < 64 by omega)) ws.length
  rw [if_pos hi, sumA_take h ws.length (Nat.le_refl _), List.take_length] at h2
  unfold ofW
  rw [sumN_top ws _ 64 (by omega), show min ws.length 64 = ws.length by omega]
  omega
/-! all are cleared -/
def clN (G : Gr) (k : Nat) : Gr := List.replicate k 0#64 ++ G.drop k
theorem clN_len {G : Gr} (h : G.length = 64) {k : Nat} (hk : k ≤ 64) : (clN G k).length = 64 := by unfold clN; rw [List.length_append, List.length_replicate, List.length_drop]; omega
theorem clN_zero (G : Gr) : clN G 0 = G := rfl
theorem clN_end {G : Gr} (h : G.length = 64) : clN G 64 = zeroG := by unfold clN zeroG; rw [List.drop_of_length_le (by omega), List.append_nil]
theorem clN_get {G : Gr} (h : G.length = 64) {k : Nat} (hk : k < 64) : ot (clN G k) k = ot G k := by
  unfold clN ot
  rw [List.getD_eq_getElem?_getD, List.getD_eq_getElem?_getD, List.getElem?_append_right (by rw [List.length_replicate]; omega), List.length_replicate, Nat.sub_self, List.getElem?_drop, Nat.add_zero]
theorem clN_set {G : Gr} (h : G.length = 64) {k : Nat} (hk : k < 64) : (clN G k).set k 0#64 = clN G (k + 1) := by
  unfold clN
  rw [List.set_append_right _ _ (by rw [List.length_replicate]; omega), List.length_replicate, Nat.sub_self, List.drop_eq_getElem_cons (by omega), List.set_cons_zero, List.replicate_succ', List.append_assoc]; rfl
theorem clr_step {G : Gr} (h : G.length = 64) {k : Nat} (hk : k < 64) : clrG (clN G k) (k : Nat) = clN G (k + 1) := by
  rw [← clN_set h hk]
  unfold clrG ofG
  rw [if_pos (inG_iff.2 ⟨by omega, by omega⟩), Int.toNat_natCast]
  by_cases e : ot (clN G k) k = 0#64
  · rw [if_pos e]
    apply List.ext_getElem (by simp)
    intro j h1 h2; rw [List.getElem_set]; split
    · subst_vars; unfold ot at e; rw [List.getD_eq_getElem?_getD, List.getElem?_eq_getElem h1] at e; exact e
    · rfl
  · rw [if_neg e]
theorem bhd_zero (i : Nat) : bhdG zeroG (i : Nat) = 0#64 := by
  unfold bhdG
  by_cases h : inG (i : Nat) = true
  · rw [if_pos h, Int.toNat_natCast]
    have hi := inG_iff.1 h
    apply set_ext; intro k hk; rw [hasB_zero]
    cases hb : hasB (bhd zeroG i) (k : Nat)
    · rfl
    · exfalso
      have hr := (bhd_iff zeroG i k hk).1 hb
      rw [ot_zeroG] at hr
      have := (ovr_iff zeroG 0#64 i).2 hr
      rw [ovr_zero, hasB_zero] at this; cases this
  · rw [if_neg h]
theorem sumN_zero (own : List Int) : ∀ n : Nat, sumN own 0#64 n = 0
  | 0 => rfl
  | n + 1 => by rw [sumN, sumN_zero own n, if_neg (by rw [hasB_zero]; simp)]; rfl
theorem eff_zero {ws : List Int} (h : Small ws) : effW ws zeroG = ws := by
  have h1 := h.1
  unfold effW effN
  rw [show min ws.length 64 = ws.length by omega]
  apply List.ext_getElem (by simp)
  intro i h2 h3
  rw [List.getElem_map, List.getElem_range]
  unfold ofW; rw [bhd_zero, sumN_zero, wt_small h h3, List.getD_eq_getElem?_getD, List.getElem?_eq_getElem h3]; simp
end Go.Eng
