/- Who waits for whom: what is come to, what comes, cycles, chains; no program. No condition. -/
import Derived.Test.YtpemcncnehhgfaaDoorIdsLaw
set_option linter.unusedVariables false
set_option linter.unusedSimpArgs false
namespace Go.Eng
open Go Go.RowKit

abbrev Gr := List (BitVec 64)
/-- whom a number comes to -/
def ot (G : Gr) (i : Nat) : BitVec 64 := G.getD i 0#64
inductive Rch (G : Gr) (s : BitVec 64) : Nat → Prop
  | base {i : Nat} : hasB s i = true → Rch G s i
  | step {j i : Nat} : Rch G s j → hasB (ot G j) i = true → Rch G s i
theorem Rch.lt {G : Gr} {s : BitVec 64} {i : Nat} (h : Rch G s i) : i < 64 := by
  cases h with
  | base h => have := hasB_rng h; omega
  | step _ h => have := hasB_rng h; omega
theorem Rch.mono {G G' : Gr} {s s' : BitVec 64} {i : Nat} (h : Rch G s i) (hG : ∀ j k : Nat, hasB (ot G j) k = true → hasB (ot G' j) k = true) (hs : ∀ k : Nat, hasB s k = true → hasB s' k = true) : Rch G' s' i := by
  induction h with
  | base h => exact .base (hs _ h)
  | step _ h ih => exact .step ih (hG _ _ h)
theorem Rch.trans {G : Gr} {s : BitVec 64} {i k : Nat} (h : Rch G s i) (hk : Rch G (ot G i) k) : Rch G s k := by
  induction hk with
  | base h2 => exact .step h h2
  | step _ h2 ih => exact .step ih h2
theorem Rch.sub {G : Gr} {s t : BitVec 64} {k : Nat} (h : Rch G t k) (hs : ∀ i : Nat, hasB t i = true → Rch G s i) : Rch G s k := by
  induction h with
  | base h => exact hs _ h
  | step _ h ih => exact .step ih h

/-! how many -/
def card (s : BitVec 64) : Nat := (allL s).length
theorem filter_lt {α : Type} {p q : α → Bool} : ∀ (l : List α), (∀ x ∈ l, p x = true → q x = true) → (∃ x ∈ l, q x = true ∧ p x = false) → (l.filter p).length < (l.filter q).length
  | [], _, h => by obtain ⟨x, hx, _⟩ := h; cases hx
  | a :: l, hpq, hex => by
    have hle : ∀ l : List α, (∀ x ∈ l, p x = true → q x = true) → (l.filter p).length ≤ (l.filter q).length := by
      intro l
      induction l with
      | nil => intro _; exact Nat.le_refl _
      | cons a l ih =>
        intro h
        have h1 := ih (fun x hx => h x (List.mem_cons_of_mem _ hx))
        have h2 := h a (List.mem_cons_self ..)
        simp only [List.filter_cons]
        cases hp : p a <;> cases hq : q a <;> simp <;> first | omega | (rw [hp, hq] at h2; simp at h2)
    have h0 := hle l (fun x hx => hpq x (List.mem_cons_of_mem _ hx))
    have ha := hpq a (List.mem_cons_self ..)
    obtain ⟨x, hx, h1, h2⟩ := hex
    simp only [List.filter_cons]
    rcases List.mem_cons.1 hx with rfl | hx
    · rw [h1, h2]; simp; omega
    · have ih := filter_lt l (fun x hx => hpq x (List.mem_cons_of_mem _ hx)) ⟨x, hx, h1, h2⟩
      cases hp : p a <;> cases hq : q a <;> simp <;> first | omega | (rw [hp, hq] at ha; simp at ha)
theorem card_lt {s t : BitVec 64} (h : ∀ k : Nat, hasB s k = true → hasB t k = true) {i : Nat} (hi : hasB t i = true) (hn : hasB s i = false) : card s < card t := by
  have hr := hasB_rng hi
  exact filter_lt _ (fun k _ hk => by have := h k; rw [hasB_nat, hasB_nat] at this; exact this hk) ⟨i, List.mem_range.2 (by omega), by rw [← hasB_nat]; exact hi, by rw [← hasB_nat]; exact hn⟩
theorem card_le (s : BitVec 64) : card s ≤ 64 := by unfold card allL; refine Nat.le_trans (List.length_filter_le _ _) ?_; simp
theorem sub_or_ne {s t : BitVec 64} (h : ¬ t &&& ~~~s = 0#64) : ∃ i : Nat, hasB t i = true ∧ hasB s i = false := by
  apply Classical.byContradiction; intro hn
  apply h; apply sub6_iff.2
  intro i hi ht
  cases hs : hasB s i
  · exact absurd ⟨i, ht, hs⟩ hn
  · rfl

/-! all that is come to -/
def Clo (G : Gr) (X : BitVec 64) : Prop := ∀ j i : Nat, hasB X j = true → hasB (ot G j) i = true → hasB X i = true
structure Cl (G : Gr) (s X : BitVec 64) : Prop where
  sup : ∀ i : Nat, hasB s i = true → hasB X i = true
  sound : ∀ i : Nat, hasB X i = true → Rch G s i
  clo : Clo G X
theorem Cl.iff {G : Gr} {s X : BitVec 64} (h : Cl G s X) (i : Nat) : hasB X i = true ↔ Rch G s i := by
  refine ⟨h.sound i, fun hr => ?_⟩
  induction hr with
  | base hb => exact h.sup _ hb
  | step _ hb ih => exact h.clo _ _ ih hb
theorem Cl.uniq {G : Gr} {s X Y : BitVec 64} (h : Cl G s X) (k : Cl G s Y) : X = Y := set_ext (fun i _ => by
  rw [Bool.eq_iff_iff, h.iff, k.iff])
def stepG (G : Gr) (s : BitVec 64) : BitVec 64 := (List.range 64).foldl (fun a (i : Nat) => if hasB s i = true then a ||| ot G i else a) s
theorem stepG_fold (G : Gr) (s : BitVec 64) : ∀ (l : List Nat) (a : BitVec 64) (k : Nat), hasB (l.foldl (fun a (i : Nat) => if hasB s i = true then a ||| ot G i else a) a) k = true ↔ hasB a k = true ∨ ∃ i ∈ l, hasB s i = true ∧ hasB (ot G i) k = true
  | [], a, k => by simp
  | i :: l, a, k => by
    rw [List.foldl_cons, stepG_fold G s l]
    by_cases h : hasB s i = true
    · rw [if_pos h, hasB_or, Bool.or_eq_true]
      constructor
      · rintro ((h1 | h1) | ⟨j, hj, h1⟩)
        · exact .inl h1
        · exact .inr ⟨i, List.mem_cons_self .., h, h1⟩
        · exact .inr ⟨j, List.mem_cons_of_mem _ hj, h1⟩
      · rintro (h1 | ⟨j, hj, h1⟩)
        · exact .inl (.inl h1)
        · rcases List.mem_cons.1 hj with rfl | hj
          · exact .inl (.inr h1.2)
          · exact .inr ⟨j, hj, h1⟩
    · rw [if_neg h]
      constructor
      · rintro (h1 | ⟨j, hj, h1⟩)
        · exact .inl h1
        · exact .inr ⟨j, List.mem_cons_of_mem _ hj, h1⟩
      · rintro (h1 | ⟨j, hj, h1⟩)
        · exact .inl h1
        · rcases List.mem_cons.1 hj with rfl | hj
          · exact absurd h1.1 h
          · exact .inr ⟨j, hj, h1⟩
theorem stepG_has (G : Gr) (s : BitVec 64) (k : Nat) : hasB (stepG G s) k = true ↔ hasB s k = true ∨ ∃ i : Nat, hasB s i = true ∧ hasB (ot G i) k = true := by
  unfold stepG; rw [stepG_fold]
  constructor
  · rintro (h | ⟨i, _, h⟩)
    · exact .inl h
    · exact .inr ⟨i, h⟩
  · rintro (h | ⟨i, h⟩)
    · exact .inl h
    · exact .inr ⟨i, List.mem_range.2 (by have := hasB_rng h.1; omega), h⟩
def ovF (G : Gr) : Nat → BitVec 64 → BitVec 64
  | 0, s => s
  | n + 1, s => if stepG G s = s then s else ovF G n (stepG G s)
def ovr (G : Gr) (s : BitVec 64) : BitVec 64 := ovF G 65 s
theorem ovF_cl (G : Gr) : ∀ (n : Nat) (s : BitVec 64), 65 ≤ n + card s → Cl G s (ovF G n s)
  | 0, s, h => by have := card_le s; omega
  | n + 1, s, h => by
    rw [ovF]
    by_cases e : stepG G s = s
    · rw [if_pos e]
      exact ⟨fun _ h => h, fun i h => .base h, fun j i hj hi => by rw [← e, stepG_has]; exact .inr ⟨j, hj, hi⟩⟩
    · rw [if_neg e]
      have hsup : ∀ k : Nat, hasB s k = true → hasB (stepG G s) k = true := fun k hk => (stepG_has G s k).2 (.inl hk)
      obtain ⟨i, h1, h2⟩ : ∃ i : Nat, hasB (stepG G s) i = true ∧ hasB s i = false := by
        apply Classical.byContradiction; intro hn; apply e
        apply set_ext; intro k hk
        cases h1 : hasB s k
        · cases h2 : hasB (stepG G s) k
          · rfl
          · exact absurd ⟨k, h2, h1⟩ hn
        · exact hsup k h1
      have hc := card_lt hsup h1 h2
      have ih := ovF_cl G n (stepG G s) (by omega)
      refine ⟨fun i hi => ih.sup i (hsup i hi), fun i hi => (ih.sound i hi).sub (fun k hk => ?_), ih.clo⟩
      rcases (stepG_has G s k).1 hk with h | ⟨j, hj, hk⟩
      · exact .base h
      · exact .step (.base hj) hk
theorem ovr_cl (G : Gr) (s : BitVec 64) : Cl G s (ovr G s) := ovF_cl G 65 s (by omega)
theorem ovr_iff (G : Gr) (s : BitVec 64) (i : Nat) : hasB (ovr G s) i = true ↔ Rch G s i := (ovr_cl G s).iff i
theorem ovr_of {G : Gr} {s X : BitVec 64} (h : Cl G s X) : X = ovr G s := h.uniq (ovr_cl G s)

/-! one is set anew -/
theorem ot_set {G : Gr} (h : G.length = 64) {w : Nat} (hw : w < 64) (s : BitVec 64) (j : Nat) : ot (G.set w s) j = if j = w then s else ot G j := by
  unfold ot
  simp only [List.getD_eq_getElem?_getD, List.getElem?_set]
  by_cases e : w = j
  · subst e; simp [h, hw]
  · rw [if_neg e, if_neg (Ne.symm e)]
theorem ot_set0 {G : Gr} (h : G.length = 64) {w : Nat} (hw : w < 64) {j k : Nat} (hb : hasB (ot (G.set w 0#64) j) k = true) : j ≠ w ∧ hasB (ot G j) k = true := by
  rw [ot_set h hw] at hb
  by_cases e : j = w
  · rw [if_pos e, hasB_zero] at hb; cases hb
  · rw [if_neg e] at hb; exact ⟨e, hb⟩
/-- to come to one it is not gone on from it -/
theorem rch_cut {G : Gr} (h : G.length = 64) {w : Nat} (hw : w < 64) {s : BitVec 64} {i : Nat} (hr : Rch G s i) : Rch (G.set w 0#64) s i ∨ Rch (G.set w 0#64) s w := by
  induction hr with
  | base hb => exact .inl (.base hb)
  | @step j i _ hb ih =>
    rcases ih with ih | ih
    · by_cases e : j = w
      · subst e; exact .inr ih
      · exact .inl (.step ih (by rw [ot_set h hw, if_neg e]; exact hb))
    · exact .inr ih
theorem rch_zero {G : Gr} (h : G.length = 64) {w : Nat} (hw : w < 64) {s : BitVec 64} : Rch (G.set w 0#64) s w ↔ Rch G s w := by
  constructor
  · intro hr; exact hr.mono (fun j k hb => (ot_set0 h hw hb).2) (fun _ h => h)
  · intro hr; rcases rch_cut h hw hr with h1 | h1 <;> exact h1
theorem closes_zero {G : Gr} (h : G.length = 64) {w : Nat} (hw : w < 64) (s : BitVec 64) : hasB (ovr (G.set w 0#64) s) (w : Int) = hasB (ovr G s) (w : Int) := by
  rw [Bool.eq_iff_iff, ovr_iff, ovr_iff]; exact rch_zero h hw
/-- no cycle -/
def Acy (G : Gr) : Prop := ∀ i : Nat, ¬ Rch G (ot G i) i
theorem acy_set {G : Gr} (h : G.length = 64) {w : Nat} (hw : w < 64) {s : BitVec 64} (hG : Acy G) (hs : ¬ Rch G s w) : Acy (G.set w s) := by
  have hlen : (G.set w s).length = 64 := by rw [List.length_set]; exact h
  have e2 : (G.set w s).set w 0#64 = G.set w 0#64 := by rw [List.set_set]
  have ha : ¬ Rch (G.set w s) s w := by
    intro hr
    have h1 := (rch_zero hlen hw).2 hr
    rw [e2] at h1
    exact hs ((rch_zero h hw).1 h1)
  have up : ∀ {t : BitVec 64} {i : Nat}, Rch (G.set w 0#64) t i → Rch (G.set w s) t i := fun hr => hr.mono (fun j k hb => by
    obtain ⟨e, hb⟩ := ot_set0 h hw hb
    rw [ot_set h hw, if_neg e]; exact hb) (fun _ h => h)
  have part : ∀ {t : BitVec 64} {i : Nat}, Rch (G.set w s) t i → Rch (G.set w 0#64) t i ∨ (Rch (G.set w 0#64) t w ∧ Rch (G.set w s) s i) := by
    intro t i hr
    induction hr with
    | base hb => exact .inl (.base hb)
    | @step j i _ hb ih =>
      rcases ih with ih | ⟨ih1, ih2⟩
      · by_cases e : j = w
        · subst e
          rw [ot_set h hw, if_pos rfl] at hb
          exact .inr ⟨ih, .base hb⟩
        · rw [ot_set h hw, if_neg e] at hb
          exact .inl (.step ih (by rw [ot_set h hw, if_neg e]; exact hb))
      · exact .inr ⟨ih1, .step ih2 hb⟩
  intro i hr
  by_cases e : i = w
  · subst e; rw [ot_set h hw, if_pos rfl] at hr; exact ha hr
  · rw [ot_set h hw, if_neg e] at hr
    rcases part hr with h1 | ⟨h1, h2⟩
    · exact hG i (h1.mono (fun j k hb => (ot_set0 h hw hb).2) (fun _ h => h))
    · refine ha (h2.trans ?_)
      rw [ot_set h hw, if_neg e]
      exact up h1
def zeroG : Gr := List.replicate 64 0#64
theorem zeroG_len : zeroG.length = 64 := by simp [zeroG]
theorem ot_zeroG (i : Nat) : ot zeroG i = 0#64 := by
  unfold ot zeroG; rw [List.getD_eq_getElem?_getD, List.getElem?_replicate]; split <;> rfl
theorem acy_zero : Acy zeroG := by
  intro i h
  rw [ot_zeroG] at h
  have : ∀ {s : BitVec 64} {k : Nat}, Rch zeroG s k → s = 0#64 → False := by
    intro s k hr
    induction hr with
    | base hb => intro e; subst e; rw [hasB_zero] at hb; cases hb
    | step _ hb _ => intro _; rw [ot_zeroG, hasB_zero] at hb; cases hb
  exact this h rfl

/-! what comes to one -/
def mkS (p : Nat → Bool) : BitVec 64 := (List.range 64).foldl (fun a (i : Nat) => if p i = true then withS a i else a) 0#64
theorem mkS_fold (p : Nat → Bool) : ∀ (l : List Nat) (a : BitVec 64) (k : Nat), k < 64 → (hasB (l.foldl (fun a (i : Nat) => if p i = true then withS a i else a) a) k = true ↔ hasB a k = true ∨ (k ∈ l ∧ p k = true))
  | [], a, k, _ => by simp
  | i :: l, a, k, hk => by
    rw [List.foldl_cons, mkS_fold p l _ k hk]
    by_cases h : p i = true
    · rw [if_pos h, hasB_withS, Bool.or_eq_true]
      simp only [Bool.and_eq_true, decide_eq_true_eq, List.mem_cons]
      constructor
      · rintro ((h1 | ⟨h1, _⟩) | ⟨h1, h2⟩)
        · exact .inl h1
        · have : k = i := by omega
          subst this; exact .inr ⟨.inl rfl, h⟩
        · exact .inr ⟨.inr h1, h2⟩
      · rintro (h1 | ⟨rfl | h1, h2⟩)
        · exact .inl (.inl h1)
        · exact .inl (.inr ⟨rfl, by omega, by omega⟩)
        · exact .inr ⟨h1, h2⟩
    · rw [if_neg h]
      constructor
      · rintro (h1 | ⟨h1, h2⟩)
        · exact .inl h1
        · exact .inr ⟨List.mem_cons_of_mem _ h1, h2⟩
      · rintro (h1 | ⟨h1, h2⟩)
        · exact .inl h1
        · rcases List.mem_cons.1 h1 with rfl | h1
          · exact absurd h2 h
          · exact .inr ⟨h1, h2⟩
theorem mkS_has (p : Nat → Bool) {k : Nat} (hk : k < 64) : hasB (mkS p) k = p k := by
  rw [Bool.eq_iff_iff]; unfold mkS; rw [mkS_fold p _ _ k hk, hasB_zero]; simp [hk]
def bhd (G : Gr) (w : Nat) : BitVec 64 := mkS (fun i => hasB (ovr G (ot G i)) w)
theorem bhd_iff (G : Gr) (w i : Nat) (hi : i < 64) : hasB (bhd G w) i = true ↔ Rch G (ot G i) w := by
  unfold bhd; rw [mkS_has _ hi, ovr_iff]
theorem bhd_of {G : Gr} {w : Nat} {X : BitVec 64} (hw : w < 64) (h1 : ∀ i : Nat, hasB X i = true → Rch G (ot G i) w) (h2 : ∀ i : Nat, i < 64 → hasB X i = false → ot G i &&& withS X w = 0#64) : X = bhd G w := by
  apply set_ext; intro i hi
  rw [Bool.eq_iff_iff, bhd_iff G w i hi]
  refine ⟨h1 i, fun hr => ?_⟩
  cases hx : hasB X i
  · exfalso
    have no : ∀ i : Nat, i < 64 → hasB X i = false → ∀ k : Nat, hasB (ot G i) k = true → hasB X k = false ∧ k ≠ w := by
      intro i hi hx k hk
      have h3 := h2 i hi hx
      have h4 : hasB (ot G i &&& withS X w) k = false := by rw [h3, hasB_zero]
      rw [hasB_and, hk, hasB_withS] at h4
      simp only [Bool.true_and, Bool.or_eq_false_iff] at h4
      refine ⟨h4.1, fun e => ?_⟩
      subst e
      have := hasB_rng hk
      simp [this.1, this.2] at h4
    have all : ∀ {k : Nat}, Rch G (ot G i) k → hasB X k = false ∧ k ≠ w := by
      intro k hr
      induction hr with
      | base hb => exact no i hi hx _ hb
      | step hr hb ih => exact no _ hr.lt ih.1 _ hb
    exact (all hr).2 rfl
  · rfl

/-! chains -/
def chn (G : Gr) : Nat → Int → List Int
  | 0, _ => []
  | n + 1, w => if 0 ≤ w ∧ w < 64 then w :: chn G n (firstI (ot G w.toNat)) else []
theorem chn_off (G : Gr) (n : Nat) {w : Int} (h : ¬ (0 ≤ w ∧ w < 64)) : chn G n w = [] := by cases n with | zero => rfl | succ n => rw [chn, if_neg h]
theorem firstI_has {s : BitVec 64} (h : 0 ≤ firstI s) : hasB s (firstI s) = true := by
  unfold firstI at *
  by_cases e : s = 0#64
  · rw [if_pos e] at h; omega
  · rw [if_neg e]; rw [hasB_nat]; exact (lsb_spec e).2.1
theorem firstI_lt (s : BitVec 64) : -1 ≤ firstI s ∧ firstI s < 64 := by
  unfold firstI; split
  · omega
  · rename_i e; have := (lsb_spec e).1; omega
/-- those that are met in a chain lie behind one another -/
structure Met (G : Gr) (V : BitVec 64) (w : Int) : Prop where
  reach : ∀ i : Nat, hasB V i = true → 0 ≤ w → w < 64 → Rch G (ot G i) w.toNat
theorem Met.nil (G : Gr) (w : Int) : Met G 0#64 w := ⟨fun i h => by rw [hasB_zero] at h; cases h⟩
theorem Met.fresh {G : Gr} (hG : Acy G) {V : BitVec 64} {w : Int} (h : Met G V w) (h0 : 0 ≤ w) (h1 : w < 64) : hasB V w = false := by
  cases hb : hasB V w
  · rfl
  · have e : ((w.toNat : Nat) : Int) = w := by omega
    exact absurd (h.reach w.toNat (by rw [e]; exact hb) h0 h1) (hG _)
theorem Met.next {G : Gr} {V : BitVec 64} {w : Int} (h : Met G V w) (h0 : 0 ≤ w) (h1 : w < 64) : Met G (withS V w) (firstI (ot G w.toNat)) := ⟨fun i hi k0 k1 => by
  have hf := firstI_has k0
  have e : (((firstI (ot G w.toNat)).toNat : Nat) : Int) = firstI (ot G w.toNat) := by omega
  rw [hasB_withS, Bool.or_eq_true] at hi
  rcases hi with hi | hi
  · exact (h.reach i hi h0 h1).step (by rw [e]; exact hf)
  · simp only [Bool.and_eq_true, decide_eq_true_eq] at hi
    have : i = w.toNat := by omega
    subst this
    exact .base (by rw [e]; exact hf)⟩
theorem card_with {V : BitVec 64} {w : Int} (h0 : 0 ≤ w) (h1 : w < 64) (h : hasB V w = false) : card V < card (withS V w) := by
  have e : ((w.toNat : Nat) : Int) = w := by omega
  refine card_lt (i := w.toNat) (fun k hk => by rw [hasB_withS, hk]; rfl) ?_ (by rw [e]; exact h)
  rw [e, hasB_withS]; simp [h0, h1]
end Go.Eng
namespace Go.Eng
open Go Go.RowKit
/-- those that are met, and of these those that are not gone on from yet -/
structure OvI (G : Gr) (s met todo : BitVec 64) : Prop where
  sup : ∀ i : Nat, hasB s i = true → hasB met i = true
  sound : ∀ i : Nat, hasB met i = true → Rch G s i
  sub : ∀ i : Nat, hasB todo i = true → hasB met i = true
  done : ∀ j : Nat, hasB met j = true → hasB todo j = false → ∀ i : Nat, hasB (ot G j) i = true → hasB met i = true
theorem OvI.init (G : Gr) (s : BitVec 64) : OvI G s s s := ⟨fun _ h => h, fun _ h => .base h, fun _ h => h, fun j h1 h2 => by rw [h1] at h2; cases h2⟩
theorem hasB_andn (a b : BitVec 64) (i : Nat) (hi : i < 64) : hasB (a &&& ~~~b) i = (hasB a i && !hasB b i) := by
  rw [hasB_nat, hasB_nat, hasB_nat, BitVec.getLsbD_and, BitVec.getLsbD_not, decide_eq_true hi, Bool.true_and]
theorem hasB_natlt {s : BitVec 64} {i : Nat} (h : hasB s i = true) : i < 64 := by have := hasB_rng h; omega
def frs (G : Gr) (met : BitVec 64) (i : Nat) : BitVec 64 := ot G i &&& ~~~met
theorem OvI.step {G : Gr} {s met todo : BitVec 64} (h : OvI G s met todo) (h0 : todo ≠ 0#64) :
    OvI G s (met ||| frs G met (lsb todo)) (witho todo (lsb todo : Nat) ||| frs G met (lsb todo)) ∧
    64 - card ((met ||| frs G met (lsb todo)) &&& ~~~(witho todo (lsb todo : Nat) ||| frs G met (lsb todo))) < 64 - card (met &&& ~~~todo) := by
  obtain ⟨hl, hb, _⟩ := lsb_spec h0
  have hb' : hasB todo (lsb todo : Nat) = true := by rw [hasB_nat]; exact hb
  have hm := h.sub _ hb'
  have hf : ∀ k : Nat, hasB (frs G met (lsb todo)) k = true ↔ hasB (ot G (lsb todo)) k = true ∧ hasB met k = false := fun k => by
    constructor
    · intro hk; have hlt := hasB_natlt hk; unfold frs at hk; rw [hasB_andn _ _ _ hlt, Bool.and_eq_true] at hk; simpa using hk
    · rintro ⟨h1, h2⟩; have hlt := hasB_natlt h1; unfold frs; rw [hasB_andn _ _ _ hlt, h1, h2]; rfl
  refine ⟨⟨fun i hi => by rw [hasB_or, h.sup i hi]; rfl, fun i hi => ?_, fun i hi => ?_, fun j hj hn i hi => ?_⟩, ?_⟩
  · rw [hasB_or, Bool.or_eq_true] at hi
    rcases hi with hi | hi
    · exact h.sound i hi
    · exact .step (h.sound _ hm) ((hf i).1 hi).1
  · rw [hasB_or, Bool.or_eq_true] at hi ⊢
    rcases hi with hi | hi
    · rw [hasB_witho, Bool.and_eq_true] at hi; exact .inl (h.sub i hi.1)
    · exact .inr hi
  · rw [hasB_or, Bool.or_eq_false_iff] at hn
    rw [hasB_or, Bool.or_eq_true] at hj ⊢
    have hjm : hasB met j = true := by rcases hj with hj | hj; exact hj; rw [hn.2] at hj; cases hj
    cases hi2 : hasB met i
    · right; rw [hf]
      refine ⟨?_, hi2⟩
      by_cases e : j = lsb todo
      · subst e; exact hi
      · have := hn.1; rw [hasB_witho, decide_eq_false (show ¬ (j : Int) = (lsb todo : Nat) by omega)] at this
        simp only [Bool.not_false, Bool.and_true] at this
        rw [h.done j hjm this i hi] at hi2; cases hi2
    · exact .inl rfl
  · have hc := card_lt (s := met &&& ~~~todo) (t := (met ||| frs G met (lsb todo)) &&& ~~~(witho todo (lsb todo : Nat) ||| frs G met (lsb todo))) (i := lsb todo) (fun k hk => ?_) ?_ ?_
    · have := card_le ((met ||| frs G met (lsb todo)) &&& ~~~(witho todo (lsb todo : Nat) ||| frs G met (lsb todo)))
      omega
    · have hlt := hasB_natlt hk
      rw [hasB_andn _ _ _ hlt, Bool.and_eq_true, Bool.not_eq_true'] at hk
      rw [hasB_andn _ _ _ hlt, hasB_or, hk.1, hasB_or, hasB_witho, hk.2]
      cases hfk : hasB (frs G met (lsb todo)) k
      · rfl
      · rw [((hf k).1 hfk).2] at hk; cases hk.1
    · rw [hasB_andn _ _ _ hl, hasB_or, hm, hasB_or, hasB_witho]
      cases hfk : hasB (frs G met (lsb todo)) (lsb todo : Nat)
      · simp
      · rw [((hf _).1 hfk).2] at hm; cases hm
    · rw [hasB_andn _ _ _ hl, hm, hb']; rfl
theorem OvI.end {G : Gr} {s met : BitVec 64} (h : OvI G s met 0#64) : met = ovr G s := ovr_of ⟨h.sup, h.sound, fun j i hj hi => h.done j hj (hasB_zero _) i hi⟩
/-- waiting -/
def inG (w : Int) : Bool := decide (0 ≤ w) && decide (w < 64)
def wtE (G : Gr) (w : Int) (s : BitVec 64) : Int := if inG w = true then (if hasB (ovr G s) w = true then 9 else 0) else 1
def wtG (G : Gr) (w : Int) (s : BitVec 64) : Gr := if wtE G w s = 0 then G.set w.toNat s else G
theorem wtG_len {G : Gr} (h : G.length = 64) (w : Int) (s : BitVec 64) : (wtG G w s).length = 64 := by unfold wtG; split <;> simp [h]
theorem inG_iff {w : Int} : inG w = true ↔ 0 ≤ w ∧ w < 64 := by simp [inG]
theorem wtE_zero {G : Gr} {w : Int} {s : BitVec 64} (h : wtE G w s = 0) : (0 ≤ w ∧ w < 64) ∧ hasB (ovr G s) w = false := by
  unfold wtE at h
  by_cases h1 : inG w = true
  · rw [if_pos h1] at h
    by_cases h2 : hasB (ovr G s) w = true
    · rw [if_pos h2] at h; omega
    · exact ⟨inG_iff.1 h1, by simpa using h2⟩
  · rw [if_neg h1] at h; omega
theorem wtG_acy {G : Gr} (h : G.length = 64) (hG : Acy G) (w : Int) (s : BitVec 64) : Acy (wtG G w s) := by
  unfold wtG
  by_cases e : wtE G w s = 0
  · rw [if_pos e]
    obtain ⟨hw, hb⟩ := wtE_zero e
    refine acy_set h (by omega) hG (fun hr => ?_)
    have := (ovr_iff G s w.toNat).2 hr
    rw [show ((w.toNat : Nat) : Int) = w by omega, hb] at this; cases this
  · rw [if_neg e]; exact hG
def ofG (G : Gr) (w : Int) : BitVec 64 := if inG w = true then ot G w.toNat else 0#64
def rchG (G : Gr) (w : Int) : BitVec 64 := if inG w = true then ovr G (ot G w.toNat) else 0#64
def bhdG (G : Gr) (w : Int) : BitVec 64 := if inG w = true then bhd G w.toNat else 0#64
def clrG (G : Gr) (w : Int) : Gr := if ofG G w = 0#64 then G else G.set w.toNat 0#64
end Go.Eng
