/- In which order locks are taken: graphs of few numbers, orders, depths, rings; no program text in sight. No condition. -/
import Derived.Test.YtpllacnmiaommaaDoorM2
import Derived.Test.YtpllacnmiaommaaDoorM3
import Derived.Test.YtpllacnmiaommaaDoorRows
import Derived.Test.YtpllacnmiaommaaDoorM1
set_option linter.unusedVariables false
set_option linter.unusedSimpArgs false
set_option maxRecDepth 100000
namespace Go.Eng
open Go Go.RowKit
def Low (G : Gr) : Prop := ∀ i k : Nat, sHas (ot G i) k = true → k < G.length
theorem Low.rch {G : Gr} (h : Low G) {i k : Nat} (hr : Rch G (ot G i) k) : k < G.length := by
  cases hr with
  | base hb => exact h _ _ hb
  | step _ hb => exact h _ _ hb
theorem ot_out {G : Gr} {i : Nat} (h : G.length ≤ i) : ot G i = 0#64 := by
  unfold ot; rw [List.getD_eq_getElem?_getD, List.getElem?_eq_none h]; rfl
theorem ot_in {G : Gr} {i k : Nat} (h : sHas (ot G i) k = true) : i < G.length := by
  apply Classical.byContradiction; intro hn
  rw [ot_out om, sHas_zero] at h; cases h
theorem rch_in {G : Gr} {i k : Nat} (hr : Rch G (ot G i) k) : i < G.length := by
  induction hr with
  | base hb => exact ot_in hb
  | step _ _ ih => exact ih
def ordB (G : Gr) : Bool := (List.range G.length).all (fun (i : Nat) => !sHas (ovr G (ot G i)) (i : Nat))
theorem ordB_iff (G : Gr) : ordB G = true ↔ Acy G := by
  unfold ordB Acy
  rw [List.all_eq_true]
  constructor
  · intro h i hr
    have := h i (List.mem_range.2 (rch_in hr))
    rw [(ovr_iff G _ i).2 hr] at this; cases this
  · intro h i _
    cases hb : sHas (ovr G (ot G i)) (i : Nat)
    · rfl
    · exact absurd ((ovr_iff G _ i).1 hb) (h i)
theorem ordB_no {G : Gr} (h : ¬ Acy G) : ordB G = false := by
  cases hb : ordB G
  · rfl
  · exact absurd ((ordB_iff G).1 hb) h
/-! put one by one into a graph -/
def putG (G : Gr) (k : Nat) : Gr := (List.range k).foldl (fun H (i : Nat) => wtG H (i : Nat) (ot G i)) zeroG
theorem putG_succ (G : Gr) (k : Nat) : putG G (k + 1) = wtG (putG G k) (k : Nat) (ot G k) := by
  unfold putG; rw [List.range_succ, List.foldl_append]; rfl
theorem putG_len (G : Gr) (k : Nat) : (putG G k).length = 64 := by
  induction k with
  | zero => exact zeroG_len
  | succ k ih => rw [putG_succ]; exact wtG_len ih _ _
theorem putG_acy (G : Gr) (k : Nat) : Acy (putG G k) := by
  induction k with
  | zero => exact acy_zero
  | succ k ih => rw [putG_succ]; exact wtG_acy (putG_len G k) ih _ _
def okP (G : Gr) (k : Nat) : Prop := ∀ j, j < k → wtE (putG G j) (j : Nat) (ot G j) = 0
theorem okP.get {G : Gr} {k : Nat} (h : okP G k) (hk : k ≤ 64) (j : Nat) : ot (putG G k) j = if j < k then ot G j else 0#64 := by
  induction k with
  | zero => rw [if_neg om]; exact ot_zeroG j
  | succ k ih =>
    have he := h k om
    rw [putG_succ]; unfold wtG; rw [if_pos he, Int.toNat_natCast, ot_set (putG_len G k) om]
    by_cases e : j = k
    · subst e; rw [if_pos rfl, if_pos om]
    · rw [if_neg e, ih (fun j hj => h j om) om]
      by_cases e2 : j < k
      · rw [if_pos e2, if_pos om]
      · rw [if_neg e2, if_neg om]
theorem okP.le {G : Gr} {k : Nat} (h : okP G k) (hk : k ≤ 64) : GLe (putG G k) G := fun j i hb => by
  rw [h.get hk] at hb
  split at hb
  · exact hb
  · rw [sHas_zero] at hb; cases hb
theorem okP.bad {G : Gr} {k : Nat} (h : okP G k) (hk : k < 64) (hb : wtE (putG G k) (k : Nat) (ot G k) ≠ 0) : ¬ Acy G := by
  intro hA
  unfold wtE at hb
  rw [if_pos (inG_iff.2 ⟨by omega, by omega⟩)] at hb
  split at hb
  · rename_i hq
    have hr := (ovr_iff _ _ _).1 hq
    exact hA k (hr.mono (h.le om) (fun _ h => h))
  · exact hb rfl
theorem okP.good {G : Gr} (h : okP G G.length) (hk : G.length ≤ 64) : Acy G := by
  have hA := putG_acy G G.length
  intro i hr
  refine hA i (?_ : Rch _ _ _)
  have e := h.get hk i
  rw [if_pos (rch_in hr)] at e
  rw [e]
  exact hr.mono (fun j k hb => by rw [h.get hk, if_pos (ot_in hb)]; exact hb) (fun _ h => h)
/-! all that is come to: the worklist -/
structure WkI (G : Gr) (s met todo : BitVec 64) : Prop where
  sup : ∀ i : Nat, sHas s i = true → sHas met i = true ∨ sHas todo i = true
  sound : ∀ i : Nat, sHas met i = true ∨ sHas todo i = true → Rch G s i
  apart : ∀ i : Nat, sHas todo i = true → sHas met i = false
  done : ∀ j : Nat, sHas met j = true → ∀ i : Nat, sHas (ot G j) i = true → sHas met i = true ∨ sHas todo i = true
theorem WkI.init (G : Gr) (s : BitVec 64) : WkI G s 0#64 s := ⟨fun _ h => .inr h, fun i h => by
  rcases h with h | h
  · rw [sHas_zero] at h; cases h
  · exact .base h, fun i _ => sHas_zero _, fun j h => by rw [sHas_zero] at h; cases h⟩
theorem WkI.step {G : Gr} {s met todo : BitVec 64} (h : WkI G s met todo) (h0 : todo ≠ 0#64) :
    WkI G s (withS met (lsb todo : Nat)) ((todo ||| ot G (lsb todo)) &&& ~~~(withS met (lsb todo : Nat))) ∧ card met < card (withS met (lsb todo : Nat)) := by
  obtain ⟨hl, hb, _⟩ := lsb_spec h0
  have hb' : sHas todo (lsb todo : Nat) = true := by rw [sHas_nat]; exact hb
  have hr := h.sound _ (.inr hb')
  have hm : ∀ i : Nat, i < 64 → (sHas (withS met (lsb todo : Nat)) i = true ↔ sHas met i = true ∨ i = lsb todo) := fun i hi => by
    rw [sHas_withS, Bool.or_eq_true]
    simp only [Bool.and_eq_true, decide_eq_true_eq]
    constructor
    · rintro (h | ⟨h, _⟩)
      · exact .inl h
      · exact .inr om
    · rintro (h | h)
      · exact .inl h
      · exact .inr ⟨by omega, by omega, by omega⟩
  have ht : ∀ i : Nat, sHas ((todo ||| ot G (lsb todo)) &&& ~~~(withS met (lsb todo : Nat))) i = true ↔ (sHas todo i = true ∨ sHas (ot G (lsb todo)) i = true) ∧ ¬ (sHas met i = true ∨ i = lsb todo) := fun i => by
    constructor
    · intro hk
      have hlt := sHas_natlt hk
      rw [sHas_andn _ _ _ hlt, Bool.and_eq_true, Bool.not_eq_true', sHas_or, Bool.or_eq_true] at hk
      refine ⟨hk.1, fun hq => ?_⟩
      rw [(hm i hlt).2 hq] at hk; cases hk.2
    · rintro ⟨h1, h2⟩
      have hlt : i < 64 := by rcases h1 with h1 | h1 <;> exact sHas_natlt h1
      rw [sHas_andn _ _ _ hlt, Bool.and_eq_true, Bool.not_eq_true', sHas_or, Bool.or_eq_true]
      refine ⟨h1, ?_⟩
      cases hq : sHas (withS met (lsb todo : Nat)) i
      · rfl
      · exact absurd ((hm i hlt).1 hq) h2
  have all : ∀ i : Nat, (sHas met i = true ∨ sHas todo i = true) ∨ sHas (ot G (lsb todo)) i = true → sHas (withS met (lsb todo : Nat)) i = true ∨ sHas ((todo ||| ot G (lsb todo)) &&& ~~~(withS met (lsb todo : Nat))) i = true := fun i hi => by
    have hlt : i < 64 := by rcases hi with (hi | hi) | hi <;> exact sHas_natlt hi
    by_cases hq : sHas met i = true ∨ i = lsb todo
    · exact .inl ((hm i hlt).2 hq)
    · refine .inr ((ht i).2 ⟨?_, hq⟩)
      rcases hi with (hi | hi) | hi
      · exact absurd (.inl hi) hq
      · exact .inl hi
      · exact .inr hi
  refine ⟨⟨fun i hi => all i (.inl (h.sup i hi)), fun i hi => ?_, fun i hi => ?_, fun j hj i hi => ?_⟩, ?_⟩
  · rcases hi with hi | hi
    · rcases (hm i (sHas_natlt hi)).1 hi with hi | hi
      · exact h.sound i (.inl hi)
      · subst hi; exact hr
    · rcases ((ht i).1 hi).1 with hi | hi
      · exact h.sound i (.inr hi)
      · exact .step hr hi
  · have := ((ht i).1 hi).2
    cases hq : sHas (withS met (lsb todo : Nat)) i
    · rfl
    · exact absurd ((hm i (sHas_natlt hi)).1 hq) this
  · rcases (hm j (sHas_natlt hj)).1 hj with hj | hj
    · exact all i (.inl (h.done j hj i hi))
    · subst hj; exact all i (.inr hi)
  · exact card_with om om (h.apart _ hb')
theorem WkI.end {G : Gr} {s met : BitVec 64} (h : WkI G s met 0#64) : met = ovr G s := by
  refine ovr_of ⟨fun i hi => ?_, fun i hi => h.sound i (.inl hi), fun j i hj hi => ?_⟩
  · rcases h.sup i hi with h | h
    · exact h
    · rw [sHas_zero] at h; cases h
  · rcases h.done j hj i hi with h | h
    · exact h
    · rw [sHas_zero] at h; cases h
/-! ... and the rounds -/
/-! one less -/
theorem filter_one {p q : Nat → Bool} {i : Nat} : ∀ (l : List Nat), l.Nodup → i ∈ l → q i = true → p i = false → (∀ j ∈ l, j ≠ i → p j = q j) → (l.filter p).length + 1 = (l.filter q).length
  | [], _, h, _, _, _ => by cases h
  | a :: l, hn, hi, hq, hp, hj => by
    rw [List.nodup_cons] at hn
    simp only [List.filter_cons]
    by_cases e : a = i
    · subst e
      rw [hq, hp]
      have : l.filter p = l.filter q := List.filter_congr (fun j h => hj j (List.mem_cons_of_mem _ h) (fun e => by subst e; exact hn.1 h))
      simp [this]
    · have hi' : i ∈ l := by
        rcases List.mem_cons.1 hi with h | h
        · exact absurd h.symm e
        · exact h
      have ih := filter_one l hn.2 hi' hq hp (fun j h => hj j (List.mem_cons_of_mem _ h))
      rw [hj a (List.mem_cons_self ..) e]
      split
      · simp only [List.length_cons]; omega
      · exact ih
theorem card_witho {s : BitVec 64} {i : Nat} (h : sHas s i = true) : card (witho s (i : Nat)) + 1 = card s := by
  have hlt := sHas_natlt h
  refine filter_one (i := i) _ List.nodup_range (List.mem_range.2 hlt) (by rw [← sHas_nat]; exact h) ?_ (fun j _ hj => ?_)
  · rw [← sHas_nat, sHas_witho]; simp
  · rw [← sHas_nat, ← sHas_nat, sHas_witho, decide_eq_false (show ¬ (j : Int) = i by omega)]; simp
theorem card_zero {s : BitVec 64} (h : card s = 0) : s = 0#64 := allL_nil (List.length_eq_zero_iff.1 h)
/-! orders -/
def allN (n : Nat) : BitVec 64 := 1#64 <<< n - 1#64
theorem allN_has {n : Nat} (hn : n ≤ 12) (k : Nat) : sHas (allN n) k = decide (k < n) := by
  rw [sHas_nat]
  have key : ∀ n, n < 13 → ∀ k, k < 64 → (allN n).getLsbD k = decide (k < n) := by decide +kernel
  by_cases hk : k < 64
  · exact key n om k hk
  · rw [BitVec.getLsbD_of_ge _ _ om, decide_eq_false om]
theorem allN_card {n : Nat} (hn : n ≤ 12) : card (allN n) = n := by
  have key : ∀ n, n < 13 → card (allN n) = n := by decide +kernel
  exact key n om
def inW (G : Gr) (left : BitVec 64) : BitVec 64 := (allL left).foldl (fun a i => a ||| ot G i) 0#64
theorem or_fold (G : Gr) : ∀ (l : List Nat) (a : BitVec 64) (k : Nat), sHas (l.foldl (fun a i => a ||| ot G i) a) k = true ↔ sHas a k = true ∨ ∃ i ∈ l, sHas (ot G i) k = true
  | [], a, k => by simp
  | i :: l, a, k => by
    rw [List.foldl_cons, or_fold G l, sHas_or, Bool.or_eq_true]
    constructor
    · rintro ((h | h) | ⟨j, hj, h⟩)
      · exact .inl h
      · exact .inr ⟨i, List.mem_cons_self .., h⟩
      · exact .inr ⟨j, List.mem_cons_of_mem _ hj, h⟩
    · rintro (h | ⟨j, hj, h⟩)
      · exact .inl (.inl h)
      · rcases List.mem_cons.1 hj with rfl | hj
        · exact .inl (.inr h)
        · exact .inr ⟨j, hj, h⟩
theorem inW_has (G : Gr) (left : BitVec 64) (k : Nat) : sHas (inW G left) k = true ↔ ∃ i : Nat, sHas left i = true ∧ sHas (ot G i) k = true := by
  unfold inW; rw [or_fold, sHas_zero]
  constructor
  · rintro (h | ⟨i, hi, h⟩)
    · cases h
    · exact ⟨i, by rw [sHas_nat]; exact allL_mem.1 hi, h⟩
  · rintro ⟨i, hi, h⟩; exact .inr ⟨i, allL_mem.2 (by rw [← sHas_nat]; exact hi), h⟩
def Free (G : Gr) (left : BitVec 64) (i : Nat) : Prop := sHas left i = true ∧ ∀ j : Nat, sHas left j = true → sHas (ot G j) i = false
def freS (G : Gr) (left : BitVec 64) : BitVec 64 := left &&& ~~~(inW G left)
theorem freS_has (G : Gr) (left : BitVec 64) (i : Nat) : sHas (freS G left) i = true ↔ Free G left i := by
  constructor
  · intro h
    have hlt := sHas_natlt h
    unfold freS at h
    rw [sHas_andn _ _ _ hlt, Bool.and_eq_true, Bool.not_eq_true'] at h
    refine ⟨h.1, fun j hj => ?_⟩
    cases hb : sHas (ot G j) i
    · rfl
    · rw [(inW_has G left i).2 ⟨j, hj, hb⟩] at h; cases h.2
  · rintro ⟨h1, h2⟩
    have hlt := sHas_natlt h1
    unfold freS
    rw [sHas_andn _ _ _ hlt, h1, Bool.true_and, Bool.not_eq_true']
    cases hb : sHas (inW G left) i
    · rfl
    · obtain ⟨j, hj, hk⟩ := (inW_has G left i).1 hb
      rw [h2 j hj] at hk; cases hk
def freI (G : Gr) (left : BitVec 64) : Int := firstI (freS G left)
theorem rch_card {G : Gr} (hA : Acy G) {j i : Nat} (h : sHas (ot G j) i = true) : card (ovr G (ot G i)) < card (ovr G (ot G j)) := by
  refine card_lt (i := i) (fun k hk => ?_) ((ovr_iff _ _ _).2 (.base h)) ?_
  · rw [ovr_iff] at hk ⊢; exact Rch.trans (.base h) hk
  · cases hb : sHas (ovr G (ot G i)) i
    · rfl
    · exact absurd ((ovr_iff _ _ _).1 hb) (hA i)
theorem free_ex {G : Gr} (hA : Acy G) {left : BitVec 64} : ∀ (m i : Nat), sHas left i = true → 64 - card (ovr G (ot G i)) ≤ m → ∃ k, Free G left k
  | 0, i, hi, hm => by
    refine ⟨i, hi, fun j hj => ?_⟩
    cases hb : sHas (ot G j) i
    · rfl
    · have := rch_card hA hb; have := card_le (ovr G (ot G j)); omega
  | m + 1, i, hi, hm => by
    by_cases h : ∃ j : Nat, sHas left j = true ∧ sHas (ot G j) i = true
    · obtain ⟨j, hj, hb⟩ := h
      have := rch_card hA hb; have := card_le (ovr G (ot G j))
      exact free_ex hA m j hj om
    · refine ⟨i, hi, fun j hj => ?_⟩
      cases hb : sHas (ot G j) i
      · rfl
      · exact absurd ⟨j, hj, hb⟩ h
theorem freS_ne {G : Gr} (hA : Acy G) {left : BitVec 64} (h : left ≠ 0#64) : freS G left ≠ 0#64 := by
  obtain ⟨hl, hb, _⟩ := lsb_spec h
  obtain ⟨k, hk⟩ := free_ex hA (left := left) 64 (lsb left) (by rw [sHas_nat]; exact hb) om
  intro e
  have := (freS_has G left k).2 hk
  rw [e, sHas_zero] at this; cases this
theorem freI_at {G : Gr} {left : BitVec 64} (h : freS G left ≠ 0#64) : ∃ i : Nat, freI G left = (i : Nat) ∧ i < 64 ∧ Free G left i ∧ ∀ j, j < i → ¬ Free G left j := by
  obtain ⟨hl, hb, hlt⟩ := lsb_spec h
  refine ⟨lsb (freS G left), by unfold freI firstI; rw [if_neg h], hl, (freS_has _ _ _).1 (by rw [sHas_nat]; exact hb), fun j hj hf => ?_⟩
  have := (freS_has G left j).2 hf
  rw [sHas_nat, hlt j hj] at this; cases this
def ordF (G : Gr) : Nat → BitVec 64 → List Int
  | 0, _ => []
  | f + 1, left => if left = 0#64 then [] else freI G left :: ordF G f (witho left (freI G left))
theorem ordF_fuel {G : Gr} (hA : Acy G) : ∀ (f g : Nat) (left : BitVec 64), card left ≤ f → card left ≤ g → ordF G f left = ordF G g left
  | 0, 0, _, _, _ => rfl
  | 0, g + 1, left, h1, _ => by rw [ordF, ordF, if_pos (card_zero om)]
  | f + 1, 0, left, _, h2 => by rw [ordF, ordF, if_pos (card_zero om)]
  | f + 1, g + 1, left, h1, h2 => by
    rw [ordF, ordF]
    by_cases e : left = 0#64
    · rw [if_pos e, if_pos e]
    · rw [if_neg e, if_neg e]
      obtain ⟨i, hi, _, hf, _⟩ := freI_at (freS_ne hA e)
      rw [hi]
      have := card_witho hf.1
      rw [ordF_fuel hA f g _ om om]
def ordL (G : Gr) (left : BitVec 64) : List Int := ordF G 64 left
theorem ordL_zero (G : Gr) : ordL G 0#64 = [] := rfl
theorem ordL_cons {G : Gr} (hA : Acy G) {left : BitVec 64} (h : left ≠ 0#64) : ordL G left = freI G left :: ordL G (witho left (freI G left)) := by
  obtain ⟨i, hi, _, hf, _⟩ := freI_at (freS_ne hA h)
  have hc := card_witho hf.1
  have := card_le left
  unfold ordL
  rw [hi]
  rw [show ordF G 64 left = freI G left :: ordF G 63 (witho left (freI G left)) by rw [ordF, if_neg h], hi, ordF_fuel hA 63 64 _ om om]
def ordO (G : Gr) : List Int := ordL G (allN G.length)
def ClL (G : Gr) (left : BitVec 64) : Prop := ∀ j k : Nat, sHas left j = true → sHas (ot G j) k = true → sHas left k = true
theorem ClL.all {G : Gr} (h : Low G) (hn : G.length ≤ 12) : ClL G (allN G.length) := fun j k _ hk => by
  rw [allN_has hn]; exact decide_eq_true (h _ _ hk)
theorem has_wo {s : BitVec 64} {i k : Nat} : sHas (witho s (i : Nat)) k = true ↔ sHas s k = true ∧ k ≠ i := by
  rw [sHas_witho, Bool.and_eq_true, Bool.not_eq_true', decide_eq_false_iff_not]
  constructor
  · rintro ⟨h1, h2⟩; exact ⟨h1, by omega⟩
  · rintro ⟨h1, h2⟩; exact ⟨h1, by omega⟩
theorem ClL.step {G : Gr} {left : BitVec 64} (h : ClL G left) {i : Nat} (hf : Free G left i) : ClL G (witho left (i : Nat)) := fun j k hj hk => by
  rw [has_wo] at hj ⊢
  refine ⟨h j k hj.1 hk, fun e => ?_⟩
  subst e
  rw [hf.2 j hj.1] at hk; cases hk
theorem ordL_mem {G : Gr} (hA : Acy G) : ∀ (m : Nat) (left : BitVec 64), card left ≤ m → ∀ x : Int, x ∈ ordL G left ↔ ∃ k : Nat, x = k ∧ sHas left k = true
  | m, left, hm, x => by
    by_cases e : left = 0#64
    · subst e; rw [ordL_zero]
      constructor
      · intro h; cases h
      · rintro ⟨k, _, h⟩; rw [sHas_zero] at h; cases h
    · obtain ⟨i, hi, _, hf, _⟩ := freI_at (freS_ne hA e)
      have hc := card_witho hf.1
      rw [ordL_cons hA e, hi, List.mem_cons]
      match m, hm with
      | 0, hm => omega
      | m + 1, hm =>
        rw [ordL_mem hA m _ om x]
        constructor
        · rintro (h | ⟨k, h1, h2⟩)
          · exact ⟨i, h, hf.1⟩
          · exact ⟨k, h1, (has_wo.1 h2).1⟩
        · rintro ⟨k, h1, h2⟩
          by_cases q : k = i
          · subst q; exact .inl h1
          · exact .inr ⟨k, h1, has_wo.2 ⟨h2, q⟩⟩
theorem ordL_len {G : Gr} (hA : Acy G) : ∀ (m : Nat) (left : BitVec 64), card left ≤ m → (ordL G left).length = card left
  | m, left, hm => by
    by_cases e : left = 0#64
    · subst e; rw [ordL_zero]; decide
    · obtain ⟨i, hi, _, hf, _⟩ := freI_at (freS_ne hA e)
      have hc := card_witho hf.1
      rw [ordL_cons hA e, hi, List.length_cons]
      match m, hm with
      | 0, hm => omega
      | m + 1, hm => rw [ordL_len hA m _ om]; omega
theorem ordL_drop {G : Gr} (hA : Acy G) : ∀ (p : Nat) (left : BitVec 64), ClL G left → ∃ l2 : BitVec 64, (ordL G left).drop p = ordL G l2 ∧ ClL G l2 ∧ (∀ k : Nat, sHas l2 k = true → sHas left k = true)
  | 0, left, h => ⟨left, rfl, h, fun _ h => h⟩
  | p + 1, left, h => by
    by_cases e : left = 0#64
    · subst e; exact ⟨0#64, by rw [ordL_zero, List.drop_nil], h, fun _ h => h⟩
    · obtain ⟨i, hi, _, hf, _⟩ := freI_at (freS_ne hA e)
      obtain ⟨l2, h1, h2, h3⟩ := ordL_drop hA p (witho left (i : Nat)) (h.step hf)
      exact ⟨l2, by rw [ordL_cons hA e, hi, List.drop_succ_cons]; exact h1, h2, fun k hk => (has_wo.1 (h3 k hk)).1⟩
theorem ordO_at {G : Gr} (hA : Acy G) (hL : Low G) (hn : G.length ≤ 12) {p : Nat} (hp : p < (ordO G).length) :
    ∃ (i : Nat) (l2 : BitVec 64), (ordO G).getD p 0 = (i : Nat) ∧ i < G.length ∧ sHas l2 i = true ∧ (ordO G).drop p = ordL G l2 ∧ (ordO G).drop (p + 1) = ordL G (witho l2 (i : Nat)) ∧ (∀ k : Nat, sHas (ot G i) k = true → sHas (witho l2 (i : Nat)) k = true) ∧ (∀ k : Nat, sHas l2 k = true → k < G.length) := by
  obtain ⟨l2, h1, h2, h3⟩ := ordL_drop hA p (allN G.length) (ClL.all hL hn)
  have hne : l2 ≠ 0#64 := by
    intro e; subst e
    rw [ordL_zero] at h1
    have := congrArg List.length h1
    rw [List.length_drop, List.length_nil] at this
    unfold ordO at hp; omega
  obtain ⟨i, hi, _, hf, _⟩ := freI_at (freS_ne hA hne)
  have hlt : ∀ k : Nat, sHas l2 k = true → k < G.length := fun k hk => by
    have := h3 k hk; rw [allN_has hn] at this; exact of_decide_eq_true this
  have hc := ordL_cons hA hne
  have e1 : (ordO G).drop p = freI G l2 :: ordL G (witho l2 (freI G l2)) := by rw [← hc]; exact h1
  refine ⟨i, l2, ?_, hlt i hf.1, hf.1, h1, ?_, fun k hk => has_wo.2 ⟨h2 i k hf.1 hk, fun e => ?_⟩, hlt⟩
  · have := congrArg (fun l => l.getD 0 0) e1
    simp only [List.getD_cons_zero] at this
    rw [← hi, ← this, List.getD_eq_getElem?_getD, List.getD_eq_getElem?_getD, List.getElem?_drop, Nat.add_zero]
  · have := congrArg List.tail e1
    rw [List.tail_drop, List.tail_cons, hi] at this; exact this
  · subst e; exact hA k (.base hk)
theorem ordO_len {G : Gr} (hA : Acy G) (hn : G.length ≤ 12) : (ordO G).length = G.length := by
  unfold ordO; rw [ordL_len hA 64 _ (card_le _), allN_card hn]
/-! depths -/
def mxF (g : Nat → Nat) (l : List Nat) : Nat := l.foldl (fun b i => max b (g i)) 0
theorem mx_fold (g : Nat → Nat) : ∀ (l : List Nat) (b : Nat), l.foldl (fun b i => max b (g i)) b = max b (mxF g l)
  | [], b => by unfold mxF; simp
  | i :: l, b => by unfold mxF; rw [List.foldl_cons, List.foldl_cons, mx_fold g l, mx_fold g l (max 0 (g i))]; omega
theorem mxF_cons (g : Nat → Nat) (i : Nat) (l : List Nat) : mxF g (i :: l) = max (g i) (mxF g l) := by
  rw [show mxF g (i :: l) = l.foldl (fun b i => max b (g i)) (max 0 (g i)) from rfl, mx_fold]; omega
theorem mxF_snoc (g : Nat → Nat) (i : Nat) (l : List Nat) : mxF g (l ++ [i]) = max (mxF g l) (g i) := by
  unfold mxF; rw [List.foldl_append]; rfl
theorem mxF_le {g : Nat → Nat} {l : List Nat} {n : Nat} : mxF g l ≤ n ↔ ∀ i ∈ l, g i ≤ n := by
  induction l with
  | nil => simp [mxF]
  | cons i l ih => rw [mxF_cons, Nat.max_le, ih]; simp
theorem mxF_same {g : Nat → Nat} {l m : List Nat} (h : ∀ i, i ∈ l ↔ i ∈ m) : mxF g l = mxF g m := by
  apply Nat.le_antisymm
  · exact mxF_le.2 (fun i hi => mxF_le.1 (Nat.le_refl (mxF g m)) i ((h i).1 hi))
  · exact mxF_le.2 (fun i hi => mxF_le.1 (Nat.le_refl (mxF g l)) i ((h i).2 hi))
theorem mxF_congr {g h : Nat → Nat} {l : List Nat} (e : ∀ i ∈ l, g i = h i) : mxF g l = mxF h l := by
  induction l with
  | nil => rfl
  | cons i l ih => rw [mxF_cons, mxF_cons, e i (List.mem_cons_self ..), ih (fun j hj => e j (List.mem_cons_of_mem _ hj))]
def depF (G : Gr) : Nat → Nat → Nat
  | 0, _ => 0
  | f + 1, i => 1 + mxF (depF G f) (allL (ot G i))
theorem depF_succ (G : Gr) (f i : Nat) : depF G (f + 1) i = 1 + mxF (depF G f) (allL (ot G i)) := by rw [depF]
theorem allL_has {s : BitVec 64} {i : Nat} : i ∈ allL s ↔ sHas s i = true := by rw [allL_mem, sHas_nat]
theorem depF_fuel {G : Gr} (hA : Acy G) : ∀ (f g i : Nat), card (ovr G (ot G i)) < f → card (ovr G (ot G i)) < g → depF G f i = depF G g i
  | 0, _, _, h, _ => by omega
  | _ + 1, 0, _, _, h => by omega
  | f + 1, g + 1, i, h1, h2 => by
    rw [depF, depF]
    congr 1
    exact mxF_congr (fun k hk => by
      have := rch_card hA (allL_has.1 hk)
      exact depF_fuel hA f g k om om)
def dep (G : Gr) (i : Nat) : Nat := depF G 66 i
theorem dep_eq {G : Gr} (hA : Acy G) (i : Nat) : dep G i = 1 + mxF (dep G) (allL (ot G i)) := by
  have key : ∀ k ∈ allL (ot G i), depF G 65 k = dep G k := fun k _ => by
    have hc := card_le (ovr G (ot G k))
    exact depF_fuel hA 65 66 k om om
  rw [← mxF_congr key]
  exact depF_succ G 65 i
theorem depF_le (G : Gr) : ∀ (f i : Nat), depF G f i ≤ f
  | 0, _ => Nat.le_refl _
  | f + 1, i => by rw [depF]; have : mxF (depF G f) (allL (ot G i)) ≤ f := mxF_le.2 (fun k _ => depF_le G f k); omega
theorem dep_le (G : Gr) (i : Nat) : dep G i ≤ 66 := depF_le G 66 i
def dpt (G : Gr) : Nat := mxF (dep G) (List.range G.length)
theorem mx_ord {G : Gr} (hA : Acy G) (hn : G.length ≤ 12) : mxF (dep G) ((ordO G).map Int.toNat) = dpt G := by
  refine mxF_same (fun i => ?_)
  rw [List.mem_map, List.mem_range]
  constructor
  · rintro ⟨x, hx, rfl⟩
    obtain ⟨k, rfl, hk⟩ := (ordL_mem hA 64 _ (card_le _) x).1 hx
    rw [allN_has hn] at hk; rw [Int.toNat_natCast]; exact of_decide_eq_true hk
  · intro h
    exact ⟨(i : Nat), (ordL_mem hA 64 _ (card_le _) _).2 ⟨i, rfl, by rw [allN_has hn]; exact decide_eq_true h⟩, Int.toNat_natCast _⟩
/-! rings -/
def rngI (G : Gr) : Nat := ((List.range G.length).find? (fun (i : Nat) => sHas (ovr G (ot G i)) (i : Nat))).getD 0
theorem rng_ex {G : Gr} (h : ¬ Acy G) : ∃ i, i < G.length ∧ sHas (ovr G (ot G i)) (i : Nat) = true := by
  apply Classical.byContradiction; intro hn
  apply h; intro i hr
  exact hn ⟨i, rch_in hr, (ovr_iff _ _ _).2 hr⟩
theorem find_range {p : Nat → Bool} {n : Nat} (h : ∃ i, i < n ∧ p i = true) : ∃ i, (List.range n).find? p = some i ∧ i < n ∧ p i = true ∧ ∀ j, j < i → p j = false := by
  cases hf : (List.range n).find? p with
  | none =>
    obtain ⟨i, hi, hp⟩ := h
    have := List.find?_eq_none.1 hf i (List.mem_range.2 hi)
    exact absurd hp this
  | some i =>
    have h1 := List.find?_range_eq_some.1 hf
    refine ⟨i, rfl, List.mem_range.1 h1.2.1, h1.1, fun j hj => ?_⟩
    have := h1.2.2 j hj
    simpa using this
theorem rngI_spec {G : Gr} (h : ¬ Acy G) : rngI G < G.length ∧ sHas (ovr G (ot G (rngI G))) (rngI G : Nat) = true ∧ ∀ j, j < rngI G → sHas (ovr G (ot G j)) (j : Nat) = false := by
  obtain ⟨i, h1, h2, h3, h4⟩ := find_range (rng_ex h)
  unfold rngI; rw [h1]; exact ⟨h2, h3, h4⟩
theorem rngI_uniq {G : Gr} (h : ¬ Acy G) {i : Nat} (h1 : sHas (ovr G (ot G i)) (i : Nat) = true) (h2 : ∀ j, j < i → sHas (ovr G (ot G j)) (j : Nat) = false) : i = rngI G := by
  obtain ⟨k1, k2, k3⟩ := rngI_spec h
  have a1 : ¬ i < rngI G := fun q => by rw [k3 i q] at h1; cases h1
  have a2 : ¬ rngI G < i := fun q => by rw [h2 _ q] at k2; cases k2
  omega
def stpB (G : Gr) (t i : Nat) : Bool := decide (i = t) || sHas (ovr G (ot G i)) (t : Nat)
def nxtI (G : Gr) (a t : Nat) : Nat := ((allL (ot G a)).find? (stpB G t)).getD t
theorem nxt_ex {G : Gr} {a t : Nat} (h : Rch G (ot G a) t) : ∃ i : Nat, sHas (ot G a) i = true ∧ stpB G t i = true := by
  have key : ∀ {s : BitVec 64} {k : Nat}, Rch G s k → ∃ i : Nat, sHas s i = true ∧ (i = k ∨ Rch G (ot G i) k) := by
    intro s k hr
    induction hr with
    | base hb => exact ⟨_, hb, .inl rfl⟩
    | step _ hb ih =>
      obtain ⟨i, h1, h2⟩ := ih
      refine ⟨i, h1, .inr ?_⟩
      rcases h2 with h2 | h2
      · subst h2; exact .base hb
      · exact .step h2 hb
  obtain ⟨i, h1, h2⟩ := key h
  refine ⟨i, h1, ?_⟩
  unfold stpB
  rcases h2 with h2 | h2
  · rw [decide_eq_true h2]; rfl
  · rw [(ovr_iff _ _ _).2 h2, Bool.or_true]
theorem nxtI_spec {G : Gr} {a t : Nat} (h : Rch G (ot G a) t) (ht : Rch G (ot G t) t) : sHas (ot G a) (nxtI G a t) = true ∧ Rch G (ot G (nxtI G a t)) t := by
  obtain ⟨i, h1, h2⟩ := nxt_ex h
  unfold nxtI
  cases hf : (allL (ot G a)).find? (stpB G t) with
  | none => exact absurd h2 (by have := List.find?_eq_none.1 hf i (allL_has.2 h1); exact this)
  | some k =>
    have m1 := List.mem_of_find?_eq_some hf
    have m2 := List.find?_some hf
    refine ⟨allL_has.1 m1, ?_⟩
    unfold stpB at m2
    rw [Bool.or_eq_true] at m2
    rcases m2 with m2 | m2
    · have := of_decide_eq_true m2; show Rch G (ot G k) t; rw [this]; exact ht
    · exact (ovr_iff _ _ _).1 m2
def cycF (G : Gr) (t : Nat) : Nat → BitVec 64 → Nat → List Int
  | 0, _, _ => []
  | f + 1, met, a => if sHas met (a : Nat) = true then [] else (a : Int) :: cycF G t f (withS met (a : Nat)) (nxtI G a t)
theorem cycF_fuel (G : Gr) (t : Nat) : ∀ (f g : Nat) (met : BitVec 64) (a : Nat), 64 - card met < f → 64 - card met < g → a < 64 → (∀ a, a < 64 → nxtI G a t < 64) → cycF G t f met a = cycF G t g met a
  | 0, _, _, _, h, _, _, _ => by omega
  | _ + 1, 0, _, _, _, h, _, _ => by omega
  | f + 1, g + 1, met, a, h1, h2, ha, hx => by
    rw [cycF, cycF]
    by_cases e : sHas met (a : Nat) = true
    · rw [if_pos e, if_pos e]
    · rw [if_neg e, if_neg e]
      have hc := card_with (V := met) (w := (a : Nat)) om om (by simpa using e)
      have := card_le (withS met (a : Nat))
      rw [cycF_fuel G t f g _ _ om om (hx a ha) hx]
def cycL (G : Gr) (t : Nat) (met : BitVec 64) (a : Nat) : List Int := cycF G t 65 met a
theorem nxt_lt {G : Gr} {t : Nat} (ht : t < 64) (a : Nat) (_ : a < 64) : nxtI G a t < 64 := by
  unfold nxtI
  cases hf : (allL (ot G a)).find? (stpB G t) with
  | none => exact ht
  | some k => have := List.mem_of_find?_eq_some hf; exact sHas_natlt (allL_has.1 this)
theorem cycL_stop {G : Gr} {t a : Nat} {met : BitVec 64} (h : sHas met (a : Nat) = true) : cycL G t met a = [] := by
  unfold cycL; rw [cycF, if_pos h]
theorem cycL_next {G : Gr} {t a : Nat} {met : BitVec 64} (ht : t < 64) (ha : a < 64) (h : sHas met (a : Nat) = false) : cycL G t met a = (a : Int) :: cycL G t (withS met (a : Nat)) (nxtI G a t) := by
  unfold cycL
  rw [show cycF G t 65 met a = (a : Int) :: cycF G t 64 (withS met (a : Nat)) (nxtI G a t) by rw [cycF, if_neg (by rw [h]; simp)]]
  have hc := card_with (V := met) (w := (a : Nat)) om om h
  have := card_le (withS met (a : Nat))
  rw [cycF_fuel G t 64 65 _ _ om om (nxt_lt ht a ha) (nxt_lt ht)]
def cycO (G : Gr) : List Int := cycL G (rngI G) 0#64 (rngI G)
theorem cycF_link {G : Gr} {t : Nat} (ht : Rch G (ot G t) t) : ∀ (f : Nat) (met : BitVec 64) (a : Nat), Rch G (ot G a) t → ∀ i, i + 1 < (cycF G t f met a).length → sHas (ot G ((cycF G t f met a).getD i 0).toNat) ((cycF G t f met a).getD (i + 1) 0) = true
  | 0, _, _, _, i, hi => by simp [cycF] at hi
  | f + 1, met, a, ha, i, hi => by
    rw [cycF] at hi ⊢
    split
    · rename_i e; rw [if_pos e] at hi; simp at hi
    · rename_i e
      rw [if_neg e] at hi
      obtain ⟨h1, h2⟩ := nxtI_spec ha ht
      match i with
      | i + 1 =>
        rw [List.getD_cons_succ, List.getD_cons_succ]
        exact cycF_link ht f _ _ h2 i (by rw [List.length_cons] at hi; omega)
      | 0 =>
        rw [List.getD_cons_succ, List.getD_cons_zero, Int.toNat_natCast]
        match f with
        | 0 => simp [cycF] at hi
        | f + 1 =>
          rw [cycF] at hi ⊢
          split
          · rename_i e2; rw [if_pos e2] at hi; simp at hi
          · rw [List.getD_cons_zero]; exact h1
theorem cycF_mem {G : Gr} {t : Nat} (ht : Rch G (ot G t) t) : ∀ (f : Nat) (met : BitVec 64) (a : Nat), Rch G (ot G a) t → ∀ x ∈ cycF G t f met a, ∃ k : Nat, x = k ∧ k < G.length
  | 0, _, _, _, x, hx => by simp [cycF] at hx
  | f + 1, met, a, ha, x, hx => by
    rw [cycF] at hx
    split at hx
    · cases hx
    · rcases List.mem_cons.1 hx with h | h
      · exact ⟨a, h, rch_in ha⟩
      · exact cycF_mem ht f _ _ (nxtI_spec ha ht).2 x h
theorem cycF_len (G : Gr) (t : Nat) : ∀ (f : Nat) (met : BitVec 64) (a : Nat), (cycF G t f met a).length ≤ f
  | 0, _, _ => Nat.le_refl _
  | f + 1, met, a => by
    rw [cycF]; split
    · exact Nat.zero_le _
    · rw [List.length_cons]; have := cycF_len G t f (withS met (a : Nat)) (nxtI G a t); omega
theorem cycO_pos {G : Gr} (h : ¬ Acy G) (hn : G.length ≤ 12) : 0 < (cycO G).length := by
  have := (rngI_spec h).1
  unfold cycO; rw [cycL_next om om (sHas_zero _)]; simp
def innS (xs : List COp) (lo n : Nat) (s : BitVec 64) : BitVec 64 := ((xs.drop lo).take n).foldl (fun s o => if takesB o.k = true then withS s o.a else s) s
def witS (xs : List COp) (lock : Int) (s : BitVec 64) (i : Nat) : BitVec 64 := if (xs.getD i default).a = lock then innS xs (i + 1) (secO xs i).1 s else s
def witK (xs : List COp) (lock : Int) (k : Nat) : BitVec 64 := ((filP (tkT xs) xs.length).take k).foldl (witS xs lock) 0#64
def witO (xs : List COp) (lock : Int) : BitVec 64 := (filP (tkT xs) xs.length).foldl (witS xs lock) 0#64
theorem witK_succ {xs : List COp} {lock : Int} {k p : Nat} (h : (filP (tkT xs) xs.length)[k]? = some p) : witK xs lock (k + 1) = witS xs lock (witK xs lock k) p := by
  unfold witK
  rw [List.take_add_one, h, List.foldl_append]; rfl
theorem witK_all (xs : List COp) (lock : Int) : witK xs lock (filP (tkT xs) xs.length).length = witO xs lock := by
  unfold witK; rw [List.take_length]; rfl
theorem innS_succ {xs : List COp} {lo n : Nat} (s : BitVec 64) (h : lo + n < xs.length) : innS xs lo (n + 1) s = if takesB (xs.getD (lo + n) default).k = true then withS (innS xs lo n s) (xs.getD (lo + n) default).a else innS xs lo n s := by
  unfold innS
  have e : (xs.drop lo)[n]? = some (xs.getD (lo + n) default) := by
    rw [List.getElem?_drop, List.getD_eq_getElem?_getD, List.getElem?_eq_getElem h]; rfl
  rw [List.take_add_one, e, List.foldl_append]; rfl
theorem innS_has {xs : List COp} {lo n : Nat} {s : BitVec 64} {k : Int} (h : sHas (innS xs lo n s) k = true) : sHas s k = true ∨ ∃ o ∈ xs, takesB o.k = true ∧ o.a = k := by
  unfold innS at h
  have hsub : ∀ o ∈ (xs.drop lo).take n, o ∈ xs := fun o ho => List.mem_of_mem_drop (List.mem_of_mem_take ho)
  generalize (xs.drop lo).take n = l at h hsub
  induction l generalizing s with
  | nil => exact .inl h
  | cons o l ih =>
    rw [List.foldl_cons] at h
    rcases ih h (fun o ho => hsub o (List.mem_cons_of_mem _ ho)) with q | q
    · split at q
      · rename_i c
        rw [sHas_withS, Bool.or_eq_true] at q
        rcases q with q | q
        · exact .inl q
        · rw [Bool.and_eq_true] at q
          exact .inr ⟨o, hsub o (List.mem_cons_self ..), c, (of_decide_eq_true q.1).symm⟩
      · exact .inl q
    · exact .inr q
theorem witO_has {xs : List COp} {lock k : Int} (h : sHas (witO xs lock) k = true) : ∃ o ∈ xs, takesB o.k = true ∧ o.a = k := by
  unfold witO at h
  have key : ∀ (l : List Nat) (s : BitVec 64), sHas (l.foldl (witS xs lock) s) k = true → sHas s k = true ∨ ∃ o ∈ xs, takesB o.k = true ∧ o.a = k := by
    intro l
    induction l with
    | nil => exact fun s h => .inl h
    | cons i l ih =>
      intro s h
      rw [List.foldl_cons] at h
      rcases ih _ h with q | q
      · unfold witS at q
        split at q
        · exact innS_has q
        · exact .inl q
      · exact .inr q
  rcases key _ _ h with q | q
  · rw [sHas_zero] at q; cases q
  · exact q
def grwK (s : StC) (i k : Nat) : BitVec 64 := (s.ps.take k).foldl (fun g p => g ||| witO p.xs (i : Nat)) 0#64
def grfO (s : StC) : Gr := (List.range s.ls.length).map (fun i => grwK s i s.ps.length)
theorem grwK_succ {s : StC} {i k : Nat} (h : k < s.ps.length) : grwK s i (k + 1) = grwK s i k ||| witO (s.ps.getD k default).xs (i : Nat) := by
  unfold grwK
  have e : s.ps[k]? = some (s.ps.getD k default) := by rw [List.getD_eq_getElem?_getD, List.getElem?_eq_getElem h]; rfl
  rw [List.take_add_one, e, List.foldl_append]; rfl
theorem grfO_len (s : StC) : (grfO s).length = s.ls.length := by unfold grfO; rw [List.length_map, List.length_range]
end Go.Eng
namespace Go.Eng
open Go Go.Proofs Go.RowKit
abbrev uBx (b : Nat) (x : BitVec 64) : Nat × Obj := (b, .cells #[U x] 34 (0, 0))
theorem bit_spec (i : Int) (w : World) : Ret Tryd.prog 51 #[.int .i64 i] w (fun v w' => v = U (bitU i) ∧ Ext w w') := by
 refine Ret.enterM Tryd.func51 rfl Tryd.ntmps51 rfl ([]) (no) (Mem.nil w) ?_
 refine wR <| LM.as rfl <| nA [(0, _)] <| wpM.seq <| wR <| LM.mv rfl <| LM.val (ov_lss rfl rfl) <| LM.mv rfl ?_
 refine LM.splitD (t := 5) rfl (fun h1 => ?_) (fun h1 => ?_)
 ·
  refine LM.dr 5 rfl rfl rfl <| LM.dr 5 rfl rfl rfl <| LM.val (ov_pickT rfl rfl) <| nA [(0, _), (8, _)] ?_
  refine wpM.condT rfl ?_
  refine wR <| LM.as rfl <| nA [(2, _)] <| wpM.ret <| QM.then_ret ?_
  refine qL Tryd.results51 rfl fun w' hm' hc' hg' => ?_
  refine ⟨?_, hc'⟩; simp only [resV, bitU]; first | (rw [if_pos om]; done) | (rw [if_neg om]; done) | (rw [if_pos om]; rfl)
 refine LM.sp 5 rfl rfl rfl <| LM.mv rfl <| LM.sp 5 rfl rfl rfl <| LM.val (ov_gtr rfl rfl) <| LM.val (ov_pickF rfl rfl) <| nA [(0, _), (8, _)] ?_
 refine wpM.condD rfl (fun h2 => ?_) (fun h2 => ?_)
 ·
  refine wR <| LM.as rfl <| nA [(2, _)] <| wpM.ret <| QM.then_ret ?_
  refine qL Tryd.results51 rfl fun w' hm' hc' hg' => ?_
  refine ⟨?_, hc'⟩; simp only [resV, bitU]; first | (rw [if_pos om]; done) | (rw [if_neg om]; done) | (rw [if_pos om]; rfl)
 refine wpM.skip <| tR <| LM.mv rfl ?_
 refine LM.val (ov_ushl (a := 1#64) rfl rfl om) ?_
 refine LM.as rfl <| nA [(2, _)] <| wpM.ret ?_
 refine qL Tryd.results51 rfl fun w' hm' hc' hg' => ?_
 refine ⟨?_, hc'⟩; simp only [resV, bitU]; first | (rw [if_pos om]; done) | (rw [if_neg om]; done) | (rw [if_pos om]; rfl)
theorem ihas_spec (s : BitVec 64) (i : Int) (w : World) : Ret Tryd.prog 27 #[U s, .int .i64 i] w (fun v w' => v = .bool (sHas s i) ∧ Ext w w') := by
 refine Ret.enterM Tryd.func27 rfl Tryd.ntmps27 rfl ([]) (no) (Mem.nil w) ?_
 refine wR <| LM.as rfl <| nB [(0, _), (1, _)] <| LM.mv rfl <| LM.mv rfl ?_
 refine cE Tryd.func51 rfl (fun w hm hc hg => bit_spec _ w) ?_
 refine LM.val (ov_uand rfl rfl) ?_
 refine LM.val (ov_uneq (b := 0#64) rfl rfl) ?_
 refine LM.as rfl <| nA [(4, _)] <| wpM.ret ?_
 refine qL Tryd.results27 rfl fun w' hm' hc' hg' => ?_
 exact ⟨by simp only [resV]; rw [has_bit], hc'⟩
theorem with_spec (s : BitVec 64) (i : Int) (w : World) : Ret Tryd.prog 30 #[U s, .int .i64 i] w (fun v w' => v = U (withS s i) ∧ Ext w w') := by
 refine Ret.enterM Tryd.func30 rfl Tryd.ntmps30 rfl ([]) (no) (Mem.nil w) ?_
 refine wR <| LM.as rfl <| nB [(0, _), (1, _)] <| LM.mv rfl <| LM.mv rfl ?_
 refine cE Tryd.func51 rfl (fun w hm hc hg => bit_spec _ w) ?_
 refine LM.val (ov_uor rfl rfl) ?_
 refine LM.as rfl <| nA [(4, _)] <| wpM.ret ?_
 refine qL Tryd.results30 rfl fun w' hm' hc' hg' => ?_
 exact ⟨rfl, hc'⟩
theorem without_spec (s : BitVec 64) (i : Int) (w : World) : Ret Tryd.prog 26 #[U s, .int .i64 i] w (fun v w' => v = U (witho s i) ∧ Ext w w') := by
 refine Ret.enterM Tryd.func26 rfl Tryd.ntmps26 rfl ([]) (no) (Mem.nil w) ?_
 refine wR <| LM.as rfl <| nB [(0, _), (1, _)] <| LM.mv rfl <| LM.mv rfl ?_
 refine cE Tryd.func51 rfl (fun w hm hc hg => bit_spec _ w) ?_
 refine LM.val (ov_uandNot rfl rfl) ?_
 refine LM.as rfl <| nA [(4, _)] <| wpM.ret ?_
 refine qL Tryd.results26 rfl fun w' hm' hc' hg' => ?_
 exact ⟨rfl, hc'⟩
theorem trail_spec (x : BitVec 64) (w : World) (hT : Tab w) : Ret Tryd.prog 56 #[U x] w (fun v w' => v = .int .i64 (lsb x : Nat) ∧ Ext w w') := by
 refine Ret.enterM Tryd.func56 rfl Tryd.ntmps56 rfl ([]) (no) (Mem.nil w) ?_
 refine wR <| LM.as rfl <| nA [(0, _)] <| wpM.seq <| wR <| LM.mv rfl ?_
 refine LM.val (ov_ueql (b := 0#64) rfl rfl) ?_
 refine nA [(0, _), (4, _)] ?_
 refine wpM.condD rfl (fun h1 => ?_) (fun h1 => ?_)
 ·
  refine wR <| LM.as rfl <| nA [(2, _)] <| wpM.ret <| QM.then_ret ?_
  refine qL Tryd.results56 rfl fun w' hm' hc' hg' => ?_
  exact ⟨by simp only [resV]; rw [h1, lsb_zero]; rfl, hc'⟩
 refine wpM.skip <| tR <| LM.mv rfl <| LM.mv rfl ?_
 refine LM.val (ov_uneg rfl) ?_
 refine LM.val (ov_uand rfl rfl) ?_
 refine LM.val (ov_umul (b := 285870213051353865#64) rfl rfl) ?_
 refine LM.val (ov_ushr rfl rfl om) ?_
 have hb : (((x &&& -x) * 285870213051353865#64) >>> (58 : Int).toNat).toNat < 64 := (by rw [and_neg h1]; exact (deb_at _ (lsb_spec h1).1).2); have hd : debT.getD (((x &&& -x) * 285870213051353865#64) >>> (58 : Int).toNat).toNat 0 = (lsb x : Nat) := (by rw [and_neg h1]; exact (deb_at _ (lsb_spec h1).1).1); have hlb := (lsb_spec h1).1
 refine LM.val (ov_idxAN Tryd.underlying131 Tryd.sizeOf5 rfl rfl om) ?_
 refine LM.rdC (v := .int .u8 (lsb x : Nat)) (fun w _ hc _ => hd ▸ om_tab (hT.ext hc) Tryd.isAgg5 rfl om hb) ?_
 refine LM.val (ov_to64 Tryd.underlying5 Tryd.underlying3 rfl om) ?_
 refine LM.as rfl <| nA [(2, _)] <| wpM.ret ?_
 refine qL Tryd.results56 rfl fun w' hm' hc' hg' => ?_
 exact ⟨rfl, hc'⟩
theorem first_spec (s : BitVec 64) (w : World) (hT : Tab w) : Ret Tryd.prog 50 #[U s] w (fun v w' => v = .int .i64 (firstI s) ∧ Ext w w') := by
 refine Ret.enterM Tryd.func50 rfl Tryd.ntmps50 rfl ([]) (no) (Mem.nil w) ?_
 refine wR <| LM.as rfl <| nA [(0, _)] <| wpM.seq <| wR <| LM.mv rfl ?_
 refine LM.val (ov_ueql (b := 0#64) rfl rfl) ?_
 refine nA [(0, _), (4, _)] ?_
 refine wpM.condD rfl (fun h1 => ?_) (fun h1 => ?_)
 ·
  refine wR <| LM.as rfl <| nA [(2, _)] <| wpM.ret <| QM.then_ret ?_
  refine qL Tryd.results50 rfl fun w' hm' hc' hg' => ?_
  refine ⟨?_, hc'⟩; simp only [resV, firstI]; first | (rw [if_pos h1]; done) | (rw [if_neg h1])
 refine wpM.skip <| tR <| LM.mv rfl ?_
 refine cE Tryd.func56 rfl (fun w hm hc hg => trail_spec _ w (hT.ext hc)) ?_
 refine LM.as rfl <| nA [(2, _)] <| wpM.ret ?_
 refine qL Tryd.results50 rfl fun w' hm' hc' hg' => ?_
 refine ⟨?_, hc'⟩; simp only [resV, firstI]; first | (rw [if_pos h1]; done) | (rw [if_neg h1])
theorem rhas_spec (s : BitVec 64) (i : Int) (w : World) : Ret Tryd.prog 37 #[U s, .int .i64 i] w (fun v w' => v = .bool (sHas s i) ∧ Ext w w') := by
 refine Ret.enterM Tryd.func37 rfl Tryd.ntmps37 rfl ([]) (no) (Mem.nil w) ?_
 refine wR <| LM.as rfl <| nB [(0, _), (1, _)] <| LM.mv rfl <| LM.val (ov_geq rfl rfl) <| LM.mv rfl ?_
 refine LM.splitD (t := 7) rfl (fun h1 => ?_) (fun h1 => ?_)
 ·
  refine LM.sp 7 rfl rfl rfl <| LM.mv rfl <| LM.sp 7 rfl rfl rfl <| LM.val (ov_lss rfl rfl) <| LM.val (ov_pickT rfl rfl) <| LM.mv rfl ?_
  refine LM.splitD (t := 11) rfl (fun h2 => ?_) (fun h2 => ?_)
  ·
   refine LM.sp 11 rfl rfl rfl <| LM.mv rfl <| LM.sp 11 rfl rfl rfl <| LM.mv rfl <| LM.sp 11 rfl rfl rfl ?_
   refine LM.val (ov_ushr rfl rfl om) ?_
   refine LM.sp 11 rfl rfl rfl ?_
   refine LM.val (ov_urem (b := 2#64) rfl rfl (by first | decide | assumption)) ?_
   refine LM.sp 11 rfl rfl rfl ?_
   refine LM.val (ov_ueql (b := 1#64) rfl rfl) ?_
   refine LM.val (ov_pickT rfl rfl) <| LM.as rfl <| nA [(4, _)] <| wpM.ret ?_
   refine qL Tryd.results37 rfl fun w' hm' hc' hg' => ?_
   refine ⟨?_, hc'⟩; simp only [resV, sHas, h1, h2, decide_true, decide_false, Bool.true_and, Bool.false_and, Bool.and_true, Bool.and_false, Bool.not_true, Bool.not_false, Bool.true_or, Bool.false_or, Bool.or_true, Bool.or_false, ne_eq, not_true_eq_false, not_false_eq_true, Bool.and_self]; rw [shr_mod]
  refine LM.dr 11 rfl rfl rfl <| LM.dr 11 rfl rfl rfl <| LM.dr 11 rfl rfl rfl <| LM.dr 11 rfl rfl rfl <| LM.dr 11 rfl rfl rfl <| LM.val (ov_pickF rfl rfl) <| LM.as rfl <| nA [(4, _)] <| wpM.ret ?_
  refine qL Tryd.results37 rfl fun w' hm' hc' hg' => ?_
  refine ⟨?_, hc'⟩; simp only [resV, sHas, h1, h2, decide_true, decide_false, Bool.true_and, Bool.false_and, Bool.and_true, Bool.and_false, Bool.not_true, Bool.not_false, Bool.true_or, Bool.false_or, Bool.or_true, Bool.or_false, ne_eq, not_true_eq_false, not_false_eq_true, Bool.and_self]
 refine LM.dr 7 rfl rfl rfl <| LM.dr 7 rfl rfl rfl <| LM.val (ov_pickF rfl rfl) <| LM.mv rfl <| LM.dr 11 rfl rfl rfl <| LM.dr 11 rfl rfl rfl <| LM.dr 11 rfl rfl rfl <| LM.dr 11 rfl rfl rfl <| LM.dr 11 rfl rfl rfl <| LM.val (ov_pickF rfl rfl) <| LM.as rfl <| nA [(4, _)] <| wpM.ret ?_
 refine qL Tryd.results37 rfl fun w' hm' hc' hg' => ?_
 refine ⟨?_, hc'⟩; simp only [resV, sHas, h1, decide_true, decide_false, Bool.true_and, Bool.false_and, Bool.and_true, Bool.and_false, Bool.not_true, Bool.not_false, Bool.true_or, Bool.false_or, Bool.or_true, Bool.or_false, ne_eq, not_true_eq_false, not_false_eq_true, Bool.and_self]
theorem rwith_spec (s : BitVec 64) (i : Int) (w : World) : Ret Tryd.prog 33 #[U s, .int .i64 i] w (fun v w' => v = U (withS s i) ∧ Ext w w') := by
 refine Ret.enterM Tryd.func33 rfl Tryd.ntmps33 rfl ([]) (no) (Mem.nil w) ?_
 refine wR <| LM.as rfl <| nA [(0, _), (1, _)] <| wpM.seq <| wR <| LM.mv rfl <| LM.val (ov_lss rfl rfl) <| LM.mv rfl ?_
 refine LM.splitD (t := 7) rfl (fun h1 => ?_) (fun h1 => ?_)
 ·
  refine LM.dr 7 rfl rfl rfl <| LM.dr 7 rfl rfl rfl <| LM.val (ov_pickT rfl rfl) <| LM.mv rfl <| LM.dr 11 rfl rfl rfl <| LM.dr 11 rfl rfl rfl <| LM.dr 11 rfl rfl rfl <| LM.val (ov_pickT rfl rfl) <| nA [(0, _), (1, _), (15, _)] ?_
  refine wpM.condT rfl ?_
  refine wR <| LM.mv rfl <| LM.as rfl <| nA [(4, _)] <| wpM.ret <| QM.then_ret ?_
  refine qL Tryd.results33 rfl fun w' hm' hc' hg' => ?_
  refine ⟨?_, hc'⟩; simp only [resV]; first | exact congrArg U (with_out om).symm | exact congrArg U (with_has asm).symm | exact congrArg U (add_bit om asm)
 refine LM.sp 7 rfl rfl rfl <| LM.mv rfl <| LM.sp 7 rfl rfl rfl <| LM.val (ov_gtr rfl rfl) <| LM.val (ov_pickF rfl rfl) <| LM.mv rfl ?_
 refine LM.splitD (t := 11) rfl (fun h2 => ?_) (fun h2 => ?_)
 ·
  refine LM.dr 11 rfl rfl rfl <| LM.dr 11 rfl rfl rfl <| LM.dr 11 rfl rfl rfl <| LM.val (ov_pickT rfl rfl) <| nA [(0, _), (1, _), (15, _)] ?_
  refine wpM.condT rfl ?_
  refine wR <| LM.mv rfl <| LM.as rfl <| nA [(4, _)] <| wpM.ret <| QM.then_ret ?_
  refine qL Tryd.results33 rfl fun w' hm' hc' hg' => ?_
  refine ⟨?_, hc'⟩; simp only [resV]; first | exact congrArg U (with_out om).symm | exact congrArg U (with_has asm).symm | exact congrArg U (add_bit om asm)
 refine LM.sp 11 rfl rfl rfl <| LM.mv rfl <| LM.sp 11 rfl rfl rfl <| LM.mv rfl <| LM.sp 11 rfl rfl rfl ?_
 refine cE Tryd.func37 rfl (fun w hm hc hg => rhas_spec _ _ w) ?_
 refine LM.val (ov_pickF rfl rfl) <| nA [(0, _), (1, _), (15, _)] ?_
 refine wpM.condB rfl (fun h3 => ?_) (fun h3 => ?_)
 ·
  refine wR <| LM.mv rfl <| LM.as rfl <| nA [(4, _)] <| wpM.ret <| QM.then_ret ?_
  refine qL Tryd.results33 rfl fun w' hm' hc' hg' => ?_
  refine ⟨?_, hc'⟩; simp only [resV]; first | exact congrArg U (with_out om).symm | exact congrArg U (with_has asm).symm | exact congrArg U (add_bit om asm)
 refine wpM.skip <| tR <| LM.mv rfl <| LM.mv rfl ?_
 refine LM.val (ov_ushl (a := 1#64) rfl rfl om) ?_
 refine LM.val (ov_uadd rfl rfl) ?_
 refine LM.as rfl <| nA [(4, _)] <| wpM.ret ?_
 refine qL Tryd.results33 rfl fun w' hm' hc' hg' => ?_
 refine ⟨?_, hc'⟩; simp only [resV]; first | exact congrArg U (with_out om).symm | exact congrArg U (with_has asm).symm | exact congrArg U (add_bit om asm)
def AllT (s : BitVec 64) (n0 : Nat) (v : Value) (m : Mem0) : Prop := ∃ b1, v = .func (.func 55) #[] #[.pointer (some ⟨b1, 0, none⟩)] ∧ m = [uBx b1 s] ∧ n0 ≤ b1
theorem AllT.mono {s : BitVec 64} : ∀ (k k' : Nat) u m, k' ≤ k → AllT s k u m → AllT s k' u m := fun k k' u m h ⟨b1, h1, h2, h3⟩ => ⟨b1, h1, h2, by omega⟩
def allA (s : BitVec 64) : List (Array Value) := (allL s).map (fun i => #[.int .i64 (i : Nat)])
theorem allA_len (s : BitVec 64) : (allA s).length = (allL s).length := by simp [allA]
theorem allA_get {s x : BitVec 64} {k : Nat} (h : allL x = (allL s).drop k) (hx : x ≠ 0#64) : (allA s)[k]? = some #[.int .i64 (lsb x : Nat)] := by
  rw [allL_cons hx] at h
  have : (allL s)[k]? = some (lsb x) := by
    have h2 := congrArg (fun l => l[0]?) h
    simp only [List.getElem?_cons_zero, List.getElem?_drop, Nat.add_zero] at h2
    exact h2.symm
  unfold allA; rw [List.getElem?_map, this]; rfl
theorem allA_inv {s : BitVec 64} {k : Nat} {a : Array Value} (h : (allA s)[k]? = some a) : ∃ i, (allL s)[k]? = some i ∧ a = #[.int .i64 (i : Nat)] := by
  unfold allA at h; rw [List.getElem?_map, Option.map_eq_some_iff] at h
  obtain ⟨i, h1, rfl⟩ := h; exact ⟨i, h1, rfl⟩
theorem all_spec (s : BitVec 64) (w : World) : Ret Tryd.prog 34 #[U s] w (fun v w' => Ext w w' ∧ ∃ m, AllT s w.heap.size v m ∧ Mem w' m ∧ ∀ p ∈ m, w.heap.size ≤ p.1) := by
 refine Ret.enterM Tryd.func34 rfl Tryd.ntmps34 rfl ([]) (no) (Mem.nil w) ?_
 refine wR ?_
 refine LM.box rfl rfl (fun b1 hb1 => ?_)
 refine LM.as rfl <| nB [(1, _)] ?_
 refine LM.val (ov_makeFunc rfl) ?_
 refine LM.as rfl <| nA [(2, _)] <| wpM.ret ?_
 refine qL Tryd.results34 rfl fun w' hm' hc' hg' => ?_
 exact ⟨hc', _, ⟨b1, rfl, rfl, hb1⟩, SubM.mem au1 _ hm', fun p hp => by simp only [List.mem_cons, List.not_mem_nil, or_false] at hp; subst hp; assumption⟩
theorem all_seq {s : BitVec 64} {b1 : Nat} : SeqC Tryd.prog 55 #[.pointer (some ⟨b1, 0, none⟩)] (allA s) (fun w => Mem w [uBx b1 s] ∧ Tab w) (True) := by
 refine SeqC.enter (lb := [.pointer (some ⟨b1, 0, none⟩)]) Tryd.func55 rfl Tryd.ntmps55 rfl ?_
 intro l n0 J Jx w0 hfin hJr gJ gJx hy
 refine wR ?_
 refine LM.rdC (fun w _ _ hg => om_load 0 Tryd.isAgg34 rfl rfl rfl w (hJr _ w hg).1) ?_
 refine LM.as rfl <| nA [(0, _), (3, _)] <| wpM.block ?_
 refine wpM.loopK (α := Nat × BitVec 64) (fun ⟨k, x⟩ => [(3, U x)]) [(0, _)] (fun ⟨k, x⟩ => []) (fun ⟨k, x⟩ => J k) (fun ⟨k, x⟩ => allL x = (allL s).drop k ∧ k ≤ (allL s).length) (fun ⟨k, x⟩ => (allL s).length - k) ((0, s)) ⟨au2, rfl, trivial⟩ au1 (fun _ h => h) ⟨rfl, Nat.zero_le _⟩ ?_
 rintro ⟨k, x⟩ ⟨hx, hk⟩
 change wpM _ _ _ _ _ _ _ ([]) _ _ _
 refine wpM.seq <| wR <| LM.mv rfl ?_
 refine LM.val (ov_uneq (b := 0#64) rfl rfl) ?_
 refine nA [(0, _), (3, _), (6, _)] ?_
 refine wpM.condD rfl (fun h1 => ?_) (fun h1 => ?_)
 ·
  refine wpM.skip <| QM.then <| wpM.seq <| wpM.block <| wR <| LM.mv rfl <| LM.mv rfl ?_
  refine cE Tryd.func56 rfl (fun w hm hc hg => trail_spec _ w (hJr _ w hg).2) ?_
  refine LM.mem (M' := []) (fun w _ => Mem.nil w) ?_
  refine LM.yield (n := n0) (G1 := J (k + 1)) (G2 := Jx) rfl rfl (fun w hj => hy (k) _ w (allA_get hx h1) hj) (fun _ => trivial) ?_ ?_
  ·
   refine LM.val (ov_not rfl) ?_
   refine nA [(0, _), (3, _), (15, _)] ?_
   refine wpM.condF rfl ?_
   refine wpM.skip <| QM.block_normal ?_
   refine QM.then (wpM.region ?_)
   refine LM.mv rfl <| LM.mv rfl ?_
   refine LM.val (ov_usub (b := 1#64) rfl rfl) ?_
   refine LM.val (ov_uand rfl rfl) ?_
   refine LM.as rfl <| nC [(0, _), (3, _)] ?_
   have hlt : k < (allL s).length := (by have h2 := congrArg List.length hx; rw [allL_cons h1, List.length_cons, List.length_drop] at h2; omega)
   refine QM.againK (k + 1, x &&& (x - 1#64)) ⟨au2, rfl, trivial⟩ au1 (fun _ h => h) ?_ ?_
   · refine ⟨?_, by omega⟩; rw [allL_cons h1] at hx; have h2 := congrArg List.tail hx; rw [List.tail_cons, List.tail_drop] at h2; exact h2
   · (dsimp only; omega)
  refine LM.val (ov_not rfl) ?_
  refine nA [(0, _), (3, _), (15, _)] ?_
  refine wpM.condT rfl ?_
  refine wpM.ret <| QM.block_ret <| QM.then_ret <| QM.then_ret <| QM.block_ret ?_
  refine QM.leave (.inl rfl) [] Tryd.results55 rfl ?_
  intro w' hm' hc' hg'
  exact .inr hg'
 refine wpM.exit <| QM.then_exit <| QM.then_exit <| QM.block_hit ?_
 refine QM.leave (.inr rfl) [] Tryd.results55 rfl ?_
 intro w' hm' hc' hg'
 have h0 : x = 0#64 := (by simpa using h1); subst h0; rw [allL_zero] at hx; have h2 := congrArg List.length hx; rw [List.length_nil, List.length_drop] at h2; exact .inl (by rw [allA_len, show (allL s).length = k by omega]; exact hg')
def secZ (lock : Int) : Int → List COp → Nat × Int
  | acc, [] => (0, acc)
  | acc, o :: l => if stopB lock o then (0, acc) else ((secZ lock (if o.k = 1 then IntKind.i64.wrap (acc + o.a) else acc) l).1 + 1, (secZ lock (if o.k = 1 then IntKind.i64.wrap (acc + o.a) else acc) l).2)
theorem secZ_fst (lock : Int) : ∀ (l : List COp) (acc : Int), (secZ lock acc l).1 = (secT lock l).1
  | [], acc => rfl
  | o :: l, acc => by
    rw [secZ, secT]
    by_cases h : stopB lock o = true
    · rw [if_pos h, if_pos h]
    · rw [if_neg h, if_neg h]; show (secZ lock _ l).1 + 1 = (secT lock l).1 + 1; rw [secZ_fst lock l]
theorem secZ_drop {lock acc : Int} {xs : List COp} {i : Nat} (h : i < xs.length) : secZ lock acc (xs.drop i) = if stopB lock (xs.getD i default) then (0, acc) else ((secZ lock (if (xs.getD i default).k = 1 then IntKind.i64.wrap (acc + (xs.getD i default).a) else acc) (xs.drop (i + 1))).1 + 1, (secZ lock (if (xs.getD i default).k = 1 then IntKind.i64.wrap (acc + (xs.getD i default).a) else acc) (xs.drop (i + 1))).2) := by
  have e := getq (default : COp) h
  rw [List.getElem?_eq_getElem h] at e
  rw [List.drop_eq_getElem_cons h, Option.some.inj e]
  rw [secZ]
def SecZ (lock : Int) (ys : List COp) (j : Nat) (acc : Int) : Prop :=
  j ≤ ys.length ∧ (secZ lock 0 ys).1 = j + (secZ lock acc (ys.drop j)).1 ∧ (secZ lock 0 ys).2 = (secZ lock acc (ys.drop j)).2
theorem SecZ.zero (lock : Int) (ys : List COp) : SecZ lock ys 0 0 := ⟨Nat.zero_le _, by simp, by simp⟩
theorem SecZ.step {lock : Int} {ys : List COp} {j : Nat} {acc acc' : Int} (h : SecZ lock ys j acc) (hj : j < ys.length) (hn : stopB lock (ys.getD j default) = false) (ha : acc' = if (ys.getD j default).k = 1 then IntKind.i64.wrap (acc + (ys.getD j default).a) else acc) : SecZ lock ys (j + 1) acc' := by
  obtain ⟨h1, h2, h3⟩ := h
  rw [secZ_drop hj, hn] at h2 h3
  rw [ha]
  exact ⟨by omega, by rw [h2]; simp only [Bool.false_eq_true, if_false]; omega, by rw [h3]; rfl⟩
theorem SecZ.stop {lock : Int} {ys : List COp} {j : Nat} {acc : Int} (h : SecZ lock ys j acc) (hj : j < ys.length) (hn : stopB lock (ys.getD j default) = true) : secZ lock 0 ys = (j, acc) := by
  obtain ⟨h1, h2, h3⟩ := h
  rw [secZ_drop hj, hn] at h2 h3
  exact Prod.ext (by simpa using h2) (by simpa using h3)
theorem SecZ.fin {lock : Int} {ys : List COp} {j : Nat} {acc : Int} (h : SecZ lock ys j acc) (hj : ys.length ≤ j) : secZ lock 0 ys = (ys.length, acc) := by
  obtain ⟨h1, h2, h3⟩ := h
  rw [List.drop_of_length_le hj] at h2 h3
  exact Prod.ext (by rw [h2]; show j + 0 = _; omega) (by rw [h3]; rfl)
def secC (xs : List COp) (i : Nat) : Nat × Int := secZ (xs.getD i default).a 0 (xs.drop (i + 1))
theorem secC_fst (xs : List COp) (i : Nat) : (secC xs i).1 = (secO xs i).1 := secZ_fst _ _ _
theorem secO_le (xs : List COp) (i : Nat) (h : i < xs.length) : i + 1 + (secO xs i).1 ≤ xs.length := by
  have key : ∀ (lock : Int) (l : List COp), (secT lock l).1 ≤ l.length := by
    intro lock l
    induction l with
    | nil => exact Nat.le_refl _
    | cons o l ih => rw [secT]; split; exact Nat.zero_le _; show (secT lock l).1 + 1 ≤ _; rw [List.length_cons]; omega
  have := key (xs.getD i default).a (xs.drop (i + 1))
  rw [List.length_drop] at this
  unfold secO; omega
def secF (x : Nat × List COp) : List Value := [.int .i64 (x.1 : Nat), .int .i64 ((x.1 + 1 + (secO x.2 x.1).1 : Nat)), .int .i64 (x.2.getD x.1 default).a, .int .i64 (secC x.2 x.1).2]
def secW (xs : List COp) (i : Nat) : Value := .agg (secF (i, xs)).toArray
def secB (xs : List COp) : List (Array Value) := (filP (tkT xs) xs.length).map (fun i => #[secW xs i])
theorem secB_get {xs : List COp} {i : Nat} (h : i < xs.length) (ht : tkT xs i = true) : (secB xs)[filN (tkT xs) i]? = some #[secW xs i] := by
  unfold secB; rw [List.getElem?_map, fil_get h ht]; rfl
theorem secB_inv {xs : List COp} {k : Nat} {a : Array Value} (h : (secB xs)[k]? = some a) : ∃ p, (filP (tkT xs) xs.length)[k]? = some p ∧ a = #[secW xs p] := by
  unfold secB at h; rw [List.getElem?_map, Option.map_eq_some_iff] at h
  obtain ⟨p, hp, rfl⟩ := h; exact ⟨p, hp, rfl⟩
theorem secB_len (xs : List COp) : (secB xs).length = filN (tkT xs) xs.length := by unfold secB; rw [List.length_map]; rfl
theorem sectionW_spec {xs : List COp} {fv : Bool} {ad : Option Addr} {n cap : Nat} (i : Nat) (w : World) (hn : n = xs.length) (hl : Sr fO 3 xs (.slice ad n cap) w) (hx20 : xs.length ≤ 20) (hi : i < xs.length) : Ret Tryd.prog 54 #[pV fv ad n cap, .int .i64 (i : Nat)] w (fun v w' => v = secW xs i ∧ Ext w w') := by
 have hld := hl.drop (l := i + 1) om; obtain ⟨ys, hys⟩ : ∃ ys, xs.drop (i + 1) = ys := ⟨_, rfl⟩; have hyl : ys.length = xs.length - (i + 1) := (by rw [← hys, List.length_drop]); have hsec : secC xs i = secZ (xs.getD i default).a 0 ys := (by unfold secC; rw [hys]); rw [hys] at hld; have hof : (secO xs i).1 = (secZ (xs.getD i default).a 0 ys).1 := (by rw [← secC_fst, hsec]); simp only [secW, secF, hsec, hof]
 refine Ret.enterM Tryd.func54 rfl Tryd.ntmps54 rfl ([]) (no) (Mem.nil w) ?_
 refine wR ?_
 refine LM.box rfl rfl (fun b2 hb2 => ?_)
 refine LM.alloc Tryd.zeroValue68 rfl (fun b4 hb4 => ?_)
 refine nA [(1, _), (2, _), (4, _)] <| wpM.seq ?_
 refine wpM.draw [(0, 0), (1, 0), (2, 1), (3, 0), (4, 0), (5, 1), (6, 0), (7, 0), (8, 0), (9, 1), (10, 0), (11, 2), (12, 3)] kr kr ?_
 refine LD.val rfl rfl (ov_move rfl) <| LD.val rfl rfl (ovf 35 rfl rfl rfl rfl) ?_
 refine LD.rd rfl rfl (oml rfl rfl rfl) ?_
 refine LD.val rfl rfl (ov_len Tryd.underlying35 rfl) ?_
 refine LD.val rfl rfl (ovf 35 rfl rfl rfl rfl) ?_
 refine LD.rd rfl rfl (oml rfl rfl rfl) ?_
 refine LD.val rfl rfl (ov_move rfl) ?_
 refine LD.val rfl rfl (ov_idxSN au6 Tryd.underlying35 Tryd.sizeOf70 rfl rfl om) ?_
 refine LD.val rfl rfl (ovf 3 rfl rfl rfl rfl) ?_
 refine LD.rdC rfl rfl (om_srE (j := 1) asm Tryd.isAgg3 rfl rfl au3 (by rfl) (by rfl) id) ?_
 refine LD.val rfl rfl (ov_build (cs := #[_, _, _, _]) rfl (by first | rfl | kernel_rfl)) ?_
 refine LD.alloc rfl rfl Tryd.zeroValue68 rfl (fun b5 hb5 => ?_)
 refine LD.tail rfl rfl ?_
 refine LM.stW Tryd.sizeOf68 rfl rfl rfl rfl au7 au8 ?_
 refine LM.nil ?_
 refine QM.qn ?_
 refine QM.sub (e' := [(1, _), (2, _), (4, _), (5, _)]) au9 (QM.then ?_)
 refine wpM.seq <| wR <| LM.val (ovf 35 rfl rfl rfl rfl) ?_
 refine LM.rd (oml rfl rfl rfl) ?_
 refine LM.mv rfl ?_
 refine LM.val (ov_add64 rfl rfl om) ?_
 refine LM.val (ov_subLo (i + 1) Tryd.underlying35 Tryd.sizeOf70 rfl rfl om om) ?_
 refine LM.val (ov_len Tryd.underlying35 rfl) <| LM.mv rfl <| nA [(1, _), (4, _), (5, _), (23, _), (24, _), (25, _)] <| wpM.block ?_
 refine wpM.loopK0 (α := Nat × Int) (fun ⟨j, acc⟩ => [(25, .int .i64 (j : Nat))]) [(1, _), (4, _), (5, _), (23, _), (24, _)] (fun ⟨j, acc⟩ => sBc b5 (i : Nat) n (xs.getD i default).a acc :: sBc b4 0 0 0 0 :: pB b2 fv ad n cap :: []) (fun ⟨j, acc⟩ => SecZ (xs.getD i default).a ys j acc) (fun ⟨j, acc⟩ => ys.length - j) ((0, 0)) ⟨au2, rfl, rfl, rfl, rfl, rfl, trivial⟩ au1 (SecZ.zero _ ys) ?_
 rintro ⟨j, acc⟩ hI
 change wpM _ _ _ _ _ _ _ (sBc b5 (i : Nat) n (xs.getD i default).a acc :: sBc b4 0 0 0 0 :: pB b2 fv ad n cap :: []) _ _ _
 have hj := hI.1
 refine wR <| LM.val (ov_lss rfl rfl) <| nA [(1, _), (4, _), (5, _), (23, _), (24, _), (25, _), (26, _)] <| wpM.seq ?_
 refine wpM.condD rfl (fun h1 => ?_) (fun h1 => ?_)
 ·
  refine wpM.skip <| QM.then <| wpM.seq <| wpM.block <| wR <| LM.mv rfl ?_
  refine LM.val (ov_idxSN au6 Tryd.underlying35 Tryd.sizeOf70 rfl rfl om) ?_
  refine LM.rdC (om_srEA asm ir Tryd.isAgg70 Tryd.sizeOf70 rfl au3 id) ?_
  refine LM.alloc Tryd.zeroValue70 rfl (fun b7 hb7 => ?_)
  refine LM.as rfl ?_
  refine LM.stW Tryd.sizeOf70 rfl rfl rfl rfl au7 au8 ?_
  refine nA [(1, _), (4, _), (5, _), (6, _), (7, _), (23, _), (24, _), (25, _)] <| wpM.block <| wpM.seq <| wR <| LM.val (ovf 3 rfl rfl rfl rfl) ?_
  refine LM.rd (oml rfl rfl rfl) ?_
  refine LM.val (ov_eql rfl rfl) <| LM.as rfl <| nA [(1, _), (4, _), (5, _), (6, _), (7, _), (23, _), (24, _), (25, _), (30, _)] ?_
  refine wpM.condXD (t := 30) rfl (fun h2 => ?_) (fun h2 => ?_)
  ·
   refine wpM.skip <| QM.then ?_
   refine wpM.condT rfl ?_
   refine wR <| LM.mv rfl ?_
   refine LM.val (ov_add64 rfl rfl om) ?_
   refine LM.mv rfl ?_
   refine LM.val (ov_add64 rfl rfl om) ?_
   refine LM.val (ovf 3 rfl rfl rfl rfl) ?_
   refine LM.st Tryd.sizeOf3 rfl rfl rfl au5 rfl au8 ?_
   refine nB [(4, _), (5, _)] ?_
   refine LM.rd (om_ldW Tryd.isAgg68 Tryd.sizeOf68 rfl rfl) ?_
   refine LM.stW Tryd.sizeOf68 rfl rfl rfl rfl au7 au8 ?_
   refine nA [(4, _)] <| wpM.ret <| QM.block_ret <| QM.block_ret <| QM.then_ret <| QM.then_ret <| QM.block_ret <| QM.then_ret ?_
   refine QM.leaveCs (ds := ([])) (.inl rfl) [.cell 4 68] Tryd.results54 hd_nil (rc_w rfl Tryd.isAgg68 Tryd.sizeOf68 rfl rc_nil) ?_
   intro w' hm' hc'
   have hq := hI.stop om (stop_11 h2); refine ⟨?_, hc'⟩; rw [hq]; show sV _ _ _ _ = sV _ _ _ _; congr 5
  refine wpM.region ?_
  refine LM.val (ovf 3 rfl rfl rfl rfl) ?_
  refine LM.rd (oml rfl rfl rfl) ?_
  refine LM.val (ov_eql rfl rfl) <| LM.mv rfl ?_
  refine LM.splitD (t := 37) rfl (fun h3 => ?_) (fun h3 => ?_)
  ·
   refine LM.sp 37 rfl rfl rfl <| LM.val (ovf 3 rfl rfl rfl rfl) <| LM.sp 37 rfl rfl rfl ?_
   refine LM.rd (oml rfl rfl rfl) ?_
   refine LM.sp 37 rfl rfl rfl <| LM.val (ovf 3 rfl rfl rfl rfl) <| LM.sp 37 rfl rfl rfl ?_
   refine LM.rd (oml rfl rfl rfl) ?_
   refine LM.sp 37 rfl rfl rfl <| LM.val (ov_eql rfl rfl) <| LM.val (ov_pickT rfl rfl) <| LM.as rfl <| nA [(1, _), (4, _), (5, _), (6, _), (7, _), (23, _), (24, _), (25, _), (30, _)] ?_
   refine wpM.condD rfl (fun h4 => ?_) (fun h4 => ?_)
   ·
    refine wR <| LM.mv rfl ?_
    refine LM.val (ov_add64 rfl rfl om) ?_
    refine LM.mv rfl ?_
    refine LM.val (ov_add64 rfl rfl om) ?_
    refine LM.val (ovf 3 rfl rfl rfl rfl) ?_
    refine LM.st Tryd.sizeOf3 rfl rfl rfl au5 rfl au8 ?_
    refine nB [(4, _), (5, _)] ?_
    refine LM.rd (om_ldW Tryd.isAgg68 Tryd.sizeOf68 rfl rfl) ?_
    refine LM.stW Tryd.sizeOf68 rfl rfl rfl rfl au7 au8 ?_
    refine nA [(4, _)] <| wpM.ret <| QM.block_ret <| QM.block_ret <| QM.then_ret <| QM.then_ret <| QM.block_ret <| QM.then_ret ?_
    refine QM.leaveCs (ds := ([])) (.inl rfl) [.cell 4 68] Tryd.results54 hd_nil (rc_w rfl Tryd.isAgg68 Tryd.sizeOf68 rfl rc_nil) ?_
    intro w' hm' hc'
    have hq := hI.stop om (stop_6 h3 h4); refine ⟨?_, hc'⟩; rw [hq]; show sV _ _ _ _ = sV _ _ _ _; congr 5
   refine wR <| LM.val (ovf 3 rfl rfl rfl rfl) ?_
   refine LM.rd (oml rfl rfl rfl) ?_
   refine LM.val (ov_eql rfl rfl) <| LM.as rfl <| nA [(1, _), (4, _), (5, _), (7, _), (23, _), (24, _), (25, _), (50, _)] ?_
   refine wpM.condD rfl (fun h5 => ?_) (fun h5 => ?_)
   ·
    refine wpM.region ?_
    refine LM.val (ovf 3 rfl rfl rfl rfl) ?_
    refine LM.rd (oml rfl rfl rfl) ?_
    refine LM.val (ovf 3 rfl rfl rfl rfl) ?_
    refine LM.rd (oml rfl rfl rfl) ?_
    refine LM.val (ov_add rfl rfl) ?_
    refine LM.val (ovf 3 rfl rfl rfl rfl) ?_
    refine LM.st Tryd.sizeOf3 rfl rfl rfl au5 rfl au8 ?_
    refine nC [(1, _), (4, _), (5, _), (23, _), (24, _), (25, _)] <| QM.block_normal <| QM.block_normal ?_
    refine QM.then (wpM.region ?_)
    refine LM.val (ov_add64 rfl rfl om) ?_
    refine LM.mv rfl <| nC [(1, _), (4, _), (5, _), (23, _), (24, _), (25, _)] ?_
    refine QM.againK ((j + 1, IntKind.i64.wrap (acc + (ys.getD j default).a))) ⟨au2, rfl, rfl, rfl, rfl, rfl, trivial⟩ au1 (fun _ h => h) ?_ ?_
    · exact hI.step om (stop_no h2 (fun q => by first | exact h4 q.2 | exact h3 q.1)) (by rw [if_pos h5])
    · omega
   refine wpM.skip <| QM.block_normal <| QM.block_normal ?_
   refine QM.then (wpM.region ?_)
   refine LM.val (ov_add64 rfl rfl om) ?_
   refine LM.mv rfl <| nC [(1, _), (4, _), (5, _), (23, _), (24, _), (25, _)] ?_
   refine QM.againK ((j + 1, acc)) ⟨au2, rfl, rfl, rfl, rfl, rfl, trivial⟩ au1 (fun _ h => h) ?_ ?_
   · exact hI.step om (stop_no h2 (fun q => by first | exact h4 q.2 | exact h3 q.1)) (by rw [if_neg h5])
   · (dsimp only; omega)
  refine LM.dr 37 rfl rfl rfl <| LM.dr 37 rfl rfl rfl <| LM.dr 37 rfl rfl rfl <| LM.dr 37 rfl rfl rfl <| LM.dr 37 rfl rfl rfl <| LM.val (ov_pickF rfl rfl) <| LM.as rfl <| nA [(1, _), (4, _), (5, _), (6, _), (7, _), (23, _), (24, _), (25, _), (30, _)] ?_
  refine wpM.condF rfl ?_
  refine wR <| LM.val (ovf 3 rfl rfl rfl rfl) ?_
  refine LM.rd (oml rfl rfl rfl) ?_
  refine LM.val (ov_eql rfl rfl) <| LM.as rfl <| nA [(1, _), (4, _), (5, _), (7, _), (23, _), (24, _), (25, _), (50, _)] ?_
  refine wpM.condD rfl (fun h6 => ?_) (fun h6 => ?_)
  ·
   refine wpM.region ?_
   refine LM.val (ovf 3 rfl rfl rfl rfl) ?_
   refine LM.rd (oml rfl rfl rfl) ?_
   refine LM.val (ovf 3 rfl rfl rfl rfl) ?_
   refine LM.rd (oml rfl rfl rfl) ?_
   refine LM.val (ov_add rfl rfl) ?_
   refine LM.val (ovf 3 rfl rfl rfl rfl) ?_
   refine LM.st Tryd.sizeOf3 rfl rfl rfl au5 rfl au8 ?_
   refine nC [(1, _), (4, _), (5, _), (23, _), (24, _), (25, _)] <| QM.block_normal <| QM.block_normal ?_
   refine QM.then (wpM.region ?_)
   refine LM.val (ov_add64 rfl rfl om) ?_
   refine LM.mv rfl <| nC [(1, _), (4, _), (5, _), (23, _), (24, _), (25, _)] ?_
   refine QM.againK ((j + 1, IntKind.i64.wrap (acc + (ys.getD j default).a))) ⟨au2, rfl, rfl, rfl, rfl, rfl, trivial⟩ au1 (fun _ h => h) ?_ ?_
   · exact hI.step om (stop_no h2 (fun q => by first | exact h4 q.2 | exact h3 q.1)) (by rw [if_pos h6])
   · (dsimp only; omega)
  refine wpM.skip <| QM.block_normal <| QM.block_normal ?_
  refine QM.then (wpM.region ?_)
  refine LM.val (ov_add64 rfl rfl om) ?_
  refine LM.mv rfl <| nC [(1, _), (4, _), (5, _), (23, _), (24, _), (25, _)] ?_
  refine QM.againK ((j + 1, acc)) ⟨au2, rfl, rfl, rfl, rfl, rfl, trivial⟩ au1 (fun _ h => h) ?_ ?_
  · exact hI.step om (stop_no h2 (fun q => by first | exact h4 q.2 | exact h3 q.1)) (by rw [if_neg h6])
  · (dsimp only; omega)
 refine wpM.exit <| QM.then_exit <| QM.then_exit <| QM.block_hit <| tR ?_
 refine LM.rd (om_ldW Tryd.isAgg68 Tryd.sizeOf68 rfl rfl) ?_
 refine LM.stW Tryd.sizeOf68 rfl rfl rfl rfl au7 au8 ?_
 refine nA [(4, _)] <| wpM.ret ?_
 refine QM.leaveCs (ds := ([])) (.inl rfl) [.cell 4 68] Tryd.results54 hd_nil (rc_w rfl Tryd.isAgg68 Tryd.sizeOf68 rfl rc_nil) ?_
 intro w' hm' hc'
 have hq := hI.fin om; refine ⟨?_, hc'⟩; rw [hq]; show sV _ _ _ _ = sV _ _ _ _; congr 5; omega
theorem rsectionW_spec {xs : List COp} {fv : Bool} {ad : Option Addr} {n cap : Nat} (i : Nat) (w : World) (hn : n = xs.length) (hl : Sr fO 3 xs (.slice ad n cap) w) (hx20 : xs.length ≤ 20) (hi : i < xs.length) : Ret Tryd.prog 46 #[pV fv ad n cap, .int .i64 (i : Nat)] w (fun v w' => v = secW xs i ∧ Ext w w') := by
 obtain ⟨ys, hys⟩ : ∃ ys, xs.drop (i + 1) = ys := ⟨_, rfl⟩; have hyl : ys.length = xs.length - (i + 1) := (by rw [← hys, List.length_drop]); have hsec : secC xs i = secZ (xs.getD i default).a 0 ys := (by unfold secC; rw [hys]); have hyx : ∀ j, ys.getD j default = xs.getD (i + 1 + j) default := (fun j => by rw [← hys, getD_drop]); have hof : (secO xs i).1 = (secZ (xs.getD i default).a 0 ys).1 := (by rw [← secC_fst, hsec]); simp only [secW, secF, hsec, hof]
 refine Ret.enterM Tryd.func46 rfl Tryd.ntmps46 rfl ([]) (no) (Mem.nil w) ?_
 refine wR ?_
 refine LM.box rfl rfl (fun b2 hb2 => ?_)
 refine LM.alloc Tryd.zeroValue68 rfl (fun b4 hb4 => ?_)
 refine nB [(1, _), (2, _), (4, _)] <| LM.mv rfl <| LM.mv rfl ?_
 refine LM.val (ov_add64 rfl rfl om) ?_
 refine LM.val (ovf 35 rfl rfl rfl rfl) ?_
 refine LM.rd (oml rfl rfl rfl) ?_
 refine LM.mv rfl ?_
 refine LM.val (ov_idxSN au6 Tryd.underlying35 Tryd.sizeOf70 rfl rfl om) ?_
 refine LM.val (ovf 3 rfl rfl rfl rfl) ?_
 refine LM.rdC (om_srE (j := 1) asm Tryd.isAgg3 rfl rfl au3 (by rfl) (by rfl) id) ?_
 refine LM.val (ov_build (cs := #[_, _, _, _]) rfl (by first | rfl | kernel_rfl)) ?_
 refine LM.alloc Tryd.zeroValue68 rfl (fun b5 hb5 => ?_)
 refine LM.stW Tryd.sizeOf68 rfl rfl rfl rfl au7 au8 ?_
 refine nA [(2, _), (4, _), (5, _)] <| wpM.seq <| wpM.block ?_
 refine wpM.loopK0 (α := Nat × Int × Int) (fun ⟨j, to, acc⟩ => []) [(2, _), (4, _), (5, _)] (fun ⟨j, to, acc⟩ => sBc b5 (i : Nat) to (xs.getD i default).a acc :: sBc b4 0 0 0 0 :: pB b2 fv ad n cap :: []) (fun ⟨j, to, acc⟩ => SecZ (xs.getD i default).a ys j acc ∧ to = (i : Int) + 1 + (j : Nat)) (fun ⟨j, to, acc⟩ => ys.length - j) ((0, (i : Int) + 1, 0)) ⟨rfl, rfl, rfl, trivial⟩ au1 ⟨SecZ.zero _ ys, by simp⟩ ?_
 rintro ⟨j, to, acc⟩ ⟨hI, hto⟩
 change wpM _ _ _ _ _ _ _ (sBc b5 (i : Nat) to (xs.getD i default).a acc :: sBc b4 0 0 0 0 :: pB b2 fv ad n cap :: []) _ _ _
 have hj := hI.1; have htn : to.toNat = i + 1 + j := om; have hyt : ys.getD j default = xs.getD to.toNat default := (by rw [hyx, htn])
 refine wpM.seq <| wR <| LM.val (ovf 3 rfl rfl rfl rfl) ?_
 refine LM.rd (oml rfl rfl rfl) ?_
 refine LM.val (ovf 35 rfl rfl rfl rfl) ?_
 refine LM.rd (oml rfl rfl rfl) ?_
 refine LM.val (ov_len Tryd.underlying35 rfl) <| LM.val (ov_lss rfl rfl) <| nA [(2, _), (4, _), (5, _), (22, _)] ?_
 refine wpM.condD rfl (fun h1 => ?_) (fun h1 => ?_)
 ·
  refine wpM.skip <| QM.then <| wpM.block <| wR <| LM.val (ovf 35 rfl rfl rfl rfl) ?_
  refine LM.rd (oml rfl rfl rfl) ?_
  refine LM.val (ovf 3 rfl rfl rfl rfl) ?_
  refine LM.rd (oml rfl rfl rfl) ?_
  refine LM.val (ov_idxS au6 Tryd.underlying35 Tryd.sizeOf70 rfl rfl om) ?_
  refine LM.rdC (om_srEA asm ir Tryd.isAgg70 Tryd.sizeOf70 rfl au3 id) ?_
  refine LM.alloc Tryd.zeroValue70 rfl (fun b6 hb6 => ?_)
  refine LM.stW Tryd.sizeOf70 rfl rfl rfl rfl au7 au8 ?_
  refine nA [(2, _), (4, _), (5, _), (6, _)] <| wpM.seq <| wR <| LM.val (ovf 3 rfl rfl rfl rfl) ?_
  refine LM.rd (oml rfl rfl rfl) ?_
  refine LM.val (ov_eql rfl rfl) <| LM.mv rfl ?_
  refine LM.splitD (t := 32) rfl (fun h2 => ?_) (fun h2 => ?_)
  ·
   refine LM.dr 32 rfl rfl rfl <| LM.dr 32 rfl rfl rfl <| LM.dr 32 rfl rfl rfl ?_
   refine LM.dropU (t := 32) rfl rfl rfl ?_
   refine LM.dropX (t := 36) rfl rfl ?_
   refine LM.dropX (t := 36) rfl rfl ?_
   refine LM.dropX (t := 36) rfl rfl ?_
   refine LM.dropX (t := 36) rfl rfl ?_
   refine LM.dropX (t := 36) rfl rfl ?_
   refine LM.dr 32 rfl rfl rfl <| LM.val (ov_pickT rfl rfl) <| nA [(2, _), (4, _), (5, _), (6, _), (43, _)] ?_
   refine wpM.condT rfl ?_
   refine wR ?_
   refine LM.rd (om_ldW Tryd.isAgg68 Tryd.sizeOf68 rfl rfl) ?_
   refine LM.stW Tryd.sizeOf68 rfl rfl rfl rfl au7 au8 ?_
   refine nA [(4, _)] <| wpM.ret <| QM.then_ret <| QM.block_ret <| QM.then_ret <| QM.block_ret <| QM.then_ret ?_
   refine QM.leaveCs (ds := ([])) (.inl rfl) [.cell 4 68] Tryd.results46 hd_nil (rc_w rfl Tryd.isAgg68 Tryd.sizeOf68 rfl rc_nil) ?_
   intro w' hm' hc'
   have hq := hI.stop om (by rw [hyt]; exact stop_11 h2); refine ⟨?_, hc'⟩; rw [hq]; show sV _ _ _ _ = sV _ _ _ _; congr 5
  refine LM.sp 32 rfl rfl rfl <| LM.val (ovf 3 rfl rfl rfl rfl) <| LM.sp 32 rfl rfl rfl ?_
  refine LM.rd (oml rfl rfl rfl) ?_
  refine LM.sp 32 rfl rfl rfl <| LM.val (ov_eql rfl rfl) <| LM.sp 32 rfl rfl rfl <| LM.mv rfl ?_
  refine LM.splitD (t := 36) rfl (fun h3 => ?_) (fun h3 => ?_)
  ·
   refine LM.sp 36 rfl rfl rfl <| LM.val (ovf 3 rfl rfl rfl rfl) <| LM.sp 36 rfl rfl rfl ?_
   refine LM.rd (oml rfl rfl rfl) ?_
   refine LM.sp 36 rfl rfl rfl <| LM.val (ovf 3 rfl rfl rfl rfl) <| LM.sp 36 rfl rfl rfl ?_
   refine LM.rd (oml rfl rfl rfl) ?_
   refine LM.sp 36 rfl rfl rfl <| LM.val (ov_eql rfl rfl) <| LM.sp 32 rfl rfl rfl <| LM.val (ov_pickT rfl rfl) <| LM.val (ov_pickF rfl rfl) <| nA [(2, _), (4, _), (5, _), (6, _), (43, _)] ?_
   refine wpM.condD rfl (fun h4 => ?_) (fun h4 => ?_)
   ·
    refine wR ?_
    refine LM.rd (om_ldW Tryd.isAgg68 Tryd.sizeOf68 rfl rfl) ?_
    refine LM.stW Tryd.sizeOf68 rfl rfl rfl rfl au7 au8 ?_
    refine nA [(4, _)] <| wpM.ret <| QM.then_ret <| QM.block_ret <| QM.then_ret <| QM.block_ret <| QM.then_ret ?_
    refine QM.leaveCs (ds := ([])) (.inl rfl) [.cell 4 68] Tryd.results46 hd_nil (rc_w rfl Tryd.isAgg68 Tryd.sizeOf68 rfl rc_nil) ?_
    intro w' hm' hc'
    have hq := hI.stop om (by rw [hyt]; exact stop_6 h3 h4); refine ⟨?_, hc'⟩; rw [hq]; show sV _ _ _ _ = sV _ _ _ _; congr 5
   refine wpM.skip <| QM.then <| wpM.seq <| wR <| LM.val (ovf 3 rfl rfl rfl rfl) ?_
   refine LM.rd (oml rfl rfl rfl) ?_
   refine LM.val (ov_eql rfl rfl) <| nA [(2, _), (4, _), (5, _), (6, _), (47, _)] ?_
   refine wpM.condD rfl (fun h5 => ?_) (fun h5 => ?_)
   ·
    refine wpM.region ?_
    refine LM.val (ovf 3 rfl rfl rfl rfl) ?_
    refine LM.rd (oml rfl rfl rfl) ?_
    refine LM.val (ovf 3 rfl rfl rfl rfl) ?_
    refine LM.rd (oml rfl rfl rfl) ?_
    refine LM.val (ov_add rfl rfl) ?_
    refine LM.val (ovf 3 rfl rfl rfl rfl) ?_
    refine LM.st Tryd.sizeOf3 rfl rfl rfl au5 rfl au8 ?_
    refine LM.nil (QM.sub (e' := [(2, _), (4, _), (5, _)]) au9 (QM.then (wpM.region ?_)))
    refine LM.val (ovf 3 rfl rfl rfl rfl) ?_
    refine LM.rd (oml rfl rfl rfl) ?_
    refine LM.val (ov_add64 rfl rfl om) ?_
    refine LM.val (ovf 3 rfl rfl rfl rfl) ?_
    refine LM.st Tryd.sizeOf3 rfl rfl rfl au5 rfl au8 ?_
    refine nC [(2, _), (4, _), (5, _)] <| QM.block_normal ?_
    refine QM.againK ((j + 1, to + 1, IntKind.i64.wrap (acc + (xs.getD to.toNat default).a))) ⟨rfl, rfl, rfl, trivial⟩ au1 (fun _ h => h) ?_ ?_
    · exact ⟨hI.step om (by rw [hyt]; exact stop_no h2 (fun q => by first | exact h4 q.2 | exact h3 q.1)) (by rw [hyt, if_pos h5]), by push_cast; omega⟩
    · omega
   refine wpM.skip ?_
   refine QM.then (wpM.region ?_)
   refine LM.val (ovf 3 rfl rfl rfl rfl) ?_
   refine LM.rd (oml rfl rfl rfl) ?_
   refine LM.val (ov_add64 rfl rfl om) ?_
   refine LM.val (ovf 3 rfl rfl rfl rfl) ?_
   refine LM.st Tryd.sizeOf3 rfl rfl rfl au5 rfl au8 ?_
   refine nC [(2, _), (4, _), (5, _)] <| QM.block_normal ?_
   refine QM.againK ((j + 1, to + 1, acc)) ⟨rfl, rfl, rfl, trivial⟩ au1 (fun _ h => h) ?_ ?_
   · exact ⟨hI.step om (by rw [hyt]; exact stop_no h2 (fun q => by first | exact h4 q.2 | exact h3 q.1)) (by rw [hyt, if_neg h5]), by push_cast; omega⟩
   · (dsimp only; omega)
  refine LM.dr 36 rfl rfl rfl <| LM.dr 36 rfl rfl rfl <| LM.dr 36 rfl rfl rfl <| LM.dr 36 rfl rfl rfl <| LM.dr 36 rfl rfl rfl <| LM.sp 32 rfl rfl rfl <| LM.val (ov_pickF rfl rfl) <| LM.val (ov_pickF rfl rfl) <| nA [(2, _), (4, _), (5, _), (6, _), (43, _)] ?_
  refine wpM.condF rfl ?_
  refine wpM.skip <| QM.then <| wpM.seq <| wR <| LM.val (ovf 3 rfl rfl rfl rfl) ?_
  refine LM.rd (oml rfl rfl rfl) ?_
  refine LM.val (ov_eql rfl rfl) <| nA [(2, _), (4, _), (5, _), (6, _), (47, _)] ?_
  refine wpM.condD rfl (fun h6 => ?_) (fun h6 => ?_)
  ·
   refine wpM.region ?_
   refine LM.val (ovf 3 rfl rfl rfl rfl) ?_
   refine LM.rd (oml rfl rfl rfl) ?_
   refine LM.val (ovf 3 rfl rfl rfl rfl) ?_
   refine LM.rd (oml rfl rfl rfl) ?_
   refine LM.val (ov_add rfl rfl) ?_
   refine LM.val (ovf 3 rfl rfl rfl rfl) ?_
   refine LM.st Tryd.sizeOf3 rfl rfl rfl au5 rfl au8 ?_
   refine LM.nil (QM.sub (e' := [(2, _), (4, _), (5, _)]) au9 (QM.then (wpM.region ?_)))
   refine LM.val (ovf 3 rfl rfl rfl rfl) ?_
   refine LM.rd (oml rfl rfl rfl) ?_
   refine LM.val (ov_add64 rfl rfl om) ?_
   refine LM.val (ovf 3 rfl rfl rfl rfl) ?_
   refine LM.st Tryd.sizeOf3 rfl rfl rfl au5 rfl au8 ?_
   refine nC [(2, _), (4, _), (5, _)] <| QM.block_normal ?_
   refine QM.againK ((j + 1, to + 1, IntKind.i64.wrap (acc + (xs.getD to.toNat default).a))) ⟨rfl, rfl, rfl, trivial⟩ au1 (fun _ h => h) ?_ ?_
   · exact ⟨hI.step om (by rw [hyt]; exact stop_no h2 (fun q => by first | exact h4 q.2 | exact h3 q.1)) (by rw [hyt, if_pos h6]), by push_cast; omega⟩
   · (dsimp only; omega)
  refine wpM.skip ?_
  refine QM.then (wpM.region ?_)
  refine LM.val (ovf 3 rfl rfl rfl rfl) ?_
  refine LM.rd (oml rfl rfl rfl) ?_
  refine LM.val (ov_add64 rfl rfl om) ?_
  refine LM.val (ovf 3 rfl rfl rfl rfl) ?_
  refine LM.st Tryd.sizeOf3 rfl rfl rfl au5 rfl au8 ?_
  refine nC [(2, _), (4, _), (5, _)] <| QM.block_normal ?_
  refine QM.againK ((j + 1, to + 1, acc)) ⟨rfl, rfl, rfl, trivial⟩ au1 (fun _ h => h) ?_ ?_
  · exact ⟨hI.step om (by rw [hyt]; exact stop_no h2 (fun q => by first | exact h4 q.2 | exact h3 q.1)) (by rw [hyt, if_neg h6]), by push_cast; omega⟩
  · (dsimp only; omega)
 refine wpM.exit <| QM.then_exit <| QM.then_exit <| QM.block_hit <| tR ?_
 refine LM.rd (om_ldW Tryd.isAgg68 Tryd.sizeOf68 rfl rfl) ?_
 refine LM.stW Tryd.sizeOf68 rfl rfl rfl rfl au7 au8 ?_
 refine nA [(4, _)] <| wpM.ret ?_
 refine QM.leaveCs (ds := ([])) (.inl rfl) [.cell 4 68] Tryd.results46 hd_nil (rc_w rfl Tryd.isAgg68 Tryd.sizeOf68 rfl rc_nil) ?_
 intro w' hm' hc'
 have hq := hI.fin om; refine ⟨?_, hc'⟩; rw [hq]; show sV _ _ _ _ = sV _ _ _ _; congr 5; omega
set_option maxHeartbeats 1000000 in
theorem secsW_seq {xs : List COp} {fv : Bool} {ad : Option Addr} {n cap : Nat} {b1 : Nat} (hn : n = xs.length) (hx20 : xs.length ≤ 20) : SeqC Tryd.prog 52 #[.pointer (some ⟨b1, 0, none⟩)] (secB xs) (fun w => Mem w [pB b1 fv ad n cap] ∧ Sr fO 3 xs (.slice ad n cap) w) (True) := by
 refine SeqC.enter (lb := [.pointer (some ⟨b1, 0, none⟩)]) Tryd.func52 rfl Tryd.ntmps52 rfl ?_
 intro l n0 J Jx w0 hfin hJr gJ gJx hy
 refine wR <| LM.val (ovf 35 rfl rfl rfl rfl) ?_
 refine LM.rdC (fun w _ _ hg => om_load 0 Tryd.isAgg35 rfl rfl rfl w (hJr _ w hg).1) ?_
 refine LM.val (ov_len Tryd.underlying35 rfl) <| LM.mv rfl <| nA [(0, _), (1, _), (6, _), (7, _), (8, _)] <| wpM.block ?_
 refine wpM.loopK (α := Nat) (fun i => [(8, .int .i64 (i : Nat))]) [(0, _), (1, _), (6, _), (7, _)] (fun i => []) (fun i => J (filN (tkT xs) i)) (fun i => i ≤ xs.length) (fun i => xs.length - i) (0) ⟨au2, rfl, rfl, rfl, rfl, trivial⟩ au1 (fun _ h => h) (Nat.zero_le _) ?_
 rintro i hi
 change wpM _ _ _ _ _ _ _ ([]) _ _ _
 refine wR <| LM.val (ov_lss rfl rfl) <| nA [(0, _), (1, _), (6, _), (7, _), (8, _), (9, _)] <| wpM.seq ?_
 refine wpM.condD rfl (fun h1 => ?_) (fun h1 => ?_)
 ·
  refine wpM.skip <| QM.then <| wpM.seq <| wpM.block <| wR <| LM.mv rfl ?_
  refine LM.know (fun w _ _ hg => (hJr _ w hg).2.spt) (fun hsp => ?_); refine LM.val (ov_idxSN hsp Tryd.underlying35 Tryd.sizeOf70 rfl rfl om) ?_
  refine LM.rdC (fun w hm hc hg => ow_srEA (hJr _ w hg).2 ir Tryd.isAgg70 Tryd.sizeOf70 rfl (getq default om)) ?_
  refine LM.allocF Tryd.zeroValue70 rfl (fun b4 hb4 => ?_)
  refine LM.as rfl ?_
  refine LM.stWF Tryd.sizeOf70 rfl rfl rfl rfl au7 au8 om ?_
  refine LM.unF ?_
  refine nB [(0, _), (1, _), (3, _), (4, _), (6, _), (7, _), (8, _)] <| LM.val (ovf 3 rfl rfl rfl rfl) ?_
  refine LM.rd (oml rfl rfl rfl) ?_
  refine cE Tryd.func53 rfl (fun w hm hc hg => takes_spec _ w) ?_
  refine LM.mv rfl ?_
  refine LM.splitB (t := 16) rfl (fun h2 => ?_) (fun h2 => ?_)
  ·
   refine LM.sp 16 rfl rfl rfl <| LM.mv rfl <| LM.sp 16 rfl rfl rfl ?_
   refine LM.rdC (fun w _ _ hg => om_loadA 0 Tryd.isAgg37 Tryd.sizeOf37 rfl rfl (vs := [.bool fv, .slice ad n cap]) rfl ⟨rfl, rfl, trivial⟩ w (hJr _ w hg).1) ?_
   refine LM.sp 16 rfl rfl rfl <| LM.mv rfl <| LM.sp 16 rfl rfl rfl ?_
   refine cE Tryd.func54 rfl (fun w hm hc hg => sectionW_spec i w hn (hJr _ w hg).2 hx20 om) ?_
   refine LM.sp 16 rfl rfl rfl ?_
   refine LM.mem (M' := []) (fun w _ => Mem.nil w) ?_
   refine LM.yield (n := n0) (G1 := J ((filN (tkT xs) i) + 1)) (G2 := Jx) rfl rfl (fun w hj => hy ((filN (tkT xs) i)) _ w (secB_get om h2) hj) (fun _ => trivial) ?_ ?_
   ·
    refine LM.sp 16 rfl rfl rfl ?_
    refine LM.val (ov_not rfl) ?_
    refine LM.val (ov_pickT rfl rfl) <| nA [(0, _), (1, _), (6, _), (7, _), (8, _), (23, _)] ?_
    refine wpM.condF rfl ?_
    refine wpM.skip <| QM.block_normal ?_
    refine QM.then (wpM.region ?_)
    refine LM.val (ov_add64 rfl rfl om) ?_
    refine LM.mv rfl <| nC [(0, _), (1, _), (6, _), (7, _), (8, _)] ?_
    refine QM.againK (i + 1) ⟨au2, rfl, rfl, rfl, rfl, trivial⟩ au1 (fun w h => by rw [filN_succ, if_pos (by exact h2)]; exact h) ?_ ?_
    · omega
    · omega
   refine LM.sp 16 rfl rfl rfl ?_
   refine LM.val (ov_not rfl) ?_
   refine LM.val (ov_pickT rfl rfl) <| nA [(0, _), (1, _), (6, _), (7, _), (8, _), (23, _)] ?_
   refine wpM.condT rfl ?_
   refine wpM.ret <| QM.block_ret <| QM.then_ret <| QM.then_ret <| QM.block_ret ?_
   refine QM.leave (.inl rfl) [] Tryd.results52 rfl ?_
   intro w' hm' hc' hg'
   exact .inr hg'
  refine LM.dr 16 rfl rfl rfl <| LM.dr 16 rfl rfl rfl <| LM.dr 16 rfl rfl rfl <| LM.dr 16 rfl rfl rfl <| LM.dr 16 rfl rfl rfl <| LM.dr 16 rfl rfl rfl <| LM.val (ov_pickF rfl rfl) <| nA [(0, _), (1, _), (6, _), (7, _), (8, _), (23, _)] ?_
  refine wpM.condF rfl ?_
  refine wpM.skip <| QM.block_normal ?_
  refine QM.then (wpM.region ?_)
  refine LM.val (ov_add64 rfl rfl om) ?_
  refine LM.mv rfl <| nC [(0, _), (1, _), (6, _), (7, _), (8, _)] ?_
  refine QM.againK (i + 1) ⟨au2, rfl, rfl, rfl, rfl, trivial⟩ au1 (fun w h => by rw [filN_succ, if_neg (by show ¬ takesB _ = true; rw [h2]; decide), Nat.add_zero]; exact h) ?_ ?_
  · omega
  · omega
 refine wpM.exit <| QM.then_exit <| QM.then_exit <| QM.block_hit ?_
 refine QM.leave (.inr rfl) [] Tryd.results52 rfl ?_
 intro w' hm' hc' hg'
 (have hil : i = xs.length := om; subst hil; exact .inl (by rw [secB_len]; exact hg'))
theorem rsecs_spec {xs : List COp} {fv : Bool} {ad : Option Addr} {n cap : Nat} (w : World) (hn : n = xs.length) (hl : Sr fO 3 xs (.slice ad n cap) w) (hx20 : xs.length ≤ 20) : Ret Tryd.prog 32 #[pV fv ad n cap] w (New secF 68 4 ((filP (tkT xs) xs.length).map (fun i => (i, xs))) w) := by
 refine Ret.enterM Tryd.func32 rfl Tryd.ntmps32 rfl ([]) (no) (Mem.nil w) ?_
 refine wR ?_
 refine LM.box rfl rfl (fun b1 hb1 => ?_)
 refine LM.as rfl <| nB [(1, _)] <| LM.as rfl <| nA [(1, _), (3, _)] <| wpM.seq <| wR <| LM.as rfl <| nA [(1, _), (3, _), (4, _)] <| wpM.block ?_
 refine wpM.loopK0 (α := Nat × Option Addr × Nat × Nat × Mem0) (fun ⟨i, adl, nl, capl, m⟩ => [(3, .slice adl nl capl), (4, .int .i64 (i : Nat))]) [(1, _)] (fun ⟨i, adl, nl, capl, m⟩ => m ++ (pB b1 fv ad n cap :: [])) (fun ⟨i, adl, nl, capl, m⟩ => i ≤ xs.length ∧ nl = filN (tkT xs) i ∧ Sl secF 68 4 w.heap.size ((filP (tkT xs) i).map (fun i => (i, xs))) (.slice adl nl capl) m) (fun ⟨i, adl, nl, capl, m⟩ => xs.length - i) ((0, none, 0, 0, [])) ⟨au2, au2, rfl, trivial⟩ au1 ⟨Nat.zero_le _, rfl, .nil _ _ _ _⟩ ?_
 rintro ⟨i, adl, nl, capl, m⟩ ⟨hi, hnl, hs⟩
 change wpM _ _ _ _ _ _ _ (m ++ (pB b1 fv ad n cap :: [])) _ _ _
 have hfl : filN (tkT xs) i ≤ i := (by unfold filN; exact Nat.le_trans (List.length_filter_le _ _) (by rw [List.length_range]; exact Nat.le_refl _)); have hml : ((filP (tkT xs) i).map (fun i => (i, xs))).length = nl := (by rw [List.length_map, hnl]; rfl)
 refine wpM.seq <| wR <| LM.mv rfl <| LM.val (ovf 35 rfl rfl rfl rfl) ?_
 refine LM.rd (oml rfl rfl rfl) ?_
 refine LM.val (ov_len Tryd.underlying35 rfl) <| LM.val (ov_lss rfl rfl) <| nA [(1, _), (3, _), (4, _), (9, _)] ?_
 refine wpM.condD rfl (fun h1 => ?_) (fun h1 => ?_)
 ·
  refine wpM.skip <| QM.then <| wpM.seq <| wpM.block <| wR <| LM.val (ovf 35 rfl rfl rfl rfl) ?_
  refine LM.rd (oml rfl rfl rfl) ?_
  refine LM.mv rfl ?_
  refine LM.val (ov_idxSN au6 Tryd.underlying35 Tryd.sizeOf70 rfl rfl om) ?_
  refine LM.rdC (om_srEA asm ir Tryd.isAgg70 Tryd.sizeOf70 rfl au3 id) ?_
  refine cE Tryd.func45 rfl (fun w hm hc hg => rtakes_spec _ w) ?_
  refine nA [(1, _), (3, _), (4, _), (17, _)] ?_
  refine wpM.condB rfl (fun h2 => ?_) (fun h2 => ?_)
  ·
   refine wpM.region ?_
   refine LM.mv rfl ?_
   refine LM.rd (om_ldW Tryd.isAgg37 Tryd.sizeOf37 rfl rfl) ?_
   refine LM.mv rfl ?_
   refine cE Tryd.func46 rfl (fun w hm hc hg => rsectionW_spec i w hn (hl.ext hc) hx20 om) ?_
   refine LM.single Tryd.underlying71 Tryd.sizeOf68 Tryd.zeroValue68 rfl rfl rfl rfl rfl (fun b22 hb22 => ?_)
   refine LM.app Tryd.underlying71 Tryd.typeInfo68 rfl rfl rfl rfl rfl rfl rfl asm (by rfl) ir (by intro _ u hu; simp [secF] at hu; (repeat (first | (rcases hu with rfl | hu) | subst hu | rfl))) (by first | exact Nat.le_refl _ | omega) au10 (by first | omega | (unfold maxLen; omega)) (by simp only [Tryd.t68]; omega) (fun ad23 n23 cap23 m23 hn23 hs23 hin23 => ?_)
   refine LM.as rfl <| nC [(1, _), (3, _), (4, _)] <| QM.block_normal ?_
   refine QM.then (wpM.region ?_)
   refine LM.mv rfl ?_
   refine LM.val (ov_add64 rfl rfl om) ?_
   refine LM.as rfl <| nC [(1, _), (3, _), (4, _)] ?_
   refine QM.againK ((i + 1, ad23, n23, cap23, m23)) ⟨au2, au2, rfl, trivial⟩ au1 (fun _ h => h) ?_ ?_
   · have ht : tkT xs i = true := h2; have e := filP_succ (tkT xs) i; rw [if_pos ht] at e; exact ⟨by omega, by rw [filN_succ, if_pos ht]; omega, by rw [e, List.map_append]; exact hs23⟩
   · (dsimp only; omega)
  refine wpM.skip <| QM.block_normal ?_
  refine QM.then (wpM.region ?_)
  refine LM.mv rfl ?_
  refine LM.val (ov_add64 rfl rfl om) ?_
  refine LM.as rfl <| nC [(1, _), (3, _), (4, _)] ?_
  refine QM.againK ((i + 1, adl, nl, capl, m)) ⟨au2, au2, rfl, trivial⟩ au1 (fun _ h => h) ?_ ?_
  · have ht : ¬ tkT xs i = true := (by show ¬ takesB _ = true; rw [h2]; decide); have e := filP_succ (tkT xs) i; rw [if_neg ht, List.append_nil] at e; exact ⟨by omega, by rw [filN_succ, if_neg ht]; omega, by rw [e]; exact hs⟩
  · (dsimp only; omega)
 refine wpM.exit <| QM.then_exit <| QM.then_exit <| QM.block_hit <| tR <| LM.mv rfl <| LM.as rfl <| nA [(2, _)] <| wpM.ret ?_
 refine qL Tryd.results32 rfl fun w' hm' hc' hg' => ?_
 have hil : i = xs.length := om; subst hil; exact ⟨hc', m, hs, hm'.pick m⟩
theorem part_get {xs : List COp} {lo m j : Nat} (h : j < m) : ((xs.drop lo).take m).getD j default = xs.getD (lo + j) default := by
  rw [List.getD_eq_getElem?_getD, List.getElem?_take, if_pos h, List.getElem?_drop, ← List.getD_eq_getElem?_getD]
theorem part_len {xs : List COp} {lo m : Nat} (h : lo + m ≤ xs.length) : ((xs.drop lo).take m).length = m := by rw [List.length_take, List.length_drop]; omega
theorem map_at {xs : List COp} {l : List Nat} {k p : Nat} (h : l[k]? = some p) : (l.map (fun i => (i, xs))).getD k default = (p, xs) := by
  rw [List.getD_eq_getElem?_getD, List.getElem?_map, h]; rfl
theorem takes_yes {k : Int} (h1 : k ≥ 2) (h2 : k ≤ 5) : takesB k = true := by unfold takesB; rw [decide_eq_true (show 2 ≤ k by omega), decide_eq_true h2]; rfl
theorem takes_no {k : Int} (h : ¬ k ≥ 2 ∨ ¬ k ≤ 5) : ¬ takesB k = true := by unfold takesB; rw [Bool.and_eq_true, decide_eq_true_eq, decide_eq_true_eq]; omega
theorem within_spec {xs : List COp} {fv : Bool} {ad : Option Addr} {n cap : Nat} (lock : Int) (w : World) (hn : n = xs.length) (hl : Sr fO 3 xs (.slice ad n cap) w) (hx20 : xs.length ≤ 20) : Ret Tryd.prog 11 #[pV fv ad n cap, .int .i64 lock] w (fun v w' => v = U (witO xs lock) ∧ Ext w w') := by
 refine Ret.enterM Tryd.func11 rfl Tryd.ntmps11 rfl ([]) (no) (Mem.nil w) ?_
 refine wR ?_
 refine LM.box rfl rfl (fun b2 hb2 => ?_)
 refine LM.box rfl rfl (fun b3 hb3 => ?_)
 refine LM.as rfl <| nB [(2, _), (3, _)] ?_
 refine LM.alloc Tryd.zeroValue34 rfl (fun b5 hb5 => ?_)
 refine nA [(2, _), (3, _), (5, _)] <| wpM.seq <| wR ?_
 refine LM.rd (om_ldW Tryd.isAgg37 Tryd.sizeOf37 rfl rfl) ?_
 refine LM.callT (oc_call (enters_fn Tryd.func31 kr rfl) rfl) SecsT.mono (fun w hm hc hg => secs_spec fv ad n cap w) ?_
 rintro u10 m10 ⟨c1, rfl, rfl, hc1⟩ -
 refine nA [(2, _), (3, _), (5, _), (10, _)] <| wpM.block ?_
 refine wpM.toRange (α := BitVec 64) (fun k s => uBx b5 s :: pB c1 fv ad n cap :: iBc b3 lock :: pB b2 fv ad n cap :: []) (0#64) au1 ?_
 refine wpM.range (α := BitVec 64) (β := Unit) (enters_fn Tryd.func52 kr rfl) rfl (secsW_seq (xs := xs) hn hx20) (fun k s => uBx b5 s :: pB c1 fv ad n cap :: iBc b3 lock :: pB b2 fv ad n cap :: []) (fun _ _ => top) (fun k s => k ≤ filN (tkT xs) xs.length ∧ s = witK xs lock k) (fun ⟨⟩ => []) (fun _ => top) (fun c ⟨⟩ => False) 0#64 rfl (fun _ h => h) ⟨Nat.zero_le _, rfl⟩ kr (by intro k av hav; obtain ⟨p, hp, rfl⟩ := secB_inv hav; have hkl := (List.getElem?_eq_some_iff.1 hp).1; rw [← filN_len] at hkl; have hpx : p < xs.length := (filP_mem.1 (List.mem_of_getElem? hp)).1; have hto := secO_le xs p hpx; have hsp := hl.spt; have hcapn := hl.open; have hpart := (hl.drop (l := p + 1) om).take (k := (secO xs p).1) (by rw [List.length_drop]; omega); have hpl := part_len (xs := xs) (lo := p + 1) (m := (secO xs p).1) om; have hpg := fun j (h : j < (secO xs p).1) => part_get (xs := xs) (lo := p + 1) h; have hsub : p + 1 + (secO xs p).1 - (p + 1) = (secO xs p).1 := om; have hws := witK_succ (lock := lock) hp; unfold witS at hws; rfl) (.inl trivial) (fun k a w hm hc _ _ => ⟨SubM.mem au1 w hm, hl.ext hc⟩) (fun _ _ _ _ => gl_top _) (fun _ _ _ => gl_top _) (fun k x _ => mm_cons rfl (mm_cons rfl (mm_cons rfl (mm_cons rfl mm_nil)))) (fun c z _ => by ((repeat (refine mm_cons rfl ?_)); exact fun p hp => .inl (by first | exact hp | (simp at hp; done) | (simp [hp]; done) | (simp at hp ⊢; first | exact .inl hp | exact hp | (simp [hp]; done))))) ?_ ?_ ?_ ?_
 ·
  rintro k av s l D rc n1 W1 hD hll hput hrc hav ⟨hk, hs⟩
  change wpM _ _ _ _ _ _ _ ((l, Obj.loop rc) :: ([(D, Obj.deferred (some []))] ++ (uBx b5 s :: pB c1 fv ad n cap :: iBc b3 lock :: pB b2 fv ad n cap :: []))) _ _ _
  obtain ⟨p, hp, rfl⟩ := secB_inv hav; have hkl := (List.getElem?_eq_some_iff.1 hp).1; rw [← filN_len] at hkl; have hpx : p < xs.length := (filP_mem.1 (List.mem_of_getElem? hp)).1; have hto := secO_le xs p hpx; have hsp := hl.spt; have hcapn := hl.open; have hpart := (hl.drop (l := p + 1) om).take (k := (secO xs p).1) (by rw [List.length_drop]; omega); have hpl := part_len (xs := xs) (lo := p + 1) (m := (secO xs p).1) om; have hpg := fun j (h : j < (secO xs p).1) => part_get (xs := xs) (lo := p + 1) h; have hsub : p + 1 + (secO xs p).1 - (p + 1) = (secO xs p).1 := om; have hws := witK_succ (lock := lock) hp; unfold witS at hws
  refine wpM.region ?_
  refine LM.alloc Tryd.zeroValue68 rfl (fun b6 hb6 => ?_)
  refine LM.stW Tryd.sizeOf68 rfl rfl rfl rfl au7 au8 ?_
  refine nC [(2, _), (3, _), (5, _), (6, _)] ?_
  refine QM.toBodyF (hput k s) hll ?_
  refine wpM.block <| wpM.seq <| wR <| LM.val (ovf 3 rfl rfl rfl rfl) ?_
  refine LM.rd (oml rfl rfl rfl) ?_
  refine LM.rd (oml rfl rfl rfl) ?_
  refine LM.val (ov_neq rfl rfl) <| nA [(2, _), (5, _), (6, _), (15, _)] ?_
  refine wpM.condD rfl (fun h1 => ?_) (fun h1 => ?_)
  ·
   refine wpM.exit <| QM.then_exit <| QM.block_hit ?_
   refine QM.next (s) (SubM.mem au1) (fun _ h => h) ?_
   · exact ⟨by omega, by rw [hws, if_neg h1, hs]⟩
  refine wpM.skip <| tR <| LM.val (ovf 35 rfl rfl rfl rfl) ?_
  refine LM.rd (oml rfl rfl rfl) ?_
  refine LM.val (ovf 3 rfl rfl rfl rfl) ?_
  refine LM.rd (oml rfl rfl rfl) ?_
  refine LM.val (ov_add64 rfl rfl om) ?_
  refine LM.val (ovf 3 rfl rfl rfl rfl) ?_
  refine LM.rd (oml rfl rfl rfl) ?_
  refine LM.val (ov_subLH (p + 1) (p + 1 + (secO xs p).1) Tryd.underlying35 Tryd.sizeOf70 rfl rfl rfl rfl rfl om om) ?_; rw [hsub]
  refine LM.val (ov_len Tryd.underlying35 rfl) <| LM.mv rfl <| nA [(5, _), (23, _), (24, _), (25, _)] <| wpM.block ?_
  refine wpM.loopK0 (α := Nat × BitVec 64) (fun ⟨j, s2⟩ => [(25, .int .i64 (j : Nat))]) [(5, _), (23, _), (24, _)] (fun ⟨j, s2⟩ => (l, Obj.loop (busyOf rc)) :: (D, Obj.deferred (some [])) :: (b6, .cells (secF (p, xs)).toArray 68 (0, 0)) :: uBx b5 s2 :: pB c1 fv ad n cap :: iBc b3 lock :: pB b2 fv ad n cap :: []) (fun ⟨j, s2⟩ => j ≤ (secO xs p).1 ∧ s2 = innS xs (p + 1) j s) (fun ⟨j, s2⟩ => (secO xs p).1 - j) ((0, s)) ⟨au2, rfl, rfl, rfl, trivial⟩ au1 ⟨Nat.zero_le _, rfl⟩ ?_
  rintro ⟨j, s2⟩ ⟨hj, hs2⟩
  change wpM _ _ _ _ _ _ _ ((l, Obj.loop (busyOf rc)) :: (D, Obj.deferred (some [])) :: (b6, .cells (secF (p, xs)).toArray 68 (0, 0)) :: uBx b5 s2 :: pB c1 fv ad n cap :: iBc b3 lock :: pB b2 fv ad n cap :: []) _ _ _
  refine wR <| LM.val (ov_lss rfl rfl) <| nA [(5, _), (23, _), (24, _), (25, _), (26, _)] <| wpM.seq ?_
  refine wpM.condD rfl (fun h2 => ?_) (fun h2 => ?_)
  ·
   refine wpM.skip <| QM.then <| wpM.seq <| wpM.block <| wR ?_
   refine LM.val (ov_idxSN au6 Tryd.underlying35 Tryd.sizeOf70 rfl rfl om) ?_
   refine LM.rdC (om_srEA asm ir Tryd.isAgg70 Tryd.sizeOf70 rfl au3 id) ?_
   refine LM.alloc Tryd.zeroValue70 rfl (fun b8 hb8 => ?_)
   refine LM.stW Tryd.sizeOf70 rfl rfl rfl rfl au7 au8 ?_
   refine nB [(5, _), (8, _), (23, _), (24, _), (25, _)] <| LM.val (ovf 3 rfl rfl rfl rfl) ?_
   refine LM.rd (oml rfl rfl rfl) ?_
   refine LM.val (ov_geq rfl rfl) <| LM.mv rfl ?_
   refine LM.splitD (t := 32) rfl (fun h3 => ?_) (fun h3 => ?_)
   ·
    refine LM.sp 32 rfl rfl rfl <| LM.val (ovf 3 rfl rfl rfl rfl) <| LM.sp 32 rfl rfl rfl ?_
    refine LM.rd (oml rfl rfl rfl) ?_
    refine LM.sp 32 rfl rfl rfl <| LM.val (ov_leq rfl rfl) <| LM.val (ov_pickT rfl rfl) <| nA [(5, _), (8, _), (23, _), (24, _), (25, _), (36, _)] ?_
    refine wpM.condD rfl (fun h4 => ?_) (fun h4 => ?_)
    ·
     refine wpM.region ?_
     refine LM.rd (oml rfl rfl rfl) ?_
     refine LM.val (ovf 3 rfl rfl rfl rfl) ?_
     refine LM.rd (oml rfl rfl rfl) ?_
     refine cE Tryd.func30 rfl (fun w hm hc hg => with_spec _ _ w) ?_
     refine LM.st Tryd.sizeOf34 rfl rfl rfl au5 rfl au8 ?_
     refine nC [(5, _), (23, _), (24, _), (25, _)] <| QM.block_normal ?_
     refine QM.then (wpM.region ?_)
     refine LM.val (ov_add64 rfl rfl om) ?_
     refine LM.mv rfl <| nC [(5, _), (23, _), (24, _), (25, _)] ?_
     refine QM.againK ((j + 1, withS s2 (((xs.drop (p + 1)).take (secO xs p).1).getD j default).a)) ⟨au2, rfl, rfl, rfl, trivial⟩ au1 (fun _ h => h) ?_ ?_
     · have hg := hpg j om; rw [hg] at h3 h4 ⊢; exact ⟨by omega, by rw [innS_succ s om, if_pos (takes_yes h3 h4), hs2]⟩
     · (dsimp only; omega)
    refine wpM.skip <| QM.block_normal ?_
    refine QM.then (wpM.region ?_)
    refine LM.val (ov_add64 rfl rfl om) ?_
    refine LM.mv rfl <| nC [(5, _), (23, _), (24, _), (25, _)] ?_
    refine QM.againK ((j + 1, s2)) ⟨au2, rfl, rfl, rfl, trivial⟩ au1 (fun _ h => h) ?_ ?_
    · have hg := hpg j om; rw [hg] at h3 h4; exact ⟨by omega, by rw [innS_succ s om, if_neg (takes_no (.inr h4)), hs2]⟩
    · (dsimp only; omega)
   refine LM.dr 32 rfl rfl rfl <| LM.dr 32 rfl rfl rfl <| LM.dr 32 rfl rfl rfl <| LM.val (ov_pickF rfl rfl) <| nA [(5, _), (8, _), (23, _), (24, _), (25, _), (36, _)] ?_
   refine wpM.condF rfl ?_
   refine wpM.skip <| QM.block_normal ?_
   refine QM.then (wpM.region ?_)
   refine LM.val (ov_add64 rfl rfl om) ?_
   refine LM.mv rfl <| nC [(5, _), (23, _), (24, _), (25, _)] ?_
   refine QM.againK ((j + 1, s2)) ⟨au2, rfl, rfl, rfl, trivial⟩ au1 (fun _ h => h) ?_ ?_
   · have hg := hpg j om; rw [hg] at h3; exact ⟨by omega, by rw [innS_succ s om, if_neg (takes_no (.inl h3)), hs2]⟩
   · (dsimp only; omega)
  refine wpM.exit <| QM.then_exit <| QM.then_exit <| QM.block_hit <| QM.block_normal ?_
  refine QM.next (s2) (SubM.mem au1) (fun _ h => h) ?_
  · exact ⟨by omega, by rw [hws, if_pos (Classical.not_not.1 h1), ← hs, hs2, show j = (secO xs p).1 by omega]⟩
 ·
  rintro s D0 hD0 ⟨hk, hs⟩
  refine QM.sub (e' := [(5, _)]) ⟨rfl, trivial⟩ ?_
  refine QM.block_normal <| tR ?_
  refine LM.rd (oml rfl rfl rfl) ?_
  refine LM.as rfl <| nA [(4, _)] <| wpM.ret ?_
  refine QM.leaveDF (ds := [D0]) (.inl rfl) [.tmp 4] Tryd.results11 rfl (fun D h => by simp only [List.mem_cons, List.not_mem_nil, or_false] at h; omega) ?_
  intro w' hm' hc'
  refine ⟨?_, hc'⟩; simp only [resV]; rw [hs, secB_len, filN_len, witK_all]; rfl
 ·
  rintro ⟨⟩ D0 hD0 hx
  exact hx.elim
 rintro id ⟨⟩ D0 hD0 hx
 exact hx.elim
theorem rwithin_spec41 {xs : List COp} {fv : Bool} {ad : Option Addr} {n cap : Nat} (lock : Int) (w : World) (hn : n = xs.length) (hl : Sr fO 3 xs (.slice ad n cap) w) (hx20 : xs.length ≤ 20) : Ret Tryd.prog 12 #[pV fv ad n cap, .int .i64 lock] w (fun v w' => v = U (witO xs lock) ∧ Ext w w') := by
 refine Ret.enterM Tryd.func12 rfl Tryd.ntmps12 rfl ([]) (no) (Mem.nil w) ?_
 refine wR ?_
 refine LM.box rfl rfl (fun b2 hb2 => ?_)
 refine LM.as rfl <| nB [(1, _), (2, _)] <| LM.as rfl <| nB [(1, _), (2, _), (5, _)] ?_
 refine LM.rd (om_ldW Tryd.isAgg37 Tryd.sizeOf37 rfl rfl) ?_
 refine LM.cS (oc_call (enters_fn Tryd.func32 kr rfl) rfl) (fun w hm hc hg => rsecs_spec w hn (hl.ext hc) hx20) (fun ad10 n10 cap10 m10 hn10 hs10 => ?_)
 have hfl : filN (tkT xs) xs.length ≤ 20 := (by unfold filN; exact Nat.le_trans (List.length_filter_le _ _) (by rw [List.length_range]; exact hx20)); have hml : ((filP (tkT xs) xs.length).map (fun i => (i, xs))).length = filN (tkT xs) xs.length := (by rw [List.length_map]; rfl); rw [hml] at hn10; have hmg : ∀ k p : Nat, (filP (tkT xs) xs.length)[k]? = some p → ((filP (tkT xs) xs.length).map (fun i => (i, xs))).getD k default = (p, xs) := (fun k p h => map_at h); generalize (filP (tkT xs) xs.length).map (fun i => (i, xs)) = L at *
 refine LM.as rfl <| nA [(1, _), (2, _), (5, _), (6, _)] <| wpM.seq <| wR <| LM.as rfl <| nA [(1, _), (2, _), (5, _), (6, _), (7, _)] <| wpM.block ?_
 refine wpM.loopK0 (α := Nat × BitVec 64) (fun ⟨k, s⟩ => [(5, U s), (7, .int .i64 (k : Nat))]) [(1, _), (2, _), (6, _)] (fun ⟨k, s⟩ => m10 ++ (pB b2 fv ad n cap :: [])) (fun ⟨k, s⟩ => k ≤ filN (tkT xs) xs.length ∧ s = witK xs lock k) (fun ⟨k, s⟩ => filN (tkT xs) xs.length - k) ((0, 0#64)) ⟨au2, au2, rfl, rfl, rfl, trivial⟩ au1 ⟨Nat.zero_le _, rfl⟩ ?_
 rintro ⟨k, s⟩ ⟨hk, hs⟩
 change wpM _ _ _ _ _ _ _ (m10 ++ (pB b2 fv ad n cap :: [])) _ _ _
 refine wpM.seq <| wR <| LM.mv rfl <| LM.mv rfl <| LM.val (ov_len Tryd.underlying71 rfl) <| LM.val (ov_lss rfl rfl) <| nA [(1, _), (2, _), (5, _), (6, _), (7, _), (14, _)] ?_
 refine wpM.condD rfl (fun h1 => ?_) (fun h1 => ?_)
 ·
  obtain ⟨p, hp⟩ : ∃ p, (filP (tkT xs) xs.length)[k]? = some p := ⟨_, List.getElem?_eq_getElem (by rw [← filN_len]; omega)⟩; have hpx : p < xs.length := (filP_mem.1 (List.mem_of_getElem? hp)).1; have hto := secO_le xs p hpx; have hws := witK_succ (lock := lock) hp; unfold witS at hws; have hge := hmg k p hp; have hg1 : (L.getD k default).1 = p := (by rw [hge]); have hg3 : (secO (L.getD k default).2 (L.getD k default).1).1 = (secO xs p).1 := (by rw [hge]); have hga : ((L.getD k default).2.getD (L.getD k default).1 default).a = (xs.getD p default).a := (by rw [hge])
  refine wpM.skip <| QM.then <| wpM.seq <| wpM.block <| wpM.seq <| wR <| LM.mv rfl <| LM.mv rfl ?_
  refine LM.val (ov_idxSN au6 Tryd.underlying71 Tryd.sizeOf68 rfl rfl om) ?_
  refine LM.val (ovf 3 rfl rfl rfl rfl) ?_
  refine LM.rd (om_slE (j := 2) asm ir Tryd.isAgg3 rfl rfl au3 rfl (by rfl)) ?_
  refine LM.mv rfl <| LM.val (ov_neq rfl rfl) <| nA [(1, _), (2, _), (5, _), (6, _), (7, _), (23, _)] ?_
  refine wpM.condD rfl (fun h2 => ?_) (fun h2 => ?_)
  ·
   refine wpM.exit <| QM.then_exit <| QM.block_hit ?_
   refine QM.then (wpM.region ?_)
   refine LM.mv rfl ?_
   refine LM.val (ov_add64 rfl rfl om) ?_
   refine LM.as rfl <| nC [(1, _), (2, _), (5, _), (6, _), (7, _)] ?_
   refine QM.againK ((k + 1, s)) ⟨au2, au2, rfl, rfl, rfl, trivial⟩ au1 (fun _ h => h) ?_ ?_
   · rw [hga] at h2; exact ⟨by omega, by rw [hws, if_neg h2, hs]⟩
   · (dsimp only; omega)
  refine wpM.skip <| tR <| LM.mv rfl <| LM.mv rfl ?_
  refine LM.val (ov_idxSN au6 Tryd.underlying71 Tryd.sizeOf68 rfl rfl om) ?_
  refine LM.val (ovf 3 rfl rfl rfl rfl) ?_
  refine LM.rd (om_slE (j := 0) asm ir Tryd.isAgg3 rfl rfl au3 rfl (by rfl)) ?_
  refine LM.val (ov_add64 rfl rfl om) ?_
  refine LM.as rfl <| nA [(1, _), (2, _), (5, _), (6, _), (7, _), (8, _)] <| wpM.block ?_
  refine wpM.loopK0 (α := Nat × BitVec 64) (fun ⟨j, s2⟩ => [(5, U s2), (8, .int .i64 ((p + 1 + j : Nat)))]) [(1, _), (2, _), (6, _), (7, _)] (fun ⟨j, s2⟩ => m10 ++ (pB b2 fv ad n cap :: [])) (fun ⟨j, s2⟩ => j ≤ (secO xs p).1 ∧ s2 = innS xs (p + 1) j s) (fun ⟨j, s2⟩ => (secO xs p).1 - j) ((0, s)) ⟨au2, au2, rfl, rfl, rfl, rfl, trivial⟩ au1 ⟨Nat.zero_le _, rfl⟩ ?_
  rintro ⟨j, s2⟩ ⟨hj, hs2⟩
  change wpM _ _ _ _ _ _ _ (m10 ++ (pB b2 fv ad n cap :: [])) _ _ _
  refine wpM.seq <| wR <| LM.mv rfl <| LM.mv rfl <| LM.mv rfl ?_
  refine LM.val (ov_idxSN au6 Tryd.underlying71 Tryd.sizeOf68 rfl rfl om) ?_
  refine LM.val (ovf 3 rfl rfl rfl rfl) ?_
  refine LM.rd (om_slE (j := 1) asm ir Tryd.isAgg3 rfl rfl au3 rfl (by rfl)) ?_
  refine LM.val (ov_lss rfl rfl) <| nA [(1, _), (2, _), (5, _), (6, _), (7, _), (8, _), (36, _)] ?_
  refine wpM.condD rfl (fun h3 => ?_) (fun h3 => ?_)
  ·
   refine wpM.skip <| QM.then <| wpM.seq <| wpM.block <| wR <| LM.val (ovf 35 rfl rfl rfl rfl) ?_
   refine LM.rd (oml rfl rfl rfl) ?_
   refine LM.mv rfl ?_
   refine LM.val (ov_idxSN au6 Tryd.underlying35 Tryd.sizeOf70 rfl rfl om) ?_
   refine LM.val (ovf 3 rfl rfl rfl rfl) ?_
   refine LM.rdC (om_srE (j := 0) asm Tryd.isAgg3 rfl rfl au3 (by rfl) (by rfl) id) ?_
   refine LM.val (ov_geq rfl rfl) <| LM.mv rfl ?_
   refine LM.splitD (t := 46) rfl (fun h4 => ?_) (fun h4 => ?_)
   ·
    refine LM.sp 46 rfl rfl rfl <| LM.val (ovf 35 rfl rfl rfl rfl) <| LM.sp 46 rfl rfl rfl ?_
    refine LM.rd (oml rfl rfl rfl) ?_
    refine LM.sp 46 rfl rfl rfl <| LM.mv rfl <| LM.sp 46 rfl rfl rfl ?_
    refine LM.val (ov_idxSN au6 Tryd.underlying35 Tryd.sizeOf70 rfl rfl om) ?_
    refine LM.sp 46 rfl rfl rfl <| LM.val (ovf 3 rfl rfl rfl rfl) <| LM.sp 46 rfl rfl rfl ?_
    refine LM.rdC (om_srE (j := 0) asm Tryd.isAgg3 rfl rfl au3 (by rfl) (by rfl) id) ?_
    refine LM.sp 46 rfl rfl rfl <| LM.val (ov_leq rfl rfl) <| LM.val (ov_pickT rfl rfl) <| nA [(1, _), (2, _), (5, _), (6, _), (7, _), (8, _), (54, _)] ?_
    refine wpM.condD rfl (fun h5 => ?_) (fun h5 => ?_)
    ·
     refine wpM.region ?_
     refine LM.mv rfl <| LM.val (ovf 35 rfl rfl rfl rfl) ?_
     refine LM.rd (oml rfl rfl rfl) ?_
     refine LM.mv rfl ?_
     refine LM.val (ov_idxSN au6 Tryd.underlying35 Tryd.sizeOf70 rfl rfl om) ?_
     refine LM.val (ovf 3 rfl rfl rfl rfl) ?_
     refine LM.rdC (om_srE (j := 1) asm Tryd.isAgg3 rfl rfl au3 (by rfl) (by rfl) id) ?_
     refine cE Tryd.func33 rfl (fun w hm hc hg => rwith_spec _ _ w) ?_
     refine LM.as rfl <| nC [(1, _), (2, _), (5, _), (6, _), (7, _), (8, _)] <| QM.block_normal ?_
     refine QM.then (wpM.region ?_)
     refine LM.mv rfl ?_
     refine LM.val (ov_add64 rfl rfl om) ?_
     refine LM.as rfl <| nC [(1, _), (2, _), (5, _), (6, _), (7, _), (8, _)] ?_
     refine QM.againK ((j + 1, withS s2 (xs.getD (p + 1 + j) default).a)) ⟨au2, au2, rfl, rfl, rfl, rfl, trivial⟩ au1 (fun _ h => h) ?_ ?_
     · exact ⟨by omega, by rw [innS_succ s om, if_pos (takes_yes h4 h5), hs2]⟩
     · (dsimp only; omega)
    refine wpM.skip <| QM.block_normal ?_
    refine QM.then (wpM.region ?_)
    refine LM.mv rfl ?_
    refine LM.val (ov_add64 rfl rfl om) ?_
    refine LM.as rfl <| nC [(1, _), (2, _), (5, _), (6, _), (7, _), (8, _)] ?_
    refine QM.againK ((j + 1, s2)) ⟨au2, au2, rfl, rfl, rfl, rfl, trivial⟩ au1 (fun _ h => h) ?_ ?_
    · exact ⟨by omega, by rw [innS_succ s om, if_neg (takes_no (.inr h5)), hs2]⟩
    · (dsimp only; omega)
   refine LM.dr 46 rfl rfl rfl <| LM.dr 46 rfl rfl rfl <| LM.dr 46 rfl rfl rfl <| LM.dr 46 rfl rfl rfl <| LM.dr 46 rfl rfl rfl <| LM.dr 46 rfl rfl rfl <| LM.dr 46 rfl rfl rfl <| LM.val (ov_pickF rfl rfl) <| nA [(1, _), (2, _), (5, _), (6, _), (7, _), (8, _), (54, _)] ?_
   refine wpM.condF rfl ?_
   refine wpM.skip <| QM.block_normal ?_
   refine QM.then (wpM.region ?_)
   refine LM.mv rfl ?_
   refine LM.val (ov_add64 rfl rfl om) ?_
   refine LM.as rfl <| nC [(1, _), (2, _), (5, _), (6, _), (7, _), (8, _)] ?_
   refine QM.againK ((j + 1, s2)) ⟨au2, au2, rfl, rfl, rfl, rfl, trivial⟩ au1 (fun _ h => h) ?_ ?_
   · exact ⟨by omega, by rw [innS_succ s om, if_neg (takes_no (.inl h4)), hs2]⟩
   · (dsimp only; omega)
  refine wpM.exit <| QM.then_exit <| QM.then_exit <| QM.block_hit <| QM.block_normal ?_
  refine QM.then (wpM.region ?_)
  refine LM.mv rfl ?_
  refine LM.val (ov_add64 rfl rfl om) ?_
  refine LM.as rfl <| nC [(1, _), (2, _), (5, _), (6, _), (7, _)] ?_
  refine QM.againK ((k + 1, s2)) ⟨au2, au2, rfl, rfl, rfl, trivial⟩ au1 (fun _ h => h) ?_ ?_
  · rw [hga] at h2; exact ⟨by omega, by rw [hws, if_pos (Classical.not_not.1 h2), ← hs, hs2, show j = (secO xs p).1 by omega]⟩
  · (dsimp only; omega)
 refine wpM.exit <| QM.then_exit <| QM.then_exit <| QM.block_hit <| tR <| LM.mv rfl <| LM.as rfl <| nA [(4, _)] <| wpM.ret ?_
 refine qL Tryd.results12 rfl fun w' hm' hc' hg' => ?_
 refine ⟨?_, hc'⟩; simp only [resV]; rw [hs, show k = filN (tkT xs) xs.length by omega, filN_len, witK_all]
end Go.Eng
namespace Go.Eng
open Go Go.RowKit
theorem mayS_ps' {s : StC} (h : mayS s = true) : s.ls.length ≤ 8 ∧ s.ps.length ≤ 8 ∧ ∀ p ∈ s.ps, (ckO p.fv p.xs s.ls (s.ps.length : Int)).2 = 0 := by
  unfold mayS winB at h
  simp only [Bool.and_eq_true, decide_eq_true_eq, Bool.not_eq_true'] at h
  refine ⟨h.1.1.2.1, by omega, fun p hp => ?_⟩
  have := List.any_eq_false.1 h.2 p hp
  unfold misB at this
  simpa using this
theorem ckO_zero {fv : Bool} {xs : List COp} {ls : List CLk} {progs : Int} (h : (ckO fv xs ls progs).2 = 0) : mayB xs = true ∧ ∀ j, j < xs.length → fitsO fv xs ls progs j = 0 := by
  unfold ckO at h
  split at h
  · rename_i hm
    refine ⟨hm, fun j hj => ?_⟩
    split at h
    · rename_i i hi
      have := List.find?_some hi
      simp only [decide_eq_true_eq] at this
      exact absurd h this
    · rename_i hn
      have := List.find?_eq_none.1 hn j (List.mem_range.2 hj)
      simpa using this
  · cases h
theorem mayS_take {s : StC} (h : mayS s = true) {p : PgC} (hp : p ∈ s.ps) {o : COp} (ho : o ∈ p.xs) (ht : takesB o.k = true) : 0 ≤ o.a ∧ o.a < s.ls.length := by
  obtain ⟨h1, h2, h3⟩ := mayS_ps' h
  obtain ⟨hm, hf⟩ := ckO_zero (h3 p hp)
  obtain ⟨i, hi, rfl⟩ := List.getElem_of_mem ho
  have e : p.xs[i] = p.xs.getD i default := by rw [List.getD_eq_getElem?_getD, List.getElem?_eq_getElem hi]; rfl
  rw [e] at ht ⊢
  have hr := right_a (may_at hm hi)
  refine ⟨hr.1, ?_⟩
  have := hf i hi
  unfold fitsO at this
  rw [ht] at this
  by_cases q : (p.xs.getD i default).a ≥ s.ls.length
  · rw [decide_eq_true q] at this; simp at this
  · omega
theorem mayS_len {s : StC} (h : mayS s = true) {p : PgC} (hp : p ∈ s.ps) : p.xs.length ≤ 20 := (may_small (ckO_zero ((mayS_ps' h).2.2 p hp)).1).1
theorem grwK_has {s : StC} {i k : Nat} {j : Int} (h : sHas (grwK s i k) j = true) : ∃ p ∈ s.ps, sHas (witO p.xs (i : Nat)) j = true := by
  unfold grwK at h
  have hsub : ∀ p ∈ s.ps.take k, p ∈ s.ps := fun p hp => List.mem_of_mem_take hp
  have key : ∀ (l : List PgC) (g : BitVec 64), sHas (l.foldl (fun g p => g ||| witO p.xs (i : Nat)) g) j = true → sHas g j = true ∨ ∃ p ∈ l, sHas (witO p.xs (i : Nat)) j = true := by
    intro l
    induction l with
    | nil => exact fun g h => .inl h
    | cons p l ih =>
      intro g h
      rw [List.foldl_cons] at h
      rcases ih _ h with q | ⟨p', hp', q⟩
      · rw [sHas_or, Bool.or_eq_true] at q
        rcases q with q | q
        · exact .inl q
        · exact .inr ⟨p, List.mem_cons_self .., q⟩
      · exact .inr ⟨p', List.mem_cons_of_mem _ hp', q⟩
  rcases key _ _ h with q | ⟨p, hp, q⟩
  · rw [sHas_zero] at q; cases q
  · exact ⟨p, hsub p hp, q⟩
theorem grf_ot {s : StC} {i : Nat} (h : i < s.ls.length) : ot (grfO s) i = grwK s i s.ps.length := by
  unfold ot grfO
  rw [List.getD_eq_getElem?_getD, List.getElem?_map, List.getElem?_range h]; rfl
theorem grf_low {s : StC} (h : mayS s = true) : Low (grfO s) := by
  intro i k hk
  rw [grfO_len]
  have hi := ot_in hk
  rw [grfO_len] at hi
  rw [grf_ot hi] at hk
  obtain ⟨p, hp, q⟩ := grwK_has hk
  obtain ⟨o, ho, ht, he⟩ := witO_has q
  have := mayS_take h hp ho ht
  omega
theorem grf_len {s : StC} (h : mayS s = true) : (grfO s).length ≤ 12 := by rw [grfO_len]; have := (mayS_ps' h).1; omega
/-! filled in -/
def webP (s : StC) (i k : Nat) : Gr := (List.range s.ls.length).map (fun j => if j < i then grwK s j s.ps.length else if j = i then grwK s i k else 0#64)
theorem webP_len (s : StC) (i k : Nat) : (webP s i k).length = s.ls.length := by unfold webP; rw [List.length_map, List.length_range]
theorem webP_get {s : StC} {i k j : Nat} (h : j < s.ls.length) : (webP s i k).getD j 0#64 = if j < i then grwK s j s.ps.length else if j = i then grwK s i k else 0#64 := by
  unfold webP
  rw [List.getD_eq_getElem?_getD, List.getElem?_map, List.getElem?_range h]; rfl
theorem grwK_zero (s : StC) (i : Nat) : grwK s i 0 = 0#64 := rfl
theorem gr_ext {G H : Gr} (hl : G.length = H.length) (h : ∀ j, j < G.length → G.getD j 0#64 = H.getD j 0#64) : G = H := by
  apply List.ext_getElem hl
  intro j h1 h2
  have := h j h1
  rw [List.getD_eq_getElem?_getD, List.getD_eq_getElem?_getD, List.getElem?_eq_getElem h1, List.getElem?_eq_getElem h2] at this
  exact this
theorem webP_zero (s : StC) : webP s 0 0 = List.replicate s.ls.length 0#64 := by
  refine gr_ext (by rw [webP_len, List.length_replicate]) (fun j hj => ?_)
  rw [webP_len] at hj
  rw [webP_get hj, if_neg om, List.getD_eq_getElem?_getD, List.getElem?_replicate, if_pos hj]
  split
  · exact grwK_zero s 0
  · rfl
theorem webP_next (s : StC) (i : Nat) : webP s i s.ps.length = webP s (i + 1) 0 := by
  refine gr_ext (by rw [webP_len, webP_len]) (fun j hj => ?_)
  rw [webP_len] at hj
  rw [webP_get hj, webP_get hj]
  by_cases h1 : j < i
  · rw [if_pos h1, if_pos om]
  · by_cases h2 : j = i
    · subst h2; rw [if_neg h1, if_pos rfl, if_pos om]
    · rw [if_neg h1, if_neg h2, if_neg om]
      split
      · exact (grwK_zero s _).symm
      · rfl
theorem webP_set {s : StC} {i k : Nat} (hi : i < s.ls.length) (hk : k < s.ps.length) : (webP s i k).set i ((webP s i k).getD i 0#64 ||| witO (s.ps.getD k default).xs (i : Nat)) = webP s i (k + 1) := by
  refine gr_ext (by rw [List.length_set, webP_len, webP_len]) (fun j hj => ?_)
  rw [List.length_set, webP_len] at hj
  rw [webP_get hj, webP_get hi, if_neg om, if_pos rfl, List.getD_eq_getElem?_getD, List.getElem?_set]
  by_cases h2 : i = j
  · subst h2; rw [if_pos rfl, if_pos (by rw [webP_len]; exact hi), if_neg om, if_pos rfl, grwK_succ hk]; rfl
  · have h3 : ¬ j = i := fun q => h2 q.symm
    rw [if_neg h2, ← List.getD_eq_getElem?_getD, webP_get hj]; simp only [h3, if_false]
theorem webP_end (s : StC) : webP s s.ls.length 0 = grfO s := by
  refine gr_ext (by rw [webP_len, grfO_len]) (fun j hj => ?_)
  rw [webP_len] at hj
  rw [webP_get hj, if_pos hj]
  exact (grf_ot hj).symm
/-! what a setup has -/
def webO (s : StC) : Gr := if mayS s = true then grfO s else []
def okO (s : StC) : Bool := mayS s && ordB (webO s)
def ordW (s : StC) : List Int := if okO s = true then ordO (webO s) else []
def depW (s : StC) : Nat := if okO s = true then dpt (webO s) else 0
def cycW (s : StC) : List Int := if mayS s = true ∧ ordB (webO s) = false then cycO (webO s) else []
theorem webO_yes {s : StC} (h : mayS s = true) : webO s = grfO s := if_pos h
theorem webO_no {s : StC} (h : mayS s = false) : webO s = [] := if_neg (by rw [h]; simp)
theorem webO_low (s : StC) : Low (webO s) := by
  cases h : mayS s with
  | true => rw [webO_yes h]; exact grf_low h
  | false => rw [webO_no h]; intro i k hk; have := ot_in hk; cases this
theorem webO_len (s : StC) : (webO s).length ≤ 12 := by
  cases h : mayS s with
  | true => rw [webO_yes h]; exact grf_len h
  | false => rw [webO_no h]; exact Nat.zero_le _
end Go.Eng
namespace Go.Eng
open Go Go.Proofs Go.RowKit
def gpM (ws : List Wrd) (i : Nat) (e : Int) (gs : List Int) : List Int × Nat × Int := if gs.length = 0 then (if e = 0 then gpO ws i e else ([], i, e)) else gpL ws i e gs
theorem gpM_stop {ws : List Wrd} {i : Nat} {e : Int} {gs : List Int} (h : (isE ws i e 1 wGroup || (decide (gs.length = 0) && decide (e = 0))) = false) : gpM ws i e gs = (gs, i, e) := by
  simp only [Bool.or_eq_false_iff, Bool.and_eq_false_iff, decide_eq_false_iff_not] at h
  unfold gpM
  by_cases h0 : gs.length = 0
  · rw [if_pos h0, if_neg (h.2.resolve_left (fun q => q h0)), List.length_eq_zero_iff.1 h0]
  · rw [if_neg h0, gpL_stop h.1]
theorem gpM_full {ws : List Wrd} {i : Nat} {e : Int} {gs : List Int} (h : isE ws i e 1 wGroup = true) (hl : 4 ≤ gs.length) : gpM ws i e gs = (gs, i, 6) := by
  unfold gpM; rw [if_neg om, gpL_full h hl]
theorem gpM_next {ws : List Wrd} {i : Nat} {e : Int} {gs : List Int} (h : (isE ws i e 1 wGroup || (decide (gs.length = 0) && decide (e = 0))) = true) (hl : gs.length < 4) : gpM ws i e gs = gpM ws (linE ws i e wGroup 16).1 (linE ws i e wGroup 16).2.1 (gs ++ [(linE ws i e wGroup 16).2.2]) := by
  simp only [Bool.or_eq_true, Bool.and_eq_true, decide_eq_true_eq] at h
  unfold gpM
  rw [if_neg (show ¬ (gs ++ [(linE ws i e wGroup 16).2.2]).length = 0 by simp)]
  by_cases h0 : gs.length = 0
  · have he : e = 0 := h.elim (fun q => (isE_lt q).2) (fun q => q.2)
    rw [if_pos h0, if_pos he, List.length_eq_zero_iff.1 h0]; rfl
  · rw [if_neg h0, gpL_next (h.resolve_right (fun q => h0 q.1)) hl]
theorem gpM_sG {ws : List Wrd} {i0 : Nat} {gs : List Int} {i : Nat} {e : Int} (h : gpM ws (sB2 ws i0).1 (sB2 ws i0).2.1 [] = (gs, i, e)) : (sG ws i0).2 = (i, e) ∧ (e = 0 → sG ws i0 = (gs, i, e)) := by
  unfold gpM at h
  rw [if_pos (show ([] : List Int).length = 0 from rfl)] at h
  unfold sG
  by_cases h0 : (sB2 ws i0).2.1 = 0
  · rw [if_pos h0] at h; rw [h]; exact ⟨rfl, fun _ => rfl⟩
  · rw [if_neg h0] at h
    simp only [Prod.mk.injEq] at h
    obtain ⟨_, h2, h3⟩ := h
    rw [← h2, ← h3]
    refine ⟨?_, fun q => absurd q h0⟩
    unfold gpO; rw [lin_bad h0]; simp only; rw [gpL_stop (isE_bad h0)]
theorem isP_eq {ws : List Wrd} {i : Nat} {e : Int} {ps : List PgC} : isP ws i e ps = (isE ws i e 1 wProg || (decide (ps.length = 0) && decide (e = 0))) := by
  unfold isP
  by_cases h : e = 0
  · rw [decide_eq_true h, Bool.true_and, Bool.and_true, Bool.or_comm]
  · rw [isE_bad h, decide_eq_false h]; simp
structure SetI (ws : List Wrd) (i0 : Nat) (gs : List Int) (i1 : Nat) (e1 : Int) (ls : List CLk) (i2 : Nat) (e2 : Int) (ps : List PgC) (pl : List Int) (i3 : Nat) (e3 : Int) : Prop where
  g : (sG ws i0).2 = (i1, e1) ∧ (e1 = 0 → (sG ws i0).1 = gs)
  l : lkL ws i1 e1 [] = (ls, i2, e2)
  p : pgL ws i2 e2 [] [] = (ps, pl, i3, e3)
theorem SetI.two {ws : List Wrd} {i0 : Nat} {gs : List Int} {i1 : Nat} {e1 : Int} {ls : List CLk} {i2 : Nat} {e2 : Int} {ps : List PgC} {pl : List Int} {i3 : Nat} {e3 : Int} (h : SetI ws i0 gs i1 e1 ls i2 e2 ps pl i3 e3) : sL ws i0 = (ls, i2, e2) ∧ sP ws i0 = (ps, pl, i3, e3) := by
  have a : sL ws i0 = (ls, i2, e2) := by unfold Go.Eng.sL; rw [h.g.1]; exact h.l
  exact ⟨a, by unfold sP; rw [a]; exact h.p⟩
theorem SetI.bad {ws : List Wrd} {i0 : Nat} {gs : List Int} {i1 : Nat} {e1 : Int} {ls : List CLk} {i2 : Nat} {e2 : Int} {ps : List PgC} {pl : List Int} {i3 : Nat} {e3 : Int} (h : SetI ws i0 gs i1 e1 ls i2 e2 ps pl i3 e3) (he : e3 ≠ 0) : stpR ws i0 = (default, (i3 : Int), e3) := by
  unfold stpR; rw [h.two.2]; simp only; rw [if_pos he]
theorem SetI.mis {ws : List Wrd} {i0 : Nat} {gs : List Int} {i1 : Nat} {e1 : Int} {ls : List CLk} {i2 : Nat} {e2 : Int} {ps : List PgC} {pl : List Int} {i3 : Nat} {e3 : Int} (h : SetI ws i0 gs i1 e1 ls i2 e2 ps pl i3 e3) (he : e3 = 0) {j : Nat} (hj : j < ps.length) (h0 : (ps.take j).any (misB ls ps.length) = false) (h1 : misB ls ps.length (ps.getD j default) = true) : stpR ws i0 = (default, pl.getD j 0, (ckO (ps.getD j default).fv (ps.getD j default).xs ls (ps.length : Int)).2) := by
  have e := fix_hit default h0 hj h1
  have e' : misI ls ps = (j : Nat) := e
  unfold stpR; rw [h.two.2, h.two.1]; simp only; rw [if_neg (by simp [he]), e', if_pos om, Int.toNat_natCast]
  unfold misE; rw [if_neg om, Int.toNat_natCast]
theorem SetI.ok {ws : List Wrd} {i0 : Nat} {gs : List Int} {i1 : Nat} {e1 : Int} {ls : List CLk} {i2 : Nat} {e2 : Int} {ps : List PgC} {pl : List Int} {i3 : Nat} {e3 : Int} (h : SetI ws i0 gs i1 e1 ls i2 e2 ps pl i3 e3) (he : e3 = 0) (h0 : ps.any (misB ls ps.length) = false) : stpR ws i0 = (⟨(sA ws i0).2.2, (sB2 ws i0).2.2, gs, ls, ps⟩, (i3 : Int), 0) := by
  have z2 : e2 = 0 := by
    have := pgF_zero (ws := ws) _ i2 e2 [] [] (by have := h.p; unfold pgL at this; rw [this]; exact he)
    exact this
  have z1 : e1 = 0 := by
    have := lkF_zero (ws := ws) _ i1 e1 [] (by have := h.l; unfold lkL at this; rw [this]; exact z2)
    exact this
  have e' : misI ls ps = -1 := fix_miss h0
  unfold stpR; rw [h.two.2, h.two.1]; simp only; rw [if_neg (by simp [he]), e', if_neg (by decide), h.g.2 z1]
theorem par_pos {ws : List Wrd} {i : Nat} (h : i ≤ ws.length) : 0 ≤ (parseO ws (i : Int)).2.2.1 ∧ (parseO ws (i : Int)).2.2.1.toNat ≤ ws.length := by
  have key : ∀ (f i : Nat) (ops : List COp), i ≤ ws.length → 0 ≤ (loopP f ws i ops).2.1 ∧ (loopP f ws i ops).2.1.toNat ≤ ws.length := by
    intro f
    induction f with
    | zero => intro i ops hi; exact ⟨by show (0 : Int) ≤ (i : Int); omega, by show ((i : Int)).toNat ≤ _; omega⟩
    | succ f ih =>
      intro i ops hi
      unfold loopP
      split
      · rename_i q
        have := isR_lt q
        split
        · exact ⟨by show (0 : Int) ≤ (i : Int); omega, by show ((i : Int)).toNat ≤ _; omega⟩
        · exact ⟨by show (0 : Int) ≤ ((i + 1 : Nat) : Int); omega, by show (((i + 1 : Nat) : Int)).toNat ≤ _; omega⟩
      · have hp := opR_pos (k := ops.length) hi
        split
        · exact ⟨by show (0 : Int) ≤ ((opR ws i ops.length).1 : Int); omega, by show (((opR ws i ops.length).1 : Int)).toNat ≤ _; omega⟩
        · exact ih _ _ hp
  rw [parse_nat h]
  simp only
  unfold bodyR
  split
  · rename_i q
    have := isR_lt q
    have hh : (headR ws i).2 ≤ ws.length := by
      unfold headR; simp only; split
      · rename_i q; have := isR_lt q; omega
      · omega
    split
    · rename_i q2
      have := isR_lt q2
      exact key _ _ _ om
    · exact ⟨by show (0 : Int) ≤ ((headR ws i).2 : Int); omega, by show (((headR ws i).2 : Int)).toNat ≤ _; omega⟩
  · exact ⟨by show (0 : Int) ≤ (i : Int); omega, by show ((i : Int)).toNat ≤ _; omega⟩
def StT (r : StC × Int × Int) (n0 : Nat) (v : Value) (m : Mem0) : Prop := ∃ sv : StV, v = .tuple #[sv.val, .int .i64 r.2.1, .int .i64 r.2.2] ∧ sv.C = r.1 ∧ ∀ w, Mem w m → sv.In w
theorem StT.mono {r : StC × Int × Int} : ∀ (k k' : Nat) u m, k' ≤ k → StT r k u m → StT r k' u m := fun k k' u m h q => q
theorem StT.none {p e : Int} {n0 : Nat} : StT (default, p, e) n0 (.tuple #[(default : StV).val, .int .i64 p, .int .i64 e]) [] :=
  ⟨default, rfl, rfl, fun w _ => ⟨rfl, .nil _ _ _, rfl, .nil _ _ _, rfl, .nil _ _ _, fun p hp => by cases hp⟩⟩
abbrev sO (c g : Int) (ga : Option Addr) (gn gc : Nat) (la : Option Addr) (ln lc : Nat) (pa : Option Addr) (pn pc : Nat) : Obj := .cells #[.int .i64 c, .int .i64 g, .slice ga gn gc, .slice la ln lc, .slice pa pn pc] 26 (0, 0)
abbrev z0 : Obj := sO 0 0 none 0 0 none 0 0 none 0 0
theorem snoc_map {ps : List PgV} {p : PgV} : (ps ++ [p]).map PgV.c = ps.map PgV.c ++ [p.c] := by simp
theorem snoc_in {ps : List PgV} {p : PgV} {w : World} (h : PgsIn ps w) (k : p.In w) : PgsIn (ps ++ [p]) w := fun q hq => by
  rcases List.mem_append.1 hq with hq | hq
  · exact h q hq
  · rw [List.mem_singleton] at hq; subst hq; exact k
theorem sr_of_sl {α : Type} {f : α → List Value} {E s n0 : Nat} {xs : List α} {v : Value} {m : Mem0} {w : World} (h : Sl f E s n0 xs v m) (hf : ∀ a, (f a).length = s) (hm : Mem w m) : Sr f s xs v w := h.sr hf (fun p hp => hm.2 p hp)
theorem cond0 (n : Nat) : decide ((n : Int) = 0) = decide (n = 0) := decide_eq_decide.2 om
set_option maxHeartbeats 4000000 in
theorem rsetup_spec {ws : List Wrd} {ad : Option Addr} {n cap : Nat} (p : Int) (w : World) (hn : n = ws.length) (hx : ws.length ≤ 1000000000) (hl : Sr fW 4 ws (.slice ad n cap) w) : Ret Tryd.prog 41 #[.slice ad n cap, .int .i64 p] w (fun v w' => Ext w w' ∧ ∃ m, StT (setO ws p) w.heap.size v m ∧ Mem w' m ∧ ∀ p ∈ m, w.heap.size ≤ p.1) := by
 refine Ret.enterM Tryd.func41 rfl Tryd.ntmps41 rfl ([]) (no) (Mem.nil w) ?_
 refine wR ?_
 refine LM.alloc Tryd.zeroValue26 rfl (fun b4 hb4 => ?_)
 refine LM.as rfl <| LM.as rfl <| nA [(0, _), (1, _), (4, _)] <| wpM.seq <| wR <| LM.mv rfl <| LM.val (ov_lss rfl rfl) <| LM.mv rfl ?_
 refine LM.splitD (t := 19) rfl (fun h1 => ?_) (fun h1 => ?_)
 ·
  refine LM.dr 19 rfl rfl rfl <| LM.dr 19 rfl rfl rfl <| LM.dr 19 rfl rfl rfl <| LM.dr 19 rfl rfl rfl <| LM.val (ov_pickT rfl rfl) <| nA [(0, _), (1, _), (4, _), (24, _)] ?_
  refine wpM.condT rfl ?_
  refine wR ?_
  refine LM.val (ov_build (cs := #[_, _, _, _, _]) rfl (by first | rfl | kernel_rfl)) ?_
  refine LM.stW Tryd.sizeOf26 rfl rfl rfl rfl au7 au8 ?_
  refine LM.as rfl <| LM.as rfl <| nA [(4, _), (5, _), (6, _)] <| wpM.ret <| QM.then_ret ?_
  refine QM.leaveCs (ds := ([])) (.inl rfl) [.cell 4 26, .tmp 5, .tmp 6] Tryd.results41 hd_nil (rc_w rfl Tryd.isAgg26 Tryd.sizeOf26 rfl (rc_tmp rfl (rc_tmp rfl rc_nil))) ?_
  intro w' hm' hc'
  have hpar : setO ws p = (default, 0, 5) := (by unfold setO; rw [if_pos om]); rw [hpar]; exact ⟨hc', [], StT.none, Mem.nil _, fun p hp => by cases hp⟩
 refine LM.sp 19 rfl rfl rfl <| LM.mv rfl <| LM.sp 19 rfl rfl rfl <| LM.mv rfl <| LM.sp 19 rfl rfl rfl <| LM.val (ov_len Tryd.underlying85 rfl) <| LM.sp 19 rfl rfl rfl <| LM.val (ov_gtr rfl rfl) <| LM.val (ov_pickF rfl rfl) <| nA [(0, _), (1, _), (4, _), (24, _)] ?_
 refine wpM.condD rfl (fun h2 => ?_) (fun h2 => ?_)
 ·
  refine wR ?_
  refine LM.val (ov_build (cs := #[_, _, _, _, _]) rfl (by first | rfl | kernel_rfl)) ?_
  refine LM.stW Tryd.sizeOf26 rfl rfl rfl rfl au7 au8 ?_
  refine LM.as rfl <| LM.as rfl <| nA [(4, _), (5, _), (6, _)] <| wpM.ret <| QM.then_ret ?_
  refine QM.leaveCs (ds := ([])) (.inl rfl) [.cell 4 26, .tmp 5, .tmp 6] Tryd.results41 hd_nil (rc_w rfl Tryd.isAgg26 Tryd.sizeOf26 rfl (rc_tmp rfl (rc_tmp rfl rc_nil))) ?_
  intro w' hm' hc'
  have hpar : setO ws p = (default, 0, 5) := (by unfold setO; rw [if_pos om]); rw [hpar]; exact ⟨hc', [], StT.none, Mem.nil _, fun p hp => by cases hp⟩
 obtain ⟨i0, rfl⟩ : ∃ i0 : Nat, p = (i0 : Nat) := ⟨p.toNat, by omega⟩; have hi0 : i0 ≤ ws.length := om
 refine wpM.skip <| tR <| LM.mv rfl <| LM.mv rfl ?_
 refine LM.val (ov_build (cs := #[_, _, _]) rfl (by first | rfl | kernel_rfl)) ?_
 refine LM.box rfl rfl (fun b29 hb29 => ?_)
 refine LM.as rfl <| nB [(0, _), (4, _), (7, _)] ?_
 have hab29 : 0 < ws.length → adB ad ≠ b29 := (fun h0 => by have := hl.adlt h0; omega)
 refine LM.val (ov_build (cs := #[_, _, _, _, _]) rfl (by first | rfl | kernel_rfl)) ?_
 refine LM.alloc Tryd.zeroValue26 rfl (fun b8 hb8 => ?_)
 refine LM.stW Tryd.sizeOf26 rfl rfl rfl rfl au7 au8 ?_
 refine nB [(0, _), (4, _), (7, _), (8, _)] <| LM.mv rfl ?_
 refine LM.cW (oc_call (enters_fn Tryd.func59 kr rfl) rfl) (fun w hm hc hg => qfield_spec b29 i0 0 4 wCores w hn hx (hl.ext hc) hab29 (SubM.mem au1 w hm)) rfl au8 ?_
 refine LM.val (ovf 3 rfl rfl rfl rfl) ?_
 refine LM.st Tryd.sizeOf3 rfl rfl rfl au5 rfl au8 ?_
 refine nB [(0, _), (4, _), (7, _), (8, _)] <| LM.mv rfl ?_
 refine LM.cW (oc_call (enters_fn Tryd.func60 kr rfl) rfl) (fun w hm hc hg => qneed_spec b29 (fldE ws i0 0 wCores 4).1 (fldE ws i0 0 wCores 4).2.1 3 [59] w hn hx (hl.ext hc) hab29 (SubM.mem au1 w hm)) rfl au8 ?_
 refine nB [(0, _), (4, _), (7, _), (8, _)] <| LM.mv rfl ?_
 refine LM.cW (oc_call (enters_fn Tryd.func59 kr rfl) rfl) (fun w hm hc hg => qfield_spec b29 (sA ws i0).1 (sA ws i0).2.1 8 wGrain w hn hx (hl.ext hc) hab29 (SubM.mem au1 w hm)) rfl au8 ?_
 refine LM.val (ovf 3 rfl rfl rfl rfl) ?_
 refine LM.st Tryd.sizeOf3 rfl rfl rfl au5 rfl au8 ?_
 refine nB [(0, _), (4, _), (7, _), (8, _)] <| LM.mv rfl ?_
 refine LM.cW (oc_call (enters_fn Tryd.func60 kr rfl) rfl) (fun w hm hc hg => qneed_spec b29 (fldE ws (sA ws i0).1 (sA ws i0).2.1 wGrain 8).1 (fldE ws (sA ws i0).1 (sA ws i0).2.1 wGrain 8).2.1 3 [59] w hn hx (hl.ext hc) hab29 (SubM.mem au1 w hm)) rfl au8 ?_
 refine nA [(0, _), (4, _), (7, _), (8, _)] <| wpM.seq ?_
 refine wpM.joinK (α := Nat × Int × List Int × Option Addr × Nat × Nat × Mem0) (fun ⟨i1, e1, gs, adg, ng, cg, mg⟩ => []) [(0, _), (4, _), (7, _), (8, _)] (fun ⟨i1, e1, gs, adg, ng, cg, mg⟩ => mg ++ qB b29 ad n cap i1 e1 :: (b8, sO (sA ws i0).2.2 (sB2 ws i0).2.2 adg ng cg none 0 0 none 0 0) :: (b4, z0) :: []) (fun ⟨i1, e1, gs, adg, ng, cg, mg⟩ => gpM ws (sB2 ws i0).1 (sB2 ws i0).2.1 [] = (gs, i1, e1) ∧ i1 ≤ ws.length ∧ gs.length ≤ 4 ∧ ng = gs.length ∧ Sl fI 3 1 w.heap.size gs (.slice adg ng cg) mg) ⟨rfl, rfl, rfl, rfl, trivial⟩ ?_ ?_
 ·
  refine wpM.block ?_
  refine wpM.loopK0 (α := Nat × Int × List Int × Option Addr × Nat × Nat × Mem0) (fun ⟨i, e, gs, adg, ng, cg, mg⟩ => []) [(0, _), (4, _), (7, _), (8, _)] (fun ⟨i, e, gs, adg, ng, cg, mg⟩ => mg ++ qB b29 ad n cap i e :: (b8, sO (sA ws i0).2.2 (sB2 ws i0).2.2 adg ng cg none 0 0 none 0 0) :: (b4, z0) :: []) (fun ⟨i, e, gs, adg, ng, cg, mg⟩ => gpM ws i e gs = gpM ws (sB2 ws i0).1 (sB2 ws i0).2.1 [] ∧ i ≤ ws.length ∧ gs.length ≤ 4 ∧ ng = gs.length ∧ Sl fI 3 1 w.heap.size gs (.slice adg ng cg) mg) (fun ⟨i, e, gs, adg, ng, cg, mg⟩ => 5 - gs.length) (((sB2 ws i0).1, (sB2 ws i0).2.1, [], none, 0, 0, [])) ⟨rfl, rfl, rfl, rfl, trivial⟩ au1 ⟨rfl, lin_le (lin_le om), by decide, rfl, .nil _ _ _ _⟩ ?_
  rintro ⟨i, e, gs, adg, ng, cg, mg⟩ ⟨hG, hi, hg4, hng, hsg⟩
  change wpM _ _ _ _ _ _ _ (mg ++ qB b29 ad n cap i e :: (b8, sO (sA ws i0).2.2 (sB2 ws i0).2.2 adg ng cg none 0 0 none 0 0) :: (b4, z0) :: []) _ _ _
  refine wpM.seq <| wpM.seq ?_
  refine wpM.joinK (α := Bool) (fun q => [(55, .bool q)]) [(0, _), (4, _), (7, _), (8, _)] (fun q => mg ++ qB b29 ad n cap i e :: (b8, sO (sA ws i0).2.2 (sB2 ws i0).2.2 adg ng cg none 0 0 none 0 0) :: (b4, z0) :: []) (fun q => q = (isE ws i e 1 wGroup || (decide ((ng : Int) = 0) && decide (e = 0)))) ⟨rfl, rfl, rfl, rfl, trivial⟩ ?_ ?_
  ·
   refine wpM.region ?_
   refine LM.mv rfl ?_
   refine cE Tryd.func61 rfl (fun w hm hc hg => qis_spec b29 i e 1 wGroup w hn (hl.ext hc) (SubM.mem au1 w hm)) ?_
   refine LM.mv rfl ?_
   refine LM.splitB (t := 43) rfl (fun h3 => ?_) (fun h3 => ?_)
   ·
    refine LM.dr 43 rfl rfl rfl <| LM.dr 43 rfl rfl rfl <| LM.dr 43 rfl rfl rfl <| LM.dr 43 rfl rfl rfl ?_
    refine LM.dropU (t := 43) rfl rfl rfl ?_
    refine LM.dropX (t := 48) rfl rfl ?_
    refine LM.dropX (t := 48) rfl rfl ?_
    refine LM.dropX (t := 48) rfl rfl ?_
    refine LM.dropX (t := 48) rfl rfl ?_
    refine LM.dropX (t := 48) rfl rfl ?_
    refine LM.dr 43 rfl rfl rfl <| LM.val (ov_pickT rfl rfl) <| nC [(0, _), (4, _), (7, _), (8, _), (55, _)] ?_
    refine QM.meetK (_) ⟨au2, rfl, rfl, rfl, rfl, trivial⟩ au1 ?_
    · (simp [h1, h2, h3]; done)
   refine LM.sp 43 rfl rfl rfl <| LM.val (ovf 22 rfl rfl rfl rfl) <| LM.sp 43 rfl rfl rfl ?_
   refine LM.rd (oml rfl rfl rfl) ?_
   refine LM.sp 43 rfl rfl rfl <| LM.val (ov_len Tryd.underlying22 rfl) <| LM.sp 43 rfl rfl rfl <| LM.val (ov_eql rfl rfl) <| LM.sp 43 rfl rfl rfl <| LM.mv rfl ?_
   refine LM.splitD (t := 48) rfl (fun h4 => ?_) (fun h4 => ?_)
   ·
    refine LM.sp 48 rfl rfl rfl <| LM.mv rfl <| LM.sp 48 rfl rfl rfl <| LM.nc rfl <| LM.sp 48 rfl rfl rfl <| LM.val (ovf 3 rfl rfl rfl rfl) <| LM.sp 48 rfl rfl rfl ?_
    refine LM.rd (oml rfl rfl rfl) ?_
    refine LM.sp 48 rfl rfl rfl <| LM.val (ov_eql rfl rfl) <| LM.sp 43 rfl rfl rfl <| LM.val (ov_pickT rfl rfl) <| LM.val (ov_pickF rfl rfl) <| nC [(0, _), (4, _), (7, _), (8, _), (55, _)] ?_
    refine QM.meetK (_) ⟨au2, rfl, rfl, rfl, rfl, trivial⟩ au1 ?_
    · (simp [h1, h2, h3, h4]; done)
   refine LM.dr 48 rfl rfl rfl <| LM.dr 48 rfl rfl rfl <| LM.dr 48 rfl rfl rfl <| LM.dr 48 rfl rfl rfl <| LM.dr 48 rfl rfl rfl <| LM.sp 43 rfl rfl rfl <| LM.val (ov_pickF rfl rfl) <| LM.val (ov_pickF rfl rfl) <| nC [(0, _), (4, _), (7, _), (8, _), (55, _)] ?_
   refine QM.meetK (_) ⟨au2, rfl, rfl, rfl, rfl, trivial⟩ au1 ?_
   · (have h0 := decide_eq_false (show ¬ ((ng : Nat) : Int) = 0 by omega); simp only [h0, h1, h2, h3, h4, Bool.false_and, Bool.or_false]; rfl)
  rintro q hq
  change QM _ _ _ _ _ (mg ++ qB b29 ad n cap i e :: (b8, sO (sA ws i0).2.2 (sB2 ws i0).2.2 adg ng cg none 0 0 none 0 0) :: (b4, z0) :: []) _ _ _
  refine QM.then ?_
  refine wpM.condB rfl (fun h5 => ?_) (fun h5 => ?_)
  ·
   have hQ : (isE ws i e 1 wGroup || (decide (gs.length = 0) && decide (e = 0))) = true := (by rw [← h5, hq, hng, cond0])
   refine wpM.skip <| QM.then <| wpM.block <| wpM.seq <| wR <| LM.mv rfl ?_
   refine cE Tryd.func61 rfl (fun w hm hc hg => qis_spec b29 i e 1 wGroup w hn (hl.ext hc) (SubM.mem au1 w hm)) ?_
   refine LM.mv rfl ?_
   refine LM.splitB (t := 58) rfl (fun h6 => ?_) (fun h6 => ?_)
   ·
    refine LM.sp 58 rfl rfl rfl <| LM.mv rfl <| LM.sp 58 rfl rfl rfl <| LM.val (ovf 22 rfl rfl rfl rfl) <| LM.sp 58 rfl rfl rfl ?_
    refine LM.rd (oml rfl rfl rfl) ?_
    refine LM.sp 58 rfl rfl rfl <| LM.val (ov_len Tryd.underlying22 rfl) <| LM.sp 58 rfl rfl rfl ?_
    refine LM.cW (oc_call (enters_fn Tryd.func62 kr rfl) rfl) (fun w hm hc hg => qlong_spec (ws := ws) b29 i e (ng : Nat) 4 w (SubM.mem au1 w hm)) rfl au8 ?_
    refine LM.val (ov_pickT rfl rfl) <| nA [(0, _), (4, _), (7, _), (8, _), (64, _)] ?_
    refine wpM.condB rfl (fun h7 => ?_) (fun h7 => ?_)
    ·
     have he0 := (isE_lt h6).2; have h4 : (4 : Int) ≤ (ng : Nat) := (by simpa [he0] using h7); rw [if_pos ⟨he0, h4⟩]
     refine wpM.exit <| QM.then_exit <| QM.block_miss rfl <| QM.then_exit <| QM.block_hit ?_
     refine QM.meetK ((i, 6, gs, adg, ng, cg, mg)) ⟨rfl, rfl, rfl, rfl, trivial⟩ au1 ?_
     · exact ⟨by rw [← hG]; exact gpM_full h6 om, hi, hg4, hng, hsg⟩
    have h4 : ¬ (4 : Int) ≤ (ng : Nat) := (fun q => by rw [decide_eq_true q] at h7; simp at h7); rw [if_neg (fun q => h4 q.2)]
    refine wpM.skip <| QM.then <| wpM.seq ?_
    refine wpM.keep ((b8, _) :: []) (fun _ => True) (.one 0 0 (.one 1 1 (.one 2 0 (.one 3 2 (.one 4 2 (.one 5 2 (.one 6 0 (.last 7)))))))) kr kr au1 (fun _ _ => trivial) ?_
    refine KD.val rfl rfl (ovf 22 rfl rfl rfl rfl) ?_
    refine KD.rd rfl rfl (oml rfl rfl rfl) ?_
    refine KD.val rfl rfl (ov_move rfl) <| KD.one rfl ?_
    refine LM.cW (oc_call (enters_fn Tryd.func59 kr rfl) rfl) (fun w hm hc hg => qfield_spec b29 i e 16 wGroup w hn hx (hl.ext hc) hab29 (SubM.mem au1 w hm)) rfl au8 ?_
    refine LM.nil ?_
    refine kq1 ?_
    refine KD.one rfl ?_
    refine LM.single Tryd.underlying22 Tryd.sizeOf3 Tryd.zeroValue3 rfl rfl rfl rfl rfl (fun b69 hb69 => ?_)
    refine LM.nil ?_
    refine kq1 ?_
    refine KD.one rfl ?_
    refine LM.app (a := (fldE ws i e wGroup 16).2.2) Tryd.underlying22 Tryd.typeInfo3 rfl rfl rfl rfl rfl rfl rfl asm (by rfl) ir (by intro _ u hu; simp [fI] at hu; (repeat (first | (rcases hu with rfl | hu) | subst hu | rfl))) (by first | exact Nat.le_refl _ | omega) au10 (by first | omega | (unfold maxLen; omega)) (by simp only [Tryd.t3]; omega) (fun ad70 n70 cap70 m70 hn70 hs70 hin70 => ?_)
    refine LM.nil ?_
    refine kq1 ?_
    refine KD.val rfl rfl (ovf 22 rfl rfl rfl rfl) ?_
    refine KD.last rfl ?_
    refine LM.st Tryd.sizeOf22 rfl rfl rfl au5 rfl au8 ?_
    refine LM.nil ?_
    refine QM.qn ?_
    refine QM.sub (e' := [(0, _), (4, _), (7, _), (8, _)]) au9 (QM.then (wpM.region ?_))
    refine LM.mv rfl ?_
    refine LM.cW (oc_call (enters_fn Tryd.func60 kr rfl) rfl) (fun w hm hc hg => qneed_spec b29 (fldE ws i e wGroup 16).1 (fldE ws i e wGroup 16).2.1 3 [59] w hn hx (hl.ext hc) hab29 (SubM.mem au1 w hm)) rfl au8 ?_
    refine nC [(0, _), (4, _), (7, _), (8, _)] <| QM.block_normal ?_
    refine QM.againK (((linE ws i e wGroup 16).1, (linE ws i e wGroup 16).2.1, gs ++ [(linE ws i e wGroup 16).2.2], ad70, n70, cap70, m70)) ⟨rfl, rfl, rfl, rfl, trivial⟩ au1 (fun _ h => h) ?_ ?_
    · exact ⟨by rw [← gpM_next hQ om]; exact hG, lin_le hi, by simp; omega, by rw [hn70]; simp, hs70⟩
    · dsimp only; rw [List.length_append, List.length_singleton]; omega
   have hg0 : gs.length = 0 := (by have h := hQ; simp only [h6, Bool.false_or, Bool.and_eq_true, decide_eq_true_eq] at h; exact h.1)
   refine LM.dr 58 rfl rfl rfl <| LM.dr 58 rfl rfl rfl <| LM.dr 58 rfl rfl rfl <| LM.dr 58 rfl rfl rfl <| LM.dr 58 rfl rfl rfl <| LM.val (ov_pickF rfl rfl) <| nA [(0, _), (4, _), (7, _), (8, _), (64, _)] ?_
   refine wpM.condF rfl ?_
   refine wpM.skip <| QM.then <| wpM.seq ?_
   refine wpM.keep ((b8, _) :: []) (fun _ => True) (.one 0 0 (.one 1 1 (.one 2 0 (.one 3 2 (.one 4 2 (.one 5 2 (.one 6 0 (.last 7)))))))) kr kr au1 (fun _ _ => trivial) ?_
   refine KD.val rfl rfl (ovf 22 rfl rfl rfl rfl) ?_
   refine KD.rd rfl rfl (oml rfl rfl rfl) ?_
   refine KD.val rfl rfl (ov_move rfl) <| KD.one rfl ?_
   refine LM.cW (oc_call (enters_fn Tryd.func59 kr rfl) rfl) (fun w hm hc hg => qfield_spec b29 i e 16 wGroup w hn hx (hl.ext hc) hab29 (SubM.mem au1 w hm)) rfl au8 ?_
   refine LM.nil ?_
   refine kq1 ?_
   refine KD.one rfl ?_
   refine LM.single Tryd.underlying22 Tryd.sizeOf3 Tryd.zeroValue3 rfl rfl rfl rfl rfl (fun b69 hb69 => ?_)
   refine LM.nil ?_
   refine kq1 ?_
   refine KD.one rfl ?_
   refine LM.app (a := (fldE ws i e wGroup 16).2.2) Tryd.underlying22 Tryd.typeInfo3 rfl rfl rfl rfl rfl rfl rfl asm (by rfl) ir (by intro _ u hu; simp [fI] at hu; (repeat (first | (rcases hu with rfl | hu) | subst hu | rfl))) (by first | exact Nat.le_refl _ | omega) au10 (by first | omega | (unfold maxLen; omega)) (by simp only [Tryd.t3]; omega) (fun ad70 n70 cap70 m70 hn70 hs70 hin70 => ?_)
   refine LM.nil ?_
   refine kq1 ?_
   refine KD.val rfl rfl (ovf 22 rfl rfl rfl rfl) ?_
   refine KD.last rfl ?_
   refine LM.st Tryd.sizeOf22 rfl rfl rfl au5 rfl au8 ?_
   refine LM.nil ?_
   refine QM.qn ?_
   refine QM.sub (e' := [(0, _), (4, _), (7, _), (8, _)]) au9 (QM.then (wpM.region ?_))
   refine LM.mv rfl ?_
   refine LM.cW (oc_call (enters_fn Tryd.func60 kr rfl) rfl) (fun w hm hc hg => qneed_spec b29 (fldE ws i e wGroup 16).1 (fldE ws i e wGroup 16).2.1 3 [59] w hn hx (hl.ext hc) hab29 (SubM.mem au1 w hm)) rfl au8 ?_
   refine nC [(0, _), (4, _), (7, _), (8, _)] <| QM.block_normal ?_
   refine QM.againK (((linE ws i e wGroup 16).1, (linE ws i e wGroup 16).2.1, gs ++ [(linE ws i e wGroup 16).2.2], ad70, n70, cap70, m70)) ⟨rfl, rfl, rfl, rfl, trivial⟩ au1 (fun _ h => h) ?_ ?_
   · exact ⟨by rw [← gpM_next hQ om]; exact hG, lin_le hi, by simp; omega, by rw [hn70]; simp, hs70⟩
   · dsimp only; rw [List.length_append, List.length_singleton]; omega
  refine wpM.exit <| QM.then_exit <| QM.then_exit <| QM.block_hit ?_
  refine QM.meetK ((i, e, gs, adg, ng, cg, mg)) ⟨rfl, rfl, rfl, rfl, trivial⟩ au1 ?_
  · exact ⟨by rw [← hG]; exact gpM_stop (by rw [← h5, hq, hng, cond0]), hi, hg4, hng, hsg⟩
 rintro ⟨i1, e1, gs, adg, ng, cg, mg⟩ ⟨hG, hi1, hg4, hng, hsg⟩
 change QM _ _ _ _ _ (mg ++ qB b29 ad n cap i1 e1 :: (b8, sO (sA ws i0).2.2 (sB2 ws i0).2.2 adg ng cg none 0 0 none 0 0) :: (b4, z0) :: []) _ _ _
 refine QM.then <| wpM.seq ?_
 refine wpM.joinK (α := Nat × Int × List CLk × Option Addr × Nat × Nat × Mem0) (fun ⟨i2, e2, ls, adl, nl, cl, ml⟩ => []) [(0, _), (4, _), (7, _), (8, _)] (fun ⟨i2, e2, ls, adl, nl, cl, ml⟩ => ml ++ (mg ++ (qB b29 ad n cap i2 e2 :: (b8, sO (sA ws i0).2.2 (sB2 ws i0).2.2 adg ng cg adl nl cl none 0 0) :: (b4, z0) :: []))) (fun ⟨i2, e2, ls, adl, nl, cl, ml⟩ => lkL ws i1 e1 [] = (ls, i2, e2) ∧ i2 ≤ ws.length ∧ ls.length ≤ 8 ∧ nl = ls.length ∧ Sl fL 53 5 w.heap.size ls (.slice adl nl cl) ml) ⟨rfl, rfl, rfl, rfl, trivial⟩ ?_ ?_
 ·
  refine wpM.block ?_
  refine wpM.loopK0 (α := Nat × Int × List CLk × Option Addr × Nat × Nat × Mem0) (fun ⟨i, e, ls, adl, nl, cl, ml⟩ => []) [(0, _), (4, _), (7, _), (8, _)] (fun ⟨i, e, ls, adl, nl, cl, ml⟩ => ml ++ (mg ++ (qB b29 ad n cap i e :: (b8, sO (sA ws i0).2.2 (sB2 ws i0).2.2 adg ng cg adl nl cl none 0 0) :: (b4, z0) :: []))) (fun ⟨i, e, ls, adl, nl, cl, ml⟩ => lkL ws i e ls = lkL ws i1 e1 [] ∧ i ≤ ws.length ∧ ls.length ≤ 8 ∧ nl = ls.length ∧ Sl fL 53 5 w.heap.size ls (.slice adl nl cl) ml) (fun ⟨i, e, ls, adl, nl, cl, ml⟩ => 9 - ls.length) ((i1, e1, [], none, 0, 0, [])) ⟨rfl, rfl, rfl, rfl, trivial⟩ au1 ⟨rfl, hi1, by decide, rfl, .nil _ _ _ _⟩ ?_
  rintro ⟨i, e, ls, adl, nl, cl, ml⟩ ⟨hL, hi, hl8, hnl, hsl⟩
  change wpM _ _ _ _ _ _ _ (ml ++ (mg ++ (qB b29 ad n cap i e :: (b8, sO (sA ws i0).2.2 (sB2 ws i0).2.2 adg ng cg adl nl cl none 0 0) :: (b4, z0) :: []))) _ _ _
  refine wpM.seq <| wpM.seq ?_
  refine wpM.joinK (α := Bool) (fun q => [(79, .bool q)]) [(0, _), (4, _), (7, _), (8, _)] (fun q => ml ++ (mg ++ (qB b29 ad n cap i e :: (b8, sO (sA ws i0).2.2 (sB2 ws i0).2.2 adg ng cg adl nl cl none 0 0) :: (b4, z0) :: []))) (fun q => q = isL ws i e) ⟨rfl, rfl, rfl, rfl, trivial⟩ ?_ ?_
  ·
   refine wpM.region ?_
   refine LM.mv rfl ?_
   refine cE Tryd.func61 rfl (fun w hm hc hg => qis_spec b29 i e 1 wLock w hn (hl.ext hc) (SubM.mem au1 w hm)) ?_
   refine LM.mv rfl ?_
   refine LM.splitB (t := 76) rfl (fun h8 => ?_) (fun h8 => ?_)
   ·
    refine LM.dr 76 rfl rfl rfl <| LM.dr 76 rfl rfl rfl <| LM.val (ov_pickT rfl rfl) <| nC [(0, _), (4, _), (7, _), (8, _), (79, _)] ?_
    refine QM.meetK (_) ⟨au2, rfl, rfl, rfl, rfl, trivial⟩ au1 ?_
    · simp [isL, h1, h2, h8]
   refine LM.sp 76 rfl rfl rfl <| LM.mv rfl <| LM.sp 76 rfl rfl rfl ?_
   refine cE Tryd.func61 rfl (fun w hm hc hg => qis_spec b29 i e 1 wShared w hn (hl.ext hc) (SubM.mem au1 w hm)) ?_
   refine LM.val (ov_pickF rfl rfl) <| nC [(0, _), (4, _), (7, _), (8, _), (79, _)] ?_
   refine QM.meetK (_) ⟨au2, rfl, rfl, rfl, rfl, trivial⟩ au1 ?_
   · simp [isL, h1, h2, h8]
  rintro q hq
  change QM _ _ _ _ _ (ml ++ (mg ++ (qB b29 ad n cap i e :: (b8, sO (sA ws i0).2.2 (sB2 ws i0).2.2 adg ng cg adl nl cl none 0 0) :: (b4, z0) :: []))) _ _ _
  refine QM.then ?_
  refine wpM.condB rfl (fun h9 => ?_) (fun h9 => ?_)
  ·
   have hQ : isL ws i e = true := (by rw [← hq, h9]); have he0 := (isL_lt hQ).2; have hlt := (isL_lt hQ).1
   refine wpM.skip <| QM.then <| wpM.block <| wpM.seq <| wR <| LM.mv rfl <| LM.val (ovf 23 rfl rfl rfl rfl) ?_
   refine LM.rd (oml rfl rfl rfl) ?_
   refine LM.val (ov_len Tryd.underlying23 rfl) ?_
   refine LM.cW (oc_call (enters_fn Tryd.func62 kr rfl) rfl) (fun w hm hc hg => qlong_spec (ws := ws) b29 i e (nl : Nat) 8 w (SubM.mem au1 w hm)) rfl au8 ?_
   refine nA [(0, _), (4, _), (7, _), (8, _), (84, _)] ?_
   refine wpM.condB rfl (fun h10 => ?_) (fun h10 => ?_)
   ·
    have h4 : (8 : Int) ≤ (nl : Nat) := (by simpa [he0] using h10); rw [if_pos ⟨he0, h4⟩]
    refine wpM.exit <| QM.then_exit <| QM.block_miss rfl <| QM.then_exit <| QM.block_hit ?_
    refine QM.meetK ((i, 6, ls, adl, nl, cl, ml)) ⟨rfl, rfl, rfl, rfl, trivial⟩ au1 ?_
    · exact ⟨by rw [← hL]; exact lkL_full hQ om, hi, hl8, hnl, hsl⟩
   have h4 : ¬ (8 : Int) ≤ (nl : Nat) := (fun q => by rw [decide_eq_true q] at h10; simp at h10); rw [if_neg (fun q => h4 q.2)]
   refine wpM.skip <| tR <| LM.mv rfl ?_
   refine cE Tryd.func61 rfl (fun w hm hc hg => qis_spec b29 i e 1 wShared w hn (hl.ext hc) (SubM.mem au1 w hm)) ?_
   refine LM.as rfl <| nB [(0, _), (4, _), (7, _), (8, _), (9, _)] <| LM.mv rfl <| LM.nc rfl <| LM.val (ovf 3 rfl rfl rfl rfl) ?_
   refine LM.rd (oml rfl rfl rfl) ?_
   refine LM.val (ov_add64 rfl rfl om) ?_
   refine LM.nc rfl <| LM.val (ovf 3 rfl rfl rfl rfl) ?_
   refine LM.st Tryd.sizeOf3 rfl rfl rfl au5 rfl au8 ?_
   refine nA [(0, _), (4, _), (7, _), (8, _), (9, _)] ?_
   refine wpM.keep ((b8, _) :: []) (fun _ => True) (.one 0 0 (.one 1 1 (.one 2 0 (.one 3 0 (.one 4 2 (.one 5 2 (.one 6 2 (.one 7 0 (.last 8))))))))) kr kr au1 (fun _ _ => trivial) ?_
   refine KD.val rfl rfl (ovf 23 rfl rfl rfl rfl) ?_
   refine KD.rd rfl rfl (oml rfl rfl rfl) ?_
   refine KD.val rfl rfl (ov_move rfl) <| KD.val rfl rfl (ov_move rfl) <| KD.one rfl ?_
   refine LM.cW (oc_call (enters_fn Tryd.func63 kr rfl) rfl) (fun w hm hc hg => qlock_spec (isE ws i e 1 wShared) b29 (i + 1) e w hn hx (hl.ext hc) hab29 (SubM.mem au1 w hm)) rfl au8 ?_
   refine LM.nil ?_
   refine kq1 ?_
   refine KD.one rfl ?_
   refine LM.single Tryd.underlying23 Tryd.sizeOf53 Tryd.zeroValue53 rfl rfl rfl rfl rfl (fun b99 hb99 => ?_)
   refine LM.nil ?_
   refine kq1 ?_
   refine KD.one rfl ?_
   refine LM.app (a := (lckE ws (isE ws i e 1 wShared) (i + 1) e).2.2) Tryd.underlying23 Tryd.typeInfo53 rfl rfl rfl rfl rfl rfl rfl asm (by rfl) ir (by intro _ u hu; simp [fL] at hu; (repeat (first | (rcases hu with rfl | hu) | subst hu | rfl))) (by first | exact Nat.le_refl _ | omega) au10 (by first | omega | (unfold maxLen; omega)) (by simp only [Tryd.t53]; omega) (fun ad100 n100 cap100 m100 hn100 hs100 hin100 => ?_)
   refine LM.nil ?_
   refine kq1 ?_
   refine KD.val rfl rfl (ovf 23 rfl rfl rfl rfl) ?_
   refine KD.last rfl ?_
   refine LM.st Tryd.sizeOf23 rfl rfl rfl au5 rfl au8 ?_
   refine LM.nil ?_
   refine QM.qn ?_
   refine QM.sub (e' := [(0, _), (4, _), (7, _), (8, _)]) au9 ?_
   refine QM.block_normal ?_
   refine QM.againK (((lckE ws (isE ws i e 1 wShared) (i + 1) e).1, (lckE ws (isE ws i e 1 wShared) (i + 1) e).2.1, ls ++ [(lckE ws (isE ws i e 1 wShared) (i + 1) e).2.2], ad100, n100, cap100, m100)) ⟨rfl, rfl, rfl, rfl, trivial⟩ au1 (fun _ h => h) ?_ ?_
   · exact ⟨by rw [← lkL_next hQ om]; exact hL, lck_le om, by simp; omega, by rw [hn100]; simp, hs100⟩
   · dsimp only; rw [List.length_append, List.length_singleton]; omega
  refine wpM.exit <| QM.then_exit <| QM.then_exit <| QM.block_hit ?_
  refine QM.meetK ((i, e, ls, adl, nl, cl, ml)) ⟨rfl, rfl, rfl, rfl, trivial⟩ au1 ?_
  · exact ⟨by rw [← hL]; exact lkL_stop (by rw [← hq, h9]), hi, hl8, hnl, hsl⟩
 rintro ⟨i2, e2, ls, adl, nl, cl, ml⟩ ⟨hL, hi2, hl8, hnl, hsl⟩
 change QM _ _ _ _ _ (ml ++ (mg ++ (qB b29 ad n cap i2 e2 :: (b8, sO (sA ws i0).2.2 (sB2 ws i0).2.2 adg ng cg adl nl cl none 0 0) :: (b4, z0) :: []))) _ _ _
 refine tR <| LM.as rfl <| nA [(0, _), (4, _), (7, _), (8, _), (10, _)] <| wpM.seq ?_
 refine wpM.joinK (α := Nat × Int × List PgV × Option Addr × Nat × Nat × Mem0 × List Int × Option Addr × Nat × Nat × Mem0 × Mem0) (fun ⟨i3, e3, ps, adp, np, cp, mp, pl, adq, nq, cq, mq, mo⟩ => [(10, .slice adq nq cq)]) [(4, _), (7, _), (8, _)] (fun ⟨i3, e3, ps, adp, np, cp, mp, pl, adq, nq, cq, mq, mo⟩ => mo ++ (mp ++ (mq ++ (ml ++ (mg ++ (qB b29 ad n cap i3 e3 :: (b8, sO (sA ws i0).2.2 (sB2 ws i0).2.2 adg ng cg adl nl cl adp np cp) :: (b4, z0) :: [])))))) (fun ⟨i3, e3, ps, adp, np, cp, mp, pl, adq, nq, cq, mq, mo⟩ => pgL ws i2 e2 [] [] = (ps.map PgV.c, pl, i3, e3) ∧ i3 ≤ ws.length ∧ ps.length ≤ 8 ∧ np = ps.length ∧ Sl fPg 37 2 w.heap.size ps (.slice adp np cp) mp ∧ pl.length = ps.length ∧ nq = pl.length ∧ Sl fI 3 1 w.heap.size pl (.slice adq nq cq) mq ∧ (∀ w, Mem w mo → PgsIn ps w) ∧ (∀ p ∈ mo, w.heap.size ≤ p.1)) ⟨rfl, rfl, rfl, trivial⟩ ?_ ?_
 ·
  refine wpM.block ?_
  refine wpM.loopK0 (α := Nat × Int × List PgV × Option Addr × Nat × Nat × Mem0 × List Int × Option Addr × Nat × Nat × Mem0 × Mem0) (fun ⟨i, e, ps, adp, np, cp, mp, pl, adq, nq, cq, mq, mo⟩ => [(10, .slice adq nq cq)]) [(0, _), (4, _), (7, _), (8, _)] (fun ⟨i, e, ps, adp, np, cp, mp, pl, adq, nq, cq, mq, mo⟩ => mo ++ (mp ++ (mq ++ (ml ++ (mg ++ (qB b29 ad n cap i e :: (b8, sO (sA ws i0).2.2 (sB2 ws i0).2.2 adg ng cg adl nl cl adp np cp) :: (b4, z0) :: [])))))) (fun ⟨i, e, ps, adp, np, cp, mp, pl, adq, nq, cq, mq, mo⟩ => pgL ws i e (ps.map PgV.c) pl = pgL ws i2 e2 [] [] ∧ i ≤ ws.length ∧ ps.length ≤ 8 ∧ np = ps.length ∧ Sl fPg 37 2 w.heap.size ps (.slice adp np cp) mp ∧ pl.length = ps.length ∧ nq = pl.length ∧ Sl fI 3 1 w.heap.size pl (.slice adq nq cq) mq ∧ (∀ w, Mem w mo → PgsIn ps w) ∧ (∀ p ∈ mo, w.heap.size ≤ p.1)) (fun ⟨i, e, ps, adp, np, cp, mp, pl, adq, nq, cq, mq, mo⟩ => 9 - ps.length) ((i2, e2, [], none, 0, 0, [], [], none, 0, 0, [], [])) ⟨au2, rfl, rfl, rfl, rfl, trivial⟩ au1 ⟨rfl, hi2, by decide, rfl, .nil _ _ _ _, rfl, rfl, .nil _ _ _ _, (fun w _ p hp => by cases hp), (fun p hp => by cases hp)⟩ ?_
  rintro ⟨i, e, ps, adp, np, cp, mp, pl, adq, nq, cq, mq, mo⟩ ⟨hP, hi, hp8, hnp, hsp, hplp, hnq, hsq, hop, hog⟩
  change wpM _ _ _ _ _ _ _ (mo ++ (mp ++ (mq ++ (ml ++ (mg ++ (qB b29 ad n cap i e :: (b8, sO (sA ws i0).2.2 (sB2 ws i0).2.2 adg ng cg adl nl cl adp np cp) :: (b4, z0) :: [])))))) _ _ _
  refine wpM.seq <| wpM.seq ?_
  refine wpM.joinK (α := Bool) (fun q => [(116, .bool q)]) [(0, _), (4, _), (7, _), (8, _), (10, _)] (fun q => mo ++ (mp ++ (mq ++ (ml ++ (mg ++ (qB b29 ad n cap i e :: (b8, sO (sA ws i0).2.2 (sB2 ws i0).2.2 adg ng cg adl nl cl adp np cp) :: (b4, z0) :: [])))))) (fun q => q = (isE ws i e 1 wProg || (decide ((np : Int) = 0) && decide (e = 0)))) ⟨rfl, rfl, rfl, rfl, rfl, trivial⟩ ?_ ?_
  ·
   refine wpM.region ?_
   refine LM.mv rfl ?_
   refine cE Tryd.func61 rfl (fun w hm hc hg => qis_spec b29 i e 1 wProg w hn (hl.ext hc) (SubM.mem au1 w hm)) ?_
   refine LM.mv rfl ?_
   refine LM.splitB (t := 104) rfl (fun h11 => ?_) (fun h11 => ?_)
   ·
    refine LM.dr 104 rfl rfl rfl <| LM.dr 104 rfl rfl rfl <| LM.dr 104 rfl rfl rfl <| LM.dr 104 rfl rfl rfl ?_
    refine LM.dropU (t := 104) rfl rfl rfl ?_
    refine LM.dropX (t := 109) rfl rfl ?_
    refine LM.dropX (t := 109) rfl rfl ?_
    refine LM.dropX (t := 109) rfl rfl ?_
    refine LM.dropX (t := 109) rfl rfl ?_
    refine LM.dropX (t := 109) rfl rfl ?_
    refine LM.dr 104 rfl rfl rfl <| LM.val (ov_pickT rfl rfl) <| nC [(0, _), (4, _), (7, _), (8, _), (10, _), (116, _)] ?_
    refine QM.meetK (_) ⟨au2, rfl, rfl, rfl, rfl, rfl, trivial⟩ au1 ?_
    · (simp [h1, h2, h11]; done)
   refine LM.sp 104 rfl rfl rfl <| LM.val (ovf 24 rfl rfl rfl rfl) <| LM.sp 104 rfl rfl rfl ?_
   refine LM.rd (oml rfl rfl rfl) ?_
   refine LM.sp 104 rfl rfl rfl <| LM.val (ov_len Tryd.underlying24 rfl) <| LM.sp 104 rfl rfl rfl <| LM.val (ov_eql rfl rfl) <| LM.sp 104 rfl rfl rfl <| LM.mv rfl ?_
   refine LM.splitD (t := 109) rfl (fun h12 => ?_) (fun h12 => ?_)
   ·
    refine LM.sp 109 rfl rfl rfl <| LM.mv rfl <| LM.sp 109 rfl rfl rfl <| LM.nc rfl <| LM.sp 109 rfl rfl rfl <| LM.val (ovf 3 rfl rfl rfl rfl) <| LM.sp 109 rfl rfl rfl ?_
    refine LM.rd (oml rfl rfl rfl) ?_
    refine LM.sp 109 rfl rfl rfl <| LM.val (ov_eql rfl rfl) <| LM.sp 104 rfl rfl rfl <| LM.val (ov_pickT rfl rfl) <| LM.val (ov_pickF rfl rfl) <| nC [(0, _), (4, _), (7, _), (8, _), (10, _), (116, _)] ?_
    refine QM.meetK (_) ⟨au2, rfl, rfl, rfl, rfl, rfl, trivial⟩ au1 ?_
    · (simp [h1, h2, h11, h12]; done)
   refine LM.dr 109 rfl rfl rfl <| LM.dr 109 rfl rfl rfl <| LM.dr 109 rfl rfl rfl <| LM.dr 109 rfl rfl rfl <| LM.dr 109 rfl rfl rfl <| LM.sp 104 rfl rfl rfl <| LM.val (ov_pickF rfl rfl) <| LM.val (ov_pickF rfl rfl) <| nC [(0, _), (4, _), (7, _), (8, _), (10, _), (116, _)] ?_
   refine QM.meetK (_) ⟨au2, rfl, rfl, rfl, rfl, rfl, trivial⟩ au1 ?_
   · (have h0 := decide_eq_false (show ¬ ((np : Nat) : Int) = 0 by omega); simp only [h0, h1, h2, h11, h12, Bool.false_and, Bool.or_false]; rfl)
  rintro q hq
  change QM _ _ _ _ _ (mo ++ (mp ++ (mq ++ (ml ++ (mg ++ (qB b29 ad n cap i e :: (b8, sO (sA ws i0).2.2 (sB2 ws i0).2.2 adg ng cg adl nl cl adp np cp) :: (b4, z0) :: [])))))) _ _ _
  refine QM.then ?_
  refine wpM.condB rfl (fun h13 => ?_) (fun h13 => ?_)
  ·
   have hQ : isP ws i e (ps.map PgV.c) = true := (by rw [isP_eq, List.length_map, ← h13, hq, hnp, cond0]); have he0 := isP_zero hQ
   refine wpM.skip <| QM.then <| wpM.block <| wpM.seq <| wR <| LM.mv rfl <| LM.val (ovf 24 rfl rfl rfl rfl) ?_
   refine LM.rd (oml rfl rfl rfl) ?_
   refine LM.val (ov_len Tryd.underlying24 rfl) ?_
   refine LM.cW (oc_call (enters_fn Tryd.func62 kr rfl) rfl) (fun w hm hc hg => qlong_spec (ws := ws) b29 i e (np : Nat) 8 w (SubM.mem au1 w hm)) rfl au8 ?_
   refine nA [(0, _), (4, _), (7, _), (8, _), (10, _), (121, _)] ?_
   refine wpM.condB rfl (fun h14 => ?_) (fun h14 => ?_)
   ·
    have h4 : (8 : Int) ≤ (np : Nat) := (by simpa [he0] using h14); rw [if_pos ⟨he0, h4⟩]
    refine wpM.exit <| QM.then_exit <| QM.block_miss rfl <| QM.then_exit <| QM.block_hit ?_
    refine QM.meetK ((i, 6, ps, adp, np, cp, mp, pl, adq, nq, cq, mq, mo)) ⟨au2, rfl, rfl, rfl, trivial⟩ au1 ?_
    · exact ⟨by rw [← hP]; exact pgL_full hQ (by simp; omega), hi, hp8, hnp, hsp, hplp, hnq, hsq, hop, hog⟩
   have h4 : ¬ (8 : Int) ≤ (np : Nat) := (fun q => by rw [decide_eq_true q] at h14; simp at h14); rw [if_neg (fun q => h4 q.2)]
   refine wpM.skip <| tR <| LM.mv rfl <| LM.mv rfl <| LM.nc rfl <| LM.val (ovf 3 rfl rfl rfl rfl) ?_
   refine LM.rd (oml rfl rfl rfl) ?_
   refine LM.single Tryd.underlying22 Tryd.sizeOf3 Tryd.zeroValue3 rfl rfl rfl rfl rfl (fun b127 hb127 => ?_)
   refine LM.app (a := (i : Int)) Tryd.underlying22 Tryd.typeInfo3 rfl rfl rfl rfl rfl rfl rfl asm (by rfl) ir (by intro _ u hu; simp [fI] at hu; (repeat (first | (rcases hu with rfl | hu) | subst hu | rfl))) (by first | exact Nat.le_refl _ | omega) au10 (by first | omega | (unfold maxLen; omega)) (by simp only [Tryd.t3]; omega) (fun ad128 n128 cap128 m128 hn128 hs128 hin128 => ?_)
   refine LM.as rfl <| nB [(0, _), (4, _), (7, _), (8, _), (10, _)] <| LM.mv rfl <| LM.mv rfl <| LM.nc rfl <| LM.val (ovf 3 rfl rfl rfl rfl) ?_
   refine LM.rd (oml rfl rfl rfl) ?_
   refine LM.callT (oc_call (enters_fn Tryd.func64 kr rfl) rfl) ParT.mono (fun w hm hc hg => rparse_spec (i : Nat) w hn hx (hl.ext hc)) ?_
   rintro u135 m135 ⟨ad135, n135, cap135, rfl, hn135, hs135⟩ hge135; have hpp := par_pos hi; obtain ⟨j9, hj9⟩ : ∃ j : Nat, (parseO ws (i : Int)).2.2.1 = (j : Int) := ⟨_, (Int.toNat_of_nonneg hpp.1).symm⟩; rw [hj9]
   refine LM.mv rfl <| LM.val (ov_extract rfl rfl) <| LM.val (ov_extract rfl rfl) <| LM.val (ov_extract rfl rfl) ?_
   refine LM.alloc Tryd.zeroValue37 rfl (fun b11 hb11 => ?_)
   refine LM.stW Tryd.sizeOf37 rfl rfl rfl rfl au7 au8 ?_
   refine LM.as rfl <| LM.as rfl <| nB [(0, _), (4, _), (7, _), (8, _), (10, _), (11, _), (12, _), (13, _)] <| LM.val (ovf 24 rfl rfl rfl rfl) ?_
   refine LM.rd (oml rfl rfl rfl) ?_
   refine LM.rd (om_ldW Tryd.isAgg37 Tryd.sizeOf37 rfl rfl) ?_
   refine LM.single Tryd.underlying24 Tryd.sizeOf37 Tryd.zeroValue37 rfl rfl rfl rfl rfl (fun b142 hb142 => ?_)
   refine LM.app (a := (⟨prC (parseO ws (i : Int)), ad135, n135, cap135⟩ : PgV)) Tryd.underlying24 Tryd.typeInfo37 rfl rfl rfl rfl rfl rfl rfl asm (by rfl) ir (by intro _ u hu; simp [fPg] at hu; (repeat (first | (rcases hu with rfl | hu) | subst hu | rfl))) (by first | exact Nat.le_refl _ | omega) au10 (by first | omega | (unfold maxLen; omega)) (by simp only [Tryd.t37]; omega) (fun ad143 n143 cap143 m143 hn143 hs143 hin143 => ?_)
   refine LM.val (ovf 24 rfl rfl rfl rfl) ?_
   refine LM.st Tryd.sizeOf24 rfl rfl rfl au5 rfl au8 ?_
   refine nB [(0, _), (4, _), (7, _), (8, _), (10, _), (12, _), (13, _)] <| LM.mv rfl <| LM.mv rfl <| LM.nc rfl <| LM.val (ovf 3 rfl rfl rfl rfl) ?_
   refine LM.st Tryd.sizeOf3 rfl rfl rfl au5 rfl au8 ?_
   refine LM.nil (QM.sub (e' := [(0, _), (4, _), (7, _), (8, _), (10, _), (13, _)]) au9 (QM.then (wpM.region ?_)))
   refine LM.mv rfl <| LM.mv rfl <| LM.nc rfl <| LM.val (ovf 3 rfl rfl rfl rfl) ?_
   refine LM.st Tryd.sizeOf3 rfl rfl rfl au5 rfl au8 ?_
   refine nC [(0, _), (4, _), (7, _), (8, _), (10, _)] <| QM.block_normal ?_
   refine QM.againK ((j9, (parseO ws (i : Int)).2.2.2, ps ++ [(⟨prC (parseO ws (i : Int)), ad135, n135, cap135⟩ : PgV)], ad143, n143, cap143, m143, pl ++ [(i : Int)], ad128, n128, cap128, m128, m135 ++ mo)) ⟨au2, rfl, rfl, rfl, rfl, trivial⟩ au1 (fun _ h => h) ?_ ?_
   · exact ⟨by rw [snoc_map, ← hP, pgL_next hQ (by simp; omega), hj9, Int.toNat_natCast], by have := hpp.2; rw [hj9, Int.toNat_natCast] at this; exact this, by simp; omega, by rw [hn143]; simp, hs143, by simp [hplp], by rw [hn128]; simp, hs128, (fun w hm => snoc_in (hop w (hm.sub (List.sublist_append_right _ _))) ⟨hn135, sr_of_sl hs135 (fun _ => rfl) (hm.sub (List.sublist_append_left _ _))⟩), List.forall_mem_append.2 ⟨hge135, hog⟩⟩
   · dsimp only; rw [List.length_append, List.length_singleton]; omega
  refine wpM.exit <| QM.then_exit <| QM.then_exit <| QM.block_hit ?_
  refine QM.meetK ((i, e, ps, adp, np, cp, mp, pl, adq, nq, cq, mq, mo)) ⟨au2, rfl, rfl, rfl, trivial⟩ au1 ?_
  · exact ⟨by rw [← hP]; exact pgL_stop (by rw [isP_eq, List.length_map, ← h13, hq, hnp, cond0]), hi, hp8, hnp, hsp, hplp, hnq, hsq, hop, hog⟩
 rintro ⟨i3, e3, ps, adp, np, cp, mp, pl, adq, nq, cq, mq, mo⟩ ⟨hP, hi3, hp8, hnp, hsp, hplp, hnq, hsq, hop, hog⟩
 change QM _ _ _ _ _ (mo ++ (mp ++ (mq ++ (ml ++ (mg ++ (qB b29 ad n cap i3 e3 :: (b8, sO (sA ws i0).2.2 (sB2 ws i0).2.2 adg ng cg adl nl cl adp np cp) :: (b4, z0) :: [])))))) _ _ _
 refine QM.then <| wpM.seq <| wR <| LM.mv rfl <| LM.nc rfl <| LM.val (ovf 3 rfl rfl rfl rfl) ?_
 refine LM.rd (oml rfl rfl rfl) ?_
 refine LM.val (ov_neq rfl rfl) <| nA [(4, _), (7, _), (8, _), (10, _), (157, _)] ?_
 refine wpM.condD rfl (fun h15 => ?_) (fun h15 => ?_)
 ·
  have hI : SetI ws i0 gs i1 e1 ls i2 e2 (ps.map PgV.c) pl i3 e3 := ⟨⟨(gpM_sG hG).1, fun q => by rw [(gpM_sG hG).2 q]⟩, hL, hP⟩
  refine wpM.seq ?_
  refine wpM.keep ((b29, _) :: []) (fun _ => True) (.one 0 0 (.one 1 0 (.one 2 0 (.one 3 0 (.one 4 1 (.one 5 0 (.one 6 0 (.one 7 0 (.one 8 1 (.one 9 2 (.one 10 0 (.one 11 0 .nil)))))))))))) kr kr au1 (fun _ _ => trivial) ?_
  refine KD.val rfl rfl (ov_build (cs := #[_, _, _, _, _]) rfl (by first | rfl | kernel_rfl)) ?_
  refine KD.val rfl rfl (ov_move rfl) <| KD.val rfl rfl (ov_nilCheck rfl) <| KD.val rfl rfl (ovf 3 rfl rfl rfl rfl) ?_
  refine KD.rd rfl rfl (oml rfl rfl rfl) ?_
  refine KD.val rfl rfl (ov_move rfl) <| KD.val rfl rfl (ov_nilCheck rfl) <| KD.val rfl rfl (ovf 3 rfl rfl rfl rfl) ?_
  refine KD.rd rfl rfl (oml rfl rfl rfl) ?_
  refine KD.one rfl ?_
  refine LM.stW Tryd.sizeOf26 rfl rfl rfl rfl au7 au8 ?_
  refine LM.nil ?_
  refine kq1 ?_
  refine KD.val rfl rfl (ov_assign rfl) <| KD.val rfl rfl (ov_assign rfl) <| KD.nil ?_
  refine QM.sub (e' := [(4, _), (5, _), (6, _)]) au9 (QM.then ?_)
  refine wpM.ret <| QM.then_ret ?_
  refine QM.leaveCs (ds := ([])) (.inl rfl) [.cell 4 26, .tmp 5, .tmp 6] Tryd.results41 hd_nil (rc_w rfl Tryd.isAgg26 Tryd.sizeOf26 rfl (rc_tmp rfl (rc_tmp rfl rc_nil))) ?_
  intro w' hm' hc'
  rw [set_nat hi0, hI.bad h15]; exact ⟨hc', [], StT.none, Mem.nil _, fun p hp => by cases hp⟩
 have he3 : e3 = 0 := Classical.not_not.1 h15; have hI : SetI ws i0 gs i1 e1 ls i2 e2 (ps.map PgV.c) pl i3 e3 := ⟨⟨(gpM_sG hG).1, fun q => by rw [(gpM_sG hG).2 q]⟩, hL, hP⟩
 refine wpM.skip <| QM.then <| wpM.seq <| wR <| LM.as rfl <| nA [(4, _), (7, _), (8, _), (10, _), (14, _)] <| wpM.block ?_
 refine wpM.loopK0 (α := Nat) (fun j => [(14, .int .i64 (j : Nat))]) [(4, _), (7, _), (8, _), (10, _)] (fun j => mo ++ (mp ++ (mq ++ (ml ++ (mg ++ (qB b29 ad n cap i3 e3 :: (b8, sO (sA ws i0).2.2 (sB2 ws i0).2.2 adg ng cg adl nl cl adp np cp) :: (b4, z0) :: [])))))) (fun j => j ≤ ps.length ∧ ((ps.map PgV.c).take j).any (misB ls ps.length) = false) (fun j => ps.length - j) (0) ⟨au2, rfl, rfl, rfl, rfl, trivial⟩ au1 ⟨Nat.zero_le _, rfl⟩ ?_
 rintro j ⟨hj, hmis⟩
 change wpM _ _ _ _ _ _ _ (mo ++ (mp ++ (mq ++ (ml ++ (mg ++ (qB b29 ad n cap i3 e3 :: (b8, sO (sA ws i0).2.2 (sB2 ws i0).2.2 adg ng cg adl nl cl adp np cp) :: (b4, z0) :: [])))))) _ _ _
 refine wpM.seq <| wR <| LM.mv rfl <| LM.val (ovf 24 rfl rfl rfl rfl) ?_
 refine LM.rd (oml rfl rfl rfl) ?_
 refine LM.val (ov_len Tryd.underlying24 rfl) <| LM.val (ov_lss rfl rfl) <| nA [(4, _), (7, _), (8, _), (10, _), (14, _), (171, _)] ?_
 refine wpM.condD rfl (fun h16 => ?_) (fun h16 => ?_)
 ·
  have hjl : j < ps.length := om; have hpm : ps.getD j default ∈ ps := List.mem_of_getElem? (getq default hjl)
  refine wpM.skip <| QM.then <| wpM.seq <| wpM.block <| wpM.seq ?_
  refine wpM.draw [(0, 0), (1, 1), (2, 0), (3, 0), (4, 1), (5, 0), (6, 1), (7, 0), (8, 1), (9, 0), (10, 2), (11, 0), (12, 0), (13, 0), (14, 0), (15, 0)] kr kr ?_
  refine LD.val rfl rfl (ovf 24 rfl rfl rfl rfl) ?_
  refine LD.rd rfl rfl (oml rfl rfl rfl) ?_
  refine LD.val rfl rfl (ov_move rfl) ?_
  refine LD.val rfl rfl (ov_idxSN au6 Tryd.underlying24 Tryd.sizeOf37 rfl rfl om) ?_
  refine LD.rd rfl rfl (om_slA asm ir Tryd.isAgg37 Tryd.sizeOf37 rfl au3) ?_
  refine LD.val rfl rfl (ovf 23 rfl rfl rfl rfl) ?_
  refine LD.rd rfl rfl (oml rfl rfl rfl) ?_
  refine LD.val rfl rfl (ovf 24 rfl rfl rfl rfl) ?_
  refine LD.rd rfl rfl (oml rfl rfl rfl) ?_
  refine LD.val rfl rfl (ov_len Tryd.underlying24 rfl) ?_
  refine dE rfl rfl Tryd.func22 rfl (fun w hm hc hg => rcheck_spec (np : Nat) w (hop w (hm.pick mo) _ hpm).1 (hop w (hm.pick mo) _ hpm).2 hnl (hsl.srM ir hm)) ?_
  refine LD.val rfl rfl (ov_move rfl) ?_
  refine LD.val rfl rfl (ov_extract rfl rfl) ?_
  refine LD.val rfl rfl (ov_extract rfl rfl) ?_
  refine LD.val rfl rfl (ov_assign rfl) <| LD.val rfl rfl (ov_assign rfl) <| LD.nil ?_
  refine QM.sub (e' := [(4, _), (7, _), (8, _), (10, _), (14, _), (16, _)]) au9 (QM.then (wpM.seq (wpM.region ?_)))
  refine LM.mv rfl <| LM.val (ov_neq rfl rfl) <| nA [(4, _), (7, _), (8, _), (10, _), (14, _), (16, _), (189, _)] ?_
  refine wpM.condD rfl (fun h17 => ?_) (fun h17 => ?_)
  ·
   refine wpM.seq ?_
   refine wpM.keep (mq ++ []) (fun _ => True) (.one 0 0 (.one 1 0 (.one 2 0 (.one 3 0 (.one 4 1 (.one 5 0 (.one 6 2 (.one 7 0 (.one 8 0 .nil))))))))) kr kr au1 (fun _ _ => trivial) ?_
   refine KD.val rfl rfl (ov_build (cs := #[_, _, _, _, _]) rfl (by first | rfl | kernel_rfl)) ?_
   refine KD.val rfl rfl (ov_move rfl) <| KD.val rfl rfl (ov_move rfl) ?_
   refine KD.val rfl rfl (ov_idxSN au6 Tryd.underlying22 Tryd.sizeOf3 rfl rfl om) ?_
   refine KD.rd rfl rfl (om_sl1 asm ir Tryd.isAgg3 rfl rfl (by exact getq 0 au4) (by rfl)) ?_
   refine KD.val rfl rfl (ov_move rfl) <| KD.one rfl ?_
   refine LM.stW Tryd.sizeOf26 rfl rfl rfl rfl au7 au8 ?_
   refine LM.nil ?_
   refine kq1 ?_
   refine KD.val rfl rfl (ov_assign rfl) <| KD.val rfl rfl (ov_assign rfl) <| KD.nil ?_
   refine QM.sub (e' := [(4, _), (5, _), (6, _)]) au9 (QM.then ?_)
   refine wpM.ret <| QM.block_ret <| QM.then_ret <| QM.then_ret <| QM.block_ret <| QM.then_ret ?_
   refine QM.leaveCs (ds := ([])) (.inl rfl) [.cell 4 26, .tmp 5, .tmp 6] Tryd.results41 hd_nil (rc_w rfl Tryd.isAgg26 Tryd.sizeOf26 rfl (rc_tmp rfl (rc_tmp rfl rc_nil))) ?_
   intro w' hm' hc'
   rw [set_nat hi0, hI.mis he3 (j := j) (by simpa using hjl) (by rw [List.length_map]; exact hmis) (by rw [map_getD, List.length_map]; unfold misB; rw [← hnp]; simpa using h17), map_getD, List.length_map, ← hnp]; exact ⟨hc', [], StT.none, Mem.nil _, fun p hp => by cases hp⟩
  refine wpM.skip <| QM.block_normal ?_
  refine QM.then (wpM.region ?_)
  refine LM.mv rfl ?_
  refine LM.val (ov_add64 rfl rfl om) ?_
  refine LM.as rfl <| nC [(4, _), (7, _), (8, _), (10, _), (14, _)] ?_
  refine QM.againK (j + 1) ⟨au2, rfl, rfl, rfl, rfl, trivial⟩ au1 (fun _ h => h) ?_ ?_
  · exact ⟨by omega, by rw [any_snoc default (by simp; omega), hmis, Bool.false_or, map_getD]; unfold misB; rw [← hnp]; simpa using h17⟩
  · omega
 refine wpM.exit <| QM.then_exit <| QM.then_exit <| QM.block_hit <| QM.then <| wpM.seq ?_
 refine wpM.keep ((b29, _) :: (b8, _) :: []) (fun _ => True) (.one 0 1 (.one 1 0 (.one 2 0 (.one 3 0 (.one 4 1 (.one 5 2 (.one 6 0 (.one 7 0 .nil)))))))) kr kr au1 (fun _ _ => trivial) ?_
 refine KD.rd rfl rfl (om_ldW Tryd.isAgg26 Tryd.sizeOf26 rfl rfl) ?_
 refine KD.val rfl rfl (ov_move rfl) <| KD.val rfl rfl (ov_nilCheck rfl) <| KD.val rfl rfl (ovf 3 rfl rfl rfl rfl) ?_
 refine KD.rd rfl rfl (oml rfl rfl rfl) ?_
 refine KD.one rfl ?_
 refine LM.stW Tryd.sizeOf26 rfl rfl rfl rfl au7 au8 ?_
 refine LM.nil ?_
 refine kq1 ?_
 refine KD.val rfl rfl (ov_assign rfl) <| KD.val rfl rfl (ov_assign rfl) <| KD.nil ?_
 refine QM.sub (e' := [(4, _), (5, _), (6, _)]) au9 (QM.then ?_)
 refine wpM.ret ?_
 refine QM.leaveCs (ds := ([])) (.inl rfl) [.cell 4 26, .tmp 5, .tmp 6] Tryd.results41 hd_nil (rc_w rfl Tryd.isAgg26 Tryd.sizeOf26 rfl (rc_tmp rfl (rc_tmp rfl rc_nil))) ?_
 intro w' hm' hc'
 rw [set_nat hi0, hI.ok he3 (by have hjl : j = ps.length := om; have h9 := hmis; rw [hjl, List.take_of_length_le (by simp)] at h9; rw [List.length_map]; exact h9)]; refine ⟨hc', mo ++ (mp ++ (ml ++ (mg ++ []))), ⟨⟨(sA ws i0).2.2, (sB2 ws i0).2.2, gs, adg, ng, cg, ls, adl, nl, cl, ps, adp, np, cp⟩, rfl, rfl, fun w hm => ⟨hng, sr_of_sl hsg (fun _ => rfl) (hm.pick mg), hnl, sr_of_sl hsl (fun _ => rfl) (hm.pick ml), hnp, sr_of_sl hsp (fun _ => rfl) (hm.pick mp), hop w (hm.pick mo)⟩⟩, SubM.mem (by (repeat' (first | exact SubM.nil _ | refine SubM.app ?_))) w' hm', ?_⟩; intro p hp; simp only [List.mem_append, List.not_mem_nil, or_false] at hp; rcases hp with hp | hp | hp | hp; exact hog p hp; exact Sl.ge hsp p hp; exact Sl.ge hsl p hp; exact Sl.ge hsg p hp
abbrev stB (b : Nat) (s : StV) : Nat × Obj := (b, sO s.cr s.gr s.ga s.gn s.gc s.la s.ln s.lc s.pa s.pn s.pc)
def headB (s : StC) : Bool := winB s.cr 4 && (winB s.gr 8 && (winB (s.gs.length : Int) 4 && (decide (s.ls.length ≤ 8) && winB (s.ps.length : Int) 8)))
theorem mayS_split (s : StC) : mayS s = (headB s && (s.gs.all (fun n => winB n 16) && (s.ls.all lokB && !s.ps.any (misB s.ls s.ps.length)))) := by
  unfold mayS headB
  ac_rfl
theorem all_ff {α : Type} {p : α → Bool} {xs : List α} {i : Nat} (d : α) (h : i < xs.length) (hp : p (xs.getD i d) = false) : xs.all p = false := by
  cases hm : xs.all p with
  | false => rfl
  | true => rw [List.all_eq_true.1 hm _ (List.mem_of_getElem? (getq d h))] at hp; cases hp
theorem any_tt {α : Type} {p : α → Bool} {xs : List α} {i : Nat} (d : α) (h : i < xs.length) (hp : p (xs.getD i d) = true) : xs.any p = true := List.any_eq_true.2 ⟨_, List.mem_of_getElem? (getq d h), hp⟩
theorem head_eq {s : StV} (h1 : s.gn = s.gs.length) (h2 : s.ln = s.ls.length) (h3 : s.pn = s.ps.length) : headB s.C = !(!winB s.cr 4 || (!winB s.gr 8 || (!winB (s.gn : Int) 4 || (decide ((s.ln : Int) > 8) || !winB (s.pn : Int) 8)))) := by
  unfold headB StV.C
  simp only [List.length_map, ← h1, ← h2, ← h3]
  rw [show decide (s.ln ≤ 8) = !decide ((s.ln : Int) > 8) by rw [← decide_not]; exact decide_eq_decide.2 om]
  cases winB s.cr 4 <;> cases winB s.gr 8 <;> cases winB (s.gn : Int) 4 <;> cases decide ((s.ln : Int) > 8) <;> cases winB (s.pn : Int) 8 <;> rfl
def smallS (s : StC) : Bool := decide (s.gs.length ≤ 12) && decide (s.ls.length ≤ 12) && decide (s.ps.length ≤ 12) && s.ps.all (fun p => decide (p.xs.length ≤ 20))
theorem mayS_head {s : StC} (h : headB s = false) : mayS s = false := by rw [mayS_split, h]; rfl
theorem mayS_gs {s : StC} (h : s.gs.all (fun n => winB n 16) = false) : mayS s = false := by rw [mayS_split, h]; simp
theorem mayS_ls {s : StC} (h : s.ls.all lokB = false) : mayS s = false := by rw [mayS_split, h]; simp
theorem mayS_ps {s : StC} (h : s.ps.any (misB s.ls s.ps.length) = true) : mayS s = false := by rw [mayS_split, h]; simp
theorem lok_eq {x : CLk} : lokB x = !((!winB x.sl 16 || !winB x.cr 32) || ((x.sh && (!winB x.rd 16 || !winB x.wr 16)) || (!x.sh && (decide (x.rd ≠ 0) || decide (x.wr ≠ 0))))) := by
  unfold lokB
  cases x.sh <;> cases winB x.sl 16 <;> cases winB x.cr 32 <;> simp
theorem rwithin_spec (n most : Int) (w : World) : Ret Tryd.prog 21 #[.int .i64 n, .int .i64 most] w (fun v w' => v = .bool (winB n most) ∧ Ext w w') := by
 refine Ret.enterM Tryd.func21 rfl Tryd.ntmps21 rfl ([]) (no) (Mem.nil w) ?_
 refine wR <| LM.as rfl <| nB [(0, _), (1, _)] <| LM.mv rfl <| LM.val (ov_geq rfl rfl) <| LM.mv rfl ?_
 refine LM.splitD (t := 7) rfl (fun h1 => ?_) (fun h1 => ?_)
 ·
  refine LM.sp 7 rfl rfl rfl <| LM.mv rfl <| LM.sp 7 rfl rfl rfl <| LM.mv rfl <| LM.sp 7 rfl rfl rfl <| LM.val (ov_leq rfl rfl) <| LM.val (ov_pickT rfl rfl) <| LM.as rfl <| nA [(4, _)] <| wpM.ret ?_
  refine qL Tryd.results21 rfl fun w' hm' hc' hg' => ?_
  refine ⟨?_, hc'⟩; simp only [resV, winB]; first | (rw [decide_eq_true (show 1 ≤ n by omega), Bool.true_and]; done) | (rw [decide_eq_false (show ¬ 1 ≤ n by omega), Bool.false_and]; done)
 refine LM.dr 7 rfl rfl rfl <| LM.dr 7 rfl rfl rfl <| LM.dr 7 rfl rfl rfl <| LM.val (ov_pickF rfl rfl) <| LM.as rfl <| nA [(4, _)] <| wpM.ret ?_
 refine qL Tryd.results21 rfl fun w' hm' hc' hg' => ?_
 refine ⟨?_, hc'⟩; simp only [resV, winB]; first | (rw [decide_eq_true (show 1 ≤ n by omega), Bool.true_and]; done) | (rw [decide_eq_false (show ¬ 1 ≤ n by omega), Bool.false_and]; done)
theorem swithin_spec (n most : Int) (w : World) : Ret Tryd.prog 69 #[.int .i64 n, .int .i64 most] w (fun v w' => v = .bool (winB n most) ∧ Ext w w') := by
 refine Ret.enterM Tryd.func69 rfl Tryd.ntmps69 rfl ([]) (no) (Mem.nil w) ?_
 refine wR <| LM.as rfl <| nB [(0, _), (1, _)] <| LM.mv rfl <| LM.val (ov_geq rfl rfl) <| LM.mv rfl ?_
 refine LM.splitD (t := 7) rfl (fun h1 => ?_) (fun h1 => ?_)
 ·
  refine LM.sp 7 rfl rfl rfl <| LM.mv rfl <| LM.sp 7 rfl rfl rfl <| LM.mv rfl <| LM.sp 7 rfl rfl rfl <| LM.val (ov_leq rfl rfl) <| LM.val (ov_pickT rfl rfl) <| LM.as rfl <| nA [(4, _)] <| wpM.ret ?_
  refine qL Tryd.results69 rfl fun w' hm' hc' hg' => ?_
  refine ⟨?_, hc'⟩; simp only [resV, winB]; first | (rw [decide_eq_true (show 1 ≤ n by omega), Bool.true_and]; done) | (rw [decide_eq_false (show ¬ 1 ≤ n by omega), Bool.false_and]; done)
 refine LM.dr 7 rfl rfl rfl <| LM.dr 7 rfl rfl rfl <| LM.dr 7 rfl rfl rfl <| LM.val (ov_pickF rfl rfl) <| LM.as rfl <| nA [(4, _)] <| wpM.ret ?_
 refine qL Tryd.results69 rfl fun w' hm' hc' hg' => ?_
 refine ⟨?_, hc'⟩; simp only [resV, winB]; first | (rw [decide_eq_true (show 1 ≤ n by omega), Bool.true_and]; done) | (rw [decide_eq_false (show ¬ 1 ≤ n by omega), Bool.false_and]; done)
theorem small12_spec {s : StV} (w : World) (hI : s.In w) : Ret Tryd.prog 6 #[s.val] w (fun v w' => v = .bool (smallS s.C) ∧ Ext w w') := by
 have hgn := hI.hgn; have hln := hI.hln; have hpn := hI.hpn; have hp := hI.hp
 refine Ret.enterM Tryd.func6 rfl Tryd.ntmps6 rfl ([]) (no) (Mem.nil w) ?_
 refine wR ?_
 refine LM.box rfl rfl (fun b1 hb1 => ?_)
 refine LM.as rfl <| nA [(1, _)] <| wpM.seq <| wR <| LM.val (ovf 22 rfl rfl rfl rfl) ?_
 refine LM.rd (oml rfl rfl rfl) ?_
 refine LM.val (ov_len Tryd.underlying22 rfl) <| LM.val (ov_gtr rfl rfl) <| LM.mv rfl ?_
 refine LM.splitD (t := 9) rfl (fun h1 => ?_) (fun h1 => ?_)
 ·
  refine LM.dr 9 rfl rfl rfl <| LM.dr 9 rfl rfl rfl <| LM.dr 9 rfl rfl rfl <| LM.dr 9 rfl rfl rfl <| LM.val (ov_pickT rfl rfl) <| LM.mv rfl <| LM.dr 15 rfl rfl rfl <| LM.dr 15 rfl rfl rfl <| LM.dr 15 rfl rfl rfl <| LM.dr 15 rfl rfl rfl <| LM.val (ov_pickT rfl rfl) <| nA [(1, _), (20, _)] ?_
  refine wpM.condT rfl ?_
  refine wR <| LM.as rfl <| nA [(2, _)] <| wpM.ret <| QM.then_ret ?_
  refine qL Tryd.results6 rfl fun w' hm' hc' hg' => ?_
  refine ⟨?_, hc'⟩; show Value.bool false = Value.bool (smallS s.C); unfold smallS; rw [decide_eq_false (show ¬ s.C.gs.length ≤ 12 by show ¬ s.gs.length ≤ 12; omega)]; rfl
 refine LM.sp 9 rfl rfl rfl <| LM.val (ovf 23 rfl rfl rfl rfl) <| LM.sp 9 rfl rfl rfl ?_
 refine LM.rd (oml rfl rfl rfl) ?_
 refine LM.sp 9 rfl rfl rfl <| LM.val (ov_len Tryd.underlying23 rfl) <| LM.sp 9 rfl rfl rfl <| LM.val (ov_gtr rfl rfl) <| LM.val (ov_pickF rfl rfl) <| LM.mv rfl ?_
 refine LM.splitD (t := 15) rfl (fun h2 => ?_) (fun h2 => ?_)
 ·
  refine LM.dr 15 rfl rfl rfl <| LM.dr 15 rfl rfl rfl <| LM.dr 15 rfl rfl rfl <| LM.dr 15 rfl rfl rfl <| LM.val (ov_pickT rfl rfl) <| nA [(1, _), (20, _)] ?_
  refine wpM.condT rfl ?_
  refine wR <| LM.as rfl <| nA [(2, _)] <| wpM.ret <| QM.then_ret ?_
  refine qL Tryd.results6 rfl fun w' hm' hc' hg' => ?_
  refine ⟨?_, hc'⟩; show Value.bool false = Value.bool (smallS s.C); unfold smallS; rw [decide_eq_false (show ¬ s.C.ls.length ≤ 12 by show ¬ s.ls.length ≤ 12; omega)]; simp
 refine LM.sp 15 rfl rfl rfl <| LM.val (ovf 24 rfl rfl rfl rfl) <| LM.sp 15 rfl rfl rfl ?_
 refine LM.rd (oml rfl rfl rfl) ?_
 refine LM.sp 15 rfl rfl rfl <| LM.val (ov_len Tryd.underlying24 rfl) <| LM.sp 15 rfl rfl rfl <| LM.val (ov_gtr rfl rfl) <| LM.val (ov_pickF rfl rfl) <| nA [(1, _), (20, _)] ?_
 refine wpM.condD rfl (fun h3 => ?_) (fun h3 => ?_)
 ·
  refine wR <| LM.as rfl <| nA [(2, _)] <| wpM.ret <| QM.then_ret ?_
  refine qL Tryd.results6 rfl fun w' hm' hc' hg' => ?_
  refine ⟨?_, hc'⟩; show Value.bool false = Value.bool (smallS s.C); unfold smallS; rw [decide_eq_false (show ¬ s.C.ps.length ≤ 12 by show ¬ (s.ps.map PgV.c).length ≤ 12; rw [List.length_map]; omega)]; simp
 refine wpM.skip <| QM.then <| wpM.seq <| wR <| LM.val (ovf 24 rfl rfl rfl rfl) ?_
 refine LM.rd (oml rfl rfl rfl) ?_
 refine LM.val (ov_len Tryd.underlying24 rfl) <| LM.mv rfl <| nA [(22, _), (23, _), (24, _)] <| wpM.block ?_
 refine wpM.loopK0 (α := Nat) (fun i => [(24, .int .i64 (i : Nat))]) [(22, _), (23, _)] (fun i => stB b1 s :: []) (fun i => i ≤ s.ps.length ∧ (s.ps.take i).all (fun p => decide (p.c.xs.length ≤ 20)) = true) (fun i => s.ps.length - i) (0) ⟨au2, rfl, rfl, trivial⟩ au1 ⟨Nat.zero_le _, rfl⟩ ?_
 rintro i ⟨hi, ha⟩
 change wpM _ _ _ _ _ _ _ (stB b1 s :: []) _ _ _
 refine wR <| LM.val (ov_lss rfl rfl) <| nA [(22, _), (23, _), (24, _), (25, _)] <| wpM.seq ?_
 refine wpM.condD rfl (fun h4 => ?_) (fun h4 => ?_)
 ·
  have hpi : (s.ps.getD i default).In w := hI.ops _ (List.mem_of_getElem? (getq default om)); have hpl := hpi.1
  refine wpM.skip <| QM.then <| wpM.seq <| wpM.block <| wR ?_
  refine LM.val (ov_idxSN au6 Tryd.underlying24 Tryd.sizeOf37 rfl rfl om) ?_
  refine LM.rdC (om_srEA asm ir Tryd.isAgg37 Tryd.sizeOf37 rfl au3 id) ?_
  refine LM.alloc Tryd.zeroValue37 rfl (fun b4 hb4 => ?_)
  refine LM.stW Tryd.sizeOf37 rfl rfl rfl rfl au7 au8 ?_
  refine nB [(4, _), (22, _), (23, _), (24, _)] <| LM.val (ovf 35 rfl rfl rfl rfl) ?_
  refine LM.rd (oml rfl rfl rfl) ?_
  refine LM.val (ov_len Tryd.underlying35 rfl) <| LM.val (ov_gtr rfl rfl) <| nA [(22, _), (23, _), (24, _), (31, _)] ?_
  refine wpM.condD rfl (fun h5 => ?_) (fun h5 => ?_)
  ·
   refine wR <| LM.as rfl <| nA [(2, _)] <| wpM.ret <| QM.block_ret <| QM.then_ret <| QM.then_ret <| QM.block_ret <| QM.then_ret ?_
   refine qL Tryd.results6 rfl fun w' hm' hc' hg' => ?_
   refine ⟨?_, hc'⟩; show Value.bool false = Value.bool (smallS s.C); unfold smallS; rw [all_ff (xs := s.C.ps) (i := i) default (by show i < (s.ps.map PgV.c).length; rw [List.length_map]; omega) (by show decide (((s.ps.map PgV.c).getD i default).xs.length ≤ 20) = false; rw [map_getD]; exact decide_eq_false om)]; simp
  refine wpM.skip <| QM.block_normal ?_
  refine QM.then (wpM.region ?_)
  refine LM.val (ov_add64 rfl rfl om) ?_
  refine LM.mv rfl <| nC [(22, _), (23, _), (24, _)] ?_
  refine QM.againK (i + 1) ⟨au2, rfl, rfl, trivial⟩ au1 (fun _ h => h) ?_ ?_
  · exact ⟨by omega, by rw [all_snoc default om, ha, Bool.true_and]; exact decide_eq_true om⟩
  · omega
 refine wpM.exit <| QM.then_exit <| QM.then_exit <| QM.block_hit <| tR <| LM.as rfl <| nA [(2, _)] <| wpM.ret ?_
 refine qL Tryd.results6 rfl fun w' hm' hc' hg' => ?_
 refine ⟨?_, hc'⟩; have hil : i = s.ps.length := om; subst hil; rw [List.take_length] at ha; show Value.bool true = Value.bool (smallS s.C); unfold smallS; rw [decide_eq_true (show s.C.gs.length ≤ 12 by show s.gs.length ≤ 12; omega), decide_eq_true (show s.C.ls.length ≤ 12 by show s.ls.length ≤ 12; omega), decide_eq_true (show s.C.ps.length ≤ 12 by show (s.ps.map PgV.c).length ≤ 12; rw [List.length_map]; omega), show s.C.ps.all (fun p => decide (p.xs.length ≤ 20)) = true by show (s.ps.map PgV.c).all _ = true; rw [List.all_map]; exact ha]; rfl
set_option maxHeartbeats 2000000 in
theorem rmayS_spec {s : StV} (w : World) (hI : s.In w) : Ret Tryd.prog 7 #[s.val] w (fun v w' => v = .bool (mayS s.C) ∧ Ext w w') := by
 have hgn := hI.hgn; have hln := hI.hln; have hpn := hI.hpn; have hp := hI.hp; have hg := hI.hg; have hl := hI.hl; have hcl : (s.ps.map PgV.c).length = s.ps.length := List.length_map ..
 refine Ret.enterM Tryd.func7 rfl Tryd.ntmps7 rfl ([]) (no) (Mem.nil w) ?_
 refine wR ?_
 refine LM.box rfl rfl (fun b1 hb1 => ?_)
 refine LM.as rfl <| nA [(1, _)] <| wpM.seq <| wpM.seq ?_
 refine wpM.joinK (α := Bool) (fun q => [(38, .bool q)]) [(1, _)] (fun q => stB b1 s :: []) (fun q => q = (!winB s.cr 4 || (!winB s.gr 8 || (!winB (s.gn : Int) 4 || (decide ((s.ln : Int) > 8) || !winB (s.pn : Int) 8))))) ⟨rfl, trivial⟩ ?_ ?_
 ·
  refine wpM.region ?_
  refine LM.val (ovf 3 rfl rfl rfl rfl) ?_
  refine LM.rd (oml rfl rfl rfl) ?_
  refine cE Tryd.func21 rfl (fun w hm hc hg => rwithin_spec _ _ w) ?_
  refine LM.val (ov_not rfl) ?_
  refine LM.mv rfl ?_
  refine LM.splitB (t := 13) rfl (fun h1 => ?_) (fun h1 => ?_)
  ·
   refine LM.dr 13 rfl rfl rfl <| LM.dr 13 rfl rfl rfl <| LM.dr 13 rfl rfl rfl <| LM.dr 13 rfl rfl rfl <| LM.val (ov_pickT rfl rfl) <| LM.mv rfl <| LM.dr 19 rfl rfl rfl <| LM.dr 19 rfl rfl rfl <| LM.dr 19 rfl rfl rfl <| LM.dr 19 rfl rfl rfl <| LM.dr 19 rfl rfl rfl <| LM.val (ov_pickT rfl rfl) <| LM.mv rfl <| LM.dr 26 rfl rfl rfl <| LM.dr 26 rfl rfl rfl <| LM.dr 26 rfl rfl rfl <| LM.dr 26 rfl rfl rfl <| LM.val (ov_pickT rfl rfl) <| LM.mv rfl <| LM.dr 32 rfl rfl rfl <| LM.dr 32 rfl rfl rfl <| LM.dr 32 rfl rfl rfl <| LM.dr 32 rfl rfl rfl <| LM.dr 32 rfl rfl rfl <| LM.val (ov_pickT rfl rfl) <| nC [(1, _), (38, _)] ?_
   refine QM.meetK (_) ⟨au2, rfl, trivial⟩ au1 ?_
   · (simp [h1, -List.getD_eq_getElem?_getD]; done)
  refine LM.sp 13 rfl rfl rfl <| LM.val (ovf 3 rfl rfl rfl rfl) <| LM.sp 13 rfl rfl rfl ?_
  refine LM.rd (oml rfl rfl rfl) ?_
  refine LM.sp 13 rfl rfl rfl ?_
  refine cE Tryd.func21 rfl (fun w hm hc hg => rwithin_spec _ _ w) ?_
  refine LM.sp 13 rfl rfl rfl ?_
  refine LM.val (ov_not rfl) ?_
  refine LM.val (ov_pickF rfl rfl) <| LM.mv rfl ?_
  refine LM.splitB (t := 19) rfl (fun h2 => ?_) (fun h2 => ?_)
  ·
   refine LM.dr 19 rfl rfl rfl <| LM.dr 19 rfl rfl rfl <| LM.dr 19 rfl rfl rfl <| LM.dr 19 rfl rfl rfl <| LM.dr 19 rfl rfl rfl <| LM.val (ov_pickT rfl rfl) <| LM.mv rfl <| LM.dr 26 rfl rfl rfl <| LM.dr 26 rfl rfl rfl <| LM.dr 26 rfl rfl rfl <| LM.dr 26 rfl rfl rfl <| LM.val (ov_pickT rfl rfl) <| LM.mv rfl <| LM.dr 32 rfl rfl rfl <| LM.dr 32 rfl rfl rfl <| LM.dr 32 rfl rfl rfl <| LM.dr 32 rfl rfl rfl <| LM.dr 32 rfl rfl rfl <| LM.val (ov_pickT rfl rfl) <| nC [(1, _), (38, _)] ?_
   refine QM.meetK (_) ⟨au2, rfl, trivial⟩ au1 ?_
   · (simp [h1, h2, -List.getD_eq_getElem?_getD]; done)
  refine LM.sp 19 rfl rfl rfl <| LM.val (ovf 22 rfl rfl rfl rfl) <| LM.sp 19 rfl rfl rfl ?_
  refine LM.rd (oml rfl rfl rfl) ?_
  refine LM.sp 19 rfl rfl rfl <| LM.val (ov_len Tryd.underlying22 rfl) <| LM.sp 19 rfl rfl rfl ?_
  refine cE Tryd.func21 rfl (fun w hm hc hg => rwithin_spec _ _ w) ?_
  refine LM.sp 19 rfl rfl rfl ?_
  refine LM.val (ov_not rfl) ?_
  refine LM.val (ov_pickF rfl rfl) <| LM.mv rfl ?_
  refine LM.splitB (t := 26) rfl (fun h3 => ?_) (fun h3 => ?_)
  ·
   refine LM.dr 26 rfl rfl rfl <| LM.dr 26 rfl rfl rfl <| LM.dr 26 rfl rfl rfl <| LM.dr 26 rfl rfl rfl <| LM.val (ov_pickT rfl rfl) <| LM.mv rfl <| LM.dr 32 rfl rfl rfl <| LM.dr 32 rfl rfl rfl <| LM.dr 32 rfl rfl rfl <| LM.dr 32 rfl rfl rfl <| LM.dr 32 rfl rfl rfl <| LM.val (ov_pickT rfl rfl) <| nC [(1, _), (38, _)] ?_
   refine QM.meetK (_) ⟨au2, rfl, trivial⟩ au1 ?_
   · (simp [h1, h2, h3, -List.getD_eq_getElem?_getD]; done)
  refine LM.sp 26 rfl rfl rfl <| LM.val (ovf 23 rfl rfl rfl rfl) <| LM.sp 26 rfl rfl rfl ?_
  refine LM.rd (oml rfl rfl rfl) ?_
  refine LM.sp 26 rfl rfl rfl <| LM.val (ov_len Tryd.underlying23 rfl) <| LM.sp 26 rfl rfl rfl <| LM.val (ov_gtr rfl rfl) <| LM.val (ov_pickF rfl rfl) <| LM.mv rfl ?_
  refine LM.splitD (t := 32) rfl (fun h4 => ?_) (fun h4 => ?_)
  ·
   refine LM.dr 32 rfl rfl rfl <| LM.dr 32 rfl rfl rfl <| LM.dr 32 rfl rfl rfl <| LM.dr 32 rfl rfl rfl <| LM.dr 32 rfl rfl rfl <| LM.val (ov_pickT rfl rfl) <| nC [(1, _), (38, _)] ?_
   refine QM.meetK (_) ⟨au2, rfl, trivial⟩ au1 ?_
   · (simp [h1, h2, h3, h4, -List.getD_eq_getElem?_getD]; done)
  refine LM.sp 32 rfl rfl rfl <| LM.val (ovf 24 rfl rfl rfl rfl) <| LM.sp 32 rfl rfl rfl ?_
  refine LM.rd (oml rfl rfl rfl) ?_
  refine LM.sp 32 rfl rfl rfl <| LM.val (ov_len Tryd.underlying24 rfl) <| LM.sp 32 rfl rfl rfl ?_
  refine cE Tryd.func21 rfl (fun w hm hc hg => rwithin_spec _ _ w) ?_
  refine LM.sp 32 rfl rfl rfl ?_
  refine LM.val (ov_not rfl) ?_
  refine LM.val (ov_pickF rfl rfl) <| nC [(1, _), (38, _)] ?_
  refine QM.meetK (_) ⟨au2, rfl, trivial⟩ au1 ?_
  · (simp [h1, h2, h3, h4, -List.getD_eq_getElem?_getD]; done)
 rintro q hq
 change QM _ _ _ _ _ (stB b1 s :: []) _ _ _
 refine QM.then ?_
 refine wpM.condB rfl (fun h5 => ?_) (fun h5 => ?_)
 ·
  refine wR <| LM.as rfl <| nA [(2, _)] <| wpM.ret <| QM.then_ret ?_
  refine qL Tryd.results7 rfl fun w' hm' hc' hg' => ?_
  refine ⟨?_, hc'⟩; rw [mayS_head (by rw [head_eq hgn hln hpn, ← hq, h5]; rfl)]; rfl
 have hhd : headB s.C = true := (by rw [head_eq hgn hln hpn, ← hq, h5]; rfl); have hh4 := hhd; unfold headB at hh4; simp only [Bool.and_eq_true, decide_eq_true_eq, winL] at hh4; have hG4 : s.gs.length ≤ 4 := (by have := hh4.2.2.1.2; show s.gs.length ≤ 4; have h9 : (s.C.gs.length : Int) ≤ 4 := this; have h8 : s.C.gs.length = s.gs.length := rfl; omega); have hL8 : s.ls.length ≤ 8 := hh4.2.2.2.1; have hP8 : s.ps.length ≤ 8 := (by have h9 := hh4.2.2.2.2.2; have h8 : s.C.ps.length = s.ps.length := hcl; omega)
 refine wpM.skip <| QM.then <| wpM.seq <| wR <| LM.as rfl <| nA [(1, _), (3, _)] <| wpM.block ?_
 refine wpM.loopK0 (α := Nat) (fun i => [(3, .int .i64 (i : Nat))]) [(1, _)] (fun i => stB b1 s :: []) (fun i => i ≤ s.gs.length ∧ (s.gs.take i).all (fun n => winB n 16) = true) (fun i => s.gs.length - i) (0) ⟨au2, rfl, trivial⟩ au1 ⟨Nat.zero_le _, rfl⟩ ?_
 rintro i ⟨hi, hag⟩
 change wpM _ _ _ _ _ _ _ (stB b1 s :: []) _ _ _
 refine wpM.seq <| wR <| LM.mv rfl <| LM.val (ovf 22 rfl rfl rfl rfl) ?_
 refine LM.rd (oml rfl rfl rfl) ?_
 refine LM.val (ov_len Tryd.underlying22 rfl) <| LM.val (ov_lss rfl rfl) <| nA [(1, _), (3, _), (43, _)] ?_
 refine wpM.condD rfl (fun h6 => ?_) (fun h6 => ?_)
 ·
  refine wpM.skip <| QM.then <| wpM.seq <| wpM.block <| wR <| LM.val (ovf 22 rfl rfl rfl rfl) ?_
  refine LM.rd (oml rfl rfl rfl) ?_
  refine LM.mv rfl ?_
  refine LM.val (ov_idxSN au6 Tryd.underlying22 Tryd.sizeOf3 rfl rfl om) ?_
  refine LM.rdC (om_sr1 asm Tryd.isAgg3 rfl rfl (by exact getq 0 au4) (by rfl) id) ?_
  refine cE Tryd.func21 rfl (fun w hm hc hg => rwithin_spec _ _ w) ?_
  refine LM.val (ov_not rfl) ?_
  refine nA [(1, _), (3, _), (52, _)] ?_
  refine wpM.condB rfl (fun h7 => ?_) (fun h7 => ?_)
  ·
   refine wR <| LM.as rfl <| nA [(2, _)] <| wpM.ret <| QM.block_ret <| QM.then_ret <| QM.then_ret <| QM.block_ret <| QM.then_ret ?_
   refine qL Tryd.results7 rfl fun w' hm' hc' hg' => ?_
   refine ⟨?_, hc'⟩; rw [mayS_gs (s := s.C) (all_ff (xs := s.gs) (i := i) 0 om (by simpa using h7))]; rfl
  refine wpM.skip <| QM.block_normal ?_
  refine QM.then (wpM.region ?_)
  refine LM.mv rfl ?_
  refine LM.val (ov_add64 rfl rfl om) ?_
  refine LM.as rfl <| nC [(1, _), (3, _)] ?_
  refine QM.againK (i + 1) ⟨au2, rfl, trivial⟩ au1 (fun _ h => h) ?_ ?_
  · exact ⟨by omega, by rw [all_snoc 0 om, hag, Bool.true_and]; simpa using h7⟩
  · omega
 refine wpM.exit <| QM.then_exit <| QM.then_exit <| QM.block_hit <| QM.then <| wpM.seq <| wR <| LM.as rfl <| nA [(1, _), (4, _)] <| wpM.block ?_
 refine wpM.loopK0 (α := Nat) (fun j => [(4, .int .i64 (j : Nat))]) [(1, _)] (fun j => stB b1 s :: []) (fun j => j ≤ s.ls.length ∧ (s.ls.take j).all lokB = true) (fun j => s.ls.length - j) (0) ⟨au2, rfl, trivial⟩ au1 ⟨Nat.zero_le _, rfl⟩ ?_
 rintro j ⟨hj, hal⟩
 change wpM _ _ _ _ _ _ _ (stB b1 s :: []) _ _ _
 refine wpM.seq <| wR <| LM.mv rfl <| LM.val (ovf 23 rfl rfl rfl rfl) ?_
 refine LM.rd (oml rfl rfl rfl) ?_
 refine LM.val (ov_len Tryd.underlying23 rfl) <| LM.val (ov_lss rfl rfl) <| nA [(1, _), (4, _), (57, _)] ?_
 refine wpM.condD rfl (fun h8 => ?_) (fun h8 => ?_)
 ·
  refine wpM.skip <| QM.then <| wpM.seq <| wpM.block <| wR <| LM.val (ovf 23 rfl rfl rfl rfl) ?_
  refine LM.rd (oml rfl rfl rfl) ?_
  refine LM.mv rfl ?_
  refine LM.val (ov_idxSN au6 Tryd.underlying23 Tryd.sizeOf53 rfl rfl om) ?_
  refine LM.rdC (om_srEA asm ir Tryd.isAgg53 Tryd.sizeOf53 rfl au3 id) ?_
  refine LM.alloc Tryd.zeroValue53 rfl (fun b5 hb5 => ?_)
  refine LM.stW Tryd.sizeOf53 rfl rfl rfl rfl au7 au8 ?_
  refine nA [(1, _), (4, _), (5, _)] <| wpM.seq <| wpM.seq ?_
  refine wpM.joinK (α := Bool) (fun q2 => [(74, .bool q2)]) [(1, _), (4, _), (5, _)] (fun q2 => (b5, .cells (fL (s.ls.getD j default)).toArray 53 (0, 0)) :: stB b1 s :: []) (fun q2 => q2 = (!winB (s.ls.getD j default).sl 16 || !winB (s.ls.getD j default).cr 32)) ⟨rfl, rfl, rfl, trivial⟩ ?_ ?_
  ·
   refine wpM.region ?_
   refine LM.val (ovf 3 rfl rfl rfl rfl) ?_
   refine LM.rd (oml rfl rfl rfl) ?_
   refine cE Tryd.func21 rfl (fun w hm hc hg => rwithin_spec _ _ w) ?_
   refine LM.val (ov_not rfl) ?_
   refine LM.mv rfl ?_
   refine LM.splitB (t := 69) rfl (fun h9 => ?_) (fun h9 => ?_)
   ·
    refine LM.dr 69 rfl rfl rfl <| LM.dr 69 rfl rfl rfl <| LM.dr 69 rfl rfl rfl <| LM.dr 69 rfl rfl rfl <| LM.val (ov_pickT rfl rfl) <| nC [(1, _), (4, _), (5, _), (74, _)] ?_
    refine QM.meetK (_) ⟨au2, rfl, rfl, rfl, trivial⟩ au1 ?_
    · (simp [h5, h6, h8, h9, -List.getD_eq_getElem?_getD]; done)
   refine LM.sp 69 rfl rfl rfl <| LM.val (ovf 3 rfl rfl rfl rfl) <| LM.sp 69 rfl rfl rfl ?_
   refine LM.rd (oml rfl rfl rfl) ?_
   refine LM.sp 69 rfl rfl rfl ?_
   refine cE Tryd.func21 rfl (fun w hm hc hg => rwithin_spec _ _ w) ?_
   refine LM.sp 69 rfl rfl rfl ?_
   refine LM.val (ov_not rfl) ?_
   refine LM.val (ov_pickF rfl rfl) <| nC [(1, _), (4, _), (5, _), (74, _)] ?_
   refine QM.meetK (_) ⟨au2, rfl, rfl, rfl, trivial⟩ au1 ?_
   · (simp [h5, h6, h8, h9, -List.getD_eq_getElem?_getD]; done)
  rintro q2 hq2
  change QM _ _ _ _ _ ((b5, .cells (fL (s.ls.getD j default)).toArray 53 (0, 0)) :: stB b1 s :: []) _ _ _
  refine QM.then ?_
  refine wpM.condB rfl (fun h10 => ?_) (fun h10 => ?_)
  ·
   refine wR <| LM.as rfl <| nA [(2, _)] <| wpM.ret <| QM.then_ret <| QM.block_ret <| QM.then_ret <| QM.then_ret <| QM.block_ret <| QM.then_ret ?_
   refine qL Tryd.results7 rfl fun w' hm' hc' hg' => ?_
   refine ⟨?_, hc'⟩; rw [mayS_ls (s := s.C) (all_ff (xs := s.ls) (i := j) default om (by rw [lok_eq, ← hq2, h10]; rfl))]; rfl
  refine wpM.skip <| QM.then <| wpM.seq ?_
  refine wpM.joinK (α := Bool) (fun q3 => [(103, .bool q3)]) [(1, _), (4, _)] (fun q3 => (b5, .cells (fL (s.ls.getD j default)).toArray 53 (0, 0)) :: stB b1 s :: []) (fun q3 => q3 = (((s.ls.getD j default).sh && (!winB (s.ls.getD j default).rd 16 || !winB (s.ls.getD j default).wr 16)) || (!(s.ls.getD j default).sh && (decide ((s.ls.getD j default).rd ≠ 0) || decide ((s.ls.getD j default).wr ≠ 0))))) ⟨rfl, rfl, trivial⟩ ?_ ?_
  ·
   refine wpM.region ?_
   refine LM.val (ovf 4 rfl rfl rfl rfl) ?_
   refine LM.rd (oml rfl rfl rfl) ?_
   refine LM.mv rfl ?_
   refine LM.splitB (t := 77) rfl (fun h11 => ?_) (fun h11 => ?_)
   ·
    refine LM.sp 77 rfl rfl rfl <| LM.val (ovf 3 rfl rfl rfl rfl) <| LM.sp 77 rfl rfl rfl ?_
    refine LM.rd (oml rfl rfl rfl) ?_
    refine LM.sp 77 rfl rfl rfl ?_
    refine cE Tryd.func21 rfl (fun w hm hc hg => rwithin_spec _ _ w) ?_
    refine LM.sp 77 rfl rfl rfl ?_
    refine LM.val (ov_not rfl) ?_
    refine LM.sp 77 rfl rfl rfl <| LM.mv rfl ?_
    refine LM.splitB (t := 82) rfl (fun h12 => ?_) (fun h12 => ?_)
    ·
     refine LM.dr 82 rfl rfl rfl <| LM.dr 82 rfl rfl rfl <| LM.dr 82 rfl rfl rfl <| LM.dr 82 rfl rfl rfl <| LM.sp 77 rfl rfl rfl <| LM.val (ov_pickT rfl rfl) <| LM.val (ov_pickT rfl rfl) <| LM.mv rfl <| LM.dr 89 rfl rfl rfl <| LM.dr 89 rfl rfl rfl <| LM.dr 89 rfl rfl rfl ?_
     refine LM.dropU (t := 89) rfl rfl rfl ?_
     refine LM.dropX (t := 93) rfl rfl ?_
     refine LM.dropX (t := 93) rfl rfl ?_
     refine LM.dropX (t := 93) rfl rfl ?_
     refine LM.dropX (t := 93) rfl rfl ?_
     refine LM.dropX (t := 97) rfl rfl ?_
     refine LM.dropX (t := 97) rfl rfl ?_
     refine LM.dropX (t := 97) rfl rfl ?_
     refine LM.dropX (t := 93) rfl rfl ?_
     refine LM.dr 89 rfl rfl rfl <| LM.val (ov_pickT rfl rfl) <| nC [(1, _), (4, _), (103, _)] ?_
     refine QM.meetK (_) ⟨au2, rfl, rfl, trivial⟩ au1 ?_
     · (simp [h5, h6, h8, h10, h11, h12, -List.getD_eq_getElem?_getD]; done)
    refine LM.sp 82 rfl rfl rfl <| LM.val (ovf 3 rfl rfl rfl rfl) <| LM.sp 82 rfl rfl rfl ?_
    refine LM.rd (oml rfl rfl rfl) ?_
    refine LM.sp 82 rfl rfl rfl ?_
    refine cE Tryd.func21 rfl (fun w hm hc hg => rwithin_spec _ _ w) ?_
    refine LM.sp 82 rfl rfl rfl ?_
    refine LM.val (ov_not rfl) ?_
    refine LM.sp 77 rfl rfl rfl <| LM.val (ov_pickF rfl rfl) <| LM.val (ov_pickT rfl rfl) <| LM.mv rfl ?_
    refine LM.splitB (t := 89) rfl (fun h13 => ?_) (fun h13 => ?_)
    ·
     refine LM.dr 89 rfl rfl rfl <| LM.dr 89 rfl rfl rfl <| LM.dr 89 rfl rfl rfl ?_
     refine LM.dropU (t := 89) rfl rfl rfl ?_
     refine LM.dropX (t := 93) rfl rfl ?_
     refine LM.dropX (t := 93) rfl rfl ?_
     refine LM.dropX (t := 93) rfl rfl ?_
     refine LM.dropX (t := 93) rfl rfl ?_
     refine LM.dropX (t := 97) rfl rfl ?_
     refine LM.dropX (t := 97) rfl rfl ?_
     refine LM.dropX (t := 97) rfl rfl ?_
     refine LM.dropX (t := 93) rfl rfl ?_
     refine LM.dr 89 rfl rfl rfl <| LM.val (ov_pickT rfl rfl) <| nC [(1, _), (4, _), (103, _)] ?_
     refine QM.meetK (_) ⟨au2, rfl, rfl, trivial⟩ au1 ?_
     · (simp [h5, h6, h8, h10, h11, h12, h13, -List.getD_eq_getElem?_getD]; done)
    refine LM.sp 89 rfl rfl rfl <| LM.val (ovf 4 rfl rfl rfl rfl) <| LM.sp 89 rfl rfl rfl ?_
    refine LM.rd (oml rfl rfl rfl) ?_
    refine LM.sp 89 rfl rfl rfl ?_
    refine LM.val (ov_not rfl) ?_
    refine LM.sp 89 rfl rfl rfl <| LM.mv rfl ?_
    refine LM.splitB (t := 93) rfl (fun h14 => ?_) (fun h14 => ?_)
    ·
     refine LM.sp 93 rfl rfl rfl <| LM.val (ovf 3 rfl rfl rfl rfl) <| LM.sp 93 rfl rfl rfl ?_
     refine LM.rd (oml rfl rfl rfl) ?_
     refine LM.sp 93 rfl rfl rfl <| LM.val (ov_neq rfl rfl) <| LM.sp 93 rfl rfl rfl <| LM.mv rfl ?_
     refine LM.splitD (t := 97) rfl (fun h15 => ?_) (fun h15 => ?_)
     ·
      refine LM.dr 97 rfl rfl rfl <| LM.dr 97 rfl rfl rfl <| LM.dr 97 rfl rfl rfl <| LM.sp 93 rfl rfl rfl <| LM.val (ov_pickT rfl rfl) <| LM.sp 89 rfl rfl rfl <| LM.val (ov_pickT rfl rfl) <| LM.val (ov_pickF rfl rfl) <| nC [(1, _), (4, _), (103, _)] ?_
      refine QM.meetK (_) ⟨au2, rfl, rfl, trivial⟩ au1 ?_
      · (simp_all [-List.getD_eq_getElem?_getD]; done)
     refine LM.sp 97 rfl rfl rfl <| LM.val (ovf 3 rfl rfl rfl rfl) <| LM.sp 97 rfl rfl rfl ?_
     refine LM.rd (oml rfl rfl rfl) ?_
     refine LM.sp 97 rfl rfl rfl <| LM.val (ov_neq rfl rfl) <| LM.sp 93 rfl rfl rfl <| LM.val (ov_pickF rfl rfl) <| LM.sp 89 rfl rfl rfl <| LM.val (ov_pickT rfl rfl) <| LM.val (ov_pickF rfl rfl) <| nC [(1, _), (4, _), (103, _)] ?_
     refine QM.meetK (_) ⟨au2, rfl, rfl, trivial⟩ au1 ?_
     · (simp_all [-List.getD_eq_getElem?_getD]; done)
    refine LM.dr 93 rfl rfl rfl <| LM.dr 93 rfl rfl rfl <| LM.dr 93 rfl rfl rfl ?_
    refine LM.dropU (t := 93) rfl rfl rfl ?_
    refine LM.dropX (t := 97) rfl rfl ?_
    refine LM.dropX (t := 97) rfl rfl ?_
    refine LM.dropX (t := 97) rfl rfl ?_
    refine LM.dr 93 rfl rfl rfl <| LM.sp 89 rfl rfl rfl <| LM.val (ov_pickF rfl rfl) <| LM.val (ov_pickF rfl rfl) <| nC [(1, _), (4, _), (103, _)] ?_
    refine QM.meetK (_) ⟨au2, rfl, rfl, trivial⟩ au1 ?_
    · (simp [h5, h6, h8, h10, h11, h12, h13, h14, -List.getD_eq_getElem?_getD]; done)
   refine LM.dr 77 rfl rfl rfl <| LM.dr 77 rfl rfl rfl <| LM.dr 77 rfl rfl rfl <| LM.dr 77 rfl rfl rfl ?_
   refine LM.dropU (t := 77) rfl rfl rfl ?_
   refine LM.dropX (t := 82) rfl rfl ?_
   refine LM.dropX (t := 82) rfl rfl ?_
   refine LM.dropX (t := 82) rfl rfl ?_
   refine LM.dropX (t := 82) rfl rfl ?_
   refine LM.dr 77 rfl rfl rfl <| LM.val (ov_pickF rfl rfl) <| LM.mv rfl <| LM.sp 89 rfl rfl rfl <| LM.val (ovf 4 rfl rfl rfl rfl) <| LM.sp 89 rfl rfl rfl ?_
   refine LM.rd (oml rfl rfl rfl) ?_
   refine LM.sp 89 rfl rfl rfl ?_
   refine LM.val (ov_not rfl) ?_
   refine LM.sp 89 rfl rfl rfl <| LM.mv rfl ?_
   refine LM.splitB (t := 93) rfl (fun h16 => ?_) (fun h16 => ?_)
   ·
    refine LM.sp 93 rfl rfl rfl <| LM.val (ovf 3 rfl rfl rfl rfl) <| LM.sp 93 rfl rfl rfl ?_
    refine LM.rd (oml rfl rfl rfl) ?_
    refine LM.sp 93 rfl rfl rfl <| LM.val (ov_neq rfl rfl) <| LM.sp 93 rfl rfl rfl <| LM.mv rfl ?_
    refine LM.splitD (t := 97) rfl (fun h17 => ?_) (fun h17 => ?_)
    ·
     refine LM.dr 97 rfl rfl rfl <| LM.dr 97 rfl rfl rfl <| LM.dr 97 rfl rfl rfl <| LM.sp 93 rfl rfl rfl <| LM.val (ov_pickT rfl rfl) <| LM.sp 89 rfl rfl rfl <| LM.val (ov_pickT rfl rfl) <| LM.val (ov_pickF rfl rfl) <| nC [(1, _), (4, _), (103, _)] ?_
     refine QM.meetK (_) ⟨au2, rfl, rfl, trivial⟩ au1 ?_
     · (simp [h5, h6, h8, h10, h11, h16, h17, -List.getD_eq_getElem?_getD]; done)
    refine LM.sp 97 rfl rfl rfl <| LM.val (ovf 3 rfl rfl rfl rfl) <| LM.sp 97 rfl rfl rfl ?_
    refine LM.rd (oml rfl rfl rfl) ?_
    refine LM.sp 97 rfl rfl rfl <| LM.val (ov_neq rfl rfl) <| LM.sp 93 rfl rfl rfl <| LM.val (ov_pickF rfl rfl) <| LM.sp 89 rfl rfl rfl <| LM.val (ov_pickT rfl rfl) <| LM.val (ov_pickF rfl rfl) <| nC [(1, _), (4, _), (103, _)] ?_
    refine QM.meetK (_) ⟨au2, rfl, rfl, trivial⟩ au1 ?_
    · (simp [h5, h6, h8, h10, h11, h16, h17, -List.getD_eq_getElem?_getD]; done)
   refine LM.dr 93 rfl rfl rfl <| LM.dr 93 rfl rfl rfl <| LM.dr 93 rfl rfl rfl ?_
   refine LM.dropU (t := 93) rfl rfl rfl ?_
   refine LM.dropX (t := 97) rfl rfl ?_
   refine LM.dropX (t := 97) rfl rfl ?_
   refine LM.dropX (t := 97) rfl rfl ?_
   refine LM.dr 93 rfl rfl rfl <| LM.sp 89 rfl rfl rfl <| LM.val (ov_pickF rfl rfl) <| LM.val (ov_pickF rfl rfl) <| nC [(1, _), (4, _), (103, _)] ?_
   refine QM.meetK (_) ⟨au2, rfl, rfl, trivial⟩ au1 ?_
   · (simp_all [-List.getD_eq_getElem?_getD]; done)
  rintro q3 hq3
  change QM _ _ _ _ _ ((b5, .cells (fL (s.ls.getD j default)).toArray 53 (0, 0)) :: stB b1 s :: []) _ _ _
  refine QM.then ?_
  refine wpM.condB rfl (fun h18 => ?_) (fun h18 => ?_)
  ·
   refine wR <| LM.as rfl <| nA [(2, _)] <| wpM.ret <| QM.block_ret <| QM.then_ret <| QM.then_ret <| QM.block_ret <| QM.then_ret ?_
   refine qL Tryd.results7 rfl fun w' hm' hc' hg' => ?_
   refine ⟨?_, hc'⟩; rw [mayS_ls (s := s.C) (all_ff (xs := s.ls) (i := j) default om (by rw [lok_eq, ← hq3, h18]; simp))]; rfl
  refine wpM.skip <| QM.block_normal ?_
  refine QM.then (wpM.region ?_)
  refine LM.mv rfl ?_
  refine LM.val (ov_add64 rfl rfl om) ?_
  refine LM.as rfl <| nC [(1, _), (4, _)] ?_
  refine QM.againK (j + 1) ⟨au2, rfl, trivial⟩ au1 (fun _ h => h) ?_ ?_
  · exact ⟨by omega, by rw [all_snoc default om, hal, Bool.true_and, lok_eq, ← hq2, ← hq3, h10, h18]; rfl⟩
  · omega
 refine wpM.exit <| QM.then_exit <| QM.then_exit <| QM.block_hit <| QM.then <| wpM.seq <| wR <| LM.as rfl <| nA [(1, _), (6, _)] <| wpM.block ?_
 refine wpM.loopK0 (α := Nat) (fun k => [(6, .int .i64 (k : Nat))]) [(1, _)] (fun k => stB b1 s :: []) (fun k => k ≤ s.ps.length ∧ ((s.ps.map PgV.c).take k).any (misB s.ls (s.pn : Nat)) = false) (fun k => s.ps.length - k) (0) ⟨au2, rfl, trivial⟩ au1 ⟨Nat.zero_le _, rfl⟩ ?_
 rintro k ⟨hk, hap⟩
 change wpM _ _ _ _ _ _ _ (stB b1 s :: []) _ _ _
 refine wpM.seq <| wR <| LM.mv rfl <| LM.val (ovf 24 rfl rfl rfl rfl) ?_
 refine LM.rd (oml rfl rfl rfl) ?_
 refine LM.val (ov_len Tryd.underlying24 rfl) <| LM.val (ov_lss rfl rfl) <| nA [(1, _), (6, _), (108, _)] ?_
 refine wpM.condD rfl (fun h19 => ?_) (fun h19 => ?_)
 ·
  have hpm : s.ps.getD k default ∈ s.ps := List.mem_of_getElem? (getq default om)
  refine wpM.skip <| QM.then <| wpM.seq <| wpM.block <| wpM.seq ?_
  refine wpM.draw [(0, 0), (1, 1), (2, 0), (3, 0), (4, 1), (5, 0), (6, 1), (7, 0), (8, 1), (9, 0), (10, 2), (11, 0), (12, 0), (13, 0), (14, 0), (15, 0)] kr kr ?_
  refine LD.val rfl rfl (ovf 24 rfl rfl rfl rfl) ?_
  refine LD.rd rfl rfl (oml rfl rfl rfl) ?_
  refine LD.val rfl rfl (ov_move rfl) ?_
  refine LD.val rfl rfl (ov_idxSN au6 Tryd.underlying24 Tryd.sizeOf37 rfl rfl om) ?_
  refine LD.rdC rfl rfl (om_srEA asm ir Tryd.isAgg37 Tryd.sizeOf37 rfl au3 id) ?_
  refine LD.val rfl rfl (ovf 23 rfl rfl rfl rfl) ?_
  refine LD.rd rfl rfl (oml rfl rfl rfl) ?_
  refine LD.val rfl rfl (ovf 24 rfl rfl rfl rfl) ?_
  refine LD.rd rfl rfl (oml rfl rfl rfl) ?_
  refine LD.val rfl rfl (ov_len Tryd.underlying24 rfl) ?_
  refine dE rfl rfl Tryd.func22 rfl (fun w hm hc hg => rcheck_spec (s.pn : Nat) w (hI.ops _ hpm).1 ((hI.ops _ hpm).2.ext hc) hln (hl.ext hc)) ?_
  refine LD.val rfl rfl (ov_move rfl) ?_
  refine LD.val rfl rfl (ov_extract rfl rfl) ?_
  refine LD.val rfl rfl (ov_extract rfl rfl) ?_
  refine LD.val rfl rfl (ov_assign rfl) <| LD.val rfl rfl (ov_assign rfl) <| LD.nil ?_
  refine QM.sub (e' := [(1, _), (6, _), (8, _)]) au9 (QM.then (wpM.seq (wpM.region ?_)))
  refine LM.mv rfl <| LM.val (ov_neq rfl rfl) <| nA [(1, _), (6, _), (126, _)] ?_
  refine wpM.condD rfl (fun h20 => ?_) (fun h20 => ?_)
  ·
   refine wR <| LM.as rfl <| nA [(2, _)] <| wpM.ret <| QM.block_ret <| QM.then_ret <| QM.then_ret <| QM.block_ret <| QM.then_ret ?_
   refine qL Tryd.results7 rfl fun w' hm' hc' hg' => ?_
   refine ⟨?_, hc'⟩; rw [mayS_ps (s := s.C) (any_tt (xs := s.C.ps) (i := k) default (by show k < (s.ps.map PgV.c).length; omega) (by show misB s.ls (s.ps.map PgV.c).length ((s.ps.map PgV.c).getD k default) = true; rw [map_getD, hcl]; unfold misB; rw [← hpn]; exact decide_eq_true h20))]; rfl
  refine wpM.skip <| QM.block_normal ?_
  refine QM.then (wpM.region ?_)
  refine LM.mv rfl ?_
  refine LM.val (ov_add64 rfl rfl om) ?_
  refine LM.as rfl <| nC [(1, _), (6, _)] ?_
  refine QM.againK (k + 1) ⟨au2, rfl, trivial⟩ au1 (fun _ h => h) ?_ ?_
  · exact ⟨by omega, by rw [any_snoc default (by rw [hcl]; omega), hap, Bool.false_or, map_getD]; unfold misB; simpa using h20⟩
  · omega
 refine wpM.exit <| QM.then_exit <| QM.then_exit <| QM.block_hit <| tR <| LM.as rfl <| nA [(2, _)] <| wpM.ret ?_
 refine qL Tryd.results7 rfl fun w' hm' hc' hg' => ?_
 refine ⟨?_, hc'⟩; have hig : i = s.gs.length := om; have hjl : j = s.ls.length := om; have hkp : k = s.ps.length := om; rw [hig, List.take_length] at hag; rw [hjl, List.take_length] at hal; rw [hkp, List.take_of_length_le om] at hap; rw [mayS_split, hhd]; show Value.bool true = Value.bool (true && (s.gs.all (fun n => winB n 16) && (s.ls.all lokB && !(s.ps.map PgV.c).any (misB s.ls (s.ps.map PgV.c).length)))); rw [hag, hal, hcl, ← hpn, hap]; rfl
theorem smay1_spec (n : Int) (w : World) : Ret Tryd.prog 71 #[.int .i64 n] w (fun v w' => v = .bool (!winB n 16) ∧ Ext w w') := by
 refine Ret.enterM Tryd.func71 rfl Tryd.ntmps71 rfl ([]) (no) (Mem.nil w) ?_
 refine wR <| LM.as rfl <| nB [(0, _)] <| LM.mv rfl ?_
 refine cE Tryd.func69 rfl (fun w hm hc hg => swithin_spec n 16 w) ?_
 refine LM.val (ov_not rfl) ?_
 refine LM.as rfl <| nA [(2, _)] <| wpM.ret ?_
 refine qL Tryd.results71 rfl fun w' hm' hc' hg' => ?_
 exact ⟨rfl, hc'⟩
theorem lockMay_spec (x : CLk) (w : World) : Ret Tryd.prog 74 #[.agg (fL x).toArray] w (fun v w' => v = .bool (lokB x) ∧ Ext w w') := by
 refine Ret.enterM Tryd.func74 rfl Tryd.ntmps74 rfl ([]) (no) (Mem.nil w) ?_
 refine wR ?_
 refine LM.box rfl rfl (fun b1 hb1 => ?_)
 refine LM.as rfl <| nA [(1, _)] <| wpM.seq ?_
 refine wpM.joinK (α := Bool) (fun q => [(3, .bool q)]) [(1, _)] (fun q => (b1, .cells (fL x).toArray 53 (0, 0)) :: []) (fun q => q = (decide (x.rd = 0) && decide (x.wr = 0))) ⟨rfl, trivial⟩ ?_ ?_
 ·
  refine wpM.region ?_
  refine LM.val (ovf 3 rfl rfl rfl rfl) ?_
  refine LM.rd (oml rfl rfl rfl) ?_
  refine LM.val (ov_eql rfl rfl) <| LM.mv rfl ?_
  refine LM.splitD (t := 7) rfl (fun h1 => ?_) (fun h1 => ?_)
  ·
   refine LM.sp 7 rfl rfl rfl <| LM.val (ovf 3 rfl rfl rfl rfl) <| LM.sp 7 rfl rfl rfl ?_
   refine LM.rd (oml rfl rfl rfl) ?_
   refine LM.sp 7 rfl rfl rfl <| LM.val (ov_eql rfl rfl) <| LM.val (ov_pickT rfl rfl) <| LM.as rfl <| nC [(1, _), (3, _)] ?_
   refine QM.meetK (_) ⟨au2, rfl, trivial⟩ au1 ?_
   · (simp [h1, -List.getD_eq_getElem?_getD]; done)
  refine LM.dr 7 rfl rfl rfl <| LM.dr 7 rfl rfl rfl <| LM.dr 7 rfl rfl rfl <| LM.val (ov_pickF rfl rfl) <| LM.as rfl <| nC [(1, _), (3, _)] ?_
  refine QM.meetK (_) ⟨au2, rfl, trivial⟩ au1 ?_
  · (simp [h1, -List.getD_eq_getElem?_getD]; done)
 rintro q hq
 change QM _ _ _ _ _ ((b1, .cells (fL x).toArray 53 (0, 0)) :: []) _ _ _
 refine QM.then <| wpM.seq <| wR <| LM.val (ovf 4 rfl rfl rfl rfl) ?_
 refine LM.rd (oml rfl rfl rfl) ?_
 refine nA [(1, _), (3, _), (13, _)] ?_
 refine wpM.joinK (α := Bool) (fun q2 => [(3, .bool q2)]) [(1, _)] (fun q2 => (b1, .cells (fL x).toArray 53 (0, 0)) :: []) (fun q2 => q2 = (if x.sh then winB x.rd 16 && winB x.wr 16 else decide (x.rd = 0) && decide (x.wr = 0))) ⟨rfl, trivial⟩ ?_ ?_
 ·
  refine wpM.condB rfl (fun h2 => ?_) (fun h2 => ?_)
  ·
   refine wpM.region ?_
   refine LM.val (ovf 3 rfl rfl rfl rfl) ?_
   refine LM.rd (oml rfl rfl rfl) ?_
   refine cE Tryd.func69 rfl (fun w hm hc hg => swithin_spec _ _ w) ?_
   refine LM.mv rfl ?_
   refine LM.splitB (t := 17) rfl (fun h3 => ?_) (fun h3 => ?_)
   ·
    refine LM.sp 17 rfl rfl rfl <| LM.val (ovf 3 rfl rfl rfl rfl) <| LM.sp 17 rfl rfl rfl ?_
    refine LM.rd (oml rfl rfl rfl) ?_
    refine LM.sp 17 rfl rfl rfl ?_
    refine cE Tryd.func69 rfl (fun w hm hc hg => swithin_spec _ _ w) ?_
    refine LM.val (ov_pickT rfl rfl) <| LM.as rfl <| nC [(1, _), (3, _)] ?_
    refine QM.meetK (_) ⟨au2, rfl, trivial⟩ au1 ?_
    · (simp [h2, h3, -List.getD_eq_getElem?_getD]; done)
   refine LM.dr 17 rfl rfl rfl <| LM.dr 17 rfl rfl rfl <| LM.dr 17 rfl rfl rfl <| LM.val (ov_pickF rfl rfl) <| LM.as rfl <| nC [(1, _), (3, _)] ?_
   refine QM.meetK (_) ⟨au2, rfl, trivial⟩ au1 ?_
   · (simp [h2, h3, -List.getD_eq_getElem?_getD]; done)
  refine wpM.skip ?_
  refine QM.meetK (_) ⟨au2, rfl, trivial⟩ au1 ?_
  · (simp_all [-List.getD_eq_getElem?_getD]; done)
 rintro q2 hq2
 change QM _ _ _ _ _ ((b1, .cells (fL x).toArray 53 (0, 0)) :: []) _ _ _
 refine tR <| LM.mv rfl <| LM.mv rfl ?_
 refine LM.splitB (t := 23) rfl (fun h4 => ?_) (fun h4 => ?_)
 ·
  refine LM.sp 23 rfl rfl rfl <| LM.val (ovf 3 rfl rfl rfl rfl) <| LM.sp 23 rfl rfl rfl ?_
  refine LM.rd (oml rfl rfl rfl) ?_
  refine LM.sp 23 rfl rfl rfl ?_
  refine cE Tryd.func69 rfl (fun w hm hc hg => swithin_spec _ _ w) ?_
  refine LM.val (ov_pickT rfl rfl) <| LM.mv rfl ?_
  refine LM.splitB (t := 28) rfl (fun h5 => ?_) (fun h5 => ?_)
  ·
   refine LM.sp 28 rfl rfl rfl <| LM.val (ovf 3 rfl rfl rfl rfl) <| LM.sp 28 rfl rfl rfl ?_
   refine LM.rd (oml rfl rfl rfl) ?_
   refine LM.sp 28 rfl rfl rfl ?_
   refine cE Tryd.func69 rfl (fun w hm hc hg => swithin_spec _ _ w) ?_
   refine LM.val (ov_pickT rfl rfl) <| LM.as rfl <| nA [(2, _)] <| wpM.ret ?_
   refine qL Tryd.results74 rfl fun w' hm' hc' hg' => ?_
   refine ⟨?_, hc'⟩; simp only [resV, lokB, ← hq2]; simp [h4, h5]
  refine LM.dr 28 rfl rfl rfl <| LM.dr 28 rfl rfl rfl <| LM.dr 28 rfl rfl rfl <| LM.val (ov_pickF rfl rfl) <| LM.as rfl <| nA [(2, _)] <| wpM.ret ?_
  refine qL Tryd.results74 rfl fun w' hm' hc' hg' => ?_
  refine ⟨?_, hc'⟩; simp only [resV, lokB, ← hq2]; simp [h4, h5]
 refine LM.dr 23 rfl rfl rfl <| LM.dr 23 rfl rfl rfl <| LM.dr 23 rfl rfl rfl <| LM.val (ov_pickF rfl rfl) <| LM.mv rfl <| LM.dr 28 rfl rfl rfl <| LM.dr 28 rfl rfl rfl <| LM.dr 28 rfl rfl rfl <| LM.val (ov_pickF rfl rfl) <| LM.as rfl <| nA [(2, _)] <| wpM.ret ?_
 refine qL Tryd.results74 rfl fun w' hm' hc' hg' => ?_
 refine ⟨?_, hc'⟩; simp only [resV, lokB, ← hq2]; simp [h4]
theorem smay2_spec (x : CLk) (w : World) : Ret Tryd.prog 73 #[.agg (fL x).toArray] w (fun v w' => v = .bool (!lokB x) ∧ Ext w w') := by
 refine Ret.enterM Tryd.func73 rfl Tryd.ntmps73 rfl ([]) (no) (Mem.nil w) ?_
 refine wR ?_
 refine LM.box rfl rfl (fun b1 hb1 => ?_)
 refine LM.as rfl <| nB [(1, _)] ?_
 refine LM.rd (om_ldW Tryd.isAgg53 Tryd.sizeOf53 rfl rfl) ?_
 refine cE Tryd.func74 rfl (fun w hm hc hg => lockMay_spec x w) ?_
 refine LM.val (ov_not rfl) ?_
 refine LM.as rfl <| nA [(2, _)] <| wpM.ret ?_
 refine qL Tryd.results73 rfl fun w' hm' hc' hg' => ?_
 exact ⟨rfl, hc'⟩
theorem ixf_g {xs : List Int} {ad : Option Addr} {n cap : Nat} (w : World) (hn : n = xs.length) (hl : Sr fI 1 xs (.slice ad n cap) w) (hx : xs.length ≤ 1000000) : Ret Tryd.prog 85 #[.slice ad n cap, .func (.func 71) #[] #[]] w (fun v w' => v = .int .i64 (fixI (fun o => (!winB o 16)) xs) ∧ Ext w w') := by
 refine Ret.enterM Tryd.func85 rfl Tryd.ntmps85 rfl ([]) (no) (Mem.nil w) ?_
 refine wR <| LM.as rfl <| nA [(0, _), (1, _)] <| wpM.seq <| wR <| LM.mv rfl <| LM.val (ov_len Tryd.underlying22 rfl) <| LM.mv rfl <| nA [(0, _), (1, _), (7, _), (8, _)] <| wpM.block ?_
 refine wpM.loopK0 (α := Nat) (fun i => [(8, .int .i64 (i : Nat))]) [(0, _), (1, _), (7, _)] (fun i => []) (fun i => i ≤ xs.length ∧ (xs.take i).any (fun o => (!winB o 16)) = false) (fun i => xs.length - i) (0) ⟨au2, rfl, rfl, rfl, trivial⟩ au1 ⟨Nat.zero_le _, rfl⟩ ?_
 rintro i ⟨hi, ha⟩
 change wpM _ _ _ _ _ _ _ ([]) _ _ _
 refine wR <| LM.val (ov_lss rfl rfl) <| nA [(0, _), (1, _), (7, _), (8, _), (9, _)] <| wpM.seq ?_
 refine wpM.condD rfl (fun h1 => ?_) (fun h1 => ?_)
 ·
  refine wpM.skip <| QM.then <| wpM.seq <| wpM.block <| wR <| LM.mv rfl <| LM.as rfl <| nB [(0, _), (1, _), (5, _), (7, _), (8, _)] <| LM.mv rfl <| LM.mv rfl <| LM.mv rfl ?_
  refine LM.val (ov_idxSN au6 Tryd.underlying22 Tryd.sizeOf3 rfl rfl om) ?_
  refine LM.rdC (om_sr1 asm Tryd.isAgg3 rfl rfl (by exact getq 0 au4) (by rfl) id) ?_
  refine LM.callE (oc_callV rfl (enters_fn Tryd.func71 kr rfl) rfl) (fun w hm hc hg => smay1_spec _ w) ?_
  refine nA [(0, _), (1, _), (5, _), (7, _), (8, _), (16, _)] ?_
  refine wpM.condB rfl (fun h2 => ?_) (fun h2 => ?_)
  ·
   refine wR <| LM.mv rfl <| LM.as rfl <| nA [(4, _)] <| wpM.ret <| QM.block_ret <| QM.then_ret <| QM.then_ret <| QM.block_ret <| QM.then_ret ?_
   refine qL Tryd.results85 rfl fun w' hm' hc' hg' => ?_
   exact ⟨by show Value.int .i64 _ = _; rw [fix_hit 0 ha om (by simpa using h2)], hc'⟩
  refine wpM.skip <| QM.block_normal ?_
  refine QM.then (wpM.region ?_)
  refine LM.val (ov_add64 rfl rfl om) ?_
  refine LM.mv rfl <| nC [(0, _), (1, _), (7, _), (8, _)] ?_
  refine QM.againK (i + 1) ⟨au2, rfl, rfl, rfl, trivial⟩ au1 (fun _ h => h) ?_ ?_
  · exact ⟨by omega, by rw [any_snoc 0 om, ha, Bool.false_or]; simpa using h2⟩
  · omega
 refine wpM.exit <| QM.then_exit <| QM.then_exit <| QM.block_hit <| tR <| LM.as rfl <| nA [(4, _)] <| wpM.ret ?_
 refine qL Tryd.results85 rfl fun w' hm' hc' hg' => ?_
 have hil : i = xs.length := om; subst hil; rw [List.take_length] at ha; exact ⟨by show Value.int .i64 _ = _; rw [fix_miss ha], hc'⟩
theorem cof_g {xs : List Int} {ad : Option Addr} {n cap : Nat} (w : World) (hn : n = xs.length) (hl : Sr fI 1 xs (.slice ad n cap) w) (hx : xs.length ≤ 1000000) : Ret Tryd.prog 70 #[.slice ad n cap, .func (.func 71) #[] #[]] w (fun v w' => v = .bool (xs.any (fun o => (!winB o 16))) ∧ Ext w w') := by
 refine Ret.enterM Tryd.func70 rfl Tryd.ntmps70 rfl ([]) (no) (Mem.nil w) ?_
 refine wR <| LM.as rfl <| nB [(0, _), (1, _)] <| LM.mv rfl <| LM.mv rfl ?_
 refine cE Tryd.func85 rfl (fun w hm hc hg => ixf_g w hn (hl.ext hc) hx) ?_
 refine LM.val (ov_geq rfl rfl) <| LM.as rfl <| nA [(4, _)] <| wpM.ret ?_
 refine qL Tryd.results70 rfl fun w' hm' hc' hg' => ?_
 exact ⟨by show Value.bool _ = _; rw [← fix_pos], hc'⟩
theorem ixf_l {xs : List CLk} {ad : Option Addr} {n cap : Nat} (w : World) (hn : n = xs.length) (hl : Sr fL 5 xs (.slice ad n cap) w) (hx : xs.length ≤ 1000000) : Ret Tryd.prog 86 #[.slice ad n cap, .func (.func 73) #[] #[]] w (fun v w' => v = .int .i64 (fixI (fun o => (!lokB o)) xs) ∧ Ext w w') := by
 refine Ret.enterM Tryd.func86 rfl Tryd.ntmps86 rfl ([]) (no) (Mem.nil w) ?_
 refine wR <| LM.as rfl <| nA [(0, _), (1, _)] <| wpM.seq <| wR <| LM.mv rfl <| LM.val (ov_len Tryd.underlying23 rfl) <| LM.mv rfl <| nA [(0, _), (1, _), (7, _), (8, _)] <| wpM.block ?_
 refine wpM.loopK0 (α := Nat) (fun i => [(8, .int .i64 (i : Nat))]) [(0, _), (1, _), (7, _)] (fun i => []) (fun i => i ≤ xs.length ∧ (xs.take i).any (fun o => (!lokB o)) = false) (fun i => xs.length - i) (0) ⟨au2, rfl, rfl, rfl, trivial⟩ au1 ⟨Nat.zero_le _, rfl⟩ ?_
 rintro i ⟨hi, ha⟩
 change wpM _ _ _ _ _ _ _ ([]) _ _ _
 refine wR <| LM.val (ov_lss rfl rfl) <| nA [(0, _), (1, _), (7, _), (8, _), (9, _)] <| wpM.seq ?_
 refine wpM.condD rfl (fun h1 => ?_) (fun h1 => ?_)
 ·
  refine wpM.skip <| QM.then <| wpM.seq <| wpM.block <| wR <| LM.mv rfl <| LM.as rfl <| nB [(0, _), (1, _), (5, _), (7, _), (8, _)] <| LM.mv rfl <| LM.mv rfl <| LM.mv rfl ?_
  refine LM.val (ov_idxSN au6 Tryd.underlying23 Tryd.sizeOf53 rfl rfl om) ?_
  refine LM.rdC (om_srEA asm ir Tryd.isAgg53 Tryd.sizeOf53 rfl au3 id) ?_
  refine LM.callE (oc_callV rfl (enters_fn Tryd.func73 kr rfl) rfl) (fun w hm hc hg => smay2_spec _ w) ?_
  refine nA [(0, _), (1, _), (5, _), (7, _), (8, _), (16, _)] ?_
  refine wpM.condB rfl (fun h2 => ?_) (fun h2 => ?_)
  ·
   refine wR <| LM.mv rfl <| LM.as rfl <| nA [(4, _)] <| wpM.ret <| QM.block_ret <| QM.then_ret <| QM.then_ret <| QM.block_ret <| QM.then_ret ?_
   refine qL Tryd.results86 rfl fun w' hm' hc' hg' => ?_
   exact ⟨by show Value.int .i64 _ = _; rw [fix_hit default ha om (by simpa using h2)], hc'⟩
  refine wpM.skip <| QM.block_normal ?_
  refine QM.then (wpM.region ?_)
  refine LM.val (ov_add64 rfl rfl om) ?_
  refine LM.mv rfl <| nC [(0, _), (1, _), (7, _), (8, _)] ?_
  refine QM.againK (i + 1) ⟨au2, rfl, rfl, rfl, trivial⟩ au1 (fun _ h => h) ?_ ?_
  · exact ⟨by omega, by rw [any_snoc default om, ha, Bool.false_or]; simpa using h2⟩
  · omega
 refine wpM.exit <| QM.then_exit <| QM.then_exit <| QM.block_hit <| tR <| LM.as rfl <| nA [(4, _)] <| wpM.ret ?_
 refine qL Tryd.results86 rfl fun w' hm' hc' hg' => ?_
 have hil : i = xs.length := om; subst hil; rw [List.take_length] at ha; exact ⟨by show Value.int .i64 _ = _; rw [fix_miss ha], hc'⟩
theorem cof_l {xs : List CLk} {ad : Option Addr} {n cap : Nat} (w : World) (hn : n = xs.length) (hl : Sr fL 5 xs (.slice ad n cap) w) (hx : xs.length ≤ 1000000) : Ret Tryd.prog 72 #[.slice ad n cap, .func (.func 73) #[] #[]] w (fun v w' => v = .bool (xs.any (fun o => (!lokB o))) ∧ Ext w w') := by
 refine Ret.enterM Tryd.func72 rfl Tryd.ntmps72 rfl ([]) (no) (Mem.nil w) ?_
 refine wR <| LM.as rfl <| nB [(0, _), (1, _)] <| LM.mv rfl <| LM.mv rfl ?_
 refine cE Tryd.func86 rfl (fun w hm hc hg => ixf_l w hn (hl.ext hc) hx) ?_
 refine LM.val (ov_geq rfl rfl) <| LM.as rfl <| nA [(4, _)] <| wpM.ret ?_
 refine qL Tryd.results72 rfl fun w' hm' hc' hg' => ?_
 exact ⟨by show Value.bool _ = _; rw [← fix_pos], hc'⟩
theorem misfit_spec {s : StV} (w : World) (hI : s.In w) (hx : s.ps.length ≤ 1000000) : Ret Tryd.prog 75 #[s.val] w (fun v w' => v = .tuple #[.int .i64 (misI s.ls (s.ps.map PgV.c)), .int .i64 (misE s.ls (s.ps.map PgV.c) (misI s.ls (s.ps.map PgV.c)))] ∧ Ext w w') := by
 have hgn := hI.hgn; have hln := hI.hln; have hpn := hI.hpn; have hp := hI.hp; have hg := hI.hg; have hl := hI.hl; have hcl : (s.ps.map PgV.c).length = s.ps.length := List.length_map ..
 refine Ret.enterM Tryd.func75 rfl Tryd.ntmps75 rfl ([]) (no) (Mem.nil w) ?_
 refine wR ?_
 refine LM.box rfl rfl (fun b1 hb1 => ?_)
 refine LM.as rfl <| LM.as rfl <| nA [(1, _)] <| wpM.seq <| wR <| LM.val (ovf 24 rfl rfl rfl rfl) ?_
 refine LM.rd (oml rfl rfl rfl) ?_
 refine LM.val (ov_len Tryd.underlying24 rfl) <| LM.mv rfl <| nA [(1, _), (9, _), (10, _), (11, _)] <| wpM.block ?_
 refine wpM.loopK0 (α := Nat) (fun k => [(11, .int .i64 (k : Nat))]) [(1, _), (9, _), (10, _)] (fun k => stB b1 s :: []) (fun k => k ≤ s.ps.length ∧ ((s.ps.map PgV.c).take k).any (misB s.ls (s.pn : Nat)) = false) (fun k => s.ps.length - k) (0) ⟨au2, rfl, rfl, rfl, trivial⟩ au1 ⟨Nat.zero_le _, rfl⟩ ?_
 rintro k ⟨hk, hap⟩
 change wpM _ _ _ _ _ _ _ (stB b1 s :: []) _ _ _
 refine wR <| LM.val (ov_lss rfl rfl) <| nA [(1, _), (9, _), (10, _), (11, _), (12, _)] <| wpM.seq ?_
 refine wpM.condD rfl (fun h1 => ?_) (fun h1 => ?_)
 ·
  have hpm : s.ps.getD k default ∈ s.ps := List.mem_of_getElem? (getq default om)
  refine wpM.skip <| QM.then <| wpM.seq <| wpM.block <| wR <| LM.mv rfl ?_
  refine LM.val (ov_idxSN au6 Tryd.underlying24 Tryd.sizeOf37 rfl rfl om) ?_
  refine LM.rdC (om_srEA asm ir Tryd.isAgg37 Tryd.sizeOf37 rfl au3 id) ?_
  refine LM.alloc Tryd.zeroValue37 rfl (fun b5 hb5 => ?_)
  refine LM.as rfl ?_
  refine LM.stW Tryd.sizeOf37 rfl rfl rfl rfl au7 au8 ?_
  refine nB [(1, _), (4, _), (5, _), (9, _), (10, _), (11, _)] ?_
  refine LM.rd (om_ldW Tryd.isAgg37 Tryd.sizeOf37 rfl rfl) ?_
  refine LM.val (ovf 23 rfl rfl rfl rfl) ?_
  refine LM.rd (oml rfl rfl rfl) ?_
  refine LM.val (ovf 24 rfl rfl rfl rfl) ?_
  refine LM.rd (oml rfl rfl rfl) ?_
  refine LM.val (ov_len Tryd.underlying24 rfl) ?_
  refine cE Tryd.func87 rfl (fun w hm hc hg => check_spec (s.pn : Nat) w (hI.ops _ hpm).1 ((hI.ops _ hpm).2.ext hc) hln (hl.ext hc)) ?_
  refine LM.mv rfl <| LM.val (ov_extract rfl rfl) <| LM.val (ov_extract rfl rfl) <| LM.as rfl <| LM.as rfl <| nB [(1, _), (4, _), (7, _), (9, _), (10, _), (11, _)] <| LM.mv rfl <| LM.val (ov_neq rfl rfl) <| nA [(1, _), (4, _), (7, _), (9, _), (10, _), (11, _), (27, _)] ?_
  refine wpM.condD rfl (fun h2 => ?_) (fun h2 => ?_)
  ·
   refine wR <| LM.mv rfl <| LM.mv rfl <| LM.as rfl <| LM.as rfl <| nA [(2, _), (3, _)] <| wpM.ret <| QM.block_ret <| QM.then_ret <| QM.then_ret <| QM.block_ret <| QM.then_ret ?_
   refine QM.leave (.inl rfl) [.tmp 2, .tmp 3] Tryd.results75 rfl ?_
   intro w' hm' hc' hg'
   have e : misI s.ls (s.ps.map PgV.c) = (k : Nat) := fix_hit default (by rw [hcl, ← hpn]; exact hap) (by rw [hcl]; omega) (by rw [map_getD, hcl, ← hpn]; unfold misB; exact decide_eq_true h2); refine ⟨?_, hc'⟩; rw [e]; unfold misE; rw [if_neg om, Int.toNat_natCast, map_getD, hcl, ← hpn]; rfl
  refine wpM.skip <| QM.block_normal ?_
  refine QM.then (wpM.region ?_)
  refine LM.val (ov_add64 rfl rfl om) ?_
  refine LM.mv rfl <| nC [(1, _), (9, _), (10, _), (11, _)] ?_
  refine QM.againK (k + 1) ⟨au2, rfl, rfl, rfl, trivial⟩ au1 (fun _ h => h) ?_ ?_
  · exact ⟨by omega, by rw [any_snoc default (by rw [hcl]; omega), hap, Bool.false_or, map_getD]; unfold misB; simpa using h2⟩
  · omega
 refine wpM.exit <| QM.then_exit <| QM.then_exit <| QM.block_hit <| tR <| LM.as rfl <| LM.as rfl <| nA [(2, _), (3, _)] <| wpM.ret ?_
 refine QM.leave (.inl rfl) [.tmp 2, .tmp 3] Tryd.results75 rfl ?_
 intro w' hm' hc' hg'
 have hkp : k = s.ps.length := om; rw [hkp, List.take_of_length_le om] at hap; have e : misI s.ls (s.ps.map PgV.c) = -1 := fix_miss (by rw [hcl, ← hpn]; exact hap); refine ⟨?_, hc'⟩; rw [e]; rfl
theorem mayS_spec {s : StV} (w : World) (hI : s.In w) : Ret Tryd.prog 47 #[s.val] w (fun v w' => v = .bool (mayS s.C) ∧ Ext w w') := by
 have hgn := hI.hgn; have hln := hI.hln; have hpn := hI.hpn; have hp := hI.hp; have hg := hI.hg; have hl := hI.hl; have hcl : (s.ps.map PgV.c).length = s.ps.length := List.length_map ..
 refine Ret.enterM Tryd.func47 rfl Tryd.ntmps47 rfl ([]) (no) (Mem.nil w) ?_
 refine wR ?_
 refine LM.box rfl rfl (fun b1 hb1 => ?_)
 refine LM.as rfl <| nA [(1, _)] <| wpM.seq <| wpM.block <| wR <| LM.val (ovf 3 rfl rfl rfl rfl) ?_
 refine LM.rd (oml rfl rfl rfl) ?_
 refine cE Tryd.func69 rfl (fun w hm hc hg => swithin_spec _ _ w) ?_
 refine LM.val (ov_not rfl) ?_
 refine LM.mv rfl ?_
 refine LM.splitB (t := 10) rfl (fun h1 => ?_) (fun h1 => ?_)
 ·
  refine LM.dr 10 rfl rfl rfl <| LM.dr 10 rfl rfl rfl <| LM.dr 10 rfl rfl rfl <| LM.dr 10 rfl rfl rfl <| LM.val (ov_pickT rfl rfl) <| LM.as rfl <| nA [(1, _), (5, _)] ?_
  refine wpM.condT rfl ?_
  refine wR <| LM.as rfl <| nA [(2, _)] <| wpM.ret <| QM.block_ret <| QM.then_ret ?_
  refine qL Tryd.results47 rfl fun w' hm' hc' hg' => ?_
  refine ⟨?_, hc'⟩; rw [mayS_head (by rw [head_eq hgn hln hpn]; simp [h1])]; rfl
 refine LM.sp 10 rfl rfl rfl <| LM.val (ovf 3 rfl rfl rfl rfl) <| LM.sp 10 rfl rfl rfl ?_
 refine LM.rd (oml rfl rfl rfl) ?_
 refine LM.sp 10 rfl rfl rfl ?_
 refine cE Tryd.func69 rfl (fun w hm hc hg => swithin_spec _ _ w) ?_
 refine LM.sp 10 rfl rfl rfl ?_
 refine LM.val (ov_not rfl) ?_
 refine LM.val (ov_pickF rfl rfl) <| LM.as rfl <| nA [(1, _), (5, _)] ?_
 refine wpM.condB rfl (fun h2 => ?_) (fun h2 => ?_)
 ·
  refine wR <| LM.as rfl <| nA [(2, _)] <| wpM.ret <| QM.block_ret <| QM.then_ret ?_
  refine qL Tryd.results47 rfl fun w' hm' hc' hg' => ?_
  refine ⟨?_, hc'⟩; rw [mayS_head (by rw [head_eq hgn hln hpn]; simp [h1, h2])]; rfl
 refine wR <| LM.val (ovf 22 rfl rfl rfl rfl) ?_
 refine LM.rd (oml rfl rfl rfl) ?_
 refine LM.val (ov_len Tryd.underlying22 rfl) ?_
 refine cE Tryd.func69 rfl (fun w hm hc hg => swithin_spec _ _ w) ?_
 refine LM.val (ov_not rfl) ?_
 refine LM.mv rfl ?_
 refine LM.splitB (t := 22) rfl (fun h3 => ?_) (fun h3 => ?_)
 ·
  refine LM.dr 22 rfl rfl rfl <| LM.dr 22 rfl rfl rfl <| LM.dr 22 rfl rfl rfl <| LM.val (ov_pickT rfl rfl) <| LM.as rfl <| nA [(1, _), (16, _)] ?_
  refine wpM.condT rfl ?_
  refine wR <| LM.as rfl <| nA [(2, _)] <| wpM.ret <| QM.block_ret <| QM.then_ret ?_
  refine qL Tryd.results47 rfl fun w' hm' hc' hg' => ?_
  refine ⟨?_, hc'⟩; rw [mayS_head (by rw [head_eq hgn hln hpn]; simp [h1, h2, h3])]; rfl
 refine LM.sp 22 rfl rfl rfl <| LM.val (ovf 22 rfl rfl rfl rfl) <| LM.sp 22 rfl rfl rfl ?_
 refine LM.rd (oml rfl rfl rfl) ?_
 refine LM.sp 22 rfl rfl rfl ?_
 refine cE Tryd.func70 rfl (fun w hm hc hg => cof_g w hgn (hI.hg.ext hc) (by have h9 : winB (s.gn : Int) 4 = true := (by simpa using h3); have := (winL _ _).1 h9; omega)) ?_
 refine LM.val (ov_pickF rfl rfl) <| LM.as rfl <| nA [(1, _), (16, _)] ?_
 refine wpM.condB rfl (fun h4 => ?_) (fun h4 => ?_)
 ·
  refine wR <| LM.as rfl <| nA [(2, _)] <| wpM.ret <| QM.block_ret <| QM.then_ret ?_
  refine qL Tryd.results47 rfl fun w' hm' hc' hg' => ?_
  refine ⟨?_, hc'⟩; rw [mayS_gs (s := s.C) (by show s.gs.all _ = false; rw [all_any, h4]; rfl)]; rfl
 refine wR <| LM.val (ovf 23 rfl rfl rfl rfl) ?_
 refine LM.rd (oml rfl rfl rfl) ?_
 refine LM.val (ov_len Tryd.underlying23 rfl) <| LM.val (ov_gtr rfl rfl) <| LM.mv rfl ?_
 refine LM.splitD (t := 32) rfl (fun h5 => ?_) (fun h5 => ?_)
 ·
  refine LM.dr 32 rfl rfl rfl <| LM.dr 32 rfl rfl rfl <| LM.dr 32 rfl rfl rfl <| LM.val (ov_pickT rfl rfl) <| LM.as rfl <| nA [(1, _), (27, _)] ?_
  refine wpM.condT rfl ?_
  refine wR <| LM.as rfl <| nA [(2, _)] <| wpM.ret <| QM.block_ret <| QM.then_ret ?_
  refine qL Tryd.results47 rfl fun w' hm' hc' hg' => ?_
  refine ⟨?_, hc'⟩; rw [mayS_head (by rw [head_eq hgn hln hpn]; simp [h1, h2, h3, h4, h5])]; rfl
 refine LM.sp 32 rfl rfl rfl <| LM.val (ovf 23 rfl rfl rfl rfl) <| LM.sp 32 rfl rfl rfl ?_
 refine LM.rd (oml rfl rfl rfl) ?_
 refine LM.sp 32 rfl rfl rfl ?_
 refine cE Tryd.func72 rfl (fun w hm hc hg => cof_l w hln (hl.ext hc) om) ?_
 refine LM.val (ov_pickF rfl rfl) <| LM.as rfl <| nA [(1, _), (27, _)] ?_
 refine wpM.condB rfl (fun h6 => ?_) (fun h6 => ?_)
 ·
  refine wR <| LM.as rfl <| nA [(2, _)] <| wpM.ret <| QM.block_ret <| QM.then_ret ?_
  refine qL Tryd.results47 rfl fun w' hm' hc' hg' => ?_
  refine ⟨?_, hc'⟩; rw [mayS_ls (s := s.C) (by show s.ls.all _ = false; rw [all_any, h6]; rfl)]; rfl
 refine wR <| LM.val (ovf 24 rfl rfl rfl rfl) ?_
 refine LM.rd (oml rfl rfl rfl) ?_
 refine LM.val (ov_len Tryd.underlying24 rfl) ?_
 refine cE Tryd.func69 rfl (fun w hm hc hg => swithin_spec _ _ w) ?_
 refine LM.val (ov_not rfl) ?_
 refine LM.as rfl <| nA [(1, _), (37, _)] ?_
 refine wpM.condB rfl (fun h7 => ?_) (fun h7 => ?_)
 ·
  refine wR <| LM.as rfl <| nA [(2, _)] <| wpM.ret <| QM.block_ret <| QM.then_ret ?_
  refine qL Tryd.results47 rfl fun w' hm' hc' hg' => ?_
  refine ⟨?_, hc'⟩; rw [mayS_head (by rw [head_eq hgn hln hpn]; simp [h1, h2, h3, h4, h5, h6, h7])]; rfl
 refine wpM.skip <| QM.block_normal <| tR ?_
 refine LM.rd (om_ldW Tryd.isAgg26 Tryd.sizeOf26 rfl rfl) ?_
 refine cE Tryd.func75 rfl (fun w hm hc hg => misfit_spec w (hI.ext hc) (by have h9 : winB (s.pn : Int) 8 = true := (by simpa using h7); have := (winL _ _).1 h9; omega)) ?_
 refine LM.mv rfl <| LM.val (ov_extract rfl rfl) <| LM.val (ov_extract rfl rfl) <| LM.as rfl <| LM.as rfl <| nB [(3, _)] <| LM.mv rfl <| LM.val (ov_lss rfl rfl) <| LM.as rfl <| nA [(2, _)] <| wpM.ret ?_
 refine qL Tryd.results47 rfl fun w' hm' hc' hg' => ?_
 have hhd : headB s.C = true := (by rw [head_eq hgn hln hpn]; simp [h1, h2, h3, h4, h5, h6, h7]); have hgs : s.gs.all (fun n => winB n 16) = true := (by rw [all_any, h4]; rfl); have hls : s.ls.all lokB = true := (by rw [all_any, h6]; rfl); have hmi : decide (misI s.ls (s.ps.map PgV.c) < 0) = !(s.ps.map PgV.c).any (misB s.ls (s.ps.map PgV.c).length) := (by unfold misI; rw [← fix_pos, ← decide_not]; exact decide_eq_decide.2 om); refine ⟨?_, hc'⟩; rw [mayS_split, hhd]; show Value.bool (decide (misI s.ls (s.ps.map PgV.c) < 0)) = Value.bool (true && (s.gs.all (fun n => winB n 16) && (s.ls.all lokB && !(s.ps.map PgV.c).any (misB s.ls (s.ps.map PgV.c).length)))); rw [hmi, hgs, hls]; rfl
end Go.Eng
namespace Go.Eng
open Go Go.RowKit
def val (B : Nat) : List Nat → Nat
  | [] => 0
  | d :: l => d + B * val B l
def pairs : List Nat → List Nat
  | a :: b :: l => (a + b) :: pairs l
  | [a] => [a]
  | [] => []
def mk (k : Nat) : Nat → Nat
  | 0 => 0
  | m + 1 => (2 ^ k - 1) + 2 ^ k * (2 ^ k * mk k m)
end Go.Eng
namespace Go.Eng
open Go Go.Proofs Go.RowKit
theorem first_at {s : BitVec 64} {n : Int} (h : firstI s = n) (w : World) (hT : Tab w) : Ret Tryd.prog 50 #[U s] w (fun v w' => v = .int .i64 n ∧ Ext w w') := h ▸ first_spec s w hT
abbrev gB (b : Nat) (G : Gr) : Nat × Obj := (b, .cells (arr fU G []) 128 (0, 0))
abbrev gO (G : Gr) : Obj := .cells (arr fU G []) 128 (0, 0)
def NewGT (n0 : Nat) (v : Value) (m : Mem0) : Prop := ∃ b, v = .pointer (some ⟨b, 0, none⟩) ∧ m = [gB b zeroG] ∧ n0 ≤ b
theorem NewGT.mono : ∀ (k k' : Nat) u m, k' ≤ k → NewGT k u m → NewGT k' u m := fun k k' u m h ⟨b, h1, h2, h3⟩ => ⟨b, h1, h2, by omega⟩
theorem gnew_spec (w : World) : Ret Tryd.prog 48 #[] w (fun v w' => Ext w w' ∧ ∃ m, NewGT w.heap.size v m ∧ Mem w' m ∧ ∀ p ∈ m, w.heap.size ≤ p.1) := by
 refine Ret.enterM Tryd.func48 rfl Tryd.ntmps48 rfl ([]) (no) (Mem.nil w) ?_
 refine wR <| LM.as rfl ?_
 refine LM.nil (QM.sub (e' := []) trivial (QM.then (wpM.seq (wpM.region ?_))))
 refine LM.val (ov_build (cs := #[_, _, _, _, _, _, _, _, _, _, _, _, _, _, _, _, _, _, _, _, _, _, _, _, _, _, _, _, _, _, _, _, _, _, _, _, _, _, _, _, _, _, _, _, _, _, _, _, _, _, _, _, _, _, _, _, _, _, _, _, _, _, _, _]) rfl (by first | rfl | kernel_rfl)) ?_
 refine LM.box rfl rfl (fun b2 hb2 => ?_)
 refine LM.as rfl <| nA [(0, _)] <| wpM.ret ?_
 refine qL Tryd.results48 rfl fun w' hm' hc' hg' => ?_
 exact ⟨hc', [gB b2 zeroG], ⟨b2, rfl, rfl, hb2⟩, SubM.mem (by (repeat' (first | exact SubM.nil _ | refine SubM.cons kr ?_ | refine SubM.app ?_))) _ hm', fun p hp => by simp only [List.mem_cons, List.not_mem_nil, or_false] at hp; subst hp; assumption⟩
theorem gis_spec (b : Nat) (who : Int) (w : World) : Ret Tryd.prog 76 #[.pointer (some ⟨b, 0, none⟩), .int .i64 who] w (fun v w' => v = .bool (inG who) ∧ Ext w w') := by
 refine Ret.enterM Tryd.func76 rfl Tryd.ntmps76 rfl ([]) (no) (Mem.nil w) ?_
 refine wR <| LM.as rfl <| nB [(0, _), (1, _)] <| LM.mv rfl ?_
 refine LM.val (ov_pneq kr rfl rfl) ?_
 refine LM.mv rfl <| LM.sp 7 rfl rfl rfl <| LM.mv rfl <| LM.sp 7 rfl rfl rfl <| LM.val (ov_geq rfl rfl) <| LM.val (ov_pickT rfl rfl) <| LM.mv rfl ?_
 refine LM.splitD (t := 11) rfl (fun h1 => ?_) (fun h1 => ?_)
 ·
  refine LM.sp 11 rfl rfl rfl <| LM.mv rfl <| LM.sp 11 rfl rfl rfl <| LM.val (ov_lss rfl rfl) <| LM.val (ov_pickT rfl rfl) <| LM.as rfl <| nA [(4, _)] <| wpM.ret ?_
  refine qL Tryd.results76 rfl fun w' hm' hc' hg' => ?_
  refine ⟨?_, hc'⟩; simp only [resV, inG, h1, decide_true, decide_false, Bool.true_and, Bool.false_and, Bool.and_true, Bool.and_false, Bool.not_true, Bool.not_false, Bool.true_or, Bool.false_or, Bool.or_true, Bool.or_false, ne_eq, not_true_eq_false, not_false_eq_true, Bool.and_self]
 refine LM.dr 11 rfl rfl rfl <| LM.dr 11 rfl rfl rfl <| LM.val (ov_pickF rfl rfl) <| LM.as rfl <| nA [(4, _)] <| wpM.ret ?_
 refine qL Tryd.results76 rfl fun w' hm' hc' hg' => ?_
 refine ⟨?_, hc'⟩; simp only [resV, inG, h1, decide_true, decide_false, Bool.true_and, Bool.false_and, Bool.and_true, Bool.and_false, Bool.not_true, Bool.not_false, Bool.true_or, Bool.false_or, Bool.or_true, Bool.or_false, ne_eq, not_true_eq_false, not_false_eq_true, Bool.and_self]
theorem over_spec (b : Nat) (G : Gr) (s : BitVec 64) (w : World) (hG : G.length = 64) (hT : Tab w) (hM : Mem w [gB b G]) : Ret Tryd.prog 88 #[.pointer (some ⟨b, 0, none⟩), U s] w (fun v w' => v = U (ovr G s) ∧ Ext w w') := by
 refine Ret.enterM Tryd.func88 rfl Tryd.ntmps88 rfl ([gB b G]) (no) hM ?_
 refine wR <| LM.as rfl <| nB [(0, _), (1, _)] <| LM.mv rfl <| LM.as rfl <| nA [(0, _), (1, _), (5, _)] <| wpM.seq <| wR <| LM.mv rfl <| LM.as rfl <| nA [(0, _), (5, _), (6, _)] <| wpM.block ?_
 refine wpM.loopK0 (α := BitVec 64 × BitVec 64) (fun ⟨met, todo⟩ => [(5, U met), (6, U todo)]) [(0, _)] (fun ⟨met, todo⟩ => [gB b G]) (fun ⟨met, todo⟩ => OvI G s met todo) (fun ⟨met, todo⟩ => 64 - card (met &&& ~~~todo)) ((s, s)) ⟨au2, au2, rfl, trivial⟩ au1 (OvI.init G s) ?_
 rintro ⟨met, todo⟩ hi
 change wpM _ _ _ _ _ _ _ ([gB b G]) _ _ _
 refine wpM.seq <| wR <| LM.mv rfl ?_
 refine LM.val (ov_uneq (b := 0#64) rfl rfl) ?_
 refine nA [(0, _), (5, _), (6, _), (12, _)] ?_
 refine wpM.condD rfl (fun h1 => ?_) (fun h1 => ?_)
 ·
  refine wpM.skip <| QM.then <| wpM.block <| wR <| LM.mv rfl ?_
  refine cE Tryd.func50 rfl (fun w hm hc hg => first_at (n := (lsb todo : Nat)) (by unfold firstI; rw [if_neg h1]) w (hT.ext hc)) ?_
  refine LM.as rfl <| nB [(0, _), (5, _), (6, _), (7, _)] <| LM.mv rfl <| LM.mv rfl ?_
  refine cE Tryd.func26 rfl (fun w hm hc hg => without_spec _ _ w) ?_
  refine LM.as rfl <| nB [(0, _), (5, _), (6, _), (7, _)] ?_
  have hlt := (lsb_spec h1).1
  refine LM.mv rfl <| LM.mv rfl <| LM.nc rfl <| LM.val (ovf 126 rfl rfl rfl rfl) ?_
  refine LM.val (ov_idxAN Tryd.underlying126 Tryd.sizeOf34 rfl rfl om) ?_
  refine LM.rd (om_ldE1 ir Tryd.isAgg34 rfl rfl rfl (getq 0#64 om) (by rfl)) ?_
  refine LM.mv rfl ?_
  refine LM.val (ov_uandNot rfl rfl) ?_
  refine LM.as rfl <| nB [(0, _), (5, _), (6, _), (8, _)] <| LM.mv rfl <| LM.mv rfl ?_
  refine LM.val (ov_uor rfl rfl) ?_
  refine LM.as rfl ?_
  refine LM.nil (QM.sub (e' := [(0, _), (5, _), (6, _), (8, _)]) au9 (QM.then (wpM.region ?_)))
  refine LM.mv rfl <| LM.mv rfl ?_
  refine LM.val (ov_uor rfl rfl) ?_
  refine LM.as rfl <| nC [(0, _), (5, _), (6, _)] <| QM.block_normal ?_
  refine QM.againK (met ||| frs G met (lsb todo), witho todo (lsb todo : Nat) ||| frs G met (lsb todo)) ⟨au2, au2, rfl, trivial⟩ au1 (fun _ h => h) ?_ ?_
  · exact (hi.step h1).1
  · exact (hi.step h1).2
 refine wpM.exit <| QM.then_exit <| QM.then_exit <| QM.block_hit <| tR <| LM.mv rfl <| LM.as rfl <| nA [(4, _)] <| wpM.ret ?_
 refine qL Tryd.results88 rfl fun w' hm' hc' hg' => ?_
 have h0 : todo = 0#64 := (by simpa using h1); subst h0; exact ⟨by simp only [resV]; rw [hi.end], hc'⟩
theorem closes_spec (b : Nat) (G : Gr) (who : Int) (s : BitVec 64) (w : World) (hG : G.length = 64) (hT : Tab w) (hM : Mem w [gB b G]) : Ret Tryd.prog 77 #[.pointer (some ⟨b, 0, none⟩), .int .i64 who, U s] w (fun v w' => v = .bool (sHas (ovr G s) who) ∧ Ext w w') := by
 refine Ret.enterM Tryd.func77 rfl Tryd.ntmps77 rfl ([gB b G]) (no) hM ?_
 refine wR <| LM.as rfl <| nB [(0, _), (1, _), (2, _)] <| LM.mv rfl <| LM.mv rfl ?_
 refine cE Tryd.func76 rfl (fun w hm hc hg => gis_spec _ _ w) ?_
 refine LM.mv rfl ?_
 refine LM.splitB (t := 10) rfl (fun h1 => ?_) (fun h1 => ?_)
 ·
  refine LM.sp 10 rfl rfl rfl <| LM.mv rfl <| LM.sp 10 rfl rfl rfl <| LM.mv rfl <| LM.sp 10 rfl rfl rfl ?_
  refine cE Tryd.func88 rfl (fun w hm hc hg => over_spec b G _ w hG (hT.ext hc) (hm.pick _)) ?_
  refine LM.sp 10 rfl rfl rfl <| LM.mv rfl <| LM.sp 10 rfl rfl rfl ?_
  refine cE Tryd.func27 rfl (fun w hm hc hg => ihas_spec _ _ w) ?_
  refine LM.val (ov_pickT rfl rfl) <| LM.as rfl <| nA [(6, _)] <| wpM.ret ?_
  refine qL Tryd.results77 rfl fun w' hm' hc' hg' => ?_
  exact ⟨rfl, hc'⟩
 refine LM.dr 10 rfl rfl rfl <| LM.dr 10 rfl rfl rfl <| LM.dr 10 rfl rfl rfl <| LM.dr 10 rfl rfl rfl <| LM.dr 10 rfl rfl rfl <| LM.val (ov_pickF rfl rfl) <| LM.as rfl <| nA [(6, _)] <| wpM.ret ?_
 refine qL Tryd.results77 rfl fun w' hm' hc' hg' => ?_
 refine ⟨?_, hc'⟩; simp only [resV]; congr 1; cases hh : sHas (ovr G s) who; rfl; (have := sHas_rng hh; simp [inG, this.1, this.2] at h1)
theorem wait_spec (b : Nat) (G : Gr) (who : Int) (s : BitVec 64) (w : World) (hG : G.length = 64) (hT : Tab w) (hb0 : 0 < b) (hM : Mem w [gB b G]) : Ret Tryd.prog 49 #[.pointer (some ⟨b, 0, none⟩), .int .i64 who, U s] w (WrP b (.int .i64 (wtE G who s)) (gO (wtG G who s)) w) := by
 refine Ret.enterM Tryd.func49 rfl Tryd.ntmps49 rfl ([gB b G]) ((fun x => x = b)) hM ?_
 refine wR <| LM.as rfl <| nA [(0, _), (1, _), (2, _)] <| wpM.seq <| wpM.block <| wR <| LM.mv rfl <| LM.mv rfl ?_
 refine cE Tryd.func76 rfl (fun w hm hc hg => gis_spec _ _ w) ?_
 refine LM.val (ov_not rfl) ?_
 refine LM.as rfl <| nA [(0, _), (1, _), (2, _), (7, _)] ?_
 refine wpM.condB rfl (fun h1 => ?_) (fun h1 => ?_)
 ·
  refine wR <| LM.as rfl <| nA [(6, _)] <| wpM.ret <| QM.block_ret <| QM.then_ret ?_
  refine qL Tryd.results49 rfl fun w' hm' hc' hg' => ?_
  have he : wtE G who s = 1 := (by unfold wtE; rw [if_neg (by simpa using h1)]); refine ⟨by rw [he]; rfl, hc', ?_⟩; unfold wtG; rw [if_neg om]; exact hm'.at b
 have hin := inG_iff.1 (show inG who = true by simpa using h1)
 refine wR <| LM.mv rfl <| LM.mv rfl <| LM.mv rfl ?_
 refine cE Tryd.func77 rfl (fun w hm hc hg => closes_spec b G _ _ w hG (hT.keep hc (fun h => by omega)) (hm.pick _)) ?_
 refine LM.as rfl <| nA [(0, _), (1, _), (2, _), (12, _)] ?_
 refine wpM.condB rfl (fun h2 => ?_) (fun h2 => ?_)
 ·
  refine wR <| LM.as rfl <| nA [(6, _)] <| wpM.ret <| QM.block_ret <| QM.then_ret ?_
  refine qL Tryd.results49 rfl fun w' hm' hc' hg' => ?_
  have he : wtE G who s = 9 := (by unfold wtE; rw [if_pos (by simpa using h1), if_pos h2]); refine ⟨by rw [he]; rfl, hc', ?_⟩; unfold wtG; rw [if_neg om]; exact hm'.at b
 refine wpM.skip <| QM.block_normal <| tR <| LM.mv rfl <| LM.mv rfl <| LM.mv rfl <| LM.nc rfl <| LM.val (ovf 126 rfl rfl rfl rfl) ?_
 refine LM.val (ov_idxA Tryd.underlying126 Tryd.sizeOf34 rfl rfl om) ?_
 refine LM.stE1 (f := fU) _ ir Tryd.sizeOf34 rfl rfl rfl rfl (getq 0#64 om) rfl rfl rfl (fun _ => rfl) ?_
 refine LM.nil (QM.sub (e' := []) trivial (QM.then (wpM.seq (wpM.region ?_))))
 refine LM.as rfl <| nA [(6, _)] <| wpM.ret ?_
 refine qL Tryd.results49 rfl fun w' hm' hc' hg' => ?_
 have he : wtE G who s = 0 := (by unfold wtE; rw [if_pos (by simpa using h1), if_neg (by rw [h2]; simp)]); refine ⟨by rw [he]; rfl, hc', ?_⟩; unfold wtG; rw [if_pos he]; exact hm'.at b
structure BhI (G : Gr) (w : Nat) (X : BitVec 64) : Prop where
  sound : ∀ i : Nat, sHas X i = true → Rch G (ot G i) w
theorem BhI.zero (G : Gr) (w : Nat) : BhI G w 0#64 := ⟨fun i h => by rw [sHas_zero] at h; cases h⟩
theorem BhI.put {G : Gr} {w : Nat} {X : BitVec 64} {i : Nat} (h : BhI G w X) (hw : w < 64) (hb : (!sHas X (i : Nat) && decide (ot G i &&& withS X w ≠ 0#64)) = true) : BhI G w (withS X (i : Nat)) ∧ (i < 64 → card X < card (withS X (i : Nat))) := by
  rw [Bool.and_eq_true, Bool.not_eq_true', decide_eq_true_eq] at hb
  refine ⟨⟨fun j hj => ?_⟩, fun hi => card_with om om hb.1⟩
  rw [sHas_withS, Bool.or_eq_true] at hj
  rcases hj with hj | hj
  · exact h.sound j hj
  · simp only [Bool.and_eq_true, decide_eq_true_eq] at hj
    have : j = i := by omega
    subst this
    obtain ⟨k, hk⟩ : ∃ k : Nat, sHas (ot G j &&& withS X w) k = true := by
      apply Classical.byContradiction; intro hn; apply hb.2
      apply set_ext; intro k _; rw [sHas_zero]
      cases h2 : sHas (ot G j &&& withS X w) k
      · rfl
      · exact absurd ⟨k, h2⟩ hn
    rw [sHas_and, Bool.and_eq_true, sHas_withS, Bool.or_eq_true] at hk
    rcases hk.2 with h3 | h3
    · exact .trans (.base hk.1) (h.sound k h3)
    · simp only [Bool.and_eq_true, decide_eq_true_eq] at h3
      have : k = w := by omega
      subst this; exact .base hk.1
end Go.Eng
