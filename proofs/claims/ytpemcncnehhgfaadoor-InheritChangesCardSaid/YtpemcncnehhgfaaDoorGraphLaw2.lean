/- Who waits for whom: edges, deeds; no program. No condition. -/
import Derived.Test.YtpemcncnehhgfaaDoorGraphLaw
set_option linter.unusedVariables false
set_option linter.unusedSimpArgs false
namespace Go.Eng
open Go Go.RowKit

structure Ed where
  who : Int
  to : Int
deriving Inhabited, DecidableEq
def fEd (e : Ed) : List Value := [.int .i64 e.who, .int .i64 e.to]
structure Dd where
  kind : Int
  who : Int
  set : BitVec 64
deriving Inhabited
def fDd (d : Dd) : List Value := [.int .u8 d.kind, .int .i64 d.who, U d.set]
def unS (G : Gr) (x : Ed) : Gr := if (inG x.who && inG x.to) = true then G.set x.who.toNat (withS (ot G x.who.toNat) x.to) else G
def unG (l : List Ed) : Gr := l.foldl unS zeroG
theorem take_fold {α β : Type} (f : β → α → β) (b : β) (d : α) {l : List α} {i : Nat} (h : i < l.length) : (l.take (i + 1)).foldl f b = f ((l.take i).foldl f b) (l.getD i d) := by
  rw [take_snoc d h, List.foldl_append]; rfl
theorem unS_len {G : Gr} (h : G.length = 64) (x : Ed) : (unS G x).length = 64 := by unfold unS; split <;> simp [h]
theorem fold_len {α : Type} {f : Gr → α → Gr} (hf : ∀ G x, G.length = 64 → (f G x).length = 64) : ∀ (l : List α) (G : Gr), G.length = 64 → (l.foldl f G).length = 64
  | [], _, h => h
  | x :: l, G, h => fold_len hf l _ (hf G x h)
theorem unG_len (l : List Ed) : (unG l).length = 64 := fold_len (fun G x h => unS_len h x) l _ zeroG_len
/-- more edges -/
def GLe (G F : Gr) : Prop := ∀ j k : Nat, hasB (ot G j) k = true → hasB (ot F j) k = true
theorem GLe.refl (G : Gr) : GLe G G := fun _ _ h => h
theorem GLe.trans {A B C : Gr} (h : GLe A B) (k : GLe B C) : GLe A C := fun j i hb => k j i (h j i hb)
theorem unS_le {G : Gr} (h : G.length = 64) (x : Ed) : GLe G (unS G x) := fun j k hb => by
  unfold unS
  by_cases hc : (inG x.who && inG x.to) = true
  · rw [if_pos hc]
    rw [Bool.and_eq_true, inG_iff, inG_iff] at hc
    rw [ot_set h (by omega)]
    by_cases e : j = x.who.toNat
    · rw [if_pos e, hasB_withS, ← e, hb]; rfl
    · rw [if_neg e]; exact hb
  · rw [if_neg hc]; exact hb
theorem fold_le : ∀ (l : List Ed) (G : Gr), G.length = 64 → GLe G (l.foldl unS G)
  | [], G, _ => .refl G
  | x :: l, G, h => (unS_le h x).trans (fold_le l _ (unS_len h x))
theorem unG_take (l : List Ed) (i : Nat) : GLe (unG (l.take i)) (unG l) := by
  have : unG l = (l.drop i).foldl unS (unG (l.take i)) := by
    unfold unG; rw [← List.foldl_append, List.take_append_drop]
  rw [this]; exact fold_le _ _ (unG_len _)
def cycB (l : List Ed) : Bool := (List.range 64).any (fun i => hasB (ovr (unG l) (ot (unG l) i)) (i : Nat))
theorem cycB_iff (l : List Ed) : cycB l = true ↔ ∃ i : Nat, Rch (unG l) (ot (unG l) i) i := by
  unfold cycB; rw [List.any_eq_true]
  constructor
  · rintro ⟨i, _, h⟩; exact ⟨i, (ovr_iff _ _ _).1 h⟩
  · rintro ⟨i, h⟩; exact ⟨i, List.mem_range.2 h.lt, (ovr_iff _ _ _).2 h⟩
theorem cycB_no {l : List Ed} (h : Acy (unG l)) : cycB l = false := by
  cases hc : cycB l
  · rfl
  · obtain ⟨i, hi⟩ := (cycB_iff l).1 hc; exact absurd hi (h i)
/-- an edge that closes a cycle is in the graph of all -/
theorem cycB_yes {l : List Ed} {i : Nat} (hi : i < l.length) (h1 : (inG (l.getD i default).who && inG (l.getD i default).to) = true) (h2 : ¬ wtE (unG (l.take i)) (l.getD i default).who (withS (ofG (unG (l.take i)) (l.getD i default).who) (l.getD i default).to) = 0) : cycB l = true := by
  rw [cycB_iff]
  have hc := h1
  rw [Bool.and_eq_true] at hc
  have hw := inG_iff.1 hc.1
  have hr : hasB (ovr (unG (l.take i)) (withS (ot (unG (l.take i)) (l.getD i default).who.toNat) (l.getD i default).to)) (l.getD i default).who = true := by
    unfold wtE ofG at h2; rw [if_pos hc.1, if_pos hc.1] at h2
    apply Classical.byContradiction; intro hn; rw [if_neg hn] at h2; exact h2 rfl
  have e : (((l.getD i default).who.toNat : Nat) : Int) = (l.getD i default).who := by omega
  rw [← e] at hr
  have hR := (ovr_iff _ _ _).1 hr
  refine ⟨_, hR.mono (unG_take l i) (fun k hk => ?_)⟩
  have hle := unG_take l (i + 1)
  have hu : unG (l.take (i + 1)) = unS (unG (l.take i)) (l.getD i default) := take_fold unS zeroG default hi
  apply hle
  rw [hu]; unfold unS; rw [if_pos h1, ot_set (unG_len _) (by omega), if_pos rfl]
  exact hk
theorem unS_wait {G : Gr} {x : Ed} (h1 : (inG x.who && inG x.to) = true) (h2 : wtE G x.who (withS (ofG G x.who) x.to) = 0) : wtG G x.who (withS (ofG G x.who) x.to) = unS G x := by
  have hc := h1
  rw [Bool.and_eq_true] at hc
  unfold wtG unS ofG at *
  rw [if_pos hc.1] at *
  rw [if_pos h2, if_pos h1]

/-! the document's -/
structure RvI (G : Gr) (s X : BitVec 64) : Prop where
  sup : ∀ i : Nat, hasB s i = true → hasB X i = true
  sound : ∀ i : Nat, hasB X i = true → Rch G s i
theorem RvI.init (G : Gr) (s : BitVec 64) : RvI G s s := ⟨fun _ h => h, fun _ h => .base h⟩
theorem RvI.put {G : Gr} {s X : BitVec 64} {i : Nat} (h : RvI G s X) (hb : (hasB X (i : Nat) && decide (ot G i &&& ~~~X ≠ 0#64)) = true) : RvI G s (X ||| ot G i) ∧ card X < card (X ||| ot G i) := by
  rw [Bool.and_eq_true, decide_eq_true_eq] at hb
  refine ⟨⟨fun k hk => by rw [hasB_or, h.sup k hk]; rfl, fun k hk => ?_⟩, ?_⟩
  · rw [hasB_or, Bool.or_eq_true] at hk
    rcases hk with hk | hk
    · exact h.sound k hk
    · exact .step (h.sound i hb.1) hk
  · obtain ⟨k, h1, h2⟩ := sub_or_ne hb.2
    exact card_lt (fun q hq => by rw [hasB_or, hq]; rfl) (by rw [hasB_or, h1]; simp) h2
def CloN (G : Gr) (X : BitVec 64) (n : Nat) : Prop := ∀ j : Nat, j < n → hasB X j = true → ∀ i : Nat, hasB (ot G j) i = true → hasB X i = true
theorem CloN.step {G : Gr} {X : BitVec 64} {n : Nat} (h : CloN G X n) (hb : (hasB X (n : Nat) && decide (ot G n &&& ~~~X ≠ 0#64)) = false) : CloN G X (n + 1) := fun j hj hx i hi => by
  by_cases e : j = n
  · subst e
    rw [hx, Bool.true_and, decide_eq_false_iff_not, Classical.not_not] at hb
    exact sub6_iff.1 hb i (hasB_natlt hi) hi
  · exact h j (by omega) hx i hi
theorem RvI.end {G : Gr} {s X : BitVec 64} (h : RvI G s X) (hc : CloN G X 64) : X = ovr G s := ovr_of ⟨h.sup, h.sound, fun j i hj hi => hc j (hasB_natlt hj) hj i hi⟩
def bhN (G : Gr) (who : Int) (n : Nat) : BitVec 64 := (List.range n).foldl (fun a (i : Nat) => if hasB (ovr G (ot G i)) who = true then withS a (i : Nat) else a) 0#64
theorem bhN_succ (G : Gr) (who : Int) (n : Nat) : bhN G who (n + 1) = if hasB (ovr G (ot G n)) who = true then withS (bhN G who n) (n : Nat) else bhN G who n := by
  unfold bhN; rw [List.range_succ, List.foldl_append]; rfl
theorem bhN_end (G : Gr) (who : Int) : bhN G who 64 = bhdG G who := by
  unfold bhdG
  by_cases h : inG who = true
  · rw [if_pos h]
    have hw := inG_iff.1 h
    have e : ((who.toNat : Nat) : Int) = who := by omega
    unfold bhN bhd mkS; rw [e]
  · rw [if_neg h]
    have : ∀ n, bhN G who n = 0#64 := by
      intro n
      induction n with
      | zero => rfl
      | succ n ih =>
        rw [bhN_succ, if_neg, ih]
        intro hb; have := hasB_rng hb; exact h (inG_iff.2 this)
    exact this 64
theorem ovr_zero (G : Gr) : ovr G 0#64 = 0#64 := by
  apply set_ext; intro i hi; rw [hasB_zero]
  cases h : hasB (ovr G 0#64) i
  · rfl
  · exfalso
    have : ∀ {k : Nat}, Rch G 0#64 k → False := by
      intro k hr
      induction hr with
      | base hb => rw [hasB_zero] at hb; cases hb
      | step _ _ ih => exact ih
    exact this ((ovr_iff G _ i).1 h)
/-! all edges -/
def edI (G : Gr) (i : Nat) : List Ed := (allL (ot G i)).map (fun (k : Nat) => ⟨i, k⟩)
def edN (G : Gr) (n : Nat) : List Ed := (List.range n).flatMap (edI G)
theorem edN_succ (G : Gr) (n : Nat) : edN G (n + 1) = edN G n ++ edI G n := by unfold edN; rw [List.range_succ, List.flatMap_append]; simp
theorem edI_len (G : Gr) (i : Nat) : (edI G i).length ≤ 64 := by unfold edI; rw [List.length_map]; exact card_le _
theorem edN_len (G : Gr) : ∀ n, (edN G n).length ≤ 64 * n
  | 0 => Nat.le_refl _
  | n + 1 => by have := edN_len G n; have := edI_len G n; rw [edN_succ, List.length_append]; omega
/-! deeds -/
def gAll (l : List Dd) : Gr := l.foldl (fun G d => wtG G d.who d.set) zeroG
theorem gAll_len (l : List Dd) : (gAll l).length = 64 := fold_len (fun G x h => wtG_len h _ _) l _ zeroG_len
theorem gAll_acy (l : List Dd) : Acy (gAll l) := by
  have : ∀ (l : List Dd) (G : Gr), G.length = 64 → Acy G → Acy (l.foldl (fun G d => wtG G d.who d.set) G) := by
    intro l
    induction l with
    | nil => intro G _ h; exact h
    | cons d l ih => intro G h1 h2; exact ih _ (wtG_len h1 _ _) (wtG_acy h1 h2 _ _)
  exact this l _ zeroG_len acy_zero
theorem shr_and (s : BitVec 64) (n : Nat) : (s >>> n) &&& 1#64 = if s.getLsbD n = true then 1#64 else 0#64 := by
  rw [BitVec.and_one_eq_setWidth_ofBool_getLsbD, BitVec.getLsbD_ushiftRight, Nat.add_zero]
  cases s.getLsbD n <;> rfl
theorem bit_eq {s t : BitVec 64} {n m : Nat} (h : s.getLsbD n = t.getLsbD m) : (s >>> n) &&& 1#64 = (t >>> m) &&& 1#64 := by rw [shr_and, shr_and, h]
/-- what is come to, by those that are waited for -/
def alI (G : Gr) (a : Nat) (i : Nat) (X : BitVec 64) : Prop := ∀ k : Nat, hasB X k = true ↔ hasB (ot G a) k = true ∨ ∃ j, j < i ∧ hasB (ot G a) (j : Nat) = true ∧ Rch G (ot G j) k
theorem alI.init (G : Gr) (a : Nat) : alI G a 0 (ot G a) := fun k => ⟨.inl, fun h => by rcases h with h | ⟨j, hj, _⟩; exact h; omega⟩
theorem alI.yes {G : Gr} {a i : Nat} {X : BitVec 64} (h : alI G a i X) (hb : hasB (ot G a) (i : Nat) = true) : alI G a (i + 1) (X ||| ovr G (ot G i)) := fun k => by
  rw [hasB_or, Bool.or_eq_true, h k, ovr_iff]
  constructor
  · rintro ((h1 | ⟨j, hj, h1⟩) | h1)
    · exact .inl h1
    · exact .inr ⟨j, by omega, h1⟩
    · exact .inr ⟨i, by omega, hb, h1⟩
  · rintro (h1 | ⟨j, hj, h1⟩)
    · exact .inl (.inl h1)
    · by_cases e : j = i
      · subst e; exact .inr h1.2
      · exact .inl (.inr ⟨j, by omega, h1⟩)
theorem alI.no {G : Gr} {a i : Nat} {X : BitVec 64} (h : alI G a i X) (hb : hasB (ot G a) (i : Nat) = false) : alI G a (i + 1) X := fun k => by
  rw [h k]
  constructor
  · rintro (h1 | ⟨j, hj, h1⟩)
    · exact .inl h1
    · exact .inr ⟨j, by omega, h1⟩
  · rintro (h1 | ⟨j, hj, h1⟩)
    · exact .inl h1
    · by_cases e : j = i
      · subst e; rw [hb] at h1; cases h1.1
      · exact .inr ⟨j, by omega, h1⟩
theorem alI.end {G : Gr} {a : Nat} {X : BitVec 64} (h : alI G a 64 X) : X = ovr G (ot G a) := ovr_of ⟨fun i hi => (h i).2 (.inl hi), fun i hi => by
    rcases (h i).1 hi with h1 | ⟨j, _, h1, h2⟩
    · exact .base h1
    · exact (Rch.base h1).trans h2, fun j i hj hi => by
    rcases (h j).1 hj with h1 | ⟨q, hq, h1, h2⟩
    · exact (h i).2 (.inr ⟨j, hasB_natlt h1, h1, .base hi⟩)
    · exact (h i).2 (.inr ⟨q, hq, h1, .step h2 hi⟩)⟩
theorem chn_two (G : Gr) {a : Int} (h0 : 0 ≤ a) (h1 : a < 64) : decide (1 < ((chn G 64 a).length : Int)) = decide (ot G a.toNat ≠ 0#64) := by
  rw [chn, if_pos ⟨h0, h1⟩, List.length_cons]
  apply decide_eq_decide.2
  constructor
  · intro h e
    rw [e, show firstI 0#64 = -1 by decide, chn_off _ _ (by omega)] at h
    simp at h
  · intro h
    have hf : 0 ≤ firstI (ot G a.toNat) ∧ firstI (ot G a.toNat) < 64 := by
      refine ⟨?_, (firstI_lt _).2⟩
      unfold firstI; rw [if_neg h]; omega
    rw [chn, if_pos hf, List.length_cons]; omega
end Go.Eng
