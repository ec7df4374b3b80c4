/- The places of stays that are open, by their tasks; no program. No condition. -/
import Derived.Test.YtpemcncnehhgfaaStayLaw
import Derived.Test.YtpemcncnehhgfaaEng9
set_option linter.unusedVariables false
set_option linter.unusedSimpArgs false
namespace Go.Eng
open Go Go.RowKit

instance : Inhabited St := ⟨⟨0, 0, 0#64, 0#64, 0, false⟩⟩
instance : Inhabited Ev := ⟨⟨0#64, 0, 0, 0, 0⟩⟩
def isOpn (t : Int) (s : St) : Bool := decide (s.task = t) && decide (s.fin = 0)
def opn (out : List St) (t : Int) : List Int := ((List.range out.length).filter (fun i => isOpn t (out.getD i default))).map Int.ofNat
theorem opn_mem {out : List St} {t : Int} {p : Int} : p ∈ opn out t ↔ ∃ j : Nat, p = j ∧ j < out.length ∧ isOpn t (out.getD j default) = true := by
  simp only [opn, List.mem_map, List.mem_filter, List.mem_range]
  constructor
  · rintro ⟨j, ⟨h1, h2⟩, rfl⟩; exact ⟨j, rfl, h1, h2⟩
  · rintro ⟨j, rfl, h1, h2⟩; exact ⟨j, ⟨h1, h2⟩, rfl⟩
theorem opn_len (out : List St) (t : Int) : (opn out t).length ≤ out.length := by
  unfold opn; rw [List.length_map]; refine Nat.le_trans (List.length_filter_le _ _) ?_; simp
theorem not_in_take {α : Type} {l : List α} (h : l.Nodup) {i : Nat} (hi : i < l.length) (d : α) : l.getD i d ∉ l.take i := by
  intro hm
  obtain ⟨j, hj⟩ := List.getElem?_of_mem hm
  have hlt := (List.getElem?_eq_some_iff.1 hj).1
  rw [List.length_take] at hlt
  rw [List.getElem?_take_of_lt (by omega)] at hj
  have h2 := getq d hi
  rw [List.getElem?_eq_getElem (by omega)] at hj
  rw [List.getElem?_eq_getElem hi] at h2
  exact List.pairwise_iff_getElem.1 h j i (by omega) hi (by omega) (Option.some.inj (hj.trans h2.symm))
theorem opn_nodup (out : List St) (t : Int) : (opn out t).Nodup := by
  unfold opn
  refine List.Pairwise.map _ ?_ (List.nodup_range.filter _)
  intro a b h e; exact h (Int.ofNat.inj e)
theorem opn_snoc (out : List St) (x : St) (t : Int) : opn (out ++ [x]) t = opn out t ++ (if isOpn t x then [(out.length : Int)] else []) := by
  unfold opn
  rw [List.length_append, List.length_singleton, List.range_succ, List.filter_append, List.map_append]
  congr 1
  · congr 1
    apply List.filter_congr
    intro i hi
    rw [List.mem_range] at hi
    rw [List.getD_eq_getElem?_getD, List.getElem?_append_left hi, ← List.getD_eq_getElem?_getD]
  · simp only [List.filter_cons, List.filter_nil]
    rw [List.getD_eq_getElem?_getD, List.getElem?_append_right (Nat.le_refl _), Nat.sub_self]
    simp only [List.getElem?_cons_zero, Option.getD_some]
    split <;> simp
theorem getD_map {α β : Type} (f : α → β) (l : List α) (i : Nat) (d : α) (d' : β) (h : i < l.length) : (l.map f).getD i d' = f (l.getD i d) := by
  simp [List.getD_eq_getElem?_getD, List.getElem?_map, List.getElem?_eq_getElem h]
theorem opn_one (en : St → Ev → Int) (x : St) (e : Ev) : isOpn e.task (stepT en x e) = (decide (en x e = 0) && isOpn e.task x) := by
  unfold isOpn stepT
  by_cases h1 : x.fin = 0 <;> by_cases h2 : x.task = e.task <;> by_cases h3 : en x e = 0 <;> simp [h1, h2, h3]
theorem opn_two (en : St → Ev → Int) (x : St) (e : Ev) (t : Int) (ht : ¬ t = e.task) : isOpn t (stepT en x e) = isOpn t x := by
  unfold isOpn stepT
  by_cases h1 : x.fin = 0 <;> by_cases h2 : x.task = e.task <;> by_cases h3 : en x e = 0 <;> simp [h1, h2, h3, Ne.symm ht]
theorem opn_step (en : St → Ev → Int) (out : List St) (e : Ev) (t : Int) :
    opn (out.map (fun s => stepT en s e)) t = if t = e.task then (opn out t).filter (fun p => decide (en (out.getD p.toNat default) e = 0)) else opn out t := by
  unfold opn
  rw [List.length_map, List.filter_map, List.filter_filter]
  by_cases ht : t = e.task
  · subst ht
    rw [if_pos rfl]
    congr 1
    apply List.filter_congr
    intro i hi
    rw [List.mem_range] at hi
    rw [getD_map _ _ _ default _ hi]
    simp only [Function.comp, Int.ofNat_eq_natCast, Int.toNat_natCast]
    exact opn_one en _ e
  · rw [if_neg ht]
    congr 1
    apply List.filter_congr
    intro i hi
    rw [List.mem_range] at hi
    rw [getD_map _ _ _ default _ hi]
    exact opn_two en _ e t ht
/-- the pass over the places that are open -/
def midT (en : St → Ev → Int) (out : List St) (e : Ev) (ps : List Int) (o : List St) : Prop :=
  o.length = out.length ∧ ∀ j, j < out.length → o.getD j default = if (j : Int) ∈ ps then stepT en (out.getD j default) e else out.getD j default
theorem midT_nil (en : St → Ev → Int) (out : List St) (e : Ev) : midT en out e [] out := ⟨rfl, fun j _ => by simp⟩
theorem getD_set {α : Type} (l : List α) (i j : Nat) (a d : α) (h : i < l.length) : (l.set i a).getD j d = if i = j then a else l.getD j d := by
  simp only [List.getD_eq_getElem?_getD, List.getElem?_set]
  split
  · rename_i e; subst e; simp [h]
  · rfl
theorem midT_put {en : St → Ev → Int} {out : List St} {e : Ev} {ps : List Int} {o : List St} {p : Nat} (h : midT en out e ps o) (hp : (p : Int) ∉ ps) (hl : p < out.length) : midT en out e (ps ++ [(p : Int)]) (o.set p (stepT en (o.getD p default) e)) := by
  have hop : o.getD p default = out.getD p default := by rw [h.2 p hl, if_neg hp]
  refine ⟨by rw [List.length_set]; exact h.1, fun j hj => ?_⟩
  rw [getD_set _ _ _ _ _ (by rw [h.1]; exact hl)]
  by_cases hpj : p = j
  · subst hpj; rw [if_pos rfl, if_pos (by simp), hop]
  · rw [if_neg hpj, h.2 j hj]
    have : ((j : Int) ∈ ps ++ [(p : Int)]) ↔ (j : Int) ∈ ps := by simp; intro h; omega
    simp only [this]
theorem midT_keep {en : St → Ev → Int} {out : List St} {e : Ev} {ps : List Int} {o : List St} {p : Nat} (h : midT en out e ps o) (hl : p < out.length) (he : en (out.getD p default) e = 0) : midT en out e (ps ++ [(p : Int)]) o := by
  refine ⟨h.1, fun j hj => ?_⟩
  rw [h.2 j hj]
  by_cases h1 : (j : Int) ∈ ps
  · rw [if_pos h1, if_pos (by simp [h1])]
  · rw [if_neg h1]
    by_cases h2 : j = p
    · subst h2; rw [if_pos (by simp)]; unfold stepT; rw [if_neg (by intro k; exact k.2.2 he)]
    · rw [if_neg (by simp [h1]; omega)]
theorem midT_done {en : St → Ev → Int} {out : List St} {e : Ev} {o : List St} (h : midT en out e (opn out e.task) o) : o = out.map (fun s => stepT en s e) := by
  apply List.ext_getElem?
  intro j
  by_cases hj : j < out.length
  · have h1 := h.2 j hj
    have h2 : o[j]? = some (o.getD j default) := getq default (by rw [h.1]; exact hj)
    rw [h2, h1, List.getElem?_map, getq default hj, Option.map_some]
    by_cases h3 : (j : Int) ∈ opn out e.task
    · rw [if_pos h3]
    · rw [if_neg h3]; congr 1; unfold stepT; rw [if_neg]
      rintro ⟨h4, h5, _⟩
      exact h3 (opn_mem.2 ⟨j, rfl, hj, by unfold isOpn; rw [decide_eq_true h4, decide_eq_true h5]; rfl⟩)
  · rw [List.getElem?_eq_none (by rw [h.1]; omega), List.getElem?_eq_none (by simp; omega)]

theorem flt_no {en : St → Ev → Int} {out : List St} {e : Ev} {p : Nat} (h : ¬ en (out.getD p default) e = 0) : [(p : Int)].filter (fun p => decide (en (out.getD p.toNat default) e = 0)) = [] := by
  simp only [List.filter_cons, List.filter_nil, Int.toNat_natCast]; rw [if_neg (by rw [decide_eq_true_iff]; exact h)]
theorem flt_yes {en : St → Ev → Int} {out : List St} {e : Ev} {p : Nat} (h : en (out.getD p default) e = 0) : [(p : Int)].filter (fun p => decide (en (out.getD p.toNat default) e = 0)) = [(p : Int)] := by
  simp only [List.filter_cons, List.filter_nil, Int.toNat_natCast]; rw [if_pos (by rw [decide_eq_true_iff]; exact h)]
/-! ### A map of own slices -/
def OwnL (E n0 : Nat) (K : Int → List Int) : List (Int × Value) → Mem0 → Prop
  | [], m => m = []
  | (t, v) :: l, m => ∃ m1 m2, m = m1 ++ m2 ∧ Sl fI E 1 n0 (K t) v m1 ∧ OwnL E n0 K l m2
structure Own (E n0 : Nat) (K : Int → List Int) (l : List (Int × Value)) (m : Mem0) : Prop where
  nd : (l.map (·.1)).Nodup
  own : OwnL E n0 K l m
  non : ∀ t, aget l t = none → K t = []
theorem Own.nil (E n0 : Nat) : Own E n0 (fun _ => []) [] [] := ⟨List.nodup_nil, rfl, fun _ _ => rfl⟩
theorem OwnL.congr {E n0 : Nat} {K K' : Int → List Int} : ∀ {l : List (Int × Value)} {m : Mem0}, OwnL E n0 K l m → (∀ p ∈ l, K' p.1 = K p.1) → OwnL E n0 K' l m
  | [], _, h, _ => h
  | (t, v) :: l, m, ⟨m1, m2, h1, h2, h3⟩, hk => ⟨m1, m2, h1, by rw [hk (t, v) (List.mem_cons_self ..)]; exact h2, h3.congr (fun p hp => hk p (List.mem_cons_of_mem _ hp))⟩
theorem aput_keys : ∀ (l : List (Int × Value)) (t : Int) (v : Value) (x : Int), x ∈ (aput l t v).map (·.1) ↔ x = t ∨ x ∈ l.map (·.1)
  | [], t, v, x => by simp [aput_nil]
  | (b, u) :: l, t, v, x => by
    rw [aput_cons]
    by_cases h : t = b
    · subst h; simp
    · rw [if_neg h]; simp only [List.map_cons, List.mem_cons, aput_keys l t v x]; constructor
      · rintro (h | h | h) <;> simp [h]
      · rintro (h | h | h) <;> simp [h]
theorem aput_nd : ∀ (l : List (Int × Value)) (t : Int) (v : Value), (l.map (·.1)).Nodup → ((aput l t v).map (·.1)).Nodup
  | [], t, v, _ => by simp [aput_nil]
  | (b, u) :: l, t, v, h => by
    rw [aput_cons]
    simp only [List.map_cons, List.nodup_cons] at h
    by_cases hb : t = b
    · subst hb; simpa using h
    · rw [if_neg hb]; simp only [List.map_cons, List.nodup_cons]
      refine ⟨fun hm => ?_, aput_nd l t v h.2⟩
      rcases (aput_keys l t v b).1 hm with h1 | h1
      · exact hb h1.symm
      · exact h.1 h1
theorem aget_none_of {l : List (Int × Value)} {t : Int} (h : t ∉ l.map (·.1)) : aget l t = none := by
  induction l with
  | nil => rfl
  | cons p l ih => obtain ⟨b, u⟩ := p; simp only [List.map_cons, List.mem_cons, not_or] at h; rw [aget_cons, if_neg h.1]; exact ih h.2
theorem OwnL.look {E n0 : Nat} {K : Int → List Int} (t : Int) (z : Value) : ∀ {l : List (Int × Value)} {m : Mem0}, (l.map (·.1)).Nodup → OwnL E n0 K l m → (aget l t = none → K t = [] ∧ z = .slice none 0 0) →
    ∃ m1 m2, Sl fI E 1 n0 (K t) ((aget l t).getD z) m1 ∧ m.Perm (m1 ++ m2) ∧ ∀ (K' : Int → List Int) (v' : Value) (m1' : Mem0), Sl fI E 1 n0 (K' t) v' m1' → (∀ x, x ≠ t → K' x = K x) → ∃ m', m'.Perm (m1' ++ m2) ∧ OwnL E n0 K' (aput l t v') m'
  | [], m, _, h, hn => by
    obtain ⟨h1, h2⟩ := hn rfl
    have h : m = [] := h
    subst h
    refine ⟨[], [], by rw [h1, h2]; exact .nil _ _ _ _, .refl _, fun K' v' m1' hs hk => ⟨m1' ++ [], by simp, m1', [], rfl, hs, rfl⟩⟩
  | (b, u) :: l, m, hnd, ⟨m1, m2, hm, hs, ho⟩, hn => by
    simp only [List.map_cons, List.nodup_cons] at hnd
    rw [aget_cons] at *
    by_cases hb : t = b
    · subst hb
      refine ⟨m1, m2, by rw [if_pos rfl]; exact hs, by rw [hm], fun K' v' m1' hs' hk => ⟨m1' ++ m2, .refl _, ?_⟩⟩
      rw [aput_cons, if_pos rfl]
      exact ⟨m1', m2, rfl, hs', ho.congr (fun p hp => hk _ (fun e => hnd.1 (by rw [← e]; exact List.mem_map_of_mem hp)))⟩
    · rw [if_neg hb] at hn ⊢
      obtain ⟨n1, n2, h1, h2, h3⟩ := OwnL.look t z hnd.2 ho hn
      refine ⟨n1, m1 ++ n2, h1, ?_, fun K' v' m1' hs' hk => ?_⟩
      · rw [hm]
        exact (h2.append_left m1).trans (by rw [← List.append_assoc, ← List.append_assoc]; exact List.perm_append_comm.append_right _)
      · obtain ⟨m', h4, h5⟩ := h3 K' v' m1' hs' hk
        refine ⟨m1 ++ m', (h4.append_left m1).trans (by rw [← List.append_assoc, ← List.append_assoc]; exact List.perm_append_comm.append_right _), ?_⟩
        rw [aput_cons, if_neg hb]
        exact ⟨m1, m', rfl, by rw [hk b (Ne.symm hb)]; exact hs, h5⟩
theorem Own.look {E n0 : Nat} {K : Int → List Int} {l : List (Int × Value)} {m : Mem0} (h : Own E n0 K l m) (t : Int) :
    ∃ ad n cap m1 m2, (aget l t).getD (.slice none 0 0) = .slice ad n cap ∧ n = (K t).length ∧ Sl fI E 1 n0 (K t) (.slice ad n cap) m1 ∧ m.Perm (m1 ++ m2) ∧ ∀ (K' : Int → List Int) (v' : Value) (m1' : Mem0), Sl fI E 1 n0 (K' t) v' m1' → (∀ x, x ≠ t → K' x = K x) → ∃ m', m'.Perm (m1' ++ m2) ∧ Own E n0 K' (aput l t v') m' := by
  obtain ⟨m1, m2, h1, h2, h3⟩ := h.own.look t (.slice none 0 0) h.nd (fun hn => ⟨h.non t hn, rfl⟩)
  obtain ⟨ad, cap, hv⟩ := h1.form
  refine ⟨ad, _, cap, m1, m2, hv, rfl, hv ▸ h1, h2, fun K' v' m1' hs hk => ?_⟩
  obtain ⟨m', h4, h5⟩ := h3 K' v' m1' hs hk
  refine ⟨m', h4, aput_nd l t v' h.nd, h5, fun x hx => ?_⟩
  rw [aget_aput] at hx
  split at hx
  · cases hx
  · rename_i hne; rw [hk x hne]; exact h.non x hx
end Go.Eng
