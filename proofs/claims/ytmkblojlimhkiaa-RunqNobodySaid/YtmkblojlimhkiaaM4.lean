/- Run queues: what a queue answers, in plain Lean; no program text in sight. No condition. -/
import Derived.Test.YtmkblojlimhkiaaM2
import Derived.Test.YtmkblojlimhkiaaM3
import Derived.Laws.Externs
set_option linter.unusedVariables false
set_option linter.unusedSimpArgs false
namespace Go.Eng
open Go Go.RowKit
structure Qm where
  g : Int
  fl : BitVec 64
  l : List Kv
  cur : Int
  ran : Int
def bringO (n lo hi : Int) : Int := if n < lo then lo else if hi < n then hi else n
def addO (a b : BitVec 64) : BitVec 64 := if a.toNat + b.toNat < 18446744073709551616 then a + b else 18446744073709551615#64
def coreO (w : Int) : BitVec 64 := 1099511627776#64 / BitVec.ofInt 64 (bringO w 1 4096)
def reachO (w g : Int) : BitVec 64 := coreO w * BitVec.ofInt 64 (bringO g 1 8)
def clampO (v fl r : BitVec 64) : BitVec 64 := if v.toNat < fl.toNat then fl else if (addO fl r).toNat < v.toNat then addO fl r else v
def ixO (l : List Kv) (a : Int) : Nat := l.findIdx (fun t => decide (t.id = a))
def plcO (x : Qm) (v : BitVec 64) (w : Int) : BitVec 64 := clampO v x.fl (reachO w x.g)
def insAll (l : List Kv) : List Kv := l.foldl insK []
def rdyO (x : Qm) : List Kv := insAll (x.l.filter (fun t => decide (t.id ≠ x.cur)))
def loadO (l : List Kv) : Int := (l.map (·.x)).sum
structure QWf (x : Qm) : Prop where
  nd : (x.l.map (·.id)).Nodup
  pos : ∀ t ∈ x.l, 0 ≤ t.id
  len : x.l.length ≤ 16
  wt : ∀ t ∈ x.l, 1 ≤ t.x ∧ t.x ≤ 4096
  cur : x.cur = -1 ∨ ∃ t ∈ x.l, t.id = x.cur
  g : 1 ≤ x.g ∧ x.g ≤ 8
  ran : 0 ≤ x.ran
theorem ixO_cons (t : Kv) (l : List Kv) (a : Int) : ixO (t :: l) a = if t.id = a then 0 else ixO l a + 1 := by
  unfold ixO; rw [List.findIdx_cons]
  by_cases h : t.id = a
  · rw [if_pos h, decide_eq_true h]; rfl
  · rw [if_neg h, decide_eq_false h]; rfl
theorem ixO_hit {l : List Kv} {a : Int} (h : ixO l a < l.length) : (l.getD (ixO l a) default).id = a ∧ l.getD (ixO l a) default ∈ l := by
  have h2 : l.getD (ixO l a) default = l[ixO l a] := by rw [List.getD_eq_getElem?_getD, List.getElem?_eq_getElem h]; rfl
  rw [h2]
  have h3 := List.findIdx_getElem (p := fun t : Kv => decide (t.id = a)) (xs := l) (w := h)
  exact ⟨of_decide_eq_true h3, List.getElem_mem h⟩
theorem ixO_lt {l : List Kv} {a : Int} : ixO l a < l.length ↔ ∃ t ∈ l, t.id = a := by
  unfold ixO; rw [List.findIdx_lt_length]
  exact ⟨fun ⟨t, h, e⟩ => ⟨t, h, of_decide_eq_true e⟩, fun ⟨t, h, e⟩ => ⟨t, h, decide_eq_true e⟩⟩
theorem ixO_app {l m : List Kv} {a : Int} (h : ¬ ixO l a < l.length) : ixO (l ++ m) a = l.length + ixO m a := by
  induction l with
  | nil => simp
  | cons t l ih =>
    rw [ixO_cons] at h
    by_cases e : t.id = a
    · rw [if_pos e] at h; simp at h
    · rw [if_neg e, List.length_cons] at h
      rw [List.cons_append, ixO_cons, if_neg e, ih (by omega), List.length_cons]; omega
theorem uniq_id {l : List Kv} (h : (l.map (·.id)).Nodup) {a b : Kv} (ha : a ∈ l) (hb : b ∈ l) (e : a.id = b.id) : a = b := by
  induction l with
  | nil => cases ha
  | cons t l ih =>
    rw [List.map_cons, List.nodup_cons] at h
    obtain ⟨hq1, hq2⟩ := h
    rcases List.mem_cons.1 ha with ea | ha2
    · rcases List.mem_cons.1 hb with eb | hb2
      · exact ea.trans eb.symm
      · exact absurd (List.mem_map.2 ⟨b, hb2, by rw [← ea]; exact e.symm⟩) hq1
    · rcases List.mem_cons.1 hb with eb | hb2
      · exact absurd (List.mem_map.2 ⟨a, ha2, by rw [← eb]; exact e⟩) hq1
      · exact ih hq2 ha2 hb2
/-! sorted lists -/
theorem srt_ext : ∀ {a b : List Kv}, Srt a → Srt b → (∀ x, x ∈ a ↔ x ∈ b) → a = b
  | [], [], _, _, _ => rfl
  | [], y :: b, _, _, h => absurd ((h y).2 (List.mem_cons_self ..)) (by simp)
  | x :: a, [], _, _, h => absurd ((h x).1 (List.mem_cons_self ..)) (by simp)
  | x :: a, y :: b, ha, hb, h => by
    have h1 := List.pairwise_cons.1 ha
    have h2 := List.pairwise_cons.1 hb
    have hxy : x = y := by
      rcases List.mem_cons.1 ((h x).1 (List.mem_cons_self ..)) with e | e
      · exact e
      · rcases List.mem_cons.1 ((h y).2 (List.mem_cons_self ..)) with e2 | e2
        · exact e2.symm
        · exact absurd (h1.1 y e2) (h2.1 x e).asym
    subst hxy
    refine congrArg _ (srt_ext h1.2 h2.2 (fun z => ?_))
    have hz := h z
    rw [List.mem_cons, List.mem_cons] at hz
    refine ⟨fun q => ?_, fun q => ?_⟩
    · rcases hz.1 (.inr q) with e | e
      · subst e; exact absurd (h1.1 _ q) (yLt.irr _)
      · exact e
    · rcases hz.2 (.inr q) with e | e
      · subst e; exact absurd (h2.1 _ q) (yLt.irr _)
      · exact e
theorem insK_srt {L : List Kv} (h : Srt L) (k : Kv) : Srt (insK L k) := by
  unfold insK Srt
  refine List.pairwise_append.2 ⟨List.Pairwise.filter _ h, List.pairwise_cons.2 ⟨fun y hy => of_decide_eq_true (List.mem_filter.1 hy).2, List.Pairwise.filter _ h⟩, fun x hx y hy => ?_⟩
  have h1 : yLt x k := of_decide_eq_true (List.mem_filter.1 hx).2
  rcases List.mem_cons.1 hy with rfl | hy
  · exact h1
  · exact h1.trans (of_decide_eq_true (List.mem_filter.1 hy).2)
theorem insK_mem {L : List Kv} {k : Kv} (h : ∀ x ∈ L, ¬ yEq x k) (x : Kv) : x ∈ insK L k ↔ x ∈ L ∨ x = k := by
  unfold insK
  simp only [List.mem_append, List.mem_cons, List.mem_filter, decide_eq_true_eq]
  constructor
  · rintro (q | q | q)
    · exact .inl q.1
    · exact .inr q
    · exact .inl q.1
  · rintro (q | q)
    · rcases k_tri x k with e | e | e
      · exact absurd e (h x q)
      · exact .inl ⟨q, e⟩
      · exact .inr (.inr ⟨q, e⟩)
    · exact .inr (.inl q)
theorem foldl_ins : ∀ (l L : List Kv), Srt L → (l.map (·.id)).Nodup → (∀ x ∈ L, ∀ y ∈ l, x.id ≠ y.id) → Srt (l.foldl insK L) ∧ ∀ x, x ∈ l.foldl insK L ↔ x ∈ L ∨ x ∈ l
  | [], L, h, _, _ => ⟨h, fun x => by simp⟩
  | t :: l, L, h, hn, hd => by
    rw [List.map_cons, List.nodup_cons] at hn
    have hm := insK_mem (L := L) (k := t) (fun x hx e => hd x hx t (List.mem_cons_self ..) e.2)
    have ih := foldl_ins l (insK L t) (insK_srt h t) hn.2 (fun x hx y hy => by
      rcases (hm x).1 hx with q | rfl
      · exact hd x q y (List.mem_cons_of_mem _ hy)
      · exact fun e => hn.1 (List.mem_map.2 ⟨y, hy, e.symm⟩))
    refine ⟨ih.1, fun x => ?_⟩
    rw [List.foldl_cons, ih.2 x, hm x, List.mem_cons]
    constructor
    · rintro ((q | q) | q)
      · exact .inl q
      · exact .inr (.inl q)
      · exact .inr (.inr q)
    · rintro (q | q | q)
      · exact .inl (.inl q)
      · exact .inl (.inr q)
      · exact .inr q
theorem nodup_filt {l : List Kv} {p : Kv → Bool} (h : (l.map (·.id)).Nodup) : ((l.filter p).map (·.id)).Nodup := List.Sublist.nodup (List.Sublist.map _ List.filter_sublist) h
theorem rdy_srt {x : Qm} (h : (x.l.map (·.id)).Nodup) : Srt (rdyO x) := (foldl_ins _ [] List.Pairwise.nil (nodup_filt h) (fun x hx => by cases hx)).1
theorem rdy_mem {x : Qm} (h : (x.l.map (·.id)).Nodup) (t : Kv) : t ∈ rdyO x ↔ t ∈ x.l ∧ t.id ≠ x.cur := by
  unfold rdyO insAll
  rw [(foldl_ins _ [] List.Pairwise.nil (nodup_filt h) (fun x hx => by cases hx)).2 t]
  simp
theorem delK_mem (L : List Kv) (k x : Kv) : x ∈ delK L k ↔ x ∈ L ∧ ¬ yEq k x := by
  unfold delK; rw [List.mem_filter, decide_eq_true_eq]
theorem delK_srt {L : List Kv} (h : Srt L) (k : Kv) : Srt (delK L k) := List.Pairwise.filter _ h
theorem rdy_ins {x x' : Qm} {k : Kv} (h : (x.l.map (·.id)).Nodup) (h' : (x'.l.map (·.id)).Nodup) (hk : ∀ t ∈ x.l, t.id ≠ x.cur → t.id ≠ k.id)
    (hm : ∀ t, (t ∈ x'.l ∧ t.id ≠ x'.cur) ↔ (t ∈ x.l ∧ t.id ≠ x.cur) ∨ t = k) : insK (rdyO x) k = rdyO x' :=
  srt_ext (insK_srt (rdy_srt h) k) (rdy_srt h') (fun t => by
    rw [insK_mem (fun t ht e => hk t ((rdy_mem h t).1 ht).1 ((rdy_mem h t).1 ht).2 e.2), rdy_mem h, rdy_mem h', hm])
theorem rdy_del {x x' : Qm} {k : Kv} (h : (x.l.map (·.id)).Nodup) (h' : (x'.l.map (·.id)).Nodup) 
    (hm : ∀ t, (t ∈ x'.l ∧ t.id ≠ x'.cur) ↔ (t ∈ x.l ∧ t.id ≠ x.cur) ∧ ¬ yEq k t) : delK (rdyO x) k = rdyO x' :=
  srt_ext (delK_srt (rdy_srt h) k) (rdy_srt h') (fun t => by rw [delK_mem, rdy_mem h, rdy_mem h', hm])
theorem rdy_same {x x' : Qm} (h : (x.l.map (·.id)).Nodup) (h' : (x'.l.map (·.id)).Nodup) 
    (hm : ∀ t, (t ∈ x'.l ∧ t.id ≠ x'.cur) ↔ (t ∈ x.l ∧ t.id ≠ x.cur)) : rdyO x = rdyO x' :=
  srt_ext (rdy_srt h) (rdy_srt h') (fun t => by rw [rdy_mem h, rdy_mem h', hm])
theorem rdy_len {x : Qm} (h : (x.l.map (·.id)).Nodup) : (rdyO x).length ≤ x.l.length := by
  have : ∀ (l L : List Kv), (l.foldl insK L).length ≤ L.length + l.length := by
    intro l
    induction l with
    | nil => intro L; simp
    | cons t l ih =>
      intro L
      rw [List.foldl_cons, List.length_cons]
      refine Nat.le_trans (ih _) ?_
      have : (insK L t).length ≤ L.length + 1 := by
        unfold insK
        rw [List.length_append, List.length_cons]
        have : ∀ (L : List Kv), (L.filter (fun x => decide (yLt x t))).length + (L.filter (fun x => decide (yLt t x))).length ≤ L.length := by
          intro L
          induction L with
          | nil => simp
          | cons y L ih2 =>
            by_cases h1 : yLt y t
            · rw [List.filter_cons_of_pos (by simpa using h1), List.filter_cons_of_neg (by simpa using h1.asym)]; simp only [List.length_cons]; omega
            · rw [List.filter_cons_of_neg (by simpa using h1)]
              by_cases h2 : yLt t y
              · rw [List.filter_cons_of_pos (by simpa using h2)]; simp only [List.length_cons]; omega
              · rw [List.filter_cons_of_neg (by simpa using h2)]; simp only [List.length_cons]; omega
        have := this L
        omega
      omega
  have h1 := this (x.l.filter (fun t => decide (t.id ≠ x.cur))) []
  have h2 : (x.l.filter (fun t => decide (t.id ≠ x.cur))).length ≤ x.l.length := List.length_filter_le ..
  unfold rdyO insAll
  simp at h1 ⊢; simp at h2; omega
/-! what is done -/
def newQ (g : Int) : Qm := ⟨bringO g 1 8, 0#64, [], -1, 0⟩
def addQ (x : Qm) (a : Int) (v : BitVec 64) (w : Int) : Qm := { x with l := x.l ++ [⟨plcO x v (bringO w 1 4096), a, bringO w 1 4096⟩] }
def addE (x : Qm) (a : Int) : Int := if a < 0 then 1 else if ixO x.l a < x.l.length then 12 else if 16 ≤ x.l.length then 3 else 0
def pickQ (x : Qm) (a : Int) : Qm := { x with cur := a, ran := 0 }
def pickO (x : Qm) : Int := if 0 ≤ x.cur then -1 else match rdyO x with | [] => -1 | t :: _ => t.id
def pikQ (x : Qm) : Qm := if pickO x < 0 then x else pickQ x (pickO x)
def dueO (x : Qm) : Bool := if 0 ≤ x.cur ∧ x.g ≤ x.ran then (match rdyO x with | [] => false | t :: _ => decide (t.V.toNat < (x.l.getD (ixO x.l x.cur) default).V.toNat)) else false
def backQ (x : Qm) : Qm := { x with cur := -1, ran := 0 }
def bakQ (x : Qm) : Qm := if 0 ≤ x.cur then backQ x else x
def tickL (l : List Kv) (a : Int) : List Kv := l.set (ixO l a) { l.getD (ixO l a) default with V := addO (l.getD (ixO l a) default).V (coreO (l.getD (ixO l a) default).x) }
def tickQ (x : Qm) : Qm := if 0 ≤ x.cur then { x with l := tickL x.l x.cur, ran := x.ran + 1 } else x
def minO : List Kv → BitVec 64
  | [] => 0#64
  | t :: l => l.foldl (fun m s => if s.V.toNat < m.toNat then s.V else m) t.V
def setlQ (x : Qm) : Qm := match x.l with | [] => x | _ :: _ => if x.fl.toNat < (minO x.l).toNat then { x with fl := minO x.l } else x
def goQ1 (x : Qm) : Qm := if dueO x = true then bakQ x else x
def goQ2 (x : Qm) : Qm := if 0 ≤ (goQ1 x).cur then goQ1 x else pikQ (goQ1 x)
def goQ (x : Qm) : Qm := setlQ (tickQ (goQ2 x))
def goO (x : Qm) : Int := (goQ2 x).cur
/-! they keep a queue whole -/
theorem mem_set_at {l : List Kv} {a : Int} (hn : (l.map (·.id)).Nodup) (h : ixO l a < l.length) {y : Kv} (hy : y.id = a) (t : Kv) : t ∈ l.set (ixO l a) y ↔ t = y ∨ (t ∈ l ∧ t.id ≠ a) := by
  induction l with
  | nil => simp at h
  | cons s l ih =>
    rw [List.map_cons, List.nodup_cons] at hn
    rw [ixO_cons] at h ⊢
    by_cases e : s.id = a
    · rw [if_pos e, List.set_cons_zero, List.mem_cons, List.mem_cons]
      constructor
      · rintro (q | q)
        · exact .inl q
        · exact .inr ⟨.inr q, fun e2 => hn.1 (List.mem_map.2 ⟨t, q, e2.trans e.symm⟩)⟩
      · rintro (q | ⟨q | q, e2⟩)
        · exact .inl q
        · rw [q] at e2; exact absurd e e2
        · exact .inr q
    · rw [if_neg e, List.length_cons] at h
      rw [if_neg e, List.set_cons_succ, List.mem_cons, ih hn.2 (by omega), List.mem_cons]
      constructor
      · rintro (q | q | q)
        · rw [q]; exact .inr ⟨.inl rfl, e⟩
        · exact .inl q
        · exact .inr ⟨.inr q.1, q.2⟩
      · rintro (q | ⟨q | q, e2⟩)
        · exact .inr (.inl q)
        · exact .inl q
        · exact .inr (.inr ⟨q, e2⟩)
theorem map_set_at {l : List Kv} {a : Int} (h : ixO l a < l.length) {y : Kv} (hy : y.id = a) : (l.set (ixO l a) y).map (·.id) = l.map (·.id) := by
  rw [List.map_set]
  apply List.ext_getElem?
  intro i
  rw [List.getElem?_set]
  split
  · rename_i e; subst e
    have := (ixO_hit h).1
    rw [List.getD_eq_getElem?_getD, List.getElem?_eq_getElem h] at this
    rw [if_pos (by simpa using h), List.getElem?_map, List.getElem?_eq_getElem h, Option.map_some, hy]; exact congrArg _ this.symm
  · rfl
theorem bring_in {n lo hi : Int} (h : lo ≤ hi) : lo ≤ bringO n lo hi ∧ bringO n lo hi ≤ hi := by unfold bringO; split; omega; split <;> omega
theorem QWf.ix {x : Qm} (h : QWf x) (hc : 0 ≤ x.cur) : ixO x.l x.cur < x.l.length := by
  rcases h.cur with e | e
  · omega
  · exact ixO_lt.2 e
theorem QWf.cur0 {x : Qm} (h : QWf x) (hc : ¬ 0 ≤ x.cur) : x.cur = -1 := by
  rcases h.cur with e | ⟨t, ht, e⟩
  · exact e
  · have := h.pos t ht; omega
theorem new_wf (g : Int) : QWf (newQ g) := ⟨List.nodup_nil, fun t h => (nomatch h), Nat.zero_le _, fun t h => (nomatch h), .inl rfl, bring_in (by decide), Int.le_refl _⟩
theorem add_wf {x : Qm} (h : QWf x) {a w : Int} {v : BitVec 64} (ha : addE x a = 0) : QWf (addQ x a v w) := by
  unfold addE at ha
  split at ha; · cases ha
  rename_i ha0
  split at ha; · cases ha
  rename_i ha1
  split at ha; · cases ha
  rename_i ha2
  refine ⟨?_, fun t ht => ?_, ?_, fun t ht => ?_, ?_, h.g, h.ran⟩
  · show ((x.l ++ [_]).map _).Nodup
    rw [List.map_append, List.nodup_append]
    refine ⟨h.nd, by simp, fun b hb c hc e => ?_⟩
    obtain ⟨t, ht, rfl⟩ := List.mem_map.1 hb
    simp at hc
    exact ha1 (ixO_lt.2 ⟨t, ht, e.trans hc⟩)
  · rcases List.mem_append.1 ht with q | q
    · exact h.pos t q
    · simp at q; subst q; show 0 ≤ a; omega
  · show (x.l ++ [_]).length ≤ 16
    rw [List.length_append]; simp; omega
  · rcases List.mem_append.1 ht with q | q
    · exact h.wt t q
    · simp at q; subst q; exact bring_in (by decide)
  · rcases h.cur with e | ⟨t, ht, e⟩
    · exact .inl e
    · exact .inr ⟨t, List.mem_append_left _ ht, e⟩
theorem add_rdy {x : Qm} (h : QWf x) {a w : Int} {v : BitVec 64} (ha : addE x a = 0) : insK (rdyO x) ⟨plcO x v (bringO w 1 4096), a, bringO w 1 4096⟩ = rdyO (addQ x a v w) := by
  have h' := add_wf (w := w) (v := v) h ha
  have ha2 : 0 ≤ a ∧ ¬ ixO x.l a < x.l.length := by
    unfold addE at ha
    split at ha; · cases ha
    split at ha; · cases ha
    exact ⟨by omega, by assumption⟩
  have hac : a ≠ x.cur := by
    rcases h.cur with e | e
    · omega
    · intro q; exact ha2.2 (ixO_lt.2 (by rw [q]; exact e))
  refine rdy_ins h.nd h'.nd (fun t ht _ e => ha2.2 (ixO_lt.2 ⟨t, ht, e⟩)) (fun t => ?_)
  show (t ∈ x.l ++ [_] ∧ t.id ≠ x.cur) ↔ _
  rw [List.mem_append, List.mem_singleton]
  constructor
  · rintro ⟨q | q, e⟩
    · exact .inl ⟨q, e⟩
    · exact .inr q
  · rintro (q | q)
    · exact ⟨.inl q.1, q.2⟩
    · subst q; exact ⟨.inr rfl, hac⟩
theorem back_wf {x : Qm} (h : QWf x) : QWf (backQ x) := ⟨h.nd, h.pos, h.len, h.wt, .inl rfl, h.g, Int.le_refl _⟩
theorem bak_wf {x : Qm} (h : QWf x) : QWf (bakQ x) := by unfold bakQ; split; exact back_wf h; exact h
theorem back_rdy {x : Qm} (h : QWf x) (hc : 0 ≤ x.cur) : insK (rdyO x) (x.l.getD (ixO x.l x.cur) default) = rdyO (backQ x) := by
  obtain ⟨h1, h2⟩ := ixO_hit (h.ix hc)
  refine rdy_ins h.nd (back_wf h).nd (fun t ht e q => e (q.trans h1)) (fun t => ?_)
  show (t ∈ x.l ∧ t.id ≠ -1) ↔ _
  constructor
  · rintro ⟨q1, q2⟩
    by_cases e : t.id = x.cur
    · exact .inr (uniq_id h.nd q1 h2 (e.trans h1.symm))
    · exact .inl ⟨q1, e⟩
  · rintro (⟨q1, q2⟩ | rfl)
    · exact ⟨q1, by have := h.pos t q1; omega⟩
    · exact ⟨h2, by have := h.pos _ h2; omega⟩
theorem pick_wf {x : Qm} (h : QWf x) {t : Kv} (ht : t ∈ x.l) : QWf (pickQ x t.id) := ⟨h.nd, h.pos, h.len, h.wt, .inr ⟨t, ht, rfl⟩, h.g, Int.le_refl _⟩
theorem pick_rdy {x : Qm} (h : QWf x) (hc : x.cur = -1) {t : Kv} (ht : t ∈ x.l) {k : Kv} (hk : yEq k t) : delK (rdyO x) k = rdyO (pickQ x t.id) := by
  refine rdy_del h.nd (pick_wf h ht).nd (fun s => ?_)
  show (s ∈ x.l ∧ s.id ≠ t.id) ↔ _
  constructor
  · rintro ⟨q1, q2⟩
    exact ⟨⟨q1, by have := h.pos s q1; omega⟩, fun e => q2 (e.2.symm.trans hk.2)⟩
  · rintro ⟨⟨q1, q2⟩, q3⟩
    exact ⟨q1, fun e => q3 (by rw [uniq_id h.nd q1 ht e]; exact hk)⟩
theorem rdy_hd_mem {x : Qm} (h : QWf x) {t : Kv} {l : List Kv} (e : rdyO x = t :: l) : t ∈ x.l ∧ t.id ≠ x.cur := (rdy_mem h.nd t).1 (by rw [e]; exact List.mem_cons_self ..)
theorem pickO_hit {x : Qm} (h : QWf x) (hc : x.cur = -1) {t : Kv} {l : List Kv} (e : rdyO x = t :: l) : pickO x = t.id ∧ pikQ x = pickQ x t.id := by
  have h1 : pickO x = t.id := by unfold pickO; rw [if_neg (by omega), e]
  have h2 := h.pos t (rdy_hd_mem h e).1
  exact ⟨h1, by unfold pikQ; rw [h1, if_neg (by omega)]⟩
theorem pik_none {x : Qm} (hc : 0 ≤ x.cur ∨ rdyO x = []) : pickO x = -1 ∧ pikQ x = x := by
  have h1 : pickO x = -1 := by
    unfold pickO
    rcases hc with h | h
    · rw [if_pos h]
    · rw [h]; split <;> rfl
  exact ⟨h1, by unfold pikQ; rw [h1, if_pos (by decide)]⟩
theorem pik_wf {x : Qm} (h : QWf x) : QWf (pikQ x) := by
  by_cases hc : 0 ≤ x.cur
  · rw [(pik_none (.inl hc)).2]; exact h
  · cases e : rdyO x with
    | nil => rw [(pik_none (.inr e)).2]; exact h
    | cons t l => rw [(pickO_hit h (h.cur0 hc) e).2]; exact pick_wf h (rdy_hd_mem h e).1
theorem set_wf {x : Qm} (h : QWf x) {a : Int} (ha : ixO x.l a < x.l.length) {y : Kv} (hy : y.id = a) (hw : 1 ≤ y.x ∧ y.x ≤ 4096) {r : Int} (hr : 0 ≤ r) : QWf { x with l := x.l.set (ixO x.l a) y, ran := r } := by
  obtain ⟨h1, h2⟩ := ixO_hit ha
  have hm := mem_set_at h.nd ha hy
  refine ⟨by show ((x.l.set _ y).map _).Nodup; rw [map_set_at ha hy]; exact h.nd, fun t ht => ?_, by show (x.l.set _ y).length ≤ 16; rw [List.length_set]; exact h.len, fun t ht => ?_, ?_, h.g, hr⟩
  · rcases (hm t).1 ht with rfl | q
    · rw [hy, ← h1]; exact h.pos _ h2
    · exact h.pos t q.1
  · rcases (hm t).1 ht with rfl | q
    · exact hw
    · exact h.wt t q.1
  · rcases h.cur with e | ⟨t, ht, e⟩
    · exact .inl e
    · by_cases q : t.id = a
      · exact .inr ⟨y, (hm y).2 (.inl rfl), by rw [hy, ← q]; exact e⟩
      · exact .inr ⟨t, (hm t).2 (.inr ⟨ht, q⟩), e⟩
theorem set_rdyC {x : Qm} (h : QWf x) (hc : 0 ≤ x.cur) {y : Kv} (hy : y.id = x.cur) (hw : 1 ≤ y.x ∧ y.x ≤ 4096) {r : Int} (hr : 0 ≤ r) : rdyO x = rdyO { x with l := x.l.set (ixO x.l x.cur) y, ran := r } := by
  refine rdy_same h.nd (set_wf h (h.ix hc) hy hw hr).nd (fun t => ?_)
  show (t ∈ x.l.set _ y ∧ t.id ≠ x.cur) ↔ _
  rw [mem_set_at h.nd (h.ix hc) hy]
  constructor
  · rintro ⟨rfl | q, e⟩
    · exact absurd hy e
    · exact q
  · rintro q; exact ⟨.inr q, q.2⟩
theorem tick_wf {x : Qm} (h : QWf x) : QWf (tickQ x) := by
  unfold tickQ
  split
  · rename_i hc
    obtain ⟨h1, h2⟩ := ixO_hit (h.ix hc)
    exact set_wf (y := { x.l.getD (ixO x.l x.cur) default with V := addO (x.l.getD (ixO x.l x.cur) default).V (coreO (x.l.getD (ixO x.l x.cur) default).x) }) (r := x.ran + 1) h (h.ix hc) h1 (h.wt (x.l.getD (ixO x.l x.cur) default) h2) (by have := h.ran; omega)
  · exact h
theorem tick_rdy {x : Qm} (h : QWf x) : rdyO x = rdyO (tickQ x) := by
  unfold tickQ
  split
  · rename_i hc
    obtain ⟨h1, h2⟩ := ixO_hit (h.ix hc)
    exact set_rdyC (y := { x.l.getD (ixO x.l x.cur) default with V := addO (x.l.getD (ixO x.l x.cur) default).V (coreO (x.l.getD (ixO x.l x.cur) default).x) }) (r := x.ran + 1) h hc h1 (h.wt (x.l.getD (ixO x.l x.cur) default) h2) (by have := h.ran; omega)
  · rfl
theorem setl_same (x : Qm) : (setlQ x).l = x.l ∧ (setlQ x).cur = x.cur ∧ (setlQ x).ran = x.ran ∧ (setlQ x).g = x.g := by
  unfold setlQ
  split
  · exact ⟨rfl, rfl, rfl, rfl⟩
  · split <;> exact ⟨rfl, rfl, rfl, rfl⟩
theorem setl_wf {x : Qm} (h : QWf x) : QWf (setlQ x) := by
  obtain ⟨h1, h2, h3, h4⟩ := setl_same x
  exact ⟨by rw [h1]; exact h.nd, by rw [h1]; exact h.pos, by rw [h1]; exact h.len, by rw [h1]; exact h.wt, by rw [h1, h2]; exact h.cur, by rw [h4]; exact h.g, by rw [h3]; exact h.ran⟩
theorem rdy_cong {x y : Qm} (h1 : x.l = y.l) (h2 : x.cur = y.cur) : rdyO x = rdyO y := by unfold rdyO; rw [h1, h2]
theorem setl_rdy (x : Qm) : rdyO x = rdyO (setlQ x) := rdy_cong (setl_same x).1.symm (setl_same x).2.1.symm
theorem go1_wf {x : Qm} (h : QWf x) : QWf (goQ1 x) := by unfold goQ1; split; exact bak_wf h; exact h
theorem go2_wf {x : Qm} (h : QWf x) : QWf (goQ2 x) := by unfold goQ2; split; exact go1_wf h; exact pik_wf (go1_wf h)
theorem go_wf {x : Qm} (h : QWf x) : QWf (goQ x) := setl_wf (tick_wf (go2_wf h))
/-! the least V -/
theorem minF_spec : ∀ (l : List Kv) (m : BitVec 64), (l.foldl (fun m s => if s.V.toNat < m.toNat then s.V else m) m = m ∨ ∃ t ∈ l, t.V = l.foldl (fun m s => if s.V.toNat < m.toNat then s.V else m) m) ∧ (l.foldl (fun m s => if s.V.toNat < m.toNat then s.V else m) m).toNat ≤ m.toNat ∧ ∀ t ∈ l, (l.foldl (fun m s => if s.V.toNat < m.toNat then s.V else m) m).toNat ≤ t.V.toNat
  | [], m => ⟨.inl rfl, Nat.le_refl _, fun t h => by cases h⟩
  | s :: l, m => by
    rw [List.foldl_cons]
    obtain ⟨h1, h2, h3⟩ := minF_spec l (if s.V.toNat < m.toNat then s.V else m)
    have h4 : (if s.V.toNat < m.toNat then s.V else m).toNat ≤ m.toNat ∧ (if s.V.toNat < m.toNat then s.V else m).toNat ≤ s.V.toNat := by split <;> omega
    refine ⟨?_, by omega, fun t ht => ?_⟩
    · rcases h1 with q | ⟨t, ht, q⟩
      · by_cases e : s.V.toNat < m.toNat
        · rw [if_pos e] at q ⊢; exact .inr ⟨s, List.mem_cons_self .., q.symm⟩
        · rw [if_neg e] at q ⊢; exact .inl q
      · exact .inr ⟨t, List.mem_cons_of_mem _ ht, q⟩
    · rcases List.mem_cons.1 ht with rfl | ht
      · omega
      · exact h3 t ht
theorem minO_spec {l : List Kv} (h : l ≠ []) : (∃ t ∈ l, t.V = minO l) ∧ ∀ t ∈ l, (minO l).toNat ≤ t.V.toNat := by
  cases l with
  | nil => exact absurd rfl h
  | cons s l =>
    obtain ⟨h1, h2, h3⟩ := minF_spec l s.V
    refine ⟨?_, fun t ht => ?_⟩
    · rcases h1 with q | ⟨t, ht, q⟩
      · exact ⟨s, List.mem_cons_self .., q.symm⟩
      · exact ⟨t, List.mem_cons_of_mem _ ht, q⟩
    · rcases List.mem_cons.1 ht with rfl | ht
      · exact h2
      · exact h3 t ht
theorem minO_eq {l : List Kv} {v : BitVec 64} (h : ∃ t ∈ l, t.V = v) (h2 : ∀ t ∈ l, v.toNat ≤ t.V.toNat) : minO l = v := by
  obtain ⟨t, ht, rfl⟩ := h
  have hne : l ≠ [] := fun e => by rw [e] at ht; cases ht
  obtain ⟨⟨s, hs, e⟩, h3⟩ := minO_spec hne
  have h4 := h3 t ht
  have h5 := h2 s hs
  rw [e] at h5
  exact BitVec.eq_of_toNat_eq (by omega)
theorem srt_hd {t : Kv} {l : List Kv} (h : Srt (t :: l)) : ∀ s ∈ t :: l, t.V.toNat ≤ s.V.toNat := fun s hs => by
  rcases List.mem_cons.1 hs with rfl | hs
  · exact Nat.le_refl _
  · rcases (List.pairwise_cons.1 h).1 s hs with q | q
    · omega
    · rw [q.1]; exact Nat.le_refl _
theorem min_none {x : Qm} (h : QWf x) (hc : ¬ 0 ≤ x.cur) : (rdyO x = [] → x.l = []) ∧ ∀ t l, rdyO x = t :: l → x.l ≠ [] ∧ minO x.l = t.V := by
  have h0 := h.cur0 hc
  have hall : ∀ t ∈ x.l, t ∈ rdyO x := fun t ht => (rdy_mem h.nd t).2 ⟨ht, by have := h.pos t ht; omega⟩
  refine ⟨fun e => ?_, fun t l e => ?_⟩
  · cases q : x.l with
    | nil => rfl
    | cons s m => have := hall s (by rw [q]; exact List.mem_cons_self ..); rw [e] at this; cases this
  · have ht := (rdy_hd_mem h e).1
    refine ⟨fun q => (by rw [q] at ht; cases ht), minO_eq ⟨t, ht, rfl⟩ (fun s hs => srt_hd (l := l) (by rw [← e]; exact rdy_srt h.nd) s (by rw [← e]; exact hall s hs))⟩
theorem min_cur {x : Qm} (h : QWf x) (hc : 0 ≤ x.cur) : x.l ≠ [] ∧ (rdyO x = [] → minO x.l = (x.l.getD (ixO x.l x.cur) default).V) ∧ ∀ t l, rdyO x = t :: l → minO x.l = if t.V.toNat < (x.l.getD (ixO x.l x.cur) default).V.toNat then t.V else (x.l.getD (ixO x.l x.cur) default).V := by
  obtain ⟨h1, h2⟩ := ixO_hit (h.ix hc)
  have hall : ∀ t ∈ x.l, t = x.l.getD (ixO x.l x.cur) default ∨ t ∈ rdyO x := fun t ht => by
    by_cases e : t.id = x.cur
    · exact .inl (uniq_id h.nd ht h2 (e.trans h1.symm))
    · exact .inr ((rdy_mem h.nd t).2 ⟨ht, e⟩)
  refine ⟨fun q => (by rw [q] at h2; cases h2), fun e => minO_eq ⟨_, h2, rfl⟩ (fun s hs => ?_), fun t l e => ?_⟩
  · rcases hall s hs with rfl | q
    · exact Nat.le_refl _
    · rw [e] at q; cases q
  · have ht := (rdy_hd_mem h e).1
    have hs2 : ∀ s ∈ rdyO x, t.V.toNat ≤ s.V.toNat := fun s hs => srt_hd (l := l) (by rw [← e]; exact rdy_srt h.nd) s (by rw [← e]; exact hs)
    split
    · rename_i q
      refine minO_eq ⟨t, ht, rfl⟩ (fun s hs => ?_)
      rcases hall s hs with rfl | z
      · omega
      · exact hs2 s z
    · rename_i q
      refine minO_eq ⟨_, h2, rfl⟩ (fun s hs => ?_)
      rcases hall s hs with rfl | z
      · exact Nat.le_refl _
      · have := hs2 s z; omega
/-! weights -/
theorem load_app (l m : List Kv) : loadO (l ++ m) = loadO l + loadO m := by unfold loadO; rw [List.map_append, List.sum_append]
theorem load_set {l : List Kv} {i : Nat} (h : i < l.length) (y : Kv) : loadO (l.set i y) = loadO l + (y.x - (l.getD i default).x) := by
  induction l generalizing i with
  | nil => simp at h
  | cons t l ih =>
    cases i with
    | zero => simp [loadO]; omega
    | succ i =>
      have := ih (i := i) (by simpa using h)
      simp only [loadO, List.set_cons_succ, List.map_cons, List.sum_cons, List.getD_cons_succ] at this ⊢
      omega
theorem load_bd : ∀ {l : List Kv}, (∀ t ∈ l, 1 ≤ t.x ∧ t.x ≤ 4096) → 0 ≤ loadO l ∧ loadO l ≤ 4096 * l.length
  | [], _ => by simp [loadO]
  | t :: l, h => by
    have h1 := h t (List.mem_cons_self ..)
    have h2 := load_bd (l := l) (fun s hs => h s (List.mem_cons_of_mem _ hs))
    simp only [loadO, List.map_cons, List.sum_cons, List.length_cons] at h2 ⊢
    omega
theorem QWf.load {x : Qm} (h : QWf x) : 0 ≤ loadO x.l ∧ loadO x.l ≤ 65536 := by
  have := load_bd h.wt
  have := h.len
  omega
end Go.Eng
namespace Go.Eng
open Go Go.Proofs Go.RowKit
theorem ov_callX {P : Program} {e : Env} {f : FuncId} {l : List Operand} {vs : List Value} {ats : Array TypeId} {ty : TypeId} {v : Value} (h : evs e l = some vs) (hx : ∀ w, (callFunc f vs.toArray).run P w = .ok (.value v) w) : OpP P (.call { callee := .value (.func f), args := l.toArray, argTypes := ats }) ty e v := fun w ρ hρ _ _ _ _ => by
  simp [execOp, resolve, hρ (.func f) _ rfl, Deferred.ofValue, invoke, evs_map hρ h]
  exact hx w
theorem add64_run (a b : BitVec 64) (w : World) : (callFunc 101 #[U a, U b, U 0#64]).run Try.prog w = .ok (.value (.tuple #[U (a + b), U (if a.toNat + b.toNat < 18446744073709551616 then 0#64 else 1#64)])) w := by
  have h := run_callFunc_extern (P := Try.prog) (e := add64Entry) (f := 101) Try.func101 (by kernel_rfl) (by kernel_rfl) (by kernel_rfl) (by kernel_rfl) #[U a, U b, U 0#64] w
  rw [h, show (#[U a, U b, U 0#64] : Array Value) = #[.int .u64 (a.toNat : Int), .int .u64 (b.toNat : Int), .int .u64 0] from rfl, run_add64 a.toNat b.toNat 0 (by omega) (by omega) (by omega) (by omega)]
  have e1 : ((a.toNat : Int) + b.toNat + 0) % 18446744073709551616 = ((a + b).toNat : Int) := by rw [BitVec.toNat_add]; omega
  have ha := a.isLt
  have hb := b.isLt
  have e2 : ((a.toNat : Int) + b.toNat + 0) / 18446744073709551616 = ((if a.toNat + b.toNat < 18446744073709551616 then 0#64 else 1#64 : BitVec 64).toNat : Int) := by
    split
    · show _ = (0 : Int); omega
    · show _ = (1 : Int); omega
  simp only [Result.andThen]
  rw [e1, e2]
set_option maxRecDepth 100000 in
theorem fadd_spec (a b : BitVec 64) (w : World) : Ret Try.prog 75 #[U a, U b] w (fun v w' => v = .tuple #[U (addO a b), .int .i64 (if a.toNat + b.toNat < 18446744073709551616 then 0 else 2)] ∧ Ext w w') := by
 refine Ret.enterM (l := [U a, U b]) Try.func75 rfl Try.ntmps75 rfl ([]) (no) (Mem.nil w) ?_
 refine wpM.seq (wpM.region ?_)
 refine LM.as rfl (LM.as rfl ?_)
 refine LM.nil (QM.sub (e' := [(0, _), (1, _)]) au9 (QM.then (wpM.seq (wpM.region ?_))))
 refine LM.mv rfl (LM.mv rfl ?_)
 refine LM.val (ov_callX rfl (add64_run a b)) ?_
 refine LM.mv rfl ?_
 refine LM.val (ov_extract rfl rfl) ?_
 refine LM.val (ov_extract rfl rfl) ?_
 refine LM.as rfl (LM.as rfl ?_)
 refine LM.nil (QM.sub (e' := [(6, _), (7, _)]) au9 (QM.then ?_))
 refine wpM.seq ?_
 refine wpM.seq (wpM.region ?_)
 refine LM.mv rfl ?_
 refine LM.val (ov_uneq (b := 0#64) rfl rfl) ?_
 refine LM.nil (QM.sub (e' := [(6, _), (15, _)]) au9 (QM.then ?_))
 refine wpM.condD rfl (fun h1 => ?_) (fun h1 => ?_)
 ·
  refine wpM.seq (wpM.region ?_)
  refine LM.as rfl (LM.as rfl ?_)
  refine LM.nil (QM.sub (e' := [(4, _), (5, _)]) au9 (QM.then ?_))
  refine wpM.ret ?_
  refine QM.then_ret ?_
  refine QM.leave (.inl rfl) [.tmp 4, .tmp 5] Try.results75 rfl ?_
  intro w' hm' hc' hg'
  have hlt : ¬ a.toNat + b.toNat < 18446744073709551616 := (by intro q; rw [if_pos q] at h1; exact h1 rfl); refine ⟨?_, hc'⟩; unfold addO; rw [if_neg hlt, if_neg hlt]; rfl
 refine wpM.skip ?_
 refine QM.then (wpM.seq (wpM.region ?_))
 refine LM.mv rfl (LM.as rfl (LM.as rfl ?_))
 refine LM.nil (QM.sub (e' := [(4, _), (5, _)]) au9 (QM.then ?_))
 refine wpM.ret ?_
 refine QM.leave (.inl rfl) [.tmp 4, .tmp 5] Try.results75 rfl ?_
 intro w' hm' hc' hg'
 have hlt : a.toNat + b.toNat < 18446744073709551616 := (by rcases Nat.lt_or_ge (a.toNat + b.toNat) 18446744073709551616 with q | q; exact q; rw [if_neg (by omega)] at h1; exact absurd (fun z => by cases z) h1); refine ⟨?_, hc'⟩; rw [show addO a b = a + b from if_pos hlt]; simp only [if_pos hlt]; rfl
theorem bring_eq {n lo hi : Int} (h : lo ≤ hi) : (if hi < (if lo > n then lo else n) then hi else (if lo > n then lo else n)) = bringO n lo hi := by
  unfold bringO; (repeat' split) <;> omega
set_option maxRecDepth 100000 in
theorem ubring_spec (n lo hi : Int) (w : World) (h : lo ≤ hi) : Ret Try.prog 66 #[.int .i64 n, .int .i64 lo, .int .i64 hi] w (fun v w' => v = U (BitVec.ofInt 64 (bringO n lo hi)) ∧ Ext w w') := by
 refine Ret.enterM (l := [.int .i64 n, .int .i64 lo, .int .i64 hi]) Try.func66 rfl Try.ntmps66 rfl ([]) (no) (Mem.nil w) ?_
 refine wpM.seq (wpM.region ?_)
 refine LM.as rfl ?_
 refine LM.nil (QM.sub (e' := [(0, _), (1, _), (2, _)]) au9 (QM.then (wpM.seq (wpM.region ?_))))
 refine LM.mv rfl (LM.mv rfl ?_)
 refine LM.val (ov_max rfl rfl) ?_
 refine LM.mv rfl ?_
 refine LM.val (ov_min rfl rfl) ?_
 refine LM.val (ov_toU Try.underlying3 Try.underlying26 rfl) ?_
 refine LM.as rfl ?_
 refine LM.nil (QM.sub (e' := [(6, _)]) ⟨rfl, trivial⟩ (QM.then ?_))
 refine wpM.ret ?_
 refine QM.leave (.inl rfl) [.tmp 6] Try.results66 rfl ?_
 intro w' hm' hc' hg'
 refine ⟨?_, hc'⟩; show U (BitVec.ofInt 64 _) = _; rw [bring_eq h]
theorem bring_nz {n hi : Int} (h : 1 ≤ hi) (hh : hi ≤ 100000) : BitVec.ofInt 64 (bringO n 1 hi) ≠ 0#64 := by
  have := bring_in (n := n) h
  intro e
  have e2 := congrArg BitVec.toNat e
  rw [BitVec.toNat_ofInt] at e2
  simp at e2
  omega
set_option maxRecDepth 100000 in
theorem ucore_spec (n : Int) (w : World) : Ret Try.prog 16 #[.int .i64 n] w (fun v w' => v = U (coreO n) ∧ Ext w w') := by
 have hz := bring_nz (n := n) (hi := 4096) (by decide) (by decide)
 refine Ret.enterM (l := [.int .i64 n]) Try.func16 rfl Try.ntmps16 rfl ([]) (no) (Mem.nil w) ?_
 refine wpM.seq (wpM.region ?_)
 refine LM.as rfl ?_
 refine LM.nil (QM.sub (e' := [(0, _)]) ⟨rfl, trivial⟩ (QM.then (wpM.seq (wpM.region ?_))))
 refine LM.mv rfl ?_
 refine LM.callE (oc_call (enters_fn Try.func66 (by kernel_rfl) rfl) rfl) (fun w hm hc hg => ubring_spec _ 1 4096 w (by decide)) ?_
 refine LM.val (ov_uquo (a := 1099511627776#64) rfl rfl (by first | decide | assumption)) ?_
 refine LM.as rfl ?_
 refine LM.nil (QM.sub (e' := [(2, _)]) ⟨rfl, trivial⟩ (QM.then ?_))
 refine wpM.ret ?_
 refine QM.leave (.inl rfl) [.tmp 2] Try.results16 rfl ?_
 intro w' hm' hc' hg'
 exact ⟨rfl, hc'⟩
set_option maxRecDepth 100000 in
theorem ureach_spec (n g : Int) (w : World) : Ret Try.prog 20 #[.int .i64 n, .int .i64 g] w (fun v w' => v = U (reachO n g) ∧ Ext w w') := by
 refine Ret.enterM (l := [.int .i64 n, .int .i64 g]) Try.func20 rfl Try.ntmps20 rfl ([]) (no) (Mem.nil w) ?_
 refine wpM.seq (wpM.region ?_)
 refine LM.as rfl ?_
 refine LM.nil (QM.sub (e' := [(0, _), (1, _)]) au9 (QM.then (wpM.seq (wpM.region ?_))))
 refine LM.mv rfl ?_
 refine LM.callE (oc_call (enters_fn Try.func16 (by kernel_rfl) rfl) rfl) (fun w hm hc hg => ucore_spec _ w) ?_
 refine LM.mv rfl ?_
 refine LM.callE (oc_call (enters_fn Try.func66 (by kernel_rfl) rfl) rfl) (fun w hm hc hg => ubring_spec _ 1 8 w (by decide)) ?_
 refine LM.val (ov_umul rfl rfl) ?_
 refine LM.as rfl ?_
 refine LM.nil (QM.sub (e' := [(4, _)]) ⟨rfl, trivial⟩ (QM.then ?_))
 refine wpM.ret ?_
 refine QM.leave (.inl rfl) [.tmp 4] Try.results20 rfl ?_
 intro w' hm' hc' hg'
 exact ⟨rfl, hc'⟩
theorem clamp_eq (v fl r : BitVec 64) : (if (addO fl r).toNat < (if v.toNat < fl.toNat then fl else v).toNat then addO fl r else (if v.toNat < fl.toNat then fl else v)) = clampO v fl r := by
  have ha : fl.toNat ≤ (addO fl r).toNat := by
    unfold addO; split
    · rw [BitVec.toNat_add]; rw [Nat.mod_eq_of_lt (by omega)]; omega
    · have := fl.isLt; show _ ≤ 18446744073709551615; omega
  unfold clampO
  by_cases h : v.toNat < fl.toNat
  · rw [if_pos h, if_pos h, if_neg (by omega)]
  · rw [if_neg h, if_neg h]
set_option maxRecDepth 100000 in
theorem uclamp_spec (v fl r : BitVec 64) (w : World) : Ret Try.prog 88 #[U v, U fl, U r] w (fun u w' => u = U (clampO v fl r) ∧ Ext w w') := by
 refine Ret.enterM (l := [U v, U fl, U r]) Try.func88 rfl Try.ntmps88 rfl ([]) (no) (Mem.nil w) ?_
 refine wpM.seq (wpM.region ?_)
 refine LM.as rfl ?_
 refine LM.nil (QM.sub (e' := [(0, _), (1, _), (2, _)]) au9 (QM.then (wpM.seq (wpM.region ?_))))
 refine LM.mv rfl (LM.mv rfl ?_)
 refine LM.callE (oc_call (enters_fn Try.func75 (by kernel_rfl) rfl) rfl) (fun w hm hc hg => fadd_spec _ _ w) ?_
 refine LM.mv rfl ?_
 refine LM.val (ov_extract rfl rfl) ?_
 refine LM.val (ov_extract rfl rfl) ?_
 refine LM.as rfl (LM.as rfl ?_)
 refine LM.nil (QM.sub (e' := [(0, _), (1, _), (7, _)]) au9 (QM.then (wpM.seq (wpM.region ?_))))
 refine LM.mv rfl (LM.mv rfl ?_)
 refine LM.val (ov_umax rfl rfl) ?_
 refine LM.mv rfl ?_
 refine LM.val (ov_umin rfl rfl) ?_
 refine LM.as rfl ?_
 refine LM.nil (QM.sub (e' := [(6, _)]) ⟨rfl, trivial⟩ (QM.then ?_))
 refine wpM.ret ?_
 refine QM.leave (.inl rfl) [.tmp 6] Try.results88 rfl ?_
 intro w' hm' hc' hg'
 refine ⟨?_, hc'⟩; rw [← clamp_eq]; rfl
end Go.Eng
namespace Go.Eng
open Go Go.RowKit
end Go.Eng
namespace Go.Eng
open Go Go.Proofs Go.RowKit
end Go.Eng
namespace Go.Eng
open Go Go.Proofs Go.RowKit
abbrev gQ (l : List Kv) (a : Int) : Kv := l.getD (ixO l a) default
def entQ (l : List Kv) : List (Int × Value) := l.map (fun t => (t.id, .agg #[U t.V, .int .i64 t.x]))
theorem entQ_len (l : List Kv) : (entQ l).length = l.length := by simp [entQ]
theorem ent_find : ∀ (l : List Kv) (a : Int) (i : Nat), afind (entQ l) a i = if ixO l a < l.length then some (i + ixO l a, .agg #[U (gQ l a).V, .int .i64 (gQ l a).x]) else none
  | [], a, i => rfl
  | t :: l, a, i => by
    have ih := ent_find l a (i + 1)
    show (if a = t.id then some (i, Value.agg #[U t.V, .int .i64 t.x]) else afind (entQ l) a (i + 1)) = _
    unfold gQ
    rw [ixO_cons]
    by_cases h : t.id = a
    · rw [if_pos h.symm, if_pos h, if_pos (by simp)]; rfl
    · rw [if_neg (fun q => h q.symm), if_neg h, ih]
      by_cases h2 : ixO l a < l.length
      · rw [if_pos h2, if_pos (by simpa using h2)]
        simp only [List.getD_cons_succ]
        congr 2; omega
      · rw [if_neg h2, if_neg (by simpa using h2)]
theorem ent_has (l : List Kv) (a : Int) : (aget (entQ l) a).isSome = decide (ixO l a < l.length) := by
  unfold aget; rw [ent_find]
  by_cases h : ixO l a < l.length
  · rw [if_pos h, decide_eq_true h]; rfl
  · rw [if_neg h, decide_eq_false h]; rfl
theorem gQ_none {l : List Kv} {a : Int} (h : ¬ ixO l a < l.length) : gQ l a = default := by
  unfold gQ; rw [List.getD_eq_getElem?_getD, List.getElem?_eq_none (by omega)]; rfl
theorem ent_get (l : List Kv) (a : Int) : (aget (entQ l) a).getD (.agg #[.int .u64 0, .int .i64 0]) = .agg #[U (gQ l a).V, .int .i64 (gQ l a).x] := by
  unfold aget; rw [ent_find]
  by_cases h : ixO l a < l.length
  · rw [if_pos h]; rfl
  · rw [if_neg h, gQ_none h]; rfl
theorem ent_new {l : List Kv} {a : Int} (h : ¬ ixO l a < l.length) (v : BitVec 64) (x : Int) : aput (entQ l) a (.agg #[U v, .int .i64 x]) = entQ (l ++ [⟨v, a, x⟩]) := by
  unfold aput; rw [ent_find, if_neg h]; simp [entQ]
theorem ent_set {l : List Kv} {a : Int} (h : ixO l a < l.length) (v : BitVec 64) (x : Int) : aput (entQ l) a (.agg #[U v, .int .i64 x]) = entQ (l.set (ixO l a) ⟨v, a, x⟩) := by
  unfold aput; rw [ent_find, if_pos h]
  simp [entQ, List.map_set]
abbrev rqC (b : Nat) (g : Int) (fl : BitVec 64) (bm bt : Nat) (cur ran ld : Int) : Nat × Obj := (b, .cells #[.int .i64 g, U fl, .map (some bm), .pointer (some ⟨bt, 0, none⟩), .int .i64 cur, .int .i64 ran, .int .i64 ld] 93 (0, 0))
def RqM (n0 b : Nat) (x : Qm) (m : Mem0) : Prop := QWf x ∧ ∃ (bm bt : Nat) (es : Array MapEntry) (cl : Nat) (mt : Mem0), m = rqC b x.g x.fl bm bt x.cur x.ran (loadO x.l) :: (bm, .map es cl) :: mt ∧ Ens .i64 es.toList (entQ x.l) ∧ RbT n0 bt 16 (rdyO x) mt ∧ n0 ≤ b ∧ n0 ≤ bm
theorem RqM.ge {n0 b : Nat} {x : Qm} {m : Mem0} (h : RqM n0 b x m) : ∀ p ∈ m, n0 ≤ p.1 := by
  obtain ⟨hq, bm, bt, es, cl, mt, rfl, he, ht, hb, hbm⟩ := h
  intro p hp
  rcases List.mem_cons.1 hp with rfl | hp
  · exact hb
  · rcases List.mem_cons.1 hp with rfl | hp
    · exact hbm
    · exact ht.ge p hp
theorem RqM.wlk {n0 b : Nat} {x : Qm} {m : Mem0} (h : RqM n0 b x m) : ∀ p ∈ m, wlk p.2 = false := by
  obtain ⟨hq, bm, bt, es, cl, mt, rfl, he, ht, hb, hbm⟩ := h
  intro p hp
  rcases List.mem_cons.1 hp with rfl | hp
  · rfl
  · rcases List.mem_cons.1 hp with rfl | hp
    · rfl
    · exact ht.wlk p hp
theorem RqM.mono {n0 n1 b : Nat} {x : Qm} {m : Mem0} (h : RqM n0 b x m) (hn : n1 ≤ n0) : RqM n1 b x m := by
  obtain ⟨hq, bm, bt, es, cl, mt, rfl, he, ht, hb, hbm⟩ := h
  exact ⟨hq, bm, bt, es, cl, mt, rfl, he, ht.mono hn, Nat.le_trans hn hb, Nat.le_trans hn hbm⟩
abbrev inn (m : Mem0) (k : Nat) (x : Mem0) : Prop := ∀ p ∈ x, k ≤ p.1 ∨ ∃ q ∈ m, q.1 = p.1
theorem inn_refl (m : Mem0) (k : Nat) : inn m k m := fun p hp => .inr ⟨p, hp, rfl⟩
theorem inn_trans {m x y : Mem0} {k : Nat} (h : inn m k x) (h2 : inn x k y) : inn m k y := fun p hp => by
  rcases h2 p hp with q | ⟨q, hq, e⟩
  · exact .inl q
  · rw [← e]; exact h q hq
theorem inn_S {m x y : Mem0} {k : Nat} (h : inn x k y) (hs : ∀ p ∈ x, inM m p.1) : ∀ p ∈ y, p.1 < k → inM m p.1 := fun p hp hlt => by
  rcases h p hp with q | ⟨q, hq, e⟩
  · omega
  · rw [← e]; exact hs q hq
theorem inM_0 {b : Nat} {o : Obj} {m : Mem0} : inM ((b, o) :: m) b := ⟨_, List.mem_cons_self .., rfl⟩
theorem inM_1 {b : Nat} {o : Obj} {p : Nat × Obj} {m : Mem0} : inM (p :: (b, o) :: m) b := ⟨_, List.mem_cons_of_mem _ (List.mem_cons_self ..), rfl⟩
theorem inM_2 {p p' : Nat × Obj} {m : Mem0} : ∀ q ∈ m, inM (p :: p' :: m) q.1 := fun q hq => ⟨_, List.mem_cons_of_mem _ (List.mem_cons_of_mem _ hq), rfl⟩
theorem rq_leaf {mt mt' M : Mem0} {p0 p1 p0' p1' : Nat × Obj} {T : Value → Mem0 → Prop} {u : Value} {w w' : World} (hT : T u (p0 :: p1 :: mt')) (hm : Mem w' M) (hs : SubM M (p0 :: p1 :: (mt' ++ []))) (hc : Chg (inM (p0' :: p1' :: mt)) w w') (h0 : p0'.1 = p0.1) (h1 : p1'.1 = p1.1)
    (hin : inn mt w.heap.size mt') : Upd (p0' :: p1' :: mt) T w u w' := by
  rw [List.append_nil] at hs
  refine ⟨hc, _, hT, hs.mem w' hm, fun p hp => ?_⟩
  rcases List.mem_cons.1 hp with rfl | hp
  · exact .inr ⟨_, List.mem_cons_self .., h0⟩
  · rcases List.mem_cons.1 hp with rfl | hp
    · exact .inr ⟨_, List.mem_cons_of_mem _ (List.mem_cons_self ..), h1⟩
    · rcases hin p hp with q | ⟨q, hq, e⟩
      · exact .inl q
      · exact .inr ⟨q, List.mem_cons_of_mem _ (List.mem_cons_of_mem _ hq), e⟩
theorem rq_same {mt M : Mem0} {p0 p1 : Nat × Obj} {T : Value → Mem0 → Prop} {u : Value} {w w' : World} (hT : T u (p0 :: p1 :: mt)) (hm : Mem w' M) (hs : SubM M (p0 :: p1 :: (mt ++ []))) (hc : Chg (inM (p0 :: p1 :: mt)) w w') : Upd (p0 :: p1 :: mt) T w u w' := rq_leaf hT hm hs hc rfl rfl (inn_refl mt _)
theorem cur_pos {x : Qm} (h : QWf x) (h1 : ¬ x.cur = -1) : 0 ≤ x.cur := by
  rcases h.cur with q | ⟨t, ht, e⟩
  · exact absurd q h1
  · rw [← e]; exact h.pos t ht
theorem due_not {x : Qm} (h : ¬ (0 ≤ x.cur ∧ x.g ≤ x.ran)) : dueO x = false := if_neg h
theorem due_if {x : Qm} (h : 0 ≤ x.cur ∧ x.g ≤ x.ran) : dueO x = (match rdyO x with | [] => false | t :: _ => decide (t.V.toNat < (gQ x.l x.cur).V.toNat)) := if_pos h
theorem ne_cons {α : Type} {l : List α} (h : l ≠ []) : ∃ a t, l = a :: t := by cases l with | nil => exact absurd rfl h | cons a t => exact ⟨a, t, rfl⟩
set_option maxRecDepth 100000 in
theorem place_spec {b bm bt : Nat} {g cur ran ld : Int} {fl : BitVec 64} (v : BitVec 64) (wt : Int) (w : World) (hM : Mem w [rqC b g fl bm bt cur ran ld]) : Ret Try.prog 63 #[.pointer (some ⟨b, 0, none⟩), U v, .int .i64 wt] w (fun u w' => u = U (clampO v fl (reachO wt g)) ∧ Ext w w') := by
 refine Ret.enterM (l := [.pointer (some ⟨b, 0, none⟩), U v, .int .i64 wt]) Try.func63 rfl Try.ntmps63 rfl (rqC b g fl bm bt cur ran ld :: []) (no) hM ?_
 refine wpM.seq (wpM.region ?_)
 refine LM.as rfl ?_
 refine LM.nil (QM.sub (e' := [(0, _), (1, _), (2, _)]) au9 (QM.then ?_))
 refine wpM.seq ?_
 refine wpM.draw [(0, 0), (1, 0), (2, 0), (3, 0), (4, 1), (5, 0), (6, 0), (7, 0), (8, 0), (9, 1), (10, 2), (11, 2), (12, 0)] (by kernel_rfl) (by kernel_rfl) ?_
 refine LD.val rfl rfl (ov_move rfl) ?_
 refine LD.val rfl rfl (ov_move rfl) ?_
 refine LD.val rfl rfl (ov_nilCheck rfl) ?_
 refine LD.val rfl rfl (ov_field Try.underlying93 rfl Try.sizeOf26 rfl (k := 1) rfl rfl) ?_
 refine LD.rd rfl rfl (om_ld Try.isAgg26 rfl rfl) ?_
 refine LD.val rfl rfl (ov_move rfl) ?_
 refine LD.val rfl rfl (ov_move rfl) ?_
 refine LD.val rfl rfl (ov_nilCheck rfl) ?_
 refine LD.val rfl rfl (ov_field Try.underlying93 rfl Try.sizeOf3 rfl (k := 0) rfl rfl) ?_
 refine LD.rd rfl rfl (om_ld Try.isAgg3 rfl rfl) ?_
 refine LD.callE rfl rfl (oc_call (enters_fn Try.func20 (by kernel_rfl) rfl) rfl) (fun w hm hc hg => ureach_spec _ _ w) ?_
 refine LD.callE rfl rfl (oc_call (enters_fn Try.func88 (by kernel_rfl) rfl) rfl) (fun w hm hc hg => uclamp_spec _ _ _ w) ?_
 refine LD.val rfl rfl (ov_assign rfl) ?_
 refine LD.nil ?_
 refine QM.sub (e' := [(6, _)]) ⟨rfl, trivial⟩ (QM.then ?_)
 refine wpM.ret ?_
 refine QM.leave (.inl rfl) [.tmp 6] Try.results63 rfl ?_
 intro w' hm' hc' hg'
 exact ⟨rfl, hc'⟩
set_option maxRecDepth 100000 in
theorem key_spec {b bm bt : Nat} {g cur ran ld : Int} {fl : BitVec 64} {es : Array MapEntry} {cl : Nat} {l : List Kv} (a : Int) (w : World) (hes : Ens .i64 es.toList (entQ l)) (hM : Mem w [rqC b g fl bm bt cur ran ld, (bm, .map es cl)]) : Ret Try.prog 65 #[.pointer (some ⟨b, 0, none⟩), .int .i64 a] w (fun u w' => u = .agg #[U (gQ l a).V, .int .i64 a] ∧ Ext w w') := by
 refine Ret.enterM (l := [.pointer (some ⟨b, 0, none⟩), .int .i64 a]) Try.func65 rfl Try.ntmps65 rfl (rqC b g fl bm bt cur ran ld :: (bm, .map es cl) :: []) (no) hM ?_
 refine wpM.seq (wpM.region ?_)
 refine LM.alloc Try.zeroValue100 rfl (fun b4 hb4 => ?_)
 refine LM.nil (QM.sub (e' := [(0, _), (1, _), (4, _)]) au9 (QM.then (wpM.seq (wpM.region ?_))))
 refine LM.mv rfl ?_
 refine LM.val (ov_nilCheck rfl) ?_
 refine LM.val (ov_field Try.underlying93 rfl Try.sizeOf89 rfl (k := 2) rfl rfl) ?_
 refine LM.rd (om_ld Try.isAgg89 rfl rfl) ?_
 refine LM.mv rfl ?_
 refine LM.rd (om_lk Try.underlying89 Try.underlying3 Try.zeroValue95 rfl rfl (by assumption) (ent_get _ _)) ?_
 refine LM.val (ov_fieldV Try.underlying95 rfl Try.isAgg26 rfl rfl) ?_
 refine LM.mv rfl ?_
 refine LM.val (ov_build (cs := #[_, _]) rfl (by first | rfl | kernel_rfl)) ?_
 refine LM.stW Try.sizeOf100 rfl rfl rfl rfl au7 (fun hlt => by first | exact inM_0 | exact inM_1 | exact absurd hlt (by omega)) ?_
 refine LM.nil (QM.sub (e' := [(4, _)]) ⟨rfl, trivial⟩ (QM.then ?_))
 refine wpM.ret ?_
 refine QM.leaveCs (ds := ([])) (.inl rfl) [.cell 4 100] Try.results65 hd_nil (rc_w rfl Try.isAgg100 Try.sizeOf100 rfl rc_nil) ?_
 intro w' hm' hc'
 exact ⟨rfl, hc'⟩
set_option maxRecDepth 100000 in
theorem rqV_spec {n0 b : Nat} {x : Qm} {m : Mem0} (a : Int) (w : World) (h : RqM n0 b x m) (hM : Mem w m) : Ret Try.prog 14 #[.pointer (some ⟨b, 0, none⟩), .int .i64 a] w (fun u w' => u = .tuple #[U (gQ x.l a).V, .bool (decide (ixO x.l a < x.l.length))] ∧ Ext w w') := by
 obtain ⟨hq, bm, bt, es, cl, mt, rfl, he, ht, hb, hbm⟩ := h
 refine Ret.enterM (l := [.pointer (some ⟨b, 0, none⟩), .int .i64 a]) Try.func14 rfl Try.ntmps14 rfl (rqC b x.g x.fl bm bt x.cur x.ran (loadO x.l) :: (bm, .map es cl) :: (mt ++ [])) (no) (by rw [List.append_nil]; exact hM) ?_
 refine wpM.seq (wpM.region ?_)
 refine LM.as rfl (LM.as rfl ?_)
 refine LM.nil (QM.sub (e' := [(0, _), (1, _)]) au9 (QM.then ?_))
 refine wpM.seq ?_
 refine wpM.seq (wpM.region ?_)
 refine LM.mv rfl ?_
 refine LM.val (ov_peql (by kernel_rfl) rfl rfl) ?_
 refine LM.nil (QM.sub (e' := [(0, _), (1, _), (9, _)]) au9 (QM.then ?_))
 refine wpM.condF rfl ?_
 refine wpM.skip ?_
 refine QM.then (wpM.seq (wpM.region ?_))
 refine LM.mv rfl ?_
 refine LM.val (ov_nilCheck rfl) ?_
 refine LM.val (ov_field Try.underlying93 rfl Try.sizeOf89 rfl (k := 2) rfl rfl) ?_
 refine LM.rd (om_ld Try.isAgg89 rfl rfl) ?_
 refine LM.mv rfl ?_
 refine LM.rd (om_lkOk Try.underlying89 Try.underlying3 Try.zeroValue95 rfl rfl (by assumption) (ent_get _ _) (ent_has _ _)) ?_
 refine LM.mv rfl ?_
 refine LM.val (ov_extract rfl rfl) ?_
 refine LM.val (ov_extract rfl rfl) ?_
 refine LM.alloc Try.zeroValue95 rfl (fun b6 hb6 => ?_)
 refine LM.stW Try.sizeOf95 rfl rfl rfl rfl au7 (fun hlt => by first | exact inM_0 | exact inM_1 | exact absurd hlt (by omega)) ?_
 refine LM.as rfl ?_
 refine LM.nil (QM.sub (e' := [(6, _), (7, _)]) au9 (QM.then (wpM.seq (wpM.region ?_))))
 refine LM.val (ov_field Try.underlying95 rfl Try.sizeOf26 rfl (k := 0) rfl rfl) ?_
 refine LM.rd (om_ld Try.isAgg26 rfl rfl) ?_
 refine LM.mv rfl (LM.as rfl (LM.as rfl ?_))
 refine LM.nil (QM.sub (e' := [(4, _), (5, _)]) au9 (QM.then ?_))
 refine wpM.ret ?_
 refine QM.leave (.inl rfl) [.tmp 4, .tmp 5] Try.results14 rfl ?_
 intro w' hm' hc' hg'
 exact ⟨rfl, hc'⟩
set_option maxRecDepth 100000 in
theorem rqCur_spec {n0 b : Nat} {x : Qm} {m : Mem0} (w : World) (h : RqM n0 b x m) (hM : Mem w m) : Ret Try.prog 37 #[.pointer (some ⟨b, 0, none⟩)] w (fun u w' => u = .tuple #[.int .i64 x.cur, .int .i64 x.ran, .bool (decide (x.cur ≠ -1))] ∧ Ext w w') := by
 obtain ⟨hq, bm, bt, es, cl, mt, rfl, he, ht, hb, hbm⟩ := h
 refine Ret.enterM (l := [.pointer (some ⟨b, 0, none⟩)]) Try.func37 rfl Try.ntmps37 rfl (rqC b x.g x.fl bm bt x.cur x.ran (loadO x.l) :: (bm, .map es cl) :: (mt ++ [])) (no) (by rw [List.append_nil]; exact hM) ?_
 refine wpM.seq (wpM.region ?_)
 refine LM.as rfl (LM.as rfl (LM.as rfl ?_))
 refine LM.nil (QM.sub (e' := [(0, _)]) ⟨rfl, trivial⟩ (QM.then ?_))
 refine wpM.seq ?_
 refine wpM.seq (wpM.region ?_)
 refine LM.mv rfl ?_
 refine LM.val (ov_peql (by kernel_rfl) rfl rfl) ?_
 refine LM.nil (QM.sub (e' := [(0, _), (6, _)]) au9 (QM.then ?_))
 refine wpM.condF rfl ?_
 refine wpM.skip ?_
 refine QM.then ?_
 refine wpM.seq ?_
 refine wpM.draw [(0, 0), (1, 0), (2, 0), (3, 1), (4, 0), (5, 0), (6, 0), (7, 1), (8, 0), (9, 0), (10, 0), (11, 1), (12, 0), (13, 0), (14, 0), (15, 0)] (by kernel_rfl) (by kernel_rfl) ?_
 refine LD.val rfl rfl (ov_move rfl) ?_
 refine LD.val rfl rfl (ov_nilCheck rfl) ?_
 refine LD.val rfl rfl (ov_field Try.underlying93 rfl Try.sizeOf3 rfl (k := 4) rfl rfl) ?_
 refine LD.rd rfl rfl (om_ld Try.isAgg3 rfl rfl) ?_
 refine LD.val rfl rfl (ov_move rfl) ?_
 refine LD.val rfl rfl (ov_nilCheck rfl) ?_
 refine LD.val rfl rfl (ov_field Try.underlying93 rfl Try.sizeOf3 rfl (k := 5) rfl rfl) ?_
 refine LD.rd rfl rfl (om_ld Try.isAgg3 rfl rfl) ?_
 refine LD.val rfl rfl (ov_move rfl) ?_
 refine LD.val rfl rfl (ov_nilCheck rfl) ?_
 refine LD.val rfl rfl (ov_field Try.underlying93 rfl Try.sizeOf3 rfl (k := 4) rfl rfl) ?_
 refine LD.rd rfl rfl (om_ld Try.isAgg3 rfl rfl) ?_
 refine LD.val rfl rfl (ov_neq rfl rfl) ?_
 refine LD.val rfl rfl (ov_assign rfl) ?_
 refine LD.val rfl rfl (ov_assign rfl) ?_
 refine LD.val rfl rfl (ov_assign rfl) ?_
 refine LD.nil ?_
 refine QM.sub (e' := [(2, _), (3, _), (4, _)]) au9 (QM.then ?_)
 refine wpM.ret ?_
 refine QM.leave (.inl rfl) [.tmp 2, .tmp 3, .tmp 4] Try.results37 rfl ?_
 intro w' hm' hc' hg'
 exact ⟨rfl, hc'⟩
set_option maxRecDepth 100000 in
theorem rqFlo_spec {n0 b : Nat} {x : Qm} {m : Mem0} (w : World) (h : RqM n0 b x m) (hM : Mem w m) : Ret Try.prog 19 #[.pointer (some ⟨b, 0, none⟩)] w (fun u w' => u = U x.fl ∧ Ext w w') := by
 obtain ⟨hq, bm, bt, es, cl, mt, rfl, he, ht, hb, hbm⟩ := h
 refine Ret.enterM (l := [.pointer (some ⟨b, 0, none⟩)]) Try.func19 rfl Try.ntmps19 rfl (rqC b x.g x.fl bm bt x.cur x.ran (loadO x.l) :: (bm, .map es cl) :: (mt ++ [])) (no) (by rw [List.append_nil]; exact hM) ?_
 refine wpM.seq (wpM.region ?_)
 refine LM.as rfl ?_
 refine LM.nil (QM.sub (e' := [(0, _)]) ⟨rfl, trivial⟩ (QM.then ?_))
 refine wpM.seq ?_
 refine wpM.seq (wpM.region ?_)
 refine LM.mv rfl ?_
 refine LM.val (ov_peql (by kernel_rfl) rfl rfl) ?_
 refine LM.nil (QM.sub (e' := [(0, _), (4, _)]) au9 (QM.then ?_))
 refine wpM.condF rfl ?_
 refine wpM.skip ?_
 refine QM.then (wpM.seq (wpM.region ?_))
 refine LM.mv rfl ?_
 refine LM.val (ov_nilCheck rfl) ?_
 refine LM.val (ov_field Try.underlying93 rfl Try.sizeOf26 rfl (k := 1) rfl rfl) ?_
 refine LM.rd (om_ld Try.isAgg26 rfl rfl) ?_
 refine LM.as rfl ?_
 refine LM.nil (QM.sub (e' := [(2, _)]) ⟨rfl, trivial⟩ (QM.then ?_))
 refine wpM.ret ?_
 refine QM.leave (.inl rfl) [.tmp 2] Try.results19 rfl ?_
 intro w' hm' hc' hg'
 exact ⟨rfl, hc'⟩
set_option maxRecDepth 100000 in
theorem rqLen_spec {n0 b : Nat} {x : Qm} {m : Mem0} (w : World) (h : RqM n0 b x m) (hM : Mem w m) : Ret Try.prog 40 #[.pointer (some ⟨b, 0, none⟩)] w (fun u w' => u = .int .i64 (x.l.length : Nat) ∧ Ext w w') := by
 obtain ⟨hq, bm, bt, es, cl, mt, rfl, he, ht, hb, hbm⟩ := h
 refine Ret.enterM (l := [.pointer (some ⟨b, 0, none⟩)]) Try.func40 rfl Try.ntmps40 rfl (rqC b x.g x.fl bm bt x.cur x.ran (loadO x.l) :: (bm, .map es cl) :: (mt ++ [])) (no) (by rw [List.append_nil]; exact hM) ?_
 refine wpM.seq (wpM.region ?_)
 refine LM.as rfl ?_
 refine LM.nil (QM.sub (e' := [(0, _)]) ⟨rfl, trivial⟩ (QM.then ?_))
 refine wpM.seq ?_
 refine wpM.seq (wpM.region ?_)
 refine LM.mv rfl ?_
 refine LM.val (ov_peql (by kernel_rfl) rfl rfl) ?_
 refine LM.nil (QM.sub (e' := [(0, _), (4, _)]) au9 (QM.then ?_))
 refine wpM.condF rfl ?_
 refine wpM.skip ?_
 refine QM.then (wpM.seq (wpM.region ?_))
 refine LM.mv rfl ?_
 refine LM.val (ov_nilCheck rfl) ?_
 refine LM.val (ov_field Try.underlying93 rfl Try.sizeOf89 rfl (k := 2) rfl rfl) ?_
 refine LM.rd (om_ld Try.isAgg89 rfl rfl) ?_
 refine LM.rd (om_mlen Try.underlying89 rfl (by assumption) rfl) ?_
 refine LM.as rfl ?_
 refine LM.nil (QM.sub (e' := [(2, _)]) ⟨rfl, trivial⟩ (QM.then ?_))
 refine wpM.ret ?_
 refine QM.leave (.inl rfl) [.tmp 2] Try.results40 rfl ?_
 intro w' hm' hc' hg'
 exact ⟨by show Value.int .i64 ((entQ x.l).length : Nat) = _; rw [entQ_len], hc'⟩
set_option maxRecDepth 100000 in
theorem rqLoad_spec {n0 b : Nat} {x : Qm} {m : Mem0} (w : World) (h : RqM n0 b x m) (hM : Mem w m) : Ret Try.prog 41 #[.pointer (some ⟨b, 0, none⟩)] w (fun u w' => u = .int .i64 (loadO x.l) ∧ Ext w w') := by
 obtain ⟨hq, bm, bt, es, cl, mt, rfl, he, ht, hb, hbm⟩ := h
 refine Ret.enterM (l := [.pointer (some ⟨b, 0, none⟩)]) Try.func41 rfl Try.ntmps41 rfl (rqC b x.g x.fl bm bt x.cur x.ran (loadO x.l) :: (bm, .map es cl) :: (mt ++ [])) (no) (by rw [List.append_nil]; exact hM) ?_
 refine wpM.seq (wpM.region ?_)
 refine LM.as rfl ?_
 refine LM.nil (QM.sub (e' := [(0, _)]) ⟨rfl, trivial⟩ (QM.then ?_))
 refine wpM.seq ?_
 refine wpM.seq (wpM.region ?_)
 refine LM.mv rfl ?_
 refine LM.val (ov_peql (by kernel_rfl) rfl rfl) ?_
 refine LM.nil (QM.sub (e' := [(0, _), (4, _)]) au9 (QM.then ?_))
 refine wpM.condF rfl ?_
 refine wpM.skip ?_
 refine QM.then (wpM.seq (wpM.region ?_))
 refine LM.mv rfl ?_
 refine LM.val (ov_nilCheck rfl) ?_
 refine LM.val (ov_field Try.underlying93 rfl Try.sizeOf3 rfl (k := 6) rfl rfl) ?_
 refine LM.rd (om_ld Try.isAgg3 rfl rfl) ?_
 refine LM.as rfl ?_
 refine LM.nil (QM.sub (e' := [(2, _)]) ⟨rfl, trivial⟩ (QM.then ?_))
 refine wpM.ret ?_
 refine QM.leave (.inl rfl) [.tmp 2] Try.results41 rfl ?_
 intro w' hm' hc' hg'
 exact ⟨rfl, hc'⟩
set_option maxRecDepth 100000 in
theorem due_spec {n0 b : Nat} {x : Qm} {m : Mem0} (w : World) (h : RqM n0 b x m) (hM : Mem w m) : Ret Try.prog 39 #[.pointer (some ⟨b, 0, none⟩)] w (fun u w' => u = .bool (dueO x) ∧ Ext w w') := by
 obtain ⟨hq, bm, bt, es, cl, mt, rfl, he, ht, hb, hbm⟩ := h
 refine Ret.enterM (l := [.pointer (some ⟨b, 0, none⟩)]) Try.func39 rfl Try.ntmps39 rfl (rqC b x.g x.fl bm bt x.cur x.ran (loadO x.l) :: (bm, .map es cl) :: (mt ++ [])) (no) (by rw [List.append_nil]; exact hM) ?_
 refine wpM.seq (wpM.region ?_)
 refine LM.as rfl ?_
 refine LM.nil (QM.sub (e' := [(0, _)]) ⟨rfl, trivial⟩ (QM.then ?_))
 refine wpM.seq ?_
 refine wpM.seq ?_
 refine wpM.draw [(0, 0), (1, 0), (2, 0), (3, 0), (4, 0), (5, 0), (6, 1), (7, 0), (8, 0), (9, 0), (10, 0), (11, 0), (12, 0), (13, 1), (14, 0), (15, 0), (16, 0), (17, 1), (18, 0), (19, 0)] (by kernel_rfl) (by kernel_rfl) ?_
 refine LD.val rfl rfl (ov_move rfl) ?_
 refine LD.val rfl rfl (ov_peql (by kernel_rfl) rfl rfl) ?_
 refine LD.val rfl rfl (ov_move rfl) ?_
 refine LD.val rfl ⟨8, _, rfl, rfl, rfl⟩ (ov_move rfl) ?_
 refine LD.val rfl ⟨8, _, rfl, rfl, rfl⟩ (ov_nilCheck rfl) ?_
 refine LD.val rfl ⟨8, _, rfl, rfl, rfl⟩ (ov_field Try.underlying93 rfl Try.sizeOf3 rfl (k := 4) rfl rfl) ?_
 refine LD.rd rfl ⟨8, _, rfl, rfl, rfl⟩ (om_ld Try.isAgg3 rfl rfl) ?_
 refine LD.val rfl ⟨8, _, rfl, rfl, rfl⟩ (ov_eql rfl rfl) ?_
 refine LD.val rfl rfl (ov_pickF rfl rfl) ?_
 refine LD.val rfl rfl (ov_move rfl) ?_
 refine LD.splitD (t := 15) rfl (fun h1 => ?_) (fun h1 => ?_)
 ·
  refine LD.drop rfl rfl ⟨15, _, rfl, rfl, rfl⟩ ?_
  refine LD.drop rfl rfl ⟨15, _, rfl, rfl, rfl⟩ ?_
  refine LD.drop rfl rfl ⟨15, _, rfl, rfl, rfl⟩ ?_
  refine LD.drop rfl rfl ⟨15, _, rfl, rfl, rfl⟩ ?_
  refine LD.drop rfl rfl ⟨15, _, rfl, rfl, rfl⟩ ?_
  refine LD.drop rfl rfl ⟨15, _, rfl, rfl, rfl⟩ ?_
  refine LD.drop rfl rfl ⟨15, _, rfl, rfl, rfl⟩ ?_
  refine LD.drop rfl rfl ⟨15, _, rfl, rfl, rfl⟩ ?_
  refine LD.drop rfl rfl ⟨15, _, rfl, rfl, rfl⟩ ?_
  refine LD.val rfl rfl (ov_pickT rfl rfl) ?_
  refine LD.nil ?_
  refine QM.sub (e' := [(0, _), (25, _)]) au9 (QM.then ?_)
  refine wpM.condT rfl ?_
  refine wpM.seq (wpM.region ?_)
  refine LM.as rfl ?_
  refine LM.nil (QM.sub (e' := [(2, _)]) ⟨rfl, trivial⟩ (QM.then ?_))
  refine wpM.ret ?_
  refine QM.then_ret ?_
  refine QM.leave (.inl rfl) [.tmp 2] Try.results39 rfl ?_
  intro w' hm' hc' hg'
  refine ⟨?_, hc'⟩; rw [due_not (by omega)]; rfl
 refine LD.val rfl ⟨15, _, rfl, rfl, rfl⟩ (ov_move rfl) ?_
 refine LD.val rfl ⟨15, _, rfl, rfl, rfl⟩ (ov_nilCheck rfl) ?_
 refine LD.val rfl ⟨15, _, rfl, rfl, rfl⟩ (ov_field Try.underlying93 rfl Try.sizeOf3 rfl (k := 5) rfl rfl) ?_
 refine LD.rd rfl ⟨15, _, rfl, rfl, rfl⟩ (om_ld Try.isAgg3 rfl rfl) ?_
 refine LD.val rfl ⟨15, _, rfl, rfl, rfl⟩ (ov_move rfl) ?_
 refine LD.val rfl ⟨15, _, rfl, rfl, rfl⟩ (ov_nilCheck rfl) ?_
 refine LD.val rfl ⟨15, _, rfl, rfl, rfl⟩ (ov_field Try.underlying93 rfl Try.sizeOf3 rfl (k := 0) rfl rfl) ?_
 refine LD.rd rfl ⟨15, _, rfl, rfl, rfl⟩ (om_ld Try.isAgg3 rfl rfl) ?_
 refine LD.val rfl ⟨15, _, rfl, rfl, rfl⟩ (ov_lss rfl rfl) ?_
 refine LD.val rfl rfl (ov_pickF rfl rfl) ?_
 refine LD.nil ?_
 refine QM.sub (e' := [(0, _), (25, _)]) au9 (QM.then ?_)
 refine wpM.condD rfl (fun h2 => ?_) (fun h2 => ?_)
 ·
  refine wpM.seq (wpM.region ?_)
  refine LM.as rfl ?_
  refine LM.nil (QM.sub (e' := [(2, _)]) ⟨rfl, trivial⟩ (QM.then ?_))
  refine wpM.ret ?_
  refine QM.then_ret ?_
  refine QM.leave (.inl rfl) [.tmp 2] Try.results39 rfl ?_
  intro w' hm' hc' hg'
  refine ⟨?_, hc'⟩; rw [due_not (by omega)]; rfl
 refine wpM.skip ?_
 refine QM.then (wpM.seq (wpM.region ?_))
 refine LM.mv rfl ?_
 refine LM.val (ov_nilCheck rfl) ?_
 refine LM.val (ov_field Try.underlying93 rfl Try.sizeOf90 rfl (k := 3) rfl rfl) ?_
 refine LM.rd (om_ld Try.isAgg90 rfl rfl) ?_
 refine LM.callE (oc_call (enters_fn Try.func73 (by kernel_rfl) rfl) rfl) (fun w hm hc hg => first_spec w ht (hm.pick mt)) ?_
 refine LM.mv rfl ?_
 refine LM.val (ov_extract rfl rfl) ?_
 refine LM.val (ov_extract rfl rfl) ?_
 refine LM.val (ov_extract rfl rfl) ?_
 refine LM.alloc Try.zeroValue100 rfl (fun b3 hb3 => ?_)
 refine LM.stW Try.sizeOf100 rfl rfl rfl rfl au7 (fun hlt => by first | exact inM_0 | exact inM_1 | exact absurd hlt (by omega)) ?_
 refine LM.as rfl (LM.as rfl ?_)
 refine LM.nil (QM.sub (e' := [(0, _), (3, _), (5, _)]) au9 (QM.then ?_))
 refine wpM.seq ?_
 refine wpM.draw [(0, 0), (1, 0), (2, 0), (3, 1), (4, 0), (5, 0), (6, 0), (7, 1), (8, 0), (9, 0), (10, 0), (11, 1), (12, 1), (13, 0), (14, 0), (15, 0), (16, 0)] (by kernel_rfl) (by kernel_rfl) ?_
 refine LD.val rfl rfl (ov_move rfl) ?_
 refine LD.val rfl rfl (ov_move rfl) ?_
 refine LD.splitD (t := 36) rfl (fun h3 => ?_) (fun h3 => ?_)
 ·
  refine LD.val rfl ⟨36, _, rfl, rfl, rfl⟩ (ov_field Try.underlying100 rfl Try.sizeOf26 rfl (k := 0) rfl rfl) ?_
  refine LD.rd rfl ⟨36, _, rfl, rfl, rfl⟩ (om_ld Try.isAgg26 rfl rfl) ?_
  refine LD.val rfl ⟨36, _, rfl, rfl, rfl⟩ (ov_move rfl) ?_
  refine LD.val rfl ⟨36, _, rfl, rfl, rfl⟩ (ov_nilCheck rfl) ?_
  refine LD.val rfl ⟨36, _, rfl, rfl, rfl⟩ (ov_field Try.underlying93 rfl Try.sizeOf89 rfl (k := 2) rfl rfl) ?_
  refine LD.rd rfl ⟨36, _, rfl, rfl, rfl⟩ (om_ld Try.isAgg89 rfl rfl) ?_
  refine LD.val rfl ⟨36, _, rfl, rfl, rfl⟩ (ov_move rfl) ?_
  refine LD.val rfl ⟨36, _, rfl, rfl, rfl⟩ (ov_nilCheck rfl) ?_
  refine LD.val rfl ⟨36, _, rfl, rfl, rfl⟩ (ov_field Try.underlying93 rfl Try.sizeOf3 rfl (k := 4) rfl rfl) ?_
  refine LD.rd rfl ⟨36, _, rfl, rfl, rfl⟩ (om_ld Try.isAgg3 rfl rfl) ?_
  refine LD.rd rfl ⟨36, _, rfl, rfl, rfl⟩ (om_lk Try.underlying89 Try.underlying3 Try.zeroValue95 rfl rfl (by assumption) (ent_get _ _)) ?_
  refine LD.val rfl ⟨36, _, rfl, rfl, rfl⟩ (ov_fieldV Try.underlying95 rfl Try.isAgg26 rfl rfl) ?_
  refine LD.val rfl ⟨36, _, rfl, rfl, rfl⟩ (ov_ulss rfl rfl) ?_
  refine LD.val rfl rfl (ov_pickT rfl rfl) ?_
  refine LD.val rfl rfl (ov_assign rfl) ?_
  refine LD.nil ?_
  refine QM.sub (e' := [(2, _)]) ⟨rfl, trivial⟩ (QM.then ?_)
  refine wpM.ret ?_
  refine QM.leave (.inl rfl) [.tmp 2] Try.results39 rfl ?_
  intro w' hm' hc' hg'
  refine ⟨?_, hc'⟩; obtain ⟨t, l, e⟩ := ne_cons h3; rw [due_if ⟨cur_pos hq h1, by omega⟩, e]; rfl
 refine LD.drop rfl rfl ⟨36, _, rfl, rfl, rfl⟩ ?_
 refine LD.drop rfl rfl ⟨36, _, rfl, rfl, rfl⟩ ?_
 refine LD.drop rfl rfl ⟨36, _, rfl, rfl, rfl⟩ ?_
 refine LD.drop rfl rfl ⟨36, _, rfl, rfl, rfl⟩ ?_
 refine LD.drop rfl rfl ⟨36, _, rfl, rfl, rfl⟩ ?_
 refine LD.drop rfl rfl ⟨36, _, rfl, rfl, rfl⟩ ?_
 refine LD.drop rfl rfl ⟨36, _, rfl, rfl, rfl⟩ ?_
 refine LD.drop rfl rfl ⟨36, _, rfl, rfl, rfl⟩ ?_
 refine LD.drop rfl rfl ⟨36, _, rfl, rfl, rfl⟩ ?_
 refine LD.drop rfl rfl ⟨36, _, rfl, rfl, rfl⟩ ?_
 refine LD.drop rfl rfl ⟨36, _, rfl, rfl, rfl⟩ ?_
 refine LD.drop rfl rfl ⟨36, _, rfl, rfl, rfl⟩ ?_
 refine LD.drop rfl rfl ⟨36, _, rfl, rfl, rfl⟩ ?_
 refine LD.val rfl rfl (ov_pickF rfl rfl) ?_
 refine LD.val rfl rfl (ov_assign rfl) ?_
 refine LD.nil ?_
 refine QM.sub (e' := [(2, _)]) ⟨rfl, trivial⟩ (QM.then ?_)
 refine wpM.ret ?_
 refine QM.leave (.inl rfl) [.tmp 2] Try.results39 rfl ?_
 intro w' hm' hc' hg'
 refine ⟨?_, hc'⟩; rw [due_if ⟨cur_pos hq h1, by omega⟩, Classical.not_not.1 h3]; rfl
set_option maxRecDepth 100000 in
theorem least2_spec {n0 b : Nat} {x : Qm} {m : Mem0} (w : World) (h : RqM n0 b x m) (hM : Mem w m) : Ret Try.prog 78 #[.pointer (some ⟨b, 0, none⟩)] w (fun u w' => u = .tuple #[U (minO x.l), .bool (decide (x.l ≠ []))] ∧ Ext w w') := by
 obtain ⟨hq, bm, bt, es, cl, mt, rfl, he, ht, hb, hbm⟩ := h
 refine Ret.enterM (l := [.pointer (some ⟨b, 0, none⟩)]) Try.func78 rfl Try.ntmps78 rfl (rqC b x.g x.fl bm bt x.cur x.ran (loadO x.l) :: (bm, .map es cl) :: (mt ++ [])) (no) (by rw [List.append_nil]; exact hM) ?_
 refine wpM.seq (wpM.region ?_)
 refine LM.as rfl (LM.as rfl ?_)
 refine LM.nil (QM.sub (e' := [(0, _)]) ⟨rfl, trivial⟩ (QM.then (wpM.seq (wpM.region ?_))))
 refine LM.mv rfl ?_
 refine LM.val (ov_nilCheck rfl) ?_
 refine LM.val (ov_field Try.underlying93 rfl Try.sizeOf90 rfl (k := 3) rfl rfl) ?_
 refine LM.rd (om_ld Try.isAgg90 rfl rfl) ?_
 refine LM.callE (oc_call (enters_fn Try.func73 (by kernel_rfl) rfl) rfl) (fun w hm hc hg => first_spec w ht (hm.pick mt)) ?_
 refine LM.mv rfl ?_
 refine LM.val (ov_extract rfl rfl) ?_
 refine LM.val (ov_extract rfl rfl) ?_
 refine LM.val (ov_extract rfl rfl) ?_
 refine LM.alloc Try.zeroValue100 rfl (fun b4 hb4 => ?_)
 refine LM.stW Try.sizeOf100 rfl rfl rfl rfl au7 (fun hlt => by first | exact inM_0 | exact inM_1 | exact absurd hlt (by omega)) ?_
 refine LM.as rfl (LM.as rfl ?_)
 refine LM.nil (QM.sub (e' := [(0, _), (4, _), (6, _)]) au9 (QM.then ?_))
 refine wpM.seq ?_
 refine wpM.seq (wpM.region ?_)
 refine LM.mv rfl ?_
 refine LM.val (ov_nilCheck rfl) ?_
 refine LM.val (ov_field Try.underlying93 rfl Try.sizeOf3 rfl (k := 4) rfl rfl) ?_
 refine LM.rd (om_ld Try.isAgg3 rfl rfl) ?_
 refine LM.val (ov_eql rfl rfl) ?_
 refine LM.nil (QM.sub (e' := [(0, _), (4, _), (6, _), (21, _)]) au9 (QM.then ?_))
 refine wpM.condD rfl (fun h1 => ?_) (fun h1 => ?_)
 ·
  refine wpM.seq (wpM.region ?_)
  refine LM.val (ov_field Try.underlying100 rfl Try.sizeOf26 rfl (k := 0) rfl rfl) ?_
  refine LM.rd (om_ld Try.isAgg26 rfl rfl) ?_
  refine LM.mv rfl (LM.as rfl (LM.as rfl ?_))
  refine LM.nil (QM.sub (e' := [(2, _), (3, _)]) au9 (QM.then ?_))
  refine wpM.ret ?_
  refine QM.then_ret ?_
  refine QM.leave (.inl rfl) [.tmp 2, .tmp 3] Try.results78 rfl ?_
  intro w' hm' hc' hg'
  refine ⟨?_, hc'⟩; obtain ⟨h5, h6⟩ := min_none hq (by omega); by_cases h7 : rdyO x = []; (have h8 := h5 h7; simp only [resV, h7, h8]; try rfl); (obtain ⟨t, l, e⟩ := ne_cons h7; obtain ⟨h8, h9⟩ := h6 t l e; simp only [resV, e, h9, List.headD_cons, decide_eq_true h8]; try rfl)
 refine wpM.skip ?_
 refine QM.then ?_
 refine wpM.seq ?_
 refine wpM.draw [(0, 0), (1, 0), (2, 0), (3, 1), (4, 0), (5, 0), (6, 0), (7, 1), (8, 1), (9, 0), (10, 0)] (by kernel_rfl) (by kernel_rfl) ?_
 refine LD.val rfl rfl (ov_move rfl) ?_
 refine LD.val rfl rfl (ov_nilCheck rfl) ?_
 refine LD.val rfl rfl (ov_field Try.underlying93 rfl Try.sizeOf89 rfl (k := 2) rfl rfl) ?_
 refine LD.rd rfl rfl (om_ld Try.isAgg89 rfl rfl) ?_
 refine LD.val rfl rfl (ov_move rfl) ?_
 refine LD.val rfl rfl (ov_nilCheck rfl) ?_
 refine LD.val rfl rfl (ov_field Try.underlying93 rfl Try.sizeOf3 rfl (k := 4) rfl rfl) ?_
 refine LD.rd rfl rfl (om_ld Try.isAgg3 rfl rfl) ?_
 refine LD.rd rfl rfl (om_lk Try.underlying89 Try.underlying3 Try.zeroValue95 rfl rfl (by assumption) (ent_get _ _)) ?_
 refine LD.val rfl rfl (ov_fieldV Try.underlying95 rfl Try.isAgg26 rfl rfl) ?_
 refine LD.val rfl rfl (ov_assign rfl) ?_
 refine LD.nil ?_
 refine QM.sub (e' := [(4, _), (6, _), (7, _)]) au9 (QM.then ?_)
 refine wpM.seq ?_
 refine wpM.seq (wpM.region ?_)
 refine LM.mv rfl ?_
 refine LM.nil (QM.sub (e' := [(4, _), (7, _), (35, _)]) au9 (QM.then ?_))
 refine wpM.condD rfl (fun h2 => ?_) (fun h2 => ?_)
 ·
  refine wpM.region ?_
  refine LM.mv rfl (LM.val (ov_field Try.underlying100 rfl Try.sizeOf26 rfl (k := 0) rfl rfl) ?_)
  refine LM.rd (om_ld Try.isAgg26 rfl rfl) ?_
  refine LM.val (ov_umin rfl rfl) ?_
  refine LM.as rfl ?_
  refine LM.nil (QM.sub (e' := [(7, _)]) ⟨rfl, trivial⟩ (QM.then (wpM.seq (wpM.region ?_))))
  refine LM.mv rfl (LM.as rfl (LM.as rfl ?_))
  refine LM.nil (QM.sub (e' := [(2, _), (3, _)]) au9 (QM.then ?_))
  refine wpM.ret ?_
  refine QM.leave (.inl rfl) [.tmp 2, .tmp 3] Try.results78 rfl ?_
  intro w' hm' hc' hg'
  refine ⟨?_, hc'⟩; obtain ⟨h5, h6, h7⟩ := min_cur hq (cur_pos hq h1); obtain ⟨t, l, e⟩ := ne_cons h2; simp only [resV, e, h7 t l e, List.headD_cons, decide_eq_true h5]; try rfl
 refine wpM.skip ?_
 refine QM.then (wpM.seq (wpM.region ?_))
 refine LM.mv rfl (LM.as rfl (LM.as rfl ?_))
 refine LM.nil (QM.sub (e' := [(2, _), (3, _)]) au9 (QM.then ?_))
 refine wpM.ret ?_
 refine QM.leave (.inl rfl) [.tmp 2, .tmp 3] Try.results78 rfl ?_
 intro w' hm' hc' hg'
 refine ⟨?_, hc'⟩; obtain ⟨h5, h6, h7⟩ := min_cur hq (cur_pos hq h1); simp only [resV, h6 (Classical.not_not.1 h2), decide_eq_true h5]; try rfl
end Go.Eng
namespace Go.Eng
open Go Go.Proofs Go.RowKit
def addV (x : Qm) (a : Int) (v : BitVec 64) (w : Int) : BitVec 64 := if addE x a = 0 then plcO x v (bringO w 1 4096) else 0#64
def addX (x : Qm) (a : Int) (v : BitVec 64) (w : Int) : Qm := if addE x a = 0 then addQ x a v w else x
theorem addX_wf {x : Qm} (h : QWf x) (a : Int) (v : BitVec 64) (w : Int) : QWf (addX x a v w) := by unfold addX; split; exact add_wf h (by assumption); exact h
def RqN (g : Int) (n0 : Nat) (v : Value) (m : Mem0) : Prop := ∃ b, v = .pointer (some ⟨b, 0, none⟩) ∧ RqM n0 b (newQ g) m
theorem RqN.mono {g : Int} : ∀ (n n' : Nat) (v : Value) (m : Mem0), n' ≤ n → RqN g n v m → RqN g n' v m := fun n n' v m hn ⟨b, h1, h⟩ => ⟨b, h1, h.mono hn⟩
theorem addE_neg {x : Qm} {a : Int} (h : a < 0) : addE x a = 1 := if_pos h
theorem addE_met {x : Qm} {a : Int} (h : ¬ a < 0) (h2 : ixO x.l a < x.l.length) : addE x a = 12 := by unfold addE; rw [if_neg h, if_pos h2]
theorem addE_full {x : Qm} {a : Int} (h : ¬ a < 0) (h2 : ¬ ixO x.l a < x.l.length) (h3 : 16 ≤ x.l.length) : addE x a = 3 := by unfold addE; rw [if_neg h, if_neg h2, if_pos h3]
theorem addE_ok {x : Qm} {a : Int} (h : ¬ a < 0) (h2 : ¬ ixO x.l a < x.l.length) (h3 : ¬ 16 ≤ x.l.length) : addE x a = 0 := by unfold addE; rw [if_neg h, if_neg h2, if_neg h3]
theorem addV_no {x : Qm} {a : Int} {v : BitVec 64} {w : Int} (h : addE x a ≠ 0) : addV x a v w = 0#64 := if_neg h
theorem addX_no {x : Qm} {a : Int} {v : BitVec 64} {w : Int} (h : addE x a ≠ 0) : addX x a v w = x := if_neg h
theorem gQ_new {l : List Kv} {a : Int} (h : ¬ ixO l a < l.length) (v : BitVec 64) (w : Int) : gQ (l ++ [⟨v, a, w⟩]) a = ⟨v, a, w⟩ := by
  unfold gQ
  have e : ixO (l ++ [⟨v, a, w⟩]) a = l.length := by rw [ixO_app h, ixO_cons, if_pos rfl]; rfl
  rw [e, List.getD_eq_getElem?_getD, List.getElem?_append_right (Nat.le_refl _)]; simp
theorem load_new (l : List Kv) (v : BitVec 64) (a w : Int) : loadO l + w = loadO (l ++ [⟨v, a, w⟩]) := by rw [load_app]; simp [loadO]
theorem RbN.mn {most : Nat} : ∀ (k k' : Nat) (u : Value) (m : Mem0), k' ≤ k → RbN most k u m → RbN most k' u m := fun k k' u m hn h => h.mono hn
theorem rdy_id {x : Qm} (h : QWf x) {y : Kv} (hy : y ∈ rdyO x) : y ∈ x.l ∧ y.id ≠ x.cur := (rdy_mem h.nd y).1 hy
theorem rqm_leaf {n0 b bm bt cl cl' : Nat} {x' : Qm} {g cur ran ld : Int} {fl : BitVec 64} {es es' : Array MapEntry} {mt mt' M : Mem0} {u0 : Value} {w w' : World} (hq : QWf x') (he : Ens .i64 es'.toList (entQ x'.l)) (ht : RbT n0 bt 16 (rdyO x') mt') (hb : n0 ≤ b) (hbm : n0 ≤ bm) (hm : Mem w' M)
    (hs : SubM M (rqC b x'.g x'.fl bm bt x'.cur x'.ran (loadO x'.l) :: (bm, .map es' cl') :: (mt' ++ []))) (hc : Chg (inM (rqC b g fl bm bt cur ran ld :: (bm, .map es cl) :: mt)) w w') (hin : inn mt w.heap.size mt') :
    Upd (rqC b g fl bm bt cur ran ld :: (bm, .map es cl) :: mt) (fun u m' => u = u0 ∧ RqM n0 b x' m') w u0 w' :=
  rq_leaf (p0 := rqC b x'.g x'.fl bm bt x'.cur x'.ran (loadO x'.l)) (p1 := (bm, .map es' cl')) (mt' := mt') ⟨rfl, hq, bm, bt, es', cl', mt', rfl, he, ht, hb, hbm⟩ hm hs hc rfl rfl hin
set_option maxRecDepth 100000 in
theorem rqnew_spec (g : Int) (w : World) : Ret Try.prog 12 #[.int .i64 g] w (fun v w' => Ext w w' ∧ ∃ m, RqN g w.heap.size v m ∧ Mem w' m ∧ ∀ p ∈ m, w.heap.size ≤ p.1) := by
 refine Ret.enterM (l := [.int .i64 g]) Try.func12 rfl Try.ntmps12 rfl ([]) (no) (Mem.nil w) ?_
 refine wpM.seq (wpM.region ?_)
 refine LM.as rfl ?_
 refine LM.nil (QM.sub (e' := [(0, _)]) ⟨rfl, trivial⟩ (QM.then (wpM.seq (wpM.region ?_))))
 refine LM.mv rfl ?_
 refine LM.val (ov_max rfl rfl) ?_
 rw [show (if 1 > g then 1 else g) = (if (1 : Int) > g then 1 else g) from rfl]
 refine LM.val (ov_min rfl rfl) ?_
 rw [bring_eq (by decide)]
 refine LM.makeMap rfl (fun b6 hb6 => ?_)
 refine LM.callT (oc_call (enters_fn Try.func62 (by kernel_rfl) rfl) rfl) RbN.mn (fun w hm hc hg => rbnew_spec w) ?_
 rintro u7 m7 ⟨bt, rfl, ht⟩ hge7
 refine LM.val (ov_build (cs := #[_, _, _, _, _, _, _]) rfl (by first | rfl | kernel_rfl)) ?_
 refine LM.box rfl rfl (fun b9 hb9 => ?_)
 refine LM.as rfl ?_
 refine LM.nil (QM.sub (e' := [(2, _)]) ⟨rfl, trivial⟩ (QM.then ?_))
 refine wpM.ret ?_
 refine QM.leave (.inl rfl) [.tmp 2] Try.results12 rfl ?_
 intro w' hm' hc' hg'
 have hwf := new_wf g; exact ⟨hc', _, ⟨b9, rfl, hwf, b6, bt, #[], 0, m7, rfl, rfl, ht, hb9, hb6⟩, (SubM.mem (by (repeat' (first | (rw [List.append_nil]; exact SubM.all _) | exact SubM.all _ | refine SubM.cons rfl ?_ | exact SubM.nil _)))) w' hm', fun p hp => by simp only [List.mem_cons] at hp; rcases hp with rfl | rfl | hp; exact hb9; exact hb6; exact hge7 p hp⟩
set_option maxRecDepth 100000 in
theorem rqAdd_spec {n0 b : Nat} {x : Qm} {m : Mem0} (a : Int) (v : BitVec 64) (wt : Int) (w : World) (h : RqM n0 b x m) (hn0 : n0 ≤ w.heap.size) (hM : Mem w m) : Ret Try.prog 13 #[.pointer (some ⟨b, 0, none⟩), .int .i64 a, U v, .int .i64 wt] w (Upd m (fun u m' => u = .tuple #[U (addV x a v wt), .int .i64 (addE x a)] ∧ RqM n0 b (addX x a v wt) m') w) := by
 obtain ⟨hq, bm, bt, es, cl, mt, rfl, he, ht, hb, hbm⟩ := h; have hll := hq.load; have hlen := hq.len; have hbr := bring_in (n := wt) (lo := 1) (hi := 4096) (by decide)
 refine Ret.enterM (l := [.pointer (some ⟨b, 0, none⟩), .int .i64 a, U v, .int .i64 wt]) Try.func13 rfl Try.ntmps13 rfl (rqC b x.g x.fl bm bt x.cur x.ran (loadO x.l) :: (bm, .map es cl) :: (mt ++ [])) ((inM (rqC b x.g x.fl bm bt x.cur x.ran (loadO x.l) :: (bm, .map es cl) :: mt))) (by rw [List.append_nil]; exact hM) ?_
 refine wpM.seq (wpM.region ?_)
 refine LM.as rfl (LM.as rfl ?_)
 refine LM.nil (QM.sub (e' := [(0, _), (1, _), (2, _), (3, _)]) au9 (QM.then ?_))
 refine wpM.seq ?_
 refine wpM.seq (wpM.region ?_)
 refine LM.mv rfl ?_
 refine LM.val (ov_peql (by kernel_rfl) rfl rfl) ?_
 refine LM.mv rfl (LM.sp 14 rfl rfl rfl (LM.mv rfl (LM.sp 14 rfl rfl rfl ?_)))
 refine LM.val (ov_lss rfl rfl) ?_
 refine LM.val (ov_pickF rfl rfl) ?_
 refine LM.nil (QM.sub (e' := [(0, _), (1, _), (2, _), (3, _), (17, _)]) au9 (QM.then ?_))
 refine wpM.condD rfl (fun h1 => ?_) (fun h1 => ?_)
 ·
  refine wpM.seq (wpM.region ?_)
  refine LM.as rfl (LM.as rfl ?_)
  refine LM.nil (QM.sub (e' := [(8, _), (9, _)]) au9 (QM.then ?_))
  refine wpM.ret ?_
  refine QM.then_ret ?_
  refine QM.leave (.inl rfl) [.tmp 8, .tmp 9] Try.results13 rfl ?_
  intro w' hm' hc' hg'
  have hE := addE_neg (x := x) h1; exact rq_same ⟨by rw [addV_no (by rw [hE]; decide), hE]; rfl, by rw [addX_no (by rw [hE]; decide)]; exact ⟨hq, bm, bt, es, cl, mt, rfl, he, ht, hb, hbm⟩⟩ hm' au1 hc'
 refine wpM.skip ?_
 refine QM.then ?_
 refine wpM.seq ?_
 refine wpM.seq (wpM.region ?_)
 refine LM.mv rfl ?_
 refine LM.val (ov_nilCheck rfl) ?_
 refine LM.val (ov_field Try.underlying93 rfl Try.sizeOf89 rfl (k := 2) rfl rfl) ?_
 refine LM.rd (om_ld Try.isAgg89 rfl rfl) ?_
 refine LM.mv rfl ?_
 refine LM.rd (om_lkOk Try.underlying89 Try.underlying3 Try.zeroValue95 rfl rfl (by assumption) (ent_get _ _) (ent_has _ _)) ?_
 refine LM.mv rfl ?_
 refine LM.val (ov_extract rfl rfl) ?_
 refine LM.val (ov_extract rfl rfl) ?_
 refine LM.alloc Try.zeroValue95 rfl (fun b10 hb10 => ?_)
 refine LM.stW Try.sizeOf95 rfl rfl rfl rfl au7 (fun hlt => by first | exact inM_0 | exact inM_1 | exact absurd hlt (by omega)) ?_
 refine LM.as rfl ?_
 refine LM.nil (QM.sub (e' := [(0, _), (1, _), (2, _), (3, _), (11, _)]) au9 (QM.then (wpM.seq (wpM.region ?_))))
 refine LM.mv rfl ?_
 refine LM.nil (QM.sub (e' := [(0, _), (1, _), (2, _), (3, _), (27, _)]) au9 (QM.then ?_))
 refine wpM.condD rfl (fun h2 => ?_) (fun h2 => ?_)
 ·
  refine wpM.seq (wpM.region ?_)
  refine LM.as rfl (LM.as rfl ?_)
  refine LM.nil (QM.sub (e' := [(8, _), (9, _)]) au9 (QM.then ?_))
  refine wpM.ret ?_
  refine QM.then_ret ?_
  refine QM.leave (.inl rfl) [.tmp 8, .tmp 9] Try.results13 rfl ?_
  intro w' hm' hc' hg'
  have hE := addE_met (x := x) h1 h2; exact rq_same ⟨by rw [addV_no (by rw [hE]; decide), hE]; rfl, by rw [addX_no (by rw [hE]; decide)]; exact ⟨hq, bm, bt, es, cl, mt, rfl, he, ht, hb, hbm⟩⟩ hm' au1 hc'
 refine wpM.skip ?_
 refine QM.then ?_
 refine wpM.seq ?_
 refine wpM.seq (wpM.region ?_)
 refine LM.mv rfl ?_
 refine LM.val (ov_nilCheck rfl) ?_
 refine LM.val (ov_field Try.underlying93 rfl Try.sizeOf89 rfl (k := 2) rfl rfl) ?_
 refine LM.rd (om_ld Try.isAgg89 rfl rfl) ?_
 refine LM.rd (om_mlen Try.underlying89 rfl (by assumption) rfl) ?_
 refine LM.val (ov_geq rfl rfl) ?_
 refine LM.nil (QM.sub (e' := [(0, _), (1, _), (2, _), (3, _), (33, _)]) au9 (QM.then ?_))
 refine wpM.condD rfl (fun h3 => ?_) (fun h3 => ?_)
 ·
  rw [entQ_len] at h3
  refine wpM.seq (wpM.region ?_)
  refine LM.as rfl (LM.as rfl ?_)
  refine LM.nil (QM.sub (e' := [(8, _), (9, _)]) au9 (QM.then ?_))
  refine wpM.ret ?_
  refine QM.then_ret ?_
  refine QM.leave (.inl rfl) [.tmp 8, .tmp 9] Try.results13 rfl ?_
  intro w' hm' hc' hg'
  have hE := addE_full (x := x) h1 h2 (by omega); exact rq_same ⟨by rw [addV_no (by rw [hE]; decide), hE]; rfl, by rw [addX_no (by rw [hE]; decide)]; exact ⟨hq, bm, bt, es, cl, mt, rfl, he, ht, hb, hbm⟩⟩ hm' au1 hc'
 rw [entQ_len] at h3; have hE := addE_ok h1 h2 (by omega); have hwf := add_wf (v := v) (w := wt) hq hE; have hrd := add_rdy (v := v) (w := wt) hq hE; have hld : loadO x.l + bringO wt 1 4096 = loadO (addQ x a v wt).l := load_new x.l (plcO x v (bringO wt 1 4096)) a (bringO wt 1 4096)
 refine wpM.skip ?_
 refine QM.then (wpM.seq (wpM.region ?_))
 refine LM.mv rfl ?_
 refine LM.val (ov_max rfl rfl) ?_
 refine LM.val (ov_min rfl rfl) ?_
 refine LM.as rfl ?_
 refine LM.nil (QM.sub (e' := [(0, _), (1, _), (2, _), (3, _)]) au9 (QM.then (wpM.seq (wpM.region ?_))))
 rw [bring_eq (by decide)]
 refine LM.mv rfl (LM.mv rfl (LM.mv rfl ?_))
 refine LM.callE (oc_call (enters_fn Try.func63 (by kernel_rfl) rfl) rfl) (fun w hm hc hg => place_spec v (bringO wt 1 4096) w (hm.pick (rqC b x.g x.fl bm bt x.cur x.ran (loadO x.l) :: []))) ?_
 refine LM.as rfl ?_
 refine LM.nil (QM.sub (e' := [(0, _), (1, _), (2, _), (3, _)]) au9 (QM.then (wpM.seq (wpM.region ?_))))
 refine LM.mv rfl ?_
 refine LM.val (ov_nilCheck rfl) ?_
 refine LM.val (ov_field Try.underlying93 rfl Try.sizeOf89 rfl (k := 2) rfl rfl) ?_
 refine LM.rd (om_ld Try.isAgg89 rfl rfl) ?_
 refine LM.mv rfl (LM.mv rfl (LM.mv rfl ?_))
 refine LM.val (ov_build (cs := #[U (plcO x v (bringO wt 1 4096)), .int .i64 (bringO wt 1 4096)]) rfl (by first | rfl | kernel_rfl)) ?_
 refine LM.mU Try.underlying89 Try.underlying3 rfl rfl rfl (by assumption) (fun hlt => by first | exact inM_0 | exact inM_1 | exact absurd hlt (by omega)) (fun esu1 clu1 hesu1 => ?_)
 refine LM.nil (QM.sub (e' := [(0, _), (1, _), (2, _), (3, _)]) au9 (QM.then (wpM.seq (wpM.region ?_))))
 rw [ent_new h2] at hesu1
 refine LM.mv rfl ?_
 refine LM.val (ov_nilCheck rfl) ?_
 refine LM.val (ov_field Try.underlying93 rfl Try.sizeOf3 rfl (k := 6) rfl rfl) ?_
 refine LM.rd (om_ld Try.isAgg3 rfl rfl) ?_
 refine LM.mv rfl ?_
 refine LM.val (ov_add64 rfl rfl (by omega)) ?_
 refine LM.val (ov_nilCheck rfl) ?_
 refine LM.val (ov_field Try.underlying93 rfl Try.sizeOf3 rfl (k := 6) rfl rfl) ?_
 refine LM.st Try.sizeOf3 rfl rfl rfl au5 rfl (fun hlt => by first | exact inM_0 | exact inM_1 | exact absurd hlt (by omega)) ?_
 refine LM.mem (SubM.mem (M' := rqC b x.g x.fl bm bt x.cur x.ran (loadO x.l + bringO wt 1 4096) :: (bm, .map esu1 clu1) :: (mt ++ [])) au1) ?_
 refine LM.nil (QM.sub (e' := [(0, _), (1, _), (2, _), (3, _)]) au9 (QM.then ?_))
 refine wpM.seq ?_
 refine wpM.draw [(0, 0), (1, 0), (2, 0), (3, 1), (4, 0), (5, 0), (7, 0), (6, 2), (8, 3)] (by kernel_rfl) (by kernel_rfl) ?_
 refine LD.val rfl rfl (ov_move rfl) ?_
 refine LD.val rfl rfl (ov_nilCheck rfl) ?_
 refine LD.val rfl rfl (ov_field Try.underlying93 rfl Try.sizeOf90 rfl (k := 3) rfl rfl) ?_
 refine LD.rd rfl rfl (om_ld Try.isAgg90 rfl rfl) ?_
 refine LD.val rfl rfl (ov_move rfl) ?_
 refine LD.val rfl rfl (ov_move rfl) ?_
 refine LD.val rfl rfl (ov_move rfl) ?_
 refine LD.callE rfl rfl (oc_call (enters_fn Try.func65 (by kernel_rfl) rfl) rfl) (fun w hm hc hg => (show Ret _ _ _ _ (fun u w' => u = .agg #[U (plcO x v (bringO wt 1 4096)), .int .i64 a] ∧ Ext _ w') from by have hk := key_spec a w hesu1 (hm.pick (rqC b x.g x.fl bm bt x.cur x.ran (loadO x.l + bringO wt 1 4096) :: (bm, .map esu1 clu1) :: [])); rw [gQ_new h2] at hk; exact hk)) ?_
 refine LD.tail rfl rfl ?_
 refine LM.cU (oc_call (enters_fn Try.func64 (by kernel_rfl) rfl) rfl) (fun w hm hc hg => ins_spec ⟨plcO x v (bringO wt 1 4096), a, bringO wt 1 4096⟩ w (fun y hy e => h2 (ixO_lt.2 ⟨y, (rdy_id hq hy).1, e.2⟩)) (Nat.lt_of_le_of_lt (rdy_len hq.nd) (by omega)) (by decide) ht (Nat.le_trans hn0 hc.size) (hm.pick mt)) ht.wlk (fun p hp _ => inM_2 p hp) ?_
 rintro u65 mt1 ⟨rfl, ht1⟩ hin1; rw [hrd] at ht1
 refine LM.nil ?_
 refine QM.qn ?_
 refine QM.sub (e' := [(2, _)]) ⟨rfl, trivial⟩ (QM.then (wpM.seq (wpM.region ?_)))
 refine LM.mv rfl (LM.as rfl (LM.as rfl ?_))
 refine LM.nil (QM.sub (e' := [(8, _), (9, _)]) au9 (QM.then ?_))
 refine wpM.ret ?_
 refine QM.leave (.inl rfl) [.tmp 8, .tmp 9] Try.results13 rfl ?_
 intro w' hm' hc' hg'
 rw [show addV x a v wt = plcO x v (bringO wt 1 4096) from if_pos hE, hE, show addX x a v wt = addQ x a v wt from if_pos hE]; exact rqm_leaf (x' := addQ x a v wt) hwf hesu1 ht1 hb hbm hm' (by (repeat' (first | exact SubM.nil _ | refine SubM.cons (by first | rfl | (rw [← hld]; rfl)) ?_ | refine SubM.app ?_))) hc' hin1
end Go.Eng
namespace Go.Eng
open Go Go.Proofs Go.RowKit
theorem rdy_lt {x : Qm} (h : QWf x) (hc : 0 ≤ x.cur) : (rdyO x).length < x.l.length := by
  have h1 : rdyO x = rdyO { x with l := x.l.filter (fun t => decide (t.id ≠ x.cur)) } := by
    unfold rdyO; simp only [List.filter_filter, Bool.and_self]
  rw [h1]
  refine Nat.lt_of_le_of_lt (rdy_len (nodup_filt h.nd)) ?_
  refine Nat.lt_of_le_of_ne (List.length_filter_le ..) (fun q => ?_)
  obtain ⟨h2, h3⟩ := ixO_hit (h.ix hc)
  have := List.length_filter_eq_length_iff.1 q _ h3
  rw [decide_eq_true_eq] at this
  exact this h2
theorem gQ_eta {l : List Kv} {a : Int} (h : ixO l a < l.length) : (⟨(gQ l a).V, a, (gQ l a).x⟩ : Kv) = gQ l a := by
  have := (ixO_hit h).1
  change (gQ l a).id = a at this
  generalize gQ l a = y at this ⊢
  subst this; rfl
theorem tickL_eq {l : List Kv} {a : Int} (h : ixO l a < l.length) : tickL l a = l.set (ixO l a) ⟨addO (gQ l a).V (coreO (gQ l a).x), a, (gQ l a).x⟩ := by
  unfold tickL
  congr 1
  have := (ixO_hit h).1
  show (⟨_, (gQ l a).id, _⟩ : Kv) = _
  rw [show (gQ l a).id = a from this]
theorem load_same {l : List Kv} {i : Nat} (h : i < l.length) {y : Kv} (hy : y.x = (l.getD i default).x) : loadO l = loadO (l.set i y) := by rw [load_set h, hy]; omega
theorem setlQ_nil {x : Qm} (h : x.l = []) : setlQ x = x := by unfold setlQ; rw [h]
theorem setlQ_pos {x : Qm} (h : x.l ≠ []) : setlQ x = { x with fl := if x.fl.toNat < (minO x.l).toNat then minO x.l else x.fl } := by
  have h2 : setlQ x = if x.fl.toNat < (minO x.l).toNat then { x with fl := minO x.l } else x := by
    unfold setlQ; split
    · exact absurd (by assumption) h
    · rfl
  rw [h2]
  by_cases q : x.fl.toNat < (minO x.l).toNat
  · rw [if_pos q, if_pos q]
  · rw [if_neg q, if_neg q]
set_option maxRecDepth 100000 in
theorem pick_spec {n0 b : Nat} {x : Qm} {m : Mem0} (w : World) (h : RqM n0 b x m) (hM : Mem w m) : Ret Try.prog 26 #[.pointer (some ⟨b, 0, none⟩)] w (Upd m (fun u m' => u = .tuple #[.int .i64 (pickO x), .bool (decide (0 ≤ pickO x))] ∧ RqM n0 b (pikQ x) m') w) := by
 obtain ⟨hq, bm, bt, es, cl, mt, rfl, he, ht, hb, hbm⟩ := h; have h0 : RqM n0 b x (rqC b x.g x.fl bm bt x.cur x.ran (loadO x.l) :: (bm, .map es cl) :: mt) := ⟨hq, bm, bt, es, cl, mt, rfl, he, ht, hb, hbm⟩; have hll := hq.load; have hlen := hq.len
 refine Ret.enterM (l := [.pointer (some ⟨b, 0, none⟩)]) Try.func26 rfl Try.ntmps26 rfl (rqC b x.g x.fl bm bt x.cur x.ran (loadO x.l) :: (bm, .map es cl) :: (mt ++ [])) ((inM (rqC b x.g x.fl bm bt x.cur x.ran (loadO x.l) :: (bm, .map es cl) :: mt))) (by rw [List.append_nil]; exact hM) ?_
 refine wpM.seq (wpM.region ?_)
 refine LM.as rfl (LM.as rfl ?_)
 refine LM.nil (QM.sub (e' := [(0, _)]) ⟨rfl, trivial⟩ (QM.then ?_))
 refine wpM.seq ?_
 refine wpM.seq (wpM.region ?_)
 refine LM.mv rfl ?_
 refine LM.val (ov_peql (by kernel_rfl) rfl rfl) ?_
 refine LM.mv rfl (LM.sp 9 rfl rfl rfl (LM.mv rfl (LM.sp 9 rfl rfl rfl ?_)))
 refine LM.val (ov_nilCheck rfl) ?_
 refine LM.sp 9 rfl rfl rfl (LM.val (ov_field Try.underlying93 rfl Try.sizeOf3 rfl (k := 4) rfl rfl) (LM.sp 9 rfl rfl rfl ?_))
 refine LM.rd (om_ld Try.isAgg3 rfl rfl) ?_
 refine LM.sp 9 rfl rfl rfl ?_
 refine LM.val (ov_neq rfl rfl) ?_
 refine LM.val (ov_pickF rfl rfl) ?_
 refine LM.nil (QM.sub (e' := [(0, _), (15, _)]) au9 (QM.then ?_))
 refine wpM.condD rfl (fun h1 => ?_) (fun h1 => ?_)
 ·
  refine wpM.seq (wpM.region ?_)
  refine LM.as rfl (LM.as rfl ?_)
  refine LM.nil (QM.sub (e' := [(2, _), (3, _)]) au9 (QM.then ?_))
  refine wpM.ret ?_
  refine QM.then_ret ?_
  refine QM.leave (.inl rfl) [.tmp 2, .tmp 3] Try.results26 rfl ?_
  intro w' hm' hc' hg'
  obtain ⟨hp1, hp2⟩ := pik_none (x := x) (.inl (cur_pos hq h1)); rw [hp1, hp2]; exact rqm_leaf (x' := x) hq he ht hb hbm hm' au1 hc' (inn_refl _ _)
 replace h1 := Classical.not_not.1 h1
 refine wpM.skip ?_
 refine QM.then (wpM.seq (wpM.region ?_))
 refine LM.mv rfl ?_
 refine LM.val (ov_nilCheck rfl) ?_
 refine LM.val (ov_field Try.underlying93 rfl Try.sizeOf90 rfl (k := 3) rfl rfl) ?_
 refine LM.rd (om_ld Try.isAgg90 rfl rfl) ?_
 refine LM.callE (oc_call (enters_fn Try.func73 (by kernel_rfl) rfl) rfl) (fun w hm hc hg => first_spec w ht (hm.pick mt)) ?_
 refine LM.mv rfl ?_
 refine LM.val (ov_extract rfl rfl) ?_
 refine LM.val (ov_extract rfl rfl) ?_
 refine LM.val (ov_extract rfl rfl) ?_
 refine LM.alloc Try.zeroValue100 rfl (fun b4 hb4 => ?_)
 refine LM.stW Try.sizeOf100 rfl rfl rfl rfl au7 (fun hlt => by first | exact inM_0 | exact inM_1 | exact absurd hlt (by omega)) ?_
 refine LM.as rfl (LM.as rfl ?_)
 refine LM.nil (QM.sub (e' := [(0, _), (4, _), (6, _)]) au9 (QM.then ?_))
 refine wpM.seq ?_
 refine wpM.seq (wpM.region ?_)
 refine LM.mv rfl ?_
 refine LM.val (ov_notD rfl) ?_
 refine LM.nil (QM.sub (e' := [(0, _), (4, _), (26, _)]) au9 (QM.then ?_))
 refine wpM.condD rfl (fun h2 => ?_) (fun h2 => ?_)
 ·
  refine wpM.seq (wpM.region ?_)
  refine LM.as rfl (LM.as rfl ?_)
  refine LM.nil (QM.sub (e' := [(2, _), (3, _)]) au9 (QM.then ?_))
  refine wpM.ret ?_
  refine QM.then_ret ?_
  refine QM.leave (.inl rfl) [.tmp 2, .tmp 3] Try.results26 rfl ?_
  intro w' hm' hc' hg'
  obtain ⟨hp1, hp2⟩ := pik_none (x := x) (.inr (Classical.not_not.1 h2)); rw [hp1, hp2]; exact rqm_leaf (x' := x) hq he ht hb hbm hm' au1 hc' (inn_refl _ _)
 replace h2 := Classical.not_not.1 h2; obtain ⟨t, l, e⟩ := ne_cons h2; have het : (rdyO x).headD default = t := (by rw [e]; rfl); obtain ⟨hp1, hp2⟩ := pickO_hit hq h1 e; have htm := rdy_hd_mem hq e; have hwf := pick_wf hq htm.1; have hpos := hq.pos t htm.1
 refine wpM.skip ?_
 refine QM.then ?_
 refine wpM.seq ?_
 refine wpM.draw [(0, 0), (1, 0), (2, 0), (3, 1), (4, 1), (5, 3)] (by kernel_rfl) (by kernel_rfl) ?_
 rw [het]
 refine LD.val rfl rfl (ov_move rfl) ?_
 refine LD.val rfl rfl (ov_nilCheck rfl) ?_
 refine LD.val rfl rfl (ov_field Try.underlying93 rfl Try.sizeOf90 rfl (k := 3) rfl rfl) ?_
 refine LD.rd rfl rfl (om_ld Try.isAgg90 rfl rfl) ?_
 refine LD.rd rfl rfl (om_ldW Try.isAgg100 Try.sizeOf100 rfl rfl) ?_
 refine LD.tail rfl rfl ?_
 refine LM.cU (oc_call (enters_fn Try.func67 (by kernel_rfl) rfl) rfl) (fun w hm hc hg => del_spec t t w (by rw [e]; exact List.mem_cons_self ..) ⟨rfl, rfl⟩ (by decide) ht (hm.pick mt)) ht.wlk (fun p hp _ => inM_2 p hp) ?_
 rintro u32 mt1 ⟨rfl, ht1⟩ hin1; rw [pick_rdy hq h1 htm.1 ⟨rfl, rfl⟩] at ht1
 refine LM.nil ?_
 refine QM.qn ?_
 refine QM.sub (e' := [(0, _), (4, _)]) au9 (QM.then (wpM.seq (wpM.region ?_)))
 refine LM.mv rfl (LM.mv rfl (LM.val (ov_field Try.underlying100 rfl Try.sizeOf3 rfl (k := 1) rfl rfl) ?_))
 refine LM.rd (om_ld Try.isAgg3 rfl rfl) ?_
 refine LM.val (ov_nilCheck rfl) ?_
 refine LM.val (ov_field Try.underlying93 rfl Try.sizeOf3 rfl (k := 4) rfl rfl) ?_
 refine LM.st Try.sizeOf3 rfl rfl rfl au5 rfl (fun hlt => by first | exact inM_0 | exact inM_1 | exact absurd hlt (by omega)) ?_
 refine LM.val (ov_nilCheck rfl) ?_
 refine LM.val (ov_field Try.underlying93 rfl Try.sizeOf3 rfl (k := 5) rfl rfl) ?_
 refine LM.st Try.sizeOf3 rfl rfl rfl au5 rfl (fun hlt => by first | exact inM_0 | exact inM_1 | exact absurd hlt (by omega)) ?_
 refine LM.mem (SubM.mem (M' := rqC b x.g x.fl bm bt t.id 0 (loadO x.l) :: (bm, .map es cl) :: (b4, .cells #[U t.V, .int .i64 t.id] 100 (0, 0)) :: (mt1 ++ [])) au1) ?_
 refine LM.nil (QM.sub (e' := [(4, _)]) ⟨rfl, trivial⟩ (QM.then (wpM.seq (wpM.region ?_))))
 refine LM.val (ov_field Try.underlying100 rfl Try.sizeOf3 rfl (k := 1) rfl rfl) ?_
 refine LM.rd (om_ld Try.isAgg3 rfl rfl) ?_
 refine LM.as rfl (LM.as rfl ?_)
 refine LM.nil (QM.sub (e' := [(2, _), (3, _)]) au9 (QM.then ?_))
 refine wpM.ret ?_
 refine QM.leave (.inl rfl) [.tmp 2, .tmp 3] Try.results26 rfl ?_
 intro w' hm' hc' hg'
 rw [hp1, hp2, decide_eq_true hpos]; exact rqm_leaf (x' := pickQ x t.id) hwf he ht1 hb hbm hm' au1 hc' hin1
set_option maxRecDepth 100000 in
theorem back_spec {n0 b : Nat} {x : Qm} {m : Mem0} (w : World) (h : RqM n0 b x m) (hn0 : n0 ≤ w.heap.size) (hM : Mem w m) : Ret Try.prog 28 #[.pointer (some ⟨b, 0, none⟩)] w (Upd m (fun u m' => u = .tuple #[.int .i64 x.cur, .bool (decide (x.cur ≠ -1))] ∧ RqM n0 b (bakQ x) m') w) := by
 obtain ⟨hq, bm, bt, es, cl, mt, rfl, he, ht, hb, hbm⟩ := h; have h0 : RqM n0 b x (rqC b x.g x.fl bm bt x.cur x.ran (loadO x.l) :: (bm, .map es cl) :: mt) := ⟨hq, bm, bt, es, cl, mt, rfl, he, ht, hb, hbm⟩; have hll := hq.load; have hlen := hq.len
 refine Ret.enterM (l := [.pointer (some ⟨b, 0, none⟩)]) Try.func28 rfl Try.ntmps28 rfl (rqC b x.g x.fl bm bt x.cur x.ran (loadO x.l) :: (bm, .map es cl) :: (mt ++ [])) ((inM (rqC b x.g x.fl bm bt x.cur x.ran (loadO x.l) :: (bm, .map es cl) :: mt))) (by rw [List.append_nil]; exact hM) ?_
 refine wpM.seq (wpM.region ?_)
 refine LM.as rfl (LM.as rfl ?_)
 refine LM.nil (QM.sub (e' := [(0, _)]) ⟨rfl, trivial⟩ (QM.then ?_))
 refine wpM.seq ?_
 refine wpM.seq (wpM.region ?_)
 refine LM.mv rfl ?_
 refine LM.val (ov_peql (by kernel_rfl) rfl rfl) ?_
 refine LM.mv rfl (LM.sp 7 rfl rfl rfl (LM.mv rfl (LM.sp 7 rfl rfl rfl ?_)))
 refine LM.val (ov_nilCheck rfl) ?_
 refine LM.sp 7 rfl rfl rfl (LM.val (ov_field Try.underlying93 rfl Try.sizeOf3 rfl (k := 4) rfl rfl) (LM.sp 7 rfl rfl rfl ?_))
 refine LM.rd (om_ld Try.isAgg3 rfl rfl) ?_
 refine LM.sp 7 rfl rfl rfl ?_
 refine LM.val (ov_eql rfl rfl) ?_
 refine LM.val (ov_pickF rfl rfl) ?_
 refine LM.nil (QM.sub (e' := [(0, _), (13, _)]) au9 (QM.then ?_))
 refine wpM.condD rfl (fun h1 => ?_) (fun h1 => ?_)
 ·
  refine wpM.seq (wpM.region ?_)
  refine LM.as rfl (LM.as rfl ?_)
  refine LM.nil (QM.sub (e' := [(2, _), (3, _)]) au9 (QM.then ?_))
  refine wpM.ret ?_
  refine QM.then_ret ?_
  refine QM.leave (.inl rfl) [.tmp 2, .tmp 3] Try.results28 rfl ?_
  intro w' hm' hc' hg'
  rw [show bakQ x = x from if_neg (by omega), decide_eq_false (by omega)]; exact h1 ▸ rqm_leaf (x' := x) hq he ht hb hbm hm' au1 hc' (inn_refl _ _)
 have hc0 := cur_pos hq h1; have hix := hq.ix hc0; have hwf := back_wf hq
 refine wpM.skip ?_
 refine QM.then (wpM.seq (wpM.region ?_))
 refine LM.mv rfl ?_
 refine LM.val (ov_nilCheck rfl) ?_
 refine LM.val (ov_field Try.underlying93 rfl Try.sizeOf3 rfl (k := 4) rfl rfl) ?_
 refine LM.rd (om_ld Try.isAgg3 rfl rfl) ?_
 refine LM.as rfl ?_
 refine LM.nil (QM.sub (e' := [(0, _), (4, _)]) au9 (QM.then (wpM.seq (wpM.region ?_))))
 refine LM.mv rfl (LM.mv rfl ?_)
 refine LM.val (ov_nilCheck rfl) ?_
 refine LM.val (ov_field Try.underlying93 rfl Try.sizeOf3 rfl (k := 4) rfl rfl) ?_
 refine LM.st Try.sizeOf3 rfl rfl rfl au5 rfl (fun hlt => by first | exact inM_0 | exact inM_1 | exact absurd hlt (by omega)) ?_
 refine LM.val (ov_nilCheck rfl) ?_
 refine LM.val (ov_field Try.underlying93 rfl Try.sizeOf3 rfl (k := 5) rfl rfl) ?_
 refine LM.st Try.sizeOf3 rfl rfl rfl au5 rfl (fun hlt => by first | exact inM_0 | exact inM_1 | exact absurd hlt (by omega)) ?_
 refine LM.mem (SubM.mem (M' := rqC b x.g x.fl bm bt (-1) 0 (loadO x.l) :: (bm, .map es cl) :: (mt ++ [])) au1) ?_
 refine LM.nil (QM.sub (e' := [(0, _), (4, _)]) au9 (QM.then ?_))
 refine wpM.seq ?_
 refine wpM.draw [(0, 0), (1, 0), (2, 0), (3, 1), (4, 0), (5, 0), (7, 0), (8, 0), (9, 0), (10, 1), (11, 0), (12, 1), (13, 0), (6, 2), (14, 3)] (by kernel_rfl) (by kernel_rfl) ?_
 refine LD.val rfl rfl (ov_move rfl) ?_
 refine LD.val rfl rfl (ov_nilCheck rfl) ?_
 refine LD.val rfl rfl (ov_field Try.underlying93 rfl Try.sizeOf90 rfl (k := 3) rfl rfl) ?_
 refine LD.rd rfl rfl (om_ld Try.isAgg90 rfl rfl) ?_
 refine LD.val rfl rfl (ov_move rfl) ?_
 refine LD.val rfl rfl (ov_move rfl) ?_
 refine LD.val rfl rfl (ov_move rfl) ?_
 refine LD.val rfl rfl (ov_nilCheck rfl) ?_
 refine LD.val rfl rfl (ov_field Try.underlying93 rfl Try.sizeOf89 rfl (k := 2) rfl rfl) ?_
 refine LD.rd rfl rfl (om_ld Try.isAgg89 rfl rfl) ?_
 refine LD.val rfl rfl (ov_move rfl) ?_
 refine LD.rd rfl rfl (om_lk Try.underlying89 Try.underlying3 Try.zeroValue95 rfl rfl (by assumption) (ent_get _ _)) ?_
 refine LD.val rfl rfl (ov_fieldV Try.underlying95 rfl Try.isAgg3 rfl rfl) ?_
 refine LD.callE rfl rfl (oc_call (enters_fn Try.func65 (by kernel_rfl) rfl) rfl) (fun w hm hc hg => key_spec x.cur w he (hm.pick (rqC b x.g x.fl bm bt (-1) 0 (loadO x.l) :: (bm, .map es cl) :: []))) ?_
 refine LD.tail rfl rfl ?_
 refine LM.cU (oc_call (enters_fn Try.func64 (by kernel_rfl) rfl) rfl) (fun w hm hc hg => ins_spec (⟨(gQ x.l x.cur).V, x.cur, (gQ x.l x.cur).x⟩ : Kv) w (fun y hy e => (rdy_id hq hy).2 e.2) (Nat.lt_of_lt_of_le (rdy_lt hq hc0) hlen) (by decide) ht (Nat.le_trans hn0 hc.size) (hm.pick mt)) ht.wlk (fun p hp _ => inM_2 p hp) ?_
 rintro u38 mt1 ⟨rfl, ht1⟩ hin1; rw [gQ_eta hix, back_rdy hq hc0] at ht1
 refine LM.nil ?_
 refine QM.qn ?_
 refine QM.sub (e' := [(4, _)]) ⟨rfl, trivial⟩ (QM.then (wpM.seq (wpM.region ?_)))
 refine LM.mv rfl (LM.as rfl (LM.as rfl ?_))
 refine LM.nil (QM.sub (e' := [(2, _), (3, _)]) au9 (QM.then ?_))
 refine wpM.ret ?_
 refine QM.leave (.inl rfl) [.tmp 2, .tmp 3] Try.results28 rfl ?_
 intro w' hm' hc' hg'
 rw [show bakQ x = backQ x from if_pos hc0, decide_eq_true h1]; exact rqm_leaf (x' := backQ x) hwf he ht1 hb hbm hm' au1 hc' hin1
set_option maxRecDepth 100000 in
theorem tick_spec {n0 b : Nat} {x : Qm} {m : Mem0} (w : World) (h : RqM n0 b x m) (hr : x.ran ≤ 1000000000000) (hM : Mem w m) : Ret Try.prog 30 #[.pointer (some ⟨b, 0, none⟩)] w (Upd m (fun u m' => u = .tuple #[.int .i64 x.cur, .bool (decide (x.cur ≠ -1))] ∧ RqM n0 b (tickQ x) m') w) := by
 obtain ⟨hq, bm, bt, es, cl, mt, rfl, he, ht, hb, hbm⟩ := h; have h0 : RqM n0 b x (rqC b x.g x.fl bm bt x.cur x.ran (loadO x.l) :: (bm, .map es cl) :: mt) := ⟨hq, bm, bt, es, cl, mt, rfl, he, ht, hb, hbm⟩; have hll := hq.load; have hlen := hq.len; have hrn := hq.ran
 refine Ret.enterM (l := [.pointer (some ⟨b, 0, none⟩)]) Try.func30 rfl Try.ntmps30 rfl (rqC b x.g x.fl bm bt x.cur x.ran (loadO x.l) :: (bm, .map es cl) :: (mt ++ [])) ((inM (rqC b x.g x.fl bm bt x.cur x.ran (loadO x.l) :: (bm, .map es cl) :: mt))) (by rw [List.append_nil]; exact hM) ?_
 refine wpM.seq (wpM.region ?_)
 refine LM.as rfl (LM.as rfl ?_)
 refine LM.nil (QM.sub (e' := [(0, _)]) ⟨rfl, trivial⟩ (QM.then ?_))
 refine wpM.seq ?_
 refine wpM.seq (wpM.region ?_)
 refine LM.mv rfl ?_
 refine LM.val (ov_peql (by kernel_rfl) rfl rfl) ?_
 refine LM.mv rfl (LM.sp 7 rfl rfl rfl (LM.mv rfl (LM.sp 7 rfl rfl rfl ?_)))
 refine LM.val (ov_nilCheck rfl) ?_
 refine LM.sp 7 rfl rfl rfl (LM.val (ov_field Try.underlying93 rfl Try.sizeOf3 rfl (k := 4) rfl rfl) (LM.sp 7 rfl rfl rfl ?_))
 refine LM.rd (om_ld Try.isAgg3 rfl rfl) ?_
 refine LM.sp 7 rfl rfl rfl ?_
 refine LM.val (ov_eql rfl rfl) ?_
 refine LM.val (ov_pickF rfl rfl) ?_
 refine LM.nil (QM.sub (e' := [(0, _), (13, _)]) au9 (QM.then ?_))
 refine wpM.condD rfl (fun h1 => ?_) (fun h1 => ?_)
 ·
  refine wpM.seq (wpM.region ?_)
  refine LM.as rfl (LM.as rfl ?_)
  refine LM.nil (QM.sub (e' := [(2, _), (3, _)]) au9 (QM.then ?_))
  refine wpM.ret ?_
  refine QM.then_ret ?_
  refine QM.leave (.inl rfl) [.tmp 2, .tmp 3] Try.results30 rfl ?_
  intro w' hm' hc' hg'
  rw [show tickQ x = x from if_neg (by omega), decide_eq_false (by omega)]; exact h1 ▸ rqm_leaf (x' := x) hq he ht hb hbm hm' au1 hc' (inn_refl _ _)
 have hc0 := cur_pos hq h1; have hix := hq.ix hc0; have hwf := tick_wf hq; have hrd := tick_rdy hq; have htq : tickQ x = { x with l := tickL x.l x.cur, ran := x.ran + 1 } := if_pos hc0
 refine wpM.skip ?_
 refine QM.then ?_
 refine wpM.seq ?_
 refine wpM.draw [(0, 0), (1, 0), (2, 0), (3, 1), (4, 0), (5, 0), (6, 0), (7, 1), (8, 1), (9, 2), (10, 3)] (by kernel_rfl) (by kernel_rfl) ?_
 refine LD.val rfl rfl (ov_move rfl) ?_
 refine LD.val rfl rfl (ov_nilCheck rfl) ?_
 refine LD.val rfl rfl (ov_field Try.underlying93 rfl Try.sizeOf89 rfl (k := 2) rfl rfl) ?_
 refine LD.rd rfl rfl (om_ld Try.isAgg89 rfl rfl) ?_
 refine LD.val rfl rfl (ov_move rfl) ?_
 refine LD.val rfl rfl (ov_nilCheck rfl) ?_
 refine LD.val rfl rfl (ov_field Try.underlying93 rfl Try.sizeOf3 rfl (k := 4) rfl rfl) ?_
 refine LD.rd rfl rfl (om_ld Try.isAgg3 rfl rfl) ?_
 refine LD.rd rfl rfl (om_lk Try.underlying89 Try.underlying3 Try.zeroValue95 rfl rfl (by assumption) (ent_get _ _)) ?_
 refine LD.alloc rfl rfl Try.zeroValue95 rfl (fun b4 hb4 => ?_)
 refine LD.tail rfl rfl ?_
 refine LM.stW Try.sizeOf95 rfl rfl rfl rfl au7 (fun hlt => by first | exact inM_0 | exact inM_1 | exact absurd hlt (by omega)) ?_
 refine LM.nil ?_
 refine QM.qn ?_
 refine QM.sub (e' := [(0, _), (4, _)]) au9 (QM.then ?_)
 refine wpM.seq ?_
 refine wpM.draw [(0, 0), (1, 1), (2, 0), (3, 1), (4, 2), (5, 2), (6, 0), (7, 0), (8, 0), (9, 0), (10, 3)] (by kernel_rfl) (by kernel_rfl) ?_
 refine LD.val rfl rfl (ov_field Try.underlying95 rfl Try.sizeOf26 rfl (k := 0) rfl rfl) ?_
 refine LD.rd rfl rfl (om_ld Try.isAgg26 rfl rfl) ?_
 refine LD.val rfl rfl (ov_field Try.underlying95 rfl Try.sizeOf3 rfl (k := 1) rfl rfl) ?_
 refine LD.rd rfl rfl (om_ld Try.isAgg3 rfl rfl) ?_
 refine LD.callE rfl rfl (oc_call (enters_fn Try.func16 (by kernel_rfl) rfl) rfl) (fun w hm hc hg => ucore_spec _ w) ?_
 refine LD.callE rfl rfl (oc_call (enters_fn Try.func75 (by kernel_rfl) rfl) rfl) (fun w hm hc hg => fadd_spec _ _ w) ?_
 refine LD.val rfl rfl (ov_move rfl) ?_
 refine LD.val rfl rfl (ov_extract rfl rfl) ?_
 refine LD.val rfl rfl (ov_extract rfl rfl) ?_
 refine LD.val rfl rfl (ov_field Try.underlying95 rfl Try.sizeOf26 rfl (k := 0) rfl rfl) ?_
 refine LD.tail rfl rfl ?_
 refine LM.st Try.sizeOf26 rfl rfl rfl au5 rfl (fun hlt => by first | exact inM_0 | exact inM_1 | exact absurd hlt (by omega)) ?_
 refine LM.mem (SubM.mem (M' := (b4, .cells #[U (addO (gQ x.l x.cur).V (coreO (gQ x.l x.cur).x)), .int .i64 (gQ x.l x.cur).x] 95 (0, 0)) :: rqC b x.g x.fl bm bt x.cur x.ran (loadO x.l) :: (bm, .map es cl) :: (mt ++ [])) au1) ?_
 refine LM.nil ?_
 refine QM.qn ?_
 refine QM.sub (e' := [(0, _), (4, _)]) au9 (QM.then ?_)
 refine wpM.seq ?_
 refine wpM.draw [(0, 0), (1, 0), (2, 0), (3, 1), (4, 0), (5, 0), (6, 0), (7, 1), (8, 1), (9, 3)] (by kernel_rfl) (by kernel_rfl) ?_
 refine LD.val rfl rfl (ov_move rfl) ?_
 refine LD.val rfl rfl (ov_nilCheck rfl) ?_
 refine LD.val rfl rfl (ov_field Try.underlying93 rfl Try.sizeOf89 rfl (k := 2) rfl rfl) ?_
 refine LD.rd rfl rfl (om_ld Try.isAgg89 rfl rfl) ?_
 refine LD.val rfl rfl (ov_move rfl) ?_
 refine LD.val rfl rfl (ov_nilCheck rfl) ?_
 refine LD.val rfl rfl (ov_field Try.underlying93 rfl Try.sizeOf3 rfl (k := 4) rfl rfl) ?_
 refine LD.rd rfl rfl (om_ld Try.isAgg3 rfl rfl) ?_
 refine LD.rd rfl rfl (om_ldW Try.isAgg95 Try.sizeOf95 rfl rfl) ?_
 refine LD.tail rfl rfl ?_
 refine LM.mU Try.underlying89 Try.underlying3 rfl rfl rfl (by assumption) (fun hlt => by first | exact inM_0 | exact inM_1 | exact absurd hlt (by omega)) (fun esu1 clu1 hesu1 => ?_)
 refine LM.nil ?_
 refine QM.qn ?_
 refine QM.sub (e' := [(0, _)]) ⟨rfl, trivial⟩ (QM.then (wpM.seq (wpM.region ?_)))
 rw [ent_set hix, ← tickL_eq hix] at hesu1
 refine LM.mv rfl ?_
 refine LM.val (ov_nilCheck rfl) ?_
 refine LM.val (ov_field Try.underlying93 rfl Try.sizeOf3 rfl (k := 5) rfl rfl) ?_
 refine LM.rd (om_ld Try.isAgg3 rfl rfl) ?_
 refine LM.val (ov_add64 rfl rfl (by omega)) ?_
 refine LM.val (ov_nilCheck rfl) ?_
 refine LM.val (ov_field Try.underlying93 rfl Try.sizeOf3 rfl (k := 5) rfl rfl) ?_
 refine LM.st Try.sizeOf3 rfl rfl rfl au5 rfl (fun hlt => by first | exact inM_0 | exact inM_1 | exact absurd hlt (by omega)) ?_
 refine LM.mem (SubM.mem (M' := rqC b x.g x.fl bm bt x.cur (x.ran + 1) (loadO x.l) :: (bm, .map esu1 clu1) :: (mt ++ [])) au1) ?_
 refine LM.nil (QM.sub (e' := [(0, _)]) ⟨rfl, trivial⟩ (QM.then (wpM.seq (wpM.region ?_))))
 refine LM.mv rfl ?_
 refine LM.val (ov_nilCheck rfl) ?_
 refine LM.val (ov_field Try.underlying93 rfl Try.sizeOf3 rfl (k := 4) rfl rfl) ?_
 refine LM.rd (om_ld Try.isAgg3 rfl rfl) ?_
 refine LM.as rfl (LM.as rfl ?_)
 refine LM.nil (QM.sub (e' := [(2, _), (3, _)]) au9 (QM.then ?_))
 refine wpM.ret ?_
 refine QM.leave (.inl rfl) [.tmp 2, .tmp 3] Try.results30 rfl ?_
 intro w' hm' hc' hg'
 rw [decide_eq_true h1]; rw [hrd] at ht; rw [htq] at hwf ht ⊢; have hld : loadO x.l = loadO (tickL x.l x.cur) := (by rw [tickL_eq hix]; exact load_same hix rfl); exact rqm_leaf (x' := { x with l := tickL x.l x.cur, ran := x.ran + 1 }) hwf hesu1 ht hb hbm hm' (by (repeat' (first | exact SubM.nil _ | refine SubM.cons (by first | rfl | (rw [← hld]; done) | (rw [← hld]; rfl)) ?_ | refine SubM.app ?_))) hc' (inn_refl _ _)
set_option maxRecDepth 100000 in
theorem settle_spec {n0 b : Nat} {x : Qm} {m : Mem0} (w : World) (h : RqM n0 b x m) (hM : Mem w m) : Ret Try.prog 33 #[.pointer (some ⟨b, 0, none⟩)] w (Upd m (fun u m' => u = .tuple #[] ∧ RqM n0 b (setlQ x) m') w) := by
 obtain ⟨hq, bm, bt, es, cl, mt, rfl, he, ht, hb, hbm⟩ := h; have h0 : RqM n0 b x (rqC b x.g x.fl bm bt x.cur x.ran (loadO x.l) :: (bm, .map es cl) :: mt) := ⟨hq, bm, bt, es, cl, mt, rfl, he, ht, hb, hbm⟩; have hll := hq.load; have hlen := hq.len
 refine Ret.enterM (l := [.pointer (some ⟨b, 0, none⟩)]) Try.func33 rfl Try.ntmps33 rfl (rqC b x.g x.fl bm bt x.cur x.ran (loadO x.l) :: (bm, .map es cl) :: (mt ++ [])) ((inM (rqC b x.g x.fl bm bt x.cur x.ran (loadO x.l) :: (bm, .map es cl) :: mt))) (by rw [List.append_nil]; exact hM) ?_
 refine wpM.seq ?_
 refine wpM.seq (wpM.region ?_)
 refine LM.mv rfl ?_
 refine LM.val (ov_peql (by kernel_rfl) rfl rfl) ?_
 refine LM.nil (QM.sub (e' := [(0, _), (5, _)]) au9 (QM.then ?_))
 refine wpM.condF rfl ?_
 refine wpM.skip ?_
 refine QM.then (wpM.seq (wpM.region ?_))
 refine LM.mv rfl ?_
 refine LM.callE (oc_call (enters_fn Try.func78 (by kernel_rfl) rfl) rfl) (fun w hm hc hg => least2_spec w h0 (hm.pick (rqC b x.g x.fl bm bt x.cur x.ran (loadO x.l) :: (bm, .map es cl) :: mt))) ?_
 refine LM.mv rfl ?_
 refine LM.val (ov_extract rfl rfl) ?_
 refine LM.val (ov_extract rfl rfl) ?_
 refine LM.as rfl (LM.as rfl ?_)
 refine LM.nil (QM.sub (e' := [(0, _), (2, _), (3, _)]) au9 (QM.then (wpM.seq (wpM.region ?_))))
 refine LM.mv rfl ?_
 refine LM.nil (QM.sub (e' := [(0, _), (2, _), (11, _)]) au9 (QM.then ?_))
 refine wpM.condD rfl (fun h1 => ?_) (fun h1 => ?_)
 ·
  refine wpM.region ?_
  refine LM.mv rfl (LM.mv rfl ?_)
  refine LM.val (ov_nilCheck rfl) ?_
  refine LM.val (ov_field Try.underlying93 rfl Try.sizeOf26 rfl (k := 1) rfl rfl) ?_
  refine LM.rd (om_ld Try.isAgg26 rfl rfl) ?_
  refine LM.mv rfl ?_
  refine LM.val (ov_umax rfl rfl) ?_
  refine LM.val (ov_nilCheck rfl) ?_
  refine LM.val (ov_field Try.underlying93 rfl Try.sizeOf26 rfl (k := 1) rfl rfl) ?_
  refine LM.st Try.sizeOf26 rfl rfl rfl au5 rfl (fun hlt => by first | exact inM_0 | exact inM_1 | exact absurd hlt (by omega)) ?_
  refine LM.mem (SubM.mem (M' := rqC b x.g (if x.fl.toNat < (minO x.l).toNat then minO x.l else x.fl) bm bt x.cur x.ran (loadO x.l) :: (bm, .map es cl) :: (mt ++ [])) au1) ?_
  refine LM.nil (QM.sub (e' := []) trivial ?_)
  refine QM.leave (.inr rfl) [] Try.results33 rfl ?_
  intro w' hm' hc' hg'
  have hs := setlQ_pos h1; have hwf := setl_wf hq; have hrd := setl_rdy x; rw [hs] at hwf hrd ⊢; rw [hrd] at ht; exact rqm_leaf (x' := { x with fl := if x.fl.toNat < (minO x.l).toNat then minO x.l else x.fl }) hwf he ht hb hbm hm' au1 hc' (inn_refl _ _)
 refine wpM.skip ?_
 refine QM.leave (.inr rfl) [] Try.results33 rfl ?_
 intro w' hm' hc' hg'
 rw [setlQ_nil (Classical.not_not.1 h1)]; exact rqm_leaf (x' := x) hq he ht hb hbm hm' au1 hc' (inn_refl _ _)
end Go.Eng
namespace Go.Eng
open Go Go.Proofs Go.RowKit
abbrev qP (c b : Nat) : Nat × Obj := (c, .cells #[.pointer (some ⟨b, 0, none⟩)] 24 (0, 0))
def RqA (b n0 : Nat) (v : Value) (m : Mem0) : Prop := ∃ c1, v = .func (.func 81) #[] #[.pointer (some ⟨c1, 0, none⟩)] ∧ m = [qP c1 b] ∧ n0 ≤ c1
theorem RqA.mono {b : Nat} : ∀ (k k' : Nat) u m, k' ≤ k → RqA b k u m → RqA b k' u m := fun k k' u m h ⟨b1, h1, h2, h3⟩ => ⟨b1, h1, h2, by omega⟩
end Go.Eng
namespace Go.Eng
open Go Go.Proofs Go.RowKit
def fTk (t : Kv) : List Value := [.int .i64 t.id, U t.V, .int .i64 t.x]
abbrev rfC (b : Nat) (g : Int) (fl : BitVec 64) (ad : Option Addr) (n cap : Nat) (cur ran : Int) : Nat × Obj := (b, .cells #[.int .i64 g, U fl, .slice ad n cap, .int .i64 cur, .int .i64 ran] 110 (0, 0))
def RfM (n0 b : Nat) (x : Qm) (m : Mem0) : Prop := QWf x ∧ ∃ (ad : Option Addr) (n cap : Nat) (ms : Mem0), m = rfC b x.g x.fl ad n cap x.cur x.ran :: ms ∧ n = x.l.length ∧ Sl fTk 112 3 n0 x.l (.slice ad n cap) ms ∧ n0 ≤ b
theorem RfM.ge {n0 b : Nat} {x : Qm} {m : Mem0} (h : RfM n0 b x m) : ∀ p ∈ m, n0 ≤ p.1 := by
  obtain ⟨hq, ad, n, cap, ms, rfl, hn, hs, hb⟩ := h
  intro p hp
  rcases List.mem_cons.1 hp with rfl | hp
  · exact hb
  · exact hs.ge p hp
theorem RfM.wlk {n0 b : Nat} {x : Qm} {m : Mem0} (h : RfM n0 b x m) : ∀ p ∈ m, wlk p.2 = false := by
  obtain ⟨hq, ad, n, cap, ms, rfl, hn, hs, hb⟩ := h
  intro p hp
  rcases List.mem_cons.1 hp with rfl | hp
  · rfl
  · exact hs.wlk p hp
theorem RfM.mono {n0 n1 b : Nat} {x : Qm} {m : Mem0} (h : RfM n0 b x m) (hn : n1 ≤ n0) : RfM n1 b x m := by
  obtain ⟨hq, ad, n, cap, ms, rfl, hn', hs, hb⟩ := h
  exact ⟨hq, ad, n, cap, ms, rfl, hn', hs.mono hn, Nat.le_trans hn hb⟩
def RfN (g : Int) (n0 : Nat) (v : Value) (m : Mem0) : Prop := ∃ b, v = .pointer (some ⟨b, 0, none⟩) ∧ RfM n0 b (newQ g) m
theorem RfN.mono {g : Int} : ∀ (n n' : Nat) (v : Value) (m : Mem0), n' ≤ n → RfN g n v m → RfN g n' v m := fun n n' v m hn ⟨b, h1, h⟩ => ⟨b, h1, h.mono hn⟩
end Go.Eng
namespace Go.Eng
open Go Go.Proofs Go.RowKit
end Go.Eng
namespace Go.Eng
open Go Go.Proofs Go.RowKit
theorem upd_m {m m' M : Mem0} {T : Value → Mem0 → Prop} {u : Value} {w w' : World} (hT : T u m') (hm : Mem w' M) (hs : SubM M (m' ++ [])) (hc : Chg (inM m) w w') (hin : inn m w.heap.size m') : Upd m T w u w' := by
  rw [List.append_nil] at hs
  exact ⟨hc, m', hT, hs.mem w' hm, hin⟩
theorem inM_in {m : Mem0} : ∀ p ∈ m, inM m p.1 := fun p hp => ⟨p, hp, rfl⟩
theorem go1_ran {x : Qm} (h : QWf x) : (goQ1 x).ran ≤ x.ran := by
  have := h.ran
  unfold goQ1; split
  · unfold bakQ; split
    · exact this
    · exact Int.le_refl _
  · exact Int.le_refl _
theorem go2_ran {x : Qm} (h : QWf x) : (goQ2 x).ran ≤ x.ran := by
  have h1 := go1_ran h
  have := h.ran
  unfold goQ2; split
  · exact h1
  · unfold pikQ; split
    · exact h1
    · exact this
theorem go_ran {x : Qm} (h : QWf x) : (goQ x).ran ≤ x.ran + 1 := by
  have h2 := go2_ran h
  have : (goQ x).ran = (tickQ (goQ2 x)).ran := (setl_same _).2.2.1
  rw [this]; unfold tickQ; split
  · show (goQ2 x).ran + 1 ≤ _; omega
  · omega
theorem go1_due {x : Qm} (h : dueO x = true) : goQ1 x = bakQ x := if_pos h
theorem go1_not {x : Qm} (h : dueO x = false) : goQ1 x = x := if_neg (by rw [h]; simp)
set_option maxRecDepth 100000 in
theorem goOn_spec {n0 b : Nat} {x : Qm} {m : Mem0} (w : World) (h : RqM n0 b x m) (hr : x.ran ≤ 1000000000000) (hn0 : n0 ≤ w.heap.size) (hM : Mem w m) : Ret Try.prog 15 #[.pointer (some ⟨b, 0, none⟩)] w (Upd m (fun u m' => u = .int .i64 (goO x) ∧ RqM n0 b (goQ x) m') w) := by
 refine Ret.enterM (l := [.pointer (some ⟨b, 0, none⟩)]) Try.func15 rfl Try.ntmps15 rfl (m ++ []) ((inM m)) (by rw [List.append_nil]; exact hM) ?_
 refine wpM.seq (wpM.region ?_)
 refine LM.as rfl ?_
 refine LM.nil (QM.sub (e' := [(0, _)]) ⟨rfl, trivial⟩ (QM.then ?_))
 refine wpM.seq ?_
 refine wpM.seq (wpM.region ?_)
 refine LM.mv rfl ?_
 refine LM.callE (oc_call (enters_fn Try.func39 (by kernel_rfl) rfl) rfl) (fun w hm hc hg => due_spec w h (hm.pick m)) ?_
 refine LM.nil (QM.sub (e' := [(0, _), (9, _)]) au9 (QM.then ?_))
 refine wpM.joinK (α := Mem0) (fun m1 => []) [(0, _)] (fun m1 => m1 ++ []) (fun m1 => RqM n0 b (goQ1 x) m1 ∧ inn m w.heap.size m1) ⟨rfl, trivial⟩ ?_ ?_
 ·
  first | refine wpM.condD rfl (fun h1 => ?_) (fun h1 => ?_) | refine wpM.condB rfl (fun h1 => ?_) (fun h1 => ?_)
  ·
   refine wpM.region ?_
   refine LM.mv rfl ?_
   refine LM.cU (oc_call (enters_fn Try.func28 (by kernel_rfl) rfl) rfl) (fun w hm hc hg => back_spec w h (Nat.le_trans hn0 hc.size) (hm.pick m)) h.wlk (fun p hp _ => ⟨p, hp, rfl⟩) ?_
   rintro u11 m11 ⟨rfl, h11⟩ hin11
   refine LM.nil (QM.sub (e' := [(0, _)]) ⟨rfl, trivial⟩ ?_)
   refine QM.meetK (m11) ⟨rfl, trivial⟩ au1 ?_
   · exact ⟨by rw [go1_due h1]; exact h11, hin11⟩
  refine wpM.skip ?_
  refine QM.meetK (m) ⟨rfl, trivial⟩ au1 ?_
  · exact ⟨by rw [go1_not h1]; exact h, inn_refl _ _⟩
 rintro m1 ⟨hq1, hi1⟩
 change QM _ _ _ _ _ (m1 ++ []) _ _ _
 refine QM.then ?_
 refine wpM.seq ?_
 refine wpM.seq (wpM.region ?_)
 refine LM.mv rfl ?_
 refine LM.callE (oc_call (enters_fn Try.func37 (by kernel_rfl) rfl) rfl) (fun w hm hc hg => rqCur_spec w hq1 (hm.pick m1)) ?_
 refine LM.mv rfl ?_
 refine LM.val (ov_extract rfl rfl) ?_
 refine LM.val (ov_extract rfl rfl) ?_
 refine LM.val (ov_extract rfl rfl) ?_
 refine LM.as rfl (LM.as rfl (LM.as rfl ?_))
 refine LM.nil (QM.sub (e' := [(0, _), (5, _)]) au9 (QM.then (wpM.seq (wpM.region ?_))))
 refine LM.mv rfl ?_
 refine LM.val (ov_notD rfl) ?_
 refine LM.nil (QM.sub (e' := [(0, _), (19, _)]) au9 (QM.then ?_))
 refine wpM.joinK (α := Mem0) (fun m2 => []) [(0, _)] (fun m2 => m2 ++ []) (fun m2 => RqM n0 b (goQ2 x) m2 ∧ inn m w.heap.size m2) ⟨rfl, trivial⟩ ?_ ?_
 ·
  refine wpM.condD rfl (fun h2 => ?_) (fun h2 => ?_)
  ·
   refine wpM.region ?_
   refine LM.mv rfl ?_
   refine LM.cU (oc_call (enters_fn Try.func26 (by kernel_rfl) rfl) rfl) (fun w hm hc hg => pick_spec w hq1 (hm.pick m1)) hq1.wlk (inn_S hi1 inM_in) ?_
   rintro u21 m21 ⟨rfl, h21⟩ hin21
   refine LM.nil (QM.sub (e' := [(0, _)]) ⟨rfl, trivial⟩ ?_)
   refine QM.meetK (m21) ⟨rfl, trivial⟩ au1 ?_
   · exact ⟨by rw [show goQ2 x = pikQ (goQ1 x) from if_neg (by have := Classical.not_not.1 h2; omega)]; exact h21, inn_trans hi1 hin21⟩
  refine wpM.skip ?_
  refine QM.meetK (m1) ⟨rfl, trivial⟩ au1 ?_
  · exact ⟨by rw [show goQ2 x = goQ1 x from if_pos (cur_pos hq1.1 (Classical.not_not.1 h2))]; exact hq1, hi1⟩
 rintro m2 ⟨hq2, hi2⟩
 change QM _ _ _ _ _ (m2 ++ []) _ _ _
 refine QM.then (wpM.seq (wpM.region ?_))
 refine LM.mv rfl ?_
 refine LM.cU (oc_call (enters_fn Try.func30 (by kernel_rfl) rfl) rfl) (fun w hm hc hg => tick_spec w hq2 (Int.le_trans (go2_ran h.1) hr) (hm.pick m2)) hq2.wlk (inn_S hi2 inM_in) ?_
 rintro u24 m24 ⟨rfl, h24⟩ hin24
 refine LM.mv rfl ?_
 refine LM.val (ov_extract rfl rfl) ?_
 refine LM.val (ov_extract rfl rfl) ?_
 refine LM.as rfl (LM.as rfl ?_)
 refine LM.nil (QM.sub (e' := [(0, _), (6, _)]) au9 (QM.then (wpM.seq (wpM.region ?_))))
 refine LM.mv rfl ?_
 refine LM.cU (oc_call (enters_fn Try.func33 (by kernel_rfl) rfl) rfl) (fun w hm hc hg => settle_spec w h24 (hm.pick m24)) h24.wlk (inn_S (inn_trans hi2 hin24) inM_in) ?_
 rintro u28 m28 ⟨rfl, h28⟩ hin28
 refine LM.nil (QM.sub (e' := [(6, _)]) ⟨rfl, trivial⟩ (QM.then (wpM.seq (wpM.region ?_))))
 refine LM.mv rfl (LM.as rfl ?_)
 refine LM.nil (QM.sub (e' := [(2, _)]) ⟨rfl, trivial⟩ (QM.then ?_))
 refine wpM.ret ?_
 refine QM.leave (.inl rfl) [.tmp 2] Try.results15 rfl ?_
 intro w' hm' hc' hg'
 exact upd_m ⟨rfl, h28⟩ hm' au1 hc' (inn_trans (inn_trans hi2 hin24) hin28)
def awQ : Nat → Qm
  | 0 => addX (addX (newQ 1) 1 0#64 2) 2 0#64 1
  | k + 1 => goQ (awQ k)
def awN : Nat → Int
  | 0 => 0
  | k + 1 => if goO (awQ k) = 1 then awN k + 1 else awN k
theorem awQ_wf : ∀ k, QWf (awQ k)
  | 0 => addX_wf (addX_wf (new_wf 1) _ _ _) _ _ _
  | k + 1 => go_wf (awQ_wf k)
theorem awQ_ran : ∀ k, (awQ k).ran ≤ k
  | 0 => by have : (awQ 0).ran = 0 := by kernel_rfl
            omega
  | k + 1 => by have := go_ran (awQ_wf k); have := awQ_ran k; show (goQ (awQ k)).ran ≤ _; omega
theorem awN_pos {k : Nat} (h : goO (awQ k) = 1) : awN k + 1 = awN (k + 1) := by rw [show awN (k + 1) = if goO (awQ k) = 1 then awN k + 1 else awN k from rfl, if_pos h]
theorem awN_neg {k : Nat} (h : ¬ goO (awQ k) = 1) : awN k = awN (k + 1) := by rw [show awN (k + 1) = if goO (awQ k) = 1 then awN k + 1 else awN k from rfl, if_neg h]
theorem awN_bd : ∀ k, 0 ≤ awN k ∧ awN k ≤ k
  | 0 => ⟨Int.le_refl _, Int.le_refl _⟩
  | k + 1 => by have := awN_bd k; unfold awN; split <;> omega
theorem aw6 : awN 6 = 4 ∧ (gQ (awQ 6).l 1).V = 2199023255552#64 ∧ decide (ixO (awQ 6).l 1 < (awQ 6).l.length) = true ∧ (awQ 6).fl = 2199023255552#64 ∧ loadO (awQ 6).l = 3 ∧ (awQ 6).l.length = 2 := by
  refine ⟨?_, ?_, ?_, ?_, ?_, ?_⟩ <;> kernel_rfl
set_option maxRecDepth 100000 in
theorem awake16_spec (w : World) : Ret Try.prog 11 #[] w (fun v w' => v = .bool true ∧ Ext w w') := by
 refine Ret.enterM (l := []) Try.func11 rfl Try.ntmps11 rfl ([]) (no) (Mem.nil w) ?_
 refine wpM.seq (wpM.region ?_)
 refine LM.as rfl ?_
 refine LM.nil (QM.sub (e' := []) trivial (QM.then (wpM.seq (wpM.region ?_))))
 refine LM.callT (oc_call (enters_fn Try.func12 (by kernel_rfl) rfl) rfl) RqN.mono (fun w hm hc hg => rqnew_spec 1 w) ?_
 rintro u5 m5 ⟨b, rfl, h5⟩ hge5
 refine LM.as rfl ?_
 refine LM.nil (QM.sub (e' := [(1, _)]) ⟨rfl, trivial⟩ (QM.then (wpM.seq (wpM.region ?_))))
 refine LM.mv rfl ?_
 refine LM.cU (oc_call (enters_fn Try.func13 (by kernel_rfl) rfl) rfl) (fun w hm hc hg => rqAdd_spec 1 0#64 2 w h5 hc.size (hm.pick m5)) h5.wlk (fun p hp hlt => absurd hlt (Nat.not_lt_of_le (h5.ge p hp))) ?_
 rintro u7 m7 ⟨rfl, h7⟩ hin7
 refine LM.nil (QM.sub (e' := [(1, _)]) ⟨rfl, trivial⟩ (QM.then (wpM.seq (wpM.region ?_))))
 refine LM.mv rfl ?_
 refine LM.cU (oc_call (enters_fn Try.func13 (by kernel_rfl) rfl) rfl) (fun w hm hc hg => rqAdd_spec 2 0#64 1 w h7 hc.size (hm.pick m7)) h7.wlk (fun p hp hlt => absurd hlt (Nat.not_lt_of_le (h7.ge p hp))) ?_
 rintro u9 m9 ⟨rfl, h9⟩ hin9
 refine LM.nil (QM.sub (e' := [(1, _)]) ⟨rfl, trivial⟩ (QM.then (wpM.seq (wpM.region ?_))))
 refine LM.as rfl ?_
 refine LM.nil (QM.sub (e' := [(1, _), (2, _)]) au9 (QM.then ?_))
 refine wpM.seq ?_
 refine wpM.seq (wpM.region ?_)
 refine LM.mv rfl ?_
 refine LM.nil (QM.sub (e' := [(1, _), (2, _), (10, _)]) au9 (QM.then ?_))
 refine wpM.block ?_
 refine wpM.loopK0 (α := Nat × Mem0) (fun ⟨i, mi⟩ => [(2, .int .i64 (awN i)), (10, .int .i64 (i : Nat))]) [(1, _)] (fun ⟨i, mi⟩ => mi ++ []) (fun ⟨i, mi⟩ => i ≤ 6 ∧ RqM w.heap.size b (awQ i) mi) (fun ⟨i, mi⟩ => 6 - i) ((0, m9)) ⟨(by first | exact lk rfl (congrArg (Value.int .i64) (awN_pos (by assumption))) | exact lk rfl (congrArg (Value.int .i64) (awN_neg (by assumption))) | rfl), au2, rfl, trivial⟩ au1 ⟨by omega, h9⟩ ?_
 rintro ⟨i, mi⟩ ⟨hi, hq⟩
 change wpM _ _ _ _ _ _ _ (mi ++ []) _ _ _
 have hnb := awN_bd i; have hrn := awQ_ran i
 refine wpM.seq (wpM.region ?_)
 refine LM.val (ov_lss rfl rfl) ?_
 refine LM.nil (QM.sub (e' := [(1, _), (2, _), (10, _), (11, _)]) au9 (QM.then ?_))
 refine wpM.seq ?_
 refine wpM.condD rfl (fun h1 => ?_) (fun h1 => ?_)
 ·
  refine wpM.skip ?_
  refine QM.then ?_
  refine wpM.seq ?_
  refine wpM.block ?_
  refine wpM.seq (wpM.region ?_)
  refine LM.mv rfl ?_
  refine LM.cU (oc_call (enters_fn Try.func15 (by kernel_rfl) rfl) rfl) (fun w hm hc hg => goOn_spec w hq (by omega) hc.size (hm.pick mi)) hq.wlk (fun p hp hlt => absurd hlt (Nat.not_lt_of_le (hq.ge p hp))) ?_
  rintro u13 m13 ⟨rfl, h13⟩ hin13
  refine LM.val (ov_eql rfl rfl) ?_
  refine LM.nil (QM.sub (e' := [(1, _), (2, _), (10, _), (14, _)]) au9 (QM.then ?_))
  refine wpM.condD rfl (fun h2 => ?_) (fun h2 => ?_)
  ·
   refine wpM.region ?_
   refine LM.mv rfl ?_
   refine LM.val (ov_add64 rfl rfl (by omega)) ?_
   refine LM.as rfl ?_
   refine LM.nil (QM.sub (e' := [(1, _), (2, _), (10, _)]) au9 ?_)
   refine QM.block_normal ?_
   refine QM.then (wpM.region ?_)
   refine LM.val (ov_add64 rfl rfl (by omega)) ?_
   refine LM.mv rfl ?_
   refine LM.nil (QM.sub (e' := [(1, _), (2, _), (10, _)]) au9 ?_)
   refine QM.againK (i + 1, m13) ⟨(by first | exact lk rfl (congrArg (Value.int .i64) (awN_pos (by assumption))) | exact lk rfl (congrArg (Value.int .i64) (awN_neg (by assumption))) | rfl), au2, rfl, trivial⟩ au1 (fun _ h => h) ?_ ?_
   · exact ⟨by omega, h13⟩
   · first | omega | (dsimp only; omega)
  refine wpM.skip ?_
  refine QM.block_normal ?_
  refine QM.then (wpM.region ?_)
  refine LM.val (ov_add64 rfl rfl (by omega)) ?_
  refine LM.mv rfl ?_
  refine LM.nil (QM.sub (e' := [(1, _), (2, _), (10, _)]) au9 ?_)
  refine QM.againK (i + 1, m13) ⟨(by first | exact lk rfl (congrArg (Value.int .i64) (awN_pos (by assumption))) | exact lk rfl (congrArg (Value.int .i64) (awN_neg (by assumption))) | rfl), au2, rfl, trivial⟩ au1 (fun _ h => h) ?_ ?_
  · exact ⟨by omega, h13⟩
  · first | omega | (dsimp only; omega)
 have hi6 : i = 6 := (by omega); subst hi6; obtain ⟨e1, e2, e3, e4, e5, e6⟩ := aw6
 refine wpM.exit ?_
 refine QM.then_exit ?_
 refine QM.then_exit ?_
 refine QM.block_hit ?_
 refine QM.then (wpM.seq (wpM.region ?_))
 refine LM.mv rfl ?_
 refine LM.callE (oc_call (enters_fn Try.func14 (by kernel_rfl) rfl) rfl) (fun w hm hc hg => rqV_spec 1 w hq (hm.pick mi)) ?_
 refine LM.mv rfl ?_
 refine LM.val (ov_extract rfl rfl) ?_
 refine LM.val (ov_extract rfl rfl) ?_
 refine LM.as rfl (LM.as rfl ?_)
 refine LM.nil (QM.sub (e' := [(1, _), (2, _), (3, _), (4, _)]) au9 (QM.then (wpM.seq (wpM.region ?_))))
 refine LM.mv rfl ?_
 refine LM.val (ov_eql rfl rfl) ?_
 refine LM.mv rfl ?_
 refine LM.splitD (t := 25) rfl (fun h3 => ?_) (fun h3 => ?_)
 ·
  refine LM.sp 25 rfl rfl rfl (LM.mv rfl ?_)
  refine LM.val (ov_pickT rfl rfl) ?_
  refine LM.mv rfl ?_
  refine LM.splitD (t := 28) rfl (fun h4 => ?_) (fun h4 => ?_)
  ·
   refine LM.sp 28 rfl rfl rfl (LM.mv rfl (LM.sp 28 rfl rfl rfl ?_))
   refine LM.val (ov_ueql (b := 2199023255552#64) rfl rfl) ?_
   refine LM.val (ov_pickT rfl rfl) ?_
   refine LM.mv rfl ?_
   refine LM.splitD (t := 32) rfl (fun h5 => ?_) (fun h5 => ?_)
   ·
    refine LM.sp 32 rfl rfl rfl (LM.mv rfl (LM.sp 32 rfl rfl rfl ?_))
    refine LM.callE (oc_call (enters_fn Try.func19 (by kernel_rfl) rfl) rfl) (fun w hm hc hg => rqFlo_spec w hq (hm.pick mi)) ?_
    refine LM.sp 32 rfl rfl rfl ?_
    refine LM.val (ov_ueql (b := 2199023255552#64) rfl rfl) ?_
    refine LM.val (ov_pickT rfl rfl) ?_
    refine LM.mv rfl ?_
    refine LM.splitD (t := 37) rfl (fun h6 => ?_) (fun h6 => ?_)
    ·
     refine LM.sp 37 rfl rfl rfl (LM.mv rfl (LM.sp 37 rfl rfl rfl ?_))
     refine LM.callE (oc_call (enters_fn Try.func41 (by kernel_rfl) rfl) rfl) (fun w hm hc hg => rqLoad_spec w hq (hm.pick mi)) ?_
     refine LM.sp 37 rfl rfl rfl ?_
     refine LM.val (ov_eql rfl rfl) ?_
     refine LM.val (ov_pickT rfl rfl) ?_
     refine LM.mv rfl ?_
     refine LM.splitD (t := 42) rfl (fun h7 => ?_) (fun h7 => ?_)
     ·
      refine LM.sp 42 rfl rfl rfl (LM.mv rfl (LM.sp 42 rfl rfl rfl ?_))
      refine LM.callE (oc_call (enters_fn Try.func40 (by kernel_rfl) rfl) rfl) (fun w hm hc hg => rqLen_spec w hq (hm.pick mi)) ?_
      refine LM.sp 42 rfl rfl rfl ?_
      refine LM.val (ov_eql rfl rfl) ?_
      refine LM.val (ov_pickT rfl rfl) ?_
      refine LM.as rfl ?_
      refine LM.nil (QM.sub (e' := [(0, _)]) ⟨rfl, trivial⟩ (QM.then ?_))
      refine wpM.ret ?_
      refine QM.leave (.inl rfl) [.tmp 0] Try.results11 rfl ?_
      intro w' hm' hc' hg'
      exact ⟨rfl, hc'⟩
     refine LM.dr 42 rfl rfl rfl (LM.dr 42 rfl rfl rfl (LM.dr 42 rfl rfl rfl ?_))
     refine LM.val (ov_pickF rfl rfl) ?_
     refine LM.as rfl ?_
     refine LM.nil (QM.sub (e' := [(0, _)]) ⟨rfl, trivial⟩ (QM.then ?_))
     refine wpM.ret ?_
     refine QM.leave (.inl rfl) [.tmp 0] Try.results11 rfl ?_
     intro w' hm' hc' hg'
     first | exact ⟨rfl, hc'⟩ | (exfalso; first | omega | (simp at *; done) | (simp_all; done))
    refine LM.dr 37 rfl rfl rfl (LM.dr 37 rfl rfl rfl (LM.dr 37 rfl rfl rfl ?_))
    refine LM.val (ov_pickF rfl rfl) ?_
    refine LM.mv rfl (LM.dr 42 rfl rfl rfl (LM.dr 42 rfl rfl rfl (LM.dr 42 rfl rfl rfl ?_)))
    refine LM.val (ov_pickF rfl rfl) ?_
    refine LM.as rfl ?_
    refine LM.nil (QM.sub (e' := [(0, _)]) ⟨rfl, trivial⟩ (QM.then ?_))
    refine wpM.ret ?_
    refine QM.leave (.inl rfl) [.tmp 0] Try.results11 rfl ?_
    intro w' hm' hc' hg'
    first | exact ⟨rfl, hc'⟩ | (exfalso; first | omega | (simp at *; done) | (simp_all; done))
   refine LM.dr 32 rfl rfl rfl (LM.dr 32 rfl rfl rfl (LM.dr 32 rfl rfl rfl ?_))
   refine LM.val (ov_pickF rfl rfl) ?_
   refine LM.mv rfl (LM.dr 37 rfl rfl rfl (LM.dr 37 rfl rfl rfl (LM.dr 37 rfl rfl rfl ?_)))
   refine LM.val (ov_pickF rfl rfl) ?_
   refine LM.mv rfl (LM.dr 42 rfl rfl rfl (LM.dr 42 rfl rfl rfl (LM.dr 42 rfl rfl rfl ?_)))
   refine LM.val (ov_pickF rfl rfl) ?_
   refine LM.as rfl ?_
   refine LM.nil (QM.sub (e' := [(0, _)]) ⟨rfl, trivial⟩ (QM.then ?_))
   refine wpM.ret ?_
   refine QM.leave (.inl rfl) [.tmp 0] Try.results11 rfl ?_
   intro w' hm' hc' hg'
   first | exact ⟨rfl, hc'⟩ | (exfalso; first | omega | (simp at *; done) | (simp_all; done))
  refine LM.dr 28 rfl rfl rfl (LM.dr 28 rfl rfl rfl ?_)
  refine LM.val (ov_pickF rfl rfl) ?_
  refine LM.mv rfl (LM.dr 32 rfl rfl rfl (LM.dr 32 rfl rfl rfl (LM.dr 32 rfl rfl rfl ?_)))
  refine LM.val (ov_pickF rfl rfl) ?_
  refine LM.mv rfl (LM.dr 37 rfl rfl rfl (LM.dr 37 rfl rfl rfl (LM.dr 37 rfl rfl rfl ?_)))
  refine LM.val (ov_pickF rfl rfl) ?_
  refine LM.mv rfl (LM.dr 42 rfl rfl rfl (LM.dr 42 rfl rfl rfl (LM.dr 42 rfl rfl rfl ?_)))
  refine LM.val (ov_pickF rfl rfl) ?_
  refine LM.as rfl ?_
  refine LM.nil (QM.sub (e' := [(0, _)]) ⟨rfl, trivial⟩ (QM.then ?_))
  refine wpM.ret ?_
  refine QM.leave (.inl rfl) [.tmp 0] Try.results11 rfl ?_
  intro w' hm' hc' hg'
  first | exact ⟨rfl, hc'⟩ | (exfalso; first | omega | (simp at *; done) | (simp_all; done))
 refine LM.dr 25 rfl rfl rfl ?_
 refine LM.val (ov_pickF rfl rfl) ?_
 refine LM.mv rfl (LM.dr 28 rfl rfl rfl (LM.dr 28 rfl rfl rfl ?_))
 refine LM.val (ov_pickF rfl rfl) ?_
 refine LM.mv rfl (LM.dr 32 rfl rfl rfl (LM.dr 32 rfl rfl rfl (LM.dr 32 rfl rfl rfl ?_)))
 refine LM.val (ov_pickF rfl rfl) ?_
 refine LM.mv rfl (LM.dr 37 rfl rfl rfl (LM.dr 37 rfl rfl rfl (LM.dr 37 rfl rfl rfl ?_)))
 refine LM.val (ov_pickF rfl rfl) ?_
 refine LM.mv rfl (LM.dr 42 rfl rfl rfl (LM.dr 42 rfl rfl rfl (LM.dr 42 rfl rfl rfl ?_)))
 refine LM.val (ov_pickF rfl rfl) ?_
 refine LM.as rfl ?_
 refine LM.nil (QM.sub (e' := [(0, _)]) ⟨rfl, trivial⟩ (QM.then ?_))
 refine wpM.ret ?_
 refine QM.leave (.inl rfl) [.tmp 0] Try.results11 rfl ?_
 intro w' hm' hc' hg'
 first | exact ⟨rfl, hc'⟩ | (exfalso; first | omega | (simp at *; done) | (simp_all; done))
end Go.Eng
namespace Go.Eng
open Go Go.Proofs Go.RowKit
set_option maxRecDepth 100000 in
theorem nAdd_spec (a : Int) (v : BitVec 64) (w : World) : Ret Try.prog 13 #[.pointer none, .int .i64 a, U v, .int .i64 1] w (fun v w' => v = .tuple #[U 0#64, .int .i64 1] ∧ Ext w w') := by
 refine Ret.enterM (l := [.pointer none, .int .i64 a, U v, .int .i64 1]) Try.func13 rfl Try.ntmps13 rfl ([]) (no) (Mem.nil w) ?_
 refine wpM.seq (wpM.region ?_)
 refine LM.as rfl (LM.as rfl ?_)
 refine LM.nil (QM.sub (e' := [(0, _), (1, _), (2, _), (3, _)]) au9 (QM.then ?_))
 refine wpM.seq ?_
 refine wpM.seq (wpM.region ?_)
 refine LM.mv rfl ?_
 refine LM.val (ov_peql (by kernel_rfl) rfl rfl) ?_
 refine LM.mv rfl ?_
 first | refine LM.splitD (t := 14) rfl (fun h1 => ?_) (fun h1 => ?_) | refine LM.splitB (t := 14) rfl (fun h1 => ?_) (fun h1 => ?_)
 ·
  refine LM.dr 14 rfl rfl rfl (LM.dr 14 rfl rfl rfl ?_)
  refine LM.val (ov_pickT rfl rfl) ?_
  refine LM.nil (QM.sub (e' := [(0, _), (1, _), (2, _), (3, _), (17, _)]) au9 (QM.then ?_))
  refine wpM.condT rfl ?_
  refine wpM.seq (wpM.region ?_)
  refine LM.as rfl (LM.as rfl ?_)
  refine LM.nil (QM.sub (e' := [(8, _), (9, _)]) au9 (QM.then ?_))
  refine wpM.ret ?_
  refine QM.then_ret ?_
  refine QM.leave (.inl rfl) [.tmp 8, .tmp 9] Try.results13 rfl ?_
  intro w' hm' hc' hg'
  exact ⟨rfl, hc'⟩
 cases h1
set_option maxRecDepth 100000 in
theorem nV_spec (a : Int) (w : World) : Ret Try.prog 14 #[.pointer none, .int .i64 a] w (fun v w' => v = .tuple #[U 0#64, .bool false] ∧ Ext w w') := by
 refine Ret.enterM (l := [.pointer none, .int .i64 a]) Try.func14 rfl Try.ntmps14 rfl ([]) (no) (Mem.nil w) ?_
 refine wpM.seq (wpM.region ?_)
 refine LM.as rfl (LM.as rfl ?_)
 refine LM.nil (QM.sub (e' := [(0, _), (1, _)]) au9 (QM.then ?_))
 refine wpM.seq ?_
 refine wpM.seq (wpM.region ?_)
 refine LM.mv rfl ?_
 refine LM.val (ov_peql (by kernel_rfl) rfl rfl) ?_
 refine LM.nil (QM.sub (e' := [(0, _), (1, _), (9, _)]) au9 (QM.then ?_))
 first | refine wpM.condD rfl (fun h1 => ?_) (fun h1 => ?_) | refine wpM.condB rfl (fun h1 => ?_) (fun h1 => ?_)
 ·
  refine wpM.seq (wpM.region ?_)
  refine LM.as rfl (LM.as rfl ?_)
  refine LM.nil (QM.sub (e' := [(4, _), (5, _)]) au9 (QM.then ?_))
  refine wpM.ret ?_
  refine QM.then_ret ?_
  refine QM.leave (.inl rfl) [.tmp 4, .tmp 5] Try.results14 rfl ?_
  intro w' hm' hc' hg'
  exact ⟨rfl, hc'⟩
 cases h1
set_option maxRecDepth 100000 in
theorem nRem_spec (a : Int) (w : World) : Ret Try.prog 17 #[.pointer none, .int .i64 a] w (fun v w' => v = .tuple #[U 0#64, .bool false] ∧ Ext w w') := by
 refine Ret.enterM (l := [.pointer none, .int .i64 a]) Try.func17 rfl Try.ntmps17 rfl ([]) (no) (Mem.nil w) ?_
 refine wpM.seq (wpM.region ?_)
 refine LM.as rfl (LM.as rfl ?_)
 refine LM.nil (QM.sub (e' := [(0, _), (1, _)]) au9 (QM.then (wpM.seq (wpM.region ?_))))
 refine LM.mv rfl (LM.mv rfl ?_)
 refine LM.callE (oc_call (enters_fn Try.func14 (by kernel_rfl) rfl) rfl) (fun w hm hc hg => nV_spec _ w) ?_
 refine LM.mv rfl ?_
 refine LM.val (ov_extract rfl rfl) ?_
 refine LM.val (ov_extract rfl rfl) ?_
 refine LM.as rfl (LM.as rfl ?_)
 refine LM.nil (QM.sub (e' := [(0, _), (1, _), (6, _), (7, _)]) au9 (QM.then ?_))
 refine wpM.seq ?_
 refine wpM.seq (wpM.region ?_)
 refine LM.mv rfl ?_
 first | refine LM.val (ov_notD rfl) ?_ | refine LM.val (ov_not rfl) ?_
 refine LM.nil (QM.sub (e' := [(0, _), (1, _), (6, _), (15, _)]) au9 (QM.then ?_))
 first | refine wpM.condD rfl (fun h1 => ?_) (fun h1 => ?_) | refine wpM.condB rfl (fun h1 => ?_) (fun h1 => ?_)
 ·
  refine wpM.seq (wpM.region ?_)
  refine LM.as rfl (LM.as rfl ?_)
  refine LM.nil (QM.sub (e' := [(4, _), (5, _)]) au9 (QM.then ?_))
  refine wpM.ret ?_
  refine QM.then_ret ?_
  refine QM.leave (.inl rfl) [.tmp 4, .tmp 5] Try.results17 rfl ?_
  intro w' hm' hc' hg'
  exact ⟨rfl, hc'⟩
 cases h1
set_option maxRecDepth 100000 in
theorem nPick_spec (w : World) : Ret Try.prog 26 #[.pointer none] w (fun v w' => v = .tuple #[.int .i64 (-1), .bool false] ∧ Ext w w') := by
 refine Ret.enterM (l := [.pointer none]) Try.func26 rfl Try.ntmps26 rfl ([]) (no) (Mem.nil w) ?_
 refine wpM.seq (wpM.region ?_)
 refine LM.as rfl (LM.as rfl ?_)
 refine LM.nil (QM.sub (e' := [(0, _)]) ⟨rfl, trivial⟩ (QM.then ?_))
 refine wpM.seq ?_
 refine wpM.seq (wpM.region ?_)
 refine LM.mv rfl ?_
 refine LM.val (ov_peql (by kernel_rfl) rfl rfl) ?_
 refine LM.mv rfl ?_
 first | refine LM.splitD (t := 9) rfl (fun h1 => ?_) (fun h1 => ?_) | refine LM.splitB (t := 9) rfl (fun h1 => ?_) (fun h1 => ?_)
 ·
  refine LM.dr 9 rfl rfl rfl (LM.dr 9 rfl rfl rfl (LM.dr 9 rfl rfl rfl (LM.dr 9 rfl rfl rfl (LM.dr 9 rfl rfl rfl ?_))))
  refine LM.val (ov_pickT rfl rfl) ?_
  refine LM.nil (QM.sub (e' := [(0, _), (15, _)]) au9 (QM.then ?_))
  refine wpM.condT rfl ?_
  refine wpM.seq (wpM.region ?_)
  refine LM.as rfl (LM.as rfl ?_)
  refine LM.nil (QM.sub (e' := [(2, _), (3, _)]) au9 (QM.then ?_))
  refine wpM.ret ?_
  refine QM.then_ret ?_
  refine QM.leave (.inl rfl) [.tmp 2, .tmp 3] Try.results26 rfl ?_
  intro w' hm' hc' hg'
  exact ⟨rfl, hc'⟩
 cases h1
set_option maxRecDepth 100000 in
theorem nBack_spec (w : World) : Ret Try.prog 28 #[.pointer none] w (fun v w' => v = .tuple #[.int .i64 (-1), .bool false] ∧ Ext w w') := by
 refine Ret.enterM (l := [.pointer none]) Try.func28 rfl Try.ntmps28 rfl ([]) (no) (Mem.nil w) ?_
 refine wpM.seq (wpM.region ?_)
 refine LM.as rfl (LM.as rfl ?_)
 refine LM.nil (QM.sub (e' := [(0, _)]) ⟨rfl, trivial⟩ (QM.then ?_))
 refine wpM.seq ?_
 refine wpM.seq (wpM.region ?_)
 refine LM.mv rfl ?_
 refine LM.val (ov_peql (by kernel_rfl) rfl rfl) ?_
 refine LM.mv rfl ?_
 first | refine LM.splitD (t := 7) rfl (fun h1 => ?_) (fun h1 => ?_) | refine LM.splitB (t := 7) rfl (fun h1 => ?_) (fun h1 => ?_)
 ·
  refine LM.dr 7 rfl rfl rfl (LM.dr 7 rfl rfl rfl (LM.dr 7 rfl rfl rfl (LM.dr 7 rfl rfl rfl (LM.dr 7 rfl rfl rfl ?_))))
  refine LM.val (ov_pickT rfl rfl) ?_
  refine LM.nil (QM.sub (e' := [(0, _), (13, _)]) au9 (QM.then ?_))
  refine wpM.condT rfl ?_
  refine wpM.seq (wpM.region ?_)
  refine LM.as rfl (LM.as rfl ?_)
  refine LM.nil (QM.sub (e' := [(2, _), (3, _)]) au9 (QM.then ?_))
  refine wpM.ret ?_
  refine QM.then_ret ?_
  refine QM.leave (.inl rfl) [.tmp 2, .tmp 3] Try.results28 rfl ?_
  intro w' hm' hc' hg'
  exact ⟨rfl, hc'⟩
 cases h1
set_option maxRecDepth 100000 in
theorem nTick_spec (w : World) : Ret Try.prog 30 #[.pointer none] w (fun v w' => v = .tuple #[.int .i64 (-1), .bool false] ∧ Ext w w') := by
 refine Ret.enterM (l := [.pointer none]) Try.func30 rfl Try.ntmps30 rfl ([]) (no) (Mem.nil w) ?_
 refine wpM.seq (wpM.region ?_)
 refine LM.as rfl (LM.as rfl ?_)
 refine LM.nil (QM.sub (e' := [(0, _)]) ⟨rfl, trivial⟩ (QM.then ?_))
 refine wpM.seq ?_
 refine wpM.seq (wpM.region ?_)
 refine LM.mv rfl ?_
 refine LM.val (ov_peql (by kernel_rfl) rfl rfl) ?_
 refine LM.mv rfl ?_
 first | refine LM.splitD (t := 7) rfl (fun h1 => ?_) (fun h1 => ?_) | refine LM.splitB (t := 7) rfl (fun h1 => ?_) (fun h1 => ?_)
 ·
  refine LM.dr 7 rfl rfl rfl (LM.dr 7 rfl rfl rfl (LM.dr 7 rfl rfl rfl (LM.dr 7 rfl rfl rfl (LM.dr 7 rfl rfl rfl ?_))))
  refine LM.val (ov_pickT rfl rfl) ?_
  refine LM.nil (QM.sub (e' := [(0, _), (13, _)]) au9 (QM.then ?_))
  refine wpM.condT rfl ?_
  refine wpM.seq (wpM.region ?_)
  refine LM.as rfl (LM.as rfl ?_)
  refine LM.nil (QM.sub (e' := [(2, _), (3, _)]) au9 (QM.then ?_))
  refine wpM.ret ?_
  refine QM.then_ret ?_
  refine QM.leave (.inl rfl) [.tmp 2, .tmp 3] Try.results30 rfl ?_
  intro w' hm' hc' hg'
  exact ⟨rfl, hc'⟩
 cases h1
set_option maxRecDepth 100000 in
theorem nCur_spec (w : World) : Ret Try.prog 37 #[.pointer none] w (fun v w' => v = .tuple #[.int .i64 (-1), .int .i64 0, .bool false] ∧ Ext w w') := by
 refine Ret.enterM (l := [.pointer none]) Try.func37 rfl Try.ntmps37 rfl ([]) (no) (Mem.nil w) ?_
 refine wpM.seq (wpM.region ?_)
 refine LM.as rfl (LM.as rfl (LM.as rfl ?_))
 refine LM.nil (QM.sub (e' := [(0, _)]) ⟨rfl, trivial⟩ (QM.then ?_))
 refine wpM.seq ?_
 refine wpM.seq (wpM.region ?_)
 refine LM.mv rfl ?_
 refine LM.val (ov_peql (by kernel_rfl) rfl rfl) ?_
 refine LM.nil (QM.sub (e' := [(0, _), (6, _)]) au9 (QM.then ?_))
 first | refine wpM.condD rfl (fun h1 => ?_) (fun h1 => ?_) | refine wpM.condB rfl (fun h1 => ?_) (fun h1 => ?_)
 ·
  refine wpM.seq (wpM.region ?_)
  refine LM.as rfl (LM.as rfl (LM.as rfl ?_))
  refine LM.nil (QM.sub (e' := [(2, _), (3, _), (4, _)]) au9 (QM.then ?_))
  refine wpM.ret ?_
  refine QM.then_ret ?_
  refine QM.leave (.inl rfl) [.tmp 2, .tmp 3, .tmp 4] Try.results37 rfl ?_
  intro w' hm' hc' hg'
  exact ⟨rfl, hc'⟩
 cases h1
set_option maxRecDepth 100000 in
theorem nSettle_spec (w : World) : Ret Try.prog 33 #[.pointer none] w (fun v w' => v = .tuple #[] ∧ Ext w w') := by
 refine Ret.enterM (l := [.pointer none]) Try.func33 rfl Try.ntmps33 rfl ([]) (no) (Mem.nil w) ?_
 refine wpM.seq ?_
 refine wpM.seq (wpM.region ?_)
 refine LM.mv rfl ?_
 refine LM.val (ov_peql (by kernel_rfl) rfl rfl) ?_
 refine LM.nil (QM.sub (e' := [(0, _), (5, _)]) au9 (QM.then ?_))
 first | refine wpM.condD rfl (fun h1 => ?_) (fun h1 => ?_) | refine wpM.condB rfl (fun h1 => ?_) (fun h1 => ?_)
 ·
  refine wpM.ret ?_
  refine QM.then_ret ?_
  refine QM.leave (.inl rfl) [] Try.results33 rfl ?_
  intro w' hm' hc' hg'
  exact ⟨rfl, hc'⟩
 cases h1
set_option maxRecDepth 100000 in
theorem nDue_spec (w : World) : Ret Try.prog 39 #[.pointer none] w (fun v w' => v = .bool false ∧ Ext w w') := by
 refine Ret.enterM (l := [.pointer none]) Try.func39 rfl Try.ntmps39 rfl ([]) (no) (Mem.nil w) ?_
 refine wpM.seq (wpM.region ?_)
 refine LM.as rfl ?_
 refine LM.nil (QM.sub (e' := [(0, _)]) ⟨rfl, trivial⟩ (QM.then ?_))
 refine wpM.seq ?_
 refine wpM.seq ?_
 refine wpM.draw [(0, 0), (1, 0), (2, 0), (3, 0), (4, 0), (5, 0), (6, 1), (7, 0), (8, 0), (9, 0), (10, 0), (11, 0), (12, 0), (13, 1), (14, 0), (15, 0), (16, 0), (17, 1), (18, 0), (19, 0)] (by kernel_rfl) (by kernel_rfl) ?_
 refine LD.val rfl rfl (ov_move rfl) ?_
 refine LD.val rfl rfl (ov_peql (by kernel_rfl) rfl rfl) ?_
 refine LD.val rfl rfl (ov_move rfl) ?_
 first | refine LD.splitD (t := 8) rfl (fun h1 => ?_) (fun h1 => ?_) | refine LD.splitB (t := 8) rfl (fun h1 => ?_) (fun h1 => ?_)
 ·
  refine LD.drop rfl rfl ⟨8, _, rfl, rfl, rfl⟩ ?_
  refine LD.drop rfl rfl ⟨8, _, rfl, rfl, rfl⟩ ?_
  refine LD.drop rfl rfl ⟨8, _, rfl, rfl, rfl⟩ ?_
  refine LD.drop rfl rfl ⟨8, _, rfl, rfl, rfl⟩ ?_
  refine LD.drop rfl rfl ⟨8, _, rfl, rfl, rfl⟩ ?_
  refine LD.val rfl rfl (ov_pickT rfl rfl) ?_
  refine LD.val rfl rfl (ov_move rfl) ?_
  refine LD.drop rfl rfl ⟨15, _, rfl, rfl, rfl⟩ ?_
  refine LD.drop rfl rfl ⟨15, _, rfl, rfl, rfl⟩ ?_
  refine LD.drop rfl rfl ⟨15, _, rfl, rfl, rfl⟩ ?_
  refine LD.drop rfl rfl ⟨15, _, rfl, rfl, rfl⟩ ?_
  refine LD.drop rfl rfl ⟨15, _, rfl, rfl, rfl⟩ ?_
  refine LD.drop rfl rfl ⟨15, _, rfl, rfl, rfl⟩ ?_
  refine LD.drop rfl rfl ⟨15, _, rfl, rfl, rfl⟩ ?_
  refine LD.drop rfl rfl ⟨15, _, rfl, rfl, rfl⟩ ?_
  refine LD.drop rfl rfl ⟨15, _, rfl, rfl, rfl⟩ ?_
  refine LD.val rfl rfl (ov_pickT rfl rfl) ?_
  refine LD.nil ?_
  refine QM.sub (e' := [(0, _), (25, _)]) au9 (QM.then ?_)
  refine wpM.condT rfl ?_
  refine wpM.seq (wpM.region ?_)
  refine LM.as rfl ?_
  refine LM.nil (QM.sub (e' := [(2, _)]) ⟨rfl, trivial⟩ (QM.then ?_))
  refine wpM.ret ?_
  refine QM.then_ret ?_
  refine QM.leave (.inl rfl) [.tmp 2] Try.results39 rfl ?_
  intro w' hm' hc' hg'
  exact ⟨rfl, hc'⟩
 cases h1
set_option maxRecDepth 100000 in
theorem nWgh_spec (a : Int) (w : World) : Ret Try.prog 18 #[.pointer none, .int .i64 a, .int .i64 1] w (fun v w' => v = .bool false ∧ Ext w w') := by
 refine Ret.enterM (l := [.pointer none, .int .i64 a, .int .i64 1]) Try.func18 rfl Try.ntmps18 rfl ([]) (no) (Mem.nil w) ?_
 refine wpM.seq (wpM.region ?_)
 refine LM.as rfl ?_
 refine LM.nil (QM.sub (e' := [(0, _), (1, _), (2, _)]) au9 (QM.then ?_))
 refine wpM.seq ?_
 refine wpM.seq (wpM.region ?_)
 refine LM.mv rfl (LM.mv rfl ?_)
 refine LM.callE (oc_call (enters_fn Try.func14 (by kernel_rfl) rfl) rfl) (fun w hm hc hg => nV_spec _ w) ?_
 refine LM.mv rfl ?_
 refine LM.val (ov_extract rfl rfl) ?_
 refine LM.val (ov_extract rfl rfl) ?_
 refine LM.as rfl (LM.as rfl ?_)
 refine LM.nil (QM.sub (e' := [(0, _), (1, _), (2, _), (8, _)]) au9 (QM.then (wpM.seq (wpM.region ?_))))
 refine LM.mv rfl ?_
 first | refine LM.val (ov_notD rfl) ?_ | refine LM.val (ov_not rfl) ?_
 refine LM.nil (QM.sub (e' := [(0, _), (1, _), (2, _), (18, _)]) au9 (QM.then ?_))
 first | refine wpM.condD rfl (fun h1 => ?_) (fun h1 => ?_) | refine wpM.condB rfl (fun h1 => ?_) (fun h1 => ?_)
 ·
  refine wpM.seq (wpM.region ?_)
  refine LM.as rfl ?_
  refine LM.nil (QM.sub (e' := [(6, _)]) ⟨rfl, trivial⟩ (QM.then ?_))
  refine wpM.ret ?_
  refine QM.then_ret ?_
  refine QM.leave (.inl rfl) [.tmp 6] Try.results18 rfl ?_
  intro w' hm' hc' hg'
  exact ⟨rfl, hc'⟩
 cases h1
set_option maxRecDepth 100000 in
theorem nFlo_spec (w : World) : Ret Try.prog 19 #[.pointer none] w (fun v w' => v = U 0#64 ∧ Ext w w') := by
 refine Ret.enterM (l := [.pointer none]) Try.func19 rfl Try.ntmps19 rfl ([]) (no) (Mem.nil w) ?_
 refine wpM.seq (wpM.region ?_)
 refine LM.as rfl ?_
 refine LM.nil (QM.sub (e' := [(0, _)]) ⟨rfl, trivial⟩ (QM.then ?_))
 refine wpM.seq ?_
 refine wpM.seq (wpM.region ?_)
 refine LM.mv rfl ?_
 refine LM.val (ov_peql (by kernel_rfl) rfl rfl) ?_
 refine LM.nil (QM.sub (e' := [(0, _), (4, _)]) au9 (QM.then ?_))
 first | refine wpM.condD rfl (fun h1 => ?_) (fun h1 => ?_) | refine wpM.condB rfl (fun h1 => ?_) (fun h1 => ?_)
 ·
  refine wpM.seq (wpM.region ?_)
  refine LM.as rfl ?_
  refine LM.nil (QM.sub (e' := [(2, _)]) ⟨rfl, trivial⟩ (QM.then ?_))
  refine wpM.ret ?_
  refine QM.then_ret ?_
  refine QM.leave (.inl rfl) [.tmp 2] Try.results19 rfl ?_
  intro w' hm' hc' hg'
  exact ⟨rfl, hc'⟩
 cases h1
set_option maxRecDepth 100000 in
theorem nLen_spec (w : World) : Ret Try.prog 40 #[.pointer none] w (fun v w' => v = .int .i64 0 ∧ Ext w w') := by
 refine Ret.enterM (l := [.pointer none]) Try.func40 rfl Try.ntmps40 rfl ([]) (no) (Mem.nil w) ?_
 refine wpM.seq (wpM.region ?_)
 refine LM.as rfl ?_
 refine LM.nil (QM.sub (e' := [(0, _)]) ⟨rfl, trivial⟩ (QM.then ?_))
 refine wpM.seq ?_
 refine wpM.seq (wpM.region ?_)
 refine LM.mv rfl ?_
 refine LM.val (ov_peql (by kernel_rfl) rfl rfl) ?_
 refine LM.nil (QM.sub (e' := [(0, _), (4, _)]) au9 (QM.then ?_))
 first | refine wpM.condD rfl (fun h1 => ?_) (fun h1 => ?_) | refine wpM.condB rfl (fun h1 => ?_) (fun h1 => ?_)
 ·
  refine wpM.seq (wpM.region ?_)
  refine LM.as rfl ?_
  refine LM.nil (QM.sub (e' := [(2, _)]) ⟨rfl, trivial⟩ (QM.then ?_))
  refine wpM.ret ?_
  refine QM.then_ret ?_
  refine QM.leave (.inl rfl) [.tmp 2] Try.results40 rfl ?_
  intro w' hm' hc' hg'
  exact ⟨rfl, hc'⟩
 cases h1
set_option maxRecDepth 100000 in
theorem nLoad_spec (w : World) : Ret Try.prog 41 #[.pointer none] w (fun v w' => v = .int .i64 0 ∧ Ext w w') := by
 refine Ret.enterM (l := [.pointer none]) Try.func41 rfl Try.ntmps41 rfl ([]) (no) (Mem.nil w) ?_
 refine wpM.seq (wpM.region ?_)
 refine LM.as rfl ?_
 refine LM.nil (QM.sub (e' := [(0, _)]) ⟨rfl, trivial⟩ (QM.then ?_))
 refine wpM.seq ?_
 refine wpM.seq (wpM.region ?_)
 refine LM.mv rfl ?_
 refine LM.val (ov_peql (by kernel_rfl) rfl rfl) ?_
 refine LM.nil (QM.sub (e' := [(0, _), (4, _)]) au9 (QM.then ?_))
 first | refine wpM.condD rfl (fun h1 => ?_) (fun h1 => ?_) | refine wpM.condB rfl (fun h1 => ?_) (fun h1 => ?_)
 ·
  refine wpM.seq (wpM.region ?_)
  refine LM.as rfl ?_
  refine LM.nil (QM.sub (e' := [(2, _)]) ⟨rfl, trivial⟩ (QM.then ?_))
  refine wpM.ret ?_
  refine QM.then_ret ?_
  refine QM.leave (.inl rfl) [.tmp 2] Try.results41 rfl ?_
  intro w' hm' hc' hg'
  exact ⟨rfl, hc'⟩
 cases h1
abbrev qN (c : Nat) : Nat × Obj := (c, .cells #[.pointer none] 24 (0, 0))
def RqA0 (n0 : Nat) (v : Value) (m : Mem0) : Prop := ∃ c1, v = .func (.func 81) #[] #[.pointer (some ⟨c1, 0, none⟩)] ∧ m = [qN c1] ∧ n0 ≤ c1
theorem RqA0.mono : ∀ (k k' : Nat) u m, k' ≤ k → RqA0 k u m → RqA0 k' u m := fun k k' u m h ⟨b1, h1, h2, h3⟩ => ⟨b1, h1, h2, by omega⟩
set_option maxRecDepth 100000 in
theorem nReady_spec (w : World) : Ret Try.prog 38 #[.pointer none] w (fun v w' => Ext w w' ∧ ∃ m, RqA0 w.heap.size v m ∧ Mem w' m ∧ ∀ p ∈ m, w.heap.size ≤ p.1) := by
 refine Ret.enterM (l := [.pointer none]) Try.func38 rfl Try.ntmps38 rfl ([]) (no) (Mem.nil w) ?_
 refine wpM.seq (wpM.region ?_)
 refine LM.box rfl rfl (fun b1 hb1 => ?_)
 refine LM.as rfl ?_
 refine LM.nil (QM.sub (e' := [(1, _)]) ⟨rfl, trivial⟩ (QM.then (wpM.seq (wpM.region ?_))))
 refine LM.val (ov_makeFunc rfl) ?_
 refine LM.as rfl ?_
 refine LM.nil (QM.sub (e' := [(2, _)]) ⟨rfl, trivial⟩ (QM.then ?_))
 refine wpM.ret ?_
 refine QM.leave (.inl rfl) [.tmp 2] Try.results38 rfl ?_
 intro w' hm' hc' hg'
 exact ⟨hc', _, ⟨b1, rfl, rfl, hb1⟩, SubM.mem au1 _ hm', fun p hp => by simp only [List.mem_cons, List.not_mem_nil, or_false] at hp; subst hp; assumption⟩
set_option maxRecDepth 100000 in
theorem nReady_seq {c1 : Nat} : SeqCP Try.prog 81 #[.pointer (some ⟨c1, 0, none⟩)] (([] : List (Array Value))) (fun w => Mem w [qN c1]) (True) := by
 refine SeqCP.enter (lb := [.pointer (some ⟨c1, 0, none⟩)]) Try.func81 rfl Try.ntmps81 rfl ?_
 intro l0 n0 J Jx w0 hn0 hfin hJr hL hy
 refine wpM.openJ (n := n0) (fun wj1 hmj1 hCj1 hjj1 hkj1 => ?_)
 refine wpM.seq (wpM.region ?_)
 refine LM.box rfl rfl (fun b2 hb2 => ?_)
 refine LM.nil (QM.sub (e' := [(1, _), (2, _)]) au9 (QM.then ?_))
 refine wpM.seq ?_
 refine wpM.seq (wpM.region ?_)
 refine LM.rdC (fun w hm hc hg => om_ld (M := [qN c1]) Try.isAgg24 rfl rfl w ((hL.rd hJr hjj1 hc))) ?_
 refine LM.val (ov_peql (by kernel_rfl) rfl rfl) ?_
 refine LM.nil (QM.sub (e' := [(1, _), (2, _), (5, _)]) au9 (QM.then ?_))
 first | refine wpM.condD rfl (fun h1 => ?_) (fun h1 => ?_) | refine wpM.condB rfl (fun h1 => ?_) (fun h1 => ?_)
 ·
  refine wpM.ret ?_
  refine QM.then_ret ?_
  refine QM.closeJ hL hCj1 hjj1 hkj1 (kk_top _) ([]) (SubM.mem (by (try dsimp only); (repeat' (first | exact SubM.nil _ | refine SubM.cons rfl ?_ | refine SubM.app ?_)))) (by (try dsimp only); (repeat' (first | exact pn_nil | refine pn_cons (by first | (left; omega) | (right; simp; done)) rfl ?_))) ?_
  refine QM.leaveDJ (ds := ([])) (.inl rfl) [] Try.results81 rfl hn0 hd_nil (gl_j hL (Nat.le_refl _) (gl_top _)) ?_
  intro w' hm' hg'
  exact .inl hg'.1
 cases h1
set_option maxRecDepth 100000 in
theorem runqNobody (a : Int) (v : BitVec 64) (w : World) : Ret Try.prog 7 #[.int .i64 a, U v] w (fun v w' => v = .bool true ∧ Ext w w') := by
 refine Ret.enterM (l := [.int .i64 a, U v]) Try.func7 rfl Try.ntmps7 rfl ([]) (no) (Mem.nil w) ?_
 refine wpM.seq (wpM.region ?_)
 refine LM.alloc Try.zeroValue4 rfl (fun b4 hb4 => ?_)
 refine LM.nil (QM.sub (e' := [(0, _), (1, _), (4, _)]) au9 (QM.then ?_))
 refine wpM.seq ?_
 refine wpM.seq (wpM.region ?_)
 refine LM.callE (oc_call (enters_fn Try.func11 (by kernel_rfl) rfl) rfl) (fun w hm hc hg => awake16_spec w) ?_
 first | refine LM.val (ov_notD rfl) ?_ | refine LM.val (ov_not rfl) ?_
 refine LM.nil (QM.sub (e' := [(0, _), (1, _), (4, _), (22, _)]) au9 (QM.then ?_))
 first | refine wpM.condD rfl (fun h1 => ?_) (fun h1 => ?_) | refine wpM.condB rfl (fun h1 => ?_) (fun h1 => ?_)
 ·
  cases h1
 refine wpM.skip ?_
 refine QM.then (wpM.seq (wpM.region ?_))
 refine LM.as rfl ?_
 refine LM.nil (QM.sub (e' := [(0, _), (1, _), (4, _), (5, _)]) au9 (QM.then (wpM.seq (wpM.region ?_))))
 refine LM.mv rfl (LM.mv rfl (LM.mv rfl ?_))
 refine LM.callE (oc_call (enters_fn Try.func13 (by kernel_rfl) rfl) rfl) (fun w hm hc hg => nAdd_spec _ _ w) ?_
 refine LM.mv rfl ?_
 refine LM.val (ov_extract rfl rfl) ?_
 refine LM.val (ov_extract rfl rfl) ?_
 refine LM.as rfl (LM.as rfl ?_)
 refine LM.nil (QM.sub (e' := [(0, _), (4, _), (5, _), (7, _)]) au9 (QM.then (wpM.seq (wpM.region ?_))))
 refine LM.mv rfl (LM.mv rfl ?_)
 refine LM.callE (oc_call (enters_fn Try.func17 (by kernel_rfl) rfl) rfl) (fun w hm hc hg => nRem_spec _ w) ?_
 refine LM.mv rfl ?_
 refine LM.val (ov_extract rfl rfl) ?_
 refine LM.val (ov_extract rfl rfl) ?_
 refine LM.as rfl (LM.as rfl ?_)
 refine LM.nil (QM.sub (e' := [(0, _), (4, _), (5, _), (7, _), (9, _)]) au9 (QM.then (wpM.seq (wpM.region ?_))))
 refine LM.mv rfl ?_
 refine LM.callE (oc_call (enters_fn Try.func26 (by kernel_rfl) rfl) rfl) (fun w hm hc hg => nPick_spec w) ?_
 refine LM.mv rfl ?_
 refine LM.val (ov_extract rfl rfl) ?_
 refine LM.val (ov_extract rfl rfl) ?_
 refine LM.as rfl (LM.as rfl ?_)
 refine LM.nil (QM.sub (e' := [(0, _), (4, _), (5, _), (7, _), (9, _), (10, _), (11, _)]) au9 (QM.then (wpM.seq (wpM.region ?_))))
 refine LM.mv rfl ?_
 refine LM.callE (oc_call (enters_fn Try.func28 (by kernel_rfl) rfl) rfl) (fun w hm hc hg => nBack_spec w) ?_
 refine LM.mv rfl ?_
 refine LM.val (ov_extract rfl rfl) ?_
 refine LM.val (ov_extract rfl rfl) ?_
 refine LM.as rfl (LM.as rfl ?_)
 refine LM.nil (QM.sub (e' := [(0, _), (4, _), (5, _), (7, _), (9, _), (10, _), (11, _), (12, _), (13, _)]) au9 (QM.then (wpM.seq (wpM.region ?_))))
 refine LM.mv rfl ?_
 refine LM.callE (oc_call (enters_fn Try.func30 (by kernel_rfl) rfl) rfl) (fun w hm hc hg => nTick_spec w) ?_
 refine LM.mv rfl ?_
 refine LM.val (ov_extract rfl rfl) ?_
 refine LM.val (ov_extract rfl rfl) ?_
 refine LM.as rfl (LM.as rfl ?_)
 refine LM.nil (QM.sub (e' := [(0, _), (4, _), (5, _), (7, _), (9, _), (10, _), (11, _), (12, _), (13, _), (14, _), (15, _)]) au9 (QM.then (wpM.seq (wpM.region ?_))))
 refine LM.mv rfl ?_
 refine LM.callE (oc_call (enters_fn Try.func37 (by kernel_rfl) rfl) rfl) (fun w hm hc hg => nCur_spec w) ?_
 refine LM.mv rfl ?_
 refine LM.val (ov_extract rfl rfl) ?_
 refine LM.val (ov_extract rfl rfl) ?_
 refine LM.val (ov_extract rfl rfl) ?_
 refine LM.as rfl (LM.as rfl (LM.as rfl ?_))
 refine LM.nil (QM.sub (e' := [(0, _), (4, _), (5, _), (7, _), (9, _), (10, _), (11, _), (12, _), (13, _), (14, _), (15, _), (16, _), (17, _), (18, _)]) au9 (QM.then (wpM.seq (wpM.region ?_))))
 refine LM.mv rfl (LM.mv rfl ?_)
 refine LM.callE (oc_call (enters_fn Try.func14 (by kernel_rfl) rfl) rfl) (fun w hm hc hg => nV_spec _ w) ?_
 refine LM.mv rfl ?_
 refine LM.val (ov_extract rfl rfl) ?_
 refine LM.val (ov_extract rfl rfl) ?_
 refine LM.as rfl (LM.as rfl ?_)
 refine LM.nil (QM.sub (e' := [(0, _), (4, _), (5, _), (7, _), (9, _), (10, _), (11, _), (12, _), (13, _), (14, _), (15, _), (16, _), (17, _), (18, _), (20, _)]) au9 (QM.then (wpM.seq (wpM.region ?_))))
 refine LM.mv rfl ?_
 refine LM.callE (oc_call (enters_fn Try.func33 (by kernel_rfl) rfl) rfl) (fun w hm hc hg => nSettle_spec w) ?_
 refine LM.nil (QM.sub (e' := [(0, _), (4, _), (5, _), (7, _), (9, _), (10, _), (11, _), (12, _), (13, _), (14, _), (15, _), (16, _), (17, _), (18, _), (20, _)]) au9 (QM.then ?_))
 refine wpM.seq ?_
 refine wpM.seq (wpM.region ?_)
 refine LM.mv rfl ?_
 refine LM.callT (oc_call (enters_fn Try.func38 (by kernel_rfl) rfl) rfl) RqA0.mono (fun w hm hc hg => nReady_spec w) ?_
 rintro u66 m66 ⟨c1, rfl, rfl, hc1⟩ -
 refine LM.nil (QM.sub (e' := [(0, _), (4, _), (5, _), (7, _), (9, _), (10, _), (11, _), (12, _), (13, _), (14, _), (15, _), (16, _), (17, _), (18, _), (20, _), (66, _)]) au9 (QM.then ?_))
 refine wpM.block ?_
 refine wpM.toRange (α := Unit) (fun k ⟨⟩ => qN c1 :: (b4, .cells #[.bool false] 4 (0, 0)) :: []) (⟨⟩) au1 ?_
 refine wpM.rangeP (α := Unit) (β := Unit) (enters_fn Try.func81 (by kernel_rfl) rfl) rfl (nReady_seq) (fun k ⟨⟩ Mp => qN c1 :: (b4, .cells #[.bool false] 4 (0, 0)) :: (Mp ++ [])) (by rintro k ⟨⟩ Mp; first | rfl | simp) (fun _ _ => top) (fun k ⟨⟩ => True) (fun ⟨⟩ => qN c1 :: (b4, .cells #[.bool false] 4 (0, 0)) :: []) (fun _ => top) (fun c ⟨⟩ => False) ⟨⟩ rfl (fun _ h => h) trivial (by kernel_rfl) (by intro k av hav; cases hav) (.inl trivial) (fun k a w hm hc _ _ => SubM.mem au1 w hm) (fun _ _ _ _ => gl_top _) (fun _ _ _ => gl_top _) (fun k x _ => by ((repeat (refine mm_cons rfl ?_)); exact fun p hp => .inl (by first | exact hp | (simp at hp; done) | (simp [hp]; done) | (simp at hp ⊢; first | exact .inl hp | exact hp | (simp [hp]; done))))) (fun c z _ => by ((repeat (refine mm_cons rfl ?_)); exact fun p hp => .inl (by first | exact hp | (simp at hp; done) | (simp [hp]; done) | (simp at hp ⊢; first | exact .inl hp | exact hp | (simp [hp]; done))))) ?_ ?_ ?_ ?_
 ·
  rintro k av ⟨⟩ l D rc n1 W1 Mp hD hll hput hrc hav -
  change wpM _ _ _ _ _ _ _ ((l, Obj.loop rc) :: ([(D, Obj.deferred (some []))] ++ (qN c1 :: (b4, .cells #[.bool false] 4 (0, 0)) :: (Mp ++ [])))) _ _ _
  skip
  cases hav
 ·
  rintro ⟨⟩ D0 hD0 -
  refine QM.sub (e' := [(0, _), (4, _), (5, _), (7, _), (9, _), (10, _), (11, _), (12, _), (13, _), (14, _), (15, _), (16, _), (17, _), (18, _), (20, _)]) au9 ?_
  refine QM.block_normal ?_
  refine QM.then (wpM.seq (wpM.region ?_))
  refine LM.mv rfl ?_
  refine LM.val (ov_eql rfl rfl) ?_
  refine LM.mv rfl ?_
  refine LM.splitD (t := 71) rfl (fun h2 => ?_) (fun h2 => ?_)
  ·
   refine LM.sp 71 rfl rfl rfl (LM.mv rfl (LM.sp 71 rfl rfl rfl ?_))
   first | refine LM.val (ov_notD rfl) ?_ | refine LM.val (ov_not rfl) ?_
   refine LM.val (ov_pickT rfl rfl) ?_
   refine LM.mv rfl ?_
   first | refine LM.splitD (t := 75) rfl (fun h3 => ?_) (fun h3 => ?_) | refine LM.splitB (t := 75) rfl (fun h3 => ?_) (fun h3 => ?_)
   ·
    refine LM.sp 75 rfl rfl rfl (LM.mv rfl (LM.sp 75 rfl rfl rfl ?_))
    refine LM.val (ov_eql rfl rfl) ?_
    refine LM.val (ov_pickT rfl rfl) ?_
    refine LM.mv rfl ?_
    refine LM.splitD (t := 79) rfl (fun h4 => ?_) (fun h4 => ?_)
    ·
     refine LM.sp 79 rfl rfl rfl (LM.mv rfl (LM.sp 79 rfl rfl rfl ?_))
     first | refine LM.val (ov_notD rfl) ?_ | refine LM.val (ov_not rfl) ?_
     refine LM.val (ov_pickT rfl rfl) ?_
     refine LM.mv rfl ?_
     first | refine LM.splitD (t := 83) rfl (fun h5 => ?_) (fun h5 => ?_) | refine LM.splitB (t := 83) rfl (fun h5 => ?_) (fun h5 => ?_)
     ·
      refine LM.sp 83 rfl rfl rfl (LM.mv rfl (LM.sp 83 rfl rfl rfl ?_))
      refine LM.val (ov_eql rfl rfl) ?_
      refine LM.val (ov_pickT rfl rfl) ?_
      refine LM.mv rfl ?_
      refine LM.splitD (t := 87) rfl (fun h6 => ?_) (fun h6 => ?_)
      ·
       refine LM.sp 87 rfl rfl rfl (LM.mv rfl (LM.sp 87 rfl rfl rfl ?_))
       first | refine LM.val (ov_notD rfl) ?_ | refine LM.val (ov_not rfl) ?_
       refine LM.val (ov_pickT rfl rfl) ?_
       refine LM.mv rfl ?_
       first | refine LM.splitD (t := 91) rfl (fun h7 => ?_) (fun h7 => ?_) | refine LM.splitB (t := 91) rfl (fun h7 => ?_) (fun h7 => ?_)
       ·
        refine LM.sp 91 rfl rfl rfl (LM.mv rfl (LM.sp 91 rfl rfl rfl ?_))
        refine LM.val (ov_eql rfl rfl) ?_
        refine LM.val (ov_pickT rfl rfl) ?_
        refine LM.mv rfl ?_
        refine LM.splitD (t := 95) rfl (fun h8 => ?_) (fun h8 => ?_)
        ·
         refine LM.sp 95 rfl rfl rfl (LM.mv rfl (LM.sp 95 rfl rfl rfl ?_))
         first | refine LM.val (ov_notD rfl) ?_ | refine LM.val (ov_not rfl) ?_
         refine LM.val (ov_pickT rfl rfl) ?_
         refine LM.mv rfl ?_
         first | refine LM.splitD (t := 99) rfl (fun h9 => ?_) (fun h9 => ?_) | refine LM.splitB (t := 99) rfl (fun h9 => ?_) (fun h9 => ?_)
         ·
          refine LM.sp 99 rfl rfl rfl (LM.mv rfl (LM.sp 99 rfl rfl rfl ?_))
          refine LM.val (ov_eql rfl rfl) ?_
          refine LM.val (ov_pickT rfl rfl) ?_
          refine LM.mv rfl ?_
          refine LM.splitD (t := 103) rfl (fun h10 => ?_) (fun h10 => ?_)
          ·
           refine LM.sp 103 rfl rfl rfl (LM.mv rfl (LM.sp 103 rfl rfl rfl ?_))
           refine LM.val (ov_eql rfl rfl) ?_
           refine LM.val (ov_pickT rfl rfl) ?_
           refine LM.mv rfl ?_
           refine LM.splitD (t := 107) rfl (fun h11 => ?_) (fun h11 => ?_)
           ·
            refine LM.sp 107 rfl rfl rfl (LM.mv rfl (LM.sp 107 rfl rfl rfl ?_))
            first | refine LM.val (ov_notD rfl) ?_ | refine LM.val (ov_not rfl) ?_
            refine LM.val (ov_pickT rfl rfl) ?_
            refine LM.mv rfl ?_
            first | refine LM.splitD (t := 111) rfl (fun h12 => ?_) (fun h12 => ?_) | refine LM.splitB (t := 111) rfl (fun h12 => ?_) (fun h12 => ?_)
            ·
             refine LM.sp 111 rfl rfl rfl (LM.mv rfl (LM.sp 111 rfl rfl rfl ?_))
             first | refine LM.val (ov_notD rfl) ?_ | refine LM.val (ov_not rfl) ?_
             refine LM.val (ov_pickT rfl rfl) ?_
             refine LM.mv rfl ?_
             first | refine LM.splitD (t := 115) rfl (fun h13 => ?_) (fun h13 => ?_) | refine LM.splitB (t := 115) rfl (fun h13 => ?_) (fun h13 => ?_)
             ·
              refine LM.sp 115 rfl rfl rfl (LM.mv rfl (LM.sp 115 rfl rfl rfl ?_))
              refine LM.callE (oc_call (enters_fn Try.func39 (by kernel_rfl) rfl) rfl) (fun w hm hc hg => nDue_spec w) ?_
              refine LM.sp 115 rfl rfl rfl ?_
              first | refine LM.val (ov_notD rfl) ?_ | refine LM.val (ov_not rfl) ?_
              refine LM.val (ov_pickT rfl rfl) ?_
              refine LM.mv rfl ?_
              first | refine LM.splitD (t := 120) rfl (fun h14 => ?_) (fun h14 => ?_) | refine LM.splitB (t := 120) rfl (fun h14 => ?_) (fun h14 => ?_)
              ·
               refine LM.sp 120 rfl rfl rfl (LM.mv rfl (LM.sp 120 rfl rfl rfl (LM.mv rfl (LM.sp 120 rfl rfl rfl ?_))))
               refine LM.callE (oc_call (enters_fn Try.func18 (by kernel_rfl) rfl) rfl) (fun w hm hc hg => nWgh_spec _ w) ?_
               refine LM.sp 120 rfl rfl rfl ?_
               first | refine LM.val (ov_notD rfl) ?_ | refine LM.val (ov_not rfl) ?_
               refine LM.val (ov_pickT rfl rfl) ?_
               refine LM.mv rfl ?_
               first | refine LM.splitD (t := 126) rfl (fun h15 => ?_) (fun h15 => ?_) | refine LM.splitB (t := 126) rfl (fun h15 => ?_) (fun h15 => ?_)
               ·
                refine LM.sp 126 rfl rfl rfl (LM.mv rfl (LM.sp 126 rfl rfl rfl ?_))
                refine LM.callE (oc_call (enters_fn Try.func19 (by kernel_rfl) rfl) rfl) (fun w hm hc hg => nFlo_spec w) ?_
                refine LM.sp 126 rfl rfl rfl ?_
                refine LM.val (ov_ueql (b := 0#64) rfl rfl) ?_
                refine LM.val (ov_pickT rfl rfl) ?_
                refine LM.mv rfl ?_
                refine LM.splitD (t := 131) rfl (fun h16 => ?_) (fun h16 => ?_)
                ·
                 refine LM.sp 131 rfl rfl rfl (LM.mv rfl (LM.sp 131 rfl rfl rfl ?_))
                 refine LM.callE (oc_call (enters_fn Try.func40 (by kernel_rfl) rfl) rfl) (fun w hm hc hg => nLen_spec w) ?_
                 refine LM.sp 131 rfl rfl rfl (LM.mv rfl (LM.sp 131 rfl rfl rfl ?_))
                 refine LM.callE (oc_call (enters_fn Try.func41 (by kernel_rfl) rfl) rfl) (fun w hm hc hg => nLoad_spec w) ?_
                 refine LM.sp 131 rfl rfl rfl ?_
                 refine LM.val (ov_add64 rfl rfl (by omega)) ?_
                 refine LM.sp 131 rfl rfl rfl ?_
                 refine LM.val (ov_eql rfl rfl) ?_
                 refine LM.val (ov_pickT rfl rfl) ?_
                 refine LM.st Try.sizeOf4 rfl rfl rfl au5 rfl au8 ?_
                 refine LM.nil (QM.sub (e' := [(4, _)]) ⟨rfl, trivial⟩ (QM.then ?_))
                 refine wpM.ret ?_
                 refine QM.leaveCDF (ds := [D0]) Try.results7 rfl (fun D h => by simp only [List.mem_cons, List.not_mem_nil, or_false] at h; omega) Try.isAgg4 rfl ?_
                 intro w' hm' hc'
                 exact ⟨rfl, hc'⟩
                first | cases h16 | exact absurd rfl h16 | (simp at h16; done)
               cases h15
              cases h14
             cases h13
            cases h12
           first | cases h11 | exact absurd rfl h11 | (simp at h11; done)
          first | cases h10 | exact absurd rfl h10 | (simp at h10; done)
         cases h9
        first | cases h8 | exact absurd rfl h8 | (simp at h8; done)
       cases h7
      first | cases h6 | exact absurd rfl h6 | (simp at h6; done)
     cases h5
    first | cases h4 | exact absurd rfl h4 | (simp at h4; done)
   cases h3
  first | cases h2 | exact absurd rfl h2 | (simp at h2; done)
 ·
  rintro ⟨⟩ D0 hD0 hx
  exact hx.elim
 rintro id ⟨⟩ D0 hD0 hx
 exact hx.elim
end Go.Eng
