/- Waits in rows: an arena, and a chain in it, as plain functions of their raw state. No condition. -/
import Derived.Test.YtljpjpnjaeidiaaGreatDoorM2
import Derived.Test.YtljpjpnjaeidiaaGreatDoorRows
import Derived.Test.YtljpjpnjaeidiaaGreatDoorM1
set_option linter.unusedVariables false
set_option linter.unusedSimpArgs false
set_option maxRecDepth 100000
namespace Go.Eng
open Go Go.RowKit
structure Wt where
  who : Int
  key : Int
  til : BitVec 64
deriving DecidableEq
instance : Inhabited Wt := ⟨⟨0, 0, 0#64⟩⟩
structure Lk where
  v : Wt
  tk : Int
  prev : Int
  next : Int
deriving DecidableEq
instance : Inhabited Lk := ⟨⟨default, 0, 0, 0⟩⟩
structure St where
  v : Lk
  on : Bool
  nx : Int
deriving DecidableEq
instance : Inhabited St := ⟨⟨default, false, 0⟩⟩
structure Ar where
  most : Int
  sl : List St
  free : Int
  n : Int
structure AWf (a : Ar) : Prop where
  len : a.sl.length ≤ 4096
  most : 0 ≤ a.most ∧ a.most ≤ 4096
  n : 0 ≤ a.n ∧ a.n ≤ 4096
  free : 0 ≤ a.free ∧ a.free ≤ a.sl.length
abbrev sg (l : List St) (p : Int) : St := l.getD p.toNat default
def isA (a : Ar) (p : Int) : Bool := decide (0 ≤ p ∧ p < a.sl.length) && (sg a.sl p).on
def getA (a : Ar) (p : Int) : Lk := if isA a p = true then (sg a.sl p).v else default
def setA (a : Ar) (p : Int) (v : Lk) : Ar := if isA a p = true then { a with sl := a.sl.set p.toNat { sg a.sl p with v := v } } else a
def putE (a : Ar) : Int := if a.most ≤ a.n then 3 else 0
def putP (a : Ar) : Int := if a.most ≤ a.n then 0 else if a.free = 0 then a.sl.length else a.free - 1
def putA (a : Ar) (v : Lk) : Ar := if a.most ≤ a.n then a else if a.free = 0 then { a with sl := a.sl ++ [⟨v, true, 0⟩], n := a.n + 1 }
  else { a with sl := a.sl.set (a.free - 1).toNat ⟨v, true, 0⟩, free := (sg a.sl (a.free - 1)).nx, n := a.n + 1 }
def dropA (a : Ar) (p : Int) : Ar := if isA a p = true then { a with sl := a.sl.set p.toNat ⟨default, false, a.free⟩, free := p + 1, n := a.n - 1 } else a
theorem isA_iff {a : Ar} {p : Int} : isA a p = true ↔ 0 ≤ p ∧ p < a.sl.length ∧ (sg a.sl p).on = true := by
  unfold isA; rw [Bool.and_eq_true, decide_eq_true_eq, and_assoc]
theorem aputK' : ∀ {m : List (Int × Value)} {a : Int} {v : Value} {b : Int}, b ∈ (aput m a v).map (·.1) → b = a ∨ b ∈ m.map (·.1)
  | [], a, v, b, h => by rw [aput_nil] at h; simp at h; exact .inl h
  | (c, u) :: m, a, v, b, h => by
    rw [aput_cons] at h
    by_cases e : a = c
    · rw [if_pos e] at h; simp only [List.map_cons, List.mem_cons] at h ⊢; rcases h with h | h; exact .inl h; exact .inr (.inr h)
    · rw [if_neg e] at h
      simp only [List.map_cons, List.mem_cons] at h ⊢
      rcases h with h | h
      · exact .inr (.inl h)
      · rcases aputK' h with q | q
        · exact .inl q
        · exact .inr (.inr q)
theorem aputN' : ∀ {m : List (Int × Value)} {a : Int} {v : Value}, (m.map (·.1)).Nodup → ((aput m a v).map (·.1)).Nodup
  | [], a, v, _ => by rw [aput_nil]; simp
  | (c, u) :: m, a, v, h => by
    simp only [List.map_cons, List.nodup_cons] at h
    rw [aput_cons]
    by_cases e : a = c
    · rw [if_pos e]; subst e; simp only [List.map_cons, List.nodup_cons]; exact h
    · rw [if_neg e]; simp only [List.map_cons, List.nodup_cons]
      refine ⟨fun q => ?_, aputN' h.2⟩
      rcases aputK' q with z | z
      · exact e z.symm
      · exact h.1 z
theorem adelK' : ∀ {m : List (Int × Value)} {a b : Int}, b ∈ (adel m a).map (·.1) → b ∈ m.map (·.1)
  | [], a, b, h => h
  | (c, u) :: m, a, b, h => by
    rw [adel_cons] at h
    by_cases e : a = c
    · rw [if_pos e] at h; exact List.mem_cons_of_mem _ h
    · rw [if_neg e] at h
      simp only [List.map_cons, List.mem_cons] at h ⊢
      rcases h with h | h
      · exact .inl h
      · exact .inr (adelK' h)
theorem adelN' : ∀ {m : List (Int × Value)} {a : Int}, (m.map (·.1)).Nodup → ((adel m a).map (·.1)).Nodup
  | [], a, h => h
  | (c, u) :: m, a, h => by
    simp only [List.map_cons, List.nodup_cons] at h
    rw [adel_cons]
    by_cases e : a = c
    · rw [if_pos e]; exact h.2
    · rw [if_neg e]; simp only [List.map_cons, List.nodup_cons]; exact ⟨fun q => h.1 (adelK' q), adelN' h.2⟩
theorem aget_none' : ∀ {l : List (Int × Value)} {a : Int}, aget l a = none ↔ a ∉ l.map (·.1)
  | [], a => by simp [aget_nil]
  | (b, u) :: l, a => by
    rw [aget_cons]
    by_cases e : a = b
    · subst e; simp
    · rw [if_neg e, aget_none']; simp [e]
theorem aget_adel' : ∀ {l : List (Int × Value)} {a : Int}, (l.map (·.1)).Nodup → ∀ b, aget (adel l a) b = if b = a then none else aget l b
  | [], a, h, b => by rw [adel_nil, aget_nil]; split <;> rfl
  | (c, u) :: l, a, h, b => by
    simp only [List.map_cons, List.nodup_cons] at h
    rw [adel_cons]
    by_cases e : a = c
    · subst e
      rw [if_pos rfl, aget_cons]
      by_cases e2 : b = a
      · subst e2; rw [if_pos rfl]; exact aget_none'.2 h.1
      · rw [if_neg e2, if_neg e2]
    · rw [if_neg e, aget_cons, aget_cons, aget_adel' h.2]
      by_cases e2 : b = c
      · subst e2; rw [if_pos rfl, if_pos rfl, if_neg (fun q => e q.symm)]
      · rw [if_neg e2, if_neg e2]
/-! ### A chain in an arena -/
structure Fq where
  a : Ar
  wh : List (Int × Value)
  first : Int
  last : Int
  tk : Int
def join1 (f : Fq) (x y : Int) : Fq := if isA f.a x = true then { f with a := setA f.a x { getA f.a x with next := y } } else { f with first := y }
def join2 (f : Fq) (x y : Int) : Fq := if isA f.a y = true then { f with a := setA f.a y { getA f.a y with prev := x } } else { f with last := x }
def joinF (f : Fq) (x y : Int) : Fq := join2 (join1 f x y) x y
def pushF (f : Fq) (v : Wt) : Fq :=
  { joinF { f with a := putA f.a ⟨v, f.tk + 1, -1, -1⟩, wh := aput f.wh (f.tk + 1) (.int .i64 (putP f.a)), tk := f.tk + 1 } f.last (putP f.a) with last := putP f.a }
def takeF (f : Fq) (p : Int) : Fq := joinF { f with a := dropA f.a p, wh := adel f.wh (getA f.a p).tk } (getA f.a p).prev (getA f.a p).next
abbrev sN (l : List St) (p : Nat) : St := l.getD p default
theorem sN_set {l : List St} {p : Nat} (h : p < l.length) (x : St) (q : Nat) : sN (l.set p x) q = if p = q then x else sN l q := by
  unfold sN
  rw [List.getD_eq_getElem?_getD, List.getD_eq_getElem?_getD, List.getElem?_set]
  by_cases e : p = q
  · subst e; rw [if_pos rfl, if_pos rfl, if_pos h]; rfl
  · rw [if_neg e, if_neg e]
theorem sN_app (l : List St) (x : St) (q : Nat) : sN (l ++ [x]) q = if q = l.length then x else sN l q := by
  unfold sN
  rw [List.getD_eq_getElem?_getD, List.getD_eq_getElem?_getD]
  by_cases e : q = l.length
  · subst e; simp
  · rw [if_neg e]
    rcases Nat.lt_or_ge q l.length with h | h
    · rw [List.getElem?_append_left h]
    · rw [List.getElem?_eq_none (by rw [List.length_append, List.length_singleton]; omega), List.getElem?_eq_none h]
theorem isA_on {a : Ar} {p : Nat} (h : p < a.sl.length) (ho : (sN a.sl p).on = true) : isA a (p : Int) = true := isA_iff.2 ⟨by omega, by omega, by unfold sg; rw [Int.toNat_natCast]; exact ho⟩
theorem isA_m1 (a : Ar) : ¬ isA a (-1) = true := fun h => by have := (isA_iff.1 h).1; omega
theorem setA_on {a : Ar} {p : Nat} (h : p < a.sl.length) (ho : (sN a.sl p).on = true) (v : Lk) : setA a (p : Int) v = { a with sl := a.sl.set p { sN a.sl p with v := v } } := by
  unfold setA; rw [if_pos (isA_on h ho)]; unfold sg; rw [Int.toNat_natCast]
theorem getA_on {a : Ar} {p : Nat} (h : p < a.sl.length) (ho : (sN a.sl p).on = true) : getA a (p : Int) = (sN a.sl p).v := by
  unfold getA; rw [if_pos (isA_on h ho)]; unfold sg; rw [Int.toNat_natCast]
def pv (ps : List Nat) (i : Nat) : Int := if i = 0 then -1 else ((ps.getD (i - 1) 0 : Nat) : Int)
def nv (ps : List Nat) (i : Nat) : Int := if i + 1 < ps.length then ((ps.getD (i + 1) 0 : Nat) : Int) else -1
def Ch (l : List St) : List Nat → Int → Prop
  | [], f => f = 0
  | p :: F, f => f = ((p : Nat) : Int) + 1 ∧ (sN l p).on = false ∧ Ch l F (sN l p).nx
theorem Ch.cong {l l' : List St} : ∀ {F : List Nat} {f : Int}, (∀ p ∈ F, sN l' p = sN l p) → Ch l F f → Ch l' F f
  | [], f, _, h => h
  | p :: F, f, hc, ⟨h1, h2, h3⟩ => ⟨h1, by rw [hc p (List.mem_cons_self ..)]; exact h2, by rw [hc p (List.mem_cons_self ..)]; exact Ch.cong (fun q hq => hc q (List.mem_cons_of_mem _ hq)) h3⟩
abbrev qd (q : List (Int × Wt)) (i : Nat) : Int × Wt := q.getD i (0, default)
structure FqR (most : Int) (f : Fq) (q : List (Int × Wt)) (ps F : List Nat) : Prop where
  mst : f.a.most = most ∧ 0 ≤ most ∧ most ≤ 4096
  lq : ps.length = q.length
  nd : (ps ++ F).Nodup
  len : f.a.sl.length = ps.length + F.length
  cov : ∀ p, p ∈ ps ∨ p ∈ F → p < f.a.sl.length
  lk : ∀ i, i < ps.length → (sN f.a.sl (ps.getD i 0)).on = true ∧ (sN f.a.sl (ps.getD i 0)).v = ⟨(qd q i).2, (qd q i).1, pv ps i, nv ps i⟩
  ch : Ch f.a.sl F f.a.free
  n : f.a.n = (ps.length : Nat)
  le : (f.a.sl.length : Int) ≤ most
  first : f.first = if ps.length = 0 then -1 else ((ps.getD 0 0 : Nat) : Int)
  last : f.last = if ps.length = 0 then -1 else ((ps.getD (ps.length - 1) 0 : Nat) : Int)
  tk0 : 0 ≤ f.tk
  tk : ∀ i, i < q.length → 1 ≤ (qd q i).1 ∧ (qd q i).1 ≤ f.tk
  inc : ∀ i j, i < j → j < q.length → (qd q i).1 < (qd q j).1
  wk : (f.wh.map (·.1)).Nodup
  wh : ∀ i, i < q.length → aget f.wh (qd q i).1 = some (.int .i64 ((ps.getD i 0 : Nat) : Int))
  wn : ∀ t, (∀ i, i < q.length → (qd q i).1 ≠ t) → aget f.wh t = none
theorem nd_ne {ps F : List Nat} (h : (ps ++ F).Nodup) {i j : Nat} (hi : i < ps.length) (hj : j < ps.length) (e : ps.getD i 0 = ps.getD j 0) : i = j := by
  have h1 := (List.nodup_append.1 h).1
  rw [List.getD_eq_getElem?_getD, List.getD_eq_getElem?_getD, List.getElem?_eq_getElem hi, List.getElem?_eq_getElem hj] at e
  exact (List.getElem_inj h1).1 e
theorem gd_mem {ps : List Nat} {i : Nat} (hi : i < ps.length) : ps.getD i 0 ∈ ps := by
  rw [List.getD_eq_getElem?_getD, List.getElem?_eq_getElem hi]; exact List.getElem_mem _
theorem gd_snoc (ps : List Nat) (p i : Nat) : (ps ++ [p]).getD i 0 = if i = ps.length then p else ps.getD i 0 := by
  rw [List.getD_eq_getElem?_getD, List.getD_eq_getElem?_getD]
  by_cases e : i = ps.length
  · subst e; simp
  · rw [if_neg e]
    rcases Nat.lt_or_ge i ps.length with h | h
    · rw [List.getElem?_append_left h]
    · rw [List.getElem?_eq_none (by rw [List.length_append, List.length_singleton]; omega), List.getElem?_eq_none h]
theorem qd_snoc (q : List (Int × Wt)) (x : Int × Wt) (i : Nat) : qd (q ++ [x]) i = if i = q.length then x else qd q i := by
  unfold qd
  rw [List.getD_eq_getElem?_getD, List.getD_eq_getElem?_getD]
  by_cases e : i = q.length
  · subst e; simp
  · rw [if_neg e]
    rcases Nat.lt_or_ge i q.length with h | h
    · rw [List.getElem?_append_left h]
    · rw [List.getElem?_eq_none (by rw [List.length_append, List.length_singleton]; omega), List.getElem?_eq_none h]
theorem put_at {most : Int} {f : Fq} {q : List (Int × Wt)} {ps F : List Nat} (h : FqR most f q ps F) (hn : ¬ f.a.most ≤ f.a.n) (v : Lk) :
    ∃ (p : Nat) (F' : List Nat), putP f.a = (p : Nat) ∧ (∀ r ∈ ps, r ≠ p) ∧ p ∉ F' ∧ (∀ r ∈ F', r ∈ F) ∧ F'.Nodup ∧ (putA f.a v).sl.length = ps.length + 1 + F'.length ∧ p < (putA f.a v).sl.length ∧ f.a.sl.length ≤ (putA f.a v).sl.length ∧
      sN (putA f.a v).sl p = ⟨v, true, 0⟩ ∧ (∀ r, r ≠ p → sN (putA f.a v).sl r = sN f.a.sl r) ∧ Ch (putA f.a v).sl F' (putA f.a v).free ∧ (putA f.a v).n = f.a.n + 1 ∧ (putA f.a v).most = f.a.most ∧ ((putA f.a v).sl.length : Int) ≤ most := by
  have hnn := h.n
  have hm := h.mst
  have hnd := List.nodup_append.1 h.nd
  cases F with
  | nil =>
    have hf : f.a.free = 0 := h.ch
    have hl := h.len
    simp only [List.length_nil, Nat.add_zero] at hl
    have hA : putA f.a v = { f.a with sl := f.a.sl ++ [⟨v, true, 0⟩], n := f.a.n + 1 } := by unfold putA; rw [if_neg hn, if_pos hf]
    refine ⟨f.a.sl.length, [], by unfold putP; rw [if_neg hn, if_pos hf], fun r hr e => ?_, List.not_mem_nil, fun r hr => hr, List.nodup_nil, ?_, ?_, ?_, ?_, fun r hr => ?_, ?_, ?_, ?_, ?_⟩
    · have := h.cov r (.inl hr); omega
    · rw [hA]; simp [hl]
    · rw [hA]; simp
    · rw [hA]; simp
    · rw [hA]; show sN (f.a.sl ++ [_]) _ = _; rw [sN_app, if_pos rfl]
    · rw [hA]; show sN (f.a.sl ++ [_]) _ = _; rw [sN_app, if_neg hr]
    · rw [hA]; exact hf
    · rw [hA]
    · rw [hA]
    · rw [hA]; show ((f.a.sl ++ [_]).length : Int) ≤ _; rw [List.length_append, List.length_singleton]; omega
  | cons p F =>
    obtain ⟨hf, hoff, hch⟩ := h.ch
    have hl := h.len
    simp only [List.length_cons] at hl
    have hp : p < f.a.sl.length := h.cov p (.inr (List.mem_cons_self ..))
    have h0 : ¬ f.a.free = 0 := by omega
    have e1 : (f.a.free - 1).toNat = p := by omega
    have hA : putA f.a v = { f.a with sl := f.a.sl.set p ⟨v, true, 0⟩, free := (sN f.a.sl p).nx, n := f.a.n + 1 } := by unfold putA sg; rw [if_neg hn, if_neg h0, e1]
    have hndF := List.nodup_cons.1 hnd.2.1
    refine ⟨p, F, by unfold putP; rw [if_neg hn, if_neg h0]; omega, fun r hr e => hnd.2.2 r hr p (List.mem_cons_self ..) e, hndF.1, fun r hr => List.mem_cons_of_mem _ hr, hndF.2, ?_, ?_, ?_, ?_, fun r hr => ?_, ?_, ?_, ?_, ?_⟩
    · rw [hA]; show (f.a.sl.set p _).length = _; rw [List.length_set]; omega
    · rw [hA]; show _ < (f.a.sl.set p _).length; rw [List.length_set]; exact hp
    · rw [hA]; show _ ≤ (f.a.sl.set p _).length; rw [List.length_set]; exact Nat.le_refl _
    · rw [hA]; show sN (f.a.sl.set p _) _ = _; rw [sN_set hp, if_pos rfl]
    · rw [hA]; show sN (f.a.sl.set p _) _ = _; rw [sN_set hp, if_neg (fun e => hr e.symm)]
    · rw [hA]; exact hch.cong (fun r hr => by show sN (f.a.sl.set p _) r = _; rw [sN_set hp, if_neg (fun e : p = r => hndF.1 (by rw [e]; exact hr))])
    · rw [hA]
    · rw [hA]
    · rw [hA]; show ((f.a.sl.set p _).length : Int) ≤ _; rw [List.length_set]; exact h.le
theorem join1_on {f : Fq} {x : Nat} (hx : x < f.a.sl.length) (ho : (sN f.a.sl x).on = true) (y : Int) : join1 f (x : Int) y = { f with a := { f.a with sl := f.a.sl.set x { sN f.a.sl x with v := { (sN f.a.sl x).v with next := y } } } } := by
  unfold join1; rw [if_pos (isA_on hx ho), setA_on hx ho, getA_on hx ho]
theorem join1_off (f : Fq) (y : Int) : join1 f (-1) y = { f with first := y } := if_neg (isA_m1 _)
theorem join2_on {f : Fq} {y : Nat} (hy : y < f.a.sl.length) (ho : (sN f.a.sl y).on = true) (x : Int) : join2 f x (y : Int) = { f with a := { f.a with sl := f.a.sl.set y { sN f.a.sl y with v := { (sN f.a.sl y).v with prev := x } } } } := by
  unfold join2; rw [if_pos (isA_on hy ho), setA_on hy ho, getA_on hy ho]
theorem join2_off (f : Fq) (x : Int) : join2 f x (-1) = { f with last := x } := if_neg (isA_m1 _)
theorem joinF_nn {f : Fq} {x y : Nat} (hx : x < f.a.sl.length) (hox : (sN f.a.sl x).on = true) (hy : y < f.a.sl.length) (hoy : (sN f.a.sl y).on = true) (hne : x ≠ y) :
    joinF f (x : Int) (y : Int) = { f with a := { f.a with sl := (f.a.sl.set x { sN f.a.sl x with v := { (sN f.a.sl x).v with next := (y : Int) } }).set y { sN f.a.sl y with v := { (sN f.a.sl y).v with prev := (x : Int) } } } } := by
  have hs : sN (f.a.sl.set x { sN f.a.sl x with v := { (sN f.a.sl x).v with next := (y : Int) } }) y = sN f.a.sl y := by rw [sN_set hx, if_neg hne]
  unfold joinF
  rw [join1_on hx hox]
  rw [join2_on (f := { f with a := { f.a with sl := f.a.sl.set x { sN f.a.sl x with v := { (sN f.a.sl x).v with next := (y : Int) } } } }) (by show _ < (List.set _ _ _).length; rw [List.length_set]; exact hy) (by show (sN (List.set _ _ _) y).on = true; rw [hs]; exact hoy)]
  simp only [hs]
theorem joinF_0n {f : Fq} {y : Nat} (hy : y < f.a.sl.length) (hoy : (sN f.a.sl y).on = true) :
    joinF f (-1) (y : Int) = { f with first := (y : Int), a := { f.a with sl := f.a.sl.set y { sN f.a.sl y with v := { (sN f.a.sl y).v with prev := -1 } } } } := by
  unfold joinF
  rw [join1_off, join2_on (f := { f with first := (y : Int) }) hy hoy]
theorem joinF_n0 {f : Fq} {x : Nat} (hx : x < f.a.sl.length) (hox : (sN f.a.sl x).on = true) :
    joinF f (x : Int) (-1) = { f with last := (x : Int), a := { f.a with sl := f.a.sl.set x { sN f.a.sl x with v := { (sN f.a.sl x).v with next := -1 } } } } := by
  unfold joinF
  rw [join1_on hx hox, join2_off]
theorem joinF_00 (f : Fq) : joinF f (-1) (-1) = { f with first := -1, last := -1 } := by
  unfold joinF
  rw [join1_off, join2_off]
theorem push_raw {most : Int} {f : Fq} {q : List (Int × Wt)} {ps F : List Nat} (h : FqR most f q ps F) (hn : ¬ f.a.most ≤ f.a.n) (v : Wt) :
    ∃ (p : Nat) (F' : List Nat), putP f.a = (p : Nat) ∧ (∀ r ∈ ps, r ≠ p) ∧ p ∉ F' ∧ (∀ r ∈ F', r ∈ F) ∧ F'.Nodup ∧ (pushF f v).a.sl.length = ps.length + 1 + F'.length ∧ p < (pushF f v).a.sl.length ∧ f.a.sl.length ≤ (pushF f v).a.sl.length ∧
      sN (pushF f v).a.sl p = ⟨⟨v, f.tk + 1, f.last, -1⟩, true, 0⟩ ∧ (∀ r : Nat, r ≠ p → sN (pushF f v).a.sl r = if (r : Int) = f.last then { sN f.a.sl r with v := { (sN f.a.sl r).v with next := (p : Nat) } } else sN f.a.sl r) ∧ Ch (pushF f v).a.sl F' (pushF f v).a.free ∧ (pushF f v).a.n = f.a.n + 1 ∧ (pushF f v).a.most = f.a.most ∧ ((pushF f v).a.sl.length : Int) ≤ most ∧
      (pushF f v).first = (if ps.length = 0 then ((p : Nat) : Int) else f.first) ∧ (pushF f v).last = (p : Nat) ∧ (pushF f v).tk = f.tk + 1 ∧ (pushF f v).wh = aput f.wh (f.tk + 1) (.int .i64 (p : Nat)) := by
  obtain ⟨p, F', hp, hpp, hpF, hFF, hFn, hl, hpl, hle, hsp, hsr, hch, hna, hma, hmm⟩ := put_at h hn ⟨v, f.tk + 1, -1, -1⟩
  refine ⟨p, F', hp, hpp, hpF, hFF, hFn, ?_⟩
  have hlast := h.last
  obtain ⟨F2, hF2⟩ : ∃ F2 : Fq, F2 = { f with a := putA f.a ⟨v, f.tk + 1, -1, -1⟩, wh := aput f.wh (f.tk + 1) (.int .i64 (p : Nat)), tk := f.tk + 1 } := ⟨_, rfl⟩
  have e2 : pushF f v = { joinF F2 f.last (p : Nat) with last := (p : Nat) } := by rw [hF2]; unfold pushF; rw [hp]
  have ga : F2.a = putA f.a ⟨v, f.tk + 1, -1, -1⟩ := by rw [hF2]
  have gw : F2.wh = aput f.wh (f.tk + 1) (.int .i64 (p : Nat)) := by rw [hF2]
  have gf : F2.first = f.first := by rw [hF2]
  have gt : F2.tk = f.tk + 1 := by rw [hF2]
  rw [← ga] at hl hpl hle hsp hsr hch hna hma hmm
  clear ga hF2
  have hon : (sN F2.a.sl p).on = true := by rw [hsp]
  by_cases h0 : ps.length = 0
  · rw [if_pos h0] at hlast
    rw [hlast] at e2 ⊢
    rw [joinF_0n hpl hon, hsp] at e2
    rw [e2]
    refine ⟨by show (List.set _ _ _).length = _; rw [List.length_set]; exact hl, by show _ < (List.set _ _ _).length; rw [List.length_set]; exact hpl, by show _ ≤ (List.set _ _ _).length; rw [List.length_set]; exact hle, ?_, fun r hr => ?_, ?_, hna, hma, by show ((List.set _ _ _).length : Int) ≤ _; rw [List.length_set]; exact hmm, ?_, rfl, gt, gw⟩
    · show sN (List.set _ _ _) p = _; rw [sN_set hpl, if_pos rfl]
    · show sN (List.set _ _ _) r = _; rw [sN_set hpl, if_neg (fun e => hr e.symm), hsr r hr, if_neg om]
    · exact hch.cong (fun r hr => by show sN (List.set _ _ _) r = _; rw [sN_set hpl, if_neg (fun e : p = r => hpF (by rw [e]; exact hr))])
    · rw [if_pos h0]
  · rw [if_neg h0] at hlast
    have hL : ps.length - 1 < ps.length := by omega
    have hLm := gd_mem hL
    have hLp := hpp _ hLm
    obtain ⟨hLon, hLv⟩ := h.lk (ps.length - 1) hL
    generalize hLe : ps.getD (ps.length - 1) 0 = L at *
    have hLl : L < f.a.sl.length := h.cov L (.inl hLm)
    have hLl2 : L < F2.a.sl.length := Nat.lt_of_lt_of_le hLl hle
    have hLs := hsr L hLp
    have hLo2 : (sN F2.a.sl L).on = true := by rw [hLs]; exact hLon
    rw [hlast] at e2 ⊢
    rw [joinF_nn hLl2 hLo2 hpl hon hLp, hsp, hLs] at e2
    have hpl2 : p < (F2.a.sl.set L { sN f.a.sl L with v := { (sN f.a.sl L).v with next := (p : Int) } }).length := by rw [List.length_set]; exact hpl
    rw [e2]
    refine ⟨by show (List.set _ _ _).length = _; rw [List.length_set, List.length_set]; exact hl, by show _ < (List.set _ _ _).length; rw [List.length_set]; exact hpl2, by show _ ≤ (List.set _ _ _).length; rw [List.length_set, List.length_set]; exact hle, ?_, fun r hr => ?_, ?_, hna, hma, by show ((List.set _ _ _).length : Int) ≤ _; rw [List.length_set, List.length_set]; exact hmm, ?_, rfl, gt, gw⟩
    · show sN (List.set _ _ _) p = _; rw [sN_set hpl2, if_pos rfl]
    · show sN (List.set _ _ _) r = _
      rw [sN_set hpl2, if_neg (fun e => hr e.symm), sN_set hLl2]
      by_cases e : L = r
      · subst e; rw [if_pos rfl, if_pos rfl]
      · rw [if_neg e, if_neg om, hsr r hr]
    · refine hch.cong (fun r hr => ?_)
      show sN (List.set _ _ _) r = _
      have hrF := hFF r hr
      rw [sN_set hpl2, if_neg (fun e : p = r => hpF (by rw [e]; exact hr)), sN_set hLl2, if_neg (fun e : L = r => (List.nodup_append.1 h.nd).2.2 L hLm r hrF e)]
    · rw [if_neg h0]; exact gf
theorem push_ok {most : Int} {f : Fq} {q : List (Int × Wt)} {ps F : List Nat} (h : FqR most f q ps F) (hn : ¬ f.a.most ≤ f.a.n) (v : Wt) :
    ∃ ps' F', FqR most (pushF f v) (q ++ [(f.tk + 1, v)]) ps' F' := by
  obtain ⟨p, F', hp, hpp, hpF, hFF, hFn, hl, hpl, hle, hsp, hsr, hch, hna, hma, hmm, hfi, hla, htk, hwh⟩ := push_raw h hn v
  have hnd := List.nodup_append.1 h.nd
  have hlq := h.lq
  have hlen' : (ps ++ [p]).length = ps.length + 1 := by simp
  have htk0 := h.tk0
  refine ⟨ps ++ [p], F', ?_⟩
  constructor
  case mst => rw [hma]; exact h.mst
  case lq => rw [hlen', List.length_append, List.length_singleton, hlq]
  case nd =>
    rw [List.append_assoc]
    refine List.nodup_append.2 ⟨hnd.1, ?_, ?_⟩
    · exact List.nodup_cons.2 ⟨hpF, hFn⟩
    · intro r hr s hs e
      rcases List.mem_append.1 hs with q1 | q1
      · rw [List.mem_singleton] at q1; exact hpp r hr (e.trans q1)
      · exact hnd.2.2 r hr s (hFF s q1) e
  case len => rw [hl, hlen']
  case cov =>
    intro r hr
    rcases hr with hr | hr
    · rcases List.mem_append.1 hr with hr | hr
      · exact Nat.lt_of_lt_of_le (h.cov r (.inl hr)) hle
      · rw [List.mem_singleton] at hr; rw [hr]; exact hpl
    · exact Nat.lt_of_lt_of_le (h.cov r (.inr (hFF r hr))) hle
  case lk =>
    intro i hi
    rw [hlen'] at hi
    rw [gd_snoc, qd_snoc, ← hlq]
    by_cases e : i = ps.length
    · rw [if_pos e, if_pos e, hsp]
      refine ⟨rfl, ?_⟩
      have e1 : pv (ps ++ [p]) i = f.last := by
        rw [h.last]; unfold pv
        rw [e]
        by_cases h0 : ps.length = 0
        · rw [if_pos h0, if_pos h0]
        · rw [if_neg h0, if_neg h0, gd_snoc, if_neg om]
      have e2 : nv (ps ++ [p]) i = -1 := by unfold nv; rw [if_neg (by rw [hlen']; omega)]
      rw [e1, e2]
    · have hi2 : i < ps.length := by omega
      rw [if_neg e, if_neg e]
      obtain ⟨h1, h2⟩ := h.lk i hi2
      have e1 : pv (ps ++ [p]) i = pv ps i := by unfold pv; split; rfl; rw [gd_snoc, if_neg om]
      rw [hsr _ (hpp _ (gd_mem hi2)), e1]
      by_cases e3 : i = ps.length - 1
      · have hla2 : ((ps.getD i 0 : Nat) : Int) = f.last := by rw [h.last, if_neg om, e3]
        have e2 : nv (ps ++ [p]) i = (p : Nat) := by unfold nv; rw [hlen', if_pos om, gd_snoc, if_pos om]
        rw [if_pos hla2, e2]
        exact ⟨h1, by simp only [h2]⟩
      · have hla2 : ¬ ((ps.getD i 0 : Nat) : Int) = f.last := by
          rw [h.last, if_neg om]
          intro z
          exact e3 (nd_ne h.nd hi2 om om)
        have e2 : nv (ps ++ [p]) i = nv ps i := by unfold nv; rw [hlen', if_pos om, if_pos om, gd_snoc, if_neg om]
        rw [if_neg hla2, e2]
        exact ⟨h1, h2⟩
  case ch => exact hch
  case n => rw [hna, h.n, hlen']; omega
  case le => exact hmm
  case first =>
    rw [hfi, hlen', gd_snoc]
    by_cases h0 : ps.length = 0
    · rw [if_pos h0, if_neg (by omega : ¬ ps.length + 1 = 0), if_pos h0.symm]
    · rw [if_neg h0, if_neg (by omega : ¬ ps.length + 1 = 0), if_neg (fun e => h0 e.symm), h.first, if_neg h0]
  case last => rw [hla, hlen', if_neg om, gd_snoc, if_pos om]
  case tk0 => rw [htk]; omega
  case tk =>
    intro i hi
    rw [List.length_append, List.length_singleton] at hi
    rw [qd_snoc, htk]
    by_cases e : i = q.length
    · rw [if_pos e]; show 1 ≤ f.tk + 1 ∧ f.tk + 1 ≤ f.tk + 1; omega
    · rw [if_neg e]; have := h.tk i om; omega
  case inc =>
    intro i j hij hj
    rw [List.length_append, List.length_singleton] at hj
    rw [qd_snoc, qd_snoc, if_neg om]
    by_cases e : j = q.length
    · rw [if_pos e]; have := h.tk i om; show _ < f.tk + 1; omega
    · rw [if_neg e]; exact h.inc i j hij om
  case wk => rw [hwh]; exact aputN' h.wk
  case wh =>
    intro i hi
    rw [List.length_append, List.length_singleton] at hi
    rw [qd_snoc, gd_snoc, hwh, aget_aput, hlq]
    by_cases e : i = q.length
    · rw [if_pos e, if_pos e, if_pos rfl]
    · rw [if_neg e, if_neg e]
      have := h.tk i om
      rw [if_neg om]; exact h.wh i om
  case wn =>
    intro t ht
    have h1 := ht q.length (by rw [List.length_append, List.length_singleton]; omega)
    rw [qd_snoc, if_pos rfl] at h1
    rw [hwh, aget_aput, if_neg (fun e => h1 e.symm)]
    refine h.wn t (fun i hi => ?_)
    have h2 := ht i (by rw [List.length_append, List.length_singleton]; omega)
    rwa [qd_snoc, if_neg om] at h2
/-! ### One is taken off -/
theorem dropA_on {a : Ar} {p : Nat} (h : p < a.sl.length) (ho : (sN a.sl p).on = true) : dropA a (p : Int) = { a with sl := a.sl.set p ⟨default, false, a.free⟩, free := (p : Int) + 1, n := a.n - 1 } := by
  unfold dropA; rw [if_pos (isA_on h ho), Int.toNat_natCast]
theorem gd_erase (l : List Nat) (i j : Nat) : (l.eraseIdx i).getD j 0 = if j < i then l.getD j 0 else l.getD (j + 1) 0 := by
  rw [List.getD_eq_getElem?_getD, List.getElem?_eraseIdx]
  split <;> rw [List.getD_eq_getElem?_getD]
theorem qd_erase (l : List (Int × Wt)) (i j : Nat) : qd (l.eraseIdx i) j = if j < i then qd l j else qd l (j + 1) := by
  unfold qd
  rw [List.getD_eq_getElem?_getD, List.getElem?_eraseIdx]
  split <;> rw [List.getD_eq_getElem?_getD]
def reN (s : St) (r : Nat) (x y : Int) : St := { s with v := { s.v with next := if (r : Int) = x then y else s.v.next, prev := if (r : Int) = y then x else s.v.prev } }
theorem reN_no {s : St} {r : Nat} {x y : Int} (h1 : ¬ (r : Int) = x) (h2 : ¬ (r : Int) = y) : reN s r x y = s := by unfold reN; rw [if_neg h1, if_neg h2]
theorem reN_x {s : St} {r : Nat} {x y : Int} (h1 : (r : Int) = x) (h2 : ¬ (r : Int) = y) : reN s r x y = { s with v := { s.v with next := y } } := by unfold reN; rw [if_pos h1, if_neg h2]
theorem reN_y {s : St} {r : Nat} {x y : Int} (h1 : ¬ (r : Int) = x) (h2 : (r : Int) = y) : reN s r x y = { s with v := { s.v with prev := x } } := by unfold reN; rw [if_neg h1, if_pos h2]
theorem pv_or {most : Int} {f : Fq} {q : List (Int × Wt)} {ps F : List Nat} (h : FqR most f q ps F) {i : Nat} (hi : i < ps.length) : pv ps i = -1 ∧ i = 0 ∨ ∃ x : Nat, pv ps i = (x : Nat) ∧ 0 < i ∧ x = ps.getD (i - 1) 0 := by
  unfold pv
  by_cases e : i = 0
  · rw [if_pos e]; exact .inl ⟨rfl, e⟩
  · rw [if_neg e]; exact .inr ⟨_, rfl, by omega, rfl⟩
theorem nv_or {most : Int} {f : Fq} {q : List (Int × Wt)} {ps F : List Nat} (h : FqR most f q ps F) {i : Nat} (hi : i < ps.length) : nv ps i = -1 ∧ i + 1 = ps.length ∨ ∃ x : Nat, nv ps i = (x : Nat) ∧ i + 1 < ps.length ∧ x = ps.getD (i + 1) 0 := by
  unfold nv
  by_cases e : i + 1 < ps.length
  · rw [if_pos e]; exact .inr ⟨_, rfl, e, rfl⟩
  · rw [if_neg e]; exact .inl ⟨rfl, by omega⟩
theorem take_raw {most : Int} {f : Fq} {q : List (Int × Wt)} {ps F : List Nat} (h : FqR most f q ps F) {i : Nat} (hi : i < ps.length) :
    (takeF f (ps.getD i 0 : Nat)).a.sl.length = f.a.sl.length ∧ sN (takeF f (ps.getD i 0 : Nat)).a.sl (ps.getD i 0) = ⟨default, false, f.a.free⟩ ∧
      (∀ r : Nat, r ≠ ps.getD i 0 → sN (takeF f (ps.getD i 0 : Nat)).a.sl r = reN (sN f.a.sl r) r (pv ps i) (nv ps i)) ∧ (takeF f (ps.getD i 0 : Nat)).a.free = ((ps.getD i 0 : Nat) : Int) + 1 ∧ (takeF f (ps.getD i 0 : Nat)).a.n = f.a.n - 1 ∧ (takeF f (ps.getD i 0 : Nat)).a.most = f.a.most ∧
      (takeF f (ps.getD i 0 : Nat)).first = (if i = 0 then nv ps i else f.first) ∧ (takeF f (ps.getD i 0 : Nat)).last = (if i + 1 = ps.length then pv ps i else f.last) ∧ (takeF f (ps.getD i 0 : Nat)).tk = f.tk ∧ (takeF f (ps.getD i 0 : Nat)).wh = adel f.wh (qd q i).1 := by
  obtain ⟨hon, hv⟩ := h.lk i hi
  have hpm := gd_mem hi
  have hpl := h.cov _ (.inl hpm)
  have hP := pv_or h hi
  have hN := nv_or h hi
  have hother : ∀ j, j < ps.length → j ≠ i → ps.getD j 0 ≠ ps.getD i 0 := fun j hj hne e => hne (nd_ne h.nd hj hi e)
  generalize hp : ps.getD i 0 = p at *
  obtain ⟨F2, hF2⟩ : ∃ F2 : Fq, F2 = { f with a := dropA f.a (p : Int), wh := adel f.wh (getA f.a (p : Int)).tk } := ⟨_, rfl⟩
  have e2 : takeF f (p : Int) = joinF F2 (pv ps i) (nv ps i) := by rw [hF2]; unfold takeF; rw [getA_on hpl hon, hv]
  have ga : F2.a = { f.a with sl := f.a.sl.set p ⟨default, false, f.a.free⟩, free := (p : Int) + 1, n := f.a.n - 1 } := by rw [hF2, dropA_on hpl hon]
  have gw : F2.wh = adel f.wh (qd q i).1 := by rw [hF2, getA_on hpl hon, hv]
  have gf : F2.first = f.first := by rw [hF2]
  have gl : F2.last = f.last := by rw [hF2]
  have gt : F2.tk = f.tk := by rw [hF2]
  have gs : F2.a.sl = f.a.sl.set p ⟨default, false, f.a.free⟩ := by rw [ga]
  have gl0 : F2.a.sl.length = f.a.sl.length := by rw [gs, List.length_set]
  have gp : sN F2.a.sl p = ⟨default, false, f.a.free⟩ := by rw [gs, sN_set hpl, if_pos rfl]
  have gr : ∀ r, r ≠ p → sN F2.a.sl r = sN f.a.sl r := fun r hr => by rw [gs, sN_set hpl, if_neg (fun e => hr e.symm)]
  have gfr : F2.a.free = (p : Int) + 1 := by rw [ga]
  have gn : F2.a.n = f.a.n - 1 := by rw [ga]
  have gm : F2.a.most = f.a.most := by rw [ga]
  clear ga gs hF2
  rw [e2]
  rcases hP with ⟨e3, hi0⟩ | ⟨x, e3, hi0, hx⟩
  · rcases hN with ⟨e4, hi1⟩ | ⟨y, e4, hi1, hy⟩
    · rw [e3, e4, joinF_00]
      exact ⟨gl0, gp, fun r hr => by rw [reN_no om om]; exact gr r hr, gfr, gn, gm, by rw [if_pos hi0], by rw [if_pos hi1], gt, gw⟩
    · have hyp : y ≠ p := hy ▸ hother (i + 1) hi1 om
      have hyl : y < F2.a.sl.length := by rw [gl0]; exact h.cov y (.inl (hy ▸ gd_mem hi1))
      have hyo : (sN F2.a.sl y).on = true := by rw [gr y hyp, hy]; exact (h.lk (i + 1) hi1).1
      rw [e3, e4, joinF_0n hyl hyo]
      refine ⟨by show (List.set _ _ _).length = _; rw [List.length_set]; exact gl0, ?_, fun r hr => ?_, gfr, gn, gm, by rw [if_pos hi0], by rw [if_neg om]; exact gl, gt, gw⟩
      · show sN (List.set _ _ _) p = _; rw [sN_set hyl, if_neg hyp]; exact gp
      · show sN (List.set _ _ _) r = _
        rw [sN_set hyl]
        by_cases e : y = r
        · subst e; rw [if_pos rfl, gr y hr]; exact (reN_y om rfl).symm
        · rw [if_neg e, gr r hr, reN_no om om]
  · have hxp : x ≠ p := hx ▸ hother (i - 1) om om
    have hxl : x < F2.a.sl.length := by rw [gl0]; exact h.cov x (.inl (hx ▸ gd_mem om))
    have hxo : (sN F2.a.sl x).on = true := by rw [gr x hxp, hx]; exact (h.lk (i - 1) om).1
    rcases hN with ⟨e4, hi1⟩ | ⟨y, e4, hi1, hy⟩
    · rw [e3, e4, joinF_n0 hxl hxo]
      refine ⟨by show (List.set _ _ _).length = _; rw [List.length_set]; exact gl0, ?_, fun r hr => ?_, gfr, gn, gm, by rw [if_neg om]; exact gf, by rw [if_pos hi1], gt, gw⟩
      · show sN (List.set _ _ _) p = _; rw [sN_set hxl, if_neg hxp]; exact gp
      · show sN (List.set _ _ _) r = _
        rw [sN_set hxl]
        by_cases e : x = r
        · subst e; rw [if_pos rfl, gr x hr]; exact (reN_x rfl om).symm
        · rw [if_neg e, gr r hr, reN_no om om]
    · have hyp : y ≠ p := hy ▸ hother (i + 1) hi1 om
      have hyl : y < F2.a.sl.length := by rw [gl0]; exact h.cov y (.inl (hy ▸ gd_mem hi1))
      have hyo : (sN F2.a.sl y).on = true := by rw [gr y hyp, hy]; exact (h.lk (i + 1) hi1).1
      have hxy : x ≠ y := fun e => by rw [hx, hy] at e; have := nd_ne h.nd om hi1 e; omega
      rw [e3, e4, joinF_nn hxl hxo hyl hyo hxy]
      have hyl2 : ∀ z, y < (F2.a.sl.set x z).length := fun z => by rw [List.length_set]; exact hyl
      refine ⟨by show (List.set _ _ _).length = _; rw [List.length_set, List.length_set]; exact gl0, ?_, fun r hr => ?_, gfr, gn, gm, by rw [if_neg om]; exact gf, by rw [if_neg om]; exact gl, gt, gw⟩
      · show sN (List.set _ _ _) p = _; rw [sN_set (hyl2 _), if_neg hyp, sN_set hxl, if_neg hxp]; exact gp
      · show sN (List.set _ _ _) r = _
        rw [sN_set (hyl2 _), sN_set hxl]
        by_cases e : y = r
        · subst e; rw [if_pos rfl, gr y hr]; exact (reN_y om rfl).symm
        · rw [if_neg e]
          by_cases e5 : x = r
          · subst e5; rw [if_pos rfl, gr x hr]; exact (reN_x rfl om).symm
          · rw [if_neg e5, gr r hr, reN_no om om]
theorem mem_erase_gd {ps : List Nat} {i : Nat} (hi : i < ps.length) (h : ps.Nodup) (r : Nat) : r ∈ ps.eraseIdx i ↔ r ∈ ps ∧ r ≠ ps.getD i 0 := by
  have e : ps = ps.take i ++ ps.getD i 0 :: ps.drop (i + 1) := by
    have h1 : ps.drop i = ps.getD i 0 :: ps.drop (i + 1) := by
      rw [List.drop_eq_getElem_cons hi, List.getD_eq_getElem?_getD, List.getElem?_eq_getElem hi]; rfl
    rw [← h1, List.take_append_drop]
  have e2 : ps.eraseIdx i = ps.take i ++ ps.drop (i + 1) := List.eraseIdx_eq_take_drop_succ ..
  rw [e] at h
  obtain ⟨h1, h2, h3⟩ := List.nodup_append.1 h
  obtain ⟨h4, h5⟩ := List.nodup_cons.1 h2
  rw [e2]
  constructor
  · intro hr
    rcases List.mem_append.1 hr with q | q
    · exact ⟨List.mem_of_mem_take q, fun z => h3 r q _ (List.mem_cons_self ..) z⟩
    · exact ⟨List.mem_of_mem_drop q, fun z => h4 (z ▸ q)⟩
  · rintro ⟨hr, hne⟩
    rw [e] at hr
    rcases List.mem_append.1 hr with q | q
    · exact List.mem_append_left _ q
    · rcases List.mem_cons.1 q with z | z
      · exact absurd z hne
      · exact List.mem_append_right _ z
theorem take_ok {most : Int} {f : Fq} {q : List (Int × Wt)} {ps F : List Nat} (h : FqR most f q ps F) {i : Nat} (hi : i < ps.length) :
    FqR most (takeF f (ps.getD i 0 : Nat)) (q.eraseIdx i) (ps.eraseIdx i) (ps.getD i 0 :: F) := by
  obtain ⟨hl, hp, hr, hfr, hn, hma, hfi, hla, htk, hwh⟩ := take_raw h hi
  have hlq := h.lq
  have hnd := List.nodup_append.1 h.nd
  have hle : (ps.eraseIdx i).length = ps.length - 1 := by rw [List.length_eraseIdx, if_pos hi]
  have hqe : (q.eraseIdx i).length = q.length - 1 := by rw [List.length_eraseIdx, if_pos om]
  have hpm := gd_mem hi
  have hmem := mem_erase_gd hi hnd.1
  have hpF : ps.getD i 0 ∉ F := fun z => hnd.2.2 _ hpm _ z rfl
  have hinc : ∀ j, j < q.length → j ≠ i → (qd q j).1 ≠ (qd q i).1 := fun j hj hne => by
    rcases Nat.lt_or_ge j i with z | z
    · have := h.inc j i z om; omega
    · have := h.inc i j om hj; omega
  constructor
  case mst => rw [hma]; exact h.mst
  case lq => rw [hle, hqe, hlq]
  case nd =>
    refine List.nodup_append.2 ⟨List.Sublist.nodup (List.eraseIdx_sublist ..) hnd.1, List.nodup_cons.2 ⟨hpF, hnd.2.1⟩, fun r hr s hs e => ?_⟩
    obtain ⟨h1, h2⟩ := (hmem r).1 hr
    rcases List.mem_cons.1 hs with z | z
    · exact h2 (e.trans z)
    · exact hnd.2.2 r h1 s z e
  case len => rw [hl, h.len, hle, List.length_cons]; omega
  case cov =>
    intro r hr
    rw [hl]
    rcases hr with hr | hr
    · exact h.cov r (.inl ((hmem r).1 hr).1)
    · rcases List.mem_cons.1 hr with z | z
      · rw [z]; exact h.cov _ (.inl hpm)
      · exact h.cov r (.inr z)
  case lk =>
    intro j hj
    rw [hle] at hj
    -- the place that was at j or behind it
    obtain ⟨j', hj', hjl, hji, hq'⟩ : ∃ j', (ps.eraseIdx i).getD j 0 = ps.getD j' 0 ∧ j' < ps.length ∧ j' ≠ i ∧ (j < i ∧ j' = j ∨ i ≤ j ∧ j' = j + 1) := by
      rw [gd_erase]
      by_cases z : j < i
      · rw [if_pos z]; exact ⟨j, rfl, by omega, by omega, .inl ⟨z, rfl⟩⟩
      · rw [if_neg z]; exact ⟨j + 1, rfl, by omega, by omega, .inr ⟨by omega, rfl⟩⟩
    have hqj : qd (q.eraseIdx i) j = qd q j' := by
      rw [qd_erase]
      rcases hq' with ⟨z, e⟩ | ⟨z, e⟩
      · rw [if_pos z, e]
      · rw [if_neg om, e]
    obtain ⟨h1, h2⟩ := h.lk j' hjl
    have hne : ps.getD j' 0 ≠ ps.getD i 0 := fun e => hji (nd_ne h.nd hjl hi e)
    rw [hj', hqj, hr _ hne]
    -- is it a neighbour?
    have c1 : ((ps.getD j' 0 : Nat) : Int) = pv ps i ↔ j' + 1 = i := by
      unfold pv
      by_cases z : i = 0
      · rw [if_pos z]; constructor <;> intro y <;> omega
      · rw [if_neg z]
        constructor
        · intro y; have := nd_ne h.nd hjl (by omega : i - 1 < ps.length) om; omega
        · intro y; rw [show i - 1 = j' by omega]
    have c2 : ((ps.getD j' 0 : Nat) : Int) = nv ps i ↔ j' = i + 1 := by
      unfold nv
      by_cases z : i + 1 < ps.length
      · rw [if_pos z]
        constructor
        · intro y; exact nd_ne h.nd hjl z om
        · intro y; rw [y]
      · rw [if_neg z]; constructor <;> intro y <;> omega
    have n1 : nv (ps.eraseIdx i) j = if j' + 1 = i then nv ps i else nv ps j' := by
      unfold nv
      rw [hle]
      rcases hq' with ⟨z, e⟩ | ⟨z, e⟩
      · subst e
        by_cases y : j' + 1 = i
        · rw [if_pos y]
          by_cases u : i + 1 < ps.length
          · rw [if_pos om, if_pos u, gd_erase, if_neg om, y]
          · rw [if_neg om, if_neg u]
        · rw [if_neg y, if_pos om, if_pos om, gd_erase, if_pos om]
      · subst e
        rw [if_neg (by omega : ¬ j + 1 + 1 = i)]
        by_cases u : j + 1 + 1 < ps.length
        · rw [if_pos om, if_pos u, gd_erase, if_neg om]
        · rw [if_neg om, if_neg u]
    have p1 : pv (ps.eraseIdx i) j = if j' = i + 1 then pv ps i else pv ps j' := by
      unfold pv
      rcases hq' with ⟨z, e⟩ | ⟨z, e⟩
      · subst e
        rw [if_neg (by omega : ¬ j' = i + 1)]
        by_cases u : j' = 0
        · rw [if_pos u, if_pos u]
        · rw [if_neg u, if_neg u, gd_erase, if_pos om]
      · subst e
        by_cases y : j = i
        · subst y
          rw [if_pos (by omega : j + 1 = j + 1)]
          by_cases u : j = 0
          · rw [if_pos u, if_pos u]
          · rw [if_neg u, if_neg u, gd_erase, if_pos om]
        · rw [if_neg (by omega : ¬ j + 1 = i + 1), if_neg om, if_neg om, gd_erase, if_neg om, show j - 1 + 1 = j + 1 - 1 by omega]
    unfold reN
    refine ⟨h1, ?_⟩
    simp only [h2, n1, p1]
    congr 1
    · by_cases z : j' = i + 1
      · rw [if_pos (c2.2 z), if_pos z]
      · rw [if_neg (fun y => z (c2.1 y)), if_neg z]
    · by_cases z : j' + 1 = i
      · rw [if_pos (c1.2 z), if_pos z]
      · rw [if_neg (fun y => z (c1.1 y)), if_neg z]
  case ch =>
    refine ⟨hfr, by rw [hp], ?_⟩
    rw [hp]
    refine h.ch.cong (fun r hrF => ?_)
    have hrp : r ≠ ps.getD i 0 := fun e => hpF (e ▸ hrF)
    rw [hr r hrp]
    refine reN_no (fun e => ?_) (fun e => ?_)
    · rcases pv_or h hi with ⟨z, _⟩ | ⟨x, z, z2, z3⟩
      · rw [z] at e; omega
      · rw [z] at e; exact hnd.2.2 _ (gd_mem (by omega : i - 1 < ps.length)) r hrF om
    · rcases nv_or h hi with ⟨z, _⟩ | ⟨x, z, z2, z3⟩
      · rw [z] at e; omega
      · rw [z] at e; exact hnd.2.2 _ (gd_mem z2) r hrF om
  case n => rw [hn, h.n, hle]; omega
  case le => rw [hl]; exact h.le
  case first =>
    rw [hfi, hle, gd_erase, h.first, if_neg (by omega : ¬ ps.length = 0)]
    by_cases z : i = 0
    · subst z
      rw [if_pos rfl, if_neg (by omega : ¬ 0 < 0)]
      unfold nv
      by_cases u : 0 + 1 < ps.length
      · rw [if_pos u, if_neg om]
      · rw [if_neg u, if_pos om]
    · rw [if_neg z, if_neg om, if_pos om]
  case last =>
    rw [hla, hle, gd_erase, h.last, if_neg (by omega : ¬ ps.length = 0)]
    by_cases z : i + 1 = ps.length
    · rw [if_pos z]
      unfold pv
      by_cases u : i = 0
      · rw [if_pos u, if_pos om]
      · rw [if_neg u, if_neg om, if_pos om, show ps.length - 1 - 1 = i - 1 by omega]
    · rw [if_neg z, if_neg om, if_neg om, show ps.length - 1 - 1 + 1 = ps.length - 1 by omega]
  case tk0 => rw [htk]; exact h.tk0
  case tk =>
    intro j hj
    rw [htk, qd_erase]
    split
    · exact h.tk _ om
    · exact h.tk _ om
  case inc =>
    intro a b hab hb
    rw [qd_erase, qd_erase]
    by_cases z : a < i
    · rw [if_pos z]
      by_cases y : b < i
      · rw [if_pos y]; exact h.inc _ _ hab om
      · rw [if_neg y]; exact h.inc _ _ om om
    · rw [if_neg z, if_neg om]; exact h.inc _ _ om om
  case wk => rw [hwh]; exact adelN' h.wk
  case wh =>
    intro j hj
    rw [hwh, aget_adel' h.wk, qd_erase, gd_erase]
    split
    · rw [if_neg (hinc j om om)]; exact h.wh j om
    · rw [if_neg (hinc (j + 1) om om)]; exact h.wh (j + 1) om
  case wn =>
    intro t ht
    rw [hwh, aget_adel' h.wk]
    by_cases e : t = (qd q i).1
    · rw [if_pos e]
    · rw [if_neg e]
      refine h.wn t (fun j hj => ?_)
      by_cases z : j = i
      · rw [z]; exact fun y => e y.symm
      · rcases Nat.lt_or_ge j i with y | y
        · have := ht j om; rwa [qd_erase, if_pos y] at this
        · have := ht (j - 1) om; rwa [qd_erase, if_neg om, show j - 1 + 1 = j by omega] at this
end Go.Eng
namespace Go.Eng
open Go Go.Proofs Go.RowKit
abbrev inn (m : Mem0) (k : Nat) (x : Mem0) : Prop := ∀ p ∈ x, k ≤ p.1 ∨ ∃ q ∈ m, q.1 = p.1
theorem inn_refl (m : Mem0) (k : Nat) : inn m k m := fun p hp => .inr ⟨p, hp, rfl⟩
theorem inn_trans {m x y : Mem0} {k : Nat} (h : inn m k x) (h2 : inn x k y) : inn m k y := fun p hp => by
  rcases h2 p hp with q | ⟨q, hq, e⟩
  · exact .inl q
  · rw [← e]; exact h q hq
theorem inn_S {m x y : Mem0} {k : Nat} (h : inn x k y) (hs : ∀ p ∈ x, inM m p.1) : ∀ p ∈ y, p.1 < k → inM m p.1 := fun p hp hlt => by
  rcases h p hp with q | ⟨q, hq, e⟩
  · omega
  · rw [← e]; exact hs q hq
theorem inM_0 {b : Nat} {o : Obj} {m : Mem0} : inM ((b, o) :: m) b := ⟨_, List.mem_cons_self .., rfl⟩
theorem inM_1 {b : Nat} {o : Obj} {p : Nat × Obj} {m : Mem0} : inM (p :: (b, o) :: m) b := ⟨_, List.mem_cons_of_mem _ (List.mem_cons_self ..), rfl⟩
theorem upd_m {m m' M : Mem0} {T : Value → Mem0 → Prop} {u : Value} {w w' : World} (hT : T u m') (hm : Mem w' M) (hs : SubM M (m' ++ [])) (hc : Chg (inM m) w w') (hin : inn m w.heap.size m') : Upd m T w u w' := by
  rw [List.append_nil] at hs
  exact ⟨hc, m', hT, hs.mem w' hm, hin⟩
theorem inM_in {m : Mem0} : ∀ p ∈ m, inM m p.1 := fun p hp => ⟨p, hp, rfl⟩
def fLk (x : Lk) : List Value := [.int .i64 x.v.who, .int .i64 x.v.key, U x.v.til, .int .i64 x.tk, .int .i64 x.prev, .int .i64 x.next]
def fSt (s : St) : List Value := [.int .i64 s.v.v.who, .int .i64 s.v.v.key, U s.v.v.til, .int .i64 s.v.tk, .int .i64 s.v.prev, .int .i64 s.v.next, .bool s.on, .int .i64 s.nx]
abbrev arC (b : Nat) (most : Int) (ad : Option Addr) (n cap : Nat) (free cnt : Int) : Nat × Obj := (b, .cells #[.int .i64 most, .slice ad n cap, .int .i64 free, .int .i64 cnt] 190 (0, 0))
def ArM (n0 b : Nat) (a : Ar) (m : Mem0) : Prop := AWf a ∧ ∃ (ad : Option Addr) (n cap : Nat) (ms : Mem0), m = arC b a.most ad n cap a.free a.n :: ms ∧ n = a.sl.length ∧ Sl fSt 200 8 n0 a.sl (.slice ad n cap) ms ∧ n0 ≤ b
theorem isA_lt {a : Ar} {p : Int} (h : p < 0) : isA a p = false := by unfold isA; rw [decide_eq_false om]; rfl
theorem isA_ge {a : Ar} {p : Int} (h : ¬ p < a.sl.length) : isA a p = false := by unfold isA; rw [decide_eq_false om]; rfl
theorem isA_in {a : Ar} {i : Nat} (h : i < a.sl.length) : isA a (i : Int) = (sN a.sl i).on := by unfold isA; rw [decide_eq_true om, Bool.true_and]; rfl
theorem arIs_spec {n0 b : Nat} {a : Ar} {m : Mem0} (p : Int) (w : World) (h : ArM n0 b a m) (hM : Mem w m) : Ret Tryz.prog 168 #[.pointer (some ⟨b, 0, none⟩), .int .i64 p] w (fun u w' => u = .bool (isA a p) ∧ Ext w w') := by
 obtain ⟨hw, ad, n, cap, ms, rfl, hn, hs, hb⟩ := h; have hlen := hw.len
 refine Ret.enterM Tryz.func168 rfl Tryz.ntmps168 rfl (arC b a.most ad n cap a.free a.n :: (ms ++ [])) (no) aM ?_
 refine wR <| LM.as rfl <| nB [(0, _), (1, _)] <| LM.mv rfl ?_
 refine LM.val (ov_pneq kr rfl rfl) ?_
 refine LM.mv rfl <| LM.sp 7 rfl rfl rfl <| LM.mv rfl <| LM.sp 7 rfl rfl rfl <| LM.val (ov_geq rfl rfl) <| LM.val (ov_pickT rfl rfl) <| LM.mv rfl ?_
 refine LM.splitD (t := 11) rfl (fun h1 => ?_) (fun h1 => ?_)
 ·
  refine LM.sp 11 rfl rfl rfl <| LM.mv rfl <| LM.sp 11 rfl rfl rfl <| LM.mv rfl <| LM.sp 11 rfl rfl rfl <| LM.nc rfl <| LM.sp 11 rfl rfl rfl <| LM.val (ovf 188 rfl rfl rfl rfl) <| LM.sp 11 rfl rfl rfl ?_
  refine LM.rd (oml rfl rfl rfl) ?_
  refine LM.sp 11 rfl rfl rfl <| LM.val (ov_len Tryz.underlying188 rfl) <| LM.sp 11 rfl rfl rfl <| LM.val (ov_lss rfl rfl) <| LM.val (ov_pickT rfl rfl) <| LM.mv rfl ?_
  refine LM.splitD (t := 20) rfl (fun h2 => ?_) (fun h2 => ?_)
  ·
   obtain ⟨i, rfl⟩ : ∃ i : Nat, p = i := ⟨p.toNat, by omega⟩; have hi : i < a.sl.length := om
   refine LM.sp 20 rfl rfl rfl <| LM.mv rfl <| LM.sp 20 rfl rfl rfl <| LM.nc rfl <| LM.sp 20 rfl rfl rfl <| LM.val (ovf 188 rfl rfl rfl rfl) <| LM.sp 20 rfl rfl rfl ?_
   refine LM.rd (oml rfl rfl rfl) ?_
   refine LM.sp 20 rfl rfl rfl <| LM.mv rfl <| LM.sp 20 rfl rfl rfl ?_
   refine LM.val (ov_idxSN au6 Tryz.underlying188 Tryz.sizeOf200 rfl rfl om) ?_
   refine LM.sp 20 rfl rfl rfl <| LM.val (ovf 4 rfl rfl rfl rfl) <| LM.sp 20 rfl rfl rfl ?_
   refine LM.rd (om_slE (j := 6) asm ir Tryz.isAgg4 rfl rfl au3 rfl (by rfl)) ?_
   refine LM.val (ov_pickT rfl rfl) <| LM.as rfl <| nA [(4, _)] <| wpM.ret ?_
   refine qL Tryz.results168 rfl fun w' hm' hc' hg' => ?_
   rw [isA_in hi]; exact ⟨rfl, hc'⟩
  refine LM.dr 20 rfl rfl rfl <| LM.dr 20 rfl rfl rfl <| LM.dr 20 rfl rfl rfl <| LM.dr 20 rfl rfl rfl <| LM.dr 20 rfl rfl rfl <| LM.dr 20 rfl rfl rfl <| LM.dr 20 rfl rfl rfl <| LM.dr 20 rfl rfl rfl <| LM.val (ov_pickF rfl rfl) <| LM.as rfl <| nA [(4, _)] <| wpM.ret ?_
  refine qL Tryz.results168 rfl fun w' hm' hc' hg' => ?_
  rw [isA_ge om]; exact ⟨rfl, hc'⟩
 refine LM.dr 11 rfl rfl rfl <| LM.dr 11 rfl rfl rfl <| LM.dr 11 rfl rfl rfl <| LM.dr 11 rfl rfl rfl <| LM.dr 11 rfl rfl rfl <| LM.dr 11 rfl rfl rfl <| LM.dr 11 rfl rfl rfl <| LM.val (ov_pickF rfl rfl) <| LM.mv rfl <| LM.dr 20 rfl rfl rfl <| LM.dr 20 rfl rfl rfl <| LM.dr 20 rfl rfl rfl <| LM.dr 20 rfl rfl rfl <| LM.dr 20 rfl rfl rfl <| LM.dr 20 rfl rfl rfl <| LM.dr 20 rfl rfl rfl <| LM.dr 20 rfl rfl rfl <| LM.val (ov_pickF rfl rfl) <| LM.as rfl <| nA [(4, _)] <| wpM.ret ?_
 refine qL Tryz.results168 rfl fun w' hm' hc' hg' => ?_
 rw [isA_lt om]; exact ⟨rfl, hc'⟩
theorem getA_in {a : Ar} {i : Nat} (h : i < a.sl.length) (ho : isA a (i : Int) = true) : getA a (i : Int) = (a.sl.getD i default).v := by unfold getA; rw [if_pos ho]; rfl
theorem getA_no {a : Ar} {p : Int} (ho : isA a p = false) : getA a p = default := by unfold getA; rw [if_neg (by rw [ho]; simp)]
theorem ArM.mono {n0 n1 b : Nat} {a : Ar} {m : Mem0} (h : ArM n0 b a m) (hn : n1 ≤ n0) : ArM n1 b a m := by
  obtain ⟨hw, ad, n, cap, ms, rfl, hnn, hs, hb⟩ := h
  exact ⟨hw, ad, n, cap, ms, rfl, hnn, hs.mono hn, Nat.le_trans hn hb⟩
theorem ArM.ge {n0 b : Nat} {a : Ar} {m : Mem0} (h : ArM n0 b a m) : ∀ p ∈ m, n0 ≤ p.1 := by
  obtain ⟨hw, ad, n, cap, ms, rfl, hnn, hs, hb⟩ := h
  intro p hp
  rcases List.mem_cons.1 hp with rfl | hp
  · exact hb
  · exact hs.ge p hp
theorem ArM.wlk {n0 b : Nat} {a : Ar} {m : Mem0} (h : ArM n0 b a m) : ∀ p ∈ m, wlk p.2 = false := by
  obtain ⟨hw, ad, n, cap, ms, rfl, hnn, hs, hb⟩ := h
  intro p hp
  rcases List.mem_cons.1 hp with rfl | hp
  · rfl
  · exact hs.wlk p hp
def newAr (k : Int) : Ar := ⟨if k < 0 then 0 else if 4096 < k then 4096 else k, [], 0, 0⟩
theorem newAr_wf (k : Int) : AWf (newAr k) := by
  refine ⟨by show (0 : Nat) ≤ 4096; decide, ?_, by show (0 : Int) ≤ 0 ∧ (0 : Int) ≤ 4096; decide, by show (0 : Int) ≤ 0 ∧ (0 : Int) ≤ ((0 : Nat) : Int); decide⟩
  show 0 ≤ (if k < 0 then (0 : Int) else if 4096 < k then 4096 else k) ∧ (if k < 0 then (0 : Int) else if 4096 < k then 4096 else k) ≤ 4096
  split
  · omega
  · split <;> omega
theorem newAr_most (k : Int) : (if (4096 : Int) < (if 0 > k then 0 else k) then 4096 else (if 0 > k then 0 else k)) = (newAr k).most := by
  show _ = (if k < 0 then (0 : Int) else if 4096 < k then 4096 else k)
  (repeat' split) <;> omega
def ArN (k : Int) (n0 : Nat) (v : Value) (m : Mem0) : Prop := ∃ b, v = .pointer (some ⟨b, 0, none⟩) ∧ ArM n0 b (newAr k) m
theorem ArN.mono {k : Int} : ∀ (n n' : Nat) (v : Value) (m : Mem0), n' ≤ n → ArN k n v m → ArN k n' v m := fun n n' v m hn ⟨b, h1, h⟩ => ⟨b, h1, h.mono hn⟩
theorem arnew_spec (k : Int) (w : World) : Ret Tryz.prog 160 #[.int .i64 k] w (fun v w' => Ext w w' ∧ ∃ m, ArN k w.heap.size v m ∧ Mem w' m ∧ ∀ p ∈ m, w.heap.size ≤ p.1) := by
 refine Ret.enterM Tryz.func160 rfl Tryz.ntmps160 rfl ([]) (no) (Mem.nil w) ?_
 refine wR <| LM.as rfl <| nB [(0, _)] <| LM.mv rfl ?_
 refine LM.val (ov_max rfl rfl) ?_
 refine LM.val (ov_min rfl rfl) ?_
 rw [newAr_most]
 refine LM.val (ov_build (cs := #[_, _, _, _]) rfl (by first | rfl | kernel_rfl)) ?_
 refine LM.box rfl rfl (fun b7 hb7 => ?_)
 refine LM.as rfl <| nA [(2, _)] <| wpM.ret ?_
 refine qL Tryz.results160 rfl fun w' hm' hc' hg' => ?_
 exact ⟨hc', _, ⟨b7, rfl, newAr_wf k, none, 0, 0, [], rfl, rfl, .nil _ _ _ _, hb7⟩, (SubM.mem (by (repeat' (first | exact SubM.all _ | refine SubM.cons rfl ?_ | exact SubM.nil _)))) w' hm', fun p hp => by simp only [List.mem_cons, List.not_mem_nil, or_false] at hp; subst hp; assumption⟩
theorem arLen_spec {n0 b : Nat} {a : Ar} {m : Mem0} (w : World) (h : ArM n0 b a m) (hM : Mem w m) : Ret Tryz.prog 139 #[.pointer (some ⟨b, 0, none⟩)] w (fun u w' => u = .int .i64 a.n ∧ Ext w w') := by
 obtain ⟨hw, ad, n, cap, ms, rfl, hn, hs, hb⟩ := h
 refine Ret.enterM Tryz.func139 rfl Tryz.ntmps139 rfl (arC b a.most ad n cap a.free a.n :: (ms ++ [])) (no) aM ?_
 refine wR <| LM.as rfl <| nA [(0, _)] <| wpM.seq <| wR <| LM.mv rfl ?_
 refine LM.val (ov_peql kr rfl rfl) ?_
 refine nA [(0, _), (4, _)] ?_
 refine wpM.condF rfl ?_
 refine wpM.skip <| tR <| LM.mv rfl <| LM.nc rfl <| LM.val (ovf 3 rfl rfl rfl rfl) ?_
 refine LM.rd (oml rfl rfl rfl) ?_
 refine LM.as rfl <| nA [(2, _)] <| wpM.ret ?_
 refine qL Tryz.results139 rfl fun w' hm' hc' hg' => ?_
 exact ⟨rfl, hc'⟩
theorem arGet_spec {n0 b : Nat} {a : Ar} {m : Mem0} (p : Int) (w : World) (h : ArM n0 b a m) (hM : Mem w m) : Ret Tryz.prog 149 #[.pointer (some ⟨b, 0, none⟩), .int .i64 p] w (fun u w' => u = .tuple #[.agg (fLk (getA a p)).toArray, .bool (isA a p)] ∧ Ext w w') := by
 have hA := h; obtain ⟨hw, ad, n, cap, ms, rfl, hn, hs, hb⟩ := h; have hlen := hw.len
 refine Ret.enterM Tryz.func149 rfl Tryz.ntmps149 rfl (arC b a.most ad n cap a.free a.n :: (ms ++ [])) (no) aM ?_
 refine wR ?_
 refine LM.alloc Tryz.zeroValue172 rfl (fun b4 hb4 => ?_)
 refine LM.as rfl <| nA [(0, _), (1, _), (4, _)] <| wpM.seq <| wR <| LM.mv rfl <| LM.mv rfl ?_
 refine cE Tryz.func168 rfl (fun w hm hc hg => arIs_spec p w hA (by have h9 := hm.pick (arC b a.most ad n cap a.free a.n :: (ms ++ [])); rw [List.append_nil] at h9; exact h9)) ?_
 first | refine LM.val (ov_notD rfl) ?_ | refine LM.val (ov_not rfl) ?_
 refine nA [(0, _), (1, _), (4, _), (10, _)] ?_
 first | refine wpM.condD rfl (fun h1 => ?_) (fun h1 => ?_) | refine wpM.condB rfl (fun h1 => ?_) (fun h1 => ?_)
 ·
  refine wR ?_
  refine LM.alloc Tryz.zeroValue172 rfl (fun b6 hb6 => ?_)
  refine nB [(4, _), (6, _)] ?_
  refine LM.rd (om_ldW Tryz.isAgg172 Tryz.sizeOf172 rfl rfl) ?_
  refine LM.stW Tryz.sizeOf172 rfl rfl rfl rfl au7 auH ?_
  refine LM.as rfl <| nA [(4, _), (5, _)] <| wpM.ret <| QM.then_ret ?_
  refine QM.leaveCs (ds := ([])) (.inl rfl) [.cell 4 172, .tmp 5] Tryz.results149 hd_nil (rc_w rfl Tryz.isAgg172 Tryz.sizeOf172 rfl (rc_tmp rfl rc_nil)) ?_
  intro w' hm' hc'
  have hoff : isA a p = false := (by simpa using h1); rw [getA_no hoff, hoff]; exact ⟨rfl, hc'⟩
 have hon : isA a p = true := (by simpa using h1); have hpos := isA_iff.1 hon; obtain ⟨i, rfl⟩ : ∃ i : Nat, p = i := ⟨p.toNat, by omega⟩; have hi : i < a.sl.length := om
 refine wpM.skip <| tR <| LM.mv rfl <| LM.nc rfl <| LM.val (ovf 188 rfl rfl rfl rfl) ?_
 refine LM.rd (oml rfl rfl rfl) ?_
 refine LM.mv rfl ?_
 refine LM.val (ov_idxSN au6 Tryz.underlying188 Tryz.sizeOf200 rfl rfl om) ?_
 refine LM.val (ovf 172 rfl rfl rfl rfl) ?_
 refine LM.rd (om_slP (j := 0) (vs := [_, _, _, _, _, _]) asm ir Tryz.isAgg172 Tryz.sizeOf172 rfl rfl au3 (by decide) rfl rfl) ?_
 refine LM.stW Tryz.sizeOf172 rfl rfl rfl rfl au7 auH ?_
 refine LM.as rfl <| nA [(4, _), (5, _)] <| wpM.ret ?_
 refine QM.leaveCs (ds := ([])) (.inl rfl) [.cell 4 172, .tmp 5] Tryz.results149 hd_nil (rc_w rfl Tryz.isAgg172 Tryz.sizeOf172 rfl (rc_tmp rfl rc_nil)) ?_
 intro w' hm' hc'
 rw [getA_in hi hon, hon]; exact ⟨rfl, hc'⟩
theorem arm_leaf {n0 b n n' cap cap' : Nat} {ad ad' : Option Addr} {a' : Ar} {most free cnt : Int} {ms ms' M : Mem0} {u0 : Value} {w w' : World} (hw : AWf a') (hn' : n' = a'.sl.length) (hs' : Sl fSt 200 8 n0 a'.sl (.slice ad' n' cap') ms') (hb : n0 ≤ b) (hm : Mem w' M)
    (hs : SubM M (arC b a'.most ad' n' cap' a'.free a'.n :: (ms' ++ []))) (hc : Chg (inM (arC b most ad n cap free cnt :: ms)) w w') (hin : inn ms w.heap.size ms') :
    Upd (arC b most ad n cap free cnt :: ms) (fun u m' => u = u0 ∧ ArM n0 b a' m') w u0 w' := by
  rw [List.append_nil] at hs
  refine ⟨hc, _, ⟨rfl, hw, ad', n', cap', ms', rfl, hn', hs', hb⟩, hs.mem w' hm, fun p hp => ?_⟩
  rcases List.mem_cons.1 hp with rfl | hp
  · exact .inr ⟨_, List.mem_cons_self .., rfl⟩
  · rcases hin p hp with q | ⟨q, hq, e⟩
    · exact .inl q
    · exact .inr ⟨q, List.mem_cons_of_mem _ hq, e⟩
theorem setA_wf {a : Ar} (h : AWf a) (p : Int) (v : Lk) : AWf (setA a p v) := by
  unfold setA; split
  · exact ⟨by show (List.set _ _ _).length ≤ _; rw [List.length_set]; exact h.len, h.most, h.n, by show 0 ≤ a.free ∧ a.free ≤ ((List.set _ _ _).length : Int); rw [List.length_set]; exact h.free⟩
  · exact h
theorem inn_of {m x : Mem0} {k : Nat} (h : ∀ p ∈ x, ∃ q ∈ m, q.1 = p.1) : inn m k x := fun p hp => .inr (h p hp)
theorem arSet_spec {n0 b : Nat} {a : Ar} {m : Mem0} (p : Int) (v : Lk) (w : World) (h : ArM n0 b a m) (hM : Mem w m) : Ret Tryz.prog 169 #[.pointer (some ⟨b, 0, none⟩), .int .i64 p, .agg (fLk v).toArray] w (Upd m (fun u m' => u = .bool (isA a p) ∧ ArM n0 b (setA a p v) m') w) := by
 have hA := h; obtain ⟨hw, ad, n, cap, ms, rfl, hn, hs, hb⟩ := h; have hlen := hw.len
 refine Ret.enterM Tryz.func169 rfl Tryz.ntmps169 rfl (arC b a.most ad n cap a.free a.n :: (ms ++ [])) ((inM (arC b a.most ad n cap a.free a.n :: ms))) aM ?_
 refine wR ?_
 refine LM.box rfl rfl (fun b5 hb5 => ?_)
 refine LM.as rfl <| nA [(0, _), (1, _), (5, _)] <| wpM.seq <| wR <| LM.mv rfl <| LM.mv rfl ?_
 refine cE Tryz.func168 rfl (fun w hm hc hg => arIs_spec p w hA (by have h9 := hm.pick (arC b a.most ad n cap a.free a.n :: (ms ++ [])); rw [List.append_nil] at h9; exact h9)) ?_
 first | refine LM.val (ov_notD rfl) ?_ | refine LM.val (ov_not rfl) ?_
 refine nA [(0, _), (1, _), (5, _), (10, _)] ?_
 first | refine wpM.condD rfl (fun h1 => ?_) (fun h1 => ?_) | refine wpM.condB rfl (fun h1 => ?_) (fun h1 => ?_)
 ·
  refine wR <| LM.as rfl <| nA [(6, _)] <| wpM.ret <| QM.then_ret ?_
  refine qL Tryz.results169 rfl fun w' hm' hc' hg' => ?_
  have hoff : isA a p = false := (by simpa using h1); rw [hoff, show setA a p v = a from if_neg (by rw [hoff]; simp)]; exact arm_leaf hw hn hs hb hm' (by (repeat' (first | exact SubM.nil _ | refine SubM.cons (by rfl) ?_ | refine SubM.app ?_))) hc' (inn_refl _ _)
 have hon : isA a p = true := (by simpa using h1); have hpos := isA_iff.1 hon; obtain ⟨i, rfl⟩ : ∃ i : Nat, p = i := ⟨p.toNat, by omega⟩; have hi : i < a.sl.length := om
 refine wpM.skip <| QM.then <| wpM.seq ?_
 refine wpM.draw [(0, 0), (1, 0), (2, 0), (3, 1), (4, 0), (5, 1), (6, 0), (7, 0), (8, 3)] kr kr ?_
 refine LD.val rfl rfl (ov_move rfl) <| LD.val rfl rfl (ov_nilCheck rfl) <| LD.val rfl rfl (ovf 188 rfl rfl rfl rfl) ?_
 refine LD.rd rfl rfl (oml rfl rfl rfl) ?_
 refine LD.val rfl rfl (ov_move rfl) ?_
 refine LD.rd rfl rfl (om_ldW Tryz.isAgg172 Tryz.sizeOf172 rfl rfl) ?_
 refine LD.val rfl rfl (ov_idxSN au6 Tryz.underlying188 Tryz.sizeOf200 rfl rfl om) ?_
 refine LD.val rfl rfl (ovf 172 rfl rfl rfl rfl) ?_
 refine LD.tail rfl rfl ?_
 refine LM.stS ({ a.sl.getD i default with v := v }) (j := 0) (i := i) asm ir Tryz.sizeOf172 rfl rfl rfl au3 rfl (by decide) (by rfl) rfl (fun p hp hlt => by first | exact ⟨p, List.mem_cons_of_mem _ hp, rfl⟩ | exact absurd hlt (Nat.not_lt_of_le (Sl.ge asm p hp))) (fun ms1 hss1 hmm1 => ?_)
 refine LM.nil ?_
 refine QM.qn ?_
 refine QM.sub (e' := []) trivial (QM.then (wpM.seq (wpM.region ?_)))
 refine LM.as rfl <| nA [(6, _)] <| wpM.ret ?_
 refine qL Tryz.results169 rfl fun w' hm' hc' hg' => ?_
 rw [hon, show setA a (i : Int) v = { a with sl := a.sl.set i { a.sl.getD i default with v := v } } from if_pos hon]; have k := setA_wf hw (i : Int) v; rw [show setA a (i : Int) v = { a with sl := a.sl.set i { a.sl.getD i default with v := v } } from if_pos hon] at k; exact arm_leaf k (by rw [List.length_set]; exact hn) hss1 hb hm' (by (repeat' (first | exact SubM.nil _ | refine SubM.cons (by rfl) ?_ | refine SubM.app ?_))) hc' (inn_of hmm1)
def cmpU (x y : BitVec 64) : Int := if x.toNat < y.toNat then -1 else if y.toNat < x.toNat then 1 else 0
def cmpI (x y : Int) : Int := if x < y then -1 else if y < x then 1 else 0
def orL : List Int → Int
  | [] => 0
  | x :: l => if x ≠ 0 then x else orL l
theorem orL_at : ∀ {l : List Int} {i : Nat}, (∀ j, j < i → l.getD j 0 = 0) → i < l.length → l.getD i 0 ≠ 0 → orL l = l.getD i 0
  | [], i, _, h, _ => by cases h
  | x :: l, 0, _, _, h => if_pos h
  | x :: l, i + 1, h, hi, hn => by
    have h0 : x = 0 := h 0 om
    show (if x ≠ 0 then x else orL l) = l.getD i 0
    rw [if_neg (fun z => z h0)]
    exact orL_at (fun j hj => h (j + 1) om) (Nat.lt_of_succ_lt_succ hi) hn
theorem orL_no : ∀ {l : List Int}, (∀ j, j < l.length → l.getD j 0 = 0) → orL l = 0
  | [], _ => rfl
  | x :: l, h => by
    have h0 : x = 0 := h 0 (by simp)
    show (if x ≠ 0 then x else orL l) = 0
    rw [if_neg (fun z => z h0)]
    exact orL_no (fun j hj => h (j + 1) (by simp only [List.length_cons]; omega))
theorem nanU_spec (x : BitVec 64) (w : World) : Ret Tryz.prog 175 #[U x] w (fun v w' => v = .bool false ∧ Ext w w') := by
 refine Ret.enterM Tryz.func175 rfl Tryz.ntmps175 rfl ([]) (no) (Mem.nil w) ?_
 refine wR <| LM.as rfl <| nB [(0, _)] <| LM.mv rfl <| LM.mv rfl ?_
 refine LM.val (ov_uneq rfl rfl) ?_
 refine LM.as rfl <| nA [(2, _)] <| wpM.ret ?_
 refine qL Tryz.results175 rfl fun w' hm' hc' hg' => ?_
 refine ⟨?_, hc'⟩; show Value.bool (decide _) = _; rw [decide_eq_false (fun z => z rfl)]
theorem nanI_spec (x : Int) (w : World) : Ret Tryz.prog 176 #[.int .i64 x] w (fun v w' => v = .bool false ∧ Ext w w') := by
 refine Ret.enterM Tryz.func176 rfl Tryz.ntmps176 rfl ([]) (no) (Mem.nil w) ?_
 refine wR <| LM.as rfl <| nB [(0, _)] <| LM.mv rfl <| LM.mv rfl <| LM.val (ov_neq rfl rfl) <| LM.as rfl <| nA [(2, _)] <| wpM.ret ?_
 refine qL Tryz.results176 rfl fun w' hm' hc' hg' => ?_
 refine ⟨?_, hc'⟩; show Value.bool (decide _) = _; rw [decide_eq_false (fun z => z rfl)]
theorem cmpU_spec (x y : BitVec 64) (w : World) : Ret Tryz.prog 167 #[U x, U y] w (fun v w' => v = .int .i64 (cmpU x y) ∧ Ext w w') := by
 refine Ret.enterM Tryz.func167 rfl Tryz.ntmps167 rfl ([]) (no) (Mem.nil w) ?_
 refine wR <| LM.as rfl <| nB [(0, _), (1, _)] <| LM.mv rfl ?_
 refine cE Tryz.func175 rfl (fun w hm hc hg => nanU_spec _ w) ?_
 refine LM.as rfl <| nB [(0, _), (1, _), (5, _)] <| LM.mv rfl ?_
 refine cE Tryz.func175 rfl (fun w hm hc hg => nanU_spec _ w) ?_
 refine LM.as rfl <| nA [(0, _), (1, _), (5, _), (6, _)] <| wpM.seq <| wR <| LM.mv rfl <| nA [(0, _), (1, _), (6, _), (11, _)] ?_
 first | refine wpM.condD rfl (fun h1 => ?_) (fun h1 => ?_) | refine wpM.condB rfl (fun h1 => ?_) (fun h1 => ?_)
 ·
  cases h1
 refine wpM.skip <| QM.then <| wpM.seq <| wR <| LM.mv rfl <| nA [(0, _), (1, _), (13, _)] ?_
 first | refine wpM.condD rfl (fun h2 => ?_) (fun h2 => ?_) | refine wpM.condB rfl (fun h2 => ?_) (fun h2 => ?_)
 ·
  cases h2
 refine wpM.skip <| QM.then <| wpM.seq <| wR <| LM.mv rfl <| LM.mv rfl ?_
 refine LM.val (ov_ulss rfl rfl) ?_
 refine nA [(0, _), (1, _), (16, _)] ?_
 refine wpM.condD rfl (fun h3 => ?_) (fun h3 => ?_)
 ·
  refine wR <| LM.as rfl <| nA [(4, _)] <| wpM.ret <| QM.then_ret ?_
  refine qL Tryz.results167 rfl fun w' hm' hc' hg' => ?_
  refine ⟨?_, hc'⟩; unfold cmpU; rw [if_pos h3]; rfl
 refine wpM.skip <| QM.then <| wpM.seq <| wR <| LM.mv rfl <| LM.mv rfl ?_
 refine LM.val (ov_ugtr rfl rfl) ?_
 refine nA [(19, _)] ?_
 refine wpM.condD rfl (fun h4 => ?_) (fun h4 => ?_)
 ·
  refine wR <| LM.as rfl <| nA [(4, _)] <| wpM.ret <| QM.then_ret ?_
  refine qL Tryz.results167 rfl fun w' hm' hc' hg' => ?_
  refine ⟨?_, hc'⟩; unfold cmpU; rw [if_neg h3, if_pos h4]; rfl
 refine wpM.skip <| tR <| LM.as rfl <| nA [(4, _)] <| wpM.ret ?_
 refine qL Tryz.results167 rfl fun w' hm' hc' hg' => ?_
 refine ⟨?_, hc'⟩; unfold cmpU; rw [if_neg h3, if_neg h4]; rfl
theorem cmpI_spec (x y : Int) (w : World) : Ret Tryz.prog 170 #[.int .i64 x, .int .i64 y] w (fun v w' => v = .int .i64 (cmpI x y) ∧ Ext w w') := by
 refine Ret.enterM Tryz.func170 rfl Tryz.ntmps170 rfl ([]) (no) (Mem.nil w) ?_
 refine wR <| LM.as rfl <| nB [(0, _), (1, _)] <| LM.mv rfl ?_
 refine cE Tryz.func176 rfl (fun w hm hc hg => nanI_spec _ w) ?_
 refine LM.as rfl <| nB [(0, _), (1, _), (5, _)] <| LM.mv rfl ?_
 refine cE Tryz.func176 rfl (fun w hm hc hg => nanI_spec _ w) ?_
 refine LM.as rfl <| nA [(0, _), (1, _), (5, _), (6, _)] <| wpM.seq <| wR <| LM.mv rfl <| nA [(0, _), (1, _), (6, _), (11, _)] ?_
 first | refine wpM.condD rfl (fun h1 => ?_) (fun h1 => ?_) | refine wpM.condB rfl (fun h1 => ?_) (fun h1 => ?_)
 ·
  cases h1
 refine wpM.skip <| QM.then <| wpM.seq <| wR <| LM.mv rfl <| nA [(0, _), (1, _), (13, _)] ?_
 first | refine wpM.condD rfl (fun h2 => ?_) (fun h2 => ?_) | refine wpM.condB rfl (fun h2 => ?_) (fun h2 => ?_)
 ·
  cases h2
 refine wpM.skip <| QM.then <| wpM.seq <| wR <| LM.mv rfl <| LM.mv rfl <| LM.val (ov_lss rfl rfl) <| nA [(0, _), (1, _), (16, _)] ?_
 refine wpM.condD rfl (fun h3 => ?_) (fun h3 => ?_)
 ·
  refine wR <| LM.as rfl <| nA [(4, _)] <| wpM.ret <| QM.then_ret ?_
  refine qL Tryz.results170 rfl fun w' hm' hc' hg' => ?_
  refine ⟨?_, hc'⟩; unfold cmpI; rw [if_pos h3]; rfl
 refine wpM.skip <| QM.then <| wpM.seq <| wR <| LM.mv rfl <| LM.mv rfl <| LM.val (ov_gtr rfl rfl) <| nA [(19, _)] ?_
 refine wpM.condD rfl (fun h4 => ?_) (fun h4 => ?_)
 ·
  refine wR <| LM.as rfl <| nA [(4, _)] <| wpM.ret <| QM.then_ret ?_
  refine qL Tryz.results170 rfl fun w' hm' hc' hg' => ?_
  refine ⟨?_, hc'⟩; unfold cmpI; rw [if_neg h3, if_pos h4]; rfl
 refine wpM.skip <| tR <| LM.as rfl <| nA [(4, _)] <| wpM.ret ?_
 refine qL Tryz.results170 rfl fun w' hm' hc' hg' => ?_
 refine ⟨?_, hc'⟩; unfold cmpI; rw [if_neg h3, if_neg h4]; rfl
theorem cmpOr_spec {l : List Int} {ad : Option Addr} {n cap : Nat} (w : World) (hn : n = l.length) (hl : Sr fI 1 l (.slice ad n cap) w) (hlen : l.length ≤ 100) : Ret Tryz.prog 166 #[.slice ad n cap] w (fun v w' => v = .int .i64 (orL l) ∧ Ext w w') := by
 refine Ret.enterM Tryz.func166 rfl Tryz.ntmps166 rfl ([]) (no) (Mem.nil w) ?_
 refine wR <| LM.as rfl <| nB [(0, _)] <| LM.as rfl <| nA [(0, _), (3, _)] <| wpM.seq <| wR <| LM.mv rfl <| LM.val (ov_len Tryz.underlying24 rfl) <| LM.mv rfl <| nA [(3, _), (6, _), (7, _), (8, _)] <| wpM.block ?_
 refine wpM.loopK0 (α := Nat) (fun i => [(8, .int .i64 (i : Nat))]) [(3, _), (6, _), (7, _)] (fun i => []) (fun i => i ≤ l.length ∧ ∀ j, j < i → l.getD j 0 = 0) (fun i => l.length - i) (0) ⟨au2, rfl, rfl, rfl, trivial⟩ au1 ⟨Nat.zero_le _, fun j hj => by omega⟩ ?_
 rintro i ⟨hi, hz⟩
 change wpM _ _ _ _ _ _ _ ([]) _ _ _
 refine wR <| LM.val (ov_lss rfl rfl) <| nA [(3, _), (6, _), (7, _), (8, _), (9, _)] <| wpM.seq ?_
 refine wpM.condD rfl (fun h1 => ?_) (fun h1 => ?_)
 ·
  refine wpM.skip <| QM.then <| wpM.seq <| wpM.block <| wR ?_
  refine LM.val (ov_idxSN au6 Tryz.underlying24 Tryz.sizeOf3 rfl rfl om) ?_
  first | refine LM.rd (om_sl1 asm ir Tryz.isAgg3 rfl rfl (by exact getq 0 au4) (by rfl)) ?_ | refine LM.rdC (om_sr1 asm Tryz.isAgg3 rfl rfl (by exact getq 0 au4) (by rfl) id) ?_ | refine LM.rd (oml rfl rfl rfl) ?_
  refine LM.as rfl <| nB [(3, _), (5, _), (6, _), (7, _), (8, _)] <| LM.mv rfl <| LM.mv rfl <| LM.val (ov_neq rfl rfl) <| nA [(3, _), (5, _), (6, _), (7, _), (8, _), (14, _)] ?_
  refine wpM.condD rfl (fun h2 => ?_) (fun h2 => ?_)
  ·
   refine wR <| LM.mv rfl <| LM.as rfl <| nA [(2, _)] <| wpM.ret <| QM.block_ret <| QM.then_ret <| QM.then_ret <| QM.block_ret <| QM.then_ret ?_
   refine qL Tryz.results166 rfl fun w' hm' hc' hg' => ?_
   refine ⟨?_, hc'⟩; rw [orL_at hz om h2]; rfl
  refine wpM.skip <| QM.block_normal ?_
  refine QM.then (wpM.region ?_)
  refine LM.val (ov_add64 rfl rfl om) ?_
  refine LM.mv rfl <| nC [(3, _), (6, _), (7, _), (8, _)] ?_
  refine QM.againK (i + 1) ⟨au2, rfl, rfl, rfl, trivial⟩ au1 (fun _ h => h) ?_ ?_
  · exact ⟨by omega, fun j hj => by rcases Nat.lt_or_ge j i with z | z; exact hz j z; rw [show j = i by omega]; exact Classical.not_not.1 h2⟩
  · omega
 refine wpM.exit <| QM.then_exit <| QM.then_exit <| QM.block_hit <| tR <| LM.mv rfl <| LM.as rfl <| nA [(2, _)] <| wpM.ret ?_
 refine qL Tryz.results166 rfl fun w' hm' hc' hg' => ?_
 refine ⟨?_, hc'⟩; rw [orL_no (fun j hj => hz j om)]; rfl
structure Hi where
  V : BitVec 64
  id : Int
  x : Int
deriving DecidableEq
instance : Inhabited Hi := ⟨⟨0#64, 0, 0⟩⟩
def fHi (t : Hi) : List Value := [U t.V, .int .i64 t.id, .int .i64 t.x]
def fKy (t : Hi) : List Value := [U t.V, .int .i64 t.id]
def hiLt (a b : Hi) : Prop := a.V.toNat < b.V.toNat ∨ (a.V.toNat = b.V.toNat ∧ a.id < b.id)
instance (a b : Hi) : Decidable (hiLt a b) := inferInstanceAs (Decidable (_ ∨ _))
theorem cmpU_or (x y : BitVec 64) : cmpU x y = -1 ∧ x.toNat < y.toNat ∨ cmpU x y = 0 ∧ x.toNat = y.toNat ∨ cmpU x y = 1 ∧ y.toNat < x.toNat := by
  unfold cmpU
  rcases Nat.lt_trichotomy x.toNat y.toNat with h | h | h
  · exact .inl ⟨if_pos h, h⟩
  · exact .inr (.inl ⟨by rw [if_neg om, if_neg om], h⟩)
  · exact .inr (.inr ⟨by rw [if_neg om, if_pos h], h⟩)
theorem cmpI_or (x y : Int) : cmpI x y = -1 ∧ x < y ∨ cmpI x y = 0 ∧ x = y ∨ cmpI x y = 1 ∧ y < x := by
  unfold cmpI
  rcases Int.lt_trichotomy x y with h | h | h
  · exact .inl ⟨if_pos h, h⟩
  · exact .inr (.inl ⟨by rw [if_neg om, if_neg om], h⟩)
  · exact .inr (.inr ⟨by rw [if_neg om, if_pos h], h⟩)
theorem hi_or (a b : Hi) : orL [cmpU a.V b.V, cmpI a.id b.id] < 0 ↔ hiLt a b := by
  unfold hiLt
  show (if cmpU a.V b.V ≠ 0 then cmpU a.V b.V else if cmpI a.id b.id ≠ 0 then cmpI a.id b.id else 0) < 0 ↔ _
  rcases cmpU_or a.V b.V with ⟨e, h⟩ | ⟨e, h⟩ | ⟨e, h⟩ <;> rcases cmpI_or a.id b.id with ⟨e2, h2⟩ | ⟨e2, h2⟩ | ⟨e2, h2⟩ <;> rw [e, e2] <;> constructor <;> intro q <;> first | omega | (simp at q; done) | (simp; omega) | (exfalso; revert q; decide)
abbrev hpC (b : Nat) (most : Int) (ad : Option Addr) (n cap bm : Nat) : Nat × Obj := (b, .cells #[.int .i64 most, .slice ad n cap, .map (some bm)] 151 (0, 0))
theorem hless_spec {n0 b n cap bm : Nat} {most : Int} {ad : Option Addr} {l : List Hi} {ms : Mem0} (i k : Nat) (w : World) (hn : n = l.length) (hs : Sl fHi 160 3 n0 l (.slice ad n cap) ms) (hi : i < l.length) (hk : k < l.length) (hM : Mem w (hpC b most ad n cap bm :: ms)) : Ret Tryz.prog 154 #[.pointer (some ⟨b, 0, none⟩), .int .i64 (i : Nat), .int .i64 (k : Nat)] w (fun u w' => u = .bool (decide (hiLt (l.getD i default) (l.getD k default))) ∧ Ext w w') := by
 refine Ret.enterM Tryz.func154 rfl Tryz.ntmps154 rfl (hpC b most ad n cap bm :: (ms ++ [])) (no) aM ?_
 refine wR <| LM.as rfl <| nA [(0, _), (1, _), (2, _)] <| wpM.seq ?_
 refine wpM.joinK (α := Nat × Nat) (fun ⟨b7, b8⟩ => [(7, .pointer (some ⟨b7, 0, none⟩)), (8, .pointer (some ⟨b8, 0, none⟩))]) [] (fun ⟨b7, b8⟩ => (b7, .cells (fKy (l.getD i default)).toArray 129 (0, 0)) :: (b8, .cells (fKy (l.getD k default)).toArray 129 (0, 0)) :: []) (fun ⟨b7, b8⟩ => w.heap.size ≤ b7 ∧ w.heap.size ≤ b8) trivial ?_ ?_
 ·
  refine wpM.keep (hpC b most ad n cap bm :: (ms ++ [])) (fun _ => True) (.one 0 0 (.one 1 0 (.one 2 0 (.one 3 1 (.one 4 0 (.one 5 0 (.one 6 0 (.one 7 1 (.one 8 0 (.one 9 0 (.one 10 0 (.one 11 1 (.one 12 0 (.one 13 0 (.one 14 0 (.one 15 1 (.fork 16 (.one 17 2 (.one 18 2 (.one 19 2 .nil))) 17 (.one 16 2 (.one 18 2 (.one 19 2 .nil)))))))))))))))))))) kr kr au1 (fun _ _ => trivial) ?_
  refine KD.val rfl rfl (ov_move rfl) <| KD.val rfl rfl (ov_nilCheck rfl) <| KD.val rfl rfl (ovf 149 rfl rfl rfl rfl) ?_
  refine KD.rd rfl rfl (oml rfl rfl rfl) ?_
  refine KD.val rfl rfl (ov_move rfl) ?_
  refine KD.val rfl rfl (ov_idxSN au6 Tryz.underlying149 Tryz.sizeOf160 rfl rfl om) ?_
  refine KD.val rfl rfl (ovf 129 rfl rfl rfl rfl) ?_
  refine KD.rd rfl rfl (om_slP (j := 0) (vs := [_, _]) asm ir Tryz.isAgg129 Tryz.sizeOf129 rfl rfl au3 (by decide) rfl rfl) ?_
  refine KD.val rfl rfl (ov_move rfl) <| KD.val rfl rfl (ov_nilCheck rfl) <| KD.val rfl rfl (ovf 149 rfl rfl rfl rfl) ?_
  refine KD.rd rfl rfl (oml rfl rfl rfl) ?_
  refine KD.val rfl rfl (ov_move rfl) ?_
  refine KD.val rfl rfl (ov_idxSN au6 Tryz.underlying149 Tryz.sizeOf160 rfl rfl om) ?_
  refine KD.val rfl rfl (ovf 129 rfl rfl rfl rfl) ?_
  refine KD.rd rfl rfl (om_slP (j := 0) (vs := [_, _]) asm ir Tryz.isAgg129 Tryz.sizeOf129 rfl rfl au3 (by decide) rfl rfl) ?_
  refine KD.fork rfl rfl ?_ ?_
  ·
   refine LM.alloc Tryz.zeroValue129 rfl (fun b7 hb7 => ?_)
   refine LM.nil ?_
   refine kq1 ?_
   refine KD.one rfl ?_
   refine LM.alloc Tryz.zeroValue129 rfl (fun b8 hb8 => ?_)
   refine LM.nil ?_
   refine kq1 ?_
   refine KD.one rfl ?_
   refine LM.stW Tryz.sizeOf129 rfl rfl rfl rfl au7 au8 ?_
   refine LM.nil ?_
   refine kq1 ?_
   refine KD.one rfl ?_
   refine LM.stW Tryz.sizeOf129 rfl rfl rfl rfl au7 au8 ?_
   refine LM.nil ?_
   refine kq1 ?_
   refine KD.nil ?_
   refine QM.sub (e' := [(7, _), (8, _)]) au9 ?_
   refine QM.meetK (b7, b8) ⟨au2, au2, trivial⟩ au1 ?_
   · exact ⟨by assumption, by assumption⟩
  refine LM.alloc Tryz.zeroValue129 rfl (fun b8 hb8 => ?_)
  refine LM.nil ?_
  refine kq1 ?_
  refine KD.one rfl ?_
  refine LM.alloc Tryz.zeroValue129 rfl (fun b7 hb7 => ?_)
  refine LM.nil ?_
  refine kq1 ?_
  refine KD.one rfl ?_
  refine LM.stW Tryz.sizeOf129 rfl rfl rfl rfl au7 au8 ?_
  refine LM.nil ?_
  refine kq1 ?_
  refine KD.one rfl ?_
  refine LM.stW Tryz.sizeOf129 rfl rfl rfl rfl au7 au8 ?_
  refine LM.nil ?_
  refine kq1 ?_
  refine KD.nil ?_
  refine QM.sub (e' := [(7, _), (8, _)]) au9 ?_
  refine QM.meetK (b7, b8) ⟨au2, au2, trivial⟩ au1 ?_
  · exact ⟨by assumption, by assumption⟩
 rintro ⟨b7, b8⟩ ⟨hb7, hb8⟩
 change QM _ _ _ _ _ ((b7, .cells (fKy (l.getD i default)).toArray 129 (0, 0)) :: (b8, .cells (fKy (l.getD k default)).toArray 129 (0, 0)) :: []) _ _ _
 refine QM.then <| wpM.seq ?_
 refine wpM.draw [(0, 0), (1, 1), (2, 0), (3, 1), (5, 0), (6, 1), (7, 0), (8, 1), (4, 2), (9, 2), (10, 3), (11, 3), (12, 3), (13, 3)] kr kr ?_
 refine LD.val rfl rfl (ovf 51 rfl rfl rfl rfl) ?_
 refine LD.rd rfl rfl (oml rfl rfl rfl) ?_
 refine LD.val rfl rfl (ovf 51 rfl rfl rfl rfl) ?_
 refine LD.rd rfl rfl (oml rfl rfl rfl) ?_
 refine LD.val rfl rfl (ovf 3 rfl rfl rfl rfl) ?_
 refine LD.rd rfl rfl (oml rfl rfl rfl) ?_
 refine LD.val rfl rfl (ovf 3 rfl rfl rfl rfl) ?_
 refine LD.rd rfl rfl (oml rfl rfl rfl) ?_
 refine dE rfl rfl Tryz.func167 rfl (fun w hm hc hg => cmpU_spec _ _ w) ?_
 refine dE rfl rfl Tryz.func170 rfl (fun w hm hc hg => cmpI_spec _ _ w) ?_
 refine LD.tail rfl rfl ?_
 refine LM.row (vs := [_, _]) Tryz.underlying24 Tryz.sizeOf3 Tryz.zeroValue3 rfl rfl rfl rfl rfl rfl (fun b35 hb35 => ?_)
 have hs35 : Sl fI 3 1 w.heap.size [cmpU (l.getD i default).V (l.getD k default).V, cmpI (l.getD i default).id (l.getD k default).id] (.slice (some ⟨b35, 0, none⟩) 2 2) [(b35, .cells (arr fI [cmpU (l.getD i default).V (l.getD k default).V, cmpI (l.getD i default).id (l.getD k default).id] []) 3 (0, 0))] := .inr ⟨b35, 2, [], hb35, rfl, rfl, Nat.le_refl 2, by unfold maxLen; decide, rfl⟩
 refine cE Tryz.func166 rfl (fun w hm hc hg => cmpOr_spec (l := [cmpU (l.getD i default).V (l.getD k default).V, cmpI (l.getD i default).id (l.getD k default).id]) w rfl (by have hm2 : Mem w ((b35, .cells (arr fI [cmpU (l.getD i default).V (l.getD k default).V, cmpI (l.getD i default).id (l.getD k default).id] []) 3 (0, 0)) :: _) := hm; exact hs35.srM ir hm2) (by show 2 ≤ 100; decide)) ?_
 refine LM.val (ov_lss rfl rfl) <| LM.as rfl ?_
 refine LM.nil ?_
 refine QM.qn ?_
 refine QM.sub (e' := [(6, _)]) ⟨rfl, trivial⟩ (QM.then ?_)
 refine wpM.ret ?_
 refine qL Tryz.results154 rfl fun w' hm' hc' hg' => ?_
 refine ⟨?_, hc'⟩; show Value.bool (decide (orL _ < 0)) = _; congr 1; exact decide_eq_decide.2 (hi_or _ _)
def swpL (l : List Hi) (i k : Nat) : List Hi := (l.set i (l.getD k default)).set k (l.getD i default)
theorem swpL_len (l : List Hi) (i k : Nat) : (swpL l i k).length = l.length := by unfold swpL; rw [List.length_set, List.length_set]
theorem inM_hs {a c : Nat × Obj} {m : Mem0} : ∀ p ∈ m, inM (a :: c :: m) p.1 := fun p hp => ⟨p, List.mem_cons_of_mem _ (List.mem_cons_of_mem _ hp), rfl⟩
theorem hs_leaf {n0 b n cap bm cl cl' : Nat} {most : Int} {ad : Option Addr} {l' : List Hi} {at' : List (Int × Value)} {es es' : Array MapEntry} {ms ms' M : Mem0} {w w' : World} (hs : Sl fHi 160 3 n0 l' (.slice ad n cap) ms') (he : EnsS .i64 es' cl' at') (hm : Mem w' M) (hsub : SubM M (hpC b most ad n cap bm :: (bm, .map es' cl') :: (ms' ++ []))) (hc : Chg (inM (hpC b most ad n cap bm :: (bm, .map es cl) :: ms)) w w') (hin : inn ms w.heap.size ms') :
    Upd (hpC b most ad n cap bm :: (bm, .map es cl) :: ms) (fun u m' => u = .tuple #[] ∧ ∃ es' cl' ms', m' = hpC b most ad n cap bm :: (bm, .map es' cl') :: ms' ∧ Sl fHi 160 3 n0 l' (.slice ad n cap) ms' ∧ EnsS .i64 es' cl' at') w (.tuple #[]) w' := by
  rw [List.append_nil] at hsub
  refine ⟨hc, _, ⟨rfl, es', cl', ms', rfl, hs, he⟩, hsub.mem w' hm, fun p hp => ?_⟩
  simp only [List.mem_cons] at hp
  rcases hp with rfl | rfl | hp
  · exact .inr ⟨_, List.mem_cons_self .., rfl⟩
  · exact .inr ⟨(bm, .map es cl), by simp only [List.mem_cons, true_or, or_true], rfl⟩
  · rcases hin p hp with q | ⟨q, hq, e⟩
    · exact .inl q
    · exact .inr ⟨q, List.mem_cons_of_mem _ (List.mem_cons_of_mem _ hq), e⟩
theorem hswap_spec {n0 b n cap bm cl : Nat} {most : Int} {ad : Option Addr} {es : Array MapEntry} {atm : List (Int × Value)} {l : List Hi} {ms : Mem0} (i k : Nat) (w : World) (hn : n = l.length) (hs : Sl fHi 160 3 n0 l (.slice ad n cap) ms) (he : EnsS .i64 es cl atm) (hi : i < l.length) (hk : k < l.length) (hM : Mem w (hpC b most ad n cap bm :: (bm, .map es cl) :: ms)) : Ret Tryz.prog 155 #[.pointer (some ⟨b, 0, none⟩), .int .i64 (i : Nat), .int .i64 (k : Nat)] w (Upd (hpC b most ad n cap bm :: (bm, .map es cl) :: ms) (fun u m' => u = .tuple #[] ∧ ∃ es' cl' ms', m' = hpC b most ad n cap bm :: (bm, .map es' cl') :: ms' ∧ Sl fHi 160 3 n0 (swpL l i k) (.slice ad n cap) ms' ∧ EnsS .i64 es' cl' (aput (aput atm ((swpL l i k).getD i default).id (.int .i64 (i : Nat))) ((swpL l i k).getD k default).id (.int .i64 (k : Nat)))) w) := by
 have hll := swpL_len l i k
 refine Ret.enterM Tryz.func155 rfl Tryz.ntmps155 rfl (hpC b most ad n cap bm :: (bm, .map es cl) :: (ms ++ [])) ((inM (hpC b most ad n cap bm :: (bm, .map es cl) :: ms))) aM ?_
 refine wpM.seq ?_
 refine wpM.joinK (α := Mem0) (fun m2 => []) [(0, _), (1, _), (2, _)] (fun m2 => hpC b most ad n cap bm :: (bm, .map es cl) :: (m2 ++ [])) (fun m2 => Sl fHi 160 3 n0 (swpL l i k) (.slice ad n cap) m2 ∧ inn ms w.heap.size m2) ⟨rfl, rfl, rfl, trivial⟩ ?_ ?_
 ·
  refine wpM.draw [(0, 0), (1, 0), (2, 0), (3, 1), (4, 0), (5, 0), (6, 0), (7, 0), (8, 1), (9, 0), (10, 0), (11, 0), (12, 0), (13, 1), (14, 0), (15, 0), (16, 1), (17, 0), (18, 0), (19, 0), (20, 1), (21, 0), (22, 0), (23, 1), (24, 0), (25, 3), (26, 3), (27, 3)] kr kr ?_
  refine LD.val rfl rfl (ov_move rfl) <| LD.val rfl rfl (ov_nilCheck rfl) <| LD.val rfl rfl (ovf 149 rfl rfl rfl rfl) ?_
  refine LD.rd rfl rfl (oml rfl rfl rfl) ?_
  refine LD.val rfl rfl (ov_move rfl) <| LD.val rfl rfl (ov_move rfl) <| LD.val rfl rfl (ov_nilCheck rfl) <| LD.val rfl rfl (ovf 149 rfl rfl rfl rfl) ?_
  refine LD.rd rfl rfl (oml rfl rfl rfl) ?_
  refine LD.val rfl rfl (ov_move rfl) <| LD.val rfl rfl (ov_move rfl) <| LD.val rfl rfl (ov_nilCheck rfl) <| LD.val rfl rfl (ovf 149 rfl rfl rfl rfl) ?_
  refine LD.rd rfl rfl (oml rfl rfl rfl) ?_
  refine LD.val rfl rfl (ov_move rfl) ?_
  refine LD.val rfl rfl (ov_idxSN au6 Tryz.underlying149 Tryz.sizeOf160 rfl rfl om) ?_
  refine LD.rd rfl rfl (om_slA asm ir Tryz.isAgg160 Tryz.sizeOf160 rfl au3) ?_
  refine LD.val rfl rfl (ov_move rfl) <| LD.val rfl rfl (ov_nilCheck rfl) <| LD.val rfl rfl (ovf 149 rfl rfl rfl rfl) ?_
  refine LD.rd rfl rfl (oml rfl rfl rfl) ?_
  refine LD.val rfl rfl (ov_move rfl) ?_
  refine LD.val rfl rfl (ov_idxSN au6 Tryz.underlying149 Tryz.sizeOf160 rfl rfl om) ?_
  refine LD.rd rfl rfl (om_slA asm ir Tryz.isAgg160 Tryz.sizeOf160 rfl au3) ?_
  refine LD.val rfl rfl (ov_idxSN au6 Tryz.underlying149 Tryz.sizeOf160 rfl rfl om) ?_
  refine LD.tail rfl rfl ?_
  refine LM.stS ((l.getD k default)) (j := 0) (i := i) asm ir Tryz.sizeOf160 rfl rfl rfl au3 rfl (by decide) (by rfl) rfl (fun p hp hlt => by first | exact inM_hs p hp | (obtain ⟨q, hq, e⟩ := hmm1 p hp; rw [← e]; exact inM_hs q hq) | exact absurd hlt (Nat.not_lt_of_le (Sl.ge asm p hp))) (fun ms1 hss1 hmm1 => ?_)
  refine LM.val (ov_idxSN au6 Tryz.underlying149 Tryz.sizeOf160 rfl rfl om) ?_
  refine LM.stS ((l.getD i default)) (j := 0) (i := k) asm ir Tryz.sizeOf160 rfl rfl rfl au3 rfl (by decide) (by rfl) rfl (fun p hp hlt => by first | exact inM_hs p hp | (obtain ⟨q, hq, e⟩ := hmm1 p hp; rw [← e]; exact inM_hs q hq) | exact absurd hlt (Nat.not_lt_of_le (Sl.ge asm p hp))) (fun ms2 hss2 hmm2 => ?_)
  refine LM.nil ?_
  refine QM.qn ?_
  refine QM.sub (e' := [(0, _), (1, _), (2, _)]) au9 ?_
  refine QM.meetK (ms2) ⟨rfl, rfl, rfl, trivial⟩ au1 ?_
  · exact ⟨hss2, fun p hp => .inr (by obtain ⟨q, hq, e⟩ := hmm2 p hp; obtain ⟨q2, hq2, e2⟩ := hmm1 q hq; exact ⟨q2, hq2, e2.trans e⟩)⟩
 rintro m2 ⟨hs2, hin2⟩
 change QM _ _ _ _ _ (hpC b most ad n cap bm :: (bm, .map es cl) :: (m2 ++ [])) _ _ _
 refine QM.then ?_
 refine wpM.keep (hpC b most ad n cap bm :: (m2 ++ [])) (fun _ => True) (.one 0 0 (.one 1 0 (.one 2 0 (.one 3 1 (.one 4 0 (.one 5 0 (.one 6 0 (.one 7 1 (.one 8 0 (.one 9 0 (.one 10 0 (.one 11 0 (.one 12 1 (.one 13 0 (.one 14 0 (.one 15 0 (.one 16 1 (.one 17 0 (.one 18 0 (.one 19 0 (.one 20 1 (.one 21 0 (.one 22 0 (.one 23 0 (.one 24 0 (.one 25 1 (.one 26 0 (.one 27 0 (.one 28 2 (.one 29 0 (.one 30 2 (.one 31 2 (.one 32 0 (.one 33 2 .nil)))))))))))))))))))))))))))))))))) kr kr au1 (fun _ _ => trivial) ?_
 refine KD.val rfl rfl (ov_move rfl) <| KD.val rfl rfl (ov_nilCheck rfl) <| KD.val rfl rfl (ovf 72 rfl rfl rfl rfl) ?_
 refine KD.rd rfl rfl (oml rfl rfl rfl) ?_
 refine KD.val rfl rfl (ov_move rfl) <| KD.val rfl rfl (ov_nilCheck rfl) <| KD.val rfl rfl (ovf 149 rfl rfl rfl rfl) ?_
 refine KD.rd rfl rfl (oml rfl rfl rfl) ?_
 refine KD.val rfl rfl (ov_move rfl) ?_
 refine KD.val rfl rfl (ov_idxSN au6 Tryz.underlying149 Tryz.sizeOf160 rfl rfl om) ?_
 refine KD.val rfl rfl (ovf 129 rfl rfl rfl rfl) <| KD.val rfl rfl (ovf 3 rfl rfl rfl rfl) ?_
 refine KD.rd rfl rfl (om_slE (j := 1) asm ir Tryz.isAgg3 rfl rfl au3 rfl (by rfl)) ?_
 refine KD.val rfl rfl (ov_move rfl) <| KD.val rfl rfl (ov_nilCheck rfl) <| KD.val rfl rfl (ovf 72 rfl rfl rfl rfl) ?_
 refine KD.rd rfl rfl (oml rfl rfl rfl) ?_
 refine KD.val rfl rfl (ov_move rfl) <| KD.val rfl rfl (ov_nilCheck rfl) <| KD.val rfl rfl (ovf 149 rfl rfl rfl rfl) ?_
 refine KD.rd rfl rfl (oml rfl rfl rfl) ?_
 refine KD.val rfl rfl (ov_move rfl) ?_
 refine KD.val rfl rfl (ov_idxSN au6 Tryz.underlying149 Tryz.sizeOf160 rfl rfl om) ?_
 refine KD.val rfl rfl (ovf 129 rfl rfl rfl rfl) <| KD.val rfl rfl (ovf 3 rfl rfl rfl rfl) ?_
 refine KD.rd rfl rfl (om_slE (j := 1) asm ir Tryz.isAgg3 rfl rfl au3 rfl (by rfl)) ?_
 refine KD.val rfl rfl (ov_move rfl) <| KD.val rfl rfl (ov_move rfl) <| KD.one rfl ?_
 refine LM.mEntry Tryz.underlying72 Tryz.underlying3 Tryz.zeroValue3 rfl rfl he auH rfl (fun ew1 cw1 uw1 β1 hew1 hA1 => ?_)
 refine LM.nil ?_
 refine kq1 ?_
 refine KD.val rfl rfl (ov_extract rfl rfl) ?_
 refine KD.one rfl ?_
 refine LM.eStore rfl rfl rfl hew1 hA1 auH (fun ew2 hew2 => ?_)
 refine LM.nil ?_
 refine kq1 ?_
 refine KD.one rfl ?_
 refine LM.mEntry Tryz.underlying72 Tryz.underlying3 Tryz.zeroValue3 rfl rfl hew2 auH rfl (fun eg1 cg1 ug1 β2 heg1 hA2 => ?_)
 refine LM.nil ?_
 refine kq1 ?_
 refine KD.val rfl rfl (ov_extract rfl rfl) ?_
 refine KD.one rfl ?_
 refine LM.eStore rfl rfl rfl heg1 hA2 auH (fun eg2 heg2 => ?_)
 refine LM.nil ?_
 refine kq1 ?_
 refine KD.nil ?_
 refine QM.sub (e' := []) trivial ?_
 refine QM.leave (.inr rfl) [] Tryz.results155 rfl ?_
 intro w' hm' hc' hg'
 exact hs_leaf hs2 heg2 hm' (by (repeat' (first | exact SubM.nil _ | refine SubM.cons (by rfl) ?_ | refine SubM.app ?_))) hc' hin2
structure Hs where
  l : List Hi
  at_ : List (Int × Value)
def swapS (s : Hs) (i k : Nat) : Hs := ⟨swpL s.l i k, aput (aput s.at_ ((swpL s.l i k).getD i default).id (.int .i64 (i : Nat))) ((swpL s.l i k).getD k default).id (.int .i64 (k : Nat))⟩
def upS : Nat → Nat → Hs → Hs
  | 0, _, s => s
  | n + 1, i, s => if 0 < i ∧ hiLt (s.l.getD i default) (s.l.getD ((i - 1) / 2) default) then upS n ((i - 1) / 2) (swapS s i ((i - 1) / 2)) else s
theorem upS_stop {f i : Nat} {s : Hs} (h : ¬ (0 < i ∧ hiLt (s.l.getD i default) (s.l.getD ((i - 1) / 2) default))) : upS f i s = s := by
  cases f with
  | zero => rfl
  | succ f => exact if_neg h
theorem upS_go {f i : Nat} {s : Hs} (h : 0 < i ∧ hiLt (s.l.getD i default) (s.l.getD ((i - 1) / 2) default)) : upS (f + 1) i s = upS f ((i - 1) / 2) (swapS s i ((i - 1) / 2)) := if_pos h
theorem wlk_h {a c : Nat × Obj} {m : Mem0} (h0 : wlk a.2 = false) (h1 : wlk c.2 = false) (h : ∀ p ∈ m, wlk p.2 = false) : ∀ p ∈ a :: c :: m, wlk p.2 = false := fun p hp => by
  simp only [List.mem_cons] at hp
  rcases hp with rfl | rfl | hp
  · exact h0
  · exact h1
  · exact h p hp
theorem half_up {j : Nat} (h : 0 < j) : ((j : Int) - 1) / 2 = (((j - 1) / 2 : Nat) : Int) := by omega
theorem hup_spec {n0 b n cap bm cl : Nat} {most : Int} {ad : Option Addr} {es : Array MapEntry} {atm : List (Int × Value)} {l : List Hi} {ms : Mem0} (i : Nat) (w : World) (hn : n = l.length) (hs : Sl fHi 160 3 n0 l (.slice ad n cap) ms) (he : EnsS .i64 es cl atm) (hi : i < l.length) (hlen : l.length ≤ 4096) (hM : Mem w (hpC b most ad n cap bm :: (bm, .map es cl) :: ms)) : Ret Tryz.prog 132 #[.pointer (some ⟨b, 0, none⟩), .int .i64 (i : Nat)] w (Upd (hpC b most ad n cap bm :: (bm, .map es cl) :: ms) (fun u m' => u = .tuple #[] ∧ ∃ es' cl' ms', m' = hpC b most ad n cap bm :: (bm, .map es' cl') :: ms' ∧ Sl fHi 160 3 n0 (upS i i ⟨l, atm⟩).l (.slice ad n cap) ms' ∧ EnsS .i64 es' cl' (upS i i ⟨l, atm⟩).at_) w) := by
 refine Ret.enterM Tryz.func132 rfl Tryz.ntmps132 rfl (hpC b most ad n cap bm :: (bm, .map es cl) :: (ms ++ [])) ((inM (hpC b most ad n cap bm :: (bm, .map es cl) :: ms))) aM ?_
 refine wpM.block ?_
 refine wpM.loopK0 (α := Nat × Nat × Hs × Array MapEntry × Nat × Mem0) (fun ⟨f, j, s, es1, cl1, m1⟩ => [(1, .int .i64 (j : Nat))]) [(0, _)] (fun ⟨f, j, s, es1, cl1, m1⟩ => hpC b most ad n cap bm :: (bm, .map es1 cl1) :: (m1 ++ [])) (fun ⟨f, j, s, es1, cl1, m1⟩ => j ≤ f ∧ j < s.l.length ∧ s.l.length = l.length ∧ Sl fHi 160 3 n0 s.l (.slice ad n cap) m1 ∧ EnsS .i64 es1 cl1 s.at_ ∧ inn (hpC b most ad n cap bm :: (bm, .map es cl) :: ms) w.heap.size (hpC b most ad n cap bm :: (bm, .map es1 cl1) :: m1) ∧ upS f j s = upS i i ⟨l, atm⟩) (fun ⟨f, j, s, es1, cl1, m1⟩ => j) ((i, i, ⟨l, atm⟩, es, cl, ms)) ⟨(by first | rfl | exact lk rfl (congrArg (Value.int .i64) (half_up hj0))), rfl, trivial⟩ au1 ⟨Nat.le_refl _, hi, rfl, hs, he, inn_refl _ _, rfl⟩ ?_
 rintro ⟨f, j, s, es1, cl1, m1⟩ ⟨hjf, hjl, hsl, hs1, he1, hin1, hup⟩
 change wpM _ _ _ _ _ _ _ (hpC b most ad n cap bm :: (bm, .map es1 cl1) :: (m1 ++ [])) _ _ _
 refine wpM.seq <| wR <| LM.mv rfl <| LM.val (ov_gtr rfl rfl) <| LM.mv rfl ?_
 refine LM.splitD (t := 6) rfl (fun h1 => ?_) (fun h1 => ?_)
 ·
  have hj0 : 0 < j := om
  refine LM.sp 6 rfl rfl rfl <| LM.mv rfl <| LM.sp 6 rfl rfl rfl <| LM.mv rfl <| LM.sp 6 rfl rfl rfl <| LM.mv rfl <| LM.sp 6 rfl rfl rfl ?_
  refine LM.val (ov_sub64 rfl rfl om) ?_
  refine LM.sp 6 rfl rfl rfl ?_
  refine LM.val (ov_quo64 rfl rfl om om om) ?_
  refine LM.sp 6 rfl rfl rfl ?_
  rw [half_up hj0]
  refine cE Tryz.func154 rfl (fun w hm hc hg => hless_spec j ((j - 1) / 2) w om hs1 hjl om (hm.pick (hpC b most ad n cap bm :: m1))) ?_
  refine LM.val (ov_pickT rfl rfl) <| nA [(0, _), (1, _), (13, _)] ?_
  refine wpM.condD rfl (fun h2 => ?_) (fun h2 => ?_)
  ·
   refine wpM.skip <| QM.then <| wpM.block <| wR <| LM.mv rfl <| LM.mv rfl <| LM.mv rfl ?_
   refine LM.val (ov_sub64 rfl rfl om) ?_
   refine LM.val (ov_quo64 rfl rfl om om om) ?_
   rw [half_up hj0]
   refine cU Tryz.func155 rfl (fun w hm hc hg => hswap_spec j ((j - 1) / 2) w om hs1 he1 hjl om (hm.pick (hpC b most ad n cap bm :: (bm, .map es1 cl1) :: m1))) (wlk_h rfl rfl hs1.wlk) (inn_S hin1 inM_in) ?_
   rintro u19 m19 ⟨rfl, es2, cl2, m2, rfl, hs2, he2⟩ hin19
   refine LM.nil (QM.sub (e' := [(0, _), (1, _)]) au9 (QM.then (wpM.region ?_)))
   refine LM.mv rfl ?_
   refine LM.val (ov_sub64 rfl rfl om) ?_
   refine LM.val (ov_quo64 rfl rfl om om om) ?_
   refine LM.as rfl <| nC [(0, _), (1, _)] <| QM.block_normal ?_
   refine QM.againK (f - 1, (j - 1) / 2, swapS s j ((j - 1) / 2), es2, cl2, m2) ⟨(by first | rfl | exact lk rfl (congrArg (Value.int .i64) (half_up hj0))), rfl, trivial⟩ au1 (fun _ h => h) ?_ ?_
   · exact ⟨by omega, by show _ < (swpL _ _ _).length; rw [swpL_len]; omega, by show (swpL _ _ _).length = _; rw [swpL_len]; exact hsl, hs2, he2, inn_trans hin1 hin19, by rw [← hup]; obtain ⟨f', rfl⟩ : ∃ f', f = f' + 1 := ⟨f - 1, by omega⟩; exact (upS_go ⟨hj0, h2⟩).symm⟩
   · first | omega | (dsimp only; omega)
  refine wpM.exit <| QM.then_exit <| QM.then_exit <| QM.block_hit ?_
  refine QM.leave (.inr rfl) [] Tryz.results132 rfl ?_
  intro w' hm' hc' hg'
  have e := upS_stop (f := f) (i := j) (s := s) (fun z => h2 z.2); rw [e] at hup; rw [← hup]; exact upd_m ⟨rfl, es1, cl1, m1, rfl, hs1, he1⟩ hm' (by (repeat' (first | exact SubM.nil _ | refine SubM.cons (by rfl) ?_ | refine SubM.app ?_))) hc' hin1
 refine LM.dr 6 rfl rfl rfl <| LM.dr 6 rfl rfl rfl <| LM.dr 6 rfl rfl rfl <| LM.dr 6 rfl rfl rfl <| LM.dr 6 rfl rfl rfl <| LM.dr 6 rfl rfl rfl <| LM.val (ov_pickF rfl rfl) <| nA [(0, _), (1, _), (13, _)] ?_
 refine wpM.condF rfl ?_
 refine wpM.exit <| QM.then_exit <| QM.then_exit <| QM.block_hit ?_
 refine QM.leave (.inr rfl) [] Tryz.results132 rfl ?_
 intro w' hm' hc' hg'
 have e := upS_stop (f := f) (i := j) (s := s) (fun z => by omega); rw [e] at hup; rw [← hup]; exact upd_m ⟨rfl, es1, cl1, m1, rfl, hs1, he1⟩ hm' (by (repeat' (first | exact SubM.nil _ | refine SubM.cons (by rfl) ?_ | refine SubM.app ?_))) hc' hin1
def chB (s : Hs) (i : Nat) : Prop := 2 * i + 2 < s.l.length ∧ hiLt (s.l.getD (2 * i + 2) default) (s.l.getD (2 * i + 1) default)
instance (s : Hs) (i : Nat) : Decidable (chB s i) := inferInstanceAs (Decidable (_ ∧ _))
def chO (s : Hs) (i : Nat) : Nat := if chB s i then 2 * i + 2 else 2 * i + 1
def dnS : Nat → Nat → Hs → Hs
  | 0, _, s => s
  | n + 1, i, s => if 2 * i + 1 < s.l.length ∧ hiLt (s.l.getD (chO s i) default) (s.l.getD i default) then dnS n (chO s i) (swapS s i (chO s i)) else s
theorem dnS_stop {f i : Nat} {s : Hs} (h : ¬ (2 * i + 1 < s.l.length ∧ hiLt (s.l.getD (chO s i) default) (s.l.getD i default))) : dnS f i s = s := by
  cases f with
  | zero => rfl
  | succ f => exact if_neg h
theorem dnS_go {f i : Nat} {s : Hs} (h : 2 * i + 1 < s.l.length ∧ hiLt (s.l.getD (chO s i) default) (s.l.getD i default)) : dnS (f + 1) i s = dnS f (chO s i) (swapS s i (chO s i)) := if_pos h
theorem chO_lt {s : Hs} {i : Nat} (h : 2 * i + 1 < s.l.length) : chO s i < s.l.length ∧ i < chO s i := by
  unfold chO; split
  · rename_i q; have := q.1; omega
  · omega
theorem hdown_spec {n0 b n cap bm cl : Nat} {most : Int} {ad : Option Addr} {es : Array MapEntry} {atm : List (Int × Value)} {l : List Hi} {ms : Mem0} (i : Nat) (w : World) (hn : n = l.length) (hs : Sl fHi 160 3 n0 l (.slice ad n cap) ms) (he : EnsS .i64 es cl atm) (hi : i < l.length) (hlen : l.length ≤ 4096) (hM : Mem w (hpC b most ad n cap bm :: (bm, .map es cl) :: ms)) : Ret Tryz.prog 172 #[.pointer (some ⟨b, 0, none⟩), .int .i64 (i : Nat)] w (Upd (hpC b most ad n cap bm :: (bm, .map es cl) :: ms) (fun u m' => u = .tuple #[] ∧ ∃ es' cl' ms', m' = hpC b most ad n cap bm :: (bm, .map es' cl') :: ms' ∧ Sl fHi 160 3 n0 (dnS l.length i ⟨l, atm⟩).l (.slice ad n cap) ms' ∧ EnsS .i64 es' cl' (dnS l.length i ⟨l, atm⟩).at_) w) := by
 refine Ret.enterM Tryz.func172 rfl Tryz.ntmps172 rfl (hpC b most ad n cap bm :: (bm, .map es cl) :: (ms ++ [])) ((inM (hpC b most ad n cap bm :: (bm, .map es cl) :: ms))) aM ?_
 refine wpM.block ?_
 refine wpM.loopK0 (α := Nat × Nat × Hs × Array MapEntry × Nat × Mem0) (fun ⟨f, j, s, es1, cl1, m1⟩ => [(1, .int .i64 (j : Nat))]) [(0, _)] (fun ⟨f, j, s, es1, cl1, m1⟩ => hpC b most ad n cap bm :: (bm, .map es1 cl1) :: (m1 ++ [])) (fun ⟨f, j, s, es1, cl1, m1⟩ => l.length ≤ f + j ∧ j < s.l.length ∧ s.l.length = l.length ∧ Sl fHi 160 3 n0 s.l (.slice ad n cap) m1 ∧ EnsS .i64 es1 cl1 s.at_ ∧ inn (hpC b most ad n cap bm :: (bm, .map es cl) :: ms) w.heap.size (hpC b most ad n cap bm :: (bm, .map es1 cl1) :: m1) ∧ dnS f j s = dnS l.length i ⟨l, atm⟩) (fun ⟨f, j, s, es1, cl1, m1⟩ => l.length - j) ((l.length, i, ⟨l, atm⟩, es, cl, ms)) ⟨au2, rfl, trivial⟩ au1 ⟨by omega, hi, rfl, hs, he, inn_refl _ _, rfl⟩ ?_
 rintro ⟨f, j, s, es1, cl1, m1⟩ ⟨hjf, hjl, hsl, hs1, he1, hin1, hup⟩
 change wpM _ _ _ _ _ _ _ (hpC b most ad n cap bm :: (bm, .map es1 cl1) :: (m1 ++ [])) _ _ _
 refine wpM.block <| wR <| LM.mv rfl ?_
 refine LM.val (ov_mul64 rfl rfl om) ?_
 refine LM.val (ov_add64 rfl rfl om) ?_
 try rw [show 2 * (j : Int) + 1 = ((2 * j + 1 : Nat) : Int) by omega]
 refine LM.as rfl <| nA [(0, _), (1, _), (4, _)] <| wpM.seq <| wR <| LM.mv rfl <| LM.mv rfl <| LM.nc rfl <| LM.val (ovf 149 rfl rfl rfl rfl) ?_
 refine LM.rd (oml rfl rfl rfl) ?_
 refine LM.val (ov_len Tryz.underlying149 rfl) <| LM.val (ov_geq rfl rfl) <| nA [(0, _), (1, _), (4, _), (14, _)] ?_
 refine wpM.condD rfl (fun h1 => ?_) (fun h1 => ?_)
 ·
  refine wpM.ret <| QM.then_ret <| QM.block_ret <| QM.then_ret <| QM.block_ret ?_
  refine QM.leave (.inl rfl) [] Tryz.results172 rfl ?_
  intro w' hm' hc' hg'
  have e := dnS_stop (f := f) (i := j) (s := s) (fun z => by omega); rw [e] at hup; rw [← hup]; exact upd_m ⟨rfl, es1, cl1, m1, rfl, hs1, he1⟩ hm' (by (repeat' (first | exact SubM.nil _ | refine SubM.cons (by rfl) ?_ | refine SubM.app ?_))) hc' hin1
 have hkl : 2 * j + 1 < s.l.length := om; have hcl := chO_lt hkl
 refine wpM.skip <| QM.then <| wpM.seq <| wpM.seq ?_
 refine wpM.joinK (α := Unit) (fun ⟨⟩ => [(29, .bool (decide (chB s j)))]) [(0, _), (1, _), (4, _)] (fun ⟨⟩ => hpC b most ad n cap bm :: (bm, .map es1 cl1) :: (m1 ++ [])) (fun ⟨⟩ => True) ⟨rfl, rfl, rfl, trivial⟩ ?_ ?_
 ·
  refine wpM.region ?_
  refine LM.mv rfl ?_
  refine LM.val (ov_add64 rfl rfl om) ?_
  refine LM.mv rfl <| LM.nc rfl <| LM.val (ovf 149 rfl rfl rfl rfl) ?_
  refine LM.rd (oml rfl rfl rfl) ?_
  refine LM.val (ov_len Tryz.underlying149 rfl) <| LM.val (ov_lss rfl rfl) <| LM.mv rfl ?_
  refine LM.splitD (t := 23) rfl (fun h2 => ?_) (fun h2 => ?_)
  ·
   refine LM.sp 23 rfl rfl rfl <| LM.mv rfl <| LM.sp 23 rfl rfl rfl <| LM.mv rfl <| LM.sp 23 rfl rfl rfl ?_
   refine LM.val (ov_add64 rfl rfl om) ?_
   refine LM.sp 23 rfl rfl rfl <| LM.mv rfl <| LM.sp 23 rfl rfl rfl ?_
   rw [show ((2 * j + 1 : Nat) : Int) + 1 = ((2 * j + 2 : Nat) : Int) by omega]
   refine cE Tryz.func154 rfl (fun w hm hc hg => hless_spec (2 * j + 2) (2 * j + 1) w om hs1 om om (hm.pick (hpC b most ad n cap bm :: m1))) ?_
   refine LM.val (ov_pickT rfl rfl) <| nC [(0, _), (1, _), (4, _), (29, _)] ?_
   refine QM.meetK (⟨⟩) ⟨(by first | exact lk rfl (congrArg Value.bool (decide_eq_decide.2 ⟨fun z => ⟨by omega, z⟩, fun z => z.2⟩)) | exact lk rfl (congrArg Value.bool (decide_eq_false (fun z : chB s j => by have := z.1; omega)).symm)), rfl, rfl, rfl, trivial⟩ au1 ?_
   · trivial
  refine LM.dr 23 rfl rfl rfl <| LM.dr 23 rfl rfl rfl <| LM.dr 23 rfl rfl rfl <| LM.dr 23 rfl rfl rfl <| LM.dr 23 rfl rfl rfl <| LM.val (ov_pickF rfl rfl) <| nC [(0, _), (1, _), (4, _), (29, _)] ?_
  refine QM.meetK (⟨⟩) ⟨(by first | exact lk rfl (congrArg Value.bool (decide_eq_decide.2 ⟨fun z => ⟨by omega, z⟩, fun z => z.2⟩)) | exact lk rfl (congrArg Value.bool (decide_eq_false (fun z : chB s j => by have := z.1; omega)).symm)), rfl, rfl, rfl, trivial⟩ au1 ?_
  · trivial
 rintro ⟨⟩ -
 change QM _ _ _ _ _ (hpC b most ad n cap bm :: (bm, .map es1 cl1) :: (m1 ++ [])) _ _ _
 refine QM.then ?_
 refine wpM.joinK (α := Unit) (fun ⟨⟩ => [(4, .int .i64 (chO s j : Nat))]) [(0, _), (1, _)] (fun ⟨⟩ => hpC b most ad n cap bm :: (bm, .map es1 cl1) :: (m1 ++ [])) (fun ⟨⟩ => True) ⟨rfl, rfl, trivial⟩ ?_ ?_
 ·
  refine wpM.condD rfl (fun h3 => ?_) (fun h3 => ?_)
  ·
   refine wpM.region ?_
   refine LM.mv rfl ?_
   refine LM.val (ov_add64 rfl rfl om) ?_
   try rw [show 2 * (j : Int) + 1 = ((2 * j + 1 : Nat) : Int) by omega]
   refine LM.as rfl <| nC [(0, _), (1, _), (4, _)] ?_
   refine QM.meetK (⟨⟩) ⟨(by first | exact lk rfl (congrArg (Value.int .i64) (show ((2 * j + 1 : Nat) : Int) + 1 = ((chO s j : Nat) : Int) by unfold chO; rw [if_pos asm]; omega)) | exact lk rfl (congrArg (Value.int .i64) (show ((2 * j + 1 : Nat) : Int) = ((chO s j : Nat) : Int) by unfold chO; rw [if_neg asm]))), rfl, rfl, trivial⟩ au1 ?_
   · trivial
  refine wpM.skip ?_
  refine QM.meetK (⟨⟩) ⟨(by first | exact lk rfl (congrArg (Value.int .i64) (show ((2 * j + 1 : Nat) : Int) + 1 = ((chO s j : Nat) : Int) by unfold chO; rw [if_pos asm]; omega)) | exact lk rfl (congrArg (Value.int .i64) (show ((2 * j + 1 : Nat) : Int) = ((chO s j : Nat) : Int) by unfold chO; rw [if_neg asm]))), rfl, rfl, trivial⟩ au1 ?_
  · trivial
 rintro ⟨⟩ -
 change QM _ _ _ _ _ (hpC b most ad n cap bm :: (bm, .map es1 cl1) :: (m1 ++ [])) _ _ _
 refine QM.then <| wpM.seq <| wR <| LM.mv rfl <| LM.mv rfl <| LM.mv rfl ?_
 refine cE Tryz.func154 rfl (fun w hm hc hg => hless_spec (chO s j) j w om hs1 hcl.1 hjl (hm.pick (hpC b most ad n cap bm :: m1))) ?_
 refine LM.val (ov_notD rfl) ?_
 refine nA [(0, _), (1, _), (4, _), (36, _)] ?_
 refine wpM.condD rfl (fun h4 => ?_) (fun h4 => ?_)
 ·
  refine wpM.ret <| QM.then_ret <| QM.block_ret <| QM.then_ret <| QM.block_ret ?_
  refine QM.leave (.inl rfl) [] Tryz.results172 rfl ?_
  intro w' hm' hc' hg'
  have e := dnS_stop (f := f) (i := j) (s := s) (fun z => by first | exact h4 z.2 | exact absurd z.2 (by simpa using h4)); rw [e] at hup; rw [← hup]; exact upd_m ⟨rfl, es1, cl1, m1, rfl, hs1, he1⟩ hm' (by (repeat' (first | exact SubM.nil _ | refine SubM.cons (by rfl) ?_ | refine SubM.app ?_))) hc' hin1
 refine wpM.skip <| tR <| LM.mv rfl <| LM.mv rfl <| LM.mv rfl ?_
 refine cU Tryz.func155 rfl (fun w hm hc hg => hswap_spec j (chO s j) w om hs1 he1 hjl hcl.1 (hm.pick (hpC b most ad n cap bm :: (bm, .map es1 cl1) :: m1))) (wlk_h rfl rfl hs1.wlk) (inn_S hin1 inM_in) ?_
 rintro u40 m40 ⟨rfl, es2, cl2, m2, rfl, hs2, he2⟩ hin40
 refine LM.nil (QM.sub (e' := [(0, _), (4, _)]) au9 (QM.then (wpM.region ?_)))
 refine LM.mv rfl <| LM.as rfl <| nC [(0, _), (1, _)] <| QM.block_normal ?_
 refine QM.againK (f - 1, chO s j, swapS s j (chO s j), es2, cl2, m2) ⟨au2, rfl, trivial⟩ au1 (fun _ h => h) ?_ ?_
 · exact ⟨by omega, by show _ < (swpL _ _ _).length; rw [swpL_len]; exact hcl.1, by show (swpL _ _ _).length = _; rw [swpL_len]; exact hsl, hs2, he2, inn_trans hin1 hin40, by rw [← hup]; obtain ⟨f', rfl⟩ : ∃ f', f = f' + 1 := ⟨f - 1, by omega⟩; exact (dnS_go ⟨hkl, by first | exact Classical.not_not.1 h4 | simpa using h4⟩).symm⟩
 · first | omega | (dsimp only; omega)
end Go.Eng
namespace Go.Eng
open Go Go.RowKit
abbrev hg (l : List Hi) (i : Nat) : Hi := l.getD i default
def hle (a b : Hi) : Prop := ¬ hiLt b a
theorem hle_trans {a b c : Hi} (h : hle a b) (k : hle b c) : hle a c := by unfold hle hiLt at *; omega
theorem hle_of {a b : Hi} (h : hiLt a b) : hle a b := by unfold hle hiLt at *; omega
theorem hlt_or {a b : Hi} (h : a.id ≠ b.id) : hiLt a b ∨ hiLt b a := by unfold hiLt; omega
theorem hlt_le {a b c : Hi} (h : hiLt a b) (k : hle b c) : hiLt a c := by unfold hle hiLt at *; omega
theorem hlt_trans {a b c : Hi} (h : hiLt a b) (k : hiLt b c) : hiLt a c := by unfold hiLt at *; omega
theorem hlt_irr {a : Hi} : ¬ hiLt a a := by unfold hiLt; omega
theorem hg_set {l : List Hi} {i : Nat} (h : i < l.length) (x : Hi) (j : Nat) : hg (l.set i x) j = if i = j then x else hg l j := by
  unfold hg
  rw [List.getD_eq_getElem?_getD, List.getD_eq_getElem?_getD, List.getElem?_set]
  by_cases e : i = j
  · subst e; rw [if_pos rfl, if_pos rfl, if_pos h]; rfl
  · rw [if_neg e, if_neg e]
theorem hg_swap {l : List Hi} {i k : Nat} (hi : i < l.length) (hk : k < l.length) (j : Nat) : hg (swpL l i k) j = if j = k then hg l i else if j = i then hg l k else hg l j := by
  unfold swpL
  rw [hg_set (by rw [List.length_set]; exact hk), hg_set hi]
  by_cases e : j = k
  · rw [if_pos e.symm, if_pos e]
  · rw [if_neg (fun z => e z.symm), if_neg e]
    by_cases e2 : j = i
    · rw [if_pos e2.symm, if_pos e2]
    · rw [if_neg (fun z => e2 z.symm), if_neg e2]
theorem hg_mem {l : List Hi} {i : Nat} (h : i < l.length) : hg l i ∈ l := by
  unfold hg; rw [List.getD_eq_getElem?_getD, List.getElem?_eq_getElem h]; exact List.getElem_mem _
theorem hg_of {l : List Hi} {x : Hi} (h : x ∈ l) : ∃ i, i < l.length ∧ hg l i = x := by
  obtain ⟨i, hi, rfl⟩ := List.getElem_of_mem h
  exact ⟨i, hi, by unfold hg; rw [List.getD_eq_getElem?_getD, List.getElem?_eq_getElem hi]; rfl⟩
def HOrd (l : List Hi) : Prop := ∀ i, 0 < i → i < l.length → hle (hg l ((i - 1) / 2)) (hg l i)
def HUp (l : List Hi) (j : Nat) : Prop := (∀ i, 0 < i → i < l.length → i ≠ j → hle (hg l ((i - 1) / 2)) (hg l i)) ∧ (∀ i, 0 < i → i < l.length → (i - 1) / 2 = j → 0 < j → hle (hg l ((j - 1) / 2)) (hg l i))
def HDn (l : List Hi) (j : Nat) : Prop := (∀ i, 0 < i → i < l.length → (i - 1) / 2 ≠ j → i ≠ j → hle (hg l ((i - 1) / 2)) (hg l i)) ∧ (∀ i, 0 < i → i < l.length → (i - 1) / 2 = j → 0 < j → hle (hg l ((j - 1) / 2)) (hg l i))
theorem HOrd.up {l : List Hi} (h : HOrd l) (j : Nat) (hj : j < l.length) : HUp l j := by
  refine ⟨fun i h0 hi _ => h i h0 hi, fun i h0 hi e h1 => ?_⟩
  have h2 := h i h0 hi
  rw [e] at h2
  exact hle_trans (h j h1 hj) h2
theorem swapS_len (s : Hs) (i k : Nat) : (swapS s i k).l.length = s.l.length := swpL_len _ _ _
theorem up_inv {Φ : Hs → Prop} {n : Nat} (hsw : ∀ s i k, Φ s → s.l.length = n → i < n → k < n → Φ (swapS s i k)) : ∀ f j s, j < n → s.l.length = n → Φ s → Φ (upS f j s) ∧ (upS f j s).l.length = n
  | 0, j, s, _, hl, h => ⟨h, hl⟩
  | f + 1, j, s, hj, hl, h => by
    by_cases c : 0 < j ∧ hiLt (s.l.getD j default) (s.l.getD ((j - 1) / 2) default)
    · rw [upS_go c]; exact up_inv hsw f _ _ om ((swapS_len s _ _).trans hl) (hsw _ _ _ h hl hj om)
    · rw [upS_stop c]; exact ⟨h, hl⟩
theorem dn_inv {Φ : Hs → Prop} {n : Nat} (hsw : ∀ s i k, Φ s → s.l.length = n → i < n → k < n → Φ (swapS s i k)) : ∀ f j s, j < n → s.l.length = n → Φ s → Φ (dnS f j s) ∧ (dnS f j s).l.length = n
  | 0, j, s, _, hl, h => ⟨h, hl⟩
  | f + 1, j, s, hj, hl, h => by
    by_cases c : 2 * j + 1 < s.l.length ∧ hiLt (s.l.getD (chO s j) default) (s.l.getD j default)
    · have hc := (chO_lt c.1).1
      rw [dnS_go c]; exact dn_inv hsw f _ _ om ((swapS_len s _ _).trans hl) (hsw _ _ _ h hl hj om)
    · rw [dnS_stop c]; exact ⟨h, hl⟩
theorem up_ok : ∀ f j s, j ≤ f → j < s.l.length → HUp s.l j → HOrd (upS f j s).l
  | 0, j, s, hf, hj, h => fun i h0 hi => h.1 i h0 hi om
  | f + 1, j, s, hf, hj, h => by
    by_cases c : 0 < j ∧ hiLt (s.l.getD j default) (s.l.getD ((j - 1) / 2) default)
    · rw [upS_go c]
      have hp : (j - 1) / 2 < s.l.length := by omega
      refine up_ok f _ _ om (by rw [swapS_len]; exact hp) ?_
      have hlt : hiLt (hg s.l j) (hg s.l ((j - 1) / 2)) := c.2
      show HUp (swpL s.l j ((j - 1) / 2)) _
      constructor
      · intro i h0 hi hne
        rw [swpL_len] at hi
        rw [hg_swap hj hp, hg_swap hj hp]
        by_cases e : i = j
        · subst e
          rw [if_pos rfl, if_neg hne, if_pos rfl]; exact hle_of hlt
        · rw [if_neg hne, if_neg e]
          by_cases e2 : (i - 1) / 2 = (j - 1) / 2
          · rw [if_pos e2]
            have := h.1 i h0 hi e
            rw [e2] at this; exact hle_of (hlt_le hlt this)
          · rw [if_neg e2]
            by_cases e3 : (i - 1) / 2 = j
            · rw [if_pos e3]; exact h.2 i h0 hi e3 c.1
            · rw [if_neg e3]; exact h.1 i h0 hi e
      · intro i h0 hi e hp0
        rw [swpL_len] at hi
        rw [hg_swap hj hp, hg_swap hj hp, if_neg om, if_neg om, if_neg om]
        have h1 := h.1 ((j - 1) / 2) hp0 hp om
        by_cases e2 : i = j
        · rw [if_pos e2]; exact h1
        · rw [if_neg e2]
          have h2 := h.1 i h0 hi e2
          rw [e] at h2; exact hle_trans h1 h2
    · rw [upS_stop c]
      intro i h0 hi
      by_cases e : i = j
      · subst e; exact fun z => c ⟨h0, z⟩
      · exact h.1 i h0 hi e
theorem chO_le {s : Hs} {i k : Nat} (h0 : 0 < k) (hk : k < s.l.length) (e : (k - 1) / 2 = i) : hle (hg s.l (chO s i)) (hg s.l k) := by
  unfold chO
  by_cases hb : chB s i
  · rw [if_pos hb]
    rcases (show k = 2 * i + 1 ∨ k = 2 * i + 2 by omega) with e2 | e2
    · subst e2; exact hle_of hb.2
    · subst e2; exact hlt_irr
  · rw [if_neg hb]
    rcases (show k = 2 * i + 1 ∨ k = 2 * i + 2 by omega) with e2 | e2
    · subst e2; exact hlt_irr
    · subst e2; exact fun z => hb ⟨hk, z⟩
theorem dn_ok : ∀ f j s, s.l.length ≤ f + j → j < s.l.length → HDn s.l j → (dnS f j s = s ∧ HUp s.l j) ∨ HOrd (dnS f j s).l
  | 0, j, s, hf, hj, h => by omega
  | f + 1, j, s, hf, hj, h => by
    by_cases c : 2 * j + 1 < s.l.length ∧ hiLt (s.l.getD (chO s j) default) (s.l.getD j default)
    · obtain ⟨hcl, hcj⟩ := chO_lt c.1
      have hpc : (chO s j - 1) / 2 = j := by unfold chO; split <;> omega
      have hlt : hiLt (hg s.l (chO s j)) (hg s.l j) := c.2
      rw [dnS_go c]
      have hD : HDn (swapS s j (chO s j)).l (chO s j) := by
        show HDn (swpL s.l j (chO s j)) _
        constructor
        · intro k h0 hk h1 h2
          rw [swpL_len] at hk
          rw [hg_swap hj hcl, hg_swap hj hcl, if_neg h1, if_neg h2]
          by_cases e : k = j
          · subst e
            rw [if_neg om, if_pos rfl]
            exact h.2 (chO s k) om hcl hpc h0
          · rw [if_neg e]
            by_cases e2 : (k - 1) / 2 = j
            · rw [if_pos e2]; exact chO_le h0 hk e2
            · rw [if_neg e2]; exact h.1 k h0 hk e2 e
        · intro k h0 hk h1 h2
          rw [swpL_len] at hk
          rw [hg_swap hj hcl, hg_swap hj hcl, hpc, if_neg om, if_pos rfl, if_neg om, if_neg om]
          have := h.1 k h0 hk om om
          rw [h1] at this; exact this
      rcases dn_ok f _ _ (by rw [swapS_len]; omega) (by rw [swapS_len]; exact hcl) hD with ⟨e, hU⟩ | hO
      · right
        rw [e]
        intro k h0 hk
        by_cases e2 : k = chO s j
        · subst e2
          show hle (hg (swpL s.l j (chO s j)) _) (hg (swpL s.l j (chO s j)) _)
          rw [hg_swap hj hcl, hg_swap hj hcl, hpc, if_neg om, if_pos rfl, if_pos rfl]
          exact hle_of hlt
        · exact hU.1 k h0 hk e2
      · exact .inr hO
    · left
      rw [dnS_stop c]
      refine ⟨rfl, fun k h0 hk hne => ?_, h.2⟩
      by_cases e : (k - 1) / 2 = j
      · have h1 := chO_le h0 hk e
        have h2 : hle (hg s.l j) (hg s.l (chO s j)) := fun z => c ⟨by omega, z⟩
        rw [e]; exact hle_trans h2 h1
      · exact h.1 k h0 hk e hne
structure HAt (s : Hs) : Prop where
  inj : ∀ i j, i < s.l.length → j < s.l.length → (hg s.l i).id = (hg s.l j).id → i = j
  wk : (s.at_.map (·.1)).Nodup
  wh : ∀ i, i < s.l.length → aget s.at_ (hg s.l i).id = some (.int .i64 (i : Nat))
  wn : ∀ t, (∀ i, i < s.l.length → (hg s.l i).id ≠ t) → aget s.at_ t = none
def sw (i k j : Nat) : Nat := if j = k then i else if j = i then k else j
theorem hg_sw {l : List Hi} {i k : Nat} (hi : i < l.length) (hk : k < l.length) (j : Nat) : hg (swpL l i k) j = hg l (sw i k j) := by
  rw [hg_swap hi hk]; unfold sw; split; rfl; split <;> rfl
theorem sw_lt {i k j n : Nat} (hi : i < n) (hk : k < n) (hj : j < n) : sw i k j < n := by unfold sw; split; exact hi; split; exact hk; exact hj
theorem sw_inj {i k a b : Nat} (h : sw i k a = sw i k b) : a = b := by
  unfold sw at h; split at h <;> split at h <;> (try split at h) <;> (try split at h) <;> omega
theorem sw_sw (i k j : Nat) : sw i k (sw i k j) = j := by
  unfold sw; split <;> (try split) <;> (try split) <;> (try split) <;> omega
theorem HAt.swap {s : Hs} {i k : Nat} (h : HAt s) (hi : i < s.l.length) (hk : k < s.l.length) : HAt (swapS s i k) := by
  have hinj : ∀ a b, a < s.l.length → b < s.l.length → (hg (swpL s.l i k) a).id = (hg (swpL s.l i k) b).id → a = b := fun a b ha hb e => by
    rw [hg_sw hi hk, hg_sw hi hk] at e
    exact sw_inj (h.inj _ _ (sw_lt hi hk ha) (sw_lt hi hk hb) e)
  constructor
  case inj => intro a b ha hb e; rw [swapS_len] at ha hb; exact hinj a b ha hb e
  case wk => exact aputN' (aputN' h.wk)
  case wh =>
    intro j hj
    rw [swapS_len] at hj
    show aget (aput (aput s.at_ (hg (swpL s.l i k) i).id _) (hg (swpL s.l i k) k).id _) (hg (swpL s.l i k) j).id = _
    rw [aget_aput, aget_aput]
    by_cases e1 : j = k
    · subst e1; rw [if_pos rfl]
    · rw [if_neg (fun z => e1 (hinj j k hj hk z))]
      by_cases e2 : j = i
      · subst e2; rw [if_pos rfl]
      · rw [if_neg (fun z => e2 (hinj j i hj hi z)), hg_swap hi hk, if_neg e1, if_neg e2]
        exact h.wh j hj
  case wn =>
    intro t ht
    rw [swapS_len] at ht
    show aget (aput (aput s.at_ (hg (swpL s.l i k) i).id _) (hg (swpL s.l i k) k).id _) t = _
    rw [aget_aput, aget_aput, if_neg (fun z => ht k hk z.symm), if_neg (fun z => ht i hi z.symm)]
    refine h.wn t (fun j hj e => ht (sw i k j) (sw_lt hi hk hj) ?_)
    show (hg (swpL s.l i k) _).id = _
    rw [hg_sw hi hk, sw_sw]; exact e
theorem nodup_of {s : Hs} (h : HAt s) : s.l.Nodup := by
  rw [List.nodup_iff_pairwise_ne] at *
  rw [List.pairwise_iff_getElem]
  intro i j hi hj hij e
  have := h.inj i j hi hj (by unfold hg; rw [List.getD_eq_getElem?_getD, List.getD_eq_getElem?_getD, List.getElem?_eq_getElem hi, List.getElem?_eq_getElem hj, e])
  omega
theorem swpL_mem {l : List Hi} {i k : Nat} (hi : i < l.length) (hk : k < l.length) (x : Hi) : x ∈ swpL l i k ↔ x ∈ l := by
  constructor
  · intro h
    obtain ⟨j, hj, rfl⟩ := hg_of h
    rw [swpL_len] at hj
    rw [hg_sw hi hk]; exact hg_mem (sw_lt hi hk hj)
  · intro h
    obtain ⟨j, hj, rfl⟩ := hg_of h
    have h2 := hg_mem (l := swpL l i k) (i := sw i k j) (by rw [swpL_len]; exact sw_lt hi hk hj)
    rw [hg_sw hi hk, sw_sw] at h2; exact h2
theorem HAt.swap_perm {s : Hs} {i k : Nat} (h : HAt s) (hi : i < s.l.length) (hk : k < s.l.length) : (swapS s i k).l.Perm s.l :=
  (List.perm_ext_iff_of_nodup (nodup_of (h.swap hi hk)) (nodup_of h)).2 (swpL_mem hi hk)
theorem up_keep {f j : Nat} {s : Hs} (h : HAt s) (hj : j < s.l.length) : HAt (upS f j s) ∧ (upS f j s).l.Perm s.l ∧ (upS f j s).l.length = s.l.length := by
  obtain ⟨⟨h1, h2⟩, h3⟩ := up_inv (Φ := fun z => HAt z ∧ z.l.Perm s.l) (n := s.l.length) (fun z i k hz hl hi hk => ⟨hz.1.swap om om, (hz.1.swap_perm om om).trans hz.2⟩) f j s hj rfl ⟨h, List.Perm.refl _⟩
  exact ⟨h1, h2, h3⟩
theorem dn_keep {f j : Nat} {s : Hs} (h : HAt s) (hj : j < s.l.length) : HAt (dnS f j s) ∧ (dnS f j s).l.Perm s.l ∧ (dnS f j s).l.length = s.l.length := by
  obtain ⟨⟨h1, h2⟩, h3⟩ := dn_inv (Φ := fun z => HAt z ∧ z.l.Perm s.l) (n := s.l.length) (fun z i k hz hl hi hk => ⟨hz.1.swap om om, (hz.1.swap_perm om om).trans hz.2⟩) f j s hj rfl ⟨h, List.Perm.refl _⟩
  exact ⟨h1, h2, h3⟩
structure HpR (most : Int) (s : Hs) (S : List Hi) : Prop where
  mst : 0 ≤ most ∧ most ≤ 4096
  ord : HOrd s.l
  at_ : HAt s
  pm : s.l.Perm S
  srt : S.Pairwise hiLt
  le : (s.l.length : Int) ≤ most
def insS (x : Hi) : List Hi → List Hi
  | [] => [x]
  | y :: l => if hiLt x y then x :: y :: l else y :: insS x l
theorem insS_perm (x : Hi) : ∀ l, (insS x l).Perm (x :: l)
  | [] => List.Perm.refl _
  | y :: l => by
    unfold insS
    split
    · exact List.Perm.refl _
    · exact ((insS_perm x l).cons y).trans (List.Perm.swap x y l)
theorem insS_sorted {x : Hi} : ∀ {l : List Hi}, l.Pairwise hiLt → (∀ y ∈ l, y.id ≠ x.id) → (insS x l).Pairwise hiLt
  | [], _, _ => List.pairwise_singleton ..
  | y :: l, h, hn => by
    unfold insS
    have h1 := List.pairwise_cons.1 h
    split
    · rename_i hlt
      exact List.pairwise_cons.2 ⟨fun z hz => by
        rcases List.mem_cons.1 hz with rfl | hz
        · exact hlt
        · exact hlt_trans hlt (h1.1 z hz), h⟩
    · rename_i hlt
      refine List.pairwise_cons.2 ⟨fun z hz => ?_, insS_sorted h1.2 (fun z hz => hn z (List.mem_cons_of_mem _ hz))⟩
      rcases List.mem_cons.1 ((insS_perm x l).mem_iff.1 hz) with rfl | hz
      · exact (hlt_or (hn y (List.mem_cons_self ..))).resolve_right hlt
      · exact h1.1 z hz
def pushS (s : Hs) (x : Hi) : Hs := upS s.l.length s.l.length ⟨s.l ++ [x], aput s.at_ x.id (.int .i64 (s.l.length : Nat))⟩
theorem hg_snoc (l : List Hi) (x : Hi) (j : Nat) : hg (l ++ [x]) j = if j = l.length then x else hg l j := by
  unfold hg
  rw [List.getD_eq_getElem?_getD, List.getD_eq_getElem?_getD]
  by_cases e : j = l.length
  · subst e; simp
  · rw [if_neg e]
    rcases Nat.lt_or_ge j l.length with h | h
    · rw [List.getElem?_append_left h]
    · rw [List.getElem?_eq_none (by rw [List.length_append, List.length_singleton]; omega), List.getElem?_eq_none h]
theorem HAt.has {s : Hs} (h : HAt s) (t : Int) : (aget s.at_ t).isSome = true ↔ ∃ x ∈ s.l, x.id = t := by
  constructor
  · intro q
    apply Classical.byContradiction
    intro hn
    have := h.wn t (fun i hi e => hn ⟨_, hg_mem hi, e⟩)
    rw [this] at q; cases q
  · rintro ⟨x, hx, rfl⟩
    obtain ⟨i, hi, rfl⟩ := hg_of hx
    rw [h.wh i hi]; rfl
theorem HpR.has {most : Int} {s : Hs} {S : List Hi} (h : HpR most s S) (t : Int) : (aget s.at_ t).isSome = true ↔ ∃ x ∈ S, x.id = t := by
  rw [h.at_.has]
  constructor
  · rintro ⟨x, hx, e⟩; exact ⟨x, h.pm.mem_iff.1 hx, e⟩
  · rintro ⟨x, hx, e⟩; exact ⟨x, h.pm.mem_iff.2 hx, e⟩
theorem push_heap {most : Int} {s : Hs} {S : List Hi} (h : HpR most s S) (x : Hi) (hn : ∀ y ∈ S, y.id ≠ x.id) (hl : ¬ most ≤ (s.l.length : Int)) : HpR most (pushS s x) (insS x S) := by
  have hln : (s.l ++ [x]).length = s.l.length + 1 := by rw [List.length_append, List.length_singleton]
  have hA : HAt ⟨s.l ++ [x], aput s.at_ x.id (.int .i64 (s.l.length : Nat))⟩ := by
    constructor
    case inj =>
      intro i j hi hj e
      rw [show (Hs.mk (s.l ++ [x]) (aput s.at_ x.id (.int .i64 (s.l.length : Nat)))).l = s.l ++ [x] from rfl] at *
      rw [hln] at hi hj
      rw [hg_snoc, hg_snoc] at e
      by_cases e1 : i = s.l.length
      · by_cases e2 : j = s.l.length
        · omega
        · rw [if_pos e1, if_neg e2] at e
          exact absurd e.symm (hn _ (h.pm.mem_iff.1 (hg_mem om)))
      · by_cases e2 : j = s.l.length
        · rw [if_neg e1, if_pos e2] at e
          exact absurd e (hn _ (h.pm.mem_iff.1 (hg_mem om)))
        · rw [if_neg e1, if_neg e2] at e
          exact h.at_.inj i j om om e
    case wk => exact aputN' h.at_.wk
    case wh =>
      intro i hi
      rw [show (Hs.mk (s.l ++ [x]) (aput s.at_ x.id (.int .i64 (s.l.length : Nat)))).l = s.l ++ [x] from rfl] at *
      rw [hln] at hi
      show aget (aput s.at_ x.id _) _ = _
      rw [hg_snoc, aget_aput]
      by_cases e1 : i = s.l.length
      · rw [if_pos e1, if_pos rfl, e1]
      · rw [if_neg e1, if_neg (hn _ (h.pm.mem_iff.1 (hg_mem om)))]
        exact h.at_.wh i om
    case wn =>
      intro t ht
      rw [show (Hs.mk (s.l ++ [x]) (aput s.at_ x.id (.int .i64 (s.l.length : Nat)))).l = s.l ++ [x] from rfl] at *
      rw [hln] at ht
      show aget (aput s.at_ x.id _) t = _
      have h1 := ht s.l.length om
      rw [hg_snoc, if_pos rfl] at h1
      rw [aget_aput, if_neg (fun z => h1 z.symm)]
      refine h.at_.wn t (fun i hi => ?_)
      have h2 := ht i om
      rw [hg_snoc, if_neg om] at h2; exact h2
  have hj : s.l.length < (s.l ++ [x]).length := by omega
  obtain ⟨h1, h2, h3⟩ := up_keep (f := s.l.length) (j := s.l.length) hA hj
  have hU : HUp (s.l ++ [x]) s.l.length := by
    constructor
    · intro i h0 hi hne
      rw [hln] at hi
      rw [hg_snoc, hg_snoc, if_neg om, if_neg hne]; exact h.ord i h0 om
    · intro i h0 hi e _
      rw [hln] at hi; omega
  refine ⟨h.mst, up_ok _ _ _ (Nat.le_refl _) hj hU, h1, h2.trans ?_, insS_sorted h.srt hn, ?_⟩
  · exact (List.perm_append_comm.trans (h.pm.cons x)).trans (insS_perm x S).symm
  · show ((upS _ _ _).l.length : Int) ≤ _
    rw [h3]; show (((s.l ++ [x]).length : Nat) : Int) ≤ _; rw [hln]; omega
def cutS (s : Hs) (i : Nat) : Hs := ⟨(swpL s.l i (s.l.length - 1)).take (s.l.length - 1), adel (swapS s i (s.l.length - 1)).at_ (hg s.l i).id⟩
def tkS (s : Hs) (i : Nat) : Hs := if i < s.l.length - 1 then upS i i (dnS (s.l.length - 1) i (cutS s i)) else cutS s i
theorem hg_take (l : List Hi) {n j : Nat} (h : j < n) : hg (l.take n) j = hg l j := by
  unfold hg; rw [List.getD_eq_getElem?_getD, List.getD_eq_getElem?_getD, List.getElem?_take, if_pos h]
theorem cutS_len {s : Hs} {i : Nat} (hi : i < s.l.length) : (cutS s i).l.length = s.l.length - 1 := by
  show (List.take _ _).length = _; rw [List.length_take, swpL_len]; omega
theorem hg_cut {s : Hs} {i j : Nat} (hi : i < s.l.length) (hj : j < s.l.length - 1) : hg (cutS s i).l j = if j = i then hg s.l (s.l.length - 1) else hg s.l j := by
  show hg (List.take _ _) j = _
  rw [hg_take _ hj, hg_swap hi om, if_neg om]
theorem cut_at {s : Hs} {i : Nat} (h : HAt s) (hi : i < s.l.length) : HAt (cutS s i) := by
  have hk : s.l.length - 1 < s.l.length := by omega
  have hS := h.swap hi hk
  have hlast : hg (swpL s.l i (s.l.length - 1)) (s.l.length - 1) = hg s.l i := by rw [hg_swap hi hk, if_pos rfl]
  have hc : ∀ j, j < s.l.length - 1 → hg (cutS s i).l j = hg (swpL s.l i (s.l.length - 1)) j := fun j hj => hg_take _ hj
  constructor
  case inj =>
    intro a b ha hb e
    rw [cutS_len hi] at ha hb
    rw [hc a ha, hc b hb] at e
    exact hS.inj a b (by rw [swapS_len]; omega) (by rw [swapS_len]; omega) e
  case wk => exact adelN' hS.wk
  case wh =>
    intro j hj
    rw [cutS_len hi] at hj
    show aget (adel (swapS s i (s.l.length - 1)).at_ (hg s.l i).id) _ = _
    rw [aget_adel' hS.wk, hc j hj, if_neg ?_]
    · exact hS.wh j (by rw [swapS_len]; omega)
    · intro e
      rw [← hlast] at e
      have := hS.inj j (s.l.length - 1) (by rw [swapS_len]; omega) (by rw [swapS_len]; omega) e
      omega
  case wn =>
    intro t ht
    rw [cutS_len hi] at ht
    show aget (adel (swapS s i (s.l.length - 1)).at_ (hg s.l i).id) t = _
    rw [aget_adel' hS.wk]
    by_cases e : t = (hg s.l i).id
    · rw [if_pos e]
    · rw [if_neg e]
      refine hS.wn t (fun j hj => ?_)
      rw [swapS_len] at hj
      show (hg (swpL s.l i (s.l.length - 1)) j).id ≠ t
      by_cases e2 : j = s.l.length - 1
      · rw [e2, hlast]; exact fun z => e z.symm
      · rw [← hc j om]; exact ht j om
theorem cut_perm {s : Hs} {i : Nat} (h : HAt s) (hi : i < s.l.length) : (cutS s i).l.Perm (s.l.filter (fun x => x.id ≠ (hg s.l i).id)) := by
  have hk : s.l.length - 1 < s.l.length := by omega
  refine (List.perm_ext_iff_of_nodup (nodup_of (cut_at h hi)) ((nodup_of h).filter _)).2 (fun x => ?_)
  rw [List.mem_filter]
  constructor
  · intro hx
    obtain ⟨j, hj, rfl⟩ := hg_of hx
    rw [cutS_len hi] at hj
    rw [hg_cut hi hj]
    by_cases e : j = i
    · rw [if_pos e]
      exact ⟨hg_mem hk, decide_eq_true (fun z => by have := h.inj _ _ hk hi z; omega)⟩
    · rw [if_neg e]
      exact ⟨hg_mem om, decide_eq_true (fun z => e (h.inj _ _ om hi z))⟩
  · rintro ⟨hx, hne⟩
    have hne' := of_decide_eq_true hne
    obtain ⟨j, hj, rfl⟩ := hg_of hx
    by_cases e : j = s.l.length - 1
    · have hi2 : i < s.l.length - 1 := by
        rcases Nat.lt_or_ge i (s.l.length - 1) with z | z
        · exact z
        · exact absurd (by rw [e]; congr 2; omega) hne'
      have := hg_mem (l := (cutS s i).l) (i := i) (by rw [cutS_len hi]; exact hi2)
      rw [hg_cut hi hi2, if_pos rfl] at this
      rw [e]; exact this
    · have hji : j ≠ i := fun z => hne' (by rw [z])
      have := hg_mem (l := (cutS s i).l) (i := j) (by rw [cutS_len hi]; omega)
      rw [hg_cut hi om, if_neg hji] at this; exact this
theorem cut_dn {s : Hs} {i : Nat} (h : HOrd s.l) (hi : i < s.l.length) : HDn (cutS s i).l i := by
  constructor
  · intro k h0 hk h1 h2
    rw [cutS_len hi] at hk
    rw [hg_cut hi hk, hg_cut hi om, if_neg h1, if_neg h2]; exact h k h0 om
  · intro k h0 hk h1 h2
    rw [cutS_len hi] at hk
    rw [hg_cut hi hk, hg_cut hi om, if_neg om, if_neg om]
    have h3 := h k h0 om
    rw [h1] at h3
    exact hle_trans (h i h2 hi) h3
theorem take_heap {most : Int} {s : Hs} {S : List Hi} (h : HpR most s S) {i : Nat} (hi : i < s.l.length) : HpR most (tkS s i) (S.filter (fun x => x.id ≠ (hg s.l i).id)) := by
  have hc := cut_at h.at_ hi
  have hp := (cut_perm h.at_ hi).trans (h.pm.filter _)
  have hl := cutS_len (s := s) hi
  have hle := h.le
  have hsrt : (S.filter (fun x => x.id ≠ (hg s.l i).id)).Pairwise hiLt := h.srt.filter _
  unfold tkS
  by_cases e : i < s.l.length - 1
  · rw [if_pos e]
    have hic : i < (cutS s i).l.length := by omega
    obtain ⟨d1, d2, d3⟩ := dn_keep (f := s.l.length - 1) (j := i) hc hic
    obtain ⟨u1, u2, u3⟩ := up_keep (f := i) (j := i) d1 om
    refine ⟨h.mst, ?_, u1, (u2.trans d2).trans hp, hsrt, by omega⟩
    refine up_ok _ _ _ (Nat.le_refl _) om ?_
    rcases dn_ok (s.l.length - 1) i (cutS s i) om hic (cut_dn h.ord hi) with ⟨q1, q2⟩ | q
    · rw [q1]; exact q2
    · exact q.up i om
  · rw [if_neg e]
    refine ⟨h.mst, fun k h0 hk => ?_, hc, hp, hsrt, by omega⟩
    rw [hl] at hk
    rw [hg_cut hi hk, hg_cut hi om, if_neg om, if_neg om]; exact h.ord k h0 om
theorem HpR.ids {most : Int} {s : Hs} {S : List Hi} (h : HpR most s S) : S.Pairwise (fun a b => a.id ≠ b.id) := by
  have h1 : s.l.Pairwise (fun a b => a.id ≠ b.id) := by
    rw [List.pairwise_iff_getElem]
    intro i j hi hj hij e
    have := h.at_.inj i j hi hj (by unfold hg; rw [List.getD_eq_getElem?_getD, List.getD_eq_getElem?_getD, List.getElem?_eq_getElem hi, List.getElem?_eq_getElem hj]; exact e)
    omega
  exact (h.pm.pairwise_iff (fun e => fun z => e z.symm)).1 h1
end Go.Eng
namespace Go.Eng
open Go Go.Proofs Go.RowKit
def HpM (most : Int) (n0 b : Nat) (s : Hs) (m : Mem0) : Prop := ∃ (ad : Option Addr) (n cap bm : Nat) (es : Array MapEntry) (cl : Nat) (ms : Mem0), m = hpC b most ad n cap bm :: (bm, .map es cl) :: ms ∧ n = s.l.length ∧ Sl fHi 160 3 n0 s.l (.slice ad n cap) ms ∧ EnsS .i64 es cl s.at_ ∧ n0 ≤ b ∧ n0 ≤ bm
def HoM (most : Int) (n0 b : Nat) (S : List Hi) (m : Mem0) : Prop := ∃ s, HpR most s S ∧ HpM most n0 b s m
theorem HpM.ge {most : Int} {n0 b : Nat} {s : Hs} {m : Mem0} (h : HpM most n0 b s m) : ∀ p ∈ m, n0 ≤ p.1 := by
  obtain ⟨ad, n, cap, bm, es, cl, ms, rfl, hn, hs, he, hb, hbm⟩ := h
  intro p hp
  simp only [List.mem_cons] at hp
  rcases hp with rfl | rfl | hp
  · exact hb
  · exact hbm
  · exact hs.ge p hp
theorem HpM.wlk {most : Int} {n0 b : Nat} {s : Hs} {m : Mem0} (h : HpM most n0 b s m) : ∀ p ∈ m, wlk p.2 = false := by
  obtain ⟨ad, n, cap, bm, es, cl, ms, rfl, hn, hs, he, hb, hbm⟩ := h
  exact wlk_h rfl rfl hs.wlk
theorem HpM.mono {most : Int} {n0 n1 b : Nat} {s : Hs} {m : Mem0} (h : HpM most n0 b s m) (k : n1 ≤ n0) : HpM most n1 b s m := by
  obtain ⟨ad, n, cap, bm, es, cl, ms, rfl, hn, hs, he, hb, hbm⟩ := h
  exact ⟨ad, n, cap, bm, es, cl, ms, rfl, hn, hs.mono k, he, Nat.le_trans k hb, Nat.le_trans k hbm⟩
theorem HoM.ge {most : Int} {n0 b : Nat} {S : List Hi} {m : Mem0} (h : HoM most n0 b S m) : ∀ p ∈ m, n0 ≤ p.1 := by obtain ⟨s, _, h⟩ := h; exact h.ge
theorem HoM.wlk {most : Int} {n0 b : Nat} {S : List Hi} {m : Mem0} (h : HoM most n0 b S m) : ∀ p ∈ m, wlk p.2 = false := by obtain ⟨s, _, h⟩ := h; exact h.wlk
theorem HoM.mono {most : Int} {n0 n1 b : Nat} {S : List Hi} {m : Mem0} (h : HoM most n0 b S m) (k : n1 ≤ n0) : HoM most n1 b S m := by obtain ⟨s, h1, h⟩ := h; exact ⟨s, h1, h.mono k⟩
theorem Sl.preH {α : Type} {f : α → List Value} {E s n0 : Nat} {xs : List α} {ad : Option Addr} {n cap : Nat} {m : Mem0} (h : Sl f E s n0 xs (.slice ad n cap) m) (hf : ∀ a, (f a).length = s) {k : Nat} (hk : k ≤ xs.length) : Sl f E s n0 (xs.take k) (.slice ad k cap) m := by
  rcases h with ⟨h1, h2, h3⟩ | ⟨b, c, junk, hb, hv, rfl, hle, hmax, hsz⟩
  · subst h3; simp at hk; subst hk
    cases h1
    exact .inl ⟨rfl, h2, rfl⟩
  · cases hv
    have e : (xs.take k).length = k := by rw [List.length_take]; omega
    refine .inr ⟨b, cap, (xs.drop k).flatMap f ++ junk, hb, by rw [e], ?_, by omega, hmax, ?_⟩
    · congr 2
      unfold arr; rw [← List.append_assoc, ← List.flatMap_append, List.take_append_drop]
    · have h3 : (xs.drop k).length = xs.length - k := List.length_drop
      have e2 : xs.length * s = k * s + (xs.length - k) * s := by rw [← Nat.add_mul]; congr 1; omega
      rw [e, List.length_append, flatMap_len hf, h3]; omega
def hpE (most : Int) (s : Hs) (x : Hi) : Int := if (aget s.at_ x.id).isSome = true then 12 else if most ≤ (s.l.length : Int) then 3 else 0
def hpX (most : Int) (s : Hs) (x : Hi) : Hs := if (aget s.at_ x.id).isSome = true then s else if most ≤ (s.l.length : Int) then s else pushS s x
theorem hp_leaf {most : Int} {n0 b n n' cap cap' bm cl cl' : Nat} {ad ad' : Option Addr} {es es' : Array MapEntry} {s' : Hs} {ms ms' M : Mem0} {u0 : Value} {w w' : World} (hn : n' = s'.l.length) (hs : Sl fHi 160 3 n0 s'.l (.slice ad' n' cap') ms') (he : EnsS .i64 es' cl' s'.at_) (hb : n0 ≤ b) (hbm : n0 ≤ bm) (hm : Mem w' M)
    (hsub : SubM M (hpC b most ad' n' cap' bm :: (bm, .map es' cl') :: (ms' ++ []))) (hc : Chg (inM (hpC b most ad n cap bm :: (bm, .map es cl) :: ms)) w w') (hin : inn ms w.heap.size ms') :
    Upd (hpC b most ad n cap bm :: (bm, .map es cl) :: ms) (fun u m' => u = u0 ∧ HpM most n0 b s' m') w u0 w' := by
  rw [List.append_nil] at hsub
  refine ⟨hc, _, ⟨rfl, ad', n', cap', bm, es', cl', ms', rfl, hn, hs, he, hb, hbm⟩, hsub.mem w' hm, fun p hp => ?_⟩
  simp only [List.mem_cons] at hp
  rcases hp with rfl | rfl | hp
  · exact .inr ⟨_, List.mem_cons_self .., rfl⟩
  · exact .inr ⟨(bm, .map es cl), by simp only [List.mem_cons, true_or, or_true], rfl⟩
  · rcases hin p hp with q | ⟨q, hq, e⟩
    · exact .inl q
    · exact .inr ⟨q, List.mem_cons_of_mem _ (List.mem_cons_of_mem _ hq), e⟩
theorem inn_tail2 {a a' c c' : Nat × Obj} {m x : Mem0} {k : Nat} (e1 : a.1 = a'.1) (e2 : c.1 = c'.1) (h : inn (a :: c :: m) k (a' :: c' :: x)) (h1 : ∀ p ∈ x, p.1 ≠ a.1) (h2 : ∀ p ∈ x, p.1 ≠ c.1) : inn m k x := fun p hp => by
  rcases h p (List.mem_cons_of_mem _ (List.mem_cons_of_mem _ hp)) with q | ⟨q, hq, e⟩
  · exact .inl q
  · rcases List.mem_cons.1 hq with rfl | hq
    · exact absurd e.symm (h1 p hp)
    · rcases List.mem_cons.1 hq with rfl | hq
      · exact absurd e.symm (h2 p hp)
      · exact .inr ⟨q, hq, e⟩
theorem mem_ne2 {w : World} {a c : Nat × Obj} {m : Mem0} (h : Mem w (a :: c :: m)) : (∀ p ∈ m, p.1 ≠ a.1) ∧ (∀ p ∈ m, p.1 ≠ c.1) := by
  have h1 := h.1
  simp only [List.map_cons, List.nodup_cons] at h1
  exact ⟨fun p hp e => h1.1 (List.mem_cons_of_mem _ (e ▸ List.mem_map_of_mem hp)), fun p hp e => h1.2.1 (e ▸ List.mem_map_of_mem hp)⟩
theorem inn_h {a a' c c' : Nat × Obj} {m x : Mem0} {k : Nat} (e1 : a.1 = a'.1) (e2 : c.1 = c'.1) (h : inn m k x) : inn (a :: c :: m) k (a' :: c' :: x) := fun p hp => by
  rcases List.mem_cons.1 hp with rfl | hp
  · exact .inr ⟨a, List.mem_cons_self .., e1⟩
  · rcases List.mem_cons.1 hp with rfl | hp
    · exact .inr ⟨c, List.mem_cons_of_mem _ (List.mem_cons_self ..), e2⟩
    · rcases h p hp with q | ⟨q, hq, e⟩
      · exact .inl q
      · exact .inr ⟨q, List.mem_cons_of_mem _ (List.mem_cons_of_mem _ hq), e⟩
theorem upS_len {f j : Nat} {s : Hs} (h : j < s.l.length) : (upS f j s).l.length = s.l.length := (up_inv (Φ := fun _ => True) (n := s.l.length) (fun _ _ _ _ _ _ _ => trivial) f j s h rfl trivial).2
theorem dnS_len {f j : Nat} {s : Hs} (h : j < s.l.length) : (dnS f j s).l.length = s.l.length := (dn_inv (Φ := fun _ => True) (n := s.l.length) (fun _ _ _ _ _ _ _ => trivial) f j s h rfl trivial).2
theorem hlen_spec {most : Int} {n0 b : Nat} {s : Hs} {m : Mem0} (w : World) (h : HpM most n0 b s m) (hM : Mem w m) : Ret Tryz.prog 157 #[.pointer (some ⟨b, 0, none⟩)] w (fun u w' => u = .int .i64 (s.l.length : Nat) ∧ Ext w w') := by
 obtain ⟨ad, n, cap, bm, es, cl, ms, rfl, rfl, hs, he, hb, hbm⟩ := h
 refine Ret.enterM Tryz.func157 rfl Tryz.ntmps157 rfl (hpC b most ad s.l.length cap bm :: (bm, .map es cl) :: (ms ++ [])) (no) aM ?_
 refine wR <| LM.as rfl <| nA [(0, _)] <| wpM.seq <| wR <| LM.mv rfl ?_
 refine LM.val (ov_peql kr rfl rfl) ?_
 refine nA [(0, _), (4, _)] ?_
 refine wpM.condF rfl ?_
 refine wpM.skip <| tR <| LM.mv rfl <| LM.nc rfl <| LM.val (ovf 149 rfl rfl rfl rfl) ?_
 refine LM.rd (oml rfl rfl rfl) ?_
 refine LM.val (ov_len Tryz.underlying149 rfl) <| LM.as rfl <| nA [(2, _)] <| wpM.ret ?_
 refine qL Tryz.results157 rfl fun w' hm' hc' hg' => ?_
 exact ⟨rfl, hc'⟩
theorem hpush_spec {most : Int} {n0 b : Nat} {s : Hs} {m : Mem0} (x : Hi) (w : World) (h : HpM most n0 b s m) (hlen : s.l.length ≤ 4096) (hmost : most ≤ 4096) (hn0 : n0 ≤ w.heap.size) (hM : Mem w m) : Ret Tryz.prog 94 #[.pointer (some ⟨b, 0, none⟩), .agg (fKy x).toArray, .int .i64 x.x] w (Upd m (fun u m' => u = .int .i64 (hpE most s x) ∧ HpM most n0 b (hpX most s x) m') w) := by
 obtain ⟨ad, n, cap, bm, es, cl, ms, rfl, hn, hs, he, hb, hbm⟩ := h; have he1 := he.1
 refine Ret.enterM Tryz.func94 rfl Tryz.ntmps94 rfl (hpC b most ad n cap bm :: (bm, .map es cl) :: (ms ++ [])) ((inM (hpC b most ad n cap bm :: (bm, .map es cl) :: ms))) aM ?_
 refine wR ?_
 refine LM.box rfl rfl (fun b4 hb4 => ?_)
 refine LM.as rfl <| nA [(0, _), (2, _), (4, _)] <| wpM.seq <| wR <| LM.mv rfl ?_
 refine LM.val (ov_peql kr rfl rfl) ?_
 refine nA [(0, _), (2, _), (4, _), (10, _)] ?_
 refine wpM.condF rfl ?_
 refine wpM.skip <| QM.then <| wpM.seq <| wpM.seq ?_
 refine wpM.draw [(0, 0), (1, 0), (2, 0), (3, 1), (4, 0), (5, 1), (6, 1), (7, 0), (8, 0), (9, 0), (10, 0), (11, 0)] kr kr ?_
 refine LD.val rfl rfl (ov_move rfl) <| LD.val rfl rfl (ov_nilCheck rfl) <| LD.val rfl rfl (ovf 72 rfl rfl rfl rfl) ?_
 refine LD.rd rfl rfl (oml rfl rfl rfl) ?_
 refine LD.val rfl rfl (ovf 3 rfl rfl rfl rfl) ?_
 refine LD.rd rfl rfl (oml rfl rfl rfl) ?_
 refine LD.rd rfl rfl (om_lkOk Tryz.underlying72 Tryz.underlying3 Tryz.zeroValue3 rfl rfl asm rfl rfl) ?_
 refine LD.val rfl rfl (ov_move rfl) ?_
 refine LD.val rfl rfl (ov_extract rfl rfl) ?_
 refine LD.val rfl rfl (ov_extract rfl rfl) ?_
 refine LD.val rfl rfl (ov_assign rfl) <| LD.val rfl rfl (ov_assign rfl) <| LD.nil ?_
 refine QM.sub (e' := [(0, _), (2, _), (4, _), (8, _)]) au9 (QM.then (wpM.seq (wpM.region ?_)))
 refine LM.mv rfl <| nA [(0, _), (2, _), (4, _), (21, _)] ?_
 first | refine wpM.condD rfl (fun h1 => ?_) (fun h1 => ?_) | refine wpM.condB rfl (fun h1 => ?_) (fun h1 => ?_)
 ·
  refine wR <| LM.as rfl <| nA [(6, _)] <| wpM.ret <| QM.then_ret ?_
  refine qL Tryz.results94 rfl fun w' hm' hc' hg' => ?_
  rw [show hpE most s x = 12 from if_pos h1, show hpX most s x = s from if_pos h1]; exact hp_leaf hn hs he hb hbm hm' (by (repeat' (first | exact SubM.nil _ | refine SubM.cons (by rfl) ?_ | refine SubM.app ?_))) hc' (inn_refl _ _)
 refine wpM.skip <| QM.then <| wpM.seq <| wpM.seq ?_
 refine wpM.draw [(0, 0), (1, 0), (2, 0), (3, 1), (4, 0), (5, 0), (6, 0), (7, 0), (8, 1), (9, 0)] kr kr ?_
 refine LD.val rfl rfl (ov_move rfl) <| LD.val rfl rfl (ov_nilCheck rfl) <| LD.val rfl rfl (ovf 149 rfl rfl rfl rfl) ?_
 refine LD.rd rfl rfl (oml rfl rfl rfl) ?_
 refine LD.val rfl rfl (ov_len Tryz.underlying149 rfl) ?_
 refine LD.val rfl rfl (ov_move rfl) <| LD.val rfl rfl (ov_nilCheck rfl) <| LD.val rfl rfl (ovf 3 rfl rfl rfl rfl) ?_
 refine LD.rd rfl rfl (oml rfl rfl rfl) ?_
 refine LD.val rfl rfl (ov_geq rfl rfl) ?_
 refine LD.nil ?_
 refine QM.sub (e' := [(0, _), (2, _), (4, _), (31, _)]) au9 (QM.then ?_)
 refine wpM.condD rfl (fun h2 => ?_) (fun h2 => ?_)
 ·
  refine wR <| LM.as rfl <| nA [(6, _)] <| wpM.ret <| QM.then_ret ?_
  refine qL Tryz.results94 rfl fun w' hm' hc' hg' => ?_
  rw [show hpE most s x = 3 by (unfold hpE; rw [if_neg (by simpa using h1), if_pos om]), show hpX most s x = s by (unfold hpX; rw [if_neg (by simpa using h1), if_pos om])]; exact hp_leaf hn hs he hb hbm hm' (by (repeat' (first | exact SubM.nil _ | refine SubM.cons (by rfl) ?_ | refine SubM.app ?_))) hc' (inn_refl _ _)
 refine wpM.skip <| QM.then <| wpM.seq ?_
 refine wpM.draw [(0, 0), (1, 0), (2, 0), (3, 1), (4, 0), (5, 1), (6, 0), (7, 0), (8, 0), (9, 1), (10, 0), (11, 3)] kr kr ?_
 refine LD.val rfl rfl (ov_move rfl) <| LD.val rfl rfl (ov_nilCheck rfl) <| LD.val rfl rfl (ovf 72 rfl rfl rfl rfl) ?_
 refine LD.rd rfl rfl (oml rfl rfl rfl) ?_
 refine LD.val rfl rfl (ovf 3 rfl rfl rfl rfl) ?_
 refine LD.rd rfl rfl (oml rfl rfl rfl) ?_
 refine LD.val rfl rfl (ov_move rfl) <| LD.val rfl rfl (ov_nilCheck rfl) <| LD.val rfl rfl (ovf 149 rfl rfl rfl rfl) ?_
 refine LD.rd rfl rfl (oml rfl rfl rfl) ?_
 refine LD.val rfl rfl (ov_len Tryz.underlying149 rfl) ?_
 refine LD.tail rfl rfl ?_
 refine LM.mUS Tryz.underlying72 Tryz.underlying3 rfl rfl rfl asm auH (fun esu1 clu1 hesu1 => ?_)
 refine LM.nil ?_
 refine QM.qn ?_
 refine QM.sub (e' := [(0, _), (2, _), (4, _)]) au9 (QM.then ?_)
 refine wpM.seq ?_
 refine wpM.keep (hpC b most ad n cap bm :: (b4, .cells (fKy x).toArray 129 (0, 0)) :: []) (fun _ => True) (.one 0 0 (.one 1 0 (.one 2 0 (.one 3 0 (.one 4 1 (.one 5 1 (.one 6 0 (.one 7 0 (.one 8 2 (.one 9 2 (.one 10 0 (.one 11 0 (.last 12))))))))))))) kr kr au1 (fun _ _ => trivial) ?_
 refine KD.val rfl rfl (ov_move rfl) <| KD.val rfl rfl (ov_move rfl) <| KD.val rfl rfl (ov_nilCheck rfl) <| KD.val rfl rfl (ovf 149 rfl rfl rfl rfl) ?_
 refine KD.rd rfl rfl (oml rfl rfl rfl) ?_
 refine KD.rd rfl rfl (om_ldW Tryz.isAgg129 Tryz.sizeOf129 rfl rfl) ?_
 refine KD.val rfl rfl (ov_move rfl) ?_
 refine KD.val rfl rfl (ov_build (cs := #[_, _, _]) rfl (by first | rfl | kernel_rfl)) ?_
 refine KD.one rfl ?_
 refine LM.single Tryz.underlying149 Tryz.sizeOf160 Tryz.zeroValue160 rfl rfl rfl rfl rfl (fun b51 hb51 => ?_)
 refine LM.nil ?_
 refine kq1 ?_
 refine KD.one rfl ?_
 refine LM.app (a := x) Tryz.underlying149 Tryz.typeInfo160 rfl rfl rfl rfl rfl rfl rfl asm (by rfl) ir (by intro _ u hu; simp [fHi] at hu; (repeat (first | (rcases hu with rfl | hu) | subst hu | rfl))) (by first | exact Nat.le_refl _ | omega) (fun p hp hlt => by first | exact inM_hs p hp | exact absurd hlt (Nat.not_lt_of_le (Sl.ge asm p hp))) (by first | omega | (unfold maxLen; omega)) (by simp only [Tryz.t160]; omega) (fun ad52 n52 cap52 m52 hn52 hs52 hin52 => ?_)
 refine LM.nil ?_
 refine kq1 ?_
 refine KD.val rfl rfl (ov_nilCheck rfl) <| KD.val rfl rfl (ovf 149 rfl rfl rfl rfl) ?_
 refine KD.last rfl ?_
 refine LM.st Tryz.sizeOf149 rfl rfl rfl au5 rfl auH ?_
 refine LM.mem (SubM.mem (M' := hpC b most ad52 n52 cap52 bm :: (bm, .map esu1 clu1) :: (m52 ++ [])) au1) ?_
 refine LM.nil ?_
 refine QM.qn ?_
 refine QM.sub (e' := [(0, _)]) ⟨rfl, trivial⟩ (QM.then (wpM.seq (wpM.region ?_)))
 refine LM.mv rfl <| LM.mv rfl <| LM.nc rfl <| LM.val (ovf 149 rfl rfl rfl rfl) ?_
 refine LM.rd (oml rfl rfl rfl) ?_
 refine LM.val (ov_len Tryz.underlying149 rfl) ?_
 refine LM.val (ov_sub64 rfl rfl om) ?_
 have hl52 : n52 = s.l.length + 1 := hs52.len.1.trans (by rw [List.length_append, List.length_singleton]); rw [show ((n52 : Nat) : Int) - 1 = ((s.l.length : Nat) : Int) by omega]
 refine cU Tryz.func132 rfl (fun w hm hc hg => hup_spec s.l.length w hs52.len.1 hs52 hesu1 (by rw [List.length_append]; simp) (by rw [List.length_append, List.length_singleton]; omega) (hm.pick (hpC b most ad52 n52 cap52 bm :: (bm, .map esu1 clu1) :: m52))) (wlk_h rfl rfl hs52.wlk) (inn_S (inn_h (by rfl) (by rfl) hin52) inM_in) ?_
 rintro u62 m62 ⟨rfl, es2, cl2, m2, rfl, hs2, he2⟩ hin62
 refine LM.nil (QM.sub (e' := []) trivial (QM.then (wpM.seq (wpM.region ?_))))
 refine LM.as rfl <| nA [(6, _)] <| wpM.ret ?_
 refine qL Tryz.results94 rfl fun w' hm' hc' hg' => ?_
 rw [show hpE most s x = 0 by (unfold hpE; rw [if_neg (by simpa using h1), if_neg om]), show hpX most s x = pushS s x by (unfold hpX; rw [if_neg (by simpa using h1), if_neg om])]; rw [hn] at hs2 he2; have k0 := mem_ne2 (SubM.mem (M' := hpC b most ad52 n52 cap52 bm :: (bm, .map es2 cl2) :: (m2 ++ [])) (by (repeat' (first | exact SubM.nil _ | refine SubM.cons (by rfl) ?_ | refine SubM.app ?_))) w' hm'); rw [List.append_nil] at k0; exact hp_leaf (s' := pushS s x) (by unfold pushS; rw [upS_len (by show _ < (_ ++ _ : List Hi).length; rw [List.length_append, List.length_singleton]; omega)]; show n52 = (_ ++ _ : List Hi).length; rw [List.length_append, List.length_singleton]; omega) hs2 he2 hb hbm hm' (by (repeat' (first | exact SubM.nil _ | refine SubM.cons (by rfl) ?_ | refine SubM.app ?_))) hc' (inn_trans hin52 (inn_tail2 (by rfl) (by rfl) hin62 k0.1 k0.2))
theorem htake_spec {most : Int} {n0 b : Nat} {s : Hs} {m : Mem0} (i : Nat) (w : World) (h : HpM most n0 b s m) (hi : i < s.l.length) (hlen : s.l.length ≤ 4096) (hM : Mem w m) : Ret Tryz.prog 158 #[.pointer (some ⟨b, 0, none⟩), .int .i64 (i : Nat)] w (Upd m (fun u m' => u = .tuple #[.agg (fKy (hg s.l i)).toArray, .int .i64 (hg s.l i).x, .bool true] ∧ HpM most n0 b (tkS s i) m') w) := by
 obtain ⟨ad, n, cap, bm, es, cl, ms, rfl, hn, hs, he, hb, hbm⟩ := h; have he1 := he.1
 refine Ret.enterM Tryz.func158 rfl Tryz.ntmps158 rfl (hpC b most ad n cap bm :: (bm, .map es cl) :: (ms ++ [])) ((inM (hpC b most ad n cap bm :: (bm, .map es cl) :: ms))) aM ?_
 refine wR ?_
 refine LM.alloc Tryz.zeroValue129 rfl (fun b4 hb4 => ?_)
 refine LM.as rfl <| LM.as rfl <| nB [(0, _), (1, _), (4, _)] <| LM.mv rfl <| LM.nc rfl <| LM.val (ovf 149 rfl rfl rfl rfl) ?_
 refine LM.rd (oml rfl rfl rfl) ?_
 refine LM.mv rfl ?_
 refine LM.val (ov_idxSN au6 Tryz.underlying149 Tryz.sizeOf160 rfl rfl om) ?_
 refine LM.rd (om_slA asm ir Tryz.isAgg160 Tryz.sizeOf160 rfl au3) ?_
 refine LM.alloc Tryz.zeroValue160 rfl (fun b7 hb7 => ?_)
 refine LM.stW Tryz.sizeOf160 rfl rfl rfl rfl au7 auH ?_
 refine nB [(0, _), (1, _), (4, _), (7, _)] <| LM.mv rfl <| LM.nc rfl <| LM.val (ovf 149 rfl rfl rfl rfl) ?_
 refine LM.rd (oml rfl rfl rfl) ?_
 refine LM.val (ov_len Tryz.underlying149 rfl) ?_
 refine LM.val (ov_sub64 rfl rfl om) ?_
 rw [show ((n : Nat) : Int) - 1 = ((s.l.length - 1 : Nat) : Int) by omega]
 refine LM.as rfl <| nB [(0, _), (1, _), (4, _), (7, _), (8, _)] <| LM.mv rfl <| LM.mv rfl <| LM.mv rfl ?_
 refine cU Tryz.func155 rfl (fun w hm hc hg => hswap_spec i (s.l.length - 1) w hn hs he hi om (hm.pick (hpC b most ad n cap bm :: (bm, .map es cl) :: ms))) (wlk_h rfl rfl hs.wlk) (fun p hp _ => inM_in p hp) ?_
 rintro u25 m25 ⟨rfl, es2, cl2, m2, rfl, hs2, he2⟩ hin25
 refine nB [(0, _), (1, _), (4, _), (7, _), (8, _)] ?_
 refine LM.know (fun w hm _ _ => mem_ne2 (hm.pick (hpC b most ad n cap bm :: (bm, .map es2 cl2) :: m2))) (fun hne2 => ?_); have hin25' := inn_tail2 (by rfl) (by rfl) hin25 hne2.1 hne2.2
 refine LM.mv rfl <| LM.mv rfl <| LM.nc rfl <| LM.val (ovf 149 rfl rfl rfl rfl) ?_
 refine LM.rd (oml rfl rfl rfl) ?_
 refine LM.mv rfl ?_
 refine LM.val (ov_subHi Tryz.underlying149 Tryz.sizeOf160 rfl rfl om (by have := hs2.len; rw [swpL_len] at this; omega)) ?_
 refine LM.nc rfl <| LM.val (ovf 149 rfl rfl rfl rfl) ?_
 refine LM.st Tryz.sizeOf149 rfl rfl rfl au5 rfl auH ?_
 refine LM.mem (SubM.mem (M' := hpC b most ad (s.l.length - 1) cap bm :: (bm, .map es2 cl2) :: (b7, .cells (fHi (hg s.l i)).toArray 160 (0, 0)) :: (b4, .cells #[U 0#64, .int .i64 0] 129 (0, 0)) :: (m2 ++ [])) au1) ?_
 refine nA [(0, _), (1, _), (4, _), (7, _), (8, _)] <| wpM.seq ?_
 refine wpM.draw [(0, 0), (1, 0), (2, 0), (3, 1), (4, 0), (5, 0), (6, 1), (7, 3)] kr kr ?_
 refine LD.val rfl rfl (ov_move rfl) <| LD.val rfl rfl (ov_nilCheck rfl) <| LD.val rfl rfl (ovf 72 rfl rfl rfl rfl) ?_
 refine LD.rd rfl rfl (oml rfl rfl rfl) ?_
 refine LD.val rfl rfl (ovf 129 rfl rfl rfl rfl) <| LD.val rfl rfl (ovf 3 rfl rfl rfl rfl) ?_
 refine LD.rd rfl rfl (oml rfl rfl rfl) ?_
 refine LD.tail rfl rfl ?_
 refine LM.mDS Tryz.underlying72 Tryz.underlying3 rfl rfl asm auH (fun esu1 clu1 hesu1 => ?_)
 refine LM.nil ?_
 refine QM.qn ?_
 refine QM.sub (e' := [(0, _), (1, _), (4, _), (7, _), (8, _)]) au9 (QM.then ?_)
 refine wpM.seq <| wR <| LM.mv rfl <| LM.mv rfl <| LM.val (ov_lss rfl rfl) <| nA [(0, _), (1, _), (4, _), (7, _), (44, _)] ?_
 refine wpM.condD rfl (fun h1 => ?_) (fun h1 => ?_)
 ·
  have hs4 : Sl fHi 160 3 n0 (cutS s i).l (.slice ad (s.l.length - 1) cap) m2 := Sl.preH hs2 ir (by rw [swpL_len]; omega); have he4 : EnsS .i64 esu1 clu1 (cutS s i).at_ := hesu1; have hcl := cutS_len hi; have hdl : (dnS (cutS s i).l.length i ⟨(cutS s i).l, (cutS s i).at_⟩).l.length = (cutS s i).l.length := dnS_len (f := (cutS s i).l.length) (s := cutS s i) (j := i) om
  refine wR <| LM.mv rfl <| LM.mv rfl ?_
  refine cU Tryz.func172 rfl (fun w hm hc hg => hdown_spec i w hcl.symm hs4 he4 om om (hm.pick (hpC b most ad (s.l.length - 1) cap bm :: (bm, .map esu1 clu1) :: m2))) (wlk_h rfl rfl hs4.wlk) (inn_S (inn_h (by rfl) (by rfl) hin25') inM_in) ?_
  rintro u47 m47 ⟨rfl, es5, cl5, m5, rfl, hs5, he5⟩ hin47
  refine LM.nil (QM.sub (e' := [(0, _), (1, _), (4, _), (7, _)]) au9 (QM.then (wpM.region ?_)))
  refine LM.mv rfl <| LM.mv rfl ?_
  refine cU Tryz.func132 rfl (fun w hm hc hg => hup_spec i w om hs5 he5 om om (hm.pick (hpC b most ad (s.l.length - 1) cap bm :: (bm, .map es5 cl5) :: m5))) (wlk_h rfl rfl hs5.wlk) (inn_S (inn_trans (inn_h (by rfl) (by rfl) hin25') hin47) inM_in) ?_
  rintro u50 m50 ⟨rfl, es6, cl6, m6, rfl, hs6, he6⟩ hin50
  refine nA [(4, _), (7, _)] <| wpM.seq ?_
  refine wpM.keep ((b7, .cells (fHi (hg s.l i)).toArray 160 (0, 0)) :: []) (fun _ => True) (.one 0 0 (.one 1 1 (.one 2 0 (.one 3 1 (.one 4 2 (.one 5 0 (.one 6 0 .nil))))))) kr kr au1 (fun _ _ => trivial) ?_
  refine KD.val rfl rfl (ovf 129 rfl rfl rfl rfl) ?_
  first | refine KD.rd rfl rfl (om_ldW Tryz.isAgg129 Tryz.sizeOf129 rfl rfl) ?_ | refine KD.rd rfl rfl (om_ldA Tryz.isAgg129 Tryz.sizeOf129 rfl (vs := [_, _]) rfl ⟨rfl, rfl, trivial⟩) ?_
  refine KD.val rfl rfl (ovf 3 rfl rfl rfl rfl) ?_
  refine KD.rd rfl rfl (oml rfl rfl rfl) ?_
  refine KD.one rfl ?_
  refine LM.stW Tryz.sizeOf129 rfl rfl rfl rfl au7 auH ?_
  refine LM.nil ?_
  refine kq1 ?_
  refine KD.val rfl rfl (ov_assign rfl) <| KD.val rfl rfl (ov_assign rfl) <| KD.nil ?_
  refine QM.sub (e' := [(4, _), (5, _), (6, _)]) au9 (QM.then ?_)
  refine wpM.ret ?_
  refine QM.leaveCs (ds := ([])) (.inl rfl) [.cell 4 129, .tmp 5, .tmp 6] Tryz.results158 hd_nil (rc_w rfl Tryz.isAgg129 Tryz.sizeOf129 rfl (rc_tmp rfl (rc_tmp rfl rc_nil))) ?_
  intro w' hm' hc'
  have hX : tkS s i = upS i i (dnS (cutS s i).l.length i (cutS s i)) := (by unfold tkS; rw [if_pos om, hcl]); rw [hX]; have hl7 : (upS i i (dnS (cutS s i).l.length i ⟨(cutS s i).l, (cutS s i).at_⟩)).l.length = _ := upS_len (f := i) (j := i) om; have k0 := mem_ne2 (SubM.mem (M' := hpC b most ad (s.l.length - 1) cap bm :: (bm, .map es6 cl6) :: (m6 ++ [])) (by (repeat' (first | exact SubM.nil _ | refine SubM.cons (by rfl) ?_ | refine SubM.app ?_))) w' hm'); rw [List.append_nil] at k0; exact hp_leaf (s' := upS i i (dnS (cutS s i).l.length i (cutS s i))) (n' := s.l.length - 1) (by rw [hl7, hdl, hcl]) hs6 he6 hb hbm hm' (by (repeat' (first | exact SubM.nil _ | refine SubM.cons (by rfl) ?_ | refine SubM.app ?_))) hc' (inn_tail2 (by rfl) (by rfl) (inn_trans (inn_trans (inn_h (by rfl) (by rfl) hin25') hin47) hin50) k0.1 k0.2)
 have hs4 : Sl fHi 160 3 n0 (cutS s i).l (.slice ad (s.l.length - 1) cap) m2 := Sl.preH hs2 ir (by rw [swpL_len]; omega); have he4 : EnsS .i64 esu1 clu1 (cutS s i).at_ := hesu1
 refine wpM.skip <| QM.then <| wpM.seq ?_
 refine wpM.keep ((b7, .cells (fHi (hg s.l i)).toArray 160 (0, 0)) :: []) (fun _ => True) (.one 0 0 (.one 1 1 (.one 2 0 (.one 3 1 (.one 4 2 (.one 5 0 (.one 6 0 .nil))))))) kr kr au1 (fun _ _ => trivial) ?_
 refine KD.val rfl rfl (ovf 129 rfl rfl rfl rfl) ?_
 first | refine KD.rd rfl rfl (om_ldW Tryz.isAgg129 Tryz.sizeOf129 rfl rfl) ?_ | refine KD.rd rfl rfl (om_ldA Tryz.isAgg129 Tryz.sizeOf129 rfl (vs := [_, _]) rfl ⟨rfl, rfl, trivial⟩) ?_
 refine KD.val rfl rfl (ovf 3 rfl rfl rfl rfl) ?_
 refine KD.rd rfl rfl (oml rfl rfl rfl) ?_
 refine KD.one rfl ?_
 refine LM.stW Tryz.sizeOf129 rfl rfl rfl rfl au7 auH ?_
 refine LM.nil ?_
 refine kq1 ?_
 refine KD.val rfl rfl (ov_assign rfl) <| KD.val rfl rfl (ov_assign rfl) <| KD.nil ?_
 refine QM.sub (e' := [(4, _), (5, _), (6, _)]) au9 (QM.then ?_)
 refine wpM.ret ?_
 refine QM.leaveCs (ds := ([])) (.inl rfl) [.cell 4 129, .tmp 5, .tmp 6] Tryz.results158 hd_nil (rc_w rfl Tryz.isAgg129 Tryz.sizeOf129 rfl (rc_tmp rfl (rc_tmp rfl rc_nil))) ?_
 intro w' hm' hc'
 have hX : tkS s i = cutS s i := (by unfold tkS; rw [if_neg om]); rw [hX]; exact hp_leaf (s' := cutS s i) (n' := s.l.length - 1) (cutS_len hi).symm hs4 he4 hb hbm hm' (by (repeat' (first | exact SubM.nil _ | refine SubM.cons (by rfl) ?_ | refine SubM.app ?_))) hc' hin25'
theorem arDrop_spec {n0 b : Nat} {a : Ar} {m : Mem0} (p : Int) (w : World) (h : ArM n0 b a m) (hD : AWf (dropA a p)) (hM : Mem w m) : Ret Tryz.prog 177 #[.pointer (some ⟨b, 0, none⟩), .int .i64 p] w (Upd m (fun u m' => u = .tuple #[.agg (fLk (getA a p)).toArray, .bool (isA a p)] ∧ ArM n0 b (dropA a p) m') w) := by
 have hA := h; obtain ⟨hw, ad, n, cap, ms, rfl, hn, hs, hb⟩ := h; have hlen := hw.len; have hnn := hw.n; have hff := hw.free
 refine Ret.enterM Tryz.func177 rfl Tryz.ntmps177 rfl (arC b a.most ad n cap a.free a.n :: (ms ++ [])) ((inM (arC b a.most ad n cap a.free a.n :: ms))) aM ?_
 refine wR ?_
 refine LM.alloc Tryz.zeroValue172 rfl (fun b4 hb4 => ?_)
 refine LM.as rfl <| nB [(0, _), (1, _), (4, _)] <| LM.mv rfl <| LM.mv rfl ?_
 refine cE Tryz.func149 rfl (fun w hm hc hg => arGet_spec p w hA (by have h9 := hm.pick (arC b a.most ad n cap a.free a.n :: (ms ++ [])); rw [List.append_nil] at h9; exact h9)) ?_
 refine LM.mv rfl <| LM.val (ov_extract rfl rfl) <| LM.val (ov_extract rfl rfl) ?_
 refine LM.alloc Tryz.zeroValue172 rfl (fun b6 hb6 => ?_)
 refine LM.stW Tryz.sizeOf172 rfl rfl rfl rfl au7 auH ?_
 refine LM.as rfl <| nA [(0, _), (1, _), (4, _), (6, _), (7, _)] <| wpM.seq <| wR <| LM.mv rfl <| nA [(0, _), (1, _), (4, _), (6, _), (7, _), (14, _)] ?_
 first | refine wpM.condD rfl (fun h1 => ?_) (fun h1 => ?_) | refine wpM.condB rfl (fun h1 => ?_) (fun h1 => ?_)
 ·
  have hon : isA a p = true := h1; have hpos := isA_iff.1 hon; obtain ⟨i, rfl⟩ : ∃ i : Nat, p = i := ⟨p.toNat, by omega⟩; have hi : i < a.sl.length := om; have hX : dropA a (i : Int) = { a with sl := a.sl.set i ⟨default, false, a.free⟩, free := (i : Int) + 1, n := a.n - 1 } := if_pos hon; have hn1 := hD.n; rw [hX] at hn1; have hn2 : 0 ≤ a.n - 1 ∧ a.n - 1 ≤ 4096 := hn1
  refine wpM.seq ?_
  refine wpM.draw [(0, 0), (1, 0), (2, 0), (3, 1), (4, 0), (5, 0), (6, 0), (7, 0), (8, 1), (9, 0), (10, 0), (11, 3)] kr kr ?_
  refine LD.val rfl rfl (ov_move rfl) <| LD.val rfl rfl (ov_nilCheck rfl) <| LD.val rfl rfl (ovf 188 rfl rfl rfl rfl) ?_
  refine LD.rd rfl rfl (oml rfl rfl rfl) ?_
  refine LD.val rfl rfl (ov_move rfl) <| LD.val rfl rfl (ov_move rfl) <| LD.val rfl rfl (ov_nilCheck rfl) <| LD.val rfl rfl (ovf 3 rfl rfl rfl rfl) ?_
  refine LD.rd rfl rfl (oml rfl rfl rfl) ?_
  refine LD.val rfl rfl (ov_build (cs := #[.int .i64 0, .int .i64 0, .int .u64 0, .int .i64 0, .int .i64 0, .int .i64 0, .bool false, .int .i64 a.free]) rfl kr) ?_
  refine LD.val rfl rfl (ov_idxSN au6 Tryz.underlying188 Tryz.sizeOf200 rfl rfl om) ?_
  refine LD.tail rfl rfl ?_
  refine LM.stS ((⟨default, false, a.free⟩ : St)) (j := 0) (i := i) asm ir Tryz.sizeOf200 rfl rfl rfl au3 rfl (by decide) (by rfl) rfl (fun p hp hlt => by first | exact ⟨p, List.mem_cons_of_mem _ hp, rfl⟩ | exact absurd hlt (Nat.not_lt_of_le (Sl.ge asm p hp))) (fun ms2 hss2 hmm2 => ?_)
  refine LM.nil ?_
  refine QM.qn ?_
  refine QM.sub (e' := [(0, _), (1, _), (4, _), (6, _), (7, _)]) au9 (QM.then (wpM.seq (wpM.region ?_)))
  refine LM.mv rfl <| LM.mv rfl ?_
  refine LM.val (ov_add64 rfl rfl om) ?_
  refine LM.nc rfl <| LM.val (ovf 3 rfl rfl rfl rfl) ?_
  refine LM.st Tryz.sizeOf3 rfl rfl rfl au5 rfl auH ?_
  refine LM.nil (QM.sub (e' := [(0, _), (4, _), (6, _), (7, _)]) au9 (QM.then (wpM.region ?_)))
  refine LM.mv rfl <| LM.nc rfl <| LM.val (ovf 3 rfl rfl rfl rfl) ?_
  refine LM.rd (oml rfl rfl rfl) ?_
  refine LM.val (ov_sub64 rfl rfl om) ?_
  refine LM.nc rfl <| LM.val (ovf 3 rfl rfl rfl rfl) ?_
  refine LM.st Tryz.sizeOf3 rfl rfl rfl au5 rfl auH ?_
  refine nB [(4, _), (6, _), (7, _)] ?_
  refine LM.rd (om_ldW Tryz.isAgg172 Tryz.sizeOf172 rfl rfl) ?_
  refine LM.mv rfl ?_
  refine LM.stW Tryz.sizeOf172 rfl rfl rfl rfl au7 auH ?_
  refine LM.as rfl <| nA [(4, _), (5, _)] <| wpM.ret ?_
  refine QM.leaveCs (ds := ([])) (.inl rfl) [.cell 4 172, .tmp 5] Tryz.results177 hd_nil (rc_w rfl Tryz.isAgg172 Tryz.sizeOf172 rfl (rc_tmp rfl rc_nil)) ?_
  intro w' hm' hc'
  rw [hX] at hD ⊢; exact arm_leaf hD (by show n = (List.set _ _ _).length; rw [List.length_set]; exact hn) hss2 hb hm' (by (repeat' (first | exact SubM.nil _ | refine SubM.cons (by rfl) ?_ | refine SubM.app ?_))) hc' (inn_of hmm2)
 refine wpM.skip <| tR ?_
 refine LM.rd (om_ldW Tryz.isAgg172 Tryz.sizeOf172 rfl rfl) ?_
 refine LM.mv rfl ?_
 refine LM.stW Tryz.sizeOf172 rfl rfl rfl rfl au7 auH ?_
 refine LM.as rfl <| nA [(4, _), (5, _)] <| wpM.ret ?_
 refine QM.leaveCs (ds := ([])) (.inl rfl) [.cell 4 172, .tmp 5] Tryz.results177 hd_nil (rc_w rfl Tryz.isAgg172 Tryz.sizeOf172 rfl (rc_tmp rfl rc_nil)) ?_
 intro w' hm' hc'
 have hoff : isA a p = false := (by simpa using h1); rw [show dropA a p = a from if_neg (by rw [hoff]; simp)]; exact arm_leaf hw hn hs hb hm' (by (repeat' (first | exact SubM.nil _ | refine SubM.cons (by rfl) ?_ | refine SubM.app ?_))) hc' (inn_refl _ _)
theorem arPut_spec {n0 b : Nat} {a : Ar} {m : Mem0} (v : Lk) (w : World) (h : ArM n0 b a m) (hP : AWf (putA a v)) (hn0 : n0 ≤ w.heap.size) (hM : Mem w m) : Ret Tryz.prog 152 #[.pointer (some ⟨b, 0, none⟩), .agg (fLk v).toArray] w (Upd m (fun u m' => u = .tuple #[.int .i64 (putP a), .int .i64 (putE a)] ∧ ArM n0 b (putA a v) m') w) := by
 have hA := h; obtain ⟨hw, ad, n, cap, ms, rfl, hn, hs, hb⟩ := h; have hlen := hw.len; have hnn := hw.n; have hff := hw.free
 refine Ret.enterM Tryz.func152 rfl Tryz.ntmps152 rfl (arC b a.most ad n cap a.free a.n :: (ms ++ [])) ((inM (arC b a.most ad n cap a.free a.n :: ms))) aM ?_
 refine wR ?_
 refine LM.box rfl rfl (fun b3 hb3 => ?_)
 refine LM.as rfl <| LM.as rfl <| nA [(0, _), (3, _)] <| wpM.seq <| wpM.block <| wR <| LM.mv rfl ?_
 refine LM.val (ov_peql kr rfl rfl) ?_
 refine LM.as rfl <| nA [(0, _), (3, _), (7, _)] ?_
 refine wpM.condF rfl ?_
 refine wpM.seq ?_
 refine wpM.draw [(0, 0), (1, 0), (2, 0), (3, 1), (4, 0), (5, 0), (6, 0), (7, 1), (8, 0), (9, 0)] kr kr ?_
 refine LD.val rfl rfl (ov_move rfl) <| LD.val rfl rfl (ov_nilCheck rfl) <| LD.val rfl rfl (ovf 3 rfl rfl rfl rfl) ?_
 refine LD.rd rfl rfl (oml rfl rfl rfl) ?_
 refine LD.val rfl rfl (ov_move rfl) <| LD.val rfl rfl (ov_nilCheck rfl) <| LD.val rfl rfl (ovf 3 rfl rfl rfl rfl) ?_
 refine LD.rd rfl rfl (oml rfl rfl rfl) ?_
 refine LD.val rfl rfl (ov_geq rfl rfl) ?_
 refine LD.val rfl rfl (ov_assign rfl) <| LD.nil ?_
 refine QM.sub (e' := [(0, _), (3, _), (10, _)]) au9 (QM.then ?_)
 refine wpM.condD rfl (fun h1 => ?_) (fun h1 => ?_)
 ·
  have hX : putA a v = a := if_pos h1; have hXp : putP a = 0 := if_pos h1; have hXe : putE a = 3 := if_pos h1
  refine wR <| LM.as rfl <| LM.as rfl <| nA [(4, _), (5, _)] <| wpM.ret <| QM.block_ret <| QM.then_ret ?_
  refine QM.leave (.inl rfl) [.tmp 4, .tmp 5] Tryz.results152 rfl ?_
  intro w' hm' hc' hg'
  rw [hX, hXp, hXe]; exact arm_leaf hw hn hs hb hm' (by (repeat' (first | exact SubM.nil _ | refine SubM.cons (by rfl) ?_ | refine SubM.app ?_))) hc' (inn_refl _ _)
 have hXe : putE a = 0 := if_neg h1
 refine wpM.skip <| QM.block_normal <| tR <| LM.mv rfl <| LM.nc rfl <| LM.val (ovf 3 rfl rfl rfl rfl) ?_
 refine LM.rd (oml rfl rfl rfl) ?_
 refine LM.val (ov_add64 rfl rfl om) ?_
 refine LM.nc rfl <| LM.val (ovf 3 rfl rfl rfl rfl) ?_
 refine LM.st Tryz.sizeOf3 rfl rfl rfl au5 rfl auH ?_
 refine nA [(0, _), (3, _)] <| wpM.seq <| wR <| LM.mv rfl <| LM.nc rfl <| LM.val (ovf 3 rfl rfl rfl rfl) ?_
 refine LM.rd (oml rfl rfl rfl) ?_
 refine LM.val (ov_eql rfl rfl) <| nA [(0, _), (3, _), (31, _)] ?_
 refine wpM.condD rfl (fun h2 => ?_) (fun h2 => ?_)
 ·
  have hX : putA a v = { a with sl := a.sl ++ [⟨v, true, 0⟩], n := a.n + 1 } := (by unfold putA; rw [if_neg h1, if_pos h2]); have hXp : putP a = (a.sl.length : Nat) := (by unfold putP; rw [if_neg h1, if_pos h2])
  refine wpM.seq ?_
  refine wpM.keep (arC b a.most ad n cap a.free (a.n + 1) :: (b3, .cells (fLk v).toArray 172 (0, 0)) :: []) (fun _ => True) (.one 0 0 (.one 1 0 (.one 2 0 (.one 3 0 (.one 4 1 (.one 5 1 (.one 6 0 (.one 7 2 (.one 8 2 (.one 9 0 (.one 10 0 (.last 11)))))))))))) kr kr au1 (fun _ _ => trivial) ?_
  refine KD.val rfl rfl (ov_move rfl) <| KD.val rfl rfl (ov_move rfl) <| KD.val rfl rfl (ov_nilCheck rfl) <| KD.val rfl rfl (ovf 188 rfl rfl rfl rfl) ?_
  refine KD.rd rfl rfl (oml rfl rfl rfl) ?_
  refine KD.rd rfl rfl (om_ldW Tryz.isAgg172 Tryz.sizeOf172 rfl rfl) ?_
  refine KD.val rfl rfl (ov_build (cs := #[.int .i64 v.v.who, .int .i64 v.v.key, U v.v.til, .int .i64 v.tk, .int .i64 v.prev, .int .i64 v.next, .bool true, .int .i64 0]) rfl kr) ?_
  refine KD.one rfl ?_
  refine LM.single Tryz.underlying188 Tryz.sizeOf200 Tryz.zeroValue200 rfl rfl rfl rfl rfl (fun b39 hb39 => ?_)
  refine LM.nil ?_
  refine kq1 ?_
  refine KD.one rfl ?_
  refine LM.app (a := (⟨v, true, 0⟩ : St)) Tryz.underlying188 Tryz.typeInfo200 rfl rfl rfl rfl rfl rfl rfl asm (by rfl) ir (by intro _ u hu; simp [fSt] at hu; (repeat (first | (rcases hu with rfl | hu) | subst hu | rfl))) (by first | exact Nat.le_refl _ | omega) (fun p hp hlt => by first | exact ⟨p, List.mem_cons_of_mem _ hp, rfl⟩ | exact absurd hlt (Nat.not_lt_of_le (Sl.ge asm p hp))) (by first | omega | (unfold maxLen; omega)) (by simp only [Tryz.t200]; omega) (fun ad40 n40 cap40 m40 hn40 hs40 hin40 => ?_)
  refine LM.nil ?_
  refine kq1 ?_
  refine KD.val rfl rfl (ov_nilCheck rfl) <| KD.val rfl rfl (ovf 188 rfl rfl rfl rfl) ?_
  refine KD.last rfl ?_
  refine LM.st Tryz.sizeOf188 rfl rfl rfl au5 rfl auH ?_
  refine LM.nil ?_
  refine QM.qn ?_
  refine QM.sub (e' := [(0, _)]) ⟨rfl, trivial⟩ (QM.then (wpM.seq (wpM.region ?_)))
  refine LM.mv rfl <| LM.nc rfl <| LM.val (ovf 188 rfl rfl rfl rfl) ?_
  refine LM.rd (oml rfl rfl rfl) ?_
  refine LM.val (ov_len Tryz.underlying188 rfl) ?_
  refine LM.val (ov_sub64 rfl rfl om) ?_
  refine LM.as rfl <| LM.as rfl <| nA [(4, _), (5, _)] <| wpM.ret <| QM.then_ret ?_
  refine QM.leave (.inl rfl) [.tmp 4, .tmp 5] Tryz.results152 rfl ?_
  intro w' hm' hc' hg'
  rw [hXp, hXe, show ((a.sl.length : Nat) : Int) = ((n40 : Nat) : Int) - 1 by omega]; rw [hX] at hP ⊢; exact arm_leaf hP (by show n40 = (_ ++ _ : List St).length; rw [List.length_append]; omega) hs40 hb hm' (by (repeat' (first | exact SubM.nil _ | refine SubM.cons (by rfl) ?_ | refine SubM.app ?_))) hc' hin40
 obtain ⟨i, hi⟩ : ∃ i : Nat, a.free - 1 = i := ⟨(a.free - 1).toNat, by omega⟩; have hil : i < a.sl.length := om; have hit : (a.free - 1).toNat = i := om; have hX : putA a v = { a with sl := a.sl.set i ⟨v, true, 0⟩, free := (a.sl.getD i default).nx, n := a.n + 1 } := (by unfold putA sg; rw [if_neg h1, if_neg h2, hit]); have hXp : putP a = (i : Nat) := (by unfold putP; rw [if_neg h1, if_neg h2, hi])
 refine wpM.skip <| tR <| LM.mv rfl <| LM.nc rfl <| LM.val (ovf 3 rfl rfl rfl rfl) ?_
 refine LM.rd (oml rfl rfl rfl) ?_
 refine LM.val (ov_sub64 rfl rfl om) ?_
 rw [hi]
 refine LM.as rfl <| nB [(0, _), (3, _), (6, _)] <| LM.mv rfl <| LM.mv rfl <| LM.nc rfl <| LM.val (ovf 188 rfl rfl rfl rfl) ?_
 refine LM.rd (oml rfl rfl rfl) ?_
 refine LM.mv rfl ?_
 refine LM.val (ov_idxSN au6 Tryz.underlying188 Tryz.sizeOf200 rfl rfl om) ?_
 refine LM.val (ovf 3 rfl rfl rfl rfl) ?_
 refine LM.rd (om_slE (j := 7) asm ir Tryz.isAgg3 rfl rfl au3 rfl (by rfl)) ?_
 refine LM.nc rfl <| LM.val (ovf 3 rfl rfl rfl rfl) ?_
 refine LM.st Tryz.sizeOf3 rfl rfl rfl au5 rfl auH ?_
 refine nA [(0, _), (3, _), (6, _)] <| wpM.seq ?_
 refine wpM.draw [(0, 0), (1, 0), (2, 0), (3, 1), (4, 0), (5, 1), (6, 0), (7, 0), (8, 3)] kr kr ?_
 refine LD.val rfl rfl (ov_move rfl) <| LD.val rfl rfl (ov_nilCheck rfl) <| LD.val rfl rfl (ovf 188 rfl rfl rfl rfl) ?_
 refine LD.rd rfl rfl (oml rfl rfl rfl) ?_
 refine LD.val rfl rfl (ov_move rfl) ?_
 refine LD.rd rfl rfl (om_ldW Tryz.isAgg172 Tryz.sizeOf172 rfl rfl) ?_
 refine LD.val rfl rfl (ov_build (cs := #[.int .i64 v.v.who, .int .i64 v.v.key, U v.v.til, .int .i64 v.tk, .int .i64 v.prev, .int .i64 v.next, .bool true, .int .i64 0]) rfl kr) ?_
 refine LD.val rfl rfl (ov_idxSN au6 Tryz.underlying188 Tryz.sizeOf200 rfl rfl om) ?_
 refine LD.tail rfl rfl ?_
 refine LM.stS ((⟨v, true, 0⟩ : St)) (j := 0) (i := i) asm ir Tryz.sizeOf200 rfl rfl rfl au3 rfl (by decide) (by rfl) rfl (fun p hp hlt => by first | exact ⟨p, List.mem_cons_of_mem _ hp, rfl⟩ | exact absurd hlt (Nat.not_lt_of_le (Sl.ge asm p hp))) (fun ms3 hss3 hmm3 => ?_)
 refine LM.nil ?_
 refine QM.qn ?_
 refine QM.sub (e' := [(6, _)]) ⟨rfl, trivial⟩ (QM.then (wpM.seq (wpM.region ?_)))
 refine LM.mv rfl <| LM.as rfl <| LM.as rfl <| nA [(4, _), (5, _)] <| wpM.ret ?_
 refine QM.leave (.inl rfl) [.tmp 4, .tmp 5] Tryz.results152 rfl ?_
 intro w' hm' hc' hg'
 rw [hXp, hXe]; rw [hX] at hP ⊢; exact arm_leaf hP (by show n = (List.set _ _ _).length; rw [List.length_set]; exact hn) hss3 hb hm' (by (repeat' (first | exact SubM.nil _ | refine SubM.cons (by rfl) ?_ | refine SubM.app ?_))) hc' (inn_of hmm3)
abbrev fqC (b ba bw : Nat) (first last tk : Int) : Nat × Obj := (b, .cells #[.pointer (some ⟨ba, 0, none⟩), .map (some bw), .int .i64 first, .int .i64 last, .int .i64 tk] 170 (0, 0))
theorem inM_ma {a : Nat × Obj} {m : Mem0} : ∀ p ∈ m, inM (a :: m) p.1 := fun p hp => ⟨p, List.mem_cons_of_mem _ hp, rfl⟩
theorem fj_leaf {n0 b ba bw : Nat} {f f2 : Fq} {ma m2 M : Mem0} {x y : Int} {w w' : World} (e : joinF f x y = f2) (hA2 : ArM n0 ba f2.a m2) (hm : Mem w' M) (hs : SubM M (fqC b ba bw f2.first f2.last f2.tk :: (m2 ++ []))) (hc : Chg (inM (fqC b ba bw f.first f.last f.tk :: ma)) w w') (hin : inn ma w.heap.size m2) :
    Upd (fqC b ba bw f.first f.last f.tk :: ma) (fun u m' => u = .tuple #[] ∧ ∃ ma', m' = fqC b ba bw (joinF f x y).first (joinF f x y).last (joinF f x y).tk :: ma' ∧ ArM n0 ba (joinF f x y).a ma') w (.tuple #[]) w' := by
  rw [List.append_nil] at hs
  subst e
  refine ⟨hc, _, ⟨rfl, m2, rfl, hA2⟩, hs.mem w' hm, fun p hp => ?_⟩
  rcases List.mem_cons.1 hp with rfl | hp
  · exact .inr ⟨_, List.mem_cons_self .., rfl⟩
  · rcases hin p hp with q | ⟨q, hq, e⟩
    · exact .inl q
    · exact .inr ⟨q, List.mem_cons_of_mem _ hq, e⟩
theorem fjoin_spec {n0 b ba bw : Nat} {f : Fq} {ma : Mem0} (x y : Int) (w : World) (hA : ArM n0 ba f.a ma) (hM : Mem w (fqC b ba bw f.first f.last f.tk :: ma)) : Ret Tryz.prog 153 #[.pointer (some ⟨b, 0, none⟩), .int .i64 x, .int .i64 y] w (Upd (fqC b ba bw f.first f.last f.tk :: ma) (fun u m' => u = .tuple #[] ∧ ∃ ma', m' = fqC b ba bw (joinF f x y).first (joinF f x y).last (joinF f x y).tk :: ma' ∧ ArM n0 ba (joinF f x y).a ma') w) := by
 refine Ret.enterM Tryz.func153 rfl Tryz.ntmps153 rfl (fqC b ba bw f.first f.last f.tk :: (ma ++ [])) ((inM (fqC b ba bw f.first f.last f.tk :: ma))) aM ?_
 refine wpM.seq <| wR <| LM.mv rfl <| LM.nc rfl <| LM.val (ovf 168 rfl rfl rfl rfl) ?_
 refine LM.rd (oml rfl rfl rfl) ?_
 refine LM.mv rfl ?_
 refine cE Tryz.func149 rfl (fun w hm hc hg => arGet_spec x w hA (hm.pick ma)) ?_
 refine LM.mv rfl <| LM.val (ov_extract rfl rfl) <| LM.val (ov_extract rfl rfl) ?_
 refine LM.alloc Tryz.zeroValue172 rfl (fun b6 hb6 => ?_)
 refine LM.stW Tryz.sizeOf172 rfl rfl rfl rfl au7 auH ?_
 refine LM.as rfl <| nB [(0, _), (1, _), (2, _), (6, _), (7, _)] <| LM.mv rfl <| nA [(0, _), (1, _), (2, _), (6, _), (19, _)] ?_
 refine wpM.joinK (α := Fq × Mem0) (fun ⟨f1, m1⟩ => []) [(0, _), (1, _), (2, _)] (fun ⟨f1, m1⟩ => fqC b ba bw f1.first f1.last f1.tk :: (m1 ++ [])) (fun ⟨f1, m1⟩ => f1 = join1 f x y ∧ ArM n0 ba f1.a m1 ∧ inn ma w.heap.size m1) ⟨rfl, rfl, rfl, trivial⟩ ?_ ?_
 ·
  first | refine wpM.condD rfl (fun h1 => ?_) (fun h1 => ?_) | refine wpM.condB rfl (fun h1 => ?_) (fun h1 => ?_)
  ·
   refine wR <| LM.mv rfl <| LM.val (ovf 3 rfl rfl rfl rfl) ?_
   refine LM.st Tryz.sizeOf3 rfl rfl rfl au5 rfl auH ?_
   refine LM.mem (SubM.mem (M' := (b6, .cells (fLk { getA f.a x with next := y }).toArray 172 (0, 0)) :: fqC b ba bw f.first f.last f.tk :: (ma ++ [])) au1) ?_
   refine nA [(0, _), (1, _), (2, _), (6, _)] ?_
   refine wpM.draw [(0, 0), (1, 0), (2, 0), (3, 1), (4, 0), (5, 1), (6, 3)] kr kr ?_
   refine LD.val rfl rfl (ov_move rfl) <| LD.val rfl rfl (ov_nilCheck rfl) <| LD.val rfl rfl (ovf 168 rfl rfl rfl rfl) ?_
   refine LD.rd rfl rfl (oml rfl rfl rfl) ?_
   refine LD.val rfl rfl (ov_move rfl) ?_
   refine LD.rd rfl rfl (om_ldW Tryz.isAgg172 Tryz.sizeOf172 rfl rfl) ?_
   refine LD.tail rfl rfl ?_
   refine cU Tryz.func169 rfl (fun w hm hc hg => arSet_spec x { getA f.a x with next := y } w hA (hm.pick ma)) hA.wlk (fun p hp _ => inM_ma p hp) ?_
   rintro u28 m28 ⟨rfl, h28⟩ hin28
   refine LM.nil ?_
   refine QM.qn ?_
   refine QM.sub (e' := [(0, _), (1, _), (2, _)]) au9 ?_
   refine QM.meetK ({ f with a := setA f.a x { getA f.a x with next := y } }, m28) ⟨rfl, rfl, rfl, trivial⟩ au1 ?_
   · exact ⟨(if_pos h1).symm, h28, hin28⟩
  refine wpM.region ?_
  refine LM.mv rfl <| LM.mv rfl <| LM.nc rfl <| LM.val (ovf 3 rfl rfl rfl rfl) ?_
  refine LM.st Tryz.sizeOf3 rfl rfl rfl au5 rfl auH ?_
  refine nC [(0, _), (1, _), (2, _)] ?_
  refine QM.meetK ({ f with first := y }, ma) ⟨rfl, rfl, rfl, trivial⟩ au1 ?_
  · exact ⟨(if_neg (by simpa using h1)).symm, hA, inn_refl _ _⟩
 rintro ⟨f1, m1⟩ ⟨hf1, hA1, hi1⟩
 change QM _ _ _ _ _ (fqC b ba bw f1.first f1.last f1.tk :: (m1 ++ [])) _ _ _
 refine tR <| LM.mv rfl <| LM.nc rfl <| LM.val (ovf 168 rfl rfl rfl rfl) ?_
 refine LM.rd (oml rfl rfl rfl) ?_
 refine LM.mv rfl ?_
 refine cE Tryz.func149 rfl (fun w hm hc hg => arGet_spec y w hA1 (hm.pick m1)) ?_
 refine LM.mv rfl <| LM.val (ov_extract rfl rfl) <| LM.val (ov_extract rfl rfl) ?_
 refine LM.alloc Tryz.zeroValue172 rfl (fun b8 hb8 => ?_)
 refine LM.stW Tryz.sizeOf172 rfl rfl rfl rfl au7 auH ?_
 refine LM.as rfl <| nB [(0, _), (1, _), (2, _), (8, _), (9, _)] <| LM.mv rfl <| nA [(0, _), (1, _), (2, _), (8, _), (42, _)] ?_
 first | refine wpM.condD rfl (fun h2 => ?_) (fun h2 => ?_) | refine wpM.condB rfl (fun h2 => ?_) (fun h2 => ?_)
 ·
  refine wR <| LM.mv rfl <| LM.val (ovf 3 rfl rfl rfl rfl) ?_
  refine LM.st Tryz.sizeOf3 rfl rfl rfl au5 rfl auH ?_
  refine LM.mem (SubM.mem (M' := (b8, .cells (fLk { getA f1.a y with prev := x }).toArray 172 (0, 0)) :: fqC b ba bw f1.first f1.last f1.tk :: (m1 ++ [])) au1) ?_
  refine nA [(0, _), (2, _), (8, _)] ?_
  refine wpM.draw [(0, 0), (1, 0), (2, 0), (3, 1), (4, 0), (5, 1), (6, 3)] kr kr ?_
  refine LD.val rfl rfl (ov_move rfl) <| LD.val rfl rfl (ov_nilCheck rfl) <| LD.val rfl rfl (ovf 168 rfl rfl rfl rfl) ?_
  refine LD.rd rfl rfl (oml rfl rfl rfl) ?_
  refine LD.val rfl rfl (ov_move rfl) ?_
  refine LD.rd rfl rfl (om_ldW Tryz.isAgg172 Tryz.sizeOf172 rfl rfl) ?_
  refine LD.tail rfl rfl ?_
  refine cU Tryz.func169 rfl (fun w hm hc hg => arSet_spec y { getA f1.a y with prev := x } w hA1 (hm.pick m1)) hA1.wlk (inn_S hi1 inM_ma) ?_
  rintro u51 m51 ⟨rfl, h51⟩ hin51
  refine LM.nil ?_
  refine QM.qn ?_
  refine QM.sub (e' := []) trivial ?_
  refine QM.leave (.inr rfl) [] Tryz.results153 rfl ?_
  intro w' hm' hc' hg'
  exact fj_leaf (f2 := { f1 with a := setA f1.a y { getA f1.a y with prev := x } }) (by unfold joinF; rw [← hf1]; exact if_pos h2) h51 hm' (by (repeat' (first | exact SubM.nil _ | refine SubM.cons (by rfl) ?_ | refine SubM.app ?_))) hc' (inn_trans hi1 hin51)
 refine wpM.region ?_
 refine LM.mv rfl <| LM.mv rfl <| LM.nc rfl <| LM.val (ovf 3 rfl rfl rfl rfl) ?_
 refine LM.st Tryz.sizeOf3 rfl rfl rfl au5 rfl auH ?_
 refine LM.nil (QM.sub (e' := []) trivial ?_)
 refine QM.leave (.inr rfl) [] Tryz.results153 rfl ?_
 intro w' hm' hc' hg'
 exact fj_leaf (f2 := { f1 with last := x }) (by unfold joinF; rw [← hf1]; exact if_neg (by simpa using h2)) hA1 hm' (by (repeat' (first | exact SubM.nil _ | refine SubM.cons (by rfl) ?_ | refine SubM.app ?_))) hc' hi1
def fWt (v : Wt) : List Value := [.int .i64 v.who, .int .i64 v.key, U v.til]
def FfM (n0 b : Nat) (f : Fq) (m : Mem0) : Prop := ∃ (ba bw : Nat) (es : Array MapEntry) (cl : Nat) (ma : Mem0), m = fqC b ba bw f.first f.last f.tk :: (bw, .map es cl) :: ma ∧ ArM n0 ba f.a ma ∧ EnsS .i64 es cl f.wh ∧ n0 ≤ b ∧ n0 ≤ bw
theorem FfM.ge {n0 b : Nat} {f : Fq} {m : Mem0} (h : FfM n0 b f m) : ∀ p ∈ m, n0 ≤ p.1 := by
  obtain ⟨ba, bw, es, cl, ma, rfl, hA, he, hb, hbw⟩ := h
  intro p hp
  simp only [List.mem_cons] at hp
  rcases hp with rfl | rfl | hp
  · exact hb
  · exact hbw
  · exact hA.ge p hp
theorem FfM.wlk {n0 b : Nat} {f : Fq} {m : Mem0} (h : FfM n0 b f m) : ∀ p ∈ m, wlk p.2 = false := by
  obtain ⟨ba, bw, es, cl, ma, rfl, hA, he, hb, hbw⟩ := h
  intro p hp
  simp only [List.mem_cons] at hp
  rcases hp with rfl | rfl | hp
  · rfl
  · rfl
  · exact hA.wlk p hp
theorem FfM.mono {n0 n1 b : Nat} {f : Fq} {m : Mem0} (h : FfM n0 b f m) (hn : n1 ≤ n0) : FfM n1 b f m := by
  obtain ⟨ba, bw, es, cl, ma, rfl, hA, he, hb, hbw⟩ := h
  exact ⟨ba, bw, es, cl, ma, rfl, hA.mono hn, he, Nat.le_trans hn hb, Nat.le_trans hn hbw⟩
theorem ch_free {l : List St} {F : List Nat} {f : Int} (h : Ch l F f) (hl : ∀ p ∈ F, p < l.length) : 0 ≤ f ∧ f ≤ l.length := by
  cases F with
  | nil => have : f = 0 := h; omega
  | cons p F => have := h.1; have := hl p (List.mem_cons_self ..); omega
theorem awf_of {most : Int} {f : Fq} {q : List (Int × Wt)} {ps F : List Nat} (h : FqR most f q ps F) : AWf f.a := by
  have h1 := h.len; have h2 := h.le; have h3 := h.mst; have h4 := h.n
  refine ⟨by omega, by omega, by omega, ch_free h.ch (fun p hp => h.cov p (.inr hp))⟩
theorem awf_put {most : Int} {f : Fq} {q : List (Int × Wt)} {ps F : List Nat} (h : FqR most f q ps F) (v : Lk) : AWf (putA f.a v) := by
  by_cases hn : f.a.most ≤ f.a.n
  · rw [show putA f.a v = f.a from if_pos hn]; exact awf_of h
  · obtain ⟨p, F', hp, hpp, hpF, hFF, hFn, hl, hpl, hle, hsp, hsr, hch, hna, hma, hmm⟩ := put_at h hn v
    have h3 := h.mst; have h4 := h.n
    exact ⟨by omega, by omega, by omega, ch_free hch (fun r hr => Nat.lt_of_lt_of_le (h.cov r (.inr (hFF r hr))) hle)⟩
theorem inM_q {a c : Nat × Obj} {m : Mem0} : ∀ p ∈ m, inM (a :: c :: m) p.1 := fun p hp => ⟨p, List.mem_cons_of_mem _ (List.mem_cons_of_mem _ hp), rfl⟩
theorem ff_leaf {n0 b ba bw cl cl' : Nat} {f2 : Fq} {first last tk : Int} {es es' : Array MapEntry} {ma m2 M : Mem0} {u0 : Value} {w w' : World} (hA2 : ArM n0 ba f2.a m2) (he : EnsS .i64 es' cl' f2.wh) (hb : n0 ≤ b) (hbw : n0 ≤ bw) (hm : Mem w' M) (hs : SubM M (fqC b ba bw f2.first f2.last f2.tk :: (bw, .map es' cl') :: (m2 ++ []))) (hc : Chg (inM (fqC b ba bw first last tk :: (bw, .map es cl) :: ma)) w w') (hin : inn ma w.heap.size m2) :
    Upd (fqC b ba bw first last tk :: (bw, .map es cl) :: ma) (fun u m' => u = u0 ∧ FfM n0 b f2 m') w u0 w' := by
  rw [List.append_nil] at hs
  refine ⟨hc, _, ⟨rfl, ba, bw, es', cl', m2, rfl, hA2, he, hb, hbw⟩, hs.mem w' hm, fun p hp => ?_⟩
  simp only [List.mem_cons] at hp
  rcases hp with rfl | rfl | hp
  · exact .inr ⟨_, List.mem_cons_self .., rfl⟩
  · exact .inr ⟨(bw, .map es cl), by simp only [List.mem_cons, true_or, or_true], rfl⟩
  · rcases hin p hp with q | ⟨q, hq, e⟩
    · exact .inl q
    · exact .inr ⟨q, List.mem_cons_of_mem _ (List.mem_cons_of_mem _ hq), e⟩
theorem wlk_c {a : Nat × Obj} {m : Mem0} (h0 : wlk a.2 = false) (h : ∀ p ∈ m, wlk p.2 = false) : ∀ p ∈ a :: m, wlk p.2 = false := fun p hp => by
  rcases List.mem_cons.1 hp with rfl | hp
  · exact h0
  · exact h p hp
theorem inM_c {a a' c : Nat × Obj} {m x : Mem0} {k : Nat} (e : a'.1 = a.1) (hi : inn m k x) : ∀ p ∈ a' :: x, p.1 < k → inM (a :: c :: m) p.1 := fun p hp hlt => by
  rcases List.mem_cons.1 hp with rfl | hp
  · exact ⟨a, List.mem_cons_self .., e.symm⟩
  · exact inn_S hi inM_q p hp hlt
theorem inn_tail {a b : Nat × Obj} {m x : Mem0} {k : Nat} (e : a.1 = b.1) (h : inn (a :: m) k (b :: x)) (hb : ∀ p ∈ x, p.1 ≠ a.1) : inn m k x := fun p hp => by
  rcases h p (List.mem_cons_of_mem _ hp) with q | ⟨q, hq, e2⟩
  · exact .inl q
  · rcases List.mem_cons.1 hq with rfl | hq
    · exact absurd e2.symm (hb p hp)
    · exact .inr ⟨q, hq, e2⟩
def fpushX (f : Fq) (v : Wt) : Fq := if f.a.most ≤ f.a.n then f else pushF f v
def fpushV (f : Fq) : Int := if f.a.most ≤ f.a.n then 0 else f.tk + 1
theorem joinF_wh (f : Fq) (x y : Int) : (joinF f x y).wh = f.wh := by
  unfold joinF join2 join1
  (repeat' split) <;> rfl
theorem joinF_tk (f : Fq) (x y : Int) : (joinF f x y).tk = f.tk := by
  unfold joinF join2 join1
  (repeat' split) <;> rfl
theorem pushX_no {f : Fq} (h : f.a.most ≤ f.a.n) (v : Wt) : fpushX f v = f ∧ fpushV f = 0 ∧ putE f.a = 3 := ⟨if_pos h, if_pos h, if_pos h⟩
theorem pushX_ok {f : Fq} (h : ¬ f.a.most ≤ f.a.n) (v : Wt) : fpushX f v = pushF f v ∧ fpushV f = (pushF f v).tk ∧ putE f.a = 0 := ⟨if_neg h, (if_neg h).trans (joinF_tk { f with a := putA f.a ⟨v, f.tk + 1, -1, -1⟩, wh := aput f.wh (f.tk + 1) (.int .i64 (putP f.a)), tk := f.tk + 1 } f.last (putP f.a)).symm, if_neg h⟩
theorem mem_ne {a : Nat × Obj} {m : Mem0} {w : World} (h : Mem w (a :: (m ++ []))) : ∀ p ∈ m, p.1 ≠ a.1 := fun p hp e => by
  rw [List.append_nil] at h
  exact (List.nodup_cons.1 h.1).1 (List.mem_map.2 ⟨p, hp, e⟩)
theorem fpush_spec {n0 b : Nat} {most : Int} {f : Fq} {q : List (Int × Wt)} {ps F : List Nat} {m : Mem0} (v : Wt) (w : World) (hR : FqR most f q ps F) (htk : f.tk ≤ 1000000000) (h : FfM n0 b f m) (hn0 : n0 ≤ w.heap.size) (hM : Mem w m) : Ret Tryz.prog 130 #[.pointer (some ⟨b, 0, none⟩), .agg (fWt v).toArray] w (Upd m (fun u m' => u = .tuple #[.int .i64 (fpushV f), .int .i64 (putE f.a)] ∧ FfM n0 b (fpushX f v) m') w) := by
 obtain ⟨ba, bw, es, cl, ma, rfl, hA, he, hb, hbw⟩ := h; have hP := awf_put hR ⟨v, f.tk + 1, -1, -1⟩; have htk0 := hR.tk0
 refine Ret.enterM Tryz.func130 rfl Tryz.ntmps130 rfl (fqC b ba bw f.first f.last f.tk :: (bw, .map es cl) :: (ma ++ [])) ((inM (fqC b ba bw f.first f.last f.tk :: (bw, .map es cl) :: ma))) aM ?_
 refine wR ?_
 refine LM.box rfl rfl (fun b3 hb3 => ?_)
 refine LM.as rfl <| LM.as rfl <| nA [(0, _), (3, _)] <| wpM.seq <| wR <| LM.mv rfl ?_
 refine LM.val (ov_peql kr rfl rfl) ?_
 refine nA [(0, _), (3, _), (9, _)] ?_
 refine wpM.condF rfl ?_
 refine wpM.skip <| QM.then <| wpM.seq ?_
 refine wpM.keep ((b3, .cells (fWt v).toArray 85 (0, 0)) :: fqC b ba bw f.first f.last f.tk :: []) (fun _ => True) (.one 0 0 (.one 1 0 (.one 2 0 (.one 3 1 (.one 4 1 (.one 5 0 (.one 6 0 (.one 7 0 (.one 8 1 (.one 9 0 (.one 10 0 (.one 11 2 (.one 12 0 (.one 13 0 (.one 14 0 (.one 15 0 (.one 16 0 .nil))))))))))))))))) kr kr au1 (fun _ _ => trivial) ?_
 refine KD.val rfl rfl (ov_move rfl) <| KD.val rfl rfl (ov_nilCheck rfl) <| KD.val rfl rfl (ovf 168 rfl rfl rfl rfl) ?_
 refine KD.rd rfl rfl (oml rfl rfl rfl) ?_
 refine KD.rd rfl rfl (om_ldW Tryz.isAgg85 Tryz.sizeOf85 rfl rfl) ?_
 refine KD.val rfl rfl (ov_move rfl) <| KD.val rfl rfl (ov_nilCheck rfl) <| KD.val rfl rfl (ovf 3 rfl rfl rfl rfl) ?_
 refine KD.rd rfl rfl (oml rfl rfl rfl) ?_
 refine KD.val rfl rfl (ov_add64 rfl rfl om) ?_
 refine KD.val rfl rfl (ov_build (cs := (fLk ⟨v, f.tk + 1, -1, -1⟩).toArray) rfl kr) ?_
 refine KD.one rfl ?_
 refine cU Tryz.func152 rfl (fun w hm hc hg => arPut_spec ⟨v, f.tk + 1, -1, -1⟩ w hA hP (Nat.le_trans hn0 hc.size) (hm.pick ma)) hA.wlk (fun p hp _ => inM_q p hp) ?_
 rintro u22 m22 ⟨rfl, h22⟩ hin22
 refine LM.nil ?_
 refine kq1 ?_
 refine KD.val rfl rfl (ov_move rfl) ?_
 refine KD.val rfl rfl (ov_extract rfl rfl) ?_
 refine KD.val rfl rfl (ov_extract rfl rfl) ?_
 refine KD.val rfl rfl (ov_assign rfl) <| KD.val rfl rfl (ov_assign rfl) <| KD.nil ?_
 refine QM.sub (e' := [(0, _), (6, _), (7, _)]) au9 (QM.then ?_)
 refine wpM.seq <| wR <| LM.mv rfl <| LM.val (ov_neq rfl rfl) <| nA [(0, _), (6, _), (7, _), (26, _)] ?_
 refine wpM.condD rfl (fun h1 => ?_) (fun h1 => ?_)
 ·
  have hfull : f.a.most ≤ f.a.n := Classical.byContradiction (fun z => h1 (if_neg z)); have hX : putA f.a ⟨v, f.tk + 1, -1, -1⟩ = f.a := if_pos hfull
  refine wR <| LM.mv rfl <| LM.as rfl <| LM.as rfl <| nA [(4, _), (5, _)] <| wpM.ret <| QM.then_ret ?_
  refine QM.leave (.inl rfl) [.tmp 4, .tmp 5] Tryz.results130 rfl ?_
  intro w' hm' hc' hg'
  obtain ⟨e1, e2, e3⟩ := pushX_no hfull v; rw [e1, e2, e3]; exact ff_leaf (f2 := f) (by rw [← hX]; exact h22) he hb hbw hm' (by (repeat' (first | exact SubM.nil _ | refine SubM.cons (by rfl) ?_ | refine SubM.app ?_))) hc' hin22
 have hfull : ¬ f.a.most ≤ f.a.n := fun z => h1 (by rw [show putE f.a = 3 from if_pos z]; decide)
 refine wpM.skip <| tR <| LM.mv rfl <| LM.nc rfl <| LM.val (ovf 3 rfl rfl rfl rfl) ?_
 refine LM.rd (oml rfl rfl rfl) ?_
 refine LM.val (ov_add64 rfl rfl om) ?_
 refine LM.nc rfl <| LM.val (ovf 3 rfl rfl rfl rfl) ?_
 refine LM.st Tryz.sizeOf3 rfl rfl rfl au5 rfl auH ?_
 refine LM.mem (SubM.mem (M' := fqC b ba bw f.first f.last (f.tk + 1) :: (bw, .map es cl) :: (m22 ++ [])) au1) ?_
 refine nA [(0, _), (6, _)] <| wpM.seq ?_
 refine wpM.draw [(0, 0), (1, 0), (2, 0), (3, 1), (4, 0), (5, 0), (6, 0), (7, 1), (8, 0), (9, 3)] kr kr ?_
 refine LD.val rfl rfl (ov_move rfl) <| LD.val rfl rfl (ov_nilCheck rfl) <| LD.val rfl rfl (ovf 72 rfl rfl rfl rfl) ?_
 refine LD.rd rfl rfl (oml rfl rfl rfl) ?_
 refine LD.val rfl rfl (ov_move rfl) <| LD.val rfl rfl (ov_nilCheck rfl) <| LD.val rfl rfl (ovf 3 rfl rfl rfl rfl) ?_
 refine LD.rd rfl rfl (oml rfl rfl rfl) ?_
 refine LD.val rfl rfl (ov_move rfl) ?_
 refine LD.tail rfl rfl ?_
 refine LM.mUS Tryz.underlying72 Tryz.underlying3 rfl rfl rfl asm auH (fun esu1 clu1 hesu1 => ?_)
 refine LM.nil ?_
 refine QM.qn ?_
 refine QM.sub (e' := [(0, _), (6, _)]) au9 (QM.then (wpM.seq (wpM.region ?_)))
 refine LM.mv rfl <| LM.mv rfl <| LM.nc rfl <| LM.val (ovf 3 rfl rfl rfl rfl) ?_
 refine LM.rd (oml rfl rfl rfl) ?_
 refine LM.mv rfl ?_
 refine cU Tryz.func153 rfl (fun w hm hc hg => fjoin_spec (b := b) (bw := bw) (f := { f with a := putA f.a ⟨v, f.tk + 1, -1, -1⟩, wh := aput f.wh (f.tk + 1) (.int .i64 (putP f.a)), tk := f.tk + 1 }) f.last (putP f.a) w h22 (hm.pick (fqC b ba bw f.first f.last (f.tk + 1) :: m22))) (wlk_c rfl h22.wlk) (inM_c rfl hin22) ?_
 rintro u50 m50 ⟨rfl, ma5, rfl, h50⟩ hin50
 refine nB [(0, _), (6, _)] <| LM.mv rfl <| LM.mv rfl <| LM.nc rfl <| LM.val (ovf 3 rfl rfl rfl rfl) ?_
 refine LM.st Tryz.sizeOf3 rfl rfl rfl au5 rfl auH ?_
 refine nB [(0, _)] <| LM.mv rfl <| LM.nc rfl <| LM.val (ovf 3 rfl rfl rfl rfl) ?_
 refine LM.rd (oml rfl rfl rfl) ?_
 refine LM.as rfl <| LM.as rfl <| nA [(4, _), (5, _)] <| wpM.ret ?_
 refine QM.leave (.inl rfl) [.tmp 4, .tmp 5] Tryz.results130 rfl ?_
 intro w' hm' hc' hg'
 obtain ⟨e1, e2, e3⟩ := pushX_ok hfull v; rw [e1, e2, e3]; have hne50 := mem_ne (SubM.mem (M' := fqC b ba bw (pushF f v).first (pushF f v).last (pushF f v).tk :: (ma5 ++ [])) (by (repeat' (first | exact SubM.nil _ | refine SubM.cons (by rfl) ?_ | refine SubM.app ?_))) w' hm'); exact ff_leaf (f2 := pushF f v) h50 (by rw [show (pushF f v).wh = aput f.wh (f.tk + 1) (.int .i64 (putP f.a)) from joinF_wh _ _ _]; exact hesu1) hb hbw hm' (by (repeat' (first | exact SubM.nil _ | refine SubM.cons (by rfl) ?_ | refine SubM.app ?_))) hc' (inn_trans hin22 (inn_tail (by rfl) hin50 hne50))
theorem awf_drop {most : Int} {f : Fq} {q : List (Int × Wt)} {ps F : List Nat} (h : FqR most f q ps F) {i : Nat} (hi : i < ps.length) : AWf (dropA f.a (ps.getD i 0 : Nat)) := by
  have hp := h.cov _ (.inl (gd_mem hi))
  rw [dropA_on hp (h.lk i hi).1]
  have h1 := awf_of h
  have h4 := h.n
  have h2 := h1.len; have h3 := h1.most; have h5 := h1.n
  exact ⟨by show (List.set _ _ _).length ≤ _; rw [List.length_set]; exact h2, h3, by show 0 ≤ f.a.n - 1 ∧ f.a.n - 1 ≤ 4096; omega, by show 0 ≤ ((ps.getD i 0 : Nat) : Int) + 1 ∧ ((ps.getD i 0 : Nat) : Int) + 1 ≤ ((List.set _ _ _).length : Int); rw [List.length_set]; omega⟩
theorem ftake_spec {n0 b : Nat} {most : Int} {f : Fq} {q : List (Int × Wt)} {ps F : List Nat} {m : Mem0} (i : Nat) (w : World) (hR : FqR most f q ps F) (hi : i < ps.length) (h : FfM n0 b f m) (hM : Mem w m) : Ret Tryz.prog 171 #[.pointer (some ⟨b, 0, none⟩), .int .i64 ((ps.getD i 0 : Nat) : Int)] w (Upd m (fun u m' => u = .tuple #[.agg (fWt (qd q i).2).toArray, .bool true] ∧ FfM n0 b (takeF f (ps.getD i 0 : Nat)) m') w) := by
 obtain ⟨ba, bw, es, cl, ma, rfl, hA, he, hb, hbw⟩ := h; have hD := awf_drop hR hi; have hpl := hR.cov _ (.inl (gd_mem hi)); have hon := isA_on hpl (hR.lk i hi).1; have hgv : getA f.a (ps.getD i 0 : Nat) = ⟨(qd q i).2, (qd q i).1, pv ps i, nv ps i⟩ := by rw [getA_on hpl (hR.lk i hi).1]; exact (hR.lk i hi).2
 refine Ret.enterM Tryz.func171 rfl Tryz.ntmps171 rfl (fqC b ba bw f.first f.last f.tk :: (bw, .map es cl) :: (ma ++ [])) ((inM (fqC b ba bw f.first f.last f.tk :: (bw, .map es cl) :: ma))) aM ?_
 refine wR ?_
 refine LM.alloc Tryz.zeroValue85 rfl (fun b4 hb4 => ?_)
 refine LM.as rfl <| nB [(0, _), (1, _), (4, _)] <| LM.mv rfl <| LM.nc rfl <| LM.val (ovf 168 rfl rfl rfl rfl) ?_
 refine LM.rd (oml rfl rfl rfl) ?_
 refine LM.mv rfl ?_
 refine cU Tryz.func177 rfl (fun w hm hc hg => arDrop_spec (ps.getD i 0 : Nat) w hA hD (hm.pick ma)) hA.wlk (fun p hp _ => inM_q p hp) ?_
 rintro u14 m14 ⟨rfl, h14⟩ hin14; rw [hon, hgv]
 refine LM.mv rfl <| LM.val (ov_extract rfl rfl) <| LM.val (ov_extract rfl rfl) ?_
 refine LM.alloc Tryz.zeroValue172 rfl (fun b6 hb6 => ?_)
 refine LM.stW Tryz.sizeOf172 rfl rfl rfl rfl au7 auH ?_
 refine LM.as rfl <| nA [(0, _), (4, _), (6, _), (7, _)] <| wpM.seq <| wR <| LM.mv rfl <| nA [(0, _), (4, _), (6, _), (7, _), (17, _)] ?_
 first | refine wpM.condD rfl (fun h1 => ?_) (fun h1 => ?_) | refine wpM.condB rfl (fun h1 => ?_) (fun h1 => ?_)
 ·
  refine wpM.seq ?_
  refine wpM.draw [(0, 0), (1, 0), (2, 0), (3, 1), (4, 0), (5, 1), (6, 3)] kr kr ?_
  refine LD.val rfl rfl (ov_move rfl) <| LD.val rfl rfl (ov_nilCheck rfl) <| LD.val rfl rfl (ovf 72 rfl rfl rfl rfl) ?_
  refine LD.rd rfl rfl (oml rfl rfl rfl) ?_
  refine LD.val rfl rfl (ovf 3 rfl rfl rfl rfl) ?_
  refine LD.rd rfl rfl (oml rfl rfl rfl) ?_
  refine LD.tail rfl rfl ?_
  refine LM.mDS Tryz.underlying72 Tryz.underlying3 rfl rfl asm auH (fun esu1 clu1 hesu1 => ?_)
  refine LM.nil ?_
  refine QM.qn ?_
  refine QM.sub (e' := [(0, _), (4, _), (6, _), (7, _)]) au9 (QM.then (wpM.region ?_))
  refine LM.mv rfl <| LM.val (ovf 3 rfl rfl rfl rfl) ?_
  refine LM.rd (oml rfl rfl rfl) ?_
  refine LM.val (ovf 3 rfl rfl rfl rfl) ?_
  refine LM.rd (oml rfl rfl rfl) ?_
  refine cU Tryz.func153 rfl (fun w hm hc hg => fjoin_spec (b := b) (bw := bw) (f := { f with a := dropA f.a (ps.getD i 0 : Nat), wh := adel f.wh (qd q i).1 }) (pv ps i) (nv ps i) w h14 (hm.pick (fqC b ba bw f.first f.last f.tk :: m14))) (wlk_c rfl h14.wlk) (inM_c rfl hin14) ?_
  rintro u29 m29 ⟨rfl, ma5, rfl, h29⟩ hin29
  refine nB [(4, _), (6, _), (7, _)] <| LM.val (ovf 85 rfl rfl rfl rfl) ?_
  first | refine LM.rd (om_ldW Tryz.isAgg85 Tryz.sizeOf85 rfl rfl) ?_ | refine LM.rd (om_ldA Tryz.isAgg85 Tryz.sizeOf85 rfl (vs := [_, _, _]) rfl ⟨rfl, rfl, rfl, trivial⟩) ?_
  refine LM.mv rfl ?_
  refine LM.stW Tryz.sizeOf85 rfl rfl rfl rfl au7 auH ?_
  refine LM.as rfl <| nA [(4, _), (5, _)] <| wpM.ret ?_
  refine QM.leaveCs (ds := ([])) (.inl rfl) [.cell 4 85, .tmp 5] Tryz.results171 hd_nil (rc_w rfl Tryz.isAgg85 Tryz.sizeOf85 rfl (rc_tmp rfl rc_nil)) ?_
  intro w' hm' hc'
  have eX : takeF f (ps.getD i 0 : Nat) = joinF { f with a := dropA f.a (ps.getD i 0 : Nat), wh := adel f.wh (qd q i).1 } (pv ps i) (nv ps i) := (by unfold takeF; rw [hgv]); rw [eX]; have hne29 := mem_ne (SubM.mem (M' := fqC b ba bw (joinF { f with a := dropA f.a (ps.getD i 0 : Nat), wh := adel f.wh (qd q i).1 } (pv ps i) (nv ps i)).first (joinF { f with a := dropA f.a (ps.getD i 0 : Nat), wh := adel f.wh (qd q i).1 } (pv ps i) (nv ps i)).last (joinF { f with a := dropA f.a (ps.getD i 0 : Nat), wh := adel f.wh (qd q i).1 } (pv ps i) (nv ps i)).tk :: (ma5 ++ [])) (by (repeat' (first | exact SubM.nil _ | refine SubM.cons (by rfl) ?_ | refine SubM.app ?_))) w' hm'); exact ff_leaf (f2 := joinF { f with a := dropA f.a (ps.getD i 0 : Nat), wh := adel f.wh (qd q i).1 } (pv ps i) (nv ps i)) h29 (by rw [joinF_wh]; exact hesu1) hb hbw hm' (by (repeat' (first | exact SubM.nil _ | refine SubM.cons (by rfl) ?_ | refine SubM.app ?_))) hc' (inn_trans hin14 (inn_tail (by rfl) hin29 hne29))
 cases h1
def FoM (most : Int) (n0 b : Nat) (q : List (Int × Wt)) (tk : Int) (m : Mem0) : Prop := ∃ (f : Fq) (ps F : List Nat), FqR most f q ps F ∧ f.tk = tk ∧ FfM n0 b f m
theorem FoM.ge {most : Int} {n0 b : Nat} {q : List (Int × Wt)} {tk : Int} {m : Mem0} (h : FoM most n0 b q tk m) : ∀ p ∈ m, n0 ≤ p.1 := by obtain ⟨f, ps, F, h1, h2, h3⟩ := h; exact h3.ge
theorem FoM.wlk {most : Int} {n0 b : Nat} {q : List (Int × Wt)} {tk : Int} {m : Mem0} (h : FoM most n0 b q tk m) : ∀ p ∈ m, wlk p.2 = false := by obtain ⟨f, ps, F, h1, h2, h3⟩ := h; exact h3.wlk
theorem FoM.mono {most : Int} {n0 n1 b : Nat} {q : List (Int × Wt)} {tk : Int} {m : Mem0} (h : FoM most n0 b q tk m) (hn : n1 ≤ n0) : FoM most n1 b q tk m := by obtain ⟨f, ps, F, h1, h2, h3⟩ := h; exact ⟨f, ps, F, h1, h2, h3.mono hn⟩
theorem Upd.imp {m : Mem0} {T T' : Value → Mem0 → Prop} {w w' : World} {u : Value} (h : Upd m T w u w') (k : ∀ u m', T u m' → T' u m') : Upd m T' w u w' := by
  obtain ⟨h1, m', h2, h3, h4⟩ := h
  exact ⟨h1, m', k _ _ h2, h3, h4⟩
def foE (most : Int) (q : List (Int × Wt)) : Int := if most ≤ (q.length : Int) then 3 else 0
def foX (most : Int) (q : List (Int × Wt)) (tk : Int) (v : Wt) : List (Int × Wt) := if most ≤ (q.length : Int) then q else q ++ [(tk + 1, v)]
def foT (most : Int) (q : List (Int × Wt)) (tk : Int) : Int := if most ≤ (q.length : Int) then tk else tk + 1
theorem full_iff {most : Int} {f : Fq} {q : List (Int × Wt)} {ps F : List Nat} (h : FqR most f q ps F) : f.a.most ≤ f.a.n ↔ most ≤ (q.length : Int) := by
  rw [h.mst.1, h.n, h.lq]
theorem pushF_tk (f : Fq) (v : Wt) : (pushF f v).tk = f.tk + 1 := joinF_tk _ _ _
theorem takeF_tk (f : Fq) (p : Int) : (takeF f p).tk = f.tk := joinF_tk _ _ _
theorem foPush_spec {most : Int} {n0 b : Nat} {q : List (Int × Wt)} {tk : Int} {m : Mem0} (v : Wt) (w : World) (h : FoM most n0 b q tk m) (htk : tk ≤ 1000000000) (hn0 : n0 ≤ w.heap.size) (hM : Mem w m) :
    Ret Tryz.prog 130 #[.pointer (some ⟨b, 0, none⟩), .agg (fWt v).toArray] w (Upd m (fun u m' => u = .tuple #[.int .i64 (if most ≤ (q.length : Int) then 0 else tk + 1), .int .i64 (foE most q)] ∧ FoM most n0 b (foX most q tk v) (foT most q tk) m') w) := by
  obtain ⟨f, ps, F, h1, rfl, h3⟩ := h
  refine (fpush_spec v w h1 htk h3 hn0 hM).mono (fun u w' hU => hU.imp (fun u m' ⟨e, hF⟩ => ?_))
  have hi := full_iff h1
  unfold foE foX foT
  by_cases hf : f.a.most ≤ f.a.n
  · have hq := hi.1 hf
    obtain ⟨e1, e2, e3⟩ := pushX_no hf v
    rw [if_pos hq, if_pos hq, if_pos hq, if_pos hq]
    rw [e1] at hF
    exact ⟨by rw [e, e2, e3], f, ps, F, h1, rfl, hF⟩
  · have hq : ¬ most ≤ (q.length : Int) := fun z => hf (hi.2 z)
    obtain ⟨e1, e2, e3⟩ := pushX_ok hf v
    rw [if_neg hq, if_neg hq, if_neg hq, if_neg hq]
    rw [e1] at hF
    obtain ⟨ps', F', h4⟩ := push_ok h1 hf v
    exact ⟨by rw [e, e2, e3, pushF_tk], pushF f v, ps', F', h4, pushF_tk f v, hF⟩
theorem getD_some' {l : List (Int × Value)} {a u : Int} (h : aget l a = some (.int .i64 u)) : (aget l a).getD (.int .i64 0) = .int .i64 u := by rw [h]; rfl
theorem has_some' {l : List (Int × Value)} {a : Int} {v : Value} (h : aget l a = some v) : (aget l a).isSome = true := by rw [h]; rfl
theorem fplace_spec {n0 b : Nat} {most : Int} {f : Fq} {q : List (Int × Wt)} {ps F : List Nat} {m : Mem0} (i : Nat) (w : World) (hR : FqR most f q ps F) (hi : i < ps.length) (h : FfM n0 b f m) (hM : Mem w m) : Ret Tryz.prog 148 #[.pointer (some ⟨b, 0, none⟩), .int .i64 (qd q i).1] w (fun u w' => u = .int .i64 ((ps.getD i 0 : Nat) : Int) ∧ Ext w w') := by
 obtain ⟨ba, bw, es, cl, ma, rfl, hA, he, hb, hbw⟩ := h; have he1 := he.1; have hw0 := hR.wh i (by have := hR.lq; omega)
 refine Ret.enterM Tryz.func148 rfl Tryz.ntmps148 rfl (fqC b ba bw f.first f.last f.tk :: (bw, .map es cl) :: (ma ++ [])) (no) aM ?_
 refine wR <| LM.as rfl <| nA [(0, _), (1, _)] <| wpM.seq <| wR <| LM.mv rfl ?_
 refine LM.val (ov_pneq kr rfl rfl) ?_
 refine nA [(0, _), (1, _), (8, _)] ?_
 refine wpM.condT rfl ?_
 refine wR <| LM.mv rfl <| LM.nc rfl <| LM.val (ovf 72 rfl rfl rfl rfl) ?_
 refine LM.rd (oml rfl rfl rfl) ?_
 refine LM.mv rfl ?_
 refine LM.rd (om_lkOk Tryz.underlying72 Tryz.underlying3 Tryz.zeroValue3 rfl rfl asm (getD_some' hw0) (has_some' hw0)) ?_
 refine LM.mv rfl <| LM.val (ov_extract rfl rfl) <| LM.val (ov_extract rfl rfl) <| LM.as rfl <| LM.as rfl <| nB [(5, _), (6, _)] <| LM.mv rfl <| nA [(5, _), (18, _)] ?_
 first | refine wpM.condD rfl (fun h1 => ?_) (fun h1 => ?_) | refine wpM.condB rfl (fun h1 => ?_) (fun h1 => ?_)
 ·
  refine wR <| LM.mv rfl <| LM.as rfl <| nA [(4, _)] <| wpM.ret <| QM.then_ret ?_
  refine qL Tryz.results148 rfl fun w' hm' hc' hg' => ?_
  exact ⟨rfl, hc'⟩
 cases h1
theorem fremove_spec {n0 b : Nat} {most tk : Int} {q : List (Int × Wt)} {m : Mem0} (i : Nat) (w : World) (h : FoM most n0 b q tk m) (hi : i < q.length) (hM : Mem w m) : Ret Tryz.prog 156 #[.pointer (some ⟨b, 0, none⟩), .int .i64 (qd q i).1] w (Upd m (fun u m' => u = .tuple #[.agg (fWt (qd q i).2).toArray, .bool true] ∧ FoM most n0 b (q.eraseIdx i) tk m') w) := by
 obtain ⟨f, ps, F, hR, htk, hF⟩ := h; have hip : i < ps.length := (by have := hR.lq; omega)
 refine Ret.enterM Tryz.func156 rfl Tryz.ntmps156 rfl (m ++ []) ((inM m)) aM ?_
 refine wR ?_
 refine LM.alloc Tryz.zeroValue85 rfl (fun b4 hb4 => ?_)
 refine LM.as rfl <| nB [(0, _), (1, _), (4, _)] <| LM.mv rfl <| LM.mv rfl ?_
 refine cE Tryz.func148 rfl (fun w hm hc hg => fplace_spec i w hR hip hF (hm.pick m)) ?_
 refine LM.as rfl <| nA [(0, _), (4, _), (6, _)] <| wpM.seq <| wR <| LM.mv rfl <| LM.val (ov_eql rfl rfl) <| nA [(0, _), (4, _), (6, _), (12, _)] ?_
 refine wpM.condD rfl (fun h1 => ?_) (fun h1 => ?_)
 ·
  omega
 refine wpM.skip <| tR <| LM.mv rfl <| LM.mv rfl ?_
 refine cU Tryz.func171 rfl (fun w hm hc hg => ftake_spec i w hR hip hF (hm.pick m)) hF.wlk (fun p hp _ => ⟨p, hp, rfl⟩) ?_
 rintro u16 m16 ⟨rfl, h16⟩ hin16
 refine LM.val (ov_extract rfl rfl) <| LM.val (ov_extract rfl rfl) ?_
 refine LM.stW Tryz.sizeOf85 rfl rfl rfl rfl au7 auH ?_
 refine LM.as rfl <| nA [(4, _), (5, _)] <| wpM.ret ?_
 refine QM.leaveCs (ds := ([])) (.inl rfl) [.cell 4 85, .tmp 5] Tryz.results156 hd_nil (rc_w rfl Tryz.isAgg85 Tryz.sizeOf85 rfl (rc_tmp rfl rc_nil)) ?_
 intro w' hm' hc'
 exact upd_m ⟨rfl, takeF f (ps.getD i 0 : Nat), ps.eraseIdx i, ps.getD i 0 :: F, take_ok hR hip, by rw [takeF_tk]; exact htk, h16⟩ hm' (by (repeat' (first | exact SubM.nil _ | refine SubM.cons (by rfl) ?_ | refine SubM.app ?_))) hc' hin16
theorem foLen_spec {n0 b : Nat} {most tk : Int} {q : List (Int × Wt)} {m : Mem0} (w : World) (h : FoM most n0 b q tk m) (hM : Mem w m) : Ret Tryz.prog 106 #[.pointer (some ⟨b, 0, none⟩)] w (fun u w' => u = .int .i64 (q.length : Nat) ∧ Ext w w') := by
 obtain ⟨f, ps, F, hR, htk, ba, bw, es, cl, ma, rfl, hA, he, hb, hbw⟩ := h; have hnq : f.a.n = (q.length : Nat) := (by rw [hR.n, hR.lq])
 refine Ret.enterM Tryz.func106 rfl Tryz.ntmps106 rfl (fqC b ba bw f.first f.last f.tk :: (bw, .map es cl) :: (ma ++ [])) (no) aM ?_
 refine wR <| LM.as rfl <| nA [(0, _)] <| wpM.seq <| wR <| LM.mv rfl ?_
 refine LM.val (ov_peql kr rfl rfl) ?_
 refine nA [(0, _), (4, _)] ?_
 refine wpM.condF rfl ?_
 refine wpM.skip <| tR <| LM.mv rfl <| LM.nc rfl <| LM.val (ovf 168 rfl rfl rfl rfl) ?_
 refine LM.rd (oml rfl rfl rfl) ?_
 refine cE Tryz.func139 rfl (fun w hm hc hg => (by have k := arLen_spec w hA (hm.pick ma); rw [hnq] at k; exact k)) ?_
 refine LM.as rfl <| nA [(2, _)] <| wpM.ret ?_
 refine qL Tryz.results106 rfl fun w' hm' hc' hg' => ?_
 exact ⟨rfl, hc'⟩
theorem foGet_spec {n0 b : Nat} {most tk : Int} {q : List (Int × Wt)} {m : Mem0} (i : Nat) (w : World) (h : FoM most n0 b q tk m) (hi : i < q.length) (hM : Mem w m) : Ret Tryz.prog 123 #[.pointer (some ⟨b, 0, none⟩), .int .i64 (qd q i).1] w (fun u w' => u = .tuple #[.agg (fWt (qd q i).2).toArray, .bool true] ∧ Ext w w') := by
 obtain ⟨f, ps, F, hR, htk, hF⟩ := h; have hF0 := hF; obtain ⟨ba, bw, es, cl, ma, rfl, hA, he, hb, hbw⟩ := hF; have hip : i < ps.length := (by have := hR.lq; omega); have hpl := hR.cov _ (.inl (gd_mem hip)); have hon := isA_on hpl (hR.lk i hip).1; have hgv : getA f.a (ps.getD i 0 : Nat) = ⟨(qd q i).2, (qd q i).1, pv ps i, nv ps i⟩ := by rw [getA_on hpl (hR.lk i hip).1]; exact (hR.lk i hip).2
 refine Ret.enterM Tryz.func123 rfl Tryz.ntmps123 rfl (fqC b ba bw f.first f.last f.tk :: (bw, .map es cl) :: (ma ++ [])) (no) aM ?_
 refine wR ?_
 refine LM.alloc Tryz.zeroValue85 rfl (fun b4 hb4 => ?_)
 refine LM.as rfl <| nB [(0, _), (1, _), (4, _)] <| LM.mv rfl <| LM.mv rfl ?_
 refine cE Tryz.func148 rfl (fun w hm hc hg => fplace_spec i w hR hip hF0 (by have h9 := hm.pick (fqC b ba bw f.first f.last f.tk :: (bw, .map es cl) :: (ma ++ [])); rw [List.append_nil] at h9; exact h9)) ?_
 refine LM.as rfl <| nA [(0, _), (4, _), (6, _)] <| wpM.seq <| wR <| LM.mv rfl <| LM.val (ov_eql rfl rfl) <| nA [(0, _), (4, _), (6, _), (14, _)] ?_
 refine wpM.condD rfl (fun h1 => ?_) (fun h1 => ?_)
 ·
  omega
 refine wpM.skip <| tR <| LM.mv rfl <| LM.nc rfl <| LM.val (ovf 168 rfl rfl rfl rfl) ?_
 refine LM.rd (oml rfl rfl rfl) ?_
 refine LM.mv rfl ?_
 refine cE Tryz.func149 rfl (fun w hm hc hg => (by have k := arGet_spec (ps.getD i 0 : Nat) w hA (hm.pick ma); rw [hon, hgv] at k; exact k)) ?_
 refine LM.mv rfl <| LM.val (ov_extract rfl rfl) <| LM.val (ov_extract rfl rfl) ?_
 refine LM.alloc Tryz.zeroValue172 rfl (fun b8 hb8 => ?_)
 refine LM.stW Tryz.sizeOf172 rfl rfl rfl rfl au7 auH ?_
 refine LM.as rfl <| nB [(4, _), (8, _), (9, _)] <| LM.val (ovf 85 rfl rfl rfl rfl) ?_
 first | refine LM.rd (om_ldW Tryz.isAgg85 Tryz.sizeOf85 rfl rfl) ?_ | refine LM.rd (om_ldA Tryz.isAgg85 Tryz.sizeOf85 rfl (vs := [_, _, _]) rfl ⟨rfl, rfl, rfl, trivial⟩) ?_
 refine LM.mv rfl ?_
 refine LM.stW Tryz.sizeOf85 rfl rfl rfl rfl au7 auH ?_
 refine LM.as rfl <| nA [(4, _), (5, _)] <| wpM.ret ?_
 refine QM.leaveCs (ds := ([])) (.inl rfl) [.cell 4 85, .tmp 5] Tryz.results123 hd_nil (rc_w rfl Tryz.isAgg85 Tryz.sizeOf85 rfl (rc_tmp rfl rc_nil)) ?_
 intro w' hm' hc'
 exact ⟨rfl, hc'⟩
def newFq (k : Int) : Fq := ⟨newAr k, [], -1, -1, 0⟩
theorem newFq_ok (k : Int) : FqR (newAr k).most (newFq k) [] [] [] := by
  have h := (newAr_wf k).most
  constructor
  case mst => exact ⟨rfl, h⟩
  case lq => rfl
  case nd => exact List.nodup_nil
  case len => rfl
  case cov => intro p hp; rcases hp with hp | hp <;> cases hp
  case lk => intro i hi; cases hi
  case ch => rfl
  case n => rfl
  case le => exact h.1
  case first => rfl
  case last => rfl
  case tk0 => exact Int.le_refl _
  case tk => intro i hi; cases hi
  case inc => intro i j _ hj; cases hj
  case wk => exact List.nodup_nil
  case wh => intro i hi; cases hi
  case wn => intro t _; rfl
def FoN (k : Int) (n0 : Nat) (v : Value) (m : Mem0) : Prop := ∃ b, v = .pointer (some ⟨b, 0, none⟩) ∧ FoM (newAr k).most n0 b [] 0 m
theorem FoN.mono {k : Int} : ∀ (n n' : Nat) (v : Value) (m : Mem0), n' ≤ n → FoN k n v m → FoN k n' v m := fun n n' v m hn ⟨b, h1, h⟩ => ⟨b, h1, h.mono hn⟩
theorem fo_newleaf {k : Int} {b ba bw : Nat} {ma M : Mem0} {w w' : World} (hA : ArM w.heap.size ba (newAr k) ma) (hb : w.heap.size ≤ b) (hbw : w.heap.size ≤ bw) (hm : Mem w' M) (hs : SubM M (fqC b ba bw (-1) (-1) 0 :: (bw, .map #[] 0) :: (ma ++ []))) (hc : Ext w w') :
    Ext w w' ∧ ∃ m, FoN k w.heap.size (.pointer (some ⟨b, 0, none⟩)) m ∧ Mem w' m ∧ ∀ p ∈ m, w.heap.size ≤ p.1 := by
  rw [List.append_nil] at hs
  have h : FoM (newAr k).most w.heap.size b [] 0 (fqC b ba bw (-1) (-1) 0 :: (bw, .map #[] 0) :: ma) := ⟨newFq k, [], [], newFq_ok k, rfl, ba, bw, #[], 0, ma, rfl, hA, ensS_nil _, hb, hbw⟩
  exact ⟨hc, _, ⟨b, rfl, h⟩, hs.mem w' hm, h.ge⟩
theorem fonew_spec (k : Int) (w : World) : Ret Tryz.prog 138 #[.int .i64 k] w (fun v w' => Ext w w' ∧ ∃ m, FoN k w.heap.size v m ∧ Mem w' m ∧ ∀ p ∈ m, w.heap.size ≤ p.1) := by
 refine Ret.enterM Tryz.func138 rfl Tryz.ntmps138 rfl ([]) (no) (Mem.nil w) ?_
 refine wR <| LM.as rfl <| nB [(0, _)] <| LM.mv rfl ?_
 refine LM.callT (oc_call (enters_fn Tryz.func160 kr rfl) rfl) ArN.mono (fun w hm hc hg => arnew_spec k w) ?_
 rintro u4 m4 ⟨ba, rfl, h4⟩ hge4
 refine LM.makeMap rfl (fun b5 hb5 => ?_)
 refine LM.val (ov_build (cs := #[_, _, _, _, _]) rfl (by first | rfl | kernel_rfl)) ?_
 refine LM.box rfl rfl (fun b7 hb7 => ?_)
 refine LM.as rfl <| nA [(2, _)] <| wpM.ret ?_
 refine qL Tryz.results138 rfl fun w' hm' hc' hg' => ?_
 exact fo_newleaf h4 hb7 hb5 hm' (by (repeat' (first | exact SubM.nil _ | refine SubM.cons (by rfl) ?_ | refine SubM.app ?_))) hc'
def foA (q : List (Int × Wt)) : List (Array Value) := q.map (fun x => #[.int .i64 x.1, .agg (fWt x.2).toArray])
theorem foA_len (q : List (Int × Wt)) : (foA q).length = q.length := List.length_map ..
theorem foA_get {q : List (Int × Wt)} {k : Nat} (h : k < q.length) : (foA q)[k]? = some #[.int .i64 (qd q k).1, .agg (fWt (qd q k).2).toArray] := by
  unfold foA; rw [List.getElem?_map, List.getElem?_eq_getElem h]
  unfold qd; rw [List.getD_eq_getElem?_getD, List.getElem?_eq_getElem h]; rfl
theorem foA_inv {q : List (Int × Wt)} {k : Nat} {av : Array Value} (h : (foA q)[k]? = some av) : k < q.length ∧ av = #[.int .i64 (qd q k).1, .agg (fWt (qd q k).2).toArray] := by
  have hk : k < q.length := by have := (List.getElem?_eq_some_iff.1 h).1; rwa [foA_len] at this
  rw [foA_get hk] at h
  exact ⟨hk, (Option.some.inj h).symm⟩
abbrev qF (c b : Nat) : Nat × Obj := (c, .cells #[.pointer (some ⟨b, 0, none⟩)] 136 (0, 0))
def FoA (b n0 : Nat) (v : Value) (m : Mem0) : Prop := ∃ c1, v = .func (.func 178) #[] #[.pointer (some ⟨c1, 0, none⟩)] ∧ m = [qF c1 b] ∧ n0 ≤ c1
theorem FoA.mono {b : Nat} : ∀ (k k' : Nat) u m, k' ≤ k → FoA b k u m → FoA b k' u m := fun k k' u m h ⟨b1, h1, h2, h3⟩ => ⟨b1, h1, h2, by omega⟩
def atI (ps : List Nat) (k : Nat) : Int := if k < ps.length then ((ps.getD k 0 : Nat) : Int) else -1
theorem atI_0 {most : Int} {f : Fq} {q : List (Int × Wt)} {ps F : List Nat} (h : FqR most f q ps F) : f.first = atI ps 0 := by
  rw [h.first]; unfold atI
  by_cases e : ps.length = 0
  · rw [if_pos e, if_neg om]
  · rw [if_neg e, if_pos om]
theorem foall_spec (b : Nat) (w : World) : Ret Tryz.prog 174 #[.pointer (some ⟨b, 0, none⟩)] w (fun v w' => Ext w w' ∧ ∃ m, FoA b w.heap.size v m ∧ Mem w' m ∧ ∀ p ∈ m, w.heap.size ≤ p.1) := by
 refine Ret.enterM Tryz.func174 rfl Tryz.ntmps174 rfl ([]) (no) (Mem.nil w) ?_
 refine wR ?_
 refine LM.box rfl rfl (fun b1 hb1 => ?_)
 refine LM.as rfl <| nB [(1, _)] ?_
 refine LM.val (ov_makeFunc rfl) ?_
 refine LM.as rfl <| nA [(2, _)] <| wpM.ret ?_
 refine qL Tryz.results174 rfl fun w' hm' hc' hg' => ?_
 exact ⟨hc', _, ⟨b1, rfl, rfl, hb1⟩, SubM.mem au1 _ hm', fun p hp => by simp only [List.mem_cons, List.not_mem_nil, or_false] at hp; subst hp; assumption⟩
theorem foall_seq {n0 b c1 : Nat} {most tk : Int} {q : List (Int × Wt)} {m : Mem0} (h : FoM most n0 b q tk m) : SeqCP Tryz.prog 178 #[.pointer (some ⟨c1, 0, none⟩)] (foA q) (fun w => Mem w (qF c1 b :: m)) (True) := by
 obtain ⟨f, ps, F, hR, htk, ba, bw, es, cl, ma, rfl, hA, he, hb, hbw⟩ := h; have hlq := hR.lq; have hat0 := atI_0 hR
 refine SeqCP.enter (lb := [.pointer (some ⟨c1, 0, none⟩)]) Tryz.func178 rfl Tryz.ntmps178 rfl ?_
 intro l0 n0 J Jx w0 hn0 hfin hJr hL hy
 refine wpM.openJ (n := n0) (fun wj1 hmj1 hCj1 hjj1 hkj1 => ?_)
 refine wpM.seq <| wR ?_
 refine LM.rdC (fun w hm hc hg => om_ld (M := qF c1 b :: fqC b ba bw f.first f.last f.tk :: (bw, .map es cl) :: ma) Tryz.isAgg136 rfl rfl w ((hL.rd hJr hjj1 hc))) ?_
 refine LM.val (ov_peql kr rfl rfl) ?_
 refine nA [(0, _), (1, _), (7, _)] ?_
 refine wpM.condF rfl ?_
 refine wpM.skip <| tR ?_
 refine LM.rdC (fun w hm hc hg => om_ld (M := qF c1 b :: fqC b ba bw f.first f.last f.tk :: (bw, .map es cl) :: ma) Tryz.isAgg136 rfl rfl w ((hL.rd hJr hjj1 hc))) ?_
 refine LM.nc rfl <| LM.val (ovf 3 rfl rfl rfl rfl) ?_
 refine LM.rdC (fun w hm hc hg => om_ld (M := qF c1 b :: fqC b ba bw f.first f.last f.tk :: (bw, .map es cl) :: ma) Tryz.isAgg3 rfl rfl w ((hL.rd hJr hjj1 hc))) ?_
 refine LM.as rfl <| nA [(0, _), (1, _), (3, _)] <| wpM.block ?_
 refine wpM.closeJ hL hCj1 hjj1 hkj1 (kk_top _) (((fun k => []) : Nat → Mem0) (0)) (SubM.mem (by (try dsimp only); (repeat' (first | exact SubM.nil _ | refine SubM.cons rfl ?_ | refine SubM.app ?_)))) (by (try dsimp only); (repeat' (first | exact pn_nil | refine pn_cons (by first | (left; omega) | (right; simp; done)) rfl ?_ | refine pn_app ?_ ?_))) ?_
 refine wpM.loopK (α := Nat) (fun k => [(3, .int .i64 (atI ps k))]) [(0, _), (1, _)] (fun k => []) (fun k => (fun w => J (k) ([]) w ∧ top w)) (fun k => k ≤ q.length) (fun k => q.length - k) (0) ⟨(by first | rfl | exact lk rfl (congrArg (Value.int .i64) hat0)), rfl, rfl, trivial⟩ au1 (fun _ h => h) (Nat.zero_le _) ?_
 rintro k hk
 change wpM _ _ _ _ _ _ _ ([]) _ _ _
 refine wpM.openJ (n := n0) (fun wj2 hmj2 hCj2 hjj2 hkj2 => ?_)
 refine wpM.seq <| wR <| LM.mv rfl <| LM.val (ov_neq rfl rfl) <| nA [(0, _), (1, _), (3, _), (13, _)] ?_
 refine wpM.condD rfl (fun h1 => ?_) (fun h1 => ?_)
 ·
  have hkl : k < q.length := (by rcases Nat.lt_or_ge k q.length with z | z; exact z; exact absurd (by unfold atI; rw [if_neg om]) h1); have hkp : k < ps.length := om; rw [show atI ps k = ((ps.getD k 0 : Nat) : Int) from if_pos hkp]; have hpl := hR.cov _ (.inl (gd_mem hkp)); have hon := isA_on hpl (hR.lk k hkp).1; have hgv : getA f.a (ps.getD k 0 : Nat) = ⟨(qd q k).2, (qd q k).1, pv ps k, nv ps k⟩ := (by rw [getA_on hpl (hR.lk k hkp).1]; exact (hR.lk k hkp).2)
  refine wpM.skip <| QM.then <| wpM.block <| wR ?_
  refine LM.rdC (fun w hm hc hg => om_ld (M := qF c1 b :: fqC b ba bw f.first f.last f.tk :: (bw, .map es cl) :: ma) Tryz.isAgg136 rfl rfl w ((hL.rd hJr hjj2 hc))) ?_
  refine LM.nc rfl <| LM.val (ovf 168 rfl rfl rfl rfl) ?_
  refine LM.rdC (fun w hm hc hg => om_ld (M := qF c1 b :: fqC b ba bw f.first f.last f.tk :: (bw, .map es cl) :: ma) Tryz.isAgg168 rfl rfl w ((hL.rd hJr hjj2 hc))) ?_
  refine LM.mv rfl ?_
  refine cE Tryz.func149 rfl (fun w hm hc hg => (by have k9 := arGet_spec (ps.getD k 0 : Nat) w hA (((hL.rd hJr hjj2 hc)).tail.tail.tail); rw [hon, hgv] at k9; exact k9)) ?_
  refine LM.mv rfl <| LM.val (ov_extract rfl rfl) <| LM.val (ov_extract rfl rfl) ?_
  refine LM.alloc Tryz.zeroValue172 rfl (fun b4 hb4 => ?_)
  refine LM.stW Tryz.sizeOf172 rfl rfl rfl rfl au7 (fun hlt => by first | exact absurd hlt om | (simp [inM]; done)) ?_
  refine LM.as rfl <| nA [(0, _), (1, _), (4, _)] <| wpM.seq <| wR <| LM.mv rfl <| LM.val (ovf 3 rfl rfl rfl rfl) ?_
  refine LM.rd (oml rfl rfl rfl) ?_
  refine LM.val (ovf 85 rfl rfl rfl rfl) ?_
  first | refine LM.rd (om_ldW Tryz.isAgg85 Tryz.sizeOf85 rfl rfl) ?_ | refine LM.rd (om_ldA Tryz.isAgg85 Tryz.sizeOf85 rfl (vs := [_, _, _]) rfl ⟨rfl, rfl, rfl, trivial⟩) ?_
  refine LM.yieldJ (n := n0) (k := k) hL rfl rfl (fun m w hj => hy (k) _ m w (foA_get hkl) hj) hCj2 hjj2 hkj2 (kk_top _) ([]) ((b4, .cells (fLk ⟨(qd q k).2, (qd q k).1, pv ps k, nv ps k⟩).toArray 172 (0, 0)) :: []) ((b4, .cells (fLk ⟨(qd q k).2, (qd q k).1, pv ps k, nv ps k⟩).toArray 172 (0, 0)) :: []) (by simp only [List.append_assoc, List.cons_append, List.nil_append]) (SubM.mem au1) (by (repeat' (first | exact pn_nil | refine lo_cons om rfl ?_ | refine lo_dm (by intro D hD; first | (have := hds1 D hD; omega) | (have := hds2 D hD; omega)) ?_))) (by (try dsimp only); (repeat' (first | exact pn_nil | refine pn_cons (by first | (left; omega) | (right; simp; done)) rfl ?_ | refine pn_app ?_ ?_))) (fun wj3 hmj3 hCj3 hjj3 hkj3 => ?_) (fun wj3 hmj3 hCj3 hjj3 hkj3 => ?_)
  ·
   change LM _ _ _ _ _ _ _ _ ((b4, .cells (fLk ⟨(qd q k).2, (qd q k).1, pv ps k, nv ps k⟩).toArray 172 (0, 0)) :: []) _ _ _
   first | refine LM.val (ov_notD rfl) ?_ | refine LM.val (ov_not rfl) ?_
   refine nA [(0, _), (1, _), (4, _), (29, _)] ?_
   refine wpM.condF rfl ?_
   refine wpM.skip ?_
   refine QM.then (wpM.region ?_)
   refine LM.val (ovf 3 rfl rfl rfl rfl) ?_
   refine LM.rd (oml rfl rfl rfl) ?_
   refine LM.as rfl <| nC [(0, _), (1, _), (3, _)] <| QM.block_normal ?_
   refine QM.closeJ hL hCj3 hjj3 hkj3 (kk_top _) (((fun k => []) : Nat → Mem0) (k + 1)) (SubM.mem (by (try dsimp only); (repeat' (first | exact SubM.nil _ | refine SubM.cons rfl ?_ | refine SubM.app ?_)))) (by (try dsimp only); (repeat' (first | exact pn_nil | refine pn_cons (by first | (left; omega) | (right; simp; done)) rfl ?_ | refine pn_app ?_ ?_))) ?_
   refine QM.againK (k + 1) ⟨(by first | rfl | exact lk rfl (congrArg (Value.int .i64) hat0)), rfl, rfl, trivial⟩ au1 (fun _ h => h) ?_ ?_
   · omega
   · omega
  change LM _ _ _ _ _ _ _ _ ([]) _ _ _
  first | refine LM.val (ov_notD rfl) ?_ | refine LM.val (ov_not rfl) ?_
  refine nA [(0, _), (1, _), (4, _), (29, _)] ?_
  refine wpM.condT rfl ?_
  refine wpM.ret <| QM.then_ret <| QM.block_ret <| QM.then_ret <| QM.block_ret ?_
  refine QM.closeX hL hCj3 hjj3 hkj3 (kk_top _) ?_
  refine QM.leaveDJ (ds := ([])) (.inl rfl) [] Tryz.results178 rfl hn0 hd_nil (gl_x hL (Nat.le_refl _) (gl_top _)) ?_
  intro w' hm' hg'
  exact .inr hg'.1
 refine wpM.exit <| QM.then_exit <| QM.then_exit <| QM.block_hit ?_
 refine QM.closeJ hL hCj2 hjj2 hkj2 (kk_top _) ([]) (SubM.mem (by (try dsimp only); (repeat' (first | exact SubM.nil _ | refine SubM.cons rfl ?_ | refine SubM.app ?_)))) (by (try dsimp only); (repeat' (first | exact pn_nil | refine pn_cons (by first | (left; omega) | (right; simp; done)) rfl ?_ | refine pn_app ?_ ?_))) ?_
 refine QM.leaveDJ (ds := ([])) (.inr rfl) [] Tryz.results178 rfl hn0 hd_nil (gl_j hL (Nat.le_refl _) (gl_top _)) ?_
 intro w' hm' hg'
 have hkl : k = q.length := (by rcases Nat.lt_or_ge k q.length with z | z; exact absurd (by unfold atI; rw [if_pos om]; omega) h1; omega); subst hkl; exact .inl (by rw [foA_len]; exact hg'.1)
theorem hremove_yes {most : Int} {n0 b : Nat} {s : Hs} {m : Mem0} (i : Nat) (w : World) (h : HpM most n0 b s m) (hA : HAt s) (hi : i < s.l.length) (hlen : s.l.length ≤ 4096) (hM : Mem w m) : Ret Tryz.prog 135 #[.pointer (some ⟨b, 0, none⟩), .int .i64 (hg s.l i).id] w (Upd m (fun u m' => u = .tuple #[.agg (fKy (hg s.l i)).toArray, .int .i64 (hg s.l i).x, .bool true] ∧ HpM most n0 b (tkS s i) m') w) := by
 have hH := h; obtain ⟨ad, n, cap, bm, es, cl, ms, rfl, hn, hs, he, hb, hbm⟩ := h; have he1 := he.1; have hw0 := hA.wh i hi
 refine Ret.enterM Tryz.func135 rfl Tryz.ntmps135 rfl (hpC b most ad n cap bm :: (bm, .map es cl) :: (ms ++ [])) ((inM (hpC b most ad n cap bm :: (bm, .map es cl) :: ms))) aM ?_
 refine wR ?_
 refine LM.alloc Tryz.zeroValue129 rfl (fun b4 hb4 => ?_)
 refine LM.as rfl <| LM.as rfl <| nA [(0, _), (1, _), (4, _)] <| wpM.seq <| wR <| LM.mv rfl ?_
 refine cE Tryz.func157 rfl (fun w hm hc hg => hlen_spec w hH (hm.pick (hpC b most ad n cap bm :: (bm, .map es cl) :: ms))) ?_
 refine LM.val (ov_gtr rfl rfl) <| nA [(0, _), (1, _), (4, _), (12, _)] ?_
 refine wpM.condD rfl (fun h1 => ?_) (fun h1 => ?_)
 ·
  refine wR <| LM.mv rfl <| LM.nc rfl <| LM.val (ovf 72 rfl rfl rfl rfl) ?_
  refine LM.rd (oml rfl rfl rfl) ?_
  refine LM.mv rfl ?_
  refine LM.rd (om_lkOk Tryz.underlying72 Tryz.underlying3 Tryz.zeroValue3 rfl rfl asm (getD_some' hw0) (has_some' hw0)) ?_
  refine LM.mv rfl <| LM.val (ov_extract rfl rfl) <| LM.val (ov_extract rfl rfl) <| LM.as rfl <| LM.as rfl <| nB [(0, _), (4, _), (7, _), (8, _)] <| LM.mv rfl <| nA [(0, _), (4, _), (7, _), (22, _)] ?_
  first | refine wpM.condD rfl (fun h2 => ?_) (fun h2 => ?_) | refine wpM.condB rfl (fun h2 => ?_) (fun h2 => ?_)
  ·
   refine wR <| LM.mv rfl <| LM.mv rfl ?_
   refine cU Tryz.func158 rfl (fun w hm hc hg => htake_spec i w hH hi hlen (hm.pick (hpC b most ad n cap bm :: (bm, .map es cl) :: ms))) hH.wlk (fun p hp _ => inM_in p hp) ?_
   rintro u25 m25 ⟨rfl, h25⟩ hin25
   refine LM.val (ov_extract rfl rfl) <| LM.val (ov_extract rfl rfl) <| LM.val (ov_extract rfl rfl) ?_
   refine LM.stW Tryz.sizeOf129 rfl rfl rfl rfl au7 auH ?_
   refine LM.as rfl <| LM.as rfl <| nA [(4, _), (5, _), (6, _)] <| wpM.ret <| QM.then_ret ?_
   refine QM.leaveCs (ds := ([])) (.inl rfl) [.cell 4 129, .tmp 5, .tmp 6] Tryz.results135 hd_nil (rc_w rfl Tryz.isAgg129 Tryz.sizeOf129 rfl (rc_tmp rfl (rc_tmp rfl rc_nil))) ?_
   intro w' hm' hc'
   exact upd_m ⟨rfl, h25⟩ hm' (by (repeat' (first | exact SubM.nil _ | refine SubM.cons (by rfl) ?_ | refine SubM.app ?_))) hc' hin25
  cases h2
 omega
theorem getD_none' {l : List (Int × Value)} {a : Int} (h : aget l a = none) : (aget l a).getD (.int .i64 0) = .int .i64 0 := by rw [h]; rfl
theorem has_none' {l : List (Int × Value)} {a : Int} (h : aget l a = none) : (aget l a).isSome = false := by rw [h]; rfl
theorem hremove_no {most : Int} {n0 b : Nat} {s : Hs} {m : Mem0} (id : Int) (w : World) (h : HpM most n0 b s m) (hw0 : aget s.at_ id = none) (hM : Mem w m) : Ret Tryz.prog 135 #[.pointer (some ⟨b, 0, none⟩), .int .i64 id] w (fun u w' => u = .tuple #[.agg #[U 0#64, .int .i64 0], .int .i64 0, .bool false] ∧ Ext w w') := by
 have hH := h; obtain ⟨ad, n, cap, bm, es, cl, ms, rfl, hn, hs, he, hb, hbm⟩ := h; have he1 := he.1
 refine Ret.enterM Tryz.func135 rfl Tryz.ntmps135 rfl (hpC b most ad n cap bm :: (bm, .map es cl) :: (ms ++ [])) (no) aM ?_
 refine wR ?_
 refine LM.alloc Tryz.zeroValue129 rfl (fun b4 hb4 => ?_)
 refine LM.as rfl <| LM.as rfl <| nA [(0, _), (1, _), (4, _)] <| wpM.seq <| wR <| LM.mv rfl ?_
 refine cE Tryz.func157 rfl (fun w hm hc hg => hlen_spec w hH (hm.pick (hpC b most ad n cap bm :: (bm, .map es cl) :: ms))) ?_
 refine LM.val (ov_gtr rfl rfl) <| nA [(0, _), (1, _), (4, _), (12, _)] ?_
 refine wpM.condD rfl (fun h1 => ?_) (fun h1 => ?_)
 ·
  refine wR <| LM.mv rfl <| LM.nc rfl <| LM.val (ovf 72 rfl rfl rfl rfl) ?_
  refine LM.rd (oml rfl rfl rfl) ?_
  refine LM.mv rfl ?_
  refine LM.rd (om_lkOk Tryz.underlying72 Tryz.underlying3 Tryz.zeroValue3 rfl rfl asm (getD_none' hw0) (has_none' hw0)) ?_
  refine LM.mv rfl <| LM.val (ov_extract rfl rfl) <| LM.val (ov_extract rfl rfl) <| LM.as rfl <| LM.as rfl <| nB [(0, _), (4, _), (7, _), (8, _)] <| LM.mv rfl <| nA [(0, _), (4, _), (7, _), (22, _)] ?_
  first | refine wpM.condD rfl (fun h2 => ?_) (fun h2 => ?_) | refine wpM.condB rfl (fun h2 => ?_) (fun h2 => ?_)
  ·
   cases h2
  refine wpM.skip <| tR <| LM.as rfl <| nB [(4, _), (9, _)] ?_
  refine LM.val (ov_build (cs := #[_, _]) rfl (by first | rfl | kernel_rfl)) ?_
  refine LM.mv rfl ?_
  refine LM.stW Tryz.sizeOf129 rfl rfl rfl rfl au7 auH ?_
  refine LM.as rfl <| LM.as rfl <| nA [(4, _), (5, _), (6, _)] <| wpM.ret ?_
  refine QM.leaveCs (ds := ([])) (.inl rfl) [.cell 4 129, .tmp 5, .tmp 6] Tryz.results135 hd_nil (rc_w rfl Tryz.isAgg129 Tryz.sizeOf129 rfl (rc_tmp rfl (rc_tmp rfl rc_nil))) ?_
  intro w' hm' hc'
  exact ⟨rfl, hc'⟩
 refine wpM.skip <| tR <| LM.as rfl <| nB [(4, _), (9, _)] ?_
 refine LM.val (ov_build (cs := #[_, _]) rfl (by first | rfl | kernel_rfl)) ?_
 refine LM.mv rfl ?_
 refine LM.stW Tryz.sizeOf129 rfl rfl rfl rfl au7 auH ?_
 refine LM.as rfl <| LM.as rfl <| nA [(4, _), (5, _), (6, _)] <| wpM.ret ?_
 refine QM.leaveCs (ds := ([])) (.inl rfl) [.cell 4 129, .tmp 5, .tmp 6] Tryz.results135 hd_nil (rc_w rfl Tryz.isAgg129 Tryz.sizeOf129 rfl (rc_tmp rfl (rc_tmp rfl rc_nil))) ?_
 intro w' hm' hc'
 exact ⟨rfl, hc'⟩
def newMost (k : Int) : Int := if k < 0 then 0 else if 4096 < k then 4096 else k
theorem newMost_ok (k : Int) : 0 ≤ newMost k ∧ newMost k ≤ 4096 := by unfold newMost; (repeat' split) <;> omega
theorem newMost_eq (k : Int) : (if (4096 : Int) < (if 0 > k then 0 else k) then 4096 else (if 0 > k then 0 else k)) = newMost k := by unfold newMost; (repeat' split) <;> omega
theorem newHp_ok (k : Int) : HpR (newMost k) ⟨[], []⟩ [] := by
  refine ⟨newMost_ok k, fun i _ h => (by cases h), ⟨fun i j h => (by cases h), List.nodup_nil, fun i h => (by cases h), fun t _ => rfl⟩, List.Perm.refl _, List.Pairwise.nil, (newMost_ok k).1⟩
def HoN (k : Int) (n0 : Nat) (v : Value) (m : Mem0) : Prop := ∃ b, v = .pointer (some ⟨b, 0, none⟩) ∧ HoM (newMost k) n0 b [] m
theorem HoN.mono {k : Int} : ∀ (n n' : Nat) (v : Value) (m : Mem0), n' ≤ n → HoN k n v m → HoN k n' v m := fun n n' v m hn ⟨b, h1, h⟩ => ⟨b, h1, h.mono hn⟩
theorem ho_newleaf {k : Int} {b bm : Nat} {M : Mem0} {w w' : World} (hb : w.heap.size ≤ b) (hbm : w.heap.size ≤ bm) (hm : Mem w' M) (hs : SubM M (hpC b (newMost k) none 0 0 bm :: (bm, .map #[] 0) :: [])) (hc : Ext w w') :
    Ext w w' ∧ ∃ m, HoN k w.heap.size (.pointer (some ⟨b, 0, none⟩)) m ∧ Mem w' m ∧ ∀ p ∈ m, w.heap.size ≤ p.1 := by
  have h : HoM (newMost k) w.heap.size b [] (hpC b (newMost k) none 0 0 bm :: (bm, .map #[] 0) :: []) := ⟨⟨[], []⟩, newHp_ok k, none, 0, 0, bm, #[], 0, [], rfl, rfl, .nil _ _ _ _, ensS_nil _, hb, hbm⟩
  exact ⟨hc, _, ⟨b, rfl, h⟩, hs.mem w' hm, h.ge⟩
theorem honew_spec (k : Int) (w : World) : Ret Tryz.prog 82 #[.int .i64 k] w (fun v w' => Ext w w' ∧ ∃ m, HoN k w.heap.size v m ∧ Mem w' m ∧ ∀ p ∈ m, w.heap.size ≤ p.1) := by
 refine Ret.enterM Tryz.func82 rfl Tryz.ntmps82 rfl ([]) (no) (Mem.nil w) ?_
 refine wR <| LM.as rfl <| nB [(0, _)] <| LM.mv rfl ?_
 refine LM.val (ov_max rfl rfl) ?_
 refine LM.val (ov_min rfl rfl) ?_
 refine LM.makeMap rfl (fun b6 hb6 => ?_)
 rw [newMost_eq]
 refine LM.val (ov_build (cs := #[_, _, _]) rfl (by first | rfl | kernel_rfl)) ?_
 refine LM.box rfl rfl (fun b8 hb8 => ?_)
 refine LM.as rfl <| nA [(2, _)] <| wpM.ret ?_
 refine qL Tryz.results82 rfl fun w' hm' hc' hg' => ?_
 exact ho_newleaf hb8 hb6 hm' (by (repeat' (first | exact SubM.nil _ | refine SubM.cons (by rfl) ?_ | refine SubM.app ?_))) hc'
theorem HoM.len {most : Int} {n0 b : Nat} {S : List Hi} {m : Mem0} (h : HoM most n0 b S m) : (S.length : Int) ≤ most ∧ most ≤ 4096 := by
  obtain ⟨s, h1, _⟩ := h; have := h1.le; have := h1.mst; have := h1.pm.length_eq; omega
theorem HoM.ids {most : Int} {n0 b : Nat} {S : List Hi} {m : Mem0} (h : HoM most n0 b S m) : S.Pairwise (fun a b => a.id ≠ b.id) := by obtain ⟨s, h1, _⟩ := h; exact h1.ids
theorem HoM.srt {most : Int} {n0 b : Nat} {S : List Hi} {m : Mem0} (h : HoM most n0 b S m) : S.Pairwise hiLt := by obtain ⟨s, h1, _⟩ := h; exact h1.srt
def hoE (most : Int) (S : List Hi) (x : Hi) : Int := if ∃ y ∈ S, y.id = x.id then 12 else if most ≤ (S.length : Int) then 3 else 0
def hoX (most : Int) (S : List Hi) (x : Hi) : List Hi := if ∃ y ∈ S, y.id = x.id then S else if most ≤ (S.length : Int) then S else insS x S
theorem hopush_spec {most : Int} {n0 b : Nat} {S : List Hi} {m : Mem0} (x : Hi) (w : World) (h : HoM most n0 b S m) (hn0 : n0 ≤ w.heap.size) (hM : Mem w m) :
    Ret Tryz.prog 94 #[.pointer (some ⟨b, 0, none⟩), .agg (fKy x).toArray, .int .i64 x.x] w (Upd m (fun u m' => u = .int .i64 (hoE most S x) ∧ HoM most n0 b (hoX most S x) m') w) := by
  have hl := h.len
  obtain ⟨s, h1, h2⟩ := h
  have hpl := h1.pm.length_eq
  refine (hpush_spec x w h2 om hl.2 hn0 hM).mono (fun u w' hU => hU.imp (fun u m' ⟨e, hF⟩ => ?_))
  have hh := h1.has x.id
  unfold hoE hoX
  unfold hpE hpX at *
  by_cases c : ∃ y ∈ S, y.id = x.id
  · rw [if_pos (hh.2 c)] at e hF
    rw [if_pos c, if_pos c]; exact ⟨e, s, h1, hF⟩
  · have c' : ¬ (aget s.at_ x.id).isSome = true := fun z => c (hh.1 z)
    rw [if_neg c'] at e hF
    rw [if_neg c, if_neg c]
    rw [hpl] at e hF
    by_cases c2 : most ≤ (S.length : Int)
    · rw [if_pos c2] at e hF ⊢
      rw [if_pos c2]; exact ⟨e, s, h1, hF⟩
    · rw [if_neg c2] at e hF ⊢
      rw [if_neg c2]; exact ⟨e, _, push_heap h1 x (fun y hy z => c ⟨y, hy, z⟩) om, hF⟩
theorem horemove_yes {most : Int} {n0 b : Nat} {S : List Hi} {m : Mem0} (x : Hi) (w : World) (h : HoM most n0 b S m) (hx : x ∈ S) (hM : Mem w m) :
    Ret Tryz.prog 135 #[.pointer (some ⟨b, 0, none⟩), .int .i64 x.id] w (Upd m (fun u m' => u = .tuple #[.agg (fKy x).toArray, .int .i64 x.x, .bool true] ∧ HoM most n0 b (S.filter (fun y => y.id ≠ x.id)) m') w) := by
  have hl := h.len
  obtain ⟨s, h1, h2⟩ := h
  have hpl := h1.pm.length_eq
  obtain ⟨i, hi, rfl⟩ := hg_of (h1.pm.mem_iff.2 hx)
  exact (hremove_yes i w h2 h1.at_ hi om hM).mono (fun u w' hU => hU.imp (fun u m' ⟨e, hF⟩ => ⟨e, _, take_heap h1 hi, hF⟩))
theorem horemove_no {most : Int} {n0 b : Nat} {S : List Hi} {m : Mem0} (id : Int) (w : World) (h : HoM most n0 b S m) (hx : ∀ y ∈ S, y.id ≠ id) (hM : Mem w m) :
    Ret Tryz.prog 135 #[.pointer (some ⟨b, 0, none⟩), .int .i64 id] w (fun u w' => u = .tuple #[.agg #[U 0#64, .int .i64 0], .int .i64 0, .bool false] ∧ Ext w w') := by
  obtain ⟨s, h1, h2⟩ := h
  refine hremove_no id w h2 ?_ hM
  cases hq : aget s.at_ id with
  | none => rfl
  | some v =>
    obtain ⟨y, hy, e⟩ := (h1.has id).1 (by rw [hq]; rfl)
    exact absurd e (hx y hy)
theorem filter_none {S : List Hi} {id : Int} (h : ∀ y ∈ S, y.id ≠ id) : S.filter (fun y => y.id ≠ id) = S := List.filter_eq_self.2 (fun y hy => decide_eq_true (h y hy))
abbrev hF (c b : Nat) : Nat × Obj := (c, .cells #[.pointer (some ⟨b, 0, none⟩)] 109 (0, 0))
abbrev uF (c : Nat) (u : BitVec 64) : Nat × Obj := (c, .cells #[U u] 51 (0, 0))
def DuA (b : Nat) (u : BitVec 64) (n0 : Nat) (v : Value) (m : Mem0) : Prop := ∃ c1 c2, v = .func (.func 99999) #[] #[.pointer (some ⟨c1, 0, none⟩), .pointer (some ⟨c2, 0, none⟩)] ∧ m = hF c1 b :: uF c2 u :: [] ∧ n0 ≤ c1 ∧ n0 ≤ c2
theorem DuA.mono {b : Nat} {u : BitVec 64} : ∀ (k k' : Nat) v m, k' ≤ k → DuA b u k v m → DuA b u k' v m := fun k k' v m h ⟨c1, c2, h1, h2, h3, h4⟩ => ⟨c1, c2, h1, h2, by omega, by omega⟩
end Go.Eng
namespace Go.Eng
def mixF (x : BitVec 64) : BitVec 64 :=
  let x := x + 11400714819323198485#64
  let x := (x ^^^ (x >>> 30)) * 13787848793156543929#64
  let x := (x ^^^ (x >>> 27)) * 10723151780598845931#64
  x ^^^ (x >>> 31)
def bucketF (key n : Int) : Int := if n < 2 then 0 else (mixF (BitVec.ofInt 64 key) % BitVec.ofInt 64 n).toInt
def lo (x : BitVec 64) (k : Nat) : BitVec 64 := BitVec.ofNat 64 (x.toNat % 2 ^ k)
theorem ofInt_ne0 {n : Int} (h1 : 0 < n) (h2 : n ≤ 9223372036854775807) : BitVec.ofInt 64 n ≠ 0#64 := by
  intro h
  have := congrArg BitVec.toNat h
  rw [BitVec.toNat_ofInt] at this
  simp at this
  omega
theorem bucket_rng (key n : Int) (hn : n ≤ 9223372036854775807) : 0 ≤ bucketF key n ∧ (2 ≤ n → bucketF key n < n) ∧ (n < 2 → bucketF key n = 0) := by
  unfold bucketF
  split
  · exact ⟨by omega, by omega, fun _ => rfl⟩
  · rename_i h
    have h0 : (BitVec.ofInt 64 n).toNat = n.toNat := by rw [BitVec.toNat_ofInt]; simp; omega
    have h1 : (mixF (BitVec.ofInt 64 key) % BitVec.ofInt 64 n).toNat < n.toNat := by
      rw [BitVec.toNat_umod, h0]; exact Nat.mod_lt _ om
    generalize mixF (BitVec.ofInt 64 key) % BitVec.ofInt 64 n = r at *
    have h2 : r.toInt = r.toNat := by rw [BitVec.toInt_eq_toNat_of_lt]; omega
    rw [h2]
    exact ⟨by omega, fun _ => by omega, fun _ => by omega⟩
end Go.Eng
namespace Go.Eng
end Go.Eng
namespace Go.Eng
/-! mixes apart -/
end Go.Eng
namespace Go.Eng
open Go Go.Proofs Go.RowKit
theorem mix_spec (x : BitVec 64) (w : World) : Ret Tryz.prog 159 #[U x] w (fun v w' => v = U (mixF x) ∧ Ext w w') := by
 refine Ret.enterM Tryz.func159 rfl Tryz.ntmps159 rfl ([]) (no) (Mem.nil w) ?_
 refine wR <| LM.as rfl <| nB [(0, _)] <| LM.mv rfl ?_
 refine LM.val (ov_uadd (b := 11400714819323198485#64) rfl rfl) ?_
 refine LM.as rfl <| nB [(0, _)] <| LM.mv rfl <| LM.mv rfl ?_
 refine LM.val (ov_ushr rfl rfl om) ?_
 refine LM.val (ov_uxor rfl rfl) ?_
 refine LM.val (ov_umul (b := 13787848793156543929#64) rfl rfl) ?_
 refine LM.as rfl <| nB [(0, _)] <| LM.mv rfl <| LM.mv rfl ?_
 refine LM.val (ov_ushr rfl rfl om) ?_
 refine LM.val (ov_uxor rfl rfl) ?_
 refine LM.val (ov_umul (b := 10723151780598845931#64) rfl rfl) ?_
 refine LM.as rfl <| nB [(0, _)] <| LM.mv rfl <| LM.mv rfl ?_
 refine LM.val (ov_ushr rfl rfl om) ?_
 refine LM.val (ov_uxor rfl rfl) ?_
 refine LM.as rfl <| nA [(2, _)] <| wpM.ret ?_
 refine qL Tryz.results159 rfl fun w' hm' hc' hg' => ?_
 exact ⟨rfl, hc'⟩
theorem bucket_spec (key n : Int) (w : World) (hn : n ≤ 9223372036854775807) : Ret Tryz.prog 137 #[.int .i64 key, .int .i64 n] w (fun v w' => v = .int .i64 (bucketF key n) ∧ Ext w w') := by
 refine Ret.enterM Tryz.func137 rfl Tryz.ntmps137 rfl ([]) (no) (Mem.nil w) ?_
 refine wR <| LM.as rfl <| nA [(0, _), (1, _)] <| wpM.seq <| wR <| LM.mv rfl <| LM.val (ov_lss rfl rfl) <| nA [(0, _), (1, _), (6, _)] ?_
 refine wpM.condD rfl (fun h1 => ?_) (fun h1 => ?_)
 ·
  refine wR <| LM.as rfl <| nA [(4, _)] <| wpM.ret <| QM.then_ret ?_
  refine qL Tryz.results137 rfl fun w' hm' hc' hg' => ?_
  exact ⟨by simp only [resV, bucketF]; rw [if_pos h1], hc'⟩
 refine wpM.skip <| tR <| LM.mv rfl ?_
 refine LM.val (ov_toU Tryz.underlying3 Tryz.underlying51 rfl) ?_
 refine cE Tryz.func159 rfl (fun w hm hc hg => mix_spec _ w) ?_
 refine LM.mv rfl ?_
 refine LM.val (ov_toU Tryz.underlying3 Tryz.underlying51 rfl) ?_
 have hb := ofInt_ne0 (n := n) om om
 refine LM.val (ov_urem rfl rfl (by first | decide | assumption)) ?_
 refine LM.val (ov_ofU Tryz.underlying51 Tryz.underlying3 rfl) ?_
 refine LM.as rfl <| nA [(4, _)] <| wpM.ret ?_
 refine qL Tryz.results137 rfl fun w' hm' hc' hg' => ?_
 exact ⟨by simp only [resV, bucketF]; rw [if_neg h1], hc'⟩
structure Rw where
  key : Int
  b : Nat
  q : List (Int × Wt)
  tk : Int
instance : Inhabited Rw := ⟨⟨0, 0, [], 0⟩⟩
def fRw (r : Rw) : List Value := [.int .i64 r.key, .pointer (some ⟨r.b, 0, none⟩)]
structure Bh where
  ad : Option Addr
  n : Nat
  cap : Nat
instance : Inhabited Bh := ⟨⟨none, 0, 0⟩⟩
def fBh (h : Bh) : List Value := [.slice h.ad h.n h.cap]
abbrev bg (hs : List Bh) (j : Nat) : Bh := hs.getD j default
abbrev rg (rs : List Rw) (i : Nat) : Rw := rs.getD i default
abbrev tbC (b : Nat) (ad : Option Addr) (n cap : Nat) (most each : Int) (bs bh : Nat) : Nat × Obj := (b, .cells #[.slice ad n cap, .int .i64 most, .int .i64 each, .map (some bs), .pointer (some ⟨bh, 0, none⟩)] 112 (0, 0))
theorem tqueue_yes {n0 b n cap : Nat} {ad : Option Addr} {most each : Int} {bs bh : Nat} {hs : List Bh} {rs : List Rw} {mo ms : Mem0} (key : Int) (fr : Bool) (j i : Nat) (w : World) (hn : n = hs.length) (hn64 : n ≤ 64) (ho : Sl fBh 164 1 n0 hs (.slice ad n cap) mo) (hj : j < hs.length) (hbk : bucketF key (n : Nat) = (j : Nat)) (hr : Sl fRw 166 2 n0 rs (.slice (bg hs j).ad (bg hs j).n (bg hs j).cap) ms) (hi : i < rs.length) (hk : (rg rs i).key = key) (hno : ∀ i', i' < i → (rg rs i').key ≠ key) (hM : Mem w (tbC b ad n cap most each bs bh :: (mo ++ ms))) : Ret Tryz.prog 105 #[.pointer (some ⟨b, 0, none⟩), .int .i64 key, .bool fr] w (fun u w' => u = .pointer (some ⟨(rg rs i).b, 0, none⟩) ∧ Ext w w') := by
 have hrl := hr.len.1; have hrm : rs.length ≤ 9223372036854775807 := Nat.le_trans hr.len.2.1 (by unfold maxLen; decide); generalize hhn : (bg hs j).n = hn0 at hr hrl; generalize hha : (bg hs j).ad = ha0 at hr; generalize hhc : (bg hs j).cap = hc0 at hr
 refine Ret.enterM Tryz.func105 rfl Tryz.ntmps105 rfl (tbC b ad n cap most each bs bh :: (mo ++ (ms ++ []))) (no) aM ?_
 refine wR <| LM.as rfl <| nB [(0, _), (1, _), (2, _)] <| LM.mv rfl <| LM.mv rfl <| LM.nc rfl <| LM.val (ovf 107 rfl rfl rfl rfl) ?_
 refine LM.rd (oml rfl rfl rfl) ?_
 refine LM.val (ov_len Tryz.underlying107 rfl) ?_
 refine cE Tryz.func137 rfl (fun w hm hc hg => bucket_spec key (n : Nat) w om) ?_
 rw [hbk]
 refine LM.as rfl <| nA [(0, _), (1, _), (2, _), (7, _)] <| wpM.seq <| wR <| LM.mv rfl <| LM.nc rfl <| LM.val (ovf 107 rfl rfl rfl rfl) ?_
 refine LM.rd (oml rfl rfl rfl) ?_
 refine LM.mv rfl ?_
 refine LM.val (ov_idxSN au6 Tryz.underlying107 Tryz.sizeOf164 rfl rfl om) ?_
 refine LM.rd (om_sl1 asm ir Tryz.isAgg164 rfl rfl au3 (by rfl)) ?_
 rw [hhn, hha, hhc]
 refine LM.val (ov_len Tryz.underlying164 rfl) <| LM.mv rfl <| nA [(0, _), (1, _), (2, _), (7, _), (24, _), (25, _), (26, _)] <| wpM.block ?_
 refine wpM.loopK0 (α := Nat) (fun i1 => [(26, .int .i64 (i1 : Nat))]) [(0, _), (1, _), (2, _), (7, _), (24, _), (25, _)] (fun i1 => tbC b ad n cap most each bs bh :: (mo ++ (ms ++ []))) (fun i1 => i1 ≤ i) (fun i1 => rs.length - i1) (0) ⟨au2, rfl, rfl, rfl, rfl, rfl, rfl, trivial⟩ au1 (Nat.zero_le _) ?_
 rintro i1 hi1
 change wpM _ _ _ _ _ _ _ (tbC b ad n cap most each bs bh :: (mo ++ (ms ++ []))) _ _ _
 refine wR <| LM.val (ov_lss rfl rfl) <| nA [(0, _), (1, _), (2, _), (7, _), (24, _), (25, _), (26, _), (27, _)] <| wpM.seq ?_
 refine wpM.condD rfl (fun h1 => ?_) (fun h1 => ?_)
 ·
  refine wpM.skip <| QM.then <| wpM.seq <| wpM.block <| wR ?_
  refine LM.val (ov_idxSN au6 Tryz.underlying164 Tryz.sizeOf166 rfl rfl om) ?_
  refine LM.rd (om_slA asm ir Tryz.isAgg166 Tryz.sizeOf166 rfl au3) ?_
  refine LM.alloc Tryz.zeroValue166 rfl (fun b9 hb9 => ?_)
  refine LM.stW Tryz.sizeOf166 rfl rfl rfl rfl au7 auH ?_
  refine nB [(0, _), (1, _), (2, _), (7, _), (9, _), (24, _), (25, _), (26, _)] <| LM.val (ovf 3 rfl rfl rfl rfl) ?_
  refine LM.rd (oml rfl rfl rfl) ?_
  refine LM.mv rfl <| LM.val (ov_eql rfl rfl) <| nA [(0, _), (1, _), (2, _), (7, _), (9, _), (24, _), (25, _), (26, _), (33, _)] ?_
  refine wpM.condD rfl (fun h2 => ?_) (fun h2 => ?_)
  ·
   refine wR <| LM.val (ovf 136 rfl rfl rfl rfl) ?_
   refine LM.rd (oml rfl rfl rfl) ?_
   refine LM.as rfl <| nA [(6, _)] <| wpM.ret <| QM.block_ret <| QM.then_ret <| QM.then_ret <| QM.block_ret <| QM.then_ret ?_
   refine qL Tryz.results105 rfl fun w' hm' hc' hg' => ?_
   have e : i1 = i := (by rcases Nat.lt_or_ge i1 i with z | z; exact absurd h2 (hno i1 z); omega); subst e; exact ⟨rfl, hc'⟩
  refine wpM.skip <| QM.block_normal ?_
  refine QM.then (wpM.region ?_)
  refine LM.val (ov_add64 rfl rfl om) ?_
  refine LM.mv rfl <| nC [(0, _), (1, _), (2, _), (7, _), (24, _), (25, _), (26, _)] ?_
  refine QM.againK (i1 + 1) ⟨au2, rfl, rfl, rfl, rfl, rfl, rfl, trivial⟩ au1 (fun _ h => h) ?_ ?_
  · rcases Nat.lt_or_ge i1 i with z | z; omega; exact absurd (by rw [show i1 = i by omega]; exact hk) h2
  · omega
 omega
theorem tqueue_no {n0 b n cap : Nat} {ad : Option Addr} {most each : Int} {bs bh : Nat} {hs : List Bh} {rs : List Rw} {mo ms : Mem0} (key : Int) (j : Nat) (w : World) (hn : n = hs.length) (hn64 : n ≤ 64) (ho : Sl fBh 164 1 n0 hs (.slice ad n cap) mo) (hj : j < hs.length) (hbk : bucketF key (n : Nat) = (j : Nat)) (hr : Sl fRw 166 2 n0 rs (.slice (bg hs j).ad (bg hs j).n (bg hs j).cap) ms) (hno : ∀ i', i' < rs.length → (rg rs i').key ≠ key) (hM : Mem w (tbC b ad n cap most each bs bh :: (mo ++ ms))) : Ret Tryz.prog 105 #[.pointer (some ⟨b, 0, none⟩), .int .i64 key, .bool false] w (fun u w' => u = .pointer none ∧ Ext w w') := by
 have hrl := hr.len.1; have hrm : rs.length ≤ 9223372036854775807 := Nat.le_trans hr.len.2.1 (by unfold maxLen; decide); generalize hhn : (bg hs j).n = hn0 at hr hrl; generalize hha : (bg hs j).ad = ha0 at hr; generalize hhc : (bg hs j).cap = hc0 at hr
 refine Ret.enterM Tryz.func105 rfl Tryz.ntmps105 rfl (tbC b ad n cap most each bs bh :: (mo ++ (ms ++ []))) (no) aM ?_
 refine wR <| LM.as rfl <| nB [(0, _), (1, _), (2, _)] <| LM.mv rfl <| LM.mv rfl <| LM.nc rfl <| LM.val (ovf 107 rfl rfl rfl rfl) ?_
 refine LM.rd (oml rfl rfl rfl) ?_
 refine LM.val (ov_len Tryz.underlying107 rfl) ?_
 refine cE Tryz.func137 rfl (fun w hm hc hg => bucket_spec key (n : Nat) w om) ?_
 rw [hbk]
 refine LM.as rfl <| nA [(0, _), (1, _), (2, _), (7, _)] <| wpM.seq <| wR <| LM.mv rfl <| LM.nc rfl <| LM.val (ovf 107 rfl rfl rfl rfl) ?_
 refine LM.rd (oml rfl rfl rfl) ?_
 refine LM.mv rfl ?_
 refine LM.val (ov_idxSN au6 Tryz.underlying107 Tryz.sizeOf164 rfl rfl om) ?_
 refine LM.rd (om_sl1 asm ir Tryz.isAgg164 rfl rfl au3 (by rfl)) ?_
 rw [hhn, hha, hhc]
 refine LM.val (ov_len Tryz.underlying164 rfl) <| LM.mv rfl <| nA [(0, _), (1, _), (2, _), (7, _), (24, _), (25, _), (26, _)] <| wpM.block ?_
 refine wpM.loopK0 (α := Nat) (fun i1 => [(26, .int .i64 (i1 : Nat))]) [(0, _), (1, _), (2, _), (7, _), (24, _), (25, _)] (fun i1 => tbC b ad n cap most each bs bh :: (mo ++ (ms ++ []))) (fun i1 => i1 ≤ rs.length) (fun i1 => rs.length - i1) (0) ⟨au2, rfl, rfl, rfl, rfl, rfl, rfl, trivial⟩ au1 (Nat.zero_le _) ?_
 rintro i1 hi1
 change wpM _ _ _ _ _ _ _ (tbC b ad n cap most each bs bh :: (mo ++ (ms ++ []))) _ _ _
 refine wR <| LM.val (ov_lss rfl rfl) <| nA [(0, _), (1, _), (2, _), (7, _), (24, _), (25, _), (26, _), (27, _)] <| wpM.seq ?_
 refine wpM.condD rfl (fun h1 => ?_) (fun h1 => ?_)
 ·
  refine wpM.skip <| QM.then <| wpM.seq <| wpM.block <| wR ?_
  refine LM.val (ov_idxSN au6 Tryz.underlying164 Tryz.sizeOf166 rfl rfl om) ?_
  refine LM.rd (om_slA asm ir Tryz.isAgg166 Tryz.sizeOf166 rfl au3) ?_
  refine LM.alloc Tryz.zeroValue166 rfl (fun b9 hb9 => ?_)
  refine LM.stW Tryz.sizeOf166 rfl rfl rfl rfl au7 auH ?_
  refine nB [(0, _), (1, _), (2, _), (7, _), (9, _), (24, _), (25, _), (26, _)] <| LM.val (ovf 3 rfl rfl rfl rfl) ?_
  refine LM.rd (oml rfl rfl rfl) ?_
  refine LM.mv rfl <| LM.val (ov_eql rfl rfl) <| nA [(0, _), (1, _), (2, _), (7, _), (9, _), (24, _), (25, _), (26, _), (33, _)] ?_
  refine wpM.condD rfl (fun h2 => ?_) (fun h2 => ?_)
  ·
   exact absurd h2 (hno i1 om)
  refine wpM.skip <| QM.block_normal ?_
  refine QM.then (wpM.region ?_)
  refine LM.val (ov_add64 rfl rfl om) ?_
  refine LM.mv rfl <| nC [(0, _), (1, _), (2, _), (7, _), (24, _), (25, _), (26, _)] ?_
  refine QM.againK (i1 + 1) ⟨au2, rfl, rfl, rfl, rfl, rfl, rfl, trivial⟩ au1 (fun _ h => h) ?_ ?_
  · omega
  · omega
 refine wpM.exit <| QM.then_exit <| QM.then_exit <| QM.block_hit <| QM.then <| wpM.seq <| wR <| LM.mv rfl ?_
 first | refine LM.val (ov_notD rfl) ?_ | refine LM.val (ov_not rfl) ?_
 refine nA [(0, _), (1, _), (7, _), (38, _)] ?_
 first | refine wpM.condD rfl (fun h3 => ?_) (fun h3 => ?_) | refine wpM.condB rfl (fun h3 => ?_) (fun h3 => ?_)
 ·
  refine wR <| LM.as rfl <| nA [(6, _)] <| wpM.ret <| QM.then_ret ?_
  refine qL Tryz.results105 rfl fun w' hm' hc' hg' => ?_
  exact ⟨rfl, hc'⟩
 cases h3
end Go.Eng
