/- The calculus, eighth part: maps whose keys are integers. No condition. -/
import Derived.Test.YtoeojcnodjjpgaaDoorEng7
import Derived.MapKept
import Derived.Carry
set_option linter.unusedVariables false
set_option linter.unusedSimpArgs false
namespace Go.Eng
open Go Go.RowKit

/-- The entries of a map, as pairs. -/
def Ens (k : IntKind) (es : List MapEntry) (l : List (Int × Value)) : Prop := es.map (fun e => (e.key, e.val)) = l.map (fun p => (Value.int k p.1, p.2))
def afind : List (Int × Value) → Int → Nat → Option (Nat × Value)
  | [], _, _ => none
  | (b, v) :: l, a, i => if a = b then some (i, v) else afind l a (i + 1)
def aget (l : List (Int × Value)) (a : Int) : Option Value := (afind l a 0).map (·.2)
def aput (l : List (Int × Value)) (a : Int) (v : Value) : List (Int × Value) := match afind l a 0 with | some (i, _) => l.set i (a, v) | none => l ++ [(a, v)]
theorem findNow_ens {k k0 : IntKind} {a : Int} : ∀ (es : List MapEntry) (l : List (Int × Value)) (i : Nat), Ens k es l → Instr.findNow (.int k0) (.int k a) es i = some (afind l a i)
  | [], l, i, h => by
    have : l = [] := by simpa [Ens] using h.symm
    subst this; rfl
  | e :: es, [], i, h => by simp [Ens] at h
  | e :: es, (b, v) :: l, i, h => by
    simp only [Ens, List.map_cons, List.cons.injEq, Prod.mk.injEq] at h
    obtain ⟨⟨h1, h2⟩, h3⟩ := h
    have ih := findNow_ens (k := k) (k0 := k0) (a := a) es l (i + 1) h3
    simp only [Instr.findNow, Instr.sameNow, h1, afind, h2]
    by_cases hab : a = b
    · subst hab; simp
    · have : (a == b) = false := by simpa using hab
      simp only [if_true, this, if_neg hab]; exact ih
theorem afind_shift : ∀ (l : List (Int × Value)) (a : Int) (i : Nat), afind l a i = (afind l a 0).map (fun p => (p.1 + i, p.2))
  | [], a, i => rfl
  | (b, v) :: l, a, i => by
    simp only [afind]
    by_cases h : a = b
    · simp [h]
    · rw [if_neg h, if_neg h, afind_shift l a (i + 1), afind_shift l a (0 + 1), Option.map_map]
      congr 1; funext p; simp [Function.comp, Nat.add_assoc, Nat.add_comm 1 i]
theorem aget_nil (a : Int) : aget [] a = none := rfl
theorem aget_cons (b : Int) (v : Value) (l : List (Int × Value)) (a : Int) : aget ((b, v) :: l) a = if a = b then some v else aget l a := by
  unfold aget
  simp only [afind]
  by_cases h : a = b
  · simp [h]
  · rw [if_neg h, if_neg h, afind_shift, Option.map_map]; rfl
theorem aput_nil (a : Int) (v : Value) : aput [] a v = [(a, v)] := rfl
theorem aput_cons (b : Int) (u : Value) (l : List (Int × Value)) (a : Int) (v : Value) : aput ((b, u) :: l) a v = if a = b then (a, v) :: l else (b, u) :: aput l a v := by
  unfold aput
  simp only [afind]
  by_cases h : a = b
  · subst h; simp
  · rw [if_neg h, if_neg h, afind_shift]
    cases afind l a 0 with
    | none => rfl
    | some p => rfl
theorem aget_aput : ∀ (l : List (Int × Value)) (a : Int) (v : Value) (b : Int), aget (aput l a v) b = if b = a then some v else aget l b
  | [], a, v, b => by rw [aput_nil, aget_cons]
  | (c, u) :: l, a, v, b => by
    rw [aput_cons]
    by_cases h : a = c
    · subst h; rw [if_pos rfl, aget_cons, aget_cons]; split <;> rfl
    · rw [if_neg h, aget_cons, aget_cons, aget_aput l a v b]
      by_cases h1 : b = c
      · subst h1; rw [if_pos rfl, if_pos rfl, if_neg (fun e => h e.symm)]
      · rw [if_neg h1, if_neg h1]
theorem aput_len (l : List (Int × Value)) (a : Int) (v : Value) : (aput l a v).length ≤ l.length + 1 := by
  unfold aput; split <;> simp
theorem checkKey_int {P : Program} {k k' : IntKind} {e : Bool} {n : Nat} {t : TypeId} {a : Int} (hk : P.underlying t = some (.int k)) (w : World) : (Instr.checkKey e (n + 1) t (.int k' a)).run P w = .ok () w := by
  simp [Instr.checkKey, run_underlying hk, Result.andThen]
theorem findKey_ens {P : Program} {k k' : IntKind} {t : TypeId} {a : Int} {es : List MapEntry} {l : List (Int × Value)} (hk : P.underlying t = some (.int k)) (h : Ens k' es l) (w : World) : (Instr.findKey t (.int k' a) es).run P w = .ok (afind l a 0) w := by
  simp [Instr.findKey, run_underlying hk, findNow_ens es l 0 h, Result.andThen]

theorem afind_get : ∀ (l : List (Int × Value)) (a : Int) (i : Nat) (j : Nat) (v : Value), afind l a i = some (j, v) → i ≤ j ∧ l[j - i]? = some (a, v)
  | [], a, i, j, v, h => by simp [afind] at h
  | (b, u) :: l, a, i, j, v, h => by
    simp only [afind] at h
    by_cases hab : a = b
    · subst hab; rw [if_pos rfl] at h; cases h; simp
    · rw [if_neg hab] at h
      obtain ⟨h1, h2⟩ := afind_get l a (i + 1) j v h
      refine ⟨by omega, ?_⟩
      rw [show j - i = (j - (i + 1)) + 1 by omega, List.getElem?_cons_succ]; exact h2
section
variable {P : Program} {r : Option Nat} {N : Nat} {Q : Exit → Act → World → Prop} {e : Env} {ds : List Nat} {M : Mem0} {S : Nat → Prop} {w0 : World} {G : World → Prop}
variable {ops : Array Oper} {l : List Oper} {ty : TypeId} {pos : String} {after : Array Edge} {d : Nat} {t : TypeId} {x y z : Operand}
theorem LM.makeMap [GS G] (hd : Nat.blt d N = true) (h : ∀ b, w0.heap.size ≤ b → LM P r N ops Q l ((d, .map (some b)) :: e) ds ((b, .map #[] 0) :: M) S w0 G) :
    LM P r N ops Q (⟨some d, .makeMap t none, ty, pos, after, none⟩ :: l) e ds M S w0 G := fun w hm hc hg => by
  refine LE.val (w' := w.alloc (.map #[] 0)) (fun ρ hρ _ _ _ _ => ?_) (h w.heap.size hc.size _ (hm.alloc _) (hc.step (chg_alloc w _) (fun _ _ q => q.elim)) (GS.ext w _ hg (chg_alloc w _))) rfl hd
  simp [execOp, run_makeMap, Result.andThen]
theorem om_lookup (i : Nat) {b : Nat} {k k' : IntKind} {kt et : TypeId} {zv v : Value} {es : Array MapEntry} {clock : Nat} {a : Int} {l : List (Int × Value)} (hU : P.underlying t = some (.map kt et)) (hk : P.underlying kt = some (.int k)) (hz : ∀ w, (zeroValue et).run P w = .ok zv w)
    (hx : ev e x = some (.map (some b))) (hy : ev e y = some (.int k' a)) (hM : M[i]? = some (b, .map es clock)) (hes : Ens k' es.toList l) (hv : v = (aget l a).getD zv) : ∀ w, Mem w M → OpV P (.lookup t x y false) ty e w v w := fun w hm ρ hρ _ _ _ _ => by
  subst hv
  have hb := hm.get hM
  have h1 : (Instr.lookup t (.map (some b)) (.int k' a) false).run P w = .ok ((aget l a).getD zv) w := by
    unfold aget
    cases hf : afind l a 0 with
    | none => simp [Instr.lookup, run_underlying hU, MapKept.run_getObj_map hb, checkKey_int hk, findKey_ens hk hes, hf, hz, Result.andThen]
    | some p => simp [Instr.lookup, run_underlying hU, MapKept.run_getObj_map hb, checkKey_int hk, findKey_ens hk hes, hf, hz, Result.andThen]
  simp [execOp, hρ x _ hx, hρ y _ hy, h1, Result.andThen]
theorem LM.mapUpdate [GT G] (i : Nat) {b : Nat} {k k' : IntKind} {kt et : TypeId} {v : Value} {es : Array MapEntry} {clock : Nat} {a : Int} {m : List (Int × Value)} (hU : P.underlying t = some (.map kt et)) (hk : P.underlying kt = some (.int k))
    (hx : ev e x = some (.map (some b))) (hy : ev e y = some (.int k' a)) (hz : ev e z = some v) (hM : M[i]? = some (b, .map es clock)) (hes : Ens k' es.toList m) (hb : b < w0.heap.size → S b)
    (h : ∀ es' clock', Ens k' es'.toList (aput m a v) → LM P r N ops Q l e ds (M.set i (b, .map es' clock')) S w0 G) :
    LM P r N ops Q (⟨none, .mapUpdate t x y z, ty, pos, after, none⟩ :: l) e ds M S w0 G := fun w hm hc hg => by
  have hbw := hm.get hM
  obtain ⟨es', clock', hr, hE⟩ : ∃ es' clock', (Instr.mapUpdate t (.map (some b)) (.int k' a) v).run P w = .ok () (w.putObj b (.map es' clock')) ∧ Ens k' es'.toList (aput m a v) := by
    cases hf : afind m a 0 with
    | none =>
      refine ⟨es.push ⟨.int k' a, v, clock⟩, clock + 1, ?_, ?_⟩
      · simp [Instr.mapUpdate, run_underlying hU, MapKept.run_getObj_map hbw, checkKey_int hk, findKey_ens hk hes, hf, MapKept.run_setObj_map _ hbw, Result.andThen, World.putObj]
      · unfold aput Ens at *; rw [hf]; simp [hes]
    | some p =>
      obtain ⟨j, u⟩ := p
      obtain ⟨_, hj⟩ := afind_get m a 0 j u hf
      rw [Nat.sub_zero] at hj
      have hkey : (es[j]?).map (·.key) = some (.int k' a) := by
        have h1 := congrArg (fun l => l[j]?) hes
        simp only [List.getElem?_map, hj, Option.map_some, Array.getElem?_toList] at h1
        cases hq : es[j]? with
        | none => rw [hq] at h1; simp at h1
        | some q => rw [hq] at h1; simp at h1; simp [h1.1]
      refine ⟨es.modify j fun e => { e with key := .int k' a, val := v }, clock, ?_, ?_⟩
      · simp [Instr.mapUpdate, run_underlying hU, MapKept.run_getObj_map hbw, checkKey_int hk, findKey_ens hk hes, hf, hkey, Instr.keyThatStays, Instr.sameBits, MapKept.run_setObj_map _ hbw, Result.andThen, World.putObj]
      · unfold aput Ens at *; rw [hf]
        apply List.ext_getElem?
        intro q
        have h1 := congrArg (fun l => l[q]?) hes
        simp only [List.getElem?_map, Array.getElem?_toList, Array.getElem?_modify, List.getElem?_set] at h1 ⊢
        by_cases hqj : j = q
        · subst hqj
          have hlt : j < m.length := (List.getElem?_eq_some_iff.1 hj).1
          cases hq : es[j]? with
          | none => rw [hq] at hkey; simp at hkey
          | some z => simp [hlt]
        · simp only [hqj, if_false]; exact h1
  have hput := World.putObj_heap_same (w := w) (r := b) (o := .map es' clock') (Array.getElem?_eq_some_iff.1 hbw).1
  refine LE.skp (w' := w.putObj b (.map es' clock')) (fun ρ hρ _ _ _ _ => ?_) (h es' clock' hE _ (hm.set hM hput (chg_put _)) (hc.step (chg_put _) (fun q hq hqb => by subst hqb; exact hb hq)) (GT.chg _ w _ hg (chg_put _) (.one (chg_put _) hbw rfl))) rfl
  simp [execOp, hρ x _ hx, hρ y _ hy, hρ z _ hz, hr, Result.andThen]
end
end Go.Eng
