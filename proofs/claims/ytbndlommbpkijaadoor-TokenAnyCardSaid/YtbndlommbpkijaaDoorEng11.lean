/- The calculus, eleventh part: results that lie in cells, several or structs; the rest of a slice. No condition. -/
import Derived.Test.YtbndlommbpkijaaDoorEng10
set_option linter.unusedVariables false
set_option linter.unusedSimpArgs false
namespace Go.Eng
open Go Go.RowKit

/-! ### Results -/
def ResC (P : Program) (e : Env) (M : Mem0) : List ResultVar → List Value → Prop
  | [], vs => vs = []
  | .tmp t :: l, vs => ∃ v us, vs = v :: us ∧ look e t = some v ∧ ResC P e M l us
  | .cell b t :: l, vs => ∃ v us ad, vs = v :: us ∧ look e b = some (.pointer (some ad)) ∧ (∀ w, Mem w M → (loadVar t ad).run P w = .ok v w) ∧ ResC P e M l us
section
variable {P : Program} {fn : Func} {N : Nat} {e : Env} {ds : List Nat} {M M1 M2 : Mem0} {S : Nat → Prop} {w0 : World} {G : World → Prop} {R : Value → World → Prop} {vs : List Value} {l : List ResultVar} {us : List Value} {v : Value}
theorem rc_nil : ResC P e M [] [] := rfl
theorem rc_tmp {t : Nat} (h : look e t = some v) (k : ResC P e M l us) : ResC P e M (.tmp t :: l) (v :: us) := ⟨_, _, rfl, h, k⟩
theorem rc_w {b ad n : Nat} {t E : TypeId} {cs : Array Value} {fz : Nat × Nat} (hb : look e b = some (.pointer (some ⟨ad, 0, none⟩))) [q : Fnd M ad (.cells cs E fz) M2] (hT : ∀ w, (isAgg t).run P w = .ok true w) (hS : ∀ w, (sizeOf t).run P w = .ok n w) (hn : cs.size = n) (k : ResC P e M l us) :
    ResC P e M (.cell b t :: l) (.agg cs :: us) := ⟨_, _, _, rfl, hb, fun w hm => by
  have := run_loadVar_agg (P := P) (off := 0) (vs := cs.toList) hT hS (q.get hm) (by simpa using hn) (fun j v hj => by rw [Nat.zero_add]; simpa using hj)
  simpa using this, k⟩
theorem mapM_resC {a : Act} (hf : Fr N e a) {w : World} (hm : Mem w M) (f : ResultVar → Sem Value) (hft : ∀ t v, a.tmps[t]? = some v → (f (.tmp t)).run P w = .ok v w)
    (hfc : ∀ b t ad, a.tmps[b]? = some (.pointer (some ad)) → (f (.cell b t)).run P w = (loadVar t ad).run P w) :
    ∀ (rs : List ResultVar) (vs : List Value), ResC P e M rs vs → (rs.mapM f).run P w = .ok vs w
  | [], vs, h => by obtain rfl : vs = [] := h; simp
  | .tmp t :: rs, vs, h => by
    obtain ⟨v, us, rfl, h1, h2⟩ := h
    simp only [List.mapM_cons, Sem.run_bind, hft t v (hf.2 _ _ h1), Result.andThen, mapM_resC hf hm f hft hfc rs us h2, Sem.run_pure]
  | .cell b t :: rs, vs, h => by
    obtain ⟨v, us, ad, rfl, h1, h2, h3⟩ := h
    simp only [List.mapM_cons, Sem.run_bind, hfc b t ad (hf.2 _ _ h1), h2 w hm, Result.andThen, mapM_resC hf hm f hft hfc rs us h3, Sem.run_pure]
theorem results_resC {a : Act} (hf : Fr N e a) {w : World} (hm : Mem w M) {rs : List ResultVar} (hr : fn.results = rs.toArray) (h : ResC P e M rs vs) : (results fn a.tmps).run P w = .ok (resV vs) w := by
  unfold results
  rw [hr]
  have h1 := mapM_resC (P := P) hf hm (fun x => match x with
      | ResultVar.tmp t => (pure (a.tmps.getD t undef) : Sem Value)
      | ResultVar.cell b t => do loadVar t (← asAddr (a.tmps.getD b undef)))
    (fun t v hl => by
      show Result.ok (a.tmps.getD t undef) w = _
      rw [Array.getD_eq_getD_getElem?, hl]; rfl)
    (fun b t ad hl => by
      simp [Array.getD_eq_getD_getElem?, hl, asAddr]) rs vs h
  simp only [List.mapM_toArray, Sem.run_bind, Sem.run_map]
  generalize hX : Sem.run P (List.mapM _ rs) w = X
  obtain rfl : Result.ok vs w = X := by rw [← hX]; exact h1.symm
  simp only [Result.andThen]
  cases vs with
  | nil => simp [resV]
  | cons v l => cases l with
    | nil => simp [resV]
    | cons u l => simp [resV]
theorem QM.leaveCs {x : Exit} (hx : x = .ret ∨ x = .normal) (rs : List ResultVar) (hr : fn.results = rs.toArray) (hD : ∀ D ∈ ds, w0.heap.size ≤ D) [k : SplD M ds M1] (h : ResC P e M1 rs vs) (hR : ∀ w, Mem w M1 → Chg S w0 w → R (resV vs) w) : QM N (fnPost P fn R) x e ds M S w0 G :=
  .mem (fun w hm => hm.perm k.perm) (fun w hm hc hg => by
    obtain ⟨h1, h2, h3⟩ := shut_mem ds w M1 hm hc hD
    rcases hx with rfl | rfl
    · intro a hf hd
      show LeavesInM _ _ _ _ _ _ _ _ _
      rw [hd]
      exact leavesM_shut ds w h1 (results_resC hf h2 hr h) ⟨_, rfl, hR _ h2 h3⟩
    · intro a hf hd
      show LeavesInM _ _ _ _ _ _ _ _ _
      rw [hd]
      exact leavesM_shut ds w h1 (results_resC hf h2 hr h) ⟨_, rfl, hR _ h2 h3⟩)
end

/-! ### A store among what may be carried out early or late -/
section
variable {P : Program} {r : Option Nat} {N : Nat} {Q : Exit → Act → World → Prop} {e : Env} {ds : List Nat} {M : Mem0} {S : Nat → Prop} {w0 : World} {G : World → Prop}
variable {ops : Array Oper} {l : List (Nat × Nat)} {ty : TypeId} {pos : String} {after : Array Edge} {d i : Nat} {t : TypeId} {x y : Operand}
end

/-! ### The rest of a slice -/
def adLo (ad : Option Addr) (l c s : Nat) : Option Addr := if c = l then ad else ad.map (·.add (l * s))
section
variable {P : Program} {ty : TypeId} {e : Env} {t : TypeId} {x lo : Operand}
end
theorem Sr.drop {α : Type} {f : α → List Value} {s : Nat} {xs : List α} {ad : Option Addr} {n cap : Nat} {w : World} (h : Sr f s xs (.slice ad n cap) w) {l : Nat} (hk : l ≤ n) : Sr f s (xs.drop l) (.slice (adLo ad l cap s) (n - l) (cap - l)) w := by
  obtain ⟨ad', cap', h1, h2, h3⟩ := h
  simp only [Value.slice.injEq] at h1
  obtain ⟨rfl, rfl, rfl⟩ := h1
  have hl : (xs.drop l).length = xs.length - l := by simp
  refine ⟨_, _, by rw [hl], by omega, fun hx => ?_⟩
  obtain ⟨b, off, cs, E, fz, h4, h5, h6⟩ := h3 (by omega)
  refine ⟨b, off + l * s, cs, E, fz, ?_, h5, fun i a ha j hj => ?_⟩
  · subst h4
    unfold adLo; rw [if_neg (by omega)]
    simp [Addr.add]
  · rw [List.getElem?_drop] at ha
    have := h6 (l + i) a ha j hj
    rw [← this]; congr 1
    rw [Nat.add_mul]; omega
/-! ### A test whose outcome is asked again -/
section
variable {P : Program} {r : Option Nat} {N : Nat} {Q : Exit → Act → World → Prop} {e : Env} {ds : List Nat} {M : Mem0} {S : Nat → Prop} {w0 : World} {G : World → Prop}
theorem Fr.know {t : Nat} {b c : Bool} {a : Act} (hf : Fr N e a) (ht : look e t = some (.bool b)) (hc : b = c) : Fr N ((t, .bool c) :: e) a := ⟨hf.1, fun k u hu => by
    rw [look_cons] at hu
    by_cases hk : t = k
    · subst hk; rw [if_pos rfl] at hu; rw [← hu, ← hc]; exact hf.2 _ _ ht
    · rw [if_neg hk] at hu; exact hf.2 k u hu⟩
end
end Go.Eng
