/- The calculus, seventh part: slices that are read; an iterator's body; a function left behind loops; calls that change. No condition. -/
import Derived.Test.YtbndlommbpkijaaDoorEng5
import Derived.Test.YtbndlommbpkijaaDoorEng6
import Derived.Laws.Pointers
import Derived.Laws.Tables
set_option linter.unusedVariables false
set_option linter.unusedSimpArgs false
namespace Go.Eng
open Go Go.RowKit

/-! ### More operations -/
section
variable {P : Program} {ty : TypeId} {e : Env} {t u : TypeId} {x y : Operand}
theorem guard_str (op : BinOp) (t : TypeId) (x y : Operand) (a b : ByteArray) (w : World) : (eqGuard op t x y (.string a) (.string b)).run P w = .ok () w := by unfold eqGuard; cases op <;> rfl
theorem ov_seql {a b : ByteArray} (hx : ev e x = some (.string a)) (hy : ev e y = some (.string b)) : OpP P (.binOp .eql t x y u) ty e (.bool (a.toList == b.toList)) := fun w ρ hρ _ _ _ _ => by
  simp [execOp, hρ x _ hx, hρ y _ hy, guard_str, binOp, Op.stringOp, Result.andThen]
theorem ov_sneq {a b : ByteArray} (hx : ev e x = some (.string a)) (hy : ev e y = some (.string b)) : OpP P (.binOp .neq t x y u) ty e (.bool (!(a.toList == b.toList))) := fun w ρ hρ _ _ _ _ => by
  simp [execOp, hρ x _ hx, hρ y _ hy, guard_str, binOp, Op.stringOp, Result.andThen]
theorem ov_idxE {k : IntKind} {a : Int} {ad : Option Addr} {b off n c s : Nat} {E : TypeId} (had : ad = some ⟨b, off, none⟩) (hU : P.underlying t = some (.slice E)) (hS : ∀ w, (sizeOf E).run P w = .ok s w) (ha : ev e x = some (.slice ad n c)) (hi : ev e y = some (.int k a)) (h : 0 ≤ a ∧ a < n) :
    OpP P (.indexAddr t x y) ty e (.pointer (some ⟨b, off + a.toNat * s, none⟩)) := by subst had; exact ov_idx hU hS ha hi h
def evp (e : Env) : List (Nat × Operand) → Option (List (Nat × Value))
  | [] => some []
  | (i, x) :: l => match ev e x, evp e l with | some v, some vs => some ((i, v) :: vs) | _, _ => none
theorem evp_map {ρ : Operand → Value} (hρ : ∀ x u, ev e x = some u → ρ x = u) : ∀ {l : List (Nat × Operand)} {vs : List (Nat × Value)}, evp e l = some vs → l.map (fun p => (p.1, ρ p.2)) = vs
  | [], vs, h => by simp only [evp, Option.some.injEq] at h; subst h; rfl
  | (i, x) :: l, vs, h => by
    simp only [evp] at h
    cases hx : ev e x with
    | none => rw [hx] at h; cases h
    | some v =>
      cases hl : evp e l with
      | none => rw [hx, hl] at h; cases h
      | some us =>
        rw [hx, hl] at h
        obtain rfl := Option.some.inj h
        simp [hρ x v hx, evp_map hρ hl]
theorem ov_build {l : List (Nat × Operand)} {vs : List (Nat × Value)} {cs : Array Value} (h : evp e l = some vs) (hb : P.built t vs = some cs) : OpP P (.build t l.toArray) ty e (.agg cs) := fun w ρ hρ _ _ _ _ => by
  have h1 := run_build (P := P) w t vs.toArray cs (by simpa using hb)
  have h2 : l.toArray.map (fun (i, x) => (i, ρ x)) = vs.toArray := by rw [List.map_toArray]; congr 1; exact evp_map hρ h
  simp only [execOp]
  rw [h2]
  simp [h1]
end

/-! ### '[]T{a, b, ..}' -/
section
variable {P : Program} {r : Option Nat} {N : Nat} {Q : Exit → Act → World → Prop} {e : Env} {ds : List Nat} {M : Mem0} {S : Nat → Prop} {w0 : World} {G : World → Prop}
variable {ops : Array Oper} {l : List Oper} {ty : TypeId} {pos : String} {after : Array Edge} {d : Nat} {t : TypeId}
end

/-! ### A slice that is read -/
def Sr {α : Type} (f : α → List Value) (s : Nat) (xs : List α) (v : Value) (w : World) : Prop :=
  ∃ ad cap, v = .slice ad xs.length cap ∧ xs.length ≤ cap ∧ (0 < xs.length → ∃ b off cs E fz, ad = some ⟨b, off, none⟩ ∧ w.heap[b]? = some (.cells cs E fz) ∧ ∀ i a, xs[i]? = some a → ∀ j, j < s → cs[off + (i * s + j)]? = (f a)[j]?)
theorem Sr.ext {α : Type} {f : α → List Value} {s : Nat} {xs : List α} {v : Value} {w w' : World} (h : Sr f s xs v w) (k : Ext w w') : Sr f s xs v w' := by
  obtain ⟨ad, cap, h1, h2, h3⟩ := h
  refine ⟨ad, cap, h1, h2, fun hx => ?_⟩
  obtain ⟨b, off, cs, E, fz, h4, h5, h6⟩ := h3 hx
  exact ⟨b, off, cs, E, fz, h4, k.get h5, h6⟩
theorem Sr.keep {α : Type} {f : α → List Value} {s : Nat} {xs : List α} {v : Value} {S : Nat → Prop} {w w' : World} (h : Sr f s xs v w) (k : Chg S w w') (hS : ∀ b off n c, v = .slice (some ⟨b, off, none⟩) n c → ¬ S b) : Sr f s xs v w' := by
  obtain ⟨ad, cap, h1, h2, h3⟩ := h
  refine ⟨ad, cap, h1, h2, fun hx => ?_⟩
  obtain ⟨b, off, cs, E, fz, h4, h5, h6⟩ := h3 hx
  exact ⟨b, off, cs, E, fz, h4, k.get h5 (hS b off _ _ (by rw [h1, h4])), h6⟩
theorem Sr.bk {α : Type} {f : α → List Value} {s n : Nat} {xs : List α} {v : Value} {w w' : World} (h : Sr f s xs v w) (k : Bk n w w') : Sr f s xs v w' := by
  obtain ⟨ad, cap, h1, h2, h3⟩ := h
  refine ⟨ad, cap, h1, h2, fun hx => ?_⟩
  obtain ⟨b, off, cs, E, fz, h4, h5, h6⟩ := h3 hx
  exact ⟨b, off, cs, E, fz, h4, k.same b _ h5 (.inr rfl), h6⟩
theorem Sr.take {α : Type} {f : α → List Value} {s : Nat} {xs : List α} {ad : Option Addr} {n cap : Nat} {w : World} (h : Sr f s xs (.slice ad n cap) w) {k : Nat} (hk : k ≤ xs.length) : Sr f s (xs.take k) (.slice ad k cap) w := by
  obtain ⟨ad', cap', h1, h2, h3⟩ := h
  simp only [Value.slice.injEq] at h1
  obtain ⟨rfl, rfl, rfl⟩ := h1
  have hl : (xs.take k).length = k := by simp; omega
  refine ⟨ad, cap, by rw [hl], by omega, fun hx => ?_⟩
  obtain ⟨b, off, cs, E, fz, h4, h5, h6⟩ := h3 (by omega)
  refine ⟨b, off, cs, E, fz, h4, h5, fun i a ha j hj => h6 i a ?_ j hj⟩
  rw [List.getElem?_take] at ha
  split at ha
  · exact ha
  · cases ha
theorem Sl.sr {α : Type} {f : α → List Value} {E s n0 : Nat} {xs : List α} {v : Value} {m : Mem0} {w : World} (h : Sl f E s n0 xs v m) (hf : ∀ a, (f a).length = s) (hm : ∀ p ∈ m, w.heap[p.1]? = some p.2) : Sr f s xs v w := by
  rcases h with ⟨rfl, _, rfl⟩ | ⟨b, cap, junk, _, rfl, rfl, h1, _, _⟩
  · exact ⟨none, 0, rfl, Nat.le_refl _, fun h => by simp at h⟩
  · refine ⟨_, cap, rfl, h1, fun _ => ⟨b, 0, _, _, _, rfl, hm _ (List.mem_singleton.2 rfl), fun i a ha j hj => ?_⟩⟩
    rw [Nat.zero_add]; exact arr_get hf ha hj
theorem Sr.open {α : Type} {f : α → List Value} {s : Nat} {xs : List α} {ad : Option Addr} {n cap : Nat} {w : World} (h : Sr f s xs (.slice ad n cap) w) : n = xs.length ∧ xs.length ≤ cap ∧
    (0 < xs.length → ∃ b off cs E fz, ad = some ⟨b, off, none⟩ ∧ w.heap[b]? = some (.cells cs E fz) ∧ ∀ i a, xs[i]? = some a → ∀ j, j < s → cs[off + (i * s + j)]? = (f a)[j]?) := by
  obtain ⟨_, _, he, h2, h3⟩ := h
  simp only [Value.slice.injEq] at he
  obtain ⟨rfl, rfl, rfl⟩ := he
  exact ⟨rfl, h2, h3⟩
theorem Sr.nil {α : Type} (f : α → List Value) (s : Nat) (w : World) : Sr f s [] (.slice none 0 0) w := ⟨none, 0, rfl, Nat.le_refl _, fun h => by simp at h⟩
section
variable {P : Program} {N : Nat} {e : Env} {M : Mem0} {S : Nat → Prop} {w0 : World} {G : World → Prop} {t ty : TypeId} {x : Operand}
/-- A cell of an element. -/
theorem om_sr {α : Type} {f : α → List Value} {s : Nat} {xs : List α} {b off i j k : Nat} {cs : Array Value} {E : TypeId} {fz : Nat × Nat} {a : α} {v : Value} (hT : ∀ w, (isAgg t).run P w = .ok false w) (ha : ev e x = some (.pointer (some ⟨b, k, none⟩)))
    (hb : w0.heap[b]? = some (.cells cs E fz)) (hr : ∀ i a, xs[i]? = some a → ∀ j, j < s → cs[off + (i * s + j)]? = (f a)[j]?) (hi : xs[i]? = some a) (hj : j < s) (hk : k = off + (i * s + j)) (hv : (f a)[j]? = some v) (hS : ¬ S b) : ∀ w, Mem w M → Chg S w0 w → G w → OpV P (.load t x) ty e w v w := fun w _ hc _ ρ hρ _ _ _ _ => by
  have h1 := hr i a hi j hj
  rw [← hk, hv] at h1
  have h := run_load_cell (P := P) (hc.get hb hS) h1
  simp [execOp, Instr.loadAt, Instr.sureAddr, hρ x _ ha, loadVar, hT, h, Result.andThen]
/-- An element. -/
theorem om_srA {α : Type} {f : α → List Value} {s : Nat} {xs : List α} {b off i k : Nat} {cs : Array Value} {E : TypeId} {fz : Nat × Nat} {a : α} (hT : ∀ w, (isAgg t).run P w = .ok true w) (hZ : ∀ w, (sizeOf t).run P w = .ok s w) (ha : ev e x = some (.pointer (some ⟨b, k, none⟩)))
    (hb : w0.heap[b]? = some (.cells cs E fz)) (hr : ∀ i a, xs[i]? = some a → ∀ j, j < s → cs[off + (i * s + j)]? = (f a)[j]?) (hi : xs[i]? = some a) (hk : k = off + i * s) (hl : (f a).length = s) (hS : ¬ S b) : ∀ w, Mem w M → Chg S w0 w → G w → OpV P (.load t x) ty e w (.agg (f a).toArray) w := fun w _ hc _ ρ hρ _ _ _ _ => by
  have h := run_loadVar_agg (P := P) (off := k) (vs := f a) hT hZ (hc.get hb hS) hl (fun j v hj => by
    have hlt : j < s := by rw [← hl]; exact (List.getElem?_eq_some_iff.1 hj).1
    have := hr i a hi j hlt
    rw [hk, Nat.add_assoc, this]; exact hj)
  simp [execOp, Instr.loadAt, Instr.sureAddr, hρ x _ ha, h, Result.andThen]
end

/-! ### An iterator's own code -/
section
variable {P : Program} {r : Option Nat} {N : Nat} {Q : Exit → Act → World → Prop} {e : Env} {ds : List Nat} {M : Mem0} {S : Nat → Prop} {w0 : World} {G : World → Prop}
variable {ops : Array Oper} {rest : List Oper} {ty : TypeId} {pos : String} {after : Array Edge} {d : Nat}
theorem LM.yield {n l : Nat} {g : Operand} {la : List Operand} {args : List Value} {ats : Array TypeId} {G1 G2 : World → Prop} (hg : ev e g = some (.func (.yield l) #[] #[])) (ha : evs e la = some args)
    (hy : ∀ w, G w → YR P l args.toArray w (fun b w2 => ((b = true ∧ G1 w2) ∨ (b = false ∧ G2 w2)) ∧ KW n w w2)) (hS : ∀ b, S b)
    (ht : LM P r N ops Q rest ((d, .bool true) :: e) ds [] S w0 G1) (hf : LM P r N ops Q rest ((d, .bool false) :: e) ds [] S w0 G2) (hd : Nat.blt d N = true := by rfl) :
    LM P r N ops Q (⟨some d, .call { callee := .value g, args := la.toArray, argTypes := ats }, ty, pos, after, none⟩ :: rest) e ds [] S w0 G := fun w hm hc hgw a hfr hdm => by
  refine wpListIn_plain rfl fun K hK => ?_
  refine ⟨fun _ _ => trivial, ?_⟩
  obtain ⟨fn, tmps, assign, body, h1, h2⟩ := hy w hgw
  have hrun : (execOp a.eval ⟨some d, .call { callee := .value g, args := la.toArray, argTypes := ats }, ty, pos, after, none⟩).run P w = .ok (.round l fn tmps assign body) w := by
    simp [execOp, resolve, hfr.eval hg, Deferred.ofValue, invoke, evs_map (ρ := a.eval) (fun x u hx => hfr.eval hx) ha]
    exact h1
  rw [semAt_nd rfl, hrun]
  refine ⟨fun h => (by cases h), ?_⟩
  have h3 : RoundIn (Wd r) 0 P l fn tmps assign body w (fun en w' => ∃ b, en = .returned (.bool b) ∧ ((b = true ∧ G1 w') ∨ (b = false ∧ G2 w')) ∧ KW n w w') := h2
  refine RoundIn.mono h3 ?_
  rintro en w' ⟨b, rfl, hb, hkw⟩
  have hc' : Chg S w0 w' := ⟨hkw.os.trans hc.os, hkw.tape.trans hc.tape, hkw.output.trans hc.output, Nat.le_trans hc.size hkw.size, fun k _ hn => absurd (hS k) hn⟩
  rcases hb with ⟨rfl, hb⟩ | ⟨rfl, hb⟩
  · exact hK _ _ (ht w' (Mem.nil _) hc' hb _ (hfr.put hd _) hdm)
  · exact hK _ _ (hf w' (Mem.nil _) hc' hb _ (hfr.put hd _) hdm)
end

/-! ### What the ghost knows -/
section
variable {P : Program} {r : Option Nat} {N : Nat} {Q : Exit → Act → World → Prop} {e : Env} {ds : List Nat} {M : Mem0} {S : Nat → Prop} {w0 : World} {G : World → Prop} {ops : Array Oper} {l : List Oper}
theorem LM.know {p : Prop} (h : ∀ w, Mem w M → Chg S w0 w → G w → p) (k : p → LM P r N ops Q l e ds M S w0 G) : LM P r N ops Q l e ds M S w0 G := fun w hm hc hg => k (h w hm hc hg) w hm hc hg
theorem QM.know {x : Exit} {p : Prop} (h : ∀ w, Mem w M → Chg S w0 w → G w → p) (k : p → QM N Q x e ds M S w0 G) : QM N Q x e ds M S w0 G := fun w hm hc hg => k (h w hm hc hg) w hm hc hg
theorem wpM.know {c : Code} {p : Prop} (h : ∀ w, Mem w M → Chg S w0 w → G w → p) (k : p → wpM P r N c Q e ds M S w0 G) : wpM P r N c Q e ds M S w0 G := fun w hm hc hg => k (h w hm hc hg) w hm hc hg
end

/-! ### A function is left that has marks -/
def dM (ds : List Nat) : Mem0 := ds.map (fun D => (D, .deferred (some [])))
theorem shut_mem {S : Nat → Prop} {w0 : World} : ∀ (ds : List Nat) (w : World) (M1 : Mem0), Mem w (dM ds ++ M1) → Chg S w0 w → (∀ D ∈ ds, w0.heap.size ≤ D) → Marked ds w ∧ Mem (shut ds w) M1 ∧ Chg S w0 (shut ds w)
  | [], w, M1, hm, hc, _ => ⟨trivial, hm, hc⟩
  | D :: ds, w, M1, hm, hc, hD => by
    have hm' : Mem w ((D, .deferred (some [])) :: (dM ds ++ M1)) := hm
    have h1 := hm'.get (i := 0) rfl
    have h2 := (hm'.set (i := 0) rfl (World.putObj_heap_same (Array.getElem?_eq_some_iff.1 h1).1) (chg_put (.deferred none))).tail
    obtain ⟨h3, h4, h5⟩ := shut_mem ds _ M1 h2 (hc.step (chg_put _) (fun x hx hxD => by subst hxD; have := hD x (List.mem_cons_self ..); omega)) (fun D' h => hD D' (List.mem_cons_of_mem _ h))
    exact ⟨⟨h1, h3⟩, h4, h5⟩
section
variable {P : Program} {fn : Func} {N : Nat} {e : Env} {ds : List Nat} {M1 : Mem0} {S : Nat → Prop} {w0 : World} {G : World → Prop} {R : Value → World → Prop} {vs : List Value}
end

/-! ### A call that changes some blocks -/
section
variable {P : Program} {r : Option Nat} {N : Nat} {Q : Exit → Act → World → Prop} {e : Env} {ds : List Nat} {M : Mem0} {S : Nat → Prop} {w0 : World} {G : World → Prop}
variable {ops : Array Oper} {l : List Oper} {op : Op} {ty : TypeId} {pos : String} {after : Array Edge} {d : Nat}
end

/-- An iterator's contract out of its body. -/
theorem SeqC.enter {P : Program} {f : FuncId} {fn : Func} {c : Code} {lb : List Value} {A : List (Array Value)} {Rd : World → Prop} {fin : Prop}
    (hf : P.funcs[f]? = some fn) (hb : fn.body = some c) {N : Nat} (hN : fn.ntmps = N) (hl : Nat.ble (lb.length + 1) N = true)
    (h : ∀ (l n : Nat) (J : Nat → World → Prop) (Jx : World → Prop) (w0 : World), (fin ∨ ∀ w, ¬ J A.length w) → (∀ k w, J k w → Rd w) → (∀ k, GS (J k)) → GS Jx →
      (∀ k a w, A[k]? = some a → J k w → YR P l a w (fun b w2 => ((b = true ∧ J (k + 1) w2) ∨ (b = false ∧ Jx w2)) ∧ KW n w w2)) →
      wpM P none N c (fnPost P fn (fun _ w' => J A.length w' ∨ Jx w')) (args0 0 (.func (.yield l) #[] #[] :: lb)) [] [] (fun _ => True) w0 (J 0)) : SeqC P f lb.toArray A Rd fin := fun l J Jx W hfin hJr hJb hJxb hy h0 => by
  have h1 : (#[Value.func (.yield l) #[] #[]] ++ lb.toArray) = (Value.func (.yield l) #[] #[] :: lb).toArray := by simp
  rw [h1]
  refine Ret.enterG hf hb hN (by simpa using hl) [] (fun _ => True) (J 0) (Mem.nil W) h0 ?_
  exact h l W.heap.size J Jx W hfin hJr (fun k => ⟨fun w w' hj he => hJb k w w' hj (Ext.bk he)⟩) ⟨fun w w' hj he => hJxb w w' hj (Ext.bk he)⟩ hy
end Go.Eng
