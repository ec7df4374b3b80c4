/- The calculus, tenth part: iterators that have memory of their own. No condition. -/
import Derived.Test.YtbndlommbpkijaaGreatDoorM1
import Derived.Lib.Strings
import Derived.Laws.IdiomStrings
import Derived.Lib.OthersKept
import Derived.Lib.FrozenHead
import Derived.Lib.UnsafeStr
import Derived.Lib.AppendStr
import Derived.Lib.AppendIntMem
import Derived.Lib.AppendZeros
import Derived.Lib.SliceRun
import Derived.Test.YtbndlommbpkijaaGreatDoorChecked
import Derived.Shelf.Lays
import Derived.Shelf.LaysM
import Derived.Shelf.Strings.SlTrimAscii
import Derived.Shelf.Strconv.Itoa4
import Derived.Shelf.Strings.Search3
import Derived.Shelf.Strings.BuilderK
import Derived.Shelf.Strings.Prefix
import Derived.Shelf.Small.Strs
import Derived.Shelf.Strconv.Atoi
import Derived.Lib.ItoaNum
import Derived.Lib.SlTrimSet
import Derived.Lib.Bytealg
import Derived.Test.YtbndlommbpkijaaGreatDoorRows
set_option linter.unusedVariables false
set_option linter.unusedSimpArgs false
namespace Go.Eng
open Go Go.RowKit
structure JL (n : Nat) (J : Nat → Mem0 → World → Prop) (Jx : World → Prop) : Prop where
  le : ∀ k m w, J k m w → n ≤ w.heap.size
  mem : ∀ k m w, J k m w → Mem w m
  upd : ∀ k m m' w w', J k m w → Chg (fun b => ∃ q ∈ m, q.1 = b) w w' → Mem w' m' → (∀ p ∈ m', (w.heap.size ≤ p.1 ∨ ∃ q ∈ m, q.1 = p.1) ∧ wlk p.2 = false) → J k m' w'
  bk : ∀ k m w w', J k m w → Bk n w w' → J k m w'
  bkx : ∀ w w', Jx w → Bk n w w' → Jx w'
def SeqCP (P : Program) (g : FuncId) (lb : Array Value) (A : List (Array Value)) (Rd : World → Prop) (fin : Prop) : Prop :=
  ∀ (l : Nat) (J : Nat → Mem0 → World → Prop) (Jx : World → Prop) (W : World), (fin ∨ ∀ m w, ¬ J A.length m w) → (∀ k m w, J k m w → Rd w) → JL W.heap.size J Jx →
    (∀ k a m w1, A[k]? = some a → J k m w1 → YR P l a w1 (fun b w2 => ((b = true ∧ J (k + 1) m w2) ∨ (b = false ∧ Jx w2)) ∧ KW W.heap.size w1 w2)) →
    J 0 [] W → Ret P g (#[.func (.yield l) #[] #[]] ++ lb) W (fun _ w' => J A.length [] w' ∨ Jx w')
theorem JL.rd {n : Nat} {J : Nat → Mem0 → World → Prop} {Jx : World → Prop} (h : JL n J Jx) {Rd : World → Prop} (hr : ∀ k m w, J k m w → Rd w) {k : Nat} {m : Mem0} {w1 w : World} (hj : J k m w1) (hc : Chg (fun b => ∃ q ∈ m, q.1 = b) w1 w) : Rd w :=
  hr k [] w (h.upd k m [] w1 w hj hc (Mem.nil w) (fun p hp => by cases hp))
theorem KW.trans {n n' : Nat} {a b c : World} (h : KW n' a b) (k : KW n b c) (hn : n ≤ n') : KW n' a c :=
  ⟨k.os.trans h.os, k.tape.trans h.tape, k.output.trans h.output, Nat.le_trans h.size k.size, fun x o hx ho hw => k.same x o (by omega) (h.same x o hx ho hw) hw⟩
section
variable {P : Program} {ty : TypeId} {e : Env} {t u : TypeId} {x y : Operand}
end
/-! ### Open and closed -/
section
variable {P : Program} {r : Option Nat} {N : Nat} {Q : Exit → Act → World → Prop} {e : Env} {ds : List Nat} {M m : Mem0} {w0 w1 : World} {n k : Nat} {J : Nat → Mem0 → World → Prop} {Jx K : World → Prop}
variable {ops : Array Oper} {rest : List Oper} {ty : TypeId} {pos : String} {after : Array Edge} {d : Nat}
abbrev all0 : Nat → Prop := fun _ => True
end
/-! ### ... in a round of a loop of the iterator's own -/
section
variable {P : Program} {r : Option Nat} {N : Nat} {Q : Exit → Act → World → Prop} {e : Env} {ds : List Nat} {M m : Mem0} {w0 w1 : World} {n k : Nat} {J : Nat → Mem0 → World → Prop} {Jx K K2 : World → Prop}
end
/-! ### A loop whose rounds leave marks -/
section
variable {P : Program} {r : Option Nat} {N : Nat} {Q : Exit → Act → World → Prop} {e : Env} {ds : List Nat} {M : Mem0} {S : Nat → Prop} {w0 : World} {G : World → Prop}
end
instance {M M1 : Mem0} {ds : List Nat} [h : Spl M (dM ds) M1] : SplD M ds M1 := ⟨h.perm⟩
theorem hd_cons {w0 : World} {D : Nat} {ds : List Nat} (h : w0.heap.size ≤ D) (k : ∀ D ∈ ds, w0.heap.size ≤ D) : ∀ D' ∈ D :: ds, w0.heap.size ≤ D' := fun D' hD => by
  rcases List.mem_cons.1 hD with rfl | hD
  · exact h
  · exact k D' hD
theorem hd_nil {w0 : World} : ∀ D ∈ ([] : List Nat), w0.heap.size ≤ D := fun D h => by cases h
theorem Sl.wlk {α : Type} {f : α → List Value} {E s n0 : Nat} {xs : List α} {v : Value} {m : Mem0} (h : Sl f E s n0 xs v m) : ∀ p ∈ m, Go.Eng.wlk p.2 = false := fun p hp => by
  rcases h with ⟨_, rfl, _⟩ | ⟨b, cap, junk, _, _, rfl, _⟩
  · cases hp
  · rw [List.mem_singleton] at hp; subst hp; rfl
theorem SeqCP.enter {P : Program} {f : FuncId} {fn : Func} {c : Code} {lb : List Value} {A : List (Array Value)} {Rd : World → Prop} {fin : Prop}
    (hf : P.funcs[f]? = some fn) (hb : fn.body = some c) {N : Nat} (hN : fn.ntmps = N) (hl : Nat.ble (lb.length + 1) N = true)
    (h : ∀ (l n : Nat) (J : Nat → Mem0 → World → Prop) (Jx : World → Prop) (w0 : World), n = w0.heap.size → (fin ∨ ∀ m w, ¬ J A.length m w) → (∀ k m w, J k m w → Rd w) → JL n J Jx →
      (∀ k a m w, A[k]? = some a → J k m w → YR P l a w (fun b w2 => ((b = true ∧ J (k + 1) m w2) ∨ (b = false ∧ Jx w2)) ∧ KW n w w2)) →
      wpM P none N c (fnPost P fn (fun _ w' => J A.length [] w' ∨ Jx w')) (args0 0 (.func (.yield l) #[] #[] :: lb)) [] [] all0 w0 (fun w => J 0 [] w ∧ top w)) : SeqCP P f lb.toArray A Rd fin := fun l J Jx W hfin hJr hL hy h0 => by
  have h1 : (#[Value.func (.yield l) #[] #[]] ++ lb.toArray) = (Value.func (.yield l) #[] #[] :: lb).toArray := by simp
  rw [h1]
  refine Ret.enterG hf hb hN (by simpa using hl) [] all0 (fun w => J 0 [] w ∧ top w) (Mem.nil W) ⟨h0, trivial⟩ ?_
  exact h l W.heap.size J Jx W rfl hfin hJr hL hy
/-! ### A call that changes one block among what may be carried out early or late -/
def AltO (b : Nat) (Mc : Mem0) (os : List Obj) (w : World) : Prop := ∃ o ∈ os, Mem w ((b, o) :: Mc)
instance (b : Nat) (Mc : Mem0) (os : List Obj) {G : World → Prop} [GS G] : GS (fun w => G w ∧ AltO b Mc os w) where
  ext := fun w w' ⟨h, o, ho, hm⟩ k => ⟨GS.ext w w' h k, o, ho, hm.ext k⟩
section
variable {P : Program} {r : Option Nat} {N : Nat} {Q : Exit → Act → World → Prop} {e : Env} {ds : List Nat} {M : Mem0} {S : Nat → Prop} {w0 : World} {G : World → Prop}
theorem wpM.toAltO {c : Code} (b : Nat) (os : List Obj) {o : Obj} {Mc : Mem0} [hM : Fnd M b o Mc] (ho : o ∈ os) (h : (∀ q ∈ Mc, q.1 ≠ b) → wpM P r N c Q e ds Mc S w0 (fun w => G w ∧ AltO b Mc os w)) : wpM P r N c Q e ds M S w0 G := fun w hm hc hg => by
  have hm' := hm.perm hM.perm
  refine h (fun q hq he => ?_) w hm'.tail hc ⟨hg, o, ho, hm'⟩
  have hnd := hm'.1
  simp only [List.map_cons, List.nodup_cons] at hnd
  exact hnd.1 (he ▸ List.mem_map_of_mem hq)
variable {ops : Array Oper} {lo : List Oper} {l : List (Nat × Nat)} {op : Op} {ty : TypeId} {pos : String} {after : Array Edge} {d i : Nat}
theorem LM.ofAltO {b : Nat} {o : Obj} {Mc : Mem0} (h : LM P r N ops Q lo e ds ((b, o) :: Mc) S w0 G) : LM P r N ops Q lo e ds Mc S w0 (fun w => G w ∧ AltO b Mc [o] w) := fun w hm hc ⟨hg, o', ho, hmo⟩ => by
  rw [List.mem_singleton] at ho; subst ho; exact h w hmo hc hg
theorem QM.ofAltO {X : Exit} {b : Nat} {o : Obj} {Mc : Mem0} (h : QM N Q X e ds ((b, o) :: Mc) S w0 G) : QM N Q X e ds Mc S w0 (fun w => G w ∧ AltO b Mc [o] w) := fun w hm hc ⟨hg, o', ho, hmo⟩ => by
  rw [List.mem_singleton] at ho; subst ho; exact h w hmo hc hg
end
/-! ### A new slice, as a slice of the call's own -/
section
variable {P : Program} {r : Option Nat} {N : Nat} {Q : Exit → Act → World → Prop} {e : Env} {ds : List Nat} {M : Mem0} {S : Nat → Prop} {w0 : World} {G : World → Prop}
variable {ops : Array Oper} {l : List Oper} {ty : TypeId} {pos : String} {after : Array Edge} {d : Nat} {t : TypeId} {x y : Operand}
end
section range
variable {P : Program} {N : Nat} {Q : Exit → Act → World → Prop} {e : Env} {ds : List Nat} {M : Mem0} {S : Nat → Prop} {w0 : World} {G : World → Prop}
variable {g : Operand} {ps : Array Tmp} {assign body : Code} {gf : FuncId} {lb : Array Value} {A : List (Array Value)} {Rd : World → Prop} {fin : Prop} {α β : Type}
end range
end Go.Eng
namespace Go.Eng
open Go Go.RowKit
/-! ### Results -/
def ResC (P : Program) (e : Env) (M : Mem0) : List ResultVar → List Value → Prop
  | [], vs => vs = []
  | .tmp t :: l, vs => ∃ v us, vs = v :: us ∧ look e t = some v ∧ ResC P e M l us
  | .cell b t :: l, vs => ∃ v us ad, vs = v :: us ∧ look e b = some (.pointer (some ad)) ∧ (∀ w, Mem w M → (loadVar t ad).run P w = .ok v w) ∧ ResC P e M l us
section
variable {P : Program} {fn : Func} {N : Nat} {e : Env} {ds : List Nat} {M M1 M2 : Mem0} {S : Nat → Prop} {w0 : World} {G : World → Prop} {R : Value → World → Prop} {vs : List Value} {l : List ResultVar} {us : List Value} {v : Value}
theorem rc_nil : ResC P e M [] [] := rfl
theorem rc_tmp {t : Nat} (h : look e t = some v) (k : ResC P e M l us) : ResC P e M (.tmp t :: l) (v :: us) := ⟨_, _, rfl, h, k⟩
theorem rc_c {b off ad : Nat} {t E : TypeId} {cs : Array Value} {fz : Nat × Nat} (hb : look e b = some (.pointer (some ⟨ad, off, none⟩))) [q : Fnd M ad (.cells cs E fz) M2] (hT : ∀ w, (isAgg t).run P w = .ok false w) (hc : cs[off]? = some v) (k : ResC P e M l us) :
    ResC P e M (.cell b t :: l) (v :: us) := ⟨_, _, _, rfl, hb, fun w hm => run_loadVar_one hT (q.get hm) hc, k⟩
theorem rc_w {b ad n : Nat} {t E : TypeId} {cs : Array Value} {fz : Nat × Nat} (hb : look e b = some (.pointer (some ⟨ad, 0, none⟩))) [q : Fnd M ad (.cells cs E fz) M2] (hT : ∀ w, (isAgg t).run P w = .ok true w) (hS : ∀ w, (sizeOf t).run P w = .ok n w) (hn : cs.size = n) (k : ResC P e M l us) :
    ResC P e M (.cell b t :: l) (.agg cs :: us) := ⟨_, _, _, rfl, hb, fun w hm => by
  have := run_loadVar_agg (P := P) (off := 0) (vs := cs.toList) hT hS (q.get hm) (by simpa using hn) (fun j v hj => by rw [Nat.zero_add]; simpa using hj)
  simpa using this, k⟩
theorem mapM_resC {a : Act} (hf : Fr N e a) {w : World} (hm : Mem w M) (f : ResultVar → Sem Value) (hft : ∀ t v, a.tmps[t]? = some v → (f (.tmp t)).run P w = .ok v w)
    (hfc : ∀ b t ad, a.tmps[b]? = some (.pointer (some ad)) → (f (.cell b t)).run P w = (loadVar t ad).run P w) :
    ∀ (rs : List ResultVar) (vs : List Value), ResC P e M rs vs → (rs.mapM f).run P w = .ok vs w
  | [], vs, h => by obtain rfl : vs = [] := h; simp
  | .tmp t :: rs, vs, h => by
    obtain ⟨v, us, rfl, h1, h2⟩ := h
    simp only [List.mapM_cons, Sem.run_bind, hft t v (hf.2 _ _ h1), Result.andThen, mapM_resC hf hm f hft hfc rs us h2, Sem.run_pure]
  | .cell b t :: rs, vs, h => by
    obtain ⟨v, us, ad, rfl, h1, h2, h3⟩ := h
    simp only [List.mapM_cons, Sem.run_bind, hfc b t ad (hf.2 _ _ h1), h2 w hm, Result.andThen, mapM_resC hf hm f hft hfc rs us h3, Sem.run_pure]
theorem results_resC {a : Act} (hf : Fr N e a) {w : World} (hm : Mem w M) {rs : List ResultVar} (hr : fn.results = rs.toArray) (h : ResC P e M rs vs) : (results fn a.tmps).run P w = .ok (resV vs) w := by
  unfold results
  rw [hr]
  have h1 := mapM_resC (P := P) hf hm (fun x => match x with
      | ResultVar.tmp t => (pure (a.tmps.getD t undef) : Sem Value)
      | ResultVar.cell b t => do loadVar t (← asAddr (a.tmps.getD b undef)))
    (fun t v hl => by
      show Result.ok (a.tmps.getD t undef) w = _
      rw [Array.getD_eq_getD_getElem?, hl]; rfl)
    (fun b t ad hl => by
      simp [Array.getD_eq_getD_getElem?, hl, asAddr]) rs vs h
  simp only [List.mapM_toArray, Sem.run_bind, Sem.run_map]
  generalize hX : Sem.run P (List.mapM _ rs) w = X
  obtain rfl : Result.ok vs w = X := by rw [← hX]; exact h1.symm
  simp only [Result.andThen]
  cases vs with
  | nil => simp [resV]
  | cons v l => cases l with
    | nil => simp [resV]
    | cons u l => simp [resV]
theorem QM.leaveCs {x : Exit} (hx : x = .ret ∨ x = .normal) (rs : List ResultVar) (hr : fn.results = rs.toArray) (hD : ∀ D ∈ ds, w0.heap.size ≤ D) [k : SplD M ds M1] (h : ResC P e M1 rs vs) (hR : ∀ w, Mem w M1 → Chg S w0 w → R (resV vs) w) : QM N (fnPost P fn R) x e ds M S w0 G :=
  .mem (fun w hm => hm.perm k.perm) (fun w hm hc hg => by
    obtain ⟨h1, h2, h3⟩ := shut_mem ds w M1 hm hc hD
    rcases hx with rfl | rfl
    · intro a hf hd
      show LeavesInM _ _ _ _ _ _ _ _ _
      rw [hd]
      exact leavesM_shut ds w h1 (results_resC hf h2 hr h) ⟨_, rfl, hR _ h2 h3⟩
    · intro a hf hd
      show LeavesInM _ _ _ _ _ _ _ _ _
      rw [hd]
      exact leavesM_shut ds w h1 (results_resC hf h2 hr h) ⟨_, rfl, hR _ h2 h3⟩)
end
/-! ### A store among what may be carried out early or late -/
section
variable {P : Program} {r : Option Nat} {N : Nat} {Q : Exit → Act → World → Prop} {e : Env} {ds : List Nat} {M : Mem0} {S : Nat → Prop} {w0 : World} {G : World → Prop}
variable {ops : Array Oper} {l : List (Nat × Nat)} {ty : TypeId} {pos : String} {after : Array Edge} {d i : Nat} {t : TypeId} {x y : Operand}
theorem LD.stAltO [GT G] {b n off : Nat} {os : List Obj} (os' : List Obj) {Mc : Mem0} {v : Value} {gd : Option (Nat × Bool)} (hi : ops[i]? = some ⟨none, .store t x y, ty, pos, after, gd⟩) (hgd : Wtd ops e gd true)
    (hS : ∀ w, (sizeOf t).run P w = .ok n w) (ha : ev e x = some (.pointer (some ⟨b, off, none⟩))) (hv : ev e y = some v) (hn : v.cells.size = n) (h1 : v.cells.toList.all one = true)
    (hsub : ∀ o ∈ os', o ∈ os) (hstep : ∀ o ∈ os, ∃ cs E, o = Obj.cells cs E (0, 0) ∧ off + n ≤ cs.size ∧ Obj.cells (setR cs off v.cells.toList) E (0, 0) ∈ os') (hb : b < w0.heap.size → S b) (hMc : ∀ q ∈ Mc, q.1 ≠ b)
    (h : LD P r N ops Q l e ds Mc S w0 (fun w => G w ∧ AltO b Mc os' w)) : LD P r N ops Q ((i, 2) :: l) e ds Mc S w0 (fun w => G w ∧ AltO b Mc os w) := fun a hfr hdm => by
  simp only [LDA, hi]
  intro w ⟨hm, hc, hg, o, hos, hmo⟩
  obtain ⟨cs, E, rfl, hle, hin⟩ := hstep o hos
  have hln : v.cells.toList.length = n := by simpa using hn
  obtain ⟨w', h2, h3, h4⟩ := run_storeCells_setR (P := P) v.cells.toList w cs off 0 (hmo.get (i := 0) rfl) (by omega) (fun u hu => List.all_eq_true.1 h1 u hu)
  rw [Nat.add_zero] at h3
  unfold wpOpIn
  rw [hi]
  simp only
  rw [if_pos (hgd.wanted (o := ⟨none, .store t x y, ty, pos, after, gd⟩) hfr)]
  refine wp_skip (a := a) rfl (w' := w') (by simp [execOp, Instr.storeAt, Instr.sureAddr, hfr.eval ha, hfr.eval hv, storeVar, hS, hn, h2, Result.andThen]) ?_
  refine ⟨Cls Mc S w0 (fun w => G w ∧ AltO b Mc os' w), fun w hw => ⟨hw.1, hw.2.1, hw.2.2.1, ?_⟩, ⟨hm.keep h4 hMc, hc.step h4 (fun k hk hkb => by subst hkb; exact hb hk), GT.chg _ w w' hg h4 (.one h4 (hmo.get (i := 0) rfl) rfl), _, hin, hmo.set (i := 0) rfl h3 h4⟩, h _ (hfr.putN undef) hdm⟩
  obtain ⟨o', ho', hm'⟩ := hw.2.2.2; exact ⟨o', hsub o' ho', hm'⟩
end
/-! ### The rest of a slice -/
def adLo (ad : Option Addr) (l c s : Nat) : Option Addr := if c = l then ad else ad.map (·.add (l * s))
section
variable {P : Program} {ty : TypeId} {e : Env} {t : TypeId} {x lo : Operand}
theorem ov_subLo (l : Nat) {k : IntKind} {li : Int} {ad : Option Addr} {n c s : Nat} {E : TypeId} (hU : P.underlying t = some (.slice E)) (hS : ∀ w, (sizeOf E).run P w = .ok s w) (ha : ev e x = some (.slice ad n c)) (hl : ev e lo = some (.int k li))
    (hli : li = (l : Nat)) (h : l ≤ n) : OpP P (.slice t x (some lo) none none) ty e (.slice (adLo ad l c s) (n - l) (c - l)) := fun w ρ hρ _ _ _ _ => by
  subst hli
  have h2 : (l : Int) ≤ n := by omega
  simp [execOp, Instr.sliceAt, Instr.slice, Instr.sliceBounds, Instr.sliceBound, asIntOf, run_underlying hU, hρ x _ ha, hρ lo _ hl, hS, h, h2, adLo, Result.andThen]
end
theorem Sr.drop {α : Type} {f : α → List Value} {s : Nat} {xs : List α} {ad : Option Addr} {n cap : Nat} {w : World} (h : Sr f s xs (.slice ad n cap) w) {l : Nat} (hk : l ≤ n) : Sr f s (xs.drop l) (.slice (adLo ad l cap s) (n - l) (cap - l)) w := by
  obtain ⟨ad', cap', h1, h2, h3⟩ := h
  simp only [Value.slice.injEq] at h1
  obtain ⟨rfl, rfl, rfl⟩ := h1
  have hl : (xs.drop l).length = xs.length - l := by simp
  refine ⟨_, _, by rw [hl], by omega, fun hx => ?_⟩
  obtain ⟨b, off, cs, E, fz, h4, h5, h6⟩ := h3 (by omega)
  refine ⟨b, off + l * s, cs, E, fz, ?_, h5, fun i a ha j hj => ?_⟩
  · subst h4
    unfold adLo; rw [if_neg (by omega)]
    simp [Addr.add]
  · rw [List.getElem?_drop] at ha
    have := h6 (l + i) a ha j hj
    rw [← this]; congr 1
    rw [Nat.add_mul]; omega
/-! ### A test whose outcome is asked again -/
section
variable {P : Program} {r : Option Nat} {N : Nat} {Q : Exit → Act → World → Prop} {e : Env} {ds : List Nat} {M : Mem0} {S : Nat → Prop} {w0 : World} {G : World → Prop}
theorem Fr.know {t : Nat} {b c : Bool} {a : Act} (hf : Fr N e a) (ht : look e t = some (.bool b)) (hc : b = c) : Fr N ((t, .bool c) :: e) a := ⟨hf.1, fun k u hu => by
    rw [look_cons] at hu
    by_cases hk : t = k
    · subst hk; rw [if_pos rfl] at hu; rw [← hu, ← hc]; exact hf.2 _ _ ht
    · rw [if_neg hk] at hu; exact hf.2 k u hu⟩
theorem wpM.condXD {t : Nat} {p : Prop} [Decidable p] {x y : Code} (ht : look e t = some (.bool (decide p))) (h1 : p → wpM P r N x Q ((t, .bool true) :: e) ds M S w0 G) (h2 : ¬ p → wpM P r N y Q ((t, .bool false) :: e) ds M S w0 G) :
    wpM P r N (.cond (.tmp t) x y) Q e ds M S w0 G :=
  .condD ht (fun hp w hm hc hg a hf hd => h1 hp w hm hc hg a (hf.know ht (decide_eq_true hp)) hd) (fun hp w hm hc hg a hf hd => h2 hp w hm hc hg a (hf.know ht (decide_eq_false hp)) hd)
theorem wpM.condXB {t : Nat} {b : Bool} {x y : Code} (ht : look e t = some (.bool b)) (h1 : b = true → wpM P r N x Q ((t, .bool true) :: e) ds M S w0 G) (h2 : b = false → wpM P r N y Q ((t, .bool false) :: e) ds M S w0 G) :
    wpM P r N (.cond (.tmp t) x y) Q e ds M S w0 G :=
  .condB ht (fun hp w hm hc hg a hf hd => h1 hp w hm hc hg a (hf.know ht hp) hd) (fun hp w hm hc hg a hf hd => h2 hp w hm hc hg a (hf.know ht hp) hd)
end
end Go.Eng
namespace Go.Eng
open Go Go.RowKit
inductive OT where
  | nil : OT
  | one : Nat → Nat → OT → OT
  | fork : Nat → OT → Nat → OT → OT
  | last : Nat → OT
def OT.size : OT → Nat
  | .nil => 0
  | .one _ _ t => t.size + 1
  | .fork _ t _ _ => t.size + 1
  | .last _ => 1
section
variable {P : Program} {r : Option Nat} {ops : Array Oper}
def LDK (P : Program) (r : Option Nat) (ops : Array Oper) (Q : Exit → Act → World → Prop) (D : World → Prop) : (World → Prop) → OT → Act → Prop
  | C, .nil, a => ∀ w, C w → Q .normal a w
  | C, .last i, a => ∀ w, C w → wpOpIn (Wd r) 0 P ops (Qn Q) i (Q .normal) a w
  | C, .fork i t j s, a => (∀ w, C w → wpOpIn (Wd r) 0 P ops (Qn Q) i (fun a' w' => ∃ C' : World → Prop, (∀ w, C' w → D w) ∧ C' w' ∧ LDK P r ops Q D C' t a') a w) ∧
      ∀ w, C w → wpOpIn (Wd r) 0 P ops (Qn Q) j (fun a' w' => ∃ C' : World → Prop, (∀ w, C' w → D w) ∧ C' w' ∧ LDK P r ops Q D C' s a') a w
  | C, .one i k l, a =>
    match ops[i]? with
    | none => False
    | some o =>
      match k with
      | 0 => ∃ v, YA P ops (fun _ => True) o v a ∧ LDK P r ops Q D C l (a.put o.dst v)
      | 1 => ∃ v, YA P ops D o v a ∧ LDK P r ops Q D C l (a.put o.dst v)
      | _ => ∀ w, C w → wpOpIn (Wd r) 0 P ops (Qn Q) i (fun a' w' => ∃ C' : World → Prop, (∀ w, C' w → D w) ∧ C' w' ∧ LDK P r ops Q D C' l a') a w
def chkK (ops : Array Oper) (z : Nat) : OT → Array Bool → Bool
  | .nil, listed => Region.ready .any ops listed == []
  | .last i, listed => Region.ready .any ops listed == [i] && (i == z) && decide (i < listed.size) && Region.ready .any ops (listed.setIfInBounds i true) == []
  | .fork i t j s, listed => Region.ready .any ops listed == [i, j] && t.size == s.size && (i != z) && (j != z) && chkK ops z t (listed.setIfInBounds i true) && chkK ops z s (listed.setIfInBounds j true)
  | .one i k l, listed =>
    (match k with
      | 0 => Region.free .any ops listed i && (Region.ready .any ops listed).contains i
      | 1 => Region.free .any ops listed i && (Region.ready .any ops listed).contains i && (decide (ops.size ≤ z) || depOf ops 40 z i)
      | _ => Region.ready .any ops listed == [i]) && (i != z) &&
    chkK ops z l (listed.setIfInBounds i true)
def isZ (z : Nat) : Nat → Bool := fun q => q == z
theorem ws_of_ldk {Q : Exit → Act → World → Prop} {D : World → Prop} {z : Nat} (hsel : Region.noSelect ops = true) (hnd : noDefer ops = true) :
    ∀ (l : OT) (C : World → Prop) (listed : Array Bool) (a : Act) (w : World), chkK ops z l listed = true → Closed ops listed → listed.getD z false = false → (∀ w, C w → D w) → C w → LDK P r ops Q D C l a → WS P r ops Q D (isZ z) l.size listed a w
  | .nil, C, listed, a, w, hc, _, _, hCD, hC, h => by
    simp only [chkK, beq_iff_eq] at hc
    exact ⟨fun _ => hCD w hC, hc, h w hC⟩
  | .last i, C, listed, a, w, hc, hcl, hz, hCD, hC, h => by
    simp only [chkK, Bool.and_eq_true, beq_iff_eq, decide_eq_true_eq] at hc
    obtain ⟨⟨⟨hr, rfl⟩, hlt⟩, hr2⟩ := hc
    simp only [LDK] at h
    refine ⟨fun _ => hCD w hC, fun h0 => (by rw [hr] at h0; cases h0), fun q hq => ?_⟩
    rw [hr] at hq
    obtain rfl : q = i := by simpa using hq
    exact wpOpIn_mono (fun a' w' hq' => ⟨fun ht => absurd (ht q (by simp [isZ])) (by simp [hlt]), hr2, hq'⟩) (h w hC)
  | .fork i t j s, C, listed, a, w, hc, hcl, hz, hCD, hC, h => by
    simp only [chkK, Bool.and_eq_true, beq_iff_eq, bne_iff_ne] at hc
    obtain ⟨⟨⟨⟨⟨hr, hsz⟩, hiz⟩, hjz⟩, hct⟩, hcs⟩ := hc
    simp only [LDK] at h
    refine ⟨fun _ => hCD w hC, fun h0 => (by rw [hr] at h0; cases h0), fun q hq => ?_⟩
    have hq' := hq
    rw [hr] at hq'
    simp only [List.mem_cons, List.not_mem_nil, or_false] at hq'
    rcases hq' with rfl | rfl
    · exact wpOpIn_mono (fun a' w' ⟨C', hsubC, hC', hl⟩ => ws_of_ldk hsel hnd t C' _ a' w' hct (hcl.set hq) (unlisted_set (Ne.symm hiz) hz) hsubC hC' hl) (h.1 w hC)
    · exact wpOpIn_mono (fun a' w' ⟨C', hsubC, hC', hl⟩ => by have := ws_of_ldk hsel hnd s C' _ a' w' hcs (hcl.set hq) (unlisted_set (Ne.symm hjz) hz) hsubC hC' hl; rw [← hsz] at this; exact this) (h.2 w hC)
  | .one i k l, C, listed, a, w, hc, hcl, hz, hCD, hC, h => by
    simp only [LDK] at h
    cases ho : ops[i]? with
    | none => rw [ho] at h; exact h.elim
    | some o =>
      rw [ho] at h
      simp only at h
      have hnd' : ∀ (j : Nat) (o : Oper), ops[j]? = some o → nd o.op = true := fun j o hj => (Array.all_eq_true_iff_forall_mem.1 hnd) o (Array.mem_of_getElem? hj)
      have hun : ∀ q, isZ z q = true → listed.getD q false = false := fun q hq => by unfold isZ at hq; rw [beq_iff_eq] at hq; subst hq; exact hz
      have hti : i ≠ z → isZ z i = false := fun h => beq_eq_false_iff_ne.2 h
      match k, h, hc with
      | 0, ⟨v, hy, hl⟩, hc =>
        simp only [chkK, Bool.and_eq_true, bne_iff_ne] at hc
        obtain ⟨⟨⟨hf, hr⟩, hiz⟩, hc⟩ := hc
        exact WS.first (tl := isZ z) ho (hti hiz) (Region.noSelect_spec hsel) hnd' (D := fun _ => True) (.inl fun _ => trivial) l.size listed a w hcl (hCD w hC) hun (Region.free_spec ho hf) (by simpa using hr) hy
          (ws_of_ldk hsel hnd l C _ _ w hc (hcl.set (by simpa using hr)) (unlisted_set (Ne.symm hiz) hz) hCD hC hl)
      | 1, ⟨v, hy, hl⟩, hc =>
        simp only [chkK, Bool.and_eq_true, bne_iff_ne, Bool.or_eq_true, decide_eq_true_eq] at hc
        obtain ⟨⟨⟨⟨hf, hr⟩, hdep⟩, hiz⟩, hc⟩ := hc
        exact WS.first (tl := isZ z) ho (hti hiz) (Region.noSelect_spec hsel) hnd' (D := D) (.inr ⟨fun _ h => h, fun j oj hj htj => by
            unfold isZ at htj; rw [beq_iff_eq] at htj; subst htj
            rcases hdep with hd | hd
            · have := (Array.getElem?_eq_some_iff.1 hj).1; omega
            · exact .inr hd⟩) l.size listed a w hcl (hCD w hC) hun (Region.free_spec ho hf) (by simpa using hr) hy
          (ws_of_ldk hsel hnd l C _ _ w hc (hcl.set (by simpa using hr)) (unlisted_set (Ne.symm hiz) hz) hCD hC hl)
      | k + 2, h, hc =>
        simp only [chkK, Bool.and_eq_true, beq_iff_eq, bne_iff_ne] at hc
        obtain ⟨⟨hr, hiz⟩, hc⟩ := hc
        refine ⟨fun _ => hCD w hC, fun h0 => (by rw [hr] at h0; cases h0), fun j hj => ?_⟩
        rw [hr] at hj
        obtain rfl : j = i := by simpa using hj
        exact wpOpIn_mono (fun a' w' ⟨C', hsubC, hC', hl⟩ => ws_of_ldk hsel hnd l C' _ a' w' hc (hcl.set (by rw [hr]; simp)) (unlisted_set (Ne.symm hiz) hz) hsubC hC' hl) (h w hC)
end
def OT.z (n : Nat) : OT → Nat
  | .nil => n
  | .one _ _ t => t.z n
  | .fork _ t _ _ => t.z n
  | .last i => i
def chkKAll (ops : Array Oper) (ord : OT) : Bool :=
  Region.noSelect ops && noDefer ops && (ord.size == ops.size) && chkK ops (ord.z ops.size) ord (Array.replicate ops.size false)
section
variable {P : Program} {r : Option Nat} {N : Nat} {Q : Exit → Act → World → Prop} {e : Env} {ds : List Nat} {M : Mem0} {S : Nat → Prop} {w0 : World} {G : World → Prop}
def KD (P : Program) (r : Option Nat) (N : Nat) (ops : Array Oper) (Q : Exit → Act → World → Prop) (MD : Mem0) (GD : World → Prop) (ord : OT) (e : Env) (ds : List Nat) (M : Mem0) (S : Nat → Prop) (w0 : World) (G : World → Prop) : Prop :=
  ∀ a, Fr N e a → Dm ds a → LDK P r ops Q (Cls MD S w0 GD) (Cls M S w0 G) ord a
theorem wpM.keep [GS G] {id : Nat} {ops : Array Oper} (MD : Mem0) (GD : World → Prop) (ord : OT) (hm : P.follows .mixedOrders = true) (hc : chkKAll ops ord = true) (hM : SubM M MD) (hG : ∀ w, G w → GD w) (h : KD P r N ops Q MD GD ord e ds M S w0 G) : wpM P r N (.region id ops true) Q e ds M S w0 G := fun w hw hcg hg a hf hd => by
  simp only [chkKAll, Bool.and_eq_true, beq_iff_eq] at hc
  obtain ⟨⟨⟨h1, h2⟩, h3⟩, h6⟩ := hc
  refine wpIn_mono (wpIn_region_any (Q := Qn Q) hm ?_) (fun x a w hq => ?_)
  · rw [← h3]
    exact WS.any _ _ a _ (ws_of_ldk h1 h2 ord _ _ a _ (h3 ▸ h6) (fun q o hq _ => by rw [Array.getD_eq_getD_getElem?, Array.getElem?_replicate] at hq; split at hq <;> cases hq) (by rw [Array.getD_eq_getD_getElem?, Array.getElem?_replicate]; split <;> rfl) (fun w hw => ⟨hM.mem w hw.1, hw.2.1, hG w hw.2.2⟩)
      ⟨hw.ext (Chg.drew no w), hcg.trans (Chg.drew S w), GS.ext w _ hg (Chg.drew no w)⟩ (h a hf hd))
  · cases x <;> first | exact hq | exact hq.elim
variable {ops : Array Oper} {l : OT} {op : Op} {ty : TypeId} {pos : String} {after : Array Edge} {d : Nat} {v : Value} {i : Nat} {MD : Mem0} {GD : World → Prop}
theorem KD.nil (h : QM N Q .normal e ds M S w0 G) : KD P r N ops Q MD GD .nil e ds M S w0 G := fun a hf hd w hw => h w hw.1 hw.2.1 hw.2.2 a hf hd
theorem KD.val {g : Option (Nat × Bool)} (hi : ops[i]? = some ⟨some d, op, ty, pos, after, g⟩) (hg : Wtd ops e g true) (hv : OpP P op ty e v) (h : KD P r N ops Q MD GD l ((d, v) :: e) ds M S w0 G) (hnd : nd op = true := by rfl) (hd : Nat.blt d N = true := by rfl) :
    KD P r N ops Q MD GD (.one i 0 l) e ds M S w0 G := fun a hf hdm => by
  simp only [LDK, hi]
  exact ⟨v, .inl ⟨hg.wanted hf, hnd, fun w _ => hv w a.eval (fun x u hx => hf.eval hx) _ _ _ _⟩, h _ (hf.put hd v) hdm⟩
theorem KD.rd {g : Option (Nat × Bool)} (hi : ops[i]? = some ⟨some d, op, ty, pos, after, g⟩) (hg : Wtd ops e g true) (hv : ∀ w, Mem w MD → OpV P op ty e w v w) (h : KD P r N ops Q MD GD l ((d, v) :: e) ds M S w0 G) (hnd : nd op = true := by rfl) (hd : Nat.blt d N = true := by rfl) :
    KD P r N ops Q MD GD (.one i 1 l) e ds M S w0 G := fun a hf hdm => by
  simp only [LDK, hi]
  exact ⟨v, .inl ⟨hg.wanted hf, hnd, fun w hw => hv w hw.1 a.eval (fun x u hx => hf.eval hx) _ _ _ _⟩, h _ (hf.put hd v) hdm⟩
theorem KD.rdC {g : Option (Nat × Bool)} (hi : ops[i]? = some ⟨some d, op, ty, pos, after, g⟩) (hg : Wtd ops e g true) (hv : ∀ w, Mem w MD → Chg S w0 w → GD w → OpV P op ty e w v w) (h : KD P r N ops Q MD GD l ((d, v) :: e) ds M S w0 G) (hnd : nd op = true := by rfl) (hd : Nat.blt d N = true := by rfl) :
    KD P r N ops Q MD GD (.one i 1 l) e ds M S w0 G := fun a hf hdm => by
  simp only [LDK, hi]
  exact ⟨v, .inl ⟨hg.wanted hf, hnd, fun w hw => hv w hw.1 hw.2.1 hw.2.2 a.eval (fun x u hx => hf.eval hx) _ _ _ _⟩, h _ (hf.put hd v) hdm⟩
theorem KD.dropU {g : Option (Nat × Bool)} {k : Nat} (hk : Nat.blt k 2 = true) (hi : ops[i]? = some ⟨some d, op, ty, pos, after, g⟩) (hg : Wtd ops e g false) (h : KD P r N ops Q MD GD l ((d, undef) :: e) ds M S w0 G) (hd : Nat.blt d N = true := by rfl) :
    KD P r N ops Q MD GD (.one i k l) e ds M S w0 G := fun a hf hdm => by
  have hY : ∀ D, YA P ops D ⟨some d, op, ty, pos, after, g⟩ undef a := fun D => .inr ⟨hg.wanted (o := ⟨some d, op, ty, pos, after, g⟩) hf, rfl⟩
  match k, hk with
  | 0, _ => simp only [LDK, hi]; exact ⟨undef, hY _, h _ (hf.put hd undef) hdm⟩
  | 1, _ => simp only [LDK, hi]; exact ⟨undef, hY _, h _ (hf.put hd undef) hdm⟩
theorem KD.drop {g : Option (Nat × Bool)} {k : Nat} (hk : Nat.blt k 2 = true) (hi : ops[i]? = some ⟨some d, op, ty, pos, after, g⟩) (hg : Wtd ops e g false) (h : KD P r N ops Q MD GD l e ds M S w0 G) (hd : Nat.blt d N = true := by rfl) (hfresh : look e d = none := by rfl) :
    KD P r N ops Q MD GD (.one i k l) e ds M S w0 G := .dropU hk hi hg (fun a hf hdm => h a ⟨hf.1, fun t u hu => hf.2 t u (by
      rw [look_cons]
      by_cases hdt : d = t
      · subst hdt; rw [hfresh] at hu; cases hu
      · rw [if_neg hdt]; exact hu)⟩ hdm) hd
theorem KD.splitD {t : Nat} {p : Prop} [Decidable p] (ht : look e t = some (.bool (decide p))) (h1 : p → KD P r N ops Q MD GD l ((t, .bool true) :: e) ds M S w0 G) (h2 : ¬ p → KD P r N ops Q MD GD l ((t, .bool false) :: e) ds M S w0 G) :
    KD P r N ops Q MD GD l e ds M S w0 G := fun a hf hdm => by
  by_cases hp : p
  · exact h1 hp a (hf.know ht (decide_eq_true hp)) hdm
  · exact h2 hp a (hf.know ht (decide_eq_false hp)) hdm
theorem KD.splitB {t : Nat} {b : Bool} (ht : look e t = some (.bool b)) (h1 : b = true → KD P r N ops Q MD GD l ((t, .bool true) :: e) ds M S w0 G) (h2 : b = false → KD P r N ops Q MD GD l ((t, .bool false) :: e) ds M S w0 G) :
    KD P r N ops Q MD GD l e ds M S w0 G := fun a hf hdm => by
  cases hb : b with
  | true => exact h1 hb a (hf.know ht hb) hdm
  | false => exact h2 hb a (hf.know ht hb) hdm
theorem wpIn_mono2 {F : Fence} {n : Nat} {o : Oper} {a : Act} {w : World} {K K' : Act → World → Prop} {Q Q' : Exit → Act → World → Prop} (h : ∀ a w, K a w → K' a w) (hQ : ∀ c a w, Q (.panic c) a w → Q' (.panic c) a w) (hL : LetsOut Q → LetsOut Q')
    (hh : o.wpIn F n P a w K Q) : o.wpIn F n P a w K' Q' := by
  unfold Oper.wpIn at *
  refine ⟨hh.1, ?_⟩
  have hh := hh.2
  generalize (o.semAt F.round a.eval).run P w = r at *
  cases r with
  | ok x w' =>
    cases x <;> simp only [Oper.uponIn] at hh ⊢ <;>
      first
        | exact h _ _ hh
        | exact ⟨hh.1, CallsIn.mono hh.2 (fun e w'' he => by cases e <;> first | exact h _ _ he | exact hQ _ _ _ he | exact hL he)⟩
        | exact ⟨hh.1, RowsIn.mono hh.2 (fun _ _ he => h _ _ he)⟩
        | exact ⟨hh.1, RoundIn.mono hh.2 (fun e w'' he => by cases e <;> first | exact h _ _ he | exact hQ _ _ _ he | exact hL he)⟩
  | halt x w' => cases x <;> simp only [Oper.uponIn] at hh ⊢ <;> first | exact hQ _ _ _ hh | exact hh
def KQ (P : Program) (r : Option Nat) (N : Nat) (ops : Array Oper) (Q : Exit → Act → World → Prop) (D : World → Prop) (l : OT) : Exit → Act → World → Prop := fun x a w => x = .normal ∧ ∃ C' : World → Prop, (∀ w, C' w → D w) ∧ C' w ∧ LDK P r ops Q D C' l a
theorem KD.one {o : Oper} {k : Nat} (ho : ops[i]? = some o) (h : LM P r N ops (KQ P r N ops Q (Cls MD S w0 GD) l) [o] e ds M S w0 G) : KD P r N ops Q MD GD (.one i (k + 2) l) e ds M S w0 G := fun a hf hdm => by
  simp only [LDK, ho]
  intro w hw
  have h3 := h w hw.1 hw.2.1 hw.2.2 a hf hdm
  unfold wpOpIn
  rw [ho]
  unfold wpListIn at h3
  simp only
  split
  · rename_i hq; rw [if_pos hq] at h3
    exact wpIn_mono2 (fun a w h => h.2) (fun c a w h => by cases h.1) (fun ⟨a, w, h⟩ => by cases h.1) h3
  · rename_i hq; rw [if_neg hq] at h3
    exact ⟨fun _ _ => trivial, h3.2.2⟩
theorem KD.last {o : Oper} (ho : ops[i]? = some o) (h : LM P r N ops (Qn Q) [o] e ds M S w0 G) : KD P r N ops Q MD GD (.last i) e ds M S w0 G := fun a hf hdm => by
  simp only [LDK]
  intro w hw
  have h3 := h w hw.1 hw.2.1 hw.2.2 a hf hdm
  unfold wpOpIn
  rw [ho]
  unfold wpListIn at h3
  simp only
  split
  · rename_i hq; rw [if_pos hq] at h3; exact Oper.wpIn_mono (fun a w h => h) h3
  · rename_i hq; rw [if_neg hq] at h3; exact h3
theorem KD.fork {o o2 : Oper} {j : Nat} {s : OT} (ho : ops[i]? = some o) (ho2 : ops[j]? = some o2) (h : LM P r N ops (KQ P r N ops Q (Cls MD S w0 GD) l) [o] e ds M S w0 G) (h2 : LM P r N ops (KQ P r N ops Q (Cls MD S w0 GD) s) [o2] e ds M S w0 G) : KD P r N ops Q MD GD (.fork i l j s) e ds M S w0 G := fun a hf hdm => by
  have k1 := KD.one (k := 0) ho h a hf hdm
  have k2 := KD.one (k := 0) ho2 h2 a hf hdm
  simp only [LDK, ho] at k1
  simp only [LDK, ho2] at k2
  simp only [LDK]
  exact ⟨k1, k2⟩
theorem QM.one (hM : SubM M MD) (hG : ∀ w, G w → GD w) (h : KD P r N ops Q MD GD l e ds M S w0 G) : QM N (KQ P r N ops Q (Cls MD S w0 GD) l) .normal e ds M S w0 G := fun w hm hc hg a hf hd =>
  ⟨rfl, Cls M S w0 G, fun w hw => ⟨hM.mem w hw.1, hw.2.1, hG w hw.2.2⟩, ⟨hm, hc, hg⟩, h a hf hd⟩
end
end Go.Eng
namespace Go.Eng
open Go Go.RowKit
abbrev bs (l : List UInt8) : ByteArray := ⟨l.toArray⟩
abbrev vS (l : List UInt8) : Value := .string (bs l)
theorem bs_size (l : List UInt8) : (bs l).size = l.length := by rw [Lib.size_eq]
theorem bs_list (l : List UInt8) : (bs l).toList = l := by rw [Lib.toList_data]
section
variable {P : Program} {ty : TypeId} {e : Env} {t u : TypeId} {x y lo hi : Operand} {l a b : List UInt8}
theorem ov_slenL (ht : P.underlying t = some .string) (hx : ev e x = some (vS l)) : OpP P (.call { callee := .builtin .len, args := #[x], argTypes := #[t] }) ty e (.int .i64 l.length) := by
  have := ov_slen (P := P) (ty := ty) ht hx; rwa [bs_size] at this
theorem beq_dec (a b : List UInt8) : (a == b) = decide (a = b) := by rw [Bool.eq_iff_iff]; simp
theorem ov_seqlL (hx : ev e x = some (vS a)) (hy : ev e y = some (vS b)) : OpP P (.binOp .eql t x y u) ty e (.bool (decide (a = b))) := by
  have := ov_seql (P := P) (ty := ty) (t := t) (u := u) hx hy; rwa [bs_list, bs_list, beq_dec] at this
theorem ov_sneqL (hx : ev e x = some (vS a)) (hy : ev e y = some (vS b)) : OpP P (.binOp .neq t x y u) ty e (.bool (decide (a ≠ b))) := by
  have := ov_sneq (P := P) (ty := ty) (t := t) (u := u) hx hy; rw [bs_list, bs_list, beq_dec] at this
  rwa [show (!decide (a = b)) = decide (a ≠ b) by rw [decide_not]] at this
theorem ov_sidxL {k : IntKind} {i : Int} (ht : P.underlying t = some .string) (hx : ev e x = some (vS l)) (hy : ev e y = some (.int k i)) (h : 0 ≤ i ∧ i < l.length) : OpP P (.index t x y) ty e (.int .u8 ((l.getD i.toNat 0).toNat : Nat)) := fun w ρ hρ _ _ _ _ => by
  have h2 : (bs l)[i.toNat]? = some (l.getD i.toNat 0) := by
    have hlt : i.toNat < l.length := by omega
    rw [getElem?_pos (bs l) i.toNat (by rw [bs_size]; exact hlt), List.getD_eq_getElem?_getD, List.getElem?_eq_getElem hlt]
    rfl
  simp only [execOp, Instr.index, asIntOf, hρ x _ hx, hρ y _ hy, Sem.run_bind, Sem.run_pure, Result.andThen, run_underlying ht, if_pos h.1, h2, Sem.run_map]
theorem ov_sidxN {k : IntKind} {i : Nat} (ht : P.underlying t = some .string) (hx : ev e x = some (vS l)) (hy : ev e y = some (.int k (i : Nat))) (h : i < l.length) : OpP P (.index t x y) ty e (.int .u8 ((l.getD i 0).toNat : Nat)) := by
  have := ov_sidxL (P := P) (ty := ty) ht hx hy (by omega); simpa using this
theorem ov_sslcL {k k' : IntKind} {i j : Int} (ht : P.underlying t = some .string) (hx : ev e x = some (vS l)) (hl : ev e lo = some (.int k i)) (hh : ev e hi = some (.int k' j)) (h1 : 0 ≤ i) (h2 : i ≤ j) (h3 : j ≤ l.length) :
    OpP P (.slice t x (some lo) (some hi) none) ty e (vS ((l.drop i.toNat).take (j.toNat - i.toNat))) := fun w ρ hρ _ _ _ _ => by
  have a1 : 0 ≤ j ∧ j ≤ ((bs l).size : Int) := by rw [bs_size]; omega
  have a2 : 0 ≤ i ∧ i ≤ ((j.toNat : Nat) : Int) := by omega
  have h4 : (bs l).extract i.toNat j.toNat = bs ((l.drop i.toNat).take (j.toNat - i.toNat)) := Lib.extract_eq _ _ _
  simp only [execOp, Instr.sliceAt, Instr.slice, Instr.sliceBounds, Instr.sliceBound, asIntOf, hρ x _ hx, hρ lo _ hl, hρ hi _ hh, Sem.run_bind, Sem.run_pure, Result.andThen, run_underlying ht, Option.map_some, Option.map_none, if_pos a1, if_pos a2, h4, Option.isSome_none, Bool.false_eq_true, if_false, Sem.run_map]
theorem ov_saddL (hx : ev e x = some (vS a)) (hy : ev e y = some (vS b)) (h : a.length + b.length ≤ 9223372036854775807) : OpP P (.binOp .add t x y u) ty e (vS (a ++ b)) := fun w ρ hρ _ _ _ _ => by
  have h2 : (bs a) ++ (bs b) = bs (a ++ b) := by
    apply ByteArray.ext; simp
  simp [execOp, hρ x _ hx, hρ y _ hy, guard_str, binOp, Op.stringOp, Result.andThen, h2]
  rw [if_neg (by rw [bs_size, bs_size]; omega)]
theorem ov_toU8 {s d : TypeId} {k : IntKind} {n : Int} (hs : P.underlying s = some (.int k)) (hd : P.underlying d = some (.int .u8)) (hx : ev e x = some (.int k n)) (h : 0 ≤ n ∧ n ≤ 255) : OpP P (.convert s d x) ty e (.int .u8 n) := by
  have := ov_conv (P := P) (ty := ty) hs hd hx
  rwa [show IntKind.u8.wrap n = n by simp only [IntKind.signed, IntKind.bits, IntKind.wrap]; simp; omega] at this
theorem om_str1 {M M2 : Mem0} {src dst el E b : Nat} {n : Int} {c cap : Nat} {fz : Nat × Nat} {cs : Array Value} (hs : P.underlying src = some (.slice el)) (he : P.underlying el = some (.int .u8)) (hd : P.underlying dst = some .string)
    (hx : ev e x = some (.slice (some ⟨b, 0, none⟩) 1 cap)) [h : Fnd M b (.cells cs E fz) M2] (hc : cs[0]? = some (.int .u8 n)) (hn : 0 ≤ n ∧ n ≤ 255) : ∀ w, Mem w M → OpV P (.convert src dst x) ty e w (vS [UInt8.ofNat n.toNat]) w := fun w hm ρ hρ _ _ _ _ => by
  have h1 := h.get hm
  have h2 : ((UInt8.ofNat n.toNat).toNat : Int) = n := by simp; omega
  have h3 := run_convert_bytes_back (P := P) w src dst el ⟨b, 0, none⟩ cap [UInt8.ofNat n.toNat] hs he hd (fun j hj => by
    simp only [List.length_singleton] at hj
    obtain rfl : j = 0 := by omega
    simp only [List.getElem_cons_zero, h2]
    simp [World.cell?, Addr.add, h1, hc])
  simp only [List.length_singleton] at h3
  simp [execOp, hρ x _ hx, h3, Result.andThen]
end
end Go.Eng
namespace Go.Eng
open Go Go.RowKit
def Bld (T e n0 b : Nat) (l : List UInt8) (m : Mem0) : Prop :=
  n0 ≤ b ∧ ∃ p v, (p = Value.pointer none ∨ p = Value.pointer (some ⟨b, 0, none⟩)) ∧
    ((v = Value.slice none 0 0 ∧ l = [] ∧ m = [(b, .cells #[p, v] T (0, 0))]) ∨
     ∃ g cap cur fz, v = Value.slice (some ⟨g, 0, none⟩) l.length cap ∧ n0 ≤ g ∧ g ≠ b ∧ m = [(b, .cells #[p, v] T (0, 0)), (g, .cells cur e fz)] ∧ fz.2 ≤ l.length ∧ l.length ≤ cap ∧ cap ≤ maxLen ∧ cur.size = cap ∧ cur.toList.take l.length = Lib.byteCells l)
theorem Bld.new {T e n0 b : Nat} (h : n0 ≤ b) : Bld T e n0 b [] [(b, .cells #[.pointer none, .slice none 0 0] T (0, 0))] := ⟨h, _, _, .inl rfl, .inl ⟨rfl, rfl, rfl⟩⟩
theorem Bld.is {T e n0 b : Nat} {l : List UInt8} {m : Mem0} {w : World} (h : Bld T e n0 b l m) (hm : Mem w m) : Lib.IsBuilderF T e n0 b (Lib.byteCells l) w := by
  obtain ⟨hb, p, v, hp, h⟩ := h
  have key : Lib.BuilderAtF T e n0 b p (Lib.byteCells l) w := by
    rcases h with ⟨rfl, rfl, rfl⟩ | ⟨g, cap, cur, fz, rfl, hg, hgb, rfl, h1, h2, h3, h4, h5⟩
    · exact ⟨hb, _, hm.get (i := 0) rfl, ⟨rfl, .inl ⟨rfl, rfl⟩⟩, by simp [Value.ownBlock]⟩
    · refine ⟨hb, _, hm.get (i := 0) rfl, ⟨by simp [Lib.byteCells_length], .inr ⟨g, cap, cur, fz, by rw [Lib.byteCells_length], hg, hm.get (i := 1) rfl, ?_⟩⟩, by simp [Value.ownBlock]; exact hgb⟩
      rw [Lib.byteCells_length, Nat.mul_one, Nat.mul_one]; exact ⟨h1, h2, h3, h4, h5⟩
  rcases hp with rfl | rfl
  · exact .inl key
  · exact .inr key
theorem Bld.of {T e n0 b : Nat} {l : List UInt8} {w : World} (h : Lib.IsBuilderF T e n0 b (Lib.byteCells l) w) : ∃ m, Bld T e n0 b l m ∧ Mem w m ∧ ∀ p ∈ m, p.1 = b ∨ ∃ cur fz, p.2 = .cells cur e fz := by
  obtain ⟨p, hp, h⟩ : ∃ p, (p = Value.pointer none ∨ p = Value.pointer (some ⟨b, 0, none⟩)) ∧ Lib.BuilderAtF T e n0 b p (Lib.byteCells l) w := by
    rcases h with h | h
    · exact ⟨_, .inl rfl, h⟩
    · exact ⟨_, .inr rfl, h⟩
  obtain ⟨hb, v, h1, ⟨_, h2⟩, h3⟩ := h
  rw [Lib.byteCells_length, Nat.mul_one] at h2
  rcases h2 with ⟨rfl, h0⟩ | ⟨g, cap, cur, fz, rfl, hg, h4, h5, h6, h7, h8, h9⟩
  · have : l = [] := List.eq_nil_of_length_eq_zero h0
    subst this
    refine ⟨_, ⟨hb, p, _, hp, .inl ⟨rfl, rfl, rfl⟩⟩, ⟨by simp, fun q hq => ?_⟩, fun q hq => ?_⟩
    · rw [List.mem_singleton] at hq; subst hq; exact h1
    · rw [List.mem_singleton] at hq; subst hq; exact .inl rfl
  · have hgb : g ≠ b := fun q => h3 (by simp [Value.ownBlock, q])
    refine ⟨_, ⟨hb, p, _, hp, .inr ⟨g, cap, cur, fz, rfl, hg, hgb, rfl, h5, h6, h7, by omega, h9⟩⟩, ⟨by simp; exact fun q => hgb q.symm, fun q hq => ?_⟩, fun q hq => ?_⟩
    · simp only [List.mem_cons, List.not_mem_nil, or_false] at hq
      rcases hq with rfl | rfl
      · exact h1
      · exact h4
    · simp only [List.mem_cons, List.not_mem_nil, or_false] at hq
      rcases hq with rfl | rfl
      · exact .inl rfl
      · exact .inr ⟨_, _, rfl⟩
def NoRow (e : Nat) (M : Mem0) : Prop := ∀ p ∈ M, ∀ c fz, p.2 ≠ .cells c e fz
theorem nr_nil {e : Nat} : NoRow e [] := fun p h => by cases h
theorem nr_cons {e b : Nat} {o : Obj} {M : Mem0} (h : ∀ c fz, o ≠ .cells c e fz) (k : NoRow e M) : NoRow e ((b, o) :: M) := fun p hp => by
  rcases List.mem_cons.1 hp with rfl | hp
  · exact h
  · exact k p hp
section
variable {P : Program} {r : Option Nat} {N : Nat} {Q : Exit → Act → World → Prop} {e : Env} {ds : List Nat} {M : Mem0} {S : Nat → Prop} {w0 : World} {G : World → Prop}
variable {ops : Array Oper} {l : List Oper} {op : Op} {ty : TypeId} {pos : String} {after : Array Edge} {d : Nat}
theorem LM.cB {T u b : Nat} {s s' : List UInt8} {m M2 : Mem0} {f : FuncId} {args : Array Value} {v : Value} (hB : Bld T u w0.heap.size b s m) [hM : Spl M m M2] (hG : ∀ w, G w) (hr : NoRow u M2) (hc : ∀ w, OpC P op ty e w f args)
    (h : ∀ w, Lib.IsBuilderF T u w0.heap.size b (Lib.byteCells s) w → w0.heap.size ≤ w.heap.size → Calls P f args w (fun en w' => en = .returned v ∧ (Lib.IsBuilderF T u w0.heap.size b (Lib.byteCells s') w' ∧ Below w0.heap.size w w' ∧ Lib.OthersKept u (some b) w w')))
    (hk : ∀ m', Bld T u w0.heap.size b s' m' → LM P r N ops Q l ((d, v) :: e) ds (m' ++ M2) S w0 G) (hnd : nd op = true := by rfl) (hd : Nat.blt d N = true := by rfl) :
    LM P r N ops Q (⟨some d, op, ty, pos, after, none⟩ :: l) e ds M S w0 G :=
  .call (R := fun w v' w' => v' = v ∧ (Lib.IsBuilderF T u w0.heap.size b (Lib.byteCells s') w' ∧ Below w0.heap.size w w' ∧ Lib.OthersKept u (some b) w w')) hc
    (fun w hm hcg hg => (h w (hB.is (hM.mem hm)) hcg.size).mono (fun en w' ⟨h1, h2⟩ => ⟨v, h1, rfl, h2⟩))
    (fun w v' w' hm hcg hg ⟨hv, hi, hbl, hok⟩ => by
      subst hv
      obtain ⟨m', hB', hm', hrow⟩ := Bld.of hi
      have hmm := hm.perm hM.perm
      have hbm : ∃ q ∈ m, q.1 = b := by
        obtain ⟨_, p, v, _, h3⟩ := hB
        rcases h3 with ⟨_, _, rfl⟩ | ⟨g, cap, cur, fz, _, _, _, rfl, _⟩
        · exact ⟨_, List.mem_singleton.2 rfl, rfl⟩
        · exact ⟨_, List.mem_cons_self .., rfl⟩
      have hnb : ∀ q ∈ M2, q.1 ≠ b := fun q hq hqb => by
        obtain ⟨p, hp, hpb⟩ := hbm
        have hnd := hmm.1
        rw [List.map_append, List.nodup_append] at hnd
        exact hnd.2.2 _ (List.mem_map_of_mem hp) _ (List.mem_map_of_mem hq) (hpb.trans hqb.symm)
      have h2 : ∀ q ∈ M2, w'.heap[q.1]? = some q.2 := fun q hq => hok q.1 q.2 (hmm.2 q (List.mem_append_right _ hq)) (fun he => hnb q hq (Option.some.inj he)) (hr q hq)
      have hnd2 := hmm.1
      rw [List.map_append, List.nodup_append] at hnd2
      have hfin : Mem w' (m' ++ M2) := by
        refine ⟨?_, fun q hq => ?_⟩
        · rw [List.map_append, List.nodup_append]
          refine ⟨hm'.1, hnd2.2.1, ?_⟩
          intro x hx y hy hxy
          obtain ⟨p, hp, rfl⟩ := List.mem_map.1 hx
          obtain ⟨q, hq, rfl⟩ := List.mem_map.1 hy
          rcases hrow p hp with h3 | ⟨cur, fz, h3⟩
          · exact hnb q hq (by rw [← hxy, h3])
          · have h4 := hm'.2 p hp
            rw [hxy, h2 q hq, h3] at h4
            exact hr q hq _ _ (Option.some.inj h4)
        · rcases List.mem_append.1 hq with hq | hq
          · exact hm'.2 q hq
          · exact h2 q hq
      exact hk m' hB' w' hfin ⟨hbl.os.trans hcg.os, hbl.tape.trans hcg.tape, hbl.output.trans hcg.output, Nat.le_trans hcg.size hbl.size, fun k hk1 hk2 => (hbl.block k hk1).trans (hcg.block k hk1 hk2)⟩ (hG w')) hnd hd
end
end Go.Eng
namespace Go.Eng
open Go Go.RowKit
theorem run_append_empty {P : Program} (w : World) (t ty E : TypeId) (inf : TypeInfo) (hU : P.underlying t = some (.slice E)) (hI : P.info? E = some inf) (base ad : Option Addr) (n cap cy : Nat) (h : n ≤ cap) :
    (Builtin.append_ #[t, t] ty #[.slice base n cap, .slice ad 0 cy]).run P w = .ok (.slice base n cap) w := by
  have hf : (Builtin.firstCells inf.size 0 (.slice ad 0 cy)).run P w = .ok #[] w := by
    cases ad with
    | none => simp [Builtin.firstCells]
    | some a => exact run_firstCells_some w inf.size 0 a 0 cy [] (by simp) (fun j v hj => by simp at hj)
  have hs : (sizeOf E).run P w = .ok inf.size w := by simp [sizeOf, typeInfo, hI]
  cases base with
  | none => simp [Builtin.append_, run_underlying hU, hs, Builtin.lenOf, hf, h]
  | some b => simp [Builtin.append_, run_underlying hU, hs, Builtin.lenOf, hf, h, storeCells]
theorem flat_cells {α : Type} {f : α → List Value} {s : Nat} (hf : ∀ a, (f a).length = s) (hs : 0 < s) {ys : List α} {j : Nat} {u : Value} (h : (ys.flatMap f)[j]? = some u) : ∃ i a k, ys[i]? = some a ∧ k < s ∧ j = i * s + k ∧ (f a)[k]? = some u := by
  have hj : j < ys.length * s := by
    have := (List.getElem?_eq_some_iff.1 h).1
    rwa [flatMap_len hf] at this
  have hi : j / s < ys.length := (Nat.div_lt_iff_lt_mul hs).2 hj
  have e : j = j / s * s + j % s := by rw [Nat.mul_comm]; exact (Nat.div_add_mod j s).symm
  have hk : j % s < s := Nat.mod_lt _ hs
  refine ⟨j / s, ys[j / s], j % s, List.getElem?_eq_getElem hi, hk, e, ?_⟩
  rw [← flatMap_get hf ys (j / s) (j % s) _ (List.getElem?_eq_getElem hi) hk, ← e]; exact h
section
variable {P : Program} {r : Option Nat} {N : Nat} {Q : Exit → Act → World → Prop} {e : Env} {ds : List Nat} {M : Mem0} {S : Nat → Prop} {w0 : World} {G : World → Prop}
variable {ops : Array Oper} {l : List Oper} {ty : TypeId} {pos : String} {after : Array Edge} {d : Nat} {x y : Operand} {t : TypeId}
theorem LM.appN [GT G] {α : Type} {f : α → List Value} {E s n0 : Nat} {inf : TypeInfo} {z : Value} {xs ys : List α} {v : Value} {m M2 : Mem0} {ad : Option Addr} {ny c : Nat}
    (hU : P.underlying t = some (.slice E)) (hI : ∀ w, (typeInfo E).run P w = .ok inf w) (hz : inf.zero = some z) (hs : inf.size = s) (hs0 : Nat.blt 0 s = true) (hzs : z.cells.size = s) (hd : Nat.blt d N = true)
    (hx : ev e x = some v) (hy : ev e y = some (.slice ad ny c)) (hsl : Sl f E s n0 xs v m) [h2 : Spl M m M2] (hr : ∀ w, Mem w M → Chg S w0 w → G w → Sr f s ys (.slice ad ny c) w)
    (hf : ∀ a, (f a).length = s) (hone : ∀ a, ∀ u ∈ f a, one u = true) (hn0 : n0 ≤ w0.heap.size) (hSm : ∀ p ∈ m, p.1 < w0.heap.size → S p.1) (hlen : xs.length + ys.length ≤ maxLen) (hbytes : (xs.length + ys.length) * inf.bytes ≤ 140737488355328)
    (h : ∀ ad n cap m', n = xs.length + ys.length → Sl f E s n0 (xs ++ ys) (.slice ad n cap) m' → (∀ p ∈ m', w0.heap.size ≤ p.1 ∨ ∃ q ∈ m, q.1 = p.1) → LM P r N ops Q l ((d, .slice ad n cap) :: e) ds (m' ++ M2) S w0 G) :
    LM P r N ops Q (⟨some d, .call { callee := .builtin .append, args := #[x, y], argTypes := #[t, t] }, ty, pos, after, none⟩ :: l) e ds M S w0 G := fun w hm hc hg => by
  have hs0 : 0 < s := Nat.le_of_ble_eq_true hs0
  have hinf := info_of hI
  have hsr := hr w hm hc hg
  have hm2 : Mem w (m ++ M2) := hm.perm h2.perm
  obtain ⟨rfl, -, hop⟩ := hsr.open
  have h' : ∀ v' m', Sl f E s n0 (xs ++ ys) v' m' → (∀ p ∈ m', w0.heap.size ≤ p.1 ∨ ∃ q ∈ m, q.1 = p.1) → LM P r N ops Q l ((d, v') :: e) ds (m' ++ M2) S w0 G := fun v' m' hsl' hin => by
    obtain ⟨ad, cap, rfl⟩ := hsl'.form
    exact h ad _ cap m' (by simp) hsl' hin
  have step : ∀ (v' : Value) (w' : World), (Builtin.append_ #[t, t] ty #[v, .slice ad ys.length c]).run P w = .ok v' w' → 
      (LE P r N ops Q l ((d, v') :: e) ds w') → LE P r N ops Q (⟨some d, .call { callee := .builtin .append, args := #[x, y], argTypes := #[t, t] }, ty, pos, after, none⟩ :: l) e ds w := fun v' w' hr hl =>
    LE.val (fun ρ hρ _ _ _ _ => by simp [execOp, resolve, invoke, builtin, hρ x _ hx, hρ y _ hy, hr, Result.andThen]) hl rfl hd
  by_cases hy0 : ys.length = 0
  · obtain rfl : ys = [] := List.eq_nil_of_length_eq_zero hy0
    have hv : ∃ b n cp, v = .slice b n cp ∧ n ≤ cp := by
      rcases hsl with ⟨rfl, _, _⟩ | ⟨b, cap, junk, _, rfl, _, hle, _, _⟩
      · exact ⟨_, _, _, rfl, Nat.le_refl _⟩
      · exact ⟨_, _, _, rfl, hle⟩
    obtain ⟨b, n, cp, rfl, hle⟩ := hv
    exact step _ _ (run_append_empty w t ty E inf hU hinf b ad n cp c hle) (h' _ m (by simpa using hsl) (fun p hp => .inr ⟨p, hp, rfl⟩) w hm2 hc hg)
  obtain ⟨bx, off, cs, F, fz, rfl, hbx, hcs⟩ := hop (by omega)
  have hfl : (ys.flatMap f).length = ys.length * inf.size := by rw [flatMap_len hf, hs]
  have hnews : ∀ j u, (ys.flatMap f)[j]? = some u → w.cell? ((⟨bx, off, none⟩ : Addr).add j) = some u := fun j u hj => by
    obtain ⟨i, a, k, h1, h2, h3, h4⟩ := flat_cells hf hs0 hj
    have := hcs i a h1 k h2
    rw [← h3, h4] at this
    rw [Addr.add_lit]; simp [World.cell?, hbx]; exact this
  have hone' : ∀ u ∈ ys.flatMap f, one u = true := fun u hu => by
    obtain ⟨a, _, hu⟩ := List.mem_flatMap.1 hu
    exact hone a u hu
  rcases hsl with ⟨rfl, rfl, rfl⟩ | ⟨b, cap, junk, hb, rfl, rfl, hle, hmax, hsz⟩
  · -- nil
    simp only [List.length_nil, Nat.zero_add] at hlen hbytes
    have hr := run_append_nil (P := P) w t ty E inf z hU hinf hz ⟨bx, off, none⟩ ys.length c (ys.flatMap f) hfl hnews (by omega) (by unfold maxLen at hlen; omega) (by omega)
    refine step _ _ hr ?_
    obtain ⟨k, hk, hk1⟩ : ∃ k, grownCap w ys.length 0 E = k ∧ ys.length ≤ k ∧ k ≤ maxLen := ⟨_, rfl, grownCap_ge w _ 0 E, grownCap_le_maxLen w _ 0 E hlen⟩
    rw [hk]
    refine h' _ [(w.heap.size, .cells (arr f ([] ++ ys) (Builtin.zeroCells z.cells (k - ys.length)).toList) E (0, 0))] (.inr ⟨w.heap.size, k, (Builtin.zeroCells z.cells (k - ys.length)).toList, Nat.le_trans hn0 hc.size, rfl, rfl, by simpa using hk1.1, hk1.2, ?_⟩) (fun p hp => by rw [List.mem_singleton] at hp; subst hp; exact .inl hc.size) _ ?_ ?_ ?_
    · simp only [List.nil_append, Array.length_toList, size_zeroCells, hzs]
      rw [Nat.sub_mul]; have : ys.length * s ≤ k * s := Nat.mul_le_mul_right _ hk1.1
      omega
    · have e1 : (Obj.cells ((ys.flatMap f).toArray ++ Builtin.zeroCells z.cells (k - ys.length)) E) = .cells (arr f ([] ++ ys) (Builtin.zeroCells z.cells (k - ys.length)).toList) E (0, 0) := by
        congr 1; apply Array.ext'; simp [arr]
      rw [e1]
      exact (hm2.ext (Chg.drew no w)).alloc _
    · exact (hc.step (Chg.drew no w) (fun _ _ q => q.elim)).step (chg_alloc w.drew _) (fun _ _ q => q.elim)
    · exact GS.ext w.drew _ (GS.ext w _ hg (Chg.drew no w)) (chg_alloc w.drew _)
  · have hbw := hm2.get (i := 0) rfl
    have hsize : (arr f xs junk).size = cap * s := by simp [arr, flatMap_len hf, hsz]
    by_cases hroom : xs.length + ys.length ≤ cap
    · have hmul : (xs.length + ys.length) * s ≤ cap * s := Nat.mul_le_mul_right _ hroom
      rw [Nat.add_mul] at hmul
      have hr := run_append_room (P := P) w t ty E inf hU hinf b xs.length cap (arr f xs junk) hbw ⟨bx, off, none⟩ ys.length c (ys.flatMap f) hfl hnews (fun u hu => hone' u hu) hroom (by rw [hs, flatMap_len hf, hsize]; exact hmul)
      refine step _ _ hr ?_
      rw [hs, flatMap_len hf]
      have e1 : (((arr f xs junk).toList.take (xs.length * s) ++ ys.flatMap f ++ (arr f xs junk).toList.drop (xs.length * s + ys.length * s)).toArray) = arr f (xs ++ ys) (junk.drop (ys.length * s)) := by
        apply Array.ext'
        have hl := flatMap_len hf xs
        simp only [arr, List.flatMap_append]
        rw [← hl, List.take_left, List.drop_append, List.drop_eq_nil_of_le (by omega), List.nil_append, Nat.add_sub_cancel_left]
      rw [e1]
      have hset : (w.setRow b (arr f (xs ++ ys) (junk.drop (ys.length * s)))).heap[b]? = some (.cells (arr f (xs ++ ys) (junk.drop (ys.length * s))) E (0, 0)) := by
        obtain ⟨hlt, hk⟩ := Array.getElem?_eq_some_iff.1 hbw
        show (w.heap.modify b _)[b]? = _
        rw [Array.getElem?_eq_getElem (by rw [Array.size_modify]; exact hlt), Array.getElem_modify_self, hk]
      have hchg : Chg (fun x => x = b) w (w.setRow b (arr f (xs ++ ys) (junk.drop (ys.length * s)))) := ⟨rfl, rfl, rfl, by simp [World.setRow], fun k _ hn => by
        simp only [World.setRow, Array.getElem?_modify]; rw [if_neg (Ne.symm hn)]⟩
      refine h' _ [(b, .cells (arr f (xs ++ ys) (junk.drop (ys.length * s))) E (0, 0))] (.inr ⟨b, cap, junk.drop (ys.length * s), hb, by simp, rfl, by simpa using hroom, hmax, ?_⟩) (fun p hp => by rw [List.mem_singleton] at hp; subst hp; exact .inr ⟨_, List.mem_singleton.2 rfl, rfl⟩) _ ?_ ?_ ?_
      · simp only [List.length_append, List.length_drop, Nat.add_mul]; omega
      · exact hm2.set (i := 0) rfl hset hchg
      · exact hc.step hchg (fun k hk hkb => by subst hkb; exact hSm _ (List.mem_singleton.2 rfl) hk)
      · exact GT.chg _ w _ hg hchg (.one hchg hbw rfl)
    · have holds : ∀ j u, (xs.flatMap f)[j]? = some u → w.cell? ((⟨b, 0, none⟩ : Addr).add j) = some u := fun j u hj => by
        have hj2 : j < (xs.flatMap f).length := (List.getElem?_eq_some_iff.1 hj).1
        rw [add_off]; simp [World.cell?, hbw, arr, List.getElem?_append_left hj2, hj]
      have hr := run_append_grow (P := P) w t ty E inf z hU hinf hz ⟨b, 0, none⟩ xs.length cap (xs.flatMap f) (by rw [flatMap_len hf, hs]) holds ⟨bx, off, none⟩ ys.length c (ys.flatMap f) hfl hnews (by omega) (by unfold maxLen at hlen; omega) (growslice_fits (by omega) hbytes)
      refine step _ _ hr ?_
      obtain ⟨k, hk, hk1⟩ : ∃ k, grownCap w (xs.length + ys.length) cap E = k ∧ xs.length + ys.length ≤ k ∧ k ≤ maxLen := ⟨_, rfl, grownCap_ge w _ cap E, grownCap_le_maxLen w _ cap E hlen⟩
      rw [hk]
      refine h' _ [(w.heap.size, .cells (arr f (xs ++ ys) (Builtin.zeroCells z.cells (k - (xs.length + ys.length))).toList) E (0, 0))] (.inr ⟨w.heap.size, k, (Builtin.zeroCells z.cells (k - (xs.length + ys.length))).toList, Nat.le_trans hn0 hc.size, by simp, rfl, by simpa using hk1.1, hk1.2, ?_⟩) (fun p hp => by rw [List.mem_singleton] at hp; subst hp; exact .inl hc.size) _ ?_ ?_ ?_
      · simp only [List.length_append, Array.length_toList, size_zeroCells, hzs]
        rw [Nat.sub_mul]
        have : (xs.length + ys.length) * s ≤ k * s := Nat.mul_le_mul_right _ hk1.1
        omega
      · have e1 : (Obj.cells ((xs.flatMap f).toArray ++ (ys.flatMap f).toArray ++ Builtin.zeroCells z.cells (k - (xs.length + ys.length))) E) = .cells (arr f (xs ++ ys) (Builtin.zeroCells z.cells (k - (xs.length + ys.length))).toList) E (0, 0) := by
          congr 1; apply Array.ext'; simp [arr]
        rw [e1]
        have hm3 : Mem w M2 := by simpa using hm2.tail
        exact (hm3.ext (Chg.drew no w)).alloc _
      · exact (hc.step (Chg.drew no w) (fun _ _ q => q.elim)).step (chg_alloc w.drew _) (fun _ _ q => q.elim)
      · exact GS.ext w.drew _ (GS.ext w _ hg (Chg.drew no w)) (chg_alloc w.drew _)
end
end Go.Eng
namespace Go.Eng
open Go Go.RowKit
def WrN (b : Nat) (o' : Obj) (T : Nat → Value → Mem0 → Prop) (w : World) : Value → World → Prop := fun u w' =>
  Chg (fun x => x = b) w w' ∧ w'.heap[b]? = some o' ∧ ∃ m, T w.heap.size u m ∧ Mem w' m ∧ ∀ p ∈ m, w.heap.size ≤ p.1
theorem mem_new {w w' : World} {m M : Mem0} (hM : Mem w' M) (hlt : ∀ p ∈ M, p.1 < w.heap.size) (hm : Mem w' m) (hge : ∀ p ∈ m, w.heap.size ≤ p.1) : Mem w' (m ++ M) := by
  refine ⟨?_, fun p hp => ?_⟩
  · rw [List.map_append]
    refine List.nodup_append.2 ⟨hm.1, hM.1, ?_⟩
    intro x hx y hy hxy
    obtain ⟨p, hp, rfl⟩ := List.mem_map.1 hx
    obtain ⟨q, hq, rfl⟩ := List.mem_map.1 hy
    have := hge p hp
    have := hlt q hq
    omega
  · rcases List.mem_append.1 hp with hp | hp
    · exact hm.2 p hp
    · exact hM.2 p hp
section
variable {P : Program} {r : Option Nat} {N : Nat} {Q : Exit → Act → World → Prop} {e : Env} {ds : List Nat} {M : Mem0} {S : Nat → Prop} {w0 : World} {G : World → Prop}
variable {ops : Array Oper} {l : List Oper} {op : Op} {ty : TypeId} {pos : String} {after : Array Edge} {d : Nat}
theorem LM.cWN [GT G] {f : FuncId} {args : Array Value} {b : Nat} {o o' : Obj} {M2 : Mem0} {T : Nat → Value → Mem0 → Prop} (hc : ∀ w, OpC P op ty e w f args) (hmono : ∀ n n' u m, n' ≤ n → T n u m → T n' u m)
    (h : ∀ w, Mem w M → Chg S w0 w → G w → Ret P f args w (WrN b o' T w)) [hM : Fnd M b o M2] (hw : wlk o = false) (hb : b < w0.heap.size → S b)
    (hk : ∀ u m, T w0.heap.size u m → (∀ p ∈ m, w0.heap.size ≤ p.1) → LM P r N ops Q l ((d, u) :: e) ds (m ++ (b, o') :: M2) S w0 G) (hnd : nd op = true := by rfl) (hd : Nat.blt d N = true := by rfl) :
    LM P r N ops Q (⟨some d, op, ty, pos, after, none⟩ :: l) e ds M S w0 G :=
  .call hc (fun w hm hcg hg => h w hm hcg hg) (fun w u w' hm hcg hg ⟨he, ho, m, hT, hm', hge⟩ => by
    have hmp := hm.perm hM.perm
    have hset : Mem w' ((b, o') :: M2) := hmp.set (i := 0) rfl ho he
    refine hk u m (hmono _ _ u m hcg.size hT) (fun p hp => Nat.le_trans hcg.size (hge p hp)) w' (mem_new hset (fun p hp => ?_) hm' hge) (hcg.step he (fun x hx hxb => by subst hxb; exact hb hx)) (GT.chg _ w w' hg he (.one he (hM.get hm) hw))
    rcases List.mem_cons.1 hp with rfl | hp
    · exact hmp.lt (p := (b, o)) (List.mem_cons_self ..)
    · exact hmp.lt (List.mem_cons_of_mem _ hp)) hnd hd
end
end Go.Eng
namespace Go.Eng
open Go Go.RowKit Go.Lib Go.Sort
section
variable {P : Program} {r : Option Nat} {N : Nat} {Q : Exit → Go.Act → World → Prop} {e : Env} {ds : List Nat} {M : Mem0} {S : Nat → Prop} {w0 : World} {G : World → Prop}
variable {ops : Array Oper} {l : List Oper} {ty : TypeId} {pos : String} {after : Array Edge} {d : Nat} {x y : Operand} {t : TypeId}
theorem LM.appZ [GS G] {E s tn n : Nat} {inf : TypeInfo} {z : Value} {k kn : IntKind} {v : Int}
    (hU : P.underlying t = some (.slice E)) (hN : P.underlying tn = some (.int kn)) (hI : ∀ w, (typeInfo E).run P w = .ok inf w) (hz : inf.zero = some z) (hs : inf.size = s) (hs0 : Nat.blt 0 s = true) (hzs : z.cells.size = s) (hd : Nat.blt d N = true)
    (hx : ev e x = some (.slice none 0 0)) (hy : ev e y = some (.int k v)) (hv : v = (n : Int)) (h0 : 0 < n) (hlen : n ≤ maxLen) (hbytes : n * inf.bytes ≤ 281474976710656)
    (h : ∀ (b cap : Nat) (cs : List Value), w0.heap.size ≤ b → n ≤ cap → cap ≤ maxLen → cs.length = cap * s → LM P r N ops Q l ((d, .slice (some ⟨b, 0, none⟩) n cap) :: e) ds ((b, .cells cs.toArray E (0, 0)) :: M) S w0 G) :
    LM P r N ops Q (⟨some d, .call { callee := .builtin .append, args := #[x, y], argTypes := #[t, tn] }, ty, pos, after, none⟩ :: l) e ds M S w0 G := fun w hm hc hg => by
  subst hv
  have hs0 : 0 < s := Nat.le_of_ble_eq_true hs0
  have hinf := info_of hI
  have hl63 : (n : Int) ≤ 9223372036854775807 := by unfold maxLen at hlen; omega
  have hr := run_append_nil_zeros (P := P) w t tn ty E inf z k kn hU hN hinf hz n h0 (by omega) hl63 hbytes
  obtain ⟨c, hk, hk1⟩ : ∃ c, grownCap w n 0 E = c ∧ n ≤ c ∧ c ≤ maxLen := ⟨_, rfl, grownCap_ge w _ 0 E, grownCap_le_maxLen w _ 0 E hlen⟩
  rw [hk] at hr
  have step : ∀ (v' : Value) (w' : World), (Builtin.append_ #[t, tn] ty #[.slice none 0 0, .int k (n : Int)]).run P w = .ok v' w' → 
      (LE P r N ops Q l ((d, v') :: e) ds w') → LE P r N ops Q (⟨some d, .call { callee := .builtin .append, args := #[x, y], argTypes := #[t, tn] }, ty, pos, after, none⟩ :: l) e ds w := fun v' w' hr hl =>
    LE.val (fun ρ hρ _ _ _ _ => by simp [execOp, resolve, invoke, builtin, hρ x _ hx, hρ y _ hy, hr, Result.andThen]) hl rfl hd
  refine step _ _ hr ?_
  refine h w.heap.size c (Builtin.zeroCells z.cells n ++ Builtin.zeroCells z.cells (c - n)).toList hc.size hk1.1 hk1.2 ?_ _ ?_ ?_ ?_
  · simp [size_zeroCells, hzs]
    rw [← Nat.add_mul]; congr 1; omega
  · rw [Array.toArray_toList]; exact (hm.ext (Chg.drew no w)).alloc _
  · exact (hc.step (Chg.drew no w) (fun _ _ q => q.elim)).step (chg_alloc w.drew _) (fun _ _ q => q.elim)
  · exact GS.ext w.drew _ (GS.ext w _ hg (Chg.drew no w)) (chg_alloc w.drew _)
end
theorem ov_cap {P : Program} {e : Env} {x : Operand} {t ty : TypeId} {ad : Option Addr} {n c : Nat} {E : TypeId} (ht : P.underlying t = some (.slice E)) (hx : ev e x = some (.slice ad n c)) : OpP P (.call { callee := .builtin .cap, args := #[x], argTypes := #[t] }) ty e (.int .i64 c) := fun w ρ hρ _ _ _ _ => by
  simp [execOp, resolve, invoke, builtin, hρ x _ hx, Builtin.cap_, run_underlying ht, goInt, Result.andThen]
section
variable {P : Program} {r : Option Nat} {N : Nat} {Q : Exit → Go.Act → World → Prop} {e : Env} {ds : List Nat} {M : Mem0} {S : Nat → Prop} {w0 : World} {G : World → Prop}
variable {ops : Array Oper} {l : List Oper} {ty : TypeId} {pos : String} {after : Array Edge} {d : Nat} {t : TypeId}
end
section
variable {P : Program} {r : Option Nat} {N : Nat} {Q : Exit → Go.Act → World → Prop} {e : Env} {ds : List Nat} {M : Mem0} {S : Nat → Prop} {w0 : World} {G : World → Prop}
variable {ops : Array Oper} {l : List (Nat × Nat)} {op : Op} {ty : TypeId} {pos : String} {after : Array Edge} {d i : Nat}
theorem LD.callT [GS G] {gd : Option (Nat × Bool)} {g : FuncId} {args : Array Value} {T : Nat → Value → Mem0 → Prop} (hi : ops[i]? = some ⟨some d, op, ty, pos, after, gd⟩) (hgd : Wtd ops e gd true) (hc : ∀ w, OpC P op ty e w g args) (hmono : ∀ n n' u m, n' ≤ n → T n u m → T n' u m)
    (h : ∀ w, Mem w M → Chg S w0 w → G w → Ret P g args w (fun u w' => Ext w w' ∧ ∃ m, T w.heap.size u m ∧ Mem w' m ∧ ∀ p ∈ m, w.heap.size ≤ p.1))
    (hk : ∀ u m, T w0.heap.size u m → (∀ p ∈ m, w0.heap.size ≤ p.1) → LD P r N ops Q l ((d, u) :: e) ds (M ++ m) S w0 G) (hnd : nd op = true := by rfl) (hd : Nat.blt d N = true := by rfl) :
    LD P r N ops Q ((i, 2) :: l) e ds M S w0 G :=
  .callG hi hgd hc (fun w hm hcg hg => h w hm hcg hg) (fun w u w' hm hcg hg ⟨he, m, hT, hm', hge⟩ => by
    refine ⟨M ++ m, fun w h => h.sub (List.sublist_append_left _ _), ⟨Mem.perm (M := m ++ M) ⟨?_, fun p hp => ?_⟩ List.perm_append_comm, hcg.step he (fun _ _ q => q.elim), GS.ext w w' hg he⟩, hk u m (hmono _ _ u m hcg.size hT) (fun p hp => Nat.le_trans hcg.size (hge p hp))⟩
    · rw [List.map_append]
      refine List.nodup_append.2 ⟨hm'.1, hm.1, ?_⟩
      intro x hx y hy hxy
      obtain ⟨p, hp, rfl⟩ := List.mem_map.1 hx
      obtain ⟨q, hq, rfl⟩ := List.mem_map.1 hy
      have := hge p hp
      have := hm.lt hq
      omega
    · rcases List.mem_append.1 hp with hp | hp
      · exact hm'.2 p hp
      · exact he.get (hm.2 p hp)) hnd hd
end
theorem Sl.void {α : Type} {f : α → List Value} {E s n0 b cap : Nat} {cs : List Value} (hb : n0 ≤ b) (hc : cap ≤ maxLen) (hl : cs.length = cap * s) : Sl f E s n0 ([] : List α) (.slice (some ⟨b, 0, none⟩) 0 cap) [(b, .cells cs.toArray E (0, 0))] :=
  .inr ⟨b, cap, cs, hb, rfl, by simp [arr], Nat.zero_le _, hc, by simpa using hl⟩
end Go.Eng
set_option maxRecDepth 100000
namespace Go.Eng
open Go Go.Proofs Go.Shelf
def rn : Ren := ⟨fun | 99 => 143 | 119 => 200 | 120 => 186 | 129 => 196 | 137 => 144 | 143 => 163 | 144 => 136 | 151 => 174 | 152 => 185 | 160 => 135 | 161 => 166 | 166 => 98 | 167 => 97 | 169 => 99 | 170 => 96 | 171 => 134 | 172 => 169 | 197 => 173 | 205 => 204 | 206 => 167 | 217 => 168 | 219 => 176 | 224 => 188 | 225 => 187 | 227 => 158 | 228 => 172 | 231 => 156 | 232 => 157 | 233 => 159 | 234 => 160 | 235 => 161 | 236 => 162 | 240 => 137 | 243 => 155 | 244 => 178 | 245 => 179 | 246 => 171 | 247 => 190 | 260 => 184 | 266 => 177 | 267 => 189 | 271 => 175 | 276 => 164 | 279 => 191 | 280 => 192 | 281 => 193 | 282 => 194 | 283 => 180 | 284 => 181 | 285 => 182 | 286 => 183 | 287 => 202 | 314 => 201 | 316 => 203 | 317 => 195 | 318 => 197 | 319 => 198 | 320 => 199 | 321 => 207 | 322 => 208 | 337 => 205 | 338 => 206 | n => n, fun | 0 => 0 | 2 => 2 | 3 => 3 | 4 => 4 | 5 => 5 | 9 => 9 | 20 => 20 | 21 => 21 | 37 => 145 | 46 => 227 | 51 => 236 | 53 => 221 | 70 => 144 | 72 => 147 | 75 => 151 | 76 => 153 | 80 => 155 | 85 => 229 | 105 => 216 | 116 => 206 | 117 => 207 | 119 => 239 | 124 => 210 | 127 => 191 | 138 => 241 | 139 => 242 | 143 => 253 | 145 => 255 | 146 => 244 | 164 => 212 | 167 => 228 | 168 => 231 | 171 => 220 | 173 => 224 | 175 => 246 | 210 => 249 | 212 => 235 | 213 => 237 | 232 => 256 | 233 => 257 | n => n, fun | 1 => 0 | 3 => 2 | 4 => 3 | 15 => 4 | 16 => 5 | 17 => 1 | 18 => 6 | 19 => 7 | n => n⟩
theorem l160 : Lays.n160 Tryz.prog rn where
  mixed := by kernel_rfl
  f119 := Tryz.func200.trans (by kernel_rfl)
  f120 := Tryz.func186.trans (by kernel_rfl)
  f137 := Tryz.func144.trans (by kernel_rfl)
  f151 := Tryz.func174.trans (by kernel_rfl)
  f152 := Tryz.func185.trans (by kernel_rfl)
  f160 := Tryz.func135.trans (by kernel_rfl)
  f197 := Tryz.func173.trans (by kernel_rfl)
  f217 := Tryz.func168.trans (by kernel_rfl)
  f224 := Tryz.func188.trans (by kernel_rfl)
  f225 := Tryz.func187.trans (by kernel_rfl)
  f227 := Tryz.func158.trans (by kernel_rfl)
  f228 := Tryz.func172.trans (by kernel_rfl)
  f231 := Tryz.func156.trans (by kernel_rfl)
  f232 := Tryz.func157.trans (by kernel_rfl)
  f233 := Tryz.func159.trans (by kernel_rfl)
  f234 := Tryz.func160.trans (by kernel_rfl)
  f235 := Tryz.func161.trans (by kernel_rfl)
  f236 := Tryz.func162.trans (by kernel_rfl)
  f260 := Tryz.func184.trans (by kernel_rfl)
  f266 := Tryz.func177.trans (by kernel_rfl)
  f271 := Tryz.func175.trans (by kernel_rfl)
  t0 := Tryz.underlying0
  a0 := Tryz.isAgg0
  z0 := Tryz.sizeOf0
  v0 := Tryz.zeroValue0
  t3 := Tryz.underlying3
  a3 := Tryz.isAgg3
  z3 := Tryz.sizeOf3
  v3 := Tryz.zeroValue3
  t4 := Tryz.underlying4
  a4 := Tryz.isAgg4
  z4 := Tryz.sizeOf4
  v4 := Tryz.zeroValue4
  t5 := Tryz.underlying5
  a5 := Tryz.isAgg5
  z5 := Tryz.sizeOf5
  v5 := Tryz.zeroValue5
  t9 := Tryz.underlying9
  a9 := Tryz.isAgg9
  z9 := Tryz.sizeOf9
  v9 := Tryz.zeroValue9
  t21 := Tryz.underlying21
  a21 := Tryz.isAgg21
  z21 := Tryz.sizeOf21
  v21 := Tryz.zeroValue21
  t46 := Tryz.underlying227
  a46 := Tryz.isAgg227
  z46 := Tryz.sizeOf227
  v46 := Tryz.zeroValue227
  t105 := Tryz.underlying216
  a105 := Tryz.isAgg216
  z105 := Tryz.sizeOf216
  v105 := Tryz.zeroValue216
  t116 := Tryz.underlying206
  a116 := Tryz.isAgg206
  z116 := Tryz.sizeOf206
  t117 := Tryz.underlying207
  a117 := Tryz.isAgg207
  z117 := Tryz.sizeOf207
  v117 := Tryz.zeroValue207
  t119 := Tryz.underlying239
  a119 := Tryz.isAgg239
  z119 := Tryz.sizeOf239
  t124 := Tryz.underlying210
  a124 := Tryz.isAgg210
  z124 := Tryz.sizeOf210
  v124 := Tryz.zeroValue210
  t138 := Tryz.underlying241
  a138 := Tryz.isAgg241
  z138 := Tryz.sizeOf241
  v138 := Tryz.zeroValue241
  t139 := Tryz.underlying242
  a139 := Tryz.isAgg242
  z139 := Tryz.sizeOf242
  v139 := Tryz.zeroValue242
  g3 := by kernel_rfl
  g4 := by kernel_rfl
theorem lm171 : LaysM.n171 Tryz.prog rn where
  mixed := by kernel_rfl
  f129 := Tryz.func196.trans (by kernel_rfl)
  f171 := Tryz.func134.trans (by kernel_rfl)
  f243 := Tryz.func155.trans (by kernel_rfl)
  f246 := Tryz.func171.trans (by kernel_rfl)
  f283 := Tryz.func180.trans (by kernel_rfl)
  f284 := Tryz.func181.trans (by kernel_rfl)
  f285 := Tryz.func182.trans (by kernel_rfl)
  f286 := Tryz.func183.trans (by kernel_rfl)
  f317 := Tryz.func195.trans (by kernel_rfl)
  f318 := Tryz.func197.trans (by kernel_rfl)
  f319 := Tryz.func198.trans (by kernel_rfl)
  f320 := Tryz.func199.trans (by kernel_rfl)
  f337 := Tryz.func205.trans (by kernel_rfl)
  f338 := Tryz.func206.trans (by kernel_rfl)
  t0 := Tryz.underlying0
  a0 := Tryz.isAgg0
  z0 := Tryz.sizeOf0
  v0 := Tryz.zeroValue0
  t2 := Tryz.underlying2
  a2 := Tryz.isAgg2
  z2 := Tryz.sizeOf2
  v2 := Tryz.zeroValue2
  t3 := Tryz.underlying3
  a3 := Tryz.isAgg3
  z3 := Tryz.sizeOf3
  v3 := Tryz.zeroValue3
  t4 := Tryz.underlying4
  a4 := Tryz.isAgg4
  z4 := Tryz.sizeOf4
  v4 := Tryz.zeroValue4
  t5 := Tryz.underlying5
  a5 := Tryz.isAgg5
  z5 := Tryz.sizeOf5
  v5 := Tryz.zeroValue5
  t9 := Tryz.underlying9
  a9 := Tryz.isAgg9
  z9 := Tryz.sizeOf9
  v9 := Tryz.zeroValue9
  t20 := Tryz.underlying20
  a20 := Tryz.isAgg20
  z20 := Tryz.sizeOf20
  v20 := Tryz.zeroValue20
  t37 := Tryz.underlying145
  a37 := Tryz.isAgg145
  z37 := Tryz.sizeOf145
  v37 := Tryz.zeroValue145
  t46 := Tryz.underlying227
  a46 := Tryz.isAgg227
  z46 := Tryz.sizeOf227
  v46 := Tryz.zeroValue227
  t51 := Tryz.underlying236
  a51 := Tryz.isAgg236
  z51 := Tryz.sizeOf236
  v51 := Tryz.zeroValue236
  t53 := Tryz.underlying221
  a53 := Tryz.isAgg221
  z53 := Tryz.sizeOf221
  v53 := Tryz.zeroValue221
  t171 := Tryz.underlying220
  a171 := Tryz.isAgg220
  z171 := Tryz.sizeOf220
  v171 := Tryz.zeroValue220
  t173 := Tryz.underlying224
  a173 := Tryz.isAgg224
  z173 := Tryz.sizeOf224
  v173 := Tryz.zeroValue224
  t212 := Tryz.underlying235
  a212 := Tryz.isAgg235
  z212 := Tryz.sizeOf235
  v212 := Tryz.zeroValue235
  t213 := Tryz.underlying237
  a213 := Tryz.isAgg237
  z213 := Tryz.sizeOf237
  t232 := Tryz.underlying256
  a232 := Tryz.isAgg256
  z232 := Tryz.sizeOf256
  v232 := Tryz.zeroValue256
  t233 := Tryz.underlying257
  a233 := Tryz.isAgg257
  z233 := Tryz.sizeOf257
  v233 := Tryz.zeroValue257
  g17 := by kernel_rfl
  g18 := by kernel_rfl
  g19 := by kernel_rfl
  i0 := by kernel_rfl
  i2 := by kernel_rfl
  i3 := by kernel_rfl
  i4 := by kernel_rfl
  i5 := by kernel_rfl
  i9 := by kernel_rfl
  i20 := by kernel_rfl
  i37 := by kernel_rfl
  i46 := by kernel_rfl
  i51 := by kernel_rfl
  i53 := by kernel_rfl
  i171 := by kernel_rfl
  i173 := by kernel_rfl
  i212 := by kernel_rfl
  i232 := by kernel_rfl
  i233 := by kernel_rfl
  m17 := by kernel_rfl
  m18 := by kernel_rfl
  m19 := by kernel_rfl
theorem l144 : Lays.n144 Tryz.prog rn where
  mixed := by kernel_rfl
  f143 := Tryz.func163.trans (by kernel_rfl)
  f144 := Tryz.func136.trans (by kernel_rfl)
  f217 := Tryz.func168.trans (by kernel_rfl)
  f219 := Tryz.func176.trans (by kernel_rfl)
  f224 := Tryz.func188.trans (by kernel_rfl)
  f225 := Tryz.func187.trans (by kernel_rfl)
  f266 := Tryz.func177.trans (by kernel_rfl)
  f267 := Tryz.func189.trans (by kernel_rfl)
  f314 := Tryz.func201.trans (by kernel_rfl)
  t3 := Tryz.underlying3
  a3 := Tryz.isAgg3
  z3 := Tryz.sizeOf3
  v3 := Tryz.zeroValue3
  t4 := Tryz.underlying4
  a4 := Tryz.isAgg4
  z4 := Tryz.sizeOf4
  v4 := Tryz.zeroValue4
  t5 := Tryz.underlying5
  a5 := Tryz.isAgg5
  z5 := Tryz.sizeOf5
  v5 := Tryz.zeroValue5
  t9 := Tryz.underlying9
  a9 := Tryz.isAgg9
  z9 := Tryz.sizeOf9
  v9 := Tryz.zeroValue9
  t46 := Tryz.underlying227
  a46 := Tryz.isAgg227
  z46 := Tryz.sizeOf227
  v46 := Tryz.zeroValue227
  t51 := Tryz.underlying236
  a51 := Tryz.isAgg236
  z51 := Tryz.sizeOf236
  v51 := Tryz.zeroValue236
  t146 := Tryz.underlying244
  a146 := Tryz.isAgg244
  z146 := Tryz.sizeOf244
  v146 := Tryz.zeroValue244
  g1 := by kernel_rfl
theorem l166 : Lays.n166 Tryz.prog rn where
  mixed := by kernel_rfl
  f166 := Tryz.func98.trans (by kernel_rfl)
  f240 := Tryz.func137.trans (by kernel_rfl)
  f276 := Tryz.func164.trans (by kernel_rfl)
  t0 := Tryz.underlying0
  a0 := Tryz.isAgg0
  z0 := Tryz.sizeOf0
  v0 := Tryz.zeroValue0
  t3 := Tryz.underlying3
  a3 := Tryz.isAgg3
  z3 := Tryz.sizeOf3
  v3 := Tryz.zeroValue3
  t4 := Tryz.underlying4
  a4 := Tryz.isAgg4
  z4 := Tryz.sizeOf4
  v4 := Tryz.zeroValue4
  t9 := Tryz.underlying9
  a9 := Tryz.isAgg9
  z9 := Tryz.sizeOf9
  v9 := Tryz.zeroValue9
  t20 := Tryz.underlying20
  a20 := Tryz.isAgg20
  z20 := Tryz.sizeOf20
  v20 := Tryz.zeroValue20
  t37 := Tryz.underlying145
  a37 := Tryz.isAgg145
  z37 := Tryz.sizeOf145
  v37 := Tryz.zeroValue145
  t70 := Tryz.underlying144
  a70 := Tryz.isAgg144
  z70 := Tryz.sizeOf144
  v70 := Tryz.zeroValue144
  t72 := Tryz.underlying147
  a72 := Tryz.isAgg147
  z72 := Tryz.sizeOf147
  v72 := Tryz.zeroValue147
  t75 := Tryz.underlying151
  a75 := Tryz.isAgg151
  z75 := Tryz.sizeOf151
  v75 := Tryz.zeroValue151
  t164 := Tryz.underlying212
  a164 := Tryz.isAgg212
  z164 := Tryz.sizeOf212
  v164 := Tryz.zeroValue212
theorem l167 : Lays.n167 Tryz.prog rn where
  mixed := by kernel_rfl
  f167 := Tryz.func97.trans (by kernel_rfl)
  f240 := Tryz.func137.trans (by kernel_rfl)
  f276 := Tryz.func164.trans (by kernel_rfl)
  t0 := Tryz.underlying0
  a0 := Tryz.isAgg0
  z0 := Tryz.sizeOf0
  v0 := Tryz.zeroValue0
  t4 := Tryz.underlying4
  a4 := Tryz.isAgg4
  z4 := Tryz.sizeOf4
  v4 := Tryz.zeroValue4
  t5 := Tryz.underlying5
  a5 := Tryz.isAgg5
  z5 := Tryz.sizeOf5
  v5 := Tryz.zeroValue5
  t9 := Tryz.underlying9
  a9 := Tryz.isAgg9
  z9 := Tryz.sizeOf9
  v9 := Tryz.zeroValue9
  t20 := Tryz.underlying20
  a20 := Tryz.isAgg20
  z20 := Tryz.sizeOf20
  v20 := Tryz.zeroValue20
  t37 := Tryz.underlying145
  a37 := Tryz.isAgg145
  z37 := Tryz.sizeOf145
  v37 := Tryz.zeroValue145
  t70 := Tryz.underlying144
  a70 := Tryz.isAgg144
  z70 := Tryz.sizeOf144
  v70 := Tryz.zeroValue144
  t72 := Tryz.underlying147
  a72 := Tryz.isAgg147
  z72 := Tryz.sizeOf147
  v72 := Tryz.zeroValue147
  t75 := Tryz.underlying151
  a75 := Tryz.isAgg151
  z75 := Tryz.sizeOf151
  v75 := Tryz.zeroValue151
  t164 := Tryz.underlying212
  a164 := Tryz.isAgg212
  z164 := Tryz.sizeOf212
  v164 := Tryz.zeroValue212
theorem l169 : Lays.n169 Tryz.prog rn where
  mixed := by kernel_rfl
  f169 := Tryz.func99.trans (by kernel_rfl)
  t0 := Tryz.underlying0
  a0 := Tryz.isAgg0
  z0 := Tryz.sizeOf0
  v0 := Tryz.zeroValue0
  t3 := Tryz.underlying3
  a3 := Tryz.isAgg3
  z3 := Tryz.sizeOf3
  v3 := Tryz.zeroValue3
  t9 := Tryz.underlying9
  a9 := Tryz.isAgg9
  z9 := Tryz.sizeOf9
  v9 := Tryz.zeroValue9
  t37 := Tryz.underlying145
  a37 := Tryz.isAgg145
  z37 := Tryz.sizeOf145
  v37 := Tryz.zeroValue145
  t70 := Tryz.underlying144
  a70 := Tryz.isAgg144
  z70 := Tryz.sizeOf144
  v70 := Tryz.zeroValue144
  t72 := Tryz.underlying147
  a72 := Tryz.isAgg147
  z72 := Tryz.sizeOf147
  v72 := Tryz.zeroValue147
  t127 := Tryz.underlying191
  a127 := Tryz.isAgg191
  z127 := Tryz.sizeOf191
  v127 := Tryz.zeroValue191
theorem l170 : Lays.n170 Tryz.prog rn where
  mixed := by kernel_rfl
  f170 := Tryz.func96.trans (by kernel_rfl)
  t0 := Tryz.underlying0
  a0 := Tryz.isAgg0
  z0 := Tryz.sizeOf0
  v0 := Tryz.zeroValue0
  t3 := Tryz.underlying3
  a3 := Tryz.isAgg3
  z3 := Tryz.sizeOf3
  v3 := Tryz.zeroValue3
  t37 := Tryz.underlying145
  a37 := Tryz.isAgg145
  z37 := Tryz.sizeOf145
  v37 := Tryz.zeroValue145
  t70 := Tryz.underlying144
  a70 := Tryz.isAgg144
  z70 := Tryz.sizeOf144
  v70 := Tryz.zeroValue144
  t72 := Tryz.underlying147
  a72 := Tryz.isAgg147
  z72 := Tryz.sizeOf147
  v72 := Tryz.zeroValue147
theorem l161 : Lays.n161 Tryz.prog rn where
  mixed := by kernel_rfl
  f119 := Tryz.func200.trans (by kernel_rfl)
  f137 := Tryz.func144.trans (by kernel_rfl)
  f151 := Tryz.func174.trans (by kernel_rfl)
  f152 := Tryz.func185.trans (by kernel_rfl)
  f161 := Tryz.func166.trans (by kernel_rfl)
  f197 := Tryz.func173.trans (by kernel_rfl)
  f217 := Tryz.func168.trans (by kernel_rfl)
  f224 := Tryz.func188.trans (by kernel_rfl)
  f225 := Tryz.func187.trans (by kernel_rfl)
  f227 := Tryz.func158.trans (by kernel_rfl)
  f228 := Tryz.func172.trans (by kernel_rfl)
  f231 := Tryz.func156.trans (by kernel_rfl)
  f233 := Tryz.func159.trans (by kernel_rfl)
  f235 := Tryz.func161.trans (by kernel_rfl)
  f260 := Tryz.func184.trans (by kernel_rfl)
  f266 := Tryz.func177.trans (by kernel_rfl)
  t0 := Tryz.underlying0
  a0 := Tryz.isAgg0
  z0 := Tryz.sizeOf0
  v0 := Tryz.zeroValue0
  t3 := Tryz.underlying3
  a3 := Tryz.isAgg3
  z3 := Tryz.sizeOf3
  v3 := Tryz.zeroValue3
  t4 := Tryz.underlying4
  a4 := Tryz.isAgg4
  z4 := Tryz.sizeOf4
  v4 := Tryz.zeroValue4
  t5 := Tryz.underlying5
  a5 := Tryz.isAgg5
  z5 := Tryz.sizeOf5
  v5 := Tryz.zeroValue5
  t9 := Tryz.underlying9
  a9 := Tryz.isAgg9
  z9 := Tryz.sizeOf9
  v9 := Tryz.zeroValue9
  t21 := Tryz.underlying21
  a21 := Tryz.isAgg21
  z21 := Tryz.sizeOf21
  v21 := Tryz.zeroValue21
  t46 := Tryz.underlying227
  a46 := Tryz.isAgg227
  z46 := Tryz.sizeOf227
  v46 := Tryz.zeroValue227
  t105 := Tryz.underlying216
  a105 := Tryz.isAgg216
  z105 := Tryz.sizeOf216
  v105 := Tryz.zeroValue216
  t116 := Tryz.underlying206
  a116 := Tryz.isAgg206
  z116 := Tryz.sizeOf206
  t117 := Tryz.underlying207
  a117 := Tryz.isAgg207
  z117 := Tryz.sizeOf207
  v117 := Tryz.zeroValue207
  t119 := Tryz.underlying239
  a119 := Tryz.isAgg239
  z119 := Tryz.sizeOf239
  t124 := Tryz.underlying210
  a124 := Tryz.isAgg210
  z124 := Tryz.sizeOf210
  v124 := Tryz.zeroValue210
  t138 := Tryz.underlying241
  a138 := Tryz.isAgg241
  z138 := Tryz.sizeOf241
  v138 := Tryz.zeroValue241
  t139 := Tryz.underlying242
  a139 := Tryz.isAgg242
  z139 := Tryz.sizeOf242
  v139 := Tryz.zeroValue242
  g3 := by kernel_rfl
  g4 := by kernel_rfl
theorem l137 : Lays.n137 Tryz.prog rn where
  mixed := by kernel_rfl
  f137 := Tryz.func144.trans (by kernel_rfl)
  f217 := Tryz.func168.trans (by kernel_rfl)
  f266 := Tryz.func177.trans (by kernel_rfl)
  t3 := Tryz.underlying3
  a3 := Tryz.isAgg3
  z3 := Tryz.sizeOf3
  v3 := Tryz.zeroValue3
  t5 := Tryz.underlying5
  a5 := Tryz.isAgg5
  z5 := Tryz.sizeOf5
  v5 := Tryz.zeroValue5
  t9 := Tryz.underlying9
  a9 := Tryz.isAgg9
  z9 := Tryz.sizeOf9
  v9 := Tryz.zeroValue9
theorem l99 : Lays.n99 Tryz.prog rn where
  mixed := by kernel_rfl
  f99 := Tryz.func143.trans (by kernel_rfl)
  f206 := Tryz.func167.trans (by kernel_rfl)
  t3 := Tryz.underlying3
  a3 := Tryz.isAgg3
  z3 := Tryz.sizeOf3
  v3 := Tryz.zeroValue3
  t4 := Tryz.underlying4
  a4 := Tryz.isAgg4
  z4 := Tryz.sizeOf4
  v4 := Tryz.zeroValue4
  t9 := Tryz.underlying9
  a9 := Tryz.isAgg9
  z9 := Tryz.sizeOf9
  v9 := Tryz.zeroValue9
theorem l172 : Lays.n172 Tryz.prog rn where
  mixed := by kernel_rfl
  f129 := Tryz.func196.trans (by kernel_rfl)
  f171 := Tryz.func134.trans (by kernel_rfl)
  f172 := Tryz.func169.trans (by kernel_rfl)
  f205 := Tryz.func204.trans (by kernel_rfl)
  f243 := Tryz.func155.trans (by kernel_rfl)
  f244 := Tryz.func178.trans (by kernel_rfl)
  f245 := Tryz.func179.trans (by kernel_rfl)
  f246 := Tryz.func171.trans (by kernel_rfl)
  f247 := Tryz.func190.trans (by kernel_rfl)
  f279 := Tryz.func191.trans (by kernel_rfl)
  f280 := Tryz.func192.trans (by kernel_rfl)
  f281 := Tryz.func193.trans (by kernel_rfl)
  f282 := Tryz.func194.trans (by kernel_rfl)
  f283 := Tryz.func180.trans (by kernel_rfl)
  f284 := Tryz.func181.trans (by kernel_rfl)
  f285 := Tryz.func182.trans (by kernel_rfl)
  f286 := Tryz.func183.trans (by kernel_rfl)
  f287 := Tryz.func202.trans (by kernel_rfl)
  f316 := Tryz.func203.trans (by kernel_rfl)
  f317 := Tryz.func195.trans (by kernel_rfl)
  f318 := Tryz.func197.trans (by kernel_rfl)
  f319 := Tryz.func198.trans (by kernel_rfl)
  f320 := Tryz.func199.trans (by kernel_rfl)
  f321 := Tryz.func207.trans (by kernel_rfl)
  f322 := Tryz.func208.trans (by kernel_rfl)
  f337 := Tryz.func205.trans (by kernel_rfl)
  f338 := Tryz.func206.trans (by kernel_rfl)
  t0 := Tryz.underlying0
  a0 := Tryz.isAgg0
  z0 := Tryz.sizeOf0
  v0 := Tryz.zeroValue0
  t2 := Tryz.underlying2
  a2 := Tryz.isAgg2
  z2 := Tryz.sizeOf2
  v2 := Tryz.zeroValue2
  t3 := Tryz.underlying3
  a3 := Tryz.isAgg3
  z3 := Tryz.sizeOf3
  v3 := Tryz.zeroValue3
  t4 := Tryz.underlying4
  a4 := Tryz.isAgg4
  z4 := Tryz.sizeOf4
  v4 := Tryz.zeroValue4
  t5 := Tryz.underlying5
  a5 := Tryz.isAgg5
  z5 := Tryz.sizeOf5
  v5 := Tryz.zeroValue5
  t9 := Tryz.underlying9
  a9 := Tryz.isAgg9
  z9 := Tryz.sizeOf9
  v9 := Tryz.zeroValue9
  t20 := Tryz.underlying20
  a20 := Tryz.isAgg20
  z20 := Tryz.sizeOf20
  v20 := Tryz.zeroValue20
  t21 := Tryz.underlying21
  a21 := Tryz.isAgg21
  z21 := Tryz.sizeOf21
  v21 := Tryz.zeroValue21
  t37 := Tryz.underlying145
  a37 := Tryz.isAgg145
  z37 := Tryz.sizeOf145
  v37 := Tryz.zeroValue145
  t46 := Tryz.underlying227
  a46 := Tryz.isAgg227
  z46 := Tryz.sizeOf227
  v46 := Tryz.zeroValue227
  t51 := Tryz.underlying236
  a51 := Tryz.isAgg236
  z51 := Tryz.sizeOf236
  v51 := Tryz.zeroValue236
  t53 := Tryz.underlying221
  a53 := Tryz.isAgg221
  z53 := Tryz.sizeOf221
  v53 := Tryz.zeroValue221
  t75 := Tryz.underlying151
  a75 := Tryz.isAgg151
  z75 := Tryz.sizeOf151
  v75 := Tryz.zeroValue151
  t76 := Tryz.underlying153
  a76 := Tryz.isAgg153
  z76 := Tryz.sizeOf153
  v76 := Tryz.zeroValue153
  t85 := Tryz.underlying229
  a85 := Tryz.isAgg229
  z85 := Tryz.sizeOf229
  v85 := Tryz.zeroValue229
  t127 := Tryz.underlying191
  a127 := Tryz.isAgg191
  z127 := Tryz.sizeOf191
  v127 := Tryz.zeroValue191
  t143 := Tryz.underlying253
  a143 := Tryz.isAgg253
  z143 := Tryz.sizeOf253
  v143 := Tryz.zeroValue253
  t145 := Tryz.underlying255
  a145 := Tryz.isAgg255
  z145 := Tryz.sizeOf255
  v145 := Tryz.zeroValue255
  t167 := Tryz.underlying228
  a167 := Tryz.isAgg228
  z167 := Tryz.sizeOf228
  v167 := Tryz.zeroValue228
  t168 := Tryz.underlying231
  a168 := Tryz.isAgg231
  z168 := Tryz.sizeOf231
  v168 := Tryz.zeroValue231
  t171 := Tryz.underlying220
  a171 := Tryz.isAgg220
  z171 := Tryz.sizeOf220
  v171 := Tryz.zeroValue220
  t173 := Tryz.underlying224
  a173 := Tryz.isAgg224
  z173 := Tryz.sizeOf224
  v173 := Tryz.zeroValue224
  t175 := Tryz.underlying246
  a175 := Tryz.isAgg246
  z175 := Tryz.sizeOf246
  v175 := Tryz.zeroValue246
  t210 := Tryz.underlying249
  a210 := Tryz.isAgg249
  z210 := Tryz.sizeOf249
  v210 := Tryz.zeroValue249
  t212 := Tryz.underlying235
  a212 := Tryz.isAgg235
  z212 := Tryz.sizeOf235
  v212 := Tryz.zeroValue235
  t213 := Tryz.underlying237
  a213 := Tryz.isAgg237
  z213 := Tryz.sizeOf237
  t232 := Tryz.underlying256
  a232 := Tryz.isAgg256
  z232 := Tryz.sizeOf256
  v232 := Tryz.zeroValue256
  t233 := Tryz.underlying257
  a233 := Tryz.isAgg257
  z233 := Tryz.sizeOf257
  v233 := Tryz.zeroValue257
  g15 := by kernel_rfl
  g16 := by kernel_rfl
  g17 := by kernel_rfl
  g18 := by kernel_rfl
  g19 := by kernel_rfl
theorem bx : Builder.Extra Tryz.prog rn where
  sizeBuilder := by kernel_rfl
  liesBuilder := by kernel_rfl
  t5 := Tryz.underlying5
  a5 := Tryz.isAgg5
  z5 := Tryz.sizeOf5
  v5 := Tryz.zeroValue5
  infoByte := by kernel_rfl
  cellsByte := by kernel_rfl
  sizeByte := by kernel_rfl
  neB5 := by decide
theorem l160set : (Tryz.prog.info? (rn.t 116)).map (fun i => (i.zero, i.size)) = some (some (.agg (Array.replicate 256 (.bool false))), 256) := by kernel_rfl
end Go.Eng
namespace Go.Eng
open Go Go.RowKit
structure Wrd where
  k : Int
  t : List UInt8
  n : Int
  p : Int
deriving DecidableEq
instance : Inhabited Wrd := ⟨⟨0, [], 0, 0⟩⟩
def fW (w : Wrd) : List Value := [.int .i64 w.k, .string (bs w.t), .int .i64 w.n, .int .i64 w.p]
def letN (n : Int) : Bool := decide (97 ≤ n) && decide (n ≤ 122)
def digN (n : Int) : Bool := decide (48 ≤ n) && decide (n ≤ 57)
def markN (n : Int) : Bool := decide (n = 123) || decide (n = 125) || decide (n = 59) || decide (n = 46) || decide (n = 61)
def letB (c : UInt8) : Bool := letN (c.toNat : Nat)
def digB (c : UInt8) : Bool := digN (c.toNat : Nat)
def markB (c : UInt8) : Bool := markN (c.toNat : Nat)
def notNl (c : UInt8) : Bool := decide (((c.toNat : Nat) : Int) ≠ 10)
def runL (p : UInt8 → Bool) (s : List UInt8) (i : Nat) : Nat := ((s.drop i).takeWhile p).length
theorem runL_le (p : UInt8 → Bool) (s : List UInt8) (i : Nat) : runL p s i ≤ s.length - i := by
  unfold runL; have := (List.takeWhile_sublist (l := s.drop i) p).length_le; rwa [List.length_drop] at this
theorem drop_get {s : List UInt8} {i : Nat} (h : i < s.length) : s.drop i = s.getD i 0 :: s.drop (i + 1) := by
  have e := getq (0 : UInt8) h
  rw [List.getElem?_eq_getElem h] at e
  rw [List.drop_eq_getElem_cons h, Option.some.inj e]
theorem runL_step {p : UInt8 → Bool} {s : List UInt8} {i : Nat} (h : i < s.length) (hp : p (s.getD i 0) = true) : runL p s i = runL p s (i + 1) + 1 := by
  unfold runL; rw [drop_get h, List.takeWhile_cons, if_pos hp]; rfl
theorem runL_stop {p : UInt8 → Bool} {s : List UInt8} {i : Nat} (h : i < s.length) (hp : p (s.getD i 0) = false) : runL p s i = 0 := by
  unfold runL; rw [drop_get h, List.takeWhile_cons, if_neg (by rw [hp]; simp)]; rfl
theorem runL_end {p : UInt8 → Bool} {s : List UInt8} {i : Nat} (h : s.length ≤ i) : runL p s i = 0 := by
  have := runL_le p s i; omega
def numF : Nat → List UInt8 → Int → Int
  | 0, _, n => n
  | _ + 1, [], n => n
  | k + 1, c :: l, n => if digB c then numF k l (n * 10 + ((c.toNat : Nat) : Int) - 48) else n
theorem numF_step {s : List UInt8} {i k : Nat} {n : Int} (h : i < s.length) (hp : digB (s.getD i 0) = true) : numF (k + 1) (s.drop i) n = numF k (s.drop (i + 1)) (n * 10 + (((s.getD i 0).toNat : Nat) : Int) - 48) := by
  rw [drop_get h, numF, if_pos hp]
theorem numF_stop {s : List UInt8} {i k : Nat} {n : Int} (h : s.length ≤ i ∨ digB (s.getD i 0) = false) : numF k (s.drop i) n = n := by
  cases k with
  | zero => rfl
  | succ k =>
    rcases Nat.lt_or_ge i s.length with hi | hi
    · rcases h with h | h
      · omega
      · rw [drop_get hi, numF, if_neg (by rw [h]; simp)]
    · rw [List.drop_of_length_le hi]; rfl
def oneO (s : List UInt8) (i : Nat) : Wrd × Nat × Bool :=
  if letB (s.getD i 0) then (⟨1, (s.drop i).take (runL letB s i), 0, (i : Nat)⟩, i + runL letB s i, decide (runL letB s i ≤ 12))
  else if digB (s.getD i 0) then (⟨2, [], numF 9 (s.drop i) 0, (i : Nat)⟩, i + runL digB s i, decide (runL digB s i ≤ 9) && (decide ((((s.getD i 0).toNat : Nat) : Int) ≠ 48) || decide (runL digB s i = 1)))
  else (⟨3, (s.drop i).take 1, 0, (i : Nat)⟩, i + 1, markB (s.getD i 0))
theorem one_lt {s : List UInt8} {i : Nat} (h : i < s.length) : i < (oneO s i).2.1 ∧ (oneO s i).2.1 ≤ s.length := by
  unfold oneO
  split
  · rename_i hl
    have h1 := runL_step h hl
    have h2 := runL_le letB s i
    simp only; omega
  · split
    · rename_i hl
      have h1 := runL_step h hl
      have h2 := runL_le digB s i
      simp only; omega
    · simp only; omega
def blankB (c : UInt8) : Bool := decide (((c.toNat : Nat) : Int) = 32) || decide (((c.toNat : Nat) : Int) = 9) || decide (((c.toNat : Nat) : Int) = 10)
def hashB (c : UInt8) : Bool := decide (((c.toNat : Nat) : Int) = 35)
def badO (r : Wrd × Nat × Bool) (i : Nat) (last : Int) (out : List Wrd) : Bool := !r.2.2 || (decide (last = (i : Nat)) && decide (r.1.k ≠ 3) && decide ((out.getD (out.length - 1) default).k ≠ 3))
def scanF : Nat → List UInt8 → Nat → Int → List Wrd → List Wrd × Int × Int
  | 0, _, _, _, out => (out, 0, 0)
  | f + 1, s, i, last, out =>
    if s.length ≤ i then (out, 0, 0)
    else if blankB (s.getD i 0) then scanF f s (i + 1) last out
    else if hashB (s.getD i 0) then scanF f s (i + runL notNl s i) last out
    else if badO (oneO s i) i last out then ([], (i : Nat), 5)
    else scanF f s (oneO s i).2.1 ((oneO s i).2.1 : Nat) (out ++ [(oneO s i).1])
theorem hash_nl {c : UInt8} (h : hashB c = true) : notNl c = true := by
  unfold hashB at h; unfold notNl; simp only [decide_eq_true_eq] at h ⊢; omega
theorem scanF_fuel (s : List UInt8) : ∀ (f g i : Nat) (last : Int) (out : List Wrd), s.length - i ≤ f → s.length - i ≤ g → scanF f s i last out = scanF g s i last out
  | 0, 0, _, _, _, _, _ => rfl
  | 0, g + 1, i, last, out, h1, h2 => by rw [scanF, scanF, if_pos (by omega)]
  | f + 1, 0, i, last, out, h1, h2 => by rw [scanF, scanF, if_pos (by omega)]
  | f + 1, g + 1, i, last, out, h1, h2 => by
    simp only [scanF]
    split
    · rfl
    rename_i hi
    have hlt : i < s.length := by omega
    split
    · exact scanF_fuel s f g _ _ _ (by omega) (by omega)
    split
    · rename_i hh
      have h3 := runL_step hlt (hash_nl hh)
      exact scanF_fuel s f g _ _ _ (by omega) (by omega)
    split
    · rfl
    · have h4 := one_lt hlt
      exact scanF_fuel s f g _ _ _ (by omega) (by omega)
def scanR (s : List UInt8) (i : Nat) (last : Int) (out : List Wrd) : List Wrd × Int × Int := scanF (s.length - i) s i last out
theorem scanR_end {s : List UInt8} {i : Nat} {last : Int} {out : List Wrd} (h : s.length ≤ i) : scanR s i last out = (out, 0, 0) := by
  unfold scanR; rw [show s.length - i = 0 by omega]; rfl
theorem scanR_step {s : List UInt8} {i : Nat} {last : Int} {out : List Wrd} (h : i < s.length) : scanR s i last out =
    if blankB (s.getD i 0) then scanR s (i + 1) last out
    else if hashB (s.getD i 0) then scanR s (i + runL notNl s i) last out
    else if badO (oneO s i) i last out then ([], (i : Nat), 5)
    else scanR s (oneO s i).2.1 ((oneO s i).2.1 : Nat) (out ++ [(oneO s i).1]) := by
  unfold scanR
  obtain ⟨f, hf⟩ : ∃ f, s.length - i = f + 1 := ⟨s.length - i - 1, by omega⟩
  rw [hf, scanF, if_neg (by omega)]
  split
  · exact scanF_fuel s _ _ _ _ _ (by omega) (by omega)
  split
  · rename_i hh
    have h3 := runL_step h (hash_nl hh)
    exact scanF_fuel s _ _ _ _ _ (by omega) (by omega)
  split
  · rfl
  · have h4 := one_lt h
    exact scanF_fuel s _ _ _ _ _ (by omega) (by omega)
theorem scanR_blank {s : List UInt8} {i : Nat} {last : Int} {out : List Wrd} (h : i < s.length) (hb : blankB (s.getD i 0) = true) : scanR s i last out = scanR s (i + 1) last out := by rw [scanR_step h, if_pos hb]
theorem scanR_hash {s : List UInt8} {i j : Nat} {last : Int} {out : List Wrd} (h : i < s.length) (hb : blankB (s.getD i 0) = false) (hh : hashB (s.getD i 0) = true) (hj : i + runL notNl s i = j) : scanR s i last out = scanR s j last out := by
  rw [scanR_step h, if_neg (by rw [hb]; simp), if_pos hh, hj]
theorem scanR_bad {s : List UInt8} {i : Nat} {last : Int} {out : List Wrd} (h : i < s.length) (hb : blankB (s.getD i 0) = false) (hh : hashB (s.getD i 0) = false) (hq : badO (oneO s i) i last out = true) : scanR s i last out = ([], (i : Int), 5) := by
  rw [scanR_step h, if_neg (by rw [hb]; simp), if_neg (by rw [hh]; simp), if_pos hq]
theorem scanR_word {s : List UInt8} {i : Nat} {last : Int} {out : List Wrd} (h : i < s.length) (hb : blankB (s.getD i 0) = false) (hh : hashB (s.getD i 0) = false) (hq : badO (oneO s i) i last out = false) : scanR s i last out = scanR s (oneO s i).2.1 ((oneO s i).2.1 : Nat) (out ++ [(oneO s i).1]) := by
  rw [scanR_step h, if_neg (by rw [hb]; simp), if_neg (by rw [hh]; simp), if_neg (by rw [hq]; simp)]
def scanO (s : List UInt8) : List Wrd × Int × Int := if 8000 < s.length then ([], 8000, 6) else scanR s 0 (-1) []
end Go.Eng
namespace Go.Eng
open Go Go.RowKit
structure COp where
  k : Int
  a : Int
  b : Int
structure CLk where
  sh : Bool
  sl : Int
  cr : Int
  rd : Int
  wr : Int
instance : Inhabited COp := ⟨⟨0, 0, 0⟩⟩
instance : Inhabited CLk := ⟨⟨false, 0, 0, 0, 0⟩⟩
def fO (o : COp) : List Value := [.int .i64 o.k, .int .i64 o.a, .int .i64 o.b]
def fL (x : CLk) : List Value := [.bool x.sh, .int .i64 x.sl, .int .i64 x.cr, .int .i64 x.rd, .int .i64 x.wr]
/-! the first that is such -/
def fixI {α : Type} (p : α → Bool) (xs : List α) : Int := if xs.any p then (xs.findIdx p : Nat) else -1
theorem any_snoc {α : Type} {p : α → Bool} {xs : List α} {i : Nat} (d : α) (h : i < xs.length) : (xs.take (i + 1)).any p = ((xs.take i).any p || p (xs.getD i d)) := by
  rw [take_snoc d h, List.any_append]; simp
theorem fix_hit {α : Type} {p : α → Bool} {xs : List α} {i : Nat} (d : α) (h0 : (xs.take i).any p = false) (h : i < xs.length) (hp : p (xs.getD i d) = true) : fixI p xs = (i : Nat) := by
  have e := getq d h
  have h1 : xs.any p = true := List.any_eq_true.2 ⟨_, List.mem_of_getElem? e, hp⟩
  have h2 : xs.findIdx p = i := by
    rw [List.findIdx_eq h]
    refine ⟨by rw [List.getElem?_eq_getElem h] at e; rw [Option.some.inj e]; exact hp, fun j hj => ?_⟩
    have h3 := List.any_eq_false.1 h0 xs[j] (by rw [List.mem_take_iff_getElem]; exact ⟨j, by omega, rfl⟩)
    simpa using h3
  unfold fixI; rw [if_pos h1, h2]
theorem fix_miss {α : Type} {p : α → Bool} {xs : List α} (h : xs.any p = false) : fixI p xs = -1 := by
  unfold fixI; rw [h]; rfl
theorem fix_pos {α : Type} {p : α → Bool} {xs : List α} : decide (0 ≤ fixI p xs) = xs.any p := by
  unfold fixI
  cases xs.any p
  · rfl
  · simp
/-! ops -/
def takesB (k : Int) : Bool := decide (2 ≤ k) && decide (k ≤ 5)
def passB (k : Int) : Bool := decide (k = 1) || decide (k = 7) || decide (k = 8) || decide (k = 11)
def loA (k : Int) : Int := if k = 1 then 1 else if k = 2 ∨ k = 3 ∨ k = 4 ∨ k = 6 ∨ k = 9 then 0 else if k = 5 then 0 else if k = 7 then 1 else if k = 10 then 1 else -1
def hiA (k : Int) : Int := if k = 1 then 16 else if k = 2 ∨ k = 3 ∨ k = 4 ∨ k = 6 ∨ k = 9 then 7 else if k = 5 then 7 else if k = 7 then 64 else if k = 10 then 16 else -1
def loB (k : Int) : Int := if k = 5 then 1 else -1
def hiB (k : Int) : Int := if k = 5 then 64 else -1
def hasB (lo hi n : Int) : Bool := if lo = -1 then decide (n = 0) else decide (lo ≤ n) && decide (n ≤ hi)
def kindB (k : Int) : Bool := decide (1 ≤ k) && decide (k ≤ 11)
def rightB (o : COp) : Bool := kindB o.k && hasB (loA o.k) (hiA o.k) o.a && hasB (loB o.k) (hiB o.k) o.b
theorem takes_row (k : Int) : [(2 : Int), 3, 4, 5].any (fun y => decide (k = y)) = takesB k := by
  unfold takesB; simp only [List.any_cons, List.any_nil, Bool.or_false]
  by_cases h : 2 ≤ k ∧ k ≤ 5
  · have : k = 2 ∨ k = 3 ∨ k = 4 ∨ k = 5 := by omega
    rcases this with rfl | rfl | rfl | rfl <;> rfl
  · rw [show decide (k = 2) = false from decide_eq_false (by omega), show decide (k = 3) = false from decide_eq_false (by omega), show decide (k = 4) = false from decide_eq_false (by omega), show decide (k = 5) = false from decide_eq_false (by omega)]
    by_cases h2 : 2 ≤ k
    · rw [show decide (k ≤ 5) = false from decide_eq_false (by omega)]; simp
    · rw [show decide (2 ≤ k) = false from decide_eq_false h2]; rfl
theorem pass_row (k : Int) : [(1 : Int), 7, 8, 11].any (fun y => decide (k = y)) = passB k := by
  unfold passB; simp only [List.any_cons, List.any_nil, Bool.or_false, Bool.or_assoc]
/-! names -/
/-! sections: the steps to the end, and the ticks -/
def stopB (lock : Int) (o : COp) : Bool := decide (o.k = 11) || (decide (o.k = 6) && decide (o.a = lock))
def secT (lock : Int) : List COp → Nat × Int
  | [] => (0, 0)
  | o :: l => if stopB lock o then (0, 0) else ((secT lock l).1 + 1, (if o.k = 1 then o.a else 0) + (secT lock l).2)
theorem sec_step {lock : Int} {xs : List COp} {i : Nat} (h : i < xs.length) (hs : stopB lock (xs.getD i default) = false) :
    secT lock (xs.drop i) = ((secT lock (xs.drop (i + 1))).1 + 1, (if (xs.getD i default).k = 1 then (xs.getD i default).a else 0) + (secT lock (xs.drop (i + 1))).2) := by
  have e := getq (default : COp) h
  rw [List.getElem?_eq_getElem h] at e
  rw [List.drop_eq_getElem_cons h, Option.some.inj e]
  rw [secT, if_neg (by rw [hs]; simp)]
theorem sec_stop {lock : Int} {xs : List COp} {i : Nat} (h : i < xs.length) (hs : stopB lock (xs.getD i default) = true) : secT lock (xs.drop i) = (0, 0) := by
  have e := getq (default : COp) h
  rw [List.getElem?_eq_getElem h] at e
  rw [List.drop_eq_getElem_cons h, Option.some.inj e]
  rw [secT, if_pos hs]
theorem sec_end {lock : Int} {xs : List COp} {i : Nat} (h : xs.length ≤ i) : secT lock (xs.drop i) = (0, 0) := by
  rw [List.drop_of_length_le h]; rfl
def smallO (xs : List COp) : Prop := xs.length ≤ 20 ∧ ∀ o ∈ xs, -1125899906842624 ≤ o.a ∧ o.a ≤ 1125899906842624
theorem smallO.at {xs : List COp} (h : smallO xs) (i : Nat) : -1125899906842624 ≤ (xs.getD i default).a ∧ (xs.getD i default).a ≤ 1125899906842624 := by
  by_cases hi : i < xs.length
  · exact h.2 _ (List.mem_of_getElem? (getq default hi))
  · rw [List.getD_eq_getElem?_getD, List.getElem?_eq_none (by omega)]; decide
/-! which ops fit -/
def secO (xs : List COp) (i : Nat) : Nat × Int := secT (xs.getD i default).a (xs.drop (i + 1))
def fitsO (fv : Bool) (xs : List COp) (ls : List CLk) (progs : Int) (i : Nat) : Int :=
  if (takesB (xs.getD i default).k || decide ((xs.getD i default).k = 6)) && decide ((xs.getD i default).a ≥ ls.length) || decide ((xs.getD i default).k = 9) && decide ((xs.getD i default).a ≥ progs) then 4
  else if decide ((xs.getD i default).k = 3) && !(ls.getD (xs.getD i default).a.toNat default).sh then 1
  else if !takesB (xs.getD i default).k then 0
  else if decide ((secO xs i).2 < 1) || decide ((secO xs i).2 > (ls.getD (xs.getD i default).a.toNat default).cr) || fv && decide (((i + 1 + (secO xs i).1 : Nat) : Int) = xs.length) then 13 else 0
def mayB (xs : List COp) : Bool := decide (0 < xs.length) && decide (xs.length ≤ 12) && xs.all rightB
def ckO (fv : Bool) (xs : List COp) (ls : List CLk) (progs : Int) : Int × Int :=
  if mayB xs then
    match (List.range xs.length).find? (fun j => decide (fitsO fv xs ls progs j ≠ 0)) with
    | some j => ((j : Int), fitsO fv xs ls progs j)
    | none => if fv && !xs.any (fun o => passB o.k) then (0, 1) else (0, 0)
  else (0, 1)
theorem right_a {o : COp} (h : rightB o = true) : 0 ≤ o.a ∧ o.a ≤ 64 ∧ (2 ≤ o.k ∧ o.k ≤ 6 ∨ o.k = 9 → o.a ≤ 7) := by
  unfold rightB kindB hasB loA hiA at h
  simp only [Bool.and_eq_true, decide_eq_true_eq] at h
  obtain ⟨⟨⟨h1, h2⟩, h3⟩, -⟩ := h
  have : o.k = 1 ∨ o.k = 2 ∨ o.k = 3 ∨ o.k = 4 ∨ o.k = 5 ∨ o.k = 6 ∨ o.k = 7 ∨ o.k = 8 ∨ o.k = 9 ∨ o.k = 10 ∨ o.k = 11 := by omega
  rcases this with hk | hk | hk | hk | hk | hk | hk | hk | hk | hk | hk <;> rw [hk] at h3 ⊢ <;> simp at h3 <;> omega
theorem may_at {xs : List COp} (h : mayB xs = true) {i : Nat} (hi : i < xs.length) : rightB (xs.getD i default) = true := by
  unfold mayB at h; simp only [Bool.and_eq_true, List.all_eq_true] at h
  exact h.2 _ (List.mem_of_getElem? (getq default hi))
theorem may_small {xs : List COp} (h : mayB xs = true) : smallO xs := by
  have h' := h
  unfold mayB at h; simp only [Bool.and_eq_true, List.all_eq_true, decide_eq_true_eq] at h
  exact ⟨by omega, fun o ho => by have := right_a (h.2 o ho); omega⟩
theorem ck_none {fv : Bool} {xs : List COp} {ls : List CLk} {progs : Int} (h : mayB xs = false) : ckO fv xs ls progs = (0, 1) := by unfold ckO; rw [h]; rfl
theorem ck_at {fv : Bool} {xs : List COp} {ls : List CLk} {progs : Int} {i : Nat} (h : mayB xs = true) (h0 : ∀ j, j < i → fitsO fv xs ls progs j = 0) (hi : i < xs.length) (hf : fitsO fv xs ls progs i ≠ 0) : ckO fv xs ls progs = ((i : Int), fitsO fv xs ls progs i) := by
  unfold ckO
  rw [if_pos h, (List.find?_range_eq_some (i := i)).2 ⟨by simpa using hf, List.mem_range.2 hi, fun j hj => by simp [h0 j hj]⟩]
theorem ck_end {fv : Bool} {xs : List COp} {ls : List CLk} {progs : Int} (h : mayB xs = true) (h0 : ∀ j, j < xs.length → fitsO fv xs ls progs j = 0) : ckO fv xs ls progs = if fv && !xs.any (fun o => passB o.k) then (0, 1) else (0, 0) := by
  unfold ckO
  rw [if_pos h, List.find?_range_eq_none.2 (fun j hj => by simp [h0 j hj])]
theorem before_succ {g : Nat → Int} {i : Nat} (h : ∀ j, j < i → g j = 0) (hi : g i = 0) : ∀ j, j < i + 1 → g j = 0 := fun j hj => by
  rcases Nat.lt_or_ge j i with h1 | h1
  · exact h j h1
  · rw [show j = i by omega]; exact hi
/-! more ticks, more locks, more programs -/
def mx0 (c : Int) : Int := if 0 > c then 0 else c
theorem ck_zero {fv : Bool} {xs : List COp} {ls : List CLk} {progs : Int} (h : (ckO fv xs ls progs).2 = 0) : mayB xs = true ∧ (∀ j, j < xs.length → fitsO fv xs ls progs j = 0) ∧ (fv && !xs.any (fun o => passB o.k)) = false := by
  cases hm : mayB xs with
  | false => rw [ck_none hm] at h; cases h
  | true =>
    cases hq : (List.range xs.length).find? (fun j => decide (fitsO fv xs ls progs j ≠ 0)) with
    | some j =>
      obtain ⟨h1, h2, h3⟩ := List.find?_range_eq_some.1 hq
      rw [ck_at hm (fun i hi => by simpa using h3 i hi) (List.mem_range.1 h2) (by simpa using h1)] at h
      exact absurd h (by simpa using h1)
    | none =>
      have h1 := List.find?_range_eq_none.1 hq
      have h2 : ∀ j, j < xs.length → fitsO fv xs ls progs j = 0 := fun j hj => by simpa using h1 j hj
      refine ⟨rfl, h2, ?_⟩
      rw [ck_end hm h2] at h
      cases hb : (fv && !xs.any (fun o => passB o.k)) with
      | false => rfl
      | true => rw [hb] at h; cases h
/-! ### What is gone over -/
def eachA (xs : List COp) : List (Array Value) := (List.range xs.length).map (fun i => #[.int .i64 (i : Nat), .agg (fO (xs.getD i default)).toArray])
theorem eachA_get {xs : List COp} {i : Nat} (h : i < xs.length) : (eachA xs)[i]? = some #[.int .i64 (i : Nat), .agg (fO (xs.getD i default)).toArray] := by
  unfold eachA; rw [List.getElem?_map, List.getElem?_range h]; rfl
theorem eachA_inv {xs : List COp} {k : Nat} {a : Array Value} (h : (eachA xs)[k]? = some a) : k < xs.length ∧ a = #[.int .i64 (k : Nat), .agg (fO (xs.getD k default)).toArray] := by
  have hk : k < xs.length := by
    have := (List.getElem?_eq_some_iff.1 h).1
    simpa [eachA] using this
  rw [eachA_get hk] at h
  exact ⟨hk, (Option.some.inj h).symm⟩
theorem eachA_len (xs : List COp) : (eachA xs).length = xs.length := by simp [eachA]
def secV (xs : List COp) (i : Nat) : Value := .agg #[.int .i64 (i : Nat), .int .i64 ((i + 1 + (secO xs i).1 : Nat)), .int .i64 (xs.getD i default).a, .int .i64 (secO xs i).2]
end Go.Eng
namespace Go.Eng
open Go Go.RowKit
def fB (l : List UInt8) : List Value := [.string (bs l)]
def nmW : List (List UInt8) := [[], [99, 111, 109, 112, 117, 116, 101], [108, 111, 99, 107], [114, 101, 97, 100], [116, 114, 121], [116, 105, 109, 101, 100], [117, 110, 108, 111, 99, 107], [115, 108, 101, 101, 112], [121, 105, 101, 108, 100], [115, 112, 97, 119, 110], [119, 101, 105, 103, 104, 116], [101, 120, 105, 116]]
def nmT (k : Int) : List UInt8 := if 0 ≤ k ∧ k < 12 then nmW.getD k.toNat [] else []
theorem nmT_empty (k : Int) : decide (nmT k ≠ []) = kindB k := by
  unfold kindB
  by_cases h : 0 ≤ k ∧ k < 12
  · have : k = 0 ∨ k = 1 ∨ k = 2 ∨ k = 3 ∨ k = 4 ∨ k = 5 ∨ k = 6 ∨ k = 7 ∨ k = 8 ∨ k = 9 ∨ k = 10 ∨ k = 11 := by omega
    rcases this with rfl | rfl | rfl | rfl | rfl | rfl | rfl | rfl | rfl | rfl | rfl | rfl <;> decide +kernel
  · unfold nmT; rw [if_neg h]
    by_cases h2 : 1 ≤ k
    · rw [show decide (k ≤ 11) = false from decide_eq_false (by omega)]; simp
    · rw [show decide (1 ≤ k) = false from decide_eq_false h2]; simp
abbrev wProg : List UInt8 := [112, 114, 111, 103]
abbrev wForever : List UInt8 := [102, 111, 114, 101, 118, 101, 114]
def isR (ws : List Wrd) (i : Nat) (k : Int) (t : List UInt8) : Bool := decide (i < ws.length) && decide ((ws.getD i default).k = k) && decide ((ws.getD i default).t = t)
def kindT (t : List UInt8) : Int := mx0 (fixI (fun y => decide (t = y)) nmW)
def kindR (ws : List Wrd) (i : Nat) : Int := if (decide (i < ws.length) && decide ((ws.getD i default).k = 1)) then kindT (ws.getD i default).t else 0
def refK (t : List UInt8) : Nat → Int
  | 0 => 0
  | k + 1 => if t = nmW.getD (k + 1) [] then ((k + 1 : Nat) : Int) else refK t k
theorem refK_eq (t : List UInt8) : refK t 11 = kindT t := by
  by_cases h : t ∈ nmW
  · have : t = [] ∨ t ∈ nmW.tail := by simpa [nmW] using h
    simp only [nmW, List.mem_cons, List.not_mem_nil, or_false] at h
    rcases h with rfl | rfl | rfl | rfl | rfl | rfl | rfl | rfl | rfl | rfl | rfl | rfl <;> decide +kernel
  · have h2 : fixI (fun y => decide (t = y)) nmW = -1 := fix_miss (by
      rw [List.any_eq_false]; intro y hy; simp only [decide_eq_true_eq]; rintro rfl; exact h hy)
    unfold kindT; rw [h2]
    simp only [nmW, List.mem_cons, List.not_mem_nil, or_false, not_or] at h
    obtain ⟨-, a1, a2, a3, a4, a5, a6, a7, a8, a9, a10, a11⟩ := h
    simp only [refK, nmW, List.getD_cons_succ, List.getD_cons_zero, if_neg a1, if_neg a2, if_neg a3, if_neg a4, if_neg a5, if_neg a6, if_neg a7, if_neg a8, if_neg a9, if_neg a10, if_neg a11]
    rfl
theorem kindT_rng (t : List UInt8) : 0 ≤ kindT t ∧ kindT t ≤ 11 := by
  rw [← refK_eq]
  have : ∀ k : Nat, 0 ≤ refK t k ∧ refK t k ≤ (k : Int) := by
    intro k
    induction k with
    | zero => exact ⟨Int.le_refl _, Int.le_refl _⟩
    | succ k ih => unfold refK; split <;> omega
  exact this 11
theorem kindR_rng (ws : List Wrd) (i : Nat) : 0 ≤ kindR ws i ∧ kindR ws i ≤ 11 := by
  unfold kindR; split
  · exact kindT_rng _
  · omega
theorem kindR_lt {ws : List Wrd} {i : Nat} (h : kindR ws i ≠ 0) : i < ws.length := by
  unfold kindR at h; split at h
  · rename_i q; simp only [Bool.and_eq_true, decide_eq_true_eq] at q; exact q.1
  · exact absurd rfl h
def numR (ws : List Wrd) (i : Nat) (lo hi : Int) : Nat × Int × Int :=
  if lo = -1 then (i, 0, 0)
  else if (decide (ws.length ≤ i) || decide ((ws.getD i default).k ≠ 2)) then (i, 5, 0)
  else if hasB lo hi (ws.getD i default).n then (i + 1, 0, (ws.getD i default).n) else (i, 1, 0)
theorem numR_le {ws : List Wrd} {i : Nat} {lo hi : Int} (h : i ≤ ws.length) : i ≤ (numR ws i lo hi).1 ∧ (numR ws i lo hi).1 ≤ ws.length := by
  unfold numR; split
  · exact ⟨Nat.le_refl _, h⟩
  split
  · exact ⟨Nat.le_refl _, h⟩
  rename_i q
  simp only [Bool.or_eq_true, decide_eq_true_eq, not_or] at q
  split
  · simp only; omega
  · exact ⟨Nat.le_refl _, h⟩
def num2 (ws : List Wrd) (a : Nat × Int × Int) (lo hi : Int) : Nat × Int × Int := if a.2.1 ≠ 0 then (a.1, a.2.1, 0) else numR ws a.1 lo hi
def opA (ws : List Wrd) (i : Nat) : Nat × Int × Int := numR ws (i + 1) (loA (kindR ws i)) (hiA (kindR ws i))
def opB (ws : List Wrd) (i : Nat) : Nat × Int × Int := num2 ws (opA ws i) (loB (kindR ws i)) (hiB (kindR ws i))
def opR (ws : List Wrd) (i ahead : Nat) : Nat × Int × COp :=
  if kindR ws i = 0 then (i, 5, ⟨0, 0, 0⟩)
  else if 12 ≤ ahead then (i, 6, ⟨0, 0, 0⟩)
  else if (opB ws i).2.1 ≠ 0 then ((opB ws i).1, (opB ws i).2.1, ⟨kindR ws i, (opA ws i).2.2, (opB ws i).2.2⟩)
  else if isR ws (opB ws i).1 3 [59] then ((opB ws i).1 + 1, 0, ⟨kindR ws i, (opA ws i).2.2, (opB ws i).2.2⟩)
  else ((opB ws i).1, 5, ⟨kindR ws i, (opA ws i).2.2, (opB ws i).2.2⟩)
theorem opB_le {ws : List Wrd} {i : Nat} (h : kindR ws i ≠ 0) : i < (opB ws i).1 ∧ (opB ws i).1 ≤ ws.length := by
  have h1 := kindR_lt h
  have h2 := numR_le (ws := ws) (i := i + 1) (lo := loA (kindR ws i)) (hi := hiA (kindR ws i)) h1
  unfold opB num2
  split
  · unfold opA; simp only; omega
  · have h3 := numR_le (ws := ws) (i := (opA ws i).1) (lo := loB (kindR ws i)) (hi := hiB (kindR ws i)) h2.2
    unfold opA at h3 ⊢; omega
theorem isR_lt {ws : List Wrd} {i : Nat} {k : Int} {t : List UInt8} (h : isR ws i k t = true) : i < ws.length := by
  unfold isR at h; simp only [Bool.and_eq_true, decide_eq_true_eq] at h; exact h.1.1
theorem opR_lt {ws : List Wrd} {i ahead : Nat} (h : (opR ws i ahead).2.1 = 0) : i < (opR ws i ahead).1 ∧ (opR ws i ahead).1 ≤ ws.length := by
  unfold opR at h ⊢
  split at h
  · cases h
  rename_i h1
  rw [if_neg h1]
  split at h
  · cases h
  rename_i h2
  rw [if_neg h2]
  split at h
  · rename_i h3; exact absurd h h3
  rename_i h3
  rw [if_neg h3]
  split at h
  · rename_i h4
    rw [if_pos h4]
    have := opB_le h1; have := isR_lt h4
    simp only; omega
  · cases h
def loopP : Nat → List Wrd → Nat → List COp → List COp × Int × Int
  | 0, _, i, _ => ([], (i : Nat), 5)
  | f + 1, ws, i, ops =>
    if isR ws i 3 [125] then (if ops.length = 0 then ([], (i : Nat), 4) else (ops, ((i + 1 : Nat) : Int), 0))
    else if (opR ws i ops.length).2.1 ≠ 0 then ([], ((opR ws i ops.length).1 : Nat), (opR ws i ops.length).2.1)
    else loopP f ws (opR ws i ops.length).1 (ops ++ [(opR ws i ops.length).2.2])
theorem loopP_fuel (ws : List Wrd) : ∀ (f g i : Nat) (ops : List COp), ws.length - i + 1 ≤ f → ws.length - i + 1 ≤ g → loopP f ws i ops = loopP g ws i ops
  | 0, _, i, _, h, _ => absurd h (by omega)
  | _ + 1, 0, i, _, _, h => absurd h (by omega)
  | f + 1, g + 1, i, ops, h1, h2 => by
    simp only [loopP]
    split
    · rfl
    split
    · rfl
    · rename_i h3 h4
      have := opR_lt (Classical.not_not.1 h4)
      exact loopP_fuel ws f g _ _ (by omega) (by omega)
def loopR (ws : List Wrd) (i : Nat) (ops : List COp) : List COp × Int × Int := loopP (ws.length - i + 1) ws i ops
theorem loopR_done {ws : List Wrd} {i : Nat} {ops : List COp} (h : isR ws i 3 [125] = true) : loopR ws i ops = if ops.length = 0 then ([], (i : Int), 4) else (ops, ((i + 1 : Nat) : Int), 0) := by
  unfold loopR; rw [loopP, if_pos h]
theorem loopR_bad {ws : List Wrd} {i : Nat} {ops : List COp} (h : isR ws i 3 [125] = false) (h2 : (opR ws i ops.length).2.1 ≠ 0) : loopR ws i ops = ([], ((opR ws i ops.length).1 : Int), (opR ws i ops.length).2.1) := by
  unfold loopR; rw [loopP, if_neg (by rw [h]; simp), if_pos h2]
theorem loopR_next {ws : List Wrd} {i : Nat} {ops : List COp} (h : isR ws i 3 [125] = false) (h2 : (opR ws i ops.length).2.1 = 0) : loopR ws i ops = loopR ws (opR ws i ops.length).1 (ops ++ [(opR ws i ops.length).2.2]) := by
  have h3 := opR_lt h2
  unfold loopR; rw [loopP, if_neg (by rw [h]; simp), if_neg (by rw [h2]; simp)]
  exact loopP_fuel ws _ _ _ _ (by omega) (by omega)
def headR (ws : List Wrd) (i : Nat) : Bool × Nat := (isR ws (i + 1) 1 wForever, if isR ws (i + 1) 1 wForever then i + 2 else i + 1)
def bodyR (ws : List Wrd) (i : Nat) : List COp × Int × Int :=
  if isR ws i 1 wProg then (if isR ws (headR ws i).2 3 [123] then loopR ws ((headR ws i).2 + 1) [] else ([], ((headR ws i).2 : Int), 5)) else ([], (i : Int), 5)
def parseO (ws : List Wrd) (p : Int) : Bool × List COp × Int × Int :=
  if p < 0 ∨ (ws.length : Int) < p then (false, [], 0, 5)
  else (decide ((bodyR ws p.toNat).2.2 = 0) && (headR ws p.toNat).1, bodyR ws p.toNat)
/-! what is parsed may be -/
end Go.Eng
namespace Go.Eng
open Go Go.RowKit
def digF : Nat → Nat → List UInt8
  | 0, _ => []
  | f + 1, u => if u < 10 then [UInt8.ofNat (48 + u)] else digF f (u / 10) ++ [UInt8.ofNat (48 + u % 10)]
theorem digF_eq : ∀ (f u : Nat), u < 10 ^ (f + 1) → digF (f + 1) u = Lib.decDigits u
  | 0, u, h => by
    rw [digF, Lib.decDigits, if_pos (by simpa using h), dif_pos (by simpa using h)]
  | f + 1, u, h => by
    rw [digF, Lib.decDigits]
    split
    · rfl
    · rw [digF_eq f (u / 10) (by rw [Nat.pow_succ] at h; omega)]
theorem digF_len (f u : Nat) : (digF f u).length ≤ f := by
  induction f generalizing u with
  | zero => simp [digF]
  | succ f ih => unfold digF; split; simp; have := ih (u / 10); simp; omega
theorem itoa_digF {n : Int} (h0 : 0 ≤ n) (h1 : n ≤ 999999999) : Lib.itoa n = digF 10 n.toNat := by
  unfold Lib.itoa; rw [if_neg (by omega), digF_eq 9 n.toNat (by omega)]
abbrev lettersL : List UInt8 := [97, 98, 99, 100, 101, 102, 103, 104, 105, 106, 107, 108, 109, 110, 111, 112, 113, 114, 115, 116, 117, 118, 119, 120, 121, 122]
abbrev marksL : List UInt8 := [123, 125, 59, 46, 61]
theorem all256 (p q : UInt8 → Bool) (h : (List.range 256).all (fun n => p (UInt8.ofNat n) == q (UInt8.ofNat n)) = true) (c : UInt8) : p c = q c := by
  have h1 := List.all_eq_true.1 h c.toNat (List.mem_range.2 (by have := c.toNat_lt; omega))
  simpa using h1
theorem letters_let (c : UInt8) : lettersL.contains c = letB c := all256 (fun c => lettersL.contains c) letB (by decide +kernel) c
theorem marks_mark (c : UInt8) : decide (0 ≤ Lib.indexByte marksL c) = markB c := all256 (fun c => decide (0 ≤ Lib.indexByte marksL c)) markB (by decide +kernel) c
theorem dropWhile_nil {p : UInt8 → Bool} : ∀ {l : List UInt8}, l.dropWhile p = [] ↔ l.all p = true
  | [] => by simp
  | c :: l => by
    rw [List.dropWhile_cons, List.all_cons]
    cases h : p c with
    | true => rw [if_pos rfl, Bool.true_and]; exact dropWhile_nil
    | false => simp
theorem all_tw (p : UInt8 → Bool) : ∀ (l : List UInt8), (l.takeWhile p).all p = true
  | [] => rfl
  | c :: l => by
    rw [List.takeWhile_cons]
    cases h : p c with
    | true => rw [if_pos rfl, List.all_cons, h, Bool.true_and]; exact all_tw p l
    | false => rfl
theorem trim_letters (t : List UInt8) : decide (Lib.trimS t lettersL = []) = t.all letB := by
  have hp : (fun c => lettersL.contains c) = letB := funext letters_let
  unfold Lib.trimS Lib.trimLeftS Lib.trimRightS
  rw [hp]
  have key : (List.dropWhile letB (List.dropWhile letB t.reverse).reverse = []) ↔ t.all letB = true := by
    rw [dropWhile_nil]
    have h1 : t.reverse = t.reverse.takeWhile letB ++ t.reverse.dropWhile letB := (List.takeWhile_append_dropWhile ..).symm
    have h2 : (t.reverse.takeWhile letB).all letB = true := all_tw _ _
    have h3 : t.reverse.all letB = (t.reverse.dropWhile letB).all letB := by
      conv => lhs; rw [h1]
      rw [List.all_append, h2, Bool.true_and]
    rw [List.all_reverse, ← h3, List.all_reverse]
  rw [Bool.eq_iff_iff, decide_eq_true_eq]; exact key
def isNum (w : Wrd) : Bool := decide (w.k = 2) && decide (w.t = []) && decide (0 ≤ w.n) && decide (w.n ≤ 999999999)
def isBad (w : Wrd) : Bool := decide (w.n ≠ 0) || decide (w.t = [])
def isName (w : Wrd) : Bool := decide (w.k = 1) && decide (w.t.length ≤ 12) && w.t.all letB
def isMark (w : Wrd) : Bool := decide (w.k = 3) && decide (w.t.length = 1) && w.t.all markB
def textO (w : Wrd) : List UInt8 × Int :=
  if isNum w then (digF 10 w.n.toNat, 0)
  else if isBad w then ([], 1)
  else if isName w then (w.t, 0)
  else if isMark w then (w.t, 0)
  else ([], 1)
theorem text_len (w : Wrd) : (textO w).1.length ≤ 12 := by
  unfold textO
  split
  · have := digF_len 10 w.n.toNat; simp only; omega
  split
  · simp
  split
  · rename_i h; unfold isName at h; simp only [Bool.and_eq_true, decide_eq_true_eq] at h; exact h.1.2
  split
  · rename_i h; unfold isMark at h; simp only [Bool.and_eq_true, decide_eq_true_eq] at h; simp only; omega
  · simp
theorem text_bad {w : Wrd} (h : (textO w).2 ≠ 0) : (textO w).1 = [] ∧ (textO w).2 = 1 := by
  unfold textO at h ⊢
  (repeat' split) <;> simp_all
def glue (out s : List UInt8) : List UInt8 := (if decide (0 < out.length) && decide (s ≠ [59]) then out ++ [32] else out) ++ s
def joinF : List Wrd → List UInt8 → List UInt8 × Int
  | [], out => if 8000 < out.length then ([], 6) else (out, 0)
  | w :: l, out => if (textO w).2 ≠ 0 then ([], 1) else joinF l (glue out (textO w).1)
def joinO (l : List Wrd) : List UInt8 × Int := joinF l []
theorem joinF_end {ws : List Wrd} {i : Nat} {out : List UInt8} (h : ws.length ≤ i) : joinF (ws.drop i) out = if 8000 < out.length then ([], 6) else (out, 0) := by
  rw [List.drop_of_length_le h]; rfl
theorem dropW {ws : List Wrd} {i : Nat} (h : i < ws.length) : ws.drop i = ws.getD i default :: ws.drop (i + 1) := by
  have e := getq (default : Wrd) h
  rw [List.getElem?_eq_getElem h] at e
  rw [List.drop_eq_getElem_cons h, Option.some.inj e]
theorem joinF_bad {ws : List Wrd} {i : Nat} {out : List UInt8} (h : i < ws.length) (h2 : (textO (ws.getD i default)).2 ≠ 0) : joinF (ws.drop i) out = ([], 1) := by
  rw [dropW h, joinF, if_pos h2]
theorem joinF_next {ws : List Wrd} {i : Nat} {out : List UInt8} (h : i < ws.length) (h2 : (textO (ws.getD i default)).2 = 0) : joinF (ws.drop i) out = joinF (ws.drop (i + 1)) (glue out (textO (ws.getD i default)).1) := by
  rw [dropW h, joinF, if_neg (by rw [h2]; simp)]
theorem glue_len (out : List UInt8) (w : Wrd) : (glue out (textO w).1).length ≤ out.length + 13 := by
  have := text_len w
  unfold glue; split <;> simp <;> omega
end Go.Eng
namespace Go.Eng
open Go Go.Proofs Go.RowKit
set_option maxRecDepth 100000 in
theorem letter_spec (n : Int) (w : World) : Ret Tryz.prog 77 #[.int .u8 n] w (fun v w' => v = .bool (letN n) ∧ Ext w w') := by
 refine Ret.enterM (l := [.int .u8 n]) Tryz.func77 rfl Tryz.ntmps77 rfl ([]) (no) (Mem.nil w) ?_
 refine wpM.seq (wpM.region ?_)
 refine LM.as rfl ?_
 refine LM.nil (QM.sub (e' := [(0, _)]) ⟨rfl, trivial⟩ (QM.then (wpM.seq (wpM.region ?_))))
 refine LM.mv rfl ?_
 refine LM.val (ov_geq rfl rfl) ?_
 refine LM.mv rfl ?_
 refine LM.splitD (t := 5) rfl (fun h1 => ?_) (fun h1 => ?_)
 ·
  refine LM.sp 5 rfl rfl rfl (LM.mv rfl (LM.sp 5 rfl rfl rfl ?_))
  refine LM.val (ov_leq rfl rfl) ?_
  refine LM.val (ov_pickT rfl rfl) ?_
  refine LM.as rfl ?_
  refine LM.nil (QM.sub (e' := [(2, _)]) ⟨rfl, trivial⟩ (QM.then ?_))
  refine wpM.ret ?_
  refine QM.leave (.inl rfl) [.tmp 2] Tryz.results77 rfl ?_
  intro w' hm' hc' hg'
  refine ⟨?_, hc'⟩; simp only [resV, letN]; congr 1; first | (rw [decide_eq_false (show ¬ 97 ≤ n by omega)]; rfl) | (rw [decide_eq_true (show 97 ≤ n by omega)]; rfl)
 refine LM.dr 5 rfl rfl rfl (LM.dr 5 rfl rfl rfl ?_)
 refine LM.val (ov_pickF rfl rfl) ?_
 refine LM.as rfl ?_
 refine LM.nil (QM.sub (e' := [(2, _)]) ⟨rfl, trivial⟩ (QM.then ?_))
 refine wpM.ret ?_
 refine QM.leave (.inl rfl) [.tmp 2] Tryz.results77 rfl ?_
 intro w' hm' hc' hg'
 refine ⟨?_, hc'⟩; simp only [resV, letN]; congr 1; first | (rw [decide_eq_false (show ¬ 97 ≤ n by omega)]; rfl) | (rw [decide_eq_true (show 97 ≤ n by omega)]; rfl)
set_option maxRecDepth 100000 in
theorem digit_spec (n : Int) (w : World) : Ret Tryz.prog 78 #[.int .u8 n] w (fun v w' => v = .bool (digN n) ∧ Ext w w') := by
 refine Ret.enterM (l := [.int .u8 n]) Tryz.func78 rfl Tryz.ntmps78 rfl ([]) (no) (Mem.nil w) ?_
 refine wpM.seq (wpM.region ?_)
 refine LM.as rfl ?_
 refine LM.nil (QM.sub (e' := [(0, _)]) ⟨rfl, trivial⟩ (QM.then (wpM.seq (wpM.region ?_))))
 refine LM.mv rfl ?_
 refine LM.val (ov_geq rfl rfl) ?_
 refine LM.mv rfl ?_
 refine LM.splitD (t := 5) rfl (fun h1 => ?_) (fun h1 => ?_)
 ·
  refine LM.sp 5 rfl rfl rfl (LM.mv rfl (LM.sp 5 rfl rfl rfl ?_))
  refine LM.val (ov_leq rfl rfl) ?_
  refine LM.val (ov_pickT rfl rfl) ?_
  refine LM.as rfl ?_
  refine LM.nil (QM.sub (e' := [(2, _)]) ⟨rfl, trivial⟩ (QM.then ?_))
  refine wpM.ret ?_
  refine QM.leave (.inl rfl) [.tmp 2] Tryz.results78 rfl ?_
  intro w' hm' hc' hg'
  refine ⟨?_, hc'⟩; simp only [resV, digN]; congr 1; first | (rw [decide_eq_false (show ¬ 48 ≤ n by omega)]; rfl) | (rw [decide_eq_true (show 48 ≤ n by omega)]; rfl)
 refine LM.dr 5 rfl rfl rfl (LM.dr 5 rfl rfl rfl ?_)
 refine LM.val (ov_pickF rfl rfl) ?_
 refine LM.as rfl ?_
 refine LM.nil (QM.sub (e' := [(2, _)]) ⟨rfl, trivial⟩ (QM.then ?_))
 refine wpM.ret ?_
 refine QM.leave (.inl rfl) [.tmp 2] Tryz.results78 rfl ?_
 intro w' hm' hc' hg'
 refine ⟨?_, hc'⟩; simp only [resV, digN]; congr 1; first | (rw [decide_eq_false (show ¬ 48 ≤ n by omega)]; rfl) | (rw [decide_eq_true (show 48 ≤ n by omega)]; rfl)
set_option maxRecDepth 100000 in
theorem mark_spec (n : Int) (w : World) : Ret Tryz.prog 79 #[.int .u8 n] w (fun v w' => v = .bool (markN n) ∧ Ext w w') := by
 refine Ret.enterM (l := [.int .u8 n]) Tryz.func79 rfl Tryz.ntmps79 rfl ([]) (no) (Mem.nil w) ?_
 refine wpM.seq (wpM.region ?_)
 refine LM.as rfl ?_
 refine LM.nil (QM.sub (e' := [(0, _)]) ⟨rfl, trivial⟩ (QM.then (wpM.seq (wpM.region ?_))))
 refine LM.mv rfl ?_
 refine LM.val (ov_eql rfl rfl) ?_
 refine LM.mv rfl ?_
 refine LM.splitD (t := 5) rfl (fun h1 => ?_) (fun h1 => ?_)
 ·
  refine LM.dr 5 rfl rfl rfl (LM.dr 5 rfl rfl rfl ?_)
  refine LM.val (ov_pickT rfl rfl) ?_
  refine LM.mv rfl (LM.dr 9 rfl rfl rfl (LM.dr 9 rfl rfl rfl ?_))
  refine LM.val (ov_pickT rfl rfl) ?_
  refine LM.mv rfl (LM.dr 13 rfl rfl rfl (LM.dr 13 rfl rfl rfl ?_))
  refine LM.val (ov_pickT rfl rfl) ?_
  refine LM.mv rfl (LM.dr 17 rfl rfl rfl (LM.dr 17 rfl rfl rfl ?_))
  refine LM.val (ov_pickT rfl rfl) ?_
  refine LM.as rfl ?_
  refine LM.nil (QM.sub (e' := [(2, _)]) ⟨rfl, trivial⟩ (QM.then ?_))
  refine wpM.ret ?_
  refine QM.leave (.inl rfl) [.tmp 2] Tryz.results79 rfl ?_
  intro w' hm' hc' hg'
  refine ⟨?_, hc'⟩; simp only [resV, markN]; simp only [h1, decide_true, decide_false, Bool.true_and, Bool.false_and, Bool.and_true, Bool.and_false, Bool.not_true, Bool.not_false, Bool.true_or, Bool.false_or, Bool.or_true, Bool.or_false, ne_eq, not_true_eq_false, not_false_eq_true, Bool.and_self]
 refine LM.sp 5 rfl rfl rfl (LM.mv rfl (LM.sp 5 rfl rfl rfl ?_))
 refine LM.val (ov_eql rfl rfl) ?_
 refine LM.val (ov_pickF rfl rfl) ?_
 refine LM.mv rfl ?_
 refine LM.splitD (t := 9) rfl (fun h2 => ?_) (fun h2 => ?_)
 ·
  refine LM.dr 9 rfl rfl rfl (LM.dr 9 rfl rfl rfl ?_)
  refine LM.val (ov_pickT rfl rfl) ?_
  refine LM.mv rfl (LM.dr 13 rfl rfl rfl (LM.dr 13 rfl rfl rfl ?_))
  refine LM.val (ov_pickT rfl rfl) ?_
  refine LM.mv rfl (LM.dr 17 rfl rfl rfl (LM.dr 17 rfl rfl rfl ?_))
  refine LM.val (ov_pickT rfl rfl) ?_
  refine LM.as rfl ?_
  refine LM.nil (QM.sub (e' := [(2, _)]) ⟨rfl, trivial⟩ (QM.then ?_))
  refine wpM.ret ?_
  refine QM.leave (.inl rfl) [.tmp 2] Tryz.results79 rfl ?_
  intro w' hm' hc' hg'
  refine ⟨?_, hc'⟩; simp only [resV, markN]; simp only [h1, h2, decide_true, decide_false, Bool.true_and, Bool.false_and, Bool.and_true, Bool.and_false, Bool.not_true, Bool.not_false, Bool.true_or, Bool.false_or, Bool.or_true, Bool.or_false, ne_eq, not_true_eq_false, not_false_eq_true, Bool.and_self]
 refine LM.sp 9 rfl rfl rfl (LM.mv rfl (LM.sp 9 rfl rfl rfl ?_))
 refine LM.val (ov_eql rfl rfl) ?_
 refine LM.val (ov_pickF rfl rfl) ?_
 refine LM.mv rfl ?_
 refine LM.splitD (t := 13) rfl (fun h3 => ?_) (fun h3 => ?_)
 ·
  refine LM.dr 13 rfl rfl rfl (LM.dr 13 rfl rfl rfl ?_)
  refine LM.val (ov_pickT rfl rfl) ?_
  refine LM.mv rfl (LM.dr 17 rfl rfl rfl (LM.dr 17 rfl rfl rfl ?_))
  refine LM.val (ov_pickT rfl rfl) ?_
  refine LM.as rfl ?_
  refine LM.nil (QM.sub (e' := [(2, _)]) ⟨rfl, trivial⟩ (QM.then ?_))
  refine wpM.ret ?_
  refine QM.leave (.inl rfl) [.tmp 2] Tryz.results79 rfl ?_
  intro w' hm' hc' hg'
  refine ⟨?_, hc'⟩; simp only [resV, markN]; simp only [h1, h2, h3, decide_true, decide_false, Bool.true_and, Bool.false_and, Bool.and_true, Bool.and_false, Bool.not_true, Bool.not_false, Bool.true_or, Bool.false_or, Bool.or_true, Bool.or_false, ne_eq, not_true_eq_false, not_false_eq_true, Bool.and_self]
 refine LM.sp 13 rfl rfl rfl (LM.mv rfl (LM.sp 13 rfl rfl rfl ?_))
 refine LM.val (ov_eql rfl rfl) ?_
 refine LM.val (ov_pickF rfl rfl) ?_
 refine LM.mv rfl ?_
 refine LM.splitD (t := 17) rfl (fun h4 => ?_) (fun h4 => ?_)
 ·
  refine LM.dr 17 rfl rfl rfl (LM.dr 17 rfl rfl rfl ?_)
  refine LM.val (ov_pickT rfl rfl) ?_
  refine LM.as rfl ?_
  refine LM.nil (QM.sub (e' := [(2, _)]) ⟨rfl, trivial⟩ (QM.then ?_))
  refine wpM.ret ?_
  refine QM.leave (.inl rfl) [.tmp 2] Tryz.results79 rfl ?_
  intro w' hm' hc' hg'
  refine ⟨?_, hc'⟩; simp only [resV, markN]; simp only [h1, h2, h3, h4, decide_true, decide_false, Bool.true_and, Bool.false_and, Bool.and_true, Bool.and_false, Bool.not_true, Bool.not_false, Bool.true_or, Bool.false_or, Bool.or_true, Bool.or_false, ne_eq, not_true_eq_false, not_false_eq_true, Bool.and_self]
 refine LM.sp 17 rfl rfl rfl (LM.mv rfl (LM.sp 17 rfl rfl rfl ?_))
 refine LM.val (ov_eql rfl rfl) ?_
 refine LM.val (ov_pickF rfl rfl) ?_
 refine LM.as rfl ?_
 refine LM.nil (QM.sub (e' := [(2, _)]) ⟨rfl, trivial⟩ (QM.then ?_))
 refine wpM.ret ?_
 refine QM.leave (.inl rfl) [.tmp 2] Tryz.results79 rfl ?_
 intro w' hm' hc' hg'
 refine ⟨?_, hc'⟩; simp only [resV, markN]; simp only [h1, h2, h3, h4, decide_true, decide_false, Bool.true_and, Bool.false_and, Bool.and_true, Bool.and_false, Bool.not_true, Bool.not_false, Bool.true_or, Bool.false_or, Bool.or_true, Bool.or_false, ne_eq, not_true_eq_false, not_false_eq_true, Bool.and_self]
def oneV (r : Wrd × Nat × Bool) : Value := .tuple #[.agg (fW r.1).toArray, .int .i64 (r.2.1 : Nat), .bool r.2.2]
theorem one_let {s : List UInt8} {i j : Nat} (h : letB (s.getD i 0) = true) (hj : j = i + runL letB s i) : oneV (oneO s i) = .tuple #[.agg #[.int .i64 1, vS ((s.drop i).take (j - i)), .int .i64 0, .int .i64 (i : Nat)], .int .i64 (j : Nat), .bool (decide ((j : Int) - (i : Nat) ≤ 12))] := by
  unfold oneO; rw [if_pos h]
  unfold oneV fW
  simp only
  rw [show j - i = runL letB s i by omega, ← hj, show decide (runL letB s i ≤ 12) = decide ((j : Int) - (i : Nat) ≤ 12) from decide_eq_decide.2 (by omega)]
theorem one_dig {s : List UInt8} {i j : Nat} {n : Int} {b : Bool} (h1 : letB (s.getD i 0) = false) (h : digB (s.getD i 0) = true) (hj : j = i + runL digB s i) (hn : numF 9 (s.drop i) 0 = n) (hb : b = (decide ((j : Int) - (i : Nat) ≤ 9) && (decide ((((s.getD i 0).toNat : Nat) : Int) ≠ 48) || decide ((j : Int) = (i : Nat) + 1)))) : oneV (oneO s i) = .tuple #[.agg #[.int .i64 2, vS [], .int .i64 n, .int .i64 (i : Nat)], .int .i64 (j : Nat), .bool b] := by
  unfold oneO; rw [if_neg (by rw [h1]; simp), if_pos h]
  unfold oneV fW
  simp only
  rw [hn, ← hj, hb, show decide (runL digB s i ≤ 9) = decide ((j : Int) - (i : Nat) ≤ 9) from decide_eq_decide.2 (by omega), show decide (runL digB s i = 1) = decide ((j : Int) = (i : Nat) + 1) from decide_eq_decide.2 (by omega)]
theorem one_mark {s : List UInt8} {i : Nat} (h1 : letB (s.getD i 0) = false) (h : digB (s.getD i 0) = false) : oneV (oneO s i) = .tuple #[.agg #[.int .i64 3, vS ((s.drop i).take (i + 1 - i)), .int .i64 0, .int .i64 (i : Nat)], .int .i64 ((i + 1 : Nat)), .bool (markB (s.getD i 0))] := by
  unfold oneO; rw [if_neg (by rw [h1]; simp), if_neg (by rw [h]; simp), show i + 1 - i = 1 by omega]; rfl
theorem dig_rng {c : UInt8} (h : digB c = true) : 48 ≤ ((c.toNat : Nat) : Int) ∧ ((c.toNat : Nat) : Int) ≤ 57 := by
  unfold digB digN at h; simp only [Bool.and_eq_true, decide_eq_true_eq] at h; exact h
theorem p10_lt {k : Nat} (h : k < 9) : 10 ^ k ≤ 100000000 := Nat.le_trans (Nat.pow_le_pow_right (by decide) (show k ≤ 8 by omega)) (by decide)
set_option maxRecDepth 100000 in
set_option maxHeartbeats 1000000 in
theorem one_spec9 {s : List UInt8} (i : Nat) (w : World) (hi : i < s.length) (hx : s.length ≤ 9223372036854775807) : Ret Tryz.prog 33 #[vS s, .int .i64 (i : Nat)] w (fun v w' => v = oneV (oneO s i) ∧ Ext w w') := by
 refine Ret.enterM (l := [vS s, .int .i64 (i : Nat)]) Tryz.func33 rfl Tryz.ntmps33 rfl ([]) (no) (Mem.nil w) ?_
 refine wpM.seq (wpM.region ?_)
 refine LM.alloc Tryz.zeroValue65 rfl (fun b4 hb4 => ?_)
 refine LM.as rfl (LM.as rfl ?_)
 refine LM.nil (QM.sub (e' := [(0, _), (1, _), (4, _)]) au9 (QM.then (wpM.seq (wpM.region ?_))))
 refine LM.mv rfl (LM.as rfl ?_)
 refine LM.nil (QM.sub (e' := [(0, _), (1, _), (4, _), (7, _)]) au9 (QM.then ?_))
 refine wpM.seq ?_
 refine wpM.seq (wpM.region ?_)
 refine LM.mv rfl (LM.mv rfl ?_)
 refine LM.val (ov_sidxN Tryz.underlying9 rfl rfl (by omega)) ?_
 refine LM.callE (oc_call (enters_fn Tryz.func77 (by kernel_rfl) rfl) rfl) (fun w hm hc hg => letter_spec _ w) ?_
 refine LM.nil (QM.sub (e' := [(0, _), (1, _), (4, _), (7, _), (13, _)]) au9 (QM.then ?_))
 first | refine wpM.condD rfl (fun h1 => ?_) (fun h1 => ?_) | refine wpM.condB rfl (fun h1 => ?_) (fun h1 => ?_)
 ·
  refine wpM.seq ?_
  refine wpM.block ?_
  refine wpM.loopK0 (α := Nat) (fun j => [(7, .int .i64 (j : Nat))]) [(0, _), (1, _), (4, _)] (fun j => (b4, .cells #[.int .i64 0, .string (bs []), .int .i64 0, .int .i64 0] 65 (0, 0)) :: []) (fun j => i ≤ j ∧ j ≤ s.length ∧ i + runL letB s i = j + runL letB s j) (fun j => s.length - j) (i) ⟨au2, rfl, rfl, rfl, trivial⟩ au1 ⟨Nat.le_refl _, by omega, rfl⟩ ?_
  rintro j ⟨hij, hjl, hr⟩
  change wpM _ _ _ _ _ _ _ ((b4, .cells #[.int .i64 0, .string (bs []), .int .i64 0, .int .i64 0] 65 (0, 0)) :: []) _ _ _
  refine wpM.seq ?_
  refine wpM.seq (wpM.region ?_)
  refine LM.mv rfl (LM.mv rfl ?_)
  refine LM.val (ov_slenL Tryz.underlying9 rfl) ?_
  refine LM.val (ov_lss rfl rfl) ?_
  refine LM.mv rfl ?_
  refine LM.splitD (t := 18) rfl (fun h2 => ?_) (fun h2 => ?_)
  ·
   refine LM.sp 18 rfl rfl rfl (LM.mv rfl (LM.sp 18 rfl rfl rfl (LM.mv rfl (LM.sp 18 rfl rfl rfl ?_))))
   refine LM.val (ov_sidxN Tryz.underlying9 rfl rfl (by omega)) ?_
   refine LM.sp 18 rfl rfl rfl ?_
   refine LM.callE (oc_call (enters_fn Tryz.func77 (by kernel_rfl) rfl) rfl) (fun w hm hc hg => letter_spec _ w) ?_
   refine LM.val (ov_pickT rfl rfl) ?_
   refine LM.nil (QM.sub (e' := [(0, _), (1, _), (4, _), (7, _), (23, _)]) au9 (QM.then ?_))
   first | refine wpM.condD rfl (fun h3 => ?_) (fun h3 => ?_) | refine wpM.condB rfl (fun h3 => ?_) (fun h3 => ?_)
   ·
    refine wpM.skip ?_
    refine QM.then ?_
    refine wpM.block ?_
    refine wpM.region ?_
    refine LM.mv rfl ?_
    refine LM.val (ov_add64 rfl rfl (by omega)) ?_
    refine LM.as rfl ?_
    refine LM.nil (QM.sub (e' := [(0, _), (1, _), (4, _), (7, _)]) au9 ?_)
    refine QM.block_normal ?_
    refine QM.againK (j + 1) ⟨au2, rfl, rfl, rfl, trivial⟩ au1 (fun _ h => h) ?_ ?_
    · have hs1 := runL_step (p := letB) (show j < s.length by omega) h3; exact ⟨by omega, by omega, by omega⟩
    · omega
   refine wpM.exit ?_
   refine QM.then_exit ?_
   refine QM.then_exit ?_
   refine QM.block_hit ?_
   refine QM.then (wpM.seq (wpM.region ?_))
   refine LM.mv rfl (LM.mv rfl (LM.mv rfl ?_))
   refine LM.val (ov_sslcL Tryz.underlying9 rfl rfl rfl (by omega) (by omega) (by omega)) ?_
   refine LM.mv rfl ?_
   refine LM.val (ov_build (cs := #[_, _, _, _]) rfl (by first | rfl | kernel_rfl)) ?_
   refine LM.mv rfl (LM.mv rfl (LM.mv rfl ?_))
   refine LM.val (ov_sub64 rfl rfl (by omega)) ?_
   refine LM.val (ov_leq rfl rfl) ?_
   refine LM.stW Tryz.sizeOf65 rfl rfl rfl rfl au7 au8 ?_
   refine LM.as rfl (LM.as rfl ?_)
   refine LM.nil (QM.sub (e' := [(4, _), (5, _), (6, _)]) au9 (QM.then ?_))
   refine wpM.ret ?_
   refine QM.then_ret ?_
   refine QM.leaveCs (ds := ([])) (.inl rfl) [.cell 4 65, .tmp 5, .tmp 6] Tryz.results33 hd_nil (rc_w rfl Tryz.isAgg65 Tryz.sizeOf65 rfl (rc_tmp rfl (rc_tmp rfl rc_nil))) ?_
   intro w' hm' hc'
   have hs0 := runL_stop (p := letB) (show j < s.length by omega) h3; exact ⟨(one_let (j := j) h1 (by omega)).symm, hc'⟩
  refine LM.dr 18 rfl rfl rfl (LM.dr 18 rfl rfl rfl (LM.dr 18 rfl rfl rfl (LM.dr 18 rfl rfl rfl ?_)))
  refine LM.val (ov_pickF rfl rfl) ?_
  refine LM.nil (QM.sub (e' := [(0, _), (1, _), (4, _), (7, _), (23, _)]) au9 (QM.then ?_))
  refine wpM.condF rfl ?_
  refine wpM.exit ?_
  refine QM.then_exit ?_
  refine QM.then_exit ?_
  refine QM.block_hit ?_
  refine QM.then (wpM.seq (wpM.region ?_))
  refine LM.mv rfl (LM.mv rfl (LM.mv rfl ?_))
  refine LM.val (ov_sslcL Tryz.underlying9 rfl rfl rfl (by omega) (by omega) (by omega)) ?_
  refine LM.mv rfl ?_
  refine LM.val (ov_build (cs := #[_, _, _, _]) rfl (by first | rfl | kernel_rfl)) ?_
  refine LM.mv rfl (LM.mv rfl (LM.mv rfl ?_))
  refine LM.val (ov_sub64 rfl rfl (by omega)) ?_
  refine LM.val (ov_leq rfl rfl) ?_
  refine LM.stW Tryz.sizeOf65 rfl rfl rfl rfl au7 au8 ?_
  refine LM.as rfl (LM.as rfl ?_)
  refine LM.nil (QM.sub (e' := [(4, _), (5, _), (6, _)]) au9 (QM.then ?_))
  refine wpM.ret ?_
  refine QM.then_ret ?_
  refine QM.leaveCs (ds := ([])) (.inl rfl) [.cell 4 65, .tmp 5, .tmp 6] Tryz.results33 hd_nil (rc_w rfl Tryz.isAgg65 Tryz.sizeOf65 rfl (rc_tmp rfl (rc_tmp rfl rc_nil))) ?_
  intro w' hm' hc'
  have hs0 := runL_end (p := letB) (show s.length ≤ j by omega); exact ⟨(one_let (j := j) h1 (by omega)).symm, hc'⟩
 refine wpM.skip ?_
 refine QM.then ?_
 refine wpM.seq ?_
 refine wpM.seq (wpM.region ?_)
 refine LM.mv rfl (LM.mv rfl ?_)
 refine LM.val (ov_sidxN Tryz.underlying9 rfl rfl (by omega)) ?_
 refine LM.callE (oc_call (enters_fn Tryz.func78 (by kernel_rfl) rfl) rfl) (fun w hm hc hg => digit_spec _ w) ?_
 refine LM.nil (QM.sub (e' := [(0, _), (1, _), (4, _), (7, _), (40, _)]) au9 (QM.then ?_))
 first | refine wpM.condD rfl (fun h4 => ?_) (fun h4 => ?_) | refine wpM.condB rfl (fun h4 => ?_) (fun h4 => ?_)
 ·
  refine wpM.seq (wpM.region ?_)
  refine LM.as rfl ?_
  refine LM.nil (QM.sub (e' := [(0, _), (1, _), (4, _), (7, _), (8, _)]) au9 (QM.then ?_))
  refine wpM.seq ?_
  refine wpM.block ?_
  refine wpM.loopK0 (α := Nat × Int) (fun ⟨j, n⟩ => [(7, .int .i64 (j : Nat)), (8, .int .i64 n)]) [(0, _), (1, _), (4, _)] (fun ⟨j, n⟩ => (b4, .cells #[.int .i64 0, .string (bs []), .int .i64 0, .int .i64 0] 65 (0, 0)) :: []) (fun ⟨j, n⟩ => i ≤ j ∧ j ≤ s.length ∧ i + runL digB s i = j + runL digB s j ∧ numF 9 (s.drop i) 0 = numF (9 - (j - i)) (s.drop j) n ∧ 0 ≤ n ∧ n + 1 ≤ ((10 ^ (min (j - i) 9) : Nat) : Int)) (fun ⟨j, n⟩ => s.length - j) ((i, 0)) ⟨au2, au2, rfl, rfl, rfl, trivial⟩ au1 ⟨Nat.le_refl _, by omega, rfl, by simp, by simp, by simp⟩ ?_
  rintro ⟨j, n⟩ ⟨hij, hjl, hr, hnf, hn0, hn1⟩
  change wpM _ _ _ _ _ _ _ ((b4, .cells #[.int .i64 0, .string (bs []), .int .i64 0, .int .i64 0] 65 (0, 0)) :: []) _ _ _
  refine wpM.seq ?_
  refine wpM.seq (wpM.region ?_)
  refine LM.mv rfl (LM.mv rfl ?_)
  refine LM.val (ov_slenL Tryz.underlying9 rfl) ?_
  refine LM.val (ov_lss rfl rfl) ?_
  refine LM.mv rfl ?_
  refine LM.splitD (t := 45) rfl (fun h5 => ?_) (fun h5 => ?_)
  ·
   refine LM.sp 45 rfl rfl rfl (LM.mv rfl (LM.sp 45 rfl rfl rfl (LM.mv rfl (LM.sp 45 rfl rfl rfl ?_))))
   refine LM.val (ov_sidxN Tryz.underlying9 rfl rfl (by omega)) ?_
   refine LM.sp 45 rfl rfl rfl ?_
   refine LM.callE (oc_call (enters_fn Tryz.func78 (by kernel_rfl) rfl) rfl) (fun w hm hc hg => digit_spec _ w) ?_
   refine LM.val (ov_pickT rfl rfl) ?_
   refine LM.nil (QM.sub (e' := [(0, _), (1, _), (4, _), (7, _), (8, _), (50, _)]) au9 (QM.then ?_))
   first | refine wpM.condD rfl (fun h6 => ?_) (fun h6 => ?_) | refine wpM.condB rfl (fun h6 => ?_) (fun h6 => ?_)
   ·
    refine wpM.skip ?_
    refine QM.then ?_
    refine wpM.block ?_
    refine wpM.seq ?_
    refine wpM.seq (wpM.region ?_)
    refine LM.mv rfl (LM.mv rfl ?_)
    refine LM.val (ov_sub64 rfl rfl (by omega)) ?_
    refine LM.val (ov_lss rfl rfl) ?_
    refine LM.nil (QM.sub (e' := [(0, _), (1, _), (4, _), (7, _), (8, _), (54, _)]) au9 (QM.then ?_))
    refine wpM.condD rfl (fun h7 => ?_) (fun h7 => ?_)
    ·
     have hp8 := p10_lt (k := min (j - i) 9) (by omega); have hdr := dig_rng (c := s.getD j 0) h6
     refine wpM.region ?_
     refine LM.mv rfl ?_
     refine LM.val (ov_mul64 rfl rfl (by omega)) ?_
     refine LM.mv rfl (LM.mv rfl ?_)
     refine LM.val (ov_sidxN Tryz.underlying9 rfl rfl (by omega)) ?_
     refine LM.val (ov_to64 Tryz.underlying5 Tryz.underlying3 rfl (by omega)) ?_
     refine LM.val (ov_add64 rfl rfl (by omega)) ?_
     refine LM.val (ov_sub64 rfl rfl (by omega)) ?_
     refine LM.as rfl ?_
     refine LM.nil (QM.sub (e' := [(0, _), (1, _), (4, _), (7, _), (8, _)]) au9 (QM.then (wpM.region ?_)))
     refine LM.mv rfl ?_
     refine LM.val (ov_add64 rfl rfl (by omega)) ?_
     refine LM.as rfl ?_
     refine LM.nil (QM.sub (e' := [(0, _), (1, _), (4, _), (7, _), (8, _)]) au9 ?_)
     refine QM.block_normal ?_
     refine QM.againK ((j + 1, n * 10 + (((s.getD j 0).toNat : Nat) : Int) - 48)) ⟨au2, au2, rfl, rfl, rfl, trivial⟩ au1 (fun _ h => h) ?_ ?_
     · have hs1 := runL_step (p := digB) (show j < s.length by omega) h6; refine ⟨by omega, by omega, by omega, by rw [hnf, show 9 - (j - i) = (9 - (j + 1 - i)) + 1 by omega, numF_step (by omega) h6], by omega, ?_⟩; rw [show min (j + 1 - i) 9 = min (j - i) 9 + 1 by omega, Nat.pow_succ]; omega
     · first | omega | (dsimp only; omega)
    refine wpM.skip ?_
    refine QM.then (wpM.region ?_)
    refine LM.mv rfl ?_
    refine LM.val (ov_add64 rfl rfl (by omega)) ?_
    refine LM.as rfl ?_
    refine LM.nil (QM.sub (e' := [(0, _), (1, _), (4, _), (7, _), (8, _)]) au9 ?_)
    refine QM.block_normal ?_
    refine QM.againK ((j + 1, n)) ⟨au2, au2, rfl, rfl, rfl, trivial⟩ au1 (fun _ h => h) ?_ ?_
    · have hs1 := runL_step (p := digB) (show j < s.length by omega) h6; exact ⟨by omega, by omega, by omega, by rw [hnf, show 9 - (j - i) = 0 by omega, show 9 - (j + 1 - i) = 0 by omega]; rfl, hn0, by rw [show min (j + 1 - i) 9 = min (j - i) 9 by omega]; exact hn1⟩
    · first | omega | (dsimp only; omega)
   refine wpM.exit ?_
   refine QM.then_exit ?_
   refine QM.then_exit ?_
   refine QM.block_hit ?_
   refine QM.then (wpM.seq (wpM.region ?_))
   refine LM.mv rfl (LM.mv rfl ?_)
   refine LM.val (ov_build (cs := #[_, _, _, _]) rfl (by first | rfl | kernel_rfl)) ?_
   refine LM.mv rfl (LM.mv rfl (LM.mv rfl ?_))
   refine LM.val (ov_sub64 rfl rfl (by omega)) ?_
   refine LM.val (ov_leq rfl rfl) ?_
   refine LM.mv rfl ?_
   refine LM.splitD (t := 73) rfl (fun h8 => ?_) (fun h8 => ?_)
   ·
    refine LM.sp 73 rfl rfl rfl (LM.mv rfl (LM.sp 73 rfl rfl rfl (LM.mv rfl (LM.sp 73 rfl rfl rfl ?_))))
    refine LM.val (ov_sidxN Tryz.underlying9 rfl rfl (by omega)) ?_
    refine LM.sp 73 rfl rfl rfl ?_
    refine LM.val (ov_neq rfl rfl) ?_
    refine LM.sp 73 rfl rfl rfl (LM.mv rfl ?_)
    refine LM.splitD (t := 78) rfl (fun h9 => ?_) (fun h9 => ?_)
    ·
     refine LM.dr 78 rfl rfl rfl (LM.dr 78 rfl rfl rfl (LM.dr 78 rfl rfl rfl (LM.dr 78 rfl rfl rfl (LM.sp 73 rfl rfl rfl ?_))))
     refine LM.val (ov_pickT rfl rfl) ?_
     refine LM.val (ov_pickT rfl rfl) ?_
     refine LM.stW Tryz.sizeOf65 rfl rfl rfl rfl au7 au8 ?_
     refine LM.as rfl (LM.as rfl ?_)
     refine LM.nil (QM.sub (e' := [(4, _), (5, _), (6, _)]) au9 (QM.then ?_))
     refine wpM.ret ?_
     refine QM.then_ret ?_
     refine QM.leaveCs (ds := ([])) (.inl rfl) [.cell 4 65, .tmp 5, .tmp 6] Tryz.results33 hd_nil (rc_w rfl Tryz.isAgg65 Tryz.sizeOf65 rfl (rc_tmp rfl (rc_tmp rfl rc_nil))) ?_
     intro w' hm' hc'
     have hs0 := runL_stop (p := digB) (show j < s.length by omega) h6; have hnf2 := hnf.trans (numF_stop (.inr h6)); exact ⟨(one_dig (j := j) h1 h4 (by omega) hnf2 (by simp only [h1, h4, h5, h6, h8, h9, decide_true, decide_false, Bool.true_and, Bool.false_and, Bool.and_true, Bool.and_false, Bool.not_true, Bool.not_false, Bool.true_or, Bool.false_or, Bool.or_true, Bool.or_false, ne_eq, not_true_eq_false, not_false_eq_true, Bool.and_self])).symm, hc'⟩
    refine LM.sp 78 rfl rfl rfl (LM.mv rfl (LM.sp 78 rfl rfl rfl (LM.mv rfl (LM.sp 78 rfl rfl rfl ?_))))
    refine LM.val (ov_add64 rfl rfl (by omega)) ?_
    refine LM.sp 78 rfl rfl rfl ?_
    refine LM.val (ov_eql rfl rfl) ?_
    refine LM.sp 73 rfl rfl rfl ?_
    refine LM.val (ov_pickF rfl rfl) ?_
    refine LM.val (ov_pickT rfl rfl) ?_
    refine LM.stW Tryz.sizeOf65 rfl rfl rfl rfl au7 au8 ?_
    refine LM.as rfl (LM.as rfl ?_)
    refine LM.nil (QM.sub (e' := [(4, _), (5, _), (6, _)]) au9 (QM.then ?_))
    refine wpM.ret ?_
    refine QM.then_ret ?_
    refine QM.leaveCs (ds := ([])) (.inl rfl) [.cell 4 65, .tmp 5, .tmp 6] Tryz.results33 hd_nil (rc_w rfl Tryz.isAgg65 Tryz.sizeOf65 rfl (rc_tmp rfl (rc_tmp rfl rc_nil))) ?_
    intro w' hm' hc'
    have hs0 := runL_stop (p := digB) (show j < s.length by omega) h6; have hnf2 := hnf.trans (numF_stop (.inr h6)); exact ⟨(one_dig (j := j) h1 h4 (by omega) hnf2 (by simp only [h1, h4, h5, h6, h8, h9, decide_true, decide_false, Bool.true_and, Bool.false_and, Bool.and_true, Bool.and_false, Bool.not_true, Bool.not_false, Bool.true_or, Bool.false_or, Bool.or_true, Bool.or_false, ne_eq, not_true_eq_false, not_false_eq_true, Bool.and_self])).symm, hc'⟩
   refine LM.dr 73 rfl rfl rfl (LM.dr 73 rfl rfl rfl (LM.dr 73 rfl rfl rfl (LM.dr 73 rfl rfl rfl ?_)))
   refine LM.dropU (t := 73) rfl rfl rfl ?_
   refine LM.dropX (t := 78) rfl rfl ?_
   refine LM.dropX (t := 78) rfl rfl ?_
   refine LM.dropX (t := 78) rfl rfl ?_
   refine LM.dropX (t := 78) rfl rfl ?_
   refine LM.dr 73 rfl rfl rfl ?_
   refine LM.val (ov_pickF rfl rfl) ?_
   refine LM.stW Tryz.sizeOf65 rfl rfl rfl rfl au7 au8 ?_
   refine LM.as rfl (LM.as rfl ?_)
   refine LM.nil (QM.sub (e' := [(4, _), (5, _), (6, _)]) au9 (QM.then ?_))
   refine wpM.ret ?_
   refine QM.then_ret ?_
   refine QM.leaveCs (ds := ([])) (.inl rfl) [.cell 4 65, .tmp 5, .tmp 6] Tryz.results33 hd_nil (rc_w rfl Tryz.isAgg65 Tryz.sizeOf65 rfl (rc_tmp rfl (rc_tmp rfl rc_nil))) ?_
   intro w' hm' hc'
   have hs0 := runL_stop (p := digB) (show j < s.length by omega) h6; have hnf2 := hnf.trans (numF_stop (.inr h6)); exact ⟨(one_dig (j := j) h1 h4 (by omega) hnf2 (by simp only [h1, h4, h5, h6, h8, decide_true, decide_false, Bool.true_and, Bool.false_and, Bool.and_true, Bool.and_false, Bool.not_true, Bool.not_false, Bool.true_or, Bool.false_or, Bool.or_true, Bool.or_false, ne_eq, not_true_eq_false, not_false_eq_true, Bool.and_self])).symm, hc'⟩
  refine LM.dr 45 rfl rfl rfl (LM.dr 45 rfl rfl rfl (LM.dr 45 rfl rfl rfl (LM.dr 45 rfl rfl rfl ?_)))
  refine LM.val (ov_pickF rfl rfl) ?_
  refine LM.nil (QM.sub (e' := [(0, _), (1, _), (4, _), (7, _), (8, _), (50, _)]) au9 (QM.then ?_))
  refine wpM.condF rfl ?_
  refine wpM.exit ?_
  refine QM.then_exit ?_
  refine QM.then_exit ?_
  refine QM.block_hit ?_
  refine QM.then (wpM.seq (wpM.region ?_))
  refine LM.mv rfl (LM.mv rfl ?_)
  refine LM.val (ov_build (cs := #[_, _, _, _]) rfl (by first | rfl | kernel_rfl)) ?_
  refine LM.mv rfl (LM.mv rfl (LM.mv rfl ?_))
  refine LM.val (ov_sub64 rfl rfl (by omega)) ?_
  refine LM.val (ov_leq rfl rfl) ?_
  refine LM.mv rfl ?_
  refine LM.splitD (t := 73) rfl (fun h10 => ?_) (fun h10 => ?_)
  ·
   refine LM.sp 73 rfl rfl rfl (LM.mv rfl (LM.sp 73 rfl rfl rfl (LM.mv rfl (LM.sp 73 rfl rfl rfl ?_))))
   refine LM.val (ov_sidxN Tryz.underlying9 rfl rfl (by omega)) ?_
   refine LM.sp 73 rfl rfl rfl ?_
   refine LM.val (ov_neq rfl rfl) ?_
   refine LM.sp 73 rfl rfl rfl (LM.mv rfl ?_)
   refine LM.splitD (t := 78) rfl (fun h11 => ?_) (fun h11 => ?_)
   ·
    refine LM.dr 78 rfl rfl rfl (LM.dr 78 rfl rfl rfl (LM.dr 78 rfl rfl rfl (LM.dr 78 rfl rfl rfl (LM.sp 73 rfl rfl rfl ?_))))
    refine LM.val (ov_pickT rfl rfl) ?_
    refine LM.val (ov_pickT rfl rfl) ?_
    refine LM.stW Tryz.sizeOf65 rfl rfl rfl rfl au7 au8 ?_
    refine LM.as rfl (LM.as rfl ?_)
    refine LM.nil (QM.sub (e' := [(4, _), (5, _), (6, _)]) au9 (QM.then ?_))
    refine wpM.ret ?_
    refine QM.then_ret ?_
    refine QM.leaveCs (ds := ([])) (.inl rfl) [.cell 4 65, .tmp 5, .tmp 6] Tryz.results33 hd_nil (rc_w rfl Tryz.isAgg65 Tryz.sizeOf65 rfl (rc_tmp rfl (rc_tmp rfl rc_nil))) ?_
    intro w' hm' hc'
    have hs0 := runL_end (p := digB) (show s.length ≤ j by omega); have hnf2 := hnf.trans (numF_stop (.inl (show s.length ≤ j by omega))); exact ⟨(one_dig (j := j) h1 h4 (by omega) hnf2 (by simp only [h1, h4, h5, h10, h11, decide_true, decide_false, Bool.true_and, Bool.false_and, Bool.and_true, Bool.and_false, Bool.not_true, Bool.not_false, Bool.true_or, Bool.false_or, Bool.or_true, Bool.or_false, ne_eq, not_true_eq_false, not_false_eq_true, Bool.and_self])).symm, hc'⟩
   refine LM.sp 78 rfl rfl rfl (LM.mv rfl (LM.sp 78 rfl rfl rfl (LM.mv rfl (LM.sp 78 rfl rfl rfl ?_))))
   refine LM.val (ov_add64 rfl rfl (by omega)) ?_
   refine LM.sp 78 rfl rfl rfl ?_
   refine LM.val (ov_eql rfl rfl) ?_
   refine LM.sp 73 rfl rfl rfl ?_
   refine LM.val (ov_pickF rfl rfl) ?_
   refine LM.val (ov_pickT rfl rfl) ?_
   refine LM.stW Tryz.sizeOf65 rfl rfl rfl rfl au7 au8 ?_
   refine LM.as rfl (LM.as rfl ?_)
   refine LM.nil (QM.sub (e' := [(4, _), (5, _), (6, _)]) au9 (QM.then ?_))
   refine wpM.ret ?_
   refine QM.then_ret ?_
   refine QM.leaveCs (ds := ([])) (.inl rfl) [.cell 4 65, .tmp 5, .tmp 6] Tryz.results33 hd_nil (rc_w rfl Tryz.isAgg65 Tryz.sizeOf65 rfl (rc_tmp rfl (rc_tmp rfl rc_nil))) ?_
   intro w' hm' hc'
   have hs0 := runL_end (p := digB) (show s.length ≤ j by omega); have hnf2 := hnf.trans (numF_stop (.inl (show s.length ≤ j by omega))); exact ⟨(one_dig (j := j) h1 h4 (by omega) hnf2 (by simp only [h1, h4, h5, h10, h11, decide_true, decide_false, Bool.true_and, Bool.false_and, Bool.and_true, Bool.and_false, Bool.not_true, Bool.not_false, Bool.true_or, Bool.false_or, Bool.or_true, Bool.or_false, ne_eq, not_true_eq_false, not_false_eq_true, Bool.and_self])).symm, hc'⟩
  refine LM.dr 73 rfl rfl rfl (LM.dr 73 rfl rfl rfl (LM.dr 73 rfl rfl rfl (LM.dr 73 rfl rfl rfl ?_)))
  refine LM.dropU (t := 73) rfl rfl rfl ?_
  refine LM.dropX (t := 78) rfl rfl ?_
  refine LM.dropX (t := 78) rfl rfl ?_
  refine LM.dropX (t := 78) rfl rfl ?_
  refine LM.dropX (t := 78) rfl rfl ?_
  refine LM.dr 73 rfl rfl rfl ?_
  refine LM.val (ov_pickF rfl rfl) ?_
  refine LM.stW Tryz.sizeOf65 rfl rfl rfl rfl au7 au8 ?_
  refine LM.as rfl (LM.as rfl ?_)
  refine LM.nil (QM.sub (e' := [(4, _), (5, _), (6, _)]) au9 (QM.then ?_))
  refine wpM.ret ?_
  refine QM.then_ret ?_
  refine QM.leaveCs (ds := ([])) (.inl rfl) [.cell 4 65, .tmp 5, .tmp 6] Tryz.results33 hd_nil (rc_w rfl Tryz.isAgg65 Tryz.sizeOf65 rfl (rc_tmp rfl (rc_tmp rfl rc_nil))) ?_
  intro w' hm' hc'
  have hs0 := runL_end (p := digB) (show s.length ≤ j by omega); have hnf2 := hnf.trans (numF_stop (.inl (show s.length ≤ j by omega))); exact ⟨(one_dig (j := j) h1 h4 (by omega) hnf2 (by simp only [h1, h4, h5, h10, decide_true, decide_false, Bool.true_and, Bool.false_and, Bool.and_true, Bool.and_false, Bool.not_true, Bool.not_false, Bool.true_or, Bool.false_or, Bool.or_true, Bool.or_false, ne_eq, not_true_eq_false, not_false_eq_true, Bool.and_self])).symm, hc'⟩
 refine wpM.skip ?_
 refine QM.then ?_
 refine wpM.seq ?_
 refine wpM.draw [(0, 0), (1, 0), (2, 0), (3, 0), (4, 0), (5, 0), (6, 0), (7, 0), (8, 0), (9, 0), (10, 0), (11, 0), (12, 2), (13, 3), (14, 3), (15, 3)] (by kernel_rfl) (by kernel_rfl) ?_
 refine LD.val rfl rfl (ov_move rfl) ?_
 refine LD.val rfl rfl (ov_move rfl) ?_
 refine LD.val rfl rfl (ov_move rfl) ?_
 refine LD.val rfl rfl (ov_add64 rfl rfl (by omega)) ?_
 refine LD.val rfl rfl (ov_sslcL Tryz.underlying9 rfl rfl rfl (by omega) (by omega) (by omega)) ?_
 refine LD.val rfl rfl (ov_move rfl) ?_
 refine LD.val rfl rfl (ov_build (cs := #[_, _, _, _]) rfl (by first | rfl | kernel_rfl)) ?_
 refine LD.val rfl rfl (ov_move rfl) ?_
 refine LD.val rfl rfl (ov_add64 rfl rfl (by omega)) ?_
 refine LD.val rfl rfl (ov_move rfl) ?_
 refine LD.val rfl rfl (ov_move rfl) ?_
 refine LD.val rfl rfl (ov_sidxN Tryz.underlying9 rfl rfl (by omega)) ?_
 refine LD.callE rfl rfl (oc_call (enters_fn Tryz.func79 (by kernel_rfl) rfl) rfl) (fun w hm hc hg => mark_spec _ w) ?_
 refine LD.tail rfl rfl ?_
 refine LM.stW Tryz.sizeOf65 rfl rfl rfl rfl au7 au8 ?_
 refine LM.as rfl (LM.as rfl ?_)
 refine LM.nil ?_
 refine QM.qn ?_
 refine QM.sub (e' := [(4, _), (5, _), (6, _)]) au9 (QM.then ?_)
 refine wpM.ret ?_
 refine QM.leaveCs (ds := ([])) (.inl rfl) [.cell 4 65, .tmp 5, .tmp 6] Tryz.results33 hd_nil (rc_w rfl Tryz.isAgg65 Tryz.sizeOf65 rfl (rc_tmp rfl (rc_tmp rfl rc_nil))) ?_
 intro w' hm' hc'
 exact ⟨(one_mark h1 h4).symm, hc'⟩
end Go.Eng
namespace Go.Eng
open Go Go.Proofs Go.RowKit
def ScT (r : List Wrd × Int × Int) (n0 : Nat) (v : Value) (m : Mem0) : Prop := ∃ ad n cap, v = .tuple #[.slice ad n cap, .int .i64 r.2.1, .int .i64 r.2.2] ∧ n = r.1.length ∧ Sl fW 65 4 n0 r.1 (.slice ad n cap) m
theorem ScT.mono {r : List Wrd × Int × Int} : ∀ (k k' : Nat) u m, k' ≤ k → ScT r k u m → ScT r k' u m := fun k k' u m h ⟨ad, n, cap, h1, h2, h3⟩ => ⟨ad, n, cap, h1, h2, h3.mono h⟩
end Go.Eng
namespace Go.Eng
open Go Go.Proofs Go.RowKit
def Tb (w : World) : Prop := Lib.TabIs Tryz.prog w "internal/strconv.uint64pow10" .u64 Lib.pow10Tab
theorem Tb.ext {w w' : World} (h : Tb w) (k : Ext w w') : Tb w' := by
  unfold Tb Lib.TabIs World.var? at h ⊢
  cases hg : Tryz.prog.globalNamed "internal/strconv.uint64pow10" with
  | none => rw [hg] at h; cases h
  | some g =>
    rw [hg] at h
    simp only [Option.bind_some] at h ⊢
    cases ho : w.heap[g]? with
    | none => rw [ho] at h; cases h
    | some o => rw [ho] at h; rw [k.get ho]; exact h
theorem itoa_ret {n : Int} (h0 : 0 ≤ n) (h1 : n ≤ 999999999) (w : World) (hT : Tb w) : Ret Tryz.prog 134 #[.int .i64 n] w (fun v w' => v = vS (digF 10 n.toNat) ∧ Ext w w') :=
  (Any.strconv_Itoa lm171 n (by omega) (by omega) w hT).mono (fun e w' ⟨he, k, os, hw⟩ => ⟨_, he, by rw [itoa_digF h0 h1], by rw [hw]; exact Ext.of_below (Lib.below_grow _ w (Nat.le_refl _) k os)⟩)
theorem trim_ret (t : List UInt8) (hx : t.length ≤ 9223372036854775807) (w : World) : Ret Tryz.prog 135 #[vS t, vS lettersL] w (fun v w' => v = vS (Lib.trimS t lettersL) ∧ Ext w w') :=
  (Any.strings_Trim_laid l160 l160set (bs t) (bs lettersL) w (by rw [bs_size]; exact hx) (by decide) (ascii_of_all (by decide))).mono (fun e w' ⟨he, hb⟩ => ⟨_, he, rfl, Ext.of_below hb⟩)
theorem contains_ret {t : List UInt8} (h1 : t.length = 1) (w : World) : Ret Tryz.prog 136 #[vS marksL, vS t] w (fun v w' => v = .bool (t.all markB) ∧ Ext w w') := by
  match t, h1 with
  | [c], _ =>
    exact (Any.strings_Contains_one l144 (bs marksL) c w).mono (fun e w' ⟨he, hw⟩ => ⟨_, he, by
      show Value.bool (decide (0 ≤ Lib.indexByte marksL c)) = _
      rw [marks_mark]; simp, by rw [hw]; exact Chg.refl _ _⟩)
abbrev BldI (n0 b : Nat) (s : List UInt8) (w : World) : Prop := Lib.IsBuilderF 147 5 n0 b (Lib.byteCells s) w
theorem blen_ret {n0 b : Nat} {s : List UInt8} {w : World} (h : BldI n0 b s w) : Ret Tryz.prog 96 #[.pointer (some ⟨b, 0, none⟩)] w (fun v w' => v = .int .i64 (s.length : Nat) ∧ Ext w w') :=
  (Any.Builder_Len_f l170 n0 b (Lib.byteCells s) w h).mono (fun e w' ⟨he, hw⟩ => ⟨_, he, by rw [Lib.byteCells_length], by rw [hw]; exact Chg.refl _ _⟩)
theorem bc_app (s t : List UInt8) : Lib.byteCells (s ++ t) = Lib.byteCells s ++ Lib.strCells (bs t) := by simp [Lib.byteCells, Lib.strCells]
theorem bc_snoc (s : List UInt8) (c : UInt8) : Lib.byteCells (s ++ [c]) = Lib.byteCells s ++ [.int .u8 (c.toNat : Nat)] := by simp [Lib.byteCells]
theorem bbyte_ret {n0 b : Nat} {s : List UInt8} (c : UInt8) {w : World} (h : BldI n0 b s w) (hsz : n0 ≤ w.heap.size) (hl : s.length ≤ 100000000000) : Calls Tryz.prog 97 #[.pointer (some ⟨b, 0, none⟩), .int .u8 (c.toNat : Nat)] w (fun en w' => en = .returned .nilIface ∧ (BldI n0 b (s ++ [c]) w' ∧ Below n0 w w' ∧ Lib.OthersKept 5 (some b) w w')) :=
  (Any.Builder_WriteByte_k l167 bx n0 b (Lib.byteCells s) (c.toNat : Nat) w h (by rw [Lib.byteCells_length]; omega) hsz).mono (fun e w' ⟨he, h1, h2, h3⟩ => ⟨he, .inr (bc_snoc s c ▸ h1), h2, h3⟩)
theorem bstr_ret {n0 b : Nat} {s : List UInt8} (t : List UInt8) {w : World} (h : BldI n0 b s w) (hsz : n0 ≤ w.heap.size) (hl : s.length + t.length ≤ 100000000000) : Calls Tryz.prog 98 #[.pointer (some ⟨b, 0, none⟩), vS t] w (fun en w' => en = .returned (.tuple #[.int .i64 (t.length : Nat), .nilIface]) ∧ (BldI n0 b (s ++ t) w' ∧ Below n0 w w' ∧ Lib.OthersKept 5 (some b) w w')) :=
  (Any.Builder_WriteString_k l166 bx n0 b (Lib.byteCells s) (bs t) w h (by rw [Lib.byteCells_length, bs_size]; omega) hsz).mono (fun e w' ⟨he, h1, h2, h3⟩ => ⟨by rw [he, bs_size], .inr (bc_app s t ▸ h1), h2, h3⟩)
theorem bget_ret {n0 b : Nat} {s : List UInt8} {w : World} (h : BldI n0 b s w) (hsz : n0 ≤ w.heap.size) : Calls Tryz.prog 99 #[.pointer (some ⟨b, 0, none⟩)] w (fun en w' => en = .returned (vS s) ∧ (BldI n0 b s w' ∧ Below n0 w w' ∧ Lib.OthersKept 5 (some b) w w')) :=
  (Any.Builder_String_any_k l169 bx n0 b s w h hsz).mono (fun e w' ⟨he, h1, h2, h3⟩ => ⟨he, h1, h2, h3⟩)
theorem isNum_rng {x : Wrd} (h : isNum x = true) : 0 ≤ x.n ∧ x.n ≤ 999999999 := by
  unfold isNum at h; simp only [Bool.and_eq_true, decide_eq_true_eq] at h; exact ⟨h.1.2, h.2⟩
set_option maxRecDepth 100000 in
set_option maxHeartbeats 1000000 in
theorem text_spec (x : Wrd) (w : World) (hx : x.t.length ≤ 9223372036854775807) (hT : Tb w) : Ret Tryz.prog 95 #[.agg (fW x).toArray] w (fun v w' => v = .tuple #[vS (textO x).1, .int .i64 (textO x).2] ∧ Ext w w') := by
 refine Ret.enterM (l := [.agg (fW x).toArray]) Tryz.func95 rfl Tryz.ntmps95 rfl ([]) (no) (Mem.nil w) ?_
 refine wpM.seq (wpM.region ?_)
 refine LM.box rfl rfl (fun b1 hb1 => ?_)
 refine LM.as rfl (LM.as rfl ?_)
 refine LM.nil (QM.sub (e' := [(1, _)]) ⟨rfl, trivial⟩ (QM.then ?_))
 refine wpM.seq ?_
 refine wpM.block ?_
 refine wpM.seq ?_
 refine wpM.joinK (α := Bool) (fun qa => [(4, .bool qa)]) [(1, _)] (fun qa => (b1, .cells (fW x).toArray 65 (0, 0)) :: []) (fun qa => qa = isNum x) ⟨rfl, trivial⟩ ?_ ?_
 ·
  refine wpM.region ?_
  refine LM.val (ov_field Tryz.underlying65 rfl Tryz.sizeOf3 rfl (k := 0) rfl rfl) ?_
  refine LM.rd (om_ld Tryz.isAgg3 rfl rfl) ?_
  refine LM.val (ov_eql rfl rfl) ?_
  refine LM.mv rfl ?_
  refine LM.splitD (t := 8) rfl (fun h1 => ?_) (fun h1 => ?_)
  ·
   refine LM.sp 8 rfl rfl rfl (LM.val (ov_field Tryz.underlying65 rfl Tryz.sizeOf9 rfl (k := 1) rfl rfl) (LM.sp 8 rfl rfl rfl ?_))
   refine LM.rd (om_ld Tryz.isAgg9 rfl rfl) ?_
   refine LM.sp 8 rfl rfl rfl ?_
   refine LM.val (ov_seqlL rfl rfl) ?_
   refine LM.val (ov_pickT rfl rfl) ?_
   refine LM.mv rfl ?_
   refine LM.splitD (t := 13) rfl (fun h2 => ?_) (fun h2 => ?_)
   ·
    refine LM.sp 13 rfl rfl rfl (LM.val (ov_field Tryz.underlying65 rfl Tryz.sizeOf3 rfl (k := 2) rfl rfl) (LM.sp 13 rfl rfl rfl ?_))
    refine LM.rd (om_ld Tryz.isAgg3 rfl rfl) ?_
    refine LM.sp 13 rfl rfl rfl ?_
    refine LM.val (ov_geq rfl rfl) ?_
    refine LM.val (ov_pickT rfl rfl) ?_
    refine LM.mv rfl ?_
    refine LM.splitD (t := 18) rfl (fun h3 => ?_) (fun h3 => ?_)
    ·
     refine LM.sp 18 rfl rfl rfl (LM.val (ov_field Tryz.underlying65 rfl Tryz.sizeOf3 rfl (k := 2) rfl rfl) (LM.sp 18 rfl rfl rfl ?_))
     refine LM.rd (om_ld Tryz.isAgg3 rfl rfl) ?_
     refine LM.sp 18 rfl rfl rfl ?_
     refine LM.val (ov_leq rfl rfl) ?_
     refine LM.val (ov_pickT rfl rfl) ?_
     refine LM.as rfl ?_
     refine LM.nil (QM.sub (e' := [(1, _), (4, _)]) au9 ?_)
     refine QM.meetK (_) ⟨au2, rfl, trivial⟩ au1 ?_
     · unfold isNum; first | (simp only [h1, h2, h3, decide_true, decide_false, Bool.true_and, Bool.false_and, Bool.and_true, Bool.and_false, Bool.not_true, Bool.not_false, Bool.true_or, Bool.false_or, Bool.or_true, Bool.or_false, ne_eq, not_true_eq_false, not_false_eq_true, Bool.and_self]; done) | (simp only [h1, h2, h3, decide_true, decide_false, Bool.true_and, Bool.false_and, Bool.and_true, Bool.and_false, Bool.not_true, Bool.not_false, Bool.true_or, Bool.false_or, Bool.or_true, Bool.or_false, ne_eq, not_true_eq_false, not_false_eq_true, Bool.and_self]; rfl)
    refine LM.dr 18 rfl rfl rfl (LM.dr 18 rfl rfl rfl (LM.dr 18 rfl rfl rfl ?_))
    refine LM.val (ov_pickF rfl rfl) ?_
    refine LM.as rfl ?_
    refine LM.nil (QM.sub (e' := [(1, _), (4, _)]) au9 ?_)
    refine QM.meetK (_) ⟨au2, rfl, trivial⟩ au1 ?_
    · unfold isNum; first | (simp only [h1, h2, h3, decide_true, decide_false, Bool.true_and, Bool.false_and, Bool.and_true, Bool.and_false, Bool.not_true, Bool.not_false, Bool.true_or, Bool.false_or, Bool.or_true, Bool.or_false, ne_eq, not_true_eq_false, not_false_eq_true, Bool.and_self]; done) | (simp only [h1, h2, h3, decide_true, decide_false, Bool.true_and, Bool.false_and, Bool.and_true, Bool.and_false, Bool.not_true, Bool.not_false, Bool.true_or, Bool.false_or, Bool.or_true, Bool.or_false, ne_eq, not_true_eq_false, not_false_eq_true, Bool.and_self]; rfl)
   refine LM.dr 13 rfl rfl rfl (LM.dr 13 rfl rfl rfl (LM.dr 13 rfl rfl rfl ?_))
   refine LM.val (ov_pickF rfl rfl) ?_
   refine LM.mv rfl (LM.dr 18 rfl rfl rfl (LM.dr 18 rfl rfl rfl (LM.dr 18 rfl rfl rfl ?_)))
   refine LM.val (ov_pickF rfl rfl) ?_
   refine LM.as rfl ?_
   refine LM.nil (QM.sub (e' := [(1, _), (4, _)]) au9 ?_)
   refine QM.meetK (_) ⟨au2, rfl, trivial⟩ au1 ?_
   · unfold isNum; first | (simp only [h1, h2, decide_true, decide_false, Bool.true_and, Bool.false_and, Bool.and_true, Bool.and_false, Bool.not_true, Bool.not_false, Bool.true_or, Bool.false_or, Bool.or_true, Bool.or_false, ne_eq, not_true_eq_false, not_false_eq_true, Bool.and_self]; done) | (simp only [h1, h2, decide_true, decide_false, Bool.true_and, Bool.false_and, Bool.and_true, Bool.and_false, Bool.not_true, Bool.not_false, Bool.true_or, Bool.false_or, Bool.or_true, Bool.or_false, ne_eq, not_true_eq_false, not_false_eq_true, Bool.and_self]; rfl)
  refine LM.dr 8 rfl rfl rfl (LM.dr 8 rfl rfl rfl (LM.dr 8 rfl rfl rfl ?_))
  refine LM.val (ov_pickF rfl rfl) ?_
  refine LM.mv rfl (LM.dr 13 rfl rfl rfl (LM.dr 13 rfl rfl rfl (LM.dr 13 rfl rfl rfl ?_)))
  refine LM.val (ov_pickF rfl rfl) ?_
  refine LM.mv rfl (LM.dr 18 rfl rfl rfl (LM.dr 18 rfl rfl rfl (LM.dr 18 rfl rfl rfl ?_)))
  refine LM.val (ov_pickF rfl rfl) ?_
  refine LM.as rfl ?_
  refine LM.nil (QM.sub (e' := [(1, _), (4, _)]) au9 ?_)
  refine QM.meetK (_) ⟨au2, rfl, trivial⟩ au1 ?_
  · unfold isNum; first | (simp only [h1, decide_true, decide_false, Bool.true_and, Bool.false_and, Bool.and_true, Bool.and_false, Bool.not_true, Bool.not_false, Bool.true_or, Bool.false_or, Bool.or_true, Bool.or_false, ne_eq, not_true_eq_false, not_false_eq_true, Bool.and_self]; done) | (simp only [h1, decide_true, decide_false, Bool.true_and, Bool.false_and, Bool.and_true, Bool.and_false, Bool.not_true, Bool.not_false, Bool.true_or, Bool.false_or, Bool.or_true, Bool.or_false, ne_eq, not_true_eq_false, not_false_eq_true, Bool.and_self]; rfl)
 rintro qa hqa
 change QM _ _ _ _ _ ((b1, .cells (fW x).toArray 65 (0, 0)) :: []) _ _ _
 refine QM.then ?_
 first | refine wpM.condD rfl (fun h4 => ?_) (fun h4 => ?_) | refine wpM.condB rfl (fun h4 => ?_) (fun h4 => ?_)
 ·
  have hnum := isNum_rng (hqa ▸ h4 : isNum x = true)
  refine wpM.seq (wpM.region ?_)
  refine LM.val (ov_field Tryz.underlying65 rfl Tryz.sizeOf3 rfl (k := 2) rfl rfl) ?_
  refine LM.rd (om_ld Tryz.isAgg3 rfl rfl) ?_
  refine LM.callE (oc_call (enters_fn Tryz.func134 (by kernel_rfl) rfl) rfl) (fun w hm hc hg => itoa_ret hnum.1 hnum.2 w (hT.ext hc)) ?_
  refine LM.as rfl (LM.as rfl ?_)
  refine LM.nil (QM.sub (e' := [(2, _), (3, _)]) au9 (QM.then ?_))
  refine wpM.ret ?_
  refine QM.block_ret ?_
  refine QM.then_ret ?_
  refine QM.leave (.inl rfl) [.tmp 2, .tmp 3] Tryz.results95 rfl ?_
  intro w' hm' hc' hg'
  refine ⟨?_, hc'⟩; unfold textO; rw [← hqa, h4]; rfl
 refine wpM.seq ?_
 refine wpM.joinK (α := Bool) (fun qb => [(26, .bool qb)]) [(1, _)] (fun qb => (b1, .cells (fW x).toArray 65 (0, 0)) :: []) (fun qb => qb = isBad x) ⟨rfl, trivial⟩ ?_ ?_
 ·
  refine wpM.region ?_
  refine LM.val (ov_field Tryz.underlying65 rfl Tryz.sizeOf3 rfl (k := 2) rfl rfl) ?_
  refine LM.rd (om_ld Tryz.isAgg3 rfl rfl) ?_
  refine LM.val (ov_neq rfl rfl) ?_
  refine LM.mv rfl ?_
  refine LM.splitD (t := 30) rfl (fun h5 => ?_) (fun h5 => ?_)
  ·
   refine LM.dr 30 rfl rfl rfl (LM.dr 30 rfl rfl rfl (LM.dr 30 rfl rfl rfl ?_))
   refine LM.val (ov_pickT rfl rfl) ?_
   refine LM.as rfl ?_
   refine LM.nil (QM.sub (e' := [(1, _), (26, _)]) au9 ?_)
   refine QM.meetK (_) ⟨au2, rfl, trivial⟩ au1 ?_
   · unfold isBad; first | (simp only [h4, h5, decide_true, decide_false, Bool.true_and, Bool.false_and, Bool.and_true, Bool.and_false, Bool.not_true, Bool.not_false, Bool.true_or, Bool.false_or, Bool.or_true, Bool.or_false, ne_eq, not_true_eq_false, not_false_eq_true, Bool.and_self]; done) | (simp only [h4, h5, decide_true, decide_false, Bool.true_and, Bool.false_and, Bool.and_true, Bool.and_false, Bool.not_true, Bool.not_false, Bool.true_or, Bool.false_or, Bool.or_true, Bool.or_false, ne_eq, not_true_eq_false, not_false_eq_true, Bool.and_self]; rfl)
  refine LM.sp 30 rfl rfl rfl (LM.val (ov_field Tryz.underlying65 rfl Tryz.sizeOf9 rfl (k := 1) rfl rfl) (LM.sp 30 rfl rfl rfl ?_))
  refine LM.rd (om_ld Tryz.isAgg9 rfl rfl) ?_
  refine LM.sp 30 rfl rfl rfl ?_
  refine LM.val (ov_seqlL rfl rfl) ?_
  refine LM.val (ov_pickF rfl rfl) ?_
  refine LM.as rfl ?_
  refine LM.nil (QM.sub (e' := [(1, _), (26, _)]) au9 ?_)
  refine QM.meetK (_) ⟨au2, rfl, trivial⟩ au1 ?_
  · unfold isBad; first | (simp only [h4, h5, decide_true, decide_false, Bool.true_and, Bool.false_and, Bool.and_true, Bool.and_false, Bool.not_true, Bool.not_false, Bool.true_or, Bool.false_or, Bool.or_true, Bool.or_false, ne_eq, not_true_eq_false, not_false_eq_true, Bool.and_self]; done) | (simp only [h4, h5, decide_true, decide_false, Bool.true_and, Bool.false_and, Bool.and_true, Bool.and_false, Bool.not_true, Bool.not_false, Bool.true_or, Bool.false_or, Bool.or_true, Bool.or_false, ne_eq, not_true_eq_false, not_false_eq_true, Bool.and_self]; rfl)
 rintro qb hqb
 change QM _ _ _ _ _ ((b1, .cells (fW x).toArray 65 (0, 0)) :: []) _ _ _
 refine QM.then ?_
 first | refine wpM.condD rfl (fun h6 => ?_) (fun h6 => ?_) | refine wpM.condB rfl (fun h6 => ?_) (fun h6 => ?_)
 ·
  refine wpM.skip ?_
  refine QM.block_normal ?_
  refine QM.then (wpM.seq (wpM.region ?_))
  refine LM.as rfl (LM.as rfl ?_)
  refine LM.nil (QM.sub (e' := [(2, _), (3, _)]) au9 (QM.then ?_))
  refine wpM.ret ?_
  refine QM.leave (.inl rfl) [.tmp 2, .tmp 3] Tryz.results95 rfl ?_
  intro w' hm' hc' hg'
  refine ⟨?_, hc'⟩; unfold textO; rw [← hqa, h4, ← hqb, h6]; rfl
 refine wpM.seq ?_
 refine wpM.joinK (α := Bool) (fun qc => [(35, .bool qc)]) [(1, _)] (fun qc => (b1, .cells (fW x).toArray 65 (0, 0)) :: []) (fun qc => qc = isName x) ⟨rfl, trivial⟩ ?_ ?_
 ·
  refine wpM.region ?_
  refine LM.val (ov_field Tryz.underlying65 rfl Tryz.sizeOf3 rfl (k := 0) rfl rfl) ?_
  refine LM.rd (om_ld Tryz.isAgg3 rfl rfl) ?_
  refine LM.val (ov_eql rfl rfl) ?_
  refine LM.mv rfl ?_
  refine LM.splitD (t := 39) rfl (fun h7 => ?_) (fun h7 => ?_)
  ·
   refine LM.sp 39 rfl rfl rfl (LM.val (ov_field Tryz.underlying65 rfl Tryz.sizeOf9 rfl (k := 1) rfl rfl) (LM.sp 39 rfl rfl rfl ?_))
   refine LM.rd (om_ld Tryz.isAgg9 rfl rfl) ?_
   refine LM.sp 39 rfl rfl rfl ?_
   refine LM.val (ov_slenL Tryz.underlying9 rfl) ?_
   refine LM.sp 39 rfl rfl rfl ?_
   refine LM.val (ov_leq rfl rfl) ?_
   refine LM.val (ov_pickT rfl rfl) ?_
   refine LM.mv rfl ?_
   refine LM.splitD (t := 45) rfl (fun h8 => ?_) (fun h8 => ?_)
   ·
    refine LM.sp 45 rfl rfl rfl (LM.val (ov_field Tryz.underlying65 rfl Tryz.sizeOf9 rfl (k := 1) rfl rfl) (LM.sp 45 rfl rfl rfl ?_))
    refine LM.rd (om_ld Tryz.isAgg9 rfl rfl) ?_
    refine LM.sp 45 rfl rfl rfl ?_
    refine LM.callE (oc_call (enters_fn Tryz.func135 (by kernel_rfl) rfl) rfl) (fun w hm hc hg => trim_ret x.t hx w) ?_
    refine LM.sp 45 rfl rfl rfl ?_
    refine LM.val (ov_seqlL rfl rfl) ?_
    refine LM.val (ov_pickT rfl rfl) ?_
    refine LM.as rfl ?_
    refine LM.nil (QM.sub (e' := [(1, _), (35, _)]) au9 ?_)
    refine QM.meetK (_) ⟨au2, rfl, trivial⟩ au1 ?_
    · unfold isName; rw [decide_eq_true h7, decide_eq_true (show x.t.length ≤ 12 by omega), trim_letters]; rfl
   refine LM.dr 45 rfl rfl rfl (LM.dr 45 rfl rfl rfl (LM.dr 45 rfl rfl rfl (LM.dr 45 rfl rfl rfl ?_)))
   refine LM.val (ov_pickF rfl rfl) ?_
   refine LM.as rfl ?_
   refine LM.nil (QM.sub (e' := [(1, _), (35, _)]) au9 ?_)
   refine QM.meetK (_) ⟨au2, rfl, trivial⟩ au1 ?_
   · unfold isName; rw [decide_eq_false (show ¬ x.t.length ≤ 12 by omega)]; simp
  refine LM.dr 39 rfl rfl rfl (LM.dr 39 rfl rfl rfl (LM.dr 39 rfl rfl rfl (LM.dr 39 rfl rfl rfl ?_)))
  refine LM.val (ov_pickF rfl rfl) ?_
  refine LM.mv rfl (LM.dr 45 rfl rfl rfl (LM.dr 45 rfl rfl rfl (LM.dr 45 rfl rfl rfl (LM.dr 45 rfl rfl rfl ?_))))
  refine LM.val (ov_pickF rfl rfl) ?_
  refine LM.as rfl ?_
  refine LM.nil (QM.sub (e' := [(1, _), (35, _)]) au9 ?_)
  refine QM.meetK (_) ⟨au2, rfl, trivial⟩ au1 ?_
  · unfold isName; first | (simp only [h4, h6, h7, decide_true, decide_false, Bool.true_and, Bool.false_and, Bool.and_true, Bool.and_false, Bool.not_true, Bool.not_false, Bool.true_or, Bool.false_or, Bool.or_true, Bool.or_false, ne_eq, not_true_eq_false, not_false_eq_true, Bool.and_self]; done) | (simp only [h4, h6, h7, decide_true, decide_false, Bool.true_and, Bool.false_and, Bool.and_true, Bool.and_false, Bool.not_true, Bool.not_false, Bool.true_or, Bool.false_or, Bool.or_true, Bool.or_false, ne_eq, not_true_eq_false, not_false_eq_true, Bool.and_self]; rfl)
 rintro qc hqc
 change QM _ _ _ _ _ ((b1, .cells (fW x).toArray 65 (0, 0)) :: []) _ _ _
 refine QM.then ?_
 first | refine wpM.condD rfl (fun h9 => ?_) (fun h9 => ?_) | refine wpM.condB rfl (fun h9 => ?_) (fun h9 => ?_)
 ·
  refine wpM.seq (wpM.region ?_)
  refine LM.val (ov_field Tryz.underlying65 rfl Tryz.sizeOf9 rfl (k := 1) rfl rfl) ?_
  refine LM.rd (om_ld Tryz.isAgg9 rfl rfl) ?_
  refine LM.as rfl (LM.as rfl ?_)
  refine LM.nil (QM.sub (e' := [(2, _), (3, _)]) au9 (QM.then ?_))
  refine wpM.ret ?_
  refine QM.block_ret ?_
  refine QM.then_ret ?_
  refine QM.leave (.inl rfl) [.tmp 2, .tmp 3] Tryz.results95 rfl ?_
  intro w' hm' hc' hg'
  refine ⟨?_, hc'⟩; unfold textO; rw [← hqa, h4, ← hqb, h6, ← hqc, h9]; rfl
 refine wpM.seq ?_
 refine wpM.joinK (α := Bool) (fun qd => [(53, .bool qd)]) [(1, _)] (fun qd => (b1, .cells (fW x).toArray 65 (0, 0)) :: []) (fun qd => qd = isMark x) ⟨rfl, trivial⟩ ?_ ?_
 ·
  refine wpM.region ?_
  refine LM.val (ov_field Tryz.underlying65 rfl Tryz.sizeOf3 rfl (k := 0) rfl rfl) ?_
  refine LM.rd (om_ld Tryz.isAgg3 rfl rfl) ?_
  refine LM.val (ov_eql rfl rfl) ?_
  refine LM.mv rfl ?_
  refine LM.splitD (t := 57) rfl (fun h10 => ?_) (fun h10 => ?_)
  ·
   refine LM.sp 57 rfl rfl rfl (LM.val (ov_field Tryz.underlying65 rfl Tryz.sizeOf9 rfl (k := 1) rfl rfl) (LM.sp 57 rfl rfl rfl ?_))
   refine LM.rd (om_ld Tryz.isAgg9 rfl rfl) ?_
   refine LM.sp 57 rfl rfl rfl ?_
   refine LM.val (ov_slenL Tryz.underlying9 rfl) ?_
   refine LM.sp 57 rfl rfl rfl ?_
   refine LM.val (ov_eql rfl rfl) ?_
   refine LM.val (ov_pickT rfl rfl) ?_
   refine LM.mv rfl ?_
   refine LM.splitD (t := 63) rfl (fun h11 => ?_) (fun h11 => ?_)
   ·
    have hone : x.t.length = 1 := (by omega)
    refine LM.sp 63 rfl rfl rfl (LM.val (ov_field Tryz.underlying65 rfl Tryz.sizeOf9 rfl (k := 1) rfl rfl) (LM.sp 63 rfl rfl rfl ?_))
    refine LM.rd (om_ld Tryz.isAgg9 rfl rfl) ?_
    refine LM.sp 63 rfl rfl rfl ?_
    refine LM.callE (oc_call (enters_fn Tryz.func136 (by kernel_rfl) rfl) rfl) (fun w hm hc hg => contains_ret hone w) ?_
    refine LM.val (ov_pickT rfl rfl) ?_
    refine LM.as rfl ?_
    refine LM.nil (QM.sub (e' := [(1, _), (53, _)]) au9 ?_)
    refine QM.meetK (_) ⟨au2, rfl, trivial⟩ au1 ?_
    · unfold isMark; rw [decide_eq_true h10, decide_eq_true (show x.t.length = 1 by omega)]; rfl
   refine LM.dr 63 rfl rfl rfl (LM.dr 63 rfl rfl rfl (LM.dr 63 rfl rfl rfl ?_))
   refine LM.val (ov_pickF rfl rfl) ?_
   refine LM.as rfl ?_
   refine LM.nil (QM.sub (e' := [(1, _), (53, _)]) au9 ?_)
   refine QM.meetK (_) ⟨au2, rfl, trivial⟩ au1 ?_
   · unfold isMark; rw [decide_eq_false (show ¬ x.t.length = 1 by omega)]; simp
  refine LM.dr 57 rfl rfl rfl (LM.dr 57 rfl rfl rfl (LM.dr 57 rfl rfl rfl (LM.dr 57 rfl rfl rfl ?_)))
  refine LM.val (ov_pickF rfl rfl) ?_
  refine LM.mv rfl (LM.dr 63 rfl rfl rfl (LM.dr 63 rfl rfl rfl (LM.dr 63 rfl rfl rfl ?_)))
  refine LM.val (ov_pickF rfl rfl) ?_
  refine LM.as rfl ?_
  refine LM.nil (QM.sub (e' := [(1, _), (53, _)]) au9 ?_)
  refine QM.meetK (_) ⟨au2, rfl, trivial⟩ au1 ?_
  · unfold isMark; first | (simp only [h4, h6, h9, h10, decide_true, decide_false, Bool.true_and, Bool.false_and, Bool.and_true, Bool.and_false, Bool.not_true, Bool.not_false, Bool.true_or, Bool.false_or, Bool.or_true, Bool.or_false, ne_eq, not_true_eq_false, not_false_eq_true, Bool.and_self]; done) | (simp only [h4, h6, h9, h10, decide_true, decide_false, Bool.true_and, Bool.false_and, Bool.and_true, Bool.and_false, Bool.not_true, Bool.not_false, Bool.true_or, Bool.false_or, Bool.or_true, Bool.or_false, ne_eq, not_true_eq_false, not_false_eq_true, Bool.and_self]; rfl)
 rintro qd hqd
 change QM _ _ _ _ _ ((b1, .cells (fW x).toArray 65 (0, 0)) :: []) _ _ _
 refine QM.then ?_
 first | refine wpM.condD rfl (fun h12 => ?_) (fun h12 => ?_) | refine wpM.condB rfl (fun h12 => ?_) (fun h12 => ?_)
 ·
  refine wpM.seq (wpM.region ?_)
  refine LM.val (ov_field Tryz.underlying65 rfl Tryz.sizeOf9 rfl (k := 1) rfl rfl) ?_
  refine LM.rd (om_ld Tryz.isAgg9 rfl rfl) ?_
  refine LM.as rfl (LM.as rfl ?_)
  refine LM.nil (QM.sub (e' := [(2, _), (3, _)]) au9 (QM.then ?_))
  refine wpM.ret ?_
  refine QM.block_ret ?_
  refine QM.then_ret ?_
  refine QM.leave (.inl rfl) [.tmp 2, .tmp 3] Tryz.results95 rfl ?_
  intro w' hm' hc' hg'
  refine ⟨?_, hc'⟩; unfold textO; rw [← hqa, h4, ← hqb, h6, ← hqc, h9, ← hqd, h12]; rfl
 refine wpM.skip ?_
 refine QM.block_normal ?_
 refine QM.then (wpM.seq (wpM.region ?_))
 refine LM.as rfl (LM.as rfl ?_)
 refine LM.nil (QM.sub (e' := [(2, _), (3, _)]) au9 (QM.then ?_))
 refine wpM.ret ?_
 refine QM.leave (.inl rfl) [.tmp 2, .tmp 3] Tryz.results95 rfl ?_
 intro w' hm' hc' hg'
 refine ⟨?_, hc'⟩; unfold textO; rw [← hqa, h4, ← hqb, h6, ← hqc, h9, ← hqd, h12]; rfl
set_option maxRecDepth 100000 in
set_option maxHeartbeats 1000000 in
theorem join_spec {ws : List Wrd} {ad : Option Addr} {n cap : Nat} (w : World) (hn : n = ws.length) (hx : ws.length ≤ 1000000000) (hl : Sr fW 4 ws (.slice ad n cap) w) (ht : ∀ x ∈ ws, x.t.length ≤ 9223372036854775807) (hT : Tb w) : Ret Tryz.prog 54 #[.slice ad n cap] w (fun v w' => v = .tuple #[vS (joinO ws).1, .int .i64 (joinO ws).2] ∧ Ext w w') := by
 refine Ret.enterM (l := [.slice ad n cap]) Tryz.func54 rfl Tryz.ntmps54 rfl ([]) (no) (Mem.nil w) ?_
 refine wpM.seq (wpM.region ?_)
 refine LM.as rfl (LM.as rfl ?_)
 refine LM.nil (QM.sub (e' := [(0, _)]) ⟨rfl, trivial⟩ (QM.then (wpM.seq (wpM.region ?_))))
 refine LM.alloc Tryz.zeroValue147 rfl (fun b4 hb4 => ?_)
 refine LM.nil (QM.sub (e' := [(0, _), (4, _)]) au9 (QM.then ?_))
 refine wpM.seq ?_
 refine wpM.seq (wpM.region ?_)
 refine LM.mv rfl ?_
 refine LM.val (ov_len Tryz.underlying23 rfl) ?_
 refine LM.mv rfl ?_
 refine LM.nil (QM.sub (e' := [(4, _), (9, _), (10, _), (11, _)]) au9 (QM.then ?_))
 refine wpM.block ?_
 refine wpM.loopK0 (α := Nat × List UInt8 × Mem0) (fun ⟨i, out, mb⟩ => [(11, .int .i64 (i : Nat))]) [(4, _), (9, _), (10, _)] (fun ⟨i, out, mb⟩ => mb ++ []) (fun ⟨i, out, mb⟩ => i ≤ ws.length ∧ joinF (ws.drop i) out = joinO ws ∧ Bld 147 5 w.heap.size b4 out mb ∧ out.length ≤ i * 13) (fun ⟨i, out, mb⟩ => ws.length - i) ((0, [], [(b4, .cells #[.pointer none, .slice none 0 0] 147 (0, 0))])) ⟨au2, rfl, rfl, rfl, trivial⟩ au1 ⟨Nat.zero_le _, rfl, Bld.new hb4, Nat.zero_le _⟩ ?_
 rintro ⟨i, out, mb⟩ ⟨hi0, hj, hB, hol⟩
 change wpM _ _ _ _ _ _ _ (mb ++ []) _ _ _
 have htl := text_len (ws.getD i default); have hgl := glue_len out (ws.getD i default)
 refine wpM.seq (wpM.region ?_)
 refine LM.val (ov_lss rfl rfl) ?_
 refine LM.nil (QM.sub (e' := [(4, _), (9, _), (10, _), (11, _), (12, _)]) au9 (QM.then ?_))
 refine wpM.seq ?_
 refine wpM.condD rfl (fun h1 => ?_) (fun h1 => ?_)
 ·
  refine wpM.skip ?_
  refine QM.then ?_
  refine wpM.seq ?_
  refine wpM.block ?_
  refine wpM.seq (wpM.region ?_)
  refine LM.val (ov_idxSN au6 Tryz.underlying23 Tryz.sizeOf65 rfl rfl (by omega)) ?_
  first | refine LM.rd (om_slA (by assumption) (by intro _; rfl) Tryz.isAgg65 Tryz.sizeOf65 rfl au3) ?_ | refine LM.rdC (om_srEA (by assumption) (by intro _; rfl) Tryz.isAgg65 Tryz.sizeOf65 rfl au3 id) ?_ | refine LM.rd (om_ldW Tryz.isAgg65 Tryz.sizeOf65 rfl rfl) ?_ | refine LM.rd (om_ldA Tryz.isAgg65 Tryz.sizeOf65 rfl (vs := [_, _, _, _]) rfl ⟨rfl, rfl, rfl, rfl, trivial⟩) ?_
  refine LM.alloc Tryz.zeroValue65 rfl (fun b6 hb6 => ?_)
  refine LM.stW Tryz.sizeOf65 rfl rfl rfl rfl au7 au8 ?_
  refine LM.nil (QM.sub (e' := [(4, _), (6, _), (9, _), (10, _), (11, _)]) au9 (QM.then (wpM.seq (wpM.region ?_))))
  refine LM.rd (om_ldW Tryz.isAgg65 Tryz.sizeOf65 rfl rfl) ?_
  refine LM.callE (oc_call (enters_fn Tryz.func95 (by kernel_rfl) rfl) rfl) (fun w hm hc hg => text_spec _ w (ht _ (List.mem_of_getElem? (getq default (by omega)))) (hT.ext hc)) ?_
  refine LM.mv rfl ?_
  refine LM.val (ov_extract rfl rfl) ?_
  refine LM.val (ov_extract rfl rfl) ?_
  refine LM.as rfl (LM.as rfl ?_)
  refine LM.nil (QM.sub (e' := [(4, _), (7, _), (8, _), (9, _), (10, _), (11, _)]) au9 (QM.then ?_))
  refine wpM.seq ?_
  refine wpM.seq (wpM.region ?_)
  refine LM.mv rfl ?_
  refine LM.val (ov_neq rfl rfl) ?_
  refine LM.nil (QM.sub (e' := [(4, _), (7, _), (8, _), (9, _), (10, _), (11, _), (21, _)]) au9 (QM.then ?_))
  refine wpM.condD rfl (fun h2 => ?_) (fun h2 => ?_)
  ·
   refine wpM.seq (wpM.region ?_)
   refine LM.mv rfl (LM.as rfl (LM.as rfl ?_))
   refine LM.nil (QM.sub (e' := [(2, _), (3, _)]) au9 (QM.then ?_))
   refine wpM.ret ?_
   refine QM.then_ret ?_
   refine QM.block_ret ?_
   refine QM.then_ret ?_
   refine QM.then_ret ?_
   refine QM.block_ret ?_
   refine QM.then_ret ?_
   refine QM.leave (.inl rfl) [.tmp 2, .tmp 3] Tryz.results54 rfl ?_
   intro w' hm' hc' hg'
   have hb := hj; rw [joinF_bad (by omega) h2] at hb; refine ⟨?_, hc'⟩; rw [← hb]; show Value.tuple #[vS [], .int .i64 (textO (ws.getD i default)).2] = _; rw [(text_bad h2).2]
  refine wpM.skip ?_
  refine QM.then ?_
  refine wpM.seq ?_
  refine wpM.seq ?_
  refine wpM.joinK (α := Bool) (fun q => [(28, .bool q)]) [(4, _), (7, _), (9, _), (10, _), (11, _)] (fun q => (b6, .cells (fW (ws.getD i default)).toArray 65 (0, 0)) :: (mb ++ [])) (fun q => q = (decide (0 < out.length) && decide ((textO (ws.getD i default)).1 ≠ [59]))) ⟨rfl, rfl, rfl, rfl, rfl, trivial⟩ ?_ ?_
  ·
   refine wpM.region ?_
   refine LM.callE (oc_call (enters_fn Tryz.func96 (by kernel_rfl) rfl) rfl) (fun w hm hc hg => blen_ret (hB.is (hm.pick mb))) ?_
   refine LM.val (ov_gtr rfl rfl) ?_
   refine LM.mv rfl ?_
   refine LM.splitD (t := 25) rfl (fun h3 => ?_) (fun h3 => ?_)
   ·
    refine LM.sp 25 rfl rfl rfl (LM.mv rfl (LM.sp 25 rfl rfl rfl ?_))
    refine LM.val (ov_sneqL rfl rfl) ?_
    refine LM.val (ov_pickT rfl rfl) ?_
    refine LM.nil (QM.sub (e' := [(4, _), (7, _), (9, _), (10, _), (11, _), (28, _)]) au9 ?_)
    refine QM.meetK (_) ⟨au2, rfl, rfl, rfl, rfl, rfl, trivial⟩ au1 ?_
    · rw [decide_eq_true (show 0 < out.length by omega), Bool.true_and]
   refine LM.dr 25 rfl rfl rfl (LM.dr 25 rfl rfl rfl ?_)
   refine LM.val (ov_pickF rfl rfl) ?_
   refine LM.nil (QM.sub (e' := [(4, _), (7, _), (9, _), (10, _), (11, _), (28, _)]) au9 ?_)
   refine QM.meetK (_) ⟨au2, rfl, rfl, rfl, rfl, rfl, trivial⟩ au1 ?_
   · rw [decide_eq_false (show ¬ 0 < out.length by omega)]; rfl
  rintro q hq
  change QM _ _ _ _ _ ((b6, .cells (fW (ws.getD i default)).toArray 65 (0, 0)) :: (mb ++ [])) _ _ _
  refine QM.then ?_
  refine wpM.joinK (α := List UInt8 × Mem0) (fun ⟨o2, mb2⟩ => []) [(4, _), (7, _), (9, _), (10, _), (11, _)] (fun ⟨o2, mb2⟩ => mb2 ++ ((b6, .cells (fW (ws.getD i default)).toArray 65 (0, 0)) :: [])) (fun ⟨o2, mb2⟩ => Bld 147 5 w.heap.size b4 o2 mb2 ∧ o2 ++ (textO (ws.getD i default)).1 = glue out (textO (ws.getD i default)).1 ∧ o2.length ≤ out.length + 1) ⟨rfl, rfl, rfl, rfl, rfl, trivial⟩ ?_ ?_
  ·
   first | refine wpM.condD rfl (fun h4 => ?_) (fun h4 => ?_) | refine wpM.condB rfl (fun h4 => ?_) (fun h4 => ?_)
   ·
    refine wpM.region ?_
    refine LM.cB (s' := out ++ [32]) hB (fun _ => trivial) (by repeat (first | exact nr_nil | refine nr_cons (by intro c fz h; cases h) ?_)) (oc_call (enters_fn Tryz.func97 (by kernel_rfl) rfl) rfl) (fun w hi hsz => bbyte_ret 32 hi hsz (by omega)) (fun m29 hB29 => ?_)
    refine LM.nil (QM.sub (e' := [(4, _), (7, _), (9, _), (10, _), (11, _)]) au9 ?_)
    refine QM.meetK ((out ++ [32], m29)) ⟨rfl, rfl, rfl, rfl, rfl, trivial⟩ au1 ?_
    · exact ⟨hB29, by unfold glue; rw [if_pos (by rw [← hq]; exact h4)], by simp⟩
   refine wpM.skip ?_
   refine QM.meetK ((out, mb)) ⟨rfl, rfl, rfl, rfl, rfl, trivial⟩ au1 ?_
   · exact ⟨hB, by unfold glue; rw [if_neg (by rw [← hq, h4]; simp)], by omega⟩
  rintro ⟨o2, mb2⟩ ⟨hB2, hg2, hl2⟩
  change QM _ _ _ _ _ (mb2 ++ ((b6, .cells (fW (ws.getD i default)).toArray 65 (0, 0)) :: [])) _ _ _
  refine QM.then (wpM.region ?_)
  refine LM.mv rfl ?_
  refine LM.cB (s' := glue out (textO (ws.getD i default)).1) hB2 (fun _ => trivial) (by repeat (first | exact nr_nil | refine nr_cons (by intro c fz h; cases h) ?_)) (oc_call (enters_fn Tryz.func98 (by kernel_rfl) rfl) rfl) (fun w hi hsz => hg2 ▸ bstr_ret _ hi hsz (by omega)) (fun m31 hB31 => ?_)
  refine LM.nil (QM.sub (e' := [(4, _), (9, _), (10, _), (11, _)]) au9 ?_)
  refine QM.block_normal ?_
  refine QM.then (wpM.region ?_)
  refine LM.val (ov_add64 rfl rfl (by omega)) ?_
  refine LM.mv rfl ?_
  refine LM.nil (QM.sub (e' := [(4, _), (9, _), (10, _), (11, _)]) au9 ?_)
  refine QM.againK ((i + 1, glue out (textO (ws.getD i default)).1, m31)) ⟨au2, rfl, rfl, rfl, trivial⟩ au1 (fun _ h => h) ?_ ?_
  · exact ⟨by omega, (joinF_next (by omega) (Classical.not_not.1 h2)).symm.trans hj, hB31, by omega⟩
  · first | omega | (dsimp only; omega)
 refine wpM.exit ?_
 refine QM.then_exit ?_
 refine QM.then_exit ?_
 refine QM.block_hit ?_
 refine QM.then ?_
 refine wpM.seq ?_
 refine wpM.seq (wpM.region ?_)
 refine LM.callE (oc_call (enters_fn Tryz.func96 (by kernel_rfl) rfl) rfl) (fun w hm hc hg => blen_ret (hB.is (hm.pick mb))) ?_
 refine LM.val (ov_gtr rfl rfl) ?_
 refine LM.nil (QM.sub (e' := [(4, _), (34, _)]) au9 (QM.then ?_))
 refine wpM.condD rfl (fun h5 => ?_) (fun h5 => ?_)
 ·
  refine wpM.seq (wpM.region ?_)
  refine LM.as rfl (LM.as rfl ?_)
  refine LM.nil (QM.sub (e' := [(2, _), (3, _)]) au9 (QM.then ?_))
  refine wpM.ret ?_
  refine QM.then_ret ?_
  refine QM.leave (.inl rfl) [.tmp 2, .tmp 3] Tryz.results54 rfl ?_
  intro w' hm' hc' hg'
  have hb := hj; rw [joinF_end (by omega), if_pos (by omega)] at hb; refine ⟨?_, hc'⟩; rw [← hb]; rfl
 refine wpM.skip ?_
 refine QM.then (wpM.seq (wpM.region ?_))
 refine LM.cB (s' := out) hB (fun _ => trivial) (by repeat (first | exact nr_nil | refine nr_cons (by intro c fz h; cases h) ?_)) (oc_call (enters_fn Tryz.func99 (by kernel_rfl) rfl) rfl) (fun w hi hsz => bget_ret hi hsz) (fun m35 hB35 => ?_)
 refine LM.as rfl (LM.as rfl ?_)
 refine LM.nil (QM.sub (e' := [(2, _), (3, _)]) au9 (QM.then ?_))
 refine wpM.ret ?_
 refine QM.leave (.inl rfl) [.tmp 2, .tmp 3] Tryz.results54 rfl ?_
 intro w' hm' hc' hg'
 have hb := hj; rw [joinF_end (by omega), if_neg (by omega)] at hb; refine ⟨?_, hc'⟩; rw [← hb]; rfl
end Go.Eng
