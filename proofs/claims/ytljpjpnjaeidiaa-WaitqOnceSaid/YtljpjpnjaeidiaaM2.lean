/- The calculus, tenth part: iterators that have memory of their own. No condition. -/
import Derived.Test.YtljpjpnjaeidiaaM1
import Derived.Maps.RangeRun
import Derived.Lib.Strings
import Derived.Laws.IdiomStrings
import Derived.Lib.OthersKept
import Derived.Lib.FrozenHead
import Derived.Lib.UnsafeStr
import Derived.Lib.AppendStr
import Derived.Lib.AppendIntMem
import Derived.Lib.AppendZeros
import Derived.Lib.SliceRun
import Derived.ProofKit
import Derived.OpenShut
import Derived.ShutString
import Derived.ChangeOld
import Derived.Below
import Derived.DataElems
import Derived.Test.YtljpjpnjaeidiaaRows
set_option linter.unusedVariables false
set_option linter.unusedSimpArgs false
namespace Go.Eng
open Go Go.RowKit
structure JL (n : Nat) (J : Nat → Mem0 → World → Prop) (Jx : World → Prop) : Prop where
  le : ∀ k m w, J k m w → n ≤ w.heap.size
  mem : ∀ k m w, J k m w → Mem w m
  upd : ∀ k m m' w w', J k m w → Chg (fun b => ∃ q ∈ m, q.1 = b) w w' → Mem w' m' → (∀ p ∈ m', (w.heap.size ≤ p.1 ∨ ∃ q ∈ m, q.1 = p.1) ∧ wlk p.2 = false) → J k m' w'
  bk : ∀ k m w w', J k m w → Bk n w w' → J k m w'
  bkx : ∀ w w', Jx w → Bk n w w' → Jx w'
def SeqCP (P : Program) (g : FuncId) (lb : Array Value) (A : List (Array Value)) (Rd : World → Prop) (fin : Prop) : Prop :=
  ∀ (l : Nat) (J : Nat → Mem0 → World → Prop) (Jx : World → Prop) (W : World), (fin ∨ ∀ m w, ¬ J A.length m w) → (∀ k m w, J k m w → Rd w) → JL W.heap.size J Jx →
    (∀ k a m w1, A[k]? = some a → J k m w1 → YR P l a w1 (fun b w2 => ((b = true ∧ J (k + 1) m w2) ∨ (b = false ∧ Jx w2)) ∧ KW W.heap.size w1 w2)) →
    J 0 [] W → Ret P g (#[.func (.yield l) #[] #[]] ++ lb) W (fun _ w' => J A.length [] w' ∨ Jx w')
theorem JL.rd {n : Nat} {J : Nat → Mem0 → World → Prop} {Jx : World → Prop} (h : JL n J Jx) {Rd : World → Prop} (hr : ∀ k m w, J k m w → Rd w) {k : Nat} {m : Mem0} {w1 w : World} (hj : J k m w1) (hc : Chg (fun b => ∃ q ∈ m, q.1 = b) w1 w) : Rd w :=
  hr k [] w (h.upd k m [] w1 w hj hc (Mem.nil w) (fun p hp => by cases hp))
theorem JL.endx {n : Nat} {J : Nat → Mem0 → World → Prop} {Jx : World → Prop} (h : JL n J Jx) {w1 w : World} (hj : Jx w1) (hc : Chg no w1 w) : Jx w := h.bkx w1 w hj (Ext.bk hc)
theorem KW.trans {n n' : Nat} {a b c : World} (h : KW n' a b) (k : KW n b c) (hn : n ≤ n') : KW n' a c :=
  ⟨k.os.trans h.os, k.tape.trans h.tape, k.output.trans h.output, Nat.le_trans h.size k.size, fun x o hx ho hw => k.same x o (by omega) (h.same x o hx ho hw) hw⟩
section
variable {P : Program} {ty : TypeId} {e : Env} {t u : TypeId} {x y : Operand}
end
/-! ### Open and closed -/
section
variable {P : Program} {r : Option Nat} {N : Nat} {Q : Exit → Act → World → Prop} {e : Env} {ds : List Nat} {M m : Mem0} {w0 w1 : World} {n k : Nat} {J : Nat → Mem0 → World → Prop} {Jx K : World → Prop}
variable {ops : Array Oper} {rest : List Oper} {ty : TypeId} {pos : String} {after : Array Edge} {d : Nat}
abbrev inM (m : Mem0) : Nat → Prop := fun b => ∃ q ∈ m, q.1 = b
abbrev all0 : Nat → Prop := fun _ => True
theorem chg_all {S : Nat → Prop} {w w1 w2 : World} (h : Chg all0 w w1) (k : Chg S w1 w2) : Chg all0 w w2 := h.step k (fun _ _ _ => trivial)
theorem kw_chg {n : Nat} {w w' : World} (h : KW n w w') : Chg all0 w w' := ⟨h.os, h.tape, h.output, h.size, fun _ _ hn => absurd trivial hn⟩
theorem wpM.openJ {c : Code} (h : ∀ w1, Mem w1 M → Chg all0 w0 w1 → J k m w1 → K w1 → wpM P r N c Q e ds M (inM m) w1 (KW n w1)) : wpM P r N c Q e ds M all0 w0 (fun w => J k m w ∧ K w) :=
  fun w hm hc hg => h w hm hc hg.1 hg.2 w hm (Chg.refl _ w) (KW.refl n w)
theorem QM.openJ {X : Exit} (h : ∀ w1, Mem w1 M → Chg all0 w0 w1 → J k m w1 → K w1 → QM N Q X e ds M (inM m) w1 (KW n w1)) : QM N Q X e ds M all0 w0 (fun w => J k m w ∧ K w) :=
  fun w hm hc hg => h w hm hc hg.1 hg.2 w hm (Chg.refl _ w) (KW.refl n w)
theorem QM.openX {X : Exit} (h : ∀ w1, Mem w1 M → Chg all0 w0 w1 → Jx w1 → K w1 → QM N Q X e ds M no w1 (KW n w1)) : QM N Q X e ds M all0 w0 (fun w => Jx w ∧ K w) :=
  fun w hm hc hg => h w hm hc hg.1 hg.2 w hm (Chg.refl _ w) (KW.refl n w)
theorem wpM.closeJ {c : Code} (hL : JL n J Jx) (hC : Chg all0 w0 w1) (hJ : J k m w1) (hK : K w1) (hKK : ∀ w w', K w → KW n w w' → K w') (m' : Mem0) (hM : ∀ w, Mem w M → Mem w m') (hn : ∀ p ∈ m', (w1.heap.size ≤ p.1 ∨ ∃ q ∈ m, q.1 = p.1) ∧ wlk p.2 = false)
    (h : wpM P r N c Q e ds M all0 w0 (fun w => J k m' w ∧ K w)) : wpM P r N c Q e ds M (inM m) w1 (KW n w1) := fun w hm hc hg => h w hm (chg_all hC hc) ⟨hL.upd k m m' w1 w hJ hc (hM w hm) hn, hKK w1 w hK hg⟩
theorem QM.closeJ {X : Exit} (hL : JL n J Jx) (hC : Chg all0 w0 w1) (hJ : J k m w1) (hK : K w1) (hKK : ∀ w w', K w → KW n w w' → K w') (m' : Mem0) (hM : ∀ w, Mem w M → Mem w m') (hn : ∀ p ∈ m', (w1.heap.size ≤ p.1 ∨ ∃ q ∈ m, q.1 = p.1) ∧ wlk p.2 = false)
    (h : QM N Q X e ds M all0 w0 (fun w => J k m' w ∧ K w)) : QM N Q X e ds M (inM m) w1 (KW n w1) := fun w hm hc hg => h w hm (chg_all hC hc) ⟨hL.upd k m m' w1 w hJ hc (hM w hm) hn, hKK w1 w hK hg⟩
theorem QM.closeX {X : Exit} (hL : JL n J Jx) (hC : Chg all0 w0 w1) (hJ : Jx w1) (hK : K w1) (hKK : ∀ w w', K w → KW n w w' → K w')
    (h : QM N Q X e ds M all0 w0 (fun w => Jx w ∧ K w)) : QM N Q X e ds M no w1 (KW n w1) := fun w hm hc hg => h w hm (chg_all hC hc) ⟨hL.endx hJ hc, hKK w1 w hK hg⟩
theorem LM.yieldJ {l : Nat} {g : Operand} {la : List Operand} {args : List Value} {ats : Array TypeId} (hL : JL n J Jx) (hg : ev e g = some (.func (.yield l) #[] #[])) (ha : evs e la = some args)
    (hy : ∀ m w, J k m w → YR P l args.toArray w (fun b w2 => ((b = true ∧ J (k + 1) m w2) ∨ (b = false ∧ Jx w2)) ∧ KW n w w2)) (hC : Chg all0 w0 w1) (hJ : J k m w1) (hK : K w1) (hKK : ∀ w w', K w → KW n w w' → K w')
    (Lo m' MA : Mem0) (hMA : MA = Lo ++ m') (hM : ∀ w, Mem w M → Mem w MA) (hLo : ∀ p ∈ Lo, n ≤ p.1 ∧ wlk p.2 = true) (hn : ∀ p ∈ m', (w1.heap.size ≤ p.1 ∨ ∃ q ∈ m, q.1 = p.1) ∧ wlk p.2 = false)
    (ht : ∀ w2, Mem w2 MA → Chg all0 w0 w2 → J (k + 1) m' w2 → K w2 → LM P r N ops Q rest ((d, .bool true) :: e) ds MA (inM m') w2 (KW n w2))
    (hf : ∀ w2, Mem w2 Lo → Chg all0 w0 w2 → Jx w2 → K w2 → LM P r N ops Q rest ((d, .bool false) :: e) ds Lo no w2 (KW n w2)) (hd : Nat.blt d N = true := by rfl) :
    LM P r N ops Q (⟨some d, .call { callee := .value g, args := la.toArray, argTypes := ats }, ty, pos, after, none⟩ :: rest) e ds M (inM m) w1 (KW n w1) := fun w hm hc hgw a hfr hdm => by
  subst hMA
  refine wpListIn_plain rfl fun Kc hKc => ?_
  refine ⟨fun _ _ => trivial, ?_⟩
  have hm2 := hM w hm
  have hj := hL.upd k m m' w1 w hJ hc (hm2.sub (List.sublist_append_right _ _)) hn
  obtain ⟨fn, tmps, assign, body, h1, h2⟩ := hy m' w hj
  have hrun : (execOp a.eval ⟨some d, .call { callee := .value g, args := la.toArray, argTypes := ats }, ty, pos, after, none⟩).run P w = .ok (.round l fn tmps assign body) w := by
    simp [execOp, resolve, hfr.eval hg, Deferred.ofValue, invoke, evs_map (ρ := a.eval) (fun x u hx => hfr.eval hx) ha]
    exact h1
  rw [semAt_nd rfl, hrun]
  refine ⟨fun h => (by cases h), ?_⟩
  have h3 : RoundIn (Wd r) 0 P l fn tmps assign body w (fun en w' => ∃ b, en = .returned (.bool b) ∧ ((b = true ∧ J (k + 1) m' w') ∨ (b = false ∧ Jx w')) ∧ KW n w w') := h2
  refine RoundIn.mono h3 ?_
  rintro en w' ⟨b, rfl, hb, hkw⟩
  have hC' : Chg all0 w0 w' := chg_all (chg_all hC hc) (kw_chg hkw)
  have hK' : K w' := hKK w w' (hKK w1 w hK hgw) hkw
  have hLo' : ∀ p ∈ Lo, w'.heap[p.1]? = some p.2 := fun p hp => hkw.same p.1 p.2 (hLo p hp).1 (hm2.2 p (List.mem_append_left _ hp)) (hLo p hp).2
  rcases hb with ⟨rfl, hb⟩ | ⟨rfl, hb⟩
  · have hm3 : Mem w' (Lo ++ m') := ⟨hm2.1, fun p hp => by
      rcases List.mem_append.1 hp with hp | hp
      · exact hLo' p hp
      · exact (hL.mem _ _ _ hb).2 p hp⟩
    exact hKc _ _ (ht w' hm3 hC' hb hK' w' hm3 (Chg.refl _ w') (KW.refl n w') _ (hfr.put hd _) hdm)
  · have hm3 : Mem w' Lo := ⟨(hm2.sub (List.sublist_append_left _ _)).1, hLo'⟩
    exact hKc _ _ (hf w' hm3 hC' hb hK' w' hm3 (Chg.refl _ w') (KW.refl n w') _ (hfr.put hd _) hdm)
end
/-! ### ... in a round of a loop of the iterator's own -/
section
variable {P : Program} {r : Option Nat} {N : Nat} {Q : Exit → Act → World → Prop} {e : Env} {ds : List Nat} {M m : Mem0} {w0 w1 : World} {n k : Nat} {J : Nat → Mem0 → World → Prop} {Jx K K2 : World → Prop}
theorem wpM.openJ2 {c : Code} (h : ∀ w1, Mem w1 M → Chg all0 w0 w1 → J k m w1 → (K w1 ∧ K2 w1) → wpM P r N c Q e ds M (inM m) w1 (KW n w1)) : wpM P r N c Q e ds M all0 w0 (fun w => (J k m w ∧ K w) ∧ K2 w) :=
  fun w hm hc hg => h w hm hc hg.1.1 ⟨hg.1.2, hg.2⟩ w hm (Chg.refl _ w) (KW.refl n w)
theorem QM.closeJ2 {X : Exit} (hL : JL n J Jx) (hC : Chg all0 w0 w1) (hJ : J k m w1) (hK : K w1 ∧ K2 w1) (hKK : ∀ w w', (K w ∧ K2 w) → KW n w w' → K w' ∧ K2 w') (m' : Mem0) (hM : ∀ w, Mem w M → Mem w m') (hn : ∀ p ∈ m', (w1.heap.size ≤ p.1 ∨ ∃ q ∈ m, q.1 = p.1) ∧ wlk p.2 = false)
    (h : QM N Q X e ds M all0 w0 (fun w => (J k m' w ∧ K w) ∧ K2 w)) : QM N Q X e ds M (inM m) w1 (KW n w1) := fun w hm hc hg => h w hm (chg_all hC hc) ⟨⟨hL.upd k m m' w1 w hJ hc (hM w hm) hn, (hKK w1 w hK hg).1⟩, (hKK w1 w hK hg).2⟩
theorem QM.closeX2 {X : Exit} (hL : JL n J Jx) (hC : Chg all0 w0 w1) (hJ : Jx w1) (hK : K w1 ∧ K2 w1) (hKK : ∀ w w', (K w ∧ K2 w) → KW n w w' → K w' ∧ K2 w')
    (h : QM N Q X e ds M all0 w0 (fun w => (Jx w ∧ K w) ∧ K2 w)) : QM N Q X e ds M no w1 (KW n w1) := fun w hm hc hg => h w hm (chg_all hC hc) ⟨⟨hL.endx hJ hc, (hKK w1 w hK hg).1⟩, (hKK w1 w hK hg).2⟩
theorem gl_j (hL : JL n J Jx) {q : Nat} (hq : n ≤ q) (hK : Gl q K) : Gl q (fun w => J k m w ∧ K w) := fun w1 w2 g b => ⟨hL.bk _ _ _ _ g.1 (b.mono hq), hK _ _ g.2 b⟩
theorem gl_x (hL : JL n J Jx) {q : Nat} (hq : n ≤ q) (hK : Gl q K) : Gl q (fun w => Jx w ∧ K w) := fun w1 w2 g b => ⟨hL.bkx _ _ g.1 (b.mono hq), hK _ _ g.2 b⟩
theorem kk_top (n : Nat) : ∀ w w', top w → KW n w w' → top w' := fun _ _ _ _ => trivial
theorem kk_and {n1 : Nat} {W1 : World} (hK : ∀ w w', K w → KW n w w' → K w') (hn : n ≤ n1) : ∀ w w', (K w ∧ KW n1 W1 w) → KW n w w' → K w' ∧ KW n1 W1 w' := fun w w' h k => ⟨hK w w' h.1 k, h.2.trans k hn⟩
theorem pn_nil {Φ : Nat × Obj → Prop} : ∀ p ∈ ([] : Mem0), Φ p := fun p hp => by cases hp
theorem pn_cons {b : Nat} {o : Obj} {m' : Mem0} (h : w1.heap.size ≤ b ∨ ∃ q ∈ m, q.1 = b) (hw : wlk o = false) (k : ∀ p ∈ m', (w1.heap.size ≤ p.1 ∨ ∃ q ∈ m, q.1 = p.1) ∧ wlk p.2 = false) : ∀ p ∈ (b, o) :: m', (w1.heap.size ≤ p.1 ∨ ∃ q ∈ m, q.1 = p.1) ∧ wlk p.2 = false := fun p hp => by
  rcases List.mem_cons.1 hp with rfl | hp
  · exact ⟨h, hw⟩
  · exact k p hp
theorem lo_cons {b : Nat} {o : Obj} {m' : Mem0} (h : n ≤ b) (hw : wlk o = true) (k : ∀ p ∈ m', n ≤ p.1 ∧ wlk p.2 = true) : ∀ p ∈ (b, o) :: m', n ≤ p.1 ∧ wlk p.2 = true := fun p hp => by
  rcases List.mem_cons.1 hp with rfl | hp
  · exact ⟨h, hw⟩
  · exact k p hp
theorem lo_dm {m' : Mem0} {ds : List Nat} (h : ∀ D ∈ ds, n ≤ D) (k : ∀ p ∈ m', n ≤ p.1 ∧ wlk p.2 = true) : ∀ p ∈ dM ds ++ m', n ≤ p.1 ∧ wlk p.2 = true := fun p hp => by
  rcases List.mem_append.1 hp with hp | hp
  · obtain ⟨D, hD, rfl⟩ := List.mem_map.1 hp; exact ⟨h D hD, rfl⟩
  · exact k p hp
end
/-! ### A loop whose rounds leave marks -/
section
variable {P : Program} {r : Option Nat} {N : Nat} {Q : Exit → Act → World → Prop} {e : Env} {ds : List Nat} {M : Mem0} {S : Nat → Prop} {w0 : World} {G : World → Prop}
end
instance {M M1 : Mem0} {ds : List Nat} [h : Spl M (dM ds) M1] : SplD M ds M1 := ⟨h.perm⟩
theorem hd_cons {w0 : World} {D : Nat} {ds : List Nat} (h : w0.heap.size ≤ D) (k : ∀ D ∈ ds, w0.heap.size ≤ D) : ∀ D' ∈ D :: ds, w0.heap.size ≤ D' := fun D' hD => by
  rcases List.mem_cons.1 hD with rfl | hD
  · exact h
  · exact k D' hD
theorem hd_nil {w0 : World} : ∀ D ∈ ([] : List Nat), w0.heap.size ≤ D := fun D h => by cases h
theorem shut_bk {m : Nat} : ∀ (ds : List Nat) (w : World) (M1 : Mem0), Mem w (dM ds ++ M1) → (∀ D ∈ ds, m ≤ D) → Bk m w (shut ds w)
  | [], w, M1, hm, _ => .refl _ _
  | D :: ds, w, M1, hm, hD => by
    have hm' : Mem w ((D, .deferred (some [])) :: (dM ds ++ M1)) := hm
    have h1 := hm'.get (i := 0) rfl
    have h2 := (hm'.set (i := 0) rfl (World.putObj_heap_same (Array.getElem?_eq_some_iff.1 h1).1) (chg_put (.deferred none))).tail
    exact (Bk.put h1 (hD D (List.mem_cons_self ..)) rfl rfl).trans (shut_bk ds _ M1 h2 (fun D' h => hD D' (List.mem_cons_of_mem _ h)))
theorem QM.leaveDJ {P : Program} {fn : Func} {N : Nat} {e : Env} {ds : List Nat} {M M1 : Mem0} {w0 : World} {G : World → Prop} {R : Value → World → Prop} {vs : List Value} {x : Exit} {m : Nat} (hx : x = .ret ∨ x = .normal) (rs : List ResultVar) (hr : fn.results = rs.toArray) (h : resE e rs = some vs) (hw : m = w0.heap.size) (hD : ∀ D ∈ ds, w0.heap.size ≤ D)
    (hG : Gl m G) [k : SplD M ds M1] (hR : ∀ w, Mem w M1 → G w → R (resV vs) w) : QM N (fnPost P fn R) x e ds M all0 w0 G := fun w hm hc hg => by
  have hm2 := hm.perm k.perm
  obtain ⟨h1, h2, h3⟩ := shut_mem ds w M1 hm2 hc hD
  have h4 := hR _ h2 (hG _ _ hg (shut_bk ds w M1 hm2 (by rw [hw]; exact hD)))
  rcases hx with rfl | rfl
  · exact .leave rs hr h h1 h4
  · exact .leaveN rs hr h h1 h4
theorem Sl.wlk {α : Type} {f : α → List Value} {E s n0 : Nat} {xs : List α} {v : Value} {m : Mem0} (h : Sl f E s n0 xs v m) : ∀ p ∈ m, Go.Eng.wlk p.2 = false := fun p hp => by
  rcases h with ⟨_, rfl, _⟩ | ⟨b, cap, junk, _, _, rfl, _⟩
  · cases hp
  · rw [List.mem_singleton] at hp; subst hp; rfl
theorem mm_nil {M0 : Mem0} : ∀ p ∈ ([] : Mem0), p ∈ M0 ∨ wlk p.2 = false := fun p hp => by cases hp
theorem mm_app {m M M0 : Mem0} (h : ∀ p ∈ m, wlk p.2 = false) (k : ∀ p ∈ M, p ∈ M0 ∨ wlk p.2 = false) : ∀ p ∈ m ++ M, p ∈ M0 ∨ wlk p.2 = false := fun p hp => by
  rcases List.mem_append.1 hp with hp | hp
  · exact .inr (h p hp)
  · exact k p hp
theorem SeqCP.enter {P : Program} {f : FuncId} {fn : Func} {c : Code} {lb : List Value} {A : List (Array Value)} {Rd : World → Prop} {fin : Prop}
    (hf : P.funcs[f]? = some fn) (hb : fn.body = some c) {N : Nat} (hN : fn.ntmps = N) (hl : Nat.ble (lb.length + 1) N = true)
    (h : ∀ (l n : Nat) (J : Nat → Mem0 → World → Prop) (Jx : World → Prop) (w0 : World), n = w0.heap.size → (fin ∨ ∀ m w, ¬ J A.length m w) → (∀ k m w, J k m w → Rd w) → JL n J Jx →
      (∀ k a m w, A[k]? = some a → J k m w → YR P l a w (fun b w2 => ((b = true ∧ J (k + 1) m w2) ∨ (b = false ∧ Jx w2)) ∧ KW n w w2)) →
      wpM P none N c (fnPost P fn (fun _ w' => J A.length [] w' ∨ Jx w')) (args0 0 (.func (.yield l) #[] #[] :: lb)) [] [] all0 w0 (fun w => J 0 [] w ∧ top w)) : SeqCP P f lb.toArray A Rd fin := fun l J Jx W hfin hJr hL hy h0 => by
  have h1 : (#[Value.func (.yield l) #[] #[]] ++ lb.toArray) = (Value.func (.yield l) #[] #[] :: lb).toArray := by simp
  rw [h1]
  refine Ret.enterG hf hb hN (by simpa using hl) [] all0 (fun w => J 0 [] w ∧ top w) (Mem.nil W) ⟨h0, trivial⟩ ?_
  exact h l W.heap.size J Jx W rfl hfin hJr hL hy
/-! ### A call that changes one block among what may be carried out early or late -/
def AltO (b : Nat) (Mc : Mem0) (os : List Obj) (w : World) : Prop := ∃ o ∈ os, Mem w ((b, o) :: Mc)
instance (b : Nat) (Mc : Mem0) (os : List Obj) {G : World → Prop} [GS G] : GS (fun w => G w ∧ AltO b Mc os w) where
  ext := fun w w' ⟨h, o, ho, hm⟩ k => ⟨GS.ext w w' h k, o, ho, hm.ext k⟩
section
variable {P : Program} {r : Option Nat} {N : Nat} {Q : Exit → Act → World → Prop} {e : Env} {ds : List Nat} {M : Mem0} {S : Nat → Prop} {w0 : World} {G : World → Prop}
variable {ops : Array Oper} {lo : List Oper} {l : List (Nat × Nat)} {op : Op} {ty : TypeId} {pos : String} {after : Array Edge} {d i : Nat}
end
/-! ### A new slice, as a slice of the call's own -/
section
variable {P : Program} {r : Option Nat} {N : Nat} {Q : Exit → Act → World → Prop} {e : Env} {ds : List Nat} {M : Mem0} {S : Nat → Prop} {w0 : World} {G : World → Prop}
variable {ops : Array Oper} {l : List Oper} {ty : TypeId} {pos : String} {after : Array Edge} {d : Nat} {t : TypeId} {x y : Operand}
theorem LM.makeS [GS G] {α : Type} {f : α → List Value} {E s : Nat} {inf : TypeInfo} {z : Value} {a0 : α} {n : Int} {k k' : IntKind} (hU : P.underlying t = some (.slice E)) (hI : ∀ w, (typeInfo E).run P w = .ok inf w) (hz : inf.zero = some z) (hs : inf.size = s) (hs0 : Nat.blt 0 s = true) (hza : z.cells = (f a0).toArray) (hf : ∀ a, (f a).length = s) (hd : Nat.blt d N = true)
    (hx : ev e x = some (.int k n)) (hy : ev e y = some (.int k' n)) (h0 : 0 ≤ n) (hb : (inf.bytes : Int) * n ≤ 281474976710656) (h63 : n ≤ 9223372036854775807) (hmx : n.toNat ≤ maxLen)
    (h : ∀ ad c m, c = n.toNat → Sl f E s w0.heap.size (List.replicate c a0) (.slice ad c c) m → LM P r N ops Q l ((d, .slice ad c c) :: e) ds (m ++ M) S w0 G) :
    LM P r N ops Q (⟨some d, .makeSlice t x y, ty, pos, after, none⟩ :: l) e ds M S w0 G :=
  LM.make hU hI hz hs hs0 hza hf hd hx hy h0 hb h63 (fun b hb => h (some ⟨b, 0, none⟩) n.toNat [(b, .cells (arr f (List.replicate n.toNat a0) []) E (0, 0))] rfl (.inr ⟨b, n.toNat, [], hb, by rw [List.length_replicate], rfl, by rw [List.length_replicate]; exact Nat.le_refl _, hmx, by rw [List.length_replicate]; simp⟩))
end
section range
variable {P : Program} {N : Nat} {Q : Exit → Act → World → Prop} {e : Env} {ds : List Nat} {M : Mem0} {S : Nat → Prop} {w0 : World} {G : World → Prop}
variable {g : Operand} {ps : Array Tmp} {assign body : Code} {gf : FuncId} {lb : Array Value} {A : List (Array Value)} {Rd : World → Prop} {fin : Prop} {α β : Type}
theorem range_coreP {a : Act} (hf : Fr N e a) {l D m : Nat} {fn : FuncId} {Dl : Mem0} {W : World} (hlW : l + 1 = W.heap.size) (hml : m ≤ l) (hlb : w0.heap.size ≤ l) (hDl : ∀ p ∈ Dl, p.1 < W.heap.size)
    (hseq : SeqCP P gf lb A Rd fin) (MT : Nat → α → Mem0 → Mem0) (hMT : ∀ k x Mp, MT k x Mp = MT k x [] ++ Mp) (GG : Nat → α → World → Prop) [hGT : ∀ k x, GT (GG k x)] (I : Nat → α → Prop) (MX : β → Mem0) (GX : β → World → Prop) (IX : Code → β → Prop) (x0 : α)
    (hA : ∀ (k : Nat) (av : Array Value), A[k]? = some av → av.size = ps.size) (hps : ps.all (fun p => Nat.blt p N) = true)
    (hm0 : Mem W ((l, .loop (recOf fn a.tmps ps assign body D)) :: (Dl ++ MT 0 x0 []))) (hc0 : Chg S w0 W) (hg0 : GG 0 x0 W) (hI0 : I 0 x0)
    (hfin : fin ∨ ∀ x, ¬ I A.length x)
    (hrd : ∀ k x w, Mem w (MT k x []) → Chg S w0 w → GG k x w → I k x → Rd w)
    (hGG : ∀ k x, Gl m (GG k x)) (hGX : ∀ z, Gl m (GX z))
    (hMM : ∀ k x, I k x → ∀ p ∈ MT k x [], p.1 < W.heap.size ∨ wlk p.2 = false) (hMX : ∀ c z, IX c z → ∀ p ∈ MX z, p.1 < W.heap.size ∨ wlk p.2 = false)
    (hbody : ∀ k av x W1 Mp, A[k]? = some av → I k x → wpM P (some l) N assign (Exit.then (asK P l (recOf fn a.tmps ps assign body D) body (rdQ l (recOf fn a.tmps ps assign body D) Dl S w0 (KW W.heap.size W1) (fun y => MT (k + 1) y Mp) (GG (k + 1)) (I (k + 1)) MX GX IX)) never)
      (parE (ps.toList.zip av.toList) e) [] ((l, .loop (recOf fn a.tmps ps assign body D)) :: (Dl ++ MT k x Mp)) S w0 (fun w => GG k x w ∧ KW W.heap.size W1 w)) :
    Ret P gf (#[.func (.yield l) #[] #[]] ++ lb) W (fun _ w' =>
      (∃ x, Mem w' ((l, .loop (recOf fn a.tmps ps assign body D)) :: (Dl ++ MT A.length x [])) ∧ Chg S w0 w' ∧ GG A.length x w' ∧ I A.length x) ∨
      (∃ c z, Mem w' ((l, .loop (doneOf (recOf fn a.tmps ps assign body D) c)) :: (Dl ++ MX z)) ∧ Chg S w0 w' ∧ GX z w' ∧ IX c z ∧ (c = .ret ∨ ∃ id, c = .exit id))) := by
  generalize hrc : recOf fn a.tmps ps assign body D = rc at *
  have hst : rc.state = .ready := by rw [← hrc]; rfl
  have hpe : rc.pending = none := by rw [← hrc]; rfl
  have hpar : rc.params = ps := by rw [← hrc]; rfl
  have hass : rc.assign = assign := by rw [← hrc]; rfl
  have hbod : rc.body = body := by rw [← hrc]; rfl
  have htm : rc.tmps = a.tmps := by rw [← hrc]; rfl
  -- book-keeping leaves the lists as they are
  have keep : ∀ (w1 w2 : World) (Mx : Mem0), Bk W.heap.size w1 w2 → Mem w1 Mx → (∀ p ∈ Mx, p.1 < W.heap.size ∨ wlk p.2 = false) → Mem w2 Mx := fun w1 w2 Mx hb hm hp => ⟨hm.1, fun p hpm => hb.same _ _ (hm.2 p hpm) (hp p hpm)⟩
  have keepC : ∀ (w1 w2 : World), Bk W.heap.size w1 w2 → Chg S w0 w1 → Chg S w0 w2 := fun w1 w2 hb hc => hc.step hb.chg (fun x hx hn => by have := hc0.size; omega)
  have hlow : ∀ (o : Obj) (Mx : Mem0), (∀ p ∈ Mx, p.1 < W.heap.size ∨ wlk p.2 = false) → ∀ p ∈ ((l, o) :: (Dl ++ Mx)), p.1 < W.heap.size ∨ wlk p.2 = false := fun o Mx h p hp => by
    rcases List.mem_cons.1 hp with rfl | hp
    · exact .inl (by simp only; omega)
    · rcases List.mem_append.1 hp with hp | hp
      · exact .inl (hDl p hp)
      · exact h p hp
  have hsplit : ∀ (o : Obj) (k : Nat) (x : α) (Mp : Mem0), (l, o) :: (Dl ++ MT k x Mp) = ((l, o) :: (Dl ++ MT k x [])) ++ Mp := fun o k x Mp => by rw [hMT k x Mp]; simp [List.append_assoc]
  refine Ret.mono (hseq l
    (fun k Mp w => (∃ x, Mem w ((l, .loop rc) :: (Dl ++ MT k x Mp)) ∧ Chg S w0 w ∧ GG k x w ∧ I k x) ∧ ∀ p ∈ Mp, W.heap.size ≤ p.1 ∧ wlk p.2 = false)
    (fun w => ∃ c z, Mem w ((l, .loop (doneOf rc c)) :: (Dl ++ MX z)) ∧ Chg S w0 w ∧ GX z w ∧ IX c z ∧ (c = .ret ∨ ∃ id, c = .exit id))
    W (hfin.imp id fun hn Mp w => by rintro ⟨⟨x, _, _, _, hI⟩, _⟩; exact hn x hI) ?_ ⟨?_, ?_, ?_, ?_, ?_⟩ ?_ ⟨⟨x0, hm0, hc0, hg0, hI0⟩, fun p hp => by cases hp⟩) (fun _ w' h => h.imp (fun h => h.1) id)
  · rintro k Mp w ⟨⟨x, hm, hc, hg, hI⟩, hp⟩
    rw [hsplit] at hm
    exact hrd k x w ((hm.sub (List.sublist_append_left _ _)).sub ((List.sublist_append_right Dl (MT k x [])).trans (List.sublist_cons_self _ _))) hc hg hI
  · rintro k Mp w ⟨⟨x, hm, _⟩, _⟩
    have := hm.lt (p := (l, .loop rc)) (List.mem_cons_self ..)
    simp only at this; omega
  · rintro k Mp w ⟨⟨x, hm, _⟩, _⟩
    rw [hsplit] at hm; exact hm.sub (List.sublist_append_right _ _)
  · rintro k Mp Mp' w w' ⟨⟨x, hm, hc, hg, hI⟩, hp⟩ hch hm' hn
    have hsz' := hm.lt (p := (l, .loop rc)) (List.mem_cons_self ..)
    simp only at hsz'
    rw [hsplit] at hm
    obtain ⟨m', rfl, h1, h2, h3, h4⟩ := upd_step (S := S) (w0 := w0) (G := GG k x) (m := Mp) (T := fun _ q => q = Mp') (u := .bool true) (hm.perm List.perm_append_comm) (fun p hq => (hp p hq).2) (fun p hq hlt => by have := (hp p hq).1; omega) hc hg ⟨hch, Mp', rfl, hm', fun p hq => (hn p hq).1⟩
    refine ⟨⟨x, ?_, h3, h4, hI⟩, fun p hq => ⟨?_, (hn p hq).2⟩⟩
    · rw [hsplit]; exact h2.perm List.perm_append_comm
    · rcases (hn p hq).1 with h | ⟨q, hq2, e⟩
      · omega
      · rw [← e]; exact (hp q hq2).1
  · rintro k Mp w1 w2 ⟨⟨x, hm, hc, hg, hI⟩, hp⟩ hb
    refine ⟨⟨x, keep w1 w2 _ hb hm (hlow _ _ (fun p hpm => ?_)), keepC w1 w2 hb hc, hGG k x w1 w2 hg (hb.mono (by omega)), hI⟩, hp⟩
    rw [hMT k x Mp] at hpm
    rcases List.mem_append.1 hpm with hpm | hpm
    · exact hMM k x hI p hpm
    · exact .inr (hp p hpm).2
  · rintro w1 w2 ⟨c, z, hm, hc, hg, hI, hj⟩ hb
    exact ⟨c, z, keep w1 w2 _ hb hm (hlow _ _ (hMX c z hI)), keepC w1 w2 hb hc, hGX z w1 w2 hg (hb.mono (by omega)), hI, hj⟩
  · rintro k av Mp w1 hav ⟨⟨x, hm, hc, hg, hI⟩, hp⟩
    have hl1 := hm.get (i := 0) rfl
    refine YR.of_body hst hpe (by rw [hpar]; exact hA k av hav) hl1 ?_
    rw [hass, hbod, hpar, htm]
    have hfr : Fr N (parE (ps.toList.zip av.toList) e) { tmps := (ps.zip av).foldl (fun t (p, v) => t.setIfInBounds p v) a.tmps, defers := [] } := by
      rw [← Array.foldl_toList, Array.toList_zip]
      refine fr_par _ e a.tmps ?_ ⟨hf.1, hf.2⟩
      rw [List.all_eq_true]
      intro p hp
      have : p.1 ∈ ps := Array.mem_def.2 (List.of_mem_zip hp).1
      exact Array.all_eq_true_iff_forall_mem.1 hps _ this
    refine wpIn_mono (hbody k av x w1 Mp hav hI w1 hm hc ⟨hg, .refl _ _⟩ _ hfr rfl) ?_
    intro x1 a1 w2 hq
    cases x1 with
    | normal =>
      obtain ⟨h1, h2⟩ := hq
      refine ⟨h1, wpIn_mono h2 (fun x2 a2 w3 hq => ?_)⟩
      have fin : ∀ (o' : Obj) (Mx : Mem0), wlk o' = true → Mem w3 ((l, .loop (busyOf rc)) :: Mx) → Chg S w0 w3 → KW W.heap.size w1 w3 →
          w3.heap[l]? = some (.loop (busyOf rc)) ∧ Mem (w3.putObj l o') ((l, o') :: Mx) ∧ Chg S w0 (w3.putObj l o') ∧ KW W.heap.size w1 (w3.putObj l o') ∧ Bk m w3 (w3.putObj l o') := fun o' Mx ho hm3 hc3 hk3 => by
        have h3 := hm3.get (i := 0) rfl
        refine ⟨h3, hm3.set (i := 0) rfl (World.putObj_heap_same (Array.getElem?_eq_some_iff.1 h3).1) (chg_put _), hc3.step (chg_put _) (fun q hq hql => by subst hql; omega), ?_, Bk.put h3 hml rfl ho⟩
        exact ⟨hk3.os, hk3.tape, hk3.output, by simpa using hk3.size, fun b o hn hb hw => by rw [World.putObj_heap_other (by omega)]; exact hk3.same b o hn hb hw⟩
      cases x2 with
      | normal =>
        obtain ⟨y, hm3, hc3, ⟨hg3, hk3⟩, hI3⟩ := hq
        obtain ⟨p1, p2, p3, p4, p5⟩ := fin (.loop rc) _ rfl hm3 hc3 hk3
        exact ⟨p1, .inl ⟨rfl, ⟨y, p2, p3, hGG _ _ _ _ hg3 p5, hI3⟩, hp⟩, p4⟩
      | ret =>
        obtain ⟨z, hm3, hc3, ⟨hg3, hk3⟩, hI3⟩ := hq
        obtain ⟨p1, p2, p3, p4, p5⟩ := fin (.loop (doneOf rc .ret)) _ rfl hm3 hc3 hk3
        exact ⟨p1, .inr ⟨rfl, .ret, z, p2, p3, hGX _ _ _ hg3 p5, hI3, .inl rfl⟩, p4⟩
      | exit id =>
        obtain ⟨z, hm3, hc3, ⟨hg3, hk3⟩, hI3⟩ := hq
        obtain ⟨p1, p2, p3, p4, p5⟩ := fin (.loop (doneOf rc (.exit id))) _ rfl hm3 hc3 hk3
        exact ⟨p1, .inr ⟨rfl, .exit id, z, p2, p3, hGX _ _ _ hg3 p5, hI3, .inr ⟨id, rfl⟩⟩, p4⟩
      | _ => exact hq.elim
    | _ => exact hq.elim
theorem wpM.rangeP (hE : Enters P gf) (hg : ev e g = some (.func (.func gf) #[] lb)) (hseq : SeqCP P gf lb A Rd fin)
    (MT : Nat → α → Mem0 → Mem0) (hMT : ∀ k x Mp, MT k x Mp = MT k x [] ++ Mp) (GG : Nat → α → World → Prop) [hGT : ∀ k x, GT (GG k x)] (I : Nat → α → Prop) (MX : β → Mem0) (GX : β → World → Prop) (IX : Code → β → Prop) (x0 : α)
    (hM0 : MT 0 x0 [] = M) (hG0 : ∀ w, G w → GG 0 x0 w) (hI0 : I 0 x0) (hps : ps.all (fun p => Nat.blt p N) = true) (hA : ∀ (k : Nat) (av : Array Value), A[k]? = some av → av.size = ps.size)
    (hfin : fin ∨ ∀ x, ¬ I A.length x)
    (hrd : ∀ k x w, Mem w (MT k x []) → Chg S w0 w → GG k x w → I k x → Rd w)
    (hGG : ∀ w, G w → ∀ k x, Gl w.heap.size (GG k x)) (hGX : ∀ w, G w → ∀ z, Gl w.heap.size (GX z))
    (hMM : ∀ k x, I k x → ∀ p ∈ MT k x [], p ∈ MT 0 x0 [] ∨ wlk p.2 = false) (hMX : ∀ c z, IX c z → ∀ p ∈ MX z, p ∈ MT 0 x0 [] ∨ wlk p.2 = false)
    (hbody : ∀ k av x l D rc n W1 Mp, w0.heap.size ≤ D → w0.heap.size ≤ l → (∀ k x, Pl l rc (fun w => GG k x w ∧ KW n W1 w)) → rc.defers = D → A[k]? = some av → I k x →
      wpM P (some l) N assign (Exit.then (asK P l rc body (rdQ l rc [(D, .deferred (some []))] S w0 (KW n W1) (fun y => MT (k + 1) y Mp) (GG (k + 1)) (I (k + 1)) MX GX IX)) never)
      (parE (ps.toList.zip av.toList) e) [] ((l, .loop rc) :: ([(D, .deferred (some []))] ++ MT k x Mp)) S w0 (fun w => GG k x w ∧ KW n W1 w))
    (hdone : ∀ x D, w0.heap.size ≤ D → I A.length x → QM N Q .normal e (D :: ds) ([(D, .deferred (some []))] ++ MT A.length x []) S w0 (GG A.length x))
    (hret : ∀ z D, w0.heap.size ≤ D → IX .ret z → QM N Q .ret e (D :: ds) ([(D, .deferred (some []))] ++ MX z) S w0 (GX z))
    (hexit : ∀ id z D, w0.heap.size ≤ D → IX (.exit id) z → QM N Q (.exit id) e (D :: ds) ([(D, .deferred (some []))] ++ MX z) S w0 (GX z)) :
    wpM P none N (.rangeFunc g ps assign body) Q e ds M S w0 G := fun w hm hc hgw a hf hd => by
  refine wpIn_rangeFunc ?_
  intro fn _
  have hbk : Bk w.heap.size w ((w.alloc (.deferred (some []))).alloc (.loop (recOf fn a.tmps ps assign body w.heap.size))) := (Ext.bk (chg_alloc w _)).trans (Ext.bk (chg_alloc _ _))
  have hm1 : Mem ((w.alloc (.deferred (some []))).alloc (.loop (recOf fn a.tmps ps assign body w.heap.size))) ((w.heap.size + 1, .loop (recOf fn a.tmps ps assign body w.heap.size)) :: ([(w.heap.size, .deferred (some []))] ++ MT 0 x0 [])) := by
    rw [hM0]
    have := ((hm.alloc (.deferred (some []))).alloc (.loop (recOf fn a.tmps ps assign body w.heap.size)))
    rwa [World.size_alloc] at this
  generalize hW : (w.alloc (.deferred (some []))).alloc (.loop (recOf fn a.tmps ps assign body w.heap.size)) = W at *
  have hsz : W.heap.size = w.heap.size + 2 := by rw [← hW]; simp
  have h0 := hc.size
  have hcW : Chg S w0 W := hc.step hbk.chg (fun x hx hn => by omega)
  refine ⟨w.heap.size + 1, [mark w.heap.size], W, _, W, gf, #[.func (.yield (w.heap.size + 1)) #[] #[]] ++ lb, W, ?_, run_rangeCall hf hg _ _, fun _ _ => trivial, ?_, fun h => (by cases h), ?_⟩
  · rw [← hW]; exact run_enterLoop_outer fn a.tmps ps assign body
  · exact hE _ _
  · refine range_end (rc := recOf fn a.tmps ps assign body w.heap.size) (ds' := w.heap.size :: ds) (MM := fun k x => MT k x []) (GG := GG) (I := I) (MX := MX) (GX := GX) (IX := IX) rfl rfl (by omega) ⟨hf.1, hf.2⟩ (by unfold Dm at *; simp [hd, mark]) (fun k x w1 w2 g b => hGG w hgw k x w1 w2 g (b.mono (by omega))) (fun z w1 w2 g b => hGX w hgw z w1 w2 g (b.mono (by omega)))
      (range_coreP hf (l := w.heap.size + 1) (D := w.heap.size) (m := w.heap.size) (fn := fn) (Dl := [(w.heap.size, .deferred (some []))]) (W := W) (by omega) (by omega) (by omega)
      (fun p hp => by simp at hp; subst hp; simp only; omega) hseq MT hMT GG I MX GX IX x0 hA hps hm1 hcW
      (hGG w hgw 0 x0 _ _ (hG0 w hgw) hbk) hI0 hfin hrd (hGG w hgw) (hGX w hgw)
      (fun k x hI p hp => (hMM k x hI p hp).imp (fun h => by rw [hM0] at h; have := hm.lt h; omega) id) (fun c z hI p hp => (hMX c z hI p hp).imp (fun h => by rw [hM0] at h; have := hm.lt h; omega) id)
      (fun k av x W1 Mp hav hI => hbody k av x _ _ _ _ W1 Mp h0 (by omega) (fun k x v hv hl => ⟨hGG w hgw k x _ _ hv.1 (Bk.put hl (by omega) rfl rfl), hv.2.put (by omega) _⟩) rfl hav hI))
      (fun x hI => hdone x _ h0 hI) (fun z hI => hret z _ h0 hI) (fun id z hI => hexit id z _ h0 hI)
end range
end Go.Eng
namespace Go.Eng
open Go Go.RowKit
/-! ### Results -/
def ResC (P : Program) (e : Env) (M : Mem0) : List ResultVar → List Value → Prop
  | [], vs => vs = []
  | .tmp t :: l, vs => ∃ v us, vs = v :: us ∧ look e t = some v ∧ ResC P e M l us
  | .cell b t :: l, vs => ∃ v us ad, vs = v :: us ∧ look e b = some (.pointer (some ad)) ∧ (∀ w, Mem w M → (loadVar t ad).run P w = .ok v w) ∧ ResC P e M l us
section
variable {P : Program} {fn : Func} {N : Nat} {e : Env} {ds : List Nat} {M M1 M2 : Mem0} {S : Nat → Prop} {w0 : World} {G : World → Prop} {R : Value → World → Prop} {vs : List Value} {l : List ResultVar} {us : List Value} {v : Value}
theorem rc_nil : ResC P e M [] [] := rfl
theorem rc_tmp {t : Nat} (h : look e t = some v) (k : ResC P e M l us) : ResC P e M (.tmp t :: l) (v :: us) := ⟨_, _, rfl, h, k⟩
theorem rc_c {b off ad : Nat} {t E : TypeId} {cs : Array Value} {fz : Nat × Nat} (hb : look e b = some (.pointer (some ⟨ad, off, none⟩))) [q : Fnd M ad (.cells cs E fz) M2] (hT : ∀ w, (isAgg t).run P w = .ok false w) (hc : cs[off]? = some v) (k : ResC P e M l us) :
    ResC P e M (.cell b t :: l) (v :: us) := ⟨_, _, _, rfl, hb, fun w hm => run_loadVar_one hT (q.get hm) hc, k⟩
theorem rc_w {b ad n : Nat} {t E : TypeId} {cs : Array Value} {fz : Nat × Nat} (hb : look e b = some (.pointer (some ⟨ad, 0, none⟩))) [q : Fnd M ad (.cells cs E fz) M2] (hT : ∀ w, (isAgg t).run P w = .ok true w) (hS : ∀ w, (sizeOf t).run P w = .ok n w) (hn : cs.size = n) (k : ResC P e M l us) :
    ResC P e M (.cell b t :: l) (.agg cs :: us) := ⟨_, _, _, rfl, hb, fun w hm => by
  have := run_loadVar_agg (P := P) (off := 0) (vs := cs.toList) hT hS (q.get hm) (by simpa using hn) (fun j v hj => by rw [Nat.zero_add]; simpa using hj)
  simpa using this, k⟩
theorem mapM_resC {a : Act} (hf : Fr N e a) {w : World} (hm : Mem w M) (f : ResultVar → Sem Value) (hft : ∀ t v, a.tmps[t]? = some v → (f (.tmp t)).run P w = .ok v w)
    (hfc : ∀ b t ad, a.tmps[b]? = some (.pointer (some ad)) → (f (.cell b t)).run P w = (loadVar t ad).run P w) :
    ∀ (rs : List ResultVar) (vs : List Value), ResC P e M rs vs → (rs.mapM f).run P w = .ok vs w
  | [], vs, h => by obtain rfl : vs = [] := h; simp
  | .tmp t :: rs, vs, h => by
    obtain ⟨v, us, rfl, h1, h2⟩ := h
    simp only [List.mapM_cons, Sem.run_bind, hft t v (hf.2 _ _ h1), Result.andThen, mapM_resC hf hm f hft hfc rs us h2, Sem.run_pure]
  | .cell b t :: rs, vs, h => by
    obtain ⟨v, us, ad, rfl, h1, h2, h3⟩ := h
    simp only [List.mapM_cons, Sem.run_bind, hfc b t ad (hf.2 _ _ h1), h2 w hm, Result.andThen, mapM_resC hf hm f hft hfc rs us h3, Sem.run_pure]
theorem results_resC {a : Act} (hf : Fr N e a) {w : World} (hm : Mem w M) {rs : List ResultVar} (hr : fn.results = rs.toArray) (h : ResC P e M rs vs) : (results fn a.tmps).run P w = .ok (resV vs) w := by
  unfold results
  rw [hr]
  have h1 := mapM_resC (P := P) hf hm (fun x => match x with
      | ResultVar.tmp t => (pure (a.tmps.getD t undef) : Sem Value)
      | ResultVar.cell b t => do loadVar t (← asAddr (a.tmps.getD b undef)))
    (fun t v hl => by
      show Result.ok (a.tmps.getD t undef) w = _
      rw [Array.getD_eq_getD_getElem?, hl]; rfl)
    (fun b t ad hl => by
      simp [Array.getD_eq_getD_getElem?, hl, asAddr]) rs vs h
  simp only [List.mapM_toArray, Sem.run_bind, Sem.run_map]
  generalize hX : Sem.run P (List.mapM _ rs) w = X
  obtain rfl : Result.ok vs w = X := by rw [← hX]; exact h1.symm
  simp only [Result.andThen]
  cases vs with
  | nil => simp [resV]
  | cons v l => cases l with
    | nil => simp [resV]
    | cons u l => simp [resV]
theorem QM.leaveCs {x : Exit} (hx : x = .ret ∨ x = .normal) (rs : List ResultVar) (hr : fn.results = rs.toArray) (hD : ∀ D ∈ ds, w0.heap.size ≤ D) [k : SplD M ds M1] (h : ResC P e M1 rs vs) (hR : ∀ w, Mem w M1 → Chg S w0 w → R (resV vs) w) : QM N (fnPost P fn R) x e ds M S w0 G :=
  .mem (fun w hm => hm.perm k.perm) (fun w hm hc hg => by
    obtain ⟨h1, h2, h3⟩ := shut_mem ds w M1 hm hc hD
    rcases hx with rfl | rfl
    · intro a hf hd
      show LeavesInM _ _ _ _ _ _ _ _ _
      rw [hd]
      exact leavesM_shut ds w h1 (results_resC hf h2 hr h) ⟨_, rfl, hR _ h2 h3⟩
    · intro a hf hd
      show LeavesInM _ _ _ _ _ _ _ _ _
      rw [hd]
      exact leavesM_shut ds w h1 (results_resC hf h2 hr h) ⟨_, rfl, hR _ h2 h3⟩)
end
/-! ### A store among what may be carried out early or late -/
section
variable {P : Program} {r : Option Nat} {N : Nat} {Q : Exit → Act → World → Prop} {e : Env} {ds : List Nat} {M : Mem0} {S : Nat → Prop} {w0 : World} {G : World → Prop}
variable {ops : Array Oper} {l : List (Nat × Nat)} {ty : TypeId} {pos : String} {after : Array Edge} {d i : Nat} {t : TypeId} {x y : Operand}
end
/-! ### The rest of a slice -/
def adLo (ad : Option Addr) (l c s : Nat) : Option Addr := if c = l then ad else ad.map (·.add (l * s))
section
variable {P : Program} {ty : TypeId} {e : Env} {t : TypeId} {x lo : Operand}
theorem ov_subLo (l : Nat) {k : IntKind} {li : Int} {ad : Option Addr} {n c s : Nat} {E : TypeId} (hU : P.underlying t = some (.slice E)) (hS : ∀ w, (sizeOf E).run P w = .ok s w) (ha : ev e x = some (.slice ad n c)) (hl : ev e lo = some (.int k li))
    (hli : li = (l : Nat)) (h : l ≤ n) : OpP P (.slice t x (some lo) none none) ty e (.slice (adLo ad l c s) (n - l) (c - l)) := fun w ρ hρ _ _ _ _ => by
  subst hli
  have h2 : (l : Int) ≤ n := by omega
  simp [execOp, Instr.sliceAt, Instr.slice, Instr.sliceBounds, Instr.sliceBound, asIntOf, run_underlying hU, hρ x _ ha, hρ lo _ hl, hS, h, h2, adLo, Result.andThen]
end
theorem Sr.drop {α : Type} {f : α → List Value} {s : Nat} {xs : List α} {ad : Option Addr} {n cap : Nat} {w : World} (h : Sr f s xs (.slice ad n cap) w) {l : Nat} (hk : l ≤ n) : Sr f s (xs.drop l) (.slice (adLo ad l cap s) (n - l) (cap - l)) w := by
  obtain ⟨ad', cap', h1, h2, h3⟩ := h
  simp only [Value.slice.injEq] at h1
  obtain ⟨rfl, rfl, rfl⟩ := h1
  have hl : (xs.drop l).length = xs.length - l := by simp
  refine ⟨_, _, by rw [hl], by omega, fun hx => ?_⟩
  obtain ⟨b, off, cs, E, fz, h4, h5, h6⟩ := h3 (by omega)
  refine ⟨b, off + l * s, cs, E, fz, ?_, h5, fun i a ha j hj => ?_⟩
  · subst h4
    unfold adLo; rw [if_neg (by omega)]
    simp [Addr.add]
  · rw [List.getElem?_drop] at ha
    have := h6 (l + i) a ha j hj
    rw [← this]; congr 1
    rw [Nat.add_mul]; omega
/-! ### A test whose outcome is asked again -/
section
variable {P : Program} {r : Option Nat} {N : Nat} {Q : Exit → Act → World → Prop} {e : Env} {ds : List Nat} {M : Mem0} {S : Nat → Prop} {w0 : World} {G : World → Prop}
theorem Fr.know {t : Nat} {b c : Bool} {a : Act} (hf : Fr N e a) (ht : look e t = some (.bool b)) (hc : b = c) : Fr N ((t, .bool c) :: e) a := ⟨hf.1, fun k u hu => by
    rw [look_cons] at hu
    by_cases hk : t = k
    · subst hk; rw [if_pos rfl] at hu; rw [← hu, ← hc]; exact hf.2 _ _ ht
    · rw [if_neg hk] at hu; exact hf.2 k u hu⟩
end
end Go.Eng
namespace Go.Eng
open Go Go.RowKit
inductive OT where
  | nil : OT
  | one : Nat → Nat → OT → OT
  | fork : Nat → OT → Nat → OT → OT
  | tri : Nat → OT → Nat → OT → Nat → OT → OT
  | last : Nat → OT
def OT.size : OT → Nat
  | .nil => 0
  | .one _ _ t => t.size + 1
  | .fork _ t _ _ => t.size + 1
  | .tri _ t _ _ _ _ => t.size + 1
  | .last _ => 1
section
variable {P : Program} {r : Option Nat} {ops : Array Oper}
def LDK (P : Program) (r : Option Nat) (ops : Array Oper) (Q : Exit → Act → World → Prop) (D : World → Prop) : (World → Prop) → OT → Act → Prop
  | C, .nil, a => ∀ w, C w → Q .normal a w
  | C, .last i, a => ∀ w, C w → wpOpIn (Wd r) 0 P ops (Qn Q) i (Q .normal) a w
  | C, .fork i t j s, a => (∀ w, C w → wpOpIn (Wd r) 0 P ops (Qn Q) i (fun a' w' => ∃ C' : World → Prop, (∀ w, C' w → D w) ∧ C' w' ∧ LDK P r ops Q D C' t a') a w) ∧
      ∀ w, C w → wpOpIn (Wd r) 0 P ops (Qn Q) j (fun a' w' => ∃ C' : World → Prop, (∀ w, C' w → D w) ∧ C' w' ∧ LDK P r ops Q D C' s a') a w
  | C, .tri i t j s k u, a => (∀ w, C w → wpOpIn (Wd r) 0 P ops (Qn Q) i (fun a' w' => ∃ C' : World → Prop, (∀ w, C' w → D w) ∧ C' w' ∧ LDK P r ops Q D C' t a') a w) ∧
      (∀ w, C w → wpOpIn (Wd r) 0 P ops (Qn Q) j (fun a' w' => ∃ C' : World → Prop, (∀ w, C' w → D w) ∧ C' w' ∧ LDK P r ops Q D C' s a') a w) ∧
      ∀ w, C w → wpOpIn (Wd r) 0 P ops (Qn Q) k (fun a' w' => ∃ C' : World → Prop, (∀ w, C' w → D w) ∧ C' w' ∧ LDK P r ops Q D C' u a') a w
  | C, .one i k l, a =>
    match ops[i]? with
    | none => False
    | some o =>
      match k with
      | 0 => ∃ v, YA P ops (fun _ => True) o v a ∧ LDK P r ops Q D C l (a.put o.dst v)
      | 1 => ∃ v, YA P ops D o v a ∧ LDK P r ops Q D C l (a.put o.dst v)
      | _ => ∀ w, C w → wpOpIn (Wd r) 0 P ops (Qn Q) i (fun a' w' => ∃ C' : World → Prop, (∀ w, C' w → D w) ∧ C' w' ∧ LDK P r ops Q D C' l a') a w
def chkK (ops : Array Oper) (z : Nat) : OT → Array Bool → Bool
  | .nil, listed => Region.ready .any ops listed == []
  | .last i, listed => Region.ready .any ops listed == [i] && (i == z) && decide (i < listed.size) && Region.ready .any ops (listed.setIfInBounds i true) == []
  | .fork i t j s, listed => Region.ready .any ops listed == [i, j] && t.size == s.size && (i != z) && (j != z) && chkK ops z t (listed.setIfInBounds i true) && chkK ops z s (listed.setIfInBounds j true)
  | .tri i t j s k u, listed => Region.ready .any ops listed == [i, j, k] && t.size == s.size && t.size == u.size && (i != z) && (j != z) && (k != z) && chkK ops z t (listed.setIfInBounds i true) && chkK ops z s (listed.setIfInBounds j true) && chkK ops z u (listed.setIfInBounds k true)
  | .one i k l, listed =>
    (match k with
      | 0 => Region.free .any ops listed i && (Region.ready .any ops listed).contains i
      | 1 => Region.free .any ops listed i && (Region.ready .any ops listed).contains i && (decide (ops.size ≤ z) || depOf ops 40 z i)
      | _ => Region.ready .any ops listed == [i]) && (i != z) &&
    chkK ops z l (listed.setIfInBounds i true)
def isZ (z : Nat) : Nat → Bool := fun q => q == z
theorem ws_of_ldk {Q : Exit → Act → World → Prop} {D : World → Prop} {z : Nat} (hsel : Region.noSelect ops = true) (hnd : noDefer ops = true) :
    ∀ (l : OT) (C : World → Prop) (listed : Array Bool) (a : Act) (w : World), chkK ops z l listed = true → Closed ops listed → listed.getD z false = false → (∀ w, C w → D w) → C w → LDK P r ops Q D C l a → WS P r ops Q D (isZ z) l.size listed a w
  | .nil, C, listed, a, w, hc, _, _, hCD, hC, h => by
    simp only [chkK, beq_iff_eq] at hc
    exact ⟨fun _ => hCD w hC, hc, h w hC⟩
  | .last i, C, listed, a, w, hc, hcl, hz, hCD, hC, h => by
    simp only [chkK, Bool.and_eq_true, beq_iff_eq, decide_eq_true_eq] at hc
    obtain ⟨⟨⟨hr, rfl⟩, hlt⟩, hr2⟩ := hc
    simp only [LDK] at h
    refine ⟨fun _ => hCD w hC, fun h0 => (by rw [hr] at h0; cases h0), fun q hq => ?_⟩
    rw [hr] at hq
    obtain rfl : q = i := by simpa using hq
    exact wpOpIn_mono (fun a' w' hq' => ⟨fun ht => absurd (ht q (by simp [isZ])) (by simp [hlt]), hr2, hq'⟩) (h w hC)
  | .fork i t j s, C, listed, a, w, hc, hcl, hz, hCD, hC, h => by
    simp only [chkK, Bool.and_eq_true, beq_iff_eq, bne_iff_ne] at hc
    obtain ⟨⟨⟨⟨⟨hr, hsz⟩, hiz⟩, hjz⟩, hct⟩, hcs⟩ := hc
    simp only [LDK] at h
    refine ⟨fun _ => hCD w hC, fun h0 => (by rw [hr] at h0; cases h0), fun q hq => ?_⟩
    have hq' := hq
    rw [hr] at hq'
    simp only [List.mem_cons, List.not_mem_nil, or_false] at hq'
    rcases hq' with rfl | rfl
    · exact wpOpIn_mono (fun a' w' ⟨C', hsubC, hC', hl⟩ => ws_of_ldk hsel hnd t C' _ a' w' hct (hcl.set hq) (unlisted_set (Ne.symm hiz) hz) hsubC hC' hl) (h.1 w hC)
    · exact wpOpIn_mono (fun a' w' ⟨C', hsubC, hC', hl⟩ => by have := ws_of_ldk hsel hnd s C' _ a' w' hcs (hcl.set hq) (unlisted_set (Ne.symm hjz) hz) hsubC hC' hl; rw [← hsz] at this; exact this) (h.2 w hC)
  | .tri i t j s k u, C, listed, a, w, hc, hcl, hz, hCD, hC, h => by
    simp only [chkK, Bool.and_eq_true, beq_iff_eq, bne_iff_ne] at hc
    obtain ⟨⟨⟨⟨⟨⟨⟨⟨hr, hsz⟩, hsz2⟩, hiz⟩, hjz⟩, hkz⟩, hct⟩, hcs⟩, hcu⟩ := hc
    simp only [LDK] at h
    refine ⟨fun _ => hCD w hC, fun h0 => (by rw [hr] at h0; cases h0), fun q hq => ?_⟩
    have hq' := hq
    rw [hr] at hq'
    simp only [List.mem_cons, List.not_mem_nil, or_false] at hq'
    rcases hq' with rfl | rfl | rfl
    · exact wpOpIn_mono (fun a' w' ⟨C', hsubC, hC', hl⟩ => ws_of_ldk hsel hnd t C' _ a' w' hct (hcl.set hq) (unlisted_set (Ne.symm hiz) hz) hsubC hC' hl) (h.1 w hC)
    · exact wpOpIn_mono (fun a' w' ⟨C', hsubC, hC', hl⟩ => by have := ws_of_ldk hsel hnd s C' _ a' w' hcs (hcl.set hq) (unlisted_set (Ne.symm hjz) hz) hsubC hC' hl; rw [← hsz] at this; exact this) (h.2.1 w hC)
    · exact wpOpIn_mono (fun a' w' ⟨C', hsubC, hC', hl⟩ => by have := ws_of_ldk hsel hnd u C' _ a' w' hcu (hcl.set hq) (unlisted_set (Ne.symm hkz) hz) hsubC hC' hl; rw [← hsz2] at this; exact this) (h.2.2 w hC)
  | .one i k l, C, listed, a, w, hc, hcl, hz, hCD, hC, h => by
    simp only [LDK] at h
    cases ho : ops[i]? with
    | none => rw [ho] at h; exact h.elim
    | some o =>
      rw [ho] at h
      simp only at h
      have hnd' : ∀ (j : Nat) (o : Oper), ops[j]? = some o → nd o.op = true := fun j o hj => (Array.all_eq_true_iff_forall_mem.1 hnd) o (Array.mem_of_getElem? hj)
      have hun : ∀ q, isZ z q = true → listed.getD q false = false := fun q hq => by unfold isZ at hq; rw [beq_iff_eq] at hq; subst hq; exact hz
      have hti : i ≠ z → isZ z i = false := fun h => beq_eq_false_iff_ne.2 h
      match k, h, hc with
      | 0, ⟨v, hy, hl⟩, hc =>
        simp only [chkK, Bool.and_eq_true, bne_iff_ne] at hc
        obtain ⟨⟨⟨hf, hr⟩, hiz⟩, hc⟩ := hc
        exact WS.first (tl := isZ z) ho (hti hiz) (Region.noSelect_spec hsel) hnd' (D := fun _ => True) (.inl fun _ => trivial) l.size listed a w hcl (hCD w hC) hun (Region.free_spec ho hf) (by simpa using hr) hy
          (ws_of_ldk hsel hnd l C _ _ w hc (hcl.set (by simpa using hr)) (unlisted_set (Ne.symm hiz) hz) hCD hC hl)
      | 1, ⟨v, hy, hl⟩, hc =>
        simp only [chkK, Bool.and_eq_true, bne_iff_ne, Bool.or_eq_true, decide_eq_true_eq] at hc
        obtain ⟨⟨⟨⟨hf, hr⟩, hdep⟩, hiz⟩, hc⟩ := hc
        exact WS.first (tl := isZ z) ho (hti hiz) (Region.noSelect_spec hsel) hnd' (D := D) (.inr ⟨fun _ h => h, fun j oj hj htj => by
            unfold isZ at htj; rw [beq_iff_eq] at htj; subst htj
            rcases hdep with hd | hd
            · have := (Array.getElem?_eq_some_iff.1 hj).1; omega
            · exact .inr hd⟩) l.size listed a w hcl (hCD w hC) hun (Region.free_spec ho hf) (by simpa using hr) hy
          (ws_of_ldk hsel hnd l C _ _ w hc (hcl.set (by simpa using hr)) (unlisted_set (Ne.symm hiz) hz) hCD hC hl)
      | k + 2, h, hc =>
        simp only [chkK, Bool.and_eq_true, beq_iff_eq, bne_iff_ne] at hc
        obtain ⟨⟨hr, hiz⟩, hc⟩ := hc
        refine ⟨fun _ => hCD w hC, fun h0 => (by rw [hr] at h0; cases h0), fun j hj => ?_⟩
        rw [hr] at hj
        obtain rfl : j = i := by simpa using hj
        exact wpOpIn_mono (fun a' w' ⟨C', hsubC, hC', hl⟩ => ws_of_ldk hsel hnd l C' _ a' w' hc (hcl.set (by rw [hr]; simp)) (unlisted_set (Ne.symm hiz) hz) hsubC hC' hl) (h w hC)
end
def OT.z (n : Nat) : OT → Nat
  | .nil => n
  | .one _ _ t => t.z n
  | .fork _ t _ _ => t.z n
  | .tri _ t _ _ _ _ => t.z n
  | .last i => i
def chkKAll (ops : Array Oper) (ord : OT) : Bool :=
  Region.noSelect ops && noDefer ops && (ord.size == ops.size) && chkK ops (ord.z ops.size) ord (Array.replicate ops.size false)
section
variable {P : Program} {r : Option Nat} {N : Nat} {Q : Exit → Act → World → Prop} {e : Env} {ds : List Nat} {M : Mem0} {S : Nat → Prop} {w0 : World} {G : World → Prop}
def KD (P : Program) (r : Option Nat) (N : Nat) (ops : Array Oper) (Q : Exit → Act → World → Prop) (MD : Mem0) (GD : World → Prop) (ord : OT) (e : Env) (ds : List Nat) (M : Mem0) (S : Nat → Prop) (w0 : World) (G : World → Prop) : Prop :=
  ∀ a, Fr N e a → Dm ds a → LDK P r ops Q (Cls MD S w0 GD) (Cls M S w0 G) ord a
theorem wpM.keep [GS G] {id : Nat} {ops : Array Oper} (MD : Mem0) (GD : World → Prop) (ord : OT) (hm : P.follows .mixedOrders = true) (hc : chkKAll ops ord = true) (hM : SubM M MD) (hG : ∀ w, G w → GD w) (h : KD P r N ops Q MD GD ord e ds M S w0 G) : wpM P r N (.region id ops true) Q e ds M S w0 G := fun w hw hcg hg a hf hd => by
  simp only [chkKAll, Bool.and_eq_true, beq_iff_eq] at hc
  obtain ⟨⟨⟨h1, h2⟩, h3⟩, h6⟩ := hc
  refine wpIn_mono (wpIn_region_any (Q := Qn Q) hm ?_) (fun x a w hq => ?_)
  · rw [← h3]
    exact WS.any _ _ a _ (ws_of_ldk h1 h2 ord _ _ a _ (h3 ▸ h6) (fun q o hq _ => by rw [Array.getD_eq_getD_getElem?, Array.getElem?_replicate] at hq; split at hq <;> cases hq) (by rw [Array.getD_eq_getD_getElem?, Array.getElem?_replicate]; split <;> rfl) (fun w hw => ⟨hM.mem w hw.1, hw.2.1, hG w hw.2.2⟩)
      ⟨hw.ext (Chg.drew no w), hcg.trans (Chg.drew S w), GS.ext w _ hg (Chg.drew no w)⟩ (h a hf hd))
  · cases x <;> first | exact hq | exact hq.elim
variable {ops : Array Oper} {l : OT} {op : Op} {ty : TypeId} {pos : String} {after : Array Edge} {d : Nat} {v : Value} {i : Nat} {MD : Mem0} {GD : World → Prop}
theorem KD.nil (h : QM N Q .normal e ds M S w0 G) : KD P r N ops Q MD GD .nil e ds M S w0 G := fun a hf hd w hw => h w hw.1 hw.2.1 hw.2.2 a hf hd
theorem KD.val {g : Option (Nat × Bool)} (hi : ops[i]? = some ⟨some d, op, ty, pos, after, g⟩) (hg : Wtd ops e g true) (hv : OpP P op ty e v) (h : KD P r N ops Q MD GD l ((d, v) :: e) ds M S w0 G) (hnd : nd op = true := by rfl) (hd : Nat.blt d N = true := by rfl) :
    KD P r N ops Q MD GD (.one i 0 l) e ds M S w0 G := fun a hf hdm => by
  simp only [LDK, hi]
  exact ⟨v, .inl ⟨hg.wanted hf, hnd, fun w _ => hv w a.eval (fun x u hx => hf.eval hx) _ _ _ _⟩, h _ (hf.put hd v) hdm⟩
theorem KD.rd {g : Option (Nat × Bool)} (hi : ops[i]? = some ⟨some d, op, ty, pos, after, g⟩) (hg : Wtd ops e g true) (hv : ∀ w, Mem w MD → OpV P op ty e w v w) (h : KD P r N ops Q MD GD l ((d, v) :: e) ds M S w0 G) (hnd : nd op = true := by rfl) (hd : Nat.blt d N = true := by rfl) :
    KD P r N ops Q MD GD (.one i 1 l) e ds M S w0 G := fun a hf hdm => by
  simp only [LDK, hi]
  exact ⟨v, .inl ⟨hg.wanted hf, hnd, fun w hw => hv w hw.1 a.eval (fun x u hx => hf.eval hx) _ _ _ _⟩, h _ (hf.put hd v) hdm⟩
theorem KD.rdC {g : Option (Nat × Bool)} (hi : ops[i]? = some ⟨some d, op, ty, pos, after, g⟩) (hg : Wtd ops e g true) (hv : ∀ w, Mem w MD → Chg S w0 w → GD w → OpV P op ty e w v w) (h : KD P r N ops Q MD GD l ((d, v) :: e) ds M S w0 G) (hnd : nd op = true := by rfl) (hd : Nat.blt d N = true := by rfl) :
    KD P r N ops Q MD GD (.one i 1 l) e ds M S w0 G := fun a hf hdm => by
  simp only [LDK, hi]
  exact ⟨v, .inl ⟨hg.wanted hf, hnd, fun w hw => hv w hw.1 hw.2.1 hw.2.2 a.eval (fun x u hx => hf.eval hx) _ _ _ _⟩, h _ (hf.put hd v) hdm⟩
theorem KD.dropU {g : Option (Nat × Bool)} {k : Nat} (hk : Nat.blt k 2 = true) (hi : ops[i]? = some ⟨some d, op, ty, pos, after, g⟩) (hg : Wtd ops e g false) (h : KD P r N ops Q MD GD l ((d, undef) :: e) ds M S w0 G) (hd : Nat.blt d N = true := by rfl) :
    KD P r N ops Q MD GD (.one i k l) e ds M S w0 G := fun a hf hdm => by
  have hY : ∀ D, YA P ops D ⟨some d, op, ty, pos, after, g⟩ undef a := fun D => .inr ⟨hg.wanted (o := ⟨some d, op, ty, pos, after, g⟩) hf, rfl⟩
  match k, hk with
  | 0, _ => simp only [LDK, hi]; exact ⟨undef, hY _, h _ (hf.put hd undef) hdm⟩
  | 1, _ => simp only [LDK, hi]; exact ⟨undef, hY _, h _ (hf.put hd undef) hdm⟩
theorem KD.drop {g : Option (Nat × Bool)} {k : Nat} (hk : Nat.blt k 2 = true) (hi : ops[i]? = some ⟨some d, op, ty, pos, after, g⟩) (hg : Wtd ops e g false) (h : KD P r N ops Q MD GD l e ds M S w0 G) (hd : Nat.blt d N = true := by rfl) (hfresh : look e d = none := by rfl) :
    KD P r N ops Q MD GD (.one i k l) e ds M S w0 G := .dropU hk hi hg (fun a hf hdm => h a ⟨hf.1, fun t u hu => hf.2 t u (by
      rw [look_cons]
      by_cases hdt : d = t
      · subst hdt; rw [hfresh] at hu; cases hu
      · rw [if_neg hdt]; exact hu)⟩ hdm) hd
theorem KD.splitD {t : Nat} {p : Prop} [Decidable p] (ht : look e t = some (.bool (decide p))) (h1 : p → KD P r N ops Q MD GD l ((t, .bool true) :: e) ds M S w0 G) (h2 : ¬ p → KD P r N ops Q MD GD l ((t, .bool false) :: e) ds M S w0 G) :
    KD P r N ops Q MD GD l e ds M S w0 G := fun a hf hdm => by
  by_cases hp : p
  · exact h1 hp a (hf.know ht (decide_eq_true hp)) hdm
  · exact h2 hp a (hf.know ht (decide_eq_false hp)) hdm
theorem KD.splitB {t : Nat} {b : Bool} (ht : look e t = some (.bool b)) (h1 : b = true → KD P r N ops Q MD GD l ((t, .bool true) :: e) ds M S w0 G) (h2 : b = false → KD P r N ops Q MD GD l ((t, .bool false) :: e) ds M S w0 G) :
    KD P r N ops Q MD GD l e ds M S w0 G := fun a hf hdm => by
  cases hb : b with
  | true => exact h1 hb a (hf.know ht hb) hdm
  | false => exact h2 hb a (hf.know ht hb) hdm
theorem wpIn_mono2 {F : Fence} {n : Nat} {o : Oper} {a : Act} {w : World} {K K' : Act → World → Prop} {Q Q' : Exit → Act → World → Prop} (h : ∀ a w, K a w → K' a w) (hQ : ∀ c a w, Q (.panic c) a w → Q' (.panic c) a w) (hL : LetsOut Q → LetsOut Q')
    (hh : o.wpIn F n P a w K Q) : o.wpIn F n P a w K' Q' := by
  unfold Oper.wpIn at *
  refine ⟨hh.1, ?_⟩
  have hh := hh.2
  generalize (o.semAt F.round a.eval).run P w = r at *
  cases r with
  | ok x w' =>
    cases x <;> simp only [Oper.uponIn] at hh ⊢ <;>
      first
        | exact h _ _ hh
        | exact ⟨hh.1, CallsIn.mono hh.2 (fun e w'' he => by cases e <;> first | exact h _ _ he | exact hQ _ _ _ he | exact hL he)⟩
        | exact ⟨hh.1, RowsIn.mono hh.2 (fun _ _ he => h _ _ he)⟩
        | exact ⟨hh.1, RoundIn.mono hh.2 (fun e w'' he => by cases e <;> first | exact h _ _ he | exact hQ _ _ _ he | exact hL he)⟩
  | halt x w' => cases x <;> simp only [Oper.uponIn] at hh ⊢ <;> first | exact hQ _ _ _ hh | exact hh
def KQ (P : Program) (r : Option Nat) (N : Nat) (ops : Array Oper) (Q : Exit → Act → World → Prop) (D : World → Prop) (l : OT) : Exit → Act → World → Prop := fun x a w => x = .normal ∧ ∃ C' : World → Prop, (∀ w, C' w → D w) ∧ C' w ∧ LDK P r ops Q D C' l a
theorem KD.one {o : Oper} {k : Nat} (ho : ops[i]? = some o) (h : LM P r N ops (KQ P r N ops Q (Cls MD S w0 GD) l) [o] e ds M S w0 G) : KD P r N ops Q MD GD (.one i (k + 2) l) e ds M S w0 G := fun a hf hdm => by
  simp only [LDK, ho]
  intro w hw
  have h3 := h w hw.1 hw.2.1 hw.2.2 a hf hdm
  unfold wpOpIn
  rw [ho]
  unfold wpListIn at h3
  simp only
  split
  · rename_i hq; rw [if_pos hq] at h3
    exact wpIn_mono2 (fun a w h => h.2) (fun c a w h => by cases h.1) (fun ⟨a, w, h⟩ => by cases h.1) h3
  · rename_i hq; rw [if_neg hq] at h3
    exact ⟨fun _ _ => trivial, h3.2.2⟩
theorem KD.last {o : Oper} (ho : ops[i]? = some o) (h : LM P r N ops (Qn Q) [o] e ds M S w0 G) : KD P r N ops Q MD GD (.last i) e ds M S w0 G := fun a hf hdm => by
  simp only [LDK]
  intro w hw
  have h3 := h w hw.1 hw.2.1 hw.2.2 a hf hdm
  unfold wpOpIn
  rw [ho]
  unfold wpListIn at h3
  simp only
  split
  · rename_i hq; rw [if_pos hq] at h3; exact Oper.wpIn_mono (fun a w h => h) h3
  · rename_i hq; rw [if_neg hq] at h3; exact h3
theorem KD.fork {o o2 : Oper} {j : Nat} {s : OT} (ho : ops[i]? = some o) (ho2 : ops[j]? = some o2) (h : LM P r N ops (KQ P r N ops Q (Cls MD S w0 GD) l) [o] e ds M S w0 G) (h2 : LM P r N ops (KQ P r N ops Q (Cls MD S w0 GD) s) [o2] e ds M S w0 G) : KD P r N ops Q MD GD (.fork i l j s) e ds M S w0 G := fun a hf hdm => by
  have k1 := KD.one (k := 0) ho h a hf hdm
  have k2 := KD.one (k := 0) ho2 h2 a hf hdm
  simp only [LDK, ho] at k1
  simp only [LDK, ho2] at k2
  simp only [LDK]
  exact ⟨k1, k2⟩
theorem KD.tri {o o2 o3 : Oper} {j k : Nat} {s u : OT} (ho : ops[i]? = some o) (ho2 : ops[j]? = some o2) (ho3 : ops[k]? = some o3) (h : LM P r N ops (KQ P r N ops Q (Cls MD S w0 GD) l) [o] e ds M S w0 G) (h2 : LM P r N ops (KQ P r N ops Q (Cls MD S w0 GD) s) [o2] e ds M S w0 G) (h3 : LM P r N ops (KQ P r N ops Q (Cls MD S w0 GD) u) [o3] e ds M S w0 G) : KD P r N ops Q MD GD (.tri i l j s k u) e ds M S w0 G := fun a hf hdm => by
  have k1 := KD.one (k := 0) ho h a hf hdm
  have k2 := KD.one (k := 0) ho2 h2 a hf hdm
  have k3 := KD.one (k := 0) ho3 h3 a hf hdm
  simp only [LDK, ho] at k1
  simp only [LDK, ho2] at k2
  simp only [LDK, ho3] at k3
  simp only [LDK]
  exact ⟨k1, k2, k3⟩
theorem QM.one (hM : SubM M MD) (hG : ∀ w, G w → GD w) (h : KD P r N ops Q MD GD l e ds M S w0 G) : QM N (KQ P r N ops Q (Cls MD S w0 GD) l) .normal e ds M S w0 G := fun w hm hc hg a hf hd =>
  ⟨rfl, Cls M S w0 G, fun w hw => ⟨hM.mem w hw.1, hw.2.1, hG w hw.2.2⟩, ⟨hm, hc, hg⟩, h a hf hd⟩
end
end Go.Eng
namespace Go.Eng
open Go Go.RowKit
section
variable {P : Program} {e : Env} {x : Operand} {t ty : TypeId} {M : Mem0}
theorem om_slP {α : Type} {f : α → List Value} {F s n0 n cap i j k off : Nat} {xs : List α} {ad : Option Addr} {m M2 : Mem0} {a : α} {vs : List Value} (hsl : Sl f F s n0 xs (.slice ad n cap) m) (hf : ∀ a, (f a).length = s) (hT : ∀ w, (isAgg t).run P w = .ok true w) (hS : ∀ w, (sizeOf t).run P w = .ok k w)
    (ha : ev e x = some (.pointer (some ⟨adB ad, off, none⟩))) (ho : off = adO ad + i * s + j) [h : Spl M m M2] (hi : xs[i]? = some a) (hjk : j + k ≤ s) (hv : ((f a).drop j).take k = vs) (hlen : vs.length = k) : ∀ w, Mem w M → OpV P (.load t x) ty e w (.agg vs.toArray) w := fun w hm => by
  subst ho
  obtain ⟨junk, h0, h1, h2, rfl, _⟩ := hsl.open (List.length_pos_of_mem (List.mem_of_getElem? hi))
  have h3 : adO ad = 0 := by rw [h1]; rfl
  rw [h3, Nat.zero_add] at ha
  have hm2 := hm.perm h.perm
  have hg := hm2.2 (adB ad, .cells (arr f xs junk) F (0, 0)) (List.mem_cons_self ..)
  have h4 := run_loadVar_agg (P := P) (off := i * s + j) (vs := vs) hT hS hg hlen (fun q v hq => by
    have hq2 : q < k := by rw [← hlen]; exact (List.getElem?_eq_some_iff.1 hq).1
    rw [Nat.add_assoc, arr_get hf hi (by omega), ← hq, ← hv, List.getElem?_take, if_pos hq2, List.getElem?_drop])
  intro ρ hρ _ _ _ _
  simp [execOp, Instr.loadAt, Instr.sureAddr, hρ x _ ha, h4, Result.andThen]
end
end Go.Eng
namespace Go.Eng
open Go Go.RowKit
theorem KW.ofExt {n : Nat} {a b : World} (h : Ext a b) : KW n a b := ⟨h.os, h.tape, h.output, h.size, fun x o _ ho _ => h.get ho⟩
def SeqL (P : Program) (g : FuncId) (lb : List Value) (A : List (Array Value)) (Rd : World → Prop) : Prop :=
  ∀ (l n : Nat) (J : Nat → World → Prop) (Jx : World → Prop) (W : World), (∀ k w, J k w → Rd w) → (∀ k, GS (J k)) → GS Jx →
    (∀ k a w, A[k]? = some a → J k w → YR P l a w (fun b w2 => ((b = true ∧ J (k + 1) w2) ∨ (b = false ∧ Jx w2)) ∧ KW n w w2)) →
    J 0 W → Ret P g (lb ++ [Value.func (.yield l) #[] #[]]).toArray W (fun _ w' => (J A.length w' ∨ Jx w') ∧ KW n W w')
theorem SeqL.enter {P : Program} {f : FuncId} {fn : Func} {c : Code} {lb : List Value} {A : List (Array Value)} {Rd : World → Prop}
    (hf : P.funcs[f]? = some fn) (hb : fn.body = some c) {N : Nat} (hN : fn.ntmps = N) (hl : Nat.ble (lb.length + 1) N = true)
    (h : ∀ (l n : Nat) (J : Nat → World → Prop) (Jx : World → Prop) (w0 : World), (∀ k w, J k w → Rd w) → (∀ k, GS (J k)) → GS Jx →
      (∀ k a w, A[k]? = some a → J k w → YR P l a w (fun b w2 => ((b = true ∧ J (k + 1) w2) ∨ (b = false ∧ Jx w2)) ∧ KW n w w2)) →
      wpM P none N c (fnPost P fn (fun _ w' => J A.length w' ∨ Jx w')) (args0 0 (lb ++ [.func (.yield l) #[] #[]])) [] [] (fun _ => True) w0 (J 0)) : SeqL P f lb A Rd := fun l n J Jx W hJr gJ gJx hy h0 => by
  have := gJ
  have key := h l n (fun k w => J k w ∧ KW n W w) (fun w => Jx w ∧ KW n W w) W (fun k w hj => hJr k w hj.1)
    (fun k => ⟨fun w w' hj he => ⟨GS.ext (G := J k) w w' hj.1 he, hj.2.trans (KW.ofExt he) (Nat.le_refl _)⟩⟩) ⟨fun w w' hj he => ⟨GS.ext (G := Jx) w w' hj.1 he, hj.2.trans (KW.ofExt he) (Nat.le_refl _)⟩⟩
    (fun k a w ha hj => by
      obtain ⟨fn2, tmps, assign, body, h1, h2⟩ := hy k a w ha hj.1
      refine ⟨fn2, tmps, assign, body, h1, h2.mono ?_⟩
      rintro en w' ⟨b, rfl, hb, hkw⟩
      have hk2 := hj.2.trans hkw (Nat.le_refl _)
      exact ⟨b, rfl, hb.imp (fun q => ⟨q.1, q.2, hk2⟩) (fun q => ⟨q.1, q.2, hk2⟩), hkw⟩)
  have hr := Ret.enterG hf hb hN (by simpa using hl) [] (fun _ => True) (fun w => J 0 w ∧ KW n W w) (Mem.nil W) ⟨h0, KW.refl n W⟩ key
  exact hr.mono (fun v w' q => by
    rcases q with q | q
    · exact ⟨.inl q.1, q.2⟩
    · exact ⟨.inr q.1, q.2⟩)
section
variable {P : Program} {r : Option Nat} {N : Nat} {Q : Exit → Act → World → Prop} {e : Env} {ds : List Nat} {M : Mem0} {S : Nat → Prop} {w0 : World}
variable {ops : Array Oper} {rest : List Oper} {op : Op} {ty : TypeId} {pos : String} {after : Array Edge} {d : Nat}
end
end Go.Eng
namespace Go.Eng
open Go Go.RowKit
def adel (l : List (Int × Value)) (a : Int) : List (Int × Value) := match afind l a 0 with | some (i, _) => l.eraseIdx i | none => l
theorem adel_nil (a : Int) : adel [] a = [] := rfl
theorem adel_cons (b : Int) (u : Value) (l : List (Int × Value)) (a : Int) : adel ((b, u) :: l) a = if a = b then l else (b, u) :: adel l a := by
  unfold adel
  simp only [afind]
  by_cases h : a = b
  · subst h; rw [if_pos rfl, if_pos rfl]; rfl
  · rw [if_neg h, if_neg h, afind_shift l a (0 + 1)]
    cases hf : afind l a 0 with
    | none => rfl
    | some p => rfl
section
variable {P : Program} {r : Option Nat} {N : Nat} {Q : Exit → Act → World → Prop} {e : Env} {ds : List Nat} {M : Mem0} {S : Nat → Prop} {w0 : World} {G : World → Prop}
variable {ops : Array Oper} {l : List Oper} {ty : TypeId} {pos : String} {after : Array Edge} {d : Nat} {t tk : TypeId} {x y z : Operand}
theorem om_lkOk {b : Nat} {k k' : IntKind} {kt et : TypeId} {zv v : Value} {es : Array MapEntry} {clock : Nat} {a : Int} {l : List (Int × Value)} {ok : Bool} {M2 : Mem0} (hU : P.underlying t = some (.map kt et)) (hk : P.underlying kt = some (.int k)) (hz : ∀ w, (zeroValue et).run P w = .ok zv w)
    (hx : ev e x = some (.map (some b))) (hy : ev e y = some (.int k' a)) [h : Fnd M b (.map es clock) M2] (hes : Ens k' es.toList l) (hv : (aget l a).getD zv = v) (ho : (aget l a).isSome = ok) : ∀ w, Mem w M → OpV P (.lookup t x y true) ty e w (.tuple #[v, .bool ok]) w :=
  fun w hm ρ hρ _ _ _ _ => by
  subst hv; subst ho
  have hb := h.get hm
  have h1 : (Instr.lookup t (.map (some b)) (.int k' a) true).run P w = .ok (.tuple #[(aget l a).getD zv, .bool (aget l a).isSome]) w := by
    unfold aget
    cases hf : afind l a 0 with
    | none => simp [Instr.lookup, run_underlying hU, MapKept.run_getObj_map hb, checkKey_int hk, findKey_ens hk hes, hf, hz, Result.andThen]
    | some p => simp [Instr.lookup, run_underlying hU, MapKept.run_getObj_map hb, checkKey_int hk, findKey_ens hk hes, hf, hz, Result.andThen]
  simp [execOp, hρ x _ hx, hρ y _ hy, h1, Result.andThen]
theorem map_erase {α β : Type} (f : α → β) : ∀ (l : List α) (i : Nat), (l.eraseIdx i).map f = (l.map f).eraseIdx i
  | [], _ => rfl
  | a :: l, 0 => rfl
  | a :: l, i + 1 => by simp only [List.eraseIdx_cons_succ, List.map_cons, map_erase f l i]
theorem Ens.len {k : IntKind} {es : List MapEntry} {l : List (Int × Value)} (h : Ens k es l) : es.length = l.length := by
  have := congrArg List.length h; simpa using this
theorem om_mlen {b n : Nat} {k' : IntKind} {kt et : TypeId} {es : Array MapEntry} {clock : Nat} {l : List (Int × Value)} {M2 : Mem0} (hU : P.underlying t = some (.map kt et)) (hx : ev e x = some (.map (some b))) [h : Fnd M b (.map es clock) M2] (hes : Ens k' es.toList l) (hn : l.length = n) :
    ∀ w, Mem w M → OpV P (.call { callee := .builtin .len, args := #[x], argTypes := #[t] }) ty e w (.int .i64 n) w := fun w hm ρ hρ _ _ _ _ => by
  have h2 := hes.len
  rw [Array.length_toList] at h2
  simp [execOp, resolve, invoke, builtin, hρ x _ hx, Builtin.len_, run_underlying hU, MapKept.run_getObj_map (h.get hm), goInt, Result.andThen, h2, hn]
theorem LE.valN {op : Op} {v : Value} {w w' : World} (hv : OpV P op ty e w v w') (h : LE P r N ops Q l e ds w') (hnd : nd op = true := by rfl) :
    LE P r N ops Q (⟨none, op, ty, pos, after, none⟩ :: l) e ds w := fun a hf hdm => by
  refine wpListIn_plain rfl fun K hK => wp_val hnd (hv a.eval (fun x u hx => hf.eval hx) _ _ _ _) (hK _ _ (h _ (hf.putN v) hdm))
end
end Go.Eng
namespace Go.Eng
open Go Go.RowKit Go.MapKept
def EnsS (k : IntKind) (es : Array MapEntry) (clock : Nat) (l : List (Int × Value)) : Prop := Ens k es.toList l ∧ Stamped es clock
theorem afind_no : ∀ (l : List (Int × Value)) (a : Int) (i : Nat), afind l a i = none → ∀ p ∈ l, p.1 ≠ a
  | [], _, _, _, _, h => by cases h
  | (b, u) :: l, a, i, h, p, hp => by
    simp only [afind] at h
    by_cases hab : a = b
    · rw [if_pos hab] at h; cases h
    · rw [if_neg hab] at h
      rcases List.mem_cons.1 hp with rfl | hp
      · exact fun q => hab q.symm
      · exact afind_no l a (i + 1) h p hp
theorem ens_key {k : IntKind} {es : List MapEntry} {l : List (Int × Value)} (h : Ens k es l) {e : MapEntry} (he : e ∈ es) : ∃ p ∈ l, e.key = .int k p.1 ∧ e.val = p.2 := by
  have : (e.key, e.val) ∈ l.map (fun p => (Value.int k p.1, p.2)) := by rw [← h]; exact List.mem_map.2 ⟨e, he, rfl⟩
  obtain ⟨p, hp, e2⟩ := List.mem_map.1 this
  rw [Prod.mk.injEq] at e2
  exact ⟨p, hp, e2.1.symm, e2.2.symm⟩
theorem ensS_nil (k : IntKind) : EnsS k #[] 0 [] := ⟨rfl, stamped_empty 0⟩
section
variable {P : Program} {r : Option Nat} {N : Nat} {Q : Exit → Act → World → Prop} {e : Env} {ds : List Nat} {M : Mem0} {S : Nat → Prop} {w0 : World} {G : World → Prop}
variable {ops : Array Oper} {l : List Oper} {ty : TypeId} {pos : String} {after : Array Edge} {d : Nat} {t tk : TypeId} {x y z : Operand}
theorem LM.mUS [GT G] {b : Nat} {k k' : IntKind} {kt et : TypeId} {v : Value} {es : Array MapEntry} {clock : Nat} {a : Int} {m : List (Int × Value)} {M2 : Mem0} (hU : P.underlying t = some (.map kt et)) (hk : P.underlying kt = some (.int k))
    (hx : ev e x = some (.map (some b))) (hy : ev e y = some (.int k' a)) (hz : ev e z = some v) [hM : Fnd M b (.map es clock) M2] (hes : EnsS k' es clock m) (hb : b < w0.heap.size → S b)
    (h : ∀ es' clock', EnsS k' es' clock' (aput m a v) → LM P r N ops Q l e ds ((b, .map es' clock') :: M2) S w0 G) :
    LM P r N ops Q (⟨none, .mapUpdate t x y z, ty, pos, after, none⟩ :: l) e ds M S w0 G := fun w hm hc hg => by
  have hbw := hM.get hm
  obtain ⟨hes, hst⟩ := hes
  obtain ⟨es', clock', hr, hE⟩ : ∃ es' clock', (Instr.mapUpdate t (.map (some b)) (.int k' a) v).run P w = .ok () (w.putObj b (.map es' clock')) ∧ EnsS k' es' clock' (aput m a v) := by
    cases hf : afind m a 0 with
    | none =>
      refine ⟨es.push ⟨.int k' a, v, clock⟩, clock + 1, ?_, ?_, ?_⟩
      · simp [Instr.mapUpdate, run_underlying hU, MapKept.run_getObj_map hbw, checkKey_int hk, findKey_ens hk hes, hf, MapKept.run_setObj_map _ hbw, Result.andThen, World.putObj]
      · unfold aput Ens at *; rw [hf]; simp [hes]
      · exact stamped_push hst (fun q hq eq => by
          obtain ⟨p, hp, e1, _⟩ := ens_key hes hq
          rw [e1] at eq
          exact afind_no m a 0 hf p hp (Value.int.inj eq).2)
    | some p =>
      obtain ⟨j, u⟩ := p
      obtain ⟨_, hj⟩ := afind_get m a 0 j u hf
      rw [Nat.sub_zero] at hj
      have hkey : (es[j]?).map (·.key) = some (.int k' a) := by
        have h1 := congrArg (fun l => l[j]?) hes
        simp only [List.getElem?_map, hj, Option.map_some, Array.getElem?_toList] at h1
        cases hq : es[j]? with
        | none => rw [hq] at h1; simp at h1
        | some q => rw [hq] at h1; simp at h1; simp [h1.1]
      refine ⟨es.modify j fun e => { e with key := .int k' a, val := v }, clock, ?_, ?_, ?_⟩
      · simp [Instr.mapUpdate, run_underlying hU, MapKept.run_getObj_map hbw, checkKey_int hk, findKey_ens hk hes, hf, hkey, Instr.keyThatStays, Instr.sameBits, MapKept.run_setObj_map _ hbw, Result.andThen, World.putObj]
      · unfold aput Ens at *; rw [hf]
        apply List.ext_getElem?
        intro q
        have h1 := congrArg (fun l => l[q]?) hes
        simp only [List.getElem?_map, Array.getElem?_toList, Array.getElem?_modify, List.getElem?_set] at h1 ⊢
        by_cases hqj : j = q
        · subst hqj
          have hlt : j < m.length := (List.getElem?_eq_some_iff.1 hj).1
          cases hq : es[j]? with
          | none => rw [hq] at hkey; simp at hkey
          | some z => simp [hlt]
        · simp only [hqj, if_false]; exact h1
      · exact stamped_modify hst j _ (fun _ _ => rfl) (fun q _ hq => by rw [hq] at hkey; simpa using hkey.symm)
  have hm2 := hm.perm hM.perm
  have hput := World.putObj_heap_same (w := w) (r := b) (o := .map es' clock') (Array.getElem?_eq_some_iff.1 hbw).1
  refine LE.skp (w' := w.putObj b (.map es' clock')) (fun ρ hρ _ _ _ _ => ?_) (h es' clock' hE _ (hm2.set (i := 0) rfl hput (chg_put _)) (hc.step (chg_put _) (fun q hq hqb => by subst hqb; exact hb hq)) (GT.chg _ w _ hg (chg_put _) (.one (chg_put _) hbw rfl))) rfl
  simp [execOp, hρ x _ hx, hρ y _ hy, hρ z _ hz, hr, Result.andThen]
theorem LM.mDS [GT G] {b : Nat} {k k' : IntKind} {kt et : TypeId} {es : Array MapEntry} {clock : Nat} {a : Int} {m : List (Int × Value)} {M2 : Mem0} (hU : P.underlying t = some (.map kt et)) (hk : P.underlying kt = some (.int k))
    (hx : ev e x = some (.map (some b))) (hy : ev e y = some (.int k' a)) [hM : Fnd M b (.map es clock) M2] (hes : EnsS k' es clock m) (hb : b < w0.heap.size → S b)
    (h : ∀ es' clock', EnsS k' es' clock' (adel m a) → LM P r N ops Q l e ds ((b, .map es' clock') :: M2) S w0 G) :
    LM P r N ops Q (⟨none, .call { callee := .builtin .delete, args := #[x, y], argTypes := #[t, tk] }, ty, pos, after, none⟩ :: l) e ds M S w0 G := fun w hm hc hg => by
  have hbw := hM.get hm
  obtain ⟨hes, hst⟩ := hes
  obtain ⟨es', hr, hE⟩ : ∃ es' : Array MapEntry, (Builtin.delete_ #[t, tk] ty #[.map (some b), .int k' a]).run P w = .ok (.tuple #[]) (w.putObj b (.map es' clock)) ∧ EnsS k' es' clock (adel m a) := by
    unfold adel
    cases hf : afind m a 0 with
    | none =>
      refine ⟨es, ?_, hes, hst⟩
      simp [Builtin.delete_, run_underlying hU, MapKept.run_getObj_map hbw, checkKey_int hk, findKey_ens hk hes, hf, MapKept.run_setObj_map _ hbw, Result.andThen, World.putObj]
    | some p =>
      obtain ⟨j, u⟩ := p
      obtain ⟨_, hj⟩ := afind_get m a 0 j u hf
      rw [Nat.sub_zero] at hj
      have hjm : j < m.length := (List.getElem?_eq_some_iff.1 hj).1
      have hjs : j < es.size := by have := hes.len; rw [Array.length_toList] at this; omega
      refine ⟨es.eraseIdxIfInBounds j, ?_, ?_, stamped_erase hst j⟩
      · simp [Builtin.delete_, run_underlying hU, MapKept.run_getObj_map hbw, checkKey_int hk, findKey_ens hk hes, hf, MapKept.run_setObj_map _ hbw, Result.andThen, World.putObj]
      · have hsub : (es.eraseIdxIfInBounds j).toList = es.toList.eraseIdx j := by
          unfold Array.eraseIdxIfInBounds
          rw [dif_pos hjs]
          simp
        rw [hsub]
        unfold Ens at hes ⊢
        rw [map_erase, map_erase, hes]
  have hm2 := hm.perm hM.perm
  have hput := World.putObj_heap_same (w := w) (r := b) (o := .map es' clock) (Array.getElem?_eq_some_iff.1 hbw).1
  refine LE.valN (v := .tuple #[]) (w' := w.putObj b (.map es' clock)) (fun ρ hρ _ _ _ _ => ?_) (h es' clock hE _ (hm2.set (i := 0) rfl hput (chg_put _)) (hc.step (chg_put _) (fun q hq hqb => by subst hqb; exact hb hq)) (GT.chg _ w _ hg (chg_put _) (.one (chg_put _) hbw rfl)))
  simp [execOp, resolve, invoke, builtin, hρ x _ hx, hρ y _ hy, hr, Result.andThen]
end
end Go.Eng
namespace Go.Eng
open Go Go.RowKit Go.MapKept
def EAt (es : Array MapEntry) (k : IntKind) (a : Int) (β : Nat) : Prop := ∃ j : Nat, (es[j]?).map (fun q => (q.key, q.born)) = some (Value.int k a, β)
theorem aput_aput : ∀ (m : List (Int × Value)) (a : Int) (u v : Value), aput (aput m a u) a v = aput m a v
  | [], a, u, v => by rw [aput_nil, aput_nil, aput_cons, if_pos rfl]
  | (b, x) :: m, a, u, v => by
    rw [aput_cons, aput_cons]
    by_cases h : a = b
    · rw [if_pos h, if_pos h, aput_cons, if_pos rfl]
    · rw [if_neg h, if_neg h, aput_cons, if_neg h, aput_aput m a u v]
section
variable {P : Program} {r : Option Nat} {N : Nat} {Q : Exit → Act → World → Prop} {e : Env} {ds : List Nat} {M : Mem0} {S : Nat → Prop} {w0 : World} {G : World → Prop}
variable {ops : Array Oper} {l : List Oper} {ty : TypeId} {pos : String} {after : Array Edge} {d : Nat} {t tk : TypeId} {x y z : Operand}
theorem LM.mEntry [GT G] {b : Nat} {k k' : IntKind} {kt et : TypeId} {zv : Value} {es : Array MapEntry} {clock : Nat} {a : Int} {m : List (Int × Value)} {M2 : Mem0} (hU : P.underlying t = some (.map kt et)) (hk : P.underlying kt = some (.int k)) (hZ : ∀ w, (zeroValue et).run P w = .ok zv w)
    (hx : ev e x = some (.map (some b))) (hy : ev e y = some (.int k' a)) [hM : Fnd M b (.map es clock) M2] (hes : EnsS k' es clock m) (hb : b < w0.heap.size → S b) (hd : Nat.blt d N = true)
    (h : ∀ es' clock' u β, EnsS k' es' clock' (aput m a u) → EAt es' k' a β → LM P r N ops Q l ((d, .tuple #[u, .int .i64 (β : Nat)]) :: e) ds ((b, .map es' clock') :: M2) S w0 G) :
    LM P r N ops Q (⟨some d, .mapEntry t x y, ty, pos, after, none⟩ :: l) e ds M S w0 G := fun w hm hc hg => by
  have hbw := hM.get hm
  obtain ⟨hes, hst⟩ := hes
  obtain ⟨es', clock', u, β, hr, hE, hA⟩ : ∃ es' clock' u, ∃ β : Nat, (Instr.mapEntry t (.map (some b)) (.int k' a)).run P w = .ok (.tuple #[u, .int .i64 (β : Nat)]) (w.putObj b (.map es' clock')) ∧ EnsS k' es' clock' (aput m a u) ∧ EAt es' k' a β := by
    cases hf : afind m a 0 with
    | none =>
      refine ⟨es.push ⟨.int k' a, zv, clock⟩, clock + 1, zv, clock, ?_, ⟨?_, ?_⟩, es.size, ?_⟩
      · simp [Instr.mapEntry, run_underlying hU, MapKept.run_getObj_map hbw, checkKey_int hk, findKey_ens hk hes, hf, hZ, MapKept.run_setObj_map _ hbw, Result.andThen, World.putObj, goInt]
      · unfold aput Ens at *; rw [hf]; simp [hes]
      · exact stamped_push hst (fun q hq eq => by
          obtain ⟨p, hp, e1, _⟩ := ens_key hes hq
          rw [e1] at eq
          exact afind_no m a 0 hf p hp (Value.int.inj eq).2)
      · simp
    | some p =>
      obtain ⟨j, u⟩ := p
      obtain ⟨_, hj⟩ := afind_get m a 0 j u hf
      rw [Nat.sub_zero] at hj
      obtain ⟨q, hq, hkey⟩ : ∃ q, es[j]? = some q ∧ q.key = .int k' a := by
        have h1 := congrArg (fun l => l[j]?) hes
        simp only [List.getElem?_map, hj, Option.map_some, Array.getElem?_toList] at h1
        cases hq : es[j]? with
        | none => rw [hq] at h1; simp at h1
        | some q => rw [hq] at h1; simp at h1; exact ⟨q, rfl, h1.1⟩
      refine ⟨es.modify j fun e => { e with key := .int k' a }, clock, u, q.born, ?_, ⟨?_, ?_⟩, j, ?_⟩
      · simp [Instr.mapEntry, run_underlying hU, MapKept.run_getObj_map hbw, checkKey_int hk, findKey_ens hk hes, hf, hq, hkey, Instr.keyThatStays, Instr.sameBits, MapKept.run_setObj_map _ hbw, Result.andThen, World.putObj, goInt]
      · unfold aput Ens at *; rw [hf]
        apply List.ext_getElem?
        intro i
        have h1 := congrArg (fun l => l[i]?) hes
        simp only [List.getElem?_map, Array.getElem?_toList, Array.getElem?_modify, List.getElem?_set] at h1 ⊢
        by_cases hqj : j = i
        · subst hqj
          have hlt : j < m.length := (List.getElem?_eq_some_iff.1 hj).1
          rw [hq, hj] at h1
          simp only [Option.map_some, Option.some.injEq, Prod.mk.injEq] at h1
          rw [hq]; simp [hlt, h1.2]
        · simp only [hqj, if_false]; exact h1
      · exact stamped_modify hst j _ (fun _ _ => rfl) (fun q' _ hq' => by rw [hq] at hq'; cases hq'; exact hkey.symm)
      · rw [Array.getElem?_modify, if_pos rfl, hq]; rfl
  have hm2 := hm.perm hM.perm
  have hput := World.putObj_heap_same (w := w) (r := b) (o := .map es' clock') (Array.getElem?_eq_some_iff.1 hbw).1
  refine LE.val (v := .tuple #[u, .int .i64 (β : Nat)]) (w' := w.putObj b (.map es' clock')) (fun ρ hρ _ _ _ _ => ?_) (h es' clock' u β hE hA _ (hm2.set (i := 0) rfl hput (chg_put _)) (hc.step (chg_put _) (fun q hq hqb => by subst hqb; exact hb hq)) (GT.chg _ w _ hg (chg_put _) (.one (chg_put _) hbw rfl))) rfl hd
  simp [execOp, hρ x _ hx, hρ y _ hy, hr, Result.andThen]
theorem LM.eStore [GT G] {b β : Nat} {k' : IntKind} {v u : Value} {es : Array MapEntry} {clock : Nat} {a : Int} {m : List (Int × Value)} {M2 : Mem0} 
    (hx : ev e x = some (.map (some b))) (hy : ev e y = some (.int .i64 (β : Nat))) (hz : ev e z = some v) [hM : Fnd M b (.map es clock) M2] (hes : EnsS k' es clock (aput m a u)) (hA : EAt es k' a β) (hb : b < w0.heap.size → S b)
    (h : ∀ es', EnsS k' es' clock (aput m a v) → LM P r N ops Q l e ds ((b, .map es' clock) :: M2) S w0 G) :
    LM P r N ops Q (⟨none, .entryStore t x y z, ty, pos, after, none⟩ :: l) e ds M S w0 G := fun w hm hc hg => by
  have hbw := hM.get hm
  obtain ⟨hes, hst⟩ := hes
  obtain ⟨es', hr, hE⟩ : ∃ es', (Instr.entryStore t (.map (some b)) (.int .i64 (β : Nat)) v).run P w = .ok () (w.putObj b (.map es' clock)) ∧ EnsS k' es' clock (aput m a v) := by
    obtain ⟨j, hA⟩ := hA
    obtain ⟨q, hq, hqk, hqb⟩ : ∃ q, es[j]? = some q ∧ q.key = .int k' a ∧ q.born = β := by
      cases hq : es[j]? with
      | none => rw [hq] at hA; cases hA
      | some q => rw [hq] at hA; simp only [Option.map_some, Option.some.injEq, Prod.mk.injEq] at hA; exact ⟨q, rfl, hA⟩
    have hjs : j < es.size := (Array.getElem?_eq_some_iff.1 hq).1
    have hfi : es.findIdx? (fun e => (e.born : Int) == (β : Int)) = some j := by
      rw [Array.findIdx?_eq_some_iff_getElem]
      refine ⟨hjs, ?_, fun i hi => ?_⟩
      · have : es[j] = q := (Array.getElem?_eq_some_iff.1 hq).2
        rw [this, hqb]; simp
      · have hnd := hst.2.1
        have h1 := List.pairwise_iff_getElem.1 hnd i j (by simp; omega) (by simp; omega) hi
        simp only [List.getElem_map, Array.getElem_toList] at h1
        have : es[j] = q := (Array.getElem?_eq_some_iff.1 hq).2
        rw [this, hqb] at h1
        simp only [beq_iff_eq]; omega
    have hr0 : (asInt (.int .i64 (β : Nat))).run P w = .ok (β : Int) w := by simp [asInt, asIntOf]
    refine ⟨es.modify j fun e => { e with val := v }, ?_, ?_, stamped_modify hst j _ (fun _ _ => rfl) (fun _ _ _ => rfl)⟩
    · simp [Instr.entryStore, MapKept.run_getObj_map hbw, hr0, hfi, MapKept.run_setObj_map _ hbw, Result.andThen, World.putObj]
    · have hlen : es.size = (aput m a u).length := by have := hes.len; rwa [Array.length_toList] at this
      have hat : (aput m a u)[j]? = some (a, q.val) := by
        have h1 := congrArg (fun l => l[j]?) hes
        simp only [List.getElem?_map, Array.getElem?_toList, hq, Option.map_some] at h1
        cases hq2 : (aput m a u)[j]? with
        | none => rw [hq2] at h1; cases h1
        | some p =>
          rw [hq2] at h1
          simp only [Option.map_some, Option.some.injEq, Prod.mk.injEq, hqk, Value.int.injEq, true_and] at h1
          obtain ⟨p1, p2⟩ := p
          simp only at h1
          rw [h1.1, h1.2]
      have hfd : afind (aput m a u) a 0 = some (j, q.val) := by
        cases hf : afind (aput m a u) a 0 with
        | none => exact absurd rfl (afind_no _ a 0 hf _ (List.mem_of_getElem? hat))
        | some p =>
          obtain ⟨i, x⟩ := p
          obtain ⟨_, hi⟩ := afind_get _ a 0 i x hf
          rw [Nat.sub_zero] at hi
          have hij : i = j := by
            have hkn := hst.2.2
            have hi2 : (es.toList.map (·.key))[i]? = some (.int k' a) := by
              have h1 := congrArg (fun l => (l[i]?).map (·.1)) hes
              simp only [List.getElem?_map, hi, Option.map_some] at h1
              rw [List.getElem?_map, ← h1]
              cases es.toList[i]? <;> rfl
            have hj2 : (es.toList.map (·.key))[j]? = some (.int k' a) := by rw [List.getElem?_map, Array.getElem?_toList, hq, Option.map_some, hqk]
            exact (List.getElem?_inj (List.getElem?_eq_some_iff.1 hi2).1 hkn).1 (hi2.trans hj2.symm)
          subst hij
          rw [hi] at hat
          simp only [Option.some.injEq, Prod.mk.injEq, true_and] at hat
          rw [hat]
      rw [← aput_aput m a u v]
      unfold Ens at hes ⊢
      rw [show aput (aput m a u) a v = (aput m a u).set j (a, v) by rw [aput, hfd]]
      apply List.ext_getElem?
      intro i
      have h1 := congrArg (fun l => l[i]?) hes
      simp only [List.getElem?_map, Array.getElem?_toList, Array.getElem?_modify, List.getElem?_set] at h1 ⊢
      by_cases hqj : j = i
      · subst hqj
        rw [hq]; simp [hqk, ← hlen, hjs]
      · simp only [hqj, if_false]; exact h1
  have hm2 := hm.perm hM.perm
  have hput := World.putObj_heap_same (w := w) (r := b) (o := .map es' clock) (Array.getElem?_eq_some_iff.1 hbw).1
  refine LE.skp (w' := w.putObj b (.map es' clock)) (fun ρ hρ _ _ _ _ => ?_) (h es' hE _ (hm2.set (i := 0) rfl hput (chg_put _)) (hc.step (chg_put _) (fun q hq hqb => by subst hqb; exact hb hq)) (GT.chg _ w _ hg (chg_put _) (.one (chg_put _) hbw rfl))) rfl
  simp [execOp, hρ x _ hx, hρ y _ hy, hρ z _ hz, hr, Result.andThen]
end
end Go.Eng
namespace Go.Eng
open Go Go.RowKit
theorem SubM.spl {M m M2 : Mem0} [h : Spl M m M2] : SubM M m := ⟨M2, h.perm⟩
def SeqCS (P : Program) (g : FuncId) (lb : Array Value) (A : List (Array Value)) (Rd : World → Prop) (mp0 : Mem0) (T : Nat → Mem0 → Prop) (fin : Prop) : Prop :=
  ∀ (l : Nat) (J : Nat → Mem0 → World → Prop) (Jx : World → Prop) (W : World), (fin ∨ ∀ m w, ¬ J A.length m w) → (∀ k m w, J k m w → Rd w) → JL W.heap.size J Jx →
    (∀ k a m w1, A[k]? = some a → T (k + 1) m → J k m w1 → YR P l a w1 (fun b w2 => ((b = true ∧ J (k + 1) m w2) ∨ (b = false ∧ Jx w2)) ∧ KW W.heap.size w1 w2)) →
    J 0 mp0 W → Ret P g (#[.func (.yield l) #[] #[]] ++ lb) W (fun _ w' => (∃ m, T A.length m ∧ J A.length m w') ∨ Jx w')
theorem SeqCP.rdm {P : Program} {g : FuncId} {lb : Array Value} {A : List (Array Value)} {Rd Rd' : World → Prop} {fin : Prop} (h : SeqCP P g lb A Rd fin) (k : ∀ w, Rd' w → Rd w) : SeqCP P g lb A Rd' fin :=
  fun l J Jx W hf hr hL hy h0 => h l J Jx W hf (fun i m w hj => k w (hr i m w hj)) hL hy h0
theorem SeqCP.toS {P : Program} {g : FuncId} {lb : Array Value} {A : List (Array Value)} {Rd : World → Prop} {fin : Prop} (h : SeqCP P g lb A Rd fin) : SeqCS P g lb A Rd [] (fun _ _ => True) fin :=
  fun l J Jx W hf hr hL hy h0 => (h l J Jx W hf hr hL (fun k a m w1 ha hj => hy k a m w1 ha trivial hj) h0).mono (fun _ w' q => q.imp (fun q => ⟨[], trivial, q⟩) id)
theorem SeqCS.enter {P : Program} {f : FuncId} {fn : Func} {c : Code} {lb : List Value} {A : List (Array Value)} {Rd : World → Prop} {mp0 : Mem0} {T : Nat → Mem0 → Prop} {fin : Prop}
    (hf : P.funcs[f]? = some fn) (hb : fn.body = some c) {N : Nat} (hN : fn.ntmps = N) (hl : Nat.ble (lb.length + 1) N = true)
    (h : ∀ (l n : Nat) (J : Nat → Mem0 → World → Prop) (Jx : World → Prop) (w0 : World), n = w0.heap.size → (fin ∨ ∀ m w, ¬ J A.length m w) → (∀ k m w, J k m w → Rd w) → JL n J Jx →
      (∀ k a m w, A[k]? = some a → T (k + 1) m → J k m w → YR P l a w (fun b w2 => ((b = true ∧ J (k + 1) m w2) ∨ (b = false ∧ Jx w2)) ∧ KW n w w2)) →
      wpM P none N c (fnPost P fn (fun _ w' => (∃ m, T A.length m ∧ J A.length m w') ∨ Jx w')) (args0 0 (.func (.yield l) #[] #[] :: lb)) [] mp0 all0 w0 (fun w => J 0 mp0 w ∧ top w)) : SeqCS P f lb.toArray A Rd mp0 T fin := fun l J Jx W hfin hr hL hy h0 => by
  have h1 : (#[Value.func (.yield l) #[] #[]] ++ lb.toArray) = (Value.func (.yield l) #[] #[] :: lb).toArray := by simp
  rw [h1]
  refine Ret.enterG hf hb hN (by simpa using hl) mp0 all0 (fun w => J 0 mp0 w ∧ top w) (hL.mem _ _ _ h0) ⟨h0, trivial⟩ ?_
  exact h l W.heap.size J Jx W rfl hfin hr hL hy
section
variable {P : Program} {r : Option Nat} {N : Nat} {Q : Exit → Act → World → Prop} {e : Env} {ds : List Nat} {M m : Mem0} {w0 w1 : World} {n k : Nat} {J : Nat → Mem0 → World → Prop} {Jx K : World → Prop}
variable {ops : Array Oper} {rest : List Oper} {ty : TypeId} {pos : String} {after : Array Edge} {d : Nat}
theorem LM.yieldS {l : Nat} {g : Operand} {la : List Operand} {args : List Value} {ats : Array TypeId} (hL : JL n J Jx) (hg : ev e g = some (.func (.yield l) #[] #[])) (ha : evs e la = some args)
    (m' : Mem0) (hy : ∀ w, J k m' w → YR P l args.toArray w (fun b w2 => ((b = true ∧ J (k + 1) m' w2) ∨ (b = false ∧ Jx w2)) ∧ KW n w w2)) (hC : Chg all0 w0 w1) (hJ : J k m w1) (hK : K w1) (hKK : ∀ w w', K w → KW n w w' → K w')
    (Lo MA : Mem0) (hMA : MA = Lo ++ m') (hM : ∀ w, Mem w M → Mem w MA) (hLo : ∀ p ∈ Lo, n ≤ p.1 ∧ wlk p.2 = true) (hn : ∀ p ∈ m', (w1.heap.size ≤ p.1 ∨ ∃ q ∈ m, q.1 = p.1) ∧ wlk p.2 = false)
    (ht : ∀ w2, Mem w2 MA → Chg all0 w0 w2 → J (k + 1) m' w2 → K w2 → LM P r N ops Q rest ((d, .bool true) :: e) ds MA (inM m') w2 (KW n w2))
    (hf : ∀ w2, Mem w2 Lo → Chg all0 w0 w2 → Jx w2 → K w2 → LM P r N ops Q rest ((d, .bool false) :: e) ds Lo no w2 (KW n w2)) (hd : Nat.blt d N = true := by rfl) :
    LM P r N ops Q (⟨some d, .call { callee := .value g, args := la.toArray, argTypes := ats }, ty, pos, after, none⟩ :: rest) e ds M (inM m) w1 (KW n w1) := fun w hm hc hgw a hfr hdm => by
  subst hMA
  refine wpListIn_plain rfl fun Kc hKc => ?_
  refine ⟨fun _ _ => trivial, ?_⟩
  have hm2 := hM w hm
  have hj := hL.upd k m m' w1 w hJ hc (hm2.sub (List.sublist_append_right _ _)) hn
  obtain ⟨fn, tmps, assign, body, h1, h2⟩ := hy w hj
  have hrun : (execOp a.eval ⟨some d, .call { callee := .value g, args := la.toArray, argTypes := ats }, ty, pos, after, none⟩).run P w = .ok (.round l fn tmps assign body) w := by
    simp [execOp, resolve, hfr.eval hg, Deferred.ofValue, invoke, evs_map (ρ := a.eval) (fun x u hx => hfr.eval hx) ha]
    exact h1
  rw [semAt_nd rfl, hrun]
  refine ⟨fun h => (by cases h), ?_⟩
  have h3 : RoundIn (Wd r) 0 P l fn tmps assign body w (fun en w' => ∃ b, en = .returned (.bool b) ∧ ((b = true ∧ J (k + 1) m' w') ∨ (b = false ∧ Jx w')) ∧ KW n w w') := h2
  refine RoundIn.mono h3 ?_
  rintro en w' ⟨b, rfl, hb, hkw⟩
  have hC' : Chg all0 w0 w' := chg_all (chg_all hC hc) (kw_chg hkw)
  have hK' : K w' := hKK w w' (hKK w1 w hK hgw) hkw
  have hLo' : ∀ p ∈ Lo, w'.heap[p.1]? = some p.2 := fun p hp => hkw.same p.1 p.2 (hLo p hp).1 (hm2.2 p (List.mem_append_left _ hp)) (hLo p hp).2
  rcases hb with ⟨rfl, hb⟩ | ⟨rfl, hb⟩
  · have hm3 : Mem w' (Lo ++ m') := ⟨hm2.1, fun p hp => by
      rcases List.mem_append.1 hp with hp | hp
      · exact hLo' p hp
      · exact (hL.mem _ _ _ hb).2 p hp⟩
    exact hKc _ _ (ht w' hm3 hC' hb hK' w' hm3 (Chg.refl _ w') (KW.refl n w') _ (hfr.put hd _) hdm)
  · have hm3 : Mem w' Lo := ⟨(hm2.sub (List.sublist_append_left _ _)).1, hLo'⟩
    exact hKc _ _ (hf w' hm3 hC' hb hK' w' hm3 (Chg.refl _ w') (KW.refl n w') _ (hfr.put hd _) hdm)
theorem pn_in {x : Mem0} (h : ∀ p ∈ x, w1.heap.size ≤ p.1 ∨ ∃ q ∈ m, q.1 = p.1) (hw : ∀ p ∈ x, wlk p.2 = false) : ∀ p ∈ x, (w1.heap.size ≤ p.1 ∨ ∃ q ∈ m, q.1 = p.1) ∧ wlk p.2 = false := fun p hp => ⟨h p hp, hw p hp⟩
theorem pn_own2 {a c : Nat × Obj} {x y : Mem0} (h : ∀ p ∈ y, w1.heap.size ≤ p.1 ∨ ∃ q ∈ x, q.1 = p.1) (hw : ∀ p ∈ y, wlk p.2 = false) : ∀ p ∈ y, (w1.heap.size ≤ p.1 ∨ ∃ q ∈ a :: c :: x, q.1 = p.1) ∧ wlk p.2 = false := fun p hp => ⟨(h p hp).imp id (fun ⟨q, hq, e⟩ => ⟨q, List.mem_cons_of_mem _ (List.mem_cons_of_mem _ hq), e⟩), hw p hp⟩
theorem pn_same2 {a c : Nat × Obj} {x : Mem0} (hw : ∀ p ∈ x, wlk p.2 = false) : ∀ p ∈ x, (w1.heap.size ≤ p.1 ∨ ∃ q ∈ a :: c :: x, q.1 = p.1) ∧ wlk p.2 = false := fun p hp => ⟨.inr ⟨p, List.mem_cons_of_mem _ (List.mem_cons_of_mem _ hp), rfl⟩, hw p hp⟩
theorem pn_sameR {x y : Mem0} (hw : ∀ p ∈ y, wlk p.2 = false) : ∀ p ∈ y, (w1.heap.size ≤ p.1 ∨ ∃ q ∈ x ++ y, q.1 = p.1) ∧ wlk p.2 = false := fun p hp => ⟨.inr ⟨p, List.mem_append_right _ hp, rfl⟩, hw p hp⟩
theorem pn_app {x y : Mem0} (h : ∀ p ∈ x, (w1.heap.size ≤ p.1 ∨ ∃ q ∈ m, q.1 = p.1) ∧ wlk p.2 = false) (k : ∀ p ∈ y, (w1.heap.size ≤ p.1 ∨ ∃ q ∈ m, q.1 = p.1) ∧ wlk p.2 = false) : ∀ p ∈ x ++ y, (w1.heap.size ≤ p.1 ∨ ∃ q ∈ m, q.1 = p.1) ∧ wlk p.2 = false := fun p hp => by
  rcases List.mem_append.1 hp with hp | hp
  · exact h p hp
  · exact k p hp
theorem kw_own {Mp : Mem0} {w w' : World} {n : Nat} (hm : Mem w Mp) (hc : Chg (fun b => ∃ q ∈ Mp, q.1 = b) w w') (hw : ∀ p ∈ Mp, wlk p.2 = false) : KW n w w' :=
  ⟨hc.os, hc.tape, hc.output, hc.size, fun b o _ hb ho => hc.get hb (fun ⟨q, hq, e⟩ => by
    have h1 := hm.2 q hq
    rw [e, hb] at h1
    have h2 := hw q hq
    rw [← Option.some.inj h1, ho] at h2; cases h2)⟩
theorem gu_j (hL : JL n J Jx) (hKK : ∀ w w', K w → KW n w w' → K w') {mp Mp Mp' : Mem0} {w w' : World} (hmp : ∀ p ∈ mp, wlk p.2 = false) (g : J k (mp ++ Mp) w ∧ K w) (hm : Mem w Mp) (hm' : Mem w' (mp ++ Mp')) (hc : Chg (fun b => ∃ q ∈ Mp, q.1 = b) w w')
    (hn : ∀ p ∈ Mp', (w.heap.size ≤ p.1 ∨ ∃ q ∈ Mp, q.1 = p.1) ∧ wlk p.2 = false) (hw : ∀ p ∈ Mp, wlk p.2 = false) : J k (mp ++ Mp') w' ∧ K w' :=
  ⟨hL.upd k _ _ w w' g.1 (hc.mono (fun b _ ⟨q, hq, e⟩ => ⟨q, List.mem_append_right _ hq, e⟩)) hm' (fun p hp => by
    rcases List.mem_append.1 hp with hp | hp
    · exact ⟨.inr ⟨p, List.mem_append_left _ hp, rfl⟩, hmp p hp⟩
    · exact ⟨(hn p hp).1.imp id (fun ⟨q, hq, e⟩ => ⟨q, List.mem_append_right _ hq, e⟩), (hn p hp).2⟩), hKK w w' g.2 (kw_own hm hc hw)⟩
end
section range
variable {P : Program} {N : Nat} {Q : Exit → Act → World → Prop} {e : Env} {ds : List Nat} {M : Mem0} {S : Nat → Prop} {w0 : World} {G : World → Prop}
variable {g : Operand} {ps : Array Tmp} {assign body : Code} {gf : FuncId} {lb : Array Value} {A : List (Array Value)} {Rd : World → Prop} {mp0 : Mem0} {T : Nat → Mem0 → Prop} {fin : Prop} {α β : Type}
theorem range_coreS {a : Act} (hf : Fr N e a) {l D m : Nat} {fn : FuncId} {Dl : Mem0} {W : World} (hlW : l + 1 = W.heap.size) (hml : m ≤ l) (hlb : w0.heap.size ≤ l) (hDl : ∀ p ∈ Dl, p.1 < W.heap.size)
    (hseq : SeqCS P gf lb A Rd mp0 T fin) (MT : Nat → α → Mem0 → Mem0) (hMT : ∀ k x Mp, MT k x Mp = MT k x [] ++ Mp) (GG : Nat → α → Mem0 → World → Prop) (I : Nat → α → Prop) (MX : β → Mem0) (GX : β → World → Prop) (IX : Code → β → Prop) (x0 : α)
    (hA : ∀ (k : Nat) (av : Array Value), A[k]? = some av → av.size = ps.size) (hps : ps.all (fun p => Nat.blt p N) = true)
    (hm0 : Mem W ((l, .loop (recOf fn a.tmps ps assign body D)) :: (Dl ++ MT 0 x0 mp0))) (hc0 : Chg S w0 W) (hg0 : GG 0 x0 mp0 W) (hI0 : I 0 x0)
    (hw0 : ∀ p ∈ mp0, wlk p.2 = false) (hS0 : ∀ p ∈ mp0, p.1 < w0.heap.size → S p.1)
    (hfin : fin ∨ ∀ x, ¬ I A.length x)
    (hrd : ∀ k x Mp w, Mem w (MT k x Mp) → Chg S w0 w → GG k x Mp w → I k x → Rd w)
    (hGU : ∀ k x Mp Mp' w w', GG k x Mp w → Mem w (MT k x Mp) → Mem w' (MT k x Mp') → Chg (fun b => ∃ q ∈ Mp, q.1 = b) w w' → (∀ p ∈ Mp', (w.heap.size ≤ p.1 ∨ ∃ q ∈ Mp, q.1 = p.1) ∧ wlk p.2 = false) → (∀ p ∈ Mp, wlk p.2 = false) → I k x → GG k x Mp' w')
    (hGG : ∀ k x Mp, Gl m (GG k x Mp)) (hGX : ∀ z, Gl m (GX z))
    (hMM : ∀ k x, I k x → ∀ p ∈ MT k x [], p.1 < W.heap.size ∨ wlk p.2 = false) (hMX : ∀ c z, IX c z → ∀ p ∈ MX z, p.1 < W.heap.size ∨ wlk p.2 = false)
    (hbody : ∀ k av x W1 Mp, A[k]? = some av → T (k + 1) Mp → (∀ p ∈ Mp, (w0.heap.size ≤ p.1 ∨ ∃ q ∈ mp0, q.1 = p.1) ∧ wlk p.2 = false) → I k x → wpM P (some l) N assign (Exit.then (asK P l (recOf fn a.tmps ps assign body D) body (rdQ l (recOf fn a.tmps ps assign body D) Dl S w0 (KW W.heap.size W1) (fun y => MT (k + 1) y Mp) (fun y => GG (k + 1) y Mp) (I (k + 1)) MX GX IX)) never)
      (parE (ps.toList.zip av.toList) e) [] ((l, .loop (recOf fn a.tmps ps assign body D)) :: (Dl ++ MT k x Mp)) S w0 (fun w => GG k x Mp w ∧ KW W.heap.size W1 w)) :
    Ret P gf (#[.func (.yield l) #[] #[]] ++ lb) W (fun _ w' =>
      (∃ z : α × Mem0, Mem w' ((l, .loop (recOf fn a.tmps ps assign body D)) :: (Dl ++ MT A.length z.1 z.2)) ∧ Chg S w0 w' ∧ GG A.length z.1 z.2 w' ∧ (I A.length z.1 ∧ T A.length z.2 ∧ ∀ p ∈ z.2, (w0.heap.size ≤ p.1 ∨ ∃ q ∈ mp0, q.1 = p.1) ∧ wlk p.2 = false)) ∨
      (∃ c z, Mem w' ((l, .loop (doneOf (recOf fn a.tmps ps assign body D) c)) :: (Dl ++ MX z)) ∧ Chg S w0 w' ∧ GX z w' ∧ IX c z ∧ (c = .ret ∨ ∃ id, c = .exit id))) := by
  generalize hrc : recOf fn a.tmps ps assign body D = rc at *
  have hst : rc.state = .ready := by rw [← hrc]; rfl
  have hpe : rc.pending = none := by rw [← hrc]; rfl
  have hpar : rc.params = ps := by rw [← hrc]; rfl
  have hass : rc.assign = assign := by rw [← hrc]; rfl
  have hbod : rc.body = body := by rw [← hrc]; rfl
  have htm : rc.tmps = a.tmps := by rw [← hrc]; rfl
  have hsz0 := hc0.size
  have keep : ∀ (w1 w2 : World) (Mx : Mem0), Bk W.heap.size w1 w2 → Mem w1 Mx → (∀ p ∈ Mx, p.1 < W.heap.size ∨ wlk p.2 = false) → Mem w2 Mx := fun w1 w2 Mx hb hm hp => ⟨hm.1, fun p hpm => hb.same _ _ (hm.2 p hpm) (hp p hpm)⟩
  have keepC : ∀ (w1 w2 : World), Bk W.heap.size w1 w2 → Chg S w0 w1 → Chg S w0 w2 := fun w1 w2 hb hc => hc.step hb.chg (fun x hx hn => by omega)
  have hlow : ∀ (o : Obj) (Mx : Mem0), (∀ p ∈ Mx, p.1 < W.heap.size ∨ wlk p.2 = false) → ∀ p ∈ ((l, o) :: (Dl ++ Mx)), p.1 < W.heap.size ∨ wlk p.2 = false := fun o Mx h p hp => by
    rcases List.mem_cons.1 hp with rfl | hp
    · exact .inl (by simp only; omega)
    · rcases List.mem_append.1 hp with hp | hp
      · exact .inl (hDl p hp)
      · exact h p hp
  have hsplit : ∀ (o : Obj) (k : Nat) (x : α) (Mp : Mem0), (l, o) :: (Dl ++ MT k x Mp) = ((l, o) :: (Dl ++ MT k x [])) ++ Mp := fun o k x Mp => by rw [hMT k x Mp]; simp [List.append_assoc]
  have hown : ∀ (Mp : Mem0), (∀ p ∈ Mp, (W.heap.size ≤ p.1 ∨ ∃ q ∈ mp0, q.1 = p.1) ∧ wlk p.2 = false) → ∀ p ∈ Mp, (w0.heap.size ≤ p.1 ∨ ∃ q ∈ mp0, q.1 = p.1) ∧ wlk p.2 = false := fun Mp h p hp => ⟨(h p hp).1.imp (fun q => by omega) id, (h p hp).2⟩
  refine Ret.mono (hseq l
    (fun k Mp w => (∃ x, Mem w ((l, .loop rc) :: (Dl ++ MT k x Mp)) ∧ Chg S w0 w ∧ GG k x Mp w ∧ I k x) ∧ ∀ p ∈ Mp, (W.heap.size ≤ p.1 ∨ ∃ q ∈ mp0, q.1 = p.1) ∧ wlk p.2 = false)
    (fun w => ∃ c z, Mem w ((l, .loop (doneOf rc c)) :: (Dl ++ MX z)) ∧ Chg S w0 w ∧ GX z w ∧ IX c z ∧ (c = .ret ∨ ∃ id, c = .exit id))
    W (hfin.imp id fun hn Mp w => by rintro ⟨⟨x, _, _, _, hI⟩, _⟩; exact hn x hI) (fun k Mp w ⟨⟨x, hm, hc, hg, hI⟩, _⟩ => hrd k x Mp w ((hm.sub (List.sublist_cons_self _ _)).sub (List.sublist_append_right _ _)) hc hg hI) ⟨?_, ?_, ?_, ?_, ?_⟩ ?_ ⟨⟨x0, hm0, hc0, hg0, hI0⟩, fun p hp => ⟨.inr ⟨p, hp, rfl⟩, hw0 p hp⟩⟩) (fun _ w' h => h.imp (fun ⟨Mp, hT, ⟨x, h1, h2, h3, h4⟩, h5⟩ => ⟨(x, Mp), h1, h2, h3, h4, hT, hown Mp h5⟩) id)
  · rintro k Mp w ⟨⟨x, hm, _⟩, _⟩
    have := hm.lt (p := (l, .loop rc)) (List.mem_cons_self ..)
    simp only at this; omega
  · rintro k Mp w ⟨⟨x, hm, _⟩, _⟩
    rw [hsplit] at hm; exact hm.sub (List.sublist_append_right _ _)
  · rintro k Mp Mp' w w' ⟨⟨x, hm, hc, hg, hI⟩, hp⟩ hch hm' hn
    have hsz' := hm.lt (p := (l, .loop rc)) (List.mem_cons_self ..)
    simp only at hsz'
    have hmt : Mem w (MT k x Mp) := (hm.sub (List.sublist_cons_self _ _)).sub (List.sublist_append_right _ _)
    rw [hsplit] at hm
    obtain ⟨m', rfl, h1, h2, h3, -⟩ := upd_step (S := S) (w0 := w0) (G := top) (m := Mp) (T := fun _ q => q = Mp') (u := .bool true) (hm.perm List.perm_append_comm) (fun p hq => (hp p hq).2) (fun p hq hlt => by
      rcases (hp p hq).1 with z | ⟨q, hq2, e⟩
      · omega
      · rw [← e] at hlt ⊢; exact hS0 q hq2 hlt) hc trivial ⟨hch, Mp', rfl, hm', fun p hq => (hn p hq).1⟩
    have h5 : Mem w' ((l, .loop rc) :: (Dl ++ MT k x m')) := by rw [hsplit]; exact h2.perm List.perm_append_comm
    refine ⟨⟨x, h5, h3, hGU k x Mp m' w w' hg hmt ((h5.sub (List.sublist_cons_self _ _)).sub (List.sublist_append_right _ _)) hch hn (fun p hq => (hp p hq).2) hI, hI⟩, fun p hq => ⟨?_, (hn p hq).2⟩⟩
    rcases (hn p hq).1 with h | ⟨q, hq2, e⟩
    · exact .inl (by omega)
    · rw [← e]; exact (hp q hq2).1
  · rintro k Mp w1 w2 ⟨⟨x, hm, hc, hg, hI⟩, hp⟩ hb
    refine ⟨⟨x, keep w1 w2 _ hb hm (hlow _ _ (fun p hpm => ?_)), keepC w1 w2 hb hc, hGG k x Mp w1 w2 hg (hb.mono (by omega)), hI⟩, hp⟩
    rw [hMT k x Mp] at hpm
    rcases List.mem_append.1 hpm with hpm | hpm
    · exact hMM k x hI p hpm
    · exact .inr (hp p hpm).2
  · rintro w1 w2 ⟨c, z, hm, hc, hg, hI, hj⟩ hb
    exact ⟨c, z, keep w1 w2 _ hb hm (hlow _ _ (hMX c z hI)), keepC w1 w2 hb hc, hGX z w1 w2 hg (hb.mono (by omega)), hI, hj⟩
  · rintro k av Mp w1 hav hT ⟨⟨x, hm, hc, hg, hI⟩, hp⟩
    have hl1 := hm.get (i := 0) rfl
    refine YR.of_body hst hpe (by rw [hpar]; exact hA k av hav) hl1 ?_
    rw [hass, hbod, hpar, htm]
    have hfr : Fr N (parE (ps.toList.zip av.toList) e) { tmps := (ps.zip av).foldl (fun t (p, v) => t.setIfInBounds p v) a.tmps, defers := [] } := by
      rw [← Array.foldl_toList, Array.toList_zip]
      refine fr_par _ e a.tmps ?_ ⟨hf.1, hf.2⟩
      rw [List.all_eq_true]
      intro p hp
      have : p.1 ∈ ps := Array.mem_def.2 (List.of_mem_zip hp).1
      exact Array.all_eq_true_iff_forall_mem.1 hps _ this
    refine wpIn_mono (hbody k av x w1 Mp hav hT (hown Mp hp) hI w1 hm hc ⟨hg, .refl _ _⟩ _ hfr rfl) ?_
    intro x1 a1 w2 hq
    cases x1 with
    | normal =>
      obtain ⟨h1, h2⟩ := hq
      refine ⟨h1, wpIn_mono h2 (fun x2 a2 w3 hq => ?_)⟩
      have fin : ∀ (o' : Obj) (Mx : Mem0), wlk o' = true → Mem w3 ((l, .loop (busyOf rc)) :: Mx) → Chg S w0 w3 → KW W.heap.size w1 w3 →
          w3.heap[l]? = some (.loop (busyOf rc)) ∧ Mem (w3.putObj l o') ((l, o') :: Mx) ∧ Chg S w0 (w3.putObj l o') ∧ KW W.heap.size w1 (w3.putObj l o') ∧ Bk m w3 (w3.putObj l o') := fun o' Mx ho hm3 hc3 hk3 => by
        have h3 := hm3.get (i := 0) rfl
        refine ⟨h3, hm3.set (i := 0) rfl (World.putObj_heap_same (Array.getElem?_eq_some_iff.1 h3).1) (chg_put _), hc3.step (chg_put _) (fun q hq hql => by subst hql; omega), ?_, Bk.put h3 hml rfl ho⟩
        exact ⟨hk3.os, hk3.tape, hk3.output, by simpa using hk3.size, fun b o hn hb hw => by rw [World.putObj_heap_other (by omega)]; exact hk3.same b o hn hb hw⟩
      cases x2 with
      | normal =>
        obtain ⟨y, hm3, hc3, ⟨hg3, hk3⟩, hI3⟩ := hq
        obtain ⟨p1, p2, p3, p4, p5⟩ := fin (.loop rc) _ rfl hm3 hc3 hk3
        exact ⟨p1, .inl ⟨rfl, ⟨y, p2, p3, hGG _ _ _ _ _ hg3 p5, hI3⟩, hp⟩, p4⟩
      | ret =>
        obtain ⟨z, hm3, hc3, ⟨hg3, hk3⟩, hI3⟩ := hq
        obtain ⟨p1, p2, p3, p4, p5⟩ := fin (.loop (doneOf rc .ret)) _ rfl hm3 hc3 hk3
        exact ⟨p1, .inr ⟨rfl, .ret, z, p2, p3, hGX _ _ _ hg3 p5, hI3, .inl rfl⟩, p4⟩
      | exit id =>
        obtain ⟨z, hm3, hc3, ⟨hg3, hk3⟩, hI3⟩ := hq
        obtain ⟨p1, p2, p3, p4, p5⟩ := fin (.loop (doneOf rc (.exit id))) _ rfl hm3 hc3 hk3
        exact ⟨p1, .inr ⟨rfl, .exit id, z, p2, p3, hGX _ _ _ hg3 p5, hI3, .inr ⟨id, rfl⟩⟩, p4⟩
      | _ => exact hq.elim
    | _ => exact hq.elim
theorem wpM.rangeS (hE : Enters P gf) (hg : ev e g = some (.func (.func gf) #[] lb)) (hseq : SeqCS P gf lb A Rd mp0 T fin)
    (MT : Nat → α → Mem0 → Mem0) (hMT : ∀ k x Mp, MT k x Mp = MT k x [] ++ Mp) (GG : Nat → α → Mem0 → World → Prop) (I : Nat → α → Prop) (MX : β → Mem0) (GX : β → World → Prop) (IX : Code → β → Prop) (x0 : α)
    (hM0 : MT 0 x0 mp0 = M) (hG0 : ∀ w, G w → GG 0 x0 mp0 w) (hI0 : I 0 x0) (hps : ps.all (fun p => Nat.blt p N) = true) (hA : ∀ (k : Nat) (av : Array Value), A[k]? = some av → av.size = ps.size)
    (hw0 : ∀ p ∈ mp0, wlk p.2 = false) (hS0 : ∀ p ∈ mp0, p.1 < w0.heap.size → S p.1)
    (hfin : fin ∨ ∀ x, ¬ I A.length x)
    (hrd : ∀ k x Mp w, Mem w (MT k x Mp) → Chg S w0 w → GG k x Mp w → I k x → Rd w)
    (hGU : ∀ k x Mp Mp' w w', GG k x Mp w → Mem w (MT k x Mp) → Mem w' (MT k x Mp') → Chg (fun b => ∃ q ∈ Mp, q.1 = b) w w' → (∀ p ∈ Mp', (w.heap.size ≤ p.1 ∨ ∃ q ∈ Mp, q.1 = p.1) ∧ wlk p.2 = false) → (∀ p ∈ Mp, wlk p.2 = false) → I k x → GG k x Mp' w')
    (hGG : ∀ w, G w → ∀ k x Mp, Gl w.heap.size (GG k x Mp)) (hGX : ∀ w, G w → ∀ z, Gl w.heap.size (GX z))
    (hMM : ∀ k x, I k x → ∀ p ∈ MT k x [], p ∈ MT 0 x0 mp0 ∨ wlk p.2 = false) (hMX : ∀ c z, IX c z → ∀ p ∈ MX z, p ∈ MT 0 x0 mp0 ∨ wlk p.2 = false)
    (hbody : ∀ k av x l D rc n W1 Mp, (∃ w, G w ∧ w.heap.size ≤ n) → w0.heap.size ≤ D → w0.heap.size ≤ l → (∀ k x Mp, Pl l rc (fun w => GG k x Mp w ∧ KW n W1 w)) → rc.defers = D → A[k]? = some av → T (k + 1) Mp → (∀ p ∈ Mp, (w0.heap.size ≤ p.1 ∨ ∃ q ∈ mp0, q.1 = p.1) ∧ wlk p.2 = false) → I k x →
      wpM P (some l) N assign (Exit.then (asK P l rc body (rdQ l rc [(D, .deferred (some []))] S w0 (KW n W1) (fun y => MT (k + 1) y Mp) (fun y => GG (k + 1) y Mp) (I (k + 1)) MX GX IX)) never)
      (parE (ps.toList.zip av.toList) e) [] ((l, .loop rc) :: ([(D, .deferred (some []))] ++ MT k x Mp)) S w0 (fun w => GG k x Mp w ∧ KW n W1 w))
    (hdone : ∀ x Mp D, w0.heap.size ≤ D → T A.length Mp → (∀ p ∈ Mp, (w0.heap.size ≤ p.1 ∨ ∃ q ∈ mp0, q.1 = p.1) ∧ wlk p.2 = false) → I A.length x → QM N Q .normal e (D :: ds) ([(D, .deferred (some []))] ++ MT A.length x Mp) S w0 (GG A.length x Mp))
    (hret : ∀ z D, w0.heap.size ≤ D → IX .ret z → QM N Q .ret e (D :: ds) ([(D, .deferred (some []))] ++ MX z) S w0 (GX z))
    (hexit : ∀ id z D, w0.heap.size ≤ D → IX (.exit id) z → QM N Q (.exit id) e (D :: ds) ([(D, .deferred (some []))] ++ MX z) S w0 (GX z)) :
    wpM P none N (.rangeFunc g ps assign body) Q e ds M S w0 G := fun w hm hc hgw a hf hd => by
  refine wpIn_rangeFunc ?_
  intro fn _
  have hbk : Bk w.heap.size w ((w.alloc (.deferred (some []))).alloc (.loop (recOf fn a.tmps ps assign body w.heap.size))) := (Ext.bk (chg_alloc w _)).trans (Ext.bk (chg_alloc _ _))
  have hm1 : Mem ((w.alloc (.deferred (some []))).alloc (.loop (recOf fn a.tmps ps assign body w.heap.size))) ((w.heap.size + 1, .loop (recOf fn a.tmps ps assign body w.heap.size)) :: ([(w.heap.size, .deferred (some []))] ++ MT 0 x0 mp0)) := by
    rw [hM0]
    have := ((hm.alloc (.deferred (some []))).alloc (.loop (recOf fn a.tmps ps assign body w.heap.size)))
    rwa [World.size_alloc] at this
  generalize hW : (w.alloc (.deferred (some []))).alloc (.loop (recOf fn a.tmps ps assign body w.heap.size)) = W at *
  have hsz : W.heap.size = w.heap.size + 2 := by rw [← hW]; simp
  have h0 := hc.size
  have hcW : Chg S w0 W := hc.step hbk.chg (fun x hx hn => by omega)
  refine ⟨w.heap.size + 1, [mark w.heap.size], W, _, W, gf, #[.func (.yield (w.heap.size + 1)) #[] #[]] ++ lb, W, ?_, run_rangeCall hf hg _ _, fun _ _ => trivial, ?_, fun h => (by cases h), ?_⟩
  · rw [← hW]; exact run_enterLoop_outer fn a.tmps ps assign body
  · exact hE _ _
  · refine range_end (α := α × Mem0) (rc := recOf fn a.tmps ps assign body w.heap.size) (ds' := w.heap.size :: ds) (MM := fun k z => MT k z.1 z.2) (GG := fun k z => GG k z.1 z.2) (I := fun k z => I k z.1 ∧ T k z.2 ∧ ∀ p ∈ z.2, (w0.heap.size ≤ p.1 ∨ ∃ q ∈ mp0, q.1 = p.1) ∧ wlk p.2 = false) (MX := MX) (GX := GX) (IX := IX) rfl rfl (by omega) ⟨hf.1, hf.2⟩ (by unfold Dm at *; simp [hd, mark]) (fun k x w1 w2 g b => hGG w hgw k x.1 x.2 w1 w2 g (b.mono (by omega))) (fun z w1 w2 g b => hGX w hgw z w1 w2 g (b.mono (by omega)))
      (range_coreS hf (l := w.heap.size + 1) (D := w.heap.size) (m := w.heap.size) (fn := fn) (Dl := [(w.heap.size, .deferred (some []))]) (W := W) (by omega) (by omega) (by omega)
      (fun p hp => by simp at hp; subst hp; simp only; omega) hseq MT hMT GG I MX GX IX x0 hA hps hm1 hcW
      (hGG w hgw 0 x0 mp0 _ _ (hG0 w hgw) hbk) hI0 hw0 hS0 hfin hrd hGU (hGG w hgw) (hGX w hgw)
      (fun k x hI p hp => (hMM k x hI p hp).imp (fun h => by rw [hM0] at h; have := hm.lt h; omega) id) (fun c z hI p hp => (hMX c z hI p hp).imp (fun h => by rw [hM0] at h; have := hm.lt h; omega) id)
      (fun k av x W1 Mp hav hT hin hI => hbody k av x _ _ _ _ W1 Mp ⟨w, hgw, by omega⟩ h0 (by omega) (fun k x Mp v hv hl => ⟨hGG w hgw k x Mp _ _ hv.1 (Bk.put hl (by omega) rfl rfl), hv.2.put (by omega) _⟩) rfl hav hT hin hI))
      (fun x hI => hdone x.1 x.2 _ h0 hI.2.1 hI.2.2 hI.1) (fun z hI => hret z _ h0 hI) (fun id z hI => hexit id z _ h0 hI)
end range
end Go.Eng
namespace Go.Eng
open Go Go.RowKit
abbrev bs (l : List UInt8) : ByteArray := ⟨l.toArray⟩
section
variable {P : Program} {ty : TypeId} {e : Env} {t u : TypeId} {x y lo hi : Operand} {l a b : List UInt8}
end
end Go.Eng
namespace Go.Eng
open Go Go.RowKit
section
variable {P : Program} {r : Option Nat} {N : Nat} {Q : Exit → Act → World → Prop} {e : Env} {ds : List Nat} {M : Mem0} {S : Nat → Prop} {w0 : World} {G : World → Prop}
variable {ops : Array Oper} {l : List Oper} {op : Op} {ty : TypeId} {pos : String} {after : Array Edge} {d : Nat}
end
end Go.Eng
namespace Go.Eng
open Go Go.RowKit
theorem run_append_empty {P : Program} (w : World) (t ty E : TypeId) (inf : TypeInfo) (hU : P.underlying t = some (.slice E)) (hI : P.info? E = some inf) (base ad : Option Addr) (n cap cy : Nat) (h : n ≤ cap) :
    (Builtin.append_ #[t, t] ty #[.slice base n cap, .slice ad 0 cy]).run P w = .ok (.slice base n cap) w := by
  have hf : (Builtin.firstCells inf.size 0 (.slice ad 0 cy)).run P w = .ok #[] w := by
    cases ad with
    | none => simp [Builtin.firstCells]
    | some a => exact run_firstCells_some w inf.size 0 a 0 cy [] (by simp) (fun j v hj => by simp at hj)
  have hs : (sizeOf E).run P w = .ok inf.size w := by simp [sizeOf, typeInfo, hI]
  cases base with
  | none => simp [Builtin.append_, run_underlying hU, hs, Builtin.lenOf, hf, h]
  | some b => simp [Builtin.append_, run_underlying hU, hs, Builtin.lenOf, hf, h, storeCells]
theorem flat_cells {α : Type} {f : α → List Value} {s : Nat} (hf : ∀ a, (f a).length = s) (hs : 0 < s) {ys : List α} {j : Nat} {u : Value} (h : (ys.flatMap f)[j]? = some u) : ∃ i a k, ys[i]? = some a ∧ k < s ∧ j = i * s + k ∧ (f a)[k]? = some u := by
  have hj : j < ys.length * s := by
    have := (List.getElem?_eq_some_iff.1 h).1
    rwa [flatMap_len hf] at this
  have hi : j / s < ys.length := (Nat.div_lt_iff_lt_mul hs).2 hj
  have e : j = j / s * s + j % s := by rw [Nat.mul_comm]; exact (Nat.div_add_mod j s).symm
  have hk : j % s < s := Nat.mod_lt _ hs
  refine ⟨j / s, ys[j / s], j % s, List.getElem?_eq_getElem hi, hk, e, ?_⟩
  rw [← flatMap_get hf ys (j / s) (j % s) _ (List.getElem?_eq_getElem hi) hk, ← e]; exact h
section
variable {P : Program} {r : Option Nat} {N : Nat} {Q : Exit → Act → World → Prop} {e : Env} {ds : List Nat} {M : Mem0} {S : Nat → Prop} {w0 : World} {G : World → Prop}
variable {ops : Array Oper} {l : List Oper} {ty : TypeId} {pos : String} {after : Array Edge} {d : Nat} {x y : Operand} {t : TypeId}
theorem LM.appN [GT G] {α : Type} {f : α → List Value} {E s n0 : Nat} {inf : TypeInfo} {z : Value} {xs ys : List α} {v : Value} {m M2 : Mem0} {ad : Option Addr} {ny c : Nat}
    (hU : P.underlying t = some (.slice E)) (hI : ∀ w, (typeInfo E).run P w = .ok inf w) (hz : inf.zero = some z) (hs : inf.size = s) (hs0 : Nat.blt 0 s = true) (hzs : z.cells.size = s) (hd : Nat.blt d N = true)
    (hx : ev e x = some v) (hy : ev e y = some (.slice ad ny c)) (hsl : Sl f E s n0 xs v m) [h2 : Spl M m M2] (hr : ∀ w, Mem w M → Chg S w0 w → G w → Sr f s ys (.slice ad ny c) w)
    (hf : ∀ a, (f a).length = s) (hone : ∀ a, ∀ u ∈ f a, one u = true) (hn0 : n0 ≤ w0.heap.size) (hSm : ∀ p ∈ m, p.1 < w0.heap.size → S p.1) (hlen : xs.length + ys.length ≤ maxLen) (hbytes : (xs.length + ys.length) * inf.bytes ≤ 140737488355328)
    (h : ∀ ad n cap m', n = xs.length + ys.length → Sl f E s n0 (xs ++ ys) (.slice ad n cap) m' → (∀ p ∈ m', w0.heap.size ≤ p.1 ∨ ∃ q ∈ m, q.1 = p.1) → LM P r N ops Q l ((d, .slice ad n cap) :: e) ds (m' ++ M2) S w0 G) :
    LM P r N ops Q (⟨some d, .call { callee := .builtin .append, args := #[x, y], argTypes := #[t, t] }, ty, pos, after, none⟩ :: l) e ds M S w0 G := fun w hm hc hg => by
  have hs0 : 0 < s := Nat.le_of_ble_eq_true hs0
  have hinf := info_of hI
  have hsr := hr w hm hc hg
  have hm2 : Mem w (m ++ M2) := hm.perm h2.perm
  obtain ⟨rfl, -, hop⟩ := hsr.open
  have h' : ∀ v' m', Sl f E s n0 (xs ++ ys) v' m' → (∀ p ∈ m', w0.heap.size ≤ p.1 ∨ ∃ q ∈ m, q.1 = p.1) → LM P r N ops Q l ((d, v') :: e) ds (m' ++ M2) S w0 G := fun v' m' hsl' hin => by
    obtain ⟨ad, cap, rfl⟩ := hsl'.form
    exact h ad _ cap m' (by simp) hsl' hin
  have step : ∀ (v' : Value) (w' : World), (Builtin.append_ #[t, t] ty #[v, .slice ad ys.length c]).run P w = .ok v' w' → 
      (LE P r N ops Q l ((d, v') :: e) ds w') → LE P r N ops Q (⟨some d, .call { callee := .builtin .append, args := #[x, y], argTypes := #[t, t] }, ty, pos, after, none⟩ :: l) e ds w := fun v' w' hr hl =>
    LE.val (fun ρ hρ _ _ _ _ => by simp [execOp, resolve, invoke, builtin, hρ x _ hx, hρ y _ hy, hr, Result.andThen]) hl rfl hd
  by_cases hy0 : ys.length = 0
  · obtain rfl : ys = [] := List.eq_nil_of_length_eq_zero hy0
    have hv : ∃ b n cp, v = .slice b n cp ∧ n ≤ cp := by
      rcases hsl with ⟨rfl, _, _⟩ | ⟨b, cap, junk, _, rfl, _, hle, _, _⟩
      · exact ⟨_, _, _, rfl, Nat.le_refl _⟩
      · exact ⟨_, _, _, rfl, hle⟩
    obtain ⟨b, n, cp, rfl, hle⟩ := hv
    exact step _ _ (run_append_empty w t ty E inf hU hinf b ad n cp c hle) (h' _ m (by simpa using hsl) (fun p hp => .inr ⟨p, hp, rfl⟩) w hm2 hc hg)
  obtain ⟨bx, off, cs, F, fz, rfl, hbx, hcs⟩ := hop (by omega)
  have hfl : (ys.flatMap f).length = ys.length * inf.size := by rw [flatMap_len hf, hs]
  have hnews : ∀ j u, (ys.flatMap f)[j]? = some u → w.cell? ((⟨bx, off, none⟩ : Addr).add j) = some u := fun j u hj => by
    obtain ⟨i, a, k, h1, h2, h3, h4⟩ := flat_cells hf hs0 hj
    have := hcs i a h1 k h2
    rw [← h3, h4] at this
    rw [Addr.add_lit]; simp [World.cell?, hbx]; exact this
  have hone' : ∀ u ∈ ys.flatMap f, one u = true := fun u hu => by
    obtain ⟨a, _, hu⟩ := List.mem_flatMap.1 hu
    exact hone a u hu
  rcases hsl with ⟨rfl, rfl, rfl⟩ | ⟨b, cap, junk, hb, rfl, rfl, hle, hmax, hsz⟩
  · -- nil
    simp only [List.length_nil, Nat.zero_add] at hlen hbytes
    have hr := run_append_nil (P := P) w t ty E inf z hU hinf hz ⟨bx, off, none⟩ ys.length c (ys.flatMap f) hfl hnews (by omega) (by unfold maxLen at hlen; omega) (by omega)
    refine step _ _ hr ?_
    obtain ⟨k, hk, hk1⟩ : ∃ k, grownCap w ys.length 0 E = k ∧ ys.length ≤ k ∧ k ≤ maxLen := ⟨_, rfl, grownCap_ge w _ 0 E, grownCap_le_maxLen w _ 0 E hlen⟩
    rw [hk]
    refine h' _ [(w.heap.size, .cells (arr f ([] ++ ys) (Builtin.zeroCells z.cells (k - ys.length)).toList) E (0, 0))] (.inr ⟨w.heap.size, k, (Builtin.zeroCells z.cells (k - ys.length)).toList, Nat.le_trans hn0 hc.size, rfl, rfl, by simpa using hk1.1, hk1.2, ?_⟩) (fun p hp => by rw [List.mem_singleton] at hp; subst hp; exact .inl hc.size) _ ?_ ?_ ?_
    · simp only [List.nil_append, Array.length_toList, size_zeroCells, hzs]
      rw [Nat.sub_mul]; have : ys.length * s ≤ k * s := Nat.mul_le_mul_right _ hk1.1
      omega
    · have e1 : (Obj.cells ((ys.flatMap f).toArray ++ Builtin.zeroCells z.cells (k - ys.length)) E) = .cells (arr f ([] ++ ys) (Builtin.zeroCells z.cells (k - ys.length)).toList) E (0, 0) := by
        congr 1; apply Array.ext'; simp [arr]
      rw [e1]
      exact (hm2.ext (Chg.drew no w)).alloc _
    · exact (hc.step (Chg.drew no w) (fun _ _ q => q.elim)).step (chg_alloc w.drew _) (fun _ _ q => q.elim)
    · exact GS.ext w.drew _ (GS.ext w _ hg (Chg.drew no w)) (chg_alloc w.drew _)
  · have hbw := hm2.get (i := 0) rfl
    have hsize : (arr f xs junk).size = cap * s := by simp [arr, flatMap_len hf, hsz]
    by_cases hroom : xs.length + ys.length ≤ cap
    · have hmul : (xs.length + ys.length) * s ≤ cap * s := Nat.mul_le_mul_right _ hroom
      rw [Nat.add_mul] at hmul
      have hr := run_append_room (P := P) w t ty E inf hU hinf b xs.length cap (arr f xs junk) hbw ⟨bx, off, none⟩ ys.length c (ys.flatMap f) hfl hnews (fun u hu => hone' u hu) hroom (by rw [hs, flatMap_len hf, hsize]; exact hmul)
      refine step _ _ hr ?_
      rw [hs, flatMap_len hf]
      have e1 : (((arr f xs junk).toList.take (xs.length * s) ++ ys.flatMap f ++ (arr f xs junk).toList.drop (xs.length * s + ys.length * s)).toArray) = arr f (xs ++ ys) (junk.drop (ys.length * s)) := by
        apply Array.ext'
        have hl := flatMap_len hf xs
        simp only [arr, List.flatMap_append]
        rw [← hl, List.take_left, List.drop_append, List.drop_eq_nil_of_le (by omega), List.nil_append, Nat.add_sub_cancel_left]
      rw [e1]
      have hset : (w.setRow b (arr f (xs ++ ys) (junk.drop (ys.length * s)))).heap[b]? = some (.cells (arr f (xs ++ ys) (junk.drop (ys.length * s))) E (0, 0)) := by
        obtain ⟨hlt, hk⟩ := Array.getElem?_eq_some_iff.1 hbw
        show (w.heap.modify b _)[b]? = _
        rw [Array.getElem?_eq_getElem (by rw [Array.size_modify]; exact hlt), Array.getElem_modify_self, hk]
      have hchg : Chg (fun x => x = b) w (w.setRow b (arr f (xs ++ ys) (junk.drop (ys.length * s)))) := ⟨rfl, rfl, rfl, by simp [World.setRow], fun k _ hn => by
        simp only [World.setRow, Array.getElem?_modify]; rw [if_neg (Ne.symm hn)]⟩
      refine h' _ [(b, .cells (arr f (xs ++ ys) (junk.drop (ys.length * s))) E (0, 0))] (.inr ⟨b, cap, junk.drop (ys.length * s), hb, by simp, rfl, by simpa using hroom, hmax, ?_⟩) (fun p hp => by rw [List.mem_singleton] at hp; subst hp; exact .inr ⟨_, List.mem_singleton.2 rfl, rfl⟩) _ ?_ ?_ ?_
      · simp only [List.length_append, List.length_drop, Nat.add_mul]; omega
      · exact hm2.set (i := 0) rfl hset hchg
      · exact hc.step hchg (fun k hk hkb => by subst hkb; exact hSm _ (List.mem_singleton.2 rfl) hk)
      · exact GT.chg _ w _ hg hchg (.one hchg hbw rfl)
    · have holds : ∀ j u, (xs.flatMap f)[j]? = some u → w.cell? ((⟨b, 0, none⟩ : Addr).add j) = some u := fun j u hj => by
        have hj2 : j < (xs.flatMap f).length := (List.getElem?_eq_some_iff.1 hj).1
        rw [add_off]; simp [World.cell?, hbw, arr, List.getElem?_append_left hj2, hj]
      have hr := run_append_grow (P := P) w t ty E inf z hU hinf hz ⟨b, 0, none⟩ xs.length cap (xs.flatMap f) (by rw [flatMap_len hf, hs]) holds ⟨bx, off, none⟩ ys.length c (ys.flatMap f) hfl hnews (by omega) (by unfold maxLen at hlen; omega) (growslice_fits (by omega) hbytes)
      refine step _ _ hr ?_
      obtain ⟨k, hk, hk1⟩ : ∃ k, grownCap w (xs.length + ys.length) cap E = k ∧ xs.length + ys.length ≤ k ∧ k ≤ maxLen := ⟨_, rfl, grownCap_ge w _ cap E, grownCap_le_maxLen w _ cap E hlen⟩
      rw [hk]
      refine h' _ [(w.heap.size, .cells (arr f (xs ++ ys) (Builtin.zeroCells z.cells (k - (xs.length + ys.length))).toList) E (0, 0))] (.inr ⟨w.heap.size, k, (Builtin.zeroCells z.cells (k - (xs.length + ys.length))).toList, Nat.le_trans hn0 hc.size, by simp, rfl, by simpa using hk1.1, hk1.2, ?_⟩) (fun p hp => by rw [List.mem_singleton] at hp; subst hp; exact .inl hc.size) _ ?_ ?_ ?_
      · simp only [List.length_append, Array.length_toList, size_zeroCells, hzs]
        rw [Nat.sub_mul]
        have : (xs.length + ys.length) * s ≤ k * s := Nat.mul_le_mul_right _ hk1.1
        omega
      · have e1 : (Obj.cells ((xs.flatMap f).toArray ++ (ys.flatMap f).toArray ++ Builtin.zeroCells z.cells (k - (xs.length + ys.length))) E) = .cells (arr f (xs ++ ys) (Builtin.zeroCells z.cells (k - (xs.length + ys.length))).toList) E (0, 0) := by
          congr 1; apply Array.ext'; simp [arr]
        rw [e1]
        have hm3 : Mem w M2 := by simpa using hm2.tail
        exact (hm3.ext (Chg.drew no w)).alloc _
      · exact (hc.step (Chg.drew no w) (fun _ _ q => q.elim)).step (chg_alloc w.drew _) (fun _ _ q => q.elim)
      · exact GS.ext w.drew _ (GS.ext w _ hg (Chg.drew no w)) (chg_alloc w.drew _)
end
end Go.Eng
namespace Go.Eng
open Go Go.RowKit
theorem Sl.pre0 {α : Type} {f : α → List Value} {E s n0 : Nat} {xs : List α} {ad : Option Addr} {n cap : Nat} {m : Mem0} (h : Sl f E s n0 xs (.slice ad n cap) m) (hf : ∀ a, (f a).length = s) {k : Nat} (hk : k ≤ xs.length) : Sl f E s n0 (xs.take k) (.slice ad k cap) m := by
  rcases h with ⟨h1, h2, h3⟩ | ⟨b, c, junk, hb, hv, rfl, hle, hmax, hsz⟩
  · subst h3; simp at hk; subst hk
    cases h1
    exact .inl ⟨rfl, h2, rfl⟩
  · cases hv
    have e : (xs.take k).length = k := by rw [List.length_take]; omega
    refine .inr ⟨b, cap, (xs.drop k).flatMap f ++ junk, hb, by rw [e], ?_, by omega, hmax, ?_⟩
    · congr 2
      unfold arr; rw [← List.append_assoc, ← List.flatMap_append, List.take_append_drop]
    · have h3 : (xs.drop k).length = xs.length - k := List.length_drop
      have e2 : xs.length * s = k * s + (xs.length - k) * s := by rw [← Nat.add_mul]; congr 1; omega
      rw [e, List.length_append, flatMap_len hf, h3]; omega
section
variable {P : Program} {r : Option Nat} {N : Nat} {Q : Exit → Act → World → Prop} {e : Env} {ds : List Nat} {M : Mem0} {S : Nat → Prop} {w0 : World} {G : World → Prop}
variable {ops : Array Oper} {l : List Oper} {ty : TypeId} {pos : String} {after : Array Edge} {d : Nat} {x y : Operand} {t : TypeId}
theorem LM.appDel [GT G] {α : Type} {f : α → List Value} {E s n0 : Nat} {inf : TypeInfo} {xs : List α} {m M2 : Mem0} {ad : Option Addr} {n cap : Nat} (i : Nat)
    (hU : P.underlying t = some (.slice E)) (hI : ∀ w, (typeInfo E).run P w = .ok inf w) (hs : inf.size = s) (hs0 : Nat.blt 0 s = true) (hd : Nat.blt d N = true)
    (hx : ev e x = some (.slice ad i cap)) (hy : ev e y = some (.slice (adLo ad (i + 1) cap s) (n - (i + 1)) (cap - (i + 1)))) (hsl : Sl f E s n0 xs (.slice ad n cap) m) [h2 : Spl M m M2]
    (hf : ∀ a, (f a).length = s) (hone : ∀ a, ∀ u ∈ f a, one u = true) (hi : i < xs.length) (hSm : ∀ p ∈ m, p.1 < w0.heap.size → S p.1)
    (h : ∀ n' m', n' = xs.length - 1 → Sl f E s n0 (xs.eraseIdx i) (.slice ad n' cap) m' → (∀ p ∈ m', ∃ q ∈ m, q.1 = p.1) → LM P r N ops Q l ((d, .slice ad n' cap) :: e) ds (m' ++ M2) S w0 G) :
    LM P r N ops Q (⟨some d, .call { callee := .builtin .append, args := #[x, y], argTypes := #[t, t] }, ty, pos, after, none⟩ :: l) e ds M S w0 G := fun w hm hc hg => by
  have hs0 : 0 < s := Nat.le_of_ble_eq_true hs0
  have hinf := info_of hI
  have hm2 : Mem w (m ++ M2) := hm.perm h2.perm
  have step : ∀ (v' : Value) (w' : World), (Builtin.append_ #[t, t] ty #[.slice ad i cap, .slice (adLo ad (i + 1) cap s) (n - (i + 1)) (cap - (i + 1))]).run P w = .ok v' w' → 
      (LE P r N ops Q l ((d, v') :: e) ds w') → LE P r N ops Q (⟨some d, .call { callee := .builtin .append, args := #[x, y], argTypes := #[t, t] }, ty, pos, after, none⟩ :: l) e ds w := fun v' w' hr hl =>
    LE.val (fun ρ hρ _ _ _ _ => by simp [execOp, resolve, invoke, builtin, hρ x _ hx, hρ y _ hy, hr, Result.andThen]) hl rfl hd
  have hnl := hsl.len
  by_cases hlast : i + 1 = xs.length
  · have e1 : n - (i + 1) = 0 := by omega
    rw [e1] at step
    refine step _ _ (run_append_empty w t ty E inf hU hinf ad _ i cap _ (by omega)) ?_
    have e2 : xs.eraseIdx i = xs.take i := by rw [List.eraseIdx_eq_take_drop_succ, List.drop_eq_nil_of_le (by omega), List.append_nil]
    have h3 := hsl.pre0 hf (k := i) (by omega)
    rw [← e2] at h3
    exact h i m (by omega) h3 (fun p hp => ⟨p, hp, rfl⟩) w hm2 hc hg
  · rcases hsl with ⟨_, _, h3⟩ | ⟨b, c, junk, hb, hv, rfl, hle, hmax, hsz⟩
    · subst h3; simp at hi
    · cases hv
      have had : adLo (some ⟨b, 0, none⟩) (i + 1) cap s = some ⟨b, (i + 1) * s, none⟩ := by
        unfold adLo; rw [if_neg (by omega)]; simp [Addr.add]; intro q; exact q.symm
      rw [had] at step
      have hbw := hm2.get (i := 0) rfl
      have hsize : (arr f xs junk).size = cap * s := by simp [arr, flatMap_len hf, hsz]
      have hdl : (xs.drop (i + 1)).length = xs.length - (i + 1) := List.length_drop
      have hfl : ((xs.drop (i + 1)).flatMap f).length = (xs.length - (i + 1)) * inf.size := by rw [flatMap_len hf, hs, hdl]
      have htk : (xs.take (i + 1)).length = i + 1 := by rw [List.length_take]; omega
      have hnews : ∀ j u, ((xs.drop (i + 1)).flatMap f)[j]? = some u → w.cell? ((⟨b, (i + 1) * s, none⟩ : Addr).add j) = some u := fun j u hj => by
        rw [add_off]
        simp only [World.cell?, hbw, arr, List.getElem?_toArray]
        have e3 : xs.flatMap f = (xs.take (i + 1)).flatMap f ++ (xs.drop (i + 1)).flatMap f := by rw [← List.flatMap_append, List.take_append_drop]
        rw [e3, List.append_assoc, List.getElem?_append_right (by rw [flatMap_len hf, htk]; omega), flatMap_len hf, htk, Nat.add_sub_cancel_left, List.getElem?_append_left (List.getElem?_eq_some_iff.1 hj).1]
        exact hj
      have hone' : ∀ u ∈ (xs.drop (i + 1)).flatMap f, one u = true := fun u hu => by
        obtain ⟨a, _, hu⟩ := List.mem_flatMap.1 hu
        exact hone a u hu
      have hmul : (xs.length - (i + 1)) * s + i * s + s ≤ cap * s := by
        have : (xs.length - (i + 1) + i + 1) * s ≤ cap * s := Nat.mul_le_mul_right _ (by omega)
        rw [Nat.add_mul, Nat.add_mul] at this; omega
      have hr := run_append_room (P := P) w t ty E inf hU hinf b i cap (arr f xs junk) hbw ⟨b, (i + 1) * s, none⟩ (xs.length - (i + 1)) (cap - (i + 1)) ((xs.drop (i + 1)).flatMap f) hfl hnews (fun u hu => hone' u hu) (by omega) (by rw [hs, flatMap_len hf, hsize, hdl]; omega)
      refine step _ _ hr ?_
      rw [hs, flatMap_len hf, hdl]
      have e1 : (((arr f xs junk).toList.take (i * s) ++ (xs.drop (i + 1)).flatMap f ++ (arr f xs junk).toList.drop (i * s + (xs.length - (i + 1)) * s)).toArray) = arr f (xs.eraseIdx i) ((arr f xs junk).toList.drop (i * s + (xs.length - (i + 1)) * s)) := by
        apply Array.ext'
        have e3 : xs.flatMap f = (xs.take i).flatMap f ++ (xs.drop i).flatMap f := by rw [← List.flatMap_append, List.take_append_drop]
        have hl : ((xs.take i).flatMap f).length = i * s := by rw [flatMap_len hf, List.length_take, Nat.min_eq_left (by omega)]
        have e4 : (arr f xs junk).toList.take (i * s) = (xs.take i).flatMap f := by
          simp only [arr]; rw [e3, List.append_assoc, ← hl, List.take_left]
        rw [e4, List.eraseIdx_eq_take_drop_succ]
        simp only [arr, List.flatMap_append]
      rw [e1]
      have hset : ∀ cs, (w.setRow b cs).heap[b]? = some (.cells cs E (0, 0)) := fun cs => by
        obtain ⟨hlt, hk⟩ := Array.getElem?_eq_some_iff.1 hbw
        show (w.heap.modify b _)[b]? = _
        rw [Array.getElem?_eq_getElem (by rw [Array.size_modify]; exact hlt), Array.getElem_modify_self, hk]
      have hchg : ∀ cs, Chg (fun x => x = b) w (w.setRow b cs) := fun cs => ⟨rfl, rfl, rfl, by simp [World.setRow], fun k _ hn => by
        simp only [World.setRow, Array.getElem?_modify]; rw [if_neg (Ne.symm hn)]⟩
      have hel : (xs.eraseIdx i).length = xs.length - 1 := by rw [List.length_eraseIdx, if_pos hi]
      refine h (i + (xs.length - (i + 1))) [(b, .cells (arr f (xs.eraseIdx i) ((arr f xs junk).toList.drop (i * s + (xs.length - (i + 1)) * s))) E (0, 0))] (by omega) (.inr ⟨b, cap, _, hb, by rw [hel]; congr 1; omega, rfl, by omega, hmax, ?_⟩) (fun p hp => by rw [List.mem_singleton] at hp; subst hp; exact ⟨_, List.mem_singleton.2 rfl, rfl⟩) _ ?_ ?_ ?_
      · rw [hel, List.length_drop, show (arr f xs junk).toList.length = cap * s from hsize, ← Nat.add_mul, show i + (xs.length - (i + 1)) = xs.length - 1 by omega]
        have : (xs.length - 1) * s ≤ cap * s := Nat.mul_le_mul_right _ (by omega)
        omega
      · exact hm2.set (i := 0) rfl (hset _) (hchg _)
      · exact hc.step (hchg _) (fun k hk hkb => by subst hkb; exact hSm _ (List.mem_singleton.2 rfl) hk)
      · exact GT.chg _ w _ hg (hchg _) (.one (hchg _) hbw rfl)
end
end Go.Eng
namespace Go.Eng
open Go Go.RowKit
theorem fl_perm : ∀ (M : List Mem0) (i : Nat), i < M.length → M.flatten.Perm (M.getD i [] ++ (M.eraseIdx i).flatten)
  | [], i, h => by cases h
  | m :: M, 0, h => by simp
  | m :: M, i + 1, h => by
    have ih := fl_perm M i (Nat.lt_of_succ_lt_succ h)
    simp only [List.flatten_cons, List.getD_cons_succ, List.eraseIdx_cons_succ]
    refine (ih.append_left m).trans ?_
    rw [← List.append_assoc, ← List.append_assoc]
    exact List.perm_append_comm.append_right _
theorem fl_permS {M : List Mem0} {i : Nat} (h : i < M.length) (m' : Mem0) : (M.set i m').flatten.Perm (m' ++ (M.eraseIdx i).flatten) := by
  have h1 := fl_perm (M.set i m') i (by rw [List.length_set]; exact h)
  rw [List.getD_eq_getElem?_getD, List.getElem?_set, if_pos rfl, if_pos h, Option.getD_some] at h1
  have h2 : (M.set i m').eraseIdx i = M.eraseIdx i := by
    apply List.ext_getElem?
    intro j
    rw [List.getElem?_eraseIdx, List.getElem?_eraseIdx]
    split
    · rw [List.getElem?_set_ne (by omega)]
    · rw [List.getElem?_set_ne (by omega)]
  rw [h2] at h1; exact h1
theorem Upd.lift {mp rest m : Mem0} {T T' : Value → Mem0 → Prop} {w w' : World} {u : Value} (h : Upd mp T w u w') (hp : m.Perm (mp ++ rest)) (hm : Mem w m) (hwk : ∀ p ∈ mp, wlk p.2 = false)
    (hT : ∀ mp', T u mp' → ∃ m', T' u m' ∧ m'.Perm (mp' ++ rest)) : Upd m T' w u w' := by
  have hin : ∀ p ∈ mp, p ∈ m := fun p hp' => hp.mem_iff.2 (List.mem_append_left _ hp')
  obtain ⟨mp', h1, hnew, hM, hC, _⟩ := upd_step (G := top) (S := fun b => ∃ q ∈ m, q.1 = b) (w0 := w) (hm.perm hp) hwk (fun p hp' _ => ⟨p, hin p hp', rfl⟩) (Chg.refl _ _) trivial h
  obtain ⟨m', h2, h3⟩ := hT mp' h1
  refine ⟨hC, m', h2, hM.perm h3.symm, fun p hp' => ?_⟩
  rcases List.mem_append.1 (h3.mem_iff.1 hp') with q | q
  · exact (hnew p q).imp id (fun ⟨q', hq', e⟩ => ⟨q', hin q' hq', e⟩)
  · exact .inr ⟨p, hp.mem_iff.2 (List.mem_append_right _ q), rfl⟩
theorem Upd.liftD {mp rest m : Mem0} {T T' : Value → Mem0 → Prop} {w w' : World} {u : Value} (h : Upd mp T w u w') (hp : m.Perm (mp ++ rest)) (hm : Mem w m) (hwk : ∀ p ∈ mp, wlk p.2 = false)
    (hT : ∀ mp', T u mp' → ∃ m' gone, T' u m' ∧ (mp' ++ rest).Perm (m' ++ gone)) : Upd m T' w u w' := by
  have hin : ∀ p ∈ mp, p ∈ m := fun p hp' => hp.mem_iff.2 (List.mem_append_left _ hp')
  obtain ⟨mp', h1, hnew, hM, hC, _⟩ := upd_step (G := top) (S := fun b => ∃ q ∈ m, q.1 = b) (w0 := w) (hm.perm hp) hwk (fun p hp' _ => ⟨p, hin p hp', rfl⟩) (Chg.refl _ _) trivial h
  obtain ⟨m', gone, h2, h3⟩ := hT mp' h1
  refine ⟨hC, m', h2, (hM.perm h3).sub (List.sublist_append_left ..), fun p hp' => ?_⟩
  rcases List.mem_append.1 (h3.mem_iff.2 (List.mem_append_left _ hp')) with q | q
  · exact (hnew p q).imp id (fun ⟨q', hq', e⟩ => ⟨q', hin q' hq', e⟩)
  · exact .inr ⟨p, hp.mem_iff.2 (List.mem_append_right _ q), rfl⟩
theorem Mem.part {mp rest m : Mem0} {w : World} (hp : m.Perm (mp ++ rest)) (hm : Mem w m) : Mem w mp := (hm.perm hp).sub (List.sublist_append_left ..)
theorem Mem.part1 {a : Nat × Obj} {mp rest m : Mem0} {w : World} (hp : m.Perm (mp ++ rest)) (hm : Mem w (a :: m)) : Mem w (a :: mp) := (hm.perm (hp.cons a)).sub ((List.sublist_append_left ..).cons_cons a)
end Go.Eng
namespace Go.Eng
open Go Go.RowKit
section
variable {P : Program} {r : Option Nat} {N : Nat} {Q : Exit → Act → World → Prop} {e : Env} {ds : List Nat} {M : Mem0} {S : Nat → Prop} {w0 : World} {G : World → Prop}
variable {ops : Array Oper} {l : List Oper} {op : Op} {ty : TypeId} {pos : String} {after : Array Edge} {d : Nat}
end
end Go.Eng
namespace Go.Eng
open Go Go.RowKit Go.Lib Go.Sort
section
variable {P : Program} {r : Option Nat} {N : Nat} {Q : Exit → Go.Act → World → Prop} {e : Env} {ds : List Nat} {M : Mem0} {S : Nat → Prop} {w0 : World} {G : World → Prop}
variable {ops : Array Oper} {l : List Oper} {ty : TypeId} {pos : String} {after : Array Edge} {d : Nat} {x y : Operand} {t : TypeId}
end
section
variable {P : Program} {r : Option Nat} {N : Nat} {Q : Exit → Go.Act → World → Prop} {e : Env} {ds : List Nat} {M : Mem0} {S : Nat → Prop} {w0 : World} {G : World → Prop}
variable {ops : Array Oper} {l : List Oper} {ty : TypeId} {pos : String} {after : Array Edge} {d : Nat} {t : TypeId}
theorem LM.row0 [GS G] {E : TypeId} {s : Nat} (hU : P.underlying t = some (.slice E)) (hS : ∀ w, (sizeOf E).run P w = .ok s w) (hd : Nat.blt d N = true)
    (h : ∀ b, w0.heap.size ≤ b → LM P r N ops Q l ((d, .slice (some ⟨b, 0, none⟩) 0 0) :: e) ds ((b, .cells (([] : List Value).toArray) E (0, 0)) :: M) S w0 G) : LM P r N ops Q (⟨some d, .buildSlice t 0 #[], ty, pos, after, none⟩ :: l) e ds M S w0 G := fun w hm hc hg => by
  refine LE.val (w' := w.alloc (.cells ([] : List Value).toArray E)) (fun ρ hρ _ _ _ _ => ?_) (h w.heap.size hc.size _ (hm.alloc _) (hc.step (chg_alloc w _) (fun _ _ q => q.elim)) (GS.ext w _ hg (chg_alloc w _))) rfl hd
  simp [execOp, Instr.buildSlice, run_underlying hU, hS, Instr.fill, newRow, Result.andThen]
  rw [show (Array.range 0) = #[] by decide, Array.map_empty]
end
section
variable {P : Program} {r : Option Nat} {N : Nat} {Q : Exit → Go.Act → World → Prop} {e : Env} {ds : List Nat} {M : Mem0} {S : Nat → Prop} {w0 : World} {G : World → Prop}
variable {ops : Array Oper} {l : List (Nat × Nat)} {op : Op} {ty : TypeId} {pos : String} {after : Array Edge} {d i : Nat}
theorem LD.callT [GS G] {gd : Option (Nat × Bool)} {g : FuncId} {args : Array Value} {T : Nat → Value → Mem0 → Prop} (hi : ops[i]? = some ⟨some d, op, ty, pos, after, gd⟩) (hgd : Wtd ops e gd true) (hc : ∀ w, OpC P op ty e w g args) (hmono : ∀ n n' u m, n' ≤ n → T n u m → T n' u m)
    (h : ∀ w, Mem w M → Chg S w0 w → G w → Ret P g args w (fun u w' => Ext w w' ∧ ∃ m, T w.heap.size u m ∧ Mem w' m ∧ ∀ p ∈ m, w.heap.size ≤ p.1))
    (hk : ∀ u m, T w0.heap.size u m → (∀ p ∈ m, w0.heap.size ≤ p.1) → LD P r N ops Q l ((d, u) :: e) ds (M ++ m) S w0 G) (hnd : nd op = true := by rfl) (hd : Nat.blt d N = true := by rfl) :
    LD P r N ops Q ((i, 2) :: l) e ds M S w0 G :=
  .callG hi hgd hc (fun w hm hcg hg => h w hm hcg hg) (fun w u w' hm hcg hg ⟨he, m, hT, hm', hge⟩ => by
    refine ⟨M ++ m, fun w h => h.sub (List.sublist_append_left _ _), ⟨Mem.perm (M := m ++ M) ⟨?_, fun p hp => ?_⟩ List.perm_append_comm, hcg.step he (fun _ _ q => q.elim), GS.ext w w' hg he⟩, hk u m (hmono _ _ u m hcg.size hT) (fun p hp => Nat.le_trans hcg.size (hge p hp))⟩
    · rw [List.map_append]
      refine List.nodup_append.2 ⟨hm'.1, hm.1, ?_⟩
      intro x hx y hy hxy
      obtain ⟨p, hp, rfl⟩ := List.mem_map.1 hx
      obtain ⟨q, hq, rfl⟩ := List.mem_map.1 hy
      have := hge p hp
      have := hm.lt hq
      omega
    · rcases List.mem_append.1 hp with hp | hp
      · exact hm'.2 p hp
      · exact he.get (hm.2 p hp)) hnd hd
end
theorem Sl.void {α : Type} {f : α → List Value} {E s n0 b cap : Nat} {cs : List Value} (hb : n0 ≤ b) (hc : cap ≤ maxLen) (hl : cs.length = cap * s) : Sl f E s n0 ([] : List α) (.slice (some ⟨b, 0, none⟩) 0 cap) [(b, .cells cs.toArray E (0, 0))] :=
  .inr ⟨b, cap, cs, hb, rfl, by simp [arr], Nat.zero_le _, hc, by simpa using hl⟩
end Go.Eng
namespace Go.Eng
open Go Go.RowKit Go.ChangeShapes Go.WideShapes
section
variable {H : Type} {enc : TypeId × Value → H} {P : Program} {w : World} {base : Nat} {sp : Nat → Bool} {held : Bool} {t : TypeId} {fuel : Nat} {cs : List Value} {x : DataW H × List MemPlace}
theorem mapM_each {α β : Type} (f : α → Option β) : ∀ (l : List α) (ys : List β), l.mapM f = some ys → ∀ a ∈ l, ∃ y, f a = some y
  | [], _, _, a, h => by cases h
  | b :: l, ys, h, a, ha => by
    rw [List.mapM_cons] at h
    simp only [bind, Option.bind_eq_some_iff, pure, Option.some.injEq] at h
    obtain ⟨y, hy, zs, hz, _⟩ := h
    rcases List.mem_cons.1 ha with rfl | ha
    · exact ⟨y, hy⟩
    · exact mapM_each f l zs hz a ha
theorem trod_fields {fs : Array Field} (ht : P.underlying t = some (.struct fs)) (h : DataW.trod enc P w base sp held fuel t cs = some x) :
    cs.length = P.cellsOf t ∧ ∀ f ∈ fs.toList, ∃ n y, DataW.trod enc P w base sp held n f.type ((cs.drop f.offset).take (P.cellsOf f.type)) = some y := by
  cases fuel with
  | zero => simp [DataW.trod] at h
  | succ n =>
    rw [DataW.trod_step] at h
    unfold DataW.trodStep at h
    simp only [ht] at h
    split at h
    · rename_i hl
      simp only [Option.map_eq_some_iff] at h
      obtain ⟨ys, hy, _⟩ := h
      exact ⟨hl, fun f hf => ⟨n, mapM_each _ _ _ hy f hf⟩⟩
    · cases h
def Rdb (P : Program) (t : TypeId) {α : Type} (f : α → List Value) (ok : α → Prop) : Prop :=
  ∀ {H : Type} {enc : TypeId × Value → H} {w : World} {base : Nat} {sp : Nat → Bool} {held : Bool} {fuel : Nat} {cs : List Value} {x : DataW H × List MemPlace}, DataW.trod enc P w base sp held fuel t cs = some x → ∃ a, cs = f a ∧ ok a
theorem bv_of {n : Int} (h : 0 ≤ n ∧ n ≤ 18446744073709551615) : ∃ x : BitVec 64, n = (x.toNat : Int) := ⟨BitVec.ofInt 64 n, by rw [BitVec.toNat_ofInt]; simp; omega⟩
theorem open_sl {α : Type} {f : α → List Value} {ok : α → Prop} {e : TypeId} {s : Nat} (ht : P.underlying t = some (.slice e)) (he : Rdb P e f ok) (hs : P.cellsOf e = s) (hs0 : 0 < s) (hf : ∀ a, (f a).length = s)
    {ad : Option Addr} {len cap : Nat} {d : DataW H} {ps : List MemPlace} (h : DataW.Trod enc P w base sp held t (.slice ad len cap) d ps) :
    ∃ xs : List α, len = xs.length ∧ Sr f s xs (.slice ad xs.length cap) w ∧ (∀ a ∈ xs, ok a) ∧ xs.length ≤ maxLen := by
  obtain ⟨fuel, h⟩ := h
  rcases DataW.trod_slice ht h with ⟨h0, _⟩ | ⟨a, l, c, elems, rest, n, _, h0, _, _, hlc, hcm, hel, hE, _, _⟩
  · simp [Value.cells] at h0
    obtain ⟨rfl, rfl, rfl⟩ := h0
    exact ⟨[], rfl, .nil _ _ _, (fun a ha => absurd ha (by simp)), Nat.zero_le _⟩
  · simp [Value.cells] at h0
    obtain ⟨rfl, rfl, rfl⟩ := h0
    have each : ∀ i, i < len → ∃ b, ok b ∧ ∀ j, j < s → w.cell? (a.add (i * s + j)) = (f b)[j]? := fun i hi => by
      have h1 := hE i hi
      rw [hs] at h1
      obtain ⟨y, hy⟩ : ∃ y, elems[i]? = some y := ⟨_, List.getElem?_eq_getElem (by omega)⟩
      rw [hy, Option.bind_eq_some_iff] at h1
      obtain ⟨cs, hcs, htr⟩ := h1
      obtain ⟨b, rfl, hb⟩ := he htr
      refine ⟨b, hb, fun j hj => ?_⟩
      have := (World.cells?_some hcs).2.2 j hj
      rw [← this, Addr.add_add]
    obtain ⟨xs, hxl, hx⟩ : ∃ xs : List α, xs.length = len ∧ ∀ i b, xs[i]? = some b → ok b ∧ ∀ j, j < s → w.cell? (a.add (i * s + j)) = (f b)[j]? := by
      clear hE hel
      have : ∀ m, m ≤ len → ∃ xs : List α, xs.length = m ∧ ∀ i b, xs[i]? = some b → ok b ∧ ∀ j, j < s → w.cell? (a.add (i * s + j)) = (f b)[j]? := by
        intro m
        induction m with
        | zero => intro _; exact ⟨[], rfl, fun i b h => by simp at h⟩
        | succ m ih =>
          intro hm
          obtain ⟨xs, h1, h2⟩ := ih (by omega)
          obtain ⟨b, hb⟩ := each m (by omega)
          refine ⟨xs ++ [b], by simp [h1], fun i c hc => ?_⟩
          by_cases hi : i < m
          · rw [List.getElem?_append_left (by omega)] at hc; exact h2 i c hc
          · have hlt := (List.getElem?_eq_some_iff.1 hc).1
            simp [h1] at hlt
            have : i = m := by omega
            subst this
            rw [List.getElem?_append_right (by omega), h1, Nat.sub_self] at hc
            simp at hc; subst hc; exact hb
      exact this len (Nat.le_refl _)
    subst hxl
    refine ⟨xs, rfl, ⟨_, _, rfl, hlc, fun h0 => ?_⟩, fun b hb => ?_, by omega⟩
    · obtain ⟨b0, hb0⟩ : ∃ b, xs[0]? = some b := ⟨_, List.getElem?_eq_getElem h0⟩
      have h1 := (hx 0 b0 hb0).2 0 hs0
      have hfb : (f b0)[0]? = some ((f b0)[0]'(by rw [hf]; exact hs0)) := List.getElem?_eq_getElem _
      rw [hfb] at h1
      have hsp := World.cell?_spot h1
      obtain ⟨b, off, spot⟩ := a
      have : spot = none := by simpa [Addr.add] using hsp
      subst this
      have h2 := h1
      rw [add_off] at h2
      unfold World.cell? at h2
      simp only at h2
      split at h2
      · rename_i c E fz hb
        refine ⟨b, off, c, E, fz, rfl, hb, fun i a ha j hj => ?_⟩
        have h3 := (hx i a ha).2 j hj
        rw [add_off] at h3
        unfold World.cell? at h3
        simp only [hb] at h3
        rw [← h3]; rfl
      · cases h2
    · obtain ⟨i, hi⟩ := List.getElem?_of_mem hb
      exact (hx i b hi).1
end
end Go.Eng
namespace Go.Eng
open Go Go.RowKit
structure Wt where
  who : Int
  key : Int
  til : BitVec 64
deriving DecidableEq
instance : Inhabited Wt := ⟨⟨0, 0, 0#64⟩⟩
structure Lk where
  v : Wt
  tk : Int
  prev : Int
  next : Int
deriving DecidableEq
instance : Inhabited Lk := ⟨⟨default, 0, 0, 0⟩⟩
structure St where
  v : Lk
  on : Bool
  nx : Int
deriving DecidableEq
instance : Inhabited St := ⟨⟨default, false, 0⟩⟩
structure Ar where
  most : Int
  sl : List St
  free : Int
  n : Int
structure AWf (a : Ar) : Prop where
  len : a.sl.length ≤ 4096
  most : 0 ≤ a.most ∧ a.most ≤ 4096
  n : 0 ≤ a.n ∧ a.n ≤ 4096
  free : 0 ≤ a.free ∧ a.free ≤ a.sl.length
abbrev sg (l : List St) (p : Int) : St := l.getD p.toNat default
def isA (a : Ar) (p : Int) : Bool := decide (0 ≤ p ∧ p < a.sl.length) && (sg a.sl p).on
def getA (a : Ar) (p : Int) : Lk := if isA a p = true then (sg a.sl p).v else default
def setA (a : Ar) (p : Int) (v : Lk) : Ar := if isA a p = true then { a with sl := a.sl.set p.toNat { sg a.sl p with v := v } } else a
def putE (a : Ar) : Int := if a.most ≤ a.n then 3 else 0
def putP (a : Ar) : Int := if a.most ≤ a.n then 0 else if a.free = 0 then a.sl.length else a.free - 1
def putA (a : Ar) (v : Lk) : Ar := if a.most ≤ a.n then a else if a.free = 0 then { a with sl := a.sl ++ [⟨v, true, 0⟩], n := a.n + 1 }
  else { a with sl := a.sl.set (a.free - 1).toNat ⟨v, true, 0⟩, free := (sg a.sl (a.free - 1)).nx, n := a.n + 1 }
def dropA (a : Ar) (p : Int) : Ar := if isA a p = true then { a with sl := a.sl.set p.toNat ⟨default, false, a.free⟩, free := p + 1, n := a.n - 1 } else a
theorem isA_iff {a : Ar} {p : Int} : isA a p = true ↔ 0 ≤ p ∧ p < a.sl.length ∧ (sg a.sl p).on = true := by
  unfold isA; rw [Bool.and_eq_true, decide_eq_true_eq, and_assoc]
theorem aputK' : ∀ {m : List (Int × Value)} {a : Int} {v : Value} {b : Int}, b ∈ (aput m a v).map (·.1) → b = a ∨ b ∈ m.map (·.1)
  | [], a, v, b, h => by rw [aput_nil] at h; simp at h; exact .inl h
  | (c, u) :: m, a, v, b, h => by
    rw [aput_cons] at h
    by_cases e : a = c
    · rw [if_pos e] at h; simp only [List.map_cons, List.mem_cons] at h ⊢; rcases h with h | h; exact .inl h; exact .inr (.inr h)
    · rw [if_neg e] at h
      simp only [List.map_cons, List.mem_cons] at h ⊢
      rcases h with h | h
      · exact .inr (.inl h)
      · rcases aputK' h with q | q
        · exact .inl q
        · exact .inr (.inr q)
theorem aputN' : ∀ {m : List (Int × Value)} {a : Int} {v : Value}, (m.map (·.1)).Nodup → ((aput m a v).map (·.1)).Nodup
  | [], a, v, _ => by rw [aput_nil]; simp
  | (c, u) :: m, a, v, h => by
    simp only [List.map_cons, List.nodup_cons] at h
    rw [aput_cons]
    by_cases e : a = c
    · rw [if_pos e]; subst e; simp only [List.map_cons, List.nodup_cons]; exact h
    · rw [if_neg e]; simp only [List.map_cons, List.nodup_cons]
      refine ⟨fun q => ?_, aputN' h.2⟩
      rcases aputK' q with z | z
      · exact e z.symm
      · exact h.1 z
theorem adelK' : ∀ {m : List (Int × Value)} {a b : Int}, b ∈ (adel m a).map (·.1) → b ∈ m.map (·.1)
  | [], a, b, h => h
  | (c, u) :: m, a, b, h => by
    rw [adel_cons] at h
    by_cases e : a = c
    · rw [if_pos e] at h; exact List.mem_cons_of_mem _ h
    · rw [if_neg e] at h
      simp only [List.map_cons, List.mem_cons] at h ⊢
      rcases h with h | h
      · exact .inl h
      · exact .inr (adelK' h)
theorem adelN' : ∀ {m : List (Int × Value)} {a : Int}, (m.map (·.1)).Nodup → ((adel m a).map (·.1)).Nodup
  | [], a, h => h
  | (c, u) :: m, a, h => by
    simp only [List.map_cons, List.nodup_cons] at h
    rw [adel_cons]
    by_cases e : a = c
    · rw [if_pos e]; exact h.2
    · rw [if_neg e]; simp only [List.map_cons, List.nodup_cons]; exact ⟨fun q => h.1 (adelK' q), adelN' h.2⟩
theorem aget_none' : ∀ {l : List (Int × Value)} {a : Int}, aget l a = none ↔ a ∉ l.map (·.1)
  | [], a => by simp [aget_nil]
  | (b, u) :: l, a => by
    rw [aget_cons]
    by_cases e : a = b
    · subst e; simp
    · rw [if_neg e, aget_none']; simp [e]
theorem aget_adel' : ∀ {l : List (Int × Value)} {a : Int}, (l.map (·.1)).Nodup → ∀ b, aget (adel l a) b = if b = a then none else aget l b
  | [], a, h, b => by rw [adel_nil, aget_nil]; split <;> rfl
  | (c, u) :: l, a, h, b => by
    simp only [List.map_cons, List.nodup_cons] at h
    rw [adel_cons]
    by_cases e : a = c
    · subst e
      rw [if_pos rfl, aget_cons]
      by_cases e2 : b = a
      · subst e2; rw [if_pos rfl]; exact aget_none'.2 h.1
      · rw [if_neg e2, if_neg e2]
    · rw [if_neg e, aget_cons, aget_cons, aget_adel' h.2]
      by_cases e2 : b = c
      · subst e2; rw [if_pos rfl, if_pos rfl, if_neg (fun q => e q.symm)]
      · rw [if_neg e2, if_neg e2]
/-! ### A chain in an arena -/
structure Fq where
  a : Ar
  wh : List (Int × Value)
  first : Int
  last : Int
  tk : Int
def join1 (f : Fq) (x y : Int) : Fq := if isA f.a x = true then { f with a := setA f.a x { getA f.a x with next := y } } else { f with first := y }
def join2 (f : Fq) (x y : Int) : Fq := if isA f.a y = true then { f with a := setA f.a y { getA f.a y with prev := x } } else { f with last := x }
def joinF (f : Fq) (x y : Int) : Fq := join2 (join1 f x y) x y
def pushF (f : Fq) (v : Wt) : Fq :=
  { joinF { f with a := putA f.a ⟨v, f.tk + 1, -1, -1⟩, wh := aput f.wh (f.tk + 1) (.int .i64 (putP f.a)), tk := f.tk + 1 } f.last (putP f.a) with last := putP f.a }
def takeF (f : Fq) (p : Int) : Fq := joinF { f with a := dropA f.a p, wh := adel f.wh (getA f.a p).tk } (getA f.a p).prev (getA f.a p).next
abbrev sN (l : List St) (p : Nat) : St := l.getD p default
theorem sN_set {l : List St} {p : Nat} (h : p < l.length) (x : St) (q : Nat) : sN (l.set p x) q = if p = q then x else sN l q := by
  unfold sN
  rw [List.getD_eq_getElem?_getD, List.getD_eq_getElem?_getD, List.getElem?_set]
  by_cases e : p = q
  · subst e; rw [if_pos rfl, if_pos rfl, if_pos h]; rfl
  · rw [if_neg e, if_neg e]
theorem sN_app (l : List St) (x : St) (q : Nat) : sN (l ++ [x]) q = if q = l.length then x else sN l q := by
  unfold sN
  rw [List.getD_eq_getElem?_getD, List.getD_eq_getElem?_getD]
  by_cases e : q = l.length
  · subst e; simp
  · rw [if_neg e]
    rcases Nat.lt_or_ge q l.length with h | h
    · rw [List.getElem?_append_left h]
    · rw [List.getElem?_eq_none (by rw [List.length_append, List.length_singleton]; omega), List.getElem?_eq_none h]
theorem isA_on {a : Ar} {p : Nat} (h : p < a.sl.length) (ho : (sN a.sl p).on = true) : isA a (p : Int) = true := isA_iff.2 ⟨by omega, by omega, by unfold sg; rw [Int.toNat_natCast]; exact ho⟩
theorem isA_m1 (a : Ar) : ¬ isA a (-1) = true := fun h => by have := (isA_iff.1 h).1; omega
theorem setA_on {a : Ar} {p : Nat} (h : p < a.sl.length) (ho : (sN a.sl p).on = true) (v : Lk) : setA a (p : Int) v = { a with sl := a.sl.set p { sN a.sl p with v := v } } := by
  unfold setA; rw [if_pos (isA_on h ho)]; unfold sg; rw [Int.toNat_natCast]
theorem getA_on {a : Ar} {p : Nat} (h : p < a.sl.length) (ho : (sN a.sl p).on = true) : getA a (p : Int) = (sN a.sl p).v := by
  unfold getA; rw [if_pos (isA_on h ho)]; unfold sg; rw [Int.toNat_natCast]
def pv (ps : List Nat) (i : Nat) : Int := if i = 0 then -1 else ((ps.getD (i - 1) 0 : Nat) : Int)
def nv (ps : List Nat) (i : Nat) : Int := if i + 1 < ps.length then ((ps.getD (i + 1) 0 : Nat) : Int) else -1
def Ch (l : List St) : List Nat → Int → Prop
  | [], f => f = 0
  | p :: F, f => f = ((p : Nat) : Int) + 1 ∧ (sN l p).on = false ∧ Ch l F (sN l p).nx
theorem Ch.cong {l l' : List St} : ∀ {F : List Nat} {f : Int}, (∀ p ∈ F, sN l' p = sN l p) → Ch l F f → Ch l' F f
  | [], f, _, h => h
  | p :: F, f, hc, ⟨h1, h2, h3⟩ => ⟨h1, by rw [hc p (List.mem_cons_self ..)]; exact h2, by rw [hc p (List.mem_cons_self ..)]; exact Ch.cong (fun q hq => hc q (List.mem_cons_of_mem _ hq)) h3⟩
abbrev qd (q : List (Int × Wt)) (i : Nat) : Int × Wt := q.getD i (0, default)
structure FqR (most : Int) (f : Fq) (q : List (Int × Wt)) (ps F : List Nat) : Prop where
  mst : f.a.most = most ∧ 0 ≤ most ∧ most ≤ 4096
  lq : ps.length = q.length
  nd : (ps ++ F).Nodup
  len : f.a.sl.length = ps.length + F.length
  cov : ∀ p, p ∈ ps ∨ p ∈ F → p < f.a.sl.length
  lk : ∀ i, i < ps.length → (sN f.a.sl (ps.getD i 0)).on = true ∧ (sN f.a.sl (ps.getD i 0)).v = ⟨(qd q i).2, (qd q i).1, pv ps i, nv ps i⟩
  ch : Ch f.a.sl F f.a.free
  n : f.a.n = (ps.length : Nat)
  le : (f.a.sl.length : Int) ≤ most
  first : f.first = if ps.length = 0 then -1 else ((ps.getD 0 0 : Nat) : Int)
  last : f.last = if ps.length = 0 then -1 else ((ps.getD (ps.length - 1) 0 : Nat) : Int)
  tk0 : 0 ≤ f.tk
  tk : ∀ i, i < q.length → 1 ≤ (qd q i).1 ∧ (qd q i).1 ≤ f.tk
  inc : ∀ i j, i < j → j < q.length → (qd q i).1 < (qd q j).1
  wk : (f.wh.map (·.1)).Nodup
  wh : ∀ i, i < q.length → aget f.wh (qd q i).1 = some (.int .i64 ((ps.getD i 0 : Nat) : Int))
  wn : ∀ t, (∀ i, i < q.length → (qd q i).1 ≠ t) → aget f.wh t = none
theorem nd_ne {ps F : List Nat} (h : (ps ++ F).Nodup) {i j : Nat} (hi : i < ps.length) (hj : j < ps.length) (e : ps.getD i 0 = ps.getD j 0) : i = j := by
  have h1 := (List.nodup_append.1 h).1
  rw [List.getD_eq_getElem?_getD, List.getD_eq_getElem?_getD, List.getElem?_eq_getElem hi, List.getElem?_eq_getElem hj] at e
  exact (List.getElem_inj h1).1 e
theorem gd_mem {ps : List Nat} {i : Nat} (hi : i < ps.length) : ps.getD i 0 ∈ ps := by
  rw [List.getD_eq_getElem?_getD, List.getElem?_eq_getElem hi]; exact List.getElem_mem _
theorem gd_snoc (ps : List Nat) (p i : Nat) : (ps ++ [p]).getD i 0 = if i = ps.length then p else ps.getD i 0 := by
  rw [List.getD_eq_getElem?_getD, List.getD_eq_getElem?_getD]
  by_cases e : i = ps.length
  · subst e; simp
  · rw [if_neg e]
    rcases Nat.lt_or_ge i ps.length with h | h
    · rw [List.getElem?_append_left h]
    · rw [List.getElem?_eq_none (by rw [List.length_append, List.length_singleton]; omega), List.getElem?_eq_none h]
theorem qd_snoc (q : List (Int × Wt)) (x : Int × Wt) (i : Nat) : qd (q ++ [x]) i = if i = q.length then x else qd q i := by
  unfold qd
  rw [List.getD_eq_getElem?_getD, List.getD_eq_getElem?_getD]
  by_cases e : i = q.length
  · subst e; simp
  · rw [if_neg e]
    rcases Nat.lt_or_ge i q.length with h | h
    · rw [List.getElem?_append_left h]
    · rw [List.getElem?_eq_none (by rw [List.length_append, List.length_singleton]; omega), List.getElem?_eq_none h]
theorem put_at {most : Int} {f : Fq} {q : List (Int × Wt)} {ps F : List Nat} (h : FqR most f q ps F) (hn : ¬ f.a.most ≤ f.a.n) (v : Lk) :
    ∃ (p : Nat) (F' : List Nat), putP f.a = (p : Nat) ∧ (∀ r ∈ ps, r ≠ p) ∧ p ∉ F' ∧ (∀ r ∈ F', r ∈ F) ∧ F'.Nodup ∧ (putA f.a v).sl.length = ps.length + 1 + F'.length ∧ p < (putA f.a v).sl.length ∧ f.a.sl.length ≤ (putA f.a v).sl.length ∧
      sN (putA f.a v).sl p = ⟨v, true, 0⟩ ∧ (∀ r, r ≠ p → sN (putA f.a v).sl r = sN f.a.sl r) ∧ Ch (putA f.a v).sl F' (putA f.a v).free ∧ (putA f.a v).n = f.a.n + 1 ∧ (putA f.a v).most = f.a.most ∧ ((putA f.a v).sl.length : Int) ≤ most := by
  have hnn := h.n
  have hm := h.mst
  have hnd := List.nodup_append.1 h.nd
  cases F with
  | nil =>
    have hf : f.a.free = 0 := h.ch
    have hl := h.len
    simp only [List.length_nil, Nat.add_zero] at hl
    have hA : putA f.a v = { f.a with sl := f.a.sl ++ [⟨v, true, 0⟩], n := f.a.n + 1 } := by unfold putA; rw [if_neg hn, if_pos hf]
    refine ⟨f.a.sl.length, [], by unfold putP; rw [if_neg hn, if_pos hf], fun r hr e => ?_, List.not_mem_nil, fun r hr => hr, List.nodup_nil, ?_, ?_, ?_, ?_, fun r hr => ?_, ?_, ?_, ?_, ?_⟩
    · have := h.cov r (.inl hr); omega
    · rw [hA]; simp [hl]
    · rw [hA]; simp
    · rw [hA]; simp
    · rw [hA]; show sN (f.a.sl ++ [_]) _ = _; rw [sN_app, if_pos rfl]
    · rw [hA]; show sN (f.a.sl ++ [_]) _ = _; rw [sN_app, if_neg hr]
    · rw [hA]; exact hf
    · rw [hA]
    · rw [hA]
    · rw [hA]; show ((f.a.sl ++ [_]).length : Int) ≤ _; rw [List.length_append, List.length_singleton]; omega
  | cons p F =>
    obtain ⟨hf, hoff, hch⟩ := h.ch
    have hl := h.len
    simp only [List.length_cons] at hl
    have hp : p < f.a.sl.length := h.cov p (.inr (List.mem_cons_self ..))
    have h0 : ¬ f.a.free = 0 := by omega
    have e1 : (f.a.free - 1).toNat = p := by omega
    have hA : putA f.a v = { f.a with sl := f.a.sl.set p ⟨v, true, 0⟩, free := (sN f.a.sl p).nx, n := f.a.n + 1 } := by unfold putA sg; rw [if_neg hn, if_neg h0, e1]
    have hndF := List.nodup_cons.1 hnd.2.1
    refine ⟨p, F, by unfold putP; rw [if_neg hn, if_neg h0]; omega, fun r hr e => hnd.2.2 r hr p (List.mem_cons_self ..) e, hndF.1, fun r hr => List.mem_cons_of_mem _ hr, hndF.2, ?_, ?_, ?_, ?_, fun r hr => ?_, ?_, ?_, ?_, ?_⟩
    · rw [hA]; show (f.a.sl.set p _).length = _; rw [List.length_set]; omega
    · rw [hA]; show _ < (f.a.sl.set p _).length; rw [List.length_set]; exact hp
    · rw [hA]; show _ ≤ (f.a.sl.set p _).length; rw [List.length_set]; exact Nat.le_refl _
    · rw [hA]; show sN (f.a.sl.set p _) _ = _; rw [sN_set hp, if_pos rfl]
    · rw [hA]; show sN (f.a.sl.set p _) _ = _; rw [sN_set hp, if_neg (fun e => hr e.symm)]
    · rw [hA]; exact hch.cong (fun r hr => by show sN (f.a.sl.set p _) r = _; rw [sN_set hp, if_neg (fun e : p = r => hndF.1 (by rw [e]; exact hr))])
    · rw [hA]
    · rw [hA]
    · rw [hA]; show ((f.a.sl.set p _).length : Int) ≤ _; rw [List.length_set]; exact h.le
theorem join1_on {f : Fq} {x : Nat} (hx : x < f.a.sl.length) (ho : (sN f.a.sl x).on = true) (y : Int) : join1 f (x : Int) y = { f with a := { f.a with sl := f.a.sl.set x { sN f.a.sl x with v := { (sN f.a.sl x).v with next := y } } } } := by
  unfold join1; rw [if_pos (isA_on hx ho), setA_on hx ho, getA_on hx ho]
theorem join1_off (f : Fq) (y : Int) : join1 f (-1) y = { f with first := y } := if_neg (isA_m1 _)
theorem join2_on {f : Fq} {y : Nat} (hy : y < f.a.sl.length) (ho : (sN f.a.sl y).on = true) (x : Int) : join2 f x (y : Int) = { f with a := { f.a with sl := f.a.sl.set y { sN f.a.sl y with v := { (sN f.a.sl y).v with prev := x } } } } := by
  unfold join2; rw [if_pos (isA_on hy ho), setA_on hy ho, getA_on hy ho]
theorem join2_off (f : Fq) (x : Int) : join2 f x (-1) = { f with last := x } := if_neg (isA_m1 _)
theorem joinF_nn {f : Fq} {x y : Nat} (hx : x < f.a.sl.length) (hox : (sN f.a.sl x).on = true) (hy : y < f.a.sl.length) (hoy : (sN f.a.sl y).on = true) (hne : x ≠ y) :
    joinF f (x : Int) (y : Int) = { f with a := { f.a with sl := (f.a.sl.set x { sN f.a.sl x with v := { (sN f.a.sl x).v with next := (y : Int) } }).set y { sN f.a.sl y with v := { (sN f.a.sl y).v with prev := (x : Int) } } } } := by
  have hs : sN (f.a.sl.set x { sN f.a.sl x with v := { (sN f.a.sl x).v with next := (y : Int) } }) y = sN f.a.sl y := by rw [sN_set hx, if_neg hne]
  unfold joinF
  rw [join1_on hx hox]
  rw [join2_on (f := { f with a := { f.a with sl := f.a.sl.set x { sN f.a.sl x with v := { (sN f.a.sl x).v with next := (y : Int) } } } }) (by show _ < (List.set _ _ _).length; rw [List.length_set]; exact hy) (by show (sN (List.set _ _ _) y).on = true; rw [hs]; exact hoy)]
  simp only [hs]
theorem joinF_0n {f : Fq} {y : Nat} (hy : y < f.a.sl.length) (hoy : (sN f.a.sl y).on = true) :
    joinF f (-1) (y : Int) = { f with first := (y : Int), a := { f.a with sl := f.a.sl.set y { sN f.a.sl y with v := { (sN f.a.sl y).v with prev := -1 } } } } := by
  unfold joinF
  rw [join1_off, join2_on (f := { f with first := (y : Int) }) hy hoy]
theorem joinF_n0 {f : Fq} {x : Nat} (hx : x < f.a.sl.length) (hox : (sN f.a.sl x).on = true) :
    joinF f (x : Int) (-1) = { f with last := (x : Int), a := { f.a with sl := f.a.sl.set x { sN f.a.sl x with v := { (sN f.a.sl x).v with next := -1 } } } } := by
  unfold joinF
  rw [join1_on hx hox, join2_off]
theorem joinF_00 (f : Fq) : joinF f (-1) (-1) = { f with first := -1, last := -1 } := by
  unfold joinF
  rw [join1_off, join2_off]
theorem push_raw {most : Int} {f : Fq} {q : List (Int × Wt)} {ps F : List Nat} (h : FqR most f q ps F) (hn : ¬ f.a.most ≤ f.a.n) (v : Wt) :
    ∃ (p : Nat) (F' : List Nat), putP f.a = (p : Nat) ∧ (∀ r ∈ ps, r ≠ p) ∧ p ∉ F' ∧ (∀ r ∈ F', r ∈ F) ∧ F'.Nodup ∧ (pushF f v).a.sl.length = ps.length + 1 + F'.length ∧ p < (pushF f v).a.sl.length ∧ f.a.sl.length ≤ (pushF f v).a.sl.length ∧
      sN (pushF f v).a.sl p = ⟨⟨v, f.tk + 1, f.last, -1⟩, true, 0⟩ ∧ (∀ r : Nat, r ≠ p → sN (pushF f v).a.sl r = if (r : Int) = f.last then { sN f.a.sl r with v := { (sN f.a.sl r).v with next := (p : Nat) } } else sN f.a.sl r) ∧ Ch (pushF f v).a.sl F' (pushF f v).a.free ∧ (pushF f v).a.n = f.a.n + 1 ∧ (pushF f v).a.most = f.a.most ∧ ((pushF f v).a.sl.length : Int) ≤ most ∧
      (pushF f v).first = (if ps.length = 0 then ((p : Nat) : Int) else f.first) ∧ (pushF f v).last = (p : Nat) ∧ (pushF f v).tk = f.tk + 1 ∧ (pushF f v).wh = aput f.wh (f.tk + 1) (.int .i64 (p : Nat)) := by
  obtain ⟨p, F', hp, hpp, hpF, hFF, hFn, hl, hpl, hle, hsp, hsr, hch, hna, hma, hmm⟩ := put_at h hn ⟨v, f.tk + 1, -1, -1⟩
  refine ⟨p, F', hp, hpp, hpF, hFF, hFn, ?_⟩
  have hlast := h.last
  obtain ⟨F2, hF2⟩ : ∃ F2 : Fq, F2 = { f with a := putA f.a ⟨v, f.tk + 1, -1, -1⟩, wh := aput f.wh (f.tk + 1) (.int .i64 (p : Nat)), tk := f.tk + 1 } := ⟨_, rfl⟩
  have e2 : pushF f v = { joinF F2 f.last (p : Nat) with last := (p : Nat) } := by rw [hF2]; unfold pushF; rw [hp]
  have ga : F2.a = putA f.a ⟨v, f.tk + 1, -1, -1⟩ := by rw [hF2]
  have gw : F2.wh = aput f.wh (f.tk + 1) (.int .i64 (p : Nat)) := by rw [hF2]
  have gf : F2.first = f.first := by rw [hF2]
  have gt : F2.tk = f.tk + 1 := by rw [hF2]
  rw [← ga] at hl hpl hle hsp hsr hch hna hma hmm
  clear ga hF2
  have hon : (sN F2.a.sl p).on = true := by rw [hsp]
  by_cases h0 : ps.length = 0
  · rw [if_pos h0] at hlast
    rw [hlast] at e2 ⊢
    rw [joinF_0n hpl hon, hsp] at e2
    rw [e2]
    refine ⟨by show (List.set _ _ _).length = _; rw [List.length_set]; exact hl, by show _ < (List.set _ _ _).length; rw [List.length_set]; exact hpl, by show _ ≤ (List.set _ _ _).length; rw [List.length_set]; exact hle, ?_, fun r hr => ?_, ?_, hna, hma, by show ((List.set _ _ _).length : Int) ≤ _; rw [List.length_set]; exact hmm, ?_, rfl, gt, gw⟩
    · show sN (List.set _ _ _) p = _; rw [sN_set hpl, if_pos rfl]
    · show sN (List.set _ _ _) r = _; rw [sN_set hpl, if_neg (fun e => hr e.symm), hsr r hr, if_neg (by omega)]
    · exact hch.cong (fun r hr => by show sN (List.set _ _ _) r = _; rw [sN_set hpl, if_neg (fun e : p = r => hpF (by rw [e]; exact hr))])
    · rw [if_pos h0]
  · rw [if_neg h0] at hlast
    have hL : ps.length - 1 < ps.length := by omega
    have hLm := gd_mem hL
    have hLp := hpp _ hLm
    obtain ⟨hLon, hLv⟩ := h.lk (ps.length - 1) hL
    generalize hLe : ps.getD (ps.length - 1) 0 = L at *
    have hLl : L < f.a.sl.length := h.cov L (.inl hLm)
    have hLl2 : L < F2.a.sl.length := Nat.lt_of_lt_of_le hLl hle
    have hLs := hsr L hLp
    have hLo2 : (sN F2.a.sl L).on = true := by rw [hLs]; exact hLon
    rw [hlast] at e2 ⊢
    rw [joinF_nn hLl2 hLo2 hpl hon hLp, hsp, hLs] at e2
    have hpl2 : p < (F2.a.sl.set L { sN f.a.sl L with v := { (sN f.a.sl L).v with next := (p : Int) } }).length := by rw [List.length_set]; exact hpl
    rw [e2]
    refine ⟨by show (List.set _ _ _).length = _; rw [List.length_set, List.length_set]; exact hl, by show _ < (List.set _ _ _).length; rw [List.length_set]; exact hpl2, by show _ ≤ (List.set _ _ _).length; rw [List.length_set, List.length_set]; exact hle, ?_, fun r hr => ?_, ?_, hna, hma, by show ((List.set _ _ _).length : Int) ≤ _; rw [List.length_set, List.length_set]; exact hmm, ?_, rfl, gt, gw⟩
    · show sN (List.set _ _ _) p = _; rw [sN_set hpl2, if_pos rfl]
    · show sN (List.set _ _ _) r = _
      rw [sN_set hpl2, if_neg (fun e => hr e.symm), sN_set hLl2]
      by_cases e : L = r
      · subst e; rw [if_pos rfl, if_pos rfl]
      · rw [if_neg e, if_neg (by omega), hsr r hr]
    · refine hch.cong (fun r hr => ?_)
      show sN (List.set _ _ _) r = _
      have hrF := hFF r hr
      rw [sN_set hpl2, if_neg (fun e : p = r => hpF (by rw [e]; exact hr)), sN_set hLl2, if_neg (fun e : L = r => (List.nodup_append.1 h.nd).2.2 L hLm r hrF e)]
    · rw [if_neg h0]; exact gf
theorem push_ok {most : Int} {f : Fq} {q : List (Int × Wt)} {ps F : List Nat} (h : FqR most f q ps F) (hn : ¬ f.a.most ≤ f.a.n) (v : Wt) :
    ∃ ps' F', FqR most (pushF f v) (q ++ [(f.tk + 1, v)]) ps' F' := by
  obtain ⟨p, F', hp, hpp, hpF, hFF, hFn, hl, hpl, hle, hsp, hsr, hch, hna, hma, hmm, hfi, hla, htk, hwh⟩ := push_raw h hn v
  have hnd := List.nodup_append.1 h.nd
  have hlq := h.lq
  have hlen' : (ps ++ [p]).length = ps.length + 1 := by simp
  have htk0 := h.tk0
  refine ⟨ps ++ [p], F', ?_⟩
  constructor
  case mst => rw [hma]; exact h.mst
  case lq => rw [hlen', List.length_append, List.length_singleton, hlq]
  case nd =>
    rw [List.append_assoc]
    refine List.nodup_append.2 ⟨hnd.1, ?_, ?_⟩
    · exact List.nodup_cons.2 ⟨hpF, hFn⟩
    · intro r hr s hs e
      rcases List.mem_append.1 hs with q1 | q1
      · rw [List.mem_singleton] at q1; exact hpp r hr (e.trans q1)
      · exact hnd.2.2 r hr s (hFF s q1) e
  case len => rw [hl, hlen']
  case cov =>
    intro r hr
    rcases hr with hr | hr
    · rcases List.mem_append.1 hr with hr | hr
      · exact Nat.lt_of_lt_of_le (h.cov r (.inl hr)) hle
      · rw [List.mem_singleton] at hr; rw [hr]; exact hpl
    · exact Nat.lt_of_lt_of_le (h.cov r (.inr (hFF r hr))) hle
  case lk =>
    intro i hi
    rw [hlen'] at hi
    rw [gd_snoc, qd_snoc, ← hlq]
    by_cases e : i = ps.length
    · rw [if_pos e, if_pos e, hsp]
      refine ⟨rfl, ?_⟩
      have e1 : pv (ps ++ [p]) i = f.last := by
        rw [h.last]; unfold pv
        rw [e]
        by_cases h0 : ps.length = 0
        · rw [if_pos h0, if_pos h0]
        · rw [if_neg h0, if_neg h0, gd_snoc, if_neg (by omega)]
      have e2 : nv (ps ++ [p]) i = -1 := by unfold nv; rw [if_neg (by rw [hlen']; omega)]
      rw [e1, e2]
    · have hi2 : i < ps.length := by omega
      rw [if_neg e, if_neg e]
      obtain ⟨h1, h2⟩ := h.lk i hi2
      have e1 : pv (ps ++ [p]) i = pv ps i := by unfold pv; split; rfl; rw [gd_snoc, if_neg (by omega)]
      rw [hsr _ (hpp _ (gd_mem hi2)), e1]
      by_cases e3 : i = ps.length - 1
      · have hla2 : ((ps.getD i 0 : Nat) : Int) = f.last := by rw [h.last, if_neg (by omega), e3]
        have e2 : nv (ps ++ [p]) i = (p : Nat) := by unfold nv; rw [hlen', if_pos (by omega), gd_snoc, if_pos (by omega)]
        rw [if_pos hla2, e2]
        exact ⟨h1, by simp only [h2]⟩
      · have hla2 : ¬ ((ps.getD i 0 : Nat) : Int) = f.last := by
          rw [h.last, if_neg (by omega)]
          intro z
          exact e3 (nd_ne h.nd hi2 (by omega) (by omega))
        have e2 : nv (ps ++ [p]) i = nv ps i := by unfold nv; rw [hlen', if_pos (by omega), if_pos (by omega), gd_snoc, if_neg (by omega)]
        rw [if_neg hla2, e2]
        exact ⟨h1, h2⟩
  case ch => exact hch
  case n => rw [hna, h.n, hlen']; omega
  case le => exact hmm
  case first =>
    rw [hfi, hlen', gd_snoc]
    by_cases h0 : ps.length = 0
    · rw [if_pos h0, if_neg (by omega : ¬ ps.length + 1 = 0), if_pos h0.symm]
    · rw [if_neg h0, if_neg (by omega : ¬ ps.length + 1 = 0), if_neg (fun e => h0 e.symm), h.first, if_neg h0]
  case last => rw [hla, hlen', if_neg (by omega), gd_snoc, if_pos (by omega)]
  case tk0 => rw [htk]; omega
  case tk =>
    intro i hi
    rw [List.length_append, List.length_singleton] at hi
    rw [qd_snoc, htk]
    by_cases e : i = q.length
    · rw [if_pos e]; show 1 ≤ f.tk + 1 ∧ f.tk + 1 ≤ f.tk + 1; omega
    · rw [if_neg e]; have := h.tk i (by omega); omega
  case inc =>
    intro i j hij hj
    rw [List.length_append, List.length_singleton] at hj
    rw [qd_snoc, qd_snoc, if_neg (by omega)]
    by_cases e : j = q.length
    · rw [if_pos e]; have := h.tk i (by omega); show _ < f.tk + 1; omega
    · rw [if_neg e]; exact h.inc i j hij (by omega)
  case wk => rw [hwh]; exact aputN' h.wk
  case wh =>
    intro i hi
    rw [List.length_append, List.length_singleton] at hi
    rw [qd_snoc, gd_snoc, hwh, aget_aput, hlq]
    by_cases e : i = q.length
    · rw [if_pos e, if_pos e, if_pos rfl]
    · rw [if_neg e, if_neg e]
      have := h.tk i (by omega)
      rw [if_neg (by omega)]; exact h.wh i (by omega)
  case wn =>
    intro t ht
    have h1 := ht q.length (by rw [List.length_append, List.length_singleton]; omega)
    rw [qd_snoc, if_pos rfl] at h1
    rw [hwh, aget_aput, if_neg (fun e => h1 e.symm)]
    refine h.wn t (fun i hi => ?_)
    have h2 := ht i (by rw [List.length_append, List.length_singleton]; omega)
    rwa [qd_snoc, if_neg (by omega)] at h2
/-! ### One is taken off -/
theorem dropA_on {a : Ar} {p : Nat} (h : p < a.sl.length) (ho : (sN a.sl p).on = true) : dropA a (p : Int) = { a with sl := a.sl.set p ⟨default, false, a.free⟩, free := (p : Int) + 1, n := a.n - 1 } := by
  unfold dropA; rw [if_pos (isA_on h ho), Int.toNat_natCast]
theorem gd_erase (l : List Nat) (i j : Nat) : (l.eraseIdx i).getD j 0 = if j < i then l.getD j 0 else l.getD (j + 1) 0 := by
  rw [List.getD_eq_getElem?_getD, List.getElem?_eraseIdx]
  split <;> rw [List.getD_eq_getElem?_getD]
theorem qd_erase (l : List (Int × Wt)) (i j : Nat) : qd (l.eraseIdx i) j = if j < i then qd l j else qd l (j + 1) := by
  unfold qd
  rw [List.getD_eq_getElem?_getD, List.getElem?_eraseIdx]
  split <;> rw [List.getD_eq_getElem?_getD]
def reN (s : St) (r : Nat) (x y : Int) : St := { s with v := { s.v with next := if (r : Int) = x then y else s.v.next, prev := if (r : Int) = y then x else s.v.prev } }
theorem reN_no {s : St} {r : Nat} {x y : Int} (h1 : ¬ (r : Int) = x) (h2 : ¬ (r : Int) = y) : reN s r x y = s := by unfold reN; rw [if_neg h1, if_neg h2]
theorem reN_x {s : St} {r : Nat} {x y : Int} (h1 : (r : Int) = x) (h2 : ¬ (r : Int) = y) : reN s r x y = { s with v := { s.v with next := y } } := by unfold reN; rw [if_pos h1, if_neg h2]
theorem reN_y {s : St} {r : Nat} {x y : Int} (h1 : ¬ (r : Int) = x) (h2 : (r : Int) = y) : reN s r x y = { s with v := { s.v with prev := x } } := by unfold reN; rw [if_neg h1, if_pos h2]
theorem pv_or {most : Int} {f : Fq} {q : List (Int × Wt)} {ps F : List Nat} (h : FqR most f q ps F) {i : Nat} (hi : i < ps.length) : pv ps i = -1 ∧ i = 0 ∨ ∃ x : Nat, pv ps i = (x : Nat) ∧ 0 < i ∧ x = ps.getD (i - 1) 0 := by
  unfold pv
  by_cases e : i = 0
  · rw [if_pos e]; exact .inl ⟨rfl, e⟩
  · rw [if_neg e]; exact .inr ⟨_, rfl, by omega, rfl⟩
theorem nv_or {most : Int} {f : Fq} {q : List (Int × Wt)} {ps F : List Nat} (h : FqR most f q ps F) {i : Nat} (hi : i < ps.length) : nv ps i = -1 ∧ i + 1 = ps.length ∨ ∃ x : Nat, nv ps i = (x : Nat) ∧ i + 1 < ps.length ∧ x = ps.getD (i + 1) 0 := by
  unfold nv
  by_cases e : i + 1 < ps.length
  · rw [if_pos e]; exact .inr ⟨_, rfl, e, rfl⟩
  · rw [if_neg e]; exact .inl ⟨rfl, by omega⟩
theorem take_raw {most : Int} {f : Fq} {q : List (Int × Wt)} {ps F : List Nat} (h : FqR most f q ps F) {i : Nat} (hi : i < ps.length) :
    (takeF f (ps.getD i 0 : Nat)).a.sl.length = f.a.sl.length ∧ sN (takeF f (ps.getD i 0 : Nat)).a.sl (ps.getD i 0) = ⟨default, false, f.a.free⟩ ∧
      (∀ r : Nat, r ≠ ps.getD i 0 → sN (takeF f (ps.getD i 0 : Nat)).a.sl r = reN (sN f.a.sl r) r (pv ps i) (nv ps i)) ∧ (takeF f (ps.getD i 0 : Nat)).a.free = ((ps.getD i 0 : Nat) : Int) + 1 ∧ (takeF f (ps.getD i 0 : Nat)).a.n = f.a.n - 1 ∧ (takeF f (ps.getD i 0 : Nat)).a.most = f.a.most ∧
      (takeF f (ps.getD i 0 : Nat)).first = (if i = 0 then nv ps i else f.first) ∧ (takeF f (ps.getD i 0 : Nat)).last = (if i + 1 = ps.length then pv ps i else f.last) ∧ (takeF f (ps.getD i 0 : Nat)).tk = f.tk ∧ (takeF f (ps.getD i 0 : Nat)).wh = adel f.wh (qd q i).1 := by
  obtain ⟨hon, hv⟩ := h.lk i hi
  have hpm := gd_mem hi
  have hpl := h.cov _ (.inl hpm)
  have hP := pv_or h hi
  have hN := nv_or h hi
  have hother : ∀ j, j < ps.length → j ≠ i → ps.getD j 0 ≠ ps.getD i 0 := fun j hj hne e => hne (nd_ne h.nd hj hi e)
  generalize hp : ps.getD i 0 = p at *
  obtain ⟨F2, hF2⟩ : ∃ F2 : Fq, F2 = { f with a := dropA f.a (p : Int), wh := adel f.wh (getA f.a (p : Int)).tk } := ⟨_, rfl⟩
  have e2 : takeF f (p : Int) = joinF F2 (pv ps i) (nv ps i) := by rw [hF2]; unfold takeF; rw [getA_on hpl hon, hv]
  have ga : F2.a = { f.a with sl := f.a.sl.set p ⟨default, false, f.a.free⟩, free := (p : Int) + 1, n := f.a.n - 1 } := by rw [hF2, dropA_on hpl hon]
  have gw : F2.wh = adel f.wh (qd q i).1 := by rw [hF2, getA_on hpl hon, hv]
  have gf : F2.first = f.first := by rw [hF2]
  have gl : F2.last = f.last := by rw [hF2]
  have gt : F2.tk = f.tk := by rw [hF2]
  have gs : F2.a.sl = f.a.sl.set p ⟨default, false, f.a.free⟩ := by rw [ga]
  have gl0 : F2.a.sl.length = f.a.sl.length := by rw [gs, List.length_set]
  have gp : sN F2.a.sl p = ⟨default, false, f.a.free⟩ := by rw [gs, sN_set hpl, if_pos rfl]
  have gr : ∀ r, r ≠ p → sN F2.a.sl r = sN f.a.sl r := fun r hr => by rw [gs, sN_set hpl, if_neg (fun e => hr e.symm)]
  have gfr : F2.a.free = (p : Int) + 1 := by rw [ga]
  have gn : F2.a.n = f.a.n - 1 := by rw [ga]
  have gm : F2.a.most = f.a.most := by rw [ga]
  clear ga gs hF2
  rw [e2]
  rcases hP with ⟨e3, hi0⟩ | ⟨x, e3, hi0, hx⟩
  · rcases hN with ⟨e4, hi1⟩ | ⟨y, e4, hi1, hy⟩
    · rw [e3, e4, joinF_00]
      exact ⟨gl0, gp, fun r hr => by rw [reN_no (by omega) (by omega)]; exact gr r hr, gfr, gn, gm, by rw [if_pos hi0], by rw [if_pos hi1], gt, gw⟩
    · have hyp : y ≠ p := hy ▸ hother (i + 1) hi1 (by omega)
      have hyl : y < F2.a.sl.length := by rw [gl0]; exact h.cov y (.inl (hy ▸ gd_mem hi1))
      have hyo : (sN F2.a.sl y).on = true := by rw [gr y hyp, hy]; exact (h.lk (i + 1) hi1).1
      rw [e3, e4, joinF_0n hyl hyo]
      refine ⟨by show (List.set _ _ _).length = _; rw [List.length_set]; exact gl0, ?_, fun r hr => ?_, gfr, gn, gm, by rw [if_pos hi0], by rw [if_neg (by omega)]; exact gl, gt, gw⟩
      · show sN (List.set _ _ _) p = _; rw [sN_set hyl, if_neg hyp]; exact gp
      · show sN (List.set _ _ _) r = _
        rw [sN_set hyl]
        by_cases e : y = r
        · subst e; rw [if_pos rfl, gr y hr]; exact (reN_y (by omega) rfl).symm
        · rw [if_neg e, gr r hr, reN_no (by omega) (by omega)]
  · have hxp : x ≠ p := hx ▸ hother (i - 1) (by omega) (by omega)
    have hxl : x < F2.a.sl.length := by rw [gl0]; exact h.cov x (.inl (hx ▸ gd_mem (by omega)))
    have hxo : (sN F2.a.sl x).on = true := by rw [gr x hxp, hx]; exact (h.lk (i - 1) (by omega)).1
    rcases hN with ⟨e4, hi1⟩ | ⟨y, e4, hi1, hy⟩
    · rw [e3, e4, joinF_n0 hxl hxo]
      refine ⟨by show (List.set _ _ _).length = _; rw [List.length_set]; exact gl0, ?_, fun r hr => ?_, gfr, gn, gm, by rw [if_neg (by omega)]; exact gf, by rw [if_pos hi1], gt, gw⟩
      · show sN (List.set _ _ _) p = _; rw [sN_set hxl, if_neg hxp]; exact gp
      · show sN (List.set _ _ _) r = _
        rw [sN_set hxl]
        by_cases e : x = r
        · subst e; rw [if_pos rfl, gr x hr]; exact (reN_x rfl (by omega)).symm
        · rw [if_neg e, gr r hr, reN_no (by omega) (by omega)]
    · have hyp : y ≠ p := hy ▸ hother (i + 1) hi1 (by omega)
      have hyl : y < F2.a.sl.length := by rw [gl0]; exact h.cov y (.inl (hy ▸ gd_mem hi1))
      have hyo : (sN F2.a.sl y).on = true := by rw [gr y hyp, hy]; exact (h.lk (i + 1) hi1).1
      have hxy : x ≠ y := fun e => by rw [hx, hy] at e; have := nd_ne h.nd (by omega) hi1 e; omega
      rw [e3, e4, joinF_nn hxl hxo hyl hyo hxy]
      have hyl2 : ∀ z, y < (F2.a.sl.set x z).length := fun z => by rw [List.length_set]; exact hyl
      refine ⟨by show (List.set _ _ _).length = _; rw [List.length_set, List.length_set]; exact gl0, ?_, fun r hr => ?_, gfr, gn, gm, by rw [if_neg (by omega)]; exact gf, by rw [if_neg (by omega)]; exact gl, gt, gw⟩
      · show sN (List.set _ _ _) p = _; rw [sN_set (hyl2 _), if_neg hyp, sN_set hxl, if_neg hxp]; exact gp
      · show sN (List.set _ _ _) r = _
        rw [sN_set (hyl2 _), sN_set hxl]
        by_cases e : y = r
        · subst e; rw [if_pos rfl, gr y hr]; exact (reN_y (by omega) rfl).symm
        · rw [if_neg e]
          by_cases e5 : x = r
          · subst e5; rw [if_pos rfl, gr x hr]; exact (reN_x rfl (by omega)).symm
          · rw [if_neg e5, gr r hr, reN_no (by omega) (by omega)]
theorem mem_erase_gd {ps : List Nat} {i : Nat} (hi : i < ps.length) (h : ps.Nodup) (r : Nat) : r ∈ ps.eraseIdx i ↔ r ∈ ps ∧ r ≠ ps.getD i 0 := by
  have e : ps = ps.take i ++ ps.getD i 0 :: ps.drop (i + 1) := by
    have h1 : ps.drop i = ps.getD i 0 :: ps.drop (i + 1) := by
      rw [List.drop_eq_getElem_cons hi, List.getD_eq_getElem?_getD, List.getElem?_eq_getElem hi]; rfl
    rw [← h1, List.take_append_drop]
  have e2 : ps.eraseIdx i = ps.take i ++ ps.drop (i + 1) := List.eraseIdx_eq_take_drop_succ ..
  rw [e] at h
  obtain ⟨h1, h2, h3⟩ := List.nodup_append.1 h
  obtain ⟨h4, h5⟩ := List.nodup_cons.1 h2
  rw [e2]
  constructor
  · intro hr
    rcases List.mem_append.1 hr with q | q
    · exact ⟨List.mem_of_mem_take q, fun z => h3 r q _ (List.mem_cons_self ..) z⟩
    · exact ⟨List.mem_of_mem_drop q, fun z => h4 (z ▸ q)⟩
  · rintro ⟨hr, hne⟩
    rw [e] at hr
    rcases List.mem_append.1 hr with q | q
    · exact List.mem_append_left _ q
    · rcases List.mem_cons.1 q with z | z
      · exact absurd z hne
      · exact List.mem_append_right _ z
theorem take_ok {most : Int} {f : Fq} {q : List (Int × Wt)} {ps F : List Nat} (h : FqR most f q ps F) {i : Nat} (hi : i < ps.length) :
    FqR most (takeF f (ps.getD i 0 : Nat)) (q.eraseIdx i) (ps.eraseIdx i) (ps.getD i 0 :: F) := by
  obtain ⟨hl, hp, hr, hfr, hn, hma, hfi, hla, htk, hwh⟩ := take_raw h hi
  have hlq := h.lq
  have hnd := List.nodup_append.1 h.nd
  have hle : (ps.eraseIdx i).length = ps.length - 1 := by rw [List.length_eraseIdx, if_pos hi]
  have hqe : (q.eraseIdx i).length = q.length - 1 := by rw [List.length_eraseIdx, if_pos (by omega)]
  have hpm := gd_mem hi
  have hmem := mem_erase_gd hi hnd.1
  have hpF : ps.getD i 0 ∉ F := fun z => hnd.2.2 _ hpm _ z rfl
  have hinc : ∀ j, j < q.length → j ≠ i → (qd q j).1 ≠ (qd q i).1 := fun j hj hne => by
    rcases Nat.lt_or_ge j i with z | z
    · have := h.inc j i z (by omega); omega
    · have := h.inc i j (by omega) hj; omega
  constructor
  case mst => rw [hma]; exact h.mst
  case lq => rw [hle, hqe, hlq]
  case nd =>
    refine List.nodup_append.2 ⟨List.Sublist.nodup (List.eraseIdx_sublist ..) hnd.1, List.nodup_cons.2 ⟨hpF, hnd.2.1⟩, fun r hr s hs e => ?_⟩
    obtain ⟨h1, h2⟩ := (hmem r).1 hr
    rcases List.mem_cons.1 hs with z | z
    · exact h2 (e.trans z)
    · exact hnd.2.2 r h1 s z e
  case len => rw [hl, h.len, hle, List.length_cons]; omega
  case cov =>
    intro r hr
    rw [hl]
    rcases hr with hr | hr
    · exact h.cov r (.inl ((hmem r).1 hr).1)
    · rcases List.mem_cons.1 hr with z | z
      · rw [z]; exact h.cov _ (.inl hpm)
      · exact h.cov r (.inr z)
  case lk =>
    intro j hj
    rw [hle] at hj
    -- the place that was at j or behind it
    obtain ⟨j', hj', hjl, hji, hq'⟩ : ∃ j', (ps.eraseIdx i).getD j 0 = ps.getD j' 0 ∧ j' < ps.length ∧ j' ≠ i ∧ (j < i ∧ j' = j ∨ i ≤ j ∧ j' = j + 1) := by
      rw [gd_erase]
      by_cases z : j < i
      · rw [if_pos z]; exact ⟨j, rfl, by omega, by omega, .inl ⟨z, rfl⟩⟩
      · rw [if_neg z]; exact ⟨j + 1, rfl, by omega, by omega, .inr ⟨by omega, rfl⟩⟩
    have hqj : qd (q.eraseIdx i) j = qd q j' := by
      rw [qd_erase]
      rcases hq' with ⟨z, e⟩ | ⟨z, e⟩
      · rw [if_pos z, e]
      · rw [if_neg (by omega), e]
    obtain ⟨h1, h2⟩ := h.lk j' hjl
    have hne : ps.getD j' 0 ≠ ps.getD i 0 := fun e => hji (nd_ne h.nd hjl hi e)
    rw [hj', hqj, hr _ hne]
    -- is it a neighbour?
    have c1 : ((ps.getD j' 0 : Nat) : Int) = pv ps i ↔ j' + 1 = i := by
      unfold pv
      by_cases z : i = 0
      · rw [if_pos z]; constructor <;> intro y <;> omega
      · rw [if_neg z]
        constructor
        · intro y; have := nd_ne h.nd hjl (by omega : i - 1 < ps.length) (by omega); omega
        · intro y; rw [show i - 1 = j' by omega]
    have c2 : ((ps.getD j' 0 : Nat) : Int) = nv ps i ↔ j' = i + 1 := by
      unfold nv
      by_cases z : i + 1 < ps.length
      · rw [if_pos z]
        constructor
        · intro y; exact nd_ne h.nd hjl z (by omega)
        · intro y; rw [y]
      · rw [if_neg z]; constructor <;> intro y <;> omega
    have n1 : nv (ps.eraseIdx i) j = if j' + 1 = i then nv ps i else nv ps j' := by
      unfold nv
      rw [hle]
      rcases hq' with ⟨z, e⟩ | ⟨z, e⟩
      · subst e
        by_cases y : j' + 1 = i
        · rw [if_pos y]
          by_cases u : i + 1 < ps.length
          · rw [if_pos (by omega), if_pos u, gd_erase, if_neg (by omega), y]
          · rw [if_neg (by omega), if_neg u]
        · rw [if_neg y, if_pos (by omega), if_pos (by omega), gd_erase, if_pos (by omega)]
      · subst e
        rw [if_neg (by omega : ¬ j + 1 + 1 = i)]
        by_cases u : j + 1 + 1 < ps.length
        · rw [if_pos (by omega), if_pos u, gd_erase, if_neg (by omega)]
        · rw [if_neg (by omega), if_neg u]
    have p1 : pv (ps.eraseIdx i) j = if j' = i + 1 then pv ps i else pv ps j' := by
      unfold pv
      rcases hq' with ⟨z, e⟩ | ⟨z, e⟩
      · subst e
        rw [if_neg (by omega : ¬ j' = i + 1)]
        by_cases u : j' = 0
        · rw [if_pos u, if_pos u]
        · rw [if_neg u, if_neg u, gd_erase, if_pos (by omega)]
      · subst e
        by_cases y : j = i
        · subst y
          rw [if_pos (by omega : j + 1 = j + 1)]
          by_cases u : j = 0
          · rw [if_pos u, if_pos u]
          · rw [if_neg u, if_neg u, gd_erase, if_pos (by omega)]
        · rw [if_neg (by omega : ¬ j + 1 = i + 1), if_neg (by omega), if_neg (by omega), gd_erase, if_neg (by omega), show j - 1 + 1 = j + 1 - 1 by omega]
    unfold reN
    refine ⟨h1, ?_⟩
    simp only [h2, n1, p1]
    congr 1
    · by_cases z : j' = i + 1
      · rw [if_pos (c2.2 z), if_pos z]
      · rw [if_neg (fun y => z (c2.1 y)), if_neg z]
    · by_cases z : j' + 1 = i
      · rw [if_pos (c1.2 z), if_pos z]
      · rw [if_neg (fun y => z (c1.1 y)), if_neg z]
  case ch =>
    refine ⟨hfr, by rw [hp], ?_⟩
    rw [hp]
    refine h.ch.cong (fun r hrF => ?_)
    have hrp : r ≠ ps.getD i 0 := fun e => hpF (e ▸ hrF)
    rw [hr r hrp]
    refine reN_no (fun e => ?_) (fun e => ?_)
    · rcases pv_or h hi with ⟨z, _⟩ | ⟨x, z, z2, z3⟩
      · rw [z] at e; omega
      · rw [z] at e; exact hnd.2.2 _ (gd_mem (by omega : i - 1 < ps.length)) r hrF (by omega)
    · rcases nv_or h hi with ⟨z, _⟩ | ⟨x, z, z2, z3⟩
      · rw [z] at e; omega
      · rw [z] at e; exact hnd.2.2 _ (gd_mem z2) r hrF (by omega)
  case n => rw [hn, h.n, hle]; omega
  case le => rw [hl]; exact h.le
  case first =>
    rw [hfi, hle, gd_erase, h.first, if_neg (by omega : ¬ ps.length = 0)]
    by_cases z : i = 0
    · subst z
      rw [if_pos rfl, if_neg (by omega : ¬ 0 < 0)]
      unfold nv
      by_cases u : 0 + 1 < ps.length
      · rw [if_pos u, if_neg (by omega)]
      · rw [if_neg u, if_pos (by omega)]
    · rw [if_neg z, if_neg (by omega), if_pos (by omega)]
  case last =>
    rw [hla, hle, gd_erase, h.last, if_neg (by omega : ¬ ps.length = 0)]
    by_cases z : i + 1 = ps.length
    · rw [if_pos z]
      unfold pv
      by_cases u : i = 0
      · rw [if_pos u, if_pos (by omega)]
      · rw [if_neg u, if_neg (by omega), if_pos (by omega), show ps.length - 1 - 1 = i - 1 by omega]
    · rw [if_neg z, if_neg (by omega), if_neg (by omega), show ps.length - 1 - 1 + 1 = ps.length - 1 by omega]
  case tk0 => rw [htk]; exact h.tk0
  case tk =>
    intro j hj
    rw [htk, qd_erase]
    split
    · exact h.tk _ (by omega)
    · exact h.tk _ (by omega)
  case inc =>
    intro a b hab hb
    rw [qd_erase, qd_erase]
    by_cases z : a < i
    · rw [if_pos z]
      by_cases y : b < i
      · rw [if_pos y]; exact h.inc _ _ hab (by omega)
      · rw [if_neg y]; exact h.inc _ _ (by omega) (by omega)
    · rw [if_neg z, if_neg (by omega)]; exact h.inc _ _ (by omega) (by omega)
  case wk => rw [hwh]; exact adelN' h.wk
  case wh =>
    intro j hj
    rw [hwh, aget_adel' h.wk, qd_erase, gd_erase]
    split
    · rw [if_neg (hinc j (by omega) (by omega))]; exact h.wh j (by omega)
    · rw [if_neg (hinc (j + 1) (by omega) (by omega))]; exact h.wh (j + 1) (by omega)
  case wn =>
    intro t ht
    rw [hwh, aget_adel' h.wk]
    by_cases e : t = (qd q i).1
    · rw [if_pos e]
    · rw [if_neg e]
      refine h.wn t (fun j hj => ?_)
      by_cases z : j = i
      · rw [z]; exact fun y => e y.symm
      · rcases Nat.lt_or_ge j i with y | y
        · have := ht j (by omega); rwa [qd_erase, if_pos y] at this
        · have := ht (j - 1) (by omega); rwa [qd_erase, if_neg (by omega), show j - 1 + 1 = j by omega] at this
end Go.Eng
namespace Go.Eng
open Go Go.Proofs Go.RowKit
abbrev inn (m : Mem0) (k : Nat) (x : Mem0) : Prop := ∀ p ∈ x, k ≤ p.1 ∨ ∃ q ∈ m, q.1 = p.1
theorem inn_refl (m : Mem0) (k : Nat) : inn m k m := fun p hp => .inr ⟨p, hp, rfl⟩
theorem inn_trans {m x y : Mem0} {k : Nat} (h : inn m k x) (h2 : inn x k y) : inn m k y := fun p hp => by
  rcases h2 p hp with q | ⟨q, hq, e⟩
  · exact .inl q
  · rw [← e]; exact h q hq
theorem inn_S {m x y : Mem0} {k : Nat} (h : inn x k y) (hs : ∀ p ∈ x, inM m p.1) : ∀ p ∈ y, p.1 < k → inM m p.1 := fun p hp hlt => by
  rcases h p hp with q | ⟨q, hq, e⟩
  · omega
  · rw [← e]; exact hs q hq
theorem inM_0 {b : Nat} {o : Obj} {m : Mem0} : inM ((b, o) :: m) b := ⟨_, List.mem_cons_self .., rfl⟩
theorem inM_1 {b : Nat} {o : Obj} {p : Nat × Obj} {m : Mem0} : inM (p :: (b, o) :: m) b := ⟨_, List.mem_cons_of_mem _ (List.mem_cons_self ..), rfl⟩
theorem upd_m {m m' M : Mem0} {T : Value → Mem0 → Prop} {u : Value} {w w' : World} (hT : T u m') (hm : Mem w' M) (hs : SubM M (m' ++ [])) (hc : Chg (inM m) w w') (hin : inn m w.heap.size m') : Upd m T w u w' := by
  rw [List.append_nil] at hs
  exact ⟨hc, m', hT, hs.mem w' hm, hin⟩
theorem inM_in {m : Mem0} : ∀ p ∈ m, inM m p.1 := fun p hp => ⟨p, hp, rfl⟩
def fLk (x : Lk) : List Value := [.int .i64 x.v.who, .int .i64 x.v.key, U x.v.til, .int .i64 x.tk, .int .i64 x.prev, .int .i64 x.next]
def fSt (s : St) : List Value := [.int .i64 s.v.v.who, .int .i64 s.v.v.key, U s.v.v.til, .int .i64 s.v.tk, .int .i64 s.v.prev, .int .i64 s.v.next, .bool s.on, .int .i64 s.nx]
abbrev arC (b : Nat) (most : Int) (ad : Option Addr) (n cap : Nat) (free cnt : Int) : Nat × Obj := (b, .cells #[.int .i64 most, .slice ad n cap, .int .i64 free, .int .i64 cnt] 117 (0, 0))
def ArM (n0 b : Nat) (a : Ar) (m : Mem0) : Prop := AWf a ∧ ∃ (ad : Option Addr) (n cap : Nat) (ms : Mem0), m = arC b a.most ad n cap a.free a.n :: ms ∧ n = a.sl.length ∧ Sl fSt 114 8 n0 a.sl (.slice ad n cap) ms ∧ n0 ≤ b
theorem isA_lt {a : Ar} {p : Int} (h : p < 0) : isA a p = false := by unfold isA; rw [decide_eq_false (by omega)]; rfl
theorem isA_ge {a : Ar} {p : Int} (h : ¬ p < a.sl.length) : isA a p = false := by unfold isA; rw [decide_eq_false (by omega)]; rfl
theorem isA_in {a : Ar} {i : Nat} (h : i < a.sl.length) : isA a (i : Int) = (sN a.sl i).on := by unfold isA; rw [decide_eq_true (by omega), Bool.true_and]; rfl
set_option maxRecDepth 100000 in
theorem arIs_spec {n0 b : Nat} {a : Ar} {m : Mem0} (p : Int) (w : World) (h : ArM n0 b a m) (hM : Mem w m) : Ret Try.prog 68 #[.pointer (some ⟨b, 0, none⟩), .int .i64 p] w (fun u w' => u = .bool (isA a p) ∧ Ext w w') := by
 obtain ⟨hw, ad, n, cap, ms, rfl, hn, hs, hb⟩ := h; have hlen := hw.len
 refine Ret.enterM (l := [.pointer (some ⟨b, 0, none⟩), .int .i64 p]) Try.func68 rfl Try.ntmps68 rfl (arC b a.most ad n cap a.free a.n :: (ms ++ [])) (no) (by rw [List.append_nil]; exact hM) ?_
 refine wpM.seq (wpM.region ?_)
 refine LM.as rfl ?_
 refine LM.nil (QM.sub (e' := [(0, _), (1, _)]) au9 (QM.then (wpM.seq (wpM.region ?_))))
 refine LM.mv rfl ?_
 refine LM.val (ov_pneq (by kernel_rfl) rfl rfl) ?_
 refine LM.mv rfl (LM.sp 7 rfl rfl rfl (LM.mv rfl (LM.sp 7 rfl rfl rfl ?_)))
 refine LM.val (ov_geq rfl rfl) ?_
 refine LM.val (ov_pickT rfl rfl) ?_
 refine LM.mv rfl ?_
 refine LM.splitD (t := 11) rfl (fun h1 => ?_) (fun h1 => ?_)
 ·
  refine LM.sp 11 rfl rfl rfl (LM.mv rfl (LM.sp 11 rfl rfl rfl (LM.mv rfl (LM.sp 11 rfl rfl rfl ?_))))
  refine LM.val (ov_nilCheck rfl) ?_
  refine LM.sp 11 rfl rfl rfl (LM.val (ov_field Try.underlying117 rfl Try.sizeOf115 rfl (k := 1) rfl rfl) (LM.sp 11 rfl rfl rfl ?_))
  refine LM.rd (om_ld Try.isAgg115 rfl rfl) ?_
  refine LM.sp 11 rfl rfl rfl ?_
  refine LM.val (ov_len Try.underlying115 rfl) ?_
  refine LM.sp 11 rfl rfl rfl ?_
  refine LM.val (ov_lss rfl rfl) ?_
  refine LM.val (ov_pickT rfl rfl) ?_
  refine LM.mv rfl ?_
  refine LM.splitD (t := 20) rfl (fun h2 => ?_) (fun h2 => ?_)
  ·
   obtain ⟨i, rfl⟩ : ∃ i : Nat, p = i := ⟨p.toNat, by omega⟩; have hi : i < a.sl.length := (by omega)
   refine LM.sp 20 rfl rfl rfl (LM.mv rfl (LM.sp 20 rfl rfl rfl ?_))
   refine LM.val (ov_nilCheck rfl) ?_
   refine LM.sp 20 rfl rfl rfl (LM.val (ov_field Try.underlying117 rfl Try.sizeOf115 rfl (k := 1) rfl rfl) (LM.sp 20 rfl rfl rfl ?_))
   refine LM.rd (om_ld Try.isAgg115 rfl rfl) ?_
   refine LM.sp 20 rfl rfl rfl (LM.mv rfl (LM.sp 20 rfl rfl rfl ?_))
   refine LM.val (ov_idxSN au6 Try.underlying115 Try.sizeOf114 rfl rfl (by omega)) ?_
   refine LM.sp 20 rfl rfl rfl (LM.val (ov_field Try.underlying114 rfl Try.sizeOf4 rfl (k := 6) rfl rfl) (LM.sp 20 rfl rfl rfl ?_))
   refine LM.rd (om_slE (j := 6) (by assumption) (by intro _; rfl) Try.isAgg4 rfl rfl au3 rfl (by rfl)) ?_
   refine LM.val (ov_pickT rfl rfl) ?_
   refine LM.as rfl ?_
   refine LM.nil (QM.sub (e' := [(4, _)]) ⟨rfl, trivial⟩ (QM.then ?_))
   refine wpM.ret ?_
   refine QM.leave (.inl rfl) [.tmp 4] Try.results68 rfl ?_
   intro w' hm' hc' hg'
   rw [isA_in hi]; exact ⟨rfl, hc'⟩
  refine LM.dr 20 rfl rfl rfl (LM.dr 20 rfl rfl rfl (LM.dr 20 rfl rfl rfl (LM.dr 20 rfl rfl rfl (LM.dr 20 rfl rfl rfl (LM.dr 20 rfl rfl rfl ?_)))))
  refine LM.dr 20 rfl rfl rfl (LM.dr 20 rfl rfl rfl ?_)
  refine LM.val (ov_pickF rfl rfl) ?_
  refine LM.as rfl ?_
  refine LM.nil (QM.sub (e' := [(4, _)]) ⟨rfl, trivial⟩ (QM.then ?_))
  refine wpM.ret ?_
  refine QM.leave (.inl rfl) [.tmp 4] Try.results68 rfl ?_
  intro w' hm' hc' hg'
  rw [isA_ge (by omega)]; exact ⟨rfl, hc'⟩
 refine LM.dr 11 rfl rfl rfl (LM.dr 11 rfl rfl rfl (LM.dr 11 rfl rfl rfl (LM.dr 11 rfl rfl rfl (LM.dr 11 rfl rfl rfl (LM.dr 11 rfl rfl rfl ?_)))))
 refine LM.dr 11 rfl rfl rfl ?_
 refine LM.val (ov_pickF rfl rfl) ?_
 refine LM.mv rfl (LM.dr 20 rfl rfl rfl (LM.dr 20 rfl rfl rfl (LM.dr 20 rfl rfl rfl (LM.dr 20 rfl rfl rfl (LM.dr 20 rfl rfl rfl ?_)))))
 refine LM.dr 20 rfl rfl rfl (LM.dr 20 rfl rfl rfl (LM.dr 20 rfl rfl rfl ?_))
 refine LM.val (ov_pickF rfl rfl) ?_
 refine LM.as rfl ?_
 refine LM.nil (QM.sub (e' := [(4, _)]) ⟨rfl, trivial⟩ (QM.then ?_))
 refine wpM.ret ?_
 refine QM.leave (.inl rfl) [.tmp 4] Try.results68 rfl ?_
 intro w' hm' hc' hg'
 rw [isA_lt (by omega)]; exact ⟨rfl, hc'⟩
theorem getA_in {a : Ar} {i : Nat} (h : i < a.sl.length) (ho : isA a (i : Int) = true) : getA a (i : Int) = (a.sl.getD i default).v := by unfold getA; rw [if_pos ho]; rfl
theorem getA_no {a : Ar} {p : Int} (ho : isA a p = false) : getA a p = default := by unfold getA; rw [if_neg (by rw [ho]; simp)]
theorem ArM.mono {n0 n1 b : Nat} {a : Ar} {m : Mem0} (h : ArM n0 b a m) (hn : n1 ≤ n0) : ArM n1 b a m := by
  obtain ⟨hw, ad, n, cap, ms, rfl, hnn, hs, hb⟩ := h
  exact ⟨hw, ad, n, cap, ms, rfl, hnn, hs.mono hn, Nat.le_trans hn hb⟩
theorem ArM.ge {n0 b : Nat} {a : Ar} {m : Mem0} (h : ArM n0 b a m) : ∀ p ∈ m, n0 ≤ p.1 := by
  obtain ⟨hw, ad, n, cap, ms, rfl, hnn, hs, hb⟩ := h
  intro p hp
  rcases List.mem_cons.1 hp with rfl | hp
  · exact hb
  · exact hs.ge p hp
theorem ArM.wlk {n0 b : Nat} {a : Ar} {m : Mem0} (h : ArM n0 b a m) : ∀ p ∈ m, wlk p.2 = false := by
  obtain ⟨hw, ad, n, cap, ms, rfl, hnn, hs, hb⟩ := h
  intro p hp
  rcases List.mem_cons.1 hp with rfl | hp
  · rfl
  · exact hs.wlk p hp
def newAr (k : Int) : Ar := ⟨if k < 0 then 0 else if 4096 < k then 4096 else k, [], 0, 0⟩
theorem newAr_wf (k : Int) : AWf (newAr k) := by
  refine ⟨by show (0 : Nat) ≤ 4096; decide, ?_, by show (0 : Int) ≤ 0 ∧ (0 : Int) ≤ 4096; decide, by show (0 : Int) ≤ 0 ∧ (0 : Int) ≤ ((0 : Nat) : Int); decide⟩
  show 0 ≤ (if k < 0 then (0 : Int) else if 4096 < k then 4096 else k) ∧ (if k < 0 then (0 : Int) else if 4096 < k then 4096 else k) ≤ 4096
  split
  · omega
  · split <;> omega
theorem newAr_most (k : Int) : (if (4096 : Int) < (if 0 > k then 0 else k) then 4096 else (if 0 > k then 0 else k)) = (newAr k).most := by
  show _ = (if k < 0 then (0 : Int) else if 4096 < k then 4096 else k)
  (repeat' split) <;> omega
def ArN (k : Int) (n0 : Nat) (v : Value) (m : Mem0) : Prop := ∃ b, v = .pointer (some ⟨b, 0, none⟩) ∧ ArM n0 b (newAr k) m
theorem ArN.mono {k : Int} : ∀ (n n' : Nat) (v : Value) (m : Mem0), n' ≤ n → ArN k n v m → ArN k n' v m := fun n n' v m hn ⟨b, h1, h⟩ => ⟨b, h1, h.mono hn⟩
set_option maxRecDepth 100000 in
theorem arnew_spec (k : Int) (w : World) : Ret Try.prog 67 #[.int .i64 k] w (fun v w' => Ext w w' ∧ ∃ m, ArN k w.heap.size v m ∧ Mem w' m ∧ ∀ p ∈ m, w.heap.size ≤ p.1) := by
 refine Ret.enterM (l := [.int .i64 k]) Try.func67 rfl Try.ntmps67 rfl ([]) (no) (Mem.nil w) ?_
 refine wpM.seq (wpM.region ?_)
 refine LM.as rfl ?_
 refine LM.nil (QM.sub (e' := [(0, _)]) ⟨rfl, trivial⟩ (QM.then (wpM.seq (wpM.region ?_))))
 refine LM.mv rfl ?_
 refine LM.val (ov_max rfl rfl) ?_
 refine LM.val (ov_min rfl rfl) ?_
 rw [newAr_most]
 refine LM.val (ov_build (cs := #[_, _, _, _]) rfl (by first | rfl | kernel_rfl)) ?_
 refine LM.box rfl rfl (fun b7 hb7 => ?_)
 refine LM.as rfl ?_
 refine LM.nil (QM.sub (e' := [(2, _)]) ⟨rfl, trivial⟩ (QM.then ?_))
 refine wpM.ret ?_
 refine QM.leave (.inl rfl) [.tmp 2] Try.results67 rfl ?_
 intro w' hm' hc' hg'
 exact ⟨hc', _, ⟨b7, rfl, newAr_wf k, none, 0, 0, [], rfl, rfl, .nil _ _ _ _, hb7⟩, (SubM.mem (by (repeat' (first | exact SubM.all _ | refine SubM.cons rfl ?_ | exact SubM.nil _)))) w' hm', fun p hp => by simp only [List.mem_cons, List.not_mem_nil, or_false] at hp; subst hp; assumption⟩
set_option maxRecDepth 100000 in
theorem arLen_spec {n0 b : Nat} {a : Ar} {m : Mem0} (w : World) (h : ArM n0 b a m) (hM : Mem w m) : Ret Try.prog 59 #[.pointer (some ⟨b, 0, none⟩)] w (fun u w' => u = .int .i64 a.n ∧ Ext w w') := by
 obtain ⟨hw, ad, n, cap, ms, rfl, hn, hs, hb⟩ := h
 refine Ret.enterM (l := [.pointer (some ⟨b, 0, none⟩)]) Try.func59 rfl Try.ntmps59 rfl (arC b a.most ad n cap a.free a.n :: (ms ++ [])) (no) (by rw [List.append_nil]; exact hM) ?_
 refine wpM.seq (wpM.region ?_)
 refine LM.as rfl ?_
 refine LM.nil (QM.sub (e' := [(0, _)]) ⟨rfl, trivial⟩ (QM.then ?_))
 refine wpM.seq ?_
 refine wpM.seq (wpM.region ?_)
 refine LM.mv rfl ?_
 refine LM.val (ov_peql (by kernel_rfl) rfl rfl) ?_
 refine LM.nil (QM.sub (e' := [(0, _), (4, _)]) au9 (QM.then ?_))
 refine wpM.condF rfl ?_
 refine wpM.skip ?_
 refine QM.then (wpM.seq (wpM.region ?_))
 refine LM.mv rfl ?_
 refine LM.val (ov_nilCheck rfl) ?_
 refine LM.val (ov_field Try.underlying117 rfl Try.sizeOf3 rfl (k := 3) rfl rfl) ?_
 refine LM.rd (om_ld Try.isAgg3 rfl rfl) ?_
 refine LM.as rfl ?_
 refine LM.nil (QM.sub (e' := [(2, _)]) ⟨rfl, trivial⟩ (QM.then ?_))
 refine wpM.ret ?_
 refine QM.leave (.inl rfl) [.tmp 2] Try.results59 rfl ?_
 intro w' hm' hc' hg'
 exact ⟨rfl, hc'⟩
set_option maxRecDepth 100000 in
theorem arGet_spec {n0 b : Nat} {a : Ar} {m : Mem0} (p : Int) (w : World) (h : ArM n0 b a m) (hM : Mem w m) : Ret Try.prog 54 #[.pointer (some ⟨b, 0, none⟩), .int .i64 p] w (fun u w' => u = .tuple #[.agg (fLk (getA a p)).toArray, .bool (isA a p)] ∧ Ext w w') := by
 have hA := h; obtain ⟨hw, ad, n, cap, ms, rfl, hn, hs, hb⟩ := h; have hlen := hw.len
 refine Ret.enterM (l := [.pointer (some ⟨b, 0, none⟩), .int .i64 p]) Try.func54 rfl Try.ntmps54 rfl (arC b a.most ad n cap a.free a.n :: (ms ++ [])) (no) (by rw [List.append_nil]; exact hM) ?_
 refine wpM.seq (wpM.region ?_)
 refine LM.alloc Try.zeroValue98 rfl (fun b4 hb4 => ?_)
 refine LM.as rfl ?_
 refine LM.nil (QM.sub (e' := [(0, _), (1, _), (4, _)]) au9 (QM.then ?_))
 refine wpM.seq ?_
 refine wpM.seq (wpM.region ?_)
 refine LM.mv rfl (LM.mv rfl ?_)
 refine LM.callE (oc_call (enters_fn Try.func68 (by kernel_rfl) rfl) rfl) (fun w hm hc hg => arIs_spec p w hA (by have h9 := hm.pick (arC b a.most ad n cap a.free a.n :: (ms ++ [])); rw [List.append_nil] at h9; exact h9)) ?_
 first | refine LM.val (ov_notD rfl) ?_ | refine LM.val (ov_not rfl) ?_
 refine LM.nil (QM.sub (e' := [(0, _), (1, _), (4, _), (10, _)]) au9 (QM.then ?_))
 first | refine wpM.condD rfl (fun h1 => ?_) (fun h1 => ?_) | refine wpM.condB rfl (fun h1 => ?_) (fun h1 => ?_)
 ·
  refine wpM.seq (wpM.region ?_)
  refine LM.alloc Try.zeroValue98 rfl (fun b6 hb6 => ?_)
  refine LM.nil (QM.sub (e' := [(4, _), (6, _)]) au9 (QM.then (wpM.seq (wpM.region ?_))))
  refine LM.rd (om_ldW Try.isAgg98 Try.sizeOf98 rfl rfl) ?_
  refine LM.stW Try.sizeOf98 rfl rfl rfl rfl au7 (fun hlt => by first | exact inM_0 | exact inM_1 | exact absurd hlt (by omega)) ?_
  refine LM.as rfl ?_
  refine LM.nil (QM.sub (e' := [(4, _), (5, _)]) au9 (QM.then ?_))
  refine wpM.ret ?_
  refine QM.then_ret ?_
  refine QM.leaveCs (ds := ([])) (.inl rfl) [.cell 4 98, .tmp 5] Try.results54 hd_nil (rc_w rfl Try.isAgg98 Try.sizeOf98 rfl (rc_tmp rfl rc_nil)) ?_
  intro w' hm' hc'
  have hoff : isA a p = false := (by simpa using h1); rw [getA_no hoff, hoff]; exact ⟨rfl, hc'⟩
 have hon : isA a p = true := (by simpa using h1); have hpos := isA_iff.1 hon; obtain ⟨i, rfl⟩ : ∃ i : Nat, p = i := ⟨p.toNat, by omega⟩; have hi : i < a.sl.length := (by omega)
 refine wpM.skip ?_
 refine QM.then (wpM.seq (wpM.region ?_))
 refine LM.mv rfl ?_
 refine LM.val (ov_nilCheck rfl) ?_
 refine LM.val (ov_field Try.underlying117 rfl Try.sizeOf115 rfl (k := 1) rfl rfl) ?_
 refine LM.rd (om_ld Try.isAgg115 rfl rfl) ?_
 refine LM.mv rfl ?_
 refine LM.val (ov_idxSN au6 Try.underlying115 Try.sizeOf114 rfl rfl (by omega)) ?_
 refine LM.val (ov_field Try.underlying114 rfl Try.sizeOf98 rfl (k := 0) rfl rfl) ?_
 refine LM.rd (om_slP (j := 0) (vs := [_, _, _, _, _, _]) (by assumption) (by intro _; rfl) Try.isAgg98 Try.sizeOf98 rfl rfl au3 (by decide) rfl rfl) ?_
 refine LM.stW Try.sizeOf98 rfl rfl rfl rfl au7 (fun hlt => by first | exact inM_0 | exact inM_1 | exact absurd hlt (by omega)) ?_
 refine LM.as rfl ?_
 refine LM.nil (QM.sub (e' := [(4, _), (5, _)]) au9 (QM.then ?_))
 refine wpM.ret ?_
 refine QM.leaveCs (ds := ([])) (.inl rfl) [.cell 4 98, .tmp 5] Try.results54 hd_nil (rc_w rfl Try.isAgg98 Try.sizeOf98 rfl (rc_tmp rfl rc_nil)) ?_
 intro w' hm' hc'
 rw [getA_in hi hon, hon]; exact ⟨rfl, hc'⟩
theorem arm_leaf {n0 b n n' cap cap' : Nat} {ad ad' : Option Addr} {a' : Ar} {most free cnt : Int} {ms ms' M : Mem0} {u0 : Value} {w w' : World} (hw : AWf a') (hn' : n' = a'.sl.length) (hs' : Sl fSt 114 8 n0 a'.sl (.slice ad' n' cap') ms') (hb : n0 ≤ b) (hm : Mem w' M)
    (hs : SubM M (arC b a'.most ad' n' cap' a'.free a'.n :: (ms' ++ []))) (hc : Chg (inM (arC b most ad n cap free cnt :: ms)) w w') (hin : inn ms w.heap.size ms') :
    Upd (arC b most ad n cap free cnt :: ms) (fun u m' => u = u0 ∧ ArM n0 b a' m') w u0 w' := by
  rw [List.append_nil] at hs
  refine ⟨hc, _, ⟨rfl, hw, ad', n', cap', ms', rfl, hn', hs', hb⟩, hs.mem w' hm, fun p hp => ?_⟩
  rcases List.mem_cons.1 hp with rfl | hp
  · exact .inr ⟨_, List.mem_cons_self .., rfl⟩
  · rcases hin p hp with q | ⟨q, hq, e⟩
    · exact .inl q
    · exact .inr ⟨q, List.mem_cons_of_mem _ hq, e⟩
theorem setA_wf {a : Ar} (h : AWf a) (p : Int) (v : Lk) : AWf (setA a p v) := by
  unfold setA; split
  · exact ⟨by show (List.set _ _ _).length ≤ _; rw [List.length_set]; exact h.len, h.most, h.n, by show 0 ≤ a.free ∧ a.free ≤ ((List.set _ _ _).length : Int); rw [List.length_set]; exact h.free⟩
  · exact h
theorem inn_of {m x : Mem0} {k : Nat} (h : ∀ p ∈ x, ∃ q ∈ m, q.1 = p.1) : inn m k x := fun p hp => .inr (h p hp)
set_option maxRecDepth 100000 in
theorem arSet_spec {n0 b : Nat} {a : Ar} {m : Mem0} (p : Int) (v : Lk) (w : World) (h : ArM n0 b a m) (hM : Mem w m) : Ret Try.prog 69 #[.pointer (some ⟨b, 0, none⟩), .int .i64 p, .agg (fLk v).toArray] w (Upd m (fun u m' => u = .bool (isA a p) ∧ ArM n0 b (setA a p v) m') w) := by
 have hA := h; obtain ⟨hw, ad, n, cap, ms, rfl, hn, hs, hb⟩ := h; have hlen := hw.len
 refine Ret.enterM (l := [.pointer (some ⟨b, 0, none⟩), .int .i64 p, .agg (fLk v).toArray]) Try.func69 rfl Try.ntmps69 rfl (arC b a.most ad n cap a.free a.n :: (ms ++ [])) ((inM (arC b a.most ad n cap a.free a.n :: ms))) (by rw [List.append_nil]; exact hM) ?_
 refine wpM.seq (wpM.region ?_)
 refine LM.box rfl rfl (fun b5 hb5 => ?_)
 refine LM.as rfl ?_
 refine LM.nil (QM.sub (e' := [(0, _), (1, _), (5, _)]) au9 (QM.then ?_))
 refine wpM.seq ?_
 refine wpM.seq (wpM.region ?_)
 refine LM.mv rfl (LM.mv rfl ?_)
 refine LM.callE (oc_call (enters_fn Try.func68 (by kernel_rfl) rfl) rfl) (fun w hm hc hg => arIs_spec p w hA (by have h9 := hm.pick (arC b a.most ad n cap a.free a.n :: (ms ++ [])); rw [List.append_nil] at h9; exact h9)) ?_
 first | refine LM.val (ov_notD rfl) ?_ | refine LM.val (ov_not rfl) ?_
 refine LM.nil (QM.sub (e' := [(0, _), (1, _), (5, _), (10, _)]) au9 (QM.then ?_))
 first | refine wpM.condD rfl (fun h1 => ?_) (fun h1 => ?_) | refine wpM.condB rfl (fun h1 => ?_) (fun h1 => ?_)
 ·
  refine wpM.seq (wpM.region ?_)
  refine LM.as rfl ?_
  refine LM.nil (QM.sub (e' := [(6, _)]) ⟨rfl, trivial⟩ (QM.then ?_))
  refine wpM.ret ?_
  refine QM.then_ret ?_
  refine QM.leave (.inl rfl) [.tmp 6] Try.results69 rfl ?_
  intro w' hm' hc' hg'
  have hoff : isA a p = false := (by simpa using h1); rw [hoff, show setA a p v = a from if_neg (by rw [hoff]; simp)]; exact arm_leaf hw hn hs hb hm' (by (repeat' (first | exact SubM.nil _ | refine SubM.cons (by rfl) ?_ | refine SubM.app ?_))) hc' (inn_refl _ _)
 have hon : isA a p = true := (by simpa using h1); have hpos := isA_iff.1 hon; obtain ⟨i, rfl⟩ : ∃ i : Nat, p = i := ⟨p.toNat, by omega⟩; have hi : i < a.sl.length := (by omega)
 refine wpM.skip ?_
 refine QM.then ?_
 refine wpM.seq ?_
 refine wpM.draw [(0, 0), (1, 0), (2, 0), (3, 1), (4, 0), (5, 1), (6, 0), (7, 0), (8, 3)] (by kernel_rfl) (by kernel_rfl) ?_
 refine LD.val rfl rfl (ov_move rfl) ?_
 refine LD.val rfl rfl (ov_nilCheck rfl) ?_
 refine LD.val rfl rfl (ov_field Try.underlying117 rfl Try.sizeOf115 rfl (k := 1) rfl rfl) ?_
 refine LD.rd rfl rfl (om_ld Try.isAgg115 rfl rfl) ?_
 refine LD.val rfl rfl (ov_move rfl) ?_
 refine LD.rd rfl rfl (om_ldW Try.isAgg98 Try.sizeOf98 rfl rfl) ?_
 refine LD.val rfl rfl (ov_idxSN au6 Try.underlying115 Try.sizeOf114 rfl rfl (by omega)) ?_
 refine LD.val rfl rfl (ov_field Try.underlying114 rfl Try.sizeOf98 rfl (k := 0) rfl rfl) ?_
 refine LD.tail rfl rfl ?_
 refine LM.stS ({ a.sl.getD i default with v := v }) (j := 0) (i := i) (by assumption) (by intro _; rfl) Try.sizeOf98 rfl rfl rfl au3 rfl (by decide) (by rfl) rfl (fun p hp hlt => by first | exact ⟨p, List.mem_cons_of_mem _ hp, rfl⟩ | exact absurd hlt (Nat.not_lt_of_le (Sl.ge (by assumption) p hp))) (fun ms1 hss1 hmm1 => ?_)
 refine LM.nil ?_
 refine QM.qn ?_
 refine QM.sub (e' := []) trivial (QM.then (wpM.seq (wpM.region ?_)))
 refine LM.as rfl ?_
 refine LM.nil (QM.sub (e' := [(6, _)]) ⟨rfl, trivial⟩ (QM.then ?_))
 refine wpM.ret ?_
 refine QM.leave (.inl rfl) [.tmp 6] Try.results69 rfl ?_
 intro w' hm' hc' hg'
 rw [hon, show setA a (i : Int) v = { a with sl := a.sl.set i { a.sl.getD i default with v := v } } from if_pos hon]; have k := setA_wf hw (i : Int) v; rw [show setA a (i : Int) v = { a with sl := a.sl.set i { a.sl.getD i default with v := v } } from if_pos hon] at k; exact arm_leaf k (by rw [List.length_set]; exact hn) hss1 hb hm' (by (repeat' (first | exact SubM.nil _ | refine SubM.cons (by rfl) ?_ | refine SubM.app ?_))) hc' (inn_of hmm1)
end Go.Eng
namespace Go.Eng
open Go Go.Proofs Go.RowKit
def cmpU (x y : BitVec 64) : Int := if x.toNat < y.toNat then -1 else if y.toNat < x.toNat then 1 else 0
def cmpI (x y : Int) : Int := if x < y then -1 else if y < x then 1 else 0
def orL : List Int → Int
  | [] => 0
  | x :: l => if x ≠ 0 then x else orL l
theorem orL_at : ∀ {l : List Int} {i : Nat}, (∀ j, j < i → l.getD j 0 = 0) → i < l.length → l.getD i 0 ≠ 0 → orL l = l.getD i 0
  | [], i, _, h, _ => by cases h
  | x :: l, 0, _, _, h => if_pos h
  | x :: l, i + 1, h, hi, hn => by
    have h0 : x = 0 := h 0 (by omega)
    show (if x ≠ 0 then x else orL l) = l.getD i 0
    rw [if_neg (fun z => z h0)]
    exact orL_at (fun j hj => h (j + 1) (by omega)) (Nat.lt_of_succ_lt_succ hi) hn
theorem orL_no : ∀ {l : List Int}, (∀ j, j < l.length → l.getD j 0 = 0) → orL l = 0
  | [], _ => rfl
  | x :: l, h => by
    have h0 : x = 0 := h 0 (by simp)
    show (if x ≠ 0 then x else orL l) = 0
    rw [if_neg (fun z => z h0)]
    exact orL_no (fun j hj => h (j + 1) (by simp only [List.length_cons]; omega))
set_option maxRecDepth 100000 in
theorem nanU_spec (x : BitVec 64) (w : World) : Ret Try.prog 74 #[U x] w (fun v w' => v = .bool false ∧ Ext w w') := by
 refine Ret.enterM (l := [U x]) Try.func74 rfl Try.ntmps74 rfl ([]) (no) (Mem.nil w) ?_
 refine wpM.seq (wpM.region ?_)
 refine LM.as rfl ?_
 refine LM.nil (QM.sub (e' := [(0, _)]) ⟨rfl, trivial⟩ (QM.then (wpM.seq (wpM.region ?_))))
 refine LM.mv rfl (LM.mv rfl ?_)
 refine LM.val (ov_uneq rfl rfl) ?_
 refine LM.as rfl ?_
 refine LM.nil (QM.sub (e' := [(2, _)]) ⟨rfl, trivial⟩ (QM.then ?_))
 refine wpM.ret ?_
 refine QM.leave (.inl rfl) [.tmp 2] Try.results74 rfl ?_
 intro w' hm' hc' hg'
 refine ⟨?_, hc'⟩; show Value.bool (decide _) = _; rw [decide_eq_false (fun z => z rfl)]
set_option maxRecDepth 100000 in
theorem nanI_spec (x : Int) (w : World) : Ret Try.prog 75 #[.int .i64 x] w (fun v w' => v = .bool false ∧ Ext w w') := by
 refine Ret.enterM (l := [.int .i64 x]) Try.func75 rfl Try.ntmps75 rfl ([]) (no) (Mem.nil w) ?_
 refine wpM.seq (wpM.region ?_)
 refine LM.as rfl ?_
 refine LM.nil (QM.sub (e' := [(0, _)]) ⟨rfl, trivial⟩ (QM.then (wpM.seq (wpM.region ?_))))
 refine LM.mv rfl (LM.mv rfl ?_)
 refine LM.val (ov_neq rfl rfl) ?_
 refine LM.as rfl ?_
 refine LM.nil (QM.sub (e' := [(2, _)]) ⟨rfl, trivial⟩ (QM.then ?_))
 refine wpM.ret ?_
 refine QM.leave (.inl rfl) [.tmp 2] Try.results75 rfl ?_
 intro w' hm' hc' hg'
 refine ⟨?_, hc'⟩; show Value.bool (decide _) = _; rw [decide_eq_false (fun z => z rfl)]
set_option maxRecDepth 100000 in
theorem cmpU_spec (x y : BitVec 64) (w : World) : Ret Try.prog 71 #[U x, U y] w (fun v w' => v = .int .i64 (cmpU x y) ∧ Ext w w') := by
 refine Ret.enterM (l := [U x, U y]) Try.func71 rfl Try.ntmps71 rfl ([]) (no) (Mem.nil w) ?_
 refine wpM.seq (wpM.region ?_)
 refine LM.as rfl ?_
 refine LM.nil (QM.sub (e' := [(0, _), (1, _)]) au9 (QM.then (wpM.seq (wpM.region ?_))))
 refine LM.mv rfl ?_
 refine LM.callE (oc_call (enters_fn Try.func74 (by kernel_rfl) rfl) rfl) (fun w hm hc hg => nanU_spec _ w) ?_
 refine LM.as rfl ?_
 refine LM.nil (QM.sub (e' := [(0, _), (1, _), (5, _)]) au9 (QM.then (wpM.seq (wpM.region ?_))))
 refine LM.mv rfl ?_
 refine LM.callE (oc_call (enters_fn Try.func74 (by kernel_rfl) rfl) rfl) (fun w hm hc hg => nanU_spec _ w) ?_
 refine LM.as rfl ?_
 refine LM.nil (QM.sub (e' := [(0, _), (1, _), (5, _), (6, _)]) au9 (QM.then ?_))
 refine wpM.seq ?_
 refine wpM.seq (wpM.region ?_)
 refine LM.mv rfl ?_
 refine LM.nil (QM.sub (e' := [(0, _), (1, _), (6, _), (11, _)]) au9 (QM.then ?_))
 first | refine wpM.condD rfl (fun h1 => ?_) (fun h1 => ?_) | refine wpM.condB rfl (fun h1 => ?_) (fun h1 => ?_)
 ·
  cases h1
 refine wpM.skip ?_
 refine QM.then ?_
 refine wpM.seq ?_
 refine wpM.seq (wpM.region ?_)
 refine LM.mv rfl ?_
 refine LM.nil (QM.sub (e' := [(0, _), (1, _), (13, _)]) au9 (QM.then ?_))
 first | refine wpM.condD rfl (fun h2 => ?_) (fun h2 => ?_) | refine wpM.condB rfl (fun h2 => ?_) (fun h2 => ?_)
 ·
  cases h2
 refine wpM.skip ?_
 refine QM.then ?_
 refine wpM.seq ?_
 refine wpM.seq (wpM.region ?_)
 refine LM.mv rfl (LM.mv rfl ?_)
 refine LM.val (ov_ulss rfl rfl) ?_
 refine LM.nil (QM.sub (e' := [(0, _), (1, _), (16, _)]) au9 (QM.then ?_))
 refine wpM.condD rfl (fun h3 => ?_) (fun h3 => ?_)
 ·
  refine wpM.seq (wpM.region ?_)
  refine LM.as rfl ?_
  refine LM.nil (QM.sub (e' := [(4, _)]) ⟨rfl, trivial⟩ (QM.then ?_))
  refine wpM.ret ?_
  refine QM.then_ret ?_
  refine QM.leave (.inl rfl) [.tmp 4] Try.results71 rfl ?_
  intro w' hm' hc' hg'
  refine ⟨?_, hc'⟩; unfold cmpU; rw [if_pos h3]; rfl
 refine wpM.skip ?_
 refine QM.then ?_
 refine wpM.seq ?_
 refine wpM.seq (wpM.region ?_)
 refine LM.mv rfl (LM.mv rfl ?_)
 refine LM.val (ov_ugtr rfl rfl) ?_
 refine LM.nil (QM.sub (e' := [(19, _)]) ⟨rfl, trivial⟩ (QM.then ?_))
 refine wpM.condD rfl (fun h4 => ?_) (fun h4 => ?_)
 ·
  refine wpM.seq (wpM.region ?_)
  refine LM.as rfl ?_
  refine LM.nil (QM.sub (e' := [(4, _)]) ⟨rfl, trivial⟩ (QM.then ?_))
  refine wpM.ret ?_
  refine QM.then_ret ?_
  refine QM.leave (.inl rfl) [.tmp 4] Try.results71 rfl ?_
  intro w' hm' hc' hg'
  refine ⟨?_, hc'⟩; unfold cmpU; rw [if_neg h3, if_pos h4]; rfl
 refine wpM.skip ?_
 refine QM.then (wpM.seq (wpM.region ?_))
 refine LM.as rfl ?_
 refine LM.nil (QM.sub (e' := [(4, _)]) ⟨rfl, trivial⟩ (QM.then ?_))
 refine wpM.ret ?_
 refine QM.leave (.inl rfl) [.tmp 4] Try.results71 rfl ?_
 intro w' hm' hc' hg'
 refine ⟨?_, hc'⟩; unfold cmpU; rw [if_neg h3, if_neg h4]; rfl
set_option maxRecDepth 100000 in
theorem cmpI_spec (x y : Int) (w : World) : Ret Try.prog 72 #[.int .i64 x, .int .i64 y] w (fun v w' => v = .int .i64 (cmpI x y) ∧ Ext w w') := by
 refine Ret.enterM (l := [.int .i64 x, .int .i64 y]) Try.func72 rfl Try.ntmps72 rfl ([]) (no) (Mem.nil w) ?_
 refine wpM.seq (wpM.region ?_)
 refine LM.as rfl ?_
 refine LM.nil (QM.sub (e' := [(0, _), (1, _)]) au9 (QM.then (wpM.seq (wpM.region ?_))))
 refine LM.mv rfl ?_
 refine LM.callE (oc_call (enters_fn Try.func75 (by kernel_rfl) rfl) rfl) (fun w hm hc hg => nanI_spec _ w) ?_
 refine LM.as rfl ?_
 refine LM.nil (QM.sub (e' := [(0, _), (1, _), (5, _)]) au9 (QM.then (wpM.seq (wpM.region ?_))))
 refine LM.mv rfl ?_
 refine LM.callE (oc_call (enters_fn Try.func75 (by kernel_rfl) rfl) rfl) (fun w hm hc hg => nanI_spec _ w) ?_
 refine LM.as rfl ?_
 refine LM.nil (QM.sub (e' := [(0, _), (1, _), (5, _), (6, _)]) au9 (QM.then ?_))
 refine wpM.seq ?_
 refine wpM.seq (wpM.region ?_)
 refine LM.mv rfl ?_
 refine LM.nil (QM.sub (e' := [(0, _), (1, _), (6, _), (11, _)]) au9 (QM.then ?_))
 first | refine wpM.condD rfl (fun h1 => ?_) (fun h1 => ?_) | refine wpM.condB rfl (fun h1 => ?_) (fun h1 => ?_)
 ·
  cases h1
 refine wpM.skip ?_
 refine QM.then ?_
 refine wpM.seq ?_
 refine wpM.seq (wpM.region ?_)
 refine LM.mv rfl ?_
 refine LM.nil (QM.sub (e' := [(0, _), (1, _), (13, _)]) au9 (QM.then ?_))
 first | refine wpM.condD rfl (fun h2 => ?_) (fun h2 => ?_) | refine wpM.condB rfl (fun h2 => ?_) (fun h2 => ?_)
 ·
  cases h2
 refine wpM.skip ?_
 refine QM.then ?_
 refine wpM.seq ?_
 refine wpM.seq (wpM.region ?_)
 refine LM.mv rfl (LM.mv rfl ?_)
 refine LM.val (ov_lss rfl rfl) ?_
 refine LM.nil (QM.sub (e' := [(0, _), (1, _), (16, _)]) au9 (QM.then ?_))
 refine wpM.condD rfl (fun h3 => ?_) (fun h3 => ?_)
 ·
  refine wpM.seq (wpM.region ?_)
  refine LM.as rfl ?_
  refine LM.nil (QM.sub (e' := [(4, _)]) ⟨rfl, trivial⟩ (QM.then ?_))
  refine wpM.ret ?_
  refine QM.then_ret ?_
  refine QM.leave (.inl rfl) [.tmp 4] Try.results72 rfl ?_
  intro w' hm' hc' hg'
  refine ⟨?_, hc'⟩; unfold cmpI; rw [if_pos h3]; rfl
 refine wpM.skip ?_
 refine QM.then ?_
 refine wpM.seq ?_
 refine wpM.seq (wpM.region ?_)
 refine LM.mv rfl (LM.mv rfl ?_)
 refine LM.val (ov_gtr rfl rfl) ?_
 refine LM.nil (QM.sub (e' := [(19, _)]) ⟨rfl, trivial⟩ (QM.then ?_))
 refine wpM.condD rfl (fun h4 => ?_) (fun h4 => ?_)
 ·
  refine wpM.seq (wpM.region ?_)
  refine LM.as rfl ?_
  refine LM.nil (QM.sub (e' := [(4, _)]) ⟨rfl, trivial⟩ (QM.then ?_))
  refine wpM.ret ?_
  refine QM.then_ret ?_
  refine QM.leave (.inl rfl) [.tmp 4] Try.results72 rfl ?_
  intro w' hm' hc' hg'
  refine ⟨?_, hc'⟩; unfold cmpI; rw [if_neg h3, if_pos h4]; rfl
 refine wpM.skip ?_
 refine QM.then (wpM.seq (wpM.region ?_))
 refine LM.as rfl ?_
 refine LM.nil (QM.sub (e' := [(4, _)]) ⟨rfl, trivial⟩ (QM.then ?_))
 refine wpM.ret ?_
 refine QM.leave (.inl rfl) [.tmp 4] Try.results72 rfl ?_
 intro w' hm' hc' hg'
 refine ⟨?_, hc'⟩; unfold cmpI; rw [if_neg h3, if_neg h4]; rfl
set_option maxRecDepth 100000 in
theorem cmpOr_spec {l : List Int} {ad : Option Addr} {n cap : Nat} (w : World) (hn : n = l.length) (hl : Sr fI 1 l (.slice ad n cap) w) (hlen : l.length ≤ 100) : Ret Try.prog 70 #[.slice ad n cap] w (fun v w' => v = .int .i64 (orL l) ∧ Ext w w') := by
 refine Ret.enterM (l := [.slice ad n cap]) Try.func70 rfl Try.ntmps70 rfl ([]) (no) (Mem.nil w) ?_
 refine wpM.seq (wpM.region ?_)
 refine LM.as rfl ?_
 refine LM.nil (QM.sub (e' := [(0, _)]) ⟨rfl, trivial⟩ (QM.then (wpM.seq (wpM.region ?_))))
 refine LM.as rfl ?_
 refine LM.nil (QM.sub (e' := [(0, _), (3, _)]) au9 (QM.then ?_))
 refine wpM.seq ?_
 refine wpM.seq (wpM.region ?_)
 refine LM.mv rfl ?_
 refine LM.val (ov_len Try.underlying29 rfl) ?_
 refine LM.mv rfl ?_
 refine LM.nil (QM.sub (e' := [(3, _), (6, _), (7, _), (8, _)]) au9 (QM.then ?_))
 refine wpM.block ?_
 refine wpM.loopK0 (α := Nat) (fun i => [(8, .int .i64 (i : Nat))]) [(3, _), (6, _), (7, _)] (fun i => []) (fun i => i ≤ l.length ∧ ∀ j, j < i → l.getD j 0 = 0) (fun i => l.length - i) (0) ⟨au2, rfl, rfl, rfl, trivial⟩ au1 ⟨Nat.zero_le _, fun j hj => by omega⟩ ?_
 rintro i ⟨hi, hz⟩
 change wpM _ _ _ _ _ _ _ ([]) _ _ _
 refine wpM.seq (wpM.region ?_)
 refine LM.val (ov_lss rfl rfl) ?_
 refine LM.nil (QM.sub (e' := [(3, _), (6, _), (7, _), (8, _), (9, _)]) au9 (QM.then ?_))
 refine wpM.seq ?_
 refine wpM.condD rfl (fun h1 => ?_) (fun h1 => ?_)
 ·
  refine wpM.skip ?_
  refine QM.then ?_
  refine wpM.seq ?_
  refine wpM.block ?_
  refine wpM.seq (wpM.region ?_)
  refine LM.val (ov_idxSN au6 Try.underlying29 Try.sizeOf3 rfl rfl (by omega)) ?_
  first | refine LM.rd (om_sl1 (by assumption) (by intro _; rfl) Try.isAgg3 rfl rfl (by exact getq 0 au4) (by rfl)) ?_ | refine LM.rdC (om_sr1 (by assumption) Try.isAgg3 rfl rfl (by exact getq 0 au4) (by rfl) id) ?_ | refine LM.rd (om_ld Try.isAgg3 rfl rfl) ?_
  refine LM.as rfl ?_
  refine LM.nil (QM.sub (e' := [(3, _), (5, _), (6, _), (7, _), (8, _)]) au9 (QM.then (wpM.seq (wpM.region ?_))))
  refine LM.mv rfl (LM.mv rfl ?_)
  refine LM.val (ov_neq rfl rfl) ?_
  refine LM.nil (QM.sub (e' := [(3, _), (5, _), (6, _), (7, _), (8, _), (14, _)]) au9 (QM.then ?_))
  refine wpM.condD rfl (fun h2 => ?_) (fun h2 => ?_)
  ·
   refine wpM.seq (wpM.region ?_)
   refine LM.mv rfl (LM.as rfl ?_)
   refine LM.nil (QM.sub (e' := [(2, _)]) ⟨rfl, trivial⟩ (QM.then ?_))
   refine wpM.ret ?_
   refine QM.block_ret ?_
   refine QM.then_ret ?_
   refine QM.then_ret ?_
   refine QM.block_ret ?_
   refine QM.then_ret ?_
   refine QM.leave (.inl rfl) [.tmp 2] Try.results70 rfl ?_
   intro w' hm' hc' hg'
   refine ⟨?_, hc'⟩; rw [orL_at hz (by omega) h2]; rfl
  refine wpM.skip ?_
  refine QM.block_normal ?_
  refine QM.then (wpM.region ?_)
  refine LM.val (ov_add64 rfl rfl (by omega)) ?_
  refine LM.mv rfl ?_
  refine LM.nil (QM.sub (e' := [(3, _), (6, _), (7, _), (8, _)]) au9 ?_)
  refine QM.againK (i + 1) ⟨au2, rfl, rfl, rfl, trivial⟩ au1 (fun _ h => h) ?_ ?_
  · exact ⟨by omega, fun j hj => by rcases Nat.lt_or_ge j i with z | z; exact hz j z; rw [show j = i by omega]; exact Classical.not_not.1 h2⟩
  · omega
 refine wpM.exit ?_
 refine QM.then_exit ?_
 refine QM.then_exit ?_
 refine QM.block_hit ?_
 refine QM.then (wpM.seq (wpM.region ?_))
 refine LM.mv rfl (LM.as rfl ?_)
 refine LM.nil (QM.sub (e' := [(2, _)]) ⟨rfl, trivial⟩ (QM.then ?_))
 refine wpM.ret ?_
 refine QM.leave (.inl rfl) [.tmp 2] Try.results70 rfl ?_
 intro w' hm' hc' hg'
 refine ⟨?_, hc'⟩; rw [orL_no (fun j hj => hz j (by omega))]; rfl
end Go.Eng
namespace Go.Eng
open Go Go.Proofs Go.RowKit
structure Hi where
  V : BitVec 64
  id : Int
  x : Int
deriving DecidableEq
instance : Inhabited Hi := ⟨⟨0#64, 0, 0⟩⟩
def fHi (t : Hi) : List Value := [U t.V, .int .i64 t.id, .int .i64 t.x]
def fKy (t : Hi) : List Value := [U t.V, .int .i64 t.id]
def hiLt (a b : Hi) : Prop := a.V.toNat < b.V.toNat ∨ (a.V.toNat = b.V.toNat ∧ a.id < b.id)
instance (a b : Hi) : Decidable (hiLt a b) := inferInstanceAs (Decidable (_ ∨ _))
theorem cmpU_or (x y : BitVec 64) : cmpU x y = -1 ∧ x.toNat < y.toNat ∨ cmpU x y = 0 ∧ x.toNat = y.toNat ∨ cmpU x y = 1 ∧ y.toNat < x.toNat := by
  unfold cmpU
  rcases Nat.lt_trichotomy x.toNat y.toNat with h | h | h
  · exact .inl ⟨if_pos h, h⟩
  · exact .inr (.inl ⟨by rw [if_neg (by omega), if_neg (by omega)], h⟩)
  · exact .inr (.inr ⟨by rw [if_neg (by omega), if_pos h], h⟩)
theorem cmpI_or (x y : Int) : cmpI x y = -1 ∧ x < y ∨ cmpI x y = 0 ∧ x = y ∨ cmpI x y = 1 ∧ y < x := by
  unfold cmpI
  rcases Int.lt_trichotomy x y with h | h | h
  · exact .inl ⟨if_pos h, h⟩
  · exact .inr (.inl ⟨by rw [if_neg (by omega), if_neg (by omega)], h⟩)
  · exact .inr (.inr ⟨by rw [if_neg (by omega), if_pos h], h⟩)
theorem hi_or (a b : Hi) : orL [cmpU a.V b.V, cmpI a.id b.id] < 0 ↔ hiLt a b := by
  unfold hiLt
  show (if cmpU a.V b.V ≠ 0 then cmpU a.V b.V else if cmpI a.id b.id ≠ 0 then cmpI a.id b.id else 0) < 0 ↔ _
  rcases cmpU_or a.V b.V with ⟨e, h⟩ | ⟨e, h⟩ | ⟨e, h⟩ <;> rcases cmpI_or a.id b.id with ⟨e2, h2⟩ | ⟨e2, h2⟩ | ⟨e2, h2⟩ <;> rw [e, e2] <;> constructor <;> intro q <;> first | omega | (simp at q; done) | (simp; omega) | (exfalso; revert q; decide)
abbrev hpC (b : Nat) (most : Int) (ad : Option Addr) (n cap bm : Nat) : Nat × Obj := (b, .cells #[.int .i64 most, .slice ad n cap, .map (some bm)] 85 (0, 0))
set_option maxRecDepth 100000 in
theorem hless_spec {n0 b n cap bm : Nat} {most : Int} {ad : Option Addr} {l : List Hi} {ms : Mem0} (i k : Nat) (w : World) (hn : n = l.length) (hs : Sl fHi 91 3 n0 l (.slice ad n cap) ms) (hi : i < l.length) (hk : k < l.length) (hM : Mem w (hpC b most ad n cap bm :: ms)) : Ret Try.prog 62 #[.pointer (some ⟨b, 0, none⟩), .int .i64 (i : Nat), .int .i64 (k : Nat)] w (fun u w' => u = .bool (decide (hiLt (l.getD i default) (l.getD k default))) ∧ Ext w w') := by
 refine Ret.enterM (l := [.pointer (some ⟨b, 0, none⟩), .int .i64 (i : Nat), .int .i64 (k : Nat)]) Try.func62 rfl Try.ntmps62 rfl (hpC b most ad n cap bm :: (ms ++ [])) (no) (by rw [List.append_nil]; exact hM) ?_
 refine wpM.seq (wpM.region ?_)
 refine LM.as rfl ?_
 refine LM.nil (QM.sub (e' := [(0, _), (1, _), (2, _)]) au9 (QM.then ?_))
 refine wpM.seq ?_
 refine wpM.joinK (α := Nat × Nat) (fun ⟨b7, b8⟩ => [(7, .pointer (some ⟨b7, 0, none⟩)), (8, .pointer (some ⟨b8, 0, none⟩))]) [] (fun ⟨b7, b8⟩ => (b7, .cells (fKy (l.getD i default)).toArray 68 (0, 0)) :: (b8, .cells (fKy (l.getD k default)).toArray 68 (0, 0)) :: []) (fun ⟨b7, b8⟩ => w.heap.size ≤ b7 ∧ w.heap.size ≤ b8) trivial ?_ ?_
 ·
  refine wpM.keep (hpC b most ad n cap bm :: (ms ++ [])) (fun _ => True) (.one 0 0 (.one 1 0 (.one 2 0 (.one 3 1 (.one 4 0 (.one 5 0 (.one 6 0 (.one 7 1 (.one 8 0 (.one 9 0 (.one 10 0 (.one 11 1 (.one 12 0 (.one 13 0 (.one 14 0 (.one 15 1 (.fork 16 (.one 17 2 (.one 18 2 (.one 19 2 .nil))) 17 (.one 16 2 (.one 18 2 (.one 19 2 .nil)))))))))))))))))))) (by kernel_rfl) (by kernel_rfl) au1 (fun _ _ => trivial) ?_
  refine KD.val rfl rfl (ov_move rfl) ?_
  refine KD.val rfl rfl (ov_nilCheck rfl) ?_
  refine KD.val rfl rfl (ov_field Try.underlying85 rfl Try.sizeOf83 rfl (k := 1) rfl rfl) ?_
  refine KD.rd rfl rfl (om_ld Try.isAgg83 rfl rfl) ?_
  refine KD.val rfl rfl (ov_move rfl) ?_
  refine KD.val rfl rfl (ov_idxSN au6 Try.underlying83 Try.sizeOf91 rfl rfl (by omega)) ?_
  refine KD.val rfl rfl (ov_field Try.underlying91 rfl Try.sizeOf68 rfl (k := 0) rfl rfl) ?_
  refine KD.rd rfl rfl (om_slP (j := 0) (vs := [_, _]) (by assumption) (by intro _; rfl) Try.isAgg68 Try.sizeOf68 rfl rfl au3 (by decide) rfl rfl) ?_
  refine KD.val rfl rfl (ov_move rfl) ?_
  refine KD.val rfl rfl (ov_nilCheck rfl) ?_
  refine KD.val rfl rfl (ov_field Try.underlying85 rfl Try.sizeOf83 rfl (k := 1) rfl rfl) ?_
  refine KD.rd rfl rfl (om_ld Try.isAgg83 rfl rfl) ?_
  refine KD.val rfl rfl (ov_move rfl) ?_
  refine KD.val rfl rfl (ov_idxSN au6 Try.underlying83 Try.sizeOf91 rfl rfl (by omega)) ?_
  refine KD.val rfl rfl (ov_field Try.underlying91 rfl Try.sizeOf68 rfl (k := 0) rfl rfl) ?_
  refine KD.rd rfl rfl (om_slP (j := 0) (vs := [_, _]) (by assumption) (by intro _; rfl) Try.isAgg68 Try.sizeOf68 rfl rfl au3 (by decide) rfl rfl) ?_
  refine KD.fork rfl rfl ?_ ?_
  ·
   refine LM.alloc Try.zeroValue68 rfl (fun b7 hb7 => ?_)
   refine LM.nil ?_
   refine QM.one au1 (fun _ _ => trivial) ?_
   refine KD.one rfl ?_
   refine LM.alloc Try.zeroValue68 rfl (fun b8 hb8 => ?_)
   refine LM.nil ?_
   refine QM.one au1 (fun _ _ => trivial) ?_
   refine KD.one rfl ?_
   refine LM.stW Try.sizeOf68 rfl rfl rfl rfl au7 au8 ?_
   refine LM.nil ?_
   refine QM.one au1 (fun _ _ => trivial) ?_
   refine KD.one rfl ?_
   refine LM.stW Try.sizeOf68 rfl rfl rfl rfl au7 au8 ?_
   refine LM.nil ?_
   refine QM.one au1 (fun _ _ => trivial) ?_
   refine KD.nil ?_
   refine QM.sub (e' := [(7, _), (8, _)]) au9 ?_
   refine QM.meetK (b7, b8) ⟨au2, au2, trivial⟩ au1 ?_
   · exact ⟨by assumption, by assumption⟩
  refine LM.alloc Try.zeroValue68 rfl (fun b8 hb8 => ?_)
  refine LM.nil ?_
  refine QM.one au1 (fun _ _ => trivial) ?_
  refine KD.one rfl ?_
  refine LM.alloc Try.zeroValue68 rfl (fun b7 hb7 => ?_)
  refine LM.nil ?_
  refine QM.one au1 (fun _ _ => trivial) ?_
  refine KD.one rfl ?_
  refine LM.stW Try.sizeOf68 rfl rfl rfl rfl au7 au8 ?_
  refine LM.nil ?_
  refine QM.one au1 (fun _ _ => trivial) ?_
  refine KD.one rfl ?_
  refine LM.stW Try.sizeOf68 rfl rfl rfl rfl au7 au8 ?_
  refine LM.nil ?_
  refine QM.one au1 (fun _ _ => trivial) ?_
  refine KD.nil ?_
  refine QM.sub (e' := [(7, _), (8, _)]) au9 ?_
  refine QM.meetK (b7, b8) ⟨au2, au2, trivial⟩ au1 ?_
  · exact ⟨by assumption, by assumption⟩
 rintro ⟨b7, b8⟩ ⟨hb7, hb8⟩
 change QM _ _ _ _ _ ((b7, .cells (fKy (l.getD i default)).toArray 68 (0, 0)) :: (b8, .cells (fKy (l.getD k default)).toArray 68 (0, 0)) :: []) _ _ _
 refine QM.then ?_
 refine wpM.seq ?_
 refine wpM.draw [(0, 0), (1, 1), (2, 0), (3, 1), (5, 0), (6, 1), (7, 0), (8, 1), (4, 2), (9, 2), (10, 3), (11, 3), (12, 3), (13, 3)] (by kernel_rfl) (by kernel_rfl) ?_
 refine LD.val rfl rfl (ov_field Try.underlying68 rfl Try.sizeOf30 rfl (k := 0) rfl rfl) ?_
 refine LD.rd rfl rfl (om_ld Try.isAgg30 rfl rfl) ?_
 refine LD.val rfl rfl (ov_field Try.underlying68 rfl Try.sizeOf30 rfl (k := 0) rfl rfl) ?_
 refine LD.rd rfl rfl (om_ld Try.isAgg30 rfl rfl) ?_
 refine LD.val rfl rfl (ov_field Try.underlying68 rfl Try.sizeOf3 rfl (k := 1) rfl rfl) ?_
 refine LD.rd rfl rfl (om_ld Try.isAgg3 rfl rfl) ?_
 refine LD.val rfl rfl (ov_field Try.underlying68 rfl Try.sizeOf3 rfl (k := 1) rfl rfl) ?_
 refine LD.rd rfl rfl (om_ld Try.isAgg3 rfl rfl) ?_
 refine LD.callE rfl rfl (oc_call (enters_fn Try.func71 (by kernel_rfl) rfl) rfl) (fun w hm hc hg => cmpU_spec _ _ w) ?_
 refine LD.callE rfl rfl (oc_call (enters_fn Try.func72 (by kernel_rfl) rfl) rfl) (fun w hm hc hg => cmpI_spec _ _ w) ?_
 refine LD.tail rfl rfl ?_
 refine LM.row (vs := [_, _]) Try.underlying29 Try.sizeOf3 Try.zeroValue3 rfl rfl rfl rfl rfl rfl (fun b35 hb35 => ?_)
 have hs35 : Sl fI 3 1 w.heap.size [cmpU (l.getD i default).V (l.getD k default).V, cmpI (l.getD i default).id (l.getD k default).id] (.slice (some ⟨b35, 0, none⟩) 2 2) [(b35, .cells (arr fI [cmpU (l.getD i default).V (l.getD k default).V, cmpI (l.getD i default).id (l.getD k default).id] []) 3 (0, 0))] := .inr ⟨b35, 2, [], hb35, rfl, rfl, Nat.le_refl 2, by unfold maxLen; decide, rfl⟩
 refine LM.callE (oc_call (enters_fn Try.func70 (by kernel_rfl) rfl) rfl) (fun w hm hc hg => cmpOr_spec (l := [cmpU (l.getD i default).V (l.getD k default).V, cmpI (l.getD i default).id (l.getD k default).id]) w rfl (by have hm2 : Mem w ((b35, .cells (arr fI [cmpU (l.getD i default).V (l.getD k default).V, cmpI (l.getD i default).id (l.getD k default).id] []) 3 (0, 0)) :: _) := hm; exact hs35.srM (by intro _; rfl) hm2) (by show 2 ≤ 100; decide)) ?_
 refine LM.val (ov_lss rfl rfl) ?_
 refine LM.as rfl ?_
 refine LM.nil ?_
 refine QM.qn ?_
 refine QM.sub (e' := [(6, _)]) ⟨rfl, trivial⟩ (QM.then ?_)
 refine wpM.ret ?_
 refine QM.leave (.inl rfl) [.tmp 6] Try.results62 rfl ?_
 intro w' hm' hc' hg'
 refine ⟨?_, hc'⟩; show Value.bool (decide (orL _ < 0)) = _; congr 1; exact decide_eq_decide.2 (hi_or _ _)
end Go.Eng
namespace Go.Eng
open Go Go.Proofs Go.RowKit
def swpL (l : List Hi) (i k : Nat) : List Hi := (l.set i (l.getD k default)).set k (l.getD i default)
theorem swpL_len (l : List Hi) (i k : Nat) : (swpL l i k).length = l.length := by unfold swpL; rw [List.length_set, List.length_set]
theorem inM_hs {a c : Nat × Obj} {m : Mem0} : ∀ p ∈ m, inM (a :: c :: m) p.1 := fun p hp => ⟨p, List.mem_cons_of_mem _ (List.mem_cons_of_mem _ hp), rfl⟩
theorem hs_leaf {n0 b n cap bm cl cl' : Nat} {most : Int} {ad : Option Addr} {l' : List Hi} {at' : List (Int × Value)} {es es' : Array MapEntry} {ms ms' M : Mem0} {w w' : World} (hs : Sl fHi 91 3 n0 l' (.slice ad n cap) ms') (he : EnsS .i64 es' cl' at') (hm : Mem w' M) (hsub : SubM M (hpC b most ad n cap bm :: (bm, .map es' cl') :: (ms' ++ []))) (hc : Chg (inM (hpC b most ad n cap bm :: (bm, .map es cl) :: ms)) w w') (hin : inn ms w.heap.size ms') :
    Upd (hpC b most ad n cap bm :: (bm, .map es cl) :: ms) (fun u m' => u = .tuple #[] ∧ ∃ es' cl' ms', m' = hpC b most ad n cap bm :: (bm, .map es' cl') :: ms' ∧ Sl fHi 91 3 n0 l' (.slice ad n cap) ms' ∧ EnsS .i64 es' cl' at') w (.tuple #[]) w' := by
  rw [List.append_nil] at hsub
  refine ⟨hc, _, ⟨rfl, es', cl', ms', rfl, hs, he⟩, hsub.mem w' hm, fun p hp => ?_⟩
  simp only [List.mem_cons] at hp
  rcases hp with rfl | rfl | hp
  · exact .inr ⟨_, List.mem_cons_self .., rfl⟩
  · exact .inr ⟨(bm, .map es cl), by simp only [List.mem_cons, true_or, or_true], rfl⟩
  · rcases hin p hp with q | ⟨q, hq, e⟩
    · exact .inl q
    · exact .inr ⟨q, List.mem_cons_of_mem _ (List.mem_cons_of_mem _ hq), e⟩
set_option maxRecDepth 100000 in
theorem hswap_spec {n0 b n cap bm cl : Nat} {most : Int} {ad : Option Addr} {es : Array MapEntry} {atm : List (Int × Value)} {l : List Hi} {ms : Mem0} (i k : Nat) (w : World) (hn : n = l.length) (hs : Sl fHi 91 3 n0 l (.slice ad n cap) ms) (he : EnsS .i64 es cl atm) (hi : i < l.length) (hk : k < l.length) (hM : Mem w (hpC b most ad n cap bm :: (bm, .map es cl) :: ms)) : Ret Try.prog 63 #[.pointer (some ⟨b, 0, none⟩), .int .i64 (i : Nat), .int .i64 (k : Nat)] w (Upd (hpC b most ad n cap bm :: (bm, .map es cl) :: ms) (fun u m' => u = .tuple #[] ∧ ∃ es' cl' ms', m' = hpC b most ad n cap bm :: (bm, .map es' cl') :: ms' ∧ Sl fHi 91 3 n0 (swpL l i k) (.slice ad n cap) ms' ∧ EnsS .i64 es' cl' (aput (aput atm ((swpL l i k).getD i default).id (.int .i64 (i : Nat))) ((swpL l i k).getD k default).id (.int .i64 (k : Nat)))) w) := by
 have hll := swpL_len l i k
 refine Ret.enterM (l := [.pointer (some ⟨b, 0, none⟩), .int .i64 (i : Nat), .int .i64 (k : Nat)]) Try.func63 rfl Try.ntmps63 rfl (hpC b most ad n cap bm :: (bm, .map es cl) :: (ms ++ [])) ((inM (hpC b most ad n cap bm :: (bm, .map es cl) :: ms))) (by rw [List.append_nil]; exact hM) ?_
 refine wpM.seq ?_
 refine wpM.joinK (α := Mem0) (fun m2 => []) [(0, _), (1, _), (2, _)] (fun m2 => hpC b most ad n cap bm :: (bm, .map es cl) :: (m2 ++ [])) (fun m2 => Sl fHi 91 3 n0 (swpL l i k) (.slice ad n cap) m2 ∧ inn ms w.heap.size m2) ⟨rfl, rfl, rfl, trivial⟩ ?_ ?_
 ·
  refine wpM.draw [(0, 0), (1, 0), (2, 0), (3, 1), (4, 0), (5, 0), (6, 0), (7, 0), (8, 1), (9, 0), (10, 0), (11, 0), (12, 0), (13, 1), (14, 0), (15, 0), (16, 1), (17, 0), (18, 0), (19, 0), (20, 1), (21, 0), (22, 0), (23, 1), (24, 0), (25, 3), (26, 3), (27, 3)] (by kernel_rfl) (by kernel_rfl) ?_
  refine LD.val rfl rfl (ov_move rfl) ?_
  refine LD.val rfl rfl (ov_nilCheck rfl) ?_
  refine LD.val rfl rfl (ov_field Try.underlying85 rfl Try.sizeOf83 rfl (k := 1) rfl rfl) ?_
  refine LD.rd rfl rfl (om_ld Try.isAgg83 rfl rfl) ?_
  refine LD.val rfl rfl (ov_move rfl) ?_
  refine LD.val rfl rfl (ov_move rfl) ?_
  refine LD.val rfl rfl (ov_nilCheck rfl) ?_
  refine LD.val rfl rfl (ov_field Try.underlying85 rfl Try.sizeOf83 rfl (k := 1) rfl rfl) ?_
  refine LD.rd rfl rfl (om_ld Try.isAgg83 rfl rfl) ?_
  refine LD.val rfl rfl (ov_move rfl) ?_
  refine LD.val rfl rfl (ov_move rfl) ?_
  refine LD.val rfl rfl (ov_nilCheck rfl) ?_
  refine LD.val rfl rfl (ov_field Try.underlying85 rfl Try.sizeOf83 rfl (k := 1) rfl rfl) ?_
  refine LD.rd rfl rfl (om_ld Try.isAgg83 rfl rfl) ?_
  refine LD.val rfl rfl (ov_move rfl) ?_
  refine LD.val rfl rfl (ov_idxSN au6 Try.underlying83 Try.sizeOf91 rfl rfl (by omega)) ?_
  refine LD.rd rfl rfl (om_slA (by assumption) (by intro _; rfl) Try.isAgg91 Try.sizeOf91 rfl au3) ?_
  refine LD.val rfl rfl (ov_move rfl) ?_
  refine LD.val rfl rfl (ov_nilCheck rfl) ?_
  refine LD.val rfl rfl (ov_field Try.underlying85 rfl Try.sizeOf83 rfl (k := 1) rfl rfl) ?_
  refine LD.rd rfl rfl (om_ld Try.isAgg83 rfl rfl) ?_
  refine LD.val rfl rfl (ov_move rfl) ?_
  refine LD.val rfl rfl (ov_idxSN au6 Try.underlying83 Try.sizeOf91 rfl rfl (by omega)) ?_
  refine LD.rd rfl rfl (om_slA (by assumption) (by intro _; rfl) Try.isAgg91 Try.sizeOf91 rfl au3) ?_
  refine LD.val rfl rfl (ov_idxSN au6 Try.underlying83 Try.sizeOf91 rfl rfl (by omega)) ?_
  refine LD.tail rfl rfl ?_
  refine LM.stS ((l.getD k default)) (j := 0) (i := i) (by assumption) (by intro _; rfl) Try.sizeOf91 rfl rfl rfl au3 rfl (by decide) (by rfl) rfl (fun p hp hlt => by first | exact inM_hs p hp | (obtain ⟨q, hq, e⟩ := hmm1 p hp; rw [← e]; exact inM_hs q hq) | exact absurd hlt (Nat.not_lt_of_le (Sl.ge (by assumption) p hp))) (fun ms1 hss1 hmm1 => ?_)
  refine LM.val (ov_idxSN au6 Try.underlying83 Try.sizeOf91 rfl rfl (by omega)) ?_
  refine LM.stS ((l.getD i default)) (j := 0) (i := k) (by assumption) (by intro _; rfl) Try.sizeOf91 rfl rfl rfl au3 rfl (by decide) (by rfl) rfl (fun p hp hlt => by first | exact inM_hs p hp | (obtain ⟨q, hq, e⟩ := hmm1 p hp; rw [← e]; exact inM_hs q hq) | exact absurd hlt (Nat.not_lt_of_le (Sl.ge (by assumption) p hp))) (fun ms2 hss2 hmm2 => ?_)
  refine LM.nil ?_
  refine QM.qn ?_
  refine QM.sub (e' := [(0, _), (1, _), (2, _)]) au9 ?_
  refine QM.meetK (ms2) ⟨rfl, rfl, rfl, trivial⟩ au1 ?_
  · exact ⟨hss2, fun p hp => .inr (by obtain ⟨q, hq, e⟩ := hmm2 p hp; obtain ⟨q2, hq2, e2⟩ := hmm1 q hq; exact ⟨q2, hq2, e2.trans e⟩)⟩
 rintro m2 ⟨hs2, hin2⟩
 change QM _ _ _ _ _ (hpC b most ad n cap bm :: (bm, .map es cl) :: (m2 ++ [])) _ _ _
 refine QM.then ?_
 refine wpM.keep (hpC b most ad n cap bm :: (m2 ++ [])) (fun _ => True) (.one 0 0 (.one 1 0 (.one 2 0 (.one 3 1 (.one 4 0 (.one 5 0 (.one 6 0 (.one 7 1 (.one 8 0 (.one 9 0 (.one 10 0 (.one 11 0 (.one 12 1 (.one 13 0 (.one 14 0 (.one 15 0 (.one 16 1 (.one 17 0 (.one 18 0 (.one 19 0 (.one 20 1 (.one 21 0 (.one 22 0 (.one 23 0 (.one 24 0 (.one 25 1 (.one 26 0 (.one 27 0 (.one 28 2 (.one 29 0 (.one 30 2 (.one 31 2 (.one 32 0 (.one 33 2 .nil)))))))))))))))))))))))))))))))))) (by kernel_rfl) (by kernel_rfl) au1 (fun _ _ => trivial) ?_
 refine KD.val rfl rfl (ov_move rfl) ?_
 refine KD.val rfl rfl (ov_nilCheck rfl) ?_
 refine KD.val rfl rfl (ov_field Try.underlying85 rfl Try.sizeOf82 rfl (k := 2) rfl rfl) ?_
 refine KD.rd rfl rfl (om_ld Try.isAgg82 rfl rfl) ?_
 refine KD.val rfl rfl (ov_move rfl) ?_
 refine KD.val rfl rfl (ov_nilCheck rfl) ?_
 refine KD.val rfl rfl (ov_field Try.underlying85 rfl Try.sizeOf83 rfl (k := 1) rfl rfl) ?_
 refine KD.rd rfl rfl (om_ld Try.isAgg83 rfl rfl) ?_
 refine KD.val rfl rfl (ov_move rfl) ?_
 refine KD.val rfl rfl (ov_idxSN au6 Try.underlying83 Try.sizeOf91 rfl rfl (by omega)) ?_
 refine KD.val rfl rfl (ov_field Try.underlying91 rfl Try.sizeOf68 rfl (k := 0) rfl rfl) ?_
 refine KD.val rfl rfl (ov_field Try.underlying68 rfl Try.sizeOf3 rfl (k := 1) rfl rfl) ?_
 refine KD.rd rfl rfl (om_slE (j := 1) (by assumption) (by intro _; rfl) Try.isAgg3 rfl rfl au3 rfl (by rfl)) ?_
 refine KD.val rfl rfl (ov_move rfl) ?_
 refine KD.val rfl rfl (ov_nilCheck rfl) ?_
 refine KD.val rfl rfl (ov_field Try.underlying85 rfl Try.sizeOf82 rfl (k := 2) rfl rfl) ?_
 refine KD.rd rfl rfl (om_ld Try.isAgg82 rfl rfl) ?_
 refine KD.val rfl rfl (ov_move rfl) ?_
 refine KD.val rfl rfl (ov_nilCheck rfl) ?_
 refine KD.val rfl rfl (ov_field Try.underlying85 rfl Try.sizeOf83 rfl (k := 1) rfl rfl) ?_
 refine KD.rd rfl rfl (om_ld Try.isAgg83 rfl rfl) ?_
 refine KD.val rfl rfl (ov_move rfl) ?_
 refine KD.val rfl rfl (ov_idxSN au6 Try.underlying83 Try.sizeOf91 rfl rfl (by omega)) ?_
 refine KD.val rfl rfl (ov_field Try.underlying91 rfl Try.sizeOf68 rfl (k := 0) rfl rfl) ?_
 refine KD.val rfl rfl (ov_field Try.underlying68 rfl Try.sizeOf3 rfl (k := 1) rfl rfl) ?_
 refine KD.rd rfl rfl (om_slE (j := 1) (by assumption) (by intro _; rfl) Try.isAgg3 rfl rfl au3 rfl (by rfl)) ?_
 refine KD.val rfl rfl (ov_move rfl) ?_
 refine KD.val rfl rfl (ov_move rfl) ?_
 refine KD.one rfl ?_
 refine LM.mEntry Try.underlying82 Try.underlying3 Try.zeroValue3 rfl rfl he (fun hlt => by first | exact inM_0 | exact inM_1 | exact absurd hlt (by omega)) rfl (fun ew1 cw1 uw1 β1 hew1 hA1 => ?_)
 refine LM.nil ?_
 refine QM.one au1 (fun _ _ => trivial) ?_
 refine KD.val rfl rfl (ov_extract rfl rfl) ?_
 refine KD.one rfl ?_
 refine LM.eStore rfl rfl rfl hew1 hA1 (fun hlt => by first | exact inM_0 | exact inM_1 | exact absurd hlt (by omega)) (fun ew2 hew2 => ?_)
 refine LM.nil ?_
 refine QM.one au1 (fun _ _ => trivial) ?_
 refine KD.one rfl ?_
 refine LM.mEntry Try.underlying82 Try.underlying3 Try.zeroValue3 rfl rfl hew2 (fun hlt => by first | exact inM_0 | exact inM_1 | exact absurd hlt (by omega)) rfl (fun eg1 cg1 ug1 β2 heg1 hA2 => ?_)
 refine LM.nil ?_
 refine QM.one au1 (fun _ _ => trivial) ?_
 refine KD.val rfl rfl (ov_extract rfl rfl) ?_
 refine KD.one rfl ?_
 refine LM.eStore rfl rfl rfl heg1 hA2 (fun hlt => by first | exact inM_0 | exact inM_1 | exact absurd hlt (by omega)) (fun eg2 heg2 => ?_)
 refine LM.nil ?_
 refine QM.one au1 (fun _ _ => trivial) ?_
 refine KD.nil ?_
 refine QM.sub (e' := []) trivial ?_
 refine QM.leave (.inr rfl) [] Try.results63 rfl ?_
 intro w' hm' hc' hg'
 exact hs_leaf hs2 heg2 hm' (by (repeat' (first | exact SubM.nil _ | refine SubM.cons (by rfl) ?_ | refine SubM.app ?_))) hc' hin2
end Go.Eng
