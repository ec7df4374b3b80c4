/- The calculus, tenth part: iterators that have memory of their own. No condition. -/
import Derived.Test.YtmkblojlimhkiaaM1
import Derived.ProofKit
import Derived.OpenShut
import Derived.ShutString
import Derived.ChangeOld
import Derived.Below
import Derived.DataElems
import Derived.Lib.Strings
import Derived.Laws.IdiomStrings
import Derived.Lib.OthersKept
import Derived.Lib.FrozenHead
import Derived.Lib.UnsafeStr
import Derived.Lib.AppendStr
import Derived.Lib.AppendIntMem
import Derived.Lib.AppendZeros
import Derived.Lib.SliceRun
import Derived.Maps.RangeRun
set_option linter.unusedVariables false
set_option linter.unusedSimpArgs false
namespace Go.Eng
open Go Go.RowKit
structure JL (n : Nat) (J : Nat → Mem0 → World → Prop) (Jx : World → Prop) : Prop where
  le : ∀ k m w, J k m w → n ≤ w.heap.size
  mem : ∀ k m w, J k m w → Mem w m
  upd : ∀ k m m' w w', J k m w → Chg (fun b => ∃ q ∈ m, q.1 = b) w w' → Mem w' m' → (∀ p ∈ m', (w.heap.size ≤ p.1 ∨ ∃ q ∈ m, q.1 = p.1) ∧ wlk p.2 = false) → J k m' w'
  bk : ∀ k m w w', J k m w → Bk n w w' → J k m w'
  bkx : ∀ w w', Jx w → Bk n w w' → Jx w'
def SeqCP (P : Program) (g : FuncId) (lb : Array Value) (A : List (Array Value)) (Rd : World → Prop) (fin : Prop) : Prop :=
  ∀ (l : Nat) (J : Nat → Mem0 → World → Prop) (Jx : World → Prop) (W : World), (fin ∨ ∀ m w, ¬ J A.length m w) → (∀ k m w, J k m w → Rd w) → JL W.heap.size J Jx →
    (∀ k a m w1, A[k]? = some a → J k m w1 → YR P l a w1 (fun b w2 => ((b = true ∧ J (k + 1) m w2) ∨ (b = false ∧ Jx w2)) ∧ KW W.heap.size w1 w2)) →
    J 0 [] W → Ret P g (#[.func (.yield l) #[] #[]] ++ lb) W (fun _ w' => J A.length [] w' ∨ Jx w')
theorem JL.rd {n : Nat} {J : Nat → Mem0 → World → Prop} {Jx : World → Prop} (h : JL n J Jx) {Rd : World → Prop} (hr : ∀ k m w, J k m w → Rd w) {k : Nat} {m : Mem0} {w1 w : World} (hj : J k m w1) (hc : Chg (fun b => ∃ q ∈ m, q.1 = b) w1 w) : Rd w :=
  hr k [] w (h.upd k m [] w1 w hj hc (Mem.nil w) (fun p hp => by cases hp))
theorem JL.endx {n : Nat} {J : Nat → Mem0 → World → Prop} {Jx : World → Prop} (h : JL n J Jx) {w1 w : World} (hj : Jx w1) (hc : Chg no w1 w) : Jx w := h.bkx w1 w hj (Ext.bk hc)
theorem KW.trans {n n' : Nat} {a b c : World} (h : KW n' a b) (k : KW n b c) (hn : n ≤ n') : KW n' a c :=
  ⟨k.os.trans h.os, k.tape.trans h.tape, k.output.trans h.output, Nat.le_trans h.size k.size, fun x o hx ho hw => k.same x o (by omega) (h.same x o hx ho hw) hw⟩
section
variable {P : Program} {ty : TypeId} {e : Env} {t u : TypeId} {x y : Operand}
theorem ov_remJ {k : IntKind} {a b : Int} (hx : ev e x = some (.int k a)) (hy : ev e y = some (.int k b)) (ha : 0 ≤ a) (h : 0 < b) : OpP P (.binOp .rem t x y u) ty e (.int k (a % b)) := ov_arith hx hy (fun w => by
  have hb : ¬ b = 0 := by omega
  have hd : a.tmod b = a % b := Int.tmod_eq_emod_of_nonneg ha
  simp [binOp, Op.intDiv, hb, hd])
end
/-! ### Open and closed -/
section
variable {P : Program} {r : Option Nat} {N : Nat} {Q : Exit → Act → World → Prop} {e : Env} {ds : List Nat} {M m : Mem0} {w0 w1 : World} {n k : Nat} {J : Nat → Mem0 → World → Prop} {Jx K : World → Prop}
variable {ops : Array Oper} {rest : List Oper} {ty : TypeId} {pos : String} {after : Array Edge} {d : Nat}
abbrev inM (m : Mem0) : Nat → Prop := fun b => ∃ q ∈ m, q.1 = b
abbrev all0 : Nat → Prop := fun _ => True
theorem chg_all {S : Nat → Prop} {w w1 w2 : World} (h : Chg all0 w w1) (k : Chg S w1 w2) : Chg all0 w w2 := h.step k (fun _ _ _ => trivial)
theorem kw_chg {n : Nat} {w w' : World} (h : KW n w w') : Chg all0 w w' := ⟨h.os, h.tape, h.output, h.size, fun _ _ hn => absurd trivial hn⟩
theorem wpM.openJ {c : Code} (h : ∀ w1, Mem w1 M → Chg all0 w0 w1 → J k m w1 → K w1 → wpM P r N c Q e ds M (inM m) w1 (KW n w1)) : wpM P r N c Q e ds M all0 w0 (fun w => J k m w ∧ K w) :=
  fun w hm hc hg => h w hm hc hg.1 hg.2 w hm (Chg.refl _ w) (KW.refl n w)
theorem QM.openJ {X : Exit} (h : ∀ w1, Mem w1 M → Chg all0 w0 w1 → J k m w1 → K w1 → QM N Q X e ds M (inM m) w1 (KW n w1)) : QM N Q X e ds M all0 w0 (fun w => J k m w ∧ K w) :=
  fun w hm hc hg => h w hm hc hg.1 hg.2 w hm (Chg.refl _ w) (KW.refl n w)
theorem QM.openX {X : Exit} (h : ∀ w1, Mem w1 M → Chg all0 w0 w1 → Jx w1 → K w1 → QM N Q X e ds M no w1 (KW n w1)) : QM N Q X e ds M all0 w0 (fun w => Jx w ∧ K w) :=
  fun w hm hc hg => h w hm hc hg.1 hg.2 w hm (Chg.refl _ w) (KW.refl n w)
theorem wpM.closeJ {c : Code} (hL : JL n J Jx) (hC : Chg all0 w0 w1) (hJ : J k m w1) (hK : K w1) (hKK : ∀ w w', K w → KW n w w' → K w') (m' : Mem0) (hM : ∀ w, Mem w M → Mem w m') (hn : ∀ p ∈ m', (w1.heap.size ≤ p.1 ∨ ∃ q ∈ m, q.1 = p.1) ∧ wlk p.2 = false)
    (h : wpM P r N c Q e ds M all0 w0 (fun w => J k m' w ∧ K w)) : wpM P r N c Q e ds M (inM m) w1 (KW n w1) := fun w hm hc hg => h w hm (chg_all hC hc) ⟨hL.upd k m m' w1 w hJ hc (hM w hm) hn, hKK w1 w hK hg⟩
theorem QM.closeJ {X : Exit} (hL : JL n J Jx) (hC : Chg all0 w0 w1) (hJ : J k m w1) (hK : K w1) (hKK : ∀ w w', K w → KW n w w' → K w') (m' : Mem0) (hM : ∀ w, Mem w M → Mem w m') (hn : ∀ p ∈ m', (w1.heap.size ≤ p.1 ∨ ∃ q ∈ m, q.1 = p.1) ∧ wlk p.2 = false)
    (h : QM N Q X e ds M all0 w0 (fun w => J k m' w ∧ K w)) : QM N Q X e ds M (inM m) w1 (KW n w1) := fun w hm hc hg => h w hm (chg_all hC hc) ⟨hL.upd k m m' w1 w hJ hc (hM w hm) hn, hKK w1 w hK hg⟩
theorem QM.closeX {X : Exit} (hL : JL n J Jx) (hC : Chg all0 w0 w1) (hJ : Jx w1) (hK : K w1) (hKK : ∀ w w', K w → KW n w w' → K w')
    (h : QM N Q X e ds M all0 w0 (fun w => Jx w ∧ K w)) : QM N Q X e ds M no w1 (KW n w1) := fun w hm hc hg => h w hm (chg_all hC hc) ⟨hL.endx hJ hc, hKK w1 w hK hg⟩
theorem LM.yieldJ {l : Nat} {g : Operand} {la : List Operand} {args : List Value} {ats : Array TypeId} (hL : JL n J Jx) (hg : ev e g = some (.func (.yield l) #[] #[])) (ha : evs e la = some args)
    (hy : ∀ m w, J k m w → YR P l args.toArray w (fun b w2 => ((b = true ∧ J (k + 1) m w2) ∨ (b = false ∧ Jx w2)) ∧ KW n w w2)) (hC : Chg all0 w0 w1) (hJ : J k m w1) (hK : K w1) (hKK : ∀ w w', K w → KW n w w' → K w')
    (Lo m' MA : Mem0) (hMA : MA = Lo ++ m') (hM : ∀ w, Mem w M → Mem w MA) (hLo : ∀ p ∈ Lo, n ≤ p.1 ∧ wlk p.2 = true) (hn : ∀ p ∈ m', (w1.heap.size ≤ p.1 ∨ ∃ q ∈ m, q.1 = p.1) ∧ wlk p.2 = false)
    (ht : ∀ w2, Mem w2 MA → Chg all0 w0 w2 → J (k + 1) m' w2 → K w2 → LM P r N ops Q rest ((d, .bool true) :: e) ds MA (inM m') w2 (KW n w2))
    (hf : ∀ w2, Mem w2 Lo → Chg all0 w0 w2 → Jx w2 → K w2 → LM P r N ops Q rest ((d, .bool false) :: e) ds Lo no w2 (KW n w2)) (hd : Nat.blt d N = true := by rfl) :
    LM P r N ops Q (⟨some d, .call { callee := .value g, args := la.toArray, argTypes := ats }, ty, pos, after, none⟩ :: rest) e ds M (inM m) w1 (KW n w1) := fun w hm hc hgw a hfr hdm => by
  subst hMA
  refine wpListIn_plain rfl fun Kc hKc => ?_
  refine ⟨fun _ _ => trivial, ?_⟩
  have hm2 := hM w hm
  have hj := hL.upd k m m' w1 w hJ hc (hm2.sub (List.sublist_append_right _ _)) hn
  obtain ⟨fn, tmps, assign, body, h1, h2⟩ := hy m' w hj
  have hrun : (execOp a.eval ⟨some d, .call { callee := .value g, args := la.toArray, argTypes := ats }, ty, pos, after, none⟩).run P w = .ok (.round l fn tmps assign body) w := by
    simp [execOp, resolve, hfr.eval hg, Deferred.ofValue, invoke, evs_map (ρ := a.eval) (fun x u hx => hfr.eval hx) ha]
    exact h1
  rw [semAt_nd rfl, hrun]
  refine ⟨fun h => (by cases h), ?_⟩
  have h3 : RoundIn (Wd r) 0 P l fn tmps assign body w (fun en w' => ∃ b, en = .returned (.bool b) ∧ ((b = true ∧ J (k + 1) m' w') ∨ (b = false ∧ Jx w')) ∧ KW n w w') := h2
  refine RoundIn.mono h3 ?_
  rintro en w' ⟨b, rfl, hb, hkw⟩
  have hC' : Chg all0 w0 w' := chg_all (chg_all hC hc) (kw_chg hkw)
  have hK' : K w' := hKK w w' (hKK w1 w hK hgw) hkw
  have hLo' : ∀ p ∈ Lo, w'.heap[p.1]? = some p.2 := fun p hp => hkw.same p.1 p.2 (hLo p hp).1 (hm2.2 p (List.mem_append_left _ hp)) (hLo p hp).2
  rcases hb with ⟨rfl, hb⟩ | ⟨rfl, hb⟩
  · have hm3 : Mem w' (Lo ++ m') := ⟨hm2.1, fun p hp => by
      rcases List.mem_append.1 hp with hp | hp
      · exact hLo' p hp
      · exact (hL.mem _ _ _ hb).2 p hp⟩
    exact hKc _ _ (ht w' hm3 hC' hb hK' w' hm3 (Chg.refl _ w') (KW.refl n w') _ (hfr.put hd _) hdm)
  · have hm3 : Mem w' Lo := ⟨(hm2.sub (List.sublist_append_left _ _)).1, hLo'⟩
    exact hKc _ _ (hf w' hm3 hC' hb hK' w' hm3 (Chg.refl _ w') (KW.refl n w') _ (hfr.put hd _) hdm)
end
/-! ### ... in a round of a loop of the iterator's own -/
section
variable {P : Program} {r : Option Nat} {N : Nat} {Q : Exit → Act → World → Prop} {e : Env} {ds : List Nat} {M m : Mem0} {w0 w1 : World} {n k : Nat} {J : Nat → Mem0 → World → Prop} {Jx K K2 : World → Prop}
theorem wpM.openJ2 {c : Code} (h : ∀ w1, Mem w1 M → Chg all0 w0 w1 → J k m w1 → (K w1 ∧ K2 w1) → wpM P r N c Q e ds M (inM m) w1 (KW n w1)) : wpM P r N c Q e ds M all0 w0 (fun w => (J k m w ∧ K w) ∧ K2 w) :=
  fun w hm hc hg => h w hm hc hg.1.1 ⟨hg.1.2, hg.2⟩ w hm (Chg.refl _ w) (KW.refl n w)
theorem QM.closeJ2 {X : Exit} (hL : JL n J Jx) (hC : Chg all0 w0 w1) (hJ : J k m w1) (hK : K w1 ∧ K2 w1) (hKK : ∀ w w', (K w ∧ K2 w) → KW n w w' → K w' ∧ K2 w') (m' : Mem0) (hM : ∀ w, Mem w M → Mem w m') (hn : ∀ p ∈ m', (w1.heap.size ≤ p.1 ∨ ∃ q ∈ m, q.1 = p.1) ∧ wlk p.2 = false)
    (h : QM N Q X e ds M all0 w0 (fun w => (J k m' w ∧ K w) ∧ K2 w)) : QM N Q X e ds M (inM m) w1 (KW n w1) := fun w hm hc hg => h w hm (chg_all hC hc) ⟨⟨hL.upd k m m' w1 w hJ hc (hM w hm) hn, (hKK w1 w hK hg).1⟩, (hKK w1 w hK hg).2⟩
theorem QM.closeX2 {X : Exit} (hL : JL n J Jx) (hC : Chg all0 w0 w1) (hJ : Jx w1) (hK : K w1 ∧ K2 w1) (hKK : ∀ w w', (K w ∧ K2 w) → KW n w w' → K w' ∧ K2 w')
    (h : QM N Q X e ds M all0 w0 (fun w => (Jx w ∧ K w) ∧ K2 w)) : QM N Q X e ds M no w1 (KW n w1) := fun w hm hc hg => h w hm (chg_all hC hc) ⟨⟨hL.endx hJ hc, (hKK w1 w hK hg).1⟩, (hKK w1 w hK hg).2⟩
theorem gl_j (hL : JL n J Jx) {q : Nat} (hq : n ≤ q) (hK : Gl q K) : Gl q (fun w => J k m w ∧ K w) := fun w1 w2 g b => ⟨hL.bk _ _ _ _ g.1 (b.mono hq), hK _ _ g.2 b⟩
theorem gl_x (hL : JL n J Jx) {q : Nat} (hq : n ≤ q) (hK : Gl q K) : Gl q (fun w => Jx w ∧ K w) := fun w1 w2 g b => ⟨hL.bkx _ _ g.1 (b.mono hq), hK _ _ g.2 b⟩
theorem kk_top (n : Nat) : ∀ w w', top w → KW n w w' → top w' := fun _ _ _ _ => trivial
theorem kk_and {n1 : Nat} {W1 : World} (hK : ∀ w w', K w → KW n w w' → K w') (hn : n ≤ n1) : ∀ w w', (K w ∧ KW n1 W1 w) → KW n w w' → K w' ∧ KW n1 W1 w' := fun w w' h k => ⟨hK w w' h.1 k, h.2.trans k hn⟩
theorem pn_nil {Φ : Nat × Obj → Prop} : ∀ p ∈ ([] : Mem0), Φ p := fun p hp => by cases hp
theorem pn_cons {b : Nat} {o : Obj} {m' : Mem0} (h : w1.heap.size ≤ b ∨ ∃ q ∈ m, q.1 = b) (hw : wlk o = false) (k : ∀ p ∈ m', (w1.heap.size ≤ p.1 ∨ ∃ q ∈ m, q.1 = p.1) ∧ wlk p.2 = false) : ∀ p ∈ (b, o) :: m', (w1.heap.size ≤ p.1 ∨ ∃ q ∈ m, q.1 = p.1) ∧ wlk p.2 = false := fun p hp => by
  rcases List.mem_cons.1 hp with rfl | hp
  · exact ⟨h, hw⟩
  · exact k p hp
theorem lo_cons {b : Nat} {o : Obj} {m' : Mem0} (h : n ≤ b) (hw : wlk o = true) (k : ∀ p ∈ m', n ≤ p.1 ∧ wlk p.2 = true) : ∀ p ∈ (b, o) :: m', n ≤ p.1 ∧ wlk p.2 = true := fun p hp => by
  rcases List.mem_cons.1 hp with rfl | hp
  · exact ⟨h, hw⟩
  · exact k p hp
theorem lo_dm {m' : Mem0} {ds : List Nat} (h : ∀ D ∈ ds, n ≤ D) (k : ∀ p ∈ m', n ≤ p.1 ∧ wlk p.2 = true) : ∀ p ∈ dM ds ++ m', n ≤ p.1 ∧ wlk p.2 = true := fun p hp => by
  rcases List.mem_append.1 hp with hp | hp
  · obtain ⟨D, hD, rfl⟩ := List.mem_map.1 hp; exact ⟨h D hD, rfl⟩
  · exact k p hp
end
/-! ### A loop whose rounds leave marks -/
section
variable {P : Program} {r : Option Nat} {N : Nat} {Q : Exit → Act → World → Prop} {e : Env} {ds : List Nat} {M : Mem0} {S : Nat → Prop} {w0 : World} {G : World → Prop}
end
instance {M M1 : Mem0} {ds : List Nat} [h : Spl M (dM ds) M1] : SplD M ds M1 := ⟨h.perm⟩
theorem hd_cons {w0 : World} {D : Nat} {ds : List Nat} (h : w0.heap.size ≤ D) (k : ∀ D ∈ ds, w0.heap.size ≤ D) : ∀ D' ∈ D :: ds, w0.heap.size ≤ D' := fun D' hD => by
  rcases List.mem_cons.1 hD with rfl | hD
  · exact h
  · exact k D' hD
theorem hd_nil {w0 : World} : ∀ D ∈ ([] : List Nat), w0.heap.size ≤ D := fun D h => by cases h
theorem shut_bk {m : Nat} : ∀ (ds : List Nat) (w : World) (M1 : Mem0), Mem w (dM ds ++ M1) → (∀ D ∈ ds, m ≤ D) → Bk m w (shut ds w)
  | [], w, M1, hm, _ => .refl _ _
  | D :: ds, w, M1, hm, hD => by
    have hm' : Mem w ((D, .deferred (some [])) :: (dM ds ++ M1)) := hm
    have h1 := hm'.get (i := 0) rfl
    have h2 := (hm'.set (i := 0) rfl (World.putObj_heap_same (Array.getElem?_eq_some_iff.1 h1).1) (chg_put (.deferred none))).tail
    exact (Bk.put h1 (hD D (List.mem_cons_self ..)) rfl rfl).trans (shut_bk ds _ M1 h2 (fun D' h => hD D' (List.mem_cons_of_mem _ h)))
theorem QM.leaveDJ {P : Program} {fn : Func} {N : Nat} {e : Env} {ds : List Nat} {M M1 : Mem0} {w0 : World} {G : World → Prop} {R : Value → World → Prop} {vs : List Value} {x : Exit} {m : Nat} (hx : x = .ret ∨ x = .normal) (rs : List ResultVar) (hr : fn.results = rs.toArray) (h : resE e rs = some vs) (hw : m = w0.heap.size) (hD : ∀ D ∈ ds, w0.heap.size ≤ D)
    (hG : Gl m G) [k : SplD M ds M1] (hR : ∀ w, Mem w M1 → G w → R (resV vs) w) : QM N (fnPost P fn R) x e ds M all0 w0 G := fun w hm hc hg => by
  have hm2 := hm.perm k.perm
  obtain ⟨h1, h2, h3⟩ := shut_mem ds w M1 hm2 hc hD
  have h4 := hR _ h2 (hG _ _ hg (shut_bk ds w M1 hm2 (by rw [hw]; exact hD)))
  rcases hx with rfl | rfl
  · exact .leave rs hr h h1 h4
  · exact .leaveN rs hr h h1 h4
theorem Sl.wlk {α : Type} {f : α → List Value} {E s n0 : Nat} {xs : List α} {v : Value} {m : Mem0} (h : Sl f E s n0 xs v m) : ∀ p ∈ m, Go.Eng.wlk p.2 = false := fun p hp => by
  rcases h with ⟨_, rfl, _⟩ | ⟨b, cap, junk, _, _, rfl, _⟩
  · cases hp
  · rw [List.mem_singleton] at hp; subst hp; rfl
theorem mm_nil {M0 : Mem0} : ∀ p ∈ ([] : Mem0), p ∈ M0 ∨ wlk p.2 = false := fun p hp => by cases hp
theorem mm_app {m M M0 : Mem0} (h : ∀ p ∈ m, wlk p.2 = false) (k : ∀ p ∈ M, p ∈ M0 ∨ wlk p.2 = false) : ∀ p ∈ m ++ M, p ∈ M0 ∨ wlk p.2 = false := fun p hp => by
  rcases List.mem_append.1 hp with hp | hp
  · exact .inr (h p hp)
  · exact k p hp
theorem SeqCP.enter {P : Program} {f : FuncId} {fn : Func} {c : Code} {lb : List Value} {A : List (Array Value)} {Rd : World → Prop} {fin : Prop}
    (hf : P.funcs[f]? = some fn) (hb : fn.body = some c) {N : Nat} (hN : fn.ntmps = N) (hl : Nat.ble (lb.length + 1) N = true)
    (h : ∀ (l n : Nat) (J : Nat → Mem0 → World → Prop) (Jx : World → Prop) (w0 : World), n = w0.heap.size → (fin ∨ ∀ m w, ¬ J A.length m w) → (∀ k m w, J k m w → Rd w) → JL n J Jx →
      (∀ k a m w, A[k]? = some a → J k m w → YR P l a w (fun b w2 => ((b = true ∧ J (k + 1) m w2) ∨ (b = false ∧ Jx w2)) ∧ KW n w w2)) →
      wpM P none N c (fnPost P fn (fun _ w' => J A.length [] w' ∨ Jx w')) (args0 0 (.func (.yield l) #[] #[] :: lb)) [] [] all0 w0 (fun w => J 0 [] w ∧ top w)) : SeqCP P f lb.toArray A Rd fin := fun l J Jx W hfin hJr hL hy h0 => by
  have h1 : (#[Value.func (.yield l) #[] #[]] ++ lb.toArray) = (Value.func (.yield l) #[] #[] :: lb).toArray := by simp
  rw [h1]
  refine Ret.enterG hf hb hN (by simpa using hl) [] all0 (fun w => J 0 [] w ∧ top w) (Mem.nil W) ⟨h0, trivial⟩ ?_
  exact h l W.heap.size J Jx W rfl hfin hJr hL hy
/-! ### A call that changes one block among what may be carried out early or late -/
def AltO (b : Nat) (Mc : Mem0) (os : List Obj) (w : World) : Prop := ∃ o ∈ os, Mem w ((b, o) :: Mc)
instance (b : Nat) (Mc : Mem0) (os : List Obj) {G : World → Prop} [GS G] : GS (fun w => G w ∧ AltO b Mc os w) where
  ext := fun w w' ⟨h, o, ho, hm⟩ k => ⟨GS.ext w w' h k, o, ho, hm.ext k⟩
section
variable {P : Program} {r : Option Nat} {N : Nat} {Q : Exit → Act → World → Prop} {e : Env} {ds : List Nat} {M : Mem0} {S : Nat → Prop} {w0 : World} {G : World → Prop}
variable {ops : Array Oper} {lo : List Oper} {l : List (Nat × Nat)} {op : Op} {ty : TypeId} {pos : String} {after : Array Edge} {d i : Nat}
end
/-! ### A new slice, as a slice of the call's own -/
section
variable {P : Program} {r : Option Nat} {N : Nat} {Q : Exit → Act → World → Prop} {e : Env} {ds : List Nat} {M : Mem0} {S : Nat → Prop} {w0 : World} {G : World → Prop}
variable {ops : Array Oper} {l : List Oper} {ty : TypeId} {pos : String} {after : Array Edge} {d : Nat} {t : TypeId} {x y : Operand}
end
section range
variable {P : Program} {N : Nat} {Q : Exit → Act → World → Prop} {e : Env} {ds : List Nat} {M : Mem0} {S : Nat → Prop} {w0 : World} {G : World → Prop}
variable {g : Operand} {ps : Array Tmp} {assign body : Code} {gf : FuncId} {lb : Array Value} {A : List (Array Value)} {Rd : World → Prop} {fin : Prop} {α β : Type}
theorem wpM.rangeJ (hE : Enters P gf) (hg : ev e g = some (.func (.func gf) #[] lb)) (hseq : SeqC P gf lb A Rd fin)
    (MM : Nat → α → Mem0) (GG : Nat → α → World → Prop) (I : Nat → α → Prop) (MX : β → Mem0) (GX : β → World → Prop) (IX : Code → β → Prop) (x0 : α)
    (hM0 : MM 0 x0 = M) (hG0 : ∀ w, G w → GG 0 x0 w) (hI0 : I 0 x0) (hps : ps.all (fun p => Nat.blt p N) = true) (hA : ∀ (k : Nat) (av : Array Value), A[k]? = some av → av.size = ps.size)
    (hfin : fin ∨ ∀ x, ¬ I A.length x)
    (hrd : ∀ k x w, Mem w (MM k x) → Chg S w0 w → GG k x w → I k x → Rd w)
    (hGG : ∀ w, G w → ∀ k x, Gl w.heap.size (GG k x)) (hGX : ∀ w, G w → ∀ z, Gl w.heap.size (GX z))
    (hMM : ∀ k x, I k x → ∀ p ∈ MM k x, p ∈ MM 0 x0 ∨ wlk p.2 = false) (hMX : ∀ c z, IX c z → ∀ p ∈ MX z, p ∈ MM 0 x0 ∨ wlk p.2 = false)
    (hbody : ∀ k av x l D rc n W1, (∃ w, G w ∧ w.heap.size ≤ n) → w0.heap.size ≤ D → w0.heap.size ≤ l → (∀ k x, Pl l rc (fun w => GG k x w ∧ KW n W1 w)) → rc.defers = D → A[k]? = some av → I k x →
      wpM P (some l) N assign (Exit.then (asK P l rc body (rdQ l rc [(D, .deferred (some []))] S w0 (KW n W1) (MM (k + 1)) (GG (k + 1)) (I (k + 1)) MX GX IX)) never)
      (parE (ps.toList.zip av.toList) e) [] ((l, .loop rc) :: ([(D, .deferred (some []))] ++ MM k x)) S w0 (fun w => GG k x w ∧ KW n W1 w))
    (hdone : ∀ x D, w0.heap.size ≤ D → I A.length x → QM N Q .normal e (D :: ds) ([(D, .deferred (some []))] ++ MM A.length x) S w0 (GG A.length x))
    (hret : ∀ z D, w0.heap.size ≤ D → IX .ret z → QM N Q .ret e (D :: ds) ([(D, .deferred (some []))] ++ MX z) S w0 (GX z))
    (hexit : ∀ id z D, w0.heap.size ≤ D → IX (.exit id) z → QM N Q (.exit id) e (D :: ds) ([(D, .deferred (some []))] ++ MX z) S w0 (GX z)) :
    wpM P none N (.rangeFunc g ps assign body) Q e ds M S w0 G := fun w hm hc hgw a hf hd => by
  refine wpIn_rangeFunc ?_
  intro fn _
  have hbk : Bk w.heap.size w ((w.alloc (.deferred (some []))).alloc (.loop (recOf fn a.tmps ps assign body w.heap.size))) := (Ext.bk (chg_alloc w _)).trans (Ext.bk (chg_alloc _ _))
  have hm1 : Mem ((w.alloc (.deferred (some []))).alloc (.loop (recOf fn a.tmps ps assign body w.heap.size))) ((w.heap.size + 1, .loop (recOf fn a.tmps ps assign body w.heap.size)) :: ([(w.heap.size, .deferred (some []))] ++ MM 0 x0)) := by
    rw [hM0]
    have := ((hm.alloc (.deferred (some []))).alloc (.loop (recOf fn a.tmps ps assign body w.heap.size)))
    rwa [World.size_alloc] at this
  generalize hW : (w.alloc (.deferred (some []))).alloc (.loop (recOf fn a.tmps ps assign body w.heap.size)) = W at *
  have hsz : W.heap.size = w.heap.size + 2 := by rw [← hW]; simp
  have h0 := hc.size
  have hcW : Chg S w0 W := hc.step hbk.chg (fun x hx hn => by omega)
  refine ⟨w.heap.size + 1, [mark w.heap.size], W, _, W, gf, #[.func (.yield (w.heap.size + 1)) #[] #[]] ++ lb, W, ?_, run_rangeCall hf hg _ _, fun _ _ => trivial, ?_, fun h => (by cases h), ?_⟩
  · rw [← hW]; exact run_enterLoop_outer fn a.tmps ps assign body
  · exact hE _ _
  · refine range_end (rc := recOf fn a.tmps ps assign body w.heap.size) (ds' := w.heap.size :: ds) (MM := MM) (GG := GG) (I := I) (MX := MX) (GX := GX) (IX := IX) rfl rfl (by omega) ⟨hf.1, hf.2⟩ (by unfold Dm at *; simp [hd, mark]) (fun k x w1 w2 g b => hGG w hgw k x w1 w2 g (b.mono (by omega))) (fun z w1 w2 g b => hGX w hgw z w1 w2 g (b.mono (by omega)))
      (range_core hf (l := w.heap.size + 1) (D := w.heap.size) (m := w.heap.size) (fn := fn) (Dl := [(w.heap.size, .deferred (some []))]) (W := W) (by omega) (by omega) (by omega)
      (fun p hp => by simp at hp; subst hp; simp only; omega) hseq MM GG I MX GX IX x0 hA hps hm1 hcW
      (hGG w hgw 0 x0 _ _ (hG0 w hgw) hbk) hI0 hfin hrd (hGG w hgw) (hGX w hgw)
      (fun k x hI p hp => (hMM k x hI p hp).imp (fun h => by rw [hM0] at h; have := hm.lt h; omega) id) (fun c z hI p hp => (hMX c z hI p hp).imp (fun h => by rw [hM0] at h; have := hm.lt h; omega) id)
      (fun k av x W1 hav hI => hbody k av x _ _ _ _ W1 ⟨w, hgw, by omega⟩ h0 (by omega) (fun k x v hv hl => ⟨hGG w hgw k x _ _ hv.1 (Bk.put hl (by omega) rfl rfl), hv.2.put (by omega) _⟩) rfl hav hI))
      (fun x hI => hdone x _ h0 hI) (fun z hI => hret z _ h0 hI) (fun id z hI => hexit id z _ h0 hI)
theorem range_coreP {a : Act} (hf : Fr N e a) {l D m : Nat} {fn : FuncId} {Dl : Mem0} {W : World} (hlW : l + 1 = W.heap.size) (hml : m ≤ l) (hlb : w0.heap.size ≤ l) (hDl : ∀ p ∈ Dl, p.1 < W.heap.size)
    (hseq : SeqCP P gf lb A Rd fin) (MT : Nat → α → Mem0 → Mem0) (hMT : ∀ k x Mp, MT k x Mp = MT k x [] ++ Mp) (GG : Nat → α → World → Prop) [hGT : ∀ k x, GT (GG k x)] (I : Nat → α → Prop) (MX : β → Mem0) (GX : β → World → Prop) (IX : Code → β → Prop) (x0 : α)
    (hA : ∀ (k : Nat) (av : Array Value), A[k]? = some av → av.size = ps.size) (hps : ps.all (fun p => Nat.blt p N) = true)
    (hm0 : Mem W ((l, .loop (recOf fn a.tmps ps assign body D)) :: (Dl ++ MT 0 x0 []))) (hc0 : Chg S w0 W) (hg0 : GG 0 x0 W) (hI0 : I 0 x0)
    (hfin : fin ∨ ∀ x, ¬ I A.length x)
    (hrd : ∀ k x w, Mem w (MT k x []) → Chg S w0 w → GG k x w → I k x → Rd w)
    (hGG : ∀ k x, Gl m (GG k x)) (hGX : ∀ z, Gl m (GX z))
    (hMM : ∀ k x, I k x → ∀ p ∈ MT k x [], p.1 < W.heap.size ∨ wlk p.2 = false) (hMX : ∀ c z, IX c z → ∀ p ∈ MX z, p.1 < W.heap.size ∨ wlk p.2 = false)
    (hbody : ∀ k av x W1 Mp, A[k]? = some av → I k x → wpM P (some l) N assign (Exit.then (asK P l (recOf fn a.tmps ps assign body D) body (rdQ l (recOf fn a.tmps ps assign body D) Dl S w0 (KW W.heap.size W1) (fun y => MT (k + 1) y Mp) (GG (k + 1)) (I (k + 1)) MX GX IX)) never)
      (parE (ps.toList.zip av.toList) e) [] ((l, .loop (recOf fn a.tmps ps assign body D)) :: (Dl ++ MT k x Mp)) S w0 (fun w => GG k x w ∧ KW W.heap.size W1 w)) :
    Ret P gf (#[.func (.yield l) #[] #[]] ++ lb) W (fun _ w' =>
      (∃ x, Mem w' ((l, .loop (recOf fn a.tmps ps assign body D)) :: (Dl ++ MT A.length x [])) ∧ Chg S w0 w' ∧ GG A.length x w' ∧ I A.length x) ∨
      (∃ c z, Mem w' ((l, .loop (doneOf (recOf fn a.tmps ps assign body D) c)) :: (Dl ++ MX z)) ∧ Chg S w0 w' ∧ GX z w' ∧ IX c z ∧ (c = .ret ∨ ∃ id, c = .exit id))) := by
  generalize hrc : recOf fn a.tmps ps assign body D = rc at *
  have hst : rc.state = .ready := by rw [← hrc]; rfl
  have hpe : rc.pending = none := by rw [← hrc]; rfl
  have hpar : rc.params = ps := by rw [← hrc]; rfl
  have hass : rc.assign = assign := by rw [← hrc]; rfl
  have hbod : rc.body = body := by rw [← hrc]; rfl
  have htm : rc.tmps = a.tmps := by rw [← hrc]; rfl
  -- book-keeping leaves the lists as they are
  have keep : ∀ (w1 w2 : World) (Mx : Mem0), Bk W.heap.size w1 w2 → Mem w1 Mx → (∀ p ∈ Mx, p.1 < W.heap.size ∨ wlk p.2 = false) → Mem w2 Mx := fun w1 w2 Mx hb hm hp => ⟨hm.1, fun p hpm => hb.same _ _ (hm.2 p hpm) (hp p hpm)⟩
  have keepC : ∀ (w1 w2 : World), Bk W.heap.size w1 w2 → Chg S w0 w1 → Chg S w0 w2 := fun w1 w2 hb hc => hc.step hb.chg (fun x hx hn => by have := hc0.size; omega)
  have hlow : ∀ (o : Obj) (Mx : Mem0), (∀ p ∈ Mx, p.1 < W.heap.size ∨ wlk p.2 = false) → ∀ p ∈ ((l, o) :: (Dl ++ Mx)), p.1 < W.heap.size ∨ wlk p.2 = false := fun o Mx h p hp => by
    rcases List.mem_cons.1 hp with rfl | hp
    · exact .inl (by simp only; omega)
    · rcases List.mem_append.1 hp with hp | hp
      · exact .inl (hDl p hp)
      · exact h p hp
  have hsplit : ∀ (o : Obj) (k : Nat) (x : α) (Mp : Mem0), (l, o) :: (Dl ++ MT k x Mp) = ((l, o) :: (Dl ++ MT k x [])) ++ Mp := fun o k x Mp => by rw [hMT k x Mp]; simp [List.append_assoc]
  refine Ret.mono (hseq l
    (fun k Mp w => (∃ x, Mem w ((l, .loop rc) :: (Dl ++ MT k x Mp)) ∧ Chg S w0 w ∧ GG k x w ∧ I k x) ∧ ∀ p ∈ Mp, W.heap.size ≤ p.1 ∧ wlk p.2 = false)
    (fun w => ∃ c z, Mem w ((l, .loop (doneOf rc c)) :: (Dl ++ MX z)) ∧ Chg S w0 w ∧ GX z w ∧ IX c z ∧ (c = .ret ∨ ∃ id, c = .exit id))
    W (hfin.imp id fun hn Mp w => by rintro ⟨⟨x, _, _, _, hI⟩, _⟩; exact hn x hI) ?_ ⟨?_, ?_, ?_, ?_, ?_⟩ ?_ ⟨⟨x0, hm0, hc0, hg0, hI0⟩, fun p hp => by cases hp⟩) (fun _ w' h => h.imp (fun h => h.1) id)
  · rintro k Mp w ⟨⟨x, hm, hc, hg, hI⟩, hp⟩
    rw [hsplit] at hm
    exact hrd k x w ((hm.sub (List.sublist_append_left _ _)).sub ((List.sublist_append_right Dl (MT k x [])).trans (List.sublist_cons_self _ _))) hc hg hI
  · rintro k Mp w ⟨⟨x, hm, _⟩, _⟩
    have := hm.lt (p := (l, .loop rc)) (List.mem_cons_self ..)
    simp only at this; omega
  · rintro k Mp w ⟨⟨x, hm, _⟩, _⟩
    rw [hsplit] at hm; exact hm.sub (List.sublist_append_right _ _)
  · rintro k Mp Mp' w w' ⟨⟨x, hm, hc, hg, hI⟩, hp⟩ hch hm' hn
    have hsz' := hm.lt (p := (l, .loop rc)) (List.mem_cons_self ..)
    simp only at hsz'
    rw [hsplit] at hm
    obtain ⟨m', rfl, h1, h2, h3, h4⟩ := upd_step (S := S) (w0 := w0) (G := GG k x) (m := Mp) (T := fun _ q => q = Mp') (u := .bool true) (hm.perm List.perm_append_comm) (fun p hq => (hp p hq).2) (fun p hq hlt => by have := (hp p hq).1; omega) hc hg ⟨hch, Mp', rfl, hm', fun p hq => (hn p hq).1⟩
    refine ⟨⟨x, ?_, h3, h4, hI⟩, fun p hq => ⟨?_, (hn p hq).2⟩⟩
    · rw [hsplit]; exact h2.perm List.perm_append_comm
    · rcases (hn p hq).1 with h | ⟨q, hq2, e⟩
      · omega
      · rw [← e]; exact (hp q hq2).1
  · rintro k Mp w1 w2 ⟨⟨x, hm, hc, hg, hI⟩, hp⟩ hb
    refine ⟨⟨x, keep w1 w2 _ hb hm (hlow _ _ (fun p hpm => ?_)), keepC w1 w2 hb hc, hGG k x w1 w2 hg (hb.mono (by omega)), hI⟩, hp⟩
    rw [hMT k x Mp] at hpm
    rcases List.mem_append.1 hpm with hpm | hpm
    · exact hMM k x hI p hpm
    · exact .inr (hp p hpm).2
  · rintro w1 w2 ⟨c, z, hm, hc, hg, hI, hj⟩ hb
    exact ⟨c, z, keep w1 w2 _ hb hm (hlow _ _ (hMX c z hI)), keepC w1 w2 hb hc, hGX z w1 w2 hg (hb.mono (by omega)), hI, hj⟩
  · rintro k av Mp w1 hav ⟨⟨x, hm, hc, hg, hI⟩, hp⟩
    have hl1 := hm.get (i := 0) rfl
    refine YR.of_body hst hpe (by rw [hpar]; exact hA k av hav) hl1 ?_
    rw [hass, hbod, hpar, htm]
    have hfr : Fr N (parE (ps.toList.zip av.toList) e) { tmps := (ps.zip av).foldl (fun t (p, v) => t.setIfInBounds p v) a.tmps, defers := [] } := by
      rw [← Array.foldl_toList, Array.toList_zip]
      refine fr_par _ e a.tmps ?_ ⟨hf.1, hf.2⟩
      rw [List.all_eq_true]
      intro p hp
      have : p.1 ∈ ps := Array.mem_def.2 (List.of_mem_zip hp).1
      exact Array.all_eq_true_iff_forall_mem.1 hps _ this
    refine wpIn_mono (hbody k av x w1 Mp hav hI w1 hm hc ⟨hg, .refl _ _⟩ _ hfr rfl) ?_
    intro x1 a1 w2 hq
    cases x1 with
    | normal =>
      obtain ⟨h1, h2⟩ := hq
      refine ⟨h1, wpIn_mono h2 (fun x2 a2 w3 hq => ?_)⟩
      have fin : ∀ (o' : Obj) (Mx : Mem0), wlk o' = true → Mem w3 ((l, .loop (busyOf rc)) :: Mx) → Chg S w0 w3 → KW W.heap.size w1 w3 →
          w3.heap[l]? = some (.loop (busyOf rc)) ∧ Mem (w3.putObj l o') ((l, o') :: Mx) ∧ Chg S w0 (w3.putObj l o') ∧ KW W.heap.size w1 (w3.putObj l o') ∧ Bk m w3 (w3.putObj l o') := fun o' Mx ho hm3 hc3 hk3 => by
        have h3 := hm3.get (i := 0) rfl
        refine ⟨h3, hm3.set (i := 0) rfl (World.putObj_heap_same (Array.getElem?_eq_some_iff.1 h3).1) (chg_put _), hc3.step (chg_put _) (fun q hq hql => by subst hql; omega), ?_, Bk.put h3 hml rfl ho⟩
        exact ⟨hk3.os, hk3.tape, hk3.output, by simpa using hk3.size, fun b o hn hb hw => by rw [World.putObj_heap_other (by omega)]; exact hk3.same b o hn hb hw⟩
      cases x2 with
      | normal =>
        obtain ⟨y, hm3, hc3, ⟨hg3, hk3⟩, hI3⟩ := hq
        obtain ⟨p1, p2, p3, p4, p5⟩ := fin (.loop rc) _ rfl hm3 hc3 hk3
        exact ⟨p1, .inl ⟨rfl, ⟨y, p2, p3, hGG _ _ _ _ hg3 p5, hI3⟩, hp⟩, p4⟩
      | ret =>
        obtain ⟨z, hm3, hc3, ⟨hg3, hk3⟩, hI3⟩ := hq
        obtain ⟨p1, p2, p3, p4, p5⟩ := fin (.loop (doneOf rc .ret)) _ rfl hm3 hc3 hk3
        exact ⟨p1, .inr ⟨rfl, .ret, z, p2, p3, hGX _ _ _ hg3 p5, hI3, .inl rfl⟩, p4⟩
      | exit id =>
        obtain ⟨z, hm3, hc3, ⟨hg3, hk3⟩, hI3⟩ := hq
        obtain ⟨p1, p2, p3, p4, p5⟩ := fin (.loop (doneOf rc (.exit id))) _ rfl hm3 hc3 hk3
        exact ⟨p1, .inr ⟨rfl, .exit id, z, p2, p3, hGX _ _ _ hg3 p5, hI3, .inr ⟨id, rfl⟩⟩, p4⟩
      | _ => exact hq.elim
    | _ => exact hq.elim
theorem wpM.rangeP (hE : Enters P gf) (hg : ev e g = some (.func (.func gf) #[] lb)) (hseq : SeqCP P gf lb A Rd fin)
    (MT : Nat → α → Mem0 → Mem0) (hMT : ∀ k x Mp, MT k x Mp = MT k x [] ++ Mp) (GG : Nat → α → World → Prop) [hGT : ∀ k x, GT (GG k x)] (I : Nat → α → Prop) (MX : β → Mem0) (GX : β → World → Prop) (IX : Code → β → Prop) (x0 : α)
    (hM0 : MT 0 x0 [] = M) (hG0 : ∀ w, G w → GG 0 x0 w) (hI0 : I 0 x0) (hps : ps.all (fun p => Nat.blt p N) = true) (hA : ∀ (k : Nat) (av : Array Value), A[k]? = some av → av.size = ps.size)
    (hfin : fin ∨ ∀ x, ¬ I A.length x)
    (hrd : ∀ k x w, Mem w (MT k x []) → Chg S w0 w → GG k x w → I k x → Rd w)
    (hGG : ∀ w, G w → ∀ k x, Gl w.heap.size (GG k x)) (hGX : ∀ w, G w → ∀ z, Gl w.heap.size (GX z))
    (hMM : ∀ k x, I k x → ∀ p ∈ MT k x [], p ∈ MT 0 x0 [] ∨ wlk p.2 = false) (hMX : ∀ c z, IX c z → ∀ p ∈ MX z, p ∈ MT 0 x0 [] ∨ wlk p.2 = false)
    (hbody : ∀ k av x l D rc n W1 Mp, w0.heap.size ≤ D → w0.heap.size ≤ l → (∀ k x, Pl l rc (fun w => GG k x w ∧ KW n W1 w)) → rc.defers = D → A[k]? = some av → I k x →
      wpM P (some l) N assign (Exit.then (asK P l rc body (rdQ l rc [(D, .deferred (some []))] S w0 (KW n W1) (fun y => MT (k + 1) y Mp) (GG (k + 1)) (I (k + 1)) MX GX IX)) never)
      (parE (ps.toList.zip av.toList) e) [] ((l, .loop rc) :: ([(D, .deferred (some []))] ++ MT k x Mp)) S w0 (fun w => GG k x w ∧ KW n W1 w))
    (hdone : ∀ x D, w0.heap.size ≤ D → I A.length x → QM N Q .normal e (D :: ds) ([(D, .deferred (some []))] ++ MT A.length x []) S w0 (GG A.length x))
    (hret : ∀ z D, w0.heap.size ≤ D → IX .ret z → QM N Q .ret e (D :: ds) ([(D, .deferred (some []))] ++ MX z) S w0 (GX z))
    (hexit : ∀ id z D, w0.heap.size ≤ D → IX (.exit id) z → QM N Q (.exit id) e (D :: ds) ([(D, .deferred (some []))] ++ MX z) S w0 (GX z)) :
    wpM P none N (.rangeFunc g ps assign body) Q e ds M S w0 G := fun w hm hc hgw a hf hd => by
  refine wpIn_rangeFunc ?_
  intro fn _
  have hbk : Bk w.heap.size w ((w.alloc (.deferred (some []))).alloc (.loop (recOf fn a.tmps ps assign body w.heap.size))) := (Ext.bk (chg_alloc w _)).trans (Ext.bk (chg_alloc _ _))
  have hm1 : Mem ((w.alloc (.deferred (some []))).alloc (.loop (recOf fn a.tmps ps assign body w.heap.size))) ((w.heap.size + 1, .loop (recOf fn a.tmps ps assign body w.heap.size)) :: ([(w.heap.size, .deferred (some []))] ++ MT 0 x0 [])) := by
    rw [hM0]
    have := ((hm.alloc (.deferred (some []))).alloc (.loop (recOf fn a.tmps ps assign body w.heap.size)))
    rwa [World.size_alloc] at this
  generalize hW : (w.alloc (.deferred (some []))).alloc (.loop (recOf fn a.tmps ps assign body w.heap.size)) = W at *
  have hsz : W.heap.size = w.heap.size + 2 := by rw [← hW]; simp
  have h0 := hc.size
  have hcW : Chg S w0 W := hc.step hbk.chg (fun x hx hn => by omega)
  refine ⟨w.heap.size + 1, [mark w.heap.size], W, _, W, gf, #[.func (.yield (w.heap.size + 1)) #[] #[]] ++ lb, W, ?_, run_rangeCall hf hg _ _, fun _ _ => trivial, ?_, fun h => (by cases h), ?_⟩
  · rw [← hW]; exact run_enterLoop_outer fn a.tmps ps assign body
  · exact hE _ _
  · refine range_end (rc := recOf fn a.tmps ps assign body w.heap.size) (ds' := w.heap.size :: ds) (MM := fun k x => MT k x []) (GG := GG) (I := I) (MX := MX) (GX := GX) (IX := IX) rfl rfl (by omega) ⟨hf.1, hf.2⟩ (by unfold Dm at *; simp [hd, mark]) (fun k x w1 w2 g b => hGG w hgw k x w1 w2 g (b.mono (by omega))) (fun z w1 w2 g b => hGX w hgw z w1 w2 g (b.mono (by omega)))
      (range_coreP hf (l := w.heap.size + 1) (D := w.heap.size) (m := w.heap.size) (fn := fn) (Dl := [(w.heap.size, .deferred (some []))]) (W := W) (by omega) (by omega) (by omega)
      (fun p hp => by simp at hp; subst hp; simp only; omega) hseq MT hMT GG I MX GX IX x0 hA hps hm1 hcW
      (hGG w hgw 0 x0 _ _ (hG0 w hgw) hbk) hI0 hfin hrd (hGG w hgw) (hGX w hgw)
      (fun k x hI p hp => (hMM k x hI p hp).imp (fun h => by rw [hM0] at h; have := hm.lt h; omega) id) (fun c z hI p hp => (hMX c z hI p hp).imp (fun h => by rw [hM0] at h; have := hm.lt h; omega) id)
      (fun k av x W1 Mp hav hI => hbody k av x _ _ _ _ W1 Mp h0 (by omega) (fun k x v hv hl => ⟨hGG w hgw k x _ _ hv.1 (Bk.put hl (by omega) rfl rfl), hv.2.put (by omega) _⟩) rfl hav hI))
      (fun x hI => hdone x _ h0 hI) (fun z hI => hret z _ h0 hI) (fun id z hI => hexit id z _ h0 hI)
end range
end Go.Eng
namespace Go.Eng
open Go Go.RowKit
/-! ### Results -/
def ResC (P : Program) (e : Env) (M : Mem0) : List ResultVar → List Value → Prop
  | [], vs => vs = []
  | .tmp t :: l, vs => ∃ v us, vs = v :: us ∧ look e t = some v ∧ ResC P e M l us
  | .cell b t :: l, vs => ∃ v us ad, vs = v :: us ∧ look e b = some (.pointer (some ad)) ∧ (∀ w, Mem w M → (loadVar t ad).run P w = .ok v w) ∧ ResC P e M l us
section
variable {P : Program} {fn : Func} {N : Nat} {e : Env} {ds : List Nat} {M M1 M2 : Mem0} {S : Nat → Prop} {w0 : World} {G : World → Prop} {R : Value → World → Prop} {vs : List Value} {l : List ResultVar} {us : List Value} {v : Value}
theorem rc_nil : ResC P e M [] [] := rfl
theorem rc_tmp {t : Nat} (h : look e t = some v) (k : ResC P e M l us) : ResC P e M (.tmp t :: l) (v :: us) := ⟨_, _, rfl, h, k⟩
theorem rc_w {b ad n : Nat} {t E : TypeId} {cs : Array Value} {fz : Nat × Nat} (hb : look e b = some (.pointer (some ⟨ad, 0, none⟩))) [q : Fnd M ad (.cells cs E fz) M2] (hT : ∀ w, (isAgg t).run P w = .ok true w) (hS : ∀ w, (sizeOf t).run P w = .ok n w) (hn : cs.size = n) (k : ResC P e M l us) :
    ResC P e M (.cell b t :: l) (.agg cs :: us) := ⟨_, _, _, rfl, hb, fun w hm => by
  have := run_loadVar_agg (P := P) (off := 0) (vs := cs.toList) hT hS (q.get hm) (by simpa using hn) (fun j v hj => by rw [Nat.zero_add]; simpa using hj)
  simpa using this, k⟩
theorem mapM_resC {a : Act} (hf : Fr N e a) {w : World} (hm : Mem w M) (f : ResultVar → Sem Value) (hft : ∀ t v, a.tmps[t]? = some v → (f (.tmp t)).run P w = .ok v w)
    (hfc : ∀ b t ad, a.tmps[b]? = some (.pointer (some ad)) → (f (.cell b t)).run P w = (loadVar t ad).run P w) :
    ∀ (rs : List ResultVar) (vs : List Value), ResC P e M rs vs → (rs.mapM f).run P w = .ok vs w
  | [], vs, h => by obtain rfl : vs = [] := h; simp
  | .tmp t :: rs, vs, h => by
    obtain ⟨v, us, rfl, h1, h2⟩ := h
    simp only [List.mapM_cons, Sem.run_bind, hft t v (hf.2 _ _ h1), Result.andThen, mapM_resC hf hm f hft hfc rs us h2, Sem.run_pure]
  | .cell b t :: rs, vs, h => by
    obtain ⟨v, us, ad, rfl, h1, h2, h3⟩ := h
    simp only [List.mapM_cons, Sem.run_bind, hfc b t ad (hf.2 _ _ h1), h2 w hm, Result.andThen, mapM_resC hf hm f hft hfc rs us h3, Sem.run_pure]
theorem results_resC {a : Act} (hf : Fr N e a) {w : World} (hm : Mem w M) {rs : List ResultVar} (hr : fn.results = rs.toArray) (h : ResC P e M rs vs) : (results fn a.tmps).run P w = .ok (resV vs) w := by
  unfold results
  rw [hr]
  have h1 := mapM_resC (P := P) hf hm (fun x => match x with
      | ResultVar.tmp t => (pure (a.tmps.getD t undef) : Sem Value)
      | ResultVar.cell b t => do loadVar t (← asAddr (a.tmps.getD b undef)))
    (fun t v hl => by
      show Result.ok (a.tmps.getD t undef) w = _
      rw [Array.getD_eq_getD_getElem?, hl]; rfl)
    (fun b t ad hl => by
      simp [Array.getD_eq_getD_getElem?, hl, asAddr]) rs vs h
  simp only [List.mapM_toArray, Sem.run_bind, Sem.run_map]
  generalize hX : Sem.run P (List.mapM _ rs) w = X
  obtain rfl : Result.ok vs w = X := by rw [← hX]; exact h1.symm
  simp only [Result.andThen]
  cases vs with
  | nil => simp [resV]
  | cons v l => cases l with
    | nil => simp [resV]
    | cons u l => simp [resV]
theorem QM.leaveCs {x : Exit} (hx : x = .ret ∨ x = .normal) (rs : List ResultVar) (hr : fn.results = rs.toArray) (hD : ∀ D ∈ ds, w0.heap.size ≤ D) [k : SplD M ds M1] (h : ResC P e M1 rs vs) (hR : ∀ w, Mem w M1 → Chg S w0 w → R (resV vs) w) : QM N (fnPost P fn R) x e ds M S w0 G :=
  .mem (fun w hm => hm.perm k.perm) (fun w hm hc hg => by
    obtain ⟨h1, h2, h3⟩ := shut_mem ds w M1 hm hc hD
    rcases hx with rfl | rfl
    · intro a hf hd
      show LeavesInM _ _ _ _ _ _ _ _ _
      rw [hd]
      exact leavesM_shut ds w h1 (results_resC hf h2 hr h) ⟨_, rfl, hR _ h2 h3⟩
    · intro a hf hd
      show LeavesInM _ _ _ _ _ _ _ _ _
      rw [hd]
      exact leavesM_shut ds w h1 (results_resC hf h2 hr h) ⟨_, rfl, hR _ h2 h3⟩)
end
/-! ### A store among what may be carried out early or late -/
section
variable {P : Program} {r : Option Nat} {N : Nat} {Q : Exit → Act → World → Prop} {e : Env} {ds : List Nat} {M : Mem0} {S : Nat → Prop} {w0 : World} {G : World → Prop}
variable {ops : Array Oper} {l : List (Nat × Nat)} {ty : TypeId} {pos : String} {after : Array Edge} {d i : Nat} {t : TypeId} {x y : Operand}
end
/-! ### The rest of a slice -/
def adLo (ad : Option Addr) (l c s : Nat) : Option Addr := if c = l then ad else ad.map (·.add (l * s))
section
variable {P : Program} {ty : TypeId} {e : Env} {t : TypeId} {x lo : Operand}
theorem ov_subLo (l : Nat) {k : IntKind} {li : Int} {ad : Option Addr} {n c s : Nat} {E : TypeId} (hU : P.underlying t = some (.slice E)) (hS : ∀ w, (sizeOf E).run P w = .ok s w) (ha : ev e x = some (.slice ad n c)) (hl : ev e lo = some (.int k li))
    (hli : li = (l : Nat)) (h : l ≤ n) : OpP P (.slice t x (some lo) none none) ty e (.slice (adLo ad l c s) (n - l) (c - l)) := fun w ρ hρ _ _ _ _ => by
  subst hli
  have h2 : (l : Int) ≤ n := by omega
  simp [execOp, Instr.sliceAt, Instr.slice, Instr.sliceBounds, Instr.sliceBound, asIntOf, run_underlying hU, hρ x _ ha, hρ lo _ hl, hS, h, h2, adLo, Result.andThen]
end
theorem Sr.drop {α : Type} {f : α → List Value} {s : Nat} {xs : List α} {ad : Option Addr} {n cap : Nat} {w : World} (h : Sr f s xs (.slice ad n cap) w) {l : Nat} (hk : l ≤ n) : Sr f s (xs.drop l) (.slice (adLo ad l cap s) (n - l) (cap - l)) w := by
  obtain ⟨ad', cap', h1, h2, h3⟩ := h
  simp only [Value.slice.injEq] at h1
  obtain ⟨rfl, rfl, rfl⟩ := h1
  have hl : (xs.drop l).length = xs.length - l := by simp
  refine ⟨_, _, by rw [hl], by omega, fun hx => ?_⟩
  obtain ⟨b, off, cs, E, fz, h4, h5, h6⟩ := h3 (by omega)
  refine ⟨b, off + l * s, cs, E, fz, ?_, h5, fun i a ha j hj => ?_⟩
  · subst h4
    unfold adLo; rw [if_neg (by omega)]
    simp [Addr.add]
  · rw [List.getElem?_drop] at ha
    have := h6 (l + i) a ha j hj
    rw [← this]; congr 1
    rw [Nat.add_mul]; omega
/-! ### A test whose outcome is asked again -/
section
variable {P : Program} {r : Option Nat} {N : Nat} {Q : Exit → Act → World → Prop} {e : Env} {ds : List Nat} {M : Mem0} {S : Nat → Prop} {w0 : World} {G : World → Prop}
theorem Fr.know {t : Nat} {b c : Bool} {a : Act} (hf : Fr N e a) (ht : look e t = some (.bool b)) (hc : b = c) : Fr N ((t, .bool c) :: e) a := ⟨hf.1, fun k u hu => by
    rw [look_cons] at hu
    by_cases hk : t = k
    · subst hk; rw [if_pos rfl] at hu; rw [← hu, ← hc]; exact hf.2 _ _ ht
    · rw [if_neg hk] at hu; exact hf.2 k u hu⟩
end
end Go.Eng
namespace Go.Eng
open Go Go.RowKit
inductive OT where
  | nil : OT
  | one : Nat → Nat → OT → OT
  | fork : Nat → OT → Nat → OT → OT
  | last : Nat → OT
def OT.size : OT → Nat
  | .nil => 0
  | .one _ _ t => t.size + 1
  | .fork _ t _ _ => t.size + 1
  | .last _ => 1
section
variable {P : Program} {r : Option Nat} {ops : Array Oper}
def LDK (P : Program) (r : Option Nat) (ops : Array Oper) (Q : Exit → Act → World → Prop) (D : World → Prop) : (World → Prop) → OT → Act → Prop
  | C, .nil, a => ∀ w, C w → Q .normal a w
  | C, .last i, a => ∀ w, C w → wpOpIn (Wd r) 0 P ops (Qn Q) i (Q .normal) a w
  | C, .fork i t j s, a => (∀ w, C w → wpOpIn (Wd r) 0 P ops (Qn Q) i (fun a' w' => ∃ C' : World → Prop, (∀ w, C' w → D w) ∧ C' w' ∧ LDK P r ops Q D C' t a') a w) ∧
      ∀ w, C w → wpOpIn (Wd r) 0 P ops (Qn Q) j (fun a' w' => ∃ C' : World → Prop, (∀ w, C' w → D w) ∧ C' w' ∧ LDK P r ops Q D C' s a') a w
  | C, .one i k l, a =>
    match ops[i]? with
    | none => False
    | some o =>
      match k with
      | 0 => ∃ v, YA P ops (fun _ => True) o v a ∧ LDK P r ops Q D C l (a.put o.dst v)
      | 1 => ∃ v, YA P ops D o v a ∧ LDK P r ops Q D C l (a.put o.dst v)
      | _ => ∀ w, C w → wpOpIn (Wd r) 0 P ops (Qn Q) i (fun a' w' => ∃ C' : World → Prop, (∀ w, C' w → D w) ∧ C' w' ∧ LDK P r ops Q D C' l a') a w
def chkK (ops : Array Oper) (z : Nat) : OT → Array Bool → Bool
  | .nil, listed => Region.ready .any ops listed == []
  | .last i, listed => Region.ready .any ops listed == [i] && (i == z) && decide (i < listed.size) && Region.ready .any ops (listed.setIfInBounds i true) == []
  | .fork i t j s, listed => Region.ready .any ops listed == [i, j] && t.size == s.size && (i != z) && (j != z) && chkK ops z t (listed.setIfInBounds i true) && chkK ops z s (listed.setIfInBounds j true)
  | .one i k l, listed =>
    (match k with
      | 0 => Region.free .any ops listed i && (Region.ready .any ops listed).contains i
      | 1 => Region.free .any ops listed i && (Region.ready .any ops listed).contains i && (decide (ops.size ≤ z) || depOf ops 40 z i)
      | _ => Region.ready .any ops listed == [i]) && (i != z) &&
    chkK ops z l (listed.setIfInBounds i true)
def isZ (z : Nat) : Nat → Bool := fun q => q == z
theorem ws_of_ldk {Q : Exit → Act → World → Prop} {D : World → Prop} {z : Nat} (hsel : Region.noSelect ops = true) (hnd : noDefer ops = true) :
    ∀ (l : OT) (C : World → Prop) (listed : Array Bool) (a : Act) (w : World), chkK ops z l listed = true → Closed ops listed → listed.getD z false = false → (∀ w, C w → D w) → C w → LDK P r ops Q D C l a → WS P r ops Q D (isZ z) l.size listed a w
  | .nil, C, listed, a, w, hc, _, _, hCD, hC, h => by
    simp only [chkK, beq_iff_eq] at hc
    exact ⟨fun _ => hCD w hC, hc, h w hC⟩
  | .last i, C, listed, a, w, hc, hcl, hz, hCD, hC, h => by
    simp only [chkK, Bool.and_eq_true, beq_iff_eq, decide_eq_true_eq] at hc
    obtain ⟨⟨⟨hr, rfl⟩, hlt⟩, hr2⟩ := hc
    simp only [LDK] at h
    refine ⟨fun _ => hCD w hC, fun h0 => (by rw [hr] at h0; cases h0), fun q hq => ?_⟩
    rw [hr] at hq
    obtain rfl : q = i := by simpa using hq
    exact wpOpIn_mono (fun a' w' hq' => ⟨fun ht => absurd (ht q (by simp [isZ])) (by simp [hlt]), hr2, hq'⟩) (h w hC)
  | .fork i t j s, C, listed, a, w, hc, hcl, hz, hCD, hC, h => by
    simp only [chkK, Bool.and_eq_true, beq_iff_eq, bne_iff_ne] at hc
    obtain ⟨⟨⟨⟨⟨hr, hsz⟩, hiz⟩, hjz⟩, hct⟩, hcs⟩ := hc
    simp only [LDK] at h
    refine ⟨fun _ => hCD w hC, fun h0 => (by rw [hr] at h0; cases h0), fun q hq => ?_⟩
    have hq' := hq
    rw [hr] at hq'
    simp only [List.mem_cons, List.not_mem_nil, or_false] at hq'
    rcases hq' with rfl | rfl
    · exact wpOpIn_mono (fun a' w' ⟨C', hsubC, hC', hl⟩ => ws_of_ldk hsel hnd t C' _ a' w' hct (hcl.set hq) (unlisted_set (Ne.symm hiz) hz) hsubC hC' hl) (h.1 w hC)
    · exact wpOpIn_mono (fun a' w' ⟨C', hsubC, hC', hl⟩ => by have := ws_of_ldk hsel hnd s C' _ a' w' hcs (hcl.set hq) (unlisted_set (Ne.symm hjz) hz) hsubC hC' hl; rw [← hsz] at this; exact this) (h.2 w hC)
  | .one i k l, C, listed, a, w, hc, hcl, hz, hCD, hC, h => by
    simp only [LDK] at h
    cases ho : ops[i]? with
    | none => rw [ho] at h; exact h.elim
    | some o =>
      rw [ho] at h
      simp only at h
      have hnd' : ∀ (j : Nat) (o : Oper), ops[j]? = some o → nd o.op = true := fun j o hj => (Array.all_eq_true_iff_forall_mem.1 hnd) o (Array.mem_of_getElem? hj)
      have hun : ∀ q, isZ z q = true → listed.getD q false = false := fun q hq => by unfold isZ at hq; rw [beq_iff_eq] at hq; subst hq; exact hz
      have hti : i ≠ z → isZ z i = false := fun h => beq_eq_false_iff_ne.2 h
      match k, h, hc with
      | 0, ⟨v, hy, hl⟩, hc =>
        simp only [chkK, Bool.and_eq_true, bne_iff_ne] at hc
        obtain ⟨⟨⟨hf, hr⟩, hiz⟩, hc⟩ := hc
        exact WS.first (tl := isZ z) ho (hti hiz) (Region.noSelect_spec hsel) hnd' (D := fun _ => True) (.inl fun _ => trivial) l.size listed a w hcl (hCD w hC) hun (Region.free_spec ho hf) (by simpa using hr) hy
          (ws_of_ldk hsel hnd l C _ _ w hc (hcl.set (by simpa using hr)) (unlisted_set (Ne.symm hiz) hz) hCD hC hl)
      | 1, ⟨v, hy, hl⟩, hc =>
        simp only [chkK, Bool.and_eq_true, bne_iff_ne, Bool.or_eq_true, decide_eq_true_eq] at hc
        obtain ⟨⟨⟨⟨hf, hr⟩, hdep⟩, hiz⟩, hc⟩ := hc
        exact WS.first (tl := isZ z) ho (hti hiz) (Region.noSelect_spec hsel) hnd' (D := D) (.inr ⟨fun _ h => h, fun j oj hj htj => by
            unfold isZ at htj; rw [beq_iff_eq] at htj; subst htj
            rcases hdep with hd | hd
            · have := (Array.getElem?_eq_some_iff.1 hj).1; omega
            · exact .inr hd⟩) l.size listed a w hcl (hCD w hC) hun (Region.free_spec ho hf) (by simpa using hr) hy
          (ws_of_ldk hsel hnd l C _ _ w hc (hcl.set (by simpa using hr)) (unlisted_set (Ne.symm hiz) hz) hCD hC hl)
      | k + 2, h, hc =>
        simp only [chkK, Bool.and_eq_true, beq_iff_eq, bne_iff_ne] at hc
        obtain ⟨⟨hr, hiz⟩, hc⟩ := hc
        refine ⟨fun _ => hCD w hC, fun h0 => (by rw [hr] at h0; cases h0), fun j hj => ?_⟩
        rw [hr] at hj
        obtain rfl : j = i := by simpa using hj
        exact wpOpIn_mono (fun a' w' ⟨C', hsubC, hC', hl⟩ => ws_of_ldk hsel hnd l C' _ a' w' hc (hcl.set (by rw [hr]; simp)) (unlisted_set (Ne.symm hiz) hz) hsubC hC' hl) (h w hC)
end
def OT.z (n : Nat) : OT → Nat
  | .nil => n
  | .one _ _ t => t.z n
  | .fork _ t _ _ => t.z n
  | .last i => i
def chkKAll (ops : Array Oper) (ord : OT) : Bool :=
  Region.noSelect ops && noDefer ops && (ord.size == ops.size) && chkK ops (ord.z ops.size) ord (Array.replicate ops.size false)
section
variable {P : Program} {r : Option Nat} {N : Nat} {Q : Exit → Act → World → Prop} {e : Env} {ds : List Nat} {M : Mem0} {S : Nat → Prop} {w0 : World} {G : World → Prop}
def KD (P : Program) (r : Option Nat) (N : Nat) (ops : Array Oper) (Q : Exit → Act → World → Prop) (MD : Mem0) (GD : World → Prop) (ord : OT) (e : Env) (ds : List Nat) (M : Mem0) (S : Nat → Prop) (w0 : World) (G : World → Prop) : Prop :=
  ∀ a, Fr N e a → Dm ds a → LDK P r ops Q (Cls MD S w0 GD) (Cls M S w0 G) ord a
theorem wpM.keep [GS G] {id : Nat} {ops : Array Oper} (MD : Mem0) (GD : World → Prop) (ord : OT) (hm : P.follows .mixedOrders = true) (hc : chkKAll ops ord = true) (hM : SubM M MD) (hG : ∀ w, G w → GD w) (h : KD P r N ops Q MD GD ord e ds M S w0 G) : wpM P r N (.region id ops true) Q e ds M S w0 G := fun w hw hcg hg a hf hd => by
  simp only [chkKAll, Bool.and_eq_true, beq_iff_eq] at hc
  obtain ⟨⟨⟨h1, h2⟩, h3⟩, h6⟩ := hc
  refine wpIn_mono (wpIn_region_any (Q := Qn Q) hm ?_) (fun x a w hq => ?_)
  · rw [← h3]
    exact WS.any _ _ a _ (ws_of_ldk h1 h2 ord _ _ a _ (h3 ▸ h6) (fun q o hq _ => by rw [Array.getD_eq_getD_getElem?, Array.getElem?_replicate] at hq; split at hq <;> cases hq) (by rw [Array.getD_eq_getD_getElem?, Array.getElem?_replicate]; split <;> rfl) (fun w hw => ⟨hM.mem w hw.1, hw.2.1, hG w hw.2.2⟩)
      ⟨hw.ext (Chg.drew no w), hcg.trans (Chg.drew S w), GS.ext w _ hg (Chg.drew no w)⟩ (h a hf hd))
  · cases x <;> first | exact hq | exact hq.elim
variable {ops : Array Oper} {l : OT} {op : Op} {ty : TypeId} {pos : String} {after : Array Edge} {d : Nat} {v : Value} {i : Nat} {MD : Mem0} {GD : World → Prop}
theorem KD.nil (h : QM N Q .normal e ds M S w0 G) : KD P r N ops Q MD GD .nil e ds M S w0 G := fun a hf hd w hw => h w hw.1 hw.2.1 hw.2.2 a hf hd
theorem KD.val {g : Option (Nat × Bool)} (hi : ops[i]? = some ⟨some d, op, ty, pos, after, g⟩) (hg : Wtd ops e g true) (hv : OpP P op ty e v) (h : KD P r N ops Q MD GD l ((d, v) :: e) ds M S w0 G) (hnd : nd op = true := by rfl) (hd : Nat.blt d N = true := by rfl) :
    KD P r N ops Q MD GD (.one i 0 l) e ds M S w0 G := fun a hf hdm => by
  simp only [LDK, hi]
  exact ⟨v, .inl ⟨hg.wanted hf, hnd, fun w _ => hv w a.eval (fun x u hx => hf.eval hx) _ _ _ _⟩, h _ (hf.put hd v) hdm⟩
theorem KD.rd {g : Option (Nat × Bool)} (hi : ops[i]? = some ⟨some d, op, ty, pos, after, g⟩) (hg : Wtd ops e g true) (hv : ∀ w, Mem w MD → OpV P op ty e w v w) (h : KD P r N ops Q MD GD l ((d, v) :: e) ds M S w0 G) (hnd : nd op = true := by rfl) (hd : Nat.blt d N = true := by rfl) :
    KD P r N ops Q MD GD (.one i 1 l) e ds M S w0 G := fun a hf hdm => by
  simp only [LDK, hi]
  exact ⟨v, .inl ⟨hg.wanted hf, hnd, fun w hw => hv w hw.1 a.eval (fun x u hx => hf.eval hx) _ _ _ _⟩, h _ (hf.put hd v) hdm⟩
theorem KD.rdC {g : Option (Nat × Bool)} (hi : ops[i]? = some ⟨some d, op, ty, pos, after, g⟩) (hg : Wtd ops e g true) (hv : ∀ w, Mem w MD → Chg S w0 w → GD w → OpV P op ty e w v w) (h : KD P r N ops Q MD GD l ((d, v) :: e) ds M S w0 G) (hnd : nd op = true := by rfl) (hd : Nat.blt d N = true := by rfl) :
    KD P r N ops Q MD GD (.one i 1 l) e ds M S w0 G := fun a hf hdm => by
  simp only [LDK, hi]
  exact ⟨v, .inl ⟨hg.wanted hf, hnd, fun w hw => hv w hw.1 hw.2.1 hw.2.2 a.eval (fun x u hx => hf.eval hx) _ _ _ _⟩, h _ (hf.put hd v) hdm⟩
theorem KD.dropU {g : Option (Nat × Bool)} {k : Nat} (hk : Nat.blt k 2 = true) (hi : ops[i]? = some ⟨some d, op, ty, pos, after, g⟩) (hg : Wtd ops e g false) (h : KD P r N ops Q MD GD l ((d, undef) :: e) ds M S w0 G) (hd : Nat.blt d N = true := by rfl) :
    KD P r N ops Q MD GD (.one i k l) e ds M S w0 G := fun a hf hdm => by
  have hY : ∀ D, YA P ops D ⟨some d, op, ty, pos, after, g⟩ undef a := fun D => .inr ⟨hg.wanted (o := ⟨some d, op, ty, pos, after, g⟩) hf, rfl⟩
  match k, hk with
  | 0, _ => simp only [LDK, hi]; exact ⟨undef, hY _, h _ (hf.put hd undef) hdm⟩
  | 1, _ => simp only [LDK, hi]; exact ⟨undef, hY _, h _ (hf.put hd undef) hdm⟩
theorem KD.drop {g : Option (Nat × Bool)} {k : Nat} (hk : Nat.blt k 2 = true) (hi : ops[i]? = some ⟨some d, op, ty, pos, after, g⟩) (hg : Wtd ops e g false) (h : KD P r N ops Q MD GD l e ds M S w0 G) (hd : Nat.blt d N = true := by rfl) (hfresh : look e d = none := by rfl) :
    KD P r N ops Q MD GD (.one i k l) e ds M S w0 G := .dropU hk hi hg (fun a hf hdm => h a ⟨hf.1, fun t u hu => hf.2 t u (by
      rw [look_cons]
      by_cases hdt : d = t
      · subst hdt; rw [hfresh] at hu; cases hu
      · rw [if_neg hdt]; exact hu)⟩ hdm) hd
theorem KD.splitD {t : Nat} {p : Prop} [Decidable p] (ht : look e t = some (.bool (decide p))) (h1 : p → KD P r N ops Q MD GD l ((t, .bool true) :: e) ds M S w0 G) (h2 : ¬ p → KD P r N ops Q MD GD l ((t, .bool false) :: e) ds M S w0 G) :
    KD P r N ops Q MD GD l e ds M S w0 G := fun a hf hdm => by
  by_cases hp : p
  · exact h1 hp a (hf.know ht (decide_eq_true hp)) hdm
  · exact h2 hp a (hf.know ht (decide_eq_false hp)) hdm
theorem KD.splitB {t : Nat} {b : Bool} (ht : look e t = some (.bool b)) (h1 : b = true → KD P r N ops Q MD GD l ((t, .bool true) :: e) ds M S w0 G) (h2 : b = false → KD P r N ops Q MD GD l ((t, .bool false) :: e) ds M S w0 G) :
    KD P r N ops Q MD GD l e ds M S w0 G := fun a hf hdm => by
  cases hb : b with
  | true => exact h1 hb a (hf.know ht hb) hdm
  | false => exact h2 hb a (hf.know ht hb) hdm
theorem wpIn_mono2 {F : Fence} {n : Nat} {o : Oper} {a : Act} {w : World} {K K' : Act → World → Prop} {Q Q' : Exit → Act → World → Prop} (h : ∀ a w, K a w → K' a w) (hQ : ∀ c a w, Q (.panic c) a w → Q' (.panic c) a w) (hL : LetsOut Q → LetsOut Q')
    (hh : o.wpIn F n P a w K Q) : o.wpIn F n P a w K' Q' := by
  unfold Oper.wpIn at *
  refine ⟨hh.1, ?_⟩
  have hh := hh.2
  generalize (o.semAt F.round a.eval).run P w = r at *
  cases r with
  | ok x w' =>
    cases x <;> simp only [Oper.uponIn] at hh ⊢ <;>
      first
        | exact h _ _ hh
        | exact ⟨hh.1, CallsIn.mono hh.2 (fun e w'' he => by cases e <;> first | exact h _ _ he | exact hQ _ _ _ he | exact hL he)⟩
        | exact ⟨hh.1, RowsIn.mono hh.2 (fun _ _ he => h _ _ he)⟩
        | exact ⟨hh.1, RoundIn.mono hh.2 (fun e w'' he => by cases e <;> first | exact h _ _ he | exact hQ _ _ _ he | exact hL he)⟩
  | halt x w' => cases x <;> simp only [Oper.uponIn] at hh ⊢ <;> first | exact hQ _ _ _ hh | exact hh
def KQ (P : Program) (r : Option Nat) (N : Nat) (ops : Array Oper) (Q : Exit → Act → World → Prop) (D : World → Prop) (l : OT) : Exit → Act → World → Prop := fun x a w => x = .normal ∧ ∃ C' : World → Prop, (∀ w, C' w → D w) ∧ C' w ∧ LDK P r ops Q D C' l a
theorem KD.one {o : Oper} {k : Nat} (ho : ops[i]? = some o) (h : LM P r N ops (KQ P r N ops Q (Cls MD S w0 GD) l) [o] e ds M S w0 G) : KD P r N ops Q MD GD (.one i (k + 2) l) e ds M S w0 G := fun a hf hdm => by
  simp only [LDK, ho]
  intro w hw
  have h3 := h w hw.1 hw.2.1 hw.2.2 a hf hdm
  unfold wpOpIn
  rw [ho]
  unfold wpListIn at h3
  simp only
  split
  · rename_i hq; rw [if_pos hq] at h3
    exact wpIn_mono2 (fun a w h => h.2) (fun c a w h => by cases h.1) (fun ⟨a, w, h⟩ => by cases h.1) h3
  · rename_i hq; rw [if_neg hq] at h3
    exact ⟨fun _ _ => trivial, h3.2.2⟩
theorem KD.last {o : Oper} (ho : ops[i]? = some o) (h : LM P r N ops (Qn Q) [o] e ds M S w0 G) : KD P r N ops Q MD GD (.last i) e ds M S w0 G := fun a hf hdm => by
  simp only [LDK]
  intro w hw
  have h3 := h w hw.1 hw.2.1 hw.2.2 a hf hdm
  unfold wpOpIn
  rw [ho]
  unfold wpListIn at h3
  simp only
  split
  · rename_i hq; rw [if_pos hq] at h3; exact Oper.wpIn_mono (fun a w h => h) h3
  · rename_i hq; rw [if_neg hq] at h3; exact h3
theorem KD.fork {o o2 : Oper} {j : Nat} {s : OT} (ho : ops[i]? = some o) (ho2 : ops[j]? = some o2) (h : LM P r N ops (KQ P r N ops Q (Cls MD S w0 GD) l) [o] e ds M S w0 G) (h2 : LM P r N ops (KQ P r N ops Q (Cls MD S w0 GD) s) [o2] e ds M S w0 G) : KD P r N ops Q MD GD (.fork i l j s) e ds M S w0 G := fun a hf hdm => by
  have k1 := KD.one (k := 0) ho h a hf hdm
  have k2 := KD.one (k := 0) ho2 h2 a hf hdm
  simp only [LDK, ho] at k1
  simp only [LDK, ho2] at k2
  simp only [LDK]
  exact ⟨k1, k2⟩
theorem QM.one (hM : SubM M MD) (hG : ∀ w, G w → GD w) (h : KD P r N ops Q MD GD l e ds M S w0 G) : QM N (KQ P r N ops Q (Cls MD S w0 GD) l) .normal e ds M S w0 G := fun w hm hc hg a hf hd =>
  ⟨rfl, Cls M S w0 G, fun w hw => ⟨hM.mem w hw.1, hw.2.1, hG w hw.2.2⟩, ⟨hm, hc, hg⟩, h a hf hd⟩
end
end Go.Eng
namespace Go.Eng
open Go Go.RowKit
section
variable {P : Program} {e : Env} {x : Operand} {t ty : TypeId} {M : Mem0}
theorem om_slP {α : Type} {f : α → List Value} {F s n0 n cap i j k off : Nat} {xs : List α} {ad : Option Addr} {m M2 : Mem0} {a : α} {vs : List Value} (hsl : Sl f F s n0 xs (.slice ad n cap) m) (hf : ∀ a, (f a).length = s) (hT : ∀ w, (isAgg t).run P w = .ok true w) (hS : ∀ w, (sizeOf t).run P w = .ok k w)
    (ha : ev e x = some (.pointer (some ⟨adB ad, off, none⟩))) (ho : off = adO ad + i * s + j) [h : Spl M m M2] (hi : xs[i]? = some a) (hjk : j + k ≤ s) (hv : ((f a).drop j).take k = vs) (hlen : vs.length = k) : ∀ w, Mem w M → OpV P (.load t x) ty e w (.agg vs.toArray) w := fun w hm => by
  subst ho
  obtain ⟨junk, h0, h1, h2, rfl, _⟩ := hsl.open (List.length_pos_of_mem (List.mem_of_getElem? hi))
  have h3 : adO ad = 0 := by rw [h1]; rfl
  rw [h3, Nat.zero_add] at ha
  have hm2 := hm.perm h.perm
  have hg := hm2.2 (adB ad, .cells (arr f xs junk) F (0, 0)) (List.mem_cons_self ..)
  have h4 := run_loadVar_agg (P := P) (off := i * s + j) (vs := vs) hT hS hg hlen (fun q v hq => by
    have hq2 : q < k := by rw [← hlen]; exact (List.getElem?_eq_some_iff.1 hq).1
    rw [Nat.add_assoc, arr_get hf hi (by omega), ← hq, ← hv, List.getElem?_take, if_pos hq2, List.getElem?_drop])
  intro ρ hρ _ _ _ _
  simp [execOp, Instr.loadAt, Instr.sureAddr, hρ x _ ha, h4, Result.andThen]
end
theorem Sl.at_bn {α : Type} {f : α → List Value} {E s n0 bn n cap : Nat} {xs : List α} {m : Mem0} (h : Sl f E s n0 xs (.slice (some ⟨bn, 0, none⟩) n cap) m) : ∀ p ∈ m, p.1 = bn := fun p hp => by
  rcases h with ⟨h, _⟩ | ⟨b, c, junk, _, h, rfl, _⟩
  · cases h
  · simp only [Value.slice.injEq, Option.some.injEq, Addr.mk.injEq] at h
    rw [List.mem_singleton] at hp; subst hp; exact h.1.1.symm
theorem Sl.bn {α : Type} {f : α → List Value} {E s n0 n cap : Nat} {xs : List α} {ad : Option Addr} {m : Mem0} (h : Sl f E s n0 xs (.slice ad n cap) m) (hx : 0 < xs.length) : ∃ bn, ad = some ⟨bn, 0, none⟩ := by
  obtain ⟨b, c, junk, _, h1, _⟩ := h.ne hx
  simp only [Value.slice.injEq] at h1; exact ⟨b, h1.1⟩
theorem Sl.has_bn {α : Type} {f : α → List Value} {E s n0 bn n cap : Nat} {xs : List α} {m : Mem0} (h : Sl f E s n0 xs (.slice (some ⟨bn, 0, none⟩) n cap) m) : ∃ o, m = [(bn, o)] := by
  rcases h with ⟨h, _⟩ | ⟨b, c, junk, _, h, rfl, _⟩
  · cases h
  · simp only [Value.slice.injEq, Option.some.injEq, Addr.mk.injEq] at h
    exact ⟨_, by rw [h.1.1]⟩
end Go.Eng
namespace Go.Eng
open Go Go.RowKit
theorem KW.ofExt {n : Nat} {a b : World} (h : Ext a b) : KW n a b := ⟨h.os, h.tape, h.output, h.size, fun x o _ ho _ => h.get ho⟩
def SeqL (P : Program) (g : FuncId) (lb : List Value) (A : List (Array Value)) (Rd : World → Prop) : Prop :=
  ∀ (l n : Nat) (J : Nat → World → Prop) (Jx : World → Prop) (W : World), (∀ k w, J k w → Rd w) → (∀ k, GS (J k)) → GS Jx →
    (∀ k a w, A[k]? = some a → J k w → YR P l a w (fun b w2 => ((b = true ∧ J (k + 1) w2) ∨ (b = false ∧ Jx w2)) ∧ KW n w w2)) →
    J 0 W → Ret P g (lb ++ [Value.func (.yield l) #[] #[]]).toArray W (fun _ w' => (J A.length w' ∨ Jx w') ∧ KW n W w')
theorem SeqL.enter {P : Program} {f : FuncId} {fn : Func} {c : Code} {lb : List Value} {A : List (Array Value)} {Rd : World → Prop}
    (hf : P.funcs[f]? = some fn) (hb : fn.body = some c) {N : Nat} (hN : fn.ntmps = N) (hl : Nat.ble (lb.length + 1) N = true)
    (h : ∀ (l n : Nat) (J : Nat → World → Prop) (Jx : World → Prop) (w0 : World), (∀ k w, J k w → Rd w) → (∀ k, GS (J k)) → GS Jx →
      (∀ k a w, A[k]? = some a → J k w → YR P l a w (fun b w2 => ((b = true ∧ J (k + 1) w2) ∨ (b = false ∧ Jx w2)) ∧ KW n w w2)) →
      wpM P none N c (fnPost P fn (fun _ w' => J A.length w' ∨ Jx w')) (args0 0 (lb ++ [.func (.yield l) #[] #[]])) [] [] (fun _ => True) w0 (J 0)) : SeqL P f lb A Rd := fun l n J Jx W hJr gJ gJx hy h0 => by
  have := gJ
  have key := h l n (fun k w => J k w ∧ KW n W w) (fun w => Jx w ∧ KW n W w) W (fun k w hj => hJr k w hj.1)
    (fun k => ⟨fun w w' hj he => ⟨GS.ext (G := J k) w w' hj.1 he, hj.2.trans (KW.ofExt he) (Nat.le_refl _)⟩⟩) ⟨fun w w' hj he => ⟨GS.ext (G := Jx) w w' hj.1 he, hj.2.trans (KW.ofExt he) (Nat.le_refl _)⟩⟩
    (fun k a w ha hj => by
      obtain ⟨fn2, tmps, assign, body, h1, h2⟩ := hy k a w ha hj.1
      refine ⟨fn2, tmps, assign, body, h1, h2.mono ?_⟩
      rintro en w' ⟨b, rfl, hb, hkw⟩
      have hk2 := hj.2.trans hkw (Nat.le_refl _)
      exact ⟨b, rfl, hb.imp (fun q => ⟨q.1, q.2, hk2⟩) (fun q => ⟨q.1, q.2, hk2⟩), hkw⟩)
  have hr := Ret.enterG hf hb hN (by simpa using hl) [] (fun _ => True) (fun w => J 0 w ∧ KW n W w) (Mem.nil W) ⟨h0, KW.refl n W⟩ key
  exact hr.mono (fun v w' q => by
    rcases q with q | q
    · exact ⟨.inl q.1, q.2⟩
    · exact ⟨.inr q.1, q.2⟩)
section
variable {P : Program} {r : Option Nat} {N : Nat} {Q : Exit → Act → World → Prop} {e : Env} {ds : List Nat} {M : Mem0} {S : Nat → Prop} {w0 : World}
variable {ops : Array Oper} {rest : List Oper} {op : Op} {ty : TypeId} {pos : String} {after : Array Edge} {d : Nat}
theorem LM.callL {g : FuncId} {lb : List Value} {A : List (Array Value)} {Rd : World → Prop} {l n : Nat} {J : Nat → World → Prop} {Jx : World → Prop} (hc : ∀ w, OpC P op ty e w g (lb ++ [Value.func (.yield l) #[] #[]]).toArray) (h : SeqL P g lb A Rd)
    (hJr : ∀ k w, J k w → Rd w) (gJ : ∀ k, GS (J k)) (gJx : GS Jx) (hy : ∀ k a w, A[k]? = some a → J k w → YR P l a w (fun b w2 => ((b = true ∧ J (k + 1) w2) ∨ (b = false ∧ Jx w2)) ∧ KW n w w2)) (hS : ∀ b, S b)
    (ht : ∀ u, LM P r N ops Q rest ((d, u) :: e) ds [] S w0 (fun w => J A.length w ∨ Jx w)) (hnd : nd op = true := by rfl) (hd : Nat.blt d N = true := by rfl) :
    LM P r N ops Q (⟨some d, op, ty, pos, after, none⟩ :: rest) e ds M S w0 (J 0) := fun w hm hc2 hg => by
  have h1 := h l n J Jx w hJr gJ gJx hy hg
  refine LE.call (hc w) h1 (fun u w' q => ?_) hnd hd
  have hkw := q.2
  exact ht u w' (Mem.nil _) ⟨hkw.os.trans hc2.os, hkw.tape.trans hc2.tape, hkw.output.trans hc2.output, Nat.le_trans hc2.size hkw.size, fun k _ hn => absurd (hS k) hn⟩ q.1
end
end Go.Eng
namespace Go.Eng
open Go Go.RowKit
def adel (l : List (Int × Value)) (a : Int) : List (Int × Value) := match afind l a 0 with | some (i, _) => l.eraseIdx i | none => l
theorem adel_nil (a : Int) : adel [] a = [] := rfl
theorem adel_cons (b : Int) (u : Value) (l : List (Int × Value)) (a : Int) : adel ((b, u) :: l) a = if a = b then l else (b, u) :: adel l a := by
  unfold adel
  simp only [afind]
  by_cases h : a = b
  · subst h; rw [if_pos rfl, if_pos rfl]; rfl
  · rw [if_neg h, if_neg h, afind_shift l a (0 + 1)]
    cases hf : afind l a 0 with
    | none => rfl
    | some p => rfl
section
variable {P : Program} {r : Option Nat} {N : Nat} {Q : Exit → Act → World → Prop} {e : Env} {ds : List Nat} {M : Mem0} {S : Nat → Prop} {w0 : World} {G : World → Prop}
variable {ops : Array Oper} {l : List Oper} {ty : TypeId} {pos : String} {after : Array Edge} {d : Nat} {t tk : TypeId} {x y z : Operand}
theorem om_lkOk {b : Nat} {k k' : IntKind} {kt et : TypeId} {zv v : Value} {es : Array MapEntry} {clock : Nat} {a : Int} {l : List (Int × Value)} {ok : Bool} {M2 : Mem0} (hU : P.underlying t = some (.map kt et)) (hk : P.underlying kt = some (.int k)) (hz : ∀ w, (zeroValue et).run P w = .ok zv w)
    (hx : ev e x = some (.map (some b))) (hy : ev e y = some (.int k' a)) [h : Fnd M b (.map es clock) M2] (hes : Ens k' es.toList l) (hv : (aget l a).getD zv = v) (ho : (aget l a).isSome = ok) : ∀ w, Mem w M → OpV P (.lookup t x y true) ty e w (.tuple #[v, .bool ok]) w :=
  fun w hm ρ hρ _ _ _ _ => by
  subst hv; subst ho
  have hb := h.get hm
  have h1 : (Instr.lookup t (.map (some b)) (.int k' a) true).run P w = .ok (.tuple #[(aget l a).getD zv, .bool (aget l a).isSome]) w := by
    unfold aget
    cases hf : afind l a 0 with
    | none => simp [Instr.lookup, run_underlying hU, MapKept.run_getObj_map hb, checkKey_int hk, findKey_ens hk hes, hf, hz, Result.andThen]
    | some p => simp [Instr.lookup, run_underlying hU, MapKept.run_getObj_map hb, checkKey_int hk, findKey_ens hk hes, hf, hz, Result.andThen]
  simp [execOp, hρ x _ hx, hρ y _ hy, h1, Result.andThen]
theorem map_erase {α β : Type} (f : α → β) : ∀ (l : List α) (i : Nat), (l.eraseIdx i).map f = (l.map f).eraseIdx i
  | [], _ => rfl
  | a :: l, 0 => rfl
  | a :: l, i + 1 => by simp only [List.eraseIdx_cons_succ, List.map_cons, map_erase f l i]
theorem Ens.len {k : IntKind} {es : List MapEntry} {l : List (Int × Value)} (h : Ens k es l) : es.length = l.length := by
  have := congrArg List.length h; simpa using this
theorem om_mlen {b n : Nat} {k' : IntKind} {kt et : TypeId} {es : Array MapEntry} {clock : Nat} {l : List (Int × Value)} {M2 : Mem0} (hU : P.underlying t = some (.map kt et)) (hx : ev e x = some (.map (some b))) [h : Fnd M b (.map es clock) M2] (hes : Ens k' es.toList l) (hn : l.length = n) :
    ∀ w, Mem w M → OpV P (.call { callee := .builtin .len, args := #[x], argTypes := #[t] }) ty e w (.int .i64 n) w := fun w hm ρ hρ _ _ _ _ => by
  have h2 := hes.len
  rw [Array.length_toList] at h2
  simp [execOp, resolve, invoke, builtin, hρ x _ hx, Builtin.len_, run_underlying hU, MapKept.run_getObj_map (h.get hm), goInt, Result.andThen, h2, hn]
theorem LE.valN {op : Op} {v : Value} {w w' : World} (hv : OpV P op ty e w v w') (h : LE P r N ops Q l e ds w') (hnd : nd op = true := by rfl) :
    LE P r N ops Q (⟨none, op, ty, pos, after, none⟩ :: l) e ds w := fun a hf hdm => by
  refine wpListIn_plain rfl fun K hK => wp_val hnd (hv a.eval (fun x u hx => hf.eval hx) _ _ _ _) (hK _ _ (h _ (hf.putN v) hdm))
theorem LM.mD [GT G] {b : Nat} {k k' : IntKind} {kt et : TypeId} {es : Array MapEntry} {clock : Nat} {a : Int} {m : List (Int × Value)} {M2 : Mem0} (hU : P.underlying t = some (.map kt et)) (hk : P.underlying kt = some (.int k))
    (hx : ev e x = some (.map (some b))) (hy : ev e y = some (.int k' a)) [hM : Fnd M b (.map es clock) M2] (hes : Ens k' es.toList m) (hb : b < w0.heap.size → S b)
    (h : ∀ es' clock', Ens k' es'.toList (adel m a) → LM P r N ops Q l e ds ((b, .map es' clock') :: M2) S w0 G) :
    LM P r N ops Q (⟨none, .call { callee := .builtin .delete, args := #[x, y], argTypes := #[t, tk] }, ty, pos, after, none⟩ :: l) e ds M S w0 G := fun w hm hc hg => by
  have hbw := hM.get hm
  obtain ⟨es', hr, hE⟩ : ∃ es' : Array MapEntry, (Builtin.delete_ #[t, tk] ty #[.map (some b), .int k' a]).run P w = .ok (.tuple #[]) (w.putObj b (.map es' clock)) ∧ Ens k' es'.toList (adel m a) := by
    unfold adel
    cases hf : afind m a 0 with
    | none =>
      refine ⟨es, ?_, hes⟩
      simp [Builtin.delete_, run_underlying hU, MapKept.run_getObj_map hbw, checkKey_int hk, findKey_ens hk hes, hf, MapKept.run_setObj_map _ hbw, Result.andThen, World.putObj]
    | some p =>
      obtain ⟨j, u⟩ := p
      obtain ⟨_, hj⟩ := afind_get m a 0 j u hf
      rw [Nat.sub_zero] at hj
      have hjm : j < m.length := (List.getElem?_eq_some_iff.1 hj).1
      have hjs : j < es.size := by have := hes.len; rw [Array.length_toList] at this; omega
      refine ⟨es.eraseIdxIfInBounds j, ?_, ?_⟩
      · simp [Builtin.delete_, run_underlying hU, MapKept.run_getObj_map hbw, checkKey_int hk, findKey_ens hk hes, hf, MapKept.run_setObj_map _ hbw, Result.andThen, World.putObj]
      · have hsub : (es.eraseIdxIfInBounds j).toList = es.toList.eraseIdx j := by
          unfold Array.eraseIdxIfInBounds
          rw [dif_pos hjs]
          simp
        rw [hsub]
        unfold Ens at hes ⊢
        rw [map_erase, map_erase, hes]
  have hm2 := hm.perm hM.perm
  have hput := World.putObj_heap_same (w := w) (r := b) (o := .map es' clock) (Array.getElem?_eq_some_iff.1 hbw).1
  refine LE.valN (v := .tuple #[]) (w' := w.putObj b (.map es' clock)) (fun ρ hρ _ _ _ _ => ?_) (h es' clock hE _ (hm2.set (i := 0) rfl hput (chg_put _)) (hc.step (chg_put _) (fun q hq hqb => by subst hqb; exact hb hq)) (GT.chg _ w _ hg (chg_put _) (.one (chg_put _) hbw rfl)))
  simp [execOp, resolve, invoke, builtin, hρ x _ hx, hρ y _ hy, hr, Result.andThen]
end
end Go.Eng
namespace Go.Eng
open Go Go.RowKit Go.ChangeShapes Go.WideShapes
section
variable {H : Type} {enc : TypeId × Value → H} {P : Program} {w : World} {base : Nat} {sp : Nat → Bool} {held : Bool} {t : TypeId} {fuel : Nat} {cs : List Value} {x : DataW H × List MemPlace}
theorem mapM_each {α β : Type} (f : α → Option β) : ∀ (l : List α) (ys : List β), l.mapM f = some ys → ∀ a ∈ l, ∃ y, f a = some y
  | [], _, _, a, h => by cases h
  | b :: l, ys, h, a, ha => by
    rw [List.mapM_cons] at h
    simp only [bind, Option.bind_eq_some_iff, pure, Option.some.injEq] at h
    obtain ⟨y, hy, zs, hz, _⟩ := h
    rcases List.mem_cons.1 ha with rfl | ha
    · exact ⟨y, hy⟩
    · exact mapM_each f l zs hz a ha
theorem trod_fields {fs : Array Field} (ht : P.underlying t = some (.struct fs)) (h : DataW.trod enc P w base sp held fuel t cs = some x) :
    cs.length = P.cellsOf t ∧ ∀ f ∈ fs.toList, ∃ n y, DataW.trod enc P w base sp held n f.type ((cs.drop f.offset).take (P.cellsOf f.type)) = some y := by
  cases fuel with
  | zero => simp [DataW.trod] at h
  | succ n =>
    rw [DataW.trod_step] at h
    unfold DataW.trodStep at h
    simp only [ht] at h
    split at h
    · rename_i hl
      simp only [Option.map_eq_some_iff] at h
      obtain ⟨ys, hy, _⟩ := h
      exact ⟨hl, fun f hf => ⟨n, mapM_each _ _ _ hy f hf⟩⟩
    · cases h
theorem trod_elems {n : Nat} {e : TypeId} (ht : P.underlying t = some (.array n e)) (h : DataW.trod enc P w base sp held fuel t cs = some x) :
    cs.length = P.cellsOf t ∧ ∀ i, i < n → ∃ m y, DataW.trod enc P w base sp held m e ((cs.drop (i * P.cellsOf e)).take (P.cellsOf e)) = some y := by
  cases fuel with
  | zero => simp [DataW.trod] at h
  | succ m =>
    rw [DataW.trod_step] at h
    unfold DataW.trodStep at h
    simp only [ht] at h
    split at h
    · rename_i hl
      simp only [Option.map_eq_some_iff] at h
      obtain ⟨ys, hy, _⟩ := h
      exact ⟨hl, fun i hi => ⟨m, mapM_each _ _ _ hy i (List.mem_range.2 hi)⟩⟩
    · cases h
def Rdb (P : Program) (t : TypeId) {α : Type} (f : α → List Value) (ok : α → Prop) : Prop :=
  ∀ {H : Type} {enc : TypeId × Value → H} {w : World} {base : Nat} {sp : Nat → Bool} {held : Bool} {fuel : Nat} {cs : List Value} {x : DataW H × List MemPlace}, DataW.trod enc P w base sp held fuel t cs = some x → ∃ a, cs = f a ∧ ok a
def okK (k : IntKind) (n : Int) : Prop := (Lit.int k n).wf = true
def fU (x : BitVec 64) : List Value := [U x]
theorem fU_len (n : BitVec 64) : (fU n).length = 1 := rfl
theorem bv_of {n : Int} (h : 0 ≤ n ∧ n ≤ 18446744073709551615) : ∃ x : BitVec 64, n = (x.toNat : Int) := ⟨BitVec.ofInt 64 n, by rw [BitVec.toNat_ofInt]; simp; omega⟩
theorem open_sl {α : Type} {f : α → List Value} {ok : α → Prop} {e : TypeId} {s : Nat} (ht : P.underlying t = some (.slice e)) (he : Rdb P e f ok) (hs : P.cellsOf e = s) (hs0 : 0 < s) (hf : ∀ a, (f a).length = s)
    {ad : Option Addr} {len cap : Nat} {d : DataW H} {ps : List MemPlace} (h : DataW.Trod enc P w base sp held t (.slice ad len cap) d ps) :
    ∃ xs : List α, len = xs.length ∧ Sr f s xs (.slice ad xs.length cap) w ∧ (∀ a ∈ xs, ok a) ∧ xs.length ≤ maxLen := by
  obtain ⟨fuel, h⟩ := h
  rcases DataW.trod_slice ht h with ⟨h0, _⟩ | ⟨a, l, c, elems, rest, n, _, h0, _, _, hlc, hcm, hel, hE, _, _⟩
  · simp [Value.cells] at h0
    obtain ⟨rfl, rfl, rfl⟩ := h0
    exact ⟨[], rfl, .nil _ _ _, (fun a ha => absurd ha (by simp)), Nat.zero_le _⟩
  · simp [Value.cells] at h0
    obtain ⟨rfl, rfl, rfl⟩ := h0
    have each : ∀ i, i < len → ∃ b, ok b ∧ ∀ j, j < s → w.cell? (a.add (i * s + j)) = (f b)[j]? := fun i hi => by
      have h1 := hE i hi
      rw [hs] at h1
      obtain ⟨y, hy⟩ : ∃ y, elems[i]? = some y := ⟨_, List.getElem?_eq_getElem (by omega)⟩
      rw [hy, Option.bind_eq_some_iff] at h1
      obtain ⟨cs, hcs, htr⟩ := h1
      obtain ⟨b, rfl, hb⟩ := he htr
      refine ⟨b, hb, fun j hj => ?_⟩
      have := (World.cells?_some hcs).2.2 j hj
      rw [← this, Addr.add_add]
    obtain ⟨xs, hxl, hx⟩ : ∃ xs : List α, xs.length = len ∧ ∀ i b, xs[i]? = some b → ok b ∧ ∀ j, j < s → w.cell? (a.add (i * s + j)) = (f b)[j]? := by
      clear hE hel
      have : ∀ m, m ≤ len → ∃ xs : List α, xs.length = m ∧ ∀ i b, xs[i]? = some b → ok b ∧ ∀ j, j < s → w.cell? (a.add (i * s + j)) = (f b)[j]? := by
        intro m
        induction m with
        | zero => intro _; exact ⟨[], rfl, fun i b h => by simp at h⟩
        | succ m ih =>
          intro hm
          obtain ⟨xs, h1, h2⟩ := ih (by omega)
          obtain ⟨b, hb⟩ := each m (by omega)
          refine ⟨xs ++ [b], by simp [h1], fun i c hc => ?_⟩
          by_cases hi : i < m
          · rw [List.getElem?_append_left (by omega)] at hc; exact h2 i c hc
          · have hlt := (List.getElem?_eq_some_iff.1 hc).1
            simp [h1] at hlt
            have : i = m := by omega
            subst this
            rw [List.getElem?_append_right (by omega), h1, Nat.sub_self] at hc
            simp at hc; subst hc; exact hb
      exact this len (Nat.le_refl _)
    subst hxl
    refine ⟨xs, rfl, ⟨_, _, rfl, hlc, fun h0 => ?_⟩, fun b hb => ?_, by omega⟩
    · obtain ⟨b0, hb0⟩ : ∃ b, xs[0]? = some b := ⟨_, List.getElem?_eq_getElem h0⟩
      have h1 := (hx 0 b0 hb0).2 0 hs0
      have hfb : (f b0)[0]? = some ((f b0)[0]'(by rw [hf]; exact hs0)) := List.getElem?_eq_getElem _
      rw [hfb] at h1
      have hsp := World.cell?_spot h1
      obtain ⟨b, off, spot⟩ := a
      have : spot = none := by simpa [Addr.add] using hsp
      subst this
      have h2 := h1
      rw [add_off] at h2
      unfold World.cell? at h2
      simp only at h2
      split at h2
      · rename_i c E fz hb
        refine ⟨b, off, c, E, fz, rfl, hb, fun i a ha j hj => ?_⟩
        have h3 := (hx i a ha).2 j hj
        rw [add_off] at h3
        unfold World.cell? at h3
        simp only [hb] at h3
        rw [← h3]; rfl
      · cases h2
    · obtain ⟨i, hi⟩ := List.getElem?_of_mem hb
      exact (hx i b hi).1
theorem open_agg {α : Type} {f : α → List Value} {ok : α → Prop} {r : Reach} {b0 : Nat} {v : Value} {d : DataW H} {ps : List MemPlace} (he : Rdb P t f ok) (hu : (∃ n e, P.underlying t = some (.array n e)) ∨ ∃ fs, P.underlying t = some (.struct fs))
    (hval : Value.okWide P w r b0 t v) (h : DataW.Trod enc P w base sp held t v d ps) : ∃ a, v = .agg (f a).toArray ∧ ok a := by
  obtain ⟨fuel, h⟩ := h
  obtain ⟨a, h1, h2⟩ := he h
  obtain ⟨cs, rfl⟩ : ∃ cs, v = .agg cs := by
    rcases hu with ⟨n, e, hu⟩ | ⟨fs, hu⟩
    · simp only [Value.okWide, hu] at hval; obtain ⟨cs, h1, _⟩ := hval; exact ⟨cs, h1⟩
    · simp only [Value.okWide, hu] at hval; obtain ⟨cs, h1, _⟩ := hval; exact ⟨cs, h1⟩
  refine ⟨a, ?_, h2⟩
  congr 1
  apply Array.ext'
  exact h1
theorem rdb_arr2 {k : IntKind} {e : TypeId} (ht : P.underlying t = some (.array 2 e)) (he : P.underlying e = some (.int k)) (hs : P.cellsOf e = 1) (hst : P.cellsOf t = 2) : Rdb P t (fun p : Int × Int => [.int k p.1, .int k p.2]) (fun p => okK k p.1 ∧ okK k p.2) := fun {H enc w base sp held fuel cs x} h => by
  obtain ⟨h1, h2⟩ := trod_elems ht h
  rw [hst] at h1
  match cs, h1 with
  | [a, b], _ =>
    obtain ⟨_, _, h3⟩ := h2 0 (by omega)
    obtain ⟨_, _, h4⟩ := h2 1 (by omega)
    simp [hs] at h3 h4
    obtain ⟨m, e1, _, w1⟩ := DataW.trod_int he h3
    obtain ⟨n, e2, _, w2⟩ := DataW.trod_int he h4
    simp at e1 e2; subst e1; subst e2
    exact ⟨(m, n), rfl, w1, w2⟩
end
end Go.Eng
namespace Go.Eng
open Go Go.RowKit
abbrev bs (l : List UInt8) : ByteArray := ⟨l.toArray⟩
section
variable {P : Program} {ty : TypeId} {e : Env} {t u : TypeId} {x y lo hi : Operand} {l a b : List UInt8}
end
end Go.Eng
namespace Go.Eng
open Go Go.RowKit
section
variable {P : Program} {r : Option Nat} {N : Nat} {Q : Exit → Act → World → Prop} {e : Env} {ds : List Nat} {M : Mem0} {S : Nat → Prop} {w0 : World} {G : World → Prop}
variable {ops : Array Oper} {l : List Oper} {op : Op} {ty : TypeId} {pos : String} {after : Array Edge} {d : Nat}
end
end Go.Eng
namespace Go.Eng
open Go Go.RowKit
theorem run_append_empty {P : Program} (w : World) (t ty E : TypeId) (inf : TypeInfo) (hU : P.underlying t = some (.slice E)) (hI : P.info? E = some inf) (base ad : Option Addr) (n cap cy : Nat) (h : n ≤ cap) :
    (Builtin.append_ #[t, t] ty #[.slice base n cap, .slice ad 0 cy]).run P w = .ok (.slice base n cap) w := by
  have hf : (Builtin.firstCells inf.size 0 (.slice ad 0 cy)).run P w = .ok #[] w := by
    cases ad with
    | none => simp [Builtin.firstCells]
    | some a => exact run_firstCells_some w inf.size 0 a 0 cy [] (by simp) (fun j v hj => by simp at hj)
  have hs : (sizeOf E).run P w = .ok inf.size w := by simp [sizeOf, typeInfo, hI]
  cases base with
  | none => simp [Builtin.append_, run_underlying hU, hs, Builtin.lenOf, hf, h]
  | some b => simp [Builtin.append_, run_underlying hU, hs, Builtin.lenOf, hf, h, storeCells]
theorem flat_cells {α : Type} {f : α → List Value} {s : Nat} (hf : ∀ a, (f a).length = s) (hs : 0 < s) {ys : List α} {j : Nat} {u : Value} (h : (ys.flatMap f)[j]? = some u) : ∃ i a k, ys[i]? = some a ∧ k < s ∧ j = i * s + k ∧ (f a)[k]? = some u := by
  have hj : j < ys.length * s := by
    have := (List.getElem?_eq_some_iff.1 h).1
    rwa [flatMap_len hf] at this
  have hi : j / s < ys.length := (Nat.div_lt_iff_lt_mul hs).2 hj
  have e : j = j / s * s + j % s := by rw [Nat.mul_comm]; exact (Nat.div_add_mod j s).symm
  have hk : j % s < s := Nat.mod_lt _ hs
  refine ⟨j / s, ys[j / s], j % s, List.getElem?_eq_getElem hi, hk, e, ?_⟩
  rw [← flatMap_get hf ys (j / s) (j % s) _ (List.getElem?_eq_getElem hi) hk, ← e]; exact h
section
variable {P : Program} {r : Option Nat} {N : Nat} {Q : Exit → Act → World → Prop} {e : Env} {ds : List Nat} {M : Mem0} {S : Nat → Prop} {w0 : World} {G : World → Prop}
variable {ops : Array Oper} {l : List Oper} {ty : TypeId} {pos : String} {after : Array Edge} {d : Nat} {x y : Operand} {t : TypeId}
theorem LM.appN [GT G] {α : Type} {f : α → List Value} {E s n0 : Nat} {inf : TypeInfo} {z : Value} {xs ys : List α} {v : Value} {m M2 : Mem0} {ad : Option Addr} {ny c : Nat}
    (hU : P.underlying t = some (.slice E)) (hI : ∀ w, (typeInfo E).run P w = .ok inf w) (hz : inf.zero = some z) (hs : inf.size = s) (hs0 : Nat.blt 0 s = true) (hzs : z.cells.size = s) (hd : Nat.blt d N = true)
    (hx : ev e x = some v) (hy : ev e y = some (.slice ad ny c)) (hsl : Sl f E s n0 xs v m) [h2 : Spl M m M2] (hr : ∀ w, Mem w M → Chg S w0 w → G w → Sr f s ys (.slice ad ny c) w)
    (hf : ∀ a, (f a).length = s) (hone : ∀ a, ∀ u ∈ f a, one u = true) (hn0 : n0 ≤ w0.heap.size) (hSm : ∀ p ∈ m, p.1 < w0.heap.size → S p.1) (hlen : xs.length + ys.length ≤ maxLen) (hbytes : (xs.length + ys.length) * inf.bytes ≤ 140737488355328)
    (h : ∀ ad n cap m', n = xs.length + ys.length → Sl f E s n0 (xs ++ ys) (.slice ad n cap) m' → (∀ p ∈ m', w0.heap.size ≤ p.1 ∨ ∃ q ∈ m, q.1 = p.1) → LM P r N ops Q l ((d, .slice ad n cap) :: e) ds (m' ++ M2) S w0 G) :
    LM P r N ops Q (⟨some d, .call { callee := .builtin .append, args := #[x, y], argTypes := #[t, t] }, ty, pos, after, none⟩ :: l) e ds M S w0 G := fun w hm hc hg => by
  have hs0 : 0 < s := Nat.le_of_ble_eq_true hs0
  have hinf := info_of hI
  have hsr := hr w hm hc hg
  have hm2 : Mem w (m ++ M2) := hm.perm h2.perm
  obtain ⟨rfl, -, hop⟩ := hsr.open
  have h' : ∀ v' m', Sl f E s n0 (xs ++ ys) v' m' → (∀ p ∈ m', w0.heap.size ≤ p.1 ∨ ∃ q ∈ m, q.1 = p.1) → LM P r N ops Q l ((d, v') :: e) ds (m' ++ M2) S w0 G := fun v' m' hsl' hin => by
    obtain ⟨ad, cap, rfl⟩ := hsl'.form
    exact h ad _ cap m' (by simp) hsl' hin
  have step : ∀ (v' : Value) (w' : World), (Builtin.append_ #[t, t] ty #[v, .slice ad ys.length c]).run P w = .ok v' w' → 
      (LE P r N ops Q l ((d, v') :: e) ds w') → LE P r N ops Q (⟨some d, .call { callee := .builtin .append, args := #[x, y], argTypes := #[t, t] }, ty, pos, after, none⟩ :: l) e ds w := fun v' w' hr hl =>
    LE.val (fun ρ hρ _ _ _ _ => by simp [execOp, resolve, invoke, builtin, hρ x _ hx, hρ y _ hy, hr, Result.andThen]) hl rfl hd
  by_cases hy0 : ys.length = 0
  · obtain rfl : ys = [] := List.eq_nil_of_length_eq_zero hy0
    have hv : ∃ b n cp, v = .slice b n cp ∧ n ≤ cp := by
      rcases hsl with ⟨rfl, _, _⟩ | ⟨b, cap, junk, _, rfl, _, hle, _, _⟩
      · exact ⟨_, _, _, rfl, Nat.le_refl _⟩
      · exact ⟨_, _, _, rfl, hle⟩
    obtain ⟨b, n, cp, rfl, hle⟩ := hv
    exact step _ _ (run_append_empty w t ty E inf hU hinf b ad n cp c hle) (h' _ m (by simpa using hsl) (fun p hp => .inr ⟨p, hp, rfl⟩) w hm2 hc hg)
  obtain ⟨bx, off, cs, F, fz, rfl, hbx, hcs⟩ := hop (by omega)
  have hfl : (ys.flatMap f).length = ys.length * inf.size := by rw [flatMap_len hf, hs]
  have hnews : ∀ j u, (ys.flatMap f)[j]? = some u → w.cell? ((⟨bx, off, none⟩ : Addr).add j) = some u := fun j u hj => by
    obtain ⟨i, a, k, h1, h2, h3, h4⟩ := flat_cells hf hs0 hj
    have := hcs i a h1 k h2
    rw [← h3, h4] at this
    rw [Addr.add_lit]; simp [World.cell?, hbx]; exact this
  have hone' : ∀ u ∈ ys.flatMap f, one u = true := fun u hu => by
    obtain ⟨a, _, hu⟩ := List.mem_flatMap.1 hu
    exact hone a u hu
  rcases hsl with ⟨rfl, rfl, rfl⟩ | ⟨b, cap, junk, hb, rfl, rfl, hle, hmax, hsz⟩
  · -- nil
    simp only [List.length_nil, Nat.zero_add] at hlen hbytes
    have hr := run_append_nil (P := P) w t ty E inf z hU hinf hz ⟨bx, off, none⟩ ys.length c (ys.flatMap f) hfl hnews (by omega) (by unfold maxLen at hlen; omega) (by omega)
    refine step _ _ hr ?_
    obtain ⟨k, hk, hk1⟩ : ∃ k, grownCap w ys.length 0 E = k ∧ ys.length ≤ k ∧ k ≤ maxLen := ⟨_, rfl, grownCap_ge w _ 0 E, grownCap_le_maxLen w _ 0 E hlen⟩
    rw [hk]
    refine h' _ [(w.heap.size, .cells (arr f ([] ++ ys) (Builtin.zeroCells z.cells (k - ys.length)).toList) E (0, 0))] (.inr ⟨w.heap.size, k, (Builtin.zeroCells z.cells (k - ys.length)).toList, Nat.le_trans hn0 hc.size, rfl, rfl, by simpa using hk1.1, hk1.2, ?_⟩) (fun p hp => by rw [List.mem_singleton] at hp; subst hp; exact .inl hc.size) _ ?_ ?_ ?_
    · simp only [List.nil_append, Array.length_toList, size_zeroCells, hzs]
      rw [Nat.sub_mul]; have : ys.length * s ≤ k * s := Nat.mul_le_mul_right _ hk1.1
      omega
    · have e1 : (Obj.cells ((ys.flatMap f).toArray ++ Builtin.zeroCells z.cells (k - ys.length)) E) = .cells (arr f ([] ++ ys) (Builtin.zeroCells z.cells (k - ys.length)).toList) E (0, 0) := by
        congr 1; apply Array.ext'; simp [arr]
      rw [e1]
      exact (hm2.ext (Chg.drew no w)).alloc _
    · exact (hc.step (Chg.drew no w) (fun _ _ q => q.elim)).step (chg_alloc w.drew _) (fun _ _ q => q.elim)
    · exact GS.ext w.drew _ (GS.ext w _ hg (Chg.drew no w)) (chg_alloc w.drew _)
  · have hbw := hm2.get (i := 0) rfl
    have hsize : (arr f xs junk).size = cap * s := by simp [arr, flatMap_len hf, hsz]
    by_cases hroom : xs.length + ys.length ≤ cap
    · have hmul : (xs.length + ys.length) * s ≤ cap * s := Nat.mul_le_mul_right _ hroom
      rw [Nat.add_mul] at hmul
      have hr := run_append_room (P := P) w t ty E inf hU hinf b xs.length cap (arr f xs junk) hbw ⟨bx, off, none⟩ ys.length c (ys.flatMap f) hfl hnews (fun u hu => hone' u hu) hroom (by rw [hs, flatMap_len hf, hsize]; exact hmul)
      refine step _ _ hr ?_
      rw [hs, flatMap_len hf]
      have e1 : (((arr f xs junk).toList.take (xs.length * s) ++ ys.flatMap f ++ (arr f xs junk).toList.drop (xs.length * s + ys.length * s)).toArray) = arr f (xs ++ ys) (junk.drop (ys.length * s)) := by
        apply Array.ext'
        have hl := flatMap_len hf xs
        simp only [arr, List.flatMap_append]
        rw [← hl, List.take_left, List.drop_append, List.drop_eq_nil_of_le (by omega), List.nil_append, Nat.add_sub_cancel_left]
      rw [e1]
      have hset : (w.setRow b (arr f (xs ++ ys) (junk.drop (ys.length * s)))).heap[b]? = some (.cells (arr f (xs ++ ys) (junk.drop (ys.length * s))) E (0, 0)) := by
        obtain ⟨hlt, hk⟩ := Array.getElem?_eq_some_iff.1 hbw
        show (w.heap.modify b _)[b]? = _
        rw [Array.getElem?_eq_getElem (by rw [Array.size_modify]; exact hlt), Array.getElem_modify_self, hk]
      have hchg : Chg (fun x => x = b) w (w.setRow b (arr f (xs ++ ys) (junk.drop (ys.length * s)))) := ⟨rfl, rfl, rfl, by simp [World.setRow], fun k _ hn => by
        simp only [World.setRow, Array.getElem?_modify]; rw [if_neg (Ne.symm hn)]⟩
      refine h' _ [(b, .cells (arr f (xs ++ ys) (junk.drop (ys.length * s))) E (0, 0))] (.inr ⟨b, cap, junk.drop (ys.length * s), hb, by simp, rfl, by simpa using hroom, hmax, ?_⟩) (fun p hp => by rw [List.mem_singleton] at hp; subst hp; exact .inr ⟨_, List.mem_singleton.2 rfl, rfl⟩) _ ?_ ?_ ?_
      · simp only [List.length_append, List.length_drop, Nat.add_mul]; omega
      · exact hm2.set (i := 0) rfl hset hchg
      · exact hc.step hchg (fun k hk hkb => by subst hkb; exact hSm _ (List.mem_singleton.2 rfl) hk)
      · exact GT.chg _ w _ hg hchg (.one hchg hbw rfl)
    · have holds : ∀ j u, (xs.flatMap f)[j]? = some u → w.cell? ((⟨b, 0, none⟩ : Addr).add j) = some u := fun j u hj => by
        have hj2 : j < (xs.flatMap f).length := (List.getElem?_eq_some_iff.1 hj).1
        rw [add_off]; simp [World.cell?, hbw, arr, List.getElem?_append_left hj2, hj]
      have hr := run_append_grow (P := P) w t ty E inf z hU hinf hz ⟨b, 0, none⟩ xs.length cap (xs.flatMap f) (by rw [flatMap_len hf, hs]) holds ⟨bx, off, none⟩ ys.length c (ys.flatMap f) hfl hnews (by omega) (by unfold maxLen at hlen; omega) (growslice_fits (by omega) hbytes)
      refine step _ _ hr ?_
      obtain ⟨k, hk, hk1⟩ : ∃ k, grownCap w (xs.length + ys.length) cap E = k ∧ xs.length + ys.length ≤ k ∧ k ≤ maxLen := ⟨_, rfl, grownCap_ge w _ cap E, grownCap_le_maxLen w _ cap E hlen⟩
      rw [hk]
      refine h' _ [(w.heap.size, .cells (arr f (xs ++ ys) (Builtin.zeroCells z.cells (k - (xs.length + ys.length))).toList) E (0, 0))] (.inr ⟨w.heap.size, k, (Builtin.zeroCells z.cells (k - (xs.length + ys.length))).toList, Nat.le_trans hn0 hc.size, by simp, rfl, by simpa using hk1.1, hk1.2, ?_⟩) (fun p hp => by rw [List.mem_singleton] at hp; subst hp; exact .inl hc.size) _ ?_ ?_ ?_
      · simp only [List.length_append, Array.length_toList, size_zeroCells, hzs]
        rw [Nat.sub_mul]
        have : (xs.length + ys.length) * s ≤ k * s := Nat.mul_le_mul_right _ hk1.1
        omega
      · have e1 : (Obj.cells ((xs.flatMap f).toArray ++ (ys.flatMap f).toArray ++ Builtin.zeroCells z.cells (k - (xs.length + ys.length))) E) = .cells (arr f (xs ++ ys) (Builtin.zeroCells z.cells (k - (xs.length + ys.length))).toList) E (0, 0) := by
          congr 1; apply Array.ext'; simp [arr]
        rw [e1]
        have hm3 : Mem w M2 := by simpa using hm2.tail
        exact (hm3.ext (Chg.drew no w)).alloc _
      · exact (hc.step (Chg.drew no w) (fun _ _ q => q.elim)).step (chg_alloc w.drew _) (fun _ _ q => q.elim)
      · exact GS.ext w.drew _ (GS.ext w _ hg (Chg.drew no w)) (chg_alloc w.drew _)
end
end Go.Eng
namespace Go.Eng
open Go Go.RowKit
section
variable {P : Program} {r : Option Nat} {N : Nat} {Q : Exit → Act → World → Prop} {e : Env} {ds : List Nat} {M : Mem0} {S : Nat → Prop} {w0 : World} {G : World → Prop}
variable {ops : Array Oper} {l : List Oper} {op : Op} {ty : TypeId} {pos : String} {after : Array Edge} {d : Nat}
end
end Go.Eng
namespace Go.Eng
open Go Go.RowKit Go.Lib Go.Sort
section
variable {P : Program} {r : Option Nat} {N : Nat} {Q : Exit → Go.Act → World → Prop} {e : Env} {ds : List Nat} {M : Mem0} {S : Nat → Prop} {w0 : World} {G : World → Prop}
variable {ops : Array Oper} {l : List Oper} {ty : TypeId} {pos : String} {after : Array Edge} {d : Nat} {x y : Operand} {t : TypeId}
end
section
variable {P : Program} {r : Option Nat} {N : Nat} {Q : Exit → Go.Act → World → Prop} {e : Env} {ds : List Nat} {M : Mem0} {S : Nat → Prop} {w0 : World} {G : World → Prop}
variable {ops : Array Oper} {l : List Oper} {ty : TypeId} {pos : String} {after : Array Edge} {d : Nat} {t : TypeId}
theorem LM.row0 [GS G] {E : TypeId} {s : Nat} (hU : P.underlying t = some (.slice E)) (hS : ∀ w, (sizeOf E).run P w = .ok s w) (hd : Nat.blt d N = true)
    (h : ∀ b, w0.heap.size ≤ b → LM P r N ops Q l ((d, .slice (some ⟨b, 0, none⟩) 0 0) :: e) ds ((b, .cells (([] : List Value).toArray) E (0, 0)) :: M) S w0 G) : LM P r N ops Q (⟨some d, .buildSlice t 0 #[], ty, pos, after, none⟩ :: l) e ds M S w0 G := fun w hm hc hg => by
  refine LE.val (w' := w.alloc (.cells ([] : List Value).toArray E)) (fun ρ hρ _ _ _ _ => ?_) (h w.heap.size hc.size _ (hm.alloc _) (hc.step (chg_alloc w _) (fun _ _ q => q.elim)) (GS.ext w _ hg (chg_alloc w _))) rfl hd
  simp [execOp, Instr.buildSlice, run_underlying hU, hS, Instr.fill, newRow, Result.andThen]
  rw [show (Array.range 0) = #[] by decide, Array.map_empty]
end
section
variable {P : Program} {r : Option Nat} {N : Nat} {Q : Exit → Go.Act → World → Prop} {e : Env} {ds : List Nat} {M : Mem0} {S : Nat → Prop} {w0 : World} {G : World → Prop}
variable {ops : Array Oper} {l : List (Nat × Nat)} {op : Op} {ty : TypeId} {pos : String} {after : Array Edge} {d i : Nat}
theorem LD.callT [GS G] {gd : Option (Nat × Bool)} {g : FuncId} {args : Array Value} {T : Nat → Value → Mem0 → Prop} (hi : ops[i]? = some ⟨some d, op, ty, pos, after, gd⟩) (hgd : Wtd ops e gd true) (hc : ∀ w, OpC P op ty e w g args) (hmono : ∀ n n' u m, n' ≤ n → T n u m → T n' u m)
    (h : ∀ w, Mem w M → Chg S w0 w → G w → Ret P g args w (fun u w' => Ext w w' ∧ ∃ m, T w.heap.size u m ∧ Mem w' m ∧ ∀ p ∈ m, w.heap.size ≤ p.1))
    (hk : ∀ u m, T w0.heap.size u m → (∀ p ∈ m, w0.heap.size ≤ p.1) → LD P r N ops Q l ((d, u) :: e) ds (M ++ m) S w0 G) (hnd : nd op = true := by rfl) (hd : Nat.blt d N = true := by rfl) :
    LD P r N ops Q ((i, 2) :: l) e ds M S w0 G :=
  .callG hi hgd hc (fun w hm hcg hg => h w hm hcg hg) (fun w u w' hm hcg hg ⟨he, m, hT, hm', hge⟩ => by
    refine ⟨M ++ m, fun w h => h.sub (List.sublist_append_left _ _), ⟨Mem.perm (M := m ++ M) ⟨?_, fun p hp => ?_⟩ List.perm_append_comm, hcg.step he (fun _ _ q => q.elim), GS.ext w w' hg he⟩, hk u m (hmono _ _ u m hcg.size hT) (fun p hp => Nat.le_trans hcg.size (hge p hp))⟩
    · rw [List.map_append]
      refine List.nodup_append.2 ⟨hm'.1, hm.1, ?_⟩
      intro x hx y hy hxy
      obtain ⟨p, hp, rfl⟩ := List.mem_map.1 hx
      obtain ⟨q, hq, rfl⟩ := List.mem_map.1 hy
      have := hge p hp
      have := hm.lt hq
      omega
    · rcases List.mem_append.1 hp with hp | hp
      · exact hm'.2 p hp
      · exact he.get (hm.2 p hp)) hnd hd
end
theorem Sl.void {α : Type} {f : α → List Value} {E s n0 b cap : Nat} {cs : List Value} (hb : n0 ≤ b) (hc : cap ≤ maxLen) (hl : cs.length = cap * s) : Sl f E s n0 ([] : List α) (.slice (some ⟨b, 0, none⟩) 0 cap) [(b, .cells cs.toArray E (0, 0))] :=
  .inr ⟨b, cap, cs, hb, rfl, by simp [arr], Nat.zero_le _, hc, by simpa using hl⟩
end Go.Eng
namespace Go.Eng
open Go Go.RowKit Go.MapKept
def EnsS (k : IntKind) (es : Array MapEntry) (clock : Nat) (l : List (Int × Value)) : Prop := Ens k es.toList l ∧ Stamped es clock
theorem afind_no : ∀ (l : List (Int × Value)) (a : Int) (i : Nat), afind l a i = none → ∀ p ∈ l, p.1 ≠ a
  | [], _, _, _, _, h => by cases h
  | (b, u) :: l, a, i, h, p, hp => by
    simp only [afind] at h
    by_cases hab : a = b
    · rw [if_pos hab] at h; cases h
    · rw [if_neg hab] at h
      rcases List.mem_cons.1 hp with rfl | hp
      · exact fun q => hab q.symm
      · exact afind_no l a (i + 1) h p hp
theorem ens_key {k : IntKind} {es : List MapEntry} {l : List (Int × Value)} (h : Ens k es l) {e : MapEntry} (he : e ∈ es) : ∃ p ∈ l, e.key = .int k p.1 ∧ e.val = p.2 := by
  have : (e.key, e.val) ∈ l.map (fun p => (Value.int k p.1, p.2)) := by rw [← h]; exact List.mem_map.2 ⟨e, he, rfl⟩
  obtain ⟨p, hp, e2⟩ := List.mem_map.1 this
  rw [Prod.mk.injEq] at e2
  exact ⟨p, hp, e2.1.symm, e2.2.symm⟩
theorem ensS_nil (k : IntKind) : EnsS k #[] 0 [] := ⟨rfl, stamped_empty 0⟩
section
variable {P : Program} {r : Option Nat} {N : Nat} {Q : Exit → Act → World → Prop} {e : Env} {ds : List Nat} {M : Mem0} {S : Nat → Prop} {w0 : World} {G : World → Prop}
variable {ops : Array Oper} {l : List Oper} {ty : TypeId} {pos : String} {after : Array Edge} {d : Nat} {t tk : TypeId} {x y z : Operand}
theorem LM.mUS [GT G] {b : Nat} {k k' : IntKind} {kt et : TypeId} {v : Value} {es : Array MapEntry} {clock : Nat} {a : Int} {m : List (Int × Value)} {M2 : Mem0} (hU : P.underlying t = some (.map kt et)) (hk : P.underlying kt = some (.int k))
    (hx : ev e x = some (.map (some b))) (hy : ev e y = some (.int k' a)) (hz : ev e z = some v) [hM : Fnd M b (.map es clock) M2] (hes : EnsS k' es clock m) (hb : b < w0.heap.size → S b)
    (h : ∀ es' clock', EnsS k' es' clock' (aput m a v) → LM P r N ops Q l e ds ((b, .map es' clock') :: M2) S w0 G) :
    LM P r N ops Q (⟨none, .mapUpdate t x y z, ty, pos, after, none⟩ :: l) e ds M S w0 G := fun w hm hc hg => by
  have hbw := hM.get hm
  obtain ⟨hes, hst⟩ := hes
  obtain ⟨es', clock', hr, hE⟩ : ∃ es' clock', (Instr.mapUpdate t (.map (some b)) (.int k' a) v).run P w = .ok () (w.putObj b (.map es' clock')) ∧ EnsS k' es' clock' (aput m a v) := by
    cases hf : afind m a 0 with
    | none =>
      refine ⟨es.push ⟨.int k' a, v, clock⟩, clock + 1, ?_, ?_, ?_⟩
      · simp [Instr.mapUpdate, run_underlying hU, MapKept.run_getObj_map hbw, checkKey_int hk, findKey_ens hk hes, hf, MapKept.run_setObj_map _ hbw, Result.andThen, World.putObj]
      · unfold aput Ens at *; rw [hf]; simp [hes]
      · exact stamped_push hst (fun q hq eq => by
          obtain ⟨p, hp, e1, _⟩ := ens_key hes hq
          rw [e1] at eq
          exact afind_no m a 0 hf p hp (Value.int.inj eq).2)
    | some p =>
      obtain ⟨j, u⟩ := p
      obtain ⟨_, hj⟩ := afind_get m a 0 j u hf
      rw [Nat.sub_zero] at hj
      have hkey : (es[j]?).map (·.key) = some (.int k' a) := by
        have h1 := congrArg (fun l => l[j]?) hes
        simp only [List.getElem?_map, hj, Option.map_some, Array.getElem?_toList] at h1
        cases hq : es[j]? with
        | none => rw [hq] at h1; simp at h1
        | some q => rw [hq] at h1; simp at h1; simp [h1.1]
      refine ⟨es.modify j fun e => { e with key := .int k' a, val := v }, clock, ?_, ?_, ?_⟩
      · simp [Instr.mapUpdate, run_underlying hU, MapKept.run_getObj_map hbw, checkKey_int hk, findKey_ens hk hes, hf, hkey, Instr.keyThatStays, Instr.sameBits, MapKept.run_setObj_map _ hbw, Result.andThen, World.putObj]
      · unfold aput Ens at *; rw [hf]
        apply List.ext_getElem?
        intro q
        have h1 := congrArg (fun l => l[q]?) hes
        simp only [List.getElem?_map, Array.getElem?_toList, Array.getElem?_modify, List.getElem?_set] at h1 ⊢
        by_cases hqj : j = q
        · subst hqj
          have hlt : j < m.length := (List.getElem?_eq_some_iff.1 hj).1
          cases hq : es[j]? with
          | none => rw [hq] at hkey; simp at hkey
          | some z => simp [hlt]
        · simp only [hqj, if_false]; exact h1
      · exact stamped_modify hst j _ (fun _ _ => rfl) (fun q _ hq => by rw [hq] at hkey; simpa using hkey.symm)
  have hm2 := hm.perm hM.perm
  have hput := World.putObj_heap_same (w := w) (r := b) (o := .map es' clock') (Array.getElem?_eq_some_iff.1 hbw).1
  refine LE.skp (w' := w.putObj b (.map es' clock')) (fun ρ hρ _ _ _ _ => ?_) (h es' clock' hE _ (hm2.set (i := 0) rfl hput (chg_put _)) (hc.step (chg_put _) (fun q hq hqb => by subst hqb; exact hb hq)) (GT.chg _ w _ hg (chg_put _) (.one (chg_put _) hbw rfl))) rfl
  simp [execOp, hρ x _ hx, hρ y _ hy, hρ z _ hz, hr, Result.andThen]
theorem LM.mDS [GT G] {b : Nat} {k k' : IntKind} {kt et : TypeId} {es : Array MapEntry} {clock : Nat} {a : Int} {m : List (Int × Value)} {M2 : Mem0} (hU : P.underlying t = some (.map kt et)) (hk : P.underlying kt = some (.int k))
    (hx : ev e x = some (.map (some b))) (hy : ev e y = some (.int k' a)) [hM : Fnd M b (.map es clock) M2] (hes : EnsS k' es clock m) (hb : b < w0.heap.size → S b)
    (h : ∀ es' clock', EnsS k' es' clock' (adel m a) → LM P r N ops Q l e ds ((b, .map es' clock') :: M2) S w0 G) :
    LM P r N ops Q (⟨none, .call { callee := .builtin .delete, args := #[x, y], argTypes := #[t, tk] }, ty, pos, after, none⟩ :: l) e ds M S w0 G := fun w hm hc hg => by
  have hbw := hM.get hm
  obtain ⟨hes, hst⟩ := hes
  obtain ⟨es', hr, hE⟩ : ∃ es' : Array MapEntry, (Builtin.delete_ #[t, tk] ty #[.map (some b), .int k' a]).run P w = .ok (.tuple #[]) (w.putObj b (.map es' clock)) ∧ EnsS k' es' clock (adel m a) := by
    unfold adel
    cases hf : afind m a 0 with
    | none =>
      refine ⟨es, ?_, hes, hst⟩
      simp [Builtin.delete_, run_underlying hU, MapKept.run_getObj_map hbw, checkKey_int hk, findKey_ens hk hes, hf, MapKept.run_setObj_map _ hbw, Result.andThen, World.putObj]
    | some p =>
      obtain ⟨j, u⟩ := p
      obtain ⟨_, hj⟩ := afind_get m a 0 j u hf
      rw [Nat.sub_zero] at hj
      have hjm : j < m.length := (List.getElem?_eq_some_iff.1 hj).1
      have hjs : j < es.size := by have := hes.len; rw [Array.length_toList] at this; omega
      refine ⟨es.eraseIdxIfInBounds j, ?_, ?_, stamped_erase hst j⟩
      · simp [Builtin.delete_, run_underlying hU, MapKept.run_getObj_map hbw, checkKey_int hk, findKey_ens hk hes, hf, MapKept.run_setObj_map _ hbw, Result.andThen, World.putObj]
      · have hsub : (es.eraseIdxIfInBounds j).toList = es.toList.eraseIdx j := by
          unfold Array.eraseIdxIfInBounds
          rw [dif_pos hjs]
          simp
        rw [hsub]
        unfold Ens at hes ⊢
        rw [map_erase, map_erase, hes]
  have hm2 := hm.perm hM.perm
  have hput := World.putObj_heap_same (w := w) (r := b) (o := .map es' clock) (Array.getElem?_eq_some_iff.1 hbw).1
  refine LE.valN (v := .tuple #[]) (w' := w.putObj b (.map es' clock)) (fun ρ hρ _ _ _ _ => ?_) (h es' clock hE _ (hm2.set (i := 0) rfl hput (chg_put _)) (hc.step (chg_put _) (fun q hq hqb => by subst hqb; exact hb hq)) (GT.chg _ w _ hg (chg_put _) (.one (chg_put _) hbw rfl)))
  simp [execOp, resolve, invoke, builtin, hρ x _ hx, hρ y _ hy, hr, Result.andThen]
end
end Go.Eng
namespace Go.Eng
open Go Go.RowKit Go.MapKept
def EAt (es : Array MapEntry) (k : IntKind) (a : Int) (β : Nat) : Prop := ∃ j : Nat, (es[j]?).map (fun q => (q.key, q.born)) = some (Value.int k a, β)
theorem aput_aput : ∀ (m : List (Int × Value)) (a : Int) (u v : Value), aput (aput m a u) a v = aput m a v
  | [], a, u, v => by rw [aput_nil, aput_nil, aput_cons, if_pos rfl]
  | (b, x) :: m, a, u, v => by
    rw [aput_cons, aput_cons]
    by_cases h : a = b
    · rw [if_pos h, if_pos h, aput_cons, if_pos rfl]
    · rw [if_neg h, if_neg h, aput_cons, if_neg h, aput_aput m a u v]
section
variable {P : Program} {r : Option Nat} {N : Nat} {Q : Exit → Act → World → Prop} {e : Env} {ds : List Nat} {M : Mem0} {S : Nat → Prop} {w0 : World} {G : World → Prop}
variable {ops : Array Oper} {l : List Oper} {ty : TypeId} {pos : String} {after : Array Edge} {d : Nat} {t tk : TypeId} {x y z : Operand}
theorem LM.mEntry [GT G] {b : Nat} {k k' : IntKind} {kt et : TypeId} {zv : Value} {es : Array MapEntry} {clock : Nat} {a : Int} {m : List (Int × Value)} {M2 : Mem0} (hU : P.underlying t = some (.map kt et)) (hk : P.underlying kt = some (.int k)) (hZ : ∀ w, (zeroValue et).run P w = .ok zv w)
    (hx : ev e x = some (.map (some b))) (hy : ev e y = some (.int k' a)) [hM : Fnd M b (.map es clock) M2] (hes : EnsS k' es clock m) (hb : b < w0.heap.size → S b) (hd : Nat.blt d N = true)
    (h : ∀ es' clock' u β, EnsS k' es' clock' (aput m a u) → EAt es' k' a β → LM P r N ops Q l ((d, .tuple #[u, .int .i64 (β : Nat)]) :: e) ds ((b, .map es' clock') :: M2) S w0 G) :
    LM P r N ops Q (⟨some d, .mapEntry t x y, ty, pos, after, none⟩ :: l) e ds M S w0 G := fun w hm hc hg => by
  have hbw := hM.get hm
  obtain ⟨hes, hst⟩ := hes
  obtain ⟨es', clock', u, β, hr, hE, hA⟩ : ∃ es' clock' u, ∃ β : Nat, (Instr.mapEntry t (.map (some b)) (.int k' a)).run P w = .ok (.tuple #[u, .int .i64 (β : Nat)]) (w.putObj b (.map es' clock')) ∧ EnsS k' es' clock' (aput m a u) ∧ EAt es' k' a β := by
    cases hf : afind m a 0 with
    | none =>
      refine ⟨es.push ⟨.int k' a, zv, clock⟩, clock + 1, zv, clock, ?_, ⟨?_, ?_⟩, es.size, ?_⟩
      · simp [Instr.mapEntry, run_underlying hU, MapKept.run_getObj_map hbw, checkKey_int hk, findKey_ens hk hes, hf, hZ, MapKept.run_setObj_map _ hbw, Result.andThen, World.putObj, goInt]
      · unfold aput Ens at *; rw [hf]; simp [hes]
      · exact stamped_push hst (fun q hq eq => by
          obtain ⟨p, hp, e1, _⟩ := ens_key hes hq
          rw [e1] at eq
          exact afind_no m a 0 hf p hp (Value.int.inj eq).2)
      · simp
    | some p =>
      obtain ⟨j, u⟩ := p
      obtain ⟨_, hj⟩ := afind_get m a 0 j u hf
      rw [Nat.sub_zero] at hj
      obtain ⟨q, hq, hkey⟩ : ∃ q, es[j]? = some q ∧ q.key = .int k' a := by
        have h1 := congrArg (fun l => l[j]?) hes
        simp only [List.getElem?_map, hj, Option.map_some, Array.getElem?_toList] at h1
        cases hq : es[j]? with
        | none => rw [hq] at h1; simp at h1
        | some q => rw [hq] at h1; simp at h1; exact ⟨q, rfl, h1.1⟩
      refine ⟨es.modify j fun e => { e with key := .int k' a }, clock, u, q.born, ?_, ⟨?_, ?_⟩, j, ?_⟩
      · simp [Instr.mapEntry, run_underlying hU, MapKept.run_getObj_map hbw, checkKey_int hk, findKey_ens hk hes, hf, hq, hkey, Instr.keyThatStays, Instr.sameBits, MapKept.run_setObj_map _ hbw, Result.andThen, World.putObj, goInt]
      · unfold aput Ens at *; rw [hf]
        apply List.ext_getElem?
        intro i
        have h1 := congrArg (fun l => l[i]?) hes
        simp only [List.getElem?_map, Array.getElem?_toList, Array.getElem?_modify, List.getElem?_set] at h1 ⊢
        by_cases hqj : j = i
        · subst hqj
          have hlt : j < m.length := (List.getElem?_eq_some_iff.1 hj).1
          rw [hq, hj] at h1
          simp only [Option.map_some, Option.some.injEq, Prod.mk.injEq] at h1
          rw [hq]; simp [hlt, h1.2]
        · simp only [hqj, if_false]; exact h1
      · exact stamped_modify hst j _ (fun _ _ => rfl) (fun q' _ hq' => by rw [hq] at hq'; cases hq'; exact hkey.symm)
      · rw [Array.getElem?_modify, if_pos rfl, hq]; rfl
  have hm2 := hm.perm hM.perm
  have hput := World.putObj_heap_same (w := w) (r := b) (o := .map es' clock') (Array.getElem?_eq_some_iff.1 hbw).1
  refine LE.val (v := .tuple #[u, .int .i64 (β : Nat)]) (w' := w.putObj b (.map es' clock')) (fun ρ hρ _ _ _ _ => ?_) (h es' clock' u β hE hA _ (hm2.set (i := 0) rfl hput (chg_put _)) (hc.step (chg_put _) (fun q hq hqb => by subst hqb; exact hb hq)) (GT.chg _ w _ hg (chg_put _) (.one (chg_put _) hbw rfl))) rfl hd
  simp [execOp, hρ x _ hx, hρ y _ hy, hr, Result.andThen]
theorem LM.eStore [GT G] {b β : Nat} {k' : IntKind} {v u : Value} {es : Array MapEntry} {clock : Nat} {a : Int} {m : List (Int × Value)} {M2 : Mem0} 
    (hx : ev e x = some (.map (some b))) (hy : ev e y = some (.int .i64 (β : Nat))) (hz : ev e z = some v) [hM : Fnd M b (.map es clock) M2] (hes : EnsS k' es clock (aput m a u)) (hA : EAt es k' a β) (hb : b < w0.heap.size → S b)
    (h : ∀ es', EnsS k' es' clock (aput m a v) → LM P r N ops Q l e ds ((b, .map es' clock) :: M2) S w0 G) :
    LM P r N ops Q (⟨none, .entryStore t x y z, ty, pos, after, none⟩ :: l) e ds M S w0 G := fun w hm hc hg => by
  have hbw := hM.get hm
  obtain ⟨hes, hst⟩ := hes
  obtain ⟨es', hr, hE⟩ : ∃ es', (Instr.entryStore t (.map (some b)) (.int .i64 (β : Nat)) v).run P w = .ok () (w.putObj b (.map es' clock)) ∧ EnsS k' es' clock (aput m a v) := by
    obtain ⟨j, hA⟩ := hA
    obtain ⟨q, hq, hqk, hqb⟩ : ∃ q, es[j]? = some q ∧ q.key = .int k' a ∧ q.born = β := by
      cases hq : es[j]? with
      | none => rw [hq] at hA; cases hA
      | some q => rw [hq] at hA; simp only [Option.map_some, Option.some.injEq, Prod.mk.injEq] at hA; exact ⟨q, rfl, hA⟩
    have hjs : j < es.size := (Array.getElem?_eq_some_iff.1 hq).1
    have hfi : es.findIdx? (fun e => (e.born : Int) == (β : Int)) = some j := by
      rw [Array.findIdx?_eq_some_iff_getElem]
      refine ⟨hjs, ?_, fun i hi => ?_⟩
      · have : es[j] = q := (Array.getElem?_eq_some_iff.1 hq).2
        rw [this, hqb]; simp
      · have hnd := hst.2.1
        have h1 := List.pairwise_iff_getElem.1 hnd i j (by simp; omega) (by simp; omega) hi
        simp only [List.getElem_map, Array.getElem_toList] at h1
        have : es[j] = q := (Array.getElem?_eq_some_iff.1 hq).2
        rw [this, hqb] at h1
        simp only [beq_iff_eq]; omega
    have hr0 : (asInt (.int .i64 (β : Nat))).run P w = .ok (β : Int) w := by simp [asInt, asIntOf]
    refine ⟨es.modify j fun e => { e with val := v }, ?_, ?_, stamped_modify hst j _ (fun _ _ => rfl) (fun _ _ _ => rfl)⟩
    · simp [Instr.entryStore, MapKept.run_getObj_map hbw, hr0, hfi, MapKept.run_setObj_map _ hbw, Result.andThen, World.putObj]
    · have hlen : es.size = (aput m a u).length := by have := hes.len; rwa [Array.length_toList] at this
      have hat : (aput m a u)[j]? = some (a, q.val) := by
        have h1 := congrArg (fun l => l[j]?) hes
        simp only [List.getElem?_map, Array.getElem?_toList, hq, Option.map_some] at h1
        cases hq2 : (aput m a u)[j]? with
        | none => rw [hq2] at h1; cases h1
        | some p =>
          rw [hq2] at h1
          simp only [Option.map_some, Option.some.injEq, Prod.mk.injEq, hqk, Value.int.injEq, true_and] at h1
          obtain ⟨p1, p2⟩ := p
          simp only at h1
          rw [h1.1, h1.2]
      have hfd : afind (aput m a u) a 0 = some (j, q.val) := by
        cases hf : afind (aput m a u) a 0 with
        | none => exact absurd rfl (afind_no _ a 0 hf _ (List.mem_of_getElem? hat))
        | some p =>
          obtain ⟨i, x⟩ := p
          obtain ⟨_, hi⟩ := afind_get _ a 0 i x hf
          rw [Nat.sub_zero] at hi
          have hij : i = j := by
            have hkn := hst.2.2
            have hi2 : (es.toList.map (·.key))[i]? = some (.int k' a) := by
              have h1 := congrArg (fun l => (l[i]?).map (·.1)) hes
              simp only [List.getElem?_map, hi, Option.map_some] at h1
              rw [List.getElem?_map, ← h1]
              cases es.toList[i]? <;> rfl
            have hj2 : (es.toList.map (·.key))[j]? = some (.int k' a) := by rw [List.getElem?_map, Array.getElem?_toList, hq, Option.map_some, hqk]
            exact (List.getElem?_inj (List.getElem?_eq_some_iff.1 hi2).1 hkn).1 (hi2.trans hj2.symm)
          subst hij
          rw [hi] at hat
          simp only [Option.some.injEq, Prod.mk.injEq, true_and] at hat
          rw [hat]
      rw [← aput_aput m a u v]
      unfold Ens at hes ⊢
      rw [show aput (aput m a u) a v = (aput m a u).set j (a, v) by rw [aput, hfd]]
      apply List.ext_getElem?
      intro i
      have h1 := congrArg (fun l => l[i]?) hes
      simp only [List.getElem?_map, Array.getElem?_toList, Array.getElem?_modify, List.getElem?_set] at h1 ⊢
      by_cases hqj : j = i
      · subst hqj
        rw [hq]; simp [hqk, ← hlen, hjs]
      · simp only [hqj, if_false]; exact h1
  have hm2 := hm.perm hM.perm
  have hput := World.putObj_heap_same (w := w) (r := b) (o := .map es' clock) (Array.getElem?_eq_some_iff.1 hbw).1
  refine LE.skp (w' := w.putObj b (.map es' clock)) (fun ρ hρ _ _ _ _ => ?_) (h es' hE _ (hm2.set (i := 0) rfl hput (chg_put _)) (hc.step (chg_put _) (fun q hq hqb => by subst hqb; exact hb hq)) (GT.chg _ w _ hg (chg_put _) (.one (chg_put _) hbw rfl))) rfl
  simp [execOp, hρ x _ hx, hρ y _ hy, hρ z _ hz, hr, Result.andThen]
end
end Go.Eng
namespace Go.Eng
open Go Go.RowKit
variable {I : List Nat}
structure Kv where
  V : BitVec 64
  id : Int
  x : Int
deriving DecidableEq
instance : Inhabited Kv := ⟨⟨0#64, 0, 0⟩⟩
structure Nd where
  e : Kv
  l : Nat
  r : Nat
  up : Nat
  red : Bool
deriving DecidableEq
instance : Inhabited Nd := ⟨⟨default, 0, 0, 0, false⟩⟩
abbrev gN (N : List Nd) (i : Nat) : Nd := N.getD i default
def nL (N : List Nd) (i v : Nat) : List Nd := N.set i { gN N i with l := v }
def nR (N : List Nd) (i v : Nat) : List Nd := N.set i { gN N i with r := v }
def nU (N : List Nd) (i v : Nat) : List Nd := N.set i { gN N i with up := v }
def nC (N : List Nd) (i : Nat) (c : Bool) : List Nd := N.set i { gN N i with red := c }
def nS (s : Bool) (N : List Nd) (i v : Nat) : List Nd := if s then nL N i v else nR N i v
def Nd.ch (x : Nd) (s : Bool) : Nat := if s then x.l else x.r
theorem nL_len (N : List Nd) (i v : Nat) : (nL N i v).length = N.length := List.length_set
theorem nR_len (N : List Nd) (i v : Nat) : (nR N i v).length = N.length := List.length_set
theorem nU_len (N : List Nd) (i v : Nat) : (nU N i v).length = N.length := List.length_set
theorem nC_len (N : List Nd) (i : Nat) (c : Bool) : (nC N i c).length = N.length := List.length_set
theorem nS_len (s : Bool) (N : List Nd) (i v : Nat) : (nS s N i v).length = N.length := by unfold nS; split; exact nL_len ..; exact nR_len ..
theorem set_at (N : List Nd) (i : Nat) (f : Nd → Nd) (j : Nat) : (N.set i (f (gN N i)))[j]? = if i = j then (N[j]?).map f else N[j]? := by
  rw [List.getElem?_set]
  by_cases h : i = j
  · subst h
    rw [if_pos rfl, if_pos rfl]
    by_cases hl : i < N.length
    · rw [if_pos hl, List.getElem?_eq_getElem hl]
      simp [gN, List.getD_eq_getElem?_getD, List.getElem?_eq_getElem hl]
    · rw [if_neg hl, List.getElem?_eq_none (by omega)]; rfl
  · rw [if_neg h, if_neg h]
theorem nL_at (N : List Nd) (i v j : Nat) : (nL N i v)[j]? = if i = j then (N[j]?).map (fun x => { x with l := v }) else N[j]? := set_at N i (fun x => { x with l := v }) j
theorem nR_at (N : List Nd) (i v j : Nat) : (nR N i v)[j]? = if i = j then (N[j]?).map (fun x => { x with r := v }) else N[j]? := set_at N i (fun x => { x with r := v }) j
theorem nU_at (N : List Nd) (i v j : Nat) : (nU N i v)[j]? = if i = j then (N[j]?).map (fun x => { x with up := v }) else N[j]? := set_at N i (fun x => { x with up := v }) j
theorem nC_at (N : List Nd) (i : Nat) (c : Bool) (j : Nat) : (nC N i c)[j]? = if i = j then (N[j]?).map (fun x => { x with red := c }) else N[j]? := set_at N i (fun x => { x with red := c }) j
theorem nS_at (s : Bool) (N : List Nd) (i v j : Nat) : (nS s N i v)[j]? = if i = j then (N[j]?).map (fun x => if s then { x with l := v } else { x with r := v }) else N[j]? := by
  unfold nS; cases s
  · simp only [Bool.false_eq_true, if_false]; exact nR_at ..
  · simp only [if_true]; exact nL_at ..
theorem gN_of {N : List Nd} {i : Nat} {x : Nd} (h : N[i]? = some x) : gN N i = x := by
  unfold gN; rw [List.getD_eq_getElem?_getD, h]; rfl
/-! what the code does to nodes -/
abbrev Ns := List Nd × Nat
def swpF (S : Ns) (up was is : Nat) : Ns :=
  if up = 0 then (nU S.1 is up, is)
  else (nU (if (gN S.1 up).l = was then nL S.1 up is else nR S.1 up is) is up, S.2)
def trnF (S : Ns) (at' : Nat) (s : Bool) : Ns :=
  let r := (gN S.1 at').ch (!s)
  let l := (gN S.1 r).ch s
  let N1 := nS (!s) S.1 at' l
  let N2 := if l = 0 then N1 else nU N1 l at'
  let S3 := swpF (N2, S.2) (gN N2 at').up at' r
  (nU (nS s S3.1 r at') at' r, S3.2)
/-! trees -/
inductive Tr where
  | lf : Tr
  | nd (i : Nat) (e : Kv) (c : Bool) (l r : Tr) : Tr
def Tr.ix : Tr → Nat
  | lf => 0
  | nd i _ _ _ _ => i
def Tr.red : Tr → Bool
  | lf => false
  | nd _ _ c _ _ => c
def Tr.ents (up : Nat) : Tr → List (Nat × Nd)
  | lf => []
  | nd i e c l r => (i, ⟨e, l.ix, r.ix, up, c⟩) :: (l.ents i ++ r.ents i)
def Tr.ixs : Tr → List Nat
  | lf => []
  | nd i _ _ l r => i :: (l.ixs ++ r.ixs)
def Tr.ord : Tr → List (Nat × Kv)
  | lf => []
  | nd i e _ l r => l.ord ++ (i, e) :: r.ord
def mkR (s : Bool) (i : Nat) (e : Kv) (c : Bool) (a b : Tr) : Tr := if s then .nd i e c a b else .nd i e c b a
inductive Cx where
  | top : Cx
  | dn (s : Bool) (i : Nat) (e : Kv) (c : Bool) (sib : Tr) (k : Cx) : Cx
def Cx.ix : Cx → Nat
  | top => 0
  | dn _ i _ _ _ _ => i
def plug : Cx → Tr → Tr
  | .top, t => t
  | .dn s i e c sib k, t => plug k (mkR s i e c t sib)
def mkN (s : Bool) (e : Kv) (a b up : Nat) (c : Bool) : Nd := ⟨e, if s then a else b, if s then b else a, up, c⟩
def Cx.ents (h : Nat) : Cx → List (Nat × Nd)
  | top => []
  | dn s i e c sib k => (i, mkN s e h sib.ix k.ix c) :: (sib.ents i ++ k.ents i)
def Cx.ixs : Cx → List Nat
  | top => []
  | dn _ i _ _ sib k => i :: (sib.ixs ++ k.ixs)
def Cx.lo : Cx → List (Nat × Kv)
  | top => []
  | dn s i e _ sib k => if s then k.lo else k.lo ++ sib.ord ++ [(i, e)]
def Cx.hi : Cx → List (Nat × Kv)
  | top => []
  | dn s i e _ sib k => if s then (i, e) :: sib.ord ++ k.hi else k.hi
def Has (N : List Nd) (l : List (Nat × Nd)) : Prop := ∀ p ∈ l, N[p.1]? = some p.2
theorem Has.nil (N : List Nd) : Has N [] := fun _ h => by cases h
theorem Has.cons {N : List Nd} {p : Nat × Nd} {l : List (Nat × Nd)} : Has N (p :: l) ↔ N[p.1]? = some p.2 ∧ Has N l := by unfold Has; simp
theorem Has.app {N : List Nd} {l m : List (Nat × Nd)} : Has N (l ++ m) ↔ Has N l ∧ Has N m := by
  unfold Has
  constructor
  · intro h; exact ⟨fun p hp => h p (List.mem_append_left _ hp), fun p hp => h p (List.mem_append_right _ hp)⟩
  · rintro ⟨h1, h2⟩ p hp
    rcases List.mem_append.1 hp with hp | hp
    · exact h1 p hp
    · exact h2 p hp
theorem ents_ixs (t : Tr) : ∀ (up : Nat), ∀ p ∈ t.ents up, p.1 ∈ t.ixs := by
  induction t with
  | lf => intro up p h; cases h
  | nd i e c l r ihl ihr =>
    intro up p h
    simp only [Tr.ents, List.mem_cons, List.mem_append] at h
    simp only [Tr.ixs, List.mem_cons, List.mem_append]
    rcases h with rfl | h | h
    · exact .inl rfl
    · exact .inr (.inl (ihl _ p h))
    · exact .inr (.inr (ihr _ p h))
theorem cents_ixs (k : Cx) : ∀ (h : Nat), ∀ p ∈ k.ents h, p.1 ∈ k.ixs := by
  induction k with
  | top => intro h p hp; cases hp
  | dn s i e c sib k ih =>
    intro h p hp
    simp only [Cx.ents, List.mem_cons, List.mem_append] at hp
    simp only [Cx.ixs, List.mem_cons, List.mem_append]
    rcases hp with rfl | hp | hp
    · exact .inl rfl
    · exact .inr (.inl (ents_ixs sib _ p hp))
    · exact .inr (.inr (ih _ p hp))
theorem Has.frame {N N' : List Nd} {l : List (Nat × Nd)} {I : List Nat} (h : Has N l) (hI : ∀ p ∈ l, p.1 ∈ I) (hn : ∀ j ∈ I, N'[j]? = N[j]?) : Has N' l := fun p hp => by rw [hn _ (hI p hp)]; exact h p hp
theorem mkR_ix (s : Bool) (i : Nat) (e : Kv) (c : Bool) (a b : Tr) : (mkR s i e c a b).ix = i := by unfold mkR; split <;> rfl
theorem mkR_red (s : Bool) (i : Nat) (e : Kv) (c : Bool) (a b : Tr) : (mkR s i e c a b).red = c := by unfold mkR; split <;> rfl
theorem Has.mk {N : List Nd} {s : Bool} {i : Nat} {e : Kv} {c : Bool} {a b : Tr} {up : Nat} : Has N ((mkR s i e c a b).ents up) ↔ N[i]? = some (mkN s e a.ix b.ix up c) ∧ Has N (a.ents i) ∧ Has N (b.ents i) := by
  cases s
  · simp only [mkR, Bool.false_eq_true, if_false, Tr.ents, Has.cons, Has.app, mkN]
    exact ⟨fun ⟨h1, h2, h3⟩ => ⟨h1, h3, h2⟩, fun ⟨h1, h2, h3⟩ => ⟨h1, h3, h2⟩⟩
  · simp only [mkR, if_true, Tr.ents, Has.cons, Has.app, mkN]
theorem mkR_ixs (s : Bool) (i : Nat) (e : Kv) (c : Bool) (a b : Tr) : (mkR s i e c a b).ixs.Perm (i :: (a.ixs ++ b.ixs)) := by
  cases s
  · simp only [mkR, Bool.false_eq_true, if_false, Tr.ixs]; exact (List.perm_append_comm).cons _
  · simp only [mkR, if_true, Tr.ixs]; exact List.Perm.refl _
theorem mkR_ord (s : Bool) (i : Nat) (e : Kv) (c : Bool) (a b : Tr) : (mkR s i e c a b).ord = if s then a.ord ++ (i, e) :: b.ord else b.ord ++ (i, e) :: a.ord := by
  cases s <;> rfl
theorem Has.plug {N : List Nd} : ∀ {k : Cx} {t : Tr}, Has N ((plug k t).ents 0) ↔ Has N (k.ents t.ix) ∧ Has N (t.ents k.ix)
  | .top, t => by simp only [Go.Eng.plug, Cx.ents, Cx.ix]; exact ⟨fun h => ⟨Has.nil N, h⟩, fun h => h.2⟩
  | .dn s i e c sib k, t => by
    simp only [Go.Eng.plug]
    rw [Has.plug (k := k), mkR_ix, Has.mk]
    simp only [Cx.ents, Cx.ix, Has.cons, Has.app]
    exact ⟨fun ⟨h1, h2, h3, h4⟩ => ⟨⟨h2, h4, h1⟩, h3⟩, fun ⟨⟨h2, h4, h1⟩, h3⟩ => ⟨h1, h2, h3, h4⟩⟩
theorem plug_ixs : ∀ (k : Cx) (t : Tr), (plug k t).ixs.Perm (k.ixs ++ t.ixs)
  | .top, t => List.Perm.refl _
  | .dn s i e c sib k, t => by
    simp only [plug, Cx.ixs]
    refine (plug_ixs k _).trans ?_
    refine ((mkR_ixs s i e c t sib).append_left _).trans ?_
    -- k.ixs ++ i :: (t ++ sib) ~ i :: (sib ++ k) ++ t
    refine List.perm_middle.trans (List.Perm.cons _ ?_)
    refine List.perm_append_comm.trans ?_
    rw [List.append_assoc]
    refine List.perm_append_comm.trans ?_
    exact List.Perm.refl _
theorem plug_ord : ∀ (k : Cx) (t : Tr), (plug k t).ord = k.lo ++ t.ord ++ k.hi
  | .top, t => by simp [plug, Cx.lo, Cx.hi]
  | .dn s i e c sib k, t => by
    simp only [plug, Cx.lo, Cx.hi]
    rw [plug_ord k, mkR_ord]
    cases s <;> simp
theorem plug_ix : ∀ (k : Cx) (t : Tr), (plug k t).ix = match k with | .top => t.ix | .dn s i e c sib k => (plug k (.nd i e c .lf .lf)).ix
  | .top, t => rfl
  | .dn s i e c sib k, t => by
    simp only [plug]
    have key : ∀ (k : Cx) (a b : Tr), a.ix = b.ix → (plug k a).ix = (plug k b).ix := by
      intro k
      induction k with
      | top => intro a b h; exact h
      | dn s i e c sib k ih => intro a b _; simp only [plug]; exact ih _ _ (by rw [mkR_ix, mkR_ix])
    exact key k _ _ (by rw [mkR_ix]; rfl)
theorem plug_ix_same (k : Cx) {a b : Tr} (h : a.ix = b.ix) : (plug k a).ix = (plug k b).ix := by
  rw [plug_ix k a, plug_ix k b]; cases k
  · exact h
  · rfl
theorem plug_ix_dn {k : Cx} (h : k ≠ .top) (a b : Tr) : (plug k a).ix = (plug k b).ix := by
  rw [plug_ix k a, plug_ix k b]; cases k
  · exact absurd rfl h
  · rfl
structure Ly (I : List Nat) (S : Ns) (t : Tr) : Prop where
  has : Has S.1 (t.ents 0)
  root : S.2 = t.ix
  nd : t.ixs.Nodup
  sub : ∀ x ∈ t.ixs, x ∈ I
  nz : 0 ∉ I
def FrC (I : List Nat) (N N' : List Nd) : Prop := ∀ j, j ∉ I → N'[j]? = N[j]?
theorem FrC.trans {A B C : List Nd} (h : FrC I B C) (k : FrC I A B) : FrC I A C := fun j hj => (h j hj).trans (k j hj)
theorem FrC.refl (A : List Nd) : FrC I A A := fun _ _ => rfl
theorem Cx.ix_zero {k : Cx} (h : 0 ∉ k.ixs) (h0 : k.ix = 0) : k = .top := by
  cases k with
  | top => rfl
  | dn s i e c sib k => simp only [Cx.ix] at h0; subst h0; exact absurd (List.mem_cons_self ..) h
theorem Tr.ix_zero {t : Tr} (h : 0 ∉ t.ixs) (h0 : t.ix = 0) : t = .lf := by
  cases t with
  | lf => rfl
  | nd i e c l r => simp only [Tr.ix] at h0; subst h0; exact absurd (List.mem_cons_self ..) h
theorem Tr.ix_mem {t : Tr} (h : t.ix ≠ 0) : t.ix ∈ t.ixs := by
  cases t with
  | lf => exact absurd rfl h
  | nd i e c l r => exact List.mem_cons_self ..
theorem Cx.ix_mem {k : Cx} (h : k.ix ≠ 0) : k.ix ∈ k.ixs := by
  cases k with
  | top => exact absurd rfl h
  | dn s i e c sib k => exact List.mem_cons_self ..
end Go.Eng
namespace Go.Eng
open Go Go.RowKit
variable {I : List Nat}
theorem nS_ne {s : Bool} {N : List Nd} {i v j : Nat} (h : i ≠ j) : (nS s N i v)[j]? = N[j]? := by rw [nS_at, if_neg h]
theorem nU_ne {N : List Nd} {i v j : Nat} (h : i ≠ j) : (nU N i v)[j]? = N[j]? := by rw [nU_at, if_neg h]
theorem nC_ne {N : List Nd} {i j : Nat} {c : Bool} (h : i ≠ j) : (nC N i c)[j]? = N[j]? := by rw [nC_at, if_neg h]
theorem nS_eq {s : Bool} {N : List Nd} {i v : Nat} {x : Nd} (h : N[i]? = some x) : (nS s N i v)[i]? = some (if s then { x with l := v } else { x with r := v }) := by rw [nS_at, if_pos rfl, h]; rfl
theorem nU_eq {N : List Nd} {i v : Nat} {x : Nd} (h : N[i]? = some x) : (nU N i v)[i]? = some { x with up := v } := by rw [nU_at, if_pos rfl, h]; rfl
theorem nC_eq {N : List Nd} {i : Nat} {c : Bool} {x : Nd} (h : N[i]? = some x) : (nC N i c)[i]? = some { x with red := c } := by rw [nC_at, if_pos rfl, h]; rfl
theorem mkN_ch (s : Bool) (e : Kv) (a b up : Nat) (c : Bool) : (mkN s e a b up c).ch s = a := by cases s <;> rfl
theorem mkN_chn (s : Bool) (e : Kv) (a b up : Nat) (c : Bool) : (mkN s e a b up c).ch (!s) = b := by cases s <;> rfl
theorem mkN_setN (s : Bool) (e : Kv) (a b up v : Nat) (c : Bool) : (if (!s) = true then { mkN s e a b up c with l := v } else { mkN s e a b up c with r := v }) = mkN s e a v up c := by cases s <;> rfl
theorem mkN_set (s : Bool) (e : Kv) (a b up v : Nat) (c : Bool) : (if s = true then { mkN s e a b up c with l := v } else { mkN s e a b up c with r := v }) = mkN s e v b up c := by cases s <;> rfl
theorem nodup_app {l m : List Nat} (h : (l ++ m).Nodup) : l.Nodup ∧ m.Nodup ∧ ∀ x, x ∈ l → x ∈ m → False := by
  rw [List.nodup_append] at h
  exact ⟨h.1, h.2.1, fun x h1 h2 => h.2.2 x h1 x h2 rfl⟩
theorem swp_cx {N : List Nd} {root : Nat} {k : Cx} {was is : Nat} (hk : Has N (k.ents was)) (hn : k.ixs.Nodup) (hz : 0 ∉ k.ixs) (hw : was ≠ 0) (hwk : was ∉ k.ixs) (hik : is ∉ k.ixs) :
    Has (swpF (N, root) k.ix was is).1 (k.ents is) ∧ (∀ j, j ≠ is → j ≠ k.ix → (swpF (N, root) k.ix was is).1[j]? = N[j]?) ∧ (swpF (N, root) k.ix was is).1[is]? = (N[is]?).map (fun x => { x with up := k.ix }) ∧ (swpF (N, root) k.ix was is).2 = (if k.ix = 0 then is else root) ∧ (swpF (N, root) k.ix was is).1.length = N.length := by
  cases k with
  | top =>
    have hS : swpF (N, root) Cx.top.ix was is = (nU N is 0, is) := rfl
    rw [hS]
    exact ⟨Has.nil _, fun j h1 _ => nU_ne (fun e => h1 e.symm), by rw [nU_at, if_pos rfl]; rfl, rfl, nU_len ..⟩
  | dn s p e c sib k =>
    simp only [Cx.ents, Has.cons, Has.app] at hk
    simp only [Cx.ixs, List.nodup_cons, List.mem_append, List.mem_cons] at hn hz hwk hik
    obtain ⟨h1, h2, h3⟩ := hk
    obtain ⟨hp, hn2⟩ := hn
    have hp0 : p ≠ 0 := fun e => hz (.inl e.symm)
    have hpi : p ≠ is := fun e => hik (.inl e.symm)
    have hc : (if (gN N p).l = was then nL N p is else nR N p is) = nS s N p is := by
      rw [gN_of h1]; unfold nS mkN
      cases s
      · simp only [Bool.false_eq_true, if_false]
        have : sib.ix ≠ was := fun e => by
          have h0 : sib.ix ≠ 0 := by rw [e]; exact hw
          have := Tr.ix_mem h0
          rw [e] at this; exact hwk (.inr (.inl this))
        rw [if_neg this]
      · simp only [if_true]
    have hS : swpF (N, root) (Cx.dn s p e c sib k).ix was is = (nU (nS s N p is) is p, root) := by
      show swpF (N, root) p was is = _
      unfold swpF; rw [if_neg hp0]; simp only; rw [hc]
    rw [hS]
    have hf : ∀ j, j ≠ is → j ≠ p → (nU (nS s N p is) is p)[j]? = N[j]? := fun j a b => by rw [nU_ne (fun e => a e.symm), nS_ne (fun e => b e.symm)]
    refine ⟨?_, hf, ?_, (if_neg hp0).symm, by rw [nU_len, nS_len]⟩
    · rw [Cx.ents, Has.cons, Has.app]
      refine ⟨?_, h2.frame (ents_ixs _ _) (fun j hj => hf j (fun e => hik (.inr (.inl (e ▸ hj)))) (fun e => hp (.inl (e ▸ hj)))), h3.frame (cents_ixs _ _) (fun j hj => hf j (fun e => hik (.inr (.inr (e ▸ hj)))) (fun e => hp (.inr (e ▸ hj))))⟩
      rw [nU_ne (fun e => hpi e.symm), nS_eq h1, mkN_set]
    · rw [nU_at, if_pos rfl, nS_ne hpi]; rfl
theorem reup {N : List Nd} {b : Tr} {r v : Nat} (hb : Has N (b.ents r)) (hn : b.ixs.Nodup) (hz : 0 ∉ b.ixs) :
    Has (if b.ix = 0 then N else nU N b.ix v) (b.ents v) ∧ ∀ j, j ∉ b.ixs → (if b.ix = 0 then N else nU N b.ix v)[j]? = N[j]? := by
  cases b with
  | lf => exact ⟨Has.nil _, fun j _ => by rw [Tr.ix, if_pos rfl]⟩
  | nd i e c l r2 =>
    simp only [Tr.ents, Has.cons, Has.app] at hb
    simp only [Tr.ixs, List.nodup_cons, List.mem_cons, List.mem_append] at hn hz
    obtain ⟨h1, h2, h3⟩ := hb
    have hi0 : i ≠ 0 := fun e => hz (.inl e.symm)
    have hS : (if (Tr.nd i e c l r2).ix = 0 then N else nU N (Tr.nd i e c l r2).ix v) = nU N i v := by
      show (if i = 0 then N else nU N i v) = _
      rw [if_neg hi0]
    rw [hS, Tr.ents, Has.cons, Has.app]
    refine ⟨⟨by rw [nU_eq h1], h2.frame (ents_ixs _ _) (fun j hj => nU_ne (fun q => hn.1 (.inl (by rw [q]; exact hj)))), h3.frame (ents_ixs _ _) (fun j hj => nU_ne (fun q => hn.1 (.inr (by rw [q]; exact hj))))⟩, fun j hj => nU_ne (fun q => hj (by rw [← q]; exact List.mem_cons_self ..))⟩
theorem ly_split {S : Ns} {k : Cx} {t : Tr} (h : Ly I S (plug k t)) : Has S.1 (k.ents t.ix) ∧ Has S.1 (t.ents k.ix) ∧ k.ixs.Nodup ∧ t.ixs.Nodup ∧ (∀ x, x ∈ k.ixs → x ∈ t.ixs → False) ∧ 0 ∉ k.ixs ∧ 0 ∉ t.ixs := by
  have hp := plug_ixs k t
  have hn := hp.nodup_iff.1 h.nd
  obtain ⟨n1, n2, n3⟩ := nodup_app hn
  have hh := Has.plug.1 h.has
  exact ⟨hh.1, hh.2, n1, n2, n3, fun q => h.nz (h.sub _ (hp.mem_iff.2 (List.mem_append_left _ q))), fun q => h.nz (h.sub _ (hp.mem_iff.2 (List.mem_append_right _ q)))⟩
theorem ly_sub {S : Ns} {k : Cx} {t : Tr} (h : Ly I S (plug k t)) : (∀ x ∈ k.ixs, x ∈ I) ∧ ∀ x ∈ t.ixs, x ∈ I :=
  ⟨fun x q => h.sub x ((plug_ixs k t).mem_iff.2 (List.mem_append_left _ q)), fun x q => h.sub x ((plug_ixs k t).mem_iff.2 (List.mem_append_right _ q))⟩
theorem ly_join {S : Ns} {k : Cx} {t : Tr} (h1 : Has S.1 (k.ents t.ix)) (h2 : Has S.1 (t.ents k.ix)) (h3 : S.2 = (plug k t).ix) (h4 : k.ixs.Nodup) (h5 : t.ixs.Nodup) (h6 : ∀ x, x ∈ k.ixs → x ∈ t.ixs → False) (h7 : ∀ x ∈ k.ixs, x ∈ I) (h8 : ∀ x ∈ t.ixs, x ∈ I) (h9 : 0 ∉ I) : Ly I S (plug k t) := by
  have hp := plug_ixs k t
  refine ⟨Has.plug.2 ⟨h1, h2⟩, h3, hp.nodup_iff.2 ?_, fun x q => ?_, h9⟩
  · rw [List.nodup_append]; exact ⟨h4, h5, fun a ha b hb e => h6 a ha (e ▸ hb)⟩
  · rcases List.mem_append.1 (hp.mem_iff.1 q) with q | q
    · exact h7 x q
    · exact h8 x q
theorem root_swap {k : Cx} {t t2 : Tr} {root : Nat} (hz : 0 ∉ k.ixs) (h : root = (plug k t).ix) : (if k.ix = 0 then t2.ix else root) = (plug k t2).ix := by
  by_cases e : k.ix = 0
  · rw [if_pos e, Cx.ix_zero hz e]; rfl
  · rw [if_neg e, h]; exact plug_ix_dn (fun q => by subst q; exact e rfl) _ _
theorem turn_ly {S : Ns} {k : Cx} {s : Bool} {i j : Nat} {d e : Kv} {c1 c2 : Bool} {a b c : Tr} (h : Ly I S (plug k (mkR s i d c1 a (mkR s j e c2 b c)))) :
    Ly I (trnF S i s) (plug k (mkR s j e c2 (mkR s i d c1 a b) c)) ∧ (trnF S i s).1.length = S.1.length ∧ FrC I S.1 (trnF S i s).1 := by
  obtain ⟨N, root⟩ := S
  obtain ⟨hk, ht, nk, nt, nkt, zk, zt⟩ := ly_split h
  have hroot := h.root
  rw [mkR_ix] at hk
  rw [Has.mk, Has.mk] at ht
  obtain ⟨hi, ha, hj, hb, hc⟩ := ht
  rw [mkR_ix] at hi
  have hp1 := (mkR_ixs s i d c1 a (mkR s j e c2 b c)).trans (((mkR_ixs s j e c2 b c).append_left a.ixs).cons i)
  have nt1 := hp1.nodup_iff.1 nt
  have mem1 : ∀ x, x ∈ (mkR s i d c1 a (mkR s j e c2 b c)).ixs ↔ x = i ∨ x ∈ a.ixs ∨ x = j ∨ x ∈ b.ixs ∨ x ∈ c.ixs := fun x => by
    rw [hp1.mem_iff]; simp only [List.mem_cons, List.mem_append]
  simp only [List.nodup_cons, List.nodup_append, List.mem_append, List.mem_cons] at nt1
  obtain ⟨ni, na, ⟨nj, nb, nc, nbc⟩, nac⟩ := nt1
  have hij : i ≠ j := fun q => ni (.inr (.inl q))
  have i0 : i ≠ 0 := fun q => zt ((mem1 0).2 (.inl q.symm))
  have j0 : j ≠ 0 := fun q => zt ((mem1 0).2 (.inr (.inr (.inl q.symm))))
  have ik : i ∉ k.ixs := fun q => nkt i q ((mem1 i).2 (.inl rfl))
  have jk : j ∉ k.ixs := fun q => nkt j q ((mem1 j).2 (.inr (.inr (.inl rfl))))
  have bz : 0 ∉ b.ixs := fun q => zt ((mem1 0).2 (.inr (.inr (.inr (.inl q)))))
  have ib : i ∉ b.ixs := fun q => ni (.inr (.inr (.inl q)))
  have jb : j ∉ b.ixs := fun q => nj (.inl q)
  -- the steps
  have e1 : (gN N i).ch (!s) = j := by rw [gN_of hi, mkN_chn]
  have e2 : (gN N j).ch s = b.ix := by rw [gN_of hj, mkN_ch]
  have f1 : ∀ x, x ≠ i → (nS (!s) N i b.ix)[x]? = N[x]? := fun x hx => nS_ne (fun q => hx q.symm)
  have hb1 : Has (nS (!s) N i b.ix) (b.ents j) := hb.frame (ents_ixs _ _) (fun x hx => f1 x (fun q => ib (q ▸ hx)))
  obtain ⟨hb2, f2⟩ := reup (v := i) hb1 nb bz
  have hi1 : (nS (!s) N i b.ix)[i]? = some (mkN s d a.ix b.ix k.ix c1) := by rw [nS_eq hi, mkN_setN]
  have hi2 : (if b.ix = 0 then nS (!s) N i b.ix else nU (nS (!s) N i b.ix) b.ix i)[i]? = some (mkN s d a.ix b.ix k.ix c1) := by rw [f2 i ib]; exact hi1
  have e3 : (gN (if b.ix = 0 then nS (!s) N i b.ix else nU (nS (!s) N i b.ix) b.ix i) i).up = k.ix := by rw [gN_of hi2]; rfl
  have hT : trnF (N, root) i s = (nU (nS s (swpF ((if b.ix = 0 then nS (!s) N i b.ix else nU (nS (!s) N i b.ix) b.ix i), root) k.ix i j).1 j i) i j, (swpF ((if b.ix = 0 then nS (!s) N i b.ix else nU (nS (!s) N i b.ix) b.ix i), root) k.ix i j).2) := by
    unfold trnF; simp only [e1, e2, e3]
  generalize hN2 : (if b.ix = 0 then nS (!s) N i b.ix else nU (nS (!s) N i b.ix) b.ix i) = N2 at *
  have f12 : ∀ x, x ≠ i → x ∉ b.ixs → N2[x]? = N[x]? := fun x h1 h2 => by rw [f2 x h2, f1 x h1]
  have hk2 : Has N2 (k.ents i) := hk.frame (cents_ixs _ _) (fun x hx => f12 x (fun q => ik (q ▸ hx)) (fun q => nkt x hx ((mem1 x).2 (.inr (.inr (.inr (.inl q)))))))
  obtain ⟨hk3, f3, hj3, r3, len3⟩ := swp_cx (root := root) hk2 nk zk i0 ik jk
  rw [f12 j (fun q => hij q.symm) jb, hj, Option.map_some] at hj3
  rw [hT]
  generalize hS3 : swpF (N2, root) k.ix i j = S3 at *
  have f5 : ∀ x, x ≠ i → x ≠ j → (nU (nS s S3.1 j i) i j)[x]? = S3.1[x]? := fun x h1 h2 => by rw [nU_ne (fun q => h1 q.symm), nS_ne (fun q => h2 q.symm)]
  have fin : ∀ x, x ≠ i → x ≠ j → x ≠ k.ix → (nU (nS s S3.1 j i) i j)[x]? = N2[x]? := fun x h1 h2 h3 => by rw [f5 x h1 h2, f3 x h2 h3]
  have nek : ∀ x, x ∈ (mkR s i d c1 a (mkR s j e c2 b c)).ixs → x ≠ k.ix := fun x hx q => by
    by_cases z : k.ix = 0
    · exact zt (by rw [← z, ← q]; exact hx)
    · exact nkt x (by rw [q]; exact Cx.ix_mem z) hx
  have hi5 : (nU (nS s S3.1 j i) i j)[i]? = some (mkN s d a.ix b.ix j c1) := by
    have : S3.1[i]? = some (mkN s d a.ix b.ix k.ix c1) := by rw [f3 i hij (nek i ((mem1 i).2 (.inl rfl)))]; exact hi2
    rw [nU_eq (x := mkN s d a.ix b.ix k.ix c1) (by rw [nS_ne (fun q => hij q.symm)]; exact this)]; rfl
  have hj5 : (nU (nS s S3.1 j i) i j)[j]? = some (mkN s e i c.ix k.ix c2) := by
    rw [nU_ne hij, nS_eq hj3]
    rw [show ({ mkN s e b.ix c.ix i c2 with up := k.ix } : Nd) = mkN s e b.ix c.ix k.ix c2 from rfl, mkN_set]
  have hp2 := (mkR_ixs s j e c2 (mkR s i d c1 a b) c).trans (((mkR_ixs s i d c1 a b).append_right c.ixs).cons j)
  have mem2 : ∀ x, x ∈ (mkR s j e c2 (mkR s i d c1 a b) c).ixs ↔ x ∈ (mkR s i d c1 a (mkR s j e c2 b c)).ixs := fun x => by
    rw [mem1, hp2.mem_iff]; simp only [List.mem_cons, List.mem_append]
    constructor
    · rintro (h | (h | h | h) | h)
      · exact .inr (.inr (.inl h))
      · exact .inl h
      · exact .inr (.inl h)
      · exact .inr (.inr (.inr (.inl h)))
      · exact .inr (.inr (.inr (.inr h)))
    · rintro (h | h | h | h | h)
      · exact .inr (.inl (.inl h))
      · exact .inr (.inl (.inr (.inl h)))
      · exact .inl h
      · exact .inr (.inl (.inr (.inr h)))
      · exact .inr (.inr h)
  have hsub := ly_sub h
  refine ⟨ly_join ?_ ?_ ?_ nk ?_ (fun x h1 h2 => nkt x h1 ((mem2 x).1 h2)) hsub.1 (fun x q => hsub.2 x ((mem2 x).1 q)) h.nz, ?_, ?_⟩
  · rw [mkR_ix]
    exact hk3.frame (cents_ixs _ _) (fun x hx => f5 x (fun q => ik (q ▸ hx)) (fun q => jk (q ▸ hx)))
  · rw [Has.mk, Has.mk, mkR_ix]
    refine ⟨hj5, ⟨hi5, ?_, ?_⟩, ?_⟩
    · refine ha.frame (ents_ixs _ _) (fun x hx => ?_)
      have hx' : x ∈ (mkR s i d c1 a (mkR s j e c2 b c)).ixs := (mem1 x).2 (.inr (.inl hx))
      have xi : x ≠ i := fun q => ni (.inl (q ▸ hx))
      have xj : x ≠ j := fun q => nac x hx j (.inl rfl) q
      have xb : x ∉ b.ixs := fun q => nac x hx x (.inr (.inl q)) rfl
      rw [fin x xi xj (nek x hx'), f12 x xi xb]
    · refine hb2.frame (ents_ixs _ _) (fun x hx => ?_)
      have hx' : x ∈ (mkR s i d c1 a (mkR s j e c2 b c)).ixs := (mem1 x).2 (.inr (.inr (.inr (.inl hx))))
      exact fin x (fun q => ib (q ▸ hx)) (fun q => jb (q ▸ hx)) (nek x hx')
    · refine hc.frame (ents_ixs _ _) (fun x hx => ?_)
      have hx' : x ∈ (mkR s i d c1 a (mkR s j e c2 b c)).ixs := (mem1 x).2 (.inr (.inr (.inr (.inr hx))))
      have xi : x ≠ i := fun q => ni (.inr (.inr (.inr (q ▸ hx))))
      have xj : x ≠ j := fun q => nj (.inr (q ▸ hx))
      have xb : x ∉ b.ixs := fun q => nbc x q x hx rfl
      rw [fin x xi xj (nek x hx'), f12 x xi xb]
  · show S3.2 = _
    rw [r3, ← root_swap (t2 := mkR s j e c2 (mkR s i d c1 a b) c) zk hroot, mkR_ix]
  · have hpp : (mkR s j e c2 (mkR s i d c1 a b) c).ixs.Perm (mkR s i d c1 a (mkR s j e c2 b c)).ixs := by
      refine hp2.trans (List.Perm.trans ?_ hp1.symm)
      -- j :: ((i :: (a ++ b)) ++ c) ~ i :: (a ++ (j :: (b ++ c)))
      refine (List.Perm.swap i j _).trans (List.Perm.cons _ ?_)
      show (j :: ((a.ixs ++ b.ixs) ++ c.ixs)).Perm (a.ixs ++ j :: (b.ixs ++ c.ixs))
      rw [List.append_assoc]
      exact (List.perm_middle (l₁ := a.ixs)).symm
    exact hpp.nodup_iff.2 nt
  · show (nU (nS s S3.1 j i) i j).length = N.length
    rw [nU_len, nS_len, len3, ← hN2]; split
    · exact nS_len ..
    · rw [nU_len, nS_len]
  · intro x hx
    show (nU (nS s S3.1 j i) i j)[x]? = N[x]?
    have xi : x ≠ i := fun q => hx (hsub.2 x ((mem1 x).2 (.inl q)))
    have xj : x ≠ j := fun q => hx (hsub.2 x ((mem1 x).2 (.inr (.inr (.inl q)))))
    have xb : x ∉ b.ixs := fun q => hx (hsub.2 x ((mem1 x).2 (.inr (.inr (.inr (.inl q))))))
    by_cases z : k.ix = 0
    · rw [f5 x xi xj]
      -- the root's up is written at j alone
      have hk0 := Cx.ix_zero zk z
      subst hk0
      rw [← hS3]; simp only [swpF, Cx.ix, if_true]
      rw [nU_ne (fun q => xj q.symm), f12 x xi xb]
    · rw [fin x xi xj (fun q => hx (hsub.1 x (by rw [q]; exact Cx.ix_mem z))), f12 x xi xb]
end Go.Eng
namespace Go.Eng
open Go Go.RowKit
variable {I : List Nat}
theorem mkR_not (s : Bool) (i : Nat) (e : Kv) (c : Bool) (a b : Tr) : mkR (!s) i e c a b = mkR s i e c b a := by cases s <;> rfl
def Ok : Tr → Nat → Prop
  | .lf, h => h = 0
  | .nd _ _ c l r, h => if c then Ok l h ∧ Ok r h ∧ l.red = false ∧ r.red = false else ∃ g, h = g + 1 ∧ Ok l g ∧ Ok r g
theorem okR {s : Bool} {i : Nat} {e : Kv} {a b : Tr} {h : Nat} : Ok (mkR s i e true a b) h ↔ Ok a h ∧ Ok b h ∧ a.red = false ∧ b.red = false := by
  cases s <;> simp only [mkR, Ok, if_true, Bool.false_eq_true, if_false]
  exact ⟨fun ⟨h1, h2, h3, h4⟩ => ⟨h2, h1, h4, h3⟩, fun ⟨h1, h2, h3, h4⟩ => ⟨h2, h1, h4, h3⟩⟩
theorem okB {s : Bool} {i : Nat} {e : Kv} {a b : Tr} {h : Nat} : Ok (mkR s i e false a b) (h + 1) ↔ Ok a h ∧ Ok b h := by
  cases s <;> simp only [mkR, Ok, if_true, Bool.false_eq_true, if_false]
  · exact ⟨fun ⟨g, h1, h2, h3⟩ => by have : g = h := by omega
                                     subst this; exact ⟨h3, h2⟩, fun ⟨h1, h2⟩ => ⟨h, rfl, h2, h1⟩⟩
  · exact ⟨fun ⟨g, h1, h2, h3⟩ => by have : g = h := by omega
                                     subst this; exact ⟨h2, h3⟩, fun ⟨h1, h2⟩ => ⟨h, rfl, h1, h2⟩⟩
theorem okB0 {s : Bool} {i : Nat} {e : Kv} {a b : Tr} {h : Nat} (q : Ok (mkR s i e false a b) h) : ∃ g, h = g + 1 ∧ Ok a g ∧ Ok b g := by
  cases h with
  | zero => cases s <;> (simp only [mkR, Ok, if_true, Bool.false_eq_true, if_false] at q; obtain ⟨g, h, _⟩ := q; omega)
  | succ h => exact ⟨h, rfl, okB.1 q⟩
theorem ok_nd {t : Tr} {h : Nat} (q : Ok t (h + 1)) : ∃ (i : Nat) (e : Kv) (c : Bool) (l r : Tr), t = .nd i e c l r := by
  cases t with
  | lf => simp [Ok] at q
  | nd i e c l r => exact ⟨i, e, c, l, r, rfl⟩
theorem nd_side (s : Bool) (i : Nat) (e : Kv) (c : Bool) (l r : Tr) : ∃ a b, Tr.nd i e c l r = mkR s i e c a b := by
  cases s
  · exact ⟨r, l, rfl⟩
  · exact ⟨l, r, rfl⟩
def Cx.red : Cx → Bool
  | top => false
  | dn _ _ _ c _ _ => c
def Okc : Cx → Nat → Prop
  | .top, _ => True
  | .dn _ _ _ c sib k, h => Ok sib h ∧ (if c then sib.red = false ∧ k.red = false ∧ k ≠ .top ∧ Okc k h else Okc k (h + 1))
theorem okc_plug : ∀ {k : Cx} {t : Tr} {h : Nat}, Okc k h → Ok t h → (t.red = true → k.red = false ∧ k ≠ .top) → (∃ H, Ok (plug k t) H) ∧ (plug k t).red = false
  | .top, t, h, _, ht, hr => ⟨⟨h, ht⟩, by
      cases hq : t.red
      · exact hq
      · exact absurd rfl (hr hq).2⟩
  | .dn s i e true sib k, t, h, hk, ht, hr => by
    simp only [Okc, if_true] at hk
    obtain ⟨h1, h2, h3, h4, h5⟩ := hk
    simp only [plug]
    refine okc_plug h5 (okR.2 ⟨ht, h1, ?_, h2⟩) (fun _ => ⟨h3, h4⟩)
    cases hq : t.red
    · rfl
    · have := (hr hq).1; simp [Cx.red] at this
  | .dn s i e false sib k, t, h, hk, ht, hr => by
    simp only [Okc, Bool.false_eq_true, if_false] at hk
    simp only [plug]
    exact okc_plug hk.2 (okB.2 ⟨ht, hk.1⟩) (fun q => by rw [mkR_red] at q; cases q)
theorem recol {S : Ns} {k : Cx} {s : Bool} {i : Nat} {e : Kv} {c : Bool} {a b : Tr} (h : Ly I S (plug k (mkR s i e c a b))) (c' : Bool) :
    Ly I (nC S.1 i c', S.2) (plug k (mkR s i e c' a b)) ∧ (nC S.1 i c').length = S.1.length ∧ FrC I S.1 (nC S.1 i c') := by
  obtain ⟨hk, ht, nk, nt, nkt, zk, zt⟩ := ly_split h
  rw [mkR_ix] at hk
  obtain ⟨hi, ha, hb⟩ := Has.mk.1 ht
  have hp := mkR_ixs s i e c a b
  have hp' := mkR_ixs s i e c' a b
  have hpp := hp'.trans hp.symm
  have nt1 := hp.nodup_iff.1 nt
  rw [List.nodup_cons, List.mem_append] at nt1
  have mi : i ∈ (mkR s i e c a b).ixs := hp.mem_iff.2 (List.mem_cons_self ..)
  have i0 : i ≠ 0 := fun q => zt (q ▸ mi)
  refine ⟨ly_join ?_ ?_ ?_ nk (hpp.nodup_iff.2 nt) (fun x h1 h2 => nkt x h1 (hpp.mem_iff.1 h2)) (ly_sub h).1 (fun x q => (ly_sub h).2 x (hpp.mem_iff.1 q)) h.nz, nC_len .., fun x hx => nC_ne (fun q => hx ((ly_sub h).2 x (q ▸ mi)))⟩
  · rw [mkR_ix]; exact hk.frame (cents_ixs _ _) (fun x hx => nC_ne (fun q => nkt x hx (q ▸ mi)))
  · rw [Has.mk]
    exact ⟨by rw [nC_eq hi]; rfl, ha.frame (ents_ixs _ _) (fun x hx => nC_ne (fun q => nt1.1 (.inl (q ▸ hx)))), hb.frame (ents_ixs _ _) (fun x hx => nC_ne (fun q => nt1.1 (.inr (q ▸ hx))))⟩
  · show S.2 = _
    rw [h.root]; exact plug_ix_same k (by rw [mkR_ix, mkR_ix])
def Z0 (I : List Nat) (N : List Nd) : Prop := 0 ∉ I ∧ ∃ x, N[0]? = some x ∧ x.red = false
theorem Z0.same {N N' : List Nd} (h : Z0 I N) (e : FrC I N N') : Z0 I N' := by
  obtain ⟨h0, x, h1, h2⟩ := h; exact ⟨h0, x, by rw [e 0 h0, h1], h2⟩
theorem Z0.red {N : List Nd} (h : Z0 I N) : (gN N 0).red = false := by
  obtain ⟨h0, x, h1, h2⟩ := h; rw [gN_of h1]; exact h2
theorem red_at {S : Ns} {k : Cx} {t : Tr} (h : Ly I S (plug k t)) (hz : Z0 I S.1) : (gN S.1 t.ix).red = t.red := by
  have ht := (ly_split h).2.1
  cases t with
  | lf => exact hz.red
  | nd i e c l r => simp only [Tr.ents, Has.cons] at ht; rw [show (Tr.nd i e c l r).ix = i from rfl, gN_of ht.1]; rfl
theorem red_up {S : Ns} {k : Cx} {t : Tr} (h : Ly I S (plug k t)) (hz : Z0 I S.1) : (gN S.1 k.ix).red = k.red := by
  have hk := (ly_split h).1
  cases k with
  | top => exact hz.red
  | dn s i e c sib k => simp only [Cx.ents, Has.cons] at hk; rw [show (Cx.dn s i e c sib k).ix = i from rfl, gN_of hk.1]; rfl
theorem up_at {S : Ns} {k : Cx} {s : Bool} {i : Nat} {e : Kv} {c : Bool} {a b : Tr} (h : Ly I S (plug k (mkR s i e c a b))) : (gN S.1 i).up = k.ix := by
  have ht := (Has.mk.1 (ly_split h).2.1).1
  rw [gN_of ht]; rfl
theorem par_at {S : Ns} {k : Cx} {s : Bool} {i : Nat} {e : Kv} {c : Bool} {sib t : Tr} (h : Ly I S (plug (.dn s i e c sib k) t)) : gN S.1 i = mkN s e t.ix sib.ix k.ix c := by
  have hk := (ly_split h).1
  simp only [Cx.ents, Has.cons] at hk
  exact gN_of hk.1
theorem side_l {s : Bool} {e : Kv} {a b up : Nat} {c : Bool} (h : a ≠ b) : decide ((mkN s e a b up c).l = a) = s := by
  cases s
  · simp only [mkN, Bool.false_eq_true, if_false]; exact decide_eq_false (fun q => h q.symm)
  · simp [mkN]
theorem sib_ne {S : Ns} {k : Cx} {s : Bool} {i : Nat} {e : Kv} {c : Bool} {sib t : Tr} (h : Ly I S (plug (.dn s i e c sib k) t)) (h0 : t.ix ≠ 0 ∨ sib.ix ≠ 0) : t.ix ≠ sib.ix := by
  obtain ⟨_, _, nk, nt, nkt, zk, zt⟩ := ly_split h
  intro q
  have a0 : t.ix ≠ 0 := by rcases h0 with h0 | h0; exact h0; rw [q]; exact h0
  have b0 : sib.ix ≠ 0 := by rw [← q]; exact a0
  refine nkt t.ix ?_ (Tr.ix_mem a0)
  rw [q]; simp only [Cx.ixs]; exact List.mem_cons_of_mem _ (List.mem_append_left _ (Tr.ix_mem b0))
theorem plug_ord_same (k : Cx) {a b : Tr} (h : a.ord = b.ord) : (plug k a).ord = (plug k b).ord := by rw [plug_ord, plug_ord, h]
def grwF : Nat → Ns → Nat → Option Ns
  | 0, _, _ => none
  | f + 1, S, i =>
    if (gN S.1 (gN S.1 i).up).red = true then
      let up := (gN S.1 i).up
      let top := (gN S.1 up).up
      let s := decide ((gN S.1 top).l = up)
      let unc := (gN S.1 top).ch (!s)
      if (gN S.1 unc).red = true then grwF f (nC (nC (nC S.1 up false) unc false) top true, S.2) top
      else if (gN S.1 up).ch (!s) = i then
        let S1 := trnF S up s
        grwF f (trnF (nC (nC S1.1 i false) top true, S1.2) top (!s)) up
      else grwF f (trnF (nC (nC S.1 up false) top true, S.2) top (!s)) i
    else some (nC S.1 S.2 false, S.2)
def Cx.len : Cx → Nat
  | top => 0
  | dn _ _ _ _ _ k => k.len + 1
def Grown (I : List Nat) (S S' : Ns) (l : List (Nat × Kv)) : Prop := ∃ t', Ly I S' t' ∧ t'.ord = l ∧ (∃ H, Ok t' H) ∧ t'.red = false ∧ S'.1.length = S.1.length ∧ FrC I S.1 S'.1
theorem root_black {S : Ns} {t : Tr} (h : Ly I S t) (hz : Z0 I S.1) (ho : ∃ H, Ok t H) : Grown I S (nC S.1 S.2 false, S.2) t.ord := by
  obtain ⟨H, ho⟩ := ho
  cases t with
  | lf =>
    have hr := h.root
    obtain ⟨_, x, hx, hx2⟩ := hz
    have h0 : S.2 = 0 := hr
    refine ⟨.lf, ⟨Has.nil _, hr, h.nd, h.sub, h.nz⟩, rfl, ⟨H, ho⟩, rfl, nC_len .., fun j hj => ?_⟩
    show (nC S.1 S.2 false)[j]? = _
    rw [h0]
    by_cases q : 0 = j
    · subst q; rw [nC_eq hx, hx, ← hx2]
    · exact nC_ne q
  | nd i e c l r =>
    have hr : S.2 = i := h.root
    obtain ⟨h1, h2, h3⟩ := recol (k := .top) (s := true) (i := i) (e := e) (c := c) (a := l) (b := r) h false
    refine ⟨mkR true i e false l r, by rw [hr] at h1 ⊢; exact h1, rfl, ?_, rfl, by rw [hr]; exact h2, by rw [hr]; exact h3⟩
    cases c with
    | false => exact ⟨H, ho⟩
    | true =>
      have := okR.1 (show Ok (mkR true i e true l r) H from ho)
      exact ⟨H + 1, okB.2 ⟨this.1, this.2.1⟩⟩
theorem Grown.after {S S1 S' : Ns} {l m : List (Nat × Kv)} (h : Grown I S1 S' m) (e : m = l) (h1 : S1.1.length = S.1.length) (h2 : FrC I S.1 S1.1) : Grown I S S' l := by
  obtain ⟨t, a, b, c, d, f, g⟩ := h
  exact ⟨t, a, b.trans e, c, d, f.trans h1, g.trans h2⟩
theorem grw_ly : ∀ (f : Nat) (S : Ns) (k : Cx) (s : Bool) (i : Nat) (e : Kv) (a b : Tr) (h : Nat), Ly I S (plug k (mkR s i e true a b)) → Z0 I S.1 → Ok (mkR s i e true a b) h → Okc k h → k.len + 2 ≤ f →
    ∃ S', grwF f S i = some S' ∧ Grown I S S' (plug k (mkR s i e true a b)).ord
  | 0, _, k, _, _, _, _, _, _, _, _, _, _, hf => by omega
  | f + 1, S, k, s, i, e, a, b, h, hL, hz, hT, hk, hf => by
    have hup := up_at hL
    have hru := red_up hL hz
    have hax := okR.1 hT
    rw [grwF, hup, hru]
    match k, hL, hk, hf, hup, hru with
    | .top, hL, hk, hf, hup, hru =>
      rw [if_neg (by simp [Cx.red])]
      exact ⟨_, rfl, root_black hL hz ⟨h, hT⟩⟩
    | .dn s1 p pe false sib k2, hL, hk, hf, hup, hru =>
      rw [if_neg (by simp [Cx.red])]
      exact ⟨_, rfl, root_black hL hz (okc_plug hk hT (fun _ => ⟨rfl, fun q => by cases q⟩)).1⟩
    | .dn s1 p pe true sib k2, hL, hk, hf, hup, hru =>
      simp only [Okc, if_true] at hk
      obtain ⟨hsib, hsr, hk2r, hk2t, hk2⟩ := hk
      match k2, hL, hk2r, hk2t, hk2, hf, hup, hru with
      | .top, _, _, hk2t, _, _, _, _ => exact absurd rfl hk2t
      | .dn s2 g ge true sib2 k3, _, hk2r, _, _, _, _, _ => cases hk2r
      | .dn s2 g ge false sib2 k3, hL, _, _, hk2, hf, hup, hru =>
        simp only [Okc, Bool.false_eq_true, if_false] at hk2
        obtain ⟨hs2, hk3⟩ := hk2
        rw [if_pos (show (Cx.dn s1 p pe true sib (Cx.dn s2 g ge false sib2 k3)).red = true from rfl)]
        have hP : Ly I S (plug (.dn s2 g ge false sib2 k3) (mkR s1 p pe true (mkR s i e true a b) sib)) := hL
        have hp := par_at hL
        rw [mkR_ix] at hp
        have hg := par_at hP
        rw [mkR_ix] at hg
        have hne := sib_ne hP (.inl (by
          rw [mkR_ix]; intro q
          have := (ly_split hP).2.2.2.2.2.2
          exact this (q ▸ (mkR_ixs s1 p pe true (mkR s i e true a b) sib).mem_iff.2 (List.mem_cons_self ..))))
        rw [mkR_ix] at hne
        have hsd : decide ((gN S.1 g).l = p) = s2 := by rw [hg]; exact side_l hne
        have hgp : (gN S.1 p).up = g := by rw [hp]; rfl
        have hun : (gN S.1 g).ch (!s2) = sib2.ix := by rw [hg, mkN_chn]
        have hU : Ly I S (plug (.dn (!s2) g ge false (mkR s1 p pe true (mkR s i e true a b) sib) k3) sib2) := by
          show Ly I S (plug k3 (mkR (!s2) g ge false sib2 (mkR s1 p pe true (mkR s i e true a b) sib)))
          rw [mkR_not]; exact hL
        have hur := red_at hU hz
        simp only [show (Cx.dn s1 p pe true sib (Cx.dn s2 g ge false sib2 k3)).ix = p from rfl, hgp, hsd, hun, hur]
        cases hcol : sib2.red with
        | true =>
          rw [if_pos rfl]
          match sib2, hcol, hU, hs2, hL, hP with
          | .lf, hcol, _, _, _, _ => cases hcol
          | .nd u ue false ul ur, hcol, _, _, _, _ => cases hcol
          | .nd u ue true ul ur, _, hU, hs2, hL, hP =>
            obtain ⟨a1, b1, c1⟩ := recol hP false
            have a1' : Ly I (nC S.1 p false, S.2) (plug (.dn (!s2) g ge false (mkR s1 p pe false (mkR s i e true a b) sib) k3) (mkR true u ue true ul ur)) := by
              show Ly I _ (plug k3 (mkR (!s2) g ge false (mkR true u ue true ul ur) (mkR s1 p pe false (mkR s i e true a b) sib)))
              rw [mkR_not]; exact a1
            obtain ⟨a2, b2, c2⟩ := recol a1' false
            have a2' : Ly I (nC (nC S.1 p false) u false, S.2) (plug k3 (mkR s2 g ge false (mkR s1 p pe false (mkR s i e true a b) sib) (mkR true u ue false ul ur))) := by
              have : Ly I (nC (nC S.1 p false) u false, S.2) (plug k3 (mkR (!s2) g ge false (mkR true u ue false ul ur) (mkR s1 p pe false (mkR s i e true a b) sib))) := a2
              rw [mkR_not] at this; exact this
            obtain ⟨a3, b3, c3⟩ := recol a2' true
            have hs2' := okR.1 (show Ok (mkR true u ue true ul ur) h from hs2)
            have hok : Ok (mkR s2 g ge true (mkR s1 p pe false (mkR s i e true a b) sib) (mkR true u ue false ul ur)) (h + 1) :=
              okR.2 ⟨okB.2 ⟨hT, hsib⟩, okB.2 ⟨hs2'.1, hs2'.2.1⟩, mkR_red .., mkR_red ..⟩
            obtain ⟨S', e1, e2⟩ := grw_ly f _ k3 s2 g ge _ _ (h + 1) a3 (((hz.same c1).same c2).same c3) hok hk3 (by simp only [Cx.len] at hf; omega)
            refine ⟨S', e1, e2.after ?_ (b3.trans (b2.trans b1)) (c3.trans (c2.trans c1))⟩
            refine plug_ord_same k3 ?_
            simp only [mkR_ord]; rfl
        | false =>
          rw [if_neg (by simp)]
          by_cases hs : s1 = s2
          · subst hs
            have hne2 := sib_ne (show Ly I S (plug (.dn s1 p pe true sib (.dn s1 g ge false sib2 k3)) (mkR s i e true a b)) from hL) (.inl (by
              rw [mkR_ix]; intro q
              have := (ly_split (k := .dn s1 p pe true sib (.dn s1 g ge false sib2 k3)) hL).2.2.2.2.2.2
              exact this (q ▸ (mkR_ixs s i e true a b).mem_iff.2 (List.mem_cons_self ..))))
            rw [mkR_ix] at hne2
            rw [if_neg (by rw [hp, mkN_chn]; exact fun q => hne2 q.symm)]
            obtain ⟨a1, b1, c1⟩ := recol hP false
            obtain ⟨a2, b2, c2⟩ := recol (k := k3) (s := s1) (i := g) (e := ge) (c := false) a1 true
            have a2' : Ly I (nC (nC S.1 p false) g true, S.2) (plug k3 (mkR (!s1) g ge true sib2 (mkR (!s1) p pe false sib (mkR s i e true a b)))) := by
              rw [mkR_not, mkR_not]; exact a2
            obtain ⟨a3, b3, c3⟩ := turn_ly a2'
            have a3' : Ly I (trnF (nC (nC S.1 p false) g true, S.2) g (!s1)) (plug (.dn s1 p pe false (mkR (!s1) g ge true sib2 sib) k3) (mkR s i e true a b)) := by
              show Ly I _ (plug k3 (mkR s1 p pe false (mkR s i e true a b) (mkR (!s1) g ge true sib2 sib)))
              rw [← mkR_not]; exact a3
            obtain ⟨S', e1, e2⟩ := grw_ly f _ _ s i e a b h a3' (((hz.same c1).same c2).same c3) hT (by
              simp only [Okc, Bool.false_eq_true, if_false]
              exact ⟨okR.2 ⟨hs2, hsib, hcol, hsr⟩, hk3⟩) (by simp only [Cx.len] at hf ⊢; omega)
            refine ⟨S', e1, e2.after ?_ (b3.trans (b2.trans b1)) (c3.trans (c2.trans c1))⟩
            refine plug_ord_same k3 ?_
            simp only [mkR_ord]; cases s1 <;> simp
          · have hs : s2 = !s1 := by cases s1 <;> cases s2 <;> simp at hs ⊢
            subst hs
            rw [if_pos (by rw [hp, Bool.not_not, mkN_ch])]
            have hP' : Ly I S (plug (.dn (!s1) g ge false sib2 k3) (mkR (!s1) p pe true sib (mkR (!s1) i e true (if s = (!s1) then a else b) (if s = (!s1) then b else a)))) := by
              rw [mkR_not]
              have : mkR (!s1) i e true (if s = (!s1) then a else b) (if s = (!s1) then b else a) = mkR s i e true a b := by
                cases s <;> cases s1 <;> simp [mkR]
              rw [this]; exact hP
            obtain ⟨x, y, hxy, hxr⟩ : ∃ x y, mkR s i e true a b = mkR (!s1) i e true x y ∧ (Ok x h ∧ Ok y h ∧ x.red = false ∧ y.red = false) := by
              by_cases q : s = (!s1)
              · exact ⟨a, b, by rw [q], hax⟩
              · have q : s = s1 := by cases s <;> cases s1 <;> simp at q ⊢
                exact ⟨b, a, by rw [q, mkR_not], hax.2.1, hax.1, hax.2.2.2, hax.2.2.1⟩
            have hP2 : Ly I S (plug (.dn (!s1) g ge false sib2 k3) (mkR (!s1) p pe true sib (mkR (!s1) i e true x y))) := by
              rw [← hxy, mkR_not]; exact hP
            obtain ⟨a1, b1, c1⟩ := turn_ly hP2
            obtain ⟨a2, b2, c2⟩ := recol a1 false
            obtain ⟨a3, b3, c3⟩ := recol (k := k3) (s := !s1) (i := g) (e := ge) (c := false) a2 true
            have a3' : Ly I (nC (nC (trnF S p (!s1)).1 i false) g true, (trnF S p (!s1)).2) (plug k3 (mkR (!(!s1)) g ge true sib2 (mkR (!(!s1)) i e false y (mkR (!s1) p pe true sib x)))) := by
              rw [mkR_not (!s1) g, mkR_not (!s1) i]; exact a3
            obtain ⟨a4, b4, c4⟩ := turn_ly a3'
            have a4' : Ly I (trnF (nC (nC (trnF S p (!s1)).1 i false) g true, (trnF S p (!s1)).2) g (!(!s1))) (plug (.dn (!s1) i e false (mkR (!(!s1)) g ge true sib2 y) k3) (mkR (!s1) p pe true sib x)) := by
              show Ly I _ (plug k3 (mkR (!s1) i e false (mkR (!s1) p pe true sib x) (mkR (!(!s1)) g ge true sib2 y)))
              rw [← mkR_not (!s1) i]; exact a4
            obtain ⟨S', e1, e2⟩ := grw_ly f _ _ (!s1) p pe sib x h a4' ((((hz.same c1).same c2).same c3).same c4) (okR.2 ⟨hsib, hxr.1, hsr, hxr.2.2.1⟩) (by
              simp only [Okc, Bool.false_eq_true, if_false]
              exact ⟨okR.2 ⟨hs2, hxr.2.1, hcol, hxr.2.2.2⟩, hk3⟩) (by simp only [Cx.len] at hf ⊢; omega)
            refine ⟨S', e1, e2.after ?_ (b4.trans (b3.trans (b2.trans b1))) (c4.trans (c3.trans (c2.trans c1)))⟩
            rw [hxy]
            refine plug_ord_same k3 ?_
            simp only [mkR_ord]; cases s1 <;> simp
end Go.Eng
namespace Go.Eng
open Go Go.RowKit
variable {I : List Nat}
def Tr.blk : Tr → Tr
  | lf => lf
  | nd i e _ l r => nd i e false l r
def ShI (t : Tr) (h : Nat) : Prop := (t.red = true ∧ Ok t.blk (h + 1)) ∨ (t.red = false ∧ Ok t h)
def shA (S : Ns) (up : Nat) (s : Bool) (o : Nat) : Ns × Nat :=
  if (gN S.1 o).red = true then (trnF (nC (nC S.1 o false) up true, S.2) up s, (gN (trnF (nC (nC S.1 o false) up true, S.2) up s).1 up).ch (!s)) else (S, o)
def shB (S : Ns) (s : Bool) (o near far : Nat) : Ns × Nat × Nat :=
  if (gN S.1 far).red = false then (trnF (nC (nC S.1 near false) o true, S.2) o (!s), near, (gN (trnF (nC (nC S.1 near false) o true, S.2) o (!s)).1 near).ch (!s)) else (S, o, far)
def shC (S : Ns) (up : Nat) (s : Bool) (o far : Nat) : Ns :=
  trnF (nC (nC (nC S.1 o (gN S.1 up).red) up false) far false, S.2) up s
def shD (S : Ns) (up : Nat) (s : Bool) (o : Nat) : Ns × Nat :=
  if (gN S.1 ((gN S.1 o).ch s)).red = false ∧ (gN S.1 ((gN S.1 o).ch (!s))).red = false then ((nC S.1 o true, S.2), up)
  else
    let X := shB S s o ((gN S.1 o).ch s) ((gN S.1 o).ch (!s))
    (shC X.1 up s X.2.1 X.2.2, (shC X.1 up s X.2.1 X.2.2).2)
def shS (S : Ns) (i : Nat) : Ns × Nat :=
  let up := (gN S.1 i).up
  let s := decide ((gN S.1 up).l = i)
  let A := shA S up s ((gN S.1 up).ch (!s))
  shD A.1 up s A.2
def shrF : Nat → Ns → Nat → Option Ns
  | 0, _, _ => none
  | f + 1, S, i => if i ≠ S.2 ∧ (gN S.1 i).red = false then shrF f (shS S i).1 (shS S i).2 else some (nC S.1 i false, S.2)
theorem nz_ix {S : Ns} {k : Cx} {s : Bool} {i : Nat} {e : Kv} {c : Bool} {a b : Tr} (h : Ly I S (plug k (mkR s i e c a b))) : i ≠ 0 := fun q => by
  have := (ly_split h).2.2.2.2.2.2
  exact this (q ▸ (mkR_ixs s i e c a b).mem_iff.2 (List.mem_cons_self ..))
theorem flip {S : Ns} {k : Cx} {s : Bool} {i : Nat} {e : Kv} {c : Bool} {a b : Tr} (h : Ly I S (plug k (mkR s i e c a b))) : Ly I S (plug (.dn (!s) i e c a k) b) := by
  show Ly I S (plug k (mkR (!s) i e c b a)); rw [mkR_not]; exact h
theorem flop {S : Ns} {k : Cx} {s : Bool} {i : Nat} {e : Kv} {c : Bool} {a b : Tr} (h : Ly I S (plug (.dn (!s) i e c a k) b)) : Ly I S (plug k (mkR s i e c a b)) := by
  have h' : Ly I S (plug k (mkR (!s) i e c b a)) := h
  rw [mkR_not] at h'; exact h'
theorem shC_ly {S : Ns} {s : Bool} {p o q : Nat} {pe oe qe : Kv} {pc : Bool} {nr m z t : Tr} {k : Cx} {h : Nat} (hL : Ly I S (plug k (mkR s p pe pc t (mkR s o oe false nr (mkR s q qe true m z))))) (hz : Z0 I S.1) (ht : Ok t h) (hn : Ok nr h) (hm : Ok m h) (hzz : Ok z h)
    (hk : if pc then k.red = false ∧ k ≠ .top ∧ Okc k (h + 1) else Okc k (h + 1 + 1)) :
    ∃ t', Ly I (shC S p s o q) t' ∧ t'.ord = (plug k (mkR s p pe pc t (mkR s o oe false nr (mkR s q qe true m z)))).ord ∧ (∃ H, Ok t' H) ∧ t'.red = false ∧ (shC S p s o q).1.length = S.1.length ∧ FrC I S.1 (shC S p s o q).1 := by
  have hp : (gN S.1 p).red = pc := by
    have := red_at hL hz; rw [mkR_ix, mkR_red] at this; exact this
  obtain ⟨a1, b1, c1⟩ := recol (flip hL) pc
  have a1' := flop a1
  obtain ⟨a2, b2, c2⟩ := recol a1' false
  have a2' := flip (flip a2)
  obtain ⟨a3, b3, c3⟩ := recol a2' false
  have a3' := flop (flop a3)
  obtain ⟨a4, b4, c4⟩ := turn_ly a3'
  have e : shC S p s o q = trnF (nC (nC (nC S.1 o pc) p false) q false, S.2) p s := by unfold shC; rw [hp]
  rw [e]
  have hb : Ok (mkR s p pe false t nr) (h + 1) := okB.2 ⟨ht, hn⟩
  have hq : Ok (mkR s q qe false m z) (h + 1) := okB.2 ⟨hm, hzz⟩
  refine ⟨_, a4, ?_, ?_, ?_, b4.trans (b3.trans (b2.trans b1)), c4.trans (c3.trans (c2.trans c1))⟩
  · refine plug_ord_same k ?_
    first | (simp only [mkR_ord]; done) | (simp only [mkR_ord]; cases s <;> simp)
  · cases pc with
    | true =>
      obtain ⟨h1, h2, h3⟩ := hk
      exact (okc_plug h3 (okR.2 ⟨hb, hq, mkR_red .., mkR_red ..⟩) (fun _ => ⟨h1, h2⟩)).1
    | false => exact (okc_plug hk (okB.2 ⟨hb, hq⟩) (fun w => by rw [mkR_red] at w; cases w)).1
  · cases pc with
    | true =>
      obtain ⟨h1, h2, h3⟩ := hk
      exact (okc_plug h3 (okR.2 ⟨hb, hq, mkR_red .., mkR_red ..⟩) (fun _ => ⟨h1, h2⟩)).2
    | false => exact (okc_plug hk (okB.2 ⟨hb, hq⟩) (fun w => by rw [mkR_red] at w; cases w)).2
theorem red_nd {t : Tr} (h : t.red = true) (s : Bool) : ∃ i e a b, t = mkR s i e true a b := by
  cases t with
  | lf => cases h
  | nd i e c l r =>
    simp only [Tr.red] at h; subst h
    obtain ⟨a, b, q⟩ := nd_side s i e true l r
    exact ⟨i, e, a, b, q⟩
theorem shD_ly {S : Ns} {s : Bool} {p o : Nat} {pe oe : Kv} {pc : Bool} {nr fr t : Tr} {k : Cx} {h : Nat} (hL : Ly I S (plug k (mkR s p pe pc t (mkR s o oe false nr fr)))) (hz : Z0 I S.1) (ht : Ok t h) (htr : t.red = false) (hn : Ok nr h) (hf : Ok fr h)
    (hk : if pc then k.red = false ∧ k ≠ .top ∧ Okc k (h + 1) else Okc k (h + 1 + 1)) :
    (shD S p s o).1.1.length = S.1.length ∧ FrC I S.1 (shD S p s o).1.1 ∧
    (((shD S p s o).2 = p ∧ Ly I (shD S p s o).1 (plug k (mkR s p pe pc t (mkR s o oe true nr fr))) ∧ ShI (mkR s p pe pc t (mkR s o oe true nr fr)) (if pc then h else h + 1)) ∨
     ((shD S p s o).2 = (shD S p s o).1.2 ∧ ∃ t', Ly I (shD S p s o).1 t' ∧ t'.ord = (plug k (mkR s p pe pc t (mkR s o oe false nr fr))).ord ∧ (∃ H, Ok t' H) ∧ t'.red = false)) := by
  have hO := flip hL
  have ho : gN S.1 o = mkN s oe nr.ix fr.ix p false := gN_of (Has.mk.1 (ly_split hO).2.1).1
  have hN := hO
  have hnr : (gN S.1 nr.ix).red = nr.red := red_at (k := .dn s o oe false fr (.dn (!s) p pe pc t k)) (t := nr) hO hz
  have hfr : (gN S.1 fr.ix).red = fr.red := red_at (flip hO) hz
  have e1 : (gN S.1 o).ch s = nr.ix := by rw [ho, mkN_ch]
  have e2 : (gN S.1 o).ch (!s) = fr.ix := by rw [ho, mkN_chn]
  unfold shD
  simp only [e1, e2, hnr, hfr]
  by_cases hb : nr.red = false ∧ fr.red = false
  · rw [if_pos hb]
    obtain ⟨a1, b1, c1⟩ := recol hO true
    refine ⟨b1, c1, .inl ⟨by first | rfl | trivial, flop a1, ?_⟩⟩
    cases pc with
    | true =>
      refine .inl ⟨mkR_red .., ?_⟩
      have : (mkR s p pe true t (mkR s o oe true nr fr)).blk = mkR s p pe false t (mkR s o oe true nr fr) := by cases s <;> rfl
      rw [this]; simp only [if_true]
      exact okB.2 ⟨ht, okR.2 ⟨hn, hf, hb.1, hb.2⟩⟩
    | false =>
      refine .inr ⟨mkR_red .., ?_⟩
      simp only [Bool.false_eq_true, if_false]
      exact okB.2 ⟨ht, okR.2 ⟨hn, hf, hb.1, hb.2⟩⟩
  · rw [if_neg hb]
    unfold shB
    simp only [hfr]
    cases hfc : fr.red with
    | true =>
      rw [if_neg (by simp)]
      obtain ⟨q, qe, m, z, rfl⟩ := red_nd hfc s
      have hf' := okR.1 hf
      rw [mkR_ix]
      obtain ⟨t', x1, x2, x3, x4, x5, x6⟩ := shC_ly hL hz ht hn hf'.1 hf'.2.1 hk
      exact ⟨x5, x6, .inr ⟨by first | rfl | trivial, t', x1, x2, x3, x4⟩⟩
    | false =>
      rw [if_pos rfl]
      have hnc : nr.red = true := by
        cases q : nr.red
        · exact absurd ⟨q, hfc⟩ hb
        · rfl
      obtain ⟨q, qe, m, z, rfl⟩ := red_nd hnc (!s)
      have hn' := okR.1 hn
      rw [mkR_ix]
      have hQ : Ly I S (plug (.dn s o oe false fr (.dn (!s) p pe pc t k)) (mkR (!s) q qe true m z)) := hO
      obtain ⟨a1, b1, c1⟩ := recol hQ false
      have a1' : Ly I (nC S.1 q false, S.2) (plug (.dn (!s) p pe pc t k) (mkR s o oe false (mkR (!s) q qe false m z) fr)) := a1
      obtain ⟨a2, b2, c2⟩ := recol a1' true
      have a2' : Ly I (nC (nC S.1 q false) o true, S.2) (plug (.dn (!s) p pe pc t k) (mkR (!s) o oe true fr (mkR (!s) q qe false m z))) := by rw [mkR_not]; exact a2
      obtain ⟨a3, b3, c3⟩ := turn_ly a2'
      -- q above, o at its far side
      have a3' : Ly I (trnF (nC (nC S.1 q false) o true, S.2) o (!s)) (plug (.dn (!s) p pe pc t k) (mkR s q qe false z (mkR s o oe true m fr))) := by
        have e : mkR (!s) q qe false (mkR (!s) o oe true fr m) z = mkR s q qe false z (mkR s o oe true m fr) := by rw [mkR_not, mkR_not]
        rw [← e]; exact a3
      have hfar : (gN (trnF (nC (nC S.1 q false) o true, S.2) o (!s)).1 q).ch (!s) = o := by
        rw [gN_of (Has.mk.1 (ly_split a3').2.1).1, mkN_chn, mkR_ix]
      rw [hfar]
      have a4 := flop a3'
      obtain ⟨t', x1, x2, x3, x4, x5, x6⟩ := shC_ly a4 (((hz.same c1).same c2).same c3) ht hn'.2.1 hn'.1 hf hk
      refine ⟨x5.trans (b3.trans (b2.trans b1)), x6.trans (c3.trans (c2.trans c1)), .inr ⟨by first | rfl | trivial, t', x1, x2.trans ?_, x3, x4⟩⟩
      refine plug_ord_same k ?_
      first | (simp only [mkR_ord]; done) | (simp only [mkR_ord]; cases s <;> simp)
theorem shr_end {S : Ns} {k : Cx} {t : Tr} {h : Nat} (hL : Ly I S (plug k t)) (hz : Z0 I S.1) (hI : ShI t h) (hk : Okc k (h + 1)) (he : k = .top ∨ t.red = true) : Grown I S (nC S.1 t.ix false, S.2) (plug k t).ord := by
  cases t with
  | lf =>
    rcases he with rfl | he
    · obtain ⟨_, x, hx, hx2⟩ := hz
      have hf : FrC I S.1 (nC S.1 0 false) := fun j _ => by
        by_cases q : 0 = j
        · subst q; rw [nC_eq hx, hx, ← hx2]
        · exact nC_ne q
      exact ⟨.lf, ⟨Has.nil _, hL.root, hL.nd, hL.sub, hL.nz⟩, rfl, ⟨0, rfl⟩, rfl, nC_len .., hf⟩
    · cases he
  | nd i e c l r =>
    obtain ⟨a1, b1, c1⟩ := recol (k := k) (s := true) (i := i) (e := e) (c := c) (a := l) (b := r) hL false
    have hok : ∃ g, Ok (mkR true i e false l r) g ∧ Okc k g ∨ (k = .top ∧ ∃ g, Ok (mkR true i e false l r) g) := by
      rcases hI with ⟨h1, h2⟩ | ⟨h1, h2⟩
      · exact ⟨h + 1, .inl ⟨h2, hk⟩⟩
      · simp only [Tr.red] at h1; subst h1
        rcases he with rfl | he
        · exact ⟨0, .inr ⟨rfl, h, h2⟩⟩
        · cases he
    have hord : (plug k (mkR true i e false l r)).ord = (plug k (.nd i e c l r)).ord := plug_ord_same k rfl
    obtain ⟨g, hok | ⟨rfl, g, hok⟩⟩ := hok
    · obtain ⟨x1, x2⟩ := okc_plug hok.2 hok.1 (fun w => by rw [mkR_red] at w; cases w)
      exact ⟨_, a1, hord, x1, x2, b1, c1⟩
    · exact ⟨_, a1, hord, ⟨g, hok⟩, rfl, b1, c1⟩
theorem shr_ly : ∀ (f : Nat) (S : Ns) (k : Cx) (t : Tr) (h : Nat), Ly I S (plug k t) → Z0 I S.1 → ShI t h → Okc k (h + 1) → (t.ix = 0 → k.ix ≠ 0 → (gN S.1 0).up = k.ix) → (if t.red then 1 else k.len + 2) ≤ f →
    ∃ S', shrF f S t.ix = some S' ∧ Grown I S S' (plug k t).ord
  | 0, _, k, t, _, _, _, _, _, _, hf => by split at hf <;> omega
  | f + 1, S, k, t, h, hL, hz, hI, hk, hup, hf => by
    rw [shrF, red_at hL hz]
    match k, hL, hk, hup, hf with
    | .top, hL, hk, hup, hf =>
      rw [if_neg (by rw [show S.2 = t.ix from hL.root]; simp)]
      exact ⟨_, rfl, shr_end hL hz hI hk (.inl rfl)⟩
    | .dn s p pe pc sib k2, hL, hk, hup, hf =>
      cases htr : t.red with
      | true =>
        rw [if_neg (by simp)]
        exact ⟨_, rfl, shr_end hL hz hI hk (.inr htr)⟩
      | false =>
        have ht : Ok t h := by
          rcases hI with h1 | h1
          · rw [htr] at h1; cases h1.1
          · exact h1.2
        rw [htr] at hf
        simp only [Bool.false_eq_true, if_false, Cx.len] at hf
        have hP : Ly I S (plug k2 (mkR s p pe pc t sib)) := hL
        have hp0 := nz_ix hP
        have hir : t.ix ≠ S.2 := by
          rw [hL.root]; intro q
          have e2 : (plug (Cx.dn s p pe pc sib k2) t).ix ∈ (Cx.dn s p pe pc sib k2).ixs := by
            have key : ∀ (k : Cx) (t : Tr), k ≠ .top → (plug k t).ix ∈ k.ixs := by
              intro k
              induction k with
              | top => intro t h; exact absurd rfl h
              | dn s i e c sib k ih =>
                intro t _
                by_cases hq : k = .top
                · subst hq; simp only [plug, mkR_ix, Cx.ixs]; exact List.mem_cons_self ..
                · simp only [plug, Cx.ixs]; exact List.mem_cons_of_mem _ (List.mem_append_right _ (ih _ hq))
            exact key _ _ (fun q => by cases q)
          obtain ⟨_, _, _, _, nkt, zk, zt⟩ := ly_split hL
          rw [← q] at e2
          by_cases q0 : t.ix = 0
          · rw [q0] at e2; exact zk e2
          · exact nkt _ e2 (Tr.ix_mem q0)
        rw [if_pos ⟨hir, rfl⟩]
        have hu : (gN S.1 t.ix).up = p := by
          by_cases q0 : t.ix = 0
          · rw [q0]; exact hup q0 hp0
          · cases t with
            | lf => exact absurd rfl q0
            | nd i e c l r => exact up_at (k := .dn s p pe pc sib k2) (s := true) hL
        simp only [Okc] at hk
        obtain ⟨hsib, hk2⟩ := hk
        obtain ⟨o, oe, oc, ol, or', hsb⟩ := ok_nd hsib
        obtain ⟨nr, fr, hsb2⟩ := nd_side s o oe oc ol or'
        rw [hsb2] at hsb; subst hsb
        have hne := sib_ne hL (.inr (by rw [mkR_ix]; exact nz_ix (flip hP)))
        have hg := par_at hL
        have hsd : decide ((gN S.1 p).l = t.ix) = s := by rw [hg]; exact side_l hne
        have hun : (gN S.1 p).ch (!s) = o := by rw [hg, mkN_chn, mkR_ix]
        have hor : (gN S.1 o).red = oc := by have := red_at (flip hP) hz; rw [mkR_ix, mkR_red] at this; exact this
        have hS : shS S t.ix = shD (shA S p s o).1 p s (shA S p s o).2 := by
          unfold shS; simp only [hu, hsd, hun]
        rw [hS]
        cases oc with
        | false =>
          have hA : shA S p s o = (S, o) := by unfold shA; rw [if_neg (by rw [hor]; simp)]
          rw [hA]
          have hs2 := okB.1 hsib
          obtain ⟨x1, x2, x3⟩ := shD_ly hP hz ht htr hs2.1 hs2.2 (by
            cases pc
            · simp only [Bool.false_eq_true, if_false] at hk2 ⊢; exact hk2
            · simp only [if_true] at hk2 ⊢; exact ⟨hk2.2.1, hk2.2.2.1, hk2.2.2.2⟩)
          rcases x3 with ⟨y1, y2, y3⟩ | ⟨y1, t', y2, y3, y4, y5⟩
          · have hrec := shr_ly f (shD S p s o).1 k2 (mkR s p pe pc t (mkR s o oe true nr fr)) (if pc then h else h + 1) y2 (hz.same x2) y3 (by
              cases pc
              · simp only [Bool.false_eq_true, if_false] at hk2 ⊢; exact hk2
              · simp only [if_true] at hk2 ⊢; exact hk2.2.2.2) (fun q => absurd (by rw [mkR_ix] at q; exact q) hp0) (by split <;> omega)
            obtain ⟨S', e1, e2⟩ := hrec
            rw [mkR_ix] at e1
            rw [y1]
            refine ⟨S', e1, e2.after ?_ x1 x2⟩
            show _ = (plug k2 (mkR s p pe pc t (mkR s o oe false nr fr))).ord
            refine plug_ord_same k2 ?_
            (simp only [mkR_ord]; done)
          · rw [y1]
            obtain ⟨f', rfl⟩ : ∃ f', f = f' + 1 := ⟨f - 1, by omega⟩
            rw [shrF, if_neg (fun w => w.1 rfl)]
            exact ⟨_, rfl, (root_black y2 (hz.same x2) y4).after y3 x1 x2⟩
        | true =>
          have hpc : pc = false := by
            cases pc
            · rfl
            · simp only [if_true] at hk2; have := hk2.1; rw [mkR_red] at this; cases this
          subst hpc
          simp only [Bool.false_eq_true, if_false] at hk2
          have hs2 := okR.1 hsib
          obtain ⟨a1, b1, c1⟩ := recol (flip hP) false
          have a1' := flop a1
          obtain ⟨a2, b2, c2⟩ := recol a1' true
          obtain ⟨a3, b3, c3⟩ := turn_ly a2
          have hz3 := ((hz.same c1).same c2).same c3
          -- the near one is black, and stands beside now
          obtain ⟨u, ue, uc, ul, ur, hub⟩ := ok_nd hs2.1
          obtain ⟨un, uf, hub2⟩ := nd_side s u ue uc ul ur
          rw [hub2] at hub; subst hub
          have huc : uc = false := by have := hs2.2.2.1; rw [mkR_red] at this; exact this
          subst huc
          have hu2 := okB.1 hs2.1
          have a3' : Ly I (trnF (nC (nC S.1 o false) p true, S.2) p s) (plug (.dn s o oe false fr k2) (mkR s p pe true t (mkR s u ue false un uf))) := a3
          have hA : shA S p s o = (trnF (nC (nC S.1 o false) p true, S.2) p s, u) := by
            unfold shA; rw [if_pos hor]
            have : (gN (trnF (nC (nC S.1 o false) p true, S.2) p s).1 p).ch (!s) = u := by
              rw [gN_of (Has.mk.1 (ly_split a3').2.1).1, mkN_chn, mkR_ix]
            rw [this]
          rw [hA]
          have hk3 : Okc (.dn s o oe false fr k2) (h + 1) := by
            simp only [Okc, Bool.false_eq_true, if_false]; exact ⟨hs2.2.1, hk2⟩
          obtain ⟨x1, x2, x3⟩ := shD_ly a3' hz3 ht htr hu2.1 hu2.2 (by
            simp only [if_true]; exact ⟨rfl, (fun q => by cases q), hk3⟩)
          have hord : (plug (.dn s o oe false fr k2) (mkR s p pe true t (mkR s u ue false un uf))).ord = (plug k2 (mkR s p pe false t (mkR s o oe true (mkR s u ue false un uf) fr))).ord := by
            show (plug k2 (mkR s o oe false (mkR s p pe true t (mkR s u ue false un uf)) fr)).ord = _
            refine plug_ord_same k2 ?_
            first | (simp only [mkR_ord]; done) | (simp only [mkR_ord]; cases s <;> simp)
          rcases x3 with ⟨y1, y2, y3⟩ | ⟨y1, t', y2, y3, y4, y5⟩
          · obtain ⟨S', e1, e2⟩ := shr_ly f (shD (trnF (nC (nC S.1 o false) p true, S.2) p s) p s u).1 (.dn s o oe false fr k2) (mkR s p pe true t (mkR s u ue true un uf)) h y2 (hz3.same x2) y3 hk3 (fun q => absurd (by rw [mkR_ix] at q; exact q) hp0) (by rw [mkR_red]; simp only [if_true]; omega)
            rw [mkR_ix] at e1
            rw [y1]
            refine ⟨S', e1, e2.after ?_ (x1.trans (b3.trans (b2.trans b1))) (x2.trans (c3.trans (c2.trans c1)))⟩
            refine Eq.trans ?_ hord
            refine plug_ord_same (.dn s o oe false fr k2) ?_
            (simp only [mkR_ord]; done)
          · rw [y1]
            obtain ⟨f', rfl⟩ : ∃ f', f = f' + 1 := ⟨f - 1, by omega⟩
            rw [shrF, if_neg (fun w => w.1 rfl)]
            exact ⟨_, rfl, (root_black y2 (hz3.same x2) y4).after (y3.trans hord) (x1.trans (b3.trans (b2.trans b1))) (x2.trans (c3.trans (c2.trans c1)))⟩
end Go.Eng
namespace Go.Eng
open Go Go.RowKit
variable {I : List Nat}
def yLt (a b : Kv) : Prop := a.V.toNat < b.V.toNat ∨ a.V = b.V ∧ a.id < b.id
instance (a b : Kv) : Decidable (yLt a b) := by unfold yLt; infer_instance
def yEq (a b : Kv) : Prop := a.V = b.V ∧ a.id = b.id
instance (a b : Kv) : Decidable (yEq a b) := by unfold yEq; infer_instance
def agnO (a b : Kv) : Int := if yEq a b then 0 else if yLt a b then -1 else 1
theorem yLt.trans {a b c : Kv} (h : yLt a b) (k : yLt b c) : yLt a c := by
  unfold yLt at *
  rcases h with h | ⟨h1, h2⟩ <;> rcases k with k | ⟨k1, k2⟩
  · left; omega
  · left; rw [← k1]; exact h
  · left; rw [h1]; exact k
  · right; exact ⟨h1.trans k1, by omega⟩
theorem yLt.irr (a : Kv) : ¬ yLt a a := by unfold yLt; intro h; rcases h with h | h <;> omega
theorem yLt.ne {a b : Kv} (h : yLt a b) : ¬ yEq a b := by
  unfold yLt yEq at *; rintro ⟨h1, h2⟩
  rcases h with h | h
  · rw [h1] at h; omega
  · omega
theorem yEq.symm {a b : Kv} (h : yEq a b) : yEq b a := ⟨h.1.symm, h.2.symm⟩
theorem k_tri (a b : Kv) : yEq a b ∨ yLt a b ∨ yLt b a := by
  unfold yEq yLt
  by_cases h : a.V = b.V
  · by_cases h2 : a.id < b.id
    · exact .inr (.inl (.inr ⟨h, h2⟩))
    · by_cases h3 : b.id < a.id
      · exact .inr (.inr (.inr ⟨h.symm, h3⟩))
      · exact .inl ⟨h, by omega⟩
  · by_cases h2 : a.V.toNat < b.V.toNat
    · exact .inr (.inl (.inl h2))
    · refine .inr (.inr (.inl ?_))
      have : a.V.toNat ≠ b.V.toNat := fun q => h (BitVec.eq_of_toNat_eq q)
      omega
theorem yLt.asym {a b : Kv} (h : yLt a b) : ¬ yLt b a := fun k => yLt.irr a (h.trans k)
theorem agn_neg {a b : Kv} : agnO a b < 0 ↔ yLt a b := by
  unfold agnO
  by_cases h : yEq a b
  · rw [if_pos h]; exact ⟨fun q => by omega, fun q => absurd h q.ne⟩
  · rw [if_neg h]; split
    · rename_i q; exact ⟨fun _ => q, fun _ => by omega⟩
    · rename_i q; exact ⟨fun w => by omega, fun w => absurd w q⟩
theorem agn_zero {a b : Kv} : agnO a b = 0 ↔ yEq a b := by
  unfold agnO
  by_cases h : yEq a b
  · rw [if_pos h]; exact ⟨fun _ => h, fun _ => rfl⟩
  · rw [if_neg h]; split
    · exact ⟨fun q => by omega, fun q => absurd q h⟩
    · exact ⟨fun q => by omega, fun q => absurd q h⟩
def Srt (l : List Kv) : Prop := l.Pairwise yLt
/-! what is found -/
def fndF (N : List Nd) (k : Kv) : Nat → Nat → Nat → Option (Nat × Nat)
  | 0, _, _ => none
  | f + 1, i, last => if i = 0 then some (0, last) else if agnO k (gN N i).e = 0 then some (i, last) else fndF N k f (if agnO k (gN N i).e < 0 then (gN N i).l else (gN N i).r) i
def Tr.size : Tr → Nat
  | lf => 0
  | nd _ _ _ l r => l.size + r.size + 1
theorem Tr.size_ixs (t : Tr) : t.ixs.length = t.size := by
  induction t with
  | lf => rfl
  | nd i e c l r ihl ihr => simp only [Tr.ixs, Tr.size, List.length_cons, List.length_append, ihl, ihr]
theorem Tr.size_ord (t : Tr) : t.ord.length = t.size := by
  induction t with
  | lf => rfl
  | nd i e c l r ihl ihr => simp only [Tr.ord, Tr.size, List.length_cons, List.length_append, ihl, ihr]; omega
inductive Found (T : Tr) (k : Kv) (res : Nat × Nat) : Prop
  | hit (c : Cx) (i : Nat) (e : Kv) (col : Bool) (l r : Tr) : T = plug c (.nd i e col l r) → yEq k e → res = (i, c.ix) → Found T k res
  | miss (c : Cx) : T = plug c .lf → (∀ p ∈ c.lo, yLt p.2 k) → (∀ p ∈ c.hi, yLt k p.2) → res = (0, c.ix) → Found T k res
theorem fnd_ly {S : Ns} {k : Kv} : ∀ (t : Tr) (c : Cx) (f : Nat), Ly I S (plug c t) → Srt ((plug c t).ord.map (·.2)) → (∀ p ∈ c.lo, yLt p.2 k) → (∀ p ∈ c.hi, yLt k p.2) → t.size < f →
    ∃ r, fndF S.1 k f t.ix c.ix = some r ∧ Found (plug c t) k r
  | .lf, c, f, hL, hs, h1, h2, hf => by
    obtain ⟨f', rfl⟩ : ∃ f', f = f' + 1 := ⟨f - 1, by omega⟩
    exact ⟨(0, c.ix), rfl, .miss c rfl h1 h2 rfl⟩
  | .nd i e col l r, c, f, hL, hs, h1, h2, hf => by
    obtain ⟨f', rfl⟩ : ∃ f', f = f' + 1 := ⟨f - 1, by omega⟩
    simp only [Tr.size] at hf
    have hi0 : i ≠ 0 := nz_ix (s := true) (k := c) (a := l) (b := r) hL
    have hg : gN S.1 i = mkN true e l.ix r.ix c.ix col := gN_of ((Has.mk (s := true)).1 (ly_split (t := mkR true i e col l r) hL).2.1).1
    have hl : (gN S.1 i).l = l.ix := by rw [hg]; rfl
    have hr : (gN S.1 i).r = r.ix := by rw [hg]; rfl
    have he : (gN S.1 i).e = e := by rw [hg]; rfl
    rw [show (Tr.nd i e col l r).ix = i from rfl, fndF, if_neg hi0, hl, hr, he]
    rw [plug_ord, List.map_append, List.map_append] at hs
    simp only [Tr.ord, List.map_append, List.map_cons] at hs
    by_cases h0 : agnO k e = 0
    · rw [if_pos h0]
      exact ⟨_, rfl, .hit c i e col l r rfl (agn_zero.1 h0) rfl⟩
    · rw [if_neg h0]
      by_cases hn : agnO k e < 0
      · rw [if_pos hn]
        have hk := agn_neg.1 hn
        obtain ⟨q, x1, x2⟩ := fnd_ly l (.dn true i e col r c) f' hL (by
          show Srt ((plug c (.nd i e col l r)).ord.map (·.2)); rw [plug_ord, List.map_append, List.map_append]; simp only [Tr.ord, List.map_append, List.map_cons]; exact hs) (by simp only [Cx.lo, if_true]; exact h1) (by
          simp only [Cx.hi, if_true, List.mem_append, List.mem_cons]
          intro p hp
          rcases hp with (rfl | hp) | hp
          · exact hk
          · refine hk.trans ?_
            -- e is ahead of all on its right
            unfold Srt at hs
            rw [List.pairwise_append, List.pairwise_append] at hs
            obtain ⟨⟨_, hs2, _⟩, _, _⟩ := hs
            rw [List.pairwise_append, List.pairwise_cons] at hs2
            exact hs2.2.1.1 p.2 (List.mem_map_of_mem hp)
          · exact h2 p hp) (by omega)
        exact ⟨q, x1, x2⟩
      · rw [if_neg hn]
        have hk : yLt e k := by
          rcases k_tri k e with q | q | q
          · exact absurd (agn_zero.2 q) h0
          · exact absurd (agn_neg.2 q) hn
          · exact q
        obtain ⟨q, x1, x2⟩ := fnd_ly r (.dn false i e col l c) f' hL (by
          show Srt ((plug c (.nd i e col l r)).ord.map (·.2)); rw [plug_ord, List.map_append, List.map_append]; simp only [Tr.ord, List.map_append, List.map_cons]; exact hs) (by
          simp only [Cx.lo, Bool.false_eq_true, if_false, List.mem_append, List.mem_cons, List.not_mem_nil, or_false]
          intro p hp
          rcases hp with (hp | hp) | rfl
          · exact h1 p hp
          · refine yLt.trans ?_ hk
            unfold Srt at hs
            rw [List.pairwise_append, List.pairwise_append] at hs
            obtain ⟨⟨_, hs2, _⟩, _, _⟩ := hs
            rw [List.pairwise_append] at hs2
            exact hs2.2.2 p.2 (List.mem_map_of_mem hp) e (List.mem_cons_self ..)
          · exact hk) (by simp only [Cx.hi, Bool.false_eq_true, if_false]; exact h2) (by omega)
        exact ⟨q, x1, x2⟩
/-! what comes next -/
def hdI (l : List (Nat × Kv)) : Nat := match l with | [] => 0 | p :: _ => p.1
theorem hdI_app {l m : List (Nat × Kv)} (h : l ≠ []) : hdI (l ++ m) = hdI l := by cases l with | nil => exact absurd rfl h | cons a l => rfl
def lstF (N : List Nd) : Nat → Nat → Option Nat
  | 0, _ => none
  | f + 1, i => if i ≠ 0 ∧ (gN N i).l ≠ 0 then lstF N f (gN N i).l else some i
theorem lst_ly {S : Ns} : ∀ (t : Tr) (c : Cx) (f : Nat), Ly I S (plug c t) → t.size < f → lstF S.1 f t.ix = some (hdI t.ord)
  | .lf, c, f, hL, hf => by
    obtain ⟨f', rfl⟩ : ∃ f', f = f' + 1 := ⟨f - 1, by omega⟩
    rfl
  | .nd i e col l r, c, f, hL, hf => by
    obtain ⟨f', rfl⟩ : ∃ f', f = f' + 1 := ⟨f - 1, by omega⟩
    simp only [Tr.size] at hf
    have hi0 : i ≠ 0 := nz_ix (s := true) (k := c) (a := l) (b := r) hL
    have hg : gN S.1 i = mkN true e l.ix r.ix c.ix col := gN_of ((Has.mk (s := true)).1 (ly_split (t := mkR true i e col l r) hL).2.1).1
    have hl : (gN S.1 i).l = l.ix := by rw [hg]; rfl
    rw [show (Tr.nd i e col l r).ix = i from rfl, lstF, hl]
    cases l with
    | lf => rw [if_neg (fun q => q.2 rfl)]; rfl
    | nd i2 e2 c2 l2 r2 =>
      have hi2 : i2 ≠ 0 := nz_ix (s := true) (k := .dn true i e col r c) (a := l2) (b := r2) hL
      rw [if_pos ⟨hi0, hi2⟩]
      rw [lst_ly (.nd i2 e2 c2 l2 r2) (.dn true i e col r c) f' hL (by omega)]
      congr 1
      simp only [Tr.ord]
      rw [hdI_app (l := l2.ord ++ (i2, e2) :: r2.ord) (by simp)]
def clmF (N : List Nd) : Nat → Nat → Nat → Option Nat
  | 0, _, _ => none
  | f + 1, i, up => if up ≠ 0 ∧ (gN N up).r = i then clmF N f up (gN N up).up else some up
theorem clm_ly {S : Ns} : ∀ (c : Cx) (t : Tr) (f : Nat), Ly I S (plug c t) → t.ix ≠ 0 → c.len < f → clmF S.1 f t.ix c.ix = some (hdI c.hi)
  | .top, t, f, hL, h0, hf => by
    obtain ⟨f', rfl⟩ : ∃ f', f = f' + 1 := ⟨f - 1, by omega⟩
    rfl
  | .dn s i e col sib k, t, f, hL, h0, hf => by
    obtain ⟨f', rfl⟩ : ∃ f', f = f' + 1 := ⟨f - 1, by omega⟩
    have hP : Ly I S (plug k (mkR s i e col t sib)) := hL
    have hi0 := nz_ix hP
    have hg := par_at hL
    have hne := sib_ne hL (.inl h0)
    rw [show (Cx.dn s i e col sib k).ix = i from rfl, clmF]
    cases s with
    | true =>
      have : (gN S.1 i).r = sib.ix := by rw [hg]; rfl
      rw [this, if_neg (fun q => hne q.2.symm)]
      rfl
    | false =>
      have h1 : (gN S.1 i).r = t.ix := by rw [hg]; rfl
      have h2 : (gN S.1 i).up = k.ix := by rw [hg]; rfl
      rw [h1, h2, if_pos ⟨hi0, rfl⟩]
      have := clm_ly k (mkR false i e col t sib) f' hP (by rw [mkR_ix]; exact hi0) (by simp only [Cx.len] at hf; omega)
      rw [mkR_ix] at this
      rw [this]; simp only [Cx.hi, Bool.false_eq_true, if_false]
def nxtF (N : List Nd) (f i : Nat) : Option Nat := if (gN N i).r ≠ 0 then lstF N f (gN N i).r else clmF N f i (gN N i).up
theorem Tr.size_plug : ∀ (c : Cx) (t : Tr), (plug c t).size = c.ixs.length + t.size := fun c t => by
  rw [← Tr.size_ixs, (plug_ixs c t).length_eq, List.length_append, Tr.size_ixs]
theorem Cx.len_ixs : ∀ (c : Cx), c.len ≤ c.ixs.length
  | .top => Nat.le_refl _
  | .dn s i e col sib k => by
    have := Cx.len_ixs k
    simp only [Cx.len, Cx.ixs, List.length_cons, List.length_append]; omega
theorem nxt_ly {S : Ns} {c : Cx} {i : Nat} {e : Kv} {col : Bool} {l r : Tr} {f : Nat} (hL : Ly I S (plug c (.nd i e col l r))) (hf : (plug c (.nd i e col l r)).size < f) : nxtF S.1 f i = some (hdI (r.ord ++ c.hi)) := by
  have hi0 : i ≠ 0 := nz_ix (s := true) (k := c) (a := l) (b := r) hL
  have hg : gN S.1 i = mkN true e l.ix r.ix c.ix col := gN_of ((Has.mk (s := true)).1 (ly_split (t := mkR true i e col l r) hL).2.1).1
  have hr : (gN S.1 i).r = r.ix := by rw [hg]; rfl
  have hu : (gN S.1 i).up = c.ix := by rw [hg]; rfl
  rw [Tr.size_plug] at hf
  simp only [Tr.size] at hf
  have := Cx.len_ixs c
  unfold nxtF
  rw [hr, hu]
  cases r with
  | lf => rw [if_neg (fun q => q rfl)]; exact clm_ly c (.nd i e col l .lf) f hL hi0 (by omega)
  | nd i2 e2 c2 l2 r2 =>
    have hi2 : i2 ≠ 0 := nz_ix (s := true) (k := .dn false i e col l c) (a := l2) (b := r2) hL
    rw [if_pos (show (Tr.nd i2 e2 c2 l2 r2).ix ≠ 0 from hi2)]
    rw [lst_ly (.nd i2 e2 c2 l2 r2) (.dn false i e col l c) f hL (by omega)]
    congr 1
    rw [hdI_app (by simp [Tr.ord])]
theorem ord_split : ∀ (t : Tr) (c : Cx) (a b : List (Nat × Kv)) (p : Nat × Kv), t.ord = a ++ p :: b → ∃ (c' : Cx) (col : Bool) (l r : Tr), plug c t = plug c' (.nd p.1 p.2 col l r) ∧ c'.lo ++ l.ord = c.lo ++ a ∧ r.ord ++ c'.hi = b ++ c.hi
  | .lf, c, a, b, p, h => by simp [Tr.ord] at h
  | .nd i e col l r, c, a, b, p, h => by
    simp only [Tr.ord] at h
    rcases List.append_eq_append_iff.1 h with ⟨a2, h1, h2⟩ | ⟨c2, h1, h2⟩
    · -- a = l.ord ++ a2, (i,e) :: r.ord = a2 ++ p :: b
      cases a2 with
      | nil =>
        rw [List.nil_append] at h2
        obtain ⟨rfl, rfl⟩ := List.cons.inj h2
        exact ⟨c, col, l, r, rfl, by rw [h1, List.append_nil], rfl⟩
      | cons x a3 =>
        rw [List.cons_append] at h2
        obtain ⟨rfl, h3⟩ := List.cons.inj h2
        obtain ⟨c', col', l', r', x1, x2, x3⟩ := ord_split r (.dn false i e col l c) a3 b p h3
        exact ⟨c', col', l', r', x1, by rw [x2]; simp only [Cx.lo, Bool.false_eq_true, if_false]; rw [h1]; simp, by rw [x3]; simp only [Cx.hi, Bool.false_eq_true, if_false]⟩
    · -- l.ord = a ++ c2, p :: b = c2 ++ (i,e) :: r.ord
      cases c2 with
      | nil =>
        rw [List.nil_append] at h2
        obtain ⟨rfl, rfl⟩ := List.cons.inj h2
        exact ⟨c, col, l, r, rfl, by rw [h1, List.append_nil], rfl⟩
      | cons x c3 =>
        rw [List.cons_append] at h2
        obtain ⟨rfl, h3⟩ := List.cons.inj h2
        obtain ⟨c', col', l', r', x1, x2, x3⟩ := ord_split l (.dn true i e col r c) a c3 p h1
        exact ⟨c', col', l', r', x1, by rw [x2]; simp only [Cx.lo, if_true], by rw [x3]; simp only [Cx.hi, if_true]; rw [h3]; simp⟩
end Go.Eng
namespace Go.Eng
open Go Go.RowKit
variable {I : List Nat}
/-! numbers of nodes are numbers of nodes -/
def Wf (N : List Nd) : Prop := ∀ i, (gN N i).l < N.length ∧ (gN N i).r < N.length ∧ (gN N i).up < N.length
theorem gN_set (N : List Nd) (i j : Nat) (x : Nd) : gN (N.set i x) j = if i = j ∧ j < N.length then x else gN N j := by
  unfold gN; rw [List.getD_eq_getElem?_getD, List.getD_eq_getElem?_getD, List.getElem?_set]
  by_cases h : i = j
  · subst h; rw [if_pos rfl]
    by_cases hl : i < N.length
    · rw [if_pos hl, if_pos ⟨rfl, hl⟩]; rfl
    · rw [if_neg hl, if_neg (fun q => hl q.2), List.getElem?_eq_none (by omega)]
  · rw [if_neg h, if_neg (fun q => h q.1)]
theorem wf_set {N : List Nd} (h : Wf N) {i : Nat} {x : Nd} (h1 : x.l < N.length) (h2 : x.r < N.length) (h3 : x.up < N.length) : Wf (N.set i x) := fun j => by
  rw [gN_set, List.length_set]; split
  · exact ⟨h1, h2, h3⟩
  · exact h j
theorem wf_sL {N : List Nd} (h : Wf N) (i : Nat) {v : Nat} (hv : v < N.length) : Wf (nL N i v) := wf_set h hv (h i).2.1 (h i).2.2
theorem wf_sR {N : List Nd} (h : Wf N) (i : Nat) {v : Nat} (hv : v < N.length) : Wf (nR N i v) := wf_set h (h i).1 hv (h i).2.2
theorem wf_sU {N : List Nd} (h : Wf N) (i : Nat) {v : Nat} (hv : v < N.length) : Wf (nU N i v) := wf_set h (h i).1 (h i).2.1 hv
theorem wf_sC {N : List Nd} (h : Wf N) (i : Nat) (c : Bool) : Wf (nC N i c) := wf_set h (h i).1 (h i).2.1 (h i).2.2
theorem wf_sS {N : List Nd} (h : Wf N) (s : Bool) (i : Nat) {v : Nat} (hv : v < N.length) : Wf (nS s N i v) := by unfold nS; split; exact wf_sL h i hv; exact wf_sR h i hv
theorem wf_ch {N : List Nd} (h : Wf N) (i : Nat) (s : Bool) : (gN N i).ch s < N.length := by unfold Nd.ch; split; exact (h i).1; exact (h i).2.1
structure WfS (S : Ns) (n : Nat) : Prop where
  wf : Wf S.1
  len : S.1.length = n
  rt : S.2 < n
theorem swp_wf {S : Ns} {n : Nat} (h : WfS S n) {up was is : Nat} (hu : up < n) (hi : is < n) : WfS (swpF S up was is) n := by
  obtain ⟨h1, h2, h3⟩ := h
  unfold swpF
  split
  · exact ⟨wf_sU h1 is (by rw [h2]; exact hu), by rw [nU_len]; exact h2, hi⟩
  · refine ⟨?_, ?_, h3⟩
    · split
      · exact wf_sU (wf_sL h1 up (by rw [h2]; exact hi)) is (by rw [nL_len, h2]; exact hu)
      · exact wf_sU (wf_sR h1 up (by rw [h2]; exact hi)) is (by rw [nR_len, h2]; exact hu)
    · rw [nU_len]; split
      · rw [nL_len]; exact h2
      · rw [nR_len]; exact h2
theorem trn_wf {S : Ns} {n : Nat} (h : WfS S n) {i : Nat} (hi : i < n) (s : Bool) : WfS (trnF S i s) n := by
  obtain ⟨h1, h2, h3⟩ := h
  have hr := wf_ch h1 i (!s)
  have hl := wf_ch h1 ((gN S.1 i).ch (!s)) s
  have w1 : Wf (nS (!s) S.1 i ((gN S.1 ((gN S.1 i).ch (!s))).ch s)) := wf_sS h1 _ i hl
  have l1 : (nS (!s) S.1 i ((gN S.1 ((gN S.1 i).ch (!s))).ch s)).length = n := by rw [nS_len, h2]
  have w2 : Wf (if (gN S.1 ((gN S.1 i).ch (!s))).ch s = 0 then nS (!s) S.1 i ((gN S.1 ((gN S.1 i).ch (!s))).ch s) else nU (nS (!s) S.1 i ((gN S.1 ((gN S.1 i).ch (!s))).ch s)) ((gN S.1 ((gN S.1 i).ch (!s))).ch s) i) := by
    split
    · exact w1
    · exact wf_sU w1 _ (by rw [l1]; exact hi)
  have l2 : (if (gN S.1 ((gN S.1 i).ch (!s))).ch s = 0 then nS (!s) S.1 i ((gN S.1 ((gN S.1 i).ch (!s))).ch s) else nU (nS (!s) S.1 i ((gN S.1 ((gN S.1 i).ch (!s))).ch s)) ((gN S.1 ((gN S.1 i).ch (!s))).ch s) i).length = n := by
    split
    · exact l1
    · rw [nU_len]; exact l1
  have w3 := swp_wf (S := (_, S.2)) (n := n) ⟨w2, l2, h3⟩ (up := (gN (if (gN S.1 ((gN S.1 i).ch (!s))).ch s = 0 then nS (!s) S.1 i ((gN S.1 ((gN S.1 i).ch (!s))).ch s) else nU (nS (!s) S.1 i ((gN S.1 ((gN S.1 i).ch (!s))).ch s)) ((gN S.1 ((gN S.1 i).ch (!s))).ch s) i) i).up) (was := i) (is := (gN S.1 i).ch (!s)) (by have := (w2 i).2.2; rw [l2] at this; exact this) (by rw [← h2]; exact hr)
  unfold trnF
  refine ⟨?_, ?_, w3.rt⟩
  · exact wf_sU (wf_sS w3.wf s _ (by rw [w3.len]; exact hi)) i (by rw [nS_len, w3.len, ← h2]; exact hr)
  · show (nU (nS s _ _ _) i _).length = n
    rw [nU_len, nS_len]; exact w3.len
theorem nC_wf {S : Ns} {n : Nat} (h : WfS S n) (i : Nat) (c : Bool) : WfS (nC S.1 i c, S.2) n := ⟨wf_sC h.wf i c, by rw [nC_len]; exact h.len, h.rt⟩
theorem up_wf {S : Ns} {n : Nat} (h : WfS S n) (i : Nat) : (gN S.1 i).up < n := by have := (h.wf i).2.2; rw [h.len] at this; exact this
theorem l_wf {S : Ns} {n : Nat} (h : WfS S n) (i : Nat) : (gN S.1 i).l < n := by have := (h.wf i).1; rw [h.len] at this; exact this
theorem r_wf {S : Ns} {n : Nat} (h : WfS S n) (i : Nat) : (gN S.1 i).r < n := by have := (h.wf i).2.1; rw [h.len] at this; exact this
theorem ch_wf {S : Ns} {n : Nat} (h : WfS S n) (i : Nat) (s : Bool) : (gN S.1 i).ch s < n := by have := wf_ch h.wf i s; rw [h.len] at this; exact this
theorem grw_wf {n : Nat} : ∀ (f : Nat) (S S' : Ns) (i : Nat), grwF f S i = some S' → WfS S n → i < n → WfS S' n
  | 0, S, S', i, h, _, _ => by cases h
  | f + 1, S, S', i, h, hw, hi => by
    rw [grwF] at h
    dsimp only at h
    split at h
    · split at h
      · exact grw_wf f _ _ _ h (nC_wf (nC_wf (nC_wf hw _ _) _ _) _ _) (up_wf hw _)
      · split at h
        · exact grw_wf f _ _ _ h (trn_wf (nC_wf (nC_wf (trn_wf hw (up_wf hw _) _) _ _) _ _) (up_wf hw _) _) (up_wf hw _)
        · exact grw_wf f _ _ _ h (trn_wf (nC_wf (nC_wf hw _ _) _ _) (up_wf hw _) _) hi
    · cases h; exact nC_wf hw _ _
theorem shA_wf {S : Ns} {n : Nat} (h : WfS S n) {up o : Nat} (s : Bool) (hu : up < n) (ho : o < n) : WfS (shA S up s o).1 n ∧ (shA S up s o).2 < n := by
  unfold shA; split
  · have := trn_wf (nC_wf (nC_wf h o false) up true) hu s
    exact ⟨this, ch_wf this _ _⟩
  · exact ⟨h, ho⟩
theorem shB_wf {S : Ns} {n : Nat} (h : WfS S n) {o near far : Nat} (s : Bool) (ho : o < n) (hn : near < n) (hf : far < n) : WfS (shB S s o near far).1 n ∧ (shB S s o near far).2.1 < n ∧ (shB S s o near far).2.2 < n := by
  unfold shB; split
  · have := trn_wf (nC_wf (nC_wf h near false) o true) ho (!s)
    exact ⟨this, hn, ch_wf this _ _⟩
  · exact ⟨h, ho, hf⟩
theorem shC_wf {S : Ns} {n : Nat} (h : WfS S n) {up o far : Nat} (s : Bool) (hu : up < n) : WfS (shC S up s o far) n := trn_wf (nC_wf (nC_wf (nC_wf h _ _) _ _) _ _) hu s
theorem shD_wf {S : Ns} {n : Nat} (h : WfS S n) {up o : Nat} (s : Bool) (hu : up < n) (ho : o < n) : WfS (shD S up s o).1 n ∧ (shD S up s o).2 < n := by
  unfold shD; split
  · exact ⟨nC_wf h _ _, hu⟩
  · obtain ⟨b1, b2, b3⟩ := shB_wf h s ho (ch_wf h o s) (ch_wf h o (!s))
    exact ⟨shC_wf b1 s hu, (shC_wf b1 s hu).rt⟩
theorem shS_wf {S : Ns} {n : Nat} (h : WfS S n) (i : Nat) : WfS (shS S i).1 n ∧ (shS S i).2 < n := by
  have hu := up_wf h i
  obtain ⟨a1, a2⟩ := shA_wf h (decide ((gN S.1 (gN S.1 i).up).l = i)) hu (ch_wf h (gN S.1 i).up (!(decide ((gN S.1 (gN S.1 i).up).l = i))))
  exact shD_wf a1 _ hu a2
theorem shr_wf {n : Nat} : ∀ (f : Nat) (S S' : Ns) (i : Nat), shrF f S i = some S' → WfS S n → WfS S' n
  | 0, S, S', i, h, _ => by cases h
  | f + 1, S, S', i, h, hw => by
    rw [shrF] at h
    split at h
    · exact shr_wf f _ _ _ h (shS_wf hw i).1
    · cases h; exact nC_wf hw _ _
/-! a tree as it stands -/
structure RbS where
  most : Nat
  N : List Nd
  root : Nat
  first : Nat
  free : Nat
  n : Nat
def FrL (N : List Nd) : Nat → List Nat → Prop
  | i, [] => i = 0
  | i, j :: fl => i = j ∧ j ≠ 0 ∧ j < N.length ∧ FrL N (gN N j).l fl
theorem FrL.same {N N' : List Nd} : ∀ {fl : List Nat} {i : Nat}, FrL N i fl → (∀ j ∈ fl, N'[j]? = N[j]?) → FrL N' i fl
  | [], _, h, _ => h
  | j :: fl, i, ⟨h1, h2, h3, h4⟩, hs => by
    have e := hs j (List.mem_cons_self ..)
    have hlt : j < N'.length := by
      rw [List.getElem?_eq_getElem h3] at e
      exact (List.getElem?_eq_some_iff.1 e).1
    have eg : gN N' j = gN N j := by unfold gN; rw [List.getD_eq_getElem?_getD, List.getD_eq_getElem?_getD, e]
    exact ⟨h1, h2, hlt, by rw [eg]; exact h4.same (fun k hk => hs k (List.mem_cons_of_mem _ hk))⟩
structure RbI (s : RbS) (L : List Kv) : Prop where
  ex : ∃ (t : Tr) (fl : List Nat), Ly t.ixs (s.N, s.root) t ∧ t.ord.map (·.2) = L ∧ (∃ H, Ok t H) ∧ t.red = false ∧ s.first = hdI t.ord ∧ FrL s.N s.free fl ∧ fl.Nodup ∧ (∀ j ∈ fl, j ∉ t.ixs) ∧ s.N.length = 1 + t.size + fl.length
  srt : Srt L
  zero : s.N[0]? = some default
  wf : WfS (s.N, s.root) s.N.length
  n : s.n = L.length
  most : L.length ≤ s.most
  len : s.N.length ≤ s.most + 1
def insK (L : List Kv) (k : Kv) : List Kv := L.filter (fun x => decide (yLt x k)) ++ k :: L.filter (fun x => decide (yLt k x))
def delK (L : List Kv) (k : Kv) : List Kv := L.filter (fun x => decide (¬ yEq k x))
theorem filt_all {α : Type} {p : α → Bool} {l : List α} (h : ∀ x ∈ l, p x = true) : l.filter p = l := List.filter_eq_self.2 h
theorem filt_none {α : Type} {p : α → Bool} {l : List α} (h : ∀ x ∈ l, p x = false) : l.filter p = [] := List.filter_eq_nil_iff.2 (fun x hx => by rw [h x hx]; simp)
theorem insK_split {lo hi : List Kv} {k : Kv} (h1 : ∀ x ∈ lo, yLt x k) (h2 : ∀ x ∈ hi, yLt k x) : insK (lo ++ hi) k = lo ++ k :: hi := by
  unfold insK
  rw [List.filter_append, List.filter_append, filt_all (fun x hx => decide_eq_true (h1 x hx)), filt_none (fun x hx => decide_eq_false (h2 x hx).asym), filt_none (fun x hx => decide_eq_false (h1 x hx).asym), filt_all (fun x hx => decide_eq_true (h2 x hx))]
  simp
theorem srt_mid {lo hi : List Kv} {k : Kv} (h : Srt (lo ++ hi)) (h1 : ∀ x ∈ lo, yLt x k) (h2 : ∀ x ∈ hi, yLt k x) : Srt (lo ++ k :: hi) := by
  unfold Srt at *
  rw [List.pairwise_append] at h ⊢
  refine ⟨h.1, List.pairwise_cons.2 ⟨h2, h.2.1⟩, fun a ha b hb => ?_⟩
  rcases List.mem_cons.1 hb with rfl | hb
  · exact h1 a ha
  · exact h.2.2 a ha b hb
theorem delK_split {lo hi : List Kv} {k e : Kv} (h : Srt (lo ++ e :: hi)) (he : yEq k e) : delK (lo ++ e :: hi) k = lo ++ hi := by
  unfold Srt at h
  rw [List.pairwise_append, List.pairwise_cons] at h
  unfold delK
  rw [List.filter_append, List.filter_cons, if_neg (by simpa using he), filt_all, filt_all]
  · intro x hx; rw [decide_eq_true_eq]; intro q
    exact yLt.ne (h.2.1.1 x hx) ⟨he.1.symm.trans q.1, he.2.symm.trans q.2⟩
  · intro x hx; rw [decide_eq_true_eq]; intro q
    exact yLt.ne (h.2.2 x hx e (List.mem_cons_self ..)) ⟨q.1.symm.trans he.1, q.2.symm.trans he.2⟩
theorem srt_del {lo hi : List Kv} {e : Kv} (h : Srt (lo ++ e :: hi)) : Srt (lo ++ hi) := by
  unfold Srt at *
  exact h.sublist (List.Sublist.append (List.Sublist.refl _) (List.sublist_cons_self ..))
def takN (N : List Nd) (free : Nat) (x : Nd) : List Nd × Nat × Nat := if free = 0 then (N ++ [x], N.length, 0) else (N.set free x, free, (gN N free).l)
def lnkF (S : Ns) (up i : Nat) (k : Kv) : Ns := if up = 0 then (S.1, i) else if agnO k (gN S.1 up).e < 0 then (nL S.1 up i, S.2) else (nR S.1 up i, S.2)
def frsF (N : List Nd) (first i : Nat) (k : Kv) : Nat := if first = 0 ∨ agnO k (gN N first).e < 0 then i else first
theorem ord_ixs (t : Tr) (j : Nat) : j ∈ t.ord.map (·.1) ↔ j ∈ t.ixs := by
  induction t with
  | lf => simp [Tr.ord, Tr.ixs]
  | nd i e c l r ihl ihr =>
    simp only [Tr.ord, Tr.ixs, List.map_append, List.map_cons, List.mem_append, List.mem_cons, ihl, ihr]
    constructor
    · rintro (h | h | h)
      · exact .inr (.inl h)
      · exact .inl h
      · exact .inr (.inr h)
    · rintro (h | h | h)
      · exact .inr (.inl h)
      · exact .inl h
      · exact .inr (.inr h)
theorem Ly.own {S : Ns} {t : Tr} (h : Ly I S t) : Ly t.ixs S t := ⟨h.has, h.root, h.nd, fun x hx => hx, fun q => h.nz (h.sub _ q)⟩
theorem Ly.wide {S : Ns} {t : Tr} {J : List Nat} (h : Ly I S t) (hs : ∀ x ∈ t.ixs, x ∈ J) (h0 : 0 ∉ J) : Ly J S t := ⟨h.has, h.root, h.nd, hs, h0⟩
theorem Ly.lt {S : Ns} {t : Tr} (h : Ly I S t) {j : Nat} (hj : j ∈ t.ixs) : j < S.1.length := by
  have key : ∀ (t : Tr) (up : Nat), Has S.1 (t.ents up) → ∀ j ∈ t.ixs, j < S.1.length := by
    intro t
    induction t with
    | lf => intro up _ j hj; cases hj
    | nd i e c l r ihl ihr =>
      intro up hh j hj
      simp only [Tr.ents, Has.cons, Has.app] at hh
      simp only [Tr.ixs, List.mem_cons, List.mem_append] at hj
      rcases hj with rfl | hj | hj
      · exact (List.getElem?_eq_some_iff.1 hh.1).1
      · exact ihl _ hh.2.1 j hj
      · exact ihr _ hh.2.2 j hj
  exact key t 0 h.has j hj
theorem Ly.key {S : Ns} {t : Tr} (h : Ly I S t) {p : Nat × Kv} (hp : p ∈ t.ord) : (gN S.1 p.1).e = p.2 := by
  have key : ∀ (t : Tr) (up : Nat), Has S.1 (t.ents up) → ∀ p ∈ t.ord, (gN S.1 p.1).e = p.2 := by
    intro t
    induction t with
    | lf => intro up _ j hj; cases hj
    | nd i e c l r ihl ihr =>
      intro up hh p hp
      simp only [Tr.ents, Has.cons, Has.app] at hh
      simp only [Tr.ord, List.mem_append, List.mem_cons] at hp
      rcases hp with hp | rfl | hp
      · exact ihl _ hh.2.1 p hp
      · rw [gN_of hh.1]
      · exact ihr _ hh.2.2 p hp
  exact key t 0 h.has p hp
end Go.Eng
namespace Go.Eng
open Go Go.RowKit
variable {I : List Nat}
theorem ord_nodup {t : Tr} (h : t.ixs.Nodup) : (t.ord.map (·.1)).Nodup := by
  have key : ∀ t : Tr, (t.ord.map (·.1)).Perm t.ixs := by
    intro t
    induction t with
    | lf => exact List.Perm.refl _
    | nd i e c l r ihl ihr =>
      simp only [Tr.ord, Tr.ixs, List.map_append, List.map_cons]
      exact List.perm_middle.trans ((ihl.append ihr).cons i)
  exact (key t).nodup_iff.2 h
theorem fill_ly {N N1 : List Nd} {root i : Nat} {c : Cx} {k : Kv} {I : List Nat} (hL : Ly I (N, root) (plug c .lf)) (hi0 : i ≠ 0) (hin : i ∉ (plug c .lf).ixs)
    (h1 : ∀ j, j ≠ i → j ∈ c.ixs → N1[j]? = N[j]?) (h2 : N1[i]? = some ⟨k, 0, 0, c.ix, true⟩) (hlo : ∀ p ∈ c.lo, yLt p.2 k) (hhi : ∀ p ∈ c.hi, yLt k p.2) :
    Ly (i :: (plug c .lf).ixs) (lnkF (N1, root) c.ix i k) (plug c (.nd i k true .lf .lf)) := by
  obtain ⟨hk, _, nk, _, _, zk, _⟩ := ly_split hL
  have hmem : ∀ j, j ∈ (plug c .lf).ixs ↔ j ∈ c.ixs := fun j => by rw [(plug_ixs c .lf).mem_iff]; simp [Tr.ixs]
  have hic : i ∉ c.ixs := fun q => hin ((hmem i).2 q)
  have hz : 0 ∉ i :: (plug c .lf).ixs := by
    rw [List.mem_cons]; rintro (q | q)
    · exact hi0 q.symm
    · exact zk ((hmem 0).1 q)
  cases c with
  | top =>
    have hS : lnkF (N1, root) Cx.top.ix i k = (N1, i) := rfl
    rw [hS]
    refine ⟨?_, rfl, ?_, ?_, hz⟩
    · simp only [plug, Tr.ents, Has.cons, List.append_nil]; exact ⟨h2, Has.nil _⟩
    · simp [plug, Tr.ixs]
    · intro x hx; simpa [plug, Tr.ixs] using hx
  | dn s p pe pc sib k2 =>
    have hp0 : p ≠ 0 := fun q => zk (by rw [← q]; exact List.mem_cons_self ..)
    have hpi : p ≠ i := fun q => hic (by rw [← q]; exact List.mem_cons_self ..)
    simp only [Cx.ents, Has.cons, Has.app] at hk
    simp only [Cx.ixs, List.nodup_cons, List.mem_append] at nk
    obtain ⟨k1, k3, k4⟩ := hk
    have hp1 : N1[p]? = some (mkN s pe 0 sib.ix k2.ix pc) := by rw [h1 p hpi (List.mem_cons_self ..)]; exact k1
    have hsd : (if agnO k (gN N1 p).e < 0 then (nL N1 p i, root) else (nR N1 p i, root)) = (nS s N1 p i, root) := by
      have he : (gN N1 p).e = pe := by rw [gN_of hp1]; rfl
      rw [he]; unfold nS
      cases s with
      | true =>
        have : yLt k pe := hhi (p, pe) (by simp only [Cx.hi, if_true]; exact List.mem_cons_self ..)
        rw [if_pos (agn_neg.2 this)]; rfl
      | false =>
        have : yLt pe k := hlo (p, pe) (by simp [Cx.lo])
        rw [if_neg (fun q => this.asym (agn_neg.1 q))]; rfl
    have hS : lnkF (N1, root) (Cx.dn s p pe pc sib k2).ix i k = (nS s N1 p i, root) := by
      show lnkF (N1, root) p i k = _
      unfold lnkF; rw [if_neg hp0]; exact hsd
    rw [hS]
    have hf : ∀ j, j ≠ p → j ≠ i → j ∈ (Cx.dn s p pe pc sib k2).ixs → (nS s N1 p i)[j]? = N[j]? := fun j a b c => by rw [nS_ne (fun q => a q.symm), h1 j b c]
    have hroot := hL.root
    refine ly_join (k := .dn s p pe pc sib k2) (t := .nd i k true .lf .lf) ?_ ?_ ?_ (by rw [Cx.ixs, List.nodup_cons, List.mem_append]; exact nk) (by simp [Tr.ixs]) (fun x a b => ?_) (fun x hx => List.mem_cons_of_mem _ ((hmem x).2 hx)) (fun x hx => ?_) hz
    · simp only [Cx.ents, Has.cons, Has.app]
      refine ⟨by rw [nS_eq hp1, mkN_set]; rfl, k3.frame (ents_ixs _ _) (fun j hj => hf j (fun q => nk.1 (.inl (q ▸ hj))) (fun q => hic (by rw [← q]; exact List.mem_cons_of_mem _ (List.mem_append_left _ hj))) (List.mem_cons_of_mem _ (List.mem_append_left _ hj))), k4.frame (cents_ixs _ _) (fun j hj => hf j (fun q => nk.1 (.inr (q ▸ hj))) (fun q => hic (by rw [← q]; exact List.mem_cons_of_mem _ (List.mem_append_right _ hj))) (List.mem_cons_of_mem _ (List.mem_append_right _ hj)))⟩
    · simp only [Tr.ents, Has.cons, List.append_nil]
      exact ⟨by rw [nS_ne hpi]; exact h2, Has.nil _⟩
    · show root = _
      rw [show root = (plug (Cx.dn s p pe pc sib k2) .lf).ix from hroot]; exact plug_ix_dn (fun q => by cases q) _ _
    · simp only [Tr.ixs, List.mem_cons, List.append_nil, List.not_mem_nil, or_false] at b; subst b; exact hic a
    · simp only [Tr.ixs, List.mem_cons, List.append_nil, List.not_mem_nil, or_false] at hx; subst hx; exact List.mem_cons_self ..
theorem lnk_zero {S : Ns} {up i : Nat} {k : Kv} (hu : up ≠ 0) : (lnkF S up i k).1[0]? = S.1[0]? := by
  unfold lnkF; rw [if_neg hu]; split
  · exact by rw [nL_at, if_neg hu]
  · exact by rw [nR_at, if_neg hu]
theorem lnk_out {S : Ns} {up i j : Nat} {k : Kv} (hj : j ≠ up) : (lnkF S up i k).1[j]? = S.1[j]? := by
  unfold lnkF; split
  · rfl
  · split
    · exact by rw [nL_at, if_neg (fun q => hj q.symm)]
    · exact by rw [nR_at, if_neg (fun q => hj q.symm)]
theorem lnk_len {S : Ns} {up i : Nat} {k : Kv} : (lnkF S up i k).1.length = S.1.length := by
  unfold lnkF; split
  · rfl
  · split
    · exact nL_len ..
    · exact nR_len ..
theorem lnk_wf {S : Ns} {n up i : Nat} {k : Kv} (h : WfS S n) (hi : i < n) : WfS (lnkF S up i k) n := by
  unfold lnkF; split
  · exact ⟨h.wf, h.len, hi⟩
  · split
    · exact ⟨wf_sL h.wf _ (by rw [h.len]; exact hi), by rw [nL_len]; exact h.len, h.rt⟩
    · exact ⟨wf_sR h.wf _ (by rw [h.len]; exact hi), by rw [nR_len]; exact h.len, h.rt⟩
theorem gN_app (N : List Nd) (x : Nd) (j : Nat) : gN (N ++ [x]) j = if j = N.length then x else gN N j := by
  unfold gN; rw [List.getD_eq_getElem?_getD, List.getD_eq_getElem?_getD]
  by_cases h : j < N.length
  · rw [List.getElem?_append_left h, if_neg (by omega)]
  · by_cases e : j = N.length
    · rw [if_pos e, e, List.getElem?_append_right (Nat.le_refl _), Nat.sub_self]; rfl
    · rw [if_neg e, List.getElem?_append_right (by omega), List.getElem?_eq_none (by simp; omega), List.getElem?_eq_none (by omega)]
structure Take (s : RbS) (t : Tr) (x : Nd) (fl : List Nat) (N1 : List Nd) (i free : Nat) (fl' : List Nat) : Prop where
  out : i ∉ t.ixs
  nz : i ≠ 0
  at' : N1[i]? = some x
  same : ∀ j, j ≠ i → j < s.N.length → N1[j]? = s.N[j]?
  lt : i < N1.length
  fr : FrL N1 free fl'
  nd : fl'.Nodup
  ap : ∀ j ∈ fl', j ∉ t.ixs ∧ j ≠ i
  len : N1.length = 1 + (t.size + 1) + fl'.length
  wf : WfS (N1, s.root) N1.length
  le : N1.length ≤ s.most + 1
  ge : s.N.length ≤ N1.length
theorem tak_spec {s : RbS} {L : List Kv} (h : RbI s L) (hn : s.n < s.most) {t : Tr} {fl : List Nat} (hL : Ly t.ixs (s.N, s.root) t) (ho : t.ord.map (·.2) = L) (hF : FrL s.N s.free fl) (hfn : fl.Nodup) (hfa : ∀ j ∈ fl, j ∉ t.ixs) (hlen : s.N.length = 1 + t.size + fl.length) (x : Nd) (hx : x.l < s.N.length ∧ x.r < s.N.length ∧ x.up < s.N.length) :
    ∃ fl', Take s t x fl (takN s.N s.free x).1 (takN s.N s.free x).2.1 (takN s.N s.free x).2.2 fl' := by
  have hsz : t.size = L.length := by rw [← ho, List.length_map, Tr.size_ord]
  cases fl with
  | nil =>
    have hf0 : s.free = 0 := hF
    unfold takN; rw [if_pos hf0]
    have hN : s.N.length = 1 + t.size := by simpa using hlen
    refine ⟨[], ⟨(fun q => by have := hL.lt q; simp at this), (by show s.N.length ≠ 0; omega), (by simp), (fun j hj hlt => List.getElem?_append_left hlt), (by simp), rfl, List.nodup_nil, (fun j hj => by cases hj), (by simp; omega), ⟨?_, rfl, (by have := h.wf.rt; simp at this ⊢; omega)⟩, (by have := h.n; simp; omega), (by simp)⟩⟩
    intro j
    rw [gN_app, List.length_append, List.length_singleton]
    split
    · omega
    · have := h.wf.wf j; simp only at this; omega
  | cons j fl2 =>
    obtain ⟨h1, h2, h3, h4⟩ := hF
    rw [List.nodup_cons] at hfn
    unfold takN; rw [h1, if_neg h2]
    have hj := hfa j (List.mem_cons_self ..)
    refine ⟨fl2, ⟨hj, h2, by rw [List.getElem?_set, if_pos rfl, if_pos h3], fun i hi _ => by rw [List.getElem?_set, if_neg (fun q => hi q.symm)], by rw [List.length_set]; exact h3, ?_, hfn.2, fun i hi => ⟨hfa i (List.mem_cons_of_mem _ hi), fun q => hfn.1 (by rw [← show i = j from q]; exact hi)⟩, by rw [List.length_set, hlen, List.length_cons]; omega, ⟨?_, rfl, by rw [List.length_set]; exact h.wf.rt⟩, by rw [List.length_set]; exact h.len, by rw [List.length_set]; exact Nat.le_refl _⟩⟩
    · exact h4.same (fun i hi => by rw [List.getElem?_set, if_neg (fun q => hfn.1 (by rw [q]; exact hi))])
    · exact wf_set h.wf.wf hx.1 hx.2.1 hx.2.2
theorem hd_first {t : Tr} {S : Ns} (h : Ly I S t) {k : Kv} (hne : t.ord ≠ []) : hdI t.ord ≠ 0 ∧ ∃ e, t.ord.head? = some (hdI t.ord, e) ∧ (gN S.1 (hdI t.ord)).e = e := by
  cases ho : t.ord with
  | nil => exact absurd ho hne
  | cons p l =>
    have hp : p ∈ t.ord := by rw [ho]; exact List.mem_cons_self ..
    refine ⟨fun q => ?_, p.2, rfl, h.key hp⟩
    have : p.1 ∈ t.ixs := (ord_ixs t p.1).1 (List.mem_map_of_mem hp)
    exact h.nz (h.sub _ (by rw [← (show p.1 = 0 from q)]; exact this))
theorem ins_ly {s : RbS} {L : List Kv} {k : Kv} (h : RbI s L) (hn : s.n < s.most) {t : Tr} {c : Cx} {fl : List Nat} (hT : t = plug c .lf) (hlo : ∀ p ∈ c.lo, yLt p.2 k) (hhi : ∀ p ∈ c.hi, yLt k p.2)
    (hL : Ly t.ixs (s.N, s.root) t) (ho : t.ord.map (·.2) = L) (hok : ∃ H, Ok t H) (hb : t.red = false) (hfst : s.first = hdI t.ord) (hF : FrL s.N s.free fl) (hfn : fl.Nodup) (hfa : ∀ j ∈ fl, j ∉ t.ixs) (hlen : s.N.length = 1 + t.size + fl.length)
    {f : Nat} (hf : s.N.length + 2 ≤ f) {x : Nd} (hx : x = ⟨k, 0, 0, c.ix, true⟩) :
    ∃ S', grwF f (lnkF ((takN s.N s.free x).1, s.root) c.ix (takN s.N s.free x).2.1 k) (takN s.N s.free x).2.1 = some S' ∧
      RbI ⟨s.most, S'.1, S'.2, frsF (lnkF ((takN s.N s.free x).1, s.root) c.ix (takN s.N s.free x).2.1 k).1 s.first (takN s.N s.free x).2.1 k, (takN s.N s.free x).2.2, s.n + 1⟩ (insK L k) := by
  have hc0 : c.ix < s.N.length := by
    by_cases e : c.ix = 0
    · rw [e]; have := h.wf.rt; omega
    · exact hL.lt (by rw [hT, (plug_ixs c .lf).mem_iff]; exact List.mem_append_left _ (Cx.ix_mem e))
  have hpos : 0 < s.N.length := by have := h.wf.rt; omega
  obtain ⟨fl', hk⟩ := tak_spec h hn hL ho hF hfn hfa hlen x (by subst hx; exact ⟨hpos, hpos, hc0⟩)
  generalize hi : (takN s.N s.free x).2.1 = i at *
  generalize hN1 : (takN s.N s.free x).1 = N1 at *
  generalize hfr : (takN s.N s.free x).2.2 = free' at *
  have hcx : ∀ j ∈ c.ixs, j ∈ t.ixs := fun j hj => by rw [hT, (plug_ixs c .lf).mem_iff]; exact List.mem_append_left _ hj
  rw [hT] at hL
  have hfill := fill_ly (N1 := N1) (root := s.root) (i := i) (k := k) hL hk.nz (by rw [← hT]; exact hk.out) (fun j a b => hk.same j a (by have := hL.lt (j := j) (by rw [← hT]; exact hcx j b); exact this)) (by rw [hk.at', hx]) hlo hhi
  obtain ⟨_, _, _, _, _, zk, _⟩ := ly_split hL
  have hS0 : (lnkF (N1, s.root) c.ix i k).1[0]? = some default := by
    have e0 : N1[0]? = some default := by rw [hk.same 0 (fun q => hk.nz q.symm) hpos]; exact h.zero
    by_cases e : c.ix = 0
    · unfold lnkF; rw [if_pos e]; exact e0
    · rw [lnk_zero e]; exact e0
  have hz0 : Z0 (i :: (plug c .lf).ixs) (lnkF (N1, s.root) c.ix i k).1 := ⟨hfill.nz, default, hS0, rfl⟩
  -- the context stands round a black hole of nought
  have hokc : ∀ (c : Cx) (t : Tr) (H : Nat), Ok (plug c t) H → (plug c t).red = false → (∃ g, Ok t g ∧ Okc c g) ∧ (t.red = true → c.red = false ∧ c ≠ .top) := by
    intro c
    induction c with
    | top => intro t H h1 h2; exact ⟨⟨H, h1, trivial⟩, fun q => by rw [show t.red = false from h2] at q; cases q⟩
    | dn s i e col sib k ih =>
      intro t H h1 h2
      obtain ⟨⟨g, g1, g2⟩, g3⟩ := ih (mkR s i e col t sib) H h1 h2
      cases col with
      | true =>
        have := okR.1 g1
        obtain ⟨r1, r2⟩ := g3 (mkR_red ..)
        refine ⟨⟨g, this.1, ?_⟩, fun q => by rw [this.2.2.1] at q; cases q⟩
        simp only [Okc, if_true]; exact ⟨this.2.1, this.2.2.2, r1, r2, g2⟩
      | false =>
        obtain ⟨g', rfl, g5, g6⟩ := okB0 g1
        refine ⟨⟨g', g5, ?_⟩, fun _ => ⟨rfl, fun q => by cases q⟩⟩
        simp only [Okc, Bool.false_eq_true, if_false]; exact ⟨g6, g2⟩
  obtain ⟨H, hok⟩ := hok
  obtain ⟨⟨g, hg0, hcg⟩, _⟩ := hokc c .lf H (by rw [← hT]; exact hok) (by rw [← hT]; exact hb)
  have hg : g = 0 := hg0
  subst hg
  obtain ⟨S', e1, t', a1, a2, a3, a4, a5, a6⟩ := grw_ly f (lnkF (N1, s.root) c.ix i k) c true i k .lf .lf 0 hfill hz0 (okR.2 ⟨rfl, rfl, rfl, rfl⟩) hcg (by
    have h1 := Cx.len_ixs c
    have h2 : c.ixs.length ≤ t.size := by rw [hT, Tr.size_plug]; omega
    omega)
  have hor : t'.ord = c.lo ++ (i, k) :: c.hi := by rw [a2, plug_ord]; simp [mkR, Tr.ord]
  have hot : t.ord = c.lo ++ c.hi := by rw [hT, plug_ord]; simp [Tr.ord]
  have hLs : L = c.lo.map (·.2) ++ c.hi.map (·.2) := by rw [← ho, hot, List.map_append]
  have hLk : insK L k = c.lo.map (·.2) ++ k :: c.hi.map (·.2) := by
    rw [hLs]; exact insK_split (fun y hy => by obtain ⟨p, hp, rfl⟩ := List.mem_map.1 hy; exact hlo p hp) (fun y hy => by obtain ⟨p, hp, rfl⟩ := List.mem_map.1 hy; exact hhi p hp)
  have hsz' : t'.size = t.size + 1 := by rw [← Tr.size_ord, ← Tr.size_ord, hor, hot]; simp; omega
  have hlenS : S'.1.length = N1.length := by rw [a5, lnk_len]
  refine ⟨S', e1, ⟨⟨t', fl', a1.own, ?_, a3, a4, ?_, ?_, hk.nd, ?_, ?_⟩, ?_, ?_, ?_, ?_, ?_, ?_⟩⟩
  · rw [hor, hLk]; simp
  · -- the first one
    show frsF _ s.first i k = hdI t'.ord
    rw [hor, hfst, hot]
    cases hc : c.lo with
    | nil =>
      rw [List.nil_append, List.nil_append]
      unfold frsF
      cases hh : c.hi with
      | nil => rw [if_pos (.inl rfl)]; rfl
      | cons p l =>
        rw [if_pos]; rfl
        right
        show agnO k (gN _ p.1).e < 0
        have hp : p ∈ (plug c (.nd i k true .lf .lf)).ord := by rw [plug_ord, hh]; simp
        rw [hfill.key hp]
        exact agn_neg.2 (hhi p (by rw [hh]; exact List.mem_cons_self ..))
    | cons p l =>
      show frsF _ p.1 i k = p.1
      unfold frsF
      rw [if_neg]
      have hp : p ∈ (plug c (.nd i k true .lf .lf)).ord := by rw [plug_ord, hc]; simp
      rintro (q | q)
      · have : p.1 ∈ (plug c (.nd i k true .lf .lf)).ixs := (ord_ixs _ _).1 (List.mem_map_of_mem hp)
        exact hfill.nz (hfill.sub _ (q ▸ this))
      · rw [hfill.key hp] at q
        exact (hlo p (by rw [hc]; exact List.mem_cons_self ..)).asym (agn_neg.1 q)
  · refine hk.fr.same (fun j hj => ?_)
    have hja := hk.ap j hj
    rw [a6 j (by rw [List.mem_cons]; rintro (q | q); exact hja.2 q; exact hja.1 (by rw [hT]; exact q)), lnk_out]
    intro q
    by_cases e : c.ix = 0
    · have hz : ∀ {fl : List Nat} {i : Nat}, FrL N1 i fl → 0 ∉ fl := by
        intro fl
        induction fl with
        | nil => intro i _ q; cases q
        | cons j fl ih => intro i ⟨_, h2, _, h4⟩ q; rcases List.mem_cons.1 q with q | q; exact h2 q.symm; exact ih h4 q
      exact hz hk.fr (by rw [e] at q; rw [← q]; exact hj)
    · exact hja.1 (hcx j (by rw [q]; exact Cx.ix_mem e))
  · intro j hj q
    have hja := hk.ap j hj
    have := a1.sub j q
    rw [List.mem_cons] at this
    rcases this with q | q
    · exact hja.2 q
    · exact hja.1 (by rw [hT]; exact q)
  · show S'.1.length = _
    rw [hlenS, hk.len, hsz']
  · rw [hLk]
    have hs := h.srt
    rw [hLs] at hs
    exact srt_mid hs (fun y hy => by obtain ⟨p, hp, rfl⟩ := List.mem_map.1 hy; exact hlo p hp) (fun y hy => by obtain ⟨p, hp, rfl⟩ := List.mem_map.1 hy; exact hhi p hp)
  · show S'.1[0]? = _
    rw [a6 0 hfill.nz]; exact hS0
  · show WfS S' S'.1.length
    rw [hlenS]
    exact grw_wf f _ _ _ e1 (lnk_wf hk.wf hk.lt) hk.lt
  · show s.n + 1 = _
    rw [hLk, h.n, hLs]; simp; omega
  · show (insK L k).length ≤ s.most
    have := h.n
    rw [hLk]; rw [hLs] at this; simp at this ⊢; omega
  · show S'.1.length ≤ s.most + 1
    rw [hlenS]; exact hk.le
end Go.Eng
