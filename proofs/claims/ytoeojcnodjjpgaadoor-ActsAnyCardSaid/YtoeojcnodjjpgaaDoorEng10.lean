/- The calculus, tenth part: iterators that have memory of their own. No condition. -/
import Derived.Test.YtoeojcnodjjpgaaDoorEng9
set_option linter.unusedVariables false
namespace Go.Eng
open Go Go.RowKit

/-- What is known between two rounds: k have come; the iterator's own blocks are m. -/
structure JL (n : Nat) (J : Nat → Mem0 → World → Prop) (Jx : World → Prop) : Prop where
  le : ∀ k m w, J k m w → n ≤ w.heap.size
  mem : ∀ k m w, J k m w → Mem w m
  upd : ∀ k m m' w w', J k m w → Chg (fun b => ∃ q ∈ m, q.1 = b) w w' → Mem w' m' → (∀ p ∈ m', (w.heap.size ≤ p.1 ∨ ∃ q ∈ m, q.1 = p.1) ∧ wlk p.2 = false) → J k m' w'
  bk : ∀ k m w w', J k m w → Bk n w w' → J k m w'
  bkx : ∀ w w', Jx w → Bk n w w' → Jx w'
/-- An iterator's contract, that has memory of its own. -/
def SeqCP (P : Program) (g : FuncId) (lb : Array Value) (A : List (Array Value)) (Rd : World → Prop) (fin : Prop) : Prop :=
  ∀ (l : Nat) (J : Nat → Mem0 → World → Prop) (Jx : World → Prop) (W : World), (fin ∨ ∀ m w, ¬ J A.length m w) → (∀ k m w, J k m w → Rd w) → JL W.heap.size J Jx →
    (∀ k a m w1, A[k]? = some a → J k m w1 → YR P l a w1 (fun b w2 => ((b = true ∧ J (k + 1) m w2) ∨ (b = false ∧ Jx w2)) ∧ KW W.heap.size w1 w2)) →
    J 0 [] W → Ret P g (#[.func (.yield l) #[] #[]] ++ lb) W (fun _ w' => J A.length [] w' ∨ Jx w')
theorem SeqC.toP {P : Program} {g : FuncId} {lb : Array Value} {A : List (Array Value)} {Rd : World → Prop} {fin : Prop} (h : SeqC P g lb A Rd fin) : SeqCP P g lb A Rd fin :=
  fun l J Jx W hf hr hL hy h0 => h l (fun k w => J k [] w) Jx W (hf.imp id fun hn w => hn [] w) (fun k w hj => hr k [] w hj) (fun k w1 w2 hj hb => hL.bk k [] w1 w2 hj hb) hL.bkx (fun k a w1 ha hj => hy k a [] w1 ha hj) h0
theorem JL.rd {n : Nat} {J : Nat → Mem0 → World → Prop} {Jx : World → Prop} (h : JL n J Jx) {Rd : World → Prop} (hr : ∀ k m w, J k m w → Rd w) {k : Nat} {m : Mem0} {w1 w : World} (hj : J k m w1) (hc : Chg (fun b => ∃ q ∈ m, q.1 = b) w1 w) : Rd w :=
  hr k [] w (h.upd k m [] w1 w hj hc (Mem.nil w) (fun p hp => by cases hp))
theorem JL.end {n : Nat} {J : Nat → Mem0 → World → Prop} {Jx : World → Prop} (h : JL n J Jx) {k : Nat} {m : Mem0} {w1 w : World} (hj : J k m w1) (hc : Chg (fun b => ∃ q ∈ m, q.1 = b) w1 w) : J k [] w :=
  h.upd k m [] w1 w hj hc (Mem.nil w) (fun p hp => by cases hp)
theorem JL.endx {n : Nat} {J : Nat → Mem0 → World → Prop} {Jx : World → Prop} (h : JL n J Jx) {w1 w : World} (hj : Jx w1) (hc : Chg no w1 w) : Jx w := h.bkx w1 w hj (Ext.bk hc)
theorem KW.trans {n n' : Nat} {a b c : World} (h : KW n' a b) (k : KW n b c) (hn : n ≤ n') : KW n' a c :=
  ⟨k.os.trans h.os, k.tape.trans h.tape, k.output.trans h.output, Nat.le_trans h.size k.size, fun x o hx ho hw => k.same x o (by omega) (h.same x o hx ho hw) hw⟩

section
variable {P : Program} {ty : TypeId} {e : Env} {t u : TypeId} {x y : Operand}
theorem ov_remJ {k : IntKind} {a b : Int} (hx : ev e x = some (.int k a)) (hy : ev e y = some (.int k b)) (ha : 0 ≤ a) (h : 0 < b) : OpP P (.binOp .rem t x y u) ty e (.int k (a % b)) := ov_arith hx hy (fun w => by
  have hb : ¬ b = 0 := by omega
  have hd : a.tmod b = a % b := Int.tmod_eq_emod_of_nonneg ha
  simp [binOp, Op.intDiv, hb, hd])
end

/-! ### Open and closed -/
section
variable {P : Program} {r : Option Nat} {N : Nat} {Q : Exit → Act → World → Prop} {e : Env} {ds : List Nat} {M m : Mem0} {w0 w1 : World} {n k : Nat} {J : Nat → Mem0 → World → Prop} {Jx K : World → Prop}
variable {ops : Array Oper} {rest : List Oper} {ty : TypeId} {pos : String} {after : Array Edge} {d : Nat}
abbrev inM (m : Mem0) : Nat → Prop := fun b => ∃ q ∈ m, q.1 = b
abbrev all0 : Nat → Prop := fun _ => True
theorem chg_all {S : Nat → Prop} {w w1 w2 : World} (h : Chg all0 w w1) (k : Chg S w1 w2) : Chg all0 w w2 := h.step k (fun _ _ _ => trivial)
theorem kw_chg {n : Nat} {w w' : World} (h : KW n w w') : Chg all0 w w' := ⟨h.os, h.tape, h.output, h.size, fun _ _ hn => absurd trivial hn⟩
theorem wpM.openJ {c : Code} (h : ∀ w1, Mem w1 M → Chg all0 w0 w1 → J k m w1 → K w1 → wpM P r N c Q e ds M (inM m) w1 (KW n w1)) : wpM P r N c Q e ds M all0 w0 (fun w => J k m w ∧ K w) :=
  fun w hm hc hg => h w hm hc hg.1 hg.2 w hm (Chg.refl _ w) (KW.refl n w)
theorem QM.openJ {X : Exit} (h : ∀ w1, Mem w1 M → Chg all0 w0 w1 → J k m w1 → K w1 → QM N Q X e ds M (inM m) w1 (KW n w1)) : QM N Q X e ds M all0 w0 (fun w => J k m w ∧ K w) :=
  fun w hm hc hg => h w hm hc hg.1 hg.2 w hm (Chg.refl _ w) (KW.refl n w)
theorem QM.openX {X : Exit} (h : ∀ w1, Mem w1 M → Chg all0 w0 w1 → Jx w1 → K w1 → QM N Q X e ds M no w1 (KW n w1)) : QM N Q X e ds M all0 w0 (fun w => Jx w ∧ K w) :=
  fun w hm hc hg => h w hm hc hg.1 hg.2 w hm (Chg.refl _ w) (KW.refl n w)
theorem wpM.closeJ {c : Code} (hL : JL n J Jx) (hC : Chg all0 w0 w1) (hJ : J k m w1) (hK : K w1) (hKK : ∀ w w', K w → KW n w w' → K w') (m' : Mem0) (hM : ∀ w, Mem w M → Mem w m') (hn : ∀ p ∈ m', (w1.heap.size ≤ p.1 ∨ ∃ q ∈ m, q.1 = p.1) ∧ wlk p.2 = false)
    (h : wpM P r N c Q e ds M all0 w0 (fun w => J k m' w ∧ K w)) : wpM P r N c Q e ds M (inM m) w1 (KW n w1) := fun w hm hc hg => h w hm (chg_all hC hc) ⟨hL.upd k m m' w1 w hJ hc (hM w hm) hn, hKK w1 w hK hg⟩
theorem QM.closeJ {X : Exit} (hL : JL n J Jx) (hC : Chg all0 w0 w1) (hJ : J k m w1) (hK : K w1) (hKK : ∀ w w', K w → KW n w w' → K w') (m' : Mem0) (hM : ∀ w, Mem w M → Mem w m') (hn : ∀ p ∈ m', (w1.heap.size ≤ p.1 ∨ ∃ q ∈ m, q.1 = p.1) ∧ wlk p.2 = false)
    (h : QM N Q X e ds M all0 w0 (fun w => J k m' w ∧ K w)) : QM N Q X e ds M (inM m) w1 (KW n w1) := fun w hm hc hg => h w hm (chg_all hC hc) ⟨hL.upd k m m' w1 w hJ hc (hM w hm) hn, hKK w1 w hK hg⟩
theorem QM.closeX {X : Exit} (hL : JL n J Jx) (hC : Chg all0 w0 w1) (hJ : Jx w1) (hK : K w1) (hKK : ∀ w w', K w → KW n w w' → K w')
    (h : QM N Q X e ds M all0 w0 (fun w => Jx w ∧ K w)) : QM N Q X e ds M no w1 (KW n w1) := fun w hm hc hg => h w hm (chg_all hC hc) ⟨hL.endx hJ hc, hKK w1 w hK hg⟩
theorem LM.yieldJ {l : Nat} {g : Operand} {la : List Operand} {args : List Value} {ats : Array TypeId} (hL : JL n J Jx) (hg : ev e g = some (.func (.yield l) #[] #[])) (ha : evs e la = some args)
    (hy : ∀ m w, J k m w → YR P l args.toArray w (fun b w2 => ((b = true ∧ J (k + 1) m w2) ∨ (b = false ∧ Jx w2)) ∧ KW n w w2)) (hC : Chg all0 w0 w1) (hJ : J k m w1) (hK : K w1) (hKK : ∀ w w', K w → KW n w w' → K w')
    (Lo m' MA : Mem0) (hMA : MA = Lo ++ m') (hM : ∀ w, Mem w M → Mem w MA) (hLo : ∀ p ∈ Lo, n ≤ p.1 ∧ wlk p.2 = true) (hn : ∀ p ∈ m', (w1.heap.size ≤ p.1 ∨ ∃ q ∈ m, q.1 = p.1) ∧ wlk p.2 = false)
    (ht : ∀ w2, Mem w2 MA → Chg all0 w0 w2 → J (k + 1) m' w2 → K w2 → LM P r N ops Q rest ((d, .bool true) :: e) ds MA (inM m') w2 (KW n w2))
    (hf : ∀ w2, Mem w2 Lo → Chg all0 w0 w2 → Jx w2 → K w2 → LM P r N ops Q rest ((d, .bool false) :: e) ds Lo no w2 (KW n w2)) (hd : Nat.blt d N = true := by rfl) :
    LM P r N ops Q (⟨some d, .call { callee := .value g, args := la.toArray, argTypes := ats }, ty, pos, after, none⟩ :: rest) e ds M (inM m) w1 (KW n w1) := fun w hm hc hgw a hfr hdm => by
  subst hMA
  refine wpListIn_plain rfl fun Kc hKc => ?_
  refine ⟨fun _ _ => trivial, ?_⟩
  have hm2 := hM w hm
  have hj := hL.upd k m m' w1 w hJ hc (hm2.sub (List.sublist_append_right _ _)) hn
  obtain ⟨fn, tmps, assign, body, h1, h2⟩ := hy m' w hj
  have hrun : (execOp a.eval ⟨some d, .call { callee := .value g, args := la.toArray, argTypes := ats }, ty, pos, after, none⟩).run P w = .ok (.round l fn tmps assign body) w := by
    simp [execOp, resolve, hfr.eval hg, Deferred.ofValue, invoke, evs_map (ρ := a.eval) (fun x u hx => hfr.eval hx) ha]
    exact h1
  rw [semAt_nd rfl, hrun]
  refine ⟨fun h => (by cases h), ?_⟩
  have h3 : RoundIn (Wd r) 0 P l fn tmps assign body w (fun en w' => ∃ b, en = .returned (.bool b) ∧ ((b = true ∧ J (k + 1) m' w') ∨ (b = false ∧ Jx w')) ∧ KW n w w') := h2
  refine RoundIn.mono h3 ?_
  rintro en w' ⟨b, rfl, hb, hkw⟩
  have hC' : Chg all0 w0 w' := chg_all (chg_all hC hc) (kw_chg hkw)
  have hK' : K w' := hKK w w' (hKK w1 w hK hgw) hkw
  have hLo' : ∀ p ∈ Lo, w'.heap[p.1]? = some p.2 := fun p hp => hkw.same p.1 p.2 (hLo p hp).1 (hm2.2 p (List.mem_append_left _ hp)) (hLo p hp).2
  rcases hb with ⟨rfl, hb⟩ | ⟨rfl, hb⟩
  · have hm3 : Mem w' (Lo ++ m') := ⟨hm2.1, fun p hp => by
      rcases List.mem_append.1 hp with hp | hp
      · exact hLo' p hp
      · exact (hL.mem _ _ _ hb).2 p hp⟩
    exact hKc _ _ (ht w' hm3 hC' hb hK' w' hm3 (Chg.refl _ w') (KW.refl n w') _ (hfr.put hd _) hdm)
  · have hm3 : Mem w' Lo := ⟨(hm2.sub (List.sublist_append_left _ _)).1, hLo'⟩
    exact hKc _ _ (hf w' hm3 hC' hb hK' w' hm3 (Chg.refl _ w') (KW.refl n w') _ (hfr.put hd _) hdm)
end

/-! ### ... in a round of a loop of the iterator's own -/
section
variable {P : Program} {r : Option Nat} {N : Nat} {Q : Exit → Act → World → Prop} {e : Env} {ds : List Nat} {M m : Mem0} {w0 w1 : World} {n k : Nat} {J : Nat → Mem0 → World → Prop} {Jx K K2 : World → Prop}
theorem wpM.openJ2 {c : Code} (h : ∀ w1, Mem w1 M → Chg all0 w0 w1 → J k m w1 → (K w1 ∧ K2 w1) → wpM P r N c Q e ds M (inM m) w1 (KW n w1)) : wpM P r N c Q e ds M all0 w0 (fun w => (J k m w ∧ K w) ∧ K2 w) :=
  fun w hm hc hg => h w hm hc hg.1.1 ⟨hg.1.2, hg.2⟩ w hm (Chg.refl _ w) (KW.refl n w)
theorem QM.closeJ2 {X : Exit} (hL : JL n J Jx) (hC : Chg all0 w0 w1) (hJ : J k m w1) (hK : K w1 ∧ K2 w1) (hKK : ∀ w w', (K w ∧ K2 w) → KW n w w' → K w' ∧ K2 w') (m' : Mem0) (hM : ∀ w, Mem w M → Mem w m') (hn : ∀ p ∈ m', (w1.heap.size ≤ p.1 ∨ ∃ q ∈ m, q.1 = p.1) ∧ wlk p.2 = false)
    (h : QM N Q X e ds M all0 w0 (fun w => (J k m' w ∧ K w) ∧ K2 w)) : QM N Q X e ds M (inM m) w1 (KW n w1) := fun w hm hc hg => h w hm (chg_all hC hc) ⟨⟨hL.upd k m m' w1 w hJ hc (hM w hm) hn, (hKK w1 w hK hg).1⟩, (hKK w1 w hK hg).2⟩
theorem QM.closeX2 {X : Exit} (hL : JL n J Jx) (hC : Chg all0 w0 w1) (hJ : Jx w1) (hK : K w1 ∧ K2 w1) (hKK : ∀ w w', (K w ∧ K2 w) → KW n w w' → K w' ∧ K2 w')
    (h : QM N Q X e ds M all0 w0 (fun w => (Jx w ∧ K w) ∧ K2 w)) : QM N Q X e ds M no w1 (KW n w1) := fun w hm hc hg => h w hm (chg_all hC hc) ⟨⟨hL.endx hJ hc, (hKK w1 w hK hg).1⟩, (hKK w1 w hK hg).2⟩
theorem gl_j (hL : JL n J Jx) {q : Nat} (hq : n ≤ q) (hK : Gl q K) : Gl q (fun w => J k m w ∧ K w) := fun w1 w2 g b => ⟨hL.bk _ _ _ _ g.1 (b.mono hq), hK _ _ g.2 b⟩
theorem gl_x (hL : JL n J Jx) {q : Nat} (hq : n ≤ q) (hK : Gl q K) : Gl q (fun w => Jx w ∧ K w) := fun w1 w2 g b => ⟨hL.bkx _ _ g.1 (b.mono hq), hK _ _ g.2 b⟩
theorem kk_top (n : Nat) : ∀ w w', top w → KW n w w' → top w' := fun _ _ _ _ => trivial
theorem kk_and {n1 : Nat} {W1 : World} (hK : ∀ w w', K w → KW n w w' → K w') (hn : n ≤ n1) : ∀ w w', (K w ∧ KW n1 W1 w) → KW n w w' → K w' ∧ KW n1 W1 w' := fun w w' h k => ⟨hK w w' h.1 k, h.2.trans k hn⟩
theorem pn_nil {Φ : Nat × Obj → Prop} : ∀ p ∈ ([] : Mem0), Φ p := fun p hp => by cases hp
theorem pn_cons {b : Nat} {o : Obj} {m' : Mem0} (h : w1.heap.size ≤ b ∨ ∃ q ∈ m, q.1 = b) (hw : wlk o = false) (k : ∀ p ∈ m', (w1.heap.size ≤ p.1 ∨ ∃ q ∈ m, q.1 = p.1) ∧ wlk p.2 = false) : ∀ p ∈ (b, o) :: m', (w1.heap.size ≤ p.1 ∨ ∃ q ∈ m, q.1 = p.1) ∧ wlk p.2 = false := fun p hp => by
  rcases List.mem_cons.1 hp with rfl | hp
  · exact ⟨h, hw⟩
  · exact k p hp
theorem lo_cons {b : Nat} {o : Obj} {m' : Mem0} (h : n ≤ b) (hw : wlk o = true) (k : ∀ p ∈ m', n ≤ p.1 ∧ wlk p.2 = true) : ∀ p ∈ (b, o) :: m', n ≤ p.1 ∧ wlk p.2 = true := fun p hp => by
  rcases List.mem_cons.1 hp with rfl | hp
  · exact ⟨h, hw⟩
  · exact k p hp
theorem lo_dm {m' : Mem0} {ds : List Nat} (h : ∀ D ∈ ds, n ≤ D) (k : ∀ p ∈ m', n ≤ p.1 ∧ wlk p.2 = true) : ∀ p ∈ dM ds ++ m', n ≤ p.1 ∧ wlk p.2 = true := fun p hp => by
  rcases List.mem_append.1 hp with hp | hp
  · obtain ⟨D, hD, rfl⟩ := List.mem_map.1 hp; exact ⟨h D hD, rfl⟩
  · exact k p hp
end

/-! ### A loop whose rounds leave marks -/
theorem wpE.loopD {P : Program} {r : Option Nat} {N : Nat} {Q : Exit → Act → World → Prop} {e : Env} {ds : List Nat} {w : World} {α : Type} {c : Code} (E : α → Env) (DS : α → List Nat) (I : α → World → Prop) (μ : α → Nat) (x0 : α) (hs : Sub e (E x0)) (hd0 : DS x0 = ds) (h0 : I x0 w)
    (round : ∀ x w, I x w → wpE P r N c (Exit.then (fun a' w' => ∃ y, Fr N (E y) a' ∧ Dm (DS y) a' ∧ I y w' ∧ μ y < μ x) Q) (E x) (DS x) w) : wpE P r N (.loop c) Q e ds w := by
  intro a hf hd
  subst hd0
  classical
  let J : Act → World → Nat → Prop := fun a w n => ∃ x, Fr N (E x) a ∧ Dm (DS x) a ∧ I x w ∧ μ x = n
  let M : Act → World → Nat := fun a w => if h : ∃ n, J a w n then Classical.choose (exists_least (J a w) h) else 0
  have hM : ∀ a w, (∃ n, J a w n) → J a w (M a w) ∧ ∀ n, J a w n → M a w ≤ n := by
    intro a w h
    have e : M a w = Classical.choose (exists_least (J a w) h) := dif_pos h
    rw [e]
    exact Classical.choose_spec (exists_least (J a w) h)
  refine wpIn_loop (fun a w => ∃ n, J a w n) M ⟨μ x0, x0, hf.sub hs, hd, h0, rfl⟩ ?_
  intro a w hn
  obtain ⟨⟨x, hf, hd, hI, hx⟩, hmin⟩ := hM a w hn
  refine wpIn_mono (round x w hI a hf hd) ?_
  intro x1 a1 w1 hq
  cases x1 with
  | normal =>
    obtain ⟨y, h1, h2, h3, h4⟩ := hq
    have hj : ∃ n, J a1 w1 n := ⟨μ y, y, h1, h2, h3, rfl⟩
    refine ⟨hj, ?_⟩
    have := (hM a1 w1 hj).2 (μ y) ⟨y, h1, h2, h3, rfl⟩
    omega
  | _ => exact hq
def agD (N : Nat) (S : Nat → Prop) (w0 : World) {α : Type} (E : α → Env) (MM : α → Mem0) (GG : α → World → Prop) (I : α → Prop) (μ : α → Nat) (x : α) (a' : Act) (w' : World) : Prop :=
  ∃ (z : α × List Nat), Fr N (E z.1) a' ∧ Dm z.2 a' ∧ ((Mem w' (dM z.2 ++ MM z.1) ∧ ∀ D ∈ z.2, w0.heap.size ≤ D) ∧ Chg S w0 w' ∧ GG z.1 w' ∧ I z.1) ∧ μ z.1 < μ x
section
variable {P : Program} {r : Option Nat} {N : Nat} {Q : Exit → Act → World → Prop} {e : Env} {ds : List Nat} {M : Mem0} {S : Nat → Prop} {w0 : World} {G : World → Prop}
theorem wpM.loopD {α : Type} {c : Code} (F : α → Env) (K : Env) (MM : α → Mem0) (GG : α → World → Prop) (I : α → Prop) (μ : α → Nat) (x0 : α) (hs : Sub e (F x0 ++ K)) (hM : SubM M (MM x0)) (hG : ∀ w, G w → GG x0 w) (h0 : I x0)
    (round : ∀ x ds, (∀ D ∈ ds, w0.heap.size ≤ D) → I x → wpM P r N c (Exit.then (agD N S w0 (fun x => F x ++ K) MM GG I μ x) Q) (F x ++ K) ds (dM ds ++ MM x) S w0 (GG x)) :
    wpM P r N (.loop c) Q e [] M S w0 G := fun w hm hc hg =>
  wpE.loopD (α := α × List Nat) (fun z => F z.1 ++ K) (fun z => z.2) (fun z w => (Mem w (dM z.2 ++ MM z.1) ∧ ∀ D ∈ z.2, w0.heap.size ≤ D) ∧ Chg S w0 w ∧ GG z.1 w ∧ I z.1) (fun z => μ z.1) (x0, []) hs rfl
    ⟨⟨hM.mem w hm, fun D h => by cases h⟩, hc, hG w hg, h0⟩ (fun z w ⟨h1, h2, h3, h4⟩ => round z.1 z.2 h1.2 h4 w h1.1 h2 h3)
theorem QM.againD {α : Type} {F : α → Env} {K : Env} {MM : α → Mem0} {GG : α → World → Prop} {I : α → Prop} {μ : α → Nat} {x : α} (y : α) (hs : Sub e (F y ++ K)) (hM : SubM M (dM ds ++ MM y)) (hD : ∀ D ∈ ds, w0.heap.size ≤ D) (hG : ∀ w, G w → GG y w) (hI : I y) (hm : μ y < μ x) :
    QM N (Exit.then (agD N S w0 (fun x => F x ++ K) MM GG I μ x) Q) .normal e ds M S w0 G := fun w hw hc hg _ hf hd => ⟨(y, ds), hf.sub hs, hd, ⟨⟨hM.mem w hw, hD⟩, hc, hG w hg, hI⟩, hm⟩
end
instance {M M1 : Mem0} {ds : List Nat} [h : Spl M (dM ds) M1] : SplD M ds M1 := ⟨h.perm⟩
theorem hd_cons {w0 : World} {D : Nat} {ds : List Nat} (h : w0.heap.size ≤ D) (k : ∀ D ∈ ds, w0.heap.size ≤ D) : ∀ D' ∈ D :: ds, w0.heap.size ≤ D' := fun D' hD => by
  rcases List.mem_cons.1 hD with rfl | hD
  · exact h
  · exact k D' hD
theorem hd_nil {w0 : World} : ∀ D ∈ ([] : List Nat), w0.heap.size ≤ D := fun D h => by cases h

theorem shut_bk {m : Nat} : ∀ (ds : List Nat) (w : World) (M1 : Mem0), Mem w (dM ds ++ M1) → (∀ D ∈ ds, m ≤ D) → Bk m w (shut ds w)
  | [], w, M1, hm, _ => .refl _ _
  | D :: ds, w, M1, hm, hD => by
    have hm' : Mem w ((D, .deferred (some [])) :: (dM ds ++ M1)) := hm
    have h1 := hm'.get (i := 0) rfl
    have h2 := (hm'.set (i := 0) rfl (World.putObj_heap_same (Array.getElem?_eq_some_iff.1 h1).1) (chg_put (.deferred none))).tail
    exact (Bk.put h1 (hD D (List.mem_cons_self ..)) rfl rfl).trans (shut_bk ds _ M1 h2 (fun D' h => hD D' (List.mem_cons_of_mem _ h)))
/-- An iterator is left: what is known of the rounds stands. -/
theorem QM.leaveDJ {P : Program} {fn : Func} {N : Nat} {e : Env} {ds : List Nat} {M M1 : Mem0} {w0 : World} {G : World → Prop} {R : Value → World → Prop} {vs : List Value} {x : Exit} {m : Nat} (hx : x = .ret ∨ x = .normal) (rs : List ResultVar) (hr : fn.results = rs.toArray) (h : resE e rs = some vs) (hw : m = w0.heap.size) (hD : ∀ D ∈ ds, w0.heap.size ≤ D)
    (hG : Gl m G) [k : SplD M ds M1] (hR : ∀ w, Mem w M1 → G w → R (resV vs) w) : QM N (fnPost P fn R) x e ds M all0 w0 G := fun w hm hc hg => by
  have hm2 := hm.perm k.perm
  obtain ⟨h1, h2, h3⟩ := shut_mem ds w M1 hm2 hc hD
  have h4 := hR _ h2 (hG _ _ hg (shut_bk ds w M1 hm2 (by rw [hw]; exact hD)))
  rcases hx with rfl | rfl
  · exact .leave rs hr h h1 h4
  · exact .leaveN rs hr h h1 h4

theorem Sl.wlk {α : Type} {f : α → List Value} {E s n0 : Nat} {xs : List α} {v : Value} {m : Mem0} (h : Sl f E s n0 xs v m) : ∀ p ∈ m, Go.Eng.wlk p.2 = false := fun p hp => by
  rcases h with ⟨_, rfl, _⟩ | ⟨b, cap, junk, _, _, rfl, _⟩
  · cases hp
  · rw [List.mem_singleton] at hp; subst hp; rfl
theorem mm_nil {M0 : Mem0} : ∀ p ∈ ([] : Mem0), p ∈ M0 ∨ wlk p.2 = false := fun p hp => by cases hp
theorem mm_app {m M M0 : Mem0} (h : ∀ p ∈ m, wlk p.2 = false) (k : ∀ p ∈ M, p ∈ M0 ∨ wlk p.2 = false) : ∀ p ∈ m ++ M, p ∈ M0 ∨ wlk p.2 = false := fun p hp => by
  rcases List.mem_append.1 hp with hp | hp
  · exact .inr (h p hp)
  · exact k p hp
/-- An iterator's contract out of its body. -/
theorem SeqCP.enter {P : Program} {f : FuncId} {fn : Func} {c : Code} {lb : List Value} {A : List (Array Value)} {Rd : World → Prop} {fin : Prop}
    (hf : P.funcs[f]? = some fn) (hb : fn.body = some c) {N : Nat} (hN : fn.ntmps = N) (hl : Nat.ble (lb.length + 1) N = true)
    (h : ∀ (l n : Nat) (J : Nat → Mem0 → World → Prop) (Jx : World → Prop) (w0 : World), n = w0.heap.size → (fin ∨ ∀ m w, ¬ J A.length m w) → (∀ k m w, J k m w → Rd w) → JL n J Jx →
      (∀ k a m w, A[k]? = some a → J k m w → YR P l a w (fun b w2 => ((b = true ∧ J (k + 1) m w2) ∨ (b = false ∧ Jx w2)) ∧ KW n w w2)) →
      wpM P none N c (fnPost P fn (fun _ w' => J A.length [] w' ∨ Jx w')) (args0 0 (.func (.yield l) #[] #[] :: lb)) [] [] all0 w0 (fun w => J 0 [] w ∧ top w)) : SeqCP P f lb.toArray A Rd fin := fun l J Jx W hfin hJr hL hy h0 => by
  have h1 : (#[Value.func (.yield l) #[] #[]] ++ lb.toArray) = (Value.func (.yield l) #[] #[] :: lb).toArray := by simp
  rw [h1]
  refine Ret.enterG hf hb hN (by simpa using hl) [] all0 (fun w => J 0 [] w ∧ top w) (Mem.nil W) ⟨h0, trivial⟩ ?_
  exact h l W.heap.size J Jx W rfl hfin hJr hL hy

/-! ### A call that changes one block among what may be carried out early or late -/
def AltO (b : Nat) (Mc : Mem0) (os : List Obj) (w : World) : Prop := ∃ o ∈ os, Mem w ((b, o) :: Mc)
instance (b : Nat) (Mc : Mem0) (os : List Obj) {G : World → Prop} [GS G] : GS (fun w => G w ∧ AltO b Mc os w) where
  ext := fun w w' ⟨h, o, ho, hm⟩ k => ⟨GS.ext w w' h k, o, ho, hm.ext k⟩
section
variable {P : Program} {r : Option Nat} {N : Nat} {Q : Exit → Act → World → Prop} {e : Env} {ds : List Nat} {M : Mem0} {S : Nat → Prop} {w0 : World} {G : World → Prop}
theorem wpM.toAltO {c : Code} (b : Nat) (os : List Obj) {o : Obj} {Mc : Mem0} [hM : Fnd M b o Mc] (ho : o ∈ os) (h : (∀ q ∈ Mc, q.1 ≠ b) → wpM P r N c Q e ds Mc S w0 (fun w => G w ∧ AltO b Mc os w)) : wpM P r N c Q e ds M S w0 G := fun w hm hc hg => by
  have hm' := hm.perm hM.perm
  refine h (fun q hq he => ?_) w hm'.tail hc ⟨hg, o, ho, hm'⟩
  have hnd := hm'.1
  simp only [List.map_cons, List.nodup_cons] at hnd
  exact hnd.1 (he ▸ List.mem_map_of_mem hq)
variable {ops : Array Oper} {lo : List Oper} {l : List (Nat × Nat)} {op : Op} {ty : TypeId} {pos : String} {after : Array Edge} {d i : Nat}
theorem LM.ofAltO {b : Nat} {o : Obj} {Mc : Mem0} (h : LM P r N ops Q lo e ds ((b, o) :: Mc) S w0 G) : LM P r N ops Q lo e ds Mc S w0 (fun w => G w ∧ AltO b Mc [o] w) := fun w hm hc ⟨hg, o', ho, hmo⟩ => by
  rw [List.mem_singleton] at ho; subst ho; exact h w hmo hc hg
theorem QM.ofAltO {X : Exit} {b : Nat} {o : Obj} {Mc : Mem0} (h : QM N Q X e ds ((b, o) :: Mc) S w0 G) : QM N Q X e ds Mc S w0 (fun w => G w ∧ AltO b Mc [o] w) := fun w hm hc ⟨hg, o', ho, hmo⟩ => by
  rw [List.mem_singleton] at ho; subst ho; exact h w hmo hc hg
theorem LD.cWA [GT G] {f : FuncId} {args : Array Value} {b : Nat} {os : List Obj} {o' : Obj} {Mc : Mem0} {v : Value} {g : Option (Nat × Bool)} (hi : ops[i]? = some ⟨some d, op, ty, pos, after, g⟩) (hg : Wtd ops e g true) (hc : ∀ w, OpC P op ty e w f args) (hMc : ∀ q ∈ Mc, q.1 ≠ b) (hb : b < w0.heap.size → S b) (ho' : o' ∈ os)
    (h : ∀ o ∈ os, wlk o = false ∧ ∀ w, Mem w ((b, o) :: Mc) → Chg S w0 w → G w → Ret P f args w (WrP b v o' w))
    (hk : LD P r N ops Q l ((d, v) :: e) ds Mc S w0 (fun w => G w ∧ AltO b Mc [o'] w)) (hnd : nd op = true := by rfl) (hd : Nat.blt d N = true := by rfl) :
    LD P r N ops Q ((i, 2) :: l) e ds Mc S w0 (fun w => G w ∧ AltO b Mc os w) := fun a hf hdm => by
  simp only [LDA, hi]
  intro w ⟨hm, hcg, hG, o, hos, hmo⟩
  unfold wpOpIn
  rw [hi]
  simp only
  rw [if_pos (hg.wanted (o := ⟨some d, op, ty, pos, after, g⟩) hf)]
  refine ⟨fun _ _ => trivial, ?_⟩
  rw [semAt_nd hnd, hc w a.eval (fun x u hx => hf.eval hx) _ _ _ _]
  refine ⟨fun h => (by cases h), ?_⟩
  have h2 : CallsIn Fence.wide 0 P f args w (fun en w' => ∃ u, en = .returned u ∧ WrP b v o' w u w') := callsIn_wide.2 ((h o hos).2 w hmo hcg hG)
  have h3 : CallsIn (Wd r) 0 P f args w (fun en w' => ∃ u, en = .returned u ∧ WrP b v o' w u w') := h2
  refine CallsIn.mono h3 ?_
  rintro en w' ⟨u, rfl, rfl, hch, hbo⟩
  refine ⟨Cls Mc S w0 (fun w => G w ∧ AltO b Mc [o'] w), fun w hw => ⟨hw.1, hw.2.1, hw.2.2.1, ?_⟩, ⟨hm.keep hch hMc, hcg.step hch (fun q hq hqb => by rw [hqb] at hq ⊢; exact hb hq), GT.chg _ w w' hG hch (.one hch (hmo.get (i := 0) rfl) (h o hos).1), o', List.mem_singleton.2 rfl, hmo.set (i := 0) rfl hbo hch⟩, hk _ (hf.put hd _) hdm⟩
  obtain ⟨o2, h4, h5⟩ := hw.2.2.2
  rw [List.mem_singleton] at h4; subst h4; exact ⟨_, ho', h5⟩
end

/-! ### A new slice, as a slice of the call's own -/
section
variable {P : Program} {r : Option Nat} {N : Nat} {Q : Exit → Act → World → Prop} {e : Env} {ds : List Nat} {M : Mem0} {S : Nat → Prop} {w0 : World} {G : World → Prop}
variable {ops : Array Oper} {l : List Oper} {ty : TypeId} {pos : String} {after : Array Edge} {d : Nat} {t : TypeId} {x y : Operand}
theorem LM.makeS [GS G] {α : Type} {f : α → List Value} {E s : Nat} {inf : TypeInfo} {z : Value} {a0 : α} {n : Int} {k k' : IntKind} (hU : P.underlying t = some (.slice E)) (hI : ∀ w, (typeInfo E).run P w = .ok inf w) (hz : inf.zero = some z) (hs : inf.size = s) (hs0 : Nat.blt 0 s = true) (hza : z.cells = (f a0).toArray) (hf : ∀ a, (f a).length = s) (hd : Nat.blt d N = true)
    (hx : ev e x = some (.int k n)) (hy : ev e y = some (.int k' n)) (h0 : 0 ≤ n) (hb : (inf.bytes : Int) * n ≤ 281474976710656) (h63 : n ≤ 9223372036854775807) (hmx : n.toNat ≤ maxLen)
    (h : ∀ ad c m, c = n.toNat → Sl f E s w0.heap.size (List.replicate c a0) (.slice ad c c) m → LM P r N ops Q l ((d, .slice ad c c) :: e) ds (m ++ M) S w0 G) :
    LM P r N ops Q (⟨some d, .makeSlice t x y, ty, pos, after, none⟩ :: l) e ds M S w0 G :=
  LM.make hU hI hz hs hs0 hza hf hd hx hy h0 hb h63 (fun b hb => h (some ⟨b, 0, none⟩) n.toNat [(b, .cells (arr f (List.replicate n.toNat a0) []) E (0, 0))] rfl (.inr ⟨b, n.toNat, [], hb, by rw [List.length_replicate], rfl, by rw [List.length_replicate]; exact Nat.le_refl _, hmx, by rw [List.length_replicate]; simp⟩))
end

section range
variable {P : Program} {N : Nat} {Q : Exit → Act → World → Prop} {e : Env} {ds : List Nat} {M : Mem0} {S : Nat → Prop} {w0 : World} {G : World → Prop}
variable {g : Operand} {ps : Array Tmp} {assign body : Code} {gf : FuncId} {lb : Array Value} {A : List (Array Value)} {Rd : World → Prop} {fin : Prop} {α β : Type}

/-- 'for .. := range g { .. }', outermost; a round knows where its own loops' objects begin. -/
theorem wpM.rangeJ (hE : Enters P gf) (hg : ev e g = some (.func (.func gf) #[] lb)) (hseq : SeqC P gf lb A Rd fin)
    (MM : Nat → α → Mem0) (GG : Nat → α → World → Prop) (I : Nat → α → Prop) (MX : β → Mem0) (GX : β → World → Prop) (IX : Code → β → Prop) (x0 : α)
    (hM0 : MM 0 x0 = M) (hG0 : ∀ w, G w → GG 0 x0 w) (hI0 : I 0 x0) (hps : ps.all (fun p => Nat.blt p N) = true) (hA : ∀ (k : Nat) (av : Array Value), A[k]? = some av → av.size = ps.size)
    (hfin : fin ∨ ∀ x, ¬ I A.length x)
    (hrd : ∀ k x w, Mem w (MM k x) → Chg S w0 w → GG k x w → I k x → Rd w)
    (hGG : ∀ w, G w → ∀ k x, Gl w.heap.size (GG k x)) (hGX : ∀ w, G w → ∀ z, Gl w.heap.size (GX z))
    (hMM : ∀ k x, I k x → ∀ p ∈ MM k x, p ∈ MM 0 x0 ∨ wlk p.2 = false) (hMX : ∀ c z, IX c z → ∀ p ∈ MX z, p ∈ MM 0 x0 ∨ wlk p.2 = false)
    (hbody : ∀ k av x l D rc n W1, (∃ w, G w ∧ w.heap.size ≤ n) → w0.heap.size ≤ D → w0.heap.size ≤ l → (∀ k x, Pl l rc (fun w => GG k x w ∧ KW n W1 w)) → rc.defers = D → A[k]? = some av → I k x →
      wpM P (some l) N assign (Exit.then (asK P l rc body (rdQ l rc [(D, .deferred (some []))] S w0 (KW n W1) (MM (k + 1)) (GG (k + 1)) (I (k + 1)) MX GX IX)) never)
      (parE (ps.toList.zip av.toList) e) [] ((l, .loop rc) :: ([(D, .deferred (some []))] ++ MM k x)) S w0 (fun w => GG k x w ∧ KW n W1 w))
    (hdone : ∀ x D, w0.heap.size ≤ D → I A.length x → QM N Q .normal e (D :: ds) ([(D, .deferred (some []))] ++ MM A.length x) S w0 (GG A.length x))
    (hret : ∀ z D, w0.heap.size ≤ D → IX .ret z → QM N Q .ret e (D :: ds) ([(D, .deferred (some []))] ++ MX z) S w0 (GX z))
    (hexit : ∀ id z D, w0.heap.size ≤ D → IX (.exit id) z → QM N Q (.exit id) e (D :: ds) ([(D, .deferred (some []))] ++ MX z) S w0 (GX z)) :
    wpM P none N (.rangeFunc g ps assign body) Q e ds M S w0 G := fun w hm hc hgw a hf hd => by
  refine wpIn_rangeFunc ?_
  intro fn _
  have hbk : Bk w.heap.size w ((w.alloc (.deferred (some []))).alloc (.loop (recOf fn a.tmps ps assign body w.heap.size))) := (Ext.bk (chg_alloc w _)).trans (Ext.bk (chg_alloc _ _))
  have hm1 : Mem ((w.alloc (.deferred (some []))).alloc (.loop (recOf fn a.tmps ps assign body w.heap.size))) ((w.heap.size + 1, .loop (recOf fn a.tmps ps assign body w.heap.size)) :: ([(w.heap.size, .deferred (some []))] ++ MM 0 x0)) := by
    rw [hM0]
    have := ((hm.alloc (.deferred (some []))).alloc (.loop (recOf fn a.tmps ps assign body w.heap.size)))
    rwa [World.size_alloc] at this
  generalize hW : (w.alloc (.deferred (some []))).alloc (.loop (recOf fn a.tmps ps assign body w.heap.size)) = W at *
  have hsz : W.heap.size = w.heap.size + 2 := by rw [← hW]; simp
  have h0 := hc.size
  have hcW : Chg S w0 W := hc.step hbk.chg (fun x hx hn => by omega)
  refine ⟨w.heap.size + 1, [mark w.heap.size], W, _, W, gf, #[.func (.yield (w.heap.size + 1)) #[] #[]] ++ lb, W, ?_, run_rangeCall hf hg _ _, fun _ _ => trivial, ?_, fun h => (by cases h), ?_⟩
  · rw [← hW]; exact run_enterLoop_outer fn a.tmps ps assign body
  · exact hE _ _
  · refine range_end (rc := recOf fn a.tmps ps assign body w.heap.size) (ds' := w.heap.size :: ds) (MM := MM) (GG := GG) (I := I) (MX := MX) (GX := GX) (IX := IX) rfl rfl (by omega) ⟨hf.1, hf.2⟩ (by unfold Dm at *; simp [hd, mark]) (fun k x w1 w2 g b => hGG w hgw k x w1 w2 g (b.mono (by omega))) (fun z w1 w2 g b => hGX w hgw z w1 w2 g (b.mono (by omega)))
      (range_core hf (l := w.heap.size + 1) (D := w.heap.size) (m := w.heap.size) (fn := fn) (Dl := [(w.heap.size, .deferred (some []))]) (W := W) (by omega) (by omega) (by omega)
      (fun p hp => by simp at hp; subst hp; simp only; omega) hseq MM GG I MX GX IX x0 hA hps hm1 hcW
      (hGG w hgw 0 x0 _ _ (hG0 w hgw) hbk) hI0 hfin hrd (hGG w hgw) (hGX w hgw)
      (fun k x hI p hp => (hMM k x hI p hp).imp (fun h => by rw [hM0] at h; have := hm.lt h; omega) id) (fun c z hI p hp => (hMX c z hI p hp).imp (fun h => by rw [hM0] at h; have := hm.lt h; omega) id)
      (fun k av x W1 hav hI => hbody k av x _ _ _ _ W1 ⟨w, hgw, by omega⟩ h0 (by omega) (fun k x v hv hl => ⟨hGG w hgw k x _ _ hv.1 (Bk.put hl (by omega) rfl rfl), hv.2.put (by omega) _⟩) rfl hav hI))
      (fun x hI => hdone x _ h0 hI) (fun z hI => hret z _ h0 hI) (fun id z hI => hexit id z _ h0 hI)

/-- ... within a round of loop l0. -/
theorem wpM.rangeInJ {l0 : Nat} {rc0 : Loop} (hl0 : (l0, .loop rc0) ∈ M) (hE : Enters P gf) (hg : ev e g = some (.func (.func gf) #[] lb)) (hseq : SeqC P gf lb A Rd fin)
    (MM : Nat → α → Mem0) (GG : Nat → α → World → Prop) (I : Nat → α → Prop) (MX : β → Mem0) (GX : β → World → Prop) (IX : Code → β → Prop) (x0 : α)
    (hM0 : MM 0 x0 = M) (hG0 : ∀ w, G w → GG 0 x0 w) (hI0 : I 0 x0) (hps : ps.all (fun p => Nat.blt p N) = true) (hA : ∀ (k : Nat) (av : Array Value), A[k]? = some av → av.size = ps.size)
    (hfin : fin ∨ ∀ x, ¬ I A.length x)
    (hrd : ∀ k x w, Mem w (MM k x) → Chg S w0 w → GG k x w → I k x → Rd w)
    (hGG : ∀ w, G w → ∀ k x, Gl w.heap.size (GG k x)) (hGX : ∀ w, G w → ∀ z, Gl w.heap.size (GX z))
    (hMM : ∀ k x, I k x → ∀ p ∈ MM k x, p ∈ MM 0 x0 ∨ wlk p.2 = false) (hMX : ∀ c z, IX c z → ∀ p ∈ MX z, p ∈ MM 0 x0 ∨ wlk p.2 = false)
    (hbody : ∀ k av x l rc n W1, (∃ w, G w ∧ w.heap.size ≤ n) → w0.heap.size ≤ l → (∀ k x, Pl l rc (fun w => GG k x w ∧ KW n W1 w)) → rc.defers = rc0.defers → A[k]? = some av → I k x →
      wpM P (some l) N assign (Exit.then (asK P l rc body (rdQ l rc [] S w0 (KW n W1) (MM (k + 1)) (GG (k + 1)) (I (k + 1)) MX GX IX)) never)
      (parE (ps.toList.zip av.toList) e) [] ((l, .loop rc) :: ([] ++ MM k x)) S w0 (fun w => GG k x w ∧ KW n W1 w))
    (hdone : ∀ x, I A.length x → QM N Q .normal e ds ([] ++ MM A.length x) S w0 (GG A.length x))
    (hret : ∀ z, IX .ret z → QM N Q .ret e ds ([] ++ MX z) S w0 (GX z))
    (hexit : ∀ id z, IX (.exit id) z → QM N Q (.exit id) e ds ([] ++ MX z) S w0 (GX z)) :
    wpM P (some l0) N (.rangeFunc g ps assign body) Q e ds M S w0 G := fun w hm hc hgw a hf hd => by
  refine wpIn_rangeFunc ?_
  intro fn _
  have hget := hm.2 _ hl0
  have hbk : Bk w.heap.size w (w.alloc (.loop (recOf fn a.tmps ps assign body rc0.defers))) := Ext.bk (chg_alloc w _)
  have hm1 : Mem (w.alloc (.loop (recOf fn a.tmps ps assign body rc0.defers))) ((w.heap.size, .loop (recOf fn a.tmps ps assign body rc0.defers)) :: ([] ++ MM 0 x0)) := by
    rw [hM0]
    exact hm.alloc (.loop (recOf fn a.tmps ps assign body rc0.defers))
  generalize hW : w.alloc (.loop (recOf fn a.tmps ps assign body rc0.defers)) = W at *
  have hsz : W.heap.size = w.heap.size + 1 := by rw [← hW]; simp
  have h0 := hc.size
  have hcW : Chg S w0 W := hc.step hbk.chg (fun x hx hn => by omega)
  refine ⟨w.heap.size, [], W, _, W, gf, #[.func (.yield w.heap.size) #[] #[]] ++ lb, W, ?_, run_rangeCall hf hg _ _, fun _ _ => trivial, ?_, fun h => (by cases h), ?_⟩
  · rw [← hW]; exact run_enterLoop_inner hget fn a.tmps ps assign body
  · exact hE _ _
  · refine range_end (rc := recOf fn a.tmps ps assign body rc0.defers) (Dl := []) (ds' := ds) (MM := MM) (GG := GG) (I := I) (MX := MX) (GX := GX) (IX := IX) rfl rfl (by omega) ⟨hf.1, hf.2⟩ hd (hGG w hgw) (hGX w hgw)
      (range_core hf (l := w.heap.size) (D := rc0.defers) (m := w.heap.size) (fn := fn) (Dl := []) (W := W) (by omega) (by omega) (by omega)
      (fun p hp => by cases hp) hseq MM GG I MX GX IX x0 hA hps hm1 hcW
      (hGG w hgw 0 x0 _ _ (hG0 w hgw) hbk) hI0 hfin hrd (hGG w hgw) (hGX w hgw)
      (fun k x hI p hp => (hMM k x hI p hp).imp (fun h => by rw [hM0] at h; have := hm.lt h; omega) id) (fun c z hI p hp => (hMX c z hI p hp).imp (fun h => by rw [hM0] at h; have := hm.lt h; omega) id)
      (fun k av x W1 hav hI => hbody k av x _ _ _ W1 ⟨w, hgw, by omega⟩ h0 (fun k x v hv hl => ⟨hGG w hgw k x _ _ hv.1 (Bk.put hl (by omega) rfl rfl), hv.2.put (by omega) _⟩) rfl hav hI))
      hdone hret hexit
theorem range_coreP {a : Act} (hf : Fr N e a) {l D m : Nat} {fn : FuncId} {Dl : Mem0} {W : World} (hlW : l + 1 = W.heap.size) (hml : m ≤ l) (hlb : w0.heap.size ≤ l) (hDl : ∀ p ∈ Dl, p.1 < W.heap.size)
    (hseq : SeqCP P gf lb A Rd fin) (MT : Nat → α → Mem0 → Mem0) (hMT : ∀ k x Mp, MT k x Mp = MT k x [] ++ Mp) (GG : Nat → α → World → Prop) [hGT : ∀ k x, GT (GG k x)] (I : Nat → α → Prop) (MX : β → Mem0) (GX : β → World → Prop) (IX : Code → β → Prop) (x0 : α)
    (hA : ∀ (k : Nat) (av : Array Value), A[k]? = some av → av.size = ps.size) (hps : ps.all (fun p => Nat.blt p N) = true)
    (hm0 : Mem W ((l, .loop (recOf fn a.tmps ps assign body D)) :: (Dl ++ MT 0 x0 []))) (hc0 : Chg S w0 W) (hg0 : GG 0 x0 W) (hI0 : I 0 x0)
    (hfin : fin ∨ ∀ x, ¬ I A.length x)
    (hrd : ∀ k x w, Mem w (MT k x []) → Chg S w0 w → GG k x w → I k x → Rd w)
    (hGG : ∀ k x, Gl m (GG k x)) (hGX : ∀ z, Gl m (GX z))
    (hMM : ∀ k x, I k x → ∀ p ∈ MT k x [], p.1 < W.heap.size ∨ wlk p.2 = false) (hMX : ∀ c z, IX c z → ∀ p ∈ MX z, p.1 < W.heap.size ∨ wlk p.2 = false)
    (hbody : ∀ k av x W1 Mp, A[k]? = some av → I k x → wpM P (some l) N assign (Exit.then (asK P l (recOf fn a.tmps ps assign body D) body (rdQ l (recOf fn a.tmps ps assign body D) Dl S w0 (KW W.heap.size W1) (fun y => MT (k + 1) y Mp) (GG (k + 1)) (I (k + 1)) MX GX IX)) never)
      (parE (ps.toList.zip av.toList) e) [] ((l, .loop (recOf fn a.tmps ps assign body D)) :: (Dl ++ MT k x Mp)) S w0 (fun w => GG k x w ∧ KW W.heap.size W1 w)) :
    Ret P gf (#[.func (.yield l) #[] #[]] ++ lb) W (fun _ w' =>
      (∃ x, Mem w' ((l, .loop (recOf fn a.tmps ps assign body D)) :: (Dl ++ MT A.length x [])) ∧ Chg S w0 w' ∧ GG A.length x w' ∧ I A.length x) ∨
      (∃ c z, Mem w' ((l, .loop (doneOf (recOf fn a.tmps ps assign body D) c)) :: (Dl ++ MX z)) ∧ Chg S w0 w' ∧ GX z w' ∧ IX c z ∧ (c = .ret ∨ ∃ id, c = .exit id))) := by
  generalize hrc : recOf fn a.tmps ps assign body D = rc at *
  have hst : rc.state = .ready := by rw [← hrc]; rfl
  have hpe : rc.pending = none := by rw [← hrc]; rfl
  have hpar : rc.params = ps := by rw [← hrc]; rfl
  have hass : rc.assign = assign := by rw [← hrc]; rfl
  have hbod : rc.body = body := by rw [← hrc]; rfl
  have htm : rc.tmps = a.tmps := by rw [← hrc]; rfl
  -- book-keeping leaves the lists as they are
  have keep : ∀ (w1 w2 : World) (Mx : Mem0), Bk W.heap.size w1 w2 → Mem w1 Mx → (∀ p ∈ Mx, p.1 < W.heap.size ∨ wlk p.2 = false) → Mem w2 Mx := fun w1 w2 Mx hb hm hp => ⟨hm.1, fun p hpm => hb.same _ _ (hm.2 p hpm) (hp p hpm)⟩
  have keepC : ∀ (w1 w2 : World), Bk W.heap.size w1 w2 → Chg S w0 w1 → Chg S w0 w2 := fun w1 w2 hb hc => hc.step hb.chg (fun x hx hn => by have := hc0.size; omega)
  have hlow : ∀ (o : Obj) (Mx : Mem0), (∀ p ∈ Mx, p.1 < W.heap.size ∨ wlk p.2 = false) → ∀ p ∈ ((l, o) :: (Dl ++ Mx)), p.1 < W.heap.size ∨ wlk p.2 = false := fun o Mx h p hp => by
    rcases List.mem_cons.1 hp with rfl | hp
    · exact .inl (by simp only; omega)
    · rcases List.mem_append.1 hp with hp | hp
      · exact .inl (hDl p hp)
      · exact h p hp
  have hsplit : ∀ (o : Obj) (k : Nat) (x : α) (Mp : Mem0), (l, o) :: (Dl ++ MT k x Mp) = ((l, o) :: (Dl ++ MT k x [])) ++ Mp := fun o k x Mp => by rw [hMT k x Mp]; simp [List.append_assoc]
  refine Ret.mono (hseq l
    (fun k Mp w => (∃ x, Mem w ((l, .loop rc) :: (Dl ++ MT k x Mp)) ∧ Chg S w0 w ∧ GG k x w ∧ I k x) ∧ ∀ p ∈ Mp, W.heap.size ≤ p.1 ∧ wlk p.2 = false)
    (fun w => ∃ c z, Mem w ((l, .loop (doneOf rc c)) :: (Dl ++ MX z)) ∧ Chg S w0 w ∧ GX z w ∧ IX c z ∧ (c = .ret ∨ ∃ id, c = .exit id))
    W (hfin.imp id fun hn Mp w => by rintro ⟨⟨x, _, _, _, hI⟩, _⟩; exact hn x hI) ?_ ⟨?_, ?_, ?_, ?_, ?_⟩ ?_ ⟨⟨x0, hm0, hc0, hg0, hI0⟩, fun p hp => by cases hp⟩) (fun _ w' h => h.imp (fun h => h.1) id)
  · rintro k Mp w ⟨⟨x, hm, hc, hg, hI⟩, hp⟩
    rw [hsplit] at hm
    exact hrd k x w ((hm.sub (List.sublist_append_left _ _)).sub ((List.sublist_append_right Dl (MT k x [])).trans (List.sublist_cons_self _ _))) hc hg hI
  · rintro k Mp w ⟨⟨x, hm, _⟩, _⟩
    have := hm.lt (p := (l, .loop rc)) (List.mem_cons_self ..)
    simp only at this; omega
  · rintro k Mp w ⟨⟨x, hm, _⟩, _⟩
    rw [hsplit] at hm; exact hm.sub (List.sublist_append_right _ _)
  · rintro k Mp Mp' w w' ⟨⟨x, hm, hc, hg, hI⟩, hp⟩ hch hm' hn
    have hsz' := hm.lt (p := (l, .loop rc)) (List.mem_cons_self ..)
    simp only at hsz'
    rw [hsplit] at hm
    obtain ⟨m', rfl, h1, h2, h3, h4⟩ := upd_step (S := S) (w0 := w0) (G := GG k x) (m := Mp) (T := fun _ q => q = Mp') (u := .bool true) (hm.perm List.perm_append_comm) (fun p hq => (hp p hq).2) (fun p hq hlt => by have := (hp p hq).1; omega) hc hg ⟨hch, Mp', rfl, hm', fun p hq => (hn p hq).1⟩
    refine ⟨⟨x, ?_, h3, h4, hI⟩, fun p hq => ⟨?_, (hn p hq).2⟩⟩
    · rw [hsplit]; exact h2.perm List.perm_append_comm
    · rcases (hn p hq).1 with h | ⟨q, hq2, e⟩
      · omega
      · rw [← e]; exact (hp q hq2).1
  · rintro k Mp w1 w2 ⟨⟨x, hm, hc, hg, hI⟩, hp⟩ hb
    refine ⟨⟨x, keep w1 w2 _ hb hm (hlow _ _ (fun p hpm => ?_)), keepC w1 w2 hb hc, hGG k x w1 w2 hg (hb.mono (by omega)), hI⟩, hp⟩
    rw [hMT k x Mp] at hpm
    rcases List.mem_append.1 hpm with hpm | hpm
    · exact hMM k x hI p hpm
    · exact .inr (hp p hpm).2
  · rintro w1 w2 ⟨c, z, hm, hc, hg, hI, hj⟩ hb
    exact ⟨c, z, keep w1 w2 _ hb hm (hlow _ _ (hMX c z hI)), keepC w1 w2 hb hc, hGX z w1 w2 hg (hb.mono (by omega)), hI, hj⟩
  · rintro k av Mp w1 hav ⟨⟨x, hm, hc, hg, hI⟩, hp⟩
    have hl1 := hm.get (i := 0) rfl
    refine YR.of_body hst hpe (by rw [hpar]; exact hA k av hav) hl1 ?_
    rw [hass, hbod, hpar, htm]
    have hfr : Fr N (parE (ps.toList.zip av.toList) e) { tmps := (ps.zip av).foldl (fun t (p, v) => t.setIfInBounds p v) a.tmps, defers := [] } := by
      rw [← Array.foldl_toList, Array.toList_zip]
      refine fr_par _ e a.tmps ?_ ⟨hf.1, hf.2⟩
      rw [List.all_eq_true]
      intro p hp
      have : p.1 ∈ ps := Array.mem_def.2 (List.of_mem_zip hp).1
      exact Array.all_eq_true_iff_forall_mem.1 hps _ this
    refine wpIn_mono (hbody k av x w1 Mp hav hI w1 hm hc ⟨hg, .refl _ _⟩ _ hfr rfl) ?_
    intro x1 a1 w2 hq
    cases x1 with
    | normal =>
      obtain ⟨h1, h2⟩ := hq
      refine ⟨h1, wpIn_mono h2 (fun x2 a2 w3 hq => ?_)⟩
      have fin : ∀ (o' : Obj) (Mx : Mem0), wlk o' = true → Mem w3 ((l, .loop (busyOf rc)) :: Mx) → Chg S w0 w3 → KW W.heap.size w1 w3 →
          w3.heap[l]? = some (.loop (busyOf rc)) ∧ Mem (w3.putObj l o') ((l, o') :: Mx) ∧ Chg S w0 (w3.putObj l o') ∧ KW W.heap.size w1 (w3.putObj l o') ∧ Bk m w3 (w3.putObj l o') := fun o' Mx ho hm3 hc3 hk3 => by
        have h3 := hm3.get (i := 0) rfl
        refine ⟨h3, hm3.set (i := 0) rfl (World.putObj_heap_same (Array.getElem?_eq_some_iff.1 h3).1) (chg_put _), hc3.step (chg_put _) (fun q hq hql => by subst hql; omega), ?_, Bk.put h3 hml rfl ho⟩
        exact ⟨hk3.os, hk3.tape, hk3.output, by simpa using hk3.size, fun b o hn hb hw => by rw [World.putObj_heap_other (by omega)]; exact hk3.same b o hn hb hw⟩
      cases x2 with
      | normal =>
        obtain ⟨y, hm3, hc3, ⟨hg3, hk3⟩, hI3⟩ := hq
        obtain ⟨p1, p2, p3, p4, p5⟩ := fin (.loop rc) _ rfl hm3 hc3 hk3
        exact ⟨p1, .inl ⟨rfl, ⟨y, p2, p3, hGG _ _ _ _ hg3 p5, hI3⟩, hp⟩, p4⟩
      | ret =>
        obtain ⟨z, hm3, hc3, ⟨hg3, hk3⟩, hI3⟩ := hq
        obtain ⟨p1, p2, p3, p4, p5⟩ := fin (.loop (doneOf rc .ret)) _ rfl hm3 hc3 hk3
        exact ⟨p1, .inr ⟨rfl, .ret, z, p2, p3, hGX _ _ _ hg3 p5, hI3, .inl rfl⟩, p4⟩
      | exit id =>
        obtain ⟨z, hm3, hc3, ⟨hg3, hk3⟩, hI3⟩ := hq
        obtain ⟨p1, p2, p3, p4, p5⟩ := fin (.loop (doneOf rc (.exit id))) _ rfl hm3 hc3 hk3
        exact ⟨p1, .inr ⟨rfl, .exit id, z, p2, p3, hGX _ _ _ hg3 p5, hI3, .inr ⟨id, rfl⟩⟩, p4⟩
      | _ => exact hq.elim
    | _ => exact hq.elim

/-- 'for .. := range g { .. }', outermost, over an iterator that has memory of its own. -/
theorem wpM.rangeP (hE : Enters P gf) (hg : ev e g = some (.func (.func gf) #[] lb)) (hseq : SeqCP P gf lb A Rd fin)
    (MT : Nat → α → Mem0 → Mem0) (hMT : ∀ k x Mp, MT k x Mp = MT k x [] ++ Mp) (GG : Nat → α → World → Prop) [hGT : ∀ k x, GT (GG k x)] (I : Nat → α → Prop) (MX : β → Mem0) (GX : β → World → Prop) (IX : Code → β → Prop) (x0 : α)
    (hM0 : MT 0 x0 [] = M) (hG0 : ∀ w, G w → GG 0 x0 w) (hI0 : I 0 x0) (hps : ps.all (fun p => Nat.blt p N) = true) (hA : ∀ (k : Nat) (av : Array Value), A[k]? = some av → av.size = ps.size)
    (hfin : fin ∨ ∀ x, ¬ I A.length x)
    (hrd : ∀ k x w, Mem w (MT k x []) → Chg S w0 w → GG k x w → I k x → Rd w)
    (hGG : ∀ w, G w → ∀ k x, Gl w.heap.size (GG k x)) (hGX : ∀ w, G w → ∀ z, Gl w.heap.size (GX z))
    (hMM : ∀ k x, I k x → ∀ p ∈ MT k x [], p ∈ MT 0 x0 [] ∨ wlk p.2 = false) (hMX : ∀ c z, IX c z → ∀ p ∈ MX z, p ∈ MT 0 x0 [] ∨ wlk p.2 = false)
    (hbody : ∀ k av x l D rc n W1 Mp, w0.heap.size ≤ D → w0.heap.size ≤ l → (∀ k x, Pl l rc (fun w => GG k x w ∧ KW n W1 w)) → rc.defers = D → A[k]? = some av → I k x →
      wpM P (some l) N assign (Exit.then (asK P l rc body (rdQ l rc [(D, .deferred (some []))] S w0 (KW n W1) (fun y => MT (k + 1) y Mp) (GG (k + 1)) (I (k + 1)) MX GX IX)) never)
      (parE (ps.toList.zip av.toList) e) [] ((l, .loop rc) :: ([(D, .deferred (some []))] ++ MT k x Mp)) S w0 (fun w => GG k x w ∧ KW n W1 w))
    (hdone : ∀ x D, w0.heap.size ≤ D → I A.length x → QM N Q .normal e (D :: ds) ([(D, .deferred (some []))] ++ MT A.length x []) S w0 (GG A.length x))
    (hret : ∀ z D, w0.heap.size ≤ D → IX .ret z → QM N Q .ret e (D :: ds) ([(D, .deferred (some []))] ++ MX z) S w0 (GX z))
    (hexit : ∀ id z D, w0.heap.size ≤ D → IX (.exit id) z → QM N Q (.exit id) e (D :: ds) ([(D, .deferred (some []))] ++ MX z) S w0 (GX z)) :
    wpM P none N (.rangeFunc g ps assign body) Q e ds M S w0 G := fun w hm hc hgw a hf hd => by
  refine wpIn_rangeFunc ?_
  intro fn _
  have hbk : Bk w.heap.size w ((w.alloc (.deferred (some []))).alloc (.loop (recOf fn a.tmps ps assign body w.heap.size))) := (Ext.bk (chg_alloc w _)).trans (Ext.bk (chg_alloc _ _))
  have hm1 : Mem ((w.alloc (.deferred (some []))).alloc (.loop (recOf fn a.tmps ps assign body w.heap.size))) ((w.heap.size + 1, .loop (recOf fn a.tmps ps assign body w.heap.size)) :: ([(w.heap.size, .deferred (some []))] ++ MT 0 x0 [])) := by
    rw [hM0]
    have := ((hm.alloc (.deferred (some []))).alloc (.loop (recOf fn a.tmps ps assign body w.heap.size)))
    rwa [World.size_alloc] at this
  generalize hW : (w.alloc (.deferred (some []))).alloc (.loop (recOf fn a.tmps ps assign body w.heap.size)) = W at *
  have hsz : W.heap.size = w.heap.size + 2 := by rw [← hW]; simp
  have h0 := hc.size
  have hcW : Chg S w0 W := hc.step hbk.chg (fun x hx hn => by omega)
  refine ⟨w.heap.size + 1, [mark w.heap.size], W, _, W, gf, #[.func (.yield (w.heap.size + 1)) #[] #[]] ++ lb, W, ?_, run_rangeCall hf hg _ _, fun _ _ => trivial, ?_, fun h => (by cases h), ?_⟩
  · rw [← hW]; exact run_enterLoop_outer fn a.tmps ps assign body
  · exact hE _ _
  · refine range_end (rc := recOf fn a.tmps ps assign body w.heap.size) (ds' := w.heap.size :: ds) (MM := fun k x => MT k x []) (GG := GG) (I := I) (MX := MX) (GX := GX) (IX := IX) rfl rfl (by omega) ⟨hf.1, hf.2⟩ (by unfold Dm at *; simp [hd, mark]) (fun k x w1 w2 g b => hGG w hgw k x w1 w2 g (b.mono (by omega))) (fun z w1 w2 g b => hGX w hgw z w1 w2 g (b.mono (by omega)))
      (range_coreP hf (l := w.heap.size + 1) (D := w.heap.size) (m := w.heap.size) (fn := fn) (Dl := [(w.heap.size, .deferred (some []))]) (W := W) (by omega) (by omega) (by omega)
      (fun p hp => by simp at hp; subst hp; simp only; omega) hseq MT hMT GG I MX GX IX x0 hA hps hm1 hcW
      (hGG w hgw 0 x0 _ _ (hG0 w hgw) hbk) hI0 hfin hrd (hGG w hgw) (hGX w hgw)
      (fun k x hI p hp => (hMM k x hI p hp).imp (fun h => by rw [hM0] at h; have := hm.lt h; omega) id) (fun c z hI p hp => (hMX c z hI p hp).imp (fun h => by rw [hM0] at h; have := hm.lt h; omega) id)
      (fun k av x W1 Mp hav hI => hbody k av x _ _ _ _ W1 Mp h0 (by omega) (fun k x v hv hl => ⟨hGG w hgw k x _ _ hv.1 (Bk.put hl (by omega) rfl rfl), hv.2.put (by omega) _⟩) rfl hav hI))
      (fun x hI => hdone x _ h0 hI) (fun z hI => hret z _ h0 hI) (fun id z hI => hexit id z _ h0 hI)

end range
end Go.Eng
