/- The calculus, sixth part: a range over a function; an iterator's contract. No condition. -/
import Derived.Test.YtbndlommbpkijaaDoorEng5
set_option linter.unusedVariables false
set_option linter.unusedSimpArgs false
namespace Go.Eng
open Go Go.RowKit

/-- Book-keeping from block n on: nothing is changed but the objects of loops that lie there. -/
structure Bk (n : Nat) (w w' : World) : Prop where
  os : w'.os = w.os
  tape : w'.tape = w.tape
  output : w'.output = w.output
  size : w.heap.size ≤ w'.heap.size
  same : ∀ (b : Nat) (o : Obj), w.heap[b]? = some o → (b < n ∨ wlk o = false) → w'.heap[b]? = some o
  walk : ∀ (b : Nat) (o : Obj), w.heap[b]? = some o → wlk o = true → ∃ o', w'.heap[b]? = some o' ∧ wlk o' = true

theorem Bk.refl (n : Nat) (w : World) : Bk n w w := ⟨rfl, rfl, rfl, Nat.le_refl _, fun _ _ h _ => h, fun _ o h hw => ⟨o, h, hw⟩⟩
theorem Bk.trans {n : Nat} {a b c : World} (h : Bk n a b) (k : Bk n b c) : Bk n a c :=
  ⟨k.os.trans h.os, k.tape.trans h.tape, k.output.trans h.output, Nat.le_trans h.size k.size, fun x o hx hn => k.same x o (h.same x o hx hn) hn, fun x o hx hw => by
    obtain ⟨o', h1, h2⟩ := h.walk x o hx hw; exact k.walk x o' h1 h2⟩
theorem Bk.mono {n m : Nat} {w w' : World} (h : Bk n w w') (hm : m ≤ n) : Bk m w w' :=
  ⟨h.os, h.tape, h.output, h.size, fun x o hx hn => h.same x o hx (hn.imp (fun q => Nat.lt_of_lt_of_le q hm) id), h.walk⟩
theorem Ext.bk {n : Nat} {w w' : World} (h : Ext w w') : Bk n w w' :=
  ⟨h.os, h.tape, h.output, h.size, fun _ _ hx _ => h.get hx, fun _ o hx hw => ⟨o, h.get hx, hw⟩⟩
theorem Bk.put {n : Nat} {w : World} {l : Nat} {o o' : Obj} (hl : w.heap[l]? = some o) (hn : n ≤ l) (hw : wlk o = true) (hw' : wlk o' = true) : Bk n w (w.putObj l o') := by
  have hlt := (Array.getElem?_eq_some_iff.1 hl).1
  refine ⟨rfl, rfl, rfl, by simp, fun b u hb hc => ?_, fun b u hb hu => ?_⟩
  · by_cases e : b = l
    · subst e; rw [hl] at hb; cases hb
      rcases hc with hc | hc
      · omega
      · rw [hw] at hc; cases hc
    · rw [World.putObj_heap_other e]; exact hb
  · by_cases e : b = l
    · subst e; exact ⟨o', World.putObj_heap_same hlt, hw'⟩
    · exact ⟨u, by rw [World.putObj_heap_other e]; exact hb, hu⟩
theorem chg_put {w : World} {l : Nat} (o : Obj) : Chg (fun x => x = l) w (w.putObj l o) :=
  ⟨rfl, rfl, rfl, by simp, fun b _ hn => World.putObj_heap_other hn⟩
theorem Bk.chg {n : Nat} {w w' : World} (h : Bk n w w') : Chg (fun b => n ≤ b) w w' :=
  ⟨h.os, h.tape, h.output, h.size, fun b hb hn => by
    have h1 : w.heap[b]? = some w.heap[b] := Array.getElem?_eq_getElem hb
    rw [h.same b _ h1 (.inl (Nat.lt_of_not_le hn)), h1]⟩

/-- What a round keeps: the objects of loops that lay from n on in W1 lie there still. -/
structure KW (n : Nat) (W1 w : World) : Prop where
  os : w.os = W1.os
  tape : w.tape = W1.tape
  output : w.output = W1.output
  size : W1.heap.size ≤ w.heap.size
  same : ∀ (b : Nat) (o : Obj), n ≤ b → W1.heap[b]? = some o → wlk o = true → w.heap[b]? = some o
theorem KW.refl (n : Nat) (w : World) : KW n w w := ⟨rfl, rfl, rfl, Nat.le_refl _, fun _ _ _ h _ => h⟩
instance (n : Nat) (W1 : World) : GT (KW n W1) where
  ext := fun w w' h e => ⟨e.os.trans h.os, e.tape.trans h.tape, e.output.trans h.output, Nat.le_trans h.size e.size, fun b o hn hb hw => e.get (h.same b o hn hb hw)⟩
  chg := fun S w w' h e k => ⟨e.os.trans h.os, e.tape.trans h.tape, e.output.trans h.output, Nat.le_trans h.size e.size, fun b o hn hb hw => k b o (h.same b o hn hb hw) hw⟩
instance {G H : World → Prop} [GS G] [GS H] : GS (fun w => G w ∧ H w) where
  ext := fun w w' h e => ⟨GS.ext w w' h.1 e, GS.ext w w' h.2 e⟩
instance {G H : World → Prop} [GT G] [GT H] : GT (fun w => G w ∧ H w) where
  ext := fun w w' h e => ⟨GS.ext w w' h.1 e, GS.ext w w' h.2 e⟩
  chg := fun S w w' h e k => ⟨GT.chg S w w' h.1 e k, GT.chg S w w' h.2 e k⟩

/-- A call of the yield of loop l. -/
def YR (P : Program) (l : Nat) (args : Array Value) (W : World) (R : Bool → World → Prop) : Prop :=
  ∃ fn tmps assign body, (Instr.yield l args).run P W = .ok (.round l fn tmps assign body) W ∧ RoundIn Fence.wide 0 P l fn tmps assign body W (fun en w' => ∃ b, en = .returned (.bool b) ∧ R b w')

/-- An iterator's contract: these come, one behind the other; what it reads is said by Rd; it changes nothing but its own loops' objects. -/
def SeqC (P : Program) (g : FuncId) (lb : Array Value) (A : List (Array Value)) (Rd : World → Prop) (fin : Prop) : Prop :=
  ∀ (l : Nat) (J : Nat → World → Prop) (Jx : World → Prop) (W : World), (fin ∨ ∀ w, ¬ J A.length w) → (∀ k w, J k w → Rd w) →
    (∀ k w1 w2, J k w1 → Bk W.heap.size w1 w2 → J k w2) → (∀ w1 w2, Jx w1 → Bk W.heap.size w1 w2 → Jx w2) →
    (∀ k a w1, A[k]? = some a → J k w1 → YR P l a w1 (fun b w2 => ((b = true ∧ J (k + 1) w2) ∨ (b = false ∧ Jx w2)) ∧ KW W.heap.size w1 w2)) →
    J 0 W → Ret P g (#[.func (.yield l) #[] #[]] ++ lb) W (fun _ w' => J A.length w' ∨ Jx w')

theorem SeqC.mono {P : Program} {g : FuncId} {lb : Array Value} {A : List (Array Value)} {Rd Rd' : World → Prop} {fin : Prop} (h : SeqC P g lb A Rd fin) (hr : ∀ w, Rd' w → Rd w) : SeqC P g lb A Rd' fin :=
  fun l J Jx W hf hJ => h l J Jx W hf (fun k w hj => hr w (hJ k w hj))

/-! ### One round -/
def busyOf (rc : Loop) : Loop := { rc with state := .busy }
def doneOf (rc : Loop) (c : Code) : Loop := { rc with state := .done, pending := some c }
/-- How a round's body is left. -/
def rdX (l : Nat) (rc : Loop) (R : Bool → World → Prop) : Exit → Act → World → Prop
  | .normal, _, w => w.heap[l]? = some (.loop (busyOf rc)) ∧ R true (w.putObj l (.loop rc))
  | .ret, _, w => w.heap[l]? = some (.loop (busyOf rc)) ∧ R false (w.putObj l (.loop (doneOf rc .ret)))
  | .exit id, _, w => w.heap[l]? = some (.loop (busyOf rc)) ∧ R false (w.putObj l (.loop (doneOf rc (.exit id))))
  | _, _, _ => False
/-- What stands behind the assignment to a round's variables. -/
def asK (P : Program) (l : Nat) (rc : Loop) (body : Code) (Q : Exit → Act → World → Prop) (a : Act) (w : World) : Prop :=
  w.heap[l]? = some (.loop rc) ∧ body.wpIn (Wd (some l)) 0 P Q a (w.putObj l (.loop (busyOf rc)))
def never : Exit → Act → World → Prop := fun _ _ _ => False

theorem YR.of_body {P : Program} {l : Nat} {rc : Loop} {a : Array Value} {W : World} {R : Bool → World → Prop} (hst : rc.state = .ready) (hp : rc.pending = none) (ha : a.size = rc.params.size) (hl : W.heap[l]? = some (.loop rc))
    (h : rc.assign.wpIn (Wd (some l)) 0 P (Exit.then (asK P l rc rc.body (rdX l rc R)) never) { tmps := (rc.params.zip a).foldl (fun t (p, v) => t.setIfInBounds p v) rc.tmps, defers := [] } W) : YR P l a W R := by
  refine ⟨_, _, _, _, run_yield hl ha, ?_⟩
  have hback : ∀ (jump : Option Code) (w : World), w.heap[l]? = some (.loop (busyOf rc)) → (Instr.endRound l jump).run P w = .ok (.bool jump.isNone) (w.putObj l (.loop { rc with state := if jump.isNone then .ready else .done, pending := jump })) := fun jump w hw => by have := run_endRound (P := P) jump hw; exact this
  refine roundIn_of_wpIn (F := Fence.wide) trivial ?_
  refine wpIn_mono h (fun x a1 w1 hq => ?_)
  cases x with
  | normal =>
    obtain ⟨h1, h2⟩ := hq
    refine ⟨_, run_beginRound h1 hst, ?_⟩
    refine wpIn_mono h2 (fun x a2 w2 hq => ?_)
    cases x with
    | normal =>
      obtain ⟨h3, h4⟩ := hq
      refine ⟨_, _, hback none w2 h3, true, rfl, ?_⟩
      have : ({ rc with state := .ready, pending := none } : Loop) = rc := by cases rc; simp_all
      simp only [Option.isNone_none, if_true]
      rw [this]; exact h4
    | ret => obtain ⟨h3, h4⟩ := hq; exact ⟨_, _, hback (some .ret) w2 h3, false, rfl, h4⟩
    | exit id => obtain ⟨h3, h4⟩ := hq; exact ⟨_, _, hback (some (.exit id)) w2 h3, false, rfl, h4⟩
    | goto t => exact hq.elim
    | panic c => exact hq.elim
    | outgrown => exact hq.elim
  | _ => exact hq.elim

/-! ### The statement -/
/-- How a round's body is left, said of the memory's list. -/
def rdQ (l : Nat) (rc : Loop) (Dl : Mem0) (S : Nat → Prop) (w0 : World) (K : World → Prop) {α β : Type} (MM : α → Mem0) (GG : α → World → Prop) (I : α → Prop) (MX : β → Mem0) (GX : β → World → Prop) (IX : Code → β → Prop) : Exit → Act → World → Prop
  | .normal, _, w => ∃ y, Mem w ((l, .loop (busyOf rc)) :: (Dl ++ MM y)) ∧ Chg S w0 w ∧ (GG y w ∧ K w) ∧ I y
  | .ret, _, w => ∃ z, Mem w ((l, .loop (busyOf rc)) :: (Dl ++ MX z)) ∧ Chg S w0 w ∧ (GX z w ∧ K w) ∧ IX .ret z
  | .exit id, _, w => ∃ z, Mem w ((l, .loop (busyOf rc)) :: (Dl ++ MX z)) ∧ Chg S w0 w ∧ (GX z w ∧ K w) ∧ IX (.exit id) z
  | _, _, _ => False

section
variable {N l : Nat} {rc : Loop} {Dl : Mem0} {S : Nat → Prop} {w0 : World} {K G : World → Prop} {α β : Type} {MM : α → Mem0} {GG : α → World → Prop} {I : α → Prop} {MX : β → Mem0} {GX : β → World → Prop} {IX : Code → β → Prop} {e : Env} {M : Mem0}
end

/-- Ghosts that stand when one object of a loop that lies behind is changed. -/
def Gl (m : Nat) (G : World → Prop) : Prop := ∀ w1 w2, G w1 → Bk m w1 w2 → G w2

/-- ... when the loop's own object becomes busy. -/
def Pl (l : Nat) (rc : Loop) (G : World → Prop) : Prop := ∀ w, G w → w.heap[l]? = some (.loop rc) → G (w.putObj l (.loop (busyOf rc)))
theorem KW.put {n : Nat} {W1 w : World} (h : KW n W1 w) {l : Nat} (hl : l < n) (o : Obj) : KW n W1 (w.putObj l o) :=
  ⟨h.os, h.tape, h.output, by simpa using h.size, fun b u hn hb hw => by rw [World.putObj_heap_other (by omega)]; exact h.same b u hn hb hw⟩
/-- The round's variables. -/
def parE : List (Nat × Value) → Env → Env
  | [], e => e
  | (p, v) :: l, e => parE l ((p, v) :: e)
theorem fr_par {N : Nat} : ∀ (l : List (Nat × Value)) (e : Env) (t : Array Value), (l.all fun p => Nat.blt p.1 N) = true → Fr N e { tmps := t, defers := [] } → Fr N (parE l e) { tmps := l.foldl (fun t (p, v) => t.setIfInBounds p v) t, defers := [] }
  | [], e, t, _, h => h
  | (p, v) :: l, e, t, hl, h => by
    simp only [List.all_cons, Bool.and_eq_true] at hl
    have := h.put hl.1 v
    exact fr_par l _ _ hl.2 this

section range
variable {P : Program} {N : Nat} {Q : Exit → Act → World → Prop} {e : Env} {ds : List Nat} {M : Mem0} {S : Nat → Prop} {w0 : World} {G : World → Prop}
variable {g : Operand} {ps : Array Tmp} {assign body : Code} {gf : FuncId} {lb : Array Value} {A : List (Array Value)} {Rd : World → Prop} {fin : Prop} {α β : Type}

/-- the loop's record -/
def recOf (fn : FuncId) (tmps : Array Value) (ps : Array Tmp) (assign body : Code) (D : Nat) : Loop := { state := .ready, pending := none, fn, tmps, params := ps, assign, body, defers := D }

theorem range_core {a : Act} (hf : Fr N e a) {l D m : Nat} {fn : FuncId} {Dl : Mem0} {W : World} (hlW : l + 1 = W.heap.size) (hml : m ≤ l) (hlb : w0.heap.size ≤ l) (hDl : ∀ p ∈ Dl, p.1 < W.heap.size)
    (hseq : SeqC P gf lb A Rd fin) (MM : Nat → α → Mem0) (GG : Nat → α → World → Prop) (I : Nat → α → Prop) (MX : β → Mem0) (GX : β → World → Prop) (IX : Code → β → Prop) (x0 : α)
    (hA : ∀ (k : Nat) (av : Array Value), A[k]? = some av → av.size = ps.size) (hps : ps.all (fun p => Nat.blt p N) = true)
    (hm0 : Mem W ((l, .loop (recOf fn a.tmps ps assign body D)) :: (Dl ++ MM 0 x0))) (hc0 : Chg S w0 W) (hg0 : GG 0 x0 W) (hI0 : I 0 x0)
    (hfin : fin ∨ ∀ x, ¬ I A.length x)
    (hrd : ∀ k x w, Mem w (MM k x) → Chg S w0 w → GG k x w → I k x → Rd w)
    (hGG : ∀ k x, Gl m (GG k x)) (hGX : ∀ z, Gl m (GX z))
    (hMM : ∀ k x, I k x → ∀ p ∈ MM k x, p.1 < W.heap.size ∨ wlk p.2 = false) (hMX : ∀ c z, IX c z → ∀ p ∈ MX z, p.1 < W.heap.size ∨ wlk p.2 = false)
    (hbody : ∀ k av x W1, A[k]? = some av → I k x → wpM P (some l) N assign (Exit.then (asK P l (recOf fn a.tmps ps assign body D) body (rdQ l (recOf fn a.tmps ps assign body D) Dl S w0 (KW W.heap.size W1) (MM (k + 1)) (GG (k + 1)) (I (k + 1)) MX GX IX)) never)
      (parE (ps.toList.zip av.toList) e) [] ((l, .loop (recOf fn a.tmps ps assign body D)) :: (Dl ++ MM k x)) S w0 (fun w => GG k x w ∧ KW W.heap.size W1 w)) :
    Ret P gf (#[.func (.yield l) #[] #[]] ++ lb) W (fun _ w' =>
      (∃ x, Mem w' ((l, .loop (recOf fn a.tmps ps assign body D)) :: (Dl ++ MM A.length x)) ∧ Chg S w0 w' ∧ GG A.length x w' ∧ I A.length x) ∨
      (∃ c z, Mem w' ((l, .loop (doneOf (recOf fn a.tmps ps assign body D) c)) :: (Dl ++ MX z)) ∧ Chg S w0 w' ∧ GX z w' ∧ IX c z ∧ (c = .ret ∨ ∃ id, c = .exit id))) := by
  generalize hrc : recOf fn a.tmps ps assign body D = rc at *
  have hst : rc.state = .ready := by rw [← hrc]; rfl
  have hpe : rc.pending = none := by rw [← hrc]; rfl
  have hpar : rc.params = ps := by rw [← hrc]; rfl
  have hass : rc.assign = assign := by rw [← hrc]; rfl
  have hbod : rc.body = body := by rw [← hrc]; rfl
  have htm : rc.tmps = a.tmps := by rw [← hrc]; rfl
  -- book-keeping leaves the lists as they are
  have keep : ∀ (w1 w2 : World) (Mx : Mem0), Bk W.heap.size w1 w2 → Mem w1 Mx → (∀ p ∈ Mx, p.1 < W.heap.size ∨ wlk p.2 = false) → Mem w2 Mx := fun w1 w2 Mx hb hm hp => ⟨hm.1, fun p hpm => hb.same _ _ (hm.2 p hpm) (hp p hpm)⟩
  have keepC : ∀ (w1 w2 : World), Bk W.heap.size w1 w2 → Chg S w0 w1 → Chg S w0 w2 := fun w1 w2 hb hc => hc.step hb.chg (fun x hx hn => by have := hc0.size; omega)
  have hlow : ∀ (o : Obj) (Mx : Mem0), (∀ p ∈ Mx, p.1 < W.heap.size ∨ wlk p.2 = false) → ∀ p ∈ ((l, o) :: (Dl ++ Mx)), p.1 < W.heap.size ∨ wlk p.2 = false := fun o Mx h p hp => by
    rcases List.mem_cons.1 hp with rfl | hp
    · exact .inl (by simp only; omega)
    · rcases List.mem_append.1 hp with hp | hp
      · exact .inl (hDl p hp)
      · exact h p hp
  refine Ret.mono (hseq l
    (fun k w => ∃ x, Mem w ((l, .loop rc) :: (Dl ++ MM k x)) ∧ Chg S w0 w ∧ GG k x w ∧ I k x)
    (fun w => ∃ c z, Mem w ((l, .loop (doneOf rc c)) :: (Dl ++ MX z)) ∧ Chg S w0 w ∧ GX z w ∧ IX c z ∧ (c = .ret ∨ ∃ id, c = .exit id))
    W (hfin.imp id fun hn w => by rintro ⟨x, _, _, _, hI⟩; exact hn x hI) ?_ ?_ ?_ ?_ ⟨x0, hm0, hc0, hg0, hI0⟩) (fun _ w' h => h)
  · rintro k w ⟨x, hm, hc, hg, hI⟩
    exact hrd k x w (hm.sub ((List.sublist_append_right Dl (MM k x)).trans (List.sublist_cons_self _ _))) hc hg hI
  · rintro k w1 w2 ⟨x, hm, hc, hg, hI⟩ hb
    exact ⟨x, keep w1 w2 _ hb hm (hlow _ _ (hMM k x hI)), keepC w1 w2 hb hc, hGG k x w1 w2 hg (hb.mono (by omega)), hI⟩
  · rintro w1 w2 ⟨c, z, hm, hc, hg, hI, hj⟩ hb
    exact ⟨c, z, keep w1 w2 _ hb hm (hlow _ _ (hMX c z hI)), keepC w1 w2 hb hc, hGX z w1 w2 hg (hb.mono (by omega)), hI, hj⟩
  · rintro k av w1 hav ⟨x, hm, hc, hg, hI⟩
    have hl1 := hm.get (i := 0) rfl
    refine YR.of_body hst hpe (by rw [hpar]; exact hA k av hav) hl1 ?_
    rw [hass, hbod, hpar, htm]
    have hfr : Fr N (parE (ps.toList.zip av.toList) e) { tmps := (ps.zip av).foldl (fun t (p, v) => t.setIfInBounds p v) a.tmps, defers := [] } := by
      rw [← Array.foldl_toList, Array.toList_zip]
      refine fr_par _ e a.tmps ?_ ⟨hf.1, hf.2⟩
      rw [List.all_eq_true]
      intro p hp
      have : p.1 ∈ ps := Array.mem_def.2 (List.of_mem_zip hp).1
      exact Array.all_eq_true_iff_forall_mem.1 hps _ this
    refine wpIn_mono (hbody k av x w1 hav hI w1 hm hc ⟨hg, .refl _ _⟩ _ hfr rfl) ?_
    intro x1 a1 w2 hq
    cases x1 with
    | normal =>
      obtain ⟨h1, h2⟩ := hq
      refine ⟨h1, wpIn_mono h2 (fun x2 a2 w3 hq => ?_)⟩
      have fin : ∀ (o' : Obj) (Mx : Mem0), wlk o' = true → Mem w3 ((l, .loop (busyOf rc)) :: Mx) → Chg S w0 w3 → KW W.heap.size w1 w3 →
          w3.heap[l]? = some (.loop (busyOf rc)) ∧ Mem (w3.putObj l o') ((l, o') :: Mx) ∧ Chg S w0 (w3.putObj l o') ∧ KW W.heap.size w1 (w3.putObj l o') ∧ Bk m w3 (w3.putObj l o') := fun o' Mx ho hm3 hc3 hk3 => by
        have h3 := hm3.get (i := 0) rfl
        refine ⟨h3, hm3.set (i := 0) rfl (World.putObj_heap_same (Array.getElem?_eq_some_iff.1 h3).1) (chg_put _), hc3.step (chg_put _) (fun q hq hql => by subst hql; omega), ?_, Bk.put h3 hml rfl ho⟩
        exact ⟨hk3.os, hk3.tape, hk3.output, by simpa using hk3.size, fun b o hn hb hw => by rw [World.putObj_heap_other (by omega)]; exact hk3.same b o hn hb hw⟩
      cases x2 with
      | normal =>
        obtain ⟨y, hm3, hc3, ⟨hg3, hk3⟩, hI3⟩ := hq
        obtain ⟨p1, p2, p3, p4, p5⟩ := fin (.loop rc) _ rfl hm3 hc3 hk3
        exact ⟨p1, .inl ⟨rfl, y, p2, p3, hGG _ _ _ _ hg3 p5, hI3⟩, p4⟩
      | ret =>
        obtain ⟨z, hm3, hc3, ⟨hg3, hk3⟩, hI3⟩ := hq
        obtain ⟨p1, p2, p3, p4, p5⟩ := fin (.loop (doneOf rc .ret)) _ rfl hm3 hc3 hk3
        exact ⟨p1, .inr ⟨rfl, .ret, z, p2, p3, hGX _ _ _ hg3 p5, hI3, .inl rfl⟩, p4⟩
      | exit id =>
        obtain ⟨z, hm3, hc3, ⟨hg3, hk3⟩, hI3⟩ := hq
        obtain ⟨p1, p2, p3, p4, p5⟩ := fin (.loop (doneOf rc (.exit id))) _ rfl hm3 hc3 hk3
        exact ⟨p1, .inr ⟨rfl, .exit id, z, p2, p3, hGX _ _ _ hg3 p5, hI3, .inr ⟨id, rfl⟩⟩, p4⟩
      | _ => exact hq.elim
    | _ => exact hq.elim

theorem range_end {r : Option Nat} {a' : Act} {args : Array Value} {l : Nat} {Dl : Mem0} {W : World} {rc : Loop} {ds' : List Nat} {MM : Nat → α → Mem0} {GG : Nat → α → World → Prop} {I : Nat → α → Prop} {MX : β → Mem0} {GX : β → World → Prop} {IX : Code → β → Prop}
    (hst : rc.state = .ready) (hpe : rc.pending = none) (hlb : w0.heap.size ≤ l) (hf : Fr N e a') (hd : Dm ds' a')
    (hGG : ∀ k x, Gl l (GG k x)) (hGX : ∀ z, Gl l (GX z))
    (hcore : Ret P gf args W (fun _ w' =>
      (∃ x, Mem w' ((l, .loop rc) :: (Dl ++ MM A.length x)) ∧ Chg S w0 w' ∧ GG A.length x w' ∧ I A.length x) ∨
      (∃ c z, Mem w' ((l, .loop (doneOf rc c)) :: (Dl ++ MX z)) ∧ Chg S w0 w' ∧ GX z w' ∧ IX c z ∧ (c = .ret ∨ ∃ id, c = .exit id))))
    (hdone : ∀ x, I A.length x → QM N Q .normal e ds' (Dl ++ MM A.length x) S w0 (GG A.length x))
    (hret : ∀ z, IX .ret z → QM N Q .ret e ds' (Dl ++ MX z) S w0 (GX z))
    (hexit : ∀ id z, IX (.exit id) z → QM N Q (.exit id) e ds' (Dl ++ MX z) S w0 (GX z)) :
    CallsIn (Wd r) 0 P gf args W (rangePost (Wd r) 0 P l Q a') := by
  have h2 : CallsIn Fence.wide 0 P gf args W _ := callsIn_wide.2 hcore
  have h3 : CallsIn (Wd r) 0 P gf args W _ := h2
  refine CallsIn.mono h3 ?_
  have fin : ∀ (w' : World) (rc' : Loop) (Mx : Mem0), Mem w' ((l, .loop rc') :: Mx) → Chg S w0 w' → ∀ o', wlk o' = true → Mem (w'.putObj l o') Mx ∧ Chg S w0 (w'.putObj l o') ∧ Bk l w' (w'.putObj l o') := fun w' rc' Mx hm hc o' ho => by
    have hl := hm.get (i := 0) rfl
    refine ⟨(hm.set (i := 0) rfl (World.putObj_heap_same (Array.getElem?_eq_some_iff.1 hl).1) (chg_put o')).tail, hc.step (chg_put _) (fun q hq hql => by subst hql; omega), Bk.put hl (Nat.le_refl _) rfl ho⟩
  rintro en w' ⟨v, rfl, h | h⟩
  · obtain ⟨x, hm, hc, hg, hI⟩ := h
    obtain ⟨p1, p2, p3⟩ := fin w' rc _ hm hc (.loop { rc with state := .exhausted }) rfl
    refine ⟨_, _, run_endLoop (hm.get (i := 0) rfl) (by rw [hst]; intro h; cases h), ?_⟩
    have := hdone x hI _ p1 p2 (hGG _ x _ _ hg p3) a' hf hd
    simp only [hpe] at this ⊢
    exact this
  · obtain ⟨c, z, hm, hc, hg, hI, hj⟩ := h
    obtain ⟨p1, p2, p3⟩ := fin w' _ _ hm hc (.loop { doneOf rc c with state := .exhausted }) rfl
    refine ⟨_, _, run_endLoop (hm.get (i := 0) rfl) (by intro h; cases h), ?_⟩
    rcases hj with rfl | ⟨id, rfl⟩
    · exact wpIn_ret (hret z hI _ p1 p2 (hGX z _ _ hg p3) a' hf hd)
    · exact wpIn_exit (hexit id z hI _ p1 p2 (hGX z _ _ hg p3) a' hf hd)

theorem run_rangeCall {a : Act} (hf : Fr N e a) (hg : ev e g = some (.func (.func gf) #[] lb)) (l : Nat) (W : World) :
    (resolve a.eval (rangeCall g l) 0).run P W = .ok { target := .fn (.func gf) lb, args := #[.func (.yield l) #[] #[]] } W := by
  have := hf.eval hg
  simp only [resolve, this]
  simp [go_sem, Act.eval]

/-- 'for .. := range g { .. }', outermost. -/
theorem wpM.range (hE : Enters P gf) (hg : ev e g = some (.func (.func gf) #[] lb)) (hseq : SeqC P gf lb A Rd fin)
    (MM : Nat → α → Mem0) (GG : Nat → α → World → Prop) (I : Nat → α → Prop) (MX : β → Mem0) (GX : β → World → Prop) (IX : Code → β → Prop) (x0 : α)
    (hM0 : MM 0 x0 = M) (hG0 : ∀ w, G w → GG 0 x0 w) (hI0 : I 0 x0) (hps : ps.all (fun p => Nat.blt p N) = true) (hA : ∀ (k : Nat) (av : Array Value), A[k]? = some av → av.size = ps.size)
    (hfin : fin ∨ ∀ x, ¬ I A.length x)
    (hrd : ∀ k x w, Mem w (MM k x) → Chg S w0 w → GG k x w → I k x → Rd w)
    (hGG : ∀ w, G w → ∀ k x, Gl w.heap.size (GG k x)) (hGX : ∀ w, G w → ∀ z, Gl w.heap.size (GX z))
    (hMM : ∀ k x, I k x → ∀ p ∈ MM k x, p ∈ MM 0 x0 ∨ wlk p.2 = false) (hMX : ∀ c z, IX c z → ∀ p ∈ MX z, p ∈ MM 0 x0 ∨ wlk p.2 = false)
    (hbody : ∀ k av x l D rc n W1, w0.heap.size ≤ D → w0.heap.size ≤ l → (∀ k x, Pl l rc (fun w => GG k x w ∧ KW n W1 w)) → rc.defers = D → A[k]? = some av → I k x →
      wpM P (some l) N assign (Exit.then (asK P l rc body (rdQ l rc [(D, .deferred (some []))] S w0 (KW n W1) (MM (k + 1)) (GG (k + 1)) (I (k + 1)) MX GX IX)) never)
      (parE (ps.toList.zip av.toList) e) [] ((l, .loop rc) :: ([(D, .deferred (some []))] ++ MM k x)) S w0 (fun w => GG k x w ∧ KW n W1 w))
    (hdone : ∀ x D, w0.heap.size ≤ D → I A.length x → QM N Q .normal e (D :: ds) ([(D, .deferred (some []))] ++ MM A.length x) S w0 (GG A.length x))
    (hret : ∀ z D, w0.heap.size ≤ D → IX .ret z → QM N Q .ret e (D :: ds) ([(D, .deferred (some []))] ++ MX z) S w0 (GX z))
    (hexit : ∀ id z D, w0.heap.size ≤ D → IX (.exit id) z → QM N Q (.exit id) e (D :: ds) ([(D, .deferred (some []))] ++ MX z) S w0 (GX z)) :
    wpM P none N (.rangeFunc g ps assign body) Q e ds M S w0 G := fun w hm hc hgw a hf hd => by
  refine wpIn_rangeFunc ?_
  intro fn _
  have hbk : Bk w.heap.size w ((w.alloc (.deferred (some []))).alloc (.loop (recOf fn a.tmps ps assign body w.heap.size))) := (Ext.bk (chg_alloc w _)).trans (Ext.bk (chg_alloc _ _))
  have hm1 : Mem ((w.alloc (.deferred (some []))).alloc (.loop (recOf fn a.tmps ps assign body w.heap.size))) ((w.heap.size + 1, .loop (recOf fn a.tmps ps assign body w.heap.size)) :: ([(w.heap.size, .deferred (some []))] ++ MM 0 x0)) := by
    rw [hM0]
    have := ((hm.alloc (.deferred (some []))).alloc (.loop (recOf fn a.tmps ps assign body w.heap.size)))
    rwa [World.size_alloc] at this
  generalize hW : (w.alloc (.deferred (some []))).alloc (.loop (recOf fn a.tmps ps assign body w.heap.size)) = W at *
  have hsz : W.heap.size = w.heap.size + 2 := by rw [← hW]; simp
  have h0 := hc.size
  have hcW : Chg S w0 W := hc.step hbk.chg (fun x hx hn => by omega)
  refine ⟨w.heap.size + 1, [mark w.heap.size], W, _, W, gf, #[.func (.yield (w.heap.size + 1)) #[] #[]] ++ lb, W, ?_, run_rangeCall hf hg _ _, fun _ _ => trivial, ?_, fun h => (by cases h), ?_⟩
  · rw [← hW]; exact run_enterLoop_outer fn a.tmps ps assign body
  · exact hE _ _
  · refine range_end (rc := recOf fn a.tmps ps assign body w.heap.size) (ds' := w.heap.size :: ds) (MM := MM) (GG := GG) (I := I) (MX := MX) (GX := GX) (IX := IX) rfl rfl (by omega) ⟨hf.1, hf.2⟩ (by unfold Dm at *; simp [hd, mark]) (fun k x w1 w2 g b => hGG w hgw k x w1 w2 g (b.mono (by omega))) (fun z w1 w2 g b => hGX w hgw z w1 w2 g (b.mono (by omega)))
      (range_core hf (l := w.heap.size + 1) (D := w.heap.size) (m := w.heap.size) (fn := fn) (Dl := [(w.heap.size, .deferred (some []))]) (W := W) (by omega) (by omega) (by omega)
      (fun p hp => by simp at hp; subst hp; simp only; omega) hseq MM GG I MX GX IX x0 hA hps hm1 hcW
      (hGG w hgw 0 x0 _ _ (hG0 w hgw) hbk) hI0 hfin hrd (hGG w hgw) (hGX w hgw)
      (fun k x hI p hp => (hMM k x hI p hp).imp (fun h => by rw [hM0] at h; have := hm.lt h; omega) id) (fun c z hI p hp => (hMX c z hI p hp).imp (fun h => by rw [hM0] at h; have := hm.lt h; omega) id)
      (fun k av x W1 hav hI => hbody k av x _ _ _ _ W1 h0 (by omega) (fun k x v hv hl => ⟨hGG w hgw k x _ _ hv.1 (Bk.put hl (by omega) rfl rfl), hv.2.put (by omega) _⟩) rfl hav hI))
      (fun x hI => hdone x _ h0 hI) (fun z hI => hret z _ h0 hI) (fun id z hI => hexit id z _ h0 hI)

end range
end Go.Eng
