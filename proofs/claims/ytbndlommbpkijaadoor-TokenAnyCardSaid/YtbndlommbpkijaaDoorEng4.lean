/- The calculus, fourth part: a region that draws its order. What may be carried out early or late without any difference is walked first; what is left has one order. No condition. -/
import Derived.Test.YtbndlommbpkijaaDoorEng3
namespace Go.Eng
open Go Go.RowKit

section
variable {P : Program} {r : Option Nat} {ops : Array Oper}

/-- Only the plain end counts. -/
def Qn (Q : Exit → Act → World → Prop) : Exit → Act → World → Prop
  | .normal, a, w => Q .normal a w
  | _, _, _ => False

/-- In the state a the operation yields v in each world of the class, and leaves it as it is; or it isn't carried out. -/
def YA (P : Program) (ops : Array Oper) (D : World → Prop) (o : Oper) (v : Value) (a : Act) : Prop :=
  (Region.wanted o (yielded ops a.tmps) = true ∧ nd o.op = true ∧ ∀ w, D w → (execOp a.eval o).run P w = .ok (.value v) w) ∨
  (Region.wanted o (yielded ops a.tmps) = false ∧ v = undef)

theorem YA.wpOp {D : World → Prop} {i : Nat} {o : Oper} {v : Value} {a : Act} {w : World} {Q : Exit → Act → World → Prop} {K : Act → World → Prop}
    (hi : ops[i]? = some o) (hy : YA P ops D o v a) (hw : D w) (h : K (a.put o.dst v) w) : wpOpIn (Wd r) 0 P ops Q i K a w := by
  unfold wpOpIn
  simp only [hi]
  rcases hy with ⟨h1, h2, h3⟩ | ⟨h1, rfl⟩
  · rw [if_pos h1]; exact wp_val h2 (h3 w hw) h
  · rw [if_neg (by rw [h1]; simp)]; exact ⟨fun _ _ => trivial, h⟩

theorem YA.put {D : World → Prop} {oi oj : Oper} {v u : Value} {a : Act} (hsi : ∀ cs b, oi.op ≠ .select cs b) (hap : oi.apart ops oj = true) (hy : YA P ops D oi v a) : YA P ops D oi v (a.put oj.dst u) := by
  obtain ⟨_, _, h3⟩ := Oper.apart_spec hap
  unfold YA at *
  rw [wanted_put oi a oj.dst u h3, execOp_put oi hsi a oj.dst u h3]
  exact hy

/-- Operation j, carried out ahead of i: as behind it. -/
theorem wpOp_swap {D : World → Prop} {j : Nat} {oi oj : Oper} {v : Value} {Q : Exit → Act → World → Prop} {K : Act → World → Prop} {a : Act} {w : World}
    (hj : ops[j]? = some oj) (hap : oi.apart ops oj = true) (hsi : ∀ cs b, oi.op ≠ .select cs b) (hsj : ∀ cs b, oj.op ≠ .select cs b) (hdj : nd oj.op = true)
    (hy : YA P ops D oi v a) (h : wpOpIn (Wd r) 0 P ops (Qn Q) j K (a.put oi.dst v) w) :
    wpOpIn (Wd r) 0 P ops (Qn Q) j (fun a' w' => YA P ops D oi v a' ∧ K (a'.put oi.dst v) w') a w := by
  obtain ⟨h1, h2, _⟩ := Oper.apart_spec hap
  unfold wpOpIn at *
  simp only [hj] at *
  rw [wanted_put oj a oi.dst v h1] at h
  by_cases hw : Region.wanted oj (yielded ops a.tmps) = true
  · rw [if_pos hw] at h ⊢
    refine ⟨fun _ _ => trivial, ?_⟩
    have h := h.2
    rw [semAt_nd hdj, execOp_put oj hsj a oi.dst v h1] at h
    rw [semAt_nd hdj]
    generalize (execOp a.eval oj).run P w = res at *
    cases res with
    | ok x w' =>
      cases x <;> simp only [Oper.uponIn] at h ⊢
      case value u => exact ⟨hy.put hsi hap, by rw [← Act.put_comm a v u h2]; exact h⟩
      case skip => exact ⟨hy.put hsi hap, by rw [← Act.put_comm a v undef h2]; exact h⟩
      case defer d =>
        refine ⟨?_, ?_⟩
        · have h4 : YA P ops D oi v { a with defers := d :: a.defers } := hy
          exact h4.put hsi hap
        · rw [← Act.put_comm _ v undef h2, ← Act.put_defers]; exact h
      case enter f args =>
        refine ⟨h.1, CallsIn.mono h.2 fun en w'' he => ?_⟩
        cases en with
        | returned u => exact ⟨hy.put hsi hap, by rw [← Act.put_comm a v u h2]; exact he⟩
        | panicked c => exact he
        | outgrown => exact he
      case row row args => exact ⟨h.1, RowsIn.mono h.2 fun u w'' he => ⟨hy.put hsi hap, by rw [← Act.put_comm a v u h2]; exact he⟩⟩
      case round l f tmps assign body =>
        refine ⟨h.1, RoundIn.mono h.2 fun en w'' he => ?_⟩
        cases en with
        | returned u => exact ⟨hy.put hsi hap, by rw [← Act.put_comm a v u h2]; exact he⟩
        | panicked c => exact he
        | outgrown => exact he
    | halt x w' => cases x <;> simp only [Oper.uponIn] at h ⊢ <;> exact h
  · rw [if_neg hw] at h ⊢
    exact ⟨fun _ _ => trivial, hy.put hsi hap, by rw [← Act.put_comm a v undef h2]; exact h.2⟩

/-- The walk of all orders; as long as no operation of the tail has been carried out the world is of the class. -/
def WS (P : Program) (r : Option Nat) (ops : Array Oper) (Q : Exit → Act → World → Prop) (C : World → Prop) (tl : Nat → Bool) : Nat → Array Bool → Act → World → Prop
  | 0, listed, a, w => ((∀ i, tl i = true → listed.getD i false = false) → C w) ∧ Region.ready .any ops listed = [] ∧ Q .normal a w
  | n + 1, listed, a, w => ((∀ i, tl i = true → listed.getD i false = false) → C w) ∧ (Region.ready .any ops listed = [] → Q .normal a w) ∧
    ∀ i ∈ Region.ready .any ops listed, wpOpIn (Wd r) 0 P ops (Qn Q) i (WS P r ops Q C tl n (listed.setIfInBounds i true)) a w

theorem WS.cls {Q : Exit → Act → World → Prop} {C : World → Prop} {tl : Nat → Bool} {n : Nat} {listed : Array Bool} {a : Act} {w : World} (h : WS P r ops Q C tl n listed a w) (ht : ∀ i, tl i = true → listed.getD i false = false) : C w := by
  cases n with
  | zero => exact h.1 ht
  | succ n => exact h.1 ht

theorem WS.any {Q : Exit → Act → World → Prop} {C : World → Prop} {tl : Nat → Bool} : ∀ (n : Nat) (listed : Array Bool) (a : Act) (w : World), WS P r ops Q C tl n listed a w → wpAnyIn (Wd r) 0 P .any ops (Qn Q) n listed a w
  | 0, _, _, _, h => ⟨h.2.1, h.2.2⟩
  | n + 1, _, _, _, h => ⟨h.2.1, fun i hi => wpOpIn_mono (fun a w => WS.any n _ a w) (h.2.2 i hi)⟩

theorem unlisted_set {listed : Array Bool} {i j : Nat} (h : i ≠ j) (hi : listed.getD i false = false) : (listed.setIfInBounds j true).getD i false = false := by
  rw [getD_set_ne false (Ne.symm h)]; exact hi

/-- Behind another one, by edges that bind. -/
def depOf (ops : Array Oper) : Nat → Nat → Nat → Bool
  | 0, _, _ => false
  | n + 1, j, i => match ops[j]? with | some o => o.after.any (fun ed => Region.binds .any ed && (ed.on == i || depOf ops n ed.on i)) | none => false
def Closed (ops : Array Oper) (listed : Array Bool) : Prop := ∀ (q : Nat) (o : Oper), listed.getD q false = true → ops[q]? = some o → ∀ ed ∈ o.after, Region.binds .any ed = true → listed.getD ed.on false = true
theorem Closed.dep {listed : Array Bool} (h : Closed ops listed) : ∀ (n j i : Nat), listed.getD j false = true → depOf ops n j i = true → listed.getD i false = true
  | 0, _, _, _, hd => by simp [depOf] at hd
  | n + 1, j, i, hj, hd => by
    simp only [depOf] at hd
    cases ho : ops[j]? with
    | none => rw [ho] at hd; cases hd
    | some o =>
      rw [ho] at hd
      obtain ⟨ed, he, hb⟩ := Array.any_eq_true'.1 hd
      simp only [Bool.and_eq_true, Bool.or_eq_true, beq_iff_eq] at hb
      have h1 := h j o hj ho ed he hb.1
      rcases hb.2 with h2 | h2
      · rw [← h2]; exact h1
      · exact Closed.dep h n ed.on i h1 h2
theorem Closed.ready {listed : Array Bool} (h : Closed ops listed) {n j i : Nat} (hj : j ∈ Region.ready .any ops listed) (hd : depOf ops n j i = true) : listed.getD i false = true := by
  obtain ⟨_, o, ho, hall⟩ := mem_ready.1 hj
  cases n with
  | zero => simp [depOf] at hd
  | succ n =>
    simp only [depOf, ho] at hd
    obtain ⟨ed, he, hb⟩ := Array.any_eq_true'.1 hd
    simp only [Bool.and_eq_true, Bool.or_eq_true, beq_iff_eq] at hb
    have h1 := hall ed he hb.1
    rcases hb.2 with h2 | h2
    · rw [← h2]; exact h1
    · exact h.dep n ed.on i h1 h2
theorem Closed.set {listed : Array Bool} (h : Closed ops listed) {j : Nat} (hj : j ∈ Region.ready .any ops listed) : Closed ops (listed.setIfInBounds j true) := fun q o hq ho ed he hb => by
  by_cases e : j = q
  · subst e
    obtain ⟨_, o', ho', hall⟩ := mem_ready.1 hj
    rw [ho] at ho'; cases ho'
    exact getD_set_true (hall ed he hb)
  · rw [getD_set_ne false e] at hq
    exact getD_set_true (h q o hq ho ed he hb)
/-- An operation that yields v whenever it is carried out may be taken first. -/
theorem WS.first {Q : Exit → Act → World → Prop} {C D : World → Prop} {tl : Nat → Bool} {i : Nat} {oi : Oper} {v : Value} (hi : ops[i]? = some oi) (hti : tl i = false)
    (hsel : ∀ (j : Nat) (o : Oper) cs b, ops[j]? = some o → o.op ≠ .select cs b) (hnd : ∀ (j : Nat) (o : Oper), ops[j]? = some o → nd o.op = true)
    (hD : (∀ w, D w) ∨ ((∀ w, C w → D w) ∧ ∀ (j : Nat) (o : Oper), ops[j]? = some o → tl j = true → (∃ ed ∈ o.after, Region.binds .any ed = true ∧ tl ed.on = true) ∨ depOf ops 40 j i = true)) :
    ∀ (n : Nat) (listed : Array Bool) (a : Act) (w : World), Closed ops listed → C w → (∀ i, tl i = true → listed.getD i false = false) →
      (∀ j oj, ops[j]? = some oj → j ≠ i → listed.getD j true = false → (∀ ed ∈ oj.after, Region.binds .any ed = true → ed.on ≠ i) → oi.apart ops oj = true) →
      i ∈ Region.ready .any ops listed → YA P ops D oi v a →
      WS P r ops Q C tl n (listed.setIfInBounds i true) (a.put oi.dst v) w → WS P r ops Q C tl (n + 1) listed a w := by
  have hCD : ∀ w, C w → D w := fun w hw => hD.elim (fun h => h w) (fun h => h.1 w hw)
  -- the pure case speaks of worlds behind the tail, too: one induction on a weaker premise
  have key : ∀ (n : Nat) (listed : Array Bool) (a : Act) (w : World), Closed ops listed → ((∀ i, tl i = true → listed.getD i false = false) → C w) → D w →
      ((∀ w, D w) ∨ ∀ i, tl i = true → listed.getD i false = false) →
      (∀ j oj, ops[j]? = some oj → j ≠ i → listed.getD j true = false → (∀ ed ∈ oj.after, Region.binds .any ed = true → ed.on ≠ i) → oi.apart ops oj = true) →
      i ∈ Region.ready .any ops listed → YA P ops D oi v a →
      WS P r ops Q C tl n (listed.setIfInBounds i true) (a.put oi.dst v) w → WS P r ops Q C tl (n + 1) listed a w := by
    intro n
    induction n with
    | zero =>
      intro listed a w hcl hC hDw _ _ hr hy H
      refine ⟨hC, fun h => (by rw [h] at hr; cases hr), fun j hj => ?_⟩
      by_cases hji : j = i
      · subst hji; exact hy.wpOp hi hDw H
      · have := ready_mono hj hji
        rw [H.2.1] at this
        cases this
    | succ n ih =>
      intro listed a w hcl hC hDw htl hfree hr hy H
      refine ⟨hC, fun h => (by rw [h] at hr; cases hr), fun j hj => ?_⟩
      by_cases hji : j = i
      · subst hji; exact hy.wpOp hi hDw H
      · have h1 := H.2.2 j (ready_mono hj hji)
        obtain ⟨hjun, oj, hoj, hall⟩ := mem_ready.1 hj
        have hnot : ∀ ed ∈ oj.after, Region.binds .any ed = true → ed.on ≠ i := fun ed he hb heq => by
          have h1 := hall ed he hb
          have h0 := (mem_ready.1 hr).1
          rw [heq] at h1
          rcases Nat.lt_or_ge i listed.size with h' | h'
          · simp [h'] at h0 h1; rw [h0] at h1; cases h1
          · simp [Array.getElem?_eq_none h'] at h1
        have h2 := wpOp_swap hoj (hfree j oj hoj hji hjun hnot) (fun cs b => hsel i oi cs b hi) (fun cs b => hsel j oj cs b hoj) (hnd j oj hoj) hy h1
        have hfree' : ∀ k ok, ops[k]? = some ok → k ≠ i → (listed.setIfInBounds j true).getD k true = false →
            (∀ ed ∈ ok.after, Region.binds .any ed = true → ed.on ≠ i) → oi.apart ops ok = true := fun k ok hk hki hun hno => by
          refine hfree k ok hk hki ?_ hno
          by_cases hjk : j = k
          · subst hjk; exact hjun
          · rw [getD_set_ne true hjk] at hun; exact hun
        refine wpOpIn_mono (fun a' w' h3 => ?_) h2
        have h4 : WS P r ops Q C tl n ((listed.setIfInBounds j true).setIfInBounds i true) (a'.put oi.dst v) w' := by
          rw [Array.setIfInBounds_comm _ _ hji]; exact h3.2
        have hback : ∀ q, tl q = true → (listed.setIfInBounds j true).getD q false = false → ((listed.setIfInBounds j true).setIfInBounds i true).getD q false = false := fun q hq hu =>
          unlisted_set (fun e => by subst e; rw [hti] at hq; cases hq) hu
        have hC' : (∀ q, tl q = true → (listed.setIfInBounds j true).getD q false = false) → C w' := fun ht => h4.cls (fun q hq => hback q hq (ht q hq))
        have htl' : (∀ w, D w) ∨ ∀ q, tl q = true → (listed.setIfInBounds j true).getD q false = false := by
          rcases hD with hD | ⟨_, hD⟩
          · exact .inl hD
          · rcases htl with htl | htl
            · exact .inl htl
            · refine .inr fun q hq => ?_
              by_cases hqj : q = j
              · subst hqj
                rcases hD q oj hoj hq with ⟨ed, hed, hb, hon⟩ | hdep
                · have h1 := hall ed hed hb
                  have h0 := htl ed.on hon
                  rw [h1] at h0; cases h0
                · have h1 := hcl.ready hj hdep
                  have h0 := (mem_ready.1 hr).1
                  rcases Nat.lt_or_ge i listed.size with h' | h'
                  · simp [h'] at h0 h1; rw [h0] at h1; cases h1
                  · simp [Array.getElem?_eq_none h'] at h1
              · exact unlisted_set hqj (htl q hq)
        refine ih (listed.setIfInBounds j true) a' w' (hcl.set hj) hC' ?_ htl' hfree' (ready_mono hr (Ne.symm hji)) h3.1 h4
        rcases htl' with h | h
        · exact h w'
        · exact hCD w' (hC' h)
  intro n listed a w hcl hC ht hfree hr hy H
  exact key n listed a w hcl (fun _ => hC) (hCD w hC) (.inr ht) hfree hr hy H

/-- The walk in one order. Each number with a kind: 0 it yields its value in whatever world; 1 in each world of the class; 2 it stands alone, and keeps the class; else: it and all behind it stand alone. -/
def LDA (P : Program) (r : Option Nat) (ops : Array Oper) (Q : Exit → Act → World → Prop) : (World → Prop) → List (Nat × Nat) → Act → Prop
  | C, [], a => ∀ w, C w → Q .normal a w
  | C, (i, k) :: l, a =>
    match ops[i]? with
    | none => False
    | some o =>
      match k with
      | 0 => ∃ v, YA P ops (fun _ => True) o v a ∧ LDA P r ops Q C l (a.put o.dst v)
      | 1 => ∃ v, YA P ops C o v a ∧ LDA P r ops Q C l (a.put o.dst v)
      | 2 => ∀ w, C w → wpOpIn (Wd r) 0 P ops (Qn Q) i (fun a' w' => ∃ C' : World → Prop, (∀ w, C' w → C w) ∧ C' w' ∧ LDA P r ops Q C' l a') a w
      | _ => ∀ w, C w → wpListIn (Wd r) 0 P ops (Qn Q) (((i, k) :: l).filterMap fun p => ops[p.1]?) a w

theorem WS.weaken {Q : Exit → Act → World → Prop} {C C' : World → Prop} {tl : Nat → Bool} (h : ∀ w, C' w → C w) : ∀ (n : Nat) (listed : Array Bool) (a : Act) (w : World), WS P r ops Q C' tl n listed a w → WS P r ops Q C tl n listed a w
  | 0, _, _, _, k => ⟨fun ht => h _ (k.1 ht), k.2⟩
  | n + 1, _, _, _, k => ⟨fun ht => h _ (k.1 ht), k.2.1, fun i hi => wpOpIn_mono (fun a w => WS.weaken h n _ a w) (k.2.2 i hi)⟩

/-- Does an operation stand behind another one by an edge of its own? -/
def afterOf (ops : Array Oper) (j i : Nat) : Bool := match ops[j]? with | some o => o.after.any (fun ed => Region.binds .any ed && ed.on == i) | none => false

def tailOf (ord : List (Nat × Nat)) (i : Nat) : Bool := ord.any fun p => p.1 == i && decide (3 ≤ p.2)

/-- One order is the only one, but for what may be carried out early or late. -/
def chkD (ops : Array Oper) (full : List (Nat × Nat)) : List (Nat × Nat) → Array Bool → Bool
  | [], listed => Region.ready .any ops listed == []
  | (i, k) :: l, listed =>
    (match k with
      | 0 => Region.free .any ops listed i && (Region.ready .any ops listed).contains i
      | 1 => Region.free .any ops listed i && (Region.ready .any ops listed).contains i && full.all (fun p => decide (p.2 < 3) || depOf ops 40 p.1 i || full.any (fun q => decide (3 ≤ q.2) && afterOf ops p.1 q.1))
      | 2 => Region.ready .any ops listed == [i]
      | _ => Region.ready .any ops listed == [i] && l.all (fun p => decide (3 ≤ p.2))) &&
    chkD ops full l (listed.setIfInBounds i true)

def noDefer (ops : Array Oper) : Bool := ops.all fun o => nd o.op

theorem tail_ws {Q : Exit → Act → World → Prop} {C : World → Prop} {tl : Nat → Bool} {full : List (Nat × Nat)} : ∀ (l : List (Nat × Nat)) (listed : Array Bool) (a : Act) (w : World), l.all (fun p => decide (3 ≤ p.2)) = true → chkD ops full l listed = true →
    (∀ p ∈ l, ops[p.1]?.isSome = true) → (∃ i, tl i = true ∧ listed.getD i false = true) → wpListIn (Wd r) 0 P ops (Qn Q) (l.filterMap fun p => ops[p.1]?) a w → WS P r ops Q C tl l.length listed a w
  | [], listed, a, w, _, hc, _, ⟨i, h1, h2⟩, h => by
    simp only [chkD, beq_iff_eq] at hc
    exact ⟨fun ht => absurd (ht i h1) (by rw [h2]; simp), hc, h⟩
  | (i, k) :: l, listed, a, w, hk, hc, hs, ⟨q, h1, h2⟩, h => by
    simp only [List.all_cons, Bool.and_eq_true, decide_eq_true_eq] at hk
    obtain ⟨m, rfl⟩ : ∃ m, k = m + 3 := ⟨k - 3, by omega⟩
    simp only [chkD, Bool.and_eq_true, beq_iff_eq] at hc
    obtain ⟨⟨hr, _⟩, hc⟩ := hc
    obtain ⟨o, ho⟩ := Option.isSome_iff_exists.1 (hs (i, m + 3) (List.mem_cons_self ..))
    simp only at ho
    refine ⟨fun ht => absurd (ht q h1) (by rw [h2]; simp), fun h0 => (by rw [hr] at h0; cases h0), fun j hj => ?_⟩
    rw [hr] at hj
    obtain rfl : j = i := by simpa using hj
    have h3 : wpListIn (Wd r) 0 P ops (Qn Q) (o :: l.filterMap fun p => ops[p.1]?) a w := by simpa [List.filterMap_cons, ho] using h
    have hnext : ∀ a w, wpListIn (Wd r) 0 P ops (Qn Q) (l.filterMap fun p => ops[p.1]?) a w → WS P r ops Q C tl l.length (listed.setIfInBounds j true) a w := fun a w h =>
      tail_ws l _ a w hk.2 hc (fun p hp => hs p (List.mem_cons_of_mem _ hp)) ⟨q, h1, getD_set_true h2⟩ h
    unfold wpOpIn
    rw [ho]
    unfold wpListIn at h3
    simp only
    split
    · rename_i hw; rw [if_pos hw] at h3; exact Oper.wpIn_mono hnext h3
    · rename_i hw; rw [if_neg hw] at h3; exact ⟨fun _ _ => trivial, hnext _ _ h3.2⟩

theorem ws_of_lda {Q : Exit → Act → World → Prop} {C : World → Prop} {full : List (Nat × Nat)} (hsel : Region.noSelect ops = true) (hnd : noDefer ops = true) :
    ∀ (l : List (Nat × Nat)) (listed : Array Bool) (a : Act) (w : World), (∀ p ∈ l, p ∈ full) → (∀ p q, p ∈ full → q ∈ full → p.1 = q.1 → p = q) → (∀ i, tailOf full i = true → listed.getD i false = false) → (∀ p ∈ l, p.1 < listed.size) → chkD ops full l listed = true → Closed ops listed → C w → LDA P r ops Q C l a → WS P r ops Q C (tailOf full) l.length listed a w
  | [], listed, a, w, _, _, _, _, hc, _, hC, h => by
    simp only [chkD, beq_iff_eq] at hc
    exact ⟨fun _ => hC, hc, h w hC⟩
  | (i, k) :: l, listed, a, w, hsub, huniq, hun, hlt, hc, hcl, hC, h => by
    simp only [LDA] at h
    cases ho : ops[i]? with
    | none => rw [ho] at h; exact h.elim
    | some o =>
      rw [ho] at h
      simp only at h
      have hnd' : ∀ (j : Nat) (o : Oper), ops[j]? = some o → nd o.op = true := fun j o hj => (Array.all_eq_true_iff_forall_mem.1 hnd) o (Array.mem_of_getElem? hj)
      have hti : k < 3 → tailOf full i = false := fun hk => by
        rw [Bool.eq_false_iff]
        intro ht
        obtain ⟨p, hp, hp2⟩ := List.any_eq_true.1 ht
        simp only [Bool.and_eq_true, beq_iff_eq, decide_eq_true_eq] at hp2
        have := huniq p (i, k) hp (hsub _ (List.mem_cons_self ..)) hp2.1
        subst this
        simp only at hp2
        omega
      have hun' : k < 3 → ∀ q, tailOf full q = true → (listed.setIfInBounds i true).getD q false = false := fun hk q hq =>
        unlisted_set (fun e => by subst e; rw [hti hk] at hq; cases hq) (hun q hq)
      have hsub' : ∀ p ∈ l, p ∈ full := fun p hp => hsub p (List.mem_cons_of_mem _ hp)
      have hlt' : ∀ p ∈ l, p.1 < (listed.setIfInBounds i true).size := fun p hp => by rw [Array.size_setIfInBounds]; exact hlt p (List.mem_cons_of_mem _ hp)
      match k, h, hc with
      | 0, ⟨v, hy, hl⟩, hc =>
        simp only [chkD, Bool.and_eq_true] at hc
        obtain ⟨⟨hf, hr⟩, hc⟩ := hc
        exact WS.first ho (hti (by omega)) (Region.noSelect_spec hsel) hnd' (D := fun _ => True) (.inl fun _ => trivial) l.length listed a w hcl hC hun (Region.free_spec ho hf) (by simpa using hr) hy
          (ws_of_lda hsel hnd l _ _ w hsub' huniq (hun' (by omega)) hlt' hc (hcl.set (by simpa using hr)) hC hl)
      | 1, ⟨v, hy, hl⟩, hc =>
        simp only [chkD, Bool.and_eq_true] at hc
        obtain ⟨⟨⟨hf, hr⟩, ht⟩, hc⟩ := hc
        refine WS.first ho (hti (by omega)) (Region.noSelect_spec hsel) hnd' (D := C) (.inr ⟨fun _ h => h, fun j oj hj htj => ?_⟩) l.length listed a w hcl hC hun (Region.free_spec ho hf) (by simpa using hr) hy
          (ws_of_lda hsel hnd l _ _ w hsub' huniq (hun' (by omega)) hlt' hc (hcl.set (by simpa using hr)) hC hl)
        obtain ⟨p, hp, hp2⟩ := List.any_eq_true.1 htj
        simp only [Bool.and_eq_true, beq_iff_eq, decide_eq_true_eq] at hp2
        have h5 := List.all_eq_true.1 ht p hp
        simp only [Bool.or_eq_true, decide_eq_true_eq] at h5
        rcases h5 with (h5 | h5) | h5
        · omega
        · rw [hp2.1] at h5; exact .inr h5
        · obtain ⟨q, hq, hq2⟩ := List.any_eq_true.1 h5
          simp only [Bool.and_eq_true, decide_eq_true_eq] at hq2
          obtain ⟨hq3, h5⟩ := hq2
          simp only [afterOf, hp2.1, hj] at h5
          obtain ⟨ed, he, hb⟩ := Array.any_eq_true'.1 h5
          simp only [Bool.and_eq_true, beq_iff_eq] at hb
          exact .inl ⟨ed, he, hb.1, List.any_eq_true.2 ⟨q, hq, by simp only [Bool.and_eq_true, beq_iff_eq, decide_eq_true_eq]; exact ⟨hb.2.symm, hq3⟩⟩⟩
      | 2, h, hc =>
        simp only [chkD, Bool.and_eq_true, beq_iff_eq] at hc
        obtain ⟨hr, hc⟩ := hc
        refine ⟨fun _ => hC, fun h0 => (by rw [hr] at h0; cases h0), fun j hj => ?_⟩
        rw [hr] at hj
        obtain rfl : j = i := by simpa using hj
        exact wpOpIn_mono (fun a' w' ⟨C', hsubC, hC', hl⟩ => WS.weaken hsubC _ _ _ _ (ws_of_lda hsel hnd l _ a' w' hsub' huniq (hun' (by omega)) hlt' hc (hcl.set (by rw [hr]; simp)) hC' hl)) (h w hC)
      | k + 3, h, hc =>
        have hc0 := hc
        simp only [chkD, Bool.and_eq_true, beq_iff_eq] at hc
        obtain ⟨⟨hr, hall⟩, hc⟩ := hc
        have hkt : tailOf full i = true := List.any_eq_true.2 ⟨(i, k + 3), hsub _ (List.mem_cons_self ..), by simp⟩
        have hs : ∀ p ∈ l, ops[p.1]?.isSome = true := by
          have : ∀ (l : List (Nat × Nat)) (listed : Array Bool), chkD ops full l listed = true → ∀ p ∈ l, ops[p.1]?.isSome = true := by
            intro l
            induction l with
            | nil => intro _ _ p hp; cases hp
            | cons q l ih =>
              intro listed hc p hp
              obtain ⟨i, k⟩ := q
              rcases List.mem_cons.1 hp with rfl | hp
              · have hmem : i ∈ Region.ready .any ops listed := by
                  match k, hc with
                  | 0, hc => simp only [chkD, Bool.and_eq_true] at hc; simpa using hc.1.2
                  | 1, hc => simp only [chkD, Bool.and_eq_true] at hc; simpa using hc.1.1.2
                  | 2, hc => simp only [chkD, Bool.and_eq_true, beq_iff_eq] at hc; rw [hc.1]; simp
                  | k + 3, hc => simp only [chkD, Bool.and_eq_true, beq_iff_eq] at hc; rw [hc.1.1]; simp
                obtain ⟨_, o, ho, _⟩ := mem_ready.1 hmem
                simp [ho]
              · simp only [chkD, Bool.and_eq_true] at hc
                exact ih _ hc.2 p hp
          exact this l _ hc
        refine ⟨fun _ => hC, fun h0 => (by rw [hr] at h0; cases h0), fun j hj => ?_⟩
        rw [hr] at hj
        obtain rfl : j = i := by simpa using hj
        have h3 := h w hC
        have h3 : wpListIn (Wd r) 0 P ops (Qn Q) (o :: l.filterMap fun p => ops[p.1]?) a w := by simpa [List.filterMap_cons, ho] using h3
        have hlj : j < listed.size := hlt (j, k + 3) (List.mem_cons_self ..)
        have hnext : ∀ a w, wpListIn (Wd r) 0 P ops (Qn Q) (l.filterMap fun p => ops[p.1]?) a w → WS P r ops Q C (tailOf full) l.length (listed.setIfInBounds j true) a w := fun a w h =>
          tail_ws l _ a w hall hc hs ⟨j, hkt, by simp [hlj]⟩ h
        unfold wpOpIn
        rw [ho]
        unfold wpListIn at h3
        simp only
        split
        · rename_i hw; rw [if_pos hw] at h3; exact Oper.wpIn_mono hnext h3
        · rename_i hw; rw [if_neg hw] at h3; exact ⟨fun _ _ => trivial, hnext _ _ h3.2⟩
end

/-- All that is asked of the order at once. -/
def chkAll (ops : Array Oper) (ord : List (Nat × Nat)) : Bool :=
  Region.noSelect ops && noDefer ops && (ord.length == ops.size) && decide (ord.map (·.1)).Nodup && ord.all (fun p => decide (p.1 < ops.size)) && chkD ops ord ord (Array.replicate ops.size false)

section
variable {P : Program} {r : Option Nat} {N : Nat} {Q : Exit → Act → World → Prop} {e : Env} {ds : List Nat} {M : Mem0} {S : Nat → Prop} {w0 : World} {G : World → Prop}

def Cls (M : Mem0) (S : Nat → Prop) (w0 : World) (G : World → Prop) (w : World) : Prop := Mem w M ∧ Chg S w0 w ∧ G w

def LD (P : Program) (r : Option Nat) (N : Nat) (ops : Array Oper) (Q : Exit → Act → World → Prop) (ord : List (Nat × Nat)) (e : Env) (ds : List Nat) (M : Mem0) (S : Nat → Prop) (w0 : World) (G : World → Prop) : Prop :=
  ∀ a, Fr N e a → Dm ds a → LDA P r ops Q (Cls M S w0 G) ord a

theorem wpM.draw [GS G] {id : Nat} {ops : Array Oper} (ord : List (Nat × Nat)) (hm : P.follows .mixedOrders = true) (hc : chkAll ops ord = true) (h : LD P r N ops Q ord e ds M S w0 G) : wpM P r N (.region id ops true) Q e ds M S w0 G := fun w hw hcg hg a hf hd => by
  simp only [chkAll, Bool.and_eq_true, beq_iff_eq, decide_eq_true_eq] at hc
  obtain ⟨⟨⟨⟨⟨h1, h2⟩, h3⟩, h4⟩, h5⟩, h6⟩ := hc
  refine wpIn_mono (wpIn_region_any (Q := Qn Q) hm ?_) (fun x a w hq => ?_)
  · rw [← h3]
    refine WS.any _ _ a _ (ws_of_lda (full := ord) h1 h2 ord _ a _ (fun _ h => h) ?_ ?_ ?_ (h3 ▸ h6) (fun q o hq _ => by rw [Array.getD_eq_getD_getElem?, Array.getElem?_replicate] at hq; split at hq <;> cases hq) ⟨?_, ?_, ?_⟩ (h a hf hd))
    · intro p q hp hq hpq
      obtain ⟨i, hi⟩ := List.getElem?_of_mem hp
      obtain ⟨j, hj⟩ := List.getElem?_of_mem hq
      have e1 : (ord.map (·.1))[i]? = some p.1 := by simp [hi]
      have e2 : (ord.map (·.1))[j]? = some p.1 := by simp [hj, hpq]
      have := Mem.set.List.nodup_iff_injective_get? h4 e1 e2
      subst this
      rw [hi] at hj
      exact Option.some.inj hj
    · intro i _
      rw [Array.getD_eq_getD_getElem?, Array.getElem?_replicate]; split <;> rfl
    · intro p hp
      have := List.all_eq_true.1 h5 p hp
      simp only [decide_eq_true_eq] at this
      simp; omega
    · exact hw.ext (Chg.drew no w)
    · exact hcg.trans (Chg.drew S w)
    · exact GS.ext w _ hg (Chg.drew no w)
  · cases x <;> first | exact hq | exact hq.elim

section
variable {ops : Array Oper} {l : List (Nat × Nat)} {op : Op} {ty : TypeId} {pos : String} {after : Array Edge} {d : Nat} {v : Value} {i : Nat}
theorem LD.nil (h : QM N Q .normal e ds M S w0 G) : LD P r N ops Q [] e ds M S w0 G := fun a hf hd w hw => h w hw.1 hw.2.1 hw.2.2 a hf hd
theorem LD.sub {e' : Env} (hs : Sub e e') (h : LD P r N ops Q l e' ds M S w0 G) : LD P r N ops Q l e ds M S w0 G := fun a hf hd => h a (hf.sub hs) hd

/-- Is it carried out? -/
def Wtd (ops : Array Oper) (e : Env) (g : Option (Nat × Bool)) (b : Bool) : Prop :=
  match g with
  | none => b = true
  | some (j, c) => ∃ t u, (ops[j]?).bind (·.dst) = some t ∧ look e t = some (.bool u) ∧ (u == c) = b
theorem Wtd.wanted {o : Oper} {a : Act} {b : Bool} (h : Wtd ops e o.guard b) (hf : Fr N e a) : Region.wanted o (yielded ops a.tmps) = b := by
  cases ho : o.guard with
  | none => rw [ho] at h; simp only [Wtd] at h; simp [Region.wanted, ho, h]
  | some p =>
    obtain ⟨j, c⟩ := p
    rw [ho] at h
    obtain ⟨t, u, h1, h2, h3⟩ := h
    simp only [Region.wanted, ho, yielded, h1, Option.bind_some, hf.2 t _ h2]
    rw [← h3]; cases u <;> cases c <;> rfl
theorem LD.val {g : Option (Nat × Bool)} (hi : ops[i]? = some ⟨some d, op, ty, pos, after, g⟩) (hg : Wtd ops e g true) (hv : OpP P op ty e v) (h : LD P r N ops Q l ((d, v) :: e) ds M S w0 G) (hnd : nd op = true := by rfl) (hd : Nat.blt d N = true := by rfl) :
    LD P r N ops Q ((i, 0) :: l) e ds M S w0 G := fun a hf hdm => by
  simp only [LDA, hi]
  exact ⟨v, .inl ⟨hg.wanted hf, hnd, fun w _ => hv w a.eval (fun x u hx => hf.eval hx) _ _ _ _⟩, h _ (hf.put hd v) hdm⟩
theorem LD.rd {g : Option (Nat × Bool)} (hi : ops[i]? = some ⟨some d, op, ty, pos, after, g⟩) (hg : Wtd ops e g true) (hv : ∀ w, Mem w M → OpV P op ty e w v w) (h : LD P r N ops Q l ((d, v) :: e) ds M S w0 G) (hnd : nd op = true := by rfl) (hd : Nat.blt d N = true := by rfl) :
    LD P r N ops Q ((i, 1) :: l) e ds M S w0 G := fun a hf hdm => by
  simp only [LDA, hi]
  exact ⟨v, .inl ⟨hg.wanted hf, hnd, fun w hw => hv w hw.1 a.eval (fun x u hx => hf.eval hx) _ _ _ _⟩, h _ (hf.put hd v) hdm⟩
theorem LD.rdC {g : Option (Nat × Bool)} (hi : ops[i]? = some ⟨some d, op, ty, pos, after, g⟩) (hg : Wtd ops e g true) (hv : ∀ w, Mem w M → Chg S w0 w → G w → OpV P op ty e w v w) (h : LD P r N ops Q l ((d, v) :: e) ds M S w0 G) (hnd : nd op = true := by rfl) (hd : Nat.blt d N = true := by rfl) :
    LD P r N ops Q ((i, 1) :: l) e ds M S w0 G := fun a hf hdm => by
  simp only [LDA, hi]
  exact ⟨v, .inl ⟨hg.wanted hf, hnd, fun w hw => hv w hw.1 hw.2.1 hw.2.2 a.eval (fun x u hx => hf.eval hx) _ _ _ _⟩, h _ (hf.put hd v) hdm⟩
/-- What isn't carried out. -/
theorem LD.drop {g : Option (Nat × Bool)} {k : Nat} (hk : Nat.blt k 3 = true) (hi : ops[i]? = some ⟨some d, op, ty, pos, after, g⟩) (hg : Wtd ops e g false) (h : LD P r N ops Q l e ds M S w0 G) (hd : Nat.blt d N = true := by rfl) (hfresh : look e d = none := by rfl) :
    LD P r N ops Q ((i, k) :: l) e ds M S w0 G := fun a hf hdm => by
  have hf' : Fr N e (a.put (some d) undef) := ⟨by simp [Act.put]; exact hf.1, fun t u hu => by
    have h1 := (hf.put hd undef).2 t u
    rw [look_cons] at h1
    by_cases hdt : d = t
    · subst hdt; rw [hfresh] at hu; cases hu
    · rw [if_neg hdt] at h1; exact h1 hu⟩
  have hl := h _ hf' hdm
  have hw := hg.wanted (o := ⟨some d, op, ty, pos, after, g⟩) hf
  match k, hk with
  | 0, _ => simp only [LDA, hi]; exact ⟨undef, .inr ⟨hw, rfl⟩, hl⟩
  | 1, _ => simp only [LDA, hi]; exact ⟨undef, .inr ⟨hw, rfl⟩, hl⟩
  | 2, _ =>
    simp only [LDA, hi]
    intro w hC
    unfold wpOpIn
    rw [hi]
    simp only
    rw [if_neg (by rw [hw]; simp)]
    exact ⟨fun _ _ => trivial, Cls M S w0 G, fun _ h => h, hC, hl⟩
theorem LD.splitD {t : Nat} {p : Prop} [Decidable p] (ht : look e t = some (.bool (decide p))) (h1 : p → LD P r N ops Q l ((t, .bool true) :: e) ds M S w0 G) (h2 : ¬ p → LD P r N ops Q l ((t, .bool false) :: e) ds M S w0 G) :
    LD P r N ops Q l e ds M S w0 G := fun a hf hdm => by
  have key : ∀ c : Bool, decide p = c → Fr N ((t, .bool c) :: e) a := fun c hc => ⟨hf.1, fun k u hu => by
    rw [look_cons] at hu
    by_cases hk : t = k
    · subst hk; rw [if_pos rfl] at hu; rw [← hu, ← hc]; exact hf.2 _ _ ht
    · rw [if_neg hk] at hu; exact hf.2 k u hu⟩
  by_cases hp : p
  · exact h1 hp a (key _ (decide_eq_true hp)) hdm
  · exact h2 hp a (key _ (decide_eq_false hp)) hdm
theorem LD.splitB {t : Nat} {b : Bool} (ht : look e t = some (.bool b)) (h1 : b = true → LD P r N ops Q l ((t, .bool true) :: e) ds M S w0 G) (h2 : b = false → LD P r N ops Q l ((t, .bool false) :: e) ds M S w0 G) :
    LD P r N ops Q l e ds M S w0 G := fun a hf hdm => by
  have key : ∀ c : Bool, b = c → Fr N ((t, .bool c) :: e) a := fun c hc => ⟨hf.1, fun k u hu => by
    rw [look_cons] at hu
    by_cases hk : t = k
    · subst hk; rw [if_pos rfl] at hu; rw [← hu, ← hc]; exact hf.2 _ _ ht
    · rw [if_neg hk] at hu; exact hf.2 k u hu⟩
  cases b with
  | true => exact h1 rfl a (key _ rfl) hdm
  | false => exact h2 rfl a (key _ rfl) hdm
/-- A call that keeps what is known of the memory. -/
theorem LD.callG {g : Option (Nat × Bool)} {f : FuncId} {args : Array Value} {R : World → Value → World → Prop} (hi : ops[i]? = some ⟨some d, op, ty, pos, after, g⟩) (hg : Wtd ops e g true) (hc : ∀ w, OpC P op ty e w f args)
    (h : ∀ w, Mem w M → Chg S w0 w → G w → Ret P f args w (R w))
    (hk : ∀ w v w', Mem w M → Chg S w0 w → G w → R w v w' → ∃ M', (∀ w, Mem w M' → Mem w M) ∧ (Mem w' M' ∧ Chg S w0 w' ∧ G w') ∧ LD P r N ops Q l ((d, v) :: e) ds M' S w0 G) (hnd : nd op = true := by rfl) (hd : Nat.blt d N = true := by rfl) :
    LD P r N ops Q ((i, 2) :: l) e ds M S w0 G := fun a hf hdm => by
  simp only [LDA, hi]
  intro w hC
  unfold wpOpIn
  rw [hi]
  simp only
  rw [if_pos (hg.wanted (o := ⟨some d, op, ty, pos, after, g⟩) hf)]
  refine ⟨fun _ _ => trivial, ?_⟩
  rw [semAt_nd hnd, hc w a.eval (fun x u hx => hf.eval hx) _ _ _ _]
  refine ⟨fun h => (by cases h), ?_⟩
  have h2 : CallsIn Fence.wide 0 P f args w (fun en w' => ∃ v, en = .returned v ∧ R w v w') := callsIn_wide.2 (h w hC.1 hC.2.1 hC.2.2)
  have h3 : CallsIn (Wd r) 0 P f args w (fun en w' => ∃ v, en = .returned v ∧ R w v w') := h2
  refine CallsIn.mono h3 ?_
  rintro en w' ⟨v, rfl, hR⟩
  obtain ⟨M', hsub, hC', hl⟩ := hk w v w' hC.1 hC.2.1 hC.2.2 hR
  exact ⟨Cls M' S w0 G, fun w h => ⟨hsub w h.1, h.2⟩, hC', hl _ (hf.put hd v) hdm⟩
theorem LD.call {g : Option (Nat × Bool)} {f : FuncId} {args : Array Value} {R : World → Value → World → Prop} (hi : ops[i]? = some ⟨some d, op, ty, pos, after, g⟩) (hg : Wtd ops e g true) (hc : ∀ w, OpC P op ty e w f args)
    (h : ∀ w, Mem w M → Chg S w0 w → G w → Ret P f args w (R w))
    (hk : ∀ w v w', Mem w M → Chg S w0 w → G w → R w v w' → (Mem w' M ∧ Chg S w0 w' ∧ G w') ∧ LD P r N ops Q l ((d, v) :: e) ds M S w0 G) (hnd : nd op = true := by rfl) (hd : Nat.blt d N = true := by rfl) :
    LD P r N ops Q ((i, 2) :: l) e ds M S w0 G :=
  .callG hi hg hc h (fun w v w' hm hcg hG hR => ⟨M, fun _ h => h, hk w v w' hm hcg hG hR⟩) hnd hd
theorem LD.callE [GS G] {g : Option (Nat × Bool)} {f : FuncId} {args : Array Value} {v : Value} (hi : ops[i]? = some ⟨some d, op, ty, pos, after, g⟩) (hg : Wtd ops e g true) (hc : ∀ w, OpC P op ty e w f args) (h : ∀ w, Mem w M → Chg S w0 w → G w → Ret P f args w (fun u w' => u = v ∧ Ext w w'))
    (hk : LD P r N ops Q l ((d, v) :: e) ds M S w0 G) (hnd : nd op = true := by rfl) (hd : Nat.blt d N = true := by rfl) :
    LD P r N ops Q ((i, 2) :: l) e ds M S w0 G :=
  .call hi hg hc (fun w hm hcg hG => h w hm hcg hG) (fun w _ w' hm hcg hG ⟨hu, he⟩ => by rw [hu]; exact ⟨⟨hm.ext he, hcg.step he (fun _ _ q => q.elim), GS.ext w w' hG he⟩, hk⟩) hnd hd
/-- The tail: what stands alone, in its order. -/
theorem LD.tail {k : Nat} {lo : List Oper} (ho : (ops[i]?).isSome = true) (hl : ((i, k + 3) :: l).filterMap (fun p => ops[p.1]?) = lo) (h : LM P r N ops (Qn Q) lo e ds M S w0 G) : LD P r N ops Q ((i, k + 3) :: l) e ds M S w0 G := fun a hf hdm => by
  obtain ⟨o, ho⟩ := Option.isSome_iff_exists.1 ho
  simp only [LDA, ho]
  intro w hC
  rw [hl]
  exact h w hC.1 hC.2.1 hC.2.2 a hf hdm
theorem QM.qn (h : QM N Q .normal e ds M S w0 G) : QM N (Qn Q) .normal e ds M S w0 G := h
end
end
end Go.Eng
