/- A calculus of my own over the model's machine: a frame is known by a list of (temporary, value); one rule for each form of code. No condition. -/
import Derived.RangeFuncNested
import Derived.RangeFuncLeaves
import Derived.RangeFuncRecord
import Derived.RangeFuncCalls
import Derived.Below
import Derived.OrdersIn
import Derived.TacticsIn
import Derived.Laws.Entries
import Derived.Laws.AppendOwn
import Derived.Laws.Sem
import Derived.IntWalk
import Derived.Laws.MakeOwn
import Derived.Laws.OwnMore
import Derived.ArgAppend
import Derived.Laws.Pointers
import Derived.Laws.Tables
import Derived.ProofKit
import Derived.OpenShut
import Derived.ShutString
import Derived.ChangeOld
import Derived.DataElems
import Derived.MapKept
import Derived.Carry
set_option linter.unusedVariables false
set_option linter.unusedSimpArgs false
set_option maxRecDepth 100000
namespace Go.Eng
open Go Go.RowKit

abbrev Env := List (Nat × Value)

/-- The value of a temporary in a list. -/
def look : Env → Nat → Option Value
  | [], _ => none
  | (k, v) :: e, t => match Nat.beq k t with | true => some v | false => look e t

def ev (e : Env) : Operand → Option Value
  | .tmp t => look e t
  | .const v => some v
  | .global g => some (.pointer (some ⟨g, 0, none⟩))
  | .func f => some (.func (.func f) #[] #[])

/-- The frame a holds at least what the list says, and has at least N temporaries. -/
def Fr (N : Nat) (e : Env) (a : Act) : Prop := N ≤ a.tmps.size ∧ ∀ t v, look e t = some v → a.tmps[t]? = some v

def mark (D : Nat) : Deferred := { target := .collected D, args := #[] }
def Dm (ds : List Nat) (a : Act) : Prop := a.defers = ds.map mark

/-- The wide fence, in a round or not. -/
abbrev Wd (r : Option Nat) : Fence := { fn := fun _ => True, depth := none, alive := false, round := r }

def wpE (P : Program) (r : Option Nat) (N : Nat) (c : Code) (Q : Exit → Act → World → Prop) (e : Env) (ds : List Nat) (w : World) : Prop :=
  ∀ a, Fr N e a → Dm ds a → c.wpIn (Wd r) 0 P Q a w

def QE (N : Nat) (Q : Exit → Act → World → Prop) (x : Exit) (e : Env) (ds : List Nat) (w : World) : Prop :=
  ∀ a, Fr N e a → Dm ds a → Q x a w

def LE (P : Program) (r : Option Nat) (N : Nat) (ops : Array Oper) (Q : Exit → Act → World → Prop) (l : List Oper) (e : Env) (ds : List Nat) (w : World) : Prop :=
  ∀ a, Fr N e a → Dm ds a → wpListIn (Wd r) 0 P ops Q l a w

theorem Fr.eval {N : Nat} {e : Env} {a : Act} (h : Fr N e a) {x : Operand} {v : Value} (hx : ev e x = some v) : a.eval x = v := by
  cases x with
  | tmp t =>
    have := h.2 t v hx
    show a.tmps.getD t undef = v
    rw [Array.getD_eq_getD_getElem?, this]; rfl
  | const u => exact Option.some.inj hx
  | global g => exact Option.some.inj hx
  | func f => exact Option.some.inj hx

theorem look_cons (d : Nat) (v : Value) (e : Env) (t : Nat) : look ((d, v) :: e) t = if d = t then some v else look e t := by
  simp only [look]
  by_cases h : d = t
  · subst h; simp
  · have : Nat.beq d t = false := by
      rw [Bool.eq_false_iff]; intro hb; exact h (Nat.eq_of_beq_eq_true hb)
    rw [this, if_neg h]

theorem Fr.put {N : Nat} {e : Env} {a : Act} (h : Fr N e a) {d : Nat} (hd : Nat.blt d N = true) (v : Value) : Fr N ((d, v) :: e) (a.put (some d) v) := by
  have hdN : d < N := Nat.le_of_ble_eq_true hd
  refine ⟨by simp [Act.put]; exact h.1, fun t u hu => ?_⟩
  rw [look_cons] at hu
  simp only [Act.put]
  by_cases hdt : d = t
  · subst hdt
    rw [if_pos rfl] at hu
    obtain rfl := Option.some.inj hu
    exact Array.getElem?_setIfInBounds_self_of_lt (Nat.lt_of_lt_of_le hdN h.1)
  · rw [if_neg hdt] at hu
    rw [Array.getElem?_setIfInBounds_ne hdt]
    exact h.2 t u hu

theorem Fr.putN {N : Nat} {e : Env} {a : Act} (h : Fr N e a) (v : Value) : Fr N e (a.put none v) := h

/-- The list e' says no more than e. -/
def Sub (e : Env) : Env → Prop
  | [] => True
  | p :: l => look e p.1 = some p.2 ∧ Sub e l

theorem Sub.mem {e : Env} : ∀ {e' : Env}, Sub e e' → ∀ t v, look e' t = some v → look e t = some v
  | [], _, t, v, h => by simp [look] at h
  | (k, u) :: l, h, t, v, hv => by
    rw [look_cons] at hv
    by_cases hk : k = t
    · subst hk; rw [if_pos rfl] at hv; obtain rfl := Option.some.inj hv; exact h.1
    · rw [if_neg hk] at hv; exact Sub.mem h.2 t v hv

theorem Fr.sub {N : Nat} {e e' : Env} {a : Act} (h : Fr N e a) (hs : Sub e e') : Fr N e' a := ⟨h.1, fun t v hv => h.2 t v (hs.mem t v hv)⟩

section
variable {P : Program} {r : Option Nat} {N : Nat} {Q : Exit → Act → World → Prop} {e : Env} {ds : List Nat} {w : World}

theorem wpE.sub {c : Code} {e' : Env} (hs : Sub e e') (h : wpE P r N c Q e' ds w) : wpE P r N c Q e ds w := fun a hf hd => h a (hf.sub hs) hd
theorem QE.sub {x : Exit} {e' : Env} (hs : Sub e e') (h : QE N Q x e' ds w) : QE N Q x e ds w := fun a hf hd => h a (hf.sub hs) hd
theorem LE.sub {ops : Array Oper} {l : List Oper} {e' : Env} (hs : Sub e e') (h : LE P r N ops Q l e' ds w) : LE P r N ops Q l e ds w := fun a hf hd => h a (hf.sub hs) hd

/-! ### The forms of code -/
theorem wpE.seq {x y : Code} (h : wpE P r N x (Exit.then (y.wpIn (Wd r) 0 P Q) Q) e ds w) : wpE P r N (.seq x y) Q e ds w := fun a hf hd => wpIn_seq (h a hf hd)
theorem wpE.skip (h : QE N Q .normal e ds w) : wpE P r N .skip Q e ds w := fun a hf hd => wpIn_skip (h a hf hd)
theorem wpE.exit {id : Nat} (h : QE N Q (.exit id) e ds w) : wpE P r N (.exit id) Q e ds w := fun a hf hd => wpIn_exit (h a hf hd)
theorem wpE.ret (h : QE N Q .ret e ds w) : wpE P r N .ret Q e ds w := fun a hf hd => wpIn_ret (h a hf hd)
theorem wpE.block {id : Nat} {c : Code} (h : wpE P r N c (Exit.inBlock id Q) e ds w) : wpE P r N (.block id c) Q e ds w := fun a hf hd => wpIn_block (h a hf hd)
theorem wpE.region {id : Nat} {l : List Oper} (h : LE P r N l.toArray Q l e ds w) : wpE P r N (.region id l.toArray false) Q e ds w := fun a hf hd => wpIn_region_lit (h a hf hd)
theorem wpE.condT {c : Operand} {x y : Code} (hc : ev e c = some (.bool true)) (h : wpE P r N x Q e ds w) : wpE P r N (.cond c x y) Q e ds w :=
  fun a hf hd => wpIn_cond_true (hf.eval hc) (h a hf hd)
theorem wpE.condF {c : Operand} {x y : Code} (hc : ev e c = some (.bool false)) (h : wpE P r N y Q e ds w) : wpE P r N (.cond c x y) Q e ds w :=
  fun a hf hd => wpIn_cond_false (hf.eval hc) (h a hf hd)
theorem wpE.condD {p : Prop} [Decidable p] {c : Operand} {x y : Code} (hc : ev e c = some (.bool (decide p))) (h1 : p → wpE P r N x Q e ds w) (h2 : ¬ p → wpE P r N y Q e ds w) :
    wpE P r N (.cond c x y) Q e ds w := fun a hf hd => by
  by_cases hp : p
  · exact wpIn_cond_true (by rw [hf.eval hc, decide_eq_true hp]) (h1 hp a hf hd)
  · exact wpIn_cond_false (by rw [hf.eval hc, decide_eq_false hp]) (h2 hp a hf hd)
theorem wpE.condB {b : Bool} {c : Operand} {x y : Code} (hc : ev e c = some (.bool b)) (h1 : b = true → wpE P r N x Q e ds w) (h2 : b = false → wpE P r N y Q e ds w) :
    wpE P r N (.cond c x y) Q e ds w := fun a hf hd => by
  cases b with
  | true => exact wpIn_cond_true (hf.eval hc) (h1 rfl a hf hd)
  | false => exact wpIn_cond_false (hf.eval hc) (h2 rfl a hf hd)

/-! ### Where a piece of code is left -/
theorem QE.then {y : Code} (h : wpE P r N y Q e ds w) : QE N (Exit.then (y.wpIn (Wd r) 0 P Q) Q) .normal e ds w := h
theorem QE.then_exit {K : Act → World → Prop} {id : Nat} (h : QE N Q (.exit id) e ds w) : QE N (Exit.then K Q) (.exit id) e ds w := h
theorem QE.then_ret {K : Act → World → Prop} (h : QE N Q .ret e ds w) : QE N (Exit.then K Q) .ret e ds w := h
theorem QE.block_normal {id : Nat} (h : QE N Q .normal e ds w) : QE N (Exit.inBlock id Q) .normal e ds w := h
theorem QE.block_ret {id : Nat} (h : QE N Q .ret e ds w) : QE N (Exit.inBlock id Q) .ret e ds w := h
theorem QE.block_hit {id : Nat} (h : QE N Q .normal e ds w) : QE N (Exit.inBlock id Q) (.exit id) e ds w := fun a hf hd => by
  simp only [Exit.inBlock]; simpa using h a hf hd
theorem QE.block_miss {id k : Nat} (hk : Nat.beq k id = false) (h : QE N Q (.exit k) e ds w) : QE N (Exit.inBlock id Q) (.exit k) e ds w := fun a hf hd => by
  have hne : ¬ k = id := fun e => by subst e; simp at hk
  have := h a hf hd
  simp only [Exit.inBlock]
  simpa [hne, Ne.symm hne] using this

theorem exists_least (p : Nat → Prop) (h : ∃ n, p n) : ∃ n, p n ∧ ∀ m, p m → n ≤ m := by
  obtain ⟨n, hn⟩ := h
  induction n using Nat.strongRecOn with
  | _ n ih =>
    by_cases hq : ∃ m, m < n ∧ p m
    · obtain ⟨m, hm, hp⟩ := hq; exact ih m hm hp
    · exact ⟨n, hn, fun m hm => Nat.le_of_not_lt (fun hlt => hq ⟨m, hlt, hm⟩)⟩

/-! ### A loop: its state is a value of a type α; env and world as functions of it -/
theorem wpE.loop {α : Type} {c : Code} (E : α → Env) (I : α → World → Prop) (μ : α → Nat) (x0 : α) (hs : Sub e (E x0)) (h0 : I x0 w)
    (round : ∀ x w, I x w → wpE P r N c (Exit.then (fun a' w' => ∃ y, Fr N (E y) a' ∧ Dm ds a' ∧ I y w' ∧ μ y < μ x) Q) (E x) ds w) :
    wpE P r N (.loop c) Q e ds w := by
  intro a hf hd
  -- the measure of a frame: the least measure of a state that fits
  refine wpIn_loop_ghost E I μ x0 a w ⟨hf.sub hs, hd, h0⟩ round
where
  wpIn_loop_ghost {P : Program} {r : Option Nat} {N : Nat} {Q : Exit → Act → World → Prop} {ds : List Nat} {α : Type} {c : Code} (E : α → Env) (I : α → World → Prop) (μ : α → Nat) (x0 : α) (a : Act) (w : World)
      (h : Fr N (E x0) a ∧ Dm ds a ∧ I x0 w)
      (round : ∀ x w, I x w → wpE P r N c (Exit.then (fun a' w' => ∃ y, Fr N (E y) a' ∧ Dm ds a' ∧ I y w' ∧ μ y < μ x) Q) (E x) ds w) :
      (Code.loop c).wpIn (Wd r) 0 P Q a w := by
    classical
    let J : Act → World → Nat → Prop := fun a w n => ∃ x, Fr N (E x) a ∧ Dm ds a ∧ I x w ∧ μ x = n
    let M : Act → World → Nat := fun a w => if h : ∃ n, J a w n then Classical.choose (exists_least (J a w) h) else 0
    have hM : ∀ a w, (∃ n, J a w n) → J a w (M a w) ∧ ∀ n, J a w n → M a w ≤ n := by
      intro a w h
      have e : M a w = Classical.choose (exists_least (J a w) h) := dif_pos h
      rw [e]
      exact Classical.choose_spec (exists_least (J a w) h)
    refine wpIn_loop (fun a w => ∃ n, J a w n) M ⟨μ x0, x0, h.1, h.2.1, h.2.2, rfl⟩ ?_
    intro a w hn
    obtain ⟨⟨x, hf, hd, hI, hx⟩, hmin⟩ := hM a w hn
    refine wpIn_mono (round x w hI a hf hd) ?_
    intro ex a' w' hq
    cases ex with
    | normal =>
      obtain ⟨y, hf', hd', hI', hlt⟩ := hq
      have hJ : J a' w' (μ y) := ⟨y, hf', hd', hI', rfl⟩
      refine ⟨⟨_, hJ⟩, ?_⟩
      have := (hM a' w' ⟨_, hJ⟩).2 _ hJ
      omega
    | exit id => exact hq
    | goto l => exact hq
    | ret => exact hq
    | panic ch => exact hq
    | outgrown => exact hq

/-! ### Operations in a row -/
theorem LE.nil {ops : Array Oper} (h : QE N Q .normal e ds w) : LE P r N ops Q [] e ds w := fun a hf hd => wpListIn_nil (h a hf hd)

/-- The operation yields v and leaves w'. -/
def OpV (P : Program) (op : Op) (ty : TypeId) (e : Env) (w : World) (v : Value) (w' : World) : Prop :=
  ∀ ρ : Operand → Value, (∀ x u, ev e x = some u → ρ x = u) → ∀ dst pos after guard, (execOp ρ ⟨dst, op, ty, pos, after, guard⟩).run P w = .ok (.value v) w'
/-- The operation yields nothing. -/
def OpS (P : Program) (op : Op) (ty : TypeId) (e : Env) (w : World) (w' : World) : Prop :=
  ∀ ρ : Operand → Value, (∀ x u, ev e x = some u → ρ x = u) → ∀ dst pos after guard, (execOp ρ ⟨dst, op, ty, pos, after, guard⟩).run P w = .ok .skip w'
/-- The operation enters a function of the program. -/
def OpC (P : Program) (op : Op) (ty : TypeId) (e : Env) (w : World) (f : FuncId) (args : Array Value) : Prop :=
  ∀ ρ : Operand → Value, (∀ x u, ev e x = some u → ρ x = u) → ∀ dst pos after guard, (execOp ρ ⟨dst, op, ty, pos, after, guard⟩).run P w = .ok (.enter f args) w

def nd : Op → Bool
  | .defer _ => false
  | _ => true

theorem semAt_nd {ro : Option Nat} {ρ : Operand → Value} {o : Oper} (h : nd o.op = true) : o.semAt ro ρ = execOp ρ o := by
  refine Oper.semAt_eq ro ρ o (fun c hc => ?_)
  rw [hc] at h; simp [nd] at h

theorem wp_val {o : Oper} {a : Act} {v : Value} {w w' : World} {K : Act → World → Prop} (hnd : nd o.op = true) (h : (execOp a.eval o).run P w = .ok (.value v) w') (hk : K (a.put o.dst v) w') : o.wpIn (Wd r) 0 P a w K Q := by
  refine ⟨fun _ _ => trivial, ?_⟩
  rw [semAt_nd hnd, h]; exact hk
theorem wp_skip {o : Oper} {a : Act} {w w' : World} {K : Act → World → Prop} (hnd : nd o.op = true) (h : (execOp a.eval o).run P w = .ok .skip w') (hk : K (a.put o.dst undef) w') : o.wpIn (Wd r) 0 P a w K Q := by
  refine ⟨fun _ _ => trivial, ?_⟩
  rw [semAt_nd hnd, h]; exact hk

section
variable {ops : Array Oper} {l : List Oper} {op : Op} {ty : TypeId} {pos : String} {after : Array Edge} {d : Nat} {v : Value} {w' : World}
theorem LE.val (hv : OpV P op ty e w v w') (h : LE P r N ops Q l ((d, v) :: e) ds w') (hnd : nd op = true := by rfl) (hd : Nat.blt d N = true := by rfl) :
    LE P r N ops Q (⟨some d, op, ty, pos, after, none⟩ :: l) e ds w := fun a hf hdm => by
  refine wpListIn_plain rfl fun K hK => wp_val hnd (hv a.eval (fun x u hx => hf.eval hx) _ _ _ _) (hK _ _ (h _ (hf.put hd v) hdm))
theorem LE.skp (hv : OpS P op ty e w w') (h : LE P r N ops Q l e ds w') (hnd : nd op = true := by rfl) :
    LE P r N ops Q (⟨none, op, ty, pos, after, none⟩ :: l) e ds w := fun a hf hdm => by
  refine wpListIn_plain rfl fun K hK => wp_skip hnd (hv a.eval (fun x u hx => hf.eval hx) _ _ _ _) (hK _ _ (h _ hf hdm))

/-! guards -/
theorem LE.strip {o : Oper} {j t : Nat} {b : Bool} (hj : (ops[j]?).bind (·.dst) = some t) (ht : look e t = some (.bool b)) (ho : o.guard = some (j, b))
    (h : LE P r N ops Q ({ o with guard := none } :: l) e ds w) : LE P r N ops Q (o :: l) e ds w := fun a hf hdm => by
  have hw : Region.wanted o (yielded ops a.tmps) = true := by
    simp [Region.wanted, ho, yielded, hj, hf.2 t _ ht]
  have h1 := h a hf hdm
  unfold wpListIn at h1 ⊢
  rw [if_pos (by simp [Region.wanted])] at h1
  rw [if_pos hw]
  exact h1
theorem LE.drop {j t : Nat} {b c : Bool} (hj : (ops[j]?).bind (·.dst) = some t) (ht : look e t = some (.bool c)) (hbc : (c == b) = false) 
    (h : LE P r N ops Q l ((d, undef) :: e) ds w) (hd : Nat.blt d N = true := by rfl) : LE P r N ops Q (⟨some d, op, ty, pos, after, some (j, b)⟩ :: l) e ds w := fun a hf hdm => by
  have hw : Region.wanted ⟨some d, op, ty, pos, after, some (j, b)⟩ (yielded ops a.tmps) = false := by
    simp only [Region.wanted, yielded, hj, Option.bind_some, hf.2 t _ ht]
    simpa using hbc
  unfold wpListIn
  rw [if_neg (by rw [hw]; simp)]
  exact ⟨fun _ _ => trivial, h _ (hf.put hd undef) hdm⟩
/-- A slot's Bool is parted on. -/
theorem LE.splitD {t : Nat} {p : Prop} [Decidable p] (ht : look e t = some (.bool (decide p))) (h1 : p → LE P r N ops Q l ((t, .bool true) :: e) ds w) (h2 : ¬ p → LE P r N ops Q l ((t, .bool false) :: e) ds w) :
    LE P r N ops Q l e ds w := fun a hf hdm => by
  have key : ∀ c : Bool, decide p = c → Fr N ((t, .bool c) :: e) a := fun c hc => ⟨hf.1, fun k u hu => by
    rw [look_cons] at hu
    by_cases hk : t = k
    · subst hk; rw [if_pos rfl] at hu; rw [← hu, ← hc]; exact hf.2 _ _ ht
    · rw [if_neg hk] at hu; exact hf.2 k u hu⟩
  by_cases hp : p
  · exact h1 hp a (key _ (decide_eq_true hp)) hdm
  · exact h2 hp a (key _ (decide_eq_false hp)) hdm
theorem LE.splitB {t : Nat} {b : Bool} (ht : look e t = some (.bool b)) (h1 : b = true → LE P r N ops Q l ((t, .bool true) :: e) ds w) (h2 : b = false → LE P r N ops Q l ((t, .bool false) :: e) ds w) :
    LE P r N ops Q l e ds w := fun a hf hdm => by
  have key : ∀ c : Bool, b = c → Fr N ((t, .bool c) :: e) a := fun c hc => ⟨hf.1, fun k u hu => by
    rw [look_cons] at hu
    by_cases hk : t = k
    · subst hk; rw [if_pos rfl] at hu; rw [← hu, ← hc]; exact hf.2 _ _ ht
    · rw [if_neg hk] at hu; exact hf.2 k u hu⟩
  cases b with
  | true => exact h1 rfl a (key _ rfl) hdm
  | false => exact h2 rfl a (key _ rfl) hdm

/-! calls -/
/-- A contract: the call returns, and R of the value and the world behind it. -/
def Ret (P : Program) (f : FuncId) (args : Array Value) (w : World) (R : Value → World → Prop) : Prop :=
  Calls P f args w (fun en w' => ∃ v, en = .returned v ∧ R v w')

theorem LE.call {f : FuncId} {args : Array Value} {R : Value → World → Prop} (hc : OpC P op ty e w f args) (h : Ret P f args w R)
    (hk : ∀ v w', R v w' → LE P r N ops Q l ((d, v) :: e) ds w') (hnd : nd op = true := by rfl) (hd : Nat.blt d N = true := by rfl) :
    LE P r N ops Q (⟨some d, op, ty, pos, after, none⟩ :: l) e ds w := fun a hf hdm => by
  refine wpListIn_plain rfl fun K hK => ?_
  refine ⟨fun _ _ => trivial, ?_⟩
  rw [semAt_nd hnd, hc a.eval (fun x u hx => hf.eval hx) _ _ _ _]
  refine ⟨fun h => (by cases h), ?_⟩
  have h2 : CallsIn Fence.wide 0 P f args w (fun en w' => ∃ v, en = .returned v ∧ R v w') := callsIn_wide.2 h
  have h3 : CallsIn (Wd r) 0 P f args w (fun en w' => ∃ v, en = .returned v ∧ R v w') := h2
  refine CallsIn.mono h3 ?_
  rintro en w' ⟨v, rfl, hR⟩
  exact hK _ _ (hk v w' hR _ (hf.put hd v) hdm)
end
end

theorem Ret.mono {P : Program} {f : FuncId} {args : Array Value} {w : World} {R R' : Value → World → Prop} (h : Ret P f args w R) (hr : ∀ v w', R v w' → R' v w') : Ret P f args w R' :=
  Calls.mono h (fun _ _ ⟨v, he, hR⟩ => ⟨v, he, hr v _ hR⟩)

/-! ### A function's contract out of its body -/
/-- The world behind a function's return: the blocks of its loops' deferred calls are shut. -/
def shut : List Nat → World → World
  | [], w => w
  | D :: ds, w => shut ds (w.putObj D (.deferred none))

def Marked : List Nat → World → Prop
  | [], _ => True
  | D :: ds, w => w.heap[D]? = some (.deferred (some [])) ∧ Marked ds (w.putObj D (.deferred none))

def args0 : Nat → List Value → Env
  | _, [] => []
  | k, v :: l => (k, v) :: args0 (k + 1) l

theorem look_args0 : ∀ (l : List Value) (k t : Nat) (v : Value), look (args0 k l) t = some v → k ≤ t ∧ l[t - k]? = some v
  | [], k, t, v, h => by simp [args0, look] at h
  | u :: l, k, t, v, h => by
    rw [args0, look_cons] at h
    by_cases hk : k = t
    · subst hk; rw [if_pos rfl] at h; exact ⟨Nat.le_refl _, by simpa using h⟩
    · rw [if_neg hk] at h
      obtain ⟨h1, h2⟩ := look_args0 l (k + 1) t v h
      refine ⟨by omega, ?_⟩
      rw [show t - k = (t - (k + 1)) + 1 by omega, List.getElem?_cons_succ]; exact h2

def fnPost (P : Program) (fn : Func) (R : Value → World → Prop) : Exit → Act → World → Prop :=
  bodyPostM (Wd none) 0 P fn (fun en w' => ∃ v, en = .returned v ∧ R v w')

theorem Ret.enter {P : Program} {f : FuncId} {fn : Func} {c : Code} {l : List Value} {w : World} {R : Value → World → Prop}
    (hf : P.funcs[f]? = some fn) (hb : fn.body = some c) {N : Nat} (hN : N = fn.ntmps) (hl : Nat.ble l.length N = true)
    (h : wpE P none N c (fnPost P fn R) (args0 0 l) [] w) : Ret P f l.toArray w R := by
  refine (callsIn_wide (n := 0)).1 ?_
  refine callsIn_of_wp_marks (F := Wd none) hf hb trivial ?_ rfl
  refine h _ ⟨?_, fun t v hv => ?_⟩ rfl
  · have := Nat.le_of_ble_eq_true hl
    simp; omega
  · obtain ⟨_, h2⟩ := look_args0 l 0 t v hv
    have hlt : t < l.length := by
      rcases Nat.lt_or_ge t l.length with h | h
      · exact h
      · rw [List.getElem?_eq_none (by simpa using h)] at h2; cases h2
    simp only [Nat.sub_zero] at h2
    rw [Array.getElem?_append_left (by simpa using hlt)]
    simpa using h2

/-- The results read off the frame. -/
def resE (e : Env) : List ResultVar → Option (List Value)
  | [] => some []
  | .tmp t :: l => match look e t, resE e l with | some v, some vs => some (v :: vs) | _, _ => none
  | .cell _ _ :: _ => none
def resV : List Value → Value
  | [v] => v
  | l => .tuple l.toArray

theorem mapM_res {e : Env} {P : Program} {w : World} (f : ResultVar → Sem Value) (hf : ∀ t v, look e t = some v → (f (.tmp t)).run P w = .ok v w) :
    ∀ (rs : List ResultVar) (vs : List Value), resE e rs = some vs → (rs.mapM f).run P w = .ok vs w := by
  intro rs
  induction rs with
  | nil => intro vs h; simp only [resE, Option.some.injEq] at h; subst h; simp
  | cons x rs ih =>
    intro vs h
    cases x with
    | cell b t => simp [resE] at h
    | tmp t =>
      simp only [resE] at h
      cases hl : look e t with
      | none => rw [hl] at h; cases h
      | some v =>
        cases hr : resE e rs with
        | none => rw [hl, hr] at h; cases h
        | some us =>
          rw [hl, hr] at h
          obtain rfl := Option.some.inj h
          simp only [List.mapM_cons, Sem.run_bind, hf t v hl, Result.andThen, ih us hr, Sem.run_pure]

theorem results_resE {N : Nat} {e : Env} {a : Act} (hf : Fr N e a) {P : Program} {w : World} {fn : Func} {rs : List ResultVar} (hr : fn.results = rs.toArray) {vs : List Value} (h : resE e rs = some vs) :
    (results fn a.tmps).run P w = .ok (resV vs) w := by
  unfold results
  rw [hr]
  have h1 := mapM_res (P := P) (w := w) (fun x => match x with
      | ResultVar.tmp t => (pure (a.tmps.getD t undef) : Sem Value)
      | ResultVar.cell b t => do loadVar t (← asAddr (a.tmps.getD b undef)))
    (fun t v hl => by
      have h1 := hf.2 t v hl
      show Result.ok (a.tmps.getD t undef) w = _
      rw [Array.getD_eq_getD_getElem?, h1]; rfl) rs vs h
  simp only [List.mapM_toArray, Sem.run_bind, Sem.run_map]
  generalize hX : Sem.run P (List.mapM _ rs) w = X
  obtain rfl : Result.ok vs w = X := by rw [← hX]; exact h1.symm
  simp only [Result.andThen]
  cases vs with
  | nil => simp [resV]
  | cons v l => cases l with
    | nil => simp [resV]
    | cons u l => simp [resV]

theorem leavesM_shut {P : Program} {fn : Func} {tmps : Array Value} {R : Ending → World → Prop} {v : Value} :
    ∀ (ds : List Nat) (w : World), Marked ds w → (results fn tmps).run P (shut ds w) = .ok v (shut ds w) → R (.returned v) (shut ds w) → LeavesInM (Wd none) 0 P fn tmps R (ds.map mark) .returning w
  | [], w, _, hr, hR => by
    exact ⟨v, hr, hR⟩
  | D :: ds, w, hm, hr, hR => by
    refine ⟨by simp, .inl ⟨D, _, rfl, run_takeDeferred hm.1, ?_⟩⟩
    exact leavesM_shut ds _ hm.2 hr hR

section
variable {P : Program} {fn : Func} {N : Nat} {e : Env} {ds : List Nat} {w : World} {R : Value → World → Prop} {vs : List Value}
/-- A function is left: its results lie in temporaries. -/
theorem QE.leave (rs : List ResultVar) (hr : fn.results = rs.toArray) (h : resE e rs = some vs) (hm : Marked ds w) (hR : R (resV vs) (shut ds w)) : QE N (fnPost P fn R) .ret e ds w := fun a hf hd => by
  show LeavesInM _ _ _ _ _ _ _ _ _
  rw [hd]
  exact leavesM_shut ds w hm (results_resE hf hr h) ⟨_, rfl, hR⟩
theorem QE.leaveN (rs : List ResultVar) (hr : fn.results = rs.toArray) (h : resE e rs = some vs) (hm : Marked ds w) (hR : R (resV vs) (shut ds w)) : QE N (fnPost P fn R) .normal e ds w := fun a hf hd => by
  show LeavesInM _ _ _ _ _ _ _ _ _
  rw [hd]
  exact leavesM_shut ds w hm (results_resE hf hr h) ⟨_, rfl, hR⟩
end

abbrev Mem0 := List (Nat × Obj)

def Mem (w : World) (M : Mem0) : Prop := (M.map (·.1)).Nodup ∧ ∀ p ∈ M, w.heap[p.1]? = some p.2

/-- From w to w' no block has gone, and of the blocks of w those outside S are as they were. -/
structure Chg (S : Nat → Prop) (w w' : World) : Prop where
  os : w'.os = w.os
  tape : w'.tape = w.tape
  output : w'.output = w.output
  size : w.heap.size ≤ w'.heap.size
  block : ∀ b, b < w.heap.size → ¬ S b → w'.heap[b]? = w.heap[b]?

def no : Nat → Prop := fun _ => False
abbrev Ext (w w' : World) : Prop := Chg no w w'

theorem Chg.refl (S : Nat → Prop) (w : World) : Chg S w w := ⟨rfl, rfl, rfl, Nat.le_refl _, fun _ _ _ => rfl⟩
theorem Chg.trans {S : Nat → Prop} {a b c : World} (h : Chg S a b) (k : Chg S b c) : Chg S a c :=
  ⟨k.os.trans h.os, k.tape.trans h.tape, k.output.trans h.output, Nat.le_trans h.size k.size, fun x hx hs => (k.block x (Nat.lt_of_lt_of_le hx h.size) hs).trans (h.block x hx hs)⟩
theorem Chg.mono {S T : Nat → Prop} {w w' : World} (h : Chg S w w') (hs : ∀ b, b < w.heap.size → S b → T b) : Chg T w w' :=
  ⟨h.os, h.tape, h.output, h.size, fun x hx ht => h.block x hx (fun q => ht (hs x hx q))⟩
theorem Ext.chg {S : Nat → Prop} {w w' : World} (h : Ext w w') : Chg S w w' := h.mono (fun _ _ q => q.elim)
/-- A step that changes T alone, behind steps that change S. -/
theorem Chg.step {S T : Nat → Prop} {a b c : World} (h : Chg S a b) (k : Chg T b c) (hs : ∀ x, x < a.heap.size → T x → S x) : Chg S a c :=
  ⟨k.os.trans h.os, k.tape.trans h.tape, k.output.trans h.output, Nat.le_trans h.size k.size, fun x hx hn => (k.block x (Nat.lt_of_lt_of_le hx h.size) (fun q => hn (hs x hx q))).trans (h.block x hx hn)⟩
theorem Ext.below {w w' : World} (h : Ext w w') : Below w.heap.size w w' := ⟨h.os, h.tape, h.output, h.size, fun k hk => h.block k hk (fun q => q)⟩
theorem Ext.of_below {w w' : World} (h : Below w.heap.size w w') : Ext w w' := ⟨h.os, h.tape, h.output, h.size, fun k hk _ => h.block k hk⟩
theorem Ext.get {w w' : World} (h : Ext w w') {b : Nat} {o : Obj} (hb : w.heap[b]? = some o) : w'.heap[b]? = some o := by
  rw [h.block b (Array.getElem?_eq_some_iff.1 hb).1 (fun q => q)]; exact hb
theorem Chg.get {S : Nat → Prop} {w w' : World} (h : Chg S w w') {b : Nat} {o : Obj} (hb : w.heap[b]? = some o) (hn : ¬ S b) : w'.heap[b]? = some o := by
  rw [h.block b (Array.getElem?_eq_some_iff.1 hb).1 hn]; exact hb
theorem Chg.drew (S : Nat → Prop) (w : World) : Chg S w { w with drawn := w.drawn + 1 } := ⟨rfl, rfl, rfl, Nat.le_refl _, fun _ _ _ => rfl⟩

theorem Mem.get {w : World} {M : Mem0} (h : Mem w M) {i b : Nat} {o : Obj} (hi : M[i]? = some (b, o)) : w.heap[b]? = some o := h.2 _ (List.mem_of_getElem? hi)
theorem Mem.lt {w : World} {M : Mem0} (h : Mem w M) {p : Nat × Obj} (hp : p ∈ M) : p.1 < w.heap.size := (Array.getElem?_eq_some_iff.1 (h.2 p hp)).1
theorem Mem.nil (w : World) : Mem w [] := ⟨List.nodup_nil, fun _ h => by cases h⟩
theorem Mem.ext {w w' : World} {M : Mem0} (h : Mem w M) (k : Ext w w') : Mem w' M := ⟨h.1, fun p hp => k.get (h.2 p hp)⟩
theorem Mem.keep {S : Nat → Prop} {w w' : World} {M : Mem0} (h : Mem w M) (k : Chg S w w') (hn : ∀ p ∈ M, ¬ S p.1) : Mem w' M := ⟨h.1, fun p hp => k.get (h.2 p hp) (hn p hp)⟩
theorem Mem.cons {w : World} {M : Mem0} (h : Mem w M) {b : Nat} {o : Obj} (hb : w.heap[b]? = some o) (hn : ∀ p ∈ M, p.1 ≠ b) : Mem w ((b, o) :: M) := by
  refine ⟨?_, fun p hp => ?_⟩
  · simp only [List.map_cons, List.nodup_cons]
    refine ⟨fun hm => ?_, h.1⟩
    obtain ⟨p, hp, he⟩ := List.mem_map.1 hm
    exact hn p hp he
  · rcases List.mem_cons.1 hp with rfl | hp
    · exact hb
    · exact h.2 p hp
theorem Mem.tail {w : World} {M : Mem0} {p : Nat × Obj} (h : Mem w (p :: M)) : Mem w M := ⟨(List.nodup_cons.1 h.1).2, fun q hq => h.2 q (List.mem_cons_of_mem _ hq)⟩
theorem Mem.sub {w : World} {M M' : Mem0} (h : Mem w M) (hs : List.Sublist M' M) : Mem w M' := ⟨h.1.sublist (hs.map _), fun p hp => h.2 p (hs.subset hp)⟩
theorem Mem.perm {w : World} {M M' : Mem0} (h : Mem w M) (hs : M.Perm M') : Mem w M' := ⟨(hs.map _).nodup_iff.1 h.1, fun p hp => h.2 p (hs.mem_iff.2 hp)⟩
/-- One block of the list has become another. -/
theorem Mem.set {w w' : World} {M : Mem0} (h : Mem w M) {i b : Nat} {o o' : Obj} (hi : M[i]? = some (b, o)) (hb : w'.heap[b]? = some o') (k : Chg (fun x => x = b) w w') : Mem w' (M.set i (b, o')) := by
  have hlt : i < M.length := (List.getElem?_eq_some_iff.1 hi).1
  have hget : M[i] = (b, o) := (List.getElem?_eq_some_iff.1 hi).2
  have hmap : (M.set i (b, o')).map (·.1) = M.map (·.1) := by
    apply List.ext_getElem?
    intro j
    simp only [List.getElem?_map, List.getElem?_set]
    by_cases hij : i = j
    · subst hij; simp [hlt, hget]
    · simp [hij]
  refine ⟨by rw [hmap]; exact h.1, fun p hp => ?_⟩
  obtain ⟨j, hj⟩ := List.getElem?_of_mem hp
  rw [List.getElem?_set] at hj
  by_cases hij : i = j
  · subst hij; simp [hlt] at hj; subst hj; exact hb
  · simp only [hij, if_false] at hj
    have hpm : p ∈ M := List.mem_of_getElem? hj
    refine k.get (h.2 p hpm) (fun hpb => hij ?_)
    have hnd := h.1
    have e1 : (M.map (·.1))[i]? = some b := by simp [hi]
    have e2 : (M.map (·.1))[j]? = some b := by simp [hj, hpb]
    exact (List.nodup_iff_injective_get? hnd e1 e2)
where
  List.nodup_iff_injective_get? {l : List Nat} (h : l.Nodup) {i j x : Nat} (h1 : l[i]? = some x) (h2 : l[j]? = some x) : i = j := by
    induction l generalizing i j with
    | nil => simp at h1
    | cons a l ih =>
      rw [List.nodup_cons] at h
      cases i with
      | zero =>
        cases j with
        | zero => rfl
        | succ j => simp at h1 h2; subst h1; exact absurd (List.mem_of_getElem? h2) h.1
      | succ i =>
        cases j with
        | zero => simp at h1 h2; subst h2; exact absurd (List.mem_of_getElem? h1) h.1
        | succ j => simp at h1 h2; rw [ih h.2 h1 h2]

section defs
variable (P : Program) (r : Option Nat) (N : Nat)
def wpM (c : Code) (Q : Exit → Act → World → Prop) (e : Env) (ds : List Nat) (M : Mem0) (S : Nat → Prop) (w0 : World) (G : World → Prop) : Prop := ∀ w, Mem w M → Chg S w0 w → G w → wpE P r N c Q e ds w
def LM (ops : Array Oper) (Q : Exit → Act → World → Prop) (l : List Oper) (e : Env) (ds : List Nat) (M : Mem0) (S : Nat → Prop) (w0 : World) (G : World → Prop) : Prop := ∀ w, Mem w M → Chg S w0 w → G w → LE P r N ops Q l e ds w
def QM (Q : Exit → Act → World → Prop) (x : Exit) (e : Env) (ds : List Nat) (M : Mem0) (S : Nat → Prop) (w0 : World) (G : World → Prop) : Prop := ∀ w, Mem w M → Chg S w0 w → G w → QE N Q x e ds w
/-- The objects of loops over functions. -/
def wlk : Obj → Bool
  | .loop _ => true
  | .deferred _ => true
  | _ => false
/-- Those are kept. -/
def KeepW (w w' : World) : Prop := ∀ (b : Nat) (o : Obj), w.heap[b]? = some o → wlk o = true → w'.heap[b]? = some o
theorem KeepW.one {w w' : World} {b : Nat} {o : Obj} (h : Chg (fun x => x = b) w w') (hb : w.heap[b]? = some o) (hw : wlk o = false) : KeepW w w' := fun k u hk hu => by
  refine h.get hk (fun e => ?_)
  subst e
  rw [hk] at hb; cases hb
  rw [hu] at hw; cases hw
/-- Whatever else is known of the world: it stands when blocks are laid; when one is changed. -/
class GS (G : World → Prop) : Prop where
  ext : ∀ w w', G w → Ext w w' → G w'
class GT (G : World → Prop) : Prop extends GS G where
  chg : ∀ S w w', G w → Chg S w w' → KeepW w w' → G w'
def top : World → Prop := fun _ => True
instance : GT top where
  ext := fun _ _ _ _ => trivial
  chg := fun _ _ _ _ _ _ => trivial
end defs

section
variable {P : Program} {r : Option Nat} {N : Nat} {Q : Exit → Act → World → Prop} {e : Env} {ds : List Nat} {M : Mem0} {S : Nat → Prop} {w0 : World} {G : World → Prop}

theorem wpM.sub {c : Code} {e' : Env} (hs : Sub e e') (h : wpM P r N c Q e' ds M S w0 G) : wpM P r N c Q e ds M S w0 G := fun w hm hc hg => (h w hm hc hg).sub hs
theorem QM.sub {x : Exit} {e' : Env} (hs : Sub e e') (h : QM N Q x e' ds M S w0 G) : QM N Q x e ds M S w0 G := fun w hm hc hg => (h w hm hc hg).sub hs
theorem LM.sub {ops : Array Oper} {l : List Oper} {e' : Env} (hs : Sub e e') (h : LM P r N ops Q l e' ds M S w0 G) : LM P r N ops Q l e ds M S w0 G := fun w hm hc hg => (h w hm hc hg).sub hs
theorem wpM.mem {c : Code} {M' : Mem0} (hs : ∀ w, Mem w M → Mem w M') (h : wpM P r N c Q e ds M' S w0 G) : wpM P r N c Q e ds M S w0 G := fun w hm hc hg => h w (hs w hm) hc hg
theorem QM.mem {x : Exit} {M' : Mem0} (hs : ∀ w, Mem w M → Mem w M') (h : QM N Q x e ds M' S w0 G) : QM N Q x e ds M S w0 G := fun w hm hc hg => h w (hs w hm) hc hg
theorem LM.mem {ops : Array Oper} {l : List Oper} {M' : Mem0} (hs : ∀ w, Mem w M → Mem w M') (h : LM P r N ops Q l e ds M' S w0 G) : LM P r N ops Q l e ds M S w0 G := fun w hm hc hg => h w (hs w hm) hc hg

theorem wpM.seq {x y : Code} (h : wpM P r N x (Exit.then (y.wpIn (Wd r) 0 P Q) Q) e ds M S w0 G) : wpM P r N (.seq x y) Q e ds M S w0 G := fun w hm hc hg => .seq (h w hm hc hg)
theorem wpM.skip (h : QM N Q .normal e ds M S w0 G) : wpM P r N .skip Q e ds M S w0 G := fun w hm hc hg => .skip (h w hm hc hg)
theorem wpM.exit {id : Nat} (h : QM N Q (.exit id) e ds M S w0 G) : wpM P r N (.exit id) Q e ds M S w0 G := fun w hm hc hg => .exit (h w hm hc hg)
theorem wpM.ret (h : QM N Q .ret e ds M S w0 G) : wpM P r N .ret Q e ds M S w0 G := fun w hm hc hg => .ret (h w hm hc hg)
theorem wpM.block {id : Nat} {c : Code} (h : wpM P r N c (Exit.inBlock id Q) e ds M S w0 G) : wpM P r N (.block id c) Q e ds M S w0 G := fun w hm hc hg => .block (h w hm hc hg)
theorem wpM.region {id : Nat} {l : List Oper} (h : LM P r N l.toArray Q l e ds M S w0 G) : wpM P r N (.region id l.toArray false) Q e ds M S w0 G := fun w hm hc hg => .region (h w hm hc hg)
theorem wpM.condT {c : Operand} {x y : Code} (hc : ev e c = some (.bool true)) (h : wpM P r N x Q e ds M S w0 G) : wpM P r N (.cond c x y) Q e ds M S w0 G := fun w hm hcg hg => .condT hc (h w hm hcg hg)
theorem wpM.condF {c : Operand} {x y : Code} (hc : ev e c = some (.bool false)) (h : wpM P r N y Q e ds M S w0 G) : wpM P r N (.cond c x y) Q e ds M S w0 G := fun w hm hcg hg => .condF hc (h w hm hcg hg)
theorem wpM.condD {p : Prop} [Decidable p] {c : Operand} {x y : Code} (hc : ev e c = some (.bool (decide p))) (h1 : p → wpM P r N x Q e ds M S w0 G) (h2 : ¬ p → wpM P r N y Q e ds M S w0 G) :
    wpM P r N (.cond c x y) Q e ds M S w0 G := fun w hm hcg hg => .condD hc (fun hp => h1 hp w hm hcg hg) (fun hp => h2 hp w hm hcg hg)
theorem wpM.condB {b : Bool} {c : Operand} {x y : Code} (hc : ev e c = some (.bool b)) (h1 : b = true → wpM P r N x Q e ds M S w0 G) (h2 : b = false → wpM P r N y Q e ds M S w0 G) :
    wpM P r N (.cond c x y) Q e ds M S w0 G := fun w hm hcg hg => .condB hc (fun hp => h1 hp w hm hcg hg) (fun hp => h2 hp w hm hcg hg)

theorem QM.then {y : Code} (h : wpM P r N y Q e ds M S w0 G) : QM N (Exit.then (y.wpIn (Wd r) 0 P Q) Q) .normal e ds M S w0 G := h
theorem QM.then_exit {K : Act → World → Prop} {id : Nat} (h : QM N Q (.exit id) e ds M S w0 G) : QM N (Exit.then K Q) (.exit id) e ds M S w0 G := h
theorem QM.then_ret {K : Act → World → Prop} (h : QM N Q .ret e ds M S w0 G) : QM N (Exit.then K Q) .ret e ds M S w0 G := h
theorem QM.block_normal {id : Nat} (h : QM N Q .normal e ds M S w0 G) : QM N (Exit.inBlock id Q) .normal e ds M S w0 G := h
theorem QM.block_ret {id : Nat} (h : QM N Q .ret e ds M S w0 G) : QM N (Exit.inBlock id Q) .ret e ds M S w0 G := h
theorem QM.block_hit {id : Nat} (h : QM N Q .normal e ds M S w0 G) : QM N (Exit.inBlock id Q) (.exit id) e ds M S w0 G := fun w hm hc hg => .block_hit (h w hm hc hg)
theorem QM.block_miss {id k : Nat} (hk : Nat.beq k id = false) (h : QM N Q (.exit k) e ds M S w0 G) : QM N (Exit.inBlock id Q) (.exit k) e ds M S w0 G := fun w hm hc hg => .block_miss hk (h w hm hc hg)

/-- A loop: its state is a value of a type; the frame's list, the memory's list, what else is known, a relation, a measure. -/
def agQ (N : Nat) (ds : List Nat) (S : Nat → Prop) (w0 : World) {α : Type} (E : α → Env) (MM : α → Mem0) (GG : α → World → Prop) (I : α → Prop) (μ : α → Nat) (x : α) (a' : Act) (w' : World) : Prop :=
  ∃ y, Fr N (E y) a' ∧ Dm ds a' ∧ (Mem w' (MM y) ∧ Chg S w0 w' ∧ GG y w' ∧ I y) ∧ μ y < μ x
theorem wpM.loopG {α : Type} {c : Code} (E : α → Env) (MM : α → Mem0) (GG : α → World → Prop) (I : α → Prop) (μ : α → Nat) (x0 : α) (hs : Sub e (E x0)) (hM : ∀ w, Mem w M → Mem w (MM x0)) (hG : ∀ w, G w → GG x0 w) (h0 : I x0)
    (round : ∀ x, I x → wpM P r N c (Exit.then (agQ N ds S w0 E MM GG I μ x) Q) (E x) ds (MM x) S w0 (GG x)) :
    wpM P r N (.loop c) Q e ds M S w0 G := fun w hm hc hg =>
  wpE.loop E (fun x w => Mem w (MM x) ∧ Chg S w0 w ∧ GG x w ∧ I x) μ x0 hs ⟨hM w hm, hc, hG w hg, h0⟩ (fun x w ⟨h1, h2, h3, h4⟩ => round x h4 w h1 h2 h3)
theorem wpM.loop {α : Type} {c : Code} (E : α → Env) (MM : α → Mem0) (I : α → Prop) (μ : α → Nat) (x0 : α) (hs : Sub e (E x0)) (hM : ∀ w, Mem w M → Mem w (MM x0)) (h0 : I x0)
    (round : ∀ x, I x → wpM P r N c (Exit.then (agQ N ds S w0 E MM (fun _ => G) I μ x) Q) (E x) ds (MM x) S w0 G) :
    wpM P r N (.loop c) Q e ds M S w0 G := .loopG E MM (fun _ => G) I μ x0 hs hM (fun _ h => h) h0 round
theorem QM.againG {α : Type} {E : α → Env} {MM : α → Mem0} {GG : α → World → Prop} {I : α → Prop} {μ : α → Nat} {x : α} (y : α) (hs : Sub e (E y)) (hM : ∀ w, Mem w M → Mem w (MM y)) (hG : ∀ w, G w → GG y w) (hI : I y) (hm : μ y < μ x) :
    QM N (Exit.then (agQ N ds S w0 E MM GG I μ x) Q) .normal e ds M S w0 G := fun w hw hc hg _ hf hd => ⟨y, hf.sub hs, hd, ⟨hM w hw, hc, hG w hg, hI⟩, hm⟩
/-! ### Operations -/
section ops
variable {ops : Array Oper} {l : List Oper} {op : Op} {ty : TypeId} {pos : String} {after : Array Edge} {d : Nat} {v : Value}

/-- The operation yields v, in whatever world, and leaves it as it is. -/
def OpP (P : Program) (op : Op) (ty : TypeId) (e : Env) (v : Value) : Prop := ∀ w, OpV P op ty e w v w

theorem LM.nil (h : QM N Q .normal e ds M S w0 G) : LM P r N ops Q [] e ds M S w0 G := fun w hm hc hg => .nil (h w hm hc hg)
theorem LM.val (hv : OpP P op ty e v) (h : LM P r N ops Q l ((d, v) :: e) ds M S w0 G) (hnd : nd op = true := by rfl) (hd : Nat.blt d N = true := by rfl) :
    LM P r N ops Q (⟨some d, op, ty, pos, after, none⟩ :: l) e ds M S w0 G := fun w hm hc hg => .val (hv w) (h w hm hc hg) hnd hd
/-- An operation that reads the memory. -/
theorem LM.rd (hv : ∀ w, Mem w M → OpV P op ty e w v w) (h : LM P r N ops Q l ((d, v) :: e) ds M S w0 G) (hnd : nd op = true := by rfl) (hd : Nat.blt d N = true := by rfl) :
    LM P r N ops Q (⟨some d, op, ty, pos, after, none⟩ :: l) e ds M S w0 G := fun w hm hc hg => .val (hv w hm) (h w hm hc hg) hnd hd
/-- An operation that reads what lay there at the function's beginning, too. -/
theorem LM.rdC (hv : ∀ w, Mem w M → Chg S w0 w → G w → OpV P op ty e w v w) (h : LM P r N ops Q l ((d, v) :: e) ds M S w0 G) (hnd : nd op = true := by rfl) (hd : Nat.blt d N = true := by rfl) :
    LM P r N ops Q (⟨some d, op, ty, pos, after, none⟩ :: l) e ds M S w0 G := fun w hm hc hg => .val (hv w hm hc hg) (h w hm hc hg) hnd hd
theorem LM.strip {o : Oper} {j t : Nat} {b : Bool} (hj : (ops[j]?).bind (·.dst) = some t) (ht : look e t = some (.bool b)) (ho : o.guard = some (j, b))
    (h : LM P r N ops Q ({ o with guard := none } :: l) e ds M S w0 G) : LM P r N ops Q (o :: l) e ds M S w0 G := fun w hm hc hg => .strip hj ht ho (h w hm hc hg)
theorem LM.drop {j t : Nat} {b c : Bool} (hj : (ops[j]?).bind (·.dst) = some t) (ht : look e t = some (.bool c)) (hbc : (c == b) = false) 
    (h : LM P r N ops Q l e ds M S w0 G) (hd : Nat.blt d N = true := by rfl) (hfresh : look e d = none := by rfl) : LM P r N ops Q (⟨some d, op, ty, pos, after, some (j, b)⟩ :: l) e ds M S w0 G := fun w hm hc hg =>
  .drop hj ht hbc (LE.sub_fresh hfresh (h w hm hc hg)) hd
where
  LE.sub_fresh {P : Program} {r : Option Nat} {N : Nat} {ops : Array Oper} {Q : Exit → Act → World → Prop} {l : List Oper} {e : Env} {ds : List Nat} {w : World} {d : Nat} {u : Value} (hd : look e d = none)
      (h : LE P r N ops Q l e ds w) : LE P r N ops Q l ((d, u) :: e) ds w := fun a hf hdm => h a ⟨hf.1, fun t v hv => hf.2 t v (by
        rw [look_cons]
        by_cases hdt : d = t
        · subst hdt; rw [hd] at hv; cases hv
        · rw [if_neg hdt]; exact hv)⟩ hdm
theorem LM.splitD {t : Nat} {p : Prop} [Decidable p] (ht : look e t = some (.bool (decide p))) (h1 : p → LM P r N ops Q l ((t, .bool true) :: e) ds M S w0 G) (h2 : ¬ p → LM P r N ops Q l ((t, .bool false) :: e) ds M S w0 G) :
    LM P r N ops Q l e ds M S w0 G := fun w hm hc hg => .splitD ht (fun hp => h1 hp w hm hc hg) (fun hp => h2 hp w hm hc hg)
theorem LM.splitB {t : Nat} {b : Bool} (ht : look e t = some (.bool b)) (h1 : b = true → LM P r N ops Q l ((t, .bool true) :: e) ds M S w0 G) (h2 : b = false → LM P r N ops Q l ((t, .bool false) :: e) ds M S w0 G) :
    LM P r N ops Q l e ds M S w0 G := fun w hm hc hg => .splitB ht (fun hp => h1 hp w hm hc hg) (fun hp => h2 hp w hm hc hg)

/-- A call. -/
theorem LM.call {f : FuncId} {args : Array Value} {R : World → Value → World → Prop} (hc : ∀ w, OpC P op ty e w f args) (h : ∀ w, Mem w M → Chg S w0 w → G w → Ret P f args w (R w))
    (hk : ∀ w v w', Mem w M → Chg S w0 w → G w → R w v w' → LE P r N ops Q l ((d, v) :: e) ds w') (hnd : nd op = true := by rfl) (hd : Nat.blt d N = true := by rfl) :
    LM P r N ops Q (⟨some d, op, ty, pos, after, none⟩ :: l) e ds M S w0 G := fun w hm hcg hg => .call (hc w) (h w hm hcg hg) (fun v w' hR => hk w v w' hm hcg hg hR) hnd hd
/-- A call that changes nothing that was there, and whose value is known. -/
theorem LM.callE [GS G] {f : FuncId} {args : Array Value} {v : Value} (hc : ∀ w, OpC P op ty e w f args) (h : ∀ w, Mem w M → Chg S w0 w → G w → Ret P f args w (fun u w' => u = v ∧ Ext w w'))
    (hk : LM P r N ops Q l ((d, v) :: e) ds M S w0 G) (hnd : nd op = true := by rfl) (hd : Nat.blt d N = true := by rfl) :
    LM P r N ops Q (⟨some d, op, ty, pos, after, none⟩ :: l) e ds M S w0 G :=
  .call hc (fun w hm hcg hg => h w hm hcg hg) (fun w _ w' hm hcg hg ⟨hu, he⟩ => by rw [hu]; exact hk w' (hm.ext he) (hcg.step he (fun _ _ q => q.elim)) (GS.ext w w' hg he)) hnd hd
/-- A call that changes one block of the list. -/
theorem LM.callW [GT G] {f : FuncId} {args : Array Value} {v : Value} (i : Nat) {b : Nat} {o o' : Obj} (hM : M[i]? = some (b, o)) (hw : wlk o = false) (hb : b < w0.heap.size → S b) (hc : ∀ w, OpC P op ty e w f args)
    (h : ∀ w, Mem w M → Chg S w0 w → G w → Ret P f args w (fun u w' => u = v ∧ Chg (fun x => x = b) w w' ∧ w'.heap[b]? = some o'))
    (hk : LM P r N ops Q l ((d, v) :: e) ds (M.set i (b, o')) S w0 G) (hnd : nd op = true := by rfl) (hd : Nat.blt d N = true := by rfl) :
    LM P r N ops Q (⟨some d, op, ty, pos, after, none⟩ :: l) e ds M S w0 G :=
  .call hc (fun w hm hcg hg => h w hm hcg hg) (fun w _ w' hm hcg hg ⟨hu, he, ho⟩ => by
    rw [hu]; exact hk w' (hm.set hM ho he) (hcg.step he (fun k hlt hkb => by subst hkb; exact hb hlt)) (GT.chg _ w w' hg he (.one he (hm.get hM) hw))) hnd hd
/-- A call that changes nothing that was there; its value is whatever 'T' says with the blocks that hold it. -/
theorem LM.callT [GS G] {f : FuncId} {args : Array Value} {T : Nat → Value → Mem0 → Prop} (hc : ∀ w, OpC P op ty e w f args) (hmono : ∀ n n' u m, n' ≤ n → T n u m → T n' u m)
    (h : ∀ w, Mem w M → Chg S w0 w → G w → Ret P f args w (fun u w' => Ext w w' ∧ ∃ m, T w.heap.size u m ∧ Mem w' m ∧ ∀ p ∈ m, w.heap.size ≤ p.1))
    (hk : ∀ u m, T w0.heap.size u m → (∀ p ∈ m, w0.heap.size ≤ p.1) → LM P r N ops Q l ((d, u) :: e) ds (m ++ M) S w0 G) (hnd : nd op = true := by rfl) (hd : Nat.blt d N = true := by rfl) :
    LM P r N ops Q (⟨some d, op, ty, pos, after, none⟩ :: l) e ds M S w0 G :=
  .call hc (fun w hm hcg hg => h w hm hcg hg) (fun w u w' hm hcg hg ⟨he, m, hT, hm', hge⟩ => by
    refine hk u m (hmono _ _ u m hcg.size hT) (fun p hp => Nat.le_trans hcg.size (hge p hp)) w' ?_ (hcg.step he (fun _ _ q => q.elim)) (GS.ext w w' hg he)
    refine ⟨?_, fun p hp => ?_⟩
    · rw [List.map_append]
      refine List.nodup_append.2 ⟨hm'.1, hm.1, ?_⟩
      intro x hx y hy hxy
      obtain ⟨p, hp, rfl⟩ := List.mem_map.1 hx
      obtain ⟨q, hq, rfl⟩ := List.mem_map.1 hy
      have := hge p hp
      have := hm.lt hq
      omega
    · rcases List.mem_append.1 hp with hp | hp
      · exact hm'.2 p hp
      · exact he.get (hm.2 p hp)) hnd hd
end ops
end

/-! ### A function's contract out of its body -/
theorem Ret.enterM {P : Program} {f : FuncId} {fn : Func} {c : Code} {l : List Value} {w : World} {R : Value → World → Prop}
    (hf : P.funcs[f]? = some fn) (hb : fn.body = some c) {N : Nat} (hN : fn.ntmps = N) (hl : Nat.ble l.length N = true) (M : Mem0) (S : Nat → Prop) (hM : Mem w M)
    (h : wpM P none N c (fnPost P fn R) (args0 0 l) [] M S w top) : Ret P f l.toArray w R :=
  .enter hf hb hN.symm hl (h w hM (.refl _ _) trivial)
/-- ... where more is known of the world. -/
theorem Ret.enterG {P : Program} {f : FuncId} {fn : Func} {c : Code} {l : List Value} {w : World} {R : Value → World → Prop}
    (hf : P.funcs[f]? = some fn) (hb : fn.body = some c) {N : Nat} (hN : fn.ntmps = N) (hl : Nat.ble l.length N = true) (M : Mem0) (S : Nat → Prop) (G : World → Prop) (hM : Mem w M) (hG : G w)
    (h : wpM P none N c (fnPost P fn R) (args0 0 l) [] M S w G) : Ret P f l.toArray w R :=
  .enter hf hb hN.symm hl (h w hM (.refl _ _) hG)

section
variable {P : Program} {fn : Func} {N : Nat} {e : Env} {ds : List Nat} {M : Mem0} {S : Nat → Prop} {w0 : World} {G : World → Prop} {R : Value → World → Prop} {vs : List Value}
theorem QM.leave {x : Exit} (hx : x = .ret ∨ x = .normal) (rs : List ResultVar) (hr : fn.results = rs.toArray) (h : resE e rs = some vs) (hR : ∀ w, Mem w M → Chg S w0 w → G w → R (resV vs) w) : QM N (fnPost P fn R) x e [] M S w0 G := fun w hm hc hg => by
  rcases hx with rfl | rfl
  · exact .leave rs hr h trivial (hR w hm hc hg)
  · exact .leaveN rs hr h trivial (hR w hm hc hg)
end

section
variable {P : Program} {ty : TypeId} {e : Env} {w : World}

theorem wrap_i64 (n : Int) (h : -9223372036854775808 ≤ n ∧ n ≤ 9223372036854775807) : IntKind.i64.wrap n = n := by
  simp only [IntKind.signed, IntKind.bits, IntKind.wrap]; simp; omega
theorem wrap_u64 (n : Int) (h : 0 ≤ n ∧ n ≤ 18446744073709551615) : IntKind.u64.wrap n = n := by
  simp only [IntKind.signed, IntKind.bits, IntKind.wrap]; simp; omega
theorem wrap_u64_bv (n : Int) : IntKind.u64.wrap n = ((BitVec.ofInt 64 n).toNat : Int) := by
  simp only [IntKind.signed, IntKind.bits, IntKind.wrap, BitVec.toNat_ofInt]; simp; omega
theorem ov_move {x : Operand} {v : Value} (h : ev e x = some v) : OpP P (.move x) ty e v := fun w ρ hρ _ _ _ _ => by
  simp [execOp, hρ x v h]
theorem ov_assign {x : Operand} {v : Value} (h : ev e x = some v) : OpP P (.assign x) ty e v := fun w ρ hρ _ _ _ _ => by
  simp [execOp, hρ x v h]
theorem ov_pickT {c a b : Operand} {v : Value} (hc : ev e c = some (.bool true)) (h : ev e a = some v) : OpP P (.pick c a b) ty e v := fun w ρ hρ _ _ _ _ => by
  simp [execOp, hρ c _ hc, hρ a _ h, asBool]
theorem ov_pickF {c a b : Operand} {v : Value} (hc : ev e c = some (.bool false)) (h : ev e b = some v) : OpP P (.pick c a b) ty e v := fun w ρ hρ _ _ _ _ => by
  simp [execOp, hρ c _ hc, hρ b _ h, asBool]

/-! integers -/
section ints
variable {x y : Operand} {k : IntKind} {a b : Int} {t u : TypeId}
theorem run_eqGuard_int (op : BinOp) (t : TypeId) (x y : Operand) (k k' : IntKind) (a b : Int) (w : World) : (eqGuard op t x y (.int k a) (.int k' b)).run P w = .ok () w := by
  unfold eqGuard; cases op <;> rfl
theorem ov_arith {op : BinOp} {v : Value} (hx : ev e x = some (.int k a)) (hy : ev e y = some (.int k b))
    (h : ∀ w, (binOp op t (.int k a) (.int k b)).run P w = .ok v w) : OpP P (.binOp op t x y u) ty e v := fun w ρ hρ _ _ _ _ => by
  simp [execOp, hρ x _ hx, hρ y _ hy, run_eqGuard_int, h, Result.andThen]
theorem ov_add (hx : ev e x = some (.int k a)) (hy : ev e y = some (.int k b)) : OpP P (.binOp .add t x y u) ty e (.int k (k.wrap (a + b))) := ov_arith hx hy (fun w => by simp [binOp, Op.intArith])
theorem ov_sub (hx : ev e x = some (.int k a)) (hy : ev e y = some (.int k b)) : OpP P (.binOp .sub t x y u) ty e (.int k (k.wrap (a - b))) := ov_arith hx hy (fun w => by simp [binOp, Op.intArith])
theorem ov_mul (hx : ev e x = some (.int k a)) (hy : ev e y = some (.int k b)) : OpP P (.binOp .mul t x y u) ty e (.int k (k.wrap (a * b))) := ov_arith hx hy (fun w => by simp [binOp, Op.intArith])
theorem ov_add64 (hx : ev e x = some (.int .i64 a)) (hy : ev e y = some (.int .i64 b)) (h : -9223372036854775808 ≤ a + b ∧ a + b ≤ 9223372036854775807) : OpP P (.binOp .add t x y u) ty e (.int .i64 (a + b)) := by
  have := ov_add (P := P) (ty := ty) (t := t) (u := u) hx hy; rwa [wrap_i64 _ h] at this
theorem ov_sub64 (hx : ev e x = some (.int .i64 a)) (hy : ev e y = some (.int .i64 b)) (h : -9223372036854775808 ≤ a - b ∧ a - b ≤ 9223372036854775807) : OpP P (.binOp .sub t x y u) ty e (.int .i64 (a - b)) := by
  have := ov_sub (P := P) (ty := ty) (t := t) (u := u) hx hy; rwa [wrap_i64 _ h] at this
theorem ov_mul64 (hx : ev e x = some (.int .i64 a)) (hy : ev e y = some (.int .i64 b)) (h : -9223372036854775808 ≤ a * b ∧ a * b ≤ 9223372036854775807) : OpP P (.binOp .mul t x y u) ty e (.int .i64 (a * b)) := by
  have := ov_mul (P := P) (ty := ty) (t := t) (u := u) hx hy; rwa [wrap_i64 _ h] at this
theorem ov_eql (hx : ev e x = some (.int k a)) (hy : ev e y = some (.int k b)) : OpP P (.binOp .eql t x y u) ty e (.bool (decide (a = b))) := ov_arith hx hy (fun w => by
  have : (a == b) = decide (a = b) := by rw [Bool.eq_iff_iff]; simp
  simp [binOp, Op.intCmp, this])
theorem ov_neq (hx : ev e x = some (.int k a)) (hy : ev e y = some (.int k b)) : OpP P (.binOp .neq t x y u) ty e (.bool (decide (a ≠ b))) := ov_arith hx hy (fun w => by
  have : (a != b) = decide (a ≠ b) := by rw [Bool.eq_iff_iff]; simp
  simp [binOp, Op.intCmp, this])
theorem ov_lss (hx : ev e x = some (.int k a)) (hy : ev e y = some (.int k b)) : OpP P (.binOp .lss t x y u) ty e (.bool (decide (a < b))) := ov_arith hx hy (fun w => by simp [binOp, Op.intCmp])
theorem ov_leq (hx : ev e x = some (.int k a)) (hy : ev e y = some (.int k b)) : OpP P (.binOp .leq t x y u) ty e (.bool (decide (a ≤ b))) := ov_arith hx hy (fun w => by simp [binOp, Op.intCmp])
theorem ov_gtr (hx : ev e x = some (.int k a)) (hy : ev e y = some (.int k b)) : OpP P (.binOp .gtr t x y u) ty e (.bool (decide (b < a))) := ov_arith hx hy (fun w => by simp [binOp, Op.intCmp])
theorem ov_geq (hx : ev e x = some (.int k a)) (hy : ev e y = some (.int k b)) : OpP P (.binOp .geq t x y u) ty e (.bool (decide (b ≤ a))) := ov_arith hx hy (fun w => by simp [binOp, Op.intCmp])
end ints

/-! 64 bits -/
abbrev U (x : BitVec 64) : Value := .int .u64 (x.toNat : Int)
section bits
variable {x y : Operand} {a b : BitVec 64} {t u : TypeId} {n : Int}
theorem ofInt_toNat (a : BitVec 64) : BitVec.ofInt 64 (a.toNat : Int) = a := by
  apply BitVec.eq_of_toNat_eq; simp
theorem toNat_wrap (a : BitVec 64) : IntKind.u64.wrap (a.toNat : Int) = (a.toNat : Int) := wrap_u64 _ (by have := a.isLt; omega)
theorem ov_uand (hx : ev e x = some (U a)) (hy : ev e y = some (U b)) : OpP P (.binOp .and t x y u) ty e (U (a &&& b)) := ov_arith hx hy (fun w => by
  show Result.ok (Value.int .u64 (IntKind.u64.wrap ((BitVec.ofInt 64 (a.toNat : Int) &&& BitVec.ofInt 64 (b.toNat : Int)).toNat : Int))) w = _
  rw [ofInt_toNat, ofInt_toNat, toNat_wrap])
theorem ov_uor (hx : ev e x = some (U a)) (hy : ev e y = some (U b)) : OpP P (.binOp .or t x y u) ty e (U (a ||| b)) := ov_arith hx hy (fun w => by
  show Result.ok (Value.int .u64 (IntKind.u64.wrap ((BitVec.ofInt 64 (a.toNat : Int) ||| BitVec.ofInt 64 (b.toNat : Int)).toNat : Int))) w = _
  rw [ofInt_toNat, ofInt_toNat, toNat_wrap])
theorem ov_uandNot (hx : ev e x = some (U a)) (hy : ev e y = some (U b)) : OpP P (.binOp .andNot t x y u) ty e (U (a &&& ~~~b)) := ov_arith hx hy (fun w => by
  show Result.ok (Value.int .u64 (IntKind.u64.wrap ((BitVec.ofInt 64 (a.toNat : Int) &&& ~~~ BitVec.ofInt 64 (b.toNat : Int)).toNat : Int))) w = _
  rw [ofInt_toNat, ofInt_toNat, toNat_wrap])
theorem ov_ueql (hx : ev e x = some (U a)) (hy : ev e y = some (U b)) : OpP P (.binOp .eql t x y u) ty e (.bool (decide (a = b))) := ov_arith hx hy (fun w => by
  have : ((a.toNat : Int) == (b.toNat : Int)) = decide (a = b) := by rw [Bool.eq_iff_iff, beq_iff_eq, decide_eq_true_eq, Int.ofNat_inj, BitVec.toNat_inj]
  simp only [binOp, Op.intCmp, this, ne_eq, not_true_eq_false, if_false]; rfl)
theorem ov_uneq (hx : ev e x = some (U a)) (hy : ev e y = some (U b)) : OpP P (.binOp .neq t x y u) ty e (.bool (decide (a ≠ b))) := ov_arith hx hy (fun w => by
  have : ((a.toNat : Int) != (b.toNat : Int)) = decide (a ≠ b) := by rw [Bool.eq_iff_iff, bne_iff_ne, decide_eq_true_eq, ne_eq, ne_eq, Int.ofNat_inj, BitVec.toNat_inj]
  simp only [binOp, Op.intCmp, this, ne_eq, not_true_eq_false, if_false]; rfl)
theorem ov_ugeq (hx : ev e x = some (U a)) (hy : ev e y = some (U b)) : OpP P (.binOp .geq t x y u) ty e (.bool (decide (b.toNat ≤ a.toNat))) := ov_arith hx hy (fun w => by simp [binOp, Op.intCmp])
theorem ov_shift {op : BinOp} {k k' : IntKind} {a b : Int} {v : Value} (hx : ev e x = some (.int k a)) (hy : ev e y = some (.int k' b))
    (h : ∀ w, (binOp op t (.int k a) (.int k' b)).run P w = .ok v w) : OpP P (.binOp op t x y u) ty e v := fun w ρ hρ _ _ _ _ => by
  simp [execOp, hρ x _ hx, hρ y _ hy, run_eqGuard_int, h, Result.andThen]
theorem ov_ushl {k' : IntKind} (hx : ev e x = some (U a)) (hy : ev e y = some (.int k' n)) (hn : 0 ≤ n) : OpP P (.binOp .shl t x y u) ty e (U (a <<< n.toNat)) := ov_shift hx hy (fun w => by
  have h0 : ¬ n < 0 := by omega
  have : IntKind.u64.wrap ((a.toNat : Int) * 2 ^ (min n.toNat 64)) = ((a <<< n.toNat).toNat : Int) := by
    rw [wrap_u64_bv]
    have e1 : ((a.toNat : Int) * 2 ^ (min n.toNat 64)) = ((a.toNat * 2 ^ (min n.toNat 64) : Nat) : Int) := by push_cast; rfl
    rw [e1, BitVec.toNat_ofInt, BitVec.toNat_shiftLeft, Nat.shiftLeft_eq]
    by_cases hk : n.toNat ≤ 64
    · rw [Nat.min_eq_left hk]; simp; omega
    · rw [Nat.min_eq_right (by omega)]
      have : 2 ^ n.toNat = 2 ^ 64 * 2 ^ (n.toNat - 64) := by rw [← Nat.pow_add]; congr 1; omega
      rw [this, ← Nat.mul_assoc, Nat.mul_right_comm]
      simp only [Nat.mul_mod_left]
      simp
  simp only [binOp, Op.shift, if_neg h0, IntKind.bits, this]; rfl)
theorem ov_conv {s d : TypeId} {k k' : IntKind} (hs : P.underlying s = some (.int k)) (hd : P.underlying d = some (.int k')) (hx : ev e x = some (.int k n)) : OpP P (.convert s d x) ty e (.int k' (k'.wrap n)) := fun w ρ hρ _ _ _ _ => by
  simp [execOp, hρ x _ hx, convert, run_underlying hs, run_underlying hd, Conv.intToInt, Result.andThen]
end bits

theorem ov_to64 {x : Operand} {s d : TypeId} {k : IntKind} {n : Int} (hs : P.underlying s = some (.int k)) (hd : P.underlying d = some (.int .i64)) (hx : ev e x = some (.int k n)) (h : -9223372036854775808 ≤ n ∧ n ≤ 9223372036854775807) : OpP P (.convert s d x) ty e (.int .i64 n) := by
  have := ov_conv (P := P) (ty := ty) hs hd hx; rwa [wrap_i64 _ h] at this

/-! bools -/
section bools
variable {x y : Operand} {t u : TypeId}
theorem ov_not {b : Bool} (hx : ev e x = some (.bool b)) : OpP P (.unOp .not t x) ty e (.bool (!b)) := fun w ρ hρ _ _ _ _ => by
  simp [execOp, hρ x _ hx, Op.unary]
theorem ov_notD {p : Prop} [Decidable p] (hx : ev e x = some (.bool (decide p))) : OpP P (.unOp .not t x) ty e (.bool (decide (¬ p))) := fun w ρ hρ _ _ _ _ => by
  simp [execOp, hρ x _ hx, Op.unary]
end bools

/-! built-ins, tuples, functions -/
section misc
variable {x y : Operand} {t u : TypeId}
theorem ov_min {k : IntKind} {a b : Int} {ats : Array TypeId} (hx : ev e x = some (.int k a)) (hy : ev e y = some (.int k b)) : OpP P (.call { callee := .builtin .min, args := #[x, y], argTypes := ats }) ty e (.int k (if b < a then b else a)) := fun w ρ hρ _ _ _ _ => by
  simp [execOp, resolve, invoke, builtin, Builtin.min_, Builtin.min2, hρ x _ hx, hρ y _ hy]
theorem ov_len {ad : Option Addr} {n c : Nat} {E : TypeId} (ht : P.underlying t = some (.slice E)) (hx : ev e x = some (.slice ad n c)) : OpP P (.call { callee := .builtin .len, args := #[x], argTypes := #[t] }) ty e (.int .i64 n) := fun w ρ hρ _ _ _ _ => by
  simp [execOp, resolve, invoke, builtin, Builtin.len_, hρ x _ hx, run_underlying ht, goInt, Result.andThen]
theorem ov_slen {s : ByteArray} (ht : P.underlying t = some .string) (hx : ev e x = some (.string s)) : OpP P (.call { callee := .builtin .len, args := #[x], argTypes := #[t] }) ty e (.int .i64 s.size) := fun w ρ hρ _ _ _ _ => by
  simp [execOp, resolve, invoke, builtin, Builtin.len_, hρ x _ hx, run_underlying ht, goInt, Result.andThen]
theorem ov_extract {vs : Array Value} {i : Nat} {v : Value} (hx : ev e x = some (.tuple vs)) (hi : vs[i]? = some v) : OpP P (.extract x i) ty e v := fun w ρ hρ _ _ _ _ => by
  simp [execOp, Instr.extract, hρ x _ hx, hi]
theorem ov_nilCheck {ad : Addr} (hx : ev e x = some (.pointer (some ad))) : OpP P (.nilCheck x) ty e (.pointer (some ad)) := fun w ρ hρ _ _ _ _ => by
  simp [execOp, hρ x _ hx]
def evs (e : Env) : List Operand → Option (List Value)
  | [] => some []
  | x :: l => match ev e x, evs e l with | some v, some vs => some (v :: vs) | _, _ => none
theorem evs_map {ρ : Operand → Value} (hρ : ∀ x u, ev e x = some u → ρ x = u) : ∀ {l : List Operand} {vs : List Value}, evs e l = some vs → l.map ρ = vs
  | [], vs, h => by simp only [evs, Option.some.injEq] at h; subst h; rfl
  | x :: l, vs, h => by
    simp only [evs] at h
    cases hx : ev e x with
    | none => rw [hx] at h; cases h
    | some v =>
      cases hl : evs e l with
      | none => rw [hx, hl] at h; cases h
      | some us =>
        rw [hx, hl] at h
        obtain rfl := Option.some.inj h
        simp [hρ x v hx, evs_map hρ hl]
theorem ov_makeFunc {fn : Fn} {caps : List Operand} {vs : List Value} (h : evs e caps = some vs) : OpP P (.makeFunc fn #[] caps.toArray) ty e (.func fn #[] vs.toArray) := fun w ρ hρ _ _ _ _ => by
  simp [execOp, Instr.makeFunc, evs_map hρ h]
/-- A function that has a body is entered. -/
def Enters (P : Program) (f : FuncId) : Prop := ∀ args w, (callFunc f args).run P w = .ok (.enter f args) w
theorem enters_fn {P : Program} {f : FuncId} {fn : Func} {c : Code} (hf : P.funcs[f]? = some fn) (hn : (fn.name == "runtime.NumGoroutine") = false) (hb : fn.body = some c) : Enters P f := fun args w => by
  have h1 : fn.name ≠ "runtime.NumGoroutine" := by simpa using hn
  simp [callFunc, hf, h1, hb, Result.andThen]
theorem oc_call {f : FuncId} {l : List Operand} {vs : List Value} {ats : Array TypeId} (hE : Enters P f) (h : evs e l = some vs) (w : World) : OpC P (.call { callee := .value (.func f), args := l.toArray, argTypes := ats }) ty e w f vs.toArray := fun ρ hρ _ _ _ _ => by
  simp [execOp, resolve, hρ (.func f) _ rfl, Deferred.ofValue, invoke, evs_map hρ h]
  exact hE _ _
/-- A call of a function value. -/
theorem oc_callV {g : Operand} {f : FuncId} {first caps : Array Value} {l : List Operand} {vs : List Value} {ats : Array TypeId} (hg : ev e g = some (.func (.func f) first caps)) (hE : Enters P f) (h : evs e l = some vs) (w : World) :
    OpC P (.call { callee := .value g, args := l.toArray, argTypes := ats }) ty e w f (first ++ vs.toArray ++ caps) := fun ρ hρ _ _ _ _ => by
  simp [execOp, resolve, hρ g _ hg, Deferred.ofValue, invoke, evs_map hρ h]
  exact hE _ _
end misc
end

section
variable {P : Program} {r : Option Nat} {ops : Array Oper}

/-- Only the plain end counts. -/
def Qn (Q : Exit → Act → World → Prop) : Exit → Act → World → Prop
  | .normal, a, w => Q .normal a w
  | _, _, _ => False

/-- In the state a the operation yields v in each world of the class, and leaves it as it is; or it isn't carried out. -/
def YA (P : Program) (ops : Array Oper) (D : World → Prop) (o : Oper) (v : Value) (a : Act) : Prop :=
  (Region.wanted o (yielded ops a.tmps) = true ∧ nd o.op = true ∧ ∀ w, D w → (execOp a.eval o).run P w = .ok (.value v) w) ∨
  (Region.wanted o (yielded ops a.tmps) = false ∧ v = undef)

theorem YA.wpOp {D : World → Prop} {i : Nat} {o : Oper} {v : Value} {a : Act} {w : World} {Q : Exit → Act → World → Prop} {K : Act → World → Prop}
    (hi : ops[i]? = some o) (hy : YA P ops D o v a) (hw : D w) (h : K (a.put o.dst v) w) : wpOpIn (Wd r) 0 P ops Q i K a w := by
  unfold wpOpIn
  simp only [hi]
  rcases hy with ⟨h1, h2, h3⟩ | ⟨h1, rfl⟩
  · rw [if_pos h1]; exact wp_val h2 (h3 w hw) h
  · rw [if_neg (by rw [h1]; simp)]; exact ⟨fun _ _ => trivial, h⟩

theorem YA.put {D : World → Prop} {oi oj : Oper} {v u : Value} {a : Act} (hsi : ∀ cs b, oi.op ≠ .select cs b) (hap : oi.apart ops oj = true) (hy : YA P ops D oi v a) : YA P ops D oi v (a.put oj.dst u) := by
  obtain ⟨_, _, h3⟩ := Oper.apart_spec hap
  unfold YA at *
  rw [wanted_put oi a oj.dst u h3, execOp_put oi hsi a oj.dst u h3]
  exact hy

/-- Operation j, carried out ahead of i: as behind it. -/
theorem wpOp_swap {D : World → Prop} {j : Nat} {oi oj : Oper} {v : Value} {Q : Exit → Act → World → Prop} {K : Act → World → Prop} {a : Act} {w : World}
    (hj : ops[j]? = some oj) (hap : oi.apart ops oj = true) (hsi : ∀ cs b, oi.op ≠ .select cs b) (hsj : ∀ cs b, oj.op ≠ .select cs b) (hdj : nd oj.op = true)
    (hy : YA P ops D oi v a) (h : wpOpIn (Wd r) 0 P ops (Qn Q) j K (a.put oi.dst v) w) :
    wpOpIn (Wd r) 0 P ops (Qn Q) j (fun a' w' => YA P ops D oi v a' ∧ K (a'.put oi.dst v) w') a w := by
  obtain ⟨h1, h2, _⟩ := Oper.apart_spec hap
  unfold wpOpIn at *
  simp only [hj] at *
  rw [wanted_put oj a oi.dst v h1] at h
  by_cases hw : Region.wanted oj (yielded ops a.tmps) = true
  · rw [if_pos hw] at h ⊢
    refine ⟨fun _ _ => trivial, ?_⟩
    have h := h.2
    rw [semAt_nd hdj, execOp_put oj hsj a oi.dst v h1] at h
    rw [semAt_nd hdj]
    generalize (execOp a.eval oj).run P w = res at *
    cases res with
    | ok x w' =>
      cases x <;> simp only [Oper.uponIn] at h ⊢
      case value u => exact ⟨hy.put hsi hap, by rw [← Act.put_comm a v u h2]; exact h⟩
      case skip => exact ⟨hy.put hsi hap, by rw [← Act.put_comm a v undef h2]; exact h⟩
      case defer d =>
        refine ⟨?_, ?_⟩
        · have h4 : YA P ops D oi v { a with defers := d :: a.defers } := hy
          exact h4.put hsi hap
        · rw [← Act.put_comm _ v undef h2, ← Act.put_defers]; exact h
      case enter f args =>
        refine ⟨h.1, CallsIn.mono h.2 fun en w'' he => ?_⟩
        cases en with
        | returned u => exact ⟨hy.put hsi hap, by rw [← Act.put_comm a v u h2]; exact he⟩
        | panicked c => exact he
        | outgrown => exact he
      case row row args => exact ⟨h.1, RowsIn.mono h.2 fun u w'' he => ⟨hy.put hsi hap, by rw [← Act.put_comm a v u h2]; exact he⟩⟩
      case round l f tmps assign body =>
        refine ⟨h.1, RoundIn.mono h.2 fun en w'' he => ?_⟩
        cases en with
        | returned u => exact ⟨hy.put hsi hap, by rw [← Act.put_comm a v u h2]; exact he⟩
        | panicked c => exact he
        | outgrown => exact he
    | halt x w' => cases x <;> simp only [Oper.uponIn] at h ⊢ <;> exact h
  · rw [if_neg hw] at h ⊢
    exact ⟨fun _ _ => trivial, hy.put hsi hap, by rw [← Act.put_comm a v undef h2]; exact h.2⟩

/-- The walk of all orders; as long as no operation of the tail has been carried out the world is of the class. -/
def WS (P : Program) (r : Option Nat) (ops : Array Oper) (Q : Exit → Act → World → Prop) (C : World → Prop) (tl : Nat → Bool) : Nat → Array Bool → Act → World → Prop
  | 0, listed, a, w => ((∀ i, tl i = true → listed.getD i false = false) → C w) ∧ Region.ready .any ops listed = [] ∧ Q .normal a w
  | n + 1, listed, a, w => ((∀ i, tl i = true → listed.getD i false = false) → C w) ∧ (Region.ready .any ops listed = [] → Q .normal a w) ∧
    ∀ i ∈ Region.ready .any ops listed, wpOpIn (Wd r) 0 P ops (Qn Q) i (WS P r ops Q C tl n (listed.setIfInBounds i true)) a w

theorem WS.cls {Q : Exit → Act → World → Prop} {C : World → Prop} {tl : Nat → Bool} {n : Nat} {listed : Array Bool} {a : Act} {w : World} (h : WS P r ops Q C tl n listed a w) (ht : ∀ i, tl i = true → listed.getD i false = false) : C w := by
  cases n with
  | zero => exact h.1 ht
  | succ n => exact h.1 ht

theorem WS.any {Q : Exit → Act → World → Prop} {C : World → Prop} {tl : Nat → Bool} : ∀ (n : Nat) (listed : Array Bool) (a : Act) (w : World), WS P r ops Q C tl n listed a w → wpAnyIn (Wd r) 0 P .any ops (Qn Q) n listed a w
  | 0, _, _, _, h => ⟨h.2.1, h.2.2⟩
  | n + 1, _, _, _, h => ⟨h.2.1, fun i hi => wpOpIn_mono (fun a w => WS.any n _ a w) (h.2.2 i hi)⟩

theorem unlisted_set {listed : Array Bool} {i j : Nat} (h : i ≠ j) (hi : listed.getD i false = false) : (listed.setIfInBounds j true).getD i false = false := by
  rw [getD_set_ne false (Ne.symm h)]; exact hi

/-- Behind another one, by edges that bind. -/
def depOf (ops : Array Oper) : Nat → Nat → Nat → Bool
  | 0, _, _ => false
  | n + 1, j, i => match ops[j]? with | some o => o.after.any (fun ed => Region.binds .any ed && (ed.on == i || depOf ops n ed.on i)) | none => false
def Closed (ops : Array Oper) (listed : Array Bool) : Prop := ∀ (q : Nat) (o : Oper), listed.getD q false = true → ops[q]? = some o → ∀ ed ∈ o.after, Region.binds .any ed = true → listed.getD ed.on false = true
theorem Closed.dep {listed : Array Bool} (h : Closed ops listed) : ∀ (n j i : Nat), listed.getD j false = true → depOf ops n j i = true → listed.getD i false = true
  | 0, _, _, _, hd => by simp [depOf] at hd
  | n + 1, j, i, hj, hd => by
    simp only [depOf] at hd
    cases ho : ops[j]? with
    | none => rw [ho] at hd; cases hd
    | some o =>
      rw [ho] at hd
      obtain ⟨ed, he, hb⟩ := Array.any_eq_true'.1 hd
      simp only [Bool.and_eq_true, Bool.or_eq_true, beq_iff_eq] at hb
      have h1 := h j o hj ho ed he hb.1
      rcases hb.2 with h2 | h2
      · rw [← h2]; exact h1
      · exact Closed.dep h n ed.on i h1 h2
theorem Closed.ready {listed : Array Bool} (h : Closed ops listed) {n j i : Nat} (hj : j ∈ Region.ready .any ops listed) (hd : depOf ops n j i = true) : listed.getD i false = true := by
  obtain ⟨_, o, ho, hall⟩ := mem_ready.1 hj
  cases n with
  | zero => simp [depOf] at hd
  | succ n =>
    simp only [depOf, ho] at hd
    obtain ⟨ed, he, hb⟩ := Array.any_eq_true'.1 hd
    simp only [Bool.and_eq_true, Bool.or_eq_true, beq_iff_eq] at hb
    have h1 := hall ed he hb.1
    rcases hb.2 with h2 | h2
    · rw [← h2]; exact h1
    · exact h.dep n ed.on i h1 h2
theorem Closed.set {listed : Array Bool} (h : Closed ops listed) {j : Nat} (hj : j ∈ Region.ready .any ops listed) : Closed ops (listed.setIfInBounds j true) := fun q o hq ho ed he hb => by
  by_cases e : j = q
  · subst e
    obtain ⟨_, o', ho', hall⟩ := mem_ready.1 hj
    rw [ho] at ho'; cases ho'
    exact getD_set_true (hall ed he hb)
  · rw [getD_set_ne false e] at hq
    exact getD_set_true (h q o hq ho ed he hb)
/-- An operation that yields v whenever it is carried out may be taken first. -/
theorem WS.first {Q : Exit → Act → World → Prop} {C D : World → Prop} {tl : Nat → Bool} {i : Nat} {oi : Oper} {v : Value} (hi : ops[i]? = some oi) (hti : tl i = false)
    (hsel : ∀ (j : Nat) (o : Oper) cs b, ops[j]? = some o → o.op ≠ .select cs b) (hnd : ∀ (j : Nat) (o : Oper), ops[j]? = some o → nd o.op = true)
    (hD : (∀ w, D w) ∨ ((∀ w, C w → D w) ∧ ∀ (j : Nat) (o : Oper), ops[j]? = some o → tl j = true → (∃ ed ∈ o.after, Region.binds .any ed = true ∧ tl ed.on = true) ∨ depOf ops 40 j i = true)) :
    ∀ (n : Nat) (listed : Array Bool) (a : Act) (w : World), Closed ops listed → C w → (∀ i, tl i = true → listed.getD i false = false) →
      (∀ j oj, ops[j]? = some oj → j ≠ i → listed.getD j true = false → (∀ ed ∈ oj.after, Region.binds .any ed = true → ed.on ≠ i) → oi.apart ops oj = true) →
      i ∈ Region.ready .any ops listed → YA P ops D oi v a →
      WS P r ops Q C tl n (listed.setIfInBounds i true) (a.put oi.dst v) w → WS P r ops Q C tl (n + 1) listed a w := by
  have hCD : ∀ w, C w → D w := fun w hw => hD.elim (fun h => h w) (fun h => h.1 w hw)
  -- the pure case speaks of worlds behind the tail, too: one induction on a weaker premise
  have key : ∀ (n : Nat) (listed : Array Bool) (a : Act) (w : World), Closed ops listed → ((∀ i, tl i = true → listed.getD i false = false) → C w) → D w →
      ((∀ w, D w) ∨ ∀ i, tl i = true → listed.getD i false = false) →
      (∀ j oj, ops[j]? = some oj → j ≠ i → listed.getD j true = false → (∀ ed ∈ oj.after, Region.binds .any ed = true → ed.on ≠ i) → oi.apart ops oj = true) →
      i ∈ Region.ready .any ops listed → YA P ops D oi v a →
      WS P r ops Q C tl n (listed.setIfInBounds i true) (a.put oi.dst v) w → WS P r ops Q C tl (n + 1) listed a w := by
    intro n
    induction n with
    | zero =>
      intro listed a w hcl hC hDw _ _ hr hy H
      refine ⟨hC, fun h => (by rw [h] at hr; cases hr), fun j hj => ?_⟩
      by_cases hji : j = i
      · subst hji; exact hy.wpOp hi hDw H
      · have := ready_mono hj hji
        rw [H.2.1] at this
        cases this
    | succ n ih =>
      intro listed a w hcl hC hDw htl hfree hr hy H
      refine ⟨hC, fun h => (by rw [h] at hr; cases hr), fun j hj => ?_⟩
      by_cases hji : j = i
      · subst hji; exact hy.wpOp hi hDw H
      · have h1 := H.2.2 j (ready_mono hj hji)
        obtain ⟨hjun, oj, hoj, hall⟩ := mem_ready.1 hj
        have hnot : ∀ ed ∈ oj.after, Region.binds .any ed = true → ed.on ≠ i := fun ed he hb heq => by
          have h1 := hall ed he hb
          have h0 := (mem_ready.1 hr).1
          rw [heq] at h1
          rcases Nat.lt_or_ge i listed.size with h' | h'
          · simp [h'] at h0 h1; rw [h0] at h1; cases h1
          · simp [Array.getElem?_eq_none h'] at h1
        have h2 := wpOp_swap hoj (hfree j oj hoj hji hjun hnot) (fun cs b => hsel i oi cs b hi) (fun cs b => hsel j oj cs b hoj) (hnd j oj hoj) hy h1
        have hfree' : ∀ k ok, ops[k]? = some ok → k ≠ i → (listed.setIfInBounds j true).getD k true = false →
            (∀ ed ∈ ok.after, Region.binds .any ed = true → ed.on ≠ i) → oi.apart ops ok = true := fun k ok hk hki hun hno => by
          refine hfree k ok hk hki ?_ hno
          by_cases hjk : j = k
          · subst hjk; exact hjun
          · rw [getD_set_ne true hjk] at hun; exact hun
        refine wpOpIn_mono (fun a' w' h3 => ?_) h2
        have h4 : WS P r ops Q C tl n ((listed.setIfInBounds j true).setIfInBounds i true) (a'.put oi.dst v) w' := by
          rw [Array.setIfInBounds_comm _ _ hji]; exact h3.2
        have hback : ∀ q, tl q = true → (listed.setIfInBounds j true).getD q false = false → ((listed.setIfInBounds j true).setIfInBounds i true).getD q false = false := fun q hq hu =>
          unlisted_set (fun e => by subst e; rw [hti] at hq; cases hq) hu
        have hC' : (∀ q, tl q = true → (listed.setIfInBounds j true).getD q false = false) → C w' := fun ht => h4.cls (fun q hq => hback q hq (ht q hq))
        have htl' : (∀ w, D w) ∨ ∀ q, tl q = true → (listed.setIfInBounds j true).getD q false = false := by
          rcases hD with hD | ⟨_, hD⟩
          · exact .inl hD
          · rcases htl with htl | htl
            · exact .inl htl
            · refine .inr fun q hq => ?_
              by_cases hqj : q = j
              · subst hqj
                rcases hD q oj hoj hq with ⟨ed, hed, hb, hon⟩ | hdep
                · have h1 := hall ed hed hb
                  have h0 := htl ed.on hon
                  rw [h1] at h0; cases h0
                · have h1 := hcl.ready hj hdep
                  have h0 := (mem_ready.1 hr).1
                  rcases Nat.lt_or_ge i listed.size with h' | h'
                  · simp [h'] at h0 h1; rw [h0] at h1; cases h1
                  · simp [Array.getElem?_eq_none h'] at h1
              · exact unlisted_set hqj (htl q hq)
        refine ih (listed.setIfInBounds j true) a' w' (hcl.set hj) hC' ?_ htl' hfree' (ready_mono hr (Ne.symm hji)) h3.1 h4
        rcases htl' with h | h
        · exact h w'
        · exact hCD w' (hC' h)
  intro n listed a w hcl hC ht hfree hr hy H
  exact key n listed a w hcl (fun _ => hC) (hCD w hC) (.inr ht) hfree hr hy H

/-- The walk in one order. Each number with a kind: 0 it yields its value in whatever world; 1 in each world of the class; 2 it stands alone, and keeps the class; else: it and all behind it stand alone. -/
def LDA (P : Program) (r : Option Nat) (ops : Array Oper) (Q : Exit → Act → World → Prop) : (World → Prop) → List (Nat × Nat) → Act → Prop
  | C, [], a => ∀ w, C w → Q .normal a w
  | C, (i, k) :: l, a =>
    match ops[i]? with
    | none => False
    | some o =>
      match k with
      | 0 => ∃ v, YA P ops (fun _ => True) o v a ∧ LDA P r ops Q C l (a.put o.dst v)
      | 1 => ∃ v, YA P ops C o v a ∧ LDA P r ops Q C l (a.put o.dst v)
      | 2 => ∀ w, C w → wpOpIn (Wd r) 0 P ops (Qn Q) i (fun a' w' => ∃ C' : World → Prop, (∀ w, C' w → C w) ∧ C' w' ∧ LDA P r ops Q C' l a') a w
      | _ => ∀ w, C w → wpListIn (Wd r) 0 P ops (Qn Q) (((i, k) :: l).filterMap fun p => ops[p.1]?) a w

theorem WS.weaken {Q : Exit → Act → World → Prop} {C C' : World → Prop} {tl : Nat → Bool} (h : ∀ w, C' w → C w) : ∀ (n : Nat) (listed : Array Bool) (a : Act) (w : World), WS P r ops Q C' tl n listed a w → WS P r ops Q C tl n listed a w
  | 0, _, _, _, k => ⟨fun ht => h _ (k.1 ht), k.2⟩
  | n + 1, _, _, _, k => ⟨fun ht => h _ (k.1 ht), k.2.1, fun i hi => wpOpIn_mono (fun a w => WS.weaken h n _ a w) (k.2.2 i hi)⟩

/-- Does an operation stand behind another one by an edge of its own? -/
def afterOf (ops : Array Oper) (j i : Nat) : Bool := match ops[j]? with | some o => o.after.any (fun ed => Region.binds .any ed && ed.on == i) | none => false

def tailOf (ord : List (Nat × Nat)) (i : Nat) : Bool := ord.any fun p => p.1 == i && decide (3 ≤ p.2)

/-- One order is the only one, but for what may be carried out early or late. -/
def chkD (ops : Array Oper) (full : List (Nat × Nat)) : List (Nat × Nat) → Array Bool → Bool
  | [], listed => Region.ready .any ops listed == []
  | (i, k) :: l, listed =>
    (match k with
      | 0 => Region.free .any ops listed i && (Region.ready .any ops listed).contains i
      | 1 => Region.free .any ops listed i && (Region.ready .any ops listed).contains i && full.all (fun p => decide (p.2 < 3) || depOf ops 40 p.1 i || full.any (fun q => decide (3 ≤ q.2) && afterOf ops p.1 q.1))
      | 2 => Region.ready .any ops listed == [i]
      | _ => Region.ready .any ops listed == [i] && l.all (fun p => decide (3 ≤ p.2))) &&
    chkD ops full l (listed.setIfInBounds i true)

def noDefer (ops : Array Oper) : Bool := ops.all fun o => nd o.op

theorem tail_ws {Q : Exit → Act → World → Prop} {C : World → Prop} {tl : Nat → Bool} {full : List (Nat × Nat)} : ∀ (l : List (Nat × Nat)) (listed : Array Bool) (a : Act) (w : World), l.all (fun p => decide (3 ≤ p.2)) = true → chkD ops full l listed = true →
    (∀ p ∈ l, ops[p.1]?.isSome = true) → (∃ i, tl i = true ∧ listed.getD i false = true) → wpListIn (Wd r) 0 P ops (Qn Q) (l.filterMap fun p => ops[p.1]?) a w → WS P r ops Q C tl l.length listed a w
  | [], listed, a, w, _, hc, _, ⟨i, h1, h2⟩, h => by
    simp only [chkD, beq_iff_eq] at hc
    exact ⟨fun ht => absurd (ht i h1) (by rw [h2]; simp), hc, h⟩
  | (i, k) :: l, listed, a, w, hk, hc, hs, ⟨q, h1, h2⟩, h => by
    simp only [List.all_cons, Bool.and_eq_true, decide_eq_true_eq] at hk
    obtain ⟨m, rfl⟩ : ∃ m, k = m + 3 := ⟨k - 3, by omega⟩
    simp only [chkD, Bool.and_eq_true, beq_iff_eq] at hc
    obtain ⟨⟨hr, _⟩, hc⟩ := hc
    obtain ⟨o, ho⟩ := Option.isSome_iff_exists.1 (hs (i, m + 3) (List.mem_cons_self ..))
    simp only at ho
    refine ⟨fun ht => absurd (ht q h1) (by rw [h2]; simp), fun h0 => (by rw [hr] at h0; cases h0), fun j hj => ?_⟩
    rw [hr] at hj
    obtain rfl : j = i := by simpa using hj
    have h3 : wpListIn (Wd r) 0 P ops (Qn Q) (o :: l.filterMap fun p => ops[p.1]?) a w := by simpa [List.filterMap_cons, ho] using h
    have hnext : ∀ a w, wpListIn (Wd r) 0 P ops (Qn Q) (l.filterMap fun p => ops[p.1]?) a w → WS P r ops Q C tl l.length (listed.setIfInBounds j true) a w := fun a w h =>
      tail_ws l _ a w hk.2 hc (fun p hp => hs p (List.mem_cons_of_mem _ hp)) ⟨q, h1, getD_set_true h2⟩ h
    unfold wpOpIn
    rw [ho]
    unfold wpListIn at h3
    simp only
    split
    · rename_i hw; rw [if_pos hw] at h3; exact Oper.wpIn_mono hnext h3
    · rename_i hw; rw [if_neg hw] at h3; exact ⟨fun _ _ => trivial, hnext _ _ h3.2⟩

theorem ws_of_lda {Q : Exit → Act → World → Prop} {C : World → Prop} {full : List (Nat × Nat)} (hsel : Region.noSelect ops = true) (hnd : noDefer ops = true) :
    ∀ (l : List (Nat × Nat)) (listed : Array Bool) (a : Act) (w : World), (∀ p ∈ l, p ∈ full) → (∀ p q, p ∈ full → q ∈ full → p.1 = q.1 → p = q) → (∀ i, tailOf full i = true → listed.getD i false = false) → (∀ p ∈ l, p.1 < listed.size) → chkD ops full l listed = true → Closed ops listed → C w → LDA P r ops Q C l a → WS P r ops Q C (tailOf full) l.length listed a w
  | [], listed, a, w, _, _, _, _, hc, _, hC, h => by
    simp only [chkD, beq_iff_eq] at hc
    exact ⟨fun _ => hC, hc, h w hC⟩
  | (i, k) :: l, listed, a, w, hsub, huniq, hun, hlt, hc, hcl, hC, h => by
    simp only [LDA] at h
    cases ho : ops[i]? with
    | none => rw [ho] at h; exact h.elim
    | some o =>
      rw [ho] at h
      simp only at h
      have hnd' : ∀ (j : Nat) (o : Oper), ops[j]? = some o → nd o.op = true := fun j o hj => (Array.all_eq_true_iff_forall_mem.1 hnd) o (Array.mem_of_getElem? hj)
      have hti : k < 3 → tailOf full i = false := fun hk => by
        rw [Bool.eq_false_iff]
        intro ht
        obtain ⟨p, hp, hp2⟩ := List.any_eq_true.1 ht
        simp only [Bool.and_eq_true, beq_iff_eq, decide_eq_true_eq] at hp2
        have := huniq p (i, k) hp (hsub _ (List.mem_cons_self ..)) hp2.1
        subst this
        simp only at hp2
        omega
      have hun' : k < 3 → ∀ q, tailOf full q = true → (listed.setIfInBounds i true).getD q false = false := fun hk q hq =>
        unlisted_set (fun e => by subst e; rw [hti hk] at hq; cases hq) (hun q hq)
      have hsub' : ∀ p ∈ l, p ∈ full := fun p hp => hsub p (List.mem_cons_of_mem _ hp)
      have hlt' : ∀ p ∈ l, p.1 < (listed.setIfInBounds i true).size := fun p hp => by rw [Array.size_setIfInBounds]; exact hlt p (List.mem_cons_of_mem _ hp)
      match k, h, hc with
      | 0, ⟨v, hy, hl⟩, hc =>
        simp only [chkD, Bool.and_eq_true] at hc
        obtain ⟨⟨hf, hr⟩, hc⟩ := hc
        exact WS.first ho (hti (by omega)) (Region.noSelect_spec hsel) hnd' (D := fun _ => True) (.inl fun _ => trivial) l.length listed a w hcl hC hun (Region.free_spec ho hf) (by simpa using hr) hy
          (ws_of_lda hsel hnd l _ _ w hsub' huniq (hun' (by omega)) hlt' hc (hcl.set (by simpa using hr)) hC hl)
      | 1, ⟨v, hy, hl⟩, hc =>
        simp only [chkD, Bool.and_eq_true] at hc
        obtain ⟨⟨⟨hf, hr⟩, ht⟩, hc⟩ := hc
        refine WS.first ho (hti (by omega)) (Region.noSelect_spec hsel) hnd' (D := C) (.inr ⟨fun _ h => h, fun j oj hj htj => ?_⟩) l.length listed a w hcl hC hun (Region.free_spec ho hf) (by simpa using hr) hy
          (ws_of_lda hsel hnd l _ _ w hsub' huniq (hun' (by omega)) hlt' hc (hcl.set (by simpa using hr)) hC hl)
        obtain ⟨p, hp, hp2⟩ := List.any_eq_true.1 htj
        simp only [Bool.and_eq_true, beq_iff_eq, decide_eq_true_eq] at hp2
        have h5 := List.all_eq_true.1 ht p hp
        simp only [Bool.or_eq_true, decide_eq_true_eq] at h5
        rcases h5 with (h5 | h5) | h5
        · omega
        · rw [hp2.1] at h5; exact .inr h5
        · obtain ⟨q, hq, hq2⟩ := List.any_eq_true.1 h5
          simp only [Bool.and_eq_true, decide_eq_true_eq] at hq2
          obtain ⟨hq3, h5⟩ := hq2
          simp only [afterOf, hp2.1, hj] at h5
          obtain ⟨ed, he, hb⟩ := Array.any_eq_true'.1 h5
          simp only [Bool.and_eq_true, beq_iff_eq] at hb
          exact .inl ⟨ed, he, hb.1, List.any_eq_true.2 ⟨q, hq, by simp only [Bool.and_eq_true, beq_iff_eq, decide_eq_true_eq]; exact ⟨hb.2.symm, hq3⟩⟩⟩
      | 2, h, hc =>
        simp only [chkD, Bool.and_eq_true, beq_iff_eq] at hc
        obtain ⟨hr, hc⟩ := hc
        refine ⟨fun _ => hC, fun h0 => (by rw [hr] at h0; cases h0), fun j hj => ?_⟩
        rw [hr] at hj
        obtain rfl : j = i := by simpa using hj
        exact wpOpIn_mono (fun a' w' ⟨C', hsubC, hC', hl⟩ => WS.weaken hsubC _ _ _ _ (ws_of_lda hsel hnd l _ a' w' hsub' huniq (hun' (by omega)) hlt' hc (hcl.set (by rw [hr]; simp)) hC' hl)) (h w hC)
      | k + 3, h, hc =>
        have hc0 := hc
        simp only [chkD, Bool.and_eq_true, beq_iff_eq] at hc
        obtain ⟨⟨hr, hall⟩, hc⟩ := hc
        have hkt : tailOf full i = true := List.any_eq_true.2 ⟨(i, k + 3), hsub _ (List.mem_cons_self ..), by simp⟩
        have hs : ∀ p ∈ l, ops[p.1]?.isSome = true := by
          have : ∀ (l : List (Nat × Nat)) (listed : Array Bool), chkD ops full l listed = true → ∀ p ∈ l, ops[p.1]?.isSome = true := by
            intro l
            induction l with
            | nil => intro _ _ p hp; cases hp
            | cons q l ih =>
              intro listed hc p hp
              obtain ⟨i, k⟩ := q
              rcases List.mem_cons.1 hp with rfl | hp
              · have hmem : i ∈ Region.ready .any ops listed := by
                  match k, hc with
                  | 0, hc => simp only [chkD, Bool.and_eq_true] at hc; simpa using hc.1.2
                  | 1, hc => simp only [chkD, Bool.and_eq_true] at hc; simpa using hc.1.1.2
                  | 2, hc => simp only [chkD, Bool.and_eq_true, beq_iff_eq] at hc; rw [hc.1]; simp
                  | k + 3, hc => simp only [chkD, Bool.and_eq_true, beq_iff_eq] at hc; rw [hc.1.1]; simp
                obtain ⟨_, o, ho, _⟩ := mem_ready.1 hmem
                simp [ho]
              · simp only [chkD, Bool.and_eq_true] at hc
                exact ih _ hc.2 p hp
          exact this l _ hc
        refine ⟨fun _ => hC, fun h0 => (by rw [hr] at h0; cases h0), fun j hj => ?_⟩
        rw [hr] at hj
        obtain rfl : j = i := by simpa using hj
        have h3 := h w hC
        have h3 : wpListIn (Wd r) 0 P ops (Qn Q) (o :: l.filterMap fun p => ops[p.1]?) a w := by simpa [List.filterMap_cons, ho] using h3
        have hlj : j < listed.size := hlt (j, k + 3) (List.mem_cons_self ..)
        have hnext : ∀ a w, wpListIn (Wd r) 0 P ops (Qn Q) (l.filterMap fun p => ops[p.1]?) a w → WS P r ops Q C (tailOf full) l.length (listed.setIfInBounds j true) a w := fun a w h =>
          tail_ws l _ a w hall hc hs ⟨j, hkt, by simp [hlj]⟩ h
        unfold wpOpIn
        rw [ho]
        unfold wpListIn at h3
        simp only
        split
        · rename_i hw; rw [if_pos hw] at h3; exact Oper.wpIn_mono hnext h3
        · rename_i hw; rw [if_neg hw] at h3; exact ⟨fun _ _ => trivial, hnext _ _ h3.2⟩
end

/-- All that is asked of the order at once. -/
def chkAll (ops : Array Oper) (ord : List (Nat × Nat)) : Bool :=
  Region.noSelect ops && noDefer ops && (ord.length == ops.size) && decide (ord.map (·.1)).Nodup && ord.all (fun p => decide (p.1 < ops.size)) && chkD ops ord ord (Array.replicate ops.size false)

section
variable {P : Program} {r : Option Nat} {N : Nat} {Q : Exit → Act → World → Prop} {e : Env} {ds : List Nat} {M : Mem0} {S : Nat → Prop} {w0 : World} {G : World → Prop}

def Cls (M : Mem0) (S : Nat → Prop) (w0 : World) (G : World → Prop) (w : World) : Prop := Mem w M ∧ Chg S w0 w ∧ G w

def LD (P : Program) (r : Option Nat) (N : Nat) (ops : Array Oper) (Q : Exit → Act → World → Prop) (ord : List (Nat × Nat)) (e : Env) (ds : List Nat) (M : Mem0) (S : Nat → Prop) (w0 : World) (G : World → Prop) : Prop :=
  ∀ a, Fr N e a → Dm ds a → LDA P r ops Q (Cls M S w0 G) ord a

theorem wpM.draw [GS G] {id : Nat} {ops : Array Oper} (ord : List (Nat × Nat)) (hm : P.follows .mixedOrders = true) (hc : chkAll ops ord = true) (h : LD P r N ops Q ord e ds M S w0 G) : wpM P r N (.region id ops true) Q e ds M S w0 G := fun w hw hcg hg a hf hd => by
  simp only [chkAll, Bool.and_eq_true, beq_iff_eq, decide_eq_true_eq] at hc
  obtain ⟨⟨⟨⟨⟨h1, h2⟩, h3⟩, h4⟩, h5⟩, h6⟩ := hc
  refine wpIn_mono (wpIn_region_any (Q := Qn Q) hm ?_) (fun x a w hq => ?_)
  · rw [← h3]
    refine WS.any _ _ a _ (ws_of_lda (full := ord) h1 h2 ord _ a _ (fun _ h => h) ?_ ?_ ?_ (h3 ▸ h6) (fun q o hq _ => by rw [Array.getD_eq_getD_getElem?, Array.getElem?_replicate] at hq; split at hq <;> cases hq) ⟨?_, ?_, ?_⟩ (h a hf hd))
    · intro p q hp hq hpq
      obtain ⟨i, hi⟩ := List.getElem?_of_mem hp
      obtain ⟨j, hj⟩ := List.getElem?_of_mem hq
      have e1 : (ord.map (·.1))[i]? = some p.1 := by simp [hi]
      have e2 : (ord.map (·.1))[j]? = some p.1 := by simp [hj, hpq]
      have := Mem.set.List.nodup_iff_injective_get? h4 e1 e2
      subst this
      rw [hi] at hj
      exact Option.some.inj hj
    · intro i _
      rw [Array.getD_eq_getD_getElem?, Array.getElem?_replicate]; split <;> rfl
    · intro p hp
      have := List.all_eq_true.1 h5 p hp
      simp only [decide_eq_true_eq] at this
      simp; omega
    · exact hw.ext (Chg.drew no w)
    · exact hcg.trans (Chg.drew S w)
    · exact GS.ext w _ hg (Chg.drew no w)
  · cases x <;> first | exact hq | exact hq.elim

section
variable {ops : Array Oper} {l : List (Nat × Nat)} {op : Op} {ty : TypeId} {pos : String} {after : Array Edge} {d : Nat} {v : Value} {i : Nat}
theorem LD.nil (h : QM N Q .normal e ds M S w0 G) : LD P r N ops Q [] e ds M S w0 G := fun a hf hd w hw => h w hw.1 hw.2.1 hw.2.2 a hf hd
theorem LD.sub {e' : Env} (hs : Sub e e') (h : LD P r N ops Q l e' ds M S w0 G) : LD P r N ops Q l e ds M S w0 G := fun a hf hd => h a (hf.sub hs) hd

/-- Is it carried out? -/
def Wtd (ops : Array Oper) (e : Env) (g : Option (Nat × Bool)) (b : Bool) : Prop :=
  match g with
  | none => b = true
  | some (j, c) => ∃ t u, (ops[j]?).bind (·.dst) = some t ∧ look e t = some (.bool u) ∧ (u == c) = b
theorem Wtd.wanted {o : Oper} {a : Act} {b : Bool} (h : Wtd ops e o.guard b) (hf : Fr N e a) : Region.wanted o (yielded ops a.tmps) = b := by
  cases ho : o.guard with
  | none => rw [ho] at h; simp only [Wtd] at h; simp [Region.wanted, ho, h]
  | some p =>
    obtain ⟨j, c⟩ := p
    rw [ho] at h
    obtain ⟨t, u, h1, h2, h3⟩ := h
    simp only [Region.wanted, ho, yielded, h1, Option.bind_some, hf.2 t _ h2]
    rw [← h3]; cases u <;> cases c <;> rfl
theorem LD.val {g : Option (Nat × Bool)} (hi : ops[i]? = some ⟨some d, op, ty, pos, after, g⟩) (hg : Wtd ops e g true) (hv : OpP P op ty e v) (h : LD P r N ops Q l ((d, v) :: e) ds M S w0 G) (hnd : nd op = true := by rfl) (hd : Nat.blt d N = true := by rfl) :
    LD P r N ops Q ((i, 0) :: l) e ds M S w0 G := fun a hf hdm => by
  simp only [LDA, hi]
  exact ⟨v, .inl ⟨hg.wanted hf, hnd, fun w _ => hv w a.eval (fun x u hx => hf.eval hx) _ _ _ _⟩, h _ (hf.put hd v) hdm⟩
theorem LD.rd {g : Option (Nat × Bool)} (hi : ops[i]? = some ⟨some d, op, ty, pos, after, g⟩) (hg : Wtd ops e g true) (hv : ∀ w, Mem w M → OpV P op ty e w v w) (h : LD P r N ops Q l ((d, v) :: e) ds M S w0 G) (hnd : nd op = true := by rfl) (hd : Nat.blt d N = true := by rfl) :
    LD P r N ops Q ((i, 1) :: l) e ds M S w0 G := fun a hf hdm => by
  simp only [LDA, hi]
  exact ⟨v, .inl ⟨hg.wanted hf, hnd, fun w hw => hv w hw.1 a.eval (fun x u hx => hf.eval hx) _ _ _ _⟩, h _ (hf.put hd v) hdm⟩
theorem LD.rdC {g : Option (Nat × Bool)} (hi : ops[i]? = some ⟨some d, op, ty, pos, after, g⟩) (hg : Wtd ops e g true) (hv : ∀ w, Mem w M → Chg S w0 w → G w → OpV P op ty e w v w) (h : LD P r N ops Q l ((d, v) :: e) ds M S w0 G) (hnd : nd op = true := by rfl) (hd : Nat.blt d N = true := by rfl) :
    LD P r N ops Q ((i, 1) :: l) e ds M S w0 G := fun a hf hdm => by
  simp only [LDA, hi]
  exact ⟨v, .inl ⟨hg.wanted hf, hnd, fun w hw => hv w hw.1 hw.2.1 hw.2.2 a.eval (fun x u hx => hf.eval hx) _ _ _ _⟩, h _ (hf.put hd v) hdm⟩
/-- What isn't carried out. -/
theorem LD.drop {g : Option (Nat × Bool)} {k : Nat} (hk : Nat.blt k 3 = true) (hi : ops[i]? = some ⟨some d, op, ty, pos, after, g⟩) (hg : Wtd ops e g false) (h : LD P r N ops Q l e ds M S w0 G) (hd : Nat.blt d N = true := by rfl) (hfresh : look e d = none := by rfl) :
    LD P r N ops Q ((i, k) :: l) e ds M S w0 G := fun a hf hdm => by
  have hf' : Fr N e (a.put (some d) undef) := ⟨by simp [Act.put]; exact hf.1, fun t u hu => by
    have h1 := (hf.put hd undef).2 t u
    rw [look_cons] at h1
    by_cases hdt : d = t
    · subst hdt; rw [hfresh] at hu; cases hu
    · rw [if_neg hdt] at h1; exact h1 hu⟩
  have hl := h _ hf' hdm
  have hw := hg.wanted (o := ⟨some d, op, ty, pos, after, g⟩) hf
  match k, hk with
  | 0, _ => simp only [LDA, hi]; exact ⟨undef, .inr ⟨hw, rfl⟩, hl⟩
  | 1, _ => simp only [LDA, hi]; exact ⟨undef, .inr ⟨hw, rfl⟩, hl⟩
  | 2, _ =>
    simp only [LDA, hi]
    intro w hC
    unfold wpOpIn
    rw [hi]
    simp only
    rw [if_neg (by rw [hw]; simp)]
    exact ⟨fun _ _ => trivial, Cls M S w0 G, fun _ h => h, hC, hl⟩
theorem LD.splitD {t : Nat} {p : Prop} [Decidable p] (ht : look e t = some (.bool (decide p))) (h1 : p → LD P r N ops Q l ((t, .bool true) :: e) ds M S w0 G) (h2 : ¬ p → LD P r N ops Q l ((t, .bool false) :: e) ds M S w0 G) :
    LD P r N ops Q l e ds M S w0 G := fun a hf hdm => by
  have key : ∀ c : Bool, decide p = c → Fr N ((t, .bool c) :: e) a := fun c hc => ⟨hf.1, fun k u hu => by
    rw [look_cons] at hu
    by_cases hk : t = k
    · subst hk; rw [if_pos rfl] at hu; rw [← hu, ← hc]; exact hf.2 _ _ ht
    · rw [if_neg hk] at hu; exact hf.2 k u hu⟩
  by_cases hp : p
  · exact h1 hp a (key _ (decide_eq_true hp)) hdm
  · exact h2 hp a (key _ (decide_eq_false hp)) hdm
theorem LD.splitB {t : Nat} {b : Bool} (ht : look e t = some (.bool b)) (h1 : b = true → LD P r N ops Q l ((t, .bool true) :: e) ds M S w0 G) (h2 : b = false → LD P r N ops Q l ((t, .bool false) :: e) ds M S w0 G) :
    LD P r N ops Q l e ds M S w0 G := fun a hf hdm => by
  have key : ∀ c : Bool, b = c → Fr N ((t, .bool c) :: e) a := fun c hc => ⟨hf.1, fun k u hu => by
    rw [look_cons] at hu
    by_cases hk : t = k
    · subst hk; rw [if_pos rfl] at hu; rw [← hu, ← hc]; exact hf.2 _ _ ht
    · rw [if_neg hk] at hu; exact hf.2 k u hu⟩
  cases b with
  | true => exact h1 rfl a (key _ rfl) hdm
  | false => exact h2 rfl a (key _ rfl) hdm
/-- A call that keeps what is known of the memory. -/
theorem LD.callG {g : Option (Nat × Bool)} {f : FuncId} {args : Array Value} {R : World → Value → World → Prop} (hi : ops[i]? = some ⟨some d, op, ty, pos, after, g⟩) (hg : Wtd ops e g true) (hc : ∀ w, OpC P op ty e w f args)
    (h : ∀ w, Mem w M → Chg S w0 w → G w → Ret P f args w (R w))
    (hk : ∀ w v w', Mem w M → Chg S w0 w → G w → R w v w' → ∃ M', (∀ w, Mem w M' → Mem w M) ∧ (Mem w' M' ∧ Chg S w0 w' ∧ G w') ∧ LD P r N ops Q l ((d, v) :: e) ds M' S w0 G) (hnd : nd op = true := by rfl) (hd : Nat.blt d N = true := by rfl) :
    LD P r N ops Q ((i, 2) :: l) e ds M S w0 G := fun a hf hdm => by
  simp only [LDA, hi]
  intro w hC
  unfold wpOpIn
  rw [hi]
  simp only
  rw [if_pos (hg.wanted (o := ⟨some d, op, ty, pos, after, g⟩) hf)]
  refine ⟨fun _ _ => trivial, ?_⟩
  rw [semAt_nd hnd, hc w a.eval (fun x u hx => hf.eval hx) _ _ _ _]
  refine ⟨fun h => (by cases h), ?_⟩
  have h2 : CallsIn Fence.wide 0 P f args w (fun en w' => ∃ v, en = .returned v ∧ R w v w') := callsIn_wide.2 (h w hC.1 hC.2.1 hC.2.2)
  have h3 : CallsIn (Wd r) 0 P f args w (fun en w' => ∃ v, en = .returned v ∧ R w v w') := h2
  refine CallsIn.mono h3 ?_
  rintro en w' ⟨v, rfl, hR⟩
  obtain ⟨M', hsub, hC', hl⟩ := hk w v w' hC.1 hC.2.1 hC.2.2 hR
  exact ⟨Cls M' S w0 G, fun w h => ⟨hsub w h.1, h.2⟩, hC', hl _ (hf.put hd v) hdm⟩
theorem LD.call {g : Option (Nat × Bool)} {f : FuncId} {args : Array Value} {R : World → Value → World → Prop} (hi : ops[i]? = some ⟨some d, op, ty, pos, after, g⟩) (hg : Wtd ops e g true) (hc : ∀ w, OpC P op ty e w f args)
    (h : ∀ w, Mem w M → Chg S w0 w → G w → Ret P f args w (R w))
    (hk : ∀ w v w', Mem w M → Chg S w0 w → G w → R w v w' → (Mem w' M ∧ Chg S w0 w' ∧ G w') ∧ LD P r N ops Q l ((d, v) :: e) ds M S w0 G) (hnd : nd op = true := by rfl) (hd : Nat.blt d N = true := by rfl) :
    LD P r N ops Q ((i, 2) :: l) e ds M S w0 G :=
  .callG hi hg hc h (fun w v w' hm hcg hG hR => ⟨M, fun _ h => h, hk w v w' hm hcg hG hR⟩) hnd hd
theorem LD.callE [GS G] {g : Option (Nat × Bool)} {f : FuncId} {args : Array Value} {v : Value} (hi : ops[i]? = some ⟨some d, op, ty, pos, after, g⟩) (hg : Wtd ops e g true) (hc : ∀ w, OpC P op ty e w f args) (h : ∀ w, Mem w M → Chg S w0 w → G w → Ret P f args w (fun u w' => u = v ∧ Ext w w'))
    (hk : LD P r N ops Q l ((d, v) :: e) ds M S w0 G) (hnd : nd op = true := by rfl) (hd : Nat.blt d N = true := by rfl) :
    LD P r N ops Q ((i, 2) :: l) e ds M S w0 G :=
  .call hi hg hc (fun w hm hcg hG => h w hm hcg hG) (fun w _ w' hm hcg hG ⟨hu, he⟩ => by rw [hu]; exact ⟨⟨hm.ext he, hcg.step he (fun _ _ q => q.elim), GS.ext w w' hG he⟩, hk⟩) hnd hd
/-- The tail: what stands alone, in its order. -/
theorem LD.tail {k : Nat} {lo : List Oper} (ho : (ops[i]?).isSome = true) (hl : ((i, k + 3) :: l).filterMap (fun p => ops[p.1]?) = lo) (h : LM P r N ops (Qn Q) lo e ds M S w0 G) : LD P r N ops Q ((i, k + 3) :: l) e ds M S w0 G := fun a hf hdm => by
  obtain ⟨o, ho⟩ := Option.isSome_iff_exists.1 ho
  simp only [LDA, ho]
  intro w hC
  rw [hl]
  exact h w hC.1 hC.2.1 hC.2.2 a hf hdm
theorem QM.qn (h : QM N Q .normal e ds M S w0 G) : QM N (Qn Q) .normal e ds M S w0 G := h
end
end

theorem info_of {P : Program} {t : TypeId} {i : TypeInfo} (h : ∀ w, (typeInfo t).run P w = .ok i w) : P.info? t = some i := by
  have h1 := h default
  simp only [typeInfo, Sem.run_bind, run_program, Result.andThen] at h1
  cases hi : P.info? t with
  | none => rw [hi] at h1; cases h1
  | some j => rw [hi] at h1; simp at h1; rw [h1]

theorem add_off (b off n : Nat) : (⟨b, off, none⟩ : Addr).add n = ⟨b, off + n, none⟩ := by
  unfold Addr.add
  split
  · subst_vars; rfl
  · rfl

/-- One cell holds it. -/
def one (v : Value) : Bool := v.oneCell'

section
variable {P : Program} {ty : TypeId} {e : Env} {M : Mem0} {x y : Operand} {t : TypeId}

theorem run_load_cell {w : World} {b off : Nat} {cs : Array Value} {E : TypeId} {fz : Nat × Nat} {v : Value} (h : w.heap[b]? = some (.cells cs E fz)) (hc : cs[off]? = some v) :
    (load ⟨b, off, none⟩).run P w = .ok v w := by
  simp [load, Sem.run, World.cell?, h, hc]

/-! loads -/
theorem om_load (i : Nat) {b off : Nat} {cs : Array Value} {E : TypeId} {fz : Nat × Nat} {v : Value} (hT : ∀ w, (isAgg t).run P w = .ok false w) (ha : ev e x = some (.pointer (some ⟨b, off, none⟩)))
    (hM : M[i]? = some (b, .cells cs E fz)) (hc : cs[off]? = some v) : ∀ w, Mem w M → OpV P (.load t x) ty e w v w := fun w hm ρ hρ _ _ _ _ => by
  have h := run_load_cell (P := P) (hm.get hM) hc
  simp [execOp, Instr.loadAt, Instr.sureAddr, hρ x _ ha, loadVar, hT, h, Result.andThen]

theorem run_loadCellsFrom {w : World} {b off : Nat} : ∀ (vs : List Value) (k : Nat) (acc : Array Value), (∀ j v, vs[j]? = some v → w.cell? ⟨b, off + (k + j), none⟩ = some v) →
    (loadCellsFrom ⟨b, off, none⟩ k vs.length acc).run P w = .ok (acc ++ vs.toArray) w
  | [], k, acc, _ => by simp [loadCellsFrom]
  | v :: vs, k, acc, h => by
    have h0 : w.cell? ((⟨b, off, none⟩ : Addr).add k) = some v := by rw [add_off]; exact h 0 v rfl
    have ih := run_loadCellsFrom vs (k + 1) (acc.push v) (fun j u hj => by have := h (j + 1) u (by simpa using hj); rwa [show off + (k + 1 + j) = off + (k + (j + 1)) by omega])
    simp only [List.length_cons, loadCellsFrom, Sem.run_bind]
    simp only [load, Sem.run, h0, Result.andThen]
    rw [ih]; simp

theorem run_loadVar_agg {w : World} {b off n : Nat} {cs : Array Value} {E : TypeId} {fz : Nat × Nat} {vs : List Value} (hT : ∀ w, (isAgg t).run P w = .ok true w) (hS : ∀ w, (sizeOf t).run P w = .ok n w)
    (h : w.heap[b]? = some (.cells cs E fz)) (hn : vs.length = n) (hv : ∀ j v, vs[j]? = some v → cs[off + j]? = some v) : (loadVar t ⟨b, off, none⟩).run P w = .ok (.agg vs.toArray) w := by
  subst hn
  have := run_loadCellsFrom (P := P) (w := w) (b := b) (off := off) vs 0 #[] (fun j v hj => by simp [World.cell?, h, hv j v hj])
  simp [loadVar, hT, hS, loadCells, this, Result.andThen]
theorem run_loadVar_one {w : World} {b off : Nat} {cs : Array Value} {E : TypeId} {fz : Nat × Nat} {v : Value} (hT : ∀ w, (isAgg t).run P w = .ok false w)
    (h : w.heap[b]? = some (.cells cs E fz)) (hc : cs[off]? = some v) : (loadVar t ⟨b, off, none⟩).run P w = .ok v w := by
  have h := run_load_cell (P := P) h hc
  simp [loadVar, hT, h, Result.andThen]

/-- The cells from a place on are these. -/
def Cs (cs : Array Value) (off : Nat) : List Value → Prop
  | [] => True
  | v :: vs => cs[off]? = some v ∧ Cs cs (off + 1) vs
theorem Cs.get {cs : Array Value} : ∀ {vs : List Value} {off : Nat}, Cs cs off vs → ∀ j v, vs[j]? = some v → cs[off + j]? = some v
  | [], _, _, j, v, h => by simp at h
  | u :: vs, off, hc, 0, v, h => by simp at h; subst h; exact hc.1
  | u :: vs, off, hc, j + 1, v, h => by have := Cs.get hc.2 j v (by simpa using h); rwa [show off + (j + 1) = off + 1 + j by omega]

theorem om_loadA (i : Nat) {b off n : Nat} {cs : Array Value} {E : TypeId} {fz : Nat × Nat} {vs : List Value} (hT : ∀ w, (isAgg t).run P w = .ok true w) (hS : ∀ w, (sizeOf t).run P w = .ok n w) (ha : ev e x = some (.pointer (some ⟨b, off, none⟩)))
    (hM : M[i]? = some (b, .cells cs E fz)) (hn : vs.length = n) (hc : Cs cs off vs) : ∀ w, Mem w M → OpV P (.load t x) ty e w (.agg vs.toArray) w := fun w hm ρ hρ _ _ _ _ => by
  have h := run_loadVar_agg (P := P) (off := off) hT hS (hm.get hM) hn hc.get
  simp [execOp, Instr.loadAt, Instr.sureAddr, hρ x _ ha, h, Result.andThen]

/-! addresses -/
theorem ov_field {f b off : Nat} {fs : Array Field} {fl : Field} {k n : Nat} (hU : P.underlying t = some (.struct fs)) (hf : fs[f]? = some fl) (hS : ∀ w, (sizeOf fl.type).run P w = .ok n w) (hn : Nat.beq n 0 = false) (hk : fl.offset = k)
    (ha : ev e x = some (.pointer (some ⟨b, off, none⟩))) : OpP P (.fieldAddr t x f) ty e (.pointer (some ⟨b, off + k, none⟩)) := fun w ρ hρ _ _ _ _ => by
  have h0 : n ≠ 0 := by intro h; subst h; simp at hn
  subst hk
  simp [execOp, Instr.fieldAt, run_underlying hU, hf, Instr.sureAddr, hρ x _ ha, fieldPlace, hS, h0, add_off, Result.andThen]
theorem ov_idx {k : IntKind} {a : Int} {b off n c s : Nat} {E : TypeId} (hU : P.underlying t = some (.slice E)) (hS : ∀ w, (sizeOf E).run P w = .ok s w) (ha : ev e x = some (.slice (some ⟨b, off, none⟩) n c)) (hi : ev e y = some (.int k a)) (h : 0 ≤ a ∧ a < n) :
    OpP P (.indexAddr t x y) ty e (.pointer (some ⟨b, off + a.toNat * s, none⟩)) := fun w ρ hρ _ _ _ _ => by
  simp [execOp, Instr.indexAt, asIntOf, run_underlying hU, hρ x _ ha, hρ y _ hi, hS, add_off, h.1, h.2, Result.andThen]
/-- s[:hi] -/
theorem ov_subHi {hi : Operand} {k' : IntKind} {h : Int} {ad : Option Addr} {n c s : Nat} {E : TypeId} (hU : P.underlying t = some (.slice E)) (hS : ∀ w, (sizeOf E).run P w = .ok s w) (ha : ev e x = some (.slice ad n c)) (hh : ev e hi = some (.int k' h))
    (h1 : 0 ≤ h) (h3 : h ≤ c) : OpP P (.slice t x none (some hi) none) ty e (.slice ad h.toNat c) := fun w ρ hρ _ _ _ _ => by
  have hz : ∀ b : Addr, b.add 0 = b := fun b => by simp [Addr.add]
  have : (if c = 0 then ad else ad.map (fun a => a.add (0 * s))) = ad := by cases ad <;> simp [hz]
  simp [execOp, Instr.sliceAt, Instr.slice, Instr.sliceBounds, Instr.sliceBound, asIntOf, run_underlying hU, hρ x _ ha, hρ hi _ hh, h1, h3, hS, Result.andThen]
  cases ad <;> simp [hz]
end

/-! stores, new memory -/
theorem chg_setCell (w : World) (b off : Nat) (v : Value) : Chg (fun x => x = b) w (w.setCell ⟨b, off, none⟩ v) :=
  ⟨rfl, rfl, rfl, by simp [World.setCell], fun x _ hn => Below.heap_setCell w ⟨b, off, none⟩ v x hn⟩
theorem heap_setCell_same {w : World} {b off : Nat} {cs : Array Value} {E : TypeId} {fz : Nat × Nat} (h : w.heap[b]? = some (.cells cs E fz)) (v : Value) : (w.setCell ⟨b, off, none⟩ v).heap[b]? = some (.cells (cs.setIfInBounds off v) E fz) := by
  obtain ⟨hlt, hk⟩ := Array.getElem?_eq_some_iff.1 h
  show (w.heap.modify b _)[b]? = _
  rw [Array.getElem?_eq_getElem (by rw [Array.size_modify]; exact hlt), Array.getElem_modify_self, hk]
  rfl
theorem chg_alloc (w : World) (o : Obj) : Ext w (w.alloc o) := Ext.of_below ((Below.refl _ _).alloc (Nat.le_refl _) o)

/-- The cells from a place on become these. -/
def setR (cs : Array Value) : Nat → List Value → Array Value
  | _, [] => cs
  | off, v :: vs => setR (cs.setIfInBounds off v) (off + 1) vs

theorem run_storeCells_setR {P : Program} {b : Nat} {E : TypeId} : ∀ (vs : List Value) (w : World) (cs : Array Value) (off k : Nat), w.heap[b]? = some (.cells cs E (0, 0)) → off + k + vs.length ≤ cs.size → (∀ v ∈ vs, one v = true) →
    ∃ w', (storeCells ⟨b, off, none⟩ vs k).run P w = .ok () w' ∧ w'.heap[b]? = some (.cells (setR cs (off + k) vs) E (0, 0)) ∧ Chg (fun x => x = b) w w'
  | [], w, cs, off, k, h, _, _ => ⟨w, by simp [storeCells], h, .refl _ _⟩
  | v :: vs, w, cs, off, k, h, hl, hv => by
    simp only [List.length_cons] at hl
    have hlt : off + k < cs.size := by omega
    have hc : w.cell? ⟨b, off + k, none⟩ = some cs[off + k] := by simp [World.cell?, h, hlt]
    have hf : w.frozen? ⟨b, off + k, none⟩ = false := by simp [World.frozen?, h]
    obtain ⟨w', h1, h2, h3⟩ := run_storeCells_setR (P := P) vs (w.setCell ⟨b, off + k, none⟩ v) (cs.setIfInBounds (off + k) v) off (k + 1) (heap_setCell_same h v) (by simp; omega) (fun u hu => hv u (List.mem_cons_of_mem _ hu))
    refine ⟨w', ?_, ?_, (chg_setCell w b (off + k) v).trans h3⟩
    · have hone := hv v (List.mem_cons_self ..)
      have hst : (store ⟨b, off + k, none⟩ v).run P w = .ok () (w.setCell ⟨b, off + k, none⟩ v) := by
        unfold store
        cases v <;> first | (simp [one, Value.oneCell'] at hone; done) | simp [Sem.run, hc, hf]
      simp only [storeCells, Sem.run_bind, add_off, hst, Result.andThen, h1]
    · show w'.heap[b]? = some (.cells (setR (cs.setIfInBounds (off + k) v) (off + k + 1) vs) E)
      rw [show off + k + 1 = off + (k + 1) by omega]; exact h2

section
variable {P : Program} {r : Option Nat} {N : Nat} {Q : Exit → Act → World → Prop} {e : Env} {ds : List Nat} {M : Mem0} {S : Nat → Prop} {w0 : World} {G : World → Prop}
variable {ops : Array Oper} {l : List Oper} {ty : TypeId} {pos : String} {after : Array Edge} {d : Nat} {x y : Operand} {t : TypeId}

theorem LM.store [GT G] (i : Nat) {b off n : Nat} {cs : Array Value} {E : TypeId} {v : Value} (hS : ∀ w, (sizeOf t).run P w = .ok n w) (ha : ev e x = some (.pointer (some ⟨b, off, none⟩))) (hv : ev e y = some v)
    (hM : M[i]? = some (b, .cells cs E (0, 0))) (hn : v.cells.size = n) (hl : off + n ≤ cs.size) (h1 : v.cells.toList.all one = true) (hb : b < w0.heap.size → S b)
    (h : LM P r N ops Q l e ds (M.set i (b, .cells (setR cs off v.cells.toList) E (0, 0))) S w0 G) : LM P r N ops Q (⟨none, .store t x y, ty, pos, after, none⟩ :: l) e ds M S w0 G := fun w hm hc hg a hf hd => by
  obtain ⟨w', h2, h3, h4⟩ := run_storeCells_setR (P := P) v.cells.toList w cs off 0 (hm.get hM) (by simp; omega) (fun u hu => List.all_eq_true.1 h1 u hu)
  refine LE.skp (w' := w') (fun ρ hρ _ _ _ _ => ?_) (h w' (hm.set hM h3 h4) (hc.step h4 (fun k hk hkb => by subst hkb; exact hb hk)) (GT.chg _ w w' hg h4 (.one h4 (hm.get hM) rfl))) rfl a hf hd
  simp [execOp, Instr.storeAt, Instr.sureAddr, hρ x _ ha, hρ y _ hv, storeVar, hS, hn, h2, Result.andThen]

theorem Mem.alloc {w : World} {M : Mem0} (h : Mem w M) (o : Obj) : Mem (w.alloc o) ((w.heap.size, o) :: M) :=
  (h.ext (chg_alloc w o)).cons (World.alloc_heap_new w o) (fun p hp hq => by have := h.lt hp; omega)

/-- A new variable. -/
theorem LM.alloc [GS G] {E : TypeId} {z : Value} (hZ : ∀ w, (zeroValue E).run P w = .ok z w) (hd : Nat.blt d N = true)
    (h : ∀ b, w0.heap.size ≤ b → LM P r N ops Q l ((d, .pointer (some ⟨b, 0, none⟩)) :: e) ds ((b, .cells z.cells E (0, 0)) :: M) S w0 G) : LM P r N ops Q (⟨some d, .alloc E, ty, pos, after, none⟩ :: l) e ds M S w0 G := fun w hm hc hg =>
  LE.val (w' := w.alloc (.cells z.cells E)) (fun ρ hρ _ _ _ _ => by simp [execOp, Instr.alloc, hZ, newVar, newRow, Result.andThen]) (h w.heap.size hc.size _ (hm.alloc _) (hc.step (chg_alloc w _) (fun _ _ q => q.elim)) (GS.ext w _ hg (chg_alloc w _))) rfl hd
theorem LM.box [GS G] {E : TypeId} {v : Value} (hv : ev e x = some v) (hd : Nat.blt d N = true)
    (h : ∀ b, w0.heap.size ≤ b → LM P r N ops Q l ((d, .pointer (some ⟨b, 0, none⟩)) :: e) ds ((b, .cells v.cells E (0, 0)) :: M) S w0 G) : LM P r N ops Q (⟨some d, .box E x, ty, pos, after, none⟩ :: l) e ds M S w0 G := fun w hm hc hg =>
  LE.val (w' := w.alloc (.cells v.cells E)) (fun ρ hρ _ _ _ _ => by simp [execOp, Instr.box, hρ x _ hv, newVar, newRow, Result.andThen]) (h w.heap.size hc.size _ (hm.alloc _) (hc.step (chg_alloc w _) (fun _ _ q => q.elim)) (GS.ext w _ hg (chg_alloc w _))) rfl hd

/-! slices: what they hold is a list of things, each of s cells; the cells behind are whatever -/
def arr {α : Type} (f : α → List Value) (xs : List α) (junk : List Value) : Array Value := (xs.flatMap f ++ junk).toArray

theorem flatMap_len {α : Type} {f : α → List Value} {s : Nat} (hf : ∀ a, (f a).length = s) (xs : List α) : (xs.flatMap f).length = xs.length * s := by
  induction xs with
  | nil => simp
  | cons a xs ih => simp [List.flatMap_cons, hf, ih, Nat.succ_mul, Nat.add_comm]

theorem flatMap_get {α : Type} {f : α → List Value} {s : Nat} (hf : ∀ a, (f a).length = s) : ∀ (xs : List α) (i j : Nat) (a : α), xs[i]? = some a → j < s → (xs.flatMap f)[i * s + j]? = (f a)[j]?
  | [], i, j, a, h, _ => by simp at h
  | b :: xs, 0, j, a, h, hj => by
    simp at h; subst h
    rw [List.flatMap_cons, Nat.zero_mul, Nat.zero_add, List.getElem?_append_left (by rw [hf]; exact hj)]
  | b :: xs, i + 1, j, a, h, hj => by
    rw [List.flatMap_cons, List.getElem?_append_right (by rw [hf, Nat.succ_mul]; omega), hf]
    rw [show (i + 1) * s + j - s = i * s + j by rw [Nat.succ_mul]; omega]
    exact flatMap_get hf xs i j a (by simpa using h) hj

theorem arr_get {α : Type} {f : α → List Value} {s : Nat} (hf : ∀ a, (f a).length = s) {xs : List α} {junk : List Value} {i j : Nat} {a : α} (h : xs[i]? = some a) (hj : j < s) : (arr f xs junk)[i * s + j]? = (f a)[j]? := by
  have hlt : i < xs.length := (List.getElem?_eq_some_iff.1 h).1
  simp only [arr, List.getElem?_toArray]
  rw [List.getElem?_append_left, flatMap_get hf xs i j a h hj]
  rw [flatMap_len hf]
  calc i * s + j < i * s + s := by omega
    _ = (i + 1) * s := by rw [Nat.succ_mul]
    _ ≤ xs.length * s := Nat.mul_le_mul_right _ hlt

/-- A slice of the call's own (or nil), and the block that holds it. -/
def Sl {α : Type} (f : α → List Value) (E s n0 : Nat) (xs : List α) (v : Value) (m : Mem0) : Prop :=
  (v = .slice none 0 0 ∧ m = [] ∧ xs = []) ∨
  ∃ b cap junk, n0 ≤ b ∧ v = .slice (some ⟨b, 0, none⟩) xs.length cap ∧ m = [(b, .cells (arr f xs junk) E (0, 0))] ∧ xs.length ≤ cap ∧ cap ≤ maxLen ∧ xs.length * s + junk.length = cap * s

theorem Sl.nil {α : Type} (f : α → List Value) (E s n0 : Nat) : Sl f E s n0 [] (.slice none 0 0) [] := .inl ⟨rfl, rfl, rfl⟩
theorem Sl.ne {α : Type} {f : α → List Value} {E s n0 : Nat} {xs : List α} {v : Value} {m : Mem0} (h : Sl f E s n0 xs v m) (hx : 0 < xs.length) :
    ∃ b cap junk, n0 ≤ b ∧ v = .slice (some ⟨b, 0, none⟩) xs.length cap ∧ m = [(b, .cells (arr f xs junk) E (0, 0))] ∧ xs.length ≤ cap ∧ cap ≤ maxLen ∧ xs.length * s + junk.length = cap * s := by
  rcases h with ⟨_, _, rfl⟩ | h
  · simp at hx
  · exact h
theorem Sl.form {α : Type} {f : α → List Value} {E s n0 : Nat} {xs : List α} {v : Value} {m : Mem0} (h : Sl f E s n0 xs v m) : ∃ ad cap, v = .slice ad xs.length cap := by
  rcases h with ⟨rfl, _, rfl⟩ | ⟨b, cap, _, _, rfl, _⟩
  · exact ⟨none, 0, rfl⟩
  · exact ⟨_, cap, rfl⟩
theorem Sl.mono {α : Type} {f : α → List Value} {E s n0 n1 : Nat} {xs : List α} {v : Value} {m : Mem0} (h : Sl f E s n0 xs v m) (hn : n1 ≤ n0) : Sl f E s n1 xs v m := by
  rcases h with h | ⟨b, cap, junk, hb, h⟩
  · exact .inl h
  · exact .inr ⟨b, cap, junk, by omega, h⟩
theorem Sl.ge {α : Type} {f : α → List Value} {E s n0 : Nat} {xs : List α} {v : Value} {m : Mem0} (h : Sl f E s n0 xs v m) : ∀ p ∈ m, n0 ≤ p.1 := by
  rcases h with ⟨_, rfl, _⟩ | ⟨b, cap, junk, hb, _, rfl, _⟩
  · intro p hp; cases hp
  · intro p hp; simp at hp; subst hp; exact hb

/-- 'out = append(out, a)': the slice is the call's own, or nil; the one that is added lies in a block of its own, at the head. -/
theorem LM.appendU [GT G] {α : Type} {f : α → List Value} {E s n0 : Nat} {inf : TypeInfo} {z : Value} {xs : List α} {v : Value} {m M2 : Mem0} {bx c : Nat} {a : α} {o : Obj}
    (hU : P.underlying t = some (.slice E)) (hI : ∀ w, (typeInfo E).run P w = .ok inf w) (hz : inf.zero = some z) (hs : inf.size = s) (hs0 : Nat.blt 0 s = true) (hzs : z.cells.size = s) (hd : Nat.blt d N = true)
    (hx : ev e x = some v) (hy : ev e y = some (.slice (some ⟨bx, 0, none⟩) 1 c)) (hn0 : n0 ≤ w0.heap.size) (hSm : ∀ p ∈ m, p.1 < w0.heap.size → S p.1) (hsl : Sl f E s n0 xs v m) (ho : ∃ F fz, o = .cells (f a).toArray F fz)
    (hf : ∀ a, (f a).length = s) (h1 : ∀ a, ∀ u ∈ f a, one u = true) (hlen : xs.length + 1 ≤ maxLen) (hbytes : (xs.length + 1) * inf.bytes ≤ 140737488355328)
    (h : ∀ v' m', Sl f E s n0 (xs ++ [a]) v' m' → (∀ p ∈ m', w0.heap.size ≤ p.1 ∨ ∃ q ∈ m, q.1 = p.1) → LM P r N ops Q l ((d, v') :: e) ds (m' ++ M2) S w0 G) :
    LM P r N ops Q (⟨some d, .call { callee := .builtin .append, args := #[x, y], argTypes := #[t, t] }, ty, pos, after, none⟩ :: l) e ds ((bx, o) :: (m ++ M2)) S w0 G := fun w hm hc hg => by
  obtain ⟨F, fz, rfl⟩ := ho
  have hs0 : 0 < s := Nat.le_of_ble_eq_true hs0
  have hinf := info_of hI
  have hbx := hm.get (i := 0) rfl
  have hnews : ∀ j u, (f a)[j]? = some u → w.cell? ((⟨bx, 0, none⟩ : Addr).add j) = some u := fun j u hj => by
    rw [add_off]; simp [World.cell?, hbx, hj]
  have hm2 : Mem w (m ++ M2) := hm.tail
  have step : ∀ (v' : Value) (w' : World), (Builtin.append_ #[t, t] ty #[v, .slice (some ⟨bx, 0, none⟩) 1 c]).run P w = .ok v' w' → 
      (LE P r N ops Q l ((d, v') :: e) ds w') → LE P r N ops Q (⟨some d, .call { callee := .builtin .append, args := #[x, y], argTypes := #[t, t] }, ty, pos, after, none⟩ :: l) e ds w := fun v' w' hr hl =>
    LE.val (fun ρ hρ _ _ _ _ => by simp [execOp, resolve, invoke, builtin, hρ x _ hx, hρ y _ hy, hr, Result.andThen]) hl rfl hd
  rcases hsl with ⟨rfl, rfl, rfl⟩ | ⟨b, cap, junk, hb, rfl, rfl, hle, hmax, hsz⟩
  · -- nil
    have hr := run_append_nil (P := P) w t ty E inf z hU hinf hz ⟨bx, 0, none⟩ 1 c (f a) (by rw [hf, hs, Nat.one_mul]) hnews (by omega) (by omega) (by simp at hbytes; omega)
    refine step _ _ hr ?_
    obtain ⟨k, hk, hk1⟩ : ∃ k, grownCap w 1 0 E = k ∧ 1 ≤ k ∧ k ≤ maxLen := ⟨_, rfl, grownCap_ge w 1 0 E, grownCap_le_maxLen w 1 0 E (by unfold maxLen; omega)⟩
    rw [hk]
    refine h _ [(w.heap.size, .cells (arr f ([] ++ [a]) (Builtin.zeroCells z.cells (k - 1)).toList) E (0, 0))] (.inr ⟨w.heap.size, k, (Builtin.zeroCells z.cells (k - 1)).toList, Nat.le_trans hn0 hc.size, rfl, rfl, by simpa using hk1.1, hk1.2, ?_⟩) (fun p hp => by rw [List.mem_singleton] at hp; subst hp; exact .inl hc.size) _ ?_ ?_ ?_
    · simp [size_zeroCells, hzs]
      rw [Nat.sub_mul]; have : s ≤ k * s := by calc s = 1 * s := by omega
                                                  _ ≤ k * s := Nat.mul_le_mul_right _ hk1.1
      omega
    · have e1 : (Obj.cells ((f a).toArray ++ Builtin.zeroCells z.cells (k - 1)) E) = .cells (arr f ([] ++ [a]) (Builtin.zeroCells z.cells (k - 1)).toList) E (0, 0) := by
        congr 1; apply Array.ext'; simp [arr]
      rw [e1]
      exact (hm2.ext (Chg.drew no w)).alloc _
    · exact (hc.step (Chg.drew no w) (fun _ _ q => q.elim)).step (chg_alloc w.drew _) (fun _ _ q => q.elim)
    · exact GS.ext w.drew _ (GS.ext w _ hg (Chg.drew no w)) (chg_alloc w.drew _)
  · have hbw := hm2.get (i := 0) rfl
    have hsize : (arr f xs junk).size = cap * s := by simp [arr, flatMap_len hf, hsz]
    by_cases hroom : xs.length + 1 ≤ cap
    · -- there is room
      have hmul : (xs.length + 1) * s ≤ cap * s := Nat.mul_le_mul_right _ hroom
      rw [Nat.succ_mul] at hmul
      have hr := run_append_room (P := P) w t ty E inf hU hinf b xs.length cap (arr f xs junk) hbw ⟨bx, 0, none⟩ 1 c (f a) (by rw [hf, hs, Nat.one_mul]) hnews (fun u hu => h1 a u hu) hroom (by rw [hs, hf, hsize]; exact hmul)
      refine step _ _ hr ?_
      rw [hs, hf]
      have e1 : (((arr f xs junk).toList.take (xs.length * s) ++ f a ++ (arr f xs junk).toList.drop (xs.length * s + s)).toArray) = arr f (xs ++ [a]) (junk.drop s) := by
        apply Array.ext'
        have hl := flatMap_len hf xs
        simp only [arr, List.flatMap_append, List.flatMap_cons, List.flatMap_nil, List.append_nil]
        rw [← hl, List.take_left, List.drop_append, List.drop_eq_nil_of_le (by omega), List.nil_append, Nat.add_sub_cancel_left]
      rw [e1]
      have hset : (w.setRow b (arr f (xs ++ [a]) (junk.drop s))).heap[b]? = some (.cells (arr f (xs ++ [a]) (junk.drop s)) E (0, 0)) := by
        obtain ⟨hlt, hk⟩ := Array.getElem?_eq_some_iff.1 hbw
        show (w.heap.modify b _)[b]? = _
        rw [Array.getElem?_eq_getElem (by rw [Array.size_modify]; exact hlt), Array.getElem_modify_self, hk]
      have hchg : Chg (fun x => x = b) w (w.setRow b (arr f (xs ++ [a]) (junk.drop s))) := ⟨rfl, rfl, rfl, by simp [World.setRow], fun k _ hn => by
        simp only [World.setRow, Array.getElem?_modify]; rw [if_neg (Ne.symm hn)]⟩
      refine h _ [(b, .cells (arr f (xs ++ [a]) (junk.drop s)) E (0, 0))] (.inr ⟨b, cap, junk.drop s, hb, by simp, rfl, by simpa using hroom, hmax, ?_⟩) (fun p hp => by rw [List.mem_singleton] at hp; subst hp; exact .inr ⟨_, List.mem_singleton.2 rfl, rfl⟩) _ ?_ ?_ ?_
      · simp only [List.length_append, List.length_cons, List.length_nil, Nat.zero_add, List.length_drop, Nat.succ_mul]; omega
      · exact hm2.set (i := 0) rfl hset hchg
      · exact hc.step hchg (fun k hk hkb => by subst hkb; exact hSm _ (List.mem_singleton.2 rfl) hk)
      · exact GT.chg _ w _ hg hchg (.one hchg hbw rfl)
    · -- there is none
      have hcap : xs.length = cap := by omega
      have hj : junk = [] := by
        have : junk.length = 0 := by subst hcap; omega
        exact List.eq_nil_of_length_eq_zero this
      subst hj
      have holds : ∀ j u, (xs.flatMap f)[j]? = some u → w.cell? ((⟨b, 0, none⟩ : Addr).add j) = some u := fun j u hj => by
        rw [add_off]; simp [World.cell?, hbw, arr, hj]
      have hr := run_append_grow (P := P) w t ty E inf z hU hinf hz ⟨b, 0, none⟩ xs.length cap (xs.flatMap f) (by rw [flatMap_len hf, hs]) holds ⟨bx, 0, none⟩ 1 c (f a) (by rw [hf, hs, Nat.one_mul]) hnews (by omega) (by unfold maxLen at hlen; omega) (growslice_fits (by omega) hbytes)
      refine step _ _ hr ?_
      obtain ⟨k, hk, hk1⟩ : ∃ k, grownCap w (xs.length + 1) cap E = k ∧ xs.length + 1 ≤ k ∧ k ≤ maxLen := ⟨_, rfl, grownCap_ge w _ cap E, grownCap_le_maxLen w _ cap E hlen⟩
      rw [hk]
      refine h _ [(w.heap.size, .cells (arr f (xs ++ [a]) (Builtin.zeroCells z.cells (k - (xs.length + 1))).toList) E (0, 0))] (.inr ⟨w.heap.size, k, (Builtin.zeroCells z.cells (k - (xs.length + 1))).toList, Nat.le_trans hn0 hc.size, by simp, rfl, by simpa using hk1.1, hk1.2, ?_⟩) (fun p hp => by rw [List.mem_singleton] at hp; subst hp; exact .inl hc.size) _ ?_ ?_ ?_
      · simp [size_zeroCells, hzs]
        rw [Nat.sub_mul]
        have : (xs.length + 1) * s ≤ k * s := Nat.mul_le_mul_right _ hk1.1
        omega
      · have e1 : (Obj.cells ((xs.flatMap f).toArray ++ (f a).toArray ++ Builtin.zeroCells z.cells (k - (xs.length + 1))) E) = .cells (arr f (xs ++ [a]) (Builtin.zeroCells z.cells (k - (xs.length + 1))).toList) E (0, 0) := by
          congr 1; apply Array.ext'; simp [arr]
        rw [e1]
        have hm3 : Mem w M2 := by simpa using hm2.tail
        exact (hm3.ext (Chg.drew no w)).alloc _
      · exact (hc.step (Chg.drew no w) (fun _ _ q => q.elim)).step (chg_alloc w.drew _) (fun _ _ q => q.elim)
      · exact GS.ext w.drew _ (GS.ext w _ hg (Chg.drew no w)) (chg_alloc w.drew _)

theorem LM.append [GT G] {α : Type} {f : α → List Value} {E s : Nat} {inf : TypeInfo} {z : Value} {xs : List α} {v : Value} {m M2 : Mem0} {bx c : Nat} {a : α} {o : Obj}
    (hU : P.underlying t = some (.slice E)) (hI : ∀ w, (typeInfo E).run P w = .ok inf w) (hz : inf.zero = some z) (hs : inf.size = s) (hs0 : Nat.blt 0 s = true) (hzs : z.cells.size = s) (hd : Nat.blt d N = true)
    (hx : ev e x = some v) (hy : ev e y = some (.slice (some ⟨bx, 0, none⟩) 1 c)) (hsl : Sl f E s w0.heap.size xs v m) (ho : ∃ F fz, o = .cells (f a).toArray F fz)
    (hf : ∀ a, (f a).length = s) (h1 : ∀ a, ∀ u ∈ f a, one u = true) (hlen : xs.length + 1 ≤ maxLen) (hbytes : (xs.length + 1) * inf.bytes ≤ 140737488355328)
    (h : ∀ v' m', Sl f E s w0.heap.size (xs ++ [a]) v' m' → LM P r N ops Q l ((d, v') :: e) ds (m' ++ M2) S w0 G) :
    LM P r N ops Q (⟨some d, .call { callee := .builtin .append, args := #[x, y], argTypes := #[t, t] }, ty, pos, after, none⟩ :: l) e ds ((bx, o) :: (m ++ M2)) S w0 G :=
  .appendU hU hI hz hs hs0 hzs hd hx hy (Nat.le_refl _) (fun p hp hlt => absurd hlt (Nat.not_lt_of_le (hsl.ge p hp))) hsl ho hf h1 hlen hbytes (fun v' m' h2 _ => h v' m' h2)

theorem foldl_fill (cs : Array Value) : ∀ (vs : List Value) (k : Nat) (acc : Array Value), (vs.zipIdx k).foldl (fun cs (p : Value × Nat) => cs.setIfInBounds (0 * cs.size + p.2) p.1) acc = setR acc k vs
  | [], k, acc => rfl
  | v :: vs, k, acc => by
    simp only [List.zipIdx_cons, List.foldl_cons, setR, Nat.zero_mul, Nat.zero_add]
    have := foldl_fill cs vs (k + 1) (acc.setIfInBounds k v)
    simpa only [Nat.zero_mul, Nat.zero_add] using this
theorem setR_all : ∀ (vs : List Value) (pre : List Value) (old : List Value), old.length = vs.length → setR (pre ++ old).toArray pre.length vs = (pre ++ vs).toArray
  | [], pre, old, h => by
    have : old = [] := List.eq_nil_of_length_eq_zero (by simpa using h)
    subst this; rfl
  | v :: vs, pre, [], h => by simp at h
  | v :: vs, pre, o :: old, h => by
    simp only [setR, List.setIfInBounds_toArray]
    rw [List.set_append_right _ _ (Nat.le_refl _), Nat.sub_self, List.set_cons_zero]
    have := setR_all vs (pre ++ [v]) old (by simpa using h)
    simpa using this
theorem fill_one {s : Nat} {zs : Array Value} {v : Value} (hz : zs.size = s) (hv : v.cells.size = s) : Instr.fill (fun i => some (i * s, s)) zs [(0, v)] = some v.cells := by
  have h1 : v.cells.zipIdx.foldl (fun cs (p : Value × Nat) => cs.setIfInBounds (0 * s + p.2) p.1) zs = v.cells := by
    rw [← Array.foldl_toList, Array.toList_zipIdx]
    have h2 := foldl_fill zs v.cells.toList 0 zs
    simp only [Nat.zero_mul, Nat.zero_add] at h2 ⊢
    rw [h2]
    have h3 := setR_all v.cells.toList [] zs.toList (by simp [hz, hv])
    simpa using h3
  have h4 : ¬ (v.cells.size ≠ s ∨ 0 * s + v.cells.size > zs.size) := by simp [hv, hz]
  simp only [Instr.fill]
  simp only [hv, hz, ne_eq, not_true_eq_false, Nat.zero_mul, Nat.zero_add, gt_iff_lt, Nat.lt_irrefl, decide_false, Bool.or_self, Bool.false_eq_true, if_false] at h1 ⊢
  simpa using h1
/-- '[]T{a}' behind an append: one element in a block of its own. -/
theorem LM.single [GS G] {E : TypeId} {s : Nat} {z v : Value} (hU : P.underlying t = some (.slice E)) (hS : ∀ w, (sizeOf E).run P w = .ok s w) (hZ : ∀ w, (zeroValue E).run P w = .ok z w) (hs : Nat.blt 0 s = true) (hs2 : Nat.blt s 1000 = true) (hd : Nat.blt d N = true)
    (hx : ev e x = some v) (hv : v.cells.size = s)
    (h : ∀ b, w0.heap.size ≤ b → LM P r N ops Q l ((d, .slice (some ⟨b, 0, none⟩) 1 1) :: e) ds ((b, .cells v.cells E (0, 0)) :: M) S w0 G) : LM P r N ops Q (⟨some d, .buildSlice t 1 #[(0, x)], ty, pos, after, none⟩ :: l) e ds M S w0 G := fun w hm hc hg => by
  have h0 : 0 < s := Nat.le_of_ble_eq_true hs
  have h1000 : s < 1000 := Nat.le_of_ble_eq_true hs2
  have hne : ¬ s = 0 := by omega
  have hbig : ¬ (16777216 < s) := by omega
  have hfill := fill_one (s := s) (zs := (Array.range s).map (z.cells[· % z.cells.size]!)) (v := v) (by simp) hv
  refine LE.val (w' := w.alloc (.cells v.cells E)) (fun ρ hρ _ _ _ _ => ?_) (h w.heap.size hc.size _ (hm.alloc _) (hc.step (chg_alloc w _) (fun _ _ q => q.elim)) (GS.ext w _ hg (chg_alloc w _))) rfl hd
  simp [execOp, Instr.buildSlice, run_underlying hU, hS, hZ, hne, hbig, hρ x _ hx, hfill, newRow, Result.andThen]

/-- 'make([]T, n)' -/
theorem LM.make [GS G] {α : Type} {f : α → List Value} {E s : Nat} {inf : TypeInfo} {z : Value} {a0 : α} {n : Int} {k k' : IntKind} (hU : P.underlying t = some (.slice E)) (hI : ∀ w, (typeInfo E).run P w = .ok inf w) (hz : inf.zero = some z) (hs : inf.size = s) (hs0 : Nat.blt 0 s = true) (hza : z.cells = (f a0).toArray) (hf : ∀ a, (f a).length = s) (hd : Nat.blt d N = true)
    (hx : ev e x = some (.int k n)) (hy : ev e y = some (.int k' n)) (h0 : 0 ≤ n) (hb : (inf.bytes : Int) * n ≤ 281474976710656) (h63 : n ≤ 9223372036854775807)
    (h : ∀ b, w0.heap.size ≤ b → LM P r N ops Q l ((d, .slice (some ⟨b, 0, none⟩) n.toNat n.toNat) :: e) ds ((b, .cells (arr f (List.replicate n.toNat a0) []) E (0, 0)) :: M) S w0 G) :
    LM P r N ops Q (⟨some d, .makeSlice t x y, ty, pos, after, none⟩ :: l) e ds M S w0 G := fun w hm hc hg => by
  have hs0 : 0 < s := Nat.le_of_ble_eq_true hs0
  have hr := run_make w t E inf z (P := P) hU (info_of hI) hz k k' n n h0 (Int.le_refl _) hb h63
  have e1 : madeCells z.cells (n.toNat * inf.size) = arr f (List.replicate n.toNat a0) [] := by
    apply Array.ext'
    apply List.ext_getElem?
    intro i
    have hlen : (f a0).length = s := hf a0
    simp only [arr, List.append_nil]
    by_cases hi : i < n.toNat * s
    · have hq : i / s < n.toNat := Nat.div_lt_of_lt_mul (by rwa [Nat.mul_comm])
      have hmod : i % s < s := Nat.mod_lt _ hs0
      have hg := flatMap_get hf (List.replicate n.toNat a0) (i / s) (i % s) a0 (by simp [hq]) hmod
      rw [show i / s * s + i % s = i by rw [Nat.mul_comm]; exact Nat.div_add_mod i s] at hg
      rw [hg]
      simp [madeCells, hs, hi, hza, hlen, hmod]
    · have h2 : n.toNat * s ≤ i := by omega
      rw [List.getElem?_eq_none (by simp [madeCells, hs]; exact h2), List.getElem?_eq_none (by rw [flatMap_len hf]; simpa using h2)]
  rw [e1] at hr
  exact LE.val (fun ρ hρ _ _ _ _ => by simp [execOp, hρ x _ hx, hρ y _ hy, hr, Result.andThen]) (h w.heap.size hc.size _ (hm.alloc _) (hc.step (chg_alloc w _) (fun _ _ q => q.elim)) (GS.ext w _ hg (chg_alloc w _))) rfl hd
end

/-! integers in slices -/
def fI (n : Int) : List Value := [.int .i64 n]
section
variable {P : Program} {r : Option Nat} {N : Nat} {Q : Exit → Act → World → Prop} {e : Env} {ds : List Nat} {M : Mem0} {S : Nat → Prop} {w0 : World} {G : World → Prop}
variable {ops : Array Oper} {l : List Oper} {ty : TypeId} {pos : String} {after : Array Edge} {x y : Operand} {t : TypeId}
end
section
variable {P : Program} {r : Option Nat} {N : Nat} {Q : Exit → Act → World → Prop} {e : Env} {ds : List Nat} {M : Mem0} {S : Nat → Prop} {w0 : World} {G : World → Prop}
variable {ops : Array Oper} {l : List Oper} {op : Op} {ty : TypeId} {pos : String} {after : Array Edge} {d : Nat}
/-- What isn't carried out, where a later guard asks for it. -/
theorem LM.dropU {j t : Nat} {b c : Bool} (hj : (ops[j]?).bind (·.dst) = some t) (ht : look e t = some (.bool c)) (hbc : (c == b) = false)
    (h : LM P r N ops Q l ((d, undef) :: e) ds M S w0 G) (hd : Nat.blt d N = true := by rfl) : LM P r N ops Q (⟨some d, op, ty, pos, after, some (j, b)⟩ :: l) e ds M S w0 G := fun w hm hc hg => .drop hj ht hbc (h w hm hc hg) hd
/-- A guard that was not carried out itself. -/
theorem LM.dropX {j t : Nat} {b : Bool} (hj : (ops[j]?).bind (·.dst) = some t) (ht : look e t = some undef)
    (h : LM P r N ops Q l ((d, undef) :: e) ds M S w0 G) (hd : Nat.blt d N = true := by rfl) : LM P r N ops Q (⟨some d, op, ty, pos, after, some (j, b)⟩ :: l) e ds M S w0 G := fun w hm hc hg a hf hdm => by
  have hw : Region.wanted ⟨some d, op, ty, pos, after, some (j, b)⟩ (yielded ops a.tmps) = false := by
    simp only [Region.wanted, yielded, hj, Option.bind_some, hf.2 t _ ht, undef]; rfl
  unfold wpListIn
  rw [if_neg (by rw [hw]; simp)]
  exact ⟨fun _ _ => trivial, h w hm hc hg _ (hf.put hd undef) hdm⟩
end
/-- Ways meet again: what holds where they meet. -/
def joQ (N : Nat) (ds : List Nat) (S : Nat → Prop) (w0 : World) {α : Type} (E : α → Env) (MM : α → Mem0) (GG : α → World → Prop) (I : α → Prop) (Q : Exit → Act → World → Prop) : Exit → Act → World → Prop
  | .normal, a, w => ∃ y, Fr N (E y) a ∧ Dm ds a ∧ Mem w (MM y) ∧ Chg S w0 w ∧ GG y w ∧ I y
  | x, a, w => Q x a w
section
variable {P : Program} {r : Option Nat} {N : Nat} {Q : Exit → Act → World → Prop} {e : Env} {ds : List Nat} {M : Mem0} {S : Nat → Prop} {w0 : World} {G : World → Prop}
theorem wpM.joinG {α : Type} {c : Code} (E : α → Env) (MM : α → Mem0) (GG : α → World → Prop) (I : α → Prop) (h1 : wpM P r N c (joQ N ds S w0 E MM GG I Q) e ds M S w0 G) (h2 : ∀ x, I x → QM N Q .normal (E x) ds (MM x) S w0 (GG x)) : wpM P r N c Q e ds M S w0 G := fun w hm hc hg a hf hd => by
  refine wpIn_mono (h1 w hm hc hg a hf hd) (fun x a w hq => ?_)
  cases x with
  | normal => obtain ⟨y, hf', hd', hm', hc', hg', hI⟩ := hq; exact h2 y hI w hm' hc' hg' a hf' hd'
  | exit id => exact hq
  | goto l => exact hq
  | ret => exact hq
  | panic ch => exact hq
  | outgrown => exact hq
theorem wpM.join {α : Type} {c : Code} (E : α → Env) (MM : α → Mem0) (I : α → Prop) (h1 : wpM P r N c (joQ N ds S w0 E MM (fun _ => G) I Q) e ds M S w0 G) (h2 : ∀ x, I x → QM N Q .normal (E x) ds (MM x) S w0 G) : wpM P r N c Q e ds M S w0 G := .joinG E MM (fun _ => G) I h1 h2
theorem QM.meetG {α : Type} {E : α → Env} {MM : α → Mem0} {GG : α → World → Prop} {I : α → Prop} (y : α) (hs : Sub e (E y)) (hM : ∀ w, Mem w M → Mem w (MM y)) (hG : ∀ w, G w → GG y w) (hI : I y) : QM N (joQ N ds S w0 E MM GG I Q) .normal e ds M S w0 G :=
  fun w hw hc hg _ hf hd => ⟨y, hf.sub hs, hd, hM w hw, hc, hG w hg, hI⟩
theorem QM.meet {α : Type} {E : α → Env} {MM : α → Mem0} {I : α → Prop} (y : α) (hs : Sub e (E y)) (hM : ∀ w, Mem w M → Mem w (MM y)) (hI : I y) : QM N (joQ N ds S w0 E MM (fun _ => G) I Q) .normal e ds M S w0 G := .meetG y hs hM (fun _ h => h) hI
theorem QM.join_ret {α : Type} {E : α → Env} {MM : α → Mem0} {GG : α → World → Prop} {I : α → Prop} (h : QM N Q .ret e ds M S w0 G) : QM N (joQ N ds S w0 E MM GG I Q) .ret e ds M S w0 G := h
end
/-- What was there is as it was; the value is a slice of the call's own. -/
def New {α : Type} (f : α → List Value) (E s : Nat) (xs : List α) (w : World) (v : Value) (w' : World) : Prop := Ext w w' ∧ ∃ m, Sl f E s w.heap.size xs v m ∧ Mem w' m
section
variable {P : Program} {r : Option Nat} {N : Nat} {Q : Exit → Act → World → Prop} {e : Env} {ds : List Nat} {M : Mem0} {S : Nat → Prop} {w0 : World} {G : World → Prop}
variable {ops : Array Oper} {l : List Oper} {op : Op} {ty : TypeId} {pos : String} {after : Array Edge} {d : Nat}
theorem LM.callS [GS G] {α : Type} {f : α → List Value} {E s : Nat} {xs : List α} {g : FuncId} {args : Array Value} (hc : ∀ w, OpC P op ty e w g args) (h : ∀ w, Mem w M → Chg S w0 w → G w → Ret P g args w (New f E s xs w))
    (hk : ∀ u m, Sl f E s w0.heap.size xs u m → LM P r N ops Q l ((d, u) :: e) ds (m ++ M) S w0 G) (hnd : nd op = true := by rfl) (hd : Nat.blt d N = true := by rfl) :
    LM P r N ops Q (⟨some d, op, ty, pos, after, none⟩ :: l) e ds M S w0 G :=
  .call hc (fun w hm hcg hg => h w hm hcg hg) (fun w u w' hm hcg hg ⟨he, m, hsl, hm'⟩ => by
    refine hk u m (hsl.mono hcg.size) w' ⟨?_, fun p hp => ?_⟩ (hcg.step he (fun _ _ q => q.elim)) (GS.ext w w' hg he)
    · rw [List.map_append]
      refine List.nodup_append.2 ⟨hm'.1, hm.1, ?_⟩
      intro x hx y hy hxy
      obtain ⟨p, hp, rfl⟩ := List.mem_map.1 hx
      obtain ⟨q, hq, rfl⟩ := List.mem_map.1 hy
      have := hsl.ge p hp
      have := hm.lt hq
      omega
    · rcases List.mem_append.1 hp with hp | hp
      · exact hm'.2 p hp
      · exact he.get (hm.2 p hp)) hnd hd
end
section
variable {P : Program} {r : Option Nat} {N : Nat} {Q : Exit → Act → World → Prop} {e : Env} {ds : List Nat} {M : Mem0} {S : Nat → Prop} {w0 : World} {G : World → Prop}
variable {ops : Array Oper} {l : List (Nat × Nat)} {op : Op} {ty : TypeId} {pos : String} {after : Array Edge} {d i : Nat}
theorem LD.callS [GS G] {α : Type} {f : α → List Value} {E s : Nat} {xs : List α} {gd : Option (Nat × Bool)} {g : FuncId} {args : Array Value} (hi : ops[i]? = some ⟨some d, op, ty, pos, after, gd⟩) (hgd : Wtd ops e gd true) (hc : ∀ w, OpC P op ty e w g args) (h : ∀ w, Mem w M → Chg S w0 w → G w → Ret P g args w (New f E s xs w))
    (hk : ∀ u m, Sl f E s w0.heap.size xs u m → LD P r N ops Q l ((d, u) :: e) ds (M ++ m) S w0 G) (hnd : nd op = true := by rfl) (hd : Nat.blt d N = true := by rfl) :
    LD P r N ops Q ((i, 2) :: l) e ds M S w0 G :=
  .callG hi hgd hc (fun w hm hcg hg => h w hm hcg hg) (fun w u w' hm hcg hg ⟨he, m, hsl, hm'⟩ => by
    refine ⟨M ++ m, fun w h => h.sub (List.sublist_append_left _ _), ⟨Mem.perm (M := m ++ M) ⟨?_, fun p hp => ?_⟩ List.perm_append_comm, hcg.step he (fun _ _ q => q.elim), GS.ext w w' hg he⟩, hk u m (hsl.mono hcg.size)⟩
    · rw [List.map_append]
      refine List.nodup_append.2 ⟨hm'.1, hm.1, ?_⟩
      intro x hx y hy hxy
      obtain ⟨p, hp, rfl⟩ := List.mem_map.1 hx
      obtain ⟨q, hq, rfl⟩ := List.mem_map.1 hy
      have := hsl.ge p hp
      have := hm.lt hq
      omega
    · rcases List.mem_append.1 hp with hp | hp
      · exact hm'.2 p hp
      · exact he.get (hm.2 p hp)) hnd hd
end
theorem lk {e : Env} {t : Nat} {v v' : Value} (h : look e t = some v') (hv : v' = v) : look e t = some v := by rw [h, hv]

/-- Book-keeping from block n on: nothing is changed but the objects of loops that lie there. -/
structure Bk (n : Nat) (w w' : World) : Prop where
  os : w'.os = w.os
  tape : w'.tape = w.tape
  output : w'.output = w.output
  size : w.heap.size ≤ w'.heap.size
  same : ∀ (b : Nat) (o : Obj), w.heap[b]? = some o → (b < n ∨ wlk o = false) → w'.heap[b]? = some o
  walk : ∀ (b : Nat) (o : Obj), w.heap[b]? = some o → wlk o = true → ∃ o', w'.heap[b]? = some o' ∧ wlk o' = true

theorem Bk.refl (n : Nat) (w : World) : Bk n w w := ⟨rfl, rfl, rfl, Nat.le_refl _, fun _ _ h _ => h, fun _ o h hw => ⟨o, h, hw⟩⟩
theorem Bk.trans {n : Nat} {a b c : World} (h : Bk n a b) (k : Bk n b c) : Bk n a c :=
  ⟨k.os.trans h.os, k.tape.trans h.tape, k.output.trans h.output, Nat.le_trans h.size k.size, fun x o hx hn => k.same x o (h.same x o hx hn) hn, fun x o hx hw => by
    obtain ⟨o', h1, h2⟩ := h.walk x o hx hw; exact k.walk x o' h1 h2⟩
theorem Bk.mono {n m : Nat} {w w' : World} (h : Bk n w w') (hm : m ≤ n) : Bk m w w' :=
  ⟨h.os, h.tape, h.output, h.size, fun x o hx hn => h.same x o hx (hn.imp (fun q => Nat.lt_of_lt_of_le q hm) id), h.walk⟩
theorem Ext.bk {n : Nat} {w w' : World} (h : Ext w w') : Bk n w w' :=
  ⟨h.os, h.tape, h.output, h.size, fun _ _ hx _ => h.get hx, fun _ o hx hw => ⟨o, h.get hx, hw⟩⟩
theorem Bk.put {n : Nat} {w : World} {l : Nat} {o o' : Obj} (hl : w.heap[l]? = some o) (hn : n ≤ l) (hw : wlk o = true) (hw' : wlk o' = true) : Bk n w (w.putObj l o') := by
  have hlt := (Array.getElem?_eq_some_iff.1 hl).1
  refine ⟨rfl, rfl, rfl, by simp, fun b u hb hc => ?_, fun b u hb hu => ?_⟩
  · by_cases e : b = l
    · subst e; rw [hl] at hb; cases hb
      rcases hc with hc | hc
      · omega
      · rw [hw] at hc; cases hc
    · rw [World.putObj_heap_other e]; exact hb
  · by_cases e : b = l
    · subst e; exact ⟨o', World.putObj_heap_same hlt, hw'⟩
    · exact ⟨u, by rw [World.putObj_heap_other e]; exact hb, hu⟩
theorem chg_put {w : World} {l : Nat} (o : Obj) : Chg (fun x => x = l) w (w.putObj l o) :=
  ⟨rfl, rfl, rfl, by simp, fun b _ hn => World.putObj_heap_other hn⟩
theorem Bk.chg {n : Nat} {w w' : World} (h : Bk n w w') : Chg (fun b => n ≤ b) w w' :=
  ⟨h.os, h.tape, h.output, h.size, fun b hb hn => by
    have h1 : w.heap[b]? = some w.heap[b] := Array.getElem?_eq_getElem hb
    rw [h.same b _ h1 (.inl (Nat.lt_of_not_le hn)), h1]⟩

/-- What a round keeps: the objects of loops that lay from n on in W1 lie there still. -/
structure KW (n : Nat) (W1 w : World) : Prop where
  os : w.os = W1.os
  tape : w.tape = W1.tape
  output : w.output = W1.output
  size : W1.heap.size ≤ w.heap.size
  same : ∀ (b : Nat) (o : Obj), n ≤ b → W1.heap[b]? = some o → wlk o = true → w.heap[b]? = some o
theorem KW.refl (n : Nat) (w : World) : KW n w w := ⟨rfl, rfl, rfl, Nat.le_refl _, fun _ _ _ h _ => h⟩
instance (n : Nat) (W1 : World) : GT (KW n W1) where
  ext := fun w w' h e => ⟨e.os.trans h.os, e.tape.trans h.tape, e.output.trans h.output, Nat.le_trans h.size e.size, fun b o hn hb hw => e.get (h.same b o hn hb hw)⟩
  chg := fun S w w' h e k => ⟨e.os.trans h.os, e.tape.trans h.tape, e.output.trans h.output, Nat.le_trans h.size e.size, fun b o hn hb hw => k b o (h.same b o hn hb hw) hw⟩
instance {G H : World → Prop} [GS G] [GS H] : GS (fun w => G w ∧ H w) where
  ext := fun w w' h e => ⟨GS.ext w w' h.1 e, GS.ext w w' h.2 e⟩
instance {G H : World → Prop} [GT G] [GT H] : GT (fun w => G w ∧ H w) where
  ext := fun w w' h e => ⟨GS.ext w w' h.1 e, GS.ext w w' h.2 e⟩
  chg := fun S w w' h e k => ⟨GT.chg S w w' h.1 e k, GT.chg S w w' h.2 e k⟩

/-- A call of the yield of loop l. -/
def YR (P : Program) (l : Nat) (args : Array Value) (W : World) (R : Bool → World → Prop) : Prop :=
  ∃ fn tmps assign body, (Instr.yield l args).run P W = .ok (.round l fn tmps assign body) W ∧ RoundIn Fence.wide 0 P l fn tmps assign body W (fun en w' => ∃ b, en = .returned (.bool b) ∧ R b w')

/-- An iterator's contract: these come, one behind the other; what it reads is said by Rd; it changes nothing but its own loops' objects. -/
def SeqC (P : Program) (g : FuncId) (lb : Array Value) (A : List (Array Value)) (Rd : World → Prop) (fin : Prop) : Prop :=
  ∀ (l : Nat) (J : Nat → World → Prop) (Jx : World → Prop) (W : World), (fin ∨ ∀ w, ¬ J A.length w) → (∀ k w, J k w → Rd w) →
    (∀ k w1 w2, J k w1 → Bk W.heap.size w1 w2 → J k w2) → (∀ w1 w2, Jx w1 → Bk W.heap.size w1 w2 → Jx w2) →
    (∀ k a w1, A[k]? = some a → J k w1 → YR P l a w1 (fun b w2 => ((b = true ∧ J (k + 1) w2) ∨ (b = false ∧ Jx w2)) ∧ KW W.heap.size w1 w2)) →
    J 0 W → Ret P g (#[.func (.yield l) #[] #[]] ++ lb) W (fun _ w' => J A.length w' ∨ Jx w')

theorem SeqC.mono {P : Program} {g : FuncId} {lb : Array Value} {A : List (Array Value)} {Rd Rd' : World → Prop} {fin : Prop} (h : SeqC P g lb A Rd fin) (hr : ∀ w, Rd' w → Rd w) : SeqC P g lb A Rd' fin :=
  fun l J Jx W hf hJ => h l J Jx W hf (fun k w hj => hr w (hJ k w hj))

/-! ### One round -/
def busyOf (rc : Loop) : Loop := { rc with state := .busy }
def doneOf (rc : Loop) (c : Code) : Loop := { rc with state := .done, pending := some c }
/-- How a round's body is left. -/
def rdX (l : Nat) (rc : Loop) (R : Bool → World → Prop) : Exit → Act → World → Prop
  | .normal, _, w => w.heap[l]? = some (.loop (busyOf rc)) ∧ R true (w.putObj l (.loop rc))
  | .ret, _, w => w.heap[l]? = some (.loop (busyOf rc)) ∧ R false (w.putObj l (.loop (doneOf rc .ret)))
  | .exit id, _, w => w.heap[l]? = some (.loop (busyOf rc)) ∧ R false (w.putObj l (.loop (doneOf rc (.exit id))))
  | _, _, _ => False
/-- What stands behind the assignment to a round's variables. -/
def asK (P : Program) (l : Nat) (rc : Loop) (body : Code) (Q : Exit → Act → World → Prop) (a : Act) (w : World) : Prop :=
  w.heap[l]? = some (.loop rc) ∧ body.wpIn (Wd (some l)) 0 P Q a (w.putObj l (.loop (busyOf rc)))
def never : Exit → Act → World → Prop := fun _ _ _ => False

theorem YR.of_body {P : Program} {l : Nat} {rc : Loop} {a : Array Value} {W : World} {R : Bool → World → Prop} (hst : rc.state = .ready) (hp : rc.pending = none) (ha : a.size = rc.params.size) (hl : W.heap[l]? = some (.loop rc))
    (h : rc.assign.wpIn (Wd (some l)) 0 P (Exit.then (asK P l rc rc.body (rdX l rc R)) never) { tmps := (rc.params.zip a).foldl (fun t (p, v) => t.setIfInBounds p v) rc.tmps, defers := [] } W) : YR P l a W R := by
  refine ⟨_, _, _, _, run_yield hl ha, ?_⟩
  have hback : ∀ (jump : Option Code) (w : World), w.heap[l]? = some (.loop (busyOf rc)) → (Instr.endRound l jump).run P w = .ok (.bool jump.isNone) (w.putObj l (.loop { rc with state := if jump.isNone then .ready else .done, pending := jump })) := fun jump w hw => by have := run_endRound (P := P) jump hw; exact this
  refine roundIn_of_wpIn (F := Fence.wide) trivial ?_
  refine wpIn_mono h (fun x a1 w1 hq => ?_)
  cases x with
  | normal =>
    obtain ⟨h1, h2⟩ := hq
    refine ⟨_, run_beginRound h1 hst, ?_⟩
    refine wpIn_mono h2 (fun x a2 w2 hq => ?_)
    cases x with
    | normal =>
      obtain ⟨h3, h4⟩ := hq
      refine ⟨_, _, hback none w2 h3, true, rfl, ?_⟩
      have : ({ rc with state := .ready, pending := none } : Loop) = rc := by cases rc; simp_all
      simp only [Option.isNone_none, if_true]
      rw [this]; exact h4
    | ret => obtain ⟨h3, h4⟩ := hq; exact ⟨_, _, hback (some .ret) w2 h3, false, rfl, h4⟩
    | exit id => obtain ⟨h3, h4⟩ := hq; exact ⟨_, _, hback (some (.exit id)) w2 h3, false, rfl, h4⟩
    | goto t => exact hq.elim
    | panic c => exact hq.elim
    | outgrown => exact hq.elim
  | _ => exact hq.elim

/-! ### The statement -/
/-- How a round's body is left, said of the memory's list. -/
def rdQ (l : Nat) (rc : Loop) (Dl : Mem0) (S : Nat → Prop) (w0 : World) (K : World → Prop) {α β : Type} (MM : α → Mem0) (GG : α → World → Prop) (I : α → Prop) (MX : β → Mem0) (GX : β → World → Prop) (IX : Code → β → Prop) : Exit → Act → World → Prop
  | .normal, _, w => ∃ y, Mem w ((l, .loop (busyOf rc)) :: (Dl ++ MM y)) ∧ Chg S w0 w ∧ (GG y w ∧ K w) ∧ I y
  | .ret, _, w => ∃ z, Mem w ((l, .loop (busyOf rc)) :: (Dl ++ MX z)) ∧ Chg S w0 w ∧ (GX z w ∧ K w) ∧ IX .ret z
  | .exit id, _, w => ∃ z, Mem w ((l, .loop (busyOf rc)) :: (Dl ++ MX z)) ∧ Chg S w0 w ∧ (GX z w ∧ K w) ∧ IX (.exit id) z
  | _, _, _ => False

section
variable {N l : Nat} {rc : Loop} {Dl : Mem0} {S : Nat → Prop} {w0 : World} {K G : World → Prop} {α β : Type} {MM : α → Mem0} {GG : α → World → Prop} {I : α → Prop} {MX : β → Mem0} {GX : β → World → Prop} {IX : Code → β → Prop} {e : Env} {M : Mem0}
theorem QM.next (y : α) (hM : ∀ w, Mem w M → Mem w ((l, .loop (busyOf rc)) :: (Dl ++ MM y))) (hG : ∀ w, G w → GG y w ∧ K w) (hI : I y) : QM N (rdQ l rc Dl S w0 K MM GG I MX GX IX) .normal e [] M S w0 G :=
  fun w hm hc hg _ _ _ => ⟨y, hM w hm, hc, hG w hg, hI⟩
theorem QM.rret (z : β) (hM : ∀ w, Mem w M → Mem w ((l, .loop (busyOf rc)) :: (Dl ++ MX z))) (hG : ∀ w, G w → GX z w ∧ K w) (hI : IX .ret z) : QM N (rdQ l rc Dl S w0 K MM GG I MX GX IX) .ret e [] M S w0 G :=
  fun w hm hc hg _ _ _ => ⟨z, hM w hm, hc, hG w hg, hI⟩
end

/-- Ghosts that stand when one object of a loop that lies behind is changed. -/
def Gl (m : Nat) (G : World → Prop) : Prop := ∀ w1 w2, G w1 → Bk m w1 w2 → G w2

/-- ... when the loop's own object becomes busy. -/
def Pl (l : Nat) (rc : Loop) (G : World → Prop) : Prop := ∀ w, G w → w.heap[l]? = some (.loop rc) → G (w.putObj l (.loop (busyOf rc)))
theorem QM.toBody {P : Program} {N l : Nat} {rc : Loop} {body : Code} {Q : Exit → Act → World → Prop} {e : Env} {M : Mem0} {S : Nat → Prop} {w0 : World} {G : World → Prop} (hG : Pl l rc G) (hlb : w0.heap.size ≤ l)
    (h : wpM P (some l) N body Q e [] ((l, .loop (busyOf rc)) :: M) S w0 G) : QM N (Exit.then (asK P l rc body Q) never) .normal e [] ((l, .loop rc) :: M) S w0 G := fun w hm hc hg a hf hd => by
  have hl := hm.get (i := 0) rfl
  refine ⟨hl, h _ (hm.set (i := 0) rfl (World.putObj_heap_same (Array.getElem?_eq_some_iff.1 hl).1) (chg_put _)) (hc.step (chg_put _) (fun k hk hkl => by subst hkl; omega)) (hG _ hg hl) a hf hd⟩
theorem KW.put {n : Nat} {W1 w : World} (h : KW n W1 w) {l : Nat} (hl : l < n) (o : Obj) : KW n W1 (w.putObj l o) :=
  ⟨h.os, h.tape, h.output, by simpa using h.size, fun b u hn hb hw => by rw [World.putObj_heap_other (by omega)]; exact h.same b u hn hb hw⟩
theorem gl_top (m : Nat) : Gl m top := fun _ _ _ _ => trivial
theorem Gl.and {m : Nat} {G H : World → Prop} (h : Gl m G) (k : Gl m H) : Gl m (fun w => G w ∧ H w) := fun w1 w2 g b => ⟨h w1 w2 g.1 b, k w1 w2 g.2 b⟩

/-- The round's variables. -/
def parE : List (Nat × Value) → Env → Env
  | [], e => e
  | (p, v) :: l, e => parE l ((p, v) :: e)
theorem fr_par {N : Nat} : ∀ (l : List (Nat × Value)) (e : Env) (t : Array Value), (l.all fun p => Nat.blt p.1 N) = true → Fr N e { tmps := t, defers := [] } → Fr N (parE l e) { tmps := l.foldl (fun t (p, v) => t.setIfInBounds p v) t, defers := [] }
  | [], e, t, _, h => h
  | (p, v) :: l, e, t, hl, h => by
    simp only [List.all_cons, Bool.and_eq_true] at hl
    have := h.put hl.1 v
    exact fr_par l _ _ hl.2 this

section range
variable {P : Program} {N : Nat} {Q : Exit → Act → World → Prop} {e : Env} {ds : List Nat} {M : Mem0} {S : Nat → Prop} {w0 : World} {G : World → Prop}
variable {g : Operand} {ps : Array Tmp} {assign body : Code} {gf : FuncId} {lb : Array Value} {A : List (Array Value)} {Rd : World → Prop} {fin : Prop} {α β : Type}

/-- the loop's record -/
def recOf (fn : FuncId) (tmps : Array Value) (ps : Array Tmp) (assign body : Code) (D : Nat) : Loop := { state := .ready, pending := none, fn, tmps, params := ps, assign, body, defers := D }

theorem range_core {a : Act} (hf : Fr N e a) {l D m : Nat} {fn : FuncId} {Dl : Mem0} {W : World} (hlW : l + 1 = W.heap.size) (hml : m ≤ l) (hlb : w0.heap.size ≤ l) (hDl : ∀ p ∈ Dl, p.1 < W.heap.size)
    (hseq : SeqC P gf lb A Rd fin) (MM : Nat → α → Mem0) (GG : Nat → α → World → Prop) (I : Nat → α → Prop) (MX : β → Mem0) (GX : β → World → Prop) (IX : Code → β → Prop) (x0 : α)
    (hA : ∀ (k : Nat) (av : Array Value), A[k]? = some av → av.size = ps.size) (hps : ps.all (fun p => Nat.blt p N) = true)
    (hm0 : Mem W ((l, .loop (recOf fn a.tmps ps assign body D)) :: (Dl ++ MM 0 x0))) (hc0 : Chg S w0 W) (hg0 : GG 0 x0 W) (hI0 : I 0 x0)
    (hfin : fin ∨ ∀ x, ¬ I A.length x)
    (hrd : ∀ k x w, Mem w (MM k x) → Chg S w0 w → GG k x w → I k x → Rd w)
    (hGG : ∀ k x, Gl m (GG k x)) (hGX : ∀ z, Gl m (GX z))
    (hMM : ∀ k x, I k x → ∀ p ∈ MM k x, p.1 < W.heap.size ∨ wlk p.2 = false) (hMX : ∀ c z, IX c z → ∀ p ∈ MX z, p.1 < W.heap.size ∨ wlk p.2 = false)
    (hbody : ∀ k av x W1, A[k]? = some av → I k x → wpM P (some l) N assign (Exit.then (asK P l (recOf fn a.tmps ps assign body D) body (rdQ l (recOf fn a.tmps ps assign body D) Dl S w0 (KW W.heap.size W1) (MM (k + 1)) (GG (k + 1)) (I (k + 1)) MX GX IX)) never)
      (parE (ps.toList.zip av.toList) e) [] ((l, .loop (recOf fn a.tmps ps assign body D)) :: (Dl ++ MM k x)) S w0 (fun w => GG k x w ∧ KW W.heap.size W1 w)) :
    Ret P gf (#[.func (.yield l) #[] #[]] ++ lb) W (fun _ w' =>
      (∃ x, Mem w' ((l, .loop (recOf fn a.tmps ps assign body D)) :: (Dl ++ MM A.length x)) ∧ Chg S w0 w' ∧ GG A.length x w' ∧ I A.length x) ∨
      (∃ c z, Mem w' ((l, .loop (doneOf (recOf fn a.tmps ps assign body D) c)) :: (Dl ++ MX z)) ∧ Chg S w0 w' ∧ GX z w' ∧ IX c z ∧ (c = .ret ∨ ∃ id, c = .exit id))) := by
  generalize hrc : recOf fn a.tmps ps assign body D = rc at *
  have hst : rc.state = .ready := by rw [← hrc]; rfl
  have hpe : rc.pending = none := by rw [← hrc]; rfl
  have hpar : rc.params = ps := by rw [← hrc]; rfl
  have hass : rc.assign = assign := by rw [← hrc]; rfl
  have hbod : rc.body = body := by rw [← hrc]; rfl
  have htm : rc.tmps = a.tmps := by rw [← hrc]; rfl
  -- book-keeping leaves the lists as they are
  have keep : ∀ (w1 w2 : World) (Mx : Mem0), Bk W.heap.size w1 w2 → Mem w1 Mx → (∀ p ∈ Mx, p.1 < W.heap.size ∨ wlk p.2 = false) → Mem w2 Mx := fun w1 w2 Mx hb hm hp => ⟨hm.1, fun p hpm => hb.same _ _ (hm.2 p hpm) (hp p hpm)⟩
  have keepC : ∀ (w1 w2 : World), Bk W.heap.size w1 w2 → Chg S w0 w1 → Chg S w0 w2 := fun w1 w2 hb hc => hc.step hb.chg (fun x hx hn => by have := hc0.size; omega)
  have hlow : ∀ (o : Obj) (Mx : Mem0), (∀ p ∈ Mx, p.1 < W.heap.size ∨ wlk p.2 = false) → ∀ p ∈ ((l, o) :: (Dl ++ Mx)), p.1 < W.heap.size ∨ wlk p.2 = false := fun o Mx h p hp => by
    rcases List.mem_cons.1 hp with rfl | hp
    · exact .inl (by simp only; omega)
    · rcases List.mem_append.1 hp with hp | hp
      · exact .inl (hDl p hp)
      · exact h p hp
  refine Ret.mono (hseq l
    (fun k w => ∃ x, Mem w ((l, .loop rc) :: (Dl ++ MM k x)) ∧ Chg S w0 w ∧ GG k x w ∧ I k x)
    (fun w => ∃ c z, Mem w ((l, .loop (doneOf rc c)) :: (Dl ++ MX z)) ∧ Chg S w0 w ∧ GX z w ∧ IX c z ∧ (c = .ret ∨ ∃ id, c = .exit id))
    W (hfin.imp id fun hn w => by rintro ⟨x, _, _, _, hI⟩; exact hn x hI) ?_ ?_ ?_ ?_ ⟨x0, hm0, hc0, hg0, hI0⟩) (fun _ w' h => h)
  · rintro k w ⟨x, hm, hc, hg, hI⟩
    exact hrd k x w (hm.sub ((List.sublist_append_right Dl (MM k x)).trans (List.sublist_cons_self _ _))) hc hg hI
  · rintro k w1 w2 ⟨x, hm, hc, hg, hI⟩ hb
    exact ⟨x, keep w1 w2 _ hb hm (hlow _ _ (hMM k x hI)), keepC w1 w2 hb hc, hGG k x w1 w2 hg (hb.mono (by omega)), hI⟩
  · rintro w1 w2 ⟨c, z, hm, hc, hg, hI, hj⟩ hb
    exact ⟨c, z, keep w1 w2 _ hb hm (hlow _ _ (hMX c z hI)), keepC w1 w2 hb hc, hGX z w1 w2 hg (hb.mono (by omega)), hI, hj⟩
  · rintro k av w1 hav ⟨x, hm, hc, hg, hI⟩
    have hl1 := hm.get (i := 0) rfl
    refine YR.of_body hst hpe (by rw [hpar]; exact hA k av hav) hl1 ?_
    rw [hass, hbod, hpar, htm]
    have hfr : Fr N (parE (ps.toList.zip av.toList) e) { tmps := (ps.zip av).foldl (fun t (p, v) => t.setIfInBounds p v) a.tmps, defers := [] } := by
      rw [← Array.foldl_toList, Array.toList_zip]
      refine fr_par _ e a.tmps ?_ ⟨hf.1, hf.2⟩
      rw [List.all_eq_true]
      intro p hp
      have : p.1 ∈ ps := Array.mem_def.2 (List.of_mem_zip hp).1
      exact Array.all_eq_true_iff_forall_mem.1 hps _ this
    refine wpIn_mono (hbody k av x w1 hav hI w1 hm hc ⟨hg, .refl _ _⟩ _ hfr rfl) ?_
    intro x1 a1 w2 hq
    cases x1 with
    | normal =>
      obtain ⟨h1, h2⟩ := hq
      refine ⟨h1, wpIn_mono h2 (fun x2 a2 w3 hq => ?_)⟩
      have fin : ∀ (o' : Obj) (Mx : Mem0), wlk o' = true → Mem w3 ((l, .loop (busyOf rc)) :: Mx) → Chg S w0 w3 → KW W.heap.size w1 w3 →
          w3.heap[l]? = some (.loop (busyOf rc)) ∧ Mem (w3.putObj l o') ((l, o') :: Mx) ∧ Chg S w0 (w3.putObj l o') ∧ KW W.heap.size w1 (w3.putObj l o') ∧ Bk m w3 (w3.putObj l o') := fun o' Mx ho hm3 hc3 hk3 => by
        have h3 := hm3.get (i := 0) rfl
        refine ⟨h3, hm3.set (i := 0) rfl (World.putObj_heap_same (Array.getElem?_eq_some_iff.1 h3).1) (chg_put _), hc3.step (chg_put _) (fun q hq hql => by subst hql; omega), ?_, Bk.put h3 hml rfl ho⟩
        exact ⟨hk3.os, hk3.tape, hk3.output, by simpa using hk3.size, fun b o hn hb hw => by rw [World.putObj_heap_other (by omega)]; exact hk3.same b o hn hb hw⟩
      cases x2 with
      | normal =>
        obtain ⟨y, hm3, hc3, ⟨hg3, hk3⟩, hI3⟩ := hq
        obtain ⟨p1, p2, p3, p4, p5⟩ := fin (.loop rc) _ rfl hm3 hc3 hk3
        exact ⟨p1, .inl ⟨rfl, y, p2, p3, hGG _ _ _ _ hg3 p5, hI3⟩, p4⟩
      | ret =>
        obtain ⟨z, hm3, hc3, ⟨hg3, hk3⟩, hI3⟩ := hq
        obtain ⟨p1, p2, p3, p4, p5⟩ := fin (.loop (doneOf rc .ret)) _ rfl hm3 hc3 hk3
        exact ⟨p1, .inr ⟨rfl, .ret, z, p2, p3, hGX _ _ _ hg3 p5, hI3, .inl rfl⟩, p4⟩
      | exit id =>
        obtain ⟨z, hm3, hc3, ⟨hg3, hk3⟩, hI3⟩ := hq
        obtain ⟨p1, p2, p3, p4, p5⟩ := fin (.loop (doneOf rc (.exit id))) _ rfl hm3 hc3 hk3
        exact ⟨p1, .inr ⟨rfl, .exit id, z, p2, p3, hGX _ _ _ hg3 p5, hI3, .inr ⟨id, rfl⟩⟩, p4⟩
      | _ => exact hq.elim
    | _ => exact hq.elim

theorem range_end {r : Option Nat} {a' : Act} {args : Array Value} {l : Nat} {Dl : Mem0} {W : World} {rc : Loop} {ds' : List Nat} {MM : Nat → α → Mem0} {GG : Nat → α → World → Prop} {I : Nat → α → Prop} {MX : β → Mem0} {GX : β → World → Prop} {IX : Code → β → Prop}
    (hst : rc.state = .ready) (hpe : rc.pending = none) (hlb : w0.heap.size ≤ l) (hf : Fr N e a') (hd : Dm ds' a')
    (hGG : ∀ k x, Gl l (GG k x)) (hGX : ∀ z, Gl l (GX z))
    (hcore : Ret P gf args W (fun _ w' =>
      (∃ x, Mem w' ((l, .loop rc) :: (Dl ++ MM A.length x)) ∧ Chg S w0 w' ∧ GG A.length x w' ∧ I A.length x) ∨
      (∃ c z, Mem w' ((l, .loop (doneOf rc c)) :: (Dl ++ MX z)) ∧ Chg S w0 w' ∧ GX z w' ∧ IX c z ∧ (c = .ret ∨ ∃ id, c = .exit id))))
    (hdone : ∀ x, I A.length x → QM N Q .normal e ds' (Dl ++ MM A.length x) S w0 (GG A.length x))
    (hret : ∀ z, IX .ret z → QM N Q .ret e ds' (Dl ++ MX z) S w0 (GX z))
    (hexit : ∀ id z, IX (.exit id) z → QM N Q (.exit id) e ds' (Dl ++ MX z) S w0 (GX z)) :
    CallsIn (Wd r) 0 P gf args W (rangePost (Wd r) 0 P l Q a') := by
  have h2 : CallsIn Fence.wide 0 P gf args W _ := callsIn_wide.2 hcore
  have h3 : CallsIn (Wd r) 0 P gf args W _ := h2
  refine CallsIn.mono h3 ?_
  have fin : ∀ (w' : World) (rc' : Loop) (Mx : Mem0), Mem w' ((l, .loop rc') :: Mx) → Chg S w0 w' → ∀ o', wlk o' = true → Mem (w'.putObj l o') Mx ∧ Chg S w0 (w'.putObj l o') ∧ Bk l w' (w'.putObj l o') := fun w' rc' Mx hm hc o' ho => by
    have hl := hm.get (i := 0) rfl
    refine ⟨(hm.set (i := 0) rfl (World.putObj_heap_same (Array.getElem?_eq_some_iff.1 hl).1) (chg_put o')).tail, hc.step (chg_put _) (fun q hq hql => by subst hql; omega), Bk.put hl (Nat.le_refl _) rfl ho⟩
  rintro en w' ⟨v, rfl, h | h⟩
  · obtain ⟨x, hm, hc, hg, hI⟩ := h
    obtain ⟨p1, p2, p3⟩ := fin w' rc _ hm hc (.loop { rc with state := .exhausted }) rfl
    refine ⟨_, _, run_endLoop (hm.get (i := 0) rfl) (by rw [hst]; intro h; cases h), ?_⟩
    have := hdone x hI _ p1 p2 (hGG _ x _ _ hg p3) a' hf hd
    simp only [hpe] at this ⊢
    exact this
  · obtain ⟨c, z, hm, hc, hg, hI, hj⟩ := h
    obtain ⟨p1, p2, p3⟩ := fin w' _ _ hm hc (.loop { doneOf rc c with state := .exhausted }) rfl
    refine ⟨_, _, run_endLoop (hm.get (i := 0) rfl) (by intro h; cases h), ?_⟩
    rcases hj with rfl | ⟨id, rfl⟩
    · exact wpIn_ret (hret z hI _ p1 p2 (hGX z _ _ hg p3) a' hf hd)
    · exact wpIn_exit (hexit id z hI _ p1 p2 (hGX z _ _ hg p3) a' hf hd)

theorem run_rangeCall {a : Act} (hf : Fr N e a) (hg : ev e g = some (.func (.func gf) #[] lb)) (l : Nat) (W : World) :
    (resolve a.eval (rangeCall g l) 0).run P W = .ok { target := .fn (.func gf) lb, args := #[.func (.yield l) #[] #[]] } W := by
  have := hf.eval hg
  simp only [resolve, this]
  simp [go_sem, Act.eval]

theorem mm_cons {b : Nat} {o : Obj} {M M0 : Mem0} (h : wlk o = false) (k : ∀ p ∈ M, p ∈ M0 ∨ wlk p.2 = false) : ∀ p ∈ (b, o) :: M, p ∈ M0 ∨ wlk p.2 = false := fun p hp => by
  rcases List.mem_cons.1 hp with rfl | hp
  · exact .inr h
  · exact k p hp

/-- 'for .. := range g { .. }', outermost. -/
theorem wpM.range (hE : Enters P gf) (hg : ev e g = some (.func (.func gf) #[] lb)) (hseq : SeqC P gf lb A Rd fin)
    (MM : Nat → α → Mem0) (GG : Nat → α → World → Prop) (I : Nat → α → Prop) (MX : β → Mem0) (GX : β → World → Prop) (IX : Code → β → Prop) (x0 : α)
    (hM0 : MM 0 x0 = M) (hG0 : ∀ w, G w → GG 0 x0 w) (hI0 : I 0 x0) (hps : ps.all (fun p => Nat.blt p N) = true) (hA : ∀ (k : Nat) (av : Array Value), A[k]? = some av → av.size = ps.size)
    (hfin : fin ∨ ∀ x, ¬ I A.length x)
    (hrd : ∀ k x w, Mem w (MM k x) → Chg S w0 w → GG k x w → I k x → Rd w)
    (hGG : ∀ w, G w → ∀ k x, Gl w.heap.size (GG k x)) (hGX : ∀ w, G w → ∀ z, Gl w.heap.size (GX z))
    (hMM : ∀ k x, I k x → ∀ p ∈ MM k x, p ∈ MM 0 x0 ∨ wlk p.2 = false) (hMX : ∀ c z, IX c z → ∀ p ∈ MX z, p ∈ MM 0 x0 ∨ wlk p.2 = false)
    (hbody : ∀ k av x l D rc n W1, w0.heap.size ≤ D → w0.heap.size ≤ l → (∀ k x, Pl l rc (fun w => GG k x w ∧ KW n W1 w)) → rc.defers = D → A[k]? = some av → I k x →
      wpM P (some l) N assign (Exit.then (asK P l rc body (rdQ l rc [(D, .deferred (some []))] S w0 (KW n W1) (MM (k + 1)) (GG (k + 1)) (I (k + 1)) MX GX IX)) never)
      (parE (ps.toList.zip av.toList) e) [] ((l, .loop rc) :: ([(D, .deferred (some []))] ++ MM k x)) S w0 (fun w => GG k x w ∧ KW n W1 w))
    (hdone : ∀ x D, w0.heap.size ≤ D → I A.length x → QM N Q .normal e (D :: ds) ([(D, .deferred (some []))] ++ MM A.length x) S w0 (GG A.length x))
    (hret : ∀ z D, w0.heap.size ≤ D → IX .ret z → QM N Q .ret e (D :: ds) ([(D, .deferred (some []))] ++ MX z) S w0 (GX z))
    (hexit : ∀ id z D, w0.heap.size ≤ D → IX (.exit id) z → QM N Q (.exit id) e (D :: ds) ([(D, .deferred (some []))] ++ MX z) S w0 (GX z)) :
    wpM P none N (.rangeFunc g ps assign body) Q e ds M S w0 G := fun w hm hc hgw a hf hd => by
  refine wpIn_rangeFunc ?_
  intro fn _
  have hbk : Bk w.heap.size w ((w.alloc (.deferred (some []))).alloc (.loop (recOf fn a.tmps ps assign body w.heap.size))) := (Ext.bk (chg_alloc w _)).trans (Ext.bk (chg_alloc _ _))
  have hm1 : Mem ((w.alloc (.deferred (some []))).alloc (.loop (recOf fn a.tmps ps assign body w.heap.size))) ((w.heap.size + 1, .loop (recOf fn a.tmps ps assign body w.heap.size)) :: ([(w.heap.size, .deferred (some []))] ++ MM 0 x0)) := by
    rw [hM0]
    have := ((hm.alloc (.deferred (some []))).alloc (.loop (recOf fn a.tmps ps assign body w.heap.size)))
    rwa [World.size_alloc] at this
  generalize hW : (w.alloc (.deferred (some []))).alloc (.loop (recOf fn a.tmps ps assign body w.heap.size)) = W at *
  have hsz : W.heap.size = w.heap.size + 2 := by rw [← hW]; simp
  have h0 := hc.size
  have hcW : Chg S w0 W := hc.step hbk.chg (fun x hx hn => by omega)
  refine ⟨w.heap.size + 1, [mark w.heap.size], W, _, W, gf, #[.func (.yield (w.heap.size + 1)) #[] #[]] ++ lb, W, ?_, run_rangeCall hf hg _ _, fun _ _ => trivial, ?_, fun h => (by cases h), ?_⟩
  · rw [← hW]; exact run_enterLoop_outer fn a.tmps ps assign body
  · exact hE _ _
  · refine range_end (rc := recOf fn a.tmps ps assign body w.heap.size) (ds' := w.heap.size :: ds) (MM := MM) (GG := GG) (I := I) (MX := MX) (GX := GX) (IX := IX) rfl rfl (by omega) ⟨hf.1, hf.2⟩ (by unfold Dm at *; simp [hd, mark]) (fun k x w1 w2 g b => hGG w hgw k x w1 w2 g (b.mono (by omega))) (fun z w1 w2 g b => hGX w hgw z w1 w2 g (b.mono (by omega)))
      (range_core hf (l := w.heap.size + 1) (D := w.heap.size) (m := w.heap.size) (fn := fn) (Dl := [(w.heap.size, .deferred (some []))]) (W := W) (by omega) (by omega) (by omega)
      (fun p hp => by simp at hp; subst hp; simp only; omega) hseq MM GG I MX GX IX x0 hA hps hm1 hcW
      (hGG w hgw 0 x0 _ _ (hG0 w hgw) hbk) hI0 hfin hrd (hGG w hgw) (hGX w hgw)
      (fun k x hI p hp => (hMM k x hI p hp).imp (fun h => by rw [hM0] at h; have := hm.lt h; omega) id) (fun c z hI p hp => (hMX c z hI p hp).imp (fun h => by rw [hM0] at h; have := hm.lt h; omega) id)
      (fun k av x W1 hav hI => hbody k av x _ _ _ _ W1 h0 (by omega) (fun k x v hv hl => ⟨hGG w hgw k x _ _ hv.1 (Bk.put hl (by omega) rfl rfl), hv.2.put (by omega) _⟩) rfl hav hI))
      (fun x hI => hdone x _ h0 hI) (fun z hI => hret z _ h0 hI) (fun id z hI => hexit id z _ h0 hI)

end range

/-! ### More operations -/
section
variable {P : Program} {ty : TypeId} {e : Env} {t u : TypeId} {x y : Operand}
theorem guard_str (op : BinOp) (t : TypeId) (x y : Operand) (a b : ByteArray) (w : World) : (eqGuard op t x y (.string a) (.string b)).run P w = .ok () w := by unfold eqGuard; cases op <;> rfl
theorem ov_seql {a b : ByteArray} (hx : ev e x = some (.string a)) (hy : ev e y = some (.string b)) : OpP P (.binOp .eql t x y u) ty e (.bool (a.toList == b.toList)) := fun w ρ hρ _ _ _ _ => by
  simp [execOp, hρ x _ hx, hρ y _ hy, guard_str, binOp, Op.stringOp, Result.andThen]
theorem ov_sneq {a b : ByteArray} (hx : ev e x = some (.string a)) (hy : ev e y = some (.string b)) : OpP P (.binOp .neq t x y u) ty e (.bool (!(a.toList == b.toList))) := fun w ρ hρ _ _ _ _ => by
  simp [execOp, hρ x _ hx, hρ y _ hy, guard_str, binOp, Op.stringOp, Result.andThen]
theorem ov_idxE {k : IntKind} {a : Int} {ad : Option Addr} {b off n c s : Nat} {E : TypeId} (had : ad = some ⟨b, off, none⟩) (hU : P.underlying t = some (.slice E)) (hS : ∀ w, (sizeOf E).run P w = .ok s w) (ha : ev e x = some (.slice ad n c)) (hi : ev e y = some (.int k a)) (h : 0 ≤ a ∧ a < n) :
    OpP P (.indexAddr t x y) ty e (.pointer (some ⟨b, off + a.toNat * s, none⟩)) := by subst had; exact ov_idx hU hS ha hi h
def evp (e : Env) : List (Nat × Operand) → Option (List (Nat × Value))
  | [] => some []
  | (i, x) :: l => match ev e x, evp e l with | some v, some vs => some ((i, v) :: vs) | _, _ => none
theorem evp_map {ρ : Operand → Value} (hρ : ∀ x u, ev e x = some u → ρ x = u) : ∀ {l : List (Nat × Operand)} {vs : List (Nat × Value)}, evp e l = some vs → l.map (fun p => (p.1, ρ p.2)) = vs
  | [], vs, h => by simp only [evp, Option.some.injEq] at h; subst h; rfl
  | (i, x) :: l, vs, h => by
    simp only [evp] at h
    cases hx : ev e x with
    | none => rw [hx] at h; cases h
    | some v =>
      cases hl : evp e l with
      | none => rw [hx, hl] at h; cases h
      | some us =>
        rw [hx, hl] at h
        obtain rfl := Option.some.inj h
        simp [hρ x v hx, evp_map hρ hl]
theorem ov_build {l : List (Nat × Operand)} {vs : List (Nat × Value)} {cs : Array Value} (h : evp e l = some vs) (hb : P.built t vs = some cs) : OpP P (.build t l.toArray) ty e (.agg cs) := fun w ρ hρ _ _ _ _ => by
  have h1 := run_build (P := P) w t vs.toArray cs (by simpa using hb)
  have h2 : l.toArray.map (fun (i, x) => (i, ρ x)) = vs.toArray := by rw [List.map_toArray]; congr 1; exact evp_map hρ h
  simp only [execOp]
  rw [h2]
  simp [h1]
end

/-! ### '[]T{a, b, ..}' -/
theorem foldl_set (o : Nat) : ∀ (vs : List Value) (k : Nat) (acc : Array Value), (vs.zipIdx k).foldl (fun cs (p : Value × Nat) => cs.setIfInBounds (o + p.2) p.1) acc = setR acc (o + k) vs
  | [], k, acc => rfl
  | v :: vs, k, acc => by
    simp only [List.zipIdx_cons, List.foldl_cons, setR]
    exact foldl_set o vs (k + 1) _
theorem setR_mid : ∀ (vs : List Value) (pre old suf : List Value), old.length = vs.length → setR (pre ++ (old ++ suf)).toArray pre.length vs = (pre ++ (vs ++ suf)).toArray
  | [], pre, old, suf, h => by
    have : old = [] := List.eq_nil_of_length_eq_zero (by simpa using h)
    subst this; rfl
  | v :: vs, pre, [], suf, h => by simp at h
  | v :: vs, pre, o :: old, suf, h => by
    simp only [setR, List.setIfInBounds_toArray]
    rw [List.set_append_right _ _ (Nat.le_refl _), Nat.sub_self, List.cons_append, List.set_cons_zero]
    have := setR_mid vs (pre ++ [v]) old suf (by simpa using h)
    simpa using this
theorem fill_row {s : Nat} : ∀ (vs : List Value) (k : Nat) (pre old : List Value), vs.all (fun v => v.cells.size == s) = true → pre.length = k * s → old.length = vs.length * s →
    Instr.fill (fun i => some (i * s, s)) (pre ++ old).toArray ((vs.zipIdx k).map fun p => (p.2, p.1)) = some (pre ++ vs.flatMap (fun v => v.cells.toList)).toArray
  | [], k, pre, old, _, hp, ho => by
    have : old = [] := List.eq_nil_of_length_eq_zero (by simpa using ho)
    subst this; simp [Instr.fill]
  | v :: vs, k, pre, old, hv, hp, ho => by
    simp only [List.all_cons, Bool.and_eq_true, beq_iff_eq] at hv
    have hlen : old.length = (vs.length + 1) * s := by simpa using ho
    rw [Nat.succ_mul] at hlen
    have h4 : ¬ (v.cells.size ≠ s ∨ k * s + v.cells.size > (pre ++ old).toArray.size) := by simp [hv.1]; omega
    simp only [List.zipIdx_cons, List.map_cons, Instr.fill]
    have hb : (v.cells.size ≠ s || k * s + v.cells.size > (pre ++ old).toArray.size) = false := by
      rw [Bool.eq_false_iff]; intro h; simp only [Bool.or_eq_true, decide_eq_true_eq] at h; exact h4 h
    rw [hb]
    simp only [Bool.false_eq_true, if_false]
    have h5 : v.cells.zipIdx.foldl (fun cs (p : Value × Nat) => cs.setIfInBounds (k * s + p.2) p.1) (pre ++ old).toArray = (pre ++ (v.cells.toList ++ old.drop s)).toArray := by
      rw [← Array.foldl_toList, Array.toList_zipIdx, foldl_set]
      have := setR_mid v.cells.toList pre (old.take s) (old.drop s) (by simp [hv.1]; omega)
      rw [List.take_append_drop] at this
      rw [Nat.add_zero, ← hp]; exact this
    have h6 := fill_row vs (k + 1) (pre ++ v.cells.toList) (old.drop s) hv.2 (by simp [hv.1, hp]; rw [Nat.succ_mul]) (by simp; omega)
    simp only [List.append_assoc] at h6
    simp only [List.flatMap_cons]
    rw [← h6]
    congr 1
section
variable {P : Program} {r : Option Nat} {N : Nat} {Q : Exit → Act → World → Prop} {e : Env} {ds : List Nat} {M : Mem0} {S : Nat → Prop} {w0 : World} {G : World → Prop}
variable {ops : Array Oper} {l : List Oper} {ty : TypeId} {pos : String} {after : Array Edge} {d : Nat} {t : TypeId}
theorem LM.row [GS G] {E : TypeId} {s n : Nat} {z : Value} {vs : List Value} {l' : List (Nat × Operand)} (hU : P.underlying t = some (.slice E)) (hS : ∀ w, (sizeOf E).run P w = .ok s w) (hZ : ∀ w, (zeroValue E).run P w = .ok z w) (hn : vs.length = n) (hs : Nat.blt 0 (n * s) = true) (hs2 : Nat.blt (n * s) 1000 = true) (hd : Nat.blt d N = true)
    (hx : evp e l' = some (vs.zipIdx.map fun p => (p.2, p.1))) (hv : vs.all (fun v => v.cells.size == s) = true)
    (h : ∀ b, w0.heap.size ≤ b → LM P r N ops Q l ((d, .slice (some ⟨b, 0, none⟩) n n) :: e) ds ((b, .cells (vs.flatMap (fun v => v.cells.toList)).toArray E (0, 0)) :: M) S w0 G) : LM P r N ops Q (⟨some d, .buildSlice t n l'.toArray, ty, pos, after, none⟩ :: l) e ds M S w0 G := fun w hm hc hg => by
  have h0 : 0 < n * s := Nat.le_of_ble_eq_true hs
  have h1000 : n * s < 1000 := Nat.le_of_ble_eq_true hs2
  have hne : ¬ n * s = 0 := by omega
  have hne' : ¬ (n = 0 ∨ s = 0) := by intro h; rcases h with rfl | rfl <;> simp at hne
  have hbig : ¬ (16777216 < n * s) := by omega
  have hfill := fill_row (s := s) vs 0 [] ((Array.range (n * s)).map (z.cells[· % z.cells.size]!)).toList hv (by simp) (by simp [hn])
  simp only [List.nil_append, Array.toArray_toList] at hfill
  refine LE.val (w' := w.alloc (.cells (vs.flatMap (fun v => v.cells.toList)).toArray E)) (fun ρ hρ _ _ _ _ => ?_) (h w.heap.size hc.size _ (hm.alloc _) (hc.step (chg_alloc w _) (fun _ _ q => q.elim)) (GS.ext w _ hg (chg_alloc w _))) rfl hd
  have hp := evp_map hρ hx
  have h2 : (l'.toArray.map (fun (p : Nat × Operand) => (p.1, ρ p.2))) = (vs.zipIdx.map fun p => (p.2, p.1)).toArray := by rw [List.map_toArray, hp]
  simp only [execOp]
  rw [h2]
  simp only [Instr.buildSlice]
  simp [run_underlying hU, hS, hZ, if_neg hne, hbig, hfill, newRow, Result.andThen]
end

/-! ### A slice that is read -/
def Sr {α : Type} (f : α → List Value) (s : Nat) (xs : List α) (v : Value) (w : World) : Prop :=
  ∃ ad cap, v = .slice ad xs.length cap ∧ xs.length ≤ cap ∧ (0 < xs.length → ∃ b off cs E fz, ad = some ⟨b, off, none⟩ ∧ w.heap[b]? = some (.cells cs E fz) ∧ ∀ i a, xs[i]? = some a → ∀ j, j < s → cs[off + (i * s + j)]? = (f a)[j]?)
theorem Sr.ext {α : Type} {f : α → List Value} {s : Nat} {xs : List α} {v : Value} {w w' : World} (h : Sr f s xs v w) (k : Ext w w') : Sr f s xs v w' := by
  obtain ⟨ad, cap, h1, h2, h3⟩ := h
  refine ⟨ad, cap, h1, h2, fun hx => ?_⟩
  obtain ⟨b, off, cs, E, fz, h4, h5, h6⟩ := h3 hx
  exact ⟨b, off, cs, E, fz, h4, k.get h5, h6⟩
theorem Sr.keep {α : Type} {f : α → List Value} {s : Nat} {xs : List α} {v : Value} {S : Nat → Prop} {w w' : World} (h : Sr f s xs v w) (k : Chg S w w') (hS : ∀ b off n c, v = .slice (some ⟨b, off, none⟩) n c → ¬ S b) : Sr f s xs v w' := by
  obtain ⟨ad, cap, h1, h2, h3⟩ := h
  refine ⟨ad, cap, h1, h2, fun hx => ?_⟩
  obtain ⟨b, off, cs, E, fz, h4, h5, h6⟩ := h3 hx
  exact ⟨b, off, cs, E, fz, h4, k.get h5 (hS b off _ _ (by rw [h1, h4])), h6⟩
theorem Sr.bk {α : Type} {f : α → List Value} {s n : Nat} {xs : List α} {v : Value} {w w' : World} (h : Sr f s xs v w) (k : Bk n w w') : Sr f s xs v w' := by
  obtain ⟨ad, cap, h1, h2, h3⟩ := h
  refine ⟨ad, cap, h1, h2, fun hx => ?_⟩
  obtain ⟨b, off, cs, E, fz, h4, h5, h6⟩ := h3 hx
  exact ⟨b, off, cs, E, fz, h4, k.same b _ h5 (.inr rfl), h6⟩
theorem Sr.take {α : Type} {f : α → List Value} {s : Nat} {xs : List α} {ad : Option Addr} {n cap : Nat} {w : World} (h : Sr f s xs (.slice ad n cap) w) {k : Nat} (hk : k ≤ xs.length) : Sr f s (xs.take k) (.slice ad k cap) w := by
  obtain ⟨ad', cap', h1, h2, h3⟩ := h
  simp only [Value.slice.injEq] at h1
  obtain ⟨rfl, rfl, rfl⟩ := h1
  have hl : (xs.take k).length = k := by simp; omega
  refine ⟨ad, cap, by rw [hl], by omega, fun hx => ?_⟩
  obtain ⟨b, off, cs, E, fz, h4, h5, h6⟩ := h3 (by omega)
  refine ⟨b, off, cs, E, fz, h4, h5, fun i a ha j hj => h6 i a ?_ j hj⟩
  rw [List.getElem?_take] at ha
  split at ha
  · exact ha
  · cases ha
theorem Sl.sr {α : Type} {f : α → List Value} {E s n0 : Nat} {xs : List α} {v : Value} {m : Mem0} {w : World} (h : Sl f E s n0 xs v m) (hf : ∀ a, (f a).length = s) (hm : ∀ p ∈ m, w.heap[p.1]? = some p.2) : Sr f s xs v w := by
  rcases h with ⟨rfl, _, rfl⟩ | ⟨b, cap, junk, _, rfl, rfl, h1, _, _⟩
  · exact ⟨none, 0, rfl, Nat.le_refl _, fun h => by simp at h⟩
  · refine ⟨_, cap, rfl, h1, fun _ => ⟨b, 0, _, _, _, rfl, hm _ (List.mem_singleton.2 rfl), fun i a ha j hj => ?_⟩⟩
    rw [Nat.zero_add]; exact arr_get hf ha hj
theorem Sr.open {α : Type} {f : α → List Value} {s : Nat} {xs : List α} {ad : Option Addr} {n cap : Nat} {w : World} (h : Sr f s xs (.slice ad n cap) w) : n = xs.length ∧ xs.length ≤ cap ∧
    (0 < xs.length → ∃ b off cs E fz, ad = some ⟨b, off, none⟩ ∧ w.heap[b]? = some (.cells cs E fz) ∧ ∀ i a, xs[i]? = some a → ∀ j, j < s → cs[off + (i * s + j)]? = (f a)[j]?) := by
  obtain ⟨_, _, he, h2, h3⟩ := h
  simp only [Value.slice.injEq] at he
  obtain ⟨rfl, rfl, rfl⟩ := he
  exact ⟨rfl, h2, h3⟩
theorem Sr.nil {α : Type} (f : α → List Value) (s : Nat) (w : World) : Sr f s [] (.slice none 0 0) w := ⟨none, 0, rfl, Nat.le_refl _, fun h => by simp at h⟩
section
variable {P : Program} {N : Nat} {e : Env} {M : Mem0} {S : Nat → Prop} {w0 : World} {G : World → Prop} {t ty : TypeId} {x : Operand}
/-- A cell of an element. -/
theorem om_sr {α : Type} {f : α → List Value} {s : Nat} {xs : List α} {b off i j k : Nat} {cs : Array Value} {E : TypeId} {fz : Nat × Nat} {a : α} {v : Value} (hT : ∀ w, (isAgg t).run P w = .ok false w) (ha : ev e x = some (.pointer (some ⟨b, k, none⟩)))
    (hb : w0.heap[b]? = some (.cells cs E fz)) (hr : ∀ i a, xs[i]? = some a → ∀ j, j < s → cs[off + (i * s + j)]? = (f a)[j]?) (hi : xs[i]? = some a) (hj : j < s) (hk : k = off + (i * s + j)) (hv : (f a)[j]? = some v) (hS : ¬ S b) : ∀ w, Mem w M → Chg S w0 w → G w → OpV P (.load t x) ty e w v w := fun w _ hc _ ρ hρ _ _ _ _ => by
  have h1 := hr i a hi j hj
  rw [← hk, hv] at h1
  have h := run_load_cell (P := P) (hc.get hb hS) h1
  simp [execOp, Instr.loadAt, Instr.sureAddr, hρ x _ ha, loadVar, hT, h, Result.andThen]
/-- An element. -/
theorem om_srA {α : Type} {f : α → List Value} {s : Nat} {xs : List α} {b off i k : Nat} {cs : Array Value} {E : TypeId} {fz : Nat × Nat} {a : α} (hT : ∀ w, (isAgg t).run P w = .ok true w) (hZ : ∀ w, (sizeOf t).run P w = .ok s w) (ha : ev e x = some (.pointer (some ⟨b, k, none⟩)))
    (hb : w0.heap[b]? = some (.cells cs E fz)) (hr : ∀ i a, xs[i]? = some a → ∀ j, j < s → cs[off + (i * s + j)]? = (f a)[j]?) (hi : xs[i]? = some a) (hk : k = off + i * s) (hl : (f a).length = s) (hS : ¬ S b) : ∀ w, Mem w M → Chg S w0 w → G w → OpV P (.load t x) ty e w (.agg (f a).toArray) w := fun w _ hc _ ρ hρ _ _ _ _ => by
  have h := run_loadVar_agg (P := P) (off := k) (vs := f a) hT hZ (hc.get hb hS) hl (fun j v hj => by
    have hlt : j < s := by rw [← hl]; exact (List.getElem?_eq_some_iff.1 hj).1
    have := hr i a hi j hlt
    rw [hk, Nat.add_assoc, this]; exact hj)
  simp [execOp, Instr.loadAt, Instr.sureAddr, hρ x _ ha, h, Result.andThen]
end

/-! ### An iterator's own code -/
section
variable {P : Program} {r : Option Nat} {N : Nat} {Q : Exit → Act → World → Prop} {e : Env} {ds : List Nat} {M : Mem0} {S : Nat → Prop} {w0 : World} {G : World → Prop}
variable {ops : Array Oper} {rest : List Oper} {ty : TypeId} {pos : String} {after : Array Edge} {d : Nat}
theorem LM.yield {n l : Nat} {g : Operand} {la : List Operand} {args : List Value} {ats : Array TypeId} {G1 G2 : World → Prop} (hg : ev e g = some (.func (.yield l) #[] #[])) (ha : evs e la = some args)
    (hy : ∀ w, G w → YR P l args.toArray w (fun b w2 => ((b = true ∧ G1 w2) ∨ (b = false ∧ G2 w2)) ∧ KW n w w2)) (hS : ∀ b, S b)
    (ht : LM P r N ops Q rest ((d, .bool true) :: e) ds [] S w0 G1) (hf : LM P r N ops Q rest ((d, .bool false) :: e) ds [] S w0 G2) (hd : Nat.blt d N = true := by rfl) :
    LM P r N ops Q (⟨some d, .call { callee := .value g, args := la.toArray, argTypes := ats }, ty, pos, after, none⟩ :: rest) e ds [] S w0 G := fun w hm hc hgw a hfr hdm => by
  refine wpListIn_plain rfl fun K hK => ?_
  refine ⟨fun _ _ => trivial, ?_⟩
  obtain ⟨fn, tmps, assign, body, h1, h2⟩ := hy w hgw
  have hrun : (execOp a.eval ⟨some d, .call { callee := .value g, args := la.toArray, argTypes := ats }, ty, pos, after, none⟩).run P w = .ok (.round l fn tmps assign body) w := by
    simp [execOp, resolve, hfr.eval hg, Deferred.ofValue, invoke, evs_map (ρ := a.eval) (fun x u hx => hfr.eval hx) ha]
    exact h1
  rw [semAt_nd rfl, hrun]
  refine ⟨fun h => (by cases h), ?_⟩
  have h3 : RoundIn (Wd r) 0 P l fn tmps assign body w (fun en w' => ∃ b, en = .returned (.bool b) ∧ ((b = true ∧ G1 w') ∨ (b = false ∧ G2 w')) ∧ KW n w w') := h2
  refine RoundIn.mono h3 ?_
  rintro en w' ⟨b, rfl, hb, hkw⟩
  have hc' : Chg S w0 w' := ⟨hkw.os.trans hc.os, hkw.tape.trans hc.tape, hkw.output.trans hc.output, Nat.le_trans hc.size hkw.size, fun k _ hn => absurd (hS k) hn⟩
  rcases hb with ⟨rfl, hb⟩ | ⟨rfl, hb⟩
  · exact hK _ _ (ht w' (Mem.nil _) hc' hb _ (hfr.put hd _) hdm)
  · exact hK _ _ (hf w' (Mem.nil _) hc' hb _ (hfr.put hd _) hdm)
end

/-! ### What the ghost knows -/
section
variable {P : Program} {r : Option Nat} {N : Nat} {Q : Exit → Act → World → Prop} {e : Env} {ds : List Nat} {M : Mem0} {S : Nat → Prop} {w0 : World} {G : World → Prop} {ops : Array Oper} {l : List Oper}
theorem LM.know {p : Prop} (h : ∀ w, Mem w M → Chg S w0 w → G w → p) (k : p → LM P r N ops Q l e ds M S w0 G) : LM P r N ops Q l e ds M S w0 G := fun w hm hc hg => k (h w hm hc hg) w hm hc hg
theorem QM.know {x : Exit} {p : Prop} (h : ∀ w, Mem w M → Chg S w0 w → G w → p) (k : p → QM N Q x e ds M S w0 G) : QM N Q x e ds M S w0 G := fun w hm hc hg => k (h w hm hc hg) w hm hc hg
theorem wpM.know {c : Code} {p : Prop} (h : ∀ w, Mem w M → Chg S w0 w → G w → p) (k : p → wpM P r N c Q e ds M S w0 G) : wpM P r N c Q e ds M S w0 G := fun w hm hc hg => k (h w hm hc hg) w hm hc hg
end

/-! ### A function is left that has marks -/
def dM (ds : List Nat) : Mem0 := ds.map (fun D => (D, .deferred (some [])))
theorem shut_mem {S : Nat → Prop} {w0 : World} : ∀ (ds : List Nat) (w : World) (M1 : Mem0), Mem w (dM ds ++ M1) → Chg S w0 w → (∀ D ∈ ds, w0.heap.size ≤ D) → Marked ds w ∧ Mem (shut ds w) M1 ∧ Chg S w0 (shut ds w)
  | [], w, M1, hm, hc, _ => ⟨trivial, hm, hc⟩
  | D :: ds, w, M1, hm, hc, hD => by
    have hm' : Mem w ((D, .deferred (some [])) :: (dM ds ++ M1)) := hm
    have h1 := hm'.get (i := 0) rfl
    have h2 := (hm'.set (i := 0) rfl (World.putObj_heap_same (Array.getElem?_eq_some_iff.1 h1).1) (chg_put (.deferred none))).tail
    obtain ⟨h3, h4, h5⟩ := shut_mem ds _ M1 h2 (hc.step (chg_put _) (fun x hx hxD => by subst hxD; have := hD x (List.mem_cons_self ..); omega)) (fun D' h => hD D' (List.mem_cons_of_mem _ h))
    exact ⟨⟨h1, h3⟩, h4, h5⟩
section
variable {P : Program} {fn : Func} {N : Nat} {e : Env} {ds : List Nat} {M1 : Mem0} {S : Nat → Prop} {w0 : World} {G : World → Prop} {R : Value → World → Prop} {vs : List Value}
end

/-! ### A call that changes some blocks -/
def Upd (m : Mem0) (T : Value → Mem0 → Prop) (w : World) (u : Value) (w' : World) : Prop :=
  Chg (fun b => ∃ q ∈ m, q.1 = b) w w' ∧ ∃ m', T u m' ∧ Mem w' m' ∧ ∀ p ∈ m', w.heap.size ≤ p.1 ∨ ∃ q ∈ m, q.1 = p.1
section
variable {P : Program} {r : Option Nat} {N : Nat} {Q : Exit → Act → World → Prop} {e : Env} {ds : List Nat} {M : Mem0} {S : Nat → Prop} {w0 : World} {G : World → Prop}
variable {ops : Array Oper} {l : List Oper} {op : Op} {ty : TypeId} {pos : String} {after : Array Edge} {d : Nat}
theorem upd_step [GT G] {m M2 : Mem0} {T : Value → Mem0 → Prop} {w w' : World} {u : Value} (hm : Mem w (m ++ M2)) (hwk : ∀ p ∈ m, wlk p.2 = false) (hS : ∀ p ∈ m, p.1 < w0.heap.size → S p.1) (hc : Chg S w0 w) (hg : G w) (hu : Upd m T w u w') :
    ∃ m', T u m' ∧ (∀ p ∈ m', w0.heap.size ≤ p.1 ∨ ∃ q ∈ m, q.1 = p.1) ∧ Mem w' (m' ++ M2) ∧ Chg S w0 w' ∧ G w' := by
  obtain ⟨he, m', hT, hm', hn⟩ := hu
  have hnd := hm.1
  rw [List.map_append, List.nodup_append] at hnd
  refine ⟨m', hT, fun p hp => (hn p hp).imp (fun h => Nat.le_trans hc.size h) id, ⟨?_, ?_⟩, hc.step he (fun x hx ⟨q, hq, hqx⟩ => by subst hqx; exact hS q hq hx), GT.chg _ w w' hg he (fun b o hb ho => he.get hb ?_)⟩
  · rw [List.map_append]
    refine List.nodup_append.2 ⟨hm'.1, hnd.2.1, ?_⟩
    intro x hx y hy hxy
    obtain ⟨p, hp, rfl⟩ := List.mem_map.1 hx
    obtain ⟨q, hq, rfl⟩ := List.mem_map.1 hy
    rcases hn p hp with h | ⟨z, hz, hzp⟩
    · have := hm.lt (p := q) (List.mem_append_right _ hq); omega
    · exact hnd.2.2 z.1 (List.mem_map_of_mem hz) q.1 (List.mem_map_of_mem hq) (hzp.trans hxy)
  · intro p hp
    rcases List.mem_append.1 hp with hp | hp
    · exact hm'.2 p hp
    · refine he.get (hm.2 p (List.mem_append_right _ hp)) ?_
      rintro ⟨q, hq, hqp⟩
      exact hnd.2.2 q.1 (List.mem_map_of_mem hq) p.1 (List.mem_map_of_mem hp) hqp
  · rintro ⟨q, hq, hqb⟩
    have h1 := hm.2 q (List.mem_append_left _ hq)
    rw [hqb, hb] at h1; cases h1
    rw [hwk q hq] at ho; cases ho
theorem LM.callU [GT G] {f : FuncId} {args : Array Value} {m M2 : Mem0} {T : Value → Mem0 → Prop} (hM : ∀ w, Mem w M → Mem w (m ++ M2)) (hwk : ∀ p ∈ m, wlk p.2 = false) (hS : ∀ p ∈ m, p.1 < w0.heap.size → S p.1) (hc : ∀ w, OpC P op ty e w f args)
    (h : ∀ w, Mem w (m ++ M2) → Chg S w0 w → G w → Ret P f args w (Upd m T w))
    (hk : ∀ u m', T u m' → (∀ p ∈ m', w0.heap.size ≤ p.1 ∨ ∃ q ∈ m, q.1 = p.1) → LM P r N ops Q l ((d, u) :: e) ds (m' ++ M2) S w0 G) (hnd : nd op = true := by rfl) (hd : Nat.blt d N = true := by rfl) :
    LM P r N ops Q (⟨some d, op, ty, pos, after, none⟩ :: l) e ds M S w0 G :=
  .call hc (fun w hm hcg hg => h w (hM w hm) hcg hg) (fun w u w' hm hcg hg hu => by
    obtain ⟨m', hT, h1, h2, h3, h4⟩ := upd_step (hM w hm) hwk hS hcg hg hu
    exact hk u m' hT h1 w' h2 h3 h4) hnd hd
end

/-- An iterator's contract out of its body. -/
theorem SeqC.enter {P : Program} {f : FuncId} {fn : Func} {c : Code} {lb : List Value} {A : List (Array Value)} {Rd : World → Prop} {fin : Prop}
    (hf : P.funcs[f]? = some fn) (hb : fn.body = some c) {N : Nat} (hN : fn.ntmps = N) (hl : Nat.ble (lb.length + 1) N = true)
    (h : ∀ (l n : Nat) (J : Nat → World → Prop) (Jx : World → Prop) (w0 : World), (fin ∨ ∀ w, ¬ J A.length w) → (∀ k w, J k w → Rd w) → (∀ k, GS (J k)) → GS Jx →
      (∀ k a w, A[k]? = some a → J k w → YR P l a w (fun b w2 => ((b = true ∧ J (k + 1) w2) ∨ (b = false ∧ Jx w2)) ∧ KW n w w2)) →
      wpM P none N c (fnPost P fn (fun _ w' => J A.length w' ∨ Jx w')) (args0 0 (.func (.yield l) #[] #[] :: lb)) [] [] (fun _ => True) w0 (J 0)) : SeqC P f lb.toArray A Rd fin := fun l J Jx W hfin hJr hJb hJxb hy h0 => by
  have h1 : (#[Value.func (.yield l) #[] #[]] ++ lb.toArray) = (Value.func (.yield l) #[] #[] :: lb).toArray := by simp
  rw [h1]
  refine Ret.enterG hf hb hN (by simpa using hl) [] (fun _ => True) (J 0) (Mem.nil W) h0 ?_
  exact h l W.heap.size J Jx W hfin hJr (fun k => ⟨fun w w' hj he => hJb k w w' hj (Ext.bk he)⟩) ⟨fun w w' hj he => hJxb w w' hj (Ext.bk he)⟩ hy
end Go.Eng
namespace Go.Eng
open Go Go.RowKit Go.ChangeShapes Go.WideShapes

section
variable {H : Type} {enc : TypeId × Value → H} {P : Program} {w : World} {base : Nat} {sp : Nat → Bool} {held : Bool} {t : TypeId} {fuel : Nat} {cs : List Value} {x : DataW H × List MemPlace}

theorem mapM_each {α β : Type} (f : α → Option β) : ∀ (l : List α) (ys : List β), l.mapM f = some ys → ∀ a ∈ l, ∃ y, f a = some y
  | [], _, _, a, h => by cases h
  | b :: l, ys, h, a, ha => by
    rw [List.mapM_cons] at h
    simp only [bind, Option.bind_eq_some_iff, pure, Option.some.injEq] at h
    obtain ⟨y, hy, zs, hz, _⟩ := h
    rcases List.mem_cons.1 ha with rfl | ha
    · exact ⟨y, hy⟩
    · exact mapM_each f l zs hz a ha

theorem trod_fields {fs : Array Field} (ht : P.underlying t = some (.struct fs)) (h : DataW.trod enc P w base sp held fuel t cs = some x) :
    cs.length = P.cellsOf t ∧ ∀ f ∈ fs.toList, ∃ n y, DataW.trod enc P w base sp held n f.type ((cs.drop f.offset).take (P.cellsOf f.type)) = some y := by
  cases fuel with
  | zero => simp [DataW.trod] at h
  | succ n =>
    rw [DataW.trod_step] at h
    unfold DataW.trodStep at h
    simp only [ht] at h
    split at h
    · rename_i hl
      simp only [Option.map_eq_some_iff] at h
      obtain ⟨ys, hy, _⟩ := h
      exact ⟨hl, fun f hf => ⟨n, mapM_each _ _ _ hy f hf⟩⟩
    · cases h
/-- What is read at a type is one of these. -/
def Rdb (P : Program) (t : TypeId) {α : Type} (f : α → List Value) (ok : α → Prop) : Prop :=
  ∀ {H : Type} {enc : TypeId × Value → H} {w : World} {base : Nat} {sp : Nat → Bool} {held : Bool} {fuel : Nat} {cs : List Value} {x : DataW H × List MemPlace}, DataW.trod enc P w base sp held fuel t cs = some x → ∃ a, cs = f a ∧ ok a

theorem rdb_I (ht : P.underlying t = some (.int .i64)) : Rdb P t fI (fun n => -9223372036854775808 ≤ n ∧ n ≤ 9223372036854775807) := fun h => by
  obtain ⟨n, h1, _, h2⟩ := DataW.trod_int ht h; exact ⟨n, h1, bounds_i64 h2⟩
def fU (x : BitVec 64) : List Value := [U x]
theorem bv_of {n : Int} (h : 0 ≤ n ∧ n ≤ 18446744073709551615) : ∃ x : BitVec 64, n = (x.toNat : Int) := ⟨BitVec.ofInt 64 n, by rw [BitVec.toNat_ofInt]; simp; omega⟩
/-- A slice. -/
theorem open_sl {α : Type} {f : α → List Value} {ok : α → Prop} {e : TypeId} {s : Nat} (ht : P.underlying t = some (.slice e)) (he : Rdb P e f ok) (hs : P.cellsOf e = s) (hs0 : 0 < s) (hf : ∀ a, (f a).length = s)
    {ad : Option Addr} {len cap : Nat} {d : DataW H} {ps : List MemPlace} (h : DataW.Trod enc P w base sp held t (.slice ad len cap) d ps) :
    ∃ xs : List α, len = xs.length ∧ Sr f s xs (.slice ad xs.length cap) w ∧ (∀ a ∈ xs, ok a) ∧ xs.length ≤ maxLen := by
  obtain ⟨fuel, h⟩ := h
  rcases DataW.trod_slice ht h with ⟨h0, _⟩ | ⟨a, l, c, elems, rest, n, _, h0, _, _, hlc, hcm, hel, hE, _, _⟩
  · simp [Value.cells] at h0
    obtain ⟨rfl, rfl, rfl⟩ := h0
    exact ⟨[], rfl, .nil _ _ _, (fun a ha => absurd ha (by simp)), Nat.zero_le _⟩
  · simp [Value.cells] at h0
    obtain ⟨rfl, rfl, rfl⟩ := h0
    have each : ∀ i, i < len → ∃ b, ok b ∧ ∀ j, j < s → w.cell? (a.add (i * s + j)) = (f b)[j]? := fun i hi => by
      have h1 := hE i hi
      rw [hs] at h1
      obtain ⟨y, hy⟩ : ∃ y, elems[i]? = some y := ⟨_, List.getElem?_eq_getElem (by omega)⟩
      rw [hy, Option.bind_eq_some_iff] at h1
      obtain ⟨cs, hcs, htr⟩ := h1
      obtain ⟨b, rfl, hb⟩ := he htr
      refine ⟨b, hb, fun j hj => ?_⟩
      have := (World.cells?_some hcs).2.2 j hj
      rw [← this, Addr.add_add]
    obtain ⟨xs, hxl, hx⟩ : ∃ xs : List α, xs.length = len ∧ ∀ i b, xs[i]? = some b → ok b ∧ ∀ j, j < s → w.cell? (a.add (i * s + j)) = (f b)[j]? := by
      clear hE hel
      have : ∀ m, m ≤ len → ∃ xs : List α, xs.length = m ∧ ∀ i b, xs[i]? = some b → ok b ∧ ∀ j, j < s → w.cell? (a.add (i * s + j)) = (f b)[j]? := by
        intro m
        induction m with
        | zero => intro _; exact ⟨[], rfl, fun i b h => by simp at h⟩
        | succ m ih =>
          intro hm
          obtain ⟨xs, h1, h2⟩ := ih (by omega)
          obtain ⟨b, hb⟩ := each m (by omega)
          refine ⟨xs ++ [b], by simp [h1], fun i c hc => ?_⟩
          by_cases hi : i < m
          · rw [List.getElem?_append_left (by omega)] at hc; exact h2 i c hc
          · have hlt := (List.getElem?_eq_some_iff.1 hc).1
            simp [h1] at hlt
            have : i = m := by omega
            subst this
            rw [List.getElem?_append_right (by omega), h1, Nat.sub_self] at hc
            simp at hc; subst hc; exact hb
      exact this len (Nat.le_refl _)
    subst hxl
    refine ⟨xs, rfl, ⟨_, _, rfl, hlc, fun h0 => ?_⟩, fun b hb => ?_, by omega⟩
    · obtain ⟨b0, hb0⟩ : ∃ b, xs[0]? = some b := ⟨_, List.getElem?_eq_getElem h0⟩
      have h1 := (hx 0 b0 hb0).2 0 hs0
      have hfb : (f b0)[0]? = some ((f b0)[0]'(by rw [hf]; exact hs0)) := List.getElem?_eq_getElem _
      rw [hfb] at h1
      have hsp := World.cell?_spot h1
      obtain ⟨b, off, spot⟩ := a
      have : spot = none := by simpa [Addr.add] using hsp
      subst this
      have h2 := h1
      rw [add_off] at h2
      unfold World.cell? at h2
      simp only at h2
      split at h2
      · rename_i c E fz hb
        refine ⟨b, off, c, E, fz, rfl, hb, fun i a ha j hj => ?_⟩
        have h3 := (hx i a ha).2 j hj
        rw [add_off] at h3
        unfold World.cell? at h3
        simp only [hb] at h3
        rw [← h3]; rfl
      · cases h2
    · obtain ⟨i, hi⟩ := List.getElem?_of_mem hb
      exact (hx i b hi).1

end

/-- What is read at a type, in a world, is one of these. -/
def RdW (P : Program) (w : World) (t : TypeId) {α : Type} (f : α → List Value) (ok : α → Prop) : Prop :=
  ∀ {H : Type} {enc : TypeId × Value → H} {base : Nat} {sp : Nat → Bool} {held : Bool} {fuel : Nat} {cs : List Value} {x : DataW H × List MemPlace}, DataW.trod enc P w base sp held fuel t cs = some x → ∃ a, cs = f a ∧ ok a
theorem Rdb.at {P : Program} {t : TypeId} {α : Type} {f : α → List Value} {ok : α → Prop} (h : Rdb P t f ok) (w : World) : RdW P w t f ok := fun k => h k
section
variable {H : Type} {enc : TypeId × Value → H} {P : Program} {w : World} {base : Nat} {sp : Nat → Bool} {held : Bool} {t : TypeId} {fuel : Nat} {cs : List Value} {x : DataW H × List MemPlace}
theorem open_slW {α : Type} {f : α → List Value} {ok : α → Prop} {e : TypeId} {s : Nat} (ht : P.underlying t = some (.slice e)) (he : RdW P w e f ok) (hs : P.cellsOf e = s) (hs0 : 0 < s) (hf : ∀ a, (f a).length = s)
    {ad : Option Addr} {len cap : Nat} {d : DataW H} {ps : List MemPlace} (h : DataW.Trod enc P w base sp held t (.slice ad len cap) d ps) :
    ∃ xs : List α, len = xs.length ∧ Sr f s xs (.slice ad xs.length cap) w ∧ (∀ a ∈ xs, ok a) ∧ xs.length ≤ maxLen := by
  obtain ⟨fuel, h⟩ := h
  rcases DataW.trod_slice ht h with ⟨h0, _⟩ | ⟨a, l, c, elems, rest, n, _, h0, _, _, hlc, hcm, hel, hE, _, _⟩
  · simp [Value.cells] at h0
    obtain ⟨rfl, rfl, rfl⟩ := h0
    exact ⟨[], rfl, .nil _ _ _, (fun a ha => absurd ha (by simp)), Nat.zero_le _⟩
  · simp [Value.cells] at h0
    obtain ⟨rfl, rfl, rfl⟩ := h0
    have each : ∀ i, i < len → ∃ b, ok b ∧ ∀ j, j < s → w.cell? (a.add (i * s + j)) = (f b)[j]? := fun i hi => by
      have h1 := hE i hi
      rw [hs] at h1
      obtain ⟨y, hy⟩ : ∃ y, elems[i]? = some y := ⟨_, List.getElem?_eq_getElem (by omega)⟩
      rw [hy, Option.bind_eq_some_iff] at h1
      obtain ⟨cs, hcs, htr⟩ := h1
      obtain ⟨b, rfl, hb⟩ := he htr
      refine ⟨b, hb, fun j hj => ?_⟩
      have := (World.cells?_some hcs).2.2 j hj
      rw [← this, Addr.add_add]
    obtain ⟨xs, hxl, hx⟩ : ∃ xs : List α, xs.length = len ∧ ∀ i b, xs[i]? = some b → ok b ∧ ∀ j, j < s → w.cell? (a.add (i * s + j)) = (f b)[j]? := by
      clear hE hel
      have : ∀ m, m ≤ len → ∃ xs : List α, xs.length = m ∧ ∀ i b, xs[i]? = some b → ok b ∧ ∀ j, j < s → w.cell? (a.add (i * s + j)) = (f b)[j]? := by
        intro m
        induction m with
        | zero => intro _; exact ⟨[], rfl, fun i b h => by simp at h⟩
        | succ m ih =>
          intro hm
          obtain ⟨xs, h1, h2⟩ := ih (by omega)
          obtain ⟨b, hb⟩ := each m (by omega)
          refine ⟨xs ++ [b], by simp [h1], fun i c hc => ?_⟩
          by_cases hi : i < m
          · rw [List.getElem?_append_left (by omega)] at hc; exact h2 i c hc
          · have hlt := (List.getElem?_eq_some_iff.1 hc).1
            simp [h1] at hlt
            have : i = m := by omega
            subst this
            rw [List.getElem?_append_right (by omega), h1, Nat.sub_self] at hc
            simp at hc; subst hc; exact hb
      exact this len (Nat.le_refl _)
    subst hxl
    refine ⟨xs, rfl, ⟨_, _, rfl, hlc, fun h0 => ?_⟩, fun b hb => ?_, by omega⟩
    · obtain ⟨b0, hb0⟩ : ∃ b, xs[0]? = some b := ⟨_, List.getElem?_eq_getElem h0⟩
      have h1 := (hx 0 b0 hb0).2 0 hs0
      have hfb : (f b0)[0]? = some ((f b0)[0]'(by rw [hf]; exact hs0)) := List.getElem?_eq_getElem _
      rw [hfb] at h1
      have hsp := World.cell?_spot h1
      obtain ⟨b, off, spot⟩ := a
      have : spot = none := by simpa [Addr.add] using hsp
      subst this
      have h2 := h1
      rw [add_off] at h2
      unfold World.cell? at h2
      simp only at h2
      split at h2
      · rename_i c E fz hb
        refine ⟨b, off, c, E, fz, rfl, hb, fun i a ha j hj => ?_⟩
        have h3 := (hx i a ha).2 j hj
        rw [add_off] at h3
        unfold World.cell? at h3
        simp only [hb] at h3
        rw [← h3]; rfl
      · cases h2
    · obtain ⟨i, hi⟩ := List.getElem?_of_mem hb
      exact (hx i b hi).1
/-- A slice as one cell. -/
theorem rdW_sl {α : Type} {f : α → List Value} {ok : α → Prop} {e : TypeId} {s : Nat} (ht : P.underlying t = some (.slice e)) (he : RdW P w e f ok) (hs : P.cellsOf e = s) (hs0 : 0 < s) (hf : ∀ a, (f a).length = s)
    (h : DataW.trod enc P w base sp held fuel t cs = some x) : ∃ (xs : List α) (ad : Option Addr) (cap : Nat), cs = [.slice ad xs.length cap] ∧ Sr f s xs (.slice ad xs.length cap) w ∧ (∀ a ∈ xs, ok a) ∧ xs.length ≤ maxLen := by
  obtain ⟨ad, len, cap, rfl⟩ : ∃ ad len cap, cs = [.slice ad len cap] := by
    rcases DataW.trod_slice ht h with ⟨h0, _⟩ | ⟨a, l, c, elems, rest, n, _, h0, _⟩
    · exact ⟨_, _, _, h0⟩
    · exact ⟨_, _, _, h0⟩
  obtain ⟨d, p⟩ := x
  obtain ⟨xs, rfl, h1, h2, h3⟩ := open_slW (H := H) (enc := enc) (ad := ad) (len := len) (cap := cap) (d := d) (ps := p) ht he hs hs0 hf ⟨fuel, h⟩
  exact ⟨xs, ad, cap, rfl, h1, h2, h3⟩
theorem open_aggW {α : Type} {f : α → List Value} {ok : α → Prop} {r : Reach} {b0 : Nat} {v : Value} {d : DataW H} {ps : List MemPlace} (he : RdW P w t f ok) (hu : (∃ n e, P.underlying t = some (.array n e)) ∨ ∃ fs, P.underlying t = some (.struct fs))
    (hval : Value.okWide P w r b0 t v) (h : DataW.Trod enc P w base sp held t v d ps) : ∃ a, v = .agg (f a).toArray ∧ ok a := by
  obtain ⟨fuel, h⟩ := h
  obtain ⟨a, h1, h2⟩ := he h
  obtain ⟨cs, rfl⟩ : ∃ cs, v = .agg cs := by
    rcases hu with ⟨n, e, hu⟩ | ⟨fs, hu⟩
    · simp only [Value.okWide, hu] at hval; obtain ⟨cs, h1, _⟩ := hval; exact ⟨cs, h1⟩
    · simp only [Value.okWide, hu] at hval; obtain ⟨cs, h1, _⟩ := hval; exact ⟨cs, h1⟩
  refine ⟨a, ?_, h2⟩
  congr 1
  apply Array.ext'
  exact h1
end
end Go.Eng
namespace Go.Eng
open Go Go.RowKit

section
variable {P : Program} {r : Option Nat} {N : Nat} {Q : Exit → Act → World → Prop} {e : Env} {ds : List Nat} {M : Mem0} {S : Nat → Prop} {w0 : World} {G : World → Prop}
variable {ops : Array Oper} {l : List Oper} {ty : TypeId} {pos : String} {after : Array Edge} {d : Nat} {t : TypeId} {x y z : Operand}
end
end Go.Eng
