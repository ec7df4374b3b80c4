/- A calculus of my own over the model's machine: a frame is known by a list of (temporary, value); one rule for each form of code. No condition. -/
import Derived.RangeFuncNested
import Derived.RangeFuncLeaves
import Derived.RangeFuncRecord
import Derived.RangeFuncCalls
import Derived.Below
import Derived.OrdersIn
import Derived.TacticsIn
namespace Go.Eng
open Go Go.RowKit

abbrev Env := List (Nat × Value)

/-- The value of a temporary in a list. -/
def look : Env → Nat → Option Value
  | [], _ => none
  | (k, v) :: e, t => match Nat.beq k t with | true => some v | false => look e t

def ev (e : Env) : Operand → Option Value
  | .tmp t => look e t
  | .const v => some v
  | .global g => some (.pointer (some ⟨g, 0, none⟩))
  | .func f => some (.func (.func f) #[] #[])

/-- The frame a holds at least what the list says, and has at least N temporaries. -/
def Fr (N : Nat) (e : Env) (a : Act) : Prop := N ≤ a.tmps.size ∧ ∀ t v, look e t = some v → a.tmps[t]? = some v

def mark (D : Nat) : Deferred := { target := .collected D, args := #[] }
def Dm (ds : List Nat) (a : Act) : Prop := a.defers = ds.map mark

/-- The wide fence, in a round or not. -/
abbrev Wd (r : Option Nat) : Fence := { fn := fun _ => True, depth := none, alive := false, round := r }

def wpE (P : Program) (r : Option Nat) (N : Nat) (c : Code) (Q : Exit → Act → World → Prop) (e : Env) (ds : List Nat) (w : World) : Prop :=
  ∀ a, Fr N e a → Dm ds a → c.wpIn (Wd r) 0 P Q a w

def QE (N : Nat) (Q : Exit → Act → World → Prop) (x : Exit) (e : Env) (ds : List Nat) (w : World) : Prop :=
  ∀ a, Fr N e a → Dm ds a → Q x a w

def LE (P : Program) (r : Option Nat) (N : Nat) (ops : Array Oper) (Q : Exit → Act → World → Prop) (l : List Oper) (e : Env) (ds : List Nat) (w : World) : Prop :=
  ∀ a, Fr N e a → Dm ds a → wpListIn (Wd r) 0 P ops Q l a w

theorem Fr.eval {N : Nat} {e : Env} {a : Act} (h : Fr N e a) {x : Operand} {v : Value} (hx : ev e x = some v) : a.eval x = v := by
  cases x with
  | tmp t =>
    have := h.2 t v hx
    show a.tmps.getD t undef = v
    rw [Array.getD_eq_getD_getElem?, this]; rfl
  | const u => exact Option.some.inj hx
  | global g => exact Option.some.inj hx
  | func f => exact Option.some.inj hx

theorem look_cons (d : Nat) (v : Value) (e : Env) (t : Nat) : look ((d, v) :: e) t = if d = t then some v else look e t := by
  simp only [look]
  by_cases h : d = t
  · subst h; simp
  · have : Nat.beq d t = false := by
      rw [Bool.eq_false_iff]; intro hb; exact h (Nat.eq_of_beq_eq_true hb)
    rw [this, if_neg h]

theorem Fr.put {N : Nat} {e : Env} {a : Act} (h : Fr N e a) {d : Nat} (hd : Nat.blt d N = true) (v : Value) : Fr N ((d, v) :: e) (a.put (some d) v) := by
  have hdN : d < N := Nat.le_of_ble_eq_true hd
  refine ⟨by simp [Act.put]; exact h.1, fun t u hu => ?_⟩
  rw [look_cons] at hu
  simp only [Act.put]
  by_cases hdt : d = t
  · subst hdt
    rw [if_pos rfl] at hu
    obtain rfl := Option.some.inj hu
    exact Array.getElem?_setIfInBounds_self_of_lt (Nat.lt_of_lt_of_le hdN h.1)
  · rw [if_neg hdt] at hu
    rw [Array.getElem?_setIfInBounds_ne hdt]
    exact h.2 t u hu

/-- The list e' says no more than e. -/
def Sub (e : Env) : Env → Prop
  | [] => True
  | p :: l => look e p.1 = some p.2 ∧ Sub e l

theorem Sub.mem {e : Env} : ∀ {e' : Env}, Sub e e' → ∀ t v, look e' t = some v → look e t = some v
  | [], _, t, v, h => by simp [look] at h
  | (k, u) :: l, h, t, v, hv => by
    rw [look_cons] at hv
    by_cases hk : k = t
    · subst hk; rw [if_pos rfl] at hv; obtain rfl := Option.some.inj hv; exact h.1
    · rw [if_neg hk] at hv; exact Sub.mem h.2 t v hv

theorem Fr.sub {N : Nat} {e e' : Env} {a : Act} (h : Fr N e a) (hs : Sub e e') : Fr N e' a := ⟨h.1, fun t v hv => h.2 t v (hs.mem t v hv)⟩

section
variable {P : Program} {r : Option Nat} {N : Nat} {Q : Exit → Act → World → Prop} {e : Env} {ds : List Nat} {w : World}

theorem wpE.sub {c : Code} {e' : Env} (hs : Sub e e') (h : wpE P r N c Q e' ds w) : wpE P r N c Q e ds w := fun a hf hd => h a (hf.sub hs) hd
theorem QE.sub {x : Exit} {e' : Env} (hs : Sub e e') (h : QE N Q x e' ds w) : QE N Q x e ds w := fun a hf hd => h a (hf.sub hs) hd
theorem LE.sub {ops : Array Oper} {l : List Oper} {e' : Env} (hs : Sub e e') (h : LE P r N ops Q l e' ds w) : LE P r N ops Q l e ds w := fun a hf hd => h a (hf.sub hs) hd

/-! ### The forms of code -/
theorem wpE.seq {x y : Code} (h : wpE P r N x (Exit.then (y.wpIn (Wd r) 0 P Q) Q) e ds w) : wpE P r N (.seq x y) Q e ds w := fun a hf hd => wpIn_seq (h a hf hd)
theorem wpE.skip (h : QE N Q .normal e ds w) : wpE P r N .skip Q e ds w := fun a hf hd => wpIn_skip (h a hf hd)
theorem wpE.exit {id : Nat} (h : QE N Q (.exit id) e ds w) : wpE P r N (.exit id) Q e ds w := fun a hf hd => wpIn_exit (h a hf hd)
theorem wpE.ret (h : QE N Q .ret e ds w) : wpE P r N .ret Q e ds w := fun a hf hd => wpIn_ret (h a hf hd)
theorem wpE.block {id : Nat} {c : Code} (h : wpE P r N c (Exit.inBlock id Q) e ds w) : wpE P r N (.block id c) Q e ds w := fun a hf hd => wpIn_block (h a hf hd)
theorem wpE.region {id : Nat} {l : List Oper} (h : LE P r N l.toArray Q l e ds w) : wpE P r N (.region id l.toArray false) Q e ds w := fun a hf hd => wpIn_region_lit (h a hf hd)
theorem wpE.condF {c : Operand} {x y : Code} (hc : ev e c = some (.bool false)) (h : wpE P r N y Q e ds w) : wpE P r N (.cond c x y) Q e ds w :=
  fun a hf hd => wpIn_cond_false (hf.eval hc) (h a hf hd)
theorem wpE.condD {p : Prop} [Decidable p] {c : Operand} {x y : Code} (hc : ev e c = some (.bool (decide p))) (h1 : p → wpE P r N x Q e ds w) (h2 : ¬ p → wpE P r N y Q e ds w) :
    wpE P r N (.cond c x y) Q e ds w := fun a hf hd => by
  by_cases hp : p
  · exact wpIn_cond_true (by rw [hf.eval hc, decide_eq_true hp]) (h1 hp a hf hd)
  · exact wpIn_cond_false (by rw [hf.eval hc, decide_eq_false hp]) (h2 hp a hf hd)
theorem wpE.condB {b : Bool} {c : Operand} {x y : Code} (hc : ev e c = some (.bool b)) (h1 : b = true → wpE P r N x Q e ds w) (h2 : b = false → wpE P r N y Q e ds w) :
    wpE P r N (.cond c x y) Q e ds w := fun a hf hd => by
  cases b with
  | true => exact wpIn_cond_true (hf.eval hc) (h1 rfl a hf hd)
  | false => exact wpIn_cond_false (hf.eval hc) (h2 rfl a hf hd)

/-! ### Where a piece of code is left -/
theorem QE.then {y : Code} (h : wpE P r N y Q e ds w) : QE N (Exit.then (y.wpIn (Wd r) 0 P Q) Q) .normal e ds w := h
theorem QE.then_exit {K : Act → World → Prop} {id : Nat} (h : QE N Q (.exit id) e ds w) : QE N (Exit.then K Q) (.exit id) e ds w := h
theorem QE.then_ret {K : Act → World → Prop} (h : QE N Q .ret e ds w) : QE N (Exit.then K Q) .ret e ds w := h
theorem QE.block_normal {id : Nat} (h : QE N Q .normal e ds w) : QE N (Exit.inBlock id Q) .normal e ds w := h
theorem QE.block_ret {id : Nat} (h : QE N Q .ret e ds w) : QE N (Exit.inBlock id Q) .ret e ds w := h
theorem QE.block_hit {id : Nat} (h : QE N Q .normal e ds w) : QE N (Exit.inBlock id Q) (.exit id) e ds w := fun a hf hd => by
  simp only [Exit.inBlock]; simpa using h a hf hd
theorem exists_least (p : Nat → Prop) (h : ∃ n, p n) : ∃ n, p n ∧ ∀ m, p m → n ≤ m := by
  obtain ⟨n, hn⟩ := h
  induction n using Nat.strongRecOn with
  | _ n ih =>
    by_cases hq : ∃ m, m < n ∧ p m
    · obtain ⟨m, hm, hp⟩ := hq; exact ih m hm hp
    · exact ⟨n, hn, fun m hm => Nat.le_of_not_lt (fun hlt => hq ⟨m, hlt, hm⟩)⟩

/-! ### A loop: its state is a value of a type α; env and world as functions of it -/
theorem wpE.loop {α : Type} {c : Code} (E : α → Env) (I : α → World → Prop) (μ : α → Nat) (x0 : α) (hs : Sub e (E x0)) (h0 : I x0 w)
    (round : ∀ x w, I x w → wpE P r N c (Exit.then (fun a' w' => ∃ y, Fr N (E y) a' ∧ Dm ds a' ∧ I y w' ∧ μ y < μ x) Q) (E x) ds w) :
    wpE P r N (.loop c) Q e ds w := by
  intro a hf hd
  -- the measure of a frame: the least measure of a state that fits
  refine wpIn_loop_ghost E I μ x0 a w ⟨hf.sub hs, hd, h0⟩ round
where
  wpIn_loop_ghost {P : Program} {r : Option Nat} {N : Nat} {Q : Exit → Act → World → Prop} {ds : List Nat} {α : Type} {c : Code} (E : α → Env) (I : α → World → Prop) (μ : α → Nat) (x0 : α) (a : Act) (w : World)
      (h : Fr N (E x0) a ∧ Dm ds a ∧ I x0 w)
      (round : ∀ x w, I x w → wpE P r N c (Exit.then (fun a' w' => ∃ y, Fr N (E y) a' ∧ Dm ds a' ∧ I y w' ∧ μ y < μ x) Q) (E x) ds w) :
      (Code.loop c).wpIn (Wd r) 0 P Q a w := by
    classical
    let J : Act → World → Nat → Prop := fun a w n => ∃ x, Fr N (E x) a ∧ Dm ds a ∧ I x w ∧ μ x = n
    let M : Act → World → Nat := fun a w => if h : ∃ n, J a w n then Classical.choose (exists_least (J a w) h) else 0
    have hM : ∀ a w, (∃ n, J a w n) → J a w (M a w) ∧ ∀ n, J a w n → M a w ≤ n := by
      intro a w h
      have e : M a w = Classical.choose (exists_least (J a w) h) := dif_pos h
      rw [e]
      exact Classical.choose_spec (exists_least (J a w) h)
    refine wpIn_loop (fun a w => ∃ n, J a w n) M ⟨μ x0, x0, h.1, h.2.1, h.2.2, rfl⟩ ?_
    intro a w hn
    obtain ⟨⟨x, hf, hd, hI, hx⟩, hmin⟩ := hM a w hn
    refine wpIn_mono (round x w hI a hf hd) ?_
    intro ex a' w' hq
    cases ex with
    | normal =>
      obtain ⟨y, hf', hd', hI', hlt⟩ := hq
      have hJ : J a' w' (μ y) := ⟨y, hf', hd', hI', rfl⟩
      refine ⟨⟨_, hJ⟩, ?_⟩
      have := (hM a' w' ⟨_, hJ⟩).2 _ hJ
      omega
    | exit id => exact hq
    | goto l => exact hq
    | ret => exact hq
    | panic ch => exact hq
    | outgrown => exact hq

/-! ### Operations in a row -/
theorem LE.nil {ops : Array Oper} (h : QE N Q .normal e ds w) : LE P r N ops Q [] e ds w := fun a hf hd => wpListIn_nil (h a hf hd)

/-- The operation yields v and leaves w'. -/
def OpV (P : Program) (op : Op) (ty : TypeId) (e : Env) (w : World) (v : Value) (w' : World) : Prop :=
  ∀ ρ : Operand → Value, (∀ x u, ev e x = some u → ρ x = u) → ∀ dst pos after guard, (execOp ρ ⟨dst, op, ty, pos, after, guard⟩).run P w = .ok (.value v) w'
/-- The operation yields nothing. -/
def OpS (P : Program) (op : Op) (ty : TypeId) (e : Env) (w : World) (w' : World) : Prop :=
  ∀ ρ : Operand → Value, (∀ x u, ev e x = some u → ρ x = u) → ∀ dst pos after guard, (execOp ρ ⟨dst, op, ty, pos, after, guard⟩).run P w = .ok .skip w'
/-- The operation enters a function of the program. -/
def OpC (P : Program) (op : Op) (ty : TypeId) (e : Env) (w : World) (f : FuncId) (args : Array Value) : Prop :=
  ∀ ρ : Operand → Value, (∀ x u, ev e x = some u → ρ x = u) → ∀ dst pos after guard, (execOp ρ ⟨dst, op, ty, pos, after, guard⟩).run P w = .ok (.enter f args) w

def nd : Op → Bool
  | .defer _ => false
  | _ => true

theorem semAt_nd {ro : Option Nat} {ρ : Operand → Value} {o : Oper} (h : nd o.op = true) : o.semAt ro ρ = execOp ρ o := by
  refine Oper.semAt_eq ro ρ o (fun c hc => ?_)
  rw [hc] at h; simp [nd] at h

theorem wp_val {o : Oper} {a : Act} {v : Value} {w w' : World} {K : Act → World → Prop} (hnd : nd o.op = true) (h : (execOp a.eval o).run P w = .ok (.value v) w') (hk : K (a.put o.dst v) w') : o.wpIn (Wd r) 0 P a w K Q := by
  refine ⟨fun _ _ => trivial, ?_⟩
  rw [semAt_nd hnd, h]; exact hk
theorem wp_skip {o : Oper} {a : Act} {w w' : World} {K : Act → World → Prop} (hnd : nd o.op = true) (h : (execOp a.eval o).run P w = .ok .skip w') (hk : K (a.put o.dst undef) w') : o.wpIn (Wd r) 0 P a w K Q := by
  refine ⟨fun _ _ => trivial, ?_⟩
  rw [semAt_nd hnd, h]; exact hk

section
variable {ops : Array Oper} {l : List Oper} {op : Op} {ty : TypeId} {pos : String} {after : Array Edge} {d : Nat} {v : Value} {w' : World}
theorem LE.val (hv : OpV P op ty e w v w') (h : LE P r N ops Q l ((d, v) :: e) ds w') (hnd : nd op = true := by rfl) (hd : Nat.blt d N = true := by rfl) :
    LE P r N ops Q (⟨some d, op, ty, pos, after, none⟩ :: l) e ds w := fun a hf hdm => by
  refine wpListIn_plain rfl fun K hK => wp_val hnd (hv a.eval (fun x u hx => hf.eval hx) _ _ _ _) (hK _ _ (h _ (hf.put hd v) hdm))
theorem LE.skp (hv : OpS P op ty e w w') (h : LE P r N ops Q l e ds w') (hnd : nd op = true := by rfl) :
    LE P r N ops Q (⟨none, op, ty, pos, after, none⟩ :: l) e ds w := fun a hf hdm => by
  refine wpListIn_plain rfl fun K hK => wp_skip hnd (hv a.eval (fun x u hx => hf.eval hx) _ _ _ _) (hK _ _ (h _ hf hdm))

/-! guards -/
theorem LE.strip {o : Oper} {j t : Nat} {b : Bool} (hj : (ops[j]?).bind (·.dst) = some t) (ht : look e t = some (.bool b)) (ho : o.guard = some (j, b))
    (h : LE P r N ops Q ({ o with guard := none } :: l) e ds w) : LE P r N ops Q (o :: l) e ds w := fun a hf hdm => by
  have hw : Region.wanted o (yielded ops a.tmps) = true := by
    simp [Region.wanted, ho, yielded, hj, hf.2 t _ ht]
  have h1 := h a hf hdm
  unfold wpListIn at h1 ⊢
  rw [if_pos (by simp [Region.wanted])] at h1
  rw [if_pos hw]
  exact h1
theorem LE.drop {j t : Nat} {b c : Bool} (hj : (ops[j]?).bind (·.dst) = some t) (ht : look e t = some (.bool c)) (hbc : (c == b) = false) 
    (h : LE P r N ops Q l ((d, undef) :: e) ds w) (hd : Nat.blt d N = true := by rfl) : LE P r N ops Q (⟨some d, op, ty, pos, after, some (j, b)⟩ :: l) e ds w := fun a hf hdm => by
  have hw : Region.wanted ⟨some d, op, ty, pos, after, some (j, b)⟩ (yielded ops a.tmps) = false := by
    simp only [Region.wanted, yielded, hj, Option.bind_some, hf.2 t _ ht]
    simpa using hbc
  unfold wpListIn
  rw [if_neg (by rw [hw]; simp)]
  exact ⟨fun _ _ => trivial, h _ (hf.put hd undef) hdm⟩
/-- A slot's Bool is parted on. -/
theorem LE.splitD {t : Nat} {p : Prop} [Decidable p] (ht : look e t = some (.bool (decide p))) (h1 : p → LE P r N ops Q l ((t, .bool true) :: e) ds w) (h2 : ¬ p → LE P r N ops Q l ((t, .bool false) :: e) ds w) :
    LE P r N ops Q l e ds w := fun a hf hdm => by
  have key : ∀ c : Bool, decide p = c → Fr N ((t, .bool c) :: e) a := fun c hc => ⟨hf.1, fun k u hu => by
    rw [look_cons] at hu
    by_cases hk : t = k
    · subst hk; rw [if_pos rfl] at hu; rw [← hu, ← hc]; exact hf.2 _ _ ht
    · rw [if_neg hk] at hu; exact hf.2 k u hu⟩
  by_cases hp : p
  · exact h1 hp a (key _ (decide_eq_true hp)) hdm
  · exact h2 hp a (key _ (decide_eq_false hp)) hdm
theorem LE.splitB {t : Nat} {b : Bool} (ht : look e t = some (.bool b)) (h1 : b = true → LE P r N ops Q l ((t, .bool true) :: e) ds w) (h2 : b = false → LE P r N ops Q l ((t, .bool false) :: e) ds w) :
    LE P r N ops Q l e ds w := fun a hf hdm => by
  have key : ∀ c : Bool, b = c → Fr N ((t, .bool c) :: e) a := fun c hc => ⟨hf.1, fun k u hu => by
    rw [look_cons] at hu
    by_cases hk : t = k
    · subst hk; rw [if_pos rfl] at hu; rw [← hu, ← hc]; exact hf.2 _ _ ht
    · rw [if_neg hk] at hu; exact hf.2 k u hu⟩
  cases b with
  | true => exact h1 rfl a (key _ rfl) hdm
  | false => exact h2 rfl a (key _ rfl) hdm

/-! calls -/
/-- A contract: the call returns, and R of the value and the world behind it. -/
def Ret (P : Program) (f : FuncId) (args : Array Value) (w : World) (R : Value → World → Prop) : Prop :=
  Calls P f args w (fun en w' => ∃ v, en = .returned v ∧ R v w')

theorem LE.call {f : FuncId} {args : Array Value} {R : Value → World → Prop} (hc : OpC P op ty e w f args) (h : Ret P f args w R)
    (hk : ∀ v w', R v w' → LE P r N ops Q l ((d, v) :: e) ds w') (hnd : nd op = true := by rfl) (hd : Nat.blt d N = true := by rfl) :
    LE P r N ops Q (⟨some d, op, ty, pos, after, none⟩ :: l) e ds w := fun a hf hdm => by
  refine wpListIn_plain rfl fun K hK => ?_
  refine ⟨fun _ _ => trivial, ?_⟩
  rw [semAt_nd hnd, hc a.eval (fun x u hx => hf.eval hx) _ _ _ _]
  refine ⟨fun h => (by cases h), ?_⟩
  have h2 : CallsIn Fence.wide 0 P f args w (fun en w' => ∃ v, en = .returned v ∧ R v w') := callsIn_wide.2 h
  have h3 : CallsIn (Wd r) 0 P f args w (fun en w' => ∃ v, en = .returned v ∧ R v w') := h2
  refine CallsIn.mono h3 ?_
  rintro en w' ⟨v, rfl, hR⟩
  exact hK _ _ (hk v w' hR _ (hf.put hd v) hdm)
end
end

theorem Ret.mono {P : Program} {f : FuncId} {args : Array Value} {w : World} {R R' : Value → World → Prop} (h : Ret P f args w R) (hr : ∀ v w', R v w' → R' v w') : Ret P f args w R' :=
  Calls.mono h (fun _ _ ⟨v, he, hR⟩ => ⟨v, he, hr v _ hR⟩)

/-! ### A function's contract out of its body -/
/-- The world behind a function's return: the blocks of its loops' deferred calls are shut. -/
def shut : List Nat → World → World
  | [], w => w
  | D :: ds, w => shut ds (w.putObj D (.deferred none))

def Marked : List Nat → World → Prop
  | [], _ => True
  | D :: ds, w => w.heap[D]? = some (.deferred (some [])) ∧ Marked ds (w.putObj D (.deferred none))

def args0 : Nat → List Value → Env
  | _, [] => []
  | k, v :: l => (k, v) :: args0 (k + 1) l

theorem look_args0 : ∀ (l : List Value) (k t : Nat) (v : Value), look (args0 k l) t = some v → k ≤ t ∧ l[t - k]? = some v
  | [], k, t, v, h => by simp [args0, look] at h
  | u :: l, k, t, v, h => by
    rw [args0, look_cons] at h
    by_cases hk : k = t
    · subst hk; rw [if_pos rfl] at h; exact ⟨Nat.le_refl _, by simpa using h⟩
    · rw [if_neg hk] at h
      obtain ⟨h1, h2⟩ := look_args0 l (k + 1) t v h
      refine ⟨by omega, ?_⟩
      rw [show t - k = (t - (k + 1)) + 1 by omega, List.getElem?_cons_succ]; exact h2

def fnPost (P : Program) (fn : Func) (R : Value → World → Prop) : Exit → Act → World → Prop :=
  bodyPostM (Wd none) 0 P fn (fun en w' => ∃ v, en = .returned v ∧ R v w')

theorem Ret.enter {P : Program} {f : FuncId} {fn : Func} {c : Code} {l : List Value} {w : World} {R : Value → World → Prop}
    (hf : P.funcs[f]? = some fn) (hb : fn.body = some c) {N : Nat} (hN : N = fn.ntmps) (hl : Nat.ble l.length N = true)
    (h : wpE P none N c (fnPost P fn R) (args0 0 l) [] w) : Ret P f l.toArray w R := by
  refine (callsIn_wide (n := 0)).1 ?_
  refine callsIn_of_wp_marks (F := Wd none) hf hb trivial ?_ rfl
  refine h _ ⟨?_, fun t v hv => ?_⟩ rfl
  · have := Nat.le_of_ble_eq_true hl
    simp; omega
  · obtain ⟨_, h2⟩ := look_args0 l 0 t v hv
    have hlt : t < l.length := by
      rcases Nat.lt_or_ge t l.length with h | h
      · exact h
      · rw [List.getElem?_eq_none (by simpa using h)] at h2; cases h2
    simp only [Nat.sub_zero] at h2
    rw [Array.getElem?_append_left (by simpa using hlt)]
    simpa using h2

/-- The results read off the frame. -/
def resE (e : Env) : List ResultVar → Option (List Value)
  | [] => some []
  | .tmp t :: l => match look e t, resE e l with | some v, some vs => some (v :: vs) | _, _ => none
  | .cell _ _ :: _ => none
def resV : List Value → Value
  | [v] => v
  | l => .tuple l.toArray

theorem mapM_res {e : Env} {P : Program} {w : World} (f : ResultVar → Sem Value) (hf : ∀ t v, look e t = some v → (f (.tmp t)).run P w = .ok v w) :
    ∀ (rs : List ResultVar) (vs : List Value), resE e rs = some vs → (rs.mapM f).run P w = .ok vs w := by
  intro rs
  induction rs with
  | nil => intro vs h; simp only [resE, Option.some.injEq] at h; subst h; simp
  | cons x rs ih =>
    intro vs h
    cases x with
    | cell b t => simp [resE] at h
    | tmp t =>
      simp only [resE] at h
      cases hl : look e t with
      | none => rw [hl] at h; cases h
      | some v =>
        cases hr : resE e rs with
        | none => rw [hl, hr] at h; cases h
        | some us =>
          rw [hl, hr] at h
          obtain rfl := Option.some.inj h
          simp only [List.mapM_cons, Sem.run_bind, hf t v hl, Result.andThen, ih us hr, Sem.run_pure]

theorem results_resE {N : Nat} {e : Env} {a : Act} (hf : Fr N e a) {P : Program} {w : World} {fn : Func} {rs : List ResultVar} (hr : fn.results = rs.toArray) {vs : List Value} (h : resE e rs = some vs) :
    (results fn a.tmps).run P w = .ok (resV vs) w := by
  unfold results
  rw [hr]
  have h1 := mapM_res (P := P) (w := w) (fun x => match x with
      | ResultVar.tmp t => (pure (a.tmps.getD t undef) : Sem Value)
      | ResultVar.cell b t => do loadVar t (← asAddr (a.tmps.getD b undef)))
    (fun t v hl => by
      have h1 := hf.2 t v hl
      show Result.ok (a.tmps.getD t undef) w = _
      rw [Array.getD_eq_getD_getElem?, h1]; rfl) rs vs h
  simp only [List.mapM_toArray, Sem.run_bind, Sem.run_map]
  generalize hX : Sem.run P (List.mapM _ rs) w = X
  obtain rfl : Result.ok vs w = X := by rw [← hX]; exact h1.symm
  simp only [Result.andThen]
  cases vs with
  | nil => simp [resV]
  | cons v l => cases l with
    | nil => simp [resV]
    | cons u l => simp [resV]

theorem leavesM_shut {P : Program} {fn : Func} {tmps : Array Value} {R : Ending → World → Prop} {v : Value} :
    ∀ (ds : List Nat) (w : World), Marked ds w → (results fn tmps).run P (shut ds w) = .ok v (shut ds w) → R (.returned v) (shut ds w) → LeavesInM (Wd none) 0 P fn tmps R (ds.map mark) .returning w
  | [], w, _, hr, hR => by
    exact ⟨v, hr, hR⟩
  | D :: ds, w, hm, hr, hR => by
    refine ⟨by simp, .inl ⟨D, _, rfl, run_takeDeferred hm.1, ?_⟩⟩
    exact leavesM_shut ds _ hm.2 hr hR

section
variable {P : Program} {fn : Func} {N : Nat} {e : Env} {ds : List Nat} {w : World} {R : Value → World → Prop} {vs : List Value}
/-- A function is left: its results lie in temporaries. -/
theorem QE.leave (rs : List ResultVar) (hr : fn.results = rs.toArray) (h : resE e rs = some vs) (hm : Marked ds w) (hR : R (resV vs) (shut ds w)) : QE N (fnPost P fn R) .ret e ds w := fun a hf hd => by
  show LeavesInM _ _ _ _ _ _ _ _ _
  rw [hd]
  exact leavesM_shut ds w hm (results_resE hf hr h) ⟨_, rfl, hR⟩
theorem QE.leaveN (rs : List ResultVar) (hr : fn.results = rs.toArray) (h : resE e rs = some vs) (hm : Marked ds w) (hR : R (resV vs) (shut ds w)) : QE N (fnPost P fn R) .normal e ds w := fun a hf hd => by
  show LeavesInM _ _ _ _ _ _ _ _ _
  rw [hd]
  exact leavesM_shut ds w hm (results_resE hf hr h) ⟨_, rfl, hR⟩
end
end Go.Eng
