/- A calculus of my own over the model's machine: a frame is known by a list of (temporary, value); one rule for each form of code. No condition. -/
import Derived.RangeFuncNested
import Derived.RangeFuncLeaves
import Derived.RangeFuncRecord
import Derived.RangeFuncCalls
import Derived.Below
import Derived.OrdersIn
import Derived.TacticsIn
import Derived.Laws.Entries
import Derived.Laws.AppendOwn
import Derived.Laws.Sem
import Derived.IntWalk
import Derived.Laws.MakeOwn
import Derived.Laws.OwnMore
import Derived.ArgAppend
import Derived.Laws.Pointers
import Derived.Laws.Tables
import Derived.MapKept
import Derived.Carry
import Derived.Laws.StructEq
set_option linter.unusedVariables false
set_option linter.unusedSimpArgs false
set_option maxRecDepth 100000
set_option maxHeartbeats 4000000
namespace Go.Eng
open Go Go.RowKit

abbrev Env:=List (Nat×Value)

/-- The value of a temporary in a list. -/
def look:Env→Nat→Option Value
  | [],_=>none
  |(k,v)::e,t=>match Nat.beq k t with|true=>some v|false=>look e t

def ev (e:Env):Operand→Option Value
  | .tmp t=>look e t
  | .const v=>some v
  | .global g=>some (.pointer (some ⟨g,0,none⟩))
  | .func f=>some (.func (.func f) #[] #[])

/-- The frame a holds at least what the list says, and has at least N temporaries. -/
def Fr (N:Nat) (e:Env) (a:Act):Prop:=N≤a.tmps.size∧∀t v,look e t=some v→a.tmps[t]? =some v

def mark (D:Nat):Deferred:= {target:= .collected D,args:=#[] }
def Dm (ds:List Nat) (a:Act):Prop:=a.defers=ds.map mark

/-- The wide fence, in a round or not. -/
abbrev Wd (r:Option Nat):Fence:= {fn:=fun _=>True,depth:=none,alive:=false,round:=r}

def od (P:Program) (r:Option Nat) (N:Nat) (c:Code) (Q:Exit→Act→World→Prop) (e:Env) (ds:List Nat) (w:World):Prop:=
  ∀a,Fr N e a→Dm ds a→c.wpIn (Wd r) 0 P Q a w

def QE (N:Nat) (Q:Exit→Act→World→Prop) (x:Exit) (e:Env) (ds:List Nat) (w:World):Prop:=
  ∀a,Fr N e a→Dm ds a→Q x a w

def LE (P:Program) (r:Option Nat) (N:Nat) (ops:Array Oper) (Q:Exit→Act→World→Prop) (l:List Oper) (e:Env) (ds:List Nat) (w:World):Prop:=
  ∀a,Fr N e a→Dm ds a→wpListIn (Wd r) 0 P ops Q l a w

theorem Fr.eval {N:Nat} {e:Env} {a:Act} (h:Fr N e a) {x:Operand} {v:Value} (hx:ev e x=some v):a.eval x=v:=by
  cases x with
  |tmp t=>
    have:=h.2 t v hx
    show a.tmps.getD t undef=v
    rw [Array.getD_eq_getD_getElem?,this];rfl
  |const u=>exact Option.some.inj hx
  |global g=>exact Option.some.inj hx
  |func f=>exact Option.some.inj hx

theorem dP (d:Nat) (v:Value) (e:Env) (t:Nat):look ((d,v)::e) t=if d=t then some v else look e t:=by
  simp only [look]
  by_cases h:d=t
  · subst h;simp
  · have:Nat.beq d t=false:=by
      rw [Bool.eq_false_iff];intro hb;exact h (Nat.eq_of_beq_eq_true hb)
    rw [this,if_neg h]

theorem Fr.put {N:Nat} {e:Env} {a:Act} (h:Fr N e a) {d:Nat} (hd:Nat.blt d N=true) (v:Value):Fr N ((d,v)::e) (a.put (some d) v):=by
  have hdN:d<N:=Nat.le_of_ble_eq_true hd
  refine ⟨by simp [Act.put];exact h.1,fun t u hu=>?_⟩
  rw [dP] at hu
  simp only [Act.put]
  by_cases H0:d=t
  · subst H0
    rw [if_pos rfl] at hu
    obtain rfl:=Option.some.inj hu
    exact Array.getElem?_setIfInBounds_self_of_lt (Nat.lt_of_lt_of_le hdN h.1)
  · rw [if_neg H0] at hu
    rw [Array.getElem?_setIfInBounds_ne H0]
    exact h.2 t u hu

theorem Fr.ab1 {N:Nat} {e:Env} {a:Act} (h:Fr N e a) (v:Value):Fr N e (a.put none v):=h

/-- The list e' says no more than e. -/
def Sub (e:Env):Env→Prop
  | [] =>True
  |p::l=>look e p.1=some p.2∧Sub e l

theorem Sub.mem {e:Env} :∀{e':Env},Sub e e'→∀t v,look e' t=some v→look e t=some v
  | [],_,t,v,h=>by simp [look] at h
  |(k,u)::l,h,t,v,hv=>by
    rw [dP] at hv
    by_cases hk:k=t
    · subst hk;rw [if_pos rfl] at hv;obtain rfl:=Option.some.inj hv;exact h.1
    · rw [if_neg hk] at hv;exact Sub.mem h.2 t v hv

theorem Fr.sub {N:Nat} {e e':Env} {a:Act} (h:Fr N e a) (hs:Sub e e'):Fr N e' a:=⟨h.1,fun t v hv=>h.2 t v (hs.mem t v hv)⟩

section
variable {P:Program} {r:Option Nat} {N:Nat} {Q:Exit→Act→World→Prop} {e:Env} {ds:List Nat} {w:World}

theorem QE.sub {x:Exit} {e':Env} (hs:Sub e e') (h:QE N Q x e' ds w):QE N Q x e ds w:=fun a hf hd=>h a (hf.sub hs) hd
/-! ### The forms of code -/
theorem od.seq {x y:Code} (h:od P r N x (Exit.then (y.wpIn (Wd r) 0 P Q) Q) e ds w):od P r N (.seq x y) Q e ds w:=fun a hf hd=>wpIn_seq (h a hf hd)
theorem od.skip (h:QE N Q .normal e ds w):od P r N .skip Q e ds w:=fun a hf hd=>wpIn_skip (h a hf hd)
theorem od.exit {id:Nat} (h:QE N Q (.exit id) e ds w):od P r N (.exit id) Q e ds w:=fun a hf hd=>wpIn_exit (h a hf hd)
theorem od.ret (h:QE N Q .ret e ds w):od P r N .ret Q e ds w:=fun a hf hd=>wpIn_ret (h a hf hd)
theorem od.block {id:Nat} {c:Code} (h:od P r N c (Exit.inBlock id Q) e ds w):od P r N (.block id c) Q e ds w:=fun a hf hd=>wpIn_block (h a hf hd)
theorem od.region {id:Nat} {l:List Oper} (h:LE P r N l.toArray Q l e ds w):od P r N (.region id l.toArray false) Q e ds w:=fun a hf hd=>wpIn_region_lit (h a hf hd)
theorem od.KA {c:Operand} {x y:Code} (hc:ev e c=some (.bool true)) (h:od P r N x Q e ds w):od P r N (.cond c x y) Q e ds w:=
  fun a hf hd=>wpIn_cond_true (hf.eval hc) (h a hf hd)
theorem od.LZ {c:Operand} {x y:Code} (hc:ev e c=some (.bool false)) (h:od P r N y Q e ds w):od P r N (.cond c x y) Q e ds w:=
  fun a hf hd=>wpIn_cond_false (hf.eval hc) (h a hf hd)
theorem od.aj {p:Prop} [Decidable p] {c:Operand} {x y:Code} (hc:ev e c=some (.bool (decide p))) (h1:p→od P r N x Q e ds w) (h2:¬p→od P r N y Q e ds w):
    od P r N (.cond c x y) Q e ds w:=fun a hf hd=>by
  by_cases hp:p
  · exact wpIn_cond_true (by rw [hf.eval hc,decide_eq_true hp]) (h1 hp a hf hd)
  · exact wpIn_cond_false (by rw [hf.eval hc,decide_eq_false hp]) (h2 hp a hf hd)
theorem od.aW {b:Bool} {c:Operand} {x y:Code} (hc:ev e c=some (.bool b)) (h1:b=true→od P r N x Q e ds w) (h2:b=false→od P r N y Q e ds w):
    od P r N (.cond c x y) Q e ds w:=fun a hf hd=>by
  cases b with
  |true=>exact wpIn_cond_true (hf.eval hc) (h1 rfl a hf hd)
  |false=>exact wpIn_cond_false (hf.eval hc) (h2 rfl a hf hd)

/-! ### Where a piece of code is left -/
theorem QE.sk {id:Nat} (h:QE N Q .normal e ds w):QE N (Exit.inBlock id Q) (.exit id) e ds w:=fun a hf hd=>by
  simp only [Exit.inBlock];simpa using h a hf hd
theorem QE.pQ {id k:Nat} (hk:Nat.beq k id=false) (h:QE N Q (.exit k) e ds w):QE N (Exit.inBlock id Q) (.exit k) e ds w:=fun a hf hd=>by
  have eb:¬k=id:=fun e=>by subst e;simp at hk
  have:=h a hf hd
  simp only [Exit.inBlock]
  simpa [eb,Ne.symm eb] using this

theorem lT (p:Nat→Prop) (h:∃n,p n):∃n,p n∧∀m,p m→n≤m:=by
  obtain ⟨n,hn⟩:=h
  induction n using Nat.strongRecOn with
  |_ n ih=>
    by_cases hq:∃m,m<n∧p m
    · obtain ⟨m,hm,hp⟩:=hq;exact ih m hm hp
    · exact⟨n,hn,fun m hm=>Nat.le_of_not_lt (fun bB=>hq ⟨m,bB,hm⟩)⟩

/-! ### A loop: its state is a value of a type α; env and world as functions of it -/
theorem od.loop {α:Type} {c:Code} (E:α→Env) (I:α→World→Prop) (μ:α→Nat) (x0:α) (hs:Sub e (E x0)) (h0:I x0 w)
    (round:∀x w,I x w→od P r N c (Exit.then (fun a' w'=>∃y,Fr N (E y) a'∧Dm ds a'∧I y w'∧μ y<μ x) Q) (E x) ds w):
    od P r N (.loop c) Q e ds w:=by
  intro a hf hd
  -- the measure of a frame: the least measure of a state that fits
  refine tp E I μ x0 a w ⟨hf.sub hs,hd,h0⟩ round
where
  tp {P:Program} {r:Option Nat} {N:Nat} {Q:Exit→Act→World→Prop} {ds:List Nat} {α:Type} {c:Code} (E:α→Env) (I:α→World→Prop) (μ:α→Nat) (x0:α) (a:Act) (w:World)
      (h:Fr N (E x0) a∧Dm ds a∧I x0 w)
      (round:∀x w,I x w→od P r N c (Exit.then (fun a' w'=>∃y,Fr N (E y) a'∧Dm ds a'∧I y w'∧μ y<μ x) Q) (E x) ds w):
      (Code.loop c).wpIn (Wd r) 0 P Q a w:=by
    classical
    let J:Act→World→Nat→Prop:=fun a w n=>∃x,Fr N (E x) a∧Dm ds a∧I x w∧μ x=n
    let M:Act→World→Nat:=fun a w=>if h:∃n,J a w n then Classical.choose (lT (J a w) h) else 0
    have hM:∀a w,(∃n,J a w n)→J a w (M a w)∧∀n,J a w n→M a w≤n:=by
      intro a w h
      have e:M a w=Classical.choose (lT (J a w) h):=dif_pos h
      rw [e]
      exact Classical.choose_spec (lT (J a w) h)
    refine wpIn_loop (fun a w=>∃n,J a w n) M ⟨μ x0,x0,h.1,h.2.1,h.2.2,rfl⟩ ?_
    intro a w hn
    obtain ⟨⟨x,hf,hd,hI,hx⟩,ai1⟩:=hM a w hn
    refine wpIn_mono (round x w hI a hf hd) ?_
    intro ex a' w' hq
    cases ex with
    |normal=>
      obtain ⟨y,Wa,hd',Zt,bB⟩:=hq
      have hJ:J a' w' (μ y):=⟨y,Wa,hd',Zt,rfl⟩
      refine ⟨⟨_,hJ⟩,?_⟩
      have:=(hM a' w' ⟨_,hJ⟩).2 _ hJ
      omega
    |exit id=>exact hq
    |goto l=>exact hq
    |ret=>exact hq
    |panic ch=>exact hq
    |outgrown=>exact hq

/-! ### Operations in a row -/
theorem LE.nil {ops:Array Oper} (h:QE N Q .normal e ds w):LE P r N ops Q [] e ds w:=fun a hf hd=>wpListIn_nil (h a hf hd)

/-- The operation yields v and leaves w'. -/
def rA (P:Program) (op:Op) (ty:TypeId) (e:Env) (w:World) (v:Value) (w':World):Prop:=
  ∀ρ:Operand→Value,(∀x u,ev e x=some u→ρ x=u)→∀dst pos after guard,(execOp ρ ⟨dst,op,ty,pos,after,guard⟩).run P w= .ok (.value v) w'
/-- The operation yields nothing. -/
def OpS (P:Program) (op:Op) (ty:TypeId) (e:Env) (w:World) (w':World):Prop:=
  ∀ρ:Operand→Value,(∀x u,ev e x=some u→ρ x=u)→∀dst pos after guard,(execOp ρ ⟨dst,op,ty,pos,after,guard⟩).run P w= .ok .skip w'
/-- The operation enters a function of the program. -/
def yy (P:Program) (op:Op) (ty:TypeId) (e:Env) (w:World) (f:FuncId) (args:Array Value):Prop:=
  ∀ρ:Operand→Value,(∀x u,ev e x=some u→ρ x=u)→∀dst pos after guard,(execOp ρ ⟨dst,op,ty,pos,after,guard⟩).run P w= .ok (.enter f args) w

def nd:Op→Bool
  | .defer _=>false
  |_=>true

theorem kS {ro:Option Nat} {ρ:Operand→Value} {o:Oper} (h:nd o.op=true):o.semAt ro ρ=execOp ρ o:=by
  refine Oper.semAt_eq ro ρ o (fun c hc=>?_)
  rw [hc] at h;simp [nd] at h

theorem DL {o:Oper} {a:Act} {v:Value} {w w':World} {K:Act→World→Prop} (dt:nd o.op=true) (h:(execOp a.eval o).run P w= .ok (.value v) w') (hk:K (a.put o.dst v) w'):o.wpIn (Wd r) 0 P a w K Q:=by
  refine ⟨fun _ _=>trivial,?_⟩
  rw [kS dt,h];exact hk
theorem wp_skip {o:Oper} {a:Act} {w w':World} {K:Act→World→Prop} (dt:nd o.op=true) (h:(execOp a.eval o).run P w= .ok .skip w') (hk:K (a.put o.dst undef) w'):o.wpIn (Wd r) 0 P a w K Q:=by
  refine ⟨fun _ _=>trivial,?_⟩
  rw [kS dt,h];exact hk

section
variable {ops:Array Oper} {l:List Oper} {op:Op} {ty:TypeId} {pos:String} {after:Array Edge} {d:Nat} {v:Value} {w':World}
theorem LE.val (hv:rA P op ty e w v w') (h:LE P r N ops Q l ((d,v)::e) ds w') (dt:nd op=true:=by rfl) (hd:Nat.blt d N=true:=by rfl):
    LE P r N ops Q (⟨some d,op,ty,pos,after,none⟩::l) e ds w:=fun a hf eN=>by
  refine wpListIn_plain rfl fun K hK=>DL dt (hv a.eval (fun x u hx=>hf.eval hx) _ _ _ _) (hK _ _ (h _ (hf.put hd v) eN))
theorem LE.skp (hv:OpS P op ty e w w') (h:LE P r N ops Q l e ds w') (dt:nd op=true:=by rfl):
    LE P r N ops Q (⟨none,op,ty,pos,after,none⟩::l) e ds w:=fun a hf eN=>by
  refine wpListIn_plain rfl fun K hK=>wp_skip dt (hv a.eval (fun x u hx=>hf.eval hx) _ _ _ _) (hK _ _ (h _ hf eN))

/-! guards -/
theorem LE.strip {o:Oper} {j t:Nat} {b:Bool} (hj:(ops[j]?).bind (·.dst)=some t) (ht:look e t=some (.bool b)) (ho:o.guard=some (j,b))
    (h:LE P r N ops Q ({o with guard:=none} ::l) e ds w):LE P r N ops Q (o::l) e ds w:=fun a hf eN=>by
  have hw:Region.wanted o (yielded ops a.tmps)=true:=by
    simp [Region.wanted,ho,yielded,hj,hf.2 t _ ht]
  have h1:=h a hf eN
  unfold wpListIn at h1 ⊢
  rw [if_pos (by simp [Region.wanted])] at h1
  rw [if_pos hw]
  exact h1
theorem LE.drop {j t:Nat} {b c:Bool} (hj:(ops[j]?).bind (·.dst)=some t) (ht:look e t=some (.bool c)) (RW:(c==b)=false)
    (h:LE P r N ops Q l ((d,undef)::e) ds w) (hd:Nat.blt d N=true:=by rfl):LE P r N ops Q (⟨some d,op,ty,pos,after,some (j,b)⟩::l) e ds w:=fun a hf eN=>by
  have hw:Region.wanted ⟨some d,op,ty,pos,after,some (j,b)⟩ (yielded ops a.tmps)=false:=by
    simp only [Region.wanted,yielded,hj,Option.bind_some,hf.2 t _ ht]
    simpa using RW
  unfold wpListIn
  rw [if_neg (by rw [hw];simp)]
  exact⟨fun _ _=>trivial,h _ (hf.put hd undef) eN⟩
/-- A slot's Bool is parted on. -/
theorem LE.ar {t:Nat} {p:Prop} [Decidable p] (ht:look e t=some (.bool (decide p))) (h1:p→LE P r N ops Q l ((t,.bool true)::e) ds w) (h2:¬p→LE P r N ops Q l ((t,.bool false)::e) ds w):
    LE P r N ops Q l e ds w:=fun a hf eN=>by
  have key:∀c:Bool,decide p=c→Fr N ((t,.bool c)::e) a:=fun c hc=>⟨hf.1,fun k u hu=>by
    rw [dP] at hu
    by_cases hk:t=k
    · subst hk;rw [if_pos rfl] at hu;rw [←hu,←hc];exact hf.2 _ _ ht
    · rw [if_neg hk] at hu;exact hf.2 k u hu⟩
  by_cases hp:p
  · exact h1 hp a (key _ (decide_eq_true hp)) eN
  · exact h2 hp a (key _ (decide_eq_false hp)) eN
theorem LE.bu {t:Nat} {b:Bool} (ht:look e t=some (.bool b)) (h1:b=true→LE P r N ops Q l ((t,.bool true)::e) ds w) (h2:b=false→LE P r N ops Q l ((t,.bool false)::e) ds w):
    LE P r N ops Q l e ds w:=fun a hf eN=>by
  have key:∀c:Bool,b=c→Fr N ((t,.bool c)::e) a:=fun c hc=>⟨hf.1,fun k u hu=>by
    rw [dP] at hu
    by_cases hk:t=k
    · subst hk;rw [if_pos rfl] at hu;rw [←hu,←hc];exact hf.2 _ _ ht
    · rw [if_neg hk] at hu;exact hf.2 k u hu⟩
  cases b with
  |true=>exact h1 rfl a (key _ rfl) eN
  |false=>exact h2 rfl a (key _ rfl) eN

/-! calls -/
/-- A contract: the call returns, and R of the value and the world behind it. -/
def aJ (P:Program) (f:FuncId) (args:Array Value) (w:World) (R:Value→World→Prop):Prop:=
  Calls P f args w (fun en w'=>∃v,en= .returned v∧R v w')

theorem LE.call {f:FuncId} {args:Array Value} {R:Value→World→Prop} (hc:yy P op ty e w f args) (h:aJ P f args w R)
    (hk:∀v w',R v w'→LE P r N ops Q l ((d,v)::e) ds w') (dt:nd op=true:=by rfl) (hd:Nat.blt d N=true:=by rfl):
    LE P r N ops Q (⟨some d,op,ty,pos,after,none⟩::l) e ds w:=fun a hf eN=>by
  refine wpListIn_plain rfl fun K hK=>?_
  refine ⟨fun _ _=>trivial,?_⟩
  rw [kS dt,hc a.eval (fun x u hx=>hf.eval hx) _ _ _ _]
  refine ⟨fun h=>(by cases h),?_⟩
  have h2:CallsIn Fence.wide 0 P f args w (fun en w'=>∃v,en= .returned v∧R v w'):=callsIn_wide.2 h
  have h3:CallsIn (Wd r) 0 P f args w (fun en w'=>∃v,en= .returned v∧R v w'):=h2
  refine CallsIn.mono h3 ?_
  rintro en w' ⟨v,rfl,hR⟩
  exact hK _ _ (hk v w' hR _ (hf.put hd v) eN)
end
end

theorem aJ.mono {P:Program} {f:FuncId} {args:Array Value} {w:World} {R R':Value→World→Prop} (h:aJ P f args w R) (hr:∀v w',R v w'→R' v w'):aJ P f args w R':=
  Calls.mono h (fun _ _ ⟨v,he,hR⟩=>⟨v,he,hr v _ hR⟩)

/-! ### A function's contract out of its body -/
/-- The world behind a function's return: the blocks of its loops' deferred calls are shut. -/
def shut:List Nat→World→World
  | [],w=>w
  |D::ds,w=>shut ds (w.putObj D (.deferred none))

def ur:List Nat→World→Prop
  | [],_=>True
  |D::ds,w=>w.heap[D]? =some (.deferred (some []))∧ur ds (w.putObj D (.deferred none))

def xn:Nat→List Value→Env
  |_,[] =>[]
  |k,v::l=>(k,v)::xn (k+1) l

theorem vo:∀(l:List Value) (k t:Nat) (v:Value),look (xn k l) t=some v→k≤t∧l[t-k]? =some v
  | [],k,t,v,h=>by simp [xn,look] at h
  |u::l,k,t,v,h=>by
    rw [xn,dP] at h
    by_cases hk:k=t
    · subst hk;rw [if_pos rfl] at h;exact⟨Nat.le_refl _,by simpa using h⟩
    · rw [if_neg hk] at h
      obtain ⟨h1,h2⟩:=vo l (k+1) t v h
      refine ⟨by omega,?_⟩
      rw [show t-k=(t-(k+1))+1 by omega,List.getElem?_cons_succ];exact h2

def px (P:Program) (fn:Func) (R:Value→World→Prop):Exit→Act→World→Prop:=
  bodyPostM (Wd none) 0 P fn (fun en w'=>∃v,en= .returned v∧R v w')

theorem aJ.enter {P:Program} {f:FuncId} {fn:Func} {c:Code} {l:List Value} {w:World} {R:Value→World→Prop}
    (hf:P.funcs[f]? =some fn) (hb:fn.body=some c) {N:Nat} (hN:N=fn.ntmps) (hl:Nat.ble l.length N=true)
    (h:od P none N c (px P fn R) (xn 0 l) [] w):aJ P f l.toArray w R:=by
  refine (callsIn_wide (n:=0)).1 ?_
  refine callsIn_of_wp_marks (F:=Wd none) hf hb trivial ?_ rfl
  refine h _ ⟨?_,fun t v hv=>?_⟩ rfl
  · have:=Nat.le_of_ble_eq_true hl
    simp;omega
  · obtain ⟨_,h2⟩:=vo l 0 t v hv
    have bB:t<l.length:=by
      rcases Nat.lt_or_ge t l.length with h|h
      · exact h
      · rw [List.getElem?_eq_none (by simpa using h)] at h2;cases h2
    simp only [Nat.sub_zero] at h2
    rw [Array.getElem?_append_left (by simpa using bB)]
    simpa using h2

/-- The results read off the frame. -/
def uM (e:Env):List ResultVar→Option (List Value)
  | [] =>some []
  | .tmp t::l=>match look e t,uM e l with|some v,some vs=>some (v::vs)|_,_=>none
  | .cell _ _::_=>none
def bA:List Value→Value
  | [v] =>v
  |l=> .tuple l.toArray

theorem Jt {e:Env} {P:Program} {w:World} (f:ResultVar→Sem Value) (hf:∀t v,look e t=some v→(f (.tmp t)).run P w= .ok v w):
    ∀(rs:List ResultVar) (vs:List Value),uM e rs=some vs→(rs.mapM f).run P w= .ok vs w:=by
  intro rs
  induction rs with
  |nil=>intro vs h;simp only [uM,Option.some.injEq] at h;subst h;simp
  |cons x rs ih=>
    intro vs h
    cases x with
    |cell b t=>simp [uM] at h
    |tmp t=>
      simp only [uM] at h
      cases hl:look e t with
      |none=>rw [hl] at h;cases h
      |some v=>
        cases hr:uM e rs with
        |none=>rw [hl,hr] at h;cases h
        |some us=>
          rw [hl,hr] at h
          obtain rfl:=Option.some.inj h
          simp only [List.mapM_cons,Sem.run_bind,hf t v hl,Result.andThen,ih us hr,Sem.run_pure]

theorem qV {N:Nat} {e:Env} {a:Act} (hf:Fr N e a) {P:Program} {w:World} {fn:Func} {rs:List ResultVar} (hr:fn.results=rs.toArray) {vs:List Value} (h:uM e rs=some vs):
    (results fn a.tmps).run P w= .ok (bA vs) w:=by
  unfold results
  rw [hr]
  have h1:=Jt (P:=P) (w:=w) (fun x=>match x with
      |ResultVar.tmp t=>(pure (a.tmps.getD t undef):Sem Value)
      |ResultVar.cell b t=>do loadVar t (←asAddr (a.tmps.getD b undef)))
    (fun t v hl=>by
      have h1:=hf.2 t v hl
      show Result.ok (a.tmps.getD t undef) w=_
      rw [Array.getD_eq_getD_getElem?,h1];rfl) rs vs h
  simp only [List.mapM_toArray,Sem.run_bind,Sem.run_map]
  generalize hX:Sem.run P (List.mapM _ rs) w=X
  obtain rfl:Result.ok vs w=X:=by rw [←hX];exact h1.symm
  simp only [Result.andThen]
  cases vs with
  |nil=>simp [bA]
  |cons v l=>cases l with
    |nil=>simp [bA]
    |cons u l=>simp [bA]

theorem fY {P:Program} {fn:Func} {tmps:Array Value} {R:Ending→World→Prop} {v:Value} :
    ∀(ds:List Nat) (w:World),ur ds w→(results fn tmps).run P (shut ds w)= .ok v (shut ds w)→R (.returned v) (shut ds w)→LeavesInM (Wd none) 0 P fn tmps R (ds.map mark) .returning w
  | [],w,_,hr,hR=>by
    exact⟨v,hr,hR⟩
  |D::ds,w,hm,hr,hR=>by
    refine ⟨by simp,.inl ⟨D,_,rfl,run_takeDeferred hm.1,?_⟩⟩
    exact fY ds _ hm.2 hr hR

section
variable {P:Program} {fn:Func} {N:Nat} {e:Env} {ds:List Nat} {w:World} {R:Value→World→Prop} {vs:List Value}
/-- A function is left: its results lie in temporaries. -/
theorem QE.leave (rs:List ResultVar) (hr:fn.results=rs.toArray) (h:uM e rs=some vs) (hm:ur ds w) (hR:R (bA vs) (shut ds w)):QE N (px P fn R) .ret e ds w:=fun a hf hd=>by
  show LeavesInM _ _ _ _ _ _ _ _ _
  rw [hd]
  exact fY ds w hm (qV hf hr h) ⟨_,rfl,hR⟩
theorem QE.Rs (rs:List ResultVar) (hr:fn.results=rs.toArray) (h:uM e rs=some vs) (hm:ur ds w) (hR:R (bA vs) (shut ds w)):QE N (px P fn R) .normal e ds w:=fun a hf hd=>by
  show LeavesInM _ _ _ _ _ _ _ _ _
  rw [hd]
  exact fY ds w hm (qV hf hr h) ⟨_,rfl,hR⟩
end

abbrev aa:=List (Nat×Obj)

def Mem (w:World) (M:aa):Prop:=(M.map (·.1)).Nodup∧∀p∈M,w.heap[p.1]? =some p.2

/-- From w to w' no block has gone, and of the blocks of w those outside S are as they were. -/
structure cX (S:Nat→Prop) (w w':World):Prop where
  os:w'.os=w.os
  tape:w'.tape=w.tape
  output:w'.output=w.output
  size:w.heap.size≤w'.heap.size
  block:∀b,b<w.heap.size→¬S b→w'.heap[b]? =w.heap[b]?

def no:Nat→Prop:=fun _=>False
abbrev Ext (w w':World):Prop:=cX no w w'

theorem cX.refl (S:Nat→Prop) (w:World):cX S w w:=⟨rfl,rfl,rfl,Nat.le_refl _,fun _ _ _=>rfl⟩
theorem cX.trans {S:Nat→Prop} {a b c:World} (h:cX S a b) (k:cX S b c):cX S a c:=
  ⟨k.os.trans h.os,k.tape.trans h.tape,k.output.trans h.output,Nat.le_trans h.size k.size,fun x hx hs=>(k.block x (Nat.lt_of_lt_of_le hx h.size) hs).trans (h.block x hx hs)⟩
/-- A step that changes T alone, behind steps that change S. -/
theorem cX.step {S T:Nat→Prop} {a b c:World} (h:cX S a b) (k:cX T b c) (hs:∀x,x<a.heap.size→T x→S x):cX S a c:=
  ⟨k.os.trans h.os,k.tape.trans h.tape,k.output.trans h.output,Nat.le_trans h.size k.size,fun x hx hn=>(k.block x (Nat.lt_of_lt_of_le hx h.size) (fun q=>hn (hs x hx q))).trans (h.block x hx hn)⟩
theorem Ext.below {w w':World} (h:Ext w w'):Below w.heap.size w w':=⟨h.os,h.tape,h.output,h.size,fun k hk=>h.block k hk (fun q=>q)⟩
theorem Ext.Ky {w w':World} (h:Below w.heap.size w w'):Ext w w':=⟨h.os,h.tape,h.output,h.size,fun k hk _=>h.block k hk⟩
theorem Ext.get {w w':World} (h:Ext w w') {b:Nat} {o:Obj} (hb:w.heap[b]? =some o):w'.heap[b]? =some o:=by
  rw [h.block b (Array.getElem?_eq_some_iff.1 hb).1 (fun q=>q)];exact hb
theorem cX.get {S:Nat→Prop} {w w':World} (h:cX S w w') {b:Nat} {o:Obj} (hb:w.heap[b]? =some o) (hn:¬S b):w'.heap[b]? =some o:=by
  rw [h.block b (Array.getElem?_eq_some_iff.1 hb).1 hn];exact hb
theorem cX.drew (S:Nat→Prop) (w:World):cX S w {w with drawn:=w.drawn+1} :=⟨rfl,rfl,rfl,Nat.le_refl _,fun _ _ _=>rfl⟩

theorem Mem.get {w:World} {M:aa} (h:Mem w M) {i b:Nat} {o:Obj} (hi:M[i]? =some (b,o)):w.heap[b]? =some o:=h.2 _ (List.mem_of_getElem? hi)
theorem Mem.lt {w:World} {M:aa} (h:Mem w M) {p:Nat×Obj} (hp:p∈M):p.1<w.heap.size:=(Array.getElem?_eq_some_iff.1 (h.2 p hp)).1
theorem Mem.nil (w:World):Mem w [] :=⟨List.nodup_nil,fun _ h=>by cases h⟩
theorem Mem.ext {w w':World} {M:aa} (h:Mem w M) (k:Ext w w'):Mem w' M:=⟨h.1,fun p hp=>k.get (h.2 p hp)⟩
theorem Mem.keep {S:Nat→Prop} {w w':World} {M:aa} (h:Mem w M) (k:cX S w w') (hn:∀p∈M,¬S p.1):Mem w' M:=⟨h.1,fun p hp=>k.get (h.2 p hp) (hn p hp)⟩
theorem Mem.cons {w:World} {M:aa} (h:Mem w M) {b:Nat} {o:Obj} (hb:w.heap[b]? =some o) (hn:∀p∈M,p.1≠b):Mem w ((b,o)::M):=by
  refine ⟨?_,fun p hp=>?_⟩
  · simp only [List.map_cons,List.nodup_cons]
    refine ⟨fun hm=>?_,h.1⟩
    obtain ⟨p,hp,he⟩:=List.mem_map.1 hm
    exact hn p hp he
  · rcases List.mem_cons.1 hp with rfl|hp
    · exact hb
    · exact h.2 p hp
theorem Mem.tail {w:World} {M:aa} {p:Nat×Obj} (h:Mem w (p::M)):Mem w M:=⟨(List.nodup_cons.1 h.1).2,fun q hq=>h.2 q (List.mem_cons_of_mem _ hq)⟩
theorem Mem.sub {w:World} {M M':aa} (h:Mem w M) (hs:List.Sublist M' M):Mem w M':=⟨h.1.sublist (hs.map _),fun p hp=>h.2 p (hs.subset hp)⟩
theorem Mem.perm {w:World} {M M':aa} (h:Mem w M) (hs:M.Perm M'):Mem w M':=⟨(hs.map _).nodup_iff.1 h.1,fun p hp=>h.2 p (hs.mem_iff.2 hp)⟩
/-- One block of the list has become another. -/
theorem Mem.set {w w':World} {M:aa} (h:Mem w M) {i b:Nat} {o o':Obj} (hi:M[i]? =some (b,o)) (hb:w'.heap[b]? =some o') (k:cX (fun x=>x=b) w w'):Mem w' (M.set i (b,o')):=by
  have bB:i<M.length:=(List.getElem?_eq_some_iff.1 hi).1
  have aeV:M[i] =(b,o):=(List.getElem?_eq_some_iff.1 hi).2
  have abm:(M.set i (b,o')).map (·.1)=M.map (·.1):=by
    apply List.ext_getElem?
    intro j
    simp only [List.getElem?_map,List.getElem?_set]
    by_cases NS:i=j
    · subst NS;simp [bB,aeV]
    · simp [NS]
  refine ⟨by rw [abm];exact h.1,fun p hp=>?_⟩
  obtain ⟨j,hj⟩:=List.getElem?_of_mem hp
  rw [List.getElem?_set] at hj
  by_cases NS:i=j
  · subst NS;simp [bB] at hj;subst hj;exact hb
  · simp only [NS,if_false] at hj
    have ph:p∈M:=List.mem_of_getElem? hj
    refine k.get (h.2 p ph) (fun hpb=>NS ?_)
    have dt:=h.1
    have e1:(M.map (·.1))[i]? =some b:=by simp [hi]
    have e2:(M.map (·.1))[j]? =some b:=by simp [hj,hpb]
    exact(List.nodup_iff_injective_get? dt e1 e2)
where
  List.nodup_iff_injective_get? {l:List Nat} (h:l.Nodup) {i j x:Nat} (h1:l[i]? =some x) (h2:l[j]? =some x):i=j:=by
    induction l generalizing i j with
    |nil=>simp at h1
    |cons a l ih=>
      rw [List.nodup_cons] at h
      cases i with
      |zero=>
        cases j with
        |zero=>rfl
        |succ j=>simp at h1 h2;subst h1;exact absurd (List.mem_of_getElem? h2) h.1
      |succ i=>
        cases j with
        |zero=>simp at h1 h2;subst h2;exact absurd (List.mem_of_getElem? h1) h.1
        |succ j=>simp at h1 h2;rw [ih h.2 h1 h2]

section defs
variable (P:Program) (r:Option Nat) (N:Nat)
def af (c:Code) (Q:Exit→Act→World→Prop) (e:Env) (ds:List Nat) (M:aa) (S:Nat→Prop) (w0:World) (G:World→Prop):Prop:=∀w,Mem w M→cX S w0 w→G w→od P r N c Q e ds w
def LM (ops:Array Oper) (Q:Exit→Act→World→Prop) (l:List Oper) (e:Env) (ds:List Nat) (M:aa) (S:Nat→Prop) (w0:World) (G:World→Prop):Prop:=∀w,Mem w M→cX S w0 w→G w→LE P r N ops Q l e ds w
def QM (Q:Exit→Act→World→Prop) (x:Exit) (e:Env) (ds:List Nat) (M:aa) (S:Nat→Prop) (w0:World) (G:World→Prop):Prop:=∀w,Mem w M→cX S w0 w→G w→QE N Q x e ds w
/-- The objects of loops over functions. -/
def bW:Obj→Bool
  | .loop _=>true
  | .deferred _=>true
  |_=>false
/-- Those are kept. -/
def LS (w w':World):Prop:=∀(b:Nat) (o:Obj),w.heap[b]? =some o→bW o=true→w'.heap[b]? =some o
theorem LS.one {w w':World} {b:Nat} {o:Obj} (h:cX (fun x=>x=b) w w') (hb:w.heap[b]? =some o) (hw:bW o=false):LS w w':=fun k u hk hu=>by
  refine h.get hk (fun e=>?_)
  subst e
  rw [hk] at hb;cases hb
  rw [hu] at hw;cases hw
/-- Whatever else is known of the world: it stands when blocks are laid; when one is changed. -/
class GS (G:World→Prop):Prop where
  ext:∀w w',G w→Ext w w'→G w'
class GT (G:World→Prop):Prop extends GS G where
  xQ:∀S w w',G w→cX S w w'→LS w w'→G w'
def top:World→Prop:=fun _=>True
instance:GT top where
  ext:=fun _ _ _ _=>trivial
  xQ:=fun _ _ _ _ _ _=>trivial
end defs

section
variable {P:Program} {r:Option Nat} {N:Nat} {Q:Exit→Act→World→Prop} {e:Env} {ds:List Nat} {M:aa} {S:Nat→Prop} {w0:World} {G:World→Prop}

theorem QM.sub {x:Exit} {e':Env} (hs:Sub e e') (h:QM N Q x e' ds M S w0 G):QM N Q x e ds M S w0 G:=fun w hm hc hg=>(h w hm hc hg).sub hs
theorem af.mem {c:Code} {M':aa} (hs:∀w,Mem w M→Mem w M') (h:af P r N c Q e ds M' S w0 G):af P r N c Q e ds M S w0 G:=fun w hm hc hg=>h w (hs w hm) hc hg
theorem QM.mem {x:Exit} {M':aa} (hs:∀w,Mem w M→Mem w M') (h:QM N Q x e ds M' S w0 G):QM N Q x e ds M S w0 G:=fun w hm hc hg=>h w (hs w hm) hc hg
theorem LM.mem {ops:Array Oper} {l:List Oper} {M':aa} (hs:∀w,Mem w M→Mem w M') (h:LM P r N ops Q l e ds M' S w0 G):LM P r N ops Q l e ds M S w0 G:=fun w hm hc hg=>h w (hs w hm) hc hg

theorem af.seq {x y:Code} (h:af P r N x (Exit.then (y.wpIn (Wd r) 0 P Q) Q) e ds M S w0 G):af P r N (.seq x y) Q e ds M S w0 G:=fun w hm hc hg=> .seq (h w hm hc hg)
theorem af.skip (h:QM N Q .normal e ds M S w0 G):af P r N .skip Q e ds M S w0 G:=fun w hm hc hg=> .skip (h w hm hc hg)
theorem af.exit {id:Nat} (h:QM N Q (.exit id) e ds M S w0 G):af P r N (.exit id) Q e ds M S w0 G:=fun w hm hc hg=> .exit (h w hm hc hg)
theorem af.ret (h:QM N Q .ret e ds M S w0 G):af P r N .ret Q e ds M S w0 G:=fun w hm hc hg=> .ret (h w hm hc hg)
theorem af.block {id:Nat} {c:Code} (h:af P r N c (Exit.inBlock id Q) e ds M S w0 G):af P r N (.block id c) Q e ds M S w0 G:=fun w hm hc hg=> .block (h w hm hc hg)
theorem af.region {id:Nat} {l:List Oper} (h:LM P r N l.toArray Q l e ds M S w0 G):af P r N (.region id l.toArray false) Q e ds M S w0 G:=fun w hm hc hg=> .region (h w hm hc hg)
theorem af.KA {c:Operand} {x y:Code} (hc:ev e c=some (.bool true)) (h:af P r N x Q e ds M S w0 G):af P r N (.cond c x y) Q e ds M S w0 G:=fun w hm gC hg=> .KA hc (h w hm gC hg)
theorem af.LZ {c:Operand} {x y:Code} (hc:ev e c=some (.bool false)) (h:af P r N y Q e ds M S w0 G):af P r N (.cond c x y) Q e ds M S w0 G:=fun w hm gC hg=> .LZ hc (h w hm gC hg)
theorem af.aj {p:Prop} [Decidable p] {c:Operand} {x y:Code} (hc:ev e c=some (.bool (decide p))) (h1:p→af P r N x Q e ds M S w0 G) (h2:¬p→af P r N y Q e ds M S w0 G):
    af P r N (.cond c x y) Q e ds M S w0 G:=fun w hm gC hg=> .aj hc (fun hp=>h1 hp w hm gC hg) (fun hp=>h2 hp w hm gC hg)
theorem af.aW {b:Bool} {c:Operand} {x y:Code} (hc:ev e c=some (.bool b)) (h1:b=true→af P r N x Q e ds M S w0 G) (h2:b=false→af P r N y Q e ds M S w0 G):
    af P r N (.cond c x y) Q e ds M S w0 G:=fun w hm gC hg=> .aW hc (fun hp=>h1 hp w hm gC hg) (fun hp=>h2 hp w hm gC hg)

theorem QM.then {y:Code} (h:af P r N y Q e ds M S w0 G):QM N (Exit.then (y.wpIn (Wd r) 0 P Q) Q) .normal e ds M S w0 G:=h
theorem QM.Hn {K:Act→World→Prop} {id:Nat} (h:QM N Q (.exit id) e ds M S w0 G):QM N (Exit.then K Q) (.exit id) e ds M S w0 G:=h
theorem QM.Lv {K:Act→World→Prop} (h:QM N Q .ret e ds M S w0 G):QM N (Exit.then K Q) .ret e ds M S w0 G:=h
theorem QM.zm {id:Nat} (h:QM N Q .normal e ds M S w0 G):QM N (Exit.inBlock id Q) .normal e ds M S w0 G:=h
theorem QM.Gl {id:Nat} (h:QM N Q .ret e ds M S w0 G):QM N (Exit.inBlock id Q) .ret e ds M S w0 G:=h
theorem QM.sk {id:Nat} (h:QM N Q .normal e ds M S w0 G):QM N (Exit.inBlock id Q) (.exit id) e ds M S w0 G:=fun w hm hc hg=> .sk (h w hm hc hg)
theorem QM.pQ {id k:Nat} (hk:Nat.beq k id=false) (h:QM N Q (.exit k) e ds M S w0 G):QM N (Exit.inBlock id Q) (.exit k) e ds M S w0 G:=fun w hm hc hg=> .pQ hk (h w hm hc hg)

/-- A loop: its state is a value of a type; the frame's list, the memory's list, what else is known, a relation, a measure. -/
def Xb (N:Nat) (ds:List Nat) (S:Nat→Prop) (w0:World) {α:Type} (E:α→Env) (MM:α→aa) (GG:α→World→Prop) (I:α→Prop) (μ:α→Nat) (x:α) (a':Act) (w':World):Prop:=
  ∃y,Fr N (E y) a'∧Dm ds a'∧(Mem w' (MM y)∧cX S w0 w'∧GG y w'∧I y)∧μ y<μ x
theorem af.YJ {α:Type} {c:Code} (E:α→Env) (MM:α→aa) (GG:α→World→Prop) (I:α→Prop) (μ:α→Nat) (x0:α) (hs:Sub e (E x0)) (hM:∀w,Mem w M→Mem w (MM x0)) (hG:∀w,G w→GG x0 w) (h0:I x0)
    (round:∀x,I x→af P r N c (Exit.then (Xb N ds S w0 E MM GG I μ x) Q) (E x) ds (MM x) S w0 (GG x)):
    af P r N (.loop c) Q e ds M S w0 G:=fun w hm hc hg=>
  od.loop E (fun x w=>Mem w (MM x)∧cX S w0 w∧GG x w∧I x) μ x0 hs ⟨hM w hm,hc,hG w hg,h0⟩ (fun x w ⟨h1,h2,h3,h4⟩=>round x h4 w h1 h2 h3)
theorem QM.Tn {α:Type} {E:α→Env} {MM:α→aa} {GG:α→World→Prop} {I:α→Prop} {μ:α→Nat} {x:α} (y:α) (hs:Sub e (E y)) (hM:∀w,Mem w M→Mem w (MM y)) (hG:∀w,G w→GG y w) (hI:I y) (hm:μ y<μ x):
    QM N (Exit.then (Xb N ds S w0 E MM GG I μ x) Q) .normal e ds M S w0 G:=fun w hw hc hg _ hf hd=>⟨y,hf.sub hs,hd,⟨hM w hw,hc,hG w hg,hI⟩,hm⟩
/-! ### Operations -/
section ops
variable {ops:Array Oper} {l:List Oper} {op:Op} {ty:TypeId} {pos:String} {after:Array Edge} {d:Nat} {v:Value}

/-- The operation yields v, in whatever world, and leaves it as it is. -/
def fb (P:Program) (op:Op) (ty:TypeId) (e:Env) (v:Value):Prop:=∀w,rA P op ty e w v w

theorem LM.nil (h:QM N Q .normal e ds M S w0 G):LM P r N ops Q [] e ds M S w0 G:=fun w hm hc hg=> .nil (h w hm hc hg)
theorem LM.val (hv:fb P op ty e v) (h:LM P r N ops Q l ((d,v)::e) ds M S w0 G) (dt:nd op=true:=by rfl) (hd:Nat.blt d N=true:=by rfl):
    LM P r N ops Q (⟨some d,op,ty,pos,after,none⟩::l) e ds M S w0 G:=fun w hm hc hg=> .val (hv w) (h w hm hc hg) dt hd
/-- An operation that reads the memory. -/
theorem LM.rd (hv:∀w,Mem w M→rA P op ty e w v w) (h:LM P r N ops Q l ((d,v)::e) ds M S w0 G) (dt:nd op=true:=by rfl) (hd:Nat.blt d N=true:=by rfl):
    LM P r N ops Q (⟨some d,op,ty,pos,after,none⟩::l) e ds M S w0 G:=fun w hm hc hg=> .val (hv w hm) (h w hm hc hg) dt hd
/-- An operation that reads what lay there at the function's beginning, too. -/
theorem LM.eT (hv:∀w,Mem w M→cX S w0 w→G w→rA P op ty e w v w) (h:LM P r N ops Q l ((d,v)::e) ds M S w0 G) (dt:nd op=true:=by rfl) (hd:Nat.blt d N=true:=by rfl):
    LM P r N ops Q (⟨some d,op,ty,pos,after,none⟩::l) e ds M S w0 G:=fun w hm hc hg=> .val (hv w hm hc hg) (h w hm hc hg) dt hd
theorem LM.strip {o:Oper} {j t:Nat} {b:Bool} (hj:(ops[j]?).bind (·.dst)=some t) (ht:look e t=some (.bool b)) (ho:o.guard=some (j,b))
    (h:LM P r N ops Q ({o with guard:=none} ::l) e ds M S w0 G):LM P r N ops Q (o::l) e ds M S w0 G:=fun w hm hc hg=> .strip hj ht ho (h w hm hc hg)
theorem LM.drop {j t:Nat} {b c:Bool} (hj:(ops[j]?).bind (·.dst)=some t) (ht:look e t=some (.bool c)) (RW:(c==b)=false)
    (h:LM P r N ops Q l e ds M S w0 G) (hd:Nat.blt d N=true:=by rfl) (uA:look e d=none:=by rfl):LM P r N ops Q (⟨some d,op,ty,pos,after,some (j,b)⟩::l) e ds M S w0 G:=fun w hm hc hg=>
  .drop hj ht RW (LE.HD uA (h w hm hc hg)) hd
where
  LE.HD {P:Program} {r:Option Nat} {N:Nat} {ops:Array Oper} {Q:Exit→Act→World→Prop} {l:List Oper} {e:Env} {ds:List Nat} {w:World} {d:Nat} {u:Value} (hd:look e d=none)
      (h:LE P r N ops Q l e ds w):LE P r N ops Q l ((d,u)::e) ds w:=fun a hf eN=>h a ⟨hf.1,fun t v hv=>hf.2 t v (by
        rw [dP]
        by_cases H0:d=t
        · subst H0;rw [hd] at hv;cases hv
        · rw [if_neg H0];exact hv)⟩ eN
theorem LM.ar {t:Nat} {p:Prop} [Decidable p] (ht:look e t=some (.bool (decide p))) (h1:p→LM P r N ops Q l ((t,.bool true)::e) ds M S w0 G) (h2:¬p→LM P r N ops Q l ((t,.bool false)::e) ds M S w0 G):
    LM P r N ops Q l e ds M S w0 G:=fun w hm hc hg=> .ar ht (fun hp=>h1 hp w hm hc hg) (fun hp=>h2 hp w hm hc hg)
theorem LM.bu {t:Nat} {b:Bool} (ht:look e t=some (.bool b)) (h1:b=true→LM P r N ops Q l ((t,.bool true)::e) ds M S w0 G) (h2:b=false→LM P r N ops Q l ((t,.bool false)::e) ds M S w0 G):
    LM P r N ops Q l e ds M S w0 G:=fun w hm hc hg=> .bu ht (fun hp=>h1 hp w hm hc hg) (fun hp=>h2 hp w hm hc hg)

/-- A call. -/
theorem LM.call {f:FuncId} {args:Array Value} {R:World→Value→World→Prop} (hc:∀w,yy P op ty e w f args) (h:∀w,Mem w M→cX S w0 w→G w→aJ P f args w (R w))
    (hk:∀w v w',Mem w M→cX S w0 w→G w→R w v w'→LE P r N ops Q l ((d,v)::e) ds w') (dt:nd op=true:=by rfl) (hd:Nat.blt d N=true:=by rfl):
    LM P r N ops Q (⟨some d,op,ty,pos,after,none⟩::l) e ds M S w0 G:=fun w hm gC hg=> .call (hc w) (h w hm gC hg) (fun v w' hR=>hk w v w' hm gC hg hR) dt hd
/-- A call that changes nothing that was there, and whose value is known. -/
theorem LM.A4 [GS G] {f:FuncId} {args:Array Value} {v:Value} (hc:∀w,yy P op ty e w f args) (h:∀w,Mem w M→cX S w0 w→G w→aJ P f args w (fun u w'=>u=v∧Ext w w'))
    (hk:LM P r N ops Q l ((d,v)::e) ds M S w0 G) (dt:nd op=true:=by rfl) (hd:Nat.blt d N=true:=by rfl):
    LM P r N ops Q (⟨some d,op,ty,pos,after,none⟩::l) e ds M S w0 G:=
  .call hc (fun w hm gC hg=>h w hm gC hg) (fun w _ w' hm gC hg ⟨hu,he⟩=>by rw [hu];exact hk w' (hm.ext he) (gC.step he (fun _ _ q=>q.elim)) (GS.ext w w' hg he)) dt hd
/-- A call that changes one block of the list. -/
theorem LM.X2 [GT G] {f:FuncId} {args:Array Value} {v:Value} (i:Nat) {b:Nat} {o o':Obj} (hM:M[i]? =some (b,o)) (hw:bW o=false) (hb:b<w0.heap.size→S b) (hc:∀w,yy P op ty e w f args)
    (h:∀w,Mem w M→cX S w0 w→G w→aJ P f args w (fun u w'=>u=v∧cX (fun x=>x=b) w w'∧w'.heap[b]? =some o'))
    (hk:LM P r N ops Q l ((d,v)::e) ds (M.set i (b,o')) S w0 G) (dt:nd op=true:=by rfl) (hd:Nat.blt d N=true:=by rfl):
    LM P r N ops Q (⟨some d,op,ty,pos,after,none⟩::l) e ds M S w0 G:=
  .call hc (fun w hm gC hg=>h w hm gC hg) (fun w _ w' hm gC hg ⟨hu,he,ho⟩=>by
    rw [hu];exact hk w' (hm.set hM ho he) (gC.step he (fun k bB OW=>by subst OW;exact hb bB)) (GT.xQ _ w w' hg he (.one he (hm.get hM) hw))) dt hd
/-- A call that changes nothing that was there; its value is whatever 'T' says with the blocks that hold it. -/
theorem LM.iO [GS G] {f:FuncId} {args:Array Value} {T:Nat→Value→aa→Prop} (hc:∀w,yy P op ty e w f args) (Ii:∀n n' u m,n'≤n→T n u m→T n' u m)
    (h:∀w,Mem w M→cX S w0 w→G w→aJ P f args w (fun u w'=>Ext w w'∧∃m,T w.heap.size u m∧Mem w' m∧∀p∈m,w.heap.size≤p.1))
    (hk:∀u m,T w0.heap.size u m→(∀p∈m,w0.heap.size≤p.1)→LM P r N ops Q l ((d,u)::e) ds (m++M) S w0 G) (dt:nd op=true:=by rfl) (hd:Nat.blt d N=true:=by rfl):
    LM P r N ops Q (⟨some d,op,ty,pos,after,none⟩::l) e ds M S w0 G:=
  .call hc (fun w hm gC hg=>h w hm gC hg) (fun w u w' hm gC hg ⟨he,m,hT,aq,FW⟩=>by
    refine hk u m (Ii _ _ u m gC.size hT) (fun p hp=>Nat.le_trans gC.size (FW p hp)) w' ?_ (gC.step he (fun _ _ q=>q.elim)) (GS.ext w w' hg he)
    refine ⟨?_,fun p hp=>?_⟩
    · rw [List.map_append]
      refine List.nodup_append.2 ⟨aq.1,hm.1,?_⟩
      intro x hx y hy SJ
      obtain ⟨p,hp,rfl⟩:=List.mem_map.1 hx
      obtain ⟨q,hq,rfl⟩:=List.mem_map.1 hy
      have:=FW p hp
      have:=hm.lt hq
      omega
    · rcases List.mem_append.1 hp with hp|hp
      · exact aq.2 p hp
      · exact he.get (hm.2 p hp)) dt hd
end ops
end

/-! ### A function's contract out of its body -/
theorem aJ.au {P:Program} {f:FuncId} {fn:Func} {c:Code} {l:List Value} {w:World} {R:Value→World→Prop}
    (hf:P.funcs[f]? =some fn) (hb:fn.body=some c) {N:Nat} (hN:fn.ntmps=N) (hl:Nat.ble l.length N=true) (M:aa) (S:Nat→Prop) (hM:Mem w M)
    (h:af P none N c (px P fn R) (xn 0 l) [] M S w top):aJ P f l.toArray w R:=
  .enter hf hb hN.symm hl (h w hM (.refl _ _) trivial)
section
variable {P:Program} {fn:Func} {N:Nat} {e:Env} {ds:List Nat} {M:aa} {S:Nat→Prop} {w0:World} {G:World→Prop} {R:Value→World→Prop} {vs:List Value}
theorem QM.leave {x:Exit} (hx:x= .ret∨x= .normal) (rs:List ResultVar) (hr:fn.results=rs.toArray) (h:uM e rs=some vs) (hR:∀w,Mem w M→cX S w0 w→G w→R (bA vs) w):QM N (px P fn R) x e [] M S w0 G:=fun w hm hc hg=>by
  rcases hx with rfl|rfl
  · exact .leave rs hr h trivial (hR w hm hc hg)
  · exact .Rs rs hr h trivial (hR w hm hc hg)
end

section
variable {P:Program} {ty:TypeId} {e:Env} {w:World}

theorem wrap_i64 (n:Int) (h: -9223372036854775808≤n∧n≤9223372036854775807):IntKind.i64.wrap n=n:=by
  simp only [IntKind.signed,IntKind.bits,IntKind.wrap];simp;omega
theorem Jj (n:Int) (h:0≤n∧n≤18446744073709551615):IntKind.u64.wrap n=n:=by
  simp only [IntKind.signed,IntKind.bits,IntKind.wrap];simp;omega
theorem yg (n:Int):IntKind.u64.wrap n=n % 18446744073709551616:=by
  simp only [IntKind.signed,IntKind.bits,IntKind.wrap];simp
theorem jX (n:Int):IntKind.u64.wrap n=((BitVec.ofInt 64 n).toNat:Int):=by
  simp only [IntKind.signed,IntKind.bits,IntKind.wrap,BitVec.toNat_ofInt];simp;omega
theorem Fl {x:Operand} {v:Value} (h:ev e x=some v):fb P (.move x) ty e v:=fun w ρ hρ _ _ _ _=>by
  simp [execOp,hρ x v h]
theorem xU {x:Operand} {v:Value} (h:ev e x=some v):fb P (.assign x) ty e v:=fun w ρ hρ _ _ _ _=>by
  simp [execOp,hρ x v h]
theorem LW {c a b:Operand} {v:Value} (hc:ev e c=some (.bool true)) (h:ev e a=some v):fb P (.pick c a b) ty e v:=fun w ρ hρ _ _ _ _=>by
  simp [execOp,hρ c _ hc,hρ a _ h,asBool]
theorem LO {c a b:Operand} {v:Value} (hc:ev e c=some (.bool false)) (h:ev e b=some v):fb P (.pick c a b) ty e v:=fun w ρ hρ _ _ _ _=>by
  simp [execOp,hρ c _ hc,hρ b _ h,asBool]

/-! integers -/
section ints
variable {x y:Operand} {k:IntKind} {a b:Int} {t u:TypeId}
theorem mH (op:BinOp) (t:TypeId) (x y:Operand) (k k':IntKind) (a b:Int) (w:World):(eqGuard op t x y (.int k a) (.int k' b)).run P w= .ok () w:=by
  unfold eqGuard;cases op<;>rfl
theorem cj {op:BinOp} {v:Value} (hx:ev e x=some (.int k a)) (hy:ev e y=some (.int k b))
    (h:∀w,(binOp op t (.int k a) (.int k b)).run P w= .ok v w):fb P (.binOp op t x y u) ty e v:=fun w ρ hρ _ _ _ _=>by
  simp [execOp,hρ x _ hx,hρ y _ hy,mH,h,Result.andThen]
theorem SM (hx:ev e x=some (.int k a)) (hy:ev e y=some (.int k b)):fb P (.binOp .add t x y u) ty e (.int k (k.wrap (a+b))):=cj hx hy (fun w=>by simp [binOp,Op.intArith])
theorem Ry (hx:ev e x=some (.int k a)) (hy:ev e y=some (.int k b)):fb P (.binOp .sub t x y u) ty e (.int k (k.wrap (a-b))):=cj hx hy (fun w=>by simp [binOp,Op.intArith])
theorem Uk (hx:ev e x=some (.int k a)) (hy:ev e y=some (.int k b)):fb P (.binOp .mul t x y u) ty e (.int k (k.wrap (a*b))):=cj hx hy (fun w=>by simp [binOp,Op.intArith])
theorem nf (hx:ev e x=some (.int .i64 a)) (hy:ev e y=some (.int .i64 b)) (h: -9223372036854775808≤a+b∧a+b≤9223372036854775807):fb P (.binOp .add t x y u) ty e (.int .i64 (a+b)):=by
  have:=SM (P:=P) (ty:=ty) (t:=t) (u:=u) hx hy;rwa [wrap_i64 _ h] at this
theorem z6 (hx:ev e x=some (.int .i64 a)) (hy:ev e y=some (.int .i64 b)) (h: -9223372036854775808≤a-b∧a-b≤9223372036854775807):fb P (.binOp .sub t x y u) ty e (.int .i64 (a-b)):=by
  have:=Ry (P:=P) (ty:=ty) (t:=t) (u:=u) hx hy;rwa [wrap_i64 _ h] at this
theorem A0 (hx:ev e x=some (.int .i64 a)) (hy:ev e y=some (.int .i64 b)) (h: -9223372036854775808≤a*b∧a*b≤9223372036854775807):fb P (.binOp .mul t x y u) ty e (.int .i64 (a*b)):=by
  have:=Uk (P:=P) (ty:=ty) (t:=t) (u:=u) hx hy;rwa [wrap_i64 _ h] at this
theorem RL (hx:ev e x=some (.int k a)) (hy:ev e y=some (.int k b)):fb P (.binOp .eql t x y u) ty e (.bool (decide (a=b))):=cj hx hy (fun w=>by
  have:(a==b)=decide (a=b):=by rw [Bool.eq_iff_iff];simp
  simp [binOp,Op.intCmp,this])
theorem Tc (hx:ev e x=some (.int k a)) (hy:ev e y=some (.int k b)):fb P (.binOp .neq t x y u) ty e (.bool (decide (a≠b))):=cj hx hy (fun w=>by
  have:(a != b)=decide (a≠b):=by rw [Bool.eq_iff_iff];simp
  simp [binOp,Op.intCmp,this])
theorem Ty (hx:ev e x=some (.int k a)) (hy:ev e y=some (.int k b)):fb P (.binOp .lss t x y u) ty e (.bool (decide (a<b))):=cj hx hy (fun w=>by simp [binOp,Op.intCmp])
theorem Tl (hx:ev e x=some (.int k a)) (hy:ev e y=some (.int k b)):fb P (.binOp .leq t x y u) ty e (.bool (decide (a≤b))):=cj hx hy (fun w=>by simp [binOp,Op.intCmp])
theorem Rh (hx:ev e x=some (.int k a)) (hy:ev e y=some (.int k b)):fb P (.binOp .gtr t x y u) ty e (.bool (decide (b<a))):=cj hx hy (fun w=>by simp [binOp,Op.intCmp])
theorem Q5 (hx:ev e x=some (.int k a)) (hy:ev e y=some (.int k b)):fb P (.binOp .geq t x y u) ty e (.bool (decide (b≤a))):=cj hx hy (fun w=>by simp [binOp,Op.intCmp])
end ints

/-! 64 bits -/
abbrev U (x:BitVec 64):Value:= .int .u64 (x.toNat:Int)
section bits
variable {x y:Operand} {a b:BitVec 64} {t u:TypeId} {n:Int}
theorem dR (a:BitVec 64):BitVec.ofInt 64 (a.toNat:Int)=a:=by
  apply BitVec.eq_of_toNat_eq;simp
theorem pz (a:BitVec 64):IntKind.u64.wrap (a.toNat:Int)=(a.toNat:Int):=Jj _ (by have:=a.isLt;omega)
theorem gY (hx:ev e x=some (U a)) (hy:ev e y=some (U b)):fb P (.binOp .add t x y u) ty e (U (a+b)):=cj hx hy (fun w=>by
  have:IntKind.u64.wrap ((a.toNat:Int)+b.toNat)=((a+b).toNat:Int):=by rw [jX,BitVec.ofInt_add,dR,dR]
  simp [binOp,Op.intArith,this])
theorem Fi (hx:ev e x=some (U a)) (hy:ev e y=some (U b)):fb P (.binOp .sub t x y u) ty e (U (a-b)):=cj hx hy (fun w=>by
  have:IntKind.u64.wrap ((a.toNat:Int)-b.toNat)=((a-b).toNat:Int):=by
    rw [yg,BitVec.toNat_sub];have:=a.isLt;have:=b.isLt;omega
  simp [binOp,Op.intArith,this])
theorem oI (hx:ev e x=some (U a)) (hy:ev e y=some (U b)):fb P (.binOp .mul t x y u) ty e (U (a*b)):=cj hx hy (fun w=>by
  have:IntKind.u64.wrap ((a.toNat:Int)*b.toNat)=((a*b).toNat:Int):=by rw [jX,BitVec.ofInt_mul,dR,dR]
  simp [binOp,Op.intArith,this])
theorem Re (hx:ev e x=some (U a)) (hy:ev e y=some (U b)):fb P (.binOp .or t x y u) ty e (U (a|||b)):=cj hx hy (fun w=>by
  show Result.ok (Value.int .u64 (IntKind.u64.wrap ((BitVec.ofInt 64 (a.toNat:Int)|||BitVec.ofInt 64 (b.toNat:Int)).toNat:Int))) w=_
  rw [dR,dR,pz])
theorem Ee (hx:ev e x=some (U a)) (hy:ev e y=some (U b)):fb P (.binOp .andNot t x y u) ty e (U (a&&& ~~~b)):=cj hx hy (fun w=>by
  show Result.ok (Value.int .u64 (IntKind.u64.wrap ((BitVec.ofInt 64 (a.toNat:Int)&&& ~~~ BitVec.ofInt 64 (b.toNat:Int)).toNat:Int))) w=_
  rw [dR,dR,pz])
theorem qh (hx:ev e x=some (U a)) (hy:ev e y=some (U b)) (hb:b≠0#64):fb P (.binOp .rem t x y u) ty e (U (a % b)):=cj hx hy (fun w=>by
  have h0:¬(b.toNat:Int)=0:=fun h=>hb (BitVec.eq_of_toNat_eq (by simpa using h))
  have:(a.toNat:Int).tmod (b.toNat:Int)=((a % b).toNat:Int):=by rw [Int.tmod_eq_emod_of_nonneg (by omega),BitVec.toNat_umod];rfl
  simp only [binOp,Op.intDiv,if_neg h0,this,ne_eq,not_true_eq_false,if_false];rfl)
theorem ou (hx:ev e x=some (U a)) (hy:ev e y=some (U b)) (hb:b≠0#64):fb P (.binOp .quo t x y u) ty e (U (a / b)):=cj hx hy (fun w=>by
  have h0:¬(b.toNat:Int)=0:=fun h=>hb (BitVec.eq_of_toNat_eq (by simpa using h))
  have:(a.toNat:Int).tdiv (b.toNat:Int)=((a / b).toNat:Int):=by rw [Int.tdiv_eq_ediv_of_nonneg (by omega),BitVec.toNat_udiv];rfl
  simp only [binOp,Op.intDiv,if_neg h0,this,pz,ne_eq,not_true_eq_false,if_false];rfl)
theorem qF (hx:ev e x=some (U a)) (hy:ev e y=some (U b)):fb P (.binOp .eql t x y u) ty e (.bool (decide (a=b))):=cj hx hy (fun w=>by
  have:((a.toNat:Int)==(b.toNat:Int))=decide (a=b):=by rw [Bool.eq_iff_iff,beq_iff_eq,decide_eq_true_eq,Int.ofNat_inj,BitVec.toNat_inj]
  simp only [binOp,Op.intCmp,this,ne_eq,not_true_eq_false,if_false];rfl)
theorem ET (hx:ev e x=some (U a)) (hy:ev e y=some (U b)):fb P (.binOp .neq t x y u) ty e (.bool (decide (a≠b))):=cj hx hy (fun w=>by
  have:((a.toNat:Int) != (b.toNat:Int))=decide (a≠b):=by rw [Bool.eq_iff_iff,bne_iff_ne,decide_eq_true_eq,ne_eq,ne_eq,Int.ofNat_inj,BitVec.toNat_inj]
  simp only [binOp,Op.intCmp,this,ne_eq,not_true_eq_false,if_false];rfl)
theorem ia (hx:ev e x=some (U a)) (hy:ev e y=some (U b)):fb P (.binOp .lss t x y u) ty e (.bool (decide (a.toNat<b.toNat))):=cj hx hy (fun w=>by simp [binOp,Op.intCmp])
theorem Ot (hx:ev e x=some (U a)) (hy:ev e y=some (U b)):fb P (.binOp .leq t x y u) ty e (.bool (decide (a.toNat≤b.toNat))):=cj hx hy (fun w=>by simp [binOp,Op.intCmp])
theorem lr (hx:ev e x=some (U a)) (hy:ev e y=some (U b)):fb P (.binOp .gtr t x y u) ty e (.bool (decide (b.toNat<a.toNat))):=cj hx hy (fun w=>by simp [binOp,Op.intCmp])
theorem NU (hx:ev e x=some (U a)) (hy:ev e y=some (U b)):fb P (.binOp .geq t x y u) ty e (.bool (decide (b.toNat≤a.toNat))):=cj hx hy (fun w=>by simp [binOp,Op.intCmp])
theorem Ad {op:BinOp} {k k':IntKind} {a b:Int} {v:Value} (hx:ev e x=some (.int k a)) (hy:ev e y=some (.int k' b))
    (h:∀w,(binOp op t (.int k a) (.int k' b)).run P w= .ok v w):fb P (.binOp op t x y u) ty e v:=fun w ρ hρ _ _ _ _=>by
  simp [execOp,hρ x _ hx,hρ y _ hy,mH,h,Result.andThen]
theorem Ox {k':IntKind} (hx:ev e x=some (U a)) (hy:ev e y=some (.int k' n)) (hn:0≤n):fb P (.binOp .shl t x y u) ty e (U (a<<<n.toNat)):=Ad hx hy (fun w=>by
  have h0:¬n<0:=by omega
  have:IntKind.u64.wrap ((a.toNat:Int)*2 ^ (min n.toNat 64))=((a<<<n.toNat).toNat:Int):=by
    rw [jX]
    have e1:((a.toNat:Int)*2 ^ (min n.toNat 64))=((a.toNat*2 ^ (min n.toNat 64):Nat):Int):=by push_cast;rfl
    rw [e1,BitVec.toNat_ofInt,BitVec.toNat_shiftLeft,Nat.shiftLeft_eq]
    by_cases hk:n.toNat≤64
    · rw [Nat.min_eq_left hk];simp;omega
    · rw [Nat.min_eq_right (by omega)]
      have:2 ^ n.toNat=2 ^ 64*2 ^ (n.toNat-64):=by rw [←Nat.pow_add];congr 1;omega
      rw [this,←Nat.mul_assoc,Nat.mul_right_comm]
      simp only [Nat.mul_mod_left]
      simp
  simp only [binOp,Op.shift,if_neg h0,IntKind.bits,this];rfl)
theorem N4 {k':IntKind} (hx:ev e x=some (U a)) (hy:ev e y=some (.int k' n)) (hn:0≤n):fb P (.binOp .shr t x y u) ty e (U (a >>> n.toNat)):=Ad hx hy (fun w=>by
  have h0:¬n<0:=by omega
  have:(a.toNat:Int).fdiv (2 ^ (min n.toNat 64))=((a >>> n.toNat).toNat:Int):=by
    have e1:(2:Int) ^ (min n.toNat 64)=((2 ^ (min n.toNat 64):Nat):Int):=by push_cast;rfl
    rw [e1,Int.fdiv_eq_ediv_of_nonneg _ (Int.natCast_nonneg _),BitVec.toNat_ushiftRight,Nat.shiftRight_eq_div_pow]
    by_cases hk:n.toNat≤64
    · rw [Nat.min_eq_left hk];rfl
    · rw [Nat.min_eq_right (by omega)]
      have h1:a.toNat / 2 ^ 64=0:=Nat.div_eq_of_lt a.isLt
      have h2:a.toNat / 2 ^ n.toNat=0:=Nat.div_eq_of_lt (Nat.lt_of_lt_of_le a.isLt (Nat.pow_le_pow_right (by omega) (by omega)))
      rw [←Int.natCast_ediv,h1,h2]
  simp only [binOp,Op.shift,if_neg h0,IntKind.bits,this];rfl)
/-- int to uint64 and back -/
theorem oc {s:TypeId} {k:IntKind} {d:TypeId} {n:Int} (hs:P.underlying s=some (.int k)) (hd:P.underlying d=some (.int .u64)) (hx:ev e x=some (.int k n)):fb P (.convert s d x) ty e (U (BitVec.ofInt 64 n)):=fun w ρ hρ _ _ _ _=>by
  simp [execOp,hρ x _ hx,convert,run_underlying hs,run_underlying hd,Conv.intToInt,Result.andThen,jX,U]
theorem PD {s d:TypeId} {k k':IntKind} (hs:P.underlying s=some (.int k)) (hd:P.underlying d=some (.int k')) (hx:ev e x=some (.int k n)):fb P (.convert s d x) ty e (.int k' (k'.wrap n)):=fun w ρ hρ _ _ _ _=>by
  simp [execOp,hρ x _ hx,convert,run_underlying hs,run_underlying hd,Conv.intToInt,Result.andThen]
end bits

theorem N2 {x:Operand} {s d:TypeId} {k:IntKind} {n:Int} (hs:P.underlying s=some (.int k)) (hd:P.underlying d=some (.int .i64)) (hx:ev e x=some (.int k n)) (h: -9223372036854775808≤n∧n≤9223372036854775807):fb P (.convert s d x) ty e (.int .i64 n):=by
  have:=PD (P:=P) (ty:=ty) hs hd hx;rwa [wrap_i64 _ h] at this

/-! bools -/
section bools
variable {x y:Operand} {t u:TypeId}
theorem R5 {b:Bool} (hx:ev e x=some (.bool b)):fb P (.unOp .not t x) ty e (.bool (!b)):=fun w ρ hρ _ _ _ _=>by
  simp [execOp,hρ x _ hx,Op.unary]
end bools

/-! built-ins, tuples, functions -/
section ab3
variable {x y:Operand} {t u:TypeId}
theorem Rx {k:IntKind} {a b:Int} {yN:Array TypeId} (hx:ev e x=some (.int k a)) (hy:ev e y=some (.int k b)):fb P (.call {callee:= .builtin .max,args:=#[x,y],argTypes:=yN}) ty e (.int k (if b > a then b else a)):=fun w ρ hρ _ _ _ _=>by
  simp [execOp,resolve,invoke,builtin,Builtin.max_,Builtin.max2,hρ x _ hx,hρ y _ hy]
theorem SD {ad:Option Addr} {n c:Nat} {E:TypeId} (ht:P.underlying t=some (.slice E)) (hx:ev e x=some (.slice ad n c)):fb P (.call {callee:= .builtin .len,args:=#[x],argTypes:=#[t] }) ty e (.int .i64 n):=fun w ρ hρ _ _ _ _=>by
  simp [execOp,resolve,invoke,builtin,Builtin.len_,hρ x _ hx,run_underlying ht,goInt,Result.andThen]
theorem PE {s:ByteArray} (ht:P.underlying t=some .string) (hx:ev e x=some (.string s)):fb P (.call {callee:= .builtin .len,args:=#[x],argTypes:=#[t] }) ty e (.int .i64 s.size):=fun w ρ hρ _ _ _ _=>by
  simp [execOp,resolve,invoke,builtin,Builtin.len_,hρ x _ hx,run_underlying ht,goInt,Result.andThen]
theorem Dz {vs:Array Value} {i:Nat} {v:Value} (hx:ev e x=some (.tuple vs)) (hi:vs[i]? =some v):fb P (.extract x i) ty e v:=fun w ρ hρ _ _ _ _=>by
  simp [execOp,Instr.extract,hρ x _ hx,hi]
theorem s5 {ad:Addr} (hx:ev e x=some (.pointer (some ad))):fb P (.nilCheck x) ty e (.pointer (some ad)):=fun w ρ hρ _ _ _ _=>by
  simp [execOp,hρ x _ hx]
def eP (e:Env):List Operand→Option (List Value)
  | [] =>some []
  |x::l=>match ev e x,eP e l with|some v,some vs=>some (v::vs)|_,_=>none
theorem zx {ρ:Operand→Value} (hρ:∀x u,ev e x=some u→ρ x=u):∀{l:List Operand} {vs:List Value},eP e l=some vs→l.map ρ=vs
  | [],vs,h=>by simp only [eP,Option.some.injEq] at h;subst h;rfl
  |x::l,vs,h=>by
    simp only [eP] at h
    cases hx:ev e x with
    |none=>rw [hx] at h;cases h
    |some v=>
      cases hl:eP e l with
      |none=>rw [hx,hl] at h;cases h
      |some us=>
        rw [hx,hl] at h
        obtain rfl:=Option.some.inj h
        simp [hρ x v hx,zx hρ hl]
/-- A function that has a body is entered. -/
def CR (P:Program) (f:FuncId):Prop:=∀args w,(callFunc f args).run P w= .ok (.enter f args) w
theorem iY {P:Program} {f:FuncId} {fn:Func} {c:Code} (hf:P.funcs[f]? =some fn) (hn:(fn.name== "runtime.NumGoroutine")=false) (hb:fn.body=some c):CR P f:=fun args w=>by
  have h1:fn.name≠ "runtime.NumGoroutine" :=by simpa using hn
  simp [callFunc,hf,h1,hb,Result.andThen]
theorem uh {f:FuncId} {l:List Operand} {vs:List Value} {yN:Array TypeId} (hE:CR P f) (h:eP e l=some vs) (w:World):yy P (.call {callee:= .value (.func f),args:=l.toArray,argTypes:=yN}) ty e w f vs.toArray:=fun ρ hρ _ _ _ _=>by
  simp [execOp,resolve,hρ (.func f) _ rfl,Deferred.ofValue,invoke,zx hρ h]
  exact hE _ _
/-- A call of a function value. -/
theorem AX {g:Operand} {f:FuncId} {first kK:Array Value} {l:List Operand} {vs:List Value} {yN:Array TypeId} (hg:ev e g=some (.func (.func f) first kK)) (hE:CR P f) (h:eP e l=some vs) (w:World):
    yy P (.call {callee:= .value g,args:=l.toArray,argTypes:=yN}) ty e w f (first++vs.toArray++kK):=fun ρ hρ _ _ _ _=>by
  simp [execOp,resolve,hρ g _ hg,Deferred.ofValue,invoke,zx hρ h]
  exact hE _ _
end ab3
end

section
variable {P:Program} {r:Option Nat} {ops:Array Oper}

/-- Only the plain end counts. -/
def Qn (Q:Exit→Act→World→Prop):Exit→Act→World→Prop
  | .normal,a,w=>Q .normal a w
  |_,_,_=>False

/-- In the state a the operation yields v in each world of the class, and leaves it as it is; or it isn't carried out. -/
def YA (P:Program) (ops:Array Oper) (D:World→Prop) (o:Oper) (v:Value) (a:Act):Prop:=
  (Region.wanted o (yielded ops a.tmps)=true∧nd o.op=true∧∀w,D w→(execOp a.eval o).run P w= .ok (.value v) w)∨
  (Region.wanted o (yielded ops a.tmps)=false∧v=undef)

theorem YA.wpOp {D:World→Prop} {i:Nat} {o:Oper} {v:Value} {a:Act} {w:World} {Q:Exit→Act→World→Prop} {K:Act→World→Prop}
    (hi:ops[i]? =some o) (hy:YA P ops D o v a) (hw:D w) (h:K (a.put o.dst v) w):wpOpIn (Wd r) 0 P ops Q i K a w:=by
  unfold wpOpIn
  simp only [hi]
  rcases hy with ⟨h1,h2,h3⟩|⟨h1,rfl⟩
  · rw [if_pos h1];exact DL h2 (h3 w hw) h
  · rw [if_neg (by rw [h1];simp)];exact⟨fun _ _=>trivial,h⟩

theorem YA.put {D:World→Prop} {oi oj:Oper} {v u:Value} {a:Act} (Pv:∀cs b,oi.op≠ .select cs b) (Fb:oi.apart ops oj=true) (hy:YA P ops D oi v a):YA P ops D oi v (a.put oj.dst u):=by
  obtain ⟨_,_,h3⟩:=Oper.apart_spec Fb
  unfold YA at*
  rw [wanted_put oi a oj.dst u h3,execOp_put oi Pv a oj.dst u h3]
  exact hy

/-- Operation j, carried out ahead of i: as behind it. -/
theorem HK {D:World→Prop} {j:Nat} {oi oj:Oper} {v:Value} {Q:Exit→Act→World→Prop} {K:Act→World→Prop} {a:Act} {w:World}
    (hj:ops[j]? =some oj) (Fb:oi.apart ops oj=true) (Pv:∀cs b,oi.op≠ .select cs b) (hsj:∀cs b,oj.op≠ .select cs b) (hdj:nd oj.op=true)
    (hy:YA P ops D oi v a) (h:wpOpIn (Wd r) 0 P ops (Qn Q) j K (a.put oi.dst v) w):
    wpOpIn (Wd r) 0 P ops (Qn Q) j (fun a' w'=>YA P ops D oi v a'∧K (a'.put oi.dst v) w') a w:=by
  obtain ⟨h1,h2,_⟩:=Oper.apart_spec Fb
  unfold wpOpIn at*
  simp only [hj] at*
  rw [wanted_put oj a oi.dst v h1] at h
  by_cases hw:Region.wanted oj (yielded ops a.tmps)=true
  · rw [if_pos hw] at h ⊢
    refine ⟨fun _ _=>trivial,?_⟩
    have h:=h.2
    rw [kS hdj,execOp_put oj hsj a oi.dst v h1] at h
    rw [kS hdj]
    generalize (execOp a.eval oj).run P w=res at*
    cases res with
    |ok x w'=>
      cases x<;>simp only [Oper.uponIn] at h ⊢
      case value u=>exact⟨hy.put Pv Fb,by rw [←Act.put_comm a v u h2];exact h⟩
      case skip=>exact⟨hy.put Pv Fb,by rw [←Act.put_comm a v undef h2];exact h⟩
      case defer d=>
        refine ⟨?_,?_⟩
        · have h4:YA P ops D oi v {a with defers:=d::a.defers} :=hy
          exact h4.put Pv Fb
        · rw [←Act.put_comm _ v undef h2,←Act.put_defers];exact h
      case enter f args=>
        refine ⟨h.1,CallsIn.mono h.2 fun en ZH he=>?_⟩
        cases en with
        |returned u=>exact⟨hy.put Pv Fb,by rw [←Act.put_comm a v u h2];exact he⟩
        |panicked c=>exact he
        |outgrown=>exact he
      case row row args=>exact⟨h.1,RowsIn.mono h.2 fun u ZH he=>⟨hy.put Pv Fb,by rw [←Act.put_comm a v u h2];exact he⟩⟩
      case round l f tmps assign body=>
        refine ⟨h.1,RoundIn.mono h.2 fun en ZH he=>?_⟩
        cases en with
        |returned u=>exact⟨hy.put Pv Fb,by rw [←Act.put_comm a v u h2];exact he⟩
        |panicked c=>exact he
        |outgrown=>exact he
    |halt x w'=>cases x<;>simp only [Oper.uponIn] at h ⊢ <;>exact h
  · rw [if_neg hw] at h ⊢
    exact⟨fun _ _=>trivial,hy.put Pv Fb,by rw [←Act.put_comm a v undef h2];exact h.2⟩

/-- The walk of all orders; as long as no operation of the tail has been carried out the world is of the class. -/
def WS (P:Program) (r:Option Nat) (ops:Array Oper) (Q:Exit→Act→World→Prop) (C:World→Prop) (tl:Nat→Bool):Nat→Array Bool→Act→World→Prop
  |0,aw,a,w=>((∀i,tl i=true→aw.getD i false=false)→C w)∧Region.ready .any ops aw=[]∧Q .normal a w
  |n+1,aw,a,w=>((∀i,tl i=true→aw.getD i false=false)→C w)∧(Region.ready .any ops aw=[]→Q .normal a w)∧
    ∀i∈Region.ready .any ops aw,wpOpIn (Wd r) 0 P ops (Qn Q) i (WS P r ops Q C tl n (aw.setIfInBounds i true)) a w

theorem WS.cls {Q:Exit→Act→World→Prop} {C:World→Prop} {tl:Nat→Bool} {n:Nat} {aw:Array Bool} {a:Act} {w:World} (h:WS P r ops Q C tl n aw a w) (ht:∀i,tl i=true→aw.getD i false=false):C w:=by
  cases n with
  |zero=>exact h.1 ht
  |succ n=>exact h.1 ht

theorem WS.any {Q:Exit→Act→World→Prop} {C:World→Prop} {tl:Nat→Bool} :∀(n:Nat) (aw:Array Bool) (a:Act) (w:World),WS P r ops Q C tl n aw a w→wpAnyIn (Wd r) 0 P .any ops (Qn Q) n aw a w
  |0,_,_,_,h=>⟨h.2.1,h.2.2⟩
  |n+1,_,_,_,h=>⟨h.2.1,fun i hi=>wpOpIn_mono (fun a w=>WS.any n _ a w) (h.2.2 i hi)⟩

theorem cz {aw:Array Bool} {i j:Nat} (h:i≠j) (hi:aw.getD i false=false):(aw.setIfInBounds j true).getD i false=false:=by
  rw [getD_set_ne false (Ne.symm h)];exact hi

/-- Behind another one, by edges that bind. -/
def o8 (ops:Array Oper):Nat→Nat→Nat→Bool
  |0,_,_=>false
  |n+1,j,i=>match ops[j]? with|some o=>o.after.any (fun ed=>Region.binds .any ed&&(ed.on==i||o8 ops n ed.on i))|none=>false
def iB (ops:Array Oper) (aw:Array Bool):Prop:=∀(q:Nat) (o:Oper),aw.getD q false=true→ops[q]? =some o→∀ed∈o.after,Region.binds .any ed=true→aw.getD ed.on false=true
theorem iB.dep {aw:Array Bool} (h:iB ops aw):∀(n j i:Nat),aw.getD j false=true→o8 ops n j i=true→aw.getD i false=true
  |0,_,_,_,hd=>by simp [o8] at hd
  |n+1,j,i,hj,hd=>by
    simp only [o8] at hd
    cases ho:ops[j]? with
    |none=>rw [ho] at hd;cases hd
    |some o=>
      rw [ho] at hd
      obtain ⟨ed,he,hb⟩:=Array.any_eq_true'.1 hd
      simp only [Bool.and_eq_true,Bool.or_eq_true,beq_iff_eq] at hb
      have h1:=h j o hj ho ed he hb.1
      rcases hb.2 with h2|h2
      · rw [←h2];exact h1
      · exact iB.dep h n ed.on i h1 h2
theorem iB.ready {aw:Array Bool} (h:iB ops aw) {n j i:Nat} (hj:j∈Region.ready .any ops aw) (hd:o8 ops n j i=true):aw.getD i false=true:=by
  obtain ⟨_,o,ho,tn⟩:=mem_ready.1 hj
  cases n with
  |zero=>simp [o8] at hd
  |succ n=>
    simp only [o8,ho] at hd
    obtain ⟨ed,he,hb⟩:=Array.any_eq_true'.1 hd
    simp only [Bool.and_eq_true,Bool.or_eq_true,beq_iff_eq] at hb
    have h1:=tn ed he hb.1
    rcases hb.2 with h2|h2
    · rw [←h2];exact h1
    · exact h.dep n ed.on i h1 h2
theorem iB.set {aw:Array Bool} (h:iB ops aw) {j:Nat} (hj:j∈Region.ready .any ops aw):iB ops (aw.setIfInBounds j true):=fun q o hq ho ed he hb=>by
  by_cases e:j=q
  · subst e
    obtain ⟨_,o',SI,tn⟩:=mem_ready.1 hj
    rw [ho] at SI;cases SI
    exact getD_set_true (tn ed he hb)
  · rw [getD_set_ne false e] at hq
    exact getD_set_true (h q o hq ho ed he hb)
/-- An operation that yields v whenever it is carried out may be taken first. -/
theorem WS.first {Q:Exit→Act→World→Prop} {C D:World→Prop} {tl:Nat→Bool} {i:Nat} {oi:Oper} {v:Value} (hi:ops[i]? =some oi) (HN:tl i=false)
    (lM:∀(j:Nat) (o:Oper) cs b,ops[j]? =some o→o.op≠ .select cs b) (dt:∀(j:Nat) (o:Oper),ops[j]? =some o→nd o.op=true)
    (hD:(∀w,D w)∨((∀w,C w→D w)∧∀(j:Nat) (o:Oper),ops[j]? =some o→tl j=true→(∃ed∈o.after,Region.binds .any ed=true∧tl ed.on=true)∨o8 ops 40 j i=true)):
    ∀(n:Nat) (aw:Array Bool) (a:Act) (w:World),iB ops aw→C w→(∀i,tl i=true→aw.getD i false=false)→
      (∀j oj,ops[j]? =some oj→j≠i→aw.getD j true=false→(∀ed∈oj.after,Region.binds .any ed=true→ed.on≠i)→oi.apart ops oj=true)→
      i∈Region.ready .any ops aw→YA P ops D oi v a→
      WS P r ops Q C tl n (aw.setIfInBounds i true) (a.put oi.dst v) w→WS P r ops Q C tl (n+1) aw a w:=by
  have CE:∀w,C w→D w:=fun w hw=>hD.elim (fun h=>h w) (fun h=>h.1 w hw)
  -- the pure case acs of acQ behind the tail, too: one induction on a abH premise
  have key:∀(n:Nat) (aw:Array Bool) (a:Act) (w:World),iB ops aw→((∀i,tl i=true→aw.getD i false=false)→C w)→D w→
      ((∀w,D w)∨∀i,tl i=true→aw.getD i false=false)→
      (∀j oj,ops[j]? =some oj→j≠i→aw.getD j true=false→(∀ed∈oj.after,Region.binds .any ed=true→ed.on≠i)→oi.apart ops oj=true)→
      i∈Region.ready .any ops aw→YA P ops D oi v a→
      WS P r ops Q C tl n (aw.setIfInBounds i true) (a.put oi.dst v) w→WS P r ops Q C tl (n+1) aw a w:=by
    intro n
    induction n with
    |zero=>
      intro aw a w ks hC hDw _ _ hr hy H
      refine ⟨hC,fun h=>(by rw [h] at hr;cases hr),fun j hj=>?_⟩
      by_cases HX:j=i
      · subst HX;exact hy.wpOp hi hDw H
      · have:=ready_mono hj HX
        rw [H.2.1] at this
        cases this
    |succ n ih=>
      intro aw a w ks hC hDw uf Fm hr hy H
      refine ⟨hC,fun h=>(by rw [h] at hr;cases hr),fun j hj=>?_⟩
      by_cases HX:j=i
      · subst HX;exact hy.wpOp hi hDw H
      · have h1:=H.2.2 j (ready_mono hj HX)
        obtain ⟨XZ,oj,Vm,tn⟩:=mem_ready.1 hj
        have C3:∀ed∈oj.after,Region.binds .any ed=true→ed.on≠i:=fun ed he hb heq=>by
          have h1:=tn ed he hb
          have h0:=(mem_ready.1 hr).1
          rw [heq] at h1
          rcases Nat.lt_or_ge i aw.size with h'|h'
          · simp [h'] at h0 h1;rw [h0] at h1;cases h1
          · simp [Array.getElem?_eq_none h'] at h1
        have h2:=HK Vm (Fm j oj Vm HX XZ C3) (fun cs b=>lM i oi cs b hi) (fun cs b=>lM j oj cs b Vm) (dt j oj Vm) hy h1
        have RS:∀k ok,ops[k]? =some ok→k≠i→(aw.setIfInBounds j true).getD k true=false→
            (∀ed∈ok.after,Region.binds .any ed=true→ed.on≠i)→oi.apart ops ok=true:=fun k ok hk hki OY fH=>by
          refine Fm k ok hk hki ?_ fH
          by_cases hjk:j=k
          · subst hjk;exact XZ
          · rw [getD_set_ne true hjk] at OY;exact OY
        refine wpOpIn_mono (fun a' w' h3=>?_) h2
        have h4:WS P r ops Q C tl n ((aw.setIfInBounds j true).setIfInBounds i true) (a'.put oi.dst v) w':=by
          rw [Array.setIfInBounds_comm _ _ HX];exact h3.2
        have YW:∀q,tl q=true→(aw.setIfInBounds j true).getD q false=false→((aw.setIfInBounds j true).setIfInBounds i true).getD q false=false:=fun q hq hu=>
          cz (fun e=>by subst e;rw [HN] at hq;cases hq) hu
        have zW:(∀q,tl q=true→(aw.setIfInBounds j true).getD q false=false)→C w':=fun ht=>h4.cls (fun q hq=>YW q hq (ht q hq))
        have VC:(∀w,D w)∨∀q,tl q=true→(aw.setIfInBounds j true).getD q false=false:=by
          rcases hD with hD|⟨_,hD⟩
          · exact .inl hD
          · rcases uf with uf|uf
            · exact .inl uf
            · refine .inr fun q hq=>?_
              by_cases WX:q=j
              · subst WX
                rcases hD q oj Vm hq with ⟨ed,hed,hb,hon⟩|Tz
                · have h1:=tn ed hed hb
                  have h0:=uf ed.on hon
                  rw [h1] at h0;cases h0
                · have h1:=ks.ready hj Tz
                  have h0:=(mem_ready.1 hr).1
                  rcases Nat.lt_or_ge i aw.size with h'|h'
                  · simp [h'] at h0 h1;rw [h0] at h1;cases h1
                  · simp [Array.getElem?_eq_none h'] at h1
              · exact cz WX (uf q hq)
        refine ih (aw.setIfInBounds j true) a' w' (ks.set hj) zW ?_ VC RS (ready_mono hr (Ne.symm HX)) h3.1 h4
        rcases VC with h|h
        · exact h w'
        · exact CE w' (zW h)
  intro n aw a w ks hC ht Fm hr hy H
  exact key n aw a w ks (fun _=>hC) (CE w hC) (.inr ht) Fm hr hy H

/-- The walk in one order. Each number with a kind: 0 it yields its value in whatever world; 1 in each world of the class; 2 it stands alone, and keeps the class; else: it and all behind it stand alone. -/
def xc (P:Program) (r:Option Nat) (ops:Array Oper) (Q:Exit→Act→World→Prop):(World→Prop)→List (Nat×Nat)→Act→Prop
  |C,[],a=>∀w,C w→Q .normal a w
  |C,(i,k)::l,a=>
    match ops[i]? with
    |none=>False
    |some o=>
      match k with
      |0=>∃v,YA P ops (fun _=>True) o v a∧xc P r ops Q C l (a.put o.dst v)
      |1=>∃v,YA P ops C o v a∧xc P r ops Q C l (a.put o.dst v)
      |2=>∀w,C w→wpOpIn (Wd r) 0 P ops (Qn Q) i (fun a' w'=>∃C':World→Prop,(∀w,C' w→C w)∧C' w'∧xc P r ops Q C' l a') a w
      |_=>∀w,C w→wpListIn (Wd r) 0 P ops (Qn Q) (((i,k)::l).filterMap fun p=>ops[p.1]?) a w

theorem WS.weaken {Q:Exit→Act→World→Prop} {C C':World→Prop} {tl:Nat→Bool} (h:∀w,C' w→C w):∀(n:Nat) (aw:Array Bool) (a:Act) (w:World),WS P r ops Q C' tl n aw a w→WS P r ops Q C tl n aw a w
  |0,_,_,_,k=>⟨fun ht=>h _ (k.1 ht),k.2⟩
  |n+1,_,_,_,k=>⟨fun ht=>h _ (k.1 ht),k.2.1,fun i hi=>wpOpIn_mono (fun a w=>WS.weaken h n _ a w) (k.2.2 i hi)⟩

/-- Does an operation stand behind another one by an edge of its own? -/
def Fs (ops:Array Oper) (j i:Nat):Bool:=match ops[j]? with|some o=>o.after.any (fun ed=>Region.binds .any ed&&ed.on==i)|none=>false

def rR (ord:List (Nat×Nat)) (i:Nat):Bool:=ord.any fun p=>p.1==i&&decide (3≤p.2)

/-- One order is the only one, but for what may be carried out early or late. -/
def nU (ops:Array Oper) (full:List (Nat×Nat)):List (Nat×Nat)→Array Bool→Bool
  | [],aw=>Region.ready .any ops aw== []
  |(i,k)::l,aw=>
    (match k with
      |0=>Region.free .any ops aw i&&(Region.ready .any ops aw).contains i
      |1=>Region.free .any ops aw i&&(Region.ready .any ops aw).contains i&&full.all (fun p=>decide (p.2<3)||o8 ops 40 p.1 i||full.any (fun q=>decide (3≤q.2)&&Fs ops p.1 q.1))
      |2=>Region.ready .any ops aw== [i]
      |_=>Region.ready .any ops aw== [i] &&l.all (fun p=>decide (3≤p.2)))&&
    nU ops full l (aw.setIfInBounds i true)

def tM (ops:Array Oper):Bool:=ops.all fun o=>nd o.op

theorem E7 {Q:Exit→Act→World→Prop} {C:World→Prop} {tl:Nat→Bool} {full:List (Nat×Nat)} :∀(l:List (Nat×Nat)) (aw:Array Bool) (a:Act) (w:World),l.all (fun p=>decide (3≤p.2))=true→nU ops full l aw=true→
    (∀p∈l,ops[p.1]?.isSome=true)→(∃i,tl i=true∧aw.getD i false=true)→wpListIn (Wd r) 0 P ops (Qn Q) (l.filterMap fun p=>ops[p.1]?) a w→WS P r ops Q C tl l.length aw a w
  | [],aw,a,w,_,hc,_,⟨i,h1,h2⟩,h=>by
    simp only [nU,beq_iff_eq] at hc
    exact⟨fun ht=>absurd (ht i h1) (by rw [h2];simp),hc,h⟩
  |(i,k)::l,aw,a,w,hk,hc,hs,⟨q,h1,h2⟩,h=>by
    simp only [List.all_cons,Bool.and_eq_true,decide_eq_true_eq] at hk
    obtain ⟨m,rfl⟩:∃m,k=m+3:=⟨k-3,by omega⟩
    simp only [nU,Bool.and_eq_true,beq_iff_eq] at hc
    obtain ⟨⟨hr,_⟩,hc⟩:=hc
    obtain ⟨o,ho⟩:=Option.isSome_iff_exists.1 (hs (i,m+3) (List.mem_cons_self ..))
    simp only at ho
    refine ⟨fun ht=>absurd (ht q h1) (by rw [h2];simp),fun h0=>(by rw [hr] at h0;cases h0),fun j hj=>?_⟩
    rw [hr] at hj
    obtain rfl:j=i:=by simpa using hj
    have h3:wpListIn (Wd r) 0 P ops (Qn Q) (o::l.filterMap fun p=>ops[p.1]?) a w:=by simpa [List.filterMap_cons,ho] using h
    have BJ:∀a w,wpListIn (Wd r) 0 P ops (Qn Q) (l.filterMap fun p=>ops[p.1]?) a w→WS P r ops Q C tl l.length (aw.setIfInBounds j true) a w:=fun a w h=>
      E7 l _ a w hk.2 hc (fun p hp=>hs p (List.mem_cons_of_mem _ hp)) ⟨q,h1,getD_set_true h2⟩ h
    unfold wpOpIn
    rw [ho]
    unfold wpListIn at h3
    simp only
    split
    · rename_i hw;rw [if_pos hw] at h3;exact Oper.wpIn_mono BJ h3
    · rename_i hw;rw [if_neg hw] at h3;exact⟨fun _ _=>trivial,BJ _ _ h3.2⟩

theorem oG {Q:Exit→Act→World→Prop} {C:World→Prop} {full:List (Nat×Nat)} (lM:Region.noSelect ops=true) (dt:tM ops=true):
    ∀(l:List (Nat×Nat)) (aw:Array Bool) (a:Act) (w:World),(∀p∈l,p∈full)→(∀p q,p∈full→q∈full→p.1=q.1→p=q)→(∀i,rR full i=true→aw.getD i false=false)→(∀p∈l,p.1<aw.size)→nU ops full l aw=true→iB ops aw→C w→xc P r ops Q C l a→WS P r ops Q C (rR full) l.length aw a w
  | [],aw,a,w,_,_,_,_,hc,_,hC,h=>by
    simp only [nU,beq_iff_eq] at hc
    exact⟨fun _=>hC,hc,h w hC⟩
  |(i,k)::l,aw,a,w,lj,Fu,OY,bB,hc,ks,hC,h=>by
    simp only [xc] at h
    cases ho:ops[i]? with
    |none=>rw [ho] at h;exact h.elim
    |some o=>
      rw [ho] at h
      simp only at h
      have IT:∀(j:Nat) (o:Oper),ops[j]? =some o→nd o.op=true:=fun j o hj=>(Array.all_eq_true_iff_forall_mem.1 dt) o (Array.mem_of_getElem? hj)
      have HN:k<3→rR full i=false:=fun hk=>by
        rw [Bool.eq_false_iff]
        intro ht
        obtain ⟨p,hp,xK⟩:=List.any_eq_true.1 ht
        simp only [Bool.and_eq_true,beq_iff_eq,decide_eq_true_eq] at xK
        have:=Fu p (i,k) hp (lj _ (List.mem_cons_self ..)) xK.1
        subst this
        simp only at xK
        omega
      have R6:k<3→∀q,rR full q=true→(aw.setIfInBounds i true).getD q false=false:=fun hk q hq=>
        cz (fun e=>by subst e;rw [HN hk] at hq;cases hq) (OY q hq)
      have JM:∀p∈l,p∈full:=fun p hp=>lj p (List.mem_cons_of_mem _ hp)
      have RN:∀p∈l,p.1<(aw.setIfInBounds i true).size:=fun p hp=>by rw [Array.size_setIfInBounds];exact bB p (List.mem_cons_of_mem _ hp)
      match k,h,hc with
      |0,⟨v,hy,hl⟩,hc=>
        simp only [nU,Bool.and_eq_true] at hc
        obtain ⟨⟨hf,hr⟩,hc⟩:=hc
        exact WS.first ho (HN (by omega)) (Region.noSelect_spec lM) IT (D:=fun _=>True) (.inl fun _=>trivial) l.length aw a w ks hC OY (Region.free_spec ho hf) (by simpa using hr) hy
          (oG lM dt l _ _ w JM Fu (R6 (by omega)) RN hc (ks.set (by simpa using hr)) hC hl)
      |1,⟨v,hy,hl⟩,hc=>
        simp only [nU,Bool.and_eq_true] at hc
        obtain ⟨⟨⟨hf,hr⟩,ht⟩,hc⟩:=hc
        refine WS.first ho (HN (by omega)) (Region.noSelect_spec lM) IT (D:=C) (.inr ⟨fun _ h=>h,fun j oj hj VD=>?_⟩) l.length aw a w ks hC OY (Region.free_spec ho hf) (by simpa using hr) hy
          (oG lM dt l _ _ w JM Fu (R6 (by omega)) RN hc (ks.set (by simpa using hr)) hC hl)
        obtain ⟨p,hp,xK⟩:=List.any_eq_true.1 VD
        simp only [Bool.and_eq_true,beq_iff_eq,decide_eq_true_eq] at xK
        have h5:=List.all_eq_true.1 ht p hp
        simp only [Bool.or_eq_true,decide_eq_true_eq] at h5
        rcases h5 with (h5|h5)|h5
        · omega
        · rw [xK.1] at h5;exact .inr h5
        · obtain ⟨q,hq,jK⟩:=List.any_eq_true.1 h5
          simp only [Bool.and_eq_true,decide_eq_true_eq] at jK
          obtain ⟨CG,h5⟩:=jK
          simp only [Fs,xK.1,hj] at h5
          obtain ⟨ed,he,hb⟩:=Array.any_eq_true'.1 h5
          simp only [Bool.and_eq_true,beq_iff_eq] at hb
          exact .inl ⟨ed,he,hb.1,List.any_eq_true.2 ⟨q,hq,by simp only [Bool.and_eq_true,beq_iff_eq,decide_eq_true_eq];exact⟨hb.2.symm,CG⟩⟩⟩
      |2,h,hc=>
        simp only [nU,Bool.and_eq_true,beq_iff_eq] at hc
        obtain ⟨hr,hc⟩:=hc
        refine ⟨fun _=>hC,fun h0=>(by rw [hr] at h0;cases h0),fun j hj=>?_⟩
        rw [hr] at hj
        obtain rfl:j=i:=by simpa using hj
        exact wpOpIn_mono (fun a' w' ⟨C',kY,zW,hl⟩=>WS.weaken kY _ _ _ _ (oG lM dt l _ a' w' JM Fu (R6 (by omega)) RN hc (ks.set (by rw [hr];simp)) zW hl)) (h w hC)
      |k+3,h,hc=>
        have Gy:=hc
        simp only [nU,Bool.and_eq_true,beq_iff_eq] at hc
        obtain ⟨⟨hr,tn⟩,hc⟩:=hc
        have hkt:rR full i=true:=List.any_eq_true.2 ⟨(i,k+3),lj _ (List.mem_cons_self ..),by simp⟩
        have hs:∀p∈l,ops[p.1]?.isSome=true:=by
          have:∀(l:List (Nat×Nat)) (aw:Array Bool),nU ops full l aw=true→∀p∈l,ops[p.1]?.isSome=true:=by
            intro l
            induction l with
            |nil=>intro _ _ p hp;cases hp
            |cons q l ih=>
              intro aw hc p hp
              obtain ⟨i,k⟩:=q
              rcases List.mem_cons.1 hp with rfl|hp
              · have GN:i∈Region.ready .any ops aw:=by
                  match k,hc with
                  |0,hc=>simp only [nU,Bool.and_eq_true] at hc;simpa using hc.1.2
                  |1,hc=>simp only [nU,Bool.and_eq_true] at hc;simpa using hc.1.1.2
                  |2,hc=>simp only [nU,Bool.and_eq_true,beq_iff_eq] at hc;rw [hc.1];simp
                  |k+3,hc=>simp only [nU,Bool.and_eq_true,beq_iff_eq] at hc;rw [hc.1.1];simp
                obtain ⟨_,o,ho,_⟩:=mem_ready.1 GN
                simp [ho]
              · simp only [nU,Bool.and_eq_true] at hc
                exact ih _ hc.2 p hp
          exact this l _ hc
        refine ⟨fun _=>hC,fun h0=>(by rw [hr] at h0;cases h0),fun j hj=>?_⟩
        rw [hr] at hj
        obtain rfl:j=i:=by simpa using hj
        have h3:=h w hC
        have h3:wpListIn (Wd r) 0 P ops (Qn Q) (o::l.filterMap fun p=>ops[p.1]?) a w:=by simpa [List.filterMap_cons,ho] using h3
        have hlj:j<aw.size:=bB (j,k+3) (List.mem_cons_self ..)
        have BJ:∀a w,wpListIn (Wd r) 0 P ops (Qn Q) (l.filterMap fun p=>ops[p.1]?) a w→WS P r ops Q C (rR full) l.length (aw.setIfInBounds j true) a w:=fun a w h=>
          E7 l _ a w tn hc hs ⟨j,hkt,by simp [hlj]⟩ h
        unfold wpOpIn
        rw [ho]
        unfold wpListIn at h3
        simp only
        split
        · rename_i hw;rw [if_pos hw] at h3;exact Oper.wpIn_mono BJ h3
        · rename_i hw;rw [if_neg hw] at h3;exact⟨fun _ _=>trivial,BJ _ _ h3.2⟩
end

/-- All that is asked of the order at once. -/
def Ko (ops:Array Oper) (ord:List (Nat×Nat)):Bool:=
  Region.noSelect ops&&tM ops&&(ord.length==ops.size)&&decide (ord.map (·.1)).Nodup&&ord.all (fun p=>decide (p.1<ops.size))&&nU ops ord ord (Array.replicate ops.size false)

section
variable {P:Program} {r:Option Nat} {N:Nat} {Q:Exit→Act→World→Prop} {e:Env} {ds:List Nat} {M:aa} {S:Nat→Prop} {w0:World} {G:World→Prop}

def Fz (M:aa) (S:Nat→Prop) (w0:World) (G:World→Prop) (w:World):Prop:=Mem w M∧cX S w0 w∧G w

def LD (P:Program) (r:Option Nat) (N:Nat) (ops:Array Oper) (Q:Exit→Act→World→Prop) (ord:List (Nat×Nat)) (e:Env) (ds:List Nat) (M:aa) (S:Nat→Prop) (w0:World) (G:World→Prop):Prop:=
  ∀a,Fr N e a→Dm ds a→xc P r ops Q (Fz M S w0 G) ord a

theorem af.draw [GS G] {id:Nat} {ops:Array Oper} (ord:List (Nat×Nat)) (hm:P.follows .mixedOrders=true) (hc:Ko ops ord=true) (h:LD P r N ops Q ord e ds M S w0 G):af P r N (.region id ops true) Q e ds M S w0 G:=fun w hw gC hg a hf hd=>by
  simp only [Ko,Bool.and_eq_true,beq_iff_eq,decide_eq_true_eq] at hc
  obtain ⟨⟨⟨⟨⟨h1,h2⟩,h3⟩,h4⟩,h5⟩,h6⟩:=hc
  refine wpIn_mono (wpIn_region_any (Q:=Qn Q) hm ?_) (fun x a w hq=>?_)
  · rw [←h3]
    refine WS.any _ _ a _ (oG (full:=ord) h1 h2 ord _ a _ (fun _ h=>h) ?_ ?_ ?_ (h3▸h6) (fun q o hq _=>by rw [Array.getD_eq_getD_getElem?,Array.getElem?_replicate] at hq;split at hq<;>cases hq) ⟨?_,?_,?_⟩ (h a hf hd))
    · intro p q hp hq Xg
      obtain ⟨i,hi⟩:=List.getElem?_of_mem hp
      obtain ⟨j,hj⟩:=List.getElem?_of_mem hq
      have e1:(ord.map (·.1))[i]? =some p.1:=by simp [hi]
      have e2:(ord.map (·.1))[j]? =some p.1:=by simp [hj,Xg]
      have:=Mem.set.List.nodup_iff_injective_get? h4 e1 e2
      subst this
      rw [hi] at hj
      exact Option.some.inj hj
    · intro i _
      rw [Array.getD_eq_getD_getElem?,Array.getElem?_replicate];split<;>rfl
    · intro p hp
      have:=List.all_eq_true.1 h5 p hp
      simp only [decide_eq_true_eq] at this
      simp;omega
    · exact hw.ext (cX.drew no w)
    · exact gC.trans (cX.drew S w)
    · exact GS.ext w _ hg (cX.drew no w)
  · cases x<;>first|exact hq|exact hq.elim

section
variable {ops:Array Oper} {l:List (Nat×Nat)} {op:Op} {ty:TypeId} {pos:String} {after:Array Edge} {d:Nat} {v:Value} {i:Nat}
theorem LD.nil (h:QM N Q .normal e ds M S w0 G):LD P r N ops Q [] e ds M S w0 G:=fun a hf hd w hw=>h w hw.1 hw.2.1 hw.2.2 a hf hd
/-- Is it carried out? -/
def sz (ops:Array Oper) (e:Env) (g:Option (Nat×Bool)) (b:Bool):Prop:=
  match g with
  |none=>b=true
  |some (j,c)=>∃t u,(ops[j]?).bind (·.dst)=some t∧look e t=some (.bool u)∧(u==c)=b
theorem sz.wanted {o:Oper} {a:Act} {b:Bool} (h:sz ops e o.guard b) (hf:Fr N e a):Region.wanted o (yielded ops a.tmps)=b:=by
  cases ho:o.guard with
  |none=>rw [ho] at h;simp only [sz] at h;simp [Region.wanted,ho,h]
  |some p=>
    obtain ⟨j,c⟩:=p
    rw [ho] at h
    obtain ⟨t,u,h1,h2,h3⟩:=h
    simp only [Region.wanted,ho,yielded,h1,Option.bind_some,hf.2 t _ h2]
    rw [←h3];cases u<;>cases c<;>rfl
theorem LD.val {g:Option (Nat×Bool)} (hi:ops[i]? =some ⟨some d,op,ty,pos,after,g⟩) (hg:sz ops e g true) (hv:fb P op ty e v) (h:LD P r N ops Q l ((d,v)::e) ds M S w0 G) (dt:nd op=true:=by rfl) (hd:Nat.blt d N=true:=by rfl):
    LD P r N ops Q ((i,0)::l) e ds M S w0 G:=fun a hf eN=>by
  simp only [xc,hi]
  exact⟨v,.inl ⟨hg.wanted hf,dt,fun w _=>hv w a.eval (fun x u hx=>hf.eval hx) _ _ _ _⟩,h _ (hf.put hd v) eN⟩
theorem LD.rd {g:Option (Nat×Bool)} (hi:ops[i]? =some ⟨some d,op,ty,pos,after,g⟩) (hg:sz ops e g true) (hv:∀w,Mem w M→rA P op ty e w v w) (h:LD P r N ops Q l ((d,v)::e) ds M S w0 G) (dt:nd op=true:=by rfl) (hd:Nat.blt d N=true:=by rfl):
    LD P r N ops Q ((i,1)::l) e ds M S w0 G:=fun a hf eN=>by
  simp only [xc,hi]
  exact⟨v,.inl ⟨hg.wanted hf,dt,fun w hw=>hv w hw.1 a.eval (fun x u hx=>hf.eval hx) _ _ _ _⟩,h _ (hf.put hd v) eN⟩
theorem LD.eT {g:Option (Nat×Bool)} (hi:ops[i]? =some ⟨some d,op,ty,pos,after,g⟩) (hg:sz ops e g true) (hv:∀w,Mem w M→cX S w0 w→G w→rA P op ty e w v w) (h:LD P r N ops Q l ((d,v)::e) ds M S w0 G) (dt:nd op=true:=by rfl) (hd:Nat.blt d N=true:=by rfl):
    LD P r N ops Q ((i,1)::l) e ds M S w0 G:=fun a hf eN=>by
  simp only [xc,hi]
  exact⟨v,.inl ⟨hg.wanted hf,dt,fun w hw=>hv w hw.1 hw.2.1 hw.2.2 a.eval (fun x u hx=>hf.eval hx) _ _ _ _⟩,h _ (hf.put hd v) eN⟩
/-- What isn't carried out. -/
theorem LD.drop {g:Option (Nat×Bool)} {k:Nat} (hk:Nat.blt k 3=true) (hi:ops[i]? =some ⟨some d,op,ty,pos,after,g⟩) (hg:sz ops e g false) (h:LD P r N ops Q l e ds M S w0 G) (hd:Nat.blt d N=true:=by rfl) (uA:look e d=none:=by rfl):
    LD P r N ops Q ((i,k)::l) e ds M S w0 G:=fun a hf eN=>by
  have Wa:Fr N e (a.put (some d) undef):=⟨by simp [Act.put];exact hf.1,fun t u hu=>by
    have h1:=(hf.put hd undef).2 t u
    rw [dP] at h1
    by_cases H0:d=t
    · subst H0;rw [uA] at hu;cases hu
    · rw [if_neg H0] at h1;exact h1 hu⟩
  have hl:=h _ Wa eN
  have hw:=hg.wanted (o:=⟨some d,op,ty,pos,after,g⟩) hf
  match k,hk with
  |0,_=>simp only [xc,hi];exact⟨undef,.inr ⟨hw,rfl⟩,hl⟩
  |1,_=>simp only [xc,hi];exact⟨undef,.inr ⟨hw,rfl⟩,hl⟩
  |2,_=>
    simp only [xc,hi]
    intro w hC
    unfold wpOpIn
    rw [hi]
    simp only
    rw [if_neg (by rw [hw];simp)]
    exact⟨fun _ _=>trivial,Fz M S w0 G,fun _ h=>h,hC,hl⟩
theorem LD.ar {t:Nat} {p:Prop} [Decidable p] (ht:look e t=some (.bool (decide p))) (h1:p→LD P r N ops Q l ((t,.bool true)::e) ds M S w0 G) (h2:¬p→LD P r N ops Q l ((t,.bool false)::e) ds M S w0 G):
    LD P r N ops Q l e ds M S w0 G:=fun a hf eN=>by
  have key:∀c:Bool,decide p=c→Fr N ((t,.bool c)::e) a:=fun c hc=>⟨hf.1,fun k u hu=>by
    rw [dP] at hu
    by_cases hk:t=k
    · subst hk;rw [if_pos rfl] at hu;rw [←hu,←hc];exact hf.2 _ _ ht
    · rw [if_neg hk] at hu;exact hf.2 k u hu⟩
  by_cases hp:p
  · exact h1 hp a (key _ (decide_eq_true hp)) eN
  · exact h2 hp a (key _ (decide_eq_false hp)) eN
theorem LD.bu {t:Nat} {b:Bool} (ht:look e t=some (.bool b)) (h1:b=true→LD P r N ops Q l ((t,.bool true)::e) ds M S w0 G) (h2:b=false→LD P r N ops Q l ((t,.bool false)::e) ds M S w0 G):
    LD P r N ops Q l e ds M S w0 G:=fun a hf eN=>by
  have key:∀c:Bool,b=c→Fr N ((t,.bool c)::e) a:=fun c hc=>⟨hf.1,fun k u hu=>by
    rw [dP] at hu
    by_cases hk:t=k
    · subst hk;rw [if_pos rfl] at hu;rw [←hu,←hc];exact hf.2 _ _ ht
    · rw [if_neg hk] at hu;exact hf.2 k u hu⟩
  cases b with
  |true=>exact h1 rfl a (key _ rfl) eN
  |false=>exact h2 rfl a (key _ rfl) eN
/-- A call that keeps what is known of the memory. -/
theorem LD.Mg {g:Option (Nat×Bool)} {f:FuncId} {args:Array Value} {R:World→Value→World→Prop} (hi:ops[i]? =some ⟨some d,op,ty,pos,after,g⟩) (hg:sz ops e g true) (hc:∀w,yy P op ty e w f args)
    (h:∀w,Mem w M→cX S w0 w→G w→aJ P f args w (R w))
    (hk:∀w v w',Mem w M→cX S w0 w→G w→R w v w'→∃M',(∀w,Mem w M'→Mem w M)∧(Mem w' M'∧cX S w0 w'∧G w')∧LD P r N ops Q l ((d,v)::e) ds M' S w0 G) (dt:nd op=true:=by rfl) (hd:Nat.blt d N=true:=by rfl):
    LD P r N ops Q ((i,2)::l) e ds M S w0 G:=fun a hf eN=>by
  simp only [xc,hi]
  intro w hC
  unfold wpOpIn
  rw [hi]
  simp only
  rw [if_pos (hg.wanted (o:=⟨some d,op,ty,pos,after,g⟩) hf)]
  refine ⟨fun _ _=>trivial,?_⟩
  rw [kS dt,hc w a.eval (fun x u hx=>hf.eval hx) _ _ _ _]
  refine ⟨fun h=>(by cases h),?_⟩
  have h2:CallsIn Fence.wide 0 P f args w (fun en w'=>∃v,en= .returned v∧R w v w'):=callsIn_wide.2 (h w hC.1 hC.2.1 hC.2.2)
  have h3:CallsIn (Wd r) 0 P f args w (fun en w'=>∃v,en= .returned v∧R w v w'):=h2
  refine CallsIn.mono h3 ?_
  rintro en w' ⟨v,rfl,hR⟩
  obtain ⟨M',lj,zW,hl⟩:=hk w v w' hC.1 hC.2.1 hC.2.2 hR
  exact⟨Fz M' S w0 G,fun w h=>⟨lj w h.1,h.2⟩,zW,hl _ (hf.put hd v) eN⟩
theorem LD.call {g:Option (Nat×Bool)} {f:FuncId} {args:Array Value} {R:World→Value→World→Prop} (hi:ops[i]? =some ⟨some d,op,ty,pos,after,g⟩) (hg:sz ops e g true) (hc:∀w,yy P op ty e w f args)
    (h:∀w,Mem w M→cX S w0 w→G w→aJ P f args w (R w))
    (hk:∀w v w',Mem w M→cX S w0 w→G w→R w v w'→(Mem w' M∧cX S w0 w'∧G w')∧LD P r N ops Q l ((d,v)::e) ds M S w0 G) (dt:nd op=true:=by rfl) (hd:Nat.blt d N=true:=by rfl):
    LD P r N ops Q ((i,2)::l) e ds M S w0 G:=
  .Mg hi hg hc h (fun w v w' hm gC hG hR=>⟨M,fun _ h=>h,hk w v w' hm gC hG hR⟩) dt hd
theorem LD.A4 [GS G] {g:Option (Nat×Bool)} {f:FuncId} {args:Array Value} {v:Value} (hi:ops[i]? =some ⟨some d,op,ty,pos,after,g⟩) (hg:sz ops e g true) (hc:∀w,yy P op ty e w f args) (h:∀w,Mem w M→cX S w0 w→G w→aJ P f args w (fun u w'=>u=v∧Ext w w'))
    (hk:LD P r N ops Q l ((d,v)::e) ds M S w0 G) (dt:nd op=true:=by rfl) (hd:Nat.blt d N=true:=by rfl):
    LD P r N ops Q ((i,2)::l) e ds M S w0 G:=
  .call hi hg hc (fun w hm gC hG=>h w hm gC hG) (fun w _ w' hm gC hG ⟨hu,he⟩=>by rw [hu];exact⟨⟨hm.ext he,gC.step he (fun _ _ q=>q.elim),GS.ext w w' hG he⟩,hk⟩) dt hd
/-- The tail: what stands alone, in its order. -/
theorem LD.tail {k:Nat} {lo:List Oper} (ho:(ops[i]?).isSome=true) (hl:((i,k+3)::l).filterMap (fun p=>ops[p.1]?)=lo) (h:LM P r N ops (Qn Q) lo e ds M S w0 G):LD P r N ops Q ((i,k+3)::l) e ds M S w0 G:=fun a hf eN=>by
  obtain ⟨o,ho⟩:=Option.isSome_iff_exists.1 ho
  simp only [xc,ho]
  intro w hC
  rw [hl]
  exact h w hC.1 hC.2.1 hC.2.2 a hf eN
theorem QM.qn (h:QM N Q .normal e ds M S w0 G):QM N (Qn Q) .normal e ds M S w0 G:=h
end
end

theorem yp {P:Program} {t:TypeId} {i:TypeInfo} (h:∀w,(typeInfo t).run P w= .ok i w):P.info? t=some i:=by
  have h1:=h default
  simp only [typeInfo,Sem.run_bind,run_program,Result.andThen] at h1
  cases hi:P.info? t with
  |none=>rw [hi] at h1;cases h1
  |some j=>rw [hi] at h1;simp at h1;rw [h1]

theorem iT (b off n:Nat):(⟨b,off,none⟩:Addr).add n=⟨b,off+n,none⟩:=by
  unfold Addr.add
  split
  · subst_vars;rfl
  · rfl

/-- One cell holds it. -/
def one (v:Value):Bool:=v.oneCell'

section
variable {P:Program} {ty:TypeId} {e:Env} {M:aa} {x y:Operand} {t:TypeId}

theorem pd {w:World} {b off:Nat} {cs:Array Value} {E:TypeId} {fz:Nat×Nat} {v:Value} (h:w.heap[b]? =some (.cells cs E fz)) (hc:cs[off]? =some v):
    (load ⟨b,off,none⟩).run P w= .ok v w:=by
  simp [load,Sem.run,World.cell?,h,hc]

/-! loads -/
theorem eR (i:Nat) {b off:Nat} {cs:Array Value} {E:TypeId} {fz:Nat×Nat} {v:Value} (hT:∀w,(isAgg t).run P w= .ok false w) (ha:ev e x=some (.pointer (some ⟨b,off,none⟩)))
    (hM:M[i]? =some (b,.cells cs E fz)) (hc:cs[off]? =some v):∀w,Mem w M→rA P (.load t x) ty e w v w:=fun w hm ρ hρ _ _ _ _=>by
  have h:=pd (P:=P) (hm.get hM) hc
  simp [execOp,Instr.loadAt,Instr.sureAddr,hρ x _ ha,loadVar,hT,h,Result.andThen]

theorem run_loadCellsFrom {w:World} {b off:Nat} :∀(vs:List Value) (k:Nat) (acc:Array Value),(∀j v,vs[j]? =some v→w.cell? ⟨b,off+(k+j),none⟩=some v)→
    (loadCellsFrom ⟨b,off,none⟩ k vs.length acc).run P w= .ok (acc++vs.toArray) w
  | [],k,acc,_=>by simp [loadCellsFrom]
  |v::vs,k,acc,h=>by
    have h0:w.cell? ((⟨b,off,none⟩:Addr).add k)=some v:=by rw [iT];exact h 0 v rfl
    have ih:=run_loadCellsFrom vs (k+1) (acc.push v) (fun j u hj=>by have:=h (j+1) u (by simpa using hj);rwa [show off+(k+1+j)=off+(k+(j+1)) by omega])
    simp only [List.length_cons,loadCellsFrom,Sem.run_bind]
    simp only [load,Sem.run,h0,Result.andThen]
    rw [ih];simp

theorem fm {w:World} {b off n:Nat} {cs:Array Value} {E:TypeId} {fz:Nat×Nat} {vs:List Value} (hT:∀w,(isAgg t).run P w= .ok true w) (hS:∀w,(sizeOf t).run P w= .ok n w)
    (h:w.heap[b]? =some (.cells cs E fz)) (hn:vs.length=n) (hv:∀j v,vs[j]? =some v→cs[off+j]? =some v):(loadVar t ⟨b,off,none⟩).run P w= .ok (.agg vs.toArray) w:=by
  subst hn
  have:=run_loadCellsFrom (P:=P) (w:=w) (b:=b) (off:=off) vs 0 #[] (fun j v hj=>by simp [World.cell?,h,hv j v hj])
  simp [loadVar,hT,hS,loadCells,this,Result.andThen]
/-- The cells from a place on are these. -/
def Cs (cs:Array Value) (off:Nat):List Value→Prop
  | [] =>True
  |v::vs=>cs[off]? =some v∧Cs cs (off+1) vs
theorem Cs.get {cs:Array Value} :∀{vs:List Value} {off:Nat},Cs cs off vs→∀j v,vs[j]? =some v→cs[off+j]? =some v
  | [],_,_,j,v,h=>by simp at h
  |u::vs,off,hc,0,v,h=>by simp at h;subst h;exact hc.1
  |u::vs,off,hc,j+1,v,h=>by have:=Cs.get hc.2 j v (by simpa using h);rwa [show off+(j+1)=off+1+j by omega]

theorem II (i:Nat) {b off n:Nat} {cs:Array Value} {E:TypeId} {fz:Nat×Nat} {vs:List Value} (hT:∀w,(isAgg t).run P w= .ok true w) (hS:∀w,(sizeOf t).run P w= .ok n w) (ha:ev e x=some (.pointer (some ⟨b,off,none⟩)))
    (hM:M[i]? =some (b,.cells cs E fz)) (hn:vs.length=n) (hc:Cs cs off vs):∀w,Mem w M→rA P (.load t x) ty e w (.agg vs.toArray) w:=fun w hm ρ hρ _ _ _ _=>by
  have h:=fm (P:=P) (off:=off) hT hS (hm.get hM) hn hc.get
  simp [execOp,Instr.loadAt,Instr.sureAddr,hρ x _ ha,h,Result.andThen]

/-! addresses -/
theorem z9 {f b off:Nat} {fs:Array Field} {fl:Field} {k n:Nat} (hU:P.underlying t=some (.struct fs)) (hf:fs[f]? =some fl) (hS:∀w,(sizeOf fl.type).run P w= .ok n w) (hn:Nat.beq n 0=false) (hk:fl.offset=k)
    (ha:ev e x=some (.pointer (some ⟨b,off,none⟩))):fb P (.fieldAddr t x f) ty e (.pointer (some ⟨b,off+k,none⟩)):=fun w ρ hρ _ _ _ _=>by
  have h0:n≠0:=by intro h;subst h;simp at hn
  subst hk
  simp [execOp,Instr.fieldAt,run_underlying hU,hf,Instr.sureAddr,hρ x _ ha,fieldPlace,hS,h0,iT,Result.andThen]
theorem R8 {k:IntKind} {a:Int} {b off n c s:Nat} {E:TypeId} (hU:P.underlying t=some (.slice E)) (hS:∀w,(sizeOf E).run P w= .ok s w) (ha:ev e x=some (.slice (some ⟨b,off,none⟩) n c)) (hi:ev e y=some (.int k a)) (h:0≤a∧a<n):
    fb P (.indexAddr t x y) ty e (.pointer (some ⟨b,off+a.toNat*s,none⟩)):=fun w ρ hρ _ _ _ _=>by
  simp [execOp,Instr.indexAt,asIntOf,run_underlying hU,hρ x _ ha,hρ y _ hi,hS,iT,h.1,h.2,Result.andThen]
/-- s[:hi] -/
theorem jv {hi:Operand} {k':IntKind} {h:Int} {ad:Option Addr} {n c s:Nat} {E:TypeId} (hU:P.underlying t=some (.slice E)) (hS:∀w,(sizeOf E).run P w= .ok s w) (ha:ev e x=some (.slice ad n c)) (hh:ev e hi=some (.int k' h))
    (h1:0≤h) (h3:h≤c):fb P (.slice t x none (some hi) none) ty e (.slice ad h.toNat c):=fun w ρ hρ _ _ _ _=>by
  have hz:∀b:Addr,b.add 0=b:=fun b=>by simp [Addr.add]
  have:(if c=0 then ad else ad.map (fun a=>a.add (0*s)))=ad:=by cases ad<;>simp [hz]
  simp [execOp,Instr.sliceAt,Instr.slice,Instr.sliceBounds,Instr.sliceBound,asIntOf,run_underlying hU,hρ x _ ha,hρ hi _ hh,h1,h3,hS,Result.andThen]
  cases ad<;>simp [hz]
end

/-! stores, new memory -/
theorem Al (w:World) (b off:Nat) (v:Value):cX (fun x=>x=b) w (w.setCell ⟨b,off,none⟩ v):=
  ⟨rfl,rfl,rfl,by simp [World.setCell],fun x _ hn=>Below.heap_setCell w ⟨b,off,none⟩ v x hn⟩
theorem heap_setCell_same {w:World} {b off:Nat} {cs:Array Value} {E:TypeId} {fz:Nat×Nat} (h:w.heap[b]? =some (.cells cs E fz)) (v:Value):(w.setCell ⟨b,off,none⟩ v).heap[b]? =some (.cells (cs.setIfInBounds off v) E fz):=by
  obtain ⟨bB,hk⟩:=Array.getElem?_eq_some_iff.1 h
  show (w.heap.modify b _)[b]? =_
  rw [Array.getElem?_eq_getElem (by rw [Array.size_modify];exact bB),Array.getElem_modify_self,hk]
  rfl
theorem bE (w:World) (o:Obj):Ext w (w.alloc o):=Ext.Ky ((Below.refl _ _).alloc (Nat.le_refl _) o)

/-- The cells from a place on become these. -/
def mS (cs:Array Value):Nat→List Value→Array Value
  |_,[] =>cs
  |off,v::vs=>mS (cs.setIfInBounds off v) (off+1) vs

theorem e9 {P:Program} {b:Nat} {E:TypeId} :∀(vs:List Value) (w:World) (cs:Array Value) (off k:Nat),w.heap[b]? =some (.cells cs E (0,0))→off+k+vs.length≤cs.size→(∀v∈vs,one v=true)→
    ∃w',(storeCells ⟨b,off,none⟩ vs k).run P w= .ok () w'∧w'.heap[b]? =some (.cells (mS cs (off+k) vs) E (0,0))∧cX (fun x=>x=b) w w'
  | [],w,cs,off,k,h,_,_=>⟨w,by simp [storeCells],h,.refl _ _⟩
  |v::vs,w,cs,off,k,h,hl,hv=>by
    simp only [List.length_cons] at hl
    have bB:off+k<cs.size:=by omega
    have hc:w.cell? ⟨b,off+k,none⟩=some cs[off+k] :=by simp [World.cell?,h,bB]
    have hf:w.frozen? ⟨b,off+k,none⟩=false:=by simp [World.frozen?,h]
    obtain ⟨w',h1,h2,h3⟩:=e9 (P:=P) vs (w.setCell ⟨b,off+k,none⟩ v) (cs.setIfInBounds (off+k) v) off (k+1) (heap_setCell_same h v) (by simp;omega) (fun u hu=>hv u (List.mem_cons_of_mem _ hu))
    refine ⟨w',?_,?_,(Al w b (off+k) v).trans h3⟩
    · have yk:=hv v (List.mem_cons_self ..)
      have er:(store ⟨b,off+k,none⟩ v).run P w= .ok () (w.setCell ⟨b,off+k,none⟩ v):=by
        unfold store
        cases v<;>first|(simp [one,Value.oneCell'] at yk;done)|simp [Sem.run,hc,hf]
      simp only [storeCells,Sem.run_bind,iT,er,Result.andThen,h1]
    · show w'.heap[b]? =some (.cells (mS (cs.setIfInBounds (off+k) v) (off+k+1) vs) E)
      rw [show off+k+1=off+(k+1) by omega];exact h2

section
variable {P:Program} {r:Option Nat} {N:Nat} {Q:Exit→Act→World→Prop} {e:Env} {ds:List Nat} {M:aa} {S:Nat→Prop} {w0:World} {G:World→Prop}
variable {ops:Array Oper} {l:List Oper} {ty:TypeId} {pos:String} {after:Array Edge} {d:Nat} {x y:Operand} {t:TypeId}

theorem LM.store [GT G] (i:Nat) {b off n:Nat} {cs:Array Value} {E:TypeId} {v:Value} (hS:∀w,(sizeOf t).run P w= .ok n w) (ha:ev e x=some (.pointer (some ⟨b,off,none⟩))) (hv:ev e y=some v)
    (hM:M[i]? =some (b,.cells cs E (0,0))) (hn:v.cells.size=n) (hl:off+n≤cs.size) (h1:v.cells.toList.all one=true) (hb:b<w0.heap.size→S b)
    (h:LM P r N ops Q l e ds (M.set i (b,.cells (mS cs off v.cells.toList) E (0,0))) S w0 G):LM P r N ops Q (⟨none,.store t x y,ty,pos,after,none⟩::l) e ds M S w0 G:=fun w hm hc hg a hf hd=>by
  obtain ⟨w',h2,h3,h4⟩:=e9 (P:=P) v.cells.toList w cs off 0 (hm.get hM) (by simp;omega) (fun u hu=>List.all_eq_true.1 h1 u hu)
  refine LE.skp (w':=w') (fun ρ hρ _ _ _ _=>?_) (h w' (hm.set hM h3 h4) (hc.step h4 (fun k hk OW=>by subst OW;exact hb hk)) (GT.xQ _ w w' hg h4 (.one h4 (hm.get hM) rfl))) rfl a hf hd
  simp [execOp,Instr.storeAt,Instr.sureAddr,hρ x _ ha,hρ y _ hv,storeVar,hS,hn,h2,Result.andThen]

theorem Mem.alloc {w:World} {M:aa} (h:Mem w M) (o:Obj):Mem (w.alloc o) ((w.heap.size,o)::M):=
  (h.ext (bE w o)).cons (World.alloc_heap_new w o) (fun p hp hq=>by have:=h.lt hp;omega)

/-- A new variable. -/
theorem LM.alloc [GS G] {E:TypeId} {z:Value} (hZ:∀w,(zeroValue E).run P w= .ok z w) (hd:Nat.blt d N=true)
    (h:∀b,w0.heap.size≤b→LM P r N ops Q l ((d,.pointer (some ⟨b,0,none⟩))::e) ds ((b,.cells z.cells E (0,0))::M) S w0 G):LM P r N ops Q (⟨some d,.alloc E,ty,pos,after,none⟩::l) e ds M S w0 G:=fun w hm hc hg=>
  LE.val (w':=w.alloc (.cells z.cells E)) (fun ρ hρ _ _ _ _=>by simp [execOp,Instr.alloc,hZ,newVar,newRow,Result.andThen]) (h w.heap.size hc.size _ (hm.alloc _) (hc.step (bE w _) (fun _ _ q=>q.elim)) (GS.ext w _ hg (bE w _))) rfl hd
theorem LM.box [GS G] {E:TypeId} {v:Value} (hv:ev e x=some v) (hd:Nat.blt d N=true)
    (h:∀b,w0.heap.size≤b→LM P r N ops Q l ((d,.pointer (some ⟨b,0,none⟩))::e) ds ((b,.cells v.cells E (0,0))::M) S w0 G):LM P r N ops Q (⟨some d,.box E x,ty,pos,after,none⟩::l) e ds M S w0 G:=fun w hm hc hg=>
  LE.val (w':=w.alloc (.cells v.cells E)) (fun ρ hρ _ _ _ _=>by simp [execOp,Instr.box,hρ x _ hv,newVar,newRow,Result.andThen]) (h w.heap.size hc.size _ (hm.alloc _) (hc.step (bE w _) (fun _ _ q=>q.elim)) (GS.ext w _ hg (bE w _))) rfl hd

/-! slices: what they hold is a list of things, each of s cells; the cells behind are whatever -/
def arr {α:Type} (f:α→List Value) (xs:List α) (bz:List Value):Array Value:=(xs.flatMap f++bz).toArray

theorem bQ {α:Type} {f:α→List Value} {s:Nat} (hf:∀a,(f a).length=s) (xs:List α):(xs.flatMap f).length=xs.length*s:=by
  induction xs with
  |nil=>simp
  |cons a xs ih=>simp [List.flatMap_cons,hf,ih,Nat.succ_mul,Nat.add_comm]

theorem j0 {α:Type} {f:α→List Value} {s:Nat} (hf:∀a,(f a).length=s):∀(xs:List α) (i j:Nat) (a:α),xs[i]? =some a→j<s→(xs.flatMap f)[i*s+j]? =(f a)[j]?
  | [],i,j,a,h,_=>by simp at h
  |b::xs,0,j,a,h,hj=>by
    simp at h;subst h
    rw [List.flatMap_cons,Nat.zero_mul,Nat.zero_add,List.getElem?_append_left (by rw [hf];exact hj)]
  |b::xs,i+1,j,a,h,hj=>by
    rw [List.flatMap_cons,List.getElem?_append_right (by rw [hf,Nat.succ_mul];omega),hf]
    rw [show (i+1)*s+j-s=i*s+j by rw [Nat.succ_mul];omega]
    exact j0 hf xs i j a (by simpa using h) hj

theorem lZ {α:Type} {f:α→List Value} {s:Nat} (hf:∀a,(f a).length=s) {xs:List α} {bz:List Value} {i j:Nat} {a:α} (h:xs[i]? =some a) (hj:j<s):(arr f xs bz)[i*s+j]? =(f a)[j]? :=by
  have bB:i<xs.length:=(List.getElem?_eq_some_iff.1 h).1
  simp only [arr,List.getElem?_toArray]
  rw [List.getElem?_append_left,j0 hf xs i j a h hj]
  rw [bQ hf]
  calc i*s+j<i*s+s:=by omega
    _=(i+1)*s:=by rw [Nat.succ_mul]
    _≤xs.length*s:=Nat.mul_le_mul_right _ bB

/-- A slice of the call's own (or nil), and the block that holds it. -/
def Sl {α:Type} (f:α→List Value) (E s n0:Nat) (xs:List α) (v:Value) (m:aa):Prop:=
  (v= .slice none 0 0∧m=[]∧xs=[])∨
  ∃b cap bz,n0≤b∧v= .slice (some ⟨b,0,none⟩) xs.length cap∧m=[(b,.cells (arr f xs bz) E (0,0))]∧xs.length≤cap∧cap≤maxLen∧xs.length*s+bz.length=cap*s

theorem Sl.nil {α:Type} (f:α→List Value) (E s n0:Nat):Sl f E s n0 [] (.slice none 0 0) [] := .inl ⟨rfl,rfl,rfl⟩
theorem Sl.ne {α:Type} {f:α→List Value} {E s n0:Nat} {xs:List α} {v:Value} {m:aa} (h:Sl f E s n0 xs v m) (hx:0<xs.length):
    ∃b cap bz,n0≤b∧v= .slice (some ⟨b,0,none⟩) xs.length cap∧m=[(b,.cells (arr f xs bz) E (0,0))]∧xs.length≤cap∧cap≤maxLen∧xs.length*s+bz.length=cap*s:=by
  rcases h with ⟨_,_,rfl⟩|h
  · simp at hx
  · exact h
theorem Sl.form {α:Type} {f:α→List Value} {E s n0:Nat} {xs:List α} {v:Value} {m:aa} (h:Sl f E s n0 xs v m):∃ad cap,v= .slice ad xs.length cap:=by
  rcases h with ⟨rfl,_,rfl⟩|⟨b,cap,_,_,rfl,_⟩
  · exact⟨none,0,rfl⟩
  · exact⟨_,cap,rfl⟩
theorem Sl.mono {α:Type} {f:α→List Value} {E s n0 n1:Nat} {xs:List α} {v:Value} {m:aa} (h:Sl f E s n0 xs v m) (hn:n1≤n0):Sl f E s n1 xs v m:=by
  rcases h with h|⟨b,cap,bz,hb,h⟩
  · exact .inl h
  · exact .inr ⟨b,cap,bz,by omega,h⟩
theorem Sl.ge {α:Type} {f:α→List Value} {E s n0:Nat} {xs:List α} {v:Value} {m:aa} (h:Sl f E s n0 xs v m):∀p∈m,n0≤p.1:=by
  rcases h with ⟨_,rfl,_⟩|⟨b,cap,bz,hb,_,rfl,_⟩
  · intro p hp;cases hp
  · intro p hp;simp at hp;subst hp;exact hb

/-- 'out = append(out, a)': the slice is the call's own, or nil; the one that is added lies in a block of its own, at the head. -/
theorem LM.O5 [GT G] {α:Type} {f:α→List Value} {E s n0:Nat} {inf:TypeInfo} {z:Value} {xs:List α} {v:Value} {m M2:aa} {bx c:Nat} {a:α} {o:Obj}
    (hU:P.underlying t=some (.slice E)) (hI:∀w,(typeInfo E).run P w= .ok inf w) (hz:inf.zero=some z) (hs:inf.size=s) (pE:Nat.blt 0 s=true) (HZ:z.cells.size=s) (hd:Nat.blt d N=true)
    (hx:ev e x=some v) (hy:ev e y=some (.slice (some ⟨bx,0,none⟩) 1 c)) (cb:n0≤w0.heap.size) (Y3:∀p∈m,p.1<w0.heap.size→S p.1) (gh:Sl f E s n0 xs v m) (ho:∃F fz,o= .cells (f a).toArray F fz)
    (hf:∀a,(f a).length=s) (h1:∀a,∀u∈f a,one u=true) (hlen:xs.length+1≤maxLen) (pL:(xs.length+1)*inf.bytes≤140737488355328)
    (h:∀v' m',Sl f E s n0 (xs++ [a]) v' m'→(∀p∈m',w0.heap.size≤p.1∨∃q∈m,q.1=p.1)→LM P r N ops Q l ((d,v')::e) ds (m'++M2) S w0 G):
    LM P r N ops Q (⟨some d,.call {callee:= .builtin .append,args:=#[x,y],argTypes:=#[t,t] },ty,pos,after,none⟩::l) e ds ((bx,o)::(m++M2)) S w0 G:=fun w hm hc hg=>by
  obtain ⟨F,fz,rfl⟩:=ho
  have pE:0<s:=Nat.le_of_ble_eq_true pE
  have B5:=yp hI
  have hbx:=hm.get (i:=0) rfl
  have uF:∀j u,(f a)[j]? =some u→w.cell? ((⟨bx,0,none⟩:Addr).add j)=some u:=fun j u hj=>by
    rw [iT];simp [World.cell?,hbx,hj]
  have Kk:Mem w (m++M2):=hm.tail
  have step:∀(v':Value) (w':World),(Builtin.append_ #[t,t] ty #[v,.slice (some ⟨bx,0,none⟩) 1 c]).run P w= .ok v' w'→
      (LE P r N ops Q l ((d,v')::e) ds w')→LE P r N ops Q (⟨some d,.call {callee:= .builtin .append,args:=#[x,y],argTypes:=#[t,t] },ty,pos,after,none⟩::l) e ds w:=fun v' w' hr hl=>
    LE.val (fun ρ hρ _ _ _ _=>by simp [execOp,resolve,invoke,builtin,hρ x _ hx,hρ y _ hy,hr,Result.andThen]) hl rfl hd
  rcases gh with ⟨rfl,rfl,rfl⟩|⟨b,cap,bz,hb,rfl,rfl,hle,SV,Mu⟩
  · -- nil
    have hr:=run_append_nil (P:=P) w t ty E inf z hU B5 hz ⟨bx,0,none⟩ 1 c (f a) (by rw [hf,hs,Nat.one_mul]) uF (by omega) (by omega) (by simp at pL;omega)
    refine step _ _ hr ?_
    obtain ⟨k,hk,xb⟩:∃k,grownCap w 1 0 E=k∧1≤k∧k≤maxLen:=⟨_,rfl,grownCap_ge w 1 0 E,grownCap_le_maxLen w 1 0 E (by unfold maxLen;omega)⟩
    rw [hk]
    refine h _ [(w.heap.size,.cells (arr f ([] ++ [a]) (Builtin.zeroCells z.cells (k-1)).toList) E (0,0))] (.inr ⟨w.heap.size,k,(Builtin.zeroCells z.cells (k-1)).toList,Nat.le_trans cb hc.size,rfl,rfl,by simpa using xb.1,xb.2,?_⟩) (fun p hp=>by rw [List.mem_singleton] at hp;subst hp;exact .inl hc.size) _ ?_ ?_ ?_
    · simp [size_zeroCells,HZ]
      rw [Nat.sub_mul]; have : s ≤ k * s := by calc s = 1 * s := by omega
                                                  _≤k*s:=Nat.mul_le_mul_right _ xb.1
      omega
    · have e1:(Obj.cells ((f a).toArray++Builtin.zeroCells z.cells (k-1)) E)= .cells (arr f ([] ++ [a]) (Builtin.zeroCells z.cells (k-1)).toList) E (0,0):=by
        congr 1;apply Array.ext';simp [arr]
      rw [e1]
      exact(Kk.ext (cX.drew no w)).alloc _
    · exact(hc.step (cX.drew no w) (fun _ _ q=>q.elim)).step (bE w.drew _) (fun _ _ q=>q.elim)
    · exact GS.ext w.drew _ (GS.ext w _ hg (cX.drew no w)) (bE w.drew _)
  · have Cu:=Kk.get (i:=0) rfl
    have Lg:(arr f xs bz).size=cap*s:=by simp [arr,bQ hf,Mu]
    by_cases vq:xs.length+1≤cap
    · -- there is room
      have hmul:(xs.length+1)*s≤cap*s:=Nat.mul_le_mul_right _ vq
      rw [Nat.succ_mul] at hmul
      have hr:=run_append_room (P:=P) w t ty E inf hU B5 b xs.length cap (arr f xs bz) Cu ⟨bx,0,none⟩ 1 c (f a) (by rw [hf,hs,Nat.one_mul]) uF (fun u hu=>h1 a u hu) vq (by rw [hs,hf,Lg];exact hmul)
      refine step _ _ hr ?_
      rw [hs,hf]
      have e1:(((arr f xs bz).toList.take (xs.length*s)++f a++(arr f xs bz).toList.drop (xs.length*s+s)).toArray)=arr f (xs++ [a]) (bz.drop s):=by
        apply Array.ext'
        have hl:=bQ hf xs
        simp only [arr,List.flatMap_append,List.flatMap_cons,List.flatMap_nil,List.append_nil]
        rw [←hl,List.take_left,List.drop_append,List.drop_eq_nil_of_le (by omega),List.nil_append,Nat.add_sub_cancel_left]
      rw [e1]
      have TH:(w.setRow b (arr f (xs++ [a]) (bz.drop s))).heap[b]? =some (.cells (arr f (xs++ [a]) (bz.drop s)) E (0,0)):=by
        obtain ⟨bB,hk⟩:=Array.getElem?_eq_some_iff.1 Cu
        show (w.heap.modify b _)[b]? =_
        rw [Array.getElem?_eq_getElem (by rw [Array.size_modify];exact bB),Array.getElem_modify_self,hk]
      have yF:cX (fun x=>x=b) w (w.setRow b (arr f (xs++ [a]) (bz.drop s))):=⟨rfl,rfl,rfl,by simp [World.setRow],fun k _ hn=>by
        simp only [World.setRow,Array.getElem?_modify];rw [if_neg (Ne.symm hn)]⟩
      refine h _ [(b,.cells (arr f (xs++ [a]) (bz.drop s)) E (0,0))] (.inr ⟨b,cap,bz.drop s,hb,by simp,rfl,by simpa using vq,SV,?_⟩) (fun p hp=>by rw [List.mem_singleton] at hp;subst hp;exact .inr ⟨_,List.mem_singleton.2 rfl,rfl⟩) _ ?_ ?_ ?_
      · simp only [List.length_append,List.length_cons,List.length_nil,Nat.zero_add,List.length_drop,Nat.succ_mul];omega
      · exact Kk.set (i:=0) rfl TH yF
      · exact hc.step yF (fun k hk OW=>by subst OW;exact Y3 _ (List.mem_singleton.2 rfl) hk)
      · exact GT.xQ _ w _ hg yF (.one yF Cu rfl)
    · -- there is none
      have abF:xs.length=cap:=by omega
      have hj:bz=[] :=by
        have:bz.length=0:=by subst abF;omega
        exact List.eq_nil_of_length_eq_zero this
      subst hj
      have holds:∀j u,(xs.flatMap f)[j]? =some u→w.cell? ((⟨b,0,none⟩:Addr).add j)=some u:=fun j u hj=>by
        rw [iT];simp [World.cell?,Cu,arr,hj]
      have hr:=run_append_grow (P:=P) w t ty E inf z hU B5 hz ⟨b,0,none⟩ xs.length cap (xs.flatMap f) (by rw [bQ hf,hs]) holds ⟨bx,0,none⟩ 1 c (f a) (by rw [hf,hs,Nat.one_mul]) uF (by omega) (by unfold maxLen at hlen;omega) (growslice_fits (by omega) pL)
      refine step _ _ hr ?_
      obtain ⟨k,hk,xb⟩:∃k,grownCap w (xs.length+1) cap E=k∧xs.length+1≤k∧k≤maxLen:=⟨_,rfl,grownCap_ge w _ cap E,grownCap_le_maxLen w _ cap E hlen⟩
      rw [hk]
      refine h _ [(w.heap.size,.cells (arr f (xs++ [a]) (Builtin.zeroCells z.cells (k-(xs.length+1))).toList) E (0,0))] (.inr ⟨w.heap.size,k,(Builtin.zeroCells z.cells (k-(xs.length+1))).toList,Nat.le_trans cb hc.size,by simp,rfl,by simpa using xb.1,xb.2,?_⟩) (fun p hp=>by rw [List.mem_singleton] at hp;subst hp;exact .inl hc.size) _ ?_ ?_ ?_
      · simp [size_zeroCells,HZ]
        rw [Nat.sub_mul]
        have:(xs.length+1)*s≤k*s:=Nat.mul_le_mul_right _ xb.1
        omega
      · have e1:(Obj.cells ((xs.flatMap f).toArray++(f a).toArray++Builtin.zeroCells z.cells (k-(xs.length+1))) E)= .cells (arr f (xs++ [a]) (Builtin.zeroCells z.cells (k-(xs.length+1))).toList) E (0,0):=by
          congr 1;apply Array.ext';simp [arr]
        rw [e1]
        have Zn:Mem w M2:=by simpa using Kk.tail
        exact(Zn.ext (cX.drew no w)).alloc _
      · exact(hc.step (cX.drew no w) (fun _ _ q=>q.elim)).step (bE w.drew _) (fun _ _ q=>q.elim)
      · exact GS.ext w.drew _ (GS.ext w _ hg (cX.drew no w)) (bE w.drew _)

theorem uB (cs:Array Value):∀(vs:List Value) (k:Nat) (acc:Array Value),(vs.zipIdx k).foldl (fun cs (p:Value×Nat)=>cs.setIfInBounds (0*cs.size+p.2) p.1) acc=mS acc k vs
  | [],k,acc=>rfl
  |v::vs,k,acc=>by
    simp only [List.zipIdx_cons,List.foldl_cons,mS,Nat.zero_mul,Nat.zero_add]
    have:=uB cs vs (k+1) (acc.setIfInBounds k v)
    simpa only [Nat.zero_mul,Nat.zero_add] using this
theorem uJ:∀(vs:List Value) (pre:List Value) (n3:List Value),n3.length=vs.length→mS (pre++n3).toArray pre.length vs=(pre++vs).toArray
  | [],pre,n3,h=>by
    have:n3=[] :=List.eq_nil_of_length_eq_zero (by simpa using h)
    subst this;rfl
  |v::vs,pre,[],h=>by simp at h
  |v::vs,pre,o::n3,h=>by
    simp only [mS,List.setIfInBounds_toArray]
    rw [List.set_append_right _ _ (Nat.le_refl _),Nat.sub_self,List.set_cons_zero]
    have:=uJ vs (pre++ [v]) n3 (by simpa using h)
    simpa using this
theorem Mi {s:Nat} {zs:Array Value} {v:Value} (hz:zs.size=s) (hv:v.cells.size=s):Instr.fill (fun i=>some (i*s,s)) zs [(0,v)] =some v.cells:=by
  have h1:v.cells.zipIdx.foldl (fun cs (p:Value×Nat)=>cs.setIfInBounds (0*s+p.2) p.1) zs=v.cells:=by
    rw [←Array.foldl_toList,Array.toList_zipIdx]
    have h2:=uB zs v.cells.toList 0 zs
    simp only [Nat.zero_mul,Nat.zero_add] at h2 ⊢
    rw [h2]
    have h3:=uJ v.cells.toList [] zs.toList (by simp [hz,hv])
    simpa using h3
  have h4:¬(v.cells.size≠s∨0*s+v.cells.size > zs.size):=by simp [hv,hz]
  simp only [Instr.fill]
  simp only [hv,hz,ne_eq,not_true_eq_false,Nat.zero_mul,Nat.zero_add,gt_iff_lt,Nat.lt_irrefl,decide_false,Bool.or_self,Bool.false_eq_true,if_false] at h1 ⊢
  simpa using h1
/-- '[]T{a}' behind an append: one element in a block of its own. -/
theorem LM.single [GS G] {E:TypeId} {s:Nat} {z v:Value} (hU:P.underlying t=some (.slice E)) (hS:∀w,(sizeOf E).run P w= .ok s w) (hZ:∀w,(zeroValue E).run P w= .ok z w) (hs:Nat.blt 0 s=true) (rS:Nat.blt s 1000=true) (hd:Nat.blt d N=true)
    (hx:ev e x=some v) (hv:v.cells.size=s)
    (h:∀b,w0.heap.size≤b→LM P r N ops Q l ((d,.slice (some ⟨b,0,none⟩) 1 1)::e) ds ((b,.cells v.cells E (0,0))::M) S w0 G):LM P r N ops Q (⟨some d,.buildSlice t 1 #[(0,x)],ty,pos,after,none⟩::l) e ds M S w0 G:=fun w hm hc hg=>by
  have h0:0<s:=Nat.le_of_ble_eq_true hs
  have Xt:s<1000:=Nat.le_of_ble_eq_true rS
  have eb:¬s=0:=by omega
  have TC:¬(16777216<s):=by omega
  have ER:=Mi (s:=s) (zs:=(Array.range s).map (z.cells[· % z.cells.size]!)) (v:=v) (by simp) hv
  refine LE.val (w':=w.alloc (.cells v.cells E)) (fun ρ hρ _ _ _ _=>?_) (h w.heap.size hc.size _ (hm.alloc _) (hc.step (bE w _) (fun _ _ q=>q.elim)) (GS.ext w _ hg (bE w _))) rfl hd
  simp [execOp,Instr.buildSlice,run_underlying hU,hS,hZ,eb,TC,hρ x _ hx,ER,newRow,Result.andThen]

/-- 'make([]T, n)' -/
theorem LM.make [GS G] {α:Type} {f:α→List Value} {E s:Nat} {inf:TypeInfo} {z:Value} {a0:α} {n:Int} {k k':IntKind} (hU:P.underlying t=some (.slice E)) (hI:∀w,(typeInfo E).run P w= .ok inf w) (hz:inf.zero=some z) (hs:inf.size=s) (pE:Nat.blt 0 s=true) (hza:z.cells=(f a0).toArray) (hf:∀a,(f a).length=s) (hd:Nat.blt d N=true)
    (hx:ev e x=some (.int k n)) (hy:ev e y=some (.int k' n)) (h0:0≤n) (hb:(inf.bytes:Int)*n≤281474976710656) (h63:n≤9223372036854775807)
    (h:∀b,w0.heap.size≤b→LM P r N ops Q l ((d,.slice (some ⟨b,0,none⟩) n.toNat n.toNat)::e) ds ((b,.cells (arr f (List.replicate n.toNat a0) []) E (0,0))::M) S w0 G):
    LM P r N ops Q (⟨some d,.makeSlice t x y,ty,pos,after,none⟩::l) e ds M S w0 G:=fun w hm hc hg=>by
  have pE:0<s:=Nat.le_of_ble_eq_true pE
  have hr:=run_make w t E inf z (P:=P) hU (yp hI) hz k k' n n h0 (Int.le_refl _) hb h63
  have e1:madeCells z.cells (n.toNat*inf.size)=arr f (List.replicate n.toNat a0) [] :=by
    apply Array.ext'
    apply List.ext_getElem?
    intro i
    have hlen:(f a0).length=s:=hf a0
    simp only [arr,List.append_nil]
    by_cases hi:i<n.toNat*s
    · have hq:i / s<n.toNat:=Nat.div_lt_of_lt_mul (by rwa [Nat.mul_comm])
      have XX:i % s<s:=Nat.mod_lt _ pE
      have hg:=j0 hf (List.replicate n.toNat a0) (i / s) (i % s) a0 (by simp [hq]) XX
      rw [show i / s*s+i % s=i by rw [Nat.mul_comm];exact Nat.div_add_mod i s] at hg
      rw [hg]
      simp [madeCells,hs,hi,hza,hlen,XX]
    · have h2:n.toNat*s≤i:=by omega
      rw [List.getElem?_eq_none (by simp [madeCells,hs];exact h2),List.getElem?_eq_none (by rw [bQ hf];simpa using h2)]
  rw [e1] at hr
  exact LE.val (fun ρ hρ _ _ _ _=>by simp [execOp,hρ x _ hx,hρ y _ hy,hr,Result.andThen]) (h w.heap.size hc.size _ (hm.alloc _) (hc.step (bE w _) (fun _ _ q=>q.elim)) (GS.ext w _ hg (bE w _))) rfl hd
end

/-! integers in slices -/
def fI (n:Int):List Value:=[.int .i64 n]
section
variable {P:Program} {r:Option Nat} {N:Nat} {Q:Exit→Act→World→Prop} {e:Env} {ds:List Nat} {M:aa} {S:Nat→Prop} {w0:World} {G:World→Prop}
variable {ops:Array Oper} {l:List Oper} {ty:TypeId} {pos:String} {after:Array Edge} {x y:Operand} {t:TypeId}
end
section
variable {P:Program} {r:Option Nat} {N:Nat} {Q:Exit→Act→World→Prop} {e:Env} {ds:List Nat} {M:aa} {S:Nat→Prop} {w0:World} {G:World→Prop}
variable {ops:Array Oper} {l:List Oper} {op:Op} {ty:TypeId} {pos:String} {after:Array Edge} {d:Nat}
/-- What isn't carried out, where a later guard asks for it. -/
theorem LM.c9 {j t:Nat} {b c:Bool} (hj:(ops[j]?).bind (·.dst)=some t) (ht:look e t=some (.bool c)) (RW:(c==b)=false)
    (h:LM P r N ops Q l ((d,undef)::e) ds M S w0 G) (hd:Nat.blt d N=true:=by rfl):LM P r N ops Q (⟨some d,op,ty,pos,after,some (j,b)⟩::l) e ds M S w0 G:=fun w hm hc hg=> .drop hj ht RW (h w hm hc hg) hd
/-- A guard that was not carried out itself. -/
theorem LM.Io {j t:Nat} {b:Bool} (hj:(ops[j]?).bind (·.dst)=some t) (ht:look e t=some undef)
    (h:LM P r N ops Q l ((d,undef)::e) ds M S w0 G) (hd:Nat.blt d N=true:=by rfl):LM P r N ops Q (⟨some d,op,ty,pos,after,some (j,b)⟩::l) e ds M S w0 G:=fun w hm hc hg a hf eN=>by
  have hw:Region.wanted ⟨some d,op,ty,pos,after,some (j,b)⟩ (yielded ops a.tmps)=false:=by
    simp only [Region.wanted,yielded,hj,Option.bind_some,hf.2 t _ ht,undef];rfl
  unfold wpListIn
  rw [if_neg (by rw [hw];simp)]
  exact⟨fun _ _=>trivial,h w hm hc hg _ (hf.put hd undef) eN⟩
end
/-- Ways meet again: what holds where they meet. -/
def PW (N:Nat) (ds:List Nat) (S:Nat→Prop) (w0:World) {α:Type} (E:α→Env) (MM:α→aa) (GG:α→World→Prop) (I:α→Prop) (Q:Exit→Act→World→Prop):Exit→Act→World→Prop
  | .normal,a,w=>∃y,Fr N (E y) a∧Dm ds a∧Mem w (MM y)∧cX S w0 w∧GG y w∧I y
  |x,a,w=>Q x a w
section
variable {P:Program} {r:Option Nat} {N:Nat} {Q:Exit→Act→World→Prop} {e:Env} {ds:List Nat} {M:aa} {S:Nat→Prop} {w0:World} {G:World→Prop}
theorem af.Za {α:Type} {c:Code} (E:α→Env) (MM:α→aa) (GG:α→World→Prop) (I:α→Prop) (h1:af P r N c (PW N ds S w0 E MM GG I Q) e ds M S w0 G) (h2:∀x,I x→QM N Q .normal (E x) ds (MM x) S w0 (GG x)):af P r N c Q e ds M S w0 G:=fun w hm hc hg a hf hd=>by
  refine wpIn_mono (h1 w hm hc hg a hf hd) (fun x a w hq=>?_)
  cases x with
  |normal=>obtain ⟨y,Wa,hd',aq,ab,aI,hI⟩:=hq;exact h2 y hI w aq ab aI a Wa hd'
  |exit id=>exact hq
  |goto l=>exact hq
  |ret=>exact hq
  |panic ch=>exact hq
  |outgrown=>exact hq
theorem af.join {α:Type} {c:Code} (E:α→Env) (MM:α→aa) (I:α→Prop) (h1:af P r N c (PW N ds S w0 E MM (fun _=>G) I Q) e ds M S w0 G) (h2:∀x,I x→QM N Q .normal (E x) ds (MM x) S w0 G):af P r N c Q e ds M S w0 G:= .Za E MM (fun _=>G) I h1 h2
theorem QM.YY {α:Type} {E:α→Env} {MM:α→aa} {GG:α→World→Prop} {I:α→Prop} (y:α) (hs:Sub e (E y)) (hM:∀w,Mem w M→Mem w (MM y)) (hG:∀w,G w→GG y w) (hI:I y):QM N (PW N ds S w0 E MM GG I Q) .normal e ds M S w0 G:=
  fun w hw hc hg _ hf hd=>⟨y,hf.sub hs,hd,hM w hw,hc,hG w hg,hI⟩
theorem QM.meet {α:Type} {E:α→Env} {MM:α→aa} {I:α→Prop} (y:α) (hs:Sub e (E y)) (hM:∀w,Mem w M→Mem w (MM y)) (hI:I y):QM N (PW N ds S w0 E MM (fun _=>G) I Q) .normal e ds M S w0 G:= .YY y hs hM (fun _ h=>h) hI
theorem QM.fZ {α:Type} {E:α→Env} {MM:α→aa} {GG:α→World→Prop} {I:α→Prop} (h:QM N Q .ret e ds M S w0 G):QM N (PW N ds S w0 E MM GG I Q) .ret e ds M S w0 G:=h
end
/-- What was there is as it was; the value is a slice of the call's own. -/
def New {α:Type} (f:α→List Value) (E s:Nat) (xs:List α) (w:World) (v:Value) (w':World):Prop:=Ext w w'∧∃m,Sl f E s w.heap.size xs v m∧Mem w' m
section
variable {P:Program} {r:Option Nat} {N:Nat} {Q:Exit→Act→World→Prop} {e:Env} {ds:List Nat} {M:aa} {S:Nat→Prop} {w0:World} {G:World→Prop}
variable {ops:Array Oper} {l:List Oper} {op:Op} {ty:TypeId} {pos:String} {after:Array Edge} {d:Nat}
theorem LM.JJ [GS G] {α:Type} {f:α→List Value} {E s:Nat} {xs:List α} {g:FuncId} {args:Array Value} (hc:∀w,yy P op ty e w g args) (h:∀w,Mem w M→cX S w0 w→G w→aJ P g args w (New f E s xs w))
    (hk:∀u m,Sl f E s w0.heap.size xs u m→LM P r N ops Q l ((d,u)::e) ds (m++M) S w0 G) (dt:nd op=true:=by rfl) (hd:Nat.blt d N=true:=by rfl):
    LM P r N ops Q (⟨some d,op,ty,pos,after,none⟩::l) e ds M S w0 G:=
  .call hc (fun w hm gC hg=>h w hm gC hg) (fun w u w' hm gC hg ⟨he,m,gh,aq⟩=>by
    refine hk u m (gh.mono gC.size) w' ⟨?_,fun p hp=>?_⟩ (gC.step he (fun _ _ q=>q.elim)) (GS.ext w w' hg he)
    · rw [List.map_append]
      refine List.nodup_append.2 ⟨aq.1,hm.1,?_⟩
      intro x hx y hy SJ
      obtain ⟨p,hp,rfl⟩:=List.mem_map.1 hx
      obtain ⟨q,hq,rfl⟩:=List.mem_map.1 hy
      have:=gh.ge p hp
      have:=hm.lt hq
      omega
    · rcases List.mem_append.1 hp with hp|hp
      · exact aq.2 p hp
      · exact he.get (hm.2 p hp)) dt hd
end
section
variable {P:Program} {r:Option Nat} {N:Nat} {Q:Exit→Act→World→Prop} {e:Env} {ds:List Nat} {M:aa} {S:Nat→Prop} {w0:World} {G:World→Prop}
variable {ops:Array Oper} {l:List (Nat×Nat)} {op:Op} {ty:TypeId} {pos:String} {after:Array Edge} {d i:Nat}
theorem LD.JJ [GS G] {α:Type} {f:α→List Value} {E s:Nat} {xs:List α} {gd:Option (Nat×Bool)} {g:FuncId} {args:Array Value} (hi:ops[i]? =some ⟨some d,op,ty,pos,after,gd⟩) (Gt:sz ops e gd true) (hc:∀w,yy P op ty e w g args) (h:∀w,Mem w M→cX S w0 w→G w→aJ P g args w (New f E s xs w))
    (hk:∀u m,Sl f E s w0.heap.size xs u m→LD P r N ops Q l ((d,u)::e) ds (M++m) S w0 G) (dt:nd op=true:=by rfl) (hd:Nat.blt d N=true:=by rfl):
    LD P r N ops Q ((i,2)::l) e ds M S w0 G:=
  .Mg hi Gt hc (fun w hm gC hg=>h w hm gC hg) (fun w u w' hm gC hg ⟨he,m,gh,aq⟩=>by
    refine ⟨M++m,fun w h=>h.sub (List.sublist_append_left _ _),⟨Mem.perm (M:=m++M) ⟨?_,fun p hp=>?_⟩ List.perm_append_comm,gC.step he (fun _ _ q=>q.elim),GS.ext w w' hg he⟩,hk u m (gh.mono gC.size)⟩
    · rw [List.map_append]
      refine List.nodup_append.2 ⟨aq.1,hm.1,?_⟩
      intro x hx y hy SJ
      obtain ⟨p,hp,rfl⟩:=List.mem_map.1 hx
      obtain ⟨q,hq,rfl⟩:=List.mem_map.1 hy
      have:=gh.ge p hp
      have:=hm.lt hq
      omega
    · rcases List.mem_append.1 hp with hp|hp
      · exact aq.2 p hp
      · exact he.get (hm.2 p hp)) dt hd
end
theorem lk {e:Env} {t:Nat} {v v':Value} (h:look e t=some v') (hv:v'=v):look e t=some v:=by rw [h,hv]

/-- Book-keeping from block n on: nothing is changed but the objects of loops that lie there. -/
structure Bk (n:Nat) (w w':World):Prop where
  os:w'.os=w.os
  tape:w'.tape=w.tape
  output:w'.output=w.output
  size:w.heap.size≤w'.heap.size
  same:∀(b:Nat) (o:Obj),w.heap[b]? =some o→(b<n∨bW o=false)→w'.heap[b]? =some o
  walk:∀(b:Nat) (o:Obj),w.heap[b]? =some o→bW o=true→∃o',w'.heap[b]? =some o'∧bW o'=true

theorem oS {w:World} {l:Nat} (o:Obj):cX (fun x=>x=l) w (w.putObj l o):=
  ⟨rfl,rfl,rfl,by simp,fun b _ hn=>World.putObj_heap_other hn⟩
/-- What a round keeps: the objects of loops that lay from n on in W1 lie there still. -/
structure KW (n:Nat) (W1 w:World):Prop where
  os:w.os=W1.os
  tape:w.tape=W1.tape
  output:w.output=W1.output
  size:W1.heap.size≤w.heap.size
  same:∀(b:Nat) (o:Obj),n≤b→W1.heap[b]? =some o→bW o=true→w.heap[b]? =some o
instance (n:Nat) (W1:World):GT (KW n W1) where
  ext:=fun w w' h e=>⟨e.os.trans h.os,e.tape.trans h.tape,e.output.trans h.output,Nat.le_trans h.size e.size,fun b o hn hb hw=>e.get (h.same b o hn hb hw)⟩
  xQ:=fun S w w' h e k=>⟨e.os.trans h.os,e.tape.trans h.tape,e.output.trans h.output,Nat.le_trans h.size e.size,fun b o hn hb hw=>k b o (h.same b o hn hb hw) hw⟩
instance {G H:World→Prop} [GS G] [GS H] :GS (fun w=>G w∧H w) where
  ext:=fun w w' h e=>⟨GS.ext w w' h.1 e,GS.ext w w' h.2 e⟩
instance {G H:World→Prop} [GT G] [GT H] :GT (fun w=>G w∧H w) where
  ext:=fun w w' h e=>⟨GS.ext w w' h.1 e,GS.ext w w' h.2 e⟩
  xQ:=fun S w w' h e k=>⟨GT.xQ S w w' h.1 e k,GT.xQ S w w' h.2 e k⟩

/-! ### One round -/
/-! ### The statement -/
section
variable {N l:Nat} {rc:Loop} {Dl:aa} {S:Nat→Prop} {w0:World} {K G:World→Prop} {α β:Type} {MM:α→aa} {GG:α→World→Prop} {I:α→Prop} {MX:β→aa} {GX:β→World→Prop} {IX:Code→β→Prop} {e:Env} {M:aa}
end

section range
variable {P:Program} {N:Nat} {Q:Exit→Act→World→Prop} {e:Env} {ds:List Nat} {M:aa} {S:Nat→Prop} {w0:World} {G:World→Prop}
variable {g:Operand} {ps:Array Tmp} {assign body:Code} {gf:FuncId} {lb:Array Value} {A:List (Array Value)} {Rd:World→Prop} {fin:Prop} {α β:Type}

end range

/-! ### More operations -/
section
variable {P:Program} {ty:TypeId} {e:Env} {t u:TypeId} {x y:Operand}
theorem xk (op:BinOp) (t:TypeId) (x y:Operand) (a b:ByteArray) (w:World):(eqGuard op t x y (.string a) (.string b)).run P w= .ok () w:=by unfold eqGuard;cases op<;>rfl
theorem Oo {a b:ByteArray} (hx:ev e x=some (.string a)) (hy:ev e y=some (.string b)):fb P (.binOp .eql t x y u) ty e (.bool (a.toList==b.toList)):=fun w ρ hρ _ _ _ _=>by
  simp [execOp,hρ x _ hx,hρ y _ hy,xk,binOp,Op.stringOp,Result.andThen]
theorem NN {a b:ByteArray} (hx:ev e x=some (.string a)) (hy:ev e y=some (.string b)):fb P (.binOp .neq t x y u) ty e (.bool (!(a.toList==b.toList))):=fun w ρ hρ _ _ _ _=>by
  simp [execOp,hρ x _ hx,hρ y _ hy,xk,binOp,Op.stringOp,Result.andThen]
theorem Fp {k:IntKind} {a:Int} {ad:Option Addr} {b off n c s:Nat} {E:TypeId} (had:ad=some ⟨b,off,none⟩) (hU:P.underlying t=some (.slice E)) (hS:∀w,(sizeOf E).run P w= .ok s w) (ha:ev e x=some (.slice ad n c)) (hi:ev e y=some (.int k a)) (h:0≤a∧a<n):
    fb P (.indexAddr t x y) ty e (.pointer (some ⟨b,off+a.toNat*s,none⟩)):=by subst had;exact R8 hU hS ha hi h
def Sf (e:Env):List (Nat×Operand)→Option (List (Nat×Value))
  | [] =>some []
  |(i,x)::l=>match ev e x,Sf e l with|some v,some vs=>some ((i,v)::vs)|_,_=>none
theorem zN {ρ:Operand→Value} (hρ:∀x u,ev e x=some u→ρ x=u):∀{l:List (Nat×Operand)} {vs:List (Nat×Value)},Sf e l=some vs→l.map (fun p=>(p.1,ρ p.2))=vs
  | [],vs,h=>by simp only [Sf,Option.some.injEq] at h;subst h;rfl
  |(i,x)::l,vs,h=>by
    simp only [Sf] at h
    cases hx:ev e x with
    |none=>rw [hx] at h;cases h
    |some v=>
      cases hl:Sf e l with
      |none=>rw [hx,hl] at h;cases h
      |some us=>
        rw [hx,hl] at h
        obtain rfl:=Option.some.inj h
        simp [hρ x v hx,zN hρ hl]
theorem aD {l:List (Nat×Operand)} {vs:List (Nat×Value)} {cs:Array Value} (h:Sf e l=some vs) (hb:P.built t vs=some cs):fb P (.build t l.toArray) ty e (.agg cs):=fun w ρ hρ _ _ _ _=>by
  have h1:=run_build (P:=P) w t vs.toArray cs (by simpa using hb)
  have h2:l.toArray.map (fun (i,x)=>(i,ρ x))=vs.toArray:=by rw [List.map_toArray];congr 1;exact zN hρ h
  simp only [execOp]
  rw [h2]
  simp [h1]
end

/-! ### '[]T{a, b, ..}' -/
theorem xX (o:Nat):∀(vs:List Value) (k:Nat) (acc:Array Value),(vs.zipIdx k).foldl (fun cs (p:Value×Nat)=>cs.setIfInBounds (o+p.2) p.1) acc=mS acc (o+k) vs
  | [],k,acc=>rfl
  |v::vs,k,acc=>by
    simp only [List.zipIdx_cons,List.foldl_cons,mS]
    exact xX o vs (k+1) _
theorem AS:∀(vs:List Value) (pre n3 Ux:List Value),n3.length=vs.length→mS (pre++(n3++Ux)).toArray pre.length vs=(pre++(vs++Ux)).toArray
  | [],pre,n3,Ux,h=>by
    have:n3=[] :=List.eq_nil_of_length_eq_zero (by simpa using h)
    subst this;rfl
  |v::vs,pre,[],Ux,h=>by simp at h
  |v::vs,pre,o::n3,Ux,h=>by
    simp only [mS,List.setIfInBounds_toArray]
    rw [List.set_append_right _ _ (Nat.le_refl _),Nat.sub_self,List.cons_append,List.set_cons_zero]
    have:=AS vs (pre++ [v]) n3 Ux (by simpa using h)
    simpa using this
theorem Ag {s:Nat} :∀(vs:List Value) (k:Nat) (pre n3:List Value),vs.all (fun v=>v.cells.size==s)=true→pre.length=k*s→n3.length=vs.length*s→
    Instr.fill (fun i=>some (i*s,s)) (pre++n3).toArray ((vs.zipIdx k).map fun p=>(p.2,p.1))=some (pre++vs.flatMap (fun v=>v.cells.toList)).toArray
  | [],k,pre,n3,_,hp,ho=>by
    have:n3=[] :=List.eq_nil_of_length_eq_zero (by simpa using ho)
    subst this;simp [Instr.fill]
  |v::vs,k,pre,n3,hv,hp,ho=>by
    simp only [List.all_cons,Bool.and_eq_true,beq_iff_eq] at hv
    have hlen:n3.length=(vs.length+1)*s:=by simpa using ho
    rw [Nat.succ_mul] at hlen
    have h4:¬(v.cells.size≠s∨k*s+v.cells.size > (pre++n3).toArray.size):=by simp [hv.1];omega
    simp only [List.zipIdx_cons,List.map_cons,Instr.fill]
    have hb:(v.cells.size≠s||k*s+v.cells.size > (pre++n3).toArray.size)=false:=by
      rw [Bool.eq_false_iff];intro h;simp only [Bool.or_eq_true,decide_eq_true_eq] at h;exact h4 h
    rw [hb]
    simp only [Bool.false_eq_true,if_false]
    have h5:v.cells.zipIdx.foldl (fun cs (p:Value×Nat)=>cs.setIfInBounds (k*s+p.2) p.1) (pre++n3).toArray=(pre++(v.cells.toList++n3.drop s)).toArray:=by
      rw [←Array.foldl_toList,Array.toList_zipIdx,xX]
      have:=AS v.cells.toList pre (n3.take s) (n3.drop s) (by simp [hv.1];omega)
      rw [List.take_append_drop] at this
      rw [Nat.add_zero,←hp];exact this
    have h6:=Ag vs (k+1) (pre++v.cells.toList) (n3.drop s) hv.2 (by simp [hv.1,hp];rw [Nat.succ_mul]) (by simp;omega)
    simp only [List.append_assoc] at h6
    simp only [List.flatMap_cons]
    rw [←h6]
    congr 1
section
variable {P:Program} {r:Option Nat} {N:Nat} {Q:Exit→Act→World→Prop} {e:Env} {ds:List Nat} {M:aa} {S:Nat→Prop} {w0:World} {G:World→Prop}
variable {ops:Array Oper} {l:List Oper} {ty:TypeId} {pos:String} {after:Array Edge} {d:Nat} {t:TypeId}
theorem LM.row [GS G] {E:TypeId} {s n:Nat} {z:Value} {vs:List Value} {l':List (Nat×Operand)} (hU:P.underlying t=some (.slice E)) (hS:∀w,(sizeOf E).run P w= .ok s w) (hZ:∀w,(zeroValue E).run P w= .ok z w) (hn:vs.length=n) (hs:Nat.blt 0 (n*s)=true) (rS:Nat.blt (n*s) 1000=true) (hd:Nat.blt d N=true)
    (hx:Sf e l'=some (vs.zipIdx.map fun p=>(p.2,p.1))) (hv:vs.all (fun v=>v.cells.size==s)=true)
    (h:∀b,w0.heap.size≤b→LM P r N ops Q l ((d,.slice (some ⟨b,0,none⟩) n n)::e) ds ((b,.cells (vs.flatMap (fun v=>v.cells.toList)).toArray E (0,0))::M) S w0 G):LM P r N ops Q (⟨some d,.buildSlice t n l'.toArray,ty,pos,after,none⟩::l) e ds M S w0 G:=fun w hm hc hg=>by
  have h0:0<n*s:=Nat.le_of_ble_eq_true hs
  have Xt:n*s<1000:=Nat.le_of_ble_eq_true rS
  have eb:¬n*s=0:=by omega
  have ajZ:¬(n=0∨s=0):=by intro h;rcases h with rfl|rfl<;>simp at eb
  have TC:¬(16777216<n*s):=by omega
  have ER:=Ag (s:=s) vs 0 [] ((Array.range (n*s)).map (z.cells[· % z.cells.size]!)).toList hv (by simp) (by simp [hn])
  simp only [List.nil_append,Array.toArray_toList] at ER
  refine LE.val (w':=w.alloc (.cells (vs.flatMap (fun v=>v.cells.toList)).toArray E)) (fun ρ hρ _ _ _ _=>?_) (h w.heap.size hc.size _ (hm.alloc _) (hc.step (bE w _) (fun _ _ q=>q.elim)) (GS.ext w _ hg (bE w _))) rfl hd
  have hp:=zN hρ hx
  have h2:(l'.toArray.map (fun (p:Nat×Operand)=>(p.1,ρ p.2)))=(vs.zipIdx.map fun p=>(p.2,p.1)).toArray:=by rw [List.map_toArray,hp]
  simp only [execOp]
  rw [h2]
  simp only [Instr.buildSlice]
  simp [run_underlying hU,hS,hZ,if_neg eb,TC,ER,newRow,Result.andThen]
end

/-! ### A slice that is read -/
def Sr {α:Type} (f:α→List Value) (s:Nat) (xs:List α) (v:Value) (w:World):Prop:=
  ∃ad cap,v= .slice ad xs.length cap∧xs.length≤cap∧(0<xs.length→∃b off cs E fz,ad=some ⟨b,off,none⟩∧w.heap[b]? =some (.cells cs E fz)∧∀i a,xs[i]? =some a→∀j,j<s→cs[off+(i*s+j)]? =(f a)[j]?)
theorem Sr.ext {α:Type} {f:α→List Value} {s:Nat} {xs:List α} {v:Value} {w w':World} (h:Sr f s xs v w) (k:Ext w w'):Sr f s xs v w':=by
  obtain ⟨ad,cap,h1,h2,h3⟩:=h
  refine ⟨ad,cap,h1,h2,fun hx=>?_⟩
  obtain ⟨b,off,cs,E,fz,h4,h5,h6⟩:=h3 hx
  exact⟨b,off,cs,E,fz,h4,k.get h5,h6⟩
theorem Sr.keep {α:Type} {f:α→List Value} {s:Nat} {xs:List α} {v:Value} {S:Nat→Prop} {w w':World} (h:Sr f s xs v w) (k:cX S w w') (hS:∀b off n c,v= .slice (some ⟨b,off,none⟩) n c→¬S b):Sr f s xs v w':=by
  obtain ⟨ad,cap,h1,h2,h3⟩:=h
  refine ⟨ad,cap,h1,h2,fun hx=>?_⟩
  obtain ⟨b,off,cs,E,fz,h4,h5,h6⟩:=h3 hx
  exact⟨b,off,cs,E,fz,h4,k.get h5 (hS b off _ _ (by rw [h1,h4])),h6⟩
theorem Sr.take {α:Type} {f:α→List Value} {s:Nat} {xs:List α} {ad:Option Addr} {n cap:Nat} {w:World} (h:Sr f s xs (.slice ad n cap) w) {k:Nat} (hk:k≤xs.length):Sr f s (xs.take k) (.slice ad k cap) w:=by
  obtain ⟨zY,kT,h1,h2,h3⟩:=h
  simp only [Value.slice.injEq] at h1
  obtain ⟨rfl,rfl,rfl⟩:=h1
  have hl:(xs.take k).length=k:=by simp;omega
  refine ⟨ad,cap,by rw [hl],by omega,fun hx=>?_⟩
  obtain ⟨b,off,cs,E,fz,h4,h5,h6⟩:=h3 (by omega)
  refine ⟨b,off,cs,E,fz,h4,h5,fun i a ha j hj=>h6 i a ?_ j hj⟩
  rw [List.getElem?_take] at ha
  split at ha
  · exact ha
  · cases ha
theorem Sl.sr {α:Type} {f:α→List Value} {E s n0:Nat} {xs:List α} {v:Value} {m:aa} {w:World} (h:Sl f E s n0 xs v m) (hf:∀a,(f a).length=s) (hm:∀p∈m,w.heap[p.1]? =some p.2):Sr f s xs v w:=by
  rcases h with ⟨rfl,_,rfl⟩|⟨b,cap,bz,_,rfl,rfl,h1,_,_⟩
  · exact⟨none,0,rfl,Nat.le_refl _,fun h=>by simp at h⟩
  · refine ⟨_,cap,rfl,h1,fun _=>⟨b,0,_,_,_,rfl,hm _ (List.mem_singleton.2 rfl),fun i a ha j hj=>?_⟩⟩
    rw [Nat.zero_add];exact lZ hf ha hj
theorem Sr.open {α:Type} {f:α→List Value} {s:Nat} {xs:List α} {ad:Option Addr} {n cap:Nat} {w:World} (h:Sr f s xs (.slice ad n cap) w):n=xs.length∧xs.length≤cap∧
    (0<xs.length→∃b off cs E fz,ad=some ⟨b,off,none⟩∧w.heap[b]? =some (.cells cs E fz)∧∀i a,xs[i]? =some a→∀j,j<s→cs[off+(i*s+j)]? =(f a)[j]?):=by
  obtain ⟨_,_,he,h2,h3⟩:=h
  simp only [Value.slice.injEq] at he
  obtain ⟨rfl,rfl,rfl⟩:=he
  exact⟨rfl,h2,h3⟩
theorem Sr.nil {α:Type} (f:α→List Value) (s:Nat) (w:World):Sr f s [] (.slice none 0 0) w:=⟨none,0,rfl,Nat.le_refl _,fun h=>by simp at h⟩
section
variable {P:Program} {N:Nat} {e:Env} {M:aa} {S:Nat→Prop} {w0:World} {G:World→Prop} {t ty:TypeId} {x:Operand}
/-- A cell of an element. -/
theorem Wz {α:Type} {f:α→List Value} {s:Nat} {xs:List α} {b off i j k:Nat} {cs:Array Value} {E:TypeId} {fz:Nat×Nat} {a:α} {v:Value} (hT:∀w,(isAgg t).run P w= .ok false w) (ha:ev e x=some (.pointer (some ⟨b,k,none⟩)))
    (hb:w0.heap[b]? =some (.cells cs E fz)) (hr:∀i a,xs[i]? =some a→∀j,j<s→cs[off+(i*s+j)]? =(f a)[j]?) (hi:xs[i]? =some a) (hj:j<s) (hk:k=off+(i*s+j)) (hv:(f a)[j]? =some v) (hS:¬S b):∀w,Mem w M→cX S w0 w→G w→rA P (.load t x) ty e w v w:=fun w _ hc _ ρ hρ _ _ _ _=>by
  have h1:=hr i a hi j hj
  rw [←hk,hv] at h1
  have h:=pd (P:=P) (hc.get hb hS) h1
  simp [execOp,Instr.loadAt,Instr.sureAddr,hρ x _ ha,loadVar,hT,h,Result.andThen]
/-- An element. -/
theorem Ui {α:Type} {f:α→List Value} {s:Nat} {xs:List α} {b off i k:Nat} {cs:Array Value} {E:TypeId} {fz:Nat×Nat} {a:α} (hT:∀w,(isAgg t).run P w= .ok true w) (hZ:∀w,(sizeOf t).run P w= .ok s w) (ha:ev e x=some (.pointer (some ⟨b,k,none⟩)))
    (hb:w0.heap[b]? =some (.cells cs E fz)) (hr:∀i a,xs[i]? =some a→∀j,j<s→cs[off+(i*s+j)]? =(f a)[j]?) (hi:xs[i]? =some a) (hk:k=off+i*s) (hl:(f a).length=s) (hS:¬S b):∀w,Mem w M→cX S w0 w→G w→rA P (.load t x) ty e w (.agg (f a).toArray) w:=fun w _ hc _ ρ hρ _ _ _ _=>by
  have h:=fm (P:=P) (off:=k) (vs:=f a) hT hZ (hc.get hb hS) hl (fun j v hj=>by
    have bB:j<s:=by rw [←hl];exact(List.getElem?_eq_some_iff.1 hj).1
    have:=hr i a hi j bB
    rw [hk,Nat.add_assoc,this];exact hj)
  simp [execOp,Instr.loadAt,Instr.sureAddr,hρ x _ ha,h,Result.andThen]
end

/-! ### An iterator's own code -/
section
variable {P:Program} {r:Option Nat} {N:Nat} {Q:Exit→Act→World→Prop} {e:Env} {ds:List Nat} {M:aa} {S:Nat→Prop} {w0:World} {G:World→Prop}
variable {ops:Array Oper} {rest:List Oper} {ty:TypeId} {pos:String} {after:Array Edge} {d:Nat}
end

/-! ### What the ghost knows -/
section
variable {P:Program} {r:Option Nat} {N:Nat} {Q:Exit→Act→World→Prop} {e:Env} {ds:List Nat} {M:aa} {S:Nat→Prop} {w0:World} {G:World→Prop} {ops:Array Oper} {l:List Oper}
end

/-! ### A function is left that has marks -/
def dM (ds:List Nat):aa:=ds.map (fun D=>(D,.deferred (some [])))
theorem Bh {S:Nat→Prop} {w0:World} :∀(ds:List Nat) (w:World) (M1:aa),Mem w (dM ds++M1)→cX S w0 w→(∀D∈ds,w0.heap.size≤D)→ur ds w∧Mem (shut ds w) M1∧cX S w0 (shut ds w)
  | [],w,M1,hm,hc,_=>⟨trivial,hm,hc⟩
  |D::ds,w,M1,hm,hc,hD=>by
    have aq:Mem w ((D,.deferred (some []))::(dM ds++M1)):=hm
    have h1:=aq.get (i:=0) rfl
    have h2:=(aq.set (i:=0) rfl (World.putObj_heap_same (Array.getElem?_eq_some_iff.1 h1).1) (oS (.deferred none))).tail
    obtain ⟨h3,h4,h5⟩:=Bh ds _ M1 h2 (hc.step (oS _) (fun x hx hxD=>by subst hxD;have:=hD x (List.mem_cons_self ..);omega)) (fun D' h=>hD D' (List.mem_cons_of_mem _ h))
    exact⟨⟨h1,h3⟩,h4,h5⟩
section
variable {P:Program} {fn:Func} {N:Nat} {e:Env} {ds:List Nat} {M1:aa} {S:Nat→Prop} {w0:World} {G:World→Prop} {R:Value→World→Prop} {vs:List Value}
end

/-! ### A call that changes some blocks -/
def eI (m:aa) (T:Value→aa→Prop) (w:World) (u:Value) (w':World):Prop:=
  cX (fun b=>∃q∈m,q.1=b) w w'∧∃m',T u m'∧Mem w' m'∧∀p∈m',w.heap.size≤p.1∨∃q∈m,q.1=p.1
section
variable {P:Program} {r:Option Nat} {N:Nat} {Q:Exit→Act→World→Prop} {e:Env} {ds:List Nat} {M:aa} {S:Nat→Prop} {w0:World} {G:World→Prop}
variable {ops:Array Oper} {l:List Oper} {op:Op} {ty:TypeId} {pos:String} {after:Array Edge} {d:Nat}
theorem vm [GT G] {m M2:aa} {T:Value→aa→Prop} {w w':World} {u:Value} (hm:Mem w (m++M2)) (Ow:∀p∈m,bW p.2=false) (hS:∀p∈m,p.1<w0.heap.size→S p.1) (hc:cX S w0 w) (hg:G w) (hu:eI m T w u w'):
    ∃m',T u m'∧(∀p∈m',w0.heap.size≤p.1∨∃q∈m,q.1=p.1)∧Mem w' (m'++M2)∧cX S w0 w'∧G w':=by
  obtain ⟨he,m',hT,aq,hn⟩:=hu
  have dt:=hm.1
  rw [List.map_append,List.nodup_append] at dt
  refine ⟨m',hT,fun p hp=>(hn p hp).imp (fun h=>Nat.le_trans hc.size h) id,⟨?_,?_⟩,hc.step he (fun x hx ⟨q,hq,hqx⟩=>by subst hqx;exact hS q hq hx),GT.xQ _ w w' hg he (fun b o hb ho=>he.get hb ?_)⟩
  · rw [List.map_append]
    refine List.nodup_append.2 ⟨aq.1,dt.2.1,?_⟩
    intro x hx y hy SJ
    obtain ⟨p,hp,rfl⟩:=List.mem_map.1 hx
    obtain ⟨q,hq,rfl⟩:=List.mem_map.1 hy
    rcases hn p hp with h|⟨z,hz,hzp⟩
    · have:=hm.lt (p:=q) (List.mem_append_right _ hq);omega
    · exact dt.2.2 z.1 (List.mem_map_of_mem hz) q.1 (List.mem_map_of_mem hq) (hzp.trans SJ)
  · intro p hp
    rcases List.mem_append.1 hp with hp|hp
    · exact aq.2 p hp
    · refine he.get (hm.2 p (List.mem_append_right _ hp)) ?_
      rintro ⟨q,hq,hqp⟩
      exact dt.2.2 q.1 (List.mem_map_of_mem hq) p.1 (List.mem_map_of_mem hp) hqp
  · rintro ⟨q,hq,hqb⟩
    have h1:=hm.2 q (List.mem_append_left _ hq)
    rw [hqb,hb] at h1;cases h1
    rw [Ow q hq] at ho;cases ho
theorem LM.WC [GT G] {f:FuncId} {args:Array Value} {m M2:aa} {T:Value→aa→Prop} (hM:∀w,Mem w M→Mem w (m++M2)) (Ow:∀p∈m,bW p.2=false) (hS:∀p∈m,p.1<w0.heap.size→S p.1) (hc:∀w,yy P op ty e w f args)
    (h:∀w,Mem w (m++M2)→cX S w0 w→G w→aJ P f args w (eI m T w))
    (hk:∀u m',T u m'→(∀p∈m',w0.heap.size≤p.1∨∃q∈m,q.1=p.1)→LM P r N ops Q l ((d,u)::e) ds (m'++M2) S w0 G) (dt:nd op=true:=by rfl) (hd:Nat.blt d N=true:=by rfl):
    LM P r N ops Q (⟨some d,op,ty,pos,after,none⟩::l) e ds M S w0 G:=
  .call hc (fun w hm gC hg=>h w (hM w hm) gC hg) (fun w u w' hm gC hg hu=>by
    obtain ⟨m',hT,h1,h2,h3,h4⟩:=vm (hM w hm) Ow hS gC hg hu
    exact hk u m' hT h1 w' h2 h3 h4) dt hd
end


/-- The entries of a map, as pairs. -/
def Ct (k:IntKind) (es:List MapEntry) (l:List (Int×Value)):Prop:=es.map (fun e=>(e.key,e.val))=l.map (fun p=>(Value.int k p.1,p.2))
def im:List (Int×Value)→Int→Nat→Option (Nat×Value)
  | [],_,_=>none
  |(b,v)::l,a,i=>if a=b then some (i,v) else im l a (i+1)
def ss (l:List (Int×Value)) (a:Int):Option Value:=(im l a 0).map (·.2)
def lE (l:List (Int×Value)) (a:Int) (v:Value):List (Int×Value):=match im l a 0 with|some (i,_)=>l.set i (a,v)|none=>l++ [(a,v)]
theorem sU {k k0:IntKind} {a:Int} :∀(es:List MapEntry) (l:List (Int×Value)) (i:Nat),Ct k es l→Instr.findNow (.int k0) (.int k a) es i=some (im l a i)
  | [],l,i,h=>by
    have:l=[] :=by simpa [Ct] using h.symm
    subst this;rfl
  |e::es,[],i,h=>by simp [Ct] at h
  |e::es,(b,v)::l,i,h=>by
    simp only [Ct,List.map_cons,List.cons.injEq,Prod.mk.injEq] at h
    obtain ⟨⟨h1,h2⟩,h3⟩:=h
    have ih:=sU (k:=k) (k0:=k0) (a:=a) es l (i+1) h3
    simp only [Instr.findNow,Instr.sameNow,h1,im,h2]
    by_cases jR:a=b
    · subst jR;simp
    · have:(a==b)=false:=by simpa using jR
      simp only [if_true,this,if_neg jR];exact ih
theorem jY:∀(l:List (Int×Value)) (a:Int) (i:Nat),im l a i=(im l a 0).map (fun p=>(p.1+i,p.2))
  | [],a,i=>rfl
  |(b,v)::l,a,i=>by
    simp only [im]
    by_cases h:a=b
    · simp [h]
    · rw [if_neg h,if_neg h,jY l a (i+1),jY l a (0+1),Option.map_map]
      congr 1;funext p;simp [Function.comp,Nat.add_assoc,Nat.add_comm 1 i]
theorem iZ (b:Int) (v:Value) (l:List (Int×Value)) (a:Int):ss ((b,v)::l) a=if a=b then some v else ss l a:=by
  unfold ss
  simp only [im]
  by_cases h:a=b
  · simp [h]
  · rw [if_neg h,if_neg h,jY,Option.map_map];rfl
theorem vK (a:Int) (v:Value):lE [] a v=[(a,v)] :=rfl
theorem kI (b:Int) (u:Value) (l:List (Int×Value)) (a:Int) (v:Value):lE ((b,u)::l) a v=if a=b then (a,v)::l else (b,u)::lE l a v:=by
  unfold lE
  simp only [im]
  by_cases h:a=b
  · subst h;simp
  · rw [if_neg h,if_neg h,jY]
    cases im l a 0 with
    |none=>rfl
    |some p=>rfl
theorem xx:∀(l:List (Int×Value)) (a:Int) (v:Value) (b:Int),ss (lE l a v) b=if b=a then some v else ss l b
  | [],a,v,b=>by rw [vK,iZ]
  |(c,u)::l,a,v,b=>by
    rw [kI]
    by_cases h:a=c
    · subst h;rw [if_pos rfl,iZ,iZ];split<;>rfl
    · rw [if_neg h,iZ,iZ,xx l a v b]
      by_cases h1:b=c
      · subst h1;rw [if_pos rfl,if_pos rfl,if_neg (fun e=>h e.symm)]
      · rw [if_neg h1,if_neg h1]
theorem iQ {P:Program} {k k':IntKind} {e:Bool} {n:Nat} {t:TypeId} {a:Int} (hk:P.underlying t=some (.int k)) (w:World):(Instr.checkKey e (n+1) t (.int k' a)).run P w= .ok () w:=by
  simp [Instr.checkKey,run_underlying hk,Result.andThen]
theorem jW {P:Program} {k k':IntKind} {t:TypeId} {a:Int} {es:List MapEntry} {l:List (Int×Value)} (hk:P.underlying t=some (.int k)) (h:Ct k' es l) (w:World):(Instr.findKey t (.int k' a) es).run P w= .ok (im l a 0) w:=by
  simp [Instr.findKey,run_underlying hk,sU es l 0 h,Result.andThen]

theorem xF:∀(l:List (Int×Value)) (a:Int) (i:Nat) (j:Nat) (v:Value),im l a i=some (j,v)→i≤j∧l[j-i]? =some (a,v)
  | [],a,i,j,v,h=>by simp [im] at h
  |(b,u)::l,a,i,j,v,h=>by
    simp only [im] at h
    by_cases jR:a=b
    · subst jR;rw [if_pos rfl] at h;cases h;simp
    · rw [if_neg jR] at h
      obtain ⟨h1,h2⟩:=xF l a (i+1) j v h
      refine ⟨by omega,?_⟩
      rw [show j-i=(j-(i+1))+1 by omega,List.getElem?_cons_succ];exact h2
section
variable {P:Program} {r:Option Nat} {N:Nat} {Q:Exit→Act→World→Prop} {e:Env} {ds:List Nat} {M:aa} {S:Nat→Prop} {w0:World} {G:World→Prop}
variable {ops:Array Oper} {l:List Oper} {ty:TypeId} {pos:String} {after:Array Edge} {d:Nat} {t:TypeId} {x y z:Operand}
theorem LM.makeMap [GS G] (hd:Nat.blt d N=true) (h:∀b,w0.heap.size≤b→LM P r N ops Q l ((d,.map (some b))::e) ds ((b,.map #[] 0)::M) S w0 G):
    LM P r N ops Q (⟨some d,.makeMap t none,ty,pos,after,none⟩::l) e ds M S w0 G:=fun w hm hc hg=>by
  refine LE.val (w':=w.alloc (.map #[] 0)) (fun ρ hρ _ _ _ _=>?_) (h w.heap.size hc.size _ (hm.alloc _) (hc.step (bE w _) (fun _ _ q=>q.elim)) (GS.ext w _ hg (bE w _))) rfl hd
  simp [execOp,run_makeMap,Result.andThen]
theorem G4 (i:Nat) {b:Nat} {k k':IntKind} {kt et:TypeId} {zv v:Value} {es:Array MapEntry} {clock:Nat} {a:Int} {l:List (Int×Value)} (hU:P.underlying t=some (.map kt et)) (hk:P.underlying kt=some (.int k)) (hz:∀w,(zeroValue et).run P w= .ok zv w)
    (hx:ev e x=some (.map (some b))) (hy:ev e y=some (.int k' a)) (hM:M[i]? =some (b,.map es clock)) (EL:Ct k' es.toList l) (hv:v=(ss l a).getD zv):∀w,Mem w M→rA P (.lookup t x y false) ty e w v w:=fun w hm ρ hρ _ _ _ _=>by
  subst hv
  have hb:=hm.get hM
  have h1:(Instr.lookup t (.map (some b)) (.int k' a) false).run P w= .ok ((ss l a).getD zv) w:=by
    unfold ss
    cases hf:im l a 0 with
    |none=>simp [Instr.lookup,run_underlying hU,MapKept.run_getObj_map hb,iQ hk,jW hk EL,hf,hz,Result.andThen]
    |some p=>simp [Instr.lookup,run_underlying hU,MapKept.run_getObj_map hb,iQ hk,jW hk EL,hf,hz,Result.andThen]
  simp [execOp,hρ x _ hx,hρ y _ hy,h1,Result.andThen]
theorem LM.mapUpdate [GT G] (i:Nat) {b:Nat} {k k':IntKind} {kt et:TypeId} {v:Value} {es:Array MapEntry} {clock:Nat} {a:Int} {m:List (Int×Value)} (hU:P.underlying t=some (.map kt et)) (hk:P.underlying kt=some (.int k))
    (hx:ev e x=some (.map (some b))) (hy:ev e y=some (.int k' a)) (hz:ev e z=some v) (hM:M[i]? =some (b,.map es clock)) (EL:Ct k' es.toList m) (hb:b<w0.heap.size→S b)
    (h:∀HT lq,Ct k' HT.toList (lE m a v)→LM P r N ops Q l e ds (M.set i (b,.map HT lq)) S w0 G):
    LM P r N ops Q (⟨none,.mapUpdate t x y z,ty,pos,after,none⟩::l) e ds M S w0 G:=fun w hm hc hg=>by
  have Cu:=hm.get hM
  obtain ⟨HT,lq,hr,hE⟩:∃HT lq,(Instr.mapUpdate t (.map (some b)) (.int k' a) v).run P w= .ok () (w.putObj b (.map HT lq))∧Ct k' HT.toList (lE m a v):=by
    cases hf:im m a 0 with
    |none=>
      refine ⟨es.push ⟨.int k' a,v,clock⟩,clock+1,?_,?_⟩
      · simp [Instr.mapUpdate,run_underlying hU,MapKept.run_getObj_map Cu,iQ hk,jW hk EL,hf,MapKept.run_setObj_map _ Cu,Result.andThen,World.putObj]
      · unfold lE Ct at*;rw [hf];simp [EL]
    |some p=>
      obtain ⟨j,u⟩:=p
      obtain ⟨_,hj⟩:=xF m a 0 j u hf
      rw [Nat.sub_zero] at hj
      have Ik:(es[j]?).map (·.key)=some (.int k' a):=by
        have h1:=congrArg (fun l=>l[j]?) EL
        simp only [List.getElem?_map,hj,Option.map_some,Array.getElem?_toList] at h1
        cases hq:es[j]? with
        |none=>rw [hq] at h1;simp at h1
        |some q=>rw [hq] at h1;simp at h1;simp [h1.1]
      refine ⟨es.modify j fun e=> {e with key:= .int k' a,val:=v},clock,?_,?_⟩
      · simp [Instr.mapUpdate,run_underlying hU,MapKept.run_getObj_map Cu,iQ hk,jW hk EL,hf,Ik,Instr.keyThatStays,Instr.sameBits,MapKept.run_setObj_map _ Cu,Result.andThen,World.putObj]
      · unfold lE Ct at*;rw [hf]
        apply List.ext_getElem?
        intro q
        have h1:=congrArg (fun l=>l[q]?) EL
        simp only [List.getElem?_map,Array.getElem?_toList,Array.getElem?_modify,List.getElem?_set] at h1 ⊢
        by_cases WX:j=q
        · subst WX
          have bB:j<m.length:=(List.getElem?_eq_some_iff.1 hj).1
          cases hq:es[j]? with
          |none=>rw [hq] at Ik;simp at Ik
          |some z=>simp [bB]
        · simp only [WX,if_false];exact h1
  have aeK:=World.putObj_heap_same (w:=w) (r:=b) (o:= .map HT lq) (Array.getElem?_eq_some_iff.1 Cu).1
  refine LE.skp (w':=w.putObj b (.map HT lq)) (fun ρ hρ _ _ _ _=>?_) (h HT lq hE _ (hm.set hM aeK (oS _)) (hc.step (oS _) (fun q hq hqb=>by subst hqb;exact hb hq)) (GT.xQ _ w _ hg (oS _) (.one (oS _) Cu rfl))) rfl
  simp [execOp,hρ x _ hx,hρ y _ hy,hρ z _ hz,hr,Result.andThen]
end

/-! ### Finding -/
class rJ (M:aa) (b:Nat) (o:outParam Obj) (M2:outParam aa):Prop where
  perm:M.Perm ((b,o)::M2)
instance (priority:=high) YO {M:aa} {b:Nat} {o:Obj} :rJ ((b,o)::M) b o M:=⟨.refl _⟩
instance XT {M M2:aa} {b:Nat} {o:Obj} {p:Nat×Obj} [h:rJ M b o M2] :rJ (p::M) b o (p::M2):=⟨(h.perm.cons p).trans (.swap _ _ _)⟩
instance aai {M M2 m:aa} {b:Nat} {o:Obj} [h:rJ M b o M2] :rJ (m++M) b o (m++M2):=⟨(h.perm.append_left m).trans List.perm_middle⟩
class oU (M m:aa) (M2:outParam aa):Prop where
  perm:M.Perm (m++M2)
instance (priority:=high) X8 {m M:aa} :oU (m++M) m M:=⟨.refl _⟩
instance (priority:=high) Z4 {m:aa} :oU m m [] :=⟨by simp⟩
instance Yd {M M2 m:aa} {p:Nat×Obj} [h:oU M m M2] :oU (p::M) m (p::M2):=⟨(h.perm.cons p).trans List.perm_middle.symm⟩
instance Zp {M M2 m q:aa} [h:oU M m M2] :oU (q++M) m (q++M2):=⟨(h.perm.append_left q).trans (by rw [←List.append_assoc,←List.append_assoc];exact List.perm_append_comm.append_right _)⟩
instance (priority:=high+1) Zy {M:aa} :oU M [] M:=⟨.refl _⟩
instance (priority:=low) Wo {M M1 M2 m m':aa} [h:oU M m M1] [k:oU M1 m' M2] :oU M (m++m') M2:=⟨h.perm.trans (by rw [List.append_assoc];exact k.perm.append_left m)⟩
instance (priority:=low) aae {M M1 M2 m:aa} {b:Nat} {o:Obj} [h:rJ M b o M1] [k:oU M1 m M2] :oU M ((b,o)::m) M2:=⟨h.perm.trans (k.perm.cons _)⟩
instance (priority:=low) YG {M m m2:aa} {b:Nat} {o:Obj} [h:rJ m b o m2] :rJ (m++M) b o (m2++M):=⟨h.perm.append_right M⟩
instance (priority:=low) Xk {M q q2 m:aa} [h:oU q m q2] :oU (q++M) m (q2++M):=⟨by rw [←List.append_assoc];exact h.perm.append_right M⟩
def aT (M M':aa):Prop:=∃R,M.Perm (M'++R)
theorem aT.nil (M:aa):aT M [] :=⟨M,.refl _⟩
theorem aT.all (M:aa):aT M M:=⟨[],by simp⟩
theorem aT.cons {M M2 M':aa} {b:Nat} {o o':Obj} [h:rJ M b o M2] (e:o=o') (k:aT M2 M'):aT M ((b,o')::M'):=by
  obtain ⟨R,hR⟩:=k;subst e;exact⟨R,h.perm.trans (hR.cons _)⟩
theorem aT.app {M m M2 M':aa} [h:oU M m M2] (k:aT M2 M'):aT M (m++M'):=by
  obtain ⟨R,hR⟩:=k;exact⟨R,h.perm.trans (by rw [List.append_assoc];exact hR.append_left m)⟩
theorem aT.mem {M M':aa} (h:aT M M') (w:World) (hm:Mem w M):Mem w M':=by
  obtain ⟨R,hR⟩:=h
  exact(hm.perm hR).sub (List.sublist_append_left _ _)
theorem rJ.get {M M2:aa} {b:Nat} {o:Obj} (h:rJ M b o M2) {w:World} (hm:Mem w M):w.heap[b]? =some o:=(hm.perm h.perm).get (i:=0) rfl
theorem oU.mem {M m M2:aa} (h:oU M m M2) {w:World} (hm:Mem w M):Mem w m:=(hm.perm h.perm).sub (List.sublist_append_left _ _)
theorem Mem.pick {M M2:aa} {w:World} (hm:Mem w M) (m:aa) [h:oU M m M2] :Mem w m:=h.mem hm
theorem oU.all {M m M2:aa} (h:oU M m M2) (w:World) (hm:Mem w M):Mem w (m++M2):=hm.perm h.perm
theorem Sl.k8 {α:Type} {f:α→List Value} {E s n0:Nat} {xs:List α} {v:Value} {m M M2:aa} {w:World} (h:Sl f E s n0 xs v m) (hf:∀a,(f a).length=s) (hm:Mem w M) [k:oU M m M2] :Sr f s xs v w:=
  h.sr hf (fun p hp=>(k.mem hm).2 p hp)

/-! ### Where a slice lies -/
def iM (ad:Option Addr):Nat:=match ad with|some a=>a.block|none=>0
def Ck (ad:Option Addr):Nat:=match ad with|some a=>a.off|none=>0
def W2 (n:Nat) (ad:Option Addr):Prop:=0<n→ad=some ⟨iM ad,Ck ad,none⟩
theorem Sr.spt {α:Type} {f:α→List Value} {s:Nat} {xs:List α} {ad:Option Addr} {n cap:Nat} {w:World} (h:Sr f s xs (.slice ad n cap) w):W2 n ad:=fun hn=>by
  obtain ⟨rfl,_,h3⟩:=h.open
  obtain ⟨b,off,cs,E,fz,rfl,_⟩:=h3 hn
  rfl
theorem Sl.spt {α:Type} {f:α→List Value} {E s n0:Nat} {xs:List α} {ad:Option Addr} {n cap:Nat} {m:aa} (h:Sl f E s n0 xs (.slice ad n cap) m):W2 n ad:=fun hn=>by
  rcases h with ⟨h,_⟩|⟨b,c,bz,_,h,_⟩
  · simp only [Value.slice.injEq] at h;omega
  · simp only [Value.slice.injEq] at h;obtain ⟨rfl,_,_⟩:=h;rfl
theorem Sl.len {α:Type} {f:α→List Value} {E s n0:Nat} {xs:List α} {ad:Option Addr} {n cap:Nat} {m:aa} (h:Sl f E s n0 xs (.slice ad n cap) m):n=xs.length∧xs.length≤maxLen∧xs.length≤cap:=by
  rcases h with ⟨h,_,rfl⟩|⟨b,c,bz,_,h,_,h1,h2,_⟩
  · simp only [Value.slice.injEq] at h;obtain ⟨_,rfl,rfl⟩:=h;exact⟨rfl,Nat.zero_le _,Nat.zero_le _⟩
  · simp only [Value.slice.injEq] at h;obtain ⟨rfl,rfl,rfl⟩:=h;exact⟨rfl,by omega,h1⟩
theorem Sl.open {α:Type} {f:α→List Value} {E s n0:Nat} {xs:List α} {ad:Option Addr} {n cap:Nat} {m:aa} (h:Sl f E s n0 xs (.slice ad n cap) m) (hn:0<xs.length):
    ∃bz,n0≤iM ad∧ad=some ⟨iM ad,0,none⟩∧n=xs.length∧m=[(iM ad,.cells (arr f xs bz) E (0,0))]∧xs.length*s+bz.length=cap*s:=by
  obtain ⟨b,c,bz,h0,h1,h2,h3,h4,h5⟩:=h.ne hn
  simp only [Value.slice.injEq] at h1;obtain ⟨rfl,rfl,rfl⟩:=h1
  exact⟨bz,h0,rfl,rfl,h2,h5⟩
theorem aQ {α:Type} {xs:List α} {i:Nat} (d:α) (h:i<xs.length):xs[i]? =some (xs.getD i d):=by
  rw [List.getD_eq_getElem?_getD,List.getElem?_eq_getElem h];rfl
theorem bD {α:Type} {xs:List α} {i:Nat} (d:α) (h:i<xs.length):xs.take (i+1)=xs.take i++ [xs.getD i d] :=by
  rw [List.take_add_one,aQ d h];rfl
theorem uV {α:Type} {xs ys:List α} {p:α→Bool} {i:Nat} (h:xs=(ys.take i).filter p):xs.length≤ys.length:=by
  subst h;exact Nat.le_trans (List.length_filter_le _ _) (List.length_take_le' _ _)
section
variable {P:Program} {ty:TypeId} {e:Env} {M:aa} {x y:Operand} {t:TypeId}
theorem cP {k:IntKind} {a:Int} {ad:Option Addr} {n c s:Nat} {E:TypeId} (hp:W2 n ad) (hU:P.underlying t=some (.slice E)) (hS:∀w,(sizeOf E).run P w= .ok s w) (ha:ev e x=some (.slice ad n c)) (hi:ev e y=some (.int k a)) (h:0≤a∧a<n):
    fb P (.indexAddr t x y) ty e (.pointer (some ⟨iM ad,Ck ad+a.toNat*s,none⟩)):=Fp (hp (by omega)) hU hS ha hi h
theorem jr {k:IntKind} {i:Nat} {ad:Option Addr} {n c s:Nat} {E:TypeId} (hp:W2 n ad) (hU:P.underlying t=some (.slice E)) (hS:∀w,(sizeOf E).run P w= .ok s w) (ha:ev e x=some (.slice ad n c)) (hi:ev e y=some (.int k (i:Nat))) (h:i<n):
    fb P (.indexAddr t x y) ty e (.pointer (some ⟨iM ad,Ck ad+i*s,none⟩)):=by
  have:=Fp (P:=P) (ty:=ty) (hp (by omega)) hU hS ha hi (by omega);simpa using this
theorem NW {a b:BitVec 64} {yN:Array TypeId} (hx:ev e x=some (U a)) (hy:ev e y=some (U b)):fb P (.call {callee:= .builtin .max,args:=#[x,y],argTypes:=yN}) ty e (U (if a.toNat<b.toNat then b else a)):=by
  have:=Rx (P:=P) (ty:=ty) (yN:=yN) hx hy
  rw [show U (if a.toNat<b.toNat then b else a)=Value.int .u64 (if (b.toNat:Int) > (a.toNat:Int) then (b.toNat:Int) else (a.toNat:Int)) by unfold U;split<;>split<;>first|rfl|omega]
  exact this
/-! loads -/
theorem fF {b off:Nat} {cs:Array Value} {E:TypeId} {fz:Nat×Nat} {v:Value} {M2:aa} (hT:∀w,(isAgg t).run P w= .ok false w) (ha:ev e x=some (.pointer (some ⟨b,off,none⟩)))
    [h:rJ M b (.cells cs E fz) M2] (hc:cs[off]? =some v):∀w,Mem w M→rA P (.load t x) ty e w v w:=fun w hm=>eR 0 hT ha (M:=(b,_)::M2) rfl hc w (hm.perm h.perm)
theorem pT {b off n:Nat} {cs:Array Value} {E:TypeId} {fz:Nat×Nat} {vs:List Value} {M2:aa} (hT:∀w,(isAgg t).run P w= .ok true w) (hS:∀w,(sizeOf t).run P w= .ok n w) (ha:ev e x=some (.pointer (some ⟨b,off,none⟩)))
    [h:rJ M b (.cells cs E fz) M2] (hn:vs.length=n) (hc:Cs cs off vs):∀w,Mem w M→rA P (.load t x) ty e w (.agg vs.toArray) w:=fun w hm=>II 0 hT hS ha (M:=(b,_)::M2) rfl hn hc w (hm.perm h.perm)
theorem bo {b n:Nat} {cs:Array Value} {E:TypeId} {fz:Nat×Nat} {M2:aa} (hT:∀w,(isAgg t).run P w= .ok true w) (hS:∀w,(sizeOf t).run P w= .ok n w) (ha:ev e x=some (.pointer (some ⟨b,0,none⟩)))
    [h:rJ M b (.cells cs E fz) M2] (hn:cs.size=n):∀w,Mem w M→rA P (.load t x) ty e w (.agg cs) w:=fun w hm=>by
  have h2:=fm (P:=P) (off:=0) (vs:=cs.toList) hT hS (h.get hm) (by simpa using hn) (fun j v hj=>by rw [Nat.zero_add];simpa using hj)
  intro ρ hρ _ _ _ _
  simp [execOp,Instr.loadAt,Instr.sureAddr,hρ x _ ha,h2,Result.andThen]
/-- a cell of an element of a block of elements -/
theorem Tb {α:Type} {f:α→List Value} {s i j b off:Nat} {xs:List α} {bz:List Value} {a:α} {E:TypeId} {fz:Nat×Nat} {v:Value} {M2:aa} (hf:∀a,(f a).length=s) (hT:∀w,(isAgg t).run P w= .ok false w) (ha:ev e x=some (.pointer (some ⟨b,off,none⟩)))
    [h:rJ M b (.cells (arr f xs bz) E fz) M2] (hi:xs[i]? =some a) (ho:off=i*s+j) (hj:Nat.blt j s=true) (hv:(f a)[j]? =some v):∀w,Mem w M→rA P (.load t x) ty e w v w:=
  fF hT ha (by rw [ho,lZ hf hi (Nat.le_of_ble_eq_true hj),hv])
theorem Q1 {α:Type} {f:α→List Value} {s i:Nat} {xs:List α} {bz:List Value} {a:α} (hf:∀a,(f a).length=s) (hi:xs[i]? =some a):Cs (arr f xs bz) (i*s) (f a):=by
  have key:∀(vs:List Value) (j:Nat),(f a).drop j=vs→Cs (arr f xs bz) (i*s+j) vs:=by
    intro vs
    induction vs with
    |nil=>intro j _;trivial
    |cons v vs ih=>
      intro j hj
      have bB:j<(f a).length:=by
        apply Nat.lt_of_not_le;intro h;rw [List.drop_of_length_le h] at hj;cases hj
      rw [List.drop_eq_getElem_cons bB] at hj
      injection hj with h1 h2
      exact⟨by rw [lZ hf hi (by rw [←hf a];exact bB),←h1,List.getElem?_eq_getElem bB],ih (j+1) h2⟩
  have:=key (f a) 0 rfl
  rwa [Nat.add_zero] at this
theorem Oz {α:Type} {f:α→List Value} {s i b off:Nat} {xs:List α} {bz:List Value} {a:α} {E:TypeId} {fz:Nat×Nat} {M2:aa} (hf:∀a,(f a).length=s) (hT:∀w,(isAgg t).run P w= .ok true w) (hS:∀w,(sizeOf t).run P w= .ok s w) (ha:ev e x=some (.pointer (some ⟨b,off,none⟩)))
    [h:rJ M b (.cells (arr f xs bz) E fz) M2] (hi:xs[i]? =some a) (ho:off=i*s):∀w,Mem w M→rA P (.load t x) ty e w (.agg (f a).toArray) w:=
  pT hT hS ha (hf a) (by rw [ho];exact Q1 hf hi)
/-- a cell of an element of an own slice -/
theorem aH {α:Type} {f:α→List Value} {F s n0 n cap i j off:Nat} {xs:List α} {ad:Option Addr} {m M2:aa} {a:α} {v:Value} (gh:Sl f F s n0 xs (.slice ad n cap) m) (hf:∀a,(f a).length=s) (hT:∀w,(isAgg t).run P w= .ok false w)
    (ha:ev e x=some (.pointer (some ⟨iM ad,off,none⟩))) (ho:off=Ck ad+i*s+j) [h:oU M m M2] (hi:xs[i]? =some a) (hj:Nat.blt j s=true) (hv:(f a)[j]? =some v):∀w,Mem w M→rA P (.load t x) ty e w v w:=fun w hm=>by
  subst ho
  obtain ⟨bz,h0,h1,h2,rfl,_⟩:=gh.open (List.length_pos_of_mem (List.mem_of_getElem? hi))
  have h3:Ck ad=0:=by rw [h1];rfl
  rw [h3,Nat.zero_add] at ha
  exact Tb (M:=(iM ad,.cells (arr f xs bz) F (0,0))::M2) hf hT ha hi rfl hj hv w (hm.perm h.perm)
theorem jm {α:Type} {f:α→List Value} {F s n0 n cap i:Nat} {xs:List α} {ad:Option Addr} {m M2:aa} {a:α} (gh:Sl f F s n0 xs (.slice ad n cap) m) (hf:∀a,(f a).length=s) (hT:∀w,(isAgg t).run P w= .ok true w) (hS:∀w,(sizeOf t).run P w= .ok s w)
    (ha:ev e x=some (.pointer (some ⟨iM ad,Ck ad+i*s,none⟩))) [h:oU M m M2] (hi:xs[i]? =some a):∀w,Mem w M→rA P (.load t x) ty e w (.agg (f a).toArray) w:=fun w hm=>by
  obtain ⟨bz,h0,h1,h2,rfl,_⟩:=gh.open (List.length_pos_of_mem (List.mem_of_getElem? hi))
  have h3:Ck ad=0:=by rw [h1];rfl
  rw [h3,Nat.zero_add] at ha
  exact Oz (M:=(iM ad,.cells (arr f xs bz) F (0,0))::M2) hf hT hS ha hi rfl w (hm.perm h.perm)
variable {S:Nat→Prop} {w0:World} {G:World→Prop}
/-- a cell of an element of a slice that is read -/
theorem dy {α:Type} {f:α→List Value} {s n cap i j off:Nat} {xs:List α} {ad:Option Addr} {a:α} {v:Value} (CN:Sr f s xs (.slice ad n cap) w0) (hT:∀w,(isAgg t).run P w= .ok false w)
    (ha:ev e x=some (.pointer (some ⟨iM ad,off,none⟩))) (ho:off=Ck ad+i*s+j) (hi:xs[i]? =some a) (hj:Nat.blt j s=true) (hv:(f a)[j]? =some v) (hS:¬S (iM ad)):∀w,Mem w M→cX S w0 w→G w→rA P (.load t x) ty e w v w:=by
  subst ho
  obtain ⟨rfl,_,h3⟩:=CN.open
  obtain ⟨b,off,cs,E,fz,rfl,hb,hr⟩:=h3 (List.length_pos_of_mem (List.mem_of_getElem? hi))
  exact Wz hT ha hb hr hi (Nat.le_of_ble_eq_true hj) (Nat.add_assoc _ _ _) hv hS
theorem dX {α:Type} {f:α→List Value} {s n cap i:Nat} {xs:List α} {ad:Option Addr} {a:α} (CN:Sr f s xs (.slice ad n cap) w0) (hf:∀a,(f a).length=s) (hT:∀w,(isAgg t).run P w= .ok true w) (hZ:∀w,(sizeOf t).run P w= .ok s w)
    (ha:ev e x=some (.pointer (some ⟨iM ad,Ck ad+i*s,none⟩))) (hi:xs[i]? =some a) (hS:¬S (iM ad)):∀w,Mem w M→cX S w0 w→G w→rA P (.load t x) ty e w (.agg (f a).toArray) w:=by
  obtain ⟨rfl,_,h3⟩:=CN.open
  obtain ⟨b,off,cs,E,fz,rfl,hb,hr⟩:=h3 (List.length_pos_of_mem (List.mem_of_getElem? hi))
  exact Ui hT hZ ha hb hr hi rfl (hf a) hS
end

section
variable {P:Program} {ty:TypeId} {e:Env} {M:aa} {x y:Operand} {t:TypeId} {S:Nat→Prop} {w0:World} {G:World→Prop}
/-- elements of one cell -/
theorem bw {α:Type} {f:α→List Value} {F n0 n cap i off:Nat} {xs:List α} {ad:Option Addr} {m M2:aa} {a:α} {v:Value} (gh:Sl f F 1 n0 xs (.slice ad n cap) m) (hf:∀a,(f a).length=1) (hT:∀w,(isAgg t).run P w= .ok false w)
    (ha:ev e x=some (.pointer (some ⟨iM ad,off,none⟩))) (ho:off=Ck ad+i*1) [h:oU M m M2] (hi:xs[i]? =some a) (hv:(f a)[0]? =some v):∀w,Mem w M→rA P (.load t x) ty e w v w:=aH gh hf hT ha ho hi rfl hv
theorem ry {α:Type} {f:α→List Value} {n cap i off:Nat} {xs:List α} {ad:Option Addr} {a:α} {v:Value} (CN:Sr f 1 xs (.slice ad n cap) w0) (hT:∀w,(isAgg t).run P w= .ok false w)
    (ha:ev e x=some (.pointer (some ⟨iM ad,off,none⟩))) (ho:off=Ck ad+i*1) (hi:xs[i]? =some a) (hv:(f a)[0]? =some v) (hS:¬S (iM ad)):∀w,Mem w M→cX S w0 w→G w→rA P (.load t x) ty e w v w:=dy CN hT ha ho hi rfl hv hS
end
/-! what is read of a slice in a world of which no more is known -/
section
variable {P:Program} {ty:TypeId} {e:Env} {x:Operand} {t:TypeId} {w:World}
end
/-- '[]T{a, b}' read as a slice -/
theorem Sr.row {α:Type} {f:α→List Value} {s:Nat} {xs:List α} {b n cap:Nat} {cs:Array Value} {E:TypeId} {fz:Nat×Nat} {w:World} (h:w.heap[b]? =some (.cells cs E fz)) (wx:cs=arr f xs []) (hn:n=xs.length) (hc:xs.length≤cap) (hf:∀a,(f a).length=s):Sr f s xs (.slice (some ⟨b,0,none⟩) n cap) w:=by
  subst hn;subst wx
  exact⟨_,_,rfl,hc,fun _=>⟨b,0,_,_,_,rfl,h,fun i a ha j hj=>by rw [Nat.zero_add];exact lZ hf ha hj⟩⟩
theorem Mem.at {M M2:aa} {w:World} (hm:Mem w M) (b:Nat) {o:Obj} [h:rJ M b o M2] :w.heap[b]? =some o:=h.get hm
/-! ### Stores -/
/-- the cells from a place on become others -/
def putAt (l:List Value) (j:Nat) (vs:List Value):List Value:=l.take j++vs++l.drop (j+vs.length)
theorem AW:∀(vs:List Value) (cs:Array Value) (off q:Nat),off+vs.length≤cs.size→(mS cs off vs)[q]? =if q<off then cs[q]? else if q<off+vs.length then vs[q-off]? else cs[q]?
  | [],cs,off,q,_=>by simp only [mS,List.length_nil,Nat.add_zero];split<;>rfl
  |v::vs,cs,off,q,h=>by
    simp only [List.length_cons] at h
    simp only [mS]
    rw [AW vs _ (off+1) q (by simp;omega)]
    by_cases h1:q<off
    · rw [if_pos (by omega),if_pos h1,Array.getElem?_setIfInBounds_ne (by omega)]
    · rw [if_neg h1]
      by_cases h2:q=off
      · subst h2
        rw [if_pos (by omega),if_pos (by simp),Array.getElem?_setIfInBounds_self_of_lt (by omega),Nat.sub_self];rfl
      · rw [if_neg (by omega),show off+1+vs.length=off+(v::vs).length by simp;omega]
        split
        · rw [show q-off=(q-(off+1))+1 by omega,List.getElem?_cons_succ]
        · rw [Array.getElem?_setIfInBounds_ne (by omega)]
theorem G5 {l vs:List Value} {j q:Nat} (h:j+vs.length≤l.length):(putAt l j vs)[q]? =if q<j then l[q]? else if q<j+vs.length then vs[q-j]? else l[q]? :=by
  unfold putAt
  by_cases h1:q<j
  · rw [if_pos h1,List.append_assoc,List.getElem?_append_left (by rw [List.length_take];omega),List.getElem?_take_of_lt h1]
  · rw [if_neg h1,List.append_assoc,List.getElem?_append_right (by rw [List.length_take];omega),List.length_take,Nat.min_eq_left (by omega)]
    by_cases h2:q<j+vs.length
    · rw [if_pos h2,List.getElem?_append_left (by omega)]
    · rw [if_neg h2,List.getElem?_append_right (by omega),List.getElem?_drop];congr 1;omega
theorem A3 {α:Type} {f:α→List Value} {s i j:Nat} {xs:List α} {bz:List Value} {a a':α} {vs:List Value} (hf:∀a,(f a).length=s) (hi:xs[i]? =some a) (hj:j+vs.length≤s) (hv:f a'=putAt (f a) j vs):
    mS (arr f xs bz) (i*s+j) vs=arr f (xs.set i a') bz:=by
  have bB:i<xs.length:=(List.getElem?_eq_some_iff.1 hi).1
  have hmul:(i+1)*s≤xs.length*s:=Nat.mul_le_mul_right _ bB
  rw [Nat.succ_mul] at hmul
  have Mu:(arr f xs bz).size=xs.length*s+bz.length:=by simp [arr,bQ hf]
  apply Array.ext_getElem?
  intro q
  rw [AW _ _ _ _ (by rw [Mu];omega)]
  by_cases hq:q<xs.length*s
  · have pE:0<s:=by apply Nat.pos_of_ne_zero;rintro rfl;simp at hq
    have e1:q / s*s+q % s=q:=by rw [Nat.mul_comm];exact Nat.div_add_mod q s
    have hm:q % s<s:=Nat.mod_lt _ pE
    have hd:q / s<xs.length:=Nat.div_lt_of_lt_mul (by rwa [Nat.mul_comm])
    have hg:(arr f xs bz)[q]? =(f (xs[q / s]))[q % s]? :=by
      have:=lZ (bz:=bz) hf (List.getElem?_eq_getElem hd) hm
      rwa [e1] at this
    by_cases Vd:q / s=i
    · have jK:q=i*s+q % s:=by rw [←Vd];exact e1.symm
      have aI:(arr f (xs.set i a') bz)[q]? =(f a')[q % s]? :=by
        have:=lZ (bz:=bz) hf (show (xs.set i a')[i]? =some a' by rw [List.getElem?_set_self bB]) hm
        rwa [←jK] at this
      have hxa:xs[q / s] =a:=by have:=List.getElem?_eq_getElem hd;simp only [Vd] at this;rw [hi] at this;simp only [Vd];injection this with this;exact this.symm
      rw [hg,aI,hv,G5 (by rw [hf];exact hj),hxa]
      by_cases c1:q % s<j
      · rw [if_pos (by omega),if_pos c1]
      · rw [if_neg (by omega),if_neg c1]
        by_cases c2:q % s<j+vs.length
        · rw [if_pos (by omega),if_pos c2];congr 1;omega
        · rw [if_neg (by omega),if_neg c2]
    · have aI:(arr f (xs.set i a') bz)[q]? =(f (xs[q / s]))[q % s]? :=by
        have:=lZ (bz:=bz) hf (show (xs.set i a')[q / s]? =some xs[q / s] by rw [List.getElem?_set_ne (Ne.symm Vd),List.getElem?_eq_getElem hd]) hm
        rwa [e1] at this
      rw [hg,aI]
      have:¬(i*s≤q∧q<i*s+s):=by
        rintro ⟨h1,h2⟩
        apply Vd
        have hl:=Nat.le_div_iff_mul_le pE |>.2 h1
        have hr:q / s<i+1:=by rw [Nat.div_lt_iff_lt_mul pE,Nat.succ_mul];exact h2
        omega
      split
      · rfl
      · rw [if_neg (by omega)]
  · have zV:=bQ hf xs
    have nu:=bQ hf (xs.set i a')
    rw [List.length_set] at nu
    rw [if_neg (by omega),if_neg (by omega)]
    simp only [arr,List.getElem?_toArray]
    rw [List.getElem?_append_right (by omega),List.getElem?_append_right (by omega),zV,nu]
section
variable {P:Program} {r:Option Nat} {N:Nat} {Q:Exit→Act→World→Prop} {e:Env} {ds:List Nat} {M:aa} {S:Nat→Prop} {w0:World} {G:World→Prop}
variable {ops:Array Oper} {l:List Oper} {ty:TypeId} {pos:String} {after:Array Edge} {d:Nat} {x y:Operand} {t:TypeId}
theorem LM.st [GT G] {b off n:Nat} {cs:Array Value} {E:TypeId} {v:Value} {M2:aa} (hS:∀w,(sizeOf t).run P w= .ok n w) (ha:ev e x=some (.pointer (some ⟨b,off,none⟩))) (hv:ev e y=some v)
    [hM:rJ M b (.cells cs E (0,0)) M2] (hn:v.cells.size=n) (hl:off+n≤cs.size) (h1:v.cells.toList.all one=true) (hb:b<w0.heap.size→S b)
    (h:LM P r N ops Q l e ds ((b,.cells (mS cs off v.cells.toList) E (0,0))::M2) S w0 G):LM P r N ops Q (⟨none,.store t x y,ty,pos,after,none⟩::l) e ds M S w0 G:=
  .mem (fun w hm=>hm.perm hM.perm) (.store (M:=(b,.cells cs E (0,0))::M2) 0 hS ha hv rfl hn hl h1 hb h)
/-- all of a block -/
theorem LM.dC [GT G] {b n:Nat} {cs a:Array Value} {E:TypeId} {M2:aa} (hS:∀w,(sizeOf t).run P w= .ok n w) (ha:ev e x=some (.pointer (some ⟨b,0,none⟩))) (hv:ev e y=some (.agg a))
    [hM:rJ M b (.cells cs E (0,0)) M2] (hn:a.size=n) (hl:cs.size=n) (h1:a.toList.all one=true) (hb:b<w0.heap.size→S b)
    (h:LM P r N ops Q l e ds ((b,.cells a E (0,0))::M2) S w0 G):LM P r N ops Q (⟨none,.store t x y,ty,pos,after,none⟩::l) e ds M S w0 G:=
  LM.st hS ha hv hn (by omega) h1 hb (by
    have:=uJ a.toList [] cs.toList (by simp [hn,hl])
    simp only [List.nil_append,Array.toArray_toList,List.length_nil] at this
    show LM P r N ops Q l e ds ((b,.cells (mS cs 0 a.toList) E (0,0))::M2) S w0 G
    rw [this];exact h)
/-- into an element of a block of elements -/
theorem LM.stE [GT G] {α:Type} {f:α→List Value} {s i j b off n:Nat} {xs:List α} {bz:List Value} {a:α} {a':α} {E:TypeId} {v:Value} {M2:aa} (hf:∀a,(f a).length=s) (hS:∀w,(sizeOf t).run P w= .ok n w) (ha:ev e x=some (.pointer (some ⟨b,off,none⟩))) (hv:ev e y=some v)
    [hM:rJ M b (.cells (arr f xs bz) E (0,0)) M2] (hi:xs[i]? =some a) (ho:off=i*s+j) (hn:v.cells.size=n) (hj:j+n≤s) (hv':f a'=putAt (f a) j v.cells.toList) (h1:v.cells.toList.all one=true) (hb:b<w0.heap.size→S b)
    (h:LM P r N ops Q l e ds ((b,.cells (arr f (xs.set i a') bz) E (0,0))::M2) S w0 G):LM P r N ops Q (⟨none,.store t x y,ty,pos,after,none⟩::l) e ds M S w0 G:=by
  have bB:i<xs.length:=(List.getElem?_eq_some_iff.1 hi).1
  have hmul:(i+1)*s≤xs.length*s:=Nat.mul_le_mul_right _ bB
  rw [Nat.succ_mul] at hmul
  have A1:v.cells.toList.length=n:=by simpa using hn
  refine LM.st hS ha hv hn (by simp [arr,bQ hf];omega) h1 hb ?_
  rw [ho,A3 hf hi (by rw [A1];exact hj) hv'];exact h
theorem LM.iF [GT G] {α:Type} {f:α→List Value} {F s n0 n c cap i j off:Nat} {xs:List α} {ad:Option Addr} {m M2:aa} {a:α} (a':α) {v:Value} (gh:Sl f F s n0 xs (.slice ad c cap) m) (hf:∀a,(f a).length=s) (hS:∀w,(sizeOf t).run P w= .ok n w)
    (ha:ev e x=some (.pointer (some ⟨iM ad,off,none⟩))) (ho:off=Ck ad+i*s+j) (hv:ev e y=some v) [hM:oU M m M2] (hi:xs[i]? =some a) (hn:v.cells.size=n) (hj:j+n≤s) (hv':f a'=putAt (f a) j v.cells.toList) (h1:v.cells.toList.all one=true)
    (hb:∀p∈m,p.1<w0.heap.size→S p.1)
    (h:∀m',Sl f F s n0 (xs.set i a') (.slice ad c cap) m'→(∀p∈m',∃q∈m,q.1=p.1)→LM P r N ops Q l e ds (m'++M2) S w0 G):LM P r N ops Q (⟨none,.store t x y,ty,pos,after,none⟩::l) e ds M S w0 G:=by
  subst ho
  have hx:=List.length_pos_of_mem (List.mem_of_getElem? hi)
  obtain ⟨b,kT,bz,h0,h1',h2,h3,h4,h5⟩:=gh.ne hx
  simp only [Value.slice.injEq] at h1';obtain ⟨rfl,rfl,rfl⟩:=h1';subst h2
  have hE:Ck (some (⟨b,0,none⟩:Addr))=0:=rfl
  have hB:iM (some (⟨b,0,none⟩:Addr))=b:=rfl
  rw [hE,hB,Nat.zero_add] at ha
  refine .mem (M':=(b,.cells (arr f xs bz) F (0,0))::M2) (fun w hm=>hm.perm hM.perm) (LM.stE hf hS ha hv hi rfl hn hj hv' h1 (hb _ (List.mem_singleton.2 rfl)) ?_)
  exact h [(b,.cells (arr f (xs.set i a') bz) F (0,0))] (.inr ⟨b,cap,bz,h0,by rw [List.length_set],rfl,by rw [List.length_set];exact h3,h4,by rw [List.length_set];exact h5⟩) (fun p hp=>⟨_,List.mem_singleton.2 rfl,by rw [List.mem_singleton] at hp;rw [hp]⟩)

/-! ### append, calls -/
theorem LM.app [GT G] {α:Type} {f:α→List Value} {E s n0:Nat} {inf:TypeInfo} {z:Value} {xs:List α} {v:Value} {m M1 M2:aa} {bx c:Nat} {a:α} {cs:Array Value} {F:TypeId} {fz:Nat×Nat}
    (hU:P.underlying t=some (.slice E)) (hI:∀w,(typeInfo E).run P w= .ok inf w) (hz:inf.zero=some z) (hs:inf.size=s) (pE:Nat.blt 0 s=true) (HZ:z.cells.size=s) (hd:Nat.blt d N=true)
    (hx:ev e x=some v) (hy:ev e y=some (.slice (some ⟨bx,0,none⟩) 1 c)) (gh:Sl f E s n0 xs v m) [h1:rJ M bx (.cells cs F fz) M1] [h2:oU M1 m M2] (ho:cs=(f a).toArray) (hf:∀a,(f a).length=s) (yk:∀a,∀u∈f a,one u=true)
    (cb:n0≤w0.heap.size) (Y3:∀p∈m,p.1<w0.heap.size→S p.1) (hlen:xs.length+1≤maxLen) (pL:(xs.length+1)*inf.bytes≤140737488355328)
    (h:∀ad n cap m',n=xs.length+1→Sl f E s n0 (xs++ [a]) (.slice ad n cap) m'→(∀p∈m',w0.heap.size≤p.1∨∃q∈m,q.1=p.1)→LM P r N ops Q l ((d,.slice ad n cap)::e) ds (m'++M2) S w0 G):
    LM P r N ops Q (⟨some d,.call {callee:= .builtin .append,args:=#[x,y],argTypes:=#[t,t] },ty,pos,after,none⟩::l) e ds M S w0 G:=
  .mem (M':=(bx,.cells cs F fz)::(m++M2)) (fun w hm=>(hm.perm h1.perm).perm (h2.perm.cons _)) (.O5 hU hI hz hs pE HZ hd hx hy cb Y3 gh ⟨F,fz,by rw [ho]⟩ hf yk hlen pL (fun v' m' Hp jC=>by
    obtain ⟨ad,cap,rfl⟩:=Hp.form
    exact h ad _ cap m' (by simp) Hp jC))
theorem LM.cS [GS G] {α:Type} {f:α→List Value} {E s:Nat} {xs:List α} {g:FuncId} {args:Array Value} {op:Op} (hc:∀w,yy P op ty e w g args) (h:∀w,Mem w M→cX S w0 w→G w→aJ P g args w (New f E s xs w))
    (hk:∀ad n cap m,n=xs.length→Sl f E s w0.heap.size xs (.slice ad n cap) m→LM P r N ops Q l ((d,.slice ad n cap)::e) ds (m++M) S w0 G) (dt:nd op=true:=by rfl) (hd:Nat.blt d N=true:=by rfl):
    LM P r N ops Q (⟨some d,op,ty,pos,after,none⟩::l) e ds M S w0 G:= .JJ hc h (fun u m gh=>by obtain ⟨ad,cap,rfl⟩:=gh.form;exact hk ad _ cap m rfl gh) dt hd
variable {op:Op}
/-- A call that changes what m holds. -/
theorem LM.cU [GT G] {f:FuncId} {args:Array Value} {m M2:aa} {T:Value→aa→Prop} (hc:∀w,yy P op ty e w f args) (h:∀w,Mem w M→cX S w0 w→G w→aJ P f args w (eI m T w)) [hM:oU M m M2] (Ow:∀p∈m,bW p.2=false) (hS:∀p∈m,p.1<w0.heap.size→S p.1)
    (hk:∀u m',T u m'→(∀p∈m',w0.heap.size≤p.1∨∃q∈m,q.1=p.1)→LM P r N ops Q l ((d,u)::e) ds (m'++M2) S w0 G) (dt:nd op=true:=by rfl) (hd:Nat.blt d N=true:=by rfl):
    LM P r N ops Q (⟨some d,op,ty,pos,after,none⟩::l) e ds M S w0 G:= .WC hM.all Ow hS hc (fun w hm hc hg=>h w (hm.perm hM.perm.symm) hc hg) hk dt hd
end

section
variable {P:Program} {r:Option Nat} {N:Nat} {Q:Exit→Act→World→Prop} {e:Env} {ds:List Nat} {M:aa} {S:Nat→Prop} {w0:World} {G:World→Prop}
variable {ops:Array Oper} {l:List (Nat×Nat)} {op:Op} {ty:TypeId} {pos:String} {after:Array Edge} {d i:Nat}
theorem LD.cS [GS G] {α:Type} {f:α→List Value} {E s:Nat} {xs:List α} {gd:Option (Nat×Bool)} {g:FuncId} {args:Array Value} (hi:ops[i]? =some ⟨some d,op,ty,pos,after,gd⟩) (Gt:sz ops e gd true) (hc:∀w,yy P op ty e w g args) (h:∀w,Mem w M→cX S w0 w→G w→aJ P g args w (New f E s xs w))
    (hk:∀ad n cap m,n=xs.length→Sl f E s w0.heap.size xs (.slice ad n cap) m→LD P r N ops Q l ((d,.slice ad n cap)::e) ds (M++m) S w0 G) (dt:nd op=true:=by rfl) (hd:Nat.blt d N=true:=by rfl):
    LD P r N ops Q ((i,2)::l) e ds M S w0 G:= .JJ hi Gt hc h (fun u m gh=>by obtain ⟨ad,cap,rfl⟩:=gh.form;exact hk ad _ cap m rfl gh) dt hd
end
/-! ### Arrays whose elements are of one cell; calls that change one block -/
section
variable {P:Program} {ty:TypeId} {e:Env} {M:aa} {x y:Operand} {t:TypeId}
end
section
variable {P:Program} {r:Option Nat} {N:Nat} {Q:Exit→Act→World→Prop} {e:Env} {ds:List Nat} {M:aa} {S:Nat→Prop} {w0:World} {G:World→Prop}
variable {ops:Array Oper} {l:List Oper} {op:Op} {ty:TypeId} {pos:String} {after:Array Edge} {d:Nat} {x y:Operand} {t:TypeId}
/-- what a call yields that changes one block -/
def RP (b:Nat) (v:Value) (o':Obj) (w:World):Value→World→Prop:=fun u w'=>u=v∧cX (fun x=>x=b) w w'∧w'.heap[b]? =some o'
theorem LM.cW [GT G] {f:FuncId} {args:Array Value} {v:Value} {b:Nat} {o o':Obj} {M2:aa} (hc:∀w,yy P op ty e w f args) (h:∀w,Mem w M→cX S w0 w→G w→aJ P f args w (RP b v o' w)) [hM:rJ M b o M2] (hw:bW o=false) (hb:b<w0.heap.size→S b)
    (hk:LM P r N ops Q l ((d,v)::e) ds ((b,o')::M2) S w0 G) (dt:nd op=true:=by rfl) (hd:Nat.blt d N=true:=by rfl):
    LM P r N ops Q (⟨some d,op,ty,pos,after,none⟩::l) e ds M S w0 G:=
  .mem (fun w hm=>hm.perm hM.perm) (.X2 (M:=(b,o)::M2) 0 rfl hw hb hc (fun w hm hc hg=>h w (hm.perm hM.perm.symm) hc hg) hk dt hd)
end
/-! ### Loops of which a part stands -/
section
variable {P:Program} {r:Option Nat} {N:Nat} {Q:Exit→Act→World→Prop} {e:Env} {ds:List Nat} {M:aa} {S:Nat→Prop} {w0:World} {G:World→Prop}
theorem af.aS {α:Type} {c:Code} (F:α→Env) (K:Env) (MM:α→aa) (I:α→Prop) (μ:α→Nat) (x0:α) (hs:Sub e (F x0++K)) (hM:aT M (MM x0)) (h0:I x0)
    (round:∀x,I x→af P r N c (Exit.then (Xb N ds S w0 (fun x=>F x++K) MM (fun _=>G) I μ x) Q) (F x++K) ds (MM x) S w0 G):
    af P r N (.loop c) Q e ds M S w0 G:= .YJ (fun x=>F x++K) MM (fun _=>G) I μ x0 hs hM.mem (fun _ h=>h) h0 round
theorem af.bH {α:Type} {c:Code} (F:α→Env) (K:Env) (MM:α→aa) (I:α→Prop) (hK:Sub e K) (h1:af P r N c (PW N ds S w0 (fun x=>F x++K) MM (fun _=>G) I Q) e ds M S w0 G) (h2:∀x,I x→QM N Q .normal (F x++K) ds (MM x) S w0 G):af P r N c Q e ds M S w0 G:= .join (fun x=>F x++K) MM I h1 h2
theorem QM.xG {α:Type} {F:α→Env} {K:Env} {MM:α→aa} {I:α→Prop} (y:α) (hs:Sub e (F y++K)) (hM:aT M (MM y)) (hI:I y):QM N (PW N ds S w0 (fun x=>F x++K) MM (fun _=>G) I Q) .normal e ds M S w0 G:= .meet y hs hM.mem hI
theorem QM.cT {α:Type} {F:α→Env} {K:Env} {MM:α→aa} {GG:α→World→Prop} {I:α→Prop} {μ:α→Nat} {x:α} (y:α) (hs:Sub e (F y++K)) (hM:aT M (MM y)) (hG:∀w,G w→GG y w) (hI:I y) (hm:μ y<μ x):
    QM N (Exit.then (Xb N ds S w0 (fun x=>F x++K) MM GG I μ x) Q) .normal e ds M S w0 G:= .Tn y hs hM.mem hG hI hm
end

/-! ### Maps; a part is seen otherwise -/
section
variable {P:Program} {r:Option Nat} {N:Nat} {Q:Exit→Act→World→Prop} {e:Env} {ds:List Nat} {M:aa} {S:Nat→Prop} {w0:World} {G:World→Prop}
variable {ops:Array Oper} {l:List Oper} {ty:TypeId} {pos:String} {after:Array Edge} {d:Nat} {t:TypeId} {x y z:Operand}
theorem P6 {b:Nat} {k k':IntKind} {kt et:TypeId} {zv v:Value} {es:Array MapEntry} {clock:Nat} {a:Int} {l:List (Int×Value)} {M2:aa} (hU:P.underlying t=some (.map kt et)) (hk:P.underlying kt=some (.int k)) (hz:∀w,(zeroValue et).run P w= .ok zv w)
    (hx:ev e x=some (.map (some b))) (hy:ev e y=some (.int k' a)) [h:rJ M b (.map es clock) M2] (EL:Ct k' es.toList l) (hv:(ss l a).getD zv=v):∀w,Mem w M→rA P (.lookup t x y false) ty e w v w:=
  fun w hm=>G4 (M:=(b,.map es clock)::M2) 0 hU hk hz hx hy rfl EL hv.symm w (hm.perm h.perm)
theorem LM.mU [GT G] {b:Nat} {k k':IntKind} {kt et:TypeId} {v:Value} {es:Array MapEntry} {clock:Nat} {a:Int} {m:List (Int×Value)} {M2:aa} (hU:P.underlying t=some (.map kt et)) (hk:P.underlying kt=some (.int k))
    (hx:ev e x=some (.map (some b))) (hy:ev e y=some (.int k' a)) (hz:ev e z=some v) [hM:rJ M b (.map es clock) M2] (EL:Ct k' es.toList m) (hb:b<w0.heap.size→S b)
    (h:∀HT lq,Ct k' HT.toList (lE m a v)→LM P r N ops Q l e ds ((b,.map HT lq)::M2) S w0 G):
    LM P r N ops Q (⟨none,.mapUpdate t x y z,ty,pos,after,none⟩::l) e ds M S w0 G:=
  .mem (fun w hm=>hm.perm hM.perm) (.mapUpdate (M:=(b,.map es clock)::M2) 0 hU hk hx hy hz rfl EL hb h)
theorem LM.BZ {m m' M2:aa} [hM:oU M m M2] (hp:m.Perm m') (h:LM P r N ops Q l e ds (m'++M2) S w0 G):LM P r N ops Q l e ds M S w0 G:= .mem (fun w hm=>(hm.perm hM.perm).perm (hp.append_right M2)) h
theorem QM.BZ {X:Exit} {m m' M2:aa} [hM:oU M m M2] (hp:m.Perm m') (h:QM N Q X e ds (m'++M2) S w0 G):QM N Q X e ds M S w0 G:= .mem (fun w hm=>(hm.perm hM.perm).perm (hp.append_right M2)) h
theorem LM.assoc {m1 m2 M2:aa} (h:LM P r N ops Q l e ds (m1++(m2++M2)) S w0 G):LM P r N ops Q l e ds ((m1++m2)++M2) S w0 G:=by rw [List.append_assoc];exact h
end
/-! ### Stores among what may be carried out early or late: the slice that is written is one of some -/
def HA {α:Type} (f:α→List Value) (E:TypeId) (b:Nat) (bz:List Value) (Mc:aa) (os:List (List α)) (w:World):Prop:=∃o∈os,Mem w ((b,.cells (arr f o bz) E (0,0))::Mc)
instance {α:Type} (f:α→List Value) (E:TypeId) (b:Nat) (bz:List Value) (Mc:aa) (os:List (List α)) {G:World→Prop} [GS G] :GS (fun w=>G w∧HA f E b bz Mc os w) where
  ext:=fun w w' ⟨h,o,ho,hm⟩ k=>⟨GS.ext w w' h k,o,ho,hm.ext k⟩
/-- what stands of the slice while it is written -/
def FrS {α:Type} (s n0:Nat) (ad:Option Addr) (len cap:Nat) (bz:List Value):Prop:=n0≤iM ad∧ad=some ⟨iM ad,0,none⟩∧len≤cap∧cap≤maxLen∧len*s+bz.length=cap*s
section
variable {P:Program} {r:Option Nat} {N:Nat} {Q:Exit→Act→World→Prop} {e:Env} {ds:List Nat} {M:aa} {S:Nat→Prop} {w0:World} {G:World→Prop}
theorem af.toHA {α:Type} {f:α→List Value} {E s n0 n cap:Nat} {xs:List α} {ad:Option Addr} {m Mc:aa} {c:Code} (os:List (List α)) (gh:Sl f E s n0 xs (.slice ad n cap) m) [hM:oU M m Mc] (hx:0<xs.length)
    (h:∀bz,FrS (α:=α) s n0 ad xs.length cap bz→(∀q∈Mc,q.1≠iM ad)→af P r N c Q e ds Mc S w0 (fun w=>G w∧HA f E (iM ad) bz Mc (xs::os) w)):af P r N c Q e ds M S w0 G:=fun w hm hc hg=>by
  obtain ⟨b,kT,bz,h0,h1,h2,h3,h4,h5⟩:=gh.ne hx
  simp only [Value.slice.injEq] at h1;obtain ⟨rfl,rfl,rfl⟩:=h1;subst h2
  have aq:=hm.perm hM.perm
  exact h bz ⟨h0,rfl,h3,h4,h5⟩ (fun q hq he=>by
    have dt:=aq.1
    simp only [List.singleton_append,List.map_cons,List.nodup_cons] at dt
    have he:q.1=b:=he
    exact dt.1 (he▸List.mem_map_of_mem hq)) w (aq.sub (List.sublist_append_right _ _)) hc ⟨hg,xs,List.mem_cons_self ..,aq⟩
theorem QM.LB {α:Type} {f:α→List Value} {E s n0 n cap len:Nat} {o:List α} {ad:Option Addr} {Mc:aa} {bz:List Value} {X:Exit} (hf:FrS (α:=α) s n0 ad len cap bz) (ho:o.length=len) (hn:n=len)
    (h:∀m,Sl f E s n0 o (.slice ad n cap) m→QM N Q X e ds (m++Mc) S w0 G):QM N Q X e ds Mc S w0 (fun w=>G w∧HA f E (iM ad) bz Mc [o] w):=fun w hm hc ⟨hg,o',SI,aq⟩=>by
  rw [List.mem_singleton] at SI;subst SI;subst ho;subst hn
  obtain ⟨h0,h1,h3,h4,h5⟩:=hf
  exact h [(iM ad,.cells (arr f o' bz) E (0,0))] (.inr ⟨iM ad,cap,bz,h0,by rw [←h1],rfl,h3,h4,h5⟩) w aq hc hg
variable {ops:Array Oper} {l:List (Nat×Nat)} {ty:TypeId} {pos:String} {after:Array Edge} {i:Nat} {t:TypeId} {x y:Operand}
theorem LD.yT [GT G] {α:Type} {f:α→List Value} {E s n0 p j n len cap off:Nat} {os:List (List α)} (os':List (List α)) {ad:Option Addr} {Mc:aa} {bz:List Value} {v:Value} {gd:Option (Nat×Bool)} (hi:ops[i]? =some ⟨none,.store t x y,ty,pos,after,gd⟩) (Gt:sz ops e gd true)
    (hf:FrS (α:=α) s n0 ad len cap bz) (hS:∀w,(sizeOf t).run P w= .ok n w) (H2:∀a,(f a).length=s) (ha:ev e x=some (.pointer (some ⟨iM ad,off,none⟩))) (hv:ev e y=some v) (ho:off=Ck ad+p*s+j) (hn:v.cells.size=n) (hj:j+n≤s) (h1:v.cells.toList.all one=true)
    (lj:∀o∈os',o∈os) (Xv:∀o∈os,∃a a',o[p]? =some a∧f a'=putAt (f a) j v.cells.toList∧o.set p a'∈os') (hb:iM ad<w0.heap.size→S (iM ad)) (UF:∀q∈Mc,q.1≠iM ad)
    (h:LD P r N ops Q l e ds Mc S w0 (fun w=>G w∧HA f E (iM ad) bz Mc os' w)):LD P r N ops Q ((i,2)::l) e ds Mc S w0 (fun w=>G w∧HA f E (iM ad) bz Mc os w):=fun a ZR eN=>by
  simp only [xc,hi]
  intro w ⟨hm,hc,hg,o,hos,Pb⟩
  obtain ⟨x0,x1,Yi,ZN,zu⟩:=Xv o hos
  have aec:off=p*s+j:=by rw [ho];obtain ⟨_,h2,_⟩:=hf;rw [h2];simp [Ck]
  subst aec
  have bB:p<o.length:=(List.getElem?_eq_some_iff.1 Yi).1
  have hmul:(p+1)*s≤o.length*s:=Nat.mul_le_mul_right _ bB
  rw [Nat.succ_mul] at hmul
  have A1:v.cells.toList.length=n:=by simpa using hn
  obtain ⟨w',h2,h3,h4⟩:=e9 (P:=P) v.cells.toList w (arr f o bz) (p*s+j) 0 (Pb.get (i:=0) rfl) (by simp [arr,bQ H2];omega) (fun u hu=>List.all_eq_true.1 h1 u hu)
  rw [Nat.add_zero,A3 H2 Yi (by rw [A1];exact hj) ZN] at h3
  unfold wpOpIn
  rw [hi]
  simp only
  rw [if_pos (Gt.wanted (o:=⟨none,.store t x y,ty,pos,after,gd⟩) ZR)]
  refine wp_skip (a:=a) rfl (w':=w') (by simp [execOp,Instr.storeAt,Instr.sureAddr,ZR.eval ha,ZR.eval hv,storeVar,hS,hn,h2,Result.andThen]) ?_
  refine ⟨Fz Mc S w0 (fun w=>G w∧HA f E (iM ad) bz Mc os' w),fun w hw=>⟨hw.1,hw.2.1,hw.2.2.1,?_⟩,⟨hm.keep h4 UF,hc.step h4 (fun k hk OW=>by subst OW;exact hb hk),GT.xQ _ w w' hg h4 (.one h4 (Pb.get (i:=0) rfl) rfl),o.set p x1,zu,Pb.set (i:=0) rfl h3 h4⟩,h _ (ZR.ab1 undef) eN⟩
  obtain ⟨o',SI,aq⟩:=hw.2.2.2;exact⟨o',lj o' SI,aq⟩
end
/-! ### New memory among what may be carried out early or late -/
section
variable {P:Program} {r:Option Nat} {N:Nat} {Q:Exit→Act→World→Prop} {e:Env} {ds:List Nat} {M:aa} {S:Nat→Prop} {w0:World} {G:World→Prop}
variable {ops:Array Oper} {l:List (Nat×Nat)} {op:Op} {ty:TypeId} {pos:String} {after:Array Edge} {d i:Nat}
theorem LD.opG {gd:Option (Nat×Bool)} (hi:ops[i]? =some ⟨some d,op,ty,pos,after,gd⟩) (Gt:sz ops e gd true) (hd:Nat.blt d N=true) (dt:nd op=true)
    (h:∀w,Mem w M→cX S w0 w→G w→∃v w' M',rA P op ty e w v w'∧(∀w,Mem w M'→Mem w M)∧(Mem w' M'∧cX S w0 w'∧G w')∧LD P r N ops Q l ((d,v)::e) ds M' S w0 G):LD P r N ops Q ((i,2)::l) e ds M S w0 G:=fun a hf eN=>by
  simp only [xc,hi]
  intro w hC
  obtain ⟨v,w',M',h1,h2,h3,h4⟩:=h w hC.1 hC.2.1 hC.2.2
  unfold wpOpIn
  rw [hi]
  simp only
  rw [if_pos (Gt.wanted (o:=⟨some d,op,ty,pos,after,gd⟩) hf)]
  exact DL dt (h1 a.eval (fun x u hx=>hf.eval hx) _ _ _ _) ⟨Fz M' S w0 G,fun w h=>⟨h2 w h.1,h.2⟩,h3,h4 _ (hf.put hd v) eN⟩
/-- What isn't carried out, where a later guard asks for it; a guard that was not carried out itself. -/
theorem LD.c9 {g:Option (Nat×Bool)} {k:Nat} (hk:Nat.blt k 2=true) (hi:ops[i]? =some ⟨some d,op,ty,pos,after,g⟩) (hg:sz ops e g false) (h:LD P r N ops Q l ((d,undef)::e) ds M S w0 G) (hd:Nat.blt d N=true:=by rfl):
    LD P r N ops Q ((i,k)::l) e ds M S w0 G:=fun a hf eN=>by
  have hY:∀D,YA P ops D ⟨some d,op,ty,pos,after,g⟩ undef a:=fun D=> .inr ⟨hg.wanted (o:=⟨some d,op,ty,pos,after,g⟩) hf,rfl⟩
  match k,hk with
  |0,_=>simp only [xc,hi];exact⟨undef,hY _,h _ (hf.put hd undef) eN⟩
  |1,_=>simp only [xc,hi];exact⟨undef,hY _,h _ (hf.put hd undef) eN⟩
theorem LD.Io {j t:Nat} {b:Bool} {k:Nat} (hk:Nat.blt k 2=true) (hi:ops[i]? =some ⟨some d,op,ty,pos,after,some (j,b)⟩) (hj:(ops[j]?).bind (·.dst)=some t) (ht:look e t=some undef) (h:LD P r N ops Q l ((d,undef)::e) ds M S w0 G) (hd:Nat.blt d N=true:=by rfl):
    LD P r N ops Q ((i,k)::l) e ds M S w0 G:=fun a hf eN=>by
  have hw:Region.wanted ⟨some d,op,ty,pos,after,some (j,b)⟩ (yielded ops a.tmps)=false:=by
    simp only [Region.wanted,yielded,hj,Option.bind_some,hf.2 t _ ht,undef];rfl
  have hY:∀D,YA P ops D ⟨some d,op,ty,pos,after,some (j,b)⟩ undef a:=fun D=> .inr ⟨hw,rfl⟩
  match k,hk with
  |0,_=>simp only [xc,hi];exact⟨undef,hY _,h _ (hf.put hd undef) eN⟩
  |1,_=>simp only [xc,hi];exact⟨undef,hY _,h _ (hf.put hd undef) eN⟩
theorem LD.alloc [GS G] {E:TypeId} {z:Value} {gd:Option (Nat×Bool)} (hi:ops[i]? =some ⟨some d,.alloc E,ty,pos,after,gd⟩) (Gt:sz ops e gd true) (hZ:∀w,(zeroValue E).run P w= .ok z w) (hd:Nat.blt d N=true)
    (h:∀b,w0.heap.size≤b→LD P r N ops Q l ((d,.pointer (some ⟨b,0,none⟩))::e) ds ((b,.cells z.cells E (0,0))::M) S w0 G):LD P r N ops Q ((i,2)::l) e ds M S w0 G:=
  .opG hi Gt hd rfl (fun w hm hc hg=>⟨_,w.alloc (.cells z.cells E),_,fun ρ hρ _ _ _ _=>by simp [execOp,Instr.alloc,hZ,newVar,newRow,Result.andThen],fun w hm=>hm.tail,⟨hm.alloc _,hc.step (bE w _) (fun _ _ q=>q.elim),GS.ext w _ hg (bE w _)⟩,h w.heap.size hc.size⟩)
theorem LD.box [GS G] {E:TypeId} {x:Operand} {v:Value} {gd:Option (Nat×Bool)} (hi:ops[i]? =some ⟨some d,.box E x,ty,pos,after,gd⟩) (Gt:sz ops e gd true) (hv:ev e x=some v) (hd:Nat.blt d N=true)
    (h:∀b,w0.heap.size≤b→LD P r N ops Q l ((d,.pointer (some ⟨b,0,none⟩))::e) ds ((b,.cells v.cells E (0,0))::M) S w0 G):LD P r N ops Q ((i,2)::l) e ds M S w0 G:=
  .opG hi Gt hd rfl (fun w hm hc hg=>⟨_,w.alloc (.cells v.cells E),_,fun ρ hρ _ _ _ _=>by simp [execOp,Instr.box,hρ x _ hv,newVar,newRow,Result.andThen],fun w hm=>hm.tail,⟨hm.alloc _,hc.step (bE w _) (fun _ _ q=>q.elim),GS.ext w _ hg (bE w _)⟩,h w.heap.size hc.size⟩)
end
/-! ### New blocks that are filled while something is known that stands only when blocks are laid -/
def Frs (G:World→Prop) (n:Nat) (w:World):Prop:=∃w1,G w1∧Ext w1 w∧w1.heap.size≤n
instance {G:World→Prop} {n:Nat} [GS G] :GS (Frs G n) where
  ext:=fun w w' ⟨w1,h1,h2,h3⟩ k=>⟨w1,h1,h2.trans k,h3⟩
section
variable {P:Program} {r:Option Nat} {N:Nat} {Q:Exit→Act→World→Prop} {e:Env} {ds:List Nat} {M:aa} {S:Nat→Prop} {w0:World} {G:World→Prop}
variable {ops:Array Oper} {l:List Oper} {ty:TypeId} {pos:String} {after:Array Edge} {d:Nat} {t:TypeId} {x y:Operand}
end
/-! ### A function is left: marks and cells are found -/
class L5 (M:aa) (ds:List Nat) (M1:outParam aa):Prop where
  perm:M.Perm (dM ds++M1)
instance {M:aa} :L5 M [] M:=⟨.refl _⟩
instance {M M2 M1:aa} {D:Nat} {ds:List Nat} [h:rJ M D (.deferred (some [])) M2] [k:L5 M2 ds M1] :L5 M (D::ds) M1:=⟨h.perm.trans (k.perm.cons _)⟩
section
variable {P:Program} {fn:Func} {N:Nat} {e:Env} {ds:List Nat} {M M1:aa} {S:Nat→Prop} {w0:World} {G:World→Prop} {R:Value→World→Prop} {vs:List Value}
end
/-! ### Structs are compared -/
def veq:Value→Value→Bool
  | .int _ a,.int _ b=>a==b
  | .bool a,.bool b=>a==b
  | .string a,.string b=>a.toList==b.toList
  |_,_=>false
def Ho:List Value→List Value→Bool
  |a::l,b::l'=>veq a b&&Ho l l'
  |_,_=>true
/-- of one kind, and at such a type -/
def KK (P:Program) (t:TypeId):Value→Value→Bool
  | .int _ _,.int _ _=>match P.underlying t with|some (.int _)=>true|_=>false
  | .bool _,.bool _=>match P.underlying t with|some .bool=>true|_=>false
  | .string _,.string _=>match P.underlying t with|some .string=>true|_=>false
  |_,_=>false
/-- fields of one cell each, in order -/
def BI:Nat→List Field→Bool
  |_,[] =>true
  |k,f::fs=>f.offset==k&&f.name != "_" &&BI (k+1) fs
def te (P:Program):List Field→List Value→List Value→Bool
  | [],[],[] =>true
  |f::fs,a::l,b::l'=>KK P f.type a b&&te P fs l l'
  |_,_,_=>false
def kEq:Value→Value→Prop
  | .int k _,.int k' _=>k=k'
  |_,_=>True
def N5:List Value→List Value→Prop
  |a::l,b::l'=>kEq a b∧N5 l l'
  |_,_=>True
section
variable {P:Program}
theorem Pj (w:World) (d:Nat) (t:TypeId) (a b:Value) (h:KK P t a b=true) (hk:kEq a b):(Op.equalIn (d+1) t a b).run P w= .ok (veq a b) w:=by
  cases a<;>cases b<;>simp only [KK,Bool.false_eq_true] at h
  · split at h
    · rename_i hu;exact run_equalIn_bool' w d t _ _ hu
    · cases h
  · split at h
    · rename_i k hu
      simp only [kEq] at hk;subst hk
      simp [Op.equalIn,run_underlying hu,veq,Result.andThen]
    · cases h
  · split at h
    · rename_i hu;exact run_equalIn_string w d t _ _ hu
    · cases h
theorem G7 {t:TypeId} {a b:Value} (h:KK P t a b=true) (w:World):(isAgg t).run P w= .ok false w:=by
  cases a<;>cases b<;>simp only [KK,Bool.false_eq_true] at h<;>split at h<;>first|(rename_i hu;simp [isAgg,run_underlying hu,Result.andThen];done)|(rename_i _ hu;simp [isAgg,run_underlying hu,Result.andThen];done)|cases h
theorem Ca (w:World) (d:Nat):∀(fs:List Field) (k:Nat) (pre AL l l':List Value),BI k fs=true→te P fs l l'=true→N5 l l'→pre.length=k→AL.length=k→
    (Op.eqFields (d+1) (pre++l).toArray (AL++l').toArray fs).run P w= .ok (Ho l l') w
  | [],k,pre,AL,l,l',_,hv,_,_,_=>by
    cases l<;>cases l'<;>simp [te] at hv
    simp [Op.eqFields,Ho]
  |f::fs,k,pre,AL,[],l',_,hv,_,_,_=>by cases l'<;>simp [te] at hv
  |f::fs,k,pre,AL,a::l,[],_,hv,_,_,_=>by simp [te] at hv
  |f::fs,k,pre,AL,a::l,b::l',H2,hv,hk,h1,h2=>by
    simp only [BI,Bool.and_eq_true,beq_iff_eq,bne_iff_ne] at H2
    simp only [te,Bool.and_eq_true] at hv
    have YD:=G7 hv.1 w
    have ha:(part f.type (pre++a::l).toArray f.offset).run P w= .ok a w:=by
      unfold part
      simp [YD,H2.1.1,←h1,Result.andThen]
    have hb:(part f.type (AL++b::l').toArray f.offset).run P w= .ok b w:=by
      unfold part
      simp [YD,H2.1.1,←h2,Result.andThen]
    have ih:=Ca w d fs (k+1) (pre++ [a]) (AL++ [b]) l l' H2.2 hv.2 hk.2 (by simp [h1]) (by simp [h2])
    simp only [List.append_assoc,List.singleton_append] at ih
    simp only [Op.eqFields,if_pos H2.1.2,Sem.run_bind,ha,hb,Pj w d f.type a b hv.1 hk.1,Result.andThen_ok,Ho]
    cases hva:veq a b
    · simp
    · simp [ih]
variable {ty:TypeId} {e:Env} {x y:Operand} {t u:TypeId}
theorem Eg (w:World) {l l':List Value} {fs:List Field} (hU:P.underlying t=some (.struct fs.toArray)) (hp:P.stoodInHeld t=false) (hf:BI 0 fs=true) (hv:te P fs l l'=true) (hk:N5 l l'):
    (Op.equalIn 10000 t (.agg l.toArray) (.agg l'.toArray)).run P w= .ok (Ho l l') w:=by
  have hF:P.fieldsOf t=fs.toArray:=by unfold Program.fieldsOf;rw [hU]
  rw [show (10000:Nat)=9999+1 from rfl,run_equalIn_agg w 9999 t _ _ (by rw [hF];exact hU) hp,hF]
  exact Ca w 9998 fs 0 [] [] l l' hf hv hk rfl rfl
theorem F1 {l l':List Value} {fs:List Field} (hU:P.underlying t=some (.struct fs.toArray)) (hp:P.stoodInHeld t=false) (hg:P.eqGuardType P.depth t=false) (hf:BI 0 fs=true) (hx:ev e x=some (.agg l.toArray)) (hy:ev e y=some (.agg l'.toArray)) (hv:te P fs l l'=true) (hk:N5 l l'):
    fb P (.binOp .eql t x y u) ty e (.bool (Ho l l')):=fun w ρ hρ _ _ _ _=>by
  simp [execOp,hρ x _ hx,hρ y _ hy,run_eqGuard_agg w .eql t x y _ _ hg,run_eql_struct,Eg w hU hp hf hv hk,Result.andThen]
end
theorem aX {p:Prop} (h:p:=by(repeat' (first|exact aT.nil _|refine aT.cons rfl ?_|refine aT.app ?_))):p:=h
theorem ka {p:Prop} (h:p:=by first|rfl|exact lk rfl (by congr 1;omega)|exact lk rfl (by simp)):p:=h
theorem cR {p:Prop} (h:p:=by exact aQ default (by first|omega|(simp only [List.length_set,List.length_append,List.length_cons,List.length_nil];omega))):p:=h
theorem cL {p:Prop} (h:p:=by first|omega|(simp only [List.length_set,List.length_append,List.length_cons,List.length_nil];omega)):p:=h
theorem eA {p:Prop} (h:p:=by first|decide|exact Nat.le_of_ble_eq_true rfl|(simp;done)|(simp;omega)):p:=h
theorem o5 {p:Prop} (h:p:=by first|exact Sr.spt (by assumption)|exact Sl.spt (by assumption)):p:=h
theorem dF {p:Prop} (h:p:=by first|rfl|decide|(simp;done)):p:=h
theorem cn {p:Prop} (h:p:=by exact(fun bB=>absurd bB (by omega))):p:=h
theorem au9 {p:Prop} (h:p:=by(repeat' (first|exact trivial|refine ⟨rfl,?_⟩))):p:=h
theorem jh {p:Prop} (h:p:=by exact(fun p hp bB=>absurd bB (Nat.not_lt_of_le (Sl.ge (by assumption) p hp)))):p:=h
theorem om {p:Prop} (h:p:=by omega):p:=h
theorem kr {p:Prop} (h:p:=by kernel_rfl):p:=h
theorem aA {p:Prop} (h:p:=by assumption):p:=h
theorem ir {p:Prop} (h:p:=by intro _;rfl):p:=h
theorem yC {p:Prop} (h:p:=by exact DM (fun p hp=>by simp [hp])):p:=h
theorem aM {p:Prop} (h:p:=by rw [List.append_nil];assumption):p:=h
theorem tC {p:Prop} (h:p:=by exact fun bB=>by first|exact ee|exact agy|exact absurd bB (by omega)):p:=h
section
variable {P:Program} {r:Option Nat} {N:Nat} {Q:Exit→Act→World→Prop} {e:Env} {ds:List Nat} {M:aa} {S:Nat→Prop} {w0:World} {G:World→Prop}
variable {ops:Array Oper} {l:List Oper} {op:Op} {ty:TypeId} {pos:String} {after:Array Edge} {d:Nat} {x:Operand} {v:Value}
theorem LM.mv (hx:ev e x=some v) (h:LM P r N ops Q l ((d,v)::e) ds M S w0 G) (hd:Nat.blt d N=true:=by rfl):LM P r N ops Q (⟨some d,.move x,ty,pos,after,none⟩::l) e ds M S w0 G:=LM.val (Fl hx) h rfl hd
theorem LM.as (hx:ev e x=some v) (h:LM P r N ops Q l ((d,v)::e) ds M S w0 G) (hd:Nat.blt d N=true:=by rfl):LM P r N ops Q (⟨some d,.assign x,ty,pos,after,none⟩::l) e ds M S w0 G:=LM.val (xU hx) h rfl hd
theorem LM.dr (t:Nat) {j:Nat} {b c:Bool} (hj:(ops[j]?).bind (·.dst)=some t) (ht:look e t=some (.bool c)) (RW:(c==b)=false) (h:LM P r N ops Q l e ds M S w0 G) (hd:Nat.blt d N=true:=by rfl) (hf:look e d=none:=by rfl):LM P r N ops Q (⟨some d,op,ty,pos,after,some (j,b)⟩::l) e ds M S w0 G:=LM.drop hj ht RW h hd hf
theorem LM.sp (t:Nat) {o:Oper} {j:Nat} {b:Bool} (hj:(ops[j]?).bind (·.dst)=some t) (ht:look e t=some (.bool b)) (ho:o.guard=some (j,b)) (h:LM P r N ops Q ({o with guard:=none} ::l) e ds M S w0 G):LM P r N ops Q (o::l) e ds M S w0 G:=LM.strip hj ht ho h
theorem zA {y:Code} (h:af P r N y Q e ds M S w0 G):LM P r N ops (Exit.then (y.wpIn (Wd r) 0 P Q) Q) [] e ds M S w0 G:=LM.nil (QM.then h)
theorem zB {y:Code} {id:Nat} {l':List Oper} (h:LM P r N l'.toArray (Exit.then (y.wpIn (Wd r) 0 P Q) Q) l' e ds M S w0 G):LM P r N ops (Exit.then ((Code.seq (.region id l'.toArray false) y).wpIn (Wd r) 0 P Q) Q) [] e ds M S w0 G:=LM.nil (QM.then (af.seq (af.region h)))
theorem zC (h:QM N Q .normal e ds M S w0 G):LM P r N ops Q [] e ds M S w0 G:=LM.nil h
theorem nA (e':Env) {y:Code} (h:af P r N y Q e' ds M S w0 G) (hs:Sub e e':=by(repeat' (first|exact trivial|refine ⟨rfl,?_⟩))):LM P r N ops (Exit.then (y.wpIn (Wd r) 0 P Q) Q) [] e ds M S w0 G:=LM.nil (QM.sub hs (QM.then h))
theorem nB (e':Env) {y:Code} {id:Nat} {l':List Oper} (h:LM P r N l'.toArray (Exit.then (y.wpIn (Wd r) 0 P Q) Q) l' e' ds M S w0 G) (hs:Sub e e':=by(repeat' (first|exact trivial|refine ⟨rfl,?_⟩))):LM P r N ops (Exit.then ((Code.seq (.region id l'.toArray false) y).wpIn (Wd r) 0 P Q) Q) [] e ds M S w0 G:=LM.nil (QM.sub hs (QM.then (af.seq (af.region h))))
theorem nC (e':Env) (h:QM N Q .normal e' ds M S w0 G) (hs:Sub e e':=by(repeat' (first|exact trivial|refine ⟨rfl,?_⟩))):LM P r N ops Q [] e ds M S w0 G:=LM.nil (QM.sub hs h)
theorem wR {y:Code} {id:Nat} {l':List Oper} (h:LM P r N l'.toArray (Exit.then (y.wpIn (Wd r) 0 P Q) Q) l' e ds M S w0 G):af P r N (.seq (.region id l'.toArray false) y) Q e ds M S w0 G:=af.seq (af.region h)
theorem tR {y:Code} {id:Nat} {l':List Oper} (h:LM P r N l'.toArray (Exit.then (y.wpIn (Wd r) 0 P Q) Q) l' e ds M S w0 G):QM N (Exit.then ((Code.seq (.region id l'.toArray false) y).wpIn (Wd r) 0 P Q) Q) .normal e ds M S w0 G:=QM.then (af.seq (af.region h))
theorem LM.nc {ad:Addr} (hx:ev e x=some (.pointer (some ad))) (h:LM P r N ops Q l ((d,.pointer (some ad))::e) ds M S w0 G) (hd:Nat.blt d N=true:=by rfl):LM P r N ops Q (⟨some d,.nilCheck x,ty,pos,after,none⟩::l) e ds M S w0 G:=LM.val (s5 hx) h rfl hd
theorem qL {fn:Func} {R:Value→World→Prop} {k:Nat} {u:Value} (hr:fn.results=#[.tmp k]) (h:uM e [.tmp k] =some [u]) (hR:∀w,Mem w M→cX S w0 w→G w→R (bA [u]) w):QM N (px P fn R) .ret e [] M S w0 G:=QM.leave (.inl rfl) [.tmp k] hr h hR
class lY (P:Program) (t:TypeId) where
  d:TypeDesc
  h:P.underlying t=some d
class mL (P:Program) (t:TypeId) where
  n:Nat
  h:∀w,(sizeOf t).run P w= .ok n w
class wv (P:Program) (t:TypeId) where
  b:Bool
  h:∀w,(isAgg t).run P w= .ok b w
theorem ovf (T:TypeId) {t:TypeId} {f b off k:Nat} {fs:Array Field} [i:lY P t] [j:mL P T] (hi:i.d= .struct fs) (hf:(fs[f]?).map (fun fl=>(fl.type,fl.offset))=some (T,k)) (hn:Nat.beq j.n 0=false) (ha:ev e x=some (.pointer (some ⟨b,off,none⟩))):fb P (.fieldAddr t x f) ty e (.pointer (some ⟨b,off+k,none⟩)):=by
  cases hq:fs[f]? with
  |none=>rw [hq] at hf;cases hf
  |some fl=>
    rw [hq] at hf
    obtain ⟨h1,h2⟩:=Prod.mk.inj (Option.some.inj hf)
    exact z9 (i.h.trans (congrArg some hi)) hq (h1▸j.h) hn h2 ha
theorem Xm {t:TypeId} {b off:Nat} {cs:Array Value} {E:TypeId} {fz:Nat×Nat} {v:Value} {M2:aa} [i:wv P t] (hi:i.b=false) (ha:ev e x=some (.pointer (some ⟨b,off,none⟩))) [h:rJ M b (.cells cs E fz) M2] (hc:cs[off]? =some v):∀w,Mem w M→rA P (.load t x) ty e w v w:=fF (fun w=>(i.h w).trans (by rw [hi])) ha hc
theorem oC {f:FuncId} {fn:Func} {c:Code} {lo:List Operand} {vs:List Value} {yN:Array TypeId} (hf:P.funcs[f]? =some fn) (hv:eP e lo=some vs:=by rfl) (hn:(fn.name== "runtime.NumGoroutine")=false:=by kernel_rfl) (hb:fn.body=some c:=by rfl) (w:World):yy P (.call {callee:= .value (.func f),args:=lo.toArray,argTypes:=yN}) ty e w f vs.toArray:=uh (iY hf hn hb) hv w
theorem sm {m:aa} {w:World} (hm:Mem w M) (h:aT M m:=by exact aX):Mem w m:=h.mem w hm
theorem cm {p:Prop} (h:p:=by(repeat' (first|exact trivial|refine ⟨ka,?_⟩))):p:=h
theorem mK {α:Type} {F:α→Env} {K:Env} {MM:α→aa} {I:α→Prop} (y:α) (hI:I y) (hs:Sub e (F y++K):=by exact cm) (hM:aT M (MM y):=by exact aX):QM N (PW N ds S w0 (fun x=>F x++K) MM (fun _=>G) I Q) .normal e ds M S w0 G:= .xG y hs hM hI
theorem aK {α:Type} {F:α→Env} {K:Env} {MM:α→aa} {GG:α→World→Prop} {I:α→Prop} {μ:α→Nat} {x:α} (y:α) (hI:I y) (hm:μ y<μ x) (hs:Sub e (F y++K):=by exact cm) (hM:aT M (MM y):=by exact aX) (hG:∀w,G w→GG y w:=by exact fun _ h=>h):QM N (Exit.then (Xb N ds S w0 (fun x=>F x++K) MM GG I μ x) Q) .normal e ds M S w0 G:= .cT y hs hM hG hI hm
theorem cE [GS G] {f:FuncId} {fn:Func} {c:Code} {lo:List Operand} {vs:List Value} {yN:Array TypeId} {v:Value} (hf:P.funcs[f]? =some fn) (hv:eP e lo=some vs)
    (h:∀w,Mem w M→cX S w0 w→G w→aJ P f vs.toArray w (fun u w'=>u=v∧Ext w w')) (hk:LM P r N ops Q l ((d,v)::e) ds M S w0 G) (hn:(fn.name== "runtime.NumGoroutine")=false:=by kernel_rfl) (hb:fn.body=some c:=by rfl) (hd:Nat.blt d N=true:=by rfl):
    LM P r N ops Q (⟨some d,.call {callee:= .value (.func f),args:=lo.toArray,argTypes:=yN},ty,pos,after,none⟩::l) e ds M S w0 G:=LM.A4 (uh (iY hf hn hb) hv) h hk rfl hd
theorem dE [GS G] {f:FuncId} {fn:Func} {c:Code} {lo:List Operand} {vs:List Value} {yN:Array TypeId} {v:Value} {i:Nat} {lo2:List (Nat×Nat)} {g:Option (Nat×Bool)} (hi:ops[i]? =some ⟨some d,.call {callee:= .value (.func f),args:=lo.toArray,argTypes:=yN},ty,pos,after,g⟩) (hg:sz ops e g true) (hf:P.funcs[f]? =some fn) (hv:eP e lo=some vs)
    (h:∀w,Mem w M→cX S w0 w→G w→aJ P f vs.toArray w (fun u w'=>u=v∧Ext w w')) (hk:LD P r N ops Q lo2 ((d,v)::e) ds M S w0 G) (hn:(fn.name== "runtime.NumGoroutine")=false:=by kernel_rfl) (hb:fn.body=some c:=by rfl) (hd:Nat.blt d N=true:=by rfl):
    LD P r N ops Q ((i,2)::lo2) e ds M S w0 G:=LD.A4 hi hg (uh (iY hf hn hb) hv) h hk rfl hd
theorem cU [GT G] {f:FuncId} {fn:Func} {c:Code} {lo:List Operand} {vs:List Value} {yN:Array TypeId} {m M2:aa} {T:Value→aa→Prop} (hf:P.funcs[f]? =some fn) (hv:eP e lo=some vs)
    (h:∀w,Mem w M→cX S w0 w→G w→aJ P f vs.toArray w (eI m T w)) [hM:oU M m M2] (Ow:∀p∈m,bW p.2=false) (hS:∀p∈m,p.1<w0.heap.size→S p.1)
    (hk:∀u m',T u m'→(∀p∈m',w0.heap.size≤p.1∨∃q∈m,q.1=p.1)→LM P r N ops Q l ((d,u)::e) ds (m'++M2) S w0 G) (hn:(fn.name== "runtime.NumGoroutine")=false:=by kernel_rfl) (hb:fn.body=some c:=by rfl) (hd:Nat.blt d N=true:=by rfl):
    LM P r N ops Q (⟨some d,.call {callee:= .value (.func f),args:=lo.toArray,argTypes:=yN},ty,pos,after,none⟩::l) e ds M S w0 G:=LM.cU (uh (iY hf hn hb) hv) h Ow hS hk rfl hd
end
structure JL (n:Nat) (J:Nat→aa→World→Prop) (Jx:World→Prop):Prop where
  le:∀k m w,J k m w→n≤w.heap.size
  mem:∀k m w,J k m w→Mem w m
  AE:∀k m m' w w',J k m w→cX (fun b=>∃q∈m,q.1=b) w w'→Mem w' m'→(∀p∈m',(w.heap.size≤p.1∨∃q∈m,q.1=p.1)∧bW p.2=false)→J k m' w'
  bk:∀k m w w',J k m w→Bk n w w'→J k m w'
  bkx:∀w w',Jx w→Bk n w w'→Jx w'
section
variable {P:Program} {ty:TypeId} {e:Env} {t u:TypeId} {x y:Operand}
end
/-! ### Open and closed -/
section
variable {P:Program} {r:Option Nat} {N:Nat} {Q:Exit→Act→World→Prop} {e:Env} {ds:List Nat} {M m:aa} {w0 w1:World} {n k:Nat} {J:Nat→aa→World→Prop} {Jx K:World→Prop}
variable {ops:Array Oper} {rest:List Oper} {ty:TypeId} {pos:String} {after:Array Edge} {d:Nat}
abbrev fS (m:aa):Nat→Prop:=fun b=>∃q∈m,q.1=b
end
/-! ### ... in a round of a loop of the iterator's own -/
section
variable {P:Program} {r:Option Nat} {N:Nat} {Q:Exit→Act→World→Prop} {e:Env} {ds:List Nat} {M m:aa} {w0 w1:World} {n k:Nat} {J:Nat→aa→World→Prop} {Jx K K2:World→Prop}
end
/-! ### A loop whose rounds leave marks -/
section
variable {P:Program} {r:Option Nat} {N:Nat} {Q:Exit→Act→World→Prop} {e:Env} {ds:List Nat} {M:aa} {S:Nat→Prop} {w0:World} {G:World→Prop}
end
instance {M M1:aa} {ds:List Nat} [h:oU M (dM ds) M1] :L5 M ds M1:=⟨h.perm⟩
theorem bj {w0:World} :∀D∈([] :List Nat),w0.heap.size≤D:=fun D h=>by cases h
theorem Sl.bW {α:Type} {f:α→List Value} {E s n0:Nat} {xs:List α} {v:Value} {m:aa} (h:Sl f E s n0 xs v m):∀p∈m,Go.Eng.bW p.2=false:=fun p hp=>by
  rcases h with ⟨_,rfl,_⟩|⟨b,cap,bz,_,_,rfl,_⟩
  · cases hp
  · rw [List.mem_singleton] at hp;subst hp;rfl
/-! ### A call that changes one block among what may be carried out early or late -/
def ae4 (b:Nat) (Mc:aa) (os:List Obj) (w:World):Prop:=∃o∈os,Mem w ((b,o)::Mc)
instance (b:Nat) (Mc:aa) (os:List Obj) {G:World→Prop} [GS G] :GS (fun w=>G w∧ae4 b Mc os w) where
  ext:=fun w w' ⟨h,o,ho,hm⟩ k=>⟨GS.ext w w' h k,o,ho,hm.ext k⟩
section
variable {P:Program} {r:Option Nat} {N:Nat} {Q:Exit→Act→World→Prop} {e:Env} {ds:List Nat} {M:aa} {S:Nat→Prop} {w0:World} {G:World→Prop}
variable {ops:Array Oper} {lo:List Oper} {l:List (Nat×Nat)} {op:Op} {ty:TypeId} {pos:String} {after:Array Edge} {d i:Nat}
end
/-! ### A new slice, as a slice of the call's own -/
section
variable {P:Program} {r:Option Nat} {N:Nat} {Q:Exit→Act→World→Prop} {e:Env} {ds:List Nat} {M:aa} {S:Nat→Prop} {w0:World} {G:World→Prop}
variable {ops:Array Oper} {l:List Oper} {ty:TypeId} {pos:String} {after:Array Edge} {d:Nat} {t:TypeId} {x y:Operand}
theorem LM.JT [GS G] {α:Type} {f:α→List Value} {E s:Nat} {inf:TypeInfo} {z:Value} {a0:α} {n:Int} {k k':IntKind} (hU:P.underlying t=some (.slice E)) (hI:∀w,(typeInfo E).run P w= .ok inf w) (hz:inf.zero=some z) (hs:inf.size=s) (pE:Nat.blt 0 s=true) (hza:z.cells=(f a0).toArray) (hf:∀a,(f a).length=s) (hd:Nat.blt d N=true)
    (hx:ev e x=some (.int k n)) (hy:ev e y=some (.int k' n)) (h0:0≤n) (hb:(inf.bytes:Int)*n≤281474976710656) (h63:n≤9223372036854775807) (hmx:n.toNat≤maxLen)
    (h:∀ad c m,c=n.toNat→Sl f E s w0.heap.size (List.replicate c a0) (.slice ad c c) m→LM P r N ops Q l ((d,.slice ad c c)::e) ds (m++M) S w0 G):
    LM P r N ops Q (⟨some d,.makeSlice t x y,ty,pos,after,none⟩::l) e ds M S w0 G:=
  LM.make hU hI hz hs pE hza hf hd hx hy h0 hb h63 (fun b hb=>h (some ⟨b,0,none⟩) n.toNat [(b,.cells (arr f (List.replicate n.toNat a0) []) E (0,0))] rfl (.inr ⟨b,n.toNat,[],hb,by rw [List.length_replicate],rfl,by rw [List.length_replicate];exact Nat.le_refl _,hmx,by rw [List.length_replicate];simp⟩))
end
section range
variable {P:Program} {N:Nat} {Q:Exit→Act→World→Prop} {e:Env} {ds:List Nat} {M:aa} {S:Nat→Prop} {w0:World} {G:World→Prop}
variable {g:Operand} {ps:Array Tmp} {assign body:Code} {gf:FuncId} {lb:Array Value} {A:List (Array Value)} {Rd:World→Prop} {fin:Prop} {α β:Type}
end range
/-! ### Results -/
def wL (P:Program) (e:Env) (M:aa):List ResultVar→List Value→Prop
  | [],vs=>vs=[]
  | .tmp t::l,vs=>∃v us,vs=v::us∧look e t=some v∧wL P e M l us
  | .cell b t::l,vs=>∃v us ad,vs=v::us∧look e b=some (.pointer (some ad))∧(∀w,Mem w M→(loadVar t ad).run P w= .ok v w)∧wL P e M l us
section
variable {P:Program} {fn:Func} {N:Nat} {e:Env} {ds:List Nat} {M M1 M2:aa} {S:Nat→Prop} {w0:World} {G:World→Prop} {R:Value→World→Prop} {vs:List Value} {l:List ResultVar} {us:List Value} {v:Value}
theorem bn:wL P e M [] [] :=rfl
theorem aU {t:Nat} (h:look e t=some v) (k:wL P e M l us):wL P e M (.tmp t::l) (v::us):=⟨_,_,rfl,h,k⟩
theorem cM {b ad n:Nat} {t E:TypeId} {cs:Array Value} {fz:Nat×Nat} (hb:look e b=some (.pointer (some ⟨ad,0,none⟩))) [q:rJ M ad (.cells cs E fz) M2] (hT:∀w,(isAgg t).run P w= .ok true w) (hS:∀w,(sizeOf t).run P w= .ok n w) (hn:cs.size=n) (k:wL P e M l us):
    wL P e M (.cell b t::l) (.agg cs::us):=⟨_,_,_,rfl,hb,fun w hm=>by
  have:=fm (P:=P) (off:=0) (vs:=cs.toList) hT hS (q.get hm) (by simpa using hn) (fun j v hj=>by rw [Nat.zero_add];simpa using hj);simpa using this,k⟩
theorem rK {a:Act} (hf:Fr N e a) {w:World} (hm:Mem w M) (f:ResultVar→Sem Value) (hft:∀t v,a.tmps[t]? =some v→(f (.tmp t)).run P w= .ok v w)
    (hfc:∀b t ad,a.tmps[b]? =some (.pointer (some ad))→(f (.cell b t)).run P w=(loadVar t ad).run P w):
    ∀(rs:List ResultVar) (vs:List Value),wL P e M rs vs→(rs.mapM f).run P w= .ok vs w
  | [],vs,h=>by obtain rfl:vs=[] :=h;simp
  | .tmp t::rs,vs,h=>by
    obtain ⟨v,us,rfl,h1,h2⟩:=h;simp only [List.mapM_cons,Sem.run_bind,hft t v (hf.2 _ _ h1),Result.andThen,rK hf hm f hft hfc rs us h2,Sem.run_pure]
  | .cell b t::rs,vs,h=>by
    obtain ⟨v,us,ad,rfl,h1,h2,h3⟩:=h;simp only [List.mapM_cons,Sem.run_bind,hfc b t ad (hf.2 _ _ h1),h2 w hm,Result.andThen,rK hf hm f hft hfc rs us h3,Sem.run_pure]
theorem qN {a:Act} (hf:Fr N e a) {w:World} (hm:Mem w M) {rs:List ResultVar} (hr:fn.results=rs.toArray) (h:wL P e M rs vs):(results fn a.tmps).run P w= .ok (bA vs) w:=by
  unfold results
  rw [hr]
  have h1:=rK (P:=P) hf hm (fun x=>match x with
      |ResultVar.tmp t=>(pure (a.tmps.getD t undef):Sem Value)
      |ResultVar.cell b t=>do loadVar t (←asAddr (a.tmps.getD b undef)))
    (fun t v hl=>by
      show Result.ok (a.tmps.getD t undef) w=_
      rw [Array.getD_eq_getD_getElem?,hl];rfl)
    (fun b t ad hl=>by
      simp [Array.getD_eq_getD_getElem?,hl,asAddr]) rs vs h
  simp only [List.mapM_toArray,Sem.run_bind,Sem.run_map]
  generalize hX:Sem.run P (List.mapM _ rs) w=X
  obtain rfl:Result.ok vs w=X:=by rw [←hX];exact h1.symm
  simp only [Result.andThen];cases vs with
  |nil=>simp [bA]
  |cons v l=>cases l with
    |nil=>simp [bA]
    |cons u l=>simp [bA]
theorem QM.aV {x:Exit} (hx:x= .ret∨x= .normal) (rs:List ResultVar) (hr:fn.results=rs.toArray) (hD:∀D∈ds,w0.heap.size≤D) [k:L5 M ds M1] (h:wL P e M1 rs vs) (hR:∀w,Mem w M1→cX S w0 w→R (bA vs) w):QM N (px P fn R) x e ds M S w0 G:=
  .mem (fun w hm=>hm.perm k.perm) (fun w hm hc hg=>by
    obtain ⟨h1,h2,h3⟩:=Bh ds w M1 hm hc hD;rcases hx with rfl|rfl
    · intro a hf hd
      show LeavesInM _ _ _ _ _ _ _ _ _
      rw [hd];exact fY ds w h1 (qN hf h2 hr h) ⟨_,rfl,hR _ h2 h3⟩
    · intro a hf hd
      show LeavesInM _ _ _ _ _ _ _ _ _
      rw [hd];exact fY ds w h1 (qN hf h2 hr h) ⟨_,rfl,hR _ h2 h3⟩)
end
/-! ### A store among what may be carried out early or late -/
section
variable {P:Program} {r:Option Nat} {N:Nat} {Q:Exit→Act→World→Prop} {e:Env} {ds:List Nat} {M:aa} {S:Nat→Prop} {w0:World} {G:World→Prop}
variable {ops:Array Oper} {l:List (Nat×Nat)} {ty:TypeId} {pos:String} {after:Array Edge} {d i:Nat} {t:TypeId} {x y:Operand}
end
/-! ### The rest of a slice -/
def M9 (ad:Option Addr) (l c s:Nat):Option Addr:=if c=l then ad else ad.map (·.add (l*s))
section
variable {P:Program} {ty:TypeId} {e:Env} {t:TypeId} {x lo:Operand}
theorem nY (l:Nat) {k:IntKind} {li:Int} {ad:Option Addr} {n c s:Nat} {E:TypeId} (hU:P.underlying t=some (.slice E)) (hS:∀w,(sizeOf E).run P w= .ok s w) (ha:ev e x=some (.slice ad n c)) (hl:ev e lo=some (.int k li))
    (MB:li=(l:Nat)) (h:l≤n):fb P (.slice t x (some lo) none none) ty e (.slice (M9 ad l c s) (n-l) (c-l)):=fun w ρ hρ _ _ _ _=>by
  subst MB;have h2:(l:Int)≤n:=by omega
  simp [execOp,Instr.sliceAt,Instr.slice,Instr.sliceBounds,Instr.sliceBound,asIntOf,run_underlying hU,hρ x _ ha,hρ lo _ hl,hS,h,h2,M9,Result.andThen]
end
theorem Sr.drop {α:Type} {f:α→List Value} {s:Nat} {xs:List α} {ad:Option Addr} {n cap:Nat} {w:World} (h:Sr f s xs (.slice ad n cap) w) {l:Nat} (hk:l≤n):Sr f s (xs.drop l) (.slice (M9 ad l cap s) (n-l) (cap-l)) w:=by
  obtain ⟨zY,kT,h1,h2,h3⟩:=h;simp only [Value.slice.injEq] at h1;obtain ⟨rfl,rfl,rfl⟩:=h1;have hl:(xs.drop l).length=xs.length-l:=by simp
  refine ⟨_,_,by rw [hl],by omega,fun hx=>?_⟩;obtain ⟨b,off,cs,E,fz,h4,h5,h6⟩:=h3 om;refine ⟨b,off+l*s,cs,E,fz,?_,h5,fun i a ha j hj=>?_⟩
  · subst h4
    unfold M9;rw [if_neg om]
    simp [Addr.add]
  · rw [List.getElem?_drop] at ha
    have:=h6 (l+i) a ha j hj;rw [←this];congr 1;rw [Nat.add_mul];omega
/-! ### A test whose outcome is asked again -/
section
variable {P:Program} {r:Option Nat} {N:Nat} {Q:Exit→Act→World→Prop} {e:Env} {ds:List Nat} {M:aa} {S:Nat→Prop} {w0:World} {G:World→Prop}
theorem Fr.Oj {t:Nat} {b c:Bool} {a:Act} (hf:Fr N e a) (ht:look e t=some (.bool b)) (hc:b=c):Fr N ((t,.bool c)::e) a:=⟨hf.1,fun k u hu=>by
    rw [dP] at hu
    by_cases hk:t=k
    · subst hk;rw [if_pos rfl] at hu;rw [←hu,←hc];exact hf.2 _ _ ht
    · rw [if_neg hk] at hu;exact hf.2 k u hu⟩
theorem af.Da {t:Nat} {p:Prop} [Decidable p] {x y:Code} (ht:look e t=some (.bool (decide p))) (h1:p→af P r N x Q ((t,.bool true)::e) ds M S w0 G) (h2:¬p→af P r N y Q ((t,.bool false)::e) ds M S w0 G):
    af P r N (.cond (.tmp t) x y) Q e ds M S w0 G:=
  .aj ht (fun hp w hm hc hg a hf hd=>h1 hp w hm hc hg a (hf.Oj ht (decide_eq_true hp)) hd) (fun hp w hm hc hg a hf hd=>h2 hp w hm hc hg a (hf.Oj ht (decide_eq_false hp)) hd)
end
end Go.Eng
