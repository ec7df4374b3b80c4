/- A calculus of my own over the model's machine: a frame is known by a list of (temporary, value); one rule for each form of code. No condition. -/
import Derived.RangeFuncNested
import Derived.RangeFuncLeaves
import Derived.RangeFuncRecord
import Derived.RangeFuncCalls
import Derived.Below
import Derived.OrdersIn
import Derived.TacticsIn
import Derived.Laws.Entries
import Derived.Laws.AppendOwn
import Derived.Laws.Sem
import Derived.IntWalk
import Derived.Laws.MakeOwn
import Derived.Laws.OwnMore
import Derived.ArgAppend
import Derived.Laws.Pointers
import Derived.Laws.Tables
import Derived.MapKept
import Derived.Carry
import Derived.Laws.StructEq
set_option linter.unusedVariables false
set_option linter.unusedSectionVars false
set_option linter.unusedSimpArgs false
set_option maxRecDepth 100000
set_option maxHeartbeats 4000000
namespace Go.Eng
open Go Go.RowKit
variable {a:Act} {K:Act->World->Prop} {listed:Array Bool} {BU:Array TypeId} {args cs:Array Value} {c y:Code} {fn:Func} {f:FuncId} {k k':IntKind} {l':List Oper} {bH vs:List Value} {rc:Loop} {b cap i id j l n n0 off s t:Nat} {fz:Nat×Nat} {o:Obj} {g:Option (Nat×Bool)} {ad:Option Addr} {P:Program} {p:Prop} {α:Type} {E:TypeId} {v z:Value} {w w':World}

abbrev Env:=List (Nat×Value)

/-- The value of a temporary in a list. -/
def look:Env->Nat->Option Value
  | [],_=>none
  |(k,v)::e,t=>match Nat.beq k t with|true=>some v|false=>look e t

def ev (e:Env):Operand->Option Value
  | .tmp t=>look e t
  | .const v=>some v
  | .global g=>some (.pointer (some ⟨g,0,none⟩))
  | .func f=>some (.func (.func f) #[] #[])

/-- The frame a holds at least what the list says, and has at least N temporaries. -/
def Fr (N:Nat) (e:Env) (a:Act):Prop:=N<=a.tmps.size/\∀t v,look e t=some v->a.tmps[t]? =some v

def mark (D:Nat):Deferred:= {target:= .collected D,args:=#[] }
def Dm (ds:List Nat) (a:Act):Prop:=a.defers=ds.map mark

/-- The wide fence, in a round or not. -/
abbrev Wd (r:Option Nat):Fence:= {fn:=fun _=>True,depth:=none,alive:=false,round:=r}

def mj (P:Program) (r:Option Nat) (N:Nat) (c:Code) (Q:Exit->Act->World->Prop) (e:Env) (ds:List Nat) (w:World):Prop:=
  ∀a,Fr N e a->Dm ds a->c.wpIn (Wd r) 0 P Q a w

def QE (N:Nat) (Q:Exit->Act->World->Prop) (x:Exit) (e:Env) (ds:List Nat) (w:World):Prop:=
  ∀a,Fr N e a->Dm ds a->Q x a w

def LE (P:Program) (r:Option Nat) (N:Nat) (ops:Array Oper) (Q:Exit->Act->World->Prop) (l:List Oper) (e:Env) (ds:List Nat) (w:World):Prop:=
  ∀a,Fr N e a->Dm ds a->wpListIn (Wd r) 0 P ops Q l a w

theorem Fr.eval {N:Nat} {e:Env} {a:Act} (h:Fr N e a) {x:Operand} {v:Value} (hx:ev e x=some v):a.eval x=v:=by
  cases x with
  |tmp t=>
    have:=h.2 t v hx
    show a.tmps.getD t undef=v
    rw [Array.getD_eq_getD_getElem?,this];rfl
  |const u=>exact Option.some.inj hx
  |global g=>exact Option.some.inj hx
  |func f=>exact Option.some.inj hx

theorem er (d:Nat) (v:Value) (e:Env) (t:Nat):look ((d,v)::e) t=if d=t then some v else look e t:=by
  simp only [look]
  by_cases h:d=t
  ·subst h;simp
  · have:Nat.beq d t=false:=by
      rw [Bool.eq_false_iff];intro hb;exact h (Nat.eq_of_beq_eq_true hb)
    rw [this,if_neg h]

theorem Fr.put {N:Nat} {e:Env} {a:Act} (h:Fr N e a) {d:Nat} (hd:Nat.blt d N=true) (v:Value):Fr N ((d,v)::e) (a.put (some d) v):=by
  have hdN:d<N:=Nat.le_of_ble_eq_true hd
  refine ⟨by simp [Act.put];exact h.1,fun t u hu=>?_⟩
  rw [er] at hu
  simp only [Act.put]
  by_cases K5:d=t
  · subst K5
    rw [if_pos rfl] at hu
    obtain rfl:=Option.some.inj hu
    exact Array.getElem?_setIfInBounds_self_of_lt (Nat.lt_of_lt_of_le hdN h.1)
  · rw [if_neg K5] at hu
    rw [Array.getElem?_setIfInBounds_ne K5]
    exact h.2 t u hu

theorem Fr.aiy {N:Nat} {e:Env} (h:Fr N e a) (v:Value):Fr N e (a.put none v):=h

/-- The list e' says no more than e. -/
def Sub (e:Env):Env->Prop
  | [] =>True
  |p::l=>look e p.1=some p.2/\Sub e l

theorem Sub.mem {e:Env} :∀{e':Env},Sub e e'->∀t v,look e' t=some v->look e t=some v
  | [],_,t,v,h=>by simp [look] at h
  |(k,u)::l,h,t,v,hv=>by
    rw [er] at hv
    by_cases hk:k=t
    ·subst hk;rw [if_pos rfl] at hv;obtain rfl:=Option.some.inj hv;exact h.1
    ·rw [if_neg hk] at hv;exact Sub.mem h.2 t v hv

theorem Fr.sub {N:Nat} {e e':Env} (h:Fr N e a) (hs:Sub e e'):Fr N e' a:=⟨h.1,fun t v hv=>h.2 t v (hs.mem t v hv)⟩

section
variable {P:Program} {r:Option Nat} {N:Nat} {Q:Exit->Act->World->Prop} {e:Env} {ds:List Nat} {w:World}

theorem QE.sub {x:Exit} {e':Env} (hs:Sub e e') (h:QE N Q x e' ds w):QE N Q x e ds w:=fun a hf hd=>h a (hf.sub hs) hd
/-! ### The forms of code -/
theorem mj.seq {x y:Code} (h:mj P r N x (Exit.then (y.wpIn (Wd r) 0 P Q) Q) e ds w):mj P r N (.seq x y) Q e ds w:=fun a hf hd=>wpIn_seq (h a hf hd)
theorem mj.skip (h:QE N Q .normal e ds w):mj P r N .skip Q e ds w:=fun a hf hd=>wpIn_skip (h a hf hd)
theorem mj.exit {id:Nat} (h:QE N Q (.exit id) e ds w):mj P r N (.exit id) Q e ds w:=fun a hf hd=>wpIn_exit (h a hf hd)
theorem mj.ret (h:QE N Q .ret e ds w):mj P r N .ret Q e ds w:=fun a hf hd=>wpIn_ret (h a hf hd)
theorem mj.block {id:Nat} {c:Code} (h:mj P r N c (Exit.inBlock id Q) e ds w):mj P r N (.block id c) Q e ds w:=fun a hf hd=>wpIn_block (h a hf hd)
theorem mj.region {id:Nat} {l:List Oper} (h:LE P r N l.toArray Q l e ds w):mj P r N (.region id l.toArray false) Q e ds w:=fun a hf hd=>wpIn_region_lit (h a hf hd)
theorem mj.M7 {c:Operand} {x:Code} (hc:ev e c=some (.bool true)) (h:mj P r N x Q e ds w):mj P r N (.cond c x y) Q e ds w:=
  fun a hf hd=>wpIn_cond_true (hf.eval hc) (h a hf hd)
theorem mj.OL {c:Operand} {x:Code} (hc:ev e c=some (.bool false)) (h:mj P r N y Q e ds w):mj P r N (.cond c x y) Q e ds w:=
  fun a hf hd=>wpIn_cond_false (hf.eval hc) (h a hf hd)
theorem mj.aj [Decidable p] {c:Operand} {x:Code} (hc:ev e c=some (.bool (decide p))) (h1:p->mj P r N x Q e ds w) (h2:¬p->mj P r N y Q e ds w):
    mj P r N (.cond c x y) Q e ds w:=fun a hf hd=>by
  by_cases hp:p
  ·exact wpIn_cond_true (by rw [hf.eval hc,decide_eq_true hp]) (h1 hp a hf hd)
  ·exact wpIn_cond_false (by rw [hf.eval hc,decide_eq_false hp]) (h2 hp a hf hd)
theorem mj.aN {b:Bool} {c:Operand} {x:Code} (hc:ev e c=some (.bool b)) (h1:b=true->mj P r N x Q e ds w) (h2:b=false->mj P r N y Q e ds w):
    mj P r N (.cond c x y) Q e ds w:=fun a hf hd=>by
  cases b with
  |true=>exact wpIn_cond_true (hf.eval hc) (h1 rfl a hf hd)
  |false=>exact wpIn_cond_false (hf.eval hc) (h2 rfl a hf hd)

/-! ### Where a piece of code is left -/
theorem QE.uk (h:QE N Q .normal e ds w):QE N (Exit.inBlock id Q) (.exit id) e ds w:=fun a hf hd=>by
  simp only [Exit.inBlock];simpa using h a hf hd
theorem QE.rj {k:Nat} (hk:Nat.beq k id=false) (h:QE N Q (.exit k) e ds w):QE N (Exit.inBlock id Q) (.exit k) e ds w:=fun a hf hd=>by
  have ec:¬k=id:=fun e=>by subst e;simp at hk
  have:=h a hf hd
  simp only [Exit.inBlock]
  simpa [ec,Ne.symm ec] using this

theorem fJ (p:Nat->Prop) (h:∃n,p n):∃n,p n/\∀m,p m->n<=m:=by
  obtain ⟨n,hn⟩:=h
  induction n using Nat.strongRecOn with
  |_ n ih=>
    by_cases hq:∃m,m<n/\p m
    ·obtain ⟨m,hm,hp⟩:=hq;exact ih m hm hp
    ·exact⟨n,hn,fun m hm=>Nat.le_of_not_lt (fun bo=>hq ⟨m,bo,hm⟩)⟩

/-! ### A loop: its state is a value of a type α; env and world as functions of it -/
theorem mj.loop {α:Type} {c:Code} (E:α->Env) (I:α->World->Prop) (μ:α->Nat) (x0:α) (hs:Sub e (E x0)) (h0:I x0 w)
    (round:∀x w,I x w->mj P r N c (Exit.then (fun a' w'=>∃y,Fr N (E y) a'/\Dm ds a'/\I y w'/\μ y<μ x) Q) (E x) ds w):
    mj P r N (.loop c) Q e ds w:=by
  intro a hf hd
  -- the measure of a frame: the least measure of a state that fits
  refine vB E I μ x0 a w ⟨hf.sub hs,hd,h0⟩ round
where
  vB {P:Program} {r:Option Nat} {N:Nat} {Q:Exit->Act->World->Prop} {ds:List Nat} {α:Type} {c:Code} (E:α->Env) (I:α->World->Prop) (μ:α->Nat) (x0:α) (a:Act) (w:World)
      (h:Fr N (E x0) a/\Dm ds a/\I x0 w)
      (round:∀x w,I x w->mj P r N c (Exit.then (fun a' w'=>∃y,Fr N (E y) a'/\Dm ds a'/\I y w'/\μ y<μ x) Q) (E x) ds w):
      (Code.loop c).wpIn (Wd r) 0 P Q a w:=by
    classical
    let J:Act->World->Nat->Prop:=fun a w n=>∃x,Fr N (E x) a/\Dm ds a/\I x w/\μ x=n
    let M:Act->World->Nat:=fun a w=>if h:∃n,J a w n then Classical.choose (fJ (J a w) h) else 0
    have hM:∀a w,(∃n,J a w n)->J a w (M a w)/\∀n,J a w n->M a w<=n:=by
      intro a w h
      have e:M a w=Classical.choose (fJ (J a w) h):=dif_pos h
      rw [e]
      exact Classical.choose_spec (fJ (J a w) h)
    refine wpIn_loop (fun a w=>∃n,J a w n) M ⟨μ x0,x0,h.1,h.2.1,h.2.2,rfl⟩ ?_
    intro a w hn
    obtain ⟨⟨x,hf,hd,hI,hx⟩,agT⟩:=hM a w hn
    refine wpIn_mono (round x w hI a hf hd) ?_
    intro ex a' w' hq
    cases ex with
    |normal=>
      obtain ⟨y,hf',hd',hI',bo⟩:=hq
      have hJ:J a' w' (μ y):=⟨y,hf',hd',hI',rfl⟩
      refine ⟨⟨_,hJ⟩,?_⟩
      have:=(hM a' w' ⟨_,hJ⟩).2 _ hJ
      omega
    |exit id=>exact hq
    |goto l=>exact hq
    |ret=>exact hq
    |panic ch=>exact hq
    |outgrown=>exact hq

/-! ### Operations in a row -/
theorem LE.nil {ops:Array Oper} (h:QE N Q .normal e ds w):LE P r N ops Q [] e ds w:=fun a hf hd=>wpListIn_nil (h a hf hd)

/-- The operation yields v and leaves w'. -/
def tn (P:Program) (op:Op) (ty:TypeId) (e:Env) (w:World) (v:Value) (w':World):Prop:=
  ∀ρ:Operand->Value,(∀x u,ev e x=some u->ρ x=u)->∀dst pos after guard,(execOp ρ ⟨dst,op,ty,pos,after,guard⟩).run P w= .ok (.value v) w'
/-- The operation yields nothing. -/
def OpS (P:Program) (op:Op) (ty:TypeId) (e:Env) (w:World) (w':World):Prop:=
  ∀ρ:Operand->Value,(∀x u,ev e x=some u->ρ x=u)->∀dst pos after guard,(execOp ρ ⟨dst,op,ty,pos,after,guard⟩).run P w= .ok .skip w'
/-- The operation enters a function of the program. -/
def Ep (P:Program) (op:Op) (ty:TypeId) (e:Env) (w:World) (f:FuncId) (args:Array Value):Prop:=
  ∀ρ:Operand->Value,(∀x u,ev e x=some u->ρ x=u)->∀dst pos after guard,(execOp ρ ⟨dst,op,ty,pos,after,guard⟩).run P w= .ok (.enter f args) w

def nd:Op->Bool
  | .defer _=>false
  |_=>true

theorem kh {ro:Option Nat} {ρ:Operand->Value} {o:Oper} (h:nd o.op=true):o.semAt ro ρ=execOp ρ o:=by
  refine Oper.semAt_eq ro ρ o (fun c hc=>?_)
  rw [hc] at h;simp [nd] at h

theorem FB {o:Oper} (dX:nd o.op=true) (h:(execOp a.eval o).run P w= .ok (.value v) w') (hk:K (a.put o.dst v) w'):o.wpIn (Wd r) 0 P a w K Q:=by
  refine ⟨fun _ _=>trivial,?_⟩
  rw [kh dX,h];exact hk
theorem wp_skip {o:Oper} (dX:nd o.op=true) (h:(execOp a.eval o).run P w= .ok .skip w') (hk:K (a.put o.dst undef) w'):o.wpIn (Wd r) 0 P a w K Q:=by
  refine ⟨fun _ _=>trivial,?_⟩
  rw [kh dX,h];exact hk

section
variable {ops:Array Oper} {l:List Oper} {op:Op} {ty:TypeId} {pos:String} {after:Array Edge} {d:Nat} {v:Value} {w':World}
theorem LE.val (hv:tn P op ty e w v w') (h:LE P r N ops Q l ((d,v)::e) ds w') (dX:nd op=true:=by rfl) (hd:Nat.blt d N=true:=by rfl):
    LE P r N ops Q (⟨some d,op,ty,pos,after,none⟩::l) e ds w:=fun a hf fk=>by
  refine wpListIn_plain rfl fun K hK=>FB dX (hv a.eval (fun x u hx=>hf.eval hx) _ _ _ _) (hK _ _ (h _ (hf.put hd v) fk))
theorem LE.skp (hv:OpS P op ty e w w') (h:LE P r N ops Q l e ds w') (dX:nd op=true:=by rfl):
    LE P r N ops Q (⟨none,op,ty,pos,after,none⟩::l) e ds w:=fun a hf fk=>by
  refine wpListIn_plain rfl fun K hK=>wp_skip dX (hv a.eval (fun x u hx=>hf.eval hx) _ _ _ _) (hK _ _ (h _ hf fk))

/-! guards -/
theorem LE.strip {o:Oper} {b:Bool} (hj:(ops[j]?).bind (·.dst)=some t) (ht:look e t=some (.bool b)) (ho:o.guard=some (j,b))
    (h:LE P r N ops Q ({o with guard:=none} ::l) e ds w):LE P r N ops Q (o::l) e ds w:=fun a hf fk=>by
  have hw:Region.wanted o (yielded ops a.tmps)=true:=by
    simp [Region.wanted,ho,yielded,hj,hf.2 t _ ht]
  have h1:=h a hf fk
  unfold wpListIn at h1 ⊢
  rw [if_pos (by simp [Region.wanted])] at h1
  rw [if_pos hw]
  exact h1
theorem LE.drop {b c:Bool} (hj:(ops[j]?).bind (·.dst)=some t) (ht:look e t=some (.bool c)) (WR:(c==b)=false)
    (h:LE P r N ops Q l ((d,undef)::e) ds w) (hd:Nat.blt d N=true:=by rfl):LE P r N ops Q (⟨some d,op,ty,pos,after,some (j,b)⟩::l) e ds w:=fun a hf fk=>by
  have hw:Region.wanted ⟨some d,op,ty,pos,after,some (j,b)⟩ (yielded ops a.tmps)=false:=by
    simp only [Region.wanted,yielded,hj,Option.bind_some,hf.2 t _ ht]
    simpa using WR
  unfold wpListIn
  rw [if_neg (by rw [hw];simp)]
  exact⟨fun _ _=>trivial,h _ (hf.put hd undef) fk⟩
/-- A slot's Bool is parted on. -/
theorem LE.aw [Decidable p] (ht:look e t=some (.bool (decide p))) (h1:p->LE P r N ops Q l ((t,.bool true)::e) ds w) (h2:¬p->LE P r N ops Q l ((t,.bool false)::e) ds w):
    LE P r N ops Q l e ds w:=fun a hf fk=>by
  have key:∀c:Bool,decide p=c->Fr N ((t,.bool c)::e) a:=fun c hc=>⟨hf.1,fun k u hu=>by
    rw [er] at hu
    by_cases hk:t=k
    ·subst hk;rw [if_pos rfl] at hu;rw [<-hu,<-hc];exact hf.2 _ _ ht
    ·rw [if_neg hk] at hu;exact hf.2 k u hu⟩
  by_cases hp:p
  ·exact h1 hp a (key _ (decide_eq_true hp)) fk
  ·exact h2 hp a (key _ (decide_eq_false hp)) fk
theorem LE.bn {b:Bool} (ht:look e t=some (.bool b)) (h1:b=true->LE P r N ops Q l ((t,.bool true)::e) ds w) (h2:b=false->LE P r N ops Q l ((t,.bool false)::e) ds w):
    LE P r N ops Q l e ds w:=fun a hf fk=>by
  have key:∀c:Bool,b=c->Fr N ((t,.bool c)::e) a:=fun c hc=>⟨hf.1,fun k u hu=>by
    rw [er] at hu
    by_cases hk:t=k
    ·subst hk;rw [if_pos rfl] at hu;rw [<-hu,<-hc];exact hf.2 _ _ ht
    ·rw [if_neg hk] at hu;exact hf.2 k u hu⟩
  cases b with
  |true=>exact h1 rfl a (key _ rfl) fk
  |false=>exact h2 rfl a (key _ rfl) fk

/-! calls -/
/-- A contract: the call returns, and R of the value and the world behind it. -/
def aD (P:Program) (f:FuncId) (args:Array Value) (w:World) (R:Value->World->Prop):Prop:=
  Calls P f args w (fun en w'=>∃v,en= .returned v/\R v w')

theorem LE.call {R:Value->World->Prop} (hc:Ep P op ty e w f args) (h:aD P f args w R)
    (hk:∀v w',R v w'->LE P r N ops Q l ((d,v)::e) ds w') (dX:nd op=true:=by rfl) (hd:Nat.blt d N=true:=by rfl):
    LE P r N ops Q (⟨some d,op,ty,pos,after,none⟩::l) e ds w:=fun a hf fk=>by
  refine wpListIn_plain rfl fun K hK=>?_
  refine ⟨fun _ _=>trivial,?_⟩
  rw [kh dX,hc a.eval (fun x u hx=>hf.eval hx) _ _ _ _]
  refine ⟨fun h=>(by cases h),?_⟩
  have h2:CallsIn Fence.wide 0 P f args w (fun en w'=>∃v,en= .returned v/\R v w'):=callsIn_wide.2 h
  have h3:CallsIn (Wd r) 0 P f args w (fun en w'=>∃v,en= .returned v/\R v w'):=h2
  refine CallsIn.mono h3 ?_
  rintro en w' ⟨v,rfl,hR⟩
  exact hK _ _ (hk v w' hR _ (hf.put hd v) fk)
end
end

theorem aD.mono {P:Program} {f:FuncId} {args:Array Value} {w:World} {R R':Value->World->Prop} (h:aD P f args w R) (hr:∀v w',R v w'->R' v w'):aD P f args w R':=
  Calls.mono h (fun _ _ ⟨v,he,hR⟩=>⟨v,he,hr v _ hR⟩)

/-! ### A function's contract out of its body -/
/-- The world behind a function's return: the blocks of its loops' deferred calls are shut. -/
def shut:List Nat->World->World
  | [],w=>w
  |D::ds,w=>shut ds (w.putObj D (.deferred none))

def tX:List Nat->World->Prop
  | [],_=>True
  |D::ds,w=>w.heap[D]? =some (.deferred (some []))/\tX ds (w.putObj D (.deferred none))

def uX:Nat->List Value->Env
  |_,[] =>[]
  |k,v::l=>(k,v)::uX (k+1) l

theorem xJ:∀(l:List Value) (k t:Nat) (v:Value),look (uX k l) t=some v->k<=t/\l[t-k]? =some v
  | [],k,t,v,h=>by simp [uX,look] at h
  |u::l,k,t,v,h=>by
    rw [uX,er] at h
    by_cases hk:k=t
    ·subst hk;rw [if_pos rfl] at h;exact⟨Nat.le_refl _,by simpa using h⟩
    · rw [if_neg hk] at h
      obtain ⟨h1,h2⟩:=xJ l (k+1) t v h
      refine ⟨by omega,?_⟩
      rw [show t-k=(t-(k+1))+1 by omega,List.getElem?_cons_succ];exact h2

def gZ (P:Program) (fn:Func) (R:Value->World->Prop):Exit->Act->World->Prop:=
  bodyPostM (Wd none) 0 P fn (fun en w'=>∃v,en= .returned v/\R v w')

theorem aD.enter {l:List Value} {R:Value->World->Prop}
    (hf:P.funcs[f]? =some fn) (hb:fn.body=some c) {N:Nat} (hN:N=fn.ntmps) (hl:Nat.ble l.length N=true)
    (h:mj P none N c (gZ P fn R) (uX 0 l) [] w):aD P f l.toArray w R:=by
  refine (callsIn_wide (n:=0)).1 ?_
  refine callsIn_of_wp_marks (F:=Wd none) hf hb trivial ?_ rfl
  refine h _ ⟨?_,fun t v hv=>?_⟩ rfl
  · have:=Nat.le_of_ble_eq_true hl
    simp;omega
  · obtain ⟨_,h2⟩:=xJ l 0 t v hv
    have bo:t<l.length:=by
      rcases Nat.lt_or_ge t l.length with h|h
      ·exact h
      ·rw [List.getElem?_eq_none (by simpa using h)] at h2;cases h2
    simp only [Nat.sub_zero] at h2
    rw [Array.getElem?_append_left (by simpa using bo)]
    simpa using h2

/-- The results read off the frame. -/
def tJ (e:Env):List ResultVar->Option (List Value)
  | [] =>some []
  | .tmp t::l=>match look e t,tJ e l with|some v,some vs=>some (v::vs)|_,_=>none
  | .cell _ _::_=>none
def bd:List Value->Value
  | [v] =>v
  |l=> .tuple l.toArray

theorem NR {e:Env} (f:ResultVar->Sem Value) (hf:∀t v,look e t=some v->(f (.tmp t)).run P w= .ok v w):
    ∀(rs:List ResultVar) (vs:List Value),tJ e rs=some vs->(rs.mapM f).run P w= .ok vs w:=by
  intro rs
  induction rs with
  |nil=>intro vs h;simp only [tJ,Option.some.injEq] at h;subst h;simp
  |cons x rs ih=>
    intro vs h
    cases x with
    |cell b t=>simp [tJ] at h
    |tmp t=>
      simp only [tJ] at h
      cases hl:look e t with
      |none=>rw [hl] at h;cases h
      |some v=>
        cases hr:tJ e rs with
        |none=>rw [hl,hr] at h;cases h
        |some us=>
          rw [hl,hr] at h
          obtain rfl:=Option.some.inj h
          simp only [List.mapM_cons,Sem.run_bind,hf t v hl,Result.andThen,ih us hr,Sem.run_pure]

theorem rT {N:Nat} {e:Env} (hf:Fr N e a) {rs:List ResultVar} (hr:fn.results=rs.toArray) (h:tJ e rs=some vs):
    (results fn a.tmps).run P w= .ok (bd vs) w:=by
  unfold results
  rw [hr]
  have h1:=NR (P:=P) (w:=w) (fun x=>match x with
      |ResultVar.tmp t=>(pure (a.tmps.getD t undef):Sem Value)
      |ResultVar.cell b t=>do loadVar t (<-asAddr (a.tmps.getD b undef)))
    (fun t v hl=>by
      have h1:=hf.2 t v hl
      show Result.ok (a.tmps.getD t undef) w=_
      rw [Array.getD_eq_getD_getElem?,h1];rfl) rs vs h
  simp only [List.mapM_toArray,Sem.run_bind,Sem.run_map]
  generalize hX:Sem.run P (List.mapM _ rs) w=X
  obtain rfl:Result.ok vs w=X:=by rw [<-hX];exact h1.symm
  simp only [Result.andThen]
  cases vs with
  |nil=>simp [bd]
  |cons v l=>cases l with
    |nil=>simp [bd]
    |cons u l=>simp [bd]

theorem fF {P:Program} {fn:Func} {tmps:Array Value} {R:Ending->World->Prop} {v:Value} :
    ∀(ds:List Nat) (w:World),tX ds w->(results fn tmps).run P (shut ds w)= .ok v (shut ds w)->R (.returned v) (shut ds w)->LeavesInM (Wd none) 0 P fn tmps R (ds.map mark) .returning w
  | [],w,_,hr,hR=>by
    exact⟨v,hr,hR⟩
  |D::ds,w,hm,hr,hR=>by
    refine ⟨by simp,.inl ⟨D,_,rfl,run_takeDeferred hm.1,?_⟩⟩
    exact fF ds _ hm.2 hr hR

section
variable {P:Program} {fn:Func} {N:Nat} {e:Env} {ds:List Nat} {w:World} {R:Value->World->Prop} {vs:List Value}
/-- A function is left: its results lie in temporaries. -/
theorem QE.leave (rs:List ResultVar) (hr:fn.results=rs.toArray) (h:tJ e rs=some vs) (hm:tX ds w) (hR:R (bd vs) (shut ds w)):QE N (gZ P fn R) .ret e ds w:=fun a hf hd=>by
  show LeavesInM _ _ _ _ _ _ _ _ _
  rw [hd]
  exact fF ds w hm (rT hf hr h) ⟨_,rfl,hR⟩
theorem QE.PF (rs:List ResultVar) (hr:fn.results=rs.toArray) (h:tJ e rs=some vs) (hm:tX ds w) (hR:R (bd vs) (shut ds w)):QE N (gZ P fn R) .normal e ds w:=fun a hf hd=>by
  show LeavesInM _ _ _ _ _ _ _ _ _
  rw [hd]
  exact fF ds w hm (rT hf hr h) ⟨_,rfl,hR⟩
/-- One result, in a cell. -/
theorem AA (hf:Fr N e a) {t:TypeId} {ad:Addr} (hr:fn.results=#[.cell b t]) (hb:look e b=some (.pointer (some ad))) (hl:(loadVar t ad).run P w= .ok v w):
    (results fn a.tmps).run P w= .ok v w:=by
  have h1:=hf.2 b _ hb
  unfold results
  rw [hr]
  simp [Array.getD_eq_getD_getElem?,h1,asAddr,hl]
theorem QE.XS {t:TypeId} {ad:Addr} (hr:fn.results=#[.cell b t]) (hb:look e b=some (.pointer (some ad))) (hm:tX ds w) (hl:(loadVar t ad).run P (shut ds w)= .ok v (shut ds w)) (hR:R v (shut ds w)):
    QE N (gZ P fn R) .ret e ds w:=fun a hf hd=>by
  show LeavesInM _ _ _ _ _ _ _ _ _
  rw [hd]
  exact fF ds w hm (AA hf hr hb hl) ⟨_,rfl,hR⟩
end

abbrev ab:=List (Nat×Obj)

def Mem (w:World) (M:ab):Prop:=(M.map (·.1)).Nodup/\∀p∈M,w.heap[p.1]? =some p.2

/-- From w to w' no block has gone, and of the blocks of w those outside S are as they were. -/
structure cG (S:Nat->Prop) (w w':World):Prop where
  os:w'.os=w.os
  tape:w'.tape=w.tape
  output:w'.output=w.output
  size:w.heap.size<=w'.heap.size
  block:∀b,b<w.heap.size->¬S b->w'.heap[b]? =w.heap[b]?

def no:Nat->Prop:=fun _=>False
abbrev Ext (w w':World):Prop:=cG no w w'

theorem cG.refl (S:Nat->Prop) (w:World):cG S w w:=⟨rfl,rfl,rfl,Nat.le_refl _,fun _ _ _=>rfl⟩
theorem cG.trans {S:Nat->Prop} {a b c:World} (h:cG S a b) (k:cG S b c):cG S a c:=
  ⟨k.os.trans h.os,k.tape.trans h.tape,k.output.trans h.output,Nat.le_trans h.size k.size,fun x hx hs=>(k.block x (Nat.lt_of_lt_of_le hx h.size) hs).trans (h.block x hx hs)⟩
/-- A step that changes T alone, behind steps that change S. -/
theorem cG.step {S T:Nat->Prop} {a b c:World} (h:cG S a b) (k:cG T b c) (hs:∀x,x<a.heap.size->T x->S x):cG S a c:=
  ⟨k.os.trans h.os,k.tape.trans h.tape,k.output.trans h.output,Nat.le_trans h.size k.size,fun x hx hn=>(k.block x (Nat.lt_of_lt_of_le hx h.size) (fun q=>hn (hs x hx q))).trans (h.block x hx hn)⟩
theorem Ext.below (h:Ext w w'):Below w.heap.size w w':=⟨h.os,h.tape,h.output,h.size,fun k hk=>h.block k hk (fun q=>q)⟩
theorem Ext.Pp (h:Below w.heap.size w w'):Ext w w':=⟨h.os,h.tape,h.output,h.size,fun k hk _=>h.block k hk⟩
theorem Ext.get (h:Ext w w') (hb:w.heap[b]? =some o):w'.heap[b]? =some o:=by
  rw [h.block b (Array.getElem?_eq_some_iff.1 hb).1 (fun q=>q)];exact hb
theorem cG.get {S:Nat->Prop} (h:cG S w w') (hb:w.heap[b]? =some o) (hn:¬S b):w'.heap[b]? =some o:=by
  rw [h.block b (Array.getElem?_eq_some_iff.1 hb).1 hn];exact hb
theorem cG.drew (S:Nat->Prop) (w:World):cG S w {w with drawn:=w.drawn+1} :=⟨rfl,rfl,rfl,Nat.le_refl _,fun _ _ _=>rfl⟩

theorem Mem.get {M:ab} (h:Mem w M) (hi:M[i]? =some (b,o)):w.heap[b]? =some o:=h.2 _ (List.mem_of_getElem? hi)
theorem Mem.lt {M:ab} (h:Mem w M) {p:Nat×Obj} (hp:p∈M):p.1<w.heap.size:=(Array.getElem?_eq_some_iff.1 (h.2 p hp)).1
theorem Mem.nil (w:World):Mem w [] :=⟨List.nodup_nil,fun _ h=>by cases h⟩
theorem Mem.ext {M:ab} (h:Mem w M) (k:Ext w w'):Mem w' M:=⟨h.1,fun p hp=>k.get (h.2 p hp)⟩
theorem Mem.keep {S:Nat->Prop} {M:ab} (h:Mem w M) (k:cG S w w') (hn:∀p∈M,¬S p.1):Mem w' M:=⟨h.1,fun p hp=>k.get (h.2 p hp) (hn p hp)⟩
theorem Mem.cons {M:ab} (h:Mem w M) (hb:w.heap[b]? =some o) (hn:∀p∈M,p.1≠b):Mem w ((b,o)::M):=by
  refine ⟨?_,fun p hp=>?_⟩
  · simp only [List.map_cons,List.nodup_cons]
    refine ⟨fun hm=>?_,h.1⟩
    obtain ⟨p,hp,he⟩:=List.mem_map.1 hm
    exact hn p hp he
  · rcases List.mem_cons.1 hp with rfl|hp
    ·exact hb
    ·exact h.2 p hp
theorem Mem.tail {M:ab} {p:Nat×Obj} (h:Mem w (p::M)):Mem w M:=⟨(List.nodup_cons.1 h.1).2,fun q hq=>h.2 q (List.mem_cons_of_mem _ hq)⟩
theorem Mem.sub {M M':ab} (h:Mem w M) (hs:List.Sublist M' M):Mem w M':=⟨h.1.sublist (hs.map _),fun p hp=>h.2 p (hs.subset hp)⟩
theorem Mem.perm {M M':ab} (h:Mem w M) (hs:M.Perm M'):Mem w M':=⟨(hs.map _).nodup_iff.1 h.1,fun p hp=>h.2 p (hs.mem_iff.2 hp)⟩
/-- One block of the list has become another. -/
theorem Mem.set {w w':World} {M:ab} (h:Mem w M) {i b:Nat} {o o':Obj} (hi:M[i]? =some (b,o)) (hb:w'.heap[b]? =some o') (k:cG (fun x=>x=b) w w'):Mem w' (M.set i (b,o')):=by
  have bo:i<M.length:=(List.getElem?_eq_some_iff.1 hi).1
  have aif:M[i] =(b,o):=(List.getElem?_eq_some_iff.1 hi).2
  have afO:(M.set i (b,o')).map (·.1)=M.map (·.1):=by
    apply List.ext_getElem?
    intro j
    simp only [List.getElem?_map,List.getElem?_set]
    by_cases Rh:i=j
    ·subst Rh;simp [bo,aif]
    ·simp [Rh]
  refine ⟨by rw [afO];exact h.1,fun p hp=>?_⟩
  obtain ⟨j,hj⟩:=List.getElem?_of_mem hp
  rw [List.getElem?_set] at hj
  by_cases Rh:i=j
  ·subst Rh;simp [bo] at hj;subst hj;exact hb
  · simp only [Rh,if_false] at hj
    have tS:p∈M:=List.mem_of_getElem? hj
    refine k.get (h.2 p tS) (fun hpb=>Rh ?_)
    have dX:=h.1
    have e1:(M.map (·.1))[i]? =some b:=by simp [hi]
    have e2:(M.map (·.1))[j]? =some b:=by simp [hj,hpb]
    exact(List.nodup_iff_injective_get? dX e1 e2)
where
  List.nodup_iff_injective_get? {l:List Nat} (h:l.Nodup) {i j x:Nat} (h1:l[i]? =some x) (h2:l[j]? =some x):i=j:=by
    induction l generalizing i j with
    |nil=>simp at h1
    |cons a l ih=>
      rw [List.nodup_cons] at h
      cases i with
      |zero=>
        cases j with
        |zero=>rfl
        |succ j=>simp at h1 h2;subst h1;exact absurd (List.mem_of_getElem? h2) h.1
      |succ i=>
        cases j with
        |zero=>simp at h1 h2;subst h2;exact absurd (List.mem_of_getElem? h1) h.1
        |succ j=>simp at h1 h2;rw [ih h.2 h1 h2]

section defs
variable (P:Program) (r:Option Nat) (N:Nat)
def af (c:Code) (Q:Exit->Act->World->Prop) (e:Env) (ds:List Nat) (M:ab) (S:Nat->Prop) (w0:World) (G:World->Prop):Prop:=∀w,Mem w M->cG S w0 w->G w->mj P r N c Q e ds w
def LM (ops:Array Oper) (Q:Exit->Act->World->Prop) (l:List Oper) (e:Env) (ds:List Nat) (M:ab) (S:Nat->Prop) (w0:World) (G:World->Prop):Prop:=∀w,Mem w M->cG S w0 w->G w->LE P r N ops Q l e ds w
def QM (Q:Exit->Act->World->Prop) (x:Exit) (e:Env) (ds:List Nat) (M:ab) (S:Nat->Prop) (w0:World) (G:World->Prop):Prop:=∀w,Mem w M->cG S w0 w->G w->QE N Q x e ds w
/-- The objects of loops over functions. -/
def bJ:Obj->Bool
  | .loop _=>true
  | .deferred _=>true
  |_=>false
/-- Those are kept. -/
def MN (w w':World):Prop:=∀(b:Nat) (o:Obj),w.heap[b]? =some o->bJ o=true->w'.heap[b]? =some o
theorem MN.one (h:cG (fun x=>x=b) w w') (hb:w.heap[b]? =some o) (hw:bJ o=false):MN w w':=fun k u hk hu=>by
  refine h.get hk (fun e=>?_)
  subst e
  rw [hk] at hb;cases hb
  rw [hu] at hw;cases hw
/-- Whatever else is known of the world: it stands when blocks are laid; when one is changed. -/
class GS (G:World->Prop):Prop where
  ext:∀w w',G w->Ext w w'->G w'
class GT (G:World->Prop):Prop extends GS G where
  yw:∀S w w',G w->cG S w w'->MN w w'->G w'
def top:World->Prop:=fun _=>True
instance:GT top where
  ext:=fun _ _ _ _=>trivial
  yw:=fun _ _ _ _ _ _=>trivial
end defs

section
variable {P:Program} {r:Option Nat} {N:Nat} {Q:Exit->Act->World->Prop} {e:Env} {ds:List Nat} {M:ab} {S:Nat->Prop} {w0:World} {G:World->Prop}

theorem QM.sub {x:Exit} {e':Env} (hs:Sub e e') (h:QM N Q x e' ds M S w0 G):QM N Q x e ds M S w0 G:=fun w hm hc hg=>(h w hm hc hg).sub hs
theorem af.mem {M':ab} (hs:∀w,Mem w M->Mem w M') (h:af P r N c Q e ds M' S w0 G):af P r N c Q e ds M S w0 G:=fun w hm hc hg=>h w (hs w hm) hc hg
theorem QM.mem {x:Exit} {M':ab} (hs:∀w,Mem w M->Mem w M') (h:QM N Q x e ds M' S w0 G):QM N Q x e ds M S w0 G:=fun w hm hc hg=>h w (hs w hm) hc hg
theorem LM.mem {ops:Array Oper} {l:List Oper} {M':ab} (hs:∀w,Mem w M->Mem w M') (h:LM P r N ops Q l e ds M' S w0 G):LM P r N ops Q l e ds M S w0 G:=fun w hm hc hg=>h w (hs w hm) hc hg

theorem af.seq {x y:Code} (h:af P r N x (Exit.then (y.wpIn (Wd r) 0 P Q) Q) e ds M S w0 G):af P r N (.seq x y) Q e ds M S w0 G:=fun w hm hc hg=> .seq (h w hm hc hg)
theorem af.skip (h:QM N Q .normal e ds M S w0 G):af P r N .skip Q e ds M S w0 G:=fun w hm hc hg=> .skip (h w hm hc hg)
theorem af.exit {id:Nat} (h:QM N Q (.exit id) e ds M S w0 G):af P r N (.exit id) Q e ds M S w0 G:=fun w hm hc hg=> .exit (h w hm hc hg)
theorem af.ret (h:QM N Q .ret e ds M S w0 G):af P r N .ret Q e ds M S w0 G:=fun w hm hc hg=> .ret (h w hm hc hg)
theorem af.block {id:Nat} {c:Code} (h:af P r N c (Exit.inBlock id Q) e ds M S w0 G):af P r N (.block id c) Q e ds M S w0 G:=fun w hm hc hg=> .block (h w hm hc hg)
theorem af.region {id:Nat} {l:List Oper} (h:LM P r N l.toArray Q l e ds M S w0 G):af P r N (.region id l.toArray false) Q e ds M S w0 G:=fun w hm hc hg=> .region (h w hm hc hg)
theorem af.M7 {c:Operand} {x y:Code} (hc:ev e c=some (.bool true)) (h:af P r N x Q e ds M S w0 G):af P r N (.cond c x y) Q e ds M S w0 G:=fun w hm jy hg=> .M7 hc (h w hm jy hg)
theorem af.OL {c:Operand} {x y:Code} (hc:ev e c=some (.bool false)) (h:af P r N y Q e ds M S w0 G):af P r N (.cond c x y) Q e ds M S w0 G:=fun w hm jy hg=> .OL hc (h w hm jy hg)
theorem af.aj {p:Prop} [Decidable p] {c:Operand} {x y:Code} (hc:ev e c=some (.bool (decide p))) (h1:p->af P r N x Q e ds M S w0 G) (h2:¬p->af P r N y Q e ds M S w0 G):
    af P r N (.cond c x y) Q e ds M S w0 G:=fun w hm jy hg=> .aj hc (fun hp=>h1 hp w hm jy hg) (fun hp=>h2 hp w hm jy hg)
theorem af.aN {b:Bool} {c:Operand} {x y:Code} (hc:ev e c=some (.bool b)) (h1:b=true->af P r N x Q e ds M S w0 G) (h2:b=false->af P r N y Q e ds M S w0 G):
    af P r N (.cond c x y) Q e ds M S w0 G:=fun w hm jy hg=> .aN hc (fun hp=>h1 hp w hm jy hg) (fun hp=>h2 hp w hm jy hg)

theorem QM.then {y:Code} (h:af P r N y Q e ds M S w0 G):QM N (Exit.then (y.wpIn (Wd r) 0 P Q) Q) .normal e ds M S w0 G:=h
theorem QM.Ju (h:QM N Q (.exit id) e ds M S w0 G):QM N (Exit.then K Q) (.exit id) e ds M S w0 G:=h
theorem QM.PR (h:QM N Q .ret e ds M S w0 G):QM N (Exit.then K Q) .ret e ds M S w0 G:=h
theorem QM.Ak (h:QM N Q .normal e ds M S w0 G):QM N (Exit.inBlock id Q) .normal e ds M S w0 G:=h
theorem QM.Ka (h:QM N Q .ret e ds M S w0 G):QM N (Exit.inBlock id Q) .ret e ds M S w0 G:=h
theorem QM.uk {id:Nat} (h:QM N Q .normal e ds M S w0 G):QM N (Exit.inBlock id Q) (.exit id) e ds M S w0 G:=fun w hm hc hg=> .uk (h w hm hc hg)
theorem QM.rj {id k:Nat} (hk:Nat.beq k id=false) (h:QM N Q (.exit k) e ds M S w0 G):QM N (Exit.inBlock id Q) (.exit k) e ds M S w0 G:=fun w hm hc hg=> .rj hk (h w hm hc hg)

/-- A loop: its state is a value of a type; the frame's list, the memory's list, what else is known, a relation, a measure. -/
def ZA (N:Nat) (ds:List Nat) (S:Nat->Prop) (w0:World) {α:Type} (E:α->Env) (MM:α->ab) (GG:α->World->Prop) (I:α->Prop) (μ:α->Nat) (x:α) (a':Act) (w':World):Prop:=
  ∃y,Fr N (E y) a'/\Dm ds a'/\(Mem w' (MM y)/\cG S w0 w'/\GG y w'/\I y)/\μ y<μ x
theorem af.TI (E:α->Env) (MM:α->ab) (GG:α->World->Prop) (I:α->Prop) (μ:α->Nat) (x0:α) (hs:Sub e (E x0)) (hM:∀w,Mem w M->Mem w (MM x0)) (hG:∀w,G w->GG x0 w) (h0:I x0)
    (round:∀x,I x->af P r N c (Exit.then (ZA N ds S w0 E MM GG I μ x) Q) (E x) ds (MM x) S w0 (GG x)):
    af P r N (.loop c) Q e ds M S w0 G:=fun w hm hc hg=>
  mj.loop E (fun x w=>Mem w (MM x)/\cG S w0 w/\GG x w/\I x) μ x0 hs ⟨hM w hm,hc,hG w hg,h0⟩ (fun x w ⟨h1,h2,h3,h4⟩=>round x h4 w h1 h2 h3)
theorem QM.VT {E:α->Env} {MM:α->ab} {GG:α->World->Prop} {I:α->Prop} {μ:α->Nat} {x:α} (y:α) (hs:Sub e (E y)) (hM:∀w,Mem w M->Mem w (MM y)) (hG:∀w,G w->GG y w) (hI:I y) (hm:μ y<μ x):
    QM N (Exit.then (ZA N ds S w0 E MM GG I μ x) Q) .normal e ds M S w0 G:=fun w hw hc hg _ hf hd=>⟨y,hf.sub hs,hd,⟨hM w hw,hc,hG w hg,hI⟩,hm⟩
/-! ### Operations -/
section ops
variable {ops:Array Oper} {l:List Oper} {op:Op} {ty:TypeId} {pos:String} {after:Array Edge} {d:Nat} {v:Value}

/-- The operation yields v, in whatever world, and leaves it as it is. -/
def fo (P:Program) (op:Op) (ty:TypeId) (e:Env) (v:Value):Prop:=∀w,tn P op ty e w v w

theorem LM.nil (h:QM N Q .normal e ds M S w0 G):LM P r N ops Q [] e ds M S w0 G:=fun w hm hc hg=> .nil (h w hm hc hg)
theorem LM.val (hv:fo P op ty e v) (h:LM P r N ops Q l ((d,v)::e) ds M S w0 G) (dX:nd op=true:=by rfl) (hd:Nat.blt d N=true:=by rfl):
    LM P r N ops Q (⟨some d,op,ty,pos,after,none⟩::l) e ds M S w0 G:=fun w hm hc hg=> .val (hv w) (h w hm hc hg) dX hd
/-- An operation that reads the memory. -/
theorem LM.rd (hv:∀w,Mem w M->tn P op ty e w v w) (h:LM P r N ops Q l ((d,v)::e) ds M S w0 G) (dX:nd op=true:=by rfl) (hd:Nat.blt d N=true:=by rfl):
    LM P r N ops Q (⟨some d,op,ty,pos,after,none⟩::l) e ds M S w0 G:=fun w hm hc hg=> .val (hv w hm) (h w hm hc hg) dX hd
/-- An operation that reads what lay there at the function's beginning, too. -/
theorem LM.dV (hv:∀w,Mem w M->cG S w0 w->G w->tn P op ty e w v w) (h:LM P r N ops Q l ((d,v)::e) ds M S w0 G) (dX:nd op=true:=by rfl) (hd:Nat.blt d N=true:=by rfl):
    LM P r N ops Q (⟨some d,op,ty,pos,after,none⟩::l) e ds M S w0 G:=fun w hm hc hg=> .val (hv w hm hc hg) (h w hm hc hg) dX hd
theorem LM.strip {o:Oper} {j t:Nat} {b:Bool} (hj:(ops[j]?).bind (·.dst)=some t) (ht:look e t=some (.bool b)) (ho:o.guard=some (j,b))
    (h:LM P r N ops Q ({o with guard:=none} ::l) e ds M S w0 G):LM P r N ops Q (o::l) e ds M S w0 G:=fun w hm hc hg=> .strip hj ht ho (h w hm hc hg)
theorem LM.drop {j t:Nat} {b c:Bool} (hj:(ops[j]?).bind (·.dst)=some t) (ht:look e t=some (.bool c)) (WR:(c==b)=false)
    (h:LM P r N ops Q l e ds M S w0 G) (hd:Nat.blt d N=true:=by rfl) (yl:look e d=none:=by rfl):LM P r N ops Q (⟨some d,op,ty,pos,after,some (j,b)⟩::l) e ds M S w0 G:=fun w hm hc hg=>
  .drop hj ht WR (LE.KB yl (h w hm hc hg)) hd
where
  LE.KB {P:Program} {r:Option Nat} {N:Nat} {ops:Array Oper} {Q:Exit->Act->World->Prop} {l:List Oper} {e:Env} {ds:List Nat} {w:World} {d:Nat} {u:Value} (hd:look e d=none)
      (h:LE P r N ops Q l e ds w):LE P r N ops Q l ((d,u)::e) ds w:=fun a hf fk=>h a ⟨hf.1,fun t v hv=>hf.2 t v (by
        rw [er]
        by_cases K5:d=t
        ·subst K5;rw [hd] at hv;cases hv
        ·rw [if_neg K5];exact hv)⟩ fk
theorem LM.aw {t:Nat} {p:Prop} [Decidable p] (ht:look e t=some (.bool (decide p))) (h1:p->LM P r N ops Q l ((t,.bool true)::e) ds M S w0 G) (h2:¬p->LM P r N ops Q l ((t,.bool false)::e) ds M S w0 G):
    LM P r N ops Q l e ds M S w0 G:=fun w hm hc hg=> .aw ht (fun hp=>h1 hp w hm hc hg) (fun hp=>h2 hp w hm hc hg)
theorem LM.bn {t:Nat} {b:Bool} (ht:look e t=some (.bool b)) (h1:b=true->LM P r N ops Q l ((t,.bool true)::e) ds M S w0 G) (h2:b=false->LM P r N ops Q l ((t,.bool false)::e) ds M S w0 G):
    LM P r N ops Q l e ds M S w0 G:=fun w hm hc hg=> .bn ht (fun hp=>h1 hp w hm hc hg) (fun hp=>h2 hp w hm hc hg)

/-- A call. -/
theorem LM.call {f:FuncId} {args:Array Value} {R:World->Value->World->Prop} (hc:∀w,Ep P op ty e w f args) (h:∀w,Mem w M->cG S w0 w->G w->aD P f args w (R w))
    (hk:∀w v w',Mem w M->cG S w0 w->G w->R w v w'->LE P r N ops Q l ((d,v)::e) ds w') (dX:nd op=true:=by rfl) (hd:Nat.blt d N=true:=by rfl):
    LM P r N ops Q (⟨some d,op,ty,pos,after,none⟩::l) e ds M S w0 G:=fun w hm jy hg=> .call (hc w) (h w hm jy hg) (fun v w' hR=>hk w v w' hm jy hg hR) dX hd
/-- A call that changes nothing that was there, and whose value is known. -/
theorem LM.ye [GS G] (hc:∀w,Ep P op ty e w f args) (h:∀w,Mem w M->cG S w0 w->G w->aD P f args w (fun u w'=>u=v/\Ext w w'))
    (hk:LM P r N ops Q l ((d,v)::e) ds M S w0 G) (dX:nd op=true:=by rfl) (hd:Nat.blt d N=true:=by rfl):
    LM P r N ops Q (⟨some d,op,ty,pos,after,none⟩::l) e ds M S w0 G:=
  .call hc (fun w hm jy hg=>h w hm jy hg) (fun w _ w' hm jy hg ⟨hu,he⟩=>by rw [hu];exact hk w' (hm.ext he) (jy.step he (fun _ _ q=>q.elim)) (GS.ext w w' hg he)) dX hd
/-- A call that changes one block of the list. -/
theorem LM.aaI [GT G] (i:Nat) {o':Obj} (hM:M[i]? =some (b,o)) (hw:bJ o=false) (hb:b<w0.heap.size->S b) (hc:∀w,Ep P op ty e w f args)
    (h:∀w,Mem w M->cG S w0 w->G w->aD P f args w (fun u w'=>u=v/\cG (fun x=>x=b) w w'/\w'.heap[b]? =some o'))
    (hk:LM P r N ops Q l ((d,v)::e) ds (M.set i (b,o')) S w0 G) (dX:nd op=true:=by rfl) (hd:Nat.blt d N=true:=by rfl):
    LM P r N ops Q (⟨some d,op,ty,pos,after,none⟩::l) e ds M S w0 G:=
  .call hc (fun w hm jy hg=>h w hm jy hg) (fun w _ w' hm jy hg ⟨hu,he,ho⟩=>by
    rw [hu];exact hk w' (hm.set hM ho he) (jy.step he (fun k bo PJ=>by subst PJ;exact hb bo)) (GT.yw _ w w' hg he (.one he (hm.get hM) hw))) dX hd
/-- A call that changes nothing that was there; its value is whatever 'T' says with the blocks that hold it. -/
theorem LM.dS [GS G] {T:Nat->Value->ab->Prop} (hc:∀w,Ep P op ty e w f args) (NY:∀n n' u m,n'<=n->T n u m->T n' u m)
    (h:∀w,Mem w M->cG S w0 w->G w->aD P f args w (fun u w'=>Ext w w'/\∃m,T w.heap.size u m/\Mem w' m/\∀p∈m,w.heap.size<=p.1))
    (hk:∀u m,T w0.heap.size u m->(∀p∈m,w0.heap.size<=p.1)->LM P r N ops Q l ((d,u)::e) ds (m++M) S w0 G) (dX:nd op=true:=by rfl) (hd:Nat.blt d N=true:=by rfl):
    LM P r N ops Q (⟨some d,op,ty,pos,after,none⟩::l) e ds M S w0 G:=
  .call hc (fun w hm jy hg=>h w hm jy hg) (fun w u w' hm jy hg ⟨he,m,hT,ao,HA⟩=>by
    refine hk u m (NY _ _ u m jy.size hT) (fun p hp=>Nat.le_trans jy.size (HA p hp)) w' ?_ (jy.step he (fun _ _ q=>q.elim)) (GS.ext w w' hg he)
    refine ⟨?_,fun p hp=>?_⟩
    · rw [List.map_append]
      refine List.nodup_append.2 ⟨ao.1,hm.1,?_⟩
      intro x hx y hy hxy
      obtain ⟨p,hp,rfl⟩:=List.mem_map.1 hx
      obtain ⟨q,hq,rfl⟩:=List.mem_map.1 hy
      have:=HA p hp
      have:=hm.lt hq
      omega
    · rcases List.mem_append.1 hp with hp|hp
      ·exact ao.2 p hp
      ·exact he.get (hm.2 p hp)) dX hd
end ops
end

/-! ### A function's contract out of its body -/
theorem aD.ak {l:List Value} {R:Value->World->Prop}
    (hf:P.funcs[f]? =some fn) (hb:fn.body=some c) {N:Nat} (hN:fn.ntmps=N) (hl:Nat.ble l.length N=true) (M:ab) (S:Nat->Prop) (hM:Mem w M)
    (h:af P none N c (gZ P fn R) (uX 0 l) [] M S w top):aD P f l.toArray w R:=
  .enter hf hb hN.symm hl (h w hM (.refl _ _) trivial)
/-- ... where more is known of the world. -/
theorem aD.Vz {l:List Value} {R:Value->World->Prop}
    (hf:P.funcs[f]? =some fn) (hb:fn.body=some c) {N:Nat} (hN:fn.ntmps=N) (hl:Nat.ble l.length N=true) (M:ab) (S:Nat->Prop) (G:World->Prop) (hM:Mem w M) (hG:G w)
    (h:af P none N c (gZ P fn R) (uX 0 l) [] M S w G):aD P f l.toArray w R:=
  .enter hf hb hN.symm hl (h w hM (.refl _ _) hG)

section
variable {P:Program} {fn:Func} {N:Nat} {e:Env} {ds:List Nat} {M:ab} {S:Nat->Prop} {w0:World} {G:World->Prop} {R:Value->World->Prop} {vs:List Value}
theorem QM.leave {x:Exit} (hx:x= .ret\/x= .normal) (rs:List ResultVar) (hr:fn.results=rs.toArray) (h:tJ e rs=some vs) (hR:∀w,Mem w M->cG S w0 w->G w->R (bd vs) w):QM N (gZ P fn R) x e [] M S w0 G:=fun w hm hc hg=>by
  rcases hx with rfl|rfl
  ·exact .leave rs hr h trivial (hR w hm hc hg)
  ·exact .PF rs hr h trivial (hR w hm hc hg)
end

section
variable {P:Program} {ty:TypeId} {e:Env} {w:World}

theorem wrap_i64 (n:Int) (h: -9223372036854775808<=n/\n<=9223372036854775807):IntKind.i64.wrap n=n:=by
  simp only [IntKind.signed,IntKind.bits,IntKind.wrap];simp;omega
theorem wrap_u64 (n:Int) (h:0<=n/\n<=18446744073709551615):IntKind.u64.wrap n=n:=by
  simp only [IntKind.signed,IntKind.bits,IntKind.wrap];simp;omega
theorem sC (n:Int):IntKind.u64.wrap n=n % 18446744073709551616:=by
  simp only [IntKind.signed,IntKind.bits,IntKind.wrap];simp
theorem kB (n:Int):IntKind.u64.wrap n=((BitVec.ofInt 64 n).toNat:Int):=by
  simp only [IntKind.signed,IntKind.bits,IntKind.wrap,BitVec.toNat_ofInt];simp;omega
theorem HD {x:Operand} (h:ev e x=some v):fo P (.move x) ty e v:=fun w ρ hρ _ _ _ _=>by
  simp [execOp,hρ x v h]
theorem zk {x:Operand} (h:ev e x=some v):fo P (.assign x) ty e v:=fun w ρ hρ _ _ _ _=>by
  simp [execOp,hρ x v h]
theorem Nq {c a b:Operand} (hc:ev e c=some (.bool true)) (h:ev e a=some v):fo P (.pick c a b) ty e v:=fun w ρ hρ _ _ _ _=>by
  simp [execOp,hρ c _ hc,hρ a _ h,asBool]
theorem OE {c a b:Operand} (hc:ev e c=some (.bool false)) (h:ev e b=some v):fo P (.pick c a b) ty e v:=fun w ρ hρ _ _ _ _=>by
  simp [execOp,hρ c _ hc,hρ b _ h,asBool]

/-! integers -/
section ints
variable {x y:Operand} {k:IntKind} {a b:Int} {t u:TypeId}
theorem nU (op:BinOp) (t:TypeId) (x y:Operand) (k k':IntKind) (a b:Int) (w:World):(eqGuard op t x y (.int k a) (.int k' b)).run P w= .ok () w:=by
  unfold eqGuard;cases op<;>rfl
theorem cu {op:BinOp} (hx:ev e x=some (.int k a)) (hy:ev e y=some (.int k b))
    (h:∀w,(binOp op t (.int k a) (.int k b)).run P w= .ok v w):fo P (.binOp op t x y u) ty e v:=fun w ρ hρ _ _ _ _=>by
  simp [execOp,hρ x _ hx,hρ y _ hy,nU,h,Result.andThen]
theorem FJ (hx:ev e x=some (.int k a)) (hy:ev e y=some (.int k b)):fo P (.binOp .add t x y u) ty e (.int k (k.wrap (a+b))):=cu hx hy (fun w=>by simp [binOp,Op.intArith])
theorem YH (hx:ev e x=some (.int k a)) (hy:ev e y=some (.int k b)):fo P (.binOp .sub t x y u) ty e (.int k (k.wrap (a-b))):=cu hx hy (fun w=>by simp [binOp,Op.intArith])
theorem XP (hx:ev e x=some (.int k a)) (hy:ev e y=some (.int k b)):fo P (.binOp .mul t x y u) ty e (.int k (k.wrap (a*b))):=cu hx hy (fun w=>by simp [binOp,Op.intArith])
theorem lC (hx:ev e x=some (.int .i64 a)) (hy:ev e y=some (.int .i64 b)) (h: -9223372036854775808<=a+b/\a+b<=9223372036854775807):fo P (.binOp .add t x y u) ty e (.int .i64 (a+b)):=by
  have:=FJ (P:=P) (ty:=ty) (t:=t) (u:=u) hx hy;rwa [wrap_i64 _ h] at this
theorem DB (hx:ev e x=some (.int .i64 a)) (hy:ev e y=some (.int .i64 b)) (h: -9223372036854775808<=a-b/\a-b<=9223372036854775807):fo P (.binOp .sub t x y u) ty e (.int .i64 (a-b)):=by
  have:=YH (P:=P) (ty:=ty) (t:=t) (u:=u) hx hy;rwa [wrap_i64 _ h] at this
theorem Dp (hx:ev e x=some (.int .i64 a)) (hy:ev e y=some (.int .i64 b)) (h: -9223372036854775808<=a*b/\a*b<=9223372036854775807):fo P (.binOp .mul t x y u) ty e (.int .i64 (a*b)):=by
  have:=XP (P:=P) (ty:=ty) (t:=t) (u:=u) hx hy;rwa [wrap_i64 _ h] at this
theorem Ws (hx:ev e x=some (.int k a)) (hy:ev e y=some (.int k b)):fo P (.binOp .eql t x y u) ty e (.bool (decide (a=b))):=cu hx hy (fun w=>by
  have:(a==b)=decide (a=b):=by rw [Bool.eq_iff_iff];simp
  simp [binOp,Op.intCmp,this])
theorem Yg (hx:ev e x=some (.int k a)) (hy:ev e y=some (.int k b)):fo P (.binOp .neq t x y u) ty e (.bool (decide (a≠b))):=cu hx hy (fun w=>by
  have:(a != b)=decide (a≠b):=by rw [Bool.eq_iff_iff];simp
  simp [binOp,Op.intCmp,this])
theorem Yh (hx:ev e x=some (.int k a)) (hy:ev e y=some (.int k b)):fo P (.binOp .lss t x y u) ty e (.bool (decide (a<b))):=cu hx hy (fun w=>by simp [binOp,Op.intCmp])
theorem X2 (hx:ev e x=some (.int k a)) (hy:ev e y=some (.int k b)):fo P (.binOp .leq t x y u) ty e (.bool (decide (a<=b))):=cu hx hy (fun w=>by simp [binOp,Op.intCmp])
theorem Vi (hx:ev e x=some (.int k a)) (hy:ev e y=some (.int k b)):fo P (.binOp .gtr t x y u) ty e (.bool (decide (b<a))):=cu hx hy (fun w=>by simp [binOp,Op.intCmp])
theorem Yj (hx:ev e x=some (.int k a)) (hy:ev e y=some (.int k b)):fo P (.binOp .geq t x y u) ty e (.bool (decide (b<=a))):=cu hx hy (fun w=>by simp [binOp,Op.intCmp])
end ints

/-! 64 bits -/
abbrev U (x:BitVec 64):Value:= .int .u64 (x.toNat:Int)
section bits
variable {x y:Operand} {a b:BitVec 64} {t u:TypeId} {n:Int}
theorem dA (a:BitVec 64):BitVec.ofInt 64 (a.toNat:Int)=a:=by
  apply BitVec.eq_of_toNat_eq;simp
theorem ma (a:BitVec 64):IntKind.u64.wrap (a.toNat:Int)=(a.toNat:Int):=wrap_u64 _ (by have:=a.isLt;omega)
theorem iX (hx:ev e x=some (U a)) (hy:ev e y=some (U b)):fo P (.binOp .add t x y u) ty e (U (a+b)):=cu hx hy (fun w=>by
  have:IntKind.u64.wrap ((a.toNat:Int)+b.toNat)=((a+b).toNat:Int):=by rw [kB,BitVec.ofInt_add,dA,dA]
  simp [binOp,Op.intArith,this])
theorem Ag (hx:ev e x=some (U a)) (hy:ev e y=some (U b)):fo P (.binOp .sub t x y u) ty e (U (a-b)):=cu hx hy (fun w=>by
  have:IntKind.u64.wrap ((a.toNat:Int)-b.toNat)=((a-b).toNat:Int):=by
    rw [sC,BitVec.toNat_sub];have:=a.isLt;have:=b.isLt;omega
  simp [binOp,Op.intArith,this])
theorem nM (hx:ev e x=some (U a)) (hy:ev e y=some (U b)):fo P (.binOp .mul t x y u) ty e (U (a*b)):=cu hx hy (fun w=>by
  have:IntKind.u64.wrap ((a.toNat:Int)*b.toNat)=((a*b).toNat:Int):=by rw [kB,BitVec.ofInt_mul,dA,dA]
  simp [binOp,Op.intArith,this])
theorem Ar (hx:ev e x=some (U a)) (hy:ev e y=some (U b)):fo P (.binOp .and t x y u) ty e (U (a&&& b)):=cu hx hy (fun w=>by
  show Result.ok (Value.int .u64 (IntKind.u64.wrap ((BitVec.ofInt 64 (a.toNat:Int)&&& BitVec.ofInt 64 (b.toNat:Int)).toNat:Int))) w=_
  rw [dA,dA,ma])
theorem rp (hx:ev e x=some (U a)) (hy:ev e y=some (U b)):fo P (.binOp .or t x y u) ty e (U (a|||b)):=cu hx hy (fun w=>by
  show Result.ok (Value.int .u64 (IntKind.u64.wrap ((BitVec.ofInt 64 (a.toNat:Int)|||BitVec.ofInt 64 (b.toNat:Int)).toNat:Int))) w=_
  rw [dA,dA,ma])
theorem km (hx:ev e x=some (U a)) (hy:ev e y=some (U b)):fo P (.binOp .andNot t x y u) ty e (U (a&&& ~~~b)):=cu hx hy (fun w=>by
  show Result.ok (Value.int .u64 (IntKind.u64.wrap ((BitVec.ofInt 64 (a.toNat:Int)&&& ~~~ BitVec.ofInt 64 (b.toNat:Int)).toNat:Int))) w=_
  rw [dA,dA,ma])
theorem sk (hx:ev e x=some (U a)) (hy:ev e y=some (U b)) (hb:b≠0#64):fo P (.binOp .rem t x y u) ty e (U (a % b)):=cu hx hy (fun w=>by
  have h0:¬(b.toNat:Int)=0:=fun h=>hb (BitVec.eq_of_toNat_eq (by simpa using h))
  have:(a.toNat:Int).tmod (b.toNat:Int)=((a % b).toNat:Int):=by rw [Int.tmod_eq_emod_of_nonneg (by omega),BitVec.toNat_umod];rfl
  simp only [binOp,Op.intDiv,if_neg h0,this,ne_eq,not_true_eq_false,if_false];rfl)
theorem pI (hx:ev e x=some (U a)) (hy:ev e y=some (U b)) (hb:b≠0#64):fo P (.binOp .quo t x y u) ty e (U (a / b)):=cu hx hy (fun w=>by
  have h0:¬(b.toNat:Int)=0:=fun h=>hb (BitVec.eq_of_toNat_eq (by simpa using h))
  have:(a.toNat:Int).tdiv (b.toNat:Int)=((a / b).toNat:Int):=by rw [Int.tdiv_eq_ediv_of_nonneg (by omega),BitVec.toNat_udiv];rfl
  simp only [binOp,Op.intDiv,if_neg h0,this,ma,ne_eq,not_true_eq_false,if_false];rfl)
theorem kL (hx:ev e x=some (U a)) (hy:ev e y=some (U b)):fo P (.binOp .eql t x y u) ty e (.bool (decide (a=b))):=cu hx hy (fun w=>by
  have:((a.toNat:Int)==(b.toNat:Int))=decide (a=b):=by rw [Bool.eq_iff_iff,beq_iff_eq,decide_eq_true_eq,Int.ofNat_inj,BitVec.toNat_inj]
  simp only [binOp,Op.intCmp,this,ne_eq,not_true_eq_false,if_false];rfl)
theorem mF (hx:ev e x=some (U a)) (hy:ev e y=some (U b)):fo P (.binOp .neq t x y u) ty e (.bool (decide (a≠b))):=cu hx hy (fun w=>by
  have:((a.toNat:Int) != (b.toNat:Int))=decide (a≠b):=by rw [Bool.eq_iff_iff,bne_iff_ne,decide_eq_true_eq,ne_eq,ne_eq,Int.ofNat_inj,BitVec.toNat_inj]
  simp only [binOp,Op.intCmp,this,ne_eq,not_true_eq_false,if_false];rfl)
theorem nn (hx:ev e x=some (U a)) (hy:ev e y=some (U b)):fo P (.binOp .lss t x y u) ty e (.bool (decide (a.toNat<b.toNat))):=cu hx hy (fun w=>by simp [binOp,Op.intCmp])
theorem RK (hx:ev e x=some (U a)) (hy:ev e y=some (U b)):fo P (.binOp .leq t x y u) ty e (.bool (decide (a.toNat<=b.toNat))):=cu hx hy (fun w=>by simp [binOp,Op.intCmp])
theorem pW (hx:ev e x=some (U a)) (hy:ev e y=some (U b)):fo P (.binOp .gtr t x y u) ty e (.bool (decide (b.toNat<a.toNat))):=cu hx hy (fun w=>by simp [binOp,Op.intCmp])
theorem QO (hx:ev e x=some (U a)) (hy:ev e y=some (U b)):fo P (.binOp .geq t x y u) ty e (.bool (decide (b.toNat<=a.toNat))):=cu hx hy (fun w=>by simp [binOp,Op.intCmp])
theorem Ca {op:BinOp} {a b:Int} (hx:ev e x=some (.int k a)) (hy:ev e y=some (.int k' b))
    (h:∀w,(binOp op t (.int k a) (.int k' b)).run P w= .ok v w):fo P (.binOp op t x y u) ty e v:=fun w ρ hρ _ _ _ _=>by
  simp [execOp,hρ x _ hx,hρ y _ hy,nU,h,Result.andThen]
theorem AT (hx:ev e x=some (U a)) (hy:ev e y=some (.int k' n)) (hn:0<=n):fo P (.binOp .shl t x y u) ty e (U (a<<<n.toNat)):=Ca hx hy (fun w=>by
  have h0:¬n<0:=by omega
  have:IntKind.u64.wrap ((a.toNat:Int)*2 ^ (min n.toNat 64))=((a<<<n.toNat).toNat:Int):=by
    rw [kB]
    have e1:((a.toNat:Int)*2 ^ (min n.toNat 64))=((a.toNat*2 ^ (min n.toNat 64):Nat):Int):=by push_cast;rfl
    rw [e1,BitVec.toNat_ofInt,BitVec.toNat_shiftLeft,Nat.shiftLeft_eq]
    by_cases hk:n.toNat<=64
    ·rw [Nat.min_eq_left hk];simp;omega
    · rw [Nat.min_eq_right (by omega)]
      have:2 ^ n.toNat=2 ^ 64*2 ^ (n.toNat-64):=by rw [<-Nat.pow_add];congr 1;omega
      rw [this,<-Nat.mul_assoc,Nat.mul_right_comm]
      simp only [Nat.mul_mod_left]
      simp
  simp only [binOp,Op.shift,if_neg h0,IntKind.bits,this];rfl)
theorem Ic (hx:ev e x=some (U a)) (hy:ev e y=some (.int k' n)) (hn:0<=n):fo P (.binOp .shr t x y u) ty e (U (a >>> n.toNat)):=Ca hx hy (fun w=>by
  have h0:¬n<0:=by omega
  have:(a.toNat:Int).fdiv (2 ^ (min n.toNat 64))=((a >>> n.toNat).toNat:Int):=by
    have e1:(2:Int) ^ (min n.toNat 64)=((2 ^ (min n.toNat 64):Nat):Int):=by push_cast;rfl
    rw [e1,Int.fdiv_eq_ediv_of_nonneg _ (Int.natCast_nonneg _),BitVec.toNat_ushiftRight,Nat.shiftRight_eq_div_pow]
    by_cases hk:n.toNat<=64
    ·rw [Nat.min_eq_left hk];rfl
    · rw [Nat.min_eq_right (by omega)]
      have h1:a.toNat / 2 ^ 64=0:=Nat.div_eq_of_lt a.isLt
      have h2:a.toNat / 2 ^ n.toNat=0:=Nat.div_eq_of_lt (Nat.lt_of_lt_of_le a.isLt (Nat.pow_le_pow_right (by omega) (by omega)))
      rw [<-Int.natCast_ediv,h1,h2]
  simp only [binOp,Op.shift,if_neg h0,IntKind.bits,this];rfl)
theorem Rf (hx:ev e x=some (U a)):fo P (.unOp .neg t x) ty e (U (-a)):=fun w ρ hρ _ _ _ _=>by
  have:IntKind.u64.wrap (0-(a.toNat:Int))=((-a).toNat:Int):=by
    rw [sC,BitVec.toNat_neg];have:=a.isLt;omega
  have h1:(Op.unary .neg (U a)).run P w= .ok (U (-a)) w:=by
    show Result.ok (Value.int .u64 (IntKind.u64.wrap (0-(a.toNat:Int)))) w=_
    rw [this]
  simp only [execOp,hρ x _ hx,Sem.run_bind,h1,Result.andThen,Sem.run_pure]
/-- int to uint64 and back -/
theorem oK {s:TypeId} {d:TypeId} {n:Int} (hs:P.underlying s=some (.int k)) (hd:P.underlying d=some (.int .u64)) (hx:ev e x=some (.int k n)):fo P (.convert s d x) ty e (U (BitVec.ofInt 64 n)):=fun w ρ hρ _ _ _ _=>by
  simp [execOp,hρ x _ hx,convert,run_underlying hs,run_underlying hd,Conv.intToInt,Result.andThen,kB,U]
theorem Ts {s d:TypeId} (hs:P.underlying s=some (.int k)) (hd:P.underlying d=some (.int k')) (hx:ev e x=some (.int k n)):fo P (.convert s d x) ty e (.int k' (k'.wrap n)):=fun w ρ hρ _ _ _ _=>by
  simp [execOp,hρ x _ hx,convert,run_underlying hs,run_underlying hd,Conv.intToInt,Result.andThen]
end bits

theorem IE {x:Operand} {s d:TypeId} {n:Int} (hs:P.underlying s=some (.int k)) (hd:P.underlying d=some (.int .i64)) (hx:ev e x=some (.int k n)) (h: -9223372036854775808<=n/\n<=9223372036854775807):fo P (.convert s d x) ty e (.int .i64 n):=by
  have:=Ts (P:=P) (ty:=ty) hs hd hx;rwa [wrap_i64 _ h] at this

/-! bools -/
section bools
variable {x y:Operand} {t u:TypeId}
theorem YE {b:Bool} (hx:ev e x=some (.bool b)):fo P (.unOp .not t x) ty e (.bool (!b)):=fun w ρ hρ _ _ _ _=>by
  simp [execOp,hρ x _ hx,Op.unary]
end bools

/-! built-ins, tuples, functions -/
section ah6
variable {x y:Operand} {t u:TypeId}
theorem NT {a b:Int} (hx:ev e x=some (.int k a)) (hy:ev e y=some (.int k b)):fo P (.call {callee:= .builtin .max,args:=#[x,y],argTypes:=BU}) ty e (.int k (if b > a then b else a)):=fun w ρ hρ _ _ _ _=>by
  simp [execOp,resolve,invoke,builtin,Builtin.max_,Builtin.max2,hρ x _ hx,hρ y _ hy]
theorem Wu {c:Nat} (ht:P.underlying t=some (.slice E)) (hx:ev e x=some (.slice ad n c)):fo P (.call {callee:= .builtin .len,args:=#[x],argTypes:=#[t] }) ty e (.int .i64 n):=fun w ρ hρ _ _ _ _=>by
  simp [execOp,resolve,invoke,builtin,Builtin.len_,hρ x _ hx,run_underlying ht,goInt,Result.andThen]
theorem SQ {s:ByteArray} (ht:P.underlying t=some .string) (hx:ev e x=some (.string s)):fo P (.call {callee:= .builtin .len,args:=#[x],argTypes:=#[t] }) ty e (.int .i64 s.size):=fun w ρ hρ _ _ _ _=>by
  simp [execOp,resolve,invoke,builtin,Builtin.len_,hρ x _ hx,run_underlying ht,goInt,Result.andThen]
theorem E1 {vs:Array Value} (hx:ev e x=some (.tuple vs)) (hi:vs[i]? =some v):fo P (.extract x i) ty e v:=fun w ρ hρ _ _ _ _=>by
  simp [execOp,Instr.extract,hρ x _ hx,hi]
theorem u9 {ad:Addr} (hx:ev e x=some (.pointer (some ad))):fo P (.nilCheck x) ty e (.pointer (some ad)):=fun w ρ hρ _ _ _ _=>by
  simp [execOp,hρ x _ hx]
def Jy (e:Env):List Operand->Option (List Value)
  | [] =>some []
  |x::l=>match ev e x,Jy e l with|some v,some vs=>some (v::vs)|_,_=>none
theorem tg {ρ:Operand->Value} (hρ:∀x u,ev e x=some u->ρ x=u):∀{l:List Operand} {vs:List Value},Jy e l=some vs->l.map ρ=vs
  | [],vs,h=>by simp only [Jy,Option.some.injEq] at h;subst h;rfl
  |x::l,vs,h=>by
    simp only [Jy] at h
    cases hx:ev e x with
    |none=>rw [hx] at h;cases h
    |some v=>
      cases hl:Jy e l with
      |none=>rw [hx,hl] at h;cases h
      |some us=>
        rw [hx,hl] at h
        obtain rfl:=Option.some.inj h
        simp [hρ x v hx,tg hρ hl]
theorem oF {fn:Fn} {Qe:List Operand} (h:Jy e Qe=some vs):fo P (.makeFunc fn #[] Qe.toArray) ty e (.func fn #[] vs.toArray):=fun w ρ hρ _ _ _ _=>by
  simp [execOp,Instr.makeFunc,tg hρ h]
/-- A function that has a body is entered. -/
def Al (P:Program) (f:FuncId):Prop:=∀args w,(callFunc f args).run P w= .ok (.enter f args) w
theorem dF (hf:P.funcs[f]? =some fn) (hn:(fn.name== "runtime.NumGoroutine")=false) (hb:fn.body=some c):Al P f:=fun args w=>by
  have h1:fn.name≠ "runtime.NumGoroutine" :=by simpa using hn
  simp [callFunc,hf,h1,hb,Result.andThen]
theorem vU {l:List Operand} (hE:Al P f) (h:Jy e l=some vs) (w:World):Ep P (.call {callee:= .value (.func f),args:=l.toArray,argTypes:=BU}) ty e w f vs.toArray:=fun ρ hρ _ _ _ _=>by
  simp [execOp,resolve,hρ (.func f) _ rfl,Deferred.ofValue,invoke,tg hρ h]
  exact hE _ _
/-- A call of a function value. -/
theorem tf {g:Operand} {first Qe:Array Value} {l:List Operand} (hg:ev e g=some (.func (.func f) first Qe)) (hE:Al P f) (h:Jy e l=some vs) (w:World):
    Ep P (.call {callee:= .value g,args:=l.toArray,argTypes:=BU}) ty e w f (first++vs.toArray++Qe):=fun ρ hρ _ _ _ _=>by
  simp [execOp,resolve,hρ g _ hg,Deferred.ofValue,invoke,tg hρ h]
  exact hE _ _
end ah6
end

section
variable {P:Program} {r:Option Nat} {ops:Array Oper}

/-- Only the plain end counts. -/
def Qn (Q:Exit->Act->World->Prop):Exit->Act->World->Prop
  | .normal,a,w=>Q .normal a w
  |_,_,_=>False

/-- In the state a the operation yields v in each world of the class, and leaves it as it is; or it isn't carried out. -/
def YA (P:Program) (ops:Array Oper) (D:World->Prop) (o:Oper) (v:Value) (a:Act):Prop:=
  (Region.wanted o (yielded ops a.tmps)=true/\nd o.op=true/\∀w,D w->(execOp a.eval o).run P w= .ok (.value v) w)\/
  (Region.wanted o (yielded ops a.tmps)=false/\v=undef)

theorem YA.wpOp {D:World->Prop} {o:Oper} {Q:Exit->Act->World->Prop}
    (hi:ops[i]? =some o) (hy:YA P ops D o v a) (hw:D w) (h:K (a.put o.dst v) w):wpOpIn (Wd r) 0 P ops Q i K a w:=by
  unfold wpOpIn
  simp only [hi]
  rcases hy with ⟨h1,h2,h3⟩|⟨h1,rfl⟩
  ·rw [if_pos h1];exact FB h2 (h3 w hw) h
  ·rw [if_neg (by rw [h1];simp)];exact⟨fun _ _=>trivial,h⟩

theorem YA.put {D:World->Prop} {oi oj:Oper} {v u:Value} {a:Act} (L1:∀cs b,oi.op≠ .select cs b) (A6:oi.apart ops oj=true) (hy:YA P ops D oi v a):YA P ops D oi v (a.put oj.dst u):=by
  obtain ⟨_,_,h3⟩:=Oper.apart_spec A6
  unfold YA at*
  rw [wanted_put oi a oj.dst u h3,execOp_put oi L1 a oj.dst u h3]
  exact hy

/-- Operation j, carried out ahead of i: as behind it. -/
theorem Jg {D:World->Prop} {oi oj:Oper} {Q:Exit->Act->World->Prop}
    (hj:ops[j]? =some oj) (A6:oi.apart ops oj=true) (L1:∀cs b,oi.op≠ .select cs b) (hsj:∀cs b,oj.op≠ .select cs b) (hdj:nd oj.op=true)
    (hy:YA P ops D oi v a) (h:wpOpIn (Wd r) 0 P ops (Qn Q) j K (a.put oi.dst v) w):
    wpOpIn (Wd r) 0 P ops (Qn Q) j (fun a' w'=>YA P ops D oi v a'/\K (a'.put oi.dst v) w') a w:=by
  obtain ⟨h1,h2,_⟩:=Oper.apart_spec A6
  unfold wpOpIn at*
  simp only [hj] at*
  rw [wanted_put oj a oi.dst v h1] at h
  by_cases hw:Region.wanted oj (yielded ops a.tmps)=true
  · rw [if_pos hw] at h ⊢
    refine ⟨fun _ _=>trivial,?_⟩
    have h:=h.2
    rw [kh hdj,execOp_put oj hsj a oi.dst v h1] at h
    rw [kh hdj]
    generalize (execOp a.eval oj).run P w=res at*
    cases res with
    |ok x w'=>
      cases x<;>simp only [Oper.uponIn] at h ⊢
      case value u=>exact⟨hy.put L1 A6,by rw [<-Act.put_comm a v u h2];exact h⟩
      case skip=>exact⟨hy.put L1 A6,by rw [<-Act.put_comm a v undef h2];exact h⟩
      case defer d=>
        refine ⟨?_,?_⟩
        · have h4:YA P ops D oi v {a with defers:=d::a.defers} :=hy
          exact h4.put L1 A6
        ·rw [<-Act.put_comm _ v undef h2,<-Act.put_defers];exact h
      case enter f args=>
        refine ⟨h.1,CallsIn.mono h.2 fun en w'' he=>?_⟩
        cases en with
        |returned u=>exact⟨hy.put L1 A6,by rw [<-Act.put_comm a v u h2];exact he⟩
        |panicked c=>exact he
        |outgrown=>exact he
      case row row args=>exact⟨h.1,RowsIn.mono h.2 fun u w'' he=>⟨hy.put L1 A6,by rw [<-Act.put_comm a v u h2];exact he⟩⟩
      case round l f tmps assign body=>
        refine ⟨h.1,RoundIn.mono h.2 fun en w'' he=>?_⟩
        cases en with
        |returned u=>exact⟨hy.put L1 A6,by rw [<-Act.put_comm a v u h2];exact he⟩
        |panicked c=>exact he
        |outgrown=>exact he
    |halt x w'=>cases x<;>simp only [Oper.uponIn] at h ⊢ <;>exact h
  · rw [if_neg hw] at h ⊢
    exact⟨fun _ _=>trivial,hy.put L1 A6,by rw [<-Act.put_comm a v undef h2];exact h.2⟩

/-- The walk of all orders; as long as no operation of the tail has been carried out the world is of the class. -/
def WS (P:Program) (r:Option Nat) (ops:Array Oper) (Q:Exit->Act->World->Prop) (C:World->Prop) (tl:Nat->Bool):Nat->Array Bool->Act->World->Prop
  |0,listed,a,w=>((∀i,tl i=true->listed.getD i false=false)->C w)/\Region.ready .any ops listed=[]/\Q .normal a w
  |n+1,listed,a,w=>((∀i,tl i=true->listed.getD i false=false)->C w)/\(Region.ready .any ops listed=[]->Q .normal a w)/\
    ∀i∈Region.ready .any ops listed,wpOpIn (Wd r) 0 P ops (Qn Q) i (WS P r ops Q C tl n (listed.setIfInBounds i true)) a w

theorem WS.cls {Q:Exit->Act->World->Prop} {C:World->Prop} {tl:Nat->Bool} (h:WS P r ops Q C tl n listed a w) (ht:∀i,tl i=true->listed.getD i false=false):C w:=by
  cases n with
  |zero=>exact h.1 ht
  |succ n=>exact h.1 ht

theorem WS.any {Q:Exit->Act->World->Prop} {C:World->Prop} {tl:Nat->Bool} :∀(n:Nat) (listed:Array Bool) (a:Act) (w:World),WS P r ops Q C tl n listed a w->wpAnyIn (Wd r) 0 P .any ops (Qn Q) n listed a w
  |0,_,_,_,h=>⟨h.2.1,h.2.2⟩
  |n+1,_,_,_,h=>⟨h.2.1,fun i hi=>wpOpIn_mono (fun a w=>WS.any n _ a w) (h.2.2 i hi)⟩

theorem cP (h:i≠j) (hi:listed.getD i false=false):(listed.setIfInBounds j true).getD i false=false:=by
  rw [getD_set_ne false (Ne.symm h)];exact hi

/-- Behind another one, by edges that bind. -/
def qK (ops:Array Oper):Nat->Nat->Nat->Bool
  |0,_,_=>false
  |n+1,j,i=>match ops[j]? with|some o=>o.after.any (fun ed=>Region.binds .any ed&&(ed.on==i||qK ops n ed.on i))|none=>false
def jv (ops:Array Oper) (listed:Array Bool):Prop:=∀(q:Nat) (o:Oper),listed.getD q false=true->ops[q]? =some o->∀ed∈o.after,Region.binds .any ed=true->listed.getD ed.on false=true
theorem jv.dep {listed:Array Bool} (h:jv ops listed):∀(n j i:Nat),listed.getD j false=true->qK ops n j i=true->listed.getD i false=true
  |0,_,_,_,hd=>by simp [qK] at hd
  |n+1,j,i,hj,hd=>by
    simp only [qK] at hd
    cases ho:ops[j]? with
    |none=>rw [ho] at hd;cases hd
    |some o=>
      rw [ho] at hd
      obtain ⟨ed,he,hb⟩:=Array.any_eq_true'.1 hd
      simp only [Bool.and_eq_true,Bool.or_eq_true,beq_iff_eq] at hb
      have h1:=h j o hj ho ed he hb.1
      rcases hb.2 with h2|h2
      ·rw [<-h2];exact h1
      ·exact jv.dep h n ed.on i h1 h2
theorem jv.ready {listed:Array Bool} (h:jv ops listed) {n j i:Nat} (hj:j∈Region.ready .any ops listed) (hd:qK ops n j i=true):listed.getD i false=true:=by
  obtain ⟨_,o,ho,rJ⟩:=mem_ready.1 hj
  cases n with
  |zero=>simp [qK] at hd
  |succ n=>
    simp only [qK,ho] at hd
    obtain ⟨ed,he,hb⟩:=Array.any_eq_true'.1 hd
    simp only [Bool.and_eq_true,Bool.or_eq_true,beq_iff_eq] at hb
    have h1:=rJ ed he hb.1
    rcases hb.2 with h2|h2
    ·rw [<-h2];exact h1
    ·exact h.dep n ed.on i h1 h2
theorem jv.set (h:jv ops listed) (hj:j∈Region.ready .any ops listed):jv ops (listed.setIfInBounds j true):=fun q o hq ho ed he hb=>by
  by_cases e:j=q
  · subst e
    obtain ⟨_,o',ho',rJ⟩:=mem_ready.1 hj
    rw [ho] at ho';cases ho'
    exact getD_set_true (rJ ed he hb)
  · rw [getD_set_ne false e] at hq
    exact getD_set_true (h q o hq ho ed he hb)
/-- An operation that yields v whenever it is carried out may be taken first. -/
theorem WS.first {Q:Exit->Act->World->Prop} {C D:World->Prop} {tl:Nat->Bool} {oi:Oper} (hi:ops[i]? =some oi) (K1:tl i=false)
    (mS:∀(j:Nat) (o:Oper) cs b,ops[j]? =some o->o.op≠ .select cs b) (dX:∀(j:Nat) (o:Oper),ops[j]? =some o->nd o.op=true)
    (hD:(∀w,D w)\/((∀w,C w->D w)/\∀(j:Nat) (o:Oper),ops[j]? =some o->tl j=true->(∃ed∈o.after,Region.binds .any ed=true/\tl ed.on=true)\/qK ops 40 j i=true)):
    ∀(n:Nat) (listed:Array Bool) (a:Act) (w:World),jv ops listed->C w->(∀i,tl i=true->listed.getD i false=false)->
      (∀j oj,ops[j]? =some oj->j≠i->listed.getD j true=false->(∀ed∈oj.after,Region.binds .any ed=true->ed.on≠i)->oi.apart ops oj=true)->
      i∈Region.ready .any ops listed->YA P ops D oi v a->
      WS P r ops Q C tl n (listed.setIfInBounds i true) (a.put oi.dst v) w->WS P r ops Q C tl (n+1) listed a w:=by
  have EG:∀w,C w->D w:=fun w hw=>hD.elim (fun h=>h w) (fun h=>h.1 w hw)
  -- the pure case afi of ai9 behind the tail, too: one induction on a afP premise
  have key:∀(n:Nat) (listed:Array Bool) (a:Act) (w:World),jv ops listed->((∀i,tl i=true->listed.getD i false=false)->C w)->D w->
      ((∀w,D w)\/∀i,tl i=true->listed.getD i false=false)->
      (∀j oj,ops[j]? =some oj->j≠i->listed.getD j true=false->(∀ed∈oj.after,Region.binds .any ed=true->ed.on≠i)->oi.apart ops oj=true)->
      i∈Region.ready .any ops listed->YA P ops D oi v a->
      WS P r ops Q C tl n (listed.setIfInBounds i true) (a.put oi.dst v) w->WS P r ops Q C tl (n+1) listed a w:=by
    intro n
    induction n with
    |zero=>
      intro listed a w iT hC hDw _ _ hr hy H
      refine ⟨hC,fun h=>(by rw [h] at hr;cases hr),fun j hj=>?_⟩
      by_cases K6:j=i
      ·subst K6;exact hy.wpOp hi hDw H
      · have:=ready_mono hj K6
        rw [H.2.1] at this
        cases this
    |succ n ih=>
      intro listed a w iT hC hDw rB Iu hr hy H
      refine ⟨hC,fun h=>(by rw [h] at hr;cases hr),fun j hj=>?_⟩
      by_cases K6:j=i
      ·subst K6;exact hy.wpOp hi hDw H
      · have h1:=H.2.2 j (ready_mono hj K6)
        obtain ⟨adL,oj,hoj,rJ⟩:=mem_ready.1 hj
        have ahg:∀ed∈oj.after,Region.binds .any ed=true->ed.on≠i:=fun ed he hb heq=>by
          have h1:=rJ ed he hb
          have h0:=(mem_ready.1 hr).1
          rw [heq] at h1
          rcases Nat.lt_or_ge i listed.size with h'|h'
          ·simp [h'] at h0 h1;rw [h0] at h1;cases h1
          ·simp [Array.getElem?_eq_none h'] at h1
        have h2:=Jg hoj (Iu j oj hoj K6 adL ahg) (fun cs b=>mS i oi cs b hi) (fun cs b=>mS j oj cs b hoj) (dX j oj hoj) hy h1
        have Vj:∀k ok,ops[k]? =some ok->k≠i->(listed.setIfInBounds j true).getD k true=false->
            (∀ed∈ok.after,Region.binds .any ed=true->ed.on≠i)->oi.apart ops ok=true:=fun k ok hk hki R6 gK=>by
          refine Iu k ok hk hki ?_ gK
          by_cases hjk:j=k
          ·subst hjk;exact adL
          ·rw [getD_set_ne true hjk] at R6;exact R6
        refine wpOpIn_mono (fun a' w' h3=>?_) h2
        have h4:WS P r ops Q C tl n ((listed.setIfInBounds j true).setIfInBounds i true) (a'.put oi.dst v) w':=by
          rw [Array.setIfInBounds_comm _ _ K6];exact h3.2
        have Dj:∀q,tl q=true->(listed.setIfInBounds j true).getD q false=false->((listed.setIfInBounds j true).setIfInBounds i true).getD q false=false:=fun q hq hu=>
          cP (fun e=>by subst e;rw [K1] at hq;cases hq) hu
        have BT:(∀q,tl q=true->(listed.setIfInBounds j true).getD q false=false)->C w':=fun ht=>h4.cls (fun q hq=>Dj q hq (ht q hq))
        have ac1:(∀w,D w)\/∀q,tl q=true->(listed.setIfInBounds j true).getD q false=false:=by
          rcases hD with hD|⟨_,hD⟩
          ·exact .inl hD
          · rcases rB with rB|rB
            ·exact .inl rB
            · refine .inr fun q hq=>?_
              by_cases hqj:q=j
              · subst hqj
                rcases hD q oj hoj hq with ⟨ed,hed,hb,hon⟩|V8
                · have h1:=rJ ed hed hb
                  have h0:=rB ed.on hon
                  rw [h1] at h0;cases h0
                · have h1:=iT.ready hj V8
                  have h0:=(mem_ready.1 hr).1
                  rcases Nat.lt_or_ge i listed.size with h'|h'
                  ·simp [h'] at h0 h1;rw [h0] at h1;cases h1
                  ·simp [Array.getElem?_eq_none h'] at h1
              ·exact cP hqj (rB q hq)
        refine ih (listed.setIfInBounds j true) a' w' (iT.set hj) BT ?_ ac1 Vj (ready_mono hr (Ne.symm K6)) h3.1 h4
        rcases ac1 with h|h
        ·exact h w'
        ·exact EG w' (BT h)
  intro n listed a w iT hC ht Iu hr hy H
  exact key n listed a w iT (fun _=>hC) (EG w hC) (.inr ht) Iu hr hy H

/-- The walk in one order. Each number with a kind: 0 it yields its value in whatever world; 1 in each world of the class; 2 it stands alone, and keeps the class; else: it and all behind it stand alone. -/
def yT (P:Program) (r:Option Nat) (ops:Array Oper) (Q:Exit->Act->World->Prop):(World->Prop)->List (Nat×Nat)->Act->Prop
  |C,[],a=>∀w,C w->Q .normal a w
  |C,(i,k)::l,a=>
    match ops[i]? with
    |none=>False
    |some o=>
      match k with
      |0=>∃v,YA P ops (fun _=>True) o v a/\yT P r ops Q C l (a.put o.dst v)
      |1=>∃v,YA P ops C o v a/\yT P r ops Q C l (a.put o.dst v)
      |2=>∀w,C w->wpOpIn (Wd r) 0 P ops (Qn Q) i (fun a' w'=>∃C':World->Prop,(∀w,C' w->C w)/\C' w'/\yT P r ops Q C' l a') a w
      |_=>∀w,C w->wpListIn (Wd r) 0 P ops (Qn Q) (((i,k)::l).filterMap fun p=>ops[p.1]?) a w

theorem WS.weaken {Q:Exit->Act->World->Prop} {C C':World->Prop} {tl:Nat->Bool} (h:∀w,C' w->C w):∀(n:Nat) (listed:Array Bool) (a:Act) (w:World),WS P r ops Q C' tl n listed a w->WS P r ops Q C tl n listed a w
  |0,_,_,_,k=>⟨fun ht=>h _ (k.1 ht),k.2⟩
  |n+1,_,_,_,k=>⟨fun ht=>h _ (k.1 ht),k.2.1,fun i hi=>wpOpIn_mono (fun a w=>WS.weaken h n _ a w) (k.2.2 i hi)⟩

/-- Does an operation stand behind another one by an edge of its own? -/
def H7 (ops:Array Oper) (j i:Nat):Bool:=match ops[j]? with|some o=>o.after.any (fun ed=>Region.binds .any ed&&ed.on==i)|none=>false

def tK (ord:List (Nat×Nat)) (i:Nat):Bool:=ord.any fun p=>p.1==i&&decide (3<=p.2)

/-- One order is the only one, but for what may be carried out early or late. -/
def pd (ops:Array Oper) (full:List (Nat×Nat)):List (Nat×Nat)->Array Bool->Bool
  | [],listed=>Region.ready .any ops listed== []
  |(i,k)::l,listed=>
    (match k with
      |0=>Region.free .any ops listed i&&(Region.ready .any ops listed).contains i
      |1=>Region.free .any ops listed i&&(Region.ready .any ops listed).contains i&&full.all (fun p=>decide (p.2<3)||qK ops 40 p.1 i||full.any (fun q=>decide (3<=q.2)&&H7 ops p.1 q.1))
      |2=>Region.ready .any ops listed== [i]
      |_=>Region.ready .any ops listed== [i] &&l.all (fun p=>decide (3<=p.2)))&&
    pd ops full l (listed.setIfInBounds i true)

def vM (ops:Array Oper):Bool:=ops.all fun o=>nd o.op

theorem HK {Q:Exit->Act->World->Prop} {C:World->Prop} {tl:Nat->Bool} {full:List (Nat×Nat)} :∀(l:List (Nat×Nat)) (listed:Array Bool) (a:Act) (w:World),l.all (fun p=>decide (3<=p.2))=true->pd ops full l listed=true->
    (∀p∈l,ops[p.1]?.isSome=true)->(∃i,tl i=true/\listed.getD i false=true)->wpListIn (Wd r) 0 P ops (Qn Q) (l.filterMap fun p=>ops[p.1]?) a w->WS P r ops Q C tl l.length listed a w
  | [],listed,a,w,_,hc,_,⟨i,h1,h2⟩,h=>by
    simp only [pd,beq_iff_eq] at hc
    exact⟨fun ht=>absurd (ht i h1) (by rw [h2];simp),hc,h⟩
  |(i,k)::l,listed,a,w,hk,hc,hs,⟨q,h1,h2⟩,h=>by
    simp only [List.all_cons,Bool.and_eq_true,decide_eq_true_eq] at hk
    obtain ⟨m,rfl⟩:∃m,k=m+3:=⟨k-3,by omega⟩
    simp only [pd,Bool.and_eq_true,beq_iff_eq] at hc
    obtain ⟨⟨hr,_⟩,hc⟩:=hc
    obtain ⟨o,ho⟩:=Option.isSome_iff_exists.1 (hs (i,m+3) (List.mem_cons_self ..))
    simp only at ho
    refine ⟨fun ht=>absurd (ht q h1) (by rw [h2];simp),fun h0=>(by rw [hr] at h0;cases h0),fun j hj=>?_⟩
    rw [hr] at hj
    obtain rfl:j=i:=by simpa using hj
    have h3:wpListIn (Wd r) 0 P ops (Qn Q) (o::l.filterMap fun p=>ops[p.1]?) a w:=by simpa [List.filterMap_cons,ho] using h
    have DR:∀a w,wpListIn (Wd r) 0 P ops (Qn Q) (l.filterMap fun p=>ops[p.1]?) a w->WS P r ops Q C tl l.length (listed.setIfInBounds j true) a w:=fun a w h=>
      HK l _ a w hk.2 hc (fun p hp=>hs p (List.mem_cons_of_mem _ hp)) ⟨q,h1,getD_set_true h2⟩ h
    unfold wpOpIn
    rw [ho]
    unfold wpListIn at h3
    simp only
    split
    ·rename_i hw;rw [if_pos hw] at h3;exact Oper.wpIn_mono DR h3
    ·rename_i hw;rw [if_neg hw] at h3;exact⟨fun _ _=>trivial,DR _ _ h3.2⟩

theorem qd {Q:Exit->Act->World->Prop} {C:World->Prop} {full:List (Nat×Nat)} (mS:Region.noSelect ops=true) (dX:vM ops=true):
    ∀(l:List (Nat×Nat)) (listed:Array Bool) (a:Act) (w:World),(∀p∈l,p∈full)->(∀p q,p∈full->q∈full->p.1=q.1->p=q)->(∀i,tK full i=true->listed.getD i false=false)->(∀p∈l,p.1<listed.size)->pd ops full l listed=true->jv ops listed->C w->yT P r ops Q C l a->WS P r ops Q C (tK full) l.length listed a w
  | [],listed,a,w,_,_,_,_,hc,_,hC,h=>by
    simp only [pd,beq_iff_eq] at hc
    exact⟨fun _=>hC,hc,h w hC⟩
  |(i,k)::l,listed,a,w,iG,Hz,R6,bo,hc,iT,hC,h=>by
    simp only [yT] at h
    cases ho:ops[i]? with
    |none=>rw [ho] at h;exact h.elim
    |some o=>
      rw [ho] at h
      simp only at h
      have MC:∀(j:Nat) (o:Oper),ops[j]? =some o->nd o.op=true:=fun j o hj=>(Array.all_eq_true_iff_forall_mem.1 dX) o (Array.mem_of_getElem? hj)
      have K1:k<3->tK full i=false:=fun hk=>by
        rw [Bool.eq_false_iff]
        intro ht
        obtain ⟨p,hp,zv⟩:=List.any_eq_true.1 ht
        simp only [Bool.and_eq_true,beq_iff_eq,decide_eq_true_eq] at zv
        have:=Hz p (i,k) hp (iG _ (List.mem_cons_self ..)) zv.1
        subst this
        simp only at zv
        omega
      have Xo:k<3->∀q,tK full q=true->(listed.setIfInBounds i true).getD q false=false:=fun hk q hq=>
        cP (fun e=>by subst e;rw [K1 hk] at hq;cases hq) (R6 q hq)
      have O8:∀p∈l,p∈full:=fun p hp=>iG p (List.mem_cons_of_mem _ hp)
      have VI:∀p∈l,p.1<(listed.setIfInBounds i true).size:=fun p hp=>by rw [Array.size_setIfInBounds];exact bo p (List.mem_cons_of_mem _ hp)
      match k,h,hc with
      |0,⟨v,hy,hl⟩,hc=>
        simp only [pd,Bool.and_eq_true] at hc
        obtain ⟨⟨hf,hr⟩,hc⟩:=hc
        exact WS.first ho (K1 (by omega)) (Region.noSelect_spec mS) MC (D:=fun _=>True) (.inl fun _=>trivial) l.length listed a w iT hC R6 (Region.free_spec ho hf) (by simpa using hr) hy
          (qd mS dX l _ _ w O8 Hz (Xo (by omega)) VI hc (iT.set (by simpa using hr)) hC hl)
      |1,⟨v,hy,hl⟩,hc=>
        simp only [pd,Bool.and_eq_true] at hc
        obtain ⟨⟨⟨hf,hr⟩,ht⟩,hc⟩:=hc
        refine WS.first ho (K1 (by omega)) (Region.noSelect_spec mS) MC (D:=C) (.inr ⟨fun _ h=>h,fun j oj hj htj=>?_⟩) l.length listed a w iT hC R6 (Region.free_spec ho hf) (by simpa using hr) hy
          (qd mS dX l _ _ w O8 Hz (Xo (by omega)) VI hc (iT.set (by simpa using hr)) hC hl)
        obtain ⟨p,hp,zv⟩:=List.any_eq_true.1 htj
        simp only [Bool.and_eq_true,beq_iff_eq,decide_eq_true_eq] at zv
        have h5:=List.all_eq_true.1 ht p hp
        simp only [Bool.or_eq_true,decide_eq_true_eq] at h5
        rcases h5 with (h5|h5)|h5
        ·omega
        ·rw [zv.1] at h5;exact .inr h5
        · obtain ⟨q,hq,jY⟩:=List.any_eq_true.1 h5
          simp only [Bool.and_eq_true,decide_eq_true_eq] at jY
          obtain ⟨DA,h5⟩:=jY
          simp only [H7,zv.1,hj] at h5
          obtain ⟨ed,he,hb⟩:=Array.any_eq_true'.1 h5
          simp only [Bool.and_eq_true,beq_iff_eq] at hb
          exact .inl ⟨ed,he,hb.1,List.any_eq_true.2 ⟨q,hq,by simp only [Bool.and_eq_true,beq_iff_eq,decide_eq_true_eq];exact⟨hb.2.symm,DA⟩⟩⟩
      |2,h,hc=>
        simp only [pd,Bool.and_eq_true,beq_iff_eq] at hc
        obtain ⟨hr,hc⟩:=hc
        refine ⟨fun _=>hC,fun h0=>(by rw [hr] at h0;cases h0),fun j hj=>?_⟩
        rw [hr] at hj
        obtain rfl:j=i:=by simpa using hj
        exact wpOpIn_mono (fun a' w' ⟨C',lF,BT,hl⟩=>WS.weaken lF _ _ _ _ (qd mS dX l _ a' w' O8 Hz (Xo (by omega)) VI hc (iT.set (by rw [hr];simp)) BT hl)) (h w hC)
      |k+3,h,hc=>
        have ED:=hc
        simp only [pd,Bool.and_eq_true,beq_iff_eq] at hc
        obtain ⟨⟨hr,rJ⟩,hc⟩:=hc
        have hkt:tK full i=true:=List.any_eq_true.2 ⟨(i,k+3),iG _ (List.mem_cons_self ..),by simp⟩
        have hs:∀p∈l,ops[p.1]?.isSome=true:=by
          have:∀(l:List (Nat×Nat)) (listed:Array Bool),pd ops full l listed=true->∀p∈l,ops[p.1]?.isSome=true:=by
            intro l
            induction l with
            |nil=>intro _ _ p hp;cases hp
            |cons q l ih=>
              intro listed hc p hp
              obtain ⟨i,k⟩:=q
              rcases List.mem_cons.1 hp with rfl|hp
              · have VZ:i∈Region.ready .any ops listed:=by
                  match k,hc with
                  |0,hc=>simp only [pd,Bool.and_eq_true] at hc;simpa using hc.1.2
                  |1,hc=>simp only [pd,Bool.and_eq_true] at hc;simpa using hc.1.1.2
                  |2,hc=>simp only [pd,Bool.and_eq_true,beq_iff_eq] at hc;rw [hc.1];simp
                  |k+3,hc=>simp only [pd,Bool.and_eq_true,beq_iff_eq] at hc;rw [hc.1.1];simp
                obtain ⟨_,o,ho,_⟩:=mem_ready.1 VZ
                simp [ho]
              · simp only [pd,Bool.and_eq_true] at hc
                exact ih _ hc.2 p hp
          exact this l _ hc
        refine ⟨fun _=>hC,fun h0=>(by rw [hr] at h0;cases h0),fun j hj=>?_⟩
        rw [hr] at hj
        obtain rfl:j=i:=by simpa using hj
        have h3:=h w hC
        have h3:wpListIn (Wd r) 0 P ops (Qn Q) (o::l.filterMap fun p=>ops[p.1]?) a w:=by simpa [List.filterMap_cons,ho] using h3
        have hlj:j<listed.size:=bo (j,k+3) (List.mem_cons_self ..)
        have DR:∀a w,wpListIn (Wd r) 0 P ops (Qn Q) (l.filterMap fun p=>ops[p.1]?) a w->WS P r ops Q C (tK full) l.length (listed.setIfInBounds j true) a w:=fun a w h=>
          HK l _ a w rJ hc hs ⟨j,hkt,by simp [hlj]⟩ h
        unfold wpOpIn
        rw [ho]
        unfold wpListIn at h3
        simp only
        split
        ·rename_i hw;rw [if_pos hw] at h3;exact Oper.wpIn_mono DR h3
        ·rename_i hw;rw [if_neg hw] at h3;exact⟨fun _ _=>trivial,DR _ _ h3.2⟩
end

/-- All that is asked of the order at once. -/
def NV (ops:Array Oper) (ord:List (Nat×Nat)):Bool:=
  Region.noSelect ops&&vM ops&&(ord.length==ops.size)&&decide (ord.map (·.1)).Nodup&&ord.all (fun p=>decide (p.1<ops.size))&&pd ops ord ord (Array.replicate ops.size false)

section
variable {P:Program} {r:Option Nat} {N:Nat} {Q:Exit->Act->World->Prop} {e:Env} {ds:List Nat} {M:ab} {S:Nat->Prop} {w0:World} {G:World->Prop}

def Ir (M:ab) (S:Nat->Prop) (w0:World) (G:World->Prop) (w:World):Prop:=Mem w M/\cG S w0 w/\G w

def LD (P:Program) (r:Option Nat) (N:Nat) (ops:Array Oper) (Q:Exit->Act->World->Prop) (ord:List (Nat×Nat)) (e:Env) (ds:List Nat) (M:ab) (S:Nat->Prop) (w0:World) (G:World->Prop):Prop:=
  ∀a,Fr N e a->Dm ds a->yT P r ops Q (Ir M S w0 G) ord a

theorem af.draw [GS G] {ops:Array Oper} (ord:List (Nat×Nat)) (hm:P.follows .mixedOrders=true) (hc:NV ops ord=true) (h:LD P r N ops Q ord e ds M S w0 G):af P r N (.region id ops true) Q e ds M S w0 G:=fun w hw jy hg a hf hd=>by
  simp only [NV,Bool.and_eq_true,beq_iff_eq,decide_eq_true_eq] at hc
  obtain ⟨⟨⟨⟨⟨h1,h2⟩,h3⟩,h4⟩,h5⟩,h6⟩:=hc
  refine wpIn_mono (wpIn_region_any (Q:=Qn Q) hm ?_) (fun x a w hq=>?_)
  · rw [<-h3]
    refine WS.any _ _ a _ (qd (full:=ord) h1 h2 ord _ a _ (fun _ h=>h) ?_ ?_ ?_ (h3▸h6) (fun q o hq _=>by rw [Array.getD_eq_getD_getElem?,Array.getElem?_replicate] at hq;split at hq<;>cases hq) ⟨?_,?_,?_⟩ (h a hf hd))
    · intro p q hp hq hpq
      obtain ⟨i,hi⟩:=List.getElem?_of_mem hp
      obtain ⟨j,hj⟩:=List.getElem?_of_mem hq
      have e1:(ord.map (·.1))[i]? =some p.1:=by simp [hi]
      have e2:(ord.map (·.1))[j]? =some p.1:=by simp [hj,hpq]
      have:=Mem.set.List.nodup_iff_injective_get? h4 e1 e2
      subst this
      rw [hi] at hj
      exact Option.some.inj hj
    · intro i _
      rw [Array.getD_eq_getD_getElem?,Array.getElem?_replicate];split<;>rfl
    · intro p hp
      have:=List.all_eq_true.1 h5 p hp
      simp only [decide_eq_true_eq] at this
      simp;omega
    ·exact hw.ext (cG.drew no w)
    ·exact jy.trans (cG.drew S w)
    ·exact GS.ext w _ hg (cG.drew no w)
  ·cases x<;>first|exact hq|exact hq.elim

section
variable {ops:Array Oper} {l:List (Nat×Nat)} {op:Op} {ty:TypeId} {pos:String} {after:Array Edge} {d:Nat} {v:Value} {i:Nat}
theorem LD.nil (h:QM N Q .normal e ds M S w0 G):LD P r N ops Q [] e ds M S w0 G:=fun a hf hd w hw=>h w hw.1 hw.2.1 hw.2.2 a hf hd
/-- Is it carried out? -/
def vI (ops:Array Oper) (e:Env) (g:Option (Nat×Bool)) (b:Bool):Prop:=
  match g with
  |none=>b=true
  |some (j,c)=>∃t u,(ops[j]?).bind (·.dst)=some t/\look e t=some (.bool u)/\(u==c)=b
theorem vI.wanted {o:Oper} {a:Act} {b:Bool} (h:vI ops e o.guard b) (hf:Fr N e a):Region.wanted o (yielded ops a.tmps)=b:=by
  cases ho:o.guard with
  |none=>rw [ho] at h;simp only [vI] at h;simp [Region.wanted,ho,h]
  |some p=>
    obtain ⟨j,c⟩:=p
    rw [ho] at h
    obtain ⟨t,u,h1,h2,h3⟩:=h
    simp only [Region.wanted,ho,yielded,h1,Option.bind_some,hf.2 t _ h2]
    rw [<-h3];cases u<;>cases c<;>rfl
theorem LD.val (hi:ops[i]? =some ⟨some d,op,ty,pos,after,g⟩) (hg:vI ops e g true) (hv:fo P op ty e v) (h:LD P r N ops Q l ((d,v)::e) ds M S w0 G) (dX:nd op=true:=by rfl) (hd:Nat.blt d N=true:=by rfl):
    LD P r N ops Q ((i,0)::l) e ds M S w0 G:=fun a hf fk=>by
  simp only [yT,hi]
  exact⟨v,.inl ⟨hg.wanted hf,dX,fun w _=>hv w a.eval (fun x u hx=>hf.eval hx) _ _ _ _⟩,h _ (hf.put hd v) fk⟩
theorem LD.rd (hi:ops[i]? =some ⟨some d,op,ty,pos,after,g⟩) (hg:vI ops e g true) (hv:∀w,Mem w M->tn P op ty e w v w) (h:LD P r N ops Q l ((d,v)::e) ds M S w0 G) (dX:nd op=true:=by rfl) (hd:Nat.blt d N=true:=by rfl):
    LD P r N ops Q ((i,1)::l) e ds M S w0 G:=fun a hf fk=>by
  simp only [yT,hi]
  exact⟨v,.inl ⟨hg.wanted hf,dX,fun w hw=>hv w hw.1 a.eval (fun x u hx=>hf.eval hx) _ _ _ _⟩,h _ (hf.put hd v) fk⟩
theorem LD.dV (hi:ops[i]? =some ⟨some d,op,ty,pos,after,g⟩) (hg:vI ops e g true) (hv:∀w,Mem w M->cG S w0 w->G w->tn P op ty e w v w) (h:LD P r N ops Q l ((d,v)::e) ds M S w0 G) (dX:nd op=true:=by rfl) (hd:Nat.blt d N=true:=by rfl):
    LD P r N ops Q ((i,1)::l) e ds M S w0 G:=fun a hf fk=>by
  simp only [yT,hi]
  exact⟨v,.inl ⟨hg.wanted hf,dX,fun w hw=>hv w hw.1 hw.2.1 hw.2.2 a.eval (fun x u hx=>hf.eval hx) _ _ _ _⟩,h _ (hf.put hd v) fk⟩
/-- What isn't carried out. -/
theorem LD.drop {k:Nat} (hk:Nat.blt k 3=true) (hi:ops[i]? =some ⟨some d,op,ty,pos,after,g⟩) (hg:vI ops e g false) (h:LD P r N ops Q l e ds M S w0 G) (hd:Nat.blt d N=true:=by rfl) (yl:look e d=none:=by rfl):
    LD P r N ops Q ((i,k)::l) e ds M S w0 G:=fun a hf fk=>by
  have hf':Fr N e (a.put (some d) undef):=⟨by simp [Act.put];exact hf.1,fun t u hu=>by
    have h1:=(hf.put hd undef).2 t u
    rw [er] at h1
    by_cases K5:d=t
    ·subst K5;rw [yl] at hu;cases hu
    ·rw [if_neg K5] at h1;exact h1 hu⟩
  have hl:=h _ hf' fk
  have hw:=hg.wanted (o:=⟨some d,op,ty,pos,after,g⟩) hf
  match k,hk with
  |0,_=>simp only [yT,hi];exact⟨undef,.inr ⟨hw,rfl⟩,hl⟩
  |1,_=>simp only [yT,hi];exact⟨undef,.inr ⟨hw,rfl⟩,hl⟩
  |2,_=>
    simp only [yT,hi]
    intro w hC
    unfold wpOpIn
    rw [hi]
    simp only
    rw [if_neg (by rw [hw];simp)]
    exact⟨fun _ _=>trivial,Ir M S w0 G,fun _ h=>h,hC,hl⟩
theorem LD.aw [Decidable p] (ht:look e t=some (.bool (decide p))) (h1:p->LD P r N ops Q l ((t,.bool true)::e) ds M S w0 G) (h2:¬p->LD P r N ops Q l ((t,.bool false)::e) ds M S w0 G):
    LD P r N ops Q l e ds M S w0 G:=fun a hf fk=>by
  have key:∀c:Bool,decide p=c->Fr N ((t,.bool c)::e) a:=fun c hc=>⟨hf.1,fun k u hu=>by
    rw [er] at hu
    by_cases hk:t=k
    ·subst hk;rw [if_pos rfl] at hu;rw [<-hu,<-hc];exact hf.2 _ _ ht
    ·rw [if_neg hk] at hu;exact hf.2 k u hu⟩
  by_cases hp:p
  ·exact h1 hp a (key _ (decide_eq_true hp)) fk
  ·exact h2 hp a (key _ (decide_eq_false hp)) fk
theorem LD.bn {b:Bool} (ht:look e t=some (.bool b)) (h1:b=true->LD P r N ops Q l ((t,.bool true)::e) ds M S w0 G) (h2:b=false->LD P r N ops Q l ((t,.bool false)::e) ds M S w0 G):
    LD P r N ops Q l e ds M S w0 G:=fun a hf fk=>by
  have key:∀c:Bool,b=c->Fr N ((t,.bool c)::e) a:=fun c hc=>⟨hf.1,fun k u hu=>by
    rw [er] at hu
    by_cases hk:t=k
    ·subst hk;rw [if_pos rfl] at hu;rw [<-hu,<-hc];exact hf.2 _ _ ht
    ·rw [if_neg hk] at hu;exact hf.2 k u hu⟩
  cases b with
  |true=>exact h1 rfl a (key _ rfl) fk
  |false=>exact h2 rfl a (key _ rfl) fk
/-- A call that keeps what is known of the memory. -/
theorem LD.Ul {R:World->Value->World->Prop} (hi:ops[i]? =some ⟨some d,op,ty,pos,after,g⟩) (hg:vI ops e g true) (hc:∀w,Ep P op ty e w f args)
    (h:∀w,Mem w M->cG S w0 w->G w->aD P f args w (R w))
    (hk:∀w v w',Mem w M->cG S w0 w->G w->R w v w'->∃M',(∀w,Mem w M'->Mem w M)/\(Mem w' M'/\cG S w0 w'/\G w')/\LD P r N ops Q l ((d,v)::e) ds M' S w0 G) (dX:nd op=true:=by rfl) (hd:Nat.blt d N=true:=by rfl):
    LD P r N ops Q ((i,2)::l) e ds M S w0 G:=fun a hf fk=>by
  simp only [yT,hi]
  intro w hC
  unfold wpOpIn
  rw [hi]
  simp only
  rw [if_pos (hg.wanted (o:=⟨some d,op,ty,pos,after,g⟩) hf)]
  refine ⟨fun _ _=>trivial,?_⟩
  rw [kh dX,hc w a.eval (fun x u hx=>hf.eval hx) _ _ _ _]
  refine ⟨fun h=>(by cases h),?_⟩
  have h2:CallsIn Fence.wide 0 P f args w (fun en w'=>∃v,en= .returned v/\R w v w'):=callsIn_wide.2 (h w hC.1 hC.2.1 hC.2.2)
  have h3:CallsIn (Wd r) 0 P f args w (fun en w'=>∃v,en= .returned v/\R w v w'):=h2
  refine CallsIn.mono h3 ?_
  rintro en w' ⟨v,rfl,hR⟩
  obtain ⟨M',iG,BT,hl⟩:=hk w v w' hC.1 hC.2.1 hC.2.2 hR
  exact⟨Ir M' S w0 G,fun w h=>⟨iG w h.1,h.2⟩,BT,hl _ (hf.put hd v) fk⟩
theorem LD.call {R:World->Value->World->Prop} (hi:ops[i]? =some ⟨some d,op,ty,pos,after,g⟩) (hg:vI ops e g true) (hc:∀w,Ep P op ty e w f args)
    (h:∀w,Mem w M->cG S w0 w->G w->aD P f args w (R w))
    (hk:∀w v w',Mem w M->cG S w0 w->G w->R w v w'->(Mem w' M/\cG S w0 w'/\G w')/\LD P r N ops Q l ((d,v)::e) ds M S w0 G) (dX:nd op=true:=by rfl) (hd:Nat.blt d N=true:=by rfl):
    LD P r N ops Q ((i,2)::l) e ds M S w0 G:=
  .Ul hi hg hc h (fun w v w' hm jy hG hR=>⟨M,fun _ h=>h,hk w v w' hm jy hG hR⟩) dX hd
theorem LD.ye [GS G] (hi:ops[i]? =some ⟨some d,op,ty,pos,after,g⟩) (hg:vI ops e g true) (hc:∀w,Ep P op ty e w f args) (h:∀w,Mem w M->cG S w0 w->G w->aD P f args w (fun u w'=>u=v/\Ext w w'))
    (hk:LD P r N ops Q l ((d,v)::e) ds M S w0 G) (dX:nd op=true:=by rfl) (hd:Nat.blt d N=true:=by rfl):
    LD P r N ops Q ((i,2)::l) e ds M S w0 G:=
  .call hi hg hc (fun w hm jy hG=>h w hm jy hG) (fun w _ w' hm jy hG ⟨hu,he⟩=>by rw [hu];exact⟨⟨hm.ext he,jy.step he (fun _ _ q=>q.elim),GS.ext w w' hG he⟩,hk⟩) dX hd
/-- The tail: what stands alone, in its order. -/
theorem LD.tail {k:Nat} {lo:List Oper} (ho:(ops[i]?).isSome=true) (hl:((i,k+3)::l).filterMap (fun p=>ops[p.1]?)=lo) (h:LM P r N ops (Qn Q) lo e ds M S w0 G):LD P r N ops Q ((i,k+3)::l) e ds M S w0 G:=fun a hf fk=>by
  obtain ⟨o,ho⟩:=Option.isSome_iff_exists.1 ho
  simp only [yT,ho]
  intro w hC
  rw [hl]
  exact h w hC.1 hC.2.1 hC.2.2 a hf fk
theorem QM.qn (h:QM N Q .normal e ds M S w0 G):QM N (Qn Q) .normal e ds M S w0 G:=h
end
end

theorem A5 {t:TypeId} {i:TypeInfo} (h:∀w,(typeInfo t).run P w= .ok i w):P.info? t=some i:=by
  have h1:=h default
  simp only [typeInfo,Sem.run_bind,run_program,Result.andThen] at h1
  cases hi:P.info? t with
  |none=>rw [hi] at h1;cases h1
  |some j=>rw [hi] at h1;simp at h1;rw [h1]

theorem jh (b off n:Nat):(⟨b,off,none⟩:Addr).add n=⟨b,off+n,none⟩:=by
  unfold Addr.add
  split
  ·subst_vars;rfl
  ·rfl

/-- One cell holds it. -/
def one (v:Value):Bool:=v.oneCell'

section
variable {P:Program} {ty:TypeId} {e:Env} {M:ab} {x y:Operand} {t:TypeId}

theorem jg (h:w.heap[b]? =some (.cells cs E fz)) (hc:cs[off]? =some v):
    (load ⟨b,off,none⟩).run P w= .ok v w:=by
  simp [load,Sem.run,World.cell?,h,hc]

/-! loads -/
theorem vC (i:Nat) (hT:∀w,(isAgg t).run P w= .ok false w) (ha:ev e x=some (.pointer (some ⟨b,off,none⟩)))
    (hM:M[i]? =some (b,.cells cs E fz)) (hc:cs[off]? =some v):∀w,Mem w M->tn P (.load t x) ty e w v w:=fun w hm ρ hρ _ _ _ _=>by
  have h:=jg (P:=P) (hm.get hM) hc
  simp [execOp,Instr.loadAt,Instr.sureAddr,hρ x _ ha,loadVar,hT,h,Result.andThen]

theorem run_loadCellsFrom {w:World} {b off:Nat} :∀(vs:List Value) (k:Nat) (acc:Array Value),(∀j v,vs[j]? =some v->w.cell? ⟨b,off+(k+j),none⟩=some v)->
    (loadCellsFrom ⟨b,off,none⟩ k vs.length acc).run P w= .ok (acc++vs.toArray) w
  | [],k,acc,_=>by simp [loadCellsFrom]
  |v::vs,k,acc,h=>by
    have h0:w.cell? ((⟨b,off,none⟩:Addr).add k)=some v:=by rw [jh];exact h 0 v rfl
    have ih:=run_loadCellsFrom vs (k+1) (acc.push v) (fun j u hj=>by have:=h (j+1) u (by simpa using hj);rwa [show off+(k+1+j)=off+(k+(j+1)) by omega])
    simp only [List.length_cons,loadCellsFrom,Sem.run_bind]
    simp only [load,Sem.run,h0,Result.andThen]
    rw [ih];simp

theorem gw (hT:∀w,(isAgg t).run P w= .ok true w) (hS:∀w,(sizeOf t).run P w= .ok n w)
    (h:w.heap[b]? =some (.cells cs E fz)) (hn:vs.length=n) (hv:∀j v,vs[j]? =some v->cs[off+j]? =some v):(loadVar t ⟨b,off,none⟩).run P w= .ok (.agg vs.toArray) w:=by
  subst hn
  have:=run_loadCellsFrom (P:=P) (w:=w) (b:=b) (off:=off) vs 0 #[] (fun j v hj=>by simp [World.cell?,h,hv j v hj])
  simp [loadVar,hT,hS,loadCells,this,Result.andThen]
theorem nZ (hT:∀w,(isAgg t).run P w= .ok false w)
    (h:w.heap[b]? =some (.cells cs E fz)) (hc:cs[off]? =some v):(loadVar t ⟨b,off,none⟩).run P w= .ok v w:=by
  have h:=jg (P:=P) h hc
  simp [loadVar,hT,h,Result.andThen]

/-- The cells from a place on are these. -/
def Cs (cs:Array Value) (off:Nat):List Value->Prop
  | [] =>True
  |v::vs=>cs[off]? =some v/\Cs cs (off+1) vs
theorem Cs.get {cs:Array Value} :∀{vs:List Value} {off:Nat},Cs cs off vs->∀j v,vs[j]? =some v->cs[off+j]? =some v
  | [],_,_,j,v,h=>by simp at h
  |u::vs,off,hc,0,v,h=>by simp at h;subst h;exact hc.1
  |u::vs,off,hc,j+1,v,h=>by have:=Cs.get hc.2 j v (by simpa using h);rwa [show off+(j+1)=off+1+j by omega]

theorem D9 (i:Nat) (hT:∀w,(isAgg t).run P w= .ok true w) (hS:∀w,(sizeOf t).run P w= .ok n w) (ha:ev e x=some (.pointer (some ⟨b,off,none⟩)))
    (hM:M[i]? =some (b,.cells cs E fz)) (hn:vs.length=n) (hc:Cs cs off vs):∀w,Mem w M->tn P (.load t x) ty e w (.agg vs.toArray) w:=fun w hm ρ hρ _ _ _ _=>by
  have h:=gw (P:=P) (off:=off) hT hS (hm.get hM) hn hc.get
  simp [execOp,Instr.loadAt,Instr.sureAddr,hρ x _ ha,h,Result.andThen]

/-! addresses -/
theorem Ct {f:Nat} {fs:Array Field} {fl:Field} {k:Nat} (hU:P.underlying t=some (.struct fs)) (hf:fs[f]? =some fl) (hS:∀w,(sizeOf fl.type).run P w= .ok n w) (hn:Nat.beq n 0=false) (hk:fl.offset=k)
    (ha:ev e x=some (.pointer (some ⟨b,off,none⟩))):fo P (.fieldAddr t x f) ty e (.pointer (some ⟨b,off+k,none⟩)):=fun w ρ hρ _ _ _ _=>by
  have h0:n≠0:=by intro h;subst h;simp at hn
  subst hk
  simp [execOp,Instr.fieldAt,run_underlying hU,hf,Instr.sureAddr,hρ x _ ha,fieldPlace,hS,h0,jh,Result.andThen]
theorem Yc {a:Int} {c:Nat} (hU:P.underlying t=some (.slice E)) (hS:∀w,(sizeOf E).run P w= .ok s w) (ha:ev e x=some (.slice (some ⟨b,off,none⟩) n c)) (hi:ev e y=some (.int k a)) (h:0<=a/\a<n):
    fo P (.indexAddr t x y) ty e (.pointer (some ⟨b,off+a.toNat*s,none⟩)):=fun w ρ hρ _ _ _ _=>by
  simp [execOp,Instr.indexAt,asIntOf,run_underlying hU,hρ x _ ha,hρ y _ hi,hS,jh,h.1,h.2,Result.andThen]
theorem Ib {a:Int} (hU:P.underlying t=some (.array n E)) (hS:∀w,(sizeOf E).run P w= .ok s w) (ha:ev e x=some (.pointer (some ⟨b,off,none⟩))) (hi:ev e y=some (.int k a)) (h:0<=a/\a<n):
    fo P (.indexAddr t x y) ty e (.pointer (some ⟨b,off+a.toNat*s,none⟩)):=fun w ρ hρ _ _ _ _=>by
  simp [execOp,Instr.indexAt,asIntOf,run_underlying hU,hρ x _ ha,hρ y _ hi,hS,jh,h.1,h.2,Instr.sureAddr,Result.andThen]
/-- s[:hi] -/
theorem jU {hi:Operand} {h:Int} {c:Nat} (hU:P.underlying t=some (.slice E)) (hS:∀w,(sizeOf E).run P w= .ok s w) (ha:ev e x=some (.slice ad n c)) (hh:ev e hi=some (.int k' h))
    (h1:0<=h) (h3:h<=c):fo P (.slice t x none (some hi) none) ty e (.slice ad h.toNat c):=fun w ρ hρ _ _ _ _=>by
  have hz:∀b:Addr,b.add 0=b:=fun b=>by simp [Addr.add]
  have:(if c=0 then ad else ad.map (fun a=>a.add (0*s)))=ad:=by cases ad<;>simp [hz]
  simp [execOp,Instr.sliceAt,Instr.slice,Instr.sliceBounds,Instr.sliceBound,asIntOf,run_underlying hU,hρ x _ ha,hρ hi _ hh,h1,h3,hS,Result.andThen]
  cases ad<;>simp [hz]
end

/-! stores, new memory -/
theorem DI (w:World) (b off:Nat) (v:Value):cG (fun x=>x=b) w (w.setCell ⟨b,off,none⟩ v):=
  ⟨rfl,rfl,rfl,by simp [World.setCell],fun x _ hn=>Below.heap_setCell w ⟨b,off,none⟩ v x hn⟩
theorem heap_setCell_same (h:w.heap[b]? =some (.cells cs E fz)) (v:Value):(w.setCell ⟨b,off,none⟩ v).heap[b]? =some (.cells (cs.setIfInBounds off v) E fz):=by
  obtain ⟨bo,hk⟩:=Array.getElem?_eq_some_iff.1 h
  show (w.heap.modify b _)[b]? =_
  rw [Array.getElem?_eq_getElem (by rw [Array.size_modify];exact bo),Array.getElem_modify_self,hk]
  rfl
theorem bw (w:World) (o:Obj):Ext w (w.alloc o):=Ext.Pp ((Below.refl _ _).alloc (Nat.le_refl _) o)

/-- The cells from a place on become these. -/
def kS (cs:Array Value):Nat->List Value->Array Value
  |_,[] =>cs
  |off,v::vs=>kS (cs.setIfInBounds off v) (off+1) vs

theorem eh {P:Program} {b:Nat} {E:TypeId} :∀(vs:List Value) (w:World) (cs:Array Value) (off k:Nat),w.heap[b]? =some (.cells cs E (0,0))->off+k+vs.length<=cs.size->(∀v∈vs,one v=true)->
    ∃w',(storeCells ⟨b,off,none⟩ vs k).run P w= .ok () w'/\w'.heap[b]? =some (.cells (kS cs (off+k) vs) E (0,0))/\cG (fun x=>x=b) w w'
  | [],w,cs,off,k,h,_,_=>⟨w,by simp [storeCells],h,.refl _ _⟩
  |v::vs,w,cs,off,k,h,hl,hv=>by
    simp only [List.length_cons] at hl
    have bo:off+k<cs.size:=by omega
    have hc:w.cell? ⟨b,off+k,none⟩=some cs[off+k] :=by simp [World.cell?,h,bo]
    have hf:w.frozen? ⟨b,off+k,none⟩=false:=by simp [World.frozen?,h]
    obtain ⟨w',h1,h2,h3⟩:=eh (P:=P) vs (w.setCell ⟨b,off+k,none⟩ v) (cs.setIfInBounds (off+k) v) off (k+1) (heap_setCell_same h v) (by simp;omega) (fun u hu=>hv u (List.mem_cons_of_mem _ hu))
    refine ⟨w',?_,?_,(DI w b (off+k) v).trans h3⟩
    · have Bu:=hv v (List.mem_cons_self ..)
      have gS:(store ⟨b,off+k,none⟩ v).run P w= .ok () (w.setCell ⟨b,off+k,none⟩ v):=by
        unfold store
        cases v<;>first|(simp [one,Value.oneCell'] at Bu;done)|simp [Sem.run,hc,hf]
      simp only [storeCells,Sem.run_bind,jh,gS,Result.andThen,h1]
    · show w'.heap[b]? =some (.cells (kS (cs.setIfInBounds (off+k) v) (off+k+1) vs) E)
      rw [show off+k+1=off+(k+1) by omega];exact h2

section
variable {P:Program} {r:Option Nat} {N:Nat} {Q:Exit->Act->World->Prop} {e:Env} {ds:List Nat} {M:ab} {S:Nat->Prop} {w0:World} {G:World->Prop}
variable {ops:Array Oper} {l:List Oper} {ty:TypeId} {pos:String} {after:Array Edge} {d:Nat} {x y:Operand} {t:TypeId}

theorem LM.store [GT G] (i:Nat) {b off n:Nat} {cs:Array Value} {E:TypeId} {v:Value} (hS:∀w,(sizeOf t).run P w= .ok n w) (ha:ev e x=some (.pointer (some ⟨b,off,none⟩))) (hv:ev e y=some v)
    (hM:M[i]? =some (b,.cells cs E (0,0))) (hn:v.cells.size=n) (hl:off+n<=cs.size) (h1:v.cells.toList.all one=true) (hb:b<w0.heap.size->S b)
    (h:LM P r N ops Q l e ds (M.set i (b,.cells (kS cs off v.cells.toList) E (0,0))) S w0 G):LM P r N ops Q (⟨none,.store t x y,ty,pos,after,none⟩::l) e ds M S w0 G:=fun w hm hc hg a hf hd=>by
  obtain ⟨w',h2,h3,h4⟩:=eh (P:=P) v.cells.toList w cs off 0 (hm.get hM) (by simp;omega) (fun u hu=>List.all_eq_true.1 h1 u hu)
  refine LE.skp (w':=w') (fun ρ hρ _ _ _ _=>?_) (h w' (hm.set hM h3 h4) (hc.step h4 (fun k hk PJ=>by subst PJ;exact hb hk)) (GT.yw _ w w' hg h4 (.one h4 (hm.get hM) rfl))) rfl a hf hd
  simp [execOp,Instr.storeAt,Instr.sureAddr,hρ x _ ha,hρ y _ hv,storeVar,hS,hn,h2,Result.andThen]

theorem Mem.alloc {w:World} {M:ab} (h:Mem w M) (o:Obj):Mem (w.alloc o) ((w.heap.size,o)::M):=
  (h.ext (bw w o)).cons (World.alloc_heap_new w o) (fun p hp hq=>by have:=h.lt hp;omega)

/-- A new variable. -/
theorem LM.alloc [GS G] {E:TypeId} {z:Value} (hZ:∀w,(zeroValue E).run P w= .ok z w) (hd:Nat.blt d N=true)
    (h:∀b,w0.heap.size<=b->LM P r N ops Q l ((d,.pointer (some ⟨b,0,none⟩))::e) ds ((b,.cells z.cells E (0,0))::M) S w0 G):LM P r N ops Q (⟨some d,.alloc E,ty,pos,after,none⟩::l) e ds M S w0 G:=fun w hm hc hg=>
  LE.val (w':=w.alloc (.cells z.cells E)) (fun ρ hρ _ _ _ _=>by simp [execOp,Instr.alloc,hZ,newVar,newRow,Result.andThen]) (h w.heap.size hc.size _ (hm.alloc _) (hc.step (bw w _) (fun _ _ q=>q.elim)) (GS.ext w _ hg (bw w _))) rfl hd
theorem LM.box [GS G] {E:TypeId} {v:Value} (hv:ev e x=some v) (hd:Nat.blt d N=true)
    (h:∀b,w0.heap.size<=b->LM P r N ops Q l ((d,.pointer (some ⟨b,0,none⟩))::e) ds ((b,.cells v.cells E (0,0))::M) S w0 G):LM P r N ops Q (⟨some d,.box E x,ty,pos,after,none⟩::l) e ds M S w0 G:=fun w hm hc hg=>
  LE.val (w':=w.alloc (.cells v.cells E)) (fun ρ hρ _ _ _ _=>by simp [execOp,Instr.box,hρ x _ hv,newVar,newRow,Result.andThen]) (h w.heap.size hc.size _ (hm.alloc _) (hc.step (bw w _) (fun _ _ q=>q.elim)) (GS.ext w _ hg (bw w _))) rfl hd

/-! slices: what they hold is a list of things, each of s cells; the cells behind are whatever -/
def arr {α:Type} (f:α->List Value) (xs:List α) (bH:List Value):Array Value:=(xs.flatMap f++bH).toArray

theorem ca {f:α->List Value} (hf:∀a,(f a).length=s) (xs:List α):(xs.flatMap f).length=xs.length*s:=by
  induction xs with
  |nil=>simp
  |cons a xs ih=>simp [List.flatMap_cons,hf,ih,Nat.succ_mul,Nat.add_comm]

theorem kI {α:Type} {f:α->List Value} {s:Nat} (hf:∀a,(f a).length=s):∀(xs:List α) (i j:Nat) (a:α),xs[i]? =some a->j<s->(xs.flatMap f)[i*s+j]? =(f a)[j]?
  | [],i,j,a,h,_=>by simp at h
  |b::xs,0,j,a,h,hj=>by
    simp at h;subst h
    rw [List.flatMap_cons,Nat.zero_mul,Nat.zero_add,List.getElem?_append_left (by rw [hf];exact hj)]
  |b::xs,i+1,j,a,h,hj=>by
    rw [List.flatMap_cons,List.getElem?_append_right (by rw [hf,Nat.succ_mul];omega),hf]
    rw [show (i+1)*s+j-s=i*s+j by rw [Nat.succ_mul];omega]
    exact kI hf xs i j a (by simpa using h) hj

theorem mJ {f:α->List Value} (hf:∀a,(f a).length=s) {xs:List α} {a:α} (h:xs[i]? =some a) (hj:j<s):(arr f xs bH)[i*s+j]? =(f a)[j]? :=by
  have bo:i<xs.length:=(List.getElem?_eq_some_iff.1 h).1
  simp only [arr,List.getElem?_toArray]
  rw [List.getElem?_append_left,kI hf xs i j a h hj]
  rw [ca hf]
  calc i*s+j<i*s+s:=by omega
    _=(i+1)*s:=by rw [Nat.succ_mul]
    _<=xs.length*s:=Nat.mul_le_mul_right _ bo

/-- A slice of the call's own (or nil), and the block that holds it. -/
def Sl {α:Type} (f:α->List Value) (E s n0:Nat) (xs:List α) (v:Value) (m:ab):Prop:=
  (v= .slice none 0 0/\m=[]/\xs=[])\/
  ∃b cap bH,n0<=b/\v= .slice (some ⟨b,0,none⟩) xs.length cap/\m=[(b,.cells (arr f xs bH) E (0,0))]/\xs.length<=cap/\cap<=maxLen/\xs.length*s+bH.length=cap*s

theorem Sl.nil (f:α->List Value) (E s n0:Nat):Sl f E s n0 [] (.slice none 0 0) [] := .inl ⟨rfl,rfl,rfl⟩
theorem Sl.ne {f:α->List Value} {E:Nat} {xs:List α} {m:ab} (h:Sl f E s n0 xs v m) (hx:0<xs.length):
    ∃b cap bH,n0<=b/\v= .slice (some ⟨b,0,none⟩) xs.length cap/\m=[(b,.cells (arr f xs bH) E (0,0))]/\xs.length<=cap/\cap<=maxLen/\xs.length*s+bH.length=cap*s:=by
  rcases h with ⟨_,_,rfl⟩|h
  ·simp at hx
  ·exact h
theorem Sl.form {f:α->List Value} {E:Nat} {xs:List α} {m:ab} (h:Sl f E s n0 xs v m):∃ad cap,v= .slice ad xs.length cap:=by
  rcases h with ⟨rfl,_,rfl⟩|⟨b,cap,_,_,rfl,_⟩
  ·exact⟨none,0,rfl⟩
  ·exact⟨_,cap,rfl⟩
theorem Sl.mono {f:α->List Value} {E n1:Nat} {xs:List α} {m:ab} (h:Sl f E s n0 xs v m) (hn:n1<=n0):Sl f E s n1 xs v m:=by
  rcases h with h|⟨b,cap,bH,hb,h⟩
  ·exact .inl h
  ·exact .inr ⟨b,cap,bH,by omega,h⟩
theorem Sl.ge {f:α->List Value} {E:Nat} {xs:List α} {m:ab} (h:Sl f E s n0 xs v m):∀p∈m,n0<=p.1:=by
  rcases h with ⟨_,rfl,_⟩|⟨b,cap,bH,hb,_,rfl,_⟩
  ·intro p hp;cases hp
  ·intro p hp;simp at hp;subst hp;exact hb

/-- 'out = append(out, a)': the slice is the call's own, or nil; the one that is added lies in a block of its own, at the head. -/
theorem LM.Tw [GT G] {f:α->List Value} {E:Nat} {inf:TypeInfo} {xs:List α} {m M2:ab} {bx c:Nat} {a:α}
    (hU:P.underlying t=some (.slice E)) (hI:∀w,(typeInfo E).run P w= .ok inf w) (hz:inf.zero=some z) (hs:inf.size=s) (q9:Nat.blt 0 s=true) (Ll:z.cells.size=s) (hd:Nat.blt d N=true)
    (hx:ev e x=some v) (hy:ev e y=some (.slice (some ⟨bx,0,none⟩) 1 c)) (cm:n0<=w0.heap.size) (ZX:∀p∈m,p.1<w0.heap.size->S p.1) (jL:Sl f E s n0 xs v m) (ho:∃F fz,o= .cells (f a).toArray F fz)
    (hf:∀a,(f a).length=s) (h1:∀a,∀u∈f a,one u=true) (hlen:xs.length+1<=maxLen) (qZ:(xs.length+1)*inf.bytes<=140737488355328)
    (h:∀v' m',Sl f E s n0 (xs++ [a]) v' m'->(∀p∈m',w0.heap.size<=p.1\/∃q∈m,q.1=p.1)->LM P r N ops Q l ((d,v')::e) ds (m'++M2) S w0 G):
    LM P r N ops Q (⟨some d,.call {callee:= .builtin .append,args:=#[x,y],argTypes:=#[t,t] },ty,pos,after,none⟩::l) e ds ((bx,o)::(m++M2)) S w0 G:=fun w hm hc hg=>by
  obtain ⟨F,fz,rfl⟩:=ho
  have q9:0<s:=Nat.le_of_ble_eq_true q9
  have BW:=A5 hI
  have hbx:=hm.get (i:=0) rfl
  have xy:∀j u,(f a)[j]? =some u->w.cell? ((⟨bx,0,none⟩:Addr).add j)=some u:=fun j u hj=>by
    rw [jh];simp [World.cell?,hbx,hj]
  have Ph:Mem w (m++M2):=hm.tail
  have step:∀(v':Value) (w':World),(Builtin.append_ #[t,t] ty #[v,.slice (some ⟨bx,0,none⟩) 1 c]).run P w= .ok v' w'->
      (LE P r N ops Q l ((d,v')::e) ds w')->LE P r N ops Q (⟨some d,.call {callee:= .builtin .append,args:=#[x,y],argTypes:=#[t,t] },ty,pos,after,none⟩::l) e ds w:=fun v' w' hr hl=>
    LE.val (fun ρ hρ _ _ _ _=>by simp [execOp,resolve,invoke,builtin,hρ x _ hx,hρ y _ hy,hr,Result.andThen]) hl rfl hd
  rcases jL with ⟨rfl,rfl,rfl⟩|⟨b,cap,bH,hb,rfl,rfl,hle,U9,Ql⟩
  · -- nil
    have hr:=run_append_nil (P:=P) w t ty E inf z hU BW hz ⟨bx,0,none⟩ 1 c (f a) (by rw [hf,hs,Nat.one_mul]) xy (by omega) (by omega) (by simp at qZ;omega)
    refine step _ _ hr ?_
    obtain ⟨k,hk,y6⟩:∃k,grownCap w 1 0 E=k/\1<=k/\k<=maxLen:=⟨_,rfl,grownCap_ge w 1 0 E,grownCap_le_maxLen w 1 0 E (by unfold maxLen;omega)⟩
    rw [hk]
    refine h _ [(w.heap.size,.cells (arr f ([] ++ [a]) (Builtin.zeroCells z.cells (k-1)).toList) E (0,0))] (.inr ⟨w.heap.size,k,(Builtin.zeroCells z.cells (k-1)).toList,Nat.le_trans cm hc.size,rfl,rfl,by simpa using y6.1,y6.2,?_⟩) (fun p hp=>by rw [List.mem_singleton] at hp;subst hp;exact .inl hc.size) _ ?_ ?_ ?_
    · simp [size_zeroCells,Ll]
      rw [Nat.sub_mul]; have : s ≤ k * s := by calc s = 1 * s := by omega
                                                  _<=k*s:=Nat.mul_le_mul_right _ y6.1
      omega
    · have e1:(Obj.cells ((f a).toArray++Builtin.zeroCells z.cells (k-1)) E)= .cells (arr f ([] ++ [a]) (Builtin.zeroCells z.cells (k-1)).toList) E (0,0):=by
        congr 1;apply Array.ext';simp [arr]
      rw [e1]
      exact(Ph.ext (cG.drew no w)).alloc _
    ·exact(hc.step (cG.drew no w) (fun _ _ q=>q.elim)).step (bw w.drew _) (fun _ _ q=>q.elim)
    ·exact GS.ext w.drew _ (GS.ext w _ hg (cG.drew no w)) (bw w.drew _)
  · have SS:=Ph.get (i:=0) rfl
    have OS:(arr f xs bH).size=cap*s:=by simp [arr,ca hf,Ql]
    by_cases xZ:xs.length+1<=cap
    · -- there is room
      have hmul:(xs.length+1)*s<=cap*s:=Nat.mul_le_mul_right _ xZ
      rw [Nat.succ_mul] at hmul
      have hr:=run_append_room (P:=P) w t ty E inf hU BW b xs.length cap (arr f xs bH) SS ⟨bx,0,none⟩ 1 c (f a) (by rw [hf,hs,Nat.one_mul]) xy (fun u hu=>h1 a u hu) xZ (by rw [hs,hf,OS];exact hmul)
      refine step _ _ hr ?_
      rw [hs,hf]
      have e1:(((arr f xs bH).toList.take (xs.length*s)++f a++(arr f xs bH).toList.drop (xs.length*s+s)).toArray)=arr f (xs++ [a]) (bH.drop s):=by
        apply Array.ext'
        have hl:=ca hf xs
        simp only [arr,List.flatMap_append,List.flatMap_cons,List.flatMap_nil,List.append_nil]
        rw [<-hl,List.take_left,List.drop_append,List.drop_eq_nil_of_le (by omega),List.nil_append,Nat.add_sub_cancel_left]
      rw [e1]
      have Yp:(w.setRow b (arr f (xs++ [a]) (bH.drop s))).heap[b]? =some (.cells (arr f (xs++ [a]) (bH.drop s)) E (0,0)):=by
        obtain ⟨bo,hk⟩:=Array.getElem?_eq_some_iff.1 SS
        show (w.heap.modify b _)[b]? =_
        rw [Array.getElem?_eq_getElem (by rw [Array.size_modify];exact bo),Array.getElem_modify_self,hk]
      have Aq:cG (fun x=>x=b) w (w.setRow b (arr f (xs++ [a]) (bH.drop s))):=⟨rfl,rfl,rfl,by simp [World.setRow],fun k _ hn=>by
        simp only [World.setRow,Array.getElem?_modify];rw [if_neg (Ne.symm hn)]⟩
      refine h _ [(b,.cells (arr f (xs++ [a]) (bH.drop s)) E (0,0))] (.inr ⟨b,cap,bH.drop s,hb,by simp,rfl,by simpa using xZ,U9,?_⟩) (fun p hp=>by rw [List.mem_singleton] at hp;subst hp;exact .inr ⟨_,List.mem_singleton.2 rfl,rfl⟩) _ ?_ ?_ ?_
      ·simp only [List.length_append,List.length_cons,List.length_nil,Nat.zero_add,List.length_drop,Nat.succ_mul];omega
      ·exact Ph.set (i:=0) rfl Yp Aq
      ·exact hc.step Aq (fun k hk PJ=>by subst PJ;exact ZX _ (List.mem_singleton.2 rfl) hk)
      ·exact GT.yw _ w _ hg Aq (.one Aq SS rfl)
    · -- there is none
      have adn:xs.length=cap:=by omega
      have hj:bH=[] :=by
        have:bH.length=0:=by subst adn;omega
        exact List.eq_nil_of_length_eq_zero this
      subst hj
      have holds:∀j u,(xs.flatMap f)[j]? =some u->w.cell? ((⟨b,0,none⟩:Addr).add j)=some u:=fun j u hj=>by
        rw [jh];simp [World.cell?,SS,arr,hj]
      have hr:=run_append_grow (P:=P) w t ty E inf z hU BW hz ⟨b,0,none⟩ xs.length cap (xs.flatMap f) (by rw [ca hf,hs]) holds ⟨bx,0,none⟩ 1 c (f a) (by rw [hf,hs,Nat.one_mul]) xy (by omega) (by unfold maxLen at hlen;omega) (growslice_fits (by omega) qZ)
      refine step _ _ hr ?_
      obtain ⟨k,hk,y6⟩:∃k,grownCap w (xs.length+1) cap E=k/\xs.length+1<=k/\k<=maxLen:=⟨_,rfl,grownCap_ge w _ cap E,grownCap_le_maxLen w _ cap E hlen⟩
      rw [hk]
      refine h _ [(w.heap.size,.cells (arr f (xs++ [a]) (Builtin.zeroCells z.cells (k-(xs.length+1))).toList) E (0,0))] (.inr ⟨w.heap.size,k,(Builtin.zeroCells z.cells (k-(xs.length+1))).toList,Nat.le_trans cm hc.size,by simp,rfl,by simpa using y6.1,y6.2,?_⟩) (fun p hp=>by rw [List.mem_singleton] at hp;subst hp;exact .inl hc.size) _ ?_ ?_ ?_
      · simp [size_zeroCells,Ll]
        rw [Nat.sub_mul]
        have:(xs.length+1)*s<=k*s:=Nat.mul_le_mul_right _ y6.1
        omega
      · have e1:(Obj.cells ((xs.flatMap f).toArray++(f a).toArray++Builtin.zeroCells z.cells (k-(xs.length+1))) E)= .cells (arr f (xs++ [a]) (Builtin.zeroCells z.cells (k-(xs.length+1))).toList) E (0,0):=by
          congr 1;apply Array.ext';simp [arr]
        rw [e1]
        have KU:Mem w M2:=by simpa using Ph.tail
        exact(KU.ext (cG.drew no w)).alloc _
      ·exact(hc.step (cG.drew no w) (fun _ _ q=>q.elim)).step (bw w.drew _) (fun _ _ q=>q.elim)
      ·exact GS.ext w.drew _ (GS.ext w _ hg (cG.drew no w)) (bw w.drew _)

theorem yc (cs:Array Value):∀(vs:List Value) (k:Nat) (acc:Array Value),(vs.zipIdx k).foldl (fun cs (p:Value×Nat)=>cs.setIfInBounds (0*cs.size+p.2) p.1) acc=kS acc k vs
  | [],k,acc=>rfl
  |v::vs,k,acc=>by
    simp only [List.zipIdx_cons,List.foldl_cons,kS,Nat.zero_mul,Nat.zero_add]
    have:=yc cs vs (k+1) (acc.setIfInBounds k v)
    simpa only [Nat.zero_mul,Nat.zero_add] using this
theorem sK:∀(vs:List Value) (pre:List Value) (oQ:List Value),oQ.length=vs.length->kS (pre++oQ).toArray pre.length vs=(pre++vs).toArray
  | [],pre,oQ,h=>by
    have:oQ=[] :=List.eq_nil_of_length_eq_zero (by simpa using h)
    subst this;rfl
  |v::vs,pre,[],h=>by simp at h
  |v::vs,pre,o::oQ,h=>by
    simp only [kS,List.setIfInBounds_toArray]
    rw [List.set_append_right _ _ (Nat.le_refl _),Nat.sub_self,List.set_cons_zero]
    have:=sK vs (pre++ [v]) oQ (by simpa using h)
    simpa using this
theorem NW {zs:Array Value} (hz:zs.size=s) (hv:v.cells.size=s):Instr.fill (fun i=>some (i*s,s)) zs [(0,v)] =some v.cells:=by
  have h1:v.cells.zipIdx.foldl (fun cs (p:Value×Nat)=>cs.setIfInBounds (0*s+p.2) p.1) zs=v.cells:=by
    rw [<-Array.foldl_toList,Array.toList_zipIdx]
    have h2:=yc zs v.cells.toList 0 zs
    simp only [Nat.zero_mul,Nat.zero_add] at h2 ⊢
    rw [h2]
    have h3:=sK v.cells.toList [] zs.toList (by simp [hz,hv])
    simpa using h3
  have h4:¬(v.cells.size≠s\/0*s+v.cells.size > zs.size):=by simp [hv,hz]
  simp only [Instr.fill]
  simp only [hv,hz,ne_eq,not_true_eq_false,Nat.zero_mul,Nat.zero_add,gt_iff_lt,Nat.lt_irrefl,decide_false,Bool.or_self,Bool.false_eq_true,if_false] at h1 ⊢
  simpa using h1
/-- '[]T{a}' behind an append: one element in a block of its own. -/
theorem LM.single [GS G] (hU:P.underlying t=some (.slice E)) (hS:∀w,(sizeOf E).run P w= .ok s w) (hZ:∀w,(zeroValue E).run P w= .ok z w) (hs:Nat.blt 0 s=true) (qx:Nat.blt s 1000=true) (hd:Nat.blt d N=true)
    (hx:ev e x=some v) (hv:v.cells.size=s)
    (h:∀b,w0.heap.size<=b->LM P r N ops Q l ((d,.slice (some ⟨b,0,none⟩) 1 1)::e) ds ((b,.cells v.cells E (0,0))::M) S w0 G):LM P r N ops Q (⟨some d,.buildSlice t 1 #[(0,x)],ty,pos,after,none⟩::l) e ds M S w0 G:=fun w hm hc hg=>by
  have h0:0<s:=Nat.le_of_ble_eq_true hs
  have abv:s<1000:=Nat.le_of_ble_eq_true qx
  have ec:¬s=0:=by omega
  have WB:¬(16777216<s):=by omega
  have Ho:=NW (s:=s) (zs:=(Array.range s).map (z.cells[· % z.cells.size]!)) (v:=v) (by simp) hv
  refine LE.val (w':=w.alloc (.cells v.cells E)) (fun ρ hρ _ _ _ _=>?_) (h w.heap.size hc.size _ (hm.alloc _) (hc.step (bw w _) (fun _ _ q=>q.elim)) (GS.ext w _ hg (bw w _))) rfl hd
  simp [execOp,Instr.buildSlice,run_underlying hU,hS,hZ,ec,WB,hρ x _ hx,Ho,newRow,Result.andThen]

/-- 'make([]T, n)' -/
theorem LM.make [GS G] {f:α->List Value} {E:Nat} {inf:TypeInfo} {a0:α} {n:Int} (hU:P.underlying t=some (.slice E)) (hI:∀w,(typeInfo E).run P w= .ok inf w) (hz:inf.zero=some z) (hs:inf.size=s) (q9:Nat.blt 0 s=true) (hza:z.cells=(f a0).toArray) (hf:∀a,(f a).length=s) (hd:Nat.blt d N=true)
    (hx:ev e x=some (.int k n)) (hy:ev e y=some (.int k' n)) (h0:0<=n) (hb:(inf.bytes:Int)*n<=281474976710656) (h63:n<=9223372036854775807)
    (h:∀b,w0.heap.size<=b->LM P r N ops Q l ((d,.slice (some ⟨b,0,none⟩) n.toNat n.toNat)::e) ds ((b,.cells (arr f (List.replicate n.toNat a0) []) E (0,0))::M) S w0 G):
    LM P r N ops Q (⟨some d,.makeSlice t x y,ty,pos,after,none⟩::l) e ds M S w0 G:=fun w hm hc hg=>by
  have q9:0<s:=Nat.le_of_ble_eq_true q9
  have hr:=run_make w t E inf z (P:=P) hU (A5 hI) hz k k' n n h0 (Int.le_refl _) hb h63
  have e1:madeCells z.cells (n.toNat*inf.size)=arr f (List.replicate n.toNat a0) [] :=by
    apply Array.ext'
    apply List.ext_getElem?
    intro i
    have hlen:(f a0).length=s:=hf a0
    simp only [arr,List.append_nil]
    by_cases hi:i<n.toNat*s
    · have hq:i / s<n.toNat:=Nat.div_lt_of_lt_mul (by rwa [Nat.mul_comm])
      have aai:i % s<s:=Nat.mod_lt _ q9
      have hg:=kI hf (List.replicate n.toNat a0) (i / s) (i % s) a0 (by simp [hq]) aai
      rw [show i / s*s+i % s=i by rw [Nat.mul_comm];exact Nat.div_add_mod i s] at hg
      rw [hg]
      simp [madeCells,hs,hi,hza,hlen,aai]
    · have h2:n.toNat*s<=i:=by omega
      rw [List.getElem?_eq_none (by simp [madeCells,hs];exact h2),List.getElem?_eq_none (by rw [ca hf];simpa using h2)]
  rw [e1] at hr
  exact LE.val (fun ρ hρ _ _ _ _=>by simp [execOp,hρ x _ hx,hρ y _ hy,hr,Result.andThen]) (h w.heap.size hc.size _ (hm.alloc _) (hc.step (bw w _) (fun _ _ q=>q.elim)) (GS.ext w _ hg (bw w _))) rfl hd
end

/-! integers in slices -/
def fI (n:Int):List Value:=[.int .i64 n]
section
variable {P:Program} {r:Option Nat} {N:Nat} {Q:Exit->Act->World->Prop} {e:Env} {ds:List Nat} {M:ab} {S:Nat->Prop} {w0:World} {G:World->Prop}
variable {ops:Array Oper} {l:List Oper} {ty:TypeId} {pos:String} {after:Array Edge} {x y:Operand} {t:TypeId}
end
section
variable {P:Program} {r:Option Nat} {N:Nat} {Q:Exit->Act->World->Prop} {e:Env} {ds:List Nat} {M:ab} {S:Nat->Prop} {w0:World} {G:World->Prop}
variable {ops:Array Oper} {l:List Oper} {op:Op} {ty:TypeId} {pos:String} {after:Array Edge} {d:Nat}
/-- What isn't carried out, where a later guard asks for it. -/
theorem LM.dL {b c:Bool} (hj:(ops[j]?).bind (·.dst)=some t) (ht:look e t=some (.bool c)) (WR:(c==b)=false)
    (h:LM P r N ops Q l ((d,undef)::e) ds M S w0 G) (hd:Nat.blt d N=true:=by rfl):LM P r N ops Q (⟨some d,op,ty,pos,after,some (j,b)⟩::l) e ds M S w0 G:=fun w hm hc hg=> .drop hj ht WR (h w hm hc hg) hd
/-- A guard that was not carried out itself. -/
theorem LM.O9 {b:Bool} (hj:(ops[j]?).bind (·.dst)=some t) (ht:look e t=some undef)
    (h:LM P r N ops Q l ((d,undef)::e) ds M S w0 G) (hd:Nat.blt d N=true:=by rfl):LM P r N ops Q (⟨some d,op,ty,pos,after,some (j,b)⟩::l) e ds M S w0 G:=fun w hm hc hg a hf fk=>by
  have hw:Region.wanted ⟨some d,op,ty,pos,after,some (j,b)⟩ (yielded ops a.tmps)=false:=by
    simp only [Region.wanted,yielded,hj,Option.bind_some,hf.2 t _ ht,undef];rfl
  unfold wpListIn
  rw [if_neg (by rw [hw];simp)]
  exact⟨fun _ _=>trivial,h w hm hc hg _ (hf.put hd undef) fk⟩
end
/-- Ways meet again: what holds where they meet. -/
def TM (N:Nat) (ds:List Nat) (S:Nat->Prop) (w0:World) {α:Type} (E:α->Env) (MM:α->ab) (GG:α->World->Prop) (I:α->Prop) (Q:Exit->Act->World->Prop):Exit->Act->World->Prop
  | .normal,a,w=>∃y,Fr N (E y) a/\Dm ds a/\Mem w (MM y)/\cG S w0 w/\GG y w/\I y
  |x,a,w=>Q x a w
section
variable {P:Program} {r:Option Nat} {N:Nat} {Q:Exit->Act->World->Prop} {e:Env} {ds:List Nat} {M:ab} {S:Nat->Prop} {w0:World} {G:World->Prop}
theorem af.acU (E:α->Env) (MM:α->ab) (GG:α->World->Prop) (I:α->Prop) (h1:af P r N c (TM N ds S w0 E MM GG I Q) e ds M S w0 G) (h2:∀x,I x->QM N Q .normal (E x) ds (MM x) S w0 (GG x)):af P r N c Q e ds M S w0 G:=fun w hm hc hg a hf hd=>by
  refine wpIn_mono (h1 w hm hc hg a hf hd) (fun x a w hq=>?_)
  cases x with
  |normal=>obtain ⟨y,hf',hd',ao,aa,aA,hI⟩:=hq;exact h2 y hI w ao aa aA a hf' hd'
  |exit id=>exact hq
  |goto l=>exact hq
  |ret=>exact hq
  |panic ch=>exact hq
  |outgrown=>exact hq
theorem af.join (E:α->Env) (MM:α->ab) (I:α->Prop) (h1:af P r N c (TM N ds S w0 E MM (fun _=>G) I Q) e ds M S w0 G) (h2:∀x,I x->QM N Q .normal (E x) ds (MM x) S w0 G):af P r N c Q e ds M S w0 G:= .acU E MM (fun _=>G) I h1 h2
theorem QM.acf {E:α->Env} {MM:α->ab} {GG:α->World->Prop} {I:α->Prop} (y:α) (hs:Sub e (E y)) (hM:∀w,Mem w M->Mem w (MM y)) (hG:∀w,G w->GG y w) (hI:I y):QM N (TM N ds S w0 E MM GG I Q) .normal e ds M S w0 G:=
  fun w hw hc hg _ hf hd=>⟨y,hf.sub hs,hd,hM w hw,hc,hG w hg,hI⟩
theorem QM.meet {E:α->Env} {MM:α->ab} {I:α->Prop} (y:α) (hs:Sub e (E y)) (hM:∀w,Mem w M->Mem w (MM y)) (hI:I y):QM N (TM N ds S w0 E MM (fun _=>G) I Q) .normal e ds M S w0 G:= .acf y hs hM (fun _ h=>h) hI
theorem QM.gY {E:α->Env} {MM:α->ab} {GG:α->World->Prop} {I:α->Prop} (h:QM N Q .ret e ds M S w0 G):QM N (TM N ds S w0 E MM GG I Q) .ret e ds M S w0 G:=h
end
/-- What was there is as it was; the value is a slice of the call's own. -/
def New {α:Type} (f:α->List Value) (E s:Nat) (xs:List α) (w:World) (v:Value) (w':World):Prop:=Ext w w'/\∃m,Sl f E s w.heap.size xs v m/\Mem w' m
section
variable {P:Program} {r:Option Nat} {N:Nat} {Q:Exit->Act->World->Prop} {e:Env} {ds:List Nat} {M:ab} {S:Nat->Prop} {w0:World} {G:World->Prop}
variable {ops:Array Oper} {l:List Oper} {op:Op} {ty:TypeId} {pos:String} {after:Array Edge} {d:Nat}
theorem LM.aaq [GS G] {f:α->List Value} {E:Nat} {xs:List α} {g:FuncId} (hc:∀w,Ep P op ty e w g args) (h:∀w,Mem w M->cG S w0 w->G w->aD P g args w (New f E s xs w))
    (hk:∀u m,Sl f E s w0.heap.size xs u m->LM P r N ops Q l ((d,u)::e) ds (m++M) S w0 G) (dX:nd op=true:=by rfl) (hd:Nat.blt d N=true:=by rfl):
    LM P r N ops Q (⟨some d,op,ty,pos,after,none⟩::l) e ds M S w0 G:=
  .call hc (fun w hm jy hg=>h w hm jy hg) (fun w u w' hm jy hg ⟨he,m,jL,ao⟩=>by
    refine hk u m (jL.mono jy.size) w' ⟨?_,fun p hp=>?_⟩ (jy.step he (fun _ _ q=>q.elim)) (GS.ext w w' hg he)
    · rw [List.map_append]
      refine List.nodup_append.2 ⟨ao.1,hm.1,?_⟩
      intro x hx y hy hxy
      obtain ⟨p,hp,rfl⟩:=List.mem_map.1 hx
      obtain ⟨q,hq,rfl⟩:=List.mem_map.1 hy
      have:=jL.ge p hp
      have:=hm.lt hq
      omega
    · rcases List.mem_append.1 hp with hp|hp
      ·exact ao.2 p hp
      ·exact he.get (hm.2 p hp)) dX hd
end
section
variable {P:Program} {r:Option Nat} {N:Nat} {Q:Exit->Act->World->Prop} {e:Env} {ds:List Nat} {M:ab} {S:Nat->Prop} {w0:World} {G:World->Prop}
variable {ops:Array Oper} {l:List (Nat×Nat)} {op:Op} {ty:TypeId} {pos:String} {after:Array Edge} {d i:Nat}
end
theorem lk {e:Env} {v':Value} (h:look e t=some v') (hv:v'=v):look e t=some v:=by rw [h,hv]

/-- Book-keeping from block n on: nothing is changed but the objects of loops that lie there. -/
structure Bk (n:Nat) (w w':World):Prop where
  os:w'.os=w.os
  tape:w'.tape=w.tape
  output:w'.output=w.output
  size:w.heap.size<=w'.heap.size
  same:∀(b:Nat) (o:Obj),w.heap[b]? =some o->(b<n\/bJ o=false)->w'.heap[b]? =some o
  walk:∀(b:Nat) (o:Obj),w.heap[b]? =some o->bJ o=true->∃o',w'.heap[b]? =some o'/\bJ o'=true

theorem Bk.trans {n:Nat} {a b c:World} (h:Bk n a b) (k:Bk n b c):Bk n a c:=
  ⟨k.os.trans h.os,k.tape.trans h.tape,k.output.trans h.output,Nat.le_trans h.size k.size,fun x o hx hn=>k.same x o (h.same x o hx hn) hn,fun x o hx hw=>by
    obtain ⟨o',h1,h2⟩:=h.walk x o hx hw;exact k.walk x o' h1 h2⟩
theorem Bk.mono {m:Nat} (h:Bk n w w') (hm:m<=n):Bk m w w':=
  ⟨h.os,h.tape,h.output,h.size,fun x o hx hn=>h.same x o hx (hn.imp (fun q=>Nat.lt_of_lt_of_le q hm) id),h.walk⟩
theorem Ext.bk (h:Ext w w'):Bk n w w':=
  ⟨h.os,h.tape,h.output,h.size,fun _ _ hx _=>h.get hx,fun _ o hx hw=>⟨o,h.get hx,hw⟩⟩
theorem Bk.put {o':Obj} (hl:w.heap[l]? =some o) (hn:n<=l) (hw:bJ o=true) (T7:bJ o'=true):Bk n w (w.putObj l o'):=by
  have bo:=(Array.getElem?_eq_some_iff.1 hl).1
  refine ⟨rfl,rfl,rfl,by simp,fun b u hb hc=>?_,fun b u hb hu=>?_⟩
  · by_cases e:b=l
    · subst e;rw [hl] at hb;cases hb
      rcases hc with hc|hc
      ·omega
      ·rw [hw] at hc;cases hc
    ·rw [World.putObj_heap_other e];exact hb
  · by_cases e:b=l
    ·subst e;exact⟨o',World.putObj_heap_same bo,T7⟩
    ·exact⟨u,by rw [World.putObj_heap_other e];exact hb,hu⟩
theorem kE (o:Obj):cG (fun x=>x=l) w (w.putObj l o):=
  ⟨rfl,rfl,rfl,by simp,fun b _ hn=>World.putObj_heap_other hn⟩
theorem Bk.yw (h:Bk n w w'):cG (fun b=>n<=b) w w':=
  ⟨h.os,h.tape,h.output,h.size,fun b hb hn=>by
    have h1:w.heap[b]? =some w.heap[b] :=Array.getElem?_eq_getElem hb
    rw [h.same b _ h1 (.inl (Nat.lt_of_not_le hn)),h1]⟩

/-- What a round keeps: the objects of loops that lay from n on in W1 lie there still. -/
structure KW (n:Nat) (W1 w:World):Prop where
  os:w.os=W1.os
  tape:w.tape=W1.tape
  output:w.output=W1.output
  size:W1.heap.size<=w.heap.size
  same:∀(b:Nat) (o:Obj),n<=b->W1.heap[b]? =some o->bJ o=true->w.heap[b]? =some o
theorem KW.refl (n:Nat) (w:World):KW n w w:=⟨rfl,rfl,rfl,Nat.le_refl _,fun _ _ _ h _=>h⟩
instance (n:Nat) (W1:World):GT (KW n W1) where
  ext:=fun w w' h e=>⟨e.os.trans h.os,e.tape.trans h.tape,e.output.trans h.output,Nat.le_trans h.size e.size,fun b o hn hb hw=>e.get (h.same b o hn hb hw)⟩
  yw:=fun S w w' h e k=>⟨e.os.trans h.os,e.tape.trans h.tape,e.output.trans h.output,Nat.le_trans h.size e.size,fun b o hn hb hw=>k b o (h.same b o hn hb hw) hw⟩
instance {G H:World->Prop} [GS G] [GS H] :GS (fun w=>G w/\H w) where
  ext:=fun w w' h e=>⟨GS.ext w w' h.1 e,GS.ext w w' h.2 e⟩
instance {G H:World->Prop} [GT G] [GT H] :GT (fun w=>G w/\H w) where
  ext:=fun w w' h e=>⟨GS.ext w w' h.1 e,GS.ext w w' h.2 e⟩
  yw:=fun S w w' h e k=>⟨GT.yw S w w' h.1 e k,GT.yw S w w' h.2 e k⟩

/-- A call of the yield of loop l. -/
def YR (P:Program) (l:Nat) (args:Array Value) (W:World) (R:Bool->World->Prop):Prop:=
  ∃fn tmps assign body,(Instr.yield l args).run P W= .ok (.round l fn tmps assign body) W/\RoundIn Fence.wide 0 P l fn tmps assign body W (fun en w'=>∃b,en= .returned (.bool b)/\R b w')

/-- An iterator's contract: these come, one behind the other; what it reads is said by Rd; it changes nothing but its own loops' objects. -/
def yR (P:Program) (g:FuncId) (lb:Array Value) (A:List (Array Value)) (Rd:World->Prop) (fin:Prop):Prop:=
  ∀(l:Nat) (J:Nat->World->Prop) (Jx:World->Prop) (W:World),(fin\/∀w,¬J A.length w)->(∀k w,J k w->Rd w)->
    (∀k w1 w2,J k w1->Bk W.heap.size w1 w2->J k w2)->(∀w1 w2,Jx w1->Bk W.heap.size w1 w2->Jx w2)->
    (∀k a w1,A[k]? =some a->J k w1->YR P l a w1 (fun b w2=>((b=true/\J (k+1) w2)\/(b=false/\Jx w2))/\KW W.heap.size w1 w2))->
    J 0 W->aD P g (#[.func (.yield l) #[] #[]] ++lb) W (fun _ w'=>J A.length w'\/Jx w')

/-! ### One round -/
def fE (rc:Loop):Loop:= {rc with state:= .busy}
def o8 (rc:Loop) (c:Code):Loop:= {rc with state:= .done,pending:=some c}
/-- How a round's body is left. -/
def rdX (l:Nat) (rc:Loop) (R:Bool->World->Prop):Exit->Act->World->Prop
  | .normal,_,w=>w.heap[l]? =some (.loop (fE rc))/\R true (w.putObj l (.loop rc))
  | .ret,_,w=>w.heap[l]? =some (.loop (fE rc))/\R false (w.putObj l (.loop (o8 rc .ret)))
  | .exit id,_,w=>w.heap[l]? =some (.loop (fE rc))/\R false (w.putObj l (.loop (o8 rc (.exit id))))
  |_,_,_=>False
/-- What stands behind the assignment to a round's variables. -/
def asK (P:Program) (l:Nat) (rc:Loop) (body:Code) (Q:Exit->Act->World->Prop) (a:Act) (w:World):Prop:=
  w.heap[l]? =some (.loop rc)/\body.wpIn (Wd (some l)) 0 P Q a (w.putObj l (.loop (fE rc)))
def never:Exit->Act->World->Prop:=fun _ _ _=>False

theorem YR.QZ {a:Array Value} {W:World} {R:Bool->World->Prop} (gS:rc.state= .ready) (hp:rc.pending=none) (ha:a.size=rc.params.size) (hl:W.heap[l]? =some (.loop rc))
    (h:rc.assign.wpIn (Wd (some l)) 0 P (Exit.then (asK P l rc rc.body (rdX l rc R)) never) {tmps:=(rc.params.zip a).foldl (fun t (p,v)=>t.setIfInBounds p v) rc.tmps,defers:=[] } W):YR P l a W R:=by
  refine ⟨_,_,_,_,run_yield hl ha,?_⟩
  have Dj:∀(jump:Option Code) (w:World),w.heap[l]? =some (.loop (fE rc))->(Instr.endRound l jump).run P w= .ok (.bool jump.isNone) (w.putObj l (.loop {rc with state:=if jump.isNone then .ready else .done,pending:=jump})):=fun jump w hw=>by have:=run_endRound (P:=P) jump hw;exact this
  refine roundIn_of_wpIn (F:=Fence.wide) trivial ?_
  refine wpIn_mono h (fun x a1 w1 hq=>?_)
  cases x with
  |normal=>
    obtain ⟨h1,h2⟩:=hq
    refine ⟨_,run_beginRound h1 gS,?_⟩
    refine wpIn_mono h2 (fun x a2 w2 hq=>?_)
    cases x with
    |normal=>
      obtain ⟨h3,h4⟩:=hq
      refine ⟨_,_,Dj none w2 h3,true,rfl,?_⟩
      have:({rc with state:= .ready,pending:=none} :Loop)=rc:=by cases rc;simp_all
      simp only [Option.isNone_none,if_true]
      rw [this];exact h4
    |ret=>obtain ⟨h3,h4⟩:=hq;exact⟨_,_,Dj (some .ret) w2 h3,false,rfl,h4⟩
    |exit id=>obtain ⟨h3,h4⟩:=hq;exact⟨_,_,Dj (some (.exit id)) w2 h3,false,rfl,h4⟩
    |goto t=>exact hq.elim
    |panic c=>exact hq.elim
    |outgrown=>exact hq.elim
  |_=>exact hq.elim

/-! ### The statement -/
/-- How a round's body is left, said of the memory's list. -/
def rdQ (l:Nat) (rc:Loop) (Dl:ab) (S:Nat->Prop) (w0:World) (K:World->Prop) {α β:Type} (MM:α->ab) (GG:α->World->Prop) (I:α->Prop) (MX:β->ab) (GX:β->World->Prop) (IX:Code->β->Prop):Exit->Act->World->Prop
  | .normal,_,w=>∃y,Mem w ((l,.loop (fE rc))::(Dl++MM y))/\cG S w0 w/\(GG y w/\K w)/\I y
  | .ret,_,w=>∃z,Mem w ((l,.loop (fE rc))::(Dl++MX z))/\cG S w0 w/\(GX z w/\K w)/\IX .ret z
  | .exit id,_,w=>∃z,Mem w ((l,.loop (fE rc))::(Dl++MX z))/\cG S w0 w/\(GX z w/\K w)/\IX (.exit id) z
  |_,_,_=>False

section
variable {N l:Nat} {rc:Loop} {Dl:ab} {S:Nat->Prop} {w0:World} {K G:World->Prop} {α β:Type} {MM:α->ab} {GG:α->World->Prop} {I:α->Prop} {MX:β->ab} {GX:β->World->Prop} {IX:Code->β->Prop} {e:Env} {M:ab}
theorem QM.next (y:α) (hM:∀w,Mem w M->Mem w ((l,.loop (fE rc))::(Dl++MM y))) (hG:∀w,G w->GG y w/\K w) (hI:I y):QM N (rdQ l rc Dl S w0 K MM GG I MX GX IX) .normal e [] M S w0 G:=
  fun w hm hc hg _ _ _=>⟨y,hM w hm,hc,hG w hg,hI⟩
theorem QM.Wq (z:β) (hM:∀w,Mem w M->Mem w ((l,.loop (fE rc))::(Dl++MX z))) (hG:∀w,G w->GX z w/\K w) (hI:IX .ret z):QM N (rdQ l rc Dl S w0 K MM GG I MX GX IX) .ret e [] M S w0 G:=
  fun w hm hc hg _ _ _=>⟨z,hM w hm,hc,hG w hg,hI⟩
end

/-- Ghosts that stand when one object of a loop that lies behind is changed. -/
def Gl (m:Nat) (G:World->Prop):Prop:=∀w1 w2,G w1->Bk m w1 w2->G w2

/-- ... when the loop's own object becomes busy. -/
def Pl (l:Nat) (rc:Loop) (G:World->Prop):Prop:=∀w,G w->w.heap[l]? =some (.loop rc)->G (w.putObj l (.loop (fE rc)))
theorem QM.UZ {N:Nat} {body:Code} {Q:Exit->Act->World->Prop} {e:Env} {M:ab} {S:Nat->Prop} {w0:World} {G:World->Prop} (hG:Pl l rc G) (Qs:w0.heap.size<=l)
    (h:af P (some l) N body Q e [] ((l,.loop (fE rc))::M) S w0 G):QM N (Exit.then (asK P l rc body Q) never) .normal e [] ((l,.loop rc)::M) S w0 G:=fun w hm hc hg a hf hd=>by
  have hl:=hm.get (i:=0) rfl
  refine ⟨hl,h _ (hm.set (i:=0) rfl (World.putObj_heap_same (Array.getElem?_eq_some_iff.1 hl).1) (kE _)) (hc.step (kE _) (fun k hk JD=>by subst JD;omega)) (hG _ hg hl) a hf hd⟩
theorem KW.put {W1:World} (h:KW n W1 w) (hl:l<n) (o:Obj):KW n W1 (w.putObj l o):=
  ⟨h.os,h.tape,h.output,by simpa using h.size,fun b u hn hb hw=>by rw [World.putObj_heap_other (by omega)];exact h.same b u hn hb hw⟩
theorem kW (m:Nat):Gl m top:=fun _ _ _ _=>trivial
/-- The round's variables. -/
def Mf:List (Nat×Value)->Env->Env
  | [],e=>e
  |(p,v)::l,e=>Mf l ((p,v)::e)
theorem Ni {N:Nat} :∀(l:List (Nat×Value)) (e:Env) (t:Array Value),(l.all fun p=>Nat.blt p.1 N)=true->Fr N e {tmps:=t,defers:=[] }->Fr N (Mf l e) {tmps:=l.foldl (fun t (p,v)=>t.setIfInBounds p v) t,defers:=[] }
  | [],e,t,_,h=>h
  |(p,v)::l,e,t,hl,h=>by
    simp only [List.all_cons,Bool.and_eq_true] at hl
    have:=h.put hl.1 v
    exact Ni l _ _ hl.2 this

section range
variable {P:Program} {N:Nat} {Q:Exit->Act->World->Prop} {e:Env} {ds:List Nat} {M:ab} {S:Nat->Prop} {w0:World} {G:World->Prop}
variable {g:Operand} {ps:Array Tmp} {assign body:Code} {gf:FuncId} {lb:Array Value} {A:List (Array Value)} {Rd:World->Prop} {fin:Prop} {α β:Type}

/-- the loop's record -/
def lM (fn:FuncId) (tmps:Array Value) (ps:Array Tmp) (assign body:Code) (D:Nat):Loop:= {state:= .ready,pending:=none,fn,tmps,params:=ps,assign,body,defers:=D}

theorem GY (hf:Fr N e a) {D m:Nat} {fn:FuncId} {Dl:ab} {W:World} (hlW:l+1=W.heap.size) (hml:m<=l) (Qs:w0.heap.size<=l) (hDl:∀p∈Dl,p.1<W.heap.size)
    (U6:yR P gf lb A Rd fin) (MM:Nat->α->ab) (GG:Nat->α->World->Prop) (I:Nat->α->Prop) (MX:β->ab) (GX:β->World->Prop) (IX:Code->β->Prop) (x0:α)
    (hA:∀(k:Nat) (av:Array Value),A[k]? =some av->av.size=ps.size) (TE:ps.all (fun p=>Nat.blt p N)=true)
    (vA:Mem W ((l,.loop (lM fn a.tmps ps assign body D))::(Dl++MM 0 x0))) (ED:cG S w0 W) (hg0:GG 0 x0 W) (Hr:I 0 x0)
    (vy:fin\/∀x,¬I A.length x)
    (hrd:∀k x w,Mem w (MM k x)->cG S w0 w->GG k x w->I k x->Rd w)
    (Tn:∀k x,Gl m (GG k x)) (S7:∀z,Gl m (GX z))
    (hMM:∀k x,I k x->∀p∈MM k x,p.1<W.heap.size\/bJ p.2=false) (hMX:∀c z,IX c z->∀p∈MX z,p.1<W.heap.size\/bJ p.2=false)
    (Nz:∀k av x W1,A[k]? =some av->I k x->af P (some l) N assign (Exit.then (asK P l (lM fn a.tmps ps assign body D) body (rdQ l (lM fn a.tmps ps assign body D) Dl S w0 (KW W.heap.size W1) (MM (k+1)) (GG (k+1)) (I (k+1)) MX GX IX)) never)
      (Mf (ps.toList.zip av.toList) e) [] ((l,.loop (lM fn a.tmps ps assign body D))::(Dl++MM k x)) S w0 (fun w=>GG k x w/\KW W.heap.size W1 w)):
    aD P gf (#[.func (.yield l) #[] #[]] ++lb) W (fun _ w'=>
      (∃x,Mem w' ((l,.loop (lM fn a.tmps ps assign body D))::(Dl++MM A.length x))/\cG S w0 w'/\GG A.length x w'/\I A.length x)\/
      (∃c z,Mem w' ((l,.loop (o8 (lM fn a.tmps ps assign body D) c))::(Dl++MX z))/\cG S w0 w'/\GX z w'/\IX c z/\(c= .ret\/∃id,c= .exit id))):=by
  generalize OB:lM fn a.tmps ps assign body D=rc at*
  have gS:rc.state= .ready:=by rw [<-OB];rfl
  have hpe:rc.pending=none:=by rw [<-OB];rfl
  have r5:rc.params=ps:=by rw [<-OB];rfl
  have aiv:rc.assign=assign:=by rw [<-OB];rfl
  have aio:rc.body=body:=by rw [<-OB];rfl
  have htm:rc.tmps=a.tmps:=by rw [<-OB];rfl
  -- book-keeping leaves the lists as they are
  have keep:∀(w1 w2:World) (Mx:ab),Bk W.heap.size w1 w2->Mem w1 Mx->(∀p∈Mx,p.1<W.heap.size\/bJ p.2=false)->Mem w2 Mx:=fun w1 w2 Mx hb hm hp=>⟨hm.1,fun p tS=>hb.same _ _ (hm.2 p tS) (hp p tS)⟩
  have Uh:∀(w1 w2:World),Bk W.heap.size w1 w2->cG S w0 w1->cG S w0 w2:=fun w1 w2 hb hc=>hc.step hb.yw (fun x hx hn=>by have:=ED.size;omega)
  have lA:∀(o:Obj) (Mx:ab),(∀p∈Mx,p.1<W.heap.size\/bJ p.2=false)->∀p∈((l,o)::(Dl++Mx)),p.1<W.heap.size\/bJ p.2=false:=fun o Mx h p hp=>by
    rcases List.mem_cons.1 hp with rfl|hp
    ·exact .inl (by simp only;omega)
    · rcases List.mem_append.1 hp with hp|hp
      ·exact .inl (hDl p hp)
      ·exact h p hp
  refine aD.mono (U6 l
    (fun k w=>∃x,Mem w ((l,.loop rc)::(Dl++MM k x))/\cG S w0 w/\GG k x w/\I k x)
    (fun w=>∃c z,Mem w ((l,.loop (o8 rc c))::(Dl++MX z))/\cG S w0 w/\GX z w/\IX c z/\(c= .ret\/∃id,c= .exit id))
    W (vy.imp id fun hn w=>by rintro ⟨x,_,_,_,hI⟩;exact hn x hI) ?_ ?_ ?_ ?_ ⟨x0,vA,ED,hg0,Hr⟩) (fun _ w' h=>h)
  · rintro k w ⟨x,hm,hc,hg,hI⟩
    exact hrd k x w (hm.sub ((List.sublist_append_right Dl (MM k x)).trans (List.sublist_cons_self _ _))) hc hg hI
  · rintro k w1 w2 ⟨x,hm,hc,hg,hI⟩ hb
    exact⟨x,keep w1 w2 _ hb hm (lA _ _ (hMM k x hI)),Uh w1 w2 hb hc,Tn k x w1 w2 hg (hb.mono (by omega)),hI⟩
  · rintro w1 w2 ⟨c,z,hm,hc,hg,hI,hj⟩ hb
    exact⟨c,z,keep w1 w2 _ hb hm (lA _ _ (hMX c z hI)),Uh w1 w2 hb hc,S7 z w1 w2 hg (hb.mono (by omega)),hI,hj⟩
  · rintro k av w1 vW ⟨x,hm,hc,hg,hI⟩
    have xr:=hm.get (i:=0) rfl
    refine YR.QZ gS hpe (by rw [r5];exact hA k av vW) xr ?_
    rw [aiv,aio,r5,htm]
    have I1:Fr N (Mf (ps.toList.zip av.toList) e) {tmps:=(ps.zip av).foldl (fun t (p,v)=>t.setIfInBounds p v) a.tmps,defers:=[] } :=by
      rw [<-Array.foldl_toList,Array.toList_zip]
      refine Ni _ e a.tmps ?_ ⟨hf.1,hf.2⟩
      rw [List.all_eq_true]
      intro p hp
      have:p.1∈ps:=Array.mem_def.2 (List.of_mem_zip hp).1
      exact Array.all_eq_true_iff_forall_mem.1 TE _ this
    refine wpIn_mono (Nz k av x w1 vW hI w1 hm hc ⟨hg,.refl _ _⟩ _ I1 rfl) ?_
    intro x1 a1 w2 hq
    cases x1 with
    |normal=>
      obtain ⟨h1,h2⟩:=hq
      refine ⟨h1,wpIn_mono h2 (fun x2 a2 w3 hq=>?_)⟩
      have fin:∀(o':Obj) (Mx:ab),bJ o'=true->Mem w3 ((l,.loop (fE rc))::Mx)->cG S w0 w3->KW W.heap.size w1 w3->
          w3.heap[l]? =some (.loop (fE rc))/\Mem (w3.putObj l o') ((l,o')::Mx)/\cG S w0 (w3.putObj l o')/\KW W.heap.size w1 (w3.putObj l o')/\Bk m w3 (w3.putObj l o'):=fun o' Mx ho KU QH Pt=>by
        have h3:=KU.get (i:=0) rfl
        refine ⟨h3,KU.set (i:=0) rfl (World.putObj_heap_same (Array.getElem?_eq_some_iff.1 h3).1) (kE _),QH.step (kE _) (fun q hq hql=>by subst hql;omega),?_,Bk.put h3 hml rfl ho⟩
        exact⟨Pt.os,Pt.tape,Pt.output,by simpa using Pt.size,fun b o hn hb hw=>by rw [World.putObj_heap_other (by omega)];exact Pt.same b o hn hb hw⟩
      cases x2 with
      |normal=>
        obtain ⟨y,KU,QH,⟨ZP,Pt⟩,Vn⟩:=hq
        obtain ⟨p1,p2,p3,p4,p5⟩:=fin (.loop rc) _ rfl KU QH Pt
        exact⟨p1,.inl ⟨rfl,y,p2,p3,Tn _ _ _ _ ZP p5,Vn⟩,p4⟩
      |ret=>
        obtain ⟨z,KU,QH,⟨ZP,Pt⟩,Vn⟩:=hq
        obtain ⟨p1,p2,p3,p4,p5⟩:=fin (.loop (o8 rc .ret)) _ rfl KU QH Pt
        exact⟨p1,.inr ⟨rfl,.ret,z,p2,p3,S7 _ _ _ ZP p5,Vn,.inl rfl⟩,p4⟩
      |exit id=>
        obtain ⟨z,KU,QH,⟨ZP,Pt⟩,Vn⟩:=hq
        obtain ⟨p1,p2,p3,p4,p5⟩:=fin (.loop (o8 rc (.exit id))) _ rfl KU QH Pt
        exact⟨p1,.inr ⟨rfl,.exit id,z,p2,p3,S7 _ _ _ ZP p5,Vn,.inr ⟨id,rfl⟩⟩,p4⟩
      |_=>exact hq.elim
    |_=>exact hq.elim

theorem KE {r:Option Nat} {a':Act} {Dl:ab} {W:World} {ds':List Nat} {MM:Nat->α->ab} {GG:Nat->α->World->Prop} {I:Nat->α->Prop} {MX:β->ab} {GX:β->World->Prop} {IX:Code->β->Prop}
    (gS:rc.state= .ready) (hpe:rc.pending=none) (Qs:w0.heap.size<=l) (hf:Fr N e a') (hd:Dm ds' a')
    (Tn:∀k x,Gl l (GG k x)) (S7:∀z,Gl l (GX z))
    (abT:aD P gf args W (fun _ w'=>
      (∃x,Mem w' ((l,.loop rc)::(Dl++MM A.length x))/\cG S w0 w'/\GG A.length x w'/\I A.length x)\/
      (∃c z,Mem w' ((l,.loop (o8 rc c))::(Dl++MX z))/\cG S w0 w'/\GX z w'/\IX c z/\(c= .ret\/∃id,c= .exit id))))
    (Pv:∀x,I A.length x->QM N Q .normal e ds' (Dl++MM A.length x) S w0 (GG A.length x))
    (Wh:∀z,IX .ret z->QM N Q .ret e ds' (Dl++MX z) S w0 (GX z))
    (My:∀id z,IX (.exit id) z->QM N Q (.exit id) e ds' (Dl++MX z) S w0 (GX z)):
    CallsIn (Wd r) 0 P gf args W (rangePost (Wd r) 0 P l Q a'):=by
  have h2:CallsIn Fence.wide 0 P gf args W _:=callsIn_wide.2 abT
  have h3:CallsIn (Wd r) 0 P gf args W _:=h2
  refine CallsIn.mono h3 ?_
  have fin:∀(w':World) (rc':Loop) (Mx:ab),Mem w' ((l,.loop rc')::Mx)->cG S w0 w'->∀o',bJ o'=true->Mem (w'.putObj l o') Mx/\cG S w0 (w'.putObj l o')/\Bk l w' (w'.putObj l o'):=fun w' rc' Mx hm hc o' ho=>by
    have hl:=hm.get (i:=0) rfl
    refine ⟨(hm.set (i:=0) rfl (World.putObj_heap_same (Array.getElem?_eq_some_iff.1 hl).1) (kE o')).tail,hc.step (kE _) (fun q hq hql=>by subst hql;omega),Bk.put hl (Nat.le_refl _) rfl ho⟩
  rintro en w' ⟨v,rfl,h|h⟩
  · obtain ⟨x,hm,hc,hg,hI⟩:=h
    obtain ⟨p1,p2,p3⟩:=fin w' rc _ hm hc (.loop {rc with state:= .exhausted}) rfl
    refine ⟨_,_,run_endLoop (hm.get (i:=0) rfl) (by rw [gS];intro h;cases h),?_⟩
    have:=Pv x hI _ p1 p2 (Tn _ x _ _ hg p3) a' hf hd
    simp only [hpe] at this ⊢
    exact this
  · obtain ⟨c,z,hm,hc,hg,hI,hj⟩:=h
    obtain ⟨p1,p2,p3⟩:=fin w' _ _ hm hc (.loop {o8 rc c with state:= .exhausted}) rfl
    refine ⟨_,_,run_endLoop (hm.get (i:=0) rfl) (by intro h;cases h),?_⟩
    rcases hj with rfl|⟨id,rfl⟩
    ·exact wpIn_ret (Wh z hI _ p1 p2 (S7 z _ _ hg p3) a' hf hd)
    ·exact wpIn_exit (My id z hI _ p1 p2 (S7 z _ _ hg p3) a' hf hd)

theorem y4 (hf:Fr N e a) (hg:ev e g=some (.func (.func gf) #[] lb)) (l:Nat) (W:World):
    (resolve a.eval (rangeCall g l) 0).run P W= .ok {target:= .fn (.func gf) lb,args:=#[.func (.yield l) #[] #[]] } W:=by
  have:=hf.eval hg
  simp only [resolve,this]
  simp [go_sem,Act.eval]

theorem c9 {M M0:ab} (h:bJ o=false) (k:∀p∈M,p∈M0\/bJ p.2=false):∀p∈(b,o)::M,p∈M0\/bJ p.2=false:=fun p hp=>by
  rcases List.mem_cons.1 hp with rfl|hp
  ·exact .inr h
  ·exact k p hp

/-- 'for .. := range g { .. }', outermost. -/
theorem af.range (hE:Al P gf) (hg:ev e g=some (.func (.func gf) #[] lb)) (U6:yR P gf lb A Rd fin)
    (MM:Nat->α->ab) (GG:Nat->α->World->Prop) (I:Nat->α->Prop) (MX:β->ab) (GX:β->World->Prop) (IX:Code->β->Prop) (x0:α)
    (hM0:MM 0 x0=M) (hG0:∀w,G w->GG 0 x0 w) (Hr:I 0 x0) (TE:ps.all (fun p=>Nat.blt p N)=true) (hA:∀(k:Nat) (av:Array Value),A[k]? =some av->av.size=ps.size)
    (vy:fin\/∀x,¬I A.length x)
    (hrd:∀k x w,Mem w (MM k x)->cG S w0 w->GG k x w->I k x->Rd w)
    (Tn:∀w,G w->∀k x,Gl w.heap.size (GG k x)) (S7:∀w,G w->∀z,Gl w.heap.size (GX z))
    (hMM:∀k x,I k x->∀p∈MM k x,p∈MM 0 x0\/bJ p.2=false) (hMX:∀c z,IX c z->∀p∈MX z,p∈MM 0 x0\/bJ p.2=false)
    (Nz:∀k av x l D rc n W1,w0.heap.size<=D->w0.heap.size<=l->(∀k x,Pl l rc (fun w=>GG k x w/\KW n W1 w))->rc.defers=D->A[k]? =some av->I k x->
      af P (some l) N assign (Exit.then (asK P l rc body (rdQ l rc [(D,.deferred (some []))] S w0 (KW n W1) (MM (k+1)) (GG (k+1)) (I (k+1)) MX GX IX)) never)
      (Mf (ps.toList.zip av.toList) e) [] ((l,.loop rc)::([(D,.deferred (some []))] ++MM k x)) S w0 (fun w=>GG k x w/\KW n W1 w))
    (Pv:∀x D,w0.heap.size<=D->I A.length x->QM N Q .normal e (D::ds) ([(D,.deferred (some []))] ++MM A.length x) S w0 (GG A.length x))
    (Wh:∀z D,w0.heap.size<=D->IX .ret z->QM N Q .ret e (D::ds) ([(D,.deferred (some []))] ++MX z) S w0 (GX z))
    (My:∀id z D,w0.heap.size<=D->IX (.exit id) z->QM N Q (.exit id) e (D::ds) ([(D,.deferred (some []))] ++MX z) S w0 (GX z)):
    af P none N (.rangeFunc g ps assign body) Q e ds M S w0 G:=fun w hm hc Sw a hf hd=>by
  refine wpIn_rangeFunc ?_
  intro fn _
  have hbk:Bk w.heap.size w ((w.alloc (.deferred (some []))).alloc (.loop (lM fn a.tmps ps assign body w.heap.size))):=(Ext.bk (bw w _)).trans (Ext.bk (bw _ _))
  have hm1:Mem ((w.alloc (.deferred (some []))).alloc (.loop (lM fn a.tmps ps assign body w.heap.size))) ((w.heap.size+1,.loop (lM fn a.tmps ps assign body w.heap.size))::([(w.heap.size,.deferred (some []))] ++MM 0 x0)):=by
    rw [hM0]
    have:=((hm.alloc (.deferred (some []))).alloc (.loop (lM fn a.tmps ps assign body w.heap.size)))
    rwa [World.size_alloc] at this
  generalize hW:(w.alloc (.deferred (some []))).alloc (.loop (lM fn a.tmps ps assign body w.heap.size))=W at*
  have Ql:W.heap.size=w.heap.size+2:=by rw [<-hW];simp
  have h0:=hc.size
  have hcW:cG S w0 W:=hc.step hbk.yw (fun x hx hn=>by omega)
  refine ⟨w.heap.size+1,[mark w.heap.size],W,_,W,gf,#[.func (.yield (w.heap.size+1)) #[] #[]] ++lb,W,?_,y4 hf hg _ _,fun _ _=>trivial,?_,fun h=>(by cases h),?_⟩
  ·rw [<-hW];exact run_enterLoop_outer fn a.tmps ps assign body
  ·exact hE _ _
  ·refine KE (rc:=lM fn a.tmps ps assign body w.heap.size) (ds':=w.heap.size::ds) (MM:=MM) (GG:=GG) (I:=I) (MX:=MX) (GX:=GX) (IX:=IX) rfl rfl (by omega) ⟨hf.1,hf.2⟩ (by unfold Dm at*;simp [hd,mark]) (fun k x w1 w2 g b=>Tn w Sw k x w1 w2 g (b.mono (by omega))) (fun z w1 w2 g b=>S7 w Sw z w1 w2 g (b.mono (by omega)))
      (GY hf (l:=w.heap.size+1) (D:=w.heap.size) (m:=w.heap.size) (fn:=fn) (Dl:=[(w.heap.size,.deferred (some []))]) (W:=W) (by omega) (by omega) (by omega)
      (fun p hp=>by simp at hp;subst hp;simp only;omega) U6 MM GG I MX GX IX x0 hA TE hm1 hcW
      (Tn w Sw 0 x0 _ _ (hG0 w Sw) hbk) Hr vy hrd (Tn w Sw) (S7 w Sw)
      (fun k x hI p hp=>(hMM k x hI p hp).imp (fun h=>by rw [hM0] at h;have:=hm.lt h;omega) id) (fun c z hI p hp=>(hMX c z hI p hp).imp (fun h=>by rw [hM0] at h;have:=hm.lt h;omega) id)
      (fun k av x W1 vW hI=>Nz k av x _ _ _ _ W1 h0 (by omega) (fun k x v hv hl=>⟨Tn w Sw k x _ _ hv.1 (Bk.put hl (by omega) rfl rfl),hv.2.put (by omega) _⟩) rfl vW hI))
      (fun x hI=>Pv x _ h0 hI) (fun z hI=>Wh z _ h0 hI) (fun id z hI=>My id z _ h0 hI)

end range

/-! ### More operations -/
section
variable {P:Program} {ty:TypeId} {e:Env} {t u:TypeId} {x y:Operand}
theorem JC (op:BinOp) (t:TypeId) (x y:Operand) (a b:Option Addr) (w:World):(eqGuard op t x y (.pointer a) (.pointer b)).run P w= .ok () w:=by unfold eqGuard;cases op<;>rfl
theorem Ry {p:Option Addr} (hU:P.underlying t=some (.pointer (P.pointee t))) (hx:ev e x=some (.pointer p)) (hy:ev e y=some (.pointer none)):fo P (.binOp .neq t x y u) ty e (.bool p.isSome):=fun w ρ hρ _ _ _ _=>by
  have:(!p.isNone)=p.isSome:=by cases p<;>rfl
  simp [execOp,hρ x _ hx,hρ y _ hy,JC,run_neq_pointer_nil w t p hU,Result.andThen,this]
theorem zu (op:BinOp) (t:TypeId) (x y:Operand) (a b:ByteArray) (w:World):(eqGuard op t x y (.string a) (.string b)).run P w= .ok () w:=by unfold eqGuard;cases op<;>rfl
theorem Se {a b:ByteArray} (hx:ev e x=some (.string a)) (hy:ev e y=some (.string b)):fo P (.binOp .eql t x y u) ty e (.bool (a.toList==b.toList)):=fun w ρ hρ _ _ _ _=>by
  simp [execOp,hρ x _ hx,hρ y _ hy,zu,binOp,Op.stringOp,Result.andThen]
theorem R8 {a b:ByteArray} (hx:ev e x=some (.string a)) (hy:ev e y=some (.string b)):fo P (.binOp .neq t x y u) ty e (.bool (!(a.toList==b.toList))):=fun w ρ hρ _ _ _ _=>by
  simp [execOp,hρ x _ hx,hρ y _ hy,zu,binOp,Op.stringOp,Result.andThen]
theorem HN {a:Int} {c:Nat} (had:ad=some ⟨b,off,none⟩) (hU:P.underlying t=some (.slice E)) (hS:∀w,(sizeOf E).run P w= .ok s w) (ha:ev e x=some (.slice ad n c)) (hi:ev e y=some (.int k a)) (h:0<=a/\a<n):
    fo P (.indexAddr t x y) ty e (.pointer (some ⟨b,off+a.toNat*s,none⟩)):=by subst had;exact Yc hU hS ha hi h
def Wy (e:Env):List (Nat×Operand)->Option (List (Nat×Value))
  | [] =>some []
  |(i,x)::l=>match ev e x,Wy e l with|some v,some vs=>some ((i,v)::vs)|_,_=>none
theorem AL {ρ:Operand->Value} (hρ:∀x u,ev e x=some u->ρ x=u):∀{l:List (Nat×Operand)} {vs:List (Nat×Value)},Wy e l=some vs->l.map (fun p=>(p.1,ρ p.2))=vs
  | [],vs,h=>by simp only [Wy,Option.some.injEq] at h;subst h;rfl
  |(i,x)::l,vs,h=>by
    simp only [Wy] at h
    cases hx:ev e x with
    |none=>rw [hx] at h;cases h
    |some v=>
      cases hl:Wy e l with
      |none=>rw [hx,hl] at h;cases h
      |some us=>
        rw [hx,hl] at h
        obtain rfl:=Option.some.inj h
        simp [hρ x v hx,AL hρ hl]
theorem aE {l:List (Nat×Operand)} {vs:List (Nat×Value)} (h:Wy e l=some vs) (hb:P.built t vs=some cs):fo P (.build t l.toArray) ty e (.agg cs):=fun w ρ hρ _ _ _ _=>by
  have h1:=run_build (P:=P) w t vs.toArray cs (by simpa using hb)
  have h2:l.toArray.map (fun (i,x)=>(i,ρ x))=vs.toArray:=by rw [List.map_toArray];congr 1;exact AL hρ h
  simp only [execOp]
  rw [h2]
  simp [h1]
end

/-! ### '[]T{a, b, ..}' -/
theorem zP (o:Nat):∀(vs:List Value) (k:Nat) (acc:Array Value),(vs.zipIdx k).foldl (fun cs (p:Value×Nat)=>cs.setIfInBounds (o+p.2) p.1) acc=kS acc (o+k) vs
  | [],k,acc=>rfl
  |v::vs,k,acc=>by
    simp only [List.zipIdx_cons,List.foldl_cons,kS]
    exact zP o vs (k+1) _
theorem Ex:∀(vs:List Value) (pre oQ Zy:List Value),oQ.length=vs.length->kS (pre++(oQ++Zy)).toArray pre.length vs=(pre++(vs++Zy)).toArray
  | [],pre,oQ,Zy,h=>by
    have:oQ=[] :=List.eq_nil_of_length_eq_zero (by simpa using h)
    subst this;rfl
  |v::vs,pre,[],Zy,h=>by simp at h
  |v::vs,pre,o::oQ,Zy,h=>by
    simp only [kS,List.setIfInBounds_toArray]
    rw [List.set_append_right _ _ (Nat.le_refl _),Nat.sub_self,List.cons_append,List.set_cons_zero]
    have:=Ex vs (pre++ [v]) oQ Zy (by simpa using h)
    simpa using this
theorem DN {s:Nat} :∀(vs:List Value) (k:Nat) (pre oQ:List Value),vs.all (fun v=>v.cells.size==s)=true->pre.length=k*s->oQ.length=vs.length*s->
    Instr.fill (fun i=>some (i*s,s)) (pre++oQ).toArray ((vs.zipIdx k).map fun p=>(p.2,p.1))=some (pre++vs.flatMap (fun v=>v.cells.toList)).toArray
  | [],k,pre,oQ,_,hp,ho=>by
    have:oQ=[] :=List.eq_nil_of_length_eq_zero (by simpa using ho)
    subst this;simp [Instr.fill]
  |v::vs,k,pre,oQ,hv,hp,ho=>by
    simp only [List.all_cons,Bool.and_eq_true,beq_iff_eq] at hv
    have hlen:oQ.length=(vs.length+1)*s:=by simpa using ho
    rw [Nat.succ_mul] at hlen
    have h4:¬(v.cells.size≠s\/k*s+v.cells.size > (pre++oQ).toArray.size):=by simp [hv.1];omega
    simp only [List.zipIdx_cons,List.map_cons,Instr.fill]
    have hb:(v.cells.size≠s||k*s+v.cells.size > (pre++oQ).toArray.size)=false:=by
      rw [Bool.eq_false_iff];intro h;simp only [Bool.or_eq_true,decide_eq_true_eq] at h;exact h4 h
    rw [hb]
    simp only [Bool.false_eq_true,if_false]
    have h5:v.cells.zipIdx.foldl (fun cs (p:Value×Nat)=>cs.setIfInBounds (k*s+p.2) p.1) (pre++oQ).toArray=(pre++(v.cells.toList++oQ.drop s)).toArray:=by
      rw [<-Array.foldl_toList,Array.toList_zipIdx,zP]
      have:=Ex v.cells.toList pre (oQ.take s) (oQ.drop s) (by simp [hv.1];omega)
      rw [List.take_append_drop] at this
      rw [Nat.add_zero,<-hp];exact this
    have h6:=DN vs (k+1) (pre++v.cells.toList) (oQ.drop s) hv.2 (by simp [hv.1,hp];rw [Nat.succ_mul]) (by simp;omega)
    simp only [List.append_assoc] at h6
    simp only [List.flatMap_cons]
    rw [<-h6]
    congr 1
section
variable {P:Program} {r:Option Nat} {N:Nat} {Q:Exit->Act->World->Prop} {e:Env} {ds:List Nat} {M:ab} {S:Nat->Prop} {w0:World} {G:World->Prop}
variable {ops:Array Oper} {l:List Oper} {ty:TypeId} {pos:String} {after:Array Edge} {d:Nat} {t:TypeId}
theorem LM.row [GS G] {l':List (Nat×Operand)} (hU:P.underlying t=some (.slice E)) (hS:∀w,(sizeOf E).run P w= .ok s w) (hZ:∀w,(zeroValue E).run P w= .ok z w) (hn:vs.length=n) (hs:Nat.blt 0 (n*s)=true) (qx:Nat.blt (n*s) 1000=true) (hd:Nat.blt d N=true)
    (hx:Wy e l'=some (vs.zipIdx.map fun p=>(p.2,p.1))) (hv:vs.all (fun v=>v.cells.size==s)=true)
    (h:∀b,w0.heap.size<=b->LM P r N ops Q l ((d,.slice (some ⟨b,0,none⟩) n n)::e) ds ((b,.cells (vs.flatMap (fun v=>v.cells.toList)).toArray E (0,0))::M) S w0 G):LM P r N ops Q (⟨some d,.buildSlice t n l'.toArray,ty,pos,after,none⟩::l) e ds M S w0 G:=fun w hm hc hg=>by
  have h0:0<n*s:=Nat.le_of_ble_eq_true hs
  have abv:n*s<1000:=Nat.le_of_ble_eq_true qx
  have ec:¬n*s=0:=by omega
  have an2:¬(n=0\/s=0):=by intro h;rcases h with rfl|rfl<;>simp at ec
  have WB:¬(16777216<n*s):=by omega
  have Ho:=DN (s:=s) vs 0 [] ((Array.range (n*s)).map (z.cells[· % z.cells.size]!)).toList hv (by simp) (by simp [hn])
  simp only [List.nil_append,Array.toArray_toList] at Ho
  refine LE.val (w':=w.alloc (.cells (vs.flatMap (fun v=>v.cells.toList)).toArray E)) (fun ρ hρ _ _ _ _=>?_) (h w.heap.size hc.size _ (hm.alloc _) (hc.step (bw w _) (fun _ _ q=>q.elim)) (GS.ext w _ hg (bw w _))) rfl hd
  have hp:=AL hρ hx
  have h2:(l'.toArray.map (fun (p:Nat×Operand)=>(p.1,ρ p.2)))=(vs.zipIdx.map fun p=>(p.2,p.1)).toArray:=by rw [List.map_toArray,hp]
  simp only [execOp]
  rw [h2]
  simp only [Instr.buildSlice]
  simp [run_underlying hU,hS,hZ,if_neg ec,WB,Ho,newRow,Result.andThen]
end

/-! ### A slice that is read -/
def Sr {α:Type} (f:α->List Value) (s:Nat) (xs:List α) (v:Value) (w:World):Prop:=
  ∃ad cap,v= .slice ad xs.length cap/\xs.length<=cap/\(0<xs.length->∃b off cs E fz,ad=some ⟨b,off,none⟩/\w.heap[b]? =some (.cells cs E fz)/\∀i a,xs[i]? =some a->∀j,j<s->cs[off+(i*s+j)]? =(f a)[j]?)
theorem Sr.ext {f:α->List Value} {xs:List α} (h:Sr f s xs v w) (k:Ext w w'):Sr f s xs v w':=by
  obtain ⟨ad,cap,h1,h2,h3⟩:=h
  refine ⟨ad,cap,h1,h2,fun hx=>?_⟩
  obtain ⟨b,off,cs,E,fz,h4,h5,h6⟩:=h3 hx
  exact⟨b,off,cs,E,fz,h4,k.get h5,h6⟩
theorem Sr.keep {f:α->List Value} {xs:List α} {S:Nat->Prop} (h:Sr f s xs v w) (k:cG S w w') (hS:∀b off n c,v= .slice (some ⟨b,off,none⟩) n c->¬S b):Sr f s xs v w':=by
  obtain ⟨ad,cap,h1,h2,h3⟩:=h
  refine ⟨ad,cap,h1,h2,fun hx=>?_⟩
  obtain ⟨b,off,cs,E,fz,h4,h5,h6⟩:=h3 hx
  exact⟨b,off,cs,E,fz,h4,k.get h5 (hS b off _ _ (by rw [h1,h4])),h6⟩
theorem Sr.take {α:Type} {f:α->List Value} {s:Nat} {xs:List α} {ad:Option Addr} {n cap:Nat} {w:World} (h:Sr f s xs (.slice ad n cap) w) {k:Nat} (hk:k<=xs.length):Sr f s (xs.take k) (.slice ad k cap) w:=by
  obtain ⟨BP,mD,h1,h2,h3⟩:=h
  simp only [Value.slice.injEq] at h1
  obtain ⟨rfl,rfl,rfl⟩:=h1
  have hl:(xs.take k).length=k:=by simp;omega
  refine ⟨ad,cap,by rw [hl],by omega,fun hx=>?_⟩
  obtain ⟨b,off,cs,E,fz,h4,h5,h6⟩:=h3 (by omega)
  refine ⟨b,off,cs,E,fz,h4,h5,fun i a ha j hj=>h6 i a ?_ j hj⟩
  rw [List.getElem?_take] at ha
  split at ha
  ·exact ha
  ·cases ha
theorem Sl.sr {f:α->List Value} {E:Nat} {xs:List α} {m:ab} (h:Sl f E s n0 xs v m) (hf:∀a,(f a).length=s) (hm:∀p∈m,w.heap[p.1]? =some p.2):Sr f s xs v w:=by
  rcases h with ⟨rfl,_,rfl⟩|⟨b,cap,bH,_,rfl,rfl,h1,_,_⟩
  ·exact⟨none,0,rfl,Nat.le_refl _,fun h=>by simp at h⟩
  · refine ⟨_,cap,rfl,h1,fun _=>⟨b,0,_,_,_,rfl,hm _ (List.mem_singleton.2 rfl),fun i a ha j hj=>?_⟩⟩
    rw [Nat.zero_add];exact mJ hf ha hj
theorem Sr.open {f:α->List Value} {xs:List α} (h:Sr f s xs (.slice ad n cap) w):n=xs.length/\xs.length<=cap/\
    (0<xs.length->∃b off cs E fz,ad=some ⟨b,off,none⟩/\w.heap[b]? =some (.cells cs E fz)/\∀i a,xs[i]? =some a->∀j,j<s->cs[off+(i*s+j)]? =(f a)[j]?):=by
  obtain ⟨_,_,he,h2,h3⟩:=h
  simp only [Value.slice.injEq] at he
  obtain ⟨rfl,rfl,rfl⟩:=he
  exact⟨rfl,h2,h3⟩
theorem Sr.nil (f:α->List Value) (s:Nat) (w:World):Sr f s [] (.slice none 0 0) w:=⟨none,0,rfl,Nat.le_refl _,fun h=>by simp at h⟩
section
variable {P:Program} {N:Nat} {e:Env} {M:ab} {S:Nat->Prop} {w0:World} {G:World->Prop} {t ty:TypeId} {x:Operand}
/-- A cell of an element. -/
theorem abZ {f:α->List Value} {xs:List α} {k:Nat} {a:α} (hT:∀w,(isAgg t).run P w= .ok false w) (ha:ev e x=some (.pointer (some ⟨b,k,none⟩)))
    (hb:w0.heap[b]? =some (.cells cs E fz)) (hr:∀i a,xs[i]? =some a->∀j,j<s->cs[off+(i*s+j)]? =(f a)[j]?) (hi:xs[i]? =some a) (hj:j<s) (hk:k=off+(i*s+j)) (hv:(f a)[j]? =some v) (hS:¬S b):∀w,Mem w M->cG S w0 w->G w->tn P (.load t x) ty e w v w:=fun w _ hc _ ρ hρ _ _ _ _=>by
  have h1:=hr i a hi j hj
  rw [<-hk,hv] at h1
  have h:=jg (P:=P) (hc.get hb hS) h1
  simp [execOp,Instr.loadAt,Instr.sureAddr,hρ x _ ha,loadVar,hT,h,Result.andThen]
/-- An element. -/
theorem XC {f:α->List Value} {xs:List α} {k:Nat} {a:α} (hT:∀w,(isAgg t).run P w= .ok true w) (hZ:∀w,(sizeOf t).run P w= .ok s w) (ha:ev e x=some (.pointer (some ⟨b,k,none⟩)))
    (hb:w0.heap[b]? =some (.cells cs E fz)) (hr:∀i a,xs[i]? =some a->∀j,j<s->cs[off+(i*s+j)]? =(f a)[j]?) (hi:xs[i]? =some a) (hk:k=off+i*s) (hl:(f a).length=s) (hS:¬S b):∀w,Mem w M->cG S w0 w->G w->tn P (.load t x) ty e w (.agg (f a).toArray) w:=fun w _ hc _ ρ hρ _ _ _ _=>by
  have h:=gw (P:=P) (off:=k) (vs:=f a) hT hZ (hc.get hb hS) hl (fun j v hj=>by
    have bo:j<s:=by rw [<-hl];exact(List.getElem?_eq_some_iff.1 hj).1
    have:=hr i a hi j bo
    rw [hk,Nat.add_assoc,this];exact hj)
  simp [execOp,Instr.loadAt,Instr.sureAddr,hρ x _ ha,h,Result.andThen]
end

/-! ### An iterator's own code -/
section
variable {P:Program} {r:Option Nat} {N:Nat} {Q:Exit->Act->World->Prop} {e:Env} {ds:List Nat} {M:ab} {S:Nat->Prop} {w0:World} {G:World->Prop}
variable {ops:Array Oper} {rest:List Oper} {ty:TypeId} {pos:String} {after:Array Edge} {d:Nat}
theorem LM.yield {n l:Nat} {g:Operand} {la:List Operand} {args:List Value} {BU:Array TypeId} {G1 G2:World->Prop} (hg:ev e g=some (.func (.yield l) #[] #[])) (ha:Jy e la=some args)
    (hy:∀w,G w->YR P l args.toArray w (fun b w2=>((b=true/\G1 w2)\/(b=false/\G2 w2))/\KW n w w2)) (hS:∀b,S b)
    (ht:LM P r N ops Q rest ((d,.bool true)::e) ds [] S w0 G1) (hf:LM P r N ops Q rest ((d,.bool false)::e) ds [] S w0 G2) (hd:Nat.blt d N=true:=by rfl):
    LM P r N ops Q (⟨some d,.call {callee:= .value g,args:=la.toArray,argTypes:=BU},ty,pos,after,none⟩::rest) e ds [] S w0 G:=fun w hm hc Sw a I1 fk=>by
  refine wpListIn_plain rfl fun K hK=>?_
  refine ⟨fun _ _=>trivial,?_⟩
  obtain ⟨fn,tmps,assign,body,h1,h2⟩:=hy w Sw
  have agk:(execOp a.eval ⟨some d,.call {callee:= .value g,args:=la.toArray,argTypes:=BU},ty,pos,after,none⟩).run P w= .ok (.round l fn tmps assign body) w:=by
    simp [execOp,resolve,I1.eval hg,Deferred.ofValue,invoke,tg (ρ:=a.eval) (fun x u hx=>I1.eval hx) ha]
    exact h1
  rw [kh rfl,agk]
  refine ⟨fun h=>(by cases h),?_⟩
  have h3:RoundIn (Wd r) 0 P l fn tmps assign body w (fun en w'=>∃b,en= .returned (.bool b)/\((b=true/\G1 w')\/(b=false/\G2 w'))/\KW n w w'):=h2
  refine RoundIn.mono h3 ?_
  rintro en w' ⟨b,rfl,hb,hkw⟩
  have aa:cG S w0 w':=⟨hkw.os.trans hc.os,hkw.tape.trans hc.tape,hkw.output.trans hc.output,Nat.le_trans hc.size hkw.size,fun k _ hn=>absurd (hS k) hn⟩
  rcases hb with ⟨rfl,hb⟩|⟨rfl,hb⟩
  ·exact hK _ _ (ht w' (Mem.nil _) aa hb _ (I1.put hd _) fk)
  ·exact hK _ _ (hf w' (Mem.nil _) aa hb _ (I1.put hd _) fk)
end

/-! ### What the ghost knows -/
section
variable {P:Program} {r:Option Nat} {N:Nat} {Q:Exit->Act->World->Prop} {e:Env} {ds:List Nat} {M:ab} {S:Nat->Prop} {w0:World} {G:World->Prop} {ops:Array Oper} {l:List Oper}
theorem LM.yi (h:∀w,Mem w M->cG S w0 w->G w->p) (k:p->LM P r N ops Q l e ds M S w0 G):LM P r N ops Q l e ds M S w0 G:=fun w hm hc hg=>k (h w hm hc hg) w hm hc hg
end

/-! ### A function is left that has marks -/
def dM (ds:List Nat):ab:=ds.map (fun D=>(D,.deferred (some [])))
theorem sa {S:Nat->Prop} {w0:World} :∀(ds:List Nat) (w:World) (M1:ab),Mem w (dM ds++M1)->cG S w0 w->(∀D∈ds,w0.heap.size<=D)->tX ds w/\Mem (shut ds w) M1/\cG S w0 (shut ds w)
  | [],w,M1,hm,hc,_=>⟨trivial,hm,hc⟩
  |D::ds,w,M1,hm,hc,hD=>by
    have ao:Mem w ((D,.deferred (some []))::(dM ds++M1)):=hm
    have h1:=ao.get (i:=0) rfl
    have h2:=(ao.set (i:=0) rfl (World.putObj_heap_same (Array.getElem?_eq_some_iff.1 h1).1) (kE (.deferred none))).tail
    obtain ⟨h3,h4,h5⟩:=sa ds _ M1 h2 (hc.step (kE _) (fun x hx hxD=>by subst hxD;have:=hD x (List.mem_cons_self ..);omega)) (fun D' h=>hD D' (List.mem_cons_of_mem _ h))
    exact⟨⟨h1,h3⟩,h4,h5⟩
section
variable {P:Program} {fn:Func} {N:Nat} {e:Env} {ds:List Nat} {M1:ab} {S:Nat->Prop} {w0:World} {G:World->Prop} {R:Value->World->Prop} {vs:List Value}
theorem QM.Vq {x:Exit} (hx:x= .ret\/x= .normal) (rs:List ResultVar) (hr:fn.results=rs.toArray) (h:tJ e rs=some vs) (hD:∀D∈ds,w0.heap.size<=D) (hR:∀w,Mem w M1->cG S w0 w->R (bd vs) w):QM N (gZ P fn R) x e ds (dM ds++M1) S w0 G:=fun w hm hc hg=>by
  obtain ⟨h1,h2,h3⟩:=sa ds w M1 hm hc hD
  rcases hx with rfl|rfl
  ·exact .leave rs hr h h1 (hR _ h2 h3)
  ·exact .PF rs hr h h1 (hR _ h2 h3)
theorem QM.Sb {t:TypeId} {ad:Addr} (hr:fn.results=#[.cell b t]) (hb:look e b=some (.pointer (some ad))) (hD:∀D∈ds,w0.heap.size<=D) (hl:∀w,Mem w M1->(loadVar t ad).run P w= .ok v w) (hR:∀w,Mem w M1->cG S w0 w->R v w):
    QM N (gZ P fn R) .ret e ds (dM ds++M1) S w0 G:=fun w hm hc hg=>by
  obtain ⟨h1,h2,h3⟩:=sa ds w M1 hm hc hD
  exact .XS hr hb h1 (hl _ h2) (hR _ h2 h3)
end

/-! ### A call that changes some blocks -/
def fq (m:ab) (T:Value->ab->Prop) (w:World) (u:Value) (w':World):Prop:=
  cG (fun b=>∃q∈m,q.1=b) w w'/\∃m',T u m'/\Mem w' m'/\∀p∈m',w.heap.size<=p.1\/∃q∈m,q.1=p.1
section
variable {P:Program} {r:Option Nat} {N:Nat} {Q:Exit->Act->World->Prop} {e:Env} {ds:List Nat} {M:ab} {S:Nat->Prop} {w0:World} {G:World->Prop}
variable {ops:Array Oper} {l:List Oper} {op:Op} {ty:TypeId} {pos:String} {after:Array Edge} {d:Nat}
theorem wI [GT G] {m M2:ab} {T:Value->ab->Prop} {u:Value} (hm:Mem w (m++M2)) (Q1:∀p∈m,bJ p.2=false) (hS:∀p∈m,p.1<w0.heap.size->S p.1) (hc:cG S w0 w) (hg:G w) (hu:fq m T w u w'):
    ∃m',T u m'/\(∀p∈m',w0.heap.size<=p.1\/∃q∈m,q.1=p.1)/\Mem w' (m'++M2)/\cG S w0 w'/\G w':=by
  obtain ⟨he,m',hT,ao,hn⟩:=hu
  have dX:=hm.1
  rw [List.map_append,List.nodup_append] at dX
  refine ⟨m',hT,fun p hp=>(hn p hp).imp (fun h=>Nat.le_trans hc.size h) id,⟨?_,?_⟩,hc.step he (fun x hx ⟨q,hq,hqx⟩=>by subst hqx;exact hS q hq hx),GT.yw _ w w' hg he (fun b o hb ho=>he.get hb ?_)⟩
  · rw [List.map_append]
    refine List.nodup_append.2 ⟨ao.1,dX.2.1,?_⟩
    intro x hx y hy hxy
    obtain ⟨p,hp,rfl⟩:=List.mem_map.1 hx
    obtain ⟨q,hq,rfl⟩:=List.mem_map.1 hy
    rcases hn p hp with h|⟨z,hz,hzp⟩
    ·have:=hm.lt (p:=q) (List.mem_append_right _ hq);omega
    ·exact dX.2.2 z.1 (List.mem_map_of_mem hz) q.1 (List.mem_map_of_mem hq) (hzp.trans hxy)
  · intro p hp
    rcases List.mem_append.1 hp with hp|hp
    ·exact ao.2 p hp
    · refine he.get (hm.2 p (List.mem_append_right _ hp)) ?_
      rintro ⟨q,hq,hqp⟩
      exact dX.2.2 q.1 (List.mem_map_of_mem hq) p.1 (List.mem_map_of_mem hp) hqp
  · rintro ⟨q,hq,hqb⟩
    have h1:=hm.2 q (List.mem_append_left _ hq)
    rw [hqb,hb] at h1;cases h1
    rw [Q1 q hq] at ho;cases ho
theorem LM.acz [GT G] {m M2:ab} {T:Value->ab->Prop} (hM:∀w,Mem w M->Mem w (m++M2)) (Q1:∀p∈m,bJ p.2=false) (hS:∀p∈m,p.1<w0.heap.size->S p.1) (hc:∀w,Ep P op ty e w f args)
    (h:∀w,Mem w (m++M2)->cG S w0 w->G w->aD P f args w (fq m T w))
    (hk:∀u m',T u m'->(∀p∈m',w0.heap.size<=p.1\/∃q∈m,q.1=p.1)->LM P r N ops Q l ((d,u)::e) ds (m'++M2) S w0 G) (dX:nd op=true:=by rfl) (hd:Nat.blt d N=true:=by rfl):
    LM P r N ops Q (⟨some d,op,ty,pos,after,none⟩::l) e ds M S w0 G:=
  .call hc (fun w hm jy hg=>h w (hM w hm) jy hg) (fun w u w' hm jy hg hu=>by
    obtain ⟨m',hT,h1,h2,h3,h4⟩:=wI (hM w hm) Q1 hS jy hg hu
    exact hk u m' hT h1 w' h2 h3 h4) dX hd
end

/-- An iterator's contract out of its body. -/
theorem yR.enter {lb:List Value} {A:List (Array Value)} {Rd:World->Prop} {fin:Prop}
    (hf:P.funcs[f]? =some fn) (hb:fn.body=some c) {N:Nat} (hN:fn.ntmps=N) (hl:Nat.ble (lb.length+1) N=true)
    (h:∀(l n:Nat) (J:Nat->World->Prop) (Jx:World->Prop) (w0:World),(fin\/∀w,¬J A.length w)->(∀k w,J k w->Rd w)->(∀k,GS (J k))->GS Jx->
      (∀k a w,A[k]? =some a->J k w->YR P l a w (fun b w2=>((b=true/\J (k+1) w2)\/(b=false/\Jx w2))/\KW n w w2))->
      af P none N c (gZ P fn (fun _ w'=>J A.length w'\/Jx w')) (uX 0 (.func (.yield l) #[] #[] ::lb)) [] [] (fun _=>True) w0 (J 0)):yR P f lb.toArray A Rd fin:=fun l J Jx W vy Hg hJb agf hy h0=>by
  have h1:(#[Value.func (.yield l) #[] #[]] ++lb.toArray)=(Value.func (.yield l) #[] #[] ::lb).toArray:=by simp
  rw [h1]
  refine aD.Vz hf hb hN (by simpa using hl) [] (fun _=>True) (J 0) (Mem.nil W) h0 ?_
  exact h l W.heap.size J Jx W vy Hg (fun k=>⟨fun w w' hj he=>hJb k w w' hj (Ext.bk he)⟩) ⟨fun w w' hj he=>agf w w' hj (Ext.bk he)⟩ hy

def Uo:List (Int×Value)->Int->Nat->Option (Nat×Value)
  | [],_,_=>none
  |(b,v)::l,a,i=>if a=b then some (i,v) else Uo l a (i+1)
def ahq (l:List (Int×Value)) (a:Int):Option Value:=(Uo l a 0).map (·.2)
section
variable {P:Program} {r:Option Nat} {N:Nat} {Q:Exit->Act->World->Prop} {e:Env} {ds:List Nat} {M:ab} {S:Nat->Prop} {w0:World} {G:World->Prop}
variable {ops:Array Oper} {l:List Oper} {ty:TypeId} {pos:String} {after:Array Edge} {d:Nat} {t:TypeId} {x y z:Operand}
end

/-! ### Finding -/
class qo (M:ab) (b:Nat) (o:outParam Obj) (M2:outParam ab):Prop where
  perm:M.Perm ((b,o)::M2)
instance (priority:=high) abr {M:ab} {b:Nat} {o:Obj} :qo ((b,o)::M) b o M:=⟨.refl _⟩
instance aaA {M M2:ab} {b:Nat} {o:Obj} {p:Nat×Obj} [h:qo M b o M2] :qo (p::M) b o (p::M2):=⟨(h.perm.cons p).trans (.swap _ _ _)⟩
instance aep {M M2 m:ab} {b:Nat} {o:Obj} [h:qo M b o M2] :qo (m++M) b o (m++M2):=⟨(h.perm.append_left m).trans List.perm_middle⟩
class rC (M m:ab) (M2:outParam ab):Prop where
  perm:M.Perm (m++M2)
instance (priority:=high) aay {m M:ab} :rC (m++M) m M:=⟨.refl _⟩
instance (priority:=high) aeF {m:ab} :rC m m [] :=⟨by simp⟩
instance abD {M M2 m:ab} {p:Nat×Obj} [h:rC M m M2] :rC (p::M) m (p::M2):=⟨(h.perm.cons p).trans List.perm_middle.symm⟩
instance adY {M M2 m q:ab} [h:rC M m M2] :rC (q++M) m (q++M2):=⟨(h.perm.append_left q).trans (by rw [<-List.append_assoc,<-List.append_assoc];exact List.perm_append_comm.append_right _)⟩
instance (priority:=high+1) adZ {M:ab} :rC M [] M:=⟨.refl _⟩
instance (priority:=low) acn {M M1 M2 m m':ab} [h:rC M m M1] [k:rC M1 m' M2] :rC M (m++m') M2:=⟨h.perm.trans (by rw [List.append_assoc];exact k.perm.append_left m)⟩
instance (priority:=low) ae1 {M M1 M2 m:ab} {b:Nat} {o:Obj} [h:qo M b o M1] [k:rC M1 m M2] :rC M ((b,o)::m) M2:=⟨h.perm.trans (k.perm.cons _)⟩
instance (priority:=low) aa5 {M m m2:ab} {b:Nat} {o:Obj} [h:qo m b o m2] :qo (m++M) b o (m2++M):=⟨h.perm.append_right M⟩
instance (priority:=low) aad {M q q2 m:ab} [h:rC q m q2] :rC (q++M) m (q2++M):=⟨by rw [<-List.append_assoc];exact h.perm.append_right M⟩
def aJ (M M':ab):Prop:=∃R,M.Perm (M'++R)
theorem aJ.nil (M:ab):aJ M [] :=⟨M,.refl _⟩
theorem aJ.all (M:ab):aJ M M:=⟨[],by simp⟩
theorem aJ.cons {M M2 M':ab} {b:Nat} {o o':Obj} [h:qo M b o M2] (e:o=o') (k:aJ M2 M'):aJ M ((b,o')::M'):=by
  obtain ⟨R,hR⟩:=k;subst e;exact⟨R,h.perm.trans (hR.cons _)⟩
theorem aJ.app {M m M2 M':ab} [h:rC M m M2] (k:aJ M2 M'):aJ M (m++M'):=by
  obtain ⟨R,hR⟩:=k;exact⟨R,h.perm.trans (by rw [List.append_assoc];exact hR.append_left m)⟩
theorem aJ.mem {M M':ab} (h:aJ M M') (w:World) (hm:Mem w M):Mem w M':=by
  obtain ⟨R,hR⟩:=h
  exact(hm.perm hR).sub (List.sublist_append_left _ _)
theorem qo.get {M M2:ab} {b:Nat} {o:Obj} (h:qo M b o M2) {w:World} (hm:Mem w M):w.heap[b]? =some o:=(hm.perm h.perm).get (i:=0) rfl
theorem rC.mem {M m M2:ab} (h:rC M m M2) (hm:Mem w M):Mem w m:=(hm.perm h.perm).sub (List.sublist_append_left _ _)
theorem Mem.pick {M M2:ab} (hm:Mem w M) (m:ab) [h:rC M m M2]:Mem w m:=h.mem hm
theorem rC.all {M m M2:ab} (h:rC M m M2) (w:World) (hm:Mem w M):Mem w (m++M2):=hm.perm h.perm
theorem Sl.l7 {f:α->List Value} {E:Nat} {xs:List α} {m M M2:ab} (h:Sl f E s n0 xs v m) (hf:∀a,(f a).length=s) (hm:Mem w M) [k:rC M m M2]:Sr f s xs v w:=
  h.sr hf (fun p hp=>(k.mem hm).2 p hp)

/-! ### Where a slice lies -/
def ox (ad:Option Addr):Nat:=match ad with|some a=>a.block|none=>0
def FN (ad:Option Addr):Nat:=match ad with|some a=>a.off|none=>0
def Spt (n:Nat) (ad:Option Addr):Prop:=0<n->ad=some ⟨ox ad,FN ad,none⟩
theorem Sr.Uz {f:α->List Value} {xs:List α} (h:Sr f s xs (.slice ad n cap) w):Spt n ad:=fun hn=>by
  obtain ⟨rfl,_,h3⟩:=h.open
  obtain ⟨b,off,cs,E,fz,rfl,_⟩:=h3 hn
  rfl
theorem Sl.Uz {f:α->List Value} {E:Nat} {xs:List α} {m:ab} (h:Sl f E s n0 xs (.slice ad n cap) m):Spt n ad:=fun hn=>by
  rcases h with ⟨h,_⟩|⟨b,c,bH,_,h,_⟩
  ·simp only [Value.slice.injEq] at h;omega
  ·simp only [Value.slice.injEq] at h;obtain ⟨rfl,_,_⟩:=h;rfl
theorem Sl.len {f:α->List Value} {E:Nat} {xs:List α} {m:ab} (h:Sl f E s n0 xs (.slice ad n cap) m):n=xs.length/\xs.length<=maxLen/\xs.length<=cap:=by
  rcases h with ⟨h,_,rfl⟩|⟨b,c,bH,_,h,_,h1,h2,_⟩
  ·simp only [Value.slice.injEq] at h;obtain ⟨_,rfl,rfl⟩:=h;exact⟨rfl,Nat.zero_le _,Nat.zero_le _⟩
  ·simp only [Value.slice.injEq] at h;obtain ⟨rfl,rfl,rfl⟩:=h;exact⟨rfl,by omega,h1⟩
theorem Sl.open {f:α->List Value} {E:Nat} {xs:List α} {m:ab} (h:Sl f E s n0 xs (.slice ad n cap) m) (hn:0<xs.length):
    ∃bH,n0<=ox ad/\ad=some ⟨ox ad,0,none⟩/\n=xs.length/\m=[(ox ad,.cells (arr f xs bH) E (0,0))]/\xs.length*s+bH.length=cap*s:=by
  obtain ⟨b,c,bH,h0,h1,h2,h3,h4,h5⟩:=h.ne hn
  simp only [Value.slice.injEq] at h1;obtain ⟨rfl,rfl,rfl⟩:=h1
  exact⟨bH,h0,rfl,rfl,h2,h5⟩
theorem aH {xs:List α} (d:α) (h:i<xs.length):xs[i]? =some (xs.getD i d):=by
  rw [List.getD_eq_getElem?_getD,List.getElem?_eq_getElem h];rfl
theorem bQ {xs:List α} (d:α) (h:i<xs.length):xs.take (i+1)=xs.take i++ [xs.getD i d] :=by
  rw [List.take_add_one,aH d h];rfl
section
variable {P:Program} {ty:TypeId} {e:Env} {M:ab} {x y:Operand} {t:TypeId}
theorem c4 {a:Int} {c:Nat} (hp:Spt n ad) (hU:P.underlying t=some (.slice E)) (hS:∀w,(sizeOf E).run P w= .ok s w) (ha:ev e x=some (.slice ad n c)) (hi:ev e y=some (.int k a)) (h:0<=a/\a<n):
    fo P (.indexAddr t x y) ty e (.pointer (some ⟨ox ad,FN ad+a.toNat*s,none⟩)):=HN (hp (by omega)) hU hS ha hi h
theorem gh {c:Nat} (hp:Spt n ad) (hU:P.underlying t=some (.slice E)) (hS:∀w,(sizeOf E).run P w= .ok s w) (ha:ev e x=some (.slice ad n c)) (hi:ev e y=some (.int k (i:Nat))) (h:i<n):
    fo P (.indexAddr t x y) ty e (.pointer (some ⟨ox ad,FN ad+i*s,none⟩)):=by
  have:=HN (P:=P) (ty:=ty) (hp (by omega)) hU hS ha hi (by omega);simpa using this
/-- an array by its address -/
theorem Cd (hU:P.underlying t=some (.array n E)) (hS:∀w,(sizeOf E).run P w= .ok s w) (ha:ev e x=some (.pointer (some ⟨b,off,none⟩))) (hi:ev e y=some (.int k (i:Nat))) (h:i<n):
    fo P (.indexAddr t x y) ty e (.pointer (some ⟨b,off+i*s,none⟩)):=by
  have:=Ib (P:=P) (ty:=ty) hU hS ha hi (by omega);simpa using this

/-! loads -/
theorem iL {M2:ab} (hT:∀w,(isAgg t).run P w= .ok false w) (ha:ev e x=some (.pointer (some ⟨b,off,none⟩)))
    [h:qo M b (.cells cs E fz) M2] (hc:cs[off]? =some v):∀w,Mem w M->tn P (.load t x) ty e w v w:=fun w hm=>vC 0 hT ha (M:=(b,_)::M2) rfl hc w (hm.perm h.perm)
theorem ke {M2:ab} (hT:∀w,(isAgg t).run P w= .ok true w) (hS:∀w,(sizeOf t).run P w= .ok n w) (ha:ev e x=some (.pointer (some ⟨b,off,none⟩)))
    [h:qo M b (.cells cs E fz) M2] (hn:vs.length=n) (hc:Cs cs off vs):∀w,Mem w M->tn P (.load t x) ty e w (.agg vs.toArray) w:=fun w hm=>D9 0 hT hS ha (M:=(b,_)::M2) rfl hn hc w (hm.perm h.perm)
theorem aR {M2:ab} (hT:∀w,(isAgg t).run P w= .ok true w) (hS:∀w,(sizeOf t).run P w= .ok n w) (ha:ev e x=some (.pointer (some ⟨b,0,none⟩)))
    [h:qo M b (.cells cs E fz) M2] (hn:cs.size=n):∀w,Mem w M->tn P (.load t x) ty e w (.agg cs) w:=fun w hm=>by
  have h2:=gw (P:=P) (off:=0) (vs:=cs.toList) hT hS (h.get hm) (by simpa using hn) (fun j v hj=>by rw [Nat.zero_add];simpa using hj)
  intro ρ hρ _ _ _ _
  simp [execOp,Instr.loadAt,Instr.sureAddr,hρ x _ ha,h2,Result.andThen]
/-- a cell of an element of a block of elements -/
theorem Mq {f:α->List Value} {xs:List α} {a:α} {M2:ab} (hf:∀a,(f a).length=s) (hT:∀w,(isAgg t).run P w= .ok false w) (ha:ev e x=some (.pointer (some ⟨b,off,none⟩)))
    [h:qo M b (.cells (arr f xs bH) E fz) M2] (hi:xs[i]? =some a) (ho:off=i*s+j) (hj:Nat.blt j s=true) (hv:(f a)[j]? =some v):∀w,Mem w M->tn P (.load t x) ty e w v w:=
  iL hT ha (by rw [ho,mJ hf hi (Nat.le_of_ble_eq_true hj),hv])
theorem WJ {f:α->List Value} {xs:List α} {a:α} (hf:∀a,(f a).length=s) (hi:xs[i]? =some a):Cs (arr f xs bH) (i*s) (f a):=by
  have key:∀(vs:List Value) (j:Nat),(f a).drop j=vs->Cs (arr f xs bH) (i*s+j) vs:=by
    intro vs
    induction vs with
    |nil=>intro j _;trivial
    |cons v vs ih=>
      intro j hj
      have bo:j<(f a).length:=by
        apply Nat.lt_of_not_le;intro h;rw [List.drop_of_length_le h] at hj;cases hj
      rw [List.drop_eq_getElem_cons bo] at hj
      injection hj with h1 h2
      exact⟨by rw [mJ hf hi (by rw [<-hf a];exact bo),<-h1,List.getElem?_eq_getElem bo],ih (j+1) h2⟩
  have:=key (f a) 0 rfl
  rwa [Nat.add_zero] at this
theorem Rg {f:α->List Value} {xs:List α} {a:α} {M2:ab} (hf:∀a,(f a).length=s) (hT:∀w,(isAgg t).run P w= .ok true w) (hS:∀w,(sizeOf t).run P w= .ok s w) (ha:ev e x=some (.pointer (some ⟨b,off,none⟩)))
    [h:qo M b (.cells (arr f xs bH) E fz) M2] (hi:xs[i]? =some a) (ho:off=i*s):∀w,Mem w M->tn P (.load t x) ty e w (.agg (f a).toArray) w:=
  ke hT hS ha (hf a) (by rw [ho];exact WJ hf hi)
/-- a cell of an element of an own slice -/
theorem aL {f:α->List Value} {F:Nat} {xs:List α} {m M2:ab} {a:α} (jL:Sl f F s n0 xs (.slice ad n cap) m) (hf:∀a,(f a).length=s) (hT:∀w,(isAgg t).run P w= .ok false w)
    (ha:ev e x=some (.pointer (some ⟨ox ad,off,none⟩))) (ho:off=FN ad+i*s+j) [h:rC M m M2] (hi:xs[i]? =some a) (hj:Nat.blt j s=true) (hv:(f a)[j]? =some v):∀w,Mem w M->tn P (.load t x) ty e w v w:=fun w hm=>by
  subst ho
  obtain ⟨bH,h0,h1,h2,rfl,_⟩:=jL.open (List.length_pos_of_mem (List.mem_of_getElem? hi))
  have h3:FN ad=0:=by rw [h1];rfl
  rw [h3,Nat.zero_add] at ha
  exact Mq (M:=(ox ad,.cells (arr f xs bH) F (0,0))::M2) hf hT ha hi rfl hj hv w (hm.perm h.perm)
theorem tP {f:α->List Value} {F:Nat} {xs:List α} {m M2:ab} {a:α} (jL:Sl f F s n0 xs (.slice ad n cap) m) (hf:∀a,(f a).length=s) (hT:∀w,(isAgg t).run P w= .ok true w) (hS:∀w,(sizeOf t).run P w= .ok s w)
    (ha:ev e x=some (.pointer (some ⟨ox ad,FN ad+i*s,none⟩))) [h:rC M m M2] (hi:xs[i]? =some a):∀w,Mem w M->tn P (.load t x) ty e w (.agg (f a).toArray) w:=fun w hm=>by
  obtain ⟨bH,h0,h1,h2,rfl,_⟩:=jL.open (List.length_pos_of_mem (List.mem_of_getElem? hi))
  have h3:FN ad=0:=by rw [h1];rfl
  rw [h3,Nat.zero_add] at ha
  exact Rg (M:=(ox ad,.cells (arr f xs bH) F (0,0))::M2) hf hT hS ha hi rfl w (hm.perm h.perm)
variable {S:Nat->Prop} {w0:World} {G:World->Prop}
/-- a cell of an element of a slice that is read -/
theorem db {f:α->List Value} {xs:List α} {a:α} (BR:Sr f s xs (.slice ad n cap) w0) (hT:∀w,(isAgg t).run P w= .ok false w)
    (ha:ev e x=some (.pointer (some ⟨ox ad,off,none⟩))) (ho:off=FN ad+i*s+j) (hi:xs[i]? =some a) (hj:Nat.blt j s=true) (hv:(f a)[j]? =some v) (hS:¬S (ox ad)):∀w,Mem w M->cG S w0 w->G w->tn P (.load t x) ty e w v w:=by
  subst ho
  obtain ⟨rfl,_,h3⟩:=BR.open
  obtain ⟨b,off,cs,E,fz,rfl,hb,hr⟩:=h3 (List.length_pos_of_mem (List.mem_of_getElem? hi))
  exact abZ hT ha hb hr hi (Nat.le_of_ble_eq_true hj) (Nat.add_assoc _ _ _) hv hS
theorem de {f:α->List Value} {xs:List α} {a:α} (BR:Sr f s xs (.slice ad n cap) w0) (hf:∀a,(f a).length=s) (hT:∀w,(isAgg t).run P w= .ok true w) (hZ:∀w,(sizeOf t).run P w= .ok s w)
    (ha:ev e x=some (.pointer (some ⟨ox ad,FN ad+i*s,none⟩))) (hi:xs[i]? =some a) (hS:¬S (ox ad)):∀w,Mem w M->cG S w0 w->G w->tn P (.load t x) ty e w (.agg (f a).toArray) w:=by
  obtain ⟨rfl,_,h3⟩:=BR.open
  obtain ⟨b,off,cs,E,fz,rfl,hb,hr⟩:=h3 (List.length_pos_of_mem (List.mem_of_getElem? hi))
  exact XC hT hZ ha hb hr hi rfl (hf a) hS
end

section
variable {P:Program} {ty:TypeId} {e:Env} {M:ab} {x y:Operand} {t:TypeId} {S:Nat->Prop} {w0:World} {G:World->Prop}
/-- elements of one cell -/
theorem bt {f:α->List Value} {F:Nat} {xs:List α} {m M2:ab} {a:α} (jL:Sl f F 1 n0 xs (.slice ad n cap) m) (hf:∀a,(f a).length=1) (hT:∀w,(isAgg t).run P w= .ok false w)
    (ha:ev e x=some (.pointer (some ⟨ox ad,off,none⟩))) (ho:off=FN ad+i*1) [h:rC M m M2] (hi:xs[i]? =some a) (hv:(f a)[0]? =some v):∀w,Mem w M->tn P (.load t x) ty e w v w:=aL jL hf hT ha ho hi rfl hv
theorem iO {f:α->List Value} {xs:List α} {a:α} (BR:Sr f 1 xs (.slice ad n cap) w0) (hT:∀w,(isAgg t).run P w= .ok false w)
    (ha:ev e x=some (.pointer (some ⟨ox ad,off,none⟩))) (ho:off=FN ad+i*1) (hi:xs[i]? =some a) (hv:(f a)[0]? =some v) (hS:¬S (ox ad)):∀w,Mem w M->cG S w0 w->G w->tn P (.load t x) ty e w v w:=db BR hT ha ho hi rfl hv hS
end
/-! what is read of a slice in a world of which no more is known -/
section
variable {P:Program} {ty:TypeId} {e:Env} {x:Operand} {t:TypeId} {w:World}
theorem Am {f:α->List Value} {xs:List α} {a:α} (BR:Sr f s xs (.slice ad n cap) w) (hf:∀a,(f a).length=s) (hT:∀w,(isAgg t).run P w= .ok true w) (hZ:∀w,(sizeOf t).run P w= .ok s w)
    (ha:ev e x=some (.pointer (some ⟨ox ad,FN ad+i*s,none⟩))) (hi:xs[i]? =some a):tn P (.load t x) ty e w (.agg (f a).toArray) w:=de (M:=[]) (S:=no) (G:=top) BR hf hT hZ ha hi id w (Mem.nil w) (.refl _ _) trivial
end
/-- '[]T{a, b}' read as a slice -/
theorem Sr.row {f:α->List Value} {xs:List α} (h:w.heap[b]? =some (.cells cs E fz)) (vH:cs=arr f xs []) (hn:n=xs.length) (hc:xs.length<=cap) (hf:∀a,(f a).length=s):Sr f s xs (.slice (some ⟨b,0,none⟩) n cap) w:=by
  subst hn;subst vH
  exact⟨_,_,rfl,hc,fun _=>⟨b,0,_,_,_,rfl,h,fun i a ha j hj=>by rw [Nat.zero_add];exact mJ hf ha hj⟩⟩
theorem Mem.at {M M2:ab} (hm:Mem w M) (b:Nat) [h:qo M b o M2]:w.heap[b]? =some o:=h.get hm
/-! ### Stores -/
/-- the cells from a place on become others -/
def putAt (l:List Value) (j:Nat) (vs:List Value):List Value:=l.take j++vs++l.drop (j+vs.length)
theorem Ci:∀(vs:List Value) (cs:Array Value) (off q:Nat),off+vs.length<=cs.size->(kS cs off vs)[q]? =if q<off then cs[q]? else if q<off+vs.length then vs[q-off]? else cs[q]?
  | [],cs,off,q,_=>by simp only [kS,List.length_nil,Nat.add_zero];split<;>rfl
  |v::vs,cs,off,q,h=>by
    simp only [List.length_cons] at h
    simp only [kS]
    rw [Ci vs _ (off+1) q (by simp;omega)]
    by_cases h1:q<off
    ·rw [if_pos (by omega),if_pos h1,Array.getElem?_setIfInBounds_ne (by omega)]
    · rw [if_neg h1]
      by_cases h2:q=off
      · subst h2
        rw [if_pos (by omega),if_pos (by simp),Array.getElem?_setIfInBounds_self_of_lt (by omega),Nat.sub_self];rfl
      · rw [if_neg (by omega),show off+1+vs.length=off+(v::vs).length by simp;omega]
        split
        ·rw [show q-off=(q-(off+1))+1 by omega,List.getElem?_cons_succ]
        ·rw [Array.getElem?_setIfInBounds_ne (by omega)]
theorem Jd {l:List Value} {q:Nat} (h:j+vs.length<=l.length):(putAt l j vs)[q]? =if q<j then l[q]? else if q<j+vs.length then vs[q-j]? else l[q]? :=by
  unfold putAt
  by_cases h1:q<j
  ·rw [if_pos h1,List.append_assoc,List.getElem?_append_left (by rw [List.length_take];omega),List.getElem?_take_of_lt h1]
  · rw [if_neg h1,List.append_assoc,List.getElem?_append_right (by rw [List.length_take];omega),List.length_take,Nat.min_eq_left (by omega)]
    by_cases h2:q<j+vs.length
    ·rw [if_pos h2,List.getElem?_append_left (by omega)]
    ·rw [if_neg h2,List.getElem?_append_right (by omega),List.getElem?_drop];congr 1;omega
theorem PM {f:α->List Value} {xs:List α} {a a':α} (hf:∀a,(f a).length=s) (hi:xs[i]? =some a) (hj:j+vs.length<=s) (hv:f a'=putAt (f a) j vs):
    kS (arr f xs bH) (i*s+j) vs=arr f (xs.set i a') bH:=by
  have bo:i<xs.length:=(List.getElem?_eq_some_iff.1 hi).1
  have hmul:(i+1)*s<=xs.length*s:=Nat.mul_le_mul_right _ bo
  rw [Nat.succ_mul] at hmul
  have Ql:(arr f xs bH).size=xs.length*s+bH.length:=by simp [arr,ca hf]
  apply Array.ext_getElem?
  intro q
  rw [Ci _ _ _ _ (by rw [Ql];omega)]
  by_cases hq:q<xs.length*s
  · have q9:0<s:=by apply Nat.pos_of_ne_zero;rintro rfl;simp at hq
    have e1:q / s*s+q % s=q:=by rw [Nat.mul_comm];exact Nat.div_add_mod q s
    have hm:q % s<s:=Nat.mod_lt _ q9
    have hd:q / s<xs.length:=Nat.div_lt_of_lt_mul (by rwa [Nat.mul_comm])
    have hg:(arr f xs bH)[q]? =(f (xs[q / s]))[q % s]? :=by
      have:=mJ (bH:=bH) hf (List.getElem?_eq_getElem hd) hm
      rwa [e1] at this
    by_cases Yu:q / s=i
    · have jY:q=i*s+q % s:=by rw [<-Yu];exact e1.symm
      have aA:(arr f (xs.set i a') bH)[q]? =(f a')[q % s]? :=by
        have:=mJ (bH:=bH) hf (show (xs.set i a')[i]? =some a' by rw [List.getElem?_set_self bo]) hm
        rwa [<-jY] at this
      have hxa:xs[q / s] =a:=by have:=List.getElem?_eq_getElem hd;simp only [Yu] at this;rw [hi] at this;simp only [Yu];injection this with this;exact this.symm
      rw [hg,aA,hv,Jd (by rw [hf];exact hj),hxa]
      by_cases c1:q % s<j
      ·rw [if_pos (by omega),if_pos c1]
      · rw [if_neg (by omega),if_neg c1]
        by_cases c2:q % s<j+vs.length
        ·rw [if_pos (by omega),if_pos c2];congr 1;omega
        ·rw [if_neg (by omega),if_neg c2]
    · have aA:(arr f (xs.set i a') bH)[q]? =(f (xs[q / s]))[q % s]? :=by
        have:=mJ (bH:=bH) hf (show (xs.set i a')[q / s]? =some xs[q / s] by rw [List.getElem?_set_ne (Ne.symm Yu),List.getElem?_eq_getElem hd]) hm
        rwa [e1] at this
      rw [hg,aA]
      have:¬(i*s<=q/\q<i*s+s):=by
        rintro ⟨h1,h2⟩
        apply Yu
        have hl:=Nat.le_div_iff_mul_le q9 |>.2 h1
        have hr:q / s<i+1:=by rw [Nat.div_lt_iff_lt_mul q9,Nat.succ_mul];exact h2
        omega
      split
      ·rfl
      ·rw [if_neg (by omega)]
  · have xr:=ca hf xs
    have mL:=ca hf (xs.set i a')
    rw [List.length_set] at mL
    rw [if_neg (by omega),if_neg (by omega)]
    simp only [arr,List.getElem?_toArray]
    rw [List.getElem?_append_right (by omega),List.getElem?_append_right (by omega),xr,mL]
section
variable {P:Program} {r:Option Nat} {N:Nat} {Q:Exit->Act->World->Prop} {e:Env} {ds:List Nat} {M:ab} {S:Nat->Prop} {w0:World} {G:World->Prop}
variable {ops:Array Oper} {l:List Oper} {ty:TypeId} {pos:String} {after:Array Edge} {d:Nat} {x y:Operand} {t:TypeId}
theorem LM.st [GT G] {M2:ab} (hS:∀w,(sizeOf t).run P w= .ok n w) (ha:ev e x=some (.pointer (some ⟨b,off,none⟩))) (hv:ev e y=some v)
    [hM:qo M b (.cells cs E (0,0)) M2] (hn:v.cells.size=n) (hl:off+n<=cs.size) (h1:v.cells.toList.all one=true) (hb:b<w0.heap.size->S b)
    (h:LM P r N ops Q l e ds ((b,.cells (kS cs off v.cells.toList) E (0,0))::M2) S w0 G):LM P r N ops Q (⟨none,.store t x y,ty,pos,after,none⟩::l) e ds M S w0 G:=
  .mem (fun w hm=>hm.perm hM.perm) (.store (M:=(b,.cells cs E (0,0))::M2) 0 hS ha hv rfl hn hl h1 hb h)
/-- all of a block -/
theorem LM.c6 [GT G] {a:Array Value} {M2:ab} (hS:∀w,(sizeOf t).run P w= .ok n w) (ha:ev e x=some (.pointer (some ⟨b,0,none⟩))) (hv:ev e y=some (.agg a))
    [hM:qo M b (.cells cs E (0,0)) M2] (hn:a.size=n) (hl:cs.size=n) (h1:a.toList.all one=true) (hb:b<w0.heap.size->S b)
    (h:LM P r N ops Q l e ds ((b,.cells a E (0,0))::M2) S w0 G):LM P r N ops Q (⟨none,.store t x y,ty,pos,after,none⟩::l) e ds M S w0 G:=
  LM.st hS ha hv hn (by omega) h1 hb (by
    have:=sK a.toList [] cs.toList (by simp [hn,hl])
    simp only [List.nil_append,Array.toArray_toList,List.length_nil] at this
    show LM P r N ops Q l e ds ((b,.cells (kS cs 0 a.toList) E (0,0))::M2) S w0 G
    rw [this];exact h)
/-- into an element of a block of elements -/
theorem LM.stE [GT G] {f:α->List Value} {xs:List α} {a:α} {a':α} {M2:ab} (hf:∀a,(f a).length=s) (hS:∀w,(sizeOf t).run P w= .ok n w) (ha:ev e x=some (.pointer (some ⟨b,off,none⟩))) (hv:ev e y=some v)
    [hM:qo M b (.cells (arr f xs bH) E (0,0)) M2] (hi:xs[i]? =some a) (ho:off=i*s+j) (hn:v.cells.size=n) (hj:j+n<=s) (ZW:f a'=putAt (f a) j v.cells.toList) (h1:v.cells.toList.all one=true) (hb:b<w0.heap.size->S b)
    (h:LM P r N ops Q l e ds ((b,.cells (arr f (xs.set i a') bH) E (0,0))::M2) S w0 G):LM P r N ops Q (⟨none,.store t x y,ty,pos,after,none⟩::l) e ds M S w0 G:=by
  have bo:i<xs.length:=(List.getElem?_eq_some_iff.1 hi).1
  have hmul:(i+1)*s<=xs.length*s:=Nat.mul_le_mul_right _ bo
  rw [Nat.succ_mul] at hmul
  have qV:v.cells.toList.length=n:=by simpa using hn
  refine LM.st hS ha hv hn (by simp [arr,ca hf];omega) h1 hb ?_
  rw [ho,PM hf hi (by rw [qV];exact hj) ZW];exact h
theorem LM.ja [GT G] {f:α->List Value} {F c:Nat} {xs:List α} {m M2:ab} {a:α} (a':α) (jL:Sl f F s n0 xs (.slice ad c cap) m) (hf:∀a,(f a).length=s) (hS:∀w,(sizeOf t).run P w= .ok n w)
    (ha:ev e x=some (.pointer (some ⟨ox ad,off,none⟩))) (ho:off=FN ad+i*s+j) (hv:ev e y=some v) [hM:rC M m M2] (hi:xs[i]? =some a) (hn:v.cells.size=n) (hj:j+n<=s) (ZW:f a'=putAt (f a) j v.cells.toList) (h1:v.cells.toList.all one=true)
    (hb:∀p∈m,p.1<w0.heap.size->S p.1)
    (h:∀m',Sl f F s n0 (xs.set i a') (.slice ad c cap) m'->(∀p∈m',∃q∈m,q.1=p.1)->LM P r N ops Q l e ds (m'++M2) S w0 G):LM P r N ops Q (⟨none,.store t x y,ty,pos,after,none⟩::l) e ds M S w0 G:=by
  subst ho
  have hx:=List.length_pos_of_mem (List.mem_of_getElem? hi)
  obtain ⟨b,mD,bH,h0,h1',h2,h3,h4,h5⟩:=jL.ne hx
  simp only [Value.slice.injEq] at h1';obtain ⟨rfl,rfl,rfl⟩:=h1';subst h2
  have hE:FN (some (⟨b,0,none⟩:Addr))=0:=rfl
  have hB:ox (some (⟨b,0,none⟩:Addr))=b:=rfl
  rw [hE,hB,Nat.zero_add] at ha
  refine .mem (M':=(b,.cells (arr f xs bH) F (0,0))::M2) (fun w hm=>hm.perm hM.perm) (LM.stE hf hS ha hv hi rfl hn hj ZW h1 (hb _ (List.mem_singleton.2 rfl)) ?_)
  exact h [(b,.cells (arr f (xs.set i a') bH) F (0,0))] (.inr ⟨b,cap,bH,h0,by rw [List.length_set],rfl,by rw [List.length_set];exact h3,h4,by rw [List.length_set];exact h5⟩) (fun p hp=>⟨_,List.mem_singleton.2 rfl,by rw [List.mem_singleton] at hp;rw [hp]⟩)

/-! ### append, calls -/
theorem LM.app [GT G] {f:α->List Value} {E:Nat} {inf:TypeInfo} {xs:List α} {m M1 M2:ab} {bx c:Nat} {a:α} {F:TypeId}
    (hU:P.underlying t=some (.slice E)) (hI:∀w,(typeInfo E).run P w= .ok inf w) (hz:inf.zero=some z) (hs:inf.size=s) (q9:Nat.blt 0 s=true) (Ll:z.cells.size=s) (hd:Nat.blt d N=true)
    (hx:ev e x=some v) (hy:ev e y=some (.slice (some ⟨bx,0,none⟩) 1 c)) (jL:Sl f E s n0 xs v m) [h1:qo M bx (.cells cs F fz) M1] [h2:rC M1 m M2] (ho:cs=(f a).toArray) (hf:∀a,(f a).length=s) (Bu:∀a,∀u∈f a,one u=true)
    (cm:n0<=w0.heap.size) (ZX:∀p∈m,p.1<w0.heap.size->S p.1) (hlen:xs.length+1<=maxLen) (qZ:(xs.length+1)*inf.bytes<=140737488355328)
    (h:∀ad n cap m',n=xs.length+1->Sl f E s n0 (xs++ [a]) (.slice ad n cap) m'->(∀p∈m',w0.heap.size<=p.1\/∃q∈m,q.1=p.1)->LM P r N ops Q l ((d,.slice ad n cap)::e) ds (m'++M2) S w0 G):
    LM P r N ops Q (⟨some d,.call {callee:= .builtin .append,args:=#[x,y],argTypes:=#[t,t] },ty,pos,after,none⟩::l) e ds M S w0 G:=
  .mem (M':=(bx,.cells cs F fz)::(m++M2)) (fun w hm=>(hm.perm h1.perm).perm (h2.perm.cons _)) (.Tw hU hI hz hs q9 Ll hd hx hy cm ZX jL ⟨F,fz,by rw [ho]⟩ hf Bu hlen qZ (fun v' m' KF eK=>by
    obtain ⟨ad,cap,rfl⟩:=KF.form
    exact h ad _ cap m' (by simp) KF eK))
theorem LM.cS [GS G] {f:α->List Value} {E:Nat} {xs:List α} {g:FuncId} {op:Op} (hc:∀w,Ep P op ty e w g args) (h:∀w,Mem w M->cG S w0 w->G w->aD P g args w (New f E s xs w))
    (hk:∀ad n cap m,n=xs.length->Sl f E s w0.heap.size xs (.slice ad n cap) m->LM P r N ops Q l ((d,.slice ad n cap)::e) ds (m++M) S w0 G) (dX:nd op=true:=by rfl) (hd:Nat.blt d N=true:=by rfl):
    LM P r N ops Q (⟨some d,op,ty,pos,after,none⟩::l) e ds M S w0 G:= .aaq hc h (fun u m jL=>by obtain ⟨ad,cap,rfl⟩:=jL.form;exact hk ad _ cap m rfl jL) dX hd
variable {op:Op}
/-- A call that changes what m holds. -/
theorem LM.cU [GT G] {m M2:ab} {T:Value->ab->Prop} (hc:∀w,Ep P op ty e w f args) (h:∀w,Mem w M->cG S w0 w->G w->aD P f args w (fq m T w)) [hM:rC M m M2] (Q1:∀p∈m,bJ p.2=false) (hS:∀p∈m,p.1<w0.heap.size->S p.1)
    (hk:∀u m',T u m'->(∀p∈m',w0.heap.size<=p.1\/∃q∈m,q.1=p.1)->LM P r N ops Q l ((d,u)::e) ds (m'++M2) S w0 G) (dX:nd op=true:=by rfl) (hd:Nat.blt d N=true:=by rfl):
    LM P r N ops Q (⟨some d,op,ty,pos,after,none⟩::l) e ds M S w0 G:= .acz hM.all Q1 hS hc (fun w hm hc hg=>h w (hm.perm hM.perm.symm) hc hg) hk dX hd
end

section
variable {P:Program} {r:Option Nat} {N:Nat} {Q:Exit->Act->World->Prop} {e:Env} {ds:List Nat} {M:ab} {S:Nat->Prop} {w0:World} {G:World->Prop}
variable {ops:Array Oper} {l:List (Nat×Nat)} {op:Op} {ty:TypeId} {pos:String} {after:Array Edge} {d i:Nat}
end
/-! ### Arrays whose elements are of one cell; calls that change one block -/
section
variable {P:Program} {ty:TypeId} {e:Env} {M:ab} {x y:Operand} {t:TypeId}
theorem Tv {f:α->List Value} {o:Nat} {xs:List α} {a:α} {M2:ab} (hf:∀a,(f a).length=1) (hT:∀w,(isAgg t).run P w= .ok false w) (ha:ev e x=some (.pointer (some ⟨b,off,none⟩)))
    [h:qo M b (.cells (arr f xs bH) E fz) M2] (ho:off=o+i*1) (h0:o=0) (hi:xs[i]? =some a) (hv:(f a)[0]? =some v):∀w,Mem w M->tn P (.load t x) ty e w v w:=
  Mq (j:=0) hf hT ha hi (by omega) rfl hv
end
section
variable {P:Program} {r:Option Nat} {N:Nat} {Q:Exit->Act->World->Prop} {e:Env} {ds:List Nat} {M:ab} {S:Nat->Prop} {w0:World} {G:World->Prop}
variable {ops:Array Oper} {l:List Oper} {op:Op} {ty:TypeId} {pos:String} {after:Array Edge} {d:Nat} {x y:Operand} {t:TypeId}
theorem LM.ajw [GT G] {f:α->List Value} {o:Nat} {xs:List α} {a:α} (a':α) {M2:ab} (hf:∀a,(f a).length=1) (hS:∀w,(sizeOf t).run P w= .ok 1 w) (ha:ev e x=some (.pointer (some ⟨b,off,none⟩))) (hv:ev e y=some v)
    [hM:qo M b (.cells (arr f xs bH) E (0,0)) M2] (ho:off=o+i*1) (h0:o=0) (hi:xs[i]? =some a) (hn:v.cells.size=1) (ZW:f a'=v.cells.toList) (h1:v.cells.toList.all one=true) (hb:b<w0.heap.size->S b)
    (h:LM P r N ops Q l e ds ((b,.cells (arr f (xs.set i a') bH) E (0,0))::M2) S w0 G):LM P r N ops Q (⟨none,.store t x y,ty,pos,after,none⟩::l) e ds M S w0 G:=
  LM.stE (j:=0) hf hS ha hv hi (by omega) hn (by omega) (by
    have h2:=hf a
    unfold putAt
    have h3:v.cells.toList.length=1:=by simpa using hn
    rw [ZW,h3,List.take_zero,List.nil_append,List.drop_of_length_le (by omega),List.append_nil]) h1 hb h
/-- what a call yields that changes one block -/
def UW (b:Nat) (v:Value) (o':Obj) (w:World):Value->World->Prop:=fun u w'=>u=v/\cG (fun x=>x=b) w w'/\w'.heap[b]? =some o'
theorem LM.cW [GT G] {o':Obj} {M2:ab} (hc:∀w,Ep P op ty e w f args) (h:∀w,Mem w M->cG S w0 w->G w->aD P f args w (UW b v o' w)) [hM:qo M b o M2] (hw:bJ o=false) (hb:b<w0.heap.size->S b)
    (hk:LM P r N ops Q l ((d,v)::e) ds ((b,o')::M2) S w0 G) (dX:nd op=true:=by rfl) (hd:Nat.blt d N=true:=by rfl):
    LM P r N ops Q (⟨some d,op,ty,pos,after,none⟩::l) e ds M S w0 G:=
  .mem (fun w hm=>hm.perm hM.perm) (.aaI (M:=(b,o)::M2) 0 rfl hw hb hc (fun w hm hc hg=>h w (hm.perm hM.perm.symm) hc hg) hk dX hd)
end
/-! ### Loops of which a part stands -/
section
variable {P:Program} {r:Option Nat} {N:Nat} {Q:Exit->Act->World->Prop} {e:Env} {ds:List Nat} {M:ab} {S:Nat->Prop} {w0:World} {G:World->Prop}
theorem af.Qi (F:α->Env) (K:Env) (MM:α->ab) (GG:α->World->Prop) (I:α->Prop) (μ:α->Nat) (x0:α) (hs:Sub e (F x0++K)) (hM:aJ M (MM x0)) (hG:∀w,G w->GG x0 w) (h0:I x0)
    (round:∀x,I x->af P r N c (Exit.then (ZA N ds S w0 (fun x=>F x++K) MM GG I μ x) Q) (F x++K) ds (MM x) S w0 (GG x)):
    af P r N (.loop c) Q e ds M S w0 G:= .TI (fun x=>F x++K) MM GG I μ x0 hs hM.mem hG h0 round
theorem af.aO (F:α->Env) (K:Env) (MM:α->ab) (I:α->Prop) (μ:α->Nat) (x0:α) (hs:Sub e (F x0++K)) (hM:aJ M (MM x0)) (h0:I x0)
    (round:∀x,I x->af P r N c (Exit.then (ZA N ds S w0 (fun x=>F x++K) MM (fun _=>G) I μ x) Q) (F x++K) ds (MM x) S w0 G):
    af P r N (.loop c) Q e ds M S w0 G:= .TI (fun x=>F x++K) MM (fun _=>G) I μ x0 hs hM.mem (fun _ h=>h) h0 round
theorem af.sn (MM:Nat->α->ab) (x0:α) (h:aJ M (MM 0 x0)) (k:af P r N c Q e ds (MM 0 x0) S w0 G):af P r N c Q e ds M S w0 G:= .mem h.mem k
theorem QM.sf {body:Code} {M2:ab} (hG:Pl l rc G) (Qs:w0.heap.size<=l) [hF:qo M l (.loop rc) M2]
    (h:af P (some l) N body Q e [] ((l,.loop (fE rc))::M2) S w0 G):QM N (Exit.then (asK P l rc body Q) never) .normal e [] M S w0 G:= .mem (fun w hm=>hm.perm hF.perm) (.UZ hG Qs h)
theorem af.bB (F:α->Env) (K:Env) (MM:α->ab) (I:α->Prop) (hK:Sub e K) (h1:af P r N c (TM N ds S w0 (fun x=>F x++K) MM (fun _=>G) I Q) e ds M S w0 G) (h2:∀x,I x->QM N Q .normal (F x++K) ds (MM x) S w0 G):af P r N c Q e ds M S w0 G:= .join (fun x=>F x++K) MM I h1 h2
theorem QM.zK {F:α->Env} {K:Env} {MM:α->ab} {I:α->Prop} (y:α) (hs:Sub e (F y++K)) (hM:aJ M (MM y)) (hI:I y):QM N (TM N ds S w0 (fun x=>F x++K) MM (fun _=>G) I Q) .normal e ds M S w0 G:= .meet y hs hM.mem hI
theorem QM.dk {F:α->Env} {K:Env} {MM:α->ab} {GG:α->World->Prop} {I:α->Prop} {μ:α->Nat} {x:α} (y:α) (hs:Sub e (F y++K)) (hM:aJ M (MM y)) (hG:∀w,G w->GG y w) (hI:I y) (hm:μ y<μ x):
    QM N (Exit.then (ZA N ds S w0 (fun x=>F x++K) MM GG I μ x) Q) .normal e ds M S w0 G:= .VT y hs hM.mem hG hI hm
end

/-! ### Maps; a part is seen otherwise -/
section
variable {P:Program} {r:Option Nat} {N:Nat} {Q:Exit->Act->World->Prop} {e:Env} {ds:List Nat} {M:ab} {S:Nat->Prop} {w0:World} {G:World->Prop}
variable {ops:Array Oper} {l:List Oper} {ty:TypeId} {pos:String} {after:Array Edge} {d:Nat} {t:TypeId} {x y z:Operand}
theorem LM.assoc {m1 m2 M2:ab} (h:LM P r N ops Q l e ds (m1++(m2++M2)) S w0 G):LM P r N ops Q l e ds ((m1++m2)++M2) S w0 G:=by rw [List.append_assoc];exact h
end
/-! ### Stores among what may be carried out early or late: the slice that is written is one of some -/
def afB {α:Type} (f:α->List Value) (E:TypeId) (b:Nat) (bH:List Value) (Mc:ab) (os:List (List α)) (w:World):Prop:=∃o∈os,Mem w ((b,.cells (arr f o bH) E (0,0))::Mc)
instance {α:Type} (f:α->List Value) (E:TypeId) (b:Nat) (bH:List Value) (Mc:ab) (os:List (List α)) {G:World->Prop} [GS G] :GS (fun w=>G w/\afB f E b bH Mc os w) where
  ext:=fun w w' ⟨h,o,ho,hm⟩ k=>⟨GS.ext w w' h k,o,ho,hm.ext k⟩
section
variable {P:Program} {r:Option Nat} {N:Nat} {Q:Exit->Act->World->Prop} {e:Env} {ds:List Nat} {M:ab} {S:Nat->Prop} {w0:World} {G:World->Prop}
variable {ops:Array Oper} {l:List (Nat×Nat)} {ty:TypeId} {pos:String} {after:Array Edge} {i:Nat} {t:TypeId} {x y:Operand}
end
/-! ### New memory among what may be carried out early or late -/
section
variable {P:Program} {r:Option Nat} {N:Nat} {Q:Exit->Act->World->Prop} {e:Env} {ds:List Nat} {M:ab} {S:Nat->Prop} {w0:World} {G:World->Prop}
variable {ops:Array Oper} {l:List (Nat×Nat)} {op:Op} {ty:TypeId} {pos:String} {after:Array Edge} {d i:Nat}
theorem LD.opG {gd:Option (Nat×Bool)} (hi:ops[i]? =some ⟨some d,op,ty,pos,after,gd⟩) (Sm:vI ops e gd true) (hd:Nat.blt d N=true) (dX:nd op=true)
    (h:∀w,Mem w M->cG S w0 w->G w->∃v w' M',tn P op ty e w v w'/\(∀w,Mem w M'->Mem w M)/\(Mem w' M'/\cG S w0 w'/\G w')/\LD P r N ops Q l ((d,v)::e) ds M' S w0 G):LD P r N ops Q ((i,2)::l) e ds M S w0 G:=fun a hf fk=>by
  simp only [yT,hi]
  intro w hC
  obtain ⟨v,w',M',h1,h2,h3,h4⟩:=h w hC.1 hC.2.1 hC.2.2
  unfold wpOpIn
  rw [hi]
  simp only
  rw [if_pos (Sm.wanted (o:=⟨some d,op,ty,pos,after,gd⟩) hf)]
  exact FB dX (h1 a.eval (fun x u hx=>hf.eval hx) _ _ _ _) ⟨Ir M' S w0 G,fun w h=>⟨h2 w h.1,h.2⟩,h3,h4 _ (hf.put hd v) fk⟩
/-- What isn't carried out, where a later guard asks for it; a guard that was not carried out itself. -/
theorem LD.dL {k:Nat} (hk:Nat.blt k 2=true) (hi:ops[i]? =some ⟨some d,op,ty,pos,after,g⟩) (hg:vI ops e g false) (h:LD P r N ops Q l ((d,undef)::e) ds M S w0 G) (hd:Nat.blt d N=true:=by rfl):
    LD P r N ops Q ((i,k)::l) e ds M S w0 G:=fun a hf fk=>by
  have hY:∀D,YA P ops D ⟨some d,op,ty,pos,after,g⟩ undef a:=fun D=> .inr ⟨hg.wanted (o:=⟨some d,op,ty,pos,after,g⟩) hf,rfl⟩
  match k,hk with
  |0,_=>simp only [yT,hi];exact⟨undef,hY _,h _ (hf.put hd undef) fk⟩
  |1,_=>simp only [yT,hi];exact⟨undef,hY _,h _ (hf.put hd undef) fk⟩
theorem LD.O9 {b:Bool} {k:Nat} (hk:Nat.blt k 2=true) (hi:ops[i]? =some ⟨some d,op,ty,pos,after,some (j,b)⟩) (hj:(ops[j]?).bind (·.dst)=some t) (ht:look e t=some undef) (h:LD P r N ops Q l ((d,undef)::e) ds M S w0 G) (hd:Nat.blt d N=true:=by rfl):
    LD P r N ops Q ((i,k)::l) e ds M S w0 G:=fun a hf fk=>by
  have hw:Region.wanted ⟨some d,op,ty,pos,after,some (j,b)⟩ (yielded ops a.tmps)=false:=by
    simp only [Region.wanted,yielded,hj,Option.bind_some,hf.2 t _ ht,undef];rfl
  have hY:∀D,YA P ops D ⟨some d,op,ty,pos,after,some (j,b)⟩ undef a:=fun D=> .inr ⟨hw,rfl⟩
  match k,hk with
  |0,_=>simp only [yT,hi];exact⟨undef,hY _,h _ (hf.put hd undef) fk⟩
  |1,_=>simp only [yT,hi];exact⟨undef,hY _,h _ (hf.put hd undef) fk⟩
theorem LD.alloc [GS G] {E:TypeId} {z:Value} {gd:Option (Nat×Bool)} (hi:ops[i]? =some ⟨some d,.alloc E,ty,pos,after,gd⟩) (Sm:vI ops e gd true) (hZ:∀w,(zeroValue E).run P w= .ok z w) (hd:Nat.blt d N=true)
    (h:∀b,w0.heap.size<=b->LD P r N ops Q l ((d,.pointer (some ⟨b,0,none⟩))::e) ds ((b,.cells z.cells E (0,0))::M) S w0 G):LD P r N ops Q ((i,2)::l) e ds M S w0 G:=
  .opG hi Sm hd rfl (fun w hm hc hg=>⟨_,w.alloc (.cells z.cells E),_,fun ρ hρ _ _ _ _=>by simp [execOp,Instr.alloc,hZ,newVar,newRow,Result.andThen],fun w hm=>hm.tail,⟨hm.alloc _,hc.step (bw w _) (fun _ _ q=>q.elim),GS.ext w _ hg (bw w _)⟩,h w.heap.size hc.size⟩)
theorem LD.box [GS G] {E:TypeId} {x:Operand} {v:Value} {gd:Option (Nat×Bool)} (hi:ops[i]? =some ⟨some d,.box E x,ty,pos,after,gd⟩) (Sm:vI ops e gd true) (hv:ev e x=some v) (hd:Nat.blt d N=true)
    (h:∀b,w0.heap.size<=b->LD P r N ops Q l ((d,.pointer (some ⟨b,0,none⟩))::e) ds ((b,.cells v.cells E (0,0))::M) S w0 G):LD P r N ops Q ((i,2)::l) e ds M S w0 G:=
  .opG hi Sm hd rfl (fun w hm hc hg=>⟨_,w.alloc (.cells v.cells E),_,fun ρ hρ _ _ _ _=>by simp [execOp,Instr.box,hρ x _ hv,newVar,newRow,Result.andThen],fun w hm=>hm.tail,⟨hm.alloc _,hc.step (bw w _) (fun _ _ q=>q.elim),GS.ext w _ hg (bw w _)⟩,h w.heap.size hc.size⟩)
end
/-! ### New blocks that are filled while something is known that stands only when blocks are laid -/
def T5 (G:World->Prop) (n:Nat) (w:World):Prop:=∃w1,G w1/\Ext w1 w/\w1.heap.size<=n
instance {G:World->Prop} {n:Nat} [GS G] :GS (T5 G n) where
  ext:=fun w w' ⟨w1,h1,h2,h3⟩ k=>⟨w1,h1,h2.trans k,h3⟩
section
variable {P:Program} {r:Option Nat} {N:Nat} {Q:Exit->Act->World->Prop} {e:Env} {ds:List Nat} {M:ab} {S:Nat->Prop} {w0:World} {G:World->Prop}
variable {ops:Array Oper} {l:List Oper} {ty:TypeId} {pos:String} {after:Array Edge} {d:Nat} {t:TypeId} {x y:Operand}
theorem LM.unF [GS G] (h:LM P r N ops Q l e ds M S w0 G):LM P r N ops Q l e ds M S w0 (T5 G n):=fun w hm hc ⟨w1,h1,h2,_⟩=>h w hm hc (GS.ext w1 w h1 h2)
theorem LM.Pb [GS G] (hZ:∀w,(zeroValue E).run P w= .ok z w) (hd:Nat.blt d N=true)
    (h:∀b,w0.heap.size<=b->LM P r N ops Q l ((d,.pointer (some ⟨b,0,none⟩))::e) ds ((b,.cells z.cells E (0,0))::M) S w0 (T5 G b)):LM P r N ops Q (⟨some d,.alloc E,ty,pos,after,none⟩::l) e ds M S w0 G:=fun w hm hc hg=>
  LE.val (w':=w.alloc (.cells z.cells E)) (fun ρ hρ _ _ _ _=>by simp [execOp,Instr.alloc,hZ,newVar,newRow,Result.andThen]) (h w.heap.size hc.size _ (hm.alloc _) (hc.step (bw w _) (fun _ _ q=>q.elim)) ⟨w,hg,bw w _,Nat.le_refl _⟩) rfl hd
theorem LM.bY [GS G] {m:Nat} {M2:ab} (hS:∀w,(sizeOf t).run P w= .ok n w) (ha:ev e x=some (.pointer (some ⟨b,off,none⟩))) (hv:ev e y=some v)
    [hM:qo M b (.cells cs E (0,0)) M2] (hn:v.cells.size=n) (hl:off+n<=cs.size) (h1:v.cells.toList.all one=true) (hb:b<w0.heap.size->S b) (hmb:m<=b)
    (h:LM P r N ops Q l e ds ((b,.cells (kS cs off v.cells.toList) E (0,0))::M2) S w0 (T5 G m)):LM P r N ops Q (⟨none,.store t x y,ty,pos,after,none⟩::l) e ds M S w0 (T5 G m):=fun w hm hc hg a hf hd=>by
  have hm:=hm.perm hM.perm
  obtain ⟨w',h2,h3,h4⟩:=eh (P:=P) v.cells.toList w cs off 0 (hm.get (i:=0) rfl) (by simp;omega) (fun u hu=>List.all_eq_true.1 h1 u hu)
  obtain ⟨w1,g1,g2,g3⟩:=hg
  refine LE.skp (w':=w') (fun ρ hρ _ _ _ _=>?_) (h w' (hm.set (i:=0) rfl h3 h4) (hc.step h4 (fun k hk PJ=>by subst PJ;exact hb hk)) ⟨w1,g1,g2.step h4 (fun x hx he=>by subst he;omega),g3⟩) rfl a hf hd
  simp [execOp,Instr.storeAt,Instr.sureAddr,hρ x _ ha,hρ y _ hv,storeVar,hS,hn,h2,Result.andThen]
theorem LM.Z6 [GS G] {m:Nat} {a:Array Value} {M2:ab} (hS:∀w,(sizeOf t).run P w= .ok n w) (ha:ev e x=some (.pointer (some ⟨b,0,none⟩))) (hv:ev e y=some (.agg a))
    [hM:qo M b (.cells cs E (0,0)) M2] (hn:a.size=n) (hl:cs.size=n) (h1:a.toList.all one=true) (hb:b<w0.heap.size->S b) (hmb:m<=b)
    (h:LM P r N ops Q l e ds ((b,.cells a E (0,0))::M2) S w0 (T5 G m)):LM P r N ops Q (⟨none,.store t x y,ty,pos,after,none⟩::l) e ds M S w0 (T5 G m):=
  LM.bY hS ha hv hn (by omega) h1 hb hmb (by
    have:=sK a.toList [] cs.toList (by simp [hn,hl])
    simp only [List.nil_append,Array.toArray_toList,List.length_nil] at this
    show LM P r N ops Q l e ds ((b,.cells (kS cs 0 a.toList) E (0,0))::M2) S w0 (T5 G m)
    rw [this];exact h)
end
/-! ### A function is left: marks and cells are found -/
class Fb (M:ab) (ds:List Nat) (M1:outParam ab):Prop where
  perm:M.Perm (dM ds++M1)
instance {M:ab} :Fb M [] M:=⟨.refl _⟩
instance {M M2 M1:ab} {D:Nat} {ds:List Nat} [h:qo M D (.deferred (some [])) M2] [k:Fb M2 ds M1] :Fb M (D::ds) M1:=⟨h.perm.trans (k.perm.cons _)⟩
section
variable {P:Program} {fn:Func} {N:Nat} {e:Env} {ds:List Nat} {M M1:ab} {S:Nat->Prop} {w0:World} {G:World->Prop} {R:Value->World->Prop} {vs:List Value}
theorem QM.BA {x:Exit} (hx:x= .ret\/x= .normal) (rs:List ResultVar) (hr:fn.results=rs.toArray) (h:tJ e rs=some vs) (hD:∀D∈ds,w0.heap.size<=D) [k:Fb M ds M1] (hR:∀w,Mem w M1->cG S w0 w->R (bd vs) w):QM N (gZ P fn R) x e ds M S w0 G:=
  .mem (fun w hm=>hm.perm k.perm) (.Vq hx rs hr h hD hR)
theorem QM.Dg {t:TypeId} {M2:ab} (hr:fn.results=#[.cell b t]) {ad:Nat} (hb:look e b=some (.pointer (some ⟨ad,off,none⟩))) (hD:∀D∈ds,w0.heap.size<=D) [k:Fb M ds M1] [q:qo M1 ad (.cells cs E fz) M2]
    (hT:∀w,(isAgg t).run P w= .ok false w) (hc:cs[off]? =some v) (hR:∀w,Mem w M1->cG S w0 w->R v w):QM N (gZ P fn R) .ret e ds M S w0 G:=
  .mem (fun w hm=>hm.perm k.perm) (.Sb hr hb hD (fun w hm=>nZ hT (q.get hm) hc) hR)
end
/-! ### Structs are compared -/
section
variable {P:Program}
variable {ty:TypeId} {e:Env} {x y:Operand} {t u:TypeId}
end
theorem aX (h:p:=by(repeat' (first|exact aJ.nil _|refine aJ.cons rfl ?_|refine aJ.app ?_))):p:=h
theorem l5 (h:p:=by first|rfl|exact lk rfl (by congr 1;omega)|exact lk rfl (by simp)):p:=h
theorem c7 (h:p:=by exact aH default (by first|omega|(simp only [List.length_set,List.length_append,List.length_cons,List.length_nil];omega))):p:=h
theorem cH (h:p:=by first|omega|(simp only [List.length_set,List.length_append,List.length_cons,List.length_nil];omega)):p:=h
theorem dx (h:p:=by first|decide|exact Nat.le_of_ble_eq_true rfl|(simp;done)|(simp;omega)):p:=h
theorem qw (h:p:=by first|exact Sr.Uz (by assumption)|exact Sl.Uz (by assumption)):p:=h
theorem cZ (h:p:=by first|rfl|decide|(simp;done)):p:=h
theorem bF (h:p:=by exact(fun bo=>absurd bo (by omega))):p:=h
theorem au9 (h:p:=by(repeat' (first|exact trivial|refine ⟨rfl,?_⟩))):p:=h
theorem kU (h:p:=by exact(fun p hp bo=>absurd bo (Nat.not_lt_of_le (Sl.ge (by assumption) p hp)))):p:=h
theorem om (h:p:=by omega):p:=h
theorem kr (h:p:=by kernel_rfl):p:=h
theorem aC (h:p:=by assumption):p:=h
theorem ir (h:p:=by intro _;rfl):p:=h
theorem Bq (h:p:=by exact FK (fun p hp=>by simp [hp])):p:=h
theorem aM (h:p:=by rw [List.append_nil];assumption):p:=h
theorem vg (h:p:=by exact fun bo=>by first|exact eS|exact aj9|exact absurd bo (by omega)):p:=h
section
variable {P:Program} {r:Option Nat} {N:Nat} {Q:Exit->Act->World->Prop} {e:Env} {ds:List Nat} {M:ab} {S:Nat->Prop} {w0:World} {G:World->Prop}
variable {ops:Array Oper} {l:List Oper} {op:Op} {ty:TypeId} {pos:String} {after:Array Edge} {d:Nat} {x:Operand} {v:Value}
theorem LM.mv (hx:ev e x=some v) (h:LM P r N ops Q l ((d,v)::e) ds M S w0 G) (hd:Nat.blt d N=true:=by rfl):LM P r N ops Q (⟨some d,.move x,ty,pos,after,none⟩::l) e ds M S w0 G:=LM.val (HD hx) h rfl hd
theorem LM.as (hx:ev e x=some v) (h:LM P r N ops Q l ((d,v)::e) ds M S w0 G) (hd:Nat.blt d N=true:=by rfl):LM P r N ops Q (⟨some d,.assign x,ty,pos,after,none⟩::l) e ds M S w0 G:=LM.val (zk hx) h rfl hd
theorem LM.dr (t:Nat) {b c:Bool} (hj:(ops[j]?).bind (·.dst)=some t) (ht:look e t=some (.bool c)) (WR:(c==b)=false) (h:LM P r N ops Q l e ds M S w0 G) (hd:Nat.blt d N=true:=by rfl) (hf:look e d=none:=by rfl):LM P r N ops Q (⟨some d,op,ty,pos,after,some (j,b)⟩::l) e ds M S w0 G:=LM.drop hj ht WR h hd hf
theorem LM.sp (t:Nat) {o:Oper} {b:Bool} (hj:(ops[j]?).bind (·.dst)=some t) (ht:look e t=some (.bool b)) (ho:o.guard=some (j,b)) (h:LM P r N ops Q ({o with guard:=none} ::l) e ds M S w0 G):LM P r N ops Q (o::l) e ds M S w0 G:=LM.strip hj ht ho h
theorem zA (h:af P r N y Q e ds M S w0 G):LM P r N ops (Exit.then (y.wpIn (Wd r) 0 P Q) Q) [] e ds M S w0 G:=LM.nil (QM.then h)
theorem zB (h:LM P r N l'.toArray (Exit.then (y.wpIn (Wd r) 0 P Q) Q) l' e ds M S w0 G):LM P r N ops (Exit.then ((Code.seq (.region id l'.toArray false) y).wpIn (Wd r) 0 P Q) Q) [] e ds M S w0 G:=LM.nil (QM.then (af.seq (af.region h)))
theorem zC (h:QM N Q .normal e ds M S w0 G):LM P r N ops Q [] e ds M S w0 G:=LM.nil h
theorem nA (e':Env) (h:af P r N y Q e' ds M S w0 G) (hs:Sub e e':=by(repeat' (first|exact trivial|refine ⟨rfl,?_⟩))):LM P r N ops (Exit.then (y.wpIn (Wd r) 0 P Q) Q) [] e ds M S w0 G:=LM.nil (QM.sub hs (QM.then h))
theorem nB (e':Env) (h:LM P r N l'.toArray (Exit.then (y.wpIn (Wd r) 0 P Q) Q) l' e' ds M S w0 G) (hs:Sub e e':=by(repeat' (first|exact trivial|refine ⟨rfl,?_⟩))):LM P r N ops (Exit.then ((Code.seq (.region id l'.toArray false) y).wpIn (Wd r) 0 P Q) Q) [] e ds M S w0 G:=LM.nil (QM.sub hs (QM.then (af.seq (af.region h))))
theorem nC (e':Env) (h:QM N Q .normal e' ds M S w0 G) (hs:Sub e e':=by(repeat' (first|exact trivial|refine ⟨rfl,?_⟩))):LM P r N ops Q [] e ds M S w0 G:=LM.nil (QM.sub hs h)
theorem wR (h:LM P r N l'.toArray (Exit.then (y.wpIn (Wd r) 0 P Q) Q) l' e ds M S w0 G):af P r N (.seq (.region id l'.toArray false) y) Q e ds M S w0 G:=af.seq (af.region h)
theorem tR (h:LM P r N l'.toArray (Exit.then (y.wpIn (Wd r) 0 P Q) Q) l' e ds M S w0 G):QM N (Exit.then ((Code.seq (.region id l'.toArray false) y).wpIn (Wd r) 0 P Q) Q) .normal e ds M S w0 G:=QM.then (af.seq (af.region h))
theorem LM.nc {ad:Addr} (hx:ev e x=some (.pointer (some ad))) (h:LM P r N ops Q l ((d,.pointer (some ad))::e) ds M S w0 G) (hd:Nat.blt d N=true:=by rfl):LM P r N ops Q (⟨some d,.nilCheck x,ty,pos,after,none⟩::l) e ds M S w0 G:=LM.val (u9 hx) h rfl hd
theorem qL {R:Value->World->Prop} {k:Nat} {u:Value} (hr:fn.results=#[.tmp k]) (h:tJ e [.tmp k] =some [u]) (hR:∀w,Mem w M->cG S w0 w->G w->R (bd [u]) w):QM N (gZ P fn R) .ret e [] M S w0 G:=QM.leave (.inl rfl) [.tmp k] hr h hR
class lT (P:Program) (t:TypeId) where
  d:TypeDesc
  h:P.underlying t=some d
class oq (P:Program) (t:TypeId) where
  n:Nat
  h:∀w,(sizeOf t).run P w= .ok n w
class xp (P:Program) (t:TypeId) where
  b:Bool
  h:∀w,(isAgg t).run P w= .ok b w
theorem ovf (T:TypeId) {t:TypeId} {f k:Nat} {fs:Array Field} [i:lT P t] [j:oq P T] (hi:i.d= .struct fs) (hf:(fs[f]?).map (fun fl=>(fl.type,fl.offset))=some (T,k)) (hn:Nat.beq j.n 0=false) (ha:ev e x=some (.pointer (some ⟨b,off,none⟩))):fo P (.fieldAddr t x f) ty e (.pointer (some ⟨b,off+k,none⟩)):=by
  cases hq:fs[f]? with
  |none=>rw [hq] at hf;cases hf
  |some fl=>
    rw [hq] at hf
    obtain ⟨h1,h2⟩:=Prod.mk.inj (Option.some.inj hf)
    exact Ct (i.h.trans (congrArg some hi)) hq (h1▸j.h) hn h2 ha
theorem oml {t:TypeId} {M2:ab} [i:xp P t] (hi:i.b=false) (ha:ev e x=some (.pointer (some ⟨b,off,none⟩))) [h:qo M b (.cells cs E fz) M2] (hc:cs[off]? =some v):∀w,Mem w M->tn P (.load t x) ty e w v w:=iL (fun w=>(i.h w).trans (by rw [hi])) ha hc
theorem oC {lo:List Operand} (hf:P.funcs[f]? =some fn) (hv:Jy e lo=some vs:=by rfl) (hn:(fn.name== "runtime.NumGoroutine")=false:=by kernel_rfl) (hb:fn.body=some c:=by rfl) (w:World):Ep P (.call {callee:= .value (.func f),args:=lo.toArray,argTypes:=BU}) ty e w f vs.toArray:=vU (dF hf hn hb) hv w
theorem sm {m:ab} (hm:Mem w M) (h:aJ M m:=by exact aX):Mem w m:=h.mem w hm
theorem cA (h:p:=by(repeat' (first|exact trivial|refine ⟨l5,?_⟩))):p:=h
theorem mK {F:α->Env} {K:Env} {MM:α->ab} {I:α->Prop} (y:α) (hI:I y) (hs:Sub e (F y++K):=by exact cA) (hM:aJ M (MM y):=by exact aX):QM N (TM N ds S w0 (fun x=>F x++K) MM (fun _=>G) I Q) .normal e ds M S w0 G:= .zK y hs hM hI
theorem aK {F:α->Env} {K:Env} {MM:α->ab} {GG:α->World->Prop} {I:α->Prop} {μ:α->Nat} {x:α} (y:α) (hI:I y) (hm:μ y<μ x) (hs:Sub e (F y++K):=by exact cA) (hM:aJ M (MM y):=by exact aX) (hG:∀w,G w->GG y w:=by exact fun _ h=>h):QM N (Exit.then (ZA N ds S w0 (fun x=>F x++K) MM GG I μ x) Q) .normal e ds M S w0 G:= .dk y hs hM hG hI hm
theorem cE [GS G] {lo:List Operand} (hf:P.funcs[f]? =some fn) (hv:Jy e lo=some vs)
    (h:∀w,Mem w M->cG S w0 w->G w->aD P f vs.toArray w (fun u w'=>u=v/\Ext w w')) (hk:LM P r N ops Q l ((d,v)::e) ds M S w0 G) (hn:(fn.name== "runtime.NumGoroutine")=false:=by kernel_rfl) (hb:fn.body=some c:=by rfl) (hd:Nat.blt d N=true:=by rfl):
    LM P r N ops Q (⟨some d,.call {callee:= .value (.func f),args:=lo.toArray,argTypes:=BU},ty,pos,after,none⟩::l) e ds M S w0 G:=LM.ye (vU (dF hf hn hb) hv) h hk rfl hd
theorem dE [GS G] {lo:List Operand} {lo2:List (Nat×Nat)} (hi:ops[i]? =some ⟨some d,.call {callee:= .value (.func f),args:=lo.toArray,argTypes:=BU},ty,pos,after,g⟩) (hg:vI ops e g true) (hf:P.funcs[f]? =some fn) (hv:Jy e lo=some vs)
    (h:∀w,Mem w M->cG S w0 w->G w->aD P f vs.toArray w (fun u w'=>u=v/\Ext w w')) (hk:LD P r N ops Q lo2 ((d,v)::e) ds M S w0 G) (hn:(fn.name== "runtime.NumGoroutine")=false:=by kernel_rfl) (hb:fn.body=some c:=by rfl) (hd:Nat.blt d N=true:=by rfl):
    LD P r N ops Q ((i,2)::lo2) e ds M S w0 G:=LD.ye hi hg (vU (dF hf hn hb) hv) h hk rfl hd
theorem cU [GT G] {f:FuncId} {fn:Func} {c:Code} {lo:List Operand} {vs:List Value} {BU:Array TypeId} {m M2:ab} {T:Value->ab->Prop} (hf:P.funcs[f]? =some fn) (hv:Jy e lo=some vs)
    (h:∀w,Mem w M->cG S w0 w->G w->aD P f vs.toArray w (fq m T w)) [hM:rC M m M2] (Q1:∀p∈m,bJ p.2=false) (hS:∀p∈m,p.1<w0.heap.size->S p.1)
    (hk:∀u m',T u m'->(∀p∈m',w0.heap.size<=p.1\/∃q∈m,q.1=p.1)->LM P r N ops Q l ((d,u)::e) ds (m'++M2) S w0 G) (hn:(fn.name== "runtime.NumGoroutine")=false:=by kernel_rfl) (hb:fn.body=some c:=by rfl) (hd:Nat.blt d N=true:=by rfl):
    LM P r N ops Q (⟨some d,.call {callee:= .value (.func f),args:=lo.toArray,argTypes:=BU},ty,pos,after,none⟩::l) e ds M S w0 G:=LM.cU (vU (dF hf hn hb) hv) h Q1 hS hk rfl hd
end
end Go.Eng
