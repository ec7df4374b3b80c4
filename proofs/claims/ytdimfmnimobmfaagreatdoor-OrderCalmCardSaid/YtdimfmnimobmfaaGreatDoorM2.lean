/- The calculus, tenth part: iterators that have memory of their own. No condition. -/
import Derived.Test.YtdimfmnimobmfaaGreatDoorM1
import Derived.ProofKit
import Derived.OpenShut
import Derived.ShutString
import Derived.ChangeOld
import Derived.Below
import Derived.DataElems
import Derived.Lib.Strings
import Derived.Laws.IdiomStrings
import Derived.Lib.OthersKept
import Derived.Lib.FrozenHead
import Derived.Lib.UnsafeStr
import Derived.Lib.AppendStr
import Derived.Lib.AppendIntMem
import Derived.Lib.AppendZeros
import Derived.Lib.SliceRun
import Derived.Test.YtdimfmnimobmfaaGreatDoorRows
set_option linter.unusedVariables false
set_option linter.unusedSectionVars false
set_option linter.unusedSimpArgs false
set_option maxRecDepth 100000
set_option maxHeartbeats 4000000
namespace Go.Eng
open Go Go.RowKit
variable {ops:Array Oper} {args:Array Value} {s:BitVec 64} {e:Env} {a lock t:Int} {ds:List Nat} {b i k n:Nat} {g:Option (Nat×Bool)} {ad:Option Addr} {P:Program} {p q:Prop} {α:Type} {E:TypeId} {w w' w0:World} {m x y:ab}
structure JL {σ:Type} (n:Nat) (J:σ->ab->World->Prop) (Jx:World->Prop):Prop where
  le:∀k m w,J k m w->n<=w.heap.size
  mem:∀k m w,J k m w->Mem w m
  Dx:∀k m m' w w',J k m w->cG (fun b=>∃q∈m,q.1=b) w w'->Mem w' m'->(∀p∈m',(w.heap.size<=p.1\/∃q∈m,q.1=p.1)/\bJ p.2=false)->J k m' w'
  bk:∀k m w w',J k m w->Bk n w w'->J k m w'
  bkx:∀w w',Jx w->Bk n w w'->Jx w'
section
variable {P:Program} {ty:TypeId} {e:Env} {t u:TypeId} {x y:Operand}
end
/-! ### Open and closed -/
section
variable {P:Program} {r:Option Nat} {N:Nat} {Q:Exit->Act->World->Prop} {e:Env} {ds:List Nat} {M m:ab} {w0 w1:World} {n:Nat} {σ:Type} {k:σ} {J:σ->ab->World->Prop} {Jx K:World->Prop}
variable {ops:Array Oper} {rest:List Oper} {ty:TypeId} {pos:String} {after:Array Edge} {d:Nat}
abbrev gU (m:ab):Nat->Prop:=fun b=>∃q∈m,q.1=b
end
/-! ### ... in a round of a loop of the iterator's own -/
section
variable {P:Program} {r:Option Nat} {N:Nat} {Q:Exit->Act->World->Prop} {e:Env} {ds:List Nat} {M m:ab} {w0 w1:World} {n:Nat} {σ:Type} {k:σ} {J:σ->ab->World->Prop} {Jx K K2:World->Prop}
end
/-! ### A loop whose rounds leave marks -/
theorem mj.Lz {r:Option Nat} {N:Nat} {Q:Exit->Act->World->Prop} {c:Code} (E:α->Env) (DS:α->List Nat) (I:α->World->Prop) (μ:α->Nat) (x0:α) (hs:Sub e (E x0)) (hd0:DS x0=ds) (h0:I x0 w)
    (round:∀x w,I x w->mj P r N c (Exit.then (fun a' w'=>∃y,Fr N (E y) a'/\Dm (DS y) a'/\I y w'/\μ y<μ x) Q) (E x) (DS x) w):mj P r N (.loop c) Q e ds w:=by
  intro a hf hd;subst hd0
  classical
  let J:Act->World->Nat->Prop:=fun a w n=>∃x,Fr N (E x) a/\Dm (DS x) a/\I x w/\μ x=n
  let M:Act->World->Nat:=fun a w=>if h:∃n,J a w n then Classical.choose (fJ (J a w) h) else 0
  have hM:∀a w,(∃n,J a w n)->J a w (M a w)/\∀n,J a w n->M a w<=n:=by
    intro a w h;have e:M a w=Classical.choose (fJ (J a w) h):=dif_pos h;rw [e];exact Classical.choose_spec (fJ (J a w) h)
  refine wpIn_loop (fun a w=>∃n,J a w n) M ⟨μ x0,x0,hf.sub hs,hd,h0,rfl⟩ ?_;intro a w hn;obtain ⟨⟨x,hf,hd,hI,hx⟩,agT⟩:=hM a w hn;refine wpIn_mono (round x w hI a hf hd) ?_;intro x1 a1 w1 hq;cases x1 with
  |normal=>
    obtain ⟨y,h1,h2,h3,h4⟩:=hq;have hj:∃n,J a1 w1 n:=⟨μ y,y,h1,h2,h3,rfl⟩
    refine ⟨hj,?_⟩;have:=(hM a1 w1 hj).2 (μ y) ⟨y,h1,h2,h3,rfl⟩;omega
  |_=>exact hq
def agD (N:Nat) (S:Nat->Prop) (w0:World) {α:Type} (E:α->Env) (MM:α->ab) (GG:α->World->Prop) (I:α->Prop) (μ:α->Nat) (x:α) (a':Act) (w':World):Prop:=
  ∃(z:α×List Nat),Fr N (E z.1) a'/\Dm z.2 a'/\((Mem w' (dM z.2++MM z.1)/\∀D∈z.2,w0.heap.size<=D)/\cG S w0 w'/\GG z.1 w'/\I z.1)/\μ z.1<μ x
section
variable {P:Program} {r:Option Nat} {N:Nat} {Q:Exit->Act->World->Prop} {e:Env} {ds:List Nat} {M:ab} {S:Nat->Prop} {w0:World} {G:World->Prop}
theorem af.Lz {α:Type} {c:Code} (F:α->Env) (K:Env) (MM:α->ab) (GG:α->World->Prop) (I:α->Prop) (μ:α->Nat) (x0:α) (hs:Sub e (F x0++K)) (hM:aJ M (MM x0)) (hG:∀w,G w->GG x0 w) (h0:I x0)
    (round:∀x ds,(∀D∈ds,w0.heap.size<=D)->I x->af P r N c (Exit.then (agD N S w0 (fun x=>F x++K) MM GG I μ x) Q) (F x++K) ds (dM ds++MM x) S w0 (GG x)):
    af P r N (.loop c) Q e [] M S w0 G:=fun w hm hc hg=>
  mj.Lz (α:=α×List Nat) (fun z=>F z.1++K) (fun z=>z.2) (fun z w=>(Mem w (dM z.2++MM z.1)/\∀D∈z.2,w0.heap.size<=D)/\cG S w0 w/\GG z.1 w/\I z.1) (fun z=>μ z.1) (x0,[]) hs rfl
    ⟨⟨hM.mem w hm,fun D h=>by cases h⟩,hc,hG w hg,h0⟩ (fun z w ⟨h1,h2,h3,h4⟩=>round z.1 z.2 h1.2 h4 w h1.1 h2 h3)
theorem QM.Xi {F:α->Env} {K:Env} {MM:α->ab} {GG:α->World->Prop} {I:α->Prop} {μ:α->Nat} {x:α} (y:α) (hs:Sub e (F y++K)) (hM:aJ M (dM ds++MM y)) (hD:∀D∈ds,w0.heap.size<=D) (hG:∀w,G w->GG y w) (hI:I y) (hm:μ y<μ x):
    QM N (Exit.then (agD N S w0 (fun x=>F x++K) MM GG I μ x) Q) .normal e ds M S w0 G:=fun w hw hc hg _ hf hd=>⟨(y,ds),hf.sub hs,hd,⟨⟨hM.mem w hw,hD⟩,hc,hG w hg,hI⟩,hm⟩
end
instance {M M1:ab} {ds:List Nat} [h:rC M (dM ds) M1] :Fb M ds M1:=⟨h.perm⟩
theorem rD {D:Nat} (h:w0.heap.size<=D) (k:∀D∈ds,w0.heap.size<=D):∀D'∈D::ds,w0.heap.size<=D':=fun D' hD=>by
  rcases List.mem_cons.1 hD with rfl|hD
  ·exact h
  ·exact k D' hD
theorem aV:∀D∈([] :List Nat),w0.heap.size<=D:=fun D h=>by cases h
theorem Sl.bJ {α:Type} {f:α->List Value} {E s n0:Nat} {xs:List α} {v:Value} {m:ab} (h:Sl f E s n0 xs v m):∀p∈m,Go.Eng.bJ p.2=false:=fun p hp=>by
  rcases h with ⟨_,rfl,_⟩|⟨b,cap,bH,_,_,rfl,_⟩
  ·cases hp
  ·rw [List.mem_singleton] at hp;subst hp;rfl
theorem wS {M0:ab}:∀p∈([] :ab),p∈M0\/bJ p.2=false:=fun p hp=>by cases hp
theorem F4 {M M0:ab} (h:∀p∈m,bJ p.2=false) (k:∀p∈M,p∈M0\/bJ p.2=false):∀p∈m++M,p∈M0\/bJ p.2=false:=fun p hp=>by
  rcases List.mem_append.1 hp with hp|hp
  ·exact .inr (h p hp)
  ·exact k p hp
/-! ### A call that changes one block among what may be carried out early or late -/
def JS (b:Nat) (Mc:ab) (os:List Obj) (w:World):Prop:=∃o∈os,Mem w ((b,o)::Mc)
instance (b:Nat) (Mc:ab) (os:List Obj) {G:World->Prop} [GS G] :GS (fun w=>G w/\JS b Mc os w) where
  ext:=fun w w' ⟨h,o,ho,hm⟩ k=>⟨GS.ext w w' h k,o,ho,hm.ext k⟩
section
variable {P:Program} {r:Option Nat} {N:Nat} {Q:Exit->Act->World->Prop} {e:Env} {ds:List Nat} {M:ab} {S:Nat->Prop} {w0:World} {G:World->Prop}
theorem af.toJS {c:Code} (b:Nat) (os:List Obj) {o:Obj} {Mc:ab} [hM:qo M b o Mc] (ho:o∈os) (h:(∀q∈Mc,q.1≠b)->af P r N c Q e ds Mc S w0 (fun w=>G w/\JS b Mc os w)):af P r N c Q e ds M S w0 G:=fun w hm hc hg=>by
  have ao:=hm.perm hM.perm;refine h (fun q hq he=>?_) w ao.tail hc ⟨hg,o,ho,ao⟩;have dX:=ao.1;simp only [List.map_cons,List.nodup_cons] at dX;exact dX.1 (he▸List.mem_map_of_mem hq)
variable {ops:Array Oper} {lo:List Oper} {l:List (Nat×Nat)} {op:Op} {ty:TypeId} {pos:String} {after:Array Edge} {d i:Nat}
theorem LM.mT {o:Obj} {Mc:ab} (h:LM P r N ops Q lo e ds ((b,o)::Mc) S w0 G):LM P r N ops Q lo e ds Mc S w0 (fun w=>G w/\JS b Mc [o] w):=fun w hm hc ⟨hg,o',ho,LG⟩=>by
  rw [List.mem_singleton] at ho;subst ho;exact h w LG hc hg
end
/-! ### A new slice, as a slice of the call's own -/
section
variable {P:Program} {r:Option Nat} {N:Nat} {Q:Exit->Act->World->Prop} {e:Env} {ds:List Nat} {M:ab} {S:Nat->Prop} {w0:World} {G:World->Prop}
variable {ops:Array Oper} {l:List Oper} {ty:TypeId} {pos:String} {after:Array Edge} {d:Nat} {t:TypeId} {x y:Operand}
theorem LM.CJ [GS G] {f:α->List Value} {E s:Nat} {inf:TypeInfo} {z:Value} {a0:α} {n:Int} {k k':IntKind} (hU:P.underlying t=some (.slice E)) (hI:∀w,(typeInfo E).run P w= .ok inf w) (hz:inf.zero=some z) (hs:inf.size=s) (q9:Nat.blt 0 s=true) (hza:z.cells=(f a0).toArray) (hf:∀a,(f a).length=s) (hd:Nat.blt d N=true)
    (hx:ev e x=some (.int k n)) (hy:ev e y=some (.int k' n)) (h0:0<=n) (hb:(inf.bytes:Int)*n<=281474976710656) (h63:n<=9223372036854775807) (hmx:n.toNat<=maxLen)
    (h:∀ad c m,c=n.toNat->Sl f E s w0.heap.size (List.replicate c a0) (.slice ad c c) m->LM P r N ops Q l ((d,.slice ad c c)::e) ds (m++M) S w0 G):
    LM P r N ops Q (⟨some d,.makeSlice t x y,ty,pos,after,none⟩::l) e ds M S w0 G:=
  LM.make hU hI hz hs q9 hza hf hd hx hy h0 hb h63 (fun b hb=>h (some ⟨b,0,none⟩) n.toNat [(b,.cells (arr f (List.replicate n.toNat a0) []) E (0,0))] rfl (.inr ⟨b,n.toNat,[],hb,by rw [List.length_replicate],rfl,by rw [List.length_replicate];exact Nat.le_refl _,hmx,by rw [List.length_replicate];simp⟩))
end
section range
variable {P:Program} {N:Nat} {Q:Exit->Act->World->Prop} {e:Env} {ds:List Nat} {M:ab} {S:Nat->Prop} {w0:World} {G:World->Prop}
variable {g:Operand} {ps:Array Tmp} {assign body:Code} {gf:FuncId} {lb:Array Value} {A:List (Array Value)} {Rd:World->Prop} {fin:Prop} {α β:Type}
end range
/-! ### Results -/
def vz (P:Program) (e:Env) (M:ab):List ResultVar->List Value->Prop
  | [],vs=>vs=[]
  | .tmp t::l,vs=>∃v us,vs=v::us/\look e t=some v/\vz P e M l us
  | .cell b t::l,vs=>∃v us ad,vs=v::us/\look e b=some (.pointer (some ad))/\(∀w,Mem w M->(loadVar t ad).run P w= .ok v w)/\vz P e M l us
section
variable {P:Program} {fn:Func} {N:Nat} {e:Env} {ds:List Nat} {M M1 M2:ab} {S:Nat->Prop} {w0:World} {G:World->Prop} {R:Value->World->Prop} {vs:List Value} {l:List ResultVar} {us:List Value} {v:Value}
theorem aU:vz P e M [] [] :=rfl
theorem aZ {t:Nat} (h:look e t=some v) (k:vz P e M l us):vz P e M (.tmp t::l) (v::us):=⟨_,_,rfl,h,k⟩
theorem yO {off ad:Nat} {t:TypeId} {cs:Array Value} {fz:Nat×Nat} (hb:look e b=some (.pointer (some ⟨ad,off,none⟩))) [q:qo M ad (.cells cs E fz) M2] (hT:∀w,(isAgg t).run P w= .ok false w) (hc:cs[off]? =some v) (k:vz P e M l us):
    vz P e M (.cell b t::l) (v::us):=⟨_,_,_,rfl,hb,fun w hm=>nZ hT (q.get hm) hc,k⟩
theorem bU {ad:Nat} {t:TypeId} {cs:Array Value} {fz:Nat×Nat} (hb:look e b=some (.pointer (some ⟨ad,0,none⟩))) [q:qo M ad (.cells cs E fz) M2] (hT:∀w,(isAgg t).run P w= .ok true w) (hS:∀w,(sizeOf t).run P w= .ok n w) (hn:cs.size=n) (k:vz P e M l us):
    vz P e M (.cell b t::l) (.agg cs::us):=⟨_,_,_,rfl,hb,fun w hm=>by
  have:=gw (P:=P) (off:=0) (vs:=cs.toList) hT hS (q.get hm) (by simpa using hn) (fun j v hj=>by rw [Nat.zero_add];simpa using hj);simpa using this,k⟩
theorem ur {a:Act} (hf:Fr N e a) {w:World} (hm:Mem w M) (f:ResultVar->Sem Value) (hft:∀t v,a.tmps[t]? =some v->(f (.tmp t)).run P w= .ok v w)
    (hfc:∀b t ad,a.tmps[b]? =some (.pointer (some ad))->(f (.cell b t)).run P w=(loadVar t ad).run P w):
    ∀(rs:List ResultVar) (vs:List Value),vz P e M rs vs->(rs.mapM f).run P w= .ok vs w
  | [],vs,h=>by obtain rfl:vs=[] :=h;simp
  | .tmp t::rs,vs,h=>by
    obtain ⟨v,us,rfl,h1,h2⟩:=h;simp only [List.mapM_cons,Sem.run_bind,hft t v (hf.2 _ _ h1),Result.andThen,ur hf hm f hft hfc rs us h2,Sem.run_pure]
  | .cell b t::rs,vs,h=>by
    obtain ⟨v,us,ad,rfl,h1,h2,h3⟩:=h;simp only [List.mapM_cons,Sem.run_bind,hfc b t ad (hf.2 _ _ h1),h2 w hm,Result.andThen,ur hf hm f hft hfc rs us h3,Sem.run_pure]
theorem rH {a:Act} (hf:Fr N e a) (hm:Mem w M) {rs:List ResultVar} (hr:fn.results=rs.toArray) (h:vz P e M rs vs):(results fn a.tmps).run P w= .ok (bd vs) w:=by
  unfold results
  rw [hr]
  have h1:=ur (P:=P) hf hm (fun x=>match x with
      |ResultVar.tmp t=>(pure (a.tmps.getD t undef):Sem Value)
      |ResultVar.cell b t=>do loadVar t (<-asAddr (a.tmps.getD b undef)))
    (fun t v hl=>by
      show Result.ok (a.tmps.getD t undef) w=_
      rw [Array.getD_eq_getD_getElem?,hl];rfl)
    (fun b t ad hl=>by
      simp [Array.getD_eq_getD_getElem?,hl,asAddr]) rs vs h
  simp only [List.mapM_toArray,Sem.run_bind,Sem.run_map]
  generalize hX:Sem.run P (List.mapM _ rs) w=X
  obtain rfl:Result.ok vs w=X:=by rw [<-hX];exact h1.symm
  simp only [Result.andThen];cases vs with
  |nil=>simp [bd]
  |cons v l=>cases l with
    |nil=>simp [bd]
    |cons u l=>simp [bd]
theorem QM.aG {x:Exit} (hx:x= .ret\/x= .normal) (rs:List ResultVar) (hr:fn.results=rs.toArray) (hD:∀D∈ds,w0.heap.size<=D) [k:Fb M ds M1] (h:vz P e M1 rs vs) (hR:∀w,Mem w M1->cG S w0 w->R (bd vs) w):QM N (gZ P fn R) x e ds M S w0 G:=
  .mem (fun w hm=>hm.perm k.perm) (fun w hm hc hg=>by
    obtain ⟨h1,h2,h3⟩:=sa ds w M1 hm hc hD;rcases hx with rfl|rfl
    · intro a hf hd
      show LeavesInM _ _ _ _ _ _ _ _ _
      rw [hd];exact fF ds w h1 (rH hf h2 hr h) ⟨_,rfl,hR _ h2 h3⟩
    · intro a hf hd
      show LeavesInM _ _ _ _ _ _ _ _ _
      rw [hd];exact fF ds w h1 (rH hf h2 hr h) ⟨_,rfl,hR _ h2 h3⟩)
end
/-! ### A store among what may be carried out early or late -/
section
variable {P:Program} {r:Option Nat} {N:Nat} {Q:Exit->Act->World->Prop} {e:Env} {ds:List Nat} {M:ab} {S:Nat->Prop} {w0:World} {G:World->Prop}
variable {ops:Array Oper} {l:List (Nat×Nat)} {ty:TypeId} {pos:String} {after:Array Edge} {d i:Nat} {t:TypeId} {x y:Operand}
theorem LD.mn [GT G] {off:Nat} {os:List Obj} (os':List Obj) {Mc:ab} {v:Value} {gd:Option (Nat×Bool)} (hi:ops[i]? =some ⟨none,.store t x y,ty,pos,after,gd⟩) (Sm:vI ops e gd true)
    (hS:∀w,(sizeOf t).run P w= .ok n w) (ha:ev e x=some (.pointer (some ⟨b,off,none⟩))) (hv:ev e y=some v) (hn:v.cells.size=n) (h1:v.cells.toList.all one=true)
    (iG:∀o∈os',o∈os) (adE:∀o∈os,∃cs E,o=Obj.cells cs E (0,0)/\off+n<=cs.size/\Obj.cells (kS cs off v.cells.toList) E (0,0)∈os') (hb:b<w0.heap.size->S b) (yC:∀q∈Mc,q.1≠b)
    (h:LD P r N ops Q l e ds Mc S w0 (fun w=>G w/\JS b Mc os' w)):LD P r N ops Q ((i,2)::l) e ds Mc S w0 (fun w=>G w/\JS b Mc os w):=fun a I1 fk=>by
  simp only [yT,hi];intro w ⟨hm,hc,hg,o,hos,LG⟩;obtain ⟨cs,E,rfl,hle,eK⟩:=adE o hos;have qV:v.cells.toList.length=n:=by simpa using hn
  obtain ⟨w',h2,h3,h4⟩:=eh (P:=P) v.cells.toList w cs off 0 (LG.get (i:=0) rfl) om (fun u hu=>List.all_eq_true.1 h1 u hu);rw [Nat.add_zero] at h3
  unfold wpOpIn
  rw [hi];simp only;rw [if_pos (Sm.wanted (o:=⟨none,.store t x y,ty,pos,after,gd⟩) I1)];refine wp_skip (a:=a) rfl (w':=w') (by simp [execOp,Instr.storeAt,Instr.sureAddr,I1.eval ha,I1.eval hv,storeVar,hS,hn,h2,Result.andThen]) ?_;refine ⟨Ir Mc S w0 (fun w=>G w/\JS b Mc os' w),fun w hw=>⟨hw.1,hw.2.1,hw.2.2.1,?_⟩,⟨hm.keep h4 yC,hc.step h4 (fun k hk PJ=>by subst PJ;exact hb hk),GT.yw _ w w' hg h4 (.one h4 (LG.get (i:=0) rfl) rfl),_,eK,LG.set (i:=0) rfl h3 h4⟩,h _ (I1.aiy undef) fk⟩;obtain ⟨o',ho',ao⟩:=hw.2.2.2;exact⟨o',iG o' ho',ao⟩
end
/-! ### The rest of a slice -/
def Jb (ad:Option Addr) (l c s:Nat):Option Addr:=if c=l then ad else ad.map (·.add (l*s))
section
variable {P:Program} {ty:TypeId} {e:Env} {t:TypeId} {x lo:Operand}
theorem jV (l:Nat) {k:IntKind} {li:Int} {c s:Nat} (hU:P.underlying t=some (.slice E)) (hS:∀w,(sizeOf E).run P w= .ok s w) (ha:ev e x=some (.slice ad n c)) (hl:ev e lo=some (.int k li))
    (KT:li=(l:Nat)) (h:l<=n):fo P (.slice t x (some lo) none none) ty e (.slice (Jb ad l c s) (n-l) (c-l)):=fun w ρ hρ _ _ _ _=>by
  subst KT;have h2:(l:Int)<=n:=by omega
  simp [execOp,Instr.sliceAt,Instr.slice,Instr.sliceBounds,Instr.sliceBound,asIntOf,run_underlying hU,hρ x _ ha,hρ lo _ hl,hS,h,h2,Jb,Result.andThen]
end
theorem Sr.drop {α:Type} {f:α->List Value} {s:Nat} {xs:List α} {ad:Option Addr} {n cap:Nat} {w:World} (h:Sr f s xs (.slice ad n cap) w) {l:Nat} (hk:l<=n):Sr f s (xs.drop l) (.slice (Jb ad l cap s) (n-l) (cap-l)) w:=by
  obtain ⟨BP,mD,h1,h2,h3⟩:=h;simp only [Value.slice.injEq] at h1;obtain ⟨rfl,rfl,rfl⟩:=h1;have hl:(xs.drop l).length=xs.length-l:=by simp
  refine ⟨_,_,by rw [hl],by omega,fun hx=>?_⟩;obtain ⟨b,off,cs,E,fz,h4,h5,h6⟩:=h3 om;refine ⟨b,off+l*s,cs,E,fz,?_,h5,fun i a ha j hj=>?_⟩
  · subst h4
    unfold Jb;rw [if_neg om]
    simp [Addr.add]
  · rw [List.getElem?_drop] at ha
    have:=h6 (l+i) a ha j hj;rw [<-this];congr 1;rw [Nat.add_mul];omega
/-! ### A test whose outcome is asked again -/
section
variable {P:Program} {r:Option Nat} {N:Nat} {Q:Exit->Act->World->Prop} {e:Env} {ds:List Nat} {M:ab} {S:Nat->Prop} {w0:World} {G:World->Prop}
theorem Fr.yi {t:Nat} {b c:Bool} {a:Act} (hf:Fr N e a) (ht:look e t=some (.bool b)) (hc:b=c):Fr N ((t,.bool c)::e) a:=⟨hf.1,fun k u hu=>by
    rw [er] at hu
    by_cases hk:t=k
    ·subst hk;rw [if_pos rfl] at hu;rw [<-hu,<-hc];exact hf.2 _ _ ht
    ·rw [if_neg hk] at hu;exact hf.2 k u hu⟩
theorem af.mG {t:Nat} [Decidable p] {x y:Code} (ht:look e t=some (.bool (decide p))) (h1:p->af P r N x Q ((t,.bool true)::e) ds M S w0 G) (h2:¬p->af P r N y Q ((t,.bool false)::e) ds M S w0 G):
    af P r N (.cond (.tmp t) x y) Q e ds M S w0 G:=
  .aj ht (fun hp w hm hc hg a hf hd=>h1 hp w hm hc hg a (hf.yi ht (decide_eq_true hp)) hd) (fun hp w hm hc hg a hf hd=>h2 hp w hm hc hg a (hf.yi ht (decide_eq_false hp)) hd)
theorem af.U8 {t:Nat} {b:Bool} {x y:Code} (ht:look e t=some (.bool b)) (h1:b=true->af P r N x Q ((t,.bool true)::e) ds M S w0 G) (h2:b=false->af P r N y Q ((t,.bool false)::e) ds M S w0 G):
    af P r N (.cond (.tmp t) x y) Q e ds M S w0 G:=
  .aN ht (fun hp w hm hc hg a hf hd=>h1 hp w hm hc hg a (hf.yi ht hp) hd) (fun hp w hm hc hg a hf hd=>h2 hp w hm hc hg a (hf.yi ht hp) hd)
end
inductive OT where
  |nil:OT
  |one:Nat->Nat->OT->OT
  |fork:Nat->OT->Nat->OT->OT
  |Zi:Nat->OT->Nat->OT->Nat->OT->OT
  |last:Nat->OT
def OT.size:OT->Nat
  | .nil=>0
  | .one _ _ t=>t.size+1
  | .fork _ t _ _=>t.size+1
  | .Zi _ t _ _ _ _=>t.size+1
  | .last _=>1
section
variable {P:Program} {r:Option Nat} {ops:Array Oper}
def vm (P:Program) (r:Option Nat) (ops:Array Oper) (Q:Exit->Act->World->Prop) (D:World->Prop):(World->Prop)->OT->Act->Prop
  |C,.nil,a=>∀w,C w->Q .normal a w
  |C,.last i,a=>∀w,C w->wpOpIn (Wd r) 0 P ops (Qn Q) i (Q .normal) a w
  |C,.fork i t j s,a=>(∀w,C w->wpOpIn (Wd r) 0 P ops (Qn Q) i (fun a' w'=>∃C':World->Prop,(∀w,C' w->D w)/\C' w'/\vm P r ops Q D C' t a') a w)/\
      ∀w,C w->wpOpIn (Wd r) 0 P ops (Qn Q) j (fun a' w'=>∃C':World->Prop,(∀w,C' w->D w)/\C' w'/\vm P r ops Q D C' s a') a w
  |C,.Zi i t j s k u,a=>(∀w,C w->wpOpIn (Wd r) 0 P ops (Qn Q) i (fun a' w'=>∃C':World->Prop,(∀w,C' w->D w)/\C' w'/\vm P r ops Q D C' t a') a w)/\
      (∀w,C w->wpOpIn (Wd r) 0 P ops (Qn Q) j (fun a' w'=>∃C':World->Prop,(∀w,C' w->D w)/\C' w'/\vm P r ops Q D C' s a') a w)/\
      ∀w,C w->wpOpIn (Wd r) 0 P ops (Qn Q) k (fun a' w'=>∃C':World->Prop,(∀w,C' w->D w)/\C' w'/\vm P r ops Q D C' u a') a w
  |C,.one i k l,a=>
    match ops[i]? with
    |none=>False
    |some o=>
      match k with
      |0=>∃v,YA P ops (fun _=>True) o v a/\vm P r ops Q D C l (a.put o.dst v)
      |1=>∃v,YA P ops D o v a/\vm P r ops Q D C l (a.put o.dst v)
      |_=>∀w,C w->wpOpIn (Wd r) 0 P ops (Qn Q) i (fun a' w'=>∃C':World->Prop,(∀w,C' w->D w)/\C' w'/\vm P r ops Q D C' l a') a w
def rm (ops:Array Oper) (z:Nat):OT->Array Bool->Bool
  | .nil,listed=>Region.ready .any ops listed== []
  | .last i,listed=>Region.ready .any ops listed== [i] &&(i==z)&&decide (i<listed.size)&&Region.ready .any ops (listed.setIfInBounds i true)== []
  | .fork i t j s,listed=>Region.ready .any ops listed== [i,j] &&t.size==s.size&&(i != z)&&(j != z)&&rm ops z t (listed.setIfInBounds i true)&&rm ops z s (listed.setIfInBounds j true)
  | .Zi i t j s k u,listed=>Region.ready .any ops listed== [i,j,k] &&t.size==s.size&&t.size==u.size&&(i != z)&&(j != z)&&(k != z)&&rm ops z t (listed.setIfInBounds i true)&&rm ops z s (listed.setIfInBounds j true)&&rm ops z u (listed.setIfInBounds k true)
  | .one i k l,listed=>
    (match k with
      |0=>Region.free .any ops listed i&&(Region.ready .any ops listed).contains i
      |1=>Region.free .any ops listed i&&(Region.ready .any ops listed).contains i&&(decide (ops.size<=z)||qK ops 40 z i)
      |_=>Region.ready .any ops listed== [i])&&(i != z)&&
    rm ops z l (listed.setIfInBounds i true)
def UJ (z:Nat):Nat->Bool:=fun q=>q==z
theorem fK {Q:Exit->Act->World->Prop} {D:World->Prop} {z:Nat} (mS:Region.noSelect ops=true) (dX:vM ops=true):
    ∀(l:OT) (C:World->Prop) (listed:Array Bool) (a:Act) (w:World),rm ops z l listed=true->jv ops listed->listed.getD z false=false->(∀w,C w->D w)->C w->vm P r ops Q D C l a->WS P r ops Q D (UJ z) l.size listed a w
  | .nil,C,listed,a,w,hc,_,_,EG,hC,h=>by
    simp only [rm,beq_iff_eq] at hc;exact⟨fun _=>EG w hC,hc,h w hC⟩
  | .last i,C,listed,a,w,hc,iT,hz,EG,hC,h=>by
    simp only [rm,Bool.and_eq_true,beq_iff_eq,decide_eq_true_eq] at hc;obtain ⟨⟨⟨hr,rfl⟩,bo⟩,XY⟩:=hc;simp only [vm] at h;refine ⟨fun _=>EG w hC,fun h0=>(by rw [hr] at h0;cases h0),fun q hq=>?_⟩;rw [hr] at hq;obtain rfl:q=i:=by simpa using hq
    exact wpOpIn_mono (fun a' w' IW=>⟨fun ht=>absurd (ht q (by simp [UJ])) (by simp [bo]),XY,IW⟩) (h w hC)
  | .fork i t j s,C,listed,a,w,hc,iT,hz,EG,hC,h=>by
    simp only [rm,Bool.and_eq_true,beq_iff_eq,bne_iff_ne] at hc;obtain ⟨⟨⟨⟨⟨hr,Ql⟩,Ma⟩,hjz⟩,hct⟩,vH⟩:=hc;simp only [vm] at h;refine ⟨fun _=>EG w hC,fun h0=>(by rw [hr] at h0;cases h0),fun q hq=>?_⟩;have IW:=hq;rw [hr] at IW;simp only [List.mem_cons,List.not_mem_nil,or_false] at IW;rcases IW with rfl|rfl
    ·exact wpOpIn_mono (fun a' w' ⟨C',lF,BT,hl⟩=>fK mS dX t C' _ a' w' hct (iT.set hq) (cP (Ne.symm Ma) hz) lF BT hl) (h.1 w hC)
    ·exact wpOpIn_mono (fun a' w' ⟨C',lF,BT,hl⟩=>by have:=fK mS dX s C' _ a' w' vH (iT.set hq) (cP (Ne.symm hjz) hz) lF BT hl;rw [<-Ql] at this;exact this) (h.2 w hC)
  | .Zi i t j s k u,C,listed,a,w,hc,iT,hz,EG,hC,h=>by
    simp only [rm,Bool.and_eq_true,beq_iff_eq,bne_iff_ne] at hc;obtain ⟨⟨⟨⟨⟨⟨⟨⟨hr,Ql⟩,afT⟩,Ma⟩,hjz⟩,hkz⟩,hct⟩,vH⟩,mO⟩:=hc;simp only [vm] at h;refine ⟨fun _=>EG w hC,fun h0=>(by rw [hr] at h0;cases h0),fun q hq=>?_⟩;have IW:=hq;rw [hr] at IW;simp only [List.mem_cons,List.not_mem_nil,or_false] at IW;rcases IW with rfl|rfl|rfl
    ·exact wpOpIn_mono (fun a' w' ⟨C',lF,BT,hl⟩=>fK mS dX t C' _ a' w' hct (iT.set hq) (cP (Ne.symm Ma) hz) lF BT hl) (h.1 w hC)
    ·exact wpOpIn_mono (fun a' w' ⟨C',lF,BT,hl⟩=>by have:=fK mS dX s C' _ a' w' vH (iT.set hq) (cP (Ne.symm hjz) hz) lF BT hl;rw [<-Ql] at this;exact this) (h.2.1 w hC)
    ·exact wpOpIn_mono (fun a' w' ⟨C',lF,BT,hl⟩=>by have:=fK mS dX u C' _ a' w' mO (iT.set hq) (cP (Ne.symm hkz) hz) lF BT hl;rw [<-afT] at this;exact this) (h.2.2 w hC)
  | .one i k l,C,listed,a,w,hc,iT,hz,EG,hC,h=>by
    simp only [vm] at h;cases ho:ops[i]? with
    |none=>rw [ho] at h;exact h.elim
    |some o=>
      rw [ho] at h;simp only at h;have MC:∀(j:Nat) (o:Oper),ops[j]? =some o->nd o.op=true:=fun j o hj=>(Array.all_eq_true_iff_forall_mem.1 dX) o (Array.mem_of_getElem? hj);have R6:∀q,UJ z q=true->listed.getD q false=false:=fun q hq=>by unfold UJ at hq;rw [beq_iff_eq] at hq;subst hq;exact hz
      have K1:i≠z->UJ z i=false:=fun h=>beq_eq_false_iff_ne.2 h
      match k,h,hc with
      |0,⟨v,hy,hl⟩,hc=>
        simp only [rm,Bool.and_eq_true,bne_iff_ne] at hc;obtain ⟨⟨⟨hf,hr⟩,Ma⟩,hc⟩:=hc
        exact WS.first (tl:=UJ z) ho (K1 Ma) (Region.noSelect_spec mS) MC (D:=fun _=>True) (.inl fun _=>trivial) l.size listed a w iT (EG w hC) R6 (Region.free_spec ho hf) (by simpa using hr) hy
          (fK mS dX l C _ _ w hc (iT.set (by simpa using hr)) (cP (Ne.symm Ma) hz) EG hC hl)
      |1,⟨v,hy,hl⟩,hc=>
        simp only [rm,Bool.and_eq_true,bne_iff_ne,Bool.or_eq_true,decide_eq_true_eq] at hc;obtain ⟨⟨⟨⟨hf,hr⟩,V8⟩,Ma⟩,hc⟩:=hc
        exact WS.first (tl:=UJ z) ho (K1 Ma) (Region.noSelect_spec mS) MC (D:=D) (.inr ⟨fun _ h=>h,fun j oj hj htj=>by
            unfold UJ at htj;rw [beq_iff_eq] at htj;subst htj
            rcases V8 with hd|hd
            ·have:=(Array.getElem?_eq_some_iff.1 hj).1;omega
            ·exact .inr hd⟩) l.size listed a w iT (EG w hC) R6 (Region.free_spec ho hf) (by simpa using hr) hy
          (fK mS dX l C _ _ w hc (iT.set (by simpa using hr)) (cP (Ne.symm Ma) hz) EG hC hl)
      |k+2,h,hc=>
        simp only [rm,Bool.and_eq_true,beq_iff_eq,bne_iff_ne] at hc;obtain ⟨⟨hr,Ma⟩,hc⟩:=hc;refine ⟨fun _=>EG w hC,fun h0=>(by rw [hr] at h0;cases h0),fun j hj=>?_⟩;rw [hr] at hj;obtain rfl:j=i:=by simpa using hj
        exact wpOpIn_mono (fun a' w' ⟨C',lF,BT,hl⟩=>fK mS dX l C' _ a' w' hc (iT.set (by rw [hr];simp)) (cP (Ne.symm Ma) hz) lF BT hl) (h w hC)
end
def OT.z (n:Nat):OT->Nat
  | .nil=>n
  | .one _ _ t=>t.z n
  | .fork _ t _ _=>t.z n
  | .Zi _ t _ _ _ _=>t.z n
  | .last i=>i
def He (ops:Array Oper) (ord:OT):Bool:=
  Region.noSelect ops&&vM ops&&(ord.size==ops.size)&&rm ops (ord.z ops.size) ord (Array.replicate ops.size false)
section
variable {P:Program} {r:Option Nat} {N:Nat} {Q:Exit->Act->World->Prop} {e:Env} {ds:List Nat} {M:ab} {S:Nat->Prop} {w0:World} {G:World->Prop}
def KD (P:Program) (r:Option Nat) (N:Nat) (ops:Array Oper) (Q:Exit->Act->World->Prop) (MD:ab) (GD:World->Prop) (ord:OT) (e:Env) (ds:List Nat) (M:ab) (S:Nat->Prop) (w0:World) (G:World->Prop):Prop:=
  ∀a,Fr N e a->Dm ds a->vm P r ops Q (Ir MD S w0 GD) (Ir M S w0 G) ord a
theorem af.keep [GS G] {id:Nat} (MD:ab) (GD:World->Prop) (ord:OT) (hm:P.follows .mixedOrders=true) (hc:He ops ord=true) (hM:aJ M MD) (hG:∀w,G w->GD w) (h:KD P r N ops Q MD GD ord e ds M S w0 G):af P r N (.region id ops true) Q e ds M S w0 G:=fun w hw jy hg a hf hd=>by
  simp only [He,Bool.and_eq_true,beq_iff_eq] at hc;obtain ⟨⟨⟨h1,h2⟩,h3⟩,h6⟩:=hc;refine wpIn_mono (wpIn_region_any (Q:=Qn Q) hm ?_) (fun x a w hq=>?_)
  · rw [<-h3]
    exact WS.any _ _ a _ (fK h1 h2 ord _ _ a _ (h3▸h6) (fun q o hq _=>by rw [Array.getD_eq_getD_getElem?,Array.getElem?_replicate] at hq;split at hq<;>cases hq) (by rw [Array.getD_eq_getD_getElem?,Array.getElem?_replicate];split<;>rfl) (fun w hw=>⟨hM.mem w hw.1,hw.2.1,hG w hw.2.2⟩)
      ⟨hw.ext (cG.drew no w),jy.trans (cG.drew S w),GS.ext w _ hg (cG.drew no w)⟩ (h a hf hd))
  ·cases x<;>first|exact hq|exact hq.elim
variable {ops:Array Oper} {l:OT} {op:Op} {ty:TypeId} {pos:String} {after:Array Edge} {d:Nat} {v:Value} {i:Nat} {MD:ab} {GD:World->Prop}
theorem KD.nil (h:QM N Q .normal e ds M S w0 G):KD P r N ops Q MD GD .nil e ds M S w0 G:=fun a hf hd w hw=>h w hw.1 hw.2.1 hw.2.2 a hf hd
theorem KD.val (hi:ops[i]? =some ⟨some d,op,ty,pos,after,g⟩) (hg:vI ops e g true) (hv:fo P op ty e v) (h:KD P r N ops Q MD GD l ((d,v)::e) ds M S w0 G) (dX:nd op=true:=by rfl) (hd:Nat.blt d N=true:=by rfl):
    KD P r N ops Q MD GD (.one i 0 l) e ds M S w0 G:=fun a hf fk=>by
  simp only [vm,hi];exact⟨v,.inl ⟨hg.wanted hf,dX,fun w _=>hv w a.eval (fun x u hx=>hf.eval hx) _ _ _ _⟩,h _ (hf.put hd v) fk⟩
theorem KD.rd (hi:ops[i]? =some ⟨some d,op,ty,pos,after,g⟩) (hg:vI ops e g true) (hv:∀w,Mem w MD->tn P op ty e w v w) (h:KD P r N ops Q MD GD l ((d,v)::e) ds M S w0 G) (dX:nd op=true:=by rfl) (hd:Nat.blt d N=true:=by rfl):
    KD P r N ops Q MD GD (.one i 1 l) e ds M S w0 G:=fun a hf fk=>by
  simp only [vm,hi];exact⟨v,.inl ⟨hg.wanted hf,dX,fun w hw=>hv w hw.1 a.eval (fun x u hx=>hf.eval hx) _ _ _ _⟩,h _ (hf.put hd v) fk⟩
theorem KD.dV (hi:ops[i]? =some ⟨some d,op,ty,pos,after,g⟩) (hg:vI ops e g true) (hv:∀w,Mem w MD->cG S w0 w->GD w->tn P op ty e w v w) (h:KD P r N ops Q MD GD l ((d,v)::e) ds M S w0 G) (dX:nd op=true:=by rfl) (hd:Nat.blt d N=true:=by rfl):
    KD P r N ops Q MD GD (.one i 1 l) e ds M S w0 G:=fun a hf fk=>by
  simp only [vm,hi];exact⟨v,.inl ⟨hg.wanted hf,dX,fun w hw=>hv w hw.1 hw.2.1 hw.2.2 a.eval (fun x u hx=>hf.eval hx) _ _ _ _⟩,h _ (hf.put hd v) fk⟩
theorem KD.dL (hk:Nat.blt k 2=true) (hi:ops[i]? =some ⟨some d,op,ty,pos,after,g⟩) (hg:vI ops e g false) (h:KD P r N ops Q MD GD l ((d,undef)::e) ds M S w0 G) (hd:Nat.blt d N=true:=by rfl):
    KD P r N ops Q MD GD (.one i k l) e ds M S w0 G:=fun a hf fk=>by
  have hY:∀D,YA P ops D ⟨some d,op,ty,pos,after,g⟩ undef a:=fun D=> .inr ⟨hg.wanted (o:=⟨some d,op,ty,pos,after,g⟩) hf,rfl⟩
  match k,hk with
  |0,_=>simp only [vm,hi];exact⟨undef,hY _,h _ (hf.put hd undef) fk⟩
  |1,_=>simp only [vm,hi];exact⟨undef,hY _,h _ (hf.put hd undef) fk⟩
theorem KD.drop (hk:Nat.blt k 2=true) (hi:ops[i]? =some ⟨some d,op,ty,pos,after,g⟩) (hg:vI ops e g false) (h:KD P r N ops Q MD GD l e ds M S w0 G) (hd:Nat.blt d N=true:=by rfl) (yl:look e d=none:=by rfl):
    KD P r N ops Q MD GD (.one i k l) e ds M S w0 G:= .dL hk hi hg (fun a hf fk=>h a ⟨hf.1,fun t u hu=>hf.2 t u (by
      rw [er]
      by_cases K5:d=t
      ·subst K5;rw [yl] at hu;cases hu
      ·rw [if_neg K5];exact hu)⟩ fk) hd
theorem KD.aw {t:Nat} [Decidable p] (ht:look e t=some (.bool (decide p))) (h1:p->KD P r N ops Q MD GD l ((t,.bool true)::e) ds M S w0 G) (h2:¬p->KD P r N ops Q MD GD l ((t,.bool false)::e) ds M S w0 G):
    KD P r N ops Q MD GD l e ds M S w0 G:=fun a hf fk=>by
  by_cases hp:p
  ·exact h1 hp a (hf.yi ht (decide_eq_true hp)) fk
  ·exact h2 hp a (hf.yi ht (decide_eq_false hp)) fk
theorem GZ {F:Fence} {o:Oper} {a:Act} {K K':Act->World->Prop} {Q Q':Exit->Act->World->Prop} (h:∀a w,K a w->K' a w) (hQ:∀c a w,Q (.panic c) a w->Q' (.panic c) a w) (hL:LetsOut Q->LetsOut Q')
    (hh:o.wpIn F n P a w K Q):o.wpIn F n P a w K' Q':=by
  unfold Oper.wpIn at*
  refine ⟨hh.1,?_⟩;have hh:=hh.2
  generalize (o.semAt F.round a.eval).run P w=r at*
  cases r with
  |ok x w'=>
    cases x<;>simp only [Oper.uponIn] at hh ⊢ <;>
      first
        |exact h _ _ hh
        |exact⟨hh.1,CallsIn.mono hh.2 (fun e w'' he=>by cases e<;>first|exact h _ _ he|exact hQ _ _ _ he|exact hL he)⟩
        |exact⟨hh.1,RowsIn.mono hh.2 (fun _ _ he=>h _ _ he)⟩
        |exact⟨hh.1,RoundIn.mono hh.2 (fun e w'' he=>by cases e<;>first|exact h _ _ he|exact hQ _ _ _ he|exact hL he)⟩
  |halt x w'=>cases x<;>simp only [Oper.uponIn] at hh ⊢ <;>first|exact hQ _ _ _ hh|exact hh
def KQ (P:Program) (r:Option Nat) (N:Nat) (ops:Array Oper) (Q:Exit->Act->World->Prop) (D:World->Prop) (l:OT):Exit->Act->World->Prop:=fun x a w=>x= .normal/\∃C':World->Prop,(∀w,C' w->D w)/\C' w/\vm P r ops Q D C' l a
theorem KD.one {o:Oper} {k:Nat} (ho:ops[i]? =some o) (h:LM P r N ops (KQ P r N ops Q (Ir MD S w0 GD) l) [o] e ds M S w0 G):KD P r N ops Q MD GD (.one i (k+2) l) e ds M S w0 G:=fun a hf fk=>by
  simp only [vm,ho];intro w hw;have h3:=h w hw.1 hw.2.1 hw.2.2 a hf fk
  unfold wpOpIn
  rw [ho]
  unfold wpListIn at h3
  simp only
  split
  · rename_i hq;rw [if_pos hq] at h3
    exact GZ (fun a w h=>h.2) (fun c a w h=>by cases h.1) (fun ⟨a,w,h⟩=>by cases h.1) h3
  · rename_i hq;rw [if_neg hq] at h3
    exact⟨fun _ _=>trivial,h3.2.2⟩
theorem KD.last {o:Oper} (ho:ops[i]? =some o) (h:LM P r N ops (Qn Q) [o] e ds M S w0 G):KD P r N ops Q MD GD (.last i) e ds M S w0 G:=fun a hf fk=>by
  simp only [vm];intro w hw;have h3:=h w hw.1 hw.2.1 hw.2.2 a hf fk
  unfold wpOpIn
  rw [ho]
  unfold wpListIn at h3
  simp only
  split
  ·rename_i hq;rw [if_pos hq] at h3;exact Oper.wpIn_mono (fun a w h=>h) h3
  ·rename_i hq;rw [if_neg hq] at h3;exact h3
theorem KD.fork {o o2:Oper} {j:Nat} {s:OT} (ho:ops[i]? =some o) (ho2:ops[j]? =some o2) (h:LM P r N ops (KQ P r N ops Q (Ir MD S w0 GD) l) [o] e ds M S w0 G) (h2:LM P r N ops (KQ P r N ops Q (Ir MD S w0 GD) s) [o2] e ds M S w0 G):KD P r N ops Q MD GD (.fork i l j s) e ds M S w0 G:=fun a hf fk=>by
  have k1:=KD.one (k:=0) ho h a hf fk;have k2:=KD.one (k:=0) ho2 h2 a hf fk;simp only [vm,ho] at k1;simp only [vm,ho2] at k2;simp only [vm];exact⟨k1,k2⟩
theorem QM.one (hM:aJ M MD) (hG:∀w,G w->GD w) (h:KD P r N ops Q MD GD l e ds M S w0 G):QM N (KQ P r N ops Q (Ir MD S w0 GD) l) .normal e ds M S w0 G:=fun w hm hc hg a hf hd=>
  ⟨rfl,Ir M S w0 G,fun w hw=>⟨hM.mem w hw.1,hw.2.1,hG w hw.2.2⟩,⟨hm,hc,hg⟩,h a hf hd⟩
end
section
variable {P:Program} {e:Env} {x:Operand} {t ty:TypeId} {M:ab}
end
section
variable {P:Program} {r:Option Nat} {N:Nat} {Q:Exit->Act->World->Prop} {e:Env} {ds:List Nat} {M:ab} {S:Nat->Prop} {w0:World}
variable {ops:Array Oper} {rest:List Oper} {op:Op} {ty:TypeId} {pos:String} {after:Array Edge} {d:Nat}
end
section
variable {P:Program} {r:Option Nat} {N:Nat} {Q:Exit->Act->World->Prop} {e:Env} {ds:List Nat} {M:ab} {S:Nat->Prop} {w0:World} {G:World->Prop}
variable {ops:Array Oper} {l:List Oper} {ty:TypeId} {pos:String} {after:Array Edge} {d:Nat} {t tk:TypeId} {x y z:Operand}
end
theorem mH:∀(M:List ab) (i:Nat),i<M.length->M.flatten.Perm (M.getD i [] ++(M.eraseIdx i).flatten)
  | [],i,h=>by cases h
  |m::M,0,h=>by simp
  |m::M,i+1,h=>by
    have ih:=mH M i (Nat.lt_of_succ_lt_succ h);simp only [List.flatten_cons,List.getD_cons_succ,List.eraseIdx_cons_succ];refine (ih.append_left m).trans ?_;rw [<-List.append_assoc,<-List.append_assoc];exact List.perm_append_comm.append_right _
theorem OV {M:List ab} (h:i<M.length) (m':ab):(M.set i m').flatten.Perm (m'++(M.eraseIdx i).flatten):=by
  have h1:=mH (M.set i m') i (by rw [List.length_set];exact h);rw [List.getD_eq_getElem?_getD,List.getElem?_set,if_pos rfl,if_pos h,Option.getD_some] at h1
  have h2:(M.set i m').eraseIdx i=M.eraseIdx i:=by
    apply List.ext_getElem?
    intro j;rw [List.getElem?_eraseIdx,List.getElem?_eraseIdx]
    split
    ·rw [List.getElem?_set_ne om]
    ·rw [List.getElem?_set_ne om]
  rw [h2] at h1;exact h1
theorem YK {M:List ab} (h:i<M.length) {p:Nat×Obj} (hp:p∈M.getD i []):p∈M.flatten:=
  (mH M i h).mem_iff.2 (List.mem_append_left _ hp)
theorem F8 {M:List ab} (h:i<M.length) (hm:Mem w M.flatten):Mem w (M.getD i []):=
  (hm.perm (mH M i h)).sub (List.sublist_append_left ..)
end Go.Eng
namespace Go.Eng
open Go Go.RowKit Go.ChangeShapes Go.WideShapes
variable {ops:Array Oper} {args:Array Value} {s:BitVec 64} {e:Env} {a lock t:Int} {ds:List Nat} {b i k n:Nat} {g:Option (Nat×Bool)} {ad:Option Addr} {P:Program} {p q:Prop} {α:Type} {E:TypeId} {w w' w0:World} {m x y:ab}
section
variable {H:Type} {enc:TypeId×Value->H} {P:Program} {w:World} {base:Nat} {sp:Nat->Bool} {held:Bool} {t:TypeId} {fuel:Nat} {cs:List Value} {x:DataW H×List MemPlace}
theorem mapM_each {α β:Type} (f:α->Option β):∀(l:List α) (ys:List β),l.mapM f=some ys->∀a∈l,∃y,f a=some y
  | [],_,_,a,h=>by cases h
  |b::l,ys,h,a,ha=>by
    rw [List.mapM_cons] at h;simp only [bind,Option.bind_eq_some_iff,pure,Option.some.injEq] at h;obtain ⟨y,hy,zs,hz,_⟩:=h;rcases List.mem_cons.1 ha with rfl|ha
    ·exact⟨y,hy⟩
    ·exact mapM_each f l zs hz a ha
theorem u7 {fs:Array Field} (ht:P.underlying t=some (.struct fs)) (h:DataW.trod enc P w base sp held fuel t cs=some x):
    cs.length=P.cellsOf t/\∀f∈fs.toList,∃n y,DataW.trod enc P w base sp held n f.type ((cs.drop f.offset).take (P.cellsOf f.type))=some y:=by
  cases fuel with
  |zero=>simp [DataW.trod] at h
  |succ n=>
    rw [DataW.trod_step] at h
    unfold DataW.trodStep at h
    simp only [ht] at h
    split at h
    · rename_i hl
      simp only [Option.map_eq_some_iff] at h;obtain ⟨ys,hy,_⟩:=h;exact⟨hl,fun f hf=>⟨n,mapM_each _ _ _ hy f hf⟩⟩
    ·cases h
def Rdb (P:Program) (t:TypeId) {α:Type} (f:α->List Value) (ok:α->Prop):Prop:=
  ∀{H:Type} {enc:TypeId×Value->H} {w:World} {base:Nat} {sp:Nat->Bool} {held:Bool} {fuel:Nat} {cs:List Value} {x:DataW H×List MemPlace},DataW.trod enc P w base sp held fuel t cs=some x->∃a,cs=f a/\ok a
def fU (x:BitVec 64):List Value:=[U x]
theorem AU (n:BitVec 64):(fU n).length=1:=rfl
theorem S3 {f:α->List Value} {ok:α->Prop} {e:TypeId} {s:Nat} (ht:P.underlying t=some (.slice e)) (he:Rdb P e f ok) (hs:P.cellsOf e=s) (q9:0<s) (hf:∀a,(f a).length=s)
    {ad:Option Addr} {len cap:Nat} {d:DataW H} {ps:List MemPlace} (h:DataW.Trod enc P w base sp held t (.slice ad len cap) d ps):
    ∃xs:List α,len=xs.length/\Sr f s xs (.slice ad xs.length cap) w/\(∀a∈xs,ok a)/\xs.length<=maxLen:=by
  obtain ⟨fuel,h⟩:=h;rcases DataW.trod_slice ht h with ⟨h0,_⟩|⟨a,l,c,elems,rest,n,_,h0,_,_,hlc,Lv,hel,hE,_,_⟩
  · simp [Value.cells] at h0
    obtain ⟨rfl,rfl,rfl⟩:=h0;exact⟨[],rfl,.nil _ _ _,(fun a ha=>absurd ha (by simp)),Nat.zero_le _⟩
  · simp [Value.cells] at h0
    obtain ⟨rfl,rfl,rfl⟩:=h0
    have each:∀i,i<len->∃b,ok b/\∀j,j<s->w.cell? (a.add (i*s+j))=(f b)[j]? :=fun i hi=>by
      have h1:=hE i hi;rw [hs] at h1;obtain ⟨y,hy⟩:∃y,elems[i]? =some y:=⟨_,List.getElem?_eq_getElem om⟩
      rw [hy,Option.bind_eq_some_iff] at h1;obtain ⟨cs,vH,To⟩:=h1;obtain ⟨b,rfl,hb⟩:=he To;refine ⟨b,hb,fun j hj=>?_⟩;have:=(World.cells?_some vH).2.2 j hj;rw [<-this,Addr.add_add]
    obtain ⟨xs,hxl,hx⟩:∃xs:List α,xs.length=len/\∀i b,xs[i]? =some b->ok b/\∀j,j<s->w.cell? (a.add (i*s+j))=(f b)[j]? :=by
      clear hE hel
      have:∀m,m<=len->∃xs:List α,xs.length=m/\∀i b,xs[i]? =some b->ok b/\∀j,j<s->w.cell? (a.add (i*s+j))=(f b)[j]? :=by
        intro m
        induction m with
        |zero=>intro _;exact⟨[],rfl,fun i b h=>by simp at h⟩
        |succ m ih=>
          intro hm;obtain ⟨xs,h1,h2⟩:=ih om;obtain ⟨b,hb⟩:=each m om;refine ⟨xs++ [b],by simp [h1],fun i c hc=>?_⟩
          by_cases hi:i<m
          ·rw [List.getElem?_append_left om] at hc;exact h2 i c hc
          · have bo:=(List.getElem?_eq_some_iff.1 hc).1
            simp [h1] at bo;have:i=m:=by omega
            subst this;rw [List.getElem?_append_right om,h1,Nat.sub_self] at hc;simp at hc;subst hc;exact hb
      exact this len (Nat.le_refl _)
    subst hxl;refine ⟨xs,rfl,⟨_,_,rfl,hlc,fun h0=>?_⟩,fun b hb=>?_,by omega⟩
    · obtain ⟨b0,hb0⟩:∃b,xs[0]? =some b:=⟨_,List.getElem?_eq_getElem h0⟩
      have h1:=(hx 0 b0 hb0).2 0 q9;have hfb:(f b0)[0]? =some ((f b0)[0]'(by rw [hf];exact q9)):=List.getElem?_eq_getElem _;rw [hfb] at h1;have C4:=World.cell?_spot h1;obtain ⟨b,off,spot⟩:=a;have:spot=none:=by simpa [Addr.add] using C4
      subst this;have h2:=h1;rw [jh] at h2
      unfold World.cell? at h2
      simp only at h2
      split at h2
      · rename_i c E fz hb
        refine ⟨b,off,c,E,fz,rfl,hb,fun i a ha j hj=>?_⟩;have h3:=(hx i a ha).2 j hj;rw [jh] at h3
        unfold World.cell? at h3
        simp only [hb] at h3;rw [<-h3];rfl
      ·cases h2
    · obtain ⟨i,hi⟩:=List.getElem?_of_mem hb
      exact(hx i b hi).1
end
end Go.Eng
namespace Go.Eng
open Go Go.RowKit
variable {ops:Array Oper} {args:Array Value} {s:BitVec 64} {e:Env} {a lock t:Int} {ds:List Nat} {b i k n:Nat} {g:Option (Nat×Bool)} {ad:Option Addr} {P:Program} {p q:Prop} {α:Type} {E:TypeId} {w w' w0:World} {m x y:ab}
abbrev df (m:ab) (k:Nat) (x:ab):Prop:=∀p∈x,k<=p.1\/∃q∈m,q.1=p.1
theorem ay (m:ab) (k:Nat):df m k m:=fun p hp=> .inr ⟨p,hp,rfl⟩
theorem ar (h:df m k x) (h2:df x k y):df m k y:=fun p hp=>by
  rcases h2 p hp with q|⟨q,hq,e⟩
  ·exact .inl q
  ·rw [<-e];exact h q hq
theorem abh (h:df x k y) (hs:∀p∈x,gU m p.1):∀p∈y,p.1<k->gU m p.1:=fun p hp bo=>by
  rcases h p hp with q|⟨q,hq,e⟩
  ·omega
  ·rw [<-e];exact hs q hq
theorem eS {o:Obj}:gU ((b,o)::m) b:=⟨_,List.mem_cons_self ..,rfl⟩
theorem bp {m' M:ab} {T:Value->ab->Prop} {u:Value} (hT:T u m') (hm:Mem w' M) (hs:aJ M (m'++ [])) (hc:cG (gU m) w w') (eK:df m w.heap.size m'):fq m T w u w':=by
  rw [List.append_nil] at hs;exact⟨hc,m',hT,hs.mem w' hm,eK⟩
theorem iw {o:Obj} (h:gU m b) (h2:df m k x):df m k ((b,o)::x):=fun p hp=>by
  rcases List.mem_cons.1 hp with rfl|hp
  ·exact .inr h
  ·exact h2 p hp
theorem cd (h:df m k x) (h2:df m k y):df m k (x++y):=fun p hp=>by
  rcases List.mem_append.1 hp with hp|hp
  ·exact h p hp
  ·exact h2 p hp
theorem FK (h:∀p∈x,p∈m):df m k x:=fun p hp=> .inr ⟨p,h p hp,rfl⟩
theorem uf (h:df x k y) (h2:∀p∈x,p∈m):df m k y:=fun p hp=>by
  rcases h p hp with q|⟨q,hq,e⟩
  ·exact .inl q
  ·exact .inr ⟨q,h2 q hq,e⟩
theorem fq.imp {T T':Value->ab->Prop} {u:Value} (h:fq m T w u w') (k:∀u m',T u m'->T' u m'):fq m T' w u w':=by
  obtain ⟨h1,m',h2,h3,h4⟩:=h;exact⟨h1,m',k _ _ h2,h3,h4⟩
theorem GA {a a':Nat×Obj} {R:ab}:∀q∈a::R,a'.1=a.1->gU (a'::R) q.1:=fun q hq h=>by
  rcases List.mem_cons.1 hq with rfl|hq
  ·exact⟨a',List.mem_cons_self ..,h⟩
  ·exact⟨q,List.mem_cons_of_mem _ hq,rfl⟩
theorem PL {a a':Nat×Obj} {R:ab} (eK:df (a::R) k y) (h:a'.1=a.1):df (a'::R) k y:=fun q hq=>by
  rcases eK q hq with e|⟨z,hz,e⟩
  ·exact .inl e
  ·rw [<-e];exact .inr (GA z hz h)
theorem au (eK:df m k y):∀q∈y,q.1<k->gU m q.1:=fun q hq bo=>by
  rcases eK q hq with e|e
  ·omega
  ·exact e
theorem RN {a a':Nat×Obj} {R:ab} (eK:df m k (a::R)) (h:a'.1=a.1):df m k (a'::R):=fun p hp=>by
  rcases List.mem_cons.1 hp with rfl|hp
  ·rw [h];exact eK a (List.mem_cons_self ..)
  ·exact eK p (List.mem_cons_of_mem _ hp)
theorem Sr.Hm {f:α->List Value} {s cap:Nat} {xs:List α} {S:Nat->Prop} (h:Sr f s xs (.slice ad n cap) w) (k:cG S w w') (hS:0<xs.length->¬S (ox ad)):Sr f s xs (.slice ad n cap) w':=by
  obtain ⟨BP,mD,h1,h2,h3⟩:=h;refine ⟨BP,mD,h1,h2,fun hx=>?_⟩;obtain ⟨b,off,cs,E,fz,h4,h5,h6⟩:=h3 hx;exact⟨b,off,cs,E,fz,h4,k.get h5 (by have:=hS hx;rw [(Value.slice.inj h1).1,h4] at this;exact this),h6⟩
theorem ck (h2:∀p∈x,∃q∈y,q.1=p.1) (h:df m k y):df m k x:=fun p hp=>by
  obtain ⟨q,hq,e⟩:=h2 p hp;rw [<-e];exact h q hq
theorem bE {xs:List α} {a:α} (h:i<xs.length):(xs.set i a)[i]? =some a:=List.getElem?_set_self h
theorem AI {l:List α} (d:α) (h:i<l.length):l.set i (l.getD i d)=l:=by
  apply List.ext_getElem (by rw [List.length_set])
  intro j h1 h2;rw [List.getElem_set]
  split
  ·rename_i e;subst e;rw [List.getD_eq_getElem?_getD,List.getElem?_eq_getElem h2];rfl
  ·rfl
abbrev bs (l:List UInt8):ByteArray:=⟨l.toArray⟩
abbrev vS (l:List UInt8):Value:= .string (bs l)
theorem Bn (l:List UInt8):(bs l).size=l.length:=by rw [Lib.size_eq]
theorem vD (l:List UInt8):(bs l).toList=l:=by rw [Lib.toList_data]
theorem aan (s:ByteArray):s=bs s.data.toList:=(Lib.mk_data s).symm
section
variable {P:Program} {ty:TypeId} {e:Env} {t u:TypeId} {x y lo hi:Operand} {l a b:List UInt8}
theorem j0 (ht:P.underlying t=some .string) (hx:ev e x=some (vS l)):fo P (.call {callee:= .builtin .len,args:=#[x],argTypes:=#[t] }) ty e (.int .i64 l.length):=by
  have:=SQ (P:=P) (ty:=ty) ht hx;rwa [Bn] at this
theorem H6 (a b:List UInt8):(a==b)=decide (a=b):=by rw [Bool.eq_iff_iff];simp
theorem sj (hx:ev e x=some (vS a)) (hy:ev e y=some (vS b)):fo P (.binOp .eql t x y u) ty e (.bool (decide (a=b))):=by
  have:=Se (P:=P) (ty:=ty) (t:=t) (u:=u) hx hy;rwa [vD,vD,H6] at this
theorem DY (hx:ev e x=some (vS a)) (hy:ev e y=some (vS b)):fo P (.binOp .neq t x y u) ty e (.bool (decide (a≠b))):=by
  have:=R8 (P:=P) (ty:=ty) (t:=t) (u:=u) hx hy;rw [vD,vD,H6] at this;rwa [show (!decide (a=b))=decide (a≠b) by rw [decide_not]] at this
theorem OO {k:IntKind} {i:Int} (ht:P.underlying t=some .string) (hx:ev e x=some (vS l)) (hy:ev e y=some (.int k i)) (h:0<=i/\i<l.length):fo P (.index t x y) ty e (.int .u8 ((l.getD i.toNat 0).toNat:Nat)):=fun w ρ hρ _ _ _ _=>by
  have h2:(bs l)[i.toNat]? =some (l.getD i.toNat 0):=by
    have bo:i.toNat<l.length:=by omega
    rw [getElem?_pos (bs l) i.toNat (by rw [Bn];exact bo),List.getD_eq_getElem?_getD,List.getElem?_eq_getElem bo]
    rfl
  simp only [execOp,Instr.index,asIntOf,hρ x _ hx,hρ y _ hy,Sem.run_bind,Sem.run_pure,Result.andThen,run_underlying ht,if_pos h.1,h2,Sem.run_map]
theorem ei {k:IntKind} (ht:P.underlying t=some .string) (hx:ev e x=some (vS l)) (hy:ev e y=some (.int k (i:Nat))) (h:i<l.length):fo P (.index t x y) ty e (.int .u8 ((l.getD i 0).toNat:Nat)):=by
  have:=OO (P:=P) (ty:=ty) ht hx hy om;simpa using this
theorem xK {k k':IntKind} {i j:Int} (ht:P.underlying t=some .string) (hx:ev e x=some (vS l)) (hl:ev e lo=some (.int k i)) (hh:ev e hi=some (.int k' j)) (h1:0<=i) (h2:i<=j) (h3:j<=l.length):
    fo P (.slice t x (some lo) (some hi) none) ty e (vS ((l.drop i.toNat).take (j.toNat-i.toNat))):=fun w ρ hρ _ _ _ _=>by
  have a1:0<=j/\j<=((bs l).size:Int):=by rw [Bn];omega
  have a2:0<=i/\i<=((j.toNat:Nat):Int):=by omega
  have h4:(bs l).extract i.toNat j.toNat=bs ((l.drop i.toNat).take (j.toNat-i.toNat)):=Lib.extract_eq _ _ _;simp only [execOp,Instr.sliceAt,Instr.slice,Instr.sliceBounds,Instr.sliceBound,asIntOf,hρ x _ hx,hρ lo _ hl,hρ hi _ hh,Sem.run_bind,Sem.run_pure,Result.andThen,run_underlying ht,Option.map_some,Option.map_none,if_pos a1,if_pos a2,h4,Option.isSome_none,Bool.false_eq_true,if_false,Sem.run_map]
end
section
variable {P:Program} {r:Option Nat} {N:Nat} {Q:Exit->Act->World->Prop} {e:Env} {ds:List Nat} {M:ab} {S:Nat->Prop} {w0:World} {G:World->Prop}
variable {ops:Array Oper} {l:List Oper} {op:Op} {ty:TypeId} {pos:String} {after:Array Edge} {d:Nat}
end
theorem tG (w:World) (t ty E:TypeId) (inf:TypeInfo) (hU:P.underlying t=some (.slice E)) (hI:P.info? E=some inf) (base ad:Option Addr) (n cap cy:Nat) (h:n<=cap):
    (Builtin.append_ #[t,t] ty #[.slice base n cap,.slice ad 0 cy]).run P w= .ok (.slice base n cap) w:=by
  have hf:(Builtin.firstCells inf.size 0 (.slice ad 0 cy)).run P w= .ok #[] w:=by
    cases ad with
    |none=>simp [Builtin.firstCells]
    |some a=>exact run_firstCells_some w inf.size 0 a 0 cy [] (by simp) (fun j v hj=>by simp at hj)
  have hs:(sizeOf E).run P w= .ok inf.size w:=by simp [sizeOf,typeInfo,hI]
  cases base with
  |none=>simp [Builtin.append_,run_underlying hU,hs,Builtin.lenOf,hf,h]
  |some b=>simp [Builtin.append_,run_underlying hU,hs,Builtin.lenOf,hf,h,storeCells]
theorem E2 {f:α->List Value} {s:Nat} (hf:∀a,(f a).length=s) (hs:0<s) {ys:List α} {j:Nat} {u:Value} (h:(ys.flatMap f)[j]? =some u):∃i a k,ys[i]? =some a/\k<s/\j=i*s+k/\(f a)[k]? =some u:=by
  have hj:j<ys.length*s:=by
    have:=(List.getElem?_eq_some_iff.1 h).1;rwa [ca hf] at this
  have hi:j / s<ys.length:=(Nat.div_lt_iff_lt_mul hs).2 hj;have e:j=j / s*s+j % s:=by rw [Nat.mul_comm];exact(Nat.div_add_mod j s).symm
  have hk:j % s<s:=Nat.mod_lt _ hs;refine ⟨j / s,ys[j / s],j % s,List.getElem?_eq_getElem hi,hk,e,?_⟩;rw [<-kI hf ys (j / s) (j % s) _ (List.getElem?_eq_getElem hi) hk,<-e];exact h
section
variable {P:Program} {r:Option Nat} {N:Nat} {Q:Exit->Act->World->Prop} {e:Env} {ds:List Nat} {M:ab} {S:Nat->Prop} {w0:World} {G:World->Prop}
variable {ops:Array Oper} {l:List Oper} {ty:TypeId} {pos:String} {after:Array Edge} {d:Nat} {x y:Operand} {t:TypeId}
theorem LM.tU [GT G] {f:α->List Value} {E s n0:Nat} {inf:TypeInfo} {z:Value} {xs ys:List α} {v:Value} {M2:ab} {ny c:Nat}
    (hU:P.underlying t=some (.slice E)) (hI:∀w,(typeInfo E).run P w= .ok inf w) (hz:inf.zero=some z) (hs:inf.size=s) (q9:Nat.blt 0 s=true) (Ll:z.cells.size=s) (hd:Nat.blt d N=true)
    (hx:ev e x=some v) (hy:ev e y=some (.slice ad ny c)) (jL:Sl f E s n0 xs v m) [h2:rC M m M2] (hr:∀w,Mem w M->cG S w0 w->G w->Sr f s ys (.slice ad ny c) w)
    (hf:∀a,(f a).length=s) (Bu:∀a,∀u∈f a,one u=true) (cm:n0<=w0.heap.size) (ZX:∀p∈m,p.1<w0.heap.size->S p.1) (hlen:xs.length+ys.length<=maxLen) (qZ:(xs.length+ys.length)*inf.bytes<=140737488355328)
    (h:∀ad n cap m',n=xs.length+ys.length->Sl f E s n0 (xs++ys) (.slice ad n cap) m'->(∀p∈m',w0.heap.size<=p.1\/∃q∈m,q.1=p.1)->LM P r N ops Q l ((d,.slice ad n cap)::e) ds (m'++M2) S w0 G):
    LM P r N ops Q (⟨some d,.call {callee:= .builtin .append,args:=#[x,y],argTypes:=#[t,t] },ty,pos,after,none⟩::l) e ds M S w0 G:=fun w hm hc hg=>by
  have q9:0<s:=Nat.le_of_ble_eq_true q9;have BW:=A5 hI;have BR:=hr w hm hc hg;have Ph:Mem w (m++M2):=hm.perm h2.perm;obtain ⟨rfl,-,pO⟩:=BR.open
  have h':∀v' m',Sl f E s n0 (xs++ys) v' m'->(∀p∈m',w0.heap.size<=p.1\/∃q∈m,q.1=p.1)->LM P r N ops Q l ((d,v')::e) ds (m'++M2) S w0 G:=fun v' m' KF eK=>by
    obtain ⟨ad,cap,rfl⟩:=KF.form;exact h ad _ cap m' (by simp) KF eK
  have step:∀(v':Value) (w':World),(Builtin.append_ #[t,t] ty #[v,.slice ad ys.length c]).run P w= .ok v' w'->
      (LE P r N ops Q l ((d,v')::e) ds w')->LE P r N ops Q (⟨some d,.call {callee:= .builtin .append,args:=#[x,y],argTypes:=#[t,t] },ty,pos,after,none⟩::l) e ds w:=fun v' w' hr hl=>
    LE.val (fun ρ hρ _ _ _ _=>by simp [execOp,resolve,invoke,builtin,hρ x _ hx,hρ y _ hy,hr,Result.andThen]) hl rfl hd
  by_cases hy0:ys.length=0
  · obtain rfl:ys=[] :=List.eq_nil_of_length_eq_zero hy0
    have hv:∃b n cp,v= .slice b n cp/\n<=cp:=by
      rcases jL with ⟨rfl,_,_⟩|⟨b,cap,bH,_,rfl,_,hle,_,_⟩
      ·exact⟨_,_,_,rfl,Nat.le_refl _⟩
      ·exact⟨_,_,_,rfl,hle⟩
    obtain ⟨b,n,cp,rfl,hle⟩:=hv;exact step _ _ (tG w t ty E inf hU BW b ad n cp c hle) (h' _ m (by simpa using jL) (fun p hp=> .inr ⟨p,hp,rfl⟩) w Ph hc hg)
  obtain ⟨bx,off,cs,F,fz,rfl,hbx,vH⟩:=pO om;have hfl:(ys.flatMap f).length=ys.length*inf.size:=by rw [ca hf,hs]
  have xy:∀j u,(ys.flatMap f)[j]? =some u->w.cell? ((⟨bx,off,none⟩:Addr).add j)=some u:=fun j u hj=>by
    obtain ⟨i,a,k,h1,h2,h3,h4⟩:=E2 hf q9 hj;have:=vH i a h1 k h2;rw [<-h3,h4] at this;rw [Addr.add_lit];simp [World.cell?,hbx];exact this
  have ac4:∀u∈ys.flatMap f,one u=true:=fun u hu=>by
    obtain ⟨a,_,hu⟩:=List.mem_flatMap.1 hu;exact Bu a u hu
  rcases jL with ⟨rfl,rfl,rfl⟩|⟨b,cap,bH,hb,rfl,rfl,hle,U9,Ql⟩
  · -- nil
    simp only [List.length_nil,Nat.zero_add] at hlen qZ;have hr:=run_append_nil (P:=P) w t ty E inf z hU BW hz ⟨bx,off,none⟩ ys.length c (ys.flatMap f) hfl xy om (by unfold maxLen at hlen;omega) om;refine step _ _ hr ?_;obtain ⟨k,hk,y6⟩:∃k,grownCap w ys.length 0 E=k/\ys.length<=k/\k<=maxLen:=⟨_,rfl,grownCap_ge w _ 0 E,grownCap_le_maxLen w _ 0 E hlen⟩
    rw [hk];refine h' _ [(w.heap.size,.cells (arr f ([] ++ys) (Builtin.zeroCells z.cells (k-ys.length)).toList) E (0,0))] (.inr ⟨w.heap.size,k,(Builtin.zeroCells z.cells (k-ys.length)).toList,Nat.le_trans cm hc.size,rfl,rfl,by simpa using y6.1,y6.2,?_⟩) (fun p hp=>by rw [List.mem_singleton] at hp;subst hp;exact .inl hc.size) _ ?_ ?_ ?_
    · simp only [List.nil_append,Array.length_toList,size_zeroCells,Ll]
      rw [Nat.sub_mul];have:ys.length*s<=k*s:=Nat.mul_le_mul_right _ y6.1;omega
    · have e1:(Obj.cells ((ys.flatMap f).toArray++Builtin.zeroCells z.cells (k-ys.length)) E)= .cells (arr f ([] ++ys) (Builtin.zeroCells z.cells (k-ys.length)).toList) E (0,0):=by
        congr 1;apply Array.ext';simp [arr]
      rw [e1];exact(Ph.ext (cG.drew no w)).alloc _
    ·exact(hc.step (cG.drew no w) (fun _ _ q=>q.elim)).step (bw w.drew _) (fun _ _ q=>q.elim)
    ·exact GS.ext w.drew _ (GS.ext w _ hg (cG.drew no w)) (bw w.drew _)
  · have SS:=Ph.get (i:=0) rfl
    have OS:(arr f xs bH).size=cap*s:=by simp [arr,ca hf,Ql]
    by_cases xZ:xs.length+ys.length<=cap
    · have hmul:(xs.length+ys.length)*s<=cap*s:=Nat.mul_le_mul_right _ xZ
      rw [Nat.add_mul] at hmul;have hr:=run_append_room (P:=P) w t ty E inf hU BW b xs.length cap (arr f xs bH) SS ⟨bx,off,none⟩ ys.length c (ys.flatMap f) hfl xy (fun u hu=>ac4 u hu) xZ (by rw [hs,ca hf,OS];exact hmul);refine step _ _ hr ?_;rw [hs,ca hf]
      have e1:(((arr f xs bH).toList.take (xs.length*s)++ys.flatMap f++(arr f xs bH).toList.drop (xs.length*s+ys.length*s)).toArray)=arr f (xs++ys) (bH.drop (ys.length*s)):=by
        apply Array.ext'
        have hl:=ca hf xs;simp only [arr,List.flatMap_append];rw [<-hl,List.take_left,List.drop_append,List.drop_eq_nil_of_le om,List.nil_append,Nat.add_sub_cancel_left]
      rw [e1]
      have Yp:(w.setRow b (arr f (xs++ys) (bH.drop (ys.length*s)))).heap[b]? =some (.cells (arr f (xs++ys) (bH.drop (ys.length*s))) E (0,0)):=by
        obtain ⟨bo,hk⟩:=Array.getElem?_eq_some_iff.1 SS
        show (w.heap.modify b _)[b]? =_
        rw [Array.getElem?_eq_getElem (by rw [Array.size_modify];exact bo),Array.getElem_modify_self,hk]
      have Aq:cG (fun x=>x=b) w (w.setRow b (arr f (xs++ys) (bH.drop (ys.length*s)))):=⟨rfl,rfl,rfl,by simp [World.setRow],fun k _ hn=>by
        simp only [World.setRow,Array.getElem?_modify];rw [if_neg (Ne.symm hn)]⟩
      refine h' _ [(b,.cells (arr f (xs++ys) (bH.drop (ys.length*s))) E (0,0))] (.inr ⟨b,cap,bH.drop (ys.length*s),hb,by simp,rfl,by simpa using xZ,U9,?_⟩) (fun p hp=>by rw [List.mem_singleton] at hp;subst hp;exact .inr ⟨_,List.mem_singleton.2 rfl,rfl⟩) _ ?_ ?_ ?_
      ·simp only [List.length_append,List.length_drop,Nat.add_mul];omega
      ·exact Ph.set (i:=0) rfl Yp Aq
      ·exact hc.step Aq (fun k hk PJ=>by subst PJ;exact ZX _ (List.mem_singleton.2 rfl) hk)
      ·exact GT.yw _ w _ hg Aq (.one Aq SS rfl)
    · have holds:∀j u,(xs.flatMap f)[j]? =some u->w.cell? ((⟨b,0,none⟩:Addr).add j)=some u:=fun j u hj=>by
        have T2:j<(xs.flatMap f).length:=(List.getElem?_eq_some_iff.1 hj).1;rw [jh];simp [World.cell?,SS,arr,List.getElem?_append_left T2,hj]
      have hr:=run_append_grow (P:=P) w t ty E inf z hU BW hz ⟨b,0,none⟩ xs.length cap (xs.flatMap f) (by rw [ca hf,hs]) holds ⟨bx,off,none⟩ ys.length c (ys.flatMap f) hfl xy om (by unfold maxLen at hlen;omega) (growslice_fits om qZ);refine step _ _ hr ?_;obtain ⟨k,hk,y6⟩:∃k,grownCap w (xs.length+ys.length) cap E=k/\xs.length+ys.length<=k/\k<=maxLen:=⟨_,rfl,grownCap_ge w _ cap E,grownCap_le_maxLen w _ cap E hlen⟩
      rw [hk];refine h' _ [(w.heap.size,.cells (arr f (xs++ys) (Builtin.zeroCells z.cells (k-(xs.length+ys.length))).toList) E (0,0))] (.inr ⟨w.heap.size,k,(Builtin.zeroCells z.cells (k-(xs.length+ys.length))).toList,Nat.le_trans cm hc.size,by simp,rfl,by simpa using y6.1,y6.2,?_⟩) (fun p hp=>by rw [List.mem_singleton] at hp;subst hp;exact .inl hc.size) _ ?_ ?_ ?_
      · simp only [List.length_append,Array.length_toList,size_zeroCells,Ll]
        rw [Nat.sub_mul];have:(xs.length+ys.length)*s<=k*s:=Nat.mul_le_mul_right _ y6.1;omega
      · have e1:(Obj.cells ((xs.flatMap f).toArray++(ys.flatMap f).toArray++Builtin.zeroCells z.cells (k-(xs.length+ys.length))) E)= .cells (arr f (xs++ys) (Builtin.zeroCells z.cells (k-(xs.length+ys.length))).toList) E (0,0):=by
          congr 1;apply Array.ext';simp [arr]
        rw [e1];have KU:Mem w M2:=by simpa using Ph.tail
        exact(KU.ext (cG.drew no w)).alloc _
      ·exact(hc.step (cG.drew no w) (fun _ _ q=>q.elim)).step (bw w.drew _) (fun _ _ q=>q.elim)
      ·exact GS.ext w.drew _ (GS.ext w _ hg (cG.drew no w)) (bw w.drew _)
end
section
variable {P:Program} {r:Option Nat} {N:Nat} {Q:Exit->Act->World->Prop} {e:Env} {ds:List Nat} {M:ab} {S:Nat->Prop} {w0:World} {G:World->Prop}
variable {ops:Array Oper} {l:List Oper} {op:Op} {ty:TypeId} {pos:String} {after:Array Edge} {d:Nat}
end
end Go.Eng
namespace Go.Eng
open Go Go.RowKit Go.Lib Go.Sort
variable {ops:Array Oper} {args:Array Value} {s:BitVec 64} {e:Env} {a lock t:Int} {ds:List Nat} {b i k n:Nat} {g:Option (Nat×Bool)} {ad:Option Addr} {P:Program} {p q:Prop} {α:Type} {E:TypeId} {w w' w0:World} {m x y:ab}
section
variable {P:Program} {r:Option Nat} {N:Nat} {Q:Exit->Go.Act->World->Prop} {e:Env} {ds:List Nat} {M:ab} {S:Nat->Prop} {w0:World} {G:World->Prop}
variable {ops:Array Oper} {l:List Oper} {ty:TypeId} {pos:String} {after:Array Edge} {d:Nat} {x y:Operand} {t:TypeId}
end
section
variable {P:Program} {r:Option Nat} {N:Nat} {Q:Exit->Go.Act->World->Prop} {e:Env} {ds:List Nat} {M:ab} {S:Nat->Prop} {w0:World} {G:World->Prop}
variable {ops:Array Oper} {l:List Oper} {ty:TypeId} {pos:String} {after:Array Edge} {d:Nat} {t:TypeId}
theorem LM.Ot [GS G] {s:Nat} (hU:P.underlying t=some (.slice E)) (hS:∀w,(sizeOf E).run P w= .ok s w) (hd:Nat.blt d N=true)
    (h:∀b,w0.heap.size<=b->LM P r N ops Q l ((d,.slice (some ⟨b,0,none⟩) 0 0)::e) ds ((b,.cells (([] :List Value).toArray) E (0,0))::M) S w0 G):LM P r N ops Q (⟨some d,.buildSlice t 0 #[],ty,pos,after,none⟩::l) e ds M S w0 G:=fun w hm hc hg=>by
  refine LE.val (w':=w.alloc (.cells ([] :List Value).toArray E)) (fun ρ hρ _ _ _ _=>?_) (h w.heap.size hc.size _ (hm.alloc _) (hc.step (bw w _) (fun _ _ q=>q.elim)) (GS.ext w _ hg (bw w _))) rfl hd;simp [execOp,Instr.buildSlice,run_underlying hU,hS,Instr.fill,newRow,Result.andThen];rw [show (Array.range 0)=#[] by decide,Array.map_empty]
end
section
variable {P:Program} {r:Option Nat} {N:Nat} {Q:Exit->Go.Act->World->Prop} {e:Env} {ds:List Nat} {M:ab} {S:Nat->Prop} {w0:World} {G:World->Prop}
variable {ops:Array Oper} {l:List (Nat×Nat)} {op:Op} {ty:TypeId} {pos:String} {after:Array Edge} {d i:Nat}
theorem LD.PW {j t:Nat} {b:Bool} (hi:ops[i]? =some ⟨some d,op,ty,pos,after,some (j,b)⟩) (hj:(ops[j]?).bind (·.dst)=some t) (ht:look e t=some undef) (h:LD P r N ops Q l ((d,undef)::e) ds M S w0 G) (hd:Nat.blt d N=true:=by rfl):
    LD P r N ops Q ((i,2)::l) e ds M S w0 G:=fun a hf fk=>by
  have hw:Region.wanted ⟨some d,op,ty,pos,after,some (j,b)⟩ (yielded ops a.tmps)=false:=by
    simp only [Region.wanted,yielded,hj,Option.bind_some,hf.2 t _ ht,undef];rfl
  have hl:=h _ (hf.put hd undef) fk;simp only [yT,hi];intro w hC
  unfold wpOpIn
  rw [hi];simp only;rw [if_neg (by rw [hw];simp)];exact⟨fun _ _=>trivial,Ir M S w0 G,fun _ h=>h,hC,hl⟩
theorem LD.dS [GS G] {gd:Option (Nat×Bool)} {g:FuncId} {T:Nat->Value->ab->Prop} (hi:ops[i]? =some ⟨some d,op,ty,pos,after,gd⟩) (Sm:vI ops e gd true) (hc:∀w,Ep P op ty e w g args) (NY:∀n n' u m,n'<=n->T n u m->T n' u m)
    (h:∀w,Mem w M->cG S w0 w->G w->aD P g args w (fun u w'=>Ext w w'/\∃m,T w.heap.size u m/\Mem w' m/\∀p∈m,w.heap.size<=p.1))
    (hk:∀u m,T w0.heap.size u m->(∀p∈m,w0.heap.size<=p.1)->LD P r N ops Q l ((d,u)::e) ds (M++m) S w0 G) (dX:nd op=true:=by rfl) (hd:Nat.blt d N=true:=by rfl):
    LD P r N ops Q ((i,2)::l) e ds M S w0 G:=
  .Ul hi Sm hc (fun w hm jy hg=>h w hm jy hg) (fun w u w' hm jy hg ⟨he,m,hT,ao,HA⟩=>by
    refine ⟨M++m,fun w h=>h.sub (List.sublist_append_left _ _),⟨Mem.perm (M:=m++M) ⟨?_,fun p hp=>?_⟩ List.perm_append_comm,jy.step he (fun _ _ q=>q.elim),GS.ext w w' hg he⟩,hk u m (NY _ _ u m jy.size hT) (fun p hp=>Nat.le_trans jy.size (HA p hp))⟩
    · rw [List.map_append]
      refine List.nodup_append.2 ⟨ao.1,hm.1,?_⟩;intro x hx y hy hxy;obtain ⟨p,hp,rfl⟩:=List.mem_map.1 hx;obtain ⟨q,hq,rfl⟩:=List.mem_map.1 hy;have:=HA p hp;have:=hm.lt hq;omega
    · rcases List.mem_append.1 hp with hp|hp
      ·exact ao.2 p hp
      ·exact he.get (hm.2 p hp)) dX hd
end
theorem Sl.void {f:α->List Value} {E s n0 cap:Nat} {cs:List Value} (hb:n0<=b) (hc:cap<=maxLen) (hl:cs.length=cap*s):Sl f E s n0 ([] :List α) (.slice (some ⟨b,0,none⟩) 0 cap) [(b,.cells cs.toArray E (0,0))] :=
  .inr ⟨b,cap,cs,hb,rfl,by simp [arr],Nat.zero_le _,hc,by simpa using hl⟩
end Go.Eng
namespace Go.Eng
open Go Go.RowKit
variable {ops:Array Oper} {args:Array Value} {s:BitVec 64} {e:Env} {a lock t:Int} {ds:List Nat} {b i k n:Nat} {g:Option (Nat×Bool)} {ad:Option Addr} {P:Program} {p q:Prop} {α:Type} {E:TypeId} {w w' w0:World} {m x y:ab}
section
variable {P:Program} {r:Option Nat} {N:Nat} {Q:Exit->Act->World->Prop} {e:Env} {ds:List Nat} {M:ab} {S:Nat->Prop} {w0:World} {G:World->Prop}
variable {ops:Array Oper} {l:List Oper} {ty:TypeId} {pos:String} {after:Array Edge} {d:Nat} {x y:Operand} {t:TypeId}
end
section
variable {P:Program} {r:Option Nat} {N:Nat} {Q:Exit->Act->World->Prop} {e:Env} {ds:List Nat} {M m:ab} {w0 w1:World} {n k:Nat} {J:Nat->ab->World->Prop} {Jx K:World->Prop}
variable {ops:Array Oper} {rest:List Oper} {ty:TypeId} {pos:String} {after:Array Edge} {d:Nat}
end
section range
variable {P:Program} {N:Nat} {Q:Exit->Act->World->Prop} {e:Env} {ds:List Nat} {M:ab} {S:Nat->Prop} {w0:World} {G:World->Prop}
variable {g:Operand} {ps:Array Tmp} {assign body:Code} {gf:FuncId} {lb:Array Value} {A:List (Array Value)} {Rd:World->Prop} {mp0:ab} {T:Nat->ab->Prop} {fin:Prop} {α β:Type}
end range
section
variable {P:Program} {r:Option Nat} {N:Nat} {Q:Exit->Act->World->Prop} {e:Env} {ds:List Nat} {M:ab} {S:Nat->Prop} {w0:World} {G:World->Prop}
variable {ops:Array Oper} {l:List Oper} {ty:TypeId} {pos:String} {after:Array Edge} {d:Nat} {x y:Operand} {t:TypeId}
theorem PK {lo hi:Operand} (l h:Nat) {k k':IntKind} {li hv:Int} {c s:Nat} (hU:P.underlying t=some (.slice E)) (hS:∀w,(sizeOf E).run P w= .ok s w) (ha:ev e x=some (.slice ad n c)) (hl:ev e lo=some (.int k li)) (hh:ev e hi=some (.int k' hv))
    (KT:li=(l:Nat)) (hhi:hv=(h:Nat)) (h1:l<=h) (h2:h<=c):fo P (.slice t x (some lo) (some hi) none) ty e (.slice (Jb ad l c s) (h-l) (c-l)):=fun w ρ hρ _ _ _ _=>by
  subst KT hhi;have a1:(h:Int)<=c:=by omega
  have a2:(l:Int)<=h:=by omega
  simp [execOp,Instr.sliceAt,Instr.slice,Instr.sliceBounds,Instr.sliceBound,asIntOf,run_underlying hU,hρ x _ ha,hρ lo _ hl,hρ hi _ hh,hS,h1,h2,a1,a2,Jb,Result.andThen]
end
end Go.Eng
namespace Go.Eng
open Go Go.Proofs Go.RowKit
variable {ops:Array Oper} {args:Array Value} {s:BitVec 64} {e:Env} {a lock t:Int} {ds:List Nat} {b i k n:Nat} {g:Option (Nat×Bool)} {ad:Option Addr} {P:Program} {p q:Prop} {α:Type} {E:TypeId} {w w' w0:World} {m x y:ab}
def Rv {α:Type} :List (Nat×α)->Nat->Option α
  | [],_=>none
  |(k,v)::e,t=>match Nat.beq k t with|true=>some v|false=>Rv e t
def R0 {α:Type} (f:α->Prop):List α->Prop
  | [] =>True
  |a::l=>f a/\R0 f l
theorem pJ {α:Type} {f:Nat×α->Prop} {t:Nat} {v:α} :∀{l:List (Nat×α)},R0 f l->Rv l t=some v->f (t,v)
  | [],_,h=>by cases h
  |(k,u)::l,h,e=>by
    unfold Rv at e
    cases q:Nat.beq k t with
    |true=>rw [q] at e;obtain rfl:=Nat.eq_of_beq_eq_true q;cases e;exact h.1
    |false=>rw [q] at e;exact pJ h.2 e
class TyF (P:Program) where
  U:List (Nat×TypeDesc)
  S:List (Nat×Nat)
  hU:R0 (fun p=>P.underlying p.1=some p.2) U
  hS:R0 (fun p=>∀w,(sizeOf p.1).run P w= .ok p.2 w) S
def ac3 (o:BinOp) (a b:Int):Option Value:=
  match o with
  | .lss=>some (.bool (decide (a<b)))
  | .leq=>some (.bool (decide (a<=b)))
  | .gtr=>some (.bool (decide (b<a)))
  | .geq=>some (.bool (decide (b<=a)))
  | .eql=>some (.bool (decide (a=b)))
  | .neq=>some (.bool (decide (a≠b)))
  |_=>none
def pv (U:List (Nat×TypeDesc)) (S:List (Nat×Nat)) (op:Op) (e:Env):Option Value:=
  match op with
  | .move x=>ev e x
  | .assign x=>ev e x
  | .pick c a b=>match ev e c with|some (.bool true)=>ev e a|some (.bool false)=>ev e b|_=>none
  | .nilCheck x=>match ev e x with|some (.pointer (some ad))=>some (.pointer (some ad))|_=>none
  | .extract x i=>match ev e x with|some (.tuple vs)=>vs[i]? |_=>none
  | .fieldAddr t x f=>match Rv U t with
    |some (.struct fs)=>match ev e x with
      |some (.pointer (some ⟨b,off,none⟩))=>match (fs[f]?).map (fun fl=>(fl.type,fl.offset)) with
        |some (T,k)=>match Rv S T with|some (n+1)=>some (.pointer (some ⟨b,off+k,none⟩))|_=>none
        |none=>none
      |_=>none
    |_=>none
  | .unOp .not _ x=>match ev e x with|some (.bool b)=>some (.bool (!b))|_=>none
  | .binOp o _ x y _=>match ev e x with
    |some (.int k a)=>match ev e y with
      |some (.int k' b)=>if k=k' then ac3 o a b else none
      |_=>none
    |_=>none
  | .call c=>match c.callee with
    | .builtin .len=>match c.args.toList with
      | [x] =>match c.argTypes.toList with
        | [t] =>match Rv U t with
          |some (.slice _)=>match ev e x with|some (.slice _ n _)=>some (.int .i64 n)|_=>none
          |_=>none
        |_=>none
      |_=>none
    |_=>none
  |_=>none
theorem Si {U:List (Nat×TypeDesc)} {S:List (Nat×Nat)} {c:Call} {v:Value} (h:pv U S (.call c) e=some v):
    ∃x t E ad n cp,c= {callee:= .builtin .len,args:=#[x],argTypes:=#[t] }/\Rv U t=some (.slice E)/\ev e x=some (.slice ad n cp)/\v= .int .i64 n:=by
  obtain ⟨cl,ags,BU⟩:=c
  unfold pv at h
  simp only at h
  repeat' split at h
  all_goals first|(cases h;done)|skip
  rename_i x hx _ t ht _ E hE _ ad n cp hv
  cases h
  refine ⟨x,t,E,ad,n,cp,?_,hE,hv,rfl⟩
  obtain ⟨a⟩:=ags;obtain ⟨b⟩:=BU
  simp only at hx ht
  subst hx;subst ht;rfl
theorem aa2 [T:TyF P] {op:Op} {ty:TypeId} {v:Value} (h:pv T.U T.S op e=some v):fo P op ty e v:=by
  cases op
  case move x=>exact HD h
  case assign x=>exact zk h
  case pick c a b=>
    unfold pv at h;simp only at h
    split at h
    ·next q=>exact Nq q h
    ·next q=>exact OE q h
    ·cases h
  case nilCheck x=>
    unfold pv at h;simp only at h
    split at h
    ·next q=>cases h;exact u9 q
    ·cases h
  case extract x i=>
    unfold pv at h;simp only at h
    split at h
    ·next q=>exact E1 q h
    ·cases h
  case fieldAddr t x f=>
    unfold pv at h;simp only at h
    repeat' split at h
    all_goals first|(cases h;done)|skip
    rename_i fs hfs _ b off ha _ TT k hf _ n hn
    cases h
    have h1:=pJ T.hU hfs;have h2:=pJ T.hS hn
    cases hq:fs[f]? with
    |none=>rw [hq] at hf;cases hf
    |some fl=>
      rw [hq] at hf
      obtain ⟨e1,e2⟩:=Prod.mk.inj (Option.some.inj hf)
      exact Ct h1 hq (e1▸h2) (by rfl) e2 ha
  case unOp o t x=>
    unfold pv at h;simp only at h
    cases o<;>simp only at h
    case not=>
      split at h
      ·next q=>cases h;exact YE q
      ·cases h
    all_goals cases h
  case binOp o t x y u=>
    unfold pv at h;simp only at h
    repeat' split at h
    all_goals first|(cases h;done)|skip
    rename_i hx _ _ _ hy hk
    subst hk
    unfold ac3 at h
    cases o<;>simp only at h<;>cases h
    ·exact Ws hx hy
    ·exact Yg hx hy
    ·exact Yh hx hy
    ·exact X2 hx hy
    ·exact Vi hx hy
    ·exact Yj hx hy
  case call c=>
    obtain ⟨x,t,E,ad,n,cp,rfl,h1,h2,rfl⟩:=Si h
    exact Wu (pJ T.hU h1) h2
  all_goals (unfold pv at h;cases h)
def wtB (ops:Array Oper) (e:Env) (g:Option (Nat×Bool)):Option Bool:=
  match g with
  |none=>some true
  |some (j,b)=>match (ops[j]?).bind (·.dst) with
    |some t=>match look e t with|some (.bool c)=>some (c==b)|_=>none
    |none=>none
def DV (U:List (Nat×TypeDesc)) (S:List (Nat×Nat)) (ops:Array Oper) (N:Nat) (o:Oper) (e:Env):Option (Bool×Env):=
  match o.dst with
  |none=>none
  |some d=>match Nat.blt d N&&nd o.op with
    |false=>none
    |true=>match wtB ops e o.guard with
      |none=>none
      |some true=>match pv U S o.op e with|some v=>some (true,(d,v)::e)|none=>none
      |some false=>match look e d with|none=>some (false,e)|some _=>none
def pvL (U:List (Nat×TypeDesc)) (S:List (Nat×Nat)) (ops:Array Oper) (N:Nat):Nat->List Oper->Env->Option (List Oper×Env)
  |0,l,e=>some (l,e)
  |n+1,o::l,e=>match DV U S ops N o e with|some (_,e')=>pvL U S ops N n l e'|none=>none
  |_+1,[],_=>none
def pvD (U:List (Nat×TypeDesc)) (S:List (Nat×Nat)) (ops:Array Oper) (N:Nat):Nat->List (Nat×Nat)->Env->Option (List (Nat×Nat)×Env)
  |0,l,e=>some (l,e)
  |n+1,(i,k)::l,e=>match ops[i]? with
    |some o=>match DV U S ops N o e with
      |some (true,e')=>match k with|0=>pvD U S ops N n l e'|_+1=>none
      |some (false,e')=>match Nat.blt k 3 with|true=>pvD U S ops N n l e'|false=>none
      |none=>none
    |none=>none
  |_+1,[],_=>none
def pvK (U:List (Nat×TypeDesc)) (S:List (Nat×Nat)) (ops:Array Oper) (N:Nat):Nat->OT->Env->Option (OT×Env)
  |0,l,e=>some (l,e)
  |n+1,.one i k l,e=>match ops[i]? with
    |some o=>match DV U S ops N o e with
      |some (true,e')=>match k with|0=>pvK U S ops N n l e'|_+1=>none
      |some (false,e')=>match Nat.blt k 2 with|true=>pvK U S ops N n l e'|false=>none
      |none=>none
    |none=>none
  |_+1,_,_=>none
theorem Na {b:Bool} (h:wtB ops e g=some b):vI ops e g b:=by
  cases g with
  |none=>cases h;rfl
  |some p=>
    obtain ⟨j,c⟩:=p
    unfold wtB at h;simp only at h
    cases h1:(ops[j]?).bind (·.dst) with
    |none=>rw [h1] at h;cases h
    |some t=>
      rw [h1] at h;simp only at h
      cases h2:look e t with
      |none=>rw [h2] at h;cases h
      |some u=>
        rw [h2] at h
        cases u<;>simp only at h
        case bool q=>exact⟨t,q,h1,h2,Option.some.inj h⟩
        all_goals cases h
theorem Bh [T:TyF P] {N:Nat} {o:Oper} {e':Env} {b:Bool} (h:DV T.U T.S ops N o e=some (b,e')):
    ∃d,o.dst=some d/\Nat.blt d N=true/\nd o.op=true/\vI ops e o.guard b/\((b=true/\∃v,e'=(d,v)::e/\∀ty,fo P o.op ty e v)\/(b=false/\e'=e/\look e d=none)):=by
  unfold DV at h
  cases h1:o.dst with
  |none=>rw [h1] at h;cases h
  |some d=>
    rw [h1] at h;simp only at h
    cases h2:Nat.blt d N&&nd o.op with
    |false=>rw [h2] at h;cases h
    |true=>
      rw [h2] at h;simp only at h
      rw [Bool.and_eq_true] at h2
      cases h3:wtB ops e o.guard with
      |none=>rw [h3] at h;cases h
      |some c=>
        rw [h3] at h
        cases c with
        |true=>
          simp only at h
          cases h4:pv T.U T.S o.op e with
          |none=>rw [h4] at h;cases h
          |some v=>rw [h4] at h;cases h;exact⟨d,rfl,h2.1,h2.2,Na h3,.inl ⟨rfl,v,rfl,fun ty=>aa2 h4⟩⟩
        |false=>
          simp only at h
          cases h4:look e d with
          |some v=>rw [h4] at h;cases h
          |none=>rw [h4] at h;cases h;exact⟨d,rfl,h2.1,h2.2,Na h3,.inr ⟨rfl,rfl,h4⟩⟩
section
variable {P:Program} [T:TyF P] {r:Option Nat} {N:Nat} {Q:Exit->Act->World->Prop} {ds:List Nat} {M:ab} {S:Nat->Prop} {w0:World} {G:World->Prop} {ops:Array Oper}
theorem LM.V:∀(n:Nat) {l l':List Oper} {e e':Env},pvL T.U T.S ops N n l e=some (l',e')->LM P r N ops Q l' e' ds M S w0 G->LM P r N ops Q l e ds M S w0 G
  |0,l,l',e,e',h,k=>by cases h;exact k
  |n+1,[],l',e,e',h,k=>by cases h
  |n+1,o::l,l',e,e',h,k=>by
    unfold pvL at h
    cases h1:DV T.U T.S ops N o e with
    |none=>rw [h1] at h;cases h
    |some p=>
      obtain ⟨b,e1⟩:=p
      rw [h1] at h;simp only at h
      have k1:=LM.V n h k
      obtain ⟨d,q1,q2,q3,q4,q5⟩:=Bh h1
      obtain ⟨dst,op,ty,pos,after,g⟩:=o
      simp only at q1 q3 q4 q5;subst q1
      rcases q5 with ⟨rfl,v,rfl,hv⟩|⟨rfl,rfl,hf⟩
      · have k2:LM P r N ops Q (⟨some d,op,ty,pos,after,none⟩::l) e ds M S w0 G:=LM.val (hv _) k1 q3 q2
        cases g with
        |none=>exact k2
        |some p=>
          obtain ⟨j,c⟩:=p
          obtain ⟨t,u,z1,z2,z3⟩:=q4
          have z3:u=c:=by simpa using z3
          subst z3
          exact LM.strip z1 z2 rfl k2
      · cases g with
        |none=>cases q4
        |some p=>
          obtain ⟨j,c⟩:=p
          obtain ⟨t,u,z1,z2,z3⟩:=q4
          exact LM.drop z1 z2 z3 k1 q2 hf
theorem LD.V:∀(n:Nat) {l l':List (Nat×Nat)} {e e':Env},pvD T.U T.S ops N n l e=some (l',e')->LD P r N ops Q l' e' ds M S w0 G->LD P r N ops Q l e ds M S w0 G
  |0,l,l',e,e',h,k=>by cases h;exact k
  |n+1,[],l',e,e',h,k=>by cases h
  |n+1,(i,m)::l,l',e,e',h,k=>by
    unfold pvD at h
    cases h0:ops[i]? with
    |none=>rw [h0] at h;cases h
    |some o=>
      rw [h0] at h;simp only at h
      cases h1:DV T.U T.S ops N o e with
      |none=>rw [h1] at h;cases h
      |some p=>
        obtain ⟨b,e1⟩:=p
        rw [h1] at h
        obtain ⟨d,q1,q2,q3,q4,q5⟩:=Bh h1
        obtain ⟨dst,op,ty,pos,after,g⟩:=o
        simp only at q1 q3 q4 q5;subst q1
        rcases q5 with ⟨rfl,v,rfl,hv⟩|⟨rfl,rfl,hf⟩
        · cases m with
          |zero=>exact LD.val h0 q4 (hv _) (LD.V n h k) q3 q2
          |succ m=>cases h
        · simp only at h
          cases h2:Nat.blt m 3 with
          |true=>rw [h2] at h;exact LD.drop h2 h0 q4 (LD.V n h k) q2 hf
          |false=>rw [h2] at h;cases h
theorem KD.V {MD:ab} {GD:World->Prop} :∀(n:Nat) {l l':OT} {e e':Env},pvK T.U T.S ops N n l e=some (l',e')->KD P r N ops Q MD GD l' e' ds M S w0 G->KD P r N ops Q MD GD l e ds M S w0 G
  |0,l,l',e,e',h,k=>by cases h;exact k
  |n+1,.one i m l,l',e,e',h,k=>by
    unfold pvK at h
    cases h0:ops[i]? with
    |none=>rw [h0] at h;cases h
    |some o=>
      rw [h0] at h;simp only at h
      cases h1:DV T.U T.S ops N o e with
      |none=>rw [h1] at h;cases h
      |some p=>
        obtain ⟨b,e1⟩:=p
        rw [h1] at h
        obtain ⟨d,q1,q2,q3,q4,q5⟩:=Bh h1
        obtain ⟨dst,op,ty,pos,after,g⟩:=o
        simp only at q1 q3 q4 q5;subst q1
        rcases q5 with ⟨rfl,v,rfl,hv⟩|⟨rfl,rfl,hf⟩
        · cases m with
          |zero=>exact KD.val h0 q4 (hv _) (KD.V n h k) q3 q2
          |succ m=>cases h
        · simp only at h
          cases h2:Nat.blt m 2 with
          |true=>rw [h2] at h;exact KD.drop h2 h0 q4 (KD.V n h k) q2 hf
          |false=>rw [h2] at h;cases h
  |n+1,.nil,l',e,e',h,k=>by cases h
  |n+1,.fork ..,l',e,e',h,k=>by cases h
  |n+1,.Zi ..,l',e,e',h,k=>by cases h
  |n+1,.last ..,l',e,e',h,k=>by cases h
end
instance:TyF Tryz.prog:=⟨[(22,_),(24,_),(26,_),(27,_),(28,_),(30,_),(39,_),(43,_),(45,_),(46,_),(47,_),(49,_),(51,_),(54,_),(60,_),(62,_),(63,_),(74,_),(81,_),(84,_),(101,_),(103,_),(110,_),(112,_),(117,_),(119,_),(122,_),(124,_),(126,_),(128,_),(134,_),(141,_),(142,_),(144,_),(147,_),(152,_),(170,_),(190,_),(204,_),(222,_)],[(3,_),(4,_),(9,_),(22,_),(26,_),(27,_),(28,_),(30,_),(39,_),(41,_),(42,_),(43,_),(44,_),(45,_),(46,_),(47,_),(51,_),(60,_),(62,_),(71,_),(74,_),(81,_),(84,_),(103,_),(110,_),(114,_),(119,_),(120,_),(122,_),(126,_),(134,_),(141,_),(142,_),(147,_),(168,_),(204,_)],⟨Tryz.underlying22,Tryz.underlying24,Tryz.underlying26,Tryz.underlying27,Tryz.underlying28,Tryz.underlying30,Tryz.underlying39,Tryz.underlying43,Tryz.underlying45,Tryz.underlying46,Tryz.underlying47,Tryz.underlying49,Tryz.underlying51,Tryz.underlying54,Tryz.underlying60,Tryz.underlying62,Tryz.underlying63,Tryz.underlying74,Tryz.underlying81,Tryz.underlying84,Tryz.underlying101,Tryz.underlying103,Tryz.underlying110,Tryz.underlying112,Tryz.underlying117,Tryz.underlying119,Tryz.underlying122,Tryz.underlying124,Tryz.underlying126,Tryz.underlying128,Tryz.underlying134,Tryz.underlying141,Tryz.underlying142,Tryz.underlying144,Tryz.underlying147,Tryz.underlying152,Tryz.underlying170,Tryz.underlying190,Tryz.underlying204,Tryz.underlying222,trivial⟩,⟨Tryz.sizeOf3,Tryz.sizeOf4,Tryz.sizeOf9,Tryz.sizeOf22,Tryz.sizeOf26,Tryz.sizeOf27,Tryz.sizeOf28,Tryz.sizeOf30,Tryz.sizeOf39,Tryz.sizeOf41,Tryz.sizeOf42,Tryz.sizeOf43,Tryz.sizeOf44,Tryz.sizeOf45,Tryz.sizeOf46,Tryz.sizeOf47,Tryz.sizeOf51,Tryz.sizeOf60,Tryz.sizeOf62,Tryz.sizeOf71,Tryz.sizeOf74,Tryz.sizeOf81,Tryz.sizeOf84,Tryz.sizeOf103,Tryz.sizeOf110,Tryz.sizeOf114,Tryz.sizeOf119,Tryz.sizeOf120,Tryz.sizeOf122,Tryz.sizeOf126,Tryz.sizeOf134,Tryz.sizeOf141,Tryz.sizeOf142,Tryz.sizeOf147,Tryz.sizeOf168,Tryz.sizeOf204,trivial⟩⟩
theorem kq1 {r:Option Nat} {N:Nat} {Q:Exit->Go.Act->World->Prop} {M MD:ab} {S:Nat->Prop} {G GD:World->Prop} {l:OT} (h:KD P r N ops Q MD GD l e ds M S w0 G) (hM:aJ M MD:=by exact aX) (hG:∀w,G w->GD w:=by exact fun _ _=>trivial):QM N (KQ P r N ops Q (Ir MD S w0 GD) l) .normal e ds M S w0 G:=QM.one hM hG h
instance:xp Tryz.prog 3:=⟨_,Tryz.isAgg3⟩
instance:xp Tryz.prog 4:=⟨_,Tryz.isAgg4⟩
instance:xp Tryz.prog 9:=⟨_,Tryz.isAgg9⟩
instance:xp Tryz.prog 22:=⟨_,Tryz.isAgg22⟩
instance:xp Tryz.prog 26:=⟨_,Tryz.isAgg26⟩
instance:xp Tryz.prog 27:=⟨_,Tryz.isAgg27⟩
instance:xp Tryz.prog 28:=⟨_,Tryz.isAgg28⟩
instance:xp Tryz.prog 41:=⟨_,Tryz.isAgg41⟩
instance:xp Tryz.prog 42:=⟨_,Tryz.isAgg42⟩
instance:xp Tryz.prog 43:=⟨_,Tryz.isAgg43⟩
instance:xp Tryz.prog 44:=⟨_,Tryz.isAgg44⟩
instance:xp Tryz.prog 45:=⟨_,Tryz.isAgg45⟩
instance:xp Tryz.prog 46:=⟨_,Tryz.isAgg46⟩
instance:xp Tryz.prog 47:=⟨_,Tryz.isAgg47⟩
instance:xp Tryz.prog 60:=⟨_,Tryz.isAgg60⟩
instance:xp Tryz.prog 63:=⟨_,Tryz.isAgg63⟩
instance:xp Tryz.prog 84:=⟨_,Tryz.isAgg84⟩
instance:xp Tryz.prog 110:=⟨_,Tryz.isAgg110⟩
instance:xp Tryz.prog 120:=⟨_,Tryz.isAgg120⟩
instance:xp Tryz.prog 122:=⟨_,Tryz.isAgg122⟩
instance:xp Tryz.prog 126:=⟨_,Tryz.isAgg126⟩
instance:xp Tryz.prog 142:=⟨_,Tryz.isAgg142⟩
instance:oq Tryz.prog 3:=⟨_,Tryz.sizeOf3⟩
instance:oq Tryz.prog 4:=⟨_,Tryz.sizeOf4⟩
instance:oq Tryz.prog 9:=⟨_,Tryz.sizeOf9⟩
instance:oq Tryz.prog 22:=⟨_,Tryz.sizeOf22⟩
instance:oq Tryz.prog 26:=⟨_,Tryz.sizeOf26⟩
instance:oq Tryz.prog 27:=⟨_,Tryz.sizeOf27⟩
instance:oq Tryz.prog 28:=⟨_,Tryz.sizeOf28⟩
instance:oq Tryz.prog 30:=⟨_,Tryz.sizeOf30⟩
instance:oq Tryz.prog 39:=⟨_,Tryz.sizeOf39⟩
instance:oq Tryz.prog 41:=⟨_,Tryz.sizeOf41⟩
instance:oq Tryz.prog 42:=⟨_,Tryz.sizeOf42⟩
instance:oq Tryz.prog 43:=⟨_,Tryz.sizeOf43⟩
instance:oq Tryz.prog 44:=⟨_,Tryz.sizeOf44⟩
instance:oq Tryz.prog 45:=⟨_,Tryz.sizeOf45⟩
instance:oq Tryz.prog 46:=⟨_,Tryz.sizeOf46⟩
instance:oq Tryz.prog 47:=⟨_,Tryz.sizeOf47⟩
instance:oq Tryz.prog 51:=⟨_,Tryz.sizeOf51⟩
instance:oq Tryz.prog 60:=⟨_,Tryz.sizeOf60⟩
instance:oq Tryz.prog 62:=⟨_,Tryz.sizeOf62⟩
instance:oq Tryz.prog 71:=⟨_,Tryz.sizeOf71⟩
instance:oq Tryz.prog 74:=⟨_,Tryz.sizeOf74⟩
instance:oq Tryz.prog 81:=⟨_,Tryz.sizeOf81⟩
instance:oq Tryz.prog 84:=⟨_,Tryz.sizeOf84⟩
instance:oq Tryz.prog 103:=⟨_,Tryz.sizeOf103⟩
instance:oq Tryz.prog 110:=⟨_,Tryz.sizeOf110⟩
instance:oq Tryz.prog 114:=⟨_,Tryz.sizeOf114⟩
instance:oq Tryz.prog 119:=⟨_,Tryz.sizeOf119⟩
instance:oq Tryz.prog 120:=⟨_,Tryz.sizeOf120⟩
instance:oq Tryz.prog 122:=⟨_,Tryz.sizeOf122⟩
instance:oq Tryz.prog 126:=⟨_,Tryz.sizeOf126⟩
instance:oq Tryz.prog 134:=⟨_,Tryz.sizeOf134⟩
instance:oq Tryz.prog 141:=⟨_,Tryz.sizeOf141⟩
instance:oq Tryz.prog 142:=⟨_,Tryz.sizeOf142⟩
instance:oq Tryz.prog 147:=⟨_,Tryz.sizeOf147⟩
instance:oq Tryz.prog 168:=⟨_,Tryz.sizeOf168⟩
instance:oq Tryz.prog 204:=⟨_,Tryz.sizeOf204⟩
instance:lT Tryz.prog 22:=⟨_,Tryz.underlying22⟩
instance:lT Tryz.prog 24:=⟨_,Tryz.underlying24⟩
instance:lT Tryz.prog 26:=⟨_,Tryz.underlying26⟩
instance:lT Tryz.prog 27:=⟨_,Tryz.underlying27⟩
instance:lT Tryz.prog 28:=⟨_,Tryz.underlying28⟩
instance:lT Tryz.prog 30:=⟨_,Tryz.underlying30⟩
instance:lT Tryz.prog 39:=⟨_,Tryz.underlying39⟩
instance:lT Tryz.prog 43:=⟨_,Tryz.underlying43⟩
instance:lT Tryz.prog 45:=⟨_,Tryz.underlying45⟩
instance:lT Tryz.prog 46:=⟨_,Tryz.underlying46⟩
instance:lT Tryz.prog 47:=⟨_,Tryz.underlying47⟩
instance:lT Tryz.prog 49:=⟨_,Tryz.underlying49⟩
instance:lT Tryz.prog 51:=⟨_,Tryz.underlying51⟩
instance:lT Tryz.prog 54:=⟨_,Tryz.underlying54⟩
instance:lT Tryz.prog 60:=⟨_,Tryz.underlying60⟩
instance:lT Tryz.prog 62:=⟨_,Tryz.underlying62⟩
instance:lT Tryz.prog 63:=⟨_,Tryz.underlying63⟩
instance:lT Tryz.prog 74:=⟨_,Tryz.underlying74⟩
instance:lT Tryz.prog 81:=⟨_,Tryz.underlying81⟩
instance:lT Tryz.prog 84:=⟨_,Tryz.underlying84⟩
instance:lT Tryz.prog 101:=⟨_,Tryz.underlying101⟩
instance:lT Tryz.prog 103:=⟨_,Tryz.underlying103⟩
instance:lT Tryz.prog 110:=⟨_,Tryz.underlying110⟩
instance:lT Tryz.prog 112:=⟨_,Tryz.underlying112⟩
instance:lT Tryz.prog 117:=⟨_,Tryz.underlying117⟩
instance:lT Tryz.prog 119:=⟨_,Tryz.underlying119⟩
instance:lT Tryz.prog 122:=⟨_,Tryz.underlying122⟩
instance:lT Tryz.prog 124:=⟨_,Tryz.underlying124⟩
instance:lT Tryz.prog 126:=⟨_,Tryz.underlying126⟩
instance:lT Tryz.prog 128:=⟨_,Tryz.underlying128⟩
instance:lT Tryz.prog 134:=⟨_,Tryz.underlying134⟩
instance:lT Tryz.prog 141:=⟨_,Tryz.underlying141⟩
instance:lT Tryz.prog 142:=⟨_,Tryz.underlying142⟩
instance:lT Tryz.prog 144:=⟨_,Tryz.underlying144⟩
instance:lT Tryz.prog 147:=⟨_,Tryz.underlying147⟩
instance:lT Tryz.prog 152:=⟨_,Tryz.underlying152⟩
instance:lT Tryz.prog 170:=⟨_,Tryz.underlying170⟩
instance:lT Tryz.prog 190:=⟨_,Tryz.underlying190⟩
instance:lT Tryz.prog 204:=⟨_,Tryz.underlying204⟩
instance:lT Tryz.prog 222:=⟨_,Tryz.underlying222⟩
theorem ixN [T:TyF P] {ty:TypeId} {x y:Operand} {t:TypeId} {k:IntKind} {c s:Nat} (ha:ev e x=some (.slice ad n c)) (hi:ev e y=some (.int k (i:Nat))) (hU:Rv T.U t=some (.slice E)) (hS:Rv T.S E=some s) (hp:Spt n ad) (h:i<n):fo P (.indexAddr t x y) ty e (.pointer (some ⟨ox ad,FN ad+i*s,none⟩)):=gh hp (pJ T.hU hU) (pJ T.hS hS) ha hi h
theorem LM.spB {r:Option Nat} {N:Nat} {Q:Exit->Act->World->Prop} {M:ab} {S:Nat->Prop} {G:World->Prop} {l:List Oper} {o:Oper} {j t:Nat} {b:Bool} (ho:o.guard=some (j,b)) (hj:(ops[j]?).bind (·.dst)=some t) (ht:look e t=some (.bool b)) (h:LM P r N ops Q ({o with guard:=none} ::l) e ds M S w0 G):LM P r N ops Q (o::l) e ds M S w0 G:= .strip hj ht ho h
attribute [local irreducible] LM LD KD af QM
structure Bx (q:Prop):Prop where
  h:q
theorem Js (k:q) (h:Bx q->p:=by(intro z;(first|refine LM.V 1 rfl ?_|refine LM.rd (oml rfl rfl rfl) ?_|refine LM.nil ?_|refine QM.then ?_|refine af.seq ?_|refine af.region ?_|refine LD.V 1 rfl ?_|refine LD.rd rfl rfl (oml rfl rfl rfl) ?_|refine af.skip ?_|refine af.ret ?_|refine QM.PR ?_|refine QM.Ju ?_|refine QM.Ak ?_|refine QM.Ka ?_|refine QM.uk ?_|refine af.block ?_|refine af.exit ?_|refine LM.val (ixN rfl rfl rfl rfl qw om) ?_|refine LM.val (lC rfl rfl om) ?_|refine LM.val (DB rfl rfl om) ?_|refine LM.spB rfl rfl rfl ?_|refine LM.O9 rfl rfl ?_|refine LD.rd rfl ⟨_,_,rfl,rfl,rfl⟩ (oml rfl rfl rfl) ?_|refine LD.val rfl rfl (ixN rfl rfl rfl rfl qw om) ?_|refine LD.val rfl ⟨_,_,rfl,rfl,rfl⟩ (ixN rfl rfl rfl rfl qw om) ?_|refine LD.O9 rfl rfl rfl rfl ?_|refine LD.nil ?_|refine KD.V 1 rfl ?_|refine KD.rd rfl rfl (oml rfl rfl rfl) ?_|refine KD.rd rfl ⟨_,_,rfl,rfl,rfl⟩ (oml rfl rfl rfl) ?_|refine KD.val rfl rfl (ixN rfl rfl rfl rfl qw om) ?_|refine KD.val rfl ⟨_,_,rfl,rfl,rfl⟩ (ixN rfl rfl rfl rfl qw om) ?_|refine KD.one rfl ?_|refine kq1 ?_|refine KD.nil ?_|refine af.M7 rfl ?_|refine af.OL rfl ?_|refine QM.rj rfl ?_);exact z.1)):p:=h ⟨k⟩
theorem J1 (k:q) (h:Bx q->p:=by(intro z;(iterate 1 (refine Js ?_));exact z.1)):p:=h ⟨k⟩
theorem J2 (k:q) (h:Bx q->p:=by(intro z;(iterate 2 (refine Js ?_));exact z.1)):p:=h ⟨k⟩
theorem J3 (k:q) (h:Bx q->p:=by(intro z;(iterate 3 (refine Js ?_));exact z.1)):p:=h ⟨k⟩
theorem J4 (k:q) (h:Bx q->p:=by(intro z;(iterate 4 (refine Js ?_));exact z.1)):p:=h ⟨k⟩
theorem J5 (k:q) (h:Bx q->p:=by(intro z;(iterate 5 (refine Js ?_));exact z.1)):p:=h ⟨k⟩
theorem J6 (k:q) (h:Bx q->p:=by(intro z;(iterate 6 (refine Js ?_));exact z.1)):p:=h ⟨k⟩
theorem J7 (k:q) (h:Bx q->p:=by(intro z;(iterate 7 (refine Js ?_));exact z.1)):p:=h ⟨k⟩
theorem J8 (k:q) (h:Bx q->p:=by(intro z;(iterate 8 (refine Js ?_));exact z.1)):p:=h ⟨k⟩
theorem J9 (k:q) (h:Bx q->p:=by(intro z;(iterate 9 (refine Js ?_));exact z.1)):p:=h ⟨k⟩
theorem cF (k:q) (h:Bx q->p:=by(intro z;(iterate 10 (refine Js ?_));exact z.1)):p:=h ⟨k⟩
theorem dc (k:q) (h:Bx q->p:=by(intro z;(iterate 11 (refine Js ?_));exact z.1)):p:=h ⟨k⟩
theorem cM (k:q) (h:Bx q->p:=by(intro z;(iterate 12 (refine Js ?_));exact z.1)):p:=h ⟨k⟩
theorem gz (k:q) (h:Bx q->p:=by(intro z;(iterate 13 (refine Js ?_));exact z.1)):p:=h ⟨k⟩
theorem kR (k:q) (h:Bx q->p:=by(intro z;(iterate 14 (refine Js ?_));exact z.1)):p:=h ⟨k⟩
theorem rA (k:q) (h:Bx q->p:=by(intro z;(iterate 15 (refine Js ?_));exact z.1)):p:=h ⟨k⟩
theorem Ai (k:q) (h:Bx q->p:=by(intro z;(iterate 16 (refine Js ?_));exact z.1)):p:=h ⟨k⟩
theorem yA (k:q) (h:Bx q->p:=by(intro z;(iterate 17 (refine Js ?_));exact z.1)):p:=h ⟨k⟩
theorem En (k:q) (h:Bx q->p:=by(intro z;(iterate 18 (refine Js ?_));exact z.1)):p:=h ⟨k⟩
theorem UT (k:q) (h:Bx q->p:=by(intro z;(iterate 19 (refine Js ?_));exact z.1)):p:=h ⟨k⟩
theorem Zg (k:q) (h:Bx q->p:=by(intro z;(iterate 20 (refine Js ?_));exact z.1)):p:=h ⟨k⟩
theorem J21 (k:q) (h:Bx q->p:=by(intro z;(iterate 21 (refine Js ?_));exact z.1)):p:=h ⟨k⟩
theorem J22 (k:q) (h:Bx q->p:=by(intro z;(iterate 22 (refine Js ?_));exact z.1)):p:=h ⟨k⟩
theorem Zp (k:q) (h:Bx q->p:=by(intro z;(iterate 23 (refine Js ?_));exact z.1)):p:=h ⟨k⟩
theorem J24 (k:q) (h:Bx q->p:=by(intro z;(iterate 24 (refine Js ?_));exact z.1)):p:=h ⟨k⟩
theorem J25 (k:q) (h:Bx q->p:=by(intro z;(iterate 25 (refine Js ?_));exact z.1)):p:=h ⟨k⟩
theorem J26 (k:q) (h:Bx q->p:=by(intro z;(iterate 26 (refine Js ?_));exact z.1)):p:=h ⟨k⟩
theorem J27 (k:q) (h:Bx q->p:=by(intro z;(iterate 27 (refine Js ?_));exact z.1)):p:=h ⟨k⟩
theorem J28 (k:q) (h:Bx q->p:=by(intro z;(iterate 28 (refine Js ?_));exact z.1)):p:=h ⟨k⟩
theorem J29 (k:q) (h:Bx q->p:=by(intro z;(iterate 29 (refine Js ?_));exact z.1)):p:=h ⟨k⟩
theorem J30 (k:q) (h:Bx q->p:=by(intro z;(iterate 30 (refine Js ?_));exact z.1)):p:=h ⟨k⟩
theorem J31 (k:q) (h:Bx q->p:=by(intro z;(iterate 31 (refine Js ?_));exact z.1)):p:=h ⟨k⟩
theorem J32 (k:q) (h:Bx q->p:=by(intro z;(iterate 32 (refine Js ?_));exact z.1)):p:=h ⟨k⟩
theorem J33 (k:q) (h:Bx q->p:=by(intro z;(iterate 33 (refine Js ?_));exact z.1)):p:=h ⟨k⟩
theorem J35 (k:q) (h:Bx q->p:=by(intro z;(iterate 35 (refine Js ?_));exact z.1)):p:=h ⟨k⟩
theorem J38 (k:q) (h:Bx q->p:=by(intro z;(iterate 38 (refine Js ?_));exact z.1)):p:=h ⟨k⟩
theorem J39 (k:q) (h:Bx q->p:=by(intro z;(iterate 39 (refine Js ?_));exact z.1)):p:=h ⟨k⟩
theorem J40 (k:q) (h:Bx q->p:=by(intro z;(iterate 40 (refine Js ?_));exact z.1)):p:=h ⟨k⟩
theorem J44 (k:q) (h:Bx q->p:=by(intro z;(iterate 44 (refine Js ?_));exact z.1)):p:=h ⟨k⟩
theorem J45 (k:q) (h:Bx q->p:=by(intro z;(iterate 45 (refine Js ?_));exact z.1)):p:=h ⟨k⟩
theorem J49 (k:q) (h:Bx q->p:=by(intro z;(iterate 49 (refine Js ?_));exact z.1)):p:=h ⟨k⟩
theorem J51 (k:q) (h:Bx q->p:=by(intro z;(iterate 51 (refine Js ?_));exact z.1)):p:=h ⟨k⟩
theorem J53 (k:q) (h:Bx q->p:=by(intro z;(iterate 53 (refine Js ?_));exact z.1)):p:=h ⟨k⟩
end Go.Eng
namespace Go.Eng
open Go Go.RowKit
variable {ops:Array Oper} {args:Array Value} {s:BitVec 64} {e:Env} {a lock t:Int} {ds:List Nat} {b i k n:Nat} {g:Option (Nat×Bool)} {ad:Option Addr} {P:Program} {p q:Prop} {α:Type} {E:TypeId} {w w' w0:World} {m x y:ab}
variable {I:List Nat}
structure Kv where
  V:BitVec 64
  id:Int
  x:Int
deriving DecidableEq
instance:Inhabited Kv:=⟨⟨0#64,0,0⟩⟩
structure Nd where
  e:Kv
  l:Nat
  r:Nat
  up:Nat
  red:Bool
deriving DecidableEq
instance:Inhabited Nd:=⟨⟨default,0,0,0,false⟩⟩
abbrev gN (N:List Nd) (i:Nat):Nd:=N.getD i default
/-! what the code does to nodes -/
abbrev Ns:=List Nd×Nat
/-! trees -/
inductive Tr where
  |lf:Tr
  |nd (i:Nat) (e:Kv) (c:Bool) (l r:Tr):Tr
def Tr.ix:Tr->Nat
  |lf=>0
  |nd i _ _ _ _=>i
def Tr.red:Tr->Bool
  |lf=>false
  |nd _ _ c _ _=>c
def Tr.JH (up:Nat):Tr->List (Nat×Nd)
  |lf=>[]
  |nd i e c l r=>(i,⟨e,l.ix,r.ix,up,c⟩)::(l.JH i++r.JH i)
def Tr.O7:Tr->List Nat
  |lf=>[]
  |nd i _ _ l r=>i::(l.O7++r.O7)
def Tr.ord:Tr->List (Nat×Kv)
  |lf=>[]
  |nd i e _ l r=>l.ord++(i,e)::r.ord
def mkR (s:Bool) (i:Nat) (e:Kv) (c:Bool) (a b:Tr):Tr:=if s then .nd i e c a b else .nd i e c b a
inductive Cx where
  |top:Cx
  |dn (s:Bool) (i:Nat) (e:Kv) (c:Bool) (OC:Tr) (k:Cx):Cx
def Cx.ix:Cx->Nat
  |top=>0
  |dn _ i _ _ _ _=>i
def Xb:Cx->Tr->Tr
  | .top,t=>t
  | .dn s i e c OC k,t=>Xb k (mkR s i e c t OC)
def mkN (s:Bool) (e:Kv) (a b up:Nat) (c:Bool):Nd:=⟨e,if s then a else b,if s then b else a,up,c⟩
def Cx.JH (h:Nat):Cx->List (Nat×Nd)
  |top=>[]
  |dn s i e c OC k=>(i,mkN s e h OC.ix k.ix c)::(OC.JH i++k.JH i)
def Cx.O7:Cx->List Nat
  |top=>[]
  |dn _ i _ _ OC k=>i::(OC.O7++k.O7)
def Cx.lo:Cx->List (Nat×Kv)
  |top=>[]
  |dn s i e _ OC k=>if s then k.lo else k.lo++OC.ord++ [(i,e)]
def Cx.hi:Cx->List (Nat×Kv)
  |top=>[]
  |dn s i e _ OC k=>if s then (i,e)::OC.ord++k.hi else k.hi
def Has (N:List Nd) (l:List (Nat×Nd)):Prop:=∀p∈l,N[p.1]? =some p.2
structure Ly (I:List Nat) (S:Ns) (t:Tr):Prop where
  has:Has S.1 (t.JH 0)
  root:S.2=t.ix
  nd:t.O7.Nodup
  sub:∀x∈t.O7,x∈I
  nz:0 ∉ I
variable {I:List Nat}
variable {I:List Nat}
def Ok:Tr->Nat->Prop
  | .lf,h=>h=0
  | .nd _ _ c l r,h=>if c then Ok l h/\Ok r h/\l.red=false/\r.red=false else∃g,h=g+1/\Ok l g/\Ok r g
def Cx.red:Cx->Bool
  |top=>false
  |dn _ _ _ c _ _=>c
def Cx.len:Cx->Nat
  |top=>0
  |dn _ _ _ _ _ k=>k.len+1
variable {I:List Nat}
variable {I:List Nat}
def qp (a b:Kv):Prop:=a.V.toNat<b.V.toNat\/a.V=b.V/\a.id<b.id
instance (a b:Kv):Decidable (qp a b):=by unfold qp;infer_instance
def Zd (a b:Kv):Prop:=a.V=b.V/\a.id=b.id
instance (a b:Kv):Decidable (Zd a b):=by unfold Zd;infer_instance
theorem qp.trans {a b c:Kv} (h:qp a b) (k:qp b c):qp a c:=by
  unfold qp at*
  rcases h with h|⟨h1,h2⟩<;>rcases k with k|⟨k1,k2⟩
  ·left;omega
  ·left;rw [<-k1];exact h
  ·left;rw [h1];exact k
  ·right;exact⟨h1.trans k1,by omega⟩
theorem qp.irr (a:Kv):¬qp a a:=by unfold qp;intro h;rcases h with h|h<;>omega
theorem TZ (a b:Kv):Zd a b\/qp a b\/qp b a:=by
  unfold Zd qp
  by_cases h:a.V=b.V
  · by_cases h2:a.id<b.id
    ·exact .inr (.inl (.inr ⟨h,h2⟩))
    · by_cases h3:b.id<a.id
      ·exact .inr (.inr (.inr ⟨h.symm,h3⟩))
      ·exact .inl ⟨h,by omega⟩
  · by_cases h2:a.V.toNat<b.V.toNat
    ·exact .inr (.inl (.inl h2))
    · refine .inr (.inr (.inl ?_))
      have:a.V.toNat≠b.V.toNat:=fun q=>h (BitVec.eq_of_toNat_eq q);omega
theorem qp.WX {a b:Kv} (h:qp a b):¬qp b a:=fun k=>qp.irr a (h.trans k)
def Lw (l:List Kv):Prop:=l.Pairwise qp
/-! what is found -/
def Tr.size:Tr->Nat
  |lf=>0
  |nd _ _ _ l r=>l.size+r.size+1
inductive Found (T:Tr) (k:Kv) (res:Nat×Nat):Prop
  |Ck (c:Cx) (i:Nat) (e:Kv) (col:Bool) (l r:Tr):T=Xb c (.nd i e col l r)->Zd k e->res=(i,c.ix)->Found T k res
  |anm (c:Cx):T=Xb c .lf->(∀p∈c.lo,qp p.2 k)->(∀p∈c.hi,qp k p.2)->res=(0,c.ix)->Found T k res
/-! what comes next -/
def hdI (l:List (Nat×Kv)):Nat:=match l with| [] =>0|p::_=>p.1
variable {I:List Nat}
/-! numbers of nodes are numbers of nodes -/
def Wf (N:List Nd):Prop:=∀i,(gN N i).l<N.length/\(gN N i).r<N.length/\(gN N i).up<N.length
structure WfS (S:Ns) (n:Nat):Prop where
  wf:Wf S.1
  len:S.1.length=n
  rt:S.2<n
/-! a tree as it stands -/
structure RbS where
  gD:Nat
  N:List Nd
  root:Nat
  first:Nat
  free:Nat
  n:Nat
def FrL (N:List Nd):Nat->List Nat->Prop
  |i,[] =>i=0
  |i,j::fl=>i=j/\j≠0/\j<N.length/\FrL N (gN N j).l fl
structure RbI (s:RbS) (L:List Kv):Prop where
  ex:∃(t:Tr) (fl:List Nat),Ly t.O7 (s.N,s.root) t/\t.ord.map (·.2)=L/\(∃H,Ok t H)/\t.red=false/\s.first=hdI t.ord/\FrL s.N s.free fl/\fl.Nodup/\(∀j∈fl,j ∉ t.O7)/\s.N.length=1+t.size+fl.length
  srt:Lw L
  zero:s.N[0]? =some default
  wf:WfS (s.N,s.root) s.N.length
  n:s.n=L.length
  gD:L.length<=s.gD
  len:s.N.length<=s.gD+1
def qm (L:List Kv) (k:Kv):List Kv:=L.filter (fun x=>decide (qp x k))++k::L.filter (fun x=>decide (qp k x))
theorem Cw {p:α->Bool} {l:List α} (h:∀x∈l,p x=true):l.filter p=l:=List.filter_eq_self.2 h
theorem zJ {p:α->Bool} {l:List α} (h:∀x∈l,p x=false):l.filter p=[] :=List.filter_eq_nil_iff.2 (fun x hx=>by rw [h x hx];simp)
theorem Gp {lo hi:List Kv} {k:Kv} (h1:∀x∈lo,qp x k) (h2:∀x∈hi,qp k x):qm (lo++hi) k=lo++k::hi:=by
  unfold qm
  rw [List.filter_append,List.filter_append,Cw (fun x hx=>decide_eq_true (h1 x hx)),zJ (fun x hx=>decide_eq_false (h2 x hx).WX),zJ (fun x hx=>decide_eq_false (h1 x hx).WX),Cw (fun x hx=>decide_eq_true (h2 x hx))];simp
variable {I:List Nat}
structure Take (s:RbS) (t:Tr) (x:Nd) (fl:List Nat) (N1:List Nd) (i free:Nat) (fl':List Nat):Prop where
  out:i ∉ t.O7
  nz:i≠0
  at':N1[i]? =some x
  same:∀j,j≠i->j<s.N.length->N1[j]? =s.N[j]?
  lt:i<N1.length
  fr:FrL N1 free fl'
  nd:fl'.Nodup
  ap:∀j∈fl',j ∉ t.O7/\j≠i
  len:N1.length=1+(t.size+1)+fl'.length
  wf:WfS (N1,s.root) N1.length
  le:N1.length<=s.gD+1
  ge:s.N.length<=N1.length
variable {I:List Nat}
def aF (n lo hi:Int):Int:=if n<lo then lo else if hi<n then hi else n
def qy (a b:BitVec 64):BitVec 64:=if a.toNat+b.toNat<18446744073709551616 then a+b else 18446744073709551615#64
def fu (v fl r:BitVec 64):BitVec 64:=if v.toNat<fl.toNat then fl else if (qy fl r).toNat<v.toNat then qy fl r else v
theorem ej {n lo hi:Int} (h:lo<=hi):lo<=aF n lo hi/\aF n lo hi<=hi:=by unfold aF;split;omega;split<;>omega
theorem E7 {n lo hi:Int} (h:lo<=hi):aF (aF n lo hi) lo hi=aF n lo hi:=by
  have:=ej (n:=n) h
  unfold aF at*;(repeat' split)<;>omega
/-! what a held tick costs -/
def qG (w:Int):BitVec 64:=720720#64 / BitVec.ofInt 64 (aF w 1 16)
def mY (w s c:Int):BitVec 64:=qG w*(BitVec.ofInt 64 (aF s 1 32)+BitVec.ofInt 64 (aF c 1 32))
theorem D2 {n hi:Int} (h:1<=hi) (hh:hi<=100000):BitVec.ofInt 64 (aF n 1 hi)≠0#64:=by
  have:=ej (n:=n) h;intro e;have e2:=congrArg BitVec.toNat e;rw [BitVec.toNat_ofInt] at e2;simp at e2;omega
structure Qm where
  g:Int
  fl:BitVec 64
  l:List Kv
  cur:Int
  cY:Int
def Dh (w:Int):BitVec 64:=1099511627776#64 / BitVec.ofInt 64 (aF w 1 4096)
def Fz (w g:Int):BitVec 64:=Dh w*BitVec.ofInt 64 (aF g 1 8)
def eC (l:List Kv) (a:Int):Nat:=l.findIdx (fun t=>decide (t.id=a))
def tW (x:Qm) (v:BitVec 64) (w:Int):BitVec 64:=fu v x.fl (Fz w x.g)
def wN (l:List Kv):List Kv:=l.foldl qm []
def eN (x:Qm):List Kv:=wN (x.l.filter (fun t=>decide (t.id≠x.cur)))
def eI (l:List Kv):Int:=(l.map (·.x)).sum
structure nJ (x:Qm):Prop where
  nd:(x.l.map (·.id)).Nodup
  pos:∀t∈x.l,0<=t.id
  len:x.l.length<=16
  wt:∀t∈x.l,1<=t.x/\t.x<=4096
  cur:x.cur= -1\/∃t∈x.l,t.id=x.cur
  g:1<=x.g/\x.g<=8
  cY:0<=x.cY
theorem o9 (t:Kv) (l:List Kv) (a:Int):eC (t::l) a=if t.id=a then 0 else eC l a+1:=by
  unfold eC;rw [List.findIdx_cons]
  by_cases h:t.id=a
  ·rw [if_pos h,decide_eq_true h];rfl
  ·rw [if_neg h,decide_eq_false h];rfl
theorem iZ {l:List Kv} (h:eC l a<l.length):(l.getD (eC l a) default).id=a/\l.getD (eC l a) default∈l:=by
  have h2:l.getD (eC l a) default=l[eC l a] :=by rw [List.getD_eq_getElem?_getD,List.getElem?_eq_getElem h];rfl
  rw [h2];have h3:=List.findIdx_getElem (p:=fun t:Kv=>decide (t.id=a)) (xs:=l) (w:=h);exact⟨of_decide_eq_true h3,List.getElem_mem h⟩
theorem jx {l:List Kv}:eC l a<l.length↔∃t∈l,t.id=a:=by
  unfold eC;rw [List.findIdx_lt_length]
  exact⟨fun ⟨t,h,e⟩=>⟨t,h,of_decide_eq_true e⟩,fun ⟨t,h,e⟩=>⟨t,h,decide_eq_true e⟩⟩
theorem Su {l m:List Kv} (h:¬eC l a<l.length):eC (l++m) a=l.length+eC m a:=by
  induction l with
  |nil=>simp
  |cons t l ih=>
    rw [o9] at h
    by_cases e:t.id=a
    ·rw [if_pos e] at h;simp at h
    · rw [if_neg e,List.length_cons] at h
      rw [List.cons_append,o9,if_neg e,ih om,List.length_cons];omega
/-! sorted lists -/
theorem Nj {L:List Kv} (h:Lw L) (k:Kv):Lw (qm L k):=by
  unfold qm Lw
  refine List.pairwise_append.2 ⟨List.Pairwise.filter _ h,List.pairwise_cons.2 ⟨fun y hy=>of_decide_eq_true (List.mem_filter.1 hy).2,List.Pairwise.filter _ h⟩,fun x hx y hy=>?_⟩;have h1:qp x k:=of_decide_eq_true (List.mem_filter.1 hx).2;rcases List.mem_cons.1 hy with rfl|hy
  ·exact h1
  ·exact h1.trans (of_decide_eq_true (List.mem_filter.1 hy).2)
theorem N3 {L:List Kv} {k:Kv} (h:∀x∈L,¬Zd x k) (x:Kv):x∈qm L k↔x∈L\/x=k:=by
  unfold qm
  simp only [List.mem_append,List.mem_cons,List.mem_filter,decide_eq_true_eq]
  constructor
  · rintro (q|q|q)
    ·exact .inl q.1
    ·exact .inr q
    ·exact .inl q.1
  · rintro (q|q)
    · rcases TZ x k with e|e|e
      ·exact absurd e (h x q)
      ·exact .inl ⟨q,e⟩
      ·exact .inr (.inr ⟨q,e⟩)
    ·exact .inr (.inl q)
theorem pQ:∀(l L:List Kv),Lw L->(l.map (·.id)).Nodup->(∀x∈L,∀y∈l,x.id≠y.id)->Lw (l.foldl qm L)/\∀x,x∈l.foldl qm L↔x∈L\/x∈l
  | [],L,h,_,_=>⟨h,fun x=>by simp⟩
  |t::l,L,h,hn,hd=>by
    rw [List.map_cons,List.nodup_cons] at hn;have hm:=N3 (L:=L) (k:=t) (fun x hx e=>hd x hx t (List.mem_cons_self ..) e.2)
    have ih:=pQ l (qm L t) (Nj h t) hn.2 (fun x hx y hy=>by
      rcases (hm x).1 hx with q|rfl
      ·exact hd x q y (List.mem_cons_of_mem _ hy)
      ·exact fun e=>hn.1 (List.mem_map.2 ⟨y,hy,e.symm⟩))
    refine ⟨ih.1,fun x=>?_⟩;rw [List.foldl_cons,ih.2 x,hm x,List.mem_cons]
    constructor
    · rintro ((q|q)|q)
      ·exact .inl q
      ·exact .inr (.inl q)
      ·exact .inr (.inr q)
    · rintro (q|q|q)
      ·exact .inl (.inl q)
      ·exact .inl (.inr q)
      ·exact .inr q
theorem q6 {l:List Kv} {p:Kv->Bool} (h:(l.map (·.id)).Nodup):((l.filter p).map (·.id)).Nodup:=List.Sublist.nodup (List.Sublist.map _ List.filter_sublist) h
theorem QR {x:Qm} (h:(x.l.map (·.id)).Nodup):Lw (eN x):=(pQ _ [] List.Pairwise.nil (q6 h) (fun x hx=>by cases hx)).1
theorem Bo {x:Qm} (h:(x.l.map (·.id)).Nodup) (t:Kv):t∈eN x↔t∈x.l/\t.id≠x.cur:=by
  unfold eN wN
  rw [(pQ _ [] List.Pairwise.nil (q6 h) (fun x hx=>by cases hx)).2 t];simp
theorem Hn {x:Qm} (h:(x.l.map (·.id)).Nodup):(eN x).length<=x.l.length:=by
  have:∀(l L:List Kv),(l.foldl qm L).length<=L.length+l.length:=by
    intro l
    induction l with
    |nil=>intro L;simp
    |cons t l ih=>
      intro L;rw [List.foldl_cons,List.length_cons];refine Nat.le_trans (ih _) ?_
      have:(qm L t).length<=L.length+1:=by
        unfold qm
        rw [List.length_append,List.length_cons]
        have:∀(L:List Kv),(L.filter (fun x=>decide (qp x t))).length+(L.filter (fun x=>decide (qp t x))).length<=L.length:=by
          intro L
          induction L with
          |nil=>simp
          |cons y L ih2=>
            by_cases h1:qp y t
            ·rw [List.filter_cons_of_pos (by simpa using h1),List.filter_cons_of_neg (by simpa using h1.WX)];simp only [List.length_cons];omega
            · rw [List.filter_cons_of_neg (by simpa using h1)]
              by_cases h2:qp t y
              ·rw [List.filter_cons_of_pos (by simpa using h2)];simp only [List.length_cons];omega
              ·rw [List.filter_cons_of_neg (by simpa using h2)];simp only [List.length_cons];omega
        have:=this L;omega
      omega
  have h1:=this (x.l.filter (fun t=>decide (t.id≠x.cur))) [];have h2:(x.l.filter (fun t=>decide (t.id≠x.cur))).length<=x.l.length:=List.length_filter_le ..
  unfold eN wN
  simp at h1 ⊢;simp at h2;omega
/-! what is done -/
def xY (g:Int):Qm:=⟨aF g 1 8,0#64,[],-1,0⟩
def sR (x:Qm) (a:Int) (v:BitVec 64) (w:Int):Qm:= {x with l:=x.l++ [⟨tW x v (aF w 1 4096),a,aF w 1 4096⟩] }
def od (x:Qm) (a:Int):Int:=if a<0 then 1 else if eC x.l a<x.l.length then 12 else if 16<=x.l.length then 3 else 0
def jq (x:Qm) (a:Int):Qm:=if x.cur=a then {x with l:=x.l.eraseIdx (eC x.l a),cur:= -1,cY:=0} else {x with l:=x.l.eraseIdx (eC x.l a)}
def nP (x:Qm) (a:Int):Qm:= {x with cur:=a,cY:=0}
def fN (x:Qm):Int:=if 0<=x.cur then-1 else match eN x with| [] => -1|t::_=>t.id
def ru (x:Qm):Qm:=if fN x<0 then x else nP x (fN x)
def KV (x:Qm):Bool:=if 0<=x.cur/\x.g<=x.cY then (match eN x with| [] =>false|t::_=>decide (t.V.toNat<(x.l.getD (eC x.l x.cur) default).V.toNat)) else false
def fM (x:Qm):Qm:= {x with cur:= -1,cY:=0}
def Hy (l:List Kv) (a:Int):List Kv:=l.set (eC l a) {l.getD (eC l a) default with V:=qy (l.getD (eC l a) default).V (Dh (l.getD (eC l a) default).x)}
def dW (x:Qm):Qm:=if 0<=x.cur then {x with l:=Hy x.l x.cur,cY:=x.cY+1} else x
def iW (x:Qm) (a w:Int):Qm:=
  { x with cY := if (x.l.getD (eC x.l a) default).x ≠ aF w 1 4096 ∧ x.cur = a then x.g else x.cY
           l:=x.l.set (eC x.l a) ⟨tW x (x.l.getD (eC x.l a) default).V (aF w 1 4096),a,aF w 1 4096⟩}
def pD:List Kv->BitVec 64
  | [] =>0#64
  |t::l=>l.foldl (fun m s=>if s.V.toNat<m.toNat then s.V else m) t.V
def fQ (x:Qm):Qm:=match x.l with| [] =>x|_::_=>if x.fl.toNat<(pD x.l).toNat then {x with fl:=pD x.l} else x
/-! they keep a queue whole -/
theorem Fu {l:List Kv} (hn:(l.map (·.id)).Nodup) (h:eC l a<l.length) {y:Kv} (hy:y.id=a) (t:Kv):t∈l.set (eC l a) y↔t=y\/(t∈l/\t.id≠a):=by
  induction l with
  |nil=>simp at h
  |cons s l ih=>
    rw [List.map_cons,List.nodup_cons] at hn;rw [o9] at h ⊢
    by_cases e:s.id=a
    · rw [if_pos e,List.set_cons_zero,List.mem_cons,List.mem_cons]
      constructor
      · rintro (q|q)
        ·exact .inl q
        ·exact .inr ⟨.inr q,fun e2=>hn.1 (List.mem_map.2 ⟨t,q,e2.trans e.symm⟩)⟩
      · rintro (q|⟨q|q,e2⟩)
        ·exact .inl q
        ·rw [q] at e2;exact absurd e e2
        ·exact .inr q
    · rw [if_neg e,List.length_cons] at h
      rw [if_neg e,List.set_cons_succ,List.mem_cons,ih hn.2 om,List.mem_cons]
      constructor
      · rintro (q|q|q)
        ·rw [q];exact .inr ⟨.inl rfl,e⟩
        ·exact .inl q
        ·exact .inr ⟨.inr q.1,q.2⟩
      · rintro (q|⟨q|q,e2⟩)
        ·exact .inr (.inl q)
        ·exact .inl q
        ·exact .inr (.inr ⟨q,e2⟩)
theorem nK {l:List Kv} (hn:(l.map (·.id)).Nodup) (h:eC l a<l.length) (t:Kv):t∈l.eraseIdx (eC l a)↔t∈l/\t.id≠a:=by
  induction l with
  |nil=>simp at h
  |cons s l ih=>
    rw [List.map_cons,List.nodup_cons] at hn;rw [o9] at h ⊢
    by_cases e:s.id=a
    · rw [if_pos e,List.eraseIdx_cons_zero,List.mem_cons]
      constructor
      ·intro q;exact⟨.inr q,fun e2=>hn.1 (List.mem_map.2 ⟨t,q,e2.trans e.symm⟩)⟩
      · rintro ⟨q|q,e2⟩
        ·rw [q] at e2;exact absurd e e2
        ·exact q
    · rw [if_neg e,List.length_cons] at h
      rw [if_neg e,List.eraseIdx_cons_succ,List.mem_cons,ih hn.2 om,List.mem_cons]
      constructor
      · rintro (q|q)
        ·rw [q];exact⟨.inl rfl,e⟩
        ·exact⟨.inr q.1,q.2⟩
      · rintro ⟨q|q,e2⟩
        ·exact .inl q
        ·exact .inr ⟨q,e2⟩
theorem gC {l:List Kv} (h:eC l a<l.length) {y:Kv} (hy:y.id=a):(l.set (eC l a) y).map (·.id)=l.map (·.id):=by
  rw [List.map_set]
  apply List.ext_getElem?
  intro i;rw [List.getElem?_set]
  split
  · rename_i e;subst e
    have:=(iZ h).1;rw [List.getD_eq_getElem?_getD,List.getElem?_eq_getElem h] at this;rw [if_pos (by simpa using h),List.getElem?_map,List.getElem?_eq_getElem h,Option.map_some,hy];exact congrArg _ this.symm
  ·rfl
theorem uQ {l:List Kv} (h:(l.map (·.id)).Nodup):((l.eraseIdx i).map (·.id)).Nodup:=List.Sublist.nodup (List.Sublist.map _ (List.eraseIdx_sublist ..)) h
theorem nJ.ix {x:Qm} (h:nJ x) (hc:0<=x.cur):eC x.l x.cur<x.l.length:=by
  rcases h.cur with e|e
  ·omega
  ·exact jx.2 e
theorem nJ.Sd {x:Qm} (h:nJ x) (hc:¬0<=x.cur):x.cur= -1:=by
  rcases h.cur with e|⟨t,ht,e⟩
  ·exact e
  ·have:=h.pos t ht;omega
theorem MZ (g:Int):nJ (xY g):=⟨List.nodup_nil,fun t h=>(nomatch h),Nat.zero_le _,fun t h=>(nomatch h),.inl rfl,ej (by decide),Int.le_refl _⟩
theorem Mo {x:Qm} (h:nJ x) {w:Int} {v:BitVec 64} (ha:od x a=0):nJ (sR x a v w):=by
  unfold od at ha
  split at ha; · cases ha
  rename_i ha0
  split at ha; · cases ha
  rename_i ha1
  split at ha; · cases ha
  rename_i ha2
  refine ⟨?_,fun t ht=>?_,?_,fun t ht=>?_,?_,h.g,h.cY⟩
  · show ((x.l++ [_]).map _).Nodup
    rw [List.map_append,List.nodup_append];refine ⟨h.nd,by simp,fun b hb c hc e=>?_⟩;obtain ⟨t,ht,rfl⟩:=List.mem_map.1 hb;simp at hc;exact ha1 (jx.2 ⟨t,ht,e.trans hc⟩)
  · rcases List.mem_append.1 ht with q|q
    ·exact h.pos t q
    ·simp at q;subst q;show 0<=a;omega
  · show (x.l++ [_]).length<=16
    rw [List.length_append];simp;omega
  · rcases List.mem_append.1 ht with q|q
    ·exact h.wt t q
    ·simp at q;subst q;exact ej (by decide)
  · rcases h.cur with e|⟨t,ht,e⟩
    ·exact .inl e
    ·exact .inr ⟨t,List.mem_append_left _ ht,e⟩
theorem O0 {x:Qm} (h:nJ x) (ha:eC x.l a<x.l.length):nJ (jq x a):=by
  have hm:=nK h.nd ha;have hl:(x.l.eraseIdx (eC x.l a)).length<=16:=Nat.le_trans (List.Sublist.length_le (List.eraseIdx_sublist ..)) h.len
  unfold jq
  split
  ·exact⟨uQ h.nd,fun t ht=>h.pos t ((hm t).1 ht).1,hl,fun t ht=>h.wt t ((hm t).1 ht).1,.inl rfl,h.g,Int.le_refl _⟩
  · rename_i hc
    refine ⟨uQ h.nd,fun t ht=>h.pos t ((hm t).1 ht).1,hl,fun t ht=>h.wt t ((hm t).1 ht).1,?_,h.g,h.cY⟩;rcases h.cur with e|⟨t,ht,e⟩
    ·exact .inl e
    ·exact .inr ⟨t,(hm t).2 ⟨ht,fun q=>hc (e.symm.trans q)⟩,e⟩
theorem Hk {x:Qm} (h:nJ x):nJ (fM x):=⟨h.nd,h.pos,h.len,h.wt,.inl rfl,h.g,Int.le_refl _⟩
theorem HL {x:Qm} (h:nJ x) {t:Kv} (ht:t∈x.l):nJ (nP x t.id):=⟨h.nd,h.pos,h.len,h.wt,.inr ⟨t,ht,rfl⟩,h.g,Int.le_refl _⟩
theorem kc {x:Qm} (h:nJ x) {t:Kv} {l:List Kv} (e:eN x=t::l):t∈x.l/\t.id≠x.cur:=(Bo h.nd t).1 (by rw [e];exact List.mem_cons_self ..)
theorem tB {x:Qm} (h:nJ x) (hc:x.cur= -1) {t:Kv} {l:List Kv} (e:eN x=t::l):fN x=t.id/\ru x=nP x t.id:=by
  have h1:fN x=t.id:=by unfold fN;rw [if_neg om,e]
  have h2:=h.pos t (kc h e).1;exact⟨h1,by unfold ru;rw [h1,if_neg om]⟩
theorem sY {x:Qm} (hc:0<=x.cur\/eN x=[]):fN x= -1/\ru x=x:=by
  have h1:fN x= -1:=by
    unfold fN
    rcases hc with h|h
    ·rw [if_pos h]
    ·rw [h];split<;>rfl
  exact⟨h1,by unfold ru;rw [h1,if_pos (by decide)]⟩
theorem VU {x:Qm} (h:nJ x):nJ (ru x):=by
  by_cases hc:0<=x.cur
  ·rw [(sY (.inl hc)).2];exact h
  · cases e:eN x with
    |nil=>rw [(sY (.inr e)).2];exact h
    |cons t l=>rw [(tB h (h.Sd hc) e).2];exact HL h (kc h e).1
theorem PQ {x:Qm} (h:nJ x) (ha:eC x.l a<x.l.length) {y:Kv} (hy:y.id=a) (hw:1<=y.x/\y.x<=4096) {r:Int} (hr:0<=r):nJ {x with l:=x.l.set (eC x.l a) y,cY:=r} :=by
  obtain ⟨h1,h2⟩:=iZ ha;have hm:=Fu h.nd ha hy;refine ⟨by show ((x.l.set _ y).map _).Nodup;rw [gC ha hy];exact h.nd,fun t ht=>?_,by show (x.l.set _ y).length<=16;rw [List.length_set];exact h.len,fun t ht=>?_,?_,h.g,hr⟩
  · rcases (hm t).1 ht with rfl|q
    ·rw [hy,<-h1];exact h.pos _ h2
    ·exact h.pos t q.1
  · rcases (hm t).1 ht with rfl|q
    ·exact hw
    ·exact h.wt t q.1
  · rcases h.cur with e|⟨t,ht,e⟩
    ·exact .inl e
    · by_cases q:t.id=a
      ·exact .inr ⟨y,(hm y).2 (.inl rfl),by rw [hy,<-q];exact e⟩
      ·exact .inr ⟨t,(hm t).2 (.inr ⟨ht,q⟩),e⟩
theorem Iw {x:Qm} (h:nJ x):nJ (dW x):=by
  unfold dW
  split
  · rename_i hc
    obtain ⟨h1,h2⟩:=iZ (h.ix hc);exact PQ (y:= {x.l.getD (eC x.l x.cur) default with V:=qy (x.l.getD (eC x.l x.cur) default).V (Dh (x.l.getD (eC x.l x.cur) default).x)}) (r:=x.cY+1) h (h.ix hc) h1 (h.wt (x.l.getD (eC x.l x.cur) default) h2) (by have:=h.cY;omega)
  ·exact h
theorem B2 {x:Qm} (h:nJ x) {w:Int} (ha:eC x.l a<x.l.length):nJ (iW x a w):=
  PQ h ha rfl (ej (by decide)) (by have:=h.cY;have:=h.g;split<;>omega)
theorem eY (x:Qm):(fQ x).l=x.l/\(fQ x).cur=x.cur/\(fQ x).cY=x.cY/\(fQ x).g=x.g:=by
  unfold fQ
  split
  ·exact⟨rfl,rfl,rfl,rfl⟩
  ·split<;>exact⟨rfl,rfl,rfl,rfl⟩
theorem vF {x:Qm} (h:nJ x):nJ (fQ x):=by
  obtain ⟨h1,h2,h3,h4⟩:=eY x;exact⟨by rw [h1];exact h.nd,by rw [h1];exact h.pos,by rw [h1];exact h.len,by rw [h1];exact h.wt,by rw [h1,h2];exact h.cur,by rw [h4];exact h.g,by rw [h3];exact h.cY⟩
/-! the least V -/
theorem zO:∀(l:List Kv) (m:BitVec 64),(l.foldl (fun m s=>if s.V.toNat<m.toNat then s.V else m) m=m\/∃t∈l,t.V=l.foldl (fun m s=>if s.V.toNat<m.toNat then s.V else m) m)/\(l.foldl (fun m s=>if s.V.toNat<m.toNat then s.V else m) m).toNat<=m.toNat/\∀t∈l,(l.foldl (fun m s=>if s.V.toNat<m.toNat then s.V else m) m).toNat<=t.V.toNat
  | [],m=>⟨.inl rfl,Nat.le_refl _,fun t h=>by cases h⟩
  |s::l,m=>by
    rw [List.foldl_cons];obtain ⟨h1,h2,h3⟩:=zO l (if s.V.toNat<m.toNat then s.V else m);have h4:(if s.V.toNat<m.toNat then s.V else m).toNat<=m.toNat/\(if s.V.toNat<m.toNat then s.V else m).toNat<=s.V.toNat:=by split<;>omega
    refine ⟨?_,by omega,fun t ht=>?_⟩
    · rcases h1 with q|⟨t,ht,q⟩
      · by_cases e:s.V.toNat<m.toNat
        ·rw [if_pos e] at q ⊢;exact .inr ⟨s,List.mem_cons_self ..,q.symm⟩
        ·rw [if_neg e] at q ⊢;exact .inl q
      ·exact .inr ⟨t,List.mem_cons_of_mem _ ht,q⟩
    · rcases List.mem_cons.1 ht with rfl|ht
      ·omega
      ·exact h3 t ht
theorem KK {l:List Kv} (h:l≠ []):(∃t∈l,t.V=pD l)/\∀t∈l,(pD l).toNat<=t.V.toNat:=by
  cases l with
  |nil=>exact absurd rfl h
  |cons s l=>
    obtain ⟨h1,h2,h3⟩:=zO l s.V;refine ⟨?_,fun t ht=>?_⟩
    · rcases h1 with q|⟨t,ht,q⟩
      ·exact⟨s,List.mem_cons_self ..,q.symm⟩
      ·exact⟨t,List.mem_cons_of_mem _ ht,q⟩
    · rcases List.mem_cons.1 ht with rfl|ht
      ·exact h2
      ·exact h3 t ht
theorem QT {l:List Kv} {v:BitVec 64} (h:∃t∈l,t.V=v) (h2:∀t∈l,v.toNat<=t.V.toNat):pD l=v:=by
  obtain ⟨t,ht,rfl⟩:=h;have ec:l≠ [] :=fun e=>by rw [e] at ht;cases ht
  obtain ⟨⟨s,hs,e⟩,h3⟩:=KK ec;have h4:=h3 t ht;have h5:=h2 s hs;rw [e] at h5;exact BitVec.eq_of_toNat_eq om
theorem Xp {t:Kv} {l:List Kv} (h:Lw (t::l)):∀s∈t::l,t.V.toNat<=s.V.toNat:=fun s hs=>by
  rcases List.mem_cons.1 hs with rfl|hs
  ·exact Nat.le_refl _
  · rcases (List.pairwise_cons.1 h).1 s hs with q|q
    ·omega
    ·rw [q.1];exact Nat.le_refl _
theorem Mw {x:Qm} (h:nJ x) (hc:¬0<=x.cur):(eN x=[]->x.l=[])/\∀t l,eN x=t::l->x.l≠ []/\pD x.l=t.V:=by
  have h0:=h.Sd hc;have rJ:∀t∈x.l,t∈eN x:=fun t ht=>(Bo h.nd t).2 ⟨ht,by have:=h.pos t ht;omega⟩;refine ⟨fun e=>?_,fun t l e=>?_⟩
  · cases q:x.l with
    |nil=>rfl
    |cons s m=>have:=rJ s (by rw [q];exact List.mem_cons_self ..);rw [e] at this;cases this
  · have ht:=(kc h e).1
    refine ⟨fun q=>(by rw [q] at ht;cases ht),QT ⟨t,ht,rfl⟩ (fun s hs=>Xp (l:=l) (by rw [<-e];exact QR h.nd) s (by rw [<-e];exact rJ s hs))⟩
/-! weights -/
theorem CR (l m:List Kv):eI (l++m)=eI l+eI m:=by unfold eI;rw [List.map_append,List.sum_append]
theorem AW:∀{l:List Kv},(∀t∈l,1<=t.x/\t.x<=4096)->0<=eI l/\eI l<=4096*l.length
  | [],_=>by simp [eI]
  |t::l,h=>by
    have h1:=h t (List.mem_cons_self ..);have h2:=AW (l:=l) (fun s hs=>h s (List.mem_cons_of_mem _ hs));simp only [eI,List.map_cons,List.sum_cons,List.length_cons] at h2 ⊢;omega
theorem nJ.load {x:Qm} (h:nJ x):0<=eI x.l/\eI x.l<=65536:=by
  have:=AW h.wt;have:=h.len;omega
abbrev gQ (l:List Kv) (a:Int):Kv:=l.getD (eC l a) default
theorem R7 {l:List Kv} (h:¬eC l a<l.length):gQ l a=default:=by
  unfold gQ;rw [List.getD_eq_getElem?_getD,List.getElem?_eq_none om];rfl
theorem HZ {x:Qm} (h:¬(0<=x.cur/\x.g<=x.cY)):KV x=false:=if_neg h
theorem N4 {x:Qm} (h:0<=x.cur/\x.g<=x.cY):KV x=(match eN x with| [] =>false|t::_=>decide (t.V.toNat<(gQ x.l x.cur).V.toNat)):=if_pos h
theorem qa {l:List α} (h:l≠ []):∃a t,l=a::t:=by cases l with|nil=>exact absurd rfl h|cons a t=>exact⟨a,t,rfl⟩
def PV (x:Qm) (a:Int) (v:BitVec 64) (w:Int):BitVec 64:=if od x a=0 then tW x v (aF w 1 4096) else 0#64
def NP (x:Qm) (a:Int) (v:BitVec 64) (w:Int):Qm:=if od x a=0 then sR x a v w else x
def Kz (x:Qm) (a:Int):Qm:=if eC x.l a<x.l.length then jq x a else x
def nk (x:Qm) (a w:Int):Qm:=if eC x.l a<x.l.length then iW x a w else x
theorem Pr {x:Qm} (h:a<0):od x a=1:=if_pos h
theorem NX {x:Qm} (h:¬a<0) (h2:eC x.l a<x.l.length):od x a=12:=by unfold od;rw [if_neg h,if_pos h2]
theorem Km {x:Qm} (h:¬a<0) (h2:¬eC x.l a<x.l.length) (h3:16<=x.l.length):od x a=3:=by unfold od;rw [if_neg h,if_neg h2,if_pos h3]
theorem H9 {x:Qm} (h:¬a<0) (h2:¬eC x.l a<x.l.length) (h3:¬16<=x.l.length):od x a=0:=by unfold od;rw [if_neg h,if_neg h2,if_neg h3]
theorem A9 {x:Qm} {v:BitVec 64} {w:Int} (h:od x a≠0):PV x a v w=0#64:=if_neg h
theorem Bp {x:Qm} {v:BitVec 64} {w:Int} (h:od x a≠0):NP x a v w=x:=if_neg h
theorem IZ {x:Qm} (h:x.l=[]):fQ x=x:=by unfold fQ;rw [h]
theorem zd {x:Qm} (h:x.l≠ []):fQ x= {x with fl:=if x.fl.toNat<(pD x.l).toNat then pD x.l else x.fl} :=by
  have h2:fQ x=if x.fl.toNat<(pD x.l).toNat then {x with fl:=pD x.l} else x:=by
    unfold fQ;split
    ·exact absurd aC h
    ·rfl
  rw [h2]
  by_cases q:x.fl.toNat<(pD x.l).toNat
  ·rw [if_pos q,if_pos q]
  ·rw [if_neg q,if_neg q]
instance:Inhabited Qm:=⟨xY 0⟩
abbrev cB (x:Qm) (a:Int):Prop:=eC x.l a<x.l.length
abbrev qg {α:Type} [Inhabited α] (qs:List α) (i:Nat):α:=qs.getD i default
def bN (qs:List Qm) (a:Int):Nat:=qs.findIdx (fun x=>decide (cB x a))
def Q4 (qs:List Qm) (a:Int):Int:=if bN qs a<qs.length then (bN qs a:Nat) else-1
def fm (qs:List Qm):Nat:=(qs.map (fun x=>x.l.length)).sum
structure tv (qs:List Qm):Prop where
  len:1<=qs.length/\qs.length<=4
  wf:∀i,i<qs.length->nJ (qg qs i)
  one:∀i j a,i<qs.length->j<qs.length->cB (qg qs i) a->cB (qg qs j) a->i=j
  all:fm qs<=16
theorem G9 [Inhabited α] {qs:List α} (h:i<qs.length):qg qs i=qs[i] :=by unfold qg;rw [List.getD_eq_getElem?_getD,List.getElem?_eq_getElem h];rfl
theorem bG [Inhabited α] {qs:List α} (h:i<qs.length) (x:α) (j:Nat):qg (qs.set i x) j=if i=j then x else qg qs j:=by
  unfold qg
  rw [List.getD_eq_getElem?_getD,List.getD_eq_getElem?_getD,List.getElem?_set]
  by_cases e:i=j
  ·subst e;rw [if_pos rfl,if_pos rfl,if_pos h];rfl
  ·rw [if_neg e,if_neg e]
theorem Q7 [Inhabited α] (qs:List α) (x:α) (j:Nat) (h:j<=qs.length):qg (qs++ [x]) j=if j=qs.length then x else qg qs j:=by
  unfold qg
  rw [List.getD_eq_getElem?_getD,List.getD_eq_getElem?_getD]
  by_cases e:j=qs.length
  ·subst e;rw [if_pos rfl];simp
  ·rw [if_neg e,List.getElem?_append_left om]
theorem dm {qs:List Qm} (h:bN qs a<qs.length):cB (qg qs (bN qs a)) a:=by
  have:=List.findIdx_getElem (xs:=qs) (p:=fun x=>decide (cB x a)) (w:=h);simp only [decide_eq_true_eq] at this;rw [G9 h];exact this
theorem wK {qs:List Qm} (h:¬bN qs a<qs.length) (hi:i<qs.length):¬cB (qg qs i) a:=fun q=>by
  rw [G9 hi] at q;exact h (List.findIdx_lt_length_of_exists ⟨qs[i],List.getElem_mem hi,by simpa using q⟩)
theorem ac0 {qs:List Qm} (hi:i<qs.length) (hk:cB (qg qs i) a) (hu:∀j,j<qs.length->cB (qg qs j) a->j=i):bN qs a=i:=by
  have h1:bN qs a<qs.length:=Classical.byContradiction fun q=>wK q hi hk;exact hu _ h1 (dm h1)
theorem Ij {qs:List Qm} (h:∀j,j<qs.length->¬cB (qg qs j) a):¬bN qs a<qs.length:=fun q=>h _ q (dm q)
theorem tv.at {qs:List Qm} (h:tv qs) (hi:i<qs.length) (hk:cB (qg qs i) a):bN qs a=i:=ac0 hi hk (fun j hj hkj=>h.one j i a hj hi hkj hk)
theorem rY {qs:List Qm} (h:bN qs a<qs.length):Q4 qs a=(bN qs a:Nat):=if_pos h
theorem Vp {qs:List Qm} (h:¬bN qs a<qs.length):Q4 qs a= -1:=if_neg h
theorem tv.pos {qs:List Qm} (h:tv qs) {a:Int} (ha:bN qs a<qs.length):0<=a:=by
  obtain ⟨t,ht,e⟩:=jx.1 (dm ha);have:=(h.wf _ ha).pos t ht;omega
/-! ### what a queue has -/
theorem eP {x:Qm} (h:cB x a):gQ x.l a∈x.l/\(gQ x.l a).id=a:=⟨(iZ h).2,(iZ h).1⟩
theorem has_add {x:Qm} {w:Int} {v:BitVec 64} {b:Int}:cB (sR x a v w) b↔cB x b\/b=a:=by
  unfold cB;rw [jx,jx]
  show (∃t∈x.l++ [(⟨_,a,_⟩:Kv)],t.id=b)↔_
  simp only [List.mem_append,List.mem_singleton]
  constructor
  · rintro ⟨t,ht|rfl,e⟩
    ·exact .inl ⟨t,ht,e⟩
    ·exact .inr e.symm
  · rintro (⟨t,ht,e⟩|rfl)
    ·exact⟨t,.inl ht,e⟩
    ·exact⟨_,.inr rfl,rfl⟩
theorem TY (x:Qm) (a:Int):(jq x a).l=x.l.eraseIdx (eC x.l a):=by unfold jq;split<;>rfl
theorem pS {x:Qm} (h:nJ x) {b:Int} (ha:cB x a):cB (jq x a) b↔cB x b/\b≠a:=by
  unfold cB;rw [jx,jx,TY]
  constructor
  · rintro ⟨t,ht,rfl⟩
    have:=(nK h.nd ha t).1 ht;exact⟨⟨t,this.1,rfl⟩,this.2⟩
  · rintro ⟨⟨t,ht,rfl⟩,ec⟩
    exact⟨t,(nK h.nd ha t).2 ⟨ht,ec⟩,rfl⟩
theorem Sg (x:Qm) (a:Int) (v:BitVec 64) (w:Int):(sR x a v w).l.length=x.l.length+1:=by simp [sR]
theorem HW {x:Qm} (ha:cB x a):(jq x a).l.length+1=x.l.length:=by
  rw [TY,List.length_eraseIdx,if_pos ha];have:=ha;unfold cB at this;omega
/-! ### how many there are -/
theorem Aa:∀{qs:List Qm} {i:Nat} (h:i<qs.length) (x:Qm),fm (qs.set i x)+(qg qs i).l.length=fm qs+x.l.length
  | [],i,h,x=>by cases h
  |q::qs,0,h,x=>by show (x.l.length+fm qs)+q.l.length=(q.l.length+fm qs)+x.l.length;omega
  |q::qs,i+1,h,x=>by
    have:=Aa (qs:=qs) (Nat.lt_of_succ_lt_succ h) x
    show (q.l.length+fm (qs.set i x))+(qg qs i).l.length=(q.l.length+fm qs)+x.l.length
    omega
theorem F7:∀{qs:List Qm} {i:Nat} (h:i<qs.length),(qg qs i).l.length<=fm qs
  | [],i,h=>by cases h
  |q::qs,0,h=>by show q.l.length<=q.l.length+fm qs;omega
  |q::qs,i+1,h=>by
    have:=F7 (qs:=qs) (Nat.lt_of_succ_lt_succ h)
    show (qg qs i).l.length<=q.l.length+fm qs
    omega
/-! ### what the two maps have -/
theorem tv.set {qs:List Qm} (h:tv qs) {i:Nat} (hi:i<qs.length) {x':Qm} (hx:nJ x') (hk:∀j b,j<qs.length->j≠i->cB x' b->¬cB (qg qs j) b) (hl:fm qs+x'.l.length<=16+(qg qs i).l.length):tv (qs.set i x'):=by
  refine ⟨by rw [List.length_set];exact h.len,fun j hj=>?_,fun j k a hj Y0 h1 h2=>?_,?_⟩
  · rw [List.length_set] at hj
    rw [bG hi];split
    ·exact hx
    ·exact h.wf j hj
  · rw [List.length_set] at hj Y0
    rw [bG hi] at h1 h2
    by_cases e1:i=j
    · by_cases e2:i=k
      ·omega
      · rw [if_pos e1] at h1;rw [if_neg e2] at h2
        exact absurd h2 (hk k a Y0 (fun q=>e2 q.symm) h1)
    · rw [if_neg e1] at h1
      by_cases e2:i=k
      · rw [if_pos e2] at h2
        exact absurd h1 (hk j a hj (fun q=>e1 q.symm) h2)
      · rw [if_neg e2] at h2
        exact h.one j k a hj Y0 h1 h2
  ·have:=Aa hi x';omega
/-! ### one more -/
def jm (qs:List Qm) (core a:Int):Int:=if core<0\/(qs.length:Int)<=core\/a<0 then 1 else if bN qs a<qs.length then 12 else if 16<=fm qs then 3 else 0
def wU (qs:List Qm) (core a:Int) (v:BitVec 64) (w:Int):BitVec 64:=if jm qs core a=0 then tW (qg qs core.toNat) v (aF w 1 4096) else 0#64
def dT (qs:List Qm) (core a:Int) (v:BitVec 64) (w:Int):List Qm:=if jm qs core a=0 then qs.set core.toNat (sR (qg qs core.toNat) a v w) else qs
theorem Gh {qs:List Qm} (h:tv qs) (hi:i<qs.length) (ha:0<=a) (hn:¬bN qs a<qs.length) (hf:fm qs<16):od (qg qs i) a=0:=
  H9 om (wK hn hi) (by have:=F7 hi;omega)
theorem AS {qs:List Qm} (h:tv qs) (hi:i<qs.length) (ha:0<=a) (hn:¬bN qs a<qs.length) (hf:fm qs<16) (v:BitVec 64) (w:Int):tv (qs.set i (sR (qg qs i) a v w)):=
  h.set hi (Mo (h.wf i hi) (Gh h hi ha hn hf)) (fun j b hj K6 hb q=>by
    rcases has_add.1 hb with z|rfl
    ·exact K6 (h.one j i b hj hi q z)
    ·exact wK hn hj q) (by rw [Sg];omega)
/-! ### one less -/
def iM (qs:List Qm) (a:Int):List Qm:=if bN qs a<qs.length then qs.set (bN qs a) (jq (qg qs (bN qs a)) a) else qs
def xV (qs:List Qm) (a:Int):BitVec 64:=if bN qs a<qs.length then (gQ (qg qs (bN qs a)).l a).V else 0#64
theorem Br {qs:List Qm} (h:tv qs) (ha:bN qs a<qs.length):tv (qs.set (bN qs a) (jq (qg qs (bN qs a)) a)):=by
  have hh:=dm ha;refine h.set ha (O0 (h.wf _ ha) hh) (fun j b hj K6 hb q=>K6 (h.one j _ b hj ha q ((pS (h.wf _ ha) hh).1 hb).1)) ?_;have:=HW hh;have:=h.all;omega
theorem Iy {qs:List Qm} (h:tv qs) (ha:bN qs a<qs.length):¬bN (qs.set (bN qs a) (jq (qg qs (bN qs a)) a)) a<(qs.set (bN qs a) (jq (qg qs (bN qs a)) a)).length:=Ij (fun j hj q=>by
  rw [List.length_set] at hj;rw [bG ha] at q
  by_cases e:bN qs a=j
  ·rw [if_pos e] at q;exact((pS (h.wf _ ha) (dm ha)).1 q).2 rfl
  ·rw [if_neg e] at q;exact e (h.at hj q))
theorem LW {qs:List Qm} (ha:bN qs a<qs.length):fm (qs.set (bN qs a) (jq (qg qs (bN qs a)) a))+1=fm qs:=by
  have h1:=Aa ha (jq (qg qs (bN qs a)) a);have h2:=HW (dm ha);omega
/-! ### another weight -/
def kG (qs:List Qm) (a w:Int):List Qm:=if bN qs a<qs.length then qs.set (bN qs a) (nk (qg qs (bN qs a)) a w) else qs
/-! ### to another core -/
def agq (a b:BitVec 64):BitVec 64:=if a.toNat<b.toNat then 0#64 else a-b
def fh (qs:List Qm) (a:Int):List Qm:=qs.set (bN qs a) (jq (qg qs (bN qs a)) a)
def Jm (qs:List Qm) (a:Int) (to:Nat):BitVec 64:=qy (qg qs to).fl (agq (gQ (qg qs (bN qs a)).l a).V (qg qs (bN qs a)).fl)
def ia (qs:List Qm) (a:Int) (to:Nat):List Qm:=(fh qs a).set to (sR (qg qs to) a (Jm qs a to) (gQ (qg qs (bN qs a)).l a).x)
theorem AH {qs:List Qm} (_:tv qs) (ha:bN qs a<qs.length) {to:Nat} (_:to<qs.length) (ec:to≠bN qs a):qg (fh qs a) to=qg qs to:=by unfold fh;rw [bG ha,if_neg (fun q=>ec q.symm)]
theorem Bd {qs:List Qm} (h:tv qs) (ha:bN qs a<qs.length) {to:Nat} (ht:to<qs.length) (_:to≠bN qs a):tv (fh qs a)/\to<(fh qs a).length/\0<=a/\¬bN (fh qs a) a<(fh qs a).length/\fm (fh qs a)<16:=
  ⟨Br h ha,by unfold fh;rw [List.length_set];exact ht,h.pos ha,Iy h ha,by have h1:=LW ha;have h2:=h.all;unfold fh;omega⟩
section
variable {qs:List Qm} (h:tv qs) {a:Int} (ha:bN qs a<qs.length) {to:Nat} (ht:to<qs.length) (ec:to≠bN qs a)
include h ha ht ec
theorem x9:ia qs a to=(fh qs a).set to (sR (qg (fh qs a) to) a (Jm qs a to) (gQ (qg qs (bN qs a)).l a).x):=by rw [AH h ha ht ec];rfl
theorem WO:tv (ia qs a to):=by
  obtain ⟨h1,h2,h3,h4,h5⟩:=Bd h ha ht ec;rw [x9 h ha ht ec];exact AS h1 h2 h3 h4 h5 _ _
theorem ab0:od (qg qs to) a=0:=by
  obtain ⟨h1,h2,h3,h4,h5⟩:=Bd h ha ht ec;rw [<-AH h ha ht ec];exact Gh h1 h2 h3 h4 h5
end
/-! ### the heaviest and the lightest -/
abbrev QI (qs:List Qm) (i:Nat):Int:=eI (qg qs i).l
def jC (qs:List Qm):Nat->Nat
  |0=>0
  |i+1=>if QI qs (jC qs i)<QI qs i then i else jC qs i
def fT (qs:List Qm):Nat->Nat
  |0=>0
  |i+1=>if QI qs i<QI qs (fT qs i) then i else fT qs i
theorem vN {qs:List Qm} (h:1<=qs.length):∀i,i<=qs.length->jC qs i<qs.length
  |0,_=>h
  |i+1,hi=>by have:=vN h i om;unfold jC;split<;>omega
theorem so {qs:List Qm} (h:1<=qs.length):∀i,i<=qs.length->fT qs i<qs.length
  |0,_=>h
  |i+1,hi=>by have:=so h i om;unfold fT;split<;>omega
abbrev mo (qs:List Qm):Nat:=jC qs qs.length
abbrev le (qs:List Qm):Nat:=fT qs qs.length
def Ff (qs:List Qm):Int:=QI qs (mo qs)-QI qs (le qs)
def vk (qs:List Qm):Option Kv:=(eN (qg qs (mo qs))).find? (fun t=>decide (t.x<Ff qs))
def jI (qs:List Qm):List Qm:=match vk qs with|none=>qs|some t=>ia qs t.id (le qs)
def gj (qs:List Qm):Int:=match vk qs with|none=> -1|some t=>t.id
def LL (qs:List Qm):Int:=match vk qs with|none=> -1|some _=>(mo qs:Nat)
def uc (qs:List Qm):Int:=match vk qs with|none=> -1|some _=>(le qs:Nat)
theorem Nn {L:List Kv} {p:Kv->Bool}:∀{k:Nat},(∀j,j<k->p (L.getD j default)=false)->k<L.length->p (L.getD k default)=true->L.find? p=some (L.getD k default):=by
  induction L with
  |nil=>intro k _ h;cases h
  |cons x L ih=>
    intro k h1 h2 h3;cases k with
    |zero=>simp only [List.getD_cons_zero] at h3 ⊢;rw [List.find?_cons,h3]
    |succ k=>
      have h0:=h1 0 om;simp only [List.getD_cons_zero] at h0;simp only [List.getD_cons_succ] at h3 ⊢;rw [List.find?_cons,h0];exact ih (fun j hj=>by have:=h1 (j+1) om;rwa [List.getD_cons_succ] at this) (by simpa using h2) h3
theorem O3 {L:List Kv} {p:Kv->Bool} (h:∀j,j<L.length->p (L.getD j default)=false):L.find? p=none:=by
  rw [List.find?_eq_none];intro x hx;obtain ⟨j,hj,rfl⟩:=List.getElem_of_mem hx;have:=h j hj;rw [List.getD_eq_getElem?_getD,List.getElem?_eq_getElem hj] at this;simpa using this
theorem jX {qs:List Qm} (h:tv qs) {t:Kv} (hb:vk qs=some t):t∈(qg qs (mo qs)).l/\t.id≠(qg qs (mo qs)).cur/\t.x<Ff qs/\bN qs t.id=mo qs/\mo qs<qs.length/\le qs<qs.length/\le qs≠bN qs t.id:=by
  have hm:=vN h.len.1 qs.length (Nat.le_refl _);have hl:=so h.len.1 qs.length (Nat.le_refl _);have h1:=List.mem_of_find?_eq_some hb;have h2:=List.find?_some hb;simp only [decide_eq_true_eq] at h2;obtain ⟨h3,h4⟩:=(Bo (h.wf _ hm).nd t).1 h1;have h5:bN qs t.id=mo qs:=h.at hm (jx.2 ⟨t,h3,rfl⟩);refine ⟨h3,h4,h2,h5,hm,hl,fun e=>?_⟩;rw [h5] at e;have h6:=((h.wf _ hm).wt t h3).1
  unfold Ff at h2
  rw [e] at h2;omega
theorem zg (qs:List Qm) (i:Nat):jC qs (i+1)=if QI qs (jC qs i)<QI qs i then i else jC qs i:=rfl
theorem xq (qs:List Qm) (i:Nat):fT qs (i+1)=if QI qs i<QI qs (fT qs i) then i else fT qs i:=rfl
theorem lQ (qs:List Qm):jC qs 0=0:=rfl
theorem ko (qs:List Qm):fT qs 0=0:=rfl
attribute [irreducible] jC fT
structure QKd {α:Type} (R:Nat->Nat->α->ab->Prop):Prop where
  ge:∀{n0 b x m},R n0 b x m->∀p∈m,n0<=p.1
  bJ:∀{n0 b x m},R n0 b x m->∀p∈m,bJ p.2=false
  mono:∀{n0 n1 b x m},R n0 b x m->n1<=n0->R n1 b x m
def kJ {α:Type} [Inhabited α] (R:Nat->Nat->α->ab->Prop) (n0:Nat) (bs:List Nat) (qs:List α) (mm:ab):Prop:=
  ∃M:List ab,mm=M.flatten/\bs.length=qs.length/\M.length=qs.length/\∀i,i<qs.length->R n0 (bs.getD i default) (qg qs i) (M.getD i [])
section
variable {α:Type} [Inhabited α] {R:Nat->Nat->α->ab->Prop} (hR:QKd R) {n0:Nat} {bs:List Nat} {qs:List α} {mm:ab}
theorem kJ.nil:kJ R n0 [] [] [] :=⟨[],rfl,rfl,rfl,fun i h=>by cases h⟩
theorem kJ.len (h:kJ R n0 bs qs mm):bs.length=qs.length:=by obtain ⟨M,_,h,_⟩:=h;exact h
include hR in
theorem kJ.ge (h:kJ R n0 bs qs mm):∀p∈mm,n0<=p.1:=by
  obtain ⟨M,rfl,h1,h2,h3⟩:=h;intro p hp;obtain ⟨m,hm,tS⟩:=List.mem_flatten.1 hp;obtain ⟨i,hi,rfl⟩:=List.getElem_of_mem hm;refine hR.ge (h3 i om) p ?_;rw [List.getD_eq_getElem?_getD,List.getElem?_eq_getElem hi];exact tS
include hR in
theorem kJ.bJ (h:kJ R n0 bs qs mm):∀p∈mm,bJ p.2=false:=by
  obtain ⟨M,rfl,h1,h2,h3⟩:=h;intro p hp;obtain ⟨m,hm,tS⟩:=List.mem_flatten.1 hp;obtain ⟨i,hi,rfl⟩:=List.getElem_of_mem hm;refine hR.bJ (h3 i om) p ?_;rw [List.getD_eq_getElem?_getD,List.getElem?_eq_getElem hi];exact tS
include hR in
theorem kJ.mono (h:kJ R n0 bs qs mm) {n1:Nat} (hn:n1<=n0):kJ R n1 bs qs mm:=by
  obtain ⟨M,rfl,h1,h2,h3⟩:=h;exact⟨M,rfl,h1,h2,fun i hi=>hR.mono (h3 i hi) hn⟩
theorem kJ.snoc (h:kJ R n0 bs qs mm) {x:α} (hx:R n0 b x m):kJ R n0 (bs++ [b]) (qs++ [x]) (mm++m):=by
  obtain ⟨M,rfl,h1,h2,h3⟩:=h;refine ⟨M++ [m],by simp,by simp [h1],by simp [h2],fun i hi=>?_⟩;rw [List.length_append,List.length_singleton] at hi;rw [Q7 qs x i om];rw [List.getD_eq_getElem?_getD,List.getD_eq_getElem?_getD]
  by_cases e:i=qs.length
  ·rw [if_pos e,List.getElem?_append_right om,List.getElem?_append_right om,h1,h2,e];simpa using hx
  · rw [if_neg e,List.getElem?_append_left om,List.getElem?_append_left om]
    have:=h3 i om;rw [List.getD_eq_getElem?_getD,List.getD_eq_getElem?_getD] at this;exact this
theorem kJ.read {f:FuncId} {Q:Value->World->Prop} (h:kJ R n0 bs qs mm) (hi:i<qs.length) (hm:Mem w mm)
    (hs:∀m,R n0 (bs.getD i default) (qg qs i) m->Mem w m->aD P f args w Q):aD P f args w Q:=by
  obtain ⟨M,rfl,h1,h2,h3⟩:=h;exact hs _ (h3 i hi) (F8 om hm)
include hR in
theorem kJ.acH {f:FuncId} {T:Value->ab->Prop} {x':α} (h:kJ R n0 bs qs mm) (hi:i<qs.length) (hm:Mem w mm)
    (hs:∀m,R n0 (bs.getD i default) (qg qs i) m->Mem w m->aD P f args w (fq m (fun u m'=>∃mr mx,T u mr/\m'=mr++mx/\R n0 (bs.getD i default) x' mx) w)):
    aD P f args w (fq mm (fun u m'=>∃mr mx,T u mr/\m'=mr++mx/\kJ R n0 bs (qs.set i x') mx) w):=by
  obtain ⟨M,rfl,h1,h2,h3⟩:=h;have Zq:i<M.length:=by omega
  refine (hs _ (h3 i hi) (F8 Zq hm)).mono (fun u w' hU=>?_);have eK:=fun p hp=>YK (M:=M) (i:=i) Zq (p:=p) hp;obtain ⟨m',⟨mr,mx,hu,rfl,hr⟩,WC,hM,hC,_⟩:=wI (G:=top) (S:=fun b=>∃q∈M.flatten,q.1=b) (w0:=w) (hm.perm (mH M i Zq)) (hR.bJ (h3 i hi)) (fun p hp _=>⟨p,eK p hp,rfl⟩) (cG.refl _ _) trivial hU
  have tS:((mr++mx)++(M.eraseIdx i).flatten).Perm (mr++(M.set i mx).flatten):=by
    rw [List.append_assoc];exact(OV Zq mx).symm.append_left mr
  refine ⟨hC,mr++(M.set i mx).flatten,⟨mr,_,hu,rfl,M.set i mx,rfl,by rw [List.length_set];exact h1,by rw [List.length_set,List.length_set];exact h2,fun j hj=>?_⟩,hM.perm tS,fun p hp=>?_⟩
  · rw [List.length_set] at hj
    rw [bG hi,List.getD_eq_getElem?_getD (l:=M.set i mx),List.getElem?_set]
    by_cases e:i=j
    ·subst e;rw [if_pos rfl,if_pos rfl,if_pos Zq];exact hr
    · rw [if_neg e,if_neg e]
      have:=h3 j hj;rw [List.getD_eq_getElem?_getD (l:=M)] at this;exact this
  · rcases List.mem_append.1 (tS.mem_iff.2 hp) with q|q
    · rcases WC p q with z|⟨q',IW,e⟩
      ·exact .inl z
      ·exact .inr ⟨q',eK q' IW,e⟩
    ·exact .inr ⟨p,(mH M i Zq).mem_iff.2 (List.mem_append_right _ q),rfl⟩
include hR in
theorem kJ.Dx {f:FuncId} {u0:Value} {x':α} (h:kJ R n0 bs qs mm) (hi:i<qs.length) (hm:Mem w mm)
    (hs:∀m,R n0 (bs.getD i default) (qg qs i) m->Mem w m->aD P f args w (fq m (fun u m'=>u=u0/\R n0 (bs.getD i default) x' m') w)):
    aD P f args w (fq mm (fun u m'=>u=u0/\kJ R n0 bs (qs.set i x') m') w):=
  (h.acH hR (T:=fun u mr=>u=u0/\mr=[]) hi hm (fun m hr hM=>(hs m hr hM).mono (fun u w' ⟨a,m',⟨e,r⟩,b,c⟩=>⟨a,m',⟨[],m',⟨e,rfl⟩,rfl,r⟩,b,c⟩))).mono
    (fun u w' ⟨a,m',⟨mr,mx,⟨e,e2⟩,e3,r⟩,b,c⟩=>⟨a,m',⟨e,by rw [e3,e2];exact r⟩,b,c⟩)
end
def fP (b:Nat):List Value:=[.pointer (some ⟨b,0,none⟩)]
def gm (k g:Int):List Qm:=List.replicate (aF k 1 4).toNat (xY g)
theorem ud {x:Qm} (h:i<n):qg (List.replicate n x) i=x:=by unfold qg;rw [List.getD_eq_getElem?_getD,List.getElem?_replicate,if_pos h];rfl
theorem e9 (k g:Int):(gm k g).length=(aF k 1 4).toNat:=List.length_replicate
theorem wb (g a:Int):¬cB (xY g) a:=by unfold cB xY;simp
theorem Kj (k g:Int):fm (gm k g)=0:=by
  have:∀n,fm (List.replicate n (xY g))=0:=fun n=>by
    induction n with
    |zero=>rfl
    |succ n ih=>show (xY g).l.length+fm (List.replicate n (xY g))=0;rw [ih];rfl
  exact this _
theorem Co (k g:Int):tv (gm k g):=by
  have hb:=ej (n:=k) (lo:=1) (hi:=4) (by decide);refine ⟨by rw [e9];omega,fun i hi=>?_,fun i j a hi hj h1 h2=>?_,by rw [Kj];omega⟩
  ·rw [e9] at hi;rw [gm,ud hi];exact MZ g
  ·rw [e9] at hi;rw [gm,ud hi] at h1;exact absurd h1 (wb g a)
theorem Ow (n:Nat) (x:Qm):List.replicate n x++ [x] =List.replicate (n+1) x:=(List.replicate_succ' ..).symm
theorem T0 {x:Qm} (hE:od x a=0) (v:BitVec 64) (w:Int):NP x a v w=sR x a v w/\PV x a v w=tW x v (aF w 1 4096):=⟨if_pos hE,if_pos hE⟩
theorem Gs (qs:List Qm) (i:Nat) (x:Qm):(qs.set i x).length=qs.length:=List.length_set
def fy (qs:List Qm) (core a:Int):Int:=if¬bN qs a<qs.length then 4 else if core<0\/(qs.length:Int)<=core then 1 else if (bN qs a:Int)=core then 12 else if (qg qs (bN qs a)).cur=a then 8 else 0
def jB (qs:List Qm) (core a:Int):List Qm:=if fy qs core a=0 then ia qs a core.toNat else qs
theorem A0 {qs:List Qm} (h:Q4 qs a<0):¬bN qs a<qs.length:=fun q=>by unfold Q4 at h;rw [if_pos q] at h;omega
theorem Bz {qs:List Qm} (h:¬Q4 qs a<0):bN qs a<qs.length:=Classical.byContradiction fun q=>by unfold Q4 at h;rw [if_neg q] at h;omega
theorem lO {qs:List Qm} {core:Int} (h:fy qs core a≠0):jB qs core a=qs:=if_neg h
theorem VQ {qs:List Qm} (h:∀j,j<(eN (qg qs (mo qs))).length->¬((eN (qg qs (mo qs))).getD j default).x<Ff qs):vk qs=none:=O3 (fun j hj=>decide_eq_false (h j hj))
theorem Wz {qs:List Qm} (h:∀j,j<k->¬((eN (qg qs (mo qs))).getD j default).x<Ff qs) (hk:k<(eN (qg qs (mo qs))).length) (h2:((eN (qg qs (mo qs))).getD k default).x<Ff qs):vk qs=some ((eN (qg qs (mo qs))).getD k default):=Nn (fun j hj=>decide_eq_false (h j hj)) hk (decide_eq_true h2)
def IQ:List Int:=[0,1,56,2,57,49,28,3,61,58,42,50,38,29,17,4,62,47,59,36,45,43,51,22,53,39,33,30,24,18,12,5,63,55,48,27,60,41,37,16,46,35,44,21,52,32,23,11,54,26,40,15,34,20,31,10,25,14,19,9,13,8,7,6]
def fj (x:BitVec 64):Nat:=((List.range 64).find? (fun i=>x.getLsbD i)).getD 64
theorem eU {x:BitVec 64} (h:x≠0#64):fj x<64/\x.getLsbD (fj x)=true/\∀j,j<fj x->x.getLsbD j=false:=by
  unfold fj
  cases hf:(List.range 64).find? (fun i=>x.getLsbD i) with
  |none=>
    exfalso;apply h
    rw [List.find?_eq_none] at hf
    apply BitVec.eq_of_getLsbD_eq
    intro i hi;have:=hf i (List.mem_range.2 hi);simpa using this
  |some i=>
    rw [List.find?_range_eq_some] at hf;simp only [Option.getD_some];obtain ⟨h1,h2,h3⟩:=hf;exact⟨by simpa using h2,h1,fun j hj=>by simpa using h3 j hj⟩
theorem OK:fj 0#64=64:=by decide
theorem Et {x:BitVec 64} (h:x≠0#64) (i:Nat):(∃j,j<i/\x.getLsbD j=true)↔fj x<i:=by
  obtain ⟨h1,h2,h3⟩:=eU h
  constructor
  · rintro ⟨j,hj,hb⟩
    apply Nat.lt_of_not_le;intro hle
    have:j<fj x:=by omega
    rw [h3 j this] at hb;cases hb
  ·intro bo;exact⟨_,bo,h2⟩
theorem HJ {x:BitVec 64} (h:x≠0#64):x&&& -x=BitVec.twoPow 64 (fj x):=by
  obtain ⟨h1,h2,h3⟩:=eU h
  apply BitVec.eq_of_getLsbD_eq
  intro i hi;rw [BitVec.getLsbD_and,BitVec.getLsbD_neg,BitVec.getLsbD_twoPow,decide_eq_decide.2 (Et h i),decide_eq_true hi,decide_eq_true h1];rcases Nat.lt_trichotomy i (fj x) with h4|h4|h4
  ·rw [h3 i h4,decide_eq_false (show¬fj x=i by omega)];rfl
  ·subst h4;rw [h2,decide_eq_false (Nat.lt_irrefl _)];simp
  ·rw [decide_eq_true (show fj x<i from h4),decide_eq_false (show¬fj x=i by omega)];cases x.getLsbD i<;>rfl
theorem El {x:BitVec 64} (h:x≠0#64) (i:Nat):(x&&& (x-1#64)).getLsbD i=(x.getLsbD i&&decide (fj x<i)):=by
  by_cases hi:i<64
  · rw [BitVec.getLsbD_and,<-BitVec.not_neg,BitVec.getLsbD_not,BitVec.getLsbD_neg,decide_eq_decide.2 (Et h i),decide_eq_true hi]
    cases x.getLsbD i<;>cases decide (fj x<i)<;>rfl
  ·rw [BitVec.getLsbD_of_ge _ _ om,BitVec.getLsbD_of_ge x _ om];rfl
theorem NH:∀i,i<64->IQ.getD ((BitVec.twoPow 64 i*285870213051353865#64) >>> 58).toNat 0=(i:Int)/\((BitVec.twoPow 64 i*285870213051353865#64) >>> 58).toNat<64:=by decide
/-! the members -/
def ek (s:BitVec 64):List Nat:=(List.range 64).filter (fun i=>s.getLsbD i)
theorem gv:i∈ek s↔s.getLsbD i=true:=by
  unfold ek
  rw [List.mem_filter,List.mem_range]
  constructor
  ·exact fun h=>h.2
  ·intro h;refine ⟨?_,h⟩;apply Nat.lt_of_not_le;intro hle;rw [BitVec.getLsbD_of_ge _ _ hle] at h;cases h
theorem uP (s:BitVec 64):(ek s).Pairwise (· < ·):=List.Pairwise.filter _ List.pairwise_lt_range
theorem zy:∀{l l':List Nat},l.Pairwise (· < ·)->l'.Pairwise (· < ·)->(∀i,i∈l↔i∈l')->l=l'
  | [],[],_,_,_=>rfl
  | [],b::l',_,_,h=>by have:=(h b).2 (List.mem_cons_self ..);cases this
  |a::l,[],_,_,h=>by have:=(h a).1 (List.mem_cons_self ..);cases this
  |a::l,b::l',h1,h2,h=>by
    rw [List.pairwise_cons] at h1 h2
    have e:a=b:=by
      rcases List.mem_cons.1 ((h a).1 (List.mem_cons_self ..)) with e|e
      ·exact e
      · rcases List.mem_cons.1 ((h b).2 (List.mem_cons_self ..)) with e'|e'
        ·exact e'.symm
        ·have:=h1.1 b e';have:=h2.1 a e;omega
    subst e
    rw [zy h1.2 h2.2 (fun i=>⟨fun hi=>by
        rcases List.mem_cons.1 ((h i).1 (List.mem_cons_of_mem _ hi)) with e|e
        ·subst e;exact absurd (h1.1 i hi) (Nat.lt_irrefl _)
        ·exact e,fun hi=>by
        rcases List.mem_cons.1 ((h i).2 (List.mem_cons_of_mem _ hi)) with e|e
        ·subst e;exact absurd (h2.1 i hi) (Nat.lt_irrefl _)
        ·exact e⟩)]
theorem qj (h:s≠0#64):ek s=fj s::ek (s&&& (s-1#64)):=by
  obtain ⟨h1,h2,h3⟩:=eU h;refine zy (uP s) ?_ ?_
  · rw [List.pairwise_cons]
    refine ⟨fun i hi=>?_,uP _⟩;rw [gv,El h,Bool.and_eq_true,decide_eq_true_eq] at hi;exact hi.2
  · intro i
    rw [List.mem_cons,gv,gv,El h,Bool.and_eq_true,decide_eq_true_eq]
    constructor
    · intro hb
      rcases Nat.lt_trichotomy i (fj s) with h4|h4|h4
      ·rw [h3 i h4] at hb;cases hb
      ·exact .inl h4
      ·exact .inr ⟨hb,h4⟩
    · rintro (rfl|h5)
      ·exact h2
      ·exact h5.1
theorem Jt:ek 0#64=[] :=by decide
theorem Py (h:ek s=[]):s=0#64:=by
  apply Classical.byContradiction;intro hs;rw [qj hs] at h;cases h
def oG (s:BitVec 64):Int:=if s=0#64 then-1 else (fj s:Nat)
/-! one number -/
def pg (i:Int):BitVec 64:=if i<0\/63<i then 0#64 else 1#64<<<i.toNat
def aq (s:BitVec 64) (i:Int):Bool:=decide (0<=i)&&(decide (i<64)&&s.getLsbD i.toNat)
theorem pA (i:Int) (j:Nat):(pg i).getLsbD j=(decide ((j:Int)=i)&&decide (j<64)):=by
  unfold pg
  split
  · rename_i h
    rw [BitVec.getLsbD_zero]
    by_cases hj:(j:Int)=i
    ·rw [decide_eq_false (show¬j<64 by omega)];simp
    ·rw [decide_eq_false hj];rfl
  · rename_i h
    rw [BitVec.getLsbD_shiftLeft,BitVec.getLsbD_one]
    by_cases hj:(j:Int)=i
    · have:i.toNat=j:=by omega
      subst hj;simp [show j<64 by omega]
    · rw [decide_eq_false hj]
      by_cases h1:j<i.toNat
      ·simp [h1]
      · have:¬j-i.toNat=0:=by omega
        simp [this]
theorem Ip (s:BitVec 64) (i:Int):decide (s&&& pg i≠0#64)=aq s i:=by
  unfold aq
  rw [Bool.eq_iff_iff];simp only [decide_eq_true_eq,Bool.and_eq_true]
  constructor
  · intro h
    have hi:0<=i/\i<64:=by
      apply Classical.byContradiction;intro hn;apply h
      have:pg i=0#64:=by unfold pg;rw [if_pos om]
      rw [this];simp
    refine ⟨hi.1,hi.2,?_⟩
    apply Classical.byContradiction;intro hb;apply h
    apply BitVec.eq_of_getLsbD_eq
    intro j hj;rw [BitVec.getLsbD_and,pA,BitVec.getLsbD_zero]
    by_cases e:(j:Int)=i
    · have:i.toNat=j:=by omega
      rw [this] at hb;simp [hb]
    ·rw [decide_eq_false e];simp
  · rintro ⟨h1,h2,h3⟩ e
    have:(s&&& pg i).getLsbD i.toNat=true:=by
      rw [BitVec.getLsbD_and,h3,pA,decide_eq_true (show ((i.toNat:Nat):Int)=i by omega),decide_eq_true (show i.toNat<64 by omega)];rfl
    rw [e,BitVec.getLsbD_zero] at this;cases this
theorem bz:aq s (i:Int)=s.getLsbD i:=by
  unfold aq
  by_cases h:i<64
  ·rw [decide_eq_true (show (0:Int)<=i by omega),decide_eq_true (show (i:Int)<64 by omega),Int.toNat_natCast];rfl
  · have:=BitVec.getLsbD_of_ge s i om
    rw [decide_eq_false (show¬(i:Int)<64 by omega),this];simp
def bL (s:BitVec 64) (i:Int):BitVec 64:=s|||pg i
def gb (s:BitVec 64) (i:Int):BitVec 64:=s&&& ~~~(pg i)
theorem dZ (s:BitVec 64) (i k:Int):aq (bL s i) k=(aq s k||(decide (k=i)&&(decide (0<=k)&&decide (k<64)))):=by
  unfold aq bL
  rw [BitVec.getLsbD_or,pA]
  by_cases h1:0<=k<;>by_cases h2:k<64
  · have e:decide (((k.toNat:Nat):Int)=i)=decide (k=i):=decide_eq_decide.2 om
    rw [e,decide_eq_true (show k.toNat<64 by omega),decide_eq_true h1,decide_eq_true h2];cases s.getLsbD k.toNat<;>cases decide (k=i)<;>rfl
  all_goals simp [h1,h2]
theorem eR (s:BitVec 64) (i k:Int):aq (gb s i) k=(aq s k&& !(decide (k=i))):=by
  unfold aq gb
  rw [BitVec.getLsbD_and,BitVec.getLsbD_not,pA]
  by_cases h1:0<=k<;>by_cases h2:k<64
  · have e:decide (((k.toNat:Nat):Int)=i)=decide (k=i):=decide_eq_decide.2 om
    rw [e,decide_eq_true (show k.toNat<64 by omega),decide_eq_true h1,decide_eq_true h2];cases s.getLsbD k.toNat<;>cases decide (k=i)<;>rfl
  all_goals simp [h1,h2]
theorem ss {a b:BitVec 64} (h:∀i:Nat,i<64->aq a i=aq b i):a=b:=by
  apply BitVec.eq_of_getLsbD_eq
  intro i hi;have:=h i hi;rwa [bz,bz] at this
theorem cO (a b:BitVec 64) (i:Int):aq (a|||b) i=(aq a i||aq b i):=by
  unfold aq;rw [BitVec.getLsbD_or];cases decide (0<=i)<;>cases decide (i<64)<;>simp
theorem bC (i:Int):aq 0#64 i=false:=by unfold aq;simp
theorem rZ {i:Int} (h:i<0\/63<i):bL s i=s:=by unfold bL pg;rw [if_pos h];simp
theorem rE {i:Int} (h:aq s i=true):bL s i=s:=by
  apply ss;intro k hk
  rw [dZ]
  by_cases e:(k:Int)=i
  ·rw [e,h];rfl
  ·rw [decide_eq_false e];simp
theorem gk {i:Int} (h:aq s i=true):0<=i/\i<64:=by
  simp only [aq,Bool.and_eq_true,decide_eq_true_eq] at h;exact⟨h.1,h.2.1⟩
def age (a b:BitVec 64):Prop:=a&&& ~~~b=0#64
instance (a b:BitVec 64):Decidable (age a b):=inferInstanceAs (Decidable (_=_))
theorem Cg {a b:BitVec 64}:a&&& ~~~b=0#64↔∀i:Nat,i<64->aq a i=true->aq b i=true:=by
  constructor
  · intro h i hi ha
    rw [bz] at*;have h1:(a&&& ~~~b).getLsbD i=false:=by rw [h];simp
    rw [BitVec.getLsbD_and,BitVec.getLsbD_not,ha,decide_eq_true hi] at h1;simpa using h1
  · intro h
    apply BitVec.eq_of_getLsbD_eq
    intro i hi;have:=h i hi;rw [bz,bz] at this;rw [BitVec.getLsbD_and,BitVec.getLsbD_not,decide_eq_true hi,BitVec.getLsbD_zero];cases h1:a.getLsbD i
    ·rfl
    ·rw [this h1];rfl
/-! the document's -/
theorem Tk (s:BitVec 64) (n:Nat):decide ((s >>> n) % 2#64=1#64)=s.getLsbD n:=by
  rw [Bool.eq_iff_iff,decide_eq_true_eq,BitVec.getLsbD,Nat.testBit];rw [<-BitVec.toNat_inj,BitVec.toNat_umod,BitVec.toNat_ushiftRight];have h2:(2#64).toNat=2:=rfl;have h1:(1#64).toNat=1:=rfl;rw [h2,h1,Nat.one_and_eq_mod_two];have:=Nat.mod_two_eq_zero_or_one (s.toNat >>> n);rcases this with h|h<;>simp [h]
theorem vL {i:Int} (h:¬(i<0\/63<i)) (hb:aq s i=false):s+1#64<<<i.toNat=bL s i:=by
  have e:pg i=1#64<<<i.toNat:=by unfold pg;rw [if_neg h]
  unfold bL
  rw [<-e]
  apply BitVec.add_eq_or_of_and_eq_zero
  apply Classical.byContradiction;intro hn
  have:=Ip s i;rw [hb,decide_eq_false_iff_not] at this;exact this hn
def sb (w:World):Prop:=∃cs E fz,w.heap[0]? =some (.cells cs E fz)/\∀i,i<64->cs[i]? =some (.int .u8 (IQ.getD i 0))
theorem sb.ext (h:sb w) (k:Ext w w'):sb w':=by obtain ⟨cs,E,fz,h1,h2⟩:=h;exact⟨cs,E,fz,k.get h1,h2⟩
theorem sb.keep {S:Nat->Prop} (h:sb w) (k:cG S w w') (hS:¬S 0):sb w':=by obtain ⟨cs,E,fz,h1,h2⟩:=h;exact⟨cs,E,fz,k.get h1 hS,h2⟩
theorem sb.pos (h:sb w):0<w.heap.size:=by obtain ⟨cs,E,fz,h1,_⟩:=h;exact(Array.getElem?_eq_some_iff.1 h1).1
theorem Af (h:∀i,i<64->w.cell? ⟨0,i,none⟩=some (.int .u8 (IQ.getD i 0))):sb w:=by
  have h0:=h 0 om
  unfold World.cell? at h0
  simp only at h0
  split at h0
  · rename_i cs E fz hb
    refine ⟨cs,E,fz,hb,fun i hi=>?_⟩;have:=h i hi
    unfold World.cell? at this
    simp only [hb] at this;exact this
  ·cases h0
theorem YL {x:Operand} {t ty:TypeId} {off:Nat} (hw:sb w) (hT:∀w,(isAgg t).run P w= .ok false w) (ha:ev e x=some (.pointer (some ⟨0,off,none⟩))) (ho:off=i) (hi:i<64):tn P (.load t x) ty e w (.int .u8 (IQ.getD i 0)) w:=by
  subst ho;obtain ⟨cs,E,fz,h1,h2⟩:=hw;have h:=jg (P:=P) h1 (h2 off hi);intro ρ hρ _ _ _ _;simp [execOp,Instr.loadAt,Instr.sureAddr,hρ x _ ha,loadVar,hT,h,Result.andThen]
structure Wt where
  who:Int
  key:Int
  til:BitVec 64
deriving DecidableEq
instance:Inhabited Wt:=⟨⟨0,0,0#64⟩⟩
def LF (L:List Wt) (key:Int):List Wt:=L.filter (fun w=>decide (w.key=key))
def ET (L:List Wt) (who:Int):List Wt:=L.filter (fun w=>decide (w.who≠who))
def yE (L:List Wt):Prop:=L.Pairwise (fun a b=>a.who≠b.who)
theorem xR {L:List Wt} {k:Int} {w:Wt}:w∈LF L k↔w∈L/\w.key=k:=by unfold LF;rw [List.mem_filter];simp
theorem rq {L:List Wt} {who:Int} {w:Wt}:w∈ET L who↔w∈L/\w.who≠who:=by unfold ET;rw [List.mem_filter];simp
theorem TK {L:List Wt} {who:Int} (h:∀w∈L,w.who≠who):ET L who=L:=List.filter_eq_self.2 (fun w hw=>decide_eq_true (h w hw))
theorem PE {L:List Wt} (h:yE L) (who:Int):yE (ET L who):=h.filter _
theorem ade {L:List Wt} (h:yE L) (k:Int):yE (LF L k):=h.filter _
theorem Rt {L:List Wt} (h:yE L) {v:Wt} (hn:∀w∈L,w.who≠v.who):yE (L++ [v]):=
  List.pairwise_append.2 ⟨h,List.pairwise_singleton ..,fun a ha b hb=>by rw [List.mem_singleton] at hb;subst hb;exact hn a ha⟩
theorem Dq:∀{L:List Wt} {i:Nat} {w:Wt},yE L->L[i]? =some w->ET L w.who=L.eraseIdx i
  | [],i,w,_,h=>by simp at h
  |x::L,0,w,h,hi=>by
    simp at hi;subst hi;have h1:=List.pairwise_cons.1 h
    show List.filter _ _=_
    rw [List.filter_cons_of_neg (by simp)];exact TK (fun y hy e=>h1.1 y hy e.symm)
  |x::L,i+1,w,h,hi=>by
    have h1:=List.pairwise_cons.1 h;have Y3:L[i]? =some w:=by simpa using hi
    have hx:x.who≠w.who:=h1.1 w (List.mem_of_getElem? Y3)
    show List.filter _ _=_
    rw [List.filter_cons_of_pos (by simpa using hx),List.eraseIdx_cons_succ]
    congr 1
    exact Dq h1.2 Y3
def yb (L:List Wt) (key:Int):Nat:=(LF L key).length
structure oD where
  w:Int
  v:BitVec 64
  h:Int
  a:Bool
deriving Inhabited
structure ou where
  l:List oD
  sl:Int
  cr:Int
  fl:BitVec 64
abbrev gP (l:List oD) (p:Nat):oD:=l.getD p default
def qz (x:ou) (p:Int):Bool:=decide (0<=p)&&decide (p<(x.l.length:Nat))
theorem LB {x:ou} {p:Nat} (h:p<x.l.length):qz x (p:Int)=true:=by unfold qz;simp;omega
theorem w9 {x:ou} {p:Int} (h:qz x p=true):∃i:Nat,p=i/\i<x.l.length:=by
  unfold qz at h;simp at h;exact⟨p.toNat,by omega,by omega⟩
def lU (ws:List Int) (s c:Int):ou:=⟨(ws.take 8).map (fun w=>⟨aF w 1 16,0#64,0,false⟩),aF s 1 32,aF c 1 32,0#64⟩
def MK (q:oD):oD:= {q with v:=qy q.v (qG q.w),h:=q.h+1}
def B8 (x:ou) (p:Nat):ou:= {x with l:=x.l.set p (MK (gP x.l p))}
def Gm (x:ou) (q:oD) (w:Int):oD:=if aF w 1 16=q.w then q else {q with w:=aF w 1 16,v:=fu q.v x.fl (qG (aF w 1 16)*BitVec.ofInt 64 x.sl)}
def cn (x:ou) (p:Nat) (w:Int):ou:= {x with l:=x.l.set p (Gm x (gP x.l p) w)}
def eW (l:List oD) (s:BitVec 64):Nat->Int
  |0=> -1
  |k+1=>if s.getLsbD k=true/\(eW l s k<0\/(gP l k).v.toNat<(gP l (eW l s k).toNat).v.toNat) then k else eW l s k
theorem wW (l:List oD) (s:BitVec 64):∀k,-1<=eW l s k/\eW l s k<(k:Nat)
  |0=>⟨Int.le_refl _,by show (-1:Int)<0;decide⟩
  |k+1=>by
    have:=wW l s k
    unfold eW;split<;>omega
theorem zf (l:List oD) (s:BitVec 64):∀k,0<=eW l s k->s.getLsbD (eW l s k).toNat=true
  |0,h=>absurd (show (0:Int)<=-1 from h) (by decide)
  |k+1,h=>by
    unfold eW at h ⊢
    split
    ·rename_i c;simpa using c.1
    ·rename_i c;rw [if_neg c] at h;exact zf l s k h
theorem wV {l:List oD} {s:BitVec 64} :∀{k},eW l s k<0->∀p,p<k->s.getLsbD p=false
  |0,_,p,hp=>absurd hp (Nat.not_lt_zero _)
  |k+1,h,p,hp=>by
    unfold eW at h
    by_cases c:s.getLsbD k=true/\(eW l s k<0\/(gP l k).v.toNat<(gP l (eW l s k).toNat).v.toNat)
    ·rw [if_pos c] at h;omega
    · rw [if_neg c] at h
      by_cases e:p=k
      · subst e
        cases hb:s.getLsbD p with
        |false=>rfl
        |true=>exact absurd ⟨hb,.inl h⟩ c
      ·exact wV h p om
def Lt (x:ou) (now:Bool) (q:oD):oD:= {q with v:=if now=true/\q.a=false then fu q.v x.fl (mY q.w x.sl x.cr) else q.v,a:=now}
def vr (x:ou) (s:BitVec 64) (k:Nat):List oD:=(List.range x.l.length).map (fun p=>if p<k then Lt x (s.getLsbD p) (gP x.l p) else gP x.l p)
theorem jc (x:ou) (s:BitVec 64) (k:Nat):(vr x s k).length=x.l.length:=by simp [vr]
theorem nH {x:ou} {p:Nat} (hp:p<x.l.length):gP (vr x s k) p=if p<k then Lt x (s.getLsbD p) (gP x.l p) else gP x.l p:=by
  unfold gP vr
  rw [List.getD_eq_getElem?_getD,List.getElem?_map,List.getElem?_range hp];rfl
theorem E9 {l l':List oD} (hl:l.length=l'.length) (h:∀p,p<l.length->gP l p=gP l' p):l=l':=by
  refine List.ext_getElem hl (fun p h1 h2=>?_);have:=h p h1
  unfold gP at this
  rw [List.getD_eq_getElem?_getD,List.getD_eq_getElem?_getD,List.getElem?_eq_getElem h1,List.getElem?_eq_getElem h2] at this;exact this
theorem AQ {l:List oD} {p q:Nat} {y:oD} (hp:p<l.length):gP (l.set p y) q=if q=p then y else gP l q:=by
  unfold gP
  rw [List.getD_eq_getElem?_getD,List.getD_eq_getElem?_getD,List.getElem?_set]
  by_cases e:q=p
  ·subst e;simp [hp]
  ·rw [if_neg (fun z=>e z.symm),if_neg e]
theorem Ol (x:ou) (s:BitVec 64):vr x s 0=x.l:=E9 (jc x s 0) (fun p hp=>by rw [jc] at hp;rw [nH hp,if_neg (Nat.not_lt_zero _)])
theorem Ei {x:ou} (hk:k<x.l.length):vr x s (k+1)=(vr x s k).set k (Lt x (s.getLsbD k) (gP x.l k)):=by
  refine E9 (by rw [List.length_set,jc,jc]) (fun p hp=>?_);rw [jc] at hp;rw [AQ (by rw [jc];exact hk),nH hp,nH hp]
  by_cases e:p=k
  ·subst e;rw [if_pos (Nat.lt_succ_self _),if_pos rfl]
  · rw [if_neg e]
    by_cases c:p<k
    ·rw [if_pos c,if_pos om]
    ·rw [if_neg c,if_neg om]
def oZ (x:ou) (s:BitVec 64):List oD:=vr x s x.l.length
def YJ (a b:BitVec 64):BitVec 64:=if a.toNat<b.toNat then b else a
def nQ (x:ou) (s:BitVec 64):ou:= {x with l:=oZ x s,fl:=if eW (oZ x s) s x.l.length<0 then x.fl else YJ x.fl (gP (oZ x s) (eW (oZ x s) s x.l.length).toNat).v}
/-! the least, gone over by members -/
theorem xg {l:List oD} {p:Nat} (hp:p<l.length):l.set p (gP l p)=l:=E9 (List.length_set ..) (fun q hq=>by
  rw [AQ hp];by_cases e:q=p
  ·rw [if_pos e,e]
  ·rw [if_neg e])
/-! those that become active, gone over by members -/
def upQ (x:ou) (q:oD):oD:=⟨q.w,fu q.v x.fl (mY q.w x.sl x.cr),q.h,q.a⟩
theorem vR (x:ou) (s:BitVec 64):(oZ x s).length=x.l.length:=jc ..
/-! the least, its V -/
def Ac (l:List oD) (s:BitVec 64) (k:Nat):BitVec 64:=if eW l s k<0 then 0#64 else (gP l (eW l s k).toNat).v
theorem HH {l:List oD} {ls:BitVec 64} {mt:Bool} (uS:ls=Ac l s k) (EV:mt=decide (0<=eW l s k)) (h:s.getLsbD k=true) (h2:mt=false\/(gP l k).v.toNat<ls.toNat):(gP l k).v=Ac l s (k+1)/\true=decide (0<=eW l s (k+1)):=by
  have e:eW l s (k+1)=(k:Nat):=by
    show (if _ then _ else _)=_
    refine if_pos ⟨h,?_⟩
    by_cases c:eW l s k<0
    ·exact .inl c
    · rcases h2 with h2|h2
      ·subst EV;simp at h2;exact .inl om
      ·rw [uS,show Ac l s k=_ from if_neg c] at h2;exact .inr h2
  rw [e];unfold Ac;rw [e,if_neg om];exact⟨rfl,(decide_eq_true om).symm⟩
theorem NF {l:List oD} {ls:BitVec 64} {mt:Bool} (uS:ls=Ac l s k) (EV:mt=decide (0<=eW l s k)) (h:s.getLsbD k=true->mt=true/\¬(gP l k).v.toNat<ls.toNat):ls=Ac l s (k+1)/\mt=decide (0<=eW l s (k+1)):=by
  have e:eW l s (k+1)=eW l s k:=by
    show (if _ then _ else _)=_
    refine if_neg (fun q=>?_);have h2:=h q.1;have c:¬eW l s k<0:=by have:=h2.1;subst EV;simp at this;omega
    rcases q.2 with q2|q2
    ·exact c q2
    ·rw [uS,show Ac l s k=_ from if_neg c] at h2;exact h2.2 q2
  unfold Ac at*;rw [e];exact⟨uS,EV⟩
theorem NU {x:ou} (hk:k<x.l.length):gP (vr x s (k+1)) k=gP (oZ x s) k:=by
  rw [nH hk,show gP (oZ x s) k=_ from nH hk,if_pos (Nat.lt_succ_self k),if_pos hk]
theorem RA {x:ou} (hk:k<x.l.length):gP (vr x s k) k=gP x.l k:=by rw [nH hk,if_neg (Nat.lt_irrefl k)]
theorem gPs {l:List oD} {p:Nat} {y:oD} (hp:p<l.length):(l.set p y).getD p default=y:=by rw [List.getD_eq_getElem?_getD,List.getElem?_set_self hp];rfl
def vP (q:oD) (v:BitVec 64):oD:=⟨q.w,v,q.h,q.a⟩
def wP (q:oD) (w:Int):oD:=⟨w,q.v,q.h,q.a⟩
def LdB (x:ou):Prop:=x.l.length<=8/\(1<=x.sl/\x.sl<=32)/\1<=x.cr/\x.cr<=32
def ptN (w:Int):oD:=⟨aF w 1 16,0#64,0,false⟩
def U4 (ws:List Int) (i:Nat):List oD:=(ws.take i).map ptN
theorem SF {ws:List Int} (h:i<=ws.length):(U4 ws i).length=i:=by unfold U4;rw [List.length_map,List.length_take];omega
theorem Nl {ws:List Int} (h:i<ws.length):U4 ws (i+1)=U4 ws i++ [ptN (ws.getD i 0)] :=by
  unfold U4;rw [bQ 0 h,List.map_append];rfl
theorem Hw {ws:List Int} (s c:Int) (h:k=min ws.length 8):U4 ws k=(lU ws s c).l:=by
  show (ws.take k).map ptN=(ws.take 8).map _
  have:ws.take k=ws.take 8:=by
    rcases Nat.le_total ws.length 8 with q|q
    ·rw [List.take_of_length_le om,List.take_of_length_le om]
    ·rw [show k=8 by omega]
  rw [this];rfl
theorem k9 (ws:List Int) (s c:Int):(lU ws s c).l.length=min ws.length 8:=by
  show ((ws.take 8).map _).length=_;rw [List.length_map,List.length_take];omega
theorem IA (ws:List Int) (s c:Int):LdB (lU ws s c):=⟨by show ((ws.take 8).map _).length<=8;rw [List.length_map,List.length_take];omega,ej (by decide),ej (by decide)⟩
structure wE where
  p:Int
  u:Int
deriving Inhabited
abbrev Wr (t:wE):Value:= .agg #[.int .i64 t.p,.int .i64 t.u]
def Bb (t:wE) (sl p:Int):Bool:=decide (0<=p)&&(decide (t.p=p)&&decide (t.u<aF sl 1 16))
def qD (t:wE) (sl:Int) (s:BitVec 64) (least:Int):wE:=if s=0#64\/(aq s t.p=true/\Bb t sl t.p=true) then t else ⟨least,0⟩
def jw (t:wE):wE:=if t.u<2147483648 then ⟨t.p,t.u+1⟩ else t
def yI (t:wE) (sl:Int):wE:=if t.u<aF sl 1 16 then ⟨t.p,aF sl 1 16⟩ else t
structure bO where
  k:Int
  a:Int
  b:Int
structure jD where
  sh:Bool
  sl:Int
  cr:Int
  rd:Int
  wr:Int
instance:Inhabited bO:=⟨⟨0,0,0⟩⟩
instance:Inhabited jD:=⟨⟨false,0,0,0,0⟩⟩
def fO (o:bO):List Value:=[.int .i64 o.k,.int .i64 o.a,.int .i64 o.b]
def fL (x:jD):List Value:=[.bool x.sh,.int .i64 x.sl,.int .i64 x.cr,.int .i64 x.rd,.int .i64 x.wr]
/-! the first that is such -/
def g9 {α:Type} (p:α->Bool) (xs:List α):Int:=if xs.any p then (xs.findIdx p:Nat) else-1
theorem dG {p:α->Bool} {xs:List α} (d:α) (h:i<xs.length):(xs.take (i+1)).any p=((xs.take i).any p||p (xs.getD i d)):=by
  rw [bQ d h,List.any_append];simp
theorem kC {p:α->Bool} {xs:List α} (d:α) (h0:(xs.take i).any p=false) (h:i<xs.length) (hp:p (xs.getD i d)=true):g9 p xs=(i:Nat):=by
  have e:=aH d h;have h1:xs.any p=true:=List.any_eq_true.2 ⟨_,List.mem_of_getElem? e,hp⟩
  have h2:xs.findIdx p=i:=by
    rw [List.findIdx_eq h];refine ⟨by rw [List.getElem?_eq_getElem h] at e;rw [Option.some.inj e];exact hp,fun j hj=>?_⟩;have h3:=List.any_eq_false.1 h0 xs[j] (by rw [List.mem_take_iff_getElem];exact⟨j,by omega,rfl⟩);simpa using h3
  unfold g9;rw [if_pos h1,h2]
theorem gg {p:α->Bool} {xs:List α} (h:xs.any p=false):g9 p xs= -1:=by
  unfold g9;rw [h];rfl
theorem pG {p:α->Bool} {xs:List α}:decide (0<=g9 p xs)=xs.any p:=by
  unfold g9
  cases xs.any p
  ·rfl
  ·simp
/-! ops -/
def cD (k:Int):Bool:=decide (2<=k)&&decide (k<=5)
def eV (k:Int):Bool:=decide (k=1)||decide (k=7)||decide (k=8)||decide (k=11)
def n3 (k:Int):Int:=if k=1 then 1 else if k=2\/k=3\/k=4\/k=6\/k=9 then 0 else if k=5 then 0 else if k=7 then 1 else if k=10 then 1 else-1
def qM (k:Int):Int:=if k=1 then 16 else if k=2\/k=3\/k=4\/k=6\/k=9 then 7 else if k=5 then 7 else if k=7 then 64 else if k=10 then 16 else-1
def yB (k:Int):Int:=if k=5 then 1 else-1
def yP (k:Int):Int:=if k=5 then 64 else-1
def hasB (lo hi n:Int):Bool:=if lo= -1 then decide (n=0) else decide (lo<=n)&&decide (n<=hi)
def vb (k:Int):Bool:=decide (1<=k)&&decide (k<=11)
def ew (o:bO):Bool:=vb o.k&&hasB (n3 o.k) (qM o.k) o.a&&hasB (yB o.k) (yP o.k) o.b
theorem I6 (k:Int): [(2:Int),3,4,5].any (fun y=>decide (k=y))=cD k:=by
  unfold cD;simp only [List.any_cons,List.any_nil,Bool.or_false]
  by_cases h:2<=k/\k<=5
  · have:k=2\/k=3\/k=4\/k=5:=by omega
    rcases this with rfl|rfl|rfl|rfl<;>rfl
  · rw [show decide (k=2)=false from decide_eq_false om,show decide (k=3)=false from decide_eq_false om,show decide (k=4)=false from decide_eq_false om,show decide (k=5)=false from decide_eq_false om]
    by_cases h2:2<=k
    ·rw [show decide (k<=5)=false from decide_eq_false om];simp
    ·rw [show decide (2<=k)=false from decide_eq_false h2];rfl
theorem Lx (k:Int): [(1:Int),7,8,11].any (fun y=>decide (k=y))=eV k:=by
  unfold eV;simp only [List.any_cons,List.any_nil,Bool.or_false,Bool.or_assoc]
/-! names -/
/-! sections: the steps to the end, and the ticks -/
def eH (lock:Int) (o:bO):Bool:=decide (o.k=11)||(decide (o.k=6)&&decide (o.a=lock))
def iA (lock:Int):List bO->Nat×Int
  | [] =>(0,0)
  |o::l=>if eH lock o then (0,0) else ((iA lock l).1+1,(if o.k=1 then o.a else 0)+(iA lock l).2)
theorem D4 {xs:List bO} (h:i<xs.length) (hs:eH lock (xs.getD i default)=false):
    iA lock (xs.drop i)=((iA lock (xs.drop (i+1))).1+1,(if (xs.getD i default).k=1 then (xs.getD i default).a else 0)+(iA lock (xs.drop (i+1))).2):=by
  have e:=aH (default:bO) h;rw [List.getElem?_eq_getElem h] at e;rw [List.drop_eq_getElem_cons h,Option.some.inj e];rw [iA,if_neg (by rw [hs];simp)]
theorem PN {xs:List bO} (h:i<xs.length) (hs:eH lock (xs.getD i default)=true):iA lock (xs.drop i)=(0,0):=by
  have e:=aH (default:bO) h;rw [List.getElem?_eq_getElem h] at e;rw [List.drop_eq_getElem_cons h,Option.some.inj e];rw [iA,if_pos hs]
theorem S6 {xs:List bO} (h:xs.length<=i):iA lock (xs.drop i)=(0,0):=by
  rw [List.drop_of_length_le h];rfl
def nj (xs:List bO):Prop:=xs.length<=20/\∀o∈xs,-1125899906842624<=o.a/\o.a<=1125899906842624
theorem nj.at {xs:List bO} (h:nj xs) (i:Nat): -1125899906842624<=(xs.getD i default).a/\(xs.getD i default).a<=1125899906842624:=by
  by_cases hi:i<xs.length
  ·exact h.2 _ (List.mem_of_getElem? (aH default hi))
  ·rw [List.getD_eq_getElem?_getD,List.getElem?_eq_none om];decide
/-! which ops fit -/
def ez (xs:List bO) (i:Nat):Nat×Int:=iA (xs.getD i default).a (xs.drop (i+1))
def dC (fv:Bool) (xs:List bO) (ls:List jD) (bV:Int) (i:Nat):Int:=
  if (cD (xs.getD i default).k||decide ((xs.getD i default).k=6))&&decide ((xs.getD i default).a >= ls.length)||decide ((xs.getD i default).k=9)&&decide ((xs.getD i default).a >= bV) then 4
  else if decide ((xs.getD i default).k=3)&& !(ls.getD (xs.getD i default).a.toNat default).sh then 1
  else if !cD (xs.getD i default).k then 0
  else if decide ((ez xs i).2<1)||decide ((ez xs i).2 > (ls.getD (xs.getD i default).a.toNat default).cr)||fv&&decide (((i+1+(ez xs i).1:Nat):Int)=xs.length) then 13 else 0
def jl (xs:List bO):Bool:=decide (0<xs.length)&&decide (xs.length<=12)&&xs.all ew
def ES (fv:Bool) (xs:List bO) (ls:List jD) (bV:Int):Int×Int:=
  if jl xs then
    match (List.range xs.length).find? (fun j=>decide (dC fv xs ls bV j≠0)) with
    |some j=>((j:Int),dC fv xs ls bV j)
    |none=>if fv&& !xs.any (fun o=>eV o.k) then (0,1) else (0,0)
  else (0,1)
theorem r6 {o:bO} (h:ew o=true):0<=o.a/\o.a<=64/\(2<=o.k/\o.k<=6\/o.k=9->o.a<=7):=by
  unfold ew vb hasB n3 qM at h
  simp only [Bool.and_eq_true,decide_eq_true_eq] at h;obtain ⟨⟨⟨h1,h2⟩,h3⟩,-⟩:=h;have:o.k=1\/o.k=2\/o.k=3\/o.k=4\/o.k=5\/o.k=6\/o.k=7\/o.k=8\/o.k=9\/o.k=10\/o.k=11:=by omega
  rcases this with hk|hk|hk|hk|hk|hk|hk|hk|hk|hk|hk<;>rw [hk] at h3 ⊢ <;>simp at h3<;>omega
theorem tL {xs:List bO} (h:jl xs=true) (hi:i<xs.length):ew (xs.getD i default)=true:=by
  unfold jl at h;simp only [Bool.and_eq_true,List.all_eq_true] at h
  exact h.2 _ (List.mem_of_getElem? (aH default hi))
theorem qc {xs:List bO} (h:jl xs=true):nj xs:=by
  have h':=h
  unfold jl at h;simp only [Bool.and_eq_true,List.all_eq_true,decide_eq_true_eq] at h
  exact⟨by omega,fun o ho=>by have:=r6 (h.2 o ho);omega⟩
theorem SB {fv:Bool} {xs:List bO} {ls:List jD} {bV:Int} (h:jl xs=false):ES fv xs ls bV=(0,1):=by unfold ES;rw [h];rfl
theorem ZV {fv:Bool} {xs:List bO} {ls:List jD} {bV:Int} (h:jl xs=true) (h0:∀j,j<i->dC fv xs ls bV j=0) (hi:i<xs.length) (hf:dC fv xs ls bV i≠0):ES fv xs ls bV=((i:Int),dC fv xs ls bV i):=by
  unfold ES
  rw [if_pos h,(List.find?_range_eq_some (i:=i)).2 ⟨by simpa using hf,List.mem_range.2 hi,fun j hj=>by simp [h0 j hj]⟩]
theorem VW {fv:Bool} {xs:List bO} {ls:List jD} {bV:Int} (h:jl xs=true) (h0:∀j,j<xs.length->dC fv xs ls bV j=0):ES fv xs ls bV=if fv&& !xs.any (fun o=>eV o.k) then (0,1) else (0,0):=by
  unfold ES
  rw [if_pos h,List.find?_range_eq_none.2 (fun j hj=>by simp [h0 j hj])]
theorem oH {g:Nat->Int} (h:∀j,j<i->g j=0) (hi:g i=0):∀j,j<i+1->g j=0:=fun j hj=>by
  rcases Nat.lt_or_ge j i with h1|h1
  ·exact h j h1
  ·rw [show j=i by omega];exact hi
/-! more ticks, more locks, more programs -/
def mx0 (c:Int):Int:=if 0 > c then 0 else c
/-! ### What is gone over -/
def nD (T:Nat->Bool) (n:Nat):List Nat:=(List.range n).filter T
def um (T:Nat->Bool) (i:Nat):Nat:=((List.range i).filter T).length
theorem yj {T:Nat->Bool}:i∈nD T n↔i<n/\T i=true:=by simp [nD]
theorem JY (T:Nat->Bool) (n i:Nat) (h:i<=n):(nD T n).take (um T i)=nD T i:=by
  have:nD T n=nD T i++((List.range' i (n-i)).filter T):=by
    unfold nD
    rw [<-List.filter_append]
    congr 1
    rw [List.range_eq_range',List.range_eq_range',show n=i+(n-i) by omega];have:=List.range'_append (s:=0) (m:=i) (n:=n-i) (step:=1);simp at this ⊢;rw [<-this]
  rw [this];exact List.take_left
theorem z4 (T:Nat->Bool) (i:Nat):nD T (i+1)=nD T i++(if T i=true then [i] else []):=by
  unfold nD;rw [List.range_succ,List.filter_append];congr 1;simp only [List.filter_cons,List.filter_nil]
theorem zi (T:Nat->Bool) (i:Nat):um T (i+1)=um T i+(if T i=true then 1 else 0):=by
  have:=congrArg List.length (z4 T i);rw [List.length_append] at this;exact this.trans (by congr 1;split<;>rfl)
theorem rO (T:Nat->Bool) (n:Nat):um T n=(nD T n).length:=rfl
theorem R1 {T:Nat->Bool} (h:i<n) (ho:T i=true):(nD T n)[um T i]? =some i:=by
  have h1:=JY T n (i+1) om
  have h3:((nD T n).take (um T (i+1)))[um T i]? =some i:=by
    rw [h1,z4,if_pos ho,rO,List.getElem?_append_right (Nat.le_refl _)];simp
  rw [List.getElem?_take] at h3
  split at h3
  ·exact h3
  ·cases h3
def JI (xs:List bO) (i:Nat):Bool:=cD (xs.getD i default).k
def xl (xs:List bO):List (Array Value):=(List.range xs.length).map (fun i=>#[.int .i64 (i:Nat),.agg (fO (xs.getD i default)).toArray])
theorem zw {xs:List bO} (h:i<xs.length):(xl xs)[i]? =some #[.int .i64 (i:Nat),.agg (fO (xs.getD i default)).toArray] :=by
  unfold xl;rw [List.getElem?_map,List.getElem?_range h];rfl
theorem zZ {xs:List bO} {a:Array Value} (h:(xl xs)[k]? =some a):k<xs.length/\a=#[.int .i64 (k:Nat),.agg (fO (xs.getD k default)).toArray] :=by
  have hk:k<xs.length:=by
    have:=(List.getElem?_eq_some_iff.1 h).1;simpa [xl] using this
  rw [zw hk] at h;exact⟨hk,(Option.some.inj h).symm⟩
theorem p6 (xs:List bO):(xl xs).length=xs.length:=by simp [xl]
def RP (xs:List bO) (i:Nat):Value:= .agg #[.int .i64 (i:Nat),.int .i64 ((i+1+(ez xs i).1:Nat)),.int .i64 (xs.getD i default).a,.int .i64 (ez xs i).2]
structure Hd where
  t:Int
  p:Int
  d:Bool
deriving Inhabited
structure bf where
  sh:Bool
  sl:Int
  ho:List Hd
  wt:List Wt
  tr:wE
  ld:ou
  di:Bool
def gE (l:List Hd) (t:Int):Nat:=l.findIdx (fun h=>decide (h.t=t))
def og (l:List Hd) (t:Int):Int:=g9 (fun h=>decide (h.t=t)) l
def bj (x:bf) (t:Int):Bool:=x.ho.any (fun h=>decide (h.t=t))
theorem p7 (x:bf) (t:Int):decide (0<=og x.ho t)=bj x t:=by
  unfold og bj g9
  cases x.ho.any (fun h=>decide (h.t=t))
  ·rfl
  ·simp
theorem qX {x:bf} (h:bj x t=true):og x.ho t=(gE x.ho t:Nat)/\gE x.ho t<x.ho.length/\(x.ho.getD (gE x.ho t) default).t=t:=by
  have h1:gE x.ho t<x.ho.length:=List.findIdx_lt_length.2 (by unfold bj at h;rw [List.any_eq_true] at h;exact h);refine ⟨if_pos h,h1,?_⟩;have:=List.findIdx_getElem (w:=h1);rw [List.getD_eq_getElem?_getD,List.getElem?_eq_getElem h1];exact of_decide_eq_true this
def bT (x:bf) (t:Int):Bool:=x.wt.any (fun w=>decide (w.who=t))
def k8 (x:bf):Bool:=x.sh&&(decide (0<x.ho.length)&&decide ((x.ho.getD 0 default).p=0))
def ij (x:bf) (p:Int):Bool:=qz x.ld p&&(decide (x.ho.length=0)||(decide (p=0)&&(k8 x&&(decide (yb x.wt 1=0)||Bb x.tr x.sl 0))))
def kv (l:List Int):BitVec 64:=l.foldl bL 0#64
def ik (x:bf):BitVec 64:=kv (x.wt.map (·.key))
def JG (x:bf):BitVec 64:=kv (x.wt.map (·.key)++x.ho.map (·.p))
def cN (x:bf):bf:= {x with ld:=nQ x.ld (JG x)}
def nX (x:bf) (t p:Int):bf:= {x with ho:=x.ho++ [⟨t,p,x.di⟩],di:=false}
def BQ (L:List Wt) (os:List Int):List Wt:=os.foldl ET L
def c8 (x:bf) (p:Int) (n:Nat):List Int:=((LF x.wt p).take n).map (·.who)
def l9 (x:bf) (p:Int) (n:Nat):bf:=(c8 x p n).foldl (fun x t=>nX x t p) {x with wt:=BQ x.wt (c8 x p n)}
def dK (x:bf):bf:= {x with tr:=qD x.tr x.sl (ik x) (eW x.ld.l (ik x) x.ld.l.length)}
def nT (x:bf):Nat:=if x.sh=true/\(dK x).tr.p=0 then 8 else 1
def jH (x:bf):List Int:=if x.wt.length=0 then [] else c8 x (dK x).tr.p (nT x)
def kO (x:bf):bf:=if x.wt.length=0 then x else l9 (dK x) (dK x).tr.p (nT x)
def cK (x:bf) (t p:Int):Int:=if qz x.ld p=false\/t<0 then 1 else if bj x t=true then 9 else if bT x t=true then 12 else 0
def cV (x:bf) (t p:Int):Int:=if cK x t p≠0 then cK x t p else if ij x p=true then 0 else 8
def bS (x:bf) (p:Int):bf:=if x.ho.length=0/\Bb x.tr x.sl p=false then {x with tr:=⟨p,0⟩} else x
def cf (x:bf) (t p:Int):bf:=if cV x t p≠0 then x else cN (nX (bS x p) t p)
def jF (x:bf) (t p:Int):Int:=if cK x t p≠0 then cK x t p else if ij x p=true then 4 else if 8<=x.wt.length then 3 else 0
def du (x:bf) (t p:Int):bf:=if jF x t p≠0 then x else cN {x with wt:=x.wt++ [⟨t,p,0#64⟩] }
def fY (x:bf) (t:Int):bf:= {x with ho:=x.ho.eraseIdx (gE x.ho t)}
def kb (x:bf) (t:Int):Int:=if bj x t=true then 0 else 7
def dI (x:bf) (t:Int):List Int:=if bj x t=true/\(fY x t).ho.length=0 then jH (fY x t) else []
def dP (x:bf) (t:Int):bf:=if bj x t=true then cN (if (fY x t).ho.length=0 then kO (fY x t) else fY x t) else x
def da (x:bf) (t:Int):bf:= {x with wt:=ET x.wt t}
def oc (x:bf) (t:Int):List Int:=if bT x t=true/\k8 x=true/\yb (da x t).wt 1=0 then c8 (da x t) 0 8 else []
def fR (x:bf) (t:Int):bf:=if bT x t=true then cN (if k8 x=true/\yb (da x t).wt 1=0 then l9 (da x t) 0 8 else da x t) else x
def Vu (x:bf) (t:Int):Bool:=bT x t||bj x t
def v9 (x:bf) (t:Int):List Int:=if bT x t=true then oc x t else dI {x with di:=true} t
def tx (x:bf) (t:Int):bf:=if bT x t=true then fR x t else if bj x t=true then dP {x with di:=true} t else x
def jt (x:bf) (t:Int):bf:=if bj x t=true then cN {x with ld:=B8 x.ld (x.ho.getD (gE x.ho t) default).p.toNat,tr:=jw x.tr} else x
def yY (x:bf) (g:Int):Bool:= !x.sh&&qz x.ld g
def iU (x:bf) (g wt:Int):bf:=if yY x g=true then cN {x with ld:=cn x.ld g.toNat wt,tr:=if x.tr.p=g/\(gP (cn x.ld g.toNat wt).l g.toNat).w≠(gP x.ld.l g.toNat).w then yI x.tr x.sl else x.tr} else x
def Ah (x:bf) (g:Int) (r:Bool):Int:=if x.sh=true then (if r=true then 0 else 1) else if r=true\/qz x.ld g=false then-1 else g
/-! the first of a key, taken one after another -/
theorem Sc {x:Wt} {l:List Wt} (h:yE (x::l)):ET (x::l) x.who=l:=by
  show List.filter _ _=_
  rw [List.filter_cons_of_neg (by simp)];exact TK (fun y hy e=>(List.pairwise_cons.1 h).1 y hy e.symm)
theorem D6 (s:BitVec 64) (i:Int):bL s i=s|||pg i:=rfl
theorem BJ:∀(l:List Int) (s:BitVec 64),l.foldl bL s=s|||kv l
  | [],s=>by show s=s|||0#64;simp
  |i::l,s=>by
    unfold kv
    rw [List.foldl_cons,List.foldl_cons,BJ l,BJ l (bL 0#64 i),D6,D6];rw [BitVec.zero_or,BitVec.or_assoc]
theorem D8 (a b:List Int):kv (a++b)=kv a|||kv b:=by
  show (a++b).foldl bL 0#64=_;rw [List.foldl_append];exact BJ b _
theorem II (a b:List Int):kv (a++b)=kv (b++a):=by rw [D8,D8,BitVec.or_comm]
def uY (h:Hd):List Value:=[.int .i64 h.t,.int .i64 h.p,.bool h.d]
theorem zV (l:List Int) (i:Int):kv (l++ [i])=bL (kv l) i:=by unfold kv;rw [List.foldl_append];rfl
theorem iY {f:α->Int} {l:List α} (d:α) (h:i<l.length):(l.take (i+1)).map f=(l.take i).map f++ [f (l.getD i d)] :=by rw [bQ d h,List.map_append];rfl
theorem xc (x:bf) (p:Int):(bS x p).wt=x.wt:=by unfold bS;split<;>rfl
theorem pL {L:List Wt}:∀{os:List Int} {w:Wt},w∈BQ L os↔w∈L/\w.who ∉ os:=by
  intro os
  unfold BQ
  induction os generalizing L with
  |nil=>intro w;simp
  |cons t os ih=>intro w;rw [List.foldl_cons,ih,rq];simp only [List.mem_cons,not_or];exact⟨fun ⟨⟨a,b⟩,c⟩=>⟨a,b,c⟩,fun ⟨a,b,c⟩=>⟨⟨a,b⟩,c⟩⟩
theorem DQ {p:Int} :∀(os:List Int) (x:bf),(os.foldl (fun x t=>nX x t p) x).wt=x.wt
  | [],x=>rfl
  |t::os,x=>by rw [List.foldl_cons,DQ os];rfl
theorem Sa (x:bf) (p:Int) (n:Nat):(l9 x p n).wt=BQ x.wt (c8 x p n):=DQ _ _
theorem Td {x:bf} (h:bj x t=true) (h0:(fY x t).ho.length=0):dI x t=jH (fY x t):=if_pos ⟨h,h0⟩
theorem U7 {x:bf} (h0:¬(fY x t).ho.length=0):dI x t=[] :=if_neg (fun q=>h0 q.2)
theorem PH {x:bf} (h:bj x t=true):(fY x t).ho.length=x.ho.length-1:=by
  show (x.ho.eraseIdx _).length=_;rw [List.length_eraseIdx,if_pos (qX h).2.1]
theorem acb {x:bf} (h:bT x t=false):oc x t=[]/\fR x t=x:=⟨if_neg (fun q=>by rw [h] at q;cases q.1),if_neg (by rw [h];simp)⟩
theorem ack {x:bf} (h:bT x t=true) (h2:k8 x=true/\yb (da x t).wt 1=0):oc x t=c8 (da x t) 0 8/\fR x t=cN (l9 (da x t) 0 8):=⟨if_pos ⟨h,h2⟩,by unfold fR;rw [if_pos h,if_pos h2]⟩
theorem V6 {x:bf} (h:bT x t=true) (h2:¬(k8 x=true/\yb (da x t).wt 1=0)):oc x t=[]/\fR x t=cN (da x t):=⟨if_neg (fun q=>h2 q.2),by unfold fR;rw [if_pos h,if_neg h2]⟩
theorem SM {x:bf} (h:bj x t=true):jt x t=cN {x with ld:=B8 x.ld (x.ho.getD (gE x.ho t) default).p.toNat,tr:=jw x.tr} :=if_pos h
theorem L4 {x:bf} (h:bj x t=false):jt x t=x:=if_neg (by rw [h];simp)
theorem R9 {x:bf} (h:bj x t=true):x.ho.getD (gE x.ho t) default∈x.ho:=by
  rw [List.getD_eq_getElem?_getD,List.getElem?_eq_getElem (qX h).2.1];exact List.getElem_mem _
theorem P6 {x:bf} {g wt:Int} (h:yY x g=false):iU x g wt=x:=if_neg (by rw [h];simp)
theorem HM {x:bf} {g:Nat} {wt:Int} (h:yY x g=true):iU x g wt=cN {x with ld:=cn x.ld g wt,tr:=if x.tr.p=(g:Int)/\(gP (cn x.ld g wt).l g).w≠(gP x.ld.l g).w then yI x.tr x.sl else x.tr} :=if_pos h
structure Qy where
  sh:Bool
  sl:Int
  cr:Int
  rd:Int
  wr:Int
deriving Inhabited
abbrev WA (d:Qy):List Value:=[.bool d.sh,.int .i64 d.sl,.int .i64 d.cr,.int .i64 d.rd,.int .i64 d.wr]
def TG (gs:List Int):List Int:=if (gs.take 4).length=0 then [1] else gs.take 4
def tQ (d:Qy) (gs:List Int):List Int:=if d.sh=true then [d.rd,d.wr] else TG gs
def oU (d:Qy) (gs:List Int):bf:=⟨d.sh,aF d.sl 1 16,[],[],⟨-1,0⟩,lU (tQ d gs) (aF d.sl 1 16) d.cr,false⟩
theorem MV (d:Qy) (gs:List Int):0<(tQ d gs).length/\(tQ d gs).length<=4:=by
  unfold tQ TG
  split
  ·exact⟨Nat.succ_pos _,by simp⟩
  · split
    ·exact⟨Nat.succ_pos _,by simp⟩
    ·rw [List.length_take] at*;omega
def RdS (ws:List Int) (ad:Option Addr) (n cap:Nat) (m:ab) (w:World):Prop:=n=ws.length/\∀w',Mem w' m->Ext w w'->Sr fI 1 ws (.slice ad n cap) w'
def rM (p:Int):Nat->List Wt->List Wt
  |_,[] =>[]
  |n,w::l=>if w.key=p/\0<n then rM p (n-1) l else w::rM p n l
theorem uj (p:Int):∀l,rM p 0 l=l
  | [] =>rfl
  |w::l=>by
    show (if w.key=p/\0<0 then _ else w::rM p 0 l)=_
    rw [if_neg (fun q=>absurd q.2 (Nat.lt_irrefl 0)),uj p l]
theorem OJ {w:Wt} {L:List Wt}:∀{os:List Int},w.who ∉ os->BQ (w::L) os=w::BQ L os:=by
  intro os
  unfold BQ
  induction os generalizing L with
  |nil=>intro _;rfl
  |cons t os ih=>
    intro h;rw [List.foldl_cons,List.foldl_cons]
    have e:ET (w::L) t=w::ET L t:=by
      unfold ET;rw [List.filter_cons_of_pos (by simpa using fun q=>h (by rw [q];exact List.mem_cons_self ..))]
    rw [e];exact ih (fun q=>h (List.mem_cons_of_mem _ q))
theorem py {w:Wt} {l:List Wt} {p:Int} (h:w.key=p):LF (w::l) p=w::LF l p:=by
  unfold LF;rw [List.filter_cons_of_pos (by simpa using h)]
theorem oN {w:Wt} {l:List Wt} {p:Int} (h:w.key≠p):LF (w::l) p=LF l p:=by
  unfold LF;rw [List.filter_cons_of_neg (by simpa using h)]
theorem vQ (p:Int):∀(L:List Wt) (n:Nat),yE L->rM p n L=BQ L (((LF L p).take n).map (·.who))
  | [],n,_=>by
    show [] =BQ [] _
    have:LF [] p=[] :=rfl;rw [this,List.take_nil];rfl
  |w::l,n,h=>by
    show (if w.key=p/\0<n then rM p (n-1) l else w::rM p n l)=_
    have hl:=(List.pairwise_cons.1 h).2;have hw:=(List.pairwise_cons.1 h).1
    by_cases c:w.key=p
    · by_cases c2:0<n
      · rw [if_pos ⟨c,c2⟩,py c,vQ p l _ hl]
        obtain ⟨m,rfl⟩:∃m,n=m+1:=⟨n-1,by omega⟩
        rw [Nat.add_sub_cancel,List.take_succ_cons,List.map_cons]
        show _=BQ (ET (w::l) w.who) _
        rw [Sc h]
      ·rw [if_neg (fun q=>c2 q.2),show n=0 by omega,uj,List.take_zero];rfl
    · rw [if_neg (fun q=>c q.1),oN c,vQ p l _ hl,OJ]
      intro q;obtain ⟨z,hz,e⟩:=List.mem_map.1 q;exact hw z (xR.1 (List.mem_of_mem_take hz)).1 e.symm
theorem zH {p:Int} {w:Wt} {l:List Wt} (h:w.key≠p\/n=0):rM p n (w::l)=w::rM p n l:=if_neg (fun q=>by rcases h with h|h;exact h q.1;omega)
theorem CK {p:Int} {w:Wt} {l:List Wt} (h:w.key=p) (hn:0<n):rM p n (w::l)=rM p (n-1) l:=if_pos ⟨h,hn⟩
theorem zD:∀(l:List Int) (s:BitVec 64) (q:Nat),(l.foldl bL s).getLsbD q=(s.getLsbD q||(decide (q<64)&&l.any (fun k=>decide (k=(q:Int)))))
  | [],s,q=>by simp
  |k::l,s,q=>by
    rw [List.foldl_cons,zD l,List.any_cons]
    show ((s|||pg k).getLsbD q||_)=_
    rw [BitVec.getLsbD_or,pA]
    by_cases e:k=(q:Int)
    ·subst e;by_cases c:q<64<;>simp [c]
    · have:¬(q:Int)=k:=fun z=>e z.symm
      by_cases c:q<64<;>simp [c,e,this]
theorem x4 (l:List Int) (q:Nat):(kv l).getLsbD q=(decide (q<64)&&l.any (fun k=>decide (k=(q:Int)))):=by
  unfold kv;rw [zD];simp
theorem Dr (l:List Int) (q:Int) (h:0<=q/\q<64):aq (kv l) q=l.any (fun k=>decide (k=q)):=by
  unfold aq;rw [x4]
  have e:((q.toNat:Nat):Int)=q:=by omega
  rw [e];simp [h.1,h.2]
theorem JE {l:List Int} (h:∀k∈l,0<=k/\k<64):kv l=0#64↔l.length=0:=by
  constructor
  · intro e
    cases l with
    |nil=>rfl
    |cons k l=>
      have hk:=h k (List.mem_cons_self ..);have:=Dr (k::l) k hk;rw [e,bC] at this;simp at this
  ·intro e;rw [List.eq_nil_of_length_eq_zero e];rfl
theorem RR {x:ou} {p:Int} (h:qz x p=true) (hl:x.l.length<=8):0<=p/\p<64:=by
  obtain ⟨i,rfl,hi⟩:=w9 h;omega
def CY (p:Int) (d:Bool):List Int->List Hd
  | [] =>[]
  |t::os=>⟨t,p,d⟩::os.map (fun t=>⟨t,p,false⟩)
theorem abO (p:Int):∀os,CY p false os=os.map (fun t=>(⟨t,p,false⟩:Hd))
  | [] =>rfl
  |t::os=>rfl
theorem mB (p:Int):∀(os:List Int) (x:bf),os.foldl (fun x t=>nX x t p) x= {x with ho:=x.ho++CY p x.di os,di:=x.di&&os.isEmpty}
  | [],x=>by simp [CY]
  |t::os,x=>by
    rw [List.foldl_cons,mB p os]
    show ({x with ho:=(x.ho++ [⟨t,p,x.di⟩])++CY p false os,di:=false&&os.isEmpty} :bf)= {x with ho:=x.ho++(⟨t,p,x.di⟩::os.map (fun t=>⟨t,p,false⟩)),di:=x.di&&false}
    rw [abO,List.append_assoc,Bool.false_and,Bool.and_false];rfl
theorem sX (p:Int) (d:Bool):∀os,(CY p d os).length=os.length
  | [] =>rfl
  |t::os=>by simp [CY]
theorem Cu (p:Int) (d:Bool):∀os,(CY p d os).map (·.t)=os
  | [] =>rfl
  |t::os=>by simp [CY,Function.comp_def]
theorem Qc {p:Int} {d:Bool}:∀{os:List Int} {h:Hd},h∈CY p d os->h.p=p
  | [],h,q=>by cases q
  |t::os,h,q=>by
    rcases List.mem_cons.1 q with rfl|q
    ·rfl
    ·obtain ⟨t',_,rfl⟩:=List.mem_map.1 q;rfl
theorem fG (x:bf) (p:Int) (n:Nat):l9 x p n= {x with wt:=BQ x.wt (c8 x p n),ho:=x.ho++CY p x.di (c8 x p n),di:=x.di&&(c8 x p n).isEmpty} :=mB p _ _
structure qH (x:bf):Prop where
  wd:yE x.wt
  w8:x.wt.length<=8
  hd:(x.ho.map (·.t)).Nodup
  dj:∀w∈x.wt,∀h∈x.ho,w.who≠h.t
  wk:∀w∈x.wt,qz x.ld w.key=true
  hk:∀h∈x.ho,qz x.ld h.p=true
  wz:∀w∈x.wt,w.til=0#64
  ex:x.sh=false->x.ho.length<=1
  rd:x.sh=true->(∀h∈x.ho,h.p=0)\/x.ho.length<=1
  l2:x.sh=true->x.ld.l.length=2
  l8:x.ld.l.length<=8
structure lZ (x:bf):Prop extends qH x where
  em:x.ho.length=0->x.wt.length=0
theorem qH.core {x y:bf} (h:qH x) (e1:y.sh=x.sh) (e2:y.ho=x.ho) (e3:y.wt=x.wt) (e4:y.ld.l.length=x.ld.l.length):qH y:=by
  have hi:∀p,qz y.ld p=qz x.ld p:=fun p=>by unfold qz;rw [e4]
  refine ⟨?_,?_,?_,?_,?_,?_,?_,?_,?_,?_,?_⟩
  ·rw [e3];exact h.wd
  ·rw [e3];exact h.w8
  ·rw [e2];exact h.hd
  ·rw [e2,e3];exact h.dj
  ·rw [e3];exact fun w hw=>by rw [hi];exact h.wk w hw
  ·rw [e2];exact fun w hw=>by rw [hi];exact h.hk w hw
  ·rw [e3];exact h.wz
  ·rw [e1,e2];exact h.ex
  ·rw [e1,e2];exact h.rd
  ·rw [e1,e4];exact h.l2
  ·rw [e4];exact h.l8
theorem lZ.core {x y:bf} (h:lZ x) (e1:y.sh=x.sh) (e2:y.ho=x.ho) (e3:y.wt=x.wt) (e4:y.ld.l.length=x.ld.l.length):lZ y:=
  ⟨h.toqH.core e1 e2 e3 e4,by rw [e2,e3];exact h.em⟩
theorem iQ (x:ou) (s:BitVec 64):(nQ x s).l.length=x.l.length:=vR x s
theorem lZ.settle {x:bf} (h:lZ x):lZ (cN x):=h.core rfl rfl rfl (iQ _ _)
theorem qH.W6 {x:bf} (h:qH x):ik x=0#64↔x.wt.length=0:=by
  unfold ik
  rw [JE (fun k hk=>by obtain ⟨w,hw,rfl⟩:=List.mem_map.1 hk;exact RR (h.wk w hw) h.l8),List.length_map]
theorem rG {x:bf} {p:Int} (h:t∈c8 x p n):∃w∈x.wt,w.who=t/\w.key=p:=by
  unfold c8 at h
  obtain ⟨w,hw,rfl⟩:=List.mem_map.1 h;have:=xR.1 (List.mem_of_mem_take hw);exact⟨w,this.1,rfl,this.2⟩
theorem GJ {x:bf} (h:yE x.wt) (p:Int) (n:Nat):(c8 x p n).Nodup:=by
  unfold c8
  have h1:((LF x.wt p).take n).Pairwise (fun a b=>a.who≠b.who):=List.Pairwise.sublist (List.take_sublist _ _) (ade h p);exact List.pairwise_map.2 h1
theorem U3 {L:List Wt}:∀{os:List Int},yE L->yE (BQ L os):=by
  intro os
  unfold BQ
  induction os generalizing L with
  |nil=>exact id
  |cons t os ih=>intro h;rw [List.foldl_cons];exact ih (PE h t)
theorem Xs {L:List Wt}:∀{os:List Int},(BQ L os).length<=L.length:=by
  intro os
  unfold BQ
  induction os generalizing L with
  |nil=>exact Nat.le_refl _
  |cons t os ih=>rw [List.foldl_cons];exact Nat.le_trans ih (List.length_filter_le _ _)
theorem qH.MB {x:bf} (h:qH x) (p:Int) (n:Nat) (hc:(x.ho.length=0/\(n=1\/(x.sh=true/\p=0)))\/(x.sh=true/\p=0/\∀h∈x.ho,h.p=0)):qH (l9 x p n):=by
  rw [fG];have hm:∀t∈c8 x p n,∃w∈x.wt,w.who=t/\w.key=p:=fun t ht=>rG ht;refine ⟨U3 h.wd,Nat.le_trans Xs h.w8,?_,?_,fun w hw=>h.wk w (pL.1 hw).1,?_,fun w hw=>h.wz w (pL.1 hw).1,?_,?_,h.l2,h.l8⟩
  · show ((x.ho++CY p x.di (c8 x p n)).map (·.t)).Nodup
    rw [List.map_append,Cu,List.nodup_append];refine ⟨h.hd,GJ h.wd p n,fun a ha b hb e=>?_⟩;obtain ⟨g,hg,rfl⟩:=List.mem_map.1 ha;obtain ⟨w,hw,e2,_⟩:=hm b hb;exact h.dj w hw g hg (e2.trans e.symm)
  · intro w hw g hg
    have hw2:=pL.1 hw;rcases List.mem_append.1 hg with hg|hg
    ·exact h.dj w hw2.1 g hg
    · intro e
      refine hw2.2 ?_;have:g.t∈(CY p x.di (c8 x p n)).map (·.t):=List.mem_map.2 ⟨g,hg,rfl⟩;rw [Cu] at this;rw [e];exact this
  · intro g hg
    rcases List.mem_append.1 hg with hg|hg
    ·exact h.hk g hg
    · have hp:=Qc hg
      have:g.t∈(CY p x.di (c8 x p n)).map (·.t):=List.mem_map.2 ⟨g,hg,rfl⟩;rw [Cu] at this;obtain ⟨w,hw,_,e⟩:=hm _ this
      show qz x.ld g.p=true
      rw [hp,<-e];exact h.wk w hw
  · intro hs
    show (x.ho++_).length<=1
    rw [List.length_append,sX];rcases hc with ⟨h0,hn⟩|⟨q,_⟩
    · rcases hn with rfl|⟨q,_⟩
      · have:(c8 x p 1).length<=1:=by unfold c8;rw [List.length_map,List.length_take];omega
        omega
      ·rw [hs] at q;cases q
    ·rw [hs] at q;cases q
  · intro hs
    show (∀g∈x.ho++CY p x.di (c8 x p n),g.p=0)\/(x.ho++CY p x.di (c8 x p n)).length<=1
    rcases hc with ⟨h0,hn⟩|⟨_,hp,hh⟩
    · have e0:=List.eq_nil_of_length_eq_zero h0
      rcases hn with rfl|⟨_,hp⟩
      · right
        have:(c8 x p 1).length<=1:=by unfold c8;rw [List.length_map,List.length_take];omega
        rw [List.length_append,sX];omega
      · left
        intro g hg;rw [e0,List.nil_append] at hg;exact(Qc hg).trans hp
    · left
      intro g hg;rcases List.mem_append.1 hg with hg|hg
      ·exact hh g hg
      ·exact(Qc hg).trans hp
theorem LH {x:bf} (h:qH x) (hw:¬x.wt.length=0):∃w∈x.wt,w.key=(dK x).tr.p:=by
  have hs:ik x≠0#64:=fun q=>hw (h.W6.1 q)
  have key:aq (ik x) (dK x).tr.p=true:=by
    show aq (ik x) (qD x.tr x.sl (ik x) (eW x.ld.l (ik x) x.ld.l.length)).p=true
    unfold qD
    split
    · rename_i c
      rcases c with c|c
      ·exact absurd c hs
      ·exact c.1
    · show aq (ik x) (eW x.ld.l (ik x) x.ld.l.length)=true
      have hle:=wW x.ld.l (ik x) x.ld.l.length
      have h0:0<=eW x.ld.l (ik x) x.ld.l.length:=by
        apply Classical.byContradiction;intro q
        have gK:=wV (l:=x.ld.l) (s:=ik x) (k:=x.ld.l.length) om;cases hx:x.wt with
        |nil=>rw [hx] at hw;exact hw rfl
        |cons w l=>
          have Q1:=h.wk w (by rw [hx];exact List.mem_cons_self ..);obtain ⟨i,hi,eA⟩:=w9 Q1;have:=gK i eA;rw [show ik x=kv (x.wt.map (·.key)) from rfl,x4,hx] at this;have h8:=h.l8;rw [decide_eq_true om,List.map_cons,List.any_cons,hi] at this;simp at this
      have hb:=zf x.ld.l (ik x) x.ld.l.length h0;have h8:=h.l8
      unfold aq;rw [decide_eq_true h0,decide_eq_true om,hb];rfl
  have hr:=gk key;rw [show ik x=kv (x.wt.map (·.key)) from rfl,Dr _ _ hr,List.any_eq_true] at key;obtain ⟨k,hk,e⟩:=key;obtain ⟨w,hw,rfl⟩:=List.mem_map.1 hk;exact⟨w,hw,of_decide_eq_true e⟩
theorem Nh {x:bf} {p:Int} (hn:0<n) (h:∃w∈x.wt,w.key=p):0<(c8 x p n).length:=by
  obtain ⟨w,hw,e⟩:=h;have:w∈LF x.wt p:=xR.2 ⟨hw,e⟩;have h1:=List.length_pos_of_mem this
  unfold c8;rw [List.length_map,List.length_take];omega
theorem JB (x:bf):0<nT x:=by unfold nT;split<;>decide
theorem qH.pass {x:bf} (h:qH x) (h0:x.ho.length=0):lZ (kO x):=by
  unfold kO
  split
  ·rename_i hw;exact⟨h,fun _=>hw⟩
  · rename_i hw
    have hv:qH (dK x):=h.core rfl rfl rfl rfl;have hk:=LH h hw;have aiE:0<(c8 (dK x) (dK x).tr.p (nT x)).length:=Nh (JB x) hk;refine ⟨hv.MB _ _ (.inl ⟨h0,?_⟩),fun q=>?_⟩
    · unfold nT;split
      ·rename_i c;exact .inr c
      ·exact .inl rfl
    · rw [fG] at q
      have q2:(x.ho++CY (dK x).tr.p x.di (c8 (dK x) (dK x).tr.p (nT x))).length=0:=q;rw [List.length_append,sX] at q2;omega
theorem oX {x:bf} {p:Int} (h:cK x t p=0):qz x.ld p=true/\0<=t/\bj x t=false/\bT x t=false:=by
  unfold cK at h
  by_cases c1:qz x.ld p=false\/t<0
  ·rw [if_pos c1] at h;cases h
  · rw [if_neg c1] at h
    by_cases c2:bj x t=true
    ·rw [if_pos c2] at h;cases h
    · rw [if_neg c2] at h
      by_cases c3:bT x t=true
      ·rw [if_pos c3] at h;cases h
      ·exact⟨by simpa using fun q=>c1 (.inl q),by omega,by simpa using c2,by simpa using c3⟩
theorem rU {x:bf} (h:bj x t=false):∀g∈x.ho,g.t≠t:=fun g hg e=>by
  unfold bj at h;rw [List.any_eq_false] at h;exact h g hg (decide_eq_true e)
theorem CQ {x:bf} (h:bT x t=false):∀w∈x.wt,w.who≠t:=fun g hg e=>by
  unfold bT at h;rw [List.any_eq_false] at h;exact h g hg (decide_eq_true e)
theorem FQ {x:bf} {p:Int} (h:qH x) (hf:ij x p=true):qz x.ld p=true/\(x.ho.length=0\/(p=0/\x.sh=true/\0<x.ho.length/\∀g∈x.ho,g.p=0)):=by
  unfold ij k8 at hf
  simp only [Bool.and_eq_true,Bool.or_eq_true,decide_eq_true_eq] at hf;refine ⟨hf.1,?_⟩;rcases hf.2 with q|⟨q1,⟨q2,q3,q4⟩,_⟩
  ·exact .inl q
  · refine .inr ⟨q1,q2,q3,fun g hg=>?_⟩
    rcases h.rd q2 with r|r
    ·exact r g hg
    · cases hx:x.ho with
      |nil=>rw [hx] at hg;cases hg
      |cons a l=>
        rw [hx] at r q4 hg;have:l=[] :=List.eq_nil_of_length_eq_zero (by simp at r;simp [r]);subst this;rcases List.mem_singleton.1 hg with rfl
        exact q4
theorem eL (x:bf) (p:Int):(bS x p).sh=x.sh/\(bS x p).ho=x.ho/\(bS x p).wt=x.wt/\(bS x p).ld=x.ld/\(bS x p).sl=x.sl/\(bS x p).di=x.di:=by
  unfold bS;split<;>exact⟨rfl,rfl,rfl,rfl,rfl,rfl⟩
theorem lZ.take {x:bf} (h:lZ x) (t p:Int):lZ (cf x t p):=by
  unfold cf
  split
  ·exact h
  · rename_i hE
    have EM:cV x t p=0:=by simpa using hE
    unfold cV at EM
    by_cases c:cK x t p≠0
    ·rw [if_pos c] at EM;exact absurd EM c
    · rw [if_neg c] at EM
      have hc:=oX (by simpa using c)
      by_cases hf:ij x p=true
      · obtain ⟨_,hh⟩:=FQ h.toqH hf
        have hv:=h.toqH;obtain ⟨e1,e2,e3,e4,e5,e6⟩:=eL x p;refine lZ.settle ⟨?_,fun q=>?_⟩
        · have gK:=rU hc.2.2.1
          have EW:=CQ hc.2.2.2
          have key:qH {x with ho:=x.ho++ [(⟨t,p,x.di⟩:Hd)] } :=by
            refine ⟨hv.wd,hv.w8,?_,?_,hv.wk,?_,hv.wz,?_,?_,hv.l2,hv.l8⟩
            · show ((x.ho++ [(⟨t,p,x.di⟩:Hd)]).map (·.t)).Nodup
              rw [List.map_append,List.nodup_append];refine ⟨hv.hd,by simp,fun a ha b hb e=>?_⟩;obtain ⟨g,hg,rfl⟩:=List.mem_map.1 ha;simp only [List.map_cons,List.map_nil,List.mem_singleton] at hb;exact gK g hg (e.trans hb)
            · intro w hw g hg
              rcases List.mem_append.1 hg with hg|hg
              ·exact hv.dj w hw g hg
              ·rw [List.mem_singleton.1 hg];exact EW w hw
            · intro g hg
              rcases List.mem_append.1 hg with hg|hg
              ·exact hv.hk g hg
              ·rw [List.mem_singleton.1 hg];exact hc.1
            · intro hs
              show (x.ho++ [_]).length<=1
              rw [List.length_append];rcases hh with q|⟨_,q,_⟩
              ·simp [q]
              ·rw [hs] at q;cases q
            · intro hs
              show (∀g∈x.ho++ [(⟨t,p,x.di⟩:Hd)],g.p=0)\/(x.ho++ [(⟨t,p,x.di⟩:Hd)]).length<=1
              rcases hh with q|⟨q1,_,_,q2⟩
              ·right;rw [List.length_append,q];simp
              · left;intro g hg
                rcases List.mem_append.1 hg with hg|hg
                ·exact q2 g hg
                ·rw [List.mem_singleton.1 hg];exact q1
          exact key.core (by show (bS x p).sh=_;rw [e1]) (by show (bS x p).ho++ [⟨t,p,(bS x p).di⟩] =_;rw [e2,e6]) (by show (bS x p).wt=_;rw [e3]) (by show (bS x p).ld.l.length=_;rw [e4])
        · exfalso
          have:((bS x p).ho++ [(⟨t,p,(bS x p).di⟩:Hd)]).length=0:=q;rw [List.length_append] at this;simp at this
      ·rw [if_neg hf] at EM;cases EM
theorem lZ.wait {x:bf} (h:lZ x) (t p:Int):lZ (du x t p):=by
  unfold du
  split
  ·exact h
  · rename_i hE
    have EM:jF x t p=0:=by simpa using hE
    unfold jF at EM
    by_cases c:cK x t p≠0
    ·rw [if_pos c] at EM;exact absurd EM c
    · rw [if_neg c] at EM
      have hc:=oX (by simpa using c)
      by_cases hf:ij x p=true
      ·rw [if_pos hf] at EM;cases EM
      · rw [if_neg hf] at EM
        by_cases h8:8<=x.wt.length
        ·rw [if_pos h8] at EM;cases EM
        · have hv:=h.toqH
          have gK:=rU hc.2.2.1;have EW:=CQ hc.2.2.2;refine lZ.settle ⟨⟨Rt hv.wd EW,by show (x.wt++ [_]).length<=8;rw [List.length_append];simp;omega,hv.hd,?_,?_,hv.hk,?_,hv.ex,hv.rd,hv.l2,hv.l8⟩,fun q=>?_⟩
          · intro w hw g hg
            rcases List.mem_append.1 hw with hw|hw
            ·exact hv.dj w hw g hg
            ·rw [List.mem_singleton.1 hw];exact fun e=>gK g hg e.symm
          · intro w hw
            rcases List.mem_append.1 hw with hw|hw
            ·exact hv.wk w hw
            ·rw [List.mem_singleton.1 hw];exact hc.1
          · intro w hw
            rcases List.mem_append.1 hw with hw|hw
            ·exact hv.wz w hw
            ·rw [List.mem_singleton.1 hw]
          · exfalso;apply hf
            unfold ij
            rw [hc.1,decide_eq_true (show x.ho.length=0 from q)];rfl
theorem qH.out {x:bf} (h:qH x) (t:Int):qH (fY x t):=by
  have iG:∀g∈(fY x t).ho,g∈x.ho:=fun g hg=>List.mem_of_mem_eraseIdx hg;have hlen:(fY x t).ho.length<=x.ho.length:=List.Sublist.length_le (List.eraseIdx_sublist _ _);refine ⟨h.wd,h.w8,?_,fun w hw g hg=>h.dj w hw g (iG g hg),h.wk,fun g hg=>h.hk g (iG g hg),h.wz,fun hs=>Nat.le_trans hlen (h.ex hs),fun hs=>?_,h.l2,h.l8⟩
  ·exact List.Nodup.sublist (List.Sublist.map _ (List.eraseIdx_sublist _ _)) h.hd
  · rcases h.rd hs with q|q
    ·exact .inl (fun g hg=>q g (iG g hg))
    ·exact .inr (Nat.le_trans hlen q)
theorem lZ.yF {x:bf} (h:qH x) (t:Int) (he:x.ho.length=0->x.wt.length=0):lZ (dP x t):=by
  unfold dP
  split
  · refine lZ.settle ?_
    split
    ·rename_i h0;exact(h.out t).pass h0
    ·rename_i h0;exact⟨h.out t,fun q=>absurd q h0⟩
  ·exact⟨h,he⟩
theorem qH.gone {x:bf} (h:qH x) (t:Int):qH (da x t):=
  ⟨PE h.wd t,Nat.le_trans (List.length_filter_le _ _) h.w8,h.hd,fun w hw=>h.dj w (rq.1 hw).1,fun w hw=>h.wk w (rq.1 hw).1,h.hk,fun w hw=>h.wz w (rq.1 hw).1,h.ex,h.rd,h.l2,h.l8⟩
theorem OP {x:bf} (h:qH x) (hr:k8 x=true):x.sh=true/\0<x.ho.length/\∀g∈x.ho,g.p=0:=by
  unfold k8 at hr
  simp only [Bool.and_eq_true,decide_eq_true_eq] at hr;obtain ⟨q2,q3,q4⟩:=hr;refine ⟨q2,q3,fun g hg=>?_⟩;rcases h.rd q2 with r|r
  ·exact r g hg
  · cases hx:x.ho with
    |nil=>rw [hx] at hg;cases hg
    |cons a l=>
      rw [hx] at r q4 hg;have:l=[] :=List.eq_nil_of_length_eq_zero (by simp at r;simp [r]);subst this;rcases List.mem_singleton.1 hg with rfl
      exact q4
theorem lZ.lv {x:bf} (h:lZ x) (t:Int):lZ (fR x t):=by
  unfold fR
  split
  · rename_i hw
    refine lZ.settle ?_;have hg:=h.toqH.gone t
    have ec:x.ho.length≠0:=fun q=>by
      have:=h.em q
      unfold bT at hw
      rw [List.eq_nil_of_length_eq_zero this] at hw;cases hw
    split
    · rename_i c
      have hr:=OP h.toqH c.1;refine ⟨hg.MB 0 8 (.inr ⟨hr.1,rfl,hr.2.2⟩),fun q=>?_⟩;rw [fG] at q;have q2:(x.ho++_).length=0:=q;rw [List.length_append] at q2;omega
    ·exact⟨hg,fun q=>absurd q ec⟩
  ·exact h
theorem lZ.die {x:bf} (h:lZ x) (t:Int):lZ (tx x t):=by
  unfold tx
  split
  ·exact h.lv t
  · split
    ·exact lZ.yF (x:= {x with di:=true}) (h.toqH.core rfl rfl rfl rfl) t h.em
    ·exact h
theorem lZ.yw {x:bf} (h:lZ x) (t:Int):lZ (jt x t):=by
  unfold jt
  split
  · refine lZ.settle (h.core rfl rfl rfl ?_)
    show (x.ld.l.set _ _).length=_;rw [List.length_set]
  ·exact h
theorem lZ.Tb {x:bf} (h:lZ x) (g wt:Int):lZ (iU x g wt):=by
  unfold iU
  split
  · refine lZ.settle (h.core rfl rfl rfl ?_)
    show (x.ld.l.set _ _).length=_;rw [List.length_set]
  ·exact h
theorem Rj (d:Qy) (gs:List Int):lZ (oU d gs):=by
  have hl:=MV d gs;refine ⟨⟨List.Pairwise.nil,Nat.zero_le _,List.nodup_nil,fun w hw=>(by cases hw),fun w hw=>(by cases hw),fun w hw=>(by cases hw),fun w hw=>(by cases hw),fun _=>Nat.zero_le _,fun _=> .inr (Nat.zero_le _),fun hs=>?_,?_⟩,fun _=>rfl⟩
  · show (lU (tQ d gs) _ _).l.length=2
    rw [k9];unfold tQ;rw [if_pos (show d.sh=true from hs)];rfl
  · show (lU (tQ d gs) _ _).l.length<=8
    rw [k9];omega
theorem xI (p:Int):∀(L:List Wt) (n:Nat),(rM p n L).length+((LF L p).take n).length=L.length
  | [],n=>by
    have:LF [] p=[] :=rfl;rw [this,List.take_nil];rfl
  |w::l,n=>by
    by_cases c:w.key=p
    · by_cases c2:0<n
      · rw [CK c c2,py c]
        obtain ⟨m,rfl⟩:∃m,n=m+1:=⟨n-1,by omega⟩
        have:=xI p l m;rw [Nat.add_sub_cancel,List.take_succ_cons,List.length_cons,List.length_cons];omega
      ·rw [show n=0 by omega,uj,List.take_zero];rfl
    · rw [zH (.inl c),oN c]
      have:=xI p l n;rw [List.length_cons,List.length_cons];omega
theorem Rb {x:bf} (h:yE x.wt) (p:Int) (n:Nat):(l9 x p n).ho.length+(l9 x p n).wt.length=x.ho.length+x.wt.length:=by
  rw [fG]
  show (x.ho++_).length+(BQ x.wt (c8 x p n)).length=_
  rw [List.length_append,sX];have:=xI p x.wt n;rw [vQ p _ _ h] at this;have e:(c8 x p n).length=((LF x.wt p).take n).length:=by unfold c8;rw [List.length_map]
  have e2:c8 x p n=((LF x.wt p).take n).map (·.who):=rfl;rw [<-e2,<-e] at this;omega
structure kx (k:Nat) (x:bf):Prop where
  hl:x.ho.length+x.wt.length<=k
  hh:∀p,p<x.ld.l.length->0<=(gP x.ld.l p).h/\(gP x.ld.l p).h<=k
  tu:0<=x.tr.u
theorem kx.mono {k':Nat} {x:bf} (h:kx k x) (hk:k<=k'):kx k' x:=⟨Nat.le_trans h.hl hk,fun p hp=>by have:=h.hh p hp;omega,h.tu⟩
theorem Ty {x:ou} {p:Nat} (hp:p<x.l.length):(gP (nQ x s).l p).h=(gP x.l p).h:=by
  show (gP (vr x s x.l.length) p).h=_
  rw [nH hp,if_pos hp];rfl
theorem kx.settle {x:bf} (h:kx k x):kx k (cN x):=
  ⟨h.hl, fun p hp => by have zv : p < x.ld.l.length := by rw [← iQ]; exact hp
                        show 0<=(gP (nQ x.ld _).l p).h/\_
                        rw [show (cN x).ld=nQ x.ld (JG x) from rfl,Ty zv];exact h.hh p zv,h.tu⟩
theorem kx.MB {x:bf} (h:kx k x) (hw:yE x.wt) (p:Int) (n:Nat):kx k (l9 x p n):=by
  have e:=Rb hw p n;have e1:(l9 x p n).ld=x.ld:=by rw [fG]
  have e2:(l9 x p n).tr=x.tr:=by rw [fG]
  exact⟨by rw [e];exact h.hl,by rw [e1];exact h.hh,by rw [e2];exact h.tu⟩
theorem Wk {t:wE} {sl:Int} {le:Int} (h:0<=t.u):0<=(qD t sl s le).u:=by unfold qD;split;exact h;exact Int.le_refl _
theorem QY {t:wE} (h:0<=t.u):0<=(jw t).u:=by unfold jw;split;show 0<=t.u+1;omega;exact h
theorem acr {t:wE} {sl:Int} (h:0<=t.u):0<=(yI t sl).u:=by
  unfold yI;split
  ·have:=ej (n:=sl) (show (1:Int)<=16 by decide);show 0<=aF sl 1 16;omega
  ·exact h
theorem kx.pass {x:bf} (h:kx k x) (hw:yE x.wt):kx k (kO x):=by
  unfold kO;split
  ·exact h
  ·exact kx.MB (x:=dK x) ⟨h.hl,h.hh,Wk h.tu⟩ hw _ _
theorem kx.take {x:bf} (h:kx k x) (t p:Int):kx (k+1) (cf x t p):=by
  unfold cf;split
  ·exact h.mono om
  · obtain ⟨e1,e2,e3,e4,e5,e6⟩:=eL x p
    refine kx.settle ⟨?_,?_,?_⟩
    · show ((bS x p).ho++ [_]).length+(bS x p).wt.length<=_
      rw [e2,e3,List.length_append,List.length_singleton];have:=h.hl;omega
    · show∀q,q<(bS x p).ld.l.length->0<=(gP (bS x p).ld.l q).h/\(gP (bS x p).ld.l q).h<=((k+1:Nat):Int)
      rw [e4];exact(h.mono (Nat.le_succ k)).hh
    · show 0<=(bS x p).tr.u
      unfold bS;split;exact Int.le_refl _;exact h.tu
theorem kx.wait {x:bf} (h:kx k x) (t p:Int):kx (k+1) (du x t p):=by
  unfold du;split
  ·exact h.mono om
  · refine kx.settle ⟨?_,(h.mono (Nat.le_succ k)).hh,h.tu⟩
    show x.ho.length+(x.wt++ [_]).length<=_
    rw [List.length_append,List.length_singleton];have:=h.hl;omega
theorem kx.yF {x:bf} (h:kx k x) (hw:yE x.wt) (t:Int):kx k (dP x t):=by
  unfold dP;split
  · have ho:kx k (fY x t):=⟨by show (x.ho.eraseIdx _).length+_<=k;have:=List.Sublist.length_le (List.eraseIdx_sublist x.ho (gE x.ho t));have:=h.hl;show _+x.wt.length<=k;omega,h.hh,h.tu⟩
    refine kx.settle ?_
    split
    ·exact ho.pass hw
    ·exact ho
  ·exact h
theorem kx.lv {x:bf} (h:kx k x) (hw:yE x.wt) (t:Int):kx k (fR x t):=by
  unfold fR;split
  · have hg:kx k (da x t):=⟨by show x.ho.length+(ET x.wt t).length<=k;have:(ET x.wt t).length<=x.wt.length:=List.length_filter_le _ _;have:=h.hl;omega,h.hh,h.tu⟩
    refine kx.settle ?_
    split
    ·exact hg.MB (PE hw t) _ _
    ·exact hg
  ·exact h
theorem kx.die {x:bf} (h:kx k x) (hw:yE x.wt) (t:Int):kx k (tx x t):=by
  unfold tx;split
  ·exact h.lv hw t
  · split
    ·exact kx.yF (x:= {x with di:=true}) ⟨h.hl,h.hh,h.tu⟩ hw t
    ·exact h
theorem kx.yw {x:bf} (h:kx k x) (t:Int):kx (k+1) (jt x t):=by
  unfold jt;split
  · refine kx.settle ⟨Nat.le_succ_of_le h.hl,fun q hq=>?_,QY h.tu⟩
    generalize (x.ho.getD (gE x.ho t) default).p.toNat=pp at hq ⊢
    have jY:q<x.ld.l.length:=by
      have:q<(x.ld.l.set pp (MK (gP x.ld.l pp))).length:=hq;rw [List.length_set] at this;exact this
    show 0<=(gP (x.ld.l.set pp (MK (gP x.ld.l pp))) q).h/\(gP (x.ld.l.set pp (MK (gP x.ld.l pp))) q).h<=_
    by_cases hp:pp<x.ld.l.length
    · rw [AQ hp]
      split
      · rename_i e;subst e
        have:=h.hh q jY
        show 0<=(gP x.ld.l q).h+1/\(gP x.ld.l q).h+1<=_
        omega
      ·have:=h.hh q jY;omega
    ·rw [List.set_eq_of_length_le om];have:=h.hh q jY;omega
  ·exact h.mono om
theorem kx.Tb {x:bf} (h:kx k x) (g wt:Int):kx k (iU x g wt):=by
  unfold iU;split
  · refine kx.settle ⟨h.hl,fun q hq=>?_,by show 0<=(if _ then _ else _:wE).u;split;exact acr h.tu;exact h.tu⟩
    have jY:q<x.ld.l.length:=by
      have:q<(x.ld.l.set g.toNat (Gm x.ld (gP x.ld.l g.toNat) wt)).length:=hq;rw [List.length_set] at this;exact this
    show 0<=(gP (x.ld.l.set g.toNat (Gm x.ld (gP x.ld.l g.toNat) wt)) q).h/\(gP (x.ld.l.set g.toNat (Gm x.ld (gP x.ld.l g.toNat) wt)) q).h<=_
    by_cases hp:g.toNat<x.ld.l.length
    · rw [AQ hp]
      split
      · rename_i e;subst e
        have:=h.hh _ jY
        unfold Gm;split
        ·exact this
        ·exact this
      ·exact h.hh q jY
    ·rw [List.set_eq_of_length_le om];exact h.hh q jY
  ·exact h
theorem SI (d:Qy) (gs:List Int):kx 0 (oU d gs):=by
  refine ⟨Nat.le_refl _,fun p hp=>?_,Int.le_refl _⟩
  have:∀q∈(lU (tQ d gs) (aF d.sl 1 16) d.cr).l,q.h=0:=fun q hq=>by
    unfold lU at hq
    obtain ⟨w,_,rfl⟩:=List.mem_map.1 hq;rfl
  have h2:=this (gP (oU d gs).ld.l p) (by unfold gP;rw [List.getD_eq_getElem?_getD,List.getElem?_eq_getElem hp];exact List.getElem_mem _);rw [h2];exact⟨Int.le_refl _,Int.le_refl _⟩
end Go.Eng
