/- A machine of an ordered setup: what is held lies in open sections, who waits stands at the op that takes; single changes. No condition. -/
import Derived.Test.YtdimfmnimobmfaaGreatDoorM2
import Derived.Test.YtdimfmnimobmfaaGreatDoorM7
import Derived.Test.YtdimfmnimobmfaaGreatDoorM5
import Derived.Test.YtdimfmnimobmfaaGreatDoorM4
import Derived.Test.YtdimfmnimobmfaaGreatDoorM6
import Derived.Test.YtdimfmnimobmfaaGreatDoorM3
set_option linter.unusedVariables false
set_option linter.unusedSectionVars false
set_option linter.unusedSimpArgs false
set_option maxRecDepth 100000
set_option maxHeartbeats 4000000
attribute [local irreducible] Go.Eng.LM Go.Eng.LD Go.Eng.KD Go.Eng.af Go.Eng.QM
namespace Go.Eng
open Go Go.RowKit
variable {G:Gr} {d lock:Int} {xs:List bO} {cap i k l n t z:Nat} {E:Nat->Prop} {ad:Option Addr} {x:aB} {s:ee} {y:iy}
abbrev pf (x:aB) (t:Nat):Nat:=(gT x t).pc.toNat
abbrev qv (x:aB) (t:Nat):List bO:=(iu x t).xs
def qP (x:aB) (t:Nat) (l:Int):Prop:=jG (qv x t) l (pf x t)
def vu (x:aB) (t:Nat) (l:Int):Prop:=pf x t<(qv x t).length/\cD ((qv x t).getD (pf x t) default).k=true/\((qv x t).getD (pf x t) default).a=l
def qN (x:aB) (l:Nat) (u:Nat):Prop:=∃g∈(gL x l).ho,g.t=(u:Int)
structure OQ (E:Nat->Prop) (d:Int) (z:Nat) (x:aB):Prop where
  ho:∀l,l<x.lk.length->∀t,qN x l t->qP x t l\/(E t/\bY x t=4/\cJ x t=(l:Int))
  wt:∀t,t<x.ts.length->bY x t=4->vu x t (cJ x t)
  ed:∀v u:Nat,aq (ot x.g v) u=true->v<x.ts.length/\bY x v=4/\(qN x (cJ x v).toNat u\/(cJ x v=d/\u=z))
  no:∀e∈x.ev,e.k=8->e.n≠9
theorem OQ.mono {E':Nat->Prop} (h:OQ E d z x) (he:∀t,E t->E' t):OQ E' d z x:=⟨fun l hl t ht=>(h.ho l hl t ht).imp id (fun q=>⟨he t q.1,q.2⟩),h.wt,h.ed,h.no⟩
section
variable {E:Nat->Prop} {d:Int} {z:Nat} {x:aB} (h:OQ E d z x)
include h
theorem OQ.fX {a t l n:Int} (ha:a=8->n≠9):OQ E d z (ba x a t l n):=⟨h.ho,h.wt,h.ed,fun e he hk=>by
  rcases List.mem_append.1 he with q|q
  ·exact h.no e q hk
  ·rw [List.mem_singleton] at q;subst q;exact ha hk⟩
theorem OQ.cs (cs:List Qm) (v:List (BitVec 64)) (il gp:List Int) (now:BitVec 64):OQ E d z {x with cs:=cs,v:=v,idle:=il,gp:=gp,now:=now} :=⟨h.ho,h.wt,h.ed,h.no⟩
theorem OQ.g {g:Gr} (hg:∀v u:Nat,aq (ot g v) u=true->aq (ot x.g v) u=true):OQ E d z {x with g:=g} :=⟨h.ho,h.wt,fun v u e=>h.ed v u (hg v u e),h.no⟩
theorem OQ.cut (hg:x.g.length=64) (ht:t<64):OQ E d z (cC x t):=h.g (fun v u e=>(ns hg ht e).2)
theorem OQ.up (ht:t<x.ts.length) (h1:y.st=(gT x t).st\/(y.st≠4/\(gT x t).st≠4)) (h2:y.lk=(gT x t).lk\/(gT x t).st≠4) (h3:y.pc=(gT x t).pc) (h4:y.pr=(gT x t).pr):OQ E d z (bR x t y):=by
  have hg:∀j,gT (bR x t y) j=if t=j then y else gT x j:=dB ht y
  have hs:∀j,bY (bR x t y) j=4↔bY x j=4:=fun j=>by
    show (gT (bR x t y) j).st=4↔_
    rw [hg];split
    · next e => subst e; rcases h1 with q | ⟨q1, q2⟩
                ·rw [q]
                ·exact⟨fun c=>absurd c q1,fun c=>absurd c q2⟩
    ·exact Iff.rfl
  have hl:∀j,bY x j=4->cJ (bR x t y) j=cJ x j:=fun j h4=>by
    show (gT (bR x t y) j).lk=_
    rw [hg];split
    · next e => subst e; rcases h2 with q | q
                ·exact q
                ·exact absurd h4 q
    ·rfl
  have hx:∀j,qv (bR x t y) j=qv x j/\pf (bR x t y) j=pf x j:=fun j=>by
    constructor
    · show (x.s.ps.getD (gT (bR x t y) j).pr.toNat default).xs=_
      rw [hg];split
      ·next e=>rw [h4,e]
      ·rfl
    · show (gT (bR x t y) j).pc.toNat=_
      rw [hg];split
      ·next e=>rw [h3,e]
      ·rfl
  refine ⟨fun l eE u hu=>?_,fun u hu jQ=>?_,fun v u e=>?_,h.no⟩
  · rcases h.ho l eE u hu with q|⟨q1,q2,q3⟩
    ·left;unfold qP;rw [(hx u).1,(hx u).2];exact q
    ·exact .inr ⟨q1,(hs u).2 q2,(hl u q2).trans q3⟩
  · have h4:=(hs u).1 jQ
    unfold vu;rw [(hx u).1,(hx u).2,hl u h4]
    exact h.wt u (by rw [<-aW x t y];exact hu) h4
  · obtain ⟨a,b,c⟩:=h.ed v u e
    refine ⟨by rw [aW];exact a,(hs v).2 b,?_⟩;rw [hl v b];exact c
theorem OQ.nxt (ht:t<x.ts.length) (hp:0<=(gT x t).pc) (h4:bY x t≠4) (h1:y.st≠4) (h3:y.pc=(gT x t).pc+1) (hr:y.pr=(gT x t).pr) (hs:∀l,l<x.lk.length->qN x l t->pf x t<(qv x t).length->eH (l:Int) ((qv x t).getD (pf x t) default)=false):OQ E d z (bR x t y):=by
  have hg:∀j,gT (bR x t y) j=if t=j then y else gT x j:=dB ht _
  have hn:∀j,t≠j->gT (bR x t y) j=gT x j:=fun j e=>by rw [hg,if_neg e]
  have hx:∀j,qv (bR x t y) j=qv x j:=fun j=>by
    show (x.s.ps.getD (gT (bR x t y) j).pr.toNat default).xs=_
    rw [hg];split
    ·next e=>rw [<-e,hr]
    ·rfl
  have hpt:pf (bR x t y) t=pf x t+1:=by show (gT _ t).pc.toNat=_;rw [hg,if_pos rfl,h3];show ((gT x t).pc+1).toNat=(gT x t).pc.toNat+1;omega
  refine ⟨fun l eE u hu=>?_,fun u hu jQ=>?_,fun v u e=>?_,h.no⟩
  · by_cases e:t=u
    · rcases h.ho l eE u hu with q|⟨q1,q2,q3⟩
      ·left;unfold qP;rw [hx];subst e;rw [hpt];exact q.next (fun hp=>hs l eE hu hp)
      ·exact absurd (e▸q2) h4
    · have q:=h.ho l eE u hu
      unfold qP pf bY cJ at q ⊢;rw [hx,hn u e];exact q
  · have jQ:(gT (bR x t y) u).st=4:=jQ
    have e:t≠u:=fun e=>by rw [hg,if_pos e] at jQ;exact h1 jQ
    rw [hn u e] at jQ;have q:=h.wt u (by rw [<-aW x t y];exact hu) jQ
    unfold vu pf cJ at q ⊢;rw [hx,hn u e];exact q
  · obtain ⟨a,b,c⟩:=h.ed v u e
    have e0:t≠v:=fun e=>h4 (e▸b);refine ⟨by rw [aW];exact a,by show (gT _ v).st=4;rw [hn v e0];exact b,?_⟩;rw [show cJ (bR x t y) v=cJ x v by show (gT _ v).lk=_;rw [hn v e0]];exact c
theorem OQ.inc (ht:t<x.ts.length) (hp:0<=(gT x t).pc) (h4:bY x t≠4) (hs:∀l,l<x.lk.length->qN x l t->pf x t<(qv x t).length->eH (l:Int) ((qv x t).getD (pf x t) default)=false):OQ E d z (bh x t):=h.nxt ht hp h4 (y:=oM (gT x t)) h4 rfl rfl hs
theorem OQ.WT {f:bf->bf} (hf:∀L,(f L).ho=L.ho):OQ E d z {x with lk:=x.lk.map f} :=by
  have hh:∀j u,qN {x with lk:=x.lk.map f} j u↔qN x j u:=fun j u=>by
    have e:(gL {x with lk:=x.lk.map f} j).ho=(gL x j).ho:=by
      show ((x.lk.map f).getD j default).ho=(x.lk.getD j default).ho
      rw [List.getD_eq_getElem?_getD,List.getElem?_map,List.getD_eq_getElem?_getD];cases x.lk[j]? with
      |none=>rfl
      |some L=>exact hf L
    unfold qN;rw [e]
  refine ⟨fun l hl u hu=>h.ho l (by rw [<-List.length_map (f:=f)];exact hl) u ((hh l u).1 hu),h.wt,fun v u e=>?_,h.no⟩;obtain ⟨a,b,c⟩:=h.ed v u e;exact⟨a,b,c.imp (fun q=>(hh _ u).2 q) id⟩
theorem OQ.wait (ht:t<x.ts.length) (h4:bY x t≠4) (h1:y.st=4) (h2:y.lk=(l:Int)) (h3:y.pc=(gT x t).pc) (hr:y.pr=(gT x t).pr) (z7:vu x t (l:Int)) {g:Gr} (hE:¬E t)
    (hg:∀v u:Nat,aq (ot g v) u=true->(v≠t/\aq (ot x.g v) u=true)\/(v=t/\(qN x l u\/aq (ot x.g v) u=true))):OQ E d z {bR x t y with g:=g} :=by
  have hG:∀j,gT (bR x t y) j=if t=j then y else gT x j:=dB ht _
  have hn:∀j,t≠j->gT (bR x t y) j=gT x j:=fun j e=>by rw [hG,if_neg e]
  have hx:∀j,qv {bR x t y with g:=g} j=qv x j:=fun j=>by
    show (x.s.ps.getD (gT (bR x t y) j).pr.toNat default).xs=_
    rw [hG];split
    ·next e=>rw [<-e,hr]
    ·rfl
  have hpz:∀j,pf {bR x t y with g:=g} j=pf x j:=fun j=>by
    show (gT (bR x t y) j).pc.toNat=_
    rw [hG];split
    ·next e=>rw [<-e,h3]
    ·rfl
  refine ⟨fun k hk u hu=>?_,fun u hu jQ=>?_,fun v u e=>?_,h.no⟩
  · rcases h.ho k hk u hu with q|⟨q1,q2,q3⟩
    ·left;unfold qP;rw [hx,hpz];exact q
    · have e:t≠u:=fun e=>hE (e▸q1)
      exact .inr ⟨q1,by show (gT (bR x t y) u).st=4;rw [hn u e];exact q2,by show (gT (bR x t y) u).lk=_;rw [hn u e];exact q3⟩
  · unfold vu;rw [hx,hpz]
    by_cases e:t=u
    ·rw [show cJ {bR x t y with g:=g} u=(l:Int) from by show (gT (bR x t y) u).lk=_;rw [hG,if_pos e,h2],<-e];exact z7
    · have jQ:(gT (bR x t y) u).st=4:=jQ
      rw [hn u e] at jQ;rw [show cJ {bR x t y with g:=g} u=cJ x u from by show (gT (bR x t y) u).lk=_;rw [hn u e]];exact h.wt u (by rw [<-aW x t y];exact hu) jQ
  · rcases hg v u e with ⟨q1,q2⟩|⟨q1,q2⟩
    · obtain ⟨a,b,c⟩:=h.ed v u q2
      refine ⟨by show v<(bR x t y).ts.length;rw [aW];exact a,by show (gT (bR x t y) v).st=4;rw [hn v (fun c=>q1 c.symm)];exact b,?_⟩;rw [show cJ {bR x t y with g:=g} v=cJ x v from by show (gT (bR x t y) v).lk=_;rw [hn v (fun c=>q1 c.symm)]];exact c
    · rcases q2 with q2|q2
      · subst q1
        refine ⟨by show v<(bR x v y).ts.length;rw [aW];exact ht,by show (gT (bR x v y) v).st=4;rw [hG,if_pos rfl];exact h1,.inl ?_⟩;rw [show cJ {bR x v y with g:=g} v=(l:Int) from by show (gT (bR x v y) v).lk=_;rw [hG,if_pos rfl,h2],Int.toNat_natCast];exact q2
      ·exact absurd (q1▸(h.ed v u q2).2.1) h4
theorem OQ.snoc (h1:y.st≠4) (eK:∀l,l<x.lk.length->∀u,qN x l u->u<x.ts.length):OQ E d z {x with ts:=x.ts++ [y] } :=by
  have hn:∀j,j<x.ts.length->gT {x with ts:=x.ts++ [y] } j=gT x j:=fun j hj=>by
    show (x.ts++ [y]).getD j default=x.ts.getD j default
    rw [List.getD_eq_getElem?_getD,List.getElem?_append_left hj,<-List.getD_eq_getElem?_getD]
  have hxp:∀j,j<x.ts.length->qv {x with ts:=x.ts++ [y] } j=qv x j/\pf {x with ts:=x.ts++ [y] } j=pf x j/\cJ {x with ts:=x.ts++ [y] } j=cJ x j/\bY {x with ts:=x.ts++ [y] } j=bY x j:=fun j hj=>by
    refine ⟨?_,?_,?_,?_⟩
    ·show (x.s.ps.getD (gT {x with ts:=x.ts++ [y] } j).pr.toNat default).xs=_;rw [hn j hj]
    ·show (gT {x with ts:=x.ts++ [y] } j).pc.toNat=_;rw [hn j hj]
    ·show (gT {x with ts:=x.ts++ [y] } j).lk=_;rw [hn j hj]
    ·show (gT {x with ts:=x.ts++ [y] } j).st=_;rw [hn j hj]
  refine ⟨fun l hl u hu=>?_,fun u hu jQ=>?_,fun v u e=>?_,h.no⟩
  · obtain ⟨a1,a2,a3,a4⟩:=hxp u (eK l hl u hu)
    unfold qP;rw [a1,a2,a3,a4];exact h.ho l hl u hu
  · have T3:u<x.ts.length:=by
      have hu:u<(x.ts++ [y]).length:=hu;rw [List.length_append,List.length_singleton] at hu;rcases Nat.lt_or_ge u x.ts.length with q|q
      ·exact q
      · exfalso
        have e:gT {x with ts:=x.ts++ [y] } u=y:=by
          show (x.ts++ [y]).getD u default=y
          rw [show u=x.ts.length by omega,List.getD_eq_getElem?_getD,List.getElem?_append_right (Nat.le_refl _),Nat.sub_self];rfl
        have jQ:(gT {x with ts:=x.ts++ [y] } u).st=4:=jQ;rw [e] at jQ;exact h1 jQ
    obtain ⟨a1,a2,a3,a4⟩:=hxp u T3;rw [a4] at jQ
    unfold vu;rw [a1,a2,a3];exact h.wt u T3 jQ
  · obtain ⟨a,b,c⟩:=h.ed v u e
    obtain ⟨a1,a2,a3,a4⟩:=hxp v a;exact⟨by show v<(x.ts++ [y]).length;rw [List.length_append];omega,a4.trans b,by rw [a3];exact c⟩
theorem OQ.put {d':Int} {z':Nat} (tF:∀v,v<x.ts.length->bY x v=4->0<=cJ x v/\cJ x v≠d) (hl:l<x.lk.length) {M:bf} {E':Nat->Prop} (hE:∀t,E t->E' t)
    (hm:∀u:Nat,(∃g∈M.ho,g.t=(u:Int))->qN x l u\/qP x u l\/(E' u/\bY x u=4/\cJ x u=(l:Int))) (Bg:∀u,qN x l u->(∃g∈M.ho,g.t=(u:Int))\/(d'=l/\u=z')):OQ E' d' z' (aY x l M):=by
  have hh:∀j u,qN (aY x l M) j u↔if l=j then (∃g∈M.ho,g.t=(u:Int)) else qN x j u:=fun j u=>by
    unfold qN;rw [fc hl];split<;>exact Iff.rfl
  refine ⟨fun j hj u hu=>?_,h.wt,fun v u e=>?_,h.no⟩
  · rw [cj] at hj;rw [hh] at hu
    by_cases e:l=j
    · rw [if_pos e] at hu
      rcases hm u hu with q|q|q
      ·rw [<-e];exact(h.ho l hl u q).imp id (fun c=>⟨hE u c.1,c.2⟩)
      ·rw [<-e];exact .inl q
      ·rw [<-e];exact .inr q
    ·rw [if_neg e] at hu;exact(h.ho j hj u hu).imp id (fun c=>⟨hE u c.1,c.2⟩)
  · obtain ⟨a,b,c⟩:=h.ed v u e
    refine ⟨a,b,?_⟩
    show qN (aY x l M) (cJ x v).toNat u\/(cJ x v=d'/\u=z')
    obtain ⟨hl0,Ta⟩:=tF v a b;have c:=c.resolve_right (fun q=>Ta q.1);rw [hh]
    by_cases e:l=(cJ x v).toNat
    · rw [if_pos e];rw [<-e] at c
      rcases Bg u c with q|⟨q,q2⟩
      ·exact .inl q
      ·exact .inr ⟨by omega,q2⟩
    ·rw [if_neg e];exact .inl c
end
theorem OQ.leave (h:OQ E d z x) (TA:x.g.length=64) (ht:t<x.ts.length) (aft:t<64) (hp:0<=(gT x t).pc) (h4:bY x t=4):OQ (fun j=>E j/\j≠t) d z (dH (cC (bh x t) t) t):=by
  have xr:(cC (bh x t) t).ts.length=x.ts.length:=aW ..
  have hg:∀j,gT (dH (cC (bh x t) t) t) j=if t=j then C9 (oM (gT x t)) else gT x j:=fun j=>by
    have e1:gT (dH (cC (bh x t) t) t) j=if t=j then C9 (gT (cC (bh x t) t) t) else gT (cC (bh x t) t) j:=dB (x:=cC (bh x t) t) (by rw [xr];exact ht) _ j
    have e2:∀i,gT (cC (bh x t) t) i=if t=i then oM (gT x t) else gT x i:=fun i=>dB ht _ i
    rw [e1,e2,e2]
    by_cases e:t=j
    ·rw [if_pos e,if_pos e,if_pos rfl]
    ·rw [if_neg e,if_neg e,if_neg e]
  have hn:∀j,t≠j->gT (dH (cC (bh x t) t) t) j=gT x j:=fun j e=>by rw [hg,if_neg e]
  have hlen:(dH (cC (bh x t) t) t).ts.length=x.ts.length:=(aW (cC (bh x t) t) t _).trans xr
  have hx:∀j,qv (dH (cC (bh x t) t) t) j=qv x j:=fun j=>by
    show (x.s.ps.getD (gT (dH (cC (bh x t) t) t) j).pr.toNat default).xs=_
    rw [hg];split
    ·next e=>rw [<-e];rfl
    ·rfl
  have hpt:pf (dH (cC (bh x t) t) t) t=pf x t+1:=by
    show (gT _ t).pc.toNat=_;rw [hg,if_pos rfl];show ((gT x t).pc+1).toNat=(gT x t).pc.toNat+1;omega
  have z7:=h.wt t ht h4;have gS:∀j,bY (dH (cC (bh x t) t) t) j=if t=j then 1 else bY x j:=fun j=>by show (gT _ j).st=_;rw [hg];split<;>rfl
  refine ⟨fun l hl u hu=>?_,fun u hu jQ=>?_,fun v u e=>?_,fun e he=>?_⟩
  · have q:=h.ho l hl u hu
    by_cases e:t=u
    · left;unfold qP;rw [hx,<-e,hpt];rw [<-e] at q
      rcases q with q|⟨q1,q2,q3⟩
      ·exact q.next (fun _=>by have:=Ig z7.2.1;exact fD om om)
      · have:=jG.take z7.1 z7.2.1
        rw [z7.2.2,q3] at this;exact this
    · rcases q with q|⟨q1,q2,q3⟩
      ·left;unfold qP;rw [hx];show jG _ _ (gT _ u).pc.toNat;rw [hn u e];exact q
      · refine .inr ⟨⟨q1,fun c=>e c.symm⟩,?_,?_⟩
        ·rw [gS,if_neg e];exact q2
        ·show (gT _ u).lk=_;rw [hn u e];exact q3
  · rw [hlen] at hu
    rw [gS] at jQ;have e:t≠u:=fun e=>by rw [if_pos e] at jQ;cases jQ
    rw [if_neg e] at jQ;have q:=h.wt u hu jQ
    unfold vu pf;rw [hx,show cJ (dH (cC (bh x t) t) t) u=cJ x u from by show (gT _ u).lk=_;rw [hn u e],hn u e];exact q
  · obtain ⟨e1,e2⟩:=ns TA aft (G:=x.g) (w:=t) e
    obtain ⟨a,b,c⟩:=h.ed v u e2;refine ⟨by rw [hlen];exact a,?_,?_⟩
    ·rw [gS,if_neg (fun c=>e1 c.symm)];exact b
    · rw [show cJ (dH (cC (bh x t) t) t) v=cJ x v from by show (gT _ v).lk=_;rw [hn v (fun c=>e1 c.symm)]]
      exact c
  · rcases List.mem_append.1 he with q|q
    ·exact h.no e q
    ·rw [List.mem_singleton] at q;subst q;intro q;cases q
theorem vK {L:bf} {u:Nat} (h:aq (gV L) u=true):∃g∈L.ho,g.t=(u:Int):=by
  rw [bz] at h
  unfold gV at h;rw [x4,Bool.and_eq_true,List.any_eq_true] at h
  obtain ⟨_,q,hq,e⟩:=h;obtain ⟨g,hg,rfl⟩:=List.mem_map.1 hq;exact⟨g,hg,of_decide_eq_true e⟩
section
variable {k:Nat} {x:aB} (hI:MI k x) (hA:jT (im x.s))
include hI hA
theorem wL {v:Nat} (hv:v<x.ts.length) (hi:i<x.lk.length) (hl:l<x.lk.length) (h1:qP x v i) (h2:vu x v (l:Int)):aq (ot (im x.s) i) (l:Nat)=true:=by
  have eE:=hI.ll;have Rm:=hI.l8;have hp:=(hI.tb v hv).pr
  have hm:iu x v∈x.s.ps:=by
    have bo:(gT x v).pr.toNat<x.s.ps.length:=by omega
    exact List.mem_of_getElem? (aH default bo)
  have e:=jG.edge h1 h2.1 h2.2.1 (by rw [h2.2.2];omega);rw [h2.2.2] at e;exact PC om hm e
theorem OQ.ring (h:OQ fw d z x) {g:Gr} (hg:∀v u:Nat,aq (ot g v) u=true->v<x.ts.length/\bY x v=4/\(qN x (cJ x v).toNat u\/(cJ x v=d/\u=z)))
    (hz:∀w:Nat,aq (ot g z) w=false) {l t:Nat} (hl:l<x.lk.length) (ht:t<x.ts.length) (z7:vu x t (l:Int)) (hf:t≠z\/∀v,v<x.ts.length->bY x v=4->cJ x v≠d):aq (iH g (gV (gL x l))) (t:Nat)=false:=by
  have eE:=hI.ll;have Ub:∀v,v<x.ts.length->bY x v=4->0<=cJ x v/\(cJ x v).toNat<x.lk.length:=fun v hv h4=>by have:=(hI.tb v hv).l4 h4;exact⟨this.1,by show (gT x v).lk.toNat<_;omega⟩
  have vO:∀v i,i<x.lk.length->qN x i v->qP x v i:=fun v i hi hh=>(h.ho i hi v hh).resolve_right (fun q=>q.1);cases hb:aq (iH g (gV (gL x l))) (t:Nat) with
  |false=>rfl
  |true=>
    exfalso
    have hr:=(eg g (gV (gL x l)) t).1 hb
    refine Tt hA (hold:=fun v i=>i<x.lk.length/\qN x i v) (wt:=fun v i=>v<x.ts.length/\bY x v=4/\cJ x v=(i:Int)) (free:=fun v=>v=z/\∃w,w<x.ts.length/\bY x w=4/\cJ x w=d)
      (fun v u e=>?_) (fun v i j hv hw=>?_) (fun v u hv=>by rw [hv.1];exact hz u) (S:=gV (gL x l)) (a:=l) (t:=t) (fun u hu=> .inl ⟨hl,vK hu⟩) (fun i hi=>wL hI hA ht hi.1 hl (vO t i hi.1 hi.2) z7) (fun q=>?_) hr
    · obtain ⟨a,b,c⟩:=hg v u e
      obtain ⟨c1,c2⟩:=Ub v a b;exact⟨(cJ x v).toNat,⟨a,b,by omega⟩,c.imp (fun q=>⟨c2,q⟩) (fun q=>⟨q.2,v,a,b,q.1⟩)⟩
    · have hj:=Ub v hw.1 hw.2.1
      have:=h.wt v hw.1 hw.2.1;rw [hw.2.2] at this hj;exact wL hI hA hw.1 hv.1 om (vO v i hv.1 hv.2) this
    · obtain ⟨q1,w,w1,w2,w3⟩:=q
      rcases hf with c|c
      ·exact c q1
      ·exact c w w1 w2 w3
theorem OQ.UG (h:OQ fw d z x) (hd:d=(l:Int)\/d= -1) (hl:l<x.lk.length) (hq:MQ E x) (hE:d=(l:Int)->∀t,E t->t=z) (hz:∀w:Nat,aq (ot x.g z) w=false) (Z3:∀y∈(gL x l).wt,y.who.toNat≠z):
    OQ fw (-1) z (zc x l)/\∀w:Nat,aq (ot (zc x l).g z) w=false:=by
  have eE:=hI.ll;have rB:=hI.tl;have Ub:∀v,v<x.ts.length->bY x v=4->0<=cJ x v:=fun v hv h4=>((hI.tb v hv).l4 h4).1
  have key:∀(r:List Wt) (g:Gr),(∀y∈r,y∈(gL x l).wt)->g.length=64->(∀w:Nat,aq (ot g z) w=false)->(∀v u:Nat,aq (ot g v) u=true->v<x.ts.length/\bY x v=4/\(qN x (cJ x v).toNat u\/(cJ x v=d/\u=z)))->
      (∀v u:Nat,aq (ot (r.foldl (fun g w=>qt g w.who (gV (gL x l))) g) v) u=true->v<x.ts.length/\bY x v=4/\(qN x (cJ x v).toNat u\/(cJ x v=d/\u=z)))/\
      (∀v:Nat,((∃y∈r,y.who=(v:Int))\/(∀u:Nat,aq (ot g v) u=true->qN x l u))->∀u:Nat,aq (ot (r.foldl (fun g w=>qt g w.who (gV (gL x l))) g) v) u=true->qN x l u)/\
      (∀w:Nat,aq (ot (r.foldl (fun g w=>qt g w.who (gV (gL x l))) g) z) w=false):=by
    intro r
    induction r with
    |nil=>intro g _ _ Pd hg;exact⟨hg,fun v hv u e=>hv.elim (fun ⟨y,hy,_⟩=>(by cases hy)) (fun c=>c u e),Pd⟩
    |cons y r ih=>
      intro g hr vZ Pd hg;have hy:=hr y (List.mem_cons_self ..);have eK:=(hI.li l hl).i.wt y hy;unfold iz at eK;obtain ⟨f1,f2⟩:=hq.l.wt l hl y hy;have qA:y.who.toNat<x.ts.length:=by omega
      have Qw:=Z3 y hy;have z7:=h.wt y.who.toNat qA f1;rw [show cJ x y.who.toNat=(l:Int) from f2] at z7;have hn:=OQ.ring hI hA h hg Pd hl qA z7 (.inl Qw);rw [show ((y.who.toNat:Nat):Int)=y.who by omega] at hn
      have he:vY g y.who (gV (gL x l))=0:=by
        unfold vY;rw [if_pos (g8.2 ⟨eK.1,by omega⟩),hn];rfl
      have e:qt g y.who (gV (gL x l))=g.set y.who.toNat (gV (gL x l)):=by unfold qt;rw [if_pos he]
      have ho:∀j,ot (qt g y.who (gV (gL x l))) j=if j=y.who.toNat then gV (gL x l) else ot g j:=fun j=>by rw [e];exact jA vZ om _ j
      rw [List.foldl_cons]
      have q:=ih (qt g y.who (gV (gL x l))) (fun c hc=>hr c (List.mem_cons_of_mem _ hc)) (sw vZ _ _) (fun w=>by rw [ho,if_neg (fun c=>Qw c.symm)];exact Pd w) (fun v u hu=>by
        rw [ho] at hu
        by_cases c:v=y.who.toNat
        · rw [if_pos c] at hu
          subst c;refine ⟨qA,f1,.inl ?_⟩;rw [show cJ x y.who.toNat=(l:Int) from f2,Int.toNat_natCast];exact vK hu
        ·rw [if_neg c] at hu;exact hg v u hu)
      refine ⟨q.1,fun v hv u hu=>q.2.1 v ?_ u hu,q.2.2⟩
      by_cases c:v=y.who.toNat
      ·exact .inr (fun u hu=>by rw [ho,if_pos c] at hu;exact vK hu)
      · rcases hv with ⟨f,hf,e⟩|hv
        · rcases List.mem_cons.1 hf with rfl|hf
          ·exact absurd om c
          ·exact .inl ⟨f,hf,e⟩
        ·exact .inr (fun u hu=>hv u (by rw [ho,if_neg c] at hu;exact hu))
  have k0:=key (gL x l).wt x.g (fun _ h=>h) hI.gi.l hz h.ed;refine ⟨⟨h.ho,h.wt,fun v u e=>?_,h.no⟩,k0.2.2⟩;obtain ⟨a,b,c⟩:=k0.1 v u e;refine ⟨a,b,.inl ?_⟩;rcases c with c|⟨c1,c2⟩
  ·exact c
  · have hv0:=Ub v a b
    have Xv:d=(l:Int):=by rcases hd with hd|hd<;>omega
    have c1:cJ x v=(l:Int):=by omega
    have hvz:v≠z:=fun q=>by
      have:=k0.2.2 u;rw [q] at e;have e:aq (ot ((gL x l).wt.foldl (fun g w=>qt g w.who (gV (gL x l))) x.g) z) u=true:=e;rw [this] at e;cases e
    obtain ⟨y,hy,ey⟩:=hq.l.s4 v a b (fun q=>hvz (hE Xv v q));rw [c1,Int.toNat_natCast] at hy
    show qN x (cJ x v).toNat u
    rw [c1,Int.toNat_natCast];exact k0.2.1 v (.inl ⟨y,hy,ey⟩) u e
end
theorem OQ.gvs {d:Int} {z l:Nat} :∀(to:List Int) {k:Nat} {x:aB},MI k x->OQ (fun j=>(j:Int)∈to) d z x->(∀t∈to,iz x.ts.length t/\bY x t.toNat=4)->to.Nodup->OQ fw d z (n4 l x to)
  | [],_,_,_,h,_,_=>h.mono (fun t q=>by cases q)
  |t::r,k,x,hI,h,ht,hn=>by
    obtain ⟨h1,h2⟩:=ht t (List.mem_cons_self ..)
    unfold iz at h1
    have rB:=hI.tl;have kq:=hI.oJ l (t:=t) h1;have ec:∀u:Nat,u≠t.toNat->gT (oJ l x t) u=gT x u:=fun u hu=>qY l [t] x (fun v hv=>by rw [List.mem_singleton] at hv;rw [hv];exact fun e=>hu e.symm);have hlen:(oJ l x t).ts.length=x.ts.length:=(oE l [t] x).1;rw [List.nodup_cons] at hn;have q:=OQ.leave (h.fX (a:=4) (t:=t) (l:=l) (n:=dD (gL x l) t) (fun e=>absurd e (by decide))) (t:=t.toNat) hI.gi.l (by show _<x.ts.length;omega) om (hI.tb t.toNat om).pc.1 h2;refine OQ.gvs r kq (q.mono (fun j hj=>?_)) (fun u hu=>?_) hn.2
    · rcases List.mem_cons.1 hj.1 with e|e
      ·exact absurd om hj.2
      ·exact e
    · obtain ⟨g1,g2⟩:=ht u (List.mem_cons_of_mem _ hu)
      unfold iz at g1
      have:u.toNat≠t.toNat:=fun e=>hn.1 (by rw [show t=u by omega];exact hu);exact⟨by unfold iz;rw [hlen];exact g1,by show (gT _ _).st=4;rw [ec _ this];exact g2⟩
theorem Us (l:Nat):∀(to:List Int) (x:aB),x.g.length=64->(∀t∈to,0<=t/\t<64)->∀v w:Nat,aq (ot (n4 l x to).g v) w=true->aq (ot x.g v) w=true
  | [],_,_,_,_,_,h=>h
  |t::r,x,vZ,ht,v,w,h=>by
    have q:=Us l r (oJ l x t) (by show (x.g.set _ _).length=64;rw [List.length_set];exact vZ) (fun u hu=>ht u (List.mem_cons_of_mem _ hu)) v w h;have:=ht t (List.mem_cons_self ..);exact(ns vZ (show t.toNat<64 by omega) (G:=x.g) (w:=t.toNat) q).2
theorem OQ.lV (hI:MI k x) (hA:jT (im x.s)) {to:List Int} (h:OQ (fun j=>(j:Int)∈to) d z x) (ht:∀t∈to,iz x.ts.length t/\bY x t.toNat=4) (hn:to.Nodup) (hd:d=(l:Int)\/d= -1) (hl:l<x.lk.length)
    {E:Nat->Prop} (hq:MQ E (cT x l to)) (hE:d=(l:Int)->∀t,E t->t=z) (hz:∀w:Nat,aq (ot x.g z) w=false) (Z3:∀y∈(gL x l).wt,y.who.toNat≠z):OQ fw (-1) z (cT x l to)/\∀w:Nat,aq (ot (cT x l to).g z) w=false:=by
  have hs:=oE l to x;have rB:=hI.tl;have sI:gL (n4 l x to) l=gL x l:=by unfold gL;rw [hs.2.1]
  refine OQ.UG (x:=n4 l x to) (hI.n4 (l:=l) (to:=to) (fun t q=>(ht t q).1)) (by rw [hs.2.2.1];exact hA) (OQ.gvs to hI h ht hn) hd (by rw [hs.2.1];exact hl) (E:=E) ⟨hq.q,hq.l⟩ hE (fun w=>?_) (by rw [sI];exact Z3);cases c:aq (ot (n4 l x to).g z) w with
  |false=>rfl
  |true=>
    have:=Us l to x hI.gi.l (fun t q=>by have:=(ht t q).1;unfold iz at this;omega) z w c;rw [hz] at this;cases this
theorem CE (hI:MI k x):∀v,v<x.ts.length->bY x v=4->0<=cJ x v/\cJ x v≠-1:=fun v hv h4=>by
  have:=((hI.tb v hv).l4 h4).1;exact⟨this,by show (gT x v).lk≠-1;omega⟩
theorem OQ.clean (hI:MI k x) {z':Nat} (h:OQ E (-1) z x):OQ E (-1) z' x:=⟨h.ho,h.wt,fun v u e=>by
  obtain ⟨a,b,c⟩:=h.ed v u e;exact⟨a,b,c.imp id (fun q=>absurd q.1 (CE hI v a b).2)⟩,h.no⟩
theorem OQ.Zk (hI:MI k x) (h:OQ E d z x) (ht:¬(t<x.ts.length/\bY x t=4)):∀w:Nat,aq (ot x.g t) w=false:=fun w=>by
  cases c:aq (ot x.g t) w with
  |false=>rfl
  |true=>exact absurd ⟨(h.ed t w c).1,(h.ed t w c).2.1⟩ ht
theorem OQ.back {M:bf} {to:List Int} {cI:List Hd} {kd:Int} {z0:Nat} (hI:MI k x) (hA:jT (im x.s)) (h:OQ fw (-1) z0 x) (hq:MQ E x) (hE:∀u,E u->u=t) (hl:l<x.lk.length) (hM:LI x.ts.length k M)
    (hh:bj (gL x l) t=true) (hT:oe (gL x l) M ((gL x l).ho.eraseIdx (gE (gL x l).ho t)) to cI) (Sn:kd≠8) (hz:∀w:Nat,aq (ot x.g t) w=false) (Z3:∀y∈(gL x l).wt,y.who.toNat≠t)
    (hG:MQ E (cT (aY (ba x kd t l 0) l M) l to)):OQ fw (-1) t (cT (aY (ba x kd t l 0) l M) l to)/\∀w:Nat,aq (ot (cT (aY (ba x kd t l 0) l M) l to).g t) w=false:=by
  have hL:=hI.li l hl;have iC:=(hI.fX kd t l 0).aY (l:=l) (hM.mono (Nat.le_refl _) (Nat.le_succ k));have sI:gL (aY (ba x kd t l 0) l M) l=M:=(fc (x:=ba x kd t l 0) hl M l).trans (if_pos rfl)
  have eK:∀u∈to,iz x.ts.length u/\bY x u.toNat=4/\cJ x u.toNat=(l:Int):=fun u hu=>by
    obtain ⟨y,hy,rfl⟩:=hT.ti u hu;exact⟨hL.i.wt y hy,hq.l.wt l hl y hy⟩
  have dX:to.Nodup:=by
    have:=hM.w.hd;rw [hT.ho,List.map_append,hT.tq] at this;exact(List.nodup_append.1 this).2.1
  have h1:OQ (fun j=>(j:Int)∈to) l t (aY (ba x kd t l 0) l M):=OQ.put (h.fX (a:=kd) (t:=t) (l:=l) (n:=0) (fun e=>absurd e Sn)) (CE (hI.fX kd t l 0)) hl (fun _ q=>q.elim) (fun u hu=>by
    obtain ⟨g,hg,e⟩:=hu;rw [hT.ho] at hg;rcases List.mem_append.1 hg with q|q
    ·exact .inl ⟨g,List.mem_of_mem_eraseIdx q,e⟩
    · have FD:g.t∈to:=by rw [<-hT.tq];exact List.mem_map_of_mem q
      have:=eK g.t FD;rw [e] at FD this;rw [Int.toNat_natCast] at this;exact .inr (.inr ⟨FD,this.2⟩)) (fun u hu=>by
    obtain ⟨g,hg,e⟩:=hu
    by_cases c:u=t
    ·exact .inr ⟨rfl,c⟩
    · refine .inl ⟨g,?_,e⟩
      rw [hT.ho];exact List.mem_append_left _ ((pM hL.w.hd hh g).2 (List.mem_filter.2 ⟨hg,decide_eq_true (by rw [e];omega)⟩)))
  refine OQ.lV iC hA h1 (fun u hu=>⟨(eK u hu).1,(eK u hu).2.1⟩) dX (.inl rfl) (by rw [cj];exact hl) hG (fun _=>hE) hz (fun y hy=>?_);rw [sI] at hy;exact Z3 y (hT.w1 y hy)
theorem OQ.lv {k:Nat} {x:aB} {l t:Nat} (hI:MI k x) (h:OQ fw (-1) 64 x) (hq:MQ fw x) (hl:l<x.lk.length) (hw:bT (gL x l) t=true):
    OQ (fun j=>(j:Int)∈oc (gL x l) t) (-1) 64 (aY x l (fR (gL x l) t))/\(oc (gL x l) t).Nodup/\(∀u∈oc (gL x l) t,iz x.ts.length u/\bY x u.toNat=4/\u≠t)/\(∀y∈(fR (gL x l) t).wt,y∈(gL x l).wt):=by
  obtain ⟨cI,e1,e2,e3,e4,e5,e6,e7⟩:=oe.lv hw;have hL:=hI.li l hl
  have eK:∀u∈oc (gL x l) t,iz x.ts.length u/\bY x u.toNat=4/\cJ x u.toNat=(l:Int):=fun u hu=>by
    obtain ⟨_,y,hy,rfl⟩:=e5 u hu;exact⟨hL.i.wt y hy,hq.l.wt l hl y hy⟩
  refine ⟨OQ.put h (CE hI) hl (fun _ q=>q.elim) (fun u hu=>?_) (fun u hu=>?_),?_,fun u hu=>⟨(eK u hu).1,(eK u hu).2.1,(e5 u hu).1⟩,fun y hy=>(e3 y hy).1⟩
  · obtain ⟨g,hg,e⟩:=hu
    rw [e1] at hg;rcases List.mem_append.1 hg with q|q
    ·exact .inl ⟨g,q,e⟩
    · have FD:g.t∈oc (gL x l) t:=by rw [<-e2];exact List.mem_map_of_mem q
      have:=eK g.t FD;rw [e] at FD this;rw [Int.toNat_natCast] at this;exact .inr (.inr ⟨FD,this.2⟩)
  · obtain ⟨g,hg,e⟩:=hu
    exact .inl ⟨g,by rw [e1];exact List.mem_append_left _ hg,e⟩
  · have:=(hL.lv t).w.hd
    rw [e1,List.map_append,e2] at this;exact(List.nodup_append.1 this).2.1
theorem OQ.off (h:OQ fw d z x) (ht:t<x.ts.length) (h1:y.st≠4) (h3:y.pc=(gT x t).pc) (h4:y.pr=(gT x t).pr) (hz:∀w:Nat,aq (ot x.g t) w=false):OQ fw d z (bR x t y):=by
  have hg:∀j,gT (bR x t y) j=if t=j then y else gT x j:=dB ht y
  have hn:∀j,t≠j->gT (bR x t y) j=gT x j:=fun j e=>by rw [hg,if_neg e]
  have hx:∀j,qv (bR x t y) j=qv x j/\pf (bR x t y) j=pf x j:=fun j=>by
    constructor
    · show (x.s.ps.getD (gT (bR x t y) j).pr.toNat default).xs=_
      rw [hg];split
      ·next e=>rw [h4,e]
      ·rfl
    · show (gT (bR x t y) j).pc.toNat=_
      rw [hg];split
      ·next e=>rw [h3,e]
      ·rfl
  refine ⟨fun l eE u hu=> .inl ?_,fun u hu jQ=>?_,fun v u e=>?_,h.no⟩
  · have q:=(h.ho l eE u hu).resolve_right (fun q=>q.1)
    unfold qP;rw [(hx u).1,(hx u).2];exact q
  · have e:t≠u:=fun e=>by
      have jQ:(gT (bR x t y) u).st=4:=jQ;rw [hg,if_pos e] at jQ;exact h1 jQ
    have jQ:(gT (bR x t y) u).st=4:=jQ;rw [hn u e] at jQ
    unfold vu;rw [(hx u).1,(hx u).2,show cJ (bR x t y) u=cJ x u by show (gT _ u).lk=_;rw [hn u e]]
    exact h.wt u (by rw [<-aW x t y];exact hu) jQ
  · have e0:t≠v:=fun c=>by
      have e:aq (ot x.g v) u=true:=e;rw [<-c,hz] at e;cases e
    obtain ⟨a,b,c⟩:=h.ed v u e;exact⟨by rw [aW];exact a,by show (gT _ v).st=4;rw [hn v e0];exact b,by rw [show cJ (bR x t y) v=cJ x v by show (gT _ v).lk=_;rw [hn v e0]];exact c⟩
theorem OQ.afJ {w0:cR} (hI:MI k x) (hA:jT (im x.s)) (hT:MT w0 x) (h:OQ fw (-1) 64 x) (ht:t<x.ts.length):OQ fw (-1) 64 (oo x t):=by
  have hG:=(Mz hI hT.q ht hT.a).1;have rB:=hI.tl
  unfold oo at hG ⊢
  split at hG
  ·rw [if_pos aC];exact h
  next e0=>
  rw [if_neg e0]
  split at hG
  · next e3=>
    rw [if_pos e3];exact((h.up ht (y:=C9 (gT x t)) (.inr ⟨by show (1:Int)≠4;decide,by rw [e3];decide⟩) (.inr (by rw [e3];decide)) rfl rfl).cs _ _ _ _ _).fX (fun e=>absurd e (by decide))
  next e3=>
  rw [if_neg e3];have e4:bY x t=4:=((hI.tb t ht).un e0).resolve_left e3;have T1:=(hI.tb t ht).l4 e4;obtain ⟨l,hle⟩:∃l:Nat,(gT x t).lk=(l:Int):=⟨(gT x t).lk.toNat,by omega⟩
  have hl:l<x.lk.length:=by rw [hI.ll];omega
  rw [hle,Int.toNat_natCast] at hG ⊢;obtain ⟨y,hy,ey⟩:=hT.q.l.s4 t ht e4 (fun q=>q);have hy:y∈(gL x l).wt:=by rw [show (cJ x t).toNat=l by show (gT x t).lk.toNat=l;omega] at hy;exact hy
  have hw:bT (gL x l) t=true:=sZ ⟨y,hy,ey⟩;obtain ⟨h1,h2,h3,h4⟩:=OQ.lv hI h hT.q hl hw;have iC:=(hI.aY (l:=l) ((hI.li l hl).lv t)).fX 8 t l 10;have q:=OQ.leave (h1.fX (a:=8) (t:=t) (l:=l) (n:=10) (fun _=>by decide)) (t:=t) hI.gi.l ht om (hI.tb t ht).pc.1 e4;have hlen:∀Y:aB,(dH (cC (bh Y t) t) t).ts.length=Y.ts.length:=fun Y=>(aW (cC (bh Y t) t) t _).trans (aW ..)
  have ec:∀(Y:aB) (u:Nat),Y.ts.length=x.ts.length->u≠t->gT (dH (cC (bh Y t) t) t) u=gT Y u:=fun Y u hY hu=>by
    have e1:gT (dH (cC (bh Y t) t) t) u=if t=u then _ else gT (cC (bh Y t) t) u:=dB (x:=cC (bh Y t) t) (by show t<(bR Y t _).ts.length;rw [aW,hY];exact ht) _ u
    rw [e1,if_neg (fun c=>hu c.symm)];have e2:gT (bh Y t) u=if t=u then _ else gT Y u:=dB (by rw [hY];exact ht) _ u
    show gT (bh Y t) u=_
    rw [e2,if_neg (fun c=>hu c.symm)]
  have Zo:=((iC.inc (t:=t) ht).cut (t:=t) (by show t<(bR _ t _).ts.length;rw [aW];exact ht)).EJ (t:=t) (by show t<(bR _ t _).ts.length;rw [aW];exact ht);refine (OQ.clean (MI.lV Zo l (to:=oc (gL x l) t) ?_ ?_) (OQ.lV Zo hA (q.mono (fun j hj=>hj.1)) ?_ h2 (.inr rfl) (by show l<(aY x l _).lk.length;rw [cj];exact hl) hG (fun e=>absurd e om) ?_ ?_).1:_)
  ·intro u hu;unfold iz;rw [hlen];exact(h3 u hu).1
  · have:=(hI.li l hl).w.w8
    exact Nat.le_trans (pU _ _) this
  · intro u hu
    have hut:u.toNat≠t:=fun e=>by have:=(h3 u hu).1;unfold iz at this;exact(h3 u hu).2.2 om
    refine ⟨by unfold iz;rw [hlen];exact(h3 u hu).1,?_⟩
    show (gT _ u.toNat).st=4
    rw [ec (ba (aY x l (fR (gL x l) t)) 8 t l 10) u.toNat rfl hut];exact(h3 u hu).2.1
  ·exact OQ.Zk Zo q (fun c=>by have:=c.1;rw [hlen] at this;have:(64:Nat)<x.ts.length:=this;omega)
  · intro y hy
    have hy:y∈(gL (aY x l (fR (gL x l) t)) l).wt:=hy;rw [fc hl,if_pos rfl] at hy;have:=(hI.li l hl).i.wt y (h4 y hy);unfold iz at this;omega
theorem OQ.oy {w0:cR} {k:Nat} {x:aB} {t:Nat} (hI:MI k x) (hA:jT (im x.s)) (hT:MT w0 x) (h:OQ fw (-1) 64 x) (ht:t<x.ts.length):OQ fw (-1) 64 (Go.Eng.oy x t):=by
  have hG:=(FZ hI hT.q ht hT.a).1;have rB:=hI.tl
  unfold Go.Eng.oy at hG ⊢
  by_cases e:(gT x t).st=4
  · rw [if_pos e] at hG ⊢
    have T1:=(hI.tb t ht).l4 e;obtain ⟨l,hle⟩:∃l:Nat,(gT x t).lk=(l:Int):=⟨(gT x t).lk.toNat,by omega⟩
    have hl:l<x.lk.length:=by rw [hI.ll];omega
    rw [hle,Int.toNat_natCast] at hG ⊢;obtain ⟨y,hy,ey⟩:=hT.q.l.s4 t ht e (fun q=>q);have hy:y∈(gL x l).wt:=by rw [show (cJ x t).toNat=l by show (gT x t).lk.toNat=l;omega] at hy;exact hy
    have hw:bT (gL x l) t=true:=sZ ⟨y,hy,ey⟩;obtain ⟨h1,h2,h3,h4⟩:=OQ.lv hI h hT.q hl hw;have iC:=hI.aY (l:=l) ((hI.li l hl).lv t);refine (OQ.lV iC hA h1 (fun u hu=>⟨(h3 u hu).1,(h3 u hu).2.1⟩) h2 (.inr rfl) (by rw [cj];exact hl) hG (fun e=>absurd e om) ?_ ?_).1
    ·exact OQ.Zk iC h1 (fun c=>by have:(64:Nat)<x.ts.length:=c.1;omega)
    · intro y hy
      have hy:y∈(gL (aY x l (fR (gL x l) t)) l).wt:=hy;rw [fc hl,if_pos rfl] at hy;have:=(hI.li l hl).i.wt y (h4 y hy);unfold iz at this;omega
  ·rw [if_neg e];exact h
theorem OQ.dis {w0:cR} {k:Nat} {x:aB} {t:Nat} (hI:MI k x) (hA:jT (im x.s)) (hq:MQ (fun j=>j=t) x) (ht:t<x.ts.length) (hw:Wl x t) (h5:bY x t≠5) (hV:AV w0 x.ev x.now (ks x)) {z0:Nat} (h:OQ fw (-1) z0 x) (hz:∀w:Nat,aq (ot x.g t) w=false):∀{n:Nat},n<=x.lk.length->
    (∃z,OQ fw (-1) z (lS t x n))/\∀w:Nat,aq (ot (lS t x n).g t) w=false
  |0,_=>⟨⟨_,h⟩,hz⟩
  |n+1,hn=>by
    obtain ⟨⟨z,o1⟩,o2⟩:=OQ.dis hI hA hq ht hw h5 hV h hz (n:=n) om;obtain ⟨a1,a2,a3,a4,a5⟩:=E8 hI hq ht hw h5 hV (n:=n) om;have hs:=jo t x n;have hIn:=hI.lS t (n:=n) om;have hl:n<(lS t x n).lk.length:=by rw [hs.2.1];omega
    have hG:=(N8 hIn a1 (by rw [hs.1];exact ht) (l:=n) hl a3 (by rw [a4];exact h5) a2).1;rw [kn]
    unfold tt at hG ⊢
    by_cases e:bj (gL (lS t x n) n) t=true
    · rw [if_pos e] at hG ⊢
      have hL:=hIn.li n hl
      have Qk:bT (gL (lS t x n) n) t=false:=by
        cases c:bT (gL (lS t x n) n) t with
        |false=>rfl
        |true=>
          obtain ⟨y,hy,q⟩:=List.any_eq_true.1 c;exact absurd (by rw [of_decide_eq_true q];rfl) (a3 n hl y hy)
      obtain ⟨cI,hT⟩:=oe.die Qk e;have q:=OQ.back hIn (by rw [hs.2.2.1];exact hA) o1 a1 (fun _ q=>q) hl (hL.die t) e hT (kd:=12) (by decide) o2 (a3 n hl) hG;exact⟨⟨_,q.1⟩,q.2⟩
    ·rw [if_neg e];exact⟨⟨_,o1⟩,o2⟩
theorem OQ.die {w0:cR} (hI:MI k x) (hA:jT (im x.s)) (hT:MT w0 x) (h:OQ fw (-1) 64 x) (ht:t<x.ts.length) (h5:bY x t≠5):OQ fw (-1) 64 (ku x t):=by
  obtain ⟨a1,a2,a3,a4⟩:=FZ hI hT.q ht hT.a;have rB:=hI.tl;have Bf:=oY x t;have iC:=hI.uC ht;have o1:=OQ.oy hI hA hT h ht;have TA:(Go.Eng.oy x t).g.length=64:=(hI.oy ht).gi.l;have o2:OQ fw (-1) 64 (uC x t):=o1.cut TA om
  have hz:∀w:Nat,aq (ot (uC x t).g t) w=false:=fun w=>by
    cases c:aq (ot (uC x t).g t) w with
    |false=>rfl
    |true=>exact absurd rfl (ns TA (show t<64 by omega) (G:=(Go.Eng.oy x t).g) (w:=t) c).1
  obtain ⟨⟨z,o3⟩,o4⟩:=OQ.dis (x:=uC x t) iC (by rw [Bf.2.2.1];exact hA) (a1.cut t) (by rw [Bf.1];exact ht) a3 (by show bY (Go.Eng.oy x t) t≠5;rw [a4];exact h5) a2 o2 hz (n:=x.lk.length) (by rw [Bf.2.1];exact Nat.le_refl _);have kq:=iC.lS t (n:=x.lk.length) (by rw [Bf.2.1];exact Nat.le_refl _);have qx:=jo t (uC x t) x.lk.length;rw [xz,show EN x t=eM (lS t (uC x t) x.lk.length) t from rfl]
  generalize lS t (uC x t) x.lk.length=y at*
  have yL:t<y.ts.length:=by rw [qx.1,Bf.1];exact ht
  have o5:OQ fw (-1) 64 (eM y t):=(OQ.clean kq o3).cs _ _ _ _ _;exact((o5.off (t:=t) yL (y:=tM (gT (eM y t) t)) (by show (5:Int)≠4;decide) rfl rfl o4).fX (a:=11) (t:=t) (l:= -1) (n:=0) (fun e=>absurd e (by decide)):_)
section
variable {w0:cR} {k:Nat} {x:aB} {t:Nat} (hI:MI k x) (hA:jT (im x.s)) (hT:MT w0 x) (h:OQ fw (-1) 64 x) (ht:t<x.ts.length) {o:bO} (pO:pf x t<(qv x t).length/\(qv x t).getD (pf x t) default=o)
include hI hA hT h ht pO
theorem OQ.Lj (hl:l<x.lk.length) (hh:qN x l t):qP x t l:=(h.ho l hl t hh).resolve_right (fun q=>q.1)
theorem OQ.UF (h2:bY x t=2) (ho:Lb x.s o) (hp:OpQ x.s o) (hk:2<=o.k/\o.k<=5):OQ fw (-1) 64 (mb x t o).1:=by
  have T1:=ho.l om;have eE:=hI.ll;obtain ⟨l,ft⟩:∃l:Nat,o.a=(l:Nat):=⟨o.a.toNat,(Int.toNat_of_nonneg T1.1).symm⟩
  have hl:l<x.lk.length:=by omega
  have h4:bY x t≠4:=by rw [h2];decide
  have BS:=(hI.tb t ht).pc.1;have z7:vu x t (l:Int):=⟨pO.1,by rw [pO.2];unfold cD;rw [decide_eq_true hk.1,decide_eq_true hk.2];rfl,by rw [pO.2,ft]⟩
  have gS:∀l',l'<x.lk.length->qN x l' t->pf x t<(qv x t).length->eH (l':Int) ((qv x t).getD (pf x t) default)=false:=fun l' _ _ _=>by rw [pO.2];exact fD om om
  have jJ:¬qN x l t:=fun q=>hA l (.base (wL hI hA ht hl hl (OQ.Lj hI hA hT h ht pO hl q) z7))
  have gK:bj (gL x l) t=false:=by
    cases c:bj (gL x l) t with
    |false=>rfl
    |true=>
      obtain ⟨g,hg,e⟩:=List.any_eq_true.1 c;exact absurd ⟨g,hg,of_decide_eq_true e⟩ jJ
  have hc9:cK (gL x l) t (tq x t l o)≠9:=by
    unfold cK;rw [gK];split
    ·decide
    ·rw [if_neg (by decide)];split<;>decide
  have h49:cV (gL x l) t (tq x t l o)≠9:=by
    unfold cV;split
    ·exact hc9
    ·split<;>decide
  have hM:=MT.UF hI hT ht h2 ho hp hk
  by_cases he:cV (gL x l) t (tq x t l o)=0
  · have hIt:=hI.UF (t:=t) ht (o:=o) om
    rw [KM ft he] at hM hIt ⊢;have hx1:=h.inc ht BS h4 gS;have iC:=hI.inc ht;have hf:=eL (gL x l) (tq x t l o)
    have e1:(cf (gL x l) t (tq x t l o)).ho=(gL x l).ho++ [⟨t,tq x t l o,(gL x l).di⟩] :=by
      unfold cf;rw [if_neg (by simpa using he)]
      show (bS (gL x l) (tq x t l o)).ho++ [⟨t,tq x t l o,(bS (gL x l) (tq x t l o)).di⟩] =_
      rw [hf.2.1,hf.2.2.2.2.2]
    have h1:OQ fw (-1) 64 (aY (bh x t) l (cf (gL x l) t (tq x t l o))):=OQ.put hx1 (CE iC) hl (fun _ q=>q) (fun u hu=>by
      obtain ⟨g,hg,e⟩:=hu;rw [e1] at hg;rcases List.mem_append.1 hg with q|q
      ·exact .inl ⟨g,q,e⟩
      · rw [List.mem_singleton] at q
        subst q;have hut:u=t:=by have e:(t:Int)=(u:Int):=e;omega
        subst hut;refine .inr (.inl ?_);have q:=jG.take z7.1 z7.2.1;rw [z7.2.2] at q;have e2:gT (bh x u) u=oM (gT x u):=(dB ht _ u).trans (if_pos rfl)
        unfold qP qv pf
        rw [show iu (bh x u) u=iu x u from by show x.s.ps.getD (gT (bh x u) u).pr.toNat default=_;rw [e2];rfl,e2]
        show jG _ _ ((gT x u).pc+1).toNat
        rw [show ((gT x u).pc+1).toNat=(gT x u).pc.toNat+1 by omega];exact q) (fun u hu=>by
      obtain ⟨g,hg,e⟩:=hu;exact .inl ⟨g,by rw [e1];exact List.mem_append_left _ hg,e⟩)
    have kq:MI _ (ba (aY (bh x t) l (cf (gL x l) t (tq x t l o))) 4 t l (dD (gL (aY x l (cf (gL x l) t (tq x t l o))) l) t)):=hIt.gr hI.gi;have hq:MQ fw (ba (aY (bh x t) l (cf (gL x l) t (tq x t l o))) 4 t l (dD (gL (aY x l (cf (gL x l) t (tq x t l o))) l) t)):=⟨hM.q.q,hM.q.l⟩
    have rB:=hI.tl
    have q:=OQ.UG kq hA (h1.fX (a:=4) (t:=t) (l:=l) (n:=dD (gL (aY x l (cf (gL x l) t (tq x t l o))) l) t) (fun e=>absurd e (by decide))) (.inr rfl) (l:=l) (by show l<(aY (bh x t) l _).lk.length;rw [cj];exact hl) hq (fun e=>absurd e om)
      (OQ.Zk iC hx1 (fun c=>by have:=c.1;rw [show (bh x t).ts.length=x.ts.length from aW ..] at this;omega):_) (fun y hy=>by
        have:=(kq.li l (by show l<(aY (bh x t) l _).lk.length;rw [cj];exact hl)).i.wt y hy
        unfold iz at this
        have e:(ba (aY (bh x t) l (cf (gL x l) t (tq x t l o))) 4 t l (dD (gL (aY x l (cf (gL x l) t (tq x t l o))) l) t)).ts.length=x.ts.length:=aW ..;omega)
    exact q.1
  by_cases yy:lG x t o≠0
  · rw [Ko ft he yy]
    refine OQ.inc (h.fX (a:=8) (t:=t) (l:=l) (n:=lG x t o) (fun _=>?_)) ht BS h4 gS
    by_cases h8:cV (gL x l) t (tq x t l o)=8/\o.k≠4
    · rw [ta ft h8.1 h8.2,OQ.ring hI hA h h.ed (OQ.Zk hI h (fun c=>by have:=hI.tl;omega)) hl ht z7 (.inl (by have:=hI.tl;omega)),if_neg (by decide)]
      unfold jF;split
      ·exact hc9
      · split
        ·decide
        ·split<;>decide
    ·rw [wc ft h8];exact h49
  · rw [Fy ft he yy,ya ft]
    have e1:(du (gL x l) t (tq x t l o)).ho=(gL x l).ho:=by unfold du;split<;>rfl
    have h1:OQ fw (-1) 64 (aY x l (du (gL x l) t (tq x t l o))):=OQ.put h (CE hI) hl (fun _ q=>q) (fun u hu=>by
      obtain ⟨g,hg,e⟩:=hu;exact .inl ⟨g,by rw [e1] at hg;exact hg,e⟩) (fun u hu=>by
      obtain ⟨g,hg,e⟩:=hu;exact .inl ⟨g,by rw [e1];exact hg,e⟩)
    have h3:OQ fw (-1) 64 (kV x t l o):=(h1.fX (a:=6) (t:=t) (l:=l) (n:=0) (fun e=>absurd e (by decide))).cs _ _ _ _ _;refine OQ.wait (t:=t) (l:=l) h3 ht h4 (y:=wg (gT x t) o x.now) rfl (by show o.a=_;exact ft) rfl rfl z7 (fun q=>q) (fun v u e=>?_);have hz:=OQ.Zk hI h (t:=t) (fun c=>h4 c.2)
    unfold qt at e
    by_cases c:vY x.g t (gV (gL (kV x t l o) l))=0
    · rw [if_pos c] at e
      have rB:=hI.tl;rw [jA hI.gi.l om] at e
      by_cases hv:v=t
      · rw [if_pos om] at e
        exact .inr ⟨hv,.inl (vK e)⟩
      · rw [if_neg om] at e
        exact .inl ⟨hv,e⟩
    · rw [if_neg c] at e
      by_cases hv:v=t
      ·rw [hv,hz] at e;cases e
      ·exact .inl ⟨hv,e⟩
theorem OQ.eF {c:Nat} (hc:c<x.cs.length) (mO:(qg x.cs c).cur=(t:Int)) (h2:bY x t=2) (ho:Lb x.s o) (hp:OpQ x.s o):OQ fw (-1) 64 (Go.Eng.eF x t c o).1:=by
  have h4:bY x t≠4:=by rw [h2];decide
  have BS:=(hI.tb t ht).pc.1;have tF:=hI.ll
  have fin:∀y:aB,OQ fw (-1) 64 y->t<y.ts.length->(gT y t).pc=(gT x t).pc->(gT y t).pr=(gT x t).pr->(gT y t).st=(gT x t).st->y.s=x.s->(∀l,l<y.lk.length->qN y l t->eH (l:Int) o=false)->OQ fw (-1) 64 (bh y t):=fun y hy yL e1 e2 e3 e4 hs=>by
    refine hy.inc yL (by rw [e1];exact BS) (by show (gT y t).st≠4;rw [e3];exact h4) (fun l hl hh _=>?_);rw [show qv y t=qv x t from by show (y.s.ps.getD (gT y t).pr.toNat default).xs=_;rw [e4,e2],show pf y t=pf x t from by show (gT y t).pc.toNat=_;rw [e1],pO.2];exact hs l hl hh
  have eK:∀l,l<x.lk.length->∀u,qN x l u->u<x.ts.length:=fun l hl u ⟨g,hg,e⟩=>by
    have:=(hI.li l hl).i.ho g hg;unfold iz at this;omega
  by_cases h1:o.k=1
  · rw [Zm h1]
    have hq:OQ fw (-1) 64 (zx x t o.a):=(h.up ht (y:=Gz (gT x t) o.a) (.inl rfl) (.inl rfl) rfl rfl).WT (f:=fun L=>jt L t) (fun L=>(CG L t).1);have hlen:(zx x t o.a).ts.length=x.ts.length:=aW ..;have e:=N0 ht o.a
    show OQ fw (-1) 64 (oW x t o.a)
    unfold oW;split
    ·exact fin _ hq (by rw [hlen];exact ht) (by rw [e];rfl) (by rw [e];rfl) (by rw [e];rfl) rfl (fun l _ _=>fD om om)
    ·exact hq
  by_cases uB:2<=o.k/\o.k<=5
  ·rw [AE uB];exact OQ.UF hI hA hT h ht pO h2 ho hp uB
  by_cases h6:o.k=6
  · have hl:=ho.l om
    obtain ⟨l,ft⟩:∃l:Nat,o.a=(l:Nat):=⟨o.a.toNat,(Int.toNat_of_nonneg hl.1).symm⟩
    have eE:l<x.lk.length:=by omega
    have hL:=hI.li l eE;have e1:o.a.toNat=l:=by omega
    by_cases he:kb (gL x o.a.toNat) t≠0
    · rw [Ks h6 he]
      have e7:kb (gL x o.a.toNat) t=7:=by
        unfold kb at he ⊢;split
        ·next q=>rw [if_pos q] at he;exact absurd rfl he
        ·rfl
      refine fin _ (h.fX (fun _=>by rw [e7];decide)) ht rfl rfl rfl rfl (fun l' hl' hh=>fD om (fun _ q=>?_));have hh:qN x l' t:=hh;obtain ⟨g,hg,e⟩:=hh;refine he ?_
      unfold kb
      rw [if_pos];refine List.any_eq_true.2 ⟨g,?_,decide_eq_true e⟩;rw [show o.a.toNat=l' by omega];exact hg
    · rw [KI h6 he,e1,ft]
      have hh:bj (gL x l) t=true:=by
        rw [e1] at he;unfold kb at he;cases c:bj (gL x l) t with
        |true=>rfl
        |false=>rw [c] at he;exact absurd (by decide) he
      have hs:=cQ l (aY (ba x 5 t l 0) l (dP (gL x l) t)) (dI (gL x l) t);have kq:=((hI.fX 5 t l 0).aY (l:=l) ((hL.yF t).mono (Nat.le_refl _) (Nat.le_succ k))).lV l (hL.i.dI t) (Nat.le_trans (k4 ..) hL.w.w8);have gW:aY (ba x 5 t l 0) l (dP (gL x l) t)=ba (aY x l (dP (gL x l) t)) 5 t l 0:=rfl;rw [<-gW];have hG:=(MT.lV hI hT l eE ht (hL.yF t) hh (oe.yF hh) h2).q;obtain ⟨cI,hU⟩:=oe.yF hh;have q:=OQ.back hI hA h hT.q (fun _ q=>q.elim) eE (hL.yF t) hh hU (kd:=5) (by decide) (OQ.Zk hI h (fun c=>h4 c.2)) (fun y hy=>hT.q.X6 h4 l eE y hy) hG
      have ec:∀u∈dI (gL x l) t,u.toNat≠t:=fun u hu q=>by
        have h1:=AP hL.w.toqH hu;have h2:=hL.i.dI t u hu
        unfold iz at h2;omega
      have hg:gT (cT (aY (ba x 5 t l 0) l (dP (gL x l) t)) l (dI (gL x l) t)) t=gT x t:=qY l (dI (gL x l) t) (aY (ba x 5 t l 0) l (dP (gL x l) t)) ec;refine fin _ (OQ.clean kq q.1) (by rw [hs.1];exact ht) (by rw [hg]) (by rw [hg]) (by rw [hg]) (hs.2.2.1) (fun l' hl' hh'=>fD om (fun _ e=>?_));have ajA:l'=l:=by omega
      subst ajA;obtain ⟨g,hg1,ZY⟩:=hh'
      have sI:gL (cT (aY (ba x 5 t l' 0) l' (dP (gL x l') t)) l' (dI (gL x l') t)) l'=dP (gL x l') t:=by
        have e:gL (cT (aY (ba x 5 t l' 0) l' (dP (gL x l') t)) l' (dI (gL x l') t)) l'=gL (aY (ba x 5 t l' 0) l' (dP (gL x l') t)) l':=by unfold gL;rw [hs.2.1]
        rw [e];exact(fc (x:=ba x 5 t l' 0) eE _ l').trans (if_pos rfl)
      rw [sI,hU.ho] at hg1;rcases List.mem_append.1 hg1 with r|r
      · have:=(pM hL.w.hd hh g).1 r
        exact absurd ZY (of_decide_eq_true (List.mem_filter.1 this).2)
      · have:=ec g.t (by rw [<-hU.tq];exact List.mem_map_of_mem r)
        rw [ZY] at this;exact this rfl
  by_cases h7:o.k=7
  · rw [VP h7]
    exact OQ.nxt (x:=IU x t o.a) ((h.fX (a:=9) (t:=t) (l:= -1) (n:=o.a) (fun e=>absurd e (by decide))).cs _ _ _ _ _) ht BS h4 (by show (3:Int)≠4;decide) rfl rfl (fun l _ _ _=>by
      rw [show (qv (IU x t o.a) t).getD (pf (IU x t o.a) t) default=o from pO.2];exact fD om om)
  by_cases h8:o.k=8
  · rw [Y9 h8]
    exact OQ.nxt (x:=QQ x t c) ((h.fX (a:=10) (t:=t) (l:= -1) (n:=c) (fun e=>absurd e (by decide))).cs _ _ _ _ _) ht BS h4 (by show (1:Int)≠4;decide) rfl rfl (fun l _ _ _=>by
      rw [show (qv (QQ x t c) t).getD (pf (QQ x t c) t) default=o from pO.2];exact fD om om)
  by_cases h9:o.k=9
  · rw [VX h9]
    show OQ fw (-1) 64 (bh _ t)
    split
    · have e:gT (pk x o.a (gT x t).gr (gT x t).we c) t=gT x t:=by
        show (x.ts++ [_]).getD t default=_
        rw [List.getD_eq_getElem?_getD,List.getElem?_append_left ht,<-List.getD_eq_getElem?_getD]
      refine fin _ (((h.snoc (y:=AK x.ts.length o.a (gT x t).gr (gT x t).we c) (by show (1:Int)≠4;decide) eK).cs _ _ _ _ _).fX (a:=1) (t:=x.ts.length) (l:= -1) (n:=c) (fun e=>absurd e (by decide))) (by show t<(x.ts++ [_]).length;rw [List.length_append];omega) (congrArg iy.pc e) (congrArg iy.pr e) (congrArg iy.st e) rfl (fun l _ _=>fD om om)
    ·exact fin _ (h.fX (fun _=>by decide)) ht rfl rfl rfl rfl (fun l _ _=>fD om om)
  by_cases je:o.k=10
  · rw [I0 je]
    have e:gT (bR x t {gT x t with we:=o.a}) t= {gT x t with we:=o.a} :=(dB ht _ t).trans (if_pos rfl);exact fin _ ((h.up ht (y:= {gT x t with we:=o.a}) (.inl rfl) (.inl rfl) rfl rfl).fX (a:=14) (t:=t) (l:= -1) (n:=o.a) (fun e=>absurd e (by decide))) (by show t<(bR x t _).ts.length;rw [aW];exact ht) (by show (gT (bR x t _) t).pc=_;rw [e]) (by show (gT (bR x t _) t).pr=_;rw [e]) (by show (gT (bR x t _) t).st=_;rw [e]) rfl (fun l _ _=>fD om om)
  · have hk:=ho.k
    rw [JF om];exact OQ.die hI hA hT h ht (by rw [h2];decide)
end
theorem OQ.bare (h:OQ E d z x) (ht:t<x.ts.length) (h4:bY x t≠4) (h1:y.st≠4) (hn:∀l,l<x.lk.length->¬qN x l t):OQ E d z (bR x t y):=by
  have hg:∀j,gT (bR x t y) j=if t=j then y else gT x j:=dB ht y
  have hj:∀j,t≠j->gT (bR x t y) j=gT x j:=fun j e=>by rw [hg,if_neg e]
  have hx:∀j,t≠j->qv (bR x t y) j=qv x j:=fun j e=>by
    show (x.s.ps.getD (gT (bR x t y) j).pr.toNat default).xs=_;rw [hj j e]
  refine ⟨fun l hl u hu=>?_,fun u hu jQ=>?_,fun v u e=>?_,h.no⟩
  · have e:t≠u:=fun e=>hn l hl (e▸hu)
    have q:=h.ho l hl u hu
    unfold qP pf bY cJ at q ⊢;rw [hx u e,hj u e];exact q
  · have jQ:(gT (bR x t y) u).st=4:=jQ
    have e:t≠u:=fun e=>by rw [hg,if_pos e] at jQ;exact h1 jQ
    rw [hj u e] at jQ;have q:=h.wt u (by rw [<-aW x t y];exact hu) jQ
    unfold vu pf cJ at q ⊢;rw [hx u e,hj u e];exact q
  · obtain ⟨a,b,c⟩:=h.ed v u e
    have e0:t≠v:=fun e=>h4 (e▸b);refine ⟨by rw [aW];exact a,by show (gT _ v).st=4;rw [hj v e0];exact b,?_⟩;rw [show cJ (bR x t y) v=cJ x v by show (gT _ v).lk=_;rw [hj v e0]];exact c
section
variable {w0:cR} {k:Nat} {x:aB} (hI:MI k x) (hA:jT (im x.s)) (hT:MT w0 x) (h:OQ fw (-1) 64 x)
include hI hA hT h
theorem OQ.pcr (ht:t<x.ts.length) (h2:bY x t=2) (hd:¬(((iu x t).xs.length:Int)<=(gT x t).pc/\(iu x t).fv=false)):OQ fw (-1) 64 (Go.Eng.iP x t):=by
  unfold Go.Eng.iP;split
  · next e=>
    have hfv:(iu x t).fv=true:=by
      cases c:(iu x t).fv with
      |true=>rfl
      |false=>exact absurd ⟨e,c⟩ hd
    have hp:=(hI.tb t ht).pr;have hm:iu x t∈x.s.ps:=List.mem_of_getElem? (aH default (show (gT x t).pr.toNat<x.s.ps.length by omega));have hf:=(lp ((gu hI.ms).2.2 (iu x t) hm)).2;rw [hfv] at hf;have BS:=(hI.tb t ht).pc.1;refine h.bare ht (by rw [h2];decide) (y:= {gT x t with pc:=0}) (by show (gT x t).st≠4;rw [show (gT x t).st=2 from h2];decide) (fun l hl hh=>?_);exact jG.wrap hf (show (qv x t).length<=pf x t by show (iu x t).xs.length<=(gT x t).pc.toNat;omega) ((h.ho l hl t hh).resolve_right (fun q=>q.1))
  ·exact h
theorem OQ.Rn {c:Nat} (ht:t<x.ts.length) (hc:c<x.cs.length) (mO:(qg x.cs c).cur=(t:Int)) (h2:bY x t=2):OQ fw (-1) 64 (fb x t c).1:=by
  by_cases hd:((iu x t).xs.length:Int)<=(gT x t).pc/\(iu x t).fv=false
  ·rw [rL hd.1 hd.2];exact OQ.die hI hA hT h ht (by rw [h2];decide)
  have e:fb x t c=Go.Eng.eF (Go.Eng.iP x t) t c ((iu x t).xs.getD (gT (Go.Eng.iP x t) t).pc.toNat default):=if_neg hd;have zr:=C5 hI ht;have pO:=hI.op ht zr.1;have Ys:=M6 hI.ms (p:=iu x t) (List.mem_of_getElem? (aH default (show (gT x t).pr.toNat<x.s.ps.length by have:=(hI.tb t ht).pr;omega))) zr.1;have hs:=vG (x:=x) (t:=t);have hF:=Ua ht t;have htp:t<(Go.Eng.iP x t).ts.length:=by rw [hs.1];exact ht
  have Tf:Lb (Go.Eng.iP x t).s ((iu x t).xs.getD (gT (Go.Eng.iP x t) t).pc.toNat default):=by rw [hs.2.2.1];exact pO
  have hpr:(gT (Go.Eng.iP x t) t).pr=(gT x t).pr:=by
    unfold Go.Eng.iP;split
    ·rw [dB ht,if_pos rfl]
    ·rfl
  have hx:qv (Go.Eng.iP x t) t=(iu x t).xs:=by
    show ((Go.Eng.iP x t).s.ps.getD (gT (Go.Eng.iP x t) t).pr.toNat default).xs=_;rw [hs.2.2.1,hpr]
  rw [e];exact OQ.eF (hI.iP ht) (by rw [hs.2.2.1];exact hA) (MT.pcr hI hT ht) (OQ.pcr hI hA hT h ht h2 hd) htp ⟨by rw [hx];exact zr.1,by rw [hx]⟩ (by rw [hs.2.2.2.2.2.2];exact hc) (by rw [hs.2.2.2.2.2.2];exact mO) (hF.1.trans h2) Tf (by rw [hs.2.2.1];exact Ys)
end
theorem OQ.run {w0:cR} {t c:Nat} :∀{f k:Nat} {x:aB},MI k x->jT (im x.s)->MT w0 x->OQ fw (-1) 64 x->t<x.ts.length->c<x.cs.length->(qg x.cs c).cur=(t:Int)->bY x t=2->OQ fw (-1) 64 (oA t c f x)
  |0,k,x,_,_,_,h,_,_,_,_=>h
  |f+1,k,x,hI,hA,hT,h,ht,hc,mO,h2=>by
    have kK:bN x.cs t<x.cs.length:=by
      have:=hI.ci.wf.at (a:=(t:Int)) hc (by have q:=(hI.ci.wf.wf c hc).ix (show 0<=(qg x.cs c).cur by omega);rw [mO] at q;exact q);omega
    have q0:=OQ.Rn hI hA hT h ht hc mO h2;obtain ⟨q1,q2⟩:=MT.Rn hI hT ht hc mO h2
    unfold oA
    split
    ·exact q0
    · next e=>
      have e:(fb x t c).2=false:=by simpa using e
      obtain ⟨e1,e2,e3,e4⟩:=qi hI ht kK (c:=c) e;obtain ⟨r1,r2⟩:=q2 e;have kq:=hI.Rn ht hc kK;have wT:c<(fb x t c).1.cs.length:=by have a1:=kq.ce;have a2:=hI.ce;rw [e4] at a1;omega
      exact OQ.run kq (by rw [e4];exact hA) q1 q0 e2 wT (MT.cur kq q1 e2 r1 r2) r1
/-! weights -/
theorem OQ.tp {x:aB} (h:OQ fw (-1) 64 x) (fC:List Int) {i:Nat} (hi:i<x.ts.length):OQ fw (-1) 64 (Go.Eng.tp fC x i):=by
  unfold Go.Eng.tp;split
  ·exact h
  ·exact(h.up hi (y:= {gT x i with ef:=fC.getD i 0}) (.inl rfl) (.inl rfl) rfl rfl).cs _ _ _ _ _
theorem OQ.tw {x:aB} (h:OQ fw (-1) 64 x) (fC:List Int):∀{n:Nat},n<=x.ts.length->OQ fw (-1) 64 (Go.Eng.tw fC x n)
  |0,_=>h
  |n+1,hn=>by
    rw [jk];exact OQ.tp (OQ.tw h fC (n:=n) om) fC (by rw [(lY fC x n).1];omega)
theorem OQ.C0 (h:OQ fw (-1) 64 x):OQ fw (-1) 64 (ki x):=(OQ.tw h (y7 (rP x) x.g) (n:=x.ts.length) (Nat.le_refl _)).cs _ _ _ _ _
/-! a tick -/
section
variable {w0:cR} {k:Nat} {x:aB} (hI:MI k x) (hA:jT (im x.s)) (hT:MT w0 x) (h:OQ fw (-1) 64 x)
include hI hA hT h
theorem OQ.th {c:Nat} (hc:c<x.cs.length):OQ fw (-1) 64 (Go.Eng.th x c):=by
  unfold Go.Eng.th;split
  · next e=>
    obtain ⟨h1,h2,h3⟩:=hI.cur hc (pX e);have hs:=hT.q.q.cur c hc (pX e);exact(OQ.up (x:=fZ x c (fM (qg x.cs c))) (h.cs _ _ _ _ _) h2 (y:= {gT x (qg x.cs c).cur.toNat with st:=1}) (.inr ⟨by show (1:Int)≠4;decide,by show bY x _≠4;rw [hs];decide⟩) (.inl rfl) rfl rfl).fX (a:=3) (fun e=>absurd e (by decide))
  ·exact h
theorem OQ.rV {c:Nat} (hc:c<x.cs.length):OQ fw (-1) 64 (Go.Eng.rV x c):=by
  unfold Go.Eng.rV;split
  · next e=>
    obtain ⟨h0,h1,h2⟩:=v3 (hI.ci.wf.wf c hc) e.1 e.2;have hid:=hI.ci.id c hc _ h1;obtain ⟨g1,g2⟩:=hT.q.q.has c hc _ h1;exact(OQ.up (x:=fZ x c (ru (qg x.cs c))) (h.cs _ _ _ _ _) (t:=(fN (qg x.cs c)).toNat) (by show _<x.ts.length;omega) (y:= {gT x (fN (qg x.cs c)).toNat with st:=2}) (.inr ⟨by show (2:Int)≠4;decide,by show bY x _≠4;rcases g2 with q|q<;>rw [q] <;>decide⟩) (.inl rfl) rfl rfl).fX (a:=2) (fun e=>absurd e (by decide))
  ·exact h
theorem OQ.tA {c:Nat} (hc:c<x.cs.length):OQ fw (-1) 64 (Go.Eng.tA x c):=by
  unfold Go.Eng.tA;split
  ·exact h.cs _ _ _ _ _
  · next e=>
    have h0:0<=(qg x.cs c).cur:=by omega
    obtain ⟨h1,h2,h3⟩:=hI.cur hc h0;obtain ⟨Zn,W0,hU3⟩:=hI.zX hc h0
    have hid:(dW (qg x.cs c)).l.map (·.id)=(qg x.cs c).l.map (·.id):=by
      unfold dW;rw [if_pos h0];exact gC h1 (iZ h1).1
    have mO:(dW (qg x.cs c)).cur=(qg x.cs c).cur:=by unfold dW;rw [if_pos h0]
    have hs:bY x (qg x.cs c).cur.toNat=2:=hT.q.q.cur c hc h0;have Zt:MT w0 (fZ x c (dW (qg x.cs c))):=⟨⟨Ek hc hid mO hT.q.q,hT.q.l⟩,hT.p,hT.a⟩
    have iC:MI (k+1) (fZ x c (dW (qg x.cs c))):=(hI.mono (Nat.le_succ k)).E6 (hI.ci.tick hc) (List.length_set ..) (fun d hd b hb=> .inl ⟨d,hd,jr hc hid hb⟩);have hT2:MT w0 (zX x c):=MT.up iC Zt (t:=(qg x.cs c).cur.toNat) h2 rfl rfl rfl rfl;have hO2:OQ fw (-1) 64 (zX x c):=OQ.up (x:=fZ x c (dW (qg x.cs c))) (h.cs _ _ _ _ _) h2 (.inl rfl) (.inl rfl) rfl rfl;have iT:c<(zX x c).cs.length:=by show c<(x.cs.set _ _).length;rw [List.length_set];exact hc
    exact OQ.run Zn hA hT2 hO2 W0 iT (by show (qg (x.cs.set c _) c).cur=_;rw [bG hc,if_pos rfl,mO];exact h3.symm) ((gq (x:=fZ x c (dW (qg x.cs c))) h2 _ _).trans ((bD ..).trans hs))
theorem OQ.TC {c:Nat} (hc:c<x.cs.length) (hn:x.now.toNat<18446744073709551615):OQ fw (-1) 64 (uy x c):=by
  have Hr:MI k {x with now:=x.now+1#64} := {hI with}
  have h0:MT w0 {x with now:=x.now+1#64} :=⟨⟨hT.q.q,hT.q.l⟩,hT.p,AV.now (show AV w0 x.ev x.now (ks x) from hT.a) (by show x.now.toNat<=(x.now+1#64).toNat;rw [BitVec.toNat_add];show _<=(x.now.toNat+1) % _;omega)⟩
  have o0:OQ fw (-1) 64 {x with now:=x.now+1#64} :=h.cs _ _ _ _ _;have hl:∀y:aB,∀j,MI j y->y.s=x.s->c<y.cs.length:=fun y j hy e=>by have h1:=hy.ce;have h2:=hI.ce;rw [e] at h1;omega
  have iC:=Hr.th hc;have HY:=hl _ _ iC (qJ ..);have kq:=iC.rV (c:=c) HY;have wT:=hl _ _ kq ((z5 ..).trans (qJ ..));have Zt:=MT.th Hr h0 hc;have hT2:=MT.rV iC Zt HY;have o1:=OQ.th Hr hA h0 o0 hc;have o2:=OQ.rV iC (by rw [qJ];exact hA) Zt o1 HY;exact OQ.C0 (OQ.tA kq (by rw [z5,qJ];exact hA) hT2 o2 wT)
theorem OQ.Fw (hn:x.now.toNat<=1048576):∀{n:Nat},n<=x.s.cr.toNat->OQ fw (-1) 64 (xh x n)
  |0,_=>h
  |n+1,hle=>by
    have o:=OQ.Fw hn (n:=n) om;obtain ⟨h1,h2⟩:=MT.Fw hI hT hn (n:=n) om;have iC:=hI.Fw (n:=n) om;have h4:=hI.len;rw [oT];exact OQ.TC iC (by rw [uK];exact hA) h1 o (by rw [iC.len.1,uK];omega) om
end
theorem OQ.vX {w0:cR} :∀{l:List Nat} {k:Nat} {x:aB},MI k x->jT (im x.s)->MT w0 x->OQ fw (-1) 64 x->(∀t∈l,t<x.ts.length)->OQ fw (-1) 64 (Go.Eng.vX x l)
  | [],k,x,_,_,_,h,_=>h
  |t::l,k,x,hI,hA,hT,h,ht=>OQ.vX (l:=l) (hI.oo (ht t (List.mem_cons_self ..))) (by rw [(pC x t).2.2.1];exact hA) (MT.oo hI hT (ht t (List.mem_cons_self ..))) (OQ.afJ hI hA hT h (ht t (List.mem_cons_self ..))) (fun u hu=>by rw [(pC x t).1];exact ht u (List.mem_cons_of_mem _ hu))
section
variable {w0:cR} {k:Nat} {x:aB} (hI:MI k x) (hA:jT (im x.s)) (hT:MT w0 x) (h:OQ fw (-1) 64 x)
include hI hA hT h
theorem OQ.Ug:OQ fw (-1) 64 (vh x):=OQ.C0 (OQ.vX hI hA hT h (fun t ht=>jf x _ t ht))
theorem OQ.rou (hn:x.now.toNat<=1048576):OQ fw (-1) 64 (AM x):=OQ.Ug (hI.Fw (Nat.le_refl _)) (by rw [uK];exact hA) (MT.Fw hI hT hn (Nat.le_refl _)).1 (OQ.Fw hI hA hT h hn (Nat.le_refl _))
theorem OQ.ug:∀{n:Nat},x.now.toNat+n*x.s.cr.toNat<=1048576->OQ fw (-1) 64 (yk x n)
  |0,_=>h
  |n+1,hn=>by
    rw [Nat.succ_mul] at hn;have o:=OQ.ug (n:=n) om;obtain ⟨h1,h2⟩:=MT.ug hI hT (n:=n) om;exact OQ.rou (hI.ug n) (by rw [xn];exact hA) h1 o om
end
theorem OQ.mvd (h:OQ fw (-1) 64 x) (ht:t<x.ts.length) (c:Int):OQ fw (-1) 64 (qq x t c):=
  OQ.C0 ((h.up ht (y:= {gT x t with co:=c}) (.inl rfl) (.inl rfl) rfl rfl).fX (a:=13) (fun e=>absurd e (by decide)))
structure MO (w0:cR) (k:Nat) (x:aB):Prop where
  w:MW w0 k x
  a:jT (im x.s)
  o:OQ fw (-1) 64 x
theorem MO.new {s:ee} (h:dt s=true) (hA:jT (im s)):MO (ZE s) 0 (fH s):=by
  have hW:=MW.new h;refine ⟨hW,hA,fun l hl u ⟨g,hg,e⟩=>?_,fun t ht=>absurd ht (Nat.not_lt_zero t),fun v u e=>?_,fun e he=>by cases he⟩
  · have:=(hW.i.li l hl).i.ho g hg
    unfold iz at this
    have e2:(fH s).ts.length=0:=rfl;omega
  · have e:aq (ot kk v) u=true:=e
    rw [sJ,bC] at e;cases e
theorem Xq (hI:MI k x) (hb:¬gj x.cs<0):(gj x.cs).toNat<x.ts.length:=by
  cases e:vk x.cs with
  |none=>exact absurd (by unfold gj;rw [e];decide) hb
  |some t=>
    obtain ⟨h1,h2,h3,h4,h5,h6,h7⟩:=jX hI.ci.wf e;have:=hI.ids (a:=t.id) (by rw [h4];exact h5);rw [show gj x.cs=t.id by unfold gj;rw [e]];omega
theorem TH (x:aB) (t:Nat) (c:Int):(qq x t c).s=x.s:=DU _
theorem acq (x:aB) (a:Act):(ji x a).s=x.s:=by
  unfold ji
  split
  ·rfl
  split
  ·exact TF ..
  split
  ·exact T4 ..
  split
  ·exact TH ..
  split
  ·exact DU _
  split
  ·exact(DU _).trans (k6 x _).2.2.1
  split
  ·rfl
  split
  ·exact TH ..
  ·exact xn ..
theorem OQ.bmv (hI:MI k x) (h:OQ fw (-1) 64 x) (ht:t<x.ts.length) (cs:List Qm) (c:Int):OQ fw (-1) 64 (qq {x with cs:=cs} t c):=by
  have h2:OQ fw (-1) 64 {x with cs:=cs} :=h.cs cs x.v x.idle x.gp x.now;exact OQ.mvd h2 ht c
theorem MO.mdo {w0:cR} {k:Nat} {x:aB} (h:MO w0 k x) (a:Act):MO w0 (k+30000000) (ji x a):=by
  have hI:=h.w.i;have hT:=h.w.t;have hn:=h.w.n;have hO:=h.o;have hA:=h.a;refine ⟨h.w.mdo a,?_,?_⟩
  ·rw [acq];exact hA
  clear h
  by_cases he:dd x a≠0
  ·rw [eO he];assumption
  have he:dd x a=0:=Classical.byContradiction he;have hv:¬50000<=x.ev.length:=fun q=>by unfold dd at he;rw [if_pos q] at he;cases he
  have eK:∀l,l<x.lk.length->∀u,qN x l u->u<x.ts.length:=fun l hl u ⟨g,hg,e⟩=>by
    have:=(hI.li l hl).i.ho g hg;unfold iz at this;omega
  by_cases e1:a.k=1
  · rw [Wg hv e1] at he
    have g1:¬(a.a<0\/x.s.cr<=a.a):=fun q=>by rw [if_pos q] at he;cases he
    rw [if_neg g1] at he;have g2:¬1048576<=x.now.toNat:=fun q=>by rw [if_pos q] at he;cases he
    rw [if_neg g2] at he;rw [dx1 (by rw [Wg hv e1,if_neg g1,if_neg g2]) e1];exact OQ.TC hI hA hT hO (by have:=hI.ce;omega) om
  by_cases e2:a.k=2
  ·rw [dx2 he e2];exact OQ.Ug hI hA hT hO
  by_cases e3:a.k=3
  · rw [dx3 he e3]
    rw [do3 hv e3] at he;have g1:¬gj x.cs<0:=fun q=>by rw [if_pos q] at he;cases he
    have hb:=Xq hI g1
    generalize jI x.cs=B,(gj x.cs).toNat=T,uc x.cs=C at hb ⊢
    exact OQ.bmv hI hO hb B C
  by_cases e4:a.k=4
  · rw [dx4 he e4]
    exact OQ.C0 (((hO.snoc (y:=AK x.ts.length a.a a.b a.c a.d) (by show (1:Int)≠4;decide) eK).cs _ _ _ _ _).fX (a:=1) (t:=x.ts.length) (l:= -1) (n:=a.d) (fun e=>absurd e (by decide)))
  by_cases e5:a.k=5
  · rw [dx5 he e5]
    rw [do5 hv e5] at he;have g1:¬(a.a<0\/(x.ts.length:Int)<=a.a):=fun q=>by rw [if_pos q] at he;cases he
    rw [if_neg g1] at he;have g2:¬(gT x a.a.toNat).st=5:=fun q=>by rw [if_pos q] at he;cases he
    exact OQ.C0 (OQ.die hI hA hT hO om g2)
  by_cases e6:a.k=6
  · rw [dx6 he e6]
    exact(OQ.WT (x:= {x with gp:=x.gp.set a.a.toNat a.b}) (hO.cs _ _ _ _ _) (f:=fun L=>iU L a.a a.b) (fun L=>(rS L _ _).1):_)
  by_cases e7:a.k=7
  · rw [dx7 he e7]
    rw [do7 hv e7] at he;obtain ⟨h1,h2,h3,h4,h5⟩:=Du he;have hb:a.a.toNat<x.ts.length:=by have:=hI.ids h1;omega
    generalize jB x.cs a.b a.a=B at hb ⊢
    exact OQ.bmv hI hO hb B _
  by_cases e8:a.k=8
  · rw [dx8 he e8]
    rw [do8 hv e8] at he;have g1:¬(a.a<0\/200<a.a):=fun q=>by rw [if_pos q] at he;cases he
    rw [if_neg g1] at he;have g2:¬1048576<(x.now+BitVec.ofInt 64 (a.a*x.s.cr)).toNat:=fun q=>by rw [if_pos q] at he;cases he
    have YT:=te hI.ms;exact OQ.ug hI hA hT hO (zo (x:=x) YT g1 g2 hn)
  ·rw [do0 hv om] at he;cases he
end Go.Eng
namespace Go.Eng
open Go Go.Proofs Go.RowKit
variable {G:Gr} {d lock:Int} {xs:List bO} {cap i k l n t z:Nat} {E:Nat->Prop} {ad:Option Addr} {x:aB} {s:ee} {y:iy}
def oz (lock:Int):Int->List bO->Nat×Int
  |acc,[] =>(0,acc)
  |acc,o::l=>if eH lock o then (0,acc) else ((oz lock (if o.k=1 then IntKind.i64.wrap (acc+o.a) else acc) l).1+1,(oz lock (if o.k=1 then IntKind.i64.wrap (acc+o.a) else acc) l).2)
theorem DZ (lock:Int):∀(l:List bO) (acc:Int),(oz lock acc l).1=(iA lock l).1
  | [],acc=>rfl
  |o::l,acc=>by
    rw [oz,iA]
    by_cases h:eH lock o=true
    ·rw [if_pos h,if_pos h]
    ·rw [if_neg h,if_neg h];show (oz lock _ l).1+1=(iA lock l).1+1;rw [DZ lock l]
theorem zQ {acc:Int} (h:i<xs.length):oz lock acc (xs.drop i)=if eH lock (xs.getD i default) then (0,acc) else ((oz lock (if (xs.getD i default).k=1 then IntKind.i64.wrap (acc+(xs.getD i default).a) else acc) (xs.drop (i+1))).1+1,(oz lock (if (xs.getD i default).k=1 then IntKind.i64.wrap (acc+(xs.getD i default).a) else acc) (xs.drop (i+1))).2):=by
  have e:=aH (default:bO) h;rw [List.getElem?_eq_getElem h] at e;rw [List.drop_eq_getElem_cons h,Option.some.inj e];rw [oz]
def wq (lock:Int) (ys:List bO) (j:Nat) (acc:Int):Prop:=
  j<=ys.length/\(oz lock 0 ys).1=j+(oz lock acc (ys.drop j)).1/\(oz lock 0 ys).2=(oz lock acc (ys.drop j)).2
theorem wq.zero (lock:Int) (ys:List bO):wq lock ys 0 0:=⟨Nat.zero_le _,by simp,by simp⟩
theorem wq.step {lock:Int} {ys:List bO} {j:Nat} {acc Ob:Int} (h:wq lock ys j acc) (hj:j<ys.length) (hn:eH lock (ys.getD j default)=false) (ha:Ob=if (ys.getD j default).k=1 then IntKind.i64.wrap (acc+(ys.getD j default).a) else acc):wq lock ys (j+1) Ob:=by
  obtain ⟨h1,h2,h3⟩:=h;rw [zQ hj,hn] at h2 h3;rw [ha];exact⟨by omega,by rw [h2];simp only [Bool.false_eq_true,if_false];omega,by rw [h3];rfl⟩
theorem wq.stop {ys:List bO} {j:Nat} {acc:Int} (h:wq lock ys j acc) (hj:j<ys.length) (hn:eH lock (ys.getD j default)=true):oz lock 0 ys=(j,acc):=by
  obtain ⟨h1,h2,h3⟩:=h;rw [zQ hj,hn] at h2 h3;exact Prod.ext (by simpa using h2) (by simpa using h3)
theorem wq.fin {ys:List bO} {j:Nat} {acc:Int} (h:wq lock ys j acc) (hj:ys.length<=j):oz lock 0 ys=(ys.length,acc):=by
  obtain ⟨h1,h2,h3⟩:=h;rw [List.drop_of_length_le hj] at h2 h3;exact Prod.ext (by rw [h2];show j+0=_;omega) (by rw [h3];rfl)
def S5 (xs:List bO) (i:Nat):Nat×Int:=oz (xs.getD i default).a 0 (xs.drop (i+1))
theorem OX (xs:List bO) (i:Nat):(S5 xs i).1=(ez xs i).1:=DZ _ _ _
theorem Hf (xs:List bO) (i:Nat) (h:i<xs.length):i+1+(ez xs i).1<=xs.length:=by
  have key:∀(lock:Int) (l:List bO),(iA lock l).1<=l.length:=by
    intro lock l
    induction l with
    |nil=>exact Nat.le_refl _
    |cons o l ih=>rw [iA];split;exact Nat.zero_le _;show (iA lock l).1+1<=_;rw [List.length_cons];omega
  have:=key (xs.getD i default).a (xs.drop (i+1));rw [List.length_drop] at this
  unfold ez;omega
def TB (x:Nat×List bO):List Value:=[.int .i64 (x.1:Nat),.int .i64 ((x.1+1+(ez x.2 x.1).1:Nat)),.int .i64 (x.2.getD x.1 default).a,.int .i64 (S5 x.2 x.1).2]
def Qd (xs:List bO) (i:Nat):Value:= .agg (TB (i,xs)).toArray
def FF (xs:List bO):List (Array Value):=(nD (JI xs) xs.length).map (fun i=>#[Qd xs i])
theorem NS (h:i<xs.length) (ht:JI xs i=true):(FF xs)[um (JI xs) i]? =some #[Qd xs i] :=by
  unfold FF;rw [List.getElem?_map,R1 h ht];rfl
theorem Cy {a:Array Value} (h:(FF xs)[k]? =some a):∃p,(nD (JI xs) xs.length)[k]? =some p/\a=#[Qd xs p] :=by
  unfold FF at h;rw [List.getElem?_map,Option.map_eq_some_iff] at h
  obtain ⟨p,hp,rfl⟩:=h;exact⟨p,hp,rfl⟩
theorem Cb (xs:List bO):(FF xs).length=um (JI xs) xs.length:=by unfold FF;rw [List.length_map];rfl
theorem yQ {fv:Bool} (i:Nat) (w:World) (hn:n=xs.length) (hl:Sr fO 3 xs (.slice ad n cap) w) (Es:xs.length<=20) (hi:i<xs.length):aD Tryz.prog 90 #[pV fv ad n cap,.int .i64 (i:Nat)] w (fun v w'=>v=Qd xs i/\Ext w w'):=by
 have Ta:=hl.drop (l:=i+1) om;obtain ⟨ys,nV⟩:∃ys,xs.drop (i+1)=ys:=⟨_,rfl⟩;have WY:ys.length=xs.length-(i+1):=(by rw [<-nV,List.length_drop]);have Ja:S5 xs i=oz (xs.getD i default).a 0 ys:=(by unfold S5;rw [nV]);rw [nV] at Ta;have kK:(ez xs i).1=(oz (xs.getD i default).a 0 ys).1:=(by rw [<-OX,Ja]);simp only [Qd,TB,Ja,kK];refine aD.ak Tryz.func90 rfl Tryz.ntmps90 rfl ([]) (no) (Mem.nil w) ?_;refine J2 ?_;refine LM.box rfl rfl (fun b2 wi=>?_);refine LM.alloc Tryz.zeroValue101 rfl (fun b4 wG=>?_);refine J3 ?_;refine af.draw [(0,0),(1,0),(2,1),(3,0),(4,0),(5,1),(6,0),(7,0),(8,0),(9,1),(10,0),(11,2),(12,3)] kr kr ?_;refine J9 ?_;refine LD.dV rfl rfl (db (j:=1) aC Tryz.isAgg3 rfl rfl c7 (by rfl) (by rfl) id) ?_;refine LD.val rfl rfl (aE (cs:=#[_,_,_,_]) rfl (by first|rfl|kernel_rfl)) ?_;refine LD.alloc rfl rfl Tryz.zeroValue101 rfl (fun b5 BV=>?_);refine LD.tail rfl rfl ?_;refine LM.c6 Tryz.sizeOf101 rfl rfl rfl rfl cZ bF ?_;refine J1 ?_;refine QM.qn ?_;refine J8 ?_;refine LM.val (jV (i+1) Tryz.underlying60 Tryz.sizeOf103 rfl rfl om om) ?_;refine J5 ?_;refine af.aO (α:=Nat×Int) (fun ⟨j,acc⟩=>[(25,.int .i64 (j:Nat))]) [(1,_),(4,_),(5,_),(23,_),(24,_)] (fun ⟨j,acc⟩=>Li b5 (i:Nat) n (xs.getD i default).a acc::Li b4 0 0 0 0::pB b2 fv ad n cap:: []) (fun ⟨j,acc⟩=>wq (xs.getD i default).a ys j acc) (fun ⟨j,acc⟩=>ys.length-j) ((0,0)) cA aX (wq.zero _ ys) ?_;rintro ⟨j,acc⟩ hI;change af _ _ _ _ _ _ _ (Li b5 (i:Nat) n (xs.getD i default).a acc::Li b4 0 0 0 0::pB b2 fv ad n cap:: []) _ _ _;have hj:=hI.1;refine J6 ?_;refine af.aj rfl (fun h1=>?_) (fun h1=>?_)
 ·refine J8 ?_;refine LM.dV (de aC ir Tryz.isAgg103 Tryz.sizeOf103 rfl c7 id) ?_;refine LM.alloc Tryz.zeroValue103 rfl (fun b7 K9=>?_);refine J1 ?_;refine LM.c6 Tryz.sizeOf103 rfl rfl rfl rfl cZ bF ?_;refine cM ?_;refine af.mG (t:=30) rfl (fun h2=>?_) (fun h2=>?_)
  ·refine cF ?_;refine LM.st Tryz.sizeOf3 rfl rfl rfl dx rfl bF ?_;refine J4 ?_;refine LM.rd (aR Tryz.isAgg101 Tryz.sizeOf101 rfl rfl) ?_;refine LM.c6 Tryz.sizeOf101 rfl rfl rfl rfl cZ bF ?_;refine J9 ?_;refine QM.aG (ds:=([])) (.inl rfl) [.cell 4 101] Tryz.results90 aV (bU rfl Tryz.isAgg101 Tryz.sizeOf101 rfl aU) ?_;intro w' ao aa;have hq:=hI.stop om (Ab h2);refine ⟨?_,aa⟩;rw [hq];show sV _ _ _ _=sV _ _ _ _;congr 5
  refine J5 ?_;refine LM.aw (t:=37) rfl (fun h3=>?_) (fun h3=>?_)
  ·refine dc ?_;refine af.aj rfl (fun h4=>?_) (fun h4=>?_)
   ·refine J7 ?_;refine LM.st Tryz.sizeOf3 rfl rfl rfl dx rfl bF ?_;refine J4 ?_;refine LM.rd (aR Tryz.isAgg101 Tryz.sizeOf101 rfl rfl) ?_;refine LM.c6 Tryz.sizeOf101 rfl rfl rfl rfl cZ bF ?_;refine J9 ?_;refine QM.aG (ds:=([])) (.inl rfl) [.cell 4 101] Tryz.results90 aV (bU rfl Tryz.isAgg101 Tryz.sizeOf101 rfl aU) ?_;intro w' ao aa;have hq:=hI.stop om (Fm h3 h4);refine ⟨?_,aa⟩;rw [hq];show sV _ _ _ _=sV _ _ _ _;congr 5
   refine J8 ?_;refine af.aj rfl (fun h5=>?_) (fun h5=>?_)
   ·refine J5 ?_;refine LM.val (FJ rfl rfl) ?_;refine J1 ?_;refine LM.st Tryz.sizeOf3 rfl rfl rfl dx rfl bF ?_;refine J8 ?_;refine aK ((j+1,IntKind.i64.wrap (acc+(ys.getD j default).a))) ?_ ?_
    ·exact hI.step om (gx h2 (fun q=>by first|exact h4 q.2|exact h3 q.1)) (by rw [if_pos h5])
    ·omega
   refine J8 ?_;refine aK ((j+1,acc)) ?_ ?_
   ·exact hI.step om (gx h2 (fun q=>by first|exact h4 q.2|exact h3 q.1)) (by rw [if_neg h5])
   ·(dsimp only;omega)
  refine En ?_;refine af.aj rfl (fun h6=>?_) (fun h6=>?_)
  ·refine J5 ?_;refine LM.val (FJ rfl rfl) ?_;refine J1 ?_;refine LM.st Tryz.sizeOf3 rfl rfl rfl dx rfl bF ?_;refine J8 ?_;refine aK ((j+1,IntKind.i64.wrap (acc+(ys.getD j default).a))) ?_ ?_
   ·exact hI.step om (gx h2 (fun q=>by first|exact h4 q.2|exact h3 q.1)) (by rw [if_pos h6])
   ·(dsimp only;omega)
  refine J8 ?_;refine aK ((j+1,acc)) ?_ ?_
  ·exact hI.step om (gx h2 (fun q=>by first|exact h4 q.2|exact h3 q.1)) (by rw [if_neg h6])
  ·(dsimp only;omega)
 refine J7 ?_;refine LM.rd (aR Tryz.isAgg101 Tryz.sizeOf101 rfl rfl) ?_;refine LM.c6 Tryz.sizeOf101 rfl rfl rfl rfl cZ bF ?_;refine J3 ?_;refine QM.aG (ds:=([])) (.inl rfl) [.cell 4 101] Tryz.results90 aV (bU rfl Tryz.isAgg101 Tryz.sizeOf101 rfl aU) ?_;intro w' ao aa;have hq:=hI.fin om;refine ⟨?_,aa⟩;rw [hq];show sV _ _ _ _=sV _ _ _ _;congr 5;omega
set_option maxHeartbeats 1000000 in
theorem Kh {fv:Bool} {b1:Nat} (hn:n=xs.length) (Es:xs.length<=20):yR Tryz.prog 88 #[.pointer (some ⟨b1,0,none⟩)] (FF xs) (fun w=>Mem w [pB b1 fv ad n cap]/\Sr fO 3 xs (.slice ad n cap) w) (True):=by
 refine yR.enter (lb:=[.pointer (some ⟨b1,0,none⟩)]) Tryz.func88 rfl Tryz.ntmps88 rfl ?_;intro l n0 J Jx w0 vy Hg gJ gJx hy;refine J3 ?_;refine LM.dV (fun w _ _ hg=>vC 0 Tryz.isAgg60 rfl rfl rfl w (Hg _ w hg).1) ?_;refine J5 ?_;refine af.Qi (α:=Nat) (fun i=>[(8,.int .i64 (i:Nat))]) [(0,_),(1,_),(6,_),(7,_)] (fun i=>[]) (fun i=>J (um (JI xs) i)) (fun i=>i<=xs.length) (fun i=>xs.length-i) (0) cA aX (fun _ h=>h) (Nat.zero_le _) ?_;rintro i hi;change af _ _ _ _ _ _ _ ([]) _ _ _;refine J6 ?_;refine af.aj rfl (fun h1=>?_) (fun h1=>?_)
 ·refine J7 ?_;refine LM.yi (fun w _ _ hg=>(Hg _ w hg).2.Uz) (fun C4=>?_);refine LM.val (gh C4 Tryz.underlying60 Tryz.sizeOf103 rfl rfl om) ?_;refine LM.dV (fun w hm hc hg=>Am (Hg _ w hg).2 ir Tryz.isAgg103 Tryz.sizeOf103 rfl (aH default om)) ?_;refine LM.Pb Tryz.zeroValue103 rfl (fun b4 wG=>?_);refine J1 ?_;refine LM.Z6 Tryz.sizeOf103 rfl rfl rfl rfl cZ bF om ?_;refine LM.unF ?_;refine J6 ?_;refine cE Tryz.func89 rfl (fun w hm hc hg=>xC _ w) ?_;refine J1 ?_;refine LM.bn (t:=16) rfl (fun h2=>?_) (fun h2=>?_)
  ·refine J2 ?_;refine LM.dV (fun w _ _ hg=>D9 0 Tryz.isAgg62 Tryz.sizeOf62 rfl rfl (vs:=[.bool fv,.slice ad n cap]) rfl ⟨rfl,rfl,trivial⟩ w (Hg _ w hg).1) ?_;refine J2 ?_;refine cE Tryz.func90 rfl (fun w hm hc hg=>yQ i w hn (Hg _ w hg).2 Es om) ?_;refine J1 ?_;refine LM.mem (M':=[]) (fun w _=>Mem.nil w) ?_;refine LM.yield (n:=n0) (G1:=J ((um (JI xs) i)+1)) (G2:=Jx) rfl rfl (fun w hj=>hy ((um (JI xs) i)) _ w (NS om h2) hj) (fun _=>trivial) ?_ ?_
   ·refine cM ?_;refine QM.dk (i+1) cA aX (fun w h=>by rw [zi,if_pos (by exact h2)];exact h) ?_ ?_
    ·omega
    ·omega
   refine cF ?_;refine QM.leave (.inl rfl) [] Tryz.results88 rfl ?_;intro w' ao aa aA;exact .inr aA
  refine yA ?_;refine QM.dk (i+1) cA aX (fun w h=>by rw [zi,if_neg (by show¬cD _=true;rw [h2];decide),Nat.add_zero];exact h) ?_ ?_
  ·omega
  ·omega
 refine J4 ?_;refine QM.leave (.inr rfl) [] Tryz.results88 rfl ?_;intro w' ao aa aA
 (have eA:i=xs.length:=om;subst eA;exact .inl (by rw [Cb];exact aA))
theorem Dc {lo m j:Nat} (h:j<m):((xs.drop lo).take m).getD j default=xs.getD (lo+j) default:=by
  rw [List.getD_eq_getElem?_getD,List.getElem?_take,if_pos h,List.getElem?_drop,<-List.getD_eq_getElem?_getD]
theorem CU {lo m:Nat} (h:lo+m<=xs.length):((xs.drop lo).take m).length=m:=by rw [List.length_take,List.length_drop];omega
theorem KA {k:Int} (h1:k >= 2) (h2:k<=5):cD k=true:=by unfold cD;rw [decide_eq_true (show 2<=k by omega),decide_eq_true h2];rfl
theorem CV {k:Int} (h:¬k >= 2\/¬k<=5):¬cD k=true:=by unfold cD;rw [Bool.and_eq_true,decide_eq_true_eq,decide_eq_true_eq];omega
theorem s3 {fv:Bool} (lock:Int) (w:World) (hn:n=xs.length) (hl:Sr fO 3 xs (.slice ad n cap) w) (Es:xs.length<=20):aD Tryz.prog 12 #[pV fv ad n cap,.int .i64 lock] w (fun v w'=>v=U (pb xs lock)/\Ext w w'):=by
 refine aD.ak Tryz.func12 rfl Tryz.ntmps12 rfl ([]) (no) (Mem.nil w) ?_;refine J2 ?_;refine LM.box rfl rfl (fun b2 wi=>?_);refine LM.box rfl rfl (fun b3 FM=>?_);refine J5 ?_;refine LM.alloc Tryz.zeroValue41 rfl (fun b5 BV=>?_);refine J5 ?_;refine LM.rd (aR Tryz.isAgg62 Tryz.sizeOf62 rfl rfl) ?_;refine LM.dS (oC Tryz.func40) Ef.mono (fun w hm hc hg=>Kl fv ad n cap w) ?_;rintro u10 OA ⟨c1,rfl,rfl,HY⟩-;refine J3 ?_;refine af.sn (α:=BitVec 64) (fun k s=>AX b5 s::pB c1 fv ad n cap::Ld b3 lock::pB b2 fv ad n cap:: []) (0#64) aX ?_;refine af.range (α:=BitVec 64) (β:=Unit) (dF Tryz.func88 kr rfl) rfl (Kh (xs:=xs) hn Es) (fun k s=>AX b5 s::pB c1 fv ad n cap::Ld b3 lock::pB b2 fv ad n cap:: []) (fun _ _=>top) (fun k s=>k<=um (JI xs) xs.length/\s=Kp xs lock k) (fun ⟨⟩=>[]) (fun _=>top) (fun c ⟨⟩=>False) 0#64 rfl (fun _ h=>h) ⟨Nat.zero_le _,rfl⟩ kr (by intro k av vW;obtain ⟨p,hp,rfl⟩:=Cy vW;have JD:=(List.getElem?_eq_some_iff.1 hp).1;rw [<-rO] at JD;have hpx:p<xs.length:=(yj.1 (List.mem_of_getElem? hp)).1;have hto:=Hf xs p hpx;have C4:=hl.Uz;have adb:=hl.open;have aaQ:=(hl.drop (l:=p+1) om).take (k:=(ez xs p).1) (by rw [List.length_drop];omega);have IV:=CU (xs:=xs) (lo:=p+1) (m:=(ez xs p).1) om;have Cq:=fun j (h:j<(ez xs p).1)=>Dc (xs:=xs) (lo:=p+1) h;have iG:p+1+(ez xs p).1-(p+1)=(ez xs p).1:=om;have W6:=zp (lock:=lock) hp;unfold rF at W6;rfl) (.inl trivial) (fun k a w hm hc _ _=>⟨aJ.mem aX w hm,hl.ext hc⟩) (fun _ _ _ _=>kW _) (fun _ _ _=>kW _) (fun k x _=>c9 rfl (c9 rfl (c9 rfl (c9 rfl wS)))) (fun c z _=>by((repeat (refine c9 rfl ?_));exact fun p hp=> .inl (by first|exact hp|(simp at hp;done)|(simp [hp];done)|(simp at hp ⊢;first|exact .inl hp|exact hp|(simp [hp];done))))) ?_ ?_ ?_ ?_
 ·rintro k av s l D rc n1 W1 hD eE AO OB vW ⟨hk,hs⟩;change af _ _ _ _ _ _ _ ((l,Obj.loop rc)::([(D,Obj.deferred (some []))] ++(AX b5 s::pB c1 fv ad n cap::Ld b3 lock::pB b2 fv ad n cap:: []))) _ _ _;obtain ⟨p,hp,rfl⟩:=Cy vW;have JD:=(List.getElem?_eq_some_iff.1 hp).1;rw [<-rO] at JD;have hpx:p<xs.length:=(yj.1 (List.mem_of_getElem? hp)).1;have hto:=Hf xs p hpx;have C4:=hl.Uz;have adb:=hl.open;have aaQ:=(hl.drop (l:=p+1) om).take (k:=(ez xs p).1) (by rw [List.length_drop];omega);have IV:=CU (xs:=xs) (lo:=p+1) (m:=(ez xs p).1) om;have Cq:=fun j (h:j<(ez xs p).1)=>Dc (xs:=xs) (lo:=p+1) h;have iG:p+1+(ez xs p).1-(p+1)=(ez xs p).1:=om;have W6:=zp (lock:=lock) hp;unfold rF at W6;refine J1 ?_;refine LM.alloc Tryz.zeroValue101 rfl (fun b6 Qo=>?_);refine LM.c6 Tryz.sizeOf101 rfl rfl rfl rfl cZ bF ?_;refine J1 ?_;refine QM.sf (AO k s) eE ?_;refine cF ?_;refine af.aj rfl (fun h1=>?_) (fun h1=>?_)
  ·refine J3 ?_;refine QM.next (s) (aJ.mem aX) (fun _ h=>h) ?_
   ·exact⟨by omega,by rw [W6,if_neg h1,hs]⟩
  refine dc ?_;refine LM.val (PK (p+1) (p+1+(ez xs p).1) Tryz.underlying60 Tryz.sizeOf103 rfl rfl rfl rfl rfl om om) ?_;rw [iG];refine J5 ?_;refine af.aO (α:=Nat×BitVec 64) (fun ⟨j,s2⟩=>[(25,.int .i64 (j:Nat))]) [(5,_),(23,_),(24,_)] (fun ⟨j,s2⟩=>(l,Obj.loop (fE rc))::(D,Obj.deferred (some []))::(b6,.cells (TB (p,xs)).toArray 101 (0,0))::AX b5 s2::pB c1 fv ad n cap::Ld b3 lock::pB b2 fv ad n cap:: []) (fun ⟨j,s2⟩=>j<=(ez xs p).1/\s2=B0 xs (p+1) j s) (fun ⟨j,s2⟩=>(ez xs p).1-j) ((0,s)) cA aX ⟨Nat.zero_le _,rfl⟩ ?_;rintro ⟨j,s2⟩ ⟨hj,qx⟩;change af _ _ _ _ _ _ _ ((l,Obj.loop (fE rc))::(D,Obj.deferred (some []))::(b6,.cells (TB (p,xs)).toArray 101 (0,0))::AX b5 s2::pB c1 fv ad n cap::Ld b3 lock::pB b2 fv ad n cap:: []) _ _ _;refine J6 ?_;refine af.aj rfl (fun h2=>?_) (fun h2=>?_)
  ·refine J7 ?_;refine LM.dV (de aC ir Tryz.isAgg103 Tryz.sizeOf103 rfl c7 id) ?_;refine LM.alloc Tryz.zeroValue103 rfl (fun b8 RV=>?_);refine LM.c6 Tryz.sizeOf103 rfl rfl rfl rfl cZ bF ?_;refine J8 ?_;refine LM.aw (t:=32) rfl (fun h3=>?_) (fun h3=>?_)
   ·refine J7 ?_;refine af.aj rfl (fun h4=>?_) (fun h4=>?_)
    ·refine J4 ?_;refine cE Tryz.func38 rfl (fun w hm hc hg=>ui _ _ w) ?_;refine LM.st Tryz.sizeOf41 rfl rfl rfl dx rfl bF ?_;refine J7 ?_;refine aK ((j+1,bL s2 (((xs.drop (p+1)).take (ez xs p).1).getD j default).a)) ?_ ?_
     ·have hg:=Cq j om;rw [hg] at h3 h4 ⊢;exact⟨by omega,by rw [tI s om,if_pos (KA h3 h4),qx]⟩
     ·(dsimp only;omega)
    refine J7 ?_;refine aK ((j+1,s2)) ?_ ?_
    ·have hg:=Cq j om;rw [hg] at h3 h4;exact⟨by omega,by rw [tI s om,if_neg (CV (.inr h4)),qx]⟩
    ·(dsimp only;omega)
   refine kR ?_;refine aK ((j+1,s2)) ?_ ?_
   ·have hg:=Cq j om;rw [hg] at h3;exact⟨by omega,by rw [tI s om,if_neg (CV (.inl h3)),qx]⟩
   ·(dsimp only;omega)
  refine J5 ?_;refine QM.next (s2) (aJ.mem aX) (fun _ h=>h) ?_
  ·exact⟨by omega,by rw [W6,if_pos (Classical.not_not.1 h1),<-hs,qx,show j=(ez xs p).1 by omega]⟩
 ·rintro s D0 As ⟨hk,hs⟩;refine J9 ?_;refine QM.BA (ds:=[D0]) (.inl rfl) [.tmp 4] Tryz.results12 rfl (fun D h=>by simp only [List.mem_cons,List.not_mem_nil,or_false] at h;omega) ?_;intro w' ao aa;refine ⟨?_,aa⟩;simp only [bd];rw [hs,Cb,rO,OW];rfl
 ·rintro ⟨⟩ D0 As hx;exact hx.elim
 rintro id ⟨⟩ D0 As hx;exact hx.elim
end Go.Eng
namespace Go.Eng
open Go Go.RowKit
variable {G:Gr} {d lock:Int} {xs:List bO} {cap i k l n t z:Nat} {E:Nat->Prop} {ad:Option Addr} {x:aB} {s:ee} {y:iy}
theorem Ls {j:Int} (h:aq (sQ s i k) j=true):∃p∈s.ps,aq (pb p.xs (i:Nat)) j=true:=by
  unfold sQ at h
  have iG:∀p∈s.ps.take k,p∈s.ps:=fun p hp=>List.mem_of_mem_take hp
  have key:∀(l:List mX) (g:BitVec 64),aq (l.foldl (fun g p=>g|||pb p.xs (i:Nat)) g) j=true->aq g j=true\/∃p∈l,aq (pb p.xs (i:Nat)) j=true:=by
    intro l
    induction l with
    |nil=>exact fun g h=> .inl h
    |cons p l ih=>
      intro g h;rw [List.foldl_cons] at h;rcases ih _ h with q|⟨p',Mb,q⟩
      · rw [cO,Bool.or_eq_true] at q
        rcases q with q|q
        ·exact .inl q
        ·exact .inr ⟨p,List.mem_cons_self ..,q⟩
      ·exact .inr ⟨p',List.mem_cons_of_mem _ Mb,q⟩
  rcases key _ _ h with q|⟨p,hp,q⟩
  ·rw [bC] at q;cases q
  ·exact⟨p,iG p hp,q⟩
theorem Pu (h:i<s.ls.length):ot (im s) i=sQ s i s.ps.length:=by
  unfold ot im
  rw [List.getD_eq_getElem?_getD,List.getElem?_map,List.getElem?_range h];rfl
theorem Tg (h:dt s=true):TP (im s):=by
  intro i k hk;rw [oO];have hi:=Hi hk;rw [oO] at hi;rw [Pu hi] at hk;obtain ⟨p,hp,q⟩:=Ls hk;obtain ⟨o,ho,ht,he⟩:=NK q;have:=KO h hp ho ht;omega
theorem Sh (h:dt s=true):(im s).length<=12:=by rw [oO];have:=(gu h).1;omega
/-! filled in -/
def uG (s:ee) (i k:Nat):Gr:=(List.range s.ls.length).map (fun j=>if j<i then sQ s j s.ps.length else if j=i then sQ s i k else 0#64)
theorem eD (s:ee) (i k:Nat):(uG s i k).length=s.ls.length:=by unfold uG;rw [List.length_map,List.length_range]
theorem kf {j:Nat} (h:j<s.ls.length):(uG s i k).getD j 0#64=if j<i then sQ s j s.ps.length else if j=i then sQ s i k else 0#64:=by
  unfold uG
  rw [List.getD_eq_getElem?_getD,List.getElem?_map,List.getElem?_range h];rfl
theorem zW (s:ee) (i:Nat):sQ s i 0=0#64:=rfl
theorem At {H:Gr} (hl:G.length=H.length) (h:∀j,j<G.length->G.getD j 0#64=H.getD j 0#64):G=H:=by
  apply List.ext_getElem hl
  intro j h1 h2;have:=h j h1;rw [List.getD_eq_getElem?_getD,List.getD_eq_getElem?_getD,List.getElem?_eq_getElem h1,List.getElem?_eq_getElem h2] at this;exact this
theorem Ky (s:ee):uG s 0 0=List.replicate s.ls.length 0#64:=by
  refine At (by rw [eD,List.length_replicate]) (fun j hj=>?_);rw [eD] at hj;rw [kf hj,if_neg om,List.getD_eq_getElem?_getD,List.getElem?_replicate,if_pos hj]
  split
  ·exact zW s 0
  ·rfl
theorem Ku (s:ee) (i:Nat):uG s i s.ps.length=uG s (i+1) 0:=by
  refine At (by rw [eD,eD]) (fun j hj=>?_);rw [eD] at hj;rw [kf hj,kf hj]
  by_cases h1:j<i
  ·rw [if_pos h1,if_pos om]
  · by_cases h2:j=i
    ·subst h2;rw [if_neg h1,if_pos rfl,if_pos om]
    · rw [if_neg h1,if_neg h2,if_neg om]
      split
      ·exact(zW s _).symm
      ·rfl
theorem MH (hi:i<s.ls.length) (hk:k<s.ps.length):(uG s i k).set i ((uG s i k).getD i 0#64|||pb (s.ps.getD k default).xs (i:Nat))=uG s i (k+1):=by
  refine At (by rw [List.length_set,eD,eD]) (fun j hj=>?_);rw [List.length_set,eD] at hj;rw [kf hj,kf hi,if_neg om,if_pos rfl,List.getD_eq_getElem?_getD,List.getElem?_set]
  by_cases h2:i=j
  ·subst h2;rw [if_pos rfl,if_pos (by rw [eD];exact hi),if_neg om,if_pos rfl,Jk hk];rfl
  · have h3:¬j=i:=fun q=>h2 q.symm
    rw [if_neg h2,<-List.getD_eq_getElem?_getD,kf hj];simp only [h3,if_false]
theorem O2 (s:ee):uG s s.ls.length 0=im s:=by
  refine At (by rw [eD,oO]) (fun j hj=>?_);rw [eD] at hj;rw [kf hj,if_pos hj];exact(Pu hj).symm
/-! what a setup has -/
def bZ (s:ee):Gr:=if dt s=true then im s else []
def GC (s:ee):Bool:=dt s&&wx (bZ s)
def Gg (s:ee):List Int:=if GC s=true then kP (bZ s) else []
def Pa (s:ee):Nat:=if GC s=true then dpt (bZ s) else 0
def Rp (s:ee):List Int:=if dt s=true/\wx (bZ s)=false then SH (bZ s) else []
theorem pe (h:dt s=true):bZ s=im s:=if_pos h
theorem v5 (h:dt s=false):bZ s=[] :=if_neg (by rw [h];simp)
theorem w7 (s:ee):TP (bZ s):=by
  cases h:dt s with
  |true=>rw [pe h];exact Tg h
  |false=>rw [v5 h];intro i k hk;have:=Hi hk;cases this
theorem xH (s:ee):(bZ s).length<=12:=by
  cases h:dt s with
  |true=>rw [pe h];exact Sh h
  |false=>rw [v5 h];exact Nat.zero_le _
def val (B:Nat):List Nat->Nat
  | [] =>0
  |d::l=>d+B*val B l
def mk (k:Nat):Nat->Nat
  |0=>0
  |m+1=>(2 ^ k-1)+2 ^ k*(2 ^ k*mk k m)
end Go.Eng
namespace Go.Eng
open Go Go.Proofs Go.RowKit
variable {G:Gr} {d lock:Int} {xs:List bO} {cap i k l n t z:Nat} {E:Nat->Prop} {ad:Option Addr} {x:aB} {s:ee} {y:iy}
theorem P8 {s:BitVec 64} {n:Int} (h:oG s=n) (w:World) (hT:sb w):aD Tryz.prog 44 #[U s] w (fun v w'=>v= .int .i64 n/\Ext w w'):=h▸qT s w hT
abbrev gB (b:Nat) (G:Gr):Nat×Obj:=(b,.cells (arr fU G []) 170 (0,0))
abbrev gO (G:Gr):Obj:= .cells (arr fU G []) 170 (0,0)
def Cn (n0:Nat) (v:Value) (m:ab):Prop:=∃b,v= .pointer (some ⟨b,0,none⟩)/\m=[gB b kk]/\n0<=b
theorem Cn.mono:∀(k k':Nat) u m,k'<=k->Cn k u m->Cn k' u m:=fun k k' u m h ⟨b,h1,h2,h3⟩=>⟨b,h1,h2,by omega⟩
theorem Kq (w:World):aD Tryz.prog 42 #[] w (fun v w'=>Ext w w'/\∃m,Cn w.heap.size v m/\Mem w' m/\∀p∈m,w.heap.size<=p.1):=by
 refine aD.ak Tryz.func42 rfl Tryz.ntmps42 rfl ([]) (no) (Mem.nil w) ?_;refine J7 ?_;refine LM.val (aE (cs:=#[_,_,_,_,_,_,_,_,_,_,_,_,_,_,_,_,_,_,_,_,_,_,_,_,_,_,_,_,_,_,_,_,_,_,_,_,_,_,_,_,_,_,_,_,_,_,_,_,_,_,_,_,_,_,_,_,_,_,_,_,_,_,_,_]) rfl (by first|rfl|kernel_rfl)) ?_;refine LM.box rfl rfl (fun b2 wi=>?_);refine J4 ?_;refine qL Tryz.results42 rfl fun w' ao aa aA=>?_;exact⟨aa,[gB b2 kk],⟨b2,rfl,rfl,wi⟩,aJ.mem (by(repeat' (first|exact aJ.nil _|refine aJ.cons kr ?_|refine aJ.app ?_))) _ ao,fun p hp=>by simp only [List.mem_cons,List.not_mem_nil,or_false] at hp;subst hp;assumption⟩
theorem Db (b:Nat) (who:Int) (w:World):aD Tryz.prog 98 #[.pointer (some ⟨b,0,none⟩),.int .i64 who] w (fun v w'=>v= .bool (Bs who)/\Ext w w'):=by
 refine aD.ak Tryz.func98 rfl Tryz.ntmps98 rfl ([]) (no) (Mem.nil w) ?_;refine J8 ?_;refine LM.val (Ry kr rfl rfl) ?_;refine J5 ?_;refine LM.aw (t:=11) rfl (fun h1=>?_) (fun h1=>?_)
 ·refine J7 ?_;refine qL Tryz.results98 rfl fun w' ao aa aA=>?_;refine ⟨?_,aa⟩;simp only [bd,Bs,h1,decide_true,decide_false,Bool.true_and,Bool.false_and,Bool.and_true,Bool.and_false,Bool.not_true,Bool.not_false,Bool.true_or,Bool.false_or,Bool.or_true,Bool.or_false,ne_eq,not_true_eq_false,not_false_eq_true,Bool.and_self]
 refine J7 ?_;refine qL Tryz.results98 rfl fun w' ao aa aA=>?_;refine ⟨?_,aa⟩;simp only [bd,Bs,h1,decide_true,decide_false,Bool.true_and,Bool.false_and,Bool.and_true,Bool.and_false,Bool.not_true,Bool.not_false,Bool.true_or,Bool.false_or,Bool.or_true,Bool.or_false,ne_eq,not_true_eq_false,not_false_eq_true,Bool.and_self]
theorem JU (b:Nat) (G:Gr) (s:BitVec 64) (w:World) (hG:G.length=64) (hT:sb w) (hM:Mem w [gB b G]):aD Tryz.prog 137 #[.pointer (some ⟨b,0,none⟩),U s] w (fun v w'=>v=U (iH G s)/\Ext w w'):=by
 refine aD.ak Tryz.func137 rfl Tryz.ntmps137 rfl ([gB b G]) (no) hM ?_;refine UT ?_;refine af.aO (α:=BitVec 64×BitVec 64) (fun ⟨met,todo⟩=>[(5,U met),(6,U todo)]) [(0,_)] (fun ⟨met,todo⟩=>[gB b G]) (fun ⟨met,todo⟩=>SJ G s met todo) (fun ⟨met,todo⟩=>64-ep (met&&& ~~~todo)) ((s,s)) cA aX (SJ.init G s) ?_;rintro ⟨met,todo⟩ hi;change af _ _ _ _ _ _ _ ([gB b G]) _ _ _;refine J4 ?_;refine LM.val (mF (b:=0#64) rfl rfl) ?_;refine J2 ?_;refine af.aj rfl (fun h1=>?_) (fun h1=>?_)
 ·refine J6 ?_;refine cE Tryz.func44 rfl (fun w hm hc hg=>P8 (n:=(fj todo:Nat)) (by unfold oG;rw [if_neg h1]) w (hT.ext hc)) ?_;refine J7 ?_;refine cE Tryz.func16 rfl (fun w hm hc hg=>sy _ _ w) ?_;refine J5 ?_;have bo:=(eU h1).1;refine J4 ?_;refine LM.val (Cd Tryz.underlying168 Tryz.sizeOf41 rfl rfl om) ?_;refine LM.rd (Tv ir Tryz.isAgg41 rfl rfl rfl (aH 0#64 om) (by rfl)) ?_;refine J1 ?_;refine LM.val (km rfl rfl) ?_;refine J7 ?_;refine LM.val (rp rfl rfl) ?_;refine J6 ?_;refine LM.val (rp rfl rfl) ?_;refine J3 ?_;refine aK (met|||GN G met (fj todo),gb todo (fj todo:Nat)|||GN G met (fj todo)) ?_ ?_
  ·exact(hi.step h1).1
  ·exact(hi.step h1).2
 refine cM ?_;refine qL Tryz.results137 rfl fun w' ao aa aA=>?_;have h0:todo=0#64:=(by simpa using h1);subst h0;exact⟨by simp only [bd];rw [hi.end],aa⟩
theorem CD (b:Nat) (G:Gr) (who:Int) (s:BitVec 64) (w:World) (hG:G.length=64) (hT:sb w) (hM:Mem w [gB b G]):aD Tryz.prog 99 #[.pointer (some ⟨b,0,none⟩),.int .i64 who,U s] w (fun v w'=>v= .bool (aq (iH G s) who)/\Ext w w'):=by
 refine aD.ak Tryz.func99 rfl Tryz.ntmps99 rfl ([gB b G]) (no) hM ?_;refine J9 ?_;refine cE Tryz.func98 rfl (fun w hm hc hg=>Db _ _ w) ?_;refine J1 ?_;refine LM.bn (t:=10) rfl (fun h1=>?_) (fun h1=>?_)
 ·refine J3 ?_;refine cE Tryz.func137 rfl (fun w hm hc hg=>JU b G _ w hG (hT.ext hc) (hm.pick _)) ?_;refine J2 ?_;refine cE Tryz.func35 rfl (fun w hm hc hg=>pZ _ _ w) ?_;refine J5 ?_;refine qL Tryz.results99 rfl fun w' ao aa aA=>?_;exact⟨rfl,aa⟩
 refine cF ?_;refine qL Tryz.results99 rfl fun w' ao aa aA=>?_;refine ⟨?_,aa⟩;simp only [bd];congr 1;cases hh:aq (iH G s) who;rfl;(have:=gk hh;simp [Bs,this.1,this.2] at h1)
theorem Ki (b:Nat) (G:Gr) (who:Int) (s:BitVec 64) (w:World) (hG:G.length=64) (hT:sb w) (hb0:0<b) (hM:Mem w [gB b G]):aD Tryz.prog 43 #[.pointer (some ⟨b,0,none⟩),.int .i64 who,U s] w (UW b (.int .i64 (vY G who s)) (gO (qt G who s)) w):=by
 refine aD.ak Tryz.func43 rfl Tryz.ntmps43 rfl ([gB b G]) ((fun x=>x=b)) hM ?_;refine dc ?_;refine cE Tryz.func98 rfl (fun w hm hc hg=>Db _ _ w) ?_;refine J4 ?_;refine af.aN rfl (fun h1=>?_) (fun h1=>?_)
 ·refine J8 ?_;refine qL Tryz.results43 rfl fun w' ao aa aA=>?_;have he:vY G who s=1:=(by unfold vY;rw [if_neg (by simpa using h1)]);refine ⟨by rw [he];rfl,aa,?_⟩;unfold qt;rw [if_neg om];exact ao.at b
 have eK:=g8.1 (show Bs who=true by simpa using h1);refine J5 ?_;refine cE Tryz.func99 rfl (fun w hm hc hg=>CD b G _ _ w hG (hT.keep hc (fun h=>by omega)) (hm.pick _)) ?_;refine J3 ?_;refine af.aN rfl (fun h2=>?_) (fun h2=>?_)
 ·refine J8 ?_;refine qL Tryz.results43 rfl fun w' ao aa aA=>?_;have he:vY G who s=9:=(by unfold vY;rw [if_pos (by simpa using h1),if_pos h2]);refine ⟨by rw [he];rfl,aa,?_⟩;unfold qt;rw [if_neg om];exact ao.at b
 refine cF ?_;refine LM.val (Ib Tryz.underlying168 Tryz.sizeOf41 rfl rfl om) ?_;refine LM.ajw (f:=fU) _ ir Tryz.sizeOf41 rfl rfl rfl rfl (aH 0#64 om) rfl rfl rfl (fun _=>rfl) ?_;refine J8 ?_;refine qL Tryz.results43 rfl fun w' ao aa aA=>?_;have he:vY G who s=0:=(by unfold vY;rw [if_pos (by simpa using h1),if_neg (by rw [h2];simp)]);refine ⟨by rw [he];rfl,aa,?_⟩;unfold qt;rw [if_pos he];exact ao.at b
structure BhI (G:Gr) (w:Nat) (X:BitVec 64):Prop where
  sound:∀i:Nat,aq X i=true->iD G (ot G i) w
abbrev ZH (b:Nat) (ad:Option Addr) (n cap:Nat):Nat×Obj:=(b,.cells #[.slice ad n cap] 63 (0,0))
def XI (s:ee) (n0:Nat) (v:Value) (m:ab):Prop:=∃ad n cap,v= .tuple #[.slice ad n cap,.bool (dt s)]/\n=(bZ s).length/\Sl fU 41 1 n0 (bZ s) (.slice ad n cap) m
theorem XI.mono {s:ee} :∀(k k':Nat) u m,k'<=k->XI s k u m->XI s k' u m:=fun k k' u m h ⟨ad,n,cap,h1,h2,h3⟩=>⟨ad,n,cap,h1,h2,h3.mono h⟩
theorem JM (G:Gr) {l:List Nat} (h:l[k]? =some i) (g:BitVec 64):(l.take (k+1)).foldl (fun a i=>a|||ot G i) g=(l.take k).foldl (fun a i=>a|||ot G i) g|||ot G i:=by
  rw [List.take_add_one,h,List.foldl_append];rfl
theorem Pj {s:BitVec 64} (w:World) (hT:sb w) (h:s≠0#64):aD Tryz.prog 44 #[U s] w (fun v w'=>v= .int .i64 (fj s:Nat)/\Ext w w'):=by
  have:=qT s w hT
  unfold oG at this;rw [if_neg h] at this;exact this
theorem Tj {p:Nat->Bool} {l:List Nat} (h:l[k]? =some i) (h0:∀j,j<k->p (l.getD j 0)=false) (hp:p i=true):l.find? p=some i:=by
  have hk:=(List.getElem?_eq_some_iff.1 h).1;rw [List.find?_eq_some_iff_getElem];refine ⟨hp,k,hk,(List.getElem?_eq_some_iff.1 h).2,fun j hj=>?_⟩;have:=h0 j hj;rw [List.getD_eq_getElem?_getD,List.getElem?_eq_getElem om] at this;simpa using this
theorem FR {p:Nat->Bool} {l:List Nat} (h0:∀j,j<l.length->p (l.getD j 0)=false):l.find? p=none:=by
  rw [List.find?_eq_none];intro x hx;obtain ⟨j,hj,rfl⟩:=List.getElem_of_mem hx;have:=h0 j hj;rw [List.getD_eq_getElem?_getD,List.getElem?_eq_getElem hj] at this;simpa using this
theorem getD_at {l:List Nat} (h:l[k]? =some i):l.getD k 0=i:=by rw [List.getD_eq_getElem?_getD,h];rfl
theorem xE {s:dU} (w:World) (hI:s.In w):aD Tryz.prog 13 #[s.val] w (fun v w'=>Ext w w'/\∃m,XI s.C w.heap.size v m/\Mem w' m/\∀p∈m,w.heap.size<=p.1):=by
 have qV:=hI.qV;have qE:=hI.qE;have hp:=hI.hp;have iT:s.C.ps.length=s.ps.length:=List.length_map ..;have eE:s.C.ls.length=s.ls.length:=rfl;refine aD.ak Tryz.func13 rfl Tryz.ntmps13 rfl ([]) (no) (Mem.nil w) ?_;refine J2 ?_;refine LM.box rfl rfl (fun b1 l6=>?_);refine J7 ?_;refine LM.rd (aR Tryz.isAgg30 Tryz.sizeOf30 rfl rfl) ?_;refine cE Tryz.func41 rfl (fun w hm hc hg=>JR (s:=s) w (hI.ext hc)) ?_;refine J3 ?_;refine af.aN rfl (fun h1=>?_) (fun h1=>?_)
 ·refine J8 ?_;refine QM.leave (.inl rfl) [.tmp 2,.tmp 3] Tryz.results13 rfl ?_;intro w' ao aa aA;have j3:dt s.C=false:=(by simpa using h1);exact⟨aa,[],⟨none,0,0,by rw [j3];rfl,by rw [v5 j3];rfl,by rw [v5 j3];exact .nil _ _ _ _⟩,Mem.nil _,fun p hp=>by cases hp⟩
 have j3:dt s.C=true:=(by simpa using h1);obtain ⟨h8,h8p,-⟩:=gu j3;refine J7 ?_;refine LM.CJ (f:=fU) (a0:=0#64) Tryz.underlying63 Tryz.typeInfo41 rfl rfl rfl rfl ir rfl rfl rfl om (by simp only [Tryz.t41];omega) om (by unfold maxLen;omega) (fun Nb Ny EP abY O1=>?_);refine cM ?_;refine af.aO (α:=Nat×ab) (fun ⟨i,m⟩=>[(17,.int .i64 (i:Nat))]) [(1,_),(4,_),(16,_)] (fun ⟨i,m⟩=>m++(kZ b1 s:: [])) (fun ⟨i,m⟩=>i<=Ny/\Sl fU 41 1 w.heap.size (uG s.C i 0) (.slice Nb Ny Ny) m) (fun ⟨i,m⟩=>Ny-i) ((0,EP)) cA aX ⟨Nat.zero_le _,by have h:=O1;rw [Ky];rw [show Ny=s.C.ls.length by omega] at h ⊢;exact h⟩ ?_;rintro ⟨i,m⟩ ⟨hi,hs⟩;change af _ _ _ _ _ _ _ (m++(kZ b1 s:: [])) _ _ _;have Qk:=eD s.C i 0;refine J6 ?_;refine af.aj rfl (fun h2=>?_) (fun h2=>?_)
 ·refine UT ?_;refine af.aO (α:=Nat×ab) (fun ⟨k,mi⟩=>[(23,.int .i64 (k:Nat))]) [(1,_),(4,_),(5,_),(16,_),(17,_),(21,_),(22,_)] (fun ⟨k,mi⟩=>mi++(kZ b1 s:: [])) (fun ⟨k,mi⟩=>k<=s.pn/\Sl fU 41 1 w.heap.size (uG s.C i k) (.slice Nb Ny Ny) mi) (fun ⟨k,mi⟩=>s.pn-k) ((0,m)) cA aX ⟨Nat.zero_le _,hs⟩ ?_;rintro ⟨k,mi⟩ ⟨hk,L1⟩;change af _ _ _ _ _ _ _ (mi++(kZ b1 s:: [])) _ _ _;have aoU:=eD s.C i k;refine J6 ?_;refine af.aj rfl (fun h3=>?_) (fun h3=>?_)
  ·have tS:s.ps.getD k default∈s.ps:=List.mem_of_getElem? (aH default om);have zr:=hI.ops _ tS;have IV:(s.ps.getD k default).c.xs.length<=20:=yd j3 (List.mem_map_of_mem tS);refine J7 ?_;refine LM.dV (de aC ir Tryz.isAgg62 Tryz.sizeOf62 rfl c7 id) ?_;refine LM.alloc Tryz.zeroValue62 rfl (fun b7 K9=>?_);refine LM.c6 Tryz.sizeOf62 rfl rfl rfl rfl cZ bF ?_;refine J2 ?_;refine af.draw [(0,0),(1,0),(2,0),(3,1),(4,1),(5,0),(6,2),(7,0),(8,0),(9,3)] kr kr ?_;refine J3 ?_;refine LD.rd rfl rfl (bt aC ir Tryz.isAgg41 rfl rfl (by exact aH 0#64 cH) (by rfl)) ?_;refine LD.rd rfl rfl (aR Tryz.isAgg62 Tryz.sizeOf62 rfl rfl) ?_;refine J1 ?_;refine dE rfl rfl Tryz.func12 rfl (fun w hm hc hg=>s3 _ w zr.1 (zr.2.ext hc) IV) ?_;refine LD.val rfl rfl (rp rfl rfl) ?_;refine J1 ?_;refine LD.tail rfl rfl ?_;refine LM.ja _ (j:=0) aC ir Tryz.sizeOf41 rfl rfl rfl (by exact aH 0#64 cH) rfl (by decide) (by rfl) rfl kU (fun ms CM P9=>?_);refine J1 ?_;refine QM.qn ?_;refine J6 ?_;refine aK ((k+1,ms)) ?_ ?_
   ·have e:=MH (s:=s.C) (i:=i) (k:=k) om om;rw [show s.C.ps.getD k default=(s.ps.getD k default).c from eT] at e;exact⟨by omega,by rw [<-e];exact CM⟩
   ·(dsimp only;omega)
  refine cF ?_;refine aK ((i+1,mi)) ?_ ?_
  ·exact⟨by omega,by rw [<-Ku,show s.C.ps.length=k by omega];exact L1⟩
  ·(dsimp only;omega)
 refine gz ?_;refine QM.leave (.inl rfl) [.tmp 2,.tmp 3] Tryz.results13 rfl ?_;intro w' ao aa aA;have eK:i=s.C.ls.length:=om;rw [eK,O2,<-pe j3] at hs;exact⟨aa,m,⟨Nb,Ny,Ny,by rw [j3];rfl,by rw [pe j3,oO];omega,hs⟩,ao.pick m,hs.ge⟩
theorem zz (w:World) (hT:sb w) (hn:n=G.length) (hl:Sr fU 1 G (.slice ad n cap) w) (hx:G.length<=12):aD Tryz.prog 14 #[.slice ad n cap] w (fun v w'=>v= .bool (wx G)/\Ext w w'):=by
 have aiE:=hT.pos;refine aD.ak Tryz.func14 rfl Tryz.ntmps14 rfl ([]) (no) (Mem.nil w) ?_;refine J7 ?_;refine LM.dS (oC Tryz.func42) Cn.mono (fun w hm hc hg=>Kq w) ?_;rintro u6 m6 ⟨bg,rfl,rfl,Zx⟩-;refine cM ?_;refine af.aO (α:=Nat×Gr) (fun ⟨i,H⟩=>[(9,.int .i64 (i:Nat))]) [(3,_),(7,_),(8,_)] (fun ⟨i,H⟩=>gB bg H:: []) (fun ⟨i,H⟩=>i<=n/\H=yH G i/\Tc G i) (fun ⟨i,H⟩=>n-i) ((0,kk)) cA aX ⟨Nat.zero_le _,rfl,fun j hj=>absurd hj (Nat.not_lt_zero _)⟩ ?_;rintro ⟨i,H⟩ ⟨hi,hH,hP⟩;change af _ _ _ _ _ _ _ (gB bg H:: []) _ _ _;refine J6 ?_;refine af.aj rfl (fun h1=>?_) (fun h1=>?_)
 ·refine J8 ?_;refine LM.dV (iO aC Tryz.isAgg41 rfl rfl (by exact aH 0#64 cH) (by rfl) id) ?_;refine J9 ?_;refine LM.cW (oC Tryz.func43) (fun w hm hc hg=>Ki bg H _ _ w (by rw [hH];exact w5 _ _) (hT.ext hc) om (hm.pick _)) rfl bF ?_;refine J3 ?_;refine af.aj rfl (fun h2=>?_) (fun h2=>?_)
  ·refine dc ?_;refine qL Tryz.results14 rfl fun w' ao aa aA=>?_;refine ⟨?_,aa⟩;rw [Rz (hP.bad om (by rw [<-hH];exact h2))];rfl
  refine J7 ?_;refine aK (i+1,qt H (i:Nat) (G.getD i 0#64)) ?_ ?_
  ·exact⟨by omega,by rw [pP,hH];rfl,fun j hj=>by rcases Nat.lt_or_ge j i with q|q;exact hP j q;rw [show j=i by omega,<-hH];exact Classical.not_not.1 h2⟩
  ·(dsimp only;omega)
 refine dc ?_;refine qL Tryz.results14 rfl fun w' ao aa aA=>?_;have eK:i=G.length:=om;subst eK;refine ⟨?_,aa⟩;rw [(lJ G).2 (hP.aii om)];rfl
theorem Eg (left:BitVec 64) (w:World) (hT:sb w) (hn:n=G.length) (hl:Sr fU 1 G (.slice ad n cap) w) (lA:∀k:Nat,aq left k=true->k<G.length):aD Tryz.prog 15 #[.slice ad n cap,U left] w (fun v w'=>v= .int .i64 (xX G left)/\Ext w w'):=by
 refine aD.ak Tryz.func15 rfl Tryz.ntmps15 rfl ([]) (no) (Mem.nil w) ?_;refine J2 ?_;refine LM.box rfl rfl (fun b2 wi=>?_);refine J5 ?_;refine LM.alloc Tryz.zeroValue41 rfl (fun b5 BV=>?_);refine J6 ?_;refine LM.dS (oC Tryz.func39) Gd.mono (fun w hm hc hg=>xD _ w) ?_;rintro u8 m8 ⟨c1,rfl,rfl,HY⟩-;refine J3 ?_;refine af.sn (α:=BitVec 64) (fun k x=>AX b5 x::AX c1 left::ZH b2 ad n cap:: []) (0#64) aX ?_;refine af.range (α:=BitVec 64) (β:=Unit) (dF Tryz.func86 kr rfl) rfl (Bw (s:=left)) (fun k x=>AX b5 x::AX c1 left::ZH b2 ad n cap:: []) (fun _ _=>top) (fun k x=>k<=(ek left).length/\x=((ek left).take k).foldl (fun a i=>a|||ot G i) 0#64) (fun ⟨⟩=>[]) (fun _=>top) (fun c ⟨⟩=>False) 0#64 rfl (fun _ h=>h) ⟨Nat.zero_le _,rfl⟩ kr (by intro k av vW;obtain ⟨i,hi,rfl⟩:=lx vW;have bo:=(List.getElem?_eq_some_iff.1 hi).1;have eA:i<G.length:=lA i (by rw [bz];exact gv.1 (List.mem_of_getElem? hi));rfl) (.inl trivial) (fun k a w hm hc _ _=>⟨aJ.mem aX w hm,hT.ext hc⟩) (fun _ _ _ _=>kW _) (fun _ _ _=>kW _) (fun k x _=>c9 rfl (c9 rfl (c9 rfl wS))) (fun c z _=>by((repeat (refine c9 rfl ?_));exact fun p hp=> .inl (by first|exact hp|(simp at hp;done)|(simp [hp];done)|(simp at hp ⊢;first|exact .inl hp|exact hp|(simp [hp];done))))) ?_ ?_ ?_ ?_
 ·rintro k av x l D rc n1 W1 hD eE AO OB vW ⟨hk,hx⟩;change af _ _ _ _ _ _ _ ((l,Obj.loop rc)::([(D,Obj.deferred (some []))] ++(AX b5 x::AX c1 left::ZH b2 ad n cap:: []))) _ _ _;obtain ⟨i,hi,rfl⟩:=lx vW;have bo:=(List.getElem?_eq_some_iff.1 hi).1;have eA:i<G.length:=lA i (by rw [bz];exact gv.1 (List.mem_of_getElem? hi));refine J3 ?_;refine QM.sf (AO k x) eE ?_;refine J1 ?_;refine af.draw [(0,1),(1,1),(2,0),(3,0),(4,1),(5,0),(6,3)] kr kr ?_;refine J4 ?_;refine LD.dV rfl rfl (iO aC Tryz.isAgg41 rfl rfl (by exact aH 0#64 cH) (by rfl) id) ?_;refine LD.val rfl rfl (rp rfl rfl) ?_;refine LD.tail rfl rfl ?_;refine LM.st Tryz.sizeOf41 rfl rfl rfl dx rfl bF ?_;refine J1 ?_;refine QM.qn ?_;refine J1 ?_;refine QM.next (x|||G.getD i 0#64) (aJ.mem aX) (fun _ h=>h) ?_
  ·exact⟨by omega,by rw [JM G hi,<-hx];rfl⟩
 ·rintro x D0 As ⟨hk,hx⟩;refine J6 ?_;refine LM.val (km rfl rfl) ?_;refine cE Tryz.func44 rfl (fun w hm hc hg=>qT _ w (hT.ext hc)) ?_;refine J4 ?_;refine QM.BA (ds:=[D0]) (.inl rfl) [.tmp 4] Tryz.results15 rfl (fun D h=>by simp only [List.mem_cons,List.not_mem_nil,or_false] at h;omega) ?_;intro w' ao aa;refine ⟨?_,aa⟩;rw [s5,List.take_of_length_le (Nat.le_refl _)] at hx;rw [hx];rfl
 ·rintro ⟨⟩ D0 As hx;exact hx.elim
 rintro id ⟨⟩ D0 As hx;exact hx.elim
theorem u5 (i:Nat) (w:World) (hT:sb w) (hn:n=G.length) (hl:Sr fU 1 G (.slice ad n cap) w) (lA:TP G) (hi:i<G.length):aD Tryz.prog 36 #[.slice ad n cap,.int .i64 (i:Nat)] w (fun v w'=>v=U (iH G (ot G i))/\Ext w w'):=by
 refine aD.ak Tryz.func36 rfl Tryz.ntmps36 rfl ([]) (no) (Mem.nil w) ?_;refine Ai ?_;refine LM.dV (iO aC Tryz.isAgg41 rfl rfl (by exact aH 0#64 cH) (by rfl) id) ?_;refine J4 ?_;refine af.aO (α:=BitVec 64×BitVec 64) (fun ⟨met,todo⟩=>[(5,U met),(6,U todo)]) [(0,_)] (fun ⟨met,todo⟩=>[]) (fun ⟨met,todo⟩=>RX G (ot G i) met todo) (fun ⟨met,todo⟩=>64-ep met) ((0#64,ot G i)) cA aX (RX.init G _) ?_;rintro ⟨met,todo⟩ hK;change af _ _ _ _ _ _ _ ([]) _ _ _;have Lv:=dO met;refine J4 ?_;refine LM.val (mF (b:=0#64) rfl rfl) ?_;refine J2 ?_;refine af.aj rfl (fun h1=>?_) (fun h1=>?_)
 ·have Qs:=(eU h1).2.1;have bo:fj todo<G.length:=lA.rch (hK.sound _ (.inr (by rw [bz];exact Qs)));refine J6 ?_;refine cE Tryz.func44 rfl (fun w hm hc hg=>Pj w (hT.ext hc) h1) ?_;refine J7 ?_;refine cE Tryz.func38 rfl (fun w hm hc hg=>ui _ _ w) ?_;refine J8 ?_;refine LM.dV (iO aC Tryz.isAgg41 rfl rfl (by exact aH 0#64 cH) (by rfl) id) ?_;refine LM.val (rp rfl rfl) ?_;refine J1 ?_;refine LM.val (km rfl rfl) ?_;refine J3 ?_;refine aK ((bL met (fj todo:Nat),(todo|||G.getD (fj todo) 0#64)&&& ~~~(bL met (fj todo:Nat)))) ?_ ?_
  ·exact(hK.step h1).1
  ·have h9:=(hK.step h1).2;have h8:=dO (bL met (fj todo:Nat));show 64-ep (bL met (fj todo:Nat))<64-ep met;omega
 refine cM ?_;refine qL Tryz.results36 rfl fun w' ao aa aA=>?_;have h0:todo=0#64:=Classical.not_not.1 h1;rw [h0] at hK;refine ⟨?_,aa⟩;rw [hK.end];rfl
theorem Fp (a t:Nat) (w:World) (hT:sb w) (hn:n=G.length) (hl:Sr fU 1 G (.slice ad n cap) w) (lA:TP G) (ha:a<G.length):aD Tryz.prog 37 #[.slice ad n cap,.int .i64 (a:Nat),.int .i64 (t:Nat)] w (fun v w'=>v= .int .i64 (sF G a t:Nat)/\Ext w w'):=by
 refine aD.ak Tryz.func37 rfl Tryz.ntmps37 rfl ([]) (no) (Mem.nil w) ?_;refine J2 ?_;refine LM.box rfl rfl (fun b3 FM=>?_);refine LM.box rfl rfl (fun b5 BV=>?_);refine LM.alloc Tryz.zeroValue3 rfl (fun b6 Qo=>?_);refine J8 ?_;refine LM.dV (iO aC Tryz.isAgg41 rfl rfl (by exact aH 0#64 cH) (by rfl) id) ?_;refine LM.dS (oC Tryz.func39) Gd.mono (fun w hm hc hg=>xD _ w) ?_;rintro u12 m12 ⟨c1,rfl,rfl,HY⟩-;refine J3 ?_;refine af.sn (α:=Unit) (fun k ⟨⟩=>AX c1 (ot G a)::(b6,.cells #[.int .i64 0] 3 (0,0))::(b5,.cells #[.int .i64 (t:Nat)] 3 (0,0))::ZH b3 ad n cap:: []) (⟨⟩) aX ?_;refine af.range (α:=Unit) (β:=Nat) (dF Tryz.func86 kr rfl) rfl (Bw (s:=ot G a)) (fun k ⟨⟩=>AX c1 (ot G a)::(b6,.cells #[.int .i64 0] 3 (0,0))::(b5,.cells #[.int .i64 (t:Nat)] 3 (0,0))::ZH b3 ad n cap:: []) (fun _ _=>top) (fun k ⟨⟩=>k<=(ek (ot G a)).length/\∀j,j<k->vx G t ((ek (ot G a)).getD j 0)=false) (fun i=>(b6,.cells #[.int .i64 (i:Nat)] 3 (0,0)):: []) (fun _=>top) (fun c i=>c= .ret/\∃k,(ek (ot G a))[k]? =some i/\(∀j,j<k->vx G t ((ek (ot G a)).getD j 0)=false)/\vx G t i=true) ⟨⟩ rfl (fun _ h=>h) ⟨Nat.zero_le _,fun j hj=>absurd hj (Nat.not_lt_zero _)⟩ kr (by intro k av vW;obtain ⟨i,hi,rfl⟩:=lx vW;have bo:=(List.getElem?_eq_some_iff.1 hi).1;have eA:i<G.length:=lA a i (by rw [bz];exact gv.1 (List.mem_of_getElem? hi));rfl) (.inl trivial) (fun k a w hm hc _ _=>⟨aJ.mem aX w hm,hT.ext hc⟩) (fun _ _ _ _=>kW _) (fun _ _ _=>kW _) (fun k x _=>c9 rfl (c9 rfl (c9 rfl (c9 rfl wS)))) (fun c z _=>c9 rfl wS) ?_ ?_ ?_ ?_
 ·rintro k av ⟨⟩ l D rc n1 W1 hD eE AO OB vW ⟨hk,h0⟩;change af _ _ _ _ _ _ _ ((l,Obj.loop rc)::([(D,Obj.deferred (some []))] ++(AX c1 (ot G a)::(b6,.cells #[.int .i64 0] 3 (0,0))::(b5,.cells #[.int .i64 (t:Nat)] 3 (0,0))::ZH b3 ad n cap:: []))) _ _ _;obtain ⟨i,hi,rfl⟩:=lx vW;have bo:=(List.getElem?_eq_some_iff.1 hi).1;have eA:i<G.length:=lA a i (by rw [bz];exact gv.1 (List.mem_of_getElem? hi));refine J3 ?_;refine QM.sf (AO k ⟨⟩) eE ?_;refine J2 ?_;refine af.draw [(0,0),(1,1),(2,0),(3,0),(4,1),(5,0),(7,1),(6,2),(8,2),(9,0)] kr kr ?_;refine J4 ?_;refine LD.aw (t:=17) rfl (fun h1=>?_) (fun h1=>?_)
  ·refine cM ?_;refine LM.st Tryz.sizeOf3 rfl rfl rfl dx rfl bF ?_;refine J4 ?_;refine QM.Wq (i) (aJ.mem aX) (fun _ h=>h) ?_
   ·exact⟨rfl,k,hi,h0,by unfold vx;rw [decide_eq_true om];rfl⟩
  refine J3 ?_;refine dE rfl ⟨17,_,rfl,rfl,rfl⟩ Tryz.func36 rfl (fun w hm hc hg=>u5 i w (hT.ext hc) hn (hl.ext hc) lA eA) ?_;refine dE rfl ⟨17,_,rfl,rfl,rfl⟩ Tryz.func35 rfl (fun w hm hc hg=>pZ _ _ w) ?_;refine J3 ?_;refine af.aN rfl (fun h2=>?_) (fun h2=>?_)
  ·refine J3 ?_;refine LM.st Tryz.sizeOf3 rfl rfl rfl dx rfl bF ?_;refine J4 ?_;refine QM.Wq (i) (aJ.mem aX) (fun _ h=>h) ?_
   ·exact⟨rfl,k,hi,h0,by unfold vx;rw [(by assumption:aq (iH G (ot G i)) (t:Nat)=true),Bool.or_true]⟩
  refine J2 ?_;refine QM.next (⟨⟩) (aJ.mem aX) (fun _ h=>h) ?_
  ·exact⟨by omega,fun j hj=>by rcases Nat.lt_or_ge j k with q|q;exact h0 j q;rw [show j=k by omega,getD_at hi];unfold vx;rw [decide_eq_false om,Bool.false_or];exact aC⟩
 ·rintro ⟨⟩ D0 As ⟨hk,h0⟩;refine J5 ?_;refine LM.st Tryz.sizeOf3 rfl rfl rfl dx rfl bF ?_;refine J3 ?_;refine QM.Dg (ds:=[D0]) Tryz.results37 rfl (fun D h=>by simp only [List.mem_cons,List.not_mem_nil,or_false] at h;omega) Tryz.isAgg3 rfl ?_;intro w' ao aa;refine ⟨?_,aa⟩;unfold sF;rw [FR (fun j hj=>h0 j (by rw [s5];exact hj))];rfl
 ·rintro i D0 As hx;obtain ⟨-,k,hi,h0,gS⟩:=hx;refine J2 ?_;refine QM.Dg (ds:=[D0]) Tryz.results37 rfl (fun D h=>by simp only [List.mem_cons,List.not_mem_nil,or_false] at h;omega) Tryz.isAgg3 rfl ?_;intro w' ao aa;refine ⟨?_,aa⟩;unfold sF;rw [Tj hi h0 gS];rfl
 rintro id i D0 As hx;cases hx.1
def Ln (s:ee) (n0:Nat) (v:Value) (m:ab):Prop:=∃ad n cap,v= .tuple #[.slice ad n cap,.bool (GC s)]/\n=(Gg s).length/\Sl fI 3 1 n0 (Gg s) (.slice ad n cap) m
theorem Ln.mono {s:ee} :∀(k k':Nat) u m,k'<=k->Ln s k u m->Ln s k' u m:=fun k k' u m h ⟨ad,n,cap,h1,h2,h3⟩=>⟨ad,n,cap,h1,h2,h3.mono h⟩
theorem Ln.no (h:GC s=false) {n0:Nat}:Ln s n0 (.tuple #[.slice none 0 0,.bool false]) [] :=by
  have e:Gg s=[] :=if_neg (by rw [h];simp);exact⟨none,0,0,by rw [h],by rw [e];rfl,by rw [e];exact .nil _ _ _ _⟩
theorem RQ (h:GC s=false):Pa s=0:=if_neg (by rw [h];simp)
theorem Hj (h:¬(dt s=true/\wx (bZ s)=false)):Rp s=[] :=if_neg h
abbrev oGI (c:Nat) (i:Int):Nat×Obj:=(c,.cells #[.int .i64 i] 3 (0,0))
def Up (G:Gr) (l:List Int):Nat:=tD (dep G) (l.map Int.toNat)
theorem Mi (G:Gr) (i:Nat) (l:List Int):Up G ((i:Int)::l)=max (dep G i) (Up G l):=by unfold Up;rw [List.map_cons,sB,Int.toNat_natCast]
def afC (G:Gr) (p:Nat) (dp:List Int):Prop:=dp.length=G.length/\∀k:Nat,(k:Int)∈(kP G).drop p->dp.getD k 0=(dep G k:Int)
theorem s7 {l:List Int} {j:Nat} {x:Int} (h:i<l.length):(l.set i x).getD j 0=if i=j then x else l.getD j 0:=by
  rw [List.getD_eq_getElem?_getD,List.getElem?_set]
  by_cases e:i=j
  ·subst e;rw [if_pos rfl,if_pos h,if_pos rfl];rfl
  ·rw [if_neg e,if_neg e,List.getD_eq_getElem?_getD]
theorem set_set {l:List Int} {i:Nat} {x y:Int} :(l.set i x).set i y=l.set i y:=by rw [List.set_set]
theorem L8 {l:List Nat}:tD (dep G) l<=66:=uv.2 (fun i _=>Fi G i)
theorem nf {s:dU} (w:World) (hT:sb w) (hI:s.In w):aD Tryz.prog 6 #[s.val] w (fun v w'=>Ext w w'/\∃m,Ln s.C w.heap.size v m/\Mem w' m/\∀p∈m,w.heap.size<=p.1):=by
 have hlen:=xH s.C;have lA:=w7 s.C;refine aD.ak Tryz.func6 rfl Tryz.ntmps6 rfl ([]) (no) (Mem.nil w) ?_;refine J2 ?_;refine LM.box rfl rfl (fun b1 l6=>?_);refine J6 ?_;refine LM.rd (aR Tryz.isAgg30 Tryz.sizeOf30 rfl rfl) ?_;refine LM.dS (oC Tryz.func13) XI.mono (fun w hm hc hg=>xE w (hI.ext hc)) ?_;rintro u11 UY ⟨acA,n11,Ui,rfl,y9,E5⟩ abL;refine gz ?_;refine LM.bn (t:=16) rfl (fun h1=>?_) (fun h1=>?_)
 ·refine rA ?_;refine QM.leave (.inl rfl) [.tmp 2,.tmp 3] Tryz.results6 rfl ?_;intro w' ao aa aA;exact⟨aa,[],Ln.no (by unfold GC;rw [show dt s.C=false by simpa using h1];rfl),Mem.nil _,fun p hp=>by cases hp⟩
 refine J2 ?_;refine cE Tryz.func14 rfl (fun w hm hc hg=>zz w (hT.ext hc) y9 (E5.l7 ir hm) hlen) ?_;refine J4 ?_;refine af.aN rfl (fun h2=>?_) (fun h2=>?_)
 ·refine J8 ?_;refine QM.leave (.inl rfl) [.tmp 2,.tmp 3] Tryz.results6 rfl ?_;intro w' ao aa aA;exact⟨aa,[],Ln.no (by unfold GC;rw [show wx (bZ s.C)=false by simpa using h2,Bool.and_false]),Mem.nil _,fun p hp=>by cases hp⟩
 have j3:dt s.C=true:=(by simpa using h1);have uL:wx (bZ s.C)=true:=(by simpa using h2);have hA:=(lJ _).1 uL;have GB:GC s.C=true:=(by unfold GC;rw [j3,uL];rfl)
 refine cM ?_;refine LM.val (AT (a:=1#64) rfl rfl om) ?_;refine LM.val (Ag (b:=1#64) rfl rfl) ?_;refine J4 ?_;refine af.aO (α:=BitVec 64×List Int×Option Addr×Nat×Nat×ab) (fun ⟨left,os,eu,no,bP,mo⟩=>[(6,.slice eu no bP),(7,U left)]) [(4,_)] (fun ⟨left,os,eu,no,bP,mo⟩=>mo++(UY++(kZ b1 s:: []))) (fun ⟨left,os,eu,no,bP,mo⟩=>no=os.length/\kP (bZ s.C)=os++uh (bZ s.C) left/\QG (bZ s.C) left/\(∀k:Nat,aq left k=true->k<(bZ s.C).length)/\Sl fI 3 1 w.heap.size os (.slice eu no bP) mo) (fun ⟨left,os,eu,no,bP,mo⟩=>ep left) ((yS (bZ s.C).length,[],none,0,0,[])) ⟨l5,(by first|rfl|exact lk rfl (by unfold yS;rw [<-y9];rfl)),rfl,trivial⟩ aX ⟨rfl,rfl,QG.all lA hlen,fun k hk=>by rw [oV hlen] at hk;exact of_decide_eq_true hk,.nil _ _ _ _⟩ ?_;rintro ⟨left,os,eu,no,bP,mo⟩ ⟨gK,Sf,iT,bo,kH⟩;change af _ _ _ _ _ _ _ (mo++(UY++(kZ b1 s:: []))) _ _ _;have Lj:=congrArg List.length Sf;rw [DX hA hlen,List.length_append] at Lj;refine J4 ?_;refine LM.val (mF (b:=0#64) rfl rfl) ?_;refine J2 ?_;refine af.aj rfl (fun h3=>?_) (fun h3=>?_)
 ·obtain ⟨fi,hfi,-,hf,-⟩:=nF (nb hA h3);refine J7 ?_;refine cE Tryz.func15 rfl (fun w hm hc hg=>Eg left w (hT.ext hc) y9 (E5.l7 ir hm) bo) ?_;refine J7 ?_;refine LM.single Tryz.underlying26 Tryz.sizeOf3 Tryz.zeroValue3 rfl rfl rfl rfl rfl (fun b32 aiJ=>?_);refine LM.app Tryz.underlying26 Tryz.typeInfo3 rfl rfl rfl rfl rfl rfl rfl aC (by rfl) ir (by intro _ u hu;simp [fI] at hu;(repeat (first|(rcases hu with rfl|hu)|subst hu|rfl))) (by first|exact Nat.le_refl _|omega) kU (by first|omega|(unfold maxLen;omega)) (by simp only [Tryz.t3];omega) (fun E4 VE xb Wa aia Q5 Ur=>?_);refine J6 ?_;refine cE Tryz.func16 rfl (fun w hm hc hg=>sy _ _ w) ?_;refine J3 ?_;have hcw:=kj hf.1;rw [hfi] at Q5 ⊢;refine QM.dk ((gb left (fi:Nat),os++ [(fi:Int)],E4,VE,xb,Wa)) ⟨l5,(by first|rfl|exact lk rfl (by unfold yS;rw [<-y9];rfl)),rfl,trivial⟩ aX (fun _ h=>h) ?_ ?_
  ·exact⟨by rw [List.length_append,List.length_singleton];omega,by rw [Sf,lX hA h3,hfi,List.append_assoc];rfl,iT.step hf,fun k hk=>bo k (uE.1 hk).1,Q5⟩
  ·(dsimp only;omega)
 refine gz ?_;refine QM.leave (.inl rfl) [.tmp 2,.tmp 3] Tryz.results6 rfl ?_;intro w' ao aa aA;have h0:left=0#64:=Classical.not_not.1 h3;rw [h0,lL,List.append_nil] at Sf;have e:Gg s.C=os:=(by unfold Gg;rw [if_pos GB,Sf]);exact⟨aa,mo,⟨eu,no,bP,by rw [GB];rfl,by rw [e];exact gK,by rw [e];exact kH⟩,ao.pick mo,kH.ge⟩
set_option maxHeartbeats 1000000 in
theorem Fo {s:dU} (w:World) (hT:sb w) (hI:s.In w):aD Tryz.prog 10 #[s.val] w (New fI 3 1 (Rp s.C) w):=by
 have hlen:=xH s.C;have lA:=w7 s.C;refine aD.ak Tryz.func10 rfl Tryz.ntmps10 rfl ([]) (no) (Mem.nil w) ?_;refine J2 ?_;refine LM.box rfl rfl (fun b1 l6=>?_);refine J5 ?_;refine LM.rd (aR Tryz.isAgg30 Tryz.sizeOf30 rfl rfl) ?_;refine LM.dS (oC Tryz.func13) XI.mono (fun w hm hc hg=>xE w (hI.ext hc)) ?_;rintro u11 UY ⟨acA,n11,Ui,rfl,y9,E5⟩ abL;refine gz ?_;refine LM.bn (t:=16) rfl (fun h1=>?_) (fun h1=>?_)
 ·refine gz ?_;refine qL Tryz.results10 rfl fun w' ao aa aA=>?_;rw [Hj (fun q=>by rw [q.1] at h1;simp at h1)];exact⟨aa,[],.nil _ _ _ _,Mem.nil _⟩
 refine J2 ?_;refine cE Tryz.func14 rfl (fun w hm hc hg=>zz w (hT.ext hc) y9 (E5.l7 ir hm) hlen) ?_;refine J3 ?_;refine af.aN rfl (fun h2=>?_) (fun h2=>?_)
 ·refine J7 ?_;refine qL Tryz.results10 rfl fun w' ao aa aA=>?_;rw [Hj (fun q=>by rw [q.2] at h2;simp at h2)];exact⟨aa,[],.nil _ _ _ _,Mem.nil _⟩
 have j3:dt s.C=true:=(by simpa using h1);have uL:wx (bZ s.C)=false:=h2;have hA:¬jT (bZ s.C):=(fun q=>by rw [(lJ _).2 q] at uL;cases uL);obtain ⟨Zh,XY,hr3⟩:=zT hA;have hrr:=(eg _ _ _).1 XY;have ecy:Rp s.C=SH (bZ s.C):=if_pos ⟨j3,uL⟩;refine J9 ?_;refine af.aO (α:=Nat) (fun i=>[(5,.int .i64 (i:Nat))]) [(3,_)] (fun i=>UY++(kZ b1 s:: [])) (fun i=>i<=lE (bZ s.C)/\∀j,j<i->aq (iH (bZ s.C) (ot (bZ s.C) j)) (j:Nat)=false) (fun i=>lE (bZ s.C)-i) (0) cA aX ⟨Nat.zero_le _,fun j hj=>absurd hj (Nat.not_lt_zero _)⟩ ?_;rintro i ⟨hi,hb⟩;change af _ _ _ _ _ _ _ (UY++(kZ b1 s:: [])) _ _ _;refine J5 ?_;refine cE Tryz.func36 rfl (fun w hm hc hg=>u5 i w (hT.ext hc) y9 (E5.l7 ir hm) lA om) ?_;refine J1 ?_;refine cE Tryz.func35 rfl (fun w hm hc hg=>pZ _ _ w) ?_;refine J3 ?_;refine af.aN rfl (fun h3=>?_) (fun h3=>?_)
 ·refine J9 ?_;refine aK (i+1) ?_ ?_
  ·have ec:i≠lE (bZ s.C):=(fun q=>by rw [q,XY] at h3;cases h3);exact⟨by omega,fun j hj=>by rcases Nat.lt_or_ge j i with q|q;exact hb j q;rw [show j=i by omega];simpa using h3⟩
  ·have ec:i≠lE (bZ s.C):=(fun q=>by rw [q,XY] at h3;cases h3);omega
 have hir:i=lE (bZ s.C):=Kg hA (by simpa using h3) hb;subst hir;refine Zp ?_;refine af.aO (α:=BitVec 64×Nat×List Int×Option Addr×Nat×Nat×ab) (fun ⟨met,a,os,eu,no,bP,mo⟩=>[(6,.slice eu no bP),(7,U met),(8,.int .i64 (a:Nat))]) [(3,_),(5,_)] (fun ⟨met,a,os,eu,no,bP,mo⟩=>mo++(UY++(kZ b1 s:: []))) (fun ⟨met,a,os,eu,no,bP,mo⟩=>no=os.length/\SH (bZ s.C)=os++F5 (bZ s.C) (lE (bZ s.C)) met a/\iD (bZ s.C) (ot (bZ s.C) a) (lE (bZ s.C))/\Sl fI 3 1 w.heap.size os (.slice eu no bP) mo) (fun ⟨met,a,os,eu,no,bP,mo⟩=>64-ep met) ((0#64,lE (bZ s.C),[],none,0,0,[])) cA aX ⟨rfl,rfl,hrr,.nil _ _ _ _⟩ ?_;rintro ⟨met,a,os,eu,no,bP,mo⟩ ⟨gK,IK,hra,kH⟩;change af _ _ _ _ _ _ _ (mo++(UY++(kZ b1 s:: []))) _ _ _;have Lj:=congrArg List.length IK;rw [List.length_append] at Lj;have Iv:=Ae hra;have h65:(SH (bZ s.C)).length<=65:=C3 _ _ _ _ _;refine J5 ?_;refine cE Tryz.func35 rfl (fun w hm hc hg=>pZ _ _ w) ?_;refine J3 ?_;refine af.aN rfl (fun h4=>?_) (fun h4=>?_)
 ·refine J8 ?_;refine LM.single Tryz.underlying26 Tryz.sizeOf3 Tryz.zeroValue3 rfl rfl rfl rfl rfl (fun b39 aoF=>?_);refine LM.app Tryz.underlying26 Tryz.typeInfo3 rfl rfl rfl rfl rfl rfl rfl aC (by rfl) ir (by intro _ u hu;simp [fI] at hu;(repeat (first|(rcases hu with rfl|hu)|subst hu|rfl))) (by first|exact Nat.le_refl _|omega) kU (by first|omega|(unfold maxLen;omega)) (by simp only [Tryz.t3];omega) (fun aik n40 acE X4 apk ahj oS=>?_);refine J6 ?_;refine cE Tryz.func38 rfl (fun w hm hc hg=>ui _ _ w) ?_;refine J8 ?_;refine cE Tryz.func37 rfl (fun w hm hc hg=>Fp a (lE (bZ s.C)) w (hT.ext hc) y9 (E5.l7 ir hm) lA Iv) ?_;refine J2 ?_;refine aK ((bL met (a:Nat),sF (bZ s.C) a (lE (bZ s.C)),os++ [(a:Int)],aik,n40,acE,X4)) ?_ ?_
  ·exact⟨by rw [List.length_append,List.length_singleton];omega,by rw [IK,IM om om (show aq met (a:Nat)=false by simpa using h4),List.append_assoc];rfl,(IP hra hrr).2,ahj⟩
  ·have h9:=pK (V:=met) (w:=(a:Nat)) om om (show aq met (a:Nat)=false by simpa using h4);have h8:=dO (bL met (a:Nat));show 64-ep (bL met (a:Nat))<64-ep met;omega
 refine cM ?_;refine qL Tryz.results10 rfl fun w' ao aa aA=>?_;rw [Kb (show aq met (a:Nat)=true by simpa using h4),List.append_nil] at IK;rw [ecy,IK];exact⟨aa,mo,kH,ao.pick mo⟩
abbrev ZF (b:Nat) (ad:Option Addr) (n cap:Nat):Nat×Obj:=(b,.cells #[.slice ad n cap] 26 (0,0))
abbrev CW (G:Gr) (i k:Nat):Int:=((1+tD (dep G) ((ek (ot G i)).take k):Nat):Int)
theorem Jq {nx:Nat} (h:(ek (ot G i))[k]? =some nx):CW G i (k+1)=max (CW G i k) ((dep G nx:Int)+1):=by
  unfold CW;rw [List.take_add_one,h];show ((1+tD (dep G) (_++ [nx]):Nat):Int)=_;rw [L5];omega
theorem XM (G:Gr) (l:List Int):Up G l<=66:=L8
set_option maxHeartbeats 1000000 in
theorem G6 {s:dU} (w:World) (hT:sb w) (hI:s.In w):aD Tryz.prog 11 #[s.val] w (fun v w'=>v= .int .i64 (Pa s.C:Nat)/\Ext w w'):=by
 have hlen:=xH s.C;have lA:=w7 s.C;refine aD.ak Tryz.func11 rfl Tryz.ntmps11 rfl ([]) (no) (Mem.nil w) ?_;refine J2 ?_;refine LM.box rfl rfl (fun b1 l6=>?_);refine J5 ?_;refine LM.rd (aR Tryz.isAgg30 Tryz.sizeOf30 rfl rfl) ?_;refine LM.dS (oC Tryz.func13) XI.mono (fun w hm hc hg=>xE w (hI.ext hc)) ?_;rintro u14 EP ⟨Nb,Ny,aab,rfl,abY,O1⟩ Uw;refine J9 ?_;refine LM.rd (aR Tryz.isAgg30 Tryz.sizeOf30 rfl rfl) ?_;refine LM.dS (oC Tryz.func6) Ln.mono (fun w hm hc hg=>nf w (hT.ext hc) (hI.ext hc)) ?_;rintro u19 K7 ⟨Mr,UO,DK,rfl,VO,Qg⟩ alV;refine kR ?_;refine af.aN rfl (fun h1=>?_) (fun h1=>?_)
 ·refine J7 ?_;refine qL Tryz.results11 rfl fun w' ao aa aA=>?_;refine ⟨?_,aa⟩;rw [RQ (by simpa using h1)];rfl
 have GB:GC s.C=true:=(by simpa using h1);have XT:=GB;unfold GC at XT;rw [Bool.and_eq_true] at XT;obtain ⟨j3,uL⟩:=XT;have hA:=(lJ _).1 uL;have eo:Gg s.C=kP (bZ s.C):=if_pos GB;rw [eo] at Qg VO;have Lj:=DX hA hlen;have vA:Up (bZ s.C) ((kP (bZ s.C)).drop UO)=0:=(by rw [List.drop_of_length_le om];rfl)
 refine J6 ?_;refine LM.CJ (f:=fI) (a0:=0) Tryz.underlying26 Tryz.typeInfo3 rfl rfl rfl rfl ir rfl rfl rfl om (by simp only [Tryz.t3];omega) om (by unfold maxLen;omega) (fun C6 Eo Dv aoj afD=>?_);refine LM.alloc Tryz.zeroValue26 rfl (fun b7 K9=>?_);refine LM.st Tryz.sizeOf26 rfl rfl rfl dx rfl bF ?_;refine yA ?_;refine af.Lz (α:=Nat×List Int×ab) (fun ⟨p,dp,md⟩=>[(8,.int .i64 (Up (bZ s.C) ((kP (bZ s.C)).drop p):Nat)),(9,.int .i64 ((p:Int)-1))]) [(3,_),(5,_),(7,_)] (fun ⟨p,dp,md⟩=>ZF b7 C6 Eo Eo::(md++(K7++(EP++(kZ b1 s:: []))))) (fun ⟨p,dp,md⟩=>top) (fun ⟨p,dp,md⟩=>p<=UO/\afC (bZ s.C) p dp/\Sl fI 3 1 w.heap.size dp (.slice C6 Eo Eo) md) (fun ⟨p,dp,md⟩=>p) ((UO,List.replicate Eo 0,Dv)) ⟨(by first|rfl|exact lk rfl (by rw [vA];rfl)|exact lk rfl (by rw [hmq,vy];congr 1;omega)),l5,rfl,rfl,rfl,trivial⟩ aX (fun _ h=>h) ⟨Nat.le_refl _,⟨by rw [List.length_replicate];omega,fun k hk=>by rw [List.drop_of_length_le om] at hk;cases hk⟩,afD⟩ ?_;rintro ⟨p,dp,md⟩ ZB abf ⟨hp,hDp,hs⟩;change af _ _ _ _ _ _ _ (dM ZB++(ZF b7 C6 Eo Eo::(md++(K7++(EP++(kZ b1 s:: [])))))) _ _ _;have Xv:=hDp.1;have hmb:=XM (bZ s.C) ((kP (bZ s.C)).drop p);refine J7 ?_;refine af.aj rfl (fun h2=>?_) (fun h2=>?_)
 ·obtain ⟨q,rfl⟩:∃q,p=q+1:=⟨p-1,by omega⟩;obtain ⟨i,l2,ZG,eA,KT,aow,adi,UI,mL⟩:=RT hA lA hlen (p:=q) om;have hdr:(kP (bZ s.C)).drop q=(i:Int)::(kP (bZ s.C)).drop (q+1):=(by have e:=List.drop_eq_getElem_cons (l:=kP (bZ s.C)) (i:=q) om;rw [e];congr 1;rw [<-ZG,List.getD_eq_getElem?_getD,List.getElem?_eq_getElem om];rfl);have hmq:Up (bZ s.C) ((kP (bZ s.C)).drop q)=max (dep (bZ s.C) i) (Up (bZ s.C) ((kP (bZ s.C)).drop (q+1))):=(by rw [hdr,Mi]);dsimp only;rw [show ((q+1:Nat):Int)-1=(q:Int) by omega];refine J9 ?_;refine LM.rd (bt aC ir Tryz.isAgg3 rfl rfl (by exact aH 0 cH) (by rfl)) ?_;rw [ZG];refine LM.alloc Tryz.zeroValue3 rfl (fun vp Md=>?_);refine LM.st Tryz.sizeOf3 rfl rfl rfl dx rfl bF ?_;refine J7 ?_;refine LM.ja ((1:Int)) (j:=0) aC ir Tryz.sizeOf3 rfl rfl rfl (by exact aH 0 cH) rfl (by decide) (by rfl) rfl kU (fun td mV sD=>?_);refine J8 ?_;refine LM.rd (bt aC ir Tryz.isAgg41 rfl rfl (by exact aH 0#64 cH) (by rfl)) ?_;refine LM.dS (oC Tryz.func39) Gd.mono (fun w hm hc hg=>xD _ w) ?_;rintro u45 m45 ⟨c1,rfl,rfl,HY⟩-;refine J3 ?_;refine af.sn (α:=List Int×ab) (fun k ⟨dq,mq⟩=>dM ZB++(AX c1 (ot (bZ s.C) i)::oGI vp (i:Nat)::ZF b7 C6 Eo Eo::(mq++(K7++(EP++(kZ b1 s:: [])))))) ((dp.set i 1,td)) aX ?_;refine af.range (α:=List Int×ab) (β:=Unit) (dF Tryz.func86 kr rfl) rfl (Bw (s:=ot (bZ s.C) i)) (fun k ⟨dq,mq⟩=>dM ZB++(AX c1 (ot (bZ s.C) i)::oGI vp (i:Nat)::ZF b7 C6 Eo Eo::(mq++(K7++(EP++(kZ b1 s:: [])))))) (fun _ _=>top) (fun k ⟨dq,mq⟩=>k<=(ek (ot (bZ s.C) i)).length/\dq=dp.set i (CW (bZ s.C) i k)/\Sl fI 3 1 w.heap.size dq (.slice C6 Eo Eo) mq) (fun ⟨⟩=>[]) (fun _=>top) (fun c ⟨⟩=>False) (dp.set i 1,td) rfl (fun _ h=>h) ⟨Nat.zero_le _,rfl,mV⟩ kr (by intro k av vW;obtain ⟨nx,ER,rfl⟩:=lx vW;have bo:=(List.getElem?_eq_some_iff.1 ER).1;have Ru:aq (ot (bZ s.C) i) nx=true:=lq.1 (List.mem_of_getElem? ER);have vV:nx<(bZ s.C).length:=lA i nx Ru;have ec:i≠nx:=(fun e=>hA i (by rw [<-e] at Ru;exact .base Ru));have hdn:dp.getD nx 0=(dep (bZ s.C) nx:Int):=hDp.2 nx (by rw [adi];exact(pF hA 64 _ (dO _) _).2 ⟨nx,rfl,UI nx Ru⟩);have l6:=Fi (bZ s.C) nx;rfl) (.inl trivial) (fun k a w hm hc _ _=>⟨aJ.mem aX w hm,hT.ext hc⟩) (fun _ _ _ _=>kW _) (fun _ _ _=>kW _) (fun k ⟨dq,mq⟩ h p hp=>by rcases List.mem_append.1 hp with hp|hp;exact .inl (List.mem_append_left _ hp);exact(c9 rfl (c9 rfl (c9 rfl (F4 h.2.2.bJ (F4 Qg.bJ (F4 O1.bJ (c9 rfl wS))))))) p hp) (fun c z _=>by((repeat (refine c9 rfl ?_));exact fun p hp=> .inl (by first|exact hp|(simp at hp;done)|(simp [hp];done)|(simp at hp ⊢;first|exact .inl hp|exact hp|(simp [hp];done))))) ?_ ?_ ?_ ?_
  ·rintro k av ⟨dq,mq⟩ l D rc n1 W1 hD eE AO OB vW ⟨hk,QS,zM⟩;change af _ _ _ _ _ _ _ ((l,Obj.loop rc)::([(D,Obj.deferred (some []))] ++(dM ZB++(AX c1 (ot (bZ s.C) i)::oGI vp (i:Nat)::ZF b7 C6 Eo Eo::(mq++(K7++(EP++(kZ b1 s:: [])))))))) _ _ _;obtain ⟨nx,ER,rfl⟩:=lx vW;have bo:=(List.getElem?_eq_some_iff.1 ER).1;have Ru:aq (ot (bZ s.C) i) nx=true:=lq.1 (List.mem_of_getElem? ER);have vV:nx<(bZ s.C).length:=lA i nx Ru;have ec:i≠nx:=(fun e=>hA i (by rw [<-e] at Ru;exact .base Ru));have hdn:dp.getD nx 0=(dep (bZ s.C) nx:Int):=hDp.2 nx (by rw [adi];exact(pF hA 64 _ (dO _) _).2 ⟨nx,rfl,UI nx Ru⟩);have l6:=Fi (bZ s.C) nx;have afK:dq.length=dp.length:=(by rw [QS,List.length_set]);have Yu:dq.getD i 0=CW (bZ s.C) i k:=(by rw [QS,s7 om,if_pos rfl]);have hqn:dq.getD nx 0=(dep (bZ s.C) nx:Int):=(by rw [QS,s7 om,if_neg ec,hdn]);have an9:CW (bZ s.C) i k<=67:=(by have:=L8 (G:=bZ s.C) (l:=(ek (ot (bZ s.C) i)).take k);unfold CW;omega)
   refine J3 ?_;refine QM.sf (AO k ⟨dq,mq⟩) eE ?_;refine J1 ?_;refine af.draw [(0,1),(1,1),(2,1),(3,1),(4,0),(5,1),(6,1),(7,0),(8,0),(9,1),(10,0),(11,0),(12,0),(13,3)] kr kr ?_;refine J5 ?_;refine LD.rd rfl rfl (bt aC ir Tryz.isAgg3 rfl rfl (by exact aH 0 cH) (by rfl)) ?_;refine J3 ?_;refine LD.rd rfl rfl (bt aC ir Tryz.isAgg3 rfl rfl (by exact aH 0 cH) (by rfl)) ?_;refine LD.val rfl rfl (lC rfl rfl om) ?_;refine LD.val rfl rfl (NT rfl rfl) ?_;refine J1 ?_;refine LD.tail rfl rfl ?_;refine LM.ja _ (j:=0) aC ir Tryz.sizeOf3 rfl rfl rfl (by exact aH 0 cH) rfl (by decide) (by rfl) rfl kU (fun ms CM P9=>?_);refine J1 ?_;refine QM.qn ?_;refine J1 ?_;refine QM.next ((dq.set i (if dq.getD nx 0+1 > dq.getD i 0 then dq.getD nx 0+1 else dq.getD i 0),ms)) (aJ.mem aX) (fun _ h=>h) ?_
   ·exact⟨by omega,by rw [Yu,hqn,QS,set_set,Jq ER];congr 1;split<;>omega,CM⟩
  ·rintro ⟨dq,mq⟩ D0 As ⟨hk,QS,zM⟩
   dsimp only
   have afK:dq.length=dp.length:=(by rw [QS,List.length_set])
   refine J7 ?_;refine LM.rd (bt aC ir Tryz.isAgg3 rfl rfl (by exact aH 0 cH) (by rfl)) ?_;refine LM.val (NT rfl rfl) ?_;refine J9 ?_;have vy:dq.getD i 0=(dep (bZ s.C) i:Int):=(by rw [QS,s7 om,if_pos rfl,s5];unfold CW;rw [List.take_of_length_le (Nat.le_refl _),<-VV hA i])
   refine QM.Xi ((q,dq,mq)) ⟨(by first|rfl|exact lk rfl (by rw [vA];rfl)|exact lk rfl (by rw [hmq,vy];congr 1;omega)),l5,rfl,rfl,rfl,trivial⟩ (by change aJ _ ((D0,Obj.deferred (some []))::(dM ZB++((fun ⟨p,dp,md⟩=>ZF b7 C6 Eo Eo::(md++(K7++(EP++(kZ b1 s:: []))))) ((q,dq,mq)))));dsimp only;(repeat' (first|exact aJ.nil _|refine aJ.cons rfl ?_|refine aJ.app ?_))) (rD As abf) (fun _ h=>h) ?_ ?_
   ·exact⟨by omega,⟨by rw [QS,List.length_set];exact Xv,fun k hk=>by by_cases e:i=k;subst e;exact vy;rw [QS,s7 om,if_neg e];refine hDp.2 k ?_;rw [hdr] at hk;rcases List.mem_cons.1 hk with hk|hk;exact absurd om e;exact hk⟩,zM⟩
   ·omega
  ·rintro ⟨⟩ D0 As hx;exact hx.elim
  rintro id ⟨⟩ D0 As hx;exact hx.elim
 refine cM ?_;refine QM.BA (ds:=(ZB)) (.inl rfl) [.tmp 2] Tryz.results11 rfl abf ?_;intro w' ao aa;have hp0:p=0:=om;subst hp0;refine ⟨?_,aa⟩;unfold Pa;rw [if_pos GB,<-W8 hA hlen];rfl
def Uj:List UInt8:=[99,111,114,101,115,32,49,59,32,103,114,97,105,110,32,49,59,32,103,114,111,117,112,32,49,59,32,108,111,99,107,32,115,108,105,99,101,32,49,32,99,114,105,116,32,57,59,32,108,111,99,107,32,115,108,105,99,101,32,49,32,99,114,105,116,32,57,59,32,112,114,111,103,32,123,32,108,111,99,107,32,48,59,32,99,111,109,112,117,116,101,32,49,59,32,108,111,99,107,32,49,59,32,99,111,109,112,117,116,101,32,49,59,32,117,110,108,111,99,107,32,49,59,32,117,110,108,111,99,107,32,48,59,32,125,32,112,114,111,103,32,123,32,108,111,99,107,32,49,59,32,99,111,109,112,117,116,101,32,49,59,32,108,111,99,107,32,48,59,32,99,111,109,112,117,116,101,32,49,59,32,117,110,108,111,99,107,32,48,59,32,117,110,108,111,99,107,32,49,59,32,125]
def Hp:mX:=⟨false,[⟨2,0,0⟩,⟨1,1,0⟩,⟨2,1,0⟩,⟨1,1,0⟩,⟨6,1,0⟩,⟨6,0,0⟩]⟩
def UC:mX:=⟨false,[⟨2,1,0⟩,⟨1,1,0⟩,⟨2,0,0⟩,⟨1,1,0⟩,⟨6,0,0⟩,⟨6,1,0⟩]⟩
def uZ:ee:=⟨1,1,[1],[⟨false,1,9,0,0⟩,⟨false,1,9,0,0⟩],[Hp,UC]⟩
def DL:ee:=⟨1,1,[1],[⟨false,1,9,0,0⟩,⟨false,1,9,0,0⟩],[Hp]⟩
theorem VG:jK Uj=(uZ,[],0,0):=by decide+kernel
theorem Xg:Rp uZ=[0,1] :=by decide+kernel
theorem W3:GC uZ=false:=by decide+kernel
theorem VH:GC DL=true:=by decide+kernel
theorem Xu:Gg DL=[0,1] :=by decide+kernel
theorem Wx:Pa DL=2:=by decide+kernel
theorem YP:pb Hp.xs 0=2#64:=by decide+kernel
def dU.one (s:dU):dU:= {s with ps:=s.ps.take 1,pn:=1}
theorem dU.uD {s:dU} {w:World} (h:s.In w) (h1:1<=s.ps.length):s.one.In w:=
  ⟨h.yD,h.hg,h.qV,h.hl,by show 1=(s.ps.take 1).length;rw [List.length_take];omega,h.hp.take h1,fun p hp=>h.ops p (List.mem_of_mem_take hp)⟩
theorem dU.TU {s:dU} (h:s.C=uZ):s.one.C=DL:=by
  have h1:s.cr=1:=congrArg ee.cr h;have h2:s.gr=1:=congrArg ee.gr h;have h3:s.gs=[1] :=congrArg ee.gs h;have h4:s.ls=uZ.ls:=congrArg ee.ls h;have h5:s.ps.map iJ.c=[Hp,UC] :=congrArg ee.ps h
  show ee.mk s.cr s.gr s.gs s.ls ((s.ps.take 1).map iJ.c)=DL
  rw [h1,h2,h3,h4,List.map_take,h5];rfl
set_option maxHeartbeats 4000000 in
theorem Az (w:World) (hT:sb w):aD Tryz.prog 4 #[] w (fun v w'=>v= .bool true/\Ext w w'):=by
 refine aD.ak Tryz.func4 rfl Tryz.ntmps4 rfl ([]) (no) (Mem.nil w) ?_;refine J7 ?_;refine LM.dS (oC Tryz.func9) O6.mono (fun w hm hc hg=>r4 Uj w (by decide)) ?_;rw [VG];rintro u10 OA ⟨x,rfl,JP,hxa,eK⟩-;refine J4 ?_;refine LM.alloc Tryz.zeroValue54 rfl (fun b1 l6=>?_);refine LM.c6 Tryz.sizeOf54 rfl rfl rfl rfl cZ bF ?_;refine J7 ?_;refine LM.rd (ke Tryz.isAgg30 Tryz.sizeOf30 rfl (vs:=[_,_,_,_,_]) rfl ⟨rfl,rfl,rfl,rfl,rfl,trivial⟩) ?_;refine LM.cS (oC Tryz.func10) (fun w hm hc hg=>Fo (s:=x.sv) w (hT.ext hc) (eK w (hm.pick OA)).st) (fun ana n16 alW m16 ahN afW=>?_);rw [JP,Xg] at ahN afW;refine J6 ?_;refine LM.rd (ke Tryz.isAgg30 Tryz.sizeOf30 rfl (vs:=[_,_,_,_,_]) rfl ⟨rfl,rfl,rfl,rfl,rfl,trivial⟩) ?_;refine LM.dS (oC Tryz.func6) Ln.mono (fun w hm hc hg=>nf (s:=x.sv) w (hT.ext hc) (eK w (hm.pick OA)).st) ?_;rw [JP];rintro u20 m20 ⟨aoO,n20,alg,rfl,aoc,an6⟩-;rw [W3];refine cM ?_;refine LM.yi (fun w hm _ _=>(eK w (hm.pick OA)).st.hp.open.2.1) (fun adn=>?_);have IV:x.sv.ps.length=2:=(by have h:=congrArg (fun s:ee=>s.ps.length) JP;simpa [dU.C,uZ] using h);refine LM.val (jU Tryz.underlying28 Tryz.sizeOf62 rfl rfl (by decide) om) ?_;refine J2 ?_;refine LM.st Tryz.sizeOf28 rfl rfl rfl dx rfl bF ?_;refine J5 ?_;refine LM.rd (ke Tryz.isAgg30 Tryz.sizeOf30 rfl (vs:=[_,_,_,_,_]) rfl ⟨rfl,rfl,rfl,rfl,rfl,trivial⟩) ?_;refine LM.dS (oC Tryz.func6) Ln.mono (fun w hm hc hg=>nf (s:=x.sv.one) w (hT.ext hc) (dU.uD (eK w (hm.pick OA)).st om)) ?_;rw [dU.TU JP];rintro u32 m32 ⟨ant,n32,aj6,rfl,aiN,agu⟩-;rw [VH];rw [Xu] at aiN agu;refine cM ?_;refine LM.aw (t:=37) rfl (fun h1=>?_) (fun h1=>?_)
 ·refine J4 ?_;refine LM.bn (t:=41) rfl (fun h2=>?_) (fun h2=>?_)
  ·refine J5 ?_;refine LM.aw (t:=46) rfl (fun h3=>?_) (fun h3=>?_)
   ·refine J1 ?_;refine LM.sp 46 rfl rfl rfl ?_;refine LM.val (gh (i:=0) qw Tryz.underlying26 Tryz.sizeOf3 rfl rfl om) ?_;refine J1 ?_;refine LM.rd (bt (i:=0) aC ir Tryz.isAgg3 rfl rfl (by exact aH 0 cH) (by rfl)) ?_;refine J3 ?_;refine LM.aw (t:=52) rfl (fun h4=>?_) (fun h4=>?_)
    ·refine J1 ?_;refine LM.sp 52 rfl rfl rfl ?_;refine LM.val (gh (i:=1) qw Tryz.underlying26 Tryz.sizeOf3 rfl rfl om) ?_;refine J1 ?_;refine LM.rd (bt (i:=1) aC ir Tryz.isAgg3 rfl rfl (by exact aH 0 cH) (by rfl)) ?_;refine J3 ?_;refine LM.aw (t:=58) rfl (fun h5=>?_) (fun h5=>?_)
     ·refine J3 ?_;refine LM.bn (t:=61) rfl (fun h6=>?_) (fun h6=>?_)
      ·refine J5 ?_;refine LM.aw (t:=66) rfl (fun h7=>?_) (fun h7=>?_)
       ·refine J1 ?_;refine LM.sp 66 rfl rfl rfl ?_;refine LM.val (gh (i:=0) qw Tryz.underlying26 Tryz.sizeOf3 rfl rfl om) ?_;refine J1 ?_;refine LM.rd (bt (i:=0) aC ir Tryz.isAgg3 rfl rfl (by exact aH 0 cH) (by rfl)) ?_;refine J3 ?_;refine LM.aw (t:=72) rfl (fun h8=>?_) (fun h8=>?_)
        ·refine J2 ?_;refine LM.rd (ke Tryz.isAgg30 Tryz.sizeOf30 rfl (vs:=[_,_,_,_,_]) rfl ⟨rfl,rfl,rfl,rfl,rfl,trivial⟩) ?_;refine J1 ?_;refine cE Tryz.func11 rfl (fun w hm hc hg=>(show Pa x.sv.one.C=2 by rw [dU.TU JP,Wx])▸G6 (s:=x.sv.one) w (hT.ext hc) (dU.uD (eK w (hm.pick OA)).st om)) ?_;refine J3 ?_;refine LM.aw (t:=78) rfl (fun h9=>?_) (fun h9=>?_)
         ·refine J5 ?_;refine LM.yi (fun w hm _ _=>(dU.uD (eK w (hm.pick OA)).st om).hp.Uz) (fun C4=>?_);refine LM.val (gh (i:=0) C4 Tryz.underlying28 Tryz.sizeOf62 rfl rfl (by show 0<1;omega)) ?_;refine J1 ?_;refine LM.dV (fun w hm hc hg=>Am (dU.uD (eK w (hm.pick OA)).st om).hp ir Tryz.isAgg62 Tryz.sizeOf62 rfl (aH default (by show 0<(x.sv.ps.take 1).length;rw [List.length_take];omega))) ?_;refine J1 ?_;refine cE Tryz.func12 rfl (fun w hm hc hg=>(show pb ((x.sv.ps.take 1).getD 0 default).c.xs 0=2#64 by rw [<-eT,List.map_take,show x.sv.ps.map iJ.c=uZ.ps from congrArg ee.ps JP];exact YP)▸s3 0 w ((dU.uD (eK w (hm.pick OA)).st om).ops _ (List.mem_of_getElem? (aH default (by show 0<(x.sv.ps.take 1).length;rw [List.length_take];omega)))).1 ((dU.uD (eK w (hm.pick OA)).st om).ops _ (List.mem_of_getElem? (aH default (by show 0<(x.sv.ps.take 1).length;rw [List.length_take];omega)))).2 (by show ((x.sv.ps.take 1).getD 0 default).c.xs.length<=20;rw [<-eT,List.map_take,show x.sv.ps.map iJ.c=uZ.ps from congrArg ee.ps JP];decide)) ?_;refine LM.sp 78 rfl rfl rfl ?_;refine LM.val (kL (b:=2#64) rfl rfl) ?_;refine J5 ?_;refine qL Tryz.results4 rfl fun w' ao aa aA=>?_;exact⟨rfl,aa⟩
         refine cM ?_;refine qL Tryz.results4 rfl fun w' ao aa aA=>?_
         (exfalso;first|omega|simp_all)
        refine En ?_;refine qL Tryz.results4 rfl fun w' ao aa aA=>?_
        (exfalso;first|omega|simp_all)
       refine J24 ?_;refine qL Tryz.results4 rfl fun w' ao aa aA=>?_
       (exfalso;first|omega|simp_all)
      refine J29 ?_;refine qL Tryz.results4 rfl fun w' ao aa aA=>?_
      (exfalso;first|omega|simp_all)
     refine J32 ?_;refine qL Tryz.results4 rfl fun w' ao aa aA=>?_
     (exfalso;first|omega|simp_all)
    refine J38 ?_;refine qL Tryz.results4 rfl fun w' ao aa aA=>?_
    (exfalso;first|omega|simp_all)
   refine J44 ?_;refine qL Tryz.results4 rfl fun w' ao aa aA=>?_
   (exfalso;first|omega|simp_all)
  refine J49 ?_;refine qL Tryz.results4 rfl fun w' ao aa aA=>?_
  (exfalso;first|omega|simp_all)
 refine J53 ?_;refine qL Tryz.results4 rfl fun w' ao aa aA=>?_
 (exfalso;first|omega|simp_all)
theorem MO.ply {w0:cR} {k:Nat} {x:aB} (h:MO w0 k x) (l:List Act):∀i,i<=l.length->MO w0 (k+30000000*i) (IL x l i)
  |0,_=>h
  |i+1,hi=>by
    rw [DO om];have q:=(MO.ply h l i om).mdo (l.getD i default);rw [show k+30000000*(i+1)=k+30000000*i+30000000 by omega];exact q
set_option maxHeartbeats 4000000 in
theorem orderCalm (t:List UInt8) {xs:List Act} {Kc:Option Addr} {na uw:Nat} (w:World) (hT:sb w) (K3:na=xs.length) (hl:Sr fA 5 xs (.slice Kc na uw) w):aD Tryz.prog 3 #[.agg #[vS t,.slice Kc na uw]] w (fun v w'=>v= .bool true/\Ext w w'):=by
 refine aD.ak Tryz.func3 rfl Tryz.ntmps3 rfl ([]) (no) (Mem.nil w) ?_;refine J2 ?_;refine LM.box rfl rfl (fun b1 l6=>?_);refine J6 ?_;refine cE Tryz.func4 rfl (fun w hm hc hg=>Az w (hT.ext hc)) ?_;refine J3 ?_;refine af.aN rfl (fun h1=>?_) (fun h1=>?_)
 ·refine J7 ?_;refine qL Tryz.results3 rfl fun w' ao aa aA=>?_
  (exfalso;first|omega|(simp at*;done)|(simp_all;done))
 refine J4 ?_;refine LM.rd (aR Tryz.isAgg24 Tryz.sizeOf24 rfl rfl) ?_;refine LM.dS (oC Tryz.func5) QD.mono (fun w hm hc hg=>Ez t 60 200 w K3 (hl.ext hc) om om) ?_;rintro u26 Dv ⟨sv,ok,rfl,GB,eK⟩ alp;refine J3 ?_;refine LM.alloc Tryz.zeroValue30 rfl (fun b3 FM=>?_);refine LM.c6 Tryz.sizeOf30 rfl rfl rfl rfl cZ bF ?_;refine cF ?_;refine af.aN rfl (fun h2=>?_) (fun h2=>?_)
 ·refine J7 ?_;refine qL Tryz.results3 rfl fun w' ao aa aA=>?_;exact⟨rfl,aa⟩
 have j3:dt sv.C=true:=(GB (by simpa using h2)).1;have aqp:(na:Int)<=60:=(by rw [K3];exact(GB (by simpa using h2)).2)
 refine J5 ?_;refine LM.rd (aR Tryz.isAgg30 Tryz.sizeOf30 rfl rfl) ?_;refine LM.dS (oC Tryz.func6) Ln.mono (fun w hm hc hg=>nf w (hT.ext hc) (eK w (hm.pick Dv))) ?_;rintro u24 m24 ⟨aoz,n24,ajZ,rfl,anS,aqs⟩ Uu;refine gz ?_;refine af.aN rfl (fun h3=>?_) (fun h3=>?_)
 ·refine J7 ?_;refine qL Tryz.results3 rfl fun w' ao aa aA=>?_;exact⟨rfl,aa⟩
 have hA:jT (im sv.C):=(by have q:GC sv.C=true:=(by simpa using h3);unfold GC at q;rw [Bool.and_eq_true,pe j3] at q;exact(lJ _).1 q.2)
 refine J4 ?_;refine LM.rd (aR Tryz.isAgg30 Tryz.sizeOf30 rfl rfl) ?_;refine LM.dS (oC Tryz.func7) PG.mono (fun w hm hc hg=>CT w (eK w (hm.pick Dv))) ?_;rintro u31 m31 ⟨n0,cm,hold,hN⟩ alr;obtain ⟨bm,rfl,hX0⟩:∃bm,u31= .tuple #[.pointer (some ⟨bm,0,none⟩),.bool true]/\eQ n0 bm sv (fH sv.C) m31:=(by rcases hN with ⟨q,_⟩|⟨_,b,q1,q2⟩;rw [j3] at q;cases q;exact⟨b,q1,q2⟩)
 refine yA ?_;refine af.aO (α:=Nat×ab) (fun ⟨i,m⟩=>[(37,.int .i64 (i:Nat))]) [(7,_),(35,_),(36,_)] (fun ⟨i,m⟩=>m++(Dv++(kZ b3 sv::Za b1 t Kc na uw:: []))) (fun ⟨i,m⟩=>i<=na/\eQ n0 bm sv (IL (fH sv.C) xs i) m) (fun ⟨i,m⟩=>na-i) ((0,m31)) cA aX ⟨Nat.zero_le _,hX0⟩ ?_;rintro ⟨i,m⟩ ⟨hi,hX⟩;change af _ _ _ _ _ _ _ (m++(Dv++(kZ b3 sv::Za b1 t Kc na uw:: []))) _ _ _;have hMO:=(MO.new j3 hA).ply xs i om;refine J6 ?_;refine af.aj rfl (fun h4=>?_) (fun h4=>?_)
 ·refine J7 ?_;refine LM.dV (de aC ir Tryz.isAgg39 Tryz.sizeOf39 rfl c7 id) ?_;refine LM.alloc Tryz.zeroValue39 rfl (fun vp Md=>?_);refine LM.c6 Tryz.sizeOf39 rfl rfl rfl rfl cZ bF ?_;refine J4 ?_;refine LM.rd (aR Tryz.isAgg39 Tryz.sizeOf39 rfl rfl) ?_;refine cU Tryz.func8 rfl (fun w hm hc hg=>Jr (xs.getD i default) w hX hMO.w.i om (eK w (hm.pick Dv)) hold (hX.le (hm.pick m)) (hm.pick m)) hX.bJ (fun p hp bo=>absurd bo (Nat.not_lt_of_le (Nat.le_trans cm (hX.ge p hp)))) ?_;rintro u43 m43 ⟨rfl,h43⟩ HX;refine J7 ?_;refine aK (i+1,m43) ?_ ?_
  ·exact⟨by omega,by rw [DO om];exact h43⟩
  ·(dsimp only;omega)
 obtain ⟨P,rfl,hP⟩:=hX;generalize hXX:IL (fH sv.C) xs i=X at hP hMO;have BO:=hMO.w.i.ev;have apB:=hP.ne;have apR:=hP.se;refine yA ?_;refine af.aO (α:=Nat) (fun j=>[(50,.int .i64 (j:Nat))]) [(48,_),(49,_)] (fun j=>az bm sv X.now P++(Dv++(kZ b3 sv::Za b1 t Kc na uw:: []))) (fun j=>j<=X.ev.length) (fun j=>X.ev.length-j) (0) cA aX (Nat.zero_le _) ?_;rintro j hj;change af _ _ _ _ _ _ _ (az bm sv X.now P++(Dv++(kZ b3 sv::Za b1 t Kc na uw:: []))) _ _ _;refine J6 ?_;refine af.aj rfl (fun h5=>?_) (fun h5=>?_)
 ·have gK:=hMO.o.no _ (List.mem_of_getElem? (aH default (show j<X.ev.length by omega)));refine J7 ?_;refine LM.rd (tP aC ir Tryz.isAgg51 Tryz.sizeOf51 rfl c7) ?_;refine LM.alloc Tryz.zeroValue51 rfl (fun b12 anr=>?_);refine LM.c6 Tryz.sizeOf51 rfl rfl rfl rfl cZ bF ?_;refine J8 ?_;refine LM.aw (t:=57) rfl (fun h6=>?_) (fun h6=>?_)
  ·refine J7 ?_;refine af.aj rfl (fun h7=>?_) (fun h7=>?_)
   ·refine dc ?_;refine qL Tryz.results3 rfl fun w' ao aa aA=>?_
    (exfalso;first|omega|(simp at*;done)|(simp_all;done))
   refine J7 ?_;refine aK (j+1) ?_ ?_
   ·omega
   ·omega
  refine kR ?_;refine aK (j+1) ?_ ?_
  ·omega
  ·omega
 refine dc ?_;refine qL Tryz.results3 rfl fun w' ao aa aA=>?_;exact⟨rfl,aa⟩
end Go.Eng
