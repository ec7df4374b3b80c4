/- The walks of the document's machine: an op that takes time; one that takes a lock. No condition. -/
import Derived.Test.YtdimfmnimobmfaaGreatK2
import Derived.Test.YtdimfmnimobmfaaGreatK5
import Derived.Test.YtdimfmnimobmfaaGreatK4
import Derived.Test.YtdimfmnimobmfaaGreatK3
set_option linter.unusedVariables false
set_option linter.unusedSectionVars false
set_option linter.unusedSimpArgs false
set_option maxRecDepth 100000
set_option maxHeartbeats 4000000
attribute [local irreducible] Go.Eng.LM Go.Eng.LD Go.Eng.KD Go.Eng.af Go.Eng.QM
namespace Go.Eng
open Go Go.Proofs Go.RowKit
abbrev oL (ok:Int) (l:Nat) (ob:Int):cZ:=⟨ok,(l:Int),ob⟩
set_option maxHeartbeats 2000000 in
theorem DN {n0 b k t:Nat} {s:dm} {x:aG} {m:ab} (o:cZ) (w:World) (h:eF n0 b s x m) (hI:MI k x) (hk:k≤800000000000) (ht:t<x.ts.length) (hoa:1≤o.a∧o.a≤64) (cm:n0≤w.heap.size) (hM:Mem w m):aD Tryz.prog 96 #[.pointer (some ⟨b,0,none⟩),.int .i64 (t:Nat),.agg (fO o).toArray] w (ec m (fun u m'=>u= .tuple #[]∧eF n0 b s (qw x t o.a) m') w):=by
 obtain ⟨P,rfl,h⟩:=h;have dN:=h.nt;have cu:=h.st;have uz:=hI.tl;obtain ⟨ig,ii,il,ip,ix,it,iv,ie,ic,iq⟩:=bP (ay (aA b s x.now P) w.heap.size);refine aD.ao Tryz.func96 rfl Tryz.ntmps96 rfl (aA b s x.now P++ []) ((eO (aA b s x.now P))) aM ?_;refine J2 ?_;refine LM.box rfl rfl (fun b5 AA=>?_);refine cN ?_;refine LM.rd (aE (j:=5) aB ir Tryz.isAgg3 rfl rfl (by first|exact bI om|exact aO default cK) rfl (by rfl)) ?_;refine J3 ?_;refine af.bC (α:=ab) (fun mt=>[]) [(0,_),(1,_)] (fun mt=>zm b s x.now P P.mx mt P.mc P.mq++(oB b5 o:: [])) (fun mt=>Sl Ix 66 12 n0 (x.ts.set t {gT x t with lf:=EV (gT x t) o.a}) (.slice P.EC P.nt P.ct) mt∧de (aA b s x.now P) w.heap.size mt) cF ?_ ?_
 ·refine af.ak rfl (fun h1=>?_) (fun h1=>?_)
  ·refine af.keep (v9 b s x.now P::oB b5 o:: []) (fun _=>True) (.one 0 0 (.one 1 0 (.one 2 0 (.one 3 1 (.one 4 0 (.one 5 0 (.one 6 1 (.one 7 0 (.one 8 0 (.last 9)))))))))) kr kr aN (fun _ _=>trivial) ?_;refine J9 ?_;refine KD.last rfl ?_;refine LM.fR ({gT x t with lf:=o.a}) (j:=5) aB ir Tryz.sizeOf3 rfl rfl rfl (by first|exact bI om|exact aO default cK) rfl (by decide) (by rfl) rfl (au aB) (fun jh cG cY=>?_)
   try rw [List.set_set] at cG
   have HE:=cn cY aB;refine J1 ?_;refine QM.qn ?_;refine mK (jh) ?_
   · exact⟨by rw [show EV (gT x t) o.a=o.a from if_pos h1];exact cG,HE⟩
  refine J1 ?_;refine mK (P.mt) ?_
  · exact⟨by rw [show EV (gT x t) o.a=(gT x t).lf from if_neg h1,show ({gT x t with lf:=(gT x t).lf} :iQ)=gT x t from rfl,fZ default ht];exact cu,it⟩
 rintro mt ⟨Dj,it1⟩;change QM _ _ _ _ _ (zm b s x.now P P.mx mt P.mc P.mq++(oB b5 o:: [])) _ _ _;have hlf:=(hI.tb t ht).lf;have hl0:1≤EV (gT x t) o.a∧EV (gT x t) o.a≤64:=(by unfold EV;split<;>omega);have hlq:({gT x t with lf:=EV (gT x t) o.a} :iQ).lf=EV (gT x t) o.a:=rfl;refine cj ?_;refine LM.rd (aE (j:=5) aB ir Tryz.isAgg3 rfl rfl (by first|exact bI om|exact aO default cK) rfl (by rfl)) ?_;refine J3 ?_;refine LM.fR (FJ (gT x t) o.a) (j:=5) aB ir Tryz.sizeOf3 rfl rfl rfl (by first|exact bI om|exact aO default cK) rfl (by decide) (by rfl) rfl (au aB) (fun jh cG cY=>?_)
 try rw [List.set_set] at cG
 have HE:=cn cY aB;refine J9 ?_;refine af.aP (α:=Nat×List bf×ab) (fun ⟨i,ls,mq⟩=>[(6,.int .i64 (i:Nat))]) [(0,_),(1,_)] (fun ⟨i,ls,mq⟩=>zm b s x.now P P.mx jh P.mc mq++(oB b5 o:: [])) (fun ⟨i,ls,mq⟩=>i≤x.lk.length∧ls=Hk (fun L=>jk L t) x.lk i∧km NO n0 P.bs ls mq∧de (aA b s x.now P) w.heap.size mq) (fun ⟨i,ls,mq⟩=>x.lk.length-i) ((0,x.lk,P.mq)) cF aN ⟨Nat.zero_le _,rfl,h.sq,iq⟩ ?_;rintro ⟨i,ls,mq⟩ ⟨hi,sy,hq,We⟩;change af _ _ _ _ _ _ _ (zm b s x.now P P.mx jh P.mc mq++(oB b5 o:: [])) _ _ _;have Kt:ls.length=x.lk.length:=(by rw [sy,mO]);have xz:=h.nl;have tU:=h.bl;have jt:=h.sl;have NB:=hI.l8;have hgi:∀j,i≤j→j<x.lk.length→qg ls j=gL x j:=(fun j h1 h2=>by rw [sy,Ak _ _ _ _ hi h2,if_neg om])
 refine cN ?_;refine af.ak rfl (fun h2=>?_) (fun h2=>?_)
 ·refine cN ?_;refine LM.rd (bd aB ir Tryz.isAgg54 rfl rfl (by first|exact bI om|exact aO default cK) (by rfl)) ?_;refine J1 ?_;refine cE Tryz.func12 rfl (fun w hm hc hg=>hq.read (i:=i) om (hm.pick mq) (fun m hr hM=>(show aD _ _ _ _ (fun u w'=>u= .bool (bu (qg ls i) (t:Nat))∧Ext _ w') from lR (t:Nat) w hr hM))) ?_;refine J2 ?_;refine af.aJ rfl (fun h3=>?_) (fun h3=>?_)
  ·refine J7 ?_;refine LM.rd (bd aB ir Tryz.isAgg54 rfl rfl (by first|exact bI om|exact aO default cK) (by rfl)) ?_;refine J1 ?_;refine cU Tryz.func136 rfl (fun w hm hc hg=>hq.Bp Fa (i:=i) om (hm.pick mq) (fun m hr hM=>(E1 (t:Nat) w hr (by rw [hgi i (Nat.le_refl _) om];exact(hI.li i om).w.hk) (by rw [hgi i (Nat.le_refl _) om];exact fun p hp=>by have:=(hI.li i om).b.hh p hp;omega) (by rw [hgi i (Nat.le_refl _) om];have:=(hI.li i om).b.tu;omega) hM))) (hq.bE Fa) (au We) ?_;rintro u62 m62 ⟨rfl,h62⟩ ZK;refine J8 ?_;refine aK (i+1,ls.set i (jk (qg ls i) t),m62) ?_ ?_
   · exact⟨by omega,by rw [sy];rfl,h62,ar We ZK⟩
   · (dsimp only;omega)
  refine J8 ?_;refine aK (i+1,ls.set i (jk (qg ls i) t),mq) ?_ ?_
  · exact⟨by omega,by rw [sy];rfl,by rw [K6 (by simpa using h3),show qg ls i=ls.getD i default from rfl,fZ default om];exact hq,We⟩
  · (dsimp only;omega)
 have er:i=x.lk.length:=om;subst er;rw [DK] at sy;have Vm:0≤(FJ (gT x t) o.a).pc∧(FJ (gT x t) o.a).pc≤(k:Int):=(hI.tb t ht).pc;refine kk ?_;refine LM.rd (aE (j:=5) aB ir Tryz.isAgg3 rfl rfl (by first|exact bI om|exact aO default cK) rfl (by rfl)) ?_;refine J3 ?_;refine af.ak rfl (fun h4=>?_) (fun h4=>?_)
 ·refine J8 ?_;refine LM.rd (aE (j:=4) aB ir Tryz.isAgg3 rfl rfl (by first|exact bI om|exact aO default cK) rfl (by rfl)) ?_;refine J3 ?_;refine LM.fR (s7 (FJ (gT x t) o.a)) (j:=4) aB ir Tryz.sizeOf3 rfl rfl rfl (by first|exact bI om|exact aO default cK) rfl (by decide) (by rfl) rfl (au aB) (fun j5 e9 ik=>?_)
  try rw [List.set_set] at e9
  have IG:=cn ik aB;refine J1 ?_;refine QM.leave (.inr rfl) [] Tryz.results96 rfl ?_;intro w' aj aa az;refine aY (m':=zm b s x.now P P.mx j5 P.mc mq) ⟨rfl,?_⟩ aj aN aa (aQ (P:= {P with mt:=j5,mq:=mq}));rw [Px ht h4,show AE x t o.a= {dH x t (FJ (gT x t) o.a) with lk:=ls} by rw [sy];rfl];exact gm.m (P:= {P with mt:=j5,mq:=mq}) {h with nt:=(by rw [bA];exact(bA x t _).symm▸dN),st:=(by show Sl _ _ _ _ ((x.ts.set t _).set t _) _ _;rw [List.set_set];exact e9),nl:=(by show _=ls.length;rw [Kt];exact h.nl),bl:=(by show _=ls.length;rw [Kt];exact h.bl),sq:=hq}
 refine J1 ?_;refine QM.leave (.inr rfl) [] Tryz.results96 rfl ?_;intro w' aj aa az;refine aY (m':=zm b s x.now P P.mx jh P.mc mq) ⟨rfl,?_⟩ aj aN aa (aQ (P:= {P with mt:=jh,mq:=mq}));rw [VH ht h4,show AE x t o.a= {dH x t (FJ (gT x t) o.a) with lk:=ls} by rw [sy];rfl];exact gm.m (P:= {P with mt:=jh,mq:=mq}) {h with nt:=(by show _=(x.ts.set t _).length;rw [List.length_set];exact dN),st:=cG,nl:=(by show _=ls.length;rw [Kt];exact h.nl),bl:=(by show _=ls.length;rw [Kt];exact h.bl),sq:=hq}
set_option maxHeartbeats 2000000 in
theorem AN {n0 b k t l:Nat} {ok ob:Int} {s:dm} {x:aG} {m:ab} (w:World) (h:eF n0 b s x m) (hI:MI k x) (hk:k≤800000000000) (ht:t<x.ts.length) (iF:l<x.lk.length) (cm:n0≤w.heap.size) (hM:Mem w m):aD Tryz.prog 97 #[.pointer (some ⟨b,0,none⟩),.int .i64 (t:Nat),.agg (fO (oL ok l ob)).toArray] w (ec m (fun u m'=>u= .bool (nK x t (oL ok l ob)).2∧eF n0 b s (nK x t (oL ok l ob)).1 m') w):=by
 obtain ⟨P,rfl,h⟩:=h;have dN:=h.nt;have cu:=h.st;have uz:=hI.tl;have xz:=h.nl;have tU:=h.bl;have jt:=h.sl;obtain ⟨ig,ii,il,ip,ix,it,iv,ie,ic,iq⟩:=bP (ay (aA b s x.now P) w.heap.size);have gz:(oL ok l ob).a=(l:Int):=rfl;have hL:=hI.li l iF;have hLh:=hL.hl;have AF:=hI.ev;have Ck:kI x.ts.length (t:Int):=⟨by omega,by omega⟩
 refine aD.ao Tryz.func97 rfl Tryz.ntmps97 rfl (aA b s x.now P++ []) ((eO (aA b s x.now P))) aM ?_;refine J2 ?_;refine LM.box rfl rfl (fun b5 AA=>?_);refine J4 ?_;refine af.draw [(0,0),(1,0),(2,0),(3,1),(4,0),(5,1),(6,0),(7,1),(8,0)] kr kr ?_;refine J7 ?_;refine LD.rd rfl rfl (bd aB ir Tryz.isAgg54 rfl rfl (by first|exact bI om|exact aO default cK) (by rfl)) ?_;refine J4 ?_;refine af.draw [(0,0),(1,0),(2,0),(3,0),(4,1),(5,0),(6,0),(7,0),(8,1),(9,0),(10,1),(11,0),(12,2),(13,0)] kr kr ?_;refine J8 ?_;refine LD.rd rfl rfl (aE (j:=2) aB ir Tryz.isAgg3 rfl rfl (by first|exact bI om|exact aO default cK) rfl (by rfl)) ?_;refine J3 ?_;refine dE rfl rfl Tryz.func137 rfl (fun w hm hc hg=>h.sq.read iF (hm.pick P.mq) (fun m hr hM=>(show aD _ _ _ _ (fun u w'=>u= .int .i64 (tq x t l (oL ok l ob))∧Ext _ w') from zN (gT x t).gr (decide ((oL ok l ob).k=3)) w hr hM))) ?_;refine J8 ?_;refine cU Tryz.func138 rfl (fun w hm hc hg=>h.sq.Bp Fa iF (hm.pick P.mq) (fun m hr hM=>A5 (t:Nat) (tq x t l (oL ok l ob)) w hL.w.top8 hr (Nat.le_trans cm hc.size) (by show (gL x l).ho.length≤900;omega) hM)) (h.sq.bE Fa) (au iq) ?_;rintro u34 LX ⟨rfl,Q1⟩ Mt;have i34:=ar iq Mt;refine cj ?_;refine af.ak rfl (fun h1=>?_) (fun h1=>?_)
 ·obtain ⟨y,hy⟩:∃y,y=bt x l (cR (gL x l) t (tq x t l (oL ok l ob))):=⟨_,rfl⟩;have VY:y.lk.length=x.lk.length:=(by rw [hy];exact cP ..);have hLy:gL y l=cR (gL x l) t (tq x t l (oL ok l ob)):=(by rw [hy];exact Gv iF _);have hLt:=hL.take t (tq x t l (oL ok l ob)) Ck;have bD:=hLt.hl;have ss:y.ts=x.ts:=(by rw [hy];rfl);have xS:eF n0 b s y (aA b s x.now {P with mq:=LX}):=(by rw [hy];exact gm.m {h with nl:=(by rw [cP];exact xz),bl:=(by rw [cP];exact tU),sq:=Q1});have lY:y.now=x.now:=(by rw [hy];rfl);have hye:y.ev=x.ev:=(by rw [hy];rfl)
  refine J1 ?_;refine af.draw [(0,0),(1,0),(2,0),(3,1),(4,0),(5,0),(6,1),(7,0),(8,2),(9,3)] kr kr ?_;refine J8 ?_;refine dE rfl rfl Tryz.func101 rfl (fun w hm hc hg=>vD l (t:Nat) w xS om (by rw [hLy];omega) (hm.pick _)) ?_;refine LD.tail rfl rfl ?_;refine cU Tryz.func55 rfl (fun w hm hc hg=>cc 4 (t:Nat) (l:Nat) _ w xS (by rw [hye];omega) (Nat.le_trans cm hc.size) (hm.pick _)) xS.bE (au aQ) ?_;rintro u46 m46 ⟨rfl,h46⟩ Yz;have i46:de (aA b s x.now P) w.heap.size m46:=ar aQ Yz;refine J1 ?_;refine QM.qn ?_;refine J6 ?_;refine cU Tryz.func102 rfl (fun w hm hc hg=>vB l w h46 (by show l<y.lk.length;omega) (by show (gL y l).ho.length≤900;rw [hLy];omega) (by show (gL y l).wt.length≤8;rw [hLy];exact hLt.w.w8) (hm.pick _)) h46.bE (au i46) ?_;rintro u50 Yl ⟨rfl,QO⟩ Kl;obtain ⟨P1,kZ,QO⟩:=QO;rw [show (BT (bn y 4 t l (ea (gL y l) t)) l).now=x.now from lY] at kZ;subst kZ;clear ig ii il ip ix it iv ie ic iq;obtain ⟨ig,ii,il,ip,ix,it,iv,ie,ic,iq⟩:=bP (ar i46 Kl);have Dj:Sl Ix 66 12 n0 x.ts (.slice P1.EC P1.nt P1.ct) P1.mt:=ss▸QO.st;have xT:P1.nt=x.ts.length:=ss▸QO.nt;have Vm:0≤(x.ts.getD t default).pc∧(x.ts.getD t default).pc≤(k:Int):=(hI.tb t ht).pc;refine c9 ?_;refine LM.rd (aE (j:=4) aB ir Tryz.isAgg3 rfl rfl (by first|exact bI om|exact aO default cK) rfl (by rfl)) ?_;refine J3 ?_;refine LM.fR (s7 (gT x t)) (j:=4) aB ir Tryz.sizeOf3 rfl rfl rfl (by first|exact bI om|exact aO default cK) rfl (by decide) (by rfl) rfl (au aB) (fun jh cG cY=>?_)
  try rw [List.set_set] at cG
  have HE:=cn cY aB;refine J9 ?_;refine qL Tryz.results97 rfl fun w' aj aa az=>?_;rw [IZ gz h1,←hy];exact aY (m':=aA b s x.now {P1 with mt:=jh}) ⟨rfl,gm.m (hn:=lY) {QO with nt:=(by show _=(y.ts.set _ _).length;rw [List.length_set,ss];exact xT),st:=(by show Sl _ _ _ _ (y.ts.set t (s7 (y.ts.getD t default))) _ _;rw [ss];exact cG)}⟩ aj aN aa aQ
 have Kd:km NO n0 P.bs x.lk LX:=(by have q:=Q1;rw [show cR (gL x l) t (tq x t l (oL ok l ob))=x.lk.getD l default from if_pos h1,fZ default iF] at q;exact q);have xy:eF n0 b s x (aA b s x.now {P with mq:=LX}):=gm.m {h with sq:=Kd};refine J4 ?_;refine af.bC (α:=Bool) (fun q=>[(68,.bool q)]) [(0,_),(1,_),(5,_),(7,_),(8,_),(9,_)] (fun q=>zm b s x.now P P.mx P.mt P.mc LX++(oB b5 (oL ok l ob):: [])) (fun q=>q=Ru x t (oL ok l ob)) cF ?_ ?_
 ·refine J4 ?_;refine LM.aq (t:=64) rfl (fun h2=>?_) (fun h2=>?_)
  ·refine J6 ?_;refine mK (_) ?_
   · unfold Ru;rw [mf gz];simp_all
  refine J5 ?_;refine mK (_) ?_
  · unfold Ru;rw [mf gz];simp_all
 rintro q hq;change QM _ _ _ _ _ (zm b s x.now P P.mx P.mt P.mc LX++(oB b5 (oL ok l ob):: [])) _ _ _;refine J1 ?_;refine af.bC (α:=ab) (fun mq=>[(9,.int .i64 (nE x t (oL ok l ob)))]) [(0,_),(1,_),(5,_)] (fun mq=>zm b s x.now P P.mx P.mt P.mc mq++(oB b5 (oL ok l ob):: [])) (fun mq=>km NO n0 P.bs (if nE x t (oL ok l ob)=0 then x.lk.set l (dQ (gL x l) t (tq x t l (oL ok l ob))) else x.lk) mq∧de (aA b s x.now P) w.heap.size mq) cF ?_ ?_
 ·refine af.aJ rfl (fun h3=>?_) (fun h3=>?_)
  ·have V5:dx (gL x l) t (tq x t l (oL ok l ob))=8∧(oL ok l ob).k≠4:=(by rw [hq] at h3;unfold Ru at h3;rw [mf gz,Bool.and_eq_true,decide_eq_true_eq,decide_eq_true_eq] at h3;exact h3)
   refine J6 ?_;refine af.draw [(0,0),(1,0),(2,0),(3,1),(4,0),(5,0),(6,0),(7,1),(8,2),(9,2),(10,0)] kr kr ?_;refine J8 ?_;refine dE rfl rfl Tryz.func140 rfl (fun w hm hc hg=>qW l w xy iF om (hm.pick _)) ?_;refine dE rfl rfl Tryz.func139 rfl (fun w hm hc hg=>sd P.bg (t:Nat) _ w h.gl h.nx h.sx (sm hm)) ?_;refine J3 ?_;refine af.aJ rfl (fun h4=>?_) (fun h4=>?_)
   ·have RW:=(u6 gz V5.1 V5.2).trans (if_neg (by simpa using h4));refine J4 ?_;refine cU Tryz.func141 rfl (fun w hm hc hg=>Kd.Bp Fa iF (hm.pick LX) (fun m hr hM=>BF (t:Nat) (tq x t l (oL ok l ob)) w hL.w.top8 hr (Nat.le_trans cm hc.size) hM)) (Kd.bE Fa) (au i34) ?_;rintro u83 m83 ⟨rfl,h83⟩ I0;have i83:=ar i34 I0;refine J2 ?_;refine QM.yC (m83) ⟨(by exact lk rfl (congrArg (Value.int .i64) RW.symm)),rfl,rfl,rfl,trivial⟩ aN ?_
    · refine ⟨?_,i83⟩;split;exact h83;(have q:=h83;rw [show dQ (gL x l) t (tq x t l (oL ok l ob))=x.lk.getD l default from if_pos (by rw [←RW];assumption),fZ default iF] at q;exact q)
   have RW:=(u6 gz V5.1 V5.2).trans (if_pos (by simpa using h4));refine J1 ?_;refine QM.yC (LX) ⟨(by exact lk rfl (congrArg (Value.int .i64) RW.symm)),rfl,rfl,rfl,trivial⟩ aN ?_
   · exact⟨by rw [if_neg (by rw [RW];decide)];exact Kd,i34⟩
  have RW:=Ai gz (fun q2=>by rw [hq] at h3;unfold Ru at h3;rw [mf gz,decide_eq_true q2.1,decide_eq_true q2.2] at h3;cases h3);refine J1 ?_;refine QM.yC (LX) ⟨(by exact lk rfl (congrArg (Value.int .i64) RW.symm)),rfl,rfl,rfl,trivial⟩ aN ?_
  · exact⟨by rw [if_neg (by rw [RW];exact h1)];exact Kd,i34⟩
 rintro mq ⟨hqw,iqw⟩;change QM _ _ _ _ _ (zm b s x.now P P.mx P.mt P.mc mq++(oB b5 (oL ok l ob):: [])) _ _ _;refine J8 ?_;refine af.ak rfl (fun h5=>?_) (fun h5=>?_)
 ·have Mo:eF n0 b s x (aA b s x.now {P with mq:=mq}):=gm.m {h with sq:=(by have q:=hqw;rw [if_neg h5] at q;exact q)};refine J7 ?_;refine cU Tryz.func55 rfl (fun w hm hc hg=>cc 8 (t:Nat) (l:Nat) (nE x t (oL ok l ob)) w Mo om (Nat.le_trans cm hc.size) (hm.pick _)) Mo.bE (au aQ) ?_;rintro u91 m91 ⟨rfl,N4⟩ Lj;obtain ⟨P1,kZ,N4⟩:=N4;change m91=aA b s x.now P1 at kZ;subst kZ;have i91:de (aA b s x.now P) w.heap.size (aA b s x.now P1):=ar aQ Lj;clear ig ii il ip ix it iv ie ic iq;obtain ⟨ig,ii,il,ip,ix,it,iv,ie,ic,iq⟩:=bP i91;have Dj:Sl Ix 66 12 n0 x.ts (.slice P1.EC P1.nt P1.ct) P1.mt:=N4.st;have xT:P1.nt=x.ts.length:=N4.nt;have Vm:0≤(x.ts.getD t default).pc∧(x.ts.getD t default).pc≤(k:Int):=(hI.tb t ht).pc;refine c9 ?_;refine LM.rd (aE (j:=4) aB ir Tryz.isAgg3 rfl rfl (by first|exact bI om|exact aO default cK) rfl (by rfl)) ?_;refine J3 ?_;refine LM.fR (s7 (gT x t)) (j:=4) aB ir Tryz.sizeOf3 rfl rfl rfl (by first|exact bI om|exact aO default cK) rfl (by decide) (by rfl) rfl (au aB) (fun jh cG cY=>?_)
  try rw [List.set_set] at cG
  have HE:=cn cY aB;refine J9 ?_;refine qL Tryz.results97 rfl fun w' aj aa az=>?_;rw [LS gz h1 h5];exact aY (m':=aA b s x.now {P1 with mt:=jh}) ⟨rfl,gm.m {N4 with nt:=(by show _=(x.ts.set _ _).length;rw [List.length_set];exact xT),st:=cG}⟩ aj aN aa aQ
 have Mo:eF n0 b s (bt x l (dQ (gL x l) t (tq x t l (oL ok l ob)))) (aA b s x.now {P with mq:=mq}):=gm.m {h with nl:=(by rw [cP];exact xz),bl:=(by rw [cP];exact tU),sq:=(by have q:=hqw;rw [if_pos om] at q;exact q)};have hvl:=hI.vl;refine J8 ?_;refine cU Tryz.func55 rfl (fun w hm hc hg=>cc 6 (t:Nat) (l:Nat) 0 w Mo (by show x.ev.length≤_;omega) (Nat.le_trans cm hc.size) (hm.pick _)) Mo.bE (au aQ) ?_;rintro adf Sf ⟨rfl,Kn⟩ Du;have i107:de (aA b s x.now P) w.heap.size Sf:=ar aQ Du;refine J6 ?_;refine cU Tryz.func72 rfl (fun w hm hc hg=>qz t w Kn (by show t<x.v.length;omega) (Nat.le_trans cm hc.size) (hm.pick _)) Kn.bE (au i107) ?_;rintro amO XT ⟨rfl,Ar⟩ Vt;change eF n0 b s (lH x t l (oL ok l ob)) XT at Ar;obtain ⟨P1,kZ,Ar⟩:=Ar;change XT=aA b s x.now P1 at kZ;subst kZ;have i110:=ar i107 Vt;clear ig ii il ip ix it iv ie ic iq;obtain ⟨ig,ii,il,ip,ix,it,iv,ie,ic,iq⟩:=bP i110;have Dj:Sl Ix 66 12 n0 x.ts (.slice P1.EC P1.nt P1.ct) P1.mt:=Ar.st;have xT:P1.nt=x.ts.length:=Ar.nt;have Vf:Sl fU 41 1 n0 x.g (.slice P1.ax P1.nx P1.cx) P1.mx:=Ar.sx;refine c9 ?_;refine LM.fR ({gT x t with st:=4}) (j:=6) aB ir Tryz.sizeOf3 rfl rfl rfl (by first|exact bI om|exact aO default cK) rfl (by decide) (by rfl) rfl (au aB) (fun jh cG cY=>?_)
 try rw [List.set_set] at cG
 have HE:=cn cY aB;refine J3 ?_;refine af.keep (v9 b s x.now P1::oB b5 (oL ok l ob):: []) (fun _=>True) (.one 0 0 (.one 1 0 (.one 2 0 (.one 3 1 (.one 4 0 (.one 5 0 (.one 6 1 (.one 7 0 (.one 8 0 (.last 9)))))))))) kr kr aN (fun _ _=>trivial) ?_;refine J9 ?_;refine KD.last rfl ?_;refine LM.fR ({gT x t with st:=4,lk:=(oL ok l ob).a}) (j:=8) aB ir Tryz.sizeOf3 rfl rfl rfl (by first|exact bI om|exact aO default cK) rfl (by decide) (by rfl) rfl (au aB) (fun j5 e9 ik=>?_)
 try rw [List.set_set] at e9
 have IG:=cn ik aB;refine J1 ?_;refine QM.qn ?_;refine J9 ?_;refine af.bC (α:=ab) (fun mt=>[]) [(0,_),(1,_),(5,_)] (fun mt=>zm b s x.now P1 P1.mx mt P1.mc P1.mq++(oB b5 (oL ok l ob):: [])) (fun mt=>Sl Ix 66 12 n0 (x.ts.set t (xd (gT x t) (oL ok l ob) x.now)) (.slice P1.EC P1.nt P1.ct) mt∧de (aA b s x.now P) w.heap.size mt) cF ?_ ?_
 ·refine af.ak rfl (fun h6=>?_) (fun h6=>?_)
  ·refine af.keep (v9 b s x.now P1::oB b5 (oL ok l ob):: []) (fun _=>True) (.one 0 0 (.one 1 0 (.one 2 0 (.one 3 1 (.one 4 0 (.one 5 0 (.one 6 0 (.one 7 0 (.one 8 1 (.one 9 0 (.one 10 1 (.one 11 0 (.one 12 0 (.one 13 0 (.one 14 0 (.last 15)))))))))))))))) kr kr aN (fun _ _=>trivial) ?_;refine c9 ?_;refine KD.val rfl rfl (n4 Tryz.underlying3 Tryz.underlying41 rfl) ?_;refine KD.val rfl rfl (iD rfl rfl) ?_;refine J2 ?_;refine KD.last rfl ?_;refine LM.fR ({gT x t with st:=4,lk:=(oL ok l ob).a,un:=x.now+BitVec.ofInt 64 (oL ok l ob).b}) (j:=7) aB ir Tryz.sizeOf41 rfl rfl rfl (by first|exact bI om|exact aO default cK) rfl (by decide) (by rfl) rfl (au aB) (fun tN nX sY=>?_)
   try rw [List.set_set] at nX
   have UC:=cn sY aB;refine J1 ?_;refine QM.qn ?_;refine mK (tN) ?_
   · exact⟨by rw [show xd (gT x t) (oL ok l ob) x.now= {gT x t with st:=4,lk:=(oL ok l ob).a,un:=x.now+BitVec.ofInt 64 (oL ok l ob).b} by unfold xd;rw [if_pos h6]];exact nX,UC⟩
  refine J1 ?_;refine mK (j5) ?_
  · exact⟨by rw [show xd (gT x t) (oL ok l ob) x.now= {gT x t with st:=4,lk:=(oL ok l ob).a} by unfold xd;rw [if_neg h6]];exact e9,IG⟩
 rintro mt ⟨Lo,it2⟩;change QM _ _ _ _ _ (zm b s x.now P1 P1.mx mt P1.mc P1.mq++(oB b5 (oL ok l ob):: [])) _ _ _;have hMw:eF n0 b s (dH (lH x t l (oL ok l ob)) t (xd (gT x t) (oL ok l ob) x.now)) (aA b s x.now {P1 with mt:=mt}):=gm.m {Ar with nt:=(by show _=(x.ts.set _ _).length;rw [List.length_set];exact xT),st:=Lo};have hLw:=hL.wait t (tq x t l (oL ok l ob)) Ck;have hlw:=hLw.hl;have wb:gL (lH x t l (oL ok l ob)) l=dQ (gL x l) t (tq x t l (oL ok l ob)):=Gv iF _;refine J2 ?_;refine af.draw [(0,0),(1,0),(2,0),(3,1),(4,0),(5,0),(6,0),(7,1),(8,2),(9,3)] kr kr ?_;refine J8 ?_;refine dE rfl rfl Tryz.func140 rfl (fun w hm hc hg=>qW l w hMw (by show l<(x.lk.set _ _).length;rw [List.length_set];exact iF) (by show (gL (lH x t l (oL ok l ob)) l).ho.length≤900;rw [wb];omega) (hm.pick _)) ?_;refine LD.tail rfl rfl ?_;refine cU Tryz.func142 rfl (fun w hm hc hg=>wi P1.bg (t:Nat) (s3 (gL (lH x t l (oL ok l ob)) l)) w h.gl Ar.nx Vf (sm hm)) Vf.bE (au ix) ?_;rintro amY S8 ⟨rfl,WZ⟩ Ui;have i154:=ar ix Ui;refine J1 ?_;refine QM.qn ?_;refine J7 ?_;refine qL Tryz.results97 rfl fun w' aj aa az=>?_;rw [HF gz h1 h5,yY gz];exact aY (m':=zm b s x.now P1 S8 mt P1.mc P1.mq) ⟨rfl,gm.m (P:= {P1 with mt:=mt,mx:=S8}) {Ar with nt:=(by show _=(x.ts.set _ _).length;rw [List.length_set];exact xT),st:=Lo,gl:=yX h.gl _ _,sx:=WZ}⟩ aj aN aa (aQ (P:= {P1 with mt:=mt,mx:=S8}))
theorem l5 {n0 b k t:Nat} {s:dm} {x:aG} {m:ab} (o:cZ) (w:World) (h:eF n0 b s x m) (hI:MI k x) (hk:k≤800000000000) (ht:t<x.ts.length) (hoa:0≤o.a∧o.a<(x.lk.length:Int)) (cm:n0≤w.heap.size) (hM:Mem w m):
    aD Tryz.prog 97 #[.pointer (some ⟨b,0,none⟩),.int .i64 (t:Nat),.agg (fO o).toArray] w (ec m (fun u m'=>u= .bool (nK x t o).2∧eF n0 b s (nK x t o).1 m') w):=by
  obtain ⟨ok,oa,ob⟩:=o;obtain ⟨l,rfl⟩:∃l:Nat,oa=l:=⟨oa.toNat,(Int.toNat_of_nonneg hoa.1).symm⟩
  exact AN w h hI hk ht (by have:=hoa.2;show l<_;exact Int.ofNat_lt.1 this) cm hM
end Go.Eng
namespace Go.Eng
open Go Go.RowKit
theorem jK {s:jy} (h:eu s=true):s.ls.length≤8∧s.ps.length≤8∧∀p∈s.ps,(CX p.fv p.xs s.ls (s.ps.length:Int)).2=0:=by
  unfold eu cD at h
  simp only [Bool.and_eq_true,decide_eq_true_eq,Bool.not_eq_true'] at h;refine ⟨h.1.1.2.1,by omega,fun p hp=>?_⟩;have:=List.any_eq_false.1 h.2 p hp
  unfold j1 at this
  simpa using this
theorem rE {fv:Bool} {xs:List cZ} {ls:List jv} {cb:Int} (h:(CX fv xs ls cb).2=0):iO xs=true∧∀j,j<xs.length→dY fv xs ls cb j=0:=by
  unfold CX at h
  split at h
  · rename_i hm
    refine ⟨hm,fun j hj=>?_⟩
    split at h
    · rename_i i hi
      have:=List.find?_some hi;simp only [decide_eq_true_eq] at this;exact absurd h this
    · rename_i hn
      have:=List.find?_eq_none.1 hn j (List.mem_range.2 hj);simpa using this
  · cases h
theorem BN {s:jy} (h:eu s=true) {p:qx} (hp:p∈s.ps):p.xs.length≤20:=(o0 (rE ((jK h).2.2 p hp)).1).1
structure QF (s:jy) (o:cZ):Prop where
  k:1≤o.k∧o.k≤11
  c:o.k=1→1≤o.a∧o.a≤64
  l:2≤o.k∧o.k≤6→0≤o.a∧o.a<(s.ls.length:Int)
  p:o.k=9→0≤o.a∧o.a<(s.ps.length:Int)
theorem WQ {s:jy} (h:eu s=true) {p:qx} (hp:p∈s.ps) {i:Nat} (hi:i<p.xs.length):QF s (p.xs.getD i default):=by
  obtain ⟨h1,h2,h3⟩:=jK h;obtain ⟨hm,hf⟩:=rE (h3 p hp);have hr:=v5 hm hi;have ha:=uD hr;have hf:=hf i hi
  have hc:¬((iU (p.xs.getD i default).k||decide ((p.xs.getD i default).k=6))&&decide ((p.xs.getD i default).a ≥ (s.ls.length:Int))||decide ((p.xs.getD i default).k=9)&&decide ((p.xs.getD i default).a ≥ (s.ps.length:Int)))=true:=fun q=>by
    unfold dY at hf;rw [if_pos q] at hf;cases hf
  clear hf
  generalize p.xs.getD i default=o at hr ha hc
  unfold ei tM at hr
  unfold iU at hc
  simp only [Bool.and_eq_true,Bool.or_eq_true,decide_eq_true_eq] at hr hc
  have key:(2≤o.k∧o.k≤6→o.a<(s.ls.length:Int))∧(o.k=9→o.a<(s.ps.length:Int)):=⟨fun q=>by
    refine Classical.byContradiction fun n=>hc (.inl ⟨?_,by omega⟩);rcases Int.lt_or_le 5 o.k with r|r
    · exact .inr om
    · exact .inl ⟨q.1,r⟩,fun q=>Classical.byContradiction fun n=>hc (.inr ⟨q,by omega⟩)⟩
  refine ⟨hr.1.1,fun e=>?_,fun e=>⟨ha.1,key.1 e⟩,fun e=>⟨ha.1,key.2 e⟩⟩;have h5:=hr.1.2;rw [e] at h5;simp [hasB,nn,pU] at h5;omega
section
variable {k:Nat} {x:aG} (h:MI k x)
include h
theorem MI.cmp {t:Nat} (ht:t<x.ts.length) {a:Int} (ha:1≤a∧a≤64):MI (k+2) (qw x t a):=by
  have q:=h.tb t ht;have hl:=q.lf;have hq:xB x.s k (FJ (gT x t) a):=⟨q.pr,q.pc,by show 0≤EV (gT x t) a-1∧EV (gT x t) a-1≤64;unfold EV;split<;>omega,q.ti,q.l4,q.un⟩
  have h1:MI (k+1) (AE x t a):=
    have h':=(h.up ht hq).mono (Nat.le_succ k)
    {h' with
      ll:=by show (x.lk.map _).length=_;rw [List.length_map];exact h.ll
      li:=fun l hl=>by have:=LI.Yp h.li t l hl;rw [show (AE x t a).ts.length=x.ts.length from bA ..];exact this}
  unfold qw;split
  · exact h1.inc (by rw [show (AE x t a).ts.length=x.ts.length from bA ..];exact ht)
  · exact h1.mono (Nat.le_succ _)
theorem MI.NR (pr gr we co:Int) (hp:0≤pr∧pr<(x.s.ps.length:Int)) (AH:x.ts.length<64):MI (k+1) (pL x pr gr we co):=by
  have hl:(x.ts++ [Dr x.ts.length pr gr we co]).length=x.ts.length+1:=by rw [List.length_append];rfl
  have h1:MI k {x with ts:=x.ts++ [Dr x.ts.length pr gr we co],v:=x.v++ [0#64],cs:=dS x.cs co x.ts.length 0#64 we} :=
    {h with
      ce:=by rw [show (dS x.cs co x.ts.length 0#64 we).length=x.cs.length from gC ..];exact h.ce
      ci:=by
        show CI (x.ts++ [_]).length k _
        rw [hl];exact(h.ci.mono (Nat.le_succ _) (Nat.le_refl _)).add _ _ _ _ om
      il:=by rw [show (dS x.cs co x.ts.length 0#64 we).length=x.cs.length from gC ..];exact h.il
      li:=fun l kN=>by show LI (x.ts++ [_]).length k _;rw [hl];exact(h.li l kN).mono (Nat.le_succ _) (Nat.le_refl _)
      tl:=by show (x.ts++ [_]).length≤64;rw [hl];omega
      iq:=fun c hc a ha=>by
        have Aq:c<x.cs.length:=by rw [←gC x.cs co x.ts.length 0#64 we];exact hc
        show ((x.ts++ [_]).getD a.toNat default).un=0#64
        rcases BS ha with q|rfl
        · have h1:=h.ci.id c Aq a q
          have h0:=(h.ci.wf.wf c Aq).pos _ (eE q).1;rw [(eE q).2] at h0;rw [List.getD_eq_getElem?_getD,List.getElem?_append_left om,←List.getD_eq_getElem?_getD];exact h.iq c Aq a q
        · rw [Int.toNat_natCast,List.getD_eq_getElem?_getD,List.getElem?_append_right (Nat.le_refl _),Nat.sub_self];rfl
      vl:=by show (x.v++ [_]).length=(x.ts++ [_]).length;rw [hl,List.length_append,h.vl];rfl
      tb:=fun t ht=>by
        have Wp:t<x.ts.length+1:=by rw [←hl];exact ht
        show xB x.s k ((x.ts++ [_]).getD t default)
        rcases Nat.lt_or_ge t x.ts.length with q|q
        · rw [List.getD_eq_getElem?_getD,List.getElem?_append_left q,←List.getD_eq_getElem?_getD];exact h.tb t q
        · rw [show t=x.ts.length by omega,List.getD_eq_getElem?_getD,List.getElem?_append_right (Nat.le_refl _),Nat.sub_self]
          exact⟨hp,⟨Int.le_refl _,Int.natCast_nonneg k⟩,⟨Int.le_refl _,by show (0:Int)≤64;decide⟩,⟨Int.le_refl _,Int.natCast_nonneg k⟩,fun e=>(by cases e),fun e=>absurd rfl e⟩}
  exact h1.kt _ _ _ _
theorem MI.tak {t:Nat} (ht:t<x.ts.length) {o:cZ} (ho:0≤o.a∧o.a<(x.lk.length:Int)):MI (k+3) (nK x t o).1:=by
  obtain ⟨l,gz⟩:∃l:Nat,o.a=(l:Nat):=⟨o.a.toNat,(Int.toNat_of_nonneg ho.1).symm⟩
  have iF:l<x.lk.length:=by omega
  have hL:=h.li l iF;have Ck:kI x.ts.length (t:Int):=⟨by omega,by omega⟩
  by_cases he:dx (gL x l) t (tq x t l o)=0
  · rw [IZ gz he]
    have h1:=(h.mono (Nat.le_succ k)).bt (l:=l) (hL.take t (tq x t l o) Ck);exact((h1.kt 4 t l (ea (gL (Go.Eng.bt x l (cR (gL x l) t (tq x t l o))) l) t)).Yh l).inc ht
  · by_cases h2:nE x t o≠0
    · rw [LS gz he h2];exact((h.kt 8 t l (nE x t o)).inc ht).mono om
    · rw [HF gz he h2,yY gz]
      have h1:=(h.mono (Nat.le_succ k)).bt (l:=l) (hL.wait t (tq x t l o) Ck);have h3:MI (k+2) (lH x t l o):=(h1.kt 6 t l 0).qut t;have q:=(h.tb t ht).mono (show k≤k+2 by omega);exact((h3.upQ (t:=t) ht (y:=xd (gT x t) o x.now) ⟨q.pr,q.pc,q.lf,q.ti,fun _=>⟨ho.1,by show o.a<(x.s.ls.length:Int);have:=h.ll;omega⟩,fun _=> .inr rfl⟩ (fun c hc hk=>absurd rfl (rX h.ci.wf (by rw [←pg x.cs t];exact hc) hk).2)).gr (h.gi.wt _ _)).mono om
theorem MI.back {c:Nat} (hc:c<x.cs.length):MI k (iK x c (fJ (qg x.cs c))):=h.FT (h.ci.back hc) (List.length_set ..) (fun d hd a ha=> .inl ⟨d,hd,jQ hc (q:=fJ (qg x.cs c)) rfl ha⟩)
theorem MI.op {t:Nat} (ht:t<x.ts.length) {i:Nat} (hi:i<(kT x t).xs.length):QF x.s ((kT x t).xs.getD i default):=by
  have hp:=(h.tb t ht).pr;exact WQ h.ms (List.mem_of_getElem? (aO default (show (gT x t).pr.toNat<x.s.ps.length by omega))) hi
end
section
variable {x:aG} {t c:Nat} {o:cZ}
theorem WM (h:o.k=1):eY x t c o=(qw x t o.a,true):=if_pos h
theorem Cw (h:2≤o.k∧o.k≤5):eY x t c o=nK x t o:=by unfold eY;rw [if_neg om,if_pos h]
theorem LY (h:o.k=6) (he:nF (gL x o.a.toNat) t≠0):eY x t c o=(bO (bn x 8 t o.a (nF (gL x o.a.toNat) t)) t,false):=by unfold eY;rw [if_neg om,if_neg om,if_pos h,if_pos he]
theorem Nf (h:o.k=6) (he:¬nF (gL x o.a.toNat) t≠0):eY x t c o=(bO (dX (bn (bt x o.a.toNat (eQ (gL x o.a.toNat) t)) 5 t o.a 0) o.a.toNat (eC (gL x o.a.toNat) t)) t,false):=by unfold eY;rw [if_neg om,if_neg om,if_pos h,if_neg he]
def Sy (x:aG) (t:Nat) (a:Int):aG:=eX (bn x 9 t (-1) a) t
theorem Wl (h:o.k=7):eY x t c o=(dH (Sy x t o.a) t {gT x t with st:=3,un:=x.now+BitVec.ofInt 64 o.a,pc:=(gT x t).pc+1},true):=by unfold eY;rw [if_neg om,if_neg om,if_neg om,if_pos h];rfl
def agv (x:aG) (t c:Nat):aG:=iK (bn x 10 t (-1) c) c (fJ (qg x.cs c))
theorem Zj (h:o.k=8):eY x t c o=(dH (agv x t c) t {gT x t with st:=1,pc:=(gT x t).pc+1},true):=by unfold eY;rw [if_neg om,if_neg om,if_neg om,if_neg om,if_pos h];rfl
theorem V0 (h:o.k=9):eY x t c o=(bO (if je x=true then pL x o.a (gT x t).gr (gT x t).we c else bn x 8 t (-1) 3) t,false):=by unfold eY;rw [if_neg om,if_neg om,if_neg om,if_neg om,if_neg om,if_pos h]
theorem JP (h:o.k=10):eY x t c o=(bO (bn (dH x t {gT x t with we:=o.a}) 14 t (-1) o.a) t,false):=by unfold eY;rw [if_neg om,if_neg om,if_neg om,if_neg om,if_neg om,if_neg om,if_pos h]
theorem Je (h:o.k=11):eY x t c o=(kG x t,true):=by unfold eY;rw [if_neg om,if_neg om,if_neg om,if_neg om,if_neg om,if_neg om,if_neg om,if_pos h]
end
theorem Ap {x:aG} {t:Nat} :(kV x t).ts.length=x.ts.length∧(kV x t).lk=x.lk∧(kV x t).s=x.s∧(kV x t).now=x.now∧(kV x t).g=x.g∧(kV x t).ev=x.ev∧(kV x t).cs=x.cs:=by
  unfold kV;split
  · exact⟨bA ..,rfl,rfl,rfl,rfl,rfl,rfl⟩
  · exact⟨rfl,rfl,rfl,rfl,rfl,rfl,rfl⟩
theorem MI.kV {k:Nat} {x:aG} (h:MI k x) {t:Nat} (ht:t<x.ts.length):MI k (kV x t):=by
  unfold Go.Eng.kV;split
  · have q:=h.tb t ht
    exact h.up ht ⟨q.pr,⟨Int.le_refl _,Int.natCast_nonneg k⟩,q.lf,q.ti,q.l4,q.un⟩
  · exact h
theorem UY {x:aG} {t:Nat} (ht:t<x.ts.length):kT (kV x t) t=kT x t:=by
  unfold kT kV;split
  · rw [gq ht,if_pos rfl];rfl
  · rfl
theorem Gg {k:Nat} {x:aG} (h:MI k x) {t:Nat} (ht:t<x.ts.length):(gT (kV x t) t).pc.toNat<(kT x t).xs.length∧0≤(gT (kV x t) t).pc:=by
  have hp:=(h.tb t ht).pr;have hm:=(rE ((jK h.ms).2.2 (kT x t) (List.mem_of_getElem? (aO default (show (gT x t).pr.toNat<x.s.ps.length by omega))))).1;have h0:0<(kT x t).xs.length:=by unfold iO at hm;simp only [Bool.and_eq_true,decide_eq_true_eq] at hm;exact hm.1.1
  have Vm:=(h.tb t ht).pc
  unfold kV;split
  · rw [gq ht,if_pos rfl];exact⟨h0,Int.le_refl _⟩
  · exact⟨by omega,Vm.1⟩
theorem uH {α:Type} {l:List α} {i:Nat} (d:α) (h:i<l.length):l.set i (l.getD i d)=l:=by
  apply List.ext_getElem (by rw [List.length_set])
  intro j h1 h2;rw [List.getElem_set]
  split
  · rename_i e;subst e;rw [List.getD_eq_getElem?_getD,List.getElem?_eq_getElem h2];rfl
  · rfl
theorem Rx {x:aG} {t:Nat} (ht:t<x.ts.length):∃z,kV x t=dH x t z:=by
  unfold kV;split
  · exact⟨_,rfl⟩
  · refine ⟨gT x t,?_⟩;unfold dH;rw [uH default ht]
theorem uU {x:aG} {t c:Nat} (h1:((kT x t).xs.length:Int)≤(gT x t).pc) (h2:(kT x t).fv=false):fy x t c=(kG x t,true):=if_pos ⟨h1,h2⟩
theorem EB {x:aG} {t c:Nat} (h:¬(((kT x t).xs.length:Int)≤(gT x t).pc∧(kT x t).fv=false)) {z:iQ} (ht:t<x.ts.length) (hz:kV x t=dH x t z) {o:cZ} (ho:(kT x t).xs.getD z.pc.toNat default=o):fy x t c=eY (dH x t z) t c o:=by
  unfold fy;rw [if_neg h,hz,gq ht,if_pos rfl,ho]
/-! ### who is due -/
theorem kY (x:aG) (n:Nat):B3 x (n+1)=Wb x (B3 x n) n:=by unfold B3;rw [List.range_succ,List.foldl_append];rfl
theorem jm (x:aG):∀(n j:Nat),j∈B3 x n→j<n
  |0,j,h=>by cases h
  |n+1,j,h=>by
    rw [kY] at h
    unfold Wb at h;split at h
    · have:=jm x n j h;omega
    · rcases List.mem_append.1 h with h|h
      · have:=jm x n j (List.mem_of_mem_take h);omega
      · rcases List.mem_cons.1 h with rfl|h
        · omega
        · have:=jm x n j (List.mem_of_mem_drop h);omega
theorem uQ (x:aG):∀n,(B3 x n).length≤n
  |0=>Nat.le_refl _
  |n+1=>by
    have ih:=uQ x n;rw [kY]
    unfold Wb;split
    · omega
    · rw [List.length_append,List.length_cons,List.length_take,List.length_drop];omega
theorem RH {x:aG} {out:List Nat} {i k:Nat} (h:∀j,j<k→¬ND x i<ND x (out.getD j 0)) (hk:k=out.length∨(k<out.length∧ND x i<ND x (out.getD k 0))):WH x out i=k:=by
  have e:∀j (hj:j<out.length),out.getD j 0=out[j] :=fun j hj=>by rw [List.getD_eq_getElem?_getD,List.getElem?_eq_getElem hj];rfl
  unfold WH
  rcases hk with rfl|⟨h1,h2⟩
  · refine List.findIdx_eq_length.2 (fun a ha=>?_)
    obtain ⟨j,hj,rfl⟩:=List.getElem_of_mem ha;have:=h j hj;rw [e j hj] at this;exact decide_eq_false this
  · rw [List.findIdx_eq h1]
    exact⟨by rw [←e k h1];exact decide_eq_true h2,fun j hj=>by have:=h j hj;rw [e j om] at this;exact decide_eq_false this⟩
theorem Bq {l:List Nat} {k:Nat} (h:k<l.length):(l.map (fun (j:Nat)=>(j:Int))).getD k 0=((l.getD k 0:Nat):Int):=by
  rw [List.getD_eq_getElem?_getD,List.getD_eq_getElem?_getD,List.getElem?_map,List.getElem?_eq_getElem h];rfl
theorem vr (x:aG) (t:Nat):(pG x t).ts.length=x.ts.length∧(pG x t).lk.length=x.lk.length∧(pG x t).s=x.s∧(pG x t).now=x.now:=by
  unfold pG;split
  · exact⟨rfl,rfl,rfl,rfl⟩
  · split
    · exact⟨List.length_set ..,rfl,rfl,rfl⟩
    · have e:=db (gT x t).lk.toNat (ft (dO (bO (bn (bt x (gT x t).lk.toNat (fY (gL x (gT x t).lk.toNat) t)) 8 t (gT x t).lk 10) t) t) t) (qk (gL x (gT x t).lk.toNat) t)
      exact⟨e.1.trans (by show ((x.ts.set _ _).set _ _).length=_;rw [List.length_set,List.length_set]),by rw [e.2.1];exact cP ..,e.2.2⟩
theorem MI.pG {k:Nat} {x:aG} (h:MI k x) {t:Nat} (ht:t<x.ts.length):MI (k+40) (pG x t):=by
  unfold Go.Eng.pG;split
  · exact h.mono om
  · next e=>
    split
    · exact(h.Ea ht).mono om
    · next e2=>
      have hl:=(h.tb t ht).l4 (((h.tb t ht).un e).resolve_left e2);have kN:(gT x t).lk.toNat<x.lk.length:=by rw [h.ll];omega
      have hL:=h.li _ kN;have h1:=((h.bt (l:=(gT x t).lk.toNat) (hL.lv t)).kt 8 t (gT x t).lk 10).inc (t:=t) ht;have h2:=(h1.cut (t:=t) (by show t<(x.ts.set _ _).length;rw [List.length_set];exact ht)).Ea (t:=t) (by show t<(x.ts.set _ _).length;rw [List.length_set];exact ht);refine (h2.sX (gT x t).lk.toNat (fun u hu=>?_) (Nat.le_trans (ra ..) (h.w8 kN))).mono om;have:=hL.i.qk t u hu
      show kI ((x.ts.set _ _).set _ _).length u
      rw [List.length_set,List.length_set];exact this
theorem wF (x:aG) (l:List Nat) (t:Nat):yh x (l++ [t])=pG (yh x l) t:=by unfold yh;rw [List.foldl_append];rfl
theorem rD:∀(l:List Nat) (x:aG),(yh x l).ts.length=x.ts.length∧(yh x l).lk.length=x.lk.length∧(yh x l).s=x.s∧(yh x l).now=x.now
  | [],x=>⟨rfl,rfl,rfl,rfl⟩
  |t::l,x=>by
    have h1:=vr x t;have h2:=rD l (pG x t)
    unfold yh at h2 ⊢
    rw [List.foldl_cons];exact⟨h2.1.trans h1.1,h2.2.1.trans h1.2.1,h2.2.2.1.trans h1.2.2.1,h2.2.2.2.trans h1.2.2.2⟩
theorem MI.yh:∀{l:List Nat} {k:Nat} {x:aG},MI k x→(∀t∈l,t<x.ts.length)→MI (k+40*l.length) (yh x l)
  | [],k,x,h,_=>h
  |t::l,k,x,h,ht=>by
    have h1:=MI.yh (l:=l) (h.pG (ht t (List.mem_cons_self ..))) (fun u hu=>by rw [(vr x t).1];exact ht u (List.mem_cons_of_mem _ hu));rw [List.length_cons,show k+40*(l.length+1)=k+40+40*l.length by omega];exact h1
theorem MI.Zx {k:Nat} {x:aG} (h:MI k x):MI (k+2560) (wc x):=by
  have AH:=h.tl;have hd:=uQ x x.ts.length;exact((h.yh (l:=oz x) (fun t ht=>jm x _ t ht)).mono (show _≤k+2560 by show k+40*(B3 x x.ts.length).length≤_;omega)).Ml
theorem MI.mvd {k:Nat} {x:aG} (h:MI k x) {t:Nat} (ht:t<x.ts.length) (c:Int):MI (k+1) (sQ x t c):=by
  have q:=h.tb t ht;exact((h.up ht (y:= {gT x t with co:=c}) ⟨q.pr,q.pc,q.lf,q.ti,q.l4,q.un⟩).kt _ _ _ _).Ml
end Go.Eng
namespace Go.Eng
open Go Go.Proofs Go.RowKit
structure dm.Old (s:dm) (n0:Nat):Prop where
  g:0<s.gs.length→kc s.ga<n0
  l:0<s.ls.length→kc s.la<n0
  p:0<s.ps.length→kc s.pa<n0
  o:∀p∈s.ps,0<p.c.xs.length→kc p.ad<n0
theorem dm.In.keep {s:dm} {n0:Nat} {S:Nat→Prop} {w w':World} (h:s.In w) (ho:s.Old n0) (k:cM S w w') (hS:∀b,S b→n0≤b):s.In w':=
  ⟨h.xR,h.hg.yP k (fun q e=>by have:=hS _ e;have:=ho.g q;omega),h.kE,h.hl.yP k (fun q e=>by have:=hS _ e;have:=ho.l q;omega),h.q9,h.hp.yP k (fun q e=>by have:=hS _ e;have:=ho.p q;omega),
   fun p hp=>⟨(h.ops p hp).1,(h.ops p hp).2.yP k (fun q e=>by have:=hS _ e;have:=ho.o p hp q;omega)⟩⟩
abbrev SK (b:Nat) (p:iS):Nat×Obj:=(b,.cells (YO p).toArray 117 (0,0))
abbrev Ef (s:dm) (x:aG) (t:Nat):iS:=s.ps.getD (x.ts.getD t default).pr.toNat default
set_option maxHeartbeats 4000000 in
theorem E0 {n0 b k t c:Nat} {s:dm} {x:aG} {m:ab} (w:World) (h:eF n0 b s x m) (hI:MI k x) (hk:k≤700000000000) (ht:t<x.ts.length) (C9:c<x.cs.length) (hs:s.In w) (mj:s.Old n0) (cm:n0≤w.heap.size) (hM:Mem w m):aD Tryz.prog 58 #[.pointer (some ⟨b,0,none⟩),.int .i64 (t:Nat),.int .i64 (c:Nat)] w (ec m (fun u m'=>u= .bool (fy x t c).2∧eF n0 b s (fy x t c).1 m') w):=by
 obtain ⟨P,rfl,h⟩:=h;have Fl:=h.ge (y:=x.now);have dN:=h.nt;have cu:=h.st;have uz:=hI.tl;obtain ⟨ig,ii,il,ip,ix,it,iv,ie,ic,iq⟩:=bP (ay (aA b s x.now P) w.heap.size);have RY:=hs.hp;have q9:=hs.q9;have Hu:x.s.ps=s.ps.map iS.c:=(by rw [h.hs];rfl);have jt:x.s.ps.length=s.ps.length:=(by rw [Hu,List.length_map]);have hpr:0≤(x.ts.getD t default).pr∧(x.ts.getD t default).pr<(x.s.ps.length:Int):=(hI.tb t ht).pr;have uE:Ef s x t∈s.ps:=List.mem_of_getElem? (aO default om);have xZ:=hs.ops _ uE;have hon:=xZ.1;have hos:=xZ.2;have Y2:0<s.ps.length→¬eO (aA b s x.now P) (kc s.pa):=(fun q ⟨p,hp,he⟩=>by have:=Fl p hp;have:=mj.p q;omega);have ZG:0<(Ef s x t).c.xs.length→¬eO (aA b s x.now P) (kc (Ef s x t).ad):=(fun q ⟨p,hp,he⟩=>by have:=Fl p hp;have:=mj.o _ uE q;omega);have IT:kT x t=(Ef s x t).c:=(by unfold kT;rw [Hu,gF]);have Q2:=BN hI.ms (p:=kT x t) (by rw [IT,Hu];exact List.mem_map_of_mem uE);rw [IT] at Q2;refine aD.ao Tryz.func58 rfl Tryz.ntmps58 rfl (aA b s x.now P++ []) ((eO (aA b s x.now P))) aM ?_;refine J6 ?_;refine af.bC (α:=Nat) (fun b7=>[(7,.pointer (some ⟨b7,0,none⟩))]) [(0,_),(1,_),(2,_)] (fun b7=>SK b7 (Ef s x t)::(aA b s x.now P++ [])) (fun b7=>w.heap.size≤b7) cF ?_ ?_
 ·refine af.keep (aA b s x.now P++ []) (fun _=>True) (.one 0 0 (.one 1 0 (.one 2 0 (.one 3 0 (.one 4 1 (.one 5 0 (.one 6 0 (.one 7 0 (.one 8 1 (.one 9 0 (.one 10 0 (.one 11 0 (.one 12 1 (.one 13 0 (.one 14 1 (.one 15 2 (.one 16 2 .nil))))))))))))))))) kr kr aN (fun _ _=>trivial) ?_;refine cN ?_;refine KD.rd rfl rfl (aE (j:=1) aB ir Tryz.isAgg3 rfl rfl (by first|exact bI om|exact aO default cK) rfl (by rfl)) ?_;refine KD.val rfl rfl (bF j3 Tryz.underlying28 Tryz.sizeOf117 rfl rfl om) ?_;refine KD.eh rfl rfl (dB aB ir Tryz.isAgg117 Tryz.sizeOf117 rfl (by first|exact bI om|exact aO default cK) (by first|exact Y2 om|exact ZG om)) ?_;refine J1 ?_;refine LM.alloc Tryz.zeroValue117 rfl (fun b7 KF=>?_);refine J3 ?_;refine LM.dh Tryz.sizeOf117 rfl rfl rfl rfl df sC ?_;refine J3 ?_;refine mK (b7) ?_
  · assumption
 rintro b7 KF;change QM _ _ _ _ _ (SK b7 (Ef s x t)::(aA b s x.now P++ [])) _ _ _;refine J3 ?_;refine af.draw [(0,0),(1,0),(2,0),(3,1),(4,0),(5,0),(6,0),(7,1),(8,0),(9,1),(10,0),(11,0)] kr kr ?_;refine J7 ?_;refine LD.rd rfl rfl (aE (j:=4) aB ir Tryz.isAgg3 rfl rfl (by first|exact bI om|exact aO default cK) rfl (by rfl)) ?_;refine J6 ?_;refine af.bC (α:=ab×iQ) (fun ⟨mt,z⟩=>[]) [(0,_),(1,_),(2,_),(7,_)] (fun ⟨mt,z⟩=>SK b7 (Ef s x t)::(zm b s x.now P P.mx mt P.mc P.mq++ [])) (fun ⟨mt,z⟩=>kV x t=dH x t z∧Sl Ix 66 12 n0 (x.ts.set t z) (.slice P.EC P.nt P.ct) mt∧de (aA b s x.now P) w.heap.size mt∧¬(((kT x t).xs.length:Int)≤(gT x t).pc∧(kT x t).fv=false)) cF ?_ ?_
 ·refine af.ak rfl (fun h1=>?_) (fun h1=>?_)
  ·refine J8 ?_;refine af.aJ rfl (fun h2=>?_) (fun h2=>?_)
   ·refine J4 ?_;refine cU Tryz.func32 rfl (fun w hm hc hg=>qF w (gm.m h) hI om ht (Nat.le_trans cm hc.size) (hm.pick _)) (gm.m h).bE (au (ay _ _)) ?_;rintro u43 m43 ⟨rfl,h43⟩ MZ;refine J9 ?_;refine QM.ck ?_;refine J1 ?_;refine qL Tryz.results58 rfl fun w' aj aa az=>?_;rw [uU (by rw [IT];show _≤(x.ts.getD t default).pc;omega) (by rw [IT];simpa using h2)];exact aY (m':=m43) ⟨rfl,h43⟩ aj aN aa MZ
   refine cj ?_;refine LM.fR ({gT x t with pc:=0}) (j:=4) aB ir Tryz.sizeOf3 rfl rfl rfl (by first|exact bI om|exact aO default cK) rfl (by decide) (by rfl) rfl (au aB) (fun j5 e9 ik=>?_)
   try rw [List.set_set] at e9
   have IG:=cn ik aB;refine J1 ?_;refine mK (j5,{gT x t with pc:=0}) ?_
   · exact⟨by unfold kV;rw [if_pos (by rw [IT];show _≤(x.ts.getD t default).pc;omega)],e9,IG,fun q=>by have q2:=q.2;rw [IT] at q2;rw [q2] at h2;simp at h2⟩
  refine J1 ?_;refine mK (P.mt,gT x t) ?_
  · exact⟨by unfold kV dH;rw [if_neg (by rw [IT];show¬_≤(x.ts.getD t default).pc;omega),uH default ht],by rw [uH default ht];exact cu,it,fun q=>by have q1:=q.1;rw [IT] at q1;have:((Ef s x t).c.xs.length:Int)≤(x.ts.getD t default).pc:=q1;omega⟩
 rintro ⟨mt,z⟩ ⟨hz,Dj,it1,ee⟩;change QM _ _ _ _ _ (SK b7 (Ef s x t)::(zm b s x.now P P.mx mt P.mc P.mq++ [])) _ _ _
 clear cu;have HK:=Gg hI ht;rw [hz,IT,gq ht,if_pos rfl] at HK
 refine J2 ?_;refine af.bC (α:=Nat) (fun b8=>[(8,.pointer (some ⟨b8,0,none⟩))]) [(0,_),(1,_),(2,_)] (fun b8=>oB b8 ((Ef s x t).c.xs.getD z.pc.toNat default)::SK b7 (Ef s x t)::(zm b s x.now P P.mx mt P.mc P.mq++ [])) (fun b8=>w.heap.size≤b8) cF ?_ ?_
 ·refine af.keep (SK b7 (Ef s x t)::(zm b s x.now P P.mx mt P.mc P.mq++ [])) (fun _=>True) (.one 0 0 (.one 1 1 (.one 2 0 (.one 3 0 (.one 4 0 (.one 5 1 (.one 6 0 (.one 7 0 (.one 8 0 (.one 9 1 (.one 10 0 (.one 11 1 (.one 12 2 (.one 13 2 .nil)))))))))))))) kr kr aN (fun _ _=>trivial) ?_;refine J9 ?_;refine KD.rd rfl rfl (aE (j:=4) aB ir Tryz.isAgg3 rfl rfl (by first|exact bI om|exact aO default cK) rfl (by rfl)) ?_;refine KD.val rfl rfl (bF j3 Tryz.underlying115 Tryz.sizeOf168 rfl rfl om) ?_;refine KD.eh rfl rfl (dB aB ir Tryz.isAgg168 Tryz.sizeOf168 rfl (by first|exact bI om|exact aO default cK) (by first|exact Y2 om|exact ZG om)) ?_;refine J1 ?_;refine LM.alloc Tryz.zeroValue168 rfl (fun b8 O9=>?_);refine J3 ?_;refine LM.dh Tryz.sizeOf168 rfl rfl rfl rfl df sC ?_;refine J3 ?_;refine mK (b8) ?_
  · assumption
 rintro b8 O9;change QM _ _ _ _ _ (oB b8 ((Ef s x t).c.xs.getD z.pc.toNat default)::SK b7 (Ef s x t)::(zm b s x.now P P.mx mt P.mc P.mq++ [])) _ _ _;obtain ⟨o,ho⟩:∃o:cZ,(Ef s x t).c.xs.getD z.pc.toNat default=o:=⟨_,rfl⟩;rw [ho];have QV:QF x.s o:=(by have q:=hI.op ht (i:=z.pc.toNat) (by rw [IT];exact HK.1);rw [IT,ho] at q;exact q);have sn:=EB (c:=c) (o:=o) ee ht hz (by rw [IT];exact ho);obtain ⟨y,hy⟩:∃y,y=dH x t z:=⟨_,rfl⟩;rw [←hy] at sn;have iR:MI k y:=(by rw [hy,←hz];exact hI.kV ht);have NC:gm n0 b s y {P with mt:=mt} :=(by rw [hy];exact {h with nt:=(by rw [bA];exact dN),st:=Dj});have lY:y.now=x.now:=(by rw [hy];rfl);have qd:eF n0 b s y (aA b s x.now {P with mt:=mt}):=gm.m (hn:=lY) NC;have ss:y.ts=x.ts.set t z:=(by rw [hy];rfl);have VY:y.ts.length=x.ts.length:=(by rw [ss,List.length_set]);have hyk:y.lk=x.lk:=(by rw [hy];rfl);have hyc:y.cs=x.cs:=(by rw [hy];rfl);have TE:gT y t=z:=(by rw [hy,gq ht,if_pos rfl]);have Ce:t<y.ts.length:=om;have AF:=iR.ev;have hvl:=iR.vl;have iF:=iR.ll;have o8:y.s=x.s:=(by rw [hy];rfl);have hzp:0≤z.pc∧z.pc≤(k:Int):=(by rw [←TE];exact(iR.tb t Ce).pc)
 refine J8 ?_;refine af.bC (α:=aG×tY) (fun ⟨v,V⟩=>[]) [(0,_),(1,_)] (fun ⟨v,V⟩=>aA b s x.now V++ []) (fun ⟨v,V⟩=>fy x t c=(bO v t,false)∧gm n0 b s v V∧v.now=x.now∧de (aA b s x.now P) w.heap.size (aA b s x.now V)∧MI (k+100) v∧t<v.ts.length) cF ?_ ?_
 ·refine J7 ?_;refine af.ak rfl (fun h3=>?_) (fun h3=>?_)
  ·refine J4 ?_;refine LM.rd (aL Tryz.isAgg168 Tryz.sizeOf168 rfl rfl) ?_;refine cU Tryz.func96 rfl (fun w hm hc hg=>DN o w qd iR om Ce (QV.c aB) (Nat.le_trans cm hc.size) (hm.pick _)) qd.bE (au aQ) ?_;rintro u70 YD ⟨rfl,h70⟩ Nm;refine J9 ?_;refine QM.ck ?_;refine J1 ?_;refine qL Tryz.results58 rfl fun w' aj aa az=>?_;rw [sn,WM h3];exact aY (m':=YD) ⟨rfl,h70⟩ aj aN aa (ar aQ Nm)
  refine J7 ?_;refine af.im (t:=71) rfl (fun h4=>?_) (fun h4=>?_)
  ·refine J7 ?_;refine LM.rd (aL Tryz.isAgg168 Tryz.sizeOf168 rfl rfl) ?_;refine cU Tryz.func97 rfl (fun w hm hc hg=>l5 o w qd iR om Ce (by have q:=QV.l om;rw [o8] at iF;omega) (Nat.le_trans cm hc.size) (hm.pick _)) qd.bE (au aQ) ?_;rintro u79 Se ⟨rfl,SY⟩ wO;refine J5 ?_;refine QM.ck ?_;refine J1 ?_;refine qL Tryz.results58 rfl fun w' aj aa az=>?_;rw [sn,Cw om];exact aY (m':=Se) ⟨rfl,SY⟩ aj aN aa (ar aQ wO)
  refine J6 ?_;refine af.im (t:=71) rfl (fun h5=>?_) (fun h5=>?_)
  ·refine J7 ?_;refine LM.rd (aL Tryz.isAgg168 Tryz.sizeOf168 rfl rfl) ?_;refine cU Tryz.func97 rfl (fun w hm hc hg=>l5 o w qd iR om Ce (by have q:=QV.l om;rw [o8] at iF;omega) (Nat.le_trans cm hc.size) (hm.pick _)) qd.bE (au aQ) ?_;rintro u79 Se ⟨rfl,SY⟩ wO;refine J5 ?_;refine QM.ck ?_;refine J1 ?_;refine qL Tryz.results58 rfl fun w' aj aa az=>?_;rw [sn,Cw om];exact aY (m':=Se) ⟨rfl,SY⟩ aj aN aa (ar aQ wO)
  refine J6 ?_;refine af.im (t:=71) rfl (fun h6=>?_) (fun h6=>?_)
  ·refine J7 ?_;refine LM.rd (aL Tryz.isAgg168 Tryz.sizeOf168 rfl rfl) ?_;refine cU Tryz.func97 rfl (fun w hm hc hg=>l5 o w qd iR om Ce (by have q:=QV.l om;rw [o8] at iF;omega) (Nat.le_trans cm hc.size) (hm.pick _)) qd.bE (au aQ) ?_;rintro u79 Se ⟨rfl,SY⟩ wO;refine J5 ?_;refine QM.ck ?_;refine J1 ?_;refine qL Tryz.results58 rfl fun w' aj aa az=>?_;rw [sn,Cw om];exact aY (m':=Se) ⟨rfl,SY⟩ aj aN aa (ar aQ wO)
  refine J5 ?_;refine af.ak rfl (fun h7=>?_) (fun h7=>?_)
  ·refine J4 ?_;refine LM.rd (aL Tryz.isAgg168 Tryz.sizeOf168 rfl rfl) ?_;refine cU Tryz.func97 rfl (fun w hm hc hg=>l5 o w qd iR om Ce (by have q:=QV.l om;rw [o8] at iF;omega) (Nat.le_trans cm hc.size) (hm.pick _)) qd.bE (au aQ) ?_;rintro u79 Se ⟨rfl,SY⟩ wO;refine J5 ?_;refine QM.ck ?_;refine J1 ?_;refine qL Tryz.results58 rfl fun w' aj aa az=>?_;rw [sn,Cw om];exact aY (m':=Se) ⟨rfl,SY⟩ aj aN aa (ar aQ wO)
  refine J6 ?_;refine af.ak rfl (fun h8=>?_) (fun h8=>?_)
  ·have IU:=QV.l om;have nW:o.a.toNat<y.lk.length:=(by rw [o8] at iF;omega);have hL:=iR.li o.a.toNat nW;have hLh:=hL.hl;have xz:P.nl=y.lk.length:=NC.nl;have tU:P.bs.length=y.lk.length:=NC.bl;have Ic:Sl fP 54 1 n0 P.bs (.slice P.al P.nl P.cl) P.ml:=NC.sl;have ajU:0≤o.a∧o.a<(P.nl:Int):=(by rw [o8] at iF;omega);have hia:((o.a.toNat:Nat):Int)=o.a:=Int.toNat_of_nonneg IU.1;refine J1 ?_;refine af.keep (v9 b s x.now P::(P.ml++(oB b8 o:: []))) (fun _=>True) (.one 0 0 (.one 1 0 (.one 2 0 (.one 3 1 (.one 4 0 (.one 5 1 (.one 6 0 (.one 7 1 (.one 8 0 (.one 9 2 (.one 10 0 (.one 11 0 (.one 12 0 (.one 13 0 (.one 14 0 .nil))))))))))))))) kr kr aN (fun _ _=>trivial) ?_;refine J6 ?_;refine KD.val rfl rfl (bF j3 Tryz.underlying43 Tryz.sizeOf54 rfl rfl om) ?_;refine KD.rd rfl rfl (bd aB ir Tryz.isAgg54 rfl rfl (by first|exact bI om|exact aO default cK) (by rfl)) ?_;refine J2 ?_;refine cU Tryz.func98 rfl (fun w hm hc hg=>Gq (l:=o.a.toNat) NC.sq nW (hm.pick P.mq) (fun m hr hM=>xh (k:=n0) (t:Nat) w hL.w.top8 hr (Nat.le_trans cm hc.size) (by show (gL y o.a.toNat).ho.length≤900;omega) (Nat.le_trans cm hc.size) hM)) (NC.sq.bE Fa) (au iq) ?_;rintro u92 m92 ⟨mr,Sx,⟨dT,T7,rfl,ew⟩,rfl,Co⟩ Lt;refine LM.assoc ?_;have i92:de (aA b s x.now P) w.heap.size Sx:=fun p hp=>ar iq Lt p (List.mem_append_right _ hp);refine py ?_;refine af.ak rfl (fun h9=>?_) (fun h9=>?_)
   ·have xy:eF n0 b s y (aA b s x.now {P with mt:=mt,mq:=Sx}):=gm.m (hn:=lY) {NC with sq:=(by have q:=Co;rw [show eQ (gL y o.a.toNat) t=y.lk.getD o.a.toNat default from if_neg (fun e=>h9 (if_pos e)),uH default nW] at q;exact q)};refine J6 ?_;refine cU Tryz.func55 rfl (fun w hm hc hg=>cc 8 (t:Nat) o.a (nF (gL y o.a.toNat) t) w xy om (Nat.le_trans cm hc.size) (hm.pick _)) xy.bE (au aQ) ?_;rintro alE amX ⟨rfl,TO⟩ SO;obtain ⟨P1,kZ,TO⟩:=TO;rw [show (bn y 8 t o.a (nF (gL y o.a.toNat) t)).now=x.now from lY] at kZ;subst kZ;have i102:de (aA b s x.now P) w.heap.size (aA b s x.now P1):=ar aQ SO;refine J2 ?_;refine mK (bn y 8 t o.a (nF (gL y o.a.toNat) t),P1) ?_
    · exact⟨by rw [sn,LY h8 h9],TO,lY,i102,(iR.kt _ _ _ _).mono om,Ce⟩
   have xy:eF n0 b s (bt y o.a.toNat (eQ (gL y o.a.toNat) t)) (aA b s x.now {P with mt:=mt,mq:=Sx}):=gm.m (hn:=lY) {NC with nl:=(by rw [cP];exact xz),bl:=(by rw [cP];exact tU),sq:=Co};have q8:=(iR.bt (l:=o.a.toNat) (hL.BD t)).kt 5 t o.a 0;refine J6 ?_;refine cU Tryz.func55 rfl (fun w hm hc hg=>cc 5 (t:Nat) o.a 0 w xy (by show y.ev.length≤_;omega) (Nat.le_trans cm hc.size) (hm.pick _)) xy.bE (au aQ) ?_;rintro adf Sf ⟨rfl,Kn⟩ Du;have i107:de (aA b s x.now P) w.heap.size Sf:=ar aQ Du;refine J7 ?_;refine cU Tryz.func62 rfl (fun w hm hc hg=>(by have q:=mW (l:=o.a.toNat) w Kn q8 om (by show _<(y.lk.set _ _).length;rw [List.length_set];exact nW) (hL.i.eC t) (Nat.le_trans (nV ..) hL.w.w8) rfl ew (Nat.le_trans cm hc.size) (sm hm);rw [hia] at q;exact q)) Kn.bE (au i107) ?_;rintro aee X9 ⟨rfl,Lz⟩ Ec;obtain ⟨P1,kZ,Lz⟩:=Lz;have ZX:=db o.a.toNat (bn (bt y o.a.toNat (eQ (gL y o.a.toNat) t)) 5 t o.a 0) (eC (gL y o.a.toNat) t);rw [ZX.2.2.2,show (bn (bt y o.a.toNat (eQ (gL y o.a.toNat) t)) 5 t o.a 0).now=x.now from lY] at kZ;subst kZ;have i112:de (aA b s x.now P) w.heap.size (aA b s x.now P1):=ar i107 Ec;refine J2 ?_;refine mK (dX (bn (bt y o.a.toNat (eQ (gL y o.a.toNat) t)) 5 t o.a 0) o.a.toNat (eC (gL y o.a.toNat) t),P1) ?_
   · exact⟨by rw [sn,Nf h8 h9],Lz,ZX.2.2.2.trans lY,i112,(q8.sX o.a.toNat (hL.i.eC t) (Nat.le_trans (nV ..) hL.w.w8)).mono om,by rw [ZX.1];exact Ce⟩
  refine J6 ?_;refine af.ak rfl (fun gh=>?_) (fun gh=>?_)
  ·have hzq:({z with st:=3,un:=x.now+BitVec.ofInt 64 o.a} :iQ).pc=z.pc:=rfl;refine J6 ?_;refine cU Tryz.func55 rfl (fun w hm hc hg=>cc 9 (t:Nat) (-1) o.a w qd om (Nat.le_trans cm hc.size) (hm.pick _)) qd.bE (au aQ) ?_;rintro adR YN ⟨rfl,YP⟩ EA;have i119:de (aA b s x.now P) w.heap.size YN:=ar aQ EA;refine J6 ?_;refine cU Tryz.func72 rfl (fun w hm hc hg=>qz t w YP (by show t<y.v.length;omega) (Nat.le_trans cm hc.size) (hm.pick _)) YP.bE (au i119) ?_;rintro ami adL ⟨rfl,DZ⟩ TW;change eF n0 b s (Sy y t o.a) adL at DZ;obtain ⟨P1,kZ,DZ⟩:=DZ;rw [show (Sy y t o.a).now=x.now from lY] at kZ;subst kZ;have i122:=ar i119 TW;clear ig ii il ip ix it iv ie ic iq;obtain ⟨ig,ii,il,ip,ix,it,iv,ie,ic,iq⟩:=bP i122;have Lo:Sl Ix 66 12 n0 (x.ts.set t z) (.slice P1.EC P1.nt P1.ct) P1.mt:=ss▸DZ.st;have OQ:P1.nt=x.ts.length:=VY▸DZ.nt;refine c9 ?_;refine LM.fR ({z with st:=3}) (j:=6) aB ir Tryz.sizeOf3 rfl rfl rfl (by first|exact bI om|exact aO default cK) rfl (by decide) (by rfl) rfl (au aB) (fun tN nX sY=>?_)
   try rw [List.set_set] at nX
   have UC:=cn sY aB;refine J3 ?_;refine af.keep (v9 b s x.now P1::oB b8 o:: []) (fun _=>True) (.one 0 0 (.one 1 0 (.one 2 0 (.one 3 1 (.one 4 0 (.one 5 0 (.one 6 0 (.one 7 0 (.one 8 1 (.one 9 0 (.one 10 1 (.one 11 0 (.one 12 0 (.one 13 0 (.one 14 0 (.last 15)))))))))))))))) kr kr aN (fun _ _=>trivial) ?_;refine c9 ?_;refine KD.val rfl rfl (n4 Tryz.underlying3 Tryz.underlying41 rfl) ?_;refine KD.val rfl rfl (iD rfl rfl) ?_;refine J2 ?_;refine KD.last rfl ?_;refine LM.fR ({z with st:=3,un:=x.now+BitVec.ofInt 64 o.a}) (j:=7) aB ir Tryz.sizeOf41 rfl rfl rfl (by first|exact bI om|exact aO default cK) rfl (by decide) (by rfl) rfl (au aB) (fun ms4 Ht I4=>?_)
   try rw [List.set_set] at Ht
   have ii4:=cn I4 aB;refine J1 ?_;refine QM.qn ?_;refine cj ?_;refine LM.rd (aE (j:=4) aB ir Tryz.isAgg3 rfl rfl (by first|exact bI om|exact aO default cK) rfl (by rfl)) ?_;refine J3 ?_;refine LM.fR ({z with st:=3,un:=x.now+BitVec.ofInt 64 o.a,pc:=z.pc+1}) (j:=4) aB ir Tryz.sizeOf3 rfl rfl rfl (by first|exact bI om|exact aO default cK) rfl (by decide) (by rfl) rfl (au aB) (fun ms5 LO SA=>?_)
   try rw [List.set_set] at LO
   have ii5:=cn SA aB;refine J9 ?_;refine QM.ck ?_;refine J1 ?_;refine qL Tryz.results58 rfl fun w' aj aa az=>?_;rw [sn,Wl gh,TE,lY];exact aY (m':=aA b s x.now {P1 with mt:=ms5}) ⟨rfl,gm.m (hn:=lY) {DZ with nt:=(by rw [bA];exact DZ.nt),st:=(by show Sl _ _ _ _ (y.ts.set t _) _ _;rw [ss,List.set_set];exact LO)}⟩ aj aN aa aQ
  refine J6 ?_;refine af.ak rfl (fun jf=>?_) (fun jf=>?_)
  ·have hzq:({z with st:=1} :iQ).pc=z.pc:=rfl;refine J5 ?_;refine cU Tryz.func55 rfl (fun w hm hc hg=>cc 10 (t:Nat) (-1) (c:Nat) w qd om (Nat.le_trans cm hc.size) (hm.pick _)) qd.bE (au aQ) ?_;rintro ajH ajB ⟨rfl,BE⟩ TR;obtain ⟨P1,kZ,BE⟩:=BE;rw [show (bn y 10 t (-1) c).now=x.now from lY] at kZ;subst kZ;have i161:de (aA b s x.now P) w.heap.size (aA b s x.now P1):=ar aQ TR;clear ig ii il ip ix it iv ie ic iq;obtain ⟨ig,ii,il,ip,ix,it,iv,ie,ic,iq⟩:=bP i161;have Lo:Sl Ix 66 12 n0 (x.ts.set t z) (.slice P1.EC P1.nt P1.ct) P1.mt:=ss▸BE.st;have OQ:P1.nt=x.ts.length:=VY▸BE.nt;obtain ⟨nu,nq,jV,F8,sB,hX⟩:=BE.sc.x;have UB:=hX.sl;have Wj:F8.length=y.cs.length:=hX.len;have hXn:nq=y.cs.length:=hX.nl;have Q8:c<y.cs.length:=(by rw [hyc];exact C9)
   refine cj ?_;refine LM.eh (fun w hm hc hg=>gw (M:=gO P1.bc nu nq jV::(sB++ [])) Tryz.isAgg118 rfl rfl w (hX.ld (hm.pick P1.mc))) ?_;refine J2 ?_;refine LM.eh (fun w hm hc hg=>aE (M:=gO P1.bc nu nq jV::(sB++ [])) (i:=c) (j:=0) UB ir Tryz.isAgg122 rfl rfl (aO (xs:=F8) default om) rfl (by rfl) w (hX.ld (hm.pick P1.mc))) ?_;refine cU Tryz.func54 rfl (fun w hm hc hg=>hX.Bp (i:=c) (x':=fJ (qg y.cs c)) Q8 (hm.pick P1.mc) (iR.ci.back Q8).wf (fun m hr hM=>tH w hr hM)) BE.sc.bE (au ic) ?_;rintro ajy acq ⟨rfl,agN⟩ S3;have i172:=ar ic S3;refine c9 ?_;refine LM.fR ({z with st:=1}) (j:=6) aB ir Tryz.sizeOf3 rfl rfl rfl (by first|exact bI om|exact aO default cK) rfl (by decide) (by rfl) rfl (au aB) (fun tN nX sY=>?_)
   try rw [List.set_set] at nX
   have UC:=cn sY aB;refine c9 ?_;refine LM.rd (aE (j:=4) aB ir Tryz.isAgg3 rfl rfl (by first|exact bI om|exact aO default cK) rfl (by rfl)) ?_;refine J3 ?_;refine LM.fR ({z with st:=1,pc:=z.pc+1}) (j:=4) aB ir Tryz.sizeOf3 rfl rfl rfl (by first|exact bI om|exact aO default cK) rfl (by decide) (by rfl) rfl (au aB) (fun ms4 Ht I4=>?_)
   try rw [List.set_set] at Ht
   have ii4:=cn I4 aB;refine J9 ?_;refine QM.ck ?_;refine J1 ?_;refine qL Tryz.results58 rfl fun w' aj aa az=>?_;rw [sn,Zj jf,TE];exact aY (m':=aA b s x.now {P1 with mt:=ms4,mc:=acq}) ⟨rfl,gm.m (hn:=lY) {BE with nt:=(by rw [bA];exact BE.nt),st:=(by show Sl _ _ _ _ (y.ts.set t _) _ _;rw [ss,List.set_set];exact Ht),sc:=agN.c}⟩ aj aN aa aQ
  refine J6 ?_;refine af.ak rfl (fun lJ=>?_) (fun lJ=>?_)
  ·refine J3 ?_;refine cE Tryz.func29 rfl (fun w hm hc hg=>uc w qd iR.tl (hm.pick _)) ?_;refine J2 ?_;refine af.aJ rfl (fun oK=>?_) (fun oK=>?_)
   ·refine af.draw [(0,0),(1,0),(2,1),(3,0),(4,0),(5,0),(6,1),(7,0),(8,0),(9,0),(10,1),(11,0),(12,0),(13,0),(14,1),(15,0),(16,0),(17,0),(18,1),(19,0),(20,3)] kr kr ?_;refine cj ?_;refine LD.rd rfl rfl (aE (j:=2) aB ir Tryz.isAgg3 rfl rfl (by first|exact bI om|exact aO default cK) rfl (by rfl)) ?_;refine J7 ?_;refine LD.rd rfl rfl (aE (j:=9) aB ir Tryz.isAgg3 rfl rfl (by first|exact bI om|exact aO default cK) rfl (by rfl)) ?_;refine J1 ?_;refine LD.tail rfl rfl ?_;refine cU Tryz.func30 rfl (fun w hm hc hg=>xn o.a z.gr z.we (c:Nat) w qd iR.tl (by have:=iR.tl;omega) om (Nat.le_trans cm hc.size) (hm.pick _)) qd.bE (au aQ) ?_;rintro akd amC ⟨rfl,Tv⟩ Vs;obtain ⟨P1,kZ,Tv⟩:=Tv;rw [show (pL y o.a z.gr z.we c).now=x.now from lY] at kZ;subst kZ;have i215:de (aA b s x.now P) w.heap.size (aA b s x.now P1):=ar aQ Vs;refine J1 ?_;refine QM.qn ?_;refine J1 ?_;refine mK (pL y o.a z.gr z.we c,P1) ?_
    · exact⟨by rw [sn,V0 lJ,if_pos oK,TE],Tv,lY,i215,(iR.NR _ _ _ _ (by rw [o8];exact QV.p lJ) (by unfold je at oK;simp only [Bool.and_eq_true,decide_eq_true_eq] at oK;exact oK.2)).mono om,by show t<(y.ts++ [_]).length;rw [List.length_append];omega⟩
   refine J3 ?_;refine cU Tryz.func55 rfl (fun w hm hc hg=>cc 8 (t:Nat) (-1) 3 w qd om (Nat.le_trans cm hc.size) (hm.pick _)) qd.bE (au aQ) ?_;rintro anY aj1 ⟨rfl,VN⟩ Ud;obtain ⟨P1,kZ,VN⟩:=VN;rw [show (bn y 8 t (-1) 3).now=x.now from lY] at kZ;subst kZ;have i218:de (aA b s x.now P) w.heap.size (aA b s x.now P1):=ar aQ Ud;refine J2 ?_;refine mK (bn y 8 t (-1) 3,P1) ?_
   · exact⟨by rw [sn,V0 lJ,if_neg (by simpa using oK)],VN,lY,i218,(iR.kt _ _ _ _).mono om,Ce⟩
  refine J6 ?_;refine af.ak rfl (fun ku=>?_) (fun ku=>?_)
  ·refine J1 ?_;refine af.keep (zm b s x.now P P.mx mt P.mc P.mq++(oB b8 o:: [])) (fun _=>True) (.one 0 0 (.one 1 0 (.one 2 0 (.one 3 1 (.one 4 0 (.one 5 0 (.one 6 1 (.one 7 0 (.one 8 0 (.last 9)))))))))) kr kr aN (fun _ _=>trivial) ?_;refine J9 ?_;refine KD.last rfl ?_;refine LM.fR ({z with we:=o.a}) (j:=9) aB ir Tryz.sizeOf3 rfl rfl rfl (by first|exact bI om|exact aO default cK) rfl (by decide) (by rfl) rfl (au aB) (fun tN nX sY=>?_)
   try rw [List.set_set] at nX
   have UC:=cn sY aB;refine J1 ?_;refine QM.qn ?_;refine J2 ?_;have Mo:eF n0 b s (dH y t {z with we:=o.a}) (aA b s x.now {P with mt:=tN}):=gm.m (hn:=lY) {NC with nt:=(by rw [bA];exact NC.nt),st:=(by show Sl _ _ _ _ (y.ts.set t _) _ _;rw [ss,List.set_set];exact nX)};refine J4 ?_;refine cU Tryz.func55 rfl (fun w hm hc hg=>cc 14 (t:Nat) (-1) o.a w Mo (by show y.ev.length≤_;omega) (Nat.le_trans cm hc.size) (hm.pick _)) Mo.bE (au aQ) ?_;rintro alY anR ⟨rfl,TM⟩ UR;obtain ⟨P1,kZ,TM⟩:=TM;rw [show (bn (dH y t {z with we:=o.a}) 14 t (-1) o.a).now=x.now from lY] at kZ;subst kZ;have i234:de (aA b s x.now P) w.heap.size (aA b s x.now P1):=ar aQ UR;refine J2 ?_;refine mK (bn (dH y t {z with we:=o.a}) 14 t (-1) o.a,P1) ?_
   · exact⟨by rw [sn,JP ku,TE],TM,lY,i234,((iR.up Ce (y:= {z with we:=o.a}) (by have q:=iR.tb t Ce;rw [TE] at q;exact⟨q.pr,q.pc,q.lf,q.ti,q.l4,q.un⟩) (.inr (by rw [TE]))).kt _ _ _ _).mono om,by show t<(y.ts.set _ _).length;rw [List.length_set];exact Ce⟩
  refine J6 ?_;refine af.ak rfl (fun uM=>?_) (fun uM=>?_)
  ·refine J4 ?_;refine cU Tryz.func32 rfl (fun w hm hc hg=>qF w qd iR om Ce (Nat.le_trans cm hc.size) (hm.pick _)) qd.bE (au aQ) ?_;rintro alz ady ⟨rfl,afq⟩ Tt;refine J9 ?_;refine QM.ck ?_;refine J1 ?_;refine qL Tryz.results58 rfl fun w' aj aa az=>?_;rw [sn,Je uM];exact aY (m':=ady) ⟨rfl,afq⟩ aj aN aa (ar aQ Tt)
  refine J2 ?_;refine mK (y,{P with mt:=mt}) ?_
  · exact absurd QV.k om
 rintro ⟨v,V⟩ ⟨hv1,W3,hv3,hv4,hv5,hv6⟩;change QM _ _ _ _ _ (aA b s x.now V++ []) _ _ _;have hvp:0≤(v.ts.getD t default).pc∧(v.ts.getD t default).pc≤((k+100:Nat):Int):=(hv5.tb t hv6).pc;have hvs:=W3.st;have Tz:=W3.nt;clear ig ii il ip ix it iv ie ic iq;obtain ⟨ig,ii,il,ip,ix,it,iv,ie,ic,iq⟩:=bP hv4;refine cj ?_;refine LM.rd (aE (j:=4) aB ir Tryz.isAgg3 rfl rfl (by first|exact bI om|exact aO default cK) rfl (by rfl)) ?_;refine J3 ?_;refine LM.fR (s7 (gT v t)) (j:=4) aB ir Tryz.sizeOf3 rfl rfl rfl (by first|exact bI om|exact aO default cK) rfl (by decide) (by rfl) rfl (au aB) (fun tN nX sY=>?_)
 try rw [List.set_set] at nX
 have UC:=cn sY aB;refine J8 ?_;refine qL Tryz.results58 rfl fun w' aj aa az=>?_;rw [hv1];exact aY (m':=aA b s x.now {V with mt:=tN}) ⟨rfl,gm.m (hn:=hv3) {W3 with nt:=(by rw [show (bO v t).ts.length=v.ts.length from bA ..];exact Tz),st:=nX}⟩ aj aN aa aQ
set_option maxHeartbeats 2000000 in
theorem Et {n0 b:Nat} {s:dm} {x:aG} {m:ab} (w:World) (h:eF n0 b s x m) (uz:x.ts.length≤64) (hM:Mem w m):aD Tryz.prog 59 #[.pointer (some ⟨b,0,none⟩)] w (New fI 3 1 ((oz x).map (fun (j:Nat)=>(j:Int))) w):=by
 obtain ⟨P,rfl,h⟩:=h;have dN:=h.nt;have cu:=h.st;refine aD.ao Tryz.func59 rfl Tryz.ntmps59 rfl (aA b s x.now P++ []) (no) aM ?_;refine yi ?_;refine af.aP (α:=Nat×List Nat×Option Addr×Nat×Nat×ab) (fun ⟨i,out,fp,no,cH,mo⟩=>[(3,.slice fp no cH),(4,.int .i64 (i:Nat))]) [(0,_)] (fun ⟨i,out,fp,no,cH,mo⟩=>aA b s x.now P++(mo++ [])) (fun ⟨i,out,fp,no,cH,mo⟩=>i≤x.ts.length∧out=B3 x i∧no=out.length∧Sl fI 3 1 w.heap.size (out.map (fun (j:Nat)=>(j:Int))) (.slice fp no cH) mo) (fun ⟨i,out,fp,no,cH,mo⟩=>x.ts.length-i) ((0,[],none,0,0,[])) cF aN ⟨Nat.zero_le _,rfl,rfl,.nil _ _ _ _⟩ ?_;rintro ⟨i,out,fp,no,cH,mo⟩ ⟨hi,EJ,gZ,mj⟩;change af _ _ _ _ _ _ _ (aA b s x.now P++(mo++ [])) _ _ _;have hml:(out.map (fun (j:Nat)=>(j:Int))).length=out.length:=List.length_map ..;have jg:=mj.len;have ZR:out.length≤i:=(by rw [EJ];exact uQ x i);have hom:∀j,j<out.length→out.getD j 0<i:=(fun j hj=>jm x i _ (by rw [←EJ];exact List.mem_of_getElem? (aO 0 hj)))
 refine cN ?_;refine af.ak rfl (fun h1=>?_) (fun h1=>?_)
 ·refine J6 ?_;refine af.draw [(0,0),(1,0),(2,0),(3,1),(4,0),(5,0),(6,0),(7,1),(8,0),(9,0),(10,0),(11,0),(12,0),(13,1),(14,0),(15,0),(16,0),(17,1),(18,0),(19,0),(20,0),(21,1),(22,0),(23,0)] kr kr ?_;refine J7 ?_;refine LD.rd rfl rfl (aE (j:=7) aB ir Tryz.isAgg41 rfl rfl cJ rfl (by rfl)) ?_;refine LD.val rfl rfl (ki (b:=0#64) rfl rfl) ?_;refine J1 ?_;refine LD.aq (t:=25) rfl (fun h2=>?_) (fun h2=>?_)
  ·refine J26 ?_;refine aK (i+1,out,fp,no,cH,mo) ?_ ?_
   · exact⟨by omega,by rw [kY,←EJ];exact(if_pos (.inl h2)).symm,gZ,mj⟩
   · (dsimp only;omega)
  refine J7 ?_;refine LD.rd rfl ⟨25,_,rfl,rfl,rfl⟩ (aE (j:=7) aB ir Tryz.isAgg41 rfl rfl cJ rfl (by rfl)) ?_;refine J4 ?_;refine LD.val rfl ⟨25,_,rfl,rfl,rfl⟩ (pj rfl rfl) ?_;refine J3 ?_;refine af.ak rfl (fun h3=>?_) (fun h3=>?_)
  ·refine J9 ?_;refine aK (i+1,out,fp,no,cH,mo) ?_ ?_
   · exact⟨by omega,by rw [kY,←EJ];exact(if_pos (.inr h3)).symm,gZ,mj⟩
   · (dsimp only;omega)
  refine J9 ?_;refine af.aP (α:=Nat) (fun k=>[(5,.int .i64 (k:Nat))]) [(0,_),(3,_),(4,_)] (fun k=>aA b s x.now P++(mo++ [])) (fun k=>k≤out.length∧∀j,j<k→¬ND x i<ND x (out.getD j 0)) (fun k=>out.length-k) (0) cF aN ⟨Nat.zero_le _,fun j hj=>absurd hj (Nat.not_lt_zero j)⟩ ?_;rintro k ⟨hk,C4⟩;change af _ _ _ _ _ _ _ (aA b s x.now P++(mo++ [])) _ _ _;have hmk:k<out.length→(out.map (fun (j:Nat)=>(j:Int))).getD k 0=((out.getD k 0:Nat):Int):=Bq;have IV:=hom k;refine J2 ?_;refine af.draw [(0,0),(1,0),(2,0),(3,0),(4,0),(5,0),(6,0),(7,0),(8,1),(9,0),(10,0),(11,0),(12,1),(13,0),(14,0),(15,1),(16,0),(17,0),(18,0),(19,1),(20,0),(21,0),(22,0),(23,1),(24,0),(25,0)] kr kr ?_;refine J5 ?_;refine LD.aq (t:=44) rfl (fun h4=>?_) (fun h4=>?_)
  ·refine J7 ?_;refine LD.rd rfl ⟨44,_,rfl,rfl,rfl⟩ (bd aB ir Tryz.isAgg3 rfl rfl (by exact aO 0 cK) (by rfl)) ?_;refine LD.val rfl ⟨44,_,rfl,rfl,rfl⟩ (bF j3 Tryz.underlying45 Tryz.sizeOf66 rfl rfl om) ?_;refine J1 ?_;refine LD.rd rfl ⟨44,_,rfl,rfl,rfl⟩ (aE (j:=7) aB ir Tryz.isAgg41 rfl rfl cJ rfl (by rfl)) ?_;refine J7 ?_;refine LD.rd rfl ⟨44,_,rfl,rfl,rfl⟩ (aE (j:=7) aB ir Tryz.isAgg41 rfl rfl cJ rfl (by rfl)) ?_;refine LD.val rfl ⟨44,_,rfl,rfl,rfl⟩ (OE rfl rfl) ?_;refine J3 ?_;refine af.ak rfl (fun h5=>?_) (fun h5=>?_)
   ·refine J9 ?_;refine aK (k+1) ?_ ?_
    · exact⟨by omega,fun j hj=>by rcases Nat.lt_or_ge j k with q|q;exact C4 j q;rw [show j=k by omega];rw [hmk om,Int.toNat_natCast] at h5;unfold ND;show¬(x.ts.getD i default).un.toNat<(x.ts.getD (out.getD k 0) default).un.toNat;omega⟩
    · omega
   have hdk:WH x out i=k:=RH C4 (.inr ⟨by omega,by rw [hmk om,Int.toNat_natCast] at h5;show (x.ts.getD i default).un.toNat<(x.ts.getD (out.getD k 0) default).un.toNat;omega⟩);refine J7 ?_;refine LM.KL Tryz.underlying26 Tryz.sizeOf3 rfl (fun UA Tq=>?_);have L7:Sl fI 3 1 w.heap.size ([] :List Int) (.slice (some ⟨UA,0,none⟩) 0 0) [(UA,.cells (([] :List Value).toArray) 3 (0,0))] := .void Tq (Nat.zero_le _) rfl;refine J2 ?_;refine LM.val (iH Tryz.underlying26 Tryz.sizeOf3 rfl rfl om om) ?_;refine LM.sF (ys:=(out.map (fun (j:Nat)=>(j:Int))).take k) (m:=[(UA,.cells (([] :List Value).toArray) 3 (0,0))]) Tryz.underlying26 Tryz.typeInfo3 rfl rfl rfl rfl rfl rfl rfl L7 (fun w hm hc hg=>(mj.lK (fun _=>rfl) hm).take (k:=k) om) ir (by intro _ u hu;simp [fI] at hu;(repeat (first|(rcases hu with rfl|hu)|subst hu|rfl))) (Nat.le_refl _) (fun p hp bD=>absurd bD (Nat.not_lt_of_le (Sl.ge L7 p hp))) (by unfold maxLen;rw [List.length_take];simp only [List.length_nil];omega) (by rw [List.length_take];simp only [Tryz.t3,List.length_nil];omega) (fun afT n72 XU m72 afK Ty LR=>?_);refine J7 ?_;refine LM.single Tryz.underlying26 Tryz.sizeOf3 Tryz.zeroValue3 rfl rfl rfl rfl rfl (fun b75 afG=>?_);have aeM:(([] :List Int)++(out.map (fun (j:Nat)=>(j:Int))).take k).length≤64:=(by simp only [List.length_append,List.length_take,List.length_map,List.length_nil];omega)
   refine LM.app (a:=(i:Int)) Tryz.underlying26 Tryz.typeInfo3 rfl rfl rfl rfl rfl rfl rfl aB (by rfl) ir (by intro _ u hu;simp [fI] at hu;(repeat (first|(rcases hu with rfl|hu)|subst hu|rfl))) (by first|exact Nat.le_refl _|omega) pH (by first|omega|(unfold maxLen;omega)) (by simp only [Tryz.t3];omega) (fun aeE n76 Zi m76 adT L5 XN=>?_);refine J7 ?_;refine LM.val (lu k Tryz.underlying26 Tryz.sizeOf3 rfl rfl om om) ?_;refine LM.sF (ys:=(out.map (fun (j:Nat)=>(j:Int))).drop k) (m:=m76) Tryz.underlying26 Tryz.typeInfo3 rfl rfl rfl rfl rfl rfl rfl L5 (fun w hm hc hg=>(mj.lK (fun _=>rfl) hm).drop (l:=k) om) ir (by intro _ u hu;simp [fI] at hu;(repeat (first|(rcases hu with rfl|hu)|subst hu|rfl))) (Nat.le_refl _) (fun p hp bD=>absurd bD (Nat.not_lt_of_le (Sl.ge L5 p hp))) (by unfold maxLen;simp only [List.length_nil,List.length_append,List.length_take,List.length_drop,List.length_cons,List.length_map];omega) (by simp only [Tryz.t3,List.length_nil,List.length_append,List.length_take,List.length_drop,List.length_cons,List.length_map];omega) (fun Tj n81 KH m81 Sk Va YI=>?_);refine J9 ?_;refine aK (i+1,out.take k++i::out.drop k,Tj,n81,KH,m81) ?_ ?_
   · exact⟨by omega,by rw [kY,←EJ];unfold Wb;rw [if_neg (fun q=>q.elim h2 h3),hdk],by rw [Sk];simp only [List.length_append,List.length_cons,List.length_map,List.length_take,List.length_drop,List.length_nil];omega,by rw [List.map_append,List.map_cons,List.map_take,List.map_drop];have q:=Va;rw [List.nil_append,List.append_assoc] at q;exact q⟩
   · (dsimp only;omega)
  have hdk:WH x out i=k:=RH C4 (.inl om);refine J31 ?_;refine LM.KL Tryz.underlying26 Tryz.sizeOf3 rfl (fun UA Tq=>?_);have L7:Sl fI 3 1 w.heap.size ([] :List Int) (.slice (some ⟨UA,0,none⟩) 0 0) [(UA,.cells (([] :List Value).toArray) 3 (0,0))] := .void Tq (Nat.zero_le _) rfl;refine J2 ?_;refine LM.val (iH Tryz.underlying26 Tryz.sizeOf3 rfl rfl om om) ?_;refine LM.sF (ys:=(out.map (fun (j:Nat)=>(j:Int))).take k) (m:=[(UA,.cells (([] :List Value).toArray) 3 (0,0))]) Tryz.underlying26 Tryz.typeInfo3 rfl rfl rfl rfl rfl rfl rfl L7 (fun w hm hc hg=>(mj.lK (fun _=>rfl) hm).take (k:=k) om) ir (by intro _ u hu;simp [fI] at hu;(repeat (first|(rcases hu with rfl|hu)|subst hu|rfl))) (Nat.le_refl _) (fun p hp bD=>absurd bD (Nat.not_lt_of_le (Sl.ge L7 p hp))) (by unfold maxLen;rw [List.length_take];simp only [List.length_nil];omega) (by rw [List.length_take];simp only [Tryz.t3,List.length_nil];omega) (fun afT n72 XU m72 afK Ty LR=>?_);refine J7 ?_;refine LM.single Tryz.underlying26 Tryz.sizeOf3 Tryz.zeroValue3 rfl rfl rfl rfl rfl (fun b75 afG=>?_);have aeM:(([] :List Int)++(out.map (fun (j:Nat)=>(j:Int))).take k).length≤64:=(by simp only [List.length_append,List.length_take,List.length_map,List.length_nil];omega)
  refine LM.app (a:=(i:Int)) Tryz.underlying26 Tryz.typeInfo3 rfl rfl rfl rfl rfl rfl rfl aB (by rfl) ir (by intro _ u hu;simp [fI] at hu;(repeat (first|(rcases hu with rfl|hu)|subst hu|rfl))) (by first|exact Nat.le_refl _|omega) pH (by first|omega|(unfold maxLen;omega)) (by simp only [Tryz.t3];omega) (fun aeE n76 Zi m76 adT L5 XN=>?_);refine J7 ?_;refine LM.val (lu k Tryz.underlying26 Tryz.sizeOf3 rfl rfl om om) ?_;refine LM.sF (ys:=(out.map (fun (j:Nat)=>(j:Int))).drop k) (m:=m76) Tryz.underlying26 Tryz.typeInfo3 rfl rfl rfl rfl rfl rfl rfl L5 (fun w hm hc hg=>(mj.lK (fun _=>rfl) hm).drop (l:=k) om) ir (by intro _ u hu;simp [fI] at hu;(repeat (first|(rcases hu with rfl|hu)|subst hu|rfl))) (Nat.le_refl _) (fun p hp bD=>absurd bD (Nat.not_lt_of_le (Sl.ge L5 p hp))) (by unfold maxLen;simp only [List.length_nil,List.length_append,List.length_take,List.length_drop,List.length_cons,List.length_map];omega) (by simp only [Tryz.t3,List.length_nil,List.length_append,List.length_take,List.length_drop,List.length_cons,List.length_map];omega) (fun Tj n81 KH m81 Sk Va YI=>?_);refine J9 ?_;refine aK (i+1,out.take k++i::out.drop k,Tj,n81,KH,m81) ?_ ?_
  · exact⟨by omega,by rw [kY,←EJ];unfold Wb;rw [if_neg (fun q=>q.elim h2 h3),hdk],by rw [Sk];simp only [List.length_append,List.length_cons,List.length_map,List.length_take,List.length_drop,List.length_nil];omega,by rw [List.map_append,List.map_cons,List.map_take,List.map_drop];have q:=Va;rw [List.nil_append,List.append_assoc] at q;exact q⟩
  · (dsimp only;omega)
 refine cN ?_;refine qL Tryz.results59 rfl fun w' aj aa az=>?_;have er:i=x.ts.length:=om;subst er;subst EJ;exact⟨aa,mo,mj,aj.pick _⟩
theorem vU {n0 b k t:Nat} {s:dm} {x:aG} {m:ab} (c:Int) (w:World) (h:eF n0 b s x m) (hI:MI k x) (hk:k≤700000000000) (ht:t<x.ts.length) (cm:n0≤w.heap.size) (hM:Mem w m):aD Tryz.prog 28 #[.pointer (some ⟨b,0,none⟩),.int .i64 (t:Nat),.int .i64 c] w (ec m (fun u m'=>u= .tuple #[]∧eF n0 b s (sQ x t c) m') w):=by
 obtain ⟨P,rfl,h⟩:=h;have dN:=h.nt;have cu:=h.st;have uz:=hI.tl;have AF:=hI.ev;obtain ⟨ig,ii,il,ip,ix,it,iv,ie,ic,iq⟩:=bP (ay (aA b s x.now P) w.heap.size);have q0:=hI.tb t ht;have pC:=(hI.up ht (y:= {gT x t with co:=c}) ⟨q0.pr,q0.pc,q0.lf,q0.ti,q0.l4,q0.un⟩).kt 13 t (-1) c;refine aD.ao Tryz.func28 rfl Tryz.ntmps28 rfl (aA b s x.now P++ []) ((eO (aA b s x.now P))) aM ?_;refine cj ?_;refine LM.fR ({gT x t with co:=c}) (j:=3) aB ir Tryz.sizeOf3 rfl rfl rfl (by first|exact bI om|exact aO default cK) rfl (by decide) (by rfl) rfl (au aB) (fun jh cG cY=>?_)
 try rw [List.set_set] at cG
 have HE:=cn cY aB;refine J4 ?_;have xS:eF n0 b s (dH x t {gT x t with co:=c}) (aA b s x.now {P with mt:=jh}):=gm.m {h with nt:=(by rw [bA];exact dN),st:=cG};refine J3 ?_;refine cU Tryz.func55 rfl (fun w hm hc hg=>cc 13 (t:Nat) (-1) c w xS (by show x.ev.length≤_;omega) (Nat.le_trans cm hc.size) (hm.pick _)) xS.bE (au aQ) ?_;rintro u17 He ⟨rfl,nk⟩ Yx;have i17:de (aA b s x.now P) w.heap.size He:=ar aQ Yx;refine J4 ?_;refine cU Tryz.func31 rfl (fun w hm hc hg=>j2 w nk pC (Nat.le_trans cm hc.size) (hm.pick _)) nk.bE (au i17) ?_;rintro u19 ZT ⟨rfl,xf⟩ Yr;refine J1 ?_;refine QM.leave (.inr rfl) [] Tryz.results28 rfl ?_;intro w' aj aa az;exact aY (m':=ZT) ⟨rfl,xf⟩ aj aN aa (ar i17 Yr)
set_option maxHeartbeats 2000000 in
theorem wS {n0 b k:Nat} {s:dm} {x:aG} {m:ab} (w:World) (h:eF n0 b s x m) (hI:MI k x) (hk:k≤700000000000) (cm:n0≤w.heap.size) (hM:Mem w m):aD Tryz.prog 26 #[.pointer (some ⟨b,0,none⟩)] w (ec m (fun u m'=>u= .tuple #[]∧eF n0 b s (wc x) m') w):=by
 obtain ⟨P,rfl,h⟩:=h;have uz:=hI.tl;have hdl:=uQ x x.ts.length;refine aD.ao Tryz.func26 rfl Tryz.ntmps26 rfl (aA b s x.now P++ []) ((eO (aA b s x.now P))) aM ?_;refine J3 ?_;refine LM.cS (oC Tryz.func59) (fun w hm hc hg=>Et w h.m uz (hm.pick _)) (fun Lv n9 vm m9 hn9 Wz=>?_);refine cj ?_;refine af.aP (α:=Nat×aG×tY) (fun ⟨i,y,Q⟩=>[(3,.int .i64 (i:Nat))]) [(0,_),(2,_)] (fun ⟨i,y,Q⟩=>aA b s x.now Q++(m9++ [])) (fun ⟨i,y,Q⟩=>i≤(oz x).length∧y=yh x ((oz x).take i)∧gm n0 b s y Q∧de (aA b s x.now P) w.heap.size (aA b s x.now Q)) (fun ⟨i,y,Q⟩=>(oz x).length-i) ((0,x,P)) cF aN ⟨Nat.zero_le _,rfl,h,ay _ _⟩ ?_;rintro ⟨i,y,Q⟩ ⟨hi,hy,hQ,yD⟩;change af _ _ _ _ _ _ _ (aA b s x.now Q++(m9++ [])) _ _ _;have hml:((oz x).map (fun (j:Nat)=>(j:Int))).length=(oz x).length:=List.length_map ..;have o8:=rD ((oz x).take i) x;rw [←hy] at o8;have Xg:=hI.yh (l:=(oz x).take i) (fun t ht=>jm x _ t (List.mem_of_mem_take ht));rw [←hy] at Xg;have htk:=List.length_take_le i (oz x);have alA:(oz x).length≤x.ts.length:=hdl;have iR:MI (k+2560) y:=Xg.mono om;have ss:y.ts.length=x.ts.length:=o8.1;have lY:y.now=x.now:=o8.2.2.2;obtain ⟨ig,ii,il,ip,ix,it,iv,ie,ic,iq⟩:=bP yD;have qd:eF n0 b s y (aA b s x.now Q):=hQ.m;have cu:=hQ.st;have dN:=hQ.nt;have AF:=iR.ev;refine J9 ?_;refine af.ak rfl (fun h1=>?_) (fun h1=>?_)
 ·obtain ⟨t,yp⟩:∃t:Nat,(oz x).getD i 0=t:=⟨_,rfl⟩;have ht:t<y.ts.length:=(by rw [ss,←yp];exact jm x _ _ (List.mem_of_getElem? (aO 0 (show i<(oz x).length by omega))));have IC:((oz x).map (fun (j:Nat)=>(j:Int))).getD i 0=(t:Int):=(by rw [Bq om,yp])
  refine J9 ?_;refine LM.rd (bd aB ir Tryz.isAgg3 rfl rfl (by first|exact bI om|exact aO 0 cK) (by rfl)) ?_;refine J6 ?_;rw [IC];refine J7 ?_;refine LM.rd (aE (j:=7) aB ir Tryz.isAgg41 rfl rfl (by first|exact bI om|exact aO default cK) rfl (by rfl)) ?_;refine LM.val (ki (b:=0#64) rfl rfl) ?_;refine J2 ?_;refine af.ak rfl (fun h2=>?_) (fun h2=>?_)
  ·refine J9 ?_;refine aK (i+1,pG y t,Q) ?_ ?_
   · exact⟨by omega,by rw [bR 0 om,wF,←hy,yp],by rw [show pG y t=y from if_pos h2];exact hQ,yD⟩
   · (dsimp only;omega)
  refine cN ?_;refine LM.rd (aE (j:=6) aB ir Tryz.isAgg3 rfl rfl (by first|exact bI om|exact aO default cK) rfl (by rfl)) ?_;refine J3 ?_;refine af.ak rfl (fun h3=>?_) (fun h3=>?_)
  ·refine J4 ?_;refine cU Tryz.func60 rfl (fun w hm hc hg=>qH t w qd ht iR.vl om (Nat.le_trans cm hc.size) (hm.pick _)) qd.bE (au yD) ?_;rintro u40 Z6 ⟨rfl,C6⟩ p6;obtain ⟨P1,kZ,C6⟩:=C6;rw [show (ft y t).now=x.now from lY] at kZ;subst kZ;have i40:=ar yD p6;refine c9 ?_;refine aK (i+1,pG y t,P1) ?_ ?_
   · exact⟨by omega,by rw [bR 0 om,wF,←hy,yp],by rw [show pG y t=ft y t by unfold pG;rw [if_neg h2,if_pos h3]];exact C6,i40⟩
   · (dsimp only;omega)
  have hl4:=(iR.tb t ht).l4 (((iR.tb t ht).un h2).resolve_left h3);obtain ⟨l,nW⟩:∃l:Nat,(y.ts.getD t default).lk=(l:Nat):=⟨(gT y t).lk.toNat,(Int.toNat_of_nonneg hl4.1).symm⟩;have aeg:(gT y t).lk=(l:Int):=nW;have iF:l<y.lk.length:=(by rw [iR.ll];omega);have hL:=iR.li l iF;have hLh:=hL.hl;have xz:=hQ.nl;have tU:=hQ.bl;have jt:=hQ.sl;have hfi:pG y t=dX (ft (dO (bO (bn (bt y l (fY (gL y l) t)) 8 t l 10) t) t) t) l (qk (gL y l) t):=(by unfold pG;rw [if_neg h2,if_neg h3,aeg];rfl);have hIp:=(iR.bt (l:=l) (hL.lv t)).kt 8 t l 10;have anA:=iR.tl;refine c9 ?_;refine LM.rd (aE (j:=8) aB ir Tryz.isAgg3 rfl rfl (by first|exact bI om|exact aO default cK) rfl (by rfl)) ?_;refine J5 ?_;rw [nW];refine J6 ?_;refine LM.rd (bd aB ir Tryz.isAgg54 rfl rfl (by first|exact bI om|exact aO default cK) (by rfl)) ?_;refine J1 ?_;refine cU Tryz.func61 rfl (fun w hm hc hg=>Gq hQ.sq iF (hm.pick Q.mq) (fun m hr hM=>sK (k:=n0) (t:Nat) w hL.w hr (Nat.le_trans cm hc.size) (by show (gL y l).ho.length≤900;omega) (Nat.le_trans cm hc.size) hM)) (hQ.sq.bE Fa) (au iq) ?_;rintro u58 WA ⟨mr,B9,⟨dT,T7,rfl,ew⟩,rfl,Co⟩ rq;refine LM.assoc ?_;have i58:de (aA b s x.now P) w.heap.size B9:=fun p hp=>ar iq rq p (List.mem_append_right _ hp);have xS:eF n0 b s (bt y l (fY (gL y l) t)) (aA b s x.now {Q with mq:=B9}):=gm.m (hn:=lY) {hQ with nl:=(by rw [cP];exact xz),bl:=(by rw [cP];exact tU),sq:=Co};refine cN ?_;refine cU Tryz.func55 rfl (fun w hm hc hg=>cc 8 (t:Nat) (l:Nat) 10 w xS (by show y.ev.length≤_;omega) (Nat.le_trans cm hc.size) (hm.pick _)) xS.bE (au aQ) ?_;rintro u64 m64 ⟨rfl,AH⟩ A8;obtain ⟨P1,kZ,AH⟩:=AH;rw [show (bn (bt y l (fY (gL y l) t)) 8 t l 10).now=x.now from lY] at kZ;subst kZ;have i64:de (aA b s x.now P) w.heap.size (aA b s x.now P1):=ar aQ A8;clear ig ii il ip ix it iv ie ic iq;obtain ⟨ig,ii,il,ip,ix,it,iv,ie,ic,iq⟩:=bP i64;have Dj:Sl Ix 66 12 n0 y.ts (.slice P1.EC P1.nt P1.ct) P1.mt:=AH.st;have xT:P1.nt=y.ts.length:=AH.nt;have Vf:Sl fU 41 1 n0 y.g (.slice P1.ax P1.nx P1.cx) P1.mx:=AH.sx;have ak4:=AH.nx;have afk:y.g.length=64:=AH.gl;have Vm:0≤(y.ts.getD t default).pc∧(y.ts.getD t default).pc≤((k+2560:Nat):Int):=(iR.tb t ht).pc;refine c9 ?_;refine LM.rd (aE (j:=4) aB ir Tryz.isAgg3 rfl rfl (by first|exact bI om|exact aO default cK) rfl (by rfl)) ?_;refine J3 ?_;refine LM.fR (s7 (gT y t)) (j:=4) aB ir Tryz.sizeOf3 rfl rfl rfl (by first|exact bI om|exact aO default cK) rfl (by decide) (by rfl) rfl (au aB) (fun jh cG cY=>?_)
  try rw [List.set_set] at cG
  have HE:=cn cY aB;refine gy ?_;refine LM.fR (0#64) (j:=0) aB ir Tryz.sizeOf41 rfl rfl rfl (by first|exact bI om|exact aO 0#64 cK) rfl (by decide) (by rfl) rfl (au aB) (fun j5 e9 ik=>?_)
  try rw [List.set_set] at e9
  have IG:=cn ik aB;refine J4 ?_;have xy:eF n0 b s (dO (bO (bn (bt y l (fY (gL y l) t)) 8 t l 10) t) t) (aA b s x.now {P1 with mt:=jh,mx:=j5}):=gm.m (hn:=lY) {AH with nt:=(by show _=(y.ts.set t _).length;rw [List.length_set];exact xT),st:=cG,gl:=(by show (y.g.set t _).length=64;rw [List.length_set];exact afk),sx:=e9};have q8:=(hIp.inc (t:=t) ht).cut (t:=t) (by show t<(y.ts.set _ _).length;rw [List.length_set];exact ht);have Wp:t<(dO (bO (bn (bt y l (fY (gL y l) t)) 8 t l 10) t) t).ts.length:=(by show t<(y.ts.set _ _).length;rw [List.length_set];exact ht)
  refine J2 ?_;refine cU Tryz.func60 rfl (fun w hm hc hg=>qH t w xy Wp q8.vl (by have:=q8.ev;omega) (Nat.le_trans cm hc.size) (hm.pick _)) xy.bE (au aQ) ?_;rintro u87 m87 ⟨rfl,h87⟩ XJ;have i87:de (aA b s x.now P) w.heap.size m87:=ar aQ XJ;refine J6 ?_;refine cU Tryz.func62 rfl (fun w hm hc hg=>mW (l:=l) w h87 (q8.Ea Wp) om (by show l<(y.lk.set _ _).length;rw [List.length_set];exact iF) (fun u hu=>by show kI ((y.ts.set _ _).set _ _).length u;rw [List.length_set,List.length_set];exact hL.i.qk t u hu) (Nat.le_trans (ra ..) hL.w.w8) rfl ew (Nat.le_trans cm hc.size) (sm hm)) h87.bE (au i87) ?_;rintro u91 m91 ⟨rfl,N4⟩ Lj;obtain ⟨P2,DM,N4⟩:=N4;rw [(db ..).2.2.2,show (ft (dO (bO (bn (bt y l (fY (gL y l) t)) 8 t l 10) t) t) t).now=x.now from lY] at DM;subst DM;have i91:=ar i87 Lj;refine J8 ?_;refine aK (i+1,pG y t,P2) ?_ ?_
  · exact⟨by omega,by rw [bR 0 om,wF,←hy,yp],by rw [hfi];exact N4,i91⟩
  · (dsimp only;omega)
 have er:i=(oz x).length:=om;subst er;rw [List.take_length] at hy;refine J7 ?_;refine cU Tryz.func31 rfl (fun w hm hc hg=>j2 w qd iR (Nat.le_trans cm hc.size) (hm.pick _)) qd.bE (au yD) ?_;rintro u93 m93 ⟨rfl,h93⟩ Zw;refine J1 ?_;refine QM.leave (.inr rfl) [] Tryz.results26 rfl ?_;intro w' aj aa az;exact aY (m':=m93) ⟨rfl,by rw [show wc x=kh y by rw [hy];rfl];exact h93⟩ aj aN aa (ar yD Zw)
end Go.Eng
namespace Go.Eng
open Go Go.RowKit
theorem JI {L:bf} {t u:Int} (h:u∈eC L t):bu L t=true∧∃w∈L.wt,w.who=u:=by
  unfold eC at h;split at h
  · next e=>
    unfold jd at h;split at h
    · cases h
    · obtain ⟨w,hw,e2,_⟩:=r5 h;exact⟨e.1,w,hw,e2⟩
  · cases h
theorem FG {L:bf} (hL:p8 L) {t u:Int} (h:u∈eC L t):u≠t:=by
  obtain ⟨h1,w,hw,rfl⟩:=JI h;obtain ⟨g,hg,e⟩:=List.any_eq_true.1 h1;exact fun q=>hL.dj w hw g hg (q.trans (of_decide_eq_true e).symm)
theorem Yu {x:aG} {i j:Nat} (h:i≠j) (y:iQ):gT (dH x i y) j=gT x j:=by
  show (x.ts.set i y).getD j default=_
  rw [List.getD_eq_getElem?_getD,List.getElem?_set,if_neg h,←List.getD_eq_getElem?_getD]
theorem K5 (l:Nat) (x:aG) {u:Int} {t:Nat} (h:u.toNat≠t):gT (qA l x u) t=gT x t:=by
  show ((x.ts.set u.toNat _).set u.toNat _).getD t default=_
  rw [List.set_set];exact Yu (x:=x) h _
theorem wh (l:Nat) {t:Nat} :∀(to:List Int) (x:aG),(∀u∈to,u.toNat≠t)→gT (p7 l x to) t=gT x t
  | [],x,_=>rfl
  |u::to,x,h=>by
    have ih:=wh l to (qA l x u) (fun v hv=>h v (List.mem_cons_of_mem _ hv))
    unfold p7 at ih ⊢
    rw [List.foldl_cons,ih,K5 l x (h u (List.mem_cons_self ..))]
theorem Z8 {x:aG} {t:Nat} (ht:t<x.ts.length):gT (bO x t) t=s7 (gT x t):=(gq ht _ t).trans (if_pos rfl)
theorem CB (l:Nat) {b:Int} :∀(to:List Int) (x:aG),bS x.cs b<x.cs.length→bS (p7 l x to).cs b<(p7 l x to).cs.length
  | [],x,h=>h
  |u::to,x,h=>by
    have ih:=CB l (b:=b) to (qA l x u) (Br _ _ _ _ h)
    unfold p7 at ih ⊢
    rw [List.foldl_cons];exact ih
theorem Jj {k:Nat} {x:aG} (h:MI k x) {t c:Nat} (ht:t<x.ts.length) {o:cZ} (ho:QF x.s o) (hf:(eY x t c o).2=false):
    eJ o.k=false∧∃v,(eY x t c o).1=bO v t∧(gT v t).pr=(gT x t).pr∧(gT v t).pc=(gT x t).pc∧v.s=x.s∧x.ts.length≤v.ts.length∧(bS x.cs t<x.cs.length→bS v.cs t<v.cs.length):=by
  have hk:=ho.k
  have hp:¬(o.k=1∨o.k=7∨o.k=8∨o.k=11):=fun q=>by
    rcases q with e|e|e|e
    · rw [WM e] at hf;cases hf
    · rw [Wl e] at hf;cases hf
    · rw [Zj e] at hf;cases hf
    · rw [Je e] at hf;cases hf
  refine ⟨by unfold eJ;rw [decide_eq_false om,decide_eq_false om,decide_eq_false om,decide_eq_false om];rfl,?_⟩
  by_cases sz:2≤o.k∧o.k≤5
  · have hl:=ho.l ⟨sz.1,by omega⟩
    obtain ⟨l,gz⟩:∃l:Nat,o.a=(l:Nat):=⟨o.a.toNat,(Int.toNat_of_nonneg hl.1).symm⟩
    rw [Cw sz] at hf ⊢
    by_cases he:dx (gL x l) t (tq x t l o)=0
    · rw [IZ gz he];exact⟨_,rfl,rfl,rfl,rfl,Nat.le_refl _,id⟩
    · by_cases h2:nE x t o≠0
      · rw [LS gz he h2];exact⟨_,rfl,rfl,rfl,rfl,Nat.le_refl _,id⟩
      · rw [HF gz he h2] at hf;cases hf
  by_cases h6:o.k=6
  · have hl:=ho.l om
    by_cases he:nF (gL x o.a.toNat) t≠0
    · rw [LY h6 he];exact⟨_,rfl,rfl,rfl,rfl,Nat.le_refl _,id⟩
    · have hL:=h.li o.a.toNat (by have:=h.ll;omega)
      have fi:∀u∈eC (gL x o.a.toNat) t,u.toNat≠t:=fun u hu q=>by
        have h1:=FG hL.w.top8 hu;have h2:=hL.i.eC t u hu
        unfold kI at h2;omega
      have hg:=wh o.a.toNat (eC (gL x o.a.toNat) t) (bn (bt x o.a.toNat (eQ (gL x o.a.toNat) t)) 5 t o.a 0) fi;have hs:=db o.a.toNat (bn (bt x o.a.toNat (eQ (gL x o.a.toNat) t)) 5 t o.a 0) (eC (gL x o.a.toNat) t);rw [Nf h6 he];refine ⟨_,rfl,by rw [show gT (dX _ _ _) t=gT (p7 _ _ _) t from rfl,hg];rfl,by rw [show gT (dX _ _ _) t=gT (p7 _ _ _) t from rfl,hg];rfl,hs.2.2.1,by rw [hs.1];exact Nat.le_refl _,fun q=>CB o.a.toNat _ _ q⟩
  by_cases h9:o.k=9
  · rw [V0 h9]
    refine ⟨_,rfl,?_⟩
    split
    · have e:gT (pL x o.a (gT x t).gr (gT x t).we c) t=gT x t:=by
        show (x.ts++ [_]).getD t default=_
        rw [List.getD_eq_getElem?_getD,List.getElem?_append_left ht,←List.getD_eq_getElem?_getD]
      exact⟨by rw [e],by rw [e],rfl,by show _≤(x.ts++ [_]).length;rw [List.length_append];omega,fun q=>Br _ _ _ _ q⟩
    · exact⟨rfl,rfl,rfl,Nat.le_refl _,id⟩
  have gh:o.k=10:=by omega
  rw [JP gh];have e:gT (dH x t {gT x t with we:=o.a}) t= {gT x t with we:=o.a} :=(gq ht _ t).trans (if_pos rfl);exact⟨_,rfl,by show (gT (dH x t _) t).pr=_;rw [e],by show (gT (dH x t _) t).pc=_;rw [e],rfl,by show _≤(x.ts.set _ _).length;rw [List.length_set];exact Nat.le_refl _,id⟩
theorem MI.eY {k:Nat} {x:aG} (h:MI k x) {t c:Nat} (ht:t<x.ts.length) (hc:c<x.cs.length) (Wn:bS x.cs t<x.cs.length) {o:cZ} (ho:QF x.s o):MI (k+300) (eY x t c o).1:=by
  have hk:=ho.k;have q:=h.tb t ht
  by_cases h1:o.k=1
  · rw [WM h1];exact(h.cmp ht (ho.c h1)).mono om
  by_cases sz:2≤o.k∧o.k≤5
  · rw [Cw sz];exact(h.tak ht (by have:=ho.l ⟨sz.1,by omega⟩;have:=h.ll;omega)).mono om
  by_cases h6:o.k=6
  · have hl:=ho.l om
    have hL:=h.li o.a.toNat (by have:=h.ll;omega)
    by_cases he:nF (gL x o.a.toNat) t≠0
    · rw [LY h6 he];exact((h.kt _ _ _ _).inc (t:=t) ht).mono om
    · rw [Nf h6 he]
      have hs:=db o.a.toNat (bn (Go.Eng.bt x o.a.toNat (eQ (gL x o.a.toNat) t)) 5 t o.a 0) (eC (gL x o.a.toNat) t);exact((((h.bt (l:=o.a.toNat) (hL.BD t)).kt 5 t o.a 0).sX o.a.toNat (hL.i.eC t) (Nat.le_trans (nV ..) hL.w.w8)).inc (t:=t) (by rw [hs.1];exact ht)).mono om
  by_cases h7:o.k=7
  · rw [Wl h7]
    exact(((h.kt 9 t (-1) o.a).qut t).mono (show k+1≤k+2 by omega)).upQ (t:=t) ht (y:= {gT x t with st:=3,un:=x.now+BitVec.ofInt 64 o.a,pc:=(gT x t).pc+1}) ⟨q.pr,by have:=q.pc;show 0≤(gT x t).pc+1∧(gT x t).pc+1≤_;omega,q.lf,by have:=q.ti;show 0≤(gT x t).ti∧(gT x t).ti≤_;omega,fun e=>(by cases e),fun _=> .inl rfl⟩ (fun c hc hk=>absurd rfl (rX h.ci.wf (by rw [←pg x.cs t];exact hc) hk).2) |>.mono om
  by_cases h8:o.k=8
  · rw [Zj h8]
    have hu:(gT x t).un=0#64:=h.iq _ Wn t (dz Wn);exact(((h.kt 10 t (-1) c).back hc).mono (show k+1≤k+2 by omega)).up (t:=t) ht (y:= {gT x t with st:=1,pc:=(gT x t).pc+1}) ⟨q.pr,by have:=q.pc;show 0≤(gT x t).pc+1∧(gT x t).pc+1≤_;omega,q.lf,by have:=q.ti;show 0≤(gT x t).ti∧(gT x t).ti≤_;omega,fun e=>(by cases e),fun e=>absurd hu e⟩ (.inr rfl) |>.mono om
  by_cases h9:o.k=9
  · rw [V0 h9]
    split
    · next e=>
      unfold je at e;simp only [Bool.and_eq_true,decide_eq_true_eq] at e
      exact((h.NR _ _ _ _ (ho.p h9) e.2).inc (t:=t) (by show t<(x.ts++ [_]).length;rw [List.length_append];omega)).mono om
    · exact((h.kt _ _ _ _).inc (t:=t) ht).mono om
  by_cases gh:o.k=10
  · rw [JP gh]
    exact(((h.up ht (y:= {gT x t with we:=o.a}) ⟨q.pr,q.pc,q.lf,q.ti,q.l4,q.un⟩).kt 14 t (-1) o.a).inc (t:=t) (by show t<(x.ts.set _ _).length;rw [List.length_set];exact ht)).mono om
  · rw [Je om];exact(h.die ht).mono om
theorem Jr {xs:List cZ} {ls:List jv} {cb:Int} (h:(CX true xs ls cb).2=0):xs.any (fun o=>eJ o.k)=true:=by
  unfold CX at h
  split at h
  · split at h
    · rename_i i hi
      have:=List.find?_some hi;simp only [decide_eq_true_eq] at this;exact absurd h this
    · split at h
      · cases h
      · rename_i hq
        simpa using hq
  · cases h
def HP (x:aG) (t:Nat):Nat:=(if ((kT x t).xs.drop (gT x t).pc.toNat).any (fun o=>eJ o.k)=true then 0 else (kT x t).xs.length+1)+((kT x t).xs.length-(gT x t).pc.toNat)
theorem MI.WL {k:Nat} {x:aG} (h:MI k x) {t c:Nat} (ht:t<x.ts.length) (hc:c<x.cs.length) (Wn:bS x.cs t<x.cs.length):MI (k+300) (fy x t c).1:=by
  obtain ⟨z,hz⟩:=Rx (x:=x) ht
  by_cases hd:((kT x t).xs.length:Int)≤(gT x t).pc∧(kT x t).fv=false
  · rw [uU hd.1 hd.2];exact(h.die ht).mono om
  · have HK:=Gg h ht
    have xZ:=h.op ht HK.1;rw [hz,gq ht,if_pos rfl] at xZ;rw [EB hd ht hz rfl];have h1:=h.kV ht;rw [hz] at h1;exact h1.eY (by rw [bA];exact ht) hc Wn xZ
theorem sI {k:Nat} {x:aG} (h:MI k x) {t c:Nat} (ht:t<x.ts.length) (Wn:bS x.cs t<x.cs.length) (hf:(fy x t c).2=false):
    HP (fy x t c).1 t<HP x t∧t<(fy x t c).1.ts.length∧bS (fy x t c).1.cs t<(fy x t c).1.cs.length∧(fy x t c).1.s=x.s:=by
  obtain ⟨z,hz⟩:=Rx (x:=x) ht
  by_cases hd:((kT x t).xs.length:Int)≤(gT x t).pc∧(kT x t).fv=false
  · rw [uU hd.1 hd.2] at hf;cases hf
  have HK:=Gg h ht;have xZ:=h.op ht HK.1;have R0:=UY (x:=x) ht;have Vm:=(h.tb t ht).pc;have h1:=h.kV ht;rw [hz] at h1 xZ HK R0;rw [gq ht,if_pos rfl] at xZ HK;rw [EB hd ht hz rfl] at hf ⊢;obtain ⟨hp,v,e,e1,e2,e3,e4,e5⟩:=Jj h1 (t:=t) (c:=c) (by rw [bA];exact ht) xZ hf;have htv:t<v.ts.length:=Nat.lt_of_lt_of_le (by rw [bA];exact ht) e4;have Ck:gT (bO v t) t=s7 (gT v t):=Z8 htv
  have hpv:kT (bO v t) t=kT x t:=by
    unfold kT;rw [Ck,show (s7 (gT v t)).pr=(gT v t).pr from rfl,e1,show (bO v t).s=x.s from e3];exact R0
  have hzz:(gT (dH x t z) t).pc=z.pc:=by rw [gq ht,if_pos rfl]
  rw [e];refine ⟨?_,by rw [show (bO v t).ts.length=v.ts.length from bA ..];exact htv,e5 Wn,e3⟩;have aer:(gT (bO v t) t).pc.toNat=z.pc.toNat+1:=by rw [Ck,show (s7 (gT v t)).pc=(gT v t).pc+1 from rfl,e2,hzz];omega
  unfold HP
  rw [hpv,aer]
  generalize NL:(kT x t).xs=xs at*
  have Jm:xs.drop z.pc.toNat=xs.getD z.pc.toNat default::xs.drop (z.pc.toNat+1):=by
    rw [List.drop_eq_getElem_cons HK.1];congr 1;rw [List.getD_eq_getElem?_getD,List.getElem?_eq_getElem HK.1];rfl
  have aaR:(xs.drop z.pc.toNat).any (fun o=>eJ o.k)=(xs.drop (z.pc.toNat+1)).any (fun o=>eJ o.k):=by rw [Jm,List.any_cons,hp,Bool.false_or]
  by_cases Fl:(xs.length:Int)≤(gT x t).pc
  · have hfv:(kT x t).fv=true:=by
      cases hb:(kT x t).fv with
      |true=>rfl
      |false=>exact absurd ⟨Fl,hb⟩ hd
    have hz0:z.pc=0:=by
      have:=hz;unfold kV at this;rw [NL,if_pos Fl] at this;have q:=congrArg (fun y=>(gT y t).pc) this;simp only at q;rw [gq ht,gq ht,if_pos rfl,if_pos rfl] at q;exact q.symm
    have hpr:=(h.tb t ht).pr;have Rh:=(jK h.ms).2.2 (kT x t) (List.mem_of_getElem? (aO default (show (gT x t).pr.toNat<x.s.ps.length by omega)))
    have hpa:xs.any (fun o=>eJ o.k)=true:=by
      rw [hfv,NL] at Rh;exact Jr Rh
    have hA:((xs.drop (z.pc.toNat+1)).any (fun o=>eJ o.k))=true:=by rw [←aaR,hz0];exact hpa
    have hB:¬((xs.drop (gT x t).pc.toNat).any (fun o=>eJ o.k))=true:=by rw [List.drop_of_length_le om];simp
    rw [if_pos hA,if_neg hB];omega
  · have hzp:z.pc=(gT x t).pc:=by
      have:=hz;unfold kV at this;rw [NL,if_neg Fl] at this;have q:=congrArg (fun y=>(gT y t).pc) this;rw [gq ht,if_pos rfl] at q;exact q.symm
    rw [←hzp,aaR];omega
theorem MI.cur {k:Nat} {x:aG} (h:MI k x) {c:Nat} (hc:c<x.cs.length) (h0:0≤(qg x.cs c).cur):cA (qg x.cs c) (qg x.cs c).cur∧(qg x.cs c).cur.toNat<x.ts.length∧(((qg x.cs c).cur.toNat:Nat):Int)=(qg x.cs c).cur:=by
  have hk:=(h.ci.wf.wf c hc).ix h0;have:=h.ci.id c hc _ hk;exact⟨hk,by omega,by omega⟩
theorem u9 {q:Qm} (h:HL q=true):0≤q.cur:=by
  unfold HL at h;split at h
  · next e=>exact e.1
  · cases h
theorem zd {q:Qm} (hw:mT q) (h:q.cur<0) (hl:0<q.l.length):0≤gg q∧cA q (gg q)∧rS q=ns q (gg q):=by
  have hc:=hw.Om om;cases e:eD q with
  |nil=>
    have:=(Jh hw om).1 e;rw [this] at hl;cases hl
  |cons t l=>
    obtain ⟨e1,e2⟩:=sW hw hc e;have ht:=(jJ hw e).1;rw [e1];exact⟨hw.pos t ht,iT.2 ⟨t,ht,rfl⟩,by rw [e2]⟩
section
variable {k:Nat} {x:aG} (h:MI k x) {c:Nat} (hc:c<x.cs.length)
include h hc
theorem MI.tsk {q:Qm} {a:Int} (ha:cA (qg x.cs c) a) {y:iQ} (hq:CI x.ts.length k (x.cs.set c q)) (he:q.l.map (·.id)=(qg x.cs c).l.map (·.id)) (hy:xB x.s k y) (hu:y.un=(gT x a.toNat).un):MI k (dH (iK x c q) a.toNat y):=by
  have hid:=h.ci.id c hc a ha;have h0:=(h.ci.wf.wf c hc).pos _ (eE ha).1;rw [(eE ha).2] at h0;have h1:MI k (iK x c q):=h.FT hq (List.length_set ..) (fun d hd b hb=> .inl ⟨d,hd,jQ hc he hb⟩);exact h1.up (t:=a.toNat) (by show a.toNat<x.ts.length;omega) hy (.inr hu)
theorem xB.R4 {s:jy} {t:iQ} (q:xB s k t) (hu:t.un=0#64) {v:Int} (hv:v≠4):xB s k {t with st:=v} :=⟨q.pr,q.pc,q.lf,q.ti,fun e=>absurd e hv,fun e=>absurd hu e⟩
theorem MI.xE:MI (k+1) (xE x c):=by
  unfold Go.Eng.xE;split
  · next e=>
    obtain ⟨h1,h2,h3⟩:=h.cur hc (u9 e);exact(h.tsk hc h1 (h.ci.back hc) rfl (y:= {gT x (qg x.cs c).cur.toNat with st:=1}) (xB.R4 h hc (h.tb _ h2) (h.iq c hc _ h1) (by decide)) rfl).kt _ _ _ _
  · exact h.mono (Nat.le_succ _)
theorem MI.xe:MI (k+1) (xe x c):=by
  unfold Go.Eng.xe;split
  · next e=>
    obtain ⟨h0,h1,h2⟩:=zd (h.ci.wf.wf c hc) e.1 e.2;have hid:=h.ci.id c hc _ h1;exact(h.tsk hc h1 (h.ci.pik hc) (by rw [h2];rfl) (y:= {gT x (gg (qg x.cs c)).toNat with st:=2}) (xB.R4 h hc (h.tb _ om) (h.iq c hc _ h1) (by decide)) rfl).kt _ _ _ _
  · exact h.mono (Nat.le_succ _)
end
theorem MI.run {t c:Nat} :∀{f k:Nat} {x:aG},MI k x→t<x.ts.length→c<x.s.cr.toNat→bS x.cs t<x.cs.length→MI (k+300*f) (pK t c f x)
  |0,k,x,h,_,_,_=>h
  |f+1,k,x,h,ht,hc,hq=>by
    have uT:c<x.cs.length:=by have:=h.ce;omega
    have h1:=h.WL ht uT hq
    unfold pK
    split
    · exact h1.mono om
    · next e=>
      obtain ⟨e1,e2,e3,e4⟩:=sI h ht hq (c:=c) (by simpa using e);exact(MI.run h1 e2 (by rw [e4];exact hc) e3).mono om
theorem TD {t c:Nat} {f:Nat} {x:aG} (hf:(fy x t c).2=true):pK t c (f+1) x=(fy x t c).1:=if_pos hf
theorem Sm {t c:Nat} {f:Nat} {x:aG} (hf:¬(fy x t c).2=true):pK t c (f+1) x=pK t c f (fy x t c).1:=if_neg hf
theorem Qp {k:Nat} {x:aG} (h:MI k x) {t:Nat} (ht:t<x.ts.length):HP x t<64:=by
  have hp:=(h.tb t ht).pr;have hl:=BN h.ms (p:=kT x t) (List.mem_of_getElem? (aO default (show (gT x t).pr.toNat<x.s.ps.length by omega)))
  unfold HP;split<;>omega
theorem ZU (x:aG) (t:Nat) (o:cZ):(nK x t o).1.s=x.s:=by unfold nK;split;rfl;split;rfl;rfl
theorem XP (x:aG) (t:Nat) (a:Int):(qw x t a).s=x.s:=by unfold qw;split<;>rfl
theorem UZ {x:aG} {t c:Nat} {o:cZ} :(eY x t c o).1.s=x.s:=by
  unfold eY
  split
  · exact XP ..
  split
  · exact ZU ..
  split
  · split
    · rfl
    · exact(db o.a.toNat (bn (bt x o.a.toNat (eQ (gL x o.a.toNat) t)) 5 t o.a 0) (eC (gL x o.a.toNat) t)).2.2.1
  split
  · rfl
  split
  · rfl
  split
  · show (if _ then _ else _:aG).s=_;split<;>rfl
  split
  · rfl
  split
  · exact(oP x t).2.2.1
  · rfl
theorem RI (x:aG) (t c:Nat):(fy x t c).1.s=x.s:=by
  unfold fy;split
  · exact(oP x t).2.2.1
  · exact UZ.trans (Ap).2.2.1
theorem Rl (t c:Nat):∀(f:Nat) (x:aG),(pK t c f x).s=x.s
  |0,x=>rfl
  |f+1,x=>by unfold pK;split;exact RI x t c;exact(Rl t c f _).trans (RI x t c)
theorem yG (x:aG) (c:Nat):(xE x c).s=x.s:=by unfold xE;split<;>rfl
theorem Fu (x:aG) (c:Nat):(xe x c).s=x.s:=by unfold xe;split<;>rfl
theorem YC (x:aG) (c:Nat):(uS x c).s=x.s:=by
  unfold uS;split
  · rfl
  · exact Rl _ _ _ _
def Di (x:aG) (c:Nat):aG:=dH (iK x c (fF (qg x.cs c))) (qg x.cs c).cur.toNat {gT x (qg x.cs c).cur.toNat with ti:=(gT x (qg x.cs c).cur.toNat).ti+1}
theorem MI.Di {k:Nat} {x:aG} (h:MI k x) {c:Nat} (hc:c<x.cs.length) (h0:0≤(qg x.cs c).cur):MI (k+1) (Di x c)∧(qg x.cs c).cur.toNat<(Go.Eng.Di x c).ts.length∧bS (Go.Eng.Di x c).cs (qg x.cs c).cur.toNat<(Go.Eng.Di x c).cs.length:=by
  obtain ⟨h1,h2,h3⟩:=h.cur hc h0
  have hid:(fF (qg x.cs c)).l.map (·.id)=(qg x.cs c).l.map (·.id):=by
    unfold fF;rw [if_pos h0];exact iu h1 (ju h1).1
  have h':=h.mono (Nat.le_succ k);have q:=h.tb _ h2;refine ⟨h'.tsk hc h1 (h.ci.tick hc) hid ⟨q.pr,by have:=q.pc;show 0≤(gT x _).pc∧(gT x _).pc≤_;omega,q.lf,by have:=q.ti;show 0≤(gT x _).ti+1∧(gT x _).ti+1≤_;omega,q.l4,q.un⟩ rfl,by show _<(x.ts.set _ _).length;rw [List.length_set];exact h2,?_⟩;refine Classical.byContradiction fun n=>?_;have jg:c<(Go.Eng.Di x c).cs.length:=by show c<(x.cs.set _ _).length;rw [List.length_set];exact hc
  refine vH n jg ?_
  show cA (qg (x.cs.set c _) c) _
  rw [bN hc,if_pos rfl,h3];exact(pD hid _).2 h1
theorem MI.uS {k:Nat} {x:aG} (h:MI k x) {c:Nat} (hc:c<x.cs.length):MI (k+19300) (uS x c):=by
  unfold Go.Eng.uS;split
  · have h':=h.mono (show k≤k+19300 by omega)
    exact {h' with
      il:=by show (x.idle.set _ _).length=_;rw [List.length_set];exact h.il
      ib:=fun n hn=>by
        rcases List.mem_or_eq_of_mem_set hn with q|rfl
        · exact h'.ib n q
        · have:=h.ib _ (List.mem_of_getElem? (aO 0 (show c<x.idle.length by rw [h.il];exact hc)))
          omega}
  · next e=>
    obtain ⟨h1,h2,h3⟩:=h.Di hc om;exact(MI.run h1 h2 (by have:=h.ce;show c<x.s.cr.toNat;omega) h3).mono om
theorem MI.XC {k:Nat} {x:aG} (h:MI k x) {c:Nat} (hc:c<x.cs.length):MI (k+19400) (um x c):=by
  have h0:MI k {x with now:=x.now+1#64} := {h with}
  have hl:∀y:aG,∀j,MI j y→y.s=x.s→c<y.cs.length:=fun y j hy e=>by have h1:=hy.ce;have h2:=h.ce;rw [e] at h1;omega
  have h1:=h0.xE hc;have h2:=h1.xe (c:=c) (hl _ _ h1 (yG ..));have h3:=h2.uS (c:=c) (hl _ _ h2 ((Fu ..).trans (yG ..)));exact(h3.mono om).Ml
theorem ON (x:aG) (t:Nat) (o:cZ):(nK x t o).1.now=x.now:=by unfold nK;split;rfl;split;rfl;rfl
theorem Pj (x:aG) (t:Nat) (a:Int):(qw x t a).now=x.now:=by unfold qw;split<;>rfl
theorem JJ {x:aG} {t c:Nat} {o:cZ} :(eY x t c o).1.now=x.now:=by
  unfold eY
  split
  · exact Pj ..
  split
  · exact ON ..
  split
  · split
    · rfl
    · exact(db o.a.toNat (bn (bt x o.a.toNat (eQ (gL x o.a.toNat) t)) 5 t o.a 0) (eC (gL x o.a.toNat) t)).2.2.2
  split
  · rfl
  split
  · rfl
  split
  · show (if _ then _ else _:aG).now=_;split<;>rfl
  split
  · rfl
  split
  · exact(oP x t).2.2.2
  · rfl
theorem uG (x:aG) (t c:Nat):(fy x t c).1.now=x.now:=by
  unfold fy;split
  · exact(oP x t).2.2.2
  · exact JJ.trans (Ap).2.2.2.1
theorem Rb (x:aG):(kh x).s=x.s:=(jF x).2.2.1
theorem ZH (x:aG) (c:Nat):(um x c).s=x.s:=(Rb _).trans ((YC ..).trans ((Fu ..).trans (yG ..)))
theorem r9 (x:aG) (n:Nat):xU x (n+1)=um (xU x n) n:=by unfold xU;rw [List.range_succ,List.foldl_append];rfl
theorem AO (x:aG):∀n,(xU x n).s=x.s
  |0=>rfl
  |n+1=>by rw [r9];exact(ZH ..).trans (AO x n)
theorem MI.len {k:Nat} {x:aG} (h:MI k x):x.cs.length=x.s.cr.toNat∧x.cs.length≤4:=⟨by have:=h.ce;omega,h.ci.wf.len.2⟩
theorem MI.R5 {k:Nat} {x:aG} (h:MI k x):∀{n:Nat},n≤x.s.cr.toNat→MI (k+19400*n) (xU x n)
  |0,_=>h
  |n+1,hn=>by
    have h1:=h.R5 (n:=n) om;rw [r9];exact(h1.XC (by rw [h1.len.1,AO];omega)).mono om
theorem Xh (x:aG):(wc x).s=x.s:=(Rb _).trans (rD ..).2.2.1
theorem MI.rou {k:Nat} {x:aG} (h:MI k x):MI (k+100000) (BL x):=by
  have h4:=h.len;exact((h.R5 (Nat.le_refl _)).Zx).mono om
theorem Yj (x:aG):(BL x).s=x.s:=(Xh _).trans (AO ..)
theorem Ep (x:aG):∀n,(xK x n).s=x.s
  |0=>rfl
  |n+1=>(Yj _).trans (Ep x n)
theorem MI.BO {k:Nat} {x:aG} (h:MI k x):∀n,MI (k+100000*n) (xK x n)
  |0=>h
  |n+1=>((h.BO n).rou).mono om
theorem MI.ids {k:Nat} {x:aG} (h:MI k x) {a:Int} (ha:bS x.cs a<x.cs.length):0≤a∧a.toNat<x.ts.length:=by
  have h0:=h.ci.wf.pos ha;have:=h.ci.id _ ha a (dz ha);exact⟨h0,by omega⟩
theorem Fo {cs:List Qm} {co a:Int} (h:fc cs co a=0):bS cs a<cs.length∧co.toNat<cs.length∧0≤co∧co.toNat≠bS cs a∧(co.toNat:Int)=co:=by
  unfold fc at h
  split at h
  · cases h
  split at h
  · cases h
  split at h
  · cases h
  exact⟨by omega,by omega,by omega,by omega,by omega⟩
theorem MI.mov {k:Nat} {x:aG} (h:MI k x) (co a:Int):MI k {x with cs:=jW x.cs co a} :=by
  refine h.FT (h.ci.mov co a) (PR ..) (fun c hc b hb=> .inl ?_)
  unfold jW at hb;split at hb
  · next e=>
    obtain ⟨h1,h2,h3,h4,h5⟩:=Fo e;exact A9 h.ci.wf h1 h2 h4 hc hb
  · exact⟨c,hc,hb⟩
theorem MI.XZ {k:Nat} {x:aG} (h:MI k x):MI k {x with cs:=jY x.cs} :=by
  refine h.FT h.ci.XZ (P4 ..) (fun c hc b hb=> .inl ?_)
  unfold jY at hb;split at hb
  · exact⟨c,hc,hb⟩
  · next t e=>
    obtain ⟨h1,h2,h3,h4,h5,h6,h7⟩:=lg h.ci.wf e;exact A9 h.ci.wf (by rw [h4];exact h5) h6 h7 hc hb
theorem LK {x:aG} {k:Nat} (h:MI k x) (hb:¬ja x.cs<0):(ja x.cs).toNat<x.ts.length∧0≤ja x.cs:=by
  unfold ja at hb ⊢;split at hb
  · exact absurd hb (by decide)
  · next t e=>
    obtain ⟨h1,h2,h3,h4,h5,h6,h7⟩:=lg h.ci.wf e;have:=h.ids (a:=t.id) (by rw [h4];exact h5);exact⟨this.2,this.1⟩
theorem MI.P7 {k:Nat} {x:aG} (h:MI k x) (g w:Int) (i:Nat):MI k {x with gp:=x.gp.set i w,lk:=x.lk.map (fun L=>iL L g w)} :=
  {h with
    gn:=by show (x.gp.set _ _).length=_;rw [List.length_set];exact h.gn
    ll:=by show (x.lk.map _).length=_;rw [List.length_map];exact h.ll
    li:=fun l hl=>by
      have kN:l<x.lk.length:=by have q:=hl;rw [show ({x with gp:=x.gp.set i w,lk:=x.lk.map (fun L=>iL L g w)} :aG).lk.length=x.lk.length from List.length_map ..] at q;exact q
      show LI _ k ((x.lk.map _).getD l default)
      have:=(h.li l kN).P7 g w
      unfold gL at this
      rw [List.getD_eq_getElem?_getD,List.getElem?_eq_getElem kN] at this;rw [List.getD_eq_getElem?_getD,List.getElem?_map,List.getElem?_eq_getElem kN];exact this}
theorem MI.mdo {k:Nat} {x:aG} (h:MI k x) (a:Act):MI (k+30000000) (j7 x a):=by
  unfold j7
  split
  · exact h.mono om
  next he=>
  have he:dA x a=0:=Classical.byContradiction he
  unfold dA at he
  split at he
  · cases he
  split
  · next e=>
    rw [if_pos e] at he
    split at he
    · cases he
    · exact(h.XC (c:=a.a.toNat) (by have:=h.ce;omega)).mono om
  next e1=>
  rw [if_neg e1] at he
  split
  · exact h.Zx.mono om
  next e2=>
  rw [if_neg e2] at he
  split
  · next e=>
    rw [if_pos e] at he
    split at he
    · cases he
    · next hb=>exact(h.XZ.mvd (LK h hb).1 _).mono om
  next e3=>
  rw [if_neg e3] at he
  split
  · next e=>
    rw [if_pos e] at he
    split at he
    · cases he
    split at he
    · next hr=>
      unfold je at hr;simp only [Bool.and_eq_true,decide_eq_true_eq] at hr
      exact(h.NR _ _ _ _ om hr.2).Ml.mono om
    · cases he
  next e4=>
  rw [if_neg e4] at he
  split
  · next e=>
    rw [if_pos e] at he
    split at he
    · cases he
    · exact((h.die (t:=a.a.toNat) om).Ml).mono om
  next e5=>
  rw [if_neg e5] at he
  split
  · exact(h.P7 _ _ _).mono om
  next e6=>
  rw [if_neg e6] at he
  split
  · next e=>
    rw [if_pos e] at he;obtain ⟨h1,h2,h3,h4,h5⟩:=Fo he;exact((h.mov a.b a.a).mvd (h.ids h1).2 _).mono om
  next e7=>
  rw [if_neg e7] at he
  split at he
  · split at he
    · cases he
    · exact(h.BO a.a.toNat).mono om
  · cases he
theorem u1 {s:jy} (h:eu s=true):1≤s.cr∧s.cr≤4:=by
  unfold eu cD at h
  simp only [Bool.and_eq_true,decide_eq_true_eq] at h;exact h.1.1.1.1.1
theorem Gb {s:jy} (h:eu s=true):1≤s.gs.length∧s.gs.length≤4:=by
  unfold eu cD at h;simp only [Bool.and_eq_true,decide_eq_true_eq] at h;omega
theorem MI.new {s:jy} (h:eu s=true):MI 0 (fH s):=by
  have hc:=u1 h;have hl:(fG s.cr s.gr).length=s.cr.toNat:=by rw [eN];unfold aF;rw [if_neg om,if_neg om]
  refine ⟨h,by show ((fG s.cr s.gr).length:Int)=s.cr;rw [hl];omega,⟨BW _ _,fun c hc a ha=>?_,fun c hc=>?_⟩,by show (List.replicate _ _).length=(fG _ _).length;rw [List.length_replicate,hl],fun n hn=>?_,by show (s.ls.map _).length=s.ls.length;rw [List.length_map],fun l kN=>?_,⟨H8,KA⟩,Nat.zero_le _,rfl,fun t ht=>(by cases ht),rfl,Nat.le_refl _,fun c hc a ha=>?_⟩
  · exact absurd ha (by have Aq : c < (aF s.cr 1 4).toNat := by { rw [← eN s.cr s.gr]; exact hc }
                        show¬cA (qg (fG s.cr s.gr) c) a;rw [fG,s8 Aq];exact uX _ _)
  · have Aq:c<(aF s.cr 1 4).toNat:=by rw [←eN s.cr s.gr];exact hc
    show (qg (fG s.cr s.gr) c).c4≤_
    rw [fG,s8 Aq];show (0:Int)≤_;omega
  · have:=List.eq_of_mem_replicate hn;omega
  · have UM:l<s.ls.length:=by have q:=kN;rw [show (fH s).lk.length=s.ls.length from List.length_map ..] at q;exact q
    show LI 0 0 ((s.ls.map _).getD l default)
    rw [List.getD_eq_getElem?_getD,List.getElem?_map,List.getElem?_eq_getElem UM];exact⟨OW _ _,Qr _ _,⟨fun g hg=>(by cases hg),fun g hg=>(by cases hg)⟩⟩
  · exact absurd ha (by have Aq : c < (aF s.cr 1 4).toNat := by rw [← eN s.cr s.gr]; exact hc
                        show¬cA (qg (fG s.cr s.gr) c) a;rw [fG,s8 Aq];exact uX _ _)
/-! a deed, by kinds -/
theorem eU {x:aG} {a:Act} (h:dA x a≠0):j7 x a=x:=if_pos h
section
variable {x:aG} {a:Act} (hv:¬50000≤x.ev.length)
include hv
theorem Yt (h:a.k=1):dA x a=if a.a<0∨x.s.cr≤a.a then 1 else if 1048576≤x.now.toNat then 2 else 0:=by unfold dA;rw [if_neg hv,if_pos h]
theorem do2 (h:a.k=2):dA x a=0:=by unfold dA;rw [if_neg hv,if_neg om,if_pos h]
theorem do3 (h:a.k=3):dA x a=if ja x.cs<0 then 4 else 0:=by unfold dA;rw [if_neg hv,if_neg om,if_neg om,if_pos h]
theorem do4 (h:a.k=4):dA x a=if a.a<0∨(x.s.ps.length:Int)≤a.a∨a.b<0∨(x.gp.length:Int)≤a.b∨a.c<1∨16<a.c∨a.d<0∨x.s.cr≤a.d then 1 else if je x=true then 0 else 3:=by unfold dA;rw [if_neg hv,if_neg om,if_neg om,if_neg om,if_pos h]
theorem do5 (h:a.k=5):dA x a=if a.a<0∨(x.ts.length:Int)≤a.a then 4 else if (gT x a.a.toNat).st=5 then 11 else 0:=by unfold dA;rw [if_neg hv,if_neg om,if_neg om,if_neg om,if_neg om,if_pos h]
theorem do6 (h:a.k=6):dA x a=if a.a<0∨(x.gp.length:Int)≤a.a∨a.b<1∨16<a.b then 1 else 0:=by unfold dA;rw [if_neg hv,if_neg om,if_neg om,if_neg om,if_neg om,if_neg om,if_pos h]
theorem do7 (h:a.k=7):dA x a=fc x.cs a.b a.a:=by unfold dA;rw [if_neg hv,if_neg om,if_neg om,if_neg om,if_neg om,if_neg om,if_neg om,if_pos h]
theorem do8 (h:a.k=8):dA x a=if a.a<0∨200<a.a then 1 else if 1048576<(x.now+BitVec.ofInt 64 (a.a*x.s.cr)).toNat then 2 else 0:=by unfold dA;rw [if_neg hv,if_neg om,if_neg om,if_neg om,if_neg om,if_neg om,if_neg om,if_neg om,if_pos h]
theorem do0 (h:¬(1≤a.k∧a.k≤8)):dA x a=1:=by unfold dA;rw [if_neg hv,if_neg om,if_neg om,if_neg om,if_neg om,if_neg om,if_neg om,if_neg om,if_neg om]
end
section
variable {x:aG} {a:Act} (hE:dA x a=0)
include hE
theorem dx1 (h:a.k=1):j7 x a=um x a.a.toNat:=by unfold j7;rw [if_neg om,if_pos h]
theorem dx2 (h:a.k=2):j7 x a=wc x:=by unfold j7;rw [if_neg om,if_neg om,if_pos h]
theorem dx3 (h:a.k=3):j7 x a=sQ {x with cs:=jY x.cs} (ja x.cs).toNat (uw x.cs):=by unfold j7;rw [if_neg om,if_neg om,if_neg om,if_pos h]
theorem dx4 (h:a.k=4):j7 x a=kh (pL x a.a a.b a.c a.d):=by unfold j7;rw [if_neg om,if_neg om,if_neg om,if_neg om,if_pos h]
theorem dx5 (h:a.k=5):j7 x a=kh (kG x a.a.toNat):=by unfold j7;rw [if_neg om,if_neg om,if_neg om,if_neg om,if_neg om,if_pos h]
theorem dx6 (h:a.k=6):j7 x a= {x with gp:=x.gp.set a.a.toNat a.b,lk:=x.lk.map (fun L=>iL L a.a a.b)} :=by unfold j7;rw [if_neg om,if_neg om,if_neg om,if_neg om,if_neg om,if_neg om,if_pos h]
theorem dx7 (h:a.k=7):j7 x a=sQ {x with cs:=jW x.cs a.b a.a} a.a.toNat a.b:=by unfold j7;rw [if_neg om,if_neg om,if_neg om,if_neg om,if_neg om,if_neg om,if_neg om,if_pos h]
theorem dx8 (h:a.k=8):j7 x a=xK x a.a.toNat:=by unfold j7;rw [if_neg om,if_neg om,if_neg om,if_neg om,if_neg om,if_neg om,if_neg om,if_neg om]
end
theorem Jc {cs:List Qm} (h:su cs) (hb:ja cs<0):jY cs=cs:=by
  unfold ja at hb;unfold jY
  cases e:w5 cs with
  |none=>rfl
  |some t=>
    rw [e] at hb;obtain ⟨h1,h2,h3,h4,h5,h6,h7⟩:=lg h e;have:=(h.wf _ h5).pos t h1;have xr:t.id<0:=hb;omega
end Go.Eng
namespace Go.Eng
open Go Go.Proofs Go.RowKit
set_option maxHeartbeats 4000000 in
theorem wE {n0 b k c:Nat} {s:dm} {x:aG} {m:ab} (w:World) (h:eF n0 b s x m) (hI:MI k x) (hk:k≤600000000000) (C9:c<x.cs.length) (hs:s.In w) (mj:s.Old n0) (cm:n0≤w.heap.size) (hM:Mem w m):aD Tryz.prog 25 #[.pointer (some ⟨b,0,none⟩),.int .i64 (c:Nat)] w (ec m (fun u m'=>u= .tuple #[]∧eF n0 b s (um x c) m') w):=by
 obtain ⟨P,rfl,h⟩:=h;have uz:=hI.tl;obtain ⟨ig,ii,il,ip,ix,it,iv,ie,ic,iq⟩:=bP (ay (aA b s x.now P) w.heap.size);obtain ⟨nu,nq,jV,F8,sB,hX⟩:=h.sc.x;have UB:=hX.sl;have Wj:=hX.len;have hXn:=hX.nl;have NS:MI k {x with now:=x.now+1#64} := {hI with};have AF:=hI.ev;refine aD.ao Tryz.func25 rfl Tryz.ntmps25 rfl (aA b s x.now P++ []) ((eO (aA b s x.now P))) aM ?_;refine J6 ?_;refine LM.val (iD (b:=1#64) rfl rfl) ?_;refine J2 ?_;refine LM.st Tryz.sizeOf41 rfl rfl rfl dW rfl sC ?_;refine LM.mem (aV.mem (M':=aA b s (x.now+1#64) P++ []) aN) ?_;refine cj ?_;refine LM.eh (fun w hm hc hg=>gw (M:=gO P.bc nu nq jV::(sB++ [])) Tryz.isAgg118 rfl rfl w (hX.ld (hm.pick P.mc))) ?_;refine J2 ?_;refine LM.eh (fun w hm hc hg=>aE (M:=gO P.bc nu nq jV::(sB++ [])) (i:=c) (j:=0) UB ir Tryz.isAgg122 rfl rfl (aO (xs:=F8) default om) rfl (by rfl) w (hX.ld (hm.pick P.mc))) ?_;refine J7 ?_;refine cE Tryz.func53 rfl (fun w hm hc hg=>hX.read C9 (hm.pick P.mc) (fun m hr hM=>Ex w hr hM)) ?_;refine J2 ?_;refine af.bC (α:=aG×tY) (fun ⟨y,Q⟩=>[]) [(0,_),(1,_),(4,_)] (fun ⟨y,Q⟩=>aA b s (x.now+1#64) Q++ []) (fun ⟨y,Q⟩=>y=xE {x with now:=x.now+1#64} c∧gm n0 b s y Q∧C8 n0 Q.bc y.cs nu nq jV F8 sB Q.mc∧de (aA b s x.now P) w.heap.size (aA b s (x.now+1#64) Q)∧y.now=x.now+1#64) cF ?_ ?_
 ·refine af.aJ rfl (fun h1=>?_) (fun h1=>?_)
  ·obtain ⟨hu1,Zn,hu3⟩:=hI.cur C9 (u9 h1);have cu:=h.st;have dN:=h.nt;obtain ⟨a,ha⟩:∃a:Nat,(qg x.cs c).cur=(a:Nat):=⟨(qg x.cs c).cur.toNat,hu3.symm⟩;have WD:a<x.ts.length:=(by rw [ha] at Zn;exact Zn)
   refine J3 ?_;refine cU Tryz.func54 rfl (fun w hm hc hg=>hX.Bp (i:=c) (x':=fJ (qg x.cs c)) C9 (hm.pick P.mc) (hI.ci.back C9).wf (fun m hr hM=>(by have q:=tH w hr hM;rw [ha] at q;exact q))) hX.c.bE (au ic) ?_;rintro Wg AP ⟨rfl,Vq⟩ jb;have i29:=ar ic jb;refine cN ?_;refine LM.fR ({gT x a with st:=1}) (j:=6) aB ir Tryz.sizeOf3 rfl rfl rfl (by first|exact bI om|exact aO default cK) rfl (by decide) (by rfl) rfl (au aB) (fun j5 e9 ik=>?_)
   try rw [List.set_set] at e9
   have IG:=cn ik aB;refine J3 ?_;have xS:gm n0 b s (dH (iK {x with now:=x.now+1#64} c (fJ (qg x.cs c))) a {gT x a with st:=1}) {P with mt:=j5,mc:=AP} := {h with nt:=(by rw [bA];exact dN),st:=e9,sc:=Vq.c}
   refine J3 ?_;refine cU Tryz.func55 rfl (fun w hm hc hg=>tO (y:=x.now+1#64) rfl 3 (a:Nat) (-1) (c:Nat) w xS (by show x.ev.length≤_;omega) (Nat.le_trans cm hc.size) (hm.pick _)) (gm.m (y:=x.now+1#64) xS).bE (au aQ) ?_;rintro u40 Z6 ⟨rfl,ae,ne,ce,me,rfl,C6⟩ p6;refine J1 ?_;refine mK (xE {x with now:=x.now+1#64} c,{P with mt:=j5,mc:=AP,ae:=ae,ne:=ne,ce:=ce,me:=me}) ?_
   · have e:xE {x with now:=x.now+1#64} c=bn (dH (iK {x with now:=x.now+1#64} c (fJ (qg x.cs c))) a {gT x a with st:=1}) 3 a (-1) c:=(by unfold xE;rw [if_pos h1,show (qg ({x with now:=x.now+1#64} :aG).cs c).cur=(a:Int) from ha];rfl);exact⟨rfl,by rw [e];exact C6,by rw [e];exact Vq,ar aQ p6,by rw [e];rfl⟩
  refine J1 ?_;refine mK (xE {x with now:=x.now+1#64} c,P) ?_
  · have e:xE {x with now:=x.now+1#64} c= {x with now:=x.now+1#64} :=(by unfold xE;rw [if_neg (by simpa using h1)]);exact⟨rfl,by rw [e];exact {h with},by rw [e];exact hX,aQ,by rw [e]⟩
 rintro ⟨y,Q⟩ ⟨hy,hQ,Vq,yD,lY⟩;change QM _ _ _ _ _ (aA b s (x.now+1#64) Q++ []) _ _ _
 clear ig ii il ip ix it iv ie ic iq;obtain ⟨ig,ii,il,ip,ix,it,iv,ie,ic,iq⟩:=bP yD;have iR:MI (k+1) y:=(by rw [hy];exact NS.xE C9);have o8:y.s=x.s:=(by rw [hy];exact yG ..);have Q8:c<y.cs.length:=(by have h1:=iR.ce;have h2:=hI.ce;rw [o8] at h1;omega);obtain ⟨nJ,n2,eP,NH,xP,hqw,Ic,EM⟩:=Vq.mm Q8;have Tx:=iR.ev;have amR:=iR.tl;have amJ:=hQ.st;have ac2:=hQ.nt
 refine J3 ?_;refine af.bC (α:=Bool) (fun q=>[(53,.bool q)]) [(0,_),(1,_),(4,_)] (fun q=>aA b s (x.now+1#64) Q++ []) (fun q=>q=(decide ((qg y.cs c).cur<0)&&decide (0<(qg y.cs c).l.length))) cF ?_ ?_
 ·refine J4 ?_;refine LM.eh (fun w hm hc hg=>gw (M:=eb (F8.getD c default) (qg y.cs c).g (qg y.cs c).fl nJ n2 eP (qg y.cs c).cur (qg y.cs c).c4::NH) Tryz.isAgg3 rfl rfl w (EM w (hm.pick Q.mc))) ?_;refine J2 ?_;refine LM.aq (t:=46) rfl (fun h2=>?_) (fun h2=>?_)
  ·refine J4 ?_;refine LM.eh (fun w hm hc hg=>gw (M:=eb (F8.getD c default) (qg y.cs c).g (qg y.cs c).fl nJ n2 eP (qg y.cs c).cur (qg y.cs c).c4::NH) Tryz.isAgg128 rfl rfl w (EM w (hm.pick Q.mc))) ?_;refine J4 ?_;refine mK (_) ?_
   · rw [decide_eq_true h2,Bool.true_and,xP];exact decide_eq_decide.2 om
  refine J8 ?_;refine mK (_) ?_
  · rw [decide_eq_false h2];rfl
 rintro q hq;change QM _ _ _ _ _ (aA b s (x.now+1#64) Q++ []) _ _ _;refine J1 ?_;refine af.bC (α:=aG×tY) (fun ⟨z,V⟩=>[]) [(0,_),(1,_),(4,_)] (fun ⟨z,V⟩=>aA b s (x.now+1#64) V++ []) (fun ⟨z,V⟩=>z=xe y c∧gm n0 b s z V∧C8 n0 V.bc z.cs nu nq jV F8 sB V.mc∧de (aA b s x.now P) w.heap.size (aA b s (x.now+1#64) V)∧z.now=x.now+1#64) cF ?_ ?_
 ·refine af.aJ rfl (fun h3=>?_) (fun h3=>?_)
  ·have js:(qg y.cs c).cur<0∧0<(qg y.cs c).l.length:=(by rw [hq,Bool.and_eq_true,decide_eq_true_eq,decide_eq_true_eq] at h3;exact h3);obtain ⟨Rm,yg,hp3⟩:=zd hqw js.1 js.2;obtain ⟨a,ha⟩:∃a:Nat,gg (qg y.cs c)=(a:Nat):=⟨(gg (qg y.cs c)).toNat,by omega⟩;have WD:a<y.ts.length:=(by have:=iR.ci.id c Q8 _ yg;omega)
   refine J3 ?_;refine cU Tryz.func56 rfl (fun w hm hc hg=>Vq.Bp (i:=c) (x':=rS (qg y.cs c)) Q8 (hm.pick Q.mc) (iR.ci.pik Q8).wf (fun m hr hM=>(by have q:=Cp w hr hM;rw [ha] at q;exact q))) Vq.c.bE (au ic) ?_;rintro u55 ZV ⟨rfl,hX2⟩ L4;have i55:=ar ic L4;refine cN ?_;refine LM.fR ({gT y a with st:=2}) (j:=6) aB ir Tryz.sizeOf3 rfl rfl rfl (by first|exact bI om|exact aO default cK) rfl (by decide) (by rfl) rfl (au aB) (fun j5 e9 ik=>?_)
   try rw [List.set_set] at e9
   have IG:=cn ik aB;refine J3 ?_;have xy:gm n0 b s (dH (iK y c (rS (qg y.cs c))) a {gT y a with st:=2}) {Q with mt:=j5,mc:=ZV} := {hQ with nt:=(by rw [bA];exact ac2),st:=e9,sc:=hX2.c}
   refine J3 ?_;refine cU Tryz.func55 rfl (fun w hm hc hg=>tO (y:=x.now+1#64) (by exact lY) 2 (a:Nat) (-1) (c:Nat) w xy (by show y.ev.length≤_;omega) (Nat.le_trans cm hc.size) (hm.pick _)) (gm.m (hn:=lY) xy).bE (au aQ) ?_;rintro u66 m66 ⟨rfl,ae,ne,ce,me,rfl,h66⟩ YY;refine J1 ?_;refine mK (xe y c,{Q with mt:=j5,mc:=ZV,ae:=ae,ne:=ne,ce:=ce,me:=me}) ?_
   · have e:xe y c=bn (dH (iK y c (rS (qg y.cs c))) a {gT y a with st:=2}) 2 a (-1) c:=(by unfold xe;rw [if_pos js,ha];rfl);exact⟨rfl,by rw [e];exact h66,by rw [e];exact hX2,ar aQ YY,by rw [e];exact lY⟩
  refine J1 ?_;refine mK (xe y c,Q) ?_
  · have e:xe y c=y:=(by unfold xe;rw [if_neg (by rw [hq] at h3;simpa using h3)]);exact⟨rfl,by rw [e];exact hQ,by rw [e];exact Vq,yD,by rw [e];exact lY⟩
 rintro ⟨z,V⟩ ⟨hz,hV,hX3,V3,hzn⟩;change QM _ _ _ _ _ (aA b s (x.now+1#64) V++ []) _ _ _
 clear ig ii il ip ix it iv ie ic iq;obtain ⟨ig,ii,il,ip,ix,it,iv,ie,ic,iq⟩:=bP V3;have ri:MI (k+2) z:=(by rw [hz];exact iR.xe Q8);have IS:z.s=x.s:=(by rw [hz];exact(Fu ..).trans o8);have Vd:c<z.cs.length:=(by have h1:=ri.ce;have h2:=hI.ce;rw [IS] at h1;omega);clear EM Ic xP;obtain ⟨nJ,n2,eP,NH,xP,ana,Ic,EM⟩:=hX3.mm Vd;have Xr:=hV.st;have acL:=hV.nt;have anC:=hV.si;have afE:=hV.ni;have akr:=ri.il;have acF:=ri.ib
 refine J7 ?_;refine LM.eh (fun w hm hc hg=>gw (M:=eb (F8.getD c default) (qg z.cs c).g (qg z.cs c).fl nJ n2 eP (qg z.cs c).cur (qg z.cs c).c4::NH) Tryz.isAgg3 rfl rfl w (EM w (hm.pick V.mc))) ?_;refine J3 ?_;refine af.bC (α:=tY) (fun R=>[]) [(0,_)] (fun R=>aA b s (x.now+1#64) R++ []) (fun R=>gm n0 b s (uS z c) R∧de (aA b s x.now P) w.heap.size (aA b s (x.now+1#64) R)∧(uS z c).now=x.now+1#64) cF ?_ ?_
 ·refine af.ak rfl (fun h4=>?_) (fun h4=>?_)
  ·have hib:0≤z.idle.getD c 0∧z.idle.getD c 0≤((k+2:Nat):Int):=acF _ (List.mem_of_getElem? (aO 0 om));refine J7 ?_;refine LM.rd (bd aB ir Tryz.isAgg3 rfl rfl (by first|exact bI om|exact aO 0 cK) (by rfl)) ?_;refine J2 ?_;refine LM.fR ((z.idle.getD c 0+1)) (j:=0) aB ir Tryz.sizeOf3 rfl rfl rfl (by first|exact bI om|exact aO 0 cK) rfl (by decide) (by rfl) rfl (au aB) (fun j5 e9 ik=>?_)
   try rw [List.set_set] at e9
   have IG:=cn ik aB;refine J1 ?_;refine mK ({V with mi:=j5}) ?_
   · have e:uS z c= {z with idle:=z.idle.set c (z.idle.getD c 0+1)} :=(by unfold uS;rw [if_pos h4]);exact⟨by rw [e];exact {hV with ni:=(by show _=(z.idle.set _ _).length;rw [List.length_set];exact afE),si:=e9},aQ,by rw [e];exact hzn⟩
  have rW:0≤(qg z.cs c).cur:=om;obtain ⟨hu1,Zn,hu3⟩:=ri.cur Vd rW;obtain ⟨hU1,Zl,hU3⟩:=ri.Di Vd rW;obtain ⟨a,ha⟩:∃a:Nat,(qg z.cs c).cur=(a:Nat):=⟨(qg z.cs c).cur.toNat,hu3.symm⟩;have WD:a<z.ts.length:=(by rw [ha] at Zn;exact Zn);have IC:0≤(z.ts.getD a default).ti∧(z.ts.getD a default).ti≤((k+2:Nat):Int):=(ri.tb a WD).ti;have hrn:=ri.ci.rn c Vd;have haN:(qg z.cs c).cur.toNat=a:=(by rw [ha];rfl);rw [haN] at Zl hU3;have hUe:Di z c=dH (iK z c (fF (qg z.cs c))) a {gT z a with ti:=(gT z a).ti+1} :=(by unfold Di;rw [haN])
  refine J5 ?_;refine LM.eh (fun w hm hc hg=>gw (M:=eb (F8.getD c default) (qg z.cs c).g (qg z.cs c).fl nJ n2 eP (qg z.cs c).cur (qg z.cs c).c4::NH) Tryz.isAgg3 rfl rfl w (EM w (hm.pick V.mc))) ?_;rw [ha];refine J6 ?_;refine cU Tryz.func57 rfl (fun w hm hc hg=>hX3.Bp (i:=c) (x':=fF (qg z.cs c)) Vd (hm.pick V.mc) (ri.ci.tick Vd).wf (fun m hr hM=>B1 w hr om hM)) hX3.c.bE (au ic) ?_;rintro u86 m86 ⟨rfl,hX4⟩ XS;have i86:=ar ic XS;refine c9 ?_;refine LM.rd (aE (j:=11) aB ir Tryz.isAgg3 rfl rfl (by first|exact bI om|exact aO default cK) rfl (by rfl)) ?_;refine J3 ?_;refine LM.fR ({gT z a with ti:=(gT z a).ti+1}) (j:=11) aB ir Tryz.sizeOf3 rfl rfl rfl (by first|exact bI om|exact aO default cK) rfl (by decide) (by rfl) rfl (au aB) (fun j5 e9 ik=>?_)
  try rw [List.set_set] at e9
  have IG:=cn ik aB;refine J8 ?_;refine af.aP (α:=Bool×aG×Nat×tY) (fun ⟨ov,v,f,W⟩=>[(8,.bool ov)]) [(0,_),(1,_),(7,_)] (fun ⟨ov,v,f,W⟩=>aA b s (x.now+1#64) W++ []) (fun ⟨ov,v,f,W⟩=>gm n0 b s v W∧v.now=x.now+1#64∧de (aA b s x.now P) w.heap.size (aA b s (x.now+1#64) W)∧(ov=true→v=pK a c 64 (Di z c))∧(ov=false→pK a c 64 (Di z c)=pK a c f v∧HP v a<f∧f≤64∧MI (k+3+300*(64-f)) v∧a<v.ts.length∧bS v.cs a<v.cs.length∧v.s=x.s)) (fun ⟨ov,v,f,W⟩=>f) ((false,Di z c,64,{V with mc:=m86,mt:=j5})) cF aN ⟨by rw [hUe];exact {hV with nt:=(by rw [bA];exact acL),st:=e9,sc:=hX4.c},by rw [hUe];exact hzn,aQ,fun q=>(by cases q),fun _=>⟨rfl,Qp hU1 Zl,Nat.le_refl _,hU1.mono om,Zl,hU3,by rw [hUe];exact IS⟩⟩ ?_;rintro ⟨ov,v,f,W⟩ ⟨hv,Tz,hnW,hov,ack⟩;change af _ _ _ _ _ _ _ (aA b s (x.now+1#64) W++ []) _ _ _;refine J7 ?_;refine af.aJ rfl (fun h5=>?_) (fun h5=>?_)
  ·have adE:ov=false:=(by simpa using h5);obtain ⟨g1,g2,g3,g4,g5,g6,g7⟩:=ack adE;have hcv:c<v.cs.length:=(by have q1:=g4.ce;have q2:=hI.ce;rw [g7] at q1;omega);obtain ⟨f',hff⟩:∃f',f=f'+1:=⟨f-1,by omega⟩
   refine J7 ?_;refine cU Tryz.func58 rfl (fun w hm hc hg=>E0 w (hv.m (hn:=Tz)) g4 om g5 hcv (hs.keep mj hc (fun b' hb=>by obtain ⟨p,hp,e⟩:=hb;rw [←e];exact h.ge p hp)) mj (Nat.le_trans cm hc.size) (hm.pick _)) (hv.m (hn:=Tz)).bE (au hnW) ?_;rintro anI akN ⟨rfl,W1,hW1,aeK⟩ Su;rw [uG,Tz] at hW1;subst hW1;refine J3 ?_;refine aK ((fy v a c).2,(fy v a c).1,f-1,W1) ?_ ?_
   · exact⟨aeK,by rw [uG];exact Tz,ar hnW Su,fun q=>by rw [g1,hff,TD q],fun q=>by {obtain ⟨e1,e2,e3,e4⟩:=sI g4 g5 g6 q;exact⟨by rw [g1,hff,Sm (by rw [q];simp)];rfl,by omega,by omega,(g4.WL g5 hcv g6).mono om,e2,e3,e4.trans g7⟩}⟩
   · (dsimp only;omega)
  refine J4 ?_;refine mK (W) ?_
  · have e:uS z c=v:=(by rw [hov (by simpa using h5)];unfold uS;rw [if_neg h4,haN];rw [←haN];rfl);exact⟨by rw [e];exact hv,hnW,by rw [e];exact Tz⟩
 rintro R ⟨hR,hnR,hRn⟩;change QM _ _ _ _ _ (aA b s (x.now+1#64) R++ []) _ _ _;have S9:MI (k+2+19300) (uS z c):=ri.uS Vd;have xA:eF n0 b s (uS z c) (aA b s (x.now+1#64) R):=hR.m (hn:=hRn);refine J3 ?_;refine cU Tryz.func31 rfl (fun w hm hc hg=>j2 w xA S9 (Nat.le_trans cm hc.size) (hm.pick _)) xA.bE (au hnR) ?_;rintro anU aeH ⟨rfl,ac4⟩ SJ;refine J1 ?_;refine QM.leave (.inr rfl) [] Tryz.results25 rfl ?_;intro w' aj aa az;exact aY (m':=aeH) ⟨rfl,by rw [show um x c=kh (uS z c) by rw [hz,hy];rfl];exact ac4⟩ aj aN aa (ar hnR SJ)
abbrev oR (b:Nat) (a:Act):Nat×Obj:=(b,.cells (fA a).toArray 37 (0,0))
set_option maxHeartbeats 4000000 in
theorem Iq {n0 b k:Nat} {s:dm} {x:aG} {m:ab} (a:Act) (w:World) (h:eF n0 b s x m) (hI:MI k x) (hk:k≤500000000000) (hs:s.In w) (mj:s.Old n0) (cm:n0≤w.heap.size) (hM:Mem w m):aD Tryz.prog 8 #[.pointer (some ⟨b,0,none⟩),.agg (fA a).toArray] w (ec m (fun u m'=>u= .int .i64 (dA x a)∧eF n0 b s (j7 x a) m') w):=by
 obtain ⟨P,rfl,h⟩:=h;have uz:=hI.tl;have dN:=h.nt;have fi:=h.ne;have E5:=h.ng;have xz:=h.nl;have Fb:x.s.cr=s.cr:=(by rw [h.hs];rfl);have RY:x.s.ps.length=s.pn:=(by rw [h.hs,hs.q9];exact List.length_map ..);have yK:eF n0 b s x (aA b s x.now P):=h.m;obtain ⟨ig,ii,il,ip,ix,it,iv,ie,ic,iq⟩:=bP (ay (aA b s x.now P) w.heap.size);refine aD.ao Tryz.func8 rfl Tryz.ntmps8 rfl (aA b s x.now P++ []) ((eO (aA b s x.now P))) aM ?_;refine J2 ?_;refine LM.box rfl rfl (fun b3 xu=>?_);refine kk ?_;refine af.ak rfl (fun h1=>?_) (fun h1=>?_)
 ·refine J7 ?_;refine qL Tryz.results8 rfl fun w' aj aa az=>?_;have hE:dA x a=3:=(by unfold dA;rw [if_pos om]);rw [hE,eU (by rw [hE];decide)];exact aY (m':=aA b s x.now P) ⟨rfl,yK⟩ aj aN aa (ay _ _)
 have hv:¬50000≤x.ev.length:=om;refine pQ ?_;refine af.ak rfl (fun h2=>?_) (fun h2=>?_)
 ·refine J2 ?_;refine af.bC (α:=Bool) (fun q=>[(34,.bool q)]) [(0,_),(3,_)] (fun q=>aA b s x.now P++(oR b3 a:: [])) (fun q=>q=true↔(a.a<0∨s.cr≤a.a)) cF ?_ ?_
  ·refine af.draw [(0,0),(1,1),(2,0),(3,0),(4,0),(5,1),(6,0),(7,0),(8,0),(9,0),(10,1),(11,0),(12,0)] kr kr ?_;refine J4 ?_;refine LD.aq (t:=25) rfl (fun h3=>?_) (fun h3=>?_)
   ·refine cj ?_;refine mK (_) ?_
    · simp<;>omega
   refine cj ?_;refine mK (_) ?_
   · simp<;>omega
  rintro q hq;change QM _ _ _ _ _ (aA b s x.now P++(oR b3 a:: [])) _ _ _;refine J1 ?_;refine af.aJ rfl (fun h4=>?_) (fun h4=>?_)
  ·refine J9 ?_;refine qL Tryz.results8 rfl fun w' aj aa az=>?_;have hE:dA x a=1:=(by rw [Yt hv h2,if_pos (by rw [Fb];exact hq.1 h4)]);rw [hE,eU (by rw [hE];decide)];exact aY (m':=aA b s x.now P) ⟨rfl,yK⟩ aj aN aa (ay _ _)
  have NG:¬(a.a<0∨s.cr≤a.a):=(fun e=>by rw [hq.2 e] at h4;cases h4);obtain ⟨c,hca⟩:∃c:Nat,a.a=(c:Nat):=⟨a.a.toNat,by omega⟩;have hcc:c<x.cs.length:=(by have:=hI.ce;omega)
  refine J9 ?_;refine LM.val (Fx (b:=1048576#64) rfl rfl) ?_;refine J2 ?_;refine af.ak rfl (fun h5=>?_) (fun h5=>?_)
  ·refine J9 ?_;refine qL Tryz.results8 rfl fun w' aj aa az=>?_;have hE:dA x a=2:=(by rw [Yt hv h2,if_neg (by rw [Fb];exact NG),if_pos (by first|exact h5|omega)]);rw [hE,eU (by rw [hE];decide)];exact aY (m':=aA b s x.now P) ⟨rfl,yK⟩ aj aN aa (ay _ _)
  refine J6 ?_;refine cU Tryz.func25 rfl (fun w hm hc hg=>(by have q:=wE (c:=c) w yK hI om hcc (hs.keep mj hc (fun b' hb=>by obtain ⟨p,hp,e⟩:=hb;rw [←e];exact h.ge p hp)) mj (Nat.le_trans cm hc.size) (hm.pick _);rw [←hca] at q;exact q)) yK.bE (au (ay _ _)) ?_;rintro u43 m43 ⟨rfl,h43⟩ MZ;refine J9 ?_;refine qL Tryz.results8 rfl fun w' aj aa az=>?_;have hE:dA x a=0:=(by rw [Yt hv h2,if_neg (by rw [Fb];exact NG),if_neg (by first|exact h5|omega)]);rw [hE,dx1 hE h2,show a.a.toNat=c by omega];exact aY (m':=m43) ⟨rfl,h43⟩ aj aN aa MZ
 refine J6 ?_;refine af.ak rfl (fun h6=>?_) (fun h6=>?_)
 ·refine J2 ?_;refine cU Tryz.func26 rfl (fun w hm hc hg=>wS w yK hI om (Nat.le_trans cm hc.size) (hm.pick _)) yK.bE (au (ay _ _)) ?_;rintro u47 m47 ⟨rfl,h47⟩ YZ;refine J9 ?_;refine qL Tryz.results8 rfl fun w' aj aa az=>?_;have hE:dA x a=0:=do2 hv h6;rw [hE,dx2 hE h6];exact aY (m':=m47) ⟨rfl,h47⟩ aj aN aa YZ
 refine J6 ?_;refine af.ak rfl (fun h7=>?_) (fun h7=>?_)
 ·refine J6 ?_;refine cU Tryz.func27 rfl (fun w hm hc hg=>Fc w h.sc (Nat.le_trans cm hc.size) (hm.pick P.mc)) h.sc.bE (au ic) ?_;rintro u55 ZV ⟨rfl,Um⟩ L4;have i55:=ar ic L4;have hMb:eF n0 b s {x with cs:=jY x.cs} (aA b s x.now {P with mc:=ZV}):=gm.m {h with sc:=Um};refine pQ ?_;refine af.ak rfl (fun h8=>?_) (fun h8=>?_)
  ·have WT:jY x.cs=x.cs:=Jc hI.ci.wf aB;refine J9 ?_;refine qL Tryz.results8 rfl fun w' aj aa az=>?_;have hE:dA x a=4:=(by rw [do3 hv h7,if_pos h8]);rw [hE,eU (by rw [hE];decide)];exact aY (m':=aA b s x.now {P with mc:=ZV}) ⟨rfl,gm.m {h with sc:=(by rw [WT] at Um;exact Um)}⟩ aj aN aa aQ
  obtain ⟨jq,xr⟩:=LK hI om;obtain ⟨t,Lf⟩:∃t:Nat,ja x.cs=(t:Nat):=⟨(ja x.cs).toNat,by omega⟩
  refine J6 ?_;refine cU Tryz.func28 rfl (fun w hm hc hg=>(by have q:=vU (t:=t) (uw x.cs) w hMb hI.XZ om (by show t<x.ts.length;rw [Lf] at jq;exact jq) (Nat.le_trans cm hc.size) (hm.pick _);rw [←Lf] at q;exact q)) hMb.bE (au aQ) ?_;rintro u64 m64 ⟨rfl,AH⟩ A8;refine J9 ?_;refine qL Tryz.results8 rfl fun w' aj aa az=>?_;have hE:dA x a=0:=(by rw [do3 hv h7,if_neg h8]);rw [hE,dx3 hE h7,show (ja x.cs).toNat=t by omega];exact aY (m':=m64) ⟨rfl,AH⟩ aj aN aa (ar aQ A8)
 refine J6 ?_;refine af.ak rfl (fun h9=>?_) (fun h9=>?_)
 ·refine J2 ?_;refine af.bC (α:=Bool) (fun q=>[(120,.bool q)]) [(0,_),(3,_)] (fun q=>aA b s x.now P++(oR b3 a:: [])) (fun q=>q=true↔(a.a<0∨(s.pn:Int)≤a.a∨a.b<0∨(P.ng:Int)≤a.b∨a.c<1∨16<a.c∨a.d<0∨s.cr≤a.d)) cF ?_ ?_
  ·refine af.draw [(0,0),(1,1),(2,0),(3,0),(4,0),(5,1),(6,0),(7,0),(8,0),(9,0),(10,1),(11,0),(12,0),(13,0),(14,0),(15,0),(16,1),(17,0),(18,0),(19,0),(20,0),(21,1),(22,0),(23,0),(24,0),(25,1),(26,0),(27,0),(28,0),(29,0),(30,0),(31,1),(32,0),(33,0),(34,0),(35,0),(36,1),(37,0),(38,0),(39,0),(40,0),(41,1),(42,0),(43,0),(44,0),(45,0),(46,1),(47,0),(48,0),(49,0),(50,0),(51,1),(52,0),(53,0)] kr kr ?_;refine J4 ?_;refine LD.aq (t:=70) rfl (fun gh=>?_) (fun gh=>?_)
   ·refine J51 ?_;refine mK (_) ?_
    · simp<;>omega
   refine c9 ?_;refine LD.aq (t:=81) rfl (fun jf=>?_) (fun jf=>?_)
   ·refine J40 ?_;refine mK (_) ?_
    · simp<;>omega
   refine J5 ?_;refine LD.aq (t:=86) rfl (fun lJ=>?_) (fun lJ=>?_)
   ·refine J35 ?_;refine mK (_) ?_
    · simp<;>omega
   refine cj ?_;refine LD.aq (t:=96) rfl (fun oK=>?_) (fun oK=>?_)
   ·refine J25 ?_;refine mK (_) ?_
    · simp<;>omega
   refine J5 ?_;refine LD.aq (t:=101) rfl (fun ku=>?_) (fun ku=>?_)
   ·refine Rt ?_;refine mK (_) ?_
    · simp<;>omega
   refine J5 ?_;refine LD.aq (t:=106) rfl (fun uM=>?_) (fun uM=>?_)
   ·refine py ?_;refine mK (_) ?_
    · simp<;>omega
   refine J5 ?_;refine LD.aq (t:=111) rfl (fun r7=>?_) (fun r7=>?_)
   ·refine cj ?_;refine mK (_) ?_
    · simp<;>omega
   refine cj ?_;refine mK (_) ?_
   · simp<;>omega
  rintro q hq;change QM _ _ _ _ _ (aA b s x.now P++(oR b3 a:: [])) _ _ _;refine J1 ?_;refine af.aJ rfl (fun nk=>?_) (fun nk=>?_)
  ·refine J9 ?_;refine qL Tryz.results8 rfl fun w' aj aa az=>?_;have hE:dA x a=1:=(by rw [do4 hv h9,if_pos (by rw [Fb,RY,←E5];exact hq.1 nk)]);rw [hE,eU (by rw [hE];decide)];exact aY (m':=aA b s x.now P) ⟨rfl,yK⟩ aj aN aa (ay _ _)
  refine J6 ?_;refine cE Tryz.func29 rfl (fun w hm hc hg=>uc w yK uz (hm.pick _)) ?_;refine J3 ?_;refine af.aJ rfl (fun qY=>?_) (fun qY=>?_)
  ·refine J9 ?_;refine qL Tryz.results8 rfl fun w' aj aa az=>?_;have hE:dA x a=3:=(by rw [do4 hv h9,if_neg (by rw [Fb,RY,←E5];exact fun e=>by rw [hq.2 e] at nk;cases nk),if_neg (by simpa using qY)]);rw [hE,eU (by rw [hE];decide)];exact aY (m':=aA b s x.now P) ⟨rfl,yK⟩ aj aN aa (ay _ _)
  have agt:x.ts.length<64:=(by have hr:je x=true:=(by simpa using qY);unfold je at hr;simp only [Bool.and_eq_true,decide_eq_true_eq] at hr;exact hr.2);have NG:¬(a.a<0∨(s.pn:Int)≤a.a∨a.b<0∨(P.ng:Int)≤a.b∨a.c<1∨16<a.c∨a.d<0∨s.cr≤a.d):=(fun e=>by rw [hq.2 e] at nk;cases nk)
  refine gy ?_;refine cU Tryz.func30 rfl (fun w hm hc hg=>xn a.a a.b a.c a.d w yK uz (by have:=hI.vl;omega) (by have:=hI.ev;omega) (Nat.le_trans cm hc.size) (hm.pick _)) yK.bE (au (ay _ _)) ?_;rintro ajQ amM ⟨rfl,aaL⟩ Ko;refine J4 ?_;refine cU Tryz.func31 rfl (fun w hm hc hg=>j2 w aaL (hI.NR a.a a.b a.c a.d om agt) (Nat.le_trans cm hc.size) (hm.pick _)) aaL.bE (au Ko) ?_;rintro Xn Jg ⟨rfl,Up⟩ DE;refine J9 ?_;refine qL Tryz.results8 rfl fun w' aj aa az=>?_;have hE:dA x a=0:=(by rw [do4 hv h9,if_neg (by rw [Fb,RY,←E5];exact NG),if_pos (by simpa using qY)]);rw [hE,dx4 hE h9];exact aY (m':=Jg) ⟨rfl,Up⟩ aj aN aa (ar Ko DE)
 refine J6 ?_;refine af.ak rfl (fun xf=>?_) (fun xf=>?_)
 ·refine J2 ?_;refine af.bC (α:=Bool) (fun q=>[(150,.bool q)]) [(0,_),(3,_)] (fun q=>aA b s x.now P++(oR b3 a:: [])) (fun q=>q=true↔(a.a<0∨(P.nt:Int)≤a.a)) cF ?_ ?_
  ·refine af.draw [(0,0),(1,1),(2,0),(3,0),(4,0),(5,1),(6,0),(7,0),(8,0),(9,1),(10,0),(11,0),(12,0)] kr kr ?_;refine J4 ?_;refine LD.aq (t:=141) rfl (fun sJ=>?_) (fun sJ=>?_)
   ·refine cj ?_;refine mK (_) ?_
    · simp<;>omega
   refine cj ?_;refine mK (_) ?_
   · simp<;>omega
  rintro q hq;change QM _ _ _ _ _ (aA b s x.now P++(oR b3 a:: [])) _ _ _;refine J1 ?_;refine af.aJ rfl (fun xv=>?_) (fun xv=>?_)
  ·refine J9 ?_;refine qL Tryz.results8 rfl fun w' aj aa az=>?_;have hE:dA x a=4:=(by rw [do5 hv xf,if_pos (by rw [←dN];exact hq.1 xv)]);rw [hE,eU (by rw [hE];decide)];exact aY (m':=aA b s x.now P) ⟨rfl,yK⟩ aj aN aa (ay _ _)
  have hq5:¬(a.a<0∨(P.nt:Int)≤a.a):=(fun e=>by rw [hq.2 e] at xv;cases xv);obtain ⟨t,Lf⟩:∃t:Nat,a.a=(t:Nat):=⟨a.a.toNat,by omega⟩;have yp:t<x.ts.length:=om;have cu:=h.st;have IJ:0≤a.a∧a.a<(P.nt:Int):=om;refine J4 ?_;refine af.draw [(0,0),(1,0),(2,0),(3,1),(4,0),(5,1),(6,0),(7,0),(8,1),(9,0)] kr kr ?_;refine J6 ?_;refine LD.val rfl rfl (bF j3 Tryz.underlying45 Tryz.sizeOf66 rfl rfl om) ?_;refine J1 ?_;refine LD.rd rfl rfl (aE (j:=6) aB ir Tryz.isAgg3 rfl rfl (by first|exact bI om|exact aO default cK) rfl (by rfl)) ?_;refine J3 ?_;refine af.ak rfl (fun y4=>?_) (fun y4=>?_)
  ·refine J9 ?_;refine qL Tryz.results8 rfl fun w' aj aa az=>?_;have hE:dA x a=11:=(by rw [do5 hv xf,if_neg (by rw [←dN];exact hq5),if_pos y4]);rw [hE,eU (by rw [hE];decide)];exact aY (m':=aA b s x.now P) ⟨rfl,yK⟩ aj aN aa (ay _ _)
  refine J7 ?_;refine cU Tryz.func32 rfl (fun w hm hc hg=>(by have q:=qF (t:=t) w yK hI om yp (Nat.le_trans cm hc.size) (hm.pick _);rw [←Lf] at q;exact q)) yK.bE (au (ay _ _)) ?_;rintro amn alm ⟨rfl,Ya⟩ Kw;refine J4 ?_;refine cU Tryz.func31 rfl (fun w hm hc hg=>j2 w Ya (hI.die yp) (Nat.le_trans cm hc.size) (hm.pick _)) Ya.bE (au Kw) ?_;rintro alS afd ⟨rfl,af8⟩ TV;refine J9 ?_;refine qL Tryz.results8 rfl fun w' aj aa az=>?_;have hE:dA x a=0:=(by rw [do5 hv xf,if_neg (by rw [←dN];exact hq5),if_neg y4]);rw [hE,dx5 hE xf,show a.a.toNat=t by omega];exact aY (m':=afd) ⟨rfl,af8⟩ aj aN aa (ar Kw TV)
 refine J6 ?_;refine af.ak rfl (fun Dg=>?_) (fun Dg=>?_)
 ·refine J2 ?_;refine af.bC (α:=Bool) (fun q=>[(191,.bool q)]) [(0,_),(3,_)] (fun q=>aA b s x.now P++(oR b3 a:: [])) (fun q=>q=true↔(a.a<0∨(P.ng:Int)≤a.a∨a.b<1∨16<a.b)) cF ?_ ?_
  ·refine af.draw [(0,0),(1,1),(2,0),(3,0),(4,0),(5,1),(6,0),(7,0),(8,0),(9,1),(10,0),(11,0),(12,0),(13,0),(14,0),(15,1),(16,0),(17,0),(18,0),(19,0),(20,1),(21,0),(22,0)] kr kr ?_;refine J4 ?_;refine LD.aq (t:=172) rfl (fun Km=>?_) (fun Km=>?_)
   ·refine Rt ?_;refine mK (_) ?_
    · simp<;>omega
   refine cj ?_;refine LD.aq (t:=182) rfl (fun sz=>?_) (fun sz=>?_)
   ·refine cj ?_;refine mK (_) ?_
    · simp<;>omega
   refine J5 ?_;refine LD.aq (t:=187) rfl (fun IP=>?_) (fun IP=>?_)
   ·refine J5 ?_;refine mK (_) ?_
    · simp<;>omega
   refine J5 ?_;refine mK (_) ?_
   · simp<;>omega
  rintro q hq;change QM _ _ _ _ _ (aA b s x.now P++(oR b3 a:: [])) _ _ _;refine J1 ?_;refine af.aJ rfl (fun h27=>?_) (fun h27=>?_)
  ·refine J9 ?_;refine qL Tryz.results8 rfl fun w' aj aa az=>?_;have hE:dA x a=1:=(by rw [do6 hv Dg,if_pos (by rw [←E5];exact hq.1 h27)]);rw [hE,eU (by rw [hE];decide)];exact aY (m':=aA b s x.now P) ⟨rfl,yK⟩ aj aN aa (ay _ _)
  have hq6:¬(a.a<0∨(P.ng:Int)≤a.a∨a.b<1∨16<a.b):=(fun e=>by rw [hq.2 e] at h27;cases h27);have CK:=h.sg;have IJ:0≤a.a∧a.a<(P.ng:Int):=om;refine J3 ?_;refine af.keep (v9 b s x.now P::oR b3 a:: []) (fun _=>True) (.one 0 0 (.one 1 0 (.one 2 0 (.one 3 1 (.one 4 0 (.one 5 1 (.one 6 0 (.one 7 1 (.one 8 0 (.last 9)))))))))) kr kr aN (fun _ _=>trivial) ?_;refine J8 ?_;refine KD.val rfl rfl (bF j3 Tryz.underlying26 Tryz.sizeOf3 rfl rfl om) ?_;refine KD.last rfl ?_;refine LM.fR (a.b) (j:=0) aB ir Tryz.sizeOf3 rfl rfl rfl (by first|exact bI om|exact aO 0 cK) rfl (by decide) (by rfl) rfl (au aB) (fun jh cG cY=>?_)
  try rw [List.set_set] at cG
  have HE:=cn cY aB;refine J1 ?_;refine QM.qn ?_;refine J7 ?_;refine af.aP (α:=Nat×List bf×ab) (fun ⟨i,ls,mq⟩=>[(8,.int .i64 (i:Nat))]) [(0,_),(3,_)] (fun ⟨i,ls,mq⟩=>v9 b s x.now P::gR P.bg P.ax P.nx P.cx::(P.mi++(P.ml++(jh++(P.mx++(P.mt++(P.mv++(P.me++(P.mc++(mq++(oR b3 a:: []))))))))))) (fun ⟨i,ls,mq⟩=>i≤x.lk.length∧ls=Hk (fun L=>iL L a.a a.b) x.lk i∧km NO n0 P.bs ls mq∧de (aA b s x.now P) w.heap.size mq) (fun ⟨i,ls,mq⟩=>x.lk.length-i) ((0,x.lk,P.mq)) cF aN ⟨Nat.zero_le _,rfl,h.sq,iq⟩ ?_;rintro ⟨i,ls,mq⟩ ⟨hi,sy,IE,We⟩;change af _ _ _ _ _ _ _ (v9 b s x.now P::gR P.bg P.ax P.nx P.cx::(P.mi++(P.ml++(jh++(P.mx++(P.mt++(P.mv++(P.me++(P.mc++(mq++(oR b3 a:: []))))))))))) _ _ _;have Kt:ls.length=x.lk.length:=(by rw [sy,mO]);have tU:=h.bl;have jt:=h.sl;have NB:=hI.l8;refine cN ?_;refine af.ak rfl (fun h28=>?_) (fun h28=>?_)
  ·refine J4 ?_;refine af.draw [(0,0),(1,0),(2,0),(3,1),(4,0),(5,0),(6,1),(7,0),(8,1),(9,0),(10,1),(11,3)] kr kr ?_;refine J6 ?_;refine LD.rd rfl rfl (bd aB ir Tryz.isAgg54 rfl rfl (by first|exact bI om|exact aO default cK) (by rfl)) ?_;refine J4 ?_;refine LD.tail rfl rfl ?_;refine cU Tryz.func33 rfl (fun w hm hc hg=>IE.Bp Fa (i:=i) om (hm.pick mq) (fun m hr hM=>EK a.a a.b w hr hM)) (IE.bE Fa) (au We) ?_;rintro ak3 acP ⟨rfl,acR⟩ UK;refine J1 ?_;refine QM.qn ?_;refine J7 ?_;refine aK (i+1,ls.set i (iL (qg ls i) a.a a.b),acP) ?_ ?_
   · exact⟨by omega,by rw [sy];rfl,acR,ar We UK⟩
   · (dsimp only;omega)
  refine cN ?_;refine qL Tryz.results8 rfl fun w' aj aa az=>?_;have er:i=x.lk.length:=om;subst er;rw [DK] at sy;have hE:dA x a=0:=(by rw [do6 hv Dg,if_neg (by rw [←E5];exact hq6)]);rw [hE,dx6 hE Dg];exact aY (m':=aA b s x.now {P with mg:=jh,mq:=mq}) ⟨rfl,gm.m {h with ng:=(by show _=(x.gp.set _ _).length;rw [List.length_set];exact E5),sg:=cG,nl:=(by show _=(x.lk.map _).length;rw [List.length_map];exact xz),bl:=(by show _=(x.lk.map _).length;rw [List.length_map];exact tU),sq:=(by rw [sy] at IE;exact IE)}⟩ aj aN aa aQ
 refine J6 ?_;refine af.ak rfl (fun h29=>?_) (fun h29=>?_)
 ·refine J1 ?_;refine af.draw [(0,0),(1,0),(2,0),(3,1),(4,0),(5,1),(6,0),(7,1),(8,3),(9,3)] kr kr ?_;refine J8 ?_;refine LD.tail rfl rfl ?_;refine cU Tryz.func34 rfl (fun w hm hc hg=>D2 a.a a.b w h.sc (Nat.le_trans cm hc.size) (hm.pick P.mc)) h.sc.bE (au ic) ?_;rintro akq aae ⟨rfl,KU⟩ U6;have i232:=ar ic U6;refine J2 ?_;refine QM.qn ?_;refine J8 ?_;refine af.ak rfl (fun h30=>?_) (fun h30=>?_)
  ·refine cj ?_;refine qL Tryz.results8 rfl fun w' aj aa az=>?_;have hE:dA x a=fc x.cs a.b a.a:=do7 hv h29;rw [hE,eU (by rw [hE];exact h30)];exact aY (m':=aA b s x.now {P with mc:=aae}) ⟨rfl,gm.m {h with sc:=(by rw [k7 h30] at KU;exact KU)}⟩ aj aN aa aQ
  have hE7:fc x.cs a.b a.a=0:=om;obtain ⟨hm1,KI,G5,hm4,hm5⟩:=Fo hE7;obtain ⟨ajO,XF⟩:=hI.ids hm1;obtain ⟨t,Lf⟩:∃t:Nat,a.a=(t:Nat):=⟨a.a.toNat,by omega⟩;have hMv:eF n0 b s {x with cs:=jW x.cs a.b a.a} (aA b s x.now {P with mc:=aae}):=gm.m {h with sc:=KU};refine J8 ?_;refine cU Tryz.func28 rfl (fun w hm hc hg=>(by have q:=vU (t:=t) a.b w hMv (hI.mov a.b a.a) om (by show t<x.ts.length;rw [Lf] at XF;exact XF) (Nat.le_trans cm hc.size) (hm.pick _);rw [←Lf] at q;exact q)) hMv.bE (au aQ) ?_;rintro ant aem ⟨rfl,agC⟩ Tw;refine J9 ?_;refine qL Tryz.results8 rfl fun w' aj aa az=>?_;have hE:dA x a=0:=(do7 hv h29).trans hE7;rw [hE,dx7 hE h29,show a.a.toNat=t by omega];exact aY (m':=aem) ⟨rfl,agC⟩ aj aN aa (ar aQ Tw)
 refine J6 ?_;refine af.ak rfl (fun Yb=>?_) (fun Yb=>?_)
 ·refine J2 ?_;refine af.bC (α:=Bool) (fun q=>[(251,.bool q)]) [(0,_),(3,_)] (fun q=>aA b s x.now P++(oR b3 a:: [])) (fun q=>q=true↔(a.a<0∨200<a.a)) cF ?_ ?_
  ·refine J5 ?_;refine LM.aq (t:=247) rfl (fun h32=>?_) (fun h32=>?_)
   ·refine J5 ?_;refine mK (_) ?_
    · simp<;>omega
   refine J6 ?_;refine mK (_) ?_
   · simp<;>omega
  rintro q hq;change QM _ _ _ _ _ (aA b s x.now P++(oR b3 a:: [])) _ _ _;refine J1 ?_;refine af.aJ rfl (fun NQ=>?_) (fun NQ=>?_)
  ·refine J9 ?_;refine qL Tryz.results8 rfl fun w' aj aa az=>?_;have hE:dA x a=1:=(by rw [do8 hv Yb,if_pos (hq.1 NQ)]);rw [hE,eU (by rw [hE];decide)];exact aY (m':=aA b s x.now P) ⟨rfl,yK⟩ aj aN aa (ay _ _)
  have hc4:=u1 hI.ms;have hq8:¬(a.a<0∨200<a.a):=(fun e=>by rw [hq.2 e] at NQ;cases NQ);have hmul:0≤a.a*s.cr∧a.a*s.cr≤800:=(by rw [Fb] at hc4;rcases (show s.cr=1∨s.cr=2∨s.cr=3∨s.cr=4 by omega) with e|e|e|e<;>rw [e] <;>omega)
  refine J4 ?_;refine af.draw [(0,0),(1,0),(2,0),(3,1),(4,0),(5,1),(6,0),(7,0),(8,0),(9,0),(10,1),(11,0),(12,0),(13,0),(14,0)] kr kr ?_;refine c9 ?_;refine LD.val rfl rfl (Bo rfl rfl om) ?_;refine LD.val rfl rfl (n4 Tryz.underlying3 Tryz.underlying41 rfl) ?_;refine LD.val rfl rfl (iD rfl rfl) ?_;refine LD.val rfl rfl (pj (b:=1048576#64) rfl rfl) ?_;refine J2 ?_;refine af.ak rfl (fun Q1=>?_) (fun Q1=>?_)
  ·refine J9 ?_;refine qL Tryz.results8 rfl fun w' aj aa az=>?_;have hE:dA x a=2:=(by rw [do8 hv Yb,if_neg (fun e=>by rw [hq.2 e] at NQ;cases NQ),if_pos (by rw [Fb];exact Q1)]);rw [hE,eU (by rw [hE];decide)];exact aY (m':=aA b s x.now P) ⟨rfl,yK⟩ aj aN aa (ay _ _)
  refine J8 ?_;refine af.aP (α:=Nat×aG×tY) (fun ⟨i,y,Y⟩=>[(10,.int .i64 (i:Nat))]) [(0,_),(3,_)] (fun ⟨i,y,Y⟩=>aA b s y.now Y++(oR b3 a:: [])) (fun ⟨i,y,Y⟩=>i≤a.a.toNat∧y=xK x i∧gm n0 b s y Y∧de (aA b s x.now P) w.heap.size (aA b s y.now Y)) (fun ⟨i,y,Y⟩=>a.a.toNat-i) ((0,x,P)) cF aN ⟨Nat.zero_le _,rfl,h,ay _ _⟩ ?_;rintro ⟨i,y,Y⟩ ⟨hi,hy,hY,hnY⟩;change af _ _ _ _ _ _ _ (aA b s y.now Y++(oR b3 a:: [])) _ _ _;have iR:MI (k+100000*i) y:=(by rw [hy];exact hI.BO i);have o8:y.s=x.s:=(by rw [hy];exact Ep ..)
  refine J9 ?_;refine af.ak rfl (fun h35=>?_) (fun h35=>?_)
  ·refine c9 ?_;refine af.aP (α:=Nat×aG×tY) (fun ⟨c,v,V⟩=>[(11,.int .i64 (c:Nat))]) [(0,_),(3,_),(10,_)] (fun ⟨c,v,V⟩=>aA b s v.now V++(oR b3 a:: [])) (fun ⟨c,v,V⟩=>c≤y.s.cr.toNat∧v=xU y c∧gm n0 b s v V∧de (aA b s x.now P) w.heap.size (aA b s v.now V)) (fun ⟨c,v,V⟩=>y.s.cr.toNat-c) ((0,y,Y)) cF aN ⟨Nat.zero_le _,rfl,hY,hnY⟩ ?_;rintro ⟨c,v,V⟩ ⟨hc9,hv9,hV,V3⟩;change af _ _ _ _ _ _ _ (aA b s v.now V++(oR b3 a:: [])) _ _ _;have hIv:MI (k+100000*i+19400*c) v:=(by rw [hv9];exact iR.R5 hc9);have hvs:v.s=y.s:=(by rw [hv9];exact AO ..);have h4v:=hIv.len;have aj5:y.s.cr=s.cr:=(by rw [o8];exact Fb);have h4y:=iR.len;rw [hvs] at h4v;refine cN ?_;refine af.ak rfl (fun Wr=>?_) (fun Wr=>?_)
   ·have hcv:c<v.cs.length:=om;refine J7 ?_;refine cU Tryz.func25 rfl (fun w hm hc hg=>wE w (gm.m hV) hIv om hcv (hs.keep mj hc (fun b' hb=>by obtain ⟨p,hp,e⟩:=hb;rw [←e];exact h.ge p hp)) mj (Nat.le_trans cm hc.size) (hm.pick _)) (gm.m hV).bE (au V3) ?_;rintro akT ane ⟨rfl,V1,rfl,afm⟩ TL;refine J8 ?_;refine aK (c+1,um v c,V1) ?_ ?_
    · exact⟨by omega,by rw [r9,←hv9],afm,ar V3 TL⟩
    · (dsimp only;omega)
   have hcE:c=y.s.cr.toNat:=om;have Zu:BL y=wc v:=(by rw [hv9,hcE];rfl)
   refine J7 ?_;refine cU Tryz.func26 rfl (fun w hm hc hg=>wS w (gm.m hV) hIv om (Nat.le_trans cm hc.size) (hm.pick _)) (gm.m hV).bE (au V3) ?_;rintro amq alN ⟨rfl,V2,rfl,afY⟩ Vj;refine J8 ?_;refine aK (i+1,wc v,V2) ?_ ?_
   · exact⟨by omega,by rw [←Zu,hy];rfl,afY,ar V3 Vj⟩
   · (dsimp only;omega)
  refine cN ?_;refine qL Tryz.results8 rfl fun w' aj aa az=>?_;have er:i=a.a.toNat:=om;have hE:dA x a=0:=(by rw [do8 hv Yb,if_neg hq8,if_neg (by rw [Fb];exact Q1)]);rw [hE,dx8 hE Yb,←er,←hy];exact aY (m':=aA b s y.now Y) ⟨rfl,hY.m⟩ aj aN aa hnY
 refine J8 ?_;refine qL Tryz.results8 rfl fun w' aj aa az=>?_;have hE:dA x a=1:=(do0 hv om);rw [hE,eU (by rw [hE];decide)];exact aY (m':=aA b s x.now P) ⟨rfl,yK⟩ aj aN aa (ay _ _)
def McN (s:dm) (n0:Nat) (v:Value) (m:ab):Prop:=
  (eu s.C=false∧v= .tuple #[.pointer none,.bool false]∧m=[])∨(eu s.C=true∧∃b,v= .tuple #[.pointer (some ⟨b,0,none⟩),.bool true]∧eF n0 b s (fH s.C) m)
def QL (s:jy) (i:Nat):List bf:=(s.ls.take i).map (fun l=>nY ⟨l.sh,l.sl,l.cr,l.rd,l.wr⟩ s.gs)
theorem v8 {s:jy} {i:Nat} (h:i<s.ls.length):QL s (i+1)=QL s i++ [nY ⟨(s.ls.getD i default).sh,(s.ls.getD i default).sl,(s.ls.getD i default).cr,(s.ls.getD i default).rd,(s.ls.getD i default).wr⟩ s.gs] :=by
  unfold QL;rw [bR default h,List.map_append];rfl
set_option maxHeartbeats 2000000 in
theorem Ey {s:dm} (w:World) (hI:s.In w):aD Tryz.prog 7 #[s.val] w (fun v w'=>Ext w w'∧∃m,McN s w.heap.size v m∧Mem w' m∧∀p∈m,w.heap.size≤p.1):=by
 have hl0:=hI.hl;have kE:=hI.kE;have xR:=hI.xR;refine aD.ao Tryz.func7 rfl Tryz.ntmps7 rfl ([]) (no) (Mem.nil w) ?_;refine J2 ?_;refine LM.box rfl rfl (fun b1 jq=>?_);refine J7 ?_;refine LM.rd (aL Tryz.isAgg30 Tryz.sizeOf30 rfl rfl) ?_;refine cE Tryz.func21 rfl (fun w hm hc hg=>E6 (s:=s) w (hI.ext hc)) ?_;refine J3 ?_;refine af.aJ rfl (fun h1=>?_) (fun h1=>?_)
 ·refine J8 ?_;refine QM.leave (.inl rfl) [.tmp 2,.tmp 3] Tryz.results7 rfl ?_;intro w' aj aa az;exact⟨aa,[],.inl ⟨by simpa using h1,rfl,rfl⟩,Mem.nil _,fun p hp=>by cases hp⟩
 have gD:eu s.C=true:=(by simpa using h1);have h8:s.ls.length≤8:=(jK gD).1;have Fb:1≤s.cr∧s.cr≤4:=u1 gD;refine J3 ?_;refine af.bC (α:=Nat×tY) (fun ⟨b,P⟩=>[(4,.pointer (some ⟨b,0,none⟩))]) [(1,_)] (fun ⟨b,P⟩=>aA b s 0#64 P++(nS b1 s:: [])) (fun ⟨b,P⟩=>gm w.heap.size b s {fH s.C with lk:=[],gp:=[] } P) cF ?_ ?_
 ·refine af.keep (nS b1 s:: []) (fun _=>True) (.one 0 1 (.one 1 0 (.one 2 1 (.one 3 0 (.one 4 1 (.one 6 0 (.one 7 1 (.fork 5 (.fork 8 (.one 9 2 (.one 10 0 (.one 11 2 (.one 12 0 .nil)))) 9 (.one 8 2 (.one 10 0 (.one 11 2 (.one 12 0 .nil))))) 8 (.one 5 2 (.one 9 2 (.one 10 0 (.one 11 2 (.one 12 0 .nil))))))))))))) kr kr aN (fun _ _=>trivial) ?_;refine KD.rd rfl rfl (aL Tryz.isAgg30 Tryz.sizeOf30 rfl rfl) ?_;refine J6 ?_;refine KD.fork rfl rfl ?_ ?_
  ·refine LM.fm (oC Tryz.func22) Uh.mono (fun w hm hc hg=>vz s.cr s.gr w) ?_;rintro u14 TH ⟨bc,rfl,ku⟩ XB;refine J2 ?_;refine KD.fork rfl rfl ?_ ?_
   ·refine LM.xq (f:=fI) (a0:=0) Tryz.underlying26 Tryz.typeInfo3 rfl rfl rfl rfl ir rfl rfl rfl om (by simp only [Tryz.t3];omega) om (by unfold maxLen;omega) (fun pP yM He ru z7=>?_);refine J3 ?_;refine LM.fm (oC Tryz.func23) vc.mono (fun w hm hc hg=>sN w) ?_;rintro u18 m18 ⟨bg,Xc,nx,L6,mx,rfl,rfl,W8,QA,VB⟩ RV;refine J2 ?_;refine KD.val rfl rfl (aC (cs:=#[.int .i64 s.cr,.int .i64 s.gr,.slice s.ga s.gn s.gc,.slice s.la s.ln s.lc,.slice s.pa s.pn s.pc,U 0#64,.pointer (some ⟨bc,0,none⟩),.slice pP yM yM,.slice none 0 0,.slice none 0 0,.pointer (some ⟨bg,0,none⟩),.slice none 0 0,.slice none 0 0,.slice none 0 0]) rfl kr) ?_;refine J1 ?_;refine LM.box rfl rfl (fun YE Le=>?_);refine J4 ?_;refine mK ((YE,⟨bc,bg,[],pP,yM,yM,none,0,0,none,0,0,Xc,nx,L6,none,0,0,none,0,0,none,0,0,He,[],[],mx,[],[],[],TH,[]⟩)) ?_
    · exact⟨by rw [ru];exact(List.length_replicate ..).symm,(by show Sl fI _ 1 _ (List.replicate s.cr.toNat 0) _ _;rw [←ru];exact z7),rfl,rfl,.nil _ _ _ _,km.nil,rfl,.nil _ _ _ _,QA,rfl,VB,rfl,.nil _ _ _ _,rfl,.nil _ _ _ _,rfl,.nil _ _ _ _,ku,Le,W8,rfl⟩
   refine LM.fm (oC Tryz.func23) vc.mono (fun w hm hc hg=>sN w) ?_;rintro u18 m18 ⟨bg,Xc,nx,L6,mx,rfl,rfl,W8,QA,VB⟩ RV;refine J3 ?_;refine LM.xq (f:=fI) (a0:=0) Tryz.underlying26 Tryz.typeInfo3 rfl rfl rfl rfl ir rfl rfl rfl om (by simp only [Tryz.t3];omega) om (by unfold maxLen;omega) (fun pP yM He ru z7=>?_);refine J2 ?_;refine KD.val rfl rfl (aC (cs:=#[.int .i64 s.cr,.int .i64 s.gr,.slice s.ga s.gn s.gc,.slice s.la s.ln s.lc,.slice s.pa s.pn s.pc,U 0#64,.pointer (some ⟨bc,0,none⟩),.slice pP yM yM,.slice none 0 0,.slice none 0 0,.pointer (some ⟨bg,0,none⟩),.slice none 0 0,.slice none 0 0,.slice none 0 0]) rfl kr) ?_;refine J1 ?_;refine LM.box rfl rfl (fun YE Le=>?_);refine J4 ?_;refine mK ((YE,⟨bc,bg,[],pP,yM,yM,none,0,0,none,0,0,Xc,nx,L6,none,0,0,none,0,0,none,0,0,He,[],[],mx,[],[],[],TH,[]⟩)) ?_
   · exact⟨by rw [ru];exact(List.length_replicate ..).symm,(by show Sl fI _ 1 _ (List.replicate s.cr.toNat 0) _ _;rw [←ru];exact z7),rfl,rfl,.nil _ _ _ _,km.nil,rfl,.nil _ _ _ _,QA,rfl,VB,rfl,.nil _ _ _ _,rfl,.nil _ _ _ _,rfl,.nil _ _ _ _,ku,Le,W8,rfl⟩
  refine LM.xq (f:=fI) (a0:=0) Tryz.underlying26 Tryz.typeInfo3 rfl rfl rfl rfl ir rfl rfl rfl om (by simp only [Tryz.t3];omega) om (by unfold maxLen;omega) (fun pP yM He ru z7=>?_);refine J3 ?_;refine LM.fm (oC Tryz.func22) Uh.mono (fun w hm hc hg=>vz s.cr s.gr w) ?_;rintro u14 TH ⟨bc,rfl,ku⟩ XB;refine J3 ?_;refine LM.fm (oC Tryz.func23) vc.mono (fun w hm hc hg=>sN w) ?_;rintro u18 m18 ⟨bg,Xc,nx,L6,mx,rfl,rfl,W8,QA,VB⟩ RV;refine J2 ?_;refine KD.val rfl rfl (aC (cs:=#[.int .i64 s.cr,.int .i64 s.gr,.slice s.ga s.gn s.gc,.slice s.la s.ln s.lc,.slice s.pa s.pn s.pc,U 0#64,.pointer (some ⟨bc,0,none⟩),.slice pP yM yM,.slice none 0 0,.slice none 0 0,.pointer (some ⟨bg,0,none⟩),.slice none 0 0,.slice none 0 0,.slice none 0 0]) rfl kr) ?_;refine J1 ?_;refine LM.box rfl rfl (fun YE Le=>?_);refine J4 ?_;refine mK ((YE,⟨bc,bg,[],pP,yM,yM,none,0,0,none,0,0,Xc,nx,L6,none,0,0,none,0,0,none,0,0,He,[],[],mx,[],[],[],TH,[]⟩)) ?_
  · exact⟨by rw [ru];exact(List.length_replicate ..).symm,(by show Sl fI _ 1 _ (List.replicate s.cr.toNat 0) _ _;rw [←ru];exact z7),rfl,rfl,.nil _ _ _ _,km.nil,rfl,.nil _ _ _ _,QA,rfl,VB,rfl,.nil _ _ _ _,rfl,.nil _ _ _ _,rfl,.nil _ _ _ _,ku,Le,W8,rfl⟩
 rintro ⟨b,P⟩ hP;change QM _ _ _ _ _ (aA b s 0#64 P++(nS b1 s:: [])) _ _ _;have dw:=hP.hb;have CK:Sl fI 3 1 w.heap.size ([] :List Int) (.slice P.ag P.ng P.cg) P.mg:=hP.sg;have h4:=Gb gD;have h4g:s.gs.length≤4:=h4.2;refine J2 ?_;refine af.draw [(0,0),(1,0),(2,0),(3,0),(4,1),(5,0),(6,1),(7,3),(8,3),(9,3),(10,3)] kr kr ?_;refine J7 ?_;refine LD.tail rfl rfl ?_;refine LM.sF (ys:=s.gs) (m:=P.mg) Tryz.underlying26 Tryz.typeInfo3 rfl rfl rfl rfl rfl rfl rfl CK (fun w hm hc hg=>hI.hg.ext hc) ir (by intro _ u hu;simp [fI] at hu;(repeat (first|(rcases hu with rfl|hu)|subst hu|rfl))) (Nat.le_refl _) (fun p hp bD=>absurd bD (Nat.not_lt_of_le (Sl.ge CK p hp))) (by unfold maxLen;simp only [List.length_nil];omega) (by simp only [Tryz.t3,List.length_nil];omega) (fun XD n28 Q4 Z5 afO afp Rk=>?_);refine J2 ?_;refine LM.st Tryz.sizeOf26 rfl rfl rfl dW rfl bV ?_;refine LM.mem (aV.mem (M':=aA b s 0#64 {P with ag:=XD,ng:=n28,cg:=Q4,mg:=Z5} ++(nS b1 s:: [])) aN) ?_;refine J1 ?_;refine QM.qn ?_;refine J8 ?_;refine af.aP (α:=Nat×tY) (fun ⟨i,R⟩=>[(5,.int .i64 (i:Nat))]) [(1,_),(4,_)] (fun ⟨i,R⟩=>aA b s 0#64 R++(nS b1 s:: [])) (fun ⟨i,R⟩=>i≤s.ls.length∧gm w.heap.size b s {fH s.C with lk:=QL s.C i} R) (fun ⟨i,R⟩=>s.ls.length-i) ((0,{P with ag:=XD,ng:=n28,cg:=Q4,mg:=Z5})) cF aN ⟨Nat.zero_le _,{hP with ng:=(by show n28=s.gs.length;rw [afO];simp),sg:=(by show Sl fI _ 1 _ s.gs _ _;exact afp)}⟩ ?_;rintro ⟨i,R⟩ ⟨hi,hR⟩;change af _ _ _ _ _ _ _ (aA b s 0#64 R++(nS b1 s:: [])) _ _ _;have akW:=hR.hb;have iF:(QL s.C i).length=i:=(by unfold QL;rw [List.length_map,List.length_take];show min i s.ls.length=i;omega);have jt:=hR.sl;have xz:R.nl=i:=hR.nl.trans iF;have tU:R.bs.length=i:=hR.bl.trans iF;refine cj ?_;refine af.ak rfl (fun h2=>?_) (fun h2=>?_)
 ·refine J4 ?_;refine af.keep (v9 b s 0#64 R::nS b1 s:: []) (fun _=>True) (.one 0 0 (.one 1 0 (.one 2 0 (.one 3 0 (.one 4 1 (.one 5 0 (.one 6 1 (.one 7 0 (.one 8 0 (.one 9 1 (.one 10 0 (.one 11 1 (.one 12 2 (.one 13 2 (.one 14 2 (.one 15 0 (.one 16 0 (.last 17)))))))))))))))))) kr kr aN (fun _ _=>trivial) ?_;refine J9 ?_;refine KD.eh rfl rfl (dB aB ir Tryz.isAgg83 Tryz.sizeOf83 rfl cJ id) ?_;refine J3 ?_;refine LM.fm (oC Tryz.func24) BV.mono (fun w hm hc hg=>EN ⟨(s.ls.getD i default).sh,(s.ls.getD i default).sl,(s.ls.getD i default).cr,(s.ls.getD i default).rd,(s.ls.getD i default).wr⟩ w xR (hI.hg.ext hc)) ?_;rintro u50 Yl ⟨bq,rfl,QO⟩ aiy;refine J3 ?_;refine LM.single Tryz.underlying43 Tryz.sizeOf54 Tryz.zeroValue54 rfl rfl rfl rfl rfl (fun b51 al0=>?_);refine J3 ?_;refine LM.app (a:=bq) Tryz.underlying43 Tryz.typeInfo54 rfl rfl rfl rfl rfl rfl rfl aB (by rfl) ir (by intro _ u hu;simp [fP] at hu;(repeat (first|(rcases hu with rfl|hu)|subst hu|rfl))) (by first|exact Nat.le_refl _|omega) pH (by first|omega|(unfold maxLen;omega)) (by simp only [Tryz.t54];omega) (fun so DH kF C3 Mw Dy FW=>?_);refine J4 ?_;refine KD.last rfl ?_;refine LM.st Tryz.sizeOf43 rfl rfl rfl dW rfl bV ?_;refine LM.mem (aV.mem (M':=aA b s 0#64 {R with bs:=R.bs++ [bq],al:=so,nl:=DH,cl:=kF,ml:=C3,mq:=R.mq++Yl} ++(nS b1 s:: [])) aN) ?_;refine J1 ?_;refine QM.qn ?_;refine J7 ?_;refine aK (i+1,{R with bs:=R.bs++ [bq],al:=so,nl:=DH,cl:=kF,ml:=C3,mq:=R.mq++Yl}) ?_ ?_
  · have hiS:i<s.C.ls.length:=(by show i<s.ls.length;omega);exact⟨by omega,{hR with nl:=(by show DH=_;rw [Mw,v8 aB,List.length_append,iF];simp [tU]),bl:=(by show (R.bs++ [bq]).length=_;rw [v8 aB,List.length_append,List.length_append,iF,tU];rfl),sl:=Dy,sq:=(by show km NO _ (R.bs++ [bq]) (QL s.C (i+1)) _;rw [v8 aB];exact hR.sq.snoc QO)}⟩
  · (dsimp only;omega)
 refine gy ?_;refine QM.leave (.inl rfl) [.tmp 2,.tmp 3] Tryz.results7 rfl ?_;intro w' aj aa az;have er:i=s.ls.length:=om;have hR2:gm w.heap.size b s (fH s.C) R:=(by have e:QL s.C i=(fH s.C).lk:=(by unfold QL;rw [List.take_of_length_le (show s.C.ls.length≤i by show s.ls.length≤i;omega)];rfl);rw [e] at hR;exact hR);exact⟨aa,aA b s 0#64 R,.inr ⟨gD,b,rfl,hR2.m⟩,aj.pick (aA b s 0#64 R),hR2.ge⟩
theorem A2 (k:Int) (w:World):aD Tryz.prog 87 #[.int .i64 k] w (fun v w'=>v=vS (HG k)∧Ext w w'):=by
 refine aD.ao Tryz.func87 rfl Tryz.ntmps87 rfl ([]) (no) (Mem.nil w) ?_;refine J7 ?_;refine LM.row (vs:=[_,_,_,_,_,_,_,_,_]) Tryz.underlying198 Tryz.sizeOf9 Tryz.zeroValue9 rfl rfl rfl rfl rfl rfl (fun b4 xw=>?_);refine J9 ?_;refine LM.aq (t:=7) rfl (fun h1=>?_) (fun h1=>?_)
 ·refine gy ?_;refine qL Tryz.results87 rfl fun w' aj aa az=>?_;refine ⟨?_,aa⟩;show vS _=_;congr 1;first|(rw [HG,if_neg om];done)|(rw [HG,if_pos om];rfl)
 refine J5 ?_;refine af.ak rfl (fun h2=>?_) (fun h2=>?_)
 ·refine J7 ?_;refine qL Tryz.results87 rfl fun w' aj aa az=>?_;refine ⟨?_,aa⟩;show vS _=_;congr 1;first|(rw [HG,if_neg om];done)|(rw [HG,if_pos om];rfl)
 refine J6 ?_;change LM _ _ _ _ _ _ _ _ ((b4,Obj.cells (arr fB FP []) 9 (0,0))::_) _ _ _;have hs4:Sl fB 9 1 w.heap.size FP (.slice (some ⟨b4,0,none⟩) 9 9) [(b4,.cells (arr fB FP []) 9 (0,0))] := .inr ⟨b4,9,[],xw,rfl,rfl,by decide,by unfold maxLen;decide,rfl⟩;have Oq:FP.length=9:=rfl;refine LM.val (bF j3 Tryz.underlying198 Tryz.sizeOf9 rfl rfl om) ?_;refine LM.rd (bd aB ir Tryz.isAgg9 rfl rfl cJ (by rfl)) ?_;refine J4 ?_;refine qL Tryz.results87 rfl fun w' aj aa az=>?_;refine ⟨?_,aa⟩;show vS _=_;congr 1;first|(rw [HG,if_neg om];done)|(rw [HG,if_pos om];rfl)
theorem Ej (k:Int) (w:World) (hk:0≤k∧k<9):aD Tryz.prog 88 #[.int .i64 k] w (fun v w'=>v= .int .i64 (lI k:Nat)∧Ext w w'):=by
 refine aD.ao Tryz.func88 rfl Tryz.ntmps88 rfl ([]) (no) (Mem.nil w) ?_;refine J7 ?_;refine LM.row (vs:=[_,_,_,_,_,_,_,_,_]) Tryz.underlying26 Tryz.sizeOf3 Tryz.zeroValue3 rfl rfl rfl rfl rfl rfl (fun b4 xw=>?_);refine J7 ?_;change LM _ _ _ _ _ _ _ _ ((b4,Obj.cells (arr fI yr []) 3 (0,0))::_) _ _ _;have hs4:Sl fI 3 1 w.heap.size yr (.slice (some ⟨b4,0,none⟩) 9 9) [(b4,.cells (arr fI yr []) 3 (0,0))] := .inr ⟨b4,9,[],xw,rfl,rfl,by decide,by unfold maxLen;decide,rfl⟩;have Oq:yr.length=9:=rfl;refine LM.val (bF j3 Tryz.underlying26 Tryz.sizeOf3 rfl rfl om) ?_;refine LM.rd (bd aB ir Tryz.isAgg3 rfl rfl (by exact aO 0 cK) (by rfl)) ?_;refine J4 ?_;refine qL Tryz.results88 rfl fun w' aj aa az=>?_;refine ⟨?_,aa⟩;show Value.int .i64 (yr.getD k.toNat 0)=_;rw [Ih hk]
theorem L8 {k:Int} {xs:List Int} (i:Nat) (n:Int) (w:World) (hi:i<4) (hx:xs.length=4):aD Tryz.prog 89 #[.agg (fA (IA k xs)).toArray,.int .i64 (i:Nat),.int .i64 n] w (fun v w'=>v= .agg (fA (IA k (xs.set i n))).toArray∧Ext w w'):=by
 refine aD.ao Tryz.func89 rfl Tryz.ntmps89 rfl ([]) (no) (Mem.nil w) ?_;refine J2 ?_;refine LM.box rfl rfl (fun b3 xu=>?_);refine LM.alloc Tryz.zeroValue37 rfl (fun b6 Rs=>?_);refine J9 ?_;refine af.ak rfl (fun h1=>?_) (fun h1=>?_)
 ·refine J3 ?_;refine LM.st Tryz.sizeOf3 rfl rfl rfl dW rfl bV ?_;refine J4 ?_;refine LM.rd (aL Tryz.isAgg37 Tryz.sizeOf37 rfl rfl) ?_;refine LM.dh Tryz.sizeOf37 rfl rfl rfl rfl df bV ?_;refine J3 ?_;refine QM.aH (ds:=([])) (.inl rfl) [.cell 6 37] Tryz.results89 aX (bY rfl Tryz.isAgg37 Tryz.sizeOf37 rfl aW) ?_;intro w' aj aa;refine ⟨?_,aa⟩;have RP:i=0∨i=1∨i=2∨i=3:=om;match xs,hx with| [a0,a1,a2,a3],_=>(rcases RP with rfl|rfl|rfl|rfl<;>first|rfl|(exfalso;omega))
 refine J6 ?_;refine af.ak rfl (fun h2=>?_) (fun h2=>?_)
 ·refine J3 ?_;refine LM.st Tryz.sizeOf3 rfl rfl rfl dW rfl bV ?_;refine J4 ?_;refine LM.rd (aL Tryz.isAgg37 Tryz.sizeOf37 rfl rfl) ?_;refine LM.dh Tryz.sizeOf37 rfl rfl rfl rfl df bV ?_;refine J3 ?_;refine QM.aH (ds:=([])) (.inl rfl) [.cell 6 37] Tryz.results89 aX (bY rfl Tryz.isAgg37 Tryz.sizeOf37 rfl aW) ?_;intro w' aj aa;refine ⟨?_,aa⟩;have RP:i=0∨i=1∨i=2∨i=3:=om;match xs,hx with| [a0,a1,a2,a3],_=>(rcases RP with rfl|rfl|rfl|rfl<;>first|rfl|(exfalso;omega))
 refine J6 ?_;refine af.ak rfl (fun h3=>?_) (fun h3=>?_)
 ·refine J3 ?_;refine LM.st Tryz.sizeOf3 rfl rfl rfl dW rfl bV ?_;refine J4 ?_;refine LM.rd (aL Tryz.isAgg37 Tryz.sizeOf37 rfl rfl) ?_;refine LM.dh Tryz.sizeOf37 rfl rfl rfl rfl df bV ?_;refine J3 ?_;refine QM.aH (ds:=([])) (.inl rfl) [.cell 6 37] Tryz.results89 aX (bY rfl Tryz.isAgg37 Tryz.sizeOf37 rfl aW) ?_;intro w' aj aa;refine ⟨?_,aa⟩;have RP:i=0∨i=1∨i=2∨i=3:=om;match xs,hx with| [a0,a1,a2,a3],_=>(rcases RP with rfl|rfl|rfl|rfl<;>first|rfl|(exfalso;omega))
 refine J3 ?_;refine LM.st Tryz.sizeOf3 rfl rfl rfl dW rfl bV ?_;refine J4 ?_;refine LM.rd (aL Tryz.isAgg37 Tryz.sizeOf37 rfl rfl) ?_;refine LM.dh Tryz.sizeOf37 rfl rfl rfl rfl df bV ?_;refine J3 ?_;refine QM.aH (ds:=([])) (.inl rfl) [.cell 6 37] Tryz.results89 aX (bY rfl Tryz.isAgg37 Tryz.sizeOf37 rfl aW) ?_;intro w' aj aa;refine ⟨?_,aa⟩;have RP:i=0∨i=1∨i=2∨i=3:=om;match xs,hx with| [a0,a1,a2,a3],_=>(rcases RP with rfl|rfl|rfl|rfl<;>first|rfl|(exfalso;omega))
theorem Si {ws:List bG} {i j:Nat} {xs:List Int} (h:c6 ws i≠0) (h2:qQ ws i=(j,5,xs)):jL ws i=(default,j,5):=by unfold jL;rw [if_neg h,h2,if_pos (show (5:Int)≠0 by decide)]
theorem Vp {ws:List bG} {i j:Nat} {xs:List Int} (h:c6 ws i≠0) (h2:qQ ws i=(j,0,xs)) (h3:iB ws j 3 [59] =false):jL ws i=(default,j,5):=by unfold jL;rw [if_neg h,h2,if_neg (fun q=>q rfl),if_neg (by rw [h3];simp)]
theorem Qe {ws:List bG} {i j:Nat} {xs:List Int} (h:c6 ws i≠0) (h2:qQ ws i=(j,0,xs)) (h3:iB ws j 3 [59] =true):jL ws i=(IA (c6 ws i) xs,j+1,0):=by unfold jL;rw [if_neg h,h2,if_neg (fun q=>q rfl),if_pos h3]
theorem Ig {ws:List bG} {f j i:Nat} {xs:List Int} (hf:0<f) (h:(decide (ws.length≤j)||decide ((ws.getD j default).k≠2))=true):vK ws f j i xs=(j,5,xs):=by
  obtain ⟨g,rfl⟩:∃g,f=g+1:=⟨f-1,by omega⟩
  unfold vK;rw [if_pos h]
theorem GY {ws:List bG} {f j i:Nat} {xs:List Int} (hf:0<f) (h:(decide (ws.length≤j)||decide ((ws.getD j default).k≠2))=false):vK ws f j i xs=vK ws (f-1) (j+1) (i+1) (xs.set i (ws.getD j default).n):=by
  obtain ⟨g,rfl⟩:∃g,f=g+1:=⟨f-1,by omega⟩
  conv=>lhs;unfold vK
  rw [if_neg (by rw [h];simp),Nat.add_sub_cancel]
def Xt (r:List Act×Int×Int) (n0:Nat) (v:Value) (m:ab):Prop:=∃ad n cap,v= .tuple #[.slice ad n cap,.int .i64 r.2.1,.int .i64 r.2.2]∧n=r.1.length∧Sl fA 37 5 n0 r.1 (.slice ad n cap) m
theorem Xt.mono {r:List Act×Int×Int} :∀(k k':Nat) u m,k'≤k→Xt r k u m→Xt r k' u m:=fun k k' u m h ⟨ad,n,cap,h1,h2,h3⟩=>⟨ad,n,cap,h1,h2,h3.mono h⟩
def mY (ws:List bG) (i:Nat):Nat→Int
  |0=>0
  |m+1=>if iB ws i 1 (HG ((m+1:Nat):Int)) then ((m+1:Nat):Int) else mY ws i m
theorem Qo {k:Nat} (h:k<9):HG (k:Int)=FP.getD k [] :=by unfold HG;rw [if_pos om,Int.toNat_natCast]
theorem Lg (ws:List bG) (i:Nat):mY ws i 8=c6 ws i:=by
  unfold c6
  cases hc:(decide (i<ws.length)&&decide ((ws.getD i default).k=1)) with
  |false=>
    rw [if_neg (by simp)]
    have:∀m,mY ws i m=0:=by
      intro m
      induction m with
      |zero=>rfl
      |succ m ih=>unfold mY iB;rw [hc,Bool.false_and,if_neg (by simp),ih]
    exact this 8
  |true=>
    rw [if_pos rfl,←GK]
    have:∀m,m≤8→mY ws i m=A1 (ws.getD i default).t m:=by
      intro m
      induction m with
      |zero=>intro _;rfl
      |succ m ih=>
        intro hm
        unfold mY A1 iB;rw [hc,Bool.true_and,ih om,Qo om]
        by_cases q:(ws.getD i default).t=FP.getD (m+1) []
        · rw [if_pos q,if_pos (decide_eq_true q)]
        · rw [if_neg q,if_neg (by rw [decide_eq_false q];simp)]
    exact this 8 (Nat.le_refl _)
theorem PF {ws:List bG} {i k:Nat} (h1:1≤k) (h:iB ws i 1 (HG (k:Int))=true):mY ws i k=(k:Int):=by
  obtain ⟨m,rfl⟩:∃m,k=m+1:=⟨k-1,by omega⟩
  unfold mY;rw [if_pos h]
theorem PV {ws:List bG} {i k:Nat} (h1:1≤k) (h:iB ws i 1 (HG (k:Int))=false):mY ws i k=mY ws i (k-1):=by
  obtain ⟨m,rfl⟩:∃m,k=m+1:=⟨k-1,by omega⟩
  rw [show m+1-1=m by omega]
  conv=>lhs;unfold mY
  rw [if_neg (by rw [h];simp)]
theorem Pt {ws:List bG} {i:Nat} {out:List Act} (h:i<ws.length) (h0:c6 ws i=0):ko ws i out=([],(i:Int),5):=by rw [lP h,if_pos h0]
theorem N5 {ws:List bG} {i:Nat} {out:List Act} (h:i<ws.length) (h0:c6 ws i≠0) (h1:out.length=4000):ko ws i out=([],(i:Int),6):=by rw [lP h,if_neg h0,if_pos h1]
theorem FR {ws:List bG} {i j:Nat} {out:List Act} (h:i<ws.length) (h0:c6 ws i≠0) (h1:out.length≠4000) (he:jL ws i=(default,j,5)):ko ws i out=([],(j:Int),5):=by rw [lP h,if_neg h0,if_neg h1,if_pos (by rw [he];exact(show (5:Int)≠0 by decide)),he]
theorem OD {ws:List bG} {i j:Nat} {a:Act} {out:List Act} (h:i<ws.length) (h0:c6 ws i≠0) (h1:out.length≠4000) (he:jL ws i=(a,j,0)):ko ws i out=ko ws j (out++ [a]):=by rw [lP h,if_neg h0,if_neg h1,if_neg (by rw [he];exact fun q=>q rfl),he]
set_option maxHeartbeats 1000000 in
theorem Ao {ws:List bG} {ad:Option Addr} {n cap:Nat} (p:Int) (w:World) (hn:n=ws.length) (hx:ws.length≤1000000000) (hl:Sr fW 4 ws (.slice ad n cap) w):aD Tryz.prog 47 #[.slice ad n cap,.int .i64 p] w (fun v w'=>Ext w w'∧∃m,Xt (lF ws p) w.heap.size v m∧Mem w' m∧∀p∈m,w.heap.size≤p.1):=by
 refine aD.ao Tryz.func47 rfl Tryz.ntmps47 rfl ([]) (no) (Mem.nil w) ?_;refine gy ?_;refine LM.aq (t:=14) rfl (fun h1=>?_) (fun h1=>?_)
 ·refine yi ?_;refine QM.leave (.inl rfl) [.tmp 4,.tmp 5,.tmp 6] Tryz.results47 rfl ?_;intro w' aj aa az;have rz:lF ws p=([],0,5):=(by unfold lF;rw [if_pos om]);rw [rz];exact⟨aa,[],⟨none,0,0,rfl,rfl,.nil _ _ _ _⟩,Mem.nil _,fun p hp=>by cases hp⟩
 refine J7 ?_;refine af.ak rfl (fun h2=>?_) (fun h2=>?_)
 ·refine J9 ?_;refine QM.leave (.inl rfl) [.tmp 4,.tmp 5,.tmp 6] Tryz.results47 rfl ?_;intro w' aj aa az;have rz:lF ws p=([],0,5):=(by unfold lF;rw [if_pos om]);rw [rz];exact⟨aa,[],⟨none,0,0,rfl,rfl,.nil _ _ _ _⟩,Mem.nil _,fun p hp=>by cases hp⟩
 obtain ⟨i0,rfl⟩:∃i0:Nat,p=(i0:Nat):=⟨p.toNat,by omega⟩;have th:i0≤ws.length:=om;refine J9 ?_;refine af.aP (α:=Nat×List Act×Option Addr×Nat×Nat×ab) (fun ⟨i,out,fp,no,cH,mo⟩=>[(1,.int .i64 (i:Nat)),(7,.slice fp no cH)]) [(0,_)] (fun ⟨i,out,fp,no,cH,mo⟩=>mo++ []) (fun ⟨i,out,fp,no,cH,mo⟩=>i≤ws.length∧ko ws i out=ko ws i0 []∧no=out.length∧Sl fA 37 5 w.heap.size out (.slice fp no cH) mo∧out.length≤4000) (fun ⟨i,out,fp,no,cH,mo⟩=>ws.length-i) ((i0,[],none,0,0,[])) cF aN ⟨by omega,rfl,rfl,.nil _ _ _ _,by decide⟩ ?_;rintro ⟨i,out,fp,no,cH,mo⟩ ⟨hi,hL,gZ,mj,ZR⟩;change af _ _ _ _ _ _ _ (mo++ []) _ _ _;refine J9 ?_;refine af.ak rfl (fun h3=>?_) (fun h3=>?_)
 ·have Ib:i<ws.length:=om;refine py ?_;refine af.aP (α:=Nat×Int) (fun ⟨k,kd⟩=>[(8,.int .i64 kd),(9,.int .i64 (k:Nat))]) [(0,_),(1,_),(7,_)] (fun ⟨k,kd⟩=>mo++ []) (fun ⟨k,kd⟩=>1≤k∧k≤9∧kd=mY ws i (k-1)) (fun ⟨k,kd⟩=>9-k) ((1,0)) cF aN ⟨by omega,by omega,rfl⟩ ?_;rintro ⟨k,kd⟩ ⟨xY,Pf,Vz⟩;change af _ _ _ _ _ _ _ (mo++ []) _ _ _;refine J7 ?_;refine af.ak rfl (fun h4=>?_) (fun h4=>?_)
  ·refine J5 ?_;refine af.bC (α:=Bool) (fun q=>[(43,.bool q)]) [(0,_),(1,_),(7,_),(8,_),(9,_)] (fun q=>mo++ []) (fun q=>q=iB ws i 1 (HG (k:Int))) cF ?_ ?_
   ·refine af.draw [(0,0),(1,0),(2,0),(3,0),(4,1),(5,0),(6,0),(7,0),(8,0),(9,0),(10,0),(11,1),(12,0),(13,2),(14,0),(15,0)] kr kr ?_;refine J4 ?_;refine LD.eh rfl rfl (da (j:=0) aB Tryz.isAgg3 rfl rfl cJ (by rfl) (by rfl) id) ?_;refine J2 ?_;refine LD.aq (t:=34) rfl (fun h5=>?_) (fun h5=>?_)
    ·refine J4 ?_;refine LD.eh rfl ⟨34,_,rfl,rfl,rfl⟩ (da (j:=1) aB Tryz.isAgg9 rfl rfl cJ (by rfl) (by rfl) id) ?_;refine J1 ?_;refine dE rfl ⟨34,_,rfl,rfl,rfl⟩ Tryz.func87 rfl (fun w hm hc hg=>A2 _ w) ?_;refine LD.val rfl ⟨34,_,rfl,rfl,rfl⟩ (rj rfl rfl) ?_;refine J2 ?_;refine mK (_) ?_
     · unfold iB;rw [decide_eq_true Ib,decide_eq_true (show (ws.getD i default).k=1 by omega)];rfl
    refine cj ?_;refine mK (_) ?_
    · unfold iB;rw [decide_eq_false (show¬(ws.getD i default).k=1 by omega)];simp
   rintro q hq;change QM _ _ _ _ _ (mo++ []) _ _ _;refine J1 ?_;refine af.aJ rfl (fun h6=>?_) (fun h6=>?_)
   ·refine c9 ?_;refine aK ((k+1,(k:Int))) ?_ ?_
    · exact⟨by omega,by omega,(PF xY (hq.symm.trans h6)).symm⟩
    · (dsimp only;omega)
   refine J8 ?_;refine aK ((k+1,kd)) ?_ ?_
   · exact⟨by omega,by omega,by rw [Vz];exact(PV xY (hq.symm.trans h6)).symm⟩
   · (dsimp only;omega)
  obtain rfl:k=9:=om;obtain rfl:kd=c6 ws i:=Vz.trans (Lg ws i);have W5:=Hp ws i;refine cN ?_;refine af.ak rfl (fun h7=>?_) (fun h7=>?_)
  ·refine kk ?_;refine QM.leave (.inl rfl) [.tmp 4,.tmp 5,.tmp 6] Tryz.results47 rfl ?_;intro w' aj aa az;rw [oG th,←hL,Pt Ib om];exact⟨aa,[],⟨none,0,0,rfl,rfl,.nil _ _ _ _⟩,Mem.nil _,fun p hp=>by cases hp⟩
  refine cj ?_;refine af.ak rfl (fun h8=>?_) (fun h8=>?_)
  ·refine kk ?_;refine QM.leave (.inl rfl) [.tmp 4,.tmp 5,.tmp 6] Tryz.results47 rfl ?_;intro w' aj aa az;rw [oG th,←hL,N5 Ib h7 om];exact⟨aa,[],⟨none,0,0,rfl,rfl,.nil _ _ _ _⟩,Mem.nil _,fun p hp=>by cases hp⟩
  refine cN ?_;refine LM.val (aC (cs:=#[_,_,_,_,_]) rfl (by first|rfl|kernel_rfl)) ?_;refine LM.alloc Tryz.zeroValue37 rfl (fun yu SF=>?_);refine LM.dh Tryz.sizeOf37 rfl rfl rfl rfl df bV ?_;refine J9 ?_;refine af.aP (α:=Nat×Nat×List Int) (fun ⟨k,j,xs⟩=>[(1,.int .i64 (j:Nat)),(11,.int .i64 (k:Nat))]) [(0,_),(7,_),(8,_),(10,_)] (fun ⟨k,j,xs⟩=>(yu,.cells (fA (IA (c6 ws i) xs)).toArray 37 (0,0))::(mo++ [])) (fun ⟨k,j,xs⟩=>k≤lI (c6 ws i)∧j≤ws.length∧xs.length=4∧vK ws (lI (c6 ws i)-k) j k xs=qQ ws i) (fun ⟨k,j,xs⟩=>lI (c6 ws i)-k) ((0,i+1,T6)) cF aN ⟨Nat.zero_le _,by omega,rfl,rfl⟩ ?_;rintro ⟨k,j,xs⟩ ⟨hkm,hj,hx4,hN⟩;change af _ _ _ _ _ _ _ ((yu,.cells (fA (IA (c6 ws i) xs)).toArray 37 (0,0))::(mo++ [])) _ _ _;have hm4:=L0 (c6 ws i);refine J5 ?_;refine cE Tryz.func88 rfl (fun w hm hc hg=>Ej _ w om) ?_;refine J3 ?_;refine af.ak rfl (fun h9=>?_) (fun h9=>?_)
  ·refine J6 ?_;refine af.bC (α:=Bool) (fun q=>[(73,.bool q)]) [(0,_),(1,_),(7,_),(8,_),(10,_),(11,_)] (fun q=>(yu,.cells (fA (IA (c6 ws i) xs)).toArray 37 (0,0))::(mo++ [])) (fun q=>q=(decide (ws.length≤j)||decide ((ws.getD j default).k≠2))) cF ?_ ?_
   ·refine J6 ?_;refine LM.aq (t:=66) rfl (fun gh=>?_) (fun gh=>?_)
    ·refine J8 ?_;refine mK (_) ?_
     · rw [decide_eq_true (show ws.length≤j by omega),Bool.true_or]
    refine J2 ?_;refine LM.sp 66 rfl rfl rfl ?_;refine J3 ?_;refine LM.eh (da (j:=0) aB Tryz.isAgg3 rfl rfl cJ (by rfl) (by rfl) id) ?_;refine J3 ?_;refine mK (_) ?_
    · rw [decide_eq_false (show¬ws.length≤j by omega),Bool.false_or]
   rintro q hq;change QM _ _ _ _ _ ((yu,.cells (fA (IA (c6 ws i) xs)).toArray 37 (0,0))::(mo++ [])) _ _ _;refine J1 ?_;refine af.aJ rfl (fun jf=>?_) (fun jf=>?_)
   ·refine O2 ?_;refine QM.leave (.inl rfl) [.tmp 4,.tmp 5,.tmp 6] Tryz.results47 rfl ?_;intro w' aj aa az;have ZY:qQ ws i=(j,5,xs):=(by rw [←hN,Ig om (hq.symm.trans jf)]);rw [oG th,←hL,FR Ib h7 om (Si h7 ZY)];exact⟨aa,[],⟨none,0,0,rfl,rfl,.nil _ _ _ _⟩,Mem.nil _,fun p hp=>by cases hp⟩
   have hjn:j<ws.length:=(by have h:=hq.symm.trans jf;simp only [Bool.or_eq_false_iff,decide_eq_false_iff_not] at h;omega)
   refine J3 ?_;refine af.draw [(0,1),(1,0),(2,0),(3,0),(4,0),(5,0),(6,1),(7,2),(8,3)] kr kr ?_;refine LD.rd rfl rfl (aL Tryz.isAgg37 Tryz.sizeOf37 rfl rfl) ?_;refine J5 ?_;refine LD.eh rfl rfl (da (j:=2) aB Tryz.isAgg3 rfl rfl cJ (by rfl) (by rfl) id) ?_;refine dE rfl rfl Tryz.func89 rfl (fun w hm hc hg=>L8 k _ w om hx4) ?_;refine LD.tail rfl rfl ?_;refine LM.dh Tryz.sizeOf37 rfl rfl rfl rfl df bV ?_;refine J1 ?_;refine QM.qn ?_;refine gy ?_;refine aK ((k+1,j+1,xs.set k (ws.getD j default).n)) ?_ ?_
   · exact⟨by omega,by omega,by simpa using hx4,by rw [show lI (c6 ws i)-(k+1)=lI (c6 ws i)-k-1 by omega,←GY om (hq.symm.trans jf)];exact hN⟩
   · (dsimp only;omega)
  refine J7 ?_;refine af.bC (α:=Bool) (fun q=>[(104,.bool q)]) [(0,_),(1,_),(7,_),(10,_)] (fun q=>(yu,.cells (fA (IA (c6 ws i) xs)).toArray 37 (0,0))::(mo++ [])) (fun q=>q= !iB ws j 3 [59]) cF ?_ ?_
  ·refine J6 ?_;refine LM.aq (t:=89) rfl (fun lJ=>?_) (fun lJ=>?_)
   ·refine pQ ?_;refine mK (_) ?_
    · unfold iB;rw [decide_eq_false (show¬j<ws.length by omega)];rfl
   refine J2 ?_;refine LM.sp 89 rfl rfl rfl ?_;refine J3 ?_;refine LM.eh (da (j:=0) aB Tryz.isAgg3 rfl rfl cJ (by rfl) (by rfl) id) ?_;refine J3 ?_;refine LM.aq (t:=97) rfl (fun oK=>?_) (fun oK=>?_)
   ·refine J8 ?_;refine mK (_) ?_
    · unfold iB;rw [decide_eq_true (show j<ws.length by omega),decide_eq_false (show¬(ws.getD j default).k=3 by omega)];rfl
   refine J2 ?_;refine LM.sp 97 rfl rfl rfl ?_;refine J3 ?_;refine LM.eh (da (j:=1) aB Tryz.isAgg9 rfl rfl cJ (by rfl) (by rfl) id) ?_;refine LM.sp 97 rfl rfl rfl ?_;refine LM.val (CO rfl rfl) ?_;refine J2 ?_;refine mK (_) ?_
   · unfold iB;rw [decide_eq_true (show j<ws.length by omega),decide_eq_true (show (ws.getD j default).k=3 by omega)];simp only [Bool.true_and,decide_not]
  rintro q hq;change QM _ _ _ _ _ ((yu,.cells (fA (IA (c6 ws i) xs)).toArray 37 (0,0))::(mo++ [])) _ _ _;refine J1 ?_;refine af.aJ rfl (fun ku=>?_) (fun ku=>?_)
  ·refine kk ?_;refine QM.leave (.inl rfl) [.tmp 4,.tmp 5,.tmp 6] Tryz.results47 rfl ?_;intro w' aj aa az;have ZY:qQ ws i=(j,0,xs):=(by rw [←hN,show lI (c6 ws i)-k=0 by omega];rfl);rw [oG th,←hL,FR Ib h7 om (Vp h7 ZY (by simpa using hq.symm.trans ku))];exact⟨aa,[],⟨none,0,0,rfl,rfl,.nil _ _ _ _⟩,Mem.nil _,fun p hp=>by cases hp⟩
  refine c9 ?_;refine LM.rd (aL Tryz.isAgg37 Tryz.sizeOf37 rfl rfl) ?_;refine LM.single Tryz.underlying22 Tryz.sizeOf37 Tryz.zeroValue37 rfl rfl rfl rfl rfl (fun amo aiG=>?_);refine LM.app (a:=IA (c6 ws i) xs) Tryz.underlying22 Tryz.typeInfo37 rfl rfl rfl rfl rfl rfl rfl aB (by rfl) ir (by intro _ u hu;simp [fA] at hu;(repeat (first|(rcases hu with rfl|hu)|subst hu|rfl))) (by first|exact Nat.le_refl _|omega) pH (by first|omega|(unfold maxLen;omega)) (by simp only [Tryz.t37];omega) (fun XI ae4 S0 afJ Zo aax aft=>?_);refine J3 ?_;have ZY:qQ ws i=(j,0,xs):=(by rw [←hN,show lI (c6 ws i)-k=0 by omega];rfl);have hjs:iB ws j 3 [59] =true:=(by simpa using hq.symm.trans ku);have Ax:=Qe h7 ZY hjs;have bD:=zY (ws:=ws) (i:=i) (by rw [Ax]);rw [Ax] at bD;have bD:i<j+1∧j+1≤ws.length:=bD;refine aK ((j+1,out++ [IA (c6 ws i) xs],XI,ae4,S0,afJ)) ?_ ?_
  · exact⟨bD.2,(OD Ib h7 om Ax).symm.trans hL,by rw [Zo];simp,aax,by simp;omega⟩
  · (dsimp only;omega)
 refine py ?_;refine QM.leave (.inl rfl) [.tmp 4,.tmp 5,.tmp 6] Tryz.results47 rfl ?_;intro w' aj aa az;rw [oG th,←hL,HW om];exact⟨aa,mo,⟨fp,no,cH,rfl,gZ,mj⟩,aj.pick _,fun p hp=>Sl.ge mj p hp⟩
end Go.Eng
namespace Go.Eng
open Go Go.RowKit
theorem pd (s:List UInt8):∀(f i:Nat) (last:Int) (out:List bG),(kv f s i last out).1.length≤out.length+f
  |0,i,last,out=>Nat.le_refl _
  |f+1,i,last,out=>by
    rw [kv]
    split
    · show out.length≤_;omega
    split
    · have:=pd s f (i+1) last out;omega
    split
    · have:=pd s f (i+gx lj s i) last out;omega
    split
    · exact Nat.zero_le _
    · have:=pd s f (fw s i).2.1 ((fw s i).2.1:Nat) (out++ [(fw s i).1]);rw [List.length_append,List.length_singleton] at this;omega
theorem I3 (s:List UInt8):(eA s).1.length≤s.length:=by
  unfold eA;split
  · exact Nat.zero_le _
  · have:=pd s (s.length-0) 0 (-1) [];unfold gU;simp only [List.length_nil] at this;omega
end Go.Eng
namespace Go.Eng
open Go Go.Proofs Go.RowKit
def s5 (s:List UInt8) (ws:List bG) (p:Int):Int:=if p<ws.length then (ws.getD p.toNat default).p else s.length
def jo (s:List UInt8):jy×List Act×Int×Int:=
  if (eA s).2.2≠0 then (default,[],(eA s).2.1,(eA s).2.2)
  else if (lq (eA s).1 0).2.2≠0 then (default,[],s5 s (eA s).1 (lq (eA s).1 0).2.1,(lq (eA s).1 0).2.2)
  else if (lF (eA s).1 (lq (eA s).1 0).2.1).2.2≠0 then (default,[],s5 s (eA s).1 (lF (eA s).1 (lq (eA s).1 0).2.1).2.1,(lF (eA s).1 (lq (eA s).1 0).2.1).2.2)
  else ((lq (eA s).1 0).1,(lF (eA s).1 (lq (eA s).1 0).2.1).1,0,0)
theorem JF {ws:List bG} :∀(f i:Nat) (e:Int) (ps:List qx) (pl:List Int),(∀x∈pl,0≤x)→∀x∈(De ws f i e ps pl).2.1,0≤x
  |0,i,e,ps,pl,h=>by unfold De;split<;>exact h
  |f+1,i,e,ps,pl,h=>by
    unfold De;split
    · refine JF f _ _ _ _ (fun x hx=>?_)
      rcases List.mem_append.1 hx with hx|hx
      · exact h x hx
      · rw [List.mem_singleton] at hx;omega
    · exact h
theorem O4 (ws:List bG) (p:Int):0≤(lq ws p).2.1:=by
  unfold lq ux
  split
  · exact Int.le_refl _
  split
  · show (0:Int)≤((sP ws p.toNat).2.2.1:Int);omega
  split
  · show (0:Int)≤(sP ws p.toNat).2.1.getD _ 0
    rw [List.getD_eq_getElem?_getD];cases h:(sP ws p.toNat).2.1[(pO (sL ws p.toNat).1 (sP ws p.toNat).1).toNat]? with
    |none=>exact Int.le_refl _
    |some x=>exact JF _ _ _ _ _ (fun x hx=>by cases hx) x (List.mem_of_getElem? h)
  · show (0:Int)≤((sP ws p.toNat).2.2.1:Int);omega
theorem I2 (ws:List bG) (p:Int):0≤(lF ws p).2.1:=by
  have key:∀(f i:Nat) (out:List Act),0≤(iV f ws i out).2.1:=by
    intro f
    induction f with
    |zero=>intro i out;show (0:Int)≤(i:Int);omega
    |succ f ih=>
      intro i out
      unfold iV
      split
      · show (0:Int)≤(i:Int);omega
      split
      · show (0:Int)≤(i:Int);omega
      split
      · show (0:Int)≤(i:Int);omega
      split
      · show (0:Int)≤((jL ws i).2.1:Int);omega
      · exact ih _ _
  unfold lF;split
  · exact Int.le_refl _
  · exact key _ _ _
structure VS where
  sv:dm
  xs:List Act
  ad:Option Addr
  n:Nat
  cap:Nat
abbrev VS.val (x:VS):Value:= .agg #[.int .i64 x.sv.cr,.int .i64 x.sv.gr,.slice x.sv.ga x.sv.gn x.sv.gc,.slice x.sv.la x.sv.ln x.sv.lc,.slice x.sv.pa x.sv.pn x.sv.pc,.slice x.ad x.n x.cap]
structure VS.In (x:VS) (w:World):Prop where
  st:x.sv.In w
  hn:x.n=x.xs.length
  hx:Sr fA 5 x.xs (.slice x.ad x.n x.cap) w
def JC (r:jy×List Act×Int×Int) (n0:Nat) (v:Value) (m:ab):Prop:=∃x:VS,v= .tuple #[x.val,.int .i64 r.2.2.1,.int .i64 r.2.2.2]∧x.sv.C=r.1∧x.xs=r.2.1∧∀w,Mem w m→x.In w
theorem JC.mono {r:jy×List Act×Int×Int} :∀(k k':Nat) u m,k'≤k→JC r k u m→JC r k' u m:=fun k k' u m h q=>q
theorem JC.T0 {p e:Int} {n0:Nat} :JC (default,[],p,e) n0 (.tuple #[.agg #[.int .i64 0,.int .i64 0,.slice none 0 0,.slice none 0 0,.slice none 0 0,.slice none 0 0],.int .i64 p,.int .i64 e]) [] :=
  ⟨⟨default,[],Option.none,0,0⟩,rfl,rfl,rfl,fun w _=>⟨⟨rfl,.nil _ _ _,rfl,.nil _ _ _,rfl,.nil _ _ _,fun p hp=>by cases hp⟩,rfl,.nil _ _ _⟩⟩
theorem Af {ws:List bG} {ad:Option Addr} {n cap:Nat} (s:List UInt8) (j:Nat) (w:World) (hn:n=ws.length) (hl:Sr fW 4 ws (.slice ad n cap) w):aD Tryz.prog 46 #[vS s,.slice ad n cap,.int .i64 (j:Nat)] w (fun v w'=>v= .int .i64 (s5 s ws (j:Nat))∧Ext w w'):=by
 refine aD.ao Tryz.func46 rfl Tryz.ntmps46 rfl ([]) (no) (Mem.nil w) ?_;refine kk ?_;refine af.ak rfl (fun h1=>?_) (fun h1=>?_)
 ·refine J6 ?_;refine LM.eh (da (j:=3) aB Tryz.isAgg3 rfl rfl cJ (by rfl) (by rfl) id) ?_;refine J5 ?_;refine qL Tryz.results46 rfl fun w' aj aa az=>?_;refine ⟨?_,aa⟩;unfold s5;rw [if_pos om,Int.toNat_natCast];rfl
 refine J5 ?_;refine LM.val (jR Tryz.underlying9 rfl) ?_;refine J4 ?_;refine qL Tryz.results46 rfl fun w' aj aa az=>?_;refine ⟨?_,aa⟩;unfold s5;rw [if_neg om];rfl
theorem tL {ws:List bG} {ad:Option Addr} {n cap:Nat} (s:List UInt8) (p:Int) (w:World) (hn:n=ws.length) (hl:Sr fW 4 ws (.slice ad n cap) w) (hp0:0≤p):
    aD Tryz.prog 46 #[vS s,.slice ad n cap,.int .i64 p] w (fun v w'=>v= .int .i64 (s5 s ws p)∧Ext w w'):=by
  obtain ⟨j,rfl⟩:∃j:Nat,p=(j:Int):=⟨p.toNat,by omega⟩
  exact Af s j w hn hl
theorem sa (s:List UInt8) (w:World) (hs:s.length≤1000000000):aD Tryz.prog 20 #[vS s] w (fun v w'=>Ext w w'∧∃m,JC (jo s) w.heap.size v m∧Mem w' m∧∀p∈m,w.heap.size≤p.1):=by
 refine aD.ao Tryz.func20 rfl Tryz.ntmps20 rfl ([]) (no) (Mem.nil w) ?_;refine J2 ?_;refine LM.alloc Tryz.zeroValue75 rfl (fun b2 xr=>?_);refine J7 ?_;refine LM.fm (oC Tryz.func44) X5.mono (fun w hm hc hg=>Hl w om) ?_;rintro u13 m13 ⟨akU,n13,ahX,rfl,QG,QJ⟩-;have VA:=I3 s;refine pQ ?_;refine af.ak rfl (fun h1=>?_) (fun h1=>?_)
 ·refine J2 ?_;refine LM.val (aC (cs:=#[_,_,_,_,_,_]) rfl (by first|rfl|kernel_rfl)) ?_;refine J2 ?_;refine LM.dh Tryz.sizeOf75 rfl rfl rfl rfl df bV ?_;refine J6 ?_;refine QM.aH (ds:=([])) (.inl rfl) [.cell 2 75,.tmp 3,.tmp 4] Tryz.results20 aX (bY rfl Tryz.isAgg75 Tryz.sizeOf75 rfl (aZ rfl (aZ rfl aW))) ?_;intro w' aj aa
  unfold jo;rw [if_pos h1];exact⟨aa,[],JC.T0,Mem.nil _,fun p hp=>by cases hp⟩
 refine J5 ?_;refine LM.fm (oC Tryz.func45) LN.mono (fun w hm hc hg=>Cm 0 w QG om (QJ.lK ir hm)) ?_;rintro u24 m24 ⟨sv,rfl,XV,gI⟩ XM;refine J4 ?_;refine LM.alloc Tryz.zeroValue30 rfl (fun b8 O9=>?_);refine LM.dh Tryz.sizeOf30 rfl rfl rfl rfl df bV ?_;refine c9 ?_;refine af.ak rfl (fun h2=>?_) (fun h2=>?_)
 ·refine J2 ?_;refine LM.val (aC (cs:=#[_,_,_,_,_,_]) rfl (by first|rfl|kernel_rfl)) ?_;refine J3 ?_;refine cE Tryz.func46 rfl (fun w hm hc hg=>tL s _ w QG (QJ.lK ir hm) (O4 _ _)) ?_;refine J1 ?_;refine LM.dh Tryz.sizeOf75 rfl rfl rfl rfl df bV ?_;refine J6 ?_;refine QM.aH (ds:=([])) (.inl rfl) [.cell 2 75,.tmp 3,.tmp 4] Tryz.results20 aX (bY rfl Tryz.isAgg75 Tryz.sizeOf75 rfl (aZ rfl (aZ rfl aW))) ?_;intro w' aj aa
  unfold jo;rw [if_neg h1,if_pos h2];exact⟨aa,[],JC.T0,Mem.nil _,fun p hp=>by cases hp⟩
 refine J6 ?_;refine LM.fm (oC Tryz.func47) Xt.mono (fun w hm hc hg=>Ao _ w QG om (QJ.lK ir hm)) ?_;rintro u39 m39 ⟨afU,n39,YW,rfl,afv,aet⟩ WO;refine pQ ?_;refine af.ak rfl (fun h3=>?_) (fun h3=>?_)
 ·refine J2 ?_;refine LM.val (aC (cs:=#[_,_,_,_,_,_]) rfl (by first|rfl|kernel_rfl)) ?_;refine J3 ?_;refine cE Tryz.func46 rfl (fun w hm hc hg=>tL s _ w QG (QJ.lK ir hm) (I2 _ _)) ?_;refine J1 ?_;refine LM.dh Tryz.sizeOf75 rfl rfl rfl rfl df bV ?_;refine J6 ?_;refine QM.aH (ds:=([])) (.inl rfl) [.cell 2 75,.tmp 3,.tmp 4] Tryz.results20 aX (bY rfl Tryz.isAgg75 Tryz.sizeOf75 rfl (aZ rfl (aZ rfl aW))) ?_;intro w' aj aa
  unfold jo;rw [if_neg h1,if_neg h2,if_pos h3];exact⟨aa,[],JC.T0,Mem.nil _,fun p hp=>by cases hp⟩
 refine J4 ?_;refine LM.rd (aL Tryz.isAgg30 Tryz.sizeOf30 rfl rfl) ?_;refine J1 ?_;refine LM.val (aC (cs:=#[_,_,_,_,_,_]) rfl (by first|rfl|kernel_rfl)) ?_;refine LM.dh Tryz.sizeOf75 rfl rfl rfl rfl df bV ?_;refine J5 ?_;refine QM.aH (ds:=([])) (.inl rfl) [.cell 2 75,.tmp 3,.tmp 4] Tryz.results20 aX (bY rfl Tryz.isAgg75 Tryz.sizeOf75 rfl (aZ rfl (aZ rfl aW))) ?_;intro w' aj aa
 unfold jo;rw [if_neg h1,if_neg h2,if_neg h3];refine ⟨aa,m39++(m24++ []),⟨⟨sv,_,afU,n39,YW⟩,rfl,XV,rfl,fun w hm=>⟨gI w (hm.pick m24),afv,aet.lK ir hm⟩⟩,aV.mem (by(repeat' (first|exact aV.nil _|refine aV.app ?_))) w' aj,?_⟩;intro p hp;simp only [List.mem_append,List.not_mem_nil,or_false] at hp;rcases hp with hp|hp;exact WO p hp;exact XM p hp
theorem EL {s:List UInt8} (h:(jo s).2.2.2=0):eu (jo s).1=true:=by
  unfold jo at h ⊢
  split at h
  · next e=>exact absurd h e
  next e1=>
  rw [if_neg e1]
  split at h
  · next e=>exact absurd h e
  next e2=>
  rw [if_neg e2]
  split at h
  · next e=>exact absurd h e
  next e3=>
  rw [if_neg e3];exact O3 (Classical.not_not.1 e2)
def NA (n:Nat) (k:Int) (k0:Nat) (v:Value) (m:ab):Prop:=∃(x:dm) (ok:Bool),v= .tuple #[x.val,.bool ok]∧(ok=true→eu x.C=true∧(n:Int)≤k)∧∀w,Mem w m→x.In w
theorem NA.mono {n:Nat} {k:Int} :∀(a b:Nat) u m,b≤a→NA n k a u m→NA n k b u m:=fun a b u m h q=>q
abbrev IK (b:Nat) (t:List UInt8) (Ac:Option Addr) (na mF:Nat):Nat×Obj:=(b,.cells #[vS t,.slice Ac na mF] 24 (0,0))
abbrev seZ (b:Nat):Nat×Obj:=(b,.cells #[.int .i64 0,.int .i64 0,.slice none 0 0,.slice none 0 0,.slice none 0 0] 30 (0,0))
abbrev scB (b:Nat) (x:VS):Nat×Obj:=(b,.cells #[.int .i64 x.sv.cr,.int .i64 x.sv.gr,.slice x.sv.ga x.sv.gn x.sv.gc,.slice x.sv.la x.sv.ln x.sv.lc,.slice x.sv.pa x.sv.pn x.sv.pc,.slice x.ad x.n x.cap] 75 (0,0))
theorem NA.nil {n:Nat} {k:Int} {k0:Nat} {w:World} {w':World} (hc:Ext w w'):Ext w w'∧∃m,NA n k w.heap.size (.tuple #[.agg #[.int .i64 0,.int .i64 0,.slice none 0 0,.slice none 0 0,.slice none 0 0],.bool false]) m∧Mem w' m∧∀p∈m,w.heap.size≤p.1:=
  ⟨hc,[],⟨default,false,rfl,fun q=>(by cases q),fun w _=>⟨rfl,.nil _ _ _,rfl,.nil _ _ _,rfl,.nil _ _ _,fun p hp=>by cases hp⟩⟩,Mem.nil _,fun p hp=>by cases hp⟩
set_option maxHeartbeats 1000000 in
theorem By (t:List UInt8) {xs:List Act} {Ac:Option Addr} {na mF:Nat} (k r:Int) (w:World) (IJ:na=xs.length) (hl:Sr fA 5 xs (.slice Ac na mF) w) (hr:0≤r∧r≤1000000) (hk:k≤1000000):aD Tryz.prog 6 #[.agg #[vS t,.slice Ac na mF],.int .i64 k,.int .i64 r] w (fun v w'=>Ext w w'∧∃m,NA xs.length k w.heap.size v m∧Mem w' m∧∀p∈m,w.heap.size≤p.1):=by
 refine aD.ao Tryz.func6 rfl Tryz.ntmps6 rfl ([]) (no) (Mem.nil w) ?_;refine J2 ?_;refine LM.box rfl rfl (fun b3 xu=>?_);refine LM.alloc Tryz.zeroValue30 rfl (fun b6 Rs=>?_);refine J8 ?_;refine LM.val (jR Tryz.underlying9 rfl) ?_;refine J2 ?_;refine LM.aq (t:=17) rfl (fun h1=>?_) (fun h1=>?_)
 ·refine c9 ?_;refine LM.val (aC (cs:=#[_,_,_,_,_]) rfl (by first|rfl|kernel_rfl)) ?_;refine LM.dh Tryz.sizeOf30 rfl rfl rfl rfl df bV ?_;refine J5 ?_;refine QM.aH (ds:=([])) (.inl rfl) [.cell 6 30,.tmp 7] Tryz.results6 aX (bY rfl Tryz.isAgg30 Tryz.sizeOf30 rfl (aZ rfl aW)) ?_;intro w' aj aa;exact NA.nil (k0:=0) aa
 refine J9 ?_;refine af.ak rfl (fun h2=>?_) (fun h2=>?_)
 ·refine J2 ?_;refine LM.val (aC (cs:=#[_,_,_,_,_]) rfl (by first|rfl|kernel_rfl)) ?_;refine LM.dh Tryz.sizeOf30 rfl rfl rfl rfl df bV ?_;refine J5 ?_;refine QM.aH (ds:=([])) (.inl rfl) [.cell 6 30,.tmp 7] Tryz.results6 aX (bY rfl Tryz.isAgg30 Tryz.sizeOf30 rfl (aZ rfl aW)) ?_;intro w' aj aa;exact NA.nil (k0:=0) aa
 refine cN ?_;refine af.aP (α:=Nat×Int) (fun ⟨i,q⟩=>[(2,.int .i64 q),(28,.int .i64 (i:Nat))]) [(3,_),(6,_),(26,_),(27,_)] (fun ⟨i,q⟩=>IK b3 t Ac na mF::seZ b6:: []) (fun ⟨i,q⟩=>i≤na∧0≤q∧q≤r) (fun ⟨i,q⟩=>na-i) ((0,r)) cF aN ⟨Nat.zero_le _,hr.1,Int.le_refl _⟩ ?_;rintro ⟨i,q⟩ ⟨hi,RQ,hqr⟩;change af _ _ _ _ _ _ _ (IK b3 t Ac na mF::seZ b6:: []) _ _ _;refine J6 ?_;refine af.ak rfl (fun h3=>?_) (fun h3=>?_)
 ·refine J7 ?_;refine LM.eh (dB aB ir Tryz.isAgg37 Tryz.sizeOf37 rfl cJ id) ?_;refine LM.alloc Tryz.zeroValue37 rfl (fun b9 hb9=>?_);refine LM.dh Tryz.sizeOf37 rfl rfl rfl rfl df bV ?_;refine J9 ?_;refine LM.aq (t:=35) rfl (fun h4=>?_) (fun h4=>?_)
  ·refine Rt ?_;refine aK ((i+1,q)) ?_ ?_
   · exact⟨by omega,RQ,hqr⟩
   · (dsimp only;omega)
  refine J6 ?_;refine LM.aq (t:=40) rfl (fun h5=>?_) (fun h5=>?_)
  ·refine py ?_;refine aK ((i+1,q)) ?_ ?_
   · exact⟨by omega,RQ,hqr⟩
   · (dsimp only;omega)
  refine J7 ?_;refine af.ak rfl (fun h6=>?_) (fun h6=>?_)
  ·refine J8 ?_;refine aK ((i+1,q)) ?_ ?_
   · exact⟨by omega,RQ,hqr⟩
   · (dsimp only;omega)
  refine yi ?_;refine af.ak rfl (fun h7=>?_) (fun h7=>?_)
  ·refine J2 ?_;refine LM.val (aC (cs:=#[_,_,_,_,_]) rfl (by first|rfl|kernel_rfl)) ?_;refine LM.dh Tryz.sizeOf30 rfl rfl rfl rfl df bV ?_;refine J9 ?_;refine QM.aH (ds:=([])) (.inl rfl) [.cell 6 30,.tmp 7] Tryz.results6 aX (bY rfl Tryz.isAgg30 Tryz.sizeOf30 rfl (aZ rfl aW)) ?_;intro w' aj aa;exact NA.nil (k0:=0) aa
  refine J7 ?_;refine aK ((i+1,q-(xs.getD i default).a)) ?_ ?_
  · exact⟨by omega,by omega,by omega⟩
  · (dsimp only;omega)
 refine J9 ?_;refine LM.fm (oC Tryz.func20) JC.mono (fun w hm hc hg=>sa t w om) ?_;rintro u56 GH ⟨x,rfl,NL,hxa,gI⟩ RR;refine J4 ?_;refine LM.alloc Tryz.zeroValue75 rfl (fun yu SF=>?_);refine LM.dh Tryz.sizeOf75 rfl rfl rfl rfl df bV ?_;refine J5 ?_;refine af.keep (scB yu x:: []) (fun _=>True) (.one 0 0 (.one 1 1 (.one 2 0 (.one 3 0 (.one 4 0 (.one 5 0 (.one 6 1 (.one 7 0 (.one 8 0 (.one 9 0 (.one 10 2 (.one 11 0 .nil)))))))))))) kr kr aN (fun _ _=>trivial) ?_;refine J1 ?_;refine KD.rd rfl rfl (kP Tryz.isAgg30 Tryz.sizeOf30 rfl (vs:=[_,_,_,_,_]) rfl ⟨rfl,rfl,rfl,rfl,rfl,trivial⟩) ?_;refine J3 ?_;refine KD.aq (t:=64) rfl (fun h8=>?_) (fun h8=>?_)
 ·refine J6 ?_;refine LM.dh Tryz.sizeOf30 rfl rfl rfl rfl df bV ?_;refine J6 ?_;refine QM.aH (ds:=([])) (.inl rfl) [.cell 6 30,.tmp 7] Tryz.results6 aX (bY rfl Tryz.isAgg30 Tryz.sizeOf30 rfl (aZ rfl aW)) ?_;intro w' aj aa;exact⟨aa,GH,⟨x.sv,_,rfl,fun _=>⟨by rw [NL];exact EL h8,by omega⟩,fun w hm=>(gI w hm).st⟩,aj.pick GH,RR⟩
 refine J6 ?_;refine LM.dh Tryz.sizeOf30 rfl rfl rfl rfl df bV ?_;refine J6 ?_;refine QM.aH (ds:=([])) (.inl rfl) [.cell 6 30,.tmp 7] Tryz.results6 aX (bY rfl Tryz.isAgg30 Tryz.sizeOf30 rfl (aZ rfl aW)) ?_;intro w' aj aa;exact⟨aa,GH,⟨x.sv,_,rfl,fun q=>(by cases q),fun w hm=>(gI w hm).st⟩,aj.pick GH,RR⟩
end Go.Eng
namespace Go.Eng
open Go Go.RowKit
structure Vw where
  n:Nat
  nl:Nat
  cr:Int
  sh:Nat→Bool
  hw:Nat→Int
  lo:Nat→Int
  co:Nat→Int
  hs:Nat→List Hd
def wJ (sh:Bool) (h:Hd):Bool:=sh&&decide (h.p=0)
structure qo (v:Vw) (w:bU):Prop where
  n:w.ts.length=v.n
  RJ:v.n≤64
  hw:∀t,t<v.n→(bL w t).how=v.hw t
  co:∀t,t<v.n→(bL w t).core=v.co t
  lo:∀t,t<v.n→v.hw t=4→(bL w t).lock=v.lo t
  sl:w.sh.length=v.nl
  rl:w.rd.length=v.nl
  wl:w.wr.length=v.nl
  sh:∀l,l<v.nl→w.sh.getD l false=v.sh l
  cr:w.cores=v.cr
  hr:∀l,l<v.nl→∀h∈v.hs l,0≤h.t∧h.t<(v.n:Int)
  rd:∀l,l<v.nl→∀q:Int,aR (qe w l) q=true↔∃h∈v.hs l,wJ (v.sh l) h=true∧h.t=q
  wr:∀l,l<v.nl→∀q:Int,aR (ql w l) q=true↔∃h∈v.hs l,wJ (v.sh l) h=false∧h.t=q
structure Rg (v u:Vw):Prop where
  n:v.n=u.n
  nl:v.nl=u.nl
  cr:v.cr=u.cr
  sh:∀l,l<v.nl→v.sh l=u.sh l
  hw:∀t,t<v.n→v.hw t=u.hw t
  lo:∀t,t<v.n→v.hw t=4→v.lo t=u.lo t
  co:∀t,t<v.n→v.co t=u.co t
  hs:∀l,l<v.nl→∀h,h∈v.hs l↔h∈u.hs l
theorem qo.eqv {v u:Vw} {w:bU} (h:qo v w) (e:Rg v u):qo u w:=by
  refine ⟨e.n▸h.n,e.n▸h.RJ,fun t ht=>?_,fun t ht=>?_,fun t ht h4=>?_,e.nl▸h.sl,e.nl▸h.rl,e.nl▸h.wl,fun l hl=>?_,e.cr▸h.cr,fun l hl g hg=>?_,fun l hl q=>?_,fun l hl q=>?_⟩
  · rw [←e.n] at ht;rw [h.hw t ht,e.hw t ht]
  · rw [←e.n] at ht;rw [h.co t ht,e.co t ht]
  · rw [←e.n] at ht;rw [←e.hw t ht] at h4;rw [h.lo t ht h4,e.lo t ht h4]
  · rw [←e.nl] at hl;rw [h.sh l hl,e.sh l hl]
  · rw [←e.nl] at hl;rw [←e.n];exact h.hr l hl g ((e.hs l hl g).2 hg)
  · rw [←e.nl] at hl;rw [h.rd l hl q,e.sh l hl]
    exact⟨fun ⟨g,a,b⟩=>⟨g,(e.hs l hl g).1 a,b⟩,fun ⟨g,a,b⟩=>⟨g,(e.hs l hl g).2 a,b⟩⟩
  · rw [←e.nl] at hl;rw [h.wr l hl q,e.sh l hl]
    exact⟨fun ⟨g,a,b⟩=>⟨g,(e.hs l hl g).1 a,b⟩,fun ⟨g,a,b⟩=>⟨g,(e.hs l hl g).2 a,b⟩⟩
def aT {α:Type} (f:Nat→α) (i:Nat) (a:α):Nat→α:=fun j=>if i=j then a else f j
theorem bJ {α:Type} (f:Nat→α) (i:Nat) (a:α):aT f i a i=a:=if_pos rfl
theorem bp {α:Type} (f:Nat→α) {i j:Nat} (a:α) (h:i≠j):aT f i a j=f j:=if_neg h
theorem aU {α:Type} (f:Nat→α) (i j:Nat):aT f i (f i) j=f j:=by
  by_cases e:i=j
  · rw [e];exact if_pos rfl
  · exact if_neg e
def Vw.put (v:Vw) (t:Nat) (hw lo co:Int):Vw:= {v with hw:=aT v.hw t hw,lo:=aT v.lo t lo,co:=aT v.co t co}
def Vw.hd (v:Vw) (l:Nat) (hs:List Hd):Vw:= {v with hs:=aT v.hs l hs}
theorem zi {w:bU} {t:Nat} (ht:t<w.ts.length) (T:jn) (j:Nat):bL (w.put t T) j=if t=j then T else bL w j:=by
  show (w.ts.set t T).getD j default=_
  rw [List.getD_eq_getElem?_getD,List.getElem?_set]
  by_cases e:t=j
  · rw [if_pos e,if_pos e,if_pos ht];rfl
  · rw [if_neg e,if_neg e];unfold bL;rw [List.getD_eq_getElem?_getD]
theorem qo.put {v:Vw} {w:bU} (h:qo v w) {t:Nat} (ht:t<v.n) (T:jn):qo (v.put t T.how T.lock T.core) (w.put t T):=by
  have hl:t<w.ts.length:=by rw [h.n];exact ht
  refine ⟨by show (w.ts.set t T).length=_;rw [List.length_set];exact h.n,h.RJ,fun j hj=>?_,fun j hj=>?_,fun j hj h4=>?_,h.sl,h.rl,h.wl,h.sh,h.cr,h.hr,h.rd,h.wr⟩
  · rw [zi hl];show _=aT v.hw t _ j;unfold aT;split;rfl;exact h.hw j hj
  · rw [zi hl];show _=aT v.co t _ j;unfold aT;split;rfl;exact h.co j hj
  · rw [zi hl];show _=aT v.lo t _ j;unfold aT
    have h4:aT v.hw t T.how j=4:=h4
    unfold aT at h4
    split
    · rfl
    · next e=>rw [if_neg e] at h4;exact h.lo j hj h4
theorem qo.at {v:Vw} {w:bU} (h:qo v w) (tm:BitVec 64):qo v {w with now:=tm} :=⟨h.n,h.RJ,h.hw,h.co,h.lo,h.sl,h.rl,h.wl,h.sh,h.cr,h.hr,h.rd,h.wr⟩
theorem ZP {w:bU} {e:dP} {t:Nat} (hf:iM w e=true) (hk:e.k≠1) (he:e.t=(t:Int)) (ht:t<w.ts.length) (hb:kS {w with now:=e.tm} t e=true):
    qu w e=true∧nQ w e=ofM {w with now:=e.tm} t e:=by
  have e1:e.t.toNat=t:=by omega
  constructor
  · unfold qu;rw [hf,if_neg hk,e1,hb,decide_eq_true (show (0:Int)≤e.t by omega),decide_eq_true (show e.t<(w.ts.length:Int) by omega)];rfl
  · unfold nQ;rw [hf,if_neg (by decide),if_neg hk,if_neg om,e1]
theorem Bt {w:bU} {e:dP} (ht:w.now.toNat≤e.tm.toNat) (hk:zw e.k=false) (hl:e.l= -1) (hn:e.n=0∨H0 e.k=false):iM w e=true:=by
  unfold iM;rw [decide_eq_true ht,hk,if_neg (by decide),decide_eq_true hl]
  rcases hn with q|q
  · rw [decide_eq_true q];rfl
  · rw [q];simp
theorem G6 {w:bU} {e:dP} (ht:w.now.toNat≤e.tm.toNat) (hk:zw e.k=true) (h0:0≤e.l) (hl:e.l<w.sh.length) (hn:e.n=0∨H0 e.k=false):iM w e=true:=by
  unfold iM;rw [decide_eq_true ht,hk,if_pos rfl,decide_eq_true h0,decide_eq_true hl]
  rcases hn with q|q
  · rw [decide_eq_true q];rfl
  · rw [q];simp
inductive QZ (w0:bU):List dP→bU→Prop
  |nil:QZ w0 [] w0
  |snoc {l:List dP} {w:bU} {e:dP} :QZ w0 l w→qu w e=true→QZ w0 (l++ [e]) (nQ w e)
theorem F4 (w:bU) (e:dP) (b:Bool):(tn w e b).now=w.now:=by unfold tn;split<;>rfl
theorem OR (w:bU) (i:Nat) (e:dP):(nT w i e).now=w.now:=by
  have h:(uq w e).now=w.now:=by unfold uq;split<;>rfl
  unfold nT;split
  · split
    · exact h
    · exact h
  · rfl
theorem Qu (w:bU) (i:Nat) (e:dP):(Ay w i e).now=w.now:=by unfold Ay;split<;>rfl
theorem eS {c:Prop} [Decidable c] {a b:bU} {t:BitVec 64} (h1:a.now=t) (h2:b.now=t):(if c then a else b).now=t:=by split;exact h1;exact h2
theorem OJ (w:bU) (i:Nat) (e:dP):(ofM w i e).now=w.now:=by
  unfold ofM
  exact eS rfl (eS rfl (eS (OR ..) (eS (F4 ..) (eS (F4 ..) (eS (Qu ..) (eS rfl (eS rfl (eS rfl (eS rfl (eS (eS rfl rfl) (eS (eS rfl rfl) rfl)))))))))))
def AV (w0:bU) (ev:List dP) (now:BitVec 64) (v:Vw):Prop:=∃w,QZ w0 ev w∧w.now.toNat≤now.toNat∧qo v w
theorem AV.eqv {w0:bU} {ev:List dP} {now:BitVec 64} {v u:Vw} (h:AV w0 ev now v) (e:Rg v u):AV w0 ev now u:=by
  obtain ⟨w,h1,h2,h3⟩:=h;exact⟨w,h1,h2,h3.eqv e⟩
theorem AV.of {w0:bU} {ev:List dP} {now:BitVec 64} {v u:Vw} {e:dP} (h:AV w0 ev now v) (he:e.tm=now) (hk:e.k≠1) {t:Nat} (hte:e.t=(t:Int)) (ht:t<v.n)
    (hf:∀w,w.now.toNat≤now.toNat→qo v w→iM w e=true) (hm:∀w,qo v w→kS w t e=true∧qo u (ofM w t e)):AV w0 (ev++ [e]) now u:=by
  obtain ⟨w,h1,h2,h3⟩:=h;have q:=hm {w with now:=e.tm} (h3.at _);obtain ⟨e1,e2⟩:=ZP (hf w h2 h3) hk hte (by rw [h3.n];exact ht) q.1;refine ⟨nQ w e,.snoc h1 e1,?_,by rw [e2];exact q.2⟩;rw [e2,OJ,←he];exact Nat.le_refl _
section
variable {w0:bU} {ev:List dP} {now:BitVec 64} {v:Vw} (h:AV w0 ev now v)
include h
theorem AV.spawn {co:Int} (AH:v.n<64) (hc:0≤co∧co<v.cr):AV w0 (ev++ [⟨now,1,(v.n:Nat),-1,co⟩]) now {v with n:=v.n+1,hw:=aT v.hw v.n 1,co:=aT v.co v.n co} :=by
  obtain ⟨w,h1,h2,h3⟩:=h;have hf:iM w ⟨now,1,(v.n:Nat),-1,co⟩=true:=Bt h2 rfl rfl (.inr rfl)
  have hs:nD {w with now:=now} ⟨now,1,(v.n:Nat),-1,co⟩=true:=by
    unfold nD
    have e1:=h3.n;have e2:=h3.cr;simp only [Bool.and_eq_true,decide_eq_true_eq];exact⟨by omega,by omega,hc.1,by omega⟩
  have hM:nQ w ⟨now,1,(v.n:Nat),-1,co⟩= {w with now:=now,ts:=w.ts++ [⟨co,1,0⟩] } :=by
    unfold nQ;rw [hf,if_neg (by decide),if_pos rfl];unfold It;rw [if_pos hs]
  have tF:nD w ⟨now,1,(v.n:Nat),-1,co⟩=true:=hs;refine ⟨_,.snoc h1 (by unfold qu;rw [hf,if_pos rfl,tF];rfl),?_⟩;rw [hM]
  have hg:∀t,bL {w with now:=now,ts:=w.ts++ [⟨co,1,0⟩] } t=if v.n=t then ⟨co,1,0⟩ else bL w t:=fun t=>by
    show (w.ts++ [_]).getD t default=_
    rw [List.getD_eq_getElem?_getD];have e1:=h3.n;rcases Nat.lt_trichotomy t w.ts.length with q|q|q
    · rw [List.getElem?_append_left q,if_neg om,←List.getD_eq_getElem?_getD]
    · rw [List.getElem?_append_right om,if_pos om,q,Nat.sub_self];rfl
    · rw [if_neg om,List.getElem?_eq_none (by rw [List.length_append,List.length_singleton];omega)]
      unfold bL;rw [List.getD_eq_getElem?_getD,List.getElem?_eq_none om]
  refine ⟨Nat.le_refl _,by show (w.ts++ [_]).length=_;rw [List.length_append,List.length_singleton,h3.n],by show v.n+1≤64;omega,fun t ht=>?_,fun t ht=>?_,fun t ht h4=>?_,h3.sl,h3.rl,h3.wl,h3.sh,h3.cr,fun l hl g hg=>?_,h3.rd,h3.wr⟩
  · rw [hg];show _=aT v.hw v.n 1 t;unfold aT;split;rfl;exact h3.hw t (by have:t<v.n+1:=ht;omega)
  · rw [hg];show _=aT v.co v.n co t;unfold aT;split;rfl;exact h3.co t (by have:t<v.n+1:=ht;omega)
  · rw [hg]
    have h4:aT v.hw v.n 1 t=4:=h4
    unfold aT at h4
    split
    · next e=>rw [if_pos e] at h4;cases h4
    · next e=>rw [if_neg e] at h4;exact h3.lo t (by have:t<v.n+1:=ht;omega) h4
  · have:=h3.hr l hl g hg;show 0≤g.t∧g.t<((v.n+1:Nat):Int);omega
section
variable {t:Nat} (ht:t<v.n)
include ht
theorem AV.xH {k l n:Int} (hk:k≠1) (hf:∀w,w.now.toNat≤now.toNat→qo v w→iM w ⟨now,k,t,l,n⟩=true) {T:jn→jn} {hw lo co:Int}
    (hm:∀w,qo v w→kS w t ⟨now,k,t,l,n⟩=true∧ofM w t ⟨now,k,t,l,n⟩=w.put t (T (bL w t))∧(T (bL w t)).how=hw∧(T (bL w t)).core=co∧(hw=4→(T (bL w t)).lock=lo)):
    AV w0 (ev++ [⟨now,k,t,l,n⟩]) now (v.put t hw lo co):=by
  refine h.of rfl hk rfl ht hf (fun w QY=>?_);obtain ⟨h1,h2,h3,h4,h5⟩:=hm w QY;refine ⟨h1,?_⟩;rw [h2];refine (QY.put ht (T (bL w t))).eqv ⟨rfl,rfl,rfl,fun _ _=>rfl,fun j hj=>?_,fun j hj Y3=>?_,fun j hj=>?_,fun _ _ _=>Iff.rfl⟩
  · show aT v.hw t _ j=aT v.hw t _ j;rw [h3]
  · have Y3:aT v.hw t (T (bL w t)).how j=4:=Y3
    show aT v.lo t _ j=aT v.lo t _ j
    unfold aT at Y3 ⊢
    split
    · next e=>rw [if_pos e,h3] at Y3;exact h5 Y3
    · rfl
  · show aT v.co t _ j=aT v.co t _ j;rw [h4]
theorem AV.af4 (h1:v.hw t=1) (hn:∀j,j<v.n→v.hw j=2→v.co j≠v.co t):AV w0 (ev++ [⟨now,2,t,-1,v.co t⟩]) now (v.put t 2 (v.lo t) (v.co t)):=by
  refine h.xH ht (by decide) (fun w hw _=>Bt hw rfl rfl (.inr rfl)) (T:=fun T=> {T with how:=2}) (fun w hw=>?_);have e1:=(hw.hw t ht).trans h1;have e2:=hw.co t ht
  have hi:CP w (bL w t).core=true:=by
    unfold CP
    rw [Bool.not_eq_true',List.any_eq_false];intro T hT q;simp only [Bool.and_eq_true,decide_eq_true_eq] at q;obtain ⟨j,hj,rfl⟩:=List.getElem_of_mem hT;have hg:bL w j=w.ts[j] :=by unfold bL;rw [List.getD_eq_getElem?_getD,List.getElem?_eq_getElem hj];rfl
    rw [←hg] at q;have RN:j<v.n:=by rw [←hw.n];exact hj
    exact hn j RN (by rw [←hw.hw j RN];exact q.1) (by rw [←hw.co j RN,q.2,e2])
  have hb:cL (bL w t) 1 (decide (v.co t=(bL w t).core)&&CP w (bL w t).core)=true:=by
    unfold cL;rw [decide_eq_true e1,decide_eq_true e2.symm,hi];rfl
  refine ⟨hb,?_,rfl,e2,fun q=>by cases q⟩
  show w.put t (eH _ _ _ _)=_
  unfold eH;rw [if_pos hb]
theorem AV.leave (k:Int) (hk:k=3∨k=10) (h2:v.hw t=2):AV w0 (ev++ [⟨now,k,t,-1,v.co t⟩]) now (v.put t 1 (v.lo t) (v.co t)):=by
  refine h.xH ht om (fun w hw _=>Bt hw (by rcases hk with rfl|rfl<;>rfl) rfl (.inr (by rcases hk with rfl|rfl<;>rfl))) (T:=fun T=> {T with how:=1}) (fun w hw=>?_);have e1:=(hw.hw t ht).trans h2;have e2:=hw.co t ht;have hb:cL (bL w t) 2 (decide (v.co t=(bL w t).core))=true:=by unfold cL;rw [decide_eq_true e1,decide_eq_true e2.symm];rfl
  have e3:kS w t ⟨now,k,t,-1,v.co t⟩=cL (bL w t) 2 (decide (v.co t=(bL w t).core)):=by
    unfold kS;rw [if_neg (show¬(k=2) by omega),if_pos (show k=3∨k=10 from hk)]
  have e4:ofM w t ⟨now,k,t,-1,v.co t⟩=w.put t (eH (bL w t) 2 1 (decide (v.co t=(bL w t).core))):=by
    unfold ofM;rw [if_neg (show¬(k=2) by omega),if_pos (show k=3∨k=10 from hk)]
  refine ⟨by rw [e3];exact hb,?_,rfl,e2,fun q=>by cases q⟩;rw [e4];unfold eH;rw [if_pos hb]
theorem AV.Xp (hh:v.hw t=3∨v.hw t=6∨v.hw t=7):AV w0 (ev++ [⟨now,7,t,-1,v.co t⟩]) now (v.put t 1 (v.lo t) (v.co t)):=by
  refine h.xH ht (by decide) (fun w hw _=>Bt hw rfl rfl (.inr rfl)) (T:=fun T=> {T with how:=1}) (fun w hw=>?_);have e1:=hw.hw t ht;have e2:=hw.co t ht
  have hb:qN (bL w t) (decide (v.co t=(bL w t).core))=true:=by
    unfold qN;rw [e1,decide_eq_true e2.symm];rcases hh with q|q|q<;>rw [q] <;>rfl
  refine ⟨hb,?_,rfl,e2,fun q=>by cases q⟩
  show w.put t (wy _ _)=_
  unfold wy;rw [if_pos hb]
theorem AV.sleep {n:Int} (h2:v.hw t=2) (hn:1≤n∧n≤64):AV w0 (ev++ [⟨now,9,t,-1,n⟩]) now (v.put t 3 (v.lo t) (v.co t)):=by
  refine h.xH ht (by decide) (fun w hw _=>Bt hw rfl rfl (.inr rfl)) (T:=fun T=> {T with how:=3}) (fun w hw=>?_);have e1:=(hw.hw t ht).trans h2;have e2:=hw.co t ht;have hb:cL (bL w t) 2 (decide (1≤n)&&decide (n≤64))=true:=by unfold cL;rw [decide_eq_true e1,decide_eq_true hn.1,decide_eq_true hn.2];rfl
  refine ⟨hb,?_,rfl,e2,fun q=>by cases q⟩
  show w.put t (eH _ _ _ _)=_
  unfold eH;rw [if_pos hb]
theorem AV.weight {n:Int} (h2:v.hw t=2) (hn:1≤n∧n≤16):AV w0 (ev++ [⟨now,14,t,-1,n⟩]) now (v.put t 2 (v.lo t) (v.co t)):=by
  refine h.xH ht (by decide) (fun w hw _=>Bt hw rfl rfl (.inr rfl)) (T:=fun T=> {T with how:=2}) (fun w hw=>?_);have e1:=(hw.hw t ht).trans h2;have e2:=hw.co t ht;have hb:cL (bL w t) 2 (decide (1≤n)&&decide (n≤16))=true:=by unfold cL;rw [decide_eq_true e1,decide_eq_true hn.1,decide_eq_true hn.2];rfl
  refine ⟨hb,?_,rfl,e2,fun q=>by cases q⟩
  show w.put t (eH _ _ _ _)=_
  unfold eH;rw [if_pos hb]
theorem AV.ac1 {n:Int} (h1:v.hw t=1) (fi:n≠v.co t) (hn:0≤n∧n<v.cr):AV w0 (ev++ [⟨now,13,t,-1,n⟩]) now (v.put t 1 (v.lo t) n):=by
  refine h.xH ht (by decide) (fun w hw _=>Bt hw rfl rfl (.inr rfl)) (T:=fun T=> {T with core:=n}) (fun w hw=>?_);have e1:=(hw.hw t ht).trans h1;have e2:=hw.co t ht;have e3:=hw.cr
  have hb:cL (bL w t) 1 (decide (n≠(bL w t).core)&&(decide (0≤n)&&decide (n<w.cores)))=true:=by
    unfold cL;rw [decide_eq_true e1,decide_eq_true (show n≠(bL w t).core by rw [e2];exact fi),decide_eq_true hn.1,decide_eq_true (show n<w.cores by omega)];rfl
  have xr:kS w t ⟨now,13,t,-1,n⟩=true:=hb;refine ⟨xr,?_,e1,rfl,fun q=>by cases q⟩
  show (if kS w t ⟨now,13,t,-1,n⟩=true then w.put t {bL w t with core:=n} else w)=_
  rw [if_pos xr]
theorem AV.err {l n:Int} (h2:v.hw t=2) (hl:(0≤l∧l<(v.nl:Int))∨(l= -1∧n=3)) (hn:n=3∨n=7∨n=8∨n=9):AV w0 (ev++ [⟨now,8,t,l,n⟩]) now v:=by
  have q:AV w0 (ev++ [⟨now,8,t,l,n⟩]) now (v.put t (v.hw t) (v.lo t) (v.co t)):=by
    refine h.xH ht (by decide) (fun w hw hm=>?_) (T:=fun T=>T) (fun w hw=>?_)
    · rcases hl with q|q
      · exact G6 hw rfl q.1 (by rw [hm.sl];exact q.2) (.inr rfl)
      · unfold iM;rw [decide_eq_true hw]
        show (true&&(decide (0≤l)&&decide (l<(w.sh.length:Int))||decide (l= -1)&&(true&&decide (n=3)))&&(decide (n=0)||true))=true
        rw [decide_eq_true q.1,decide_eq_true q.2];simp
    have e1:=hw.hw t ht
    have hb:(decide ((bL w t).how=2)&&rQ n)=true:=by
      rw [decide_eq_true (e1.trans h2)];unfold rQ;rcases hn with r|r|r|r<;>rw [r] <;>rfl
    refine ⟨?_,?_,e1,hw.co t ht,fun r=>by rw [h2] at r;cases r⟩
    · show wj (bL w t) ⟨now,8,t,l,n⟩=true
      unfold wj;show (_&&rQ n||_)=true;rw [hb];rfl
    · show w.put t (vx (bL w t) ⟨now,8,t,l,n⟩)=_
      unfold vx;show w.put t (if (_&&rQ n)=true then _ else _)=_;rw [if_pos hb]
  refine q.eqv ⟨rfl,rfl,rfl,fun _ _=>rfl,fun j hj=>?_,fun j hj _=>?_,fun j hj=>?_,fun _ _ _=>Iff.rfl⟩
  · show aT v.hw t (v.hw t) j=v.hw j;exact aU _ _ _
  · show aT v.lo t (v.lo t) j=v.lo j;exact aU _ _ _
  · show aT v.co t (v.co t) j=v.co j;exact aU _ _ _
theorem AV.late {l:Nat} (h4:v.hw t=4) (uv:v.lo t=(l:Int)) (hl:l<v.nl):AV w0 (ev++ [⟨now,8,t,l,10⟩]) now (v.put t 7 (v.lo t) (v.co t)):=by
  refine h.xH ht (by decide) (fun w hw hm=>G6 hw rfl (Int.natCast_nonneg l) (by rw [hm.sl];exact Int.ofNat_lt.2 hl) (.inr rfl)) (T:=fun T=> {T with how:=7}) (fun w hw=>?_);have e1:=(hw.hw t ht).trans h4;have e2:=(hw.lo t ht h4).trans uv;have h2:(decide ((bL w t).how=2)&&rQ 10)=false:=by rw [decide_eq_false om];rfl
  have hb:cL (bL w t) 4 (decide ((bL w t).lock=(l:Int))&&decide ((10:Int)=10))=true:=by unfold cL;rw [decide_eq_true e1,decide_eq_true e2];rfl
  refine ⟨?_,?_,rfl,hw.co t ht,fun q=>by cases q⟩
  · show wj (bL w t) ⟨now,8,t,l,10⟩=true
    unfold wj;show (_||cL _ _ _)=true;rw [hb];exact Bool.or_true _
  · show w.put t (vx (bL w t) ⟨now,8,t,l,10⟩)=_
    unfold vx;show w.put t (if (_&&rQ 10)=true then _ else eH _ _ _ _)=_
    rw [if_neg (by rw [h2];decide)];unfold eH;rw [if_pos hb]
theorem AV.block {l:Nat} (h2:v.hw t=2) (hl:l<v.nl) (fi:v.hs l≠ []) (gZ:∀h∈v.hs l,h.t≠(t:Int)):AV w0 (ev++ [⟨now,6,t,l,0⟩]) now (v.put t 4 l (v.co t)):=by
  refine h.xH ht (by decide) (fun w hw hm=>G6 hw rfl (Int.natCast_nonneg l) (by rw [hm.sl];exact Int.ofNat_lt.2 hl) (.inl rfl)) (T:=fun T=> {T with how:=4,lock:=l}) (fun w hw=>?_);have e1:=(hw.hw t ht).trans h2
  have hor:∀q:Int,aR (qe w l|||ql w l) q=true↔∃h∈v.hs l,h.t=q:=fun q=>by
    rw [kD,Bool.or_eq_true,hw.rd l hl q,hw.wr l hl q]
    constructor
    · rintro (⟨g,a,b,c⟩|⟨g,a,b,c⟩)<;>exact⟨g,a,c⟩
    · rintro ⟨g,a,c⟩
      cases b:wJ (v.sh l) g
      · exact .inr ⟨g,a,b,c⟩
      · exact .inl ⟨g,a,b,c⟩
  have hz:qe w l|||ql w l≠0#64:=fun q=>by
    cases e:v.hs l with
    |nil=>exact fi e
    |cons g r=>
      have:=(hor g.t).2 ⟨g,by rw [e];exact List.mem_cons_self ..,rfl⟩;rw [q,dd] at this;cases this
  have hb:xI w (bL w t) ⟨now,6,t,l,0⟩=true:=by
    unfold xI cL wv
    show (_&&(decide (qe w (l:Int).toNat|||ql w (l:Int).toNat≠0#64)&& !aR (qe w (l:Int).toNat|||ql w (l:Int).toNat) t))=true
    rw [Int.toNat_natCast,decide_eq_true e1,decide_eq_true hz]
    have:aR (qe w l|||ql w l) t=false:=by
      cases q:aR (qe w l|||ql w l) t with
      |false=>rfl
      |true=>obtain ⟨g,a,b⟩:=(hor t).1 q;exact absurd b (gZ g a)
    rw [this];rfl
  refine ⟨hb,?_,rfl,hw.co t ht,fun _=>rfl⟩
  show Ay w t _=_
  unfold Ay;rw [if_pos hb]
theorem AV.exit (h5:v.hw t≠5) (gZ:∀l,l<v.nl→∀h∈v.hs l,h.t≠(t:Int)):AV w0 (ev++ [⟨now,11,t,-1,0⟩]) now (v.put t 5 (v.lo t) (v.co t)):=by
  refine h.xH ht (by decide) (fun w hw hm=>Bt hw rfl rfl (.inl rfl)) (T:=fun T=> {T with how:=5}) (fun w hw=>?_);have e1:=hw.hw t ht
  have hf:ui w t=true:=by
    unfold ui;rw [List.all_eq_true]
    intro l hl;have kN:l<v.nl:=by rw [←hw.sl];exact List.mem_range.1 hl
    unfold nG;rw [kD]
    have a1:aR (qe w l) t=false:=by
      cases q:aR (qe w l) t with
      |false=>rfl
      |true=>obtain ⟨g,a,b,c⟩:=(hw.rd l kN t).1 q;exact absurd c (gZ l kN g a)
    have a2:aR (ql w l) t=false:=by
      cases q:aR (ql w l) t with
      |false=>rfl
      |true=>obtain ⟨g,a,b,c⟩:=(hw.wr l kN t).1 q;exact absurd c (gZ l kN g a)
    rw [a1,a2];rfl
  have hb:kS w t ⟨now,11,t,-1,0⟩=true:=by
    show (decide ((bL w t).how≠5)&&ui w t)=true
    rw [hf,decide_eq_true (by rw [e1];exact h5)];rfl
  refine ⟨hb,?_,rfl,hw.co t ht,fun q=>by cases q⟩
  show (if kS w t ⟨now,11,t,-1,0⟩=true then w.put t {bL w t with how:=5} else w)=_
  rw [if_pos hb]
end
end
end Go.Eng
