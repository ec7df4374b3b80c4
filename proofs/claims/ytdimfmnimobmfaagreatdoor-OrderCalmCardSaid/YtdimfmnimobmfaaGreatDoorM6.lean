/- The walks of the document's machine: a lock is given to who waited; a task dies. No condition. -/
import Derived.Test.YtdimfmnimobmfaaGreatDoorM2
import Derived.Test.YtdimfmnimobmfaaGreatDoorM5
import Derived.Test.YtdimfmnimobmfaaGreatDoorM4
import Derived.Test.YtdimfmnimobmfaaGreatDoorM3
set_option linter.unusedVariables false
set_option linter.unusedSectionVars false
set_option linter.unusedSimpArgs false
set_option maxRecDepth 100000
set_option maxHeartbeats 4000000
attribute [local irreducible] Go.Eng.LM Go.Eng.LD Go.Eng.KD Go.Eng.af Go.Eng.QM
namespace Go.Eng
open Go Go.Proofs Go.RowKit
variable {out:List Act} {xs:List Int} {ws:List bA} {b i j k n0 t:Nat} {m:ab} {o:bO} {s:dU}
theorem NJ {l:Nat} {x:aB} {to:List Int} (h:i<to.length):n4 l x (to.take (i+1))=oJ l (n4 l x (to.take i)) (to.getD i 0):=by
  unfold n4;rw [bQ 0 h,List.foldl_append];rfl
def UnT (k:Nat) (L:List Int) (y u:Value) (mr:ab):Prop:=∃ad cap,u= .tuple #[.slice ad L.length cap,y]/\Sl fI 3 1 k L (.slice ad L.length cap) mr
theorem Hs {P:Program} {f:FuncId} {args:Array Value} {w:World} {l:Nat} {bs:List Nat} {ls:List bf} {mm:ab} {L:List Int} {y:Value} {x':bf} (h:kJ Qv n0 bs ls mm) (hi:l<ls.length) (hm:Mem w mm)
    (hs:∀m,iN n0 (bs.getD l default) (ls.getD l default) ((ls.getD l default).wt.map fp) m->Mem w m->aD P f args w (fq m (UnD n0 (bs.getD l default) k L y x') w)):
    aD P f args w (fq mm (fun u m'=>∃mr mx,UnT k L y u mr/\m'=mr++mx/\kJ Qv n0 bs (ls.set l x') mx) w):=
  h.acH EZ hi hm (fun m hr hM=>(hs m hr hM).mono (fun u w' hU=>hU.imp (fun u m' ⟨v,mr,mx,h1,h2,h3,h4⟩=>by
    obtain ⟨ad,cap,rfl⟩:=h2.form;exact⟨mr,mx,⟨ad,cap,h1,h2⟩,h3,h4⟩)))
theorem mI {l k0 n cap:Nat} {ad:Option Addr} {to:List Int} {x:aB} {mr:ab} (w:World) (h:eQ n0 b s x m) (hI:MI k x) (hk:k<=900000000000) (hl:l<x.lk.length) (hto:∀t∈to,iz x.ts.length t) (h8:to.length<=8) (hn:n=to.length) (BR:Sl fI 3 1 k0 to (.slice ad n cap) mr) (cm:n0<=w.heap.size) (hM:Mem w (m++(mr++ []))):aD Tryz.prog 60 #[.pointer (some ⟨b,0,none⟩),.int .i64 (l:Nat),.slice ad n cap] w (fq m (fun u m'=>u= .tuple #[]/\eQ n0 b s (cT x l to) m') w):=by
 have hmb:=h.b;refine aD.ak Tryz.func60 rfl Tryz.ntmps60 rfl (m++(mr++ [])) ((gU m)) hM ?_;refine J7 ?_;refine af.aO (α:=Nat×aB×ab) (fun ⟨i,y,mi⟩=>[(6,.int .i64 (i:Nat))]) [(0,_),(1,_),(2,_)] (fun ⟨i,y,mi⟩=>mi++(mr++ [])) (fun ⟨i,y,mi⟩=>i<=to.length/\y=n4 l x (to.take i)/\eQ n0 b s y mi/\df m w.heap.size mi) (fun ⟨i,y,mi⟩=>to.length-i) ((0,x,m)) cA aX ⟨Nat.zero_le _,rfl,h,ay _ _⟩ ?_;rintro ⟨i,y,mi⟩ ⟨hi,hy,ZS,hni⟩;change af _ _ _ _ _ _ _ (mi++(mr++ [])) _ _ _;have VN:MI (k+3*(to.take i).length) y:=(by rw [hy];exact hI.n4 (fun t ht=>hto t (List.mem_of_mem_take ht)));have ZI:=oE l (to.take i) x;rw [<-hy] at ZI;have KT:l<y.lk.length:=(by rw [ZI.2.1];exact hl);have K1:=List.length_take_le i to;have rB:=VN.tl;have BO:=VN.ev;refine J9 ?_;refine af.aj rfl (fun h1=>?_) (fun h1=>?_)
 ·have EV:=hto _ (List.mem_of_getElem? (aH 0 (show i<to.length by omega)));obtain ⟨t,zl⟩:∃t:Nat,to.getD i 0=(t:Nat):=(by unfold iz at EV;exact⟨(to.getD i 0).toNat,by omega⟩);have ht:t<y.ts.length:=(by rw [ZI.1];rw [zl] at EV;unfold iz at EV;omega);have BS:0<=(y.ts.getD t default).pc/\(y.ts.getD t default).pc<=((k+3*(to.take i).length:Nat):Int):=(VN.tb t ht).pc;have vO:=(VN.li l KT).hl;refine J9 ?_;refine LM.rd (bt aC ir Tryz.isAgg3 rfl rfl (by first|exact bE om|exact aH 0 cH) (by rfl)) ?_;refine dc ?_;rw [zl];refine cE Tryz.func112 rfl (fun w hm hc hg=>yg l (t:Nat) w ZS KT om (hm.pick mi)) ?_;refine cU Tryz.func53 rfl (fun w hm hc hg=>cc 4 (t:Nat) (l:Nat) (dD (gL y l) t) w ZS om (Nat.le_trans cm hc.size) (hm.pick mi)) ZS.bJ (au hni) ?_;rintro u25 m25 ⟨rfl,uB⟩ Oe;obtain ⟨P,hP,uB⟩:=uB;change m25=az b s y.now P at hP;subst hP;obtain ⟨ig,ii,il,ip,ix,it,iv,ie,ic,iq⟩:=bK (ar hni Oe);have gS:Sl KN 81 12 n0 y.ts (.slice P.at' P.nt P.ct) P.mt:=uB.st;have uF:P.nt=y.ts.length:=uB.nt;have Vc:Sl fU 41 1 n0 y.g (.slice P.ax P.nx P.cx) P.mx:=uB.sx;have ER:=uB.nx;have sI:y.g.length=64:=uB.gl;refine dc ?_;refine LM.rd (aL (j:=4) aC ir Tryz.isAgg3 rfl rfl (by first|exact bE om|exact aH default cH) rfl (by rfl)) ?_;refine J3 ?_;refine LM.ja (oM (gT y t)) (j:=4) aC ir Tryz.sizeOf3 rfl rfl rfl (by first|exact bE om|exact aH default cH) rfl (by decide) (by rfl) rfl (au aC) (fun mP dy eB=>?_)
  try rw [List.set_set] at dy
  have Jp:=ck eB aC;refine gz ?_;refine LM.ja (0#64) (j:=0) aC ir Tryz.sizeOf41 rfl rfl rfl (by first|exact bE om|exact aH 0#64 cH) rfl (by decide) (by rfl) rfl (au aC) (fun kF gM kQ=>?_)
  try rw [List.set_set] at gM
  have K0:=ck kQ aC;refine J3 ?_;have yx:eQ n0 b s (cC (bh (ba y 4 t l (dD (gL y l) t)) t) t) (az b s y.now {P with mt:=mP,mx:=kF}):=⟨_,rfl,{uB with nt:=(by show P.nt=(y.ts.set t _).length;rw [List.length_set];exact uF),st:=dy,gl:=(by show (y.g.set t _).length=64;rw [List.length_set];exact sI),sx:=gM}⟩
  refine J2 ?_;refine cU Tryz.func58 rfl (fun w hm hc hg=>qS t w yx (by show t<(y.ts.set _ _).length;rw [List.length_set];exact ht) (by show y.v.length=(y.ts.set _ _).length;rw [List.length_set];exact VN.vl) (by show (y.ev++ [_]).length<=_;rw [List.length_append,List.length_singleton];omega) (Nat.le_trans cm hc.size) (hm.pick _)) yx.bJ (au aP) ?_;rintro u48 m48 ⟨rfl,Zz⟩ P5;refine J8 ?_;refine aK (i+1,oJ l y (t:Nat),m48) ?_ ?_
  ·exact⟨by omega,by rw [NJ om,<-hy,zl],Zz,ar aP P5⟩
  ·(dsimp only;omega)
 refine J8 ?_;refine cU Tryz.func113 rfl (fun w hm hc hg=>xj l w ZS KT (by have:=(VN.li l KT).hl;omega) (VN.w8 KT) (hm.pick mi)) ZS.bJ (au hni) ?_;rintro u51 m51 ⟨rfl,h51⟩ abi;refine J1 ?_;refine QM.leave (.inr rfl) [] Tryz.results60 rfl ?_;intro w' ao aa aA;have eA:i=to.length:=om;subst eA;rw [List.take_length] at hy;exact bp (m':=m51) ⟨rfl,(by rw [hy] at h51;exact h51)⟩ ao aX aa (ar hni abi)
set_option maxHeartbeats 2000000 in
theorem qQ {x:aB} (w:World) (h:eQ n0 b s x m) (hI:MI k x) (hk:k<=800000000000) (ht:t<x.ts.length) (cm:n0<=w.heap.size) (hM:Mem w m):aD Tryz.prog 28 #[.pointer (some ⟨b,0,none⟩),.int .i64 (t:Nat)] w (fq m (fun u m'=>u= .tuple #[]/\eQ n0 b s (ku x t) m') w):=by
 obtain ⟨P,rfl,h⟩:=h;have uF:=h.nt;have gS:=h.st;have vV:=h.nl;have u2:=h.bl;have jL:=h.sl;obtain ⟨ig,ii,il,ip,ix,it,iv,ie,ic,iq⟩:=bK (ay (az b s x.now P) w.heap.size);have rB:=hI.tl;refine aD.ak Tryz.func28 rfl Tryz.ntmps28 rfl (az b s x.now P++ []) ((gU (az b s x.now P))) aM ?_;refine cF ?_;refine LM.rd (aL (j:=6) aC ir Tryz.isAgg3 rfl rfl (by first|exact bE om|exact aH default cH) rfl (by rfl)) ?_;refine J3 ?_;refine af.bB (α:=va) (fun P0=>[]) [(0,_),(1,_)] (fun P0=>az b s x.now P0++ []) (fun P0=>gF n0 b s (oy x t) P0/\df (az b s x.now P) w.heap.size (az b s x.now P0)) cA ?_ ?_
 ·refine af.aj rfl (fun h1=>?_) (fun h1=>?_)
  ·have Ub:=(hI.tb t ht).l4 h1;obtain ⟨l,tF⟩:∃l:Nat,(x.ts.getD t default).lk=(l:Nat):=⟨(gT x t).lk.toNat,(Int.toNat_of_nonneg Ub.1).symm⟩;have eE:l<x.lk.length:=(by rw [hI.ll];have:(gT x t).lk=(l:Nat):=tF;omega);have hL:=hI.li l eE;have hLh:=hL.hl;have hdi:oy x t=cT (aY x l (fR (gL x l) t)) l (oc (gL x l) t):=(by unfold oy;rw [if_pos h1,show (gT x t).lk.toNat=l by rw [show (gT x t).lk=(l:Nat) from tF];rfl])
   refine J9 ?_;refine LM.rd (aL (j:=8) aC ir Tryz.isAgg3 rfl rfl (by first|exact bE om|exact aH default cH) rfl (by rfl)) ?_;refine J5 ?_;rw [tF];refine J6 ?_;refine LM.rd (bt aC ir Tryz.isAgg71 rfl rfl (by first|exact bE om|exact aH default cH) (by rfl)) ?_;refine J1 ?_;refine cU Tryz.func59 rfl (fun w hm hc hg=>Hs h.sq eE (hm.pick P.mq) (fun m hr hM=>tH (k:=n0) (t:Nat) w hL.w hr (Nat.le_trans cm hc.size) (by have:=hL.hl;show (gL x l).ho.length<=900;omega) (Nat.le_trans cm hc.size) hM)) (h.sq.bJ EZ) (au iq) ?_;rintro u36 Y8 ⟨mr,aaM,⟨adr,WW,rfl,BR⟩,rfl,zM⟩ Og;refine LM.assoc ?_;have i36:df (az b s x.now P) w.heap.size aaM:=fun p hp=>ar iq Og p (List.mem_append_right _ hp);have yW:eQ n0 b s (aY x l (fR (gL x l) t)) (az b s x.now {P with mq:=aaM}):=⟨_,rfl,{h with nl:=(by show P.nl=(x.lk.set _ _).length;rw [List.length_set];exact vV),bl:=(by show P.bs.length=(x.lk.set _ _).length;rw [List.length_set];exact u2),sq:=zM}⟩;have iC:=hI.aY (l:=l) (hL.lv t);refine dc ?_;refine cU Tryz.func60 rfl (fun w hm hc hg=>mI w yW iC om (by rw [cj];exact eE) (hL.i.oc t) (Nat.le_trans (pU ..) (hI.w8 eE)) rfl BR (Nat.le_trans cm hc.size) (sm hm)) yW.bJ (au aP) ?_;rintro u42 Sq ⟨rfl,h42⟩ uN;rw [<-hdi] at h42;obtain ⟨P2,TN,h42⟩:=h42;rw [(sz x t).2.2.2] at TN;subst TN;refine J1 ?_;refine mK (P2) ?_
   ·exact⟨h42,ar aP uN⟩
  refine J1 ?_;refine mK (P) ?_
  ·exact⟨by rw [show oy x t=x from if_neg h1];exact h,ay _ _⟩
 rintro P0 ⟨h0,agv⟩;change QM _ _ _ _ _ (az b s x.now P0++ []) _ _ _
 clear ig ii il ip ix it iv ie ic iq;have hd0:=sz x t;obtain ⟨ig,ii,il,ip,ix,it,iv,ie,ic,iq⟩:=bK agv;have Vc:=h0.sx;have ER:=h0.nx;have sI:=h0.gl
 refine cM ?_;refine LM.ja (0#64) (j:=0) aC ir Tryz.sizeOf41 rfl rfl rfl (by first|exact bE om|exact aH 0#64 cH) rfl (by decide) (by rfl) rfl (au aC) (fun mP dy eB=>?_)
 try rw [List.set_set] at dy
 have Jp:=ck eB aC;refine J9 ?_;refine af.aO (α:=Nat×aB×va) (fun ⟨i,y,Q⟩=>[(7,.int .i64 (i:Nat))]) [(0,_),(1,_)] (fun ⟨i,y,Q⟩=>az b s x.now Q++ []) (fun ⟨i,y,Q⟩=>i<=x.lk.length/\y=lS t (uC x t) i/\gF n0 b s y Q/\df (az b s x.now P) w.heap.size (az b s x.now Q)) (fun ⟨i,y,Q⟩=>x.lk.length-i) ((0,uC x t,{P0 with mx:=mP})) cA aX ⟨Nat.zero_le _,rfl,{h0 with gl:=(by show ((oy x t).g.set _ _).length=64;rw [List.length_set];exact sI),sx:=dy},aP⟩ ?_;rintro ⟨i,y,Q⟩ ⟨hi,hy,hQ,zR⟩;change af _ _ _ _ _ _ _ (az b s x.now Q++ []) _ _ _;have YX:=oY x t;have js:MI (k+24+25*i) y:=(by rw [hy];exact(hI.uC ht).lS t (by rw [YX.2.1];exact hi));have nV:=jo t (uC x t) i;rw [<-hy] at nV;have WY:y.lk.length=x.lk.length:=nV.2.1.trans YX.2.1;have qA:y.ts.length=x.ts.length:=nV.1.trans YX.1;have mz:y.now=x.now:=nV.2.2.2.trans YX.2.2.2;clear ig ii il ip ix it iv ie ic iq;obtain ⟨ig,ii,il,ip,ix,it,iv,ie,ic,iq⟩:=bK zR;have aok:=hQ.nl;have anP:=hQ.bl;have KF:=hQ.sl;have Rm:=hI.l8;refine cM ?_;refine af.aj rfl (fun h2=>?_) (fun h2=>?_)
 ·refine cM ?_;refine LM.rd (bt aC ir Tryz.isAgg71 rfl rfl (by first|exact bE om|exact aH default cH) (by rfl)) ?_;refine J1 ?_;refine cE Tryz.func69 rfl (fun w hm hc hg=>hQ.sq.read (i:=i) om (hm.pick Q.mq) (fun m hr hM=>(show aD _ _ _ _ (fun u w'=>u= .bool (bj (gL y i) (t:Nat))/\Ext _ w') from mf (t:Nat) w hr hM))) ?_;refine J2 ?_;refine af.aN rfl (fun h3=>?_) (fun h3=>?_)
  ·have eA:i<y.lk.length:=om;have hLi:=js.li i eA;have hLh:=hLi.hl;have qC:eQ n0 b s y (az b s x.now Q):=hQ.m;have hd1:tt t y i=cT (aY (ba y 12 t i 0) i (tx (gL y i) t)) i (v9 (gL y i) t):=if_pos h3;have Yi:=js.ev;refine J5 ?_;refine cU Tryz.func53 rfl (fun w hm hc hg=>cc 12 (t:Nat) (i:Nat) 0 w qC om (Nat.le_trans cm hc.size) (hm.pick _)) qC.bJ (au zR) ?_;rintro u73 m73 ⟨rfl,UR⟩ aav;obtain ⟨P1,lD,UR⟩:=UR;rw [show (ba y 12 t i 0).now=x.now from mz] at lD;subst lD;clear ig ii il ip ix it iv ie ic iq;obtain ⟨ig,ii,il,ip,ix,it,iv,ie,ic,iq⟩:=bK (ar zR aav);have ag3:P1.nl=y.lk.length:=UR.nl;have afE:P1.bs.length=y.lk.length:=UR.bl;have amr:=UR.sl;have iC:=js.fX 12 t i 0;refine cF ?_;refine LM.rd (bt aC ir Tryz.isAgg71 rfl rfl (by first|exact bE om|exact aH default cH) (by rfl)) ?_;refine J1 ?_;refine cU Tryz.func70 rfl (fun w hm hc hg=>Hs UR.sq eA (hm.pick P1.mq) (fun m hr hM=>Gq (k:=n0) (t:Nat) w hLi.w hr (Nat.le_trans cm hc.size) (by show (gL y i).ho.length<=900;omega) (Nat.le_trans cm hc.size) hM)) (UR.sq.bJ EZ) (au iq) ?_;rintro u83 m83 ⟨mr,acF,⟨adr,WW,rfl,BR⟩,rfl,zM⟩ Mv;refine LM.assoc ?_;have i83:df (az b s x.now P) w.heap.size acF:=fun p hp=>ar iq Mv p (List.mem_append_right _ hp);have yx:eQ n0 b s (aY (ba y 12 t i 0) i (tx (gL y i) t)) (az b s x.now {P1 with mq:=acF}):=gF.m (hn:=mz) {UR with nl:=(by show _=(y.lk.set _ _).length;rw [List.length_set];exact ag3),bl:=(by show _=(y.lk.set _ _).length;rw [List.length_set];exact afE),sq:=zM};have kq:=iC.aY (l:=i) (hLi.mono (Nat.le_refl _) (Nat.le_succ _) |>.die t);refine dc ?_;refine cU Tryz.func60 rfl (fun w hm hc hg=>mI w yx kq om (by rw [cj];exact eA) (hLi.i.v9 t) (Nat.le_trans (IB ..) (js.w8 eA)) rfl BR (Nat.le_trans cm hc.size) (sm hm)) yx.bJ (au aP) ?_;rintro u89 m89 ⟨rfl,h89⟩ aaD;rw [<-hd1] at h89;obtain ⟨P2,TN,h89⟩:=h89;rw [(BY t y i).2.2.2,mz] at TN;subst TN;refine J8 ?_;refine aK (i+1,tt t y i,P2) ?_ ?_
   ·exact⟨by omega,by rw [kn,<-hy],h89,ar aP aaD⟩
   ·(dsimp only;omega)
  refine J8 ?_;refine aK (i+1,tt t y i,Q) ?_ ?_
  ·exact⟨by omega,by rw [kn,<-hy],by rw [show tt t y i=y from if_neg (by simpa [bj] using h3)];exact hQ,zR⟩
  ·(dsimp only;omega)
 have eA:i=x.lk.length:=om;subst eA;have qC:eQ n0 b s y (az b s x.now Q):=hQ.m;refine J9 ?_;refine cU Tryz.func71 rfl (fun w hm hc hg=>rv t w qC (by rw [js.vl,qA];exact ht) (Nat.le_trans cm hc.size) (hm.pick _)) qC.bJ (au zR) ?_;rintro u92 m92 ⟨rfl,UP⟩ LQ;rw [hy] at UP;change eQ n0 b s (EN x t) m92 at UP;have hz:=yp x t;have rR:=hI.EN ht;obtain ⟨z,hzz⟩:∃z,z=EN x t:=⟨_,rfl⟩;have YX:ku x t=ba (bR z t (tM (gT z t))) 11 t (-1) 0:=(by rw [hzz];rfl);rw [<-hzz] at UP hz rR;obtain ⟨P1,lD,UP⟩:=UP;rw [hz.2.2.2] at lD;subst lD;clear ig ii il ip ix it iv ie ic iq;obtain ⟨ig,ii,il,ip,ix,it,iv,ie,ic,iq⟩:=bK (ar zR LQ);have yU:=UP.nt;have E3:=UP.st;have Di:t<z.ts.length:=(by rw [hz.1];exact ht);have an7:=rR.ev;refine dc ?_;refine LM.ja ({gT z t with st:=5}) (j:=6) aC ir Tryz.sizeOf3 rfl rfl rfl (by first|exact bE om|exact aH default cH) rfl (by decide) (by rfl) rfl (au aC) (fun kF gM kQ=>?_)
 try rw [List.set_set] at gM
 have K0:=ck kQ aC;refine dc ?_;refine LM.ja ({gT z t with st:=5,un:=0#64}) (j:=7) aC ir Tryz.sizeOf41 rfl rfl rfl (by first|exact bE om|exact aH default cH) rfl (by decide) (by rfl) rfl (au aC) (fun td mV sD=>?_)
 try rw [List.set_set] at mV
 have V9:=ck sD aC;refine dc ?_;refine LM.ja ({gT z t with st:=5,un:=0#64,lk:= -1}) (j:=8) aC ir Tryz.sizeOf3 rfl rfl rfl (by first|exact bE om|exact aH default cH) rfl (by decide) (by rfl) rfl (au aC) (fun ms4 JV Ms=>?_)
 try rw [List.set_set] at JV
 have ii4:=ck Ms aC;refine dc ?_;refine LM.ja (tM (gT z t)) (j:=5) aC ir Tryz.sizeOf3 rfl rfl rfl (by first|exact bE om|exact aH default cH) rfl (by decide) (by rfl) rfl (au aC) (fun ms5 L9 VC=>?_)
 try rw [List.set_set] at L9
 have ii5:=ck VC aC;refine J3 ?_;have Pf:eQ n0 b s (bR z t (tM (gT z t))) (az b s x.now {P1 with mt:=ms5}):=gF.m (hn:=hz.2.2.2) {UP with nt:=(by rw [aW];exact yU),st:=L9};refine J2 ?_;refine cU Tryz.func53 rfl (fun w hm hc hg=>cc 11 (t:Nat) (-1) 0 w Pf (by show z.ev.length<=_;omega) (Nat.le_trans cm hc.size) (hm.pick _)) Pf.bJ (au aP) ?_;rintro aqE ag7 ⟨rfl,af1⟩ X7;refine J1 ?_;refine QM.leave (.inr rfl) [] Tryz.results28 rfl ?_;intro w' ao aa aA;exact bp (m':=ag7) ⟨rfl,by rw [YX];exact af1⟩ ao aX aa (ar aP X7)
structure EI (n0 b:Nat) (qs:List Qm) (ad:Option Addr) (n cap:Nat) (bs:List Nat) (ms:ab) (m:ab):Prop where
  wf:tv qs
  nl:n=qs.length
  sl:Sl fP 114 1 n0 bs (.slice ad n cap) ms
  hm:∃mm,m=iE b ad n cap::(ms++mm)/\kJ jb n0 bs qs mm
  hb:n0<=b
section
variable {n0 b n cap:Nat} {qs:List Qm} {ad:Option Addr} {bs:List Nat} {m ms:ab}
theorem RcM.x (h:RcM n0 b qs m):∃ad n cap bs ms,EI n0 b qs ad n cap bs ms m:=by
  obtain ⟨hw,ad,n,cap,ms,mm,bs,rfl,hn,hs,hq,hb⟩:=h;exact⟨ad,n,cap,bs,ms,hw,hn,hs,⟨mm,rfl,hq⟩,hb⟩
theorem EI.c (h:EI n0 b qs ad n cap bs ms m):RcM n0 b qs m:=by
  obtain ⟨hw,hn,hs,⟨mm,rfl,hq⟩,hb⟩:=h;exact⟨hw,ad,n,cap,ms,mm,bs,rfl,hn,hs,hq,hb⟩
theorem EI.len (h:EI n0 b qs ad n cap bs ms m):bs.length=qs.length:=by obtain ⟨hw,hn,hs,⟨mm,rfl,hq⟩,hb⟩:=h;exact hq.len
theorem EI.ld (h:EI n0 b qs ad n cap bs ms m) {w:World} (hM:Mem w m):Mem w (iE b ad n cap::(ms++ [])):=by
  obtain ⟨hw,hn,hs,⟨mm,rfl,hq⟩,hb⟩:=h;refine hM.sub (List.Sublist.cons_cons _ ?_);rw [List.append_nil];exact List.sublist_append_left _ _
theorem EI.mm (h:EI n0 b qs ad n cap bs ms m) {i:Nat} (hi:i<qs.length):∃(ow:Option Addr) (n2 fa:Nat) (Qx:ab),n2=(qg qs i).l.length/\nJ (qg qs i)/\Sl yN 134 3 n0 (qg qs i).l (.slice ow n2 fa) Qx/\∀w,Mem w m->Mem w (ea (bs.getD i default) (qg qs i).g (qg qs i).fl ow n2 fa (qg qs i).cur (qg qs i).cY::Qx):=by
  obtain ⟨hw,hn,hs,⟨mm,rfl,hq⟩,hb⟩:=h;obtain ⟨ow,n2,fa,Qx,h1,h2,h3,h4⟩:=hq.Ch hi;exact⟨ow,n2,fa,Qx,h1,h2,h3,fun w hM=>h4 w (hM.sub ((List.sublist_append_right ms mm).cons _))⟩
theorem EI.read {P:Program} {f:FuncId} {args:Array Value} {w:World} {Q:Value->World->Prop} {i:Nat} (h:EI n0 b qs ad n cap bs ms m) (hi:i<qs.length) (hM:Mem w m)
    (hs:∀m,jb n0 (bs.getD i default) (qg qs i) m->Mem w m->aD P f args w Q):aD P f args w Q:=by
  obtain ⟨hw,hn,YU,⟨mm,rfl,hq⟩,hb⟩:=h;exact hq.read hi (hM.sub ((List.sublist_append_right ms mm).cons _)) hs
theorem EI.Dx {P:Program} {f:FuncId} {args:Array Value} {w:World} {u0:Value} {x':Qm} {i:Nat} (h:EI n0 b qs ad n cap bs ms m) (hi:i<qs.length) (hM:Mem w m) (T7:tv (qs.set i x'))
    (hs:∀m,jb n0 (bs.getD i default) (qg qs i) m->Mem w m->aD P f args w (fq m (fun u m'=>u=u0/\jb n0 (bs.getD i default) x' m') w)):
    aD P f args w (fq m (fun u m'=>u=u0/\EI n0 b (qs.set i x') ad n cap bs ms m') w):=by
  obtain ⟨hw,hn,YU,⟨mm,rfl,hq⟩,hb⟩:=h;have hp:((iE b ad n cap::(ms++mm)):ab).Perm (mm++(iE b ad n cap::ms)):=(List.perm_append_comm (l₁:=iE b ad n cap::ms) (l₂:=mm))
  have hMm:=hM.perm hp;refine (hq.Dx KJ hi (hM.sub ((List.sublist_append_right ms mm).cons _)) hs).mono (fun u w' hU=>?_);obtain ⟨m',⟨hu,hr⟩,WC,hM',hC,_⟩:=wI (G:=top) (S:=fun b'=>∃q∈(iE b ad n cap::(ms++mm):ab),q.1=b') (w0:=w) hMm (hq.bJ KJ) (fun p Mb _=>⟨p,List.mem_cons_of_mem _ (List.mem_append_right _ Mb),rfl⟩) (cG.refl _ _) trivial hU;refine ⟨hC,iE b ad n cap::(ms++m'),⟨hu,T7,by rw [List.length_set];exact hn,YU,⟨m',rfl,hr⟩,hb⟩,hM'.perm (List.perm_append_comm (l₁:=iE b ad n cap::ms) (l₂:=m')).symm,fun p Mb=>?_⟩;rcases List.mem_cons.1 Mb with rfl|Mb
  ·exact .inr ⟨_,List.mem_cons_self ..,rfl⟩
  rcases List.mem_append.1 Mb with Mb|Mb
  ·exact .inr ⟨p,List.mem_cons_of_mem _ (List.mem_append_left _ Mb),rfl⟩
  · rcases WC p Mb with e|⟨q,hq,e⟩
    ·exact .inl e
    ·exact .inr ⟨q,List.mem_cons_of_mem _ (List.mem_append_right _ hq),e⟩
end
set_option maxHeartbeats 2000000 in
theorem jZ {x:aB} (w:World) (h:eQ n0 b s x m) (hI:MI k x) (cm:n0<=w.heap.size) (hM:Mem w m):aD Tryz.prog 27 #[.pointer (some ⟨b,0,none⟩)] w (fq m (fun u m'=>u= .tuple #[]/\eQ n0 b s (ki x) m') w):=by
 obtain ⟨P,rfl,h⟩:=h;have uF:=h.nt;have gS:=h.st;have rB:=hI.tl;refine aD.ak Tryz.func27 rfl Tryz.ntmps27 rfl (az b s x.now P++ []) ((gU (az b s x.now P))) aM ?_;refine cM ?_;refine af.aO (α:=Nat×Option Addr×Nat×Nat×ab) (fun ⟨i,eu,no,bP,mo⟩=>[(2,.slice eu no bP),(3,.int .i64 (i:Nat))]) [(0,_)] (fun ⟨i,eu,no,bP,mo⟩=>az b s x.now P++(mo++ [])) (fun ⟨i,eu,no,bP,mo⟩=>i<=x.ts.length/\no=i/\Sl fI 3 1 w.heap.size ((rP x).take i) (.slice eu no bP) mo) (fun ⟨i,eu,no,bP,mo⟩=>x.ts.length-i) ((0,none,0,0,[])) cA aX ⟨Nat.zero_le _,rfl,.nil _ _ _ _⟩ ?_;rintro ⟨i,eu,no,bP,mo⟩ ⟨hi,gK,kH⟩;change af _ _ _ _ _ _ _ (az b s x.now P++(mo++ [])) _ _ _;have ioo:df (az b s x.now P) w.heap.size mo:=(fun p hp=> .inl (kH.ge p hp));have Lj:((rP x).take i).length=i:=(by rw [List.length_take,qe];omega)
 refine cM ?_;refine af.aj rfl (fun h1=>?_) (fun h1=>?_)
 ·refine gz ?_;refine LM.rd (aL (j:=9) aC ir Tryz.isAgg3 rfl rfl (by first|exact bE om|exact aH default cH) rfl (by rfl)) ?_;refine gz ?_;refine LM.rd (aL (j:=6) aC ir Tryz.isAgg3 rfl rfl (by first|exact bE om|exact aH default cH) rfl (by rfl)) ?_;refine J3 ?_;refine af.bB (α:=Unit) (fun ⟨⟩=>[(4,.int .i64 (D7 (x.ts.getD i default)))]) [(0,_),(2,_),(3,_)] (fun ⟨⟩=>az b s x.now P++(mo++ [])) (fun ⟨⟩=>True) cA ?_ ?_
  ·refine af.aj rfl (fun h2=>?_) (fun h2=>?_)
   ·refine J3 ?_;refine QM.zK (⟨⟩) ⟨(by first|exact lk rfl (congrArg (Value.int .i64) (show _=D7 _ from (if_pos aC).symm))|exact lk rfl (congrArg (Value.int .i64) (show _=D7 _ from (if_neg aC).symm))),rfl,rfl,rfl,trivial⟩ aX ?_
    ·trivial
   refine J1 ?_;refine QM.zK (⟨⟩) ⟨(by first|exact lk rfl (congrArg (Value.int .i64) (show _=D7 _ from (if_pos aC).symm))|exact lk rfl (congrArg (Value.int .i64) (show _=D7 _ from (if_neg aC).symm))),rfl,rfl,rfl,trivial⟩ aX ?_
   ·trivial
  rintro ⟨⟩ _;change QM _ _ _ _ _ (az b s x.now P++(mo++ [])) _ _ _;refine J4 ?_;refine LM.single Tryz.underlying26 Tryz.sizeOf3 Tryz.zeroValue3 rfl rfl rfl rfl rfl (fun b37 adf=>?_);refine LM.app (a:=D7 (x.ts.getD i default)) Tryz.underlying26 Tryz.typeInfo3 rfl rfl rfl rfl rfl rfl rfl aC (by rfl) ir (by intro _ u hu;simp [fI] at hu;(repeat (first|(rcases hu with rfl|hu)|subst hu|rfl))) (by first|exact Nat.le_refl _|omega) (au aC) (by first|omega|(unfold maxLen;omega)) (by simp only [Tryz.t3];omega) (fun I3 Ue z8 Wm Yk Pe uT=>?_);have aiW:=ar aC uT;refine J9 ?_;refine aK (i+1,I3,Ue,z8,Wm) ?_ ?_
  ·exact⟨by omega,by omega,by rw [M4 om];exact Pe⟩
  ·(dsimp only;omega)
 refine J7 ?_;have eA:i=x.ts.length:=om;subst eA;rw [List.take_of_length_le (by rw [qe];exact Nat.le_refl _)] at kH;refine J5 ?_;refine LM.cS (oC Tryz.func65) (fun w hm hc hg=>Jl P.bg w h.gl hI.gi.a h.nx h.sx (by rw [qe];omega) (Sl.l7 kH (fun _=>rfl) hm) (by rw [qe];omega) (sm hm)) (fun aqh n44 ajS m44 aiU ahb=>?_);obtain ⟨fC,hef⟩:∃fC,fC=y7 (rP x) x.g:=⟨_,rfl⟩;have hel:fC.length=x.ts.length:=(by rw [hef];unfold y7 CS;rw [List.length_map,List.length_range,qe];omega);rw [<-hef] at ahb aiU;refine cF ?_;refine af.aO (α:=Nat×aB×va) (fun ⟨i,y,Q⟩=>[(6,.int .i64 (i:Nat))]) [(0,_),(5,_)] (fun ⟨i,y,Q⟩=>az b s x.now Q++(m44++ [])) (fun ⟨i,y,Q⟩=>i<=x.ts.length/\y=tw fC x i/\gF n0 b s y Q/\df (az b s x.now P) w.heap.size (az b s x.now Q)) (fun ⟨i,y,Q⟩=>x.ts.length-i) ((0,x,P)) cA aX ⟨Nat.zero_le _,rfl,h,ay _ _⟩ ?_;rintro ⟨i,y,Q⟩ ⟨hi,hy,hQ,zR⟩;change af _ _ _ _ _ _ _ (az b s x.now Q++(m44++ [])) _ _ _;have js:MI k y:=(by rw [hy];exact hI.tw fC hi);have nV:=lY fC x i;rw [<-hy] at nV;have qA:y.ts.length=x.ts.length:=nV.1;have mz:y.now=x.now:=nV.2.2.2.1;obtain ⟨ig,ii,il,ip,ix,it,iv,ie,ic,iq⟩:=bK zR;have Lp:=hQ.st;have Rq:=hQ.nt;obtain ⟨nS,nq,kl,Hc,tj,hX⟩:=hQ.sc.x;have Wi:=hX.sl;have hXl:=hX.len;have hXn:=hX.nl;refine cM ?_;refine af.aj rfl (fun h3=>?_) (fun h3=>?_)
 ·refine J6 ?_;refine af.draw [(0,0),(1,0),(2,0),(3,1),(4,0),(5,0),(6,0),(7,1),(8,0),(9,0),(10,0),(11,0),(12,0),(13,1),(14,0),(15,0),(16,0),(17,1),(18,0),(19,0),(20,0),(21,1),(22,0),(23,0)] kr kr ?_;refine J7 ?_;refine LD.rd rfl rfl (aL (j:=6) aC ir Tryz.isAgg3 rfl rfl (by first|exact bE om|exact aH default cH) rfl (by rfl)) ?_;refine J2 ?_;refine LD.aw (t:=63) rfl (fun h4=>?_) (fun h4=>?_)
  ·refine J26 ?_;refine aK (i+1,tp fC y i,Q) ?_ ?_
   ·exact⟨by omega,by rw [jk,<-hy],by rw [show tp fC y i=y from if_pos (.inl h4)];exact hQ,zR⟩
   ·(dsimp only;omega)
  refine J7 ?_;refine LD.rd rfl ⟨63,_,rfl,rfl,rfl⟩ (aL (j:=10) aC ir Tryz.isAgg3 rfl rfl (by first|exact bE om|exact aH default cH) rfl (by rfl)) ?_;refine J3 ?_;refine LD.rd rfl ⟨63,_,rfl,rfl,rfl⟩ (bt aC ir Tryz.isAgg3 rfl rfl (by first|exact bE om|exact aH 0 cH) (by rfl)) ?_;refine J4 ?_;refine af.aj rfl (fun h5=>?_) (fun h5=>?_)
  ·refine J9 ?_;refine aK (i+1,tp fC y i,Q) ?_ ?_
   ·exact⟨by omega,by rw [jk,<-hy],by rw [show tp fC y i=y from if_pos (.inr h5)];exact hQ,zR⟩
   ·(dsimp only;omega)
  have hrk:tp fC y i= {bR y i {gT y i with ef:=fC.getD i 0} with cs:=kG y.cs i (fC.getD i 0)} :=if_neg (fun q=>q.elim h4 h5);refine J3 ?_;refine af.keep (xL b s x.now Q::(m44++ [])) (fun _=>True) (.one 0 0 (.one 1 0 (.one 2 0 (.one 3 1 (.one 4 0 (.one 5 0 (.one 6 0 (.one 7 0 (.one 8 1 (.one 9 0 (.one 10 0 (.last 11)))))))))))) kr kr aX (fun _ _=>trivial) ?_;refine J8 ?_;refine KD.rd rfl rfl (bt aC ir Tryz.isAgg3 rfl rfl (by first|exact bE om|exact aH 0 cH) (by rfl)) ?_;refine J2 ?_;refine KD.last rfl ?_;refine LM.ja ({y.ts.getD i default with ef:=fC.getD i 0}) (j:=10) aC ir Tryz.sizeOf3 rfl rfl rfl (by first|exact bE om|exact aH default cH) rfl (by decide) (by rfl) rfl (au aC) (fun mP dy eB=>?_)
  try rw [List.set_set] at dy
  have Jp:=ck eB aC;refine J1 ?_;refine QM.qn ?_;refine J8 ?_;refine cE Tryz.func66 rfl (fun w hm hc hg=>lg (i:Nat) w hQ.sc (hm.pick Q.mc)) ?_;refine J9 ?_;refine af.aj rfl (fun h6=>?_) (fun h6=>?_)
  ·have kK:bN y.cs i<y.cs.length:=Bz om;have hcw:kG y.cs i (fC.getD i 0)=y.cs.set (bN y.cs i) (nk (qg y.cs (bN y.cs i)) i (fC.getD i 0)):=if_pos kK;refine af.draw [(0,0),(1,0),(2,0),(3,1),(4,0),(5,0),(6,1),(7,0),(8,0),(9,1),(10,0),(11,0),(12,0),(13,0),(14,1),(15,3)] kr kr ?_;rw [rY kK];refine J6 ?_;refine LD.dV rfl rfl (fun w hm hc hg=>iL (M:=iE Q.bc nS nq kl::(tj++ [])) Tryz.isAgg110 rfl rfl w (hX.ld (hm.pick Q.mc))) ?_;refine J2 ?_;refine LD.dV rfl rfl (fun w hm hc hg=>aL (M:=iE Q.bc nS nq kl::(tj++ [])) (i:=bN y.cs i) (j:=0) Wi ir Tryz.isAgg114 rfl rfl (aH (xs:=Hc) default om) rfl (by rfl) w (hX.ld (hm.pick Q.mc))) ?_;refine J4 ?_;refine LD.rd rfl rfl (bt aC ir Tryz.isAgg3 rfl rfl (by first|exact bE om|exact aH 0 cH) (by rfl)) ?_;refine LD.tail rfl rfl ?_;refine cU Tryz.func67 rfl (fun w hm hc hg=>hX.Dx kK (hm.pick Q.mc) (by rw [<-hcw];exact(js.ci.wgh _ _).wf) (fun m hr hM=>F2 (i:Nat) (fC.getD i 0) w hr hM)) hQ.sc.bJ (au ic) ?_;rintro aju adN ⟨rfl,NB⟩ G0;have i112:=ar ic G0;refine J1 ?_;refine QM.qn ?_;refine J7 ?_;refine aK (i+1,tp fC y i,{Q with mt:=mP,mc:=adN}) ?_ ?_
   ·exact⟨by omega,by rw [jk,<-hy],by rw [hrk];exact {hQ with nt:=(by rw [aW];exact Rq),st:=dy,sc:=(by show RcM _ _ (kG _ _ _) _;rw [hcw];exact NB.c)},aP⟩
   ·(dsimp only;omega)
  refine J8 ?_;refine aK (i+1,tp fC y i,{Q with mt:=mP}) ?_ ?_
  ·exact⟨by omega,by rw [jk,<-hy],by rw [hrk];exact {hQ with nt:=(by rw [aW];exact Rq),st:=dy,sc:=(by show RcM _ _ (kG _ _ _) _;rw [show kG y.cs i (fC.getD i 0)=y.cs from if_neg (A0 om)];exact hQ.sc)},aP⟩
  ·(dsimp only;omega)
 have hyF:y=tw (y7 (rP x) x.g) x x.ts.length:=(by rw [hy,<-hef,show i=x.ts.length by omega])
 refine dc ?_;refine af.aO (α:=Nat×List Qm×ab) (fun ⟨i,cs,mc⟩=>[(8,.int .i64 (i:Nat))]) [(0,_)] (fun ⟨i,cs,mc⟩=>az b s x.now {Q with mc:=mc} ++ []) (fun ⟨i,cs,mc⟩=>i<=y.cs.length/\cs=Jo fQ y.cs i/\RcM n0 Q.bc cs mc/\df (az b s x.now P) w.heap.size mc) (fun ⟨i,cs,mc⟩=>y.cs.length-i) ((0,y.cs,Q.mc)) cA aX ⟨Nat.zero_le _,rfl,hQ.sc,ic⟩ ?_;rintro ⟨i,cs,mc⟩ ⟨hi,vH,hRc,hic⟩;change af _ _ _ _ _ _ _ (az b s x.now {Q with mc:=mc} ++ []) _ _ _;have hCi:CI y.ts.length k cs:=(by rw [vH];exact js.ci.stl hi);have iT:cs.length=y.cs.length:=(by rw [vH,mR]);obtain ⟨nS,nq,kl,Hc,tj,hX⟩:=hRc.x;have Wi:=hX.sl;have hXl:=hX.len;have hXn:=hX.nl;have YT:=js.ci.wf.len;refine cF ?_;refine LM.dV (fun w hm hc hg=>iL (M:=iE Q.bc nS nq kl::(tj++ [])) Tryz.isAgg110 rfl rfl w (hX.ld (hm.pick mc))) ?_;refine J4 ?_;refine af.aj rfl (fun h7=>?_) (fun h7=>?_)
 ·refine dc ?_;refine LM.dV (fun w hm hc hg=>iL (M:=iE Q.bc nS nq kl::(tj++ [])) Tryz.isAgg110 rfl rfl w (hX.ld (hm.pick mc))) ?_;refine J2 ?_;refine LM.dV (fun w hm hc hg=>aL (M:=iE Q.bc nS nq kl::(tj++ [])) (j:=0) Wi ir Tryz.isAgg114 rfl rfl (aH (xs:=Hc) default om) rfl (by rfl) w (hX.ld (hm.pick mc))) ?_;refine cU Tryz.func68 rfl (fun w hm hc hg=>hX.Dx (i:=i) om (hm.pick mc) ((hCi.set om (vF (hCi.wf.wf i om)) (by rw [(eY _).1]) (by rw [(eY _).2.2.1];exact hCi.rn i om)).wf) (fun m hr hM=>zb w hr hM)) hRc.bJ (au hic) ?_;rintro ac6 Mn ⟨rfl,XK⟩ Fj;refine J8 ?_;refine aK (i+1,cs.set i (fQ (qg cs i)),Mn) ?_ ?_
  ·exact⟨by omega,by rw [vH];rfl,XK.c,ar hic Fj⟩
  ·(dsimp only;omega)
 refine J4 ?_;refine QM.leave (.inr rfl) [] Tryz.results27 rfl ?_;intro w' ao aa aA;have ah8:i=y.cs.length:=om;subst ah8;rw [FA] at vH;have hrk:ki x= {y with cs:=cs} :=(by rw [vH,hyF];rfl);exact bp (m':=az b s x.now {Q with mc:=mc}) ⟨rfl,by rw [hrk];exact gF.m (hn:=mz) {hQ with sc:=hRc}⟩ ao aX aa aP
abbrev oL (ok:Int) (l:Nat) (ob:Int):bO:=⟨ok,(l:Int),ob⟩
set_option maxHeartbeats 2000000 in
theorem Fv {x:aB} (o:bO) (w:World) (h:eQ n0 b s x m) (hI:MI k x) (hk:k<=800000000000) (ht:t<x.ts.length) (hoa:1<=o.a/\o.a<=64) (cm:n0<=w.heap.size) (hM:Mem w m):aD Tryz.prog 106 #[.pointer (some ⟨b,0,none⟩),.int .i64 (t:Nat),.agg (fO o).toArray] w (fq m (fun u m'=>u= .tuple #[]/\eQ n0 b s (oW x t o.a) m') w):=by
 obtain ⟨P,rfl,h⟩:=h;have uF:=h.nt;have gS:=h.st;have rB:=hI.tl;obtain ⟨ig,ii,il,ip,ix,it,iv,ie,ic,iq⟩:=bK (ay (az b s x.now P) w.heap.size);refine aD.ak Tryz.func106 rfl Tryz.ntmps106 rfl (az b s x.now P++ []) ((gU (az b s x.now P))) aM ?_;refine J2 ?_;refine LM.box rfl rfl (fun b5 BV=>?_);refine cM ?_;refine LM.rd (aL (j:=5) aC ir Tryz.isAgg3 rfl rfl (by first|exact bE om|exact aH default cH) rfl (by rfl)) ?_;refine J3 ?_;refine af.bB (α:=ab) (fun mt=>[]) [(0,_),(1,_)] (fun mt=>Ay b s x.now P P.mx mt P.mc P.mq++(oB b5 o:: [])) (fun mt=>Sl KN 81 12 n0 (x.ts.set t {gT x t with lf:=Fs (gT x t) o.a}) (.slice P.at' P.nt P.ct) mt/\df (az b s x.now P) w.heap.size mt) cA ?_ ?_
 ·refine af.aj rfl (fun h1=>?_) (fun h1=>?_)
  ·refine af.keep (xL b s x.now P::oB b5 o:: []) (fun _=>True) (.one 0 0 (.one 1 0 (.one 2 0 (.one 3 1 (.one 4 0 (.one 5 0 (.one 6 1 (.one 7 0 (.one 8 0 (.last 9)))))))))) kr kr aX (fun _ _=>trivial) ?_;refine J9 ?_;refine KD.last rfl ?_;refine LM.ja ({gT x t with lf:=o.a}) (j:=5) aC ir Tryz.sizeOf3 rfl rfl rfl (by first|exact bE om|exact aH default cH) rfl (by decide) (by rfl) rfl (au aC) (fun mP dy eB=>?_)
   try rw [List.set_set] at dy
   have Jp:=ck eB aC;refine J1 ?_;refine QM.qn ?_;refine mK (mP) ?_
   ·exact⟨by rw [show Fs (gT x t) o.a=o.a from if_pos h1];exact dy,Jp⟩
  refine J1 ?_;refine mK (P.mt) ?_
  ·exact⟨by rw [show Fs (gT x t) o.a=(gT x t).lf from if_neg h1,show ({gT x t with lf:=(gT x t).lf} :iy)=gT x t from rfl,AI default ht];exact gS,it⟩
 rintro mt ⟨E3,it1⟩;change QM _ _ _ _ _ (Ay b s x.now P P.mx mt P.mc P.mq++(oB b5 o:: [])) _ _ _;have hlf:=(hI.tb t ht).lf;have hl0:1<=Fs (gT x t) o.a/\Fs (gT x t) o.a<=64:=(by unfold Fs;split<;>omega);have hlq:({gT x t with lf:=Fs (gT x t) o.a} :iy).lf=Fs (gT x t) o.a:=rfl;refine cF ?_;refine LM.rd (aL (j:=5) aC ir Tryz.isAgg3 rfl rfl (by first|exact bE om|exact aH default cH) rfl (by rfl)) ?_;refine J3 ?_;refine LM.ja (Gz (gT x t) o.a) (j:=5) aC ir Tryz.sizeOf3 rfl rfl rfl (by first|exact bE om|exact aH default cH) rfl (by decide) (by rfl) rfl (au aC) (fun mP dy eB=>?_)
 try rw [List.set_set] at dy
 have Jp:=ck eB aC;refine J9 ?_;refine af.aO (α:=Nat×List bf×ab) (fun ⟨i,ls,mq⟩=>[(6,.int .i64 (i:Nat))]) [(0,_),(1,_)] (fun ⟨i,ls,mq⟩=>Ay b s x.now P P.mx mP P.mc mq++(oB b5 o:: [])) (fun ⟨i,ls,mq⟩=>i<=x.lk.length/\ls=Jo (fun L=>jt L t) x.lk i/\kJ Qv n0 P.bs ls mq/\df (az b s x.now P) w.heap.size mq) (fun ⟨i,ls,mq⟩=>x.lk.length-i) ((0,x.lk,P.mq)) cA aX ⟨Nat.zero_le _,rfl,h.sq,iq⟩ ?_;rintro ⟨i,ls,mq⟩ ⟨hi,uS,hq,YY⟩;change af _ _ _ _ _ _ _ (Ay b s x.now P P.mx mP P.mc mq++(oB b5 o:: [])) _ _ _;have Lr:ls.length=x.lk.length:=(by rw [uS,mR]);have vV:=h.nl;have u2:=h.bl;have jL:=h.sl;have Rm:=hI.l8;have ZG:∀j,i<=j->j<x.lk.length->qg ls j=gL x j:=(fun j h1 h2=>by rw [uS,AZ _ _ _ _ hi h2,if_neg om])
 refine cM ?_;refine af.aj rfl (fun h2=>?_) (fun h2=>?_)
 ·refine cM ?_;refine LM.rd (bt aC ir Tryz.isAgg71 rfl rfl (by first|exact bE om|exact aH default cH) (by rfl)) ?_;refine J1 ?_;refine cE Tryz.func69 rfl (fun w hm hc hg=>hq.read (i:=i) om (hm.pick mq) (fun m hr hM=>(show aD _ _ _ _ (fun u w'=>u= .bool (bj (qg ls i) (t:Nat))/\Ext _ w') from mf (t:Nat) w hr hM))) ?_;refine J2 ?_;refine af.aN rfl (fun h3=>?_) (fun h3=>?_)
  ·refine J7 ?_;refine LM.rd (bt aC ir Tryz.isAgg71 rfl rfl (by first|exact bE om|exact aH default cH) (by rfl)) ?_;refine J1 ?_;refine cU Tryz.func142 rfl (fun w hm hc hg=>hq.Dx EZ (i:=i) om (hm.pick mq) (fun m hr hM=>(Fc (t:Nat) w hr (by rw [ZG i (Nat.le_refl _) om];exact(hI.li i om).w.hk) (by rw [ZG i (Nat.le_refl _) om];exact fun p hp=>by have:=(hI.li i om).b.hh p hp;omega) (by rw [ZG i (Nat.le_refl _) om];have:=(hI.li i om).b.tu;omega) hM))) (hq.bJ EZ) (au YY) ?_;rintro u62 m62 ⟨rfl,h62⟩ Z1;refine J8 ?_;refine aK (i+1,ls.set i (jt (qg ls i) t),m62) ?_ ?_
   ·exact⟨by omega,by rw [uS];rfl,h62,ar YY Z1⟩
   ·(dsimp only;omega)
  refine J8 ?_;refine aK (i+1,ls.set i (jt (qg ls i) t),mq) ?_ ?_
  ·exact⟨by omega,by rw [uS];rfl,by rw [L4 (by simpa using h3),show qg ls i=ls.getD i default from rfl,AI default om];exact hq,YY⟩
  ·(dsimp only;omega)
 have eA:i=x.lk.length:=om;subst eA;rw [FA] at uS;have BS:0<=(Gz (gT x t) o.a).pc/\(Gz (gT x t) o.a).pc<=(k:Int):=(hI.tb t ht).pc;refine kR ?_;refine LM.rd (aL (j:=5) aC ir Tryz.isAgg3 rfl rfl (by first|exact bE om|exact aH default cH) rfl (by rfl)) ?_;refine J3 ?_;refine af.aj rfl (fun h4=>?_) (fun h4=>?_)
 ·refine J8 ?_;refine LM.rd (aL (j:=4) aC ir Tryz.isAgg3 rfl rfl (by first|exact bE om|exact aH default cH) rfl (by rfl)) ?_;refine J3 ?_;refine LM.ja (oM (Gz (gT x t) o.a)) (j:=4) aC ir Tryz.sizeOf3 rfl rfl rfl (by first|exact bE om|exact aH default cH) rfl (by decide) (by rfl) rfl (au aC) (fun kF gM kQ=>?_)
  try rw [List.set_set] at gM
  have K0:=ck kQ aC;refine J1 ?_;refine QM.leave (.inr rfl) [] Tryz.results106 rfl ?_;intro w' ao aa aA;refine bp (m':=Ay b s x.now P P.mx kF P.mc mq) ⟨rfl,?_⟩ ao aX aa (aP (P:= {P with mt:=kF,mq:=mq}));rw [Tm ht h4,show zx x t o.a= {bR x t (Gz (gT x t) o.a) with lk:=ls} by rw [uS];rfl];exact gF.m (P:= {P with mt:=kF,mq:=mq}) {h with nt:=(by rw [aW];exact(aW x t _).symm▸uF),st:=(by show Sl _ _ _ _ ((x.ts.set t _).set t _) _ _;rw [List.set_set];exact gM),nl:=(by show _=ls.length;rw [Lr];exact h.nl),bl:=(by show _=ls.length;rw [Lr];exact h.bl),sq:=hq}
 refine J1 ?_;refine QM.leave (.inr rfl) [] Tryz.results106 rfl ?_;intro w' ao aa aA;refine bp (m':=Ay b s x.now P P.mx mP P.mc mq) ⟨rfl,?_⟩ ao aX aa (aP (P:= {P with mt:=mP,mq:=mq}));rw [VS ht h4,show zx x t o.a= {bR x t (Gz (gT x t) o.a) with lk:=ls} by rw [uS];rfl];exact gF.m (P:= {P with mt:=mP,mq:=mq}) {h with nt:=(by show _=(x.ts.set t _).length;rw [List.length_set];exact uF),st:=dy,nl:=(by show _=ls.length;rw [Lr];exact h.nl),bl:=(by show _=ls.length;rw [Lr];exact h.bl),sq:=hq}
set_option maxHeartbeats 2000000 in
theorem Cc {l:Nat} {ok ob:Int} {x:aB} (w:World) (h:eQ n0 b s x m) (hI:MI k x) (hk:k<=800000000000) (ht:t<x.ts.length) (eE:l<x.lk.length) (cm:n0<=w.heap.size) (hM:Mem w m):aD Tryz.prog 107 #[.pointer (some ⟨b,0,none⟩),.int .i64 (t:Nat),.agg (fO (oL ok l ob)).toArray] w (fq m (fun u m'=>u= .bool (mb x t (oL ok l ob)).2/\eQ n0 b s (mb x t (oL ok l ob)).1 m') w):=by
 obtain ⟨P,rfl,h⟩:=h;have uF:=h.nt;have gS:=h.st;have rB:=hI.tl;have vV:=h.nl;have u2:=h.bl;have jL:=h.sl;obtain ⟨ig,ii,il,ip,ix,it,iv,ie,ic,iq⟩:=bK (ay (az b s x.now P) w.heap.size);have ft:(oL ok l ob).a=(l:Int):=rfl;have hL:=hI.li l eE;have hLh:=hL.hl;have BO:=hI.ev;have Ck:iz x.ts.length (t:Int):=⟨by omega,by omega⟩
 refine aD.ak Tryz.func107 rfl Tryz.ntmps107 rfl (az b s x.now P++ []) ((gU (az b s x.now P))) aM ?_;refine J2 ?_;refine LM.box rfl rfl (fun b5 BV=>?_);refine J4 ?_;refine af.draw [(0,0),(1,0),(2,0),(3,1),(4,0),(5,1),(6,0),(7,1),(8,0)] kr kr ?_;refine J7 ?_;refine LD.rd rfl rfl (bt aC ir Tryz.isAgg71 rfl rfl (by first|exact bE om|exact aH default cH) (by rfl)) ?_;refine J4 ?_;refine af.draw [(0,0),(1,0),(2,0),(3,0),(4,1),(5,0),(6,0),(7,0),(8,1),(9,0),(10,1),(11,0),(12,2),(13,0)] kr kr ?_;refine J8 ?_;refine LD.rd rfl rfl (aL (j:=2) aC ir Tryz.isAgg3 rfl rfl (by first|exact bE om|exact aH default cH) rfl (by rfl)) ?_;refine J3 ?_;refine dE rfl rfl Tryz.func143 rfl (fun w hm hc hg=>h.sq.read eE (hm.pick P.mq) (fun m hr hM=>(show aD _ _ _ _ (fun u w'=>u= .int .i64 (tq x t l (oL ok l ob))/\Ext _ w') from BI (gT x t).gr (decide ((oL ok l ob).k=3)) w hr hM))) ?_;refine J8 ?_;refine cU Tryz.func144 rfl (fun w hm hc hg=>h.sq.Dx EZ eE (hm.pick P.mq) (fun m hr hM=>CB (t:Nat) (tq x t l (oL ok l ob)) w hL.w.toqH hr (Nat.le_trans cm hc.size) (by show (gL x l).ho.length<=900;omega) hM)) (h.sq.bJ EZ) (au iq) ?_;rintro u34 Oc ⟨rfl,TQ⟩ NL;have i34:=ar iq NL;refine cF ?_;refine af.aj rfl (fun h1=>?_) (fun h1=>?_)
 ·obtain ⟨y,hy⟩:∃y,y=aY x l (cf (gL x l) t (tq x t l (oL ok l ob))):=⟨_,rfl⟩;have WY:y.lk.length=x.lk.length:=(by rw [hy];exact cj ..);have hLy:gL y l=cf (gL x l) t (tq x t l (oL ok l ob)):=(by rw [hy];exact H8 eE _);have hLt:=hL.take t (tq x t l (oL ok l ob)) Ck;have bo:=hLt.hl;have qA:y.ts=x.ts:=(by rw [hy];rfl);have yW:eQ n0 b s y (az b s x.now {P with mq:=Oc}):=(by rw [hy];exact gF.m {h with nl:=(by rw [cj];exact vV),bl:=(by rw [cj];exact u2),sq:=TQ});have mz:y.now=x.now:=(by rw [hy];rfl);have hye:y.ev=x.ev:=(by rw [hy];rfl)
  refine J1 ?_;refine af.draw [(0,0),(1,0),(2,0),(3,1),(4,0),(5,0),(6,1),(7,0),(8,2),(9,3)] kr kr ?_;refine J8 ?_;refine dE rfl rfl Tryz.func112 rfl (fun w hm hc hg=>yg l (t:Nat) w yW om (by rw [hLy];omega) (hm.pick _)) ?_;refine LD.tail rfl rfl ?_;refine cU Tryz.func53 rfl (fun w hm hc hg=>cc 4 (t:Nat) (l:Nat) _ w yW (by rw [hye];omega) (Nat.le_trans cm hc.size) (hm.pick _)) yW.bJ (au aP) ?_;rintro u46 m46 ⟨rfl,h46⟩ abM;have i46:df (az b s x.now P) w.heap.size m46:=ar aP abM;refine J1 ?_;refine QM.qn ?_;refine J6 ?_;refine cU Tryz.func113 rfl (fun w hm hc hg=>xj l w h46 (by show l<y.lk.length;omega) (by show (gL y l).ho.length<=900;rw [hLy];omega) (by show (gL y l).wt.length<=8;rw [hLy];exact hLt.w.w8) (hm.pick _)) h46.bJ (au i46) ?_;rintro u50 m50 ⟨rfl,XR⟩ aaJ;obtain ⟨P1,lD,XR⟩:=XR;rw [show (zc (ba y 4 t l (dD (gL y l) t)) l).now=x.now from mz] at lD;subst lD;clear ig ii il ip ix it iv ie ic iq;obtain ⟨ig,ii,il,ip,ix,it,iv,ie,ic,iq⟩:=bK (ar i46 aaJ);have E3:Sl KN 81 12 n0 x.ts (.slice P1.at' P1.nt P1.ct) P1.mt:=qA▸XR.st;have yU:P1.nt=x.ts.length:=qA▸XR.nt;have BS:0<=(x.ts.getD t default).pc/\(x.ts.getD t default).pc<=(k:Int):=(hI.tb t ht).pc;refine dc ?_;refine LM.rd (aL (j:=4) aC ir Tryz.isAgg3 rfl rfl (by first|exact bE om|exact aH default cH) rfl (by rfl)) ?_;refine J3 ?_;refine LM.ja (oM (gT x t)) (j:=4) aC ir Tryz.sizeOf3 rfl rfl rfl (by first|exact bE om|exact aH default cH) rfl (by decide) (by rfl) rfl (au aC) (fun mP dy eB=>?_)
  try rw [List.set_set] at dy
  have Jp:=ck eB aC;refine J9 ?_;refine qL Tryz.results107 rfl fun w' ao aa aA=>?_;rw [KM ft h1,<-hy];exact bp (m':=az b s x.now {P1 with mt:=mP}) ⟨rfl,gF.m (hn:=mz) {XR with nt:=(by show _=(y.ts.set _ _).length;rw [List.length_set,qA];exact yU),st:=(by show Sl _ _ _ _ (y.ts.set t (oM (y.ts.getD t default))) _ _;rw [qA];exact dy)}⟩ ao aX aa aP
 have Nu:kJ Qv n0 P.bs x.lk Oc:=(by have q:=TQ;rw [show cf (gL x l) t (tq x t l (oL ok l ob))=x.lk.getD l default from if_pos h1,AI default eE] at q;exact q);have yx:eQ n0 b s x (az b s x.now {P with mq:=Oc}):=gF.m {h with sq:=Nu};refine J4 ?_;refine af.bB (α:=Bool) (fun q=>[(68,.bool q)]) [(0,_),(1,_),(5,_),(7,_),(8,_),(9,_)] (fun q=>Ay b s x.now P P.mx P.mt P.mc Oc++(oB b5 (oL ok l ob):: [])) (fun q=>q=Uc x t (oL ok l ob)) cA ?_ ?_
 ·refine J4 ?_;refine LM.aw (t:=64) rfl (fun h2=>?_) (fun h2=>?_)
  ·refine J6 ?_;refine mK (_) ?_
   ·unfold Uc;rw [mE ft];simp_all
  refine J5 ?_;refine mK (_) ?_
  ·unfold Uc;rw [mE ft];simp_all
 rintro q hq;change QM _ _ _ _ _ (Ay b s x.now P P.mx P.mt P.mc Oc++(oB b5 (oL ok l ob):: [])) _ _ _;refine J1 ?_;refine af.bB (α:=ab) (fun mq=>[(9,.int .i64 (lG x t (oL ok l ob)))]) [(0,_),(1,_),(5,_)] (fun mq=>Ay b s x.now P P.mx P.mt P.mc mq++(oB b5 (oL ok l ob):: [])) (fun mq=>kJ Qv n0 P.bs (if lG x t (oL ok l ob)=0 then x.lk.set l (du (gL x l) t (tq x t l (oL ok l ob))) else x.lk) mq/\df (az b s x.now P) w.heap.size mq) cA ?_ ?_
 ·refine af.aN rfl (fun h3=>?_) (fun h3=>?_)
  ·have Zz:cV (gL x l) t (tq x t l (oL ok l ob))=8/\(oL ok l ob).k≠4:=(by rw [hq] at h3;unfold Uc at h3;rw [mE ft,Bool.and_eq_true,decide_eq_true_eq,decide_eq_true_eq] at h3;exact h3)
   refine J6 ?_;refine af.draw [(0,0),(1,0),(2,0),(3,1),(4,0),(5,0),(6,0),(7,1),(8,2),(9,2),(10,0)] kr kr ?_;refine J8 ?_;refine dE rfl rfl Tryz.func146 rfl (fun w hm hc hg=>ri l w yx eE om (hm.pick _)) ?_;refine dE rfl rfl Tryz.func145 rfl (fun w hm hc hg=>rN P.bg (t:Nat) _ w h.gl h.nx h.sx (sm hm)) ?_;refine J3 ?_;refine af.aN rfl (fun h4=>?_) (fun h4=>?_)
   ·have Uk:=(ta ft Zz.1 Zz.2).trans (if_neg (by simpa using h4));refine J4 ?_;refine cU Tryz.func147 rfl (fun w hm hc hg=>Nu.Dx EZ eE (hm.pick Oc) (fun m hr hM=>C7 (t:Nat) (tq x t l (oL ok l ob)) w hL.w.toqH hr (Nat.le_trans cm hc.size) hM)) (Nu.bJ EZ) (au i34) ?_;rintro u83 m83 ⟨rfl,h83⟩ Mv;have i83:=ar i34 Mv;refine J2 ?_;refine QM.zK (m83) ⟨(by exact lk rfl (congrArg (Value.int .i64) Uk.symm)),rfl,rfl,rfl,trivial⟩ aX ?_
    ·refine ⟨?_,i83⟩;split;exact h83;(have q:=h83;rw [show du (gL x l) t (tq x t l (oL ok l ob))=x.lk.getD l default from if_pos (by rw [<-Uk];assumption),AI default eE] at q;exact q)
   have Uk:=(ta ft Zz.1 Zz.2).trans (if_pos (by simpa using h4));refine J1 ?_;refine QM.zK (Oc) ⟨(by exact lk rfl (congrArg (Value.int .i64) Uk.symm)),rfl,rfl,rfl,trivial⟩ aX ?_
   ·exact⟨by rw [if_neg (by rw [Uk];decide)];exact Nu,i34⟩
  have Uk:=wc ft (fun q2=>by rw [hq] at h3;unfold Uc at h3;rw [mE ft,decide_eq_true q2.1,decide_eq_true q2.2] at h3;cases h3);refine J1 ?_;refine QM.zK (Oc) ⟨(by exact lk rfl (congrArg (Value.int .i64) Uk.symm)),rfl,rfl,rfl,trivial⟩ aX ?_
  ·exact⟨by rw [if_neg (by rw [Uk];exact h1)];exact Nu,i34⟩
 rintro mq ⟨hqw,iqw⟩;change QM _ _ _ _ _ (Ay b s x.now P P.mx P.mt P.mc mq++(oB b5 (oL ok l ob):: [])) _ _ _;refine J8 ?_;refine af.aj rfl (fun h5=>?_) (fun h5=>?_)
 ·have Pf:eQ n0 b s x (az b s x.now {P with mq:=mq}):=gF.m {h with sq:=(by have q:=hqw;rw [if_neg h5] at q;exact q)};refine J7 ?_;refine cU Tryz.func53 rfl (fun w hm hc hg=>cc 8 (t:Nat) (l:Nat) (lG x t (oL ok l ob)) w Pf om (Nat.le_trans cm hc.size) (hm.pick _)) Pf.bJ (au aP) ?_;rintro u91 m91 ⟨rfl,SZ⟩ PT;obtain ⟨P1,lD,SZ⟩:=SZ;change m91=az b s x.now P1 at lD;subst lD;have i91:df (az b s x.now P) w.heap.size (az b s x.now P1):=ar aP PT;clear ig ii il ip ix it iv ie ic iq;obtain ⟨ig,ii,il,ip,ix,it,iv,ie,ic,iq⟩:=bK i91;have E3:Sl KN 81 12 n0 x.ts (.slice P1.at' P1.nt P1.ct) P1.mt:=SZ.st;have yU:P1.nt=x.ts.length:=SZ.nt;have BS:0<=(x.ts.getD t default).pc/\(x.ts.getD t default).pc<=(k:Int):=(hI.tb t ht).pc;refine dc ?_;refine LM.rd (aL (j:=4) aC ir Tryz.isAgg3 rfl rfl (by first|exact bE om|exact aH default cH) rfl (by rfl)) ?_;refine J3 ?_;refine LM.ja (oM (gT x t)) (j:=4) aC ir Tryz.sizeOf3 rfl rfl rfl (by first|exact bE om|exact aH default cH) rfl (by decide) (by rfl) rfl (au aC) (fun mP dy eB=>?_)
  try rw [List.set_set] at dy
  have Jp:=ck eB aC;refine J9 ?_;refine qL Tryz.results107 rfl fun w' ao aa aA=>?_;rw [Ko ft h1 h5];exact bp (m':=az b s x.now {P1 with mt:=mP}) ⟨rfl,gF.m {SZ with nt:=(by show _=(x.ts.set _ _).length;rw [List.length_set];exact yU),st:=dy}⟩ ao aX aa aP
 have Pf:eQ n0 b s (aY x l (du (gL x l) t (tq x t l (oL ok l ob)))) (az b s x.now {P with mq:=mq}):=gF.m {h with nl:=(by rw [cj];exact vV),bl:=(by rw [cj];exact u2),sq:=(by have q:=hqw;rw [if_pos om] at q;exact q)};have hvl:=hI.vl;refine J8 ?_;refine cU Tryz.func53 rfl (fun w hm hc hg=>cc 6 (t:Nat) (l:Nat) 0 w Pf (by show x.ev.length<=_;omega) (Nat.le_trans cm hc.size) (hm.pick _)) Pf.bJ (au aP) ?_;rintro af6 YC ⟨rfl,Mg⟩ FC;have i107:df (az b s x.now P) w.heap.size YC:=ar aP FC;refine J6 ?_;refine cU Tryz.func71 rfl (fun w hm hc hg=>rv t w Mg (by show t<x.v.length;omega) (Nat.le_trans cm hc.size) (hm.pick _)) Mg.bJ (au i107) ?_;rintro ao8 acw ⟨rfl,Bj⟩ WZ;change eQ n0 b s (kV x t l (oL ok l ob)) acw at Bj;obtain ⟨P1,lD,Bj⟩:=Bj;change acw=az b s x.now P1 at lD;subst lD;have i110:=ar i107 WZ;clear ig ii il ip ix it iv ie ic iq;obtain ⟨ig,ii,il,ip,ix,it,iv,ie,ic,iq⟩:=bK i110;have E3:Sl KN 81 12 n0 x.ts (.slice P1.at' P1.nt P1.ct) P1.mt:=Bj.st;have yU:P1.nt=x.ts.length:=Bj.nt;have X9:Sl fU 41 1 n0 x.g (.slice P1.ax P1.nx P1.cx) P1.mx:=Bj.sx;refine dc ?_;refine LM.ja ({gT x t with st:=4}) (j:=6) aC ir Tryz.sizeOf3 rfl rfl rfl (by first|exact bE om|exact aH default cH) rfl (by decide) (by rfl) rfl (au aC) (fun mP dy eB=>?_)
 try rw [List.set_set] at dy
 have Jp:=ck eB aC;refine J3 ?_;refine af.keep (xL b s x.now P1::oB b5 (oL ok l ob):: []) (fun _=>True) (.one 0 0 (.one 1 0 (.one 2 0 (.one 3 1 (.one 4 0 (.one 5 0 (.one 6 1 (.one 7 0 (.one 8 0 (.last 9)))))))))) kr kr aX (fun _ _=>trivial) ?_;refine J9 ?_;refine KD.last rfl ?_;refine LM.ja ({gT x t with st:=4,lk:=(oL ok l ob).a}) (j:=8) aC ir Tryz.sizeOf3 rfl rfl rfl (by first|exact bE om|exact aH default cH) rfl (by decide) (by rfl) rfl (au aC) (fun kF gM kQ=>?_)
 try rw [List.set_set] at gM
 have K0:=ck kQ aC;refine J1 ?_;refine QM.qn ?_;refine J9 ?_;refine af.bB (α:=ab) (fun mt=>[]) [(0,_),(1,_),(5,_)] (fun mt=>Ay b s x.now P1 P1.mx mt P1.mc P1.mq++(oB b5 (oL ok l ob):: [])) (fun mt=>Sl KN 81 12 n0 (x.ts.set t (wg (gT x t) (oL ok l ob) x.now)) (.slice P1.at' P1.nt P1.ct) mt/\df (az b s x.now P) w.heap.size mt) cA ?_ ?_
 ·refine af.aj rfl (fun h6=>?_) (fun h6=>?_)
  ·refine af.keep (xL b s x.now P1::oB b5 (oL ok l ob):: []) (fun _=>True) (.one 0 0 (.one 1 0 (.one 2 0 (.one 3 1 (.one 4 0 (.one 5 0 (.one 6 0 (.one 7 0 (.one 8 1 (.one 9 0 (.one 10 1 (.one 11 0 (.one 12 0 (.one 13 0 (.one 14 0 (.last 15)))))))))))))))) kr kr aX (fun _ _=>trivial) ?_;refine dc ?_;refine KD.val rfl rfl (oK Tryz.underlying3 Tryz.underlying41 rfl) ?_;refine KD.val rfl rfl (iX rfl rfl) ?_;refine J2 ?_;refine KD.last rfl ?_;refine LM.ja ({gT x t with st:=4,lk:=(oL ok l ob).a,un:=x.now+BitVec.ofInt 64 (oL ok l ob).b}) (j:=7) aC ir Tryz.sizeOf41 rfl rfl rfl (by first|exact bE om|exact aH default cH) rfl (by decide) (by rfl) rfl (au aC) (fun td mV sD=>?_)
   try rw [List.set_set] at mV
   have V9:=ck sD aC;refine J1 ?_;refine QM.qn ?_;refine mK (td) ?_
   ·exact⟨by rw [show wg (gT x t) (oL ok l ob) x.now= {gT x t with st:=4,lk:=(oL ok l ob).a,un:=x.now+BitVec.ofInt 64 (oL ok l ob).b} by unfold wg;rw [if_pos h6]];exact mV,V9⟩
  refine J1 ?_;refine mK (kF) ?_
  ·exact⟨by rw [show wg (gT x t) (oL ok l ob) x.now= {gT x t with st:=4,lk:=(oL ok l ob).a} by unfold wg;rw [if_neg h6]];exact gM,K0⟩
 rintro mt ⟨Lp,it2⟩;change QM _ _ _ _ _ (Ay b s x.now P1 P1.mx mt P1.mc P1.mq++(oB b5 (oL ok l ob):: [])) _ _ _;have hMw:eQ n0 b s (bR (kV x t l (oL ok l ob)) t (wg (gT x t) (oL ok l ob) x.now)) (az b s x.now {P1 with mt:=mt}):=gF.m {Bj with nt:=(by show _=(x.ts.set _ _).length;rw [List.length_set];exact yU),st:=Lp};have hLw:=hL.wait t (tq x t l (oL ok l ob)) Ck;have hlw:=hLw.hl;have sI:gL (kV x t l (oL ok l ob)) l=du (gL x l) t (tq x t l (oL ok l ob)):=H8 eE _;refine J2 ?_;refine af.draw [(0,0),(1,0),(2,0),(3,1),(4,0),(5,0),(6,0),(7,1),(8,2),(9,3)] kr kr ?_;refine J8 ?_;refine dE rfl rfl Tryz.func146 rfl (fun w hm hc hg=>ri l w hMw (by show l<(x.lk.set _ _).length;rw [List.length_set];exact eE) (by show (gL (kV x t l (oL ok l ob)) l).ho.length<=900;rw [sI];omega) (hm.pick _)) ?_;refine LD.tail rfl rfl ?_;refine cU Tryz.func148 rfl (fun w hm hc hg=>yu P1.bg (t:Nat) (gV (gL (kV x t l (oL ok l ob)) l)) w h.gl Bj.nx X9 (sm hm)) X9.bJ (au ix) ?_;rintro am7 Wc ⟨rfl,acs⟩ YF;have i154:=ar ix YF;refine J1 ?_;refine QM.qn ?_;refine J7 ?_;refine qL Tryz.results107 rfl fun w' ao aa aA=>?_;rw [Fy ft h1 h5,ya ft];exact bp (m':=Ay b s x.now P1 Wc mt P1.mc P1.mq) ⟨rfl,gF.m (P:= {P1 with mt:=mt,mx:=Wc}) {Bj with nt:=(by show _=(x.ts.set _ _).length;rw [List.length_set];exact yU),st:=Lp,gl:=sw h.gl _ _,sx:=acs}⟩ ao aX aa (aP (P:= {P1 with mt:=mt,mx:=Wc}))
theorem mC {x:aB} (o:bO) (w:World) (h:eQ n0 b s x m) (hI:MI k x) (hk:k<=800000000000) (ht:t<x.ts.length) (hoa:0<=o.a/\o.a<(x.lk.length:Int)) (cm:n0<=w.heap.size) (hM:Mem w m):
    aD Tryz.prog 107 #[.pointer (some ⟨b,0,none⟩),.int .i64 (t:Nat),.agg (fO o).toArray] w (fq m (fun u m'=>u= .bool (mb x t o).2/\eQ n0 b s (mb x t o).1 m') w):=by
  obtain ⟨ok,oa,ob⟩:=o;obtain ⟨l,rfl⟩:∃l:Nat,oa=l:=⟨oa.toNat,(Int.toNat_of_nonneg hoa.1).symm⟩
  exact Cc w h hI hk ht (by have:=hoa.2;show l<_;exact Int.ofNat_lt.1 this) cm hM
end Go.Eng
namespace Go.Eng
open Go Go.RowKit
variable {out:List Act} {xs:List Int} {ws:List bA} {b i j k n0 t:Nat} {m:ab} {o:bO} {s:dU}
theorem gu {s:ee} (h:dt s=true):s.ls.length<=8/\s.ps.length<=8/\∀p∈s.ps,(ES p.fv p.xs s.ls (s.ps.length:Int)).2=0:=by
  unfold dt cz at h
  simp only [Bool.and_eq_true,decide_eq_true_eq,Bool.not_eq_true'] at h;refine ⟨h.1.1.2.1,by omega,fun p hp=>?_⟩;have:=List.any_eq_false.1 h.2 p hp
  unfold jW at this
  simpa using this
theorem lp {fv:Bool} {xs:List bO} {ls:List jD} {bV:Int} (h:(ES fv xs ls bV).2=0):jl xs=true/\∀j,j<xs.length->dC fv xs ls bV j=0:=by
  unfold ES at h
  split at h
  · rename_i hm
    refine ⟨hm,fun j hj=>?_⟩
    split at h
    · rename_i i hi
      have:=List.find?_some hi;simp only [decide_eq_true_eq] at this;exact absurd h this
    · rename_i hn
      have:=List.find?_eq_none.1 hn j (List.mem_range.2 hj);simpa using this
  ·cases h
theorem KO {s:ee} (h:dt s=true) {p:mX} (hp:p∈s.ps) (ho:o∈p.xs) (ht:cD o.k=true):0<=o.a/\o.a<s.ls.length:=by
  obtain ⟨h1,h2,h3⟩:=gu h;obtain ⟨hm,hf⟩:=lp (h3 p hp);obtain ⟨i,hi,rfl⟩:=List.getElem_of_mem ho;have e:p.xs[i] =p.xs.getD i default:=by rw [List.getD_eq_getElem?_getD,List.getElem?_eq_getElem hi];rfl
  rw [e] at ht ⊢;have hr:=r6 (tL hm hi);refine ⟨hr.1,?_⟩;have:=hf i hi
  unfold dC at this
  rw [ht] at this
  by_cases q:(p.xs.getD i default).a >= s.ls.length
  ·rw [decide_eq_true q] at this;simp at this
  ·omega
theorem yd {s:ee} (h:dt s=true) {p:mX} (hp:p∈s.ps):p.xs.length<=20:=(qc (lp ((gu h).2.2 p hp)).1).1
structure Lb (s:ee) (o:bO):Prop where
  k:1<=o.k/\o.k<=11
  c:o.k=1->1<=o.a/\o.a<=64
  l:2<=o.k/\o.k<=6->0<=o.a/\o.a<(s.ls.length:Int)
  p:o.k=9->0<=o.a/\o.a<(s.ps.length:Int)
theorem abe {s:ee} (h:dt s=true) {p:mX} (hp:p∈s.ps) (hi:i<p.xs.length):Lb s (p.xs.getD i default):=by
  obtain ⟨h1,h2,h3⟩:=gu h;obtain ⟨hm,hf⟩:=lp (h3 p hp);have hr:=tL hm hi;have ha:=r6 hr;have hf:=hf i hi
  have hc:¬((cD (p.xs.getD i default).k||decide ((p.xs.getD i default).k=6))&&decide ((p.xs.getD i default).a >= (s.ls.length:Int))||decide ((p.xs.getD i default).k=9)&&decide ((p.xs.getD i default).a >= (s.ps.length:Int)))=true:=fun q=>by
    unfold dC at hf;rw [if_pos q] at hf;cases hf
  clear hf
  generalize p.xs.getD i default=o at hr ha hc
  unfold ew vb at hr
  unfold cD at hc
  simp only [Bool.and_eq_true,Bool.or_eq_true,decide_eq_true_eq] at hr hc
  have key:(2<=o.k/\o.k<=6->o.a<(s.ls.length:Int))/\(o.k=9->o.a<(s.ps.length:Int)):=⟨fun q=>by
    refine Classical.byContradiction fun n=>hc (.inl ⟨?_,by omega⟩);rcases Int.lt_or_le 5 o.k with r|r
    ·exact .inr om
    ·exact .inl ⟨q.1,r⟩,fun q=>Classical.byContradiction fun n=>hc (.inr ⟨q,by omega⟩)⟩
  refine ⟨hr.1.1,fun e=>?_,fun e=>⟨ha.1,key.1 e⟩,fun e=>⟨ha.1,key.2 e⟩⟩;have h5:=hr.1.2;rw [e] at h5;simp [hasB,n3,qM] at h5;omega
section
variable {k:Nat} {x:aB} (h:MI k x)
include h
theorem MI.cmp (ht:t<x.ts.length) {a:Int} (ha:1<=a/\a<=64):MI (k+2) (oW x t a):=by
  have q:=h.tb t ht;have hl:=q.lf;have hq:yz x.s k (Gz (gT x t) a):=⟨q.pr,q.pc,by show 0<=Fs (gT x t) a-1/\Fs (gT x t) a-1<=64;unfold Fs;split<;>omega,q.ti,q.l4,q.un⟩
  have h1:MI (k+1) (zx x t a):=
    have h':=(h.up ht hq).mono (Nat.le_succ k)
    {h' with
      ll:=by show (x.lk.map _).length=_;rw [List.length_map];exact h.ll
      li:=fun l hl=>by have:=LI.aaw h.li t l hl;rw [show (zx x t a).ts.length=x.ts.length from aW ..];exact this}
  unfold oW;split
  ·exact h1.inc (by rw [show (zx x t a).ts.length=x.ts.length from aW ..];exact ht)
  ·exact h1.mono (Nat.le_succ _)
theorem MI.QJ (pr gr we co:Int) (hp:0<=pr/\pr<(x.s.ps.length:Int)) (vZ:x.ts.length<64):MI (k+1) (pk x pr gr we co):=by
  have hl:(x.ts++ [AK x.ts.length pr gr we co]).length=x.ts.length+1:=by rw [List.length_append];rfl
  have h1:MI k {x with ts:=x.ts++ [AK x.ts.length pr gr we co],v:=x.v++ [0#64],cs:=dT x.cs co x.ts.length 0#64 we} :=
    {h with
      ce:=by rw [show (dT x.cs co x.ts.length 0#64 we).length=x.cs.length from gX ..];exact h.ce
      ci:=by
        show CI (x.ts++ [_]).length k _
        rw [hl];exact(h.ci.mono (Nat.le_succ _) (Nat.le_refl _)).add _ _ _ _ om
      il:=by rw [show (dT x.cs co x.ts.length 0#64 we).length=x.cs.length from gX ..];exact h.il
      li:=fun l mL=>by show LI (x.ts++ [_]).length k _;rw [hl];exact(h.li l mL).mono (Nat.le_succ _) (Nat.le_refl _)
      tl:=by show (x.ts++ [_]).length<=64;rw [hl];omega
      iq:=fun c hc a ha=>by
        have wT:c<x.cs.length:=by rw [<-gX x.cs co x.ts.length 0#64 we];exact hc
        show ((x.ts++ [_]).getD a.toNat default).un=0#64
        rcases De ha with q|rfl
        · have h1:=h.ci.id c wT a q
          have h0:=(h.ci.wf.wf c wT).pos _ (eP q).1;rw [(eP q).2] at h0;rw [List.getD_eq_getElem?_getD,List.getElem?_append_left om,<-List.getD_eq_getElem?_getD];exact h.iq c wT a q
        ·rw [Int.toNat_natCast,List.getD_eq_getElem?_getD,List.getElem?_append_right (Nat.le_refl _),Nat.sub_self];rfl
      vl:=by show (x.v++ [_]).length=(x.ts++ [_]).length;rw [hl,List.length_append,h.vl];rfl
      tb:=fun t ht=>by
        have ZC:t<x.ts.length+1:=by rw [<-hl];exact ht
        show yz x.s k ((x.ts++ [_]).getD t default)
        rcases Nat.lt_or_ge t x.ts.length with q|q
        ·rw [List.getD_eq_getElem?_getD,List.getElem?_append_left q,<-List.getD_eq_getElem?_getD];exact h.tb t q
        · rw [show t=x.ts.length by omega,List.getD_eq_getElem?_getD,List.getElem?_append_right (Nat.le_refl _),Nat.sub_self]
          exact⟨hp,⟨Int.le_refl _,Int.natCast_nonneg k⟩,⟨Int.le_refl _,by show (0:Int)<=64;decide⟩,⟨Int.le_refl _,Int.natCast_nonneg k⟩,fun e=>(by cases e),fun e=>absurd rfl e⟩}
  exact h1.fX _ _ _ _
theorem MI.UF (ht:t<x.ts.length) (ho:0<=o.a/\o.a<(x.lk.length:Int)):MI (k+3) (mb x t o).1:=by
  obtain ⟨l,ft⟩:∃l:Nat,o.a=(l:Nat):=⟨o.a.toNat,(Int.toNat_of_nonneg ho.1).symm⟩
  have eE:l<x.lk.length:=by omega
  have hL:=h.li l eE;have Ck:iz x.ts.length (t:Int):=⟨by omega,by omega⟩
  by_cases he:cV (gL x l) t (tq x t l o)=0
  · rw [KM ft he]
    have h1:=(h.mono (Nat.le_succ k)).aY (l:=l) (hL.take t (tq x t l o) Ck);exact((h1.fX 4 t l (dD (gL (Go.Eng.aY x l (cf (gL x l) t (tq x t l o))) l) t)).UG l).inc ht
  · by_cases h2:lG x t o≠0
    ·rw [Ko ft he h2];exact((h.fX 8 t l (lG x t o)).inc ht).mono om
    · rw [Fy ft he h2,ya ft]
      have h1:=(h.mono (Nat.le_succ k)).aY (l:=l) (hL.wait t (tq x t l o) Ck);have h3:MI (k+2) (kV x t l o):=(h1.fX 6 t l 0).qut t;have q:=(h.tb t ht).mono (show k<=k+2 by omega);exact((h3.upQ (t:=t) ht (y:=wg (gT x t) o x.now) ⟨q.pr,q.pc,q.lf,q.ti,fun _=>⟨ho.1,by show o.a<(x.s.ls.length:Int);have:=h.ll;omega⟩,fun _=> .inr rfl⟩ (fun c hc hk=>absurd rfl (su h.ci.wf (by rw [<-pY x.cs t];exact hc) hk).2)).gr (h.gi.wt _ _)).mono om
theorem MI.back {c:Nat} (hc:c<x.cs.length):MI k (fZ x c (fM (qg x.cs c))):=h.E6 (h.ci.back hc) (List.length_set ..) (fun d hd a ha=> .inl ⟨d,hd,jr hc (q:=fM (qg x.cs c)) rfl ha⟩)
theorem MI.op (ht:t<x.ts.length) (hi:i<(iu x t).xs.length):Lb x.s ((iu x t).xs.getD i default):=by
  have hp:=(h.tb t ht).pr;exact abe h.ms (List.mem_of_getElem? (aH default (show (gT x t).pr.toNat<x.s.ps.length by omega))) hi
end
section
variable {x:aB} {t c:Nat} {o:bO}
theorem Zm (h:o.k=1):eF x t c o=(oW x t o.a,true):=if_pos h
theorem AE (h:2<=o.k/\o.k<=5):eF x t c o=mb x t o:=by unfold eF;rw [if_neg om,if_pos h]
theorem Ks (h:o.k=6) (he:kb (gL x o.a.toNat) t≠0):eF x t c o=(bh (ba x 8 t o.a (kb (gL x o.a.toNat) t)) t,false):=by unfold eF;rw [if_neg om,if_neg om,if_pos h,if_pos he]
theorem KI (h:o.k=6) (he:¬kb (gL x o.a.toNat) t≠0):eF x t c o=(bh (cT (ba (aY x o.a.toNat (dP (gL x o.a.toNat) t)) 5 t o.a 0) o.a.toNat (dI (gL x o.a.toNat) t)) t,false):=by unfold eF;rw [if_neg om,if_neg om,if_pos h,if_neg he]
def IU (x:aB) (t:Nat) (a:Int):aB:=eM (ba x 9 t (-1) a) t
theorem VP (h:o.k=7):eF x t c o=(bR (IU x t o.a) t {gT x t with st:=3,un:=x.now+BitVec.ofInt 64 o.a,pc:=(gT x t).pc+1},true):=by unfold eF;rw [if_neg om,if_neg om,if_neg om,if_pos h];rfl
def QQ (x:aB) (t c:Nat):aB:=fZ (ba x 10 t (-1) c) c (fM (qg x.cs c))
theorem Y9 (h:o.k=8):eF x t c o=(bR (QQ x t c) t {gT x t with st:=1,pc:=(gT x t).pc+1},true):=by unfold eF;rw [if_neg om,if_neg om,if_neg om,if_neg om,if_pos h];rfl
theorem VX (h:o.k=9):eF x t c o=(bh (if jE x=true then pk x o.a (gT x t).gr (gT x t).we c else ba x 8 t (-1) 3) t,false):=by unfold eF;rw [if_neg om,if_neg om,if_neg om,if_neg om,if_neg om,if_pos h]
theorem I0 (h:o.k=10):eF x t c o=(bh (ba (bR x t {gT x t with we:=o.a}) 14 t (-1) o.a) t,false):=by unfold eF;rw [if_neg om,if_neg om,if_neg om,if_neg om,if_neg om,if_neg om,if_pos h]
theorem JF (h:o.k=11):eF x t c o=(ku x t,true):=by unfold eF;rw [if_neg om,if_neg om,if_neg om,if_neg om,if_neg om,if_neg om,if_neg om,if_pos h]
end
theorem vG {x:aB}:(iP x t).ts.length=x.ts.length/\(iP x t).lk=x.lk/\(iP x t).s=x.s/\(iP x t).now=x.now/\(iP x t).g=x.g/\(iP x t).ev=x.ev/\(iP x t).cs=x.cs:=by
  unfold iP;split
  ·exact⟨aW ..,rfl,rfl,rfl,rfl,rfl,rfl⟩
  ·exact⟨rfl,rfl,rfl,rfl,rfl,rfl,rfl⟩
theorem MI.iP {k:Nat} {x:aB} (h:MI k x) {t:Nat} (ht:t<x.ts.length):MI k (iP x t):=by
  unfold Go.Eng.iP;split
  · have q:=h.tb t ht
    exact h.up ht ⟨q.pr,⟨Int.le_refl _,Int.natCast_nonneg k⟩,q.lf,q.ti,q.l4,q.un⟩
  ·exact h
theorem U2 {x:aB} (ht:t<x.ts.length):iu (iP x t) t=iu x t:=by
  unfold iu iP;split
  ·rw [dB ht,if_pos rfl];rfl
  ·rfl
theorem C5 {x:aB} (h:MI k x) (ht:t<x.ts.length):(gT (iP x t) t).pc.toNat<(iu x t).xs.length/\0<=(gT (iP x t) t).pc:=by
  have hp:=(h.tb t ht).pr;have hm:=(lp ((gu h.ms).2.2 (iu x t) (List.mem_of_getElem? (aH default (show (gT x t).pr.toNat<x.s.ps.length by omega))))).1;have h0:0<(iu x t).xs.length:=by unfold jl at hm;simp only [Bool.and_eq_true,decide_eq_true_eq] at hm;exact hm.1.1
  have BS:=(h.tb t ht).pc
  unfold iP;split
  ·rw [dB ht,if_pos rfl];exact⟨h0,Int.le_refl _⟩
  ·exact⟨by omega,BS.1⟩
theorem vT {α:Type} {l:List α} (d:α) (h:i<l.length):l.set i (l.getD i d)=l:=by
  apply List.ext_getElem (by rw [List.length_set])
  intro j h1 h2;rw [List.getElem_set]
  split
  ·rename_i e;subst e;rw [List.getD_eq_getElem?_getD,List.getElem?_eq_getElem h2];rfl
  ·rfl
theorem Uv {x:aB} (ht:t<x.ts.length):∃z,iP x t=bR x t z:=by
  unfold iP;split
  ·exact⟨_,rfl⟩
  ·refine ⟨gT x t,?_⟩;unfold bR;rw [vT default ht]
theorem rL {x:aB} {c:Nat} (h1:((iu x t).xs.length:Int)<=(gT x t).pc) (h2:(iu x t).fv=false):fb x t c=(ku x t,true):=if_pos ⟨h1,h2⟩
theorem Fa {x:aB} {c:Nat} (h:¬(((iu x t).xs.length:Int)<=(gT x t).pc/\(iu x t).fv=false)) {z:iy} (ht:t<x.ts.length) (hz:iP x t=bR x t z) (ho:(iu x t).xs.getD z.pc.toNat default=o):fb x t c=eF (bR x t z) t c o:=by
  unfold fb;rw [if_neg h,hz,dB ht,if_pos rfl,ho]
/-! ### who is due -/
theorem lH (x:aB) (n:Nat):CF x (n+1)=Zr x (CF x n) n:=by unfold CF;rw [List.range_succ,List.foldl_append];rfl
theorem jf (x:aB):∀(n j:Nat),j∈CF x n->j<n
  |0,j,h=>by cases h
  |n+1,j,h=>by
    rw [lH] at h
    unfold Zr at h;split at h
    ·have:=jf x n j h;omega
    · rcases List.mem_append.1 h with h|h
      ·have:=jf x n j (List.mem_of_mem_take h);omega
      · rcases List.mem_cons.1 h with rfl|h
        ·omega
        ·have:=jf x n j (List.mem_of_mem_drop h);omega
theorem vJ (x:aB):∀n,(CF x n).length<=n
  |0=>Nat.le_refl _
  |n+1=>by
    have ih:=vJ x n;rw [lH]
    unfold Zr;split
    ·omega
    ·rw [List.length_append,List.length_cons,List.length_take,List.length_drop];omega
theorem T6 {x:aB} {out:List Nat} (h:∀j,j<k->¬Qt x i<Qt x (out.getD j 0)) (hk:k=out.length\/(k<out.length/\Qt x i<Qt x (out.getD k 0))):Zv x out i=k:=by
  have e:∀j (hj:j<out.length),out.getD j 0=out[j] :=fun j hj=>by rw [List.getD_eq_getElem?_getD,List.getElem?_eq_getElem hj];rfl
  unfold Zv
  rcases hk with rfl|⟨h1,h2⟩
  · refine List.findIdx_eq_length.2 (fun a ha=>?_)
    obtain ⟨j,hj,rfl⟩:=List.getElem_of_mem ha;have:=h j hj;rw [e j hj] at this;exact decide_eq_false this
  · rw [List.findIdx_eq h1]
    exact⟨by rw [<-e k h1];exact decide_eq_true h2,fun j hj=>by have:=h j hj;rw [e j om] at this;exact decide_eq_false this⟩
theorem Em {l:List Nat} (h:k<l.length):(l.map (fun (j:Nat)=>(j:Int))).getD k 0=((l.getD k 0:Nat):Int):=by
  rw [List.getD_eq_getElem?_getD,List.getD_eq_getElem?_getD,List.getElem?_map,List.getElem?_eq_getElem h];rfl
theorem pC (x:aB) (t:Nat):(oo x t).ts.length=x.ts.length/\(oo x t).lk.length=x.lk.length/\(oo x t).s=x.s/\(oo x t).now=x.now:=by
  unfold oo;split
  ·exact⟨rfl,rfl,rfl,rfl⟩
  · split
    ·exact⟨List.length_set ..,rfl,rfl,rfl⟩
    · have e:=cQ (gT x t).lk.toNat (dH (cC (bh (ba (aY x (gT x t).lk.toNat (fR (gL x (gT x t).lk.toNat) t)) 8 t (gT x t).lk 10) t) t) t) (oc (gL x (gT x t).lk.toNat) t)
      exact⟨e.1.trans (by show ((x.ts.set _ _).set _ _).length=_;rw [List.length_set,List.length_set]),by rw [e.2.1];exact cj ..,e.2.2⟩
theorem MI.oo {k:Nat} {x:aB} (h:MI k x) {t:Nat} (ht:t<x.ts.length):MI (k+40) (oo x t):=by
  unfold Go.Eng.oo;split
  ·exact h.mono om
  · next e=>
    split
    ·exact(h.EJ ht).mono om
    · next e2=>
      have hl:=(h.tb t ht).l4 (((h.tb t ht).un e).resolve_left e2);have mL:(gT x t).lk.toNat<x.lk.length:=by rw [h.ll];omega
      have hL:=h.li _ mL;have h1:=((h.aY (l:=(gT x t).lk.toNat) (hL.lv t)).fX 8 t (gT x t).lk 10).inc (t:=t) ht;have h2:=(h1.cut (t:=t) (by show t<(x.ts.set _ _).length;rw [List.length_set];exact ht)).EJ (t:=t) (by show t<(x.ts.set _ _).length;rw [List.length_set];exact ht);refine (h2.lV (gT x t).lk.toNat (fun u hu=>?_) (Nat.le_trans (pU ..) (h.w8 mL))).mono om;have:=hL.i.oc t u hu
      show iz ((x.ts.set _ _).set _ _).length u
      rw [List.length_set,List.length_set];exact this
theorem xk (x:aB) (l:List Nat) (t:Nat):vX x (l++ [t])=oo (vX x l) t:=by unfold vX;rw [List.foldl_append];rfl
theorem rI:∀(l:List Nat) (x:aB),(vX x l).ts.length=x.ts.length/\(vX x l).lk.length=x.lk.length/\(vX x l).s=x.s/\(vX x l).now=x.now
  | [],x=>⟨rfl,rfl,rfl,rfl⟩
  |t::l,x=>by
    have h1:=pC x t;have h2:=rI l (oo x t)
    unfold vX at h2 ⊢
    rw [List.foldl_cons];exact⟨h2.1.trans h1.1,h2.2.1.trans h1.2.1,h2.2.2.1.trans h1.2.2.1,h2.2.2.2.trans h1.2.2.2⟩
theorem MI.vX:∀{l:List Nat} {k:Nat} {x:aB},MI k x->(∀t∈l,t<x.ts.length)->MI (k+40*l.length) (vX x l)
  | [],k,x,h,_=>h
  |t::l,k,x,h,ht=>by
    have h1:=MI.vX (l:=l) (h.oo (ht t (List.mem_cons_self ..))) (fun u hu=>by rw [(pC x t).1];exact ht u (List.mem_cons_of_mem _ hu));rw [List.length_cons,show k+40*(l.length+1)=k+40+40*l.length by omega];exact h1
theorem MI.Ug {x:aB} (h:MI k x):MI (k+2560) (vh x):=by
  have vZ:=h.tl;have hd:=vJ x x.ts.length;exact((h.vX (l:=pq x) (fun t ht=>jf x _ t ht)).mono (show _<=k+2560 by show k+40*(CF x x.ts.length).length<=_;omega)).C0
theorem MI.mvd {x:aB} (h:MI k x) (ht:t<x.ts.length) (c:Int):MI (k+1) (qq x t c):=by
  have q:=h.tb t ht;exact((h.up ht (y:= {gT x t with co:=c}) ⟨q.pr,q.pc,q.lf,q.ti,q.l4,q.un⟩).fX _ _ _ _).C0
end Go.Eng
namespace Go.Eng
open Go Go.Proofs Go.RowKit
variable {out:List Act} {xs:List Int} {ws:List bA} {b i j k n0 t:Nat} {m:ab} {o:bO} {s:dU}
structure dU.Old (s:dU) (n0:Nat):Prop where
  g:0<s.gs.length->ox s.ga<n0
  l:0<s.ls.length->ox s.la<n0
  p:0<s.ps.length->ox s.pa<n0
  o:∀p∈s.ps,0<p.c.xs.length->ox p.ad<n0
theorem dU.In.keep {S:Nat->Prop} {w w':World} (h:s.In w) (ho:s.Old n0) (k:cG S w w') (hS:∀b,S b->n0<=b):s.In w':=
  ⟨h.yD,h.hg.Hm k (fun q e=>by have:=hS _ e;have:=ho.g q;omega),h.qV,h.hl.Hm k (fun q e=>by have:=hS _ e;have:=ho.l q;omega),h.qE,h.hp.Hm k (fun q e=>by have:=hS _ e;have:=ho.p q;omega),
   fun p hp=>⟨(h.ops p hp).1,(h.ops p hp).2.Hm k (fun q e=>by have:=hS _ e;have:=ho.o p hp q;omega)⟩⟩
abbrev VM (b:Nat) (p:iJ):Nat×Obj:=(b,.cells (Z5 p).toArray 62 (0,0))
abbrev FO (s:dU) (x:aB) (t:Nat):iJ:=s.ps.getD (x.ts.getD t default).pr.toNat default
set_option maxHeartbeats 4000000 in
theorem G5 {c:Nat} {x:aB} (w:World) (h:eQ n0 b s x m) (hI:MI k x) (hk:k<=700000000000) (ht:t<x.ts.length) (ED:c<x.cs.length) (hs:s.In w) (kH:s.Old n0) (cm:n0<=w.heap.size) (hM:Mem w m):aD Tryz.prog 56 #[.pointer (some ⟨b,0,none⟩),.int .i64 (t:Nat),.int .i64 (c:Nat)] w (fq m (fun u m'=>u= .bool (fb x t c).2/\eQ n0 b s (fb x t c).1 m') w):=by
 obtain ⟨P,rfl,h⟩:=h;have HA:=h.ge (y:=x.now);have uF:=h.nt;have gS:=h.st;have rB:=hI.tl;obtain ⟨ig,ii,il,ip,ix,it,iv,ie,ic,iq⟩:=bK (ay (az b s x.now P) w.heap.size);have TE:=hs.hp;have qE:=hs.qE;have CM:x.s.ps=s.ps.map iJ.c:=(by rw [h.hs];rfl);have jL:x.s.ps.length=s.ps.length:=(by rw [CM,List.length_map]);have hpr:0<=(x.ts.getD t default).pr/\(x.ts.getD t default).pr<(x.s.ps.length:Int):=(hI.tb t ht).pr;have tS:FO s x t∈s.ps:=List.mem_of_getElem? (aH default om);have pO:=hs.ops _ tS;have hon:=pO.1;have hos:=pO.2;have acL:0<s.ps.length->¬gU (az b s x.now P) (ox s.pa):=(fun q ⟨p,hp,he⟩=>by have:=HA p hp;have:=kH.p q;omega);have aa8:0<(FO s x t).c.xs.length->¬gU (az b s x.now P) (ox (FO s x t).ad):=(fun q ⟨p,hp,he⟩=>by have:=HA p hp;have:=kH.o _ tS q;omega);have Cq:iu x t=(FO s x t).c:=(by unfold iu;rw [CM,eT]);have IV:=yd hI.ms (p:=iu x t) (by rw [Cq,CM];exact List.mem_map_of_mem tS);rw [Cq] at IV;refine aD.ak Tryz.func56 rfl Tryz.ntmps56 rfl (az b s x.now P++ []) ((gU (az b s x.now P))) aM ?_;refine J6 ?_;refine af.bB (α:=Nat) (fun b7=>[(7,.pointer (some ⟨b7,0,none⟩))]) [(0,_),(1,_),(2,_)] (fun b7=>VM b7 (FO s x t)::(az b s x.now P++ [])) (fun b7=>w.heap.size<=b7) cA ?_ ?_
 ·refine af.keep (az b s x.now P++ []) (fun _=>True) (.one 0 0 (.one 1 0 (.one 2 0 (.one 3 0 (.one 4 1 (.one 5 0 (.one 6 0 (.one 7 0 (.one 8 1 (.one 9 0 (.one 10 0 (.one 11 0 (.one 12 1 (.one 13 0 (.one 14 1 (.one 15 2 (.one 16 2 .nil))))))))))))))))) kr kr aX (fun _ _=>trivial) ?_;refine cM ?_;refine KD.rd rfl rfl (aL (j:=1) aC ir Tryz.isAgg3 rfl rfl (by first|exact bE om|exact aH default cH) rfl (by rfl)) ?_;refine KD.val rfl rfl (c4 qw Tryz.underlying28 Tryz.sizeOf62 rfl rfl om) ?_;refine KD.dV rfl rfl (de aC ir Tryz.isAgg62 Tryz.sizeOf62 rfl (by first|exact bE om|exact aH default cH) (by first|exact acL om|exact aa8 om)) ?_;refine J1 ?_;refine LM.alloc Tryz.zeroValue62 rfl (fun b7 K9=>?_);refine J3 ?_;refine LM.c6 Tryz.sizeOf62 rfl rfl rfl rfl cZ vg ?_;refine J3 ?_;refine mK (b7) ?_
  ·assumption
 rintro b7 K9;change QM _ _ _ _ _ (VM b7 (FO s x t)::(az b s x.now P++ [])) _ _ _;refine J3 ?_;refine af.draw [(0,0),(1,0),(2,0),(3,1),(4,0),(5,0),(6,0),(7,1),(8,0),(9,1),(10,0),(11,0)] kr kr ?_;refine J7 ?_;refine LD.rd rfl rfl (aL (j:=4) aC ir Tryz.isAgg3 rfl rfl (by first|exact bE om|exact aH default cH) rfl (by rfl)) ?_;refine J6 ?_;refine af.bB (α:=ab×iy) (fun ⟨mt,z⟩=>[]) [(0,_),(1,_),(2,_),(7,_)] (fun ⟨mt,z⟩=>VM b7 (FO s x t)::(Ay b s x.now P P.mx mt P.mc P.mq++ [])) (fun ⟨mt,z⟩=>iP x t=bR x t z/\Sl KN 81 12 n0 (x.ts.set t z) (.slice P.at' P.nt P.ct) mt/\df (az b s x.now P) w.heap.size mt/\¬(((iu x t).xs.length:Int)<=(gT x t).pc/\(iu x t).fv=false)) cA ?_ ?_
 ·refine af.aj rfl (fun h1=>?_) (fun h1=>?_)
  ·refine J8 ?_;refine af.aN rfl (fun h2=>?_) (fun h2=>?_)
   ·refine J4 ?_;refine cU Tryz.func28 rfl (fun w hm hc hg=>qQ w (gF.m h) hI om ht (Nat.le_trans cm hc.size) (hm.pick _)) (gF.m h).bJ (au (ay _ _)) ?_;rintro u43 m43 ⟨rfl,h43⟩ HX;refine J9 ?_;refine QM.gY ?_;refine J1 ?_;refine qL Tryz.results56 rfl fun w' ao aa aA=>?_;rw [rL (by rw [Cq];show _<=(x.ts.getD t default).pc;omega) (by rw [Cq];simpa using h2)];exact bp (m':=m43) ⟨rfl,h43⟩ ao aX aa HX
   refine cF ?_;refine LM.ja ({gT x t with pc:=0}) (j:=4) aC ir Tryz.sizeOf3 rfl rfl rfl (by first|exact bE om|exact aH default cH) rfl (by decide) (by rfl) rfl (au aC) (fun kF gM kQ=>?_)
   try rw [List.set_set] at gM
   have K0:=ck kQ aC;refine J1 ?_;refine mK (kF,{gT x t with pc:=0}) ?_
   ·exact⟨by unfold iP;rw [if_pos (by rw [Cq];show _<=(x.ts.getD t default).pc;omega)],gM,K0,fun q=>by have q2:=q.2;rw [Cq] at q2;rw [q2] at h2;simp at h2⟩
  refine J1 ?_;refine mK (P.mt,gT x t) ?_
  ·exact⟨by unfold iP bR;rw [if_neg (by rw [Cq];show¬_<=(x.ts.getD t default).pc;omega),vT default ht],by rw [vT default ht];exact gS,it,fun q=>by have q1:=q.1;rw [Cq] at q1;have:((FO s x t).c.xs.length:Int)<=(x.ts.getD t default).pc:=q1;omega⟩
 rintro ⟨mt,z⟩ ⟨hz,E3,it1,dX⟩;change QM _ _ _ _ _ (VM b7 (FO s x t)::(Ay b s x.now P P.mx mt P.mc P.mq++ [])) _ _ _
 clear gS;have zr:=C5 hI ht;rw [hz,Cq,dB ht,if_pos rfl] at zr
 refine J2 ?_;refine af.bB (α:=Nat) (fun b8=>[(8,.pointer (some ⟨b8,0,none⟩))]) [(0,_),(1,_),(2,_)] (fun b8=>oB b8 ((FO s x t).c.xs.getD z.pc.toNat default)::VM b7 (FO s x t)::(Ay b s x.now P P.mx mt P.mc P.mq++ [])) (fun b8=>w.heap.size<=b8) cA ?_ ?_
 ·refine af.keep (VM b7 (FO s x t)::(Ay b s x.now P P.mx mt P.mc P.mq++ [])) (fun _=>True) (.one 0 0 (.one 1 1 (.one 2 0 (.one 3 0 (.one 4 0 (.one 5 1 (.one 6 0 (.one 7 0 (.one 8 0 (.one 9 1 (.one 10 0 (.one 11 1 (.one 12 2 (.one 13 2 .nil)))))))))))))) kr kr aX (fun _ _=>trivial) ?_;refine J9 ?_;refine KD.rd rfl rfl (aL (j:=4) aC ir Tryz.isAgg3 rfl rfl (by first|exact bE om|exact aH default cH) rfl (by rfl)) ?_;refine KD.val rfl rfl (c4 qw Tryz.underlying60 Tryz.sizeOf103 rfl rfl om) ?_;refine KD.dV rfl rfl (de aC ir Tryz.isAgg103 Tryz.sizeOf103 rfl (by first|exact bE om|exact aH default cH) (by first|exact acL om|exact aa8 om)) ?_;refine J1 ?_;refine LM.alloc Tryz.zeroValue103 rfl (fun b8 RV=>?_);refine J3 ?_;refine LM.c6 Tryz.sizeOf103 rfl rfl rfl rfl cZ vg ?_;refine J3 ?_;refine mK (b8) ?_
  ·assumption
 rintro b8 RV;change QM _ _ _ _ _ (oB b8 ((FO s x t).c.xs.getD z.pc.toNat default)::VM b7 (FO s x t)::(Ay b s x.now P P.mx mt P.mc P.mq++ [])) _ _ _;obtain ⟨o,ho⟩:∃o:bO,(FO s x t).c.xs.getD z.pc.toNat default=o:=⟨_,rfl⟩;rw [ho];have Ud:Lb x.s o:=(by have q:=hI.op ht (i:=z.pc.toNat) (by rw [Cq];exact zr.1);rw [Cq,ho] at q;exact q);have sW:=Fa (c:=c) (o:=o) dX ht hz (by rw [Cq];exact ho);obtain ⟨y,hy⟩:∃y,y=bR x t z:=⟨_,rfl⟩;rw [<-hy] at sW;have js:MI k y:=(by rw [hy,<-hz];exact hI.iP ht);have QB:gF n0 b s y {P with mt:=mt} :=(by rw [hy];exact {h with nt:=(by rw [aW];exact uF),st:=E3});have mz:y.now=x.now:=(by rw [hy];rfl);have qC:eQ n0 b s y (az b s x.now {P with mt:=mt}):=gF.m (hn:=mz) QB;have qA:y.ts=x.ts.set t z:=(by rw [hy];rfl);have WY:y.ts.length=x.ts.length:=(by rw [qA,List.length_set]);have hyk:y.lk=x.lk:=(by rw [hy];rfl);have hyc:y.cs=x.cs:=(by rw [hy];rfl);have Qw:gT y t=z:=(by rw [hy,dB ht,if_pos rfl]);have yL:t<y.ts.length:=om;have BO:=js.ev;have hvl:=js.vl;have eE:=js.ll;have nV:y.s=x.s:=(by rw [hy];rfl);have hzp:0<=z.pc/\z.pc<=(k:Int):=(by rw [<-Qw];exact(js.tb t yL).pc)
 refine J8 ?_;refine af.bB (α:=aB×va) (fun ⟨v,V⟩=>[]) [(0,_),(1,_)] (fun ⟨v,V⟩=>az b s x.now V++ []) (fun ⟨v,V⟩=>fb x t c=(bh v t,false)/\gF n0 b s v V/\v.now=x.now/\df (az b s x.now P) w.heap.size (az b s x.now V)/\MI (k+100) v/\t<v.ts.length) cA ?_ ?_
 ·refine J7 ?_;refine af.aj rfl (fun h3=>?_) (fun h3=>?_)
  ·refine J4 ?_;refine LM.rd (aR Tryz.isAgg103 Tryz.sizeOf103 rfl rfl) ?_;refine cU Tryz.func106 rfl (fun w hm hc hg=>Fv o w qC js om yL (Ud.c aC) (Nat.le_trans cm hc.size) (hm.pick _)) qC.bJ (au aP) ?_;rintro u70 m70 ⟨rfl,h70⟩ NO;refine J9 ?_;refine QM.gY ?_;refine J1 ?_;refine qL Tryz.results56 rfl fun w' ao aa aA=>?_;rw [sW,Zm h3];exact bp (m':=m70) ⟨rfl,h70⟩ ao aX aa (ar aP NO)
  refine J7 ?_;refine af.mG (t:=71) rfl (fun h4=>?_) (fun h4=>?_)
  ·refine J7 ?_;refine LM.rd (aR Tryz.isAgg103 Tryz.sizeOf103 rfl rfl) ?_;refine cU Tryz.func107 rfl (fun w hm hc hg=>mC o w qC js om yL (by have q:=Ud.l om;rw [nV] at eE;omega) (Nat.le_trans cm hc.size) (hm.pick _)) qC.bJ (au aP) ?_;rintro u79 WM ⟨rfl,Wn⟩ xa;refine J5 ?_;refine QM.gY ?_;refine J1 ?_;refine qL Tryz.results56 rfl fun w' ao aa aA=>?_;rw [sW,AE om];exact bp (m':=WM) ⟨rfl,Wn⟩ ao aX aa (ar aP xa)
  refine J6 ?_;refine af.mG (t:=71) rfl (fun h5=>?_) (fun h5=>?_)
  ·refine J7 ?_;refine LM.rd (aR Tryz.isAgg103 Tryz.sizeOf103 rfl rfl) ?_;refine cU Tryz.func107 rfl (fun w hm hc hg=>mC o w qC js om yL (by have q:=Ud.l om;rw [nV] at eE;omega) (Nat.le_trans cm hc.size) (hm.pick _)) qC.bJ (au aP) ?_;rintro u79 WM ⟨rfl,Wn⟩ xa;refine J5 ?_;refine QM.gY ?_;refine J1 ?_;refine qL Tryz.results56 rfl fun w' ao aa aA=>?_;rw [sW,AE om];exact bp (m':=WM) ⟨rfl,Wn⟩ ao aX aa (ar aP xa)
  refine J6 ?_;refine af.mG (t:=71) rfl (fun h6=>?_) (fun h6=>?_)
  ·refine J7 ?_;refine LM.rd (aR Tryz.isAgg103 Tryz.sizeOf103 rfl rfl) ?_;refine cU Tryz.func107 rfl (fun w hm hc hg=>mC o w qC js om yL (by have q:=Ud.l om;rw [nV] at eE;omega) (Nat.le_trans cm hc.size) (hm.pick _)) qC.bJ (au aP) ?_;rintro u79 WM ⟨rfl,Wn⟩ xa;refine J5 ?_;refine QM.gY ?_;refine J1 ?_;refine qL Tryz.results56 rfl fun w' ao aa aA=>?_;rw [sW,AE om];exact bp (m':=WM) ⟨rfl,Wn⟩ ao aX aa (ar aP xa)
  refine J5 ?_;refine af.aj rfl (fun h7=>?_) (fun h7=>?_)
  ·refine J4 ?_;refine LM.rd (aR Tryz.isAgg103 Tryz.sizeOf103 rfl rfl) ?_;refine cU Tryz.func107 rfl (fun w hm hc hg=>mC o w qC js om yL (by have q:=Ud.l om;rw [nV] at eE;omega) (Nat.le_trans cm hc.size) (hm.pick _)) qC.bJ (au aP) ?_;rintro u79 WM ⟨rfl,Wn⟩ xa;refine J5 ?_;refine QM.gY ?_;refine J1 ?_;refine qL Tryz.results56 rfl fun w' ao aa aA=>?_;rw [sW,AE om];exact bp (m':=WM) ⟨rfl,Wn⟩ ao aX aa (ar aP xa)
  refine J6 ?_;refine af.aj rfl (fun h8=>?_) (fun h8=>?_)
  ·have Iv:=Ud.l om;have tF:o.a.toNat<y.lk.length:=(by rw [nV] at eE;omega);have hL:=js.li o.a.toNat tF;have hLh:=hL.hl;have vV:P.nl=y.lk.length:=QB.nl;have u2:P.bs.length=y.lk.length:=QB.bl;have I7:Sl fP 71 1 n0 P.bs (.slice P.al P.nl P.cl) P.ml:=QB.sl;have aqk:0<=o.a/\o.a<(P.nl:Int):=(by rw [nV] at eE;omega);have hia:((o.a.toNat:Nat):Int)=o.a:=Int.toNat_of_nonneg Iv.1;refine J1 ?_;refine af.keep (xL b s x.now P::(P.ml++(oB b8 o:: []))) (fun _=>True) (.one 0 0 (.one 1 0 (.one 2 0 (.one 3 1 (.one 4 0 (.one 5 1 (.one 6 0 (.one 7 1 (.one 8 0 (.one 9 2 (.one 10 0 (.one 11 0 (.one 12 0 (.one 13 0 (.one 14 0 .nil))))))))))))))) kr kr aX (fun _ _=>trivial) ?_;refine J6 ?_;refine KD.val rfl rfl (c4 qw Tryz.underlying43 Tryz.sizeOf71 rfl rfl om) ?_;refine KD.rd rfl rfl (bt aC ir Tryz.isAgg71 rfl rfl (by first|exact bE om|exact aH default cH) (by rfl)) ?_;refine J2 ?_;refine cU Tryz.func108 rfl (fun w hm hc hg=>Hs (l:=o.a.toNat) QB.sq tF (hm.pick P.mq) (fun m hr hM=>wO (k:=n0) (t:Nat) w hL.w.toqH hr (Nat.le_trans cm hc.size) (by show (gL y o.a.toNat).ho.length<=900;omega) (Nat.le_trans cm hc.size) hM)) (QB.sq.bJ EZ) (au iq) ?_;rintro u92 m92 ⟨mr,Yx,⟨adr,WW,rfl,BR⟩,rfl,zM⟩ LQ;refine LM.assoc ?_;have i92:df (az b s x.now P) w.heap.size Yx:=fun p hp=>ar iq LQ p (List.mem_append_right _ hp);refine rA ?_;refine af.aj rfl (fun h9=>?_) (fun h9=>?_)
   ·have yx:eQ n0 b s y (az b s x.now {P with mt:=mt,mq:=Yx}):=gF.m (hn:=mz) {QB with sq:=(by have q:=zM;rw [show dP (gL y o.a.toNat) t=y.lk.getD o.a.toNat default from if_neg (fun e=>h9 (if_pos e)),vT default tF] at q;exact q)};refine J6 ?_;refine cU Tryz.func53 rfl (fun w hm hc hg=>cc 8 (t:Nat) o.a (kb (gL y o.a.toNat) t) w yx om (Nat.le_trans cm hc.size) (hm.pick _)) yx.bJ (au aP) ?_;rintro aqz ao0 ⟨rfl,Vf⟩ XD;obtain ⟨P1,lD,Vf⟩:=Vf;rw [show (ba y 8 t o.a (kb (gL y o.a.toNat) t)).now=x.now from mz] at lD;subst lD;have i102:df (az b s x.now P) w.heap.size (az b s x.now P1):=ar aP XD;refine J2 ?_;refine mK (ba y 8 t o.a (kb (gL y o.a.toNat) t),P1) ?_
    ·exact⟨by rw [sW,Ks h8 h9],Vf,mz,i102,(js.fX _ _ _ _).mono om,yL⟩
   have yx:eQ n0 b s (aY y o.a.toNat (dP (gL y o.a.toNat) t)) (az b s x.now {P with mt:=mt,mq:=Yx}):=gF.m (hn:=mz) {QB with nl:=(by rw [cj];exact vV),bl:=(by rw [cj];exact u2),sq:=zM};have kq:=(js.aY (l:=o.a.toNat) (hL.yF t)).fX 5 t o.a 0;refine J6 ?_;refine cU Tryz.func53 rfl (fun w hm hc hg=>cc 5 (t:Nat) o.a 0 w yx (by show y.ev.length<=_;omega) (Nat.le_trans cm hc.size) (hm.pick _)) yx.bJ (au aP) ?_;rintro af6 YC ⟨rfl,Mg⟩ FC;have i107:df (az b s x.now P) w.heap.size YC:=ar aP FC;refine J7 ?_;refine cU Tryz.func60 rfl (fun w hm hc hg=>(by have q:=mI (l:=o.a.toNat) w Mg kq om (by show _<(y.lk.set _ _).length;rw [List.length_set];exact tF) (hL.i.dI t) (Nat.le_trans (k4 ..) hL.w.w8) rfl BR (Nat.le_trans cm hc.size) (sm hm);rw [hia] at q;exact q)) Mg.bJ (au i107) ?_;rintro aju adN ⟨rfl,NB⟩ G0;obtain ⟨P1,lD,NB⟩:=NB;have ZM:=cQ o.a.toNat (ba (aY y o.a.toNat (dP (gL y o.a.toNat) t)) 5 t o.a 0) (dI (gL y o.a.toNat) t);rw [ZM.2.2.2,show (ba (aY y o.a.toNat (dP (gL y o.a.toNat) t)) 5 t o.a 0).now=x.now from mz] at lD;subst lD;have i112:df (az b s x.now P) w.heap.size (az b s x.now P1):=ar i107 G0;refine J2 ?_;refine mK (cT (ba (aY y o.a.toNat (dP (gL y o.a.toNat) t)) 5 t o.a 0) o.a.toNat (dI (gL y o.a.toNat) t),P1) ?_
   ·exact⟨by rw [sW,KI h8 h9],NB,ZM.2.2.2.trans mz,i112,(kq.lV o.a.toNat (hL.i.dI t) (Nat.le_trans (k4 ..) hL.w.w8)).mono om,by rw [ZM.1];exact yL⟩
  refine J6 ?_;refine af.aj rfl (fun je=>?_) (fun je=>?_)
  ·have hzq:({z with st:=3,un:=x.now+BitVec.ofInt 64 o.a} :iy).pc=z.pc:=rfl;refine J6 ?_;refine cU Tryz.func53 rfl (fun w hm hc hg=>cc 9 (t:Nat) (-1) o.a w qC om (Nat.le_trans cm hc.size) (hm.pick _)) qC.bJ (au aP) ?_;rintro aom ai1 ⟨rfl,abc⟩ U5;have i119:df (az b s x.now P) w.heap.size ai1:=ar aP U5;refine J6 ?_;refine cU Tryz.func71 rfl (fun w hm hc hg=>rv t w abc (by show t<y.v.length;omega) (Nat.le_trans cm hc.size) (hm.pick _)) abc.bJ (au i119) ?_;rintro ao4 ahk ⟨rfl,F0⟩ Wp;change eQ n0 b s (IU y t o.a) ahk at F0;obtain ⟨P1,lD,F0⟩:=F0;rw [show (IU y t o.a).now=x.now from mz] at lD;subst lD;have i122:=ar i119 Wp;clear ig ii il ip ix it iv ie ic iq;obtain ⟨ig,ii,il,ip,ix,it,iv,ie,ic,iq⟩:=bK i122;have Lp:Sl KN 81 12 n0 (x.ts.set t z) (.slice P1.at' P1.nt P1.ct) P1.mt:=qA▸F0.st;have Rq:P1.nt=x.ts.length:=WY▸F0.nt;refine dc ?_;refine LM.ja ({z with st:=3}) (j:=6) aC ir Tryz.sizeOf3 rfl rfl rfl (by first|exact bE om|exact aH default cH) rfl (by decide) (by rfl) rfl (au aC) (fun td mV sD=>?_)
   try rw [List.set_set] at mV
   have V9:=ck sD aC;refine J3 ?_;refine af.keep (xL b s x.now P1::oB b8 o:: []) (fun _=>True) (.one 0 0 (.one 1 0 (.one 2 0 (.one 3 1 (.one 4 0 (.one 5 0 (.one 6 0 (.one 7 0 (.one 8 1 (.one 9 0 (.one 10 1 (.one 11 0 (.one 12 0 (.one 13 0 (.one 14 0 (.last 15)))))))))))))))) kr kr aX (fun _ _=>trivial) ?_;refine dc ?_;refine KD.val rfl rfl (oK Tryz.underlying3 Tryz.underlying41 rfl) ?_;refine KD.val rfl rfl (iX rfl rfl) ?_;refine J2 ?_;refine KD.last rfl ?_;refine LM.ja ({z with st:=3,un:=x.now+BitVec.ofInt 64 o.a}) (j:=7) aC ir Tryz.sizeOf41 rfl rfl rfl (by first|exact bE om|exact aH default cH) rfl (by decide) (by rfl) rfl (au aC) (fun ms4 JV Ms=>?_)
   try rw [List.set_set] at JV
   have ii4:=ck Ms aC;refine J1 ?_;refine QM.qn ?_;refine cF ?_;refine LM.rd (aL (j:=4) aC ir Tryz.isAgg3 rfl rfl (by first|exact bE om|exact aH default cH) rfl (by rfl)) ?_;refine J3 ?_;refine LM.ja ({z with st:=3,un:=x.now+BitVec.ofInt 64 o.a,pc:=z.pc+1}) (j:=4) aC ir Tryz.sizeOf3 rfl rfl rfl (by first|exact bE om|exact aH default cH) rfl (by decide) (by rfl) rfl (au aC) (fun ms5 L9 VC=>?_)
   try rw [List.set_set] at L9
   have ii5:=ck VC aC;refine J9 ?_;refine QM.gY ?_;refine J1 ?_;refine qL Tryz.results56 rfl fun w' ao aa aA=>?_;rw [sW,VP je,Qw,mz];exact bp (m':=az b s x.now {P1 with mt:=ms5}) ⟨rfl,gF.m (hn:=mz) {F0 with nt:=(by rw [aW];exact F0.nt),st:=(by show Sl _ _ _ _ (y.ts.set t _) _ _;rw [qA,List.set_set];exact L9)}⟩ ao aX aa aP
  refine J6 ?_;refine af.aj rfl (fun lK=>?_) (fun lK=>?_)
  ·have hzq:({z with st:=1} :iy).pc=z.pc:=rfl;refine J5 ?_;refine cU Tryz.func53 rfl (fun w hm hc hg=>cc 10 (t:Nat) (-1) (c:Nat) w qC om (Nat.le_trans cm hc.size) (hm.pick _)) qC.bJ (au aP) ?_;rintro anB aq1 ⟨rfl,CZ⟩ Xy;obtain ⟨P1,lD,CZ⟩:=CZ;rw [show (ba y 10 t (-1) c).now=x.now from mz] at lD;subst lD;have i161:df (az b s x.now P) w.heap.size (az b s x.now P1):=ar aP Xy;clear ig ii il ip ix it iv ie ic iq;obtain ⟨ig,ii,il,ip,ix,it,iv,ie,ic,iq⟩:=bK i161;have Lp:Sl KN 81 12 n0 (x.ts.set t z) (.slice P1.at' P1.nt P1.ct) P1.mt:=qA▸CZ.st;have Rq:P1.nt=x.ts.length:=WY▸CZ.nt;obtain ⟨nS,nq,kl,Hc,tj,hX⟩:=CZ.sc.x;have Wi:=hX.sl;have hXl:Hc.length=y.cs.length:=hX.len;have hXn:nq=y.cs.length:=hX.nl;have IK:c<y.cs.length:=(by rw [hyc];exact ED)
   refine cF ?_;refine LM.dV (fun w hm hc hg=>iL (M:=iE P1.bc nS nq kl::(tj++ [])) Tryz.isAgg110 rfl rfl w (hX.ld (hm.pick P1.mc))) ?_;refine J2 ?_;refine LM.dV (fun w hm hc hg=>aL (M:=iE P1.bc nS nq kl::(tj++ [])) (i:=c) (j:=0) Wi ir Tryz.isAgg114 rfl rfl (aH (xs:=Hc) default om) rfl (by rfl) w (hX.ld (hm.pick P1.mc))) ?_;refine cU Tryz.func52 rfl (fun w hm hc hg=>hX.Dx (i:=c) (x':=fM (qg y.cs c)) IK (hm.pick P1.mc) (js.ci.back IK).wf (fun m hr hM=>uJ w hr hM)) CZ.sc.bJ (au ic) ?_;rintro anA ajt ⟨rfl,agm⟩ Xt;have i172:=ar ic Xt;refine dc ?_;refine LM.ja ({z with st:=1}) (j:=6) aC ir Tryz.sizeOf3 rfl rfl rfl (by first|exact bE om|exact aH default cH) rfl (by decide) (by rfl) rfl (au aC) (fun td mV sD=>?_)
   try rw [List.set_set] at mV
   have V9:=ck sD aC;refine dc ?_;refine LM.rd (aL (j:=4) aC ir Tryz.isAgg3 rfl rfl (by first|exact bE om|exact aH default cH) rfl (by rfl)) ?_;refine J3 ?_;refine LM.ja ({z with st:=1,pc:=z.pc+1}) (j:=4) aC ir Tryz.sizeOf3 rfl rfl rfl (by first|exact bE om|exact aH default cH) rfl (by decide) (by rfl) rfl (au aC) (fun ms4 JV Ms=>?_)
   try rw [List.set_set] at JV
   have ii4:=ck Ms aC;refine J9 ?_;refine QM.gY ?_;refine J1 ?_;refine qL Tryz.results56 rfl fun w' ao aa aA=>?_;rw [sW,Y9 lK,Qw];exact bp (m':=az b s x.now {P1 with mt:=ms4,mc:=ajt}) ⟨rfl,gF.m (hn:=mz) {CZ with nt:=(by rw [aW];exact CZ.nt),st:=(by show Sl _ _ _ _ (y.ts.set t _) _ _;rw [qA,List.set_set];exact JV),sc:=agm.c}⟩ ao aX aa aP
  refine J6 ?_;refine af.aj rfl (fun rz=>?_) (fun rz=>?_)
  ·refine J3 ?_;refine cE Tryz.func25 rfl (fun w hm hc hg=>uH w qC js.tl (hm.pick _)) ?_;refine J2 ?_;refine af.aN rfl (fun tz=>?_) (fun tz=>?_)
   ·refine af.draw [(0,0),(1,0),(2,1),(3,0),(4,0),(5,0),(6,1),(7,0),(8,0),(9,0),(10,1),(11,0),(12,0),(13,0),(14,1),(15,0),(16,0),(17,0),(18,1),(19,0),(20,3)] kr kr ?_;refine cF ?_;refine LD.rd rfl rfl (aL (j:=2) aC ir Tryz.isAgg3 rfl rfl (by first|exact bE om|exact aH default cH) rfl (by rfl)) ?_;refine J7 ?_;refine LD.rd rfl rfl (aL (j:=9) aC ir Tryz.isAgg3 rfl rfl (by first|exact bE om|exact aH default cH) rfl (by rfl)) ?_;refine J1 ?_;refine LD.tail rfl rfl ?_;refine cU Tryz.func26 rfl (fun w hm hc hg=>wM o.a z.gr z.we (c:Nat) w qC js.tl (by have:=js.tl;omega) om (Nat.le_trans cm hc.size) (hm.pick _)) qC.bJ (au aP) ?_;rintro aqu am4 ⟨rfl,XN⟩ Xx;obtain ⟨P1,lD,XN⟩:=XN;rw [show (pk y o.a z.gr z.we c).now=x.now from mz] at lD;subst lD;have i215:df (az b s x.now P) w.heap.size (az b s x.now P1):=ar aP Xx;refine J1 ?_;refine QM.qn ?_;refine J1 ?_;refine mK (pk y o.a z.gr z.we c,P1) ?_
    ·exact⟨by rw [sW,VX rz,if_pos tz,Qw],XN,mz,i215,(js.QJ _ _ _ _ (by rw [nV];exact Ud.p rz) (by unfold jE at tz;simp only [Bool.and_eq_true,decide_eq_true_eq] at tz;exact tz.2)).mono om,by show t<(y.ts++ [_]).length;rw [List.length_append];omega⟩
   refine J3 ?_;refine cU Tryz.func53 rfl (fun w hm hc hg=>cc 8 (t:Nat) (-1) 3 w qC om (Nat.le_trans cm hc.size) (hm.pick _)) qC.bJ (au aP) ?_;rintro an8 apE ⟨rfl,Yd⟩ Vl;obtain ⟨P1,lD,Yd⟩:=Yd;rw [show (ba y 8 t (-1) 3).now=x.now from mz] at lD;subst lD;have i218:df (az b s x.now P) w.heap.size (az b s x.now P1):=ar aP Vl;refine J2 ?_;refine mK (ba y 8 t (-1) 3,P1) ?_
   ·exact⟨by rw [sW,VX rz,if_neg (by simpa using tz)],Yd,mz,i218,(js.fX _ _ _ _).mono om,yL⟩
  refine J6 ?_;refine af.aj rfl (fun nW=>?_) (fun nW=>?_)
  ·refine J1 ?_;refine af.keep (Ay b s x.now P P.mx mt P.mc P.mq++(oB b8 o:: [])) (fun _=>True) (.one 0 0 (.one 1 0 (.one 2 0 (.one 3 1 (.one 4 0 (.one 5 0 (.one 6 1 (.one 7 0 (.one 8 0 (.last 9)))))))))) kr kr aX (fun _ _=>trivial) ?_;refine J9 ?_;refine KD.last rfl ?_;refine LM.ja ({z with we:=o.a}) (j:=9) aC ir Tryz.sizeOf3 rfl rfl rfl (by first|exact bE om|exact aH default cH) rfl (by decide) (by rfl) rfl (au aC) (fun td mV sD=>?_)
   try rw [List.set_set] at mV
   have V9:=ck sD aC;refine J1 ?_;refine QM.qn ?_;refine J2 ?_;have Pf:eQ n0 b s (bR y t {z with we:=o.a}) (az b s x.now {P with mt:=td}):=gF.m (hn:=mz) {QB with nt:=(by rw [aW];exact QB.nt),st:=(by show Sl _ _ _ _ (y.ts.set t _) _ _;rw [qA,List.set_set];exact mV)};refine J4 ?_;refine cU Tryz.func53 rfl (fun w hm hc hg=>cc 14 (t:Nat) (-1) o.a w Pf (by show y.ev.length<=_;omega) (Nat.le_trans cm hc.size) (hm.pick _)) Pf.bJ (au aP) ?_;rintro ap5 am6 ⟨rfl,Yt⟩ Va;obtain ⟨P1,lD,Yt⟩:=Yt;rw [show (ba (bR y t {z with we:=o.a}) 14 t (-1) o.a).now=x.now from mz] at lD;subst lD;have i234:df (az b s x.now P) w.heap.size (az b s x.now P1):=ar aP Va;refine J2 ?_;refine mK (ba (bR y t {z with we:=o.a}) 14 t (-1) o.a,P1) ?_
   ·exact⟨by rw [sW,I0 nW,Qw],Yt,mz,i234,((js.up yL (y:= {z with we:=o.a}) (by have q:=js.tb t yL;rw [Qw] at q;exact⟨q.pr,q.pc,q.lf,q.ti,q.l4,q.un⟩) (.inr (by rw [Qw]))).fX _ _ _ _).mono om,by show t<(y.ts.set _ _).length;rw [List.length_set];exact yL⟩
  refine J6 ?_;refine af.aj rfl (fun C2=>?_) (fun C2=>?_)
  ·refine J4 ?_;refine cU Tryz.func28 rfl (fun w hm hc hg=>qQ w qC js om yL (Nat.le_trans cm hc.size) (hm.pick _)) qC.bJ (au aP) ?_;rintro anu aga ⟨rfl,aiI⟩ XE;refine J9 ?_;refine QM.gY ?_;refine J1 ?_;refine qL Tryz.results56 rfl fun w' ao aa aA=>?_;rw [sW,JF C2];exact bp (m':=aga) ⟨rfl,aiI⟩ ao aX aa (ar aP XE)
  refine J2 ?_;refine mK (y,{P with mt:=mt}) ?_
  ·exact absurd Ud.k om
 rintro ⟨v,V⟩ ⟨hv1,hv2,hv3,hv4,hv5,hv6⟩;change QM _ _ _ _ _ (az b s x.now V++ []) _ _ _;have hvp:0<=(v.ts.getD t default).pc/\(v.ts.getD t default).pc<=((k+100:Nat):Int):=(hv5.tb t hv6).pc;have hvs:=hv2.st;have XH:=hv2.nt;clear ig ii il ip ix it iv ie ic iq;obtain ⟨ig,ii,il,ip,ix,it,iv,ie,ic,iq⟩:=bK hv4;refine cF ?_;refine LM.rd (aL (j:=4) aC ir Tryz.isAgg3 rfl rfl (by first|exact bE om|exact aH default cH) rfl (by rfl)) ?_;refine J3 ?_;refine LM.ja (oM (gT v t)) (j:=4) aC ir Tryz.sizeOf3 rfl rfl rfl (by first|exact bE om|exact aH default cH) rfl (by decide) (by rfl) rfl (au aC) (fun td mV sD=>?_)
 try rw [List.set_set] at mV
 have V9:=ck sD aC;refine J8 ?_;refine qL Tryz.results56 rfl fun w' ao aa aA=>?_;rw [hv1];exact bp (m':=az b s x.now {V with mt:=td}) ⟨rfl,gF.m (hn:=hv3) {hv2 with nt:=(by rw [show (bh v t).ts.length=v.ts.length from aW ..];exact XH),st:=mV}⟩ ao aX aa aP
set_option maxHeartbeats 2000000 in
theorem G3 {x:aB} (w:World) (h:eQ n0 b s x m) (rB:x.ts.length<=64) (hM:Mem w m):aD Tryz.prog 57 #[.pointer (some ⟨b,0,none⟩)] w (New fI 3 1 ((pq x).map (fun (j:Nat)=>(j:Int))) w):=by
 obtain ⟨P,rfl,h⟩:=h;have uF:=h.nt;have gS:=h.st;refine aD.ak Tryz.func57 rfl Tryz.ntmps57 rfl (az b s x.now P++ []) (no) aM ?_;refine yA ?_;refine af.aO (α:=Nat×List Nat×Option Addr×Nat×Nat×ab) (fun ⟨i,out,eu,no,bP,mo⟩=>[(3,.slice eu no bP),(4,.int .i64 (i:Nat))]) [(0,_)] (fun ⟨i,out,eu,no,bP,mo⟩=>az b s x.now P++(mo++ [])) (fun ⟨i,out,eu,no,bP,mo⟩=>i<=x.ts.length/\out=CF x i/\no=out.length/\Sl fI 3 1 w.heap.size (out.map (fun (j:Nat)=>(j:Int))) (.slice eu no bP) mo) (fun ⟨i,out,eu,no,bP,mo⟩=>x.ts.length-i) ((0,[],none,0,0,[])) cA aX ⟨Nat.zero_le _,rfl,rfl,.nil _ _ _ _⟩ ?_;rintro ⟨i,out,eu,no,bP,mo⟩ ⟨hi,Bg,gK,kH⟩;change af _ _ _ _ _ _ _ (az b s x.now P++(mo++ [])) _ _ _;have hml:(out.map (fun (j:Nat)=>(j:Int))).length=out.length:=List.length_map ..;have iT:=kH.len;have Lj:out.length<=i:=(by rw [Bg];exact vJ x i);have hom:∀j,j<out.length->out.getD j 0<i:=(fun j hj=>jf x i _ (by rw [<-Bg];exact List.mem_of_getElem? (aH 0 hj)))
 refine cM ?_;refine af.aj rfl (fun h1=>?_) (fun h1=>?_)
 ·refine J6 ?_;refine af.draw [(0,0),(1,0),(2,0),(3,1),(4,0),(5,0),(6,0),(7,1),(8,0),(9,0),(10,0),(11,0),(12,0),(13,1),(14,0),(15,0),(16,0),(17,1),(18,0),(19,0),(20,0),(21,1),(22,0),(23,0)] kr kr ?_;refine J7 ?_;refine LD.rd rfl rfl (aL (j:=7) aC ir Tryz.isAgg41 rfl rfl c7 rfl (by rfl)) ?_;refine LD.val rfl rfl (kL (b:=0#64) rfl rfl) ?_;refine J1 ?_;refine LD.aw (t:=25) rfl (fun h2=>?_) (fun h2=>?_)
  ·refine J26 ?_;refine aK (i+1,out,eu,no,bP,mo) ?_ ?_
   ·exact⟨by omega,by rw [lH,<-Bg];exact(if_pos (.inl h2)).symm,gK,kH⟩
   ·(dsimp only;omega)
  refine J7 ?_;refine LD.rd rfl ⟨25,_,rfl,rfl,rfl⟩ (aL (j:=7) aC ir Tryz.isAgg41 rfl rfl c7 rfl (by rfl)) ?_;refine J4 ?_;refine LD.val rfl ⟨25,_,rfl,rfl,rfl⟩ (pW rfl rfl) ?_;refine J3 ?_;refine af.aj rfl (fun h3=>?_) (fun h3=>?_)
  ·refine J9 ?_;refine aK (i+1,out,eu,no,bP,mo) ?_ ?_
   ·exact⟨by omega,by rw [lH,<-Bg];exact(if_pos (.inr h3)).symm,gK,kH⟩
   ·(dsimp only;omega)
  refine J9 ?_;refine af.aO (α:=Nat) (fun k=>[(5,.int .i64 (k:Nat))]) [(0,_),(3,_),(4,_)] (fun k=>az b s x.now P++(mo++ [])) (fun k=>k<=out.length/\∀j,j<k->¬Qt x i<Qt x (out.getD j 0)) (fun k=>out.length-k) (0) cA aX ⟨Nat.zero_le _,fun j hj=>absurd hj (Nat.not_lt_zero j)⟩ ?_;rintro k ⟨hk,Gi⟩;change af _ _ _ _ _ _ _ (az b s x.now P++(mo++ [])) _ _ _;have hmk:k<out.length->(out.map (fun (j:Nat)=>(j:Int))).getD k 0=((out.getD k 0:Nat):Int):=Em;have GB:=hom k;refine J2 ?_;refine af.draw [(0,0),(1,0),(2,0),(3,0),(4,0),(5,0),(6,0),(7,0),(8,1),(9,0),(10,0),(11,0),(12,1),(13,0),(14,0),(15,1),(16,0),(17,0),(18,0),(19,1),(20,0),(21,0),(22,0),(23,1),(24,0),(25,0)] kr kr ?_;refine J5 ?_;refine LD.aw (t:=44) rfl (fun h4=>?_) (fun h4=>?_)
  ·refine J7 ?_;refine LD.rd rfl ⟨44,_,rfl,rfl,rfl⟩ (bt aC ir Tryz.isAgg3 rfl rfl (by exact aH 0 cH) (by rfl)) ?_;refine LD.val rfl ⟨44,_,rfl,rfl,rfl⟩ (c4 qw Tryz.underlying45 Tryz.sizeOf81 rfl rfl om) ?_;refine J1 ?_;refine LD.rd rfl ⟨44,_,rfl,rfl,rfl⟩ (aL (j:=7) aC ir Tryz.isAgg41 rfl rfl c7 rfl (by rfl)) ?_;refine J7 ?_;refine LD.rd rfl ⟨44,_,rfl,rfl,rfl⟩ (aL (j:=7) aC ir Tryz.isAgg41 rfl rfl c7 rfl (by rfl)) ?_;refine LD.val rfl ⟨44,_,rfl,rfl,rfl⟩ (RK rfl rfl) ?_;refine J3 ?_;refine af.aj rfl (fun h5=>?_) (fun h5=>?_)
   ·refine J9 ?_;refine aK (k+1) ?_ ?_
    ·exact⟨by omega,fun j hj=>by rcases Nat.lt_or_ge j k with q|q;exact Gi j q;rw [show j=k by omega];rw [hmk om,Int.toNat_natCast] at h5;unfold Qt;show¬(x.ts.getD i default).un.toNat<(x.ts.getD (out.getD k 0) default).un.toNat;omega⟩
    ·omega
   have hdk:Zv x out i=k:=T6 Gi (.inr ⟨by omega,by rw [hmk om,Int.toNat_natCast] at h5;show (x.ts.getD i default).un.toNat<(x.ts.getD (out.getD k 0) default).un.toNat;omega⟩);refine J7 ?_;refine LM.Ot Tryz.underlying26 Tryz.sizeOf3 rfl (fun Xd WU=>?_);have Nv:Sl fI 3 1 w.heap.size ([] :List Int) (.slice (some ⟨Xd,0,none⟩) 0 0) [(Xd,.cells (([] :List Value).toArray) 3 (0,0))] := .void WU (Nat.zero_le _) rfl;refine J2 ?_;refine LM.val (jU Tryz.underlying26 Tryz.sizeOf3 rfl rfl om om) ?_;refine LM.tU (ys:=(out.map (fun (j:Nat)=>(j:Int))).take k) (m:=[(Xd,.cells (([] :List Value).toArray) 3 (0,0))]) Tryz.underlying26 Tryz.typeInfo3 rfl rfl rfl rfl rfl rfl rfl Nv (fun w hm hc hg=>(kH.l7 (fun _=>rfl) hm).take (k:=k) om) ir (by intro _ u hu;simp [fI] at hu;(repeat (first|(rcases hu with rfl|hu)|subst hu|rfl))) (Nat.le_refl _) (fun p hp bo=>absurd bo (Nat.not_lt_of_le (Sl.ge Nv p hp))) (by unfold maxLen;rw [List.length_take];simp only [List.length_nil];omega) (by rw [List.length_take];simp only [Tryz.t3,List.length_nil];omega) (fun ai3 n72 ZZ m72 afp afV ZT=>?_);refine J7 ?_;refine LM.single Tryz.underlying26 Tryz.sizeOf3 Tryz.zeroValue3 rfl rfl rfl rfl rfl (fun b75 ai7=>?_);have ahX:(([] :List Int)++(out.map (fun (j:Nat)=>(j:Int))).take k).length<=64:=(by simp only [List.length_append,List.length_take,List.length_map,List.length_nil];omega)
   refine LM.app (a:=(i:Int)) Tryz.underlying26 Tryz.typeInfo3 rfl rfl rfl rfl rfl rfl rfl aC (by rfl) ir (by intro _ u hu;simp [fI] at hu;(repeat (first|(rcases hu with rfl|hu)|subst hu|rfl))) (by first|exact Nat.le_refl _|omega) kU (by first|omega|(unfold maxLen;omega)) (by simp only [Tryz.t3];omega) (fun afx n76 aaT m76 afj OG ab1=>?_);refine J7 ?_;refine LM.val (jV k Tryz.underlying26 Tryz.sizeOf3 rfl rfl om om) ?_;refine LM.tU (ys:=(out.map (fun (j:Nat)=>(j:Int))).drop k) (m:=m76) Tryz.underlying26 Tryz.typeInfo3 rfl rfl rfl rfl rfl rfl rfl OG (fun w hm hc hg=>(kH.l7 (fun _=>rfl) hm).drop (l:=k) om) ir (by intro _ u hu;simp [fI] at hu;(repeat (first|(rcases hu with rfl|hu)|subst hu|rfl))) (Nat.le_refl _) (fun p hp bo=>absurd bo (Nat.not_lt_of_le (Sl.ge OG p hp))) (by unfold maxLen;simp only [List.length_nil,List.length_append,List.length_take,List.length_drop,List.length_cons,List.length_map];omega) (by simp only [Tryz.t3,List.length_nil,List.length_append,List.length_take,List.length_drop,List.length_cons,List.length_map];omega) (fun VR n81 M5 m81 Wj V4 Z7=>?_);refine J9 ?_;refine aK (i+1,out.take k++i::out.drop k,VR,n81,M5,m81) ?_ ?_
   ·exact⟨by omega,by rw [lH,<-Bg];unfold Zr;rw [if_neg (fun q=>q.elim h2 h3),hdk],by rw [Wj];simp only [List.length_append,List.length_cons,List.length_map,List.length_take,List.length_drop,List.length_nil];omega,by rw [List.map_append,List.map_cons,List.map_take,List.map_drop];have q:=V4;rw [List.nil_append,List.append_assoc] at q;exact q⟩
   ·(dsimp only;omega)
  have hdk:Zv x out i=k:=T6 Gi (.inl om);refine J31 ?_;refine LM.Ot Tryz.underlying26 Tryz.sizeOf3 rfl (fun Xd WU=>?_);have Nv:Sl fI 3 1 w.heap.size ([] :List Int) (.slice (some ⟨Xd,0,none⟩) 0 0) [(Xd,.cells (([] :List Value).toArray) 3 (0,0))] := .void WU (Nat.zero_le _) rfl;refine J2 ?_;refine LM.val (jU Tryz.underlying26 Tryz.sizeOf3 rfl rfl om om) ?_;refine LM.tU (ys:=(out.map (fun (j:Nat)=>(j:Int))).take k) (m:=[(Xd,.cells (([] :List Value).toArray) 3 (0,0))]) Tryz.underlying26 Tryz.typeInfo3 rfl rfl rfl rfl rfl rfl rfl Nv (fun w hm hc hg=>(kH.l7 (fun _=>rfl) hm).take (k:=k) om) ir (by intro _ u hu;simp [fI] at hu;(repeat (first|(rcases hu with rfl|hu)|subst hu|rfl))) (Nat.le_refl _) (fun p hp bo=>absurd bo (Nat.not_lt_of_le (Sl.ge Nv p hp))) (by unfold maxLen;rw [List.length_take];simp only [List.length_nil];omega) (by rw [List.length_take];simp only [Tryz.t3,List.length_nil];omega) (fun ai3 n72 ZZ m72 afp afV ZT=>?_);refine J7 ?_;refine LM.single Tryz.underlying26 Tryz.sizeOf3 Tryz.zeroValue3 rfl rfl rfl rfl rfl (fun b75 ai7=>?_);have ahX:(([] :List Int)++(out.map (fun (j:Nat)=>(j:Int))).take k).length<=64:=(by simp only [List.length_append,List.length_take,List.length_map,List.length_nil];omega)
  refine LM.app (a:=(i:Int)) Tryz.underlying26 Tryz.typeInfo3 rfl rfl rfl rfl rfl rfl rfl aC (by rfl) ir (by intro _ u hu;simp [fI] at hu;(repeat (first|(rcases hu with rfl|hu)|subst hu|rfl))) (by first|exact Nat.le_refl _|omega) kU (by first|omega|(unfold maxLen;omega)) (by simp only [Tryz.t3];omega) (fun afx n76 aaT m76 afj OG ab1=>?_);refine J7 ?_;refine LM.val (jV k Tryz.underlying26 Tryz.sizeOf3 rfl rfl om om) ?_;refine LM.tU (ys:=(out.map (fun (j:Nat)=>(j:Int))).drop k) (m:=m76) Tryz.underlying26 Tryz.typeInfo3 rfl rfl rfl rfl rfl rfl rfl OG (fun w hm hc hg=>(kH.l7 (fun _=>rfl) hm).drop (l:=k) om) ir (by intro _ u hu;simp [fI] at hu;(repeat (first|(rcases hu with rfl|hu)|subst hu|rfl))) (Nat.le_refl _) (fun p hp bo=>absurd bo (Nat.not_lt_of_le (Sl.ge OG p hp))) (by unfold maxLen;simp only [List.length_nil,List.length_append,List.length_take,List.length_drop,List.length_cons,List.length_map];omega) (by simp only [Tryz.t3,List.length_nil,List.length_append,List.length_take,List.length_drop,List.length_cons,List.length_map];omega) (fun VR n81 M5 m81 Wj V4 Z7=>?_);refine J9 ?_;refine aK (i+1,out.take k++i::out.drop k,VR,n81,M5,m81) ?_ ?_
  ·exact⟨by omega,by rw [lH,<-Bg];unfold Zr;rw [if_neg (fun q=>q.elim h2 h3),hdk],by rw [Wj];simp only [List.length_append,List.length_cons,List.length_map,List.length_take,List.length_drop,List.length_nil];omega,by rw [List.map_append,List.map_cons,List.map_take,List.map_drop];have q:=V4;rw [List.nil_append,List.append_assoc] at q;exact q⟩
  ·(dsimp only;omega)
 refine cM ?_;refine qL Tryz.results57 rfl fun w' ao aa aA=>?_;have eA:i=x.ts.length:=om;subst eA;subst Bg;exact⟨aa,mo,kH,ao.pick _⟩
theorem yf {x:aB} (c:Int) (w:World) (h:eQ n0 b s x m) (hI:MI k x) (hk:k<=700000000000) (ht:t<x.ts.length) (cm:n0<=w.heap.size) (hM:Mem w m):aD Tryz.prog 24 #[.pointer (some ⟨b,0,none⟩),.int .i64 (t:Nat),.int .i64 c] w (fq m (fun u m'=>u= .tuple #[]/\eQ n0 b s (qq x t c) m') w):=by
 obtain ⟨P,rfl,h⟩:=h;have uF:=h.nt;have gS:=h.st;have rB:=hI.tl;have BO:=hI.ev;obtain ⟨ig,ii,il,ip,ix,it,iv,ie,ic,iq⟩:=bK (ay (az b s x.now P) w.heap.size);have q0:=hI.tb t ht;have iC:=(hI.up ht (y:= {gT x t with co:=c}) ⟨q0.pr,q0.pc,q0.lf,q0.ti,q0.l4,q0.un⟩).fX 13 t (-1) c;refine aD.ak Tryz.func24 rfl Tryz.ntmps24 rfl (az b s x.now P++ []) ((gU (az b s x.now P))) aM ?_;refine cF ?_;refine LM.ja ({gT x t with co:=c}) (j:=3) aC ir Tryz.sizeOf3 rfl rfl rfl (by first|exact bE om|exact aH default cH) rfl (by decide) (by rfl) rfl (au aC) (fun mP dy eB=>?_)
 try rw [List.set_set] at dy
 have Jp:=ck eB aC;refine J4 ?_;have yW:eQ n0 b s (bR x t {gT x t with co:=c}) (az b s x.now {P with mt:=mP}):=gF.m {h with nt:=(by rw [aW];exact uF),st:=dy};refine J3 ?_;refine cU Tryz.func53 rfl (fun w hm hc hg=>cc 13 (t:Nat) (-1) c w yW (by show x.ev.length<=_;omega) (Nat.le_trans cm hc.size) (hm.pick _)) yW.bJ (au aP) ?_;rintro u17 W5 ⟨rfl,r9⟩ aaE;have i17:df (az b s x.now P) w.heap.size W5:=ar aP aaE;refine J4 ?_;refine cU Tryz.func27 rfl (fun w hm hc hg=>jZ w r9 iC (Nat.le_trans cm hc.size) (hm.pick _)) r9.bJ (au i17) ?_;rintro u19 K7 ⟨rfl,EK⟩ acV;refine J1 ?_;refine QM.leave (.inr rfl) [] Tryz.results24 rfl ?_;intro w' ao aa aA;exact bp (m':=K7) ⟨rfl,EK⟩ ao aX aa (ar i17 acV)
set_option maxHeartbeats 2000000 in
theorem xF {x:aB} (w:World) (h:eQ n0 b s x m) (hI:MI k x) (hk:k<=700000000000) (cm:n0<=w.heap.size) (hM:Mem w m):aD Tryz.prog 22 #[.pointer (some ⟨b,0,none⟩)] w (fq m (fun u m'=>u= .tuple #[]/\eQ n0 b s (vh x) m') w):=by
 obtain ⟨P,rfl,h⟩:=h;have rB:=hI.tl;have Xv:=vJ x x.ts.length;refine aD.ak Tryz.func22 rfl Tryz.ntmps22 rfl (az b s x.now P++ []) ((gU (az b s x.now P))) aM ?_;refine J3 ?_;refine LM.cS (oC Tryz.func57) (fun w hm hc hg=>G3 w h.m rB (hm.pick _)) (fun Oq n9 xo m9 hn9 Y5=>?_);refine cF ?_;refine af.aO (α:=Nat×aB×va) (fun ⟨i,y,Q⟩=>[(3,.int .i64 (i:Nat))]) [(0,_),(2,_)] (fun ⟨i,y,Q⟩=>az b s x.now Q++(m9++ [])) (fun ⟨i,y,Q⟩=>i<=(pq x).length/\y=vX x ((pq x).take i)/\gF n0 b s y Q/\df (az b s x.now P) w.heap.size (az b s x.now Q)) (fun ⟨i,y,Q⟩=>(pq x).length-i) ((0,x,P)) cA aX ⟨Nat.zero_le _,rfl,h,ay _ _⟩ ?_;rintro ⟨i,y,Q⟩ ⟨hi,hy,hQ,zR⟩;change af _ _ _ _ _ _ _ (az b s x.now Q++(m9++ [])) _ _ _;have hml:((pq x).map (fun (j:Nat)=>(j:Int))).length=(pq x).length:=List.length_map ..;have nV:=rI ((pq x).take i) x;rw [<-hy] at nV;have acJ:=hI.vX (l:=(pq x).take i) (fun t ht=>jf x _ t (List.mem_of_mem_take ht));rw [<-hy] at acJ;have z7:=List.length_take_le i (pq x);have anG:(pq x).length<=x.ts.length:=Xv;have js:MI (k+2560) y:=acJ.mono om;have qA:y.ts.length=x.ts.length:=nV.1;have mz:y.now=x.now:=nV.2.2.2;obtain ⟨ig,ii,il,ip,ix,it,iv,ie,ic,iq⟩:=bK zR;have qC:eQ n0 b s y (az b s x.now Q):=hQ.m;have gS:=hQ.st;have uF:=hQ.nt;have BO:=js.ev;refine J9 ?_;refine af.aj rfl (fun h1=>?_) (fun h1=>?_)
 ·obtain ⟨t,zl⟩:∃t:Nat,(pq x).getD i 0=t:=⟨_,rfl⟩;have ht:t<y.ts.length:=(by rw [qA,<-zl];exact jf x _ _ (List.mem_of_getElem? (aH 0 (show i<(pq x).length by omega))));have K1:((pq x).map (fun (j:Nat)=>(j:Int))).getD i 0=(t:Int):=(by rw [Em om,zl])
  refine J9 ?_;refine LM.rd (bt aC ir Tryz.isAgg3 rfl rfl (by first|exact bE om|exact aH 0 cH) (by rfl)) ?_;refine J6 ?_;rw [K1];refine J7 ?_;refine LM.rd (aL (j:=7) aC ir Tryz.isAgg41 rfl rfl (by first|exact bE om|exact aH default cH) rfl (by rfl)) ?_;refine LM.val (kL (b:=0#64) rfl rfl) ?_;refine J2 ?_;refine af.aj rfl (fun h2=>?_) (fun h2=>?_)
  ·refine J9 ?_;refine aK (i+1,oo y t,Q) ?_ ?_
   ·exact⟨by omega,by rw [bQ 0 om,xk,<-hy,zl],by rw [show oo y t=y from if_pos h2];exact hQ,zR⟩
   ·(dsimp only;omega)
  refine cM ?_;refine LM.rd (aL (j:=6) aC ir Tryz.isAgg3 rfl rfl (by first|exact bE om|exact aH default cH) rfl (by rfl)) ?_;refine J3 ?_;refine af.aj rfl (fun h3=>?_) (fun h3=>?_)
  ·refine J4 ?_;refine cU Tryz.func58 rfl (fun w hm hc hg=>qS t w qC ht js.vl om (Nat.le_trans cm hc.size) (hm.pick _)) qC.bJ (au zR) ?_;rintro u40 X4 ⟨rfl,EL⟩ oS;obtain ⟨P1,lD,EL⟩:=EL;rw [show (dH y t).now=x.now from mz] at lD;subst lD;have i40:=ar zR oS;refine dc ?_;refine aK (i+1,oo y t,P1) ?_ ?_
   ·exact⟨by omega,by rw [bQ 0 om,xk,<-hy,zl],by rw [show oo y t=dH y t by unfold oo;rw [if_neg h2,if_pos h3]];exact EL,i40⟩
   ·(dsimp only;omega)
  have Ub:=(js.tb t ht).l4 (((js.tb t ht).un h2).resolve_left h3);obtain ⟨l,tF⟩:∃l:Nat,(y.ts.getD t default).lk=(l:Nat):=⟨(gT y t).lk.toNat,(Int.toNat_of_nonneg Ub.1).symm⟩;have aiP:(gT y t).lk=(l:Int):=tF;have eE:l<y.lk.length:=(by rw [js.ll];omega);have hL:=js.li l eE;have hLh:=hL.hl;have vV:=hQ.nl;have u2:=hQ.bl;have jL:=hQ.sl;have hfi:oo y t=cT (dH (cC (bh (ba (aY y l (fR (gL y l) t)) 8 t l 10) t) t) t) l (oc (gL y l) t):=(by unfold oo;rw [if_neg h2,if_neg h3,aiP];rfl);have hIp:=(js.aY (l:=l) (hL.lv t)).fX 8 t l 10;have aoN:=js.tl;refine dc ?_;refine LM.rd (aL (j:=8) aC ir Tryz.isAgg3 rfl rfl (by first|exact bE om|exact aH default cH) rfl (by rfl)) ?_;refine J5 ?_;rw [tF];refine J6 ?_;refine LM.rd (bt aC ir Tryz.isAgg71 rfl rfl (by first|exact bE om|exact aH default cH) (by rfl)) ?_;refine J1 ?_;refine cU Tryz.func59 rfl (fun w hm hc hg=>Hs hQ.sq eE (hm.pick Q.mq) (fun m hr hM=>tH (k:=n0) (t:Nat) w hL.w hr (Nat.le_trans cm hc.size) (by show (gL y l).ho.length<=900;omega) (Nat.le_trans cm hc.size) hM)) (hQ.sq.bJ EZ) (au iq) ?_;rintro u58 Y6 ⟨mr,CC,⟨adr,WW,rfl,BR⟩,rfl,zM⟩ s6;refine LM.assoc ?_;have i58:df (az b s x.now P) w.heap.size CC:=fun p hp=>ar iq s6 p (List.mem_append_right _ hp);have yW:eQ n0 b s (aY y l (fR (gL y l) t)) (az b s x.now {Q with mq:=CC}):=gF.m (hn:=mz) {hQ with nl:=(by rw [cj];exact vV),bl:=(by rw [cj];exact u2),sq:=zM};refine cM ?_;refine cU Tryz.func53 rfl (fun w hm hc hg=>cc 8 (t:Nat) (l:Nat) 10 w yW (by show y.ev.length<=_;omega) (Nat.le_trans cm hc.size) (hm.pick _)) yW.bJ (au aP) ?_;rintro u64 m64 ⟨rfl,vZ⟩ DD;obtain ⟨P1,lD,vZ⟩:=vZ;rw [show (ba (aY y l (fR (gL y l) t)) 8 t l 10).now=x.now from mz] at lD;subst lD;have i64:df (az b s x.now P) w.heap.size (az b s x.now P1):=ar aP DD;clear ig ii il ip ix it iv ie ic iq;obtain ⟨ig,ii,il,ip,ix,it,iv,ie,ic,iq⟩:=bK i64;have E3:Sl KN 81 12 n0 y.ts (.slice P1.at' P1.nt P1.ct) P1.mt:=vZ.st;have yU:P1.nt=y.ts.length:=vZ.nt;have X9:Sl fU 41 1 n0 y.g (.slice P1.ax P1.nx P1.cx) P1.mx:=vZ.sx;have aqo:=vZ.nx;have ah2:y.g.length=64:=vZ.gl;have BS:0<=(y.ts.getD t default).pc/\(y.ts.getD t default).pc<=((k+2560:Nat):Int):=(js.tb t ht).pc;refine dc ?_;refine LM.rd (aL (j:=4) aC ir Tryz.isAgg3 rfl rfl (by first|exact bE om|exact aH default cH) rfl (by rfl)) ?_;refine J3 ?_;refine LM.ja (oM (gT y t)) (j:=4) aC ir Tryz.sizeOf3 rfl rfl rfl (by first|exact bE om|exact aH default cH) rfl (by decide) (by rfl) rfl (au aC) (fun mP dy eB=>?_)
  try rw [List.set_set] at dy
  have Jp:=ck eB aC;refine gz ?_;refine LM.ja (0#64) (j:=0) aC ir Tryz.sizeOf41 rfl rfl rfl (by first|exact bE om|exact aH 0#64 cH) rfl (by decide) (by rfl) rfl (au aC) (fun kF gM kQ=>?_)
  try rw [List.set_set] at gM
  have K0:=ck kQ aC;refine J4 ?_;have yx:eQ n0 b s (cC (bh (ba (aY y l (fR (gL y l) t)) 8 t l 10) t) t) (az b s x.now {P1 with mt:=mP,mx:=kF}):=gF.m (hn:=mz) {vZ with nt:=(by show _=(y.ts.set t _).length;rw [List.length_set];exact yU),st:=dy,gl:=(by show (y.g.set t _).length=64;rw [List.length_set];exact ah2),sx:=gM};have kq:=(hIp.inc (t:=t) ht).cut (t:=t) (by show t<(y.ts.set _ _).length;rw [List.length_set];exact ht);have ZC:t<(cC (bh (ba (aY y l (fR (gL y l) t)) 8 t l 10) t) t).ts.length:=(by show t<(y.ts.set _ _).length;rw [List.length_set];exact ht)
  refine J2 ?_;refine cU Tryz.func58 rfl (fun w hm hc hg=>qS t w yx ZC kq.vl (by have:=kq.ev;omega) (Nat.le_trans cm hc.size) (hm.pick _)) yx.bJ (au aP) ?_;rintro u87 m87 ⟨rfl,h87⟩ abd;have i87:df (az b s x.now P) w.heap.size m87:=ar aP abd;refine J6 ?_;refine cU Tryz.func60 rfl (fun w hm hc hg=>mI (l:=l) w h87 (kq.EJ ZC) om (by show l<(y.lk.set _ _).length;rw [List.length_set];exact eE) (fun u hu=>by show iz ((y.ts.set _ _).set _ _).length u;rw [List.length_set,List.length_set];exact hL.i.oc t u hu) (Nat.le_trans (pU ..) hL.w.w8) rfl BR (Nat.le_trans cm hc.size) (sm hm)) h87.bJ (au i87) ?_;rintro u91 m91 ⟨rfl,SZ⟩ PT;obtain ⟨P2,TN,SZ⟩:=SZ;rw [(cQ ..).2.2.2,show (dH (cC (bh (ba (aY y l (fR (gL y l) t)) 8 t l 10) t) t) t).now=x.now from mz] at TN;subst TN;have i91:=ar i87 PT;refine J8 ?_;refine aK (i+1,oo y t,P2) ?_ ?_
  ·exact⟨by omega,by rw [bQ 0 om,xk,<-hy,zl],by rw [hfi];exact SZ,i91⟩
  ·(dsimp only;omega)
 have eA:i=(pq x).length:=om;subst eA;rw [List.take_length] at hy;refine J7 ?_;refine cU Tryz.func27 rfl (fun w hm hc hg=>jZ w qC js (Nat.le_trans cm hc.size) (hm.pick _)) qC.bJ (au zR) ?_;rintro u93 m93 ⟨rfl,h93⟩ abX;refine J1 ?_;refine QM.leave (.inr rfl) [] Tryz.results22 rfl ?_;intro w' ao aa aA;exact bp (m':=m93) ⟨rfl,by rw [show vh x=ki y by rw [hy];rfl];exact h93⟩ ao aX aa (ar zR abX)
end Go.Eng
namespace Go.Eng
open Go Go.RowKit
variable {out:List Act} {xs:List Int} {ws:List bA} {b i j k n0 t:Nat} {m:ab} {o:bO} {s:dU}
theorem NG {L:bf} {t u:Int} (h:u∈dI L t):bj L t=true/\∃w∈L.wt,w.who=u:=by
  unfold dI at h;split at h
  · next e=>
    unfold jH at h;split at h
    ·cases h
    ·obtain ⟨w,hw,e2,_⟩:=rG h;exact⟨e.1,w,hw,e2⟩
  ·cases h
theorem AP {L:bf} (hL:qH L) {t u:Int} (h:u∈dI L t):u≠t:=by
  obtain ⟨h1,w,hw,rfl⟩:=NG h;obtain ⟨g,hg,e⟩:=List.any_eq_true.1 h1;exact fun q=>hL.dj w hw g hg (q.trans (of_decide_eq_true e).symm)
theorem abu {x:aB} (h:i≠j) (y:iy):gT (bR x i y) j=gT x j:=by
  show (x.ts.set i y).getD j default=_
  rw [List.getD_eq_getElem?_getD,List.getElem?_set,if_neg h,<-List.getD_eq_getElem?_getD]
theorem N2 (l:Nat) (x:aB) {u:Int} (h:u.toNat≠t):gT (oJ l x u) t=gT x t:=by
  show ((x.ts.set u.toNat _).set u.toNat _).getD t default=_
  rw [List.set_set];exact abu (x:=x) h _
theorem qY (l:Nat) {t:Nat} :∀(to:List Int) (x:aB),(∀u∈to,u.toNat≠t)->gT (n4 l x to) t=gT x t
  | [],x,_=>rfl
  |u::to,x,h=>by
    have ih:=qY l to (oJ l x u) (fun v hv=>h v (List.mem_cons_of_mem _ hv))
    unfold n4 at ih ⊢
    rw [List.foldl_cons,ih,N2 l x (h u (List.mem_cons_self ..))]
theorem abB {x:aB} (ht:t<x.ts.length):gT (bh x t) t=oM (gT x t):=(dB ht _ t).trans (if_pos rfl)
theorem Ej (l:Nat) {b:Int} :∀(to:List Int) (x:aB),bN x.cs b<x.cs.length->bN (n4 l x to).cs b<(n4 l x to).cs.length
  | [],x,h=>h
  |u::to,x,h=>by
    have ih:=Ej l (b:=b) to (oJ l x u) (BZ _ _ _ _ h)
    unfold n4 at ih ⊢
    rw [List.foldl_cons];exact ih
theorem LR {x:aB} (h:MI k x) {c:Nat} (ht:t<x.ts.length) (ho:Lb x.s o) (hf:(eF x t c o).2=false):
    eV o.k=false/\∃v,(eF x t c o).1=bh v t/\(gT v t).pr=(gT x t).pr/\(gT v t).pc=(gT x t).pc/\v.s=x.s/\x.ts.length<=v.ts.length/\(bN x.cs t<x.cs.length->bN v.cs t<v.cs.length):=by
  have hk:=ho.k
  have hp:¬(o.k=1\/o.k=7\/o.k=8\/o.k=11):=fun q=>by
    rcases q with e|e|e|e
    ·rw [Zm e] at hf;cases hf
    ·rw [VP e] at hf;cases hf
    ·rw [Y9 e] at hf;cases hf
    ·rw [JF e] at hf;cases hf
  refine ⟨by unfold eV;rw [decide_eq_false om,decide_eq_false om,decide_eq_false om,decide_eq_false om];rfl,?_⟩
  by_cases uB:2<=o.k/\o.k<=5
  · have hl:=ho.l ⟨uB.1,by omega⟩
    obtain ⟨l,ft⟩:∃l:Nat,o.a=(l:Nat):=⟨o.a.toNat,(Int.toNat_of_nonneg hl.1).symm⟩
    rw [AE uB] at hf ⊢
    by_cases he:cV (gL x l) t (tq x t l o)=0
    ·rw [KM ft he];exact⟨_,rfl,rfl,rfl,rfl,Nat.le_refl _,id⟩
    · by_cases h2:lG x t o≠0
      ·rw [Ko ft he h2];exact⟨_,rfl,rfl,rfl,rfl,Nat.le_refl _,id⟩
      ·rw [Fy ft he h2] at hf;cases hf
  by_cases h6:o.k=6
  · have hl:=ho.l om
    by_cases he:kb (gL x o.a.toNat) t≠0
    ·rw [Ks h6 he];exact⟨_,rfl,rfl,rfl,rfl,Nat.le_refl _,id⟩
    · have hL:=h.li o.a.toNat (by have:=h.ll;omega)
      have ec:∀u∈dI (gL x o.a.toNat) t,u.toNat≠t:=fun u hu q=>by
        have h1:=AP hL.w.toqH hu;have h2:=hL.i.dI t u hu
        unfold iz at h2;omega
      have hg:=qY o.a.toNat (dI (gL x o.a.toNat) t) (ba (aY x o.a.toNat (dP (gL x o.a.toNat) t)) 5 t o.a 0) ec;have hs:=cQ o.a.toNat (ba (aY x o.a.toNat (dP (gL x o.a.toNat) t)) 5 t o.a 0) (dI (gL x o.a.toNat) t);rw [KI h6 he];refine ⟨_,rfl,by rw [show gT (cT _ _ _) t=gT (n4 _ _ _) t from rfl,hg];rfl,by rw [show gT (cT _ _ _) t=gT (n4 _ _ _) t from rfl,hg];rfl,hs.2.2.1,by rw [hs.1];exact Nat.le_refl _,fun q=>Ej o.a.toNat _ _ q⟩
  by_cases h9:o.k=9
  · rw [VX h9]
    refine ⟨_,rfl,?_⟩
    split
    · have e:gT (pk x o.a (gT x t).gr (gT x t).we c) t=gT x t:=by
        show (x.ts++ [_]).getD t default=_
        rw [List.getD_eq_getElem?_getD,List.getElem?_append_left ht,<-List.getD_eq_getElem?_getD]
      exact⟨by rw [e],by rw [e],rfl,by show _<=(x.ts++ [_]).length;rw [List.length_append];omega,fun q=>BZ _ _ _ _ q⟩
    ·exact⟨rfl,rfl,rfl,Nat.le_refl _,id⟩
  have je:o.k=10:=by omega
  rw [I0 je];have e:gT (bR x t {gT x t with we:=o.a}) t= {gT x t with we:=o.a} :=(dB ht _ t).trans (if_pos rfl);exact⟨_,rfl,by show (gT (bR x t _) t).pr=_;rw [e],by show (gT (bR x t _) t).pc=_;rw [e],rfl,by show _<=(x.ts.set _ _).length;rw [List.length_set];exact Nat.le_refl _,id⟩
theorem MI.eF {k:Nat} {x:aB} (h:MI k x) {t c:Nat} (ht:t<x.ts.length) (hc:c<x.cs.length) (Zl:bN x.cs t<x.cs.length) {o:bO} (ho:Lb x.s o):MI (k+300) (eF x t c o).1:=by
  have hk:=ho.k;have q:=h.tb t ht
  by_cases h1:o.k=1
  ·rw [Zm h1];exact(h.cmp ht (ho.c h1)).mono om
  by_cases uB:2<=o.k/\o.k<=5
  ·rw [AE uB];exact(h.UF ht (by have:=ho.l ⟨uB.1,by omega⟩;have:=h.ll;omega)).mono om
  by_cases h6:o.k=6
  · have hl:=ho.l om
    have hL:=h.li o.a.toNat (by have:=h.ll;omega)
    by_cases he:kb (gL x o.a.toNat) t≠0
    ·rw [Ks h6 he];exact((h.fX _ _ _ _).inc (t:=t) ht).mono om
    · rw [KI h6 he]
      have hs:=cQ o.a.toNat (ba (Go.Eng.aY x o.a.toNat (dP (gL x o.a.toNat) t)) 5 t o.a 0) (dI (gL x o.a.toNat) t);exact((((h.aY (l:=o.a.toNat) (hL.yF t)).fX 5 t o.a 0).lV o.a.toNat (hL.i.dI t) (Nat.le_trans (k4 ..) hL.w.w8)).inc (t:=t) (by rw [hs.1];exact ht)).mono om
  by_cases h7:o.k=7
  · rw [VP h7]
    exact(((h.fX 9 t (-1) o.a).qut t).mono (show k+1<=k+2 by omega)).upQ (t:=t) ht (y:= {gT x t with st:=3,un:=x.now+BitVec.ofInt 64 o.a,pc:=(gT x t).pc+1}) ⟨q.pr,by have:=q.pc;show 0<=(gT x t).pc+1/\(gT x t).pc+1<=_;omega,q.lf,by have:=q.ti;show 0<=(gT x t).ti/\(gT x t).ti<=_;omega,fun e=>(by cases e),fun _=> .inl rfl⟩ (fun c hc hk=>absurd rfl (su h.ci.wf (by rw [<-pY x.cs t];exact hc) hk).2) |>.mono om
  by_cases h8:o.k=8
  · rw [Y9 h8]
    have hu:(gT x t).un=0#64:=h.iq _ Zl t (dm Zl);exact(((h.fX 10 t (-1) c).back hc).mono (show k+1<=k+2 by omega)).up (t:=t) ht (y:= {gT x t with st:=1,pc:=(gT x t).pc+1}) ⟨q.pr,by have:=q.pc;show 0<=(gT x t).pc+1/\(gT x t).pc+1<=_;omega,q.lf,by have:=q.ti;show 0<=(gT x t).ti/\(gT x t).ti<=_;omega,fun e=>(by cases e),fun e=>absurd hu e⟩ (.inr rfl) |>.mono om
  by_cases h9:o.k=9
  · rw [VX h9]
    split
    · next e=>
      unfold jE at e;simp only [Bool.and_eq_true,decide_eq_true_eq] at e
      exact((h.QJ _ _ _ _ (ho.p h9) e.2).inc (t:=t) (by show t<(x.ts++ [_]).length;rw [List.length_append];omega)).mono om
    ·exact((h.fX _ _ _ _).inc (t:=t) ht).mono om
  by_cases je:o.k=10
  · rw [I0 je]
    exact(((h.up ht (y:= {gT x t with we:=o.a}) ⟨q.pr,q.pc,q.lf,q.ti,q.l4,q.un⟩).fX 14 t (-1) o.a).inc (t:=t) (by show t<(x.ts.set _ _).length;rw [List.length_set];exact ht)).mono om
  ·rw [JF om];exact(h.die ht).mono om
theorem OZ {xs:List bO} {ls:List jD} {bV:Int} (h:(ES true xs ls bV).2=0):xs.any (fun o=>eV o.k)=true:=by
  unfold ES at h
  split at h
  · split at h
    · rename_i i hi
      have:=List.find?_some hi;simp only [decide_eq_true_eq] at this;exact absurd h this
    · split at h
      ·cases h
      · rename_i hq
        simpa using hq
  ·cases h
def Jw (x:aB) (t:Nat):Nat:=(if ((iu x t).xs.drop (gT x t).pc.toNat).any (fun o=>eV o.k)=true then 0 else (iu x t).xs.length+1)+((iu x t).xs.length-(gT x t).pc.toNat)
theorem MI.Rn {x:aB} (h:MI k x) {c:Nat} (ht:t<x.ts.length) (hc:c<x.cs.length) (Zl:bN x.cs t<x.cs.length):MI (k+300) (fb x t c).1:=by
  obtain ⟨z,hz⟩:=Uv (x:=x) ht
  by_cases hd:((iu x t).xs.length:Int)<=(gT x t).pc/\(iu x t).fv=false
  ·rw [rL hd.1 hd.2];exact(h.die ht).mono om
  · have zr:=C5 h ht
    have pO:=h.op ht zr.1;rw [hz,dB ht,if_pos rfl] at pO;rw [Fa hd ht hz rfl];have h1:=h.iP ht;rw [hz] at h1;exact h1.eF (by rw [aW];exact ht) hc Zl pO
theorem qi {x:aB} (h:MI k x) {c:Nat} (ht:t<x.ts.length) (Zl:bN x.cs t<x.cs.length) (hf:(fb x t c).2=false):
    Jw (fb x t c).1 t<Jw x t/\t<(fb x t c).1.ts.length/\bN (fb x t c).1.cs t<(fb x t c).1.cs.length/\(fb x t c).1.s=x.s:=by
  obtain ⟨z,hz⟩:=Uv (x:=x) ht
  by_cases hd:((iu x t).xs.length:Int)<=(gT x t).pc/\(iu x t).fv=false
  ·rw [rL hd.1 hd.2] at hf;cases hf
  have zr:=C5 h ht;have pO:=h.op ht zr.1;have UK:=U2 (x:=x) ht;have BS:=(h.tb t ht).pc;have h1:=h.iP ht;rw [hz] at h1 pO zr UK;rw [dB ht,if_pos rfl] at pO zr;rw [Fa hd ht hz rfl] at hf ⊢;obtain ⟨hp,v,e,e1,e2,e3,e4,e5⟩:=LR h1 (t:=t) (c:=c) (by rw [aW];exact ht) pO hf;have htv:t<v.ts.length:=Nat.lt_of_lt_of_le (by rw [aW];exact ht) e4;have Ck:gT (bh v t) t=oM (gT v t):=abB htv
  have hpv:iu (bh v t) t=iu x t:=by
    unfold iu;rw [Ck,show (oM (gT v t)).pr=(gT v t).pr from rfl,e1,show (bh v t).s=x.s from e3];exact UK
  have hzz:(gT (bR x t z) t).pc=z.pc:=by rw [dB ht,if_pos rfl]
  rw [e];refine ⟨?_,by rw [show (bh v t).ts.length=v.ts.length from aW ..];exact htv,e5 Zl,e3⟩;have ajs:(gT (bh v t) t).pc.toNat=z.pc.toNat+1:=by rw [Ck,show (oM (gT v t)).pc=(gT v t).pc+1 from rfl,e2,hzz];omega
  unfold Jw
  rw [hpv,ajs]
  generalize JP:(iu x t).xs=xs at*
  have C4:xs.drop z.pc.toNat=xs.getD z.pc.toNat default::xs.drop (z.pc.toNat+1):=by
    rw [List.drop_eq_getElem_cons zr.1];congr 1;rw [List.getD_eq_getElem?_getD,List.getElem?_eq_getElem zr.1];rfl
  have aa0:(xs.drop z.pc.toNat).any (fun o=>eV o.k)=(xs.drop (z.pc.toNat+1)).any (fun o=>eV o.k):=by rw [C4,List.any_cons,hp,Bool.false_or]
  by_cases HA:(xs.length:Int)<=(gT x t).pc
  · have hfv:(iu x t).fv=true:=by
      cases hb:(iu x t).fv with
      |true=>rfl
      |false=>exact absurd ⟨HA,hb⟩ hd
    have hz0:z.pc=0:=by
      have:=hz;unfold iP at this;rw [JP,if_pos HA] at this;have q:=congrArg (fun y=>(gT y t).pc) this;simp only at q;rw [dB ht,dB ht,if_pos rfl,if_pos rfl] at q;exact q.symm
    have hpr:=(h.tb t ht).pr;have hck:=(gu h.ms).2.2 (iu x t) (List.mem_of_getElem? (aH default (show (gT x t).pr.toNat<x.s.ps.length by omega)))
    have hpa:xs.any (fun o=>eV o.k)=true:=by
      rw [hfv,JP] at hck;exact OZ hck
    have hA:((xs.drop (z.pc.toNat+1)).any (fun o=>eV o.k))=true:=by rw [<-aa0,hz0];exact hpa
    have hB:¬((xs.drop (gT x t).pc.toNat).any (fun o=>eV o.k))=true:=by rw [List.drop_of_length_le om];simp
    rw [if_pos hA,if_neg hB];omega
  · have hzp:z.pc=(gT x t).pc:=by
      have:=hz;unfold iP at this;rw [JP,if_neg HA] at this;have q:=congrArg (fun y=>(gT y t).pc) this;rw [dB ht,if_pos rfl] at q;exact q.symm
    rw [<-hzp,aa0];omega
theorem MI.cur {k:Nat} {x:aB} (h:MI k x) {c:Nat} (hc:c<x.cs.length) (h0:0<=(qg x.cs c).cur):cB (qg x.cs c) (qg x.cs c).cur/\(qg x.cs c).cur.toNat<x.ts.length/\(((qg x.cs c).cur.toNat:Nat):Int)=(qg x.cs c).cur:=by
  have hk:=(h.ci.wf.wf c hc).ix h0;have:=h.ci.id c hc _ hk;exact⟨hk,by omega,by omega⟩
theorem pX {q:Qm} (h:KV q=true):0<=q.cur:=by
  unfold KV at h;split at h
  ·next e=>exact e.1
  ·cases h
theorem v3 {q:Qm} (hw:nJ q) (h:q.cur<0) (hl:0<q.l.length):0<=fN q/\cB q (fN q)/\ru q=nP q (fN q):=by
  have hc:=hw.Sd om;cases e:eN q with
  |nil=>
    have:=(Mw hw om).1 e;rw [this] at hl;cases hl
  |cons t l=>
    obtain ⟨e1,e2⟩:=tB hw hc e;have ht:=(kc hw e).1;rw [e1];exact⟨hw.pos t ht,jx.2 ⟨t,ht,rfl⟩,by rw [e2]⟩
section
variable {k:Nat} {x:aB} (h:MI k x) {c:Nat} (hc:c<x.cs.length)
include h hc
theorem MI.tsk {q:Qm} {a:Int} (ha:cB (qg x.cs c) a) {y:iy} (hq:CI x.ts.length k (x.cs.set c q)) (he:q.l.map (·.id)=(qg x.cs c).l.map (·.id)) (hy:yz x.s k y) (hu:y.un=(gT x a.toNat).un):MI k (bR (fZ x c q) a.toNat y):=by
  have hid:=h.ci.id c hc a ha;have h0:=(h.ci.wf.wf c hc).pos _ (eP ha).1;rw [(eP ha).2] at h0;have h1:MI k (fZ x c q):=h.E6 hq (List.length_set ..) (fun d hd b hb=> .inl ⟨d,hd,jr hc he hb⟩);exact h1.up (t:=a.toNat) (by show a.toNat<x.ts.length;omega) hy (.inr hu)
theorem yz.TX {s:ee} {t:iy} (q:yz s k t) (hu:t.un=0#64) {v:Int} (hv:v≠4):yz s k {t with st:=v} :=⟨q.pr,q.pc,q.lf,q.ti,fun e=>absurd e hv,fun e=>absurd hu e⟩
theorem MI.th:MI (k+1) (th x c):=by
  unfold Go.Eng.th;split
  · next e=>
    obtain ⟨h1,h2,h3⟩:=h.cur hc (pX e);exact(h.tsk hc h1 (h.ci.back hc) rfl (y:= {gT x (qg x.cs c).cur.toNat with st:=1}) (yz.TX h hc (h.tb _ h2) (h.iq c hc _ h1) (by decide)) rfl).fX _ _ _ _
  ·exact h.mono (Nat.le_succ _)
theorem MI.rV:MI (k+1) (rV x c):=by
  unfold Go.Eng.rV;split
  · next e=>
    obtain ⟨h0,h1,h2⟩:=v3 (h.ci.wf.wf c hc) e.1 e.2;have hid:=h.ci.id c hc _ h1;exact(h.tsk hc h1 (h.ci.pik hc) (by rw [h2];rfl) (y:= {gT x (fN (qg x.cs c)).toNat with st:=2}) (yz.TX h hc (h.tb _ om) (h.iq c hc _ h1) (by decide)) rfl).fX _ _ _ _
  ·exact h.mono (Nat.le_succ _)
end
theorem MI.run {t c:Nat} :∀{f k:Nat} {x:aB},MI k x->t<x.ts.length->c<x.s.cr.toNat->bN x.cs t<x.cs.length->MI (k+300*f) (oA t c f x)
  |0,k,x,h,_,_,_=>h
  |f+1,k,x,h,ht,hc,hq=>by
    have vH:c<x.cs.length:=by have:=h.ce;omega
    have h1:=h.Rn ht vH hq
    unfold oA
    split
    ·exact h1.mono om
    · next e=>
      obtain ⟨e1,e2,e3,e4⟩:=qi h ht hq (c:=c) (by simpa using e);exact(MI.run h1 e2 (by rw [e4];exact hc) e3).mono om
theorem Vy {c:Nat} {f:Nat} {x:aB} (hf:(fb x t c).2=true):oA t c (f+1) x=(fb x t c).1:=if_pos hf
theorem X0 {c:Nat} {f:Nat} {x:aB} (hf:¬(fb x t c).2=true):oA t c (f+1) x=oA t c f (fb x t c).1:=if_neg hf
theorem R3 {x:aB} (h:MI k x) (ht:t<x.ts.length):Jw x t<64:=by
  have hp:=(h.tb t ht).pr;have hl:=yd h.ms (p:=iu x t) (List.mem_of_getElem? (aH default (show (gT x t).pr.toNat<x.s.ps.length by omega)))
  unfold Jw;split<;>omega
theorem ZQ (x:aB) (t:Nat) (o:bO):(mb x t o).1.s=x.s:=by unfold mb;split;rfl;split;rfl;rfl
theorem ZN (x:aB) (t:Nat) (a:Int):(oW x t a).s=x.s:=by unfold oW;split<;>rfl
theorem XJ {x:aB} {c:Nat}:(eF x t c o).1.s=x.s:=by
  unfold eF
  split
  ·exact ZN ..
  split
  ·exact ZQ ..
  split
  · split
    ·rfl
    ·exact(cQ o.a.toNat (ba (aY x o.a.toNat (dP (gL x o.a.toNat) t)) 5 t o.a 0) (dI (gL x o.a.toNat) t)).2.2.1
  split
  ·rfl
  split
  ·rfl
  split
  ·show (if _ then _ else _:aB).s=_;split<;>rfl
  split
  ·rfl
  split
  ·exact(k6 x t).2.2.1
  ·rfl
theorem TR (x:aB) (t c:Nat):(fb x t c).1.s=x.s:=by
  unfold fb;split
  ·exact(k6 x t).2.2.1
  ·exact XJ.trans (vG).2.2.1
theorem Uy (t c:Nat):∀(f:Nat) (x:aB),(oA t c f x).s=x.s
  |0,x=>rfl
  |f+1,x=>by unfold oA;split;exact TR x t c;exact(Uy t c f _).trans (TR x t c)
theorem qJ (x:aB) (c:Nat):(th x c).s=x.s:=by unfold th;split<;>rfl
theorem z5 (x:aB) (c:Nat):(rV x c).s=x.s:=by unfold rV;split<;>rfl
theorem adK (x:aB) (c:Nat):(tA x c).s=x.s:=by
  unfold tA;split
  ·rfl
  ·exact Uy _ _ _ _
def zX (x:aB) (c:Nat):aB:=bR (fZ x c (dW (qg x.cs c))) (qg x.cs c).cur.toNat {gT x (qg x.cs c).cur.toNat with ti:=(gT x (qg x.cs c).cur.toNat).ti+1}
theorem MI.zX {k:Nat} {x:aB} (h:MI k x) {c:Nat} (hc:c<x.cs.length) (h0:0<=(qg x.cs c).cur):MI (k+1) (zX x c)/\(qg x.cs c).cur.toNat<(Go.Eng.zX x c).ts.length/\bN (Go.Eng.zX x c).cs (qg x.cs c).cur.toNat<(Go.Eng.zX x c).cs.length:=by
  obtain ⟨h1,h2,h3⟩:=h.cur hc h0
  have hid:(dW (qg x.cs c)).l.map (·.id)=(qg x.cs c).l.map (·.id):=by
    unfold dW;rw [if_pos h0];exact gC h1 (iZ h1).1
  have h':=h.mono (Nat.le_succ k);have q:=h.tb _ h2;refine ⟨h'.tsk hc h1 (h.ci.tick hc) hid ⟨q.pr,by have:=q.pc;show 0<=(gT x _).pc/\(gT x _).pc<=_;omega,q.lf,by have:=q.ti;show 0<=(gT x _).ti+1/\(gT x _).ti+1<=_;omega,q.l4,q.un⟩ rfl,by show _<(x.ts.set _ _).length;rw [List.length_set];exact h2,?_⟩;refine Classical.byContradiction fun n=>?_;have iT:c<(Go.Eng.zX x c).cs.length:=by show c<(x.cs.set _ _).length;rw [List.length_set];exact hc
  refine wK n iT ?_
  show cB (qg (x.cs.set c _) c) _
  rw [bG hc,if_pos rfl,h3];exact(qh hid _).2 h1
theorem MI.tA {k:Nat} {x:aB} (h:MI k x) {c:Nat} (hc:c<x.cs.length):MI (k+19300) (tA x c):=by
  unfold Go.Eng.tA;split
  · have h':=h.mono (show k<=k+19300 by omega)
    exact {h' with
      il:=by show (x.idle.set _ _).length=_;rw [List.length_set];exact h.il
      ib:=fun n hn=>by
        rcases List.mem_or_eq_of_mem_set hn with q|rfl
        ·exact h'.ib n q
        · have:=h.ib _ (List.mem_of_getElem? (aH 0 (show c<x.idle.length by rw [h.il];exact hc)))
          omega}
  · next e=>
    obtain ⟨h1,h2,h3⟩:=h.zX hc om;exact(MI.run h1 h2 (by have:=h.ce;show c<x.s.cr.toNat;omega) h3).mono om
theorem MI.TC {x:aB} (h:MI k x) {c:Nat} (hc:c<x.cs.length):MI (k+19400) (uy x c):=by
  have h0:MI k {x with now:=x.now+1#64} := {h with}
  have hl:∀y:aB,∀j,MI j y->y.s=x.s->c<y.cs.length:=fun y j hy e=>by have h1:=hy.ce;have h2:=h.ce;rw [e] at h1;omega
  have h1:=h0.th hc;have h2:=h1.rV (c:=c) (hl _ _ h1 (qJ ..));have h3:=h2.tA (c:=c) (hl _ _ h2 ((z5 ..).trans (qJ ..)));exact(h3.mono om).C0
theorem RH (x:aB) (t:Nat) (o:bO):(mb x t o).1.now=x.now:=by unfold mb;split;rfl;split;rfl;rfl
theorem S2 (x:aB) (t:Nat) (a:Int):(oW x t a).now=x.now:=by unfold oW;split<;>rfl
theorem Pq {x:aB} {c:Nat}:(eF x t c o).1.now=x.now:=by
  unfold eF
  split
  ·exact S2 ..
  split
  ·exact RH ..
  split
  · split
    ·rfl
    ·exact(cQ o.a.toNat (ba (aY x o.a.toNat (dP (gL x o.a.toNat) t)) 5 t o.a 0) (dI (gL x o.a.toNat) t)).2.2.2
  split
  ·rfl
  split
  ·rfl
  split
  ·show (if _ then _ else _:aB).now=_;split<;>rfl
  split
  ·rfl
  split
  ·exact(k6 x t).2.2.2
  ·rfl
theorem v8 (x:aB) (t c:Nat):(fb x t c).1.now=x.now:=by
  unfold fb;split
  ·exact(k6 x t).2.2.2
  ·exact Pq.trans (vG).2.2.2.1
theorem DU (x:aB):(ki x).s=x.s:=(j5 x).2.2.1
theorem TF (x:aB) (c:Nat):(uy x c).s=x.s:=(DU _).trans ((adK ..).trans ((z5 ..).trans (qJ ..)))
theorem oT (x:aB) (n:Nat):xh x (n+1)=uy (xh x n) n:=by unfold xh;rw [List.range_succ,List.foldl_append];rfl
theorem uK (x:aB):∀n,(xh x n).s=x.s
  |0=>rfl
  |n+1=>by rw [oT];exact(TF ..).trans (uK x n)
theorem MI.len {k:Nat} {x:aB} (h:MI k x):x.cs.length=x.s.cr.toNat/\x.cs.length<=4:=⟨by have:=h.ce;omega,h.ci.wf.len.2⟩
theorem MI.Fw {k:Nat} {x:aB} (h:MI k x):∀{n:Nat},n<=x.s.cr.toNat->MI (k+19400*n) (xh x n)
  |0,_=>h
  |n+1,hn=>by
    have h1:=h.Fw (n:=n) om;rw [oT];exact(h1.TC (by rw [h1.len.1,uK];omega)).mono om
theorem T4 (x:aB):(vh x).s=x.s:=(DU _).trans (rI ..).2.2.1
theorem MI.rou {x:aB} (h:MI k x):MI (k+100000) (AM x):=by
  have h4:=h.len;exact((h.Fw (Nat.le_refl _)).Ug).mono om
theorem adG (x:aB):(AM x).s=x.s:=(T4 _).trans (uK ..)
theorem xn (x:aB):∀n,(yk x n).s=x.s
  |0=>rfl
  |n+1=>(adG _).trans (xn x n)
theorem MI.ug {k:Nat} {x:aB} (h:MI k x):∀n,MI (k+100000*n) (yk x n)
  |0=>h
  |n+1=>((h.ug n).rou).mono om
theorem MI.ids {x:aB} (h:MI k x) {a:Int} (ha:bN x.cs a<x.cs.length):0<=a/\a.toNat<x.ts.length:=by
  have h0:=h.ci.wf.pos ha;have:=h.ci.id _ ha a (dm ha);exact⟨h0,by omega⟩
theorem Du {cs:List Qm} {co a:Int} (h:fy cs co a=0):bN cs a<cs.length/\co.toNat<cs.length/\0<=co/\co.toNat≠bN cs a/\(co.toNat:Int)=co:=by
  unfold fy at h
  split at h
  ·cases h
  split at h
  ·cases h
  split at h
  ·cases h
  exact⟨by omega,by omega,by omega,by omega,by omega⟩
theorem MI.Z8 {k:Nat} {x:aB} (h:MI k x) (co a:Int):MI k {x with cs:=jB x.cs co a} :=by
  refine h.E6 (h.ci.Z8 co a) (SC ..) (fun c hc b hb=> .inl ?_)
  unfold jB at hb;split at hb
  · next e=>
    obtain ⟨h1,h2,h3,h4,h5⟩:=Du e;exact EA h.ci.wf h1 h2 h4 hc hb
  ·exact⟨c,hc,hb⟩
theorem MI.ZR {k:Nat} {x:aB} (h:MI k x):MI k {x with cs:=jI x.cs} :=by
  refine h.E6 h.ci.ZR (Rs ..) (fun c hc b hb=> .inl ?_)
  unfold jI at hb;split at hb
  ·exact⟨c,hc,hb⟩
  · next t e=>
    obtain ⟨h1,h2,h3,h4,h5,h6,h7⟩:=jX h.ci.wf e;exact EA h.ci.wf (by rw [h4];exact h5) h6 h7 hc hb
theorem Oy {x:aB} (h:MI k x) (hb:¬gj x.cs<0):(gj x.cs).toNat<x.ts.length/\0<=gj x.cs:=by
  unfold gj at hb ⊢;split at hb
  ·exact absurd hb (by decide)
  · next t e=>
    obtain ⟨h1,h2,h3,h4,h5,h6,h7⟩:=jX h.ci.wf e;have:=h.ids (a:=t.id) (by rw [h4];exact h5);exact⟨this.2,this.1⟩
theorem MI.Tb {k:Nat} {x:aB} (h:MI k x) (g w:Int) (i:Nat):MI k {x with gp:=x.gp.set i w,lk:=x.lk.map (fun L=>iU L g w)} :=
  {h with
    gn:=by show (x.gp.set _ _).length=_;rw [List.length_set];exact h.gn
    ll:=by show (x.lk.map _).length=_;rw [List.length_map];exact h.ll
    li:=fun l hl=>by
      have mL:l<x.lk.length:=by have q:=hl;rw [show ({x with gp:=x.gp.set i w,lk:=x.lk.map (fun L=>iU L g w)} :aB).lk.length=x.lk.length from List.length_map ..] at q;exact q
      show LI _ k ((x.lk.map _).getD l default)
      have:=(h.li l mL).Tb g w
      unfold gL at this
      rw [List.getD_eq_getElem?_getD,List.getElem?_eq_getElem mL] at this;rw [List.getD_eq_getElem?_getD,List.getElem?_map,List.getElem?_eq_getElem mL];exact this}
theorem MI.mdo {x:aB} (h:MI k x) (a:Act):MI (k+30000000) (ji x a):=by
  unfold ji
  split
  ·exact h.mono om
  next he=>
  have he:dd x a=0:=Classical.byContradiction he
  unfold dd at he
  split at he
  ·cases he
  split
  · next e=>
    rw [if_pos e] at he
    split at he
    ·cases he
    ·exact(h.TC (c:=a.a.toNat) (by have:=h.ce;omega)).mono om
  next e1=>
  rw [if_neg e1] at he
  split
  ·exact h.Ug.mono om
  next e2=>
  rw [if_neg e2] at he
  split
  · next e=>
    rw [if_pos e] at he
    split at he
    ·cases he
    ·next hb=>exact(h.ZR.mvd (Oy h hb).1 _).mono om
  next e3=>
  rw [if_neg e3] at he
  split
  · next e=>
    rw [if_pos e] at he
    split at he
    ·cases he
    split at he
    · next hr=>
      unfold jE at hr;simp only [Bool.and_eq_true,decide_eq_true_eq] at hr
      exact(h.QJ _ _ _ _ om hr.2).C0.mono om
    ·cases he
  next e4=>
  rw [if_neg e4] at he
  split
  · next e=>
    rw [if_pos e] at he
    split at he
    ·cases he
    ·exact((h.die (t:=a.a.toNat) om).C0).mono om
  next e5=>
  rw [if_neg e5] at he
  split
  ·exact(h.Tb _ _ _).mono om
  next e6=>
  rw [if_neg e6] at he
  split
  · next e=>
    rw [if_pos e] at he;obtain ⟨h1,h2,h3,h4,h5⟩:=Du he;exact((h.Z8 a.b a.a).mvd (h.ids h1).2 _).mono om
  next e7=>
  rw [if_neg e7] at he
  split at he
  · split at he
    ·cases he
    ·exact(h.ug a.a.toNat).mono om
  ·cases he
theorem te {s:ee} (h:dt s=true):1<=s.cr/\s.cr<=4:=by
  unfold dt cz at h
  simp only [Bool.and_eq_true,decide_eq_true_eq] at h;exact h.1.1.1.1.1
theorem IG {s:ee} (h:dt s=true):1<=s.gs.length/\s.gs.length<=4:=by
  unfold dt cz at h;simp only [Bool.and_eq_true,decide_eq_true_eq] at h;omega
theorem MI.new {s:ee} (h:dt s=true):MI 0 (fH s):=by
  have hc:=te h;have hl:(gm s.cr s.gr).length=s.cr.toNat:=by rw [e9];unfold aF;rw [if_neg om,if_neg om]
  refine ⟨h,by show ((gm s.cr s.gr).length:Int)=s.cr;rw [hl];omega,⟨Co _ _,fun c hc a ha=>?_,fun c hc=>?_⟩,by show (List.replicate _ _).length=(gm _ _).length;rw [List.length_replicate,hl],fun n hn=>?_,by show (s.ls.map _).length=s.ls.length;rw [List.length_map],fun l mL=>?_,⟨zS,B5⟩,Nat.zero_le _,rfl,fun t ht=>(by cases ht),rfl,Nat.le_refl _,fun c hc a ha=>?_⟩
  · exact absurd ha (by have wT : c < (aF s.cr 1 4).toNat := by { rw [← e9 s.cr s.gr]; exact hc }
                        show¬cB (qg (gm s.cr s.gr) c) a;rw [gm,ud wT];exact wb _ _)
  · have wT:c<(aF s.cr 1 4).toNat:=by rw [<-e9 s.cr s.gr];exact hc
    show (qg (gm s.cr s.gr) c).cY<=_
    rw [gm,ud wT];show (0:Int)<=_;omega
  ·have:=List.eq_of_mem_replicate hn;omega
  · have XU:l<s.ls.length:=by have q:=mL;rw [show (fH s).lk.length=s.ls.length from List.length_map ..] at q;exact q
    show LI 0 0 ((s.ls.map _).getD l default)
    rw [List.getD_eq_getElem?_getD,List.getElem?_map,List.getElem?_eq_getElem XU];exact⟨Rj _ _,SI _ _,⟨fun g hg=>(by cases hg),fun g hg=>(by cases hg)⟩⟩
  · exact absurd ha (by have wT : c < (aF s.cr 1 4).toNat := by rw [← e9 s.cr s.gr]; exact hc
                        show¬cB (qg (gm s.cr s.gr) c) a;rw [gm,ud wT];exact wb _ _)
/-! a deed, by kinds -/
theorem eO {x:aB} {a:Act} (h:dd x a≠0):ji x a=x:=if_pos h
section
variable {x:aB} {a:Act} (hv:¬50000<=x.ev.length)
include hv
theorem Wg (h:a.k=1):dd x a=if a.a<0\/x.s.cr<=a.a then 1 else if 1048576<=x.now.toNat then 2 else 0:=by unfold dd;rw [if_neg hv,if_pos h]
theorem do2 (h:a.k=2):dd x a=0:=by unfold dd;rw [if_neg hv,if_neg om,if_pos h]
theorem do3 (h:a.k=3):dd x a=if gj x.cs<0 then 4 else 0:=by unfold dd;rw [if_neg hv,if_neg om,if_neg om,if_pos h]
theorem do4 (h:a.k=4):dd x a=if a.a<0\/(x.s.ps.length:Int)<=a.a\/a.b<0\/(x.gp.length:Int)<=a.b\/a.c<1\/16<a.c\/a.d<0\/x.s.cr<=a.d then 1 else if jE x=true then 0 else 3:=by unfold dd;rw [if_neg hv,if_neg om,if_neg om,if_neg om,if_pos h]
theorem do5 (h:a.k=5):dd x a=if a.a<0\/(x.ts.length:Int)<=a.a then 4 else if (gT x a.a.toNat).st=5 then 11 else 0:=by unfold dd;rw [if_neg hv,if_neg om,if_neg om,if_neg om,if_neg om,if_pos h]
theorem do6 (h:a.k=6):dd x a=if a.a<0\/(x.gp.length:Int)<=a.a\/a.b<1\/16<a.b then 1 else 0:=by unfold dd;rw [if_neg hv,if_neg om,if_neg om,if_neg om,if_neg om,if_neg om,if_pos h]
theorem do7 (h:a.k=7):dd x a=fy x.cs a.b a.a:=by unfold dd;rw [if_neg hv,if_neg om,if_neg om,if_neg om,if_neg om,if_neg om,if_neg om,if_pos h]
theorem do8 (h:a.k=8):dd x a=if a.a<0\/200<a.a then 1 else if 1048576<(x.now+BitVec.ofInt 64 (a.a*x.s.cr)).toNat then 2 else 0:=by unfold dd;rw [if_neg hv,if_neg om,if_neg om,if_neg om,if_neg om,if_neg om,if_neg om,if_neg om,if_pos h]
theorem do0 (h:¬(1<=a.k/\a.k<=8)):dd x a=1:=by unfold dd;rw [if_neg hv,if_neg om,if_neg om,if_neg om,if_neg om,if_neg om,if_neg om,if_neg om,if_neg om]
end
section
variable {x:aB} {a:Act} (hE:dd x a=0)
include hE
theorem dx1 (h:a.k=1):ji x a=uy x a.a.toNat:=by unfold ji;rw [if_neg om,if_pos h]
theorem dx2 (h:a.k=2):ji x a=vh x:=by unfold ji;rw [if_neg om,if_neg om,if_pos h]
theorem dx3 (h:a.k=3):ji x a=qq {x with cs:=jI x.cs} (gj x.cs).toNat (uc x.cs):=by unfold ji;rw [if_neg om,if_neg om,if_neg om,if_pos h]
theorem dx4 (h:a.k=4):ji x a=ki (pk x a.a a.b a.c a.d):=by unfold ji;rw [if_neg om,if_neg om,if_neg om,if_neg om,if_pos h]
theorem dx5 (h:a.k=5):ji x a=ki (ku x a.a.toNat):=by unfold ji;rw [if_neg om,if_neg om,if_neg om,if_neg om,if_neg om,if_pos h]
theorem dx6 (h:a.k=6):ji x a= {x with gp:=x.gp.set a.a.toNat a.b,lk:=x.lk.map (fun L=>iU L a.a a.b)} :=by unfold ji;rw [if_neg om,if_neg om,if_neg om,if_neg om,if_neg om,if_neg om,if_pos h]
theorem dx7 (h:a.k=7):ji x a=qq {x with cs:=jB x.cs a.b a.a} a.a.toNat a.b:=by unfold ji;rw [if_neg om,if_neg om,if_neg om,if_neg om,if_neg om,if_neg om,if_neg om,if_pos h]
theorem dx8 (h:a.k=8):ji x a=yk x a.a.toNat:=by unfold ji;rw [if_neg om,if_neg om,if_neg om,if_neg om,if_neg om,if_neg om,if_neg om,if_neg om]
end
theorem OH {cs:List Qm} (h:tv cs) (hb:gj cs<0):jI cs=cs:=by
  unfold gj at hb;unfold jI
  cases e:vk cs with
  |none=>rfl
  |some t=>
    rw [e] at hb;obtain ⟨h1,h2,h3,h4,h5,h6,h7⟩:=jX h e;have:=(h.wf _ h5).pos t h1;have wi:t.id<0:=hb;omega
end Go.Eng
namespace Go.Eng
open Go Go.Proofs Go.RowKit
variable {out:List Act} {xs:List Int} {ws:List bA} {b i j k n0 t:Nat} {m:ab} {o:bO} {s:dU}
set_option maxHeartbeats 4000000 in
theorem xt {c:Nat} {x:aB} (w:World) (h:eQ n0 b s x m) (hI:MI k x) (hk:k<=600000000000) (ED:c<x.cs.length) (hs:s.In w) (kH:s.Old n0) (cm:n0<=w.heap.size) (hM:Mem w m):aD Tryz.prog 21 #[.pointer (some ⟨b,0,none⟩),.int .i64 (c:Nat)] w (fq m (fun u m'=>u= .tuple #[]/\eQ n0 b s (uy x c) m') w):=by
 obtain ⟨P,rfl,h⟩:=h;have rB:=hI.tl;obtain ⟨ig,ii,il,ip,ix,it,iv,ie,ic,iq⟩:=bK (ay (az b s x.now P) w.heap.size);obtain ⟨nS,nq,kl,Hc,tj,hX⟩:=h.sc.x;have Wi:=hX.sl;have hXl:=hX.len;have hXn:=hX.nl;have Hr:MI k {x with now:=x.now+1#64} := {hI with};have BO:=hI.ev;refine aD.ak Tryz.func21 rfl Tryz.ntmps21 rfl (az b s x.now P++ []) ((gU (az b s x.now P))) aM ?_;refine J6 ?_;refine LM.val (iX (b:=1#64) rfl rfl) ?_;refine J2 ?_;refine LM.st Tryz.sizeOf41 rfl rfl rfl dx rfl vg ?_;refine LM.mem (aJ.mem (M':=az b s (x.now+1#64) P++ []) aX) ?_;refine cF ?_;refine LM.dV (fun w hm hc hg=>iL (M:=iE P.bc nS nq kl::(tj++ [])) Tryz.isAgg110 rfl rfl w (hX.ld (hm.pick P.mc))) ?_;refine J2 ?_;refine LM.dV (fun w hm hc hg=>aL (M:=iE P.bc nS nq kl::(tj++ [])) (i:=c) (j:=0) Wi ir Tryz.isAgg114 rfl rfl (aH (xs:=Hc) default om) rfl (by rfl) w (hX.ld (hm.pick P.mc))) ?_;refine J7 ?_;refine cE Tryz.func51 rfl (fun w hm hc hg=>hX.read ED (hm.pick P.mc) (fun m hr hM=>GM w hr hM)) ?_;refine J2 ?_;refine af.bB (α:=aB×va) (fun ⟨y,Q⟩=>[]) [(0,_),(1,_),(4,_)] (fun ⟨y,Q⟩=>az b s (x.now+1#64) Q++ []) (fun ⟨y,Q⟩=>y=th {x with now:=x.now+1#64} c/\gF n0 b s y Q/\EI n0 Q.bc y.cs nS nq kl Hc tj Q.mc/\df (az b s x.now P) w.heap.size (az b s (x.now+1#64) Q)/\y.now=x.now+1#64) cA ?_ ?_
 ·refine af.aN rfl (fun h1=>?_) (fun h1=>?_)
  ·obtain ⟨hu1,T3,hu3⟩:=hI.cur ED (pX h1);have gS:=h.st;have uF:=h.nt;obtain ⟨a,ha⟩:∃a:Nat,(qg x.cs c).cur=(a:Nat):=⟨(qg x.cs c).cur.toNat,hu3.symm⟩;have Zc:a<x.ts.length:=(by rw [ha] at T3;exact T3)
   refine J3 ?_;refine cU Tryz.func52 rfl (fun w hm hc hg=>hX.Dx (i:=c) (x':=fM (qg x.cs c)) ED (hm.pick P.mc) (hI.ci.back ED).wf (fun m hr hM=>(by have q:=uJ w hr hM;rw [ha] at q;exact q))) hX.c.bJ (au ic) ?_;rintro u29 XV ⟨rfl,Ve⟩ IF;have i29:=ar ic IF;refine cM ?_;refine LM.ja ({gT x a with st:=1}) (j:=6) aC ir Tryz.sizeOf3 rfl rfl rfl (by first|exact bE om|exact aH default cH) rfl (by decide) (by rfl) rfl (au aC) (fun kF gM kQ=>?_)
   try rw [List.set_set] at gM
   have K0:=ck kQ aC;refine J3 ?_;have yW:gF n0 b s (bR (fZ {x with now:=x.now+1#64} c (fM (qg x.cs c))) a {gT x a with st:=1}) {P with mt:=kF,mc:=XV} := {h with nt:=(by rw [aW];exact uF),st:=gM,sc:=Ve.c}
   refine J3 ?_;refine cU Tryz.func53 rfl (fun w hm hc hg=>u3 (y:=x.now+1#64) rfl 3 (a:Nat) (-1) (c:Nat) w yW (by show x.ev.length<=_;omega) (Nat.le_trans cm hc.size) (hm.pick _)) (gF.m (y:=x.now+1#64) yW).bJ (au aP) ?_;rintro u40 X4 ⟨rfl,ae,ne,ce,me,rfl,EL⟩ oS;refine J1 ?_;refine mK (th {x with now:=x.now+1#64} c,{P with mt:=kF,mc:=XV,ae:=ae,ne:=ne,ce:=ce,me:=me}) ?_
   ·have e:th {x with now:=x.now+1#64} c=ba (bR (fZ {x with now:=x.now+1#64} c (fM (qg x.cs c))) a {gT x a with st:=1}) 3 a (-1) c:=(by unfold th;rw [if_pos h1,show (qg ({x with now:=x.now+1#64} :aB).cs c).cur=(a:Int) from ha];rfl);exact⟨rfl,by rw [e];exact EL,by rw [e];exact Ve,ar aP oS,by rw [e];rfl⟩
  refine J1 ?_;refine mK (th {x with now:=x.now+1#64} c,P) ?_
  ·have e:th {x with now:=x.now+1#64} c= {x with now:=x.now+1#64} :=(by unfold th;rw [if_neg (by simpa using h1)]);exact⟨rfl,by rw [e];exact {h with},by rw [e];exact hX,aP,by rw [e]⟩
 rintro ⟨y,Q⟩ ⟨hy,hQ,Ve,zR,mz⟩;change QM _ _ _ _ _ (az b s (x.now+1#64) Q++ []) _ _ _
 clear ig ii il ip ix it iv ie ic iq;obtain ⟨ig,ii,il,ip,ix,it,iv,ie,ic,iq⟩:=bK zR;have js:MI (k+1) y:=(by rw [hy];exact Hr.th ED);have nV:y.s=x.s:=(by rw [hy];exact qJ ..);have IK:c<y.cs.length:=(by have h1:=js.ce;have h2:=hI.ce;rw [nV] at h1;omega);obtain ⟨ow,n2,fa,Qx,y5,hqw,I7,EY⟩:=Ve.mm IK;have Yi:=js.ev;have apG:=js.tl;have aoR:=hQ.st;have aiA:=hQ.nt
 refine J3 ?_;refine af.bB (α:=Bool) (fun q=>[(53,.bool q)]) [(0,_),(1,_),(4,_)] (fun q=>az b s (x.now+1#64) Q++ []) (fun q=>q=(decide ((qg y.cs c).cur<0)&&decide (0<(qg y.cs c).l.length))) cA ?_ ?_
 ·refine J4 ?_;refine LM.dV (fun w hm hc hg=>iL (M:=ea (Hc.getD c default) (qg y.cs c).g (qg y.cs c).fl ow n2 fa (qg y.cs c).cur (qg y.cs c).cY::Qx) Tryz.isAgg3 rfl rfl w (EY w (hm.pick Q.mc))) ?_;refine J2 ?_;refine LM.aw (t:=46) rfl (fun h2=>?_) (fun h2=>?_)
  ·refine J4 ?_;refine LM.dV (fun w hm hc hg=>iL (M:=ea (Hc.getD c default) (qg y.cs c).g (qg y.cs c).fl ow n2 fa (qg y.cs c).cur (qg y.cs c).cY::Qx) Tryz.isAgg126 rfl rfl w (EY w (hm.pick Q.mc))) ?_;refine J4 ?_;refine mK (_) ?_
   ·rw [decide_eq_true h2,Bool.true_and,y5];exact decide_eq_decide.2 om
  refine J8 ?_;refine mK (_) ?_
  ·rw [decide_eq_false h2];rfl
 rintro q hq;change QM _ _ _ _ _ (az b s (x.now+1#64) Q++ []) _ _ _;refine J1 ?_;refine af.bB (α:=aB×va) (fun ⟨z,V⟩=>[]) [(0,_),(1,_),(4,_)] (fun ⟨z,V⟩=>az b s (x.now+1#64) V++ []) (fun ⟨z,V⟩=>z=rV y c/\gF n0 b s z V/\EI n0 V.bc z.cs nS nq kl Hc tj V.mc/\df (az b s x.now P) w.heap.size (az b s (x.now+1#64) V)/\z.now=x.now+1#64) cA ?_ ?_
 ·refine af.aN rfl (fun h3=>?_) (fun h3=>?_)
  ·have jY:(qg y.cs c).cur<0/\0<(qg y.cs c).l.length:=(by rw [hq,Bool.and_eq_true,decide_eq_true_eq,decide_eq_true_eq] at h3;exact h3);obtain ⟨Ux,zv,hp3⟩:=v3 hqw jY.1 jY.2;obtain ⟨a,ha⟩:∃a:Nat,fN (qg y.cs c)=(a:Nat):=⟨(fN (qg y.cs c)).toNat,by omega⟩;have Zc:a<y.ts.length:=(by have:=js.ci.id c IK _ zv;omega)
   refine J3 ?_;refine cU Tryz.func54 rfl (fun w hm hc hg=>Ve.Dx (i:=c) (x':=ru (qg y.cs c)) IK (hm.pick Q.mc) (js.ci.pik IK).wf (fun m hr hM=>(by have q:=EB w hr hM;rw [ha] at q;exact q))) Ve.c.bJ (au ic) ?_;rintro u55 m55 ⟨rfl,hX2⟩ P7;have i55:=ar ic P7;refine cM ?_;refine LM.ja ({gT y a with st:=2}) (j:=6) aC ir Tryz.sizeOf3 rfl rfl rfl (by first|exact bE om|exact aH default cH) rfl (by decide) (by rfl) rfl (au aC) (fun kF gM kQ=>?_)
   try rw [List.set_set] at gM
   have K0:=ck kQ aC;refine J3 ?_;have yx:gF n0 b s (bR (fZ y c (ru (qg y.cs c))) a {gT y a with st:=2}) {Q with mt:=kF,mc:=m55} := {hQ with nt:=(by rw [aW];exact aiA),st:=gM,sc:=hX2.c}
   refine J3 ?_;refine cU Tryz.func53 rfl (fun w hm hc hg=>u3 (y:=x.now+1#64) (by exact mz) 2 (a:Nat) (-1) (c:Nat) w yx (by show y.ev.length<=_;omega) (Nat.le_trans cm hc.size) (hm.pick _)) (gF.m (hn:=mz) yx).bJ (au aP) ?_;rintro u66 m66 ⟨rfl,ae,ne,ce,me,rfl,h66⟩ abW;refine J1 ?_;refine mK (rV y c,{Q with mt:=kF,mc:=m55,ae:=ae,ne:=ne,ce:=ce,me:=me}) ?_
   ·have e:rV y c=ba (bR (fZ y c (ru (qg y.cs c))) a {gT y a with st:=2}) 2 a (-1) c:=(by unfold rV;rw [if_pos jY,ha];rfl);exact⟨rfl,by rw [e];exact h66,by rw [e];exact hX2,ar aP abW,by rw [e];exact mz⟩
  refine J1 ?_;refine mK (rV y c,Q) ?_
  ·have e:rV y c=y:=(by unfold rV;rw [if_neg (by rw [hq] at h3;simpa using h3)]);exact⟨rfl,by rw [e];exact hQ,by rw [e];exact Ve,zR,by rw [e];exact mz⟩
 rintro ⟨z,V⟩ ⟨hz,hV,hX3,YW,hzn⟩;change QM _ _ _ _ _ (az b s (x.now+1#64) V++ []) _ _ _
 clear ig ii il ip ix it iv ie ic iq;obtain ⟨ig,ii,il,ip,ix,it,iv,ie,ic,iq⟩:=bK YW;have rR:MI (k+2) z:=(by rw [hz];exact js.rV IK);have Ll:z.s=x.s:=(by rw [hz];exact(z5 ..).trans nV);have YD:c<z.cs.length:=(by have h1:=rR.ce;have h2:=hI.ce;rw [Ll] at h1;omega);clear EY I7 y5;obtain ⟨ow,n2,fa,Qx,y5,amM,I7,EY⟩:=hX3.mm YD;have abG:=hV.st;have ahC:=hV.nt;have apZ:=hV.si;have aib:=hV.ni;have anM:=rR.il;have ajb:=rR.ib
 refine J7 ?_;refine LM.dV (fun w hm hc hg=>iL (M:=ea (Hc.getD c default) (qg z.cs c).g (qg z.cs c).fl ow n2 fa (qg z.cs c).cur (qg z.cs c).cY::Qx) Tryz.isAgg3 rfl rfl w (EY w (hm.pick V.mc))) ?_;refine J3 ?_;refine af.bB (α:=va) (fun R=>[]) [(0,_)] (fun R=>az b s (x.now+1#64) R++ []) (fun R=>gF n0 b s (tA z c) R/\df (az b s x.now P) w.heap.size (az b s (x.now+1#64) R)/\(tA z c).now=x.now+1#64) cA ?_ ?_
 ·refine af.aj rfl (fun h4=>?_) (fun h4=>?_)
  ·have hib:0<=z.idle.getD c 0/\z.idle.getD c 0<=((k+2:Nat):Int):=ajb _ (List.mem_of_getElem? (aH 0 om));refine J7 ?_;refine LM.rd (bt aC ir Tryz.isAgg3 rfl rfl (by first|exact bE om|exact aH 0 cH) (by rfl)) ?_;refine J2 ?_;refine LM.ja ((z.idle.getD c 0+1)) (j:=0) aC ir Tryz.sizeOf3 rfl rfl rfl (by first|exact bE om|exact aH 0 cH) rfl (by decide) (by rfl) rfl (au aC) (fun kF gM kQ=>?_)
   try rw [List.set_set] at gM
   have K0:=ck kQ aC;refine J1 ?_;refine mK ({V with mi:=kF}) ?_
   ·have e:tA z c= {z with idle:=z.idle.set c (z.idle.getD c 0+1)} :=(by unfold tA;rw [if_pos h4]);exact⟨by rw [e];exact {hV with ni:=(by show _=(z.idle.set _ _).length;rw [List.length_set];exact aib),si:=gM},aP,by rw [e];exact hzn⟩
  have mO:0<=(qg z.cs c).cur:=om;obtain ⟨hu1,T3,hu3⟩:=rR.cur YD mO;obtain ⟨Zn,W0,hU3⟩:=rR.zX YD mO;obtain ⟨a,ha⟩:∃a:Nat,(qg z.cs c).cur=(a:Nat):=⟨(qg z.cs c).cur.toNat,hu3.symm⟩;have Zc:a<z.ts.length:=(by rw [ha] at T3;exact T3);have K1:0<=(z.ts.getD a default).ti/\(z.ts.getD a default).ti<=((k+2:Nat):Int):=(rR.tb a Zc).ti;have hrn:=rR.ci.rn c YD;have haN:(qg z.cs c).cur.toNat=a:=(by rw [ha];rfl);rw [haN] at W0 hU3;have hUe:zX z c=bR (fZ z c (dW (qg z.cs c))) a {gT z a with ti:=(gT z a).ti+1} :=(by unfold zX;rw [haN])
  refine J5 ?_;refine LM.dV (fun w hm hc hg=>iL (M:=ea (Hc.getD c default) (qg z.cs c).g (qg z.cs c).fl ow n2 fa (qg z.cs c).cur (qg z.cs c).cY::Qx) Tryz.isAgg3 rfl rfl w (EY w (hm.pick V.mc))) ?_;rw [ha];refine J6 ?_;refine cU Tryz.func55 rfl (fun w hm hc hg=>hX3.Dx (i:=c) (x':=dW (qg z.cs c)) YD (hm.pick V.mc) (rR.ci.tick YD).wf (fun m hr hM=>B9 w hr om hM)) hX3.c.bJ (au ic) ?_;rintro u86 m86 ⟨rfl,hX4⟩ abI;have i86:=ar ic abI;refine dc ?_;refine LM.rd (aL (j:=11) aC ir Tryz.isAgg3 rfl rfl (by first|exact bE om|exact aH default cH) rfl (by rfl)) ?_;refine J3 ?_;refine LM.ja ({gT z a with ti:=(gT z a).ti+1}) (j:=11) aC ir Tryz.sizeOf3 rfl rfl rfl (by first|exact bE om|exact aH default cH) rfl (by decide) (by rfl) rfl (au aC) (fun kF gM kQ=>?_)
  try rw [List.set_set] at gM
  have K0:=ck kQ aC;refine J8 ?_;refine af.aO (α:=Bool×aB×Nat×va) (fun ⟨ov,v,f,W⟩=>[(8,.bool ov)]) [(0,_),(1,_),(7,_)] (fun ⟨ov,v,f,W⟩=>az b s (x.now+1#64) W++ []) (fun ⟨ov,v,f,W⟩=>gF n0 b s v W/\v.now=x.now+1#64/\df (az b s x.now P) w.heap.size (az b s (x.now+1#64) W)/\(ov=true->v=oA a c 64 (zX z c))/\(ov=false->oA a c 64 (zX z c)=oA a c f v/\Jw v a<f/\f<=64/\MI (k+3+300*(64-f)) v/\a<v.ts.length/\bN v.cs a<v.cs.length/\v.s=x.s)) (fun ⟨ov,v,f,W⟩=>f) ((false,zX z c,64,{V with mc:=m86,mt:=kF})) cA aX ⟨by rw [hUe];exact {hV with nt:=(by rw [aW];exact ahC),st:=gM,sc:=hX4.c},by rw [hUe];exact hzn,aP,fun q=>(by cases q),fun _=>⟨rfl,R3 Zn W0,Nat.le_refl _,Zn.mono om,W0,hU3,by rw [hUe];exact Ll⟩⟩ ?_;rintro ⟨ov,v,f,W⟩ ⟨hv,XH,hnW,hov,afU⟩;change af _ _ _ _ _ _ _ (az b s (x.now+1#64) W++ []) _ _ _;refine J7 ?_;refine af.aN rfl (fun h5=>?_) (fun h5=>?_)
  ·have ag6:ov=false:=(by simpa using h5);obtain ⟨g1,g2,g3,g4,g5,g6,g7⟩:=afU ag6;have hcv:c<v.cs.length:=(by have q1:=g4.ce;have q2:=hI.ce;rw [g7] at q1;omega);obtain ⟨f',hff⟩:∃f',f=f'+1:=⟨f-1,by omega⟩
   refine J7 ?_;refine cU Tryz.func56 rfl (fun w hm hc hg=>G5 w (hv.m (hn:=XH)) g4 om g5 hcv (hs.keep kH hc (fun b' hb=>by obtain ⟨p,hp,e⟩:=hb;rw [<-e];exact h.ge p hp)) kH (Nat.le_trans cm hc.size) (hm.pick _)) (hv.m (hn:=XH)).bJ (au hnW) ?_;rintro apn ao5 ⟨rfl,W1,hW1,agp⟩ Vx;rw [v8,XH] at hW1;subst hW1;refine J3 ?_;refine aK ((fb v a c).2,(fb v a c).1,f-1,W1) ?_ ?_
   ·exact⟨agp,by rw [v8];exact XH,ar hnW Vx,fun q=>by rw [g1,hff,Vy q],fun q=>by {obtain ⟨e1,e2,e3,e4⟩:=qi g4 g5 g6 q;exact⟨by rw [g1,hff,X0 (by rw [q];simp)];rfl,by omega,by omega,(g4.Rn g5 hcv g6).mono om,e2,e3,e4.trans g7⟩}⟩
   ·(dsimp only;omega)
  refine J4 ?_;refine mK (W) ?_
  ·have e:tA z c=v:=(by rw [hov (by simpa using h5)];unfold tA;rw [if_neg h4,haN];rw [<-haN];rfl);exact⟨by rw [e];exact hv,hnW,by rw [e];exact XH⟩
 rintro R ⟨hR,hnR,hRn⟩;change QM _ _ _ _ _ (az b s (x.now+1#64) R++ []) _ _ _;have XX:MI (k+2+19300) (tA z c):=rR.tA YD;have yC:eQ n0 b s (tA z c) (az b s (x.now+1#64) R):=hR.m (hn:=hRn);refine J3 ?_;refine cU Tryz.func27 rfl (fun w hm hc hg=>jZ w yC XX (Nat.le_trans cm hc.size) (hm.pick _)) yC.bJ (au hnR) ?_;rintro amz ahl ⟨rfl,ahh⟩ Yw;refine J1 ?_;refine QM.leave (.inr rfl) [] Tryz.results21 rfl ?_;intro w' ao aa aA;exact bp (m':=ahl) ⟨rfl,by rw [show uy x c=ki (tA z c) by rw [hz,hy];rfl];exact ahh⟩ ao aX aa (ar hnR Yw)
abbrev po (b:Nat) (a:Act):Nat×Obj:=(b,.cells (fA a).toArray 39 (0,0))
set_option maxHeartbeats 4000000 in
theorem Jr {x:aB} (a:Act) (w:World) (h:eQ n0 b s x m) (hI:MI k x) (hk:k<=500000000000) (hs:s.In w) (kH:s.Old n0) (cm:n0<=w.heap.size) (hM:Mem w m):aD Tryz.prog 8 #[.pointer (some ⟨b,0,none⟩),.agg (fA a).toArray] w (fq m (fun u m'=>u= .int .i64 (dd x a)/\eQ n0 b s (ji x a) m') w):=by
 obtain ⟨P,rfl,h⟩:=h;have rB:=hI.tl;have uF:=h.nt;have ec:=h.ne;have FP:=h.ng;have vV:=h.nl;have G4:x.s.cr=s.cr:=(by rw [h.hs];rfl);have TE:x.s.ps.length=s.pn:=(by rw [h.hs,hs.qE];exact List.length_map ..);have zE:eQ n0 b s x (az b s x.now P):=h.m;obtain ⟨ig,ii,il,ip,ix,it,iv,ie,ic,iq⟩:=bK (ay (az b s x.now P) w.heap.size);refine aD.ak Tryz.func8 rfl Tryz.ntmps8 rfl (az b s x.now P++ []) ((gU (az b s x.now P))) aM ?_;refine J2 ?_;refine LM.box rfl rfl (fun b3 FM=>?_);refine kR ?_;refine af.aj rfl (fun h1=>?_) (fun h1=>?_)
 ·refine J7 ?_;refine qL Tryz.results8 rfl fun w' ao aa aA=>?_;have hE:dd x a=3:=(by unfold dd;rw [if_pos om]);rw [hE,eO (by rw [hE];decide)];exact bp (m':=az b s x.now P) ⟨rfl,zE⟩ ao aX aa (ay _ _)
 have hv:¬50000<=x.ev.length:=om;refine Ai ?_;refine af.aj rfl (fun h2=>?_) (fun h2=>?_)
 ·refine J2 ?_;refine af.bB (α:=Bool) (fun q=>[(34,.bool q)]) [(0,_),(3,_)] (fun q=>az b s x.now P++(po b3 a:: [])) (fun q=>q=true↔(a.a<0\/s.cr<=a.a)) cA ?_ ?_
  ·refine af.draw [(0,0),(1,1),(2,0),(3,0),(4,0),(5,1),(6,0),(7,0),(8,0),(9,0),(10,1),(11,0),(12,0)] kr kr ?_;refine J4 ?_;refine LD.aw (t:=25) rfl (fun h3=>?_) (fun h3=>?_)
   ·refine cF ?_;refine mK (_) ?_
    ·simp<;>omega
   refine cF ?_;refine mK (_) ?_
   ·simp<;>omega
  rintro q hq;change QM _ _ _ _ _ (az b s x.now P++(po b3 a:: [])) _ _ _;refine J1 ?_;refine af.aN rfl (fun h4=>?_) (fun h4=>?_)
  ·refine J9 ?_;refine qL Tryz.results8 rfl fun w' ao aa aA=>?_;have hE:dd x a=1:=(by rw [Wg hv h2,if_pos (by rw [G4];exact hq.1 h4)]);rw [hE,eO (by rw [hE];decide)];exact bp (m':=az b s x.now P) ⟨rfl,zE⟩ ao aX aa (ay _ _)
  have Qu:¬(a.a<0\/s.cr<=a.a):=(fun e=>by rw [hq.2 e] at h4;cases h4);obtain ⟨c,hca⟩:∃c:Nat,a.a=(c:Nat):=⟨a.a.toNat,by omega⟩;have hcc:c<x.cs.length:=(by have:=hI.ce;omega)
  refine J9 ?_;refine LM.val (QO (b:=1048576#64) rfl rfl) ?_;refine J2 ?_;refine af.aj rfl (fun h5=>?_) (fun h5=>?_)
  ·refine J9 ?_;refine qL Tryz.results8 rfl fun w' ao aa aA=>?_;have hE:dd x a=2:=(by rw [Wg hv h2,if_neg (by rw [G4];exact Qu),if_pos (by first|exact h5|omega)]);rw [hE,eO (by rw [hE];decide)];exact bp (m':=az b s x.now P) ⟨rfl,zE⟩ ao aX aa (ay _ _)
  refine J6 ?_;refine cU Tryz.func21 rfl (fun w hm hc hg=>(by have q:=xt (c:=c) w zE hI om hcc (hs.keep kH hc (fun b' hb=>by obtain ⟨p,hp,e⟩:=hb;rw [<-e];exact h.ge p hp)) kH (Nat.le_trans cm hc.size) (hm.pick _);rw [<-hca] at q;exact q)) zE.bJ (au (ay _ _)) ?_;rintro u43 m43 ⟨rfl,h43⟩ HX;refine J9 ?_;refine qL Tryz.results8 rfl fun w' ao aa aA=>?_;have hE:dd x a=0:=(by rw [Wg hv h2,if_neg (by rw [G4];exact Qu),if_neg (by first|exact h5|omega)]);rw [hE,dx1 hE h2,show a.a.toNat=c by omega];exact bp (m':=m43) ⟨rfl,h43⟩ ao aX aa HX
 refine J6 ?_;refine af.aj rfl (fun h6=>?_) (fun h6=>?_)
 ·refine J2 ?_;refine cU Tryz.func22 rfl (fun w hm hc hg=>xF w zE hI om (Nat.le_trans cm hc.size) (hm.pick _)) zE.bJ (au (ay _ _)) ?_;rintro u47 m47 ⟨rfl,h47⟩ acN;refine J9 ?_;refine qL Tryz.results8 rfl fun w' ao aa aA=>?_;have hE:dd x a=0:=do2 hv h6;rw [hE,dx2 hE h6];exact bp (m':=m47) ⟨rfl,h47⟩ ao aX aa acN
 refine J6 ?_;refine af.aj rfl (fun h7=>?_) (fun h7=>?_)
 ·refine J6 ?_;refine cU Tryz.func23 rfl (fun w hm hc hg=>Gw w h.sc (Nat.le_trans cm hc.size) (hm.pick P.mc)) h.sc.bJ (au ic) ?_;rintro u55 m55 ⟨rfl,WV⟩ P7;have i55:=ar ic P7;have hMb:eQ n0 b s {x with cs:=jI x.cs} (az b s x.now {P with mc:=m55}):=gF.m {h with sc:=WV};refine Ai ?_;refine af.aj rfl (fun h8=>?_) (fun h8=>?_)
  ·have abb:jI x.cs=x.cs:=OH hI.ci.wf aC;refine J9 ?_;refine qL Tryz.results8 rfl fun w' ao aa aA=>?_;have hE:dd x a=4:=(by rw [do3 hv h7,if_pos h8]);rw [hE,eO (by rw [hE];decide)];exact bp (m':=az b s x.now {P with mc:=m55}) ⟨rfl,gF.m {h with sc:=(by rw [abb] at WV;exact WV)}⟩ ao aX aa aP
  obtain ⟨l6,wi⟩:=Oy hI om;obtain ⟨t,OU⟩:∃t:Nat,gj x.cs=(t:Nat):=⟨(gj x.cs).toNat,by omega⟩
  refine J6 ?_;refine cU Tryz.func24 rfl (fun w hm hc hg=>(by have q:=yf (t:=t) (uc x.cs) w hMb hI.ZR om (by show t<x.ts.length;rw [OU] at l6;exact l6) (Nat.le_trans cm hc.size) (hm.pick _);rw [<-OU] at q;exact q)) hMb.bJ (au aP) ?_;rintro u64 m64 ⟨rfl,vZ⟩ DD;refine J9 ?_;refine qL Tryz.results8 rfl fun w' ao aa aA=>?_;have hE:dd x a=0:=(by rw [do3 hv h7,if_neg h8]);rw [hE,dx3 hE h7,show (gj x.cs).toNat=t by omega];exact bp (m':=m64) ⟨rfl,vZ⟩ ao aX aa (ar aP DD)
 refine J6 ?_;refine af.aj rfl (fun h9=>?_) (fun h9=>?_)
 ·refine J2 ?_;refine af.bB (α:=Bool) (fun q=>[(120,.bool q)]) [(0,_),(3,_)] (fun q=>az b s x.now P++(po b3 a:: [])) (fun q=>q=true↔(a.a<0\/(s.pn:Int)<=a.a\/a.b<0\/(P.ng:Int)<=a.b\/a.c<1\/16<a.c\/a.d<0\/s.cr<=a.d)) cA ?_ ?_
  ·refine af.draw [(0,0),(1,1),(2,0),(3,0),(4,0),(5,1),(6,0),(7,0),(8,0),(9,0),(10,1),(11,0),(12,0),(13,0),(14,0),(15,0),(16,1),(17,0),(18,0),(19,0),(20,0),(21,1),(22,0),(23,0),(24,0),(25,1),(26,0),(27,0),(28,0),(29,0),(30,0),(31,1),(32,0),(33,0),(34,0),(35,0),(36,1),(37,0),(38,0),(39,0),(40,0),(41,1),(42,0),(43,0),(44,0),(45,0),(46,1),(47,0),(48,0),(49,0),(50,0),(51,1),(52,0),(53,0)] kr kr ?_;refine J4 ?_;refine LD.aw (t:=70) rfl (fun je=>?_) (fun je=>?_)
   ·refine J51 ?_;refine mK (_) ?_
    ·simp<;>omega
   refine dc ?_;refine LD.aw (t:=81) rfl (fun lK=>?_) (fun lK=>?_)
   ·refine J40 ?_;refine mK (_) ?_
    ·simp<;>omega
   refine J5 ?_;refine LD.aw (t:=86) rfl (fun rz=>?_) (fun rz=>?_)
   ·refine J35 ?_;refine mK (_) ?_
    ·simp<;>omega
   refine cF ?_;refine LD.aw (t:=96) rfl (fun tz=>?_) (fun tz=>?_)
   ·refine J25 ?_;refine mK (_) ?_
    ·simp<;>omega
   refine J5 ?_;refine LD.aw (t:=101) rfl (fun nW=>?_) (fun nW=>?_)
   ·refine Zg ?_;refine mK (_) ?_
    ·simp<;>omega
   refine J5 ?_;refine LD.aw (t:=106) rfl (fun C2=>?_) (fun C2=>?_)
   ·refine rA ?_;refine mK (_) ?_
    ·simp<;>omega
   refine J5 ?_;refine LD.aw (t:=111) rfl (fun xe=>?_) (fun xe=>?_)
   ·refine cF ?_;refine mK (_) ?_
    ·simp<;>omega
   refine cF ?_;refine mK (_) ?_
   ·simp<;>omega
  rintro q hq;change QM _ _ _ _ _ (az b s x.now P++(po b3 a:: [])) _ _ _;refine J1 ?_;refine af.aN rfl (fun r9=>?_) (fun r9=>?_)
  ·refine J9 ?_;refine qL Tryz.results8 rfl fun w' ao aa aA=>?_;have hE:dd x a=1:=(by rw [do4 hv h9,if_pos (by rw [G4,TE,<-FP];exact hq.1 r9)]);rw [hE,eO (by rw [hE];decide)];exact bp (m':=az b s x.now P) ⟨rfl,zE⟩ ao aX aa (ay _ _)
  refine J6 ?_;refine cE Tryz.func25 rfl (fun w hm hc hg=>uH w zE rB (hm.pick _)) ?_;refine J3 ?_;refine af.aN rfl (fun wJ=>?_) (fun wJ=>?_)
  ·refine J9 ?_;refine qL Tryz.results8 rfl fun w' ao aa aA=>?_;have hE:dd x a=3:=(by rw [do4 hv h9,if_neg (by rw [G4,TE,<-FP];exact fun e=>by rw [hq.2 e] at r9;cases r9),if_neg (by simpa using wJ)]);rw [hE,eO (by rw [hE];decide)];exact bp (m':=az b s x.now P) ⟨rfl,zE⟩ ao aX aa (ay _ _)
  have ahJ:x.ts.length<64:=(by have hr:jE x=true:=(by simpa using wJ);unfold jE at hr;simp only [Bool.and_eq_true,decide_eq_true_eq] at hr;exact hr.2);have Qu:¬(a.a<0\/(s.pn:Int)<=a.a\/a.b<0\/(P.ng:Int)<=a.b\/a.c<1\/16<a.c\/a.d<0\/s.cr<=a.d):=(fun e=>by rw [hq.2 e] at r9;cases r9)
  refine gz ?_;refine cU Tryz.func26 rfl (fun w hm hc hg=>wM a.a a.b a.c a.d w zE rB (by have:=hI.vl;omega) (by have:=hI.ev;omega) (Nat.le_trans cm hc.size) (hm.pick _)) zE.bJ (au (ay _ _)) ?_;rintro ao1 aos ⟨rfl,abK⟩ N5;refine J4 ?_;refine cU Tryz.func27 rfl (fun w hm hc hg=>jZ w abK (hI.QJ a.a a.b a.c a.d om ahJ) (Nat.le_trans cm hc.size) (hm.pick _)) abK.bJ (au N5) ?_;rintro ac6 Mn ⟨rfl,XK⟩ Fj;refine J9 ?_;refine qL Tryz.results8 rfl fun w' ao aa aA=>?_;have hE:dd x a=0:=(by rw [do4 hv h9,if_neg (by rw [G4,TE,<-FP];exact Qu),if_pos (by simpa using wJ)]);rw [hE,dx4 hE h9];exact bp (m':=Mn) ⟨rfl,XK⟩ ao aX aa (ar N5 Fj)
 refine J6 ?_;refine af.aj rfl (fun EK=>?_) (fun EK=>?_)
 ·refine J2 ?_;refine af.bB (α:=Bool) (fun q=>[(150,.bool q)]) [(0,_),(3,_)] (fun q=>az b s x.now P++(po b3 a:: [])) (fun q=>q=true↔(a.a<0\/(P.nt:Int)<=a.a)) cA ?_ ?_
  ·refine af.draw [(0,0),(1,1),(2,0),(3,0),(4,0),(5,1),(6,0),(7,0),(8,0),(9,1),(10,0),(11,0),(12,0)] kr kr ?_;refine J4 ?_;refine LD.aw (t:=141) rfl (fun yy=>?_) (fun yy=>?_)
   ·refine cF ?_;refine mK (_) ?_
    ·simp<;>omega
   refine cF ?_;refine mK (_) ?_
   ·simp<;>omega
  rintro q hq;change QM _ _ _ _ _ (az b s x.now P++(po b3 a:: [])) _ _ _;refine J1 ?_;refine af.aN rfl (fun Lh=>?_) (fun Lh=>?_)
  ·refine J9 ?_;refine qL Tryz.results8 rfl fun w' ao aa aA=>?_;have hE:dd x a=4:=(by rw [do5 hv EK,if_pos (by rw [<-uF];exact hq.1 Lh)]);rw [hE,eO (by rw [hE];decide)];exact bp (m':=az b s x.now P) ⟨rfl,zE⟩ ao aX aa (ay _ _)
  have hq5:¬(a.a<0\/(P.nt:Int)<=a.a):=(fun e=>by rw [hq.2 e] at Lh;cases Lh);obtain ⟨t,OU⟩:∃t:Nat,a.a=(t:Nat):=⟨a.a.toNat,by omega⟩;have zl:t<x.ts.length:=om;have gS:=h.st;have K3:0<=a.a/\a.a<(P.nt:Int):=om;refine J4 ?_;refine af.draw [(0,0),(1,0),(2,0),(3,1),(4,0),(5,1),(6,0),(7,0),(8,1),(9,0)] kr kr ?_;refine J6 ?_;refine LD.val rfl rfl (c4 qw Tryz.underlying45 Tryz.sizeOf81 rfl rfl om) ?_;refine J1 ?_;refine LD.rd rfl rfl (aL (j:=6) aC ir Tryz.isAgg3 rfl rfl (by first|exact bE om|exact aH default cH) rfl (by rfl)) ?_;refine J3 ?_;refine af.aj rfl (fun LP=>?_) (fun LP=>?_)
  ·refine J9 ?_;refine qL Tryz.results8 rfl fun w' ao aa aA=>?_;have hE:dd x a=11:=(by rw [do5 hv EK,if_neg (by rw [<-uF];exact hq5),if_pos LP]);rw [hE,eO (by rw [hE];decide)];exact bp (m':=az b s x.now P) ⟨rfl,zE⟩ ao aX aa (ay _ _)
  refine J7 ?_;refine cU Tryz.func28 rfl (fun w hm hc hg=>(by have q:=qQ (t:=t) w zE hI om zl (Nat.le_trans cm hc.size) (hm.pick _);rw [<-OU] at q;exact q)) zE.bJ (au (ay _ _)) ?_;rintro ank aqj ⟨rfl,Z0⟩ L3;refine J4 ?_;refine cU Tryz.func27 rfl (fun w hm hc hg=>jZ w Z0 (hI.die zl) (Nat.le_trans cm hc.size) (hm.pick _)) Z0.bJ (au L3) ?_;rintro aqS ajh ⟨rfl,aiO⟩ WD;refine J9 ?_;refine qL Tryz.results8 rfl fun w' ao aa aA=>?_;have hE:dd x a=0:=(by rw [do5 hv EK,if_neg (by rw [<-uF];exact hq5),if_neg LP]);rw [hE,dx5 hE EK,show a.a.toNat=t by omega];exact bp (m':=ajh) ⟨rfl,aiO⟩ ao aX aa (ar L3 WD)
 refine J6 ?_;refine af.aj rfl (fun Lo=>?_) (fun Lo=>?_)
 ·refine J2 ?_;refine af.bB (α:=Bool) (fun q=>[(191,.bool q)]) [(0,_),(3,_)] (fun q=>az b s x.now P++(po b3 a:: [])) (fun q=>q=true↔(a.a<0\/(P.ng:Int)<=a.a\/a.b<1\/16<a.b)) cA ?_ ?_
  ·refine af.draw [(0,0),(1,1),(2,0),(3,0),(4,0),(5,1),(6,0),(7,0),(8,0),(9,1),(10,0),(11,0),(12,0),(13,0),(14,0),(15,1),(16,0),(17,0),(18,0),(19,0),(20,1),(21,0),(22,0)] kr kr ?_;refine J4 ?_;refine LD.aw (t:=172) rfl (fun h24=>?_) (fun h24=>?_)
   ·refine Zg ?_;refine mK (_) ?_
    ·simp<;>omega
   refine cF ?_;refine LD.aw (t:=182) rfl (fun uB=>?_) (fun uB=>?_)
   ·refine cF ?_;refine mK (_) ?_
    ·simp<;>omega
   refine J5 ?_;refine LD.aw (t:=187) rfl (fun TL=>?_) (fun TL=>?_)
   ·refine J5 ?_;refine mK (_) ?_
    ·simp<;>omega
   refine J5 ?_;refine mK (_) ?_
   ·simp<;>omega
  rintro q hq;change QM _ _ _ _ _ (az b s x.now P++(po b3 a:: [])) _ _ _;refine J1 ?_;refine af.aN rfl (fun h27=>?_) (fun h27=>?_)
  ·refine J9 ?_;refine qL Tryz.results8 rfl fun w' ao aa aA=>?_;have hE:dd x a=1:=(by rw [do6 hv Lo,if_pos (by rw [<-FP];exact hq.1 h27)]);rw [hE,eO (by rw [hE];decide)];exact bp (m':=az b s x.now P) ⟨rfl,zE⟩ ao aX aa (ay _ _)
  have hq6:¬(a.a<0\/(P.ng:Int)<=a.a\/a.b<1\/16<a.b):=(fun e=>by rw [hq.2 e] at h27;cases h27);have Cp:=h.sg;have K3:0<=a.a/\a.a<(P.ng:Int):=om;refine J3 ?_;refine af.keep (xL b s x.now P::po b3 a:: []) (fun _=>True) (.one 0 0 (.one 1 0 (.one 2 0 (.one 3 1 (.one 4 0 (.one 5 1 (.one 6 0 (.one 7 1 (.one 8 0 (.last 9)))))))))) kr kr aX (fun _ _=>trivial) ?_;refine J8 ?_;refine KD.val rfl rfl (c4 qw Tryz.underlying26 Tryz.sizeOf3 rfl rfl om) ?_;refine KD.last rfl ?_;refine LM.ja (a.b) (j:=0) aC ir Tryz.sizeOf3 rfl rfl rfl (by first|exact bE om|exact aH 0 cH) rfl (by decide) (by rfl) rfl (au aC) (fun mP dy eB=>?_)
  try rw [List.set_set] at dy
  have Jp:=ck eB aC;refine J1 ?_;refine QM.qn ?_;refine J7 ?_;refine af.aO (α:=Nat×List bf×ab) (fun ⟨i,ls,mq⟩=>[(8,.int .i64 (i:Nat))]) [(0,_),(3,_)] (fun ⟨i,ls,mq⟩=>xL b s x.now P::gR P.bg P.ax P.nx P.cx::(P.mi++(P.ml++(mP++(P.mx++(P.mt++(P.mv++(P.me++(P.mc++(mq++(po b3 a:: []))))))))))) (fun ⟨i,ls,mq⟩=>i<=x.lk.length/\ls=Jo (fun L=>iU L a.a a.b) x.lk i/\kJ Qv n0 P.bs ls mq/\df (az b s x.now P) w.heap.size mq) (fun ⟨i,ls,mq⟩=>x.lk.length-i) ((0,x.lk,P.mq)) cA aX ⟨Nat.zero_le _,rfl,h.sq,iq⟩ ?_;rintro ⟨i,ls,mq⟩ ⟨hi,uS,Lm,YY⟩;change af _ _ _ _ _ _ _ (xL b s x.now P::gR P.bg P.ax P.nx P.cx::(P.mi++(P.ml++(mP++(P.mx++(P.mt++(P.mv++(P.me++(P.mc++(mq++(po b3 a:: []))))))))))) _ _ _;have Lr:ls.length=x.lk.length:=(by rw [uS,mR]);have u2:=h.bl;have jL:=h.sl;have Rm:=hI.l8;refine cM ?_;refine af.aj rfl (fun h28=>?_) (fun h28=>?_)
  ·refine J4 ?_;refine af.draw [(0,0),(1,0),(2,0),(3,1),(4,0),(5,0),(6,1),(7,0),(8,1),(9,0),(10,1),(11,3)] kr kr ?_;refine J6 ?_;refine LD.rd rfl rfl (bt aC ir Tryz.isAgg71 rfl rfl (by first|exact bE om|exact aH default cH) (by rfl)) ?_;refine J4 ?_;refine LD.tail rfl rfl ?_;refine cU Tryz.func29 rfl (fun w hm hc hg=>Lm.Dx EZ (i:=i) om (hm.pick mq) (fun m hr hM=>FG a.a a.b w hr hM)) (Lm.bJ EZ) (au YY) ?_;rintro ap3 ag0 ⟨rfl,afZ⟩ YN;refine J1 ?_;refine QM.qn ?_;refine J7 ?_;refine aK (i+1,ls.set i (iU (qg ls i) a.a a.b),ag0) ?_ ?_
   ·exact⟨by omega,by rw [uS];rfl,afZ,ar YY YN⟩
   ·(dsimp only;omega)
  refine cM ?_;refine qL Tryz.results8 rfl fun w' ao aa aA=>?_;have eA:i=x.lk.length:=om;subst eA;rw [FA] at uS;have hE:dd x a=0:=(by rw [do6 hv Lo,if_neg (by rw [<-FP];exact hq6)]);rw [hE,dx6 hE Lo];exact bp (m':=az b s x.now {P with mg:=mP,mq:=mq}) ⟨rfl,gF.m {h with ng:=(by show _=(x.gp.set _ _).length;rw [List.length_set];exact FP),sg:=dy,nl:=(by show _=(x.lk.map _).length;rw [List.length_map];exact vV),bl:=(by show _=(x.lk.map _).length;rw [List.length_map];exact u2),sq:=(by rw [uS] at Lm;exact Lm)}⟩ ao aX aa aP
 refine J6 ?_;refine af.aj rfl (fun h29=>?_) (fun h29=>?_)
 ·refine J1 ?_;refine af.draw [(0,0),(1,0),(2,0),(3,1),(4,0),(5,1),(6,0),(7,1),(8,3),(9,3)] kr kr ?_;refine J8 ?_;refine LD.tail rfl rfl ?_;refine cU Tryz.func30 rfl (fun w hm hc hg=>FH a.a a.b w h.sc (Nat.le_trans cm hc.size) (hm.pick P.mc)) h.sc.bJ (au ic) ?_;rintro anI abQ ⟨rfl,OR⟩ Vr;have i232:=ar ic Vr;refine J2 ?_;refine QM.qn ?_;refine J8 ?_;refine af.aj rfl (fun h30=>?_) (fun h30=>?_)
  ·refine cF ?_;refine qL Tryz.results8 rfl fun w' ao aa aA=>?_;have hE:dd x a=fy x.cs a.b a.a:=do7 hv h29;rw [hE,eO (by rw [hE];exact h30)];exact bp (m':=az b s x.now {P with mc:=abQ}) ⟨rfl,gF.m {h with sc:=(by rw [lO h30] at OR;exact OR)}⟩ ao aX aa aP
  have hE7:fy x.cs a.b a.a=0:=om;obtain ⟨hm1,Ph,KU,hm4,hm5⟩:=Du hE7;obtain ⟨anj,aaH⟩:=hI.ids hm1;obtain ⟨t,OU⟩:∃t:Nat,a.a=(t:Nat):=⟨a.a.toNat,by omega⟩;have hMv:eQ n0 b s {x with cs:=jB x.cs a.b a.a} (az b s x.now {P with mc:=abQ}):=gF.m {h with sc:=OR};refine J8 ?_;refine cU Tryz.func24 rfl (fun w hm hc hg=>(by have q:=yf (t:=t) a.b w hMv (hI.Z8 a.b a.a) om (by show t<x.ts.length;rw [OU] at aaH;exact aaH) (Nat.le_trans cm hc.size) (hm.pick _);rw [<-OU] at q;exact q)) hMv.bJ (au aP) ?_;rintro amC af4 ⟨rfl,agG⟩ WE;refine J9 ?_;refine qL Tryz.results8 rfl fun w' ao aa aA=>?_;have hE:dd x a=0:=(do7 hv h29).trans hE7;rw [hE,dx7 hE h29,show a.a.toNat=t by omega];exact bp (m':=af4) ⟨rfl,agG⟩ ao aX aa (ar aP WE)
 refine J6 ?_;refine af.aj rfl (fun ZO=>?_) (fun ZO=>?_)
 ·refine J2 ?_;refine af.bB (α:=Bool) (fun q=>[(251,.bool q)]) [(0,_),(3,_)] (fun q=>az b s x.now P++(po b3 a:: [])) (fun q=>q=true↔(a.a<0\/200<a.a)) cA ?_ ?_
  ·refine J5 ?_;refine LM.aw (t:=247) rfl (fun h32=>?_) (fun h32=>?_)
   ·refine J5 ?_;refine mK (_) ?_
    ·simp<;>omega
   refine J6 ?_;refine mK (_) ?_
   ·simp<;>omega
  rintro q hq;change QM _ _ _ _ _ (az b s x.now P++(po b3 a:: [])) _ _ _;refine J1 ?_;refine af.aN rfl (fun Zj=>?_) (fun Zj=>?_)
  ·refine J9 ?_;refine qL Tryz.results8 rfl fun w' ao aa aA=>?_;have hE:dd x a=1:=(by rw [do8 hv ZO,if_pos (hq.1 Zj)]);rw [hE,eO (by rw [hE];decide)];exact bp (m':=az b s x.now P) ⟨rfl,zE⟩ ao aX aa (ay _ _)
  have YT:=te hI.ms;have hq8:¬(a.a<0\/200<a.a):=(fun e=>by rw [hq.2 e] at Zj;cases Zj);have hmul:0<=a.a*s.cr/\a.a*s.cr<=800:=(by rw [G4] at YT;rcases (show s.cr=1\/s.cr=2\/s.cr=3\/s.cr=4 by omega) with e|e|e|e<;>rw [e] <;>omega)
  refine J4 ?_;refine af.draw [(0,0),(1,0),(2,0),(3,1),(4,0),(5,1),(6,0),(7,0),(8,0),(9,0),(10,1),(11,0),(12,0),(13,0),(14,0)] kr kr ?_;refine dc ?_;refine LD.val rfl rfl (Dp rfl rfl om) ?_;refine LD.val rfl rfl (oK Tryz.underlying3 Tryz.underlying41 rfl) ?_;refine LD.val rfl rfl (iX rfl rfl) ?_;refine LD.val rfl rfl (pW (b:=1048576#64) rfl rfl) ?_;refine J2 ?_;refine af.aj rfl (fun TQ=>?_) (fun TQ=>?_)
  ·refine J9 ?_;refine qL Tryz.results8 rfl fun w' ao aa aA=>?_;have hE:dd x a=2:=(by rw [do8 hv ZO,if_neg (fun e=>by rw [hq.2 e] at Zj;cases Zj),if_pos (by rw [G4];exact TQ)]);rw [hE,eO (by rw [hE];decide)];exact bp (m':=az b s x.now P) ⟨rfl,zE⟩ ao aX aa (ay _ _)
  refine J8 ?_;refine af.aO (α:=Nat×aB×va) (fun ⟨i,y,Y⟩=>[(10,.int .i64 (i:Nat))]) [(0,_),(3,_)] (fun ⟨i,y,Y⟩=>az b s y.now Y++(po b3 a:: [])) (fun ⟨i,y,Y⟩=>i<=a.a.toNat/\y=yk x i/\gF n0 b s y Y/\df (az b s x.now P) w.heap.size (az b s y.now Y)) (fun ⟨i,y,Y⟩=>a.a.toNat-i) ((0,x,P)) cA aX ⟨Nat.zero_le _,rfl,h,ay _ _⟩ ?_;rintro ⟨i,y,Y⟩ ⟨hi,hy,hY,hnY⟩;change af _ _ _ _ _ _ _ (az b s y.now Y++(po b3 a:: [])) _ _ _;have js:MI (k+100000*i) y:=(by rw [hy];exact hI.ug i);have nV:y.s=x.s:=(by rw [hy];exact xn ..)
  refine J9 ?_;refine af.aj rfl (fun h35=>?_) (fun h35=>?_)
  ·refine dc ?_;refine af.aO (α:=Nat×aB×va) (fun ⟨c,v,V⟩=>[(11,.int .i64 (c:Nat))]) [(0,_),(3,_),(10,_)] (fun ⟨c,v,V⟩=>az b s v.now V++(po b3 a:: [])) (fun ⟨c,v,V⟩=>c<=y.s.cr.toNat/\v=xh y c/\gF n0 b s v V/\df (az b s x.now P) w.heap.size (az b s v.now V)) (fun ⟨c,v,V⟩=>y.s.cr.toNat-c) ((0,y,Y)) cA aX ⟨Nat.zero_le _,rfl,hY,hnY⟩ ?_;rintro ⟨c,v,V⟩ ⟨hc9,hv9,hV,YW⟩;change af _ _ _ _ _ _ _ (az b s v.now V++(po b3 a:: [])) _ _ _;have hIv:MI (k+100000*i+19400*c) v:=(by rw [hv9];exact js.Fw hc9);have hvs:v.s=y.s:=(by rw [hv9];exact uK ..);have h4v:=hIv.len;have am3:y.s.cr=s.cr:=(by rw [nV];exact G4);have h4y:=js.len;rw [hvs] at h4v;refine cM ?_;refine af.aj rfl (fun YV=>?_) (fun YV=>?_)
   ·have hcv:c<v.cs.length:=om;refine J7 ?_;refine cU Tryz.func21 rfl (fun w hm hc hg=>xt w (gF.m hV) hIv om hcv (hs.keep kH hc (fun b' hb=>by obtain ⟨p,hp,e⟩:=hb;rw [<-e];exact h.ge p hp)) kH (Nat.le_trans cm hc.size) (hm.pick _)) (gF.m hV).bJ (au YW) ?_;rintro aoL am0 ⟨rfl,V1,rfl,aiw⟩ Vg;refine J8 ?_;refine aK (c+1,uy v c,V1) ?_ ?_
    ·exact⟨by omega,by rw [oT,<-hv9],aiw,ar YW Vg⟩
    ·(dsimp only;omega)
   have hcE:c=y.s.cr.toNat:=om;have hrx:AM y=vh v:=(by rw [hv9,hcE];rfl)
   refine J7 ?_;refine cU Tryz.func22 rfl (fun w hm hc hg=>xF w (gF.m hV) hIv om (Nat.le_trans cm hc.size) (hm.pick _)) (gF.m hV).bJ (au YW) ?_;rintro am1 aqF ⟨rfl,V2,rfl,af7⟩ Xe;refine J8 ?_;refine aK (i+1,vh v,V2) ?_ ?_
   ·exact⟨by omega,by rw [<-hrx,hy];rfl,af7,ar YW Xe⟩
   ·(dsimp only;omega)
  refine cM ?_;refine qL Tryz.results8 rfl fun w' ao aa aA=>?_;have eA:i=a.a.toNat:=om;have hE:dd x a=0:=(by rw [do8 hv ZO,if_neg hq8,if_neg (by rw [G4];exact TQ)]);rw [hE,dx8 hE ZO,<-eA,<-hy];exact bp (m':=az b s y.now Y) ⟨rfl,hY.m⟩ ao aX aa hnY
 refine J8 ?_;refine qL Tryz.results8 rfl fun w' ao aa aA=>?_;have hE:dd x a=1:=(do0 hv om);rw [hE,eO (by rw [hE];decide)];exact bp (m':=az b s x.now P) ⟨rfl,zE⟩ ao aX aa (ay _ _)
def McN (s:dU) (n0:Nat) (v:Value) (m:ab):Prop:=
  (dt s.C=false/\v= .tuple #[.pointer none,.bool false]/\m=[])\/(dt s.C=true/\∃b,v= .tuple #[.pointer (some ⟨b,0,none⟩),.bool true]/\eQ n0 b s (fH s.C) m)
def SY (s:ee) (i:Nat):List bf:=(s.ls.take i).map (fun l=>oU ⟨l.sh,l.sl,l.cr,l.rd,l.wr⟩ s.gs)
theorem xd {s:ee} (h:i<s.ls.length):SY s (i+1)=SY s i++ [oU ⟨(s.ls.getD i default).sh,(s.ls.getD i default).sl,(s.ls.getD i default).cr,(s.ls.getD i default).rd,(s.ls.getD i default).wr⟩ s.gs] :=by
  unfold SY;rw [bQ default h,List.map_append];rfl
set_option maxHeartbeats 2000000 in
theorem Fk (w:World) (hI:s.In w):aD Tryz.prog 7 #[s.val] w (fun v w'=>Ext w w'/\∃m,McN s w.heap.size v m/\Mem w' m/\∀p∈m,w.heap.size<=p.1):=by
 have hl0:=hI.hl;have qV:=hI.qV;have yD:=hI.yD;refine aD.ak Tryz.func7 rfl Tryz.ntmps7 rfl ([]) (no) (Mem.nil w) ?_;refine J2 ?_;refine LM.box rfl rfl (fun b1 l6=>?_);refine J7 ?_;refine LM.rd (aR Tryz.isAgg30 Tryz.sizeOf30 rfl rfl) ?_;refine cE Tryz.func17 rfl (fun w hm hc hg=>Ga (s:=s) w (hI.ext hc)) ?_;refine J3 ?_;refine af.aN rfl (fun h1=>?_) (fun h1=>?_)
 ·refine J8 ?_;refine QM.leave (.inl rfl) [.tmp 2,.tmp 3] Tryz.results7 rfl ?_;intro w' ao aa aA;exact⟨aa,[],.inl ⟨by simpa using h1,rfl,rfl⟩,Mem.nil _,fun p hp=>by cases hp⟩
 have j3:dt s.C=true:=(by simpa using h1);have h8:s.ls.length<=8:=(gu j3).1;have G4:1<=s.cr/\s.cr<=4:=te j3;refine J3 ?_;refine af.bB (α:=Nat×va) (fun ⟨b,P⟩=>[(4,.pointer (some ⟨b,0,none⟩))]) [(1,_)] (fun ⟨b,P⟩=>az b s 0#64 P++(kZ b1 s:: [])) (fun ⟨b,P⟩=>gF w.heap.size b s {fH s.C with lk:=[],gp:=[] } P) cA ?_ ?_
 ·refine af.keep (kZ b1 s:: []) (fun _=>True) (.one 0 1 (.one 1 0 (.one 2 1 (.one 3 0 (.one 4 1 (.one 6 0 (.one 7 1 (.fork 5 (.fork 8 (.one 9 2 (.one 10 0 (.one 11 2 (.one 12 0 .nil)))) 9 (.one 8 2 (.one 10 0 (.one 11 2 (.one 12 0 .nil))))) 8 (.one 5 2 (.one 9 2 (.one 10 0 (.one 11 2 (.one 12 0 .nil))))))))))))) kr kr aX (fun _ _=>trivial) ?_;refine KD.rd rfl rfl (aR Tryz.isAgg30 Tryz.sizeOf30 rfl rfl) ?_;refine J6 ?_;refine KD.fork rfl rfl ?_ ?_
  ·refine LM.dS (oC Tryz.func18) Vm.mono (fun w hm hc hg=>wm s.cr s.gr w) ?_;rintro u14 EP ⟨bc,rfl,nW⟩ Uw;refine J2 ?_;refine KD.fork rfl rfl ?_ ?_
   ·refine LM.CJ (f:=fI) (a0:=0) Tryz.underlying26 Tryz.typeInfo3 rfl rfl rfl rfl ir rfl rfl rfl om (by simp only [Tryz.t3];omega) om (by unfold maxLen;omega) (fun B7 H3 W5 Ee Qh=>?_);refine J3 ?_;refine LM.dS (oC Tryz.func19) x6.mono (fun w hm hc hg=>ue w) ?_;rintro u18 m18 ⟨bg,adx,nx,MU,mx,rfl,rfl,Zx,ER,Vc⟩ T8;refine J2 ?_;refine KD.val rfl rfl (aE (cs:=#[.int .i64 s.cr,.int .i64 s.gr,.slice s.ga s.gn s.gc,.slice s.la s.ln s.lc,.slice s.pa s.pn s.pc,U 0#64,.pointer (some ⟨bc,0,none⟩),.slice B7 H3 H3,.slice none 0 0,.slice none 0 0,.pointer (some ⟨bg,0,none⟩),.slice none 0 0,.slice none 0 0,.slice none 0 0]) rfl kr) ?_;refine J1 ?_;refine LM.box rfl rfl (fun b20 Oi=>?_);refine J4 ?_;refine mK ((b20,⟨bc,bg,[],B7,H3,H3,none,0,0,none,0,0,adx,nx,MU,none,0,0,none,0,0,none,0,0,W5,[],[],mx,[],[],[],EP,[]⟩)) ?_
    ·exact⟨by rw [Ee];exact(List.length_replicate ..).symm,(by show Sl fI _ 1 _ (List.replicate s.cr.toNat 0) _ _;rw [<-Ee];exact Qh),rfl,rfl,.nil _ _ _ _,kJ.nil,rfl,.nil _ _ _ _,ER,rfl,Vc,rfl,.nil _ _ _ _,rfl,.nil _ _ _ _,rfl,.nil _ _ _ _,nW,Oi,Zx,rfl⟩
   refine LM.dS (oC Tryz.func19) x6.mono (fun w hm hc hg=>ue w) ?_;rintro u18 m18 ⟨bg,adx,nx,MU,mx,rfl,rfl,Zx,ER,Vc⟩ T8;refine J3 ?_;refine LM.CJ (f:=fI) (a0:=0) Tryz.underlying26 Tryz.typeInfo3 rfl rfl rfl rfl ir rfl rfl rfl om (by simp only [Tryz.t3];omega) om (by unfold maxLen;omega) (fun B7 H3 W5 Ee Qh=>?_);refine J2 ?_;refine KD.val rfl rfl (aE (cs:=#[.int .i64 s.cr,.int .i64 s.gr,.slice s.ga s.gn s.gc,.slice s.la s.ln s.lc,.slice s.pa s.pn s.pc,U 0#64,.pointer (some ⟨bc,0,none⟩),.slice B7 H3 H3,.slice none 0 0,.slice none 0 0,.pointer (some ⟨bg,0,none⟩),.slice none 0 0,.slice none 0 0,.slice none 0 0]) rfl kr) ?_;refine J1 ?_;refine LM.box rfl rfl (fun b20 Oi=>?_);refine J4 ?_;refine mK ((b20,⟨bc,bg,[],B7,H3,H3,none,0,0,none,0,0,adx,nx,MU,none,0,0,none,0,0,none,0,0,W5,[],[],mx,[],[],[],EP,[]⟩)) ?_
   ·exact⟨by rw [Ee];exact(List.length_replicate ..).symm,(by show Sl fI _ 1 _ (List.replicate s.cr.toNat 0) _ _;rw [<-Ee];exact Qh),rfl,rfl,.nil _ _ _ _,kJ.nil,rfl,.nil _ _ _ _,ER,rfl,Vc,rfl,.nil _ _ _ _,rfl,.nil _ _ _ _,rfl,.nil _ _ _ _,nW,Oi,Zx,rfl⟩
  refine LM.CJ (f:=fI) (a0:=0) Tryz.underlying26 Tryz.typeInfo3 rfl rfl rfl rfl ir rfl rfl rfl om (by simp only [Tryz.t3];omega) om (by unfold maxLen;omega) (fun B7 H3 W5 Ee Qh=>?_);refine J3 ?_;refine LM.dS (oC Tryz.func18) Vm.mono (fun w hm hc hg=>wm s.cr s.gr w) ?_;rintro u14 EP ⟨bc,rfl,nW⟩ Uw;refine J3 ?_;refine LM.dS (oC Tryz.func19) x6.mono (fun w hm hc hg=>ue w) ?_;rintro u18 m18 ⟨bg,adx,nx,MU,mx,rfl,rfl,Zx,ER,Vc⟩ T8;refine J2 ?_;refine KD.val rfl rfl (aE (cs:=#[.int .i64 s.cr,.int .i64 s.gr,.slice s.ga s.gn s.gc,.slice s.la s.ln s.lc,.slice s.pa s.pn s.pc,U 0#64,.pointer (some ⟨bc,0,none⟩),.slice B7 H3 H3,.slice none 0 0,.slice none 0 0,.pointer (some ⟨bg,0,none⟩),.slice none 0 0,.slice none 0 0,.slice none 0 0]) rfl kr) ?_;refine J1 ?_;refine LM.box rfl rfl (fun b20 Oi=>?_);refine J4 ?_;refine mK ((b20,⟨bc,bg,[],B7,H3,H3,none,0,0,none,0,0,adx,nx,MU,none,0,0,none,0,0,none,0,0,W5,[],[],mx,[],[],[],EP,[]⟩)) ?_
  ·exact⟨by rw [Ee];exact(List.length_replicate ..).symm,(by show Sl fI _ 1 _ (List.replicate s.cr.toNat 0) _ _;rw [<-Ee];exact Qh),rfl,rfl,.nil _ _ _ _,kJ.nil,rfl,.nil _ _ _ _,ER,rfl,Vc,rfl,.nil _ _ _ _,rfl,.nil _ _ _ _,rfl,.nil _ _ _ _,nW,Oi,Zx,rfl⟩
 rintro ⟨b,P⟩ hP;change QM _ _ _ _ _ (az b s 0#64 P++(kZ b1 s:: [])) _ _ _;have hb0:=hP.hb;have Cp:Sl fI 3 1 w.heap.size ([] :List Int) (.slice P.ag P.ng P.cg) P.mg:=hP.sg;have h4:=IG j3;have h4g:s.gs.length<=4:=h4.2;refine J2 ?_;refine af.draw [(0,0),(1,0),(2,0),(3,0),(4,1),(5,0),(6,1),(7,3),(8,3),(9,3),(10,3)] kr kr ?_;refine J7 ?_;refine LD.tail rfl rfl ?_;refine LM.tU (ys:=s.gs) (m:=P.mg) Tryz.underlying26 Tryz.typeInfo3 rfl rfl rfl rfl rfl rfl rfl Cp (fun w hm hc hg=>hI.hg.ext hc) ir (by intro _ u hu;simp [fI] at hu;(repeat (first|(rcases hu with rfl|hu)|subst hu|rfl))) (Nat.le_refl _) (fun p hp bo=>absurd bo (Nat.not_lt_of_le (Sl.ge Cp p hp))) (by unfold maxLen;simp only [List.length_nil];omega) (by simp only [Tryz.t3,List.length_nil];omega) (fun aaG n28 TO m28 ahU ahM US=>?_);refine J2 ?_;refine LM.st Tryz.sizeOf26 rfl rfl rfl dx rfl bF ?_;refine LM.mem (aJ.mem (M':=az b s 0#64 {P with ag:=aaG,ng:=n28,cg:=TO,mg:=m28} ++(kZ b1 s:: [])) aX) ?_;refine J1 ?_;refine QM.qn ?_;refine J8 ?_;refine af.aO (α:=Nat×va) (fun ⟨i,R⟩=>[(5,.int .i64 (i:Nat))]) [(1,_),(4,_)] (fun ⟨i,R⟩=>az b s 0#64 R++(kZ b1 s:: [])) (fun ⟨i,R⟩=>i<=s.ls.length/\gF w.heap.size b s {fH s.C with lk:=SY s.C i} R) (fun ⟨i,R⟩=>s.ls.length-i) ((0,{P with ag:=aaG,ng:=n28,cg:=TO,mg:=m28})) cA aX ⟨Nat.zero_le _,{hP with ng:=(by show n28=s.gs.length;rw [ahU];simp),sg:=(by show Sl fI _ 1 _ s.gs _ _;exact ahM)}⟩ ?_;rintro ⟨i,R⟩ ⟨hi,hR⟩;change af _ _ _ _ _ _ _ (az b s 0#64 R++(kZ b1 s:: [])) _ _ _;have apD:=hR.hb;have eE:(SY s.C i).length=i:=(by unfold SY;rw [List.length_map,List.length_take];show min i s.ls.length=i;omega);have jL:=hR.sl;have vV:R.nl=i:=hR.nl.trans eE;have u2:R.bs.length=i:=hR.bl.trans eE;refine cF ?_;refine af.aj rfl (fun h2=>?_) (fun h2=>?_)
 ·refine J4 ?_;refine af.keep (xL b s 0#64 R::kZ b1 s:: []) (fun _=>True) (.one 0 0 (.one 1 0 (.one 2 0 (.one 3 0 (.one 4 1 (.one 5 0 (.one 6 1 (.one 7 0 (.one 8 0 (.one 9 1 (.one 10 0 (.one 11 1 (.one 12 2 (.one 13 2 (.one 14 2 (.one 15 0 (.one 16 0 (.last 17)))))))))))))))))) kr kr aX (fun _ _=>trivial) ?_;refine J9 ?_;refine KD.dV rfl rfl (de aC ir Tryz.isAgg74 Tryz.sizeOf74 rfl c7 id) ?_;refine J3 ?_;refine LM.dS (oC Tryz.func20) Eb.mono (fun w hm hc hg=>Fe ⟨(s.ls.getD i default).sh,(s.ls.getD i default).sl,(s.ls.getD i default).cr,(s.ls.getD i default).rd,(s.ls.getD i default).wr⟩ w yD (hI.hg.ext hc)) ?_;rintro u50 m50 ⟨bq,rfl,XR⟩ akX;refine J3 ?_;refine LM.single Tryz.underlying43 Tryz.sizeOf71 Tryz.zeroValue71 rfl rfl rfl rfl rfl (fun b51 apj=>?_);refine J3 ?_;refine LM.app (a:=bq) Tryz.underlying43 Tryz.typeInfo71 rfl rfl rfl rfl rfl rfl rfl aC (by rfl) ir (by intro _ u hu;simp [fP] at hu;(repeat (first|(rcases hu with rfl|hu)|subst hu|rfl))) (by first|exact Nat.le_refl _|omega) kU (by first|omega|(unfold maxLen;omega)) (by simp only [Tryz.t71];omega) (fun sU Fl kM EO Ou Gu HS=>?_);refine J4 ?_;refine KD.last rfl ?_;refine LM.st Tryz.sizeOf43 rfl rfl rfl dx rfl bF ?_;refine LM.mem (aJ.mem (M':=az b s 0#64 {R with bs:=R.bs++ [bq],al:=sU,nl:=Fl,cl:=kM,ml:=EO,mq:=R.mq++m50} ++(kZ b1 s:: [])) aX) ?_;refine J1 ?_;refine QM.qn ?_;refine J7 ?_;refine aK (i+1,{R with bs:=R.bs++ [bq],al:=sU,nl:=Fl,cl:=kM,ml:=EO,mq:=R.mq++m50}) ?_ ?_
  ·have hiS:i<s.C.ls.length:=(by show i<s.ls.length;omega);exact⟨by omega,{hR with nl:=(by show Fl=_;rw [Ou,xd aC,List.length_append,eE];simp [u2]),bl:=(by show (R.bs++ [bq]).length=_;rw [xd aC,List.length_append,List.length_append,eE,u2];rfl),sl:=Gu,sq:=(by show kJ Qv _ (R.bs++ [bq]) (SY s.C (i+1)) _;rw [xd aC];exact hR.sq.snoc XR)}⟩
  ·(dsimp only;omega)
 refine gz ?_;refine QM.leave (.inl rfl) [.tmp 2,.tmp 3] Tryz.results7 rfl ?_;intro w' ao aa aA;have eA:i=s.ls.length:=om;have hR2:gF w.heap.size b s (fH s.C) R:=(by have e:SY s.C i=(fH s.C).lk:=(by unfold SY;rw [List.take_of_length_le (show s.C.ls.length<=i by show s.ls.length<=i;omega)];rfl);rw [e] at hR;exact hR);exact⟨aa,az b s 0#64 R,.inr ⟨j3,b,rfl,hR2.m⟩,ao.pick (az b s 0#64 R),hR2.ge⟩
theorem DH (k:Int) (w:World):aD Tryz.prog 83 #[.int .i64 k] w (fun v w'=>v=vS (I4 k)/\Ext w w'):=by
 refine aD.ak Tryz.func83 rfl Tryz.ntmps83 rfl ([]) (no) (Mem.nil w) ?_;refine J7 ?_;refine LM.row (vs:=[_,_,_,_,_,_,_,_,_]) Tryz.underlying190 Tryz.sizeOf9 Tryz.zeroValue9 rfl rfl rfl rfl rfl rfl (fun b4 wG=>?_);refine J9 ?_;refine LM.aw (t:=7) rfl (fun h1=>?_) (fun h1=>?_)
 ·refine gz ?_;refine qL Tryz.results83 rfl fun w' ao aa aA=>?_;refine ⟨?_,aa⟩;show vS _=_;congr 1;first|(rw [I4,if_neg om];done)|(rw [I4,if_pos om];rfl)
 refine J5 ?_;refine af.aj rfl (fun h2=>?_) (fun h2=>?_)
 ·refine J7 ?_;refine qL Tryz.results83 rfl fun w' ao aa aA=>?_;refine ⟨?_,aa⟩;show vS _=_;congr 1;first|(rw [I4,if_neg om];done)|(rw [I4,if_pos om];rfl)
 refine J6 ?_;change LM _ _ _ _ _ _ _ _ ((b4,Obj.cells (arr fB Hh []) 9 (0,0))::_) _ _ _;have hs4:Sl fB 9 1 w.heap.size Hh (.slice (some ⟨b4,0,none⟩) 9 9) [(b4,.cells (arr fB Hh []) 9 (0,0))] := .inr ⟨b4,9,[],wG,rfl,rfl,by decide,by unfold maxLen;decide,rfl⟩;have RM:Hh.length=9:=rfl;refine LM.val (c4 qw Tryz.underlying190 Tryz.sizeOf9 rfl rfl om) ?_;refine LM.rd (bt aC ir Tryz.isAgg9 rfl rfl c7 (by rfl)) ?_;refine J4 ?_;refine qL Tryz.results83 rfl fun w' ao aa aA=>?_;refine ⟨?_,aa⟩;show vS _=_;congr 1;first|(rw [I4,if_neg om];done)|(rw [I4,if_pos om];rfl)
theorem GH (k:Int) (w:World) (hk:0<=k/\k<9):aD Tryz.prog 84 #[.int .i64 k] w (fun v w'=>v= .int .i64 (lu k:Nat)/\Ext w w'):=by
 refine aD.ak Tryz.func84 rfl Tryz.ntmps84 rfl ([]) (no) (Mem.nil w) ?_;refine J7 ?_;refine LM.row (vs:=[_,_,_,_,_,_,_,_,_]) Tryz.underlying26 Tryz.sizeOf3 Tryz.zeroValue3 rfl rfl rfl rfl rfl rfl (fun b4 wG=>?_);refine J7 ?_;change LM _ _ _ _ _ _ _ _ ((b4,Obj.cells (arr fI zF []) 3 (0,0))::_) _ _ _;have hs4:Sl fI 3 1 w.heap.size zF (.slice (some ⟨b4,0,none⟩) 9 9) [(b4,.cells (arr fI zF []) 3 (0,0))] := .inr ⟨b4,9,[],wG,rfl,rfl,by decide,by unfold maxLen;decide,rfl⟩;have RM:zF.length=9:=rfl;refine LM.val (c4 qw Tryz.underlying26 Tryz.sizeOf3 rfl rfl om) ?_;refine LM.rd (bt aC ir Tryz.isAgg3 rfl rfl (by exact aH 0 cH) (by rfl)) ?_;refine J4 ?_;refine qL Tryz.results84 rfl fun w' ao aa aA=>?_;refine ⟨?_,aa⟩;show Value.int .i64 (zF.getD k.toNat 0)=_;rw [KS hk]
theorem PA {k:Int} (i:Nat) (n:Int) (w:World) (hi:i<4) (hx:xs.length=4):aD Tryz.prog 85 #[.agg (fA (K4 k xs)).toArray,.int .i64 (i:Nat),.int .i64 n] w (fun v w'=>v= .agg (fA (K4 k (xs.set i n))).toArray/\Ext w w'):=by
 refine aD.ak Tryz.func85 rfl Tryz.ntmps85 rfl ([]) (no) (Mem.nil w) ?_;refine J2 ?_;refine LM.box rfl rfl (fun b3 FM=>?_);refine LM.alloc Tryz.zeroValue39 rfl (fun b6 Qo=>?_);refine J9 ?_;refine af.aj rfl (fun h1=>?_) (fun h1=>?_)
 ·refine J3 ?_;refine LM.st Tryz.sizeOf3 rfl rfl rfl dx rfl bF ?_;refine J4 ?_;refine LM.rd (aR Tryz.isAgg39 Tryz.sizeOf39 rfl rfl) ?_;refine LM.c6 Tryz.sizeOf39 rfl rfl rfl rfl cZ bF ?_;refine J3 ?_;refine QM.aG (ds:=([])) (.inl rfl) [.cell 6 39] Tryz.results85 aV (bU rfl Tryz.isAgg39 Tryz.sizeOf39 rfl aU) ?_;intro w' ao aa;refine ⟨?_,aa⟩;have TD:i=0\/i=1\/i=2\/i=3:=om;match xs,hx with| [a0,a1,a2,a3],_=>(rcases TD with rfl|rfl|rfl|rfl<;>first|rfl|(exfalso;omega))
 refine J6 ?_;refine af.aj rfl (fun h2=>?_) (fun h2=>?_)
 ·refine J3 ?_;refine LM.st Tryz.sizeOf3 rfl rfl rfl dx rfl bF ?_;refine J4 ?_;refine LM.rd (aR Tryz.isAgg39 Tryz.sizeOf39 rfl rfl) ?_;refine LM.c6 Tryz.sizeOf39 rfl rfl rfl rfl cZ bF ?_;refine J3 ?_;refine QM.aG (ds:=([])) (.inl rfl) [.cell 6 39] Tryz.results85 aV (bU rfl Tryz.isAgg39 Tryz.sizeOf39 rfl aU) ?_;intro w' ao aa;refine ⟨?_,aa⟩;have TD:i=0\/i=1\/i=2\/i=3:=om;match xs,hx with| [a0,a1,a2,a3],_=>(rcases TD with rfl|rfl|rfl|rfl<;>first|rfl|(exfalso;omega))
 refine J6 ?_;refine af.aj rfl (fun h3=>?_) (fun h3=>?_)
 ·refine J3 ?_;refine LM.st Tryz.sizeOf3 rfl rfl rfl dx rfl bF ?_;refine J4 ?_;refine LM.rd (aR Tryz.isAgg39 Tryz.sizeOf39 rfl rfl) ?_;refine LM.c6 Tryz.sizeOf39 rfl rfl rfl rfl cZ bF ?_;refine J3 ?_;refine QM.aG (ds:=([])) (.inl rfl) [.cell 6 39] Tryz.results85 aV (bU rfl Tryz.isAgg39 Tryz.sizeOf39 rfl aU) ?_;intro w' ao aa;refine ⟨?_,aa⟩;have TD:i=0\/i=1\/i=2\/i=3:=om;match xs,hx with| [a0,a1,a2,a3],_=>(rcases TD with rfl|rfl|rfl|rfl<;>first|rfl|(exfalso;omega))
 refine J3 ?_;refine LM.st Tryz.sizeOf3 rfl rfl rfl dx rfl bF ?_;refine J4 ?_;refine LM.rd (aR Tryz.isAgg39 Tryz.sizeOf39 rfl rfl) ?_;refine LM.c6 Tryz.sizeOf39 rfl rfl rfl rfl cZ bF ?_;refine J3 ?_;refine QM.aG (ds:=([])) (.inl rfl) [.cell 6 39] Tryz.results85 aV (bU rfl Tryz.isAgg39 Tryz.sizeOf39 rfl aU) ?_;intro w' ao aa;refine ⟨?_,aa⟩;have TD:i=0\/i=1\/i=2\/i=3:=om;match xs,hx with| [a0,a1,a2,a3],_=>(rcases TD with rfl|rfl|rfl|rfl<;>first|rfl|(exfalso;omega))
theorem X1 (h:cX ws i≠0) (h2:rf ws i=(j,5,xs)):j2 ws i=(default,j,5):=by unfold j2;rw [if_neg h,h2,if_pos (show (5:Int)≠0 by decide)]
theorem Vb (h:cX ws i≠0) (h2:rf ws i=(j,0,xs)) (h3:jd ws j 3 [59] =false):j2 ws i=(default,j,5):=by unfold j2;rw [if_neg h,h2,if_neg (fun q=>q rfl),if_neg (by rw [h3];simp)]
theorem RB (h:cX ws i≠0) (h2:rf ws i=(j,0,xs)) (h3:jd ws j 3 [59] =true):j2 ws i=(K4 (cX ws i) xs,j+1,0):=by unfold j2;rw [if_neg h,h2,if_neg (fun q=>q rfl),if_pos h3]
theorem Jz {f:Nat} (hf:0<f) (h:(decide (ws.length<=j)||decide ((ws.getD j default).k≠2))=true):yv ws f j i xs=(j,5,xs):=by
  obtain ⟨g,rfl⟩:∃g,f=g+1:=⟨f-1,by omega⟩
  unfold yv;rw [if_pos h]
theorem J0 {f:Nat} (hf:0<f) (h:(decide (ws.length<=j)||decide ((ws.getD j default).k≠2))=false):yv ws f j i xs=yv ws (f-1) (j+1) (i+1) (xs.set i (ws.getD j default).n):=by
  obtain ⟨g,rfl⟩:∃g,f=g+1:=⟨f-1,by omega⟩
  conv=>lhs;unfold yv
  rw [if_neg (by rw [h];simp),Nat.add_sub_cancel]
def AcT (r:List Act×Int×Int) (n0:Nat) (v:Value) (m:ab):Prop:=∃ad n cap,v= .tuple #[.slice ad n cap,.int .i64 r.2.1,.int .i64 r.2.2]/\n=r.1.length/\Sl fA 39 5 n0 r.1 (.slice ad n cap) m
theorem AcT.mono {r:List Act×Int×Int} :∀(k k':Nat) u m,k'<=k->AcT r k u m->AcT r k' u m:=fun k k' u m h ⟨ad,n,cap,h1,h2,h3⟩=>⟨ad,n,cap,h1,h2,h3.mono h⟩
def nY (ws:List bA) (i:Nat):Nat->Int
  |0=>0
  |m+1=>if jd ws i 1 (I4 ((m+1:Nat):Int)) then ((m+1:Nat):Int) else nY ws i m
theorem SA (h:k<9):I4 (k:Int)=Hh.getD k [] :=by unfold I4;rw [if_pos om,Int.toNat_natCast]
theorem Nm (ws:List bA) (i:Nat):nY ws i 8=cX ws i:=by
  unfold cX
  cases hc:(decide (i<ws.length)&&decide ((ws.getD i default).k=1)) with
  |false=>
    rw [if_neg (by simp)]
    have:∀m,nY ws i m=0:=by
      intro m
      induction m with
      |zero=>rfl
      |succ m ih=>unfold nY jd;rw [hc,Bool.false_and,if_neg (by simp),ih]
    exact this 8
  |true=>
    rw [if_pos rfl,<-Ii]
    have:∀m,m<=8->nY ws i m=D3 (ws.getD i default).t m:=by
      intro m
      induction m with
      |zero=>intro _;rfl
      |succ m ih=>
        intro hm
        unfold nY D3 jd;rw [hc,Bool.true_and,ih om,SA om]
        by_cases q:(ws.getD i default).t=Hh.getD (m+1) []
        ·rw [if_pos q,if_pos (decide_eq_true q)]
        ·rw [if_neg q,if_neg (by rw [decide_eq_false q];simp)]
    exact this 8 (Nat.le_refl _)
theorem SP (h1:1<=k) (h:jd ws i 1 (I4 (k:Int))=true):nY ws i k=(k:Int):=by
  obtain ⟨m,rfl⟩:∃m,k=m+1:=⟨k-1,by omega⟩
  unfold nY;rw [if_pos h]
theorem Q2 (h1:1<=k) (h:jd ws i 1 (I4 (k:Int))=false):nY ws i k=nY ws i (k-1):=by
  obtain ⟨m,rfl⟩:∃m,k=m+1:=⟨k-1,by omega⟩
  rw [show m+1-1=m by omega]
  conv=>lhs;unfold nY
  rw [if_neg (by rw [h];simp)]
theorem QN (h:i<ws.length) (h0:cX ws i=0):kA ws i out=([],(i:Int),5):=by rw [mM h,if_pos h0]
theorem Rk (h:i<ws.length) (h0:cX ws i≠0) (h1:out.length=4000):kA ws i out=([],(i:Int),6):=by rw [mM h,if_neg h0,if_pos h1]
theorem Il (h:i<ws.length) (h0:cX ws i≠0) (h1:out.length≠4000) (he:j2 ws i=(default,j,5)):kA ws i out=([],(j:Int),5):=by rw [mM h,if_neg h0,if_neg h1,if_pos (by rw [he];exact(show (5:Int)≠0 by decide)),he]
theorem SD {a:Act} (h:i<ws.length) (h0:cX ws i≠0) (h1:out.length≠4000) (he:j2 ws i=(a,j,0)):kA ws i out=kA ws j (out++ [a]):=by rw [mM h,if_neg h0,if_neg h1,if_neg (by rw [he];exact fun q=>q rfl),he]
set_option maxHeartbeats 1000000 in
theorem A4 {ad:Option Addr} {n cap:Nat} (p:Int) (w:World) (hn:n=ws.length) (hx:ws.length<=1000000000) (hl:Sr fW 4 ws (.slice ad n cap) w):aD Tryz.prog 34 #[.slice ad n cap,.int .i64 p] w (fun v w'=>Ext w w'/\∃m,AcT (k5 ws p) w.heap.size v m/\Mem w' m/\∀p∈m,w.heap.size<=p.1):=by
 refine aD.ak Tryz.func34 rfl Tryz.ntmps34 rfl ([]) (no) (Mem.nil w) ?_;refine gz ?_;refine LM.aw (t:=14) rfl (fun h1=>?_) (fun h1=>?_)
 ·refine yA ?_;refine QM.leave (.inl rfl) [.tmp 4,.tmp 5,.tmp 6] Tryz.results34 rfl ?_;intro w' ao aa aA;have r5:k5 ws p=([],0,5):=(by unfold k5;rw [if_pos om]);rw [r5];exact⟨aa,[],⟨none,0,0,rfl,rfl,.nil _ _ _ _⟩,Mem.nil _,fun p hp=>by cases hp⟩
 refine J7 ?_;refine af.aj rfl (fun h2=>?_) (fun h2=>?_)
 ·refine J9 ?_;refine QM.leave (.inl rfl) [.tmp 4,.tmp 5,.tmp 6] Tryz.results34 rfl ?_;intro w' ao aa aA;have r5:k5 ws p=([],0,5):=(by unfold k5;rw [if_pos om]);rw [r5];exact⟨aa,[],⟨none,0,0,rfl,rfl,.nil _ _ _ _⟩,Mem.nil _,fun p hp=>by cases hp⟩
 obtain ⟨i0,rfl⟩:∃i0:Nat,p=(i0:Nat):=⟨p.toNat,by omega⟩;have tY:i0<=ws.length:=om;refine J9 ?_;refine af.aO (α:=Nat×List Act×Option Addr×Nat×Nat×ab) (fun ⟨i,out,eu,no,bP,mo⟩=>[(1,.int .i64 (i:Nat)),(7,.slice eu no bP)]) [(0,_)] (fun ⟨i,out,eu,no,bP,mo⟩=>mo++ []) (fun ⟨i,out,eu,no,bP,mo⟩=>i<=ws.length/\kA ws i out=kA ws i0 []/\no=out.length/\Sl fA 39 5 w.heap.size out (.slice eu no bP) mo/\out.length<=4000) (fun ⟨i,out,eu,no,bP,mo⟩=>ws.length-i) ((i0,[],none,0,0,[])) cA aX ⟨by omega,rfl,rfl,.nil _ _ _ _,by decide⟩ ?_;rintro ⟨i,out,eu,no,bP,mo⟩ ⟨hi,hL,gK,kH,Lj⟩;change af _ _ _ _ _ _ _ (mo++ []) _ _ _;refine J9 ?_;refine af.aj rfl (fun h3=>?_) (fun h3=>?_)
 ·have KH:i<ws.length:=om;refine rA ?_;refine af.aO (α:=Nat×Int) (fun ⟨k,kd⟩=>[(8,.int .i64 kd),(9,.int .i64 (k:Nat))]) [(0,_),(1,_),(7,_)] (fun ⟨k,kd⟩=>mo++ []) (fun ⟨k,kd⟩=>1<=k/\k<=9/\kd=nY ws i (k-1)) (fun ⟨k,kd⟩=>9-k) ((1,0)) cA aX ⟨by omega,by omega,rfl⟩ ?_;rintro ⟨k,kd⟩ ⟨y6,Vs,Sn⟩;change af _ _ _ _ _ _ _ (mo++ []) _ _ _;refine J7 ?_;refine af.aj rfl (fun h4=>?_) (fun h4=>?_)
  ·refine J5 ?_;refine af.bB (α:=Bool) (fun q=>[(43,.bool q)]) [(0,_),(1,_),(7,_),(8,_),(9,_)] (fun q=>mo++ []) (fun q=>q=jd ws i 1 (I4 (k:Int))) cA ?_ ?_
   ·refine af.draw [(0,0),(1,0),(2,0),(3,0),(4,1),(5,0),(6,0),(7,0),(8,0),(9,0),(10,0),(11,1),(12,0),(13,2),(14,0),(15,0)] kr kr ?_;refine J4 ?_;refine LD.dV rfl rfl (db (j:=0) aC Tryz.isAgg3 rfl rfl c7 (by rfl) (by rfl) id) ?_;refine J2 ?_;refine LD.aw (t:=34) rfl (fun h5=>?_) (fun h5=>?_)
    ·refine J4 ?_;refine LD.dV rfl ⟨34,_,rfl,rfl,rfl⟩ (db (j:=1) aC Tryz.isAgg9 rfl rfl c7 (by rfl) (by rfl) id) ?_;refine J1 ?_;refine dE rfl ⟨34,_,rfl,rfl,rfl⟩ Tryz.func83 rfl (fun w hm hc hg=>DH _ w) ?_;refine LD.val rfl ⟨34,_,rfl,rfl,rfl⟩ (sj rfl rfl) ?_;refine J2 ?_;refine mK (_) ?_
     ·unfold jd;rw [decide_eq_true KH,decide_eq_true (show (ws.getD i default).k=1 by omega)];rfl
    refine cF ?_;refine mK (_) ?_
    ·unfold jd;rw [decide_eq_false (show¬(ws.getD i default).k=1 by omega)];simp
   rintro q hq;change QM _ _ _ _ _ (mo++ []) _ _ _;refine J1 ?_;refine af.aN rfl (fun h6=>?_) (fun h6=>?_)
   ·refine dc ?_;refine aK ((k+1,(k:Int))) ?_ ?_
    ·exact⟨by omega,by omega,(SP y6 (hq.symm.trans h6)).symm⟩
    ·(dsimp only;omega)
   refine J8 ?_;refine aK ((k+1,kd)) ?_ ?_
   ·exact⟨by omega,by omega,by rw [Sn];exact(Q2 y6 (hq.symm.trans h6)).symm⟩
   ·(dsimp only;omega)
  obtain rfl:k=9:=om;obtain rfl:kd=cX ws i:=Sn.trans (Nm ws i);have hkr:=JO ws i;refine cM ?_;refine af.aj rfl (fun h7=>?_) (fun h7=>?_)
  ·refine kR ?_;refine QM.leave (.inl rfl) [.tmp 4,.tmp 5,.tmp 6] Tryz.results34 rfl ?_;intro w' ao aa aA;rw [o6 tY,<-hL,QN KH om];exact⟨aa,[],⟨none,0,0,rfl,rfl,.nil _ _ _ _⟩,Mem.nil _,fun p hp=>by cases hp⟩
  refine cF ?_;refine af.aj rfl (fun h8=>?_) (fun h8=>?_)
  ·refine kR ?_;refine QM.leave (.inl rfl) [.tmp 4,.tmp 5,.tmp 6] Tryz.results34 rfl ?_;intro w' ao aa aA;rw [o6 tY,<-hL,Rk KH h7 om];exact⟨aa,[],⟨none,0,0,rfl,rfl,.nil _ _ _ _⟩,Mem.nil _,fun p hp=>by cases hp⟩
  refine cM ?_;refine LM.val (aE (cs:=#[_,_,_,_,_]) rfl (by first|rfl|kernel_rfl)) ?_;refine LM.alloc Tryz.zeroValue39 rfl (fun vp Md=>?_);refine LM.c6 Tryz.sizeOf39 rfl rfl rfl rfl cZ bF ?_;refine J9 ?_;refine af.aO (α:=Nat×Nat×List Int) (fun ⟨k,j,xs⟩=>[(1,.int .i64 (j:Nat)),(11,.int .i64 (k:Nat))]) [(0,_),(7,_),(8,_),(10,_)] (fun ⟨k,j,xs⟩=>(vp,.cells (fA (K4 (cX ws i) xs)).toArray 39 (0,0))::(mo++ [])) (fun ⟨k,j,xs⟩=>k<=lu (cX ws i)/\j<=ws.length/\xs.length=4/\yv ws (lu (cX ws i)-k) j k xs=rf ws i) (fun ⟨k,j,xs⟩=>lu (cX ws i)-k) ((0,i+1,Yl)) cA aX ⟨Nat.zero_le _,by omega,rfl,rfl⟩ ?_;rintro ⟨k,j,xs⟩ ⟨hkm,hj,hx4,hN⟩;change af _ _ _ _ _ _ _ ((vp,.cells (fA (K4 (cX ws i) xs)).toArray 39 (0,0))::(mo++ [])) _ _ _;have hm4:=Pk (cX ws i);refine J5 ?_;refine cE Tryz.func84 rfl (fun w hm hc hg=>GH _ w om) ?_;refine J3 ?_;refine af.aj rfl (fun h9=>?_) (fun h9=>?_)
  ·refine J6 ?_;refine af.bB (α:=Bool) (fun q=>[(73,.bool q)]) [(0,_),(1,_),(7,_),(8,_),(10,_),(11,_)] (fun q=>(vp,.cells (fA (K4 (cX ws i) xs)).toArray 39 (0,0))::(mo++ [])) (fun q=>q=(decide (ws.length<=j)||decide ((ws.getD j default).k≠2))) cA ?_ ?_
   ·refine J6 ?_;refine LM.aw (t:=66) rfl (fun je=>?_) (fun je=>?_)
    ·refine J8 ?_;refine mK (_) ?_
     ·rw [decide_eq_true (show ws.length<=j by omega),Bool.true_or]
    refine J2 ?_;refine LM.sp 66 rfl rfl rfl ?_;refine J3 ?_;refine LM.dV (db (j:=0) aC Tryz.isAgg3 rfl rfl c7 (by rfl) (by rfl) id) ?_;refine J3 ?_;refine mK (_) ?_
    ·rw [decide_eq_false (show¬ws.length<=j by omega),Bool.false_or]
   rintro q hq;change QM _ _ _ _ _ ((vp,.cells (fA (K4 (cX ws i) xs)).toArray 39 (0,0))::(mo++ [])) _ _ _;refine J1 ?_;refine af.aN rfl (fun lK=>?_) (fun lK=>?_)
   ·refine UT ?_;refine QM.leave (.inl rfl) [.tmp 4,.tmp 5,.tmp 6] Tryz.results34 rfl ?_;intro w' ao aa aA;have hNK:rf ws i=(j,5,xs):=(by rw [<-hN,Jz om (hq.symm.trans lK)]);rw [o6 tY,<-hL,Il KH h7 om (X1 h7 hNK)];exact⟨aa,[],⟨none,0,0,rfl,rfl,.nil _ _ _ _⟩,Mem.nil _,fun p hp=>by cases hp⟩
   have hjn:j<ws.length:=(by have h:=hq.symm.trans lK;simp only [Bool.or_eq_false_iff,decide_eq_false_iff_not] at h;omega)
   refine J3 ?_;refine af.draw [(0,1),(1,0),(2,0),(3,0),(4,0),(5,0),(6,1),(7,2),(8,3)] kr kr ?_;refine LD.rd rfl rfl (aR Tryz.isAgg39 Tryz.sizeOf39 rfl rfl) ?_;refine J5 ?_;refine LD.dV rfl rfl (db (j:=2) aC Tryz.isAgg3 rfl rfl c7 (by rfl) (by rfl) id) ?_;refine dE rfl rfl Tryz.func85 rfl (fun w hm hc hg=>PA k _ w om hx4) ?_;refine LD.tail rfl rfl ?_;refine LM.c6 Tryz.sizeOf39 rfl rfl rfl rfl cZ bF ?_;refine J1 ?_;refine QM.qn ?_;refine gz ?_;refine aK ((k+1,j+1,xs.set k (ws.getD j default).n)) ?_ ?_
   ·exact⟨by omega,by omega,by simpa using hx4,by rw [show lu (cX ws i)-(k+1)=lu (cX ws i)-k-1 by omega,<-J0 om (hq.symm.trans lK)];exact hN⟩
   ·(dsimp only;omega)
  refine J7 ?_;refine af.bB (α:=Bool) (fun q=>[(104,.bool q)]) [(0,_),(1,_),(7,_),(10,_)] (fun q=>(vp,.cells (fA (K4 (cX ws i) xs)).toArray 39 (0,0))::(mo++ [])) (fun q=>q= !jd ws j 3 [59]) cA ?_ ?_
  ·refine J6 ?_;refine LM.aw (t:=89) rfl (fun rz=>?_) (fun rz=>?_)
   ·refine Ai ?_;refine mK (_) ?_
    ·unfold jd;rw [decide_eq_false (show¬j<ws.length by omega)];rfl
   refine J2 ?_;refine LM.sp 89 rfl rfl rfl ?_;refine J3 ?_;refine LM.dV (db (j:=0) aC Tryz.isAgg3 rfl rfl c7 (by rfl) (by rfl) id) ?_;refine J3 ?_;refine LM.aw (t:=97) rfl (fun tz=>?_) (fun tz=>?_)
   ·refine J8 ?_;refine mK (_) ?_
    ·unfold jd;rw [decide_eq_true (show j<ws.length by omega),decide_eq_false (show¬(ws.getD j default).k=3 by omega)];rfl
   refine J2 ?_;refine LM.sp 97 rfl rfl rfl ?_;refine J3 ?_;refine LM.dV (db (j:=1) aC Tryz.isAgg9 rfl rfl c7 (by rfl) (by rfl) id) ?_;refine LM.sp 97 rfl rfl rfl ?_;refine LM.val (DY rfl rfl) ?_;refine J2 ?_;refine mK (_) ?_
   ·unfold jd;rw [decide_eq_true (show j<ws.length by omega),decide_eq_true (show (ws.getD j default).k=3 by omega)];simp only [Bool.true_and,decide_not]
  rintro q hq;change QM _ _ _ _ _ ((vp,.cells (fA (K4 (cX ws i) xs)).toArray 39 (0,0))::(mo++ [])) _ _ _;refine J1 ?_;refine af.aN rfl (fun nW=>?_) (fun nW=>?_)
  ·refine kR ?_;refine QM.leave (.inl rfl) [.tmp 4,.tmp 5,.tmp 6] Tryz.results34 rfl ?_;intro w' ao aa aA;have hNK:rf ws i=(j,0,xs):=(by rw [<-hN,show lu (cX ws i)-k=0 by omega];rfl);rw [o6 tY,<-hL,Il KH h7 om (Vb h7 hNK (by simpa using hq.symm.trans nW))];exact⟨aa,[],⟨none,0,0,rfl,rfl,.nil _ _ _ _⟩,Mem.nil _,fun p hp=>by cases hp⟩
  refine dc ?_;refine LM.rd (aR Tryz.isAgg39 Tryz.sizeOf39 rfl rfl) ?_;refine LM.single Tryz.underlying22 Tryz.sizeOf39 Tryz.zeroValue39 rfl rfl rfl rfl rfl (fun amO ame=>?_);refine LM.app (a:=K4 (cX ws i) xs) Tryz.underlying22 Tryz.typeInfo39 rfl rfl rfl rfl rfl rfl rfl aC (by rfl) ir (by intro _ u hu;simp [fA] at hu;(repeat (first|(rcases hu with rfl|hu)|subst hu|rfl))) (by first|exact Nat.le_refl _|omega) kU (by first|omega|(unfold maxLen;omega)) (by simp only [Tryz.t39];omega) (fun ac2 af9 Xr ajj acD abC afM=>?_);refine J3 ?_;have hNK:rf ws i=(j,0,xs):=(by rw [<-hN,show lu (cX ws i)-k=0 by omega];rfl);have hjs:jd ws j 3 [59] =true:=(by simpa using hq.symm.trans nW);have Bu:=RB h7 hNK hjs;have bo:=BK (ws:=ws) (i:=i) (by rw [Bu]);rw [Bu] at bo;have bo:i<j+1/\j+1<=ws.length:=bo;refine aK ((j+1,out++ [K4 (cX ws i) xs],ac2,af9,Xr,ajj)) ?_ ?_
  ·exact⟨bo.2,(SD KH h7 om Bu).symm.trans hL,by rw [acD];simp,abC,by simp;omega⟩
  ·(dsimp only;omega)
 refine rA ?_;refine QM.leave (.inl rfl) [.tmp 4,.tmp 5,.tmp 6] Tryz.results34 rfl ?_;intro w' ao aa aA;rw [o6 tY,<-hL,Kt om];exact⟨aa,mo,⟨eu,no,bP,rfl,gK,kH⟩,ao.pick _,fun p hp=>Sl.ge kH p hp⟩
end Go.Eng
namespace Go.Eng
open Go Go.RowKit
variable {out:List Act} {xs:List Int} {ws:List bA} {b i j k n0 t:Nat} {m:ab} {o:bO} {s:dU}
theorem qk (s:List UInt8):∀(f i:Nat) (last:Int) (out:List bA),(kD f s i last out).1.length<=out.length+f
  |0,i,last,out=>Nat.le_refl _
  |f+1,i,last,out=>by
    rw [kD]
    split
    ·show out.length<=_;omega
    split
    ·have:=qk s f (i+1) last out;omega
    split
    ·have:=qk s f (i+gI k7 s i) last out;omega
    split
    ·exact Nat.zero_le _
    ·have:=qk s f (fV s i).2.1 ((fV s i).2.1:Nat) (out++ [(fV s i).1]);rw [List.length_append,List.length_singleton] at this;omega
theorem PY (s:List UInt8):(eG s).1.length<=s.length:=by
  unfold eG;split
  ·exact Nat.zero_le _
  ·have:=qk s (s.length-0) 0 (-1) [];unfold iK;simp only [List.length_nil] at this;omega
end Go.Eng
