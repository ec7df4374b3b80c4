/- The walks of the document's machine: who is due is woken; a task is moved. No condition. -/
import Derived.Test.YtdimfmnimobmfaaGreatM2
import Derived.Test.YtdimfmnimobmfaaGreatM5
import Derived.Test.YtdimfmnimobmfaaGreatM3
set_option linter.unusedVariables false
set_option linter.unusedSectionVars false
set_option linter.unusedSimpArgs false
set_option maxRecDepth 100000
set_option maxHeartbeats 4000000
attribute [local irreducible] Go.Eng.LM Go.Eng.LD Go.Eng.KD Go.Eng.af Go.Eng.QM
namespace Go.Eng
open Go Go.Proofs Go.RowKit
theorem vn {n0 b k t:Nat} {s:eL} {x:aC} {m:aa} (c:Int) (w:World) (h:dY n0 b s x m) (hI:MI k x) (hk:k≤700000000000) (ht:t<x.ts.length) (cb:n0≤w.heap.size) (hM:Mem w m):aJ Tryz.prog 28 #[.pointer (some ⟨b,0,none⟩),.int .i64 (t:Nat),.int .i64 c] w (eI m (fun u m'=>u= .tuple #[]∧dY n0 b s (sw x t c) m') w):=by
 obtain ⟨P,rfl,h⟩:=h;have rP:=h.nt;have er:=h.st;have uf:=hI.tl;have z4:=hI.ev;obtain ⟨ig,ii,il,ip,ix,it,iv,ie,ic,iq⟩:=bM (ay (az b s x.now P) w.heap.size);have q0:=hI.tb t ht;have oE:=(hI.up ht (y:= {gT x t with co:=c}) ⟨q0.pr,q0.pc,q0.lf,q0.ti,q0.l4,q0.un⟩).kc 13 t (-1) c;refine aJ.au Tryz.func28 rfl Tryz.ntmps28 rfl (az b s x.now P++ []) ((fS (az b s x.now P))) aM ?_;refine cf ?_;refine LM.iF ({gT x t with co:=c}) (j:=3) aA ir Tryz.sizeOf3 rfl rfl rfl (by first|exact bF om|exact aQ default cL) rfl (by decide) (by rfl) rfl (ao aA) (fun ly dc dK=>?_)
 try rw [List.set_set] at dc
 have Gb:=ca dK aA;refine J4 ?_;have xe:dY n0 b s (dk x t {gT x t with co:=c}) (az b s x.now {P with mt:=ly}):=fN.m {h with nt:=(by rw [bt];exact rP),st:=dc};refine J3 ?_;refine cU Tryz.func55 rfl (fun w hm hc hg=>bV 13 (t:Nat) (-1) c w xe (by show x.ev.length≤_;omega) (Nat.le_trans cb hc.size) (hm.pick _)) xe.bW (ao aL) ?_;rintro u17 Qu ⟨rfl,pC⟩ Zh;have i17:cZ (az b s x.now P) w.heap.size Qu:=ak aL Zh;refine J4 ?_;refine cU Tryz.func31 rfl (fun w hm hc hg=>jd w pC oE (Nat.le_trans cb hc.size) (hm.pick _)) pC.bW (ao i17) ?_;rintro u19 Xu ⟨rfl,Cw⟩ V8;refine J1 ?_;refine QM.leave (.inr rfl) [] Tryz.results28 rfl ?_;intro w' aq ab aI;exact aZ (m':=Xu) ⟨rfl,Cw⟩ aq aX ab (ak i17 V8)
set_option maxHeartbeats 2000000 in
theorem ve {n0 b k:Nat} {s:eL} {x:aC} {m:aa} (w:World) (h:dY n0 b s x m) (hI:MI k x) (hk:k≤700000000000) (cb:n0≤w.heap.size) (hM:Mem w m):aJ Tryz.prog 26 #[.pointer (some ⟨b,0,none⟩)] w (eI m (fun u m'=>u= .tuple #[]∧dY n0 b s (uP x) m') w):=by
 obtain ⟨P,rfl,h⟩:=h;have uf:=hI.tl;have hdl:=tQ x x.ts.length;refine aJ.au Tryz.func26 rfl Tryz.ntmps26 rfl (az b s x.now P++ []) ((fS (az b s x.now P))) aM ?_;refine J3 ?_;refine LM.cS (oC Tryz.func59) (fun w hm hc hg=>CU w h.m uf (hm.pick _)) (fun JH n9 vH m9 Z0 UL=>?_);refine cf ?_;refine af.aS (α:=Nat×aC×sD) (fun ⟨i,y,Q⟩=>[(3,.int .i64 (i:Nat))]) [(0,_),(2,_)] (fun ⟨i,y,Q⟩=>az b s x.now Q++(m9++ [])) (fun ⟨i,y,Q⟩=>i≤(nr x).length∧y=xN x ((nr x).take i)∧fN n0 b s y Q∧cZ (az b s x.now P) w.heap.size (az b s x.now Q)) (fun ⟨i,y,Q⟩=>(nr x).length-i) ((0,x,P)) cm aX ⟨Nat.zero_le _,rfl,h,ay _ _⟩ ?_;rintro ⟨i,y,Q⟩ ⟨hi,hy,hQ,xw⟩;change af _ _ _ _ _ _ _ (az b s x.now Q++(m9++ [])) _ _ _;have hml:((nr x).map (fun (j:Nat)=>(j:Int))).length=(nr x).length:=List.length_map ..;have qa:=qY ((nr x).take i) x;rw [←hy] at qa;have YK:=hI.xN (l:=(nr x).take i) (fun t ht=>iX x _ t (List.mem_of_mem_take ht));rw [←hy] at YK;have KL:=List.length_take_le i (nr x);have alD:(nr x).length≤x.ts.length:=hdl;have iA:MI (k+2560) y:=YK.mono om;have ri:y.ts.length=x.ts.length:=qa.1;have mu:y.now=x.now:=qa.2.2.2;obtain ⟨ig,ii,il,ip,ix,it,iv,ie,ic,iq⟩:=bM xw;have pk:dY n0 b s y (az b s x.now Q):=hQ.m;have er:=hQ.st;have rP:=hQ.nt;have z4:=iA.ev;refine J9 ?_;refine af.aj rfl (fun h1=>?_) (fun h1=>?_)
 ·obtain ⟨t,xu⟩:∃t:Nat,(nr x).getD i 0=t:=⟨_,rfl⟩;have ht:t<y.ts.length:=(by rw [ri,←xu];exact iX x _ _ (List.mem_of_getElem? (aQ 0 (show i<(nr x).length by omega))));have HN:((nr x).map (fun (j:Nat)=>(j:Int))).getD i 0=(t:Int):=(by rw [Ch om,xu])
  refine J9 ?_;refine LM.rd (bw aA ir Tryz.isAgg3 rfl rfl (by first|exact bF om|exact aQ 0 cL) (by rfl)) ?_;refine J6 ?_;rw [HN];refine J7 ?_;refine LM.rd (aH (j:=7) aA ir Tryz.isAgg41 rfl rfl (by first|exact bF om|exact aQ default cL) rfl (by rfl)) ?_;refine LM.val (qF (b:=0#64) rfl rfl) ?_;refine J2 ?_;refine af.aj rfl (fun h2=>?_) (fun h2=>?_)
  ·refine J9 ?_;refine aK (i+1,o1 y t,Q) ?_ ?_
   · exact⟨by omega,by rw [bD 0 om,uR,←hy,xu],by rw [show o1 y t=y from if_pos h2];exact hQ,xw⟩
   · (dsimp only;omega)
  refine cK ?_;refine LM.rd (aH (j:=6) aA ir Tryz.isAgg3 rfl rfl (by first|exact bF om|exact aQ default cL) rfl (by rfl)) ?_;refine J3 ?_;refine af.aj rfl (fun h3=>?_) (fun h3=>?_)
  ·refine J4 ?_;refine cU Tryz.func60 rfl (fun w hm hc hg=>pX t w pk ht iA.vl om (Nat.le_trans cb hc.size) (hm.pick _)) pk.bW (ao xw) ?_;rintro u40 XA ⟨rfl,Cq⟩ pf;obtain ⟨P1,kR,Cq⟩:=Cq;rw [show (fe y t).now=x.now from mu] at kR;subst kR;have i40:=ak xw pf;refine dB ?_;refine aK (i+1,o1 y t,P1) ?_ ?_
   · exact⟨by omega,by rw [bD 0 om,uR,←hy,xu],by rw [show o1 y t=fe y t by unfold o1;rw [if_neg h2,if_pos h3]];exact Cq,i40⟩
   · (dsimp only;omega)
  have hl4:=(iA.tb t ht).l4 (((iA.tb t ht).un h2).resolve_left h3);obtain ⟨l,tI⟩:∃l:Nat,(y.ts.getD t default).lk=(l:Nat):=⟨(gT y t).lk.toNat,(Int.toNat_of_nonneg hl4.1).symm⟩;have aeI:(gT y t).lk=(l:Int):=tI;have gZ:l<y.lk.length:=(by rw [iA.ll];omega);have hL:=iA.li l gZ;have hLh:=hL.hl;have uN:=hQ.nl;have sY:=hQ.bl;have gh:=hQ.sl;have hfi:o1 y t=dz (fe (du (bJ (ba (bh y l (fw (gL y l) t)) 8 t l 10) t) t) t) l (o9 (gL y l) t):=(by unfold o1;rw [if_neg h2,if_neg h3,aeI];rfl);have hIp:=(iA.bh (l:=l) (hL.lv t)).kc 8 t l 10;have akv:=iA.tl;refine dB ?_;refine LM.rd (aH (j:=8) aA ir Tryz.isAgg3 rfl rfl (by first|exact bF om|exact aQ default cL) rfl (by rfl)) ?_;refine J5 ?_;rw [tI];refine J6 ?_;refine LM.rd (bw aA ir Tryz.isAgg54 rfl rfl (by first|exact bF om|exact aQ default cL) (by rfl)) ?_;refine J1 ?_;refine cU Tryz.func61 rfl (fun w hm hc hg=>EH hQ.sq gZ (hm.pick Q.mq) (fun m hr hM=>rG (k:=n0) (t:Nat) w hL.w hr (Nat.le_trans cb hc.size) (by show (gL y l).ho.length≤900;omega) (Nat.le_trans cb hc.size) hM)) (hQ.sq.bW C8) (ao iq) ?_;rintro u58 Uy ⟨mr,Bd,⟨adr,Tk,rfl,CN⟩,rfl,BD⟩ ql;refine LM.assoc ?_;have i58:cZ (az b s x.now P) w.heap.size Bd:=fun p hp=>ak iq ql p (List.mem_append_right _ hp);have xe:dY n0 b s (bh y l (fw (gL y l) t)) (az b s x.now {Q with mq:=Bd}):=fN.m (hn:=mu) {hQ with nl:=(by rw [cA];exact uN),bl:=(by rw [cA];exact sY),sq:=BD};refine cK ?_;refine cU Tryz.func55 rfl (fun w hm hc hg=>bV 8 (t:Nat) (l:Nat) 10 w xe (by show y.ev.length≤_;omega) (Nat.le_trans cb hc.size) (hm.pick _)) xe.bW (ao aL) ?_;rintro u64 m64 ⟨rfl,zX⟩ v8;obtain ⟨P1,kR,zX⟩:=zX;rw [show (ba (bh y l (fw (gL y l) t)) 8 t l 10).now=x.now from mu] at kR;subst kR;have i64:cZ (az b s x.now P) w.heap.size (az b s x.now P1):=ak aL v8;clear ig ii il ip ix it iv ie ic iq;obtain ⟨ig,ii,il,ip,ix,it,iv,ie,ic,iq⟩:=bM i64;have Ea:Sl Ha 66 12 n0 y.ts (.slice P1.DE P1.nt P1.ct) P1.mt:=zX.st;have wN:P1.nt=y.ts.length:=zX.nt;have TQ:Sl fU 41 1 n0 y.g (.slice P1.ax P1.nx P1.cx) P1.mx:=zX.sx;have ajt:=zX.nx;have abP:y.g.length=64:=zX.gl;have Te:0≤(y.ts.getD t default).pc∧(y.ts.getD t default).pc≤((k+2560:Nat):Int):=(iA.tb t ht).pc;refine dB ?_;refine LM.rd (aH (j:=4) aA ir Tryz.isAgg3 rfl rfl (by first|exact bF om|exact aQ default cL) rfl (by rfl)) ?_;refine J3 ?_;refine LM.iF (rM (gT y t)) (j:=4) aA ir Tryz.sizeOf3 rfl rfl rfl (by first|exact bF om|exact aQ default cL) rfl (by decide) (by rfl) rfl (ao aA) (fun ly dc dK=>?_)
  try rw [List.set_set] at dc
  have Gb:=ca dK aA;refine gw ?_;refine LM.iF (0#64) (j:=0) aA ir Tryz.sizeOf41 rfl rfl rfl (by first|exact bF om|exact aQ 0#64 cL) rfl (by decide) (by rfl) rfl (ao aA) (fun jZ fQ kj=>?_)
  try rw [List.set_set] at fQ
  have H6:=ca kj aA;refine J4 ?_;have wB:dY n0 b s (du (bJ (ba (bh y l (fw (gL y l) t)) 8 t l 10) t) t) (az b s x.now {P1 with mt:=ly,mx:=jZ}):=fN.m (hn:=mu) {zX with nt:=(by show _=(y.ts.set t _).length;rw [List.length_set];exact wN),st:=dc,gl:=(by show (y.g.set t _).length=64;rw [List.length_set];exact abP),sx:=fQ};have p8:=(hIp.inc (t:=t) ht).cut (t:=t) (by show t<(y.ts.set _ _).length;rw [List.length_set];exact ht);have UJ:t<(du (bJ (ba (bh y l (fw (gL y l) t)) 8 t l 10) t) t).ts.length:=(by show t<(y.ts.set _ _).length;rw [List.length_set];exact ht)
  refine J2 ?_;refine cU Tryz.func60 rfl (fun w hm hc hg=>pX t w wB UJ p8.vl (by have:=p8.ev;omega) (Nat.le_trans cb hc.size) (hm.pick _)) wB.bW (ao aL) ?_;rintro u87 m87 ⟨rfl,h87⟩ YL;have i87:cZ (az b s x.now P) w.heap.size m87:=ak aL YL;refine J6 ?_;refine cU Tryz.func62 rfl (fun w hm hc hg=>lC (l:=l) w h87 (p8.Dc UJ) om (by show l<(y.lk.set _ _).length;rw [List.length_set];exact gZ) (fun u hu=>by show lz ((y.ts.set _ _).set _ _).length u;rw [List.length_set,List.length_set];exact hL.i.o9 t u hu) (Nat.le_trans (qT ..) hL.w.w8) rfl CN (Nat.le_trans cb hc.size) (sm hm)) h87.bW (ao i87) ?_;rintro u91 m91 ⟨rfl,ND⟩ Ji;obtain ⟨P2,Qv,ND⟩:=ND;rw [(cN ..).2.2.2,show (fe (du (bJ (ba (bh y l (fw (gL y l) t)) 8 t l 10) t) t) t).now=x.now from mu] at Qv;subst Qv;have i91:=ak i87 Ji;refine J8 ?_;refine aK (i+1,o1 y t,P2) ?_ ?_
  · exact⟨by omega,by rw [bD 0 om,uR,←hy,xu],by rw [hfi];exact ND,i91⟩
  · (dsimp only;omega)
 have fp:i=(nr x).length:=om;subst fp;rw [List.take_length] at hy;refine J7 ?_;refine cU Tryz.func31 rfl (fun w hm hc hg=>jd w pk iA (Nat.le_trans cb hc.size) (hm.pick _)) pk.bW (ao xw) ?_;rintro u93 m93 ⟨rfl,h93⟩ WY;refine J1 ?_;refine QM.leave (.inr rfl) [] Tryz.results26 rfl ?_;intro w' aq ab aI;exact aZ (m':=m93) ⟨rfl,by rw [show uP x=jJ y by rw [hy];rfl];exact h93⟩ aq aX ab (ak xw WY)
end Go.Eng
namespace Go.Eng
open Go Go.RowKit
theorem Jd {L:aY} {t u:Int} (h:u∈dZ L t):bd L t=true∧∃w∈L.wt,w.who=u:=by
  unfold dZ at h;split at h
  · next e=>
    unfold iJ at h;split at h
    · cases h
    · obtain ⟨w,hw,e2,_⟩:=qI h;exact⟨e.1,w,hw,e2⟩
  · cases h
theorem EZ {L:aY} (hL:pg L) {t u:Int} (h:u∈dZ L t):u≠t:=by
  obtain ⟨h1,w,hw,rfl⟩:=Jd h;obtain ⟨g,hg,e⟩:=List.any_eq_true.1 h1;exact fun q=>hL.dj w hw g hg (q.trans (of_decide_eq_true e).symm)
theorem Wc {x:aC} {i j:Nat} (h:i≠j) (y:iN):gT (dk x i y) j=gT x j:=by
  show (x.ts.set i y).getD j default=_
  rw [List.getD_eq_getElem?_getD,List.getElem?_set,if_neg h,←List.getD_eq_getElem?_getD]
theorem Jh (l:Nat) (x:aC) {u:Int} {t:Nat} (h:u.toNat≠t):gT (py l x u) t=gT x t:=by
  show ((x.ts.set u.toNat _).set u.toNat _).getD t default=_
  rw [List.set_set];exact Wc (x:=x) h _
theorem vf (l:Nat) {t:Nat} :∀(to:List Int) (x:aC),(∀u∈to,u.toNat≠t)→gT (o4 l x to) t=gT x t
  | [],x,_=>rfl
  |u::to,x,h=>by
    have ih:=vf l to (py l x u) (fun v hv=>h v (List.mem_cons_of_mem _ hv))
    unfold o4 at ih ⊢
    rw [List.foldl_cons,ih,Jh l x (h u (List.mem_cons_self ..))]
theorem Xe {x:aC} {t:Nat} (ht:t<x.ts.length):gT (bJ x t) t=rM (gT x t):=(fD ht _ t).trans (if_pos rfl)
theorem B6 (l:Nat) {b:Int} :∀(to:List Int) (x:aC),bO x.cs b<x.cs.length→bO (o4 l x to).cs b<(o4 l x to).cs.length
  | [],x,h=>h
  |u::to,x,h=>by
    have ih:=B6 l (b:=b) to (py l x u) (A6 _ _ _ _ h)
    unfold o4 at ih ⊢
    rw [List.foldl_cons];exact ih
theorem ID {k:Nat} {x:aC} (h:MI k x) {t c:Nat} (ht:t<x.ts.length) {o:db} (ho:OL x.s o) (hf:(eB x t c o).2=false):
    gq o.k=false∧∃v,(eB x t c o).1=bJ v t∧(gT v t).pr=(gT x t).pr∧(gT v t).pc=(gT x t).pc∧v.s=x.s∧x.ts.length≤v.ts.length∧(bO x.cs t<x.cs.length→bO v.cs t<v.cs.length):=by
  have hk:=ho.k
  have hp:¬(o.k=1∨o.k=7∨o.k=8∨o.k=11):=fun q=>by
    rcases q with e|e|e|e
    · rw [Ww e] at hf;cases hf
    · rw [UC e] at hf;cases hf
    · rw [VA e] at hf;cases hf
    · rw [Jp e] at hf;cases hf
  refine ⟨by unfold gq;rw [decide_eq_false om,decide_eq_false om,decide_eq_false om,decide_eq_false om];rfl,?_⟩
  by_cases uk:2≤o.k∧o.k≤5
  · have hl:=ho.l ⟨uk.1,by omega⟩
    obtain ⟨l,eO⟩:∃l:Nat,o.a=(l:Nat):=⟨o.a.toNat,(Int.toNat_of_nonneg hl.1).symm⟩
    rw [AN uk] at hf ⊢
    by_cases he:c6 (gL x l) t (tq x t l o)=0
    · rw [KB eO he];exact⟨_,rfl,rfl,rfl,rfl,Nat.le_refl _,id⟩
    · by_cases h2:mN x t o≠0
      · rw [KM eO he h2];exact⟨_,rfl,rfl,rfl,rfl,Nat.le_refl _,id⟩
      · rw [HB eO he h2] at hf;cases hf
  by_cases h6:o.k=6
  · have hl:=ho.l om
    by_cases he:mM (gL x o.a.toNat) t≠0
    · rw [JX h6 he];exact⟨_,rfl,rfl,rfl,rfl,Nat.le_refl _,id⟩
    · have hL:=h.li o.a.toNat (by have:=h.ll;omega)
      have eb:∀u∈dZ (gL x o.a.toNat) t,u.toNat≠t:=fun u hu q=>by
        have h1:=EZ hL.w.topg hu;have h2:=hL.i.dZ t u hu
        unfold lz at h2;omega
      have hg:=vf o.a.toNat (dZ (gL x o.a.toNat) t) (ba (bh x o.a.toNat (ej (gL x o.a.toNat) t)) 5 t o.a 0) eb;have hs:=cN o.a.toNat (ba (bh x o.a.toNat (ej (gL x o.a.toNat) t)) 5 t o.a 0) (dZ (gL x o.a.toNat) t);rw [JK h6 he];refine ⟨_,rfl,by rw [show gT (dz _ _ _) t=gT (o4 _ _ _) t from rfl,hg];rfl,by rw [show gT (dz _ _ _) t=gT (o4 _ _ _) t from rfl,hg];rfl,hs.2.2.1,by rw [hs.1];exact Nat.le_refl _,fun q=>B6 o.a.toNat _ _ q⟩
  by_cases h9:o.k=9
  · rw [Uw h9]
    refine ⟨_,rfl,?_⟩
    split
    · have e:gT (oX x o.a (gT x t).gr (gT x t).we c) t=gT x t:=by
        show (x.ts++ [_]).getD t default=_
        rw [List.getD_eq_getElem?_getD,List.getElem?_append_left ht,←List.getD_eq_getElem?_getD]
      exact⟨by rw [e],by rw [e],rfl,by show _≤(x.ts++ [_]).length;rw [List.length_append];omega,fun q=>A6 _ _ _ _ q⟩
    · exact⟨rfl,rfl,rfl,Nat.le_refl _,id⟩
  have iV:o.k=10:=by omega
  rw [Mj iV];have e:gT (dk x t {gT x t with we:=o.a}) t= {gT x t with we:=o.a} :=(fD ht _ t).trans (if_pos rfl);exact⟨_,rfl,by show (gT (dk x t _) t).pr=_;rw [e],by show (gT (dk x t _) t).pc=_;rw [e],rfl,by show _≤(x.ts.set _ _).length;rw [List.length_set];exact Nat.le_refl _,id⟩
theorem MI.eB {k:Nat} {x:aC} (h:MI k x) {t c:Nat} (ht:t<x.ts.length) (hc:c<x.cs.length) (UM:bO x.cs t<x.cs.length) {o:db} (ho:OL x.s o):MI (k+300) (eB x t c o).1:=by
  have hk:=ho.k;have q:=h.tb t ht
  by_cases h1:o.k=1
  · rw [Ww h1];exact(h.cmp ht (ho.c h1)).mono om
  by_cases uk:2≤o.k∧o.k≤5
  · rw [AN uk];exact(h.ZC ht (by have:=ho.l ⟨uk.1,by omega⟩;have:=h.ll;omega)).mono om
  by_cases h6:o.k=6
  · have hl:=ho.l om
    have hL:=h.li o.a.toNat (by have:=h.ll;omega)
    by_cases he:mM (gL x o.a.toNat) t≠0
    · rw [JX h6 he];exact((h.kc _ _ _ _).inc (t:=t) ht).mono om
    · rw [JK h6 he]
      have hs:=cN o.a.toNat (ba (Go.Eng.bh x o.a.toNat (ej (gL x o.a.toNat) t)) 5 t o.a 0) (dZ (gL x o.a.toNat) t);exact((((h.bh (l:=o.a.toNat) (hL.BL t)).kc 5 t o.a 0).rv o.a.toNat (hL.i.dZ t) (Nat.le_trans (nV ..) hL.w.w8)).inc (t:=t) (by rw [hs.1];exact ht)).mono om
  by_cases h7:o.k=7
  · rw [UC h7]
    exact(((h.kc 9 t (-1) o.a).qut t).mono (show k+1≤k+2 by omega)).upQ (t:=t) ht (y:= {gT x t with st:=3,un:=x.now+BitVec.ofInt 64 o.a,pc:=(gT x t).pc+1}) ⟨q.pr,by have:=q.pc;show 0≤(gT x t).pc+1∧(gT x t).pc+1≤_;omega,q.lf,by have:=q.ti;show 0≤(gT x t).ti∧(gT x t).ti≤_;omega,fun e=>(by cases e),fun _=> .inl rfl⟩ (fun c hc hk=>absurd rfl (qv h.ci.wf (by rw [←oM x.cs t];exact hc) hk).2) |>.mono om
  by_cases h8:o.k=8
  · rw [VA h8]
    have hu:(gT x t).un=0#64:=h.iq _ UM t (c8 UM);exact(((h.kc 10 t (-1) c).back hc).mono (show k+1≤k+2 by omega)).up (t:=t) ht (y:= {gT x t with st:=1,pc:=(gT x t).pc+1}) ⟨q.pr,by have:=q.pc;show 0≤(gT x t).pc+1∧(gT x t).pc+1≤_;omega,q.lf,by have:=q.ti;show 0≤(gT x t).ti∧(gT x t).ti≤_;omega,fun e=>(by cases e),fun e=>absurd hu e⟩ (.inr rfl) |>.mono om
  by_cases h9:o.k=9
  · rw [Uw h9]
    split
    · next e=>
      unfold iK at e;simp only [Bool.and_eq_true,decide_eq_true_eq] at e
      exact((h.Ms _ _ _ _ (ho.p h9) e.2).inc (t:=t) (by show t<(x.ts++ [_]).length;rw [List.length_append];omega)).mono om
    · exact((h.kc _ _ _ _).inc (t:=t) ht).mono om
  by_cases iV:o.k=10
  · rw [Mj iV]
    exact(((h.up ht (y:= {gT x t with we:=o.a}) ⟨q.pr,q.pc,q.lf,q.ti,q.l4,q.un⟩).kc 14 t (-1) o.a).inc (t:=t) (by show t<(x.ts.set _ _).length;rw [List.length_set];exact ht)).mono om
  · rw [Jp om];exact(h.die ht).mono om
theorem Lf {xs:List db} {ls:List km} {cO:Int} (h:(Cy true xs ls cO).2=0):xs.any (fun o=>gq o.k)=true:=by
  unfold Cy at h
  split at h
  · split at h
    · rename_i i hi
      have:=List.find?_some hi;simp only [decide_eq_true_eq] at this;exact absurd h this
    · split at h
      · cases h
      · rename_i hq
        simpa using hq
  · cases h
def Hy (x:aC) (t:Nat):Nat:=(if ((ko x t).xs.drop (gT x t).pc.toNat).any (fun o=>gq o.k)=true then 0 else (ko x t).xs.length+1)+((ko x t).xs.length-(gT x t).pc.toNat)
theorem MI.YZ {k:Nat} {x:aC} (h:MI k x) {t c:Nat} (ht:t<x.ts.length) (hc:c<x.cs.length) (UM:bO x.cs t<x.cs.length):MI (k+300) (eZ x t c).1:=by
  obtain ⟨z,hz⟩:=Ql (x:=x) ht
  by_cases hd:((ko x t).xs.length:Int)≤(gT x t).pc∧(ko x t).fv=false
  · rw [tW hd.1 hd.2];exact(h.die ht).mono om
  · have Hs:=FH h ht
    have lN:=h.op ht Hs.1;rw [hz,fD ht,if_pos rfl] at lN;rw [D9 hd ht hz rfl];have h1:=h.kq ht;rw [hz] at h1;exact h1.eB (by rw [bt];exact ht) hc UM lN
theorem sj {k:Nat} {x:aC} (h:MI k x) {t c:Nat} (ht:t<x.ts.length) (UM:bO x.cs t<x.cs.length) (hf:(eZ x t c).2=false):
    Hy (eZ x t c).1 t<Hy x t∧t<(eZ x t c).1.ts.length∧bO (eZ x t c).1.cs t<(eZ x t c).1.cs.length∧(eZ x t c).1.s=x.s:=by
  obtain ⟨z,hz⟩:=Ql (x:=x) ht
  by_cases hd:((ko x t).xs.length:Int)≤(gT x t).pc∧(ko x t).fv=false
  · rw [tW hd.1 hd.2] at hf;cases hf
  have Hs:=FH h ht;have lN:=h.op ht Hs.1;have P4:=Sq (x:=x) ht;have Te:=(h.tb t ht).pc;have h1:=h.kq ht;rw [hz] at h1 lN Hs P4;rw [fD ht,if_pos rfl] at lN Hs;rw [D9 hd ht hz rfl] at hf ⊢;obtain ⟨hp,v,e,e1,e2,e3,e4,e5⟩:=ID h1 (t:=t) (c:=c) (by rw [bt];exact ht) lN hf;have htv:t<v.ts.length:=Nat.lt_of_lt_of_le (by rw [bt];exact ht) e4;have BR:gT (bJ v t) t=rM (gT v t):=Xe htv
  have hpv:ko (bJ v t) t=ko x t:=by
    unfold ko;rw [BR,show (rM (gT v t)).pr=(gT v t).pr from rfl,e1,show (bJ v t).s=x.s from e3];exact P4
  have ZU:(gT (dk x t z) t).pc=z.pc:=by rw [fD ht,if_pos rfl]
  rw [e];refine ⟨?_,by rw [show (bJ v t).ts.length=v.ts.length from bt ..];exact htv,e5 UM,e3⟩;have aeP:(gT (bJ v t) t).pc.toNat=z.pc.toNat+1:=by rw [BR,show (rM (gT v t)).pc=(gT v t).pc+1 from rfl,e2,ZU];omega
  unfold Hy
  rw [hpv,aeP]
  generalize Ap:(ko x t).xs=xs at*
  have Og:xs.drop z.pc.toNat=xs.getD z.pc.toNat default::xs.drop (z.pc.toNat+1):=by
    rw [List.drop_eq_getElem_cons Hs.1];congr 1;rw [List.getD_eq_getElem?_getD,List.getElem?_eq_getElem Hs.1];rfl
  have X4:(xs.drop z.pc.toNat).any (fun o=>gq o.k)=(xs.drop (z.pc.toNat+1)).any (fun o=>gq o.k):=by rw [Og,List.any_cons,hp,Bool.false_or]
  by_cases FW:(xs.length:Int)≤(gT x t).pc
  · have hfv:(ko x t).fv=true:=by
      cases hb:(ko x t).fv with
      |true=>rfl
      |false=>exact absurd ⟨FW,hb⟩ hd
    have hz0:z.pc=0:=by
      have:=hz;unfold kq at this;rw [Ap,if_pos FW] at this;have q:=congrArg (fun y=>(gT y t).pc) this;simp only at q;rw [fD ht,fD ht,if_pos rfl,if_pos rfl] at q;exact q.symm
    have hpr:=(h.tb t ht).pr;have hck:=(ky h.ms).2.2 (ko x t) (List.mem_of_getElem? (aQ default (show (gT x t).pr.toNat<x.s.ps.length by omega)))
    have hpa:xs.any (fun o=>gq o.k)=true:=by
      rw [hfv,Ap] at hck;exact Lf hck
    have hA:((xs.drop (z.pc.toNat+1)).any (fun o=>gq o.k))=true:=by rw [←X4,hz0];exact hpa
    have hB:¬((xs.drop (gT x t).pc.toNat).any (fun o=>gq o.k))=true:=by rw [List.drop_of_length_le om];simp
    rw [if_pos hA,if_neg hB];omega
  · have hzp:z.pc=(gT x t).pc:=by
      have:=hz;unfold kq at this;rw [Ap,if_neg FW] at this;have q:=congrArg (fun y=>(gT y t).pc) this;rw [fD ht,if_pos rfl] at q;exact q.symm
    rw [←hzp,X4];omega
theorem MI.cur {k:Nat} {x:aC} (h:MI k x) {c:Nat} (hc:c<x.cs.length) (h0:0≤(qg x.cs c).cur):cd (qg x.cs c) (qg x.cs c).cur∧(qg x.cs c).cur.toNat<x.ts.length∧(((qg x.cs c).cur.toNat:Nat):Int)=(qg x.cs c).cur:=by
  have hk:=(h.ci.wf.wf c hc).ix h0;have:=h.ci.id c hc _ hk;exact⟨hk,by omega,by omega⟩
theorem ue {q:Qm} (h:Gd q=true):0≤q.cur:=by
  unfold Gd at h;split at h
  · next e=>exact e.1
  · cases h
theorem yf {q:Qm} (hw:mA q) (h:q.cur<0) (hl:0<q.l.length):0≤fJ q∧cd q (fJ q)∧qJ q=mG q (fJ q):=by
  have hc:=hw.Pw om;cases e:dV q with
  |nil=>
    have:=(LG hw om).1 e;rw [this] at hl;cases hl
  |cons t l=>
    obtain ⟨e1,e2⟩:=sy hw hc e;have ht:=(ji hw e).1;rw [e1];exact⟨hw.pos t ht,iG.2 ⟨t,ht,rfl⟩,by rw [e2]⟩
section
variable {k:Nat} {x:aC} (h:MI k x) {c:Nat} (hc:c<x.cs.length)
include h hc
theorem MI.tsk {q:Qm} {a:Int} (ha:cd (qg x.cs c) a) {y:iN} (hq:CI x.ts.length k (x.cs.set c q)) (he:q.l.map (·.id)=(qg x.cs c).l.map (·.id)) (hy:wy x.s k y) (hu:y.un=(gT x a.toNat).un):MI k (dk (iy x c q) a.toNat y):=by
  have hid:=h.ci.id c hc a ha;have h0:=(h.ci.wf.wf c hc).pos _ (ea ha).1;rw [(ea ha).2] at h0;have h1:MI k (iy x c q):=h.FM hq (List.length_set ..) (fun d hd b hb=> .inl ⟨d,hd,jA hc he hb⟩);exact h1.up (t:=a.toNat) (by show a.toNat<x.ts.length;omega) hy (.inr hu)
theorem wy.PO {s:kh} {t:iN} (q:wy s k t) (hu:t.un=0#64) {v:Int} (hv:v≠4):wy s k {t with st:=v} :=⟨q.pr,q.pc,q.lf,q.ti,fun e=>absurd e hv,fun e=>absurd hu e⟩
theorem MI.wC:MI (k+1) (wC x c):=by
  unfold Go.Eng.wC;split
  · next e=>
    obtain ⟨h1,h2,h3⟩:=h.cur hc (ue e);exact(h.tsk hc h1 (h.ci.back hc) rfl (y:= {gT x (qg x.cs c).cur.toNat with st:=1}) (wy.PO h hc (h.tb _ h2) (h.iq c hc _ h1) (by decide)) rfl).kc _ _ _ _
  · exact h.mono (Nat.le_succ _)
theorem MI.vz:MI (k+1) (vz x c):=by
  unfold Go.Eng.vz;split
  · next e=>
    obtain ⟨h0,h1,h2⟩:=yf (h.ci.wf.wf c hc) e.1 e.2;have hid:=h.ci.id c hc _ h1;exact(h.tsk hc h1 (h.ci.pik hc) (by rw [h2];rfl) (y:= {gT x (fJ (qg x.cs c)).toNat with st:=2}) (wy.PO h hc (h.tb _ om) (h.iq c hc _ h1) (by decide)) rfl).kc _ _ _ _
  · exact h.mono (Nat.le_succ _)
end
theorem MI.run {t c:Nat} :∀{f k:Nat} {x:aC},MI k x→t<x.ts.length→c<x.s.cr.toNat→bO x.cs t<x.cs.length→MI (k+300*f) (o3 t c f x)
  |0,k,x,h,_,_,_=>h
  |f+1,k,x,h,ht,hc,hq=>by
    have wx:c<x.cs.length:=by have:=h.ce;omega
    have h1:=h.YZ ht wx hq
    unfold o3
    split
    · exact h1.mono om
    · next e=>
      obtain ⟨e1,e2,e3,e4⟩:=sj h ht hq (c:=c) (by simpa using e);exact(MI.run h1 e2 (by rw [e4];exact hc) e3).mono om
theorem Sk {t c:Nat} {f:Nat} {x:aC} (hf:(eZ x t c).2=true):o3 t c (f+1) x=(eZ x t c).1:=if_pos hf
theorem Rb {t c:Nat} {f:Nat} {x:aC} (hf:¬(eZ x t c).2=true):o3 t c (f+1) x=o3 t c f (eZ x t c).1:=if_neg hf
theorem Ps {k:Nat} {x:aC} (h:MI k x) {t:Nat} (ht:t<x.ts.length):Hy x t<64:=by
  have hp:=(h.tb t ht).pr;have hl:=B3 h.ms (p:=ko x t) (List.mem_of_getElem? (aQ default (show (gT x t).pr.toNat<x.s.ps.length by omega)))
  unfold Hy;split<;>omega
theorem Xq (x:aC) (t:Nat) (o:db):(mX x t o).1.s=x.s:=by unfold mX;split;rfl;split;rfl;rfl
theorem Wu (x:aC) (t:Nat) (a:Int):(pA x t a).s=x.s:=by unfold pA;split<;>rfl
theorem SO {x:aC} {t c:Nat} {o:db} :(eB x t c o).1.s=x.s:=by
  unfold eB
  split
  · exact Wu ..
  split
  · exact Xq ..
  split
  · split
    · rfl
    · exact(cN o.a.toNat (ba (bh x o.a.toNat (ej (gL x o.a.toNat) t)) 5 t o.a 0) (dZ (gL x o.a.toNat) t)).2.2.1
  split
  · rfl
  split
  · rfl
  split
  · show (if _ then _ else _:aC).s=_;split<;>rfl
  split
  · rfl
  split
  · exact(nE x t).2.2.1
  · rfl
theorem Qj (x:aC) (t c:Nat):(eZ x t c).1.s=x.s:=by
  unfold eZ;split
  · exact(nE x t).2.2.1
  · exact SO.trans (ya).2.2.1
theorem Qg (t c:Nat):∀(f:Nat) (x:aC),(o3 t c f x).s=x.s
  |0,x=>rfl
  |f+1,x=>by unfold o3;split;exact Qj x t c;exact(Qg t c f _).trans (Qj x t c)
theorem xi (x:aC) (c:Nat):(wC x c).s=x.s:=by unfold wC;split<;>rfl
theorem FN (x:aC) (c:Nat):(vz x c).s=x.s:=by unfold vz;split<;>rfl
theorem YN (x:aC) (c:Nat):(uc x c).s=x.s:=by
  unfold uc;split
  · rfl
  · exact Qg _ _ _ _
def Cz (x:aC) (c:Nat):aC:=dk (iy x c (fi (qg x.cs c))) (qg x.cs c).cur.toNat {gT x (qg x.cs c).cur.toNat with ti:=(gT x (qg x.cs c).cur.toNat).ti+1}
theorem MI.Cz {k:Nat} {x:aC} (h:MI k x) {c:Nat} (hc:c<x.cs.length) (h0:0≤(qg x.cs c).cur):MI (k+1) (Cz x c)∧(qg x.cs c).cur.toNat<(Go.Eng.Cz x c).ts.length∧bO (Go.Eng.Cz x c).cs (qg x.cs c).cur.toNat<(Go.Eng.Cz x c).cs.length:=by
  obtain ⟨h1,h2,h3⟩:=h.cur hc h0
  have hid:(fi (qg x.cs c)).l.map (·.id)=(qg x.cs c).l.map (·.id):=by
    unfold fi;rw [if_pos h0];exact gM h1 (iU h1).1
  have h':=h.mono (Nat.le_succ k);have q:=h.tb _ h2;refine ⟨h'.tsk hc h1 (h.ci.tick hc) hid ⟨q.pr,by have:=q.pc;show 0≤(gT x _).pc∧(gT x _).pc≤_;omega,q.lf,by have:=q.ti;show 0≤(gT x _).ti+1∧(gT x _).ti+1≤_;omega,q.l4,q.un⟩ rfl,by show _<(x.ts.set _ _).length;rw [List.length_set];exact h2,?_⟩;refine Classical.byContradiction fun n=>?_;have ks:c<(Go.Eng.Cz x c).cs.length:=by show c<(x.cs.set _ _).length;rw [List.length_set];exact hc
  refine vb n ks ?_
  show cd (qg (x.cs.set c _) c) _
  rw [bK hc,if_pos rfl,h3];exact(oF hid _).2 h1
theorem MI.uc {k:Nat} {x:aC} (h:MI k x) {c:Nat} (hc:c<x.cs.length):MI (k+19300) (uc x c):=by
  unfold Go.Eng.uc;split
  · have h':=h.mono (show k≤k+19300 by omega)
    exact {h' with
      il:=by show (x.idle.set _ _).length=_;rw [List.length_set];exact h.il
      ib:=fun n hn=>by
        rcases List.mem_or_eq_of_mem_set hn with q|rfl
        · exact h'.ib n q
        · have:=h.ib _ (List.mem_of_getElem? (aQ 0 (show c<x.idle.length by rw [h.il];exact hc)))
          omega}
  · next e=>
    obtain ⟨h1,h2,h3⟩:=h.Cz hc om;exact(MI.run h1 h2 (by have:=h.ce;show c<x.s.cr.toNat;omega) h3).mono om
theorem MI.Zd {k:Nat} {x:aC} (h:MI k x) {c:Nat} (hc:c<x.cs.length):MI (k+19400) (tx x c):=by
  have h0:MI k {x with now:=x.now+1#64} := {h with}
  have hl:∀y:aC,∀j,MI j y→y.s=x.s→c<y.cs.length:=fun y j hy e=>by have h1:=hy.ce;have h2:=h.ce;rw [e] at h1;omega
  have h1:=h0.wC hc;have h2:=h1.vz (c:=c) (hl _ _ h1 (xi ..));have h3:=h2.uc (c:=c) (hl _ _ h2 ((FN ..).trans (xi ..)));exact(h3.mono om).Mo
theorem Pd (x:aC) (t:Nat) (o:db):(mX x t o).1.now=x.now:=by unfold mX;split;rfl;split;rfl;rfl
theorem Ov (x:aC) (t:Nat) (a:Int):(pA x t a).now=x.now:=by unfold pA;split<;>rfl
theorem Je {x:aC} {t c:Nat} {o:db} :(eB x t c o).1.now=x.now:=by
  unfold eB
  split
  · exact Ov ..
  split
  · exact Pd ..
  split
  · split
    · rfl
    · exact(cN o.a.toNat (ba (bh x o.a.toNat (ej (gL x o.a.toNat) t)) 5 t o.a 0) (dZ (gL x o.a.toNat) t)).2.2.2
  split
  · rfl
  split
  · rfl
  split
  · show (if _ then _ else _:aC).now=_;split<;>rfl
  split
  · rfl
  split
  · exact(nE x t).2.2.2
  · rfl
theorem tU (x:aC) (t c:Nat):(eZ x t c).1.now=x.now:=by
  unfold eZ;split
  · exact(nE x t).2.2.2
  · exact Je.trans (ya).2.2.2.1
theorem Qp (x:aC):(jJ x).s=x.s:=(jD x).2.2.1
theorem Y6 (x:aC) (c:Nat):(tx x c).s=x.s:=(Qp _).trans ((YN ..).trans ((FN ..).trans (xi ..)))
theorem qc (x:aC) (n:Nat):wS x (n+1)=tx (wS x n) n:=by unfold wS;rw [List.range_succ,List.foldl_append];rfl
theorem A7 (x:aC):∀n,(wS x n).s=x.s
  |0=>rfl
  |n+1=>by rw [qc];exact(Y6 ..).trans (A7 x n)
theorem MI.len {k:Nat} {x:aC} (h:MI k x):x.cs.length=x.s.cr.toNat∧x.cs.length≤4:=⟨by have:=h.ce;omega,h.ci.wf.len.2⟩
theorem MI.Qc {k:Nat} {x:aC} (h:MI k x):∀{n:Nat},n≤x.s.cr.toNat→MI (k+19400*n) (wS x n)
  |0,_=>h
  |n+1,hn=>by
    have h1:=h.Qc (n:=n) om;rw [qc];exact(h1.Zd (by rw [h1.len.1,A7];omega)).mono om
theorem VP (x:aC):(uP x).s=x.s:=(Qp _).trans (qY ..).2.2.1
theorem MI.rou {k:Nat} {x:aC} (h:MI k x):MI (k+100000) (Ci x):=by
  have h4:=h.len;exact((h.Qc (Nat.le_refl _)).V7).mono om
theorem Vp (x:aC):(Ci x).s=x.s:=(VP _).trans (A7 ..)
theorem De (x:aC):∀n,(xf x n).s=x.s
  |0=>rfl
  |n+1=>(Vp _).trans (De x n)
theorem MI.AQ {k:Nat} {x:aC} (h:MI k x):∀n,MI (k+100000*n) (xf x n)
  |0=>h
  |n+1=>((h.AQ n).rou).mono om
theorem MI.ids {k:Nat} {x:aC} (h:MI k x) {a:Int} (ha:bO x.cs a<x.cs.length):0≤a∧a.toNat<x.ts.length:=by
  have h0:=h.ci.wf.pos ha;have:=h.ci.id _ ha a (c8 ha);exact⟨h0,by omega⟩
theorem EU {cs:List Qm} {co a:Int} (h:eF cs co a=0):bO cs a<cs.length∧co.toNat<cs.length∧0≤co∧co.toNat≠bO cs a∧(co.toNat:Int)=co:=by
  unfold eF at h
  split at h
  · cases h
  split at h
  · cases h
  split at h
  · cases h
  exact⟨by omega,by omega,by omega,by omega,by omega⟩
theorem MI.Xo {k:Nat} {x:aC} (h:MI k x) (co a:Int):MI k {x with cs:=jB x.cs co a} :=by
  refine h.FM (h.ci.Xo co a) (Nz ..) (fun c hc b hb=> .inl ?_)
  unfold jB at hb;split at hb
  · next e=>
    obtain ⟨h1,h2,h3,h4,h5⟩:=EU e;exact AO h.ci.wf h1 h2 h4 hc hb
  · exact⟨c,hc,hb⟩
theorem MI.VW {k:Nat} {x:aC} (h:MI k x):MI k {x with cs:=jt x.cs} :=by
  refine h.FM h.ci.VW (NV ..) (fun c hc b hb=> .inl ?_)
  unfold jt at hb;split at hb
  · exact⟨c,hc,hb⟩
  · next t e=>
    obtain ⟨h1,h2,h3,h4,h5,h6,h7⟩:=k4 h.ci.wf e;exact AO h.ci.wf (by rw [h4];exact h5) h6 h7 hc hb
theorem Ks {x:aC} {k:Nat} (h:MI k x) (hb:¬iC x.cs<0):(iC x.cs).toNat<x.ts.length∧0≤iC x.cs:=by
  unfold iC at hb ⊢;split at hb
  · exact absurd hb (by decide)
  · next t e=>
    obtain ⟨h1,h2,h3,h4,h5,h6,h7⟩:=k4 h.ci.wf e;have:=h.ids (a:=t.id) (by rw [h4];exact h5);exact⟨this.2,this.1⟩
theorem MI.PH {k:Nat} {x:aC} (h:MI k x) (g w:Int) (i:Nat):MI k {x with gp:=x.gp.set i w,lk:=x.lk.map (fun L=>iz L g w)} :=
  {h with
    gn:=by show (x.gp.set _ _).length=_;rw [List.length_set];exact h.gn
    ll:=by show (x.lk.map _).length=_;rw [List.length_map];exact h.ll
    li:=fun l hl=>by
      have nu:l<x.lk.length:=by have q:=hl;rw [show ({x with gp:=x.gp.set i w,lk:=x.lk.map (fun L=>iz L g w)} :aC).lk.length=x.lk.length from List.length_map ..] at q;exact q
      show LI _ k ((x.lk.map _).getD l default)
      have:=(h.li l nu).PH g w
      unfold gL at this
      rw [List.getD_eq_getElem?_getD,List.getElem?_eq_getElem nu] at this;rw [List.getD_eq_getElem?_getD,List.getElem?_map,List.getElem?_eq_getElem nu];exact this}
theorem MI.mdo {k:Nat} {x:aC} (h:MI k x) (a:Act):MI (k+30000000) (jk x a):=by
  unfold jk
  split
  · exact h.mono om
  next he=>
  have he:dd x a=0:=Classical.byContradiction he
  unfold dd at he
  split at he
  · cases he
  split
  · next e=>
    rw [if_pos e] at he
    split at he
    · cases he
    · exact(h.Zd (c:=a.a.toNat) (by have:=h.ce;omega)).mono om
  next e1=>
  rw [if_neg e1] at he
  split
  · exact h.V7.mono om
  next e2=>
  rw [if_neg e2] at he
  split
  · next e=>
    rw [if_pos e] at he
    split at he
    · cases he
    · next hb=>exact(h.VW.mvd (Ks h hb).1 _).mono om
  next e3=>
  rw [if_neg e3] at he
  split
  · next e=>
    rw [if_pos e] at he
    split at he
    · cases he
    split at he
    · next hr=>
      unfold iK at hr;simp only [Bool.and_eq_true,decide_eq_true_eq] at hr
      exact(h.Ms _ _ _ _ om hr.2).Mo.mono om
    · cases he
  next e4=>
  rw [if_neg e4] at he
  split
  · next e=>
    rw [if_pos e] at he
    split at he
    · cases he
    · exact((h.die (t:=a.a.toNat) om).Mo).mono om
  next e5=>
  rw [if_neg e5] at he
  split
  · exact(h.PH _ _ _).mono om
  next e6=>
  rw [if_neg e6] at he
  split
  · next e=>
    rw [if_pos e] at he;obtain ⟨h1,h2,h3,h4,h5⟩:=EU he;exact((h.Xo a.b a.a).mvd (h.ids h1).2 _).mono om
  next e7=>
  rw [if_neg e7] at he
  split at he
  · split at he
    · cases he
    · exact(h.AQ a.a.toNat).mono om
  · cases he
theorem tG {s:kh} (h:fC s=true):1≤s.cr∧s.cr≤4:=by
  unfold fC cG at h
  simp only [Bool.and_eq_true,decide_eq_true_eq] at h;exact h.1.1.1.1.1
theorem F8 {s:kh} (h:fC s=true):1≤s.gs.length∧s.gs.length≤4:=by
  unfold fC cG at h;simp only [Bool.and_eq_true,decide_eq_true_eq] at h;omega
theorem MI.new {s:kh} (h:fC s=true):MI 0 (fj s):=by
  have hc:=tG h;have hl:(fk s.cr s.gr).length=s.cr.toNat:=by rw [ei];unfold aB;rw [if_neg om,if_neg om]
  refine ⟨h,by show ((fk s.cr s.gr).length:Int)=s.cr;rw [hl];omega,⟨Be _ _,fun c hc a ha=>?_,fun c hc=>?_⟩,by show (List.replicate _ _).length=(fk _ _).length;rw [List.length_replicate,hl],fun n hn=>?_,by show (s.ls.map _).length=s.ls.length;rw [List.length_map],fun l nu=>?_,⟨Ge,Kf⟩,Nat.zero_le _,rfl,fun t ht=>(by cases ht),rfl,Nat.le_refl _,fun c hc a ha=>?_⟩
  · exact absurd ha (by have zw : c < (aB s.cr 1 4).toNat := by { rw [← ei s.cr s.gr]; exact hc }
                        show¬cd (qg (fk s.cr s.gr) c) a;rw [fk,rZ zw];exact tS _ _)
  · have zw:c<(aB s.cr 1 4).toNat:=by rw [←ei s.cr s.gr];exact hc
    show (qg (fk s.cr s.gr) c).cI≤_
    rw [fk,rZ zw];show (0:Int)≤_;omega
  · have:=List.eq_of_mem_replicate hn;omega
  · have RD:l<s.ls.length:=by have q:=nu;rw [show (fj s).lk.length=s.ls.length from List.length_map ..] at q;exact q
    show LI 0 0 ((s.ls.map _).getD l default)
    rw [List.getD_eq_getElem?_getD,List.getElem?_map,List.getElem?_eq_getElem RD];exact⟨NR _ _,O2 _ _,⟨fun g hg=>(by cases hg),fun g hg=>(by cases hg)⟩⟩
  · exact absurd ha (by have zw : c < (aB s.cr 1 4).toNat := by rw [← ei s.cr s.gr]; exact hc
                        show¬cd (qg (fk s.cr s.gr) c) a;rw [fk,rZ zw];exact tS _ _)
/-! a deed, by kinds -/
theorem eu {x:aC} {a:Act} (h:dd x a≠0):jk x a=x:=if_pos h
section
variable {x:aC} {a:Act} (hv:¬50000≤x.ev.length)
include hv
theorem YB (h:a.k=1):dd x a=if a.a<0∨x.s.cr≤a.a then 1 else if 1048576≤x.now.toNat then 2 else 0:=by unfold dd;rw [if_neg hv,if_pos h]
theorem do2 (h:a.k=2):dd x a=0:=by unfold dd;rw [if_neg hv,if_neg om,if_pos h]
theorem do3 (h:a.k=3):dd x a=if iC x.cs<0 then 4 else 0:=by unfold dd;rw [if_neg hv,if_neg om,if_neg om,if_pos h]
theorem do4 (h:a.k=4):dd x a=if a.a<0∨(x.s.ps.length:Int)≤a.a∨a.b<0∨(x.gp.length:Int)≤a.b∨a.c<1∨16<a.c∨a.d<0∨x.s.cr≤a.d then 1 else if iK x=true then 0 else 3:=by unfold dd;rw [if_neg hv,if_neg om,if_neg om,if_neg om,if_pos h]
theorem ZO (h:a.k=5):dd x a=if a.a<0∨(x.ts.length:Int)≤a.a then 4 else if (gT x a.a.toNat).st=5 then 11 else 0:=by unfold dd;rw [if_neg hv,if_neg om,if_neg om,if_neg om,if_neg om,if_pos h]
theorem do6 (h:a.k=6):dd x a=if a.a<0∨(x.gp.length:Int)≤a.a∨a.b<1∨16<a.b then 1 else 0:=by unfold dd;rw [if_neg hv,if_neg om,if_neg om,if_neg om,if_neg om,if_neg om,if_pos h]
theorem do7 (h:a.k=7):dd x a=eF x.cs a.b a.a:=by unfold dd;rw [if_neg hv,if_neg om,if_neg om,if_neg om,if_neg om,if_neg om,if_neg om,if_pos h]
theorem ZD (h:a.k=8):dd x a=if a.a<0∨200<a.a then 1 else if 1048576<(x.now+BitVec.ofInt 64 (a.a*x.s.cr)).toNat then 2 else 0:=by unfold dd;rw [if_neg hv,if_neg om,if_neg om,if_neg om,if_neg om,if_neg om,if_neg om,if_neg om,if_pos h]
theorem do0 (h:¬(1≤a.k∧a.k≤8)):dd x a=1:=by unfold dd;rw [if_neg hv,if_neg om,if_neg om,if_neg om,if_neg om,if_neg om,if_neg om,if_neg om,if_neg om]
end
section
variable {x:aC} {a:Act} (hE:dd x a=0)
include hE
theorem dx1 (h:a.k=1):jk x a=tx x a.a.toNat:=by unfold jk;rw [if_neg om,if_pos h]
theorem dx2 (h:a.k=2):jk x a=uP x:=by unfold jk;rw [if_neg om,if_neg om,if_pos h]
theorem dx3 (h:a.k=3):jk x a=sw {x with cs:=jt x.cs} (iC x.cs).toNat (tz x.cs):=by unfold jk;rw [if_neg om,if_neg om,if_neg om,if_pos h]
theorem dx4 (h:a.k=4):jk x a=jJ (oX x a.a a.b a.c a.d):=by unfold jk;rw [if_neg om,if_neg om,if_neg om,if_neg om,if_pos h]
theorem dx5 (h:a.k=5):jk x a=jJ (kf x a.a.toNat):=by unfold jk;rw [if_neg om,if_neg om,if_neg om,if_neg om,if_neg om,if_pos h]
theorem dx6 (h:a.k=6):jk x a= {x with gp:=x.gp.set a.a.toNat a.b,lk:=x.lk.map (fun L=>iz L a.a a.b)} :=by unfold jk;rw [if_neg om,if_neg om,if_neg om,if_neg om,if_neg om,if_neg om,if_pos h]
theorem dx7 (h:a.k=7):jk x a=sw {x with cs:=jB x.cs a.b a.a} a.a.toNat a.b:=by unfold jk;rw [if_neg om,if_neg om,if_neg om,if_neg om,if_neg om,if_neg om,if_neg om,if_pos h]
theorem dx8 (h:a.k=8):jk x a=xf x a.a.toNat:=by unfold jk;rw [if_neg om,if_neg om,if_neg om,if_neg om,if_neg om,if_neg om,if_neg om,if_neg om]
end
theorem Ls {cs:List Qm} (h:rq cs) (hb:iC cs<0):jt cs=cs:=by
  unfold iC at hb;unfold jt
  cases e:uU cs with
  |none=>rfl
  |some t=>
    rw [e] at hb;obtain ⟨h1,h2,h3,h4,h5,h6,h7⟩:=k4 h e;have:=(h.wf _ h5).pos t h1;have tf:t.id<0:=hb;omega
end Go.Eng
namespace Go.Eng
open Go Go.Proofs Go.RowKit
set_option maxHeartbeats 4000000 in
theorem wq {n0 b k c:Nat} {s:eL} {x:aC} {m:aa} (w:World) (h:dY n0 b s x m) (hI:MI k x) (hk:k≤600000000000) (Gy:c<x.cs.length) (hs:s.In w) (jS:s.Old n0) (cb:n0≤w.heap.size) (hM:Mem w m):aJ Tryz.prog 25 #[.pointer (some ⟨b,0,none⟩),.int .i64 (c:Nat)] w (eI m (fun u m'=>u= .tuple #[]∧dY n0 b s (tx x c) m') w):=by
 obtain ⟨P,rfl,h⟩:=h;have uf:=hI.tl;obtain ⟨ig,ii,il,ip,ix,it,iv,ie,ic,iq⟩:=bM (ay (az b s x.now P) w.heap.size);obtain ⟨mD,nq,je,Fg,rm,hX⟩:=h.sc.x;have Rv:=hX.sl;have hXl:=hX.len;have hXn:=hX.nl;have Vb:MI k {x with now:=x.now+1#64} := {hI with};have z4:=hI.ev;refine aJ.au Tryz.func25 rfl Tryz.ntmps25 rfl (az b s x.now P++ []) ((fS (az b s x.now P))) aM ?_;refine J6 ?_;refine LM.val (gY (b:=1#64) rfl rfl) ?_;refine J2 ?_;refine LM.st Tryz.sizeOf41 rfl rfl rfl eA rfl tC ?_;refine LM.mem (aT.mem (M':=az b s (x.now+1#64) P++ []) aX) ?_;refine cf ?_;refine LM.eT (fun w hm hc hg=>fF (M:=gv P.bc mD nq je::(rm++ [])) Tryz.isAgg118 rfl rfl w (hX.ld (hm.pick P.mc))) ?_;refine J2 ?_;refine LM.eT (fun w hm hc hg=>aH (M:=gv P.bc mD nq je::(rm++ [])) (i:=c) (j:=0) Rv ir Tryz.isAgg122 rfl rfl (aQ (xs:=Fg) default om) rfl (by rfl) w (hX.ld (hm.pick P.mc))) ?_;refine J7 ?_;refine cE Tryz.func53 rfl (fun w hm hc hg=>hX.read Gy (hm.pick P.mc) (fun m hr hM=>D4 w hr hM)) ?_;refine J2 ?_;refine af.bH (α:=aC×sD) (fun ⟨y,Q⟩=>[]) [(0,_),(1,_),(4,_)] (fun ⟨y,Q⟩=>az b s (x.now+1#64) Q++ []) (fun ⟨y,Q⟩=>y=wC {x with now:=x.now+1#64} c∧fN n0 b s y Q∧CH n0 Q.bc y.cs mD nq je Fg rm Q.mc∧cZ (az b s x.now P) w.heap.size (az b s (x.now+1#64) Q)∧y.now=x.now+1#64) cm ?_ ?_
 ·refine af.aW rfl (fun h1=>?_) (fun h1=>?_)
  ·obtain ⟨hu1,Xx,hu3⟩:=hI.cur Gy (ue h1);have er:=h.st;have rP:=h.nt;obtain ⟨a,ha⟩:∃a:Nat,(qg x.cs c).cur=(a:Nat):=⟨(qg x.cs c).cur.toNat,hu3.symm⟩;have U7:a<x.ts.length:=(by rw [ha] at Xx;exact Xx)
   refine J3 ?_;refine cU Tryz.func54 rfl (fun w hm hc hg=>hX.AE (i:=c) (x':=fh (qg x.cs c)) Gy (hm.pick P.mc) (hI.ci.back Gy).wf (fun m hr hM=>(by have q:=sZ w hr hM;rw [ha] at q;exact q))) hX.c.bW (ao ic) ?_;rintro u29 RE ⟨rfl,Um⟩ EE;have i29:=ak ic EE;refine cK ?_;refine LM.iF ({gT x a with st:=1}) (j:=6) aA ir Tryz.sizeOf3 rfl rfl rfl (by first|exact bF om|exact aQ default cL) rfl (by decide) (by rfl) rfl (ao aA) (fun jZ fQ kj=>?_)
   try rw [List.set_set] at fQ
   have H6:=ca kj aA;refine J3 ?_;have xe:fN n0 b s (dk (iy {x with now:=x.now+1#64} c (fh (qg x.cs c))) a {gT x a with st:=1}) {P with mt:=jZ,mc:=RE} := {h with nt:=(by rw [bt];exact rP),st:=fQ,sc:=Um.c}
   refine J3 ?_;refine cU Tryz.func55 rfl (fun w hm hc hg=>tc (y:=x.now+1#64) rfl 3 (a:Nat) (-1) (c:Nat) w xe (by show x.ev.length≤_;omega) (Nat.le_trans cb hc.size) (hm.pick _)) (fN.m (y:=x.now+1#64) xe).bW (ao aL) ?_;rintro u40 XA ⟨rfl,ae,ne,ce,me,rfl,Cq⟩ pf;refine J1 ?_;refine mK (wC {x with now:=x.now+1#64} c,{P with mt:=jZ,mc:=RE,ae:=ae,ne:=ne,ce:=ce,me:=me}) ?_
   · have e:wC {x with now:=x.now+1#64} c=ba (dk (iy {x with now:=x.now+1#64} c (fh (qg x.cs c))) a {gT x a with st:=1}) 3 a (-1) c:=(by unfold wC;rw [if_pos h1,show (qg ({x with now:=x.now+1#64} :aC).cs c).cur=(a:Int) from ha];rfl);exact⟨rfl,by rw [e];exact Cq,by rw [e];exact Um,ak aL pf,by rw [e];rfl⟩
  refine J1 ?_;refine mK (wC {x with now:=x.now+1#64} c,P) ?_
  · have e:wC {x with now:=x.now+1#64} c= {x with now:=x.now+1#64} :=(by unfold wC;rw [if_neg (by simpa using h1)]);exact⟨rfl,by rw [e];exact {h with},by rw [e];exact hX,aL,by rw [e]⟩
 rintro ⟨y,Q⟩ ⟨hy,hQ,Um,xw,mu⟩;change QM _ _ _ _ _ (az b s (x.now+1#64) Q++ []) _ _ _
 clear ig ii il ip ix it iv ie ic iq;obtain ⟨ig,ii,il,ip,ix,it,iv,ie,ic,iq⟩:=bM xw;have iA:MI (k+1) y:=(by rw [hy];exact Vb.wC Gy);have qa:y.s=x.s:=(by rw [hy];exact xi ..);have P3:c<y.cs.length:=(by have h1:=iA.ce;have h2:=hI.ce;rw [qa] at h1;omega);obtain ⟨rj,n2,gy,Mt,H3,ZL,Gs,DG⟩:=Um.mm P3;have Tm:=iA.ev;have aj3:=iA.tl;have ahR:=hQ.st;have ac0:=hQ.nt
 refine J3 ?_;refine af.bH (α:=Bool) (fun q=>[(53,.bool q)]) [(0,_),(1,_),(4,_)] (fun q=>az b s (x.now+1#64) Q++ []) (fun q=>q=(decide ((qg y.cs c).cur<0)&&decide (0<(qg y.cs c).l.length))) cm ?_ ?_
 ·refine J4 ?_;refine LM.eT (fun w hm hc hg=>fF (M:=dI (Fg.getD c default) (qg y.cs c).g (qg y.cs c).fl rj n2 gy (qg y.cs c).cur (qg y.cs c).cI::Mt) Tryz.isAgg3 rfl rfl w (DG w (hm.pick Q.mc))) ?_;refine J2 ?_;refine LM.ar (t:=46) rfl (fun h2=>?_) (fun h2=>?_)
  ·refine J4 ?_;refine LM.eT (fun w hm hc hg=>fF (M:=dI (Fg.getD c default) (qg y.cs c).g (qg y.cs c).fl rj n2 gy (qg y.cs c).cur (qg y.cs c).cI::Mt) Tryz.isAgg128 rfl rfl w (DG w (hm.pick Q.mc))) ?_;refine J4 ?_;refine mK (_) ?_
   · rw [decide_eq_true h2,Bool.true_and,H3];exact decide_eq_decide.2 om
  refine J8 ?_;refine mK (_) ?_
  · rw [decide_eq_false h2];rfl
 rintro q hq;change QM _ _ _ _ _ (az b s (x.now+1#64) Q++ []) _ _ _;refine J1 ?_;refine af.bH (α:=aC×sD) (fun ⟨z,V⟩=>[]) [(0,_),(1,_),(4,_)] (fun ⟨z,V⟩=>az b s (x.now+1#64) V++ []) (fun ⟨z,V⟩=>z=vz y c∧fN n0 b s z V∧CH n0 V.bc z.cs mD nq je Fg rm V.mc∧cZ (az b s x.now P) w.heap.size (az b s (x.now+1#64) V)∧z.now=x.now+1#64) cm ?_ ?_
 ·refine af.aW rfl (fun h3=>?_) (fun h3=>?_)
  ·have jK:(qg y.cs c).cur<0∧0<(qg y.cs c).l.length:=(by rw [hq,Bool.and_eq_true,decide_eq_true_eq,decide_eq_true_eq] at h3;exact h3);obtain ⟨PV,xK,hp3⟩:=yf ZL jK.1 jK.2;obtain ⟨a,ha⟩:∃a:Nat,fJ (qg y.cs c)=(a:Nat):=⟨(fJ (qg y.cs c)).toNat,by omega⟩;have U7:a<y.ts.length:=(by have:=iA.ci.id c P3 _ xK;omega)
   refine J3 ?_;refine cU Tryz.func56 rfl (fun w hm hc hg=>Um.AE (i:=c) (x':=qJ (qg y.cs c)) P3 (hm.pick Q.mc) (iA.ci.pik P3).wf (fun m hr hM=>(by have q:=Bf w hr hM;rw [ha] at q;exact q))) Um.c.bW (ao ic) ?_;rintro u55 YR ⟨rfl,hX2⟩ JR;have i55:=ak ic JR;refine cK ?_;refine LM.iF ({gT y a with st:=2}) (j:=6) aA ir Tryz.sizeOf3 rfl rfl rfl (by first|exact bF om|exact aQ default cL) rfl (by decide) (by rfl) rfl (ao aA) (fun jZ fQ kj=>?_)
   try rw [List.set_set] at fQ
   have H6:=ca kj aA;refine J3 ?_;have wB:fN n0 b s (dk (iy y c (qJ (qg y.cs c))) a {gT y a with st:=2}) {Q with mt:=jZ,mc:=YR} := {hQ with nt:=(by rw [bt];exact ac0),st:=fQ,sc:=hX2.c}
   refine J3 ?_;refine cU Tryz.func55 rfl (fun w hm hc hg=>tc (y:=x.now+1#64) (by exact mu) 2 (a:Nat) (-1) (c:Nat) w wB (by show y.ev.length≤_;omega) (Nat.le_trans cb hc.size) (hm.pick _)) (fN.m (hn:=mu) wB).bW (ao aL) ?_;rintro u66 m66 ⟨rfl,ae,ne,ce,me,rfl,h66⟩ VQ;refine J1 ?_;refine mK (vz y c,{Q with mt:=jZ,mc:=YR,ae:=ae,ne:=ne,ce:=ce,me:=me}) ?_
   · have e:vz y c=ba (dk (iy y c (qJ (qg y.cs c))) a {gT y a with st:=2}) 2 a (-1) c:=(by unfold vz;rw [if_pos jK,ha];rfl);exact⟨rfl,by rw [e];exact h66,by rw [e];exact hX2,ak aL VQ,by rw [e];exact mu⟩
  refine J1 ?_;refine mK (vz y c,Q) ?_
  · have e:vz y c=y:=(by unfold vz;rw [if_neg (by rw [hq] at h3;simpa using h3)]);exact⟨rfl,by rw [e];exact hQ,by rw [e];exact Um,xw,by rw [e];exact mu⟩
 rintro ⟨z,V⟩ ⟨hz,hV,hX3,Uq,hzn⟩;change QM _ _ _ _ _ (az b s (x.now+1#64) V++ []) _ _ _
 clear ig ii il ip ix it iv ie ic iq;obtain ⟨ig,ii,il,ip,ix,it,iv,ie,ic,iq⟩:=bM Uq;have qS:MI (k+2) z:=(by rw [hz];exact iA.vz P3);have HZ:z.s=x.s:=(by rw [hz];exact(FN ..).trans qa);have R4:c<z.cs.length:=(by have h1:=qS.ce;have h2:=hI.ce;rw [HZ] at h1;omega);clear DG Gs H3;obtain ⟨rj,n2,gy,Mt,H3,amh,Gs,DG⟩:=hX3.mm R4;have Yu:=hV.st;have aaG:=hV.nt;have akJ:=hV.si;have aa7:=hV.ni;have aj7:=qS.il;have adX:=qS.ib
 refine J7 ?_;refine LM.eT (fun w hm hc hg=>fF (M:=dI (Fg.getD c default) (qg z.cs c).g (qg z.cs c).fl rj n2 gy (qg z.cs c).cur (qg z.cs c).cI::Mt) Tryz.isAgg3 rfl rfl w (DG w (hm.pick V.mc))) ?_;refine J3 ?_;refine af.bH (α:=sD) (fun R=>[]) [(0,_)] (fun R=>az b s (x.now+1#64) R++ []) (fun R=>fN n0 b s (uc z c) R∧cZ (az b s x.now P) w.heap.size (az b s (x.now+1#64) R)∧(uc z c).now=x.now+1#64) cm ?_ ?_
 ·refine af.aj rfl (fun h4=>?_) (fun h4=>?_)
  ·have hib:0≤z.idle.getD c 0∧z.idle.getD c 0≤((k+2:Nat):Int):=adX _ (List.mem_of_getElem? (aQ 0 om));refine J7 ?_;refine LM.rd (bw aA ir Tryz.isAgg3 rfl rfl (by first|exact bF om|exact aQ 0 cL) (by rfl)) ?_;refine J2 ?_;refine LM.iF ((z.idle.getD c 0+1)) (j:=0) aA ir Tryz.sizeOf3 rfl rfl rfl (by first|exact bF om|exact aQ 0 cL) rfl (by decide) (by rfl) rfl (ao aA) (fun jZ fQ kj=>?_)
   try rw [List.set_set] at fQ
   have H6:=ca kj aA;refine J1 ?_;refine mK ({V with mi:=jZ}) ?_
   · have e:uc z c= {z with idle:=z.idle.set c (z.idle.getD c 0+1)} :=(by unfold uc;rw [if_pos h4]);exact⟨by rw [e];exact {hV with ni:=(by show _=(z.idle.set _ _).length;rw [List.length_set];exact aa7),si:=fQ},aL,by rw [e];exact hzn⟩
  have qG:0≤(qg z.cs c).cur:=om;obtain ⟨hu1,Xx,hu3⟩:=qS.cur R4 qG;obtain ⟨hU1,WM,hU3⟩:=qS.Cz R4 qG;obtain ⟨a,ha⟩:∃a:Nat,(qg z.cs c).cur=(a:Nat):=⟨(qg z.cs c).cur.toNat,hu3.symm⟩;have U7:a<z.ts.length:=(by rw [ha] at Xx;exact Xx);have HN:0≤(z.ts.getD a default).ti∧(z.ts.getD a default).ti≤((k+2:Nat):Int):=(qS.tb a U7).ti;have hrn:=qS.ci.rn c R4;have haN:(qg z.cs c).cur.toNat=a:=(by rw [ha];rfl);rw [haN] at WM hU3;have hUe:Cz z c=dk (iy z c (fi (qg z.cs c))) a {gT z a with ti:=(gT z a).ti+1} :=(by unfold Cz;rw [haN])
  refine J5 ?_;refine LM.eT (fun w hm hc hg=>fF (M:=dI (Fg.getD c default) (qg z.cs c).g (qg z.cs c).fl rj n2 gy (qg z.cs c).cur (qg z.cs c).cI::Mt) Tryz.isAgg3 rfl rfl w (DG w (hm.pick V.mc))) ?_;rw [ha];refine J6 ?_;refine cU Tryz.func57 rfl (fun w hm hc hg=>hX3.AE (i:=c) (x':=fi (qg z.cs c)) R4 (hm.pick V.mc) (qS.ci.tick R4).wf (fun m hr hM=>Bo w hr om hM)) hX3.c.bW (ao ic) ?_;rintro u86 T9 ⟨rfl,hX4⟩ FR;have i86:=ak ic FR;refine dB ?_;refine LM.rd (aH (j:=11) aA ir Tryz.isAgg3 rfl rfl (by first|exact bF om|exact aQ default cL) rfl (by rfl)) ?_;refine J3 ?_;refine LM.iF ({gT z a with ti:=(gT z a).ti+1}) (j:=11) aA ir Tryz.sizeOf3 rfl rfl rfl (by first|exact bF om|exact aQ default cL) rfl (by decide) (by rfl) rfl (ao aA) (fun jZ fQ kj=>?_)
  try rw [List.set_set] at fQ
  have H6:=ca kj aA;refine J8 ?_;refine af.aS (α:=Bool×aC×Nat×sD) (fun ⟨ov,v,f,W⟩=>[(8,.bool ov)]) [(0,_),(1,_),(7,_)] (fun ⟨ov,v,f,W⟩=>az b s (x.now+1#64) W++ []) (fun ⟨ov,v,f,W⟩=>fN n0 b s v W∧v.now=x.now+1#64∧cZ (az b s x.now P) w.heap.size (az b s (x.now+1#64) W)∧(ov=true→v=o3 a c 64 (Cz z c))∧(ov=false→o3 a c 64 (Cz z c)=o3 a c f v∧Hy v a<f∧f≤64∧MI (k+3+300*(64-f)) v∧a<v.ts.length∧bO v.cs a<v.cs.length∧v.s=x.s)) (fun ⟨ov,v,f,W⟩=>f) ((false,Cz z c,64,{V with mc:=T9,mt:=jZ})) cm aX ⟨by rw [hUe];exact {hV with nt:=(by rw [bt];exact aaG),st:=fQ,sc:=hX4.c},by rw [hUe];exact hzn,aL,fun q=>(by cases q),fun _=>⟨rfl,Ps hU1 WM,Nat.le_refl _,hU1.mono om,WM,hU3,by rw [hUe];exact HZ⟩⟩ ?_;rintro ⟨ov,v,f,W⟩ ⟨hv,Ti,hnW,hov,adQ⟩;change af _ _ _ _ _ _ _ (az b s (x.now+1#64) W++ []) _ _ _;refine J7 ?_;refine af.aW rfl (fun h5=>?_) (fun h5=>?_)
  ·have abD:ov=false:=(by simpa using h5);obtain ⟨g1,g2,g3,g4,g5,g6,g7⟩:=adQ abD;have ZQ:c<v.cs.length:=(by have q1:=g4.ce;have q2:=hI.ce;rw [g7] at q1;omega);obtain ⟨f',hff⟩:∃f',f=f'+1:=⟨f-1,by omega⟩
   refine J7 ?_;refine cU Tryz.func58 rfl (fun w hm hc hg=>C2 w (hv.m (hn:=Ti)) g4 om g5 ZQ (hs.keep jS hc (fun b' hb=>by obtain ⟨p,hp,e⟩:=hb;rw [←e];exact h.ge p hp)) jS (Nat.le_trans cb hc.size) (hm.pick _)) (hv.m (hn:=Ti)).bW (ao hnW) ?_;rintro ak4 ah0 ⟨rfl,W1,hW1,adS⟩ TW;rw [tU,Ti] at hW1;subst hW1;refine J3 ?_;refine aK ((eZ v a c).2,(eZ v a c).1,f-1,W1) ?_ ?_
   · exact⟨adS,by rw [tU];exact Ti,ak hnW TW,fun q=>by rw [g1,hff,Sk q],fun q=>by {obtain ⟨e1,e2,e3,e4⟩:=sj g4 g5 g6 q;exact⟨by rw [g1,hff,Rb (by rw [q];simp)];rfl,by omega,by omega,(g4.YZ g5 ZQ g6).mono om,e2,e3,e4.trans g7⟩}⟩
   · (dsimp only;omega)
  refine J4 ?_;refine mK (W) ?_
  · have e:uc z c=v:=(by rw [hov (by simpa using h5)];unfold uc;rw [if_neg h4,haN];rw [←haN];rfl);exact⟨by rw [e];exact hv,hnW,by rw [e];exact Ti⟩
 rintro R ⟨hR,hnR,hRn⟩;change QM _ _ _ _ _ (az b s (x.now+1#64) R++ []) _ _ _;have Uj:MI (k+2+19300) (uc z c):=qS.uc R4;have UF:dY n0 b s (uc z c) (az b s (x.now+1#64) R):=hR.m (hn:=hRn);refine J3 ?_;refine cU Tryz.func31 rfl (fun w hm hc hg=>jd w UF Uj (Nat.le_trans cb hc.size) (hm.pick _)) UF.bW (ao hnR) ?_;rintro ai9 adE ⟨rfl,adL⟩ Rq;refine J1 ?_;refine QM.leave (.inr rfl) [] Tryz.results25 rfl ?_;intro w' aq ab aI;exact aZ (m':=adE) ⟨rfl,by rw [show tx x c=jJ (uc z c) by rw [hz,hy];rfl];exact adL⟩ aq aX ab (ak hnR Rq)
abbrev nL (b:Nat) (a:Act):Nat×Obj:=(b,.cells (fA a).toArray 37 (0,0))
set_option maxHeartbeats 4000000 in
theorem Hr {n0 b k:Nat} {s:eL} {x:aC} {m:aa} (a:Act) (w:World) (h:dY n0 b s x m) (hI:MI k x) (hk:k≤500000000000) (hs:s.In w) (jS:s.Old n0) (cb:n0≤w.heap.size) (hM:Mem w m):aJ Tryz.prog 8 #[.pointer (some ⟨b,0,none⟩),.agg (fA a).toArray] w (eI m (fun u m'=>u= .int .i64 (dd x a)∧dY n0 b s (jk x a) m') w):=by
 obtain ⟨P,rfl,h⟩:=h;have uf:=hI.tl;have rP:=h.nt;have eb:=h.ne;have Ef:=h.ng;have uN:=h.nl;have DC:x.s.cr=s.cr:=(by rw [h.hs];rfl);have ZT:x.s.ps.length=s.pn:=(by rw [h.hs,hs.Cp];exact List.length_map ..);have xI:dY n0 b s x (az b s x.now P):=h.m;obtain ⟨ig,ii,il,ip,ix,it,iv,ie,ic,iq⟩:=bM (ay (az b s x.now P) w.heap.size);refine aJ.au Tryz.func8 rfl Tryz.ntmps8 rfl (az b s x.now P++ []) ((fS (az b s x.now P))) aM ?_;refine J2 ?_;refine LM.box rfl rfl (fun b3 Mm=>?_);refine lg ?_;refine af.aj rfl (fun h1=>?_) (fun h1=>?_)
 ·refine J7 ?_;refine qL Tryz.results8 rfl fun w' aq ab aI=>?_;have hE:dd x a=3:=(by unfold dd;rw [if_pos om]);rw [hE,eu (by rw [hE];decide)];exact aZ (m':=az b s x.now P) ⟨rfl,xI⟩ aq aX ab (ay _ _)
 have hv:¬50000≤x.ev.length:=om;refine Fw ?_;refine af.aj rfl (fun h2=>?_) (fun h2=>?_)
 ·refine J2 ?_;refine af.bH (α:=Bool) (fun q=>[(34,.bool q)]) [(0,_),(3,_)] (fun q=>az b s x.now P++(nL b3 a:: [])) (fun q=>q=true↔(a.a<0∨s.cr≤a.a)) cm ?_ ?_
  ·refine af.draw [(0,0),(1,1),(2,0),(3,0),(4,0),(5,1),(6,0),(7,0),(8,0),(9,0),(10,1),(11,0),(12,0)] kr kr ?_;refine J4 ?_;refine LD.ar (t:=25) rfl (fun h3=>?_) (fun h3=>?_)
   ·refine cf ?_;refine mK (_) ?_
    · simp<;>omega
   refine cf ?_;refine mK (_) ?_
   · simp<;>omega
  rintro q hq;change QM _ _ _ _ _ (az b s x.now P++(nL b3 a:: [])) _ _ _;refine J1 ?_;refine af.aW rfl (fun h4=>?_) (fun h4=>?_)
  ·refine J9 ?_;refine qL Tryz.results8 rfl fun w' aq ab aI=>?_;have hE:dd x a=1:=(by rw [YB hv h2,if_pos (by rw [DC];exact hq.1 h4)]);rw [hE,eu (by rw [hE];decide)];exact aZ (m':=az b s x.now P) ⟨rfl,xI⟩ aq aX ab (ay _ _)
  have Ua:¬(a.a<0∨s.cr≤a.a):=(fun e=>by rw [hq.2 e] at h4;cases h4);obtain ⟨c,hca⟩:∃c:Nat,a.a=(c:Nat):=⟨a.a.toNat,by omega⟩;have hcc:c<x.cs.length:=(by have:=hI.ce;omega)
  refine J9 ?_;refine LM.val (NU (b:=1048576#64) rfl rfl) ?_;refine J2 ?_;refine af.aj rfl (fun h5=>?_) (fun h5=>?_)
  ·refine J9 ?_;refine qL Tryz.results8 rfl fun w' aq ab aI=>?_;have hE:dd x a=2:=(by rw [YB hv h2,if_neg (by rw [DC];exact Ua),if_pos (by first|exact h5|omega)]);rw [hE,eu (by rw [hE];decide)];exact aZ (m':=az b s x.now P) ⟨rfl,xI⟩ aq aX ab (ay _ _)
  refine J6 ?_;refine cU Tryz.func25 rfl (fun w hm hc hg=>(by have q:=wq (c:=c) w xI hI om hcc (hs.keep jS hc (fun b' hb=>by obtain ⟨p,hp,e⟩:=hb;rw [←e];exact h.ge p hp)) jS (Nat.le_trans cb hc.size) (hm.pick _);rw [←hca] at q;exact q)) xI.bW (ao (ay _ _)) ?_;rintro u43 m43 ⟨rfl,h43⟩ IK;refine J9 ?_;refine qL Tryz.results8 rfl fun w' aq ab aI=>?_;have hE:dd x a=0:=(by rw [YB hv h2,if_neg (by rw [DC];exact Ua),if_neg (by first|exact h5|omega)]);rw [hE,dx1 hE h2,show a.a.toNat=c by omega];exact aZ (m':=m43) ⟨rfl,h43⟩ aq aX ab IK
 refine J6 ?_;refine af.aj rfl (fun h6=>?_) (fun h6=>?_)
 ·refine J2 ?_;refine cU Tryz.func26 rfl (fun w hm hc hg=>ve w xI hI om (Nat.le_trans cb hc.size) (hm.pick _)) xI.bW (ao (ay _ _)) ?_;rintro u47 m47 ⟨rfl,h47⟩ Wy;refine J9 ?_;refine qL Tryz.results8 rfl fun w' aq ab aI=>?_;have hE:dd x a=0:=do2 hv h6;rw [hE,dx2 hE h6];exact aZ (m':=m47) ⟨rfl,h47⟩ aq aX ab Wy
 refine J6 ?_;refine af.aj rfl (fun h7=>?_) (fun h7=>?_)
 ·refine J6 ?_;refine cU Tryz.func27 rfl (fun w hm hc hg=>Dy w h.sc (Nat.le_trans cb hc.size) (hm.pick P.mc)) h.sc.bW (ao ic) ?_;rintro u55 YR ⟨rfl,TE⟩ JR;have i55:=ak ic JR;have hMb:dY n0 b s {x with cs:=jt x.cs} (az b s x.now {P with mc:=YR}):=fN.m {h with sc:=TE};refine Fw ?_;refine af.aj rfl (fun h8=>?_) (fun h8=>?_)
  ·have V0:jt x.cs=x.cs:=Ls hI.ci.wf aA;refine J9 ?_;refine qL Tryz.results8 rfl fun w' aq ab aI=>?_;have hE:dd x a=4:=(by rw [do3 hv h7,if_pos h8]);rw [hE,eu (by rw [hE];decide)];exact aZ (m':=az b s x.now {P with mc:=YR}) ⟨rfl,fN.m {h with sc:=(by rw [V0] at TE;exact TE)}⟩ aq aX ab aL
  obtain ⟨CJ,tf⟩:=Ks hI om;obtain ⟨t,Ey⟩:∃t:Nat,iC x.cs=(t:Nat):=⟨(iC x.cs).toNat,by omega⟩
  refine J6 ?_;refine cU Tryz.func28 rfl (fun w hm hc hg=>(by have q:=vn (t:=t) (tz x.cs) w hMb hI.VW om (by show t<x.ts.length;rw [Ey] at CJ;exact CJ) (Nat.le_trans cb hc.size) (hm.pick _);rw [←Ey] at q;exact q)) hMb.bW (ao aL) ?_;rintro u64 m64 ⟨rfl,zX⟩ v8;refine J9 ?_;refine qL Tryz.results8 rfl fun w' aq ab aI=>?_;have hE:dd x a=0:=(by rw [do3 hv h7,if_neg h8]);rw [hE,dx3 hE h7,show (iC x.cs).toNat=t by omega];exact aZ (m':=m64) ⟨rfl,zX⟩ aq aX ab (ak aL v8)
 refine J6 ?_;refine af.aj rfl (fun h9=>?_) (fun h9=>?_)
 ·refine J2 ?_;refine af.bH (α:=Bool) (fun q=>[(120,.bool q)]) [(0,_),(3,_)] (fun q=>az b s x.now P++(nL b3 a:: [])) (fun q=>q=true↔(a.a<0∨(s.pn:Int)≤a.a∨a.b<0∨(P.ng:Int)≤a.b∨a.c<1∨16<a.c∨a.d<0∨s.cr≤a.d)) cm ?_ ?_
  ·refine af.draw [(0,0),(1,1),(2,0),(3,0),(4,0),(5,1),(6,0),(7,0),(8,0),(9,0),(10,1),(11,0),(12,0),(13,0),(14,0),(15,0),(16,1),(17,0),(18,0),(19,0),(20,0),(21,1),(22,0),(23,0),(24,0),(25,1),(26,0),(27,0),(28,0),(29,0),(30,0),(31,1),(32,0),(33,0),(34,0),(35,0),(36,1),(37,0),(38,0),(39,0),(40,0),(41,1),(42,0),(43,0),(44,0),(45,0),(46,1),(47,0),(48,0),(49,0),(50,0),(51,1),(52,0),(53,0)] kr kr ?_;refine J4 ?_;refine LD.ar (t:=70) rfl (fun iV=>?_) (fun iV=>?_)
   ·refine J51 ?_;refine mK (_) ?_
    · simp<;>omega
   refine dB ?_;refine LD.ar (t:=81) rfl (fun kg=>?_) (fun kg=>?_)
   ·refine J40 ?_;refine mK (_) ?_
    · simp<;>omega
   refine J5 ?_;refine LD.ar (t:=86) rfl (fun gH=>?_) (fun gH=>?_)
   ·refine J35 ?_;refine mK (_) ?_
    · simp<;>omega
   refine cf ?_;refine LD.ar (t:=96) rfl (fun oq=>?_) (fun oq=>?_)
   ·refine J25 ?_;refine mK (_) ?_
    · simp<;>omega
   refine J5 ?_;refine LD.ar (t:=101) rfl (fun jw=>?_) (fun jw=>?_)
   ·refine US ?_;refine mK (_) ?_
    · simp<;>omega
   refine J5 ?_;refine LD.ar (t:=106) rfl (fun wW=>?_) (fun wW=>?_)
   ·refine ud ?_;refine mK (_) ?_
    · simp<;>omega
   refine J5 ?_;refine LD.ar (t:=111) rfl (fun tB=>?_) (fun tB=>?_)
   ·refine cf ?_;refine mK (_) ?_
    · simp<;>omega
   refine cf ?_;refine mK (_) ?_
   · simp<;>omega
  rintro q hq;change QM _ _ _ _ _ (az b s x.now P++(nL b3 a:: [])) _ _ _;refine J1 ?_;refine af.aW rfl (fun pC=>?_) (fun pC=>?_)
  ·refine J9 ?_;refine qL Tryz.results8 rfl fun w' aq ab aI=>?_;have hE:dd x a=1:=(by rw [do4 hv h9,if_pos (by rw [DC,ZT,←Ef];exact hq.1 pC)]);rw [hE,eu (by rw [hE];decide)];exact aZ (m':=az b s x.now P) ⟨rfl,xI⟩ aq aX ab (ay _ _)
  refine J6 ?_;refine cE Tryz.func29 rfl (fun w hm hc hg=>s9 w xI uf (hm.pick _)) ?_;refine J3 ?_;refine af.aW rfl (fun sX=>?_) (fun sX=>?_)
  ·refine J9 ?_;refine qL Tryz.results8 rfl fun w' aq ab aI=>?_;have hE:dd x a=3:=(by rw [do4 hv h9,if_neg (by rw [DC,ZT,←Ef];exact fun e=>by rw [hq.2 e] at pC;cases pC),if_neg (by simpa using sX)]);rw [hE,eu (by rw [hE];decide)];exact aZ (m':=az b s x.now P) ⟨rfl,xI⟩ aq aX ab (ay _ _)
  have aew:x.ts.length<64:=(by have hr:iK x=true:=(by simpa using sX);unfold iK at hr;simp only [Bool.and_eq_true,decide_eq_true_eq] at hr;exact hr.2);have Ua:¬(a.a<0∨(s.pn:Int)≤a.a∨a.b<0∨(P.ng:Int)≤a.b∨a.c<1∨16<a.c∨a.d<0∨s.cr≤a.d):=(fun e=>by rw [hq.2 e] at pC;cases pC)
  refine gw ?_;refine cU Tryz.func30 rfl (fun w hm hc hg=>vG a.a a.b a.c a.d w xI uf (by have:=hI.vl;omega) (by have:=hI.ev;omega) (Nat.le_trans cb hc.size) (hm.pick _)) xI.bW (ao (ay _ _)) ?_;rintro al2 ahX ⟨rfl,Xp⟩ JF;refine J4 ?_;refine cU Tryz.func31 rfl (fun w hm hc hg=>jd w Xp (hI.Ms a.a a.b a.c a.d om aew) (Nat.le_trans cb hc.size) (hm.pick _)) Xp.bW (ao JF) ?_;rintro XI Kw ⟨rfl,SQ⟩ C5;refine J9 ?_;refine qL Tryz.results8 rfl fun w' aq ab aI=>?_;have hE:dd x a=0:=(by rw [do4 hv h9,if_neg (by rw [DC,ZT,←Ef];exact Ua),if_pos (by simpa using sX)]);rw [hE,dx4 hE h9];exact aZ (m':=Kw) ⟨rfl,SQ⟩ aq aX ab (ak JF C5)
 refine J6 ?_;refine af.aj rfl (fun Cw=>?_) (fun Cw=>?_)
 ·refine J2 ?_;refine af.bH (α:=Bool) (fun q=>[(150,.bool q)]) [(0,_),(3,_)] (fun q=>az b s x.now P++(nL b3 a:: [])) (fun q=>q=true↔(a.a<0∨(P.nt:Int)≤a.a)) cm ?_ ?_
  ·refine af.draw [(0,0),(1,1),(2,0),(3,0),(4,0),(5,1),(6,0),(7,0),(8,0),(9,1),(10,0),(11,0),(12,0)] kr kr ?_;refine J4 ?_;refine LD.ar (t:=141) rfl (fun wV=>?_) (fun wV=>?_)
   ·refine cf ?_;refine mK (_) ?_
    · simp<;>omega
   refine cf ?_;refine mK (_) ?_
   · simp<;>omega
  rintro q hq;change QM _ _ _ _ _ (az b s x.now P++(nL b3 a:: [])) _ _ _;refine J1 ?_;refine af.aW rfl (fun H4=>?_) (fun H4=>?_)
  ·refine J9 ?_;refine qL Tryz.results8 rfl fun w' aq ab aI=>?_;have hE:dd x a=4:=(by rw [ZO hv Cw,if_pos (by rw [←rP];exact hq.1 H4)]);rw [hE,eu (by rw [hE];decide)];exact aZ (m':=az b s x.now P) ⟨rfl,xI⟩ aq aX ab (ay _ _)
  have hq5:¬(a.a<0∨(P.nt:Int)≤a.a):=(fun e=>by rw [hq.2 e] at H4;cases H4);obtain ⟨t,Ey⟩:∃t:Nat,a.a=(t:Nat):=⟨a.a.toNat,by omega⟩;have xu:t<x.ts.length:=om;have er:=h.st;have HQ:0≤a.a∧a.a<(P.nt:Int):=om;refine J4 ?_;refine af.draw [(0,0),(1,0),(2,0),(3,1),(4,0),(5,1),(6,0),(7,0),(8,1),(9,0)] kr kr ?_;refine J6 ?_;refine LD.val rfl rfl (cP o5 Tryz.underlying45 Tryz.sizeOf66 rfl rfl om) ?_;refine J1 ?_;refine LD.rd rfl rfl (aH (j:=6) aA ir Tryz.isAgg3 rfl rfl (by first|exact bF om|exact aQ default cL) rfl (by rfl)) ?_;refine J3 ?_;refine af.aj rfl (fun JY=>?_) (fun JY=>?_)
  ·refine J9 ?_;refine qL Tryz.results8 rfl fun w' aq ab aI=>?_;have hE:dd x a=11:=(by rw [ZO hv Cw,if_neg (by rw [←rP];exact hq5),if_pos JY]);rw [hE,eu (by rw [hE];decide)];exact aZ (m':=az b s x.now P) ⟨rfl,xI⟩ aq aX ab (ay _ _)
  refine J7 ?_;refine cU Tryz.func32 rfl (fun w hm hc hg=>(by have q:=pR (t:=t) w xI hI om xu (Nat.le_trans cb hc.size) (hm.pick _);rw [←Ey] at q;exact q)) xI.bW (ao (ay _ _)) ?_;rintro ah1 akx ⟨rfl,YU⟩ Kd;refine J4 ?_;refine cU Tryz.func31 rfl (fun w hm hc hg=>jd w YU (hI.die xu) (Nat.le_trans cb hc.size) (hm.pick _)) YU.bW (ao Kd) ?_;rintro aii abt ⟨rfl,aa1⟩ Sx;refine J9 ?_;refine qL Tryz.results8 rfl fun w' aq ab aI=>?_;have hE:dd x a=0:=(by rw [ZO hv Cw,if_neg (by rw [←rP];exact hq5),if_neg JY]);rw [hE,dx5 hE Cw,show a.a.toNat=t by omega];exact aZ (m':=abt) ⟨rfl,aa1⟩ aq aX ab (ak Kd Sx)
 refine J6 ?_;refine af.aj rfl (fun HU=>?_) (fun HU=>?_)
 ·refine J2 ?_;refine af.bH (α:=Bool) (fun q=>[(191,.bool q)]) [(0,_),(3,_)] (fun q=>az b s x.now P++(nL b3 a:: [])) (fun q=>q=true↔(a.a<0∨(P.ng:Int)≤a.a∨a.b<1∨16<a.b)) cm ?_ ?_
  ·refine af.draw [(0,0),(1,1),(2,0),(3,0),(4,0),(5,1),(6,0),(7,0),(8,0),(9,1),(10,0),(11,0),(12,0),(13,0),(14,0),(15,1),(16,0),(17,0),(18,0),(19,0),(20,1),(21,0),(22,0)] kr kr ?_;refine J4 ?_;refine LD.ar (t:=172) rfl (fun XE=>?_) (fun XE=>?_)
   ·refine US ?_;refine mK (_) ?_
    · simp<;>omega
   refine cf ?_;refine LD.ar (t:=182) rfl (fun uk=>?_) (fun uk=>?_)
   ·refine cf ?_;refine mK (_) ?_
    · simp<;>omega
   refine J5 ?_;refine LD.ar (t:=187) rfl (fun P8=>?_) (fun P8=>?_)
   ·refine J5 ?_;refine mK (_) ?_
    · simp<;>omega
   refine J5 ?_;refine mK (_) ?_
   · simp<;>omega
  rintro q hq;change QM _ _ _ _ _ (az b s x.now P++(nL b3 a:: [])) _ _ _;refine J1 ?_;refine af.aW rfl (fun ZM=>?_) (fun ZM=>?_)
  ·refine J9 ?_;refine qL Tryz.results8 rfl fun w' aq ab aI=>?_;have hE:dd x a=1:=(by rw [do6 hv HU,if_pos (by rw [←Ef];exact hq.1 ZM)]);rw [hE,eu (by rw [hE];decide)];exact aZ (m':=az b s x.now P) ⟨rfl,xI⟩ aq aX ab (ay _ _)
  have hq6:¬(a.a<0∨(P.ng:Int)≤a.a∨a.b<1∨16<a.b):=(fun e=>by rw [hq.2 e] at ZM;cases ZM);have As:=h.sg;have HQ:0≤a.a∧a.a<(P.ng:Int):=om;refine J3 ?_;refine af.keep (uH b s x.now P::nL b3 a:: []) (fun _=>True) (.one 0 0 (.one 1 0 (.one 2 0 (.one 3 1 (.one 4 0 (.one 5 1 (.one 6 0 (.one 7 1 (.one 8 0 (.last 9)))))))))) kr kr aX (fun _ _=>trivial) ?_;refine J8 ?_;refine KD.val rfl rfl (cP o5 Tryz.underlying26 Tryz.sizeOf3 rfl rfl om) ?_;refine KD.last rfl ?_;refine LM.iF (a.b) (j:=0) aA ir Tryz.sizeOf3 rfl rfl rfl (by first|exact bF om|exact aQ 0 cL) rfl (by decide) (by rfl) rfl (ao aA) (fun ly dc dK=>?_)
  try rw [List.set_set] at dc
  have Gb:=ca dK aA;refine J1 ?_;refine QM.qn ?_;refine J7 ?_;refine af.aS (α:=Nat×List aY×aa) (fun ⟨i,ls,mq⟩=>[(8,.int .i64 (i:Nat))]) [(0,_),(3,_)] (fun ⟨i,ls,mq⟩=>uH b s x.now P::gR P.bg P.ax P.nx P.cx::(P.mi++(P.ml++(ly++(P.mx++(P.mt++(P.mv++(P.me++(P.mc++(mq++(nL b3 a:: []))))))))))) (fun ⟨i,ls,mq⟩=>i≤x.lk.length∧ls=GC (fun L=>iz L a.a a.b) x.lk i∧jT MC n0 P.bs ls mq∧cZ (az b s x.now P) w.heap.size mq) (fun ⟨i,ls,mq⟩=>x.lk.length-i) ((0,x.lk,P.mq)) cm aX ⟨Nat.zero_le _,rfl,h.sq,iq⟩ ?_;rintro ⟨i,ls,mq⟩ ⟨hi,um,HY,UE⟩;change af _ _ _ _ _ _ _ (uH b s x.now P::gR P.bg P.ax P.nx P.cx::(P.mi++(P.ml++(ly++(P.mx++(P.mt++(P.mv++(P.me++(P.mc++(mq++(nL b3 a:: []))))))))))) _ _ _;have KF:ls.length=x.lk.length:=(by rw [um,lV]);have sY:=h.bl;have gh:=h.sl;have Pr:=hI.l8;refine cK ?_;refine af.aj rfl (fun h28=>?_) (fun h28=>?_)
  ·refine J4 ?_;refine af.draw [(0,0),(1,0),(2,0),(3,1),(4,0),(5,0),(6,1),(7,0),(8,1),(9,0),(10,1),(11,3)] kr kr ?_;refine J6 ?_;refine LD.rd rfl rfl (bw aA ir Tryz.isAgg54 rfl rfl (by first|exact bF om|exact aQ default cL) (by rfl)) ?_;refine J4 ?_;refine LD.tail rfl rfl ?_;refine cU Tryz.func33 rfl (fun w hm hc hg=>HY.AE C8 (i:=i) om (hm.pick mq) (fun m hr hM=>Dx a.a a.b w hr hM)) (HY.bW C8) (ao UE) ?_;rintro amf aep ⟨rfl,abv⟩ TJ;refine J1 ?_;refine QM.qn ?_;refine J7 ?_;refine aK (i+1,ls.set i (iz (qg ls i) a.a a.b),aep) ?_ ?_
   · exact⟨by omega,by rw [um];rfl,abv,ak UE TJ⟩
   · (dsimp only;omega)
  refine cK ?_;refine qL Tryz.results8 rfl fun w' aq ab aI=>?_;have fp:i=x.lk.length:=om;subst fp;rw [CZ] at um;have hE:dd x a=0:=(by rw [do6 hv HU,if_neg (by rw [←Ef];exact hq6)]);rw [hE,dx6 hE HU];exact aZ (m':=az b s x.now {P with mg:=ly,mq:=mq}) ⟨rfl,fN.m {h with ng:=(by show _=(x.gp.set _ _).length;rw [List.length_set];exact Ef),sg:=dc,nl:=(by show _=(x.lk.map _).length;rw [List.length_map];exact uN),bl:=(by show _=(x.lk.map _).length;rw [List.length_map];exact sY),sq:=(by rw [um] at HY;exact HY)}⟩ aq aX ab aL
 refine J6 ?_;refine af.aj rfl (fun h29=>?_) (fun h29=>?_)
 ·refine J1 ?_;refine af.draw [(0,0),(1,0),(2,0),(3,1),(4,0),(5,1),(6,0),(7,1),(8,3),(9,3)] kr kr ?_;refine J8 ?_;refine LD.tail rfl rfl ?_;refine cU Tryz.func34 rfl (fun w hm hc hg=>Ec a.a a.b w h.sc (Nat.le_trans cb hc.size) (hm.pick P.mc)) h.sc.bW (ao ic) ?_;rintro aiK VK ⟨rfl,LY⟩ Su;have i232:=ak ic Su;refine J2 ?_;refine QM.qn ?_;refine J8 ?_;refine af.aj rfl (fun h30=>?_) (fun h30=>?_)
  ·refine cf ?_;refine qL Tryz.results8 rfl fun w' aq ab aI=>?_;have hE:dd x a=eF x.cs a.b a.a:=do7 hv h29;rw [hE,eu (by rw [hE];exact h30)];exact aZ (m':=az b s x.now {P with mc:=VK}) ⟨rfl,fN.m {h with sc:=(by rw [kL h30] at LY;exact LY)}⟩ aq aX ab aL
  have hE7:eF x.cs a.b a.a=0:=om;obtain ⟨hm1,Kk,Zn,hm4,hm5⟩:=EU hE7;obtain ⟨ale,YQ⟩:=hI.ids hm1;obtain ⟨t,Ey⟩:∃t:Nat,a.a=(t:Nat):=⟨a.a.toNat,by omega⟩;have hMv:dY n0 b s {x with cs:=jB x.cs a.b a.a} (az b s x.now {P with mc:=VK}):=fN.m {h with sc:=LY};refine J8 ?_;refine cU Tryz.func28 rfl (fun w hm hc hg=>(by have q:=vn (t:=t) a.b w hMv (hI.Xo a.b a.a) om (by show t<x.ts.length;rw [Ey] at YQ;exact YQ) (Nat.le_trans cb hc.size) (hm.pick _);rw [←Ey] at q;exact q)) hMv.bW (ao aL) ?_;rintro ajy acL ⟨rfl,aeR⟩ Se;refine J9 ?_;refine qL Tryz.results8 rfl fun w' aq ab aI=>?_;have hE:dd x a=0:=(do7 hv h29).trans hE7;rw [hE,dx7 hE h29,show a.a.toNat=t by omega];exact aZ (m':=acL) ⟨rfl,aeR⟩ aq aX ab (ak aL Se)
 refine J6 ?_;refine af.aj rfl (fun Yg=>?_) (fun Yg=>?_)
 ·refine J2 ?_;refine af.bH (α:=Bool) (fun q=>[(251,.bool q)]) [(0,_),(3,_)] (fun q=>az b s x.now P++(nL b3 a:: [])) (fun q=>q=true↔(a.a<0∨200<a.a)) cm ?_ ?_
  ·refine J5 ?_;refine LM.ar (t:=247) rfl (fun h32=>?_) (fun h32=>?_)
   ·refine J5 ?_;refine mK (_) ?_
    · simp<;>omega
   refine J6 ?_;refine mK (_) ?_
   · simp<;>omega
  rintro q hq;change QM _ _ _ _ _ (az b s x.now P++(nL b3 a:: [])) _ _ _;refine J1 ?_;refine af.aW rfl (fun UZ=>?_) (fun UZ=>?_)
  ·refine J9 ?_;refine qL Tryz.results8 rfl fun w' aq ab aI=>?_;have hE:dd x a=1:=(by rw [ZD hv Yg,if_pos (hq.1 UZ)]);rw [hE,eu (by rw [hE];decide)];exact aZ (m':=az b s x.now P) ⟨rfl,xI⟩ aq aX ab (ay _ _)
  have Zu:=tG hI.ms;have hq8:¬(a.a<0∨200<a.a):=(fun e=>by rw [hq.2 e] at UZ;cases UZ);have hmul:0≤a.a*s.cr∧a.a*s.cr≤800:=(by rw [DC] at Zu;rcases (show s.cr=1∨s.cr=2∨s.cr=3∨s.cr=4 by omega) with e|e|e|e<;>rw [e] <;>omega)
  refine J4 ?_;refine af.draw [(0,0),(1,0),(2,0),(3,1),(4,0),(5,1),(6,0),(7,0),(8,0),(9,0),(10,1),(11,0),(12,0),(13,0),(14,0)] kr kr ?_;refine dB ?_;refine LD.val rfl rfl (A0 rfl rfl om) ?_;refine LD.val rfl rfl (oc Tryz.underlying3 Tryz.underlying41 rfl) ?_;refine LD.val rfl rfl (gY rfl rfl) ?_;refine LD.val rfl rfl (lr (b:=1048576#64) rfl rfl) ?_;refine J2 ?_;refine af.aj rfl (fun PX=>?_) (fun PX=>?_)
  ·refine J9 ?_;refine qL Tryz.results8 rfl fun w' aq ab aI=>?_;have hE:dd x a=2:=(by rw [ZD hv Yg,if_neg (fun e=>by rw [hq.2 e] at UZ;cases UZ),if_pos (by rw [DC];exact PX)]);rw [hE,eu (by rw [hE];decide)];exact aZ (m':=az b s x.now P) ⟨rfl,xI⟩ aq aX ab (ay _ _)
  refine J8 ?_;refine af.aS (α:=Nat×aC×sD) (fun ⟨i,y,Y⟩=>[(10,.int .i64 (i:Nat))]) [(0,_),(3,_)] (fun ⟨i,y,Y⟩=>az b s y.now Y++(nL b3 a:: [])) (fun ⟨i,y,Y⟩=>i≤a.a.toNat∧y=xf x i∧fN n0 b s y Y∧cZ (az b s x.now P) w.heap.size (az b s y.now Y)) (fun ⟨i,y,Y⟩=>a.a.toNat-i) ((0,x,P)) cm aX ⟨Nat.zero_le _,rfl,h,ay _ _⟩ ?_;rintro ⟨i,y,Y⟩ ⟨hi,hy,hY,hnY⟩;change af _ _ _ _ _ _ _ (az b s y.now Y++(nL b3 a:: [])) _ _ _;have iA:MI (k+100000*i) y:=(by rw [hy];exact hI.AQ i);have qa:y.s=x.s:=(by rw [hy];exact De ..)
  refine J9 ?_;refine af.aj rfl (fun h35=>?_) (fun h35=>?_)
  ·refine dB ?_;refine af.aS (α:=Nat×aC×sD) (fun ⟨c,v,V⟩=>[(11,.int .i64 (c:Nat))]) [(0,_),(3,_),(10,_)] (fun ⟨c,v,V⟩=>az b s v.now V++(nL b3 a:: [])) (fun ⟨c,v,V⟩=>c≤y.s.cr.toNat∧v=wS y c∧fN n0 b s v V∧cZ (az b s x.now P) w.heap.size (az b s v.now V)) (fun ⟨c,v,V⟩=>y.s.cr.toNat-c) ((0,y,Y)) cm aX ⟨Nat.zero_le _,rfl,hY,hnY⟩ ?_;rintro ⟨c,v,V⟩ ⟨hc9,Z7,hV,Uq⟩;change af _ _ _ _ _ _ _ (az b s v.now V++(nL b3 a:: [])) _ _ _;have hIv:MI (k+100000*i+19400*c) v:=(by rw [Z7];exact iA.Qc hc9);have hvs:v.s=y.s:=(by rw [Z7];exact A7 ..);have h4v:=hIv.len;have akW:y.s.cr=s.cr:=(by rw [qa];exact DC);have h4y:=iA.len;rw [hvs] at h4v;refine cK ?_;refine af.aj rfl (fun U4=>?_) (fun U4=>?_)
   ·have ZQ:c<v.cs.length:=om;refine J7 ?_;refine cU Tryz.func25 rfl (fun w hm hc hg=>wq w (fN.m hV) hIv om ZQ (hs.keep jS hc (fun b' hb=>by obtain ⟨p,hp,e⟩:=hb;rw [←e];exact h.ge p hp)) jS (Nat.le_trans cb hc.size) (hm.pick _)) (fN.m hV).bW (ao Uq) ?_;rintro aiH ajJ ⟨rfl,V1,rfl,aeG⟩ Sv;refine J8 ?_;refine aK (c+1,tx v c,V1) ?_ ?_
    · exact⟨by omega,by rw [qc,←Z7],aeG,ak Uq Sv⟩
    · (dsimp only;omega)
   have hcE:c=y.s.cr.toNat:=om;have WL:Ci y=uP v:=(by rw [Z7,hcE];rfl)
   refine J7 ?_;refine cU Tryz.func26 rfl (fun w hm hc hg=>ve w (fN.m hV) hIv om (Nat.le_trans cb hc.size) (hm.pick _)) (fN.m hV).bW (ao Uq) ?_;rintro aj8 aiM ⟨rfl,V2,rfl,aaB⟩ TD;refine J8 ?_;refine aK (i+1,uP v,V2) ?_ ?_
   · exact⟨by omega,by rw [←WL,hy];rfl,aaB,ak Uq TD⟩
   · (dsimp only;omega)
  refine cK ?_;refine qL Tryz.results8 rfl fun w' aq ab aI=>?_;have fp:i=a.a.toNat:=om;have hE:dd x a=0:=(by rw [ZD hv Yg,if_neg hq8,if_neg (by rw [DC];exact PX)]);rw [hE,dx8 hE Yg,←fp,←hy];exact aZ (m':=az b s y.now Y) ⟨rfl,hY.m⟩ aq aX ab hnY
 refine J8 ?_;refine qL Tryz.results8 rfl fun w' aq ab aI=>?_;have hE:dd x a=1:=(do0 hv om);rw [hE,eu (by rw [hE];decide)];exact aZ (m':=az b s x.now P) ⟨rfl,xI⟩ aq aX ab (ay _ _)
def McN (s:eL) (n0:Nat) (v:Value) (m:aa):Prop:=
  (fC s.C=false∧v= .tuple #[.pointer none,.bool false]∧m=[])∨(fC s.C=true∧∃b,v= .tuple #[.pointer (some ⟨b,0,none⟩),.bool true]∧dY n0 b s (fj s.C) m)
def Pt (s:kh) (i:Nat):List aY:=(s.ls.take i).map (fun l=>nJ ⟨l.sh,l.sl,l.cr,l.rd,l.wr⟩ s.gs)
theorem vV {s:kh} {i:Nat} (h:i<s.ls.length):Pt s (i+1)=Pt s i++ [nJ ⟨(s.ls.getD i default).sh,(s.ls.getD i default).sl,(s.ls.getD i default).cr,(s.ls.getD i default).rd,(s.ls.getD i default).wr⟩ s.gs] :=by
  unfold Pt;rw [bD default h,List.map_append];rfl
set_option maxHeartbeats 2000000 in
theorem Eo {s:eL} (w:World) (hI:s.In w):aJ Tryz.prog 7 #[s.val] w (fun v w'=>Ext w w'∧∃m,McN s w.heap.size v m∧Mem w' m∧∀p∈m,w.heap.size≤p.1):=by
 have hl0:=hI.hl;have A1:=hI.A1;have Mz:=hI.Mz;refine aJ.au Tryz.func7 rfl Tryz.ntmps7 rfl ([]) (no) (Mem.nil w) ?_;refine J2 ?_;refine LM.box rfl rfl (fun b1 CJ=>?_);refine J7 ?_;refine LM.rd (bo Tryz.isAgg30 Tryz.sizeOf30 rfl rfl) ?_;refine cE Tryz.func21 rfl (fun w hm hc hg=>Df (s:=s) w (hI.ext hc)) ?_;refine J3 ?_;refine af.aW rfl (fun h1=>?_) (fun h1=>?_)
 ·refine J8 ?_;refine QM.leave (.inl rfl) [.tmp 2,.tmp 3] Tryz.results7 rfl ?_;intro w' aq ab aI;exact⟨ab,[],.inl ⟨by simpa using h1,rfl,rfl⟩,Mem.nil _,fun p hp=>by cases hp⟩
 have CW:fC s.C=true:=(by simpa using h1);have h8:s.ls.length≤8:=(ky CW).1;have DC:1≤s.cr∧s.cr≤4:=tG CW;refine J3 ?_;refine af.bH (α:=Nat×sD) (fun ⟨b,P⟩=>[(4,.pointer (some ⟨b,0,none⟩))]) [(1,_)] (fun ⟨b,P⟩=>az b s 0#64 P++(xp b1 s:: [])) (fun ⟨b,P⟩=>fN w.heap.size b s {fj s.C with lk:=[],gp:=[] } P) cm ?_ ?_
 ·refine af.keep (xp b1 s:: []) (fun _=>True) (.one 0 1 (.one 1 0 (.one 2 1 (.one 3 0 (.one 4 1 (.one 6 0 (.one 7 1 (.fork 5 (.fork 8 (.one 9 2 (.one 10 0 (.one 11 2 (.one 12 0 .nil)))) 9 (.one 8 2 (.one 10 0 (.one 11 2 (.one 12 0 .nil))))) 8 (.one 5 2 (.one 9 2 (.one 10 0 (.one 11 2 (.one 12 0 .nil))))))))))))) kr kr aX (fun _ _=>trivial) ?_;refine KD.rd rfl rfl (bo Tryz.isAgg30 Tryz.sizeOf30 rfl rfl) ?_;refine J6 ?_;refine KD.fork rfl rfl ?_ ?_
  ·refine LM.iO (oC Tryz.func22) Tq.mono (fun w hm hc hg=>vr s.cr s.gr w) ?_;rintro u14 Va ⟨bc,rfl,jw⟩ Xh;refine J2 ?_;refine KD.fork rfl rfl ?_ ?_
   ·refine LM.JT (f:=fI) (a0:=0) Tryz.underlying26 Tryz.typeInfo3 rfl rfl rfl rfl ir rfl rfl rfl om (by simp only [Tryz.t3];omega) om (by unfold maxLen;omega) (fun yt CK Qu uL Ds=>?_);refine J3 ?_;refine LM.iO (oC Tryz.func23) u3.mono (fun w hm hc hg=>rT w) ?_;rintro u18 m18 ⟨bg,VU,nx,I9,mx,rfl,rfl,VM,OR,RO⟩ Qx;refine J2 ?_;refine KD.val rfl rfl (aD (cs:=#[.int .i64 s.cr,.int .i64 s.gr,.slice s.ga s.gn s.gc,.slice s.la s.ln s.lc,.slice s.pa s.pn s.pc,U 0#64,.pointer (some ⟨bc,0,none⟩),.slice yt CK CK,.slice none 0 0,.slice none 0 0,.pointer (some ⟨bg,0,none⟩),.slice none 0 0,.slice none 0 0,.slice none 0 0]) rfl kr) ?_;refine J1 ?_;refine LM.box rfl rfl (fun Xf LX=>?_);refine J4 ?_;refine mK ((Xf,⟨bc,bg,[],yt,CK,CK,none,0,0,none,0,0,VU,nx,I9,none,0,0,none,0,0,none,0,0,Qu,[],[],mx,[],[],[],Va,[]⟩)) ?_
    · exact⟨by rw [uL];exact(List.length_replicate ..).symm,(by show Sl fI _ 1 _ (List.replicate s.cr.toNat 0) _ _;rw [←uL];exact Ds),rfl,rfl,.nil _ _ _ _,jT.nil,rfl,.nil _ _ _ _,OR,rfl,RO,rfl,.nil _ _ _ _,rfl,.nil _ _ _ _,rfl,.nil _ _ _ _,jw,LX,VM,rfl⟩
   refine LM.iO (oC Tryz.func23) u3.mono (fun w hm hc hg=>rT w) ?_;rintro u18 m18 ⟨bg,VU,nx,I9,mx,rfl,rfl,VM,OR,RO⟩ Qx;refine J3 ?_;refine LM.JT (f:=fI) (a0:=0) Tryz.underlying26 Tryz.typeInfo3 rfl rfl rfl rfl ir rfl rfl rfl om (by simp only [Tryz.t3];omega) om (by unfold maxLen;omega) (fun yt CK Qu uL Ds=>?_);refine J2 ?_;refine KD.val rfl rfl (aD (cs:=#[.int .i64 s.cr,.int .i64 s.gr,.slice s.ga s.gn s.gc,.slice s.la s.ln s.lc,.slice s.pa s.pn s.pc,U 0#64,.pointer (some ⟨bc,0,none⟩),.slice yt CK CK,.slice none 0 0,.slice none 0 0,.pointer (some ⟨bg,0,none⟩),.slice none 0 0,.slice none 0 0,.slice none 0 0]) rfl kr) ?_;refine J1 ?_;refine LM.box rfl rfl (fun Xf LX=>?_);refine J4 ?_;refine mK ((Xf,⟨bc,bg,[],yt,CK,CK,none,0,0,none,0,0,VU,nx,I9,none,0,0,none,0,0,none,0,0,Qu,[],[],mx,[],[],[],Va,[]⟩)) ?_
   · exact⟨by rw [uL];exact(List.length_replicate ..).symm,(by show Sl fI _ 1 _ (List.replicate s.cr.toNat 0) _ _;rw [←uL];exact Ds),rfl,rfl,.nil _ _ _ _,jT.nil,rfl,.nil _ _ _ _,OR,rfl,RO,rfl,.nil _ _ _ _,rfl,.nil _ _ _ _,rfl,.nil _ _ _ _,jw,LX,VM,rfl⟩
  refine LM.JT (f:=fI) (a0:=0) Tryz.underlying26 Tryz.typeInfo3 rfl rfl rfl rfl ir rfl rfl rfl om (by simp only [Tryz.t3];omega) om (by unfold maxLen;omega) (fun yt CK Qu uL Ds=>?_);refine J3 ?_;refine LM.iO (oC Tryz.func22) Tq.mono (fun w hm hc hg=>vr s.cr s.gr w) ?_;rintro u14 Va ⟨bc,rfl,jw⟩ Xh;refine J3 ?_;refine LM.iO (oC Tryz.func23) u3.mono (fun w hm hc hg=>rT w) ?_;rintro u18 m18 ⟨bg,VU,nx,I9,mx,rfl,rfl,VM,OR,RO⟩ Qx;refine J2 ?_;refine KD.val rfl rfl (aD (cs:=#[.int .i64 s.cr,.int .i64 s.gr,.slice s.ga s.gn s.gc,.slice s.la s.ln s.lc,.slice s.pa s.pn s.pc,U 0#64,.pointer (some ⟨bc,0,none⟩),.slice yt CK CK,.slice none 0 0,.slice none 0 0,.pointer (some ⟨bg,0,none⟩),.slice none 0 0,.slice none 0 0,.slice none 0 0]) rfl kr) ?_;refine J1 ?_;refine LM.box rfl rfl (fun Xf LX=>?_);refine J4 ?_;refine mK ((Xf,⟨bc,bg,[],yt,CK,CK,none,0,0,none,0,0,VU,nx,I9,none,0,0,none,0,0,none,0,0,Qu,[],[],mx,[],[],[],Va,[]⟩)) ?_
  · exact⟨by rw [uL];exact(List.length_replicate ..).symm,(by show Sl fI _ 1 _ (List.replicate s.cr.toNat 0) _ _;rw [←uL];exact Ds),rfl,rfl,.nil _ _ _ _,jT.nil,rfl,.nil _ _ _ _,OR,rfl,RO,rfl,.nil _ _ _ _,rfl,.nil _ _ _ _,rfl,.nil _ _ _ _,jw,LX,VM,rfl⟩
 rintro ⟨b,P⟩ hP;change QM _ _ _ _ _ (az b s 0#64 P++(xp b1 s:: [])) _ _ _;have hb0:=hP.hb;have As:Sl fI 3 1 w.heap.size ([] :List Int) (.slice P.ag P.ng P.cg) P.mg:=hP.sg;have h4:=F8 CW;have h4g:s.gs.length≤4:=h4.2;refine J2 ?_;refine af.draw [(0,0),(1,0),(2,0),(3,0),(4,1),(5,0),(6,1),(7,3),(8,3),(9,3),(10,3)] kr kr ?_;refine J7 ?_;refine LD.tail rfl rfl ?_;refine LM.rD (ys:=s.gs) (m:=P.mg) Tryz.underlying26 Tryz.typeInfo3 rfl rfl rfl rfl rfl rfl rfl As (fun w hm hc hg=>hI.hg.ext hc) ir (by intro _ u hu;simp [fI] at hu;(repeat (first|(rcases hu with rfl|hu)|subst hu|rfl))) (Nat.le_refl _) (fun p hp bB=>absurd bB (Nat.not_lt_of_le (Sl.ge As p hp))) (by unfold maxLen;simp only [List.length_nil];omega) (by simp only [Tryz.t3,List.length_nil];omega) (fun Vq n28 QU Vj acC aex Qd=>?_);refine J2 ?_;refine LM.st Tryz.sizeOf26 rfl rfl rfl eA rfl cn ?_;refine LM.mem (aT.mem (M':=az b s 0#64 {P with ag:=Vq,ng:=n28,cg:=QU,mg:=Vj} ++(xp b1 s:: [])) aX) ?_;refine J1 ?_;refine QM.qn ?_;refine J8 ?_;refine af.aS (α:=Nat×sD) (fun ⟨i,R⟩=>[(5,.int .i64 (i:Nat))]) [(1,_),(4,_)] (fun ⟨i,R⟩=>az b s 0#64 R++(xp b1 s:: [])) (fun ⟨i,R⟩=>i≤s.ls.length∧fN w.heap.size b s {fj s.C with lk:=Pt s.C i} R) (fun ⟨i,R⟩=>s.ls.length-i) ((0,{P with ag:=Vq,ng:=n28,cg:=QU,mg:=Vj})) cm aX ⟨Nat.zero_le _,{hP with ng:=(by show n28=s.gs.length;rw [acC];simp),sg:=(by show Sl fI _ 1 _ s.gs _ _;exact aex)}⟩ ?_;rintro ⟨i,R⟩ ⟨hi,hR⟩;change af _ _ _ _ _ _ _ (az b s 0#64 R++(xp b1 s:: [])) _ _ _;have akb:=hR.hb;have gZ:(Pt s.C i).length=i:=(by unfold Pt;rw [List.length_map,List.length_take];show min i s.ls.length=i;omega);have gh:=hR.sl;have uN:R.nl=i:=hR.nl.trans gZ;have sY:R.bs.length=i:=hR.bl.trans gZ;refine cf ?_;refine af.aj rfl (fun h2=>?_) (fun h2=>?_)
 ·refine J4 ?_;refine af.keep (uH b s 0#64 R::xp b1 s:: []) (fun _=>True) (.one 0 0 (.one 1 0 (.one 2 0 (.one 3 0 (.one 4 1 (.one 5 0 (.one 6 1 (.one 7 0 (.one 8 0 (.one 9 1 (.one 10 0 (.one 11 1 (.one 12 2 (.one 13 2 (.one 14 2 (.one 15 0 (.one 16 0 (.last 17)))))))))))))))))) kr kr aX (fun _ _=>trivial) ?_;refine J9 ?_;refine KD.eT rfl rfl (dX aA ir Tryz.isAgg83 Tryz.sizeOf83 rfl cR id) ?_;refine J3 ?_;refine LM.iO (oC Tryz.func24) AI.mono (fun w hm hc hg=>DZ ⟨(s.ls.getD i default).sh,(s.ls.getD i default).sl,(s.ls.getD i default).cr,(s.ls.getD i default).rd,(s.ls.getD i default).wr⟩ w Mz (hI.hg.ext hc)) ?_;rintro u50 m50 ⟨bq,rfl,Tp⟩ afZ;refine J3 ?_;refine LM.single Tryz.underlying43 Tryz.sizeOf54 Tryz.zeroValue54 rfl rfl rfl rfl rfl (fun b51 aiL=>?_);refine J3 ?_;refine LM.app (a:=bq) Tryz.underlying43 Tryz.typeInfo54 rfl rfl rfl rfl rfl rfl rfl aA (by rfl) ir (by intro _ u hu;simp [fP] at hu;(repeat (first|(rcases hu with rfl|hu)|subst hu|rfl))) (by first|exact Nat.le_refl _|omega) jh (by first|omega|(unfold maxLen;omega)) (by simp only [Tryz.t54];omega) (fun qM Ew j1 CL Ln DP EC=>?_);refine J4 ?_;refine KD.last rfl ?_;refine LM.st Tryz.sizeOf43 rfl rfl rfl eA rfl cn ?_;refine LM.mem (aT.mem (M':=az b s 0#64 {R with bs:=R.bs++ [bq],al:=qM,nl:=Ew,cl:=j1,ml:=CL,mq:=R.mq++m50} ++(xp b1 s:: [])) aX) ?_;refine J1 ?_;refine QM.qn ?_;refine J7 ?_;refine aK (i+1,{R with bs:=R.bs++ [bq],al:=qM,nl:=Ew,cl:=j1,ml:=CL,mq:=R.mq++m50}) ?_ ?_
  · have hiS:i<s.C.ls.length:=(by show i<s.ls.length;omega);exact⟨by omega,{hR with nl:=(by show Ew=_;rw [Ln,vV aA,List.length_append,gZ];simp [sY]),bl:=(by show (R.bs++ [bq]).length=_;rw [vV aA,List.length_append,List.length_append,gZ,sY];rfl),sl:=DP,sq:=(by show jT MC _ (R.bs++ [bq]) (Pt s.C (i+1)) _;rw [vV aA];exact hR.sq.snoc Tp)}⟩
  · (dsimp only;omega)
 refine gw ?_;refine QM.leave (.inl rfl) [.tmp 2,.tmp 3] Tryz.results7 rfl ?_;intro w' aq ab aI;have fp:i=s.ls.length:=om;have hR2:fN w.heap.size b s (fj s.C) R:=(by have e:Pt s.C i=(fj s.C).lk:=(by unfold Pt;rw [List.take_of_length_le (show s.C.ls.length≤i by show s.ls.length≤i;omega)];rfl);rw [e] at hR;exact hR);exact⟨ab,az b s 0#64 R,.inr ⟨CW,b,rfl,hR2.m⟩,aq.pick (az b s 0#64 R),hR2.ge⟩
theorem BS (k:Int) (w:World):aJ Tryz.prog 87 #[.int .i64 k] w (fun v w'=>v=vS (GA k)∧Ext w w'):=by
 refine aJ.au Tryz.func87 rfl Tryz.ntmps87 rfl ([]) (no) (Mem.nil w) ?_;refine J7 ?_;refine LM.row (vs:=[_,_,_,_,_,_,_,_,_]) Tryz.underlying198 Tryz.sizeOf9 Tryz.zeroValue9 rfl rfl rfl rfl rfl rfl (fun b4 CO=>?_);refine J9 ?_;refine LM.ar (t:=7) rfl (fun h1=>?_) (fun h1=>?_)
 ·refine gw ?_;refine qL Tryz.results87 rfl fun w' aq ab aI=>?_;refine ⟨?_,ab⟩;show vS _=_;congr 1;first|(rw [GA,if_neg om];done)|(rw [GA,if_pos om];rfl)
 refine J5 ?_;refine af.aj rfl (fun h2=>?_) (fun h2=>?_)
 ·refine J7 ?_;refine qL Tryz.results87 rfl fun w' aq ab aI=>?_;refine ⟨?_,ab⟩;show vS _=_;congr 1;first|(rw [GA,if_neg om];done)|(rw [GA,if_pos om];rfl)
 refine J6 ?_;change LM _ _ _ _ _ _ _ _ ((b4,Obj.cells (arr fB FI []) 9 (0,0))::_) _ _ _;have Kl:Sl fB 9 1 w.heap.size FI (.slice (some ⟨b4,0,none⟩) 9 9) [(b4,.cells (arr fB FI []) 9 (0,0))] := .inr ⟨b4,9,[],CO,rfl,rfl,by decide,by unfold maxLen;decide,rfl⟩;have Zi:FI.length=9:=rfl;refine LM.val (cP o5 Tryz.underlying198 Tryz.sizeOf9 rfl rfl om) ?_;refine LM.rd (bw aA ir Tryz.isAgg9 rfl rfl cR (by rfl)) ?_;refine J4 ?_;refine qL Tryz.results87 rfl fun w' aq ab aI=>?_;refine ⟨?_,ab⟩;show vS _=_;congr 1;first|(rw [GA,if_neg om];done)|(rw [GA,if_pos om];rfl)
theorem Er (k:Int) (w:World) (hk:0≤k∧k<9):aJ Tryz.prog 88 #[.int .i64 k] w (fun v w'=>v= .int .i64 (kB k:Nat)∧Ext w w'):=by
 refine aJ.au Tryz.func88 rfl Tryz.ntmps88 rfl ([]) (no) (Mem.nil w) ?_;refine J7 ?_;refine LM.row (vs:=[_,_,_,_,_,_,_,_,_]) Tryz.underlying26 Tryz.sizeOf3 Tryz.zeroValue3 rfl rfl rfl rfl rfl rfl (fun b4 CO=>?_);refine J7 ?_;change LM _ _ _ _ _ _ _ _ ((b4,Obj.cells (arr fI xY []) 3 (0,0))::_) _ _ _;have Kl:Sl fI 3 1 w.heap.size xY (.slice (some ⟨b4,0,none⟩) 9 9) [(b4,.cells (arr fI xY []) 3 (0,0))] := .inr ⟨b4,9,[],CO,rfl,rfl,by decide,by unfold maxLen;decide,rfl⟩;have Zi:xY.length=9:=rfl;refine LM.val (cP o5 Tryz.underlying26 Tryz.sizeOf3 rfl rfl om) ?_;refine LM.rd (bw aA ir Tryz.isAgg3 rfl rfl (by exact aQ 0 cL) (by rfl)) ?_;refine J4 ?_;refine qL Tryz.results88 rfl fun w' aq ab aI=>?_;refine ⟨?_,ab⟩;show Value.int .i64 (xY.getD k.toNat 0)=_;rw [Gn hk]
theorem Iy {k:Int} {xs:List Int} (i:Nat) (n:Int) (w:World) (hi:i<4) (hx:xs.length=4):aJ Tryz.prog 89 #[.agg (fA (HS k xs)).toArray,.int .i64 (i:Nat),.int .i64 n] w (fun v w'=>v= .agg (fA (HS k (xs.set i n))).toArray∧Ext w w'):=by
 refine aJ.au Tryz.func89 rfl Tryz.ntmps89 rfl ([]) (no) (Mem.nil w) ?_;refine J2 ?_;refine LM.box rfl rfl (fun b3 Mm=>?_);refine LM.alloc Tryz.zeroValue37 rfl (fun b6 QI=>?_);refine J9 ?_;refine af.aj rfl (fun h1=>?_) (fun h1=>?_)
 ·refine J3 ?_;refine LM.st Tryz.sizeOf3 rfl rfl rfl eA rfl cn ?_;refine J4 ?_;refine LM.rd (bo Tryz.isAgg37 Tryz.sizeOf37 rfl rfl) ?_;refine LM.dC Tryz.sizeOf37 rfl rfl rfl rfl dF cn ?_;refine J3 ?_;refine QM.aV (ds:=([])) (.inl rfl) [.cell 6 37] Tryz.results89 bj (cM rfl Tryz.isAgg37 Tryz.sizeOf37 rfl bn) ?_;intro w' aq ab;refine ⟨?_,ab⟩;have PR:i=0∨i=1∨i=2∨i=3:=om;match xs,hx with| [a0,a1,a2,a3],_=>(rcases PR with rfl|rfl|rfl|rfl<;>first|rfl|(exfalso;omega))
 refine J6 ?_;refine af.aj rfl (fun h2=>?_) (fun h2=>?_)
 ·refine J3 ?_;refine LM.st Tryz.sizeOf3 rfl rfl rfl eA rfl cn ?_;refine J4 ?_;refine LM.rd (bo Tryz.isAgg37 Tryz.sizeOf37 rfl rfl) ?_;refine LM.dC Tryz.sizeOf37 rfl rfl rfl rfl dF cn ?_;refine J3 ?_;refine QM.aV (ds:=([])) (.inl rfl) [.cell 6 37] Tryz.results89 bj (cM rfl Tryz.isAgg37 Tryz.sizeOf37 rfl bn) ?_;intro w' aq ab;refine ⟨?_,ab⟩;have PR:i=0∨i=1∨i=2∨i=3:=om;match xs,hx with| [a0,a1,a2,a3],_=>(rcases PR with rfl|rfl|rfl|rfl<;>first|rfl|(exfalso;omega))
 refine J6 ?_;refine af.aj rfl (fun h3=>?_) (fun h3=>?_)
 ·refine J3 ?_;refine LM.st Tryz.sizeOf3 rfl rfl rfl eA rfl cn ?_;refine J4 ?_;refine LM.rd (bo Tryz.isAgg37 Tryz.sizeOf37 rfl rfl) ?_;refine LM.dC Tryz.sizeOf37 rfl rfl rfl rfl dF cn ?_;refine J3 ?_;refine QM.aV (ds:=([])) (.inl rfl) [.cell 6 37] Tryz.results89 bj (cM rfl Tryz.isAgg37 Tryz.sizeOf37 rfl bn) ?_;intro w' aq ab;refine ⟨?_,ab⟩;have PR:i=0∨i=1∨i=2∨i=3:=om;match xs,hx with| [a0,a1,a2,a3],_=>(rcases PR with rfl|rfl|rfl|rfl<;>first|rfl|(exfalso;omega))
 refine J3 ?_;refine LM.st Tryz.sizeOf3 rfl rfl rfl eA rfl cn ?_;refine J4 ?_;refine LM.rd (bo Tryz.isAgg37 Tryz.sizeOf37 rfl rfl) ?_;refine LM.dC Tryz.sizeOf37 rfl rfl rfl rfl dF cn ?_;refine J3 ?_;refine QM.aV (ds:=([])) (.inl rfl) [.cell 6 37] Tryz.results89 bj (cM rfl Tryz.isAgg37 Tryz.sizeOf37 rfl bn) ?_;intro w' aq ab;refine ⟨?_,ab⟩;have PR:i=0∨i=1∨i=2∨i=3:=om;match xs,hx with| [a0,a1,a2,a3],_=>(rcases PR with rfl|rfl|rfl|rfl<;>first|rfl|(exfalso;omega))
theorem Uc {ws:List bC} {i j:Nat} {xs:List Int} (h:cH ws i≠0) (h2:pM ws i=(j,5,xs)):jl ws i=(default,j,5):=by unfold jl;rw [if_neg h,h2,if_pos (show (5:Int)≠0 by decide)]
theorem Sp {ws:List bC} {i j:Nat} {xs:List Int} (h:cH ws i≠0) (h2:pM ws i=(j,0,xs)) (h3:gX ws j 3 [59] =false):jl ws i=(default,j,5):=by unfold jl;rw [if_neg h,h2,if_neg (fun q=>q rfl),if_neg (by rw [h3];simp)]
theorem Pl {ws:List bC} {i j:Nat} {xs:List Int} (h:cH ws i≠0) (h2:pM ws i=(j,0,xs)) (h3:gX ws j 3 [59] =true):jl ws i=(HS (cH ws i) xs,j+1,0):=by unfold jl;rw [if_neg h,h2,if_neg (fun q=>q rfl),if_pos h3]
theorem HH {ws:List bC} {f j i:Nat} {xs:List Int} (hf:0<f) (h:(decide (ws.length≤j)||decide ((ws.getD j default).k≠2))=true):uq ws f j i xs=(j,5,xs):=by
  obtain ⟨g,rfl⟩:∃g,f=g+1:=⟨f-1,by omega⟩
  unfold uq;rw [if_pos h]
theorem GL {ws:List bC} {f j i:Nat} {xs:List Int} (hf:0<f) (h:(decide (ws.length≤j)||decide ((ws.getD j default).k≠2))=false):uq ws f j i xs=uq ws (f-1) (j+1) (i+1) (xs.set i (ws.getD j default).n):=by
  obtain ⟨g,rfl⟩:∃g,f=g+1:=⟨f-1,by omega⟩
  conv=>lhs;unfold uq
  rw [if_neg (by rw [h];simp),Nat.add_sub_cancel]
def XW (r:List Act×Int×Int) (n0:Nat) (v:Value) (m:aa):Prop:=∃ad n cap,v= .tuple #[.slice ad n cap,.int .i64 r.2.1,.int .i64 r.2.2]∧n=r.1.length∧Sl fA 37 5 n0 r.1 (.slice ad n cap) m
theorem XW.mono {r:List Act×Int×Int} :∀(k k':Nat) u m,k'≤k→XW r k u m→XW r k' u m:=fun k k' u m h ⟨ad,n,cap,h1,h2,h3⟩=>⟨ad,n,cap,h1,h2,h3.mono h⟩
def mF (ws:List bC) (i:Nat):Nat→Int
  |0=>0
  |m+1=>if gX ws i 1 (GA ((m+1:Nat):Int)) then ((m+1:Nat):Int) else mF ws i m
theorem OJ {k:Nat} (h:k<9):GA (k:Int)=FI.getD k [] :=by unfold GA;rw [if_pos om,Int.toNat_natCast]
theorem IH (ws:List bC) (i:Nat):mF ws i 8=cH ws i:=by
  unfold cH
  cases hc:(decide (i<ws.length)&&decide ((ws.getD i default).k=1)) with
  |false=>
    rw [if_neg (by simp)]
    have:∀m,mF ws i m=0:=by
      intro m
      induction m with
      |zero=>rfl
      |succ m ih=>unfold mF gX;rw [hc,Bool.false_and,if_neg (by simp),ih]
    exact this 8
  |true=>
    rw [if_pos rfl,←FX]
    have:∀m,m≤8→mF ws i m=BW (ws.getD i default).t m:=by
      intro m
      induction m with
      |zero=>intro _;rfl
      |succ m ih=>
        intro hm
        unfold mF BW gX;rw [hc,Bool.true_and,ih om,OJ om]
        by_cases q:(ws.getD i default).t=FI.getD (m+1) []
        · rw [if_pos q,if_pos (decide_eq_true q)]
        · rw [if_neg q,if_neg (by rw [decide_eq_false q];simp)]
    exact this 8 (Nat.le_refl _)
theorem Nk {ws:List bC} {i k:Nat} (h1:1≤k) (h:gX ws i 1 (GA (k:Int))=true):mF ws i k=(k:Int):=by
  obtain ⟨m,rfl⟩:∃m,k=m+1:=⟨k-1,by omega⟩
  unfold mF;rw [if_pos h]
theorem M4 {ws:List bC} {i k:Nat} (h1:1≤k) (h:gX ws i 1 (GA (k:Int))=false):mF ws i k=mF ws i (k-1):=by
  obtain ⟨m,rfl⟩:∃m,k=m+1:=⟨k-1,by omega⟩
  rw [show m+1-1=m by omega]
  conv=>lhs;unfold mF
  rw [if_neg (by rw [h];simp)]
theorem OB {ws:List bC} {i:Nat} {out:List Act} (h:i<ws.length) (h0:cH ws i=0):jU ws i out=([],(i:Int),5):=by rw [lH h,if_pos h0]
theorem M8 {ws:List bC} {i:Nat} {out:List Act} (h:i<ws.length) (h0:cH ws i≠0) (h1:out.length=4000):jU ws i out=([],(i:Int),6):=by rw [lH h,if_neg h0,if_pos h1]
theorem F3 {ws:List bC} {i j:Nat} {out:List Act} (h:i<ws.length) (h0:cH ws i≠0) (h1:out.length≠4000) (he:jl ws i=(default,j,5)):jU ws i out=([],(j:Int),5):=by rw [lH h,if_neg h0,if_neg h1,if_pos (by rw [he];exact(show (5:Int)≠0 by decide)),he]
theorem OS {ws:List bC} {i j:Nat} {a:Act} {out:List Act} (h:i<ws.length) (h0:cH ws i≠0) (h1:out.length≠4000) (he:jl ws i=(a,j,0)):jU ws i out=jU ws j (out++ [a]):=by rw [lH h,if_neg h0,if_neg h1,if_neg (by rw [he];exact fun q=>q rfl),he]
set_option maxHeartbeats 1000000 in
theorem zi {ws:List bC} {ad:Option Addr} {n cap:Nat} (p:Int) (w:World) (hn:n=ws.length) (hx:ws.length≤1000000000) (hl:Sr fW 4 ws (.slice ad n cap) w):aJ Tryz.prog 47 #[.slice ad n cap,.int .i64 p] w (fun v w'=>Ext w w'∧∃m,XW (k5 ws p) w.heap.size v m∧Mem w' m∧∀p∈m,w.heap.size≤p.1):=by
 refine aJ.au Tryz.func47 rfl Tryz.ntmps47 rfl ([]) (no) (Mem.nil w) ?_;refine gw ?_;refine LM.ar (t:=14) rfl (fun h1=>?_) (fun h1=>?_)
 ·refine xW ?_;refine QM.leave (.inl rfl) [.tmp 4,.tmp 5,.tmp 6] Tryz.results47 rfl ?_;intro w' aq ab aI;have vL:k5 ws p=([],0,5):=(by unfold k5;rw [if_pos om]);rw [vL];exact⟨ab,[],⟨none,0,0,rfl,rfl,.nil _ _ _ _⟩,Mem.nil _,fun p hp=>by cases hp⟩
 refine J7 ?_;refine af.aj rfl (fun h2=>?_) (fun h2=>?_)
 ·refine J9 ?_;refine QM.leave (.inl rfl) [.tmp 4,.tmp 5,.tmp 6] Tryz.results47 rfl ?_;intro w' aq ab aI;have vL:k5 ws p=([],0,5):=(by unfold k5;rw [if_pos om]);rw [vL];exact⟨ab,[],⟨none,0,0,rfl,rfl,.nil _ _ _ _⟩,Mem.nil _,fun p hp=>by cases hp⟩
 obtain ⟨i0,rfl⟩:∃i0:Nat,p=(i0:Nat):=⟨p.toNat,by omega⟩;have rN:i0≤ws.length:=om;refine J9 ?_;refine af.aS (α:=Nat×List Act×Option Addr×Nat×Nat×aa) (fun ⟨i,out,dH,no,bL,mo⟩=>[(1,.int .i64 (i:Nat)),(7,.slice dH no bL)]) [(0,_)] (fun ⟨i,out,dH,no,bL,mo⟩=>mo++ []) (fun ⟨i,out,dH,no,bL,mo⟩=>i≤ws.length∧jU ws i out=jU ws i0 []∧no=out.length∧Sl fA 37 5 w.heap.size out (.slice dH no bL) mo∧out.length≤4000) (fun ⟨i,out,dH,no,bL,mo⟩=>ws.length-i) ((i0,[],none,0,0,[])) cm aX ⟨by omega,rfl,rfl,.nil _ _ _ _,by decide⟩ ?_;rintro ⟨i,out,dH,no,bL,mo⟩ ⟨hi,hL,fH,jS,Ou⟩;change af _ _ _ _ _ _ _ (mo++ []) _ _ _;refine J9 ?_;refine af.aj rfl (fun h3=>?_) (fun h3=>?_)
 ·have Ht:i<ws.length:=om;refine ud ?_;refine af.aS (α:=Nat×Int) (fun ⟨k,kd⟩=>[(8,.int .i64 kd),(9,.int .i64 (k:Nat))]) [(0,_),(1,_),(7,_)] (fun ⟨k,kd⟩=>mo++ []) (fun ⟨k,kd⟩=>1≤k∧k≤9∧kd=mF ws i (k-1)) (fun ⟨k,kd⟩=>9-k) ((1,0)) cm aX ⟨by omega,by omega,rfl⟩ ?_;rintro ⟨k,kd⟩ ⟨xb,RU,Sd⟩;change af _ _ _ _ _ _ _ (mo++ []) _ _ _;refine J7 ?_;refine af.aj rfl (fun h4=>?_) (fun h4=>?_)
  ·refine J5 ?_;refine af.bH (α:=Bool) (fun q=>[(43,.bool q)]) [(0,_),(1,_),(7,_),(8,_),(9,_)] (fun q=>mo++ []) (fun q=>q=gX ws i 1 (GA (k:Int))) cm ?_ ?_
   ·refine af.draw [(0,0),(1,0),(2,0),(3,0),(4,1),(5,0),(6,0),(7,0),(8,0),(9,0),(10,0),(11,1),(12,0),(13,2),(14,0),(15,0)] kr kr ?_;refine J4 ?_;refine LD.eT rfl rfl (dy (j:=0) aA Tryz.isAgg3 rfl rfl cR (by rfl) (by rfl) id) ?_;refine J2 ?_;refine LD.ar (t:=34) rfl (fun h5=>?_) (fun h5=>?_)
    ·refine J4 ?_;refine LD.eT rfl ⟨34,_,rfl,rfl,rfl⟩ (dy (j:=1) aA Tryz.isAgg9 rfl rfl cR (by rfl) (by rfl) id) ?_;refine J1 ?_;refine dE rfl ⟨34,_,rfl,rfl,rfl⟩ Tryz.func87 rfl (fun w hm hc hg=>BS _ w) ?_;refine LD.val rfl ⟨34,_,rfl,rfl,rfl⟩ (qe rfl rfl) ?_;refine J2 ?_;refine mK (_) ?_
     · unfold gX;rw [decide_eq_true Ht,decide_eq_true (show (ws.getD i default).k=1 by omega)];rfl
    refine cf ?_;refine mK (_) ?_
    · unfold gX;rw [decide_eq_false (show¬(ws.getD i default).k=1 by omega)];simp
   rintro q hq;change QM _ _ _ _ _ (mo++ []) _ _ _;refine J1 ?_;refine af.aW rfl (fun h6=>?_) (fun h6=>?_)
   ·refine dB ?_;refine aK ((k+1,(k:Int))) ?_ ?_
    · exact⟨by omega,by omega,(Nk xb (hq.symm.trans h6)).symm⟩
    · (dsimp only;omega)
   refine J8 ?_;refine aK ((k+1,kd)) ?_ ?_
   · exact⟨by omega,by omega,by rw [Sd];exact(M4 xb (hq.symm.trans h6)).symm⟩
   · (dsimp only;omega)
  obtain rfl:k=9:=om;obtain rfl:kd=cH ws i:=Sd.trans (IH ws i);have hkr:=GB ws i;refine cK ?_;refine af.aj rfl (fun h7=>?_) (fun h7=>?_)
  ·refine lg ?_;refine QM.leave (.inl rfl) [.tmp 4,.tmp 5,.tmp 6] Tryz.results47 rfl ?_;intro w' aq ab aI;rw [nQ rN,←hL,OB Ht om];exact⟨ab,[],⟨none,0,0,rfl,rfl,.nil _ _ _ _⟩,Mem.nil _,fun p hp=>by cases hp⟩
  refine cf ?_;refine af.aj rfl (fun h8=>?_) (fun h8=>?_)
  ·refine lg ?_;refine QM.leave (.inl rfl) [.tmp 4,.tmp 5,.tmp 6] Tryz.results47 rfl ?_;intro w' aq ab aI;rw [nQ rN,←hL,M8 Ht h7 om];exact⟨ab,[],⟨none,0,0,rfl,rfl,.nil _ _ _ _⟩,Mem.nil _,fun p hp=>by cases hp⟩
  refine cK ?_;refine LM.val (aD (cs:=#[_,_,_,_,_]) rfl (by first|rfl|kernel_rfl)) ?_;refine LM.alloc Tryz.zeroValue37 rfl (fun sN Lb=>?_);refine LM.dC Tryz.sizeOf37 rfl rfl rfl rfl dF cn ?_;refine J9 ?_;refine af.aS (α:=Nat×Nat×List Int) (fun ⟨k,j,xs⟩=>[(1,.int .i64 (j:Nat)),(11,.int .i64 (k:Nat))]) [(0,_),(7,_),(8,_),(10,_)] (fun ⟨k,j,xs⟩=>(sN,.cells (fA (HS (cH ws i) xs)).toArray 37 (0,0))::(mo++ [])) (fun ⟨k,j,xs⟩=>k≤kB (cH ws i)∧j≤ws.length∧xs.length=4∧uq ws (kB (cH ws i)-k) j k xs=pM ws i) (fun ⟨k,j,xs⟩=>kB (cH ws i)-k) ((0,i+1,T0)) cm aX ⟨Nat.zero_le _,by omega,rfl,rfl⟩ ?_;rintro ⟨k,j,xs⟩ ⟨Z6,hj,hx4,hN⟩;change af _ _ _ _ _ _ _ ((sN,.cells (fA (HS (cH ws i) xs)).toArray 37 (0,0))::(mo++ [])) _ _ _;have hm4:=JV (cH ws i);refine J5 ?_;refine cE Tryz.func88 rfl (fun w hm hc hg=>Er _ w om) ?_;refine J3 ?_;refine af.aj rfl (fun h9=>?_) (fun h9=>?_)
  ·refine J6 ?_;refine af.bH (α:=Bool) (fun q=>[(73,.bool q)]) [(0,_),(1,_),(7,_),(8,_),(10,_),(11,_)] (fun q=>(sN,.cells (fA (HS (cH ws i) xs)).toArray 37 (0,0))::(mo++ [])) (fun q=>q=(decide (ws.length≤j)||decide ((ws.getD j default).k≠2))) cm ?_ ?_
   ·refine J6 ?_;refine LM.ar (t:=66) rfl (fun iV=>?_) (fun iV=>?_)
    ·refine J8 ?_;refine mK (_) ?_
     · rw [decide_eq_true (show ws.length≤j by omega),Bool.true_or]
    refine J2 ?_;refine LM.sp 66 rfl rfl rfl ?_;refine J3 ?_;refine LM.eT (dy (j:=0) aA Tryz.isAgg3 rfl rfl cR (by rfl) (by rfl) id) ?_;refine J3 ?_;refine mK (_) ?_
    · rw [decide_eq_false (show¬ws.length≤j by omega),Bool.false_or]
   rintro q hq;change QM _ _ _ _ _ ((sN,.cells (fA (HS (cH ws i) xs)).toArray 37 (0,0))::(mo++ [])) _ _ _;refine J1 ?_;refine af.aW rfl (fun kg=>?_) (fun kg=>?_)
   ·refine TS ?_;refine QM.leave (.inl rfl) [.tmp 4,.tmp 5,.tmp 6] Tryz.results47 rfl ?_;intro w' aq ab aI;have Wi:pM ws i=(j,5,xs):=(by rw [←hN,HH om (hq.symm.trans kg)]);rw [nQ rN,←hL,F3 Ht h7 om (Uc h7 Wi)];exact⟨ab,[],⟨none,0,0,rfl,rfl,.nil _ _ _ _⟩,Mem.nil _,fun p hp=>by cases hp⟩
   have hjn:j<ws.length:=(by have h:=hq.symm.trans kg;simp only [Bool.or_eq_false_iff,decide_eq_false_iff_not] at h;omega)
   refine J3 ?_;refine af.draw [(0,1),(1,0),(2,0),(3,0),(4,0),(5,0),(6,1),(7,2),(8,3)] kr kr ?_;refine LD.rd rfl rfl (bo Tryz.isAgg37 Tryz.sizeOf37 rfl rfl) ?_;refine J5 ?_;refine LD.eT rfl rfl (dy (j:=2) aA Tryz.isAgg3 rfl rfl cR (by rfl) (by rfl) id) ?_;refine dE rfl rfl Tryz.func89 rfl (fun w hm hc hg=>Iy k _ w om hx4) ?_;refine LD.tail rfl rfl ?_;refine LM.dC Tryz.sizeOf37 rfl rfl rfl rfl dF cn ?_;refine J1 ?_;refine QM.qn ?_;refine gw ?_;refine aK ((k+1,j+1,xs.set k (ws.getD j default).n)) ?_ ?_
   · exact⟨by omega,by omega,by simpa using hx4,by rw [show kB (cH ws i)-(k+1)=kB (cH ws i)-k-1 by omega,←GL om (hq.symm.trans kg)];exact hN⟩
   · (dsimp only;omega)
  refine J7 ?_;refine af.bH (α:=Bool) (fun q=>[(104,.bool q)]) [(0,_),(1,_),(7,_),(10,_)] (fun q=>(sN,.cells (fA (HS (cH ws i) xs)).toArray 37 (0,0))::(mo++ [])) (fun q=>q= !gX ws j 3 [59]) cm ?_ ?_
  ·refine J6 ?_;refine LM.ar (t:=89) rfl (fun gH=>?_) (fun gH=>?_)
   ·refine Fw ?_;refine mK (_) ?_
    · unfold gX;rw [decide_eq_false (show¬j<ws.length by omega)];rfl
   refine J2 ?_;refine LM.sp 89 rfl rfl rfl ?_;refine J3 ?_;refine LM.eT (dy (j:=0) aA Tryz.isAgg3 rfl rfl cR (by rfl) (by rfl) id) ?_;refine J3 ?_;refine LM.ar (t:=97) rfl (fun oq=>?_) (fun oq=>?_)
   ·refine J8 ?_;refine mK (_) ?_
    · unfold gX;rw [decide_eq_true (show j<ws.length by omega),decide_eq_false (show¬(ws.getD j default).k=3 by omega)];rfl
   refine J2 ?_;refine LM.sp 97 rfl rfl rfl ?_;refine J3 ?_;refine LM.eT (dy (j:=1) aA Tryz.isAgg9 rfl rfl cR (by rfl) (by rfl) id) ?_;refine LM.sp 97 rfl rfl rfl ?_;refine LM.val (JC rfl rfl) ?_;refine J2 ?_;refine mK (_) ?_
   · unfold gX;rw [decide_eq_true (show j<ws.length by omega),decide_eq_true (show (ws.getD j default).k=3 by omega)];simp only [Bool.true_and,decide_not]
  rintro q hq;change QM _ _ _ _ _ ((sN,.cells (fA (HS (cH ws i) xs)).toArray 37 (0,0))::(mo++ [])) _ _ _;refine J1 ?_;refine af.aW rfl (fun jw=>?_) (fun jw=>?_)
  ·refine lg ?_;refine QM.leave (.inl rfl) [.tmp 4,.tmp 5,.tmp 6] Tryz.results47 rfl ?_;intro w' aq ab aI;have Wi:pM ws i=(j,0,xs):=(by rw [←hN,show kB (cH ws i)-k=0 by omega];rfl);rw [nQ rN,←hL,F3 Ht h7 om (Sp h7 Wi (by simpa using hq.symm.trans jw))];exact⟨ab,[],⟨none,0,0,rfl,rfl,.nil _ _ _ _⟩,Mem.nil _,fun p hp=>by cases hp⟩
  refine dB ?_;refine LM.rd (bo Tryz.isAgg37 Tryz.sizeOf37 rfl rfl) ?_;refine LM.single Tryz.underlying22 Tryz.sizeOf37 Tryz.zeroValue37 rfl rfl rfl rfl rfl (fun aif agz=>?_);refine LM.app (a:=HS (cH ws i) xs) Tryz.underlying22 Tryz.typeInfo37 rfl rfl rfl rfl rfl rfl rfl aA (by rfl) ir (by intro _ u hu;simp [fA] at hu;(repeat (first|(rcases hu with rfl|hu)|subst hu|rfl))) (by first|exact Nat.le_refl _|omega) jh (by first|omega|(unfold maxLen;omega)) (by simp only [Tryz.t37];omega) (fun Wg aeN S1 aeE XF W4 acA=>?_);refine J3 ?_;have Wi:pM ws i=(j,0,xs):=(by rw [←hN,show kB (cH ws i)-k=0 by omega];rfl);have hjs:gX ws j 3 [59] =true:=(by simpa using hq.symm.trans jw);have yk:=Pl h7 Wi hjs;have bB:=yi (ws:=ws) (i:=i) (by rw [yk]);rw [yk] at bB;have bB:i<j+1∧j+1≤ws.length:=bB;refine aK ((j+1,out++ [HS (cH ws i) xs],Wg,aeN,S1,aeE)) ?_ ?_
  · exact⟨bB.2,(OS Ht h7 om yk).symm.trans hL,by rw [XF];simp,W4,by simp;omega⟩
  · (dsimp only;omega)
 refine ud ?_;refine QM.leave (.inl rfl) [.tmp 4,.tmp 5,.tmp 6] Tryz.results47 rfl ?_;intro w' aq ab aI;rw [nQ rN,←hL,Hi om];exact⟨ab,mo,⟨dH,no,bL,rfl,fH,jS⟩,aq.pick _,fun p hp=>Sl.ge jS p hp⟩
end Go.Eng
namespace Go.Eng
open Go Go.RowKit
theorem oo (s:List UInt8):∀(f i:Nat) (last:Int) (out:List bC),(j7 f s i last out).1.length≤out.length+f
  |0,i,last,out=>Nat.le_refl _
  |f+1,i,last,out=>by
    rw [j7]
    split
    · show out.length≤_;omega
    split
    · have:=oo s f (i+1) last out;omega
    split
    · have:=oo s f (i+fR kP s i) last out;omega
    split
    · exact Nat.zero_le _
    · have:=oo s f (fc s i).2.1 ((fc s i).2.1:Nat) (out++ [(fc s i).1]);rw [List.length_append,List.length_singleton] at this;omega
theorem L7 (s:List UInt8):(dT s).1.length≤s.length:=by
  unfold dT;split
  · exact Nat.zero_le _
  · have:=oo s (s.length-0) 0 (-1) [];unfold gF;simp only [List.length_nil] at this;omega
end Go.Eng
namespace Go.Eng
open Go Go.Proofs Go.RowKit
def r7 (s:List UInt8) (ws:List bC) (p:Int):Int:=if p<ws.length then (ws.getD p.toNat default).p else s.length
def j2 (s:List UInt8):kh×List Act×Int×Int:=
  if (dT s).2.2≠0 then (default,[],(dT s).2.1,(dT s).2.2)
  else if (kz (dT s).1 0).2.2≠0 then (default,[],r7 s (dT s).1 (kz (dT s).1 0).2.1,(kz (dT s).1 0).2.2)
  else if (k5 (dT s).1 (kz (dT s).1 0).2.1).2.2≠0 then (default,[],r7 s (dT s).1 (k5 (dT s).1 (kz (dT s).1 0).2.1).2.1,(k5 (dT s).1 (kz (dT s).1 0).2.1).2.2)
  else ((kz (dT s).1 0).1,(k5 (dT s).1 (kz (dT s).1 0).2.1).1,0,0)
theorem Mb {ws:List bC} :∀(f i:Nat) (e:Int) (ps:List pS) (pl:List Int),(∀x∈pl,0≤x)→∀x∈(CA ws f i e ps pl).2.1,0≤x
  |0,i,e,ps,pl,h=>by unfold CA;split<;>exact h
  |f+1,i,e,ps,pl,h=>by
    unfold CA;split
    · refine Mb f _ _ _ _ (fun x hx=>?_)
      rcases List.mem_append.1 hx with hx|hx
      · exact h x hx
      · rw [List.mem_singleton] at hx;omega
    · exact h
theorem NA (ws:List bC) (p:Int):0≤(kz ws p).2.1:=by
  unfold kz tg
  split
  · exact Int.le_refl _
  split
  · show (0:Int)≤((sP ws p.toNat).2.2.1:Int);omega
  split
  · show (0:Int)≤(sP ws p.toNat).2.1.getD _ 0
    rw [List.getD_eq_getElem?_getD];cases h:(sP ws p.toNat).2.1[(zE (sL ws p.toNat).1 (sP ws p.toNat).1).toNat]? with
    |none=>exact Int.le_refl _
    |some x=>exact Mb _ _ _ _ _ (fun x hx=>by cases hx) x (List.mem_of_getElem? h)
  · show (0:Int)≤((sP ws p.toNat).2.2.1:Int);omega
theorem Lj (ws:List bC) (p:Int):0≤(k5 ws p).2.1:=by
  have key:∀(f i:Nat) (out:List Act),0≤(iE f ws i out).2.1:=by
    intro f
    induction f with
    |zero=>intro i out;show (0:Int)≤(i:Int);omega
    |succ f ih=>
      intro i out
      unfold iE
      split
      · show (0:Int)≤(i:Int);omega
      split
      · show (0:Int)≤(i:Int);omega
      split
      · show (0:Int)≤(i:Int);omega
      split
      · show (0:Int)≤((jl ws i).2.1:Int);omega
      · exact ih _ _
  unfold k5;split
  · exact Int.le_refl _
  · exact key _ _ _
structure Uv where
  sv:eL
  xs:List Act
  ad:Option Addr
  n:Nat
  cap:Nat
abbrev Uv.val (x:Uv):Value:= .agg #[.int .i64 x.sv.cr,.int .i64 x.sv.gr,.slice x.sv.ga x.sv.gn x.sv.gc,.slice x.sv.la x.sv.ln x.sv.lc,.slice x.sv.pa x.sv.pn x.sv.pc,.slice x.ad x.n x.cap]
structure Uv.In (x:Uv) (w:World):Prop where
  st:x.sv.In w
  hn:x.n=x.xs.length
  hx:Sr fA 5 x.xs (.slice x.ad x.n x.cap) w
def MK (r:kh×List Act×Int×Int) (n0:Nat) (v:Value) (m:aa):Prop:=∃x:Uv,v= .tuple #[x.val,.int .i64 r.2.2.1,.int .i64 r.2.2.2]∧x.sv.C=r.1∧x.xs=r.2.1∧∀w,Mem w m→x.In w
theorem MK.mono {r:kh×List Act×Int×Int} :∀(k k':Nat) u m,k'≤k→MK r k u m→MK r k' u m:=fun k k' u m h q=>q
theorem MK.Sm {p e:Int} {n0:Nat} :MK (default,[],p,e) n0 (.tuple #[.agg #[.int .i64 0,.int .i64 0,.slice none 0 0,.slice none 0 0,.slice none 0 0,.slice none 0 0],.int .i64 p,.int .i64 e]) [] :=
  ⟨⟨default,[],Option.none,0,0⟩,rfl,rfl,rfl,fun w _=>⟨⟨rfl,.nil _ _ _,rfl,.nil _ _ _,rfl,.nil _ _ _,fun p hp=>by cases hp⟩,rfl,.nil _ _ _⟩⟩
theorem zb {ws:List bC} {ad:Option Addr} {n cap:Nat} (s:List UInt8) (j:Nat) (w:World) (hn:n=ws.length) (hl:Sr fW 4 ws (.slice ad n cap) w):aJ Tryz.prog 46 #[vS s,.slice ad n cap,.int .i64 (j:Nat)] w (fun v w'=>v= .int .i64 (r7 s ws (j:Nat))∧Ext w w'):=by
 refine aJ.au Tryz.func46 rfl Tryz.ntmps46 rfl ([]) (no) (Mem.nil w) ?_;refine lg ?_;refine af.aj rfl (fun h1=>?_) (fun h1=>?_)
 ·refine J6 ?_;refine LM.eT (dy (j:=3) aA Tryz.isAgg3 rfl rfl cR (by rfl) (by rfl) id) ?_;refine J5 ?_;refine qL Tryz.results46 rfl fun w' aq ab aI=>?_;refine ⟨?_,ab⟩;unfold r7;rw [if_pos om,Int.toNat_natCast];rfl
 refine J5 ?_;refine LM.val (jE Tryz.underlying9 rfl) ?_;refine J4 ?_;refine qL Tryz.results46 rfl fun w' aq ab aI=>?_;refine ⟨?_,ab⟩;unfold r7;rw [if_neg om];rfl
theorem s6 {ws:List bC} {ad:Option Addr} {n cap:Nat} (s:List UInt8) (p:Int) (w:World) (hn:n=ws.length) (hl:Sr fW 4 ws (.slice ad n cap) w) (hp0:0≤p):
    aJ Tryz.prog 46 #[vS s,.slice ad n cap,.int .i64 p] w (fun v w'=>v= .int .i64 (r7 s ws p)∧Ext w w'):=by
  obtain ⟨j,rfl⟩:∃j:Nat,p=(j:Int):=⟨p.toNat,by omega⟩
  exact zb s j w hn hl
theorem y4 (s:List UInt8) (w:World) (hs:s.length≤1000000000):aJ Tryz.prog 20 #[vS s] w (fun v w'=>Ext w w'∧∃m,MK (j2 s) w.heap.size v m∧Mem w' m∧∀p∈m,w.heap.size≤p.1):=by
 refine aJ.au Tryz.func20 rfl Tryz.ntmps20 rfl ([]) (no) (Mem.nil w) ?_;refine J2 ?_;refine LM.alloc Tryz.zeroValue75 rfl (fun b2 tf=>?_);refine J7 ?_;refine LM.iO (oC Tryz.func44) Xc.mono (fun w hm hc hg=>HF w om) ?_;rintro u13 m13 ⟨aiA,n13,agq,rfl,M0,Po⟩-;have als:=L7 s;refine Fw ?_;refine af.aj rfl (fun h1=>?_) (fun h1=>?_)
 ·refine J2 ?_;refine LM.val (aD (cs:=#[_,_,_,_,_,_]) rfl (by first|rfl|kernel_rfl)) ?_;refine J2 ?_;refine LM.dC Tryz.sizeOf75 rfl rfl rfl rfl dF cn ?_;refine J6 ?_;refine QM.aV (ds:=([])) (.inl rfl) [.cell 2 75,.tmp 3,.tmp 4] Tryz.results20 bj (cM rfl Tryz.isAgg75 Tryz.sizeOf75 rfl (aU rfl (aU rfl bn))) ?_;intro w' aq ab
  unfold j2;rw [if_pos h1];exact⟨ab,[],MK.Sm,Mem.nil _,fun p hp=>by cases hp⟩
 refine J5 ?_;refine LM.iO (oC Tryz.func45) KO.mono (fun w hm hc hg=>Bc 0 w M0 om (Po.k8 ir hm)) ?_;rintro u24 m24 ⟨sv,rfl,VT,jC⟩ V6;refine J4 ?_;refine LM.alloc Tryz.zeroValue30 rfl (fun b8 J0=>?_);refine LM.dC Tryz.sizeOf30 rfl rfl rfl rfl dF cn ?_;refine dB ?_;refine af.aj rfl (fun h2=>?_) (fun h2=>?_)
 ·refine J2 ?_;refine LM.val (aD (cs:=#[_,_,_,_,_,_]) rfl (by first|rfl|kernel_rfl)) ?_;refine J3 ?_;refine cE Tryz.func46 rfl (fun w hm hc hg=>s6 s _ w M0 (Po.k8 ir hm) (NA _ _)) ?_;refine J1 ?_;refine LM.dC Tryz.sizeOf75 rfl rfl rfl rfl dF cn ?_;refine J6 ?_;refine QM.aV (ds:=([])) (.inl rfl) [.cell 2 75,.tmp 3,.tmp 4] Tryz.results20 bj (cM rfl Tryz.isAgg75 Tryz.sizeOf75 rfl (aU rfl (aU rfl bn))) ?_;intro w' aq ab
  unfold j2;rw [if_neg h1,if_pos h2];exact⟨ab,[],MK.Sm,Mem.nil _,fun p hp=>by cases hp⟩
 refine J6 ?_;refine LM.iO (oC Tryz.func47) XW.mono (fun w hm hc hg=>zi _ w M0 om (Po.k8 ir hm)) ?_;rintro u39 m39 ⟨aee,n39,Wj,rfl,ac5,aa6⟩ VV;refine Fw ?_;refine af.aj rfl (fun h3=>?_) (fun h3=>?_)
 ·refine J2 ?_;refine LM.val (aD (cs:=#[_,_,_,_,_,_]) rfl (by first|rfl|kernel_rfl)) ?_;refine J3 ?_;refine cE Tryz.func46 rfl (fun w hm hc hg=>s6 s _ w M0 (Po.k8 ir hm) (Lj _ _)) ?_;refine J1 ?_;refine LM.dC Tryz.sizeOf75 rfl rfl rfl rfl dF cn ?_;refine J6 ?_;refine QM.aV (ds:=([])) (.inl rfl) [.cell 2 75,.tmp 3,.tmp 4] Tryz.results20 bj (cM rfl Tryz.isAgg75 Tryz.sizeOf75 rfl (aU rfl (aU rfl bn))) ?_;intro w' aq ab
  unfold j2;rw [if_neg h1,if_neg h2,if_pos h3];exact⟨ab,[],MK.Sm,Mem.nil _,fun p hp=>by cases hp⟩
 refine J4 ?_;refine LM.rd (bo Tryz.isAgg30 Tryz.sizeOf30 rfl rfl) ?_;refine J1 ?_;refine LM.val (aD (cs:=#[_,_,_,_,_,_]) rfl (by first|rfl|kernel_rfl)) ?_;refine LM.dC Tryz.sizeOf75 rfl rfl rfl rfl dF cn ?_;refine J5 ?_;refine QM.aV (ds:=([])) (.inl rfl) [.cell 2 75,.tmp 3,.tmp 4] Tryz.results20 bj (cM rfl Tryz.isAgg75 Tryz.sizeOf75 rfl (aU rfl (aU rfl bn))) ?_;intro w' aq ab
 unfold j2;rw [if_neg h1,if_neg h2,if_neg h3];refine ⟨ab,m39++(m24++ []),⟨⟨sv,_,aee,n39,Wj⟩,rfl,VT,rfl,fun w hm=>⟨jC w (hm.pick m24),ac5,aa6.k8 ir hm⟩⟩,aT.mem (by(repeat' (first|exact aT.nil _|refine aT.app ?_))) w' aq,?_⟩;intro p hp;simp only [List.mem_append,List.not_mem_nil,or_false] at hp;rcases hp with hp|hp;exact VV p hp;exact V6 p hp
theorem CV {s:List UInt8} (h:(j2 s).2.2.2=0):fC (j2 s).1=true:=by
  unfold j2 at h ⊢
  split at h
  · next e=>exact absurd h e
  next e1=>
  rw [if_neg e1]
  split at h
  · next e=>exact absurd h e
  next e2=>
  rw [if_neg e2]
  split at h
  · next e=>exact absurd h e
  next e3=>
  rw [if_neg e3];exact NC (Classical.not_not.1 e2)
def MP (n:Nat) (k:Int) (k0:Nat) (v:Value) (m:aa):Prop:=∃(x:eL) (ok:Bool),v= .tuple #[x.val,.bool ok]∧(ok=true→fC x.C=true∧(n:Int)≤k)∧∀w,Mem w m→x.In w
theorem MP.mono {n:Nat} {k:Int} :∀(a b:Nat) u m,b≤a→MP n k a u m→MP n k b u m:=fun a b u m h q=>q
abbrev Mv (b:Nat) (t:List UInt8) (B0:Option Addr) (na nH:Nat):Nat×Obj:=(b,.cells #[vS t,.slice B0 na nH] 24 (0,0))
abbrev seZ (b:Nat):Nat×Obj:=(b,.cells #[.int .i64 0,.int .i64 0,.slice none 0 0,.slice none 0 0,.slice none 0 0] 30 (0,0))
abbrev scB (b:Nat) (x:Uv):Nat×Obj:=(b,.cells #[.int .i64 x.sv.cr,.int .i64 x.sv.gr,.slice x.sv.ga x.sv.gn x.sv.gc,.slice x.sv.la x.sv.ln x.sv.lc,.slice x.sv.pa x.sv.pn x.sv.pc,.slice x.ad x.n x.cap] 75 (0,0))
theorem MP.nil {n:Nat} {k:Int} {k0:Nat} {w:World} {w':World} (hc:Ext w w'):Ext w w'∧∃m,MP n k w.heap.size (.tuple #[.agg #[.int .i64 0,.int .i64 0,.slice none 0 0,.slice none 0 0,.slice none 0 0],.bool false]) m∧Mem w' m∧∀p∈m,w.heap.size≤p.1:=
  ⟨hc,[],⟨default,false,rfl,fun q=>(by cases q),fun w _=>⟨rfl,.nil _ _ _,rfl,.nil _ _ _,rfl,.nil _ _ _,fun p hp=>by cases hp⟩⟩,Mem.nil _,fun p hp=>by cases hp⟩
set_option maxHeartbeats 1000000 in
theorem Aw (t:List UInt8) {xs:List Act} {B0:Option Addr} {na nH:Nat} (k r:Int) (w:World) (HQ:na=xs.length) (hl:Sr fA 5 xs (.slice B0 na nH) w) (hr:0≤r∧r≤1000000) (hk:k≤1000000):aJ Tryz.prog 6 #[.agg #[vS t,.slice B0 na nH],.int .i64 k,.int .i64 r] w (fun v w'=>Ext w w'∧∃m,MP xs.length k w.heap.size v m∧Mem w' m∧∀p∈m,w.heap.size≤p.1):=by
 refine aJ.au Tryz.func6 rfl Tryz.ntmps6 rfl ([]) (no) (Mem.nil w) ?_;refine J2 ?_;refine LM.box rfl rfl (fun b3 Mm=>?_);refine LM.alloc Tryz.zeroValue30 rfl (fun b6 QI=>?_);refine J8 ?_;refine LM.val (jE Tryz.underlying9 rfl) ?_;refine J2 ?_;refine LM.ar (t:=17) rfl (fun h1=>?_) (fun h1=>?_)
 ·refine dB ?_;refine LM.val (aD (cs:=#[_,_,_,_,_]) rfl (by first|rfl|kernel_rfl)) ?_;refine LM.dC Tryz.sizeOf30 rfl rfl rfl rfl dF cn ?_;refine J5 ?_;refine QM.aV (ds:=([])) (.inl rfl) [.cell 6 30,.tmp 7] Tryz.results6 bj (cM rfl Tryz.isAgg30 Tryz.sizeOf30 rfl (aU rfl bn)) ?_;intro w' aq ab;exact MP.nil (k0:=0) ab
 refine J9 ?_;refine af.aj rfl (fun h2=>?_) (fun h2=>?_)
 ·refine J2 ?_;refine LM.val (aD (cs:=#[_,_,_,_,_]) rfl (by first|rfl|kernel_rfl)) ?_;refine LM.dC Tryz.sizeOf30 rfl rfl rfl rfl dF cn ?_;refine J5 ?_;refine QM.aV (ds:=([])) (.inl rfl) [.cell 6 30,.tmp 7] Tryz.results6 bj (cM rfl Tryz.isAgg30 Tryz.sizeOf30 rfl (aU rfl bn)) ?_;intro w' aq ab;exact MP.nil (k0:=0) ab
 refine cK ?_;refine af.aS (α:=Nat×Int) (fun ⟨i,q⟩=>[(2,.int .i64 q),(28,.int .i64 (i:Nat))]) [(3,_),(6,_),(26,_),(27,_)] (fun ⟨i,q⟩=>Mv b3 t B0 na nH::seZ b6:: []) (fun ⟨i,q⟩=>i≤na∧0≤q∧q≤r) (fun ⟨i,q⟩=>na-i) ((0,r)) cm aX ⟨Nat.zero_le _,hr.1,Int.le_refl _⟩ ?_;rintro ⟨i,q⟩ ⟨hi,PY,hqr⟩;change af _ _ _ _ _ _ _ (Mv b3 t B0 na nH::seZ b6:: []) _ _ _;refine J6 ?_;refine af.aj rfl (fun h3=>?_) (fun h3=>?_)
 ·refine J7 ?_;refine LM.eT (dX aA ir Tryz.isAgg37 Tryz.sizeOf37 rfl cR id) ?_;refine LM.alloc Tryz.zeroValue37 rfl (fun b9 hb9=>?_);refine LM.dC Tryz.sizeOf37 rfl rfl rfl rfl dF cn ?_;refine J9 ?_;refine LM.ar (t:=35) rfl (fun h4=>?_) (fun h4=>?_)
  ·refine US ?_;refine aK ((i+1,q)) ?_ ?_
   · exact⟨by omega,PY,hqr⟩
   · (dsimp only;omega)
  refine J6 ?_;refine LM.ar (t:=40) rfl (fun h5=>?_) (fun h5=>?_)
  ·refine ud ?_;refine aK ((i+1,q)) ?_ ?_
   · exact⟨by omega,PY,hqr⟩
   · (dsimp only;omega)
  refine J7 ?_;refine af.aj rfl (fun h6=>?_) (fun h6=>?_)
  ·refine J8 ?_;refine aK ((i+1,q)) ?_ ?_
   · exact⟨by omega,PY,hqr⟩
   · (dsimp only;omega)
  refine xW ?_;refine af.aj rfl (fun h7=>?_) (fun h7=>?_)
  ·refine J2 ?_;refine LM.val (aD (cs:=#[_,_,_,_,_]) rfl (by first|rfl|kernel_rfl)) ?_;refine LM.dC Tryz.sizeOf30 rfl rfl rfl rfl dF cn ?_;refine J9 ?_;refine QM.aV (ds:=([])) (.inl rfl) [.cell 6 30,.tmp 7] Tryz.results6 bj (cM rfl Tryz.isAgg30 Tryz.sizeOf30 rfl (aU rfl bn)) ?_;intro w' aq ab;exact MP.nil (k0:=0) ab
  refine J7 ?_;refine aK ((i+1,q-(xs.getD i default).a)) ?_ ?_
  · exact⟨by omega,by omega,by omega⟩
  · (dsimp only;omega)
 refine J9 ?_;refine LM.iO (oC Tryz.func20) MK.mono (fun w hm hc hg=>y4 t w om) ?_;rintro u56 wK ⟨x,rfl,Ap,hxa,jC⟩ QJ;refine J4 ?_;refine LM.alloc Tryz.zeroValue75 rfl (fun sN Lb=>?_);refine LM.dC Tryz.sizeOf75 rfl rfl rfl rfl dF cn ?_;refine J5 ?_;refine af.keep (scB sN x:: []) (fun _=>True) (.one 0 0 (.one 1 1 (.one 2 0 (.one 3 0 (.one 4 0 (.one 5 0 (.one 6 1 (.one 7 0 (.one 8 0 (.one 9 0 (.one 10 2 (.one 11 0 .nil)))))))))))) kr kr aX (fun _ _=>trivial) ?_;refine J1 ?_;refine KD.rd rfl rfl (pT Tryz.isAgg30 Tryz.sizeOf30 rfl (vs:=[_,_,_,_,_]) rfl ⟨rfl,rfl,rfl,rfl,rfl,trivial⟩) ?_;refine J3 ?_;refine KD.ar (t:=64) rfl (fun h8=>?_) (fun h8=>?_)
 ·refine J6 ?_;refine LM.dC Tryz.sizeOf30 rfl rfl rfl rfl dF cn ?_;refine J6 ?_;refine QM.aV (ds:=([])) (.inl rfl) [.cell 6 30,.tmp 7] Tryz.results6 bj (cM rfl Tryz.isAgg30 Tryz.sizeOf30 rfl (aU rfl bn)) ?_;intro w' aq ab;exact⟨ab,wK,⟨x.sv,_,rfl,fun _=>⟨by rw [Ap];exact CV h8,by omega⟩,fun w hm=>(jC w hm).st⟩,aq.pick wK,QJ⟩
 refine J6 ?_;refine LM.dC Tryz.sizeOf30 rfl rfl rfl rfl dF cn ?_;refine J6 ?_;refine QM.aV (ds:=([])) (.inl rfl) [.cell 6 30,.tmp 7] Tryz.results6 bj (cM rfl Tryz.isAgg30 Tryz.sizeOf30 rfl (aU rfl bn)) ?_;intro w' aq ab;exact⟨ab,wK,⟨x.sv,_,rfl,fun q=>(by cases q),fun w hm=>(jC w hm).st⟩,aq.pick wK,QJ⟩
end Go.Eng
namespace Go.Eng
open Go Go.RowKit
structure Vw where
  n:Nat
  nl:Nat
  cr:Int
  sh:Nat→Bool
  hw:Nat→Int
  lo:Nat→Int
  co:Nat→Int
  hs:Nat→List Hd
def vB (sh:Bool) (h:Hd):Bool:=sh&&decide (h.p=0)
structure pJ (v:Vw) (w:ck):Prop where
  n:w.ts.length=v.n
  HE:v.n≤64
  hw:∀t,t<v.n→(bX w t).how=v.hw t
  co:∀t,t<v.n→(bX w t).core=v.co t
  lo:∀t,t<v.n→v.hw t=4→(bX w t).lock=v.lo t
  sl:w.sh.length=v.nl
  rl:w.rd.length=v.nl
  wl:w.wr.length=v.nl
  sh:∀l,l<v.nl→w.sh.getD l false=v.sh l
  cr:w.cores=v.cr
  hr:∀l,l<v.nl→∀h∈v.hs l,0≤h.t∧h.t<(v.n:Int)
  rd:∀l,l<v.nl→∀q:Int,aN (lp w l) q=true↔∃h∈v.hs l,vB (v.sh l) h=true∧h.t=q
  wr:∀l,l<v.nl→∀q:Int,aN (mf w l) q=true↔∃h∈v.hs l,vB (v.sh l) h=false∧h.t=q
structure QX (v u:Vw):Prop where
  n:v.n=u.n
  nl:v.nl=u.nl
  cr:v.cr=u.cr
  sh:∀l,l<v.nl→v.sh l=u.sh l
  hw:∀t,t<v.n→v.hw t=u.hw t
  lo:∀t,t<v.n→v.hw t=4→v.lo t=u.lo t
  co:∀t,t<v.n→v.co t=u.co t
  hs:∀l,l<v.nl→∀h,h∈v.hs l↔h∈u.hs l
theorem pJ.eqv {v u:Vw} {w:ck} (h:pJ v w) (e:QX v u):pJ u w:=by
  refine ⟨e.n▸h.n,e.n▸h.HE,fun t ht=>?_,fun t ht=>?_,fun t ht h4=>?_,e.nl▸h.sl,e.nl▸h.rl,e.nl▸h.wl,fun l hl=>?_,e.cr▸h.cr,fun l hl g hg=>?_,fun l hl q=>?_,fun l hl q=>?_⟩
  · rw [←e.n] at ht;rw [h.hw t ht,e.hw t ht]
  · rw [←e.n] at ht;rw [h.co t ht,e.co t ht]
  · rw [←e.n] at ht;rw [←e.hw t ht] at h4;rw [h.lo t ht h4,e.lo t ht h4]
  · rw [←e.nl] at hl;rw [h.sh l hl,e.sh l hl]
  · rw [←e.nl] at hl;rw [←e.n];exact h.hr l hl g ((e.hs l hl g).2 hg)
  · rw [←e.nl] at hl;rw [h.rd l hl q,e.sh l hl]
    exact⟨fun ⟨g,a,b⟩=>⟨g,(e.hs l hl g).1 a,b⟩,fun ⟨g,a,b⟩=>⟨g,(e.hs l hl g).2 a,b⟩⟩
  · rw [←e.nl] at hl;rw [h.wr l hl q,e.sh l hl]
    exact⟨fun ⟨g,a,b⟩=>⟨g,(e.hs l hl g).1 a,b⟩,fun ⟨g,a,b⟩=>⟨g,(e.hs l hl g).2 a,b⟩⟩
def aP {α:Type} (f:Nat→α) (i:Nat) (a:α):Nat→α:=fun j=>if i=j then a else f j
theorem bG {α:Type} (f:Nat→α) (i:Nat) (a:α):aP f i a i=a:=if_pos rfl
theorem bf {α:Type} (f:Nat→α) {i j:Nat} (a:α) (h:i≠j):aP f i a j=f j:=if_neg h
theorem aR {α:Type} (f:Nat→α) (i j:Nat):aP f i (f i) j=f j:=by
  by_cases e:i=j
  · rw [e];exact if_pos rfl
  · exact if_neg e
def Vw.put (v:Vw) (t:Nat) (hw lo co:Int):Vw:= {v with hw:=aP v.hw t hw,lo:=aP v.lo t lo,co:=aP v.co t co}
def Vw.hd (v:Vw) (l:Nat) (hs:List Hd):Vw:= {v with hs:=aP v.hs l hs}
theorem qE {w:ck} {t:Nat} (ht:t<w.ts.length) (T:ui) (j:Nat):bX (w.put t T) j=if t=j then T else bX w j:=by
  show (w.ts.set t T).getD j default=_
  rw [List.getD_eq_getElem?_getD,List.getElem?_set]
  by_cases e:t=j
  · rw [if_pos e,if_pos e,if_pos ht];rfl
  · rw [if_neg e,if_neg e];unfold bX;rw [List.getD_eq_getElem?_getD]
theorem pJ.put {v:Vw} {w:ck} (h:pJ v w) {t:Nat} (ht:t<v.n) (T:ui):pJ (v.put t T.how T.lock T.core) (w.put t T):=by
  have hl:t<w.ts.length:=by rw [h.n];exact ht
  refine ⟨by show (w.ts.set t T).length=_;rw [List.length_set];exact h.n,h.HE,fun j hj=>?_,fun j hj=>?_,fun j hj h4=>?_,h.sl,h.rl,h.wl,h.sh,h.cr,h.hr,h.rd,h.wr⟩
  · rw [qE hl];show _=aP v.hw t _ j;unfold aP;split;rfl;exact h.hw j hj
  · rw [qE hl];show _=aP v.co t _ j;unfold aP;split;rfl;exact h.co j hj
  · rw [qE hl];show _=aP v.lo t _ j;unfold aP
    have h4:aP v.hw t T.how j=4:=h4
    unfold aP at h4
    split
    · rfl
    · next e=>rw [if_neg e] at h4;exact h.lo j hj h4
theorem pJ.at {v:Vw} {w:ck} (h:pJ v w) (tm:BitVec 64):pJ v {w with now:=tm} :=⟨h.n,h.HE,h.hw,h.co,h.lo,h.sl,h.rl,h.wl,h.sh,h.cr,h.hr,h.rd,h.wr⟩
theorem WJ {w:ck} {e:fu} {t:Nat} (hf:oW w e=true) (hk:e.k≠1) (he:e.t=(t:Int)) (ht:t<w.ts.length) (hb:qp {w with now:=e.tm} t e=true):
    mO w e=true∧dh w e=ofM {w with now:=e.tm} t e:=by
  have e1:e.t.toNat=t:=by omega
  constructor
  · unfold mO;rw [hf,if_neg hk,e1,hb,decide_eq_true (show (0:Int)≤e.t by omega),decide_eq_true (show e.t<(w.ts.length:Int) by omega)];rfl
  · unfold dh;rw [hf,if_neg (by decide),if_neg hk,if_neg om,e1]
theorem Ao {w:ck} {e:fu} (ht:w.now.toNat≤e.tm.toNat) (hk:OP e.k=false) (hl:e.l= -1) (hn:e.n=0∨TV e.k=false):oW w e=true:=by
  unfold oW;rw [decide_eq_true ht,hk,if_neg (by decide),decide_eq_true hl]
  rcases hn with q|q
  · rw [decide_eq_true q];rfl
  · rw [q];simp
theorem GU {w:ck} {e:fu} (ht:w.now.toNat≤e.tm.toNat) (hk:OP e.k=true) (h0:0≤e.l) (hl:e.l<w.sh.length) (hn:e.n=0∨TV e.k=false):oW w e=true:=by
  unfold oW;rw [decide_eq_true ht,hk,if_pos rfl,decide_eq_true h0,decide_eq_true hl]
  rcases hn with q|q
  · rw [decide_eq_true q];rfl
  · rw [q];simp
inductive U9 (w0:ck):List fu→ck→Prop
  |nil:U9 w0 [] w0
  |snoc {l:List fu} {w:ck} {e:fu} :U9 w0 l w→mO w e=true→U9 w0 (l++ [e]) (dh w e)
theorem FQ (w:ck) (e:fu) (b:Bool):(mY w e b).now=w.now:=by unfold mY;split<;>rfl
theorem Nb (w:ck) (i:Nat) (e:fu):(tD w i e).now=w.now:=by
  have h:(jz w e).now=w.now:=by unfold jz;split<;>rfl
  unfold tD;split
  · split
    · exact h
    · exact h
  · rfl
theorem N8 (w:ck) (i:Nat) (e:fu):(vQ w i e).now=w.now:=by unfold vQ;split<;>rfl
theorem ew {c:Prop} [Decidable c] {a b:ck} {t:BitVec 64} (h1:a.now=t) (h2:b.now=t):(if c then a else b).now=t:=by split;exact h1;exact h2
theorem EF (w:ck) (i:Nat) (e:fu):(ofM w i e).now=w.now:=by
  unfold ofM
  exact ew rfl (ew rfl (ew (Nb ..) (ew (FQ ..) (ew (FQ ..) (ew (N8 ..) (ew rfl (ew rfl (ew rfl (ew rfl (ew (ew rfl rfl) (ew (ew rfl rfl) rfl)))))))))))
def AV (w0:ck) (ev:List fu) (now:BitVec 64) (v:Vw):Prop:=∃w,U9 w0 ev w∧w.now.toNat≤now.toNat∧pJ v w
theorem AV.eqv {w0:ck} {ev:List fu} {now:BitVec 64} {v u:Vw} (h:AV w0 ev now v) (e:QX v u):AV w0 ev now u:=by
  obtain ⟨w,h1,h2,h3⟩:=h;exact⟨w,h1,h2,h3.eqv e⟩
theorem AV.of {w0:ck} {ev:List fu} {now:BitVec 64} {v u:Vw} {e:fu} (h:AV w0 ev now v) (he:e.tm=now) (hk:e.k≠1) {t:Nat} (hte:e.t=(t:Int)) (ht:t<v.n)
    (hf:∀w,w.now.toNat≤now.toNat→pJ v w→oW w e=true) (hm:∀w,pJ v w→qp w t e=true∧pJ u (ofM w t e)):AV w0 (ev++ [e]) now u:=by
  obtain ⟨w,h1,h2,h3⟩:=h;have q:=hm {w with now:=e.tm} (h3.at _);obtain ⟨e1,e2⟩:=WJ (hf w h2 h3) hk hte (by rw [h3.n];exact ht) q.1;refine ⟨dh w e,.snoc h1 e1,?_,by rw [e2];exact q.2⟩;rw [e2,EF,←he];exact Nat.le_refl _
section
variable {w0:ck} {ev:List fu} {now:BitVec 64} {v:Vw} (h:AV w0 ev now v)
include h
theorem AV.spawn {co:Int} (zX:v.n<64) (hc:0≤co∧co<v.cr):AV w0 (ev++ [⟨now,1,(v.n:Nat),-1,co⟩]) now {v with n:=v.n+1,hw:=aP v.hw v.n 1,co:=aP v.co v.n co} :=by
  obtain ⟨w,h1,h2,h3⟩:=h;have hf:oW w ⟨now,1,(v.n:Nat),-1,co⟩=true:=Ao h2 rfl rfl (.inr rfl)
  have hs:B1 {w with now:=now} ⟨now,1,(v.n:Nat),-1,co⟩=true:=by
    unfold B1
    have e1:=h3.n;have e2:=h3.cr;simp only [Bool.and_eq_true,decide_eq_true_eq];exact⟨by omega,by omega,hc.1,by omega⟩
  have hM:dh w ⟨now,1,(v.n:Nat),-1,co⟩= {w with now:=now,ts:=w.ts++ [⟨co,1,0⟩] } :=by
    unfold dh;rw [hf,if_neg (by decide),if_pos rfl];unfold Hx;rw [if_pos hs]
  have rS:B1 w ⟨now,1,(v.n:Nat),-1,co⟩=true:=hs;refine ⟨_,.snoc h1 (by unfold mO;rw [hf,if_pos rfl,rS];rfl),?_⟩;rw [hM]
  have hg:∀t,bX {w with now:=now,ts:=w.ts++ [⟨co,1,0⟩] } t=if v.n=t then ⟨co,1,0⟩ else bX w t:=fun t=>by
    show (w.ts++ [_]).getD t default=_
    rw [List.getD_eq_getElem?_getD];have e1:=h3.n;rcases Nat.lt_trichotomy t w.ts.length with q|q|q
    · rw [List.getElem?_append_left q,if_neg om,←List.getD_eq_getElem?_getD]
    · rw [List.getElem?_append_right om,if_pos om,q,Nat.sub_self];rfl
    · rw [if_neg om,List.getElem?_eq_none (by rw [List.length_append,List.length_singleton];omega)]
      unfold bX;rw [List.getD_eq_getElem?_getD,List.getElem?_eq_none om]
  refine ⟨Nat.le_refl _,by show (w.ts++ [_]).length=_;rw [List.length_append,List.length_singleton,h3.n],by show v.n+1≤64;omega,fun t ht=>?_,fun t ht=>?_,fun t ht h4=>?_,h3.sl,h3.rl,h3.wl,h3.sh,h3.cr,fun l hl g hg=>?_,h3.rd,h3.wr⟩
  · rw [hg];show _=aP v.hw v.n 1 t;unfold aP;split;rfl;exact h3.hw t (by have:t<v.n+1:=ht;omega)
  · rw [hg];show _=aP v.co v.n co t;unfold aP;split;rfl;exact h3.co t (by have:t<v.n+1:=ht;omega)
  · rw [hg]
    have h4:aP v.hw v.n 1 t=4:=h4
    unfold aP at h4
    split
    · next e=>rw [if_pos e] at h4;cases h4
    · next e=>rw [if_neg e] at h4;exact h3.lo t (by have:t<v.n+1:=ht;omega) h4
  · have:=h3.hr l hl g hg;show 0≤g.t∧g.t<((v.n+1:Nat):Int);omega
section
variable {t:Nat} (ht:t<v.n)
include ht
theorem AV.wM {k l n:Int} (hk:k≠1) (hf:∀w,w.now.toNat≤now.toNat→pJ v w→oW w ⟨now,k,t,l,n⟩=true) {T:ui→ui} {hw lo co:Int}
    (hm:∀w,pJ v w→qp w t ⟨now,k,t,l,n⟩=true∧ofM w t ⟨now,k,t,l,n⟩=w.put t (T (bX w t))∧(T (bX w t)).how=hw∧(T (bX w t)).core=co∧(hw=4→(T (bX w t)).lock=lo)):
    AV w0 (ev++ [⟨now,k,t,l,n⟩]) now (v.put t hw lo co):=by
  refine h.of rfl hk rfl ht hf (fun w UX=>?_);obtain ⟨h1,h2,h3,h4,h5⟩:=hm w UX;refine ⟨h1,?_⟩;rw [h2];refine (UX.put ht (T (bX w t))).eqv ⟨rfl,rfl,rfl,fun _ _=>rfl,fun j hj=>?_,fun j hj Wr=>?_,fun j hj=>?_,fun _ _ _=>Iff.rfl⟩
  · show aP v.hw t _ j=aP v.hw t _ j;rw [h3]
  · have Wr:aP v.hw t (T (bX w t)).how j=4:=Wr
    show aP v.lo t _ j=aP v.lo t _ j
    unfold aP at Wr ⊢
    split
    · next e=>rw [if_pos e,h3] at Wr;exact h5 Wr
    · rfl
  · show aP v.co t _ j=aP v.co t _ j;rw [h4]
theorem AV.aaJ (h1:v.hw t=1) (hn:∀j,j<v.n→v.hw j=2→v.co j≠v.co t):AV w0 (ev++ [⟨now,2,t,-1,v.co t⟩]) now (v.put t 2 (v.lo t) (v.co t)):=by
  refine h.wM ht (by decide) (fun w hw _=>Ao hw rfl rfl (.inr rfl)) (T:=fun T=> {T with how:=2}) (fun w hw=>?_);have e1:=(hw.hw t ht).trans h1;have e2:=hw.co t ht
  have hi:HC w (bX w t).core=true:=by
    unfold HC
    rw [Bool.not_eq_true',List.any_eq_false];intro T hT q;simp only [Bool.and_eq_true,decide_eq_true_eq] at q;obtain ⟨j,hj,rfl⟩:=List.getElem_of_mem hT;have hg:bX w j=w.ts[j] :=by unfold bX;rw [List.getD_eq_getElem?_getD,List.getElem?_eq_getElem hj];rfl
    rw [←hg] at q;have Qb:j<v.n:=by rw [←hw.n];exact hj
    exact hn j Qb (by rw [←hw.hw j Qb];exact q.1) (by rw [←hw.co j Qb,q.2,e2])
  have hb:gx (bX w t) 1 (decide (v.co t=(bX w t).core)&&HC w (bX w t).core)=true:=by
    unfold gx;rw [decide_eq_true e1,decide_eq_true e2.symm,hi];rfl
  refine ⟨hb,?_,rfl,e2,fun q=>by cases q⟩
  show w.put t (ki _ _ _ _)=_
  unfold ki;rw [if_pos hb]
theorem AV.leave (k:Int) (hk:k=3∨k=10) (h2:v.hw t=2):AV w0 (ev++ [⟨now,k,t,-1,v.co t⟩]) now (v.put t 1 (v.lo t) (v.co t)):=by
  refine h.wM ht om (fun w hw _=>Ao hw (by rcases hk with rfl|rfl<;>rfl) rfl (.inr (by rcases hk with rfl|rfl<;>rfl))) (T:=fun T=> {T with how:=1}) (fun w hw=>?_);have e1:=(hw.hw t ht).trans h2;have e2:=hw.co t ht;have hb:gx (bX w t) 2 (decide (v.co t=(bX w t).core))=true:=by unfold gx;rw [decide_eq_true e1,decide_eq_true e2.symm];rfl
  have e3:qp w t ⟨now,k,t,-1,v.co t⟩=gx (bX w t) 2 (decide (v.co t=(bX w t).core)):=by
    unfold qp;rw [if_neg (show¬(k=2) by omega),if_pos (show k=3∨k=10 from hk)]
  have e4:ofM w t ⟨now,k,t,-1,v.co t⟩=w.put t (ki (bX w t) 2 1 (decide (v.co t=(bX w t).core))):=by
    unfold ofM;rw [if_neg (show¬(k=2) by omega),if_pos (show k=3∨k=10 from hk)]
  refine ⟨by rw [e3];exact hb,?_,rfl,e2,fun q=>by cases q⟩;rw [e4];unfold ki;rw [if_pos hb]
theorem AV.YF (hh:v.hw t=3∨v.hw t=6∨v.hw t=7):AV w0 (ev++ [⟨now,7,t,-1,v.co t⟩]) now (v.put t 1 (v.lo t) (v.co t)):=by
  refine h.wM ht (by decide) (fun w hw _=>Ao hw rfl rfl (.inr rfl)) (T:=fun T=> {T with how:=1}) (fun w hw=>?_);have e1:=hw.hw t ht;have e2:=hw.co t ht
  have hb:K0 (bX w t) (decide (v.co t=(bX w t).core))=true:=by
    unfold K0;rw [e1,decide_eq_true e2.symm];rcases hh with q|q|q<;>rw [q] <;>rfl
  refine ⟨hb,?_,rfl,e2,fun q=>by cases q⟩
  show w.put t (Kj _ _)=_
  unfold Kj;rw [if_pos hb]
theorem AV.sleep {n:Int} (h2:v.hw t=2) (hn:1≤n∧n≤64):AV w0 (ev++ [⟨now,9,t,-1,n⟩]) now (v.put t 3 (v.lo t) (v.co t)):=by
  refine h.wM ht (by decide) (fun w hw _=>Ao hw rfl rfl (.inr rfl)) (T:=fun T=> {T with how:=3}) (fun w hw=>?_);have e1:=(hw.hw t ht).trans h2;have e2:=hw.co t ht;have hb:gx (bX w t) 2 (decide (1≤n)&&decide (n≤64))=true:=by unfold gx;rw [decide_eq_true e1,decide_eq_true hn.1,decide_eq_true hn.2];rfl
  refine ⟨hb,?_,rfl,e2,fun q=>by cases q⟩
  show w.put t (ki _ _ _ _)=_
  unfold ki;rw [if_pos hb]
theorem AV.weight {n:Int} (h2:v.hw t=2) (hn:1≤n∧n≤16):AV w0 (ev++ [⟨now,14,t,-1,n⟩]) now (v.put t 2 (v.lo t) (v.co t)):=by
  refine h.wM ht (by decide) (fun w hw _=>Ao hw rfl rfl (.inr rfl)) (T:=fun T=> {T with how:=2}) (fun w hw=>?_);have e1:=(hw.hw t ht).trans h2;have e2:=hw.co t ht;have hb:gx (bX w t) 2 (decide (1≤n)&&decide (n≤16))=true:=by unfold gx;rw [decide_eq_true e1,decide_eq_true hn.1,decide_eq_true hn.2];rfl
  refine ⟨hb,?_,rfl,e2,fun q=>by cases q⟩
  show w.put t (ki _ _ _ _)=_
  unfold ki;rw [if_pos hb]
theorem AV.aeD {n:Int} (h1:v.hw t=1) (eb:n≠v.co t) (hn:0≤n∧n<v.cr):AV w0 (ev++ [⟨now,13,t,-1,n⟩]) now (v.put t 1 (v.lo t) n):=by
  refine h.wM ht (by decide) (fun w hw _=>Ao hw rfl rfl (.inr rfl)) (T:=fun T=> {T with core:=n}) (fun w hw=>?_);have e1:=(hw.hw t ht).trans h1;have e2:=hw.co t ht;have e3:=hw.cr
  have hb:gx (bX w t) 1 (decide (n≠(bX w t).core)&&(decide (0≤n)&&decide (n<w.cores)))=true:=by
    unfold gx;rw [decide_eq_true e1,decide_eq_true (show n≠(bX w t).core by rw [e2];exact eb),decide_eq_true hn.1,decide_eq_true (show n<w.cores by omega)];rfl
  have tf:qp w t ⟨now,13,t,-1,n⟩=true:=hb;refine ⟨tf,?_,e1,rfl,fun q=>by cases q⟩
  show (if qp w t ⟨now,13,t,-1,n⟩=true then w.put t {bX w t with core:=n} else w)=_
  rw [if_pos tf]
theorem AV.err {l n:Int} (h2:v.hw t=2) (hl:(0≤l∧l<(v.nl:Int))∨(l= -1∧n=3)) (hn:n=3∨n=7∨n=8∨n=9):AV w0 (ev++ [⟨now,8,t,l,n⟩]) now v:=by
  have q:AV w0 (ev++ [⟨now,8,t,l,n⟩]) now (v.put t (v.hw t) (v.lo t) (v.co t)):=by
    refine h.wM ht (by decide) (fun w hw hm=>?_) (T:=fun T=>T) (fun w hw=>?_)
    · rcases hl with q|q
      · exact GU hw rfl q.1 (by rw [hm.sl];exact q.2) (.inr rfl)
      · unfold oW;rw [decide_eq_true hw]
        show (true&&(decide (0≤l)&&decide (l<(w.sh.length:Int))||decide (l= -1)&&(true&&decide (n=3)))&&(decide (n=0)||true))=true
        rw [decide_eq_true q.1,decide_eq_true q.2];simp
    have e1:=hw.hw t ht
    have hb:(decide ((bX w t).how=2)&&zF n)=true:=by
      rw [decide_eq_true (e1.trans h2)];unfold zF;rcases hn with r|r|r|r<;>rw [r] <;>rfl
    refine ⟨?_,?_,e1,hw.co t ht,fun r=>by rw [h2] at r;cases r⟩
    · show Gc (bX w t) ⟨now,8,t,l,n⟩=true
      unfold Gc;show (_&&zF n||_)=true;rw [hb];rfl
    · show w.put t (By (bX w t) ⟨now,8,t,l,n⟩)=_
      unfold By;show w.put t (if (_&&zF n)=true then _ else _)=_;rw [if_pos hb]
  refine q.eqv ⟨rfl,rfl,rfl,fun _ _=>rfl,fun j hj=>?_,fun j hj _=>?_,fun j hj=>?_,fun _ _ _=>Iff.rfl⟩
  · show aP v.hw t (v.hw t) j=v.hw j;exact aR _ _ _
  · show aP v.lo t (v.lo t) j=v.lo j;exact aR _ _ _
  · show aP v.co t (v.co t) j=v.co j;exact aR _ _ _
theorem AV.late {l:Nat} (h4:v.hw t=4) (tA:v.lo t=(l:Int)) (hl:l<v.nl):AV w0 (ev++ [⟨now,8,t,l,10⟩]) now (v.put t 7 (v.lo t) (v.co t)):=by
  refine h.wM ht (by decide) (fun w hw hm=>GU hw rfl (Int.natCast_nonneg l) (by rw [hm.sl];exact Int.ofNat_lt.2 hl) (.inr rfl)) (T:=fun T=> {T with how:=7}) (fun w hw=>?_);have e1:=(hw.hw t ht).trans h4;have e2:=(hw.lo t ht h4).trans tA;have h2:(decide ((bX w t).how=2)&&zF 10)=false:=by rw [decide_eq_false om];rfl
  have hb:gx (bX w t) 4 (decide ((bX w t).lock=(l:Int))&&decide ((10:Int)=10))=true:=by unfold gx;rw [decide_eq_true e1,decide_eq_true e2];rfl
  refine ⟨?_,?_,rfl,hw.co t ht,fun q=>by cases q⟩
  · show Gc (bX w t) ⟨now,8,t,l,10⟩=true
    unfold Gc;show (_||gx _ _ _)=true;rw [hb];exact Bool.or_true _
  · show w.put t (By (bX w t) ⟨now,8,t,l,10⟩)=_
    unfold By;show w.put t (if (_&&zF 10)=true then _ else ki _ _ _ _)=_
    rw [if_neg (by rw [h2];decide)];unfold ki;rw [if_pos hb]
theorem AV.block {l:Nat} (h2:v.hw t=2) (hl:l<v.nl) (eb:v.hs l≠ []) (fH:∀h∈v.hs l,h.t≠(t:Int)):AV w0 (ev++ [⟨now,6,t,l,0⟩]) now (v.put t 4 l (v.co t)):=by
  refine h.wM ht (by decide) (fun w hw hm=>GU hw rfl (Int.natCast_nonneg l) (by rw [hm.sl];exact Int.ofNat_lt.2 hl) (.inl rfl)) (T:=fun T=> {T with how:=4,lock:=l}) (fun w hw=>?_);have e1:=(hw.hw t ht).trans h2
  have hor:∀q:Int,aN (lp w l|||mf w l) q=true↔∃h∈v.hs l,h.t=q:=fun q=>by
    rw [eS,Bool.or_eq_true,hw.rd l hl q,hw.wr l hl q]
    constructor
    · rintro (⟨g,a,b,c⟩|⟨g,a,b,c⟩)<;>exact⟨g,a,c⟩
    · rintro ⟨g,a,c⟩
      cases b:vB (v.sh l) g
      · exact .inr ⟨g,a,b,c⟩
      · exact .inl ⟨g,a,b,c⟩
  have hz:lp w l|||mf w l≠0#64:=fun q=>by
    cases e:v.hs l with
    |nil=>exact eb e
    |cons g r=>
      have:=(hor g.t).2 ⟨g,by rw [e];exact List.mem_cons_self ..,rfl⟩;rw [q,cF] at this;cases this
  have hb:IB w (bX w t) ⟨now,6,t,l,0⟩=true:=by
    unfold IB gx Y9
    show (_&&(decide (lp w (l:Int).toNat|||mf w (l:Int).toNat≠0#64)&& !aN (lp w (l:Int).toNat|||mf w (l:Int).toNat) t))=true
    rw [Int.toNat_natCast,decide_eq_true e1,decide_eq_true hz]
    have:aN (lp w l|||mf w l) t=false:=by
      cases q:aN (lp w l|||mf w l) t with
      |false=>rfl
      |true=>obtain ⟨g,a,b⟩:=(hor t).1 q;exact absurd b (fH g a)
    rw [this];rfl
  refine ⟨hb,?_,rfl,hw.co t ht,fun _=>rfl⟩
  show vQ w t _=_
  unfold vQ;rw [if_pos hb]
theorem AV.exit (h5:v.hw t≠5) (fH:∀l,l<v.nl→∀h∈v.hs l,h.t≠(t:Int)):AV w0 (ev++ [⟨now,11,t,-1,0⟩]) now (v.put t 5 (v.lo t) (v.co t)):=by
  refine h.wM ht (by decide) (fun w hw hm=>Ao hw rfl rfl (.inl rfl)) (T:=fun T=> {T with how:=5}) (fun w hw=>?_);have e1:=hw.hw t ht
  have hf:PA w t=true:=by
    unfold PA;rw [List.all_eq_true]
    intro l hl;have nu:l<v.nl:=by rw [←hw.sl];exact List.mem_range.1 hl
    unfold lU;rw [eS]
    have a1:aN (lp w l) t=false:=by
      cases q:aN (lp w l) t with
      |false=>rfl
      |true=>obtain ⟨g,a,b,c⟩:=(hw.rd l nu t).1 q;exact absurd c (fH l nu g a)
    have a2:aN (mf w l) t=false:=by
      cases q:aN (mf w l) t with
      |false=>rfl
      |true=>obtain ⟨g,a,b,c⟩:=(hw.wr l nu t).1 q;exact absurd c (fH l nu g a)
    rw [a1,a2];rfl
  have hb:qp w t ⟨now,11,t,-1,0⟩=true:=by
    show (decide ((bX w t).how≠5)&&PA w t)=true
    rw [hf,decide_eq_true (by rw [e1];exact h5)];rfl
  refine ⟨hb,?_,rfl,hw.co t ht,fun q=>by cases q⟩
  show (if qp w t ⟨now,11,t,-1,0⟩=true then w.put t {bX w t with how:=5} else w)=_
  rw [if_pos hb]
end
end
def nO (sh:Bool) (g:Hd):Int:=(if g.d=true then 1 else 0)+(if sh=true∧g.p=0 then 2 else 0)
theorem Jz (sh:Bool) (g:Hd):(2≤nO sh g↔vB sh g=true)∧0≤nO sh g∧nO sh g≤3:=by
  unfold nO vB
  rw [Bool.and_eq_true,decide_eq_true_eq]
  by_cases e:sh=true∧g.p=0
  · rw [if_pos e];refine ⟨⟨fun _=>e,fun _=>?_⟩,?_,?_⟩<;>split<;>omega
  · rw [if_neg e];refine ⟨⟨fun q=>?_,fun q=>absurd q e⟩,?_,?_⟩
    · split at q<;>omega
    · split<;>omega
    · split<;>omega
theorem uo {w:ck} {l:Nat} (hl:l<w.rd.length) (s:BitVec 64) (j:Nat):(w.rd.set l s).getD j 0#64=if l=j then s else lp w j:=by
  rw [List.getD_eq_getElem?_getD,List.getElem?_set]
  by_cases e:l=j
  · rw [if_pos e,if_pos e,if_pos hl];rfl
  · rw [if_neg e,if_neg e];unfold lp;rw [List.getD_eq_getElem?_getD]
theorem ub {w:ck} {l:Nat} (hl:l<w.wr.length) (s:BitVec 64) (j:Nat):(w.wr.set l s).getD j 0#64=if l=j then s else mf w j:=by
  rw [List.getD_eq_getElem?_getD,List.getElem?_set]
  by_cases e:l=j
  · rw [if_pos e,if_pos e,if_pos hl];rfl
  · rw [if_neg e,if_neg e];unfold mf;rw [List.getD_eq_getElem?_getD]
theorem pJ.drop {v:Vw} {w:ck} (h:pJ v w) {t l:Nat} (hl:l<v.nl):pJ (v.hd l ((v.hs l).filter (fun g=>decide (g.t≠(t:Int))))) (Ek w t l):=by
  have e1:=h.rl;have e2:=h.wl;refine ⟨h.n,h.HE,h.hw,h.co,h.lo,h.sl,by show (w.rd.set l _).length=_;rw [List.length_set];exact e1,by show (w.wr.set l _).length=_;rw [List.length_set];exact e2,h.sh,h.cr,fun j hj g hg=>?_,fun j hj q=>?_,fun j hj q=>?_⟩
  · have hg:g∈aP v.hs l ((v.hs l).filter _) j:=hg
    unfold aP at hg;split at hg
    · exact h.hr l hl g (List.mem_filter.1 hg).1
    · exact h.hr j hj g hg
  · show aN ((w.rd.set l _).getD j 0#64) q=true↔∃g∈aP v.hs l _ j,_
    rw [uo om];unfold aP
    by_cases e:l=j
    · subst e
      rw [if_pos rfl,if_pos rfl,gK,Bool.and_eq_true,h.rd l hl q,Bool.not_eq_true',decide_eq_false_iff_not]
      constructor
      · rintro ⟨⟨g,a,b,c⟩,d⟩;exact⟨g,List.mem_filter.2 ⟨a,decide_eq_true (by rw [c];exact d)⟩,b,c⟩
      · rintro ⟨g,a,b,c⟩;have a:=List.mem_filter.1 a;exact⟨⟨g,a.1,b,c⟩,by rw [←c];exact of_decide_eq_true a.2⟩
    · rw [if_neg e,if_neg e];exact h.rd j hj q
  · show aN ((w.wr.set l _).getD j 0#64) q=true↔∃g∈aP v.hs l _ j,_
    rw [ub om];unfold aP
    by_cases e:l=j
    · subst e
      rw [if_pos rfl,if_pos rfl,gK,Bool.and_eq_true,h.wr l hl q,Bool.not_eq_true',decide_eq_false_iff_not]
      constructor
      · rintro ⟨⟨g,a,b,c⟩,d⟩;exact⟨g,List.mem_filter.2 ⟨a,decide_eq_true (by rw [c];exact d)⟩,b,c⟩
      · rintro ⟨g,a,b,c⟩;have a:=List.mem_filter.1 a;exact⟨⟨g,a.1,b,c⟩,by rw [←c];exact of_decide_eq_true a.2⟩
    · rw [if_neg e,if_neg e];exact h.wr j hj q
theorem pJ.Z9 {v:Vw} {w:ck} (h:pJ v w) {l:Nat} (hl:l<v.nl) (q:Int):lU w q l=true↔∃g∈v.hs l,g.t=q:=by
  unfold lU
  rw [eS,Bool.or_eq_true,h.rd l hl q,h.wr l hl q]
  constructor
  · rintro (⟨g,a,b,c⟩|⟨g,a,b,c⟩)<;>exact⟨g,a,c⟩
  · rintro ⟨g,a,c⟩
    cases b:vB (v.sh l) g
    · exact .inr ⟨g,a,b,c⟩
    · exact .inl ⟨g,a,b,c⟩
theorem pJ.take {v:Vw} {w:ck} (h:pJ v w) {t l:Nat} (ht:t<v.n) (hl:l<v.nl) (g:Hd) (hg:g.t=(t:Int)) (e:fu) (e1:e.t=(t:Int)) (e2:e.l=(l:Int)) (e3:e.n=nO (v.sh l) g):pJ (v.hd l (v.hs l++ [g])) (jz w e):=by
  have r1:=h.rl;have r2:=h.wl;have HE:=h.HE
  have hr:∀j,j<v.nl→∀k∈aP v.hs l (v.hs l++ [g]) j,0≤k.t∧k.t<(v.n:Int):=fun j hj k hk=>by
    unfold aP at hk;split at hk
    · rcases List.mem_append.1 hk with q|q
      · exact h.hr l hl k q
      · rw [List.mem_singleton.1 q,hg];omega
    · exact h.hr j hj k hk
  have el:e.l.toNat=l:=by omega
  have hn:=Jz (v.sh l) g;have hq:∀q:Int,(q=(t:Int)∧0≤q∧q<64)↔q=(t:Int):=fun q=>⟨fun a=>a.1,fun a=>⟨a,by omega⟩⟩
  have n3:∀(b:Bool) (q:Int),vB (v.sh l) g= !b→((∃k∈v.hs l++ [g],vB (v.sh l) k=b∧k.t=q)↔∃k∈v.hs l,vB (v.sh l) k=b∧k.t=q):=fun b q hb=>by
    constructor
    · rintro ⟨k,a,c,d⟩
      rcases List.mem_append.1 a with a|a
      · exact⟨k,a,c,d⟩
      · rw [List.mem_singleton.1 a,hb] at c;cases b<;>cases c
    · rintro ⟨k,a,c⟩;exact⟨k,List.mem_append_left _ a,c⟩
  have new:∀(b:Bool) (q:Int),vB (v.sh l) g=b→((∃k∈v.hs l++ [g],vB (v.sh l) k=b∧k.t=q)↔((∃k∈v.hs l,vB (v.sh l) k=b∧k.t=q)∨q=(t:Int))):=fun b q hb=>by
    constructor
    · rintro ⟨k,a,c,d⟩
      rcases List.mem_append.1 a with a|a
      · exact .inl ⟨k,a,c,d⟩
      · rw [List.mem_singleton.1 a,hg] at d;exact .inr d.symm
    · rintro (⟨k,a,c⟩|rfl)
      · exact⟨k,List.mem_append_left _ a,c⟩
      · exact⟨g,List.mem_append_right _ (List.mem_singleton.2 rfl),hb,hg⟩
  unfold jz
  rw [e3,el,e1]
  by_cases c:vB (v.sh l) g=true
  · rw [if_pos (hn.1.2 c)]
    refine ⟨h.n,h.HE,h.hw,h.co,h.lo,h.sl,by show (w.rd.set l _).length=_;rw [List.length_set];exact r1,r2,h.sh,h.cr,hr,fun j hj q=>?_,fun j hj q=>?_⟩
    · show aN ((w.rd.set l _).getD j 0#64) q=true↔∃k∈aP v.hs l _ j,_
      rw [uo om];unfold aP
      by_cases e:l=j
      · subst e
        rw [if_pos rfl,if_pos rfl,dW,Bool.or_eq_true,h.rd l hl q,Bool.and_eq_true,Bool.and_eq_true,decide_eq_true_eq,decide_eq_true_eq,decide_eq_true_eq,hq];exact(new true q c).symm
      · rw [if_neg e,if_neg e];exact h.rd j hj q
    · show aN (mf w j) q=true↔∃k∈aP v.hs l _ j,_
      unfold aP
      by_cases e:l=j
      · subst e;rw [if_pos rfl,h.wr l hl q];exact(n3 false q c).symm
      · rw [if_neg e];exact h.wr j hj q
  · have c:vB (v.sh l) g=false:=by simpa using c
    rw [if_neg (fun q=>by have:=hn.1.1 q;rw [c] at this;cases this)];refine ⟨h.n,h.HE,h.hw,h.co,h.lo,h.sl,r1,by show (w.wr.set l _).length=_;rw [List.length_set];exact r2,h.sh,h.cr,hr,fun j hj q=>?_,fun j hj q=>?_⟩
    · show aN (lp w j) q=true↔∃k∈aP v.hs l _ j,_
      unfold aP
      by_cases e:l=j
      · subst e;rw [if_pos rfl,h.rd l hl q];exact(n3 true q c).symm
      · rw [if_neg e];exact h.rd j hj q
    · show aN ((w.wr.set l _).getD j 0#64) q=true↔∃k∈aP v.hs l _ j,_
      rw [ub om];unfold aP
      by_cases e:l=j
      · subst e
        rw [if_pos rfl,if_pos rfl,dW,Bool.or_eq_true,h.wr l hl q,Bool.and_eq_true,Bool.and_eq_true,decide_eq_true_eq,decide_eq_true_eq,decide_eq_true_eq,hq];exact(new false q c).symm
      · rw [if_neg e,if_neg e];exact h.wr j hj q
theorem Aq {s:BitVec 64} (h:∀q:Int,aN s q=false):s=0#64:=rh (fun i _=>by rw [h,cF])
theorem Jn {v:Vw} {w:ck} (h:pJ v w) {t l:Nat} (ht:t<v.n) (hl:l<v.nl) (g:Hd) (hg:g.t=(t:Int)) (now:BitVec 64) (hh:v.hw t=2∨(v.hw t=4∧v.lo t=(l:Int))) (fH:∀k∈v.hs l,k.t≠(t:Int)) (hc:(vB (v.sh l) g=true∧∀k∈v.hs l,vB (v.sh l) k=true)∨v.hs l=[]):
    Az w (bX w t) ⟨now,4,t,l,nO (v.sh l) g⟩=true∧DW (bX w t) ⟨now,4,t,l,nO (v.sh l) g⟩=decide (v.hw t=4):=by
  have e1:=h.hw t ht;have hn:=Jz (v.sh l) g
  have hw:DW (bX w t) ⟨now,4,t,l,nO (v.sh l) g⟩=decide (v.hw t=4):=by
    unfold DW;rw [e1]
    rcases hh with q|⟨q1,q2⟩
    · rw [q];rfl
    · rw [h.lo t ht q1,q1,q2];simp
  refine ⟨?_,hw⟩
  have hf:lU w t l=false:=by
    cases q:lU w t l with
    |false=>rfl
    |true=>obtain ⟨k,a,b⟩:=(h.Z9 hl t).1 q;exact absurd b (fH k a)
  have hW:mf w l=0#64:=Aq (fun q=>by
    cases e:aN (mf w l) q with
    |false=>rfl
    |true=>
      obtain ⟨k,a,b,c⟩:=(h.wr l hl q).1 e;rcases hc with ⟨_,r⟩|r
      · rw [r k a] at b;cases b
      · rw [r] at a;cases a)
  have hR:¬2≤nO (v.sh l) g→lp w l=0#64:=fun z=>Aq (fun q=>by
    cases e:aN (lp w l) q with
    |false=>rfl
    |true=>
      obtain ⟨k,a,b,c⟩:=(h.rd l hl q).1 e;rcases hc with ⟨r,_⟩|r
      · exact absurd (hn.1.2 r) z
      · rw [r] at a;cases a)
  unfold Az
  rw [hw]
  show ((decide ((bX w t).how=2)||_)&&(!lU w t (l:Int).toNat&&(decide (0≤nO _ g)&&(decide (nO _ g≤3)&&(decide (mf w (l:Int).toNat=0#64)&&(if 2≤nO (v.sh l) g then w.sh.getD (l:Int).toNat false else decide (lp w (l:Int).toNat=0#64)))))))=true
  rw [Int.toNat_natCast,hf,hW,decide_eq_true hn.2.1,decide_eq_true hn.2.2,e1];have a1:(decide (v.hw t=2)||decide (v.hw t=4))=true:=by rcases hh with q|⟨q,_⟩<;>rw [q] <;>rfl
  rw [a1]
  by_cases z:2≤nO (v.sh l) g
  · rw [if_pos z,h.sh l hl]
    have:=hn.1.1 z
    unfold vB at this;rw [Bool.and_eq_true] at this
    rw [this.1];rfl
  · rw [if_neg z,hR z];rfl
section
variable {w0:ck} {ev:List fu} {now:BitVec 64} {v:Vw} (h:AV w0 ev now v) {t l:Nat} (ht:t<v.n) (hl:l<v.nl)
include h ht hl
theorem AV.lets {k:Int} (hk:(k=5∧v.hw t=2)∨(k=12∧v.hw t≠5)) (hh:∃g∈v.hs l,g.t=(t:Int)):AV w0 (ev++ [⟨now,k,t,l,0⟩]) now (v.hd l ((v.hs l).filter (fun g=>decide (g.t≠(t:Int))))):=by
  have hf:∀w,w.now.toNat≤now.toNat→pJ v w→oW w ⟨now,k,t,l,0⟩=true:=fun w hw hm=>by
    refine GU hw ?_ (Int.natCast_nonneg l) (by rw [hm.sl];exact Int.ofNat_lt.2 hl) (.inl rfl);rcases hk with ⟨rfl,_⟩|⟨rfl,_⟩<;>rfl
  refine h.of rfl (by show¬k=1;omega) rfl ht hf (fun w hw=>?_);have e1:=hw.hw t ht;have Zq:=(hw.Z9 hl t).2 hh;rcases hk with ⟨rfl,q⟩|⟨rfl,q⟩
  · have hb:BX w ⟨now,5,t,l,0⟩ (decide ((bX w t).how=2))=true:=by
      unfold BX;rw [decide_eq_true (e1.trans q)];show lU w t (l:Int).toNat=true;rw [Int.toNat_natCast];exact Zq
    refine ⟨hb,?_⟩
    show pJ _ (mY w ⟨now,5,t,l,0⟩ _)
    unfold mY;rw [if_pos hb];show pJ _ (Ek w t (l:Int).toNat);rw [Int.toNat_natCast];exact hw.drop hl
  · have hb:BX w ⟨now,12,t,l,0⟩ (decide ((bX w t).how≠5))=true:=by
      unfold BX;rw [decide_eq_true (by rw [e1];exact q)];show lU w t (l:Int).toNat=true;rw [Int.toNat_natCast];exact Zq
    refine ⟨hb,?_⟩
    show pJ _ (mY w ⟨now,12,t,l,0⟩ _)
    unfold mY;rw [if_pos hb];show pJ _ (Ek w t (l:Int).toNat);rw [Int.toNat_natCast];exact hw.drop hl
section
variable {g:Hd} (hg:g.t=(t:Int)) (fH:∀k∈v.hs l,k.t≠(t:Int)) (hc:(vB (v.sh l) g=true∧∀k∈v.hs l,vB (v.sh l) k=true)∨v.hs l=[])
include hg fH hc
theorem AV.aek (h2:v.hw t=2):AV w0 (ev++ [⟨now,4,t,l,nO (v.sh l) g⟩]) now (v.hd l (v.hs l++ [g])):=by
  refine h.of rfl (by show¬(4:Int)=1;decide) rfl ht (fun w hw hm=>GU hw rfl (Int.natCast_nonneg l) (by rw [hm.sl];exact Int.ofNat_lt.2 hl) (.inr rfl)) (fun w hw=>?_);obtain ⟨a,b⟩:=Jn hw ht hl g hg now (.inl h2) fH hc;refine ⟨a,?_⟩
  show pJ _ (tD w t _)
  unfold tD;rw [if_pos a,b,h2,if_neg (by decide)]
  exact hw.take ht hl g hg _ rfl rfl rfl
theorem AV.jz (h4:v.hw t=4) (tA:v.lo t=(l:Int)):AV w0 (ev++ [⟨now,4,t,l,nO (v.sh l) g⟩]) now ((v.hd l (v.hs l++ [g])).put t 6 (v.lo t) (v.co t)):=by
  refine h.of rfl (by show¬(4:Int)=1;decide) rfl ht (fun w hw hm=>GU hw rfl (Int.natCast_nonneg l) (by rw [hm.sl];exact Int.ofNat_lt.2 hl) (.inr rfl)) (fun w hw=>?_);obtain ⟨a,b⟩:=Jn hw ht hl g hg now (.inr ⟨h4,tA⟩) fH hc;refine ⟨a,?_⟩
  show pJ _ (tD w t _)
  unfold tD;rw [if_pos a,b,h4,if_pos (by decide)]
  have q:=(hw.take ht hl g hg ⟨now,4,t,l,nO (v.sh l) g⟩ rfl rfl rfl).put (t:=t) ht {bX w t with how:=6};rw [show (bX w t).lock=v.lo t from hw.lo t ht h4,show (bX w t).core=v.co t from hw.co t ht] at q;exact q
end
end
theorem A5 {cs:List Qm} {co a:Int} {v:BitVec 64} {w:Int} {c:Nat} {b:Int} (h:cd (qg (dx cs co a v w) c) b):cd (qg cs c) b∨(b=a∧co=(c:Int)∧c<cs.length):=by
  unfold dx at h;split at h
  · next e=>
    have rY:co.toNat<cs.length∧0≤co:=by unfold ik at e;split at e;cases e;omega
    rw [bK rY.1] at h
    by_cases q:co.toNat=c
    · rw [if_pos q,has_add] at h;rw [←q]
      rcases h with h|h
      · exact .inl h
      · exact .inr ⟨h,by omega,rY.1⟩
    · rw [if_neg q] at h;exact .inl h
  · exact .inl h
theorem qf (cs:List Qm) (co a:Int) (v:BitVec 64) (w:Int) (c:Nat):(qg (dx cs co a v w) c).cur=(qg cs c).cur:=by
  unfold dx;split
  · next e=>
    have rY:co.toNat<cs.length:=by unfold ik at e;split at e;cases e;omega
    rw [bK rY];split
    · next q=>rw [←q];rfl
    · rfl
  · rfl
structure QC (n:Nat) (cs:List Qm) (st co:Nat→Int):Prop where
  has:∀c,c<cs.length→∀a,cd (qg cs c) a→co a.toNat=(c:Int)∧(st a.toNat=1∨st a.toNat=2)
  cur:∀c,c<cs.length→0≤(qg cs c).cur→st (qg cs c).cur.toNat=2
  run:∀t,t<n→st t=2→∃c,c<cs.length∧(qg cs c).cur=(t:Int)
section
variable {n k:Nat} {cs:List Qm} {st co:Nat→Int} (h:QC n cs st co) (hc:CI n k cs)
include h
theorem QC.ext {Yc co':Nat→Int} (hc:CI n k cs) (h1:∀t,t<n→Yc t=st t) (h2:∀t,t<n→co' t=co t):QC n cs Yc co':=by
  have hid:∀c,c<cs.length→∀a,cd (qg cs c) a→a.toNat<n:=fun c ab a ha=>by
    have h1:=hc.id c ab a ha;have h0:=(hc.wf.wf c ab).pos _ (ea ha).1;rw [(ea ha).2] at h0;omega
  refine ⟨fun c ab a ha=>?_,fun c ab h0=>?_,fun t ht MN=>?_⟩
  · rw [h1 _ (hid c ab a ha),h2 _ (hid c ab a ha)];exact h.has c ab a ha
  · rw [h1 _ (hid c ab _ ((hc.wf.wf c ab).ix h0))];exact h.cur c ab h0
  · exact h.run t ht (by rw [←h1 t ht];exact MN)
theorem QC.same {FM:List Qm} (hl:FM.length=cs.length) (hk:∀c,c<cs.length→∀a,cd (qg FM c) a→cd (qg cs c) a) (hq:∀c,c<cs.length→(qg FM c).cur=(qg cs c).cur):QC n FM st co:=
  ⟨fun c ab a ha=>h.has c (hl▸ab) a (hk c (hl▸ab) a ha),fun c ab h0=>by rw [hq c (hl▸ab)] at h0 ⊢;exact h.cur c (hl▸ab) h0,fun t ht h2=>by
    obtain ⟨c,h1,h2⟩:=h.run t ht h2;exact⟨c,hl▸h1,by rw [hq c h1];exact h2⟩⟩
theorem QC.add {t:Nat} (hc:CI n k cs) (ht:st t≠1∧st t≠2) (v:BitVec 64) (w:Int):QC n (dx cs (co t) t v w) (aP st t 1) co:=by
  have fH:∀c,c<cs.length→∀a,cd (qg cs c) a→a.toNat≠t:=fun c ab a ha e=>by
    have:=(h.has c ab a ha).2;rw [e] at this;omega
  refine ⟨fun c ab a ha=>?_,fun c ab h0=>?_,fun j hj h2=>?_⟩
  · rw [gu] at ab
    rcases A5 ha with q|⟨rfl,q,_⟩
    · rw [bf st 1 (Ne.symm (fH c ab a q))];exact h.has c ab a q
    · rw [Int.toNat_natCast,bG];exact⟨q,.inl rfl⟩
  · rw [gu] at ab;rw [qf] at h0 ⊢
    have q:=h.cur c ab h0;rw [bf st 1 (fun e=>by rw [←e] at q;exact ht.2 q)];exact q
  · by_cases e:t=j
    · rw [←e,bG] at h2;cases h2
    · rw [bf st 1 e] at h2
      obtain ⟨c,h1,h2⟩:=h.run j hj h2;exact⟨c,by rw [gu];exact h1,by rw [qf];exact h2⟩
theorem QC.rem {t:Nat} (hc:CI n k cs) {s:Int} (hs:s≠2):QC n (gD cs t) (aP st t s) co:=by
  have Kb:∀c,c<cs.length→(qg cs c).cur≠(t:Int)→(qg (gD cs t) c).cur=(qg cs c).cur:=fun c ab e=>by
    unfold gD;split
    · next q=>
      rw [bK q];split
      · next r=>rw [r];unfold iw;rw [if_neg e]
      · rfl
    · rfl
  have aaT:∀c,c<cs.length→0≤(qg (gD cs t) c).cur→(qg cs c).cur≠(t:Int):=fun c ab h0 e=>by
    have hk:=(hc.wf.wf c ab).ix (show 0≤(qg cs c).cur by omega);rw [e] at hk;have lP:bO cs t=c:=hc.wf.at ab hk
    unfold gD at h0
    rw [if_pos (by rw [lP];exact ab),lP,bK ab,if_pos rfl] at h0
    unfold iw at h0;rw [if_pos e] at h0;have h0:(0:Int)≤-1:=h0;omega
  refine ⟨fun c ab a ha=>?_,fun c ab h0=>?_,fun j hj h2=>?_⟩
  · rw [oM] at ab
    obtain ⟨q1,q2⟩:=qv hc.wf ab ha;have h0:=(hc.wf.wf c ab).pos _ (ea q1).1;rw [(ea q1).2] at h0;rw [bf st s (show t≠a.toNat by omega)];exact h.has c ab a q1
  · rw [oM] at ab
    have e:=aaT c ab h0;rw [Kb c ab e] at h0 ⊢;rw [bf st s (show t≠(qg cs c).cur.toNat by omega)];exact h.cur c ab h0
  · by_cases e:t=j
    · rw [←e,bG] at h2;exact absurd h2 hs
    · rw [bf st s e] at h2
      obtain ⟨c,h1,h2⟩:=h.run j hj h2;exact⟨c,by rw [oM];exact h1,by rw [Kb c h1 om];exact h2⟩
theorem QC.back {c:Nat} (ab:c<cs.length) (hc:CI n k cs) (h0:0≤(qg cs c).cur):QC n (cs.set c (fh (qg cs c))) (aP st (qg cs c).cur.toNat 1) co:=by
  have HG:=(hc.wf.wf c ab).ix h0
  have eb:∀d,d<cs.length→c≠d→0≤(qg cs d).cur→(qg cs c).cur.toNat≠(qg cs d).cur.toNat:=fun d hd e q r=>by
    have h2:=(hc.wf.wf d hd).ix q;rw [show (qg cs d).cur=(qg cs c).cur by omega] at h2;exact e (hc.wf.one c d _ ab hd HG h2)
  refine ⟨fun d hd a ha=>?_,fun d hd q=>?_,fun j hj h2=>?_⟩
  · rw [List.length_set] at hd
    have h1:=jA ab (q:=fh (qg cs c)) rfl ha;obtain ⟨e1,e2⟩:=h.has d hd a h1;refine ⟨e1,?_⟩
    unfold aP;split
    · exact .inl rfl
    · exact e2
  · rw [List.length_set] at hd
    rw [bK ab] at q ⊢
    by_cases e:c=d
    · rw [if_pos e] at q;exact absurd q (by show¬(0:Int)≤-1;decide)
    · rw [if_neg e] at q ⊢;rw [bf st 1 (eb d hd e q)];exact h.cur d hd q
  · by_cases e:(qg cs c).cur.toNat=j
    · rw [←e,bG] at h2;cases h2
    · rw [bf st 1 e] at h2
      obtain ⟨d,h1,h2⟩:=h.run j hj h2;refine ⟨d,by rw [List.length_set];exact h1,?_⟩;rw [bK ab,if_neg (fun r=>by rw [←r] at h2;omega)];exact h2
theorem QC.pik {c:Nat} (ab:c<cs.length) (hc:CI n k cs) (h0:(qg cs c).cur<0) {a:Int} (ha:cd (qg cs c) a) (V9:0≤a):QC n (cs.set c (mG (qg cs c) a)) (aP st a.toNat 2) co:=by
  refine ⟨fun d hd b hb=>?_,fun d hd q=>?_,fun j hj h2=>?_⟩
  · rw [List.length_set] at hd
    have h1:=jA ab (q:=mG (qg cs c) a) rfl hb;obtain ⟨e1,e2⟩:=h.has d hd b h1;refine ⟨e1,?_⟩
    unfold aP;split
    · exact .inr rfl
    · exact e2
  · rw [List.length_set] at hd
    rw [bK ab] at q ⊢
    by_cases e:c=d
    · rw [if_pos e];exact bG ..
    · rw [if_neg e] at q ⊢
      unfold aP;split
      · rfl
      · exact h.cur d hd q
  · by_cases e:a.toNat=j
    · exact⟨c,by rw [List.length_set];exact ab,by rw [bK ab,if_pos rfl];show a=_;omega⟩
    · rw [bf st 2 e] at h2
      obtain ⟨d,h1,h2⟩:=h.run j hj h2;refine ⟨d,by rw [List.length_set];exact h1,?_⟩;rw [bK ab,if_neg (fun r=>by rw [←r] at h2;omega)];exact h2
theorem QC.car {a:Int} {to:Nat} (hc:CI n k cs) (ha:bO cs a<cs.length) (ht:to<cs.length) (eb:to≠bO cs a) (qG:(qg cs (bO cs a)).cur≠a):QC n (fV cs a to) st (aP co a.toNat to):=by
  have hh:=c8 ha;have V9:0≤a:=hc.wf.pos ha
  have Kb:∀d,(qg (fV cs a to) d).cur=(qg cs d).cur:=fun d=>by
    rw [vw hc.wf ha ht eb,bK (by unfold ep;rw [List.length_set];exact ht)]
    have e1:∀e,(qg (ep cs a) e).cur=(qg cs e).cur:=fun e=>by
      unfold ep;rw [bK ha];split
      · next r=>rw [←r];unfold iw;rw [if_neg qG]
      · rfl
    split
    · next r=>rw [←r];exact e1 to
    · exact e1 d
  have Ik:∀d,d<cs.length→∀b,cd (qg (fV cs a to) d) b→(b≠a∧cd (qg cs d) b)∨(b=a∧d=to):=fun d hd b hb=>by
    rw [vw hc.wf ha ht eb,bK (by unfold ep;rw [List.length_set];exact ht)] at hb
    have key:∀e,e<cs.length→cd (qg (ep cs a) e) b→b≠a∧cd (qg cs e) b:=fun e he q=>by
      unfold ep at q;rw [bK ha] at q
      by_cases z:bO cs a=e
      · rw [if_pos z,oP (hc.wf.wf _ ha) hh,z] at q;exact⟨q.2,q.1⟩
      · rw [if_neg z] at q;exact⟨fun r=>z (hc.wf.at he (r▸q)),q⟩
    by_cases e:to=d
    · rw [if_pos e,has_add] at hb
      rcases hb with q|q
      · exact .inl (e▸key to ht q)
      · exact .inr ⟨q,e.symm⟩
    · rw [if_neg e] at hb;exact .inl (key d hd hb)
  refine ⟨fun d hd b hb=>?_,fun d hd q=>?_,fun j hj h2=>?_⟩
  · rw [qP] at hd
    rcases Ik d hd b hb with ⟨q1,q2⟩|⟨rfl,rfl⟩
    · have h0:=(hc.wf.wf d hd).pos _ (ea q2).1
      rw [(ea q2).2] at h0;rw [bf co _ (show a.toNat≠b.toNat by omega)];exact h.has d hd b q2
    · rw [bG];exact⟨rfl,(h.has _ ha b hh).2⟩
  · rw [qP] at hd;rw [Kb] at q ⊢;exact h.cur d hd q
  · obtain ⟨d,h1,h2⟩:=h.run j hj h2;exact⟨d,by rw [qP];exact h1,by rw [Kb];exact h2⟩
theorem QC.new (hc:CI n k cs) {co0:Int} (v:BitVec 64) (w:Int):QC (n+1) (dx cs co0 n v w) (aP st n 1) (aP co n co0):=by
  have fH:∀c,c<cs.length→∀a,cd (qg cs c) a→n≠a.toNat:=fun c ab a ha=>by
    have h1:=hc.id c ab a ha;have h0:=(hc.wf.wf c ab).pos _ (ea ha).1;rw [(ea ha).2] at h0;omega
  refine ⟨fun c ab a ha=>?_,fun c ab h0=>?_,fun j hj h2=>?_⟩
  · rw [gu] at ab
    rcases A5 ha with q|⟨rfl,q,_⟩
    · rw [bf st 1 (fH c ab a q),bf co _ (fH c ab a q)];exact h.has c ab a q
    · rw [Int.toNat_natCast,bG,bG];exact⟨q,.inl rfl⟩
  · rw [gu] at ab;rw [qf] at h0 ⊢
    rw [bf st 1 (fH c ab _ ((hc.wf.wf c ab).ix h0))];exact h.cur c ab h0
  · by_cases e:n=j
    · rw [←e,bG] at h2;cases h2
    · rw [bf st 1 e] at h2
      obtain ⟨c,h1,h2⟩:=h.run j om h2;exact⟨c,by rw [gu];exact h1,by rw [qf];exact h2⟩
end
/-! ### locks -/
structure LC (n:Nat) (ls:List aY) (st lk:Nat→Int) (E:Nat→Prop):Prop where
  wt:∀l,l<ls.length→∀y∈(qg ls l).wt,st y.who.toNat=4∧lk y.who.toNat=(l:Int)
  s4:∀t,t<n→st t=4→¬E t→∃y∈(qg ls (lk t).toNat).wt,y.who=(t:Int)
  h5:∀l,l<ls.length→∀g∈(qg ls l).ho,st g.t.toNat≠5
section
variable {n:Nat} {ls:List aY} {st lk:Nat→Int} {E:Nat→Prop} (h:LC n ls st lk E)
include h
theorem LC.mono {E':Nat→Prop} (he:∀t,t<n→st t=4→E t→E' t):LC n ls st lk E':=⟨h.wt,fun t ht h4 hE=>h.s4 t ht h4 (fun e=>hE (he t ht h4 e)),h.h5⟩
theorem LC.ext {Yc lk':Nat→Int} (hi:∀l,l<ls.length→gW (lz n) (qg ls l)) (h1:∀t,t<n→Yc t=st t) (h2:∀t,t<n→lk' t=lk t):LC n ls Yc lk' E:=by
  refine ⟨fun l hl y hy=>?_,fun t ht h4 hE=>?_,fun l hl g hg=>?_⟩
  · have:=(hi l hl).wt y hy;unfold lz at this
    rw [h1 _ om,h2 _ om];exact h.wt l hl y hy
  · rw [h2 t ht];exact h.s4 t ht (by rw [←h1 t ht];exact h4) hE
  · have:=(hi l hl).ho g hg;unfold lz at this
    rw [h1 _ om];exact h.h5 l hl g hg
theorem LC.put {l:Nat} {L:aY} (hl:l<ls.length) {E':Nat→Prop} (hw:∀y∈L.wt,y∈(qg ls l).wt) (hE:∀t,E t→E' t) (hn:∀y∈(qg ls l).wt,(∃z∈L.wt,z.who=y.who)∨E' y.who.toNat) (hh:∀g∈L.ho,st g.t.toNat≠5):LC n (ls.set l L) st lk E':=by
  refine ⟨fun j hj y hy=>?_,fun t ht h4 eb=>?_,fun j hj g hg=>?_⟩
  · rw [List.length_set] at hj;rw [bK hl] at hy
    by_cases e:l=j
    · rw [if_pos e] at hy;rw [←e];exact h.wt l hl y (hw y hy)
    · rw [if_neg e] at hy;exact h.wt j hj y hy
  · obtain ⟨y,hy,e⟩:=h.s4 t ht h4 (fun q=>eb (hE t q))
    rw [bK hl]
    by_cases q:l=(lk t).toNat
    · rw [if_pos q];rw [←q] at hy
      rcases hn y hy with ⟨z,a,b⟩|b
      · exact⟨z,a,b.trans e⟩
      · rw [e,Int.toNat_natCast] at b;exact absurd b eb
    · rw [if_neg q];exact⟨y,hy,e⟩
  · rw [List.length_set] at hj;rw [bK hl] at hg
    by_cases e:l=j
    · rw [if_pos e] at hg;exact hh g hg
    · rw [if_neg e] at hg;exact h.h5 j hj g hg
theorem LC.PO {t:Nat} {s:Int} (hs:s≠4) (hw:∀l,l<ls.length→∀y∈(qg ls l).wt,y.who.toNat≠t) (h5:s=5→∀l,l<ls.length→∀g∈(qg ls l).ho,g.t.toNat≠t) (lk0:Int):LC n ls (aP st t s) (aP lk t lk0) (fun j=>E j∧j≠t):=by
  refine ⟨fun l hl y hy=>?_,fun j hj h4 hE=>?_,fun l hl g hg=>?_⟩
  · rw [bf st s (Ne.symm (hw l hl y hy)),bf lk lk0 (Ne.symm (hw l hl y hy))];exact h.wt l hl y hy
  · by_cases e:t=j
    · rw [←e,bG] at h4;exact absurd h4 hs
    · rw [bf st s e] at h4;rw [bf lk lk0 e];exact h.s4 j hj h4 (fun q=>hE ⟨q,Ne.symm e⟩)
  · unfold aP;split
    · next e=>exact fun q=>h5 q l hl g hg e.symm
    · exact h.h5 l hl g hg
end
abbrev cY (x:aC):Nat→Int:=fun t=>(gT x t).st
abbrev ek (x:aC):Nat→Int:=fun t=>(gT x t).co
abbrev eM (x:aC):Nat→Int:=fun t=>(gT x t).lk
def Qq (x:aC) (hs:Nat→List Hd):Vw:=⟨x.ts.length,x.lk.length,x.s.cr,fun l=>(gL x l).sh,cY x,eM x,ek x,hs⟩
abbrev jI (x:aC):Vw:=Qq x (fun l=>(gL x l).ho)
/-! a lock's holders -/
theorem TO {l:List Hd} (h:(l.map (·.t)).Nodup) {g k:Hd} (hg:g∈l) (hk:k∈l) (e:g.t=k.t):g=k:=by
  induction l with
  |nil=>cases hg
  |cons a r ih=>
    rw [List.map_cons,List.nodup_cons] at h;rcases List.mem_cons.1 hg with rfl|aI<;>rcases List.mem_cons.1 hk with rfl|UA
    · rfl
    · exact absurd (List.mem_map.2 ⟨k,UA,e.symm⟩) h.1
    · exact absurd (List.mem_map.2 ⟨g,aI,e⟩) h.1
    · exact ih h.2 aI UA
theorem xh {l:List Hd} (h:(l.map (·.t)).Nodup) {t:Int} (ht:l.any (fun g=>decide (g.t=t))=true) (g:Hd):g∈l.eraseIdx (ff l t)↔g∈l.filter (fun g=>decide (g.t≠t)):=by
  induction l with
  |nil=>simp at ht
  |cons a r ih=>
    rw [List.map_cons,List.nodup_cons] at h
    by_cases e:a.t=t
    · have:ff (a::r) t=0:=by unfold ff;rw [List.findIdx_cons,decide_eq_true e];rfl
      rw [this,List.eraseIdx_zero,List.filter_cons_of_neg (by simpa using e)]
      show g∈r↔_
      rw [List.mem_filter];exact⟨fun q=>⟨q,decide_eq_true (fun z=>h.1 (List.mem_map.2 ⟨g,q,z.trans e.symm⟩))⟩,fun q=>q.1⟩
    · have:ff (a::r) t=ff r t+1:=by unfold ff;rw [List.findIdx_cons,decide_eq_false e];rfl
      rw [List.any_cons,decide_eq_false e,Bool.false_or] at ht;rw [this,List.eraseIdx_cons_succ,List.filter_cons_of_pos (by simpa using e),List.mem_cons,List.mem_cons,ih h.2 ht]
theorem Ig {L:aY} (h:(L.ho.map (·.t)).Nodup) {g:Hd} (hg:g∈L.ho):dD L g.t=nO L.sh g:=by
  have hh:bd L g.t=true:=List.any_eq_true.2 ⟨g,hg,decide_eq_true rfl⟩;obtain ⟨_,h1,h2⟩:=pD hh;have h3:L.ho.getD (ff L.ho g.t) default=g:=TO h (by rw [List.getD_eq_getElem?_getD,List.getElem?_eq_getElem h1];exact List.getElem_mem h1) hg h2
  unfold dD nO;rw [if_pos hh,h3]
structure pe (L M:aY) (told:List Hd) (to:List Int) (cC:List Hd):Prop where
  ho:M.ho=told++cC
  tq:cC.map (·.t)=to
  w1:∀y∈M.wt,y∈L.wt
  w2:∀y∈L.wt,y∈M.wt∨y.who∈to
  ti:∀t∈to,∃y∈L.wt,y.who=t
  sh:M.sh=L.sh
  ln:M.ld.l.length=L.ld.l.length
theorem pe.none {L M:aY} (h1:M.wt=L.wt) (h2:M.sh=L.sh) (h3:M.ld.l.length=L.ld.l.length):pe L M M.ho [] [] :=⟨(List.append_nil _).symm,rfl,fun y hy=>h1▸hy,fun y hy=> .inl (h1▸hy),fun t ht=>(by cases ht),h2,h3⟩
theorem pe.Ki {L:aY} (p:Int) (n:Nat):pe L (l9 L p n) L.ho (cQ L p n) (AJ p L.di (cQ L p n)):=by
  rw [eQ];refine ⟨rfl,Br ..,fun y hy=>(oK.1 hy).1,fun y hy=>?_,fun t ht=>?_,rfl,rfl⟩
  · by_cases c:y.who∈cQ L p n
    · exact .inr c
    · exact .inl (oK.2 ⟨hy,c⟩)
  · obtain ⟨w,hw,e,_⟩:=qI ht;exact⟨w,hw,e⟩
theorem pe.settle {L M:aY} {told cC:List Hd} {to:List Int} (h:pe L M told to cC):pe L (cB M) told to cC:=⟨h.ho,h.tq,h.w1,h.w2,h.ti,h.sh,(gS ..).trans h.ln⟩
theorem pe.pass (L:aY):∃cC,pe L (jV L) L.ho (iJ L) cC:=by
  unfold jV iJ
  by_cases c:L.wt.length=0
  · rw [if_pos c,if_pos c];exact⟨[],pe.none rfl rfl rfl⟩
  · rw [if_neg c,if_neg c]
    have h:=pe.Ki (L:=dp L) (dp L).tr.p (mB L);exact⟨_,h.ho,h.tq,h.w1,h.w2,h.ti,h.sh,h.ln⟩
theorem pe.BL {L:aY} {t:Int} (ht:bd L t=true):∃cC,pe L (ej L t) (L.ho.eraseIdx (ff L.ho t)) (dZ L t) cC:=by
  unfold ej dZ
  rw [if_pos ht]
  by_cases c:(fa L t).ho.length=0
  · rw [if_pos c,if_pos ⟨ht,c⟩]
    obtain ⟨p,h⟩:=pe.pass (fa L t);have h2:=h.settle;exact⟨p,h2.ho,h2.tq,h2.w1,h2.w2,h2.ti,h2.sh,h2.ln⟩
  · rw [if_neg c,if_neg (fun q=>c q.2)]
    have h:pe L (fa L t) (fa L t).ho [] [] :=pe.none rfl rfl rfl;exact⟨[],h.settle⟩
theorem pe.die {L:aY} {t:Int} (hw:bY L t=false) (ht:bd L t=true):∃cC,pe L (rk L t) (L.ho.eraseIdx (ff L.ho t)) (ua L t) cC:=by
  obtain ⟨p,h⟩:=pe.BL (L:= {L with di:=true}) (t:=t) ht;refine ⟨p,?_⟩;have e1:rk L t=ej {L with di:=true} t:=by unfold rk;rw [if_neg (by rw [hw];decide),if_pos ht]
  have e2:ua L t=dZ {L with di:=true} t:=by unfold ua;rw [if_neg (by rw [hw];decide)]
  rw [e1,e2];exact⟨h.ho,h.tq,h.w1,h.w2,h.ti,h.sh,h.ln⟩
theorem pe.lv {L:aY} {t:Int} (ht:bY L t=true):∃cC,(fw L t).ho=L.ho++cC∧cC.map (·.t)=o9 L t∧(∀y∈(fw L t).wt,y∈L.wt∧y.who≠t)∧(∀y∈L.wt,y∈(fw L t).wt∨y.who∈o9 L t∨y.who=t)∧(∀u∈o9 L t,u≠t∧∃y∈L.wt,y.who=u)∧(fw L t).sh=L.sh∧(fw L t).ld.l.length=L.ld.l.length:=by
  have hg:∀{M:aY} {cC:List Hd} {to:List Int},pe (cV L t) M L.ho to cC→M.ho=L.ho++cC∧cC.map (·.t)=to∧(∀y∈M.wt,y∈L.wt∧y.who≠t)∧(∀y∈L.wt,y∈M.wt∨y.who∈to∨y.who=t)∧(∀u∈to,u≠t∧∃y∈L.wt,y.who=u)∧M.sh=L.sh∧M.ld.l.length=L.ld.l.length:=fun {M cC to} h=>by
    refine ⟨h.ho,h.tq,fun y hy=>pq.1 (h.w1 y hy),fun y hy=>?_,fun u hu=>?_,h.sh,h.ln⟩
    · by_cases c:y.who=t
      · exact .inr (.inr c)
      · rcases h.w2 y (pq.2 ⟨hy,c⟩) with q|q
        · exact .inl q
        · exact .inr (.inl q)
    · obtain ⟨y,hy,rfl⟩:=h.ti u hu
      have:=pq.1 hy;exact⟨this.2,y,this.1,rfl⟩
  unfold fw o9
  rw [if_pos ht]
  by_cases c:kO L=true∧wj (cV L t).wt 1=0
  · rw [if_pos c,if_pos ⟨ht,c⟩];exact⟨_,hg (pe.Ki (L:=cV L t) 0 8).settle⟩
  · rw [if_neg c,if_neg (fun q=>c q.2)];exact⟨_,hg (pe.none (L:=cV L t) (M:=cV L t) rfl rfl rfl).settle⟩
/-! tasks -/
theorem fK {x:aC} {t:Nat} (ht:t<x.ts.length) (y:iN) (j:Nat):cY (dk x t y) j=aP (cY x) t y.st j:=by
  show (gT (dk x t y) j).st=_;rw [fD ht];unfold aP;split<;>rfl
theorem jn {x:aC} {t:Nat} (ht:t<x.ts.length) (y:iN) (j:Nat):ek (dk x t y) j=aP (ek x) t y.co j:=by
  show (gT (dk x t y) j).co=_;rw [fD ht];unfold aP;split<;>rfl
theorem ju {x:aC} {t:Nat} (ht:t<x.ts.length) (y:iN) (j:Nat):eM (dk x t y) j=aP (eM x) t y.lk j:=by
  show (gT (dk x t y) j).lk=_;rw [fD ht];unfold aP;split<;>rfl
structure MQ (E:Nat→Prop) (x:aC):Prop where
  q:QC x.ts.length x.cs (cY x) (ek x)
  l:LC x.ts.length x.lk (cY x) (eM x) E
theorem MI.N3 {k:Nat} {x:aC} (h:MI k x):∀l,l<x.lk.length→gW (lz x.ts.length) (qg x.lk l):=fun l hl=>(h.li l hl).i
section
variable {k:Nat} {x:aC} {E:Nat→Prop} (hI:MI k x) (h:MQ E x)
include h
theorem MQ.mono {E':Nat→Prop} (he:∀t,t<x.ts.length→cY x t=4→E t→E' t):MQ E' x:=⟨h.q,h.l.mono he⟩
theorem MQ.kc (a t l n:Int):MQ E (ba x a t l n):=⟨h.q,h.l⟩
theorem MQ.cut (t:Nat):MQ E (du x t):=⟨h.q,h.l⟩
theorem MQ.gr (g:Gr):MQ E {x with g:=g} :=⟨h.q,h.l⟩
include hI
theorem MQ.up {t:Nat} (ht:t<x.ts.length) {y:iN} (h1:y.st=(gT x t).st) (h2:y.co=(gT x t).co) (h3:y.lk=(gT x t).lk):MQ E (dk x t y):=by
  have e1:∀j,cY (dk x t y) j=cY x j:=fun j=>by rw [fK ht,h1];exact aR _ _ _
  have e2:∀j,ek (dk x t y) j=ek x j:=fun j=>by rw [jn ht,h2];exact aR _ _ _
  have e3:∀j,eM (dk x t y) j=eM x j:=fun j=>by rw [ju ht,h3];exact aR _ _ _
  refine ⟨?_,?_⟩
  · rw [bt];exact h.q.ext hI.ci (fun j _=>e1 j) (fun j _=>e2 j)
  · rw [bt];exact h.l.ext hI.N3 (fun j _=>e1 j) (fun j _=>e3 j)
theorem MQ.inc {t:Nat} (ht:t<x.ts.length):MQ E (bJ x t):=h.up hI ht rfl rfl rfl
theorem MQ.Dc {t:Nat} (ht:t<x.ts.length) (hs:cY x t≠1∧cY x t≠2) (hw:∀l,l<x.lk.length→∀y∈(gL x l).wt,y.who.toNat≠t):MQ (fun j=>E j∧j≠t) (fe x t):=by
  have p8:=(hI.Dc ht).ci;have hl:(fe x t).ts.length=x.ts.length:=bt ..;rw [hl] at p8;refine ⟨?_,?_⟩
  · rw [hl]
    exact(h.q.add hI.ci hs _ _).ext p8 (fun j _=>fK ht _ j) (fun j _=>(jn ht (KJ (gT x t)) j).trans (aR _ _ _))
  · rw [hl]
    have hi:=(hI.Dc ht).N3;rw [hl] at hi;exact(h.l.PO (s:=1) (by decide) hw (fun q=>by cases q) (-1)).ext hi (fun j _=>fK ht _ j) (fun j _=>ju ht _ j)
end
theorem NO {x:aC} {t:Nat} (ht:t<x.ts.length) {v:Vw} {hs:Nat→List Hd} (hv:QX v ((Qq x hs).put t (v.hw t) (v.lo t) (ek x t))) (lo:Int):QX (v.put t 1 lo (v.co t)) (Qq (fe x t) hs):=by
  have hn:v.n=x.ts.length:=hv.n;refine ⟨hv.n.trans (bt ..).symm,hv.nl,hv.cr,hv.sh,fun j hj=>?_,fun j hj h4=>?_,fun j hj=>?_,hv.hs⟩
  · show aP v.hw t 1 j=cY (fe x t) j
    rw [show cY (fe x t) j=aP (cY x) t 1 j from fK ht _ j]
    by_cases e:t=j
    · rw [←e,bG,bG]
    · rw [bf v.hw _ e,bf (cY x) _ e,hv.hw j hj];exact bf _ _ e
  · have h4:aP v.hw t 1 j=4:=h4
    show aP v.lo t lo j=eM (fe x t) j
    rw [show eM (fe x t) j=aP (eM x) t (-1) j from ju ht _ j]
    by_cases e:t=j
    · rw [←e,bG] at h4;cases h4
    · rw [bf v.hw _ e] at h4
      rw [bf v.lo _ e,bf (eM x) _ e,hv.lo j hj h4];exact bf _ _ e
  · show aP v.co t (v.co t) j=ek (fe x t) j
    rw [show ek (fe x t) j=aP (ek x) t (ek x t) j from jn ht _ j,aR,aR,hv.co j hj]
    show aP (ek x) t (ek x t) j=_;exact aR _ _ _
theorem Lz {w0:ck} {x:aC} {t:Nat} (ht:t<x.ts.length) {v:Vw} {hs:Nat→List Hd} (h:AV w0 x.ev x.now v) (hv:QX v ((Qq x hs).put t (v.hw t) (v.lo t) (ek x t))) (hh:v.hw t=3∨v.hw t=6∨v.hw t=7):AV w0 (fe x t).ev (fe x t).now (Qq (fe x t) hs):=by
  have hn:v.n=x.ts.length:=hv.n;have hc:v.co t=ek x t:=(hv.co t om).trans (bG ..);have q:=(h.YF (t:=t) om hh).eqv (NO (hs:=hs) ht hv _);rw [hc] at q;exact q
/-! a lock is given -/
theorem FV {x:aC} {t:Nat} (ht:t<x.ts.length) (j:Nat):cY (bJ x t) j=cY x j∧ek (bJ x t) j=ek x j∧eM (bJ x t) j=eM x j:=
  ⟨(fK ht _ j).trans (aR _ _ _),(jn ht _ j).trans (aR _ _ _),(ju ht _ j).trans (aR _ _ _)⟩
theorem QB {L:aY} (h:pg L) {told cC:List Hd} {g:Hd} (e:L.ho=told++g::cC):(∀k∈told,k.t≠g.t)∧((vB L.sh g=true∧∀k∈told,vB L.sh k=true)∨told=[]):=by
  have hd:=h.hd;rw [e,List.map_append,List.nodup_append] at hd;refine ⟨fun k hk q=>hd.2.2 k.t (List.mem_map_of_mem hk) g.t (List.mem_map.2 ⟨g,List.mem_cons_self ..,rfl⟩) q,?_⟩;cases hs:L.sh with
  |false=>
    have:=h.ex hs;rw [e,List.length_append,List.length_cons] at this;exact .inr (List.eq_nil_of_length_eq_zero om)
  |true=>
    rcases h.rd hs with q|q
    · rw [e] at q
      exact .inl ⟨by unfold vB;rw [decide_eq_true (q g (by simp))];rfl,fun k hk=>by unfold vB;rw [decide_eq_true (q k (by simp [hk]))];rfl⟩
    · rw [e,List.length_append,List.length_cons] at q
      exact .inr (List.eq_nil_of_length_eq_zero om)
theorem ra (l:Nat) (x:aC) (t:Nat):py l x (t:Int)=fe (du (bJ (ba x 4 t l (dD (gL x l) t)) t) t) t:=by unfold py;rw [Int.toNat_natCast]
theorem RX {w0:ck} {E:Nat→Prop} {k l:Nat} {x:aC} (hI:MI k x) (h:MQ E x) (hl:l<x.lk.length) {told cC:List Hd} {g:Hd} (e:(gL x l).ho=told++g::cC) (h4:cY x g.t.toNat=4∧eM x g.t.toNat=(l:Int)) (hA:AV w0 x.ev x.now ((jI x).hd l told)):
    MQ (fun j=>E j∧j≠g.t.toNat) (py l x g.t)∧AV w0 (py l x g.t).ev (py l x g.t).now ((jI (py l x g.t)).hd l (told++ [g])):=by
  have hL:=hI.li l hl;have Rm:g∈(gL x l).ho:=by rw [e];simp
  have jC:=hL.i.ho g Rm
  unfold lz at jC
  obtain ⟨t,UQ⟩:∃t:Nat,g.t=(t:Int):=⟨g.t.toNat,by omega⟩
  have ht:t<x.ts.length:=by omega
  rw [UQ,Int.toNat_natCast] at h4;rw [UQ];obtain ⟨fH,hc⟩:=QB hL.w.topg e
  have UI:∀j,j<x.lk.length→∀y∈(gL x j).wt,y.who.toNat≠t:=fun j hj y hy q=>by
    have h1:=h.l.wt j hj y hy;rw [q] at h1;have h0:=(hI.li j hj).i.wt y hy;unfold lz at h0;have:j=l:=by have:=h1.2.symm.trans h4.2;omega
    subst this;exact hL.w.dj y hy g Rm om
  have hH:dD (gL x l) t=nO (gL x l).sh g:=by rw [←UQ];exact Ig hL.w.hd Rm
  have Pe:=hA.jz (t:=t) (l:=l) (g:=g) ht hl UQ (by rw [show ((jI x).hd l told).hs l=told from bG ..];exact fun k hk=>by rw [←UQ];exact fH k hk) (by rw [show ((jI x).hd l told).hs l=told from bG ..];exact hc) h4.1 h4.2;rw [show ((jI x).hd l told).hs l=told from bG ..] at Pe
  -- the task aix back
  have oE:=(hI.kc 4 t l (dD (gL x l) t)).inc (t:=t) ht;have p8:=oE.cut (t:=t) (by rw [show (bJ (ba x 4 t l (dD (gL x l) t)) t).ts.length=x.ts.length from bt ..];exact ht);have hQ2:=((h.kc 4 t l (dD (gL x l) t)).inc (hI.kc 4 t l (dD (gL x l) t)) (t:=t) ht).cut t;have hlen:(du (bJ (ba x 4 t l (dD (gL x l) t)) t) t).ts.length=x.ts.length:=bt ..;have hF:=fun j=>FV (x:=ba x 4 t l (dD (gL x l) t)) ht j
  have ab7:∀j,cY (py l x t) j=aP (cY x) t 1 j:=fun j=>by
    rw [ra,show cY (fe (du (bJ (ba x 4 t l (dD (gL x l) t)) t) t) t) j=aP (cY (bJ (ba x 4 t l (dD (gL x l) t)) t)) t 1 j from fK (x:=du (bJ (ba x 4 t l (dD (gL x l) t)) t) t) (by rw [hlen];exact ht) _ j]
    unfold aP;split;rfl;exact(hF j).1
  have abJ:∀j,eM (py l x t) j=aP (eM x) t (-1) j:=fun j=>by
    rw [ra,show eM (fe (du (bJ (ba x 4 t l (dD (gL x l) t)) t) t) t) j=aP (eM (bJ (ba x 4 t l (dD (gL x l) t)) t)) t (-1) j from ju (x:=du (bJ (ba x 4 t l (dD (gL x l) t)) t) t) (by rw [hlen];exact ht) _ j]
    unfold aP;split;rfl;exact(hF j).2.2
  have ad3:∀j,ek (py l x t) j=ek x j:=fun j=>by
    rw [ra,show ek (fe (du (bJ (ba x 4 t l (dD (gL x l) t)) t) t) t) j=aP (ek (bJ (ba x 4 t l (dD (gL x l) t)) t)) t (ek (bJ (ba x 4 t l (dD (gL x l) t)) t) t) j from jn (x:=du (bJ (ba x 4 t l (dD (gL x l) t)) t) t) (by rw [hlen];exact ht) _ j,aR];exact(hF j).2.1
  refine ⟨?_,?_⟩
  · rw [ra,Int.toNat_natCast];exact hQ2.Dc p8 (by rw [hlen];exact ht) (by rw [show cY (du (bJ (ba x 4 t l (dD (gL x l) t)) t) t) t=cY x t from (hF t).1,h4.1];decide) UI
  · have ZI:=(Pe.YF (t:=t) ht (.inr (.inl (bG ..)))).eqv (u:=((jI (py l x t)).hd l (told++ [g]))) ?_
    · have e1:((((jI x).hd l told).hd l (told++ [g])).put t 6 (((jI x).hd l told).lo t) (((jI x).hd l told).co t)).co t=ek x t:=bG ..
      rw [e1] at ZI;have e2:(gT (du (bJ (ba x 4 t l (dD (gL x l) t)) t) t) t).co=ek x t:=(hF t).2.1
      have e3:(py l x t).ev=x.ev++ [⟨x.now,4,t,l,nO (gL x l).sh g⟩] ++ [⟨x.now,7,t,-1,ek x t⟩] :=by
        rw [ra]
        show (x.ev++ [(⟨x.now,4,t,l,dD (gL x l) t⟩:fu)])++ [(⟨x.now,7,t,-1,(gT (du (bJ (ba x 4 t l (dD (gL x l) t)) t) t) t).co⟩:fu)] =_
        rw [hH,←hH,e2]
      rw [e3];exact ZI
    · refine ⟨(zt l x t).symm,rfl,rfl,fun _ _=>rfl,fun j hj=>?_,fun j hj q4=>?_,fun j hj=>?_,fun j hj m=>?_⟩
      · show aP (aP (cY x) t 6) t 1 j=cY (py l x t) j
        rw [ab7];unfold aP;split<;>rfl
      · have q4:aP (aP (cY x) t 6) t 1 j=4:=q4
        show aP (aP (eM x) t _) t _ j=eM (py l x t) j
        rw [abJ]
        by_cases c:t=j
        · rw [←c,bG] at q4;cases q4
        · rw [bf _ _ c,bf _ _ c,bf _ _ c]
      · show aP (aP (ek x) t (ek x t)) t _ j=ek (py l x t) j
        rw [ad3]
        by_cases c:t=j
        · rw [←c,bG];exact bG ..
        · rw [bf _ _ c,bf _ _ c]
      · show m∈aP (aP (fun l=>(gL x l).ho) l told) l (told++ [g]) j↔m∈aP (fun l=>(gL x l).ho) l (told++ [g]) j
        unfold aP;split<;>exact Iff.rfl
theorem IG {w0:ck} {l:Nat} :∀(cC told:List Hd) {E:Nat→Prop} {k:Nat} {x:aC},MI k x→MQ (fun j=>E j∨(j:Int)∈cC.map (·.t)) x→l<x.lk.length→(gL x l).ho=told++cC→(∀g∈cC,cY x g.t.toNat=4∧eM x g.t.toNat=(l:Int))→AV w0 x.ev x.now ((jI x).hd l told)→
    MQ E (o4 l x (cC.map (·.t)))∧AV w0 (o4 l x (cC.map (·.t))).ev (o4 l x (cC.map (·.t))).now (jI (o4 l x (cC.map (·.t))))
  | [],told,E,k,x,hI,hQ,hl,e,h4,hA=>by
    refine ⟨hQ.mono (fun t _ _ q=>q.resolve_right (by simp)),hA.eqv ⟨rfl,rfl,rfl,fun _ _=>rfl,fun _ _=>rfl,fun _ _ _=>rfl,fun _ _=>rfl,fun j hj m=>?_⟩⟩
    show m∈aP (fun l=>(gL x l).ho) l told j↔m∈(gL x j).ho
    unfold aP;split
    · next c=>rw [←c,e,List.append_nil]
    · exact Iff.rfl
  |g::cC,told,E,k,x,hI,hQ,hl,e,h4,hA=>by
    have hL:=hI.li l hl;have Rm:g∈(gL x l).ho:=by rw [e];simp
    have jC:=hL.i.ho g Rm;obtain ⟨q1,q2⟩:=RX hI hQ hl e (h4 g (List.mem_cons_self ..)) hA;have oE:=hI.py l jC;have hd:=hL.w.hd;rw [e,List.map_append,List.nodup_append,List.map_cons,List.nodup_cons] at hd;have eb:∀m∈cC,g.t≠m.t:=fun m hm q=>hd.2.1.1 (List.mem_map.2 ⟨m,hm,q.symm⟩)
    unfold lz at jC
    have er:∀m∈cC,cY (py l x g.t) m.t.toNat=4∧eM (py l x g.t) m.t.toNat=(l:Int):=fun m hm=>by
      have ML:=hL.i.ho m (by rw [e];simp [hm]);unfold lz at ML;have:=Jh l x (u:=g.t) (t:=m.t.toNat) (by have:=eb m hm;omega)
      show (gT _ _).st=4∧(gT _ _).lk=_
      rw [this];exact h4 m (List.mem_cons_of_mem _ hm)
    refine IG cC (told++ [g]) oE (q1.mono (fun t ht _ q=>?_)) hl (by rw [List.append_assoc];exact e) er q2;rcases q.1 with r|r
    · exact .inl r
    · rw [List.map_cons,List.mem_cons] at r
      rcases r with r|r
      · exact absurd (by rw [←r,Int.toNat_natCast]) q.2
      · exact .inr r
theorem yQ {w0:ck} {l:Nat} {cC told:List Hd} {to:List Int} {E:Nat→Prop} {k:Nat} {x:aC} (hI:MI k x) (hQ:MQ (fun j=>E j∨(j:Int)∈to) x) (hl:l<x.lk.length) (e:(gL x l).ho=told++cC) (et:cC.map (·.t)=to) (h4:∀t∈to,cY x t.toNat=4∧eM x t.toNat=(l:Int)) (hA:AV w0 x.ev x.now ((jI x).hd l told)):
    MQ E (dz x l to)∧AV w0 (dz x l to).ev (dz x l to).now (jI (dz x l to)):=by
  subst et;obtain ⟨q1,q2⟩:=IG cC told hI hQ hl e (fun g hg=>h4 g.t (List.mem_map_of_mem hg)) hA;exact⟨q1.gr _,q2⟩
def RB:Nat→Prop:=fun _=>False
def Up (x:aC) (t:Nat):Prop:=∀l,l<x.lk.length→∀y∈(gL x l).wt,y.who.toNat≠t
theorem MQ.Uo {E:Nat→Prop} {x:aC} (h:MQ E x) {t:Nat} (ht:cY x t≠4):Up x t:=fun l hl y hy e=>ht (by rw [←e];exact(h.l.wt l hl y hy).1)
theorem gV {x:aC} {l:Nat} (hl:l<x.lk.length) (M:aY) (j:Nat):gL (bh x l M) j=if l=j then M else gL x j:=bK (qs:=x.lk) hl M j
theorem Od (x:aC) (l:Nat):QX (jI x) ((jI x).hd l (gL x l).ho):=⟨rfl,rfl,rfl,fun _ _=>rfl,fun _ _=>rfl,fun _ _ _=>rfl,fun _ _=>rfl,fun j _ g=>by
  show g∈(gL x j).ho↔g∈aP (fun l=>(gL x l).ho) l (gL x l).ho j
  rw [show aP (fun l=>(gL x l).ho) l (gL x l).ho j=(gL x j).ho from aR (fun l=>(gL x l).ho) l j]⟩
theorem yh {x:aC} {l:Nat} (hl:l<x.lk.length) {M:aY} (hs:M.sh=(gL x l).sh) {f told:List Hd} (hf:∀g,g∈f↔g∈told):QX ((jI x).hd l f) ((jI (bh x l M)).hd l told):=by
  refine ⟨rfl,(cA x l M).symm,rfl,fun j hj=>?_,fun _ _=>rfl,fun _ _ _=>rfl,fun _ _=>rfl,fun j hj g=>?_⟩
  · show (gL x j).sh=(gL (bh x l M) j).sh
    rw [gV hl];split
    · next e=>rw [hs,e]
    · rfl
  · show g∈aP (fun i=>(gL x i).ho) l f j↔g∈aP (fun i=>(gL (bh x l M) i).ho) l told j
    unfold aP;split
    · exact hf g
    · next e=>show g∈(gL x j).ho↔g∈(gL (bh x l M) j).ho;rw [gV hl,if_neg e]
section
variable {x:aC} {E:Nat→Prop} (h:MQ E x)
include h
theorem MQ.put {l:Nat} (hl:l<x.lk.length) {M:aY} {E':Nat→Prop} {told cC:List Hd} (hw:∀y∈M.wt,y∈(gL x l).wt) (hE:∀t,E t→E' t) (hn:∀y∈(gL x l).wt,y∈M.wt∨E' y.who.toNat) (ho:M.ho=told++cC) (ht:∀g∈told,g∈(gL x l).ho) (hp:∀g∈cC,∃y∈(gL x l).wt,y.who=g.t):MQ E' (bh x l M):=by
  refine ⟨h.q,h.l.put hl hw hE (fun y hy=>?_) (fun g hg=>?_)⟩
  · rcases hn y hy with q|q
    · exact .inl ⟨y,q,rfl⟩
    · exact .inr q
  · rw [ho] at hg
    rcases List.mem_append.1 hg with q|q
    · exact h.l.h5 l hl g (ht g q)
    · obtain ⟨y,hy,e⟩:=hp g q
      have:=(h.l.wt l hl y hy).1;rw [e] at this;rw [this];decide
end
theorem Fc {w0:ck} {k:Nat} {x:aC} {E:Nat→Prop} {l t:Nat} {M:aY} {to:List Int} {cC:List Hd} (hI:MI k x) (h:MQ E x) (hl:l<x.lk.length) (hM:LI x.ts.length k M) (ht:t<x.ts.length) (hh:bd (gL x l) t=true) (hA:AV w0 x.ev x.now (jI x)) (hT:pe (gL x l) M ((gL x l).ho.eraseIdx (ff (gL x l).ho t)) to cC) {kd:Int} (hk:(kd=5∧cY x t=2)∨(kd=12∧cY x t≠5)):
    MQ E (dz (bh (ba x kd t l 0) l M) l to)∧AV w0 (dz (bh (ba x kd t l 0) l M) l to).ev (dz (bh (ba x kd t l 0) l M) l to).now (jI (dz (bh (ba x kd t l 0) l M) l to)):=by
  have hL:=hI.li l hl;have hd:=hL.w.hd;have lj:∀g∈(gL x l).ho.eraseIdx (ff (gL x l).ho t),g∈(gL x l).ho:=fun g hg=>List.mem_of_mem_eraseIdx hg;have hE:=fun g=>xh hd (t:=(t:Int)) hh g
  have Pe:=hA.lets (t:=t) (l:=l) ht hl hk (by
    obtain ⟨g,hg,e⟩:=List.any_eq_true.1 hh;exact⟨g,hg,of_decide_eq_true e⟩)
  have oE:=(hI.kc kd t l 0).bh (l:=l) (hM.mono (Nat.le_refl _) (Nat.le_succ k));have hpd:∀u∈to,∃y∈(gL x l).wt,y.who=u:=hT.ti
  have Xi:MQ (fun j=>E j∨(j:Int)∈to) (bh (ba x kd t l 0) l M):=MQ.put (h.kc kd t l 0) hl hT.w1 (fun _ q=> .inl q) (fun y hy=>by
    rcases hT.w2 y hy with q|q
    · exact .inl q
    · have h0:=hL.i.wt y hy;unfold lz at h0
      exact .inr (.inr (by rw [show ((y.who.toNat:Nat):Int)=y.who by omega];exact q))) hT.ho lj (fun g hg=>hpd g.t (by rw [←hT.tq];exact List.mem_map_of_mem hg))
  have gZ:l<(bh (ba x kd t l 0) l M).lk.length:=by rw [show (bh (ba x kd t l 0) l M).lk.length=x.lk.length from cA ..];exact hl
  refine yQ oE Xi gZ (told:=(gL x l).ho.eraseIdx (ff (gL x l).ho t)) (cC:=cC) (by rw [show gL (bh (ba x kd t l 0) l M) l=M from (gV (x:=ba x kd t l 0) hl M l).trans (if_pos rfl)];exact hT.ho) hT.tq (fun u hu=>?_) ?_
  · obtain ⟨y,hy,rfl⟩:=hpd u hu;exact h.l.wt l hl y hy
  · exact(Pe.eqv (yh (x:=x) hl hT.sh (fun g=>(hE g).symm)):_)
theorem E3 {k:Nat} {x:aC} {E:Nat→Prop} {l t:Nat} (hI:MI k x) (h:MQ E x) (hl:l<x.lk.length) (hw:bY (gL x l) t=true):MQ (fun j=>(E j∨j=t)∨(j:Int)∈o9 (gL x l) t) (bh x l (fw (gL x l) t)):=by
  obtain ⟨cC,e1,e2,e3,e4,e5,e6,e7⟩:=pe.lv hw;have hL:=hI.li l hl;refine MQ.put h hl (told:=(gL x l).ho) (cC:=cC) (fun y hy=>(e3 y hy).1) (fun _ q=> .inl (.inl q)) (fun y hy=>?_) e1 (fun _ q=>q) (fun g hg=>(e5 g.t (by rw [←e2];exact List.mem_map_of_mem hg)).2);have h0:=hL.i.wt y hy;unfold lz at h0;rcases e4 y hy with q|q|q
  · exact .inl q
  · exact .inr (.inr (by rw [show ((y.who.toNat:Nat):Int)=y.who by omega];exact q))
  · exact .inr (.inl (.inr om))
theorem Bb {L:aY} {t:Int} (h:∃y∈L.wt,y.who=t):bY L t=true:=by
  obtain ⟨y,hy,e⟩:=h;exact List.any_eq_true.2 ⟨y,hy,decide_eq_true e⟩
theorem SK {w0:ck} {k:Nat} {x:aC} {t:Nat} (hI:MI k x) (h:MQ RB x) (ht:t<x.ts.length) (hA:AV w0 x.ev x.now (jI x)):
    MQ (fun j=>j=t) (qx x t)∧AV w0 (qx x t).ev (qx x t).now (jI (qx x t))∧Up (qx x t) t∧cY (qx x t) t=cY x t:=by
  unfold qx
  split
  · next e=>
    have hlr:=(hI.tb t ht).l4 e;obtain ⟨l,hle⟩:∃l:Nat,(gT x t).lk=(l:Int):=⟨(gT x t).lk.toNat,by omega⟩
    have hl:l<x.lk.length:=by rw [hI.ll];omega
    rw [hle,Int.toNat_natCast];have hL:=hI.li l hl;obtain ⟨y,hy,ey⟩:=h.l.s4 t ht e (fun q=>q);have hy:y∈(gL x l).wt:=by rw [show (eM x t).toNat=l by show (gT x t).lk.toNat=l;omega] at hy;exact hy
    have hw:bY (gL x l) t=true:=Bb ⟨y,hy,ey⟩;obtain ⟨cC,e1,e2,e3,e4,e5,e6,e7⟩:=pe.lv hw;have oE:=hI.bh (l:=l) (hL.lv t);have Xi:=(E3 hI h hl hw).mono (E':=fun j=>j=t∨(j:Int)∈o9 (gL x l) t) (fun j _ _ q=>by rcases q with (q|q)|q;exact q.elim;exact .inl q;exact .inr q);have gZ:l<(bh x l (fw (gL x l) t)).lk.length:=by rw [cA];exact hl
    have hg:gL (bh x l (fw (gL x l) t)) l=fw (gL x l) t:=(gV hl _ l).trans (if_pos rfl);have Pe:=(hA.eqv (Od x l)).eqv (yh hl e6 (told:=(gL x l).ho) (fun g=>Iff.rfl))
    have q:=yQ oE Xi gZ (told:=(gL x l).ho) (cC:=cC) (by rw [hg];exact e1) e2 (fun u hu=>by
      obtain ⟨_,z,hz,rfl⟩:=e5 u hu;exact h.l.wt l hl z hz) Pe
    refine ⟨q.1,q.2,fun j hj z hz=>?_,?_⟩
    · rw [(cN l (bh x l (fw (gL x l) t)) (o9 (gL x l) t)).2.1,cA] at hj
      have hz:z∈(gL (bh x l (fw (gL x l) t)) j).wt:=by
        have:=(cN l (bh x l (fw (gL x l) t)) (o9 (gL x l) t)).2.1
        unfold gL at hz ⊢;rw [this] at hz;exact hz
      rw [gV hl] at hz
      by_cases c:l=j
      · rw [if_pos c] at hz
        have h0:=hL.i.wt z (e3 z hz).1;unfold lz at h0;have:=(e3 z hz).2;omega
      · rw [if_neg c] at hz
        intro q;have:=(h.l.wt j hj z hz).2;rw [q] at this;exact c (by have:(gT x t).lk=(j:Int):=this;omega)
    · show (gT (o4 _ _ _) t).st=_
      rw [vf l _ _ (fun u hu=>by
        obtain ⟨h1,z,hz,rfl⟩:=e5 u hu;have h0:=hL.i.wt z hz;unfold lz at h0;omega)];rfl
  · next e=>
    exact⟨h.mono (fun _ _ _ q=>q.elim),hA,h.Uo e,rfl⟩
theorem Sn {w0:ck} {k:Nat} {x:aC} {t l:Nat} (hI:MI k x) (h:MQ (fun j=>j=t) x) (ht:t<x.ts.length) (hl:l<x.lk.length) (hw:Up x t) (h5:cY x t≠5) (hA:AV w0 x.ev x.now (jI x)):
    MQ (fun j=>j=t) (r5 t x l)∧AV w0 (r5 t x l).ev (r5 t x l).now (jI (r5 t x l))∧Up (r5 t x l) t∧cY (r5 t x l) t=cY x t∧(∀j,j<x.lk.length→(j=l∨∀g∈(gL x j).ho,g.t≠(t:Int))→∀g∈(gL (r5 t x l) j).ho,g.t≠(t:Int)):=by
  unfold r5
  split
  · next e=>
    have hL:=hI.li l hl
    have Pc:bY (gL x l) t=false:=by
      cases c:bY (gL x l) t with
      |false=>rfl
      |true=>
        obtain ⟨y,hy,q⟩:=List.any_eq_true.1 c;exact absurd (by rw [of_decide_eq_true q];rfl) (hw l hl y hy)
    obtain ⟨cC,hT⟩:=pe.die Pc e;obtain ⟨q1,q2⟩:=Fc hI h hl (hL.die t) ht e hA hT (kd:=12) (.inr ⟨rfl,h5⟩)
    have tI:∀j,gL (dz (bh (ba x 12 t l 0) l (rk (gL x l) t)) l (ua (gL x l) t)) j=if l=j then rk (gL x l) t else gL x j:=fun j=>by
      have:=(cN l (bh (ba x 12 t l 0) l (rk (gL x l) t)) (ua (gL x l) t)).2.1
      unfold gL;rw [this];exact gV (x:=ba x 12 t l 0) hl _ j
    have A1:(dz (bh (ba x 12 t l 0) l (rk (gL x l) t)) l (ua (gL x l) t)).lk.length=x.lk.length:=by
      rw [(cN l (bh (ba x 12 t l 0) l (rk (gL x l) t)) (ua (gL x l) t)).2.1];exact cA ..
    have Cp:∀u∈ua (gL x l) t,u.toNat≠t:=fun u hu=>by
      obtain ⟨y,hy,rfl⟩:=hT.ti u hu;exact hw l hl y hy
    refine ⟨q1,q2,fun j hj z hz=>?_,?_,fun j hj hc g hg=>?_⟩
    · rw [A1] at hj;rw [tI] at hz
      by_cases c:l=j
      · rw [if_pos c] at hz;exact hw l hl z (hT.w1 z hz)
      · rw [if_neg c] at hz;exact hw j hj z hz
    · show (gT (o4 _ _ _) t).st=_
      rw [vf l _ _ Cp];rfl
    · rw [tI] at hg
      by_cases c:l=j
      · rw [if_pos c,hT.ho] at hg
        rcases List.mem_append.1 hg with q|q
        · have:=(xh hL.w.hd e g).1 q
          exact of_decide_eq_true (List.mem_filter.1 this).2
        · have:=Cp g.t (by rw [←hT.tq];exact List.mem_map_of_mem q)
          intro r;rw [r] at this;exact this rfl
      · rw [if_neg c] at hg
        exact hc.resolve_left (fun q=>c q.symm) g hg
  · next e=>
    refine ⟨h,hA,hw,rfl,fun j hj hc g hg=>?_⟩;rcases hc with rfl|hc
    · exact qj (by simpa using e) g hg
    · exact hc g hg
theorem IM {w0:ck} {k:Nat} {x:aC} {t:Nat} (hI:MI k x) (h:MQ (fun j=>j=t) x) (ht:t<x.ts.length) (hw:Up x t) (h5:cY x t≠5) (hA:AV w0 x.ev x.now (jI x)):∀{n:Nat},n≤x.lk.length→
    MQ (fun j=>j=t) (pF t x n)∧AV w0 (pF t x n).ev (pF t x n).now (jI (pF t x n))∧Up (pF t x n) t∧cY (pF t x n) t=cY x t∧(∀j,j<n→∀g∈(gL (pF t x n) j).ho,g.t≠(t:Int))
  |0,_=>⟨h,hA,hw,rfl,fun j hj=>absurd hj (Nat.not_lt_zero j)⟩
  |n+1,hn=>by
    obtain ⟨a1,a2,a3,a4,a5⟩:=IM hI h ht hw h5 hA (n:=n) om;have hs:=kZ t x n;rw [kD];obtain ⟨b1,b2,b3,b4,b5⟩:=Sn (hI.pF t (n:=n) om) a1 (by rw [hs.1];exact ht) (l:=n) (by rw [hs.2.1];omega) a3 (by rw [a4];exact h5) a2
    exact⟨b1,b2,b3,b4.trans a4,fun j hj=>b5 j (by rw [hs.2.1];omega) (by
      by_cases c:j=n
      · exact .inl c
      · exact .inr (a5 j om))⟩
theorem RH {w0:ck} {k:Nat} {x:aC} {t:Nat} (hI:MI k x) (h:MQ RB x) (ht:t<x.ts.length) (h5:cY x t≠5) (hA:AV w0 x.ev x.now (jI x)):
    MQ RB (kf x t)∧AV w0 (kf x t).ev (kf x t).now (jI (kf x t)):=by
  obtain ⟨a1,a2,a3,a4⟩:=SK hI h ht hA;have FA:=qX x t;have oE:=hI.yW ht;obtain ⟨b1,b2,b3,b4,b5⟩:=IM (x:=yW x t) oE (a1.cut t) (by rw [FA.1];exact ht) a3 (by show cY (qx x t) t≠5;rw [a4];exact h5) a2 (n:=x.lk.length) (by rw [FA.2.1];exact Nat.le_refl _);have p8:=oE.pF t (n:=x.lk.length) (by rw [FA.2.1];exact Nat.le_refl _);have rS:=kZ t (yW x t) x.lk.length;rw [zK,show D5 x t=eC (pF t (yW x t) x.lk.length) t from rfl]
  generalize hz:pF t (yW x t) x.lk.length=z at*
  have AZ:t<z.ts.length:=by rw [rS.1,FA.1];exact ht
  have VN:z.lk.length=x.lk.length:=rS.2.1.trans FA.2.1;have h5z:cY z t≠5:=by rw [b4];show cY (qx x t) t≠5;rw [a4];exact h5
  have iL:∀l,l<z.lk.length→∀g∈(gL z l).ho,g.t≠(t:Int):=fun l hl=>b5 l om;have hIq:MI _ (eC z t):=p8.qut t;have hIf:=(hIq.up (t:=t) AZ (hIq.tb t AZ).ded).kc 11 t (-1) 0;have hlen:(ba (dk (eC z t) t (tE (gT (eC z t) t))) 11 t (-1) 0).ts.length=z.ts.length:=bt ..;refine ⟨⟨?_,?_⟩,?_⟩
  · rw [hlen]
    have hc:=hIf.ci;rw [hlen] at hc;exact(b1.q.rem p8.ci (t:=t) (s:=5) (by decide)).ext hc (fun j _=>fK (x:=eC z t) AZ _ j) (fun j _=>(jn (x:=eC z t) AZ (tE (gT (eC z t) t)) j).trans (aR _ _ _))
  · rw [hlen]
    have hi:=hIf.N3;rw [hlen] at hi;refine ((b1.l.PO (t:=t) (s:=5) (by decide) b3 (fun _ l hl g hg e=>?_) (-1)).ext hi (fun j _=>fK (x:=eC z t) AZ _ j) (fun j _=>ju (x:=eC z t) AZ _ j)).mono (fun j _ _ q=>absurd q.1 q.2);have h0:=(p8.li l hl).i.ho g hg;unfold lz at h0;exact iL l hl g hg om
  · have q:=(b2.exit (t:=t) AZ h5z iL).eqv (u:=jI (ba (dk (eC z t) t (tE (gT (eC z t) t))) 11 t (-1) 0)) ?_
    · exact q
    · refine ⟨hlen.symm,rfl,rfl,fun _ _=>rfl,fun j _=>(fK (x:=eC z t) AZ (tE (gT (eC z t) t)) j).symm,fun j _ q4=>?_,fun j _=>?_,fun _ _ _=>Iff.rfl⟩
      · have q4:aP (cY z) t 5 j=4:=q4
        show aP (eM z) t _ j=eM (dk (eC z t) t (tE (gT (eC z t) t))) j
        rw [ju (x:=eC z t) AZ]
        by_cases c:t=j
        · rw [←c,bG] at q4;cases q4
        · rw [bf _ _ c,bf _ _ c];rfl
      · show aP (ek z) t _ j=ek (dk (eC z t) t (tE (gT (eC z t) t))) j
        rw [jn (x:=eC z t) AZ];rfl
theorem TG {w0:ck} {k:Nat} {x:aC} {t:Nat} (hI:MI k x) (h:MQ RB x) (ht:t<x.ts.length) (hA:AV w0 x.ev x.now (jI x)):
    MQ RB (o1 x t)∧AV w0 (o1 x t).ev (o1 x t).now (jI (o1 x t)):=by
  unfold o1
  split
  · exact⟨h,hA⟩
  next e0=>
  split
  · next e3=>
    refine ⟨(h.Dc hI ht (by rw [show cY x t=3 from e3];decide) (h.Uo (by rw [show cY x t=3 from e3];decide))).mono (fun _ _ _ q=>q.1),Lz ht hA ?_ (.inl e3)⟩;refine ⟨rfl,rfl,rfl,fun _ _=>rfl,fun j _=>(aR _ _ _).symm,fun j _ _=>(aR _ _ _).symm,fun j _=>(aR _ _ _).symm,fun _ _ _=>Iff.rfl⟩
  next e3=>
  have e4:cY x t=4:=((hI.tb t ht).un e0).resolve_left e3;have hlr:=(hI.tb t ht).l4 e4;obtain ⟨l,hle⟩:∃l:Nat,(gT x t).lk=(l:Int):=⟨(gT x t).lk.toNat,by omega⟩
  have hl:l<x.lk.length:=by rw [hI.ll];omega
  rw [hle,Int.toNat_natCast];have hL:=hI.li l hl;obtain ⟨y,hy,ey⟩:=h.l.s4 t ht e4 (fun q=>q);have hy:y∈(gL x l).wt:=by rw [show (eM x t).toNat=l by show (gT x t).lk.toNat=l;omega] at hy;exact hy
  have hw:bY (gL x l) t=true:=Bb ⟨y,hy,ey⟩;obtain ⟨cC,e1,e2,e3',e4',e5,e6,e7⟩:=pe.lv hw;have hQ0:=(E3 hI h hl hw).mono (E':=fun j=>j=t∨(j:Int)∈o9 (gL x l) t) (fun j _ _ q=>by rcases q with (q|q)|q;exact q.elim;exact .inl q;exact .inr q);have Vb:=hI.bh (l:=l) (hL.lv t);have oE:=Vb.kc 8 t l 10;have Xi:=hQ0.kc 8 t l 10;have Pe:=((hA.late (t:=t) (l:=l) ht e4 hle hl).eqv (u:=(Qq (bh x l (fw (gL x l) t)) (aP (fun j=>(gL (bh x l (fw (gL x l) t)) j).ho) l (gL x l).ho)).put t 7 (eM x t) (ek x t)) ?_)
  · generalize hz:ba (bh x l (fw (gL x l) t)) 8 t l 10=z at*
    have Zl:z.ts=x.ts:=by rw [←hz];rfl
    have hzl:z.lk=(bh x l (fw (gL x l) t)).lk:=by rw [←hz];rfl
    have hze:z.ev=x.ev++ [⟨x.now,8,t,l,10⟩] :=by rw [←hz];rfl
    have hzn:z.now=x.now:=by rw [←hz];rfl
    have HZ:z.s=x.s:=by rw [←hz];rfl
    have AZ:t<z.ts.length:=by rw [Zl];exact ht
    have p8:=(oE.inc AZ).cut (t:=t) (by rw [show (bJ z t).ts.length=z.ts.length from bt ..];exact AZ);have hQ2:=(Xi.inc oE AZ).cut t;have hF:=fun j=>FV AZ j;have UK:∀j,gT z j=gT x j:=fun j=>by unfold gT;rw [Zl]
    have XJ:t<(du (bJ z t) t).ts.length:=by rw [show (du (bJ z t) t).ts.length=z.ts.length from bt ..];exact AZ
    have Yu:cY (du (bJ z t) t) t=4:=(hF t).1.trans (by show (gT z t).st=4;rw [UK];exact e4);have VN:(du (bJ z t) t).lk.length=x.lk.length:=by show z.lk.length=_;rw [hzl];exact cA ..
    have vc:∀j,gL (du (bJ z t) t) j=if l=j then fw (gL x l) t else gL x j:=fun j=>by
      show z.lk.getD j default=_;rw [hzl];exact gV hl _ j
    have UI:∀j,j<(du (bJ z t) t).lk.length→∀y∈(gL (du (bJ z t) t) j).wt,y.who.toNat≠t:=fun j hj z' Nt=>by
      rw [VN] at hj;rw [vc] at Nt
      by_cases c:l=j
      · rw [if_pos c] at Nt
        have h0:=hL.i.wt z' (e3' z' Nt).1;unfold lz at h0;have:=(e3' z' Nt).2;omega
      · rw [if_neg c] at Nt
        intro q;have:=(h.l.wt j hj z' Nt).2;rw [q] at this;exact c (by have:(gT x t).lk=(j:Int):=this;omega)
    have hQ3:=hQ2.Dc p8 XJ (by rw [Yu];decide) UI;have hA3:=Lz (x:=du (bJ z t) t) XJ (v:=(Qq (bh x l (fw (gL x l) t)) (aP (fun j=>(gL (bh x l (fw (gL x l) t)) j).ho) l (gL x l).ho)).put t 7 (eM x t) (ek x t)) (hs:=aP (fun j=>(gL (bh x l (fw (gL x l) t)) j).ho) l (gL x l).ho) (by rw [hze.symm,hzn.symm] at Pe;exact Pe) ?_ (.inr (.inr (bG ..)))
    · have hlen:(fe (du (bJ z t) t) t).ts.length=x.ts.length:=by
        rw [show (fe (du (bJ z t) t) t).ts.length=(du (bJ z t) t).ts.length from bt ..,show (du (bJ z t) t).ts.length=z.ts.length from bt ..,Zl]
      have aer:gL (fe (du (bJ z t) t) t) l=fw (gL x l) t:=(vc l).trans (if_pos rfl);refine yQ (p8.Dc XJ) (hQ3.mono (fun j _ _ q=>?_)) (by show l<(du (bJ z t) t).lk.length;rw [VN];exact hl) (told:=(gL x l).ho) (cC:=cC) (by rw [aer];exact e1) e2 (fun u hu=>?_) (hA3.eqv ?_)
      · exact .inr (q.1.resolve_left q.2)
      · obtain ⟨h1,z',Nt,rfl⟩:=e5 u hu
        have h0:=hL.i.wt z' Nt;unfold lz at h0;have eb:t≠z'.who.toNat:=by omega
        have a1:cY (fe (du (bJ z t) t) t) z'.who.toNat=cY x z'.who.toNat:=(fK XJ _ _).trans ((bf _ _ eb).trans ((hF _).1.trans (by show (gT z _).st=_;rw [UK])));have a2:eM (fe (du (bJ z t) t) t) z'.who.toNat=eM x z'.who.toNat:=(ju XJ _ _).trans ((bf _ _ eb).trans ((hF _).2.2.trans (by show (gT z _).lk=_;rw [UK])));rw [a1,a2];exact h.l.wt l hl z' Nt
      · refine ⟨rfl,rfl,rfl,fun _ _=>rfl,fun _ _=>rfl,fun _ _ _=>rfl,fun _ _=>rfl,fun j _ g=>?_⟩
        show g∈aP (fun j=>(gL (bh x l (fw (gL x l) t)) j).ho) l (gL x l).ho j↔g∈aP (fun j=>(gL (fe (du (bJ z t) t) t) j).ho) l (gL x l).ho j
        unfold aP;split
        · exact Iff.rfl
        · next c=>show g∈(gL (bh x l (fw (gL x l) t)) j).ho↔g∈(gL (du (bJ z t) t) j).ho;rw [vc,if_neg c,gV hl,if_neg c]
    · have hn:((Qq (bh x l (fw (gL x l) t)) (aP (fun j=>(gL (bh x l (fw (gL x l) t)) j).ho) l (gL x l).ho)).put t 7 (eM x t) (ek x t)).hw t=7:=bG ..
      refine ⟨by show x.ts.length=(du (bJ z t) t).ts.length;rw [show (du (bJ z t) t).ts.length=z.ts.length from bt ..,Zl],(cA ..).trans VN.symm,by show x.s.cr=z.s.cr;rw [HZ],fun j _=>by show (gL (bh x l (fw (gL x l) t)) j).sh=(gL (du (bJ z t) t) j).sh;rw [vc,gV hl],fun j _=>?_,fun j _ _=>?_,fun j _=>?_,fun _ _ _=>Iff.rfl⟩
      · show aP (cY x) t 7 j=aP (cY (bJ z t)) t _ j
        rw [hn];unfold aP;split;rfl;rw [(hF j).1];show _=(gT z j).st;rw [UK]
      · show aP (eM x) t (eM x t) j=aP (eM (bJ z t)) t (aP (eM x) t (eM x t) t) j
        rw [bG];unfold aP;split;rfl;rw [(hF j).2.2];show _=(gT z j).lk;rw [UK]
      · show aP (ek x) t (ek x t) j=aP (ek (bJ z t)) t (ek (bJ z t) t) j
        rw [aR,aR,(hF j).2.1];show _=(gT z j).co;rw [UK]
  · refine ⟨rfl,(cA x l _).symm,rfl,fun j _=>?_,fun _ _=>rfl,fun _ _ _=>rfl,fun _ _=>rfl,fun j _ g=>?_⟩
    · show (gL x j).sh=(gL (bh x l (fw (gL x l) t)) j).sh
      rw [gV hl];split
      · next c=>rw [e6,c]
      · rfl
    · show g∈(gL x j).ho↔g∈aP (fun j=>(gL (bh x l (fw (gL x l) t)) j).ho) l (gL x l).ho j
      unfold aP;split
      · next c=>rw [c]
      · next c=>show _↔g∈(gL (bh x l (fw (gL x l) t)) j).ho;rw [gV hl,if_neg c]
end Go.Eng
