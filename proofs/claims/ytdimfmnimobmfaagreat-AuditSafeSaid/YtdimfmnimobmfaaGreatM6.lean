/- The walks of the document's machine: who is due is woken; a task is moved. No condition. -/
import Derived.Test.YtdimfmnimobmfaaGreatM2
import Derived.Test.YtdimfmnimobmfaaGreatM5
import Derived.Test.YtdimfmnimobmfaaGreatM3
set_option linter.unusedVariables false
set_option linter.unusedSimpArgs false
set_option maxRecDepth 100000
set_option maxHeartbeats 4000000
attribute [local irreducible] Go.Eng.LM Go.Eng.LD Go.Eng.KD Go.Eng.af Go.Eng.QM
namespace Go.Eng
open Go Go.Proofs Go.RowKit
theorem vC {n0 b k t:Nat} {s:eM} {x:aC} {m:aa} (c:Int) (w:World) (h:dW n0 b s x m) (hI:MI k x) (hk:k≤700000000000) (ht:t<x.ts.length) (cb:n0≤w.heap.size) (hM:Mem w m):aJ Tryz.prog 28 #[.pointer (some ⟨b,0,none⟩),.int .i64 (t:Nat),.int .i64 c] w (eF m (fun u m'=>u= .tuple #[]∧dW n0 b s (rP x t c) m') w):=by
 obtain ⟨P,rfl,h⟩:=h;have rB:=h.nt;have er:=h.st;have uc:=hI.tl;have zV:=hI.ev;obtain ⟨ig,ii,il,ip,ix,it,iv,ie,ic,iq⟩:=bM (ay (az b s x.now P) w.heap.size);have q0:=hI.tb t ht;have oR:=(hI.up ht (y:= {gT x t with co:=c}) ⟨q0.pr,q0.pc,q0.lf,q0.ti,q0.l4,q0.un⟩).j3 13 t (-1) c;refine aJ.au Tryz.func28 rfl Tryz.ntmps28 rfl (az b s x.now P++ []) ((fQ (az b s x.now P))) aM ?_;refine cf ?_;refine LM.iB ({gT x t with co:=c}) (j:=3) aA ir Tryz.sizeOf3 rfl rfl rfl (by first|exact bF om|exact aQ default cJ) rfl (by decide) (by rfl) rfl (ao aA) (fun l5 de dJ=>?_)
 try rw [List.set_set] at de
 have G2:=ca dJ aA;refine J4 ?_;have wF:dW n0 b s (dh x t {gT x t with co:=c}) (az b s x.now {P with mt:=l5}):=fF.m {h with nt:=(by rw [bt];exact rB),st:=de};refine J3 ?_;refine cU Tryz.func55 rfl (fun w hm hc hg=>bV 13 (t:Nat) (-1) c w wF (by show x.ev.length≤_;omega) (Nat.le_trans cb hc.size) (hm.pick _)) wF.bX (ao aL) ?_;rintro u17 P6 ⟨rfl,pM⟩ Yg;have i17:c6 (az b s x.now P) w.heap.size P6:=ak aL Yg;refine J4 ?_;refine cU Tryz.func31 rfl (fun w hm hc hg=>je w pM oR (Nat.le_trans cb hc.size) (hm.pick _)) pM.bX (ao i17) ?_;rintro u19 Zg ⟨rfl,CA⟩ Wl;refine J1 ?_;refine QM.leave (.inr rfl) [] Tryz.results28 rfl ?_;intro w' aq ab aI;exact aZ (m':=Zg) ⟨rfl,CA⟩ aq aX ab (ak i17 Wl)
set_option maxHeartbeats 2000000 in
theorem vQ {n0 b k:Nat} {s:eM} {x:aC} {m:aa} (w:World) (h:dW n0 b s x m) (hI:MI k x) (hk:k≤700000000000) (cb:n0≤w.heap.size) (hM:Mem w m):aJ Tryz.prog 26 #[.pointer (some ⟨b,0,none⟩)] w (eF m (fun u m'=>u= .tuple #[]∧dW n0 b s (uz x) m') w):=by
 obtain ⟨P,rfl,h⟩:=h;have uc:=hI.tl;have hdl:=tF x x.ts.length;refine aJ.au Tryz.func26 rfl Tryz.ntmps26 rfl (az b s x.now P++ []) ((fQ (az b s x.now P))) aM ?_;refine J3 ?_;refine LM.cS (oC Tryz.func59) (fun w hm hc hg=>DF w h.m uc (hm.pick _)) (fun Ij n9 v3 m9 hn9 UA=>?_);refine cf ?_;refine af.aS (α:=Nat×aC×sY) (fun ⟨i,y,Q⟩=>[(3,.int .i64 (i:Nat))]) [(0,_),(2,_)] (fun ⟨i,y,Q⟩=>az b s x.now Q++(m9++ [])) (fun ⟨i,y,Q⟩=>i≤(nU x).length∧y=xZ x ((nU x).take i)∧fF n0 b s y Q∧c6 (az b s x.now P) w.heap.size (az b s x.now Q)) (fun ⟨i,y,Q⟩=>(nU x).length-i) ((0,x,P)) cm aX ⟨Nat.zero_le _,rfl,h,ay _ _⟩ ?_;rintro ⟨i,y,Q⟩ ⟨hi,hy,hQ,xU⟩;change af _ _ _ _ _ _ _ (az b s x.now Q++(m9++ [])) _ _ _;have hml:((nU x).map (fun (j:Nat)=>(j:Int))).length=(nU x).length:=List.length_map ..;have p9:=qK ((nU x).take i) x;rw [←hy] at p9;have YZ:=hI.xZ (l:=(nU x).take i) (fun t ht=>iS x _ t (List.mem_of_mem_take ht));rw [←hy] at YZ;have Jj:=List.length_take_le i (nU x);have ame:(nU x).length≤x.ts.length:=hdl;have iA:MI (k+2560) y:=YZ.mono om;have ri:y.ts.length=x.ts.length:=p9.1;have l6:y.now=x.now:=p9.2.2.2;obtain ⟨ig,ii,il,ip,ix,it,iv,ie,ic,iq⟩:=bM xU;have o7:dW n0 b s y (az b s x.now Q):=hQ.m;have er:=hQ.st;have rB:=hQ.nt;have zV:=iA.ev;refine J9 ?_;refine af.aj rfl (fun h1=>?_) (fun h1=>?_)
 ·obtain ⟨t,xp⟩:∃t:Nat,(nU x).getD i 0=t:=⟨_,rfl⟩;have ht:t<y.ts.length:=(by rw [ri,←xp];exact iS x _ _ (List.mem_of_getElem? (aQ 0 (show i<(nU x).length by omega))));have HY:((nU x).map (fun (j:Nat)=>(j:Int))).getD i 0=(t:Int):=(by rw [B6 om,xp])
  refine J9 ?_;refine LM.rd (bu aA ir Tryz.isAgg3 rfl rfl (by first|exact bF om|exact aQ 0 cJ) (by rfl)) ?_;refine J6 ?_;rw [HY];refine J7 ?_;refine LM.rd (aH (j:=7) aA ir Tryz.isAgg41 rfl rfl (by first|exact bF om|exact aQ default cJ) rfl (by rfl)) ?_;refine LM.val (qu (b:=0#64) rfl rfl) ?_;refine J2 ?_;refine af.aj rfl (fun h2=>?_) (fun h2=>?_)
  ·refine J9 ?_;refine aK (i+1,oU y t,Q) ?_ ?_
   · exact⟨by omega,by rw [bE 0 om,uH,←hy,xp],by rw [show oU y t=y from if_pos h2];exact hQ,xU⟩
   · (dsimp only;omega)
  refine cL ?_;refine LM.rd (aH (j:=6) aA ir Tryz.isAgg3 rfl rfl (by first|exact bF om|exact aQ default cJ) rfl (by rfl)) ?_;refine J3 ?_;refine af.aj rfl (fun h3=>?_) (fun h3=>?_)
  ·refine J4 ?_;refine cU Tryz.func60 rfl (fun w hm hc hg=>pD t w o7 ht iA.vl om (Nat.le_trans cb hc.size) (hm.pick _)) o7.bX (ao xU) ?_;rintro u40 WV ⟨rfl,Cr⟩ pb;obtain ⟨P1,kW,Cr⟩:=Cr;rw [show (fe y t).now=x.now from l6] at kW;subst kW;have i40:=ak xU pb;refine dA ?_;refine aK (i+1,oU y t,P1) ?_ ?_
   · exact⟨by omega,by rw [bE 0 om,uH,←hy,xp],by rw [show oU y t=fe y t by unfold oU;rw [if_neg h2,if_pos h3]];exact Cr,i40⟩
   · (dsimp only;omega)
  have hl4:=(iA.tb t ht).l4 (((iA.tb t ht).un h2).resolve_left h3);obtain ⟨l,tK⟩:∃l:Nat,(y.ts.getD t default).lk=(l:Nat):=⟨(gT y t).lk.toNat,(Int.toNat_of_nonneg hl4.1).symm⟩;have aen:(gT y t).lk=(l:Int):=tK;have ij:l<y.lk.length:=(by rw [iA.ll];omega);have hL:=iA.li l ij;have hLh:=hL.hl;have vr:=hQ.nl;have te:=hQ.bl;have fY:=hQ.sl;have hfi:oU y t=dz (fe (dt (bK (ba (bj y l (fx (gL y l) t)) 8 t l 10) t) t) t) l (pd (gL y l) t):=(by unfold oU;rw [if_neg h2,if_neg h3,aen];rfl);have hIp:=(iA.bj (l:=l) (hL.lv t)).j3 8 t l 10;have aiv:=iA.tl;refine dA ?_;refine LM.rd (aH (j:=8) aA ir Tryz.isAgg3 rfl rfl (by first|exact bF om|exact aQ default cJ) rfl (by rfl)) ?_;refine J5 ?_;rw [tK];refine J6 ?_;refine LM.rd (bu aA ir Tryz.isAgg54 rfl rfl (by first|exact bF om|exact aQ default cJ) (by rfl)) ?_;refine J1 ?_;refine cU Tryz.func61 rfl (fun w hm hc hg=>Fe hQ.sq ij (hm.pick Q.mq) (fun m hr hM=>rU (k:=n0) (t:Nat) w hL.w hr (Nat.le_trans cb hc.size) (by show (gL y l).ho.length≤900;omega) (Nat.le_trans cb hc.size) hM)) (hQ.sq.bX Dj) (ao iq) ?_;rintro Z6 Up ⟨mr,BP,⟨adr,Rz,rfl,Cz⟩,rfl,z9⟩ qd;refine LM.assoc ?_;have i58:c6 (az b s x.now P) w.heap.size BP:=fun p hp=>ak iq qd p (List.mem_append_right _ hp);have wF:dW n0 b s (bj y l (fx (gL y l) t)) (az b s x.now {Q with mq:=BP}):=fF.m (hn:=l6) {hQ with nl:=(by rw [cC];exact vr),bl:=(by rw [cC];exact te),sq:=z9};refine cL ?_;refine cU Tryz.func55 rfl (fun w hm hc hg=>bV 8 (t:Nat) (l:Nat) 10 w wF (by show y.ev.length≤_;omega) (Nat.le_trans cb hc.size) (hm.pick _)) wF.bX (ao aL) ?_;rintro u64 m64 ⟨rfl,zZ⟩ uU;obtain ⟨P1,kW,zZ⟩:=zZ;rw [show (ba (bj y l (fx (gL y l) t)) 8 t l 10).now=x.now from l6] at kW;subst kW;have i64:c6 (az b s x.now P) w.heap.size (az b s x.now P1):=ak aL uU;clear ig ii il ip ix it iv ie ic iq;obtain ⟨ig,ii,il,ip,ix,it,iv,ie,ic,iq⟩:=bM i64;have Dz:Sl Gc 66 12 n0 y.ts (.slice P1.Dx P1.nt P1.ct) P1.mt:=zZ.st;have wL:P1.nt=y.ts.length:=zZ.nt;have T4:Sl fU 41 1 n0 y.g (.slice P1.ax P1.nx P1.cx) P1.mx:=zZ.sx;have akz:=zZ.nx;have adi:y.g.length=64:=zZ.gl;have Rr:0≤(y.ts.getD t default).pc∧(y.ts.getD t default).pc≤((k+2560:Nat):Int):=(iA.tb t ht).pc;refine dA ?_;refine LM.rd (aH (j:=4) aA ir Tryz.isAgg3 rfl rfl (by first|exact bF om|exact aQ default cJ) rfl (by rfl)) ?_;refine J3 ?_;refine LM.iB (sk (gT y t)) (j:=4) aA ir Tryz.sizeOf3 rfl rfl rfl (by first|exact bF om|exact aQ default cJ) rfl (by decide) (by rfl) rfl (ao aA) (fun l5 de dJ=>?_)
  try rw [List.set_set] at de
  have G2:=ca dJ aA;refine gz ?_;refine LM.iB (0#64) (j:=0) aA ir Tryz.sizeOf41 rfl rfl rfl (by first|exact bF om|exact aQ 0#64 cJ) rfl (by decide) (by rfl) rfl (ao aA) (fun jU fR kf=>?_)
  try rw [List.set_set] at fR
  have H0:=ca kf aA;refine J4 ?_;have wB:dW n0 b s (dt (bK (ba (bj y l (fx (gL y l) t)) 8 t l 10) t) t) (az b s x.now {P1 with mt:=l5,mx:=jU}):=fF.m (hn:=l6) {zZ with nt:=(by show _=(y.ts.set t _).length;rw [List.length_set];exact wL),st:=de,gl:=(by show (y.g.set t _).length=64;rw [List.length_set];exact adi),sx:=fR};have p8:=(hIp.inc (t:=t) ht).cut (t:=t) (by show t<(y.ts.set _ _).length;rw [List.length_set];exact ht);have UX:t<(dt (bK (ba (bj y l (fx (gL y l) t)) 8 t l 10) t) t).ts.length:=(by show t<(y.ts.set _ _).length;rw [List.length_set];exact ht)
  refine J2 ?_;refine cU Tryz.func60 rfl (fun w hm hc hg=>pD t w wB UX p8.vl (by have:=p8.ev;omega) (Nat.le_trans cb hc.size) (hm.pick _)) wB.bX (ao aL) ?_;rintro u87 m87 ⟨rfl,h87⟩ XF;have i87:c6 (az b s x.now P) w.heap.size m87:=ak aL XF;refine J6 ?_;refine cU Tryz.func62 rfl (fun w hm hc hg=>lV (l:=l) w h87 (p8.D6 UX) om (by show l<(y.lk.set _ _).length;rw [List.length_set];exact ij) (fun u hu=>by show lu ((y.ts.set _ _).set _ _).length u;rw [List.length_set,List.length_set];exact hL.i.pd t u hu) (Nat.le_trans (qP ..) hL.w.w8) rfl Cz (Nat.le_trans cb hc.size) (sm hm)) h87.bX (ao i87) ?_;rintro u91 m91 ⟨rfl,Nz⟩ IG;obtain ⟨P2,QH,Nz⟩:=Nz;rw [(cM ..).2.2.2,show (fe (dt (bK (ba (bj y l (fx (gL y l) t)) 8 t l 10) t) t) t).now=x.now from l6] at QH;subst QH;have i91:=ak i87 IG;refine J8 ?_;refine aK (i+1,oU y t,P2) ?_ ?_
  · exact⟨by omega,by rw [bE 0 om,uH,←hy,xp],by rw [hfi];exact Nz,i91⟩
  · (dsimp only;omega)
 have fp:i=(nU x).length:=om;subst fp;rw [List.take_length] at hy;refine J7 ?_;refine cU Tryz.func31 rfl (fun w hm hc hg=>je w o7 iA (Nat.le_trans cb hc.size) (hm.pick _)) o7.bX (ao xU) ?_;rintro u93 m93 ⟨rfl,h93⟩ Zb;refine J1 ?_;refine QM.leave (.inr rfl) [] Tryz.results26 rfl ?_;intro w' aq ab aI;exact aZ (m':=m93) ⟨rfl,by rw [show uz x=jS y by rw [hy];rfl];exact h93⟩ aq aX ab (ak xU Zb)
end Go.Eng
namespace Go.Eng
open Go Go.RowKit
theorem Mb {L:aY} {t u:Int} (h:u∈dY L t):bd L t=true∧∃w∈L.wt,w.who=u:=by
  unfold dY at h;split at h
  · next e=>
    unfold iN at h;split at h
    · cases h
    · obtain ⟨w,hw,e2,_⟩:=qi h;exact⟨e.1,w,hw,e2⟩
  · cases h
theorem Fj {L:aY} (hL:pg L) {t u:Int} (h:u∈dY L t):u≠t:=by
  obtain ⟨h1,w,hw,rfl⟩:=Mb h;obtain ⟨g,hg,e⟩:=List.any_eq_true.1 h1;exact fun q=>hL.dj w hw g hg (q.trans (of_decide_eq_true e).symm)
theorem Yd {x:aC} {i j:Nat} (h:i≠j) (y:iM):gT (dh x i y) j=gT x j:=by
  show (x.ts.set i y).getD j default=_
  rw [List.getD_eq_getElem?_getD,List.getElem?_set,if_neg h,←List.getD_eq_getElem?_getD]
theorem Lx (l:Nat) (x:aC) {u:Int} {t:Nat} (h:u.toNat≠t):gT (p7 l x u) t=gT x t:=by
  show ((x.ts.set u.toNat _).set u.toNat _).getD t default=_
  rw [List.set_set];exact Yd (x:=x) h _
theorem uL (l:Nat) {t:Nat} :∀(to:List Int) (x:aC),(∀u∈to,u.toNat≠t)→gT (o9 l x to) t=gT x t
  | [],x,_=>rfl
  |u::to,x,h=>by
    have ih:=uL l to (p7 l x u) (fun v hv=>h v (List.mem_cons_of_mem _ hv))
    unfold o9 at ih ⊢
    rw [List.foldl_cons,ih,Lx l x (h u (List.mem_cons_self ..))]
theorem VH {x:aC} {t:Nat} (ht:t<x.ts.length):gT (bK x t) t=sk (gT x t):=(fJ ht _ t).trans (if_pos rfl)
theorem BX (l:Nat) {b:Int} :∀(to:List Int) (x:aC),bO x.cs b<x.cs.length→bO (o9 l x to).cs b<(o9 l x to).cs.length
  | [],x,h=>h
  |u::to,x,h=>by
    have ih:=BX l (b:=b) to (p7 l x u) (Bb _ _ _ _ h)
    unfold o9 at ih ⊢
    rw [List.foldl_cons];exact ih
theorem LJ {k:Nat} {x:aC} (h:MI k x) {t c:Nat} (ht:t<x.ts.length) {o:da} (ho:Nl x.s o) (hf:(eA x t c o).2=false):
    gk o.k=false∧∃v,(eA x t c o).1=bK v t∧(gT v t).pr=(gT x t).pr∧(gT v t).pc=(gT x t).pc∧v.s=x.s∧x.ts.length≤v.ts.length∧(bO x.cs t<x.cs.length→bO v.cs t<v.cs.length):=by
  have hk:=ho.k
  have hp:¬(o.k=1∨o.k=7∨o.k=8∨o.k=11):=fun q=>by
    rcases q with e|e|e|e
    · rw [V9 e] at hf;cases hf
    · rw [Uz e] at hf;cases hf
    · rw [Xr e] at hf;cases hf
    · rw [Lt e] at hf;cases hf
  refine ⟨by unfold gk;rw [decide_eq_false om,decide_eq_false om,decide_eq_false om,decide_eq_false om];rfl,?_⟩
  by_cases tH:2≤o.k∧o.k≤5
  · have hl:=ho.l ⟨tH.1,by omega⟩
    obtain ⟨l,eO⟩:∃l:Nat,o.a=(l:Nat):=⟨o.a.toNat,(Int.toNat_of_nonneg hl.1).symm⟩
    rw [B0 tH] at hf ⊢
    by_cases he:cZ (gL x l) t (tq x t l o)=0
    · rw [Lp eO he];exact⟨_,rfl,rfl,rfl,rfl,Nat.le_refl _,id⟩
    · by_cases h2:mQ x t o≠0
      · rw [JG eO he h2];exact⟨_,rfl,rfl,rfl,rfl,Nat.le_refl _,id⟩
      · rw [HG eO he h2] at hf;cases hf
  by_cases h6:o.k=6
  · have hl:=ho.l om
    by_cases he:mL (gL x o.a.toNat) t≠0
    · rw [KP h6 he];exact⟨_,rfl,rfl,rfl,rfl,Nat.le_refl _,id⟩
    · have hL:=h.li o.a.toNat (by have:=h.ll;omega)
      have eb:∀u∈dY (gL x o.a.toNat) t,u.toNat≠t:=fun u hu q=>by
        have h1:=Fj hL.w.topg hu;have h2:=hL.i.dY t u hu
        unfold lu at h2;omega
      have hg:=uL o.a.toNat (dY (gL x o.a.toNat) t) (ba (bj x o.a.toNat (ej (gL x o.a.toNat) t)) 5 t o.a 0) eb;have hs:=cM o.a.toNat (ba (bj x o.a.toNat (ej (gL x o.a.toNat) t)) 5 t o.a 0) (dY (gL x o.a.toNat) t);rw [IV h6 he];refine ⟨_,rfl,by rw [show gT (dz _ _ _) t=gT (o9 _ _ _) t from rfl,hg];rfl,by rw [show gT (dz _ _ _) t=gT (o9 _ _ _) t from rfl,hg];rfl,hs.2.2.1,by rw [hs.1];exact Nat.le_refl _,fun q=>BX o.a.toNat _ _ q⟩
  by_cases h9:o.k=9
  · rw [UN h9]
    refine ⟨_,rfl,?_⟩
    split
    · have e:gT (oT x o.a (gT x t).gr (gT x t).we c) t=gT x t:=by
        show (x.ts++ [_]).getD t default=_
        rw [List.getD_eq_getElem?_getD,List.getElem?_append_left ht,←List.getD_eq_getElem?_getD]
      exact⟨by rw [e],by rw [e],rfl,by show _≤(x.ts++ [_]).length;rw [List.length_append];omega,fun q=>Bb _ _ _ _ q⟩
    · exact⟨rfl,rfl,rfl,Nat.le_refl _,id⟩
  have iT:o.k=10:=by omega
  rw [JM iT];have e:gT (dh x t {gT x t with we:=o.a}) t= {gT x t with we:=o.a} :=(fJ ht _ t).trans (if_pos rfl);exact⟨_,rfl,by show (gT (dh x t _) t).pr=_;rw [e],by show (gT (dh x t _) t).pc=_;rw [e],rfl,by show _≤(x.ts.set _ _).length;rw [List.length_set];exact Nat.le_refl _,id⟩
theorem MI.eA {k:Nat} {x:aC} (h:MI k x) {t c:Nat} (ht:t<x.ts.length) (hc:c<x.cs.length) (UK:bO x.cs t<x.cs.length) {o:da} (ho:Nl x.s o):MI (k+300) (eA x t c o).1:=by
  have hk:=ho.k;have q:=h.tb t ht
  by_cases h1:o.k=1
  · rw [V9 h1];exact(h.cmp ht (ho.c h1)).mono om
  by_cases tH:2≤o.k∧o.k≤5
  · rw [B0 tH];exact(h.Zz ht (by have:=ho.l ⟨tH.1,by omega⟩;have:=h.ll;omega)).mono om
  by_cases h6:o.k=6
  · have hl:=ho.l om
    have hL:=h.li o.a.toNat (by have:=h.ll;omega)
    by_cases he:mL (gL x o.a.toNat) t≠0
    · rw [KP h6 he];exact((h.j3 _ _ _ _).inc (t:=t) ht).mono om
    · rw [IV h6 he]
      have hs:=cM o.a.toNat (ba (Go.Eng.bj x o.a.toNat (ej (gL x o.a.toNat) t)) 5 t o.a 0) (dY (gL x o.a.toNat) t);exact((((h.bj (l:=o.a.toNat) (hL.At t)).j3 5 t o.a 0).rQ o.a.toNat (hL.i.dY t) (Nat.le_trans (nK ..) hL.w.w8)).inc (t:=t) (by rw [hs.1];exact ht)).mono om
  by_cases h7:o.k=7
  · rw [Uz h7]
    exact(((h.j3 9 t (-1) o.a).qut t).mono (show k+1≤k+2 by omega)).Zu (t:=t) ht (y:= {gT x t with st:=3,un:=x.now+BitVec.ofInt 64 o.a,pc:=(gT x t).pc+1}) ⟨q.pr,by have:=q.pc;show 0≤(gT x t).pc+1∧(gT x t).pc+1≤_;omega,q.lf,by have:=q.ti;show 0≤(gT x t).ti∧(gT x t).ti≤_;omega,fun e=>(by cases e),fun _=> .inl rfl⟩ (fun c hc hk=>absurd rfl (qH h.ci.wf (by rw [←oQ x.cs t];exact hc) hk).2) |>.mono om
  by_cases h8:o.k=8
  · rw [Xr h8]
    have hu:(gT x t).un=0#64:=h.iq _ UK t (c8 UK);exact(((h.j3 10 t (-1) c).back hc).mono (show k+1≤k+2 by omega)).up (t:=t) ht (y:= {gT x t with st:=1,pc:=(gT x t).pc+1}) ⟨q.pr,by have:=q.pc;show 0≤(gT x t).pc+1∧(gT x t).pc+1≤_;omega,q.lf,by have:=q.ti;show 0≤(gT x t).ti∧(gT x t).ti≤_;omega,fun e=>(by cases e),fun e=>absurd hu e⟩ (.inr rfl) |>.mono om
  by_cases h9:o.k=9
  · rw [UN h9]
    split
    · next e=>
      unfold iJ at e;simp only [Bool.and_eq_true,decide_eq_true_eq] at e
      exact((h.MP _ _ _ _ (ho.p h9) e.2).inc (t:=t) (by show t<(x.ts++ [_]).length;rw [List.length_append];omega)).mono om
    · exact((h.j3 _ _ _ _).inc (t:=t) ht).mono om
  by_cases iT:o.k=10
  · rw [JM iT]
    exact(((h.up ht (y:= {gT x t with we:=o.a}) ⟨q.pr,q.pc,q.lf,q.ti,q.l4,q.un⟩).j3 14 t (-1) o.a).inc (t:=t) (by show t<(x.ts.set _ _).length;rw [List.length_set];exact ht)).mono om
  · rw [Lt om];exact(h.die ht).mono om
theorem Lo {xs:List da} {ls:List ke} {cO:Int} (h:(Cn true xs ls cO).2=0):xs.any (fun o=>gk o.k)=true:=by
  unfold Cn at h
  split at h
  · split at h
    · rename_i i hi
      have:=List.find?_some hi;simp only [decide_eq_true_eq] at this;exact absurd h this
    · split at h
      · cases h
      · rename_i hq
        simpa using hq
  · cases h
def Hs (x:aC) (t:Nat):Nat:=(if ((kn x t).xs.drop (gT x t).pc.toNat).any (fun o=>gk o.k)=true then 0 else (kn x t).xs.length+1)+((kn x t).xs.length-(gT x t).pc.toNat)
theorem MI.X2 {k:Nat} {x:aC} (h:MI k x) {t c:Nat} (ht:t<x.ts.length) (hc:c<x.cs.length) (UK:bO x.cs t<x.cs.length):MI (k+300) (e9 x t c).1:=by
  obtain ⟨z,hz⟩:=QG (x:=x) ht
  by_cases hd:((kn x t).xs.length:Int)≤(gT x t).pc∧(kn x t).fv=false
  · rw [tP hd.1 hd.2];exact(h.die ht).mono om
  · have GQ:=Fi h ht
    have lL:=h.op ht GQ.1;rw [hz,fJ ht,if_pos rfl] at lL;rw [Dv hd ht hz rfl];have h1:=h.kq ht;rw [hz] at h1;exact h1.eA (by rw [bt];exact ht) hc UK lL
theorem rN {k:Nat} {x:aC} (h:MI k x) {t c:Nat} (ht:t<x.ts.length) (UK:bO x.cs t<x.cs.length) (hf:(e9 x t c).2=false):
    Hs (e9 x t c).1 t<Hs x t∧t<(e9 x t c).1.ts.length∧bO (e9 x t c).1.cs t<(e9 x t c).1.cs.length∧(e9 x t c).1.s=x.s:=by
  obtain ⟨z,hz⟩:=QG (x:=x) ht
  by_cases hd:((kn x t).xs.length:Int)≤(gT x t).pc∧(kn x t).fv=false
  · rw [tP hd.1 hd.2] at hf;cases hf
  have GQ:=Fi h ht;have lL:=h.op ht GQ.1;have Qw:=Sq (x:=x) ht;have Rr:=(h.tb t ht).pc;have h1:=h.kq ht;rw [hz] at h1 lL GQ Qw;rw [fJ ht,if_pos rfl] at lL GQ;rw [Dv hd ht hz rfl] at hf ⊢;obtain ⟨hp,v,e,e1,e2,e3,e4,e5⟩:=LJ h1 (t:=t) (c:=c) (by rw [bt];exact ht) lL hf;have htv:t<v.ts.length:=Nat.lt_of_lt_of_le (by rw [bt];exact ht) e4;have A0:gT (bK v t) t=sk (gT v t):=VH htv
  have hpv:kn (bK v t) t=kn x t:=by
    unfold kn;rw [A0,show (sk (gT v t)).pr=(gT v t).pr from rfl,e1,show (bK v t).s=x.s from e3];exact Qw
  have Zy:(gT (dh x t z) t).pc=z.pc:=by rw [fJ ht,if_pos rfl]
  rw [e];refine ⟨?_,by rw [show (bK v t).ts.length=v.ts.length from bt ..];exact htv,e5 UK,e3⟩;have acO:(gT (bK v t) t).pc.toNat=z.pc.toNat+1:=by rw [A0,show (sk (gT v t)).pc=(gT v t).pc+1 from rfl,e2,Zy];omega
  unfold Hs
  rw [hpv,acO]
  generalize Ca:(kn x t).xs=xs at*
  have OH:xs.drop z.pc.toNat=xs.getD z.pc.toNat default::xs.drop (z.pc.toNat+1):=by
    rw [List.drop_eq_getElem_cons GQ.1];congr 1;rw [List.getD_eq_getElem?_getD,List.getElem?_eq_getElem GQ.1];rfl
  have VR:(xs.drop z.pc.toNat).any (fun o=>gk o.k)=(xs.drop (z.pc.toNat+1)).any (fun o=>gk o.k):=by rw [OH,List.any_cons,hp,Bool.false_or]
  by_cases Ff:(xs.length:Int)≤(gT x t).pc
  · have hfv:(kn x t).fv=true:=by
      cases hb:(kn x t).fv with
      |true=>rfl
      |false=>exact absurd ⟨Ff,hb⟩ hd
    have hz0:z.pc=0:=by
      have:=hz;unfold kq at this;rw [Ca,if_pos Ff] at this;have q:=congrArg (fun y=>(gT y t).pc) this;simp only at q;rw [fJ ht,fJ ht,if_pos rfl,if_pos rfl] at q;exact q.symm
    have hpr:=(h.tb t ht).pr;have hck:=(k7 h.ms).2.2 (kn x t) (List.mem_of_getElem? (aQ default (show (gT x t).pr.toNat<x.s.ps.length by omega)))
    have hpa:xs.any (fun o=>gk o.k)=true:=by
      rw [hfv,Ca] at hck;exact Lo hck
    have hA:((xs.drop (z.pc.toNat+1)).any (fun o=>gk o.k))=true:=by rw [←VR,hz0];exact hpa
    have hB:¬((xs.drop (gT x t).pc.toNat).any (fun o=>gk o.k))=true:=by rw [List.drop_of_length_le om];simp
    rw [if_pos hA,if_neg hB];omega
  · have ZK:z.pc=(gT x t).pc:=by
      have:=hz;unfold kq at this;rw [Ca,if_neg Ff] at this;have q:=congrArg (fun y=>(gT y t).pc) this;rw [fJ ht,if_pos rfl] at q;exact q.symm
    rw [←ZK,VR];omega
theorem MI.cur {k:Nat} {x:aC} (h:MI k x) {c:Nat} (hc:c<x.cs.length) (h0:0≤(qg x.cs c).cur):cd (qg x.cs c) (qg x.cs c).cur∧(qg x.cs c).cur.toNat<x.ts.length∧(((qg x.cs c).cur.toNat:Nat):Int)=(qg x.cs c).cur:=by
  have hk:=(h.ci.wf.wf c hc).ix h0;have:=h.ci.id c hc _ hk;exact⟨hk,by omega,by omega⟩
theorem uj {q:Qm} (h:GP q=true):0≤q.cur:=by
  unfold GP at h;split at h
  · next e=>exact e.1
  · cases h
theorem yC {q:Qm} (hw:lr q) (h:q.cur<0) (hl:0<q.l.length):0≤fN q∧cd q (fN q)∧qj q=mB q (fN q):=by
  have hc:=hw.Pu om;cases e:dV q with
  |nil=>
    have:=(K3 hw om).1 e;rw [this] at hl;cases hl
  |cons t l=>
    obtain ⟨e1,e2⟩:=rI hw hc e;have ht:=(jG hw e).1;rw [e1];exact⟨hw.pos t ht,iF.2 ⟨t,ht,rfl⟩,by rw [e2]⟩
section
variable {k:Nat} {x:aC} (h:MI k x) {c:Nat} (hc:c<x.cs.length)
include h hc
theorem MI.tsk {q:Qm} {a:Int} (ha:cd (qg x.cs c) a) {y:iM} (hq:CI x.ts.length k (x.cs.set c q)) (he:q.l.map (·.id)=(qg x.cs c).l.map (·.id)) (hy:wA x.s k y) (hu:y.un=(gT x a.toNat).un):MI k (dh (iz x c q) a.toNat y):=by
  have hid:=h.ci.id c hc a ha;have h0:=(h.ci.wf.wf c hc).pos _ (ea ha).1;rw [(ea ha).2] at h0;have h1:MI k (iz x c q):=h.F7 hq (List.length_set ..) (fun d hd b hb=> .inl ⟨d,hd,jE hc he hb⟩);exact h1.up (t:=a.toNat) (by show a.toNat<x.ts.length;omega) hy (.inr hu)
theorem wA.Qf {s:km} {t:iM} (q:wA s k t) (hu:t.un=0#64) {v:Int} (hv:v≠4):wA s k {t with st:=v} :=⟨q.pr,q.pc,q.lf,q.ti,fun e=>absurd e hv,fun e=>absurd hu e⟩
theorem MI.wy:MI (k+1) (wy x c):=by
  unfold Go.Eng.wy;split
  · next e=>
    obtain ⟨h1,h2,h3⟩:=h.cur hc (uj e);exact(h.tsk hc h1 (h.ci.back hc) rfl (y:= {gT x (qg x.cs c).cur.toNat with st:=1}) (wA.Qf h hc (h.tb _ h2) (h.iq c hc _ h1) (by decide)) rfl).j3 _ _ _ _
  · exact h.mono (Nat.le_succ _)
theorem MI.vO:MI (k+1) (vO x c):=by
  unfold Go.Eng.vO;split
  · next e=>
    obtain ⟨h0,h1,h2⟩:=yC (h.ci.wf.wf c hc) e.1 e.2;have hid:=h.ci.id c hc _ h1;exact(h.tsk hc h1 (h.ci.ZC hc) (by rw [h2];rfl) (y:= {gT x (fN (qg x.cs c)).toNat with st:=2}) (wA.Qf h hc (h.tb _ om) (h.iq c hc _ h1) (by decide)) rfl).j3 _ _ _ _
  · exact h.mono (Nat.le_succ _)
end
theorem MI.run {t c:Nat} :∀{f k:Nat} {x:aC},MI k x→t<x.ts.length→c<x.s.cr.toNat→bO x.cs t<x.cs.length→MI (k+300*f) (oW t c f x)
  |0,k,x,h,_,_,_=>h
  |f+1,k,x,h,ht,hc,hq=>by
    have wx:c<x.cs.length:=by have:=h.ce;omega
    have h1:=h.X2 ht wx hq
    unfold oW
    split
    · exact h1.mono om
    · next e=>
      obtain ⟨e1,e2,e3,e4⟩:=rN h ht hq (c:=c) (by simpa using e);exact(MI.run h1 e2 (by rw [e4];exact hc) e3).mono om
theorem Ud {t c:Nat} {f:Nat} {x:aC} (hf:(e9 x t c).2=true):oW t c (f+1) x=(e9 x t c).1:=if_pos hf
theorem Tf {t c:Nat} {f:Nat} {x:aC} (hf:¬(e9 x t c).2=true):oW t c (f+1) x=oW t c f (e9 x t c).1:=if_neg hf
theorem Py {k:Nat} {x:aC} (h:MI k x) {t:Nat} (ht:t<x.ts.length):Hs x t<64:=by
  have hp:=(h.tb t ht).pr;have hl:=Bo h.ms (p:=kn x t) (List.mem_of_getElem? (aQ default (show (gT x t).pr.toNat<x.s.ps.length by omega)))
  unfold Hs;split<;>omega
theorem Zj (x:aC) (t:Nat) (o:da):(mO x t o).1.s=x.s:=by unfold mO;split;rfl;split;rfl;rfl
theorem WJ (x:aC) (t:Nat) (a:Int):(pK x t a).s=x.s:=by unfold pK;split<;>rfl
theorem RM {x:aC} {t c:Nat} {o:da} :(eA x t c o).1.s=x.s:=by
  unfold eA
  split
  · exact WJ ..
  split
  · exact Zj ..
  split
  · split
    · rfl
    · exact(cM o.a.toNat (ba (bj x o.a.toNat (ej (gL x o.a.toNat) t)) 5 t o.a 0) (dY (gL x o.a.toNat) t)).2.2.1
  split
  · rfl
  split
  · rfl
  split
  · show (if _ then _ else _:aC).s=_;split<;>rfl
  split
  · rfl
  split
  · exact(nb x t).2.2.1
  · rfl
theorem Qb (x:aC) (t c:Nat):(e9 x t c).1.s=x.s:=by
  unfold e9;split
  · exact(nb x t).2.2.1
  · exact RM.trans (zk).2.2.1
theorem Qv (t c:Nat):∀(f:Nat) (x:aC),(oW t c f x).s=x.s
  |0,x=>rfl
  |f+1,x=>by unfold oW;split;exact Qb x t c;exact(Qv t c f _).trans (Qb x t c)
theorem xL (x:aC) (c:Nat):(wy x c).s=x.s:=by unfold wy;split<;>rfl
theorem F2 (x:aC) (c:Nat):(vO x c).s=x.s:=by unfold vO;split<;>rfl
theorem YI (x:aC) (c:Nat):(tW x c).s=x.s:=by
  unfold tW;split
  · rfl
  · exact Qv _ _ _ _
def CD (x:aC) (c:Nat):aC:=dh (iz x c (fi (qg x.cs c))) (qg x.cs c).cur.toNat {gT x (qg x.cs c).cur.toNat with ti:=(gT x (qg x.cs c).cur.toNat).ti+1}
theorem MI.CD {k:Nat} {x:aC} (h:MI k x) {c:Nat} (hc:c<x.cs.length) (h0:0≤(qg x.cs c).cur):MI (k+1) (CD x c)∧(qg x.cs c).cur.toNat<(Go.Eng.CD x c).ts.length∧bO (Go.Eng.CD x c).cs (qg x.cs c).cur.toNat<(Go.Eng.CD x c).cs.length:=by
  obtain ⟨h1,h2,h3⟩:=h.cur hc h0
  have hid:(fi (qg x.cs c)).l.map (·.id)=(qg x.cs c).l.map (·.id):=by
    unfold fi;rw [if_pos h0];exact gU h1 (iX h1).1
  have h':=h.mono (Nat.le_succ k);have q:=h.tb _ h2;refine ⟨h'.tsk hc h1 (h.ci.tick hc) hid ⟨q.pr,by have:=q.pc;show 0≤(gT x _).pc∧(gT x _).pc≤_;omega,q.lf,by have:=q.ti;show 0≤(gT x _).ti+1∧(gT x _).ti+1≤_;omega,q.l4,q.un⟩ rfl,by show _<(x.ts.set _ _).length;rw [List.length_set];exact h2,?_⟩;refine Classical.byContradiction fun n=>?_;have ks:c<(Go.Eng.CD x c).cs.length:=by show c<(x.cs.set _ _).length;rw [List.length_set];exact hc
  refine wo n ks ?_
  show cd (qg (x.cs.set c _) c) _
  rw [bJ hc,if_pos rfl,h3];exact(oy hid _).2 h1
theorem MI.tW {k:Nat} {x:aC} (h:MI k x) {c:Nat} (hc:c<x.cs.length):MI (k+19300) (tW x c):=by
  unfold Go.Eng.tW;split
  · have h':=h.mono (show k≤k+19300 by omega)
    exact {h' with
      il:=by show (x.idle.set _ _).length=_;rw [List.length_set];exact h.il
      ib:=fun n hn=>by
        rcases List.mem_or_eq_of_mem_set hn with q|rfl
        · exact h'.ib n q
        · have:=h.ib _ (List.mem_of_getElem? (aQ 0 (show c<x.idle.length by rw [h.il];exact hc)))
          omega}
  · next e=>
    obtain ⟨h1,h2,h3⟩:=h.CD hc om;exact(MI.run h1 h2 (by have:=h.ce;show c<x.s.cr.toNat;omega) h3).mono om
theorem MI.VS {k:Nat} {x:aC} (h:MI k x) {c:Nat} (hc:c<x.cs.length):MI (k+19400) (tx x c):=by
  have h0:MI k {x with now:=x.now+1#64} := {h with}
  have hl:∀y:aC,∀j,MI j y→y.s=x.s→c<y.cs.length:=fun y j hy e=>by have h1:=hy.ce;have h2:=h.ce;rw [e] at h1;omega
  have h1:=h0.wy hc;have h2:=h1.vO (c:=c) (hl _ _ h1 (xL ..));have h3:=h2.tW (c:=c) (hl _ _ h2 ((F2 ..).trans (xL ..)));exact(h3.mono om).IQ
theorem OW (x:aC) (t:Nat) (o:da):(mO x t o).1.now=x.now:=by unfold mO;split;rfl;split;rfl;rfl
theorem O3 (x:aC) (t:Nat) (a:Int):(pK x t a).now=x.now:=by unfold pK;split<;>rfl
theorem Ls {x:aC} {t c:Nat} {o:da} :(eA x t c o).1.now=x.now:=by
  unfold eA
  split
  · exact O3 ..
  split
  · exact OW ..
  split
  · split
    · rfl
    · exact(cM o.a.toNat (ba (bj x o.a.toNat (ej (gL x o.a.toNat) t)) 5 t o.a 0) (dY (gL x o.a.toNat) t)).2.2.2
  split
  · rfl
  split
  · rfl
  split
  · show (if _ then _ else _:aC).now=_;split<;>rfl
  split
  · rfl
  split
  · exact(nb x t).2.2.2
  · rfl
theorem tU (x:aC) (t c:Nat):(e9 x t c).1.now=x.now:=by
  unfold e9;split
  · exact(nb x t).2.2.2
  · exact Ls.trans (zk).2.2.2.1
theorem Qg (x:aC):(jS x).s=x.s:=(jf x).2.2.1
theorem WW (x:aC) (c:Nat):(tx x c).s=x.s:=(Qg _).trans ((YI ..).trans ((F2 ..).trans (xL ..)))
theorem qT (x:aC) (n:Nat):xd x (n+1)=tx (xd x n) n:=by unfold xd;rw [List.range_succ,List.foldl_append];rfl
theorem Bq (x:aC):∀n,(xd x n).s=x.s
  |0=>rfl
  |n+1=>by rw [qT];exact(WW ..).trans (Bq x n)
theorem MI.len {k:Nat} {x:aC} (h:MI k x):x.cs.length=x.s.cr.toNat∧x.cs.length≤4:=⟨by have:=h.ce;omega,h.ci.wf.len.2⟩
theorem MI.PS {k:Nat} {x:aC} (h:MI k x):∀{n:Nat},n≤x.s.cr.toNat→MI (k+19400*n) (xd x n)
  |0,_=>h
  |n+1,hn=>by
    have h1:=h.PS (n:=n) om;rw [qT];exact(h1.VS (by rw [h1.len.1,Bq];omega)).mono om
theorem Vm (x:aC):(uz x).s=x.s:=(Qg _).trans (qK ..).2.2.1
theorem MI.rou {k:Nat} {x:aC} (h:MI k x):MI (k+100000) (AG x):=by
  have h4:=h.len;exact((h.PS (Nat.le_refl _)).XY).mono om
theorem XI (x:aC):(AG x).s=x.s:=(Vm _).trans (Bq ..)
theorem CV (x:aC):∀n,(wX x n).s=x.s
  |0=>rfl
  |n+1=>(XI _).trans (CV x n)
theorem MI.B4 {k:Nat} {x:aC} (h:MI k x):∀n,MI (k+100000*n) (wX x n)
  |0=>h
  |n+1=>((h.B4 n).rou).mono om
theorem MI.ids {k:Nat} {x:aC} (h:MI k x) {a:Int} (ha:bO x.cs a<x.cs.length):0≤a∧a.toNat<x.ts.length:=by
  have h0:=h.ci.wf.pos ha;have:=h.ci.id _ ha a (c8 ha);exact⟨h0,by omega⟩
theorem Fo {cs:List Qm} {co a:Int} (h:eH cs co a=0):bO cs a<cs.length∧co.toNat<cs.length∧0≤co∧co.toNat≠bO cs a∧(co.toNat:Int)=co:=by
  unfold eH at h
  split at h
  · cases h
  split at h
  · cases h
  split at h
  · cases h
  exact⟨by omega,by omega,by omega,by omega,by omega⟩
theorem MI.Ym {k:Nat} {x:aC} (h:MI k x) (co a:Int):MI k {x with cs:=jF x.cs co a} :=by
  refine h.F7 (h.ci.Ym co a) (Ox ..) (fun c hc b hb=> .inl ?_)
  unfold jF at hb;split at hb
  · next e=>
    obtain ⟨h1,h2,h3,h4,h5⟩:=Fo e;exact BF h.ci.wf h1 h2 h4 hc hb
  · exact⟨c,hc,hb⟩
theorem MI.Wn {k:Nat} {x:aC} (h:MI k x):MI k {x with cs:=jz x.cs} :=by
  refine h.F7 h.ci.Wn (O2 ..) (fun c hc b hb=> .inl ?_)
  unfold jz at hb;split at hb
  · exact⟨c,hc,hb⟩
  · next t e=>
    obtain ⟨h1,h2,h3,h4,h5,h6,h7⟩:=kF h.ci.wf e;exact BF h.ci.wf (by rw [h4];exact h5) h6 h7 hc hb
theorem Kt {x:aC} {k:Nat} (h:MI k x) (hb:¬iC x.cs<0):(iC x.cs).toNat<x.ts.length∧0≤iC x.cs:=by
  unfold iC at hb ⊢;split at hb
  · exact absurd hb (by decide)
  · next t e=>
    obtain ⟨h1,h2,h3,h4,h5,h6,h7⟩:=kF h.ci.wf e;have:=h.ids (a:=t.id) (by rw [h4];exact h5);exact⟨this.2,this.1⟩
theorem MI.PK {k:Nat} {x:aC} (h:MI k x) (g w:Int) (i:Nat):MI k {x with gp:=x.gp.set i w,lk:=x.lk.map (fun L=>iu L g w)} :=
  {h with
    gn:=by show (x.gp.set _ _).length=_;rw [List.length_set];exact h.gn
    ll:=by show (x.lk.map _).length=_;rw [List.length_map];exact h.ll
    li:=fun l hl=>by
      have nL:l<x.lk.length:=by have q:=hl;rw [show ({x with gp:=x.gp.set i w,lk:=x.lk.map (fun L=>iu L g w)} :aC).lk.length=x.lk.length from List.length_map ..] at q;exact q
      show LI _ k ((x.lk.map _).getD l default)
      have:=(h.li l nL).PK g w
      unfold gL at this
      rw [List.getD_eq_getElem?_getD,List.getElem?_eq_getElem nL] at this;rw [List.getD_eq_getElem?_getD,List.getElem?_map,List.getElem?_eq_getElem nL];exact this}
theorem MI.mdo {k:Nat} {x:aC} (h:MI k x) (a:Act):MI (k+30000000) (js x a):=by
  unfold js
  split
  · exact h.mono om
  next he=>
  have he:dd x a=0:=Classical.byContradiction he
  unfold dd at he
  split at he
  · cases he
  split
  · next e=>
    rw [if_pos e] at he
    split at he
    · cases he
    · exact(h.VS (c:=a.a.toNat) (by have:=h.ce;omega)).mono om
  next e1=>
  rw [if_neg e1] at he
  split
  · exact h.XY.mono om
  next e2=>
  rw [if_neg e2] at he
  split
  · next e=>
    rw [if_pos e] at he
    split at he
    · cases he
    · next hb=>exact(h.Wn.mvd (Kt h hb).1 _).mono om
  next e3=>
  rw [if_neg e3] at he
  split
  · next e=>
    rw [if_pos e] at he
    split at he
    · cases he
    split at he
    · next hr=>
      unfold iJ at hr;simp only [Bool.and_eq_true,decide_eq_true_eq] at hr
      exact(h.MP _ _ _ _ om hr.2).IQ.mono om
    · cases he
  next e4=>
  rw [if_neg e4] at he
  split
  · next e=>
    rw [if_pos e] at he
    split at he
    · cases he
    · exact((h.die (t:=a.a.toNat) om).IQ).mono om
  next e5=>
  rw [if_neg e5] at he
  split
  · exact(h.PK _ _ _).mono om
  next e6=>
  rw [if_neg e6] at he
  split
  · next e=>
    rw [if_pos e] at he;obtain ⟨h1,h2,h3,h4,h5⟩:=Fo he;exact((h.Ym a.b a.a).mvd (h.ids h1).2 _).mono om
  next e7=>
  rw [if_neg e7] at he
  split at he
  · split at he
    · cases he
    · exact(h.B4 a.a.toNat).mono om
  · cases he
theorem tS {s:km} (h:fy s=true):1≤s.cr∧s.cr≤4:=by
  unfold fy cG at h
  simp only [Bool.and_eq_true,decide_eq_true_eq] at h;exact h.1.1.1.1.1
theorem F8 {s:km} (h:fy s=true):1≤s.gs.length∧s.gs.length≤4:=by
  unfold fy cG at h;simp only [Bool.and_eq_true,decide_eq_true_eq] at h;omega
theorem MI.new {s:km} (h:fy s=true):MI 0 (fg s):=by
  have hc:=tS h;have hl:(fh s.cr s.gr).length=s.cr.toNat:=by rw [eh];unfold aB;rw [if_neg om,if_neg om]
  refine ⟨h,by show ((fh s.cr s.gr).length:Int)=s.cr;rw [hl];omega,⟨A8 _ _,fun c hc a ha=>?_,fun c hc=>?_⟩,by show (List.replicate _ _).length=(fh _ _).length;rw [List.length_replicate,hl],fun n hn=>?_,by show (s.ls.map _).length=s.ls.length;rw [List.length_map],fun l nL=>?_,⟨Gm,K7⟩,Nat.zero_le _,rfl,fun t ht=>(by cases ht),rfl,Nat.le_refl _,fun c hc a ha=>?_⟩
  · exact absurd ha (by have yl : c < (aB s.cr 1 4).toNat := by { rw [← eh s.cr s.gr]; exact hc }
                        show¬cd (qg (fh s.cr s.gr) c) a;rw [fh,rr yl];exact ue _ _)
  · have yl:c<(aB s.cr 1 4).toNat:=by rw [←eh s.cr s.gr];exact hc
    show (qg (fh s.cr s.gr) c).cI≤_
    rw [fh,rr yl];show (0:Int)≤_;omega
  · have:=List.eq_of_mem_replicate hn;omega
  · have R7:l<s.ls.length:=by have q:=nL;rw [show (fg s).lk.length=s.ls.length from List.length_map ..] at q;exact q
    show LI 0 0 ((s.ls.map _).getD l default)
    rw [List.getD_eq_getElem?_getD,List.getElem?_map,List.getElem?_eq_getElem R7];exact⟨Ov _ _,NA _ _,⟨fun g hg=>(by cases hg),fun g hg=>(by cases hg)⟩⟩
  · exact absurd ha (by have yl : c < (aB s.cr 1 4).toNat := by rw [← eh s.cr s.gr]; exact hc
                        show¬cd (qg (fh s.cr s.gr) c) a;rw [fh,rr yl];exact ue _ _)
/-! a deed, by kinds -/
theorem ek {x:aC} {a:Act} (h:dd x a≠0):js x a=x:=if_pos h
section
variable {x:aC} {a:Act} (hv:¬50000≤x.ev.length)
include hv
theorem Vr (h:a.k=1):dd x a=if a.a<0∨x.s.cr≤a.a then 1 else if 1048576≤x.now.toNat then 2 else 0:=by unfold dd;rw [if_neg hv,if_pos h]
theorem do2 (h:a.k=2):dd x a=0:=by unfold dd;rw [if_neg hv,if_neg om,if_pos h]
theorem do3 (h:a.k=3):dd x a=if iC x.cs<0 then 4 else 0:=by unfold dd;rw [if_neg hv,if_neg om,if_neg om,if_pos h]
theorem do4 (h:a.k=4):dd x a=if a.a<0∨(x.s.ps.length:Int)≤a.a∨a.b<0∨(x.gp.length:Int)≤a.b∨a.c<1∨16<a.c∨a.d<0∨x.s.cr≤a.d then 1 else if iJ x=true then 0 else 3:=by unfold dd;rw [if_neg hv,if_neg om,if_neg om,if_neg om,if_pos h]
theorem ZO (h:a.k=5):dd x a=if a.a<0∨(x.ts.length:Int)≤a.a then 4 else if (gT x a.a.toNat).st=5 then 11 else 0:=by unfold dd;rw [if_neg hv,if_neg om,if_neg om,if_neg om,if_neg om,if_pos h]
theorem do6 (h:a.k=6):dd x a=if a.a<0∨(x.gp.length:Int)≤a.a∨a.b<1∨16<a.b then 1 else 0:=by unfold dd;rw [if_neg hv,if_neg om,if_neg om,if_neg om,if_neg om,if_neg om,if_pos h]
theorem do7 (h:a.k=7):dd x a=eH x.cs a.b a.a:=by unfold dd;rw [if_neg hv,if_neg om,if_neg om,if_neg om,if_neg om,if_neg om,if_neg om,if_pos h]
theorem ZD (h:a.k=8):dd x a=if a.a<0∨200<a.a then 1 else if 1048576<(x.now+BitVec.ofInt 64 (a.a*x.s.cr)).toNat then 2 else 0:=by unfold dd;rw [if_neg hv,if_neg om,if_neg om,if_neg om,if_neg om,if_neg om,if_neg om,if_neg om,if_pos h]
theorem do0 (h:¬(1≤a.k∧a.k≤8)):dd x a=1:=by unfold dd;rw [if_neg hv,if_neg om,if_neg om,if_neg om,if_neg om,if_neg om,if_neg om,if_neg om,if_neg om]
end
section
variable {x:aC} {a:Act} (hE:dd x a=0)
include hE
theorem dx1 (h:a.k=1):js x a=tx x a.a.toNat:=by unfold js;rw [if_neg om,if_pos h]
theorem dx2 (h:a.k=2):js x a=uz x:=by unfold js;rw [if_neg om,if_neg om,if_pos h]
theorem dx3 (h:a.k=3):js x a=rP {x with cs:=jz x.cs} (iC x.cs).toNat (tg x.cs):=by unfold js;rw [if_neg om,if_neg om,if_neg om,if_pos h]
theorem dx4 (h:a.k=4):js x a=jS (oT x a.a a.b a.c a.d):=by unfold js;rw [if_neg om,if_neg om,if_neg om,if_neg om,if_pos h]
theorem dx5 (h:a.k=5):js x a=jS (kh x a.a.toNat):=by unfold js;rw [if_neg om,if_neg om,if_neg om,if_neg om,if_neg om,if_pos h]
theorem dx6 (h:a.k=6):js x a= {x with gp:=x.gp.set a.a.toNat a.b,lk:=x.lk.map (fun L=>iu L a.a a.b)} :=by unfold js;rw [if_neg om,if_neg om,if_neg om,if_neg om,if_neg om,if_neg om,if_pos h]
theorem dx7 (h:a.k=7):js x a=rP {x with cs:=jF x.cs a.b a.a} a.a.toNat a.b:=by unfold js;rw [if_neg om,if_neg om,if_neg om,if_neg om,if_neg om,if_neg om,if_neg om,if_pos h]
theorem dx8 (h:a.k=8):js x a=wX x a.a.toNat:=by unfold js;rw [if_neg om,if_neg om,if_neg om,if_neg om,if_neg om,if_neg om,if_neg om,if_neg om]
end
theorem L7 {cs:List Qm} (h:rq cs) (hb:iC cs<0):jz cs=cs:=by
  unfold iC at hb;unfold jz
  cases e:vt cs with
  |none=>rfl
  |some t=>
    rw [e] at hb;obtain ⟨h1,h2,h3,h4,h5,h6,h7⟩:=kF h e;have:=(h.wf _ h5).pos t h1;have tn:t.id<0:=hb;omega
end Go.Eng
namespace Go.Eng
open Go Go.Proofs Go.RowKit
set_option maxHeartbeats 4000000 in
theorem vM {n0 b k c:Nat} {s:eM} {x:aC} {m:aa} (w:World) (h:dW n0 b s x m) (hI:MI k x) (hk:k≤600000000000) (HA:c<x.cs.length) (hs:s.In w) (jL:s.Old n0) (cb:n0≤w.heap.size) (hM:Mem w m):aJ Tryz.prog 25 #[.pointer (some ⟨b,0,none⟩),.int .i64 (c:Nat)] w (eF m (fun u m'=>u= .tuple #[]∧dW n0 b s (tx x c) m') w):=by
 obtain ⟨P,rfl,h⟩:=h;have uc:=hI.tl;obtain ⟨ig,ii,il,ip,ix,it,iv,ie,ic,iq⟩:=bM (ay (az b s x.now P) w.heap.size);obtain ⟨mH,nq,jq,E6,rj,hX⟩:=h.sc.x;have Si:=hX.sl;have hXl:=hX.len;have hXn:=hX.nl;have Vb:MI k {x with now:=x.now+1#64} := {hI with};have zV:=hI.ev;refine aJ.au Tryz.func25 rfl Tryz.ntmps25 rfl (az b s x.now P++ []) ((fQ (az b s x.now P))) aM ?_;refine J6 ?_;refine LM.val (gY (b:=1#64) rfl rfl) ?_;refine J2 ?_;refine LM.st Tryz.sizeOf41 rfl rfl rfl ez rfl tw ?_;refine LM.mem (aT.mem (M':=az b s (x.now+1#64) P++ []) aX) ?_;refine cf ?_;refine LM.eR (fun w hm hc hg=>fD (M:=gB P.bc mH nq jq::(rj++ [])) Tryz.isAgg118 rfl rfl w (hX.ld (hm.pick P.mc))) ?_;refine J2 ?_;refine LM.eR (fun w hm hc hg=>aH (M:=gB P.bc mH nq jq::(rj++ [])) (i:=c) (j:=0) Si ir Tryz.isAgg122 rfl rfl (aQ (xs:=E6) default om) rfl (by rfl) w (hX.ld (hm.pick P.mc))) ?_;refine J7 ?_;refine cE Tryz.func53 rfl (fun w hm hc hg=>hX.read HA (hm.pick P.mc) (fun m hr hM=>D3 w hr hM)) ?_;refine J2 ?_;refine af.bH (α:=aC×sY) (fun ⟨y,Q⟩=>[]) [(0,_),(1,_),(4,_)] (fun ⟨y,Q⟩=>az b s (x.now+1#64) Q++ []) (fun ⟨y,Q⟩=>y=wy {x with now:=x.now+1#64} c∧fF n0 b s y Q∧Cv n0 Q.bc y.cs mH nq jq E6 rj Q.mc∧c6 (az b s x.now P) w.heap.size (az b s (x.now+1#64) Q)∧y.now=x.now+1#64) cm ?_ ?_
 ·refine af.aW rfl (fun h1=>?_) (fun h1=>?_)
  ·obtain ⟨hu1,Xb,hu3⟩:=hI.cur HA (uj h1);have er:=h.st;have rB:=h.nt;obtain ⟨a,ha⟩:∃a:Nat,(qg x.cs c).cur=(a:Nat):=⟨(qg x.cs c).cur.toNat,hu3.symm⟩;have U6:a<x.ts.length:=(by rw [ha] at Xb;exact Xb)
   refine J3 ?_;refine cU Tryz.func54 rfl (fun w hm hc hg=>hX.AY (i:=c) (x':=fj (qg x.cs c)) HA (hm.pick P.mc) (hI.ci.back HA).wf (fun m hr hM=>(by have q:=s6 w hr hM;rw [ha] at q;exact q))) hX.c.bX (ao ic) ?_;rintro u29 SA ⟨rfl,SR⟩ FF;have i29:=ak ic FF;refine cL ?_;refine LM.iB ({gT x a with st:=1}) (j:=6) aA ir Tryz.sizeOf3 rfl rfl rfl (by first|exact bF om|exact aQ default cJ) rfl (by decide) (by rfl) rfl (ao aA) (fun jU fR kf=>?_)
   try rw [List.set_set] at fR
   have H0:=ca kf aA;refine J3 ?_;have wF:fF n0 b s (dh (iz {x with now:=x.now+1#64} c (fj (qg x.cs c))) a {gT x a with st:=1}) {P with mt:=jU,mc:=SA} := {h with nt:=(by rw [bt];exact rB),st:=fR,sc:=SR.c}
   refine J3 ?_;refine cU Tryz.func55 rfl (fun w hm hc hg=>s8 (y:=x.now+1#64) rfl 3 (a:Nat) (-1) (c:Nat) w wF (by show x.ev.length≤_;omega) (Nat.le_trans cb hc.size) (hm.pick _)) (fF.m (y:=x.now+1#64) wF).bX (ao aL) ?_;rintro u40 WV ⟨rfl,ae,ne,ce,me,rfl,Cr⟩ pb;refine J1 ?_;refine mK (wy {x with now:=x.now+1#64} c,{P with mt:=jU,mc:=SA,ae:=ae,ne:=ne,ce:=ce,me:=me}) ?_
   · have e:wy {x with now:=x.now+1#64} c=ba (dh (iz {x with now:=x.now+1#64} c (fj (qg x.cs c))) a {gT x a with st:=1}) 3 a (-1) c:=(by unfold wy;rw [if_pos h1,show (qg ({x with now:=x.now+1#64} :aC).cs c).cur=(a:Int) from ha];rfl);exact⟨rfl,by rw [e];exact Cr,by rw [e];exact SR,ak aL pb,by rw [e];rfl⟩
  refine J1 ?_;refine mK (wy {x with now:=x.now+1#64} c,P) ?_
  · have e:wy {x with now:=x.now+1#64} c= {x with now:=x.now+1#64} :=(by unfold wy;rw [if_neg (by simpa using h1)]);exact⟨rfl,by rw [e];exact {h with},by rw [e];exact hX,aL,by rw [e]⟩
 rintro ⟨y,Q⟩ ⟨hy,hQ,SR,xU,l6⟩;change QM _ _ _ _ _ (az b s (x.now+1#64) Q++ []) _ _ _
 clear ig ii il ip ix it iv ie ic iq;obtain ⟨ig,ii,il,ip,ix,it,iv,ie,ic,iq⟩:=bM xU;have iA:MI (k+1) y:=(by rw [hy];exact Vb.wy HA);have p9:y.s=x.s:=(by rw [hy];exact xL ..);have PQ:c<y.cs.length:=(by have h1:=iA.ce;have h2:=hI.ce;rw [p9] at h1;omega);obtain ⟨rk,n2,gA,MR,H5,ZQ,GC,Et⟩:=SR.mm PQ;have Ru:=iA.ev;have ah5:=iA.tl;have alW:=hQ.st;have aey:=hQ.nt
 refine J3 ?_;refine af.bH (α:=Bool) (fun q=>[(53,.bool q)]) [(0,_),(1,_),(4,_)] (fun q=>az b s (x.now+1#64) Q++ []) (fun q=>q=(decide ((qg y.cs c).cur<0)&&decide (0<(qg y.cs c).l.length))) cm ?_ ?_
 ·refine J4 ?_;refine LM.eR (fun w hm hc hg=>fD (M:=dH (E6.getD c default) (qg y.cs c).g (qg y.cs c).fl rk n2 gA (qg y.cs c).cur (qg y.cs c).cI::MR) Tryz.isAgg3 rfl rfl w (Et w (hm.pick Q.mc))) ?_;refine J2 ?_;refine LM.ar (t:=46) rfl (fun h2=>?_) (fun h2=>?_)
  ·refine J4 ?_;refine LM.eR (fun w hm hc hg=>fD (M:=dH (E6.getD c default) (qg y.cs c).g (qg y.cs c).fl rk n2 gA (qg y.cs c).cur (qg y.cs c).cI::MR) Tryz.isAgg128 rfl rfl w (Et w (hm.pick Q.mc))) ?_;refine J4 ?_;refine mK (_) ?_
   · rw [decide_eq_true h2,Bool.true_and,H5];exact decide_eq_decide.2 om
  refine J8 ?_;refine mK (_) ?_
  · rw [decide_eq_false h2];rfl
 rintro q hq;change QM _ _ _ _ _ (az b s (x.now+1#64) Q++ []) _ _ _;refine J1 ?_;refine af.bH (α:=aC×sY) (fun ⟨z,V⟩=>[]) [(0,_),(1,_),(4,_)] (fun ⟨z,V⟩=>az b s (x.now+1#64) V++ []) (fun ⟨z,V⟩=>z=vO y c∧fF n0 b s z V∧Cv n0 V.bc z.cs mH nq jq E6 rj V.mc∧c6 (az b s x.now P) w.heap.size (az b s (x.now+1#64) V)∧z.now=x.now+1#64) cm ?_ ?_
 ·refine af.aW rfl (fun h3=>?_) (fun h3=>?_)
  ·have jK:(qg y.cs c).cur<0∧0<(qg y.cs c).l.length:=(by rw [hq,Bool.and_eq_true,decide_eq_true_eq,decide_eq_true_eq] at h3;exact h3);obtain ⟨PV,xT,hp3⟩:=yC ZQ jK.1 jK.2;obtain ⟨a,ha⟩:∃a:Nat,fN (qg y.cs c)=(a:Nat):=⟨(fN (qg y.cs c)).toNat,by omega⟩;have U6:a<y.ts.length:=(by have:=iA.ci.id c PQ _ xT;omega)
   refine J3 ?_;refine cU Tryz.func56 rfl (fun w hm hc hg=>SR.AY (i:=c) (x':=qj (qg y.cs c)) PQ (hm.pick Q.mc) (iA.ci.ZC PQ).wf (fun m hr hM=>(by have q:=Ch w hr hM;rw [ha] at q;exact q))) SR.c.bX (ao ic) ?_;rintro u55 W6 ⟨rfl,hX2⟩ Kn;have i55:=ak ic Kn;refine cL ?_;refine LM.iB ({gT y a with st:=2}) (j:=6) aA ir Tryz.sizeOf3 rfl rfl rfl (by first|exact bF om|exact aQ default cJ) rfl (by decide) (by rfl) rfl (ao aA) (fun jU fR kf=>?_)
   try rw [List.set_set] at fR
   have H0:=ca kf aA;refine J3 ?_;have wB:fF n0 b s (dh (iz y c (qj (qg y.cs c))) a {gT y a with st:=2}) {Q with mt:=jU,mc:=W6} := {hQ with nt:=(by rw [bt];exact aey),st:=fR,sc:=hX2.c}
   refine J3 ?_;refine cU Tryz.func55 rfl (fun w hm hc hg=>s8 (y:=x.now+1#64) (by exact l6) 2 (a:Nat) (-1) (c:Nat) w wB (by show y.ev.length≤_;omega) (Nat.le_trans cb hc.size) (hm.pick _)) (fF.m (hn:=l6) wB).bX (ao aL) ?_;rintro u66 m66 ⟨rfl,ae,ne,ce,me,rfl,h66⟩ YW;refine J1 ?_;refine mK (vO y c,{Q with mt:=jU,mc:=W6,ae:=ae,ne:=ne,ce:=ce,me:=me}) ?_
   · have e:vO y c=ba (dh (iz y c (qj (qg y.cs c))) a {gT y a with st:=2}) 2 a (-1) c:=(by unfold vO;rw [if_pos jK,ha];rfl);exact⟨rfl,by rw [e];exact h66,by rw [e];exact hX2,ak aL YW,by rw [e];exact l6⟩
  refine J1 ?_;refine mK (vO y c,Q) ?_
  · have e:vO y c=y:=(by unfold vO;rw [if_neg (by rw [hq] at h3;simpa using h3)]);exact⟨rfl,by rw [e];exact hQ,by rw [e];exact SR,xU,by rw [e];exact l6⟩
 rintro ⟨z,V⟩ ⟨hz,hV,hX3,UE,ZT⟩;change QM _ _ _ _ _ (az b s (x.now+1#64) V++ []) _ _ _
 clear ig ii il ip ix it iv ie ic iq;obtain ⟨ig,ii,il,ip,ix,it,iv,ie,ic,iq⟩:=bM UE;have qC:MI (k+2) z:=(by rw [hz];exact iA.vO PQ);have HW:z.s=x.s:=(by rw [hz];exact(F2 ..).trans p9);have Rh:c<z.cs.length:=(by have h1:=qC.ce;have h2:=hI.ce;rw [HW] at h1;omega);clear Et GC H5;obtain ⟨rk,n2,gA,MR,H5,ajY,GC,Et⟩:=hX3.mm Rh;have Y3:=hV.st;have aeB:=hV.nt;have amn:=hV.si;have adC:=hV.ni;have alp:=qC.il;have acL:=qC.ib
 refine J7 ?_;refine LM.eR (fun w hm hc hg=>fD (M:=dH (E6.getD c default) (qg z.cs c).g (qg z.cs c).fl rk n2 gA (qg z.cs c).cur (qg z.cs c).cI::MR) Tryz.isAgg3 rfl rfl w (Et w (hm.pick V.mc))) ?_;refine J3 ?_;refine af.bH (α:=sY) (fun R=>[]) [(0,_)] (fun R=>az b s (x.now+1#64) R++ []) (fun R=>fF n0 b s (tW z c) R∧c6 (az b s x.now P) w.heap.size (az b s (x.now+1#64) R)∧(tW z c).now=x.now+1#64) cm ?_ ?_
 ·refine af.aj rfl (fun h4=>?_) (fun h4=>?_)
  ·have hib:0≤z.idle.getD c 0∧z.idle.getD c 0≤((k+2:Nat):Int):=acL _ (List.mem_of_getElem? (aQ 0 om));refine J7 ?_;refine LM.rd (bu aA ir Tryz.isAgg3 rfl rfl (by first|exact bF om|exact aQ 0 cJ) (by rfl)) ?_;refine J2 ?_;refine LM.iB ((z.idle.getD c 0+1)) (j:=0) aA ir Tryz.sizeOf3 rfl rfl rfl (by first|exact bF om|exact aQ 0 cJ) rfl (by decide) (by rfl) rfl (ao aA) (fun jU fR kf=>?_)
   try rw [List.set_set] at fR
   have H0:=ca kf aA;refine J1 ?_;refine mK ({V with mi:=jU}) ?_
   · have e:tW z c= {z with idle:=z.idle.set c (z.idle.getD c 0+1)} :=(by unfold tW;rw [if_pos h4]);exact⟨by rw [e];exact {hV with ni:=(by show _=(z.idle.set _ _).length;rw [List.length_set];exact adC),si:=fR},aL,by rw [e];exact ZT⟩
  have qx:0≤(qg z.cs c).cur:=om;obtain ⟨hu1,Xb,hu3⟩:=qC.cur Rh qx;obtain ⟨hU1,Y7,hU3⟩:=qC.CD Rh qx;obtain ⟨a,ha⟩:∃a:Nat,(qg z.cs c).cur=(a:Nat):=⟨(qg z.cs c).cur.toNat,hu3.symm⟩;have U6:a<z.ts.length:=(by rw [ha] at Xb;exact Xb);have HY:0≤(z.ts.getD a default).ti∧(z.ts.getD a default).ti≤((k+2:Nat):Int):=(qC.tb a U6).ti;have hrn:=qC.ci.rn c Rh;have haN:(qg z.cs c).cur.toNat=a:=(by rw [ha];rfl);rw [haN] at Y7 hU3;have hUe:CD z c=dh (iz z c (fi (qg z.cs c))) a {gT z a with ti:=(gT z a).ti+1} :=(by unfold CD;rw [haN])
  refine J5 ?_;refine LM.eR (fun w hm hc hg=>fD (M:=dH (E6.getD c default) (qg z.cs c).g (qg z.cs c).fl rk n2 gA (qg z.cs c).cur (qg z.cs c).cI::MR) Tryz.isAgg3 rfl rfl w (Et w (hm.pick V.mc))) ?_;rw [ha];refine J6 ?_;refine cU Tryz.func57 rfl (fun w hm hc hg=>hX3.AY (i:=c) (x':=fi (qg z.cs c)) Rh (hm.pick V.mc) (qC.ci.tick Rh).wf (fun m hr hM=>Cb w hr om hM)) hX3.c.bX (ao ic) ?_;rintro u86 Rl ⟨rfl,hX4⟩ FC;have i86:=ak ic FC;refine dA ?_;refine LM.rd (aH (j:=11) aA ir Tryz.isAgg3 rfl rfl (by first|exact bF om|exact aQ default cJ) rfl (by rfl)) ?_;refine J3 ?_;refine LM.iB ({gT z a with ti:=(gT z a).ti+1}) (j:=11) aA ir Tryz.sizeOf3 rfl rfl rfl (by first|exact bF om|exact aQ default cJ) rfl (by decide) (by rfl) rfl (ao aA) (fun jU fR kf=>?_)
  try rw [List.set_set] at fR
  have H0:=ca kf aA;refine J8 ?_;refine af.aS (α:=Bool×aC×Nat×sY) (fun ⟨ov,v,f,W⟩=>[(8,.bool ov)]) [(0,_),(1,_),(7,_)] (fun ⟨ov,v,f,W⟩=>az b s (x.now+1#64) W++ []) (fun ⟨ov,v,f,W⟩=>fF n0 b s v W∧v.now=x.now+1#64∧c6 (az b s x.now P) w.heap.size (az b s (x.now+1#64) W)∧(ov=true→v=oW a c 64 (CD z c))∧(ov=false→oW a c 64 (CD z c)=oW a c f v∧Hs v a<f∧f≤64∧MI (k+3+300*(64-f)) v∧a<v.ts.length∧bO v.cs a<v.cs.length∧v.s=x.s)) (fun ⟨ov,v,f,W⟩=>f) ((false,CD z c,64,{V with mc:=Rl,mt:=jU})) cm aX ⟨by rw [hUe];exact {hV with nt:=(by rw [bt];exact aeB),st:=fR,sc:=hX4.c},by rw [hUe];exact ZT,aL,fun q=>(by cases q),fun _=>⟨rfl,Py hU1 Y7,Nat.le_refl _,hU1.mono om,Y7,hU3,by rw [hUe];exact HW⟩⟩ ?_;rintro ⟨ov,v,f,W⟩ ⟨hv,Ts,hnW,hov,aet⟩;change af _ _ _ _ _ _ _ (az b s (x.now+1#64) W++ []) _ _ _;refine J7 ?_;refine af.aW rfl (fun h5=>?_) (fun h5=>?_)
  ·have aeS:ov=false:=(by simpa using h5);obtain ⟨g1,g2,g3,g4,g5,g6,g7⟩:=aet aeS;have ZU:c<v.cs.length:=(by have q1:=g4.ce;have q2:=hI.ce;rw [g7] at q1;omega);obtain ⟨f',hff⟩:∃f',f=f'+1:=⟨f-1,by omega⟩
   refine J7 ?_;refine cU Tryz.func58 rfl (fun w hm hc hg=>DB w (hv.m (hn:=Ts)) g4 om g5 ZU (hs.keep jL hc (fun b' hb=>by obtain ⟨p,hp,e⟩:=hb;rw [←e];exact h.ge p hp)) jL (Nat.le_trans cb hc.size) (hm.pick _)) (hv.m (hn:=Ts)).bX (ao hnW) ?_;rintro aih alY ⟨rfl,W1,hW1,aef⟩ RR;rw [tU,Ts] at hW1;subst hW1;refine J3 ?_;refine aK ((e9 v a c).2,(e9 v a c).1,f-1,W1) ?_ ?_
   · exact⟨aef,by rw [tU];exact Ts,ak hnW RR,fun q=>by rw [g1,hff,Ud q],fun q=>by {obtain ⟨e1,e2,e3,e4⟩:=rN g4 g5 g6 q;exact⟨by rw [g1,hff,Tf (by rw [q];simp)];rfl,by omega,by omega,(g4.X2 g5 ZU g6).mono om,e2,e3,e4.trans g7⟩}⟩
   · (dsimp only;omega)
  refine J4 ?_;refine mK (W) ?_
  · have e:tW z c=v:=(by rw [hov (by simpa using h5)];unfold tW;rw [if_neg h4,haN];rw [←haN];rfl);exact⟨by rw [e];exact hv,hnW,by rw [e];exact Ts⟩
 rintro R ⟨hR,hnR,hRn⟩;change QM _ _ _ _ _ (az b s (x.now+1#64) R++ []) _ _ _;have Un:MI (k+2+19300) (tW z c):=qC.tW Rh;have U2:dW n0 b s (tW z c) (az b s (x.now+1#64) R):=hR.m (hn:=hRn);refine J3 ?_;refine cU Tryz.func31 rfl (fun w hm hc hg=>je w U2 Un (Nat.le_trans cb hc.size) (hm.pick _)) U2.bX (ao hnR) ?_;rintro aiL abQ ⟨rfl,aaN⟩ RO;refine J1 ?_;refine QM.leave (.inr rfl) [] Tryz.results25 rfl ?_;intro w' aq ab aI;exact aZ (m':=abQ) ⟨rfl,by rw [show tx x c=jS (tW z c) by rw [hz,hy];rfl];exact aaN⟩ aq aX ab (ak hnR RO)
abbrev nr (b:Nat) (a:Act):Nat×Obj:=(b,.cells (fA a).toArray 37 (0,0))
set_option maxHeartbeats 4000000 in
theorem Hx {n0 b k:Nat} {s:eM} {x:aC} {m:aa} (a:Act) (w:World) (h:dW n0 b s x m) (hI:MI k x) (hk:k≤500000000000) (hs:s.In w) (jL:s.Old n0) (cb:n0≤w.heap.size) (hM:Mem w m):aJ Tryz.prog 8 #[.pointer (some ⟨b,0,none⟩),.agg (fA a).toArray] w (eF m (fun u m'=>u= .int .i64 (dd x a)∧dW n0 b s (js x a) m') w):=by
 obtain ⟨P,rfl,h⟩:=h;have uc:=hI.tl;have rB:=h.nt;have eb:=h.ne;have Ea:=h.ng;have vr:=h.nl;have Dh:x.s.cr=s.cr:=(by rw [h.hs];rfl);have ZJ:x.s.ps.length=s.pn:=(by rw [h.hs,hs.CC];exact List.length_map ..);have xz:dW n0 b s x (az b s x.now P):=h.m;obtain ⟨ig,ii,il,ip,ix,it,iv,ie,ic,iq⟩:=bM (ay (az b s x.now P) w.heap.size);refine aJ.au Tryz.func8 rfl Tryz.ntmps8 rfl (az b s x.now P++ []) ((fQ (az b s x.now P))) aM ?_;refine J2 ?_;refine LM.box rfl rfl (fun b3 Jc=>?_);refine lh ?_;refine af.aj rfl (fun h1=>?_) (fun h1=>?_)
 ·refine J7 ?_;refine qL Tryz.results8 rfl fun w' aq ab aI=>?_;have hE:dd x a=3:=(by unfold dd;rw [if_pos om]);rw [hE,ek (by rw [hE];decide)];exact aZ (m':=az b s x.now P) ⟨rfl,xz⟩ aq aX ab (ay _ _)
 have hv:¬50000≤x.ev.length:=om;refine ET ?_;refine af.aj rfl (fun h2=>?_) (fun h2=>?_)
 ·refine J2 ?_;refine af.bH (α:=Bool) (fun q=>[(34,.bool q)]) [(0,_),(3,_)] (fun q=>az b s x.now P++(nr b3 a:: [])) (fun q=>q=true↔(a.a<0∨s.cr≤a.a)) cm ?_ ?_
  ·refine af.draw [(0,0),(1,1),(2,0),(3,0),(4,0),(5,1),(6,0),(7,0),(8,0),(9,0),(10,1),(11,0),(12,0)] kr kr ?_;refine J4 ?_;refine LD.ar (t:=25) rfl (fun h3=>?_) (fun h3=>?_)
   ·refine cf ?_;refine mK (_) ?_
    · simp<;>omega
   refine cf ?_;refine mK (_) ?_
   · simp<;>omega
  rintro q hq;change QM _ _ _ _ _ (az b s x.now P++(nr b3 a:: [])) _ _ _;refine J1 ?_;refine af.aW rfl (fun h4=>?_) (fun h4=>?_)
  ·refine J9 ?_;refine qL Tryz.results8 rfl fun w' aq ab aI=>?_;have hE:dd x a=1:=(by rw [Vr hv h2,if_pos (by rw [Dh];exact hq.1 h4)]);rw [hE,ek (by rw [hE];decide)];exact aZ (m':=az b s x.now P) ⟨rfl,xz⟩ aq aX ab (ay _ _)
  have Q6:¬(a.a<0∨s.cr≤a.a):=(fun e=>by rw [hq.2 e] at h4;cases h4);obtain ⟨c,hca⟩:∃c:Nat,a.a=(c:Nat):=⟨a.a.toNat,by omega⟩;have hcc:c<x.cs.length:=(by have:=hI.ce;omega)
  refine J9 ?_;refine LM.val (M9 (b:=1048576#64) rfl rfl) ?_;refine J2 ?_;refine af.aj rfl (fun h5=>?_) (fun h5=>?_)
  ·refine J9 ?_;refine qL Tryz.results8 rfl fun w' aq ab aI=>?_;have hE:dd x a=2:=(by rw [Vr hv h2,if_neg (by rw [Dh];exact Q6),if_pos (by first|exact h5|omega)]);rw [hE,ek (by rw [hE];decide)];exact aZ (m':=az b s x.now P) ⟨rfl,xz⟩ aq aX ab (ay _ _)
  refine J6 ?_;refine cU Tryz.func25 rfl (fun w hm hc hg=>(by have q:=vM (c:=c) w xz hI om hcc (hs.keep jL hc (fun b' hb=>by obtain ⟨p,hp,e⟩:=hb;rw [←e];exact h.ge p hp)) jL (Nat.le_trans cb hc.size) (hm.pick _);rw [←hca] at q;exact q)) xz.bX (ao (ay _ _)) ?_;rintro u43 m43 ⟨rfl,h43⟩ JN;refine J9 ?_;refine qL Tryz.results8 rfl fun w' aq ab aI=>?_;have hE:dd x a=0:=(by rw [Vr hv h2,if_neg (by rw [Dh];exact Q6),if_neg (by first|exact h5|omega)]);rw [hE,dx1 hE h2,show a.a.toNat=c by omega];exact aZ (m':=m43) ⟨rfl,h43⟩ aq aX ab JN
 refine J6 ?_;refine af.aj rfl (fun h6=>?_) (fun h6=>?_)
 ·refine J2 ?_;refine cU Tryz.func26 rfl (fun w hm hc hg=>vQ w xz hI om (Nat.le_trans cb hc.size) (hm.pick _)) xz.bX (ao (ay _ _)) ?_;rintro u47 m47 ⟨rfl,h47⟩ Yu;refine J9 ?_;refine qL Tryz.results8 rfl fun w' aq ab aI=>?_;have hE:dd x a=0:=do2 hv h6;rw [hE,dx2 hE h6];exact aZ (m':=m47) ⟨rfl,h47⟩ aq aX ab Yu
 refine J6 ?_;refine af.aj rfl (fun h7=>?_) (fun h7=>?_)
 ·refine J6 ?_;refine cU Tryz.func27 rfl (fun w hm hc hg=>Es w h.sc (Nat.le_trans cb hc.size) (hm.pick P.mc)) h.sc.bX (ao ic) ?_;rintro u55 W6 ⟨rfl,T5⟩ Kn;have i55:=ak ic Kn;have hMb:dW n0 b s {x with cs:=jz x.cs} (az b s x.now {P with mc:=W6}):=fF.m {h with sc:=T5};refine ET ?_;refine af.aj rfl (fun h8=>?_) (fun h8=>?_)
  ·have V4:jz x.cs=x.cs:=L7 hI.ci.wf aA;refine J9 ?_;refine qL Tryz.results8 rfl fun w' aq ab aI=>?_;have hE:dd x a=4:=(by rw [do3 hv h7,if_pos h8]);rw [hE,ek (by rw [hE];decide)];exact aZ (m':=az b s x.now {P with mc:=W6}) ⟨rfl,fF.m {h with sc:=(by rw [V4] at T5;exact T5)}⟩ aq aX ab aL
  obtain ⟨Cm,tn⟩:=Kt hI om;obtain ⟨t,DL⟩:∃t:Nat,iC x.cs=(t:Nat):=⟨(iC x.cs).toNat,by omega⟩
  refine J6 ?_;refine cU Tryz.func28 rfl (fun w hm hc hg=>(by have q:=vC (t:=t) (tg x.cs) w hMb hI.Wn om (by show t<x.ts.length;rw [DL] at Cm;exact Cm) (Nat.le_trans cb hc.size) (hm.pick _);rw [←DL] at q;exact q)) hMb.bX (ao aL) ?_;rintro u64 m64 ⟨rfl,zZ⟩ uU;refine J9 ?_;refine qL Tryz.results8 rfl fun w' aq ab aI=>?_;have hE:dd x a=0:=(by rw [do3 hv h7,if_neg h8]);rw [hE,dx3 hE h7,show (iC x.cs).toNat=t by omega];exact aZ (m':=m64) ⟨rfl,zZ⟩ aq aX ab (ak aL uU)
 refine J6 ?_;refine af.aj rfl (fun h9=>?_) (fun h9=>?_)
 ·refine J2 ?_;refine af.bH (α:=Bool) (fun q=>[(120,.bool q)]) [(0,_),(3,_)] (fun q=>az b s x.now P++(nr b3 a:: [])) (fun q=>q=true↔(a.a<0∨(s.pn:Int)≤a.a∨a.b<0∨(P.ng:Int)≤a.b∨a.c<1∨16<a.c∨a.d<0∨s.cr≤a.d)) cm ?_ ?_
  ·refine af.draw [(0,0),(1,1),(2,0),(3,0),(4,0),(5,1),(6,0),(7,0),(8,0),(9,0),(10,1),(11,0),(12,0),(13,0),(14,0),(15,0),(16,1),(17,0),(18,0),(19,0),(20,0),(21,1),(22,0),(23,0),(24,0),(25,1),(26,0),(27,0),(28,0),(29,0),(30,0),(31,1),(32,0),(33,0),(34,0),(35,0),(36,1),(37,0),(38,0),(39,0),(40,0),(41,1),(42,0),(43,0),(44,0),(45,0),(46,1),(47,0),(48,0),(49,0),(50,0),(51,1),(52,0),(53,0)] kr kr ?_;refine J4 ?_;refine LD.ar (t:=70) rfl (fun iT=>?_) (fun iT=>?_)
   ·refine J51 ?_;refine mK (_) ?_
    · simp<;>omega
   refine dA ?_;refine LD.ar (t:=81) rfl (fun kg=>?_) (fun kg=>?_)
   ·refine J40 ?_;refine mK (_) ?_
    · simp<;>omega
   refine J5 ?_;refine LD.ar (t:=86) rfl (fun gJ=>?_) (fun gJ=>?_)
   ·refine J35 ?_;refine mK (_) ?_
    · simp<;>omega
   refine cf ?_;refine LD.ar (t:=96) rfl (fun ow=>?_) (fun ow=>?_)
   ·refine J25 ?_;refine mK (_) ?_
    · simp<;>omega
   refine J5 ?_;refine LD.ar (t:=101) rfl (fun jt=>?_) (fun jt=>?_)
   ·refine UT ?_;refine mK (_) ?_
    · simp<;>omega
   refine J5 ?_;refine LD.ar (t:=106) rfl (fun wY=>?_) (fun wY=>?_)
   ·refine tO ?_;refine mK (_) ?_
    · simp<;>omega
   refine J5 ?_;refine LD.ar (t:=111) rfl (fun tv=>?_) (fun tv=>?_)
   ·refine cf ?_;refine mK (_) ?_
    · simp<;>omega
   refine cf ?_;refine mK (_) ?_
   · simp<;>omega
  rintro q hq;change QM _ _ _ _ _ (az b s x.now P++(nr b3 a:: [])) _ _ _;refine J1 ?_;refine af.aW rfl (fun pM=>?_) (fun pM=>?_)
  ·refine J9 ?_;refine qL Tryz.results8 rfl fun w' aq ab aI=>?_;have hE:dd x a=1:=(by rw [do4 hv h9,if_pos (by rw [Dh,ZJ,←Ea];exact hq.1 pM)]);rw [hE,ek (by rw [hE];decide)];exact aZ (m':=az b s x.now P) ⟨rfl,xz⟩ aq aX ab (ay _ _)
  refine J6 ?_;refine cE Tryz.func29 rfl (fun w hm hc hg=>sE w xz uc (hm.pick _)) ?_;refine J3 ?_;refine af.aW rfl (fun sS=>?_) (fun sS=>?_)
  ·refine J9 ?_;refine qL Tryz.results8 rfl fun w' aq ab aI=>?_;have hE:dd x a=3:=(by rw [do4 hv h9,if_neg (by rw [Dh,ZJ,←Ea];exact fun e=>by rw [hq.2 e] at pM;cases pM),if_neg (by simpa using sS)]);rw [hE,ek (by rw [hE];decide)];exact aZ (m':=az b s x.now P) ⟨rfl,xz⟩ aq aX ab (ay _ _)
  have ade:x.ts.length<64:=(by have hr:iJ x=true:=(by simpa using sS);unfold iJ at hr;simp only [Bool.and_eq_true,decide_eq_true_eq] at hr;exact hr.2);have Q6:¬(a.a<0∨(s.pn:Int)≤a.a∨a.b<0∨(P.ng:Int)≤a.b∨a.c<1∨16<a.c∨a.d<0∨s.cr≤a.d):=(fun e=>by rw [hq.2 e] at pM;cases pM)
  refine gz ?_;refine cU Tryz.func30 rfl (fun w hm hc hg=>uI a.a a.b a.c a.d w xz uc (by have:=hI.vl;omega) (by have:=hI.ev;omega) (Nat.le_trans cb hc.size) (hm.pick _)) xz.bX (ao (ay _ _)) ?_;rintro akK ajR ⟨rfl,YK⟩ JZ;refine J4 ?_;refine cU Tryz.func31 rfl (fun w hm hc hg=>je w YK (hI.MP a.a a.b a.c a.d om ade) (Nat.le_trans cb hc.size) (hm.pick _)) YK.bX (ao JZ) ?_;rintro Xf LU ⟨rfl,Tg⟩ DQ;refine J9 ?_;refine qL Tryz.results8 rfl fun w' aq ab aI=>?_;have hE:dd x a=0:=(by rw [do4 hv h9,if_neg (by rw [Dh,ZJ,←Ea];exact Q6),if_pos (by simpa using sS)]);rw [hE,dx4 hE h9];exact aZ (m':=LU) ⟨rfl,Tg⟩ aq aX ab (ak JZ DQ)
 refine J6 ?_;refine af.aj rfl (fun CA=>?_) (fun CA=>?_)
 ·refine J2 ?_;refine af.bH (α:=Bool) (fun q=>[(150,.bool q)]) [(0,_),(3,_)] (fun q=>az b s x.now P++(nr b3 a:: [])) (fun q=>q=true↔(a.a<0∨(P.nt:Int)≤a.a)) cm ?_ ?_
  ·refine af.draw [(0,0),(1,1),(2,0),(3,0),(4,0),(5,1),(6,0),(7,0),(8,0),(9,1),(10,0),(11,0),(12,0)] kr kr ?_;refine J4 ?_;refine LD.ar (t:=141) rfl (fun w5=>?_) (fun w5=>?_)
   ·refine cf ?_;refine mK (_) ?_
    · simp<;>omega
   refine cf ?_;refine mK (_) ?_
   · simp<;>omega
  rintro q hq;change QM _ _ _ _ _ (az b s x.now P++(nr b3 a:: [])) _ _ _;refine J1 ?_;refine af.aW rfl (fun H8=>?_) (fun H8=>?_)
  ·refine J9 ?_;refine qL Tryz.results8 rfl fun w' aq ab aI=>?_;have hE:dd x a=4:=(by rw [ZO hv CA,if_pos (by rw [←rB];exact hq.1 H8)]);rw [hE,ek (by rw [hE];decide)];exact aZ (m':=az b s x.now P) ⟨rfl,xz⟩ aq aX ab (ay _ _)
  have hq5:¬(a.a<0∨(P.nt:Int)≤a.a):=(fun e=>by rw [hq.2 e] at H8;cases H8);obtain ⟨t,DL⟩:∃t:Nat,a.a=(t:Nat):=⟨a.a.toNat,by omega⟩;have xp:t<x.ts.length:=om;have er:=h.st;have HX:0≤a.a∧a.a<(P.nt:Int):=om;refine J4 ?_;refine af.draw [(0,0),(1,0),(2,0),(3,1),(4,0),(5,1),(6,0),(7,0),(8,1),(9,0)] kr kr ?_;refine J6 ?_;refine LD.val rfl rfl (cP pe Tryz.underlying45 Tryz.sizeOf66 rfl rfl om) ?_;refine J1 ?_;refine LD.rd rfl rfl (aH (j:=6) aA ir Tryz.isAgg3 rfl rfl (by first|exact bF om|exact aQ default cJ) rfl (by rfl)) ?_;refine J3 ?_;refine af.aj rfl (fun L5=>?_) (fun L5=>?_)
  ·refine J9 ?_;refine qL Tryz.results8 rfl fun w' aq ab aI=>?_;have hE:dd x a=11:=(by rw [ZO hv CA,if_neg (by rw [←rB];exact hq5),if_pos L5]);rw [hE,ek (by rw [hE];decide)];exact aZ (m':=az b s x.now P) ⟨rfl,xz⟩ aq aX ab (ay _ _)
  refine J7 ?_;refine cU Tryz.func32 rfl (fun w hm hc hg=>(by have q:=pq (t:=t) w xz hI om xp (Nat.le_trans cb hc.size) (hm.pick _);rw [←DL] at q;exact q)) xz.bX (ao (ay _ _)) ?_;rintro amj ak2 ⟨rfl,V7⟩ Lg;refine J4 ?_;refine cU Tryz.func31 rfl (fun w hm hc hg=>je w V7 (hI.die xp) (Nat.le_trans cb hc.size) (hm.pick _)) V7.bX (ao Lg) ?_;rintro ajE acS ⟨rfl,ab6⟩ TQ;refine J9 ?_;refine qL Tryz.results8 rfl fun w' aq ab aI=>?_;have hE:dd x a=0:=(by rw [ZO hv CA,if_neg (by rw [←rB];exact hq5),if_neg L5]);rw [hE,dx5 hE CA,show a.a.toNat=t by omega];exact aZ (m':=acS) ⟨rfl,ab6⟩ aq aX ab (ak Lg TQ)
 refine J6 ?_;refine af.aj rfl (fun HZ=>?_) (fun HZ=>?_)
 ·refine J2 ?_;refine af.bH (α:=Bool) (fun q=>[(191,.bool q)]) [(0,_),(3,_)] (fun q=>az b s x.now P++(nr b3 a:: [])) (fun q=>q=true↔(a.a<0∨(P.ng:Int)≤a.a∨a.b<1∨16<a.b)) cm ?_ ?_
  ·refine af.draw [(0,0),(1,1),(2,0),(3,0),(4,0),(5,1),(6,0),(7,0),(8,0),(9,1),(10,0),(11,0),(12,0),(13,0),(14,0),(15,1),(16,0),(17,0),(18,0),(19,0),(20,1),(21,0),(22,0)] kr kr ?_;refine J4 ?_;refine LD.ar (t:=172) rfl (fun Zf=>?_) (fun Zf=>?_)
   ·refine UT ?_;refine mK (_) ?_
    · simp<;>omega
   refine cf ?_;refine LD.ar (t:=182) rfl (fun tH=>?_) (fun tH=>?_)
   ·refine cf ?_;refine mK (_) ?_
    · simp<;>omega
   refine J5 ?_;refine LD.ar (t:=187) rfl (fun Qd=>?_) (fun Qd=>?_)
   ·refine J5 ?_;refine mK (_) ?_
    · simp<;>omega
   refine J5 ?_;refine mK (_) ?_
   · simp<;>omega
  rintro q hq;change QM _ _ _ _ _ (az b s x.now P++(nr b3 a:: [])) _ _ _;refine J1 ?_;refine af.aW rfl (fun ZZ=>?_) (fun ZZ=>?_)
  ·refine J9 ?_;refine qL Tryz.results8 rfl fun w' aq ab aI=>?_;have hE:dd x a=1:=(by rw [do6 hv HZ,if_pos (by rw [←Ea];exact hq.1 ZZ)]);rw [hE,ek (by rw [hE];decide)];exact aZ (m':=az b s x.now P) ⟨rfl,xz⟩ aq aX ab (ay _ _)
  have hq6:¬(a.a<0∨(P.ng:Int)≤a.a∨a.b<1∨16<a.b):=(fun e=>by rw [hq.2 e] at ZZ;cases ZZ);have B9:=h.sg;have HX:0≤a.a∧a.a<(P.ng:Int):=om;refine J3 ?_;refine af.keep (vE b s x.now P::nr b3 a:: []) (fun _=>True) (.one 0 0 (.one 1 0 (.one 2 0 (.one 3 1 (.one 4 0 (.one 5 1 (.one 6 0 (.one 7 1 (.one 8 0 (.last 9)))))))))) kr kr aX (fun _ _=>trivial) ?_;refine J8 ?_;refine KD.val rfl rfl (cP pe Tryz.underlying26 Tryz.sizeOf3 rfl rfl om) ?_;refine KD.last rfl ?_;refine LM.iB (a.b) (j:=0) aA ir Tryz.sizeOf3 rfl rfl rfl (by first|exact bF om|exact aQ 0 cJ) rfl (by decide) (by rfl) rfl (ao aA) (fun l5 de dJ=>?_)
  try rw [List.set_set] at de
  have G2:=ca dJ aA;refine J1 ?_;refine QM.qn ?_;refine J7 ?_;refine af.aS (α:=Nat×List aY×aa) (fun ⟨i,ls,mq⟩=>[(8,.int .i64 (i:Nat))]) [(0,_),(3,_)] (fun ⟨i,ls,mq⟩=>vE b s x.now P::gR P.bg P.ax P.nx P.cx::(P.mi++(P.ml++(l5++(P.mx++(P.mt++(P.mv++(P.me++(P.mc++(mq++(nr b3 a:: []))))))))))) (fun ⟨i,ls,mq⟩=>i≤x.lk.length∧ls=Hq (fun L=>iu L a.a a.b) x.lk i∧jZ MF n0 P.bs ls mq∧c6 (az b s x.now P) w.heap.size mq) (fun ⟨i,ls,mq⟩=>x.lk.length-i) ((0,x.lk,P.mq)) cm aX ⟨Nat.zero_le _,rfl,h.sq,iq⟩ ?_;rintro ⟨i,ls,mq⟩ ⟨hi,tV,HQ,UP⟩;change af _ _ _ _ _ _ _ (vE b s x.now P::gR P.bg P.ax P.nx P.cx::(P.mi++(P.ml++(l5++(P.mx++(P.mt++(P.mv++(P.me++(P.mc++(mq++(nr b3 a:: []))))))))))) _ _ _;have Jo:ls.length=x.lk.length:=(by rw [tV,lC]);have te:=h.bl;have fY:=h.sl;have NV:=hI.l8;refine cL ?_;refine af.aj rfl (fun h28=>?_) (fun h28=>?_)
  ·refine J4 ?_;refine af.draw [(0,0),(1,0),(2,0),(3,1),(4,0),(5,0),(6,1),(7,0),(8,1),(9,0),(10,1),(11,3)] kr kr ?_;refine J6 ?_;refine LD.rd rfl rfl (bu aA ir Tryz.isAgg54 rfl rfl (by first|exact bF om|exact aQ default cJ) (by rfl)) ?_;refine J4 ?_;refine LD.tail rfl rfl ?_;refine cU Tryz.func33 rfl (fun w hm hc hg=>HQ.AY Dj (i:=i) om (hm.pick mq) (fun m hr hM=>C7 a.a a.b w hr hM)) (HQ.bX Dj) (ao UP) ?_;rintro aiP acZ ⟨rfl,ae5⟩ TG;refine J1 ?_;refine QM.qn ?_;refine J7 ?_;refine aK (i+1,ls.set i (iu (qg ls i) a.a a.b),acZ) ?_ ?_
   · exact⟨by omega,by rw [tV];rfl,ae5,ak UP TG⟩
   · (dsimp only;omega)
  refine cL ?_;refine qL Tryz.results8 rfl fun w' aq ab aI=>?_;have fp:i=x.lk.length:=om;subst fp;rw [Dq] at tV;have hE:dd x a=0:=(by rw [do6 hv HZ,if_neg (by rw [←Ea];exact hq6)]);rw [hE,dx6 hE HZ];exact aZ (m':=az b s x.now {P with mg:=l5,mq:=mq}) ⟨rfl,fF.m {h with ng:=(by show _=(x.gp.set _ _).length;rw [List.length_set];exact Ea),sg:=de,nl:=(by show _=(x.lk.map _).length;rw [List.length_map];exact vr),bl:=(by show _=(x.lk.map _).length;rw [List.length_map];exact te),sq:=(by rw [tV] at HQ;exact HQ)}⟩ aq aX ab aL
 refine J6 ?_;refine af.aj rfl (fun Zp=>?_) (fun Zp=>?_)
 ·refine J1 ?_;refine af.draw [(0,0),(1,0),(2,0),(3,1),(4,0),(5,1),(6,0),(7,1),(8,3),(9,3)] kr kr ?_;refine J8 ?_;refine LD.tail rfl rfl ?_;refine cU Tryz.func34 rfl (fun w hm hc hg=>C5 a.a a.b w h.sc (Nat.le_trans cb hc.size) (hm.pick P.mc)) h.sc.bX (ao ic) ?_;rintro alQ Xu ⟨rfl,JI⟩ RF;have i232:=ak ic RF;refine J2 ?_;refine QM.qn ?_;refine J8 ?_;refine af.aj rfl (fun h30=>?_) (fun h30=>?_)
  ·refine cf ?_;refine qL Tryz.results8 rfl fun w' aq ab aI=>?_;have hE:dd x a=eH x.cs a.b a.a:=do7 hv Zp;rw [hE,ek (by rw [hE];exact h30)];exact aZ (m':=az b s x.now {P with mc:=Xu}) ⟨rfl,fF.m {h with sc:=(by rw [kG h30] at JI;exact JI)}⟩ aq aX ab aL
  have hE7:eH x.cs a.b a.a=0:=om;obtain ⟨hm1,KB,hm3,hm4,hm5⟩:=Fo hE7;obtain ⟨aj0,Xl⟩:=hI.ids hm1;obtain ⟨t,DL⟩:∃t:Nat,a.a=(t:Nat):=⟨a.a.toNat,by omega⟩;have hMv:dW n0 b s {x with cs:=jF x.cs a.b a.a} (az b s x.now {P with mc:=Xu}):=fF.m {h with sc:=JI};refine J8 ?_;refine cU Tryz.func28 rfl (fun w hm hc hg=>(by have q:=vC (t:=t) a.b w hMv (hI.Ym a.b a.a) om (by show t<x.ts.length;rw [DL] at Xl;exact Xl) (Nat.le_trans cb hc.size) (hm.pick _);rw [←DL] at q;exact q)) hMv.bX (ao aL) ?_;rintro akE aeh ⟨rfl,ae1⟩ TX;refine J9 ?_;refine qL Tryz.results8 rfl fun w' aq ab aI=>?_;have hE:dd x a=0:=(do7 hv Zp).trans hE7;rw [hE,dx7 hE Zp,show a.a.toNat=t by omega];exact aZ (m':=aeh) ⟨rfl,ae1⟩ aq aX ab (ak aL TX)
 refine J6 ?_;refine af.aj rfl (fun Vo=>?_) (fun Vo=>?_)
 ·refine J2 ?_;refine af.bH (α:=Bool) (fun q=>[(251,.bool q)]) [(0,_),(3,_)] (fun q=>az b s x.now P++(nr b3 a:: [])) (fun q=>q=true↔(a.a<0∨200<a.a)) cm ?_ ?_
  ·refine J5 ?_;refine LM.ar (t:=247) rfl (fun h32=>?_) (fun h32=>?_)
   ·refine J5 ?_;refine mK (_) ?_
    · simp<;>omega
   refine J6 ?_;refine mK (_) ?_
   · simp<;>omega
  rintro q hq;change QM _ _ _ _ _ (az b s x.now P++(nr b3 a:: [])) _ _ _;refine J1 ?_;refine af.aW rfl (fun UI=>?_) (fun UI=>?_)
  ·refine J9 ?_;refine qL Tryz.results8 rfl fun w' aq ab aI=>?_;have hE:dd x a=1:=(by rw [ZD hv Vo,if_pos (hq.1 UI)]);rw [hE,ek (by rw [hE];decide)];exact aZ (m':=az b s x.now P) ⟨rfl,xz⟩ aq aX ab (ay _ _)
  have hc4:=tS hI.ms;have hq8:¬(a.a<0∨200<a.a):=(fun e=>by rw [hq.2 e] at UI;cases UI);have hmul:0≤a.a*s.cr∧a.a*s.cr≤800:=(by rw [Dh] at hc4;rcases (show s.cr=1∨s.cr=2∨s.cr=3∨s.cr=4 by omega) with e|e|e|e<;>rw [e] <;>omega)
  refine J4 ?_;refine af.draw [(0,0),(1,0),(2,0),(3,1),(4,0),(5,1),(6,0),(7,0),(8,0),(9,0),(10,1),(11,0),(12,0),(13,0),(14,0)] kr kr ?_;refine dA ?_;refine LD.val rfl rfl (AE rfl rfl om) ?_;refine LD.val rfl rfl (nH Tryz.underlying3 Tryz.underlying41 rfl) ?_;refine LD.val rfl rfl (gY rfl rfl) ?_;refine LD.val rfl rfl (mb (b:=1048576#64) rfl rfl) ?_;refine J2 ?_;refine af.aj rfl (fun QQ=>?_) (fun QQ=>?_)
  ·refine J9 ?_;refine qL Tryz.results8 rfl fun w' aq ab aI=>?_;have hE:dd x a=2:=(by rw [ZD hv Vo,if_neg (fun e=>by rw [hq.2 e] at UI;cases UI),if_pos (by rw [Dh];exact QQ)]);rw [hE,ek (by rw [hE];decide)];exact aZ (m':=az b s x.now P) ⟨rfl,xz⟩ aq aX ab (ay _ _)
  refine J8 ?_;refine af.aS (α:=Nat×aC×sY) (fun ⟨i,y,Y⟩=>[(10,.int .i64 (i:Nat))]) [(0,_),(3,_)] (fun ⟨i,y,Y⟩=>az b s y.now Y++(nr b3 a:: [])) (fun ⟨i,y,Y⟩=>i≤a.a.toNat∧y=wX x i∧fF n0 b s y Y∧c6 (az b s x.now P) w.heap.size (az b s y.now Y)) (fun ⟨i,y,Y⟩=>a.a.toNat-i) ((0,x,P)) cm aX ⟨Nat.zero_le _,rfl,h,ay _ _⟩ ?_;rintro ⟨i,y,Y⟩ ⟨hi,hy,hY,hnY⟩;change af _ _ _ _ _ _ _ (az b s y.now Y++(nr b3 a:: [])) _ _ _;have iA:MI (k+100000*i) y:=(by rw [hy];exact hI.B4 i);have p9:y.s=x.s:=(by rw [hy];exact CV ..)
  refine J9 ?_;refine af.aj rfl (fun h35=>?_) (fun h35=>?_)
  ·refine dA ?_;refine af.aS (α:=Nat×aC×sY) (fun ⟨c,v,V⟩=>[(11,.int .i64 (c:Nat))]) [(0,_),(3,_),(10,_)] (fun ⟨c,v,V⟩=>az b s v.now V++(nr b3 a:: [])) (fun ⟨c,v,V⟩=>c≤y.s.cr.toNat∧v=xd y c∧fF n0 b s v V∧c6 (az b s x.now P) w.heap.size (az b s v.now V)) (fun ⟨c,v,V⟩=>y.s.cr.toNat-c) ((0,y,Y)) cm aX ⟨Nat.zero_le _,rfl,hY,hnY⟩ ?_;rintro ⟨c,v,V⟩ ⟨hc9,Zr,hV,UE⟩;change af _ _ _ _ _ _ _ (az b s v.now V++(nr b3 a:: [])) _ _ _;have hIv:MI (k+100000*i+19400*c) v:=(by rw [Zr];exact iA.PS hc9);have hvs:v.s=y.s:=(by rw [Zr];exact Bq ..);have h4v:=hIv.len;have ak0:y.s.cr=s.cr:=(by rw [p9];exact Dh);have h4y:=iA.len;rw [hvs] at h4v;refine cL ?_;refine af.aj rfl (fun U9=>?_) (fun U9=>?_)
   ·have ZU:c<v.cs.length:=om;refine J7 ?_;refine cU Tryz.func25 rfl (fun w hm hc hg=>vM w (fF.m hV) hIv om ZU (hs.keep jL hc (fun b' hb=>by obtain ⟨p,hp,e⟩:=hb;rw [←e];exact h.ge p hp)) jL (Nat.le_trans cb hc.size) (hm.pick _)) (fF.m hV).bX (ao UE) ?_;rintro aku ahN ⟨rfl,V1,rfl,abg⟩ TC;refine J8 ?_;refine aK (c+1,tx v c,V1) ?_ ?_
    · exact⟨by omega,by rw [qT,←Zr],abg,ak UE TC⟩
    · (dsimp only;omega)
   have hcE:c=y.s.cr.toNat:=om;have WD:AG y=uz v:=(by rw [Zr,hcE];rfl)
   refine J7 ?_;refine cU Tryz.func26 rfl (fun w hm hc hg=>vQ w (fF.m hV) hIv om (Nat.le_trans cb hc.size) (hm.pick _)) (fF.m hV).bX (ao UE) ?_;rintro ak1 amq ⟨rfl,V2,rfl,aaK⟩ Tx;refine J8 ?_;refine aK (i+1,uz v,V2) ?_ ?_
   · exact⟨by omega,by rw [←WD,hy];rfl,aaK,ak UE Tx⟩
   · (dsimp only;omega)
  refine cL ?_;refine qL Tryz.results8 rfl fun w' aq ab aI=>?_;have fp:i=a.a.toNat:=om;have hE:dd x a=0:=(by rw [ZD hv Vo,if_neg hq8,if_neg (by rw [Dh];exact QQ)]);rw [hE,dx8 hE Vo,←fp,←hy];exact aZ (m':=az b s y.now Y) ⟨rfl,hY.m⟩ aq aX ab hnY
 refine J8 ?_;refine qL Tryz.results8 rfl fun w' aq ab aI=>?_;have hE:dd x a=1:=(do0 hv om);rw [hE,ek (by rw [hE];decide)];exact aZ (m':=az b s x.now P) ⟨rfl,xz⟩ aq aX ab (ay _ _)
def McN (s:eM) (n0:Nat) (v:Value) (m:aa):Prop:=
  (fy s.C=false∧v= .tuple #[.pointer none,.bool false]∧m=[])∨(fy s.C=true∧∃b,v= .tuple #[.pointer (some ⟨b,0,none⟩),.bool true]∧dW n0 b s (fg s.C) m)
def Ou (s:km) (i:Nat):List aY:=(s.ls.take i).map (fun l=>m8 ⟨l.sh,l.sl,l.cr,l.rd,l.wr⟩ s.gs)
theorem wi {s:km} {i:Nat} (h:i<s.ls.length):Ou s (i+1)=Ou s i++ [m8 ⟨(s.ls.getD i default).sh,(s.ls.getD i default).sl,(s.ls.getD i default).cr,(s.ls.getD i default).rd,(s.ls.getD i default).wr⟩ s.gs] :=by
  unfold Ou;rw [bE default h,List.map_append];rfl
set_option maxHeartbeats 2000000 in
theorem D1 {s:eM} (w:World) (hI:s.In w):aJ Tryz.prog 7 #[s.val] w (fun v w'=>Ext w w'∧∃m,McN s w.heap.size v m∧Mem w' m∧∀p∈m,w.heap.size≤p.1):=by
 have hl0:=hI.hl;have AO:=hI.AO;have My:=hI.My;refine aJ.au Tryz.func7 rfl Tryz.ntmps7 rfl ([]) (no) (Mem.nil w) ?_;refine J2 ?_;refine LM.box rfl rfl (fun b1 Cm=>?_);refine J7 ?_;refine LM.rd (bo Tryz.isAgg30 Tryz.sizeOf30 rfl rfl) ?_;refine cE Tryz.func21 rfl (fun w hm hc hg=>DE (s:=s) w (hI.ext hc)) ?_;refine J3 ?_;refine af.aW rfl (fun h1=>?_) (fun h1=>?_)
 ·refine J8 ?_;refine QM.leave (.inl rfl) [.tmp 2,.tmp 3] Tryz.results7 rfl ?_;intro w' aq ab aI;exact⟨ab,[],.inl ⟨by simpa using h1,rfl,rfl⟩,Mem.nil _,fun p hp=>by cases hp⟩
 have C8:fy s.C=true:=(by simpa using h1);have h8:s.ls.length≤8:=(k7 C8).1;have Dh:1≤s.cr∧s.cr≤4:=tS C8;refine J3 ?_;refine af.bH (α:=Nat×sY) (fun ⟨b,P⟩=>[(4,.pointer (some ⟨b,0,none⟩))]) [(1,_)] (fun ⟨b,P⟩=>az b s 0#64 P++(xO b1 s:: [])) (fun ⟨b,P⟩=>fF w.heap.size b s {fg s.C with lk:=[],gp:=[] } P) cm ?_ ?_
 ·refine af.keep (xO b1 s:: []) (fun _=>True) (.one 0 1 (.one 1 0 (.one 2 1 (.one 3 0 (.one 4 1 (.one 6 0 (.one 7 1 (.fork 5 (.fork 8 (.one 9 2 (.one 10 0 (.one 11 2 (.one 12 0 .nil)))) 9 (.one 8 2 (.one 10 0 (.one 11 2 (.one 12 0 .nil))))) 8 (.one 5 2 (.one 9 2 (.one 10 0 (.one 11 2 (.one 12 0 .nil))))))))))))) kr kr aX (fun _ _=>trivial) ?_;refine KD.rd rfl rfl (bo Tryz.isAgg30 Tryz.sizeOf30 rfl rfl) ?_;refine J6 ?_;refine KD.fork rfl rfl ?_ ?_
  ·refine LM.iK (oC Tryz.func22) Tn.mono (fun w hm hc hg=>wq s.cr s.gr w) ?_;rintro u14 U8 ⟨bc,rfl,jt⟩ VF;refine J2 ?_;refine KD.fork rfl rfl ?_ ?_
   ·refine LM.LS (f:=fI) (a0:=0) Tryz.underlying26 Tryz.typeInfo3 rfl rfl rfl rfl ir rfl rfl rfl om (by simp only [Tryz.t3];omega) om (by unfold maxLen;omega) (fun yt CE P6 wj CO=>?_);refine J3 ?_;refine LM.iK (oC Tryz.func23) wg.mono (fun w hm hc hg=>rD w) ?_;rintro u18 m18 ⟨bg,YX,nx,LB,mx,rfl,rfl,Xk,O0,RN⟩ PO;refine J2 ?_;refine KD.val rfl rfl (aD (cs:=#[.int .i64 s.cr,.int .i64 s.gr,.slice s.ga s.gn s.gc,.slice s.la s.ln s.lc,.slice s.pa s.pn s.pc,U 0#64,.pointer (some ⟨bc,0,none⟩),.slice yt CE CE,.slice none 0 0,.slice none 0 0,.pointer (some ⟨bg,0,none⟩),.slice none 0 0,.slice none 0 0,.slice none 0 0]) rfl kr) ?_;refine J1 ?_;refine LM.box rfl rfl (fun XR Jm=>?_);refine J4 ?_;refine mK ((XR,⟨bc,bg,[],yt,CE,CE,none,0,0,none,0,0,YX,nx,LB,none,0,0,none,0,0,none,0,0,P6,[],[],mx,[],[],[],U8,[]⟩)) ?_
    · exact⟨by rw [wj];exact(List.length_replicate ..).symm,(by show Sl fI _ 1 _ (List.replicate s.cr.toNat 0) _ _;rw [←wj];exact CO),rfl,rfl,.nil _ _ _ _,jZ.nil,rfl,.nil _ _ _ _,O0,rfl,RN,rfl,.nil _ _ _ _,rfl,.nil _ _ _ _,rfl,.nil _ _ _ _,jt,Jm,Xk,rfl⟩
   refine LM.iK (oC Tryz.func23) wg.mono (fun w hm hc hg=>rD w) ?_;rintro u18 m18 ⟨bg,YX,nx,LB,mx,rfl,rfl,Xk,O0,RN⟩ PO;refine J3 ?_;refine LM.LS (f:=fI) (a0:=0) Tryz.underlying26 Tryz.typeInfo3 rfl rfl rfl rfl ir rfl rfl rfl om (by simp only [Tryz.t3];omega) om (by unfold maxLen;omega) (fun yt CE P6 wj CO=>?_);refine J2 ?_;refine KD.val rfl rfl (aD (cs:=#[.int .i64 s.cr,.int .i64 s.gr,.slice s.ga s.gn s.gc,.slice s.la s.ln s.lc,.slice s.pa s.pn s.pc,U 0#64,.pointer (some ⟨bc,0,none⟩),.slice yt CE CE,.slice none 0 0,.slice none 0 0,.pointer (some ⟨bg,0,none⟩),.slice none 0 0,.slice none 0 0,.slice none 0 0]) rfl kr) ?_;refine J1 ?_;refine LM.box rfl rfl (fun XR Jm=>?_);refine J4 ?_;refine mK ((XR,⟨bc,bg,[],yt,CE,CE,none,0,0,none,0,0,YX,nx,LB,none,0,0,none,0,0,none,0,0,P6,[],[],mx,[],[],[],U8,[]⟩)) ?_
   · exact⟨by rw [wj];exact(List.length_replicate ..).symm,(by show Sl fI _ 1 _ (List.replicate s.cr.toNat 0) _ _;rw [←wj];exact CO),rfl,rfl,.nil _ _ _ _,jZ.nil,rfl,.nil _ _ _ _,O0,rfl,RN,rfl,.nil _ _ _ _,rfl,.nil _ _ _ _,rfl,.nil _ _ _ _,jt,Jm,Xk,rfl⟩
  refine LM.LS (f:=fI) (a0:=0) Tryz.underlying26 Tryz.typeInfo3 rfl rfl rfl rfl ir rfl rfl rfl om (by simp only [Tryz.t3];omega) om (by unfold maxLen;omega) (fun yt CE P6 wj CO=>?_);refine J3 ?_;refine LM.iK (oC Tryz.func22) Tn.mono (fun w hm hc hg=>wq s.cr s.gr w) ?_;rintro u14 U8 ⟨bc,rfl,jt⟩ VF;refine J3 ?_;refine LM.iK (oC Tryz.func23) wg.mono (fun w hm hc hg=>rD w) ?_;rintro u18 m18 ⟨bg,YX,nx,LB,mx,rfl,rfl,Xk,O0,RN⟩ PO;refine J2 ?_;refine KD.val rfl rfl (aD (cs:=#[.int .i64 s.cr,.int .i64 s.gr,.slice s.ga s.gn s.gc,.slice s.la s.ln s.lc,.slice s.pa s.pn s.pc,U 0#64,.pointer (some ⟨bc,0,none⟩),.slice yt CE CE,.slice none 0 0,.slice none 0 0,.pointer (some ⟨bg,0,none⟩),.slice none 0 0,.slice none 0 0,.slice none 0 0]) rfl kr) ?_;refine J1 ?_;refine LM.box rfl rfl (fun XR Jm=>?_);refine J4 ?_;refine mK ((XR,⟨bc,bg,[],yt,CE,CE,none,0,0,none,0,0,YX,nx,LB,none,0,0,none,0,0,none,0,0,P6,[],[],mx,[],[],[],U8,[]⟩)) ?_
  · exact⟨by rw [wj];exact(List.length_replicate ..).symm,(by show Sl fI _ 1 _ (List.replicate s.cr.toNat 0) _ _;rw [←wj];exact CO),rfl,rfl,.nil _ _ _ _,jZ.nil,rfl,.nil _ _ _ _,O0,rfl,RN,rfl,.nil _ _ _ _,rfl,.nil _ _ _ _,rfl,.nil _ _ _ _,jt,Jm,Xk,rfl⟩
 rintro ⟨b,P⟩ hP;change QM _ _ _ _ _ (az b s 0#64 P++(xO b1 s:: [])) _ _ _;have hb0:=hP.hb;have B9:Sl fI 3 1 w.heap.size ([] :List Int) (.slice P.ag P.ng P.cg) P.mg:=hP.sg;have h4:=F8 C8;have h4g:s.gs.length≤4:=h4.2;refine J2 ?_;refine af.draw [(0,0),(1,0),(2,0),(3,0),(4,1),(5,0),(6,1),(7,3),(8,3),(9,3),(10,3)] kr kr ?_;refine J7 ?_;refine LD.tail rfl rfl ?_;refine LM.rC (ys:=s.gs) (m:=P.mg) Tryz.underlying26 Tryz.typeInfo3 rfl rfl rfl rfl rfl rfl rfl B9 (fun w hm hc hg=>hI.hg.ext hc) ir (by intro _ u hu;simp [fI] at hu;(repeat (first|(rcases hu with rfl|hu)|subst hu|rfl))) (Nat.le_refl _) (fun p hp bB=>absurd bB (Nat.not_lt_of_le (Sl.ge B9 p hp))) (by unfold maxLen;simp only [List.length_nil];omega) (by simp only [Tryz.t3,List.length_nil];omega) (fun Wu n28 QR Wb acC acw Qr=>?_);refine J2 ?_;refine LM.st Tryz.sizeOf26 rfl rfl rfl ez rfl cn ?_;refine LM.mem (aT.mem (M':=az b s 0#64 {P with ag:=Wu,ng:=n28,cg:=QR,mg:=Wb} ++(xO b1 s:: [])) aX) ?_;refine J1 ?_;refine QM.qn ?_;refine J8 ?_;refine af.aS (α:=Nat×sY) (fun ⟨i,R⟩=>[(5,.int .i64 (i:Nat))]) [(1,_),(4,_)] (fun ⟨i,R⟩=>az b s 0#64 R++(xO b1 s:: [])) (fun ⟨i,R⟩=>i≤s.ls.length∧fF w.heap.size b s {fg s.C with lk:=Ou s.C i} R) (fun ⟨i,R⟩=>s.ls.length-i) ((0,{P with ag:=Wu,ng:=n28,cg:=QR,mg:=Wb})) cm aX ⟨Nat.zero_le _,{hP with ng:=(by show n28=s.gs.length;rw [acC];simp),sg:=(by show Sl fI _ 1 _ s.gs _ _;exact acw)}⟩ ?_;rintro ⟨i,R⟩ ⟨hi,hR⟩;change af _ _ _ _ _ _ _ (az b s 0#64 R++(xO b1 s:: [])) _ _ _;have aiR:=hR.hb;have ij:(Ou s.C i).length=i:=(by unfold Ou;rw [List.length_map,List.length_take];show min i s.ls.length=i;omega);have fY:=hR.sl;have vr:R.nl=i:=hR.nl.trans ij;have te:R.bs.length=i:=hR.bl.trans ij;refine cf ?_;refine af.aj rfl (fun h2=>?_) (fun h2=>?_)
 ·refine J4 ?_;refine af.keep (vE b s 0#64 R::xO b1 s:: []) (fun _=>True) (.one 0 0 (.one 1 0 (.one 2 0 (.one 3 0 (.one 4 1 (.one 5 0 (.one 6 1 (.one 7 0 (.one 8 0 (.one 9 1 (.one 10 0 (.one 11 1 (.one 12 2 (.one 13 2 (.one 14 2 (.one 15 0 (.one 16 0 (.last 17)))))))))))))))))) kr kr aX (fun _ _=>trivial) ?_;refine J9 ?_;refine KD.eR rfl rfl (dZ aA ir Tryz.isAgg83 Tryz.sizeOf83 rfl cR id) ?_;refine J3 ?_;refine LM.iK (oC Tryz.func24) z7.mono (fun w hm hc hg=>CZ ⟨(s.ls.getD i default).sh,(s.ls.getD i default).sl,(s.ls.getD i default).cr,(s.ls.getD i default).rd,(s.ls.getD i default).wr⟩ w My (hI.hg.ext hc)) ?_;rintro u50 m50 ⟨bq,rfl,TB⟩ af4;refine J3 ?_;refine LM.single Tryz.underlying43 Tryz.sizeOf54 Tryz.zeroValue54 rfl rfl rfl rfl rfl (fun b51 ajl=>?_);refine J3 ?_;refine LM.app (a:=bq) Tryz.underlying43 Tryz.typeInfo54 rfl rfl rfl rfl rfl rfl rfl aA (by rfl) ir (by intro _ u hu;simp [fP] at hu;(repeat (first|(rcases hu with rfl|hu)|subst hu|rfl))) (by first|exact Nat.le_refl _|omega) jn (by first|omega|(unfold maxLen;omega)) (by simp only [Tryz.t54];omega) (fun rb Df ka Co L1 C4 Fb=>?_);refine J4 ?_;refine KD.last rfl ?_;refine LM.st Tryz.sizeOf43 rfl rfl rfl ez rfl cn ?_;refine LM.mem (aT.mem (M':=az b s 0#64 {R with bs:=R.bs++ [bq],al:=rb,nl:=Df,cl:=ka,ml:=Co,mq:=R.mq++m50} ++(xO b1 s:: [])) aX) ?_;refine J1 ?_;refine QM.qn ?_;refine J7 ?_;refine aK (i+1,{R with bs:=R.bs++ [bq],al:=rb,nl:=Df,cl:=ka,ml:=Co,mq:=R.mq++m50}) ?_ ?_
  · have hiS:i<s.C.ls.length:=(by show i<s.ls.length;omega);exact⟨by omega,{hR with nl:=(by show Df=_;rw [L1,wi aA,List.length_append,ij];simp [te]),bl:=(by show (R.bs++ [bq]).length=_;rw [wi aA,List.length_append,List.length_append,ij,te];rfl),sl:=C4,sq:=(by show jZ MF _ (R.bs++ [bq]) (Ou s.C (i+1)) _;rw [wi aA];exact hR.sq.snoc TB)}⟩
  · (dsimp only;omega)
 refine gz ?_;refine QM.leave (.inl rfl) [.tmp 2,.tmp 3] Tryz.results7 rfl ?_;intro w' aq ab aI;have fp:i=s.ls.length:=om;have hR2:fF w.heap.size b s (fg s.C) R:=(by have e:Ou s.C i=(fg s.C).lk:=(by unfold Ou;rw [List.take_of_length_le (show s.C.ls.length≤i by show s.ls.length≤i;omega)];rfl);rw [e] at hR;exact hR);exact⟨ab,az b s 0#64 R,.inr ⟨C8,b,rfl,hR2.m⟩,aq.pick (az b s 0#64 R),hR2.ge⟩
theorem AH (k:Int) (w:World):aJ Tryz.prog 87 #[.int .i64 k] w (fun v w'=>v=vS (Gw k)∧Ext w w'):=by
 refine aJ.au Tryz.func87 rfl Tryz.ntmps87 rfl ([]) (no) (Mem.nil w) ?_;refine J7 ?_;refine LM.row (vs:=[_,_,_,_,_,_,_,_,_]) Tryz.underlying198 Tryz.sizeOf9 Tryz.zeroValue9 rfl rfl rfl rfl rfl rfl (fun b4 DT=>?_);refine J9 ?_;refine LM.ar (t:=7) rfl (fun h1=>?_) (fun h1=>?_)
 ·refine gz ?_;refine qL Tryz.results87 rfl fun w' aq ab aI=>?_;refine ⟨?_,ab⟩;show vS _=_;congr 1;first|(rw [Gw,if_neg om];done)|(rw [Gw,if_pos om];rfl)
 refine J5 ?_;refine af.aj rfl (fun h2=>?_) (fun h2=>?_)
 ·refine J7 ?_;refine qL Tryz.results87 rfl fun w' aq ab aI=>?_;refine ⟨?_,ab⟩;show vS _=_;congr 1;first|(rw [Gw,if_neg om];done)|(rw [Gw,if_pos om];rfl)
 refine J6 ?_;change LM _ _ _ _ _ _ _ _ ((b4,Obj.cells (arr fB E5 []) 9 (0,0))::_) _ _ _;have Ih:Sl fB 9 1 w.heap.size E5 (.slice (some ⟨b4,0,none⟩) 9 9) [(b4,.cells (arr fB E5 []) 9 (0,0))] := .inr ⟨b4,9,[],DT,rfl,rfl,by decide,by unfold maxLen;decide,rfl⟩;have Wk:E5.length=9:=rfl;refine LM.val (cP pe Tryz.underlying198 Tryz.sizeOf9 rfl rfl om) ?_;refine LM.rd (bu aA ir Tryz.isAgg9 rfl rfl cR (by rfl)) ?_;refine J4 ?_;refine qL Tryz.results87 rfl fun w' aq ab aI=>?_;refine ⟨?_,ab⟩;show vS _=_;congr 1;first|(rw [Gw,if_neg om];done)|(rw [Gw,if_pos om];rfl)
theorem Db (k:Int) (w:World) (hk:0≤k∧k<9):aJ Tryz.prog 88 #[.int .i64 k] w (fun v w'=>v= .int .i64 (kM k:Nat)∧Ext w w'):=by
 refine aJ.au Tryz.func88 rfl Tryz.ntmps88 rfl ([]) (no) (Mem.nil w) ?_;refine J7 ?_;refine LM.row (vs:=[_,_,_,_,_,_,_,_,_]) Tryz.underlying26 Tryz.sizeOf3 Tryz.zeroValue3 rfl rfl rfl rfl rfl rfl (fun b4 DT=>?_);refine J7 ?_;change LM _ _ _ _ _ _ _ _ ((b4,Obj.cells (arr fI xE []) 3 (0,0))::_) _ _ _;have Ih:Sl fI 3 1 w.heap.size xE (.slice (some ⟨b4,0,none⟩) 9 9) [(b4,.cells (arr fI xE []) 3 (0,0))] := .inr ⟨b4,9,[],DT,rfl,rfl,by decide,by unfold maxLen;decide,rfl⟩;have Wk:xE.length=9:=rfl;refine LM.val (cP pe Tryz.underlying26 Tryz.sizeOf3 rfl rfl om) ?_;refine LM.rd (bu aA ir Tryz.isAgg3 rfl rfl (by exact aQ 0 cJ) (by rfl)) ?_;refine J4 ?_;refine qL Tryz.results88 rfl fun w' aq ab aI=>?_;refine ⟨?_,ab⟩;show Value.int .i64 (xE.getD k.toNat 0)=_;rw [Gy hk]
theorem KA {k:Int} {xs:List Int} (i:Nat) (n:Int) (w:World) (hi:i<4) (hx:xs.length=4):aJ Tryz.prog 89 #[.agg (fA (HR k xs)).toArray,.int .i64 (i:Nat),.int .i64 n] w (fun v w'=>v= .agg (fA (HR k (xs.set i n))).toArray∧Ext w w'):=by
 refine aJ.au Tryz.func89 rfl Tryz.ntmps89 rfl ([]) (no) (Mem.nil w) ?_;refine J2 ?_;refine LM.box rfl rfl (fun b3 Jc=>?_);refine LM.alloc Tryz.zeroValue37 rfl (fun b6 Qh=>?_);refine J9 ?_;refine af.aj rfl (fun h1=>?_) (fun h1=>?_)
 ·refine J3 ?_;refine LM.st Tryz.sizeOf3 rfl rfl rfl ez rfl cn ?_;refine J4 ?_;refine LM.rd (bo Tryz.isAgg37 Tryz.sizeOf37 rfl rfl) ?_;refine LM.dC Tryz.sizeOf37 rfl rfl rfl rfl dD cn ?_;refine J3 ?_;refine QM.aV (ds:=([])) (.inl rfl) [.cell 6 37] Tryz.results89 bh (cN rfl Tryz.isAgg37 Tryz.sizeOf37 rfl bn) ?_;intro w' aq ab;refine ⟨?_,ab⟩;have QF:i=0∨i=1∨i=2∨i=3:=om;match xs,hx with| [a0,a1,a2,a3],_=>(rcases QF with rfl|rfl|rfl|rfl<;>first|rfl|(exfalso;omega))
 refine J6 ?_;refine af.aj rfl (fun h2=>?_) (fun h2=>?_)
 ·refine J3 ?_;refine LM.st Tryz.sizeOf3 rfl rfl rfl ez rfl cn ?_;refine J4 ?_;refine LM.rd (bo Tryz.isAgg37 Tryz.sizeOf37 rfl rfl) ?_;refine LM.dC Tryz.sizeOf37 rfl rfl rfl rfl dD cn ?_;refine J3 ?_;refine QM.aV (ds:=([])) (.inl rfl) [.cell 6 37] Tryz.results89 bh (cN rfl Tryz.isAgg37 Tryz.sizeOf37 rfl bn) ?_;intro w' aq ab;refine ⟨?_,ab⟩;have QF:i=0∨i=1∨i=2∨i=3:=om;match xs,hx with| [a0,a1,a2,a3],_=>(rcases QF with rfl|rfl|rfl|rfl<;>first|rfl|(exfalso;omega))
 refine J6 ?_;refine af.aj rfl (fun h3=>?_) (fun h3=>?_)
 ·refine J3 ?_;refine LM.st Tryz.sizeOf3 rfl rfl rfl ez rfl cn ?_;refine J4 ?_;refine LM.rd (bo Tryz.isAgg37 Tryz.sizeOf37 rfl rfl) ?_;refine LM.dC Tryz.sizeOf37 rfl rfl rfl rfl dD cn ?_;refine J3 ?_;refine QM.aV (ds:=([])) (.inl rfl) [.cell 6 37] Tryz.results89 bh (cN rfl Tryz.isAgg37 Tryz.sizeOf37 rfl bn) ?_;intro w' aq ab;refine ⟨?_,ab⟩;have QF:i=0∨i=1∨i=2∨i=3:=om;match xs,hx with| [a0,a1,a2,a3],_=>(rcases QF with rfl|rfl|rfl|rfl<;>first|rfl|(exfalso;omega))
 refine J3 ?_;refine LM.st Tryz.sizeOf3 rfl rfl rfl ez rfl cn ?_;refine J4 ?_;refine LM.rd (bo Tryz.isAgg37 Tryz.sizeOf37 rfl rfl) ?_;refine LM.dC Tryz.sizeOf37 rfl rfl rfl rfl dD cn ?_;refine J3 ?_;refine QM.aV (ds:=([])) (.inl rfl) [.cell 6 37] Tryz.results89 bh (cN rfl Tryz.isAgg37 Tryz.sizeOf37 rfl bn) ?_;intro w' aq ab;refine ⟨?_,ab⟩;have QF:i=0∨i=1∨i=2∨i=3:=om;match xs,hx with| [a0,a1,a2,a3],_=>(rcases QF with rfl|rfl|rfl|rfl<;>first|rfl|(exfalso;omega))
theorem TR {ws:List bC} {i j:Nat} {xs:List Int} (h:cH ws i≠0) (h2:pS ws i=(j,5,xs)):jd ws i=(default,j,5):=by unfold jd;rw [if_neg h,h2,if_pos (show (5:Int)≠0 by decide)]
theorem QY {ws:List bC} {i j:Nat} {xs:List Int} (h:cH ws i≠0) (h2:pS ws i=(j,0,xs)) (h3:gX ws j 3 [59] =false):jd ws i=(default,j,5):=by unfold jd;rw [if_neg h,h2,if_neg (fun q=>q rfl),if_neg (by rw [h3];simp)]
theorem NG {ws:List bC} {i j:Nat} {xs:List Int} (h:cH ws i≠0) (h2:pS ws i=(j,0,xs)) (h3:gX ws j 3 [59] =true):jd ws i=(HR (cH ws i) xs,j+1,0):=by unfold jd;rw [if_neg h,h2,if_neg (fun q=>q rfl),if_pos h3]
theorem Gn {ws:List bC} {f j i:Nat} {xs:List Int} (hf:0<f) (h:(decide (ws.length≤j)||decide ((ws.getD j default).k≠2))=true):uX ws f j i xs=(j,5,xs):=by
  obtain ⟨g,rfl⟩:∃g,f=g+1:=⟨f-1,by omega⟩
  unfold uX;rw [if_pos h]
theorem Ht {ws:List bC} {f j i:Nat} {xs:List Int} (hf:0<f) (h:(decide (ws.length≤j)||decide ((ws.getD j default).k≠2))=false):uX ws f j i xs=uX ws (f-1) (j+1) (i+1) (xs.set i (ws.getD j default).n):=by
  obtain ⟨g,rfl⟩:∃g,f=g+1:=⟨f-1,by omega⟩
  conv=>lhs;unfold uX
  rw [if_neg (by rw [h];simp),Nat.add_sub_cancel]
def WT (r:List Act×Int×Int) (n0:Nat) (v:Value) (m:aa):Prop:=∃ad n cap,v= .tuple #[.slice ad n cap,.int .i64 r.2.1,.int .i64 r.2.2]∧n=r.1.length∧Sl fA 37 5 n0 r.1 (.slice ad n cap) m
theorem WT.mono {r:List Act×Int×Int} :∀(k k':Nat) u m,k'≤k→WT r k u m→WT r k' u m:=fun k k' u m h ⟨ad,n,cap,h1,h2,h3⟩=>⟨ad,n,cap,h1,h2,h3.mono h⟩
def mJ (ws:List bC) (i:Nat):Nat→Int
  |0=>0
  |m+1=>if gX ws i 1 (Gw ((m+1:Nat):Int)) then ((m+1:Nat):Int) else mJ ws i m
theorem Nc {k:Nat} (h:k<9):Gw (k:Int)=E5.getD k [] :=by unfold Gw;rw [if_pos om,Int.toNat_natCast]
theorem KY (ws:List bC) (i:Nat):mJ ws i 8=cH ws i:=by
  unfold cH
  cases hc:(decide (i<ws.length)&&decide ((ws.getD i default).k=1)) with
  |false=>
    rw [if_neg (by simp)]
    have:∀m,mJ ws i m=0:=by
      intro m
      induction m with
      |zero=>rfl
      |succ m ih=>unfold mJ gX;rw [hc,Bool.false_and,if_neg (by simp),ih]
    exact this 8
  |true=>
    rw [if_pos rfl,←ES]
    have:∀m,m≤8→mJ ws i m=BN (ws.getD i default).t m:=by
      intro m
      induction m with
      |zero=>intro _;rfl
      |succ m ih=>
        intro hm
        unfold mJ BN gX;rw [hc,Bool.true_and,ih om,Nc om]
        by_cases q:(ws.getD i default).t=E5.getD (m+1) []
        · rw [if_pos q,if_pos (decide_eq_true q)]
        · rw [if_neg q,if_neg (by rw [decide_eq_false q];simp)]
    exact this 8 (Nat.le_refl _)
theorem OZ {ws:List bC} {i k:Nat} (h1:1≤k) (h:gX ws i 1 (Gw (k:Int))=true):mJ ws i k=(k:Int):=by
  obtain ⟨m,rfl⟩:∃m,k=m+1:=⟨k-1,by omega⟩
  unfold mJ;rw [if_pos h]
theorem OV {ws:List bC} {i k:Nat} (h1:1≤k) (h:gX ws i 1 (Gw (k:Int))=false):mJ ws i k=mJ ws i (k-1):=by
  obtain ⟨m,rfl⟩:∃m,k=m+1:=⟨k-1,by omega⟩
  rw [show m+1-1=m by omega]
  conv=>lhs;unfold mJ
  rw [if_neg (by rw [h];simp)]
theorem MZ {ws:List bC} {i:Nat} {out:List Act} (h:i<ws.length) (h0:cH ws i=0):j2 ws i out=([],(i:Int),5):=by rw [lA h,if_pos h0]
theorem N3 {ws:List bC} {i:Nat} {out:List Act} (h:i<ws.length) (h0:cH ws i≠0) (h1:out.length=4000):j2 ws i out=([],(i:Int),6):=by rw [lA h,if_neg h0,if_pos h1]
theorem FG {ws:List bC} {i j:Nat} {out:List Act} (h:i<ws.length) (h0:cH ws i≠0) (h1:out.length≠4000) (he:jd ws i=(default,j,5)):j2 ws i out=([],(j:Int),5):=by rw [lA h,if_neg h0,if_neg h1,if_pos (by rw [he];exact(show (5:Int)≠0 by decide)),he]
theorem N2 {ws:List bC} {i j:Nat} {a:Act} {out:List Act} (h:i<ws.length) (h0:cH ws i≠0) (h1:out.length≠4000) (he:jd ws i=(a,j,0)):j2 ws i out=j2 ws j (out++ [a]):=by rw [lA h,if_neg h0,if_neg h1,if_neg (by rw [he];exact fun q=>q rfl),he]
set_option maxHeartbeats 1000000 in
theorem yy {ws:List bC} {ad:Option Addr} {n cap:Nat} (p:Int) (w:World) (hn:n=ws.length) (hx:ws.length≤1000000000) (hl:Sr fW 4 ws (.slice ad n cap) w):aJ Tryz.prog 47 #[.slice ad n cap,.int .i64 p] w (fun v w'=>Ext w w'∧∃m,WT (kQ ws p) w.heap.size v m∧Mem w' m∧∀p∈m,w.heap.size≤p.1):=by
 refine aJ.au Tryz.func47 rfl Tryz.ntmps47 rfl ([]) (no) (Mem.nil w) ?_;refine gz ?_;refine LM.ar (t:=14) rfl (fun h1=>?_) (fun h1=>?_)
 ·refine xq ?_;refine QM.leave (.inl rfl) [.tmp 4,.tmp 5,.tmp 6] Tryz.results47 rfl ?_;intro w' aq ab aI;have vm:kQ ws p=([],0,5):=(by unfold kQ;rw [if_pos om]);rw [vm];exact⟨ab,[],⟨none,0,0,rfl,rfl,.nil _ _ _ _⟩,Mem.nil _,fun p hp=>by cases hp⟩
 refine J7 ?_;refine af.aj rfl (fun h2=>?_) (fun h2=>?_)
 ·refine J9 ?_;refine QM.leave (.inl rfl) [.tmp 4,.tmp 5,.tmp 6] Tryz.results47 rfl ?_;intro w' aq ab aI;have vm:kQ ws p=([],0,5):=(by unfold kQ;rw [if_pos om]);rw [vm];exact⟨ab,[],⟨none,0,0,rfl,rfl,.nil _ _ _ _⟩,Mem.nil _,fun p hp=>by cases hp⟩
 obtain ⟨i0,rfl⟩:∃i0:Nat,p=(i0:Nat):=⟨p.toNat,by omega⟩;have r6:i0≤ws.length:=om;refine J9 ?_;refine af.aS (α:=Nat×List Act×Option Addr×Nat×Nat×aa) (fun ⟨i,out,dI,no,bL,mo⟩=>[(1,.int .i64 (i:Nat)),(7,.slice dI no bL)]) [(0,_)] (fun ⟨i,out,dI,no,bL,mo⟩=>mo++ []) (fun ⟨i,out,dI,no,bL,mo⟩=>i≤ws.length∧j2 ws i out=j2 ws i0 []∧no=out.length∧Sl fA 37 5 w.heap.size out (.slice dI no bL) mo∧out.length≤4000) (fun ⟨i,out,dI,no,bL,mo⟩=>ws.length-i) ((i0,[],none,0,0,[])) cm aX ⟨by omega,rfl,rfl,.nil _ _ _ _,by decide⟩ ?_;rintro ⟨i,out,dI,no,bL,mo⟩ ⟨hi,hL,fM,jL,Nv⟩;change af _ _ _ _ _ _ _ (mo++ []) _ _ _;refine J9 ?_;refine af.aj rfl (fun h3=>?_) (fun h3=>?_)
 ·have HB:i<ws.length:=om;refine tO ?_;refine af.aS (α:=Nat×Int) (fun ⟨k,kd⟩=>[(8,.int .i64 kd),(9,.int .i64 (k:Nat))]) [(0,_),(1,_),(7,_)] (fun ⟨k,kd⟩=>mo++ []) (fun ⟨k,kd⟩=>1≤k∧k≤9∧kd=mJ ws i (k-1)) (fun ⟨k,kd⟩=>9-k) ((1,0)) cm aX ⟨by omega,by omega,rfl⟩ ?_;rintro ⟨k,kd⟩ ⟨wU,RV,Q9⟩;change af _ _ _ _ _ _ _ (mo++ []) _ _ _;refine J7 ?_;refine af.aj rfl (fun h4=>?_) (fun h4=>?_)
  ·refine J5 ?_;refine af.bH (α:=Bool) (fun q=>[(43,.bool q)]) [(0,_),(1,_),(7,_),(8,_),(9,_)] (fun q=>mo++ []) (fun q=>q=gX ws i 1 (Gw (k:Int))) cm ?_ ?_
   ·refine af.draw [(0,0),(1,0),(2,0),(3,0),(4,1),(5,0),(6,0),(7,0),(8,0),(9,0),(10,0),(11,1),(12,0),(13,2),(14,0),(15,0)] kr kr ?_;refine J4 ?_;refine LD.eR rfl rfl (dy (j:=0) aA Tryz.isAgg3 rfl rfl cR (by rfl) (by rfl) id) ?_;refine J2 ?_;refine LD.ar (t:=34) rfl (fun h5=>?_) (fun h5=>?_)
    ·refine J4 ?_;refine LD.eR rfl ⟨34,_,rfl,rfl,rfl⟩ (dy (j:=1) aA Tryz.isAgg9 rfl rfl cR (by rfl) (by rfl) id) ?_;refine J1 ?_;refine dE rfl ⟨34,_,rfl,rfl,rfl⟩ Tryz.func87 rfl (fun w hm hc hg=>AH _ w) ?_;refine LD.val rfl ⟨34,_,rfl,rfl,rfl⟩ (qE rfl rfl) ?_;refine J2 ?_;refine mK (_) ?_
     · unfold gX;rw [decide_eq_true HB,decide_eq_true (show (ws.getD i default).k=1 by omega)];rfl
    refine cf ?_;refine mK (_) ?_
    · unfold gX;rw [decide_eq_false (show¬(ws.getD i default).k=1 by omega)];simp
   rintro q hq;change QM _ _ _ _ _ (mo++ []) _ _ _;refine J1 ?_;refine af.aW rfl (fun h6=>?_) (fun h6=>?_)
   ·refine dA ?_;refine aK ((k+1,(k:Int))) ?_ ?_
    · exact⟨by omega,by omega,(OZ wU (hq.symm.trans h6)).symm⟩
    · (dsimp only;omega)
   refine J8 ?_;refine aK ((k+1,kd)) ?_ ?_
   · exact⟨by omega,by omega,by rw [Q9];exact(OV wU (hq.symm.trans h6)).symm⟩
   · (dsimp only;omega)
  obtain rfl:k=9:=om;obtain rfl:kd=cH ws i:=Q9.trans (KY ws i);have hkr:=GN ws i;refine cL ?_;refine af.aj rfl (fun h7=>?_) (fun h7=>?_)
  ·refine lh ?_;refine QM.leave (.inl rfl) [.tmp 4,.tmp 5,.tmp 6] Tryz.results47 rfl ?_;intro w' aq ab aI;rw [nu r6,←hL,MZ HB om];exact⟨ab,[],⟨none,0,0,rfl,rfl,.nil _ _ _ _⟩,Mem.nil _,fun p hp=>by cases hp⟩
  refine cf ?_;refine af.aj rfl (fun h8=>?_) (fun h8=>?_)
  ·refine lh ?_;refine QM.leave (.inl rfl) [.tmp 4,.tmp 5,.tmp 6] Tryz.results47 rfl ?_;intro w' aq ab aI;rw [nu r6,←hL,N3 HB h7 om];exact⟨ab,[],⟨none,0,0,rfl,rfl,.nil _ _ _ _⟩,Mem.nil _,fun p hp=>by cases hp⟩
  refine cL ?_;refine LM.val (aD (cs:=#[_,_,_,_,_]) rfl (by first|rfl|kernel_rfl)) ?_;refine LM.alloc Tryz.zeroValue37 rfl (fun sQ JD=>?_);refine LM.dC Tryz.sizeOf37 rfl rfl rfl rfl dD cn ?_;refine J9 ?_;refine af.aS (α:=Nat×Nat×List Int) (fun ⟨k,j,xs⟩=>[(1,.int .i64 (j:Nat)),(11,.int .i64 (k:Nat))]) [(0,_),(7,_),(8,_),(10,_)] (fun ⟨k,j,xs⟩=>(sQ,.cells (fA (HR (cH ws i) xs)).toArray 37 (0,0))::(mo++ [])) (fun ⟨k,j,xs⟩=>k≤kM (cH ws i)∧j≤ws.length∧xs.length=4∧uX ws (kM (cH ws i)-k) j k xs=pS ws i) (fun ⟨k,j,xs⟩=>kM (cH ws i)-k) ((0,i+1,SC)) cm aX ⟨Nat.zero_le _,by omega,rfl,rfl⟩ ?_;rintro ⟨k,j,xs⟩ ⟨ZX,hj,hx4,hN⟩;change af _ _ _ _ _ _ _ ((sQ,.cells (fA (HR (cH ws i) xs)).toArray 37 (0,0))::(mo++ [])) _ _ _;have hm4:=Ks (cH ws i);refine J5 ?_;refine cE Tryz.func88 rfl (fun w hm hc hg=>Db _ w om) ?_;refine J3 ?_;refine af.aj rfl (fun h9=>?_) (fun h9=>?_)
  ·refine J6 ?_;refine af.bH (α:=Bool) (fun q=>[(73,.bool q)]) [(0,_),(1,_),(7,_),(8,_),(10,_),(11,_)] (fun q=>(sQ,.cells (fA (HR (cH ws i) xs)).toArray 37 (0,0))::(mo++ [])) (fun q=>q=(decide (ws.length≤j)||decide ((ws.getD j default).k≠2))) cm ?_ ?_
   ·refine J6 ?_;refine LM.ar (t:=66) rfl (fun iT=>?_) (fun iT=>?_)
    ·refine J8 ?_;refine mK (_) ?_
     · rw [decide_eq_true (show ws.length≤j by omega),Bool.true_or]
    refine J2 ?_;refine LM.sp 66 rfl rfl rfl ?_;refine J3 ?_;refine LM.eR (dy (j:=0) aA Tryz.isAgg3 rfl rfl cR (by rfl) (by rfl) id) ?_;refine J3 ?_;refine mK (_) ?_
    · rw [decide_eq_false (show¬ws.length≤j by omega),Bool.false_or]
   rintro q hq;change QM _ _ _ _ _ ((sQ,.cells (fA (HR (cH ws i) xs)).toArray 37 (0,0))::(mo++ [])) _ _ _;refine J1 ?_;refine af.aW rfl (fun kg=>?_) (fun kg=>?_)
   ·refine Tj ?_;refine QM.leave (.inl rfl) [.tmp 4,.tmp 5,.tmp 6] Tryz.results47 rfl ?_;intro w' aq ab aI;have YN:pS ws i=(j,5,xs):=(by rw [←hN,Gn om (hq.symm.trans kg)]);rw [nu r6,←hL,FG HB h7 om (TR h7 YN)];exact⟨ab,[],⟨none,0,0,rfl,rfl,.nil _ _ _ _⟩,Mem.nil _,fun p hp=>by cases hp⟩
   have hjn:j<ws.length:=(by have h:=hq.symm.trans kg;simp only [Bool.or_eq_false_iff,decide_eq_false_iff_not] at h;omega)
   refine J3 ?_;refine af.draw [(0,1),(1,0),(2,0),(3,0),(4,0),(5,0),(6,1),(7,2),(8,3)] kr kr ?_;refine LD.rd rfl rfl (bo Tryz.isAgg37 Tryz.sizeOf37 rfl rfl) ?_;refine J5 ?_;refine LD.eR rfl rfl (dy (j:=2) aA Tryz.isAgg3 rfl rfl cR (by rfl) (by rfl) id) ?_;refine dE rfl rfl Tryz.func89 rfl (fun w hm hc hg=>KA k _ w om hx4) ?_;refine LD.tail rfl rfl ?_;refine LM.dC Tryz.sizeOf37 rfl rfl rfl rfl dD cn ?_;refine J1 ?_;refine QM.qn ?_;refine gz ?_;refine aK ((k+1,j+1,xs.set k (ws.getD j default).n)) ?_ ?_
   · exact⟨by omega,by omega,by simpa using hx4,by rw [show kM (cH ws i)-(k+1)=kM (cH ws i)-k-1 by omega,←Ht om (hq.symm.trans kg)];exact hN⟩
   · (dsimp only;omega)
  refine J7 ?_;refine af.bH (α:=Bool) (fun q=>[(104,.bool q)]) [(0,_),(1,_),(7,_),(10,_)] (fun q=>(sQ,.cells (fA (HR (cH ws i) xs)).toArray 37 (0,0))::(mo++ [])) (fun q=>q= !gX ws j 3 [59]) cm ?_ ?_
  ·refine J6 ?_;refine LM.ar (t:=89) rfl (fun gJ=>?_) (fun gJ=>?_)
   ·refine ET ?_;refine mK (_) ?_
    · unfold gX;rw [decide_eq_false (show¬j<ws.length by omega)];rfl
   refine J2 ?_;refine LM.sp 89 rfl rfl rfl ?_;refine J3 ?_;refine LM.eR (dy (j:=0) aA Tryz.isAgg3 rfl rfl cR (by rfl) (by rfl) id) ?_;refine J3 ?_;refine LM.ar (t:=97) rfl (fun ow=>?_) (fun ow=>?_)
   ·refine J8 ?_;refine mK (_) ?_
    · unfold gX;rw [decide_eq_true (show j<ws.length by omega),decide_eq_false (show¬(ws.getD j default).k=3 by omega)];rfl
   refine J2 ?_;refine LM.sp 97 rfl rfl rfl ?_;refine J3 ?_;refine LM.eR (dy (j:=1) aA Tryz.isAgg9 rfl rfl cR (by rfl) (by rfl) id) ?_;refine LM.sp 97 rfl rfl rfl ?_;refine LM.val (Iv rfl rfl) ?_;refine J2 ?_;refine mK (_) ?_
   · unfold gX;rw [decide_eq_true (show j<ws.length by omega),decide_eq_true (show (ws.getD j default).k=3 by omega)];simp only [Bool.true_and,decide_not]
  rintro q hq;change QM _ _ _ _ _ ((sQ,.cells (fA (HR (cH ws i) xs)).toArray 37 (0,0))::(mo++ [])) _ _ _;refine J1 ?_;refine af.aW rfl (fun jt=>?_) (fun jt=>?_)
  ·refine lh ?_;refine QM.leave (.inl rfl) [.tmp 4,.tmp 5,.tmp 6] Tryz.results47 rfl ?_;intro w' aq ab aI;have YN:pS ws i=(j,0,xs):=(by rw [←hN,show kM (cH ws i)-k=0 by omega];rfl);rw [nu r6,←hL,FG HB h7 om (QY h7 YN (by simpa using hq.symm.trans jt))];exact⟨ab,[],⟨none,0,0,rfl,rfl,.nil _ _ _ _⟩,Mem.nil _,fun p hp=>by cases hp⟩
  refine dA ?_;refine LM.rd (bo Tryz.isAgg37 Tryz.sizeOf37 rfl rfl) ?_;refine LM.single Tryz.underlying22 Tryz.sizeOf37 Tryz.zeroValue37 rfl rfl rfl rfl rfl (fun ain afj=>?_);refine LM.app (a:=HR (cH ws i) xs) Tryz.underlying22 Tryz.typeInfo37 rfl rfl rfl rfl rfl rfl rfl aA (by rfl) ir (by intro _ u hu;simp [fA] at hu;(repeat (first|(rcases hu with rfl|hu)|subst hu|rfl))) (by first|exact Nat.le_refl _|omega) jn (by first|omega|(unfold maxLen;omega)) (by simp only [Tryz.t37];omega) (fun Xx aaF Th aeu Wx Zc aeq=>?_);refine J3 ?_;have YN:pS ws i=(j,0,xs):=(by rw [←hN,show kM (cH ws i)-k=0 by omega];rfl);have hjs:gX ws j 3 [59] =true:=(by simpa using hq.symm.trans jt);have yL:=NG h7 YN hjs;have bB:=zb (ws:=ws) (i:=i) (by rw [yL]);rw [yL] at bB;have bB:i<j+1∧j+1≤ws.length:=bB;refine aK ((j+1,out++ [HR (cH ws i) xs],Xx,aaF,Th,aeu)) ?_ ?_
  · exact⟨bB.2,(N2 HB h7 om yL).symm.trans hL,by rw [Wx];simp,Zc,by simp;omega⟩
  · (dsimp only;omega)
 refine tO ?_;refine QM.leave (.inl rfl) [.tmp 4,.tmp 5,.tmp 6] Tryz.results47 rfl ?_;intro w' aq ab aI;rw [nu r6,←hL,GM om];exact⟨ab,mo,⟨dI,no,bL,rfl,fM,jL⟩,aq.pick _,fun p hp=>Sl.ge jL p hp⟩
end Go.Eng
namespace Go.Eng
open Go Go.RowKit
theorem oO (s:List UInt8):∀(f i:Nat) (last:Int) (out:List bC),(j5 f s i last out).1.length≤out.length+f
  |0,i,last,out=>Nat.le_refl _
  |f+1,i,last,out=>by
    rw [j5]
    split
    · show out.length≤_;omega
    split
    · have:=oO s f (i+1) last out;omega
    split
    · have:=oO s f (i+fS kA s i) last out;omega
    split
    · exact Nat.zero_le _
    · have:=oO s f (eZ s i).2.1 ((eZ s i).2.1:Nat) (out++ [(eZ s i).1]);rw [List.length_append,List.length_singleton] at this;omega
theorem JO (s:List UInt8):(dT s).1.length≤s.length:=by
  unfold dT;split
  · exact Nat.zero_le _
  · have:=oO s (s.length-0) 0 (-1) [];unfold gG;simp only [List.length_nil] at this;omega
end Go.Eng
namespace Go.Eng
open Go Go.Proofs Go.RowKit
def sw (s:List UInt8) (ws:List bC) (p:Int):Int:=if p<ws.length then (ws.getD p.toNat default).p else s.length
def jT (s:List UInt8):km×List Act×Int×Int:=
  if (dT s).2.2≠0 then (default,[],(dT s).2.1,(dT s).2.2)
  else if (kK (dT s).1 0).2.2≠0 then (default,[],sw s (dT s).1 (kK (dT s).1 0).2.1,(kK (dT s).1 0).2.2)
  else if (kQ (dT s).1 (kK (dT s).1 0).2.1).2.2≠0 then (default,[],sw s (dT s).1 (kQ (dT s).1 (kK (dT s).1 0).2.1).2.1,(kQ (dT s).1 (kK (dT s).1 0).2.1).2.2)
  else ((kK (dT s).1 0).1,(kQ (dT s).1 (kK (dT s).1 0).2.1).1,0,0)
theorem I5 {ws:List bC} :∀(f i:Nat) (e:Int) (ps:List pF) (pl:List Int),(∀x∈pl,0≤x)→∀x∈(CH ws f i e ps pl).2.1,0≤x
  |0,i,e,ps,pl,h=>by unfold CH;split<;>exact h
  |f+1,i,e,ps,pl,h=>by
    unfold CH;split
    · refine I5 f _ _ _ _ (fun x hx=>?_)
      rcases List.mem_append.1 hx with hx|hx
      · exact h x hx
      · rw [List.mem_singleton] at hx;omega
    · exact h
theorem NS (ws:List bC) (p:Int):0≤(kK ws p).2.1:=by
  unfold kK tj
  split
  · exact Int.le_refl _
  split
  · show (0:Int)≤((sP ws p.toNat).2.2.1:Int);omega
  split
  · show (0:Int)≤(sP ws p.toNat).2.1.getD _ 0
    rw [List.getD_eq_getElem?_getD];cases h:(sP ws p.toNat).2.1[(zi (sL ws p.toNat).1 (sP ws p.toNat).1).toNat]? with
    |none=>exact Int.le_refl _
    |some x=>exact I5 _ _ _ _ _ (fun x hx=>by cases hx) x (List.mem_of_getElem? h)
  · show (0:Int)≤((sP ws p.toNat).2.2.1:Int);omega
theorem KX (ws:List bC) (p:Int):0≤(kQ ws p).2.1:=by
  have key:∀(f i:Nat) (out:List Act),0≤(iG f ws i out).2.1:=by
    intro f
    induction f with
    |zero=>intro i out;show (0:Int)≤(i:Int);omega
    |succ f ih=>
      intro i out
      unfold iG
      split
      · show (0:Int)≤(i:Int);omega
      split
      · show (0:Int)≤(i:Int);omega
      split
      · show (0:Int)≤(i:Int);omega
      split
      · show (0:Int)≤((jd ws i).2.1:Int);omega
      · exact ih _ _
  unfold kQ;split
  · exact Int.le_refl _
  · exact key _ _ _
structure UB where
  sv:eM
  xs:List Act
  ad:Option Addr
  n:Nat
  cap:Nat
abbrev UB.val (x:UB):Value:= .agg #[.int .i64 x.sv.cr,.int .i64 x.sv.gr,.slice x.sv.ga x.sv.gn x.sv.gc,.slice x.sv.la x.sv.ln x.sv.lc,.slice x.sv.pa x.sv.pn x.sv.pc,.slice x.ad x.n x.cap]
structure UB.In (x:UB) (w:World):Prop where
  st:x.sv.In w
  hn:x.n=x.xs.length
  hx:Sr fA 5 x.xs (.slice x.ad x.n x.cap) w
def Mw (r:km×List Act×Int×Int) (n0:Nat) (v:Value) (m:aa):Prop:=∃x:UB,v= .tuple #[x.val,.int .i64 r.2.2.1,.int .i64 r.2.2.2]∧x.sv.C=r.1∧x.xs=r.2.1∧∀w,Mem w m→x.In w
theorem Mw.mono {r:km×List Act×Int×Int} :∀(k k':Nat) u m,k'≤k→Mw r k u m→Mw r k' u m:=fun k k' u m h q=>q
theorem Mw.RB {p e:Int} {n0:Nat} :Mw (default,[],p,e) n0 (.tuple #[.agg #[.int .i64 0,.int .i64 0,.slice none 0 0,.slice none 0 0,.slice none 0 0,.slice none 0 0],.int .i64 p,.int .i64 e]) [] :=
  ⟨⟨default,[],Option.none,0,0⟩,rfl,rfl,rfl,fun w _=>⟨⟨rfl,.nil _ _ _,rfl,.nil _ _ _,rfl,.nil _ _ _,fun p hp=>by cases hp⟩,rfl,.nil _ _ _⟩⟩
theorem zR {ws:List bC} {ad:Option Addr} {n cap:Nat} (s:List UInt8) (j:Nat) (w:World) (hn:n=ws.length) (hl:Sr fW 4 ws (.slice ad n cap) w):aJ Tryz.prog 46 #[vS s,.slice ad n cap,.int .i64 (j:Nat)] w (fun v w'=>v= .int .i64 (sw s ws (j:Nat))∧Ext w w'):=by
 refine aJ.au Tryz.func46 rfl Tryz.ntmps46 rfl ([]) (no) (Mem.nil w) ?_;refine lh ?_;refine af.aj rfl (fun h1=>?_) (fun h1=>?_)
 ·refine J6 ?_;refine LM.eR (dy (j:=3) aA Tryz.isAgg3 rfl rfl cR (by rfl) (by rfl) id) ?_;refine J5 ?_;refine qL Tryz.results46 rfl fun w' aq ab aI=>?_;refine ⟨?_,ab⟩;unfold sw;rw [if_pos om,Int.toNat_natCast];rfl
 refine J5 ?_;refine LM.val (jB Tryz.underlying9 rfl) ?_;refine J4 ?_;refine qL Tryz.results46 rfl fun w' aq ab aI=>?_;refine ⟨?_,ab⟩;unfold sw;rw [if_neg om];rfl
theorem sN {ws:List bC} {ad:Option Addr} {n cap:Nat} (s:List UInt8) (p:Int) (w:World) (hn:n=ws.length) (hl:Sr fW 4 ws (.slice ad n cap) w) (hp0:0≤p):
    aJ Tryz.prog 46 #[vS s,.slice ad n cap,.int .i64 p] w (fun v w'=>v= .int .i64 (sw s ws p)∧Ext w w'):=by
  obtain ⟨j,rfl⟩:∃j:Nat,p=(j:Int):=⟨p.toNat,by omega⟩
  exact zR s j w hn hl
theorem yB (s:List UInt8) (w:World) (hs:s.length≤1000000000):aJ Tryz.prog 20 #[vS s] w (fun v w'=>Ext w w'∧∃m,Mw (jT s) w.heap.size v m∧Mem w' m∧∀p∈m,w.heap.size≤p.1):=by
 refine aJ.au Tryz.func20 rfl Tryz.ntmps20 rfl ([]) (no) (Mem.nil w) ?_;refine J2 ?_;refine LM.alloc Tryz.zeroValue75 rfl (fun b2 tn=>?_);refine J7 ?_;refine LM.iK (oC Tryz.func44) WB.mono (fun w hm hc hg=>Gq w om) ?_;rintro u13 m13 ⟨ama,n13,agJ,rfl,Nx,M0⟩-;have aky:=JO s;refine ET ?_;refine af.aj rfl (fun h1=>?_) (fun h1=>?_)
 ·refine J2 ?_;refine LM.val (aD (cs:=#[_,_,_,_,_,_]) rfl (by first|rfl|kernel_rfl)) ?_;refine J2 ?_;refine LM.dC Tryz.sizeOf75 rfl rfl rfl rfl dD cn ?_;refine J6 ?_;refine QM.aV (ds:=([])) (.inl rfl) [.cell 2 75,.tmp 3,.tmp 4] Tryz.results20 bh (cN rfl Tryz.isAgg75 Tryz.sizeOf75 rfl (aU rfl (aU rfl bn))) ?_;intro w' aq ab
  unfold jT;rw [if_pos h1];exact⟨ab,[],Mw.RB,Mem.nil _,fun p hp=>by cases hp⟩
 refine J5 ?_;refine LM.iK (oC Tryz.func45) Mh.mono (fun w hm hc hg=>B3 0 w Nx om (M0.k8 ir hm)) ?_;rintro u24 m24 ⟨sv,rfl,Vz,jl⟩ Yp;refine J4 ?_;refine LM.alloc Tryz.zeroValue30 rfl (fun b8 L4=>?_);refine LM.dC Tryz.sizeOf30 rfl rfl rfl rfl dD cn ?_;refine dA ?_;refine af.aj rfl (fun h2=>?_) (fun h2=>?_)
 ·refine J2 ?_;refine LM.val (aD (cs:=#[_,_,_,_,_,_]) rfl (by first|rfl|kernel_rfl)) ?_;refine J3 ?_;refine cE Tryz.func46 rfl (fun w hm hc hg=>sN s _ w Nx (M0.k8 ir hm) (NS _ _)) ?_;refine J1 ?_;refine LM.dC Tryz.sizeOf75 rfl rfl rfl rfl dD cn ?_;refine J6 ?_;refine QM.aV (ds:=([])) (.inl rfl) [.cell 2 75,.tmp 3,.tmp 4] Tryz.results20 bh (cN rfl Tryz.isAgg75 Tryz.sizeOf75 rfl (aU rfl (aU rfl bn))) ?_;intro w' aq ab
  unfold jT;rw [if_neg h1,if_pos h2];exact⟨ab,[],Mw.RB,Mem.nil _,fun p hp=>by cases hp⟩
 refine J6 ?_;refine LM.iK (oC Tryz.func47) WT.mono (fun w hm hc hg=>yy _ w Nx om (M0.k8 ir hm)) ?_;rintro u39 m39 ⟨abF,n39,YT,rfl,aaX,acf⟩ WC;refine ET ?_;refine af.aj rfl (fun h3=>?_) (fun h3=>?_)
 ·refine J2 ?_;refine LM.val (aD (cs:=#[_,_,_,_,_,_]) rfl (by first|rfl|kernel_rfl)) ?_;refine J3 ?_;refine cE Tryz.func46 rfl (fun w hm hc hg=>sN s _ w Nx (M0.k8 ir hm) (KX _ _)) ?_;refine J1 ?_;refine LM.dC Tryz.sizeOf75 rfl rfl rfl rfl dD cn ?_;refine J6 ?_;refine QM.aV (ds:=([])) (.inl rfl) [.cell 2 75,.tmp 3,.tmp 4] Tryz.results20 bh (cN rfl Tryz.isAgg75 Tryz.sizeOf75 rfl (aU rfl (aU rfl bn))) ?_;intro w' aq ab
  unfold jT;rw [if_neg h1,if_neg h2,if_pos h3];exact⟨ab,[],Mw.RB,Mem.nil _,fun p hp=>by cases hp⟩
 refine J4 ?_;refine LM.rd (bo Tryz.isAgg30 Tryz.sizeOf30 rfl rfl) ?_;refine J1 ?_;refine LM.val (aD (cs:=#[_,_,_,_,_,_]) rfl (by first|rfl|kernel_rfl)) ?_;refine LM.dC Tryz.sizeOf75 rfl rfl rfl rfl dD cn ?_;refine J5 ?_;refine QM.aV (ds:=([])) (.inl rfl) [.cell 2 75,.tmp 3,.tmp 4] Tryz.results20 bh (cN rfl Tryz.isAgg75 Tryz.sizeOf75 rfl (aU rfl (aU rfl bn))) ?_;intro w' aq ab
 unfold jT;rw [if_neg h1,if_neg h2,if_neg h3];refine ⟨ab,m39++(m24++ []),⟨⟨sv,_,abF,n39,YT⟩,rfl,Vz,rfl,fun w hm=>⟨jl w (hm.pick m24),aaX,acf.k8 ir hm⟩⟩,aT.mem (by(repeat' (first|exact aT.nil _|refine aT.app ?_))) w' aq,?_⟩;intro p hp;simp only [List.mem_append,List.not_mem_nil,or_false] at hp;rcases hp with hp|hp;exact WC p hp;exact Yp p hp
theorem DY {s:List UInt8} (h:(jT s).2.2.2=0):fy (jT s).1=true:=by
  unfold jT at h ⊢
  split at h
  · next e=>exact absurd h e
  next e1=>
  rw [if_neg e1]
  split at h
  · next e=>exact absurd h e
  next e2=>
  rw [if_neg e2]
  split at h
  · next e=>exact absurd h e
  next e3=>
  rw [if_neg e3];exact On (Classical.not_not.1 e2)
def Mu (n:Nat) (k:Int) (k0:Nat) (v:Value) (m:aa):Prop:=∃(x:eM) (ok:Bool),v= .tuple #[x.val,.bool ok]∧(ok=true→fy x.C=true∧(n:Int)≤k)∧∀w,Mem w m→x.In w
theorem Mu.mono {n:Nat} {k:Int} :∀(a b:Nat) u m,b≤a→Mu n k a u m→Mu n k b u m:=fun a b u m h q=>q
abbrev MK (b:Nat) (t:List UInt8) (Ab:Option Addr) (na nQ:Nat):Nat×Obj:=(b,.cells #[vS t,.slice Ab na nQ] 24 (0,0))
abbrev seZ (b:Nat):Nat×Obj:=(b,.cells #[.int .i64 0,.int .i64 0,.slice none 0 0,.slice none 0 0,.slice none 0 0] 30 (0,0))
abbrev scB (b:Nat) (x:UB):Nat×Obj:=(b,.cells #[.int .i64 x.sv.cr,.int .i64 x.sv.gr,.slice x.sv.ga x.sv.gn x.sv.gc,.slice x.sv.la x.sv.ln x.sv.lc,.slice x.sv.pa x.sv.pn x.sv.pc,.slice x.ad x.n x.cap] 75 (0,0))
theorem Mu.nil {n:Nat} {k:Int} {k0:Nat} {w:World} {w':World} (hc:Ext w w'):Ext w w'∧∃m,Mu n k w.heap.size (.tuple #[.agg #[.int .i64 0,.int .i64 0,.slice none 0 0,.slice none 0 0,.slice none 0 0],.bool false]) m∧Mem w' m∧∀p∈m,w.heap.size≤p.1:=
  ⟨hc,[],⟨default,false,rfl,fun q=>(by cases q),fun w _=>⟨rfl,.nil _ _ _,rfl,.nil _ _ _,rfl,.nil _ _ _,fun p hp=>by cases hp⟩⟩,Mem.nil _,fun p hp=>by cases hp⟩
set_option maxHeartbeats 1000000 in
theorem BD (t:List UInt8) {xs:List Act} {Ab:Option Addr} {na nQ:Nat} (k r:Int) (w:World) (HX:na=xs.length) (hl:Sr fA 5 xs (.slice Ab na nQ) w) (hr:0≤r∧r≤1000000) (hk:k≤1000000):aJ Tryz.prog 6 #[.agg #[vS t,.slice Ab na nQ],.int .i64 k,.int .i64 r] w (fun v w'=>Ext w w'∧∃m,Mu xs.length k w.heap.size v m∧Mem w' m∧∀p∈m,w.heap.size≤p.1):=by
 refine aJ.au Tryz.func6 rfl Tryz.ntmps6 rfl ([]) (no) (Mem.nil w) ?_;refine J2 ?_;refine LM.box rfl rfl (fun b3 Jc=>?_);refine LM.alloc Tryz.zeroValue30 rfl (fun b6 Qh=>?_);refine J8 ?_;refine LM.val (jB Tryz.underlying9 rfl) ?_;refine J2 ?_;refine LM.ar (t:=17) rfl (fun h1=>?_) (fun h1=>?_)
 ·refine dA ?_;refine LM.val (aD (cs:=#[_,_,_,_,_]) rfl (by first|rfl|kernel_rfl)) ?_;refine LM.dC Tryz.sizeOf30 rfl rfl rfl rfl dD cn ?_;refine J5 ?_;refine QM.aV (ds:=([])) (.inl rfl) [.cell 6 30,.tmp 7] Tryz.results6 bh (cN rfl Tryz.isAgg30 Tryz.sizeOf30 rfl (aU rfl bn)) ?_;intro w' aq ab;exact Mu.nil (k0:=0) ab
 refine J9 ?_;refine af.aj rfl (fun h2=>?_) (fun h2=>?_)
 ·refine J2 ?_;refine LM.val (aD (cs:=#[_,_,_,_,_]) rfl (by first|rfl|kernel_rfl)) ?_;refine LM.dC Tryz.sizeOf30 rfl rfl rfl rfl dD cn ?_;refine J5 ?_;refine QM.aV (ds:=([])) (.inl rfl) [.cell 6 30,.tmp 7] Tryz.results6 bh (cN rfl Tryz.isAgg30 Tryz.sizeOf30 rfl (aU rfl bn)) ?_;intro w' aq ab;exact Mu.nil (k0:=0) ab
 refine cL ?_;refine af.aS (α:=Nat×Int) (fun ⟨i,q⟩=>[(2,.int .i64 q),(28,.int .i64 (i:Nat))]) [(3,_),(6,_),(26,_),(27,_)] (fun ⟨i,q⟩=>MK b3 t Ab na nQ::seZ b6:: []) (fun ⟨i,q⟩=>i≤na∧0≤q∧q≤r) (fun ⟨i,q⟩=>na-i) ((0,r)) cm aX ⟨Nat.zero_le _,hr.1,Int.le_refl _⟩ ?_;rintro ⟨i,q⟩ ⟨hi,QS,hqr⟩;change af _ _ _ _ _ _ _ (MK b3 t Ab na nQ::seZ b6:: []) _ _ _;refine J6 ?_;refine af.aj rfl (fun h3=>?_) (fun h3=>?_)
 ·refine J7 ?_;refine LM.eR (dZ aA ir Tryz.isAgg37 Tryz.sizeOf37 rfl cR id) ?_;refine LM.alloc Tryz.zeroValue37 rfl (fun b9 hb9=>?_);refine LM.dC Tryz.sizeOf37 rfl rfl rfl rfl dD cn ?_;refine J9 ?_;refine LM.ar (t:=35) rfl (fun h4=>?_) (fun h4=>?_)
  ·refine UT ?_;refine aK ((i+1,q)) ?_ ?_
   · exact⟨by omega,QS,hqr⟩
   · (dsimp only;omega)
  refine J6 ?_;refine LM.ar (t:=40) rfl (fun h5=>?_) (fun h5=>?_)
  ·refine tO ?_;refine aK ((i+1,q)) ?_ ?_
   · exact⟨by omega,QS,hqr⟩
   · (dsimp only;omega)
  refine J7 ?_;refine af.aj rfl (fun h6=>?_) (fun h6=>?_)
  ·refine J8 ?_;refine aK ((i+1,q)) ?_ ?_
   · exact⟨by omega,QS,hqr⟩
   · (dsimp only;omega)
  refine xq ?_;refine af.aj rfl (fun h7=>?_) (fun h7=>?_)
  ·refine J2 ?_;refine LM.val (aD (cs:=#[_,_,_,_,_]) rfl (by first|rfl|kernel_rfl)) ?_;refine LM.dC Tryz.sizeOf30 rfl rfl rfl rfl dD cn ?_;refine J9 ?_;refine QM.aV (ds:=([])) (.inl rfl) [.cell 6 30,.tmp 7] Tryz.results6 bh (cN rfl Tryz.isAgg30 Tryz.sizeOf30 rfl (aU rfl bn)) ?_;intro w' aq ab;exact Mu.nil (k0:=0) ab
  refine J7 ?_;refine aK ((i+1,q-(xs.getD i default).a)) ?_ ?_
  · exact⟨by omega,by omega,by omega⟩
  · (dsimp only;omega)
 refine J9 ?_;refine LM.iK (oC Tryz.func20) Mw.mono (fun w hm hc hg=>yB t w om) ?_;rintro u56 wN ⟨x,rfl,Ca,hxa,jl⟩ Qc;refine J4 ?_;refine LM.alloc Tryz.zeroValue75 rfl (fun sQ JD=>?_);refine LM.dC Tryz.sizeOf75 rfl rfl rfl rfl dD cn ?_;refine J5 ?_;refine af.keep (scB sQ x:: []) (fun _=>True) (.one 0 0 (.one 1 1 (.one 2 0 (.one 3 0 (.one 4 0 (.one 5 0 (.one 6 1 (.one 7 0 (.one 8 0 (.one 9 0 (.one 10 2 (.one 11 0 .nil)))))))))))) kr kr aX (fun _ _=>trivial) ?_;refine J1 ?_;refine KD.rd rfl rfl (pP Tryz.isAgg30 Tryz.sizeOf30 rfl (vs:=[_,_,_,_,_]) rfl ⟨rfl,rfl,rfl,rfl,rfl,trivial⟩) ?_;refine J3 ?_;refine KD.ar (t:=64) rfl (fun h8=>?_) (fun h8=>?_)
 ·refine J6 ?_;refine LM.dC Tryz.sizeOf30 rfl rfl rfl rfl dD cn ?_;refine J6 ?_;refine QM.aV (ds:=([])) (.inl rfl) [.cell 6 30,.tmp 7] Tryz.results6 bh (cN rfl Tryz.isAgg30 Tryz.sizeOf30 rfl (aU rfl bn)) ?_;intro w' aq ab;exact⟨ab,wN,⟨x.sv,_,rfl,fun _=>⟨by rw [Ca];exact DY h8,by omega⟩,fun w hm=>(jl w hm).st⟩,aq.pick wN,Qc⟩
 refine J6 ?_;refine LM.dC Tryz.sizeOf30 rfl rfl rfl rfl dD cn ?_;refine J6 ?_;refine QM.aV (ds:=([])) (.inl rfl) [.cell 6 30,.tmp 7] Tryz.results6 bh (cN rfl Tryz.isAgg30 Tryz.sizeOf30 rfl (aU rfl bn)) ?_;intro w' aq ab;exact⟨ab,wN,⟨x.sv,_,rfl,fun q=>(by cases q),fun w hm=>(jl w hm).st⟩,aq.pick wN,Qc⟩
end Go.Eng
namespace Go.Eng
open Go Go.RowKit
structure Vw where
  n:Nat
  nl:Nat
  cr:Int
  sh:Nat→Bool
  hw:Nat→Int
  lo:Nat→Int
  co:Nat→Int
  hs:Nat→List Hd
def u3 (sh:Bool) (h:Hd):Bool:=sh&&decide (h.p=0)
structure pC (v:Vw) (w:ck):Prop where
  n:w.ts.length=v.n
  Hr:v.n≤64
  hw:∀t,t<v.n→(bU w t).how=v.hw t
  co:∀t,t<v.n→(bU w t).core=v.co t
  lo:∀t,t<v.n→v.hw t=4→(bU w t).lock=v.lo t
  sl:w.sh.length=v.nl
  rl:w.rd.length=v.nl
  wl:w.wr.length=v.nl
  sh:∀l,l<v.nl→w.sh.getD l false=v.sh l
  cr:w.cores=v.cr
  hr:∀l,l<v.nl→∀h∈v.hs l,0≤h.t∧h.t<(v.n:Int)
  rd:∀l,l<v.nl→∀q:Int,aN (lz w l) q=true↔∃h∈v.hs l,u3 (v.sh l) h=true∧h.t=q
  wr:∀l,l<v.nl→∀q:Int,aN (lj w l) q=true↔∃h∈v.hs l,u3 (v.sh l) h=false∧h.t=q
structure QJ (v u:Vw):Prop where
  n:v.n=u.n
  nl:v.nl=u.nl
  cr:v.cr=u.cr
  sh:∀l,l<v.nl→v.sh l=u.sh l
  hw:∀t,t<v.n→v.hw t=u.hw t
  lo:∀t,t<v.n→v.hw t=4→v.lo t=u.lo t
  co:∀t,t<v.n→v.co t=u.co t
  hs:∀l,l<v.nl→∀h,h∈v.hs l↔h∈u.hs l
theorem pC.eqv {v u:Vw} {w:ck} (h:pC v w) (e:QJ v u):pC u w:=by
  refine ⟨e.n▸h.n,e.n▸h.Hr,fun t ht=>?_,fun t ht=>?_,fun t ht h4=>?_,e.nl▸h.sl,e.nl▸h.rl,e.nl▸h.wl,fun l hl=>?_,e.cr▸h.cr,fun l hl g hg=>?_,fun l hl q=>?_,fun l hl q=>?_⟩
  · rw [←e.n] at ht;rw [h.hw t ht,e.hw t ht]
  · rw [←e.n] at ht;rw [h.co t ht,e.co t ht]
  · rw [←e.n] at ht;rw [←e.hw t ht] at h4;rw [h.lo t ht h4,e.lo t ht h4]
  · rw [←e.nl] at hl;rw [h.sh l hl,e.sh l hl]
  · rw [←e.nl] at hl;rw [←e.n];exact h.hr l hl g ((e.hs l hl g).2 hg)
  · rw [←e.nl] at hl;rw [h.rd l hl q,e.sh l hl]
    exact⟨fun ⟨g,a,b⟩=>⟨g,(e.hs l hl g).1 a,b⟩,fun ⟨g,a,b⟩=>⟨g,(e.hs l hl g).2 a,b⟩⟩
  · rw [←e.nl] at hl;rw [h.wr l hl q,e.sh l hl]
    exact⟨fun ⟨g,a,b⟩=>⟨g,(e.hs l hl g).1 a,b⟩,fun ⟨g,a,b⟩=>⟨g,(e.hs l hl g).2 a,b⟩⟩
def aP {α:Type} (f:Nat→α) (i:Nat) (a:α):Nat→α:=fun j=>if i=j then a else f j
theorem bG {α:Type} (f:Nat→α) (i:Nat) (a:α):aP f i a i=a:=if_pos rfl
theorem bf {α:Type} (f:Nat→α) {i j:Nat} (a:α) (h:i≠j):aP f i a j=f j:=if_neg h
theorem aR {α:Type} (f:Nat→α) (i j:Nat):aP f i (f i) j=f j:=by
  by_cases e:i=j
  · rw [e];exact if_pos rfl
  · exact if_neg e
def Vw.put (v:Vw) (t:Nat) (hw lo co:Int):Vw:= {v with hw:=aP v.hw t hw,lo:=aP v.lo t lo,co:=aP v.co t co}
def Vw.hd (v:Vw) (l:Nat) (hs:List Hd):Vw:= {v with hs:=aP v.hs l hs}
theorem qD {w:ck} {t:Nat} (ht:t<w.ts.length) (T:tY) (j:Nat):bU (w.put t T) j=if t=j then T else bU w j:=by
  show (w.ts.set t T).getD j default=_
  rw [List.getD_eq_getElem?_getD,List.getElem?_set]
  by_cases e:t=j
  · rw [if_pos e,if_pos e,if_pos ht];rfl
  · rw [if_neg e,if_neg e];unfold bU;rw [List.getD_eq_getElem?_getD]
theorem pC.put {v:Vw} {w:ck} (h:pC v w) {t:Nat} (ht:t<v.n) (T:tY):pC (v.put t T.how T.lock T.core) (w.put t T):=by
  have hl:t<w.ts.length:=by rw [h.n];exact ht
  refine ⟨by show (w.ts.set t T).length=_;rw [List.length_set];exact h.n,h.Hr,fun j hj=>?_,fun j hj=>?_,fun j hj h4=>?_,h.sl,h.rl,h.wl,h.sh,h.cr,h.hr,h.rd,h.wr⟩
  · rw [qD hl];show _=aP v.hw t _ j;unfold aP;split;rfl;exact h.hw j hj
  · rw [qD hl];show _=aP v.co t _ j;unfold aP;split;rfl;exact h.co j hj
  · rw [qD hl];show _=aP v.lo t _ j;unfold aP
    have h4:aP v.hw t T.how j=4:=h4
    unfold aP at h4
    split
    · rfl
    · next e=>rw [if_neg e] at h4;exact h.lo j hj h4
theorem pC.at {v:Vw} {w:ck} (h:pC v w) (tm:BitVec 64):pC v {w with now:=tm} :=⟨h.n,h.Hr,h.hw,h.co,h.lo,h.sl,h.rl,h.wl,h.sh,h.cr,h.hr,h.rd,h.wr⟩
theorem Vu {w:ck} {e:fu} {t:Nat} (hf:oZ w e=true) (hk:e.k≠1) (he:e.t=(t:Int)) (ht:t<w.ts.length) (hb:q8 {w with now:=e.tm} t e=true):
    mT w e=true∧dk w e=ofM {w with now:=e.tm} t e:=by
  have e1:e.t.toNat=t:=by omega
  constructor
  · unfold mT;rw [hf,if_neg hk,e1,hb,decide_eq_true (show (0:Int)≤e.t by omega),decide_eq_true (show e.t<(w.ts.length:Int) by omega)];rfl
  · unfold dk;rw [hf,if_neg (by decide),if_neg hk,if_neg om,e1]
theorem Ci {w:ck} {e:fu} (ht:w.now.toNat≤e.tm.toNat) (hk:PG e.k=false) (hl:e.l= -1) (hn:e.n=0∨SI e.k=false):oZ w e=true:=by
  unfold oZ;rw [decide_eq_true ht,hk,if_neg (by decide),decide_eq_true hl]
  rcases hn with q|q
  · rw [decide_eq_true q];rfl
  · rw [q];simp
theorem HH {w:ck} {e:fu} (ht:w.now.toNat≤e.tm.toNat) (hk:PG e.k=true) (h0:0≤e.l) (hl:e.l<w.sh.length) (hn:e.n=0∨SI e.k=false):oZ w e=true:=by
  unfold oZ;rw [decide_eq_true ht,hk,if_pos rfl,decide_eq_true h0,decide_eq_true hl]
  rcases hn with q|q
  · rw [decide_eq_true q];rfl
  · rw [q];simp
inductive UL (w0:ck):List fu→ck→Prop
  |nil:UL w0 [] w0
  |snoc {l:List fu} {w:ck} {e:fu} :UL w0 l w→mT w e=true→UL w0 (l++ [e]) (dk w e)
theorem FZ (w:ck) (e:fu) (b:Bool):(mP w e b).now=w.now:=by unfold mP;split<;>rfl
theorem ON (w:ck) (i:Nat) (e:fu):(tE w i e).now=w.now:=by
  have h:(jC w e).now=w.now:=by unfold jC;split<;>rfl
  unfold tE;split
  · split
    · exact h
    · exact h
  · rfl
theorem N7 (w:ck) (i:Nat) (e:fu):(vx w i e).now=w.now:=by unfold vx;split<;>rfl
theorem ep {c:Prop} [Decidable c] {a b:ck} {t:BitVec 64} (h1:a.now=t) (h2:b.now=t):(if c then a else b).now=t:=by split;exact h1;exact h2
theorem FO (w:ck) (i:Nat) (e:fu):(ofM w i e).now=w.now:=by
  unfold ofM
  exact ep rfl (ep rfl (ep (ON ..) (ep (FZ ..) (ep (FZ ..) (ep (N7 ..) (ep rfl (ep rfl (ep rfl (ep rfl (ep (ep rfl rfl) (ep (ep rfl rfl) rfl)))))))))))
def AV (w0:ck) (ev:List fu) (now:BitVec 64) (v:Vw):Prop:=∃w,UL w0 ev w∧w.now.toNat≤now.toNat∧pC v w
theorem AV.eqv {w0:ck} {ev:List fu} {now:BitVec 64} {v u:Vw} (h:AV w0 ev now v) (e:QJ v u):AV w0 ev now u:=by
  obtain ⟨w,h1,h2,h3⟩:=h;exact⟨w,h1,h2,h3.eqv e⟩
theorem AV.of {w0:ck} {ev:List fu} {now:BitVec 64} {v u:Vw} {e:fu} (h:AV w0 ev now v) (he:e.tm=now) (hk:e.k≠1) {t:Nat} (hte:e.t=(t:Int)) (ht:t<v.n)
    (hf:∀w,w.now.toNat≤now.toNat→pC v w→oZ w e=true) (hm:∀w,pC v w→q8 w t e=true∧pC u (ofM w t e)):AV w0 (ev++ [e]) now u:=by
  obtain ⟨w,h1,h2,h3⟩:=h;have q:=hm {w with now:=e.tm} (h3.at _);obtain ⟨e1,e2⟩:=Vu (hf w h2 h3) hk hte (by rw [h3.n];exact ht) q.1;refine ⟨dk w e,.snoc h1 e1,?_,by rw [e2];exact q.2⟩;rw [e2,FO,←he];exact Nat.le_refl _
section
variable {w0:ck} {ev:List fu} {now:BitVec 64} {v:Vw} (h:AV w0 ev now v)
include h
theorem AV.spawn {co:Int} (zZ:v.n<64) (hc:0≤co∧co<v.cr):AV w0 (ev++ [⟨now,1,(v.n:Nat),-1,co⟩]) now {v with n:=v.n+1,hw:=aP v.hw v.n 1,co:=aP v.co v.n co} :=by
  obtain ⟨w,h1,h2,h3⟩:=h;have hf:oZ w ⟨now,1,(v.n:Nat),-1,co⟩=true:=Ci h2 rfl rfl (.inr rfl)
  have hs:Bs {w with now:=now} ⟨now,1,(v.n:Nat),-1,co⟩=true:=by
    unfold Bs
    have e1:=h3.n;have e2:=h3.cr;simp only [Bool.and_eq_true,decide_eq_true_eq];exact⟨by omega,by omega,hc.1,by omega⟩
  have hM:dk w ⟨now,1,(v.n:Nat),-1,co⟩= {w with now:=now,ts:=w.ts++ [⟨co,1,0⟩] } :=by
    unfold dk;rw [hf,if_neg (by decide),if_pos rfl];unfold He;rw [if_pos hs]
  have ss:Bs w ⟨now,1,(v.n:Nat),-1,co⟩=true:=hs;refine ⟨_,.snoc h1 (by unfold mT;rw [hf,if_pos rfl,ss];rfl),?_⟩;rw [hM]
  have hg:∀t,bU {w with now:=now,ts:=w.ts++ [⟨co,1,0⟩] } t=if v.n=t then ⟨co,1,0⟩ else bU w t:=fun t=>by
    show (w.ts++ [_]).getD t default=_
    rw [List.getD_eq_getElem?_getD];have e1:=h3.n;rcases Nat.lt_trichotomy t w.ts.length with q|q|q
    · rw [List.getElem?_append_left q,if_neg om,←List.getD_eq_getElem?_getD]
    · rw [List.getElem?_append_right om,if_pos om,q,Nat.sub_self];rfl
    · rw [if_neg om,List.getElem?_eq_none (by rw [List.length_append,List.length_singleton];omega)]
      unfold bU;rw [List.getD_eq_getElem?_getD,List.getElem?_eq_none om]
  refine ⟨Nat.le_refl _,by show (w.ts++ [_]).length=_;rw [List.length_append,List.length_singleton,h3.n],by show v.n+1≤64;omega,fun t ht=>?_,fun t ht=>?_,fun t ht h4=>?_,h3.sl,h3.rl,h3.wl,h3.sh,h3.cr,fun l hl g hg=>?_,h3.rd,h3.wr⟩
  · rw [hg];show _=aP v.hw v.n 1 t;unfold aP;split;rfl;exact h3.hw t (by have:t<v.n+1:=ht;omega)
  · rw [hg];show _=aP v.co v.n co t;unfold aP;split;rfl;exact h3.co t (by have:t<v.n+1:=ht;omega)
  · rw [hg]
    have h4:aP v.hw v.n 1 t=4:=h4
    unfold aP at h4
    split
    · next e=>rw [if_pos e] at h4;cases h4
    · next e=>rw [if_neg e] at h4;exact h3.lo t (by have:t<v.n+1:=ht;omega) h4
  · have:=h3.hr l hl g hg;show 0≤g.t∧g.t<((v.n+1:Nat):Int);omega
section
variable {t:Nat} (ht:t<v.n)
include ht
theorem AV.xf {k l n:Int} (hk:k≠1) (hf:∀w,w.now.toNat≤now.toNat→pC v w→oZ w ⟨now,k,t,l,n⟩=true) {T:tY→tY} {hw lo co:Int}
    (hm:∀w,pC v w→q8 w t ⟨now,k,t,l,n⟩=true∧ofM w t ⟨now,k,t,l,n⟩=w.put t (T (bU w t))∧(T (bU w t)).how=hw∧(T (bU w t)).core=co∧(hw=4→(T (bU w t)).lock=lo)):
    AV w0 (ev++ [⟨now,k,t,l,n⟩]) now (v.put t hw lo co):=by
  refine h.of rfl hk rfl ht hf (fun w Ut=>?_);obtain ⟨h1,h2,h3,h4,h5⟩:=hm w Ut;refine ⟨h1,?_⟩;rw [h2];refine (Ut.put ht (T (bU w t))).eqv ⟨rfl,rfl,rfl,fun _ _=>rfl,fun j hj=>?_,fun j hj Vs=>?_,fun j hj=>?_,fun _ _ _=>Iff.rfl⟩
  · show aP v.hw t _ j=aP v.hw t _ j;rw [h3]
  · have Vs:aP v.hw t (T (bU w t)).how j=4:=Vs
    show aP v.lo t _ j=aP v.lo t _ j
    unfold aP at Vs ⊢
    split
    · next e=>rw [if_pos e,h3] at Vs;exact h5 Vs
    · rfl
  · show aP v.co t _ j=aP v.co t _ j;rw [h4]
theorem AV.aez (h1:v.hw t=1) (hn:∀j,j<v.n→v.hw j=2→v.co j≠v.co t):AV w0 (ev++ [⟨now,2,t,-1,v.co t⟩]) now (v.put t 2 (v.lo t) (v.co t)):=by
  refine h.xf ht (by decide) (fun w hw _=>Ci hw rfl rfl (.inr rfl)) (T:=fun T=> {T with how:=2}) (fun w hw=>?_);have e1:=(hw.hw t ht).trans h1;have e2:=hw.co t ht
  have hi:GA w (bU w t).core=true:=by
    unfold GA
    rw [Bool.not_eq_true',List.any_eq_false];intro T hT q;simp only [Bool.and_eq_true,decide_eq_true_eq] at q;obtain ⟨j,hj,rfl⟩:=List.getElem_of_mem hT;have hg:bU w j=w.ts[j] :=by unfold bU;rw [List.getD_eq_getElem?_getD,List.getElem?_eq_getElem hj];rfl
    rw [←hg] at q;have QP:j<v.n:=by rw [←hw.n];exact hj
    exact hn j QP (by rw [←hw.hw j QP];exact q.1) (by rw [←hw.co j QP,q.2,e2])
  have hb:gw (bU w t) 1 (decide (v.co t=(bU w t).core)&&GA w (bU w t).core)=true:=by
    unfold gw;rw [decide_eq_true e1,decide_eq_true e2.symm,hi];rfl
  refine ⟨hb,?_,rfl,e2,fun q=>by cases q⟩
  show w.put t (kl _ _ _ _)=_
  unfold kl;rw [if_pos hb]
theorem AV.leave (k:Int) (hk:k=3∨k=10) (h2:v.hw t=2):AV w0 (ev++ [⟨now,k,t,-1,v.co t⟩]) now (v.put t 1 (v.lo t) (v.co t)):=by
  refine h.xf ht om (fun w hw _=>Ci hw (by rcases hk with rfl|rfl<;>rfl) rfl (.inr (by rcases hk with rfl|rfl<;>rfl))) (T:=fun T=> {T with how:=1}) (fun w hw=>?_);have e1:=(hw.hw t ht).trans h2;have e2:=hw.co t ht;have hb:gw (bU w t) 2 (decide (v.co t=(bU w t).core))=true:=by unfold gw;rw [decide_eq_true e1,decide_eq_true e2.symm];rfl
  have e3:q8 w t ⟨now,k,t,-1,v.co t⟩=gw (bU w t) 2 (decide (v.co t=(bU w t).core)):=by
    unfold q8;rw [if_neg (show¬(k=2) by omega),if_pos (show k=3∨k=10 from hk)]
  have e4:ofM w t ⟨now,k,t,-1,v.co t⟩=w.put t (kl (bU w t) 2 1 (decide (v.co t=(bU w t).core))):=by
    unfold ofM;rw [if_neg (show¬(k=2) by omega),if_pos (show k=3∨k=10 from hk)]
  refine ⟨by rw [e3];exact hb,?_,rfl,e2,fun q=>by cases q⟩;rw [e4];unfold kl;rw [if_pos hb]
theorem AV.Wq (hh:v.hw t=3∨v.hw t=6∨v.hw t=7):AV w0 (ev++ [⟨now,7,t,-1,v.co t⟩]) now (v.put t 1 (v.lo t) (v.co t)):=by
  refine h.xf ht (by decide) (fun w hw _=>Ci hw rfl rfl (.inr rfl)) (T:=fun T=> {T with how:=1}) (fun w hw=>?_);have e1:=hw.hw t ht;have e2:=hw.co t ht
  have hb:Il (bU w t) (decide (v.co t=(bU w t).core))=true:=by
    unfold Il;rw [e1,decide_eq_true e2.symm];rcases hh with q|q|q<;>rw [q] <;>rfl
  refine ⟨hb,?_,rfl,e2,fun q=>by cases q⟩
  show w.put t (Me _ _)=_
  unfold Me;rw [if_pos hb]
theorem AV.sleep {n:Int} (h2:v.hw t=2) (hn:1≤n∧n≤64):AV w0 (ev++ [⟨now,9,t,-1,n⟩]) now (v.put t 3 (v.lo t) (v.co t)):=by
  refine h.xf ht (by decide) (fun w hw _=>Ci hw rfl rfl (.inr rfl)) (T:=fun T=> {T with how:=3}) (fun w hw=>?_);have e1:=(hw.hw t ht).trans h2;have e2:=hw.co t ht;have hb:gw (bU w t) 2 (decide (1≤n)&&decide (n≤64))=true:=by unfold gw;rw [decide_eq_true e1,decide_eq_true hn.1,decide_eq_true hn.2];rfl
  refine ⟨hb,?_,rfl,e2,fun q=>by cases q⟩
  show w.put t (kl _ _ _ _)=_
  unfold kl;rw [if_pos hb]
theorem AV.weight {n:Int} (h2:v.hw t=2) (hn:1≤n∧n≤16):AV w0 (ev++ [⟨now,14,t,-1,n⟩]) now (v.put t 2 (v.lo t) (v.co t)):=by
  refine h.xf ht (by decide) (fun w hw _=>Ci hw rfl rfl (.inr rfl)) (T:=fun T=> {T with how:=2}) (fun w hw=>?_);have e1:=(hw.hw t ht).trans h2;have e2:=hw.co t ht;have hb:gw (bU w t) 2 (decide (1≤n)&&decide (n≤16))=true:=by unfold gw;rw [decide_eq_true e1,decide_eq_true hn.1,decide_eq_true hn.2];rfl
  refine ⟨hb,?_,rfl,e2,fun q=>by cases q⟩
  show w.put t (kl _ _ _ _)=_
  unfold kl;rw [if_pos hb]
theorem AV.ach {n:Int} (h1:v.hw t=1) (eb:n≠v.co t) (hn:0≤n∧n<v.cr):AV w0 (ev++ [⟨now,13,t,-1,n⟩]) now (v.put t 1 (v.lo t) n):=by
  refine h.xf ht (by decide) (fun w hw _=>Ci hw rfl rfl (.inr rfl)) (T:=fun T=> {T with core:=n}) (fun w hw=>?_);have e1:=(hw.hw t ht).trans h1;have e2:=hw.co t ht;have e3:=hw.cr
  have hb:gw (bU w t) 1 (decide (n≠(bU w t).core)&&(decide (0≤n)&&decide (n<w.cores)))=true:=by
    unfold gw;rw [decide_eq_true e1,decide_eq_true (show n≠(bU w t).core by rw [e2];exact eb),decide_eq_true hn.1,decide_eq_true (show n<w.cores by omega)];rfl
  have tn:q8 w t ⟨now,13,t,-1,n⟩=true:=hb;refine ⟨tn,?_,e1,rfl,fun q=>by cases q⟩
  show (if q8 w t ⟨now,13,t,-1,n⟩=true then w.put t {bU w t with core:=n} else w)=_
  rw [if_pos tn]
theorem AV.err {l n:Int} (h2:v.hw t=2) (hl:(0≤l∧l<(v.nl:Int))∨(l= -1∧n=3)) (hn:n=3∨n=7∨n=8∨n=9):AV w0 (ev++ [⟨now,8,t,l,n⟩]) now v:=by
  have q:AV w0 (ev++ [⟨now,8,t,l,n⟩]) now (v.put t (v.hw t) (v.lo t) (v.co t)):=by
    refine h.xf ht (by decide) (fun w hw hm=>?_) (T:=fun T=>T) (fun w hw=>?_)
    · rcases hl with q|q
      · exact HH hw rfl q.1 (by rw [hm.sl];exact q.2) (.inr rfl)
      · unfold oZ;rw [decide_eq_true hw]
        show (true&&(decide (0≤l)&&decide (l<(w.sh.length:Int))||decide (l= -1)&&(true&&decide (n=3)))&&(decide (n=0)||true))=true
        rw [decide_eq_true q.1,decide_eq_true q.2];simp
    have e1:=hw.hw t ht
    have hb:(decide ((bU w t).how=2)&&zf n)=true:=by
      rw [decide_eq_true (e1.trans h2)];unfold zf;rcases hn with r|r|r|r<;>rw [r] <;>rfl
    refine ⟨?_,?_,e1,hw.co t ht,fun r=>by rw [h2] at r;cases r⟩
    · show Gf (bU w t) ⟨now,8,t,l,n⟩=true
      unfold Gf;show (_&&zf n||_)=true;rw [hb];rfl
    · show w.put t (Bp (bU w t) ⟨now,8,t,l,n⟩)=_
      unfold Bp;show w.put t (if (_&&zf n)=true then _ else _)=_;rw [if_pos hb]
  refine q.eqv ⟨rfl,rfl,rfl,fun _ _=>rfl,fun j hj=>?_,fun j hj _=>?_,fun j hj=>?_,fun _ _ _=>Iff.rfl⟩
  · show aP v.hw t (v.hw t) j=v.hw j;exact aR _ _ _
  · show aP v.lo t (v.lo t) j=v.lo j;exact aR _ _ _
  · show aP v.co t (v.co t) j=v.co j;exact aR _ _ _
theorem AV.late {l:Nat} (h4:v.hw t=4) (tB:v.lo t=(l:Int)) (hl:l<v.nl):AV w0 (ev++ [⟨now,8,t,l,10⟩]) now (v.put t 7 (v.lo t) (v.co t)):=by
  refine h.xf ht (by decide) (fun w hw hm=>HH hw rfl (Int.natCast_nonneg l) (by rw [hm.sl];exact Int.ofNat_lt.2 hl) (.inr rfl)) (T:=fun T=> {T with how:=7}) (fun w hw=>?_);have e1:=(hw.hw t ht).trans h4;have e2:=(hw.lo t ht h4).trans tB;have h2:(decide ((bU w t).how=2)&&zf 10)=false:=by rw [decide_eq_false om];rfl
  have hb:gw (bU w t) 4 (decide ((bU w t).lock=(l:Int))&&decide ((10:Int)=10))=true:=by unfold gw;rw [decide_eq_true e1,decide_eq_true e2];rfl
  refine ⟨?_,?_,rfl,hw.co t ht,fun q=>by cases q⟩
  · show Gf (bU w t) ⟨now,8,t,l,10⟩=true
    unfold Gf;show (_||gw _ _ _)=true;rw [hb];exact Bool.or_true _
  · show w.put t (Bp (bU w t) ⟨now,8,t,l,10⟩)=_
    unfold Bp;show w.put t (if (_&&zf 10)=true then _ else kl _ _ _ _)=_
    rw [if_neg (by rw [h2];decide)];unfold kl;rw [if_pos hb]
theorem AV.block {l:Nat} (h2:v.hw t=2) (hl:l<v.nl) (eb:v.hs l≠ []) (fM:∀h∈v.hs l,h.t≠(t:Int)):AV w0 (ev++ [⟨now,6,t,l,0⟩]) now (v.put t 4 l (v.co t)):=by
  refine h.xf ht (by decide) (fun w hw hm=>HH hw rfl (Int.natCast_nonneg l) (by rw [hm.sl];exact Int.ofNat_lt.2 hl) (.inl rfl)) (T:=fun T=> {T with how:=4,lock:=l}) (fun w hw=>?_);have e1:=(hw.hw t ht).trans h2
  have hor:∀q:Int,aN (lz w l|||lj w l) q=true↔∃h∈v.hs l,h.t=q:=fun q=>by
    rw [eS,Bool.or_eq_true,hw.rd l hl q,hw.wr l hl q]
    constructor
    · rintro (⟨g,a,b,c⟩|⟨g,a,b,c⟩)<;>exact⟨g,a,c⟩
    · rintro ⟨g,a,c⟩
      cases b:u3 (v.sh l) g
      · exact .inr ⟨g,a,b,c⟩
      · exact .inl ⟨g,a,b,c⟩
  have hz:lz w l|||lj w l≠0#64:=fun q=>by
    cases e:v.hs l with
    |nil=>exact eb e
    |cons g r=>
      have:=(hor g.t).2 ⟨g,by rw [e];exact List.mem_cons_self ..,rfl⟩;rw [q,cF] at this;cases this
  have hb:Jp w (bU w t) ⟨now,6,t,l,0⟩=true:=by
    unfold Jp gw XH
    show (_&&(decide (lz w (l:Int).toNat|||lj w (l:Int).toNat≠0#64)&& !aN (lz w (l:Int).toNat|||lj w (l:Int).toNat) t))=true
    rw [Int.toNat_natCast,decide_eq_true e1,decide_eq_true hz]
    have:aN (lz w l|||lj w l) t=false:=by
      cases q:aN (lz w l|||lj w l) t with
      |false=>rfl
      |true=>obtain ⟨g,a,b⟩:=(hor t).1 q;exact absurd b (fM g a)
    rw [this];rfl
  refine ⟨hb,?_,rfl,hw.co t ht,fun _=>rfl⟩
  show vx w t _=_
  unfold vx;rw [if_pos hb]
theorem AV.exit (h5:v.hw t≠5) (fM:∀l,l<v.nl→∀h∈v.hs l,h.t≠(t:Int)):AV w0 (ev++ [⟨now,11,t,-1,0⟩]) now (v.put t 5 (v.lo t) (v.co t)):=by
  refine h.xf ht (by decide) (fun w hw hm=>Ci hw rfl rfl (.inl rfl)) (T:=fun T=> {T with how:=5}) (fun w hw=>?_);have e1:=hw.hw t ht
  have hf:N4 w t=true:=by
    unfold N4;rw [List.all_eq_true]
    intro l hl;have nL:l<v.nl:=by rw [←hw.sl];exact List.mem_range.1 hl
    unfold lJ;rw [eS]
    have a1:aN (lz w l) t=false:=by
      cases q:aN (lz w l) t with
      |false=>rfl
      |true=>obtain ⟨g,a,b,c⟩:=(hw.rd l nL t).1 q;exact absurd c (fM l nL g a)
    have a2:aN (lj w l) t=false:=by
      cases q:aN (lj w l) t with
      |false=>rfl
      |true=>obtain ⟨g,a,b,c⟩:=(hw.wr l nL t).1 q;exact absurd c (fM l nL g a)
    rw [a1,a2];rfl
  have hb:q8 w t ⟨now,11,t,-1,0⟩=true:=by
    show (decide ((bU w t).how≠5)&&N4 w t)=true
    rw [hf,decide_eq_true (by rw [e1];exact h5)];rfl
  refine ⟨hb,?_,rfl,hw.co t ht,fun q=>by cases q⟩
  show (if q8 w t ⟨now,11,t,-1,0⟩=true then w.put t {bU w t with how:=5} else w)=_
  rw [if_pos hb]
end
end
def nO (sh:Bool) (g:Hd):Int:=(if g.d=true then 1 else 0)+(if sh=true∧g.p=0 then 2 else 0)
theorem K1 (sh:Bool) (g:Hd):(2≤nO sh g↔u3 sh g=true)∧0≤nO sh g∧nO sh g≤3:=by
  unfold nO u3
  rw [Bool.and_eq_true,decide_eq_true_eq]
  by_cases e:sh=true∧g.p=0
  · rw [if_pos e];refine ⟨⟨fun _=>e,fun _=>?_⟩,?_,?_⟩<;>split<;>omega
  · rw [if_neg e];refine ⟨⟨fun q=>?_,fun q=>absurd q e⟩,?_,?_⟩
    · split at q<;>omega
    · split<;>omega
    · split<;>omega
theorem tI {w:ck} {l:Nat} (hl:l<w.rd.length) (s:BitVec 64) (j:Nat):(w.rd.set l s).getD j 0#64=if l=j then s else lz w j:=by
  rw [List.getD_eq_getElem?_getD,List.getElem?_set]
  by_cases e:l=j
  · rw [if_pos e,if_pos e,if_pos hl];rfl
  · rw [if_neg e,if_neg e];unfold lz;rw [List.getD_eq_getElem?_getD]
theorem tG {w:ck} {l:Nat} (hl:l<w.wr.length) (s:BitVec 64) (j:Nat):(w.wr.set l s).getD j 0#64=if l=j then s else lj w j:=by
  rw [List.getD_eq_getElem?_getD,List.getElem?_set]
  by_cases e:l=j
  · rw [if_pos e,if_pos e,if_pos hl];rfl
  · rw [if_neg e,if_neg e];unfold lj;rw [List.getD_eq_getElem?_getD]
theorem pC.drop {v:Vw} {w:ck} (h:pC v w) {t l:Nat} (hl:l<v.nl):pC (v.hd l ((v.hs l).filter (fun g=>decide (g.t≠(t:Int))))) (D0 w t l):=by
  have e1:=h.rl;have e2:=h.wl;refine ⟨h.n,h.Hr,h.hw,h.co,h.lo,h.sl,by show (w.rd.set l _).length=_;rw [List.length_set];exact e1,by show (w.wr.set l _).length=_;rw [List.length_set];exact e2,h.sh,h.cr,fun j hj g hg=>?_,fun j hj q=>?_,fun j hj q=>?_⟩
  · have hg:g∈aP v.hs l ((v.hs l).filter _) j:=hg
    unfold aP at hg;split at hg
    · exact h.hr l hl g (List.mem_filter.1 hg).1
    · exact h.hr j hj g hg
  · show aN ((w.rd.set l _).getD j 0#64) q=true↔∃g∈aP v.hs l _ j,_
    rw [tI om];unfold aP
    by_cases e:l=j
    · subst e
      rw [if_pos rfl,if_pos rfl,gM,Bool.and_eq_true,h.rd l hl q,Bool.not_eq_true',decide_eq_false_iff_not]
      constructor
      · rintro ⟨⟨g,a,b,c⟩,d⟩;exact⟨g,List.mem_filter.2 ⟨a,decide_eq_true (by rw [c];exact d)⟩,b,c⟩
      · rintro ⟨g,a,b,c⟩;have a:=List.mem_filter.1 a;exact⟨⟨g,a.1,b,c⟩,by rw [←c];exact of_decide_eq_true a.2⟩
    · rw [if_neg e,if_neg e];exact h.rd j hj q
  · show aN ((w.wr.set l _).getD j 0#64) q=true↔∃g∈aP v.hs l _ j,_
    rw [tG om];unfold aP
    by_cases e:l=j
    · subst e
      rw [if_pos rfl,if_pos rfl,gM,Bool.and_eq_true,h.wr l hl q,Bool.not_eq_true',decide_eq_false_iff_not]
      constructor
      · rintro ⟨⟨g,a,b,c⟩,d⟩;exact⟨g,List.mem_filter.2 ⟨a,decide_eq_true (by rw [c];exact d)⟩,b,c⟩
      · rintro ⟨g,a,b,c⟩;have a:=List.mem_filter.1 a;exact⟨⟨g,a.1,b,c⟩,by rw [←c];exact of_decide_eq_true a.2⟩
    · rw [if_neg e,if_neg e];exact h.wr j hj q
theorem pC.Z9 {v:Vw} {w:ck} (h:pC v w) {l:Nat} (hl:l<v.nl) (q:Int):lJ w q l=true↔∃g∈v.hs l,g.t=q:=by
  unfold lJ
  rw [eS,Bool.or_eq_true,h.rd l hl q,h.wr l hl q]
  constructor
  · rintro (⟨g,a,b,c⟩|⟨g,a,b,c⟩)<;>exact⟨g,a,c⟩
  · rintro ⟨g,a,c⟩
    cases b:u3 (v.sh l) g
    · exact .inr ⟨g,a,b,c⟩
    · exact .inl ⟨g,a,b,c⟩
theorem pC.take {v:Vw} {w:ck} (h:pC v w) {t l:Nat} (ht:t<v.n) (hl:l<v.nl) (g:Hd) (hg:g.t=(t:Int)) (e:fu) (e1:e.t=(t:Int)) (e2:e.l=(l:Int)) (e3:e.n=nO (v.sh l) g):pC (v.hd l (v.hs l++ [g])) (jC w e):=by
  have r1:=h.rl;have r2:=h.wl;have Hr:=h.Hr
  have hr:∀j,j<v.nl→∀k∈aP v.hs l (v.hs l++ [g]) j,0≤k.t∧k.t<(v.n:Int):=fun j hj k hk=>by
    unfold aP at hk;split at hk
    · rcases List.mem_append.1 hk with q|q
      · exact h.hr l hl k q
      · rw [List.mem_singleton.1 q,hg];omega
    · exact h.hr j hj k hk
  have el:e.l.toNat=l:=by omega
  have hn:=K1 (v.sh l) g;have hq:∀q:Int,(q=(t:Int)∧0≤q∧q<64)↔q=(t:Int):=fun q=>⟨fun a=>a.1,fun a=>⟨a,by omega⟩⟩
  have nS:∀(b:Bool) (q:Int),u3 (v.sh l) g= !b→((∃k∈v.hs l++ [g],u3 (v.sh l) k=b∧k.t=q)↔∃k∈v.hs l,u3 (v.sh l) k=b∧k.t=q):=fun b q hb=>by
    constructor
    · rintro ⟨k,a,c,d⟩
      rcases List.mem_append.1 a with a|a
      · exact⟨k,a,c,d⟩
      · rw [List.mem_singleton.1 a,hb] at c;cases b<;>cases c
    · rintro ⟨k,a,c⟩;exact⟨k,List.mem_append_left _ a,c⟩
  have new:∀(b:Bool) (q:Int),u3 (v.sh l) g=b→((∃k∈v.hs l++ [g],u3 (v.sh l) k=b∧k.t=q)↔((∃k∈v.hs l,u3 (v.sh l) k=b∧k.t=q)∨q=(t:Int))):=fun b q hb=>by
    constructor
    · rintro ⟨k,a,c,d⟩
      rcases List.mem_append.1 a with a|a
      · exact .inl ⟨k,a,c,d⟩
      · rw [List.mem_singleton.1 a,hg] at d;exact .inr d.symm
    · rintro (⟨k,a,c⟩|rfl)
      · exact⟨k,List.mem_append_left _ a,c⟩
      · exact⟨g,List.mem_append_right _ (List.mem_singleton.2 rfl),hb,hg⟩
  unfold jC
  rw [e3,el,e1]
  by_cases c:u3 (v.sh l) g=true
  · rw [if_pos (hn.1.2 c)]
    refine ⟨h.n,h.Hr,h.hw,h.co,h.lo,h.sl,by show (w.rd.set l _).length=_;rw [List.length_set];exact r1,r2,h.sh,h.cr,hr,fun j hj q=>?_,fun j hj q=>?_⟩
    · show aN ((w.rd.set l _).getD j 0#64) q=true↔∃k∈aP v.hs l _ j,_
      rw [tI om];unfold aP
      by_cases e:l=j
      · subst e
        rw [if_pos rfl,if_pos rfl,dX,Bool.or_eq_true,h.rd l hl q,Bool.and_eq_true,Bool.and_eq_true,decide_eq_true_eq,decide_eq_true_eq,decide_eq_true_eq,hq];exact(new true q c).symm
      · rw [if_neg e,if_neg e];exact h.rd j hj q
    · show aN (lj w j) q=true↔∃k∈aP v.hs l _ j,_
      unfold aP
      by_cases e:l=j
      · subst e;rw [if_pos rfl,h.wr l hl q];exact(nS false q c).symm
      · rw [if_neg e];exact h.wr j hj q
  · have c:u3 (v.sh l) g=false:=by simpa using c
    rw [if_neg (fun q=>by have:=hn.1.1 q;rw [c] at this;cases this)];refine ⟨h.n,h.Hr,h.hw,h.co,h.lo,h.sl,r1,by show (w.wr.set l _).length=_;rw [List.length_set];exact r2,h.sh,h.cr,hr,fun j hj q=>?_,fun j hj q=>?_⟩
    · show aN (lz w j) q=true↔∃k∈aP v.hs l _ j,_
      unfold aP
      by_cases e:l=j
      · subst e;rw [if_pos rfl,h.rd l hl q];exact(nS true q c).symm
      · rw [if_neg e];exact h.rd j hj q
    · show aN ((w.wr.set l _).getD j 0#64) q=true↔∃k∈aP v.hs l _ j,_
      rw [tG om];unfold aP
      by_cases e:l=j
      · subst e
        rw [if_pos rfl,if_pos rfl,dX,Bool.or_eq_true,h.wr l hl q,Bool.and_eq_true,Bool.and_eq_true,decide_eq_true_eq,decide_eq_true_eq,decide_eq_true_eq,hq];exact(new false q c).symm
      · rw [if_neg e,if_neg e];exact h.wr j hj q
theorem Bf {s:BitVec 64} (h:∀q:Int,aN s q=false):s=0#64:=qk (fun i _=>by rw [h,cF])
theorem Jh {v:Vw} {w:ck} (h:pC v w) {t l:Nat} (ht:t<v.n) (hl:l<v.nl) (g:Hd) (hg:g.t=(t:Int)) (now:BitVec 64) (hh:v.hw t=2∨(v.hw t=4∧v.lo t=(l:Int))) (fM:∀k∈v.hs l,k.t≠(t:Int)) (hc:(u3 (v.sh l) g=true∧∀k∈v.hs l,u3 (v.sh l) k=true)∨v.hs l=[]):
    A2 w (bU w t) ⟨now,4,t,l,nO (v.sh l) g⟩=true∧Ek (bU w t) ⟨now,4,t,l,nO (v.sh l) g⟩=decide (v.hw t=4):=by
  have e1:=h.hw t ht;have hn:=K1 (v.sh l) g
  have hw:Ek (bU w t) ⟨now,4,t,l,nO (v.sh l) g⟩=decide (v.hw t=4):=by
    unfold Ek;rw [e1]
    rcases hh with q|⟨q1,q2⟩
    · rw [q];rfl
    · rw [h.lo t ht q1,q1,q2];simp
  refine ⟨?_,hw⟩
  have hf:lJ w t l=false:=by
    cases q:lJ w t l with
    |false=>rfl
    |true=>obtain ⟨k,a,b⟩:=(h.Z9 hl t).1 q;exact absurd b (fM k a)
  have hW:lj w l=0#64:=Bf (fun q=>by
    cases e:aN (lj w l) q with
    |false=>rfl
    |true=>
      obtain ⟨k,a,b,c⟩:=(h.wr l hl q).1 e;rcases hc with ⟨_,r⟩|r
      · rw [r k a] at b;cases b
      · rw [r] at a;cases a)
  have hR:¬2≤nO (v.sh l) g→lz w l=0#64:=fun z=>Bf (fun q=>by
    cases e:aN (lz w l) q with
    |false=>rfl
    |true=>
      obtain ⟨k,a,b,c⟩:=(h.rd l hl q).1 e;rcases hc with ⟨r,_⟩|r
      · exact absurd (hn.1.2 r) z
      · rw [r] at a;cases a)
  unfold A2
  rw [hw]
  show ((decide ((bU w t).how=2)||_)&&(!lJ w t (l:Int).toNat&&(decide (0≤nO _ g)&&(decide (nO _ g≤3)&&(decide (lj w (l:Int).toNat=0#64)&&(if 2≤nO (v.sh l) g then w.sh.getD (l:Int).toNat false else decide (lz w (l:Int).toNat=0#64)))))))=true
  rw [Int.toNat_natCast,hf,hW,decide_eq_true hn.2.1,decide_eq_true hn.2.2,e1];have a1:(decide (v.hw t=2)||decide (v.hw t=4))=true:=by rcases hh with q|⟨q,_⟩<;>rw [q] <;>rfl
  rw [a1]
  by_cases z:2≤nO (v.sh l) g
  · rw [if_pos z,h.sh l hl]
    have:=hn.1.1 z
    unfold u3 at this;rw [Bool.and_eq_true] at this
    rw [this.1];rfl
  · rw [if_neg z,hR z];rfl
section
variable {w0:ck} {ev:List fu} {now:BitVec 64} {v:Vw} (h:AV w0 ev now v) {t l:Nat} (ht:t<v.n) (hl:l<v.nl)
include h ht hl
theorem AV.lets {k:Int} (hk:(k=5∧v.hw t=2)∨(k=12∧v.hw t≠5)) (hh:∃g∈v.hs l,g.t=(t:Int)):AV w0 (ev++ [⟨now,k,t,l,0⟩]) now (v.hd l ((v.hs l).filter (fun g=>decide (g.t≠(t:Int))))):=by
  have hf:∀w,w.now.toNat≤now.toNat→pC v w→oZ w ⟨now,k,t,l,0⟩=true:=fun w hw hm=>by
    refine HH hw ?_ (Int.natCast_nonneg l) (by rw [hm.sl];exact Int.ofNat_lt.2 hl) (.inl rfl);rcases hk with ⟨rfl,_⟩|⟨rfl,_⟩<;>rfl
  refine h.of rfl (by show¬k=1;omega) rfl ht hf (fun w hw=>?_);have e1:=hw.hw t ht;have ZR:=(hw.Z9 hl t).2 hh;rcases hk with ⟨rfl,q⟩|⟨rfl,q⟩
  · have hb:B5 w ⟨now,5,t,l,0⟩ (decide ((bU w t).how=2))=true:=by
      unfold B5;rw [decide_eq_true (e1.trans q)];show lJ w t (l:Int).toNat=true;rw [Int.toNat_natCast];exact ZR
    refine ⟨hb,?_⟩
    show pC _ (mP w ⟨now,5,t,l,0⟩ _)
    unfold mP;rw [if_pos hb];show pC _ (D0 w t (l:Int).toNat);rw [Int.toNat_natCast];exact hw.drop hl
  · have hb:B5 w ⟨now,12,t,l,0⟩ (decide ((bU w t).how≠5))=true:=by
      unfold B5;rw [decide_eq_true (by rw [e1];exact q)];show lJ w t (l:Int).toNat=true;rw [Int.toNat_natCast];exact ZR
    refine ⟨hb,?_⟩
    show pC _ (mP w ⟨now,12,t,l,0⟩ _)
    unfold mP;rw [if_pos hb];show pC _ (D0 w t (l:Int).toNat);rw [Int.toNat_natCast];exact hw.drop hl
section
variable {g:Hd} (hg:g.t=(t:Int)) (fM:∀k∈v.hs l,k.t≠(t:Int)) (hc:(u3 (v.sh l) g=true∧∀k∈v.hs l,u3 (v.sh l) k=true)∨v.hs l=[])
include hg fM hc
theorem AV.acK (h2:v.hw t=2):AV w0 (ev++ [⟨now,4,t,l,nO (v.sh l) g⟩]) now (v.hd l (v.hs l++ [g])):=by
  refine h.of rfl (by show¬(4:Int)=1;decide) rfl ht (fun w hw hm=>HH hw rfl (Int.natCast_nonneg l) (by rw [hm.sl];exact Int.ofNat_lt.2 hl) (.inr rfl)) (fun w hw=>?_);obtain ⟨a,b⟩:=Jh hw ht hl g hg now (.inl h2) fM hc;refine ⟨a,?_⟩
  show pC _ (tE w t _)
  unfold tE;rw [if_pos a,b,h2,if_neg (by decide)]
  exact hw.take ht hl g hg _ rfl rfl rfl
theorem AV.jC (h4:v.hw t=4) (tB:v.lo t=(l:Int)):AV w0 (ev++ [⟨now,4,t,l,nO (v.sh l) g⟩]) now ((v.hd l (v.hs l++ [g])).put t 6 (v.lo t) (v.co t)):=by
  refine h.of rfl (by show¬(4:Int)=1;decide) rfl ht (fun w hw hm=>HH hw rfl (Int.natCast_nonneg l) (by rw [hm.sl];exact Int.ofNat_lt.2 hl) (.inr rfl)) (fun w hw=>?_);obtain ⟨a,b⟩:=Jh hw ht hl g hg now (.inr ⟨h4,tB⟩) fM hc;refine ⟨a,?_⟩
  show pC _ (tE w t _)
  unfold tE;rw [if_pos a,b,h4,if_pos (by decide)]
  have q:=(hw.take ht hl g hg ⟨now,4,t,l,nO (v.sh l) g⟩ rfl rfl rfl).put (t:=t) ht {bU w t with how:=6};rw [show (bU w t).lock=v.lo t from hw.lo t ht h4,show (bU w t).core=v.co t from hw.co t ht] at q;exact q
end
end
theorem AU {cs:List Qm} {co a:Int} {v:BitVec 64} {w:Int} {c:Nat} {b:Int} (h:cd (qg (dx cs co a v w) c) b):cd (qg cs c) b∨(b=a∧co=(c:Int)∧c<cs.length):=by
  unfold dx at h;split at h
  · next e=>
    have r4:co.toNat<cs.length∧0≤co:=by unfold ik at e;split at e;cases e;omega
    rw [bJ r4.1] at h
    by_cases q:co.toNat=c
    · rw [if_pos q,has_add] at h;rw [←q]
      rcases h with h|h
      · exact .inl h
      · exact .inr ⟨h,by omega,r4.1⟩
    · rw [if_neg q] at h;exact .inl h
  · exact .inl h
theorem qX (cs:List Qm) (co a:Int) (v:BitVec 64) (w:Int) (c:Nat):(qg (dx cs co a v w) c).cur=(qg cs c).cur:=by
  unfold dx;split
  · next e=>
    have r4:co.toNat<cs.length:=by unfold ik at e;split at e;cases e;omega
    rw [bJ r4];split
    · next q=>rw [←q];rfl
    · rfl
  · rfl
structure QC (n:Nat) (cs:List Qm) (st co:Nat→Int):Prop where
  has:∀c,c<cs.length→∀a,cd (qg cs c) a→co a.toNat=(c:Int)∧(st a.toNat=1∨st a.toNat=2)
  cur:∀c,c<cs.length→0≤(qg cs c).cur→st (qg cs c).cur.toNat=2
  run:∀t,t<n→st t=2→∃c,c<cs.length∧(qg cs c).cur=(t:Int)
section
variable {n k:Nat} {cs:List Qm} {st co:Nat→Int} (h:QC n cs st co) (hc:CI n k cs)
include h
theorem QC.ext {Xy co':Nat→Int} (hc:CI n k cs) (h1:∀t,t<n→Xy t=st t) (h2:∀t,t<n→co' t=co t):QC n cs Xy co':=by
  have hid:∀c,c<cs.length→∀a,cd (qg cs c) a→a.toNat<n:=fun c ab a ha=>by
    have h1:=hc.id c ab a ha;have h0:=(hc.wf.wf c ab).pos _ (ea ha).1;rw [(ea ha).2] at h0;omega
  refine ⟨fun c ab a ha=>?_,fun c ab h0=>?_,fun t ht Mv=>?_⟩
  · rw [h1 _ (hid c ab a ha),h2 _ (hid c ab a ha)];exact h.has c ab a ha
  · rw [h1 _ (hid c ab _ ((hc.wf.wf c ab).ix h0))];exact h.cur c ab h0
  · exact h.run t ht (by rw [←h1 t ht];exact Mv)
theorem QC.same {F7:List Qm} (hl:F7.length=cs.length) (hk:∀c,c<cs.length→∀a,cd (qg F7 c) a→cd (qg cs c) a) (hq:∀c,c<cs.length→(qg F7 c).cur=(qg cs c).cur):QC n F7 st co:=
  ⟨fun c ab a ha=>h.has c (hl▸ab) a (hk c (hl▸ab) a ha),fun c ab h0=>by rw [hq c (hl▸ab)] at h0 ⊢;exact h.cur c (hl▸ab) h0,fun t ht h2=>by
    obtain ⟨c,h1,h2⟩:=h.run t ht h2;exact⟨c,hl▸h1,by rw [hq c h1];exact h2⟩⟩
theorem QC.add {t:Nat} (hc:CI n k cs) (ht:st t≠1∧st t≠2) (v:BitVec 64) (w:Int):QC n (dx cs (co t) t v w) (aP st t 1) co:=by
  have fM:∀c,c<cs.length→∀a,cd (qg cs c) a→a.toNat≠t:=fun c ab a ha e=>by
    have:=(h.has c ab a ha).2;rw [e] at this;omega
  refine ⟨fun c ab a ha=>?_,fun c ab h0=>?_,fun j hj h2=>?_⟩
  · rw [fZ] at ab
    rcases AU ha with q|⟨rfl,q,_⟩
    · rw [bf st 1 (Ne.symm (fM c ab a q))];exact h.has c ab a q
    · rw [Int.toNat_natCast,bG];exact⟨q,.inl rfl⟩
  · rw [fZ] at ab;rw [qX] at h0 ⊢
    have q:=h.cur c ab h0;rw [bf st 1 (fun e=>by rw [←e] at q;exact ht.2 q)];exact q
  · by_cases e:t=j
    · rw [←e,bG] at h2;cases h2
    · rw [bf st 1 e] at h2
      obtain ⟨c,h1,h2⟩:=h.run j hj h2;exact⟨c,by rw [fZ];exact h1,by rw [qX];exact h2⟩
theorem QC.rem {t:Nat} (hc:CI n k cs) {s:Int} (hs:s≠2):QC n (gI cs t) (aP st t s) co:=by
  have JE:∀c,c<cs.length→(qg cs c).cur≠(t:Int)→(qg (gI cs t) c).cur=(qg cs c).cur:=fun c ab e=>by
    unfold gI;split
    · next q=>
      rw [bJ q];split
      · next r=>rw [r];unfold iy;rw [if_neg e]
      · rfl
    · rfl
  have abS:∀c,c<cs.length→0≤(qg (gI cs t) c).cur→(qg cs c).cur≠(t:Int):=fun c ab h0 e=>by
    have hk:=(hc.wf.wf c ab).ix (show 0≤(qg cs c).cur by omega);rw [e] at hk;have lp:bO cs t=c:=hc.wf.at ab hk
    unfold gI at h0
    rw [if_pos (by rw [lp];exact ab),lp,bJ ab,if_pos rfl] at h0
    unfold iy at h0;rw [if_pos e] at h0;have h0:(0:Int)≤-1:=h0;omega
  refine ⟨fun c ab a ha=>?_,fun c ab h0=>?_,fun j hj h2=>?_⟩
  · rw [oQ] at ab
    obtain ⟨q1,q2⟩:=qH hc.wf ab ha;have h0:=(hc.wf.wf c ab).pos _ (ea q1).1;rw [(ea q1).2] at h0;rw [bf st s (show t≠a.toNat by omega)];exact h.has c ab a q1
  · rw [oQ] at ab
    have e:=abS c ab h0;rw [JE c ab e] at h0 ⊢;rw [bf st s (show t≠(qg cs c).cur.toNat by omega)];exact h.cur c ab h0
  · by_cases e:t=j
    · rw [←e,bG] at h2;exact absurd h2 hs
    · rw [bf st s e] at h2
      obtain ⟨c,h1,h2⟩:=h.run j hj h2;exact⟨c,by rw [oQ];exact h1,by rw [JE c h1 om];exact h2⟩
theorem QC.back {c:Nat} (ab:c<cs.length) (hc:CI n k cs) (h0:0≤(qg cs c).cur):QC n (cs.set c (fj (qg cs c))) (aP st (qg cs c).cur.toNat 1) co:=by
  have Gk:=(hc.wf.wf c ab).ix h0
  have eb:∀d,d<cs.length→c≠d→0≤(qg cs d).cur→(qg cs c).cur.toNat≠(qg cs d).cur.toNat:=fun d hd e q r=>by
    have h2:=(hc.wf.wf d hd).ix q;rw [show (qg cs d).cur=(qg cs c).cur by omega] at h2;exact e (hc.wf.one c d _ ab hd Gk h2)
  refine ⟨fun d hd a ha=>?_,fun d hd q=>?_,fun j hj h2=>?_⟩
  · rw [List.length_set] at hd
    have h1:=jE ab (q:=fj (qg cs c)) rfl ha;obtain ⟨e1,e2⟩:=h.has d hd a h1;refine ⟨e1,?_⟩
    unfold aP;split
    · exact .inl rfl
    · exact e2
  · rw [List.length_set] at hd
    rw [bJ ab] at q ⊢
    by_cases e:c=d
    · rw [if_pos e] at q;exact absurd q (by show¬(0:Int)≤-1;decide)
    · rw [if_neg e] at q ⊢;rw [bf st 1 (eb d hd e q)];exact h.cur d hd q
  · by_cases e:(qg cs c).cur.toNat=j
    · rw [←e,bG] at h2;cases h2
    · rw [bf st 1 e] at h2
      obtain ⟨d,h1,h2⟩:=h.run j hj h2;refine ⟨d,by rw [List.length_set];exact h1,?_⟩;rw [bJ ab,if_neg (fun r=>by rw [←r] at h2;omega)];exact h2
theorem QC.ZC {c:Nat} (ab:c<cs.length) (hc:CI n k cs) (h0:(qg cs c).cur<0) {a:Int} (ha:cd (qg cs c) a) (Yh:0≤a):QC n (cs.set c (mB (qg cs c) a)) (aP st a.toNat 2) co:=by
  refine ⟨fun d hd b hb=>?_,fun d hd q=>?_,fun j hj h2=>?_⟩
  · rw [List.length_set] at hd
    have h1:=jE ab (q:=mB (qg cs c) a) rfl hb;obtain ⟨e1,e2⟩:=h.has d hd b h1;refine ⟨e1,?_⟩
    unfold aP;split
    · exact .inr rfl
    · exact e2
  · rw [List.length_set] at hd
    rw [bJ ab] at q ⊢
    by_cases e:c=d
    · rw [if_pos e];exact bG ..
    · rw [if_neg e] at q ⊢
      unfold aP;split
      · rfl
      · exact h.cur d hd q
  · by_cases e:a.toNat=j
    · exact⟨c,by rw [List.length_set];exact ab,by rw [bJ ab,if_pos rfl];show a=_;omega⟩
    · rw [bf st 2 e] at h2
      obtain ⟨d,h1,h2⟩:=h.run j hj h2;refine ⟨d,by rw [List.length_set];exact h1,?_⟩;rw [bJ ab,if_neg (fun r=>by rw [←r] at h2;omega)];exact h2
theorem QC.Zl {a:Int} {to:Nat} (hc:CI n k cs) (ha:bO cs a<cs.length) (ht:to<cs.length) (eb:to≠bO cs a) (qx:(qg cs (bO cs a)).cur≠a):QC n (gb cs a to) st (aP co a.toNat to):=by
  have hh:=c8 ha;have Yh:0≤a:=hc.wf.pos ha
  have JE:∀d,(qg (gb cs a to) d).cur=(qg cs d).cur:=fun d=>by
    rw [ur hc.wf ha ht eb,bJ (by unfold eo;rw [List.length_set];exact ht)]
    have e1:∀e,(qg (eo cs a) e).cur=(qg cs e).cur:=fun e=>by
      unfold eo;rw [bJ ha];split
      · next r=>rw [←r];unfold iy;rw [if_neg qx]
      · rfl
    split
    · next r=>rw [←r];exact e1 to
    · exact e1 d
  have IF:∀d,d<cs.length→∀b,cd (qg (gb cs a to) d) b→(b≠a∧cd (qg cs d) b)∨(b=a∧d=to):=fun d hd b hb=>by
    rw [ur hc.wf ha ht eb,bJ (by unfold eo;rw [List.length_set];exact ht)] at hb
    have key:∀e,e<cs.length→cd (qg (eo cs a) e) b→b≠a∧cd (qg cs e) b:=fun e he q=>by
      unfold eo at q;rw [bJ ha] at q
      by_cases z:bO cs a=e
      · rw [if_pos z,oD (hc.wf.wf _ ha) hh,z] at q;exact⟨q.2,q.1⟩
      · rw [if_neg z] at q;exact⟨fun r=>z (hc.wf.at he (r▸q)),q⟩
    by_cases e:to=d
    · rw [if_pos e,has_add] at hb
      rcases hb with q|q
      · exact .inl (e▸key to ht q)
      · exact .inr ⟨q,e.symm⟩
    · rw [if_neg e] at hb;exact .inl (key d hd hb)
  refine ⟨fun d hd b hb=>?_,fun d hd q=>?_,fun j hj h2=>?_⟩
  · rw [qw] at hd
    rcases IF d hd b hb with ⟨q1,q2⟩|⟨rfl,rfl⟩
    · have h0:=(hc.wf.wf d hd).pos _ (ea q2).1
      rw [(ea q2).2] at h0;rw [bf co _ (show a.toNat≠b.toNat by omega)];exact h.has d hd b q2
    · rw [bG];exact⟨rfl,(h.has _ ha b hh).2⟩
  · rw [qw] at hd;rw [JE] at q ⊢;exact h.cur d hd q
  · obtain ⟨d,h1,h2⟩:=h.run j hj h2;exact⟨d,by rw [qw];exact h1,by rw [JE];exact h2⟩
theorem QC.new (hc:CI n k cs) {co0:Int} (v:BitVec 64) (w:Int):QC (n+1) (dx cs co0 n v w) (aP st n 1) (aP co n co0):=by
  have fM:∀c,c<cs.length→∀a,cd (qg cs c) a→n≠a.toNat:=fun c ab a ha=>by
    have h1:=hc.id c ab a ha;have h0:=(hc.wf.wf c ab).pos _ (ea ha).1;rw [(ea ha).2] at h0;omega
  refine ⟨fun c ab a ha=>?_,fun c ab h0=>?_,fun j hj h2=>?_⟩
  · rw [fZ] at ab
    rcases AU ha with q|⟨rfl,q,_⟩
    · rw [bf st 1 (fM c ab a q),bf co _ (fM c ab a q)];exact h.has c ab a q
    · rw [Int.toNat_natCast,bG,bG];exact⟨q,.inl rfl⟩
  · rw [fZ] at ab;rw [qX] at h0 ⊢
    rw [bf st 1 (fM c ab _ ((hc.wf.wf c ab).ix h0))];exact h.cur c ab h0
  · by_cases e:n=j
    · rw [←e,bG] at h2;cases h2
    · rw [bf st 1 e] at h2
      obtain ⟨c,h1,h2⟩:=h.run j om h2;exact⟨c,by rw [fZ];exact h1,by rw [qX];exact h2⟩
end
/-! ### locks -/
structure LC (n:Nat) (ls:List aY) (st lk:Nat→Int) (E:Nat→Prop):Prop where
  wt:∀l,l<ls.length→∀y∈(qg ls l).wt,st y.who.toNat=4∧lk y.who.toNat=(l:Int)
  s4:∀t,t<n→st t=4→¬E t→∃y∈(qg ls (lk t).toNat).wt,y.who=(t:Int)
  h5:∀l,l<ls.length→∀g∈(qg ls l).ho,st g.t.toNat≠5
section
variable {n:Nat} {ls:List aY} {st lk:Nat→Int} {E:Nat→Prop} (h:LC n ls st lk E)
include h
theorem LC.mono {E':Nat→Prop} (he:∀t,t<n→st t=4→E t→E' t):LC n ls st lk E':=⟨h.wt,fun t ht h4 hE=>h.s4 t ht h4 (fun e=>hE (he t ht h4 e)),h.h5⟩
theorem LC.ext {Xy lk':Nat→Int} (hi:∀l,l<ls.length→gO (lu n) (qg ls l)) (h1:∀t,t<n→Xy t=st t) (h2:∀t,t<n→lk' t=lk t):LC n ls Xy lk' E:=by
  refine ⟨fun l hl y hy=>?_,fun t ht h4 hE=>?_,fun l hl g hg=>?_⟩
  · have:=(hi l hl).wt y hy;unfold lu at this
    rw [h1 _ om,h2 _ om];exact h.wt l hl y hy
  · rw [h2 t ht];exact h.s4 t ht (by rw [←h1 t ht];exact h4) hE
  · have:=(hi l hl).ho g hg;unfold lu at this
    rw [h1 _ om];exact h.h5 l hl g hg
theorem LC.put {l:Nat} {L:aY} (hl:l<ls.length) {E':Nat→Prop} (hw:∀y∈L.wt,y∈(qg ls l).wt) (hE:∀t,E t→E' t) (hn:∀y∈(qg ls l).wt,(∃z∈L.wt,z.who=y.who)∨E' y.who.toNat) (hh:∀g∈L.ho,st g.t.toNat≠5):LC n (ls.set l L) st lk E':=by
  refine ⟨fun j hj y hy=>?_,fun t ht h4 eb=>?_,fun j hj g hg=>?_⟩
  · rw [List.length_set] at hj;rw [bJ hl] at hy
    by_cases e:l=j
    · rw [if_pos e] at hy;rw [←e];exact h.wt l hl y (hw y hy)
    · rw [if_neg e] at hy;exact h.wt j hj y hy
  · obtain ⟨y,hy,e⟩:=h.s4 t ht h4 (fun q=>eb (hE t q))
    rw [bJ hl]
    by_cases q:l=(lk t).toNat
    · rw [if_pos q];rw [←q] at hy
      rcases hn y hy with ⟨z,a,b⟩|b
      · exact⟨z,a,b.trans e⟩
      · rw [e,Int.toNat_natCast] at b;exact absurd b eb
    · rw [if_neg q];exact⟨y,hy,e⟩
  · rw [List.length_set] at hj;rw [bJ hl] at hg
    by_cases e:l=j
    · rw [if_pos e] at hg;exact hh g hg
    · rw [if_neg e] at hg;exact h.h5 j hj g hg
theorem LC.Qf {t:Nat} {s:Int} (hs:s≠4) (hw:∀l,l<ls.length→∀y∈(qg ls l).wt,y.who.toNat≠t) (h5:s=5→∀l,l<ls.length→∀g∈(qg ls l).ho,g.t.toNat≠t) (lk0:Int):LC n ls (aP st t s) (aP lk t lk0) (fun j=>E j∧j≠t):=by
  refine ⟨fun l hl y hy=>?_,fun j hj h4 hE=>?_,fun l hl g hg=>?_⟩
  · rw [bf st s (Ne.symm (hw l hl y hy)),bf lk lk0 (Ne.symm (hw l hl y hy))];exact h.wt l hl y hy
  · by_cases e:t=j
    · rw [←e,bG] at h4;exact absurd h4 hs
    · rw [bf st s e] at h4;rw [bf lk lk0 e];exact h.s4 j hj h4 (fun q=>hE ⟨q,Ne.symm e⟩)
  · unfold aP;split
    · next e=>exact fun q=>h5 q l hl g hg e.symm
    · exact h.h5 l hl g hg
end
abbrev cY (x:aC):Nat→Int:=fun t=>(gT x t).st
abbrev eu (x:aC):Nat→Int:=fun t=>(gT x t).co
abbrev eL (x:aC):Nat→Int:=fun t=>(gT x t).lk
def Ql (x:aC) (hs:Nat→List Hd):Vw:=⟨x.ts.length,x.lk.length,x.s.cr,fun l=>(gL x l).sh,cY x,eL x,eu x,hs⟩
abbrev jI (x:aC):Vw:=Ql x (fun l=>(gL x l).ho)
/-! a lock's holders -/
theorem SN {l:List Hd} (h:(l.map (·.t)).Nodup) {g k:Hd} (hg:g∈l) (hk:k∈l) (e:g.t=k.t):g=k:=by
  induction l with
  |nil=>cases hg
  |cons a r ih=>
    rw [List.map_cons,List.nodup_cons] at h;rcases List.mem_cons.1 hg with rfl|aI<;>rcases List.mem_cons.1 hk with rfl|U0
    · rfl
    · exact absurd (List.mem_map.2 ⟨k,U0,e.symm⟩) h.1
    · exact absurd (List.mem_map.2 ⟨g,aI,e⟩) h.1
    · exact ih h.2 aI U0
theorem xw {l:List Hd} (h:(l.map (·.t)).Nodup) {t:Int} (ht:l.any (fun g=>decide (g.t=t))=true) (g:Hd):g∈l.eraseIdx (ff l t)↔g∈l.filter (fun g=>decide (g.t≠t)):=by
  induction l with
  |nil=>simp at ht
  |cons a r ih=>
    rw [List.map_cons,List.nodup_cons] at h
    by_cases e:a.t=t
    · have:ff (a::r) t=0:=by unfold ff;rw [List.findIdx_cons,decide_eq_true e];rfl
      rw [this,List.eraseIdx_zero,List.filter_cons_of_neg (by simpa using e)]
      show g∈r↔_
      rw [List.mem_filter];exact⟨fun q=>⟨q,decide_eq_true (fun z=>h.1 (List.mem_map.2 ⟨g,q,z.trans e.symm⟩))⟩,fun q=>q.1⟩
    · have:ff (a::r) t=ff r t+1:=by unfold ff;rw [List.findIdx_cons,decide_eq_false e];rfl
      rw [List.any_cons,decide_eq_false e,Bool.false_or] at ht;rw [this,List.eraseIdx_cons_succ,List.filter_cons_of_pos (by simpa using e),List.mem_cons,List.mem_cons,ih h.2 ht]
theorem L6 {L:aY} (h:(L.ho.map (·.t)).Nodup) {g:Hd} (hg:g∈L.ho):dF L g.t=nO L.sh g:=by
  have hh:bd L g.t=true:=List.any_eq_true.2 ⟨g,hg,decide_eq_true rfl⟩;obtain ⟨_,h1,h2⟩:=pU hh;have h3:L.ho.getD (ff L.ho g.t) default=g:=SN h (by rw [List.getD_eq_getElem?_getD,List.getElem?_eq_getElem h1];exact List.getElem_mem h1) hg h2
  unfold dF nO;rw [if_pos hh,h3]
structure ph (L M:aY) (told:List Hd) (to:List Int) (cB:List Hd):Prop where
  ho:M.ho=told++cB
  tq:cB.map (·.t)=to
  w1:∀y∈M.wt,y∈L.wt
  w2:∀y∈L.wt,y∈M.wt∨y.who∈to
  ti:∀t∈to,∃y∈L.wt,y.who=t
  sh:M.sh=L.sh
  ln:M.ld.l.length=L.ld.l.length
theorem ph.none {L M:aY} (h1:M.wt=L.wt) (h2:M.sh=L.sh) (h3:M.ld.l.length=L.ld.l.length):ph L M M.ho [] [] :=⟨(List.append_nil _).symm,rfl,fun y hy=>h1▸hy,fun y hy=> .inl (h1▸hy),fun t ht=>(by cases ht),h2,h3⟩
theorem ph.Lk {L:aY} (p:Int) (n:Nat):ph L (lX L p n) L.ho (cQ L p n) (A4 p L.di (cQ L p n)):=by
  rw [eU];refine ⟨rfl,A3 ..,fun y hy=>(oS.1 hy).1,fun y hy=>?_,fun t ht=>?_,rfl,rfl⟩
  · by_cases c:y.who∈cQ L p n
    · exact .inr c
    · exact .inl (oS.2 ⟨hy,c⟩)
  · obtain ⟨w,hw,e,_⟩:=qi ht;exact⟨w,hw,e⟩
theorem ph.settle {L M:aY} {told cB:List Hd} {to:List Int} (h:ph L M told to cB):ph L (cu M) told to cB:=⟨h.ho,h.tq,h.w1,h.w2,h.ti,h.sh,(gS ..).trans h.ln⟩
theorem ph.pass (L:aY):∃cB,ph L (kb L) L.ho (iN L) cB:=by
  unfold kb iN
  by_cases c:L.wt.length=0
  · rw [if_pos c,if_pos c];exact⟨[],ph.none rfl rfl rfl⟩
  · rw [if_neg c,if_neg c]
    have h:=ph.Lk (L:=dp L) (dp L).tr.p (mC L);exact⟨_,h.ho,h.tq,h.w1,h.w2,h.ti,h.sh,h.ln⟩
theorem ph.At {L:aY} {t:Int} (ht:bd L t=true):∃cB,ph L (ej L t) (L.ho.eraseIdx (ff L.ho t)) (dY L t) cB:=by
  unfold ej dY
  rw [if_pos ht]
  by_cases c:(eY L t).ho.length=0
  · rw [if_pos c,if_pos ⟨ht,c⟩]
    obtain ⟨p,h⟩:=ph.pass (eY L t);have h2:=h.settle;exact⟨p,h2.ho,h2.tq,h2.w1,h2.w2,h2.ti,h2.sh,h2.ln⟩
  · rw [if_neg c,if_neg (fun q=>c q.2)]
    have h:ph L (eY L t) (eY L t).ho [] [] :=ph.none rfl rfl rfl;exact⟨[],h.settle⟩
theorem ph.die {L:aY} {t:Int} (hw:bY L t=false) (ht:bd L t=true):∃cB,ph L (rm L t) (L.ho.eraseIdx (ff L.ho t)) (ud L t) cB:=by
  obtain ⟨p,h⟩:=ph.At (L:= {L with di:=true}) (t:=t) ht;refine ⟨p,?_⟩;have e1:rm L t=ej {L with di:=true} t:=by unfold rm;rw [if_neg (by rw [hw];decide),if_pos ht]
  have e2:ud L t=dY {L with di:=true} t:=by unfold ud;rw [if_neg (by rw [hw];decide)]
  rw [e1,e2];exact⟨h.ho,h.tq,h.w1,h.w2,h.ti,h.sh,h.ln⟩
theorem ph.lv {L:aY} {t:Int} (ht:bY L t=true):∃cB,(fx L t).ho=L.ho++cB∧cB.map (·.t)=pd L t∧(∀y∈(fx L t).wt,y∈L.wt∧y.who≠t)∧(∀y∈L.wt,y∈(fx L t).wt∨y.who∈pd L t∨y.who=t)∧(∀u∈pd L t,u≠t∧∃y∈L.wt,y.who=u)∧(fx L t).sh=L.sh∧(fx L t).ld.l.length=L.ld.l.length:=by
  have hg:∀{M:aY} {cB:List Hd} {to:List Int},ph (cV L t) M L.ho to cB→M.ho=L.ho++cB∧cB.map (·.t)=to∧(∀y∈M.wt,y∈L.wt∧y.who≠t)∧(∀y∈L.wt,y∈M.wt∨y.who∈to∨y.who=t)∧(∀u∈to,u≠t∧∃y∈L.wt,y.who=u)∧M.sh=L.sh∧M.ld.l.length=L.ld.l.length:=fun {M cB to} h=>by
    refine ⟨h.ho,h.tq,fun y hy=>pQ.1 (h.w1 y hy),fun y hy=>?_,fun u hu=>?_,h.sh,h.ln⟩
    · by_cases c:y.who=t
      · exact .inr (.inr c)
      · rcases h.w2 y (pQ.2 ⟨hy,c⟩) with q|q
        · exact .inl q
        · exact .inr (.inl q)
    · obtain ⟨y,hy,rfl⟩:=h.ti u hu
      have:=pQ.1 hy;exact⟨this.2,y,this.1,rfl⟩
  unfold fx pd
  rw [if_pos ht]
  by_cases c:kT L=true∧uM (cV L t).wt 1=0
  · rw [if_pos c,if_pos ⟨ht,c⟩];exact⟨_,hg (ph.Lk (L:=cV L t) 0 8).settle⟩
  · rw [if_neg c,if_neg (fun q=>c q.2)];exact⟨_,hg (ph.none (L:=cV L t) (M:=cV L t) rfl rfl rfl).settle⟩
/-! tasks -/
theorem fG {x:aC} {t:Nat} (ht:t<x.ts.length) (y:iM) (j:Nat):cY (dh x t y) j=aP (cY x) t y.st j:=by
  show (gT (dh x t y) j).st=_;rw [fJ ht];unfold aP;split<;>rfl
theorem jh {x:aC} {t:Nat} (ht:t<x.ts.length) (y:iM) (j:Nat):eu (dh x t y) j=aP (eu x) t y.co j:=by
  show (gT (dh x t y) j).co=_;rw [fJ ht];unfold aP;split<;>rfl
theorem jk {x:aC} {t:Nat} (ht:t<x.ts.length) (y:iM) (j:Nat):eL (dh x t y) j=aP (eL x) t y.lk j:=by
  show (gT (dh x t y) j).lk=_;rw [fJ ht];unfold aP;split<;>rfl
structure MQ (E:Nat→Prop) (x:aC):Prop where
  q:QC x.ts.length x.cs (cY x) (eu x)
  l:LC x.ts.length x.lk (cY x) (eL x) E
theorem MI.NM {k:Nat} {x:aC} (h:MI k x):∀l,l<x.lk.length→gO (lu x.ts.length) (qg x.lk l):=fun l hl=>(h.li l hl).i
section
variable {k:Nat} {x:aC} {E:Nat→Prop} (hI:MI k x) (h:MQ E x)
include h
theorem MQ.mono {E':Nat→Prop} (he:∀t,t<x.ts.length→cY x t=4→E t→E' t):MQ E' x:=⟨h.q,h.l.mono he⟩
theorem MQ.j3 (a t l n:Int):MQ E (ba x a t l n):=⟨h.q,h.l⟩
theorem MQ.cut (t:Nat):MQ E (dt x t):=⟨h.q,h.l⟩
theorem MQ.gr (g:Gr):MQ E {x with g:=g} :=⟨h.q,h.l⟩
include hI
theorem MQ.up {t:Nat} (ht:t<x.ts.length) {y:iM} (h1:y.st=(gT x t).st) (h2:y.co=(gT x t).co) (h3:y.lk=(gT x t).lk):MQ E (dh x t y):=by
  have e1:∀j,cY (dh x t y) j=cY x j:=fun j=>by rw [fG ht,h1];exact aR _ _ _
  have e2:∀j,eu (dh x t y) j=eu x j:=fun j=>by rw [jh ht,h2];exact aR _ _ _
  have e3:∀j,eL (dh x t y) j=eL x j:=fun j=>by rw [jk ht,h3];exact aR _ _ _
  refine ⟨?_,?_⟩
  · rw [bt];exact h.q.ext hI.ci (fun j _=>e1 j) (fun j _=>e2 j)
  · rw [bt];exact h.l.ext hI.NM (fun j _=>e1 j) (fun j _=>e3 j)
theorem MQ.inc {t:Nat} (ht:t<x.ts.length):MQ E (bK x t):=h.up hI ht rfl rfl rfl
theorem MQ.D6 {t:Nat} (ht:t<x.ts.length) (hs:cY x t≠1∧cY x t≠2) (hw:∀l,l<x.lk.length→∀y∈(gL x l).wt,y.who.toNat≠t):MQ (fun j=>E j∧j≠t) (fe x t):=by
  have p8:=(hI.D6 ht).ci;have hl:(fe x t).ts.length=x.ts.length:=bt ..;rw [hl] at p8;refine ⟨?_,?_⟩
  · rw [hl]
    exact(h.q.add hI.ci hs _ _).ext p8 (fun j _=>fG ht _ j) (fun j _=>(jh ht (Jf (gT x t)) j).trans (aR _ _ _))
  · rw [hl]
    have hi:=(hI.D6 ht).NM;rw [hl] at hi;exact(h.l.Qf (s:=1) (by decide) hw (fun q=>by cases q) (-1)).ext hi (fun j _=>fG ht _ j) (fun j _=>jk ht _ j)
end
theorem Pf {x:aC} {t:Nat} (ht:t<x.ts.length) {v:Vw} {hs:Nat→List Hd} (hv:QJ v ((Ql x hs).put t (v.hw t) (v.lo t) (eu x t))) (lo:Int):QJ (v.put t 1 lo (v.co t)) (Ql (fe x t) hs):=by
  have hn:v.n=x.ts.length:=hv.n;refine ⟨hv.n.trans (bt ..).symm,hv.nl,hv.cr,hv.sh,fun j hj=>?_,fun j hj h4=>?_,fun j hj=>?_,hv.hs⟩
  · show aP v.hw t 1 j=cY (fe x t) j
    rw [show cY (fe x t) j=aP (cY x) t 1 j from fG ht _ j]
    by_cases e:t=j
    · rw [←e,bG,bG]
    · rw [bf v.hw _ e,bf (cY x) _ e,hv.hw j hj];exact bf _ _ e
  · have h4:aP v.hw t 1 j=4:=h4
    show aP v.lo t lo j=eL (fe x t) j
    rw [show eL (fe x t) j=aP (eL x) t (-1) j from jk ht _ j]
    by_cases e:t=j
    · rw [←e,bG] at h4;cases h4
    · rw [bf v.hw _ e] at h4
      rw [bf v.lo _ e,bf (eL x) _ e,hv.lo j hj h4];exact bf _ _ e
  · show aP v.co t (v.co t) j=eu (fe x t) j
    rw [show eu (fe x t) j=aP (eu x) t (eu x t) j from jh ht _ j,aR,aR,hv.co j hj]
    show aP (eu x) t (eu x t) j=_;exact aR _ _ _
theorem LZ {w0:ck} {x:aC} {t:Nat} (ht:t<x.ts.length) {v:Vw} {hs:Nat→List Hd} (h:AV w0 x.ev x.now v) (hv:QJ v ((Ql x hs).put t (v.hw t) (v.lo t) (eu x t))) (hh:v.hw t=3∨v.hw t=6∨v.hw t=7):AV w0 (fe x t).ev (fe x t).now (Ql (fe x t) hs):=by
  have hn:v.n=x.ts.length:=hv.n;have hc:v.co t=eu x t:=(hv.co t om).trans (bG ..);have q:=(h.Wq (t:=t) om hh).eqv (Pf (hs:=hs) ht hv _);rw [hc] at q;exact q
/-! a lock is given -/
theorem EV {x:aC} {t:Nat} (ht:t<x.ts.length) (j:Nat):cY (bK x t) j=cY x j∧eu (bK x t) j=eu x j∧eL (bK x t) j=eL x j:=
  ⟨(fG ht _ j).trans (aR _ _ _),(jh ht _ j).trans (aR _ _ _),(jk ht _ j).trans (aR _ _ _)⟩
theorem PU {L:aY} (h:pg L) {told cB:List Hd} {g:Hd} (e:L.ho=told++g::cB):(∀k∈told,k.t≠g.t)∧((u3 L.sh g=true∧∀k∈told,u3 L.sh k=true)∨told=[]):=by
  have hd:=h.hd;rw [e,List.map_append,List.nodup_append] at hd;refine ⟨fun k hk q=>hd.2.2 k.t (List.mem_map_of_mem hk) g.t (List.mem_map.2 ⟨g,List.mem_cons_self ..,rfl⟩) q,?_⟩;cases hs:L.sh with
  |false=>
    have:=h.ex hs;rw [e,List.length_append,List.length_cons] at this;exact .inr (List.eq_nil_of_length_eq_zero om)
  |true=>
    rcases h.rd hs with q|q
    · rw [e] at q
      exact .inl ⟨by unfold u3;rw [decide_eq_true (q g (by simp))];rfl,fun k hk=>by unfold u3;rw [decide_eq_true (q k (by simp [hk]))];rfl⟩
    · rw [e,List.length_append,List.length_cons] at q
      exact .inr (List.eq_nil_of_length_eq_zero om)
theorem qA (l:Nat) (x:aC) (t:Nat):p7 l x (t:Int)=fe (dt (bK (ba x 4 t l (dF (gL x l) t)) t) t) t:=by unfold p7;rw [Int.toNat_natCast]
theorem Tw {w0:ck} {E:Nat→Prop} {k l:Nat} {x:aC} (hI:MI k x) (h:MQ E x) (hl:l<x.lk.length) {told cB:List Hd} {g:Hd} (e:(gL x l).ho=told++g::cB) (h4:cY x g.t.toNat=4∧eL x g.t.toNat=(l:Int)) (hA:AV w0 x.ev x.now ((jI x).hd l told)):
    MQ (fun j=>E j∧j≠g.t.toNat) (p7 l x g.t)∧AV w0 (p7 l x g.t).ev (p7 l x g.t).now ((jI (p7 l x g.t)).hd l (told++ [g])):=by
  have hL:=hI.li l hl;have RA:g∈(gL x l).ho:=by rw [e];simp
  have jl:=hL.i.ho g RA
  unfold lu at jl
  obtain ⟨t,Uo⟩:∃t:Nat,g.t=(t:Int):=⟨g.t.toNat,by omega⟩
  have ht:t<x.ts.length:=by omega
  rw [Uo,Int.toNat_natCast] at h4;rw [Uo];obtain ⟨fM,hc⟩:=PU hL.w.topg e
  have UH:∀j,j<x.lk.length→∀y∈(gL x j).wt,y.who.toNat≠t:=fun j hj y hy q=>by
    have h1:=h.l.wt j hj y hy;rw [q] at h1;have h0:=(hI.li j hj).i.wt y hy;unfold lu at h0;have:j=l:=by have:=h1.2.symm.trans h4.2;omega
    subst this;exact hL.w.dj y hy g RA om
  have hH:dF (gL x l) t=nO (gL x l).sh g:=by rw [←Uo];exact L6 hL.w.hd RA
  have M3:=hA.jC (t:=t) (l:=l) (g:=g) ht hl Uo (by rw [show ((jI x).hd l told).hs l=told from bG ..];exact fun k hk=>by rw [←Uo];exact fM k hk) (by rw [show ((jI x).hd l told).hs l=told from bG ..];exact hc) h4.1 h4.2;rw [show ((jI x).hd l told).hs l=told from bG ..] at M3
  -- the task ajx back
  have oR:=(hI.j3 4 t l (dF (gL x l) t)).inc (t:=t) ht;have p8:=oR.cut (t:=t) (by rw [show (bK (ba x 4 t l (dF (gL x l) t)) t).ts.length=x.ts.length from bt ..];exact ht);have hQ2:=((h.j3 4 t l (dF (gL x l) t)).inc (hI.j3 4 t l (dF (gL x l) t)) (t:=t) ht).cut t;have hlen:(dt (bK (ba x 4 t l (dF (gL x l) t)) t) t).ts.length=x.ts.length:=bt ..;have hF:=fun j=>EV (x:=ba x 4 t l (dF (gL x l) t)) ht j
  have adY:∀j,cY (p7 l x t) j=aP (cY x) t 1 j:=fun j=>by
    rw [qA,show cY (fe (dt (bK (ba x 4 t l (dF (gL x l) t)) t) t) t) j=aP (cY (bK (ba x 4 t l (dF (gL x l) t)) t)) t 1 j from fG (x:=dt (bK (ba x 4 t l (dF (gL x l) t)) t) t) (by rw [hlen];exact ht) _ j]
    unfold aP;split;rfl;exact(hF j).1
  have aeG:∀j,eL (p7 l x t) j=aP (eL x) t (-1) j:=fun j=>by
    rw [qA,show eL (fe (dt (bK (ba x 4 t l (dF (gL x l) t)) t) t) t) j=aP (eL (bK (ba x 4 t l (dF (gL x l) t)) t)) t (-1) j from jk (x:=dt (bK (ba x 4 t l (dF (gL x l) t)) t) t) (by rw [hlen];exact ht) _ j]
    unfold aP;split;rfl;exact(hF j).2.2
  have aa3:∀j,eu (p7 l x t) j=eu x j:=fun j=>by
    rw [qA,show eu (fe (dt (bK (ba x 4 t l (dF (gL x l) t)) t) t) t) j=aP (eu (bK (ba x 4 t l (dF (gL x l) t)) t)) t (eu (bK (ba x 4 t l (dF (gL x l) t)) t) t) j from jh (x:=dt (bK (ba x 4 t l (dF (gL x l) t)) t) t) (by rw [hlen];exact ht) _ j,aR];exact(hF j).2.1
  refine ⟨?_,?_⟩
  · rw [qA,Int.toNat_natCast];exact hQ2.D6 p8 (by rw [hlen];exact ht) (by rw [show cY (dt (bK (ba x 4 t l (dF (gL x l) t)) t) t) t=cY x t from (hF t).1,h4.1];decide) UH
  · have Zw:=(M3.Wq (t:=t) ht (.inr (.inl (bG ..)))).eqv (u:=((jI (p7 l x t)).hd l (told++ [g]))) ?_
    · have e1:((((jI x).hd l told).hd l (told++ [g])).put t 6 (((jI x).hd l told).lo t) (((jI x).hd l told).co t)).co t=eu x t:=bG ..
      rw [e1] at Zw;have e2:(gT (dt (bK (ba x 4 t l (dF (gL x l) t)) t) t) t).co=eu x t:=(hF t).2.1
      have e3:(p7 l x t).ev=x.ev++ [⟨x.now,4,t,l,nO (gL x l).sh g⟩] ++ [⟨x.now,7,t,-1,eu x t⟩] :=by
        rw [qA]
        show (x.ev++ [(⟨x.now,4,t,l,dF (gL x l) t⟩:fu)])++ [(⟨x.now,7,t,-1,(gT (dt (bK (ba x 4 t l (dF (gL x l) t)) t) t) t).co⟩:fu)] =_
        rw [hH,←hH,e2]
      rw [e3];exact Zw
    · refine ⟨(yu l x t).symm,rfl,rfl,fun _ _=>rfl,fun j hj=>?_,fun j hj q4=>?_,fun j hj=>?_,fun j hj m=>?_⟩
      · show aP (aP (cY x) t 6) t 1 j=cY (p7 l x t) j
        rw [adY];unfold aP;split<;>rfl
      · have q4:aP (aP (cY x) t 6) t 1 j=4:=q4
        show aP (aP (eL x) t _) t _ j=eL (p7 l x t) j
        rw [aeG]
        by_cases c:t=j
        · rw [←c,bG] at q4;cases q4
        · rw [bf _ _ c,bf _ _ c,bf _ _ c]
      · show aP (aP (eu x) t (eu x t)) t _ j=eu (p7 l x t) j
        rw [aa3]
        by_cases c:t=j
        · rw [←c,bG];exact bG ..
        · rw [bf _ _ c,bf _ _ c]
      · show m∈aP (aP (fun l=>(gL x l).ho) l told) l (told++ [g]) j↔m∈aP (fun l=>(gL x l).ho) l (told++ [g]) j
        unfold aP;split<;>exact Iff.rfl
theorem KV {w0:ck} {l:Nat} :∀(cB told:List Hd) {E:Nat→Prop} {k:Nat} {x:aC},MI k x→MQ (fun j=>E j∨(j:Int)∈cB.map (·.t)) x→l<x.lk.length→(gL x l).ho=told++cB→(∀g∈cB,cY x g.t.toNat=4∧eL x g.t.toNat=(l:Int))→AV w0 x.ev x.now ((jI x).hd l told)→
    MQ E (o9 l x (cB.map (·.t)))∧AV w0 (o9 l x (cB.map (·.t))).ev (o9 l x (cB.map (·.t))).now (jI (o9 l x (cB.map (·.t))))
  | [],told,E,k,x,hI,hQ,hl,e,h4,hA=>by
    refine ⟨hQ.mono (fun t _ _ q=>q.resolve_right (by simp)),hA.eqv ⟨rfl,rfl,rfl,fun _ _=>rfl,fun _ _=>rfl,fun _ _ _=>rfl,fun _ _=>rfl,fun j hj m=>?_⟩⟩
    show m∈aP (fun l=>(gL x l).ho) l told j↔m∈(gL x j).ho
    unfold aP;split
    · next c=>rw [←c,e,List.append_nil]
    · exact Iff.rfl
  |g::cB,told,E,k,x,hI,hQ,hl,e,h4,hA=>by
    have hL:=hI.li l hl;have RA:g∈(gL x l).ho:=by rw [e];simp
    have jl:=hL.i.ho g RA;obtain ⟨q1,q2⟩:=Tw hI hQ hl e (h4 g (List.mem_cons_self ..)) hA;have oR:=hI.p7 l jl;have hd:=hL.w.hd;rw [e,List.map_append,List.nodup_append,List.map_cons,List.nodup_cons] at hd;have eb:∀m∈cB,g.t≠m.t:=fun m hm q=>hd.2.1.1 (List.mem_map.2 ⟨m,hm,q.symm⟩)
    unfold lu at jl
    have er:∀m∈cB,cY (p7 l x g.t) m.t.toNat=4∧eL (p7 l x g.t) m.t.toNat=(l:Int):=fun m hm=>by
      have MA:=hL.i.ho m (by rw [e];simp [hm]);unfold lu at MA;have:=Lx l x (u:=g.t) (t:=m.t.toNat) (by have:=eb m hm;omega)
      show (gT _ _).st=4∧(gT _ _).lk=_
      rw [this];exact h4 m (List.mem_cons_of_mem _ hm)
    refine KV cB (told++ [g]) oR (q1.mono (fun t ht _ q=>?_)) hl (by rw [List.append_assoc];exact e) er q2;rcases q.1 with r|r
    · exact .inl r
    · rw [List.map_cons,List.mem_cons] at r
      rcases r with r|r
      · exact absurd (by rw [←r,Int.toNat_natCast]) q.2
      · exact .inr r
theorem zL {w0:ck} {l:Nat} {cB told:List Hd} {to:List Int} {E:Nat→Prop} {k:Nat} {x:aC} (hI:MI k x) (hQ:MQ (fun j=>E j∨(j:Int)∈to) x) (hl:l<x.lk.length) (e:(gL x l).ho=told++cB) (et:cB.map (·.t)=to) (h4:∀t∈to,cY x t.toNat=4∧eL x t.toNat=(l:Int)) (hA:AV w0 x.ev x.now ((jI x).hd l told)):
    MQ E (dz x l to)∧AV w0 (dz x l to).ev (dz x l to).now (jI (dz x l to)):=by
  subst et;obtain ⟨q1,q2⟩:=KV cB told hI hQ hl e (fun g hg=>h4 g.t (List.mem_map_of_mem hg)) hA;exact⟨q1.gr _,q2⟩
def Rn:Nat→Prop:=fun _=>False
def Uu (x:aC) (t:Nat):Prop:=∀l,l<x.lk.length→∀y∈(gL x l).wt,y.who.toNat≠t
theorem MQ.UU {E:Nat→Prop} {x:aC} (h:MQ E x) {t:Nat} (ht:cY x t≠4):Uu x t:=fun l hl y hy e=>ht (by rw [←e];exact(h.l.wt l hl y hy).1)
theorem gW {x:aC} {l:Nat} (hl:l<x.lk.length) (M:aY) (j:Nat):gL (bj x l M) j=if l=j then M else gL x j:=bJ (qs:=x.lk) hl M j
theorem Oe (x:aC) (l:Nat):QJ (jI x) ((jI x).hd l (gL x l).ho):=⟨rfl,rfl,rfl,fun _ _=>rfl,fun _ _=>rfl,fun _ _ _=>rfl,fun _ _=>rfl,fun j _ g=>by
  show g∈(gL x j).ho↔g∈aP (fun l=>(gL x l).ho) l (gL x l).ho j
  rw [show aP (fun l=>(gL x l).ho) l (gL x l).ho j=(gL x j).ho from aR (fun l=>(gL x l).ho) l j]⟩
theorem za {x:aC} {l:Nat} (hl:l<x.lk.length) {M:aY} (hs:M.sh=(gL x l).sh) {f told:List Hd} (hf:∀g,g∈f↔g∈told):QJ ((jI x).hd l f) ((jI (bj x l M)).hd l told):=by
  refine ⟨rfl,(cC x l M).symm,rfl,fun j hj=>?_,fun _ _=>rfl,fun _ _ _=>rfl,fun _ _=>rfl,fun j hj g=>?_⟩
  · show (gL x j).sh=(gL (bj x l M) j).sh
    rw [gW hl];split
    · next e=>rw [hs,e]
    · rfl
  · show g∈aP (fun i=>(gL x i).ho) l f j↔g∈aP (fun i=>(gL (bj x l M) i).ho) l told j
    unfold aP;split
    · exact hf g
    · next e=>show g∈(gL x j).ho↔g∈(gL (bj x l M) j).ho;rw [gW hl,if_neg e]
section
variable {x:aC} {E:Nat→Prop} (h:MQ E x)
include h
theorem MQ.put {l:Nat} (hl:l<x.lk.length) {M:aY} {E':Nat→Prop} {told cB:List Hd} (hw:∀y∈M.wt,y∈(gL x l).wt) (hE:∀t,E t→E' t) (hn:∀y∈(gL x l).wt,y∈M.wt∨E' y.who.toNat) (ho:M.ho=told++cB) (ht:∀g∈told,g∈(gL x l).ho) (hp:∀g∈cB,∃y∈(gL x l).wt,y.who=g.t):MQ E' (bj x l M):=by
  refine ⟨h.q,h.l.put hl hw hE (fun y hy=>?_) (fun g hg=>?_)⟩
  · rcases hn y hy with q|q
    · exact .inl ⟨y,q,rfl⟩
    · exact .inr q
  · rw [ho] at hg
    rcases List.mem_append.1 hg with q|q
    · exact h.l.h5 l hl g (ht g q)
    · obtain ⟨y,hy,e⟩:=hp g q
      have:=(h.l.wt l hl y hy).1;rw [e] at this;rw [this];decide
end
theorem E4 {w0:ck} {k:Nat} {x:aC} {E:Nat→Prop} {l t:Nat} {M:aY} {to:List Int} {cB:List Hd} (hI:MI k x) (h:MQ E x) (hl:l<x.lk.length) (hM:LI x.ts.length k M) (ht:t<x.ts.length) (hh:bd (gL x l) t=true) (hA:AV w0 x.ev x.now (jI x)) (hT:ph (gL x l) M ((gL x l).ho.eraseIdx (ff (gL x l).ho t)) to cB) {kd:Int} (hk:(kd=5∧cY x t=2)∨(kd=12∧cY x t≠5)):
    MQ E (dz (bj (ba x kd t l 0) l M) l to)∧AV w0 (dz (bj (ba x kd t l 0) l M) l to).ev (dz (bj (ba x kd t l 0) l M) l to).now (jI (dz (bj (ba x kd t l 0) l M) l to)):=by
  have hL:=hI.li l hl;have hd:=hL.w.hd;have lT:∀g∈(gL x l).ho.eraseIdx (ff (gL x l).ho t),g∈(gL x l).ho:=fun g hg=>List.mem_of_mem_eraseIdx hg;have hE:=fun g=>xw hd (t:=(t:Int)) hh g
  have M3:=hA.lets (t:=t) (l:=l) ht hl hk (by
    obtain ⟨g,hg,e⟩:=List.any_eq_true.1 hh;exact⟨g,hg,of_decide_eq_true e⟩)
  have oR:=(hI.j3 kd t l 0).bj (l:=l) (hM.mono (Nat.le_refl _) (Nat.le_succ k));have hpd:∀u∈to,∃y∈(gL x l).wt,y.who=u:=hT.ti
  have W2:MQ (fun j=>E j∨(j:Int)∈to) (bj (ba x kd t l 0) l M):=MQ.put (h.j3 kd t l 0) hl hT.w1 (fun _ q=> .inl q) (fun y hy=>by
    rcases hT.w2 y hy with q|q
    · exact .inl q
    · have h0:=hL.i.wt y hy;unfold lu at h0
      exact .inr (.inr (by rw [show ((y.who.toNat:Nat):Int)=y.who by omega];exact q))) hT.ho lT (fun g hg=>hpd g.t (by rw [←hT.tq];exact List.mem_map_of_mem hg))
  have ij:l<(bj (ba x kd t l 0) l M).lk.length:=by rw [show (bj (ba x kd t l 0) l M).lk.length=x.lk.length from cC ..];exact hl
  refine zL oR W2 ij (told:=(gL x l).ho.eraseIdx (ff (gL x l).ho t)) (cB:=cB) (by rw [show gL (bj (ba x kd t l 0) l M) l=M from (gW (x:=ba x kd t l 0) hl M l).trans (if_pos rfl)];exact hT.ho) hT.tq (fun u hu=>?_) ?_
  · obtain ⟨y,hy,rfl⟩:=hpd u hu;exact h.l.wt l hl y hy
  · exact(M3.eqv (za (x:=x) hl hT.sh (fun g=>(hE g).symm)):_)
theorem Fl {k:Nat} {x:aC} {E:Nat→Prop} {l t:Nat} (hI:MI k x) (h:MQ E x) (hl:l<x.lk.length) (hw:bY (gL x l) t=true):MQ (fun j=>(E j∨j=t)∨(j:Int)∈pd (gL x l) t) (bj x l (fx (gL x l) t)):=by
  obtain ⟨cB,e1,e2,e3,e4,e5,e6,e7⟩:=ph.lv hw;have hL:=hI.li l hl;refine MQ.put h hl (told:=(gL x l).ho) (cB:=cB) (fun y hy=>(e3 y hy).1) (fun _ q=> .inl (.inl q)) (fun y hy=>?_) e1 (fun _ q=>q) (fun g hg=>(e5 g.t (by rw [←e2];exact List.mem_map_of_mem hg)).2);have h0:=hL.i.wt y hy;unfold lu at h0;rcases e4 y hy with q|q|q
  · exact .inl q
  · exact .inr (.inr (by rw [show ((y.who.toNat:Nat):Int)=y.who by omega];exact q))
  · exact .inr (.inl (.inr om))
theorem AS {L:aY} {t:Int} (h:∃y∈L.wt,y.who=t):bY L t=true:=by
  obtain ⟨y,hy,e⟩:=h;exact List.any_eq_true.2 ⟨y,hy,decide_eq_true e⟩
theorem Rw {w0:ck} {k:Nat} {x:aC} {t:Nat} (hI:MI k x) (h:MQ Rn x) (ht:t<x.ts.length) (hA:AV w0 x.ev x.now (jI x)):
    MQ (fun j=>j=t) (qR x t)∧AV w0 (qR x t).ev (qR x t).now (jI (qR x t))∧Uu (qR x t) t∧cY (qR x t) t=cY x t:=by
  unfold qR
  split
  · next e=>
    have hlr:=(hI.tb t ht).l4 e;obtain ⟨l,hle⟩:∃l:Nat,(gT x t).lk=(l:Int):=⟨(gT x t).lk.toNat,by omega⟩
    have hl:l<x.lk.length:=by rw [hI.ll];omega
    rw [hle,Int.toNat_natCast];have hL:=hI.li l hl;obtain ⟨y,hy,ey⟩:=h.l.s4 t ht e (fun q=>q);have hy:y∈(gL x l).wt:=by rw [show (eL x t).toNat=l by show (gT x t).lk.toNat=l;omega] at hy;exact hy
    have hw:bY (gL x l) t=true:=AS ⟨y,hy,ey⟩;obtain ⟨cB,e1,e2,e3,e4,e5,e6,e7⟩:=ph.lv hw;have oR:=hI.bj (l:=l) (hL.lv t);have W2:=(Fl hI h hl hw).mono (E':=fun j=>j=t∨(j:Int)∈pd (gL x l) t) (fun j _ _ q=>by rcases q with (q|q)|q;exact q.elim;exact .inl q;exact .inr q);have ij:l<(bj x l (fx (gL x l) t)).lk.length:=by rw [cC];exact hl
    have hg:gL (bj x l (fx (gL x l) t)) l=fx (gL x l) t:=(gW hl _ l).trans (if_pos rfl);have M3:=(hA.eqv (Oe x l)).eqv (za hl e6 (told:=(gL x l).ho) (fun g=>Iff.rfl))
    have q:=zL oR W2 ij (told:=(gL x l).ho) (cB:=cB) (by rw [hg];exact e1) e2 (fun u hu=>by
      obtain ⟨_,z,hz,rfl⟩:=e5 u hu;exact h.l.wt l hl z hz) M3
    refine ⟨q.1,q.2,fun j hj z hz=>?_,?_⟩
    · rw [(cM l (bj x l (fx (gL x l) t)) (pd (gL x l) t)).2.1,cC] at hj
      have hz:z∈(gL (bj x l (fx (gL x l) t)) j).wt:=by
        have:=(cM l (bj x l (fx (gL x l) t)) (pd (gL x l) t)).2.1
        unfold gL at hz ⊢;rw [this] at hz;exact hz
      rw [gW hl] at hz
      by_cases c:l=j
      · rw [if_pos c] at hz
        have h0:=hL.i.wt z (e3 z hz).1;unfold lu at h0;have:=(e3 z hz).2;omega
      · rw [if_neg c] at hz
        intro q;have:=(h.l.wt j hj z hz).2;rw [q] at this;exact c (by have:(gT x t).lk=(j:Int):=this;omega)
    · show (gT (o9 _ _ _) t).st=_
      rw [uL l _ _ (fun u hu=>by
        obtain ⟨h1,z,hz,rfl⟩:=e5 u hu;have h0:=hL.i.wt z hz;unfold lu at h0;omega)];rfl
  · next e=>
    exact⟨h.mono (fun _ _ _ q=>q.elim),hA,h.UU e,rfl⟩
theorem Sb {w0:ck} {k:Nat} {x:aC} {t l:Nat} (hI:MI k x) (h:MQ (fun j=>j=t) x) (ht:t<x.ts.length) (hl:l<x.lk.length) (hw:Uu x t) (h5:cY x t≠5) (hA:AV w0 x.ev x.now (jI x)):
    MQ (fun j=>j=t) (ru t x l)∧AV w0 (ru t x l).ev (ru t x l).now (jI (ru t x l))∧Uu (ru t x l) t∧cY (ru t x l) t=cY x t∧(∀j,j<x.lk.length→(j=l∨∀g∈(gL x j).ho,g.t≠(t:Int))→∀g∈(gL (ru t x l) j).ho,g.t≠(t:Int)):=by
  unfold ru
  split
  · next e=>
    have hL:=hI.li l hl
    have OJ:bY (gL x l) t=false:=by
      cases c:bY (gL x l) t with
      |false=>rfl
      |true=>
        obtain ⟨y,hy,q⟩:=List.any_eq_true.1 c;exact absurd (by rw [of_decide_eq_true q];rfl) (hw l hl y hy)
    obtain ⟨cB,hT⟩:=ph.die OJ e;obtain ⟨q1,q2⟩:=E4 hI h hl (hL.die t) ht e hA hT (kd:=12) (.inr ⟨rfl,h5⟩)
    have tK:∀j,gL (dz (bj (ba x 12 t l 0) l (rm (gL x l) t)) l (ud (gL x l) t)) j=if l=j then rm (gL x l) t else gL x j:=fun j=>by
      have:=(cM l (bj (ba x 12 t l 0) l (rm (gL x l) t)) (ud (gL x l) t)).2.1
      unfold gL;rw [this];exact gW (x:=ba x 12 t l 0) hl _ j
    have AO:(dz (bj (ba x 12 t l 0) l (rm (gL x l) t)) l (ud (gL x l) t)).lk.length=x.lk.length:=by
      rw [(cM l (bj (ba x 12 t l 0) l (rm (gL x l) t)) (ud (gL x l) t)).2.1];exact cC ..
    have CC:∀u∈ud (gL x l) t,u.toNat≠t:=fun u hu=>by
      obtain ⟨y,hy,rfl⟩:=hT.ti u hu;exact hw l hl y hy
    refine ⟨q1,q2,fun j hj z hz=>?_,?_,fun j hj hc g hg=>?_⟩
    · rw [AO] at hj;rw [tK] at hz
      by_cases c:l=j
      · rw [if_pos c] at hz;exact hw l hl z (hT.w1 z hz)
      · rw [if_neg c] at hz;exact hw j hj z hz
    · show (gT (o9 _ _ _) t).st=_
      rw [uL l _ _ CC];rfl
    · rw [tK] at hg
      by_cases c:l=j
      · rw [if_pos c,hT.ho] at hg
        rcases List.mem_append.1 hg with q|q
        · have:=(xw hL.w.hd e g).1 q
          exact of_decide_eq_true (List.mem_filter.1 this).2
        · have:=CC g.t (by rw [←hT.tq];exact List.mem_map_of_mem q)
          intro r;rw [r] at this;exact this rfl
      · rw [if_neg c] at hg
        exact hc.resolve_left (fun q=>c q.symm) g hg
  · next e=>
    refine ⟨h,hA,hw,rfl,fun j hj hc g hg=>?_⟩;rcases hc with rfl|hc
    · exact qo (by simpa using e) g hg
    · exact hc g hg
theorem Mn {w0:ck} {k:Nat} {x:aC} {t:Nat} (hI:MI k x) (h:MQ (fun j=>j=t) x) (ht:t<x.ts.length) (hw:Uu x t) (h5:cY x t≠5) (hA:AV w0 x.ev x.now (jI x)):∀{n:Nat},n≤x.lk.length→
    MQ (fun j=>j=t) (pN t x n)∧AV w0 (pN t x n).ev (pN t x n).now (jI (pN t x n))∧Uu (pN t x n) t∧cY (pN t x n) t=cY x t∧(∀j,j<n→∀g∈(gL (pN t x n) j).ho,g.t≠(t:Int))
  |0,_=>⟨h,hA,hw,rfl,fun j hj=>absurd hj (Nat.not_lt_zero j)⟩
  |n+1,hn=>by
    obtain ⟨a1,a2,a3,a4,a5⟩:=Mn hI h ht hw h5 hA (n:=n) om;have hs:=ky t x n;rw [kZ];obtain ⟨b1,b2,b3,b4,b5⟩:=Sb (hI.pN t (n:=n) om) a1 (by rw [hs.1];exact ht) (l:=n) (by rw [hs.2.1];omega) a3 (by rw [a4];exact h5) a2
    exact⟨b1,b2,b3,b4.trans a4,fun j hj=>b5 j (by rw [hs.2.1];omega) (by
      by_cases c:j=n
      · exact .inl c
      · exact .inr (a5 j om))⟩
theorem Q0 {w0:ck} {k:Nat} {x:aC} {t:Nat} (hI:MI k x) (h:MQ Rn x) (ht:t<x.ts.length) (h5:cY x t≠5) (hA:AV w0 x.ev x.now (jI x)):
    MQ Rn (kh x t)∧AV w0 (kh x t).ev (kh x t).now (jI (kh x t)):=by
  obtain ⟨a1,a2,a3,a4⟩:=Rw hI h ht hA;have Fh:=qS x t;have oR:=hI.yA ht;obtain ⟨b1,b2,b3,b4,b5⟩:=Mn (x:=yA x t) oR (a1.cut t) (by rw [Fh.1];exact ht) a3 (by show cY (qR x t) t≠5;rw [a4];exact h5) a2 (n:=x.lk.length) (by rw [Fh.2.1];exact Nat.le_refl _);have p8:=oR.pN t (n:=x.lk.length) (by rw [Fh.2.1];exact Nat.le_refl _);have ss:=ky t (yA x t) x.lk.length;rw [yv,show De x t=eC (pN t (yA x t) x.lk.length) t from rfl]
  generalize hz:pN t (yA x t) x.lk.length=z at*
  have Cd:t<z.ts.length:=by rw [ss.1,Fh.1];exact ht
  have XD:z.lk.length=x.lk.length:=ss.2.1.trans Fh.2.1;have h5z:cY z t≠5:=by rw [b4];show cY (qR x t) t≠5;rw [a4];exact h5
  have iO:∀l,l<z.lk.length→∀g∈(gL z l).ho,g.t≠(t:Int):=fun l hl=>b5 l om;have hIq:MI _ (eC z t):=p8.qut t;have hIf:=(hIq.up (t:=t) Cd (hIq.tb t Cd).ded).j3 11 t (-1) 0;have hlen:(ba (dh (eC z t) t (tp (gT (eC z t) t))) 11 t (-1) 0).ts.length=z.ts.length:=bt ..;refine ⟨⟨?_,?_⟩,?_⟩
  · rw [hlen]
    have hc:=hIf.ci;rw [hlen] at hc;exact(b1.q.rem p8.ci (t:=t) (s:=5) (by decide)).ext hc (fun j _=>fG (x:=eC z t) Cd _ j) (fun j _=>(jh (x:=eC z t) Cd (tp (gT (eC z t) t)) j).trans (aR _ _ _))
  · rw [hlen]
    have hi:=hIf.NM;rw [hlen] at hi;refine ((b1.l.Qf (t:=t) (s:=5) (by decide) b3 (fun _ l hl g hg e=>?_) (-1)).ext hi (fun j _=>fG (x:=eC z t) Cd _ j) (fun j _=>jk (x:=eC z t) Cd _ j)).mono (fun j _ _ q=>absurd q.1 q.2);have h0:=(p8.li l hl).i.ho g hg;unfold lu at h0;exact iO l hl g hg om
  · have q:=(b2.exit (t:=t) Cd h5z iO).eqv (u:=jI (ba (dh (eC z t) t (tp (gT (eC z t) t))) 11 t (-1) 0)) ?_
    · exact q
    · refine ⟨hlen.symm,rfl,rfl,fun _ _=>rfl,fun j _=>(fG (x:=eC z t) Cd (tp (gT (eC z t) t)) j).symm,fun j _ q4=>?_,fun j _=>?_,fun _ _ _=>Iff.rfl⟩
      · have q4:aP (cY z) t 5 j=4:=q4
        show aP (eL z) t _ j=eL (dh (eC z t) t (tp (gT (eC z t) t))) j
        rw [jk (x:=eC z t) Cd]
        by_cases c:t=j
        · rw [←c,bG] at q4;cases q4
        · rw [bf _ _ c,bf _ _ c];rfl
      · show aP (eu z) t _ j=eu (dh (eC z t) t (tp (gT (eC z t) t))) j
        rw [jh (x:=eC z t) Cd];rfl
theorem Q2 {w0:ck} {k:Nat} {x:aC} {t:Nat} (hI:MI k x) (h:MQ Rn x) (ht:t<x.ts.length) (hA:AV w0 x.ev x.now (jI x)):
    MQ Rn (oU x t)∧AV w0 (oU x t).ev (oU x t).now (jI (oU x t)):=by
  unfold oU
  split
  · exact⟨h,hA⟩
  next e0=>
  split
  · next e3=>
    refine ⟨(h.D6 hI ht (by rw [show cY x t=3 from e3];decide) (h.UU (by rw [show cY x t=3 from e3];decide))).mono (fun _ _ _ q=>q.1),LZ ht hA ?_ (.inl e3)⟩;refine ⟨rfl,rfl,rfl,fun _ _=>rfl,fun j _=>(aR _ _ _).symm,fun j _ _=>(aR _ _ _).symm,fun j _=>(aR _ _ _).symm,fun _ _ _=>Iff.rfl⟩
  next e3=>
  have e4:cY x t=4:=((hI.tb t ht).un e0).resolve_left e3;have hlr:=(hI.tb t ht).l4 e4;obtain ⟨l,hle⟩:∃l:Nat,(gT x t).lk=(l:Int):=⟨(gT x t).lk.toNat,by omega⟩
  have hl:l<x.lk.length:=by rw [hI.ll];omega
  rw [hle,Int.toNat_natCast];have hL:=hI.li l hl;obtain ⟨y,hy,ey⟩:=h.l.s4 t ht e4 (fun q=>q);have hy:y∈(gL x l).wt:=by rw [show (eL x t).toNat=l by show (gT x t).lk.toNat=l;omega] at hy;exact hy
  have hw:bY (gL x l) t=true:=AS ⟨y,hy,ey⟩;obtain ⟨cB,e1,e2,e3',e4',e5,e6,e7⟩:=ph.lv hw;have hQ0:=(Fl hI h hl hw).mono (E':=fun j=>j=t∨(j:Int)∈pd (gL x l) t) (fun j _ _ q=>by rcases q with (q|q)|q;exact q.elim;exact .inl q;exact .inr q);have Vb:=hI.bj (l:=l) (hL.lv t);have oR:=Vb.j3 8 t l 10;have W2:=hQ0.j3 8 t l 10;have M3:=((hA.late (t:=t) (l:=l) ht e4 hle hl).eqv (u:=(Ql (bj x l (fx (gL x l) t)) (aP (fun j=>(gL (bj x l (fx (gL x l) t)) j).ho) l (gL x l).ho)).put t 7 (eL x t) (eu x t)) ?_)
  · generalize hz:ba (bj x l (fx (gL x l) t)) 8 t l 10=z at*
    have hzt:z.ts=x.ts:=by rw [←hz];rfl
    have hzl:z.lk=(bj x l (fx (gL x l) t)).lk:=by rw [←hz];rfl
    have hze:z.ev=x.ev++ [⟨x.now,8,t,l,10⟩] :=by rw [←hz];rfl
    have ZT:z.now=x.now:=by rw [←hz];rfl
    have HW:z.s=x.s:=by rw [←hz];rfl
    have Cd:t<z.ts.length:=by rw [hzt];exact ht
    have p8:=(oR.inc Cd).cut (t:=t) (by rw [show (bK z t).ts.length=z.ts.length from bt ..];exact Cd);have hQ2:=(W2.inc oR Cd).cut t;have hF:=fun j=>EV Cd j;have US:∀j,gT z j=gT x j:=fun j=>by unfold gT;rw [hzt]
    have VK:t<(dt (bK z t) t).ts.length:=by rw [show (dt (bK z t) t).ts.length=z.ts.length from bt ..];exact Cd
    have Y3:cY (dt (bK z t) t) t=4:=(hF t).1.trans (by show (gT z t).st=4;rw [US];exact e4);have XD:(dt (bK z t) t).lk.length=x.lk.length:=by show z.lk.length=_;rw [hzl];exact cC ..
    have wu:∀j,gL (dt (bK z t) t) j=if l=j then fx (gL x l) t else gL x j:=fun j=>by
      show z.lk.getD j default=_;rw [hzl];exact gW hl _ j
    have UH:∀j,j<(dt (bK z t) t).lk.length→∀y∈(gL (dt (bK z t) t) j).wt,y.who.toNat≠t:=fun j hj z' Pm=>by
      rw [XD] at hj;rw [wu] at Pm
      by_cases c:l=j
      · rw [if_pos c] at Pm
        have h0:=hL.i.wt z' (e3' z' Pm).1;unfold lu at h0;have:=(e3' z' Pm).2;omega
      · rw [if_neg c] at Pm
        intro q;have:=(h.l.wt j hj z' Pm).2;rw [q] at this;exact c (by have:(gT x t).lk=(j:Int):=this;omega)
    have hQ3:=hQ2.D6 p8 VK (by rw [Y3];decide) UH;have hA3:=LZ (x:=dt (bK z t) t) VK (v:=(Ql (bj x l (fx (gL x l) t)) (aP (fun j=>(gL (bj x l (fx (gL x l) t)) j).ho) l (gL x l).ho)).put t 7 (eL x t) (eu x t)) (hs:=aP (fun j=>(gL (bj x l (fx (gL x l) t)) j).ho) l (gL x l).ho) (by rw [hze.symm,ZT.symm] at M3;exact M3) ?_ (.inr (.inr (bG ..)))
    · have hlen:(fe (dt (bK z t) t) t).ts.length=x.ts.length:=by
        rw [show (fe (dt (bK z t) t) t).ts.length=(dt (bK z t) t).ts.length from bt ..,show (dt (bK z t) t).ts.length=z.ts.length from bt ..,hzt]
      have adf:gL (fe (dt (bK z t) t) t) l=fx (gL x l) t:=(wu l).trans (if_pos rfl);refine zL (p8.D6 VK) (hQ3.mono (fun j _ _ q=>?_)) (by show l<(dt (bK z t) t).lk.length;rw [XD];exact hl) (told:=(gL x l).ho) (cB:=cB) (by rw [adf];exact e1) e2 (fun u hu=>?_) (hA3.eqv ?_)
      · exact .inr (q.1.resolve_left q.2)
      · obtain ⟨h1,z',Pm,rfl⟩:=e5 u hu
        have h0:=hL.i.wt z' Pm;unfold lu at h0;have eb:t≠z'.who.toNat:=by omega
        have a1:cY (fe (dt (bK z t) t) t) z'.who.toNat=cY x z'.who.toNat:=(fG VK _ _).trans ((bf _ _ eb).trans ((hF _).1.trans (by show (gT z _).st=_;rw [US])));have a2:eL (fe (dt (bK z t) t) t) z'.who.toNat=eL x z'.who.toNat:=(jk VK _ _).trans ((bf _ _ eb).trans ((hF _).2.2.trans (by show (gT z _).lk=_;rw [US])));rw [a1,a2];exact h.l.wt l hl z' Pm
      · refine ⟨rfl,rfl,rfl,fun _ _=>rfl,fun _ _=>rfl,fun _ _ _=>rfl,fun _ _=>rfl,fun j _ g=>?_⟩
        show g∈aP (fun j=>(gL (bj x l (fx (gL x l) t)) j).ho) l (gL x l).ho j↔g∈aP (fun j=>(gL (fe (dt (bK z t) t) t) j).ho) l (gL x l).ho j
        unfold aP;split
        · exact Iff.rfl
        · next c=>show g∈(gL (bj x l (fx (gL x l) t)) j).ho↔g∈(gL (dt (bK z t) t) j).ho;rw [wu,if_neg c,gW hl,if_neg c]
    · have hn:((Ql (bj x l (fx (gL x l) t)) (aP (fun j=>(gL (bj x l (fx (gL x l) t)) j).ho) l (gL x l).ho)).put t 7 (eL x t) (eu x t)).hw t=7:=bG ..
      refine ⟨by show x.ts.length=(dt (bK z t) t).ts.length;rw [show (dt (bK z t) t).ts.length=z.ts.length from bt ..,hzt],(cC ..).trans XD.symm,by show x.s.cr=z.s.cr;rw [HW],fun j _=>by show (gL (bj x l (fx (gL x l) t)) j).sh=(gL (dt (bK z t) t) j).sh;rw [wu,gW hl],fun j _=>?_,fun j _ _=>?_,fun j _=>?_,fun _ _ _=>Iff.rfl⟩
      · show aP (cY x) t 7 j=aP (cY (bK z t)) t _ j
        rw [hn];unfold aP;split;rfl;rw [(hF j).1];show _=(gT z j).st;rw [US]
      · show aP (eL x) t (eL x t) j=aP (eL (bK z t)) t (aP (eL x) t (eL x t) t) j
        rw [bG];unfold aP;split;rfl;rw [(hF j).2.2];show _=(gT z j).lk;rw [US]
      · show aP (eu x) t (eu x t) j=aP (eu (bK z t)) t (eu (bK z t) t) j
        rw [aR,aR,(hF j).2.1];show _=(gT z j).co;rw [US]
  · refine ⟨rfl,(cC x l _).symm,rfl,fun j _=>?_,fun _ _=>rfl,fun _ _ _=>rfl,fun _ _=>rfl,fun j _ g=>?_⟩
    · show (gL x j).sh=(gL (bj x l (fx (gL x l) t)) j).sh
      rw [gW hl];split
      · next c=>rw [e6,c]
      · rfl
    · show g∈(gL x j).ho↔g∈aP (fun j=>(gL (bj x l (fx (gL x l) t)) j).ho) l (gL x l).ho j
      unfold aP;split
      · next c=>rw [c]
      · next c=>show _↔g∈(gL (bj x l (fx (gL x l) t)) j).ho;rw [gW hl,if_neg c]
end Go.Eng
