/- A machine held against what events tell: an op; no program text in sight. No condition. -/
import Derived.Test.YtdimfmnimobmfaaGreatM2
import Derived.Test.YtdimfmnimobmfaaGreatM6
import Derived.Test.YtdimfmnimobmfaaGreatM3
import Derived.Test.YtdimfmnimobmfaaGreatM1
import Derived.Test.YtdimfmnimobmfaaGreatRows
set_option linter.unusedVariables false
set_option linter.unusedSectionVars false
set_option linter.unusedSimpArgs false
set_option maxRecDepth 100000
set_option maxHeartbeats 4000000
attribute [local irreducible] Go.Eng.LM Go.Eng.LD Go.Eng.KD Go.Eng.af Go.Eng.QM
namespace Go.Eng
open Go Go.RowKit
/-! parties, and which locks are shared -/
structure PI (ts:List iN) (lk:List aY) (ng:Nat) (ls:List km):Prop where
  gr:∀t,t<ts.length→0≤(ts.getD t default).gr∧(ts.getD t default).gr<(ng:Int)
  ln:∀l,l<lk.length→(lk.getD l default).sh=false→ng≤(lk.getD l default).ld.l.length
  sh:∀l,l<lk.length→(lk.getD l default).sh=(ls.getD l default).sh
  id:∀t,t<ts.length→(ts.getD t default).id=(t:Int)
section
variable {ts:List iN} {lk:List aY} {ng:Nat} {ls:List km} (h:PI ts lk ng ls)
include h
theorem PI.set (t:Nat) (y:iN) (hy:(y.gr,y.id)=((ts.getD t default).gr,(ts.getD t default).id)):PI (ts.set t y) lk ng ls:=by
  obtain ⟨hy,ZB⟩:=Prod.mk.inj hy;refine ⟨fun j hj=>?_,h.ln,h.sh,fun j hj=>?_⟩<;>rw [List.length_set] at hj<;>rw [List.getD_eq_getElem?_getD,List.getElem?_set] <;>by_cases e:t=j
  · rw [if_pos e,if_pos (e▸hj)];show 0≤y.gr∧y.gr<_;rw [hy,e];exact h.gr j hj
  · rw [if_neg e,←List.getD_eq_getElem?_getD];exact h.gr j hj
  · rw [if_pos e,if_pos (e▸hj)];show y.id=_;rw [ZB,e];exact h.id j hj
  · rw [if_neg e,←List.getD_eq_getElem?_getD];exact h.id j hj
theorem PI.put (l:Nat) (M:aY) (h1:M.sh=(lk.getD l default).sh) (h2:M.ld.l.length=(lk.getD l default).ld.l.length):PI ts (lk.set l M) ng ls:=by
  have hg:∀j,j<lk.length→(lk.set l M).getD j default=if l=j then M else lk.getD j default:=fun j hj=>by
    rw [List.getD_eq_getElem?_getD,List.getElem?_set]
    by_cases e:l=j
    · rw [if_pos e,if_pos e,if_pos (e▸hj)];rfl
    · rw [if_neg e,if_neg e,←List.getD_eq_getElem?_getD]
  refine ⟨h.gr,fun j hj q=>?_,fun j hj=>?_,h.id⟩
  · rw [List.length_set] at hj;rw [hg j hj] at q ⊢
    by_cases e:l=j
    · rw [if_pos e] at q ⊢;rw [h2,e];exact h.ln j hj (by rw [←e,←h1];exact q)
    · rw [if_neg e] at q ⊢;exact h.ln j hj q
  · rw [List.length_set] at hj;rw [hg j hj]
    by_cases e:l=j
    · rw [if_pos e,h1,e];exact h.sh j hj
    · rw [if_neg e];exact h.sh j hj
theorem PI.map (f:aY→aY) (hf:∀L,(f L).sh=L.sh∧(f L).ld.l.length=L.ld.l.length):PI ts (lk.map f) ng ls:=by
  have hg:∀j,j<lk.length→(lk.map f).getD j default=f (lk.getD j default):=fun j hj=>by
    rw [List.getD_eq_getElem?_getD,List.getElem?_map,List.getElem?_eq_getElem hj,List.getD_eq_getElem?_getD,List.getElem?_eq_getElem hj];rfl
  refine ⟨h.gr,fun j hj q=>?_,fun j hj=>?_,h.id⟩
  · rw [List.length_map] at hj;rw [hg j hj] at q ⊢;rw [(hf _).2];exact h.ln j hj (by rw [←(hf _).1];exact q)
  · rw [List.length_map] at hj;rw [hg j hj,(hf _).1];exact h.sh j hj
theorem PI.snoc (y:iN) (hy:0≤y.gr∧y.gr<(ng:Int)) (hi:y.id=(ts.length:Int)):PI (ts++ [y]) lk ng ls:=by
  refine ⟨fun j hj=>?_,h.ln,h.sh,fun j hj=>?_⟩<;>rw [List.length_append,List.length_singleton] at hj<;>rcases Nat.lt_or_ge j ts.length with q|q
  · rw [List.getD_eq_getElem?_getD,List.getElem?_append_left q,←List.getD_eq_getElem?_getD];exact h.gr j q
  · rw [show j=ts.length by omega,List.getD_eq_getElem?_getD,List.getElem?_append_right (Nat.le_refl _),Nat.sub_self];exact hy
  · rw [List.getD_eq_getElem?_getD,List.getElem?_append_left q,←List.getD_eq_getElem?_getD];exact h.id j q
  · rw [show j=ts.length by omega,List.getD_eq_getElem?_getD,List.getElem?_append_right (Nat.le_refl _),Nat.sub_self];exact hi
end
theorem Nw (L:aY) (t p:Int):(cu L t p).sh=L.sh∧(cu L t p).ld.l.length=L.ld.l.length:=by
  unfold cu;split
  · exact⟨rfl,rfl⟩
  · have e:=eK L p
    exact⟨e.1,(gS ..).trans (by show (bT L p).ld.l.length=_;rw [e.2.2.2.1])⟩
theorem Pg (L:aY) (t p:Int):(dv L t p).sh=L.sh∧(dv L t p).ld.l.length=L.ld.l.length:=by
  unfold dv;split
  · exact⟨rfl,rfl⟩
  · exact⟨rfl,gS ..⟩
theorem T7 (L:aY) (t:Int):(ej L t).sh=L.sh∧(ej L t).ld.l.length=L.ld.l.length:=by
  by_cases e:bd L t=true
  · obtain ⟨p,h⟩:=pe.BL e;exact⟨h.sh,h.ln⟩
  · unfold ej;rw [if_neg e];exact⟨rfl,rfl⟩
theorem IN (L:aY) (t:Int):(fw L t).sh=L.sh∧(fw L t).ld.l.length=L.ld.l.length:=by
  by_cases e:bY L t=true
  · obtain ⟨p,h⟩:=pe.lv e;exact⟨h.2.2.2.2.2.1,h.2.2.2.2.2.2⟩
  · unfold fw;rw [if_neg e];exact⟨rfl,rfl⟩
theorem Q8 (L:aY) (t:Int):(rk L t).sh=L.sh∧(rk L t).ld.l.length=L.ld.l.length:=by
  unfold rk;split
  · exact IN L t
  · split
    · exact T7 {L with di:=true} t
    · exact⟨rfl,rfl⟩
theorem TR (L:aY) (t:Int):(iR L t).sh=L.sh∧(iR L t).ld.l.length=L.ld.l.length:=by
  unfold iR;split
  · exact⟨rfl,(gS ..).trans (by show (L.ld.l.set _ _).length=_;rw [List.length_set])⟩
  · exact⟨rfl,rfl⟩
theorem Dg (L:aY) (g w:Int):(iz L g w).sh=L.sh∧(iz L g w).ld.l.length=L.ld.l.length:=by
  unfold iz;split
  · exact⟨rfl,(gS ..).trans (by show (L.ld.l.set _ _).length=_;rw [List.length_set])⟩
  · exact⟨rfl,rfl⟩
abbrev wO (x:aC):Prop:=PI x.ts x.lk x.s.gs.length x.s.ls
section
variable {x:aC} (h:wO x)
include h
theorem PI.inc (t:Nat):wO (bJ x t):=PI.set h t _ rfl
theorem PI.Dc (t:Nat):wO (fe x t):=PI.set h t _ rfl
theorem PI.pt (l:Nat) {M:aY} (hM:M.sh=(gL x l).sh∧M.ld.l.length=(gL x l).ld.l.length):wO (bh x l M):=PI.put h l M hM.1 hM.2
theorem PI.py (l:Nat) (t:Int):wO (py l x t):=PI.Dc (x:=du (bJ (ba x 4 t l (dD (gL x l) t)) t.toNat) t.toNat) (PI.inc (x:=ba x 4 t l (dD (gL x l) t)) h t.toNat) t.toNat
end
theorem PI.o4 {l:Nat} :∀(to:List Int) {x:aC},wO x→wO (o4 l x to)
  | [],x,h=>h
  |t::to,x,h=>PI.o4 to (PI.py h l t)
theorem PI.rv {l:Nat} {to:List Int} {x:aC} (h:wO x):wO (dz x l to):=PI.o4 to h
theorem PI.qx {x:aC} (h:wO x) (t:Nat):wO (qx x t):=by
  unfold Go.Eng.qx;split
  · exact PI.rv (PI.pt h _ (IN _ _))
  · exact h
theorem PI.r5 {x:aC} (h:wO x) (t l:Nat):wO (r5 t x l):=by
  unfold Go.Eng.r5;split
  · exact PI.rv (PI.pt (x:=ba x 12 t l 0) h _ (Q8 _ _))
  · exact h
theorem PI.pF {x:aC} (h:wO x) (t:Nat):∀n,wO (pF t x n)
  |0=>h
  |n+1=>by rw [kD];exact PI.r5 (PI.pF h t n) t n
theorem PI.die {x:aC} (h:wO x) (t:Nat):wO (kf x t):=by
  have h1:wO (D5 x t):=PI.pF (x:=yW x t) (PI.qx h t) t x.lk.length;rw [zK];exact PI.set h1 t _ rfl
theorem PI.o1 {x:aC} (h:wO x) (t:Nat):wO (o1 x t):=by
  unfold Go.Eng.o1;split
  · exact h
  · split
    · exact PI.Dc h t
    · refine PI.rv ?_
      exact PI.Dc (x:=du (bJ (ba (bh x (gT x t).lk.toNat (fw (gL x (gT x t).lk.toNat) t)) 8 t (gT x t).lk 10) t) t) (PI.inc (x:=ba (bh x (gT x t).lk.toNat (fw (gL x (gT x t).lk.toNat) t)) 8 t (gT x t).lk 10) (PI.pt h _ (IN _ _)) t) t
/-! ops that may be -/
structure OpQ (s:kh) (o:db):Prop where
  r:o.k=3→(s.ls.getD o.a.toNat default).sh=true
  s:o.k=7→1≤o.a∧o.a≤64
  w:o.k=10→1≤o.a∧o.a≤16
theorem Q0 {s:kh} (h:fC s=true) {p:pS} (hp:p∈s.ps) {i:Nat} (hi:i<p.xs.length):OpQ s (p.xs.getD i default):=by
  obtain ⟨h1,h2,h3⟩:=ky h;obtain ⟨hm,hf⟩:=qo (h3 p hp);have hr:=yV hm hi;have hf:=hf i hi
  unfold gG at hf
  generalize p.xs.getD i default=o at hr hf
  unfold iD at hr
  simp only [Bool.and_eq_true] at hr;have h5:=hr.1.2;refine ⟨fun e=>?_,fun e=>?_,fun e=>?_⟩
  · split at hf
    · cases hf
    · split at hf
      · cases hf
      · next q=>
        rw [decide_eq_true e] at q;cases c:(s.ls.getD o.a.toNat default).sh with
        |true=>rfl
        |false=>rw [c] at q;exact absurd rfl q
  · rw [e] at h5;simp [hasB,r4,wT] at h5;exact h5
  · rw [e] at h5;simp [hasB,r4,wT] at h5;exact h5
structure MT (w0:ck) (x:aC):Prop where
  q:MQ RB x
  p:wO x
  a:AV w0 x.ev x.now (jI x)
theorem MT.die {w0:ck} {k:Nat} {x:aC} {t:Nat} (hI:MI k x) (h:MT w0 x) (ht:t<x.ts.length) (h5:cY x t≠5):MT w0 (kf x t):=by
  have q:=RH hI h.q ht h5 h.a;exact⟨q.1,PI.die h.p t,q.2⟩
theorem MT.o1 {w0:ck} {k:Nat} {x:aC} {t:Nat} (hI:MI k x) (h:MT w0 x) (ht:t<x.ts.length):MT w0 (o1 x t):=by
  have q:=TG hI h.q ht h.a;exact⟨q.1,PI.o1 h.p t,q.2⟩
theorem Wp {x:aC} {t:Nat} (ht:t<x.ts.length) {y:iN} (h1:y.st=(gT x t).st) (h2:y.co=(gT x t).co) (h3:y.lk=(gT x t).lk):QX (jI x) (jI (dk x t y)):=
  ⟨(bt ..).symm,rfl,rfl,fun _ _=>rfl,fun j _=>((fK ht y j).trans (by rw [h1];exact aR _ _ _)).symm,fun j _ _=>((ju ht y j).trans (by rw [h3];exact aR _ _ _)).symm,fun j _=>((jn ht y j).trans (by rw [h2];exact aR _ _ _)).symm,fun _ _ _=>Iff.rfl⟩
theorem TI {L:aY} {t p:Int} (h:cD L t p≠0):c6 L t p=cD L t p:=if_pos h
theorem MV {L:aY} {t p:Int} (h:cD L t p=0):c6 L t p=if gg L p=true then 0 else 8:=if_neg (by rw [h];decide)
theorem OE {L:aY} {t p:Int} (h:cD L t p=0):js L t p=if gg L p=true then 4 else if 8≤L.wt.length then 3 else 0:=if_neg (by rw [h];decide)
theorem MT.err {w0:ck} {x:aC} (h:MT w0 x) {t:Nat} (ht:t<x.ts.length) (h2:cY x t=2) {l n:Int} (hl:(0≤l∧l<(x.lk.length:Int))∨(l= -1∧n=3)) (hn:n=3∨n=7∨n=8∨n=9):MT w0 (ba x 8 t l n):=
  ⟨h.q.kc ..,h.p,h.a.err (t:=t) ht h2 hl hn⟩
theorem MT.core {w0:ck} {k:Nat} {x:aC} (hI:MI k x) (h:MT w0 x) {t c:Nat} (hc:c<x.cs.length) (qG:(qg x.cs c).cur=(t:Int)):ek x t=(c:Int):=by
  have hk:=(hI.ci.wf.wf c hc).ix (show 0≤(qg x.cs c).cur by omega);have:=(h.q.q.has c hc _ hk).1;rw [qG] at this;exact this
section
variable {w0:ck} {k:Nat} {x:aC} (hI:MI k x) (h:MT w0 x) {t:Nat} (ht:t<x.ts.length)
include hI h ht
theorem MT.up {y:iN} (h1:y.st=(gT x t).st) (h2:y.co=(gT x t).co) (h3:y.lk=(gT x t).lk) (h4:(y.gr,y.id)=((gT x t).gr,(gT x t).id)):MT w0 (dk x t y):=
  ⟨h.q.up hI ht h1 h2 h3,PI.set h.p t y h4,h.a.eqv (Wp ht h1 h2 h3)⟩
theorem MT.inc:MT w0 (bJ x t):=MT.up hI h ht rfl rfl rfl rfl
theorem MT.ZC (h2:cY x t=2) {o:db} (ho:OL x.s o) (hp:OpQ x.s o) (hk:2≤o.k∧o.k≤5):MT w0 (mX x t o).1:=by
  have hlr:=ho.l ⟨hk.1,by omega⟩;obtain ⟨l,eO⟩:∃l:Nat,o.a=(l:Nat):=⟨o.a.toNat,(Int.toNat_of_nonneg hlr.1).symm⟩
  have hl:l<x.lk.length:=by rw [hI.ll];omega
  have hL:=hI.li l hl;have BR:lz x.ts.length (t:Int):=⟨by omega,by omega⟩
  have UI:=h.q.Uo (t:=t) (by rw [h2];decide)
  have Cr:bY (gL x l) t=false:=by
    cases c:bY (gL x l) t with
    |false=>rfl
    |true=>
      obtain ⟨y,hy,e⟩:=List.any_eq_true.1 c;exact absurd (by rw [of_decide_eq_true e];rfl) (UI l hl y hy)
  have U2:=h.p.gr t ht
  have YP:oT (gL x l).ld (tq x t l o)=true:=by
    unfold tq yG oT
    cases hs:(gL x l).sh with
    |true=>
      have h8:=hL.w.l2 hs;rw [if_pos rfl,h8];split<;>rfl
    |false=>
      have A1:=h.p.ln l hl hs;have eX:=h.p.sh l hl
      have aa9:¬o.k=3:=fun e=>by
        have:=hp.r e;rw [eO,Int.toNat_natCast,←eX] at this;have q2:(gL x l).sh=true:=this;rw [hs] at q2;cases q2
      have hg:oT (gL x l).ld (gT x t).gr=true:=by
        unfold oT
        rw [decide_eq_true U2.1,decide_eq_true (show (gT x t).gr<((gL x l).ld.l.length:Int) by have h1:(gT x t).gr<(x.s.gs.length:Int):=U2.2;have h3:x.s.gs.length≤(gL x l).ld.l.length:=A1;omega)];rfl
      rw [if_neg (by decide),if_neg (fun q=>by
        rcases q with q|q
        · exact aa9 (of_decide_eq_true q)
        · have Y2:=hg;unfold oT at Y2;rw [Y2] at q;cases q)]
      unfold oT at hg;exact hg
  have MA:cD (gL x l) t (tq x t l o)=if bd (gL x l) t=true then 9 else 0:=by
    unfold cD;rw [if_neg (by rintro (q|q);rw [YP] at q;cases q;omega),Cr];rfl
  by_cases he:c6 (gL x l) t (tq x t l o)=0
  · rw [KB eO he]
    have Gy:cD (gL x l) t (tq x t l o)=0:=by
      refine Classical.byContradiction fun n=>?_
      unfold c6 at he;rw [if_pos n] at he;exact n he
    have xa:bd (gL x l) t=false:=(nR Gy).2.2.1
    generalize hP:tq x t l o=p at*
    have hM:=hL.take t p BR;have hf:=eK (gL x l) p
    have e1:(cu (gL x l) t p).ho=(gL x l).ho++ [⟨t,p,(gL x l).di⟩] :=by
      unfold cu;rw [if_neg (by simpa using he)]
      show (bT (gL x l) p).ho++ [⟨t,p,(bT (gL x l) p).di⟩] =_
      rw [hf.2.1,hf.2.2.2.2.2]
    have e2:(cu (gL x l) t p).wt=(gL x l).wt:=by
      unfold cu;rw [if_neg (by simpa using he)];exact hf.2.2.1
    have e3:=Nw (gL x l) t p;have vc:gL (bh x l (cu (gL x l) t p)) l=cu (gL x l) t p:=(gV hl _ l).trans (if_pos rfl);rw [vc];have Rm:(⟨t,p,(gL x l).di⟩:Hd)∈(cu (gL x l) t p).ho:=by rw [e1];simp
    have hH:dD (cu (gL x l) t p) t=nO (gL x l).sh ⟨t,p,(gL x l).di⟩:=by rw [←e3.1];exact Ig (g:=⟨t,p,(gL x l).di⟩) hM.w.hd Rm
    obtain ⟨k1,k2⟩:=QB hM.w.topg e1;rw [e3.1] at k2;have hA:=h.a.aek (t:=t) (l:=l) (g:=⟨t,p,(gL x l).di⟩) ht hl rfl k1 k2 h2;have ZI:=hA.eqv (yh hl (M:=cu (gL x l) t p) e3.1 (told:=(gL x l).ho++ [⟨t,p,(gL x l).di⟩]) (fun g=>Iff.rfl))
    have hA3:=ZI.eqv (u:=jI (bh x l (cu (gL x l) t p))) ⟨rfl,rfl,rfl,fun _ _=>rfl,fun _ _=>rfl,fun _ _ _=>rfl,fun _ _=>rfl,fun j _ g=>by
      show g∈aP (fun i=>(gL (bh x l (cu (gL x l) t p)) i).ho) l ((gL x l).ho++ [⟨t,p,(gL x l).di⟩]) j↔g∈(gL (bh x l (cu (gL x l) t p)) j).ho
      unfold aP;split
      · next q=>rw [←q,vc,e1]
      · exact Iff.rfl⟩
    have hQ:MQ RB (bh x l (cu (gL x l) t p)):=by
      refine ⟨h.q.q,h.q.l.put hl (fun y hy=>by rw [e2] at hy;exact hy) (fun _ q=>q) (fun y hy=> .inl ⟨y,by rw [e2];exact hy,rfl⟩) (fun g hg=>?_)⟩;rw [e1] at hg;rcases List.mem_append.1 hg with q|q
      · exact h.q.l.h5 l hl g q
      · rw [List.mem_singleton.1 q];show cY x (t:Int).toNat≠5;rw [Int.toNat_natCast,h2];decide
    have oE:=((hI.mono (Nat.le_succ k)).bh (l:=l) hM).kc 4 t l (nO (gL x l).sh ⟨t,p,(gL x l).di⟩);rw [hH];have hT:MT w0 (ba (bh x l (cu (gL x l) t p)) 4 t l (nO (gL x l).sh ⟨t,p,(gL x l).di⟩)):=⟨hQ.kc ..,PI.pt h.p l e3,hA3⟩
    exact MT.inc (x:=AG _ l) (oE.Y5 l) ⟨hT.q.gr _,hT.p,hT.a⟩ ht
  · have wx:(bd (gL x l) t=true∧c6 (gL x l) t (tq x t l o)=9)∨(bd (gL x l) t=false∧gg (gL x l) (tq x t l o)=false∧c6 (gL x l) t (tq x t l o)=8):=by
      cases hh:bd (gL x l) t with
      |true=>
        rw [hh,if_pos rfl] at MA;exact .inl ⟨rfl,(TI (by rw [MA];decide)).trans MA⟩
      |false=>
        rw [hh,if_neg (by decide)] at MA;have e:=MV MA;cases hf:gg (gL x l) (tq x t l o) with
        |true=>rw [hf,if_pos rfl] at e;exact absurd e he
        |false=>rw [hf,if_neg (by decide)] at e;exact .inr ⟨rfl,rfl,e⟩
    have hW:c6 (gL x l) t (tq x t l o)=8→bd (gL x l) t=false∧gg (gL x l) (tq x t l o)=false:=fun q=>by
      rcases wx with ⟨_,r⟩|⟨r1,r2,_⟩
      · rw [q] at r;cases r
      · exact⟨r1,r2⟩
    have hE:c6 (gL x l) t (tq x t l o)=9∨c6 (gL x l) t (tq x t l o)=8:=by
      rcases wx with ⟨_,r⟩|⟨_,_,r⟩
      · exact .inl r
      · exact .inr r
    by_cases MN:mN x t o≠0
    · rw [KM eO he MN]
      refine MT.inc (hI.kc ..) (MT.err h ht h2 (.inl ⟨Int.natCast_nonneg l,by omega⟩) ?_) ht
      by_cases h8:c6 (gL x l) t (tq x t l o)=8∧o.k≠4
      · obtain ⟨w1,w2⟩:=hW h8.1
        rw [w1,if_neg (by decide)] at MA;have e:=OE MA;rw [w2,if_neg (by decide)] at e;rw [tF eO h8.1 h8.2] at MN ⊢
        by_cases q:aN (qk x.g (rI (gL x l))) t=true
        · rw [if_pos q];exact .inr (.inr (.inr rfl))
        · rw [if_neg q,e] at MN ⊢
          by_cases r:8≤(gL x l).wt.length
          · rw [if_pos r];exact .inl rfl
          · rw [if_neg r] at MN;exact absurd rfl MN
      · rw [zn eO h8]
        rcases hE with q|q
        · exact .inr (.inr (.inr q))
        · exact .inr (.inr (.inl q))
    · have wV:mN x t o=0:=by simpa using MN
      have h8:c6 (gL x l) t (tq x t l o)=8∧o.k≠4:=by
        refine Classical.byContradiction fun n=>?_;rw [zn eO n] at wV;exact he wV
      obtain ⟨w1,w2⟩:=hW h8.1
      have hwE:js (gL x l) t (tq x t l o)=0:=by
        rw [tF eO h8.1 h8.2] at wV
        split at wV
        · cases wV
        · exact wV
      rw [HB eO he MN,ym eO]
      generalize hP:tq x t l o=p at*
      have e1:(dv (gL x l) t p).ho=(gL x l).ho:=by unfold dv;rw [if_neg (by simpa using hwE)];rfl
      have e2:(dv (gL x l) t p).wt=(gL x l).wt++ [⟨t,p,0#64⟩] :=by unfold dv;rw [if_neg (by simpa using hwE)];rfl
      have e3:=Pg (gL x l) t p
      have eb:(gL x l).ho≠ [] :=fun q=>by
        unfold gg at w2;rw [YP,q] at w2;cases w2
      have hY:kv x t l o=eC (ba (bh x l (dv (gL x l) t p)) 6 t l 0) t:=by unfold kv;rw [hP]
      have hA:=h.a.block (t:=t) (l:=l) ht h2 hl eb (qj w1);have oE:=hI.ZC ht (o:=o) ⟨hlr.1,by omega⟩;rw [HB eO (by rw [hP];exact he) MN,ym eO] at oE;have Zv:(kv x t l o).ts=x.ts:=by rw [hY];rfl
      have Ak:t<(kv x t l o).ts.length:=by rw [Zv];exact ht
      have Ri:∀j,gT (kv x t l o) j=gT x j:=fun j=>by unfold gT;rw [Zv]
      have Nj:(kv x t l o).lk=(bh x l (dv (gL x l) t p)).lk:=by rw [hY];rfl
      have aen:(kv x t l o).cs=gD x.cs t:=by rw [hY];rfl
      have Tm:(kv x t l o).ev=x.ev++ [⟨x.now,6,t,l,0⟩] :=by rw [hY];rfl
      have VR:(kv x t l o).now=x.now:=by rw [hY];rfl
      have Nf:(kv x t l o).s=x.s:=by rw [hY];rfl
      have vc:∀j,gL (kv x t l o) j=if l=j then dv (gL x l) t p else gL x j:=fun j=>by
        unfold gL;rw [Nj];exact gV hl _ j
      generalize aI:Co x.g t (rI (gL (kv x t l o) l))=g' at*
      have er:∀j,cY {dk (kv x t l o) t (wm (gT x t) o x.now) with g:=g'} j=aP (cY x) t 4 j:=fun j=>by
        show cY (dk (kv x t l o) t (wm (gT x t) o x.now)) j=_
        rw [fK Ak];unfold aP;split;rfl;show (gT _ j).st=_;rw [Ri]
      have rY:∀j,ek {dk (kv x t l o) t (wm (gT x t) o x.now) with g:=g'} j=ek x j:=fun j=>by
        show ek (dk (kv x t l o) t (wm (gT x t) o x.now)) j=_
        rw [jn Ak];unfold aP;split
        · next q=>rw [←q];rfl
        · show (gT _ j).co=_;rw [Ri]
      have tA:∀j,eM {dk (kv x t l o) t (wm (gT x t) o x.now) with g:=g'} j=aP (eM x) t l j:=fun j=>by
        show eM (dk (kv x t l o) t (wm (gT x t) o x.now)) j=_
        rw [ju Ak];unfold aP;split;exact eO;show (gT _ j).lk=_;rw [Ri]
      have hlen:({dk (kv x t l o) t (wm (gT x t) o x.now) with g:=g'} :aC).ts.length=x.ts.length:=by
        show (dk (kv x t l o) t (wm (gT x t) o x.now)).ts.length=_;rw [bt,Zv]
      refine ⟨⟨?_,?_⟩,?_,?_⟩
      · rw [hlen]
        have hc:=oE.ci;rw [hlen] at hc;rw [show ({dk (kv x t l o) t (wm (gT x t) o x.now) with g:=g'} :aC).cs=gD x.cs t from aen] at hc ⊢;exact(h.q.q.rem hI.ci (t:=t) (s:=4) (by decide)).ext hc (fun j _=>er j) (fun j _=>rY j)
      · rw [hlen]
        have hi:=oE.N3;rw [hlen] at hi;rw [show ({dk (kv x t l o) t (wm (gT x t) o x.now) with g:=g'} :aC).lk=x.lk.set l (dv (gL x l) t p) from Nj] at hi ⊢;refine LC.ext (st:=aP (cY x) t 4) (lk:=aP (eM x) t l) ?_ hi (fun j _=>er j) (fun j _=>tA j);refine ⟨fun j hj y hy=>?_,fun j hj h4 _=>?_,fun j hj g hg=>?_⟩
        · rw [List.length_set] at hj;rw [bK hl] at hy
          have n3:∀i,i<x.lk.length→∀y∈(qg x.lk i).wt,aP (cY x) t 4 y.who.toNat=4∧aP (eM x) t l y.who.toNat=(i:Int):=fun i hi y hy=>by
            have:=UI i hi y hy;rw [bf _ _ (Ne.symm this),bf _ _ (Ne.symm this)];exact h.q.l.wt i hi y hy
          by_cases c:l=j
          · rw [if_pos c,e2] at hy
            rcases List.mem_append.1 hy with q|q
            · rw [←c];exact n3 l hl y q
            · rw [List.mem_singleton.1 q];show aP (cY x) t 4 (t:Int).toNat=4∧aP (eM x) t l (t:Int).toNat=_
              rw [Int.toNat_natCast,bG,bG,c];exact⟨rfl,rfl⟩
          · rw [if_neg c] at hy;exact n3 j hj y hy
        · by_cases c:t=j
          · subst c
            refine ⟨⟨t,p,0#64⟩,?_,rfl⟩;rw [bG,Int.toNat_natCast,bK hl,if_pos rfl,e2];simp
          · rw [bf _ _ c] at h4 ⊢
            obtain ⟨y,hy,q⟩:=h.q.l.s4 j hj h4 (fun q=>q);refine ⟨y,?_,q⟩;rw [bK hl];split
            · next r=>rw [e2,r];exact List.mem_append_left _ hy
            · exact hy
        · rw [List.length_set] at hj;rw [bK hl] at hg
          have:g∈(qg x.lk j).ho:=by
            split at hg
            · next r=>rw [e1] at hg;rw [←r];exact hg
            · exact hg
          unfold aP;split
          · decide
          · exact h.q.l.h5 j hj g this
      · have q:=PI.set (PI.pt h.p l e3) t (wm (gT x t) o x.now) rfl
        show PI ((kv x t l o).ts.set t _) (kv x t l o).lk (kv x t l o).s.gs.length (kv x t l o).s.ls
        rw [Zv,Nj,Nf];exact q
      · have q:=hA.eqv (u:=jI {dk (kv x t l o) t (wm (gT x t) o x.now) with g:=g'}) ⟨hlen.symm,by show x.lk.length=(kv x t l o).lk.length;rw [Nj];exact(cA ..).symm,by show x.s.cr=(kv x t l o).s.cr;rw [Nf],fun j _=>?_,fun j _=>(er j).symm,fun j _ _=>(tA j).symm,fun j _=>?_,fun j _ g=>?_⟩
        · rw [show ({dk (kv x t l o) t (wm (gT x t) o x.now) with g:=g'} :aC).ev=_ from Tm,show ({dk (kv x t l o) t (wm (gT x t) o x.now) with g:=g'} :aC).now=_ from VR];exact q
        · show (gL x j).sh=(gL (kv x t l o) j).sh
          rw [vc];split
          · next r=>rw [e3.1,r]
          · rfl
        · exact(aR (ek x) t j).trans (rY j).symm
        · show g∈(gL x j).ho↔g∈(gL (kv x t l o) j).ho
          rw [vc];split
          · next r=>rw [e1,r]
          · exact Iff.rfl
end
theorem IU {cs:List Qm} {c:Nat} (hc:c<cs.length) {q:Qm} (he:q.l.map (·.id)=(qg cs c).l.map (·.id)) (hu:q.cur=(qg cs c).cur) {n:Nat} {st co:Nat→Int} (h:QC n cs st co):QC n (cs.set c q) st co:=by
  refine h.same (List.length_set ..) (fun d hd a ha=>jA hc he ha) (fun d hd=>?_);rw [bK hc];split
  · next r=>rw [hu,r]
  · rfl
theorem NM (cs:List Qm) (a w:Int) (c:Nat):(qg (j5 cs a w) c).cur=(qg cs c).cur:=by
  unfold j5;split
  · next ha=>
    rw [show lG (qg cs (bO cs a)) a w=gU (qg cs (bO cs a)) a w from if_pos (c8 ha),bK ha]
    split
    · next r=>rw [←r];rfl
    · rfl
  · rfl
section
variable {w0:ck} {k:Nat} {x:aC} (hI:MI k x) (h:MT w0 x)
include h
theorem MT.cs {cs:List Qm} (hl:cs.length=x.cs.length) (hk:∀c,c<x.cs.length→∀a,cd (qg cs c) a→cd (qg x.cs c) a) (hq:∀c,c<x.cs.length→(qg cs c).cur=(qg x.cs c).cur):MT w0 {x with cs:=cs} :=
  ⟨⟨h.q.q.same hl hk hq,h.q.l⟩,h.p,h.a⟩
include hI
theorem MT.rv (l:Nat) {M:aY} {t:Nat} (hl:l<x.lk.length) (ht:t<x.ts.length) (hM:LI x.ts.length k M) (hh:bd (gL x l) t=true) {to:List Int} (hT:∃cC,pe (gL x l) M ((gL x l).ho.eraseIdx (ff (gL x l).ho t)) to cC) (h2:cY x t=2):MT w0 (dz (bh (ba x 5 t l 0) l M) l to):=by
  obtain ⟨cC,hT⟩:=hT;have q:=Fc hI h.q hl hM ht hh h.a hT (kd:=5) (.inl ⟨rfl,h2⟩);exact⟨q.1,PI.rv (PI.pt (x:=ba x 5 t l 0) h.p l ⟨hT.sh,hT.ln⟩),q.2⟩
theorem MT.ug (fy:List Int) {i:Nat} (hi:i<x.ts.length):MT w0 (ug fy x i):=by
  unfold Go.Eng.ug;split
  · exact h
  · exact(MT.up hI h hi (y:= {gT x i with ef:=fy.getD i 0}) rfl rfl rfl rfl).cs (Fo ..) (fun c _ a ha=>AH ha) (fun c _=>NM ..)
end
theorem MT.tK {w0:ck} {k:Nat} {x:aC} (hI:MI k x) (h:MT w0 x) (fy:List Int):∀{n:Nat},n≤x.ts.length→MT w0 (tK fy x n)
  |0,_=>h
  |n+1,hn=>by
    rw [jo];exact(h.tK hI fy (n:=n) om).ug (hI.tK fy (n:=n) om) fy (by rw [(nZ fy x n).1];omega)
theorem MT.Mo {w0:ck} {k:Nat} {x:aC} (hI:MI k x) (h:MT w0 x):MT w0 (jJ x):=by
  have h1:=h.tK hI (zk (r9 x) x.g) (n:=x.ts.length) (Nat.le_refl _);exact h1.cs (md _) (fun c hc a ha=>AD hc ha) (fun c hc=>by rw [vR hc];exact(eg _).2.1)
/-! an op -/
theorem MI.zU {k:Nat} {x:aC} (h:MI k x) {t:Nat} (ht:t<x.ts.length) {a:Int} (ha:1≤a∧a≤64):MI (k+1) (zU x t a):=by
  have q:=h.tb t ht;have hl:=q.lf;have hq:wy x.s k (FK (gT x t) a):=⟨q.pr,q.pc,by show 0≤Db (gT x t) a-1∧Db (gT x t) a-1≤64;unfold Db;split<;>omega,q.ti,q.l4,q.un⟩
  have h':=(h.up ht hq).mono (Nat.le_succ k)
  exact {h' with
    ll:=by show (x.lk.map _).length=_;rw [List.length_map];exact h.ll
    li:=fun l hl=>by have:=LI.Vl h.li t l hl;rw [show (Go.Eng.zU x t a).ts.length=x.ts.length from bt ..];exact this}
theorem Le (L:aY) (t:Int):(iR L t).ho=L.ho∧(iR L t).wt=L.wt:=by unfold iR;split;exact⟨rfl,rfl⟩;exact⟨rfl,rfl⟩
theorem u1 (L:aY) (g w:Int):(iz L g w).ho=L.ho∧(iz L g w).wt=L.wt:=by unfold iz;split;exact⟨rfl,rfl⟩;exact⟨rfl,rfl⟩
theorem MT.Z1 {w0:ck} {x:aC} (h:MT w0 x) (f:aY→aY) (hf:∀L,(f L).ho=L.ho∧(f L).wt=L.wt) (hd:∀L,(f L).sh=L.sh∧(f L).ld.l.length=L.ld.l.length):MT w0 {x with lk:=x.lk.map f} :=by
  have hg:∀l,l<x.lk.length→qg (x.lk.map f) l=f (qg x.lk l):=fun l hl=>by
    unfold qg;rw [List.getD_eq_getElem?_getD,List.getElem?_map,List.getElem?_eq_getElem hl,List.getD_eq_getElem?_getD,List.getElem?_eq_getElem hl];rfl
  have Kl:∀t,t<x.ts.length→cY x t=4→∃y∈(qg (x.lk.map f) (eM x t).toNat).wt,y.who=(t:Int):=fun t ht h4=>by
    obtain ⟨y,hy,e⟩:=h.q.l.s4 t ht h4 (fun q=>q)
    by_cases c:(eM x t).toNat<x.lk.length
    · exact⟨y,by rw [hg _ c,(hf _).2];exact hy,e⟩
    · unfold qg at hy;rw [List.getD_eq_getElem?_getD,List.getElem?_eq_none om] at hy;cases hy
  refine ⟨⟨h.q.q,⟨fun l hl y hy=>?_,fun t ht h4 _=>Kl t ht h4,fun l hl g aI=>?_⟩⟩,PI.map h.p f hd,?_⟩
  · rw [show ({x with lk:=x.lk.map f} :aC).lk.length=x.lk.length from List.length_map ..] at hl
    rw [show qg ({x with lk:=x.lk.map f} :aC).lk l=f (qg x.lk l) from hg l hl,(hf _).2] at hy;exact h.q.l.wt l hl y hy
  · rw [show ({x with lk:=x.lk.map f} :aC).lk.length=x.lk.length from List.length_map ..] at hl
    rw [show qg ({x with lk:=x.lk.map f} :aC).lk l=f (qg x.lk l) from hg l hl,(hf _).1] at aI;exact h.q.l.h5 l hl g aI
  · refine h.a.eqv ⟨rfl,(List.length_map ..).symm,rfl,fun l hl=>?_,fun _ _=>rfl,fun _ _ _=>rfl,fun _ _=>rfl,fun l hl g=>?_⟩
    · show (qg x.lk l).sh=(qg (x.lk.map f) l).sh;rw [hg l hl,(hd _).1]
    · show g∈(qg x.lk l).ho↔g∈(qg (x.lk.map f) l).ho;rw [hg l hl,(hf _).1]
theorem MT.out {w0:ck} {k k':Nat} {x:aC} (hI:MI k x) (h:MT w0 x) {t:Nat} (ht:t<x.ts.length) (h2:cY x t=2) {ev:List fu} {y:iN} {z:aC} (hz:z=dk {(eC x t) with ev:=ev} t y) (qS:MI k' z) (hy:y.st≠2∧y.st≠4∧y.st≠5) (hc:y.co=(gT x t).co) (hg:(y.gr,y.id)=((gT x t).gr,(gT x t).id)) (hA:AV w0 ev x.now ((jI x).put t y.st (eM x t) (ek x t))):MT w0 z:=by
  have hlen:z.ts.length=x.ts.length:=by rw [hz];exact bt ..
  have er:∀j,cY z j=aP (cY x) t y.st j:=fun j=>by rw [hz];exact fK (x:= {(eC x t) with ev:=ev}) ht y j
  have rY:∀j,ek z j=ek x j:=fun j=>by rw [hz,jn (x:= {(eC x t) with ev:=ev}) ht y j,hc];exact aR (ek x) t j
  have tA:∀j,eM z j=aP (eM x) t y.lk j:=fun j=>by rw [hz];exact ju (x:= {(eC x t) with ev:=ev}) ht y j
  have e1:z.cs=gD x.cs t:=by rw [hz];rfl
  have e2:z.lk=x.lk:=by rw [hz];rfl
  have e3:z.ev=ev:=by rw [hz];rfl
  have e4:z.now=x.now:=by rw [hz];rfl
  have e5:z.s=x.s:=by rw [hz];rfl
  have K3:=qS.ci;rw [hlen,e1] at K3;have hi:=qS.N3;rw [hlen,e2] at hi;refine ⟨⟨?_,?_⟩,?_,?_⟩
  · rw [hlen,e1];exact(h.q.q.rem hI.ci (t:=t) hy.1).ext K3 (fun j _=>er j) (fun j _=>rY j)
  · rw [hlen,e2]
    exact((h.q.l.PO (t:=t) hy.2.1 (h.q.Uo (by rw [h2];decide)) (fun q=>absurd q hy.2.2) y.lk).ext hi (fun j _=>er j) (fun j _=>tA j)).mono (fun j _ _ q=>q.1)
  · show PI z.ts z.lk z.s.gs.length z.s.ls
    rw [e2,e5,hz];exact PI.set h.p t y hg
  · rw [e3,e4]
    refine hA.eqv ⟨hlen.symm,by show x.lk.length=z.lk.length;rw [e2],by show x.s.cr=z.s.cr;rw [e5],fun j _=>by show (gL x j).sh=(gL z j).sh;unfold gL;rw [e2],fun j _=>(er j).symm,fun j _ q4=>?_,fun j _=>(aR (ek x) t j).trans (rY j).symm,fun j _ g=>by show g∈(gL x j).ho↔g∈(gL z j).ho;unfold gL;rw [e2]⟩;have q4:aP (cY x) t y.st j=4:=q4
    show aP (eM x) t (eM x t) j=eM z j
    rw [tA]
    by_cases c:t=j
    · rw [←c,bG] at q4;exact absurd q4 hy.2.1
    · rw [bf _ _ c,bf _ _ c]
theorem MT.bak {w0:ck} {k:Nat} {x:aC} (hI:MI k x) (h:MT w0 x) {t c:Nat} (ht:t<x.ts.length) (hc:c<x.cs.length) (qG:(qg x.cs c).cur=(t:Int)) (h2:cY x t=2) {kd:Int} (Sd:kd=3∨kd=10) {y:iN} (hy:y.st=1) (adV:y.co=(gT x t).co) (hg:(y.gr,y.id)=((gT x t).gr,(gT x t).id)) (hu:y.un=(gT x t).un) (hb:wy x.s (k+1) y):
    MT w0 {dk (iy x c (fh (qg x.cs c))) t y with ev:=x.ev++ [⟨x.now,kd,t,-1,c⟩] } :=by
  have DC:=MT.core hI h hc qG;have hA:=h.a.leave (t:=t) ht kd Sd h2;rw [show (jI x).co t=(c:Int) from DC] at hA
  generalize hz:({dk (iy x c (fh (qg x.cs c))) t y with ev:=x.ev++ [⟨x.now,kd,t,-1,c⟩] } :aC)=z
  have hlen:z.ts.length=x.ts.length:=by rw [←hz];exact bt ..
  have er:∀j,cY z j=aP (cY x) t 1 j:=fun j=>by rw [←hy,←hz];exact fK (x:=iy x c (fh (qg x.cs c))) ht y j
  have rY:∀j,ek z j=ek x j:=fun j=>by rw [←hz];exact(jn (x:=iy x c (fh (qg x.cs c))) ht y j).trans (by rw [adV];exact aR (ek x) t j)
  have tA:∀j,eM z j=aP (eM x) t y.lk j:=fun j=>by rw [←hz];exact ju (x:=iy x c (fh (qg x.cs c))) ht y j
  have e1:z.cs=x.cs.set c (fh (qg x.cs c)):=by rw [←hz];rfl
  have e2:z.lk=x.lk:=by rw [←hz];rfl
  have e3:z.ev=x.ev++ [⟨x.now,kd,t,-1,c⟩] :=by rw [←hz]
  have e4:z.now=x.now:=by rw [←hz];rfl
  have e5:z.s=x.s:=by rw [←hz];rfl
  refine ⟨⟨?_,?_⟩,?_,?_⟩
  · rw [hlen,e1]
    have q:=h.q.q.back hc hI.ci om;rw [show (qg x.cs c).cur.toNat=t by omega] at q;exact q.ext (hI.ci.back hc) (fun j _=>er j) (fun j _=>rY j)
  · rw [hlen,e2]
    exact((h.q.l.PO (t:=t) (s:=1) (by decide) (h.q.Uo (by rw [h2];decide)) (fun q=>by cases q) y.lk).ext hI.N3 (fun j _=>er j) (fun j _=>tA j)).mono (fun j _ _ q=>q.1)
  · show PI z.ts z.lk z.s.gs.length z.s.ls
    rw [e2,e5,←hz];exact PI.set h.p t y hg
  · rw [e3,e4]
    refine hA.eqv ⟨hlen.symm,by show x.lk.length=z.lk.length;rw [e2],by show x.s.cr=z.s.cr;rw [e5],fun j _=>by show (gL x j).sh=(gL z j).sh;unfold gL;rw [e2],fun j _=>(er j).symm,fun j _ q4=>?_,fun j _=>?_,fun j _ g=>by show g∈(gL x j).ho↔g∈(gL z j).ho;unfold gL;rw [e2]⟩
    · have q4:aP (cY x) t 1 j=4:=q4
      show aP (eM x) t (eM x t) j=eM z j
      rw [tA]
      by_cases q:t=j
      · rw [←q,bG] at q4;cases q4
      · rw [bf _ _ q,bf _ _ q]
    · show aP (ek x) t (c:Int) j=ek z j
      rw [rY,←DC];exact aR (ek x) t j
section
variable {w0:ck} {k:Nat} {x:aC} (hI:MI k x) (h:MT w0 x)
include hI h
theorem MT.Ms {pr gr we co:Int} (hp:0≤pr∧pr<(x.s.ps.length:Int)) (hg:0≤gr∧gr<(x.s.gs.length:Int)) (hc:0≤co∧co<x.s.cr) (zX:x.ts.length<64):MT w0 (oX x pr gr we co):=by
  have qS:=hI.Ms pr gr we co hp zX
  have Ri:∀j,gT (oX x pr gr we co) j=if x.ts.length=j then Ej x.ts.length pr gr we co else gT x j:=fun j=>by
    show (x.ts++ [_]).getD j default=_
    rw [List.getD_eq_getElem?_getD];rcases Nat.lt_trichotomy j x.ts.length with q|q|q
    · rw [List.getElem?_append_left q,if_neg om,←List.getD_eq_getElem?_getD]
    · rw [List.getElem?_append_right om,if_pos q.symm,q,Nat.sub_self];rfl
    · rw [if_neg om,List.getElem?_eq_none (by rw [List.length_append,List.length_singleton];omega)]
      unfold gT;rw [List.getD_eq_getElem?_getD,List.getElem?_eq_none om]
  have er:∀j,cY (oX x pr gr we co) j=aP (cY x) x.ts.length 1 j:=fun j=>by show (gT _ j).st=_;rw [Ri];unfold aP;split<;>rfl
  have rY:∀j,ek (oX x pr gr we co) j=aP (ek x) x.ts.length co j:=fun j=>by show (gT _ j).co=_;rw [Ri];unfold aP;split<;>rfl
  have tA:∀j,j<x.ts.length→eM (oX x pr gr we co) j=eM x j:=fun j hj=>by show (gT _ j).lk=_;rw [Ri,if_neg om]
  have hlen:(oX x pr gr we co).ts.length=x.ts.length+1:=by show (x.ts++ [_]).length=_;rw [List.length_append];rfl
  have K3:=qS.ci;rw [hlen] at K3;have jC:∀l,l<x.lk.length→gW (lz x.ts.length) (qg x.lk l):=hI.N3;refine ⟨⟨?_,?_⟩,PI.snoc h.p _ hg rfl,?_⟩
  · rw [hlen];exact(h.q.q.new hI.ci (co0:=co) 0#64 we).ext K3 (fun j _=>er j) (fun j _=>rY j)
  · rw [hlen]
    refine ⟨fun l hl y hy=>?_,fun t ht h4 _=>?_,fun l hl g hg=>?_⟩
    · have:=(jC l hl).wt y hy;unfold lz at this
      rw [er,tA _ om,bf _ _ om];exact h.q.l.wt l hl y hy
    · rw [er] at h4
      by_cases e:x.ts.length=t
      · rw [←e,bG] at h4;cases h4
      · rw [bf _ _ e] at h4;rw [tA t om];exact h.q.l.s4 t om h4 (fun q=>q)
    · have:=(jC l hl).ho g hg;unfold lz at this
      rw [er,bf _ _ om];exact h.q.l.h5 l hl g hg
  · have hA:=h.a.spawn (co:=co) (by exact zX) hc
    refine hA.eqv ⟨hlen.symm,rfl,rfl,fun _ _=>rfl,fun j _=>(er j).symm,fun j hj q4=>?_,fun j _=>(rY j).symm,fun _ _ _=>Iff.rfl⟩;have q4:aP (cY x) x.ts.length 1 j=4:=q4;have hj:j<x.ts.length+1:=hj
    by_cases e:x.ts.length=j
    · rw [←e,bG] at q4;cases q4
    · exact(tA j om).symm
theorem MT.eB {t c:Nat} (ht:t<x.ts.length) (hc:c<x.cs.length) (qG:(qg x.cs c).cur=(t:Int)) (h2:cY x t=2) {o:db} (ho:OL x.s o) (hp:OpQ x.s o):MT w0 (eB x t c o).1:=by
  have DC:=MT.core hI h hc qG;have lP:bO x.cs t=c:=hI.ci.wf.at hc (by have q:=(hI.ci.wf.wf c hc).ix (show 0≤(qg x.cs c).cur by omega);rw [qG] at q;exact q);have Bz:bO x.cs t<x.cs.length:=by rw [lP];exact hc
  have Zt:=hI.eB (t:=t) (c:=c) ht hc Bz ho;have tI:=hI.ll
  by_cases h1:o.k=1
  · rw [Ww h1]
    have hq:=hI.cmp ht (ho.c h1);have l7:MT w0 (dk x t (FK (gT x t) o.a)):=MT.up hI h ht rfl rfl rfl rfl;have jK:MT w0 (zU x t o.a):=l7.Z1 (fun L=>iR L t) (fun L=>Le L t) (fun L=>TR L t);have hl:t<(zU x t o.a).ts.length:=by rw [show (zU x t o.a).ts.length=x.ts.length from bt ..];exact ht
    show MT w0 (pA x t o.a)
    unfold pA;split
    · exact MT.inc (hI.zU ht (ho.c h1)) jK hl
    · exact jK
  by_cases uk:2≤o.k∧o.k≤5
  · rw [AN uk];exact MT.ZC hI h ht h2 ho hp uk
  by_cases h6:o.k=6
  · have hl:=ho.l om
    obtain ⟨l,eO⟩:∃l:Nat,o.a=(l:Nat):=⟨o.a.toNat,(Int.toNat_of_nonneg hl.1).symm⟩
    have gZ:l<x.lk.length:=by omega
    have hL:=hI.li l gZ;have e1:o.a.toNat=l:=by omega
    by_cases he:mM (gL x o.a.toNat) t≠0
    · rw [JX h6 he]
      have e7:mM (gL x o.a.toNat) t=7:=by
        unfold mM at he ⊢;split
        · next q=>rw [if_pos q] at he;exact absurd rfl he
        · rfl
      exact MT.inc (hI.kc ..) (MT.err h ht h2 (.inl ⟨hl.1,by omega⟩) (.inr (.inl e7))) ht
    · rw [JK h6 he,e1,eO]
      have hh:bd (gL x l) t=true:=by
        rw [e1] at he;unfold mM at he;cases c:bd (gL x l) t with
        |true=>rfl
        |false=>rw [c] at he;exact absurd (by decide) he
      have hs:=cN l (bh (ba x 5 t l 0) l (ej (gL x l) t)) (dZ (gL x l) t);have p8:=((hI.kc 5 t l 0).bh (l:=l) ((hL.BL t).mono (Nat.le_refl _) (Nat.le_succ k))).rv l (hL.i.dZ t) (Nat.le_trans (nV ..) hL.w.w8);have gk:bh (ba x 5 t l 0) l (ej (gL x l) t)=ba (bh x l (ej (gL x l) t)) 5 t l 0:=rfl;rw [←gk];exact MT.inc p8 (MT.rv hI h l gZ ht (hL.BL t) hh (pe.BL hh) h2) (by rw [hs.1];exact ht)
  by_cases h7:o.k=7
  · rw [UC h7]
    rw [UC h7] at Zt;exact MT.out hI h ht h2 (y:= {gT x t with st:=3,un:=x.now+BitVec.ofInt 64 o.a,pc:=(gT x t).pc+1}) (ev:=x.ev++ [⟨x.now,9,t,-1,o.a⟩]) rfl Zt ⟨show (3:Int)≠2 by decide,show (3:Int)≠4 by decide,show (3:Int)≠5 by decide⟩ rfl rfl (h.a.sleep (t:=t) ht h2 (hp.s h7))
  by_cases h8:o.k=8
  · rw [VA h8]
    have q:=hI.tb t ht;exact MT.bak hI h ht hc qG h2 (kd:=10) (.inr rfl) (y:= {gT x t with st:=1,pc:=(gT x t).pc+1}) rfl rfl rfl rfl ⟨q.pr,by have:=q.pc;show 0≤(gT x t).pc+1∧(gT x t).pc+1≤_;omega,q.lf,by have:=q.ti;show 0≤(gT x t).ti∧(gT x t).ti≤_;omega,fun e=>(by cases e),fun e=>absurd (hI.iq c hc t (by rw [←lP];exact c8 Bz)) e⟩
  by_cases h9:o.k=9
  · rw [Uw h9]
    have h4:=hI.len
    split
    · next e=>
      unfold iK at e;simp only [Bool.and_eq_true,decide_eq_true_eq] at e
      have hg:=h.p.gr t ht;have hce:=hI.ce;exact MT.inc (hI.Ms _ _ _ _ (ho.p h9) e.2) (MT.Ms hI h (ho.p h9) hg ⟨by omega,by omega⟩ e.2) (by show t<(x.ts++ [_]).length;rw [List.length_append];omega)
    · exact MT.inc (hI.kc ..) (MT.err h ht h2 (.inr ⟨rfl,rfl⟩) (.inl rfl)) ht
  by_cases iV:o.k=10
  · rw [Mj iV]
    have hT:=MT.up hI h ht (y:= {gT x t with we:=o.a}) rfl rfl rfl rfl;have q:=hI.tb t ht;have hIu:=hI.up ht (y:= {gT x t with we:=o.a}) ⟨q.pr,q.pc,q.lf,q.ti,q.l4,q.un⟩;have UR:t<(dk x t {gT x t with we:=o.a}).ts.length:=by rw [bt];exact ht
    have h2u:cY (dk x t {gT x t with we:=o.a}) t=2:=by rw [fK ht];exact(bG ..).trans h2
    have hA:=(hT.a.weight (t:=t) UR h2u (hp.w iV)).eqv (u:=jI (dk x t {gT x t with we:=o.a})) ⟨rfl,rfl,rfl,fun _ _=>rfl,fun j _=>?_,fun j _ _=>aR _ _ _,fun j _=>aR _ _ _,fun _ _ _=>Iff.rfl⟩
    · exact MT.inc (hIu.kc 14 t (-1) o.a) ⟨hT.q.kc ..,hT.p,hA⟩ UR
    · show aP (cY (dk x t {gT x t with we:=o.a})) t 2 j=_
      rw [←h2u];exact aR (cY (dk x t {gT x t with we:=o.a})) t j
  · have hk:=ho.k
    rw [Jp om];exact MT.die hI h ht (by rw [h2];decide)
end
def Jk (s:kh):ck:=⟨0#64,[],List.replicate s.ls.length 0#64,List.replicate s.ls.length 0#64,s.ls.map (·.sh),s.cr⟩
theorem Vn {x:aC} {t:Nat} (ht:t<x.ts.length) (j:Nat):cY (kq x t) j=cY x j∧ek (kq x t) j=ek x j∧eM (kq x t) j=eM x j:=by
  unfold kq;split
  · exact⟨(fK ht _ j).trans (aR _ _ _),(jn ht _ j).trans (aR _ _ _),(ju ht _ j).trans (aR _ _ _)⟩
  · exact⟨rfl,rfl,rfl⟩
theorem MT.pcr {w0:ck} {k:Nat} {x:aC} (hI:MI k x) (h:MT w0 x) {t:Nat} (ht:t<x.ts.length):MT w0 (Go.Eng.kq x t):=by
  unfold Go.Eng.kq;split
  · exact MT.up hI h ht rfl rfl rfl rfl
  · exact h
theorem Hw {k:Nat} {x:aC} (h:MI k x) {t c:Nat} (ht:t<x.ts.length) {o:db} (ho:OL x.s o) (hf:(eB x t c o).2=false):cY (eB x t c o).1 t=cY x t∧ek (eB x t c o).1 t=ek x t:=by
  have hk:=ho.k
  have hp:¬(o.k=1∨o.k=7∨o.k=8∨o.k=11):=fun q=>by
    rcases q with e|e|e|e
    · rw [Ww e] at hf;cases hf
    · rw [UC e] at hf;cases hf
    · rw [VA e] at hf;cases hf
    · rw [Jp e] at hf;cases hf
  have inc:∀v:aC,t<v.ts.length→gT v t=gT x t→cY (bJ v t) t=cY x t∧ek (bJ v t) t=ek x t:=fun v hv e=>by
    have q:=FV hv t;exact⟨q.1.trans (by show (gT v t).st=_;rw [e]),q.2.1.trans (by show (gT v t).co=_;rw [e])⟩
  by_cases uk:2≤o.k∧o.k≤5
  · have hl:=ho.l ⟨uk.1,by omega⟩
    obtain ⟨l,eO⟩:∃l:Nat,o.a=(l:Nat):=⟨o.a.toNat,(Int.toNat_of_nonneg hl.1).symm⟩
    rw [AN uk] at hf ⊢
    by_cases he:c6 (gL x l) t (tq x t l o)=0
    · rw [KB eO he];exact inc _ ht rfl
    · by_cases h2:mN x t o≠0
      · rw [KM eO he h2];exact inc _ ht rfl
      · rw [HB eO he h2] at hf;cases hf
  by_cases h6:o.k=6
  · have hl:=ho.l om
    by_cases he:mM (gL x o.a.toNat) t≠0
    · rw [JX h6 he];exact inc _ ht rfl
    · have hL:=h.li o.a.toNat (by have:=h.ll;omega)
      have eb:∀u∈dZ (gL x o.a.toNat) t,u.toNat≠t:=fun u hu q=>by
        have h1:=EZ hL.w.topg hu;have h2:=hL.i.dZ t u hu
        unfold lz at h2;omega
      have hg:=vf o.a.toNat (dZ (gL x o.a.toNat) t) (ba (bh x o.a.toNat (ej (gL x o.a.toNat) t)) 5 t o.a 0) eb;have hs:=cN o.a.toNat (ba (bh x o.a.toNat (ej (gL x o.a.toNat) t)) 5 t o.a 0) (dZ (gL x o.a.toNat) t);rw [JK h6 he];exact inc _ (by rw [hs.1];exact ht) hg
  by_cases h9:o.k=9
  · rw [Uw h9]
    show cY (bJ _ t) t=_∧ek (bJ _ t) t=_
    split
    · exact inc _ (by show _<(x.ts++ [_]).length;rw [List.length_append];omega) (by
        show (x.ts++ [_]).getD t default=_
        rw [List.getD_eq_getElem?_getD,List.getElem?_append_left ht,←List.getD_eq_getElem?_getD])
    · exact inc _ ht rfl
  have iV:o.k=10:=by omega
  rw [Mj iV];have UR:t<(dk x t {gT x t with we:=o.a}).ts.length:=by rw [bt];exact ht
  have q:=FV (x:=ba (dk x t {gT x t with we:=o.a}) 14 t (-1) o.a) UR t;exact⟨q.1.trans ((fK ht _ t).trans (bG ..)),q.2.1.trans ((jn ht _ t).trans (bG ..))⟩
section
variable {w0:ck} {k:Nat} {x:aC} (hI:MI k x) (h:MT w0 x) {t c:Nat} (ht:t<x.ts.length) (hc:c<x.cs.length) (qG:(qg x.cs c).cur=(t:Int)) (h2:cY x t=2)
include hI h ht hc qG h2
theorem MT.YZ:MT w0 (eZ x t c).1∧((eZ x t c).2=false→cY (eZ x t c).1 t=2∧ek (eZ x t c).1 t=(c:Int)):=by
  by_cases hd:((ko x t).xs.length:Int)≤(gT x t).pc∧(ko x t).fv=false
  · rw [tW hd.1 hd.2];exact⟨MT.die hI h ht (by rw [h2];decide),fun q=>by cases q⟩
  have e:eZ x t c=Go.Eng.eB (Go.Eng.kq x t) t c ((ko x t).xs.getD (gT (Go.Eng.kq x t) t).pc.toNat default):=if_neg hd;have Hs:=FH hI ht;have lN:=hI.op ht Hs.1;have acb:=Q0 hI.ms (p:=ko x t) (List.mem_of_getElem? (aQ default (show (gT x t).pr.toNat<x.s.ps.length by have:=(hI.tb t ht).pr;omega))) Hs.1;have hs:=ya (x:=x) (t:=t);have hF:=Vn ht t;have htp:t<(Go.Eng.kq x t).ts.length:=by rw [hs.1];exact ht
  have Vx:OL (Go.Eng.kq x t).s ((ko x t).xs.getD (gT (Go.Eng.kq x t) t).pc.toNat default):=by rw [hs.2.2.1];exact lN
  rw [e];refine ⟨MT.eB (hI.kq ht) (MT.pcr hI h ht) htp (by rw [hs.2.2.2.2.2.2];exact hc) (by rw [hs.2.2.2.2.2.2];exact qG) (hF.1.trans h2) Vx (by rw [hs.2.2.1];exact acb),fun q=>?_⟩;have q2:=Hw (hI.kq ht) htp Vx q;exact⟨q2.1.trans (hF.1.trans h2),q2.2.trans (hF.2.1.trans (MT.core hI h hc qG))⟩
end
theorem MT.cur {w0:ck} {k:Nat} {x:aC} (hI:MI k x) (h:MT w0 x) {t c:Nat} (ht:t<x.ts.length) (h2:cY x t=2) (rY:ek x t=(c:Int)):(qg x.cs c).cur=(t:Int):=by
  obtain ⟨d,hd,e⟩:=h.q.q.run t ht h2;have:=MT.core hI h hd e;rw [show c=d by omega];exact e
theorem MT.run {w0:ck} {t c:Nat} :∀{f k:Nat} {x:aC},MI k x→MT w0 x→t<x.ts.length→c<x.cs.length→(qg x.cs c).cur=(t:Int)→cY x t=2→MT w0 (o3 t c f x)
  |0,k,x,_,h,_,_,_,_=>h
  |f+1,k,x,hI,h,ht,hc,qG,h2=>by
    have lP:bO x.cs t<x.cs.length:=by
      have:=hI.ci.wf.at (a:=(t:Int)) hc (by have q:=(hI.ci.wf.wf c hc).ix (show 0≤(qg x.cs c).cur by omega);rw [qG] at q;exact q);omega
    obtain ⟨q1,q2⟩:=MT.YZ hI h ht hc qG h2
    unfold o3
    split
    · exact q1
    · next e=>
      have e:(eZ x t c).2=false:=by simpa using e
      obtain ⟨e1,e2,e3,e4⟩:=sj hI ht lP (c:=c) e;obtain ⟨r1,r2⟩:=q2 e;have p8:=hI.YZ ht hc lP;have zw:c<(eZ x t c).1.cs.length:=by have a1:=p8.ce;have a2:=hI.ce;rw [e4] at a1;omega
      exact MT.run p8 q1 e2 zw (MT.cur p8 q1 e2 r1 r2) r1
/-! a tick -/
theorem AV.now {w0:ck} {ev:List fu} {now Yh:BitVec 64} {v:Vw} (h:AV w0 ev now v) (hn:now.toNat≤Yh.toNat):AV w0 ev Yh v:=by
  obtain ⟨w,h1,h2,h3⟩:=h;exact⟨w,h1,Nat.le_trans h2 hn,h3⟩
section
variable {w0:ck} {k:Nat} {x:aC} (hI:MI k x) (h:MT w0 x) {c:Nat} (hc:c<x.cs.length)
include hI h hc
theorem MT.wC:MT w0 (wC x c):=by
  unfold Go.Eng.wC;split
  · next e=>
    obtain ⟨h1,h2,h3⟩:=hI.cur hc (ue e)
    generalize (qg x.cs c).cur.toNat=t at*
    have q:=hI.tb t h2
    have hs:cY x t=2:=by
      have:=h.q.q.cur c hc (ue e);rw [←h3,Int.toNat_natCast] at this;exact this
    have hu:(gT x t).un=0#64:=by
      have:=hI.iq c hc _ h1;rw [←h3,Int.toNat_natCast] at this;exact this
    have r:=MT.bak hI h h2 hc h3.symm hs (kd:=3) (.inl rfl) (y:= {gT x t with st:=1}) rfl rfl rfl rfl ⟨q.pr,by have:=q.pc;show 0≤(gT x t).pc∧(gT x t).pc≤_;omega,q.lf,by have:=q.ti;show 0≤(gT x t).ti∧(gT x t).ti≤_;omega,fun e=>(by cases e),fun e=>absurd hu e⟩;rw [←h3];exact r
  · exact h
theorem MT.vz:MT w0 (vz x c):=by
  have qS:=hI.vz hc
  unfold Go.Eng.vz at qS ⊢;split
  · next e=>
    rw [if_pos e] at qS;obtain ⟨h0,h1,h2⟩:=yf (hI.ci.wf.wf c hc) e.1 e.2;have hid:=hI.ci.id c hc _ h1;obtain ⟨t,Ey⟩:∃t:Nat,fJ (qg x.cs c)=(t:Int):=⟨(fJ (qg x.cs c)).toNat,by omega⟩
    rw [h2] at qS ⊢;rw [Ey] at h1 hid qS ⊢;rw [Int.toNat_natCast] at qS ⊢;have ht:t<x.ts.length:=by omega
    obtain ⟨g1,g2⟩:=h.q.q.has c hc _ h1;rw [Int.toNat_natCast] at g1 g2
    have hn:∀j,j<x.ts.length→cY x j=2→ek x j≠ek x t:=fun j hj hs q=>by
      have:=MT.cur hI h hj hs (q.trans g1);omega
    have hs:cY x t=1:=g2.resolve_right (fun q=>hn t ht q rfl);have hA:=h.a.aaJ (t:=t) ht hs hn;rw [show (jI x).co t=(c:Int) from g1] at hA
    generalize hz:ba (dk (iy x c (mG (qg x.cs c) t)) t {gT x t with st:=2}) 2 t (-1) c=z at*
    have hlen:z.ts.length=x.ts.length:=by rw [←hz];exact bt ..
    have er:∀j,cY z j=aP (cY x) t 2 j:=fun j=>by rw [←hz];exact fK (x:=iy x c (mG (qg x.cs c) t)) ht {gT x t with st:=2} j
    have rY:∀j,ek z j=ek x j:=fun j=>by rw [←hz];exact(jn (x:=iy x c (mG (qg x.cs c) t)) ht {gT x t with st:=2} j).trans (aR (ek x) t j)
    have tA:∀j,eM z j=eM x j:=fun j=>by rw [←hz];exact(ju (x:=iy x c (mG (qg x.cs c) t)) ht {gT x t with st:=2} j).trans (aR (eM x) t j)
    have e1:z.cs=x.cs.set c (mG (qg x.cs c) t):=by rw [←hz];rfl
    have e2:z.lk=x.lk:=by rw [←hz];rfl
    have e3:z.ev=x.ev++ [⟨x.now,2,t,-1,c⟩] :=by rw [←hz];rfl
    have e4:z.now=x.now:=by rw [←hz];rfl
    have e5:z.s=x.s:=by rw [←hz];rfl
    have K3:=qS.ci;rw [hlen,e1] at K3;have hi:=qS.N3;rw [hlen,e2] at hi;refine ⟨⟨?_,?_⟩,?_,?_⟩
    · rw [hlen,e1]
      have q:=h.q.q.pik hc hI.ci e.1 h1 om;rw [Int.toNat_natCast] at q;exact q.ext K3 (fun j _=>er j) (fun j _=>rY j)
    · rw [hlen,e2]
      exact((h.q.l.PO (t:=t) (s:=2) (by decide) (h.q.Uo (by rw [hs];decide)) (fun q=>by cases q) (eM x t)).ext hi (fun j _=>er j) (fun j _=>(tA j).trans (aR (eM x) t j).symm)).mono (fun j _ _ q=>q.1)
    · show PI z.ts z.lk z.s.gs.length z.s.ls
      rw [e2,e5,←hz];exact PI.set h.p t _ rfl
    · rw [e3,e4]
      refine hA.eqv ⟨hlen.symm,by show x.lk.length=z.lk.length;rw [e2],by show x.s.cr=z.s.cr;rw [e5],fun j _=>by show (gL x j).sh=(gL z j).sh;unfold gL;rw [e2],fun j _=>(er j).symm,fun j _ _=>(aR (eM x) t j).trans (tA j).symm,fun j _=>?_,fun j _ g=>by show g∈(gL x j).ho↔g∈(gL z j).ho;unfold gL;rw [e2]⟩
      show aP (ek x) t (c:Int) j=ek z j
      rw [rY,←g1];exact aR (ek x) t j
  · exact h
theorem MT.uc:MT w0 (uc x c):=by
  unfold Go.Eng.uc;split
  · exact⟨⟨h.q.q,h.q.l⟩,h.p,h.a⟩
  · next e=>
    have h0:0≤(qg x.cs c).cur:=by omega
    obtain ⟨h1,h2,h3⟩:=hI.cur hc h0;obtain ⟨hU1,WM,hU3⟩:=hI.Cz hc h0
    have hid:(fi (qg x.cs c)).l.map (·.id)=(qg x.cs c).l.map (·.id):=by
      unfold fi;rw [if_pos h0];exact gM h1 (iU h1).1
    have qG:(fi (qg x.cs c)).cur=(qg x.cs c).cur:=by unfold fi;rw [if_pos h0]
    have hs:cY x (qg x.cs c).cur.toNat=2:=h.q.q.cur c hc h0;have hT1:MT w0 (iy x c (fi (qg x.cs c))):=⟨⟨IU hc hid qG h.q.q,h.q.l⟩,h.p,h.a⟩
    have oE:MI (k+1) (iy x c (fi (qg x.cs c))):=(hI.mono (Nat.le_succ k)).FM (hI.ci.tick hc) (List.length_set ..) (fun d hd b hb=> .inl ⟨d,hd,jA hc hid hb⟩);have hT2:MT w0 (Cz x c):=MT.up oE hT1 (t:=(qg x.cs c).cur.toNat) h2 rfl rfl rfl rfl;have ks:c<(Cz x c).cs.length:=by show c<(x.cs.set _ _).length;rw [List.length_set];exact hc
    exact MT.run hU1 hT2 WM ks (by show (qg (x.cs.set c _) c).cur=_;rw [bK hc,if_pos rfl,qG];exact h3.symm) ((fK (x:=iy x c (fi (qg x.cs c))) h2 _ _).trans ((bG ..).trans hs))
end
theorem MT.Zd {w0:ck} {k:Nat} {x:aC} (hI:MI k x) (h:MT w0 x) {c:Nat} (hc:c<x.cs.length) (hn:x.now.toNat<18446744073709551615):MT w0 (tx x c):=by
  have Vb:MI k {x with now:=x.now+1#64} := {hI with}
  have h0:MT w0 {x with now:=x.now+1#64} :=⟨⟨h.q.q,h.q.l⟩,h.p,AV.now (show AV w0 x.ev x.now (jI x) from h.a) (by show x.now.toNat≤(x.now+1#64).toNat;rw [BitVec.toNat_add];show _≤(x.now.toNat+1) % _;omega)⟩
  have hl:∀y:aC,∀j,MI j y→y.s=x.s→c<y.cs.length:=fun y j hy e=>by have h1:=hy.ce;have h2:=hI.ce;rw [e] at h1;omega
  have oE:=Vb.wC hc;have Yy:=hl _ _ oE (xi ..);have p8:=oE.vz (c:=c) Yy;have zw:=hl _ _ p8 ((FN ..).trans (xi ..));have hI3:=p8.uc (c:=c) zw;exact MT.Mo hI3 (MT.uc p8 (MT.vz oE (MT.wC Vb h0 hc) Yy) zw)
theorem Oq (x:aC) (c:Nat):(wC x c).now=x.now:=by unfold wC;split<;>rfl
theorem OF (x:aC) (c:Nat):(vz x c).now=x.now:=by unfold vz;split<;>rfl
theorem EW (t c:Nat):∀(f:Nat) (x:aC),(o3 t c f x).now=x.now
  |0,x=>rfl
  |f+1,x=>by unfold o3;split;exact tU x t c;exact(EW t c f _).trans (tU x t c)
theorem PB (x:aC) (c:Nat):(uc x c).now=x.now:=by
  unfold uc;split
  · rfl
  · exact EW ..
theorem O3 (x:aC) (c:Nat):(tx x c).now=x.now+1#64:=((jD _).2.2.2.1).trans ((PB ..).trans ((OF ..).trans (Oq ..)))
theorem z7 {x:aC} {c:Nat} (hn:x.now.toNat<18446744073709551615):(tx x c).now.toNat=x.now.toNat+1:=by
  rw [O3,BitVec.toNat_add];show (x.now.toNat+1) % _=_;omega
theorem MT.Qc {w0:ck} {k:Nat} {x:aC} (hI:MI k x) (h:MT w0 x) (hn:x.now.toNat≤1048576):∀{n:Nat},n≤x.s.cr.toNat→MT w0 (wS x n)∧(wS x n).now.toNat=x.now.toNat+n
  |0,_=>⟨h,rfl⟩
  |n+1,hle=>by
    obtain ⟨h1,h2⟩:=MT.Qc hI h hn (n:=n) om;have oE:=hI.Qc (n:=n) om;have h4:=hI.len;rw [qc];exact⟨MT.Zd oE h1 (by rw [oE.len.1,A7];omega) om,by rw [z7 om];omega⟩
theorem MT.xN {w0:ck} :∀{l:List Nat} {k:Nat} {x:aC},MI k x→MT w0 x→(∀t∈l,t<x.ts.length)→MT w0 (xN x l)
  | [],k,x,_,h,_=>h
  |t::l,k,x,hI,h,ht=>MT.xN (l:=l) (hI.o1 (ht t (List.mem_cons_self ..))) (MT.o1 hI h (ht t (List.mem_cons_self ..))) (fun u hu=>by rw [(u4 x t).1];exact ht u (List.mem_cons_of_mem _ hu))
theorem MT.V7 {w0:ck} {k:Nat} {x:aC} (hI:MI k x) (h:MT w0 x):MT w0 (uP x):=
  MT.Mo (hI.xN (l:=nr x) (fun t ht=>iX x _ t ht)) (MT.xN hI h (fun t ht=>iX x _ t ht))
theorem FE (x:aC):(uP x).now=x.now:=((jD _).2.2.2.1).trans (qY ..).2.2.2
theorem MT.rou {w0:ck} {k:Nat} {x:aC} (hI:MI k x) (h:MT w0 x) (hn:x.now.toNat≤1048576):MT w0 (Ci x)∧(Ci x).now.toNat=x.now.toNat+x.s.cr.toNat:=by
  obtain ⟨h1,h2⟩:=MT.Qc hI h hn (Nat.le_refl _);exact⟨MT.V7 (hI.Qc (Nat.le_refl _)) h1,by rw [show (Ci x).now=(wS x x.s.cr.toNat).now from FE _];exact h2⟩
theorem MT.AQ {w0:ck} {k:Nat} {x:aC} (hI:MI k x) (h:MT w0 x):∀{n:Nat},x.now.toNat+n*x.s.cr.toNat≤1048576→MT w0 (xf x n)∧(xf x n).now.toNat=x.now.toNat+n*x.s.cr.toNat
  |0,_=>⟨h,by rw [Nat.zero_mul];rfl⟩
  |n+1,hn=>by
    rw [Nat.succ_mul] at hn ⊢;obtain ⟨h1,h2⟩:=MT.AQ hI h (n:=n) om;obtain ⟨h3,h4⟩:=MT.rou (hI.AQ n) h1 om;exact⟨h3,by rw [show xf x (n+1)=Ci (xf x n) from rfl,h4,De];omega⟩
/-! deeds -/
theorem MT.mig {w0:ck} {k k':Nat} {x:aC} (hI:MI k x) (h:MT w0 x) {a:Int} {to:Nat} (ha:bO x.cs a<x.cs.length) (ht:to<x.cs.length) (eb:to≠bO x.cs a) (qG:(qg x.cs (bO x.cs a)).cur≠a) (Uj:MI k' {x with cs:=fV x.cs a to}):MT w0 (sw {x with cs:=fV x.cs a to} a.toNat to):=by
  obtain ⟨g0,g1⟩:=hI.ids ha;obtain ⟨t,Ey⟩:∃t:Nat,a=(t:Int):=⟨a.toNat,by omega⟩
  have xu:t<x.ts.length:=by omega
  obtain ⟨q1,q2⟩:=h.q.q.has _ ha _ (c8 ha);have e0:a.toNat=t:=by omega
  rw [e0] at q1 q2 ⊢;have hs:cY x t=1:=q2.resolve_right (fun q=>qG (by rw [Ey] at q1 ⊢;exact MT.cur hI h xu q q1));have hce:=hI.ce;have hA:=h.a.aeD (t:=t) xu hs (n:=(to:Int)) (by rw [show (jI x).co t=_ from q1];omega) ⟨by omega,by show (to:Int)<x.s.cr;omega⟩;have X1:=h.q.q.car hI.ci ha ht eb qG;rw [e0] at X1
  unfold sw
  have qb:=Uj.tb t xu;have qS:=(Uj.up (t:=t) xu (y:= {gT ({x with cs:=fV x.cs a to} :aC) t with co:=(to:Int)}) ⟨qb.pr,qb.pc,qb.lf,qb.ti,qb.l4,qb.un⟩).kc 13 t (-1) to;refine MT.Mo qS ?_
  generalize hz:ba (dk {x with cs:=fV x.cs a to} t {gT ({x with cs:=fV x.cs a to} :aC) t with co:=(to:Int)}) 13 t (-1) to=z at*
  have hlen:z.ts.length=x.ts.length:=by rw [←hz];exact bt ..
  have er:∀j,cY z j=cY x j:=fun j=>by rw [←hz];exact(fK (x:= {x with cs:=fV x.cs a to}) xu _ j).trans (aR (cY x) t j)
  have rY:∀j,ek z j=aP (ek x) t to j:=fun j=>by rw [←hz];exact jn (x:= {x with cs:=fV x.cs a to}) xu _ j
  have tA:∀j,eM z j=eM x j:=fun j=>by rw [←hz];exact(ju (x:= {x with cs:=fV x.cs a to}) xu _ j).trans (aR (eM x) t j)
  have e1:z.cs=fV x.cs a to:=by rw [←hz];rfl
  have e2:z.lk=x.lk:=by rw [←hz];rfl
  have e3:z.ev=x.ev++ [⟨x.now,13,t,-1,to⟩] :=by rw [←hz];rfl
  have e4:z.now=x.now:=by rw [←hz];rfl
  have e5:z.s=x.s:=by rw [←hz];rfl
  have K3:=qS.ci;rw [hlen,e1] at K3;have hi:=qS.N3;rw [hlen,e2] at hi;refine ⟨⟨?_,?_⟩,?_,?_⟩
  · rw [hlen,e1];exact X1.ext K3 (fun j _=>er j) (fun j _=>rY j)
  · rw [hlen,e2];exact h.q.l.ext hi (fun j _=>er j) (fun j _=>tA j)
  · show PI z.ts z.lk z.s.gs.length z.s.ls
    rw [e2,e5,←hz];exact PI.set h.p t _ rfl
  · rw [e3,e4]
    exact hA.eqv ⟨hlen.symm,by show x.lk.length=z.lk.length;rw [e2],by show x.s.cr=z.s.cr;rw [e5],fun j _=>by show (gL x j).sh=(gL z j).sh;unfold gL;rw [e2],fun j _=>(by rw [←hs];exact aR (cY x) t j:aP (cY x) t 1 j=cY x j).trans (er j).symm,fun j _ _=>(aR (eM x) t j).trans (tA j).symm,fun j _=>(rY j).symm,fun j _ g=>by show g∈(gL x j).ho↔g∈(gL z j).ho;unfold gL;rw [e2]⟩
theorem MT.abK {w0:ck} {k:Nat} {x:aC} (hI:MI k x) (h:MT w0 x) {a co:Int} (he:eF x.cs co a=0):MT w0 (sw {x with cs:=jB x.cs co a} a.toNat co):=by
  obtain ⟨h1,h2,h3,h4,h5⟩:=EU he
  have qG:(qg x.cs (bO x.cs a)).cur≠a:=fun q=>by
    unfold eF at he
    rw [if_neg om,if_neg om,if_neg om,if_pos q] at he;cases he
  have hX:jB x.cs co a=fV x.cs a co.toNat:=if_pos he;have Uj:=hI.Xo co a;rw [hX] at Uj ⊢;have:=MT.mig hI h h1 h2 h4 qG Uj;rw [h5] at this;exact this
theorem MT.abf {w0:ck} {k:Nat} {x:aC} (hI:MI k x) (h:MT w0 x) (hb:¬iC x.cs<0):MT w0 (sw {x with cs:=jt x.cs} (iC x.cs).toNat (tz x.cs)):=by
  have hIb:=hI.VW
  have key:∀t,uU x.cs=some t→MT w0 (sw {x with cs:=fV x.cs t.id (le x.cs)} t.id.toNat (le x.cs:Nat)):=fun t e=>by
    obtain ⟨h1,h2,h3,h4,h5,h6,h7⟩:=k4 hI.ci.wf e;have hX:jt x.cs=fV x.cs t.id (le x.cs):=by unfold jt;rw [e]
    rw [hX] at hIb;exact MT.mig hI h (by rw [h4];exact h5) h6 h7 (by rw [h4];exact fun q=>h2 q.symm) hIb
  cases e:uU x.cs with
  |none=>exact absurd (by unfold iC;rw [e];decide) hb
  |some t=>
    have:=key t e;rw [show jt x.cs=fV x.cs t.id (le x.cs) by unfold jt;rw [e],show iC x.cs=t.id by unfold iC;rw [e],show tz x.cs=(le x.cs:Nat) by unfold tz;rw [e]];exact this
theorem GO {x:aC} {a:Int} (hc:1≤x.s.cr∧x.s.cr≤4) (g1:¬(a<0∨200<a)) (g2:¬1048576<(x.now+BitVec.ofInt 64 (a*x.s.cr)).toNat) (hn:x.now.toNat≤1048576):x.now.toNat+a.toNat*x.s.cr.toNat≤1048576:=by
  obtain ⟨n,HQ⟩:∃n:Nat,a=(n:Int):=⟨a.toNat,by omega⟩
  obtain ⟨c,hcc⟩:∃c:Nat,x.s.cr=(c:Int):=⟨x.s.cr.toNat,by omega⟩
  rw [HQ,hcc] at g2 ⊢;rw [Int.toNat_natCast,Int.toNat_natCast];have hb:n*c≤800:=Nat.le_trans (Nat.mul_le_mul (show n≤200 by omega) (show c≤4 by omega)) (by decide);rw [←Int.natCast_mul,BitVec.ofInt_natCast,BitVec.toNat_add,BitVec.toNat_ofNat] at g2
  generalize n*c=m at*
  have e1:m % 2 ^ 64=m:=Nat.mod_eq_of_lt (Nat.lt_of_le_of_lt hb (by decide));rw [e1] at g2;have e2:(x.now.toNat+m) % 2 ^ 64=x.now.toNat+m:=Nat.mod_eq_of_lt (Nat.lt_of_le_of_lt (Nat.add_le_add hn hb) (by decide));rw [e2] at g2;omega
theorem KX {s:kh} {d:ME} (h:fC s=true) (hs:(nJ d s.gs).sh=false):s.gs.length≤(nJ d s.gs).ld.l.length:=by
  show _≤(kU (rU d s.gs) _ _).l.length
  have hs:d.sh=false:=hs;have hg:=F8 h;rw [kJ];unfold rU;rw [hs,if_neg (by decide)];unfold QA;rw [if_neg (by rw [List.length_take];omega),List.length_take];omega
structure MW (w0:ck) (k:Nat) (x:aC):Prop where
  i:MI k x
  t:MT w0 x
  n:x.now.toNat≤1048576
theorem q6 (n l:Nat):(List.replicate n 0#64).getD l 0#64=0#64:=by
  rw [List.getD_eq_getElem?_getD,List.getElem?_replicate];split<;>rfl
theorem MW.new {s:kh} (h:fC s=true):MW (Jk s) 0 (fj s):=by
  have hI:=MI.new h;have gZ:(fj s).lk.length=s.ls.length:=hI.ll
  have tI:∀l,l<s.ls.length→gL (fj s) l=nJ ⟨(s.ls.getD l default).sh,(s.ls.getD l default).sl,(s.ls.getD l default).cr,(s.ls.getD l default).rd,(s.ls.getD l default).wr⟩ s.gs:=fun l hl=>by
    show (s.ls.map _).getD l default=_
    rw [List.getD_eq_getElem?_getD,List.getElem?_map,List.getElem?_eq_getElem hl,List.getD_eq_getElem?_getD,List.getElem?_eq_getElem hl];rfl
  have ks:∀c,c<(fj s).cs.length→qg (fj s).cs c=u7 s.gr:=fun c hc=>by
    have zw:c<(aB s.cr 1 4).toNat:=by rw [←ei s.cr s.gr];exact hc
    exact rZ zw
  refine ⟨hI,⟨⟨⟨fun c hc a ha=>?_,fun c hc h0=>?_,fun t ht _=>absurd ht (Nat.not_lt_zero t)⟩,⟨fun l hl y hy=>?_,fun t ht _ _=>absurd ht (Nat.not_lt_zero t),fun l hl g hg=>?_⟩⟩,⟨fun t ht=>absurd ht (Nat.not_lt_zero t),fun l hl hs=>?_,fun l hl=>?_,fun t ht=>absurd ht (Nat.not_lt_zero t)⟩,?_⟩,by show (0#64).toNat≤_;decide⟩
  · rw [ks c hc] at ha;exact absurd ha (tS _ _)
  · rw [ks c hc] at h0;exact absurd h0 (by show¬(0:Int)≤-1;decide)
  · rw [gZ] at hl;rw [show qg (fj s).lk l=gL (fj s) l from rfl,tI l hl] at hy;cases hy
  · rw [gZ] at hl;rw [show qg (fj s).lk l=gL (fj s) l from rfl,tI l hl] at hg;cases hg
  · rw [gZ] at hl
    show s.gs.length≤(gL (fj s) l).ld.l.length
    have hs:(gL (fj s) l).sh=false:=hs;rw [tI l hl] at hs ⊢;exact KX h hs
  · rw [gZ] at hl
    show (gL (fj s) l).sh=_
    rw [tI l hl];rfl
  · refine ⟨Jk s,.nil,Nat.le_refl _,rfl,Nat.zero_le _,fun t ht=>absurd ht (Nat.not_lt_zero t),fun t ht=>absurd ht (Nat.not_lt_zero t),fun t ht _=>absurd ht (Nat.not_lt_zero t),?_,?_,?_,fun l hl=>?_,rfl,fun l hl g hg=>?_,fun l hl q=>?_,fun l hl q=>?_⟩
    · show (s.ls.map _).length=(fj s).lk.length;rw [List.length_map,gZ]
    · show (List.replicate _ _).length=(fj s).lk.length;rw [List.length_replicate,gZ]
    · show (List.replicate _ _).length=(fj s).lk.length;rw [List.length_replicate,gZ]
    · have nu:l<s.ls.length:=by rw [←gZ];exact hl
      show (s.ls.map (·.sh)).getD l false=(gL (fj s) l).sh
      rw [tI l nu,List.getD_eq_getElem?_getD,List.getElem?_map,List.getElem?_eq_getElem nu,List.getD_eq_getElem?_getD,List.getElem?_eq_getElem nu];rfl
    · have nu:l<s.ls.length:=by rw [←gZ];exact hl
      rw [show (jI (fj s)).hs l=(gL (fj s) l).ho from rfl,tI l nu] at hg;cases hg
    · have nu:l<s.ls.length:=by rw [←gZ];exact hl
      rw [show (jI (fj s)).hs l=(gL (fj s) l).ho from rfl,tI l nu,show lp (Jk s) l=0#64 from q6 _ _,cF];exact⟨fun q=>(by cases q),fun ⟨g,hg,_⟩=>(by cases hg)⟩
    · have nu:l<s.ls.length:=by rw [←gZ];exact hl
      rw [show (jI (fj s)).hs l=(gL (fj s) l).ho from rfl,tI l nu,show mf (Jk s) l=0#64 from q6 _ _,cF];exact⟨fun q=>(by cases q),fun ⟨g,hg,_⟩=>(by cases hg)⟩
theorem MW.mdo {w0:ck} {k:Nat} {x:aC} (h:MW w0 k x) (a:Act):MW w0 (k+30000000) (jk x a):=by
  have hI:=h.i;have hT:=h.t;have hn:=h.n;refine ⟨hI.mdo a,?_,?_⟩<;>clear h
  all_goals
    by_cases he:dd x a≠0
    · rw [eu he];assumption
    have he:dd x a=0:=Classical.byContradiction he;have hv:¬50000≤x.ev.length:=fun q=>by unfold dd at he;rw [if_pos q] at he;cases he
    by_cases e1:a.k=1
    · rw [YB hv e1] at he
      have g1:¬(a.a<0∨x.s.cr≤a.a):=fun q=>by rw [if_pos q] at he;cases he
      rw [if_neg g1] at he;have g2:¬1048576≤x.now.toNat:=fun q=>by rw [if_pos q] at he;cases he
      rw [if_neg g2] at he;rw [dx1 (by rw [YB hv e1,if_neg g1,if_neg g2]) e1]
      first
      |exact MT.Zd hI hT (by have:=hI.ce;omega) om
      |(rw [z7 om];omega)
    by_cases e2:a.k=2
    · rw [dx2 he e2]
      first
      |exact MT.V7 hI hT
      |(rw [FE];exact hn)
    by_cases e3:a.k=3
    · rw [dx3 he e3]
      rw [do3 hv e3] at he;have g1:¬iC x.cs<0:=fun q=>by rw [if_pos q] at he;cases he
      first
      |exact MT.abf hI hT g1
      |(rw [show (sw {x with cs:=jt x.cs} (iC x.cs).toNat (tz x.cs)).now=x.now from (jD _).2.2.2.1];exact hn)
    by_cases e4:a.k=4
    · rw [dx4 he e4]
      rw [do4 hv e4] at he;have g1:¬(a.a<0∨(x.s.ps.length:Int)≤a.a∨a.b<0∨(x.gp.length:Int)≤a.b∨a.c<1∨16<a.c∨a.d<0∨x.s.cr≤a.d):=fun q=>by rw [if_pos q] at he;cases he
      rw [if_neg g1] at he
      have g2:iK x=true:=by
        cases q:iK x with
        |true=>rfl
        |false=>rw [q] at he;cases he
      unfold iK at g2;simp only [Bool.and_eq_true,decide_eq_true_eq] at g2
      have Mz:=hI.gn
      first
      |exact MT.Mo (hI.Ms _ _ _ _ om g2.2) (MT.Ms hI hT om om om g2.2)
      |(rw [show (jJ (oX x a.a a.b a.c a.d)).now=x.now from (jD _).2.2.2.1];exact hn)
    by_cases e5:a.k=5
    · rw [dx5 he e5]
      rw [ZO hv e5] at he;have g1:¬(a.a<0∨(x.ts.length:Int)≤a.a):=fun q=>by rw [if_pos q] at he;cases he
      rw [if_neg g1] at he;have g2:¬(gT x a.a.toNat).st=5:=fun q=>by rw [if_pos q] at he;cases he
      have ht:a.a.toNat<x.ts.length:=by omega
      first
      |exact MT.Mo (hI.die ht) (MT.die hI hT ht g2)
      |(rw [show (jJ (kf x a.a.toNat)).now=x.now from (jD _).2.2.2.1.trans (nE _ _).2.2.2];exact hn)
    by_cases e6:a.k=6
    · rw [dx6 he e6]
      first
      |exact hn
      |exact⟨(hT.Z1 (fun L=>iz L a.a a.b) (fun L=>u1 L _ _) (fun L=>Dg L _ _)).q |> fun q=>⟨q.q,q.l⟩,(hT.Z1 (fun L=>iz L a.a a.b) (fun L=>u1 L _ _) (fun L=>Dg L _ _)).p,(hT.Z1 (fun L=>iz L a.a a.b) (fun L=>u1 L _ _) (fun L=>Dg L _ _)).a⟩
    by_cases e7:a.k=7
    · rw [dx7 he e7]
      rw [do7 hv e7] at he
      first
      |exact MT.abK hI hT he
      |(rw [show (sw {x with cs:=jB x.cs a.b a.a} a.a.toNat a.b).now=x.now from (jD _).2.2.2.1];exact hn)
    by_cases e8:a.k=8
    · rw [dx8 he e8]
      rw [ZD hv e8] at he;have g1:¬(a.a<0∨200<a.a):=fun q=>by rw [if_pos q] at he;cases he
      rw [if_neg g1] at he;have g2:¬1048576<(x.now+BitVec.ofInt 64 (a.a*x.s.cr)).toNat:=fun q=>by rw [if_pos q] at he;cases he
      have Zu:=tG hI.ms;have hb:=GO (x:=x) Zu g1 g2 hn
      first
      |exact(MT.AQ hI hT hb).1
      |(rw [(MT.AQ hI hT hb).2];exact hb)
    · rw [do0 hv om] at he;cases he
structure Ev where
  time:BitVec 64
  kind:Int
  task:Int
  lock:Int
  n:Int
structure St where
  task:Int
  lock:Int
  zG:BitVec 64
  to:BitVec 64
  fin:Int
  read:Bool
deriving DecidableEq
def fE (e:Ev):List Value:=[U e.time,.int .i64 e.kind,.int .i64 e.task,.int .i64 e.lock,.int .i64 e.n]
def fT (s:St):List Value:=[.int .i64 s.task,.int .i64 s.lock,U s.zG,U s.to,.int .i64 s.fin,.bool s.read]
def aE (s:St) (e:Ev):Int:=if e.kind=11 then 3 else if e.lock≠s.lock then 0 else if e.kind=4 then 1 else if e.kind=8 then 2 else 0
def aF (s:St) (e:Ev):Int:=if e.lock≠s.lock then 0 else if e.kind=5 then 1 else if e.kind=12 then 3 else 0
def rC (a b:St):Bool:=decide (b.fin=0)||decide (a.zG.toNat<b.to.toNat)
def lS (kind:Int) (e:Ev):St:=⟨e.task,e.lock,e.time,0#64,0,decide (kind=4)&&(decide (e.n=2)||decide (e.n=3))⟩
def stepT (en:St→Ev→Int) (s:St) (e:Ev):St:=if s.fin=0∧s.task=e.task∧en s e≠0 then {s with fin:=en s e,to:=e.time} else s
def bP (en:St→Ev→Int) (kind:Int) (out:List St) (e:Ev):List St:=out.map (fun s=>stepT en s e)++(if e.kind=kind then [lS kind e] else [])
def dL (en:St→Ev→Int) (kind:Int) (l:List Ev):List St:=l.foldl (bP en kind) []
def gJ (en:St→Ev→Int) (kind:Int):List Ev→List St
  | [] =>[]
  |e::l=>(if e.kind=kind then [l.foldl (stepT en) (lS kind e)] else [])++gJ en kind l
theorem xR (en:St→Ev→Int) (kind:Int):∀(l:List Ev) (out:List St),l.foldl (bP en kind) out=out.map (fun s=>l.foldl (stepT en) s)++gJ en kind l
  | [],out=>by simp [gJ]
  |e::l,out=>by
    simp only [List.foldl_cons];rw [xR en kind l (bP en kind out e)];rw [gJ]
    unfold bP
    by_cases h:e.kind=kind
    · rw [if_pos h,if_pos h];simp [List.map_map,Function.comp_def]
    · rw [if_neg h,if_neg h];simp [List.map_map,Function.comp_def]
theorem qH (en:St→Ev→Int) (kind:Int) (l:List Ev):dL en kind l=gJ en kind l:=by
  unfold dL;rw [xR];simp
theorem GP (en:St→Ev→Int) {s:St} (h:s.fin≠0) (e:Ev):stepT en s e=s:=by unfold stepT;rw [if_neg (by intro k;exact h k.1)]
theorem oQ (en:St→Ev→Int) (s:St) (e:Ev):(stepT en s e).task=s.task∧(stepT en s e).lock=s.lock∧(stepT en s e).zG=s.zG∧(stepT en s e).read=s.read:=by unfold stepT;split<;>simp
instance:Inhabited St:=⟨⟨0,0,0#64,0#64,0,false⟩⟩
instance:Inhabited Ev:=⟨⟨0#64,0,0,0,0⟩⟩
def gI (t:Int) (s:St):Bool:=decide (s.task=t)&&decide (s.fin=0)
def kN (out:List St) (t:Int):List Int:=((List.range out.length).filter (fun i=>gI t (out.getD i default))).map Int.ofNat
theorem zd {out:List St} {t:Int} {p:Int} :p∈kN out t↔∃j:Nat,p=j∧j<out.length∧gI t (out.getD j default)=true:=by
  simp only [kN,List.mem_map,List.mem_filter,List.mem_range]
  constructor
  · rintro ⟨j,⟨h1,h2⟩,rfl⟩;exact⟨j,rfl,h1,h2⟩
  · rintro ⟨j,rfl,h1,h2⟩;exact⟨j,⟨h1,h2⟩,rfl⟩
theorem EX (out:List St) (t:Int):(kN out t).length≤out.length:=by
  unfold kN;rw [List.length_map];refine Nat.le_trans (List.length_filter_le _ _) ?_;simp
theorem sJ {α:Type} {l:List α} (h:l.Nodup) {i:Nat} (hi:i<l.length) (d:α):l.getD i d ∉ l.take i:=by
  intro hm;obtain ⟨j,hj⟩:=List.getElem?_of_mem hm;have bB:=(List.getElem?_eq_some_iff.1 hj).1;rw [List.length_take] at bB;rw [List.getElem?_take_of_lt om] at hj;have h2:=aQ d hi;rw [List.getElem?_eq_getElem om] at hj;rw [List.getElem?_eq_getElem hi] at h2;exact List.pairwise_iff_getElem.1 h j i om hi om (Option.some.inj (hj.trans h2.symm))
theorem xP (out:List St) (t:Int):(kN out t).Nodup:=by
  unfold kN
  refine List.Pairwise.map _ ?_ (List.nodup_range.filter _);intro a b h e;exact h (Int.ofNat.inj e)
theorem kH (out:List St) (x:St) (t:Int):kN (out++ [x]) t=kN out t++(if gI t x then [(out.length:Int)] else []):=by
  unfold kN
  rw [List.length_append,List.length_singleton,List.range_succ,List.filter_append,List.map_append]
  congr 1
  · congr 1
    apply List.filter_congr
    intro i hi;rw [List.mem_range] at hi;rw [List.getD_eq_getElem?_getD,List.getElem?_append_left hi,←List.getD_eq_getElem?_getD]
  · simp only [List.filter_cons,List.filter_nil]
    rw [List.getD_eq_getElem?_getD,List.getElem?_append_right (Nat.le_refl _),Nat.sub_self];simp only [List.getElem?_cons_zero,Option.getD_some]
    split<;>simp
theorem getD_map {α β:Type} (f:α→β) (l:List α) (i:Nat) (d:α) (d':β) (h:i<l.length):(l.map f).getD i d'=f (l.getD i d):=by
  simp [List.getD_eq_getElem?_getD,List.getElem?_map,List.getElem?_eq_getElem h]
theorem Om (en:St→Ev→Int) (x:St) (e:Ev):gI e.task (stepT en x e)=(decide (en x e=0)&&gI e.task x):=by
  unfold gI stepT
  by_cases h1:x.fin=0<;>by_cases h2:x.task=e.task<;>by_cases h3:en x e=0<;>simp [h1,h2,h3]
theorem NP (en:St→Ev→Int) (x:St) (e:Ev) (t:Int) (ht:¬t=e.task):gI t (stepT en x e)=gI t x:=by
  unfold gI stepT
  by_cases h1:x.fin=0<;>by_cases h2:x.task=e.task<;>by_cases h3:en x e=0<;>simp [h1,h2,h3,Ne.symm ht]
theorem fg (en:St→Ev→Int) (out:List St) (e:Ev) (t:Int):
    kN (out.map (fun s=>stepT en s e)) t=if t=e.task then (kN out t).filter (fun p=>decide (en (out.getD p.toNat default) e=0)) else kN out t:=by
  unfold kN
  rw [List.length_map,List.filter_map,List.filter_filter]
  by_cases ht:t=e.task
  · subst ht
    rw [if_pos rfl]
    congr 1
    apply List.filter_congr
    intro i hi;rw [List.mem_range] at hi;rw [getD_map _ _ _ default _ hi];simp only [Function.comp,Int.ofNat_eq_natCast,Int.toNat_natCast];exact Om en _ e
  · rw [if_neg ht]
    congr 1
    apply List.filter_congr
    intro i hi;rw [List.mem_range] at hi;rw [getD_map _ _ _ default _ hi];exact NP en _ e t ht
def B2 (en:St→Ev→Int) (out:List St) (e:Ev) (ps:List Int) (o:List St):Prop:=
  o.length=out.length∧∀j,j<out.length→o.getD j default=if (j:Int)∈ps then stepT en (out.getD j default) e else out.getD j default
theorem B7 (en:St→Ev→Int) (out:List St) (e:Ev):B2 en out e [] out:=⟨rfl,fun j _=>by simp⟩
theorem Kh {α:Type} (l:List α) (i j:Nat) (a d:α) (h:i<l.length):(l.set i a).getD j d=if i=j then a else l.getD j d:=by
  simp only [List.getD_eq_getElem?_getD,List.getElem?_set]
  split
  · rename_i e;subst e;simp [h]
  · rfl
theorem Bl {en:St→Ev→Int} {out:List St} {e:Ev} {ps:List Int} {o:List St} {p:Nat} (h:B2 en out e ps o) (hp:(p:Int) ∉ ps) (hl:p<out.length):B2 en out e (ps++ [(p:Int)]) (o.set p (stepT en (o.getD p default) e)):=by
  have lN:o.getD p default=out.getD p default:=by rw [h.2 p hl,if_neg hp]
  refine ⟨by rw [List.length_set];exact h.1,fun j hj=>?_⟩;rw [Kh _ _ _ _ _ (by rw [h.1];exact hl)]
  by_cases hpj:p=j
  · subst hpj;rw [if_pos rfl,if_pos (by simp),lN]
  · rw [if_neg hpj,h.2 j hj]
    have:((j:Int)∈ps++ [(p:Int)])↔(j:Int)∈ps:=by simp;intro h;omega
    simp only [this]
theorem xJ {en:St→Ev→Int} {out:List St} {e:Ev} {ps:List Int} {o:List St} {p:Nat} (h:B2 en out e ps o) (hl:p<out.length) (he:en (out.getD p default) e=0):B2 en out e (ps++ [(p:Int)]) o:=by
  refine ⟨h.1,fun j hj=>?_⟩;rw [h.2 j hj]
  by_cases h1:(j:Int)∈ps
  · rw [if_pos h1,if_pos (by simp [h1])]
  · rw [if_neg h1]
    by_cases h2:j=p
    · subst h2;rw [if_pos (by simp)];unfold stepT;rw [if_neg (by intro k;exact k.2.2 he)]
    · rw [if_neg (by simp [h1];omega)]
theorem xO {en:St→Ev→Int} {out:List St} {e:Ev} {o:List St} (h:B2 en out e (kN out e.task) o):o=out.map (fun s=>stepT en s e):=by
  apply List.ext_getElem?
  intro j
  by_cases hj:j<out.length
  · have h1:=h.2 j hj
    have h2:o[j]? =some (o.getD j default):=aQ default (by rw [h.1];exact hj);rw [h2,h1,List.getElem?_map,aQ default hj,Option.map_some]
    by_cases h3:(j:Int)∈kN out e.task
    · rw [if_pos h3]
    · rw [if_neg h3];congr 1;unfold stepT;rw [if_neg]
      rintro ⟨h4,h5,_⟩;exact h3 (zd.2 ⟨j,rfl,hj,by unfold gI;rw [decide_eq_true h4,decide_eq_true h5];rfl⟩)
  · rw [List.getElem?_eq_none (by rw [h.1];omega),List.getElem?_eq_none (by simp;omega)]
theorem KG {en:St→Ev→Int} {out:List St} {e:Ev} {p:Nat} (h:¬en (out.getD p default) e=0): [(p:Int)].filter (fun p=>decide (en (out.getD p.toNat default) e=0))=[] :=by
  simp only [List.filter_cons,List.filter_nil,Int.toNat_natCast];rw [if_neg (by rw [decide_eq_true_iff];exact h)]
theorem Fa {en:St→Ev→Int} {out:List St} {e:Ev} {p:Nat} (h:en (out.getD p default) e=0): [(p:Int)].filter (fun p=>decide (en (out.getD p.toNat default) e=0))=[(p:Int)] :=by
  simp only [List.filter_cons,List.filter_nil,Int.toNat_natCast];rw [if_pos (by rw [decide_eq_true_iff];exact h)]
/-! ### A map of own slices -/
def yb (E n0:Nat) (K:Int→List Int):List (Int×Value)→aa→Prop
  | [],m=>m=[]
  |(t,v)::l,m=>∃m1 m2,m=m1++m2∧Sl fI E 1 n0 (K t) v m1∧yb E n0 K l m2
structure Own (E n0:Nat) (K:Int→List Int) (l:List (Int×Value)) (m:aa):Prop where
  nd:(l.map (·.1)).Nodup
  own:yb E n0 K l m
  non:∀t,ss l t=none→K t=[]
theorem Own.nil (E n0:Nat):Own E n0 (fun _=>[]) [] [] :=⟨List.nodup_nil,rfl,fun _ _=>rfl⟩
theorem yb.congr {E n0:Nat} {K K':Int→List Int} :∀{l:List (Int×Value)} {m:aa},yb E n0 K l m→(∀p∈l,K' p.1=K p.1)→yb E n0 K' l m
  | [],_,h,_=>h
  |(t,v)::l,m,⟨m1,m2,h1,h2,h3⟩,hk=>⟨m1,m2,h1,by rw [hk (t,v) (List.mem_cons_self ..)];exact h2,h3.congr (fun p hp=>hk p (List.mem_cons_of_mem _ hp))⟩
theorem xy:∀(l:List (Int×Value)) (t:Int) (v:Value) (x:Int),x∈(lE l t v).map (·.1)↔x=t∨x∈l.map (·.1)
  | [],t,v,x=>by simp [vK]
  |(b,u)::l,t,v,x=>by
    rw [kI]
    by_cases h:t=b
    · subst h;simp
    · rw [if_neg h];simp only [List.map_cons,List.mem_cons,xy l t v x];constructor
      · rintro (h|h|h)<;>simp [h]
      · rintro (h|h|h)<;>simp [h]
theorem Ga:∀(l:List (Int×Value)) (t:Int) (v:Value),(l.map (·.1)).Nodup→((lE l t v).map (·.1)).Nodup
  | [],t,v,_=>by simp [vK]
  |(b,u)::l,t,v,h=>by
    rw [kI];simp only [List.map_cons,List.nodup_cons] at h
    by_cases hb:t=b
    · subst hb;simpa using h
    · rw [if_neg hb];simp only [List.map_cons,List.nodup_cons]
      refine ⟨fun hm=>?_,Ga l t v h.2⟩;rcases (xy l t v b).1 hm with h1|h1
      · exact hb h1.symm
      · exact h.1 h1
theorem yb.look {E n0:Nat} {K:Int→List Int} (t:Int) (z:Value):∀{l:List (Int×Value)} {m:aa},(l.map (·.1)).Nodup→yb E n0 K l m→(ss l t=none→K t=[]∧z= .slice none 0 0)→
    ∃m1 m2,Sl fI E 1 n0 (K t) ((ss l t).getD z) m1∧m.Perm (m1++m2)∧∀(K':Int→List Int) (v':Value) (DY:aa),Sl fI E 1 n0 (K' t) v' DY→(∀x,x≠t→K' x=K x)→∃m',m'.Perm (DY++m2)∧yb E n0 K' (lE l t v') m'
  | [],m,_,h,hn=>by
    obtain ⟨h1,h2⟩:=hn rfl;have h:m=[] :=h;subst h;refine ⟨[],[],by rw [h1,h2];exact .nil _ _ _ _,.refl _,fun K' v' DY hs hk=>⟨DY++ [],by simp,DY,[],rfl,hs,rfl⟩⟩
  |(b,u)::l,m,dt,⟨m1,m2,hm,hs,ho⟩,hn=>by
    simp only [List.map_cons,List.nodup_cons] at dt;rw [iZ] at*
    by_cases hb:t=b
    · subst hb
      refine ⟨m1,m2,by rw [if_pos rfl];exact hs,by rw [hm],fun K' v' DY FZ hk=>⟨DY++m2,.refl _,?_⟩⟩;rw [kI,if_pos rfl];exact⟨DY,m2,rfl,FZ,ho.congr (fun p hp=>hk _ (fun e=>dt.1 (by rw [←e];exact List.mem_map_of_mem hp)))⟩
    · rw [if_neg hb] at hn ⊢
      obtain ⟨n1,n2,h1,h2,h3⟩:=yb.look t z dt.2 ho hn;refine ⟨n1,m1++n2,h1,?_,fun K' v' DY FZ hk=>?_⟩
      · rw [hm]
        exact(h2.append_left m1).trans (by rw [←List.append_assoc,←List.append_assoc];exact List.perm_append_comm.append_right _)
      · obtain ⟨m',h4,h5⟩:=h3 K' v' DY FZ hk
        refine ⟨m1++m',(h4.append_left m1).trans (by rw [←List.append_assoc,←List.append_assoc];exact List.perm_append_comm.append_right _),?_⟩;rw [kI,if_neg hb];exact⟨m1,m',rfl,by rw [hk b (Ne.symm hb)];exact hs,h5⟩
theorem Own.look {E n0:Nat} {K:Int→List Int} {l:List (Int×Value)} {m:aa} (h:Own E n0 K l m) (t:Int):
    ∃ad n cap m1 m2,(ss l t).getD (.slice none 0 0)= .slice ad n cap∧n=(K t).length∧Sl fI E 1 n0 (K t) (.slice ad n cap) m1∧m.Perm (m1++m2)∧∀(K':Int→List Int) (v':Value) (DY:aa),Sl fI E 1 n0 (K' t) v' DY→(∀x,x≠t→K' x=K x)→∃m',m'.Perm (DY++m2)∧Own E n0 K' (lE l t v') m':=by
  obtain ⟨m1,m2,h1,h2,h3⟩:=h.own.look t (.slice none 0 0) h.nd (fun hn=>⟨h.non t hn,rfl⟩);obtain ⟨ad,cap,hv⟩:=h1.form;refine ⟨ad,_,cap,m1,m2,hv,rfl,hv▸h1,h2,fun K' v' DY hs hk=>?_⟩;obtain ⟨m',h4,h5⟩:=h3 K' v' DY hs hk;refine ⟨m',h4,Ga l t v' h.nd,h5,fun x hx=>?_⟩;rw [xx] at hx
  split at hx
  · cases hx
  · rename_i eb;rw [hk x eb];exact h.non x hx
def Cj (a b:St):Bool:=decide (a.lock=b.lock)&&(decide (a.task≠b.task)&&(!(a.read&&b.read)&&(rC a b&&rC b a)))
def O9 (l:List St) (b:St):Nat→Nat→Option Nat
  |_,0=>none
  |i,n+1=>if Cj (l.getD i default) b=true then some i else O9 l b (i+1) n
def DQ (l:List St):Nat→Nat→Option (Nat×Nat)
  |_,0=>none
  |k,n+1=>match O9 l (l.getD k default) 0 k with|some i=>some (i,k)|none=>DQ l (k+1) n
theorem Bq (l:List St) (b:St) {i k:Nat} (h:i<k):O9 l b i (k-i)=if Cj (l.getD i default) b=true then some i else O9 l b (i+1) (k-(i+1)):=by
  rw [show k-i=(k-(i+1))+1 by omega];rfl
theorem xS (l:List St) {k n:Nat} (h:k<n):DQ l k (n-k)=match O9 l (l.getD k default) 0 k with|some i=>some (i,k)|none=>DQ l (k+1) (n-(k+1)):=by
  rw [show n-k=(n-(k+1))+1 by omega];rfl
def Yn (l:List St):Option (Nat×Nat):=DQ l 0 l.length
def Vy (o:Option (Nat×Nat)):Value:=match o with|some p=> .tuple #[.int .i64 (p.1:Nat),.int .i64 (p.2:Nat),.bool true] |none=> .tuple #[.int .i64 0,.int .i64 0,.bool false]
def I7 (s:St):BitVec 64:=(if s.to.toNat<s.zG.toNat then s.zG else s.to)-s.zG
def S4 (acc:Option (Nat×BitVec 64)) (i:Nat) (s:St):Option (Nat×BitVec 64):=
  if s.fin=0 then acc else match acc with|none=>some (i,I7 s)|some (j,m)=>if m.toNat<(I7 s).toNat then some (i,I7 s) else some (j,m)
def yX (l:List St):Nat→Option (Nat×BitVec 64)
  |0=>none
  |i+1=>S4 (yX l i) i (l.getD i default)
def dS (e:fu):Ev:=⟨e.tm,e.k,e.t,e.l,e.n⟩
/-! what an event that may come does -/
theorem ft {w:ck} {e:fu} (h:mO w e=true):oW w e=true∧w.now.toNat≤e.tm.toNat:=by
  unfold mO at h;rw [Bool.and_eq_true] at h
  refine ⟨h.1,?_⟩;have:=h.1
  unfold oW at this;rw [Bool.and_eq_true,Bool.and_eq_true,decide_eq_true_eq] at this;exact this.1.1
theorem LN {w:ck} {e:fu} (h:oW w e=true) (hk:e.k=4∨e.k=5∨e.k=6∨e.k=12):0≤e.l∧e.l<(w.sh.length:Int):=by
  unfold oW at h;rw [Bool.and_eq_true,Bool.and_eq_true] at h
  have:=h.1.2;rw [if_pos (by unfold OP;rcases hk with q|q|q|q<;>rw [q] <;>rfl),Bool.or_eq_true] at this;rcases this with q|q
  · simpa using q
  · simp only [Bool.and_eq_true,decide_eq_true_eq] at q;omega
theorem rz {w:ck} {e:fu} (h:mO w e=true) (hk:e.k≠1):∃t:Nat,e.t=(t:Int)∧t<w.ts.length∧qp {w with now:=e.tm} t e=true∧dh w e=ofM {w with now:=e.tm} t e:=by
  have hf:=(ft h).1
  unfold mO at h;rw [Bool.and_eq_true,if_neg hk] at h
  simp only [Bool.and_eq_true,decide_eq_true_eq] at h;refine ⟨e.t.toNat,by omega,by omega,h.2.2.2,?_⟩
  unfold dh;rw [hf,if_neg (by decide),if_neg hk,if_neg om]
theorem ze {w:ck} {e:fu} (h:mO w e=true):(dh w e).now=e.tm:=by
  by_cases hk:e.k=1
  · have hf:=(ft h).1
    unfold dh;rw [hf,if_neg (by decide),if_pos hk];unfold Hx;split<;>rfl
  · obtain ⟨t,_,_,_,e4⟩:=rz h hk
    rw [e4,EF]
structure w9 (w u:ck):Prop where
  rd:u.rd=w.rd
  wr:u.wr=w.wr
  sh:u.sh=w.sh
theorem w9.refl (w:ck):w9 w w:=⟨rfl,rfl,rfl⟩
theorem eJ {w a b:ck} {c:Prop} [Decidable c] (h1:w9 w a) (h2:w9 w b):w9 w (if c then a else b):=by split;exact h1;exact h2
theorem of_same {w:ck} {t:Nat} {e:fu} (h4:e.k≠4) (h5:e.k≠5) (gH:e.k≠12):w9 w (ofM w t e):=by
  unfold ofM
  rw [if_neg h4,if_neg h5,if_neg gH];have hp:∀T,w9 w (w.put t T):=fun T=>⟨rfl,rfl,rfl⟩
  have hb:w9 w (vQ w t e):=by unfold vQ;split;exact hp _;exact .refl _
  exact eJ (hp _) (eJ (hp _) (eJ hb (eJ (hp _) (eJ (hp _) (eJ (hp _) (eJ (hp _) (eJ (eJ (hp _) (.refl _)) (eJ (eJ (hp _) (.refl _)) (.refl _)))))))))
theorem Jm {w:ck} {e:fu} (h:mO w e=true) (h4:e.k≠4) (h5:e.k≠5) (gH:e.k≠12):w9 w (dh w e):=by
  by_cases hk:e.k=1
  · unfold dh;rw [(ft h).1,if_neg (by decide),if_pos hk];unfold Hx;split<;>exact⟨rfl,rfl,rfl⟩
  · obtain ⟨t,_,_,_,e4⟩:=rz h hk
    rw [e4];have:=of_same (w:= {w with now:=e.tm}) (t:=t) h4 h5 gH;exact⟨this.rd,this.wr,this.sh⟩
structure WK (w:ck):Prop where
  n:w.ts.length≤64
  rl:w.rd.length=w.sh.length
  wl:w.wr.length=w.sh.length
/-! holds -/
def hR (a b:St):Prop:=(a.lock=b.lock→a.task≠b.task→(a.read&&b.read)=false→a.fin≠0∧a.to.toNat≤b.zG.toNat)∧(a.fin=0→b.fin=0→¬(a.task=b.task∧a.lock=b.lock))
structure HI (w:ck) (out:List St):Prop where
  k:WK w
  op:∀s∈out,s.fin=0→0≤s.task∧s.task<64∧0≤s.lock∧s.lock<(w.sh.length:Int)∧(if s.read=true then aN (lp w s.lock.toNat) s.task=true else aN (mf w s.lock.toNat) s.task=true)
  al:∀(l:Nat) (t:Int),l<w.sh.length→lU w t l=true→∃s∈out,s.fin=0∧s.task=t∧s.lock=(l:Int)
  tm:∀s∈out,s.zG.toNat≤w.now.toNat∧(s.fin≠0→s.zG.toNat≤s.to.toNat∧s.to.toNat≤w.now.toNat)
  pw:out.Pairwise hR
theorem HI.nil (s:kh):HI (Jk s) [] :=by
  refine ⟨⟨Nat.zero_le _,?_,?_⟩,fun s hs=>(by cases hs),fun l t hl ht=>?_,fun s hs=>(by cases hs),List.Pairwise.nil⟩
  · show (List.replicate _ _).length=(List.map _ _).length;rw [List.length_replicate,List.length_map]
  · show (List.replicate _ _).length=(List.map _ _).length;rw [List.length_replicate,List.length_map]
  · unfold lU at ht
    rw [show lp (Jk s) l=0#64 from q6 _ _,show mf (Jk s) l=0#64 from q6 _ _] at ht;rw [show (0#64|||0#64:BitVec 64)=0#64 by decide,cF] at ht;cases ht
theorem Qz {w:ck} {e:fu} (h:mO w e=true) (hn:w.ts.length≤64):(dh w e).ts.length≤64:=by
  by_cases hk:e.k=1
  · have hb:=h
    unfold mO at hb;rw [Bool.and_eq_true,if_pos hk] at hb
    unfold dh;rw [(ft h).1,if_neg (by decide),if_pos hk];unfold Hx
    rw [if_pos (show B1 {w with now:=e.tm} e=true from hb.2)];have:=hb.2
    unfold B1 at this;simp only [Bool.and_eq_true,decide_eq_true_eq] at this
    show (w.ts++ [_]).length≤64
    rw [List.length_append,List.length_singleton];omega
  · obtain ⟨t,_,_,_,e4⟩:=rz h hk
    rw [e4];have hl:∀(w:ck) (b:Bool),(mY w e b).ts.length=w.ts.length:=fun w b=>by unfold mY;split<;>rfl
    have ha:∀w:ck,(jz w e).ts.length=w.ts.length:=fun w=>by unfold jz;split<;>rfl
    have hlen:(ofM {w with now:=e.tm} t e).ts.length=w.ts.length:=by
      have hp:∀T,(ck.put {w with now:=e.tm} t T).ts.length=w.ts.length:=fun T=>List.length_set ..;have ite:∀{c:Prop} [Decidable c] {a b:ck},a.ts.length=w.ts.length→b.ts.length=w.ts.length→(if c then a else b).ts.length=w.ts.length:=fun h1 h2=>by split;exact h1;exact h2
      unfold ofM
      refine ite (hp _) (ite (hp _) (ite ?_ (ite (hl _ _) (ite (hl _ _) (ite ?_ (ite (hp _) (ite (hp _) (ite (hp _) (ite (hp _) (ite (ite (hp _) rfl) (ite (ite (hp _) rfl) rfl)))))))))))
      · unfold tD;exact ite (ite ((List.length_set ..).trans (ha _)) (ha _)) rfl
      · unfold vQ;exact ite (hp _) rfl
    rw [hlen];exact hn
theorem F0 {s:St} {e:Ev} (h5:e.kind≠5) (gH:e.kind≠12):stepT aF s e=s:=by
  unfold stepT;rw [if_neg];rintro ⟨_,_,q⟩;apply q;unfold aF;rw [if_neg h5,if_neg gH];split<;>rfl
theorem map_id {out:List St} {f:St→St} (h:∀s,f s=s):out.map f=out:=by rw [show f=id from funext h,List.map_id]
theorem HI.still {w:ck} {out:List St} {e:fu} (h:HI w out) (hb:mO w e=true) (h4:e.k≠4) (h5:e.k≠5) (gH:e.k≠12):HI (dh w e) (bP aF 4 out (dS e)):=by
  have hs:=Jm hb h4 h5 gH
  have ho:bP aF 4 out (dS e)=out:=by
    unfold bP;rw [map_id (fun s=>F0 (e:=dS e) h5 gH),if_neg (show¬(dS e).kind=4 from h4),List.append_nil]
  rw [ho];have ht:=(ft hb).2;refine ⟨⟨Qz hb h.k.n,by rw [hs.rd,hs.sh];exact h.k.rl,by rw [hs.wr,hs.sh];exact h.k.wl⟩,fun s FZ h0=>?_,fun l t hl hh=>?_,fun s FZ=>?_,h.pw⟩
  · unfold lp mf;rw [hs.rd,hs.wr,hs.sh];exact h.op s FZ h0
  · rw [hs.sh] at hl;unfold lU lp mf at hh;rw [hs.rd,hs.wr] at hh;exact h.al l t hl hh
  · rw [ze hb];have:=h.tm s FZ;exact⟨by omega,fun q=>by have:=this.2 q;omega⟩
theorem HI.ends {w:ck} {out:List St} {e:fu} (h:HI w out) (hb:mO w e=true) (hk:e.k=5∨e.k=12):HI (dh w e) (bP aF 4 out (dS e)):=by
  obtain ⟨t,e1,e2,e3,e4⟩:=rz hb om;have hl:=LN (ft hb).1 om;have ht:=(ft hb).2;obtain ⟨l,eO⟩:∃l:Nat,e.l=(l:Int):=⟨e.l.toNat,by omega⟩
  have gZ:l<w.sh.length:=by omega
  have hM:dh w e=Ek {w with now:=e.tm} t l:=by
    rw [e4]
    unfold qp at e3;unfold ofM
    rcases hk with q|q
    · rw [if_neg om,if_neg om,if_neg om,if_pos q] at e3 ⊢
      unfold mY;rw [if_pos e3,e1,eO,Int.toNat_natCast]
    · rw [if_neg om,if_neg om,if_neg om,if_neg om,if_pos q] at e3 ⊢
      unfold mY;rw [if_pos e3,e1,eO,Int.toNat_natCast]
  have Qy:¬(dS e).kind=4:=by show¬e.k=4;omega
  have ho:bP aF 4 out (dS e)=out.map (fun s=>stepT aF s (dS e)):=by unfold bP;rw [if_neg Qy,List.append_nil]
  have er:∀s:St,(s.fin=0∧s.task=(t:Int)∧s.lock=(l:Int)∧stepT aF s (dS e)= {s with fin:=aF s (dS e),to:=e.tm}∧aF s (dS e)≠0)∨(stepT aF s (dS e)=s∧¬(s.fin=0∧s.task=(t:Int)∧s.lock=(l:Int))):=fun s=>by
    by_cases c:s.fin=0∧s.task=(t:Int)∧s.lock=(l:Int)
    · refine .inl ⟨c.1,c.2.1,c.2.2,?_⟩
      have eb:aF s (dS e)≠0:=by
        unfold aF;rw [if_neg (show¬(dS e).lock≠s.lock by show¬e.l≠s.lock;omega)]
        rcases hk with q|q
        · rw [if_pos (show (dS e).kind=5 from q)];decide
        · rw [if_neg (show¬(dS e).kind=5 by show¬e.k=5;omega),if_pos (show (dS e).kind=12 from q)];decide
      exact⟨by unfold stepT;rw [if_pos ⟨c.1,c.2.1.trans e1.symm,eb⟩];rfl,eb⟩
    · refine .inr ⟨?_,c⟩
      unfold stepT;rw [if_neg]
      rintro ⟨a1,a2,a3⟩;refine c ⟨a1,a2.trans e1,?_⟩;refine Classical.byContradiction fun n=>a3 ?_
      unfold aF;rw [if_pos (show (dS e).lock≠s.lock by show e.l≠s.lock;omega)]
  have k1:=h.k.rl;have k2:=h.k.wl;rw [ho,hM];have hg:∀j,lp (Ek {w with now:=e.tm} t l) j=if l=j then xj (lp w l) t else lp w j:=fun j=>uo (w:=w) om _ j
  have Y2:∀j,mf (Ek {w with now:=e.tm} t l) j=if l=j then xj (mf w l) t else mf w j:=fun j=>ub (w:=w) om _ j
  refine ⟨⟨h.k.n,?_,?_⟩,fun s hs h0=>?_,fun j u hj hh=>?_,fun s hs=>?_,?_⟩
  · show (w.rd.set l _).length=_;rw [List.length_set];exact k1
  · show (w.wr.set l _).length=_;rw [List.length_set];exact k2
  · obtain ⟨a,ha,rfl⟩:=List.mem_map.1 hs
    rcases er a with ⟨c1,c2,c3,c4,c5⟩|⟨c1,c2⟩
    · rw [c4] at h0;exact absurd h0 c5
    · rw [c1] at h0 ⊢
      obtain ⟨p1,p2,p3,p4,p5⟩:=h.op a ha h0;refine ⟨p1,p2,p3,p4,?_⟩;have eb:¬(l=a.lock.toNat∧a.task=(t:Int)):=fun q=>c2 ⟨h0,q.2,by omega⟩;rw [hg,Y2]
      by_cases q:l=a.lock.toNat
      · have Ey:a.task≠(t:Int):=fun r=>eb ⟨q,r⟩
        rw [if_pos q,if_pos q,q,gK,gK,decide_eq_false Ey]
        split<;>rename_i r
        · rw [if_pos r] at p5;rw [p5];rfl
        · rw [if_neg r] at p5;rw [p5];rfl
      · rw [if_neg q,if_neg q];exact p5
  · have hj:j<w.sh.length:=hj
    have ZX:lU w u j=true∧¬(l=j∧u=(t:Int)):=by
      unfold lU at hh ⊢
      rw [hg,Y2,eS] at hh;rw [eS]
      by_cases q:l=j
      · rw [if_pos q,if_pos q,gK,gK,q] at hh
        refine ⟨?_,fun r=>?_⟩
        · revert hh;cases aN (lp w j) u<;>cases aN (mf w j) u<;>simp
        · rw [r.2] at hh;simp at hh
      · rw [if_neg q,if_neg q] at hh;exact⟨hh,fun r=>q r.1⟩
    obtain ⟨s,hs,s1,s2,s3⟩:=h.al j u hj ZX.1;refine ⟨s,List.mem_map.2 ⟨s,hs,?_⟩,s1,s2,s3⟩;rcases er s with ⟨c1,c2,c3,c4,c5⟩|⟨c1,c2⟩
    · exact absurd ⟨by omega,by omega⟩ ZX.2
    · exact c1
  · obtain ⟨a,ha,rfl⟩:=List.mem_map.1 hs
    have:=h.tm a ha
    show _≤e.tm.toNat∧(_→_∧_≤e.tm.toNat)
    rcases er a with ⟨c1,c2,c3,c4,c5⟩|⟨c1,c2⟩
    · rw [c4];exact⟨by show a.zG.toNat≤_;omega,fun _=>⟨by show a.zG.toNat≤e.tm.toNat;omega,Nat.le_refl _⟩⟩
    · rw [c1];exact⟨by omega,fun q=>by have:=this.2 q;omega⟩
  · rw [List.pairwise_map]
    refine h.pw.imp_of_mem (fun {a b} ha hb jR=>?_);have sa:=oQ aF a (dS e);have sb:=oQ aF b (dS e);refine ⟨fun q1 q2 q3=>?_,fun q1 q2=>?_⟩
    · rw [sa.2.1,sb.2.1] at q1;rw [sa.1,sb.1] at q2;rw [sa.2.2.2,sb.2.2.2] at q3
      obtain ⟨r1,r2⟩:=jR.1 q1 q2 q3;rw [sb.2.2.1];rcases er a with ⟨c1,c2,c3,c4,c5⟩|⟨c1,c2⟩
      · exact absurd c1 r1
      · rw [c1];exact⟨r1,r2⟩
    · rw [sa.1,sb.1,sa.2.1,sb.2.1]
      refine jR.2 ?_ ?_
      · rcases er a with ⟨c1,c2,c3,c4,c5⟩|⟨c1,c2⟩
        · exact c1
        · rw [c1] at q1;exact q1
      · rcases er b with ⟨c1,c2,c3,c4,c5⟩|⟨c1,c2⟩
        · exact c1
        · rw [c1] at q2;exact q2
theorem HI.T3 {w:ck} {out:List St} {e:fu} (h:HI w out) (hb:mO w e=true) (hk:e.k=4):HI (dh w e) (bP aF 4 out (dS e)):=by
  obtain ⟨t,e1,e2,e3,e4⟩:=rz hb om;have hl:=LN (ft hb).1 om;have ht:=(ft hb).2;obtain ⟨l,eO⟩:∃l:Nat,e.l=(l:Int):=⟨e.l.toNat,by omega⟩
  have gZ:l<w.sh.length:=by omega
  have k0:=h.k.n;have k1:=h.k.rl;have k2:=h.k.wl
  have ha:Az w (bX w t) e=true:=by
    unfold qp at e3;rw [if_neg om,if_neg om,if_pos hk] at e3;exact e3
  have hM:∃T:Option ui,dh w e=(match T with|some T=>(jz {w with now:=e.tm} e).put t T|none=>jz {w with now:=e.tm} e):=by
    rw [e4];unfold ofM;rw [if_neg om,if_neg om,if_pos hk]
    unfold tD;rw [if_pos (show Az {w with now:=e.tm} (bX {w with now:=e.tm} t) e=true from ha)]
    split
    · exact⟨some _,rfl⟩
    · exact⟨none,rfl⟩
  have hS:w9 (jz {w with now:=e.tm} e) (dh w e):=by
    obtain ⟨T,q⟩:=hM;rw [q];cases T<;>exact⟨rfl,rfl,rfl⟩
  unfold Az at ha
  simp only [Bool.and_eq_true,decide_eq_true_eq,Bool.not_eq_true'] at ha;obtain ⟨_,a1,a2,a3,a4,a5⟩:=ha;rw [eO,Int.toNat_natCast,e1] at a1;rw [eO,Int.toNat_natCast] at a4 a5
  have hrd:(decide (e.n=2)||decide (e.n=3))=decide (2≤e.n):=by
    by_cases q:2≤e.n
    · rw [decide_eq_true q];rcases (show e.n=2∨e.n=3 by omega) with r|r<;>rw [r] <;>rfl
    · rw [decide_eq_false q,decide_eq_false om,decide_eq_false om];rfl
  have UB:lS 4 (dS e)=⟨t,l,e.tm,0#64,0,decide (2≤e.n)⟩:=by
    unfold lS
    show (⟨e.t,e.l,e.tm,0#64,0,true&&(decide (e.n=2)||decide (e.n=3))⟩:St)=_
    rw [hrd,e1,eO];rfl
  have ho:bP aF 4 out (dS e)=out++ [⟨t,l,e.tm,0#64,0,decide (2≤e.n)⟩] :=by
    unfold bP;rw [map_id (fun s=>F0 (e:=dS e) (by show e.k≠5;omega) (by show e.k≠12;omega)),if_pos (show (dS e).kind=4 from hk),UB]
  have U2:∀j,lp (dh w e) j=if 2≤e.n∧l=j then da (lp w l) t else lp w j:=fun j=>by
    unfold lp;rw [hS.rd];unfold jz
    by_cases q:2≤e.n
    · rw [if_pos q,eO,Int.toNat_natCast,e1]
      rw [show (List.getD _ j 0#64)=if l=j then da (lp w l) t else lp w j from uo (w:=w) om _ j]
      by_cases r:l=j
      · rw [if_pos r,if_pos ⟨q,r⟩]
      · rw [if_neg r,if_neg (fun z=>r z.2)]
    · rw [if_neg q,if_neg (fun z=>q z.1)]
  have hgw:∀j,mf (dh w e) j=if¬2≤e.n∧l=j then da (mf w l) t else mf w j:=fun j=>by
    unfold mf;rw [hS.wr];unfold jz
    by_cases q:2≤e.n
    · rw [if_pos q,if_neg (fun z=>z.1 q)]
    · rw [if_neg q,eO,Int.toNat_natCast,e1]
      rw [show (List.getD _ j 0#64)=if l=j then da (mf w l) t else mf w j from ub (w:=w) om _ j]
      by_cases r:l=j
      · rw [if_pos r,if_pos ⟨q,r⟩]
      · rw [if_neg r,if_neg (fun z=>r z.2)]
  have eX:(dh w e).sh=w.sh:=by rw [hS.sh];unfold jz;split<;>rfl
  have GN:∀(s:BitVec 64) (q:Int),aN s q=true→aN (da s t) q=true:=fun s q hq=>by rw [dW,hq];rfl
  have hold:∀s:St,s.fin=0→0≤s.lock→(if s.read=true then aN (lp w s.lock.toNat) s.task=true else aN (mf w s.lock.toNat) s.task=true)→(if s.read=true then aN (lp (dh w e) s.lock.toNat) s.task=true else aN (mf (dh w e) s.lock.toNat) s.task=true):=fun s _ _ hs=>by
    rw [U2,hgw]
    by_cases q:s.read=true
    · rw [if_pos q] at hs ⊢;split
      · next r=>rw [r.2];exact GN _ _ hs
      · exact hs
    · rw [if_neg q] at hs ⊢;split
      · next r=>rw [r.2];exact GN _ _ hs
      · exact hs
  have abX:∀s∈out,s.fin=0→¬(s.task=(t:Int)∧s.lock=(l:Int)):=fun s hs h0 q=>by
    obtain ⟨p1,p2,p3,p4,p5⟩:=h.op s hs h0;rw [q.1,q.2,Int.toNat_natCast] at p5
    unfold lU at a1;rw [eS] at a1
    split at p5
    · rw [p5] at a1;cases a1
    · rw [p5] at a1;simp at a1
  rw [ho];have hrl:(dh w e).rd.length=w.rd.length:=by rw [hS.rd];unfold jz;split;exact List.length_set ..;rfl
  have Pc:(dh w e).wr.length=w.wr.length:=by rw [hS.wr];unfold jz;split;rfl;exact List.length_set ..
  refine ⟨⟨Qz hb k0,by rw [hrl,eX];exact k1,by rw [Pc,eX];exact k2⟩,fun s hs h0=>?_,fun j u hj hh=>?_,fun s hs=>?_,?_⟩
  · rw [eX]
    rcases List.mem_append.1 hs with hs|hs
    · obtain ⟨p1,p2,p3,p4,p5⟩:=h.op s hs h0
      exact⟨p1,p2,p3,p4,hold s h0 p3 p5⟩
    · rw [List.mem_singleton.1 hs]
      refine ⟨Int.natCast_nonneg t,by show (t:Int)<64;omega,Int.natCast_nonneg l,by show (l:Int)<_;omega,?_⟩
      show if decide (2≤e.n)=true then aN (lp (dh w e) (l:Int).toNat) t=true else aN (mf (dh w e) (l:Int).toNat) t=true
      rw [Int.toNat_natCast,U2,hgw]
      by_cases q:2≤e.n
      · rw [decide_eq_true q,if_pos rfl,if_pos ⟨q,rfl⟩,dW,decide_eq_true rfl,decide_eq_true (show (0:Int)≤t by omega),decide_eq_true (show (t:Int)<64 by omega)];simp
      · rw [decide_eq_false q,if_neg (by decide),if_pos ⟨q,rfl⟩,dW,decide_eq_true rfl,decide_eq_true (show (0:Int)≤t by omega),decide_eq_true (show (t:Int)<64 by omega)];simp
  · rw [eX] at hj
    by_cases c:l=j∧u=(t:Int)
    · exact⟨_,List.mem_append_right _ (List.mem_singleton.2 rfl),rfl,c.2.symm,by show (l:Int)=j;rw [c.1]⟩
    · have ZX:lU w u j=true:=by
        unfold lU at hh ⊢
        rw [eS,U2,hgw,Bool.or_eq_true] at hh;rw [eS,Bool.or_eq_true];refine hh.imp (fun q=>?_) (fun q=>?_)
        · split at q
          · next r=>rw [dW,Bool.or_eq_true] at q;rcases q with q|q;rw [←r.2];exact q;simp only [Bool.and_eq_true,decide_eq_true_eq] at q;exact absurd ⟨r.2,q.1⟩ c
          · exact q
        · split at q
          · next r=>rw [dW,Bool.or_eq_true] at q;rcases q with q|q;rw [←r.2];exact q;simp only [Bool.and_eq_true,decide_eq_true_eq] at q;exact absurd ⟨r.2,q.1⟩ c
          · exact q
      obtain ⟨s,hs,s1,s2,s3⟩:=h.al j u hj ZX;exact⟨s,List.mem_append_left _ hs,s1,s2,s3⟩
  · rw [ze hb]
    rcases List.mem_append.1 hs with hs|hs
    · have:=h.tm s hs;exact⟨by omega,fun q=>by have:=this.2 q;omega⟩
    · rw [List.mem_singleton.1 hs];exact⟨Nat.le_refl _,fun q=>absurd rfl q⟩
  · rw [List.pairwise_append]
    refine ⟨h.pw,List.pairwise_singleton ..,fun a ha b SY=>?_⟩;rw [List.mem_singleton.1 SY];refine ⟨fun q1 q2 q3=>?_,fun q1 _=>abX a ha q1⟩
    have hc:a.fin≠0:=fun h0=>by
      obtain ⟨p1,p2,p3,p4,p5⟩:=h.op a ha h0;have q1:a.lock=(l:Int):=q1;rw [q1,Int.toNat_natCast,a4,cF] at p5
      by_cases r:a.read=true
      · have q3:(a.read&&decide (2≤e.n))=false:=q3
        rw [r,Bool.true_and,decide_eq_false_iff_not] at q3;rw [if_neg q3,decide_eq_true_eq] at a5;rw [if_pos r,a5,cF] at p5;cases p5
      · rw [if_neg r] at p5;cases p5
    have:=h.tm a ha;exact⟨hc,by show a.to.toNat≤e.tm.toNat;have:=this.2 hc;omega⟩
theorem HI.step {w:ck} {out:List St} {e:fu} (h:HI w out) (hb:mO w e=true):HI (dh w e) (bP aF 4 out (dS e)):=by
  by_cases h4:e.k=4
  · exact h.T3 hb h4
  by_cases h5:e.k=5∨e.k=12
  · exact h.ends hb h5
  · exact h.still hb h4 om om
theorem vA (en:St→Ev→Int) (kind:Int) (l:List Ev) (e:Ev):dL en kind (l++ [e])=bP en kind (dL en kind l) e:=by unfold dL;rw [List.foldl_append];rfl
theorem HI.run {s:kh} {l:List fu} {w:ck} (h:U9 (Jk s) l w):HI w (dL aF 4 (l.map dS)):=by
  induction h with
  |nil=>exact HI.nil s
  |snoc h1 h2 ih=>rw [List.map_append,List.map_singleton,vA];exact ih.step h2
structure UD (T T':ui) (e:fu):Prop where
  a:T.how=4→((e.k=4∨e.k=8)∧e.l=T.lock∧T'.how≠4)∨(e.k=11∧T'.how≠4)∨(e.k=12∧T'=T)
  b:T.how≠4→(e.k=6∧T'.how=4∧T'.lock=e.l)∨(e.k≠6∧T'.how≠4)
theorem uQ {t:ui} {fr to:Int} {may:Bool} (h:gx t fr may=true):t.how=fr∧ki t fr to may= {t with how:=to} :=by
  refine ⟨?_,if_pos h⟩
  unfold gx at h;rw [Bool.and_eq_true,decide_eq_true_eq] at h;exact h.1
theorem I1 (w:ck) (e:fu) (b:Bool):(mY w e b).ts=w.ts:=by unfold mY;split<;>rfl
theorem uj (w:ck) (e:fu):(jz w e).ts=w.ts:=by unfold jz;split<;>rfl
theorem WQ {w:ck} {t:Nat} {e:fu} (ht:t<w.ts.length) (hb:qp w t e=true):∃T',(∀j,bX (ofM w t e) j=if t=j then T' else bX w j)∧(ofM w t e).ts.length=w.ts.length∧UD (bX w t) T' e:=by
  have put:∀T':ui,UD (bX w t) T' e→ofM w t e=w.put t T'→∃T',(∀j,bX (ofM w t e) j=if t=j then T' else bX w j)∧(ofM w t e).ts.length=w.ts.length∧UD (bX w t) T' e:=fun T' h1 h2=>⟨T',fun j=>by rw [h2];exact qE ht T' j,by rw [h2];exact List.length_set ..,h1⟩
  have same:UD (bX w t) (bX w t) e→(ofM w t e).ts=w.ts→∃T',(∀j,bX (ofM w t e) j=if t=j then T' else bX w j)∧(ofM w t e).ts.length=w.ts.length∧UD (bX w t) T' e:=fun h1 h2=>⟨bX w t,fun j=>by
    unfold bX;rw [h2]
    by_cases q:t=j
    · rw [if_pos q,q]
    · rw [if_neg q],by rw [h2],h1⟩
  by_cases h2:e.k=2
  · have e1:ofM w t e=w.put t (ki (bX w t) 1 2 (decide (e.n=(bX w t).core)&&HC w (bX w t).core)):=by unfold ofM;rw [if_pos h2]
    unfold qp at hb;rw [if_pos h2] at hb
    obtain ⟨q1,q2⟩:=uQ (to:=2) hb;rw [q2] at e1;exact put _ ⟨fun r=>(by rw [q1] at r;cases r),fun _=> .inr ⟨by omega,by show (2:Int)≠4;decide⟩⟩ e1
  by_cases h3:e.k=3∨e.k=10
  · have e1:ofM w t e=w.put t (ki (bX w t) 2 1 (decide (e.n=(bX w t).core))):=by unfold ofM;rw [if_neg h2,if_pos h3]
    unfold qp at hb;rw [if_neg h2,if_pos h3] at hb
    obtain ⟨q1,q2⟩:=uQ (to:=1) hb;rw [q2] at e1;exact put _ ⟨fun r=>(by rw [q1] at r;cases r),fun _=> .inr ⟨by omega,by show (1:Int)≠4;decide⟩⟩ e1
  by_cases h4:e.k=4
  · have e1:ofM w t e=tD w t e:=by unfold ofM;rw [if_neg h2,if_neg h3,if_pos h4]
    unfold qp at hb;rw [if_neg h2,if_neg h3,if_pos h4] at hb
    unfold tD at e1;rw [if_pos hb] at e1
    have tf:=hb
    unfold Az at tf;rw [Bool.and_eq_true,Bool.or_eq_true,decide_eq_true_eq] at tf
    by_cases hw:DW (bX w t) e=true
    · rw [if_pos hw] at e1
      have Hg:=hw
      unfold DW at Hg;rw [Bool.and_eq_true,decide_eq_true_eq,decide_eq_true_eq] at Hg
      refine ⟨{bX w t with how:=6},fun j=>?_,?_,⟨fun r=> .inl ⟨.inl h4,Hg.2.symm,by show (6:Int)≠4;decide⟩,fun r=>absurd Hg.1 r⟩⟩
      · rw [e1]
        have:=qE (w:=jz w e) (t:=t) (by rw [uj];exact ht) {bX w t with how:=6} j;rw [this];unfold bX;rw [uj]
      · rw [e1];exact(List.length_set ..).trans (by rw [uj])
    · rw [if_neg hw] at e1
      have wV:(bX w t).how=2:=tf.1.resolve_right hw;exact same ⟨fun r=>(by rw [wV] at r;cases r),fun r=> .inr ⟨by omega,r⟩⟩ (by rw [e1,uj])
  by_cases h5:e.k=5
  · have e1:ofM w t e=mY w e (decide ((bX w t).how=2)):=by unfold ofM;rw [if_neg h2,if_neg h3,if_neg h4,if_pos h5]
    unfold qp at hb;rw [if_neg h2,if_neg h3,if_neg h4,if_pos h5] at hb
    unfold BX at hb;rw [Bool.and_eq_true,decide_eq_true_eq] at hb
    exact same ⟨fun r=>(by rw [hb.1] at r;cases r),fun r=> .inr ⟨by omega,r⟩⟩ (by rw [e1,I1])
  by_cases gH:e.k=12
  · have e1:ofM w t e=mY w e (decide ((bX w t).how≠5)):=by unfold ofM;rw [if_neg h2,if_neg h3,if_neg h4,if_neg h5,if_pos gH]
    exact same ⟨fun r=> .inr (.inr ⟨gH,rfl⟩),fun r=> .inr ⟨by omega,r⟩⟩ (by rw [e1,I1])
  by_cases h6:e.k=6
  · have e1:ofM w t e=vQ w t e:=by unfold ofM;rw [if_neg h2,if_neg h3,if_neg h4,if_neg h5,if_neg gH,if_pos h6]
    unfold qp at hb;rw [if_neg h2,if_neg h3,if_neg h4,if_neg h5,if_neg gH,if_pos h6] at hb
    unfold vQ at e1;rw [if_pos hb] at e1
    have tf:=hb
    unfold IB gx at tf;rw [Bool.and_eq_true,decide_eq_true_eq] at tf
    exact put _ ⟨fun r=>(by rw [tf.1] at r;cases r),fun _=> .inl ⟨h6,rfl,rfl⟩⟩ e1
  by_cases h7:e.k=7
  · have e1:ofM w t e=w.put t (Kj (bX w t) (decide (e.n=(bX w t).core))):=by unfold ofM;rw [if_neg h2,if_neg h3,if_neg h4,if_neg h5,if_neg gH,if_neg h6,if_pos h7]
    unfold qp at hb;rw [if_neg h2,if_neg h3,if_neg h4,if_neg h5,if_neg gH,if_neg h6,if_pos h7] at hb
    rw [show Kj (bX w t) (decide (e.n=(bX w t).core))= {bX w t with how:=1} from if_pos hb] at e1
    unfold K0 at hb;simp only [Bool.and_eq_true,Bool.or_eq_true,decide_eq_true_eq] at hb
    exact put _ ⟨fun r=>by omega,fun _=> .inr ⟨by omega,by show (1:Int)≠4;decide⟩⟩ e1
  by_cases h8:e.k=8
  · have e1:ofM w t e=w.put t (By (bX w t) e):=by unfold ofM;rw [if_neg h2,if_neg h3,if_neg h4,if_neg h5,if_neg gH,if_neg h6,if_neg h7,if_pos h8]
    unfold qp at hb;rw [if_neg h2,if_neg h3,if_neg h4,if_neg h5,if_neg gH,if_neg h6,if_neg h7,if_pos h8] at hb
    unfold Gc at hb;rw [Bool.or_eq_true] at hb
    by_cases q:(decide ((bX w t).how=2)&&zF e.n)=true
    · rw [show By (bX w t) e=bX w t from if_pos q] at e1
      rw [Bool.and_eq_true,decide_eq_true_eq] at q;exact put _ ⟨fun r=>(by rw [q.1] at r;cases r),fun r=> .inr ⟨by omega,r⟩⟩ e1
    · have hb:=hb.resolve_left q
      obtain ⟨q1,q2⟩:=uQ (to:=7) hb;rw [show By (bX w t) e=ki (bX w t) 4 7 (decide ((bX w t).lock=e.l)&&decide (e.n=10)) from if_neg q,q2] at e1
      unfold gx at hb;simp only [Bool.and_eq_true,decide_eq_true_eq] at hb
      exact put _ ⟨fun _=> .inl ⟨.inr h8,hb.2.1.symm,by show (7:Int)≠4;decide⟩,fun r=>absurd q1 r⟩ e1
  by_cases h9:e.k=9
  · have e1:ofM w t e=w.put t (ki (bX w t) 2 3 (decide (1≤e.n)&&decide (e.n≤64))):=by unfold ofM;rw [if_neg h2,if_neg h3,if_neg h4,if_neg h5,if_neg gH,if_neg h6,if_neg h7,if_neg h8,if_pos h9]
    unfold qp at hb;rw [if_neg h2,if_neg h3,if_neg h4,if_neg h5,if_neg gH,if_neg h6,if_neg h7,if_neg h8,if_pos h9] at hb
    obtain ⟨q1,q2⟩:=uQ (to:=3) hb;rw [q2] at e1;exact put _ ⟨fun r=>(by rw [q1] at r;cases r),fun _=> .inr ⟨by omega,by show (3:Int)≠4;decide⟩⟩ e1
  by_cases jw:e.k=14
  · have e1:ofM w t e=w.put t (ki (bX w t) 2 2 (decide (1≤e.n)&&decide (e.n≤16))):=by unfold ofM;rw [if_neg h2,if_neg h3,if_neg h4,if_neg h5,if_neg gH,if_neg h6,if_neg h7,if_neg h8,if_neg h9,if_pos jw]
    unfold qp at hb;rw [if_neg h2,if_neg h3,if_neg h4,if_neg h5,if_neg gH,if_neg h6,if_neg h7,if_neg h8,if_neg h9,if_pos jw] at hb
    obtain ⟨q1,q2⟩:=uQ (to:=2) hb;rw [q2] at e1;exact put _ ⟨fun r=>(by rw [q1] at r;cases r),fun _=> .inr ⟨by omega,by show (2:Int)≠4;decide⟩⟩ e1
  by_cases kg:e.k=11
  · have e1:ofM w t e=(if qp w t e=true then w.put t {bX w t with how:=5} else w):=by
      conv=>lhs;unfold ofM
      rw [if_neg h2,if_neg h3,if_neg h4,if_neg h5,if_neg gH,if_neg h6,if_neg h7,if_neg h8,if_neg h9,if_neg jw,if_pos kg]
    rw [if_pos hb] at e1;exact put _ ⟨fun _=> .inr (.inl ⟨kg,by show (5:Int)≠4;decide⟩),fun _=> .inr ⟨by omega,by show (5:Int)≠4;decide⟩⟩ e1
  by_cases oq:e.k=13
  · have e1:ofM w t e=(if qp w t e=true then w.put t {bX w t with core:=e.n} else w):=by
      conv=>lhs;unfold ofM
      rw [if_neg h2,if_neg h3,if_neg h4,if_neg h5,if_neg gH,if_neg h6,if_neg h7,if_neg h8,if_neg h9,if_neg jw,if_neg kg,if_pos oq]
    rw [if_pos hb] at e1
    unfold qp at hb;rw [if_neg h2,if_neg h3,if_neg h4,if_neg h5,if_neg gH,if_neg h6,if_neg h7,if_neg h8,if_neg h9,if_neg jw,if_neg kg,if_pos oq] at hb
    unfold gx at hb;rw [Bool.and_eq_true,decide_eq_true_eq] at hb
    exact put {bX w t with core:=e.n} ⟨fun r=>(by rw [hb.1] at r;cases r),fun r=> .inr ⟨by omega,r⟩⟩ e1
  · unfold qp at hb;rw [if_neg h2,if_neg h3,if_neg h4,if_neg h5,if_neg gH,if_neg h6,if_neg h7,if_neg h8,if_neg h9,if_neg jw,if_neg kg,if_neg oq] at hb;cases hb
/-! waits -/
def wtR (a b:St):Prop:=a.fin=0→b.fin=0→a.task≠b.task
structure WI (w:ck) (out:List St):Prop where
  op:∀s∈out,s.fin=0→0≤s.task∧s.task.toNat<w.ts.length∧(bX w s.task.toNat).how=4∧(bX w s.task.toNat).lock=s.lock∧0≤s.lock∧s.lock<(w.sh.length:Int)
  al:∀t:Nat,t<w.ts.length→(bX w t).how=4→∃s∈out,s.fin=0∧s.task=(t:Int)
  tm:∀s∈out,s.zG.toNat≤w.now.toNat∧(s.fin≠0→s.zG.toNat≤s.to.toNat∧s.to.toNat≤w.now.toNat)
  pw:out.Pairwise wtR
theorem WI.nil (s:kh):WI (Jk s) [] :=⟨fun s hs=>(by cases hs),fun t ht=>absurd ht (Nat.not_lt_zero t),fun s hs=>(by cases hs),List.Pairwise.nil⟩
theorem Yv {w:ck} {t:Nat} {e:fu} :(ofM w t e).sh=w.sh:=by
  have hp:∀T,(w.put t T).sh=w.sh:=fun T=>rfl;have hl:∀b,(mY w e b).sh=w.sh:=fun b=>by unfold mY;split<;>rfl
  have ite:∀{c:Prop} [Decidable c] {a b:ck},a.sh=w.sh→b.sh=w.sh→(if c then a else b).sh=w.sh:=fun h1 h2=>by split;exact h1;exact h2
  have ha:(jz w e).sh=w.sh:=by unfold jz;exact ite rfl rfl
  unfold ofM
  refine ite (hp _) (ite (hp _) (ite ?_ (ite (hl _) (ite (hl _) (ite ?_ (ite (hp _) (ite (hp _) (ite (hp _) (ite (hp _) (ite (ite (hp _) rfl) (ite (ite (hp _) rfl) rfl)))))))))))
  · unfold tD;exact ite (ite ha ha) rfl
  · unfold vQ;exact ite (hp _) rfl
theorem WI.step {w:ck} {out:List St} {e:fu} (h:WI w out) (hb:mO w e=true):WI (dh w e) (bP aE 6 out (dS e)):=by
  have ht:=(ft hb).2;have ab2:=ze hb
  have tm:∀s∈bP aE 6 out (dS e),s.zG.toNat≤(dh w e).now.toNat∧(s.fin≠0→s.zG.toNat≤s.to.toNat∧s.to.toNat≤(dh w e).now.toNat):=fun s hs=>by
    rw [ab2]
    unfold bP at hs
    rcases List.mem_append.1 hs with hs|hs
    · obtain ⟨a,ha,rfl⟩:=List.mem_map.1 hs
      have:=h.tm a ha
      unfold stepT;split
      · exact⟨by show a.zG.toNat≤_;omega,fun _=>⟨by show a.zG.toNat≤e.tm.toNat;omega,Nat.le_refl _⟩⟩
      · exact⟨by omega,fun q=>by have:=this.2 q;omega⟩
    · split at hs
      · rw [List.mem_singleton.1 hs];exact⟨Nat.le_refl _,fun q=>absurd rfl q⟩
      · cases hs
  have pwm:(out.map (fun s=>stepT aE s (dS e))).Pairwise wtR:=by
    rw [List.pairwise_map];refine h.pw.imp (fun {a b} jR q1 q2=>?_);have sa:=oQ aE a (dS e);have sb:=oQ aE b (dS e);rw [sa.1,sb.1];refine jR ?_ ?_
    · unfold stepT at q1;split at q1
      · next r=>exact r.1
      · exact q1
    · unfold stepT at q2;split at q2
      · next r=>exact r.1
      · exact q2
  by_cases hk:e.k=1
  · have hM:∃T:ui,T.how=1∧dh w e= {w with now:=e.tm,ts:=w.ts++ [T] } :=by
      have SY:=hb
      unfold mO at SY;rw [Bool.and_eq_true,if_pos hk] at SY
      exact⟨⟨e.n,1,0⟩,rfl,by unfold dh;rw [(ft hb).1,if_neg (by decide),if_pos hk];unfold Hx;rw [if_pos (show B1 {w with now:=e.tm} e=true from SY.2)]⟩
    obtain ⟨T,hT,hM⟩:=hM
    have CB:∀s:St,stepT aE s (dS e)=s:=fun s=>by
      unfold stepT;rw [if_neg];rintro ⟨_,_,q⟩;apply q
      unfold aE;rw [if_neg (show¬(dS e).kind=11 by show¬e.k=11;omega),if_neg (show¬(dS e).kind=4 by show¬e.k=4;omega),if_neg (show¬(dS e).kind=8 by show¬e.k=8;omega)];split<;>rfl
    have ho:bP aE 6 out (dS e)=out:=by
      unfold bP;rw [map_id CB,if_neg (show¬(dS e).kind=6 by show¬e.k=6;omega),List.append_nil]
    rw [ho] at tm ⊢
    have hg:∀j,j<w.ts.length→bX (dh w e) j=bX w j:=fun j hj=>by
      rw [hM];show (w.ts++ [T]).getD j default=_
      rw [List.getD_eq_getElem?_getD,List.getElem?_append_left hj,←List.getD_eq_getElem?_getD]
    have hlen:(dh w e).ts.length=w.ts.length+1:=by rw [hM];show (w.ts++ [T]).length=_;rw [List.length_append];rfl
    have eX:(dh w e).sh=w.sh:=by rw [hM]
    refine ⟨fun s hs h0=>?_,fun t ht4 h4=>?_,tm,h.pw⟩
    · obtain ⟨p1,p2,p3⟩:=h.op s hs h0
      rw [hg _ p2,hlen,eX];exact⟨p1,by omega,p3⟩
    · rw [hlen] at ht4
      rcases Nat.lt_or_ge t w.ts.length with q|q
      · rw [hg t q] at h4;exact h.al t q h4
      · have e1:bX (dh w e) t=T:=by
          rw [hM,show t=w.ts.length by omega];show (w.ts++ [T]).getD w.ts.length default=_
          rw [List.getD_eq_getElem?_getD,List.getElem?_append_right (Nat.le_refl _),Nat.sub_self];rfl
        rw [e1,hT] at h4;cases h4
  obtain ⟨t,e1,e2,e3,e4⟩:=rz hb hk;obtain ⟨T',g1,g2,g3⟩:=WQ (w:= {w with now:=e.tm}) e2 e3;have eX:(dh w e).sh=w.sh:=by rw [e4,Yv]
  rw [←e4] at g1 g2;have g1:∀j,bX (dh w e) j=if t=j then T' else bX w j:=g1
  have g2:(dh w e).ts.length=w.ts.length:=g2;have g3:UD (bX w t) T' e:=g3
  -- a stay of this task that is open
  have er:∀s∈out,s.fin=0→(s.task=(t:Int)∧((stepT aE s (dS e)).fin≠0∧T'.how≠4∨stepT aE s (dS e)=s∧T'=bX w t))∨(s.task≠(t:Int)∧stepT aE s (dS e)=s):=fun s hs h0=>by
    by_cases c:s.task=(t:Int)
    · refine .inl ⟨c,?_⟩
      obtain ⟨p1,p2,p3,p4,p5,p6⟩:=h.op s hs h0;rw [c,Int.toNat_natCast] at p3 p4
      have cl:aE s (dS e)≠0→(stepT aE s (dS e)).fin≠0:=fun q=>by
        unfold stepT;rw [if_pos ⟨h0,c.trans e1.symm,q⟩];exact q
      rcases g3.a p3 with ⟨r1,r2,r3⟩|⟨r1,r3⟩|⟨r1,r3⟩
      · refine .inl ⟨cl ?_,r3⟩
        unfold aE
        rw [if_neg (show¬(dS e).kind=11 by show¬e.k=11;omega),if_neg (show¬(dS e).lock≠s.lock by show¬e.l≠s.lock;omega)];rcases r1 with q|q
        · rw [if_pos (show (dS e).kind=4 from q)];decide
        · rw [if_neg (show¬(dS e).kind=4 by show¬e.k=4;omega),if_pos (show (dS e).kind=8 from q)];decide
      · refine .inl ⟨cl ?_,r3⟩
        unfold aE;rw [if_pos (show (dS e).kind=11 from r1)];decide
      · refine .inr ⟨?_,r3⟩
        unfold stepT;rw [if_neg];rintro ⟨_,_,q⟩;apply q
        unfold aE;rw [if_neg (show¬(dS e).kind=11 by show¬e.k=11;omega),if_neg (show¬(dS e).kind=4 by show¬e.k=4;omega),if_neg (show¬(dS e).kind=8 by show¬e.k=8;omega)];split<;>rfl
    · exact .inr ⟨c,by unfold stepT;rw [if_neg (fun q=>c (q.2.1.trans e1))]⟩
  have op:∀s∈out.map (fun s=>stepT aE s (dS e)),s.fin=0→0≤s.task∧s.task.toNat<(dh w e).ts.length∧(bX (dh w e) s.task.toNat).how=4∧(bX (dh w e) s.task.toNat).lock=s.lock∧0≤s.lock∧s.lock<((dh w e).sh.length:Int):=fun s hs h0=>by
    obtain ⟨a,ha,rfl⟩:=List.mem_map.1 hs
    have V9:a.fin=0:=by
      have h0:(stepT aE a (dS e)).fin=0:=h0
      unfold stepT at h0;split at h0
      · next r=>exact r.1
      · exact h0
    obtain ⟨p1,p2,p3,p4,p5,p6⟩:=h.op a ha V9;rcases er a ha V9 with ⟨c,⟨q1,_⟩|⟨q1,q2⟩⟩|⟨c,q⟩
    · exact absurd h0 q1
    · show 0≤(stepT aE a (dS e)).task∧_
      rw [q1,g1,g2,eX,c,Int.toNat_natCast,if_pos rfl,q2];rw [c,Int.toNat_natCast] at p2 p3 p4;exact⟨Int.natCast_nonneg t,p2,p3,p4,p5,p6⟩
    · show 0≤(stepT aE a (dS e)).task∧_
      rw [q,g1,g2,eX,if_neg om];exact⟨p1,p2,p3,p4,p5,p6⟩
  by_cases h6:e.k=6
  · have Qy:(bX w t).how≠4:=fun q=>by
      rcases g3.a q with ⟨r,_⟩|⟨r,_⟩|⟨r,_⟩<;>omega
    obtain ⟨r1,r2,r3⟩:=(g3.b Qy).resolve_right (fun q=>q.1 h6);have hl:=LN (ft hb).1 om
    have eb:∀s∈out,s.fin=0→s.task≠(t:Int):=fun s hs h0 q=>by
      have:=(h.op s hs h0).2.2.1;rw [q,Int.toNat_natCast] at this;exact Qy this
    have QP:∀s∈out,stepT aE s (dS e)=s:=fun s hs=>by
      by_cases h0:s.fin=0
      · rcases er s hs h0 with ⟨c,_⟩|⟨_,q⟩
        · exact absurd c (eb s hs h0)
        · exact q
      · exact GP aE h0 _
    have UB:lS 6 (dS e)=⟨t,e.l,e.tm,0#64,0,false⟩:=by
      unfold lS;show (⟨e.t,e.l,e.tm,0#64,0,false&&_⟩:St)=_;rw [e1];rfl
    have ho:bP aE 6 out (dS e)=out.map (fun s=>stepT aE s (dS e))++ [⟨t,e.l,e.tm,0#64,0,false⟩] :=by
      unfold bP;rw [if_pos (show (dS e).kind=6 from h6),UB]
    rw [ho] at tm ⊢;refine ⟨fun s hs h0=>?_,fun j hj h4=>?_,tm,?_⟩
    · rcases List.mem_append.1 hs with hs|hs
      · exact op s hs h0
      · rw [List.mem_singleton.1 hs]
        show 0≤(t:Int)∧(t:Int).toNat<_∧(bX (dh w e) (t:Int).toNat).how=4∧(bX (dh w e) (t:Int).toNat).lock=e.l∧0≤e.l∧e.l<_
        rw [Int.toNat_natCast,g1,if_pos rfl,g2,eX];exact⟨Int.natCast_nonneg t,e2,r2,r3,hl.1,hl.2⟩
    · rw [g2] at hj;rw [g1] at h4
      by_cases c:t=j
      · exact⟨_,List.mem_append_right _ (List.mem_singleton.2 rfl),rfl,by show (t:Int)=j;rw [c]⟩
      · rw [if_neg c] at h4
        obtain ⟨s,hs,s1,s2⟩:=h.al j hj h4;exact⟨s,List.mem_append_left _ (List.mem_map.2 ⟨s,hs,QP s hs⟩),s1,s2⟩
    · rw [List.pairwise_append]
      refine ⟨pwm,List.pairwise_singleton ..,fun a ha b SY q1 _=>?_⟩;rw [List.mem_singleton.1 SY];obtain ⟨a',ha',rfl⟩:=List.mem_map.1 ha;rw [QP a' ha'] at q1 ⊢;exact eb a' ha' q1
  · have ho:bP aE 6 out (dS e)=out.map (fun s=>stepT aE s (dS e)):=by unfold bP;rw [if_neg (show¬(dS e).kind=6 from h6),List.append_nil]
    rw [ho] at tm ⊢;refine ⟨op,fun j hj h4=>?_,tm,pwm⟩;rw [g2] at hj;rw [g1] at h4
    by_cases c:t=j
    · rw [if_pos c] at h4
      have hh:(bX w t).how=4:=Classical.byContradiction fun n=>by
        rcases g3.b n with ⟨r,_⟩|⟨_,r⟩
        · exact h6 r
        · exact r h4
      obtain ⟨s,hs,s1,s2⟩:=h.al t e2 hh;refine ⟨s,List.mem_map.2 ⟨s,hs,?_⟩,s1,by rw [s2,c]⟩;rcases er s hs s1 with ⟨_,⟨_,q⟩|⟨q,_⟩⟩|⟨q,_⟩
      · exact absurd h4 q
      · exact q
      · exact absurd s2 q
    · rw [if_neg c] at h4
      obtain ⟨s,hs,s1,s2⟩:=h.al j hj h4;refine ⟨s,List.mem_map.2 ⟨s,hs,?_⟩,s1,s2⟩;rcases er s hs s1 with ⟨q,_⟩|⟨_,q⟩
      · exact absurd om c
      · exact q
theorem WI.run {s:kh} {l:List fu} {w:ck} (h:U9 (Jk s) l w):WI w (dL aE 6 (l.map dS)):=by
  induction h with
  |nil=>exact WI.nil s
  |snoc h1 h2 ih=>rw [List.map_append,List.map_singleton,vA];exact ih.step h2
theorem AF {l:List St} {b:St} :∀(n i:Nat),(∀j,i≤j→j<i+n→Cj (l.getD j default) b=false)→O9 l b i n=none
  |0,_,_=>rfl
  |n+1,i,h=>by
    unfold O9;rw [h i (Nat.le_refl _) om,if_neg (by decide)]
    exact AF n (i+1) (fun j h1 h2=>h j om om)
theorem xo {l:List St} (h:∀i k,i<k→k<l.length→Cj (l.getD i default) (l.getD k default)=false):∀(n k:Nat),k+n≤l.length→DQ l k n=none
  |0,_,_=>rfl
  |n+1,k,hk=>by
    unfold DQ
    rw [AF k 0 (fun j _ h2=>h j k om om)];exact xo h n (k+1) om
theorem I4 {l:List St} (h:l.Pairwise (fun a b=>Cj a b=false)):Yn l=none:=by
  refine xo (fun i k UU hk=>?_) _ _ om;rw [List.getD_eq_getElem?_getD,List.getD_eq_getElem?_getD,List.getElem?_eq_getElem hk,List.getElem?_eq_getElem om];exact List.pairwise_iff_getElem.1 h i k om hk UU
theorem Rf {a b:St} (h:hR a b):Cj a b=false:=by
  cases q:Cj a b with
  |false=>rfl
  |true=>
    unfold Cj at q
    simp only [Bool.and_eq_true,decide_eq_true_eq,Bool.not_eq_true'] at q;obtain ⟨q1,q2,q3,q4,q5⟩:=q;obtain ⟨r1,r2⟩:=h.1 q1 q2 q3
    unfold rC at q5;rw [decide_eq_false r1,decide_eq_false om] at q5;cases q5
/-! counting -/
def lx (f:Nat→Nat):Nat→Nat
  |0=>0
  |n+1=>lx f n+f n
def Qs (f:Nat→List Int):Nat→List (Int×Int)
  |0=>[]
  |n+1=>Qs f n++(f n).map (fun t=>(t,(n:Int)))
theorem ES (f:Nat→List Int):∀n,(Qs f n).length=lx (fun l=>(f l).length) n
  |0=>rfl
  |n+1=>by unfold Qs lx;rw [List.length_append,List.length_map,ES f n]
theorem zg (f:Nat→List Int):∀(n:Nat) (p:Int×Int),p∈Qs f n↔∃l,l<n∧p.2=(l:Int)∧p.1∈f l
  |0,p=>⟨fun h=>(by cases h),fun ⟨l,h,_⟩=>absurd h (Nat.not_lt_zero l)⟩
  |n+1,p=>by
    unfold Qs
    rw [List.mem_append,zg f n p,List.mem_map]
    constructor
    · rintro (⟨l,h1,h2⟩|⟨t,h1,rfl⟩)
      · exact⟨l,by omega,h2⟩
      · exact⟨n,by omega,rfl,h1⟩
    · rintro ⟨l,h1,h2,h3⟩
      by_cases c:l=n
      · subst c;exact .inr ⟨p.1,h3,by rw [←h2]⟩
      · exact .inl ⟨l,by omega,h2,h3⟩
theorem xZ {f:Nat→List Int} :∀{n:Nat},(∀l,l<n→(f l).Nodup)→(Qs f n).Nodup
  |0,_=>List.nodup_nil
  |n+1,h=>by
    unfold Qs
    rw [List.nodup_append];refine ⟨xZ (fun l hl=>h l om),?_,fun a ha b hb e=>?_⟩
    · unfold List.Nodup;rw [List.pairwise_map]
      exact(h n om).imp (fun {x y} SJ q=>SJ (Prod.mk.inj q).1)
    · obtain ⟨l,h1,h2,_⟩:=(zg f n a).1 ha
      obtain ⟨t,_,rfl⟩:=List.mem_map.1 hb;rw [e] at h2;have:(n:Int)=(l:Int):=h2;omega
theorem count_eq {P:List (Int×Int)} {f:Nat→List Int} {n:Nat} (hP:P.Nodup) (hf:∀l,l<n→(f l).Nodup) (h:∀p,p∈P↔∃l,l<n∧p.2=(l:Int)∧p.1∈f l):P.length=lx (fun l=>(f l).length) n:=by
  rw [←ES];have h':∀p,p∈P↔p∈Qs f n:=fun p=>by rw [h,zg]
  exact Nat.le_antisymm (List.Nodup.length_le_of_subset hP (fun p hp=>(h' p).1 hp)) (List.Nodup.length_le_of_subset (xZ hf) (fun p hp=>(h' p).2 hp))
def Cn (l:List St):Nat:=(l.filter (fun s=>decide (s.fin=0))).length
theorem oz {l:List St} {i:Nat} (h:i<l.length) (h2:(l.getD i default).fin=0):Cn (l.take (i+1))=Cn (l.take i)+1:=by
  unfold Cn;rw [bD default h,List.filter_append,List.filter_cons_of_pos (by simpa using h2),List.length_append];rfl
theorem rH {l:List St} {i:Nat} (h:i<l.length) (h2:¬(l.getD i default).fin=0):Cn (l.take (i+1))=Cn (l.take i):=by
  unfold Cn;rw [bD default h,List.filter_append,List.filter_cons_of_neg (by simpa using h2),List.length_append];rfl
structure Sfe (x:aC) (on:aY→Int→Bool) (f:Nat→List Int) (l:List St):Prop where
  op:∀s∈l,s.fin=0→0≤s.lock∧s.lock<(x.lk.length:Int)∧on (gL x s.lock.toNat) s.task=true
  tm:∀s∈l,s.fin≠0→s.zG.toNat≤s.to.toNat
  n:Cn l=lx (fun j=>(f j).length) x.lk.length
section
variable {k:Nat} {s:kh} {x:aC} (h:MW (Jk s) k x)
include h
theorem MW.holds:Sfe x bd (fun l=>(gL x l).ho.map (·.t)) (gJ aF 4 (x.ev.map dS))∧Yn (gJ aF 4 (x.ev.map dS))=none:=by
  obtain ⟨w,hr,_,hm⟩:=h.t.a;have hi:=HI.run hr;rw [qH] at hi
  generalize gJ aF 4 (x.ev.map dS)=l at hi
  have lN:∀a∈l,a.fin=0→0≤a.lock∧a.lock.toNat<x.lk.length∧∃g∈(gL x a.lock.toNat).ho,g.t=a.task:=fun a ha h0=>by
    obtain ⟨p1,p2,p3,p4,p5⟩:=hi.op a ha h0;have hl:a.lock.toNat<x.lk.length:=by have:=hm.sl;rw [show (jI x).nl=x.lk.length from rfl] at this;omega
    refine ⟨p3,hl,?_⟩
    split at p5
    · obtain ⟨g,hg,_,e⟩:=(hm.rd a.lock.toNat hl a.task).1 p5;exact⟨g,hg,e⟩
    · obtain ⟨g,hg,_,e⟩:=(hm.wr a.lock.toNat hl a.task).1 p5;exact⟨g,hg,e⟩
  refine ⟨⟨fun a ha h0=>?_,fun a ha h0=>(hi.tm a ha).2 h0 |>.1,?_⟩,I4 (hi.pw.imp Rf)⟩
  · obtain ⟨q1,q2,g,hg,e⟩:=lN a ha h0
    exact⟨q1,by omega,List.any_eq_true.2 ⟨g,hg,decide_eq_true e⟩⟩
  · have e1:Cn l=((l.filter (fun s=>decide (s.fin=0))).map (fun s=>(s.task,s.lock))).length:=by rw [List.length_map];rfl
    rw [e1];refine count_eq (f:=fun l=>(gL x l).ho.map (·.t)) ?_ (fun j hj=>(h.i.li j hj).w.hd) (fun p=>?_)
    · unfold List.Nodup;rw [List.pairwise_map]
      refine (List.Pairwise.filter _ hi.pw).imp_of_mem (fun {a b} ha hb jR e=>?_);have ha:=of_decide_eq_true (List.mem_filter.1 ha).2;have hb:=of_decide_eq_true (List.mem_filter.1 hb).2;exact jR.2 ha hb ⟨(Prod.mk.inj e).1,(Prod.mk.inj e).2⟩
    · rw [List.mem_map]
      constructor
      · rintro ⟨a,ha,rfl⟩
        have ha:=List.mem_filter.1 ha;obtain ⟨q1,q2,g,hg,e⟩:=lN a ha.1 (of_decide_eq_true ha.2);exact⟨a.lock.toNat,q2,by show a.lock=_;omega,List.mem_map.2 ⟨g,hg,e⟩⟩
      · rintro ⟨j,hj,e1,e2⟩
        obtain ⟨g,hg,e⟩:=List.mem_map.1 e2;have hw:=(hm.Z9 (l:=j) hj p.1).2 ⟨g,hg,e⟩;obtain ⟨a,ha,a1,a2,a3⟩:=hi.al j p.1 (by have:=hm.sl;rw [show (jI x).nl=x.lk.length from rfl] at this;omega) hw;exact⟨a,List.mem_filter.2 ⟨ha,decide_eq_true a1⟩,by rw [a2,a3,←e1]⟩
theorem MW.waits:Sfe x bY (fun l=>(gL x l).wt.map (·.who)) (gJ aE 6 (x.ev.map dS)):=by
  obtain ⟨w,hr,_,hm⟩:=h.t.a;have hi:=WI.run hr;rw [qH] at hi
  generalize gJ aE 6 (x.ev.map dS)=l at hi
  have uN:w.sh.length=x.lk.length:=hm.sl;have hn:w.ts.length=x.ts.length:=hm.n
  have lN:∀a∈l,a.fin=0→0≤a.lock∧a.lock.toNat<x.lk.length∧∃y∈(gL x a.lock.toNat).wt,y.who=a.task:=fun a ha h0=>by
    obtain ⟨p1,p2,p3,p4,p5,p6⟩:=hi.op a ha h0;have ht:a.task.toNat<x.ts.length:=by omega
    have e4:cY x a.task.toNat=4:=(hm.hw _ ht).symm.trans p3;have el:eM x a.task.toNat=a.lock:=(hm.lo _ ht e4).symm.trans p4;obtain ⟨y,hy,e⟩:=h.t.q.l.s4 _ ht e4 (fun q=>q);rw [el] at hy;exact⟨p5,by omega,y,hy,by rw [e];omega⟩
  refine ⟨fun a ha h0=>?_,fun a ha h0=>(hi.tm a ha).2 h0 |>.1,?_⟩
  · obtain ⟨q1,q2,g,hg,e⟩:=lN a ha h0
    exact⟨q1,by omega,List.any_eq_true.2 ⟨g,hg,decide_eq_true e⟩⟩
  · have e1:Cn l=((l.filter (fun s=>decide (s.fin=0))).map (fun s=>(s.task,s.lock))).length:=by rw [List.length_map];rfl
    rw [e1];refine count_eq (f:=fun l=>(gL x l).wt.map (·.who)) ?_ (fun j hj=>?_) (fun p=>?_)
    · unfold List.Nodup;rw [List.pairwise_map]
      refine (List.Pairwise.filter _ hi.pw).imp_of_mem (fun {a b} ha hb jR e=>?_);have ha:=of_decide_eq_true (List.mem_filter.1 ha).2;have hb:=of_decide_eq_true (List.mem_filter.1 hb).2;exact jR ha hb (Prod.mk.inj e).1
    · unfold List.Nodup;rw [List.pairwise_map];exact(h.i.li j hj).w.wd
    · rw [List.mem_map]
      constructor
      · rintro ⟨a,ha,rfl⟩
        have ha:=List.mem_filter.1 ha;obtain ⟨q1,q2,g,hg,e⟩:=lN a ha.1 (of_decide_eq_true ha.2);exact⟨a.lock.toNat,q2,by show a.lock=_;omega,List.mem_map.2 ⟨g,hg,e⟩⟩
      · rintro ⟨j,hj,e1,e2⟩
        obtain ⟨y,hy,e⟩:=List.mem_map.1 e2;obtain ⟨f1,f2⟩:=h.t.q.l.wt j hj y hy;have jC:=(h.i.li j hj).i.wt y hy;unfold lz at jC;have ht:y.who.toNat<x.ts.length:=by omega
        obtain ⟨a,ha,a1,a2⟩:=hi.al y.who.toNat om ((hm.hw _ ht).trans f1);obtain ⟨p1,p2,p3,p4,p5,p6⟩:=hi.op a ha a1;have Ey:a.task.toNat=y.who.toNat:=by omega
        rw [Ey] at p4;have el:a.lock=(j:Int):=p4.symm.trans ((hm.lo _ ht f1).trans f2);exact⟨a,List.mem_filter.2 ⟨ha,decide_eq_true a1⟩,by rw [el,show a.task=p.1 by rw [←e];omega,←e1]⟩
end
/-! deeds one behind the other -/
def G2 (x:aC) (l:List Act) (i:Nat):aC:=(l.take i).foldl jk x
theorem AU {x:aC} {l:List Act} {i:Nat} (h:i<l.length):G2 x l (i+1)=jk (G2 x l i) (l.getD i default):=by
  unfold G2;rw [bD default h,List.foldl_append];rfl
theorem MW.ply {w0:ck} {k:Nat} {x:aC} (h:MW w0 k x) (l:List Act):∀i,i≤l.length→MW w0 (k+30000000*i) (G2 x l i)
  |0,_=>h
  |i+1,hi=>by rw [AU om];have:=(h.ply l i om).mdo (l.getD i default);rw [show k+30000000*(i+1)=k+30000000*i+30000000 by omega];exact this
end Go.Eng
namespace Go.Eng
open Go Go.Proofs Go.RowKit
theorem zP (s:St) (e:Ev) (w:World):aJ Tryz.prog 37 #[.agg (fT s).toArray,.agg (fE e).toArray] w (fun v w'=>v= .int .i64 (aE s e)∧Ext w w'):=by
 refine aJ.au Tryz.func37 rfl Tryz.ntmps37 rfl ([]) (no) (Mem.nil w) ?_;refine J2 ?_;refine LM.box rfl rfl (fun b2 tf=>?_);refine LM.box rfl rfl (fun b3 Mm=>?_);refine J8 ?_;refine LM.rd (eR 0 Tryz.isAgg3 rfl rfl rfl) ?_;refine J4 ?_;refine af.aj rfl (fun h1=>?_) (fun h1=>?_)
 ·refine J8 ?_;refine qL Tryz.results37 rfl fun w' aq ab aI=>?_;refine ⟨?_,ab⟩;simp only [bA,aE];congr 1;(repeat' split)<;>first|rfl|omega
 refine J3 ?_;refine LM.rd (eR 0 Tryz.isAgg3 rfl rfl rfl) ?_;refine J1 ?_;refine LM.rd (eR 1 Tryz.isAgg3 rfl rfl rfl) ?_;refine J4 ?_;refine af.aj rfl (fun h2=>?_) (fun h2=>?_)
 ·refine J8 ?_;refine qL Tryz.results37 rfl fun w' aq ab aI=>?_;refine ⟨?_,ab⟩;simp only [bA,aE];congr 1;(repeat' split)<;>first|rfl|omega
 refine J3 ?_;refine LM.rd (eR 0 Tryz.isAgg3 rfl rfl rfl) ?_;refine J4 ?_;refine af.aj rfl (fun h3=>?_) (fun h3=>?_)
 ·refine J8 ?_;refine qL Tryz.results37 rfl fun w' aq ab aI=>?_;refine ⟨?_,ab⟩;simp only [bA,aE];congr 1;(repeat' split)<;>first|rfl|omega
 refine J3 ?_;refine LM.rd (eR 0 Tryz.isAgg3 rfl rfl rfl) ?_;refine J4 ?_;refine af.aj rfl (fun h4=>?_) (fun h4=>?_)
 ·refine J8 ?_;refine qL Tryz.results37 rfl fun w' aq ab aI=>?_;refine ⟨?_,ab⟩;simp only [bA,aE];congr 1;(repeat' split)<;>first|rfl|omega
 refine J9 ?_;refine qL Tryz.results37 rfl fun w' aq ab aI=>?_;refine ⟨?_,ab⟩;simp only [bA,aE];congr 1;(repeat' split)<;>first|rfl|omega
theorem za (s:St) (e:Ev) (w:World):aJ Tryz.prog 36 #[.agg (fT s).toArray,.agg (fE e).toArray] w (fun v w'=>v= .int .i64 (aF s e)∧Ext w w'):=by
 refine aJ.au Tryz.func36 rfl Tryz.ntmps36 rfl ([]) (no) (Mem.nil w) ?_;refine J2 ?_;refine LM.box rfl rfl (fun b2 tf=>?_);refine LM.box rfl rfl (fun b3 Mm=>?_);refine J8 ?_;refine LM.rd (eR 0 Tryz.isAgg3 rfl rfl rfl) ?_;refine J1 ?_;refine LM.rd (eR 1 Tryz.isAgg3 rfl rfl rfl) ?_;refine J4 ?_;refine af.aj rfl (fun h1=>?_) (fun h1=>?_)
 ·refine J8 ?_;refine qL Tryz.results36 rfl fun w' aq ab aI=>?_;refine ⟨?_,ab⟩;simp only [bA,aF];congr 1;(repeat' split)<;>first|rfl|omega
 refine J3 ?_;refine LM.rd (eR 0 Tryz.isAgg3 rfl rfl rfl) ?_;refine J4 ?_;refine af.aj rfl (fun h2=>?_) (fun h2=>?_)
 ·refine J8 ?_;refine qL Tryz.results36 rfl fun w' aq ab aI=>?_;refine ⟨?_,ab⟩;simp only [bA,aF];congr 1;(repeat' split)<;>first|rfl|omega
 refine J3 ?_;refine LM.rd (eR 0 Tryz.isAgg3 rfl rfl rfl) ?_;refine J4 ?_;refine af.aj rfl (fun h3=>?_) (fun h3=>?_)
 ·refine J8 ?_;refine qL Tryz.results36 rfl fun w' aq ab aI=>?_;refine ⟨?_,ab⟩;simp only [bA,aF];congr 1;(repeat' split)<;>first|rfl|omega
 refine J9 ?_;refine qL Tryz.results36 rfl fun w' aq ab aI=>?_;refine ⟨?_,ab⟩;simp only [bA,aF];congr 1;(repeat' split)<;>first|rfl|omega
theorem lX (a b:St) (w:World):aJ Tryz.prog 38 #[.agg (fT a).toArray,.agg (fT b).toArray] w (fun v w'=>v= .bool (rC a b)∧Ext w w'):=by
 refine aJ.au Tryz.func38 rfl Tryz.ntmps38 rfl ([]) (no) (Mem.nil w) ?_;refine J2 ?_;refine LM.box rfl rfl (fun b2 tf=>?_);refine LM.box rfl rfl (fun b3 Mm=>?_);refine J6 ?_;refine LM.rd (eR 0 Tryz.isAgg3 rfl rfl rfl) ?_;refine J2 ?_;refine LM.ar (t:=8) rfl (fun h1=>?_) (fun h1=>?_)
 ·refine cf ?_;refine qL Tryz.results38 rfl fun w' aq ab aI=>?_;refine ⟨?_,ab⟩;simp only [bA,rC];congr 1;simp_all
 refine J2 ?_;refine LM.rd (eR 1 Tryz.isAgg41 rfl rfl rfl) ?_;refine J2 ?_;refine LM.rd (eR 0 Tryz.isAgg41 rfl rfl rfl) ?_;refine LM.sp 8 rfl rfl rfl ?_;refine LM.val (ia rfl rfl) ?_;refine J5 ?_;refine qL Tryz.results38 rfl fun w' aq ab aI=>?_;refine ⟨?_,ab⟩;simp only [bA,rC];congr 1;simp_all
theorem jH (en:St→Ev→Int) (kind:Int) {l:List Ev} {k:Nat} (h:k<l.length):dL en kind (l.take (k+1))=bP en kind (dL en kind (l.take k)) (l.getD k default):=by
  unfold dL
  rw [List.take_add_one,aQ default h,Option.toList_some,List.foldl_append];rfl
theorem xl (en:St→Ev→Int) (kind:Int) (l:List Ev):(dL en kind l).length≤l.length:=by
  have:∀(l:List Ev) (o:List St),(l.foldl (bP en kind) o).length≤o.length+l.length:=by
    intro l
    induction l with
    |nil=>intro o;simp
    |cons e l ih=>intro o;rw [List.foldl_cons];refine Nat.le_trans (ih _) ?_;unfold bP;simp;split<;>simp<;>omega
  have:=this l [];simpa [dL] using this
theorem j3 {en:St→Ev→Int} {s:St} {e:Ev} (h1:s.fin=0) (h2:s.task=e.task) (h:en s e≠0):stepT en s e= {s with fin:=en s e,to:=e.time} :=by
  unfold stepT;rw [if_pos ⟨h1,h2,h⟩]
theorem w5 {eP:List Ev} {ad:Option Addr} {n cap:Nat} (w:World) (hn:n=eP.length) (hl:Sr fE 5 eP (.slice ad n cap) w) (hx:eP.length≤maxLen) (zu:eP.length≤1000000000000):aJ Tryz.prog 35 #[.slice ad n cap,.int .i64 6,.func (.func 37) #[] #[]] w (New fT 53 6 (dL aE 6 eP) w):=by
 refine aJ.au Tryz.func35 rfl Tryz.ntmps35 rfl ([]) (no) (Mem.nil w) ?_;refine cK ?_;refine LM.makeMap rfl (fun NK abW=>?_);refine cK ?_;refine af.aS (α:=Nat×Option Addr×Nat×Nat×aa×Array MapEntry×Nat×List (Int×Value)×aa) (fun ⟨k,dH,no,bL,mo,es,z8,l,mm⟩=>[(7,.slice dH no bL),(18,.int .i64 (k:Nat))]) [(1,_),(2,_),(8,_),(16,_),(17,_)] (fun ⟨k,dH,no,bL,mo,es,z8,l,mm⟩=>mo++((NK,.map es z8)::(mm++ []))) (fun ⟨k,dH,no,bL,mo,es,z8,l,mm⟩=>k≤eP.length∧no=(dL aE 6 (eP.take k)).length∧Sl fT 53 6 w.heap.size (dL aE 6 (eP.take k)) (.slice dH no bL) mo∧Ct .i64 es.toList l∧Own 3 w.heap.size (kN (dL aE 6 (eP.take k))) l mm) (fun ⟨k,dH,no,bL,mo,es,z8,l,mm⟩=>eP.length-k) ((0,none,0,0,[],#[],0,[],[])) cm aX ⟨Nat.zero_le _,rfl,.nil _ _ _ _,rfl,Own.nil _ _⟩ ?_;rintro ⟨k,dH,no,bL,mo,es,z8,l,mm⟩ ⟨hk,fH,jS,EL,how⟩;change af _ _ _ _ _ _ _ (mo++((NK,.map es z8)::(mm++ []))) _ _ _;have MF:=xl aE 6 (eP.take k);have uf:(eP.take k).length=k:=(by rw [List.length_take];omega);generalize mT:dL aE 6 (eP.take k)=out at*;refine J6 ?_;refine af.aj rfl (fun h1=>?_) (fun h1=>?_)
 ·refine J7 ?_;refine LM.eT (dX aA ir Tryz.isAgg72 Tryz.sizeOf72 rfl cR id) ?_;refine LM.alloc Tryz.zeroValue72 rfl (fun sN Lb=>?_);refine LM.dC Tryz.sizeOf72 rfl rfl rfl rfl dF cn ?_;refine cf ?_;obtain ⟨e,he⟩:∃e,e=eP.getD k default:=⟨_,rfl⟩;rw [←he];refine J3 ?_;obtain ⟨wG,n5,ke,m1,m2,W7,HO,FD,hp5,Ur⟩:=how.look e.task;refine LM.BZ hp5 (LM.assoc ?_);have Ou:=EX out e.task;obtain ⟨xs,Ap⟩:∃xs,xs=kN out e.task:=⟨_,rfl⟩;rw [←Ap] at FD HO Ou;refine LM.rd (P6 Tryz.underlying148 Tryz.underlying3 Tryz.zeroValue26 rfl rfl aA W7) ?_;refine J5 ?_;refine af.aS (α:=Nat×List St×aa×List Int×Option Addr×Nat×Nat×aa) (fun ⟨i,o,yz,st,Ac,ns,kK,ms⟩=>[(11,.slice Ac ns kK),(27,.int .i64 (i:Nat))]) [(1,_),(2,_),(7,_),(8,_),(10,_),(16,_),(17,_),(18,_),(25,_),(26,_)] (fun ⟨i,o,yz,st,Ac,ns,kK,ms⟩=>yz++(ms++((sN,.cells (fE e).toArray 72 (0,0))::(NK,.map es z8)::(m1++(m2++ []))))) (fun ⟨i,o,yz,st,Ac,ns,kK,ms⟩=>i≤xs.length∧B2 aE out e (xs.take i) o∧Sl fT 53 6 w.heap.size o (.slice dH no bL) yz∧ns=st.length∧st=(xs.take i).filter (fun p=>decide (aE (out.getD p.toNat default) e=0))∧Sl fI 3 1 w.heap.size st (.slice Ac ns kK) ms) (fun ⟨i,o,yz,st,Ac,ns,kK,ms⟩=>xs.length-i) ((0,out,mo,[],none,0,0,[])) cm aX ⟨Nat.zero_le _,B7 _ _ _,jS,rfl,rfl,.nil _ _ _ _⟩ ?_;rintro ⟨i,o,yz,st,Ac,ns,kK,ms⟩ ⟨hi,ho,zy,hns,vg,er⟩;change af _ _ _ _ _ _ _ (yz++(ms++((sN,.cells (fE e).toArray 72 (0,0))::(NK,.map es z8)::(m1++(m2++ []))))) _ _ _;have gh:=uV vg;have acZ:=ho.1;refine J6 ?_;refine af.aj rfl (fun h2=>?_) (fun h2=>?_)
  ·refine J7 ?_;refine LM.rd (bw aA ir Tryz.isAgg3 rfl rfl (by exact aQ 0 cL) (by rfl)) ?_;refine J4 ?_;refine af.draw [(0,0),(1,0),(2,0),(3,0),(4,1),(5,1),(6,2),(7,0)] kr kr ?_;refine J3 ?_;have ph:=(zd.1 (show xs.getD i 0∈kN out e.task from Ap▸List.mem_of_getElem? (aQ 0 om)));obtain ⟨p,hp,OC,S9⟩:=ph;rw [hp];have C3:(p:Int) ∉ xs.take i:=(by rw [←hp];exact sJ (Ap▸xP out e.task) om 0);have KL:xs.take (i+1)=xs.take i++ [(p:Int)] :=(by rw [bD 0 om,hp]);have zq:p<o.length:=(by rw [ho.1];exact OC);have lN:o.getD p default=out.getD p default:=(by rw [ho.2 p OC,if_neg C3]);have hq:=S9;simp only [gI,Bool.and_eq_true,decide_eq_true_eq] at hq;rw [←lN] at hq;obtain ⟨jK,l7⟩:=hq;refine J1 ?_;refine LD.rd rfl rfl (jm aA ir Tryz.isAgg53 Tryz.sizeOf53 rfl cR) ?_;refine LD.rd rfl rfl (bo Tryz.isAgg72 Tryz.sizeOf72 rfl rfl) ?_;refine LD.A4 rfl rfl (AX rfl (iY Tryz.func37 kr rfl) rfl) (fun w hm hc hg=>zP _ _ w) ?_;refine J9 ?_;refine af.aj rfl (fun h3=>?_) (fun h3=>?_)
   ·refine af.toHA [o.set p {o.getD p default with fin:=aE (o.getD p default) e},o.set p (stepT aE (o.getD p default) e)] zy om (fun bz WA UF=>?_);refine af.draw [(0,0),(1,0),(2,0),(3,0),(4,0),(5,0),(6,1),(7,0),(8,0),(9,2),(10,0),(11,0),(12,2)] kr kr ?_;refine J9 ?_;refine LD.yT [o.set p {o.getD p default with fin:=aE (o.getD p default) e},o.set p (stepT aE (o.getD p default) e)] (j:=4) rfl rfl aA Tryz.sizeOf3 ir rfl rfl rfl rfl (by decide) rfl (by simp) (by have er:=j3 l7 jK h3;simp only [List.forall_mem_cons,List.not_mem_nil,false_implies,implies_true,and_true];refine ⟨⟨_,{o.getD p default with fin:=aE (o.getD p default) e},aQ default om,rfl,by simp⟩,⟨_,{o.getD p default with fin:=aE (o.getD p default) e},List.getElem?_set_self zq,rfl,by simp⟩,⟨_,stepT aE (o.getD p default) e,List.getElem?_set_self zq,by rw [er];rfl,by simp⟩⟩) (fun bB=>absurd bB (by have:=WA.1;omega)) aA ?_;refine J2 ?_;refine LD.yT [o.set p (stepT aE (o.getD p default) e)] (j:=3) rfl rfl aA Tryz.sizeOf41 ir rfl rfl rfl rfl (by decide) rfl (by simp) (by have er:=j3 l7 jK h3;simp only [List.forall_mem_cons,List.not_mem_nil,false_implies,implies_true,and_true];refine ⟨⟨_,stepT aE (o.getD p default) e,List.getElem?_set_self zq,by rw [er];rfl,by simp⟩,⟨_,stepT aE (o.getD p default) e,List.getElem?_set_self zq,by rw [er];rfl,by simp⟩⟩) (fun bB=>absurd bB (by have:=WA.1;omega)) aA ?_;refine J1 ?_;refine QM.LB (n:=no) aA (by simp only [List.length_set]) om (fun p9 kk=>?_);refine J6 ?_;refine aK (i+1,o.set p (stepT aE (o.getD p default) e),p9,st,Ac,ns,kK,ms) ?_ ?_
    · exact⟨show i+1≤_ by omega,by rw [KL];exact Bl ho C3 OC,kk,hns,by rw [KL,List.filter_append,←vg,KG (by rw [←lN];exact h3),List.append_nil],er⟩
    · (dsimp only;omega)
   refine J3 ?_;refine LM.single Tryz.underlying26 Tryz.sizeOf3 Tryz.zeroValue3 rfl rfl rfl rfl rfl (fun b53 abY=>?_);refine LM.app Tryz.underlying26 Tryz.typeInfo3 rfl rfl rfl rfl rfl rfl rfl aA (by rfl) ir (by intro _ u hu;simp [fI] at hu;(repeat (first|(rcases hu with rfl|hu)|subst hu|rfl))) (by first|exact Nat.le_refl _|omega) jh (by first|omega|(unfold maxLen;omega)) (by simp only [Tryz.t3];omega) (fun Sc n54 Ij m54 adF Rg XH=>?_);refine J8 ?_;refine aK (i+1,o,yz,st++ [(p:Int)],Sc,n54,Ij,m54) ?_ ?_
   · exact⟨show i+1≤_ by omega,by rw [KL];exact xJ ho OC (by rw [←lN];exact Classical.not_not.1 h3),zy,by simp;omega,by rw [KL,List.filter_append,←vg,Fa (by rw [←lN];exact Classical.not_not.1 h3)],Rg⟩
   · (dsimp only;omega)
  have ff:i=xs.length:=om;subst ff;rw [List.take_length] at ho vg;rw [Ap] at ho;have HJ:=xO ho;have Qf:xs.filter (fun p=>decide (aE (out.getD p.toNat default) e=0))=st:=vg.symm;rw [Ap] at Qf;refine lg ?_;refine af.aj rfl (fun h4=>?_) (fun h4=>?_)
  ·refine J5 ?_;refine LM.single Tryz.underlying26 Tryz.sizeOf3 Tryz.zeroValue3 rfl rfl rfl rfl rfl (fun b63 aa2=>?_);refine LM.app Tryz.underlying26 Tryz.typeInfo3 rfl rfl rfl rfl rfl rfl rfl aA (by rfl) ir (by intro _ u hu;simp [fI] at hu;(repeat (first|(rcases hu with rfl|hu)|subst hu|rfl))) (by first|exact Nat.le_refl _|omega) jh (by first|omega|(unfold maxLen;omega)) (by simp only [Tryz.t3];omega) (fun Oy HE Ft m64 aco Ph v8=>?_);refine lg ?_;refine LM.ar (t:=74) rfl (fun h5=>?_) (fun h5=>?_)
   ·exact absurd h5 (by decide)
   refine J3 ?_;refine LM.c9 (t:=74) rfl rfl rfl ?_;refine J5 ?_;refine LM.val (aD (cs:=#[_,_,_,_,_,_]) rfl (by first|rfl|kernel_rfl)) ?_;refine LM.single Tryz.underlying39 Tryz.sizeOf53 Tryz.zeroValue53 rfl rfl rfl rfl rfl (fun b85 Xr=>?_);refine LM.app (a:=lS 6 e) Tryz.underlying39 Tryz.typeInfo53 rfl rfl rfl rfl rfl rfl rfl aA (by first|rfl|(have hq:(lS 6 e).read=true:=(by simp [lS,h6]);unfold fT;rw [hq];rfl)|(have hq:(lS 6 e).read=decide (e.n=3):=(by simp [lS,h6]);unfold fT;rw [hq];rfl)) ir (by intro _ u hu;simp [fT] at hu;(repeat (first|(rcases hu with rfl|hu)|subst hu|rfl))) (by first|exact Nat.le_refl _|omega) jh (by first|omega|(unfold maxLen;omega)) (by simp only [Tryz.t53];omega) (fun JN Zc BK T9 XM Ba FR=>?_);refine J8 ?_;refine LM.mU Tryz.underlying148 Tryz.underlying3 rfl rfl rfl aA cn (fun yL y5 qD=>?_);refine J7 ?_;have hK:∀x,x≠e.task→kN (out.map (fun s=>stepT aE s e)++ [lS 6 e]) x=kN out x:=(fun x hx=>by rw [kH,fg,if_neg hx,if_neg (by simp [gI,lS,Ne.symm hx]),List.append_nil]);have On:kN (out.map (fun s=>stepT aE s e)++ [lS 6 e]) e.task=st++ [(no:Int)] :=(by rw [kH,fg,if_pos rfl,if_pos (by simp [gI,lS]),List.length_map,Qf,fH]);obtain ⟨Ff,ph,yH⟩:=Ur (kN (out.map (fun s=>stepT aE s e)++ [lS 6 e])) _ _ (by rw [On];exact Ph) hK;have jF:dL aE 6 (eP.take (k+1))=out.map (fun s=>stepT aE s e)++ [lS 6 e] :=(by rw [jH aE 6 (l:=eP) (k:=k) om,mT,←he];unfold bP;rw [if_pos om]);rw [HJ] at Ba;refine QM.BZ (m:=m64++m2) ph.symm ?_;refine aK (k+1,JN,Zc,BK,T9,yL,y5,lE l e.task (.slice Oy HE Ft),Ff) ?_ ?_
   · exact⟨by omega,by rw [jF];simp;omega,by rw [jF];exact Ba,qD,by rw [jF];exact yH⟩
   · (dsimp only;omega)
  refine J7 ?_;refine LM.mU Tryz.underlying148 Tryz.underlying3 rfl rfl rfl aA cn (fun yL y5 qD=>?_);refine J7 ?_;have hK:∀x,x≠e.task→kN (out.map (fun s=>stepT aE s e)) x=kN out x:=(fun x hx=>by rw [fg,if_neg hx]);have On:kN (out.map (fun s=>stepT aE s e)) e.task=st:=(by rw [fg,if_pos rfl,Qf]);obtain ⟨Ff,ph,yH⟩:=Ur (kN (out.map (fun s=>stepT aE s e))) _ _ (by rw [On];exact er) hK;have jF:dL aE 6 (eP.take (k+1))=out.map (fun s=>stepT aE s e):=(by rw [jH aE 6 (l:=eP) (k:=k) om,mT,←he];unfold bP;rw [if_neg om,List.append_nil]);rw [HJ] at zy;refine QM.BZ (m:=ms++m2) ph.symm ?_;refine aK (k+1,dH,no,bL,yz,yL,y5,lE l e.task (.slice Ac ns kK),Ff) ?_ ?_
  · exact⟨by omega,by rw [jF];simp;omega,by rw [jF];exact zy,qD,by rw [jF];exact yH⟩
  · (dsimp only;omega)
 refine cK ?_;refine qL Tryz.results35 rfl fun w' aq ab aI=>?_;have CQ:k=eP.length:=om;subst CQ;rw [List.take_length] at mT;subst mT;exact⟨ab,mo,fH▸jS,aq.pick mo⟩
theorem wI {eP:List Ev} {ad:Option Addr} {n cap:Nat} (w:World) (hn:n=eP.length) (hl:Sr fE 5 eP (.slice ad n cap) w) (hx:eP.length≤maxLen) (zu:eP.length≤1000000000000):aJ Tryz.prog 35 #[.slice ad n cap,.int .i64 4,.func (.func 36) #[] #[]] w (New fT 53 6 (dL aF 4 eP) w):=by
 refine aJ.au Tryz.func35 rfl Tryz.ntmps35 rfl ([]) (no) (Mem.nil w) ?_;refine cK ?_;refine LM.makeMap rfl (fun NK abW=>?_);refine cK ?_;refine af.aS (α:=Nat×Option Addr×Nat×Nat×aa×Array MapEntry×Nat×List (Int×Value)×aa) (fun ⟨k,dH,no,bL,mo,es,z8,l,mm⟩=>[(7,.slice dH no bL),(18,.int .i64 (k:Nat))]) [(1,_),(2,_),(8,_),(16,_),(17,_)] (fun ⟨k,dH,no,bL,mo,es,z8,l,mm⟩=>mo++((NK,.map es z8)::(mm++ []))) (fun ⟨k,dH,no,bL,mo,es,z8,l,mm⟩=>k≤eP.length∧no=(dL aF 4 (eP.take k)).length∧Sl fT 53 6 w.heap.size (dL aF 4 (eP.take k)) (.slice dH no bL) mo∧Ct .i64 es.toList l∧Own 3 w.heap.size (kN (dL aF 4 (eP.take k))) l mm) (fun ⟨k,dH,no,bL,mo,es,z8,l,mm⟩=>eP.length-k) ((0,none,0,0,[],#[],0,[],[])) cm aX ⟨Nat.zero_le _,rfl,.nil _ _ _ _,rfl,Own.nil _ _⟩ ?_;rintro ⟨k,dH,no,bL,mo,es,z8,l,mm⟩ ⟨hk,fH,jS,EL,how⟩;change af _ _ _ _ _ _ _ (mo++((NK,.map es z8)::(mm++ []))) _ _ _;have MF:=xl aF 4 (eP.take k);have uf:(eP.take k).length=k:=(by rw [List.length_take];omega);generalize mT:dL aF 4 (eP.take k)=out at*;refine J6 ?_;refine af.aj rfl (fun h1=>?_) (fun h1=>?_)
 ·refine J7 ?_;refine LM.eT (dX aA ir Tryz.isAgg72 Tryz.sizeOf72 rfl cR id) ?_;refine LM.alloc Tryz.zeroValue72 rfl (fun sN Lb=>?_);refine LM.dC Tryz.sizeOf72 rfl rfl rfl rfl dF cn ?_;refine cf ?_;obtain ⟨e,he⟩:∃e,e=eP.getD k default:=⟨_,rfl⟩;rw [←he];refine J3 ?_;obtain ⟨wG,n5,ke,m1,m2,W7,HO,FD,hp5,Ur⟩:=how.look e.task;refine LM.BZ hp5 (LM.assoc ?_);have Ou:=EX out e.task;obtain ⟨xs,Ap⟩:∃xs,xs=kN out e.task:=⟨_,rfl⟩;rw [←Ap] at FD HO Ou;refine LM.rd (P6 Tryz.underlying148 Tryz.underlying3 Tryz.zeroValue26 rfl rfl aA W7) ?_;refine J5 ?_;refine af.aS (α:=Nat×List St×aa×List Int×Option Addr×Nat×Nat×aa) (fun ⟨i,o,yz,st,Ac,ns,kK,ms⟩=>[(11,.slice Ac ns kK),(27,.int .i64 (i:Nat))]) [(1,_),(2,_),(7,_),(8,_),(10,_),(16,_),(17,_),(18,_),(25,_),(26,_)] (fun ⟨i,o,yz,st,Ac,ns,kK,ms⟩=>yz++(ms++((sN,.cells (fE e).toArray 72 (0,0))::(NK,.map es z8)::(m1++(m2++ []))))) (fun ⟨i,o,yz,st,Ac,ns,kK,ms⟩=>i≤xs.length∧B2 aF out e (xs.take i) o∧Sl fT 53 6 w.heap.size o (.slice dH no bL) yz∧ns=st.length∧st=(xs.take i).filter (fun p=>decide (aF (out.getD p.toNat default) e=0))∧Sl fI 3 1 w.heap.size st (.slice Ac ns kK) ms) (fun ⟨i,o,yz,st,Ac,ns,kK,ms⟩=>xs.length-i) ((0,out,mo,[],none,0,0,[])) cm aX ⟨Nat.zero_le _,B7 _ _ _,jS,rfl,rfl,.nil _ _ _ _⟩ ?_;rintro ⟨i,o,yz,st,Ac,ns,kK,ms⟩ ⟨hi,ho,zy,hns,vg,er⟩;change af _ _ _ _ _ _ _ (yz++(ms++((sN,.cells (fE e).toArray 72 (0,0))::(NK,.map es z8)::(m1++(m2++ []))))) _ _ _;have gh:=uV vg;have acZ:=ho.1;refine J6 ?_;refine af.aj rfl (fun h2=>?_) (fun h2=>?_)
  ·refine J7 ?_;refine LM.rd (bw aA ir Tryz.isAgg3 rfl rfl (by exact aQ 0 cL) (by rfl)) ?_;refine J4 ?_;refine af.draw [(0,0),(1,0),(2,0),(3,0),(4,1),(5,1),(6,2),(7,0)] kr kr ?_;refine J3 ?_;have ph:=(zd.1 (show xs.getD i 0∈kN out e.task from Ap▸List.mem_of_getElem? (aQ 0 om)));obtain ⟨p,hp,OC,S9⟩:=ph;rw [hp];have C3:(p:Int) ∉ xs.take i:=(by rw [←hp];exact sJ (Ap▸xP out e.task) om 0);have KL:xs.take (i+1)=xs.take i++ [(p:Int)] :=(by rw [bD 0 om,hp]);have zq:p<o.length:=(by rw [ho.1];exact OC);have lN:o.getD p default=out.getD p default:=(by rw [ho.2 p OC,if_neg C3]);have hq:=S9;simp only [gI,Bool.and_eq_true,decide_eq_true_eq] at hq;rw [←lN] at hq;obtain ⟨jK,l7⟩:=hq;refine J1 ?_;refine LD.rd rfl rfl (jm aA ir Tryz.isAgg53 Tryz.sizeOf53 rfl cR) ?_;refine LD.rd rfl rfl (bo Tryz.isAgg72 Tryz.sizeOf72 rfl rfl) ?_;refine LD.A4 rfl rfl (AX rfl (iY Tryz.func36 kr rfl) rfl) (fun w hm hc hg=>za _ _ w) ?_;refine J9 ?_;refine af.aj rfl (fun h3=>?_) (fun h3=>?_)
   ·refine af.toHA [o.set p {o.getD p default with fin:=aF (o.getD p default) e},o.set p (stepT aF (o.getD p default) e)] zy om (fun bz WA UF=>?_);refine af.draw [(0,0),(1,0),(2,0),(3,0),(4,0),(5,0),(6,1),(7,0),(8,0),(9,2),(10,0),(11,0),(12,2)] kr kr ?_;refine J9 ?_;refine LD.yT [o.set p {o.getD p default with fin:=aF (o.getD p default) e},o.set p (stepT aF (o.getD p default) e)] (j:=4) rfl rfl aA Tryz.sizeOf3 ir rfl rfl rfl rfl (by decide) rfl (by simp) (by have er:=j3 l7 jK h3;simp only [List.forall_mem_cons,List.not_mem_nil,false_implies,implies_true,and_true];refine ⟨⟨_,{o.getD p default with fin:=aF (o.getD p default) e},aQ default om,rfl,by simp⟩,⟨_,{o.getD p default with fin:=aF (o.getD p default) e},List.getElem?_set_self zq,rfl,by simp⟩,⟨_,stepT aF (o.getD p default) e,List.getElem?_set_self zq,by rw [er];rfl,by simp⟩⟩) (fun bB=>absurd bB (by have:=WA.1;omega)) aA ?_;refine J2 ?_;refine LD.yT [o.set p (stepT aF (o.getD p default) e)] (j:=3) rfl rfl aA Tryz.sizeOf41 ir rfl rfl rfl rfl (by decide) rfl (by simp) (by have er:=j3 l7 jK h3;simp only [List.forall_mem_cons,List.not_mem_nil,false_implies,implies_true,and_true];refine ⟨⟨_,stepT aF (o.getD p default) e,List.getElem?_set_self zq,by rw [er];rfl,by simp⟩,⟨_,stepT aF (o.getD p default) e,List.getElem?_set_self zq,by rw [er];rfl,by simp⟩⟩) (fun bB=>absurd bB (by have:=WA.1;omega)) aA ?_;refine J1 ?_;refine QM.LB (n:=no) aA (by simp only [List.length_set]) om (fun p9 kk=>?_);refine J6 ?_;refine aK (i+1,o.set p (stepT aF (o.getD p default) e),p9,st,Ac,ns,kK,ms) ?_ ?_
    · exact⟨show i+1≤_ by omega,by rw [KL];exact Bl ho C3 OC,kk,hns,by rw [KL,List.filter_append,←vg,KG (by rw [←lN];exact h3),List.append_nil],er⟩
    · (dsimp only;omega)
   refine J3 ?_;refine LM.single Tryz.underlying26 Tryz.sizeOf3 Tryz.zeroValue3 rfl rfl rfl rfl rfl (fun b53 abY=>?_);refine LM.app Tryz.underlying26 Tryz.typeInfo3 rfl rfl rfl rfl rfl rfl rfl aA (by rfl) ir (by intro _ u hu;simp [fI] at hu;(repeat (first|(rcases hu with rfl|hu)|subst hu|rfl))) (by first|exact Nat.le_refl _|omega) jh (by first|omega|(unfold maxLen;omega)) (by simp only [Tryz.t3];omega) (fun Sc n54 Ij m54 adF Rg XH=>?_);refine J8 ?_;refine aK (i+1,o,yz,st++ [(p:Int)],Sc,n54,Ij,m54) ?_ ?_
   · exact⟨show i+1≤_ by omega,by rw [KL];exact xJ ho OC (by rw [←lN];exact Classical.not_not.1 h3),zy,by simp;omega,by rw [KL,List.filter_append,←vg,Fa (by rw [←lN];exact Classical.not_not.1 h3)],Rg⟩
   · (dsimp only;omega)
  have ff:i=xs.length:=om;subst ff;rw [List.take_length] at ho vg;rw [Ap] at ho;have HJ:=xO ho;have Qf:xs.filter (fun p=>decide (aF (out.getD p.toNat default) e=0))=st:=vg.symm;rw [Ap] at Qf;refine lg ?_;refine af.aj rfl (fun h4=>?_) (fun h4=>?_)
  ·refine J5 ?_;refine LM.single Tryz.underlying26 Tryz.sizeOf3 Tryz.zeroValue3 rfl rfl rfl rfl rfl (fun b63 aa2=>?_);refine LM.app Tryz.underlying26 Tryz.typeInfo3 rfl rfl rfl rfl rfl rfl rfl aA (by rfl) ir (by intro _ u hu;simp [fI] at hu;(repeat (first|(rcases hu with rfl|hu)|subst hu|rfl))) (by first|exact Nat.le_refl _|omega) jh (by first|omega|(unfold maxLen;omega)) (by simp only [Tryz.t3];omega) (fun Oy HE Ft m64 aco Ph v8=>?_);refine lg ?_;refine LM.ar (t:=74) rfl (fun h5=>?_) (fun h5=>?_)
   ·refine J5 ?_;refine LM.ar (t:=78) rfl (fun h6=>?_) (fun h6=>?_)
    ·refine J5 ?_;refine LM.val (aD (cs:=#[_,_,_,_,_,_]) rfl (by first|rfl|kernel_rfl)) ?_;refine LM.single Tryz.underlying39 Tryz.sizeOf53 Tryz.zeroValue53 rfl rfl rfl rfl rfl (fun b85 Xr=>?_);refine LM.app (a:=lS 4 e) Tryz.underlying39 Tryz.typeInfo53 rfl rfl rfl rfl rfl rfl rfl aA (by first|rfl|(have hq:(lS 4 e).read=true:=(by simp [lS,h6]);unfold fT;rw [hq];rfl)|(have hq:(lS 4 e).read=decide (e.n=3):=(by simp [lS,h6]);unfold fT;rw [hq];rfl)) ir (by intro _ u hu;simp [fT] at hu;(repeat (first|(rcases hu with rfl|hu)|subst hu|rfl))) (by first|exact Nat.le_refl _|omega) jh (by first|omega|(unfold maxLen;omega)) (by simp only [Tryz.t53];omega) (fun JN Zc BK T9 XM Ba FR=>?_);refine J8 ?_;refine LM.mU Tryz.underlying148 Tryz.underlying3 rfl rfl rfl aA cn (fun yL y5 qD=>?_);refine J7 ?_;have hK:∀x,x≠e.task→kN (out.map (fun s=>stepT aF s e)++ [lS 4 e]) x=kN out x:=(fun x hx=>by rw [kH,fg,if_neg hx,if_neg (by simp [gI,lS,Ne.symm hx]),List.append_nil]);have On:kN (out.map (fun s=>stepT aF s e)++ [lS 4 e]) e.task=st++ [(no:Int)] :=(by rw [kH,fg,if_pos rfl,if_pos (by simp [gI,lS]),List.length_map,Qf,fH]);obtain ⟨Ff,ph,yH⟩:=Ur (kN (out.map (fun s=>stepT aF s e)++ [lS 4 e])) _ _ (by rw [On];exact Ph) hK;have jF:dL aF 4 (eP.take (k+1))=out.map (fun s=>stepT aF s e)++ [lS 4 e] :=(by rw [jH aF 4 (l:=eP) (k:=k) om,mT,←he];unfold bP;rw [if_pos om]);rw [HJ] at Ba;refine QM.BZ (m:=m64++m2) ph.symm ?_;refine aK (k+1,JN,Zc,BK,T9,yL,y5,lE l e.task (.slice Oy HE Ft),Ff) ?_ ?_
     · exact⟨by omega,by rw [jF];simp;omega,by rw [jF];exact Ba,qD,by rw [jF];exact yH⟩
     · (dsimp only;omega)
    refine J6 ?_;refine LM.val (aD (cs:=#[_,_,_,_,_,_]) rfl (by first|rfl|kernel_rfl)) ?_;refine LM.single Tryz.underlying39 Tryz.sizeOf53 Tryz.zeroValue53 rfl rfl rfl rfl rfl (fun b85 Xr=>?_);refine LM.app (a:=lS 4 e) Tryz.underlying39 Tryz.typeInfo53 rfl rfl rfl rfl rfl rfl rfl aA (by first|rfl|(have hq:(lS 4 e).read=true:=(by simp [lS,h6]);unfold fT;rw [hq];rfl)|(have hq:(lS 4 e).read=decide (e.n=3):=(by simp [lS,h6]);unfold fT;rw [hq];rfl)) ir (by intro _ u hu;simp [fT] at hu;(repeat (first|(rcases hu with rfl|hu)|subst hu|rfl))) (by first|exact Nat.le_refl _|omega) jh (by first|omega|(unfold maxLen;omega)) (by simp only [Tryz.t53];omega) (fun JN Zc BK T9 XM Ba FR=>?_);refine J8 ?_;refine LM.mU Tryz.underlying148 Tryz.underlying3 rfl rfl rfl aA cn (fun yL y5 qD=>?_);refine J7 ?_;have hK:∀x,x≠e.task→kN (out.map (fun s=>stepT aF s e)++ [lS 4 e]) x=kN out x:=(fun x hx=>by rw [kH,fg,if_neg hx,if_neg (by simp [gI,lS,Ne.symm hx]),List.append_nil]);have On:kN (out.map (fun s=>stepT aF s e)++ [lS 4 e]) e.task=st++ [(no:Int)] :=(by rw [kH,fg,if_pos rfl,if_pos (by simp [gI,lS]),List.length_map,Qf,fH]);obtain ⟨Ff,ph,yH⟩:=Ur (kN (out.map (fun s=>stepT aF s e)++ [lS 4 e])) _ _ (by rw [On];exact Ph) hK;have jF:dL aF 4 (eP.take (k+1))=out.map (fun s=>stepT aF s e)++ [lS 4 e] :=(by rw [jH aF 4 (l:=eP) (k:=k) om,mT,←he];unfold bP;rw [if_pos om]);rw [HJ] at Ba;refine QM.BZ (m:=m64++m2) ph.symm ?_;refine aK (k+1,JN,Zc,BK,T9,yL,y5,lE l e.task (.slice Oy HE Ft),Ff) ?_ ?_
    · exact⟨by omega,by rw [jF];simp;omega,by rw [jF];exact Ba,qD,by rw [jF];exact yH⟩
    · (dsimp only;omega)
   exact absurd h5 (by decide)
  refine J7 ?_;refine LM.mU Tryz.underlying148 Tryz.underlying3 rfl rfl rfl aA cn (fun yL y5 qD=>?_);refine J7 ?_;have hK:∀x,x≠e.task→kN (out.map (fun s=>stepT aF s e)) x=kN out x:=(fun x hx=>by rw [fg,if_neg hx]);have On:kN (out.map (fun s=>stepT aF s e)) e.task=st:=(by rw [fg,if_pos rfl,Qf]);obtain ⟨Ff,ph,yH⟩:=Ur (kN (out.map (fun s=>stepT aF s e))) _ _ (by rw [On];exact er) hK;have jF:dL aF 4 (eP.take (k+1))=out.map (fun s=>stepT aF s e):=(by rw [jH aF 4 (l:=eP) (k:=k) om,mT,←he];unfold bP;rw [if_neg om,List.append_nil]);rw [HJ] at zy;refine QM.BZ (m:=ms++m2) ph.symm ?_;refine aK (k+1,dH,no,bL,yz,yL,y5,lE l e.task (.slice Ac ns kK),Ff) ?_ ?_
  · exact⟨by omega,by rw [jF];simp;omega,by rw [jF];exact zy,qD,by rw [jF];exact yH⟩
  · (dsimp only;omega)
 refine cK ?_;refine qL Tryz.results35 rfl fun w' aq ab aI=>?_;have CQ:k=eP.length:=om;subst CQ;rw [List.take_length] at mT;subst mT;exact⟨ab,mo,fH▸jS,aq.pick mo⟩
theorem sn (en:St→Ev→Int) (kind:Int):∀l:List Ev,(gJ en kind l).length≤l.length
  | [] =>Nat.le_refl _
  |e::l=>by have:=sn en kind l;rw [gJ,List.length_append,List.length_cons];split<;>simp<;>omega
theorem vu {eP:List Ev} {ad:Option Addr} {n cap:Nat} (w:World) (hn:n=eP.length) (hl:Sr fE 5 eP (.slice ad n cap) w) (zu:eP.length≤1000000000000):aJ Tryz.prog 10 #[.slice ad n cap] w (New fT 53 6 (gJ aE 6 eP) w):=by
 refine aJ.au Tryz.func10 rfl Tryz.ntmps10 rfl ([]) (no) (Mem.nil w) ?_;refine J8 ?_;refine LM.cS (oC Tryz.func35) (fun w hm hc hg=>(qH aE 6 eP)▸w5 w hn (hl.ext hc) (by unfold maxLen;omega) zu) (fun ad4 n4 ab4 m4 Qy Kl=>?_);refine J4 ?_;refine qL Tryz.results10 rfl fun w' aq ab aI=>?_;exact⟨ab,_,Qy▸Kl,aq.pick m4⟩
theorem va {eP:List Ev} {ad:Option Addr} {n cap:Nat} (w:World) (hn:n=eP.length) (hl:Sr fE 5 eP (.slice ad n cap) w) (zu:eP.length≤1000000000000):aJ Tryz.prog 9 #[.slice ad n cap] w (New fT 53 6 (gJ aF 4 eP) w):=by
 refine aJ.au Tryz.func9 rfl Tryz.ntmps9 rfl ([]) (no) (Mem.nil w) ?_;refine J8 ?_;refine LM.cS (oC Tryz.func35) (fun w hm hc hg=>(qH aF 4 eP)▸wI w hn (hl.ext hc) (by unfold maxLen;omega) zu) (fun ad4 n4 ab4 m4 Qy Kl=>?_);refine J4 ?_;refine qL Tryz.results9 rfl fun w' aq ab aI=>?_;exact⟨ab,_,Qy▸Kl,aq.pick m4⟩
set_option maxHeartbeats 1000000 in
theorem Cg {l:List St} {ad:Option Addr} {n cap:Nat} (w:World) (hn:n=l.length) (hl:Sr fT 6 l (.slice ad n cap) w) (zu:l.length≤1000000000000):aJ Tryz.prog 11 #[.slice ad n cap] w (fun v w'=>v=Vy (Yn l)∧Ext w w'):=by
 refine aJ.au Tryz.func11 rfl Tryz.ntmps11 rfl ([]) (no) (Mem.nil w) ?_;refine Fw ?_;refine af.aS (α:=Nat) (fun k=>[(11,.int .i64 (k:Nat))]) [(0,_),(9,_),(10,_)] (fun k=>[]) (fun k=>k≤l.length∧DQ l k (l.length-k)=Yn l) (fun k=>l.length-k) (0) cm aX ⟨Nat.zero_le _,rfl⟩ ?_;rintro k ⟨hk,ho⟩;change af _ _ _ _ _ _ _ ([]) _ _ _;refine J6 ?_;refine af.aj rfl (fun h1=>?_) (fun h1=>?_)
 ·refine J8 ?_;refine LM.eT (dX aA ir Tryz.isAgg53 Tryz.sizeOf53 rfl cR id) ?_;refine LM.alloc Tryz.zeroValue53 rfl (fun b6 QI=>?_);refine J1 ?_;refine LM.dC Tryz.sizeOf53 rfl rfl rfl rfl dF cn ?_;refine J6 ?_;have hsk:=Sr.take (k:=k) hl om;refine LM.val (jv Tryz.underlying39 Tryz.sizeOf53 rfl rfl om (by have:=hl.open;omega)) ?_;refine J5 ?_;refine af.aS (α:=Nat) (fun i=>[(20,.int .i64 (i:Nat))]) [(0,_),(5,_),(6,_),(9,_),(10,_),(11,_),(18,_),(19,_)] (fun i=>(b6,.cells (fT (l.getD k default)).toArray 53 (0,0)):: []) (fun i=>i≤k∧O9 l (l.getD k default) i (k-i)=O9 l (l.getD k default) 0 k) (fun i=>k-i) (0) cm aX ⟨Nat.zero_le _,rfl⟩ ?_;rintro i ⟨hi,hq⟩;change af _ _ _ _ _ _ _ ((b6,.cells (fT (l.getD k default)).toArray 53 (0,0)):: []) _ _ _;refine J6 ?_;refine af.aj rfl (fun h2=>?_) (fun h2=>?_)
  ·refine J8 ?_;have UQ:(l.take k).getD i default=l.getD i default:=(by rw [List.getD_eq_getElem?_getD,List.getD_eq_getElem?_getD,List.getElem?_take_of_lt om])
   refine LM.eT (dX hl ir Tryz.isAgg53 Tryz.sizeOf53 rfl (aQ default (show i<l.length by omega)) id) ?_;refine LM.alloc Tryz.zeroValue53 rfl (fun b8 J0=>?_);refine J1 ?_;refine LM.dC Tryz.sizeOf53 rfl rfl rfl rfl dF cn ?_;refine J3 ?_;refine af.bH (α:=Bool) (fun b=>[(55,.bool b)]) [(0,_),(5,_),(6,_),(7,_),(9,_),(10,_),(11,_),(18,_),(19,_),(20,_)] (fun b=>(b8,.cells (fT (l.getD i default)).toArray 53 (0,0))::(b6,.cells (fT (l.getD k default)).toArray 53 (0,0)):: []) (fun b=>b=Cj (l.getD i default) (l.getD k default)) cm ?_ ?_
   ·refine J7 ?_;refine LM.ar (t:=30) rfl (fun h3=>?_) (fun h3=>?_)
    ·refine J9 ?_;refine LM.ar (t:=37) rfl (fun h4=>?_) (fun h4=>?_)
     ·refine J4 ?_;refine LM.bu (t:=40) rfl (fun h5=>?_) (fun h5=>?_)
      ·refine J7 ?_;refine LM.bu (t:=46) rfl (fun h6=>?_) (fun h6=>?_)
       ·refine J1 ?_;refine LM.rd (bo Tryz.isAgg53 Tryz.sizeOf53 rfl rfl) ?_;refine J1 ?_;refine LM.rd (bo Tryz.isAgg53 Tryz.sizeOf53 rfl rfl) ?_;refine J1 ?_;refine cE Tryz.func38 rfl (fun w hm hc hg=>lX _ _ w) ?_;refine J2 ?_;refine LM.bu (t:=51) rfl (fun h7=>?_) (fun h7=>?_)
        ·refine J1 ?_;refine LM.rd (bo Tryz.isAgg53 Tryz.sizeOf53 rfl rfl) ?_;refine J1 ?_;refine LM.rd (bo Tryz.isAgg53 Tryz.sizeOf53 rfl rfl) ?_;refine J1 ?_;refine cE Tryz.func38 rfl (fun w hm hc hg=>lX _ _ w) ?_;refine J2 ?_;refine mK (_) ?_
         · simp only [Cj,h1,h2,h3,h4,h5,h6,h7,decide_true,decide_false,Bool.true_and,Bool.false_and,Bool.and_true,Bool.and_false,Bool.not_true,Bool.not_false,Bool.true_or,Bool.false_or,Bool.or_true,Bool.or_false,ne_eq,not_true_eq_false,not_false_eq_true,Bool.and_self]
        refine J5 ?_;refine mK (_) ?_
        · simp only [Cj,h1,h2,h3,h4,h5,h6,h7,decide_true,decide_false,Bool.true_and,Bool.false_and,Bool.and_true,Bool.and_false,Bool.not_true,Bool.not_false,Bool.true_or,Bool.false_or,Bool.or_true,Bool.or_false,ne_eq,not_true_eq_false,not_false_eq_true,Bool.and_self]
       refine cf ?_;refine mK (_) ?_
       · simp only [Cj,h1,h2,h3,h4,h5,h6,decide_true,decide_false,Bool.true_and,Bool.false_and,Bool.and_true,Bool.and_false,Bool.not_true,Bool.not_false,Bool.true_or,Bool.false_or,Bool.or_true,Bool.or_false,ne_eq,not_true_eq_false,not_false_eq_true,Bool.and_self]
      refine J7 ?_;refine LM.rd (bo Tryz.isAgg53 Tryz.sizeOf53 rfl rfl) ?_;refine J1 ?_;refine LM.rd (bo Tryz.isAgg53 Tryz.sizeOf53 rfl rfl) ?_;refine J1 ?_;refine cE Tryz.func38 rfl (fun w hm hc hg=>lX _ _ w) ?_;refine J2 ?_;refine LM.bu (t:=51) rfl (fun h8=>?_) (fun h8=>?_)
      ·refine J1 ?_;refine LM.rd (bo Tryz.isAgg53 Tryz.sizeOf53 rfl rfl) ?_;refine J1 ?_;refine LM.rd (bo Tryz.isAgg53 Tryz.sizeOf53 rfl rfl) ?_;refine J1 ?_;refine cE Tryz.func38 rfl (fun w hm hc hg=>lX _ _ w) ?_;refine J2 ?_;refine mK (_) ?_
       · simp only [Cj,h1,h2,h3,h4,h5,h8,decide_true,decide_false,Bool.true_and,Bool.false_and,Bool.and_true,Bool.and_false,Bool.not_true,Bool.not_false,Bool.true_or,Bool.false_or,Bool.or_true,Bool.or_false,ne_eq,not_true_eq_false,not_false_eq_true,Bool.and_self]
      refine J5 ?_;refine mK (_) ?_
      · simp only [Cj,h1,h2,h3,h4,h5,h8,decide_true,decide_false,Bool.true_and,Bool.false_and,Bool.and_true,Bool.and_false,Bool.not_true,Bool.not_false,Bool.true_or,Bool.false_or,Bool.or_true,Bool.or_false,ne_eq,not_true_eq_false,not_false_eq_true,Bool.and_self]
     refine J2 ?_;refine LM.c9 (t:=37) rfl rfl rfl ?_;refine Fw ?_;refine mK (_) ?_
     · simp only [Cj,h1,h2,h3,h4,decide_true,decide_false,Bool.true_and,Bool.false_and,Bool.and_true,Bool.and_false,Bool.not_true,Bool.not_false,Bool.true_or,Bool.false_or,Bool.or_true,Bool.or_false,ne_eq,not_true_eq_false,not_false_eq_true,Bool.and_self]
    refine J9 ?_;refine LM.c9 (t:=37) rfl rfl rfl ?_;refine Fw ?_;refine mK (_) ?_
    · simp only [Cj,h1,h2,h3,decide_true,decide_false,Bool.true_and,Bool.false_and,Bool.and_true,Bool.and_false,Bool.not_true,Bool.not_false,Bool.true_or,Bool.false_or,Bool.or_true,Bool.or_false,ne_eq,not_true_eq_false,not_false_eq_true,Bool.and_self]
   rintro b hb;change QM _ _ _ _ _ ((b8,.cells (fT (l.getD i default)).toArray 53 (0,0))::(b6,.cells (fT (l.getD k default)).toArray 53 (0,0)):: []) _ _ _;subst hb;refine J1 ?_;refine af.aW rfl (fun h9=>?_) (fun h9=>?_)
   ·refine TS ?_;refine QM.leave (.inl rfl) [.tmp 2,.tmp 3,.tmp 4] Tryz.results11 rfl ?_;intro w' aq ab aI;refine ⟨?_,ab⟩;rw [Bq l _ (show i<k by omega),if_pos h9] at hq;rw [xS l (show k<l.length by omega),←hq] at ho;rw [←ho];rfl
   refine J7 ?_;refine aK (i+1) ?_ ?_
   · refine ⟨by omega,?_⟩;rw [Bq l _ (show i<k by omega),if_neg (by rw [h9];simp)] at hq;exact hq
   · omega
  refine cf ?_;refine aK (k+1) ?_ ?_
  · refine ⟨by omega,?_⟩;rw [xS l (show k<l.length by omega),←hq] at ho;have UU:i=k:=om;subst UU;rw [Nat.sub_self] at ho;exact ho
  · omega
 refine gw ?_;refine QM.leave (.inl rfl) [.tmp 2,.tmp 3,.tmp 4] Tryz.results11 rfl ?_;intro w' aq ab aI;refine ⟨?_,ab⟩;have CQ:l.length-k=0:=om;rw [CQ] at ho;rw [←ho];rfl
theorem wE {l:List St} {ad:Option Addr} {n cap:Nat} (w:World) (hn:n=l.length) (hl:Sr fT 6 l (.slice ad n cap) w) (zu:l.length≤1000000000000):aJ Tryz.prog 19 #[.slice ad n cap] w (fun v w'=>v=(match yX l l.length with|some p=> .tuple #[.int .i64 (p.1:Nat),.bool true] |none=> .tuple #[.int .i64 0,.bool false])∧Ext w w'):=by
 refine aJ.au Tryz.func19 rfl Tryz.ntmps19 rfl ([]) (no) (Mem.nil w) ?_;refine Uz ?_;refine af.aS (α:=Nat×Nat×Bool×BitVec 64) (fun ⟨i,bp,fo,mo⟩=>[(4,.int .i64 (bp:Nat)),(5,.bool fo),(6,U mo),(12,.int .i64 (i:Nat))]) [(10,_),(11,_)] (fun ⟨i,bp,fo,mo⟩=>[]) (fun ⟨i,bp,fo,mo⟩=>i≤l.length∧(match yX l i with|some p=>bp=p.1∧fo=true∧mo=p.2|none=>bp=0∧fo=false∧mo=0#64)) (fun ⟨i,bp,fo,mo⟩=>l.length-i) ((0,0,false,0#64)) cm aX ⟨Nat.zero_le _,rfl,rfl,rfl⟩ ?_;rintro ⟨i,bp,fo,mo⟩ ⟨hi,hf⟩;change af _ _ _ _ _ _ _ ([]) _ _ _;refine J6 ?_;refine af.aj rfl (fun h1=>?_) (fun h1=>?_)
 ·refine J8 ?_;refine LM.eT (dX aA ir Tryz.isAgg53 Tryz.sizeOf53 rfl cR id) ?_;refine LM.alloc Tryz.zeroValue53 rfl (fun b8 J0=>?_);refine J1 ?_;refine LM.dC Tryz.sizeOf53 rfl rfl rfl rfl dF cn ?_;refine J8 ?_;refine LM.val (NW rfl rfl) ?_;refine J2 ?_;refine LM.val (Fi rfl rfl) ?_;refine J4 ?_;refine af.bH (α:=Bool) (fun b=>[(36,.bool b)]) [(4,_),(5,_),(6,_),(7,_),(9,_),(10,_),(11,_),(12,_)] (fun b=>(b8,.cells (fT (l.getD i default)).toArray 53 (0,0)):: []) (fun b=>b=(decide ((l.getD i default).fin≠0)&&(!fo||decide (mo.toNat<(I7 (l.getD i default)).toNat)))) cm ?_ ?_
  ·refine J5 ?_;refine LM.ar (t:=28) rfl (fun h2=>?_) (fun h2=>?_)
   ·refine J3 ?_;refine LM.bu (t:=31) rfl (fun h3=>?_) (fun h3=>?_)
    ·refine J6 ?_;refine mK (_) ?_
     · (simp only [h1,h2,h3,decide_true,decide_false,Bool.true_and,Bool.false_and,Bool.and_true,Bool.and_false,Bool.not_true,Bool.not_false,Bool.true_or,Bool.false_or,Bool.or_true,Bool.or_false,ne_eq,not_true_eq_false,not_false_eq_true,Bool.and_self];done)
    refine J2 ?_;refine LM.sp 31 rfl rfl rfl ?_;refine LM.val (lr rfl rfl) ?_;refine J3 ?_;refine mK (_) ?_
    · (simp only [h1,h2,h3,decide_true,decide_false,Bool.true_and,Bool.false_and,Bool.and_true,Bool.and_false,Bool.not_true,Bool.not_false,Bool.true_or,Bool.false_or,Bool.or_true,Bool.or_false,ne_eq,not_true_eq_false,not_false_eq_true,Bool.and_self];rfl)
   refine J2 ?_;refine LM.c9 (t:=28) rfl rfl rfl ?_;refine J6 ?_;refine mK (_) ?_
   · (simp only [h1,h2,decide_true,decide_false,Bool.true_and,Bool.false_and,Bool.and_true,Bool.and_false,Bool.not_true,Bool.not_false,Bool.true_or,Bool.false_or,Bool.or_true,Bool.or_false,ne_eq,not_true_eq_false,not_false_eq_true,Bool.and_self];done)
  rintro b hb;change QM _ _ _ _ _ ((b8,.cells (fT (l.getD i default)).toArray 53 (0,0)):: []) _ _ _;subst hb;refine J1 ?_;refine af.aW rfl (fun h4=>?_) (fun h4=>?_)
  ·refine gw ?_;refine aK (i+1,i,true,I7 (l.getD i default)) ?_ ?_
   · refine ⟨by omega,?_⟩;simp only [Bool.and_eq_true,Bool.or_eq_true,decide_eq_true_eq,Bool.not_eq_true'] at h4;simp only [yX,S4];rw [if_neg h4.1];revert hf;cases yX l i with|none=>(intro hf;(repeat' (first|exact trivial|exact rfl|constructor)))|some p=>(obtain ⟨j,m⟩:=p;intro ⟨_,h6,h7⟩;rcases h4.2 with h8|h8;(rw [h6] at h8;cases h8);(subst h7;simp only [if_pos h8];(repeat' (first|exact trivial|exact rfl|constructor))))
   · (dsimp only;omega)
  refine J7 ?_;refine aK (i+1,bp,fo,mo) ?_ ?_
  · refine ⟨by omega,?_⟩;simp only [yX,S4];by_cases hz:(l.getD i default).fin=0;(rw [if_pos hz];exact hf);(rw [if_neg hz];revert hf;cases yX l i with|none=>(intro ⟨_,h6,_⟩;subst h6;simp [hz,-List.getD_eq_getElem?_getD] at h4)|some p=>(obtain ⟨j,m⟩:=p;intro ⟨h5,h6,h7⟩;subst h6;subst h7;simp [hz,-List.getD_eq_getElem?_getD] at h4;simp only [if_neg (Nat.not_lt.2 h4)];(repeat' (first|exact trivial|exact rfl|exact h5|constructor))))
  · (dsimp only;omega)
 refine lg ?_;refine QM.leave (.inl rfl) [.tmp 2,.tmp 3] Tryz.results19 rfl ?_;intro w' aq ab aI;have CQ:i=l.length:=om;subst CQ;refine ⟨?_,ab⟩;revert hf;cases yX l l.length with|none=>(intro ⟨h5,h6,_⟩;subst h5;subst h6;rfl)|some p=>(intro ⟨h5,h6,_⟩;subst h5;subst h6;rfl)
end Go.Eng
namespace Go.Eng
open Go Go.Proofs Go.RowKit
def E8:List Ev:=[⟨2#64,4,1,0,0⟩,⟨3#64,6,2,0,0⟩,⟨5#64,5,1,0,0⟩,⟨5#64,4,2,0,0⟩]
def Bn:List St:=[⟨1,0,2#64,5#64,1,false⟩,⟨2,0,5#64,0#64,0,false⟩]
def QQ:List St:=[⟨2,0,3#64,5#64,1,false⟩]
theorem Kz:gJ aF 4 E8=Bn:=by decide
theorem Jb:gJ aE 6 E8=QQ:=by decide
theorem xq {l:List St} {o:Option (Nat×Nat)} (ho:Yn l=o) {ad:Option Addr} {n cap:Nat} (w:World) (hn:n=l.length) (hl:Sr fT 6 l (.slice ad n cap) w) (zu:l.length≤1000000000000):aJ Tryz.prog 11 #[.slice ad n cap] w (fun v w'=>v=Vy o∧Ext w w'):=ho▸Cg w hn hl zu
def abb (o:Option (Nat×BitVec 64)):Value:=match o with|some p=> .tuple #[.int .i64 (p.1:Nat),.bool true] |none=> .tuple #[.int .i64 0,.bool false]
theorem D2 {l:List St} {o:Option (Nat×BitVec 64)} (ho:yX l l.length=o) {ad:Option Addr} {n cap:Nat} (w:World) (hn:n=l.length) (hl:Sr fT 6 l (.slice ad n cap) w) (zu:l.length≤1000000000000):aJ Tryz.prog 19 #[.slice ad n cap] w (fun v w'=>v=abb o∧Ext w w'):=ho▸wE w hn hl zu
theorem DD (a:St):(fT a).length=6:=rfl
set_option maxHeartbeats 1000000 in
theorem MZ (w:World):aJ Tryz.prog 5 #[] w (fun v w'=>v= .bool true∧Ext w w'):=by
 refine aJ.au Tryz.func5 rfl Tryz.ntmps5 rfl ([]) (no) (Mem.nil w) ?_;refine J7 ?_;refine LM.val (aD (cs:=#[_,_,_,_,_]) rfl (by first|rfl|kernel_rfl)) ?_;refine LM.val (aD (cs:=#[_,_,_,_,_]) rfl (by first|rfl|kernel_rfl)) ?_;refine LM.val (aD (cs:=#[_,_,_,_,_]) rfl (by first|rfl|kernel_rfl)) ?_;refine LM.val (aD (cs:=#[_,_,_,_,_]) rfl (by first|rfl|kernel_rfl)) ?_;refine LM.row (vs:=[_,_,_,_]) Tryz.underlying47 Tryz.sizeOf72 Tryz.zeroValue72 rfl rfl rfl rfl rfl rfl (fun Z5 Ya=>?_);refine J6 ?_;refine LM.cS (oC Tryz.func9) (fun w hm hc hg=>Kz▸va (eP:=E8) w rfl (Sr.row (hm.at Z5) rfl rfl (by decide) (fun _=>rfl)) (by decide)) (fun ah2 n15 ahn m15 Pu O0=>?_);have Pu:n15=2:=Pu;refine J1 ?_;refine LM.cS (oC Tryz.func10) (fun w hm hc hg=>Jb▸vu (eP:=E8) w rfl (Sr.row (hm.at Z5) rfl rfl (by decide) (fun _=>rfl)) (by decide)) (fun yt CK afu Qu uL Ds=>?_);have uL:CK=1:=uL;refine J7 ?_;refine cE Tryz.func11 rfl (fun w hm hc hg=>xq (l:=Bn) (o:=none) (by decide) w Pu (O0.k8 DD hm) (by decide)) ?_;refine cK ?_;refine cE Tryz.func19 rfl (fun w hm hc hg=>D2 (l:=Bn) (o:=some (0,3#64)) (by decide) w Pu (O0.k8 DD hm) (by decide)) ?_;refine gw ?_;refine LM.ar (t:=32) rfl (fun h1=>?_) (fun h1=>?_)
 ·refine J1 ?_;refine LM.sp 32 rfl rfl rfl ?_;refine LM.val (jr (i:=0) o5 Tryz.underlying39 Tryz.sizeOf53 rfl rfl om) ?_;refine J1 ?_;refine LM.rd (jm O0 ir Tryz.isAgg53 Tryz.sizeOf53 rfl (show Bn[0]? =some ⟨1,0,2#64,5#64,1,false⟩ from rfl)) ?_;refine LM.sp 32 rfl rfl rfl ?_;refine LM.val (aD (cs:=#[_,_,_,_,_,_]) rfl (by first|rfl|kernel_rfl)) ?_;refine LM.sp 32 rfl rfl rfl ?_;refine LM.val (F1 Tryz.underlying53 kr kr (by decide) rfl rfl (by rfl) ⟨(by first|rfl|trivial),(by first|rfl|trivial),(by first|rfl|trivial),(by first|rfl|trivial),(by first|rfl|trivial),(by first|rfl|trivial),trivial⟩) ?_;refine J2 ?_;refine LM.bu (t:=39) rfl (fun h2=>?_) (fun h2=>?_)
  ·refine J1 ?_;refine LM.sp 39 rfl rfl rfl ?_;refine LM.val (jr (i:=1) o5 Tryz.underlying39 Tryz.sizeOf53 rfl rfl om) ?_;refine J2 ?_;refine LM.rd (aH (j:=4) O0 ir Tryz.isAgg3 rfl rfl (show Bn[1]? =some ⟨2,0,5#64,0#64,0,false⟩ from rfl) rfl rfl) ?_;refine J3 ?_;refine LM.ar (t:=46) rfl (fun h3=>?_) (fun h3=>?_)
   ·refine J5 ?_;refine LM.ar (t:=51) rfl (fun h4=>?_) (fun h4=>?_)
    ·refine J1 ?_;refine LM.sp 51 rfl rfl rfl ?_;refine LM.val (jr (i:=0) o5 Tryz.underlying39 Tryz.sizeOf53 rfl rfl om) ?_;refine J1 ?_;refine LM.rd (jm Ds ir Tryz.isAgg53 Tryz.sizeOf53 rfl (show QQ[0]? =some ⟨2,0,3#64,5#64,1,false⟩ from rfl)) ?_;refine LM.sp 51 rfl rfl rfl ?_;refine LM.val (aD (cs:=#[_,_,_,_,_,_]) rfl (by first|rfl|kernel_rfl)) ?_;refine LM.sp 51 rfl rfl rfl ?_;refine LM.val (F1 Tryz.underlying53 kr kr (by decide) rfl rfl (by rfl) ⟨(by first|rfl|trivial),(by first|rfl|trivial),(by first|rfl|trivial),(by first|rfl|trivial),(by first|rfl|trivial),(by first|rfl|trivial),trivial⟩) ?_;refine J2 ?_;refine LM.bu (t:=58) rfl (fun h5=>?_) (fun h5=>?_)
     ·refine J4 ?_;refine LM.bu (t:=62) rfl (fun h6=>?_) (fun h6=>?_)
      ·refine J4 ?_;refine LM.ar (t:=66) rfl (fun h7=>?_) (fun h7=>?_)
       ·refine J6 ?_;refine qL Tryz.results5 rfl fun w' aq ab aI=>?_;exact⟨rfl,ab⟩
       refine J6 ?_;refine qL Tryz.results5 rfl fun w' aq ab aI=>?_
       (exfalso;first|omega|contradiction|(revert h2;decide)|(revert h4;decide)|(revert h5;decide)|(simp at*;done))
      refine cf ?_;refine qL Tryz.results5 rfl fun w' aq ab aI=>?_
      (exfalso;first|omega|contradiction|(revert h2;decide)|(revert h4;decide)|(revert h5;decide)|(simp at*;done))
     refine lg ?_;refine qL Tryz.results5 rfl fun w' aq ab aI=>?_
     (exfalso;first|omega|contradiction|(revert h2;decide)|(revert h4;decide)|(revert h5;decide)|(simp at*;done))
    refine J21 ?_;refine qL Tryz.results5 rfl fun w' aq ab aI=>?_
    (exfalso;first|omega|contradiction|(revert h2;decide)|(revert h4;decide)|(revert h5;decide)|(simp at*;done))
   refine Uz ?_;refine qL Tryz.results5 rfl fun w' aq ab aI=>?_
   (exfalso;first|omega|contradiction|(revert h2;decide)|(revert h4;decide)|(revert h5;decide)|(simp at*;done))
  refine J33 ?_;refine qL Tryz.results5 rfl fun w' aq ab aI=>?_
  (exfalso;first|omega|contradiction|(revert h2;decide)|(revert h4;decide)|(revert h5;decide)|(simp at*;done))
 refine J40 ?_;refine qL Tryz.results5 rfl fun w' aq ab aI=>?_
 (exfalso;first|omega|contradiction|(revert h2;decide)|(revert h4;decide)|(revert h5;decide)|(simp at*;done))
end Go.Eng
namespace Go.Eng
open Go Go.Proofs Go.RowKit Go.ChangeShapes Go.WideShapes
theorem Cd:Rdb Tryz.prog 37 fA (fun a=>(-9223372036854775808≤a.k∧a.k≤9223372036854775807)∧(-9223372036854775808≤a.a∧a.a≤9223372036854775807)∧(-9223372036854775808≤a.b∧a.b≤9223372036854775807)∧(-9223372036854775808≤a.c∧a.c≤9223372036854775807)∧(-9223372036854775808≤a.d∧a.d≤9223372036854775807)):=fun {H enc w base sp held fuel cs x} h=>by
  obtain ⟨h1,h2⟩:=sC Tryz.underlying37 h;rw [show Tryz.prog.cellsOf 37=5 by kernel_rfl] at h1;have c3:Tryz.prog.cellsOf 3=1:=by kernel_rfl
  match cs,h1 with
  | [a0,a1,a2,a3,a4],_=>
    simp only [List.forall_mem_cons,c3,List.drop_succ_cons,List.drop_zero,List.take_succ_cons,List.take_zero] at h2;obtain ⟨⟨_,_,f0⟩,⟨_,_,f1⟩,⟨_,_,f2⟩,⟨_,_,f3⟩,⟨_,_,f4⟩,_⟩:=h2;obtain ⟨m0,e0,_,w0⟩:=DataW.trod_int Tryz.underlying3 f0;obtain ⟨m1,e1,_,w1⟩:=DataW.trod_int Tryz.underlying3 f1;obtain ⟨m2,e2,_,w2⟩:=DataW.trod_int Tryz.underlying3 f2;obtain ⟨m3,e3,_,w3⟩:=DataW.trod_int Tryz.underlying3 f3;obtain ⟨m4,e4,_,w4⟩:=DataW.trod_int Tryz.underlying3 f4;simp only [List.cons.injEq,and_true] at e0 e1 e2 e3 e4;subst e0;subst e1;subst e2;subst e3;subst e4;exact⟨⟨m0,m1,m2,m3,m4⟩,rfl,⟨bounds_i64 w0,bounds_i64 w1,bounds_i64 w2,bounds_i64 w3,bounds_i64 w4⟩⟩
theorem Hj {H:Type} {enc:TypeId×Value→H} {w:World} {base:Nat} {sp:Nat→Bool} {held:Bool} {r:Reach} {b0:Nat} {v:Value} {d:DataW H} {ps:List MemPlace}
    (Jw:Value.okWide Tryz.prog w r b0 24 v) (h:DataW.Trod enc Tryz.prog w base sp held 24 v d ps):
    ∃(t:List UInt8) (xs:List Act) (ad:Option Addr) (cap:Nat),v= .agg #[vS t,.slice ad xs.length cap]∧Sr fA 5 xs (.slice ad xs.length cap) w:=by
  obtain ⟨fuel,h⟩:=h
  obtain ⟨cs,rfl⟩:∃cs,v= .agg cs:=by
    simp only [Value.okWide,Tryz.underlying24] at Jw;obtain ⟨cs,h1,_⟩:=Jw;exact⟨cs,h1⟩
  obtain ⟨h1,h2⟩:=sC Tryz.underlying24 h;rw [show Tryz.prog.cellsOf 24=2 by kernel_rfl] at h1;have c0:Tryz.prog.cellsOf 9=1:=by kernel_rfl
  have c1:Tryz.prog.cellsOf 22=1:=by kernel_rfl
  have wx:(Value.agg cs).cells.toList=cs.toList:=rfl;rw [wx] at h1 h2;obtain ⟨l⟩:=cs
  match l,h1 with
  | [a0,a1],_=>
    simp only [List.forall_mem_cons,c0,c1,List.drop_succ_cons,List.drop_zero,List.take_succ_cons,List.take_zero] at h2;obtain ⟨⟨_,_,f0⟩,⟨n1,y1,f1⟩,_⟩:=h2;obtain ⟨m0,e0,_⟩:=DataW.trod_string Tryz.underlying9 f0;simp only [List.cons.injEq,and_true] at e0;subst e0
    obtain ⟨ad,len,cap,rfl⟩:∃ad len cap,a1= .slice ad len cap:=by
      rcases DataW.trod_slice Tryz.underlying22 f1 with ⟨h0,_⟩|⟨a,l,c,elems,rest,n,_,h0,_⟩
      · simp at h0;exact⟨_,_,_,h0⟩
      · simp at h0;exact⟨_,_,_,h0⟩
    obtain ⟨d1,p1⟩:=y1;obtain ⟨xs,rfl,h3,_,h4⟩:=Pf (s:=5) (H:=H) (enc:=enc) (ad:=ad) (len:=len) (cap:=cap) (d:=d1) (ps:=p1) Tryz.underlying22 Cd kr (by decide) (fun _=>rfl) ⟨n1,f1⟩;obtain ⟨t,rfl⟩:∃x:List UInt8,m0=bs x:=⟨_,X0 m0⟩
    exact⟨t,xs,ad,cap,rfl,h3⟩
end Go.Eng
namespace Go.Eng
open Go Go.Proofs Go.RowKit
def IZ (s:eL) (k:Nat) (v:Value) (m:aa):Prop:=∃n0,k≤n0∧s.Old n0∧McN s n0 v m
theorem IZ.mono {s:eL} :∀(a b:Nat) u m,b≤a→IZ s a u m→IZ s b u m:=fun a b u m h ⟨n0,h1,h2⟩=>⟨n0,Nat.le_trans h h1,h2⟩
theorem Sr.lt {α:Type} {f:α→List Value} {s:Nat} {xs:List α} {ad:Option Addr} {n c:Nat} {w:World} (h:Sr f s xs (.slice ad n c) w) (hx:0<xs.length):iM ad<w.heap.size:=by
  obtain ⟨b,off,cs,E,fz,h1,h2,-⟩:=h.open.2.2 hx;rw [h1];exact(Array.getElem?_eq_some_iff.1 h2).1
theorem eL.In.n3 {s:eL} {w:World} (h:s.In w):s.Old w.heap.size:=⟨h.hg.lt,h.hl.lt,h.hp.lt,fun p hp=>(h.ops p hp).2.lt⟩
theorem Cf {s:eL} (w:World) (hI:s.In w):aJ Tryz.prog 7 #[s.val] w (fun v w'=>Ext w w'∧∃m,IZ s w.heap.size v m∧Mem w' m∧∀p∈m,w.heap.size≤p.1):=
  (Eo w hI).mono (fun v w' ⟨h1,m,h2,h3⟩=>⟨h1,m,⟨_,Nat.le_refl _,hI.n3,h2⟩,h3⟩)
theorem Sr.dS {l:List fu} {v:Value} {w:World} (h:Sr ZP 5 l v w):Sr fE 5 (l.map dS) v w:=by
  obtain ⟨ad,cap,h1,h2,h3⟩:=h;refine ⟨ad,cap,by rw [List.length_map];exact h1,by rw [List.length_map];exact h2,fun hx=>?_⟩;rw [List.length_map] at hx;obtain ⟨b,off,cs,E,fz,h4,h5,h6⟩:=h3 hx;refine ⟨b,off,cs,E,fz,h4,h5,fun i a ha j hj=>?_⟩;rw [List.getElem?_map] at ha;cases e:l[i]? with
  |none=>rw [e] at ha;cases ha
  |some y=>rw [e] at ha;cases ha;exact h6 i y e j hj
theorem dY.le {n0 b:Nat} {s:eL} {x:aC} {m:aa} {w:World} (h:dY n0 b s x m) (hm:Mem w m):n0≤w.heap.size:=by
  obtain ⟨P,rfl,h⟩:=h;have:=h.hb;have h2:=(hm.at b)
  exact Nat.le_of_lt (Nat.lt_of_le_of_lt this (Array.getElem?_eq_some_iff.1 h2).1)
theorem x4 (l:List St) (j:Nat):Cn (l.take j)≤l.length:=Nat.le_trans (List.length_filter_le ..) (by rw [List.length_take];omega)
theorem yU {f:Nat→Nat} :∀{i n:Nat},i≤n→lx f i≤lx f n
  |i,0,h=>by rw [show i=0 by omega];exact Nat.le_refl _
  |i,n+1,h=>by
    by_cases e:i=n+1
    · rw [e];exact Nat.le_refl _
    · exact Nat.le_trans (yU (i:=i) (n:=n) om) (Nat.le_add_right ..)
set_option maxHeartbeats 4000000 in
theorem auditSafe (t:List UInt8) {xs:List Act} {B0:Option Addr} {na nH:Nat} (w:World) (HQ:na=xs.length) (hl:Sr fA 5 xs (.slice B0 na nH) w):aJ Tryz.prog 3 #[.agg #[vS t,.slice B0 na nH]] w (fun v w'=>v= .bool true∧Ext w w'):=by
 refine aJ.au Tryz.func3 rfl Tryz.ntmps3 rfl ([]) (no) (Mem.nil w) ?_;refine J2 ?_;refine LM.box rfl rfl (fun b1 CJ=>?_);refine J6 ?_;refine cE Tryz.func5 rfl (fun w hm hc hg=>MZ w) ?_;refine J3 ?_;refine af.aW rfl (fun h1=>?_) (fun h1=>?_)
 ·refine J7 ?_;refine qL Tryz.results3 rfl fun w' aq ab aI=>?_
  (exfalso;first|omega|(simp at*;done)|(simp_all;done))
 refine J4 ?_;refine LM.rd (bo Tryz.isAgg24 Tryz.sizeOf24 rfl rfl) ?_;refine LM.iO (oC Tryz.func6) MP.mono (fun w hm hc hg=>Aw t 60 150 w HQ (hl.ext hc) om om) ?_;rintro u26 z5 ⟨sv,ok,rfl,QG,jC⟩ afh;refine J3 ?_;refine LM.alloc Tryz.zeroValue30 rfl (fun b3 Mm=>?_);refine LM.dC Tryz.sizeOf30 rfl rfl rfl rfl dF cn ?_;refine cf ?_;refine af.aW rfl (fun h2=>?_) (fun h2=>?_)
 ·refine J7 ?_;refine qL Tryz.results3 rfl fun w' aq ab aI=>?_;exact⟨rfl,ab⟩
 have CW:fC sv.C=true:=(QG (by simpa using h2)).1;have aji:(na:Int)≤60:=(by rw [HQ];exact(QG (by simpa using h2)).2)
 refine J4 ?_;refine LM.rd (bo Tryz.isAgg30 Tryz.sizeOf30 rfl rfl) ?_;refine LM.iO (oC Tryz.func7) IZ.mono (fun w hm hc hg=>Cf w (jC w (hm.pick z5))) ?_;rintro u33 QK ⟨n0,cb,hold,hN⟩ af9;obtain ⟨bm,rfl,hX0⟩:∃bm,u33= .tuple #[.pointer (some ⟨bm,0,none⟩),.bool true]∧dY n0 bm sv (fj sv.C) QK:=(by rcases hN with ⟨q,_⟩|⟨_,b,q1,q2⟩;rw [CW] at q;cases q;exact⟨b,q1,q2⟩)
 refine xW ?_;refine af.aS (α:=Nat×aa) (fun ⟨i,m⟩=>[(39,.int .i64 (i:Nat))]) [(5,_),(37,_),(38,_)] (fun ⟨i,m⟩=>m++(z5++(Mv b1 t B0 na nH:: []))) (fun ⟨i,m⟩=>i≤na∧dY n0 bm sv (G2 (fj sv.C) xs i) m) (fun ⟨i,m⟩=>na-i) ((0,QK)) cm aX ⟨Nat.zero_le _,hX0⟩ ?_;rintro ⟨i,m⟩ ⟨hi,hX⟩;change af _ _ _ _ _ _ _ (m++(z5++(Mv b1 t B0 na nH:: []))) _ _ _;have YT:=(MW.new CW).ply xs i om;refine J6 ?_;refine af.aj rfl (fun h3=>?_) (fun h3=>?_)
 ·refine J7 ?_;refine LM.eT (dX aA ir Tryz.isAgg37 Tryz.sizeOf37 rfl cR id) ?_;refine LM.alloc Tryz.zeroValue37 rfl (fun b8 J0=>?_);refine LM.dC Tryz.sizeOf37 rfl rfl rfl rfl dF cn ?_;refine J4 ?_;refine LM.rd (bo Tryz.isAgg37 Tryz.sizeOf37 rfl rfl) ?_;refine cU Tryz.func8 rfl (fun w hm hc hg=>Hr (xs.getD i default) w hX YT.i om (jC w (hm.pick z5)) hold (hX.le (hm.pick m)) (hm.pick m)) hX.bW (fun p hp bB=>absurd bB (Nat.not_lt_of_le (Nat.le_trans cb (hX.ge p hp)))) ?_;rintro u45 m45 ⟨rfl,h45⟩ ag3;refine J7 ?_;refine aK (i+1,m45) ?_ ?_
  · exact⟨by omega,by rw [AU om];exact h45⟩
  · (dsimp only;omega)
 have fp:i=xs.length:=om;obtain ⟨P,rfl,hP⟩:=hX;generalize hXX:G2 (fj sv.C) xs i=X at hP YT;have hI:=YT.i;have Pr:=hI.l8;have z4:=hI.ev;obtain ⟨⟨ho1,YE,ho3⟩,hbe⟩:=YT.holds;obtain ⟨CB,Hg,hw3⟩:=YT.waits;have aiG:=hP.nl;have aiW:=hP.sl;have ahM:=hP.bl;have hHl:=sn aF 4 (X.ev.map dS);have hWl:=sn aE 6 (X.ev.map dS);obtain ⟨H,hHe⟩:∃H,gJ aF 4 (X.ev.map dS)=H:=⟨_,rfl⟩;obtain ⟨W,hWe⟩:∃W,gJ aE 6 (X.ev.map dS)=W:=⟨_,rfl⟩;rw [hHe] at ho1 YE ho3 hbe hHl;rw [hWe] at CB Hg hw3 hWl;rw [List.length_map] at hHl hWl;have hoN:Cn H=lx (fun j=>(gL X j).ho.length) X.lk.length:=(by rw [ho3];congr 1;funext j;exact List.length_map ..);have hwN:Cn W=lx (fun j=>(gL X j).wt.length) X.lk.length:=(by rw [hw3];congr 1;funext j;exact List.length_map ..)
 refine J6 ?_;refine af.draw [(0,0),(1,0),(2,0),(3,1),(5,0),(6,0),(7,0),(8,1),(4,2),(9,2),(10,0),(11,0)] kr kr ?_;refine J8 ?_;refine LD.cS rfl rfl (oC Tryz.func9) (fun w hm hc hg=>hHe▸va (eP:=X.ev.map dS) w (by rw [List.length_map];exact hP.ne) (Sr.dS (hP.se.k8 (fun _=>rfl) (hm.pick P.me))) (by rw [List.length_map];omega)) (fun alA n51 ago NL aaP aeC=>?_);refine LD.cS rfl rfl (oC Tryz.func10) (fun w hm hc hg=>hWe▸vu (eP:=X.ev.map dS) w (by rw [List.length_map];exact hP.ne) (Sr.dS (hP.se.k8 (fun _=>rfl) (hm.pick P.me))) (by rw [List.length_map];omega)) (fun OQ n56 Fq wK VJ NI=>?_);refine J8 ?_;refine cE Tryz.func11 rfl (fun w hm hc hg=>xq hbe w aaP (aeC.k8 DD (hm.pick NL)) om) ?_;refine lg ?_;refine af.aW rfl (fun h4=>?_) (fun h4=>?_)
 ·cases h4
 refine xW ?_;refine af.aS (α:=Nat) (fun j=>[(14,.int .i64 (Cn (H.take j):Nat)),(66,.int .i64 (j:Nat))]) [(5,_),(10,_),(15,_),(64,_),(65,_)] (fun j=>az bm sv X.now P++(NL++(wK++(z5++(Mv b1 t B0 na nH:: []))))) (fun j=>j≤H.length) (fun j=>H.length-j) (0) ⟨(by first|exact lk rfl rfl|exact lk rfl (by rw [oz rp aA];rfl)|exact lk rfl (by rw [rH rp aA])),ka,rfl,rfl,rfl,rfl,rfl,trivial⟩ aX (Nat.zero_le _) ?_;rintro j hj;change af _ _ _ _ _ _ _ (az bm sv X.now P++(NL++(wK++(z5++(Mv b1 t B0 na nH:: []))))) _ _ _;refine J6 ?_;refine af.aj rfl (fun h5=>?_) (fun h5=>?_)
 ·have rp:j<H.length:=om;have CS:H.getD j default∈H:=List.mem_of_getElem? (aQ default rp);have hnn:=x4 H j;refine J7 ?_;refine LM.rd (jm aA ir Tryz.isAgg53 Tryz.sizeOf53 rfl cR) ?_;refine LM.alloc Tryz.zeroValue53 rfl (fun b17 ak5=>?_);refine LM.dC Tryz.sizeOf53 rfl rfl rfl rfl dF cn ?_;refine J9 ?_;refine af.aj rfl (fun h6=>?_) (fun h6=>?_)
  ·obtain ⟨l7,jK,CG⟩:=ho1 _ CS h6;refine J8 ?_;refine af.draw [(0,0),(1,1),(2,0),(3,0),(4,0),(5,1),(6,0),(7,0),(8,0),(9,1),(10,0),(11,0),(12,0),(13,0),(14,0),(15,0),(16,0),(17,1),(18,0),(19,1),(20,0),(21,1),(22,0),(23,1),(24,2),(25,0),(26,0)] kr kr ?_;refine J4 ?_;refine LD.ar (t:=78) rfl (fun h7=>?_) (fun h7=>?_)
   ·omega
   refine cf ?_;refine LD.ar (t:=88) rfl (fun h8=>?_) (fun h8=>?_)
   ·omega
   refine J6 ?_;refine LD.val rfl ⟨88,_,rfl,rfl,rfl⟩ (cP o5 Tryz.underlying43 Tryz.sizeOf54 rfl rfl om) ?_;refine LD.rd rfl ⟨88,_,rfl,rfl,rfl⟩ (bw aA ir Tryz.isAgg54 rfl rfl cR (by rfl)) ?_;refine J2 ?_;refine dE rfl ⟨88,_,rfl,rfl,rfl⟩ Tryz.func12 rfl (fun w hm hc hg=>hP.sq.read (i:=(H.getD j default).lock.toNat) om (hm.pick P.mq) (fun m hr hM=>(show aJ _ _ _ _ (fun u w'=>u= .bool (bd (gL X (H.getD j default).lock.toNat) (H.getD j default).task)∧Ext _ w') from iW _ w hr hM))) ?_;refine J4 ?_;refine af.aW rfl (fun h9=>?_) (fun h9=>?_)
   ·rw [CG] at h9;cases h9
   refine J7 ?_;refine QM.cT (j+1) ⟨(by first|exact lk rfl rfl|exact lk rfl (by rw [oz rp aA];rfl)|exact lk rfl (by rw [rH rp aA])),ka,rfl,rfl,rfl,rfl,rfl,trivial⟩ aX (fun _ h=>h) ?_ ?_
   · omega
   · omega
  refine J6 ?_;refine LM.val (ia rfl rfl) ?_;refine J2 ?_;refine af.aj rfl (fun iV=>?_) (fun iV=>?_)
  ·have:=YE _ CS h6;omega
  refine J7 ?_;refine QM.cT (j+1) ⟨(by first|exact lk rfl rfl|exact lk rfl (by rw [oz rp aA];rfl)|exact lk rfl (by rw [rH rp aA])),ka,rfl,rfl,rfl,rfl,rfl,trivial⟩ aX (fun _ h=>h) ?_ ?_
  · omega
  · omega
 have XS:j=H.length:=om;refine lg ?_;refine af.aS (α:=Nat) (fun j4=>[(15,.int .i64 (Cn (W.take j4):Nat)),(110,.int .i64 (j4:Nat))]) [(5,_),(14,_),(108,_),(109,_)] (fun j4=>az bm sv X.now P++(NL++(wK++(z5++(Mv b1 t B0 na nH:: []))))) (fun j4=>j4≤W.length) (fun j4=>W.length-j4) (0) ⟨(by first|exact lk rfl rfl|exact lk rfl (by rw [oz rp aA];rfl)|exact lk rfl (by rw [rH rp aA])),ka,rfl,rfl,rfl,rfl,trivial⟩ aX (Nat.zero_le _) ?_;rintro j4 hj4;change af _ _ _ _ _ _ _ (az bm sv X.now P++(NL++(wK++(z5++(Mv b1 t B0 na nH:: []))))) _ _ _;refine J6 ?_;refine af.aj rfl (fun kg=>?_) (fun kg=>?_)
 ·have rp:j4<W.length:=om;have CS:W.getD j4 default∈W:=List.mem_of_getElem? (aQ default rp);have hnn:=x4 W j4;refine J7 ?_;refine LM.rd (jm aA ir Tryz.isAgg53 Tryz.sizeOf53 rfl cR) ?_;refine LM.alloc Tryz.zeroValue53 rfl (fun b19 alx=>?_);refine LM.dC Tryz.sizeOf53 rfl rfl rfl rfl dF cn ?_;refine J9 ?_;refine af.aj rfl (fun gH=>?_) (fun gH=>?_)
  ·obtain ⟨l7,jK,CG⟩:=CB _ CS gH;refine J8 ?_;refine af.draw [(0,0),(1,1),(2,0),(3,0),(4,0),(5,1),(6,0),(7,0),(8,0),(9,1),(10,0),(11,0),(12,0),(13,0),(14,0),(15,0),(16,0),(17,1),(18,0),(19,1),(20,0),(21,1),(22,0),(23,1),(24,2),(25,0),(26,0)] kr kr ?_;refine J4 ?_;refine LD.ar (t:=122) rfl (fun oq=>?_) (fun oq=>?_)
   ·omega
   refine cf ?_;refine LD.ar (t:=132) rfl (fun jw=>?_) (fun jw=>?_)
   ·omega
   refine J6 ?_;refine LD.val rfl ⟨132,_,rfl,rfl,rfl⟩ (cP o5 Tryz.underlying43 Tryz.sizeOf54 rfl rfl om) ?_;refine LD.rd rfl ⟨132,_,rfl,rfl,rfl⟩ (bw aA ir Tryz.isAgg54 rfl rfl cR (by rfl)) ?_;refine J2 ?_;refine dE rfl ⟨132,_,rfl,rfl,rfl⟩ Tryz.func13 rfl (fun w hm hc hg=>hP.sq.read (i:=(W.getD j4 default).lock.toNat) om (hm.pick P.mq) (fun m hr hM=>(show aJ _ _ _ _ (fun u w'=>u= .bool (bY (gL X (W.getD j4 default).lock.toNat) (W.getD j4 default).task)∧Ext _ w') from (by have q:=lF (W.getD j4 default).task w hr hM;rw [ru] at q;exact q)))) ?_;refine J4 ?_;refine af.aW rfl (fun wW=>?_) (fun wW=>?_)
   ·rw [CG] at wW;cases wW
   refine J7 ?_;refine QM.cT (j4+1) ⟨(by first|exact lk rfl rfl|exact lk rfl (by rw [oz rp aA];rfl)|exact lk rfl (by rw [rH rp aA])),ka,rfl,rfl,rfl,rfl,trivial⟩ aX (fun _ h=>h) ?_ ?_
   · omega
   · omega
  refine J6 ?_;refine LM.val (ia rfl rfl) ?_;refine J2 ?_;refine af.aj rfl (fun tB=>?_) (fun tB=>?_)
  ·have:=Hg _ CS gH;omega
  refine J7 ?_;refine QM.cT (j4+1) ⟨(by first|exact lk rfl rfl|exact lk rfl (by rw [oz rp aA];rfl)|exact lk rfl (by rw [rH rp aA])),ka,rfl,rfl,rfl,rfl,trivial⟩ aX (fun _ h=>h) ?_ ?_
  · omega
  · omega
 have Vk:j4=W.length:=om;refine xW ?_;refine af.aS (α:=Nat) (fun j6=>[(14,.int .i64 ((Cn H:Nat)-(lx (fun j=>(gL X j).ho.length) j6:Nat))),(15,.int .i64 ((Cn W:Nat)-(lx (fun j=>(gL X j).wt.length) j6:Nat))),(157,.int .i64 (j6:Nat))]) [(155,_),(156,_)] (fun j6=>az bm sv X.now P++(NL++(wK++(z5++(Mv b1 t B0 na nH:: []))))) (fun j6=>j6≤X.lk.length) (fun j6=>X.lk.length-j6) (0) ⟨(by first|(refine lk rfl ?_;rw [XS,List.take_length];simp [lx];done)|(refine lk rfl ?_;rw [iL,Mx];congr 1;omega)),(by first|(refine lk rfl ?_;rw [Vk,List.take_length];simp [lx];done)|(refine lk rfl ?_;rw [jP,Kl];congr 1;omega)),ka,rfl,rfl,trivial⟩ aX (Nat.zero_le _) ?_;rintro j6 hj6;change af _ _ _ _ _ _ _ (az bm sv X.now P++(NL++(wK++(z5++(Mv b1 t B0 na nH:: []))))) _ _ _;refine J6 ?_;refine af.aj rfl (fun pC=>?_) (fun pC=>?_)
 ·have rp:j6<X.lk.length:=om;obtain ⟨bI,nh,aG,bR,nw,aO,bl,mh,mw,rest,iL,jP,eX,gk,Qi⟩:=tL hP.sq rp;have FA:=yU (f:=fun j=>(gL X j).ho.length) (i:=j6+1) (n:=X.lk.length) om;have rS:=yU (f:=fun j=>(gL X j).wt.length) (i:=j6+1) (n:=X.lk.length) om;have Mx:lx (fun j=>(gL X j).ho.length) (j6+1)=lx (fun j=>(gL X j).ho.length) j6+(gL X j6).ho.length:=rfl;have Kl:lx (fun j=>(gL X j).wt.length) (j6+1)=lx (fun j=>(gL X j).wt.length) j6+(gL X j6).wt.length:=rfl;have aeu:=x4 H H.length;have abR:=x4 W W.length;rw [List.take_length] at aeu abR;refine J7 ?_;refine LM.rd (bw aA ir Tryz.isAgg54 rfl rfl cR (by rfl)) ?_;refine J9 ?_;refine LM.eT (fun w hm hc hg=>fF (M:=dA (P.bs.getD j6 default) (gL X j6).sh (gL X j6).sl bI nh aG bR nw aO (gL X j6).tr bl (gL X j6).di::(mh++(mw++ []))) Tryz.isAgg56 rfl rfl w (Mem.part Qi (hm.pick P.mq))) ?_;refine cf ?_;refine LM.eT (fun w hm hc hg=>fF (M:=dA (P.bs.getD j6 default) (gL X j6).sh (gL X j6).sl bI nh aG bR nw aO (gL X j6).tr bl (gL X j6).di::(mh++(mw++ []))) Tryz.isAgg56 rfl rfl w (Mem.part Qi (hm.pick P.mq))) ?_;refine cf ?_;refine QM.cT (j6+1) ⟨(by first|(refine lk rfl ?_;rw [XS,List.take_length];simp [lx];done)|(refine lk rfl ?_;rw [iL,Mx];congr 1;omega)),(by first|(refine lk rfl ?_;rw [Vk,List.take_length];simp [lx];done)|(refine lk rfl ?_;rw [jP,Kl];congr 1;omega)),ka,rfl,rfl,trivial⟩ aX (fun _ h=>h) ?_ ?_
  · omega
  · omega
 refine cf ?_;refine LM.ar (t:=178) rfl (fun sX=>?_) (fun sX=>?_)
 ·refine J7 ?_;refine qL Tryz.results3 rfl fun w' aq ab aI=>?_;have hjj:j6=X.lk.length:=om;refine ⟨?_,ab⟩;rw [hjj,hwN];simp [bA]
 refine J7 ?_;refine qL Tryz.results3 rfl fun w' aq ab aI=>?_;have hjj:j6=X.lk.length:=om;exact absurd (by rw [hjj,hoN];omega) sX
end Go.Eng
