/- Events held against what a machine may do: locks are taken and given back; no program text in sight. No condition. -/
import Derived.Test.YtdimfmnimobmfaaGreatK2
import Derived.Test.YtdimfmnimobmfaaGreatK6
import Derived.Test.YtdimfmnimobmfaaGreatK3
import Derived.Test.YtdimfmnimobmfaaGreatK1
import Derived.Test.YtdimfmnimobmfaaGreatRows
import Derived.Test.YtdimfmnimobmfaaGreatK5
set_option linter.unusedVariables false
set_option linter.unusedSectionVars false
set_option linter.unusedSimpArgs false
set_option maxRecDepth 100000
set_option maxHeartbeats 4000000
attribute [local irreducible] Go.Eng.LM Go.Eng.LD Go.Eng.KD Go.Eng.af Go.Eng.QM
namespace Go.Eng
open Go Go.RowKit
def nO (sh:Bool) (g:Hd):Int:=(if g.d=true then 1 else 0)+(if sh=true∧g.p=0 then 2 else 0)
theorem KN (sh:Bool) (g:Hd):(2≤nO sh g↔wJ sh g=true)∧0≤nO sh g∧nO sh g≤3:=by
  unfold nO wJ
  rw [Bool.and_eq_true,decide_eq_true_eq]
  by_cases e:sh=true∧g.p=0
  · rw [if_pos e];refine ⟨⟨fun _=>e,fun _=>?_⟩,?_,?_⟩<;>split<;>omega
  · rw [if_neg e];refine ⟨⟨fun q=>?_,fun q=>absurd q e⟩,?_,?_⟩
    · split at q<;>omega
    · split<;>omega
    · split<;>omega
theorem Ge {w:bU} {l:Nat} (hl:l<w.rd.length) (s:BitVec 64) (j:Nat):(w.rd.set l s).getD j 0#64=if l=j then s else qe w j:=by
  rw [List.getD_eq_getElem?_getD,List.getElem?_set]
  by_cases e:l=j
  · rw [if_pos e,if_pos e,if_pos hl];rfl
  · rw [if_neg e,if_neg e];unfold qe;rw [List.getD_eq_getElem?_getD]
theorem Gn {w:bU} {l:Nat} (hl:l<w.wr.length) (s:BitVec 64) (j:Nat):(w.wr.set l s).getD j 0#64=if l=j then s else ql w j:=by
  rw [List.getD_eq_getElem?_getD,List.getElem?_set]
  by_cases e:l=j
  · rw [if_pos e,if_pos e,if_pos hl];rfl
  · rw [if_neg e,if_neg e];unfold ql;rw [List.getD_eq_getElem?_getD]
theorem qo.drop {v:Vw} {w:bU} (h:qo v w) {t l:Nat} (hl:l<v.nl):qo (v.hd l ((v.hs l).filter (fun g=>decide (g.t≠(t:Int))))) (CM w t l):=by
  have e1:=h.rl;have e2:=h.wl;refine ⟨h.n,h.RJ,h.hw,h.co,h.lo,h.sl,by show (w.rd.set l _).length=_;rw [List.length_set];exact e1,by show (w.wr.set l _).length=_;rw [List.length_set];exact e2,h.sh,h.cr,fun j hj g hg=>?_,fun j hj q=>?_,fun j hj q=>?_⟩
  · have hg:g∈aT v.hs l ((v.hs l).filter _) j:=hg
    unfold aT at hg;split at hg
    · exact h.hr l hl g (List.mem_filter.1 hg).1
    · exact h.hr j hj g hg
  · show aR ((w.rd.set l _).getD j 0#64) q=true↔∃g∈aT v.hs l _ j,_
    rw [Ge om];unfold aT
    by_cases e:l=j
    · subst e
      rw [if_pos rfl,if_pos rfl,wC,Bool.and_eq_true,h.rd l hl q,Bool.not_eq_true',decide_eq_false_iff_not]
      constructor
      · rintro ⟨⟨g,a,b,c⟩,d⟩;exact⟨g,List.mem_filter.2 ⟨a,decide_eq_true (by rw [c];exact d)⟩,b,c⟩
      · rintro ⟨g,a,b,c⟩;have a:=List.mem_filter.1 a;exact⟨⟨g,a.1,b,c⟩,by rw [←c];exact of_decide_eq_true a.2⟩
    · rw [if_neg e,if_neg e];exact h.rd j hj q
  · show aR ((w.wr.set l _).getD j 0#64) q=true↔∃g∈aT v.hs l _ j,_
    rw [Gn om];unfold aT
    by_cases e:l=j
    · subst e
      rw [if_pos rfl,if_pos rfl,wC,Bool.and_eq_true,h.wr l hl q,Bool.not_eq_true',decide_eq_false_iff_not]
      constructor
      · rintro ⟨⟨g,a,b,c⟩,d⟩;exact⟨g,List.mem_filter.2 ⟨a,decide_eq_true (by rw [c];exact d)⟩,b,c⟩
      · rintro ⟨g,a,b,c⟩;have a:=List.mem_filter.1 a;exact⟨⟨g,a.1,b,c⟩,by rw [←c];exact of_decide_eq_true a.2⟩
    · rw [if_neg e,if_neg e];exact h.wr j hj q
theorem qo.RG {v:Vw} {w:bU} (h:qo v w) {l:Nat} (hl:l<v.nl) (q:Int):nG w q l=true↔∃g∈v.hs l,g.t=q:=by
  unfold nG
  rw [kD,Bool.or_eq_true,h.rd l hl q,h.wr l hl q]
  constructor
  · rintro (⟨g,a,b,c⟩|⟨g,a,b,c⟩)<;>exact⟨g,a,c⟩
  · rintro ⟨g,a,c⟩
    cases b:wJ (v.sh l) g
    · exact .inr ⟨g,a,b,c⟩
    · exact .inl ⟨g,a,b,c⟩
theorem qo.take {v:Vw} {w:bU} (h:qo v w) {t l:Nat} (ht:t<v.n) (hl:l<v.nl) (g:Hd) (hg:g.t=(t:Int)) (e:dP) (e1:e.t=(t:Int)) (e2:e.l=(l:Int)) (e3:e.n=nO (v.sh l) g):qo (v.hd l (v.hs l++ [g])) (uq w e):=by
  have r1:=h.rl;have r2:=h.wl;have RJ:=h.RJ
  have hr:∀j,j<v.nl→∀k∈aT v.hs l (v.hs l++ [g]) j,0≤k.t∧k.t<(v.n:Int):=fun j hj k hk=>by
    unfold aT at hk;split at hk
    · rcases List.mem_append.1 hk with q|q
      · exact h.hr l hl k q
      · rw [List.mem_singleton.1 q,hg];omega
    · exact h.hr j hj k hk
  have el:e.l.toNat=l:=by omega
  have hn:=KN (v.sh l) g;have hq:∀q:Int,(q=(t:Int)∧0≤q∧q<64)↔q=(t:Int):=fun q=>⟨fun a=>a.1,fun a=>⟨a,by omega⟩⟩
  have ow:∀(b:Bool) (q:Int),wJ (v.sh l) g= !b→((∃k∈v.hs l++ [g],wJ (v.sh l) k=b∧k.t=q)↔∃k∈v.hs l,wJ (v.sh l) k=b∧k.t=q):=fun b q hb=>by
    constructor
    · rintro ⟨k,a,c,d⟩
      rcases List.mem_append.1 a with a|a
      · exact⟨k,a,c,d⟩
      · rw [List.mem_singleton.1 a,hb] at c;cases b<;>cases c
    · rintro ⟨k,a,c⟩;exact⟨k,List.mem_append_left _ a,c⟩
  have new:∀(b:Bool) (q:Int),wJ (v.sh l) g=b→((∃k∈v.hs l++ [g],wJ (v.sh l) k=b∧k.t=q)↔((∃k∈v.hs l,wJ (v.sh l) k=b∧k.t=q)∨q=(t:Int))):=fun b q hb=>by
    constructor
    · rintro ⟨k,a,c,d⟩
      rcases List.mem_append.1 a with a|a
      · exact .inl ⟨k,a,c,d⟩
      · rw [List.mem_singleton.1 a,hg] at d;exact .inr d.symm
    · rintro (⟨k,a,c⟩|rfl)
      · exact⟨k,List.mem_append_left _ a,c⟩
      · exact⟨g,List.mem_append_right _ (List.mem_singleton.2 rfl),hb,hg⟩
  unfold uq
  rw [e3,el,e1]
  by_cases c:wJ (v.sh l) g=true
  · rw [if_pos (hn.1.2 c)]
    refine ⟨h.n,h.RJ,h.hw,h.co,h.lo,h.sl,by show (w.rd.set l _).length=_;rw [List.length_set];exact r1,r2,h.sh,h.cr,hr,fun j hj q=>?_,fun j hj q=>?_⟩
    · show aR ((w.rd.set l _).getD j 0#64) q=true↔∃k∈aT v.hs l _ j,_
      rw [Ge om];unfold aT
      by_cases e:l=j
      · subst e
        rw [if_pos rfl,if_pos rfl,iz,Bool.or_eq_true,h.rd l hl q,Bool.and_eq_true,Bool.and_eq_true,decide_eq_true_eq,decide_eq_true_eq,decide_eq_true_eq,hq];exact(new true q c).symm
      · rw [if_neg e,if_neg e];exact h.rd j hj q
    · show aR (ql w j) q=true↔∃k∈aT v.hs l _ j,_
      unfold aT
      by_cases e:l=j
      · subst e;rw [if_pos rfl,h.wr l hl q];exact(ow false q c).symm
      · rw [if_neg e];exact h.wr j hj q
  · have c:wJ (v.sh l) g=false:=by simpa using c
    rw [if_neg (fun q=>by have:=hn.1.1 q;rw [c] at this;cases this)];refine ⟨h.n,h.RJ,h.hw,h.co,h.lo,h.sl,r1,by show (w.wr.set l _).length=_;rw [List.length_set];exact r2,h.sh,h.cr,hr,fun j hj q=>?_,fun j hj q=>?_⟩
    · show aR (qe w j) q=true↔∃k∈aT v.hs l _ j,_
      unfold aT
      by_cases e:l=j
      · subst e;rw [if_pos rfl,h.rd l hl q];exact(ow true q c).symm
      · rw [if_neg e];exact h.rd j hj q
    · show aR ((w.wr.set l _).getD j 0#64) q=true↔∃k∈aT v.hs l _ j,_
      rw [Gn om];unfold aT
      by_cases e:l=j
      · subst e
        rw [if_pos rfl,if_pos rfl,iz,Bool.or_eq_true,h.wr l hl q,Bool.and_eq_true,Bool.and_eq_true,decide_eq_true_eq,decide_eq_true_eq,decide_eq_true_eq,hq];exact(new false q c).symm
      · rw [if_neg e,if_neg e];exact h.wr j hj q
theorem Bj {s:BitVec 64} (h:∀q:Int,aR s q=false):s=0#64:=o4 (fun i _=>by rw [h,dd])
theorem LL {v:Vw} {w:bU} (h:qo v w) {t l:Nat} (ht:t<v.n) (hl:l<v.nl) (g:Hd) (hg:g.t=(t:Int)) (now:BitVec 64) (hh:v.hw t=2∨(v.hw t=4∧v.lo t=(l:Int))) (gZ:∀k∈v.hs l,k.t≠(t:Int)) (hc:(wJ (v.sh l) g=true∧∀k∈v.hs l,wJ (v.sh l) k=true)∨v.hs l=[]):
    dK w (bL w t) ⟨now,4,t,l,nO (v.sh l) g⟩=true∧Ct (bL w t) ⟨now,4,t,l,nO (v.sh l) g⟩=decide (v.hw t=4):=by
  have e1:=h.hw t ht;have hn:=KN (v.sh l) g
  have hw:Ct (bL w t) ⟨now,4,t,l,nO (v.sh l) g⟩=decide (v.hw t=4):=by
    unfold Ct;rw [e1]
    rcases hh with q|⟨q1,q2⟩
    · rw [q];rfl
    · rw [h.lo t ht q1,q1,q2];simp
  refine ⟨?_,hw⟩
  have hf:nG w t l=false:=by
    cases q:nG w t l with
    |false=>rfl
    |true=>obtain ⟨k,a,b⟩:=(h.RG hl t).1 q;exact absurd b (gZ k a)
  have hW:ql w l=0#64:=Bj (fun q=>by
    cases e:aR (ql w l) q with
    |false=>rfl
    |true=>
      obtain ⟨k,a,b,c⟩:=(h.wr l hl q).1 e;rcases hc with ⟨_,r⟩|r
      · rw [r k a] at b;cases b
      · rw [r] at a;cases a)
  have hR:¬2≤nO (v.sh l) g→qe w l=0#64:=fun z=>Bj (fun q=>by
    cases e:aR (qe w l) q with
    |false=>rfl
    |true=>
      obtain ⟨k,a,b,c⟩:=(h.rd l hl q).1 e;rcases hc with ⟨r,_⟩|r
      · exact absurd (hn.1.2 r) z
      · rw [r] at a;cases a)
  unfold dK
  rw [hw]
  show ((decide ((bL w t).how=2)||_)&&(!nG w t (l:Int).toNat&&(decide (0≤nO _ g)&&(decide (nO _ g≤3)&&(decide (ql w (l:Int).toNat=0#64)&&(if 2≤nO (v.sh l) g then w.sh.getD (l:Int).toNat false else decide (qe w (l:Int).toNat=0#64)))))))=true
  rw [Int.toNat_natCast,hf,hW,decide_eq_true hn.2.1,decide_eq_true hn.2.2,e1];have a1:(decide (v.hw t=2)||decide (v.hw t=4))=true:=by rcases hh with q|⟨q,_⟩<;>rw [q] <;>rfl
  rw [a1]
  by_cases z:2≤nO (v.sh l) g
  · rw [if_pos z,h.sh l hl]
    have:=hn.1.1 z
    unfold wJ at this;rw [Bool.and_eq_true] at this
    rw [this.1];rfl
  · rw [if_neg z,hR z];rfl
section
variable {w0:bU} {ev:List dP} {now:BitVec 64} {v:Vw} (h:AV w0 ev now v) {t l:Nat} (ht:t<v.n) (hl:l<v.nl)
include h ht hl
theorem AV.lets {k:Int} (hk:(k=5∧v.hw t=2)∨(k=12∧v.hw t≠5)) (hh:∃g∈v.hs l,g.t=(t:Int)):AV w0 (ev++ [⟨now,k,t,l,0⟩]) now (v.hd l ((v.hs l).filter (fun g=>decide (g.t≠(t:Int))))):=by
  have hf:∀w,w.now.toNat≤now.toNat→qo v w→iM w ⟨now,k,t,l,0⟩=true:=fun w hw hm=>by
    refine G6 hw ?_ (Int.natCast_nonneg l) (by rw [hm.sl];exact Int.ofNat_lt.2 hl) (.inl rfl);rcases hk with ⟨rfl,_⟩|⟨rfl,_⟩<;>rfl
  refine h.of rfl (by show¬k=1;omega) rfl ht hf (fun w hw=>?_);have e1:=hw.hw t ht;have WB:=(hw.RG hl t).2 hh;rcases hk with ⟨rfl,q⟩|⟨rfl,q⟩
  · have hb:n3 w ⟨now,5,t,l,0⟩ (decide ((bL w t).how=2))=true:=by
      unfold n3;rw [decide_eq_true (e1.trans q)];show nG w t (l:Int).toNat=true;rw [Int.toNat_natCast];exact WB
    refine ⟨hb,?_⟩
    show qo _ (tn w ⟨now,5,t,l,0⟩ _)
    unfold tn;rw [if_pos hb];show qo _ (CM w t (l:Int).toNat);rw [Int.toNat_natCast];exact hw.drop hl
  · have hb:n3 w ⟨now,12,t,l,0⟩ (decide ((bL w t).how≠5))=true:=by
      unfold n3;rw [decide_eq_true (by rw [e1];exact q)];show nG w t (l:Int).toNat=true;rw [Int.toNat_natCast];exact WB
    refine ⟨hb,?_⟩
    show qo _ (tn w ⟨now,12,t,l,0⟩ _)
    unfold tn;rw [if_pos hb];show qo _ (CM w t (l:Int).toNat);rw [Int.toNat_natCast];exact hw.drop hl
section
variable {g:Hd} (hg:g.t=(t:Int)) (gZ:∀k∈v.hs l,k.t≠(t:Int)) (hc:(wJ (v.sh l) g=true∧∀k∈v.hs l,wJ (v.sh l) k=true)∨v.hs l=[])
include hg gZ hc
theorem AV.afF (h2:v.hw t=2):AV w0 (ev++ [⟨now,4,t,l,nO (v.sh l) g⟩]) now (v.hd l (v.hs l++ [g])):=by
  refine h.of rfl (by show¬(4:Int)=1;decide) rfl ht (fun w hw hm=>G6 hw rfl (Int.natCast_nonneg l) (by rw [hm.sl];exact Int.ofNat_lt.2 hl) (.inr rfl)) (fun w hw=>?_);obtain ⟨a,b⟩:=LL hw ht hl g hg now (.inl h2) gZ hc;refine ⟨a,?_⟩
  show qo _ (nT w t _)
  unfold nT;rw [if_pos a,b,h2,if_neg (by decide)]
  exact hw.take ht hl g hg _ rfl rfl rfl
theorem AV.uq (h4:v.hw t=4) (uv:v.lo t=(l:Int)):AV w0 (ev++ [⟨now,4,t,l,nO (v.sh l) g⟩]) now ((v.hd l (v.hs l++ [g])).put t 6 (v.lo t) (v.co t)):=by
  refine h.of rfl (by show¬(4:Int)=1;decide) rfl ht (fun w hw hm=>G6 hw rfl (Int.natCast_nonneg l) (by rw [hm.sl];exact Int.ofNat_lt.2 hl) (.inr rfl)) (fun w hw=>?_);obtain ⟨a,b⟩:=LL hw ht hl g hg now (.inr ⟨h4,uv⟩) gZ hc;refine ⟨a,?_⟩
  show qo _ (nT w t _)
  unfold nT;rw [if_pos a,b,h4,if_pos (by decide)]
  have q:=(hw.take ht hl g hg ⟨now,4,t,l,nO (v.sh l) g⟩ rfl rfl rfl).put (t:=t) ht {bL w t with how:=6};rw [show (bL w t).lock=v.lo t from hw.lo t ht h4,show (bL w t).core=v.co t from hw.co t ht] at q;exact q
end
end
theorem CF {cs:List Qm} {co a:Int} {v:BitVec 64} {w:Int} {c:Nat} {b:Int} (h:cA (qg (dS cs co a v w) c) b):cA (qg cs c) b∨(b=a∧co=(c:Int)∧c<cs.length):=by
  unfold dS at h;split at h
  · next e=>
    have tt:co.toNat<cs.length∧0≤co:=by unfold iP at e;split at e;cases e;omega
    rw [bN tt.1] at h
    by_cases q:co.toNat=c
    · rw [if_pos q,has_add] at h;rw [←q]
      rcases h with h|h
      · exact .inl h
      · exact .inr ⟨h,by omega,tt.1⟩
    · rw [if_neg q] at h;exact .inl h
  · exact .inl h
theorem ry (cs:List Qm) (co a:Int) (v:BitVec 64) (w:Int) (c:Nat):(qg (dS cs co a v w) c).cur=(qg cs c).cur:=by
  unfold dS;split
  · next e=>
    have tt:co.toNat<cs.length:=by unfold iP at e;split at e;cases e;omega
    rw [bN tt];split
    · next q=>rw [←q];rfl
    · rfl
  · rfl
structure QC (n:Nat) (cs:List Qm) (st co:Nat→Int):Prop where
  has:∀c,c<cs.length→∀a,cA (qg cs c) a→co a.toNat=(c:Int)∧(st a.toNat=1∨st a.toNat=2)
  cur:∀c,c<cs.length→0≤(qg cs c).cur→st (qg cs c).cur.toNat=2
  run:∀t,t<n→st t=2→∃c,c<cs.length∧(qg cs c).cur=(t:Int)
section
variable {n k:Nat} {cs:List Qm} {st co:Nat→Int} (h:QC n cs st co) (hc:CI n k cs)
include h
theorem QC.ext {YV co':Nat→Int} (hc:CI n k cs) (h1:∀t,t<n→YV t=st t) (h2:∀t,t<n→co' t=co t):QC n cs YV co':=by
  have hid:∀c,c<cs.length→∀a,cA (qg cs c) a→a.toNat<n:=fun c aa a ha=>by
    have h1:=hc.id c aa a ha;have h0:=(hc.wf.wf c aa).pos _ (eE ha).1;rw [(eE ha).2] at h0;omega
  refine ⟨fun c aa a ha=>?_,fun c aa h0=>?_,fun t ht NK=>?_⟩
  · rw [h1 _ (hid c aa a ha),h2 _ (hid c aa a ha)];exact h.has c aa a ha
  · rw [h1 _ (hid c aa _ ((hc.wf.wf c aa).ix h0))];exact h.cur c aa h0
  · exact h.run t ht (by rw [←h1 t ht];exact NK)
theorem QC.same {FT:List Qm} (hl:FT.length=cs.length) (hk:∀c,c<cs.length→∀a,cA (qg FT c) a→cA (qg cs c) a) (hq:∀c,c<cs.length→(qg FT c).cur=(qg cs c).cur):QC n FT st co:=
  ⟨fun c aa a ha=>h.has c (hl▸aa) a (hk c (hl▸aa) a ha),fun c aa h0=>by rw [hq c (hl▸aa)] at h0 ⊢;exact h.cur c (hl▸aa) h0,fun t ht h2=>by
    obtain ⟨c,h1,h2⟩:=h.run t ht h2;exact⟨c,hl▸h1,by rw [hq c h1];exact h2⟩⟩
theorem QC.add {t:Nat} (hc:CI n k cs) (ht:st t≠1∧st t≠2) (v:BitVec 64) (w:Int):QC n (dS cs (co t) t v w) (aT st t 1) co:=by
  have gZ:∀c,c<cs.length→∀a,cA (qg cs c) a→a.toNat≠t:=fun c aa a ha e=>by
    have:=(h.has c aa a ha).2;rw [e] at this;omega
  refine ⟨fun c aa a ha=>?_,fun c aa h0=>?_,fun j hj h2=>?_⟩
  · rw [gC] at aa
    rcases CF ha with q|⟨rfl,q,_⟩
    · rw [bp st 1 (Ne.symm (gZ c aa a q))];exact h.has c aa a q
    · rw [Int.toNat_natCast,bJ];exact⟨q,.inl rfl⟩
  · rw [gC] at aa;rw [ry] at h0 ⊢
    have q:=h.cur c aa h0;rw [bp st 1 (fun e=>by rw [←e] at q;exact ht.2 q)];exact q
  · by_cases e:t=j
    · rw [←e,bJ] at h2;cases h2
    · rw [bp st 1 e] at h2
      obtain ⟨c,h1,h2⟩:=h.run j hj h2;exact⟨c,by rw [gC];exact h1,by rw [ry];exact h2⟩
theorem QC.rem {t:Nat} (hc:CI n k cs) {s:Int} (hs:s≠2):QC n (gS cs t) (aT st t s) co:=by
  have KZ:∀c,c<cs.length→(qg cs c).cur≠(t:Int)→(qg (gS cs t) c).cur=(qg cs c).cur:=fun c aa e=>by
    unfold gS;split
    · next q=>
      rw [bN q];split
      · next r=>rw [r];unfold iN;rw [if_neg e]
      · rfl
    · rfl
  have agy:∀c,c<cs.length→0≤(qg (gS cs t) c).cur→(qg cs c).cur≠(t:Int):=fun c aa h0 e=>by
    have hk:=(hc.wf.wf c aa).ix (show 0≤(qg cs c).cur by omega);rw [e] at hk;have mL:bS cs t=c:=hc.wf.at aa hk
    unfold gS at h0
    rw [if_pos (by rw [mL];exact aa),mL,bN aa,if_pos rfl] at h0
    unfold iN at h0;rw [if_pos e] at h0;have h0:(0:Int)≤-1:=h0;omega
  refine ⟨fun c aa a ha=>?_,fun c aa h0=>?_,fun j hj h2=>?_⟩
  · rw [pg] at aa
    obtain ⟨q1,q2⟩:=rX hc.wf aa ha;have h0:=(hc.wf.wf c aa).pos _ (eE q1).1;rw [(eE q1).2] at h0;rw [bp st s (show t≠a.toNat by omega)];exact h.has c aa a q1
  · rw [pg] at aa
    have e:=agy c aa h0;rw [KZ c aa e] at h0 ⊢;rw [bp st s (show t≠(qg cs c).cur.toNat by omega)];exact h.cur c aa h0
  · by_cases e:t=j
    · rw [←e,bJ] at h2;exact absurd h2 hs
    · rw [bp st s e] at h2
      obtain ⟨c,h1,h2⟩:=h.run j hj h2;exact⟨c,by rw [pg];exact h1,by rw [KZ c h1 om];exact h2⟩
theorem QC.back {c:Nat} (aa:c<cs.length) (hc:CI n k cs) (h0:0≤(qg cs c).cur):QC n (cs.set c (fJ (qg cs c))) (aT st (qg cs c).cur.toNat 1) co:=by
  have Iy:=(hc.wf.wf c aa).ix h0
  have fi:∀d,d<cs.length→c≠d→0≤(qg cs d).cur→(qg cs c).cur.toNat≠(qg cs d).cur.toNat:=fun d hd e q r=>by
    have h2:=(hc.wf.wf d hd).ix q;rw [show (qg cs d).cur=(qg cs c).cur by omega] at h2;exact e (hc.wf.one c d _ aa hd Iy h2)
  refine ⟨fun d hd a ha=>?_,fun d hd q=>?_,fun j hj h2=>?_⟩
  · rw [List.length_set] at hd
    have h1:=jQ aa (q:=fJ (qg cs c)) rfl ha;obtain ⟨e1,e2⟩:=h.has d hd a h1;refine ⟨e1,?_⟩
    unfold aT;split
    · exact .inl rfl
    · exact e2
  · rw [List.length_set] at hd
    rw [bN aa] at q ⊢
    by_cases e:c=d
    · rw [if_pos e] at q;exact absurd q (by show¬(0:Int)≤-1;decide)
    · rw [if_neg e] at q ⊢;rw [bp st 1 (fi d hd e q)];exact h.cur d hd q
  · by_cases e:(qg cs c).cur.toNat=j
    · rw [←e,bJ] at h2;cases h2
    · rw [bp st 1 e] at h2
      obtain ⟨d,h1,h2⟩:=h.run j hj h2;refine ⟨d,by rw [List.length_set];exact h1,?_⟩;rw [bN aa,if_neg (fun r=>by rw [←r] at h2;omega)];exact h2
theorem QC.pik {c:Nat} (aa:c<cs.length) (hc:CI n k cs) (h0:(qg cs c).cur<0) {a:Int} (ha:cA (qg cs c) a) (ha0:0≤a):QC n (cs.set c (ns (qg cs c) a)) (aT st a.toNat 2) co:=by
  refine ⟨fun d hd b hb=>?_,fun d hd q=>?_,fun j hj h2=>?_⟩
  · rw [List.length_set] at hd
    have h1:=jQ aa (q:=ns (qg cs c) a) rfl hb;obtain ⟨e1,e2⟩:=h.has d hd b h1;refine ⟨e1,?_⟩
    unfold aT;split
    · exact .inr rfl
    · exact e2
  · rw [List.length_set] at hd
    rw [bN aa] at q ⊢
    by_cases e:c=d
    · rw [if_pos e];exact bJ ..
    · rw [if_neg e] at q ⊢
      unfold aT;split
      · rfl
      · exact h.cur d hd q
  · by_cases e:a.toNat=j
    · exact⟨c,by rw [List.length_set];exact aa,by rw [bN aa,if_pos rfl];show a=_;omega⟩
    · rw [bp st 2 e] at h2
      obtain ⟨d,h1,h2⟩:=h.run j hj h2;refine ⟨d,by rw [List.length_set];exact h1,?_⟩;rw [bN aa,if_neg (fun r=>by rw [←r] at h2;omega)];exact h2
theorem QC.car {a:Int} {to:Nat} (hc:CI n k cs) (ha:bS cs a<cs.length) (ht:to<cs.length) (fi:to≠bS cs a) (rW:(qg cs (bS cs a)).cur≠a):QC n (gH cs a to) st (aT co a.toNat to):=by
  have hh:=dz ha;have ha0:0≤a:=hc.wf.pos ha
  have KZ:∀d,(qg (gH cs a to) d).cur=(qg cs d).cur:=fun d=>by
    rw [wW hc.wf ha ht fi,bN (by unfold eV;rw [List.length_set];exact ht)]
    have e1:∀e,(qg (eV cs a) e).cur=(qg cs e).cur:=fun e=>by
      unfold eV;rw [bN ha];split
      · next r=>rw [←r];unfold iN;rw [if_neg rW]
      · rfl
    split
    · next r=>rw [←r];exact e1 to
    · exact e1 d
  have ad1:∀d,d<cs.length→∀b,cA (qg (gH cs a to) d) b→(b≠a∧cA (qg cs d) b)∨(b=a∧d=to):=fun d hd b hb=>by
    rw [wW hc.wf ha ht fi,bN (by unfold eV;rw [List.length_set];exact ht)] at hb
    have key:∀e,e<cs.length→cA (qg (eV cs a) e) b→b≠a∧cA (qg cs e) b:=fun e he q=>by
      unfold eV at q;rw [bN ha] at q
      by_cases z:bS cs a=e
      · rw [if_pos z,pe (hc.wf.wf _ ha) hh,z] at q;exact⟨q.2,q.1⟩
      · rw [if_neg z] at q;exact⟨fun r=>z (hc.wf.at he (r▸q)),q⟩
    by_cases e:to=d
    · rw [if_pos e,has_add] at hb
      rcases hb with q|q
      · exact .inl (e▸key to ht q)
      · exact .inr ⟨q,e.symm⟩
    · rw [if_neg e] at hb;exact .inl (key d hd hb)
  refine ⟨fun d hd b hb=>?_,fun d hd q=>?_,fun j hj h2=>?_⟩
  · rw [sk] at hd
    rcases ad1 d hd b hb with ⟨q1,q2⟩|⟨rfl,rfl⟩
    · have h0:=(hc.wf.wf d hd).pos _ (eE q2).1
      rw [(eE q2).2] at h0;rw [bp co _ (show a.toNat≠b.toNat by omega)];exact h.has d hd b q2
    · rw [bJ];exact⟨rfl,(h.has _ ha b hh).2⟩
  · rw [sk] at hd;rw [KZ] at q ⊢;exact h.cur d hd q
  · obtain ⟨d,h1,h2⟩:=h.run j hj h2;exact⟨d,by rw [sk];exact h1,by rw [KZ];exact h2⟩
theorem QC.new (hc:CI n k cs) {co0:Int} (v:BitVec 64) (w:Int):QC (n+1) (dS cs co0 n v w) (aT st n 1) (aT co n co0):=by
  have gZ:∀c,c<cs.length→∀a,cA (qg cs c) a→n≠a.toNat:=fun c aa a ha=>by
    have h1:=hc.id c aa a ha;have h0:=(hc.wf.wf c aa).pos _ (eE ha).1;rw [(eE ha).2] at h0;omega
  refine ⟨fun c aa a ha=>?_,fun c aa h0=>?_,fun j hj h2=>?_⟩
  · rw [gC] at aa
    rcases CF ha with q|⟨rfl,q,_⟩
    · rw [bp st 1 (gZ c aa a q),bp co _ (gZ c aa a q)];exact h.has c aa a q
    · rw [Int.toNat_natCast,bJ,bJ];exact⟨q,.inl rfl⟩
  · rw [gC] at aa;rw [ry] at h0 ⊢
    rw [bp st 1 (gZ c aa _ ((hc.wf.wf c aa).ix h0))];exact h.cur c aa h0
  · by_cases e:n=j
    · rw [←e,bJ] at h2;cases h2
    · rw [bp st 1 e] at h2
      obtain ⟨c,h1,h2⟩:=h.run j om h2;exact⟨c,by rw [gC];exact h1,by rw [ry];exact h2⟩
end
/-! ### locks -/
structure LC (n:Nat) (ls:List bf) (st lk:Nat→Int) (E:Nat→Prop):Prop where
  wt:∀l,l<ls.length→∀y∈(qg ls l).wt,st y.who.toNat=4∧lk y.who.toNat=(l:Int)
  s4:∀t,t<n→st t=4→¬E t→∃y∈(qg ls (lk t).toNat).wt,y.who=(t:Int)
  h5:∀l,l<ls.length→∀g∈(qg ls l).ho,st g.t.toNat≠5
section
variable {n:Nat} {ls:List bf} {st lk:Nat→Int} {E:Nat→Prop} (h:LC n ls st lk E)
include h
theorem LC.mono {E':Nat→Prop} (he:∀t,t<n→st t=4→E t→E' t):LC n ls st lk E':=⟨h.wt,fun t ht h4 hE=>h.s4 t ht h4 (fun e=>hE (he t ht h4 e)),h.h5⟩
theorem LC.ext {YV lk':Nat→Int} (hi:∀l,l<ls.length→gY (kI n) (qg ls l)) (h1:∀t,t<n→YV t=st t) (h2:∀t,t<n→lk' t=lk t):LC n ls YV lk' E:=by
  refine ⟨fun l hl y hy=>?_,fun t ht h4 hE=>?_,fun l hl g hg=>?_⟩
  · have:=(hi l hl).wt y hy;unfold kI at this
    rw [h1 _ om,h2 _ om];exact h.wt l hl y hy
  · rw [h2 t ht];exact h.s4 t ht (by rw [←h1 t ht];exact h4) hE
  · have:=(hi l hl).ho g hg;unfold kI at this
    rw [h1 _ om];exact h.h5 l hl g hg
theorem LC.put {l:Nat} {L:bf} (hl:l<ls.length) {E':Nat→Prop} (hw:∀y∈L.wt,y∈(qg ls l).wt) (hE:∀t,E t→E' t) (hn:∀y∈(qg ls l).wt,(∃z∈L.wt,z.who=y.who)∨E' y.who.toNat) (hh:∀g∈L.ho,st g.t.toNat≠5):LC n (ls.set l L) st lk E':=by
  refine ⟨fun j hj y hy=>?_,fun t ht h4 fi=>?_,fun j hj g hg=>?_⟩
  · rw [List.length_set] at hj;rw [bN hl] at hy
    by_cases e:l=j
    · rw [if_pos e] at hy;rw [←e];exact h.wt l hl y (hw y hy)
    · rw [if_neg e] at hy;exact h.wt j hj y hy
  · obtain ⟨y,hy,e⟩:=h.s4 t ht h4 (fun q=>fi (hE t q))
    rw [bN hl]
    by_cases q:l=(lk t).toNat
    · rw [if_pos q];rw [←q] at hy
      rcases hn y hy with ⟨z,a,b⟩|b
      · exact⟨z,a,b.trans e⟩
      · rw [e,Int.toNat_natCast] at b;exact absurd b fi
    · rw [if_neg q];exact⟨y,hy,e⟩
  · rw [List.length_set] at hj;rw [bN hl] at hg
    by_cases e:l=j
    · rw [if_pos e] at hg;exact hh g hg
    · rw [if_neg e] at hg;exact h.h5 j hj g hg
theorem LC.R4 {t:Nat} {s:Int} (hs:s≠4) (hw:∀l,l<ls.length→∀y∈(qg ls l).wt,y.who.toNat≠t) (h5:s=5→∀l,l<ls.length→∀g∈(qg ls l).ho,g.t.toNat≠t) (lk0:Int):LC n ls (aT st t s) (aT lk t lk0) (fun j=>E j∧j≠t):=by
  refine ⟨fun l hl y hy=>?_,fun j hj h4 hE=>?_,fun l hl g hg=>?_⟩
  · rw [bp st s (Ne.symm (hw l hl y hy)),bp lk lk0 (Ne.symm (hw l hl y hy))];exact h.wt l hl y hy
  · by_cases e:t=j
    · rw [←e,bJ] at h4;exact absurd h4 hs
    · rw [bp st s e] at h4;rw [bp lk lk0 e];exact h.s4 j hj h4 (fun q=>hE ⟨q,Ne.symm e⟩)
  · unfold aT;split
    · next e=>exact fun q=>h5 q l hl g hg e.symm
    · exact h.h5 l hl g hg
end
abbrev dt (x:aG):Nat→Int:=fun t=>(gT x t).st
abbrev eR (x:aG):Nat→Int:=fun t=>(gT x t).co
abbrev fh (x:aG):Nat→Int:=fun t=>(gT x t).lk
def Ry (x:aG) (hs:Nat→List Hd):Vw:=⟨x.ts.length,x.lk.length,x.s.cr,fun l=>(gL x l).sh,dt x,fh x,eR x,hs⟩
abbrev kz (x:aG):Vw:=Ry x (fun l=>(gL x l).ho)
/-! a lock's holders -/
theorem Uc {l:List Hd} (h:(l.map (·.t)).Nodup) {g k:Hd} (hg:g∈l) (hk:k∈l) (e:g.t=k.t):g=k:=by
  induction l with
  |nil=>cases hg
  |cons a r ih=>
    rw [List.map_cons,List.nodup_cons] at h;rcases List.mem_cons.1 hg with rfl|az<;>rcases List.mem_cons.1 hk with rfl|WC
    · rfl
    · exact absurd (List.mem_map.2 ⟨k,WC,e.symm⟩) h.1
    · exact absurd (List.mem_map.2 ⟨g,az,e⟩) h.1
    · exact ih h.2 az WC
theorem yo {l:List Hd} (h:(l.map (·.t)).Nodup) {t:Int} (ht:l.any (fun g=>decide (g.t=t))=true) (g:Hd):g∈l.eraseIdx (gk l t)↔g∈l.filter (fun g=>decide (g.t≠t)):=by
  induction l with
  |nil=>simp at ht
  |cons a r ih=>
    rw [List.map_cons,List.nodup_cons] at h
    by_cases e:a.t=t
    · have:gk (a::r) t=0:=by unfold gk;rw [List.findIdx_cons,decide_eq_true e];rfl
      rw [this,List.eraseIdx_zero,List.filter_cons_of_neg (by simpa using e)]
      show g∈r↔_
      rw [List.mem_filter];exact⟨fun q=>⟨q,decide_eq_true (fun z=>h.1 (List.mem_map.2 ⟨g,q,z.trans e.symm⟩))⟩,fun q=>q.1⟩
    · have:gk (a::r) t=gk r t+1:=by unfold gk;rw [List.findIdx_cons,decide_eq_false e];rfl
      rw [List.any_cons,decide_eq_false e,Bool.false_or] at ht;rw [this,List.eraseIdx_cons_succ,List.filter_cons_of_pos (by simpa using e),List.mem_cons,List.mem_cons,ih h.2 ht]
theorem KX {L:bf} (h:(L.ho.map (·.t)).Nodup) {g:Hd} (hg:g∈L.ho):ea L g.t=nO L.sh g:=by
  have hh:bu L g.t=true:=List.any_eq_true.2 ⟨g,hg,decide_eq_true rfl⟩;obtain ⟨_,h1,h2⟩:=qK hh;have h3:L.ho.getD (gk L.ho g.t) default=g:=Uc h (by rw [List.getD_eq_getElem?_getD,List.getElem?_eq_getElem h1];exact List.getElem_mem h1) hg h2
  unfold ea nO;rw [if_pos hh,h3]
structure pW (L M:bf) (told:List Hd) (to:List Int) (cQ:List Hd):Prop where
  ho:M.ho=told++cQ
  tq:cQ.map (·.t)=to
  w1:∀y∈M.wt,y∈L.wt
  w2:∀y∈L.wt,y∈M.wt∨y.who∈to
  ti:∀t∈to,∃y∈L.wt,y.who=t
  sh:M.sh=L.sh
  ln:M.ld.l.length=L.ld.l.length
theorem pW.none {L M:bf} (h1:M.wt=L.wt) (h2:M.sh=L.sh) (h3:M.ld.l.length=L.ld.l.length):pW L M M.ho [] [] :=⟨(List.append_nil _).symm,rfl,fun y hy=>h1▸hy,fun y hy=> .inl (h1▸hy),fun t ht=>(by cases ht),h2,h3⟩
theorem pW.L9 {L:bf} (p:Int) (n:Nat):pW L (lS L p n) L.ho (dk L p n) (Cc p L.di (dk L p n)):=by
  rw [fj];refine ⟨rfl,Bl ..,fun y hy=>(ph.1 hy).1,fun y hy=>?_,fun t ht=>?_,rfl,rfl⟩
  · by_cases c:y.who∈dk L p n
    · exact .inr c
    · exact .inl (ph.2 ⟨hy,c⟩)
  · obtain ⟨w,hw,e,_⟩:=r5 ht;exact⟨w,hw,e⟩
theorem pW.settle {L M:bf} {told cQ:List Hd} {to:List Int} (h:pW L M told to cQ):pW L (cX M) told to cQ:=⟨h.ho,h.tq,h.w1,h.w2,h.ti,h.sh,(g9 ..).trans h.ln⟩
theorem pW.pass (L:bf):∃cQ,pW L (kl L) L.ho (jd L) cQ:=by
  unfold kl jd
  by_cases c:L.wt.length=0
  · rw [if_pos c,if_pos c];exact⟨[],pW.none rfl rfl rfl⟩
  · rw [if_neg c,if_neg c]
    have h:=pW.L9 (L:=dJ L) (dJ L).tr.p (mZ L);exact⟨_,h.ho,h.tq,h.w1,h.w2,h.ti,h.sh,h.ln⟩
theorem pW.BD {L:bf} {t:Int} (ht:bu L t=true):∃cQ,pW L (eQ L t) (L.ho.eraseIdx (gk L.ho t)) (eC L t) cQ:=by
  unfold eQ eC
  rw [if_pos ht]
  by_cases c:(fu L t).ho.length=0
  · rw [if_pos c,if_pos ⟨ht,c⟩]
    obtain ⟨p,h⟩:=pW.pass (fu L t);have h2:=h.settle;exact⟨p,h2.ho,h2.tq,h2.w1,h2.w2,h2.ti,h2.sh,h2.ln⟩
  · rw [if_neg c,if_neg (fun q=>c q.2)]
    have h:pW L (fu L t) (fu L t).ho [] [] :=pW.none rfl rfl rfl;exact⟨[],h.settle⟩
theorem pW.die {L:bf} {t:Int} (hw:cC L t=false) (ht:bu L t=true):∃cQ,pW L (sw L t) (L.ho.eraseIdx (gk L.ho t)) (uN L t) cQ:=by
  obtain ⟨p,h⟩:=pW.BD (L:= {L with di:=true}) (t:=t) ht;refine ⟨p,?_⟩;have e1:sw L t=eQ {L with di:=true} t:=by unfold sw;rw [if_neg (by rw [hw];decide),if_pos ht]
  have e2:uN L t=eC {L with di:=true} t:=by unfold uN;rw [if_neg (by rw [hw];decide)]
  rw [e1,e2];exact⟨h.ho,h.tq,h.w1,h.w2,h.ti,h.sh,h.ln⟩
theorem pW.lv {L:bf} {t:Int} (ht:cC L t=true):∃cQ,(fY L t).ho=L.ho++cQ∧cQ.map (·.t)=qk L t∧(∀y∈(fY L t).wt,y∈L.wt∧y.who≠t)∧(∀y∈L.wt,y∈(fY L t).wt∨y.who∈qk L t∨y.who=t)∧(∀u∈qk L t,u≠t∧∃y∈L.wt,y.who=u)∧(fY L t).sh=L.sh∧(fY L t).ld.l.length=L.ld.l.length:=by
  have hg:∀{M:bf} {cQ:List Hd} {to:List Int},pW (du L t) M L.ho to cQ→M.ho=L.ho++cQ∧cQ.map (·.t)=to∧(∀y∈M.wt,y∈L.wt∧y.who≠t)∧(∀y∈L.wt,y∈M.wt∨y.who∈to∨y.who=t)∧(∀u∈to,u≠t∧∃y∈L.wt,y.who=u)∧M.sh=L.sh∧M.ld.l.length=L.ld.l.length:=fun {M cQ to} h=>by
    refine ⟨h.ho,h.tq,fun y hy=>qp.1 (h.w1 y hy),fun y hy=>?_,fun u hu=>?_,h.sh,h.ln⟩
    · by_cases c:y.who=t
      · exact .inr (.inr c)
      · rcases h.w2 y (qp.2 ⟨hy,c⟩) with q|q
        · exact .inl q
        · exact .inr (.inl q)
    · obtain ⟨y,hy,rfl⟩:=h.ti u hu
      have:=qp.1 hy;exact⟨this.2,y,this.1,rfl⟩
  unfold fY qk
  rw [if_pos ht]
  by_cases c:lr L=true∧wU (du L t).wt 1=0
  · rw [if_pos c,if_pos ⟨ht,c⟩];exact⟨_,hg (pW.L9 (L:=du L t) 0 8).settle⟩
  · rw [if_neg c,if_neg (fun q=>c q.2)];exact⟨_,hg (pW.none (L:=du L t) (M:=du L t) rfl rfl rfl).settle⟩
/-! tasks -/
theorem gv {x:aG} {t:Nat} (ht:t<x.ts.length) (y:iQ) (j:Nat):dt (dH x t y) j=aT (dt x) t y.st j:=by
  show (gT (dH x t y) j).st=_;rw [gq ht];unfold aT;split<;>rfl
theorem j0 {x:aG} {t:Nat} (ht:t<x.ts.length) (y:iQ) (j:Nat):eR (dH x t y) j=aT (eR x) t y.co j:=by
  show (gT (dH x t y) j).co=_;rw [gq ht];unfold aT;split<;>rfl
theorem jX {x:aG} {t:Nat} (ht:t<x.ts.length) (y:iQ) (j:Nat):fh (dH x t y) j=aT (fh x) t y.lk j:=by
  show (gT (dH x t y) j).lk=_;rw [gq ht];unfold aT;split<;>rfl
structure MQ (E:Nat→Prop) (x:aG):Prop where
  q:QC x.ts.length x.cs (dt x) (eR x)
  l:LC x.ts.length x.lk (dt x) (fh x) E
theorem MI.PM {k:Nat} {x:aG} (h:MI k x):∀l,l<x.lk.length→gY (kI x.ts.length) (qg x.lk l):=fun l hl=>(h.li l hl).i
section
variable {k:Nat} {x:aG} {E:Nat→Prop} (hI:MI k x) (h:MQ E x)
include h
theorem MQ.mono {E':Nat→Prop} (he:∀t,t<x.ts.length→dt x t=4→E t→E' t):MQ E' x:=⟨h.q,h.l.mono he⟩
theorem MQ.kt (a t l n:Int):MQ E (bn x a t l n):=⟨h.q,h.l⟩
theorem MQ.cut (t:Nat):MQ E (dO x t):=⟨h.q,h.l⟩
theorem MQ.gr (g:Gr):MQ E {x with g:=g} :=⟨h.q,h.l⟩
include hI
theorem MQ.up {t:Nat} (ht:t<x.ts.length) {y:iQ} (h1:y.st=(gT x t).st) (h2:y.co=(gT x t).co) (h3:y.lk=(gT x t).lk):MQ E (dH x t y):=by
  have e1:∀j,dt (dH x t y) j=dt x j:=fun j=>by rw [gv ht,h1];exact aU _ _ _
  have e2:∀j,eR (dH x t y) j=eR x j:=fun j=>by rw [j0 ht,h2];exact aU _ _ _
  have e3:∀j,fh (dH x t y) j=fh x j:=fun j=>by rw [jX ht,h3];exact aU _ _ _
  refine ⟨?_,?_⟩
  · rw [bA];exact h.q.ext hI.ci (fun j _=>e1 j) (fun j _=>e2 j)
  · rw [bA];exact h.l.ext hI.PM (fun j _=>e1 j) (fun j _=>e3 j)
theorem MQ.inc {t:Nat} (ht:t<x.ts.length):MQ E (bO x t):=h.up hI ht rfl rfl rfl
theorem MQ.Ea {t:Nat} (ht:t<x.ts.length) (hs:dt x t≠1∧dt x t≠2) (hw:∀l,l<x.lk.length→∀y∈(gL x l).wt,y.who.toNat≠t):MQ (fun j=>E j∧j≠t) (ft x t):=by
  have q8:=(hI.Ea ht).ci;have hl:(ft x t).ts.length=x.ts.length:=bA ..;rw [hl] at q8;refine ⟨?_,?_⟩
  · rw [hl]
    exact(h.q.add hI.ci hs _ _).ext q8 (fun j _=>gv ht _ j) (fun j _=>(j0 ht (MB (gT x t)) j).trans (aU _ _ _))
  · rw [hl]
    have hi:=(hI.Ea ht).PM;rw [hl] at hi;exact(h.l.R4 (s:=1) (by decide) hw (fun q=>by cases q) (-1)).ext hi (fun j _=>gv ht _ j) (fun j _=>jX ht _ j)
end
theorem N2 {x:aG} {t:Nat} (ht:t<x.ts.length) {v:Vw} {hs:Nat→List Hd} (hv:Rg v ((Ry x hs).put t (v.hw t) (v.lo t) (eR x t))) (lo:Int):Rg (v.put t 1 lo (v.co t)) (Ry (ft x t) hs):=by
  have hn:v.n=x.ts.length:=hv.n;refine ⟨hv.n.trans (bA ..).symm,hv.nl,hv.cr,hv.sh,fun j hj=>?_,fun j hj h4=>?_,fun j hj=>?_,hv.hs⟩
  · show aT v.hw t 1 j=dt (ft x t) j
    rw [show dt (ft x t) j=aT (dt x) t 1 j from gv ht _ j]
    by_cases e:t=j
    · rw [←e,bJ,bJ]
    · rw [bp v.hw _ e,bp (dt x) _ e,hv.hw j hj];exact bp _ _ e
  · have h4:aT v.hw t 1 j=4:=h4
    show aT v.lo t lo j=fh (ft x t) j
    rw [show fh (ft x t) j=aT (fh x) t (-1) j from jX ht _ j]
    by_cases e:t=j
    · rw [←e,bJ] at h4;cases h4
    · rw [bp v.hw _ e] at h4
      rw [bp v.lo _ e,bp (fh x) _ e,hv.lo j hj h4];exact bp _ _ e
  · show aT v.co t (v.co t) j=eR (ft x t) j
    rw [show eR (ft x t) j=aT (eR x) t (eR x t) j from j0 ht _ j,aU,aU,hv.co j hj]
    show aT (eR x) t (eR x t) j=_;exact aU _ _ _
theorem JH {w0:bU} {x:aG} {t:Nat} (ht:t<x.ts.length) {v:Vw} {hs:Nat→List Hd} (h:AV w0 x.ev x.now v) (hv:Rg v ((Ry x hs).put t (v.hw t) (v.lo t) (eR x t))) (hh:v.hw t=3∨v.hw t=6∨v.hw t=7):AV w0 (ft x t).ev (ft x t).now (Ry (ft x t) hs):=by
  have hn:v.n=x.ts.length:=hv.n;have hc:v.co t=eR x t:=(hv.co t om).trans (bJ ..);have q:=(h.Xp (t:=t) om hh).eqv (N2 (hs:=hs) ht hv _);rw [hc] at q;exact q
/-! a lock is given -/
theorem FA {x:aG} {t:Nat} (ht:t<x.ts.length) (j:Nat):dt (bO x t) j=dt x j∧eR (bO x t) j=eR x j∧fh (bO x t) j=fh x j:=
  ⟨(gv ht _ j).trans (aU _ _ _),(j0 ht _ j).trans (aU _ _ _),(jX ht _ j).trans (aU _ _ _)⟩
theorem RX {L:bf} (h:p8 L) {told cQ:List Hd} {g:Hd} (e:L.ho=told++g::cQ):(∀k∈told,k.t≠g.t)∧((wJ L.sh g=true∧∀k∈told,wJ L.sh k=true)∨told=[]):=by
  have hd:=h.hd;rw [e,List.map_append,List.nodup_append] at hd;refine ⟨fun k hk q=>hd.2.2 k.t (List.mem_map_of_mem hk) g.t (List.mem_map.2 ⟨g,List.mem_cons_self ..,rfl⟩) q,?_⟩;cases hs:L.sh with
  |false=>
    have:=h.ex hs;rw [e,List.length_append,List.length_cons] at this;exact .inr (List.eq_nil_of_length_eq_zero om)
  |true=>
    rcases h.rd hs with q|q
    · rw [e] at q
      exact .inl ⟨by unfold wJ;rw [decide_eq_true (q g (by simp))];rfl,fun k hk=>by unfold wJ;rw [decide_eq_true (q k (by simp [hk]))];rfl⟩
    · rw [e,List.length_append,List.length_cons] at q
      exact .inr (List.eq_nil_of_length_eq_zero om)
theorem re (l:Nat) (x:aG) (t:Nat):qA l x (t:Int)=ft (dO (bO (bn x 4 t l (ea (gL x l) t)) t) t) t:=by unfold qA;rw [Int.toNat_natCast]
theorem Vc {w0:bU} {E:Nat→Prop} {k l:Nat} {x:aG} (hI:MI k x) (h:MQ E x) (hl:l<x.lk.length) {told cQ:List Hd} {g:Hd} (e:(gL x l).ho=told++g::cQ) (h4:dt x g.t.toNat=4∧fh x g.t.toNat=(l:Int)) (hA:AV w0 x.ev x.now ((kz x).hd l told)):
    MQ (fun j=>E j∧j≠g.t.toNat) (qA l x g.t)∧AV w0 (qA l x g.t).ev (qA l x g.t).now ((kz (qA l x g.t)).hd l (told++ [g])):=by
  have hL:=hI.li l hl;have TJ:g∈(gL x l).ho:=by rw [e];simp
  have gI:=hL.i.ho g TJ
  unfold kI at gI
  obtain ⟨t,Zh⟩:∃t:Nat,g.t=(t:Int):=⟨g.t.toNat,by omega⟩
  have ht:t<x.ts.length:=by omega
  rw [Zh,Int.toNat_natCast] at h4;rw [Zh];obtain ⟨gZ,hc⟩:=RX hL.w.top8 e
  have Wc:∀j,j<x.lk.length→∀y∈(gL x j).wt,y.who.toNat≠t:=fun j hj y hy q=>by
    have h1:=h.l.wt j hj y hy;rw [q] at h1;have h0:=(hI.li j hj).i.wt y hy;unfold kI at h0;have:j=l:=by have:=h1.2.symm.trans h4.2;omega
    subst this;exact hL.w.dj y hy g TJ om
  have hH:ea (gL x l) t=nO (gL x l).sh g:=by rw [←Zh];exact KX hL.w.hd TJ
  have N8:=hA.uq (t:=t) (l:=l) (g:=g) ht hl Zh (by rw [show ((kz x).hd l told).hs l=told from bJ ..];exact fun k hk=>by rw [←Zh];exact gZ k hk) (by rw [show ((kz x).hd l told).hs l=told from bJ ..];exact hc) h4.1 h4.2;rw [show ((kz x).hd l told).hs l=told from bJ ..] at N8
  -- the task ajS back
  have pC:=(hI.kt 4 t l (ea (gL x l) t)).inc (t:=t) ht;have q8:=pC.cut (t:=t) (by rw [show (bO (bn x 4 t l (ea (gL x l) t)) t).ts.length=x.ts.length from bA ..];exact ht);have hQ2:=((h.kt 4 t l (ea (gL x l) t)).inc (hI.kt 4 t l (ea (gL x l) t)) (t:=t) ht).cut t;have hlen:(dO (bO (bn x 4 t l (ea (gL x l) t)) t) t).ts.length=x.ts.length:=bA ..;have hF:=fun j=>FA (x:=bn x 4 t l (ea (gL x l) t)) ht j
  have acN:∀j,dt (qA l x t) j=aT (dt x) t 1 j:=fun j=>by
    rw [re,show dt (ft (dO (bO (bn x 4 t l (ea (gL x l) t)) t) t) t) j=aT (dt (bO (bn x 4 t l (ea (gL x l) t)) t)) t 1 j from gv (x:=dO (bO (bn x 4 t l (ea (gL x l) t)) t) t) (by rw [hlen];exact ht) _ j]
    unfold aT;split;rfl;exact(hF j).1
  have ae6:∀j,fh (qA l x t) j=aT (fh x) t (-1) j:=fun j=>by
    rw [re,show fh (ft (dO (bO (bn x 4 t l (ea (gL x l) t)) t) t) t) j=aT (fh (bO (bn x 4 t l (ea (gL x l) t)) t)) t (-1) j from jX (x:=dO (bO (bn x 4 t l (ea (gL x l) t)) t) t) (by rw [hlen];exact ht) _ j]
    unfold aT;split;rfl;exact(hF j).2.2
  have acC:∀j,eR (qA l x t) j=eR x j:=fun j=>by
    rw [re,show eR (ft (dO (bO (bn x 4 t l (ea (gL x l) t)) t) t) t) j=aT (eR (bO (bn x 4 t l (ea (gL x l) t)) t)) t (eR (bO (bn x 4 t l (ea (gL x l) t)) t) t) j from j0 (x:=dO (bO (bn x 4 t l (ea (gL x l) t)) t) t) (by rw [hlen];exact ht) _ j,aU];exact(hF j).2.1
  refine ⟨?_,?_⟩
  · rw [re,Int.toNat_natCast];exact hQ2.Ea q8 (by rw [hlen];exact ht) (by rw [show dt (dO (bO (bn x 4 t l (ea (gL x l) t)) t) t) t=dt x t from (hF t).1,h4.1];decide) Wc
  · have hA2:=(N8.Xp (t:=t) ht (.inr (.inl (bJ ..)))).eqv (u:=((kz (qA l x t)).hd l (told++ [g]))) ?_
    · have e1:((((kz x).hd l told).hd l (told++ [g])).put t 6 (((kz x).hd l told).lo t) (((kz x).hd l told).co t)).co t=eR x t:=bJ ..
      rw [e1] at hA2;have e2:(gT (dO (bO (bn x 4 t l (ea (gL x l) t)) t) t) t).co=eR x t:=(hF t).2.1
      have e3:(qA l x t).ev=x.ev++ [⟨x.now,4,t,l,nO (gL x l).sh g⟩] ++ [⟨x.now,7,t,-1,eR x t⟩] :=by
        rw [re]
        show (x.ev++ [(⟨x.now,4,t,l,ea (gL x l) t⟩:dP)])++ [(⟨x.now,7,t,-1,(gT (dO (bO (bn x 4 t l (ea (gL x l) t)) t) t) t).co⟩:dP)] =_
        rw [hH,←hH,e2]
      rw [e3];exact hA2
    · refine ⟨(yR l x t).symm,rfl,rfl,fun _ _=>rfl,fun j hj=>?_,fun j hj q4=>?_,fun j hj=>?_,fun j hj m=>?_⟩
      · show aT (aT (dt x) t 6) t 1 j=dt (qA l x t) j
        rw [acN];unfold aT;split<;>rfl
      · have q4:aT (aT (dt x) t 6) t 1 j=4:=q4
        show aT (aT (fh x) t _) t _ j=fh (qA l x t) j
        rw [ae6]
        by_cases c:t=j
        · rw [←c,bJ] at q4;cases q4
        · rw [bp _ _ c,bp _ _ c,bp _ _ c]
      · show aT (aT (eR x) t (eR x t)) t _ j=eR (qA l x t) j
        rw [acC]
        by_cases c:t=j
        · rw [←c,bJ];exact bJ ..
        · rw [bp _ _ c,bp _ _ c]
      · show m∈aT (aT (fun l=>(gL x l).ho) l told) l (told++ [g]) j↔m∈aT (fun l=>(gL x l).ho) l (told++ [g]) j
        unfold aT;split<;>exact Iff.rfl
theorem Lm {w0:bU} {l:Nat} :∀(cQ told:List Hd) {E:Nat→Prop} {k:Nat} {x:aG},MI k x→MQ (fun j=>E j∨(j:Int)∈cQ.map (·.t)) x→l<x.lk.length→(gL x l).ho=told++cQ→(∀g∈cQ,dt x g.t.toNat=4∧fh x g.t.toNat=(l:Int))→AV w0 x.ev x.now ((kz x).hd l told)→
    MQ E (p7 l x (cQ.map (·.t)))∧AV w0 (p7 l x (cQ.map (·.t))).ev (p7 l x (cQ.map (·.t))).now (kz (p7 l x (cQ.map (·.t))))
  | [],told,E,k,x,hI,hQ,hl,e,h4,hA=>by
    refine ⟨hQ.mono (fun t _ _ q=>q.resolve_right (by simp)),hA.eqv ⟨rfl,rfl,rfl,fun _ _=>rfl,fun _ _=>rfl,fun _ _ _=>rfl,fun _ _=>rfl,fun j hj m=>?_⟩⟩
    show m∈aT (fun l=>(gL x l).ho) l told j↔m∈(gL x j).ho
    unfold aT;split
    · next c=>rw [←c,e,List.append_nil]
    · exact Iff.rfl
  |g::cQ,told,E,k,x,hI,hQ,hl,e,h4,hA=>by
    have hL:=hI.li l hl;have TJ:g∈(gL x l).ho:=by rw [e];simp
    have gI:=hL.i.ho g TJ;obtain ⟨q1,q2⟩:=Vc hI hQ hl e (h4 g (List.mem_cons_self ..)) hA;have pC:=hI.qA l gI;have hd:=hL.w.hd;rw [e,List.map_append,List.nodup_append,List.map_cons,List.nodup_cons] at hd;have fi:∀m∈cQ,g.t≠m.t:=fun m hm q=>hd.2.1.1 (List.mem_map.2 ⟨m,hm,q.symm⟩)
    unfold kI at gI
    have cu:∀m∈cQ,dt (qA l x g.t) m.t.toNat=4∧fh (qA l x g.t) m.t.toNat=(l:Int):=fun m hm=>by
      have xC:=hL.i.ho m (by rw [e];simp [hm]);unfold kI at xC;have:=K5 l x (u:=g.t) (t:=m.t.toNat) (by have:=fi m hm;omega)
      show (gT _ _).st=4∧(gT _ _).lk=_
      rw [this];exact h4 m (List.mem_cons_of_mem _ hm)
    refine Lm cQ (told++ [g]) pC (q1.mono (fun t ht _ q=>?_)) hl (by rw [List.append_assoc];exact e) cu q2;rcases q.1 with r|r
    · exact .inl r
    · rw [List.map_cons,List.mem_cons] at r
      rcases r with r|r
      · exact absurd (by rw [←r,Int.toNat_natCast]) q.2
      · exact .inr r
theorem zM {w0:bU} {l:Nat} {cQ told:List Hd} {to:List Int} {E:Nat→Prop} {k:Nat} {x:aG} (hI:MI k x) (hQ:MQ (fun j=>E j∨(j:Int)∈to) x) (hl:l<x.lk.length) (e:(gL x l).ho=told++cQ) (et:cQ.map (·.t)=to) (h4:∀t∈to,dt x t.toNat=4∧fh x t.toNat=(l:Int)) (hA:AV w0 x.ev x.now ((kz x).hd l told)):
    MQ E (dX x l to)∧AV w0 (dX x l to).ev (dX x l to).now (kz (dX x l to)):=by
  subst et;obtain ⟨q1,q2⟩:=Lm cQ told hI hQ hl e (fun g hg=>h4 g.t (List.mem_map_of_mem hg)) hA;exact⟨q1.gr _,q2⟩
def TP:Nat→Prop:=fun _=>False
def VR (x:aG) (t:Nat):Prop:=∀l,l<x.lk.length→∀y∈(gL x l).wt,y.who.toNat≠t
theorem MQ.Wm {E:Nat→Prop} {x:aG} (h:MQ E x) {t:Nat} (ht:dt x t≠4):VR x t:=fun l hl y hy e=>ht (by rw [←e];exact(h.l.wt l hl y hy).1)
theorem gX {x:aG} {l:Nat} (hl:l<x.lk.length) (M:bf) (j:Nat):gL (bt x l M) j=if l=j then M else gL x j:=bN (qs:=x.lk) hl M j
theorem Pz (x:aG) (l:Nat):Rg (kz x) ((kz x).hd l (gL x l).ho):=⟨rfl,rfl,rfl,fun _ _=>rfl,fun _ _=>rfl,fun _ _ _=>rfl,fun _ _=>rfl,fun j _ g=>by
  show g∈(gL x j).ho↔g∈aT (fun l=>(gL x l).ho) l (gL x l).ho j
  rw [show aT (fun l=>(gL x l).ho) l (gL x l).ho j=(gL x j).ho from aU (fun l=>(gL x l).ho) l j]⟩
theorem zH {x:aG} {l:Nat} (hl:l<x.lk.length) {M:bf} (hs:M.sh=(gL x l).sh) {f told:List Hd} (hf:∀g,g∈f↔g∈told):Rg ((kz x).hd l f) ((kz (bt x l M)).hd l told):=by
  refine ⟨rfl,(cP x l M).symm,rfl,fun j hj=>?_,fun _ _=>rfl,fun _ _ _=>rfl,fun _ _=>rfl,fun j hj g=>?_⟩
  · show (gL x j).sh=(gL (bt x l M) j).sh
    rw [gX hl];split
    · next e=>rw [hs,e]
    · rfl
  · show g∈aT (fun i=>(gL x i).ho) l f j↔g∈aT (fun i=>(gL (bt x l M) i).ho) l told j
    unfold aT;split
    · exact hf g
    · next e=>show g∈(gL x j).ho↔g∈(gL (bt x l M) j).ho;rw [gX hl,if_neg e]
section
variable {x:aG} {E:Nat→Prop} (h:MQ E x)
include h
theorem MQ.put {l:Nat} (hl:l<x.lk.length) {M:bf} {E':Nat→Prop} {told cQ:List Hd} (hw:∀y∈M.wt,y∈(gL x l).wt) (hE:∀t,E t→E' t) (hn:∀y∈(gL x l).wt,y∈M.wt∨E' y.who.toNat) (ho:M.ho=told++cQ) (ht:∀g∈told,g∈(gL x l).ho) (hp:∀g∈cQ,∃y∈(gL x l).wt,y.who=g.t):MQ E' (bt x l M):=by
  refine ⟨h.q,h.l.put hl hw hE (fun y hy=>?_) (fun g hg=>?_)⟩
  · rcases hn y hy with q|q
    · exact .inl ⟨y,q,rfl⟩
    · exact .inr q
  · rw [ho] at hg
    rcases List.mem_append.1 hg with q|q
    · exact h.l.h5 l hl g (ht g q)
    · obtain ⟨y,hy,e⟩:=hp g q
      have:=(h.l.wt l hl y hy).1;rw [e] at this;rw [this];decide
end
theorem FD {w0:bU} {k:Nat} {x:aG} {E:Nat→Prop} {l t:Nat} {M:bf} {to:List Int} {cQ:List Hd} (hI:MI k x) (h:MQ E x) (hl:l<x.lk.length) (hM:LI x.ts.length k M) (ht:t<x.ts.length) (hh:bu (gL x l) t=true) (hA:AV w0 x.ev x.now (kz x)) (hT:pW (gL x l) M ((gL x l).ho.eraseIdx (gk (gL x l).ho t)) to cQ) {kd:Int} (hk:(kd=5∧dt x t=2)∨(kd=12∧dt x t≠5)):
    MQ E (dX (bt (bn x kd t l 0) l M) l to)∧AV w0 (dX (bt (bn x kd t l 0) l M) l to).ev (dX (bt (bn x kd t l 0) l M) l to).now (kz (dX (bt (bn x kd t l 0) l M) l to)):=by
  have hL:=hI.li l hl;have hd:=hL.w.hd;have mM:∀g∈(gL x l).ho.eraseIdx (gk (gL x l).ho t),g∈(gL x l).ho:=fun g hg=>List.mem_of_mem_eraseIdx hg;have hE:=fun g=>yo hd (t:=(t:Int)) hh g
  have N8:=hA.lets (t:=t) (l:=l) ht hl hk (by
    obtain ⟨g,hg,e⟩:=List.any_eq_true.1 hh;exact⟨g,hg,of_decide_eq_true e⟩)
  have pC:=(hI.kt kd t l 0).bt (l:=l) (hM.mono (Nat.le_refl _) (Nat.le_succ k));have hpd:∀u∈to,∃y∈(gL x l).wt,y.who=u:=hT.ti
  have ZM:MQ (fun j=>E j∨(j:Int)∈to) (bt (bn x kd t l 0) l M):=MQ.put (h.kt kd t l 0) hl hT.w1 (fun _ q=> .inl q) (fun y hy=>by
    rcases hT.w2 y hy with q|q
    · exact .inl q
    · have h0:=hL.i.wt y hy;unfold kI at h0
      exact .inr (.inr (by rw [show ((y.who.toNat:Nat):Int)=y.who by omega];exact q))) hT.ho mM (fun g hg=>hpd g.t (by rw [←hT.tq];exact List.mem_map_of_mem hg))
  have iF:l<(bt (bn x kd t l 0) l M).lk.length:=by rw [show (bt (bn x kd t l 0) l M).lk.length=x.lk.length from cP ..];exact hl
  refine zM pC ZM iF (told:=(gL x l).ho.eraseIdx (gk (gL x l).ho t)) (cQ:=cQ) (by rw [show gL (bt (bn x kd t l 0) l M) l=M from (gX (x:=bn x kd t l 0) hl M l).trans (if_pos rfl)];exact hT.ho) hT.tq (fun u hu=>?_) ?_
  · obtain ⟨y,hy,rfl⟩:=hpd u hu;exact h.l.wt l hl y hy
  · exact(N8.eqv (zH (x:=x) hl hT.sh (fun g=>(hE g).symm)):_)
theorem GL {k:Nat} {x:aG} {E:Nat→Prop} {l t:Nat} (hI:MI k x) (h:MQ E x) (hl:l<x.lk.length) (hw:cC (gL x l) t=true):MQ (fun j=>(E j∨j=t)∨(j:Int)∈qk (gL x l) t) (bt x l (fY (gL x l) t)):=by
  obtain ⟨cQ,e1,e2,e3,e4,e5,e6,e7⟩:=pW.lv hw;have hL:=hI.li l hl;refine MQ.put h hl (told:=(gL x l).ho) (cQ:=cQ) (fun y hy=>(e3 y hy).1) (fun _ q=> .inl (.inl q)) (fun y hy=>?_) e1 (fun _ q=>q) (fun g hg=>(e5 g.t (by rw [←e2];exact List.mem_map_of_mem hg)).2);have h0:=hL.i.wt y hy;unfold kI at h0;rcases e4 y hy with q|q|q
  · exact .inl q
  · exact .inr (.inr (by rw [show ((y.who.toNat:Nat):Int)=y.who by omega];exact q))
  · exact .inr (.inl (.inr om))
theorem BH {L:bf} {t:Int} (h:∃y∈L.wt,y.who=t):cC L t=true:=by
  obtain ⟨y,hy,e⟩:=h;exact List.any_eq_true.2 ⟨y,hy,decide_eq_true e⟩
theorem SC {w0:bU} {k:Nat} {x:aG} {t:Nat} (hI:MI k x) (h:MQ TP x) (ht:t<x.ts.length) (hA:AV w0 x.ev x.now (kz x)):
    MQ (fun j=>j=t) (rC x t)∧AV w0 (rC x t).ev (rC x t).now (kz (rC x t))∧VR (rC x t) t∧dt (rC x t) t=dt x t:=by
  unfold rC
  split
  · next e=>
    have hlr:=(hI.tb t ht).l4 e;obtain ⟨l,hle⟩:∃l:Nat,(gT x t).lk=(l:Int):=⟨(gT x t).lk.toNat,by omega⟩
    have hl:l<x.lk.length:=by rw [hI.ll];omega
    rw [hle,Int.toNat_natCast];have hL:=hI.li l hl;obtain ⟨y,hy,ey⟩:=h.l.s4 t ht e (fun q=>q);have hy:y∈(gL x l).wt:=by rw [show (fh x t).toNat=l by show (gT x t).lk.toNat=l;omega] at hy;exact hy
    have hw:cC (gL x l) t=true:=BH ⟨y,hy,ey⟩;obtain ⟨cQ,e1,e2,e3,e4,e5,e6,e7⟩:=pW.lv hw;have pC:=hI.bt (l:=l) (hL.lv t);have ZM:=(GL hI h hl hw).mono (E':=fun j=>j=t∨(j:Int)∈qk (gL x l) t) (fun j _ _ q=>by rcases q with (q|q)|q;exact q.elim;exact .inl q;exact .inr q);have iF:l<(bt x l (fY (gL x l) t)).lk.length:=by rw [cP];exact hl
    have hg:gL (bt x l (fY (gL x l) t)) l=fY (gL x l) t:=(gX hl _ l).trans (if_pos rfl);have N8:=(hA.eqv (Pz x l)).eqv (zH hl e6 (told:=(gL x l).ho) (fun g=>Iff.rfl))
    have q:=zM pC ZM iF (told:=(gL x l).ho) (cQ:=cQ) (by rw [hg];exact e1) e2 (fun u hu=>by
      obtain ⟨_,z,hz,rfl⟩:=e5 u hu;exact h.l.wt l hl z hz) N8
    refine ⟨q.1,q.2,fun j hj z hz=>?_,?_⟩
    · rw [(db l (bt x l (fY (gL x l) t)) (qk (gL x l) t)).2.1,cP] at hj
      have hz:z∈(gL (bt x l (fY (gL x l) t)) j).wt:=by
        have:=(db l (bt x l (fY (gL x l) t)) (qk (gL x l) t)).2.1
        unfold gL at hz ⊢;rw [this] at hz;exact hz
      rw [gX hl] at hz
      by_cases c:l=j
      · rw [if_pos c] at hz
        have h0:=hL.i.wt z (e3 z hz).1;unfold kI at h0;have:=(e3 z hz).2;omega
      · rw [if_neg c] at hz
        intro q;have:=(h.l.wt j hj z hz).2;rw [q] at this;exact c (by have:(gT x t).lk=(j:Int):=this;omega)
    · show (gT (p7 _ _ _) t).st=_
      rw [wh l _ _ (fun u hu=>by
        obtain ⟨h1,z,hz,rfl⟩:=e5 u hu;have h0:=hL.i.wt z hz;unfold kI at h0;omega)];rfl
  · next e=>
    exact⟨h.mono (fun _ _ _ q=>q.elim),hA,h.Wm e,rfl⟩
theorem SU {w0:bU} {k:Nat} {x:aG} {t l:Nat} (hI:MI k x) (h:MQ (fun j=>j=t) x) (ht:t<x.ts.length) (hl:l<x.lk.length) (hw:VR x t) (h5:dt x t≠5) (hA:AV w0 x.ev x.now (kz x)):
    MQ (fun j=>j=t) (sM t x l)∧AV w0 (sM t x l).ev (sM t x l).now (kz (sM t x l))∧VR (sM t x l) t∧dt (sM t x l) t=dt x t∧(∀j,j<x.lk.length→(j=l∨∀g∈(gL x j).ho,g.t≠(t:Int))→∀g∈(gL (sM t x l) j).ho,g.t≠(t:Int)):=by
  unfold sM
  split
  · next e=>
    have hL:=hI.li l hl
    have OH:cC (gL x l) t=false:=by
      cases c:cC (gL x l) t with
      |false=>rfl
      |true=>
        obtain ⟨y,hy,q⟩:=List.any_eq_true.1 c;exact absurd (by rw [of_decide_eq_true q];rfl) (hw l hl y hy)
    obtain ⟨cQ,hT⟩:=pW.die OH e;obtain ⟨q1,q2⟩:=FD hI h hl (hL.die t) ht e hA hT (kd:=12) (.inr ⟨rfl,h5⟩)
    have nW:∀j,gL (dX (bt (bn x 12 t l 0) l (sw (gL x l) t)) l (uN (gL x l) t)) j=if l=j then sw (gL x l) t else gL x j:=fun j=>by
      have:=(db l (bt (bn x 12 t l 0) l (sw (gL x l) t)) (uN (gL x l) t)).2.1
      unfold gL;rw [this];exact gX (x:=bn x 12 t l 0) hl _ j
    have kE:(dX (bt (bn x 12 t l 0) l (sw (gL x l) t)) l (uN (gL x l) t)).lk.length=x.lk.length:=by
      rw [(db l (bt (bn x 12 t l 0) l (sw (gL x l) t)) (uN (gL x l) t)).2.1];exact cP ..
    have q9:∀u∈uN (gL x l) t,u.toNat≠t:=fun u hu=>by
      obtain ⟨y,hy,rfl⟩:=hT.ti u hu;exact hw l hl y hy
    refine ⟨q1,q2,fun j hj z hz=>?_,?_,fun j hj hc g hg=>?_⟩
    · rw [kE] at hj;rw [nW] at hz
      by_cases c:l=j
      · rw [if_pos c] at hz;exact hw l hl z (hT.w1 z hz)
      · rw [if_neg c] at hz;exact hw j hj z hz
    · show (gT (p7 _ _ _) t).st=_
      rw [wh l _ _ q9];rfl
    · rw [nW] at hg
      by_cases c:l=j
      · rw [if_pos c,hT.ho] at hg
        rcases List.mem_append.1 hg with q|q
        · have:=(yo hL.w.hd e g).1 q
          exact of_decide_eq_true (List.mem_filter.1 this).2
        · have:=q9 g.t (by rw [←hT.tq];exact List.mem_map_of_mem q)
          intro r;rw [r] at this;exact this rfl
      · rw [if_neg c] at hg
        exact hc.resolve_left (fun q=>c q.symm) g hg
  · next e=>
    refine ⟨h,hA,hw,rfl,fun j hj hc g hg=>?_⟩;rcases hc with rfl|hc
    · exact sb (by simpa using e) g hg
    · exact hc g hg
theorem K8 {w0:bU} {k:Nat} {x:aG} {t:Nat} (hI:MI k x) (h:MQ (fun j=>j=t) x) (ht:t<x.ts.length) (hw:VR x t) (h5:dt x t≠5) (hA:AV w0 x.ev x.now (kz x)):∀{n:Nat},n≤x.lk.length→
    MQ (fun j=>j=t) (qG t x n)∧AV w0 (qG t x n).ev (qG t x n).now (kz (qG t x n))∧VR (qG t x n) t∧dt (qG t x n) t=dt x t∧(∀j,j<n→∀g∈(gL (qG t x n) j).ho,g.t≠(t:Int))
  |0,_=>⟨h,hA,hw,rfl,fun j hj=>absurd hj (Nat.not_lt_zero j)⟩
  |n+1,hn=>by
    obtain ⟨a1,a2,a3,a4,a5⟩:=K8 hI h ht hw h5 hA (n:=n) om;have hs:=lA t x n;rw [lz];obtain ⟨b1,b2,b3,b4,b5⟩:=SU (hI.qG t (n:=n) om) a1 (by rw [hs.1];exact ht) (l:=n) (by rw [hs.2.1];omega) a3 (by rw [a4];exact h5) a2
    exact⟨b1,b2,b3,b4.trans a4,fun j hj=>b5 j (by rw [hs.2.1];omega) (by
      by_cases c:j=n
      · exact .inl c
      · exact .inr (a5 j om))⟩
theorem Sc {w0:bU} {k:Nat} {x:aG} {t:Nat} (hI:MI k x) (h:MQ TP x) (ht:t<x.ts.length) (h5:dt x t≠5) (hA:AV w0 x.ev x.now (kz x)):
    MQ TP (kG x t)∧AV w0 (kG x t).ev (kG x t).now (kz (kG x t)):=by
  obtain ⟨a1,a2,a3,a4⟩:=SC hI h ht hA;have HJ:=rR x t;have pC:=hI.zh ht;obtain ⟨b1,b2,b3,b4,b5⟩:=K8 (x:=zh x t) pC (a1.cut t) (by rw [HJ.1];exact ht) a3 (by show dt (rC x t) t≠5;rw [a4];exact h5) a2 (n:=x.lk.length) (by rw [HJ.2.1];exact Nat.le_refl _);have q8:=pC.qG t (n:=x.lk.length) (by rw [HJ.2.1];exact Nat.le_refl _);have tF:=lA t (zh x t) x.lk.length;rw [Aa,show DA x t=eX (qG t (zh x t) x.lk.length) t from rfl]
  generalize hz:qG t (zh x t) x.lk.length=z at*
  have Cq:t<z.ts.length:=by rw [tF.1,HJ.1];exact ht
  have Xy:z.lk.length=x.lk.length:=tF.2.1.trans HJ.2.1;have h5z:dt z t≠5:=by rw [b4];show dt (rC x t) t≠5;rw [a4];exact h5
  have jx:∀l,l<z.lk.length→∀g∈(gL z l).ho,g.t≠(t:Int):=fun l hl=>b5 l om;have hIq:MI _ (eX z t):=q8.qut t;have hIf:=(hIq.up (t:=t) Cq (hIq.tb t Cq).ded).kt 11 t (-1) 0;have hlen:(bn (dH (eX z t) t (uh (gT (eX z t) t))) 11 t (-1) 0).ts.length=z.ts.length:=bA ..;refine ⟨⟨?_,?_⟩,?_⟩
  · rw [hlen]
    have hc:=hIf.ci;rw [hlen] at hc;exact(b1.q.rem q8.ci (t:=t) (s:=5) (by decide)).ext hc (fun j _=>gv (x:=eX z t) Cq _ j) (fun j _=>(j0 (x:=eX z t) Cq (uh (gT (eX z t) t)) j).trans (aU _ _ _))
  · rw [hlen]
    have hi:=hIf.PM;rw [hlen] at hi;refine ((b1.l.R4 (t:=t) (s:=5) (by decide) b3 (fun _ l hl g hg e=>?_) (-1)).ext hi (fun j _=>gv (x:=eX z t) Cq _ j) (fun j _=>jX (x:=eX z t) Cq _ j)).mono (fun j _ _ q=>absurd q.1 q.2);have h0:=(q8.li l hl).i.ho g hg;unfold kI at h0;exact jx l hl g hg om
  · have q:=(b2.exit (t:=t) Cq h5z jx).eqv (u:=kz (bn (dH (eX z t) t (uh (gT (eX z t) t))) 11 t (-1) 0)) ?_
    · exact q
    · refine ⟨hlen.symm,rfl,rfl,fun _ _=>rfl,fun j _=>(gv (x:=eX z t) Cq (uh (gT (eX z t) t)) j).symm,fun j _ q4=>?_,fun j _=>?_,fun _ _ _=>Iff.rfl⟩
      · have q4:aT (dt z) t 5 j=4:=q4
        show aT (fh z) t _ j=fh (dH (eX z t) t (uh (gT (eX z t) t))) j
        rw [jX (x:=eX z t) Cq]
        by_cases c:t=j
        · rw [←c,bJ] at q4;cases q4
        · rw [bp _ _ c,bp _ _ c];rfl
      · show aT (eR z) t _ j=eR (dH (eX z t) t (uh (gT (eX z t) t))) j
        rw [j0 (x:=eX z t) Cq];rfl
theorem TY {w0:bU} {k:Nat} {x:aG} {t:Nat} (hI:MI k x) (h:MQ TP x) (ht:t<x.ts.length) (hA:AV w0 x.ev x.now (kz x)):
    MQ TP (pG x t)∧AV w0 (pG x t).ev (pG x t).now (kz (pG x t)):=by
  unfold pG
  split
  · exact⟨h,hA⟩
  next e0=>
  split
  · next e3=>
    refine ⟨(h.Ea hI ht (by rw [show dt x t=3 from e3];decide) (h.Wm (by rw [show dt x t=3 from e3];decide))).mono (fun _ _ _ q=>q.1),JH ht hA ?_ (.inl e3)⟩;refine ⟨rfl,rfl,rfl,fun _ _=>rfl,fun j _=>(aU _ _ _).symm,fun j _ _=>(aU _ _ _).symm,fun j _=>(aU _ _ _).symm,fun _ _ _=>Iff.rfl⟩
  next e3=>
  have e4:dt x t=4:=((hI.tb t ht).un e0).resolve_left e3;have hlr:=(hI.tb t ht).l4 e4;obtain ⟨l,hle⟩:∃l:Nat,(gT x t).lk=(l:Int):=⟨(gT x t).lk.toNat,by omega⟩
  have hl:l<x.lk.length:=by rw [hI.ll];omega
  rw [hle,Int.toNat_natCast];have hL:=hI.li l hl;obtain ⟨y,hy,ey⟩:=h.l.s4 t ht e4 (fun q=>q);have hy:y∈(gL x l).wt:=by rw [show (fh x t).toNat=l by show (gT x t).lk.toNat=l;omega] at hy;exact hy
  have hw:cC (gL x l) t=true:=BH ⟨y,hy,ey⟩;obtain ⟨cQ,e1,e2,e3',e4',e5,e6,e7⟩:=pW.lv hw;have hQ0:=(GL hI h hl hw).mono (E':=fun j=>j=t∨(j:Int)∈qk (gL x l) t) (fun j _ _ q=>by rcases q with (q|q)|q;exact q.elim;exact .inl q;exact .inr q);have NS:=hI.bt (l:=l) (hL.lv t);have pC:=NS.kt 8 t l 10;have ZM:=hQ0.kt 8 t l 10;have N8:=((hA.late (t:=t) (l:=l) ht e4 hle hl).eqv (u:=(Ry (bt x l (fY (gL x l) t)) (aT (fun j=>(gL (bt x l (fY (gL x l) t)) j).ho) l (gL x l).ho)).put t 7 (fh x t) (eR x t)) ?_)
  · generalize hz:bn (bt x l (fY (gL x l) t)) 8 t l 10=z at*
    have hzt:z.ts=x.ts:=by rw [←hz];rfl
    have hzl:z.lk=(bt x l (fY (gL x l) t)).lk:=by rw [←hz];rfl
    have hze:z.ev=x.ev++ [⟨x.now,8,t,l,10⟩] :=by rw [←hz];rfl
    have hzn:z.now=x.now:=by rw [←hz];rfl
    have IS:z.s=x.s:=by rw [←hz];rfl
    have Cq:t<z.ts.length:=by rw [hzt];exact ht
    have q8:=(pC.inc Cq).cut (t:=t) (by rw [show (bO z t).ts.length=z.ts.length from bA ..];exact Cq);have hQ2:=(ZM.inc pC Cq).cut t;have hF:=fun j=>FA Cq j;have VV:∀j,gT z j=gT x j:=fun j=>by unfold gT;rw [hzt]
    have Zm:t<(dO (bO z t) t).ts.length:=by rw [show (dO (bO z t) t).ts.length=z.ts.length from bA ..];exact Cq
    have Xr:dt (dO (bO z t) t) t=4:=(hF t).1.trans (by show (gT z t).st=4;rw [VV];exact e4);have Xy:(dO (bO z t) t).lk.length=x.lk.length:=by show z.lk.length=_;rw [hzl];exact cP ..
    have wb:∀j,gL (dO (bO z t) t) j=if l=j then fY (gL x l) t else gL x j:=fun j=>by
      show z.lk.getD j default=_;rw [hzl];exact gX hl _ j
    have Wc:∀j,j<(dO (bO z t) t).lk.length→∀y∈(gL (dO (bO z t) t) j).wt,y.who.toNat≠t:=fun j hj z' OS=>by
      rw [Xy] at hj;rw [wb] at OS
      by_cases c:l=j
      · rw [if_pos c] at OS
        have h0:=hL.i.wt z' (e3' z' OS).1;unfold kI at h0;have:=(e3' z' OS).2;omega
      · rw [if_neg c] at OS
        intro q;have:=(h.l.wt j hj z' OS).2;rw [q] at this;exact c (by have:(gT x t).lk=(j:Int):=this;omega)
    have hQ3:=hQ2.Ea q8 Zm (by rw [Xr];decide) Wc;have hA3:=JH (x:=dO (bO z t) t) Zm (v:=(Ry (bt x l (fY (gL x l) t)) (aT (fun j=>(gL (bt x l (fY (gL x l) t)) j).ho) l (gL x l).ho)).put t 7 (fh x t) (eR x t)) (hs:=aT (fun j=>(gL (bt x l (fY (gL x l) t)) j).ho) l (gL x l).ho) (by rw [hze.symm,hzn.symm] at N8;exact N8) ?_ (.inr (.inr (bJ ..)))
    · have hlen:(ft (dO (bO z t) t) t).ts.length=x.ts.length:=by
        rw [show (ft (dO (bO z t) t) t).ts.length=(dO (bO z t) t).ts.length from bA ..,show (dO (bO z t) t).ts.length=z.ts.length from bA ..,hzt]
      have afs:gL (ft (dO (bO z t) t) t) l=fY (gL x l) t:=(wb l).trans (if_pos rfl);refine zM (q8.Ea Zm) (hQ3.mono (fun j _ _ q=>?_)) (by show l<(dO (bO z t) t).lk.length;rw [Xy];exact hl) (told:=(gL x l).ho) (cQ:=cQ) (by rw [afs];exact e1) e2 (fun u hu=>?_) (hA3.eqv ?_)
      · exact .inr (q.1.resolve_left q.2)
      · obtain ⟨h1,z',OS,rfl⟩:=e5 u hu
        have h0:=hL.i.wt z' OS;unfold kI at h0;have fi:t≠z'.who.toNat:=by omega
        have a1:dt (ft (dO (bO z t) t) t) z'.who.toNat=dt x z'.who.toNat:=(gv Zm _ _).trans ((bp _ _ fi).trans ((hF _).1.trans (by show (gT z _).st=_;rw [VV])));have a2:fh (ft (dO (bO z t) t) t) z'.who.toNat=fh x z'.who.toNat:=(jX Zm _ _).trans ((bp _ _ fi).trans ((hF _).2.2.trans (by show (gT z _).lk=_;rw [VV])));rw [a1,a2];exact h.l.wt l hl z' OS
      · refine ⟨rfl,rfl,rfl,fun _ _=>rfl,fun _ _=>rfl,fun _ _ _=>rfl,fun _ _=>rfl,fun j _ g=>?_⟩
        show g∈aT (fun j=>(gL (bt x l (fY (gL x l) t)) j).ho) l (gL x l).ho j↔g∈aT (fun j=>(gL (ft (dO (bO z t) t) t) j).ho) l (gL x l).ho j
        unfold aT;split
        · exact Iff.rfl
        · next c=>show g∈(gL (bt x l (fY (gL x l) t)) j).ho↔g∈(gL (dO (bO z t) t) j).ho;rw [wb,if_neg c,gX hl,if_neg c]
    · have hn:((Ry (bt x l (fY (gL x l) t)) (aT (fun j=>(gL (bt x l (fY (gL x l) t)) j).ho) l (gL x l).ho)).put t 7 (fh x t) (eR x t)).hw t=7:=bJ ..
      refine ⟨by show x.ts.length=(dO (bO z t) t).ts.length;rw [show (dO (bO z t) t).ts.length=z.ts.length from bA ..,hzt],(cP ..).trans Xy.symm,by show x.s.cr=z.s.cr;rw [IS],fun j _=>by show (gL (bt x l (fY (gL x l) t)) j).sh=(gL (dO (bO z t) t) j).sh;rw [wb,gX hl],fun j _=>?_,fun j _ _=>?_,fun j _=>?_,fun _ _ _=>Iff.rfl⟩
      · show aT (dt x) t 7 j=aT (dt (bO z t)) t _ j
        rw [hn];unfold aT;split;rfl;rw [(hF j).1];show _=(gT z j).st;rw [VV]
      · show aT (fh x) t (fh x t) j=aT (fh (bO z t)) t (aT (fh x) t (fh x t) t) j
        rw [bJ];unfold aT;split;rfl;rw [(hF j).2.2];show _=(gT z j).lk;rw [VV]
      · show aT (eR x) t (eR x t) j=aT (eR (bO z t)) t (eR (bO z t) t) j
        rw [aU,aU,(hF j).2.1];show _=(gT z j).co;rw [VV]
  · refine ⟨rfl,(cP x l _).symm,rfl,fun j _=>?_,fun _ _=>rfl,fun _ _ _=>rfl,fun _ _=>rfl,fun j _ g=>?_⟩
    · show (gL x j).sh=(gL (bt x l (fY (gL x l) t)) j).sh
      rw [gX hl];split
      · next c=>rw [e6,c]
      · rfl
    · show g∈(gL x j).ho↔g∈aT (fun j=>(gL (bt x l (fY (gL x l) t)) j).ho) l (gL x l).ho j
      unfold aT;split
      · next c=>rw [c]
      · next c=>show _↔g∈(gL (bt x l (fY (gL x l) t)) j).ho;rw [gX hl,if_neg c]
/-! parties, and which locks are shared -/
structure PI (ts:List iQ) (lk:List bf) (ng:Nat) (ls:List jv):Prop where
  gr:∀t,t<ts.length→0≤(ts.getD t default).gr∧(ts.getD t default).gr<(ng:Int)
  ln:∀l,l<lk.length→(lk.getD l default).sh=false→ng≤(lk.getD l default).ld.l.length
  sh:∀l,l<lk.length→(lk.getD l default).sh=(ls.getD l default).sh
  id:∀t,t<ts.length→(ts.getD t default).id=(t:Int)
section
variable {ts:List iQ} {lk:List bf} {ng:Nat} {ls:List jv} (h:PI ts lk ng ls)
include h
theorem PI.set (t:Nat) (y:iQ) (hy:(y.gr,y.id)=((ts.getD t default).gr,(ts.getD t default).id)):PI (ts.set t y) lk ng ls:=by
  obtain ⟨hy,hy2⟩:=Prod.mk.inj hy;refine ⟨fun j hj=>?_,h.ln,h.sh,fun j hj=>?_⟩<;>rw [List.length_set] at hj<;>rw [List.getD_eq_getElem?_getD,List.getElem?_set] <;>by_cases e:t=j
  · rw [if_pos e,if_pos (e▸hj)];show 0≤y.gr∧y.gr<_;rw [hy,e];exact h.gr j hj
  · rw [if_neg e,←List.getD_eq_getElem?_getD];exact h.gr j hj
  · rw [if_pos e,if_pos (e▸hj)];show y.id=_;rw [hy2,e];exact h.id j hj
  · rw [if_neg e,←List.getD_eq_getElem?_getD];exact h.id j hj
theorem PI.put (l:Nat) (M:bf) (h1:M.sh=(lk.getD l default).sh) (h2:M.ld.l.length=(lk.getD l default).ld.l.length):PI ts (lk.set l M) ng ls:=by
  have hg:∀j,j<lk.length→(lk.set l M).getD j default=if l=j then M else lk.getD j default:=fun j hj=>by
    rw [List.getD_eq_getElem?_getD,List.getElem?_set]
    by_cases e:l=j
    · rw [if_pos e,if_pos e,if_pos (e▸hj)];rfl
    · rw [if_neg e,if_neg e,←List.getD_eq_getElem?_getD]
  refine ⟨h.gr,fun j hj q=>?_,fun j hj=>?_,h.id⟩
  · rw [List.length_set] at hj;rw [hg j hj] at q ⊢
    by_cases e:l=j
    · rw [if_pos e] at q ⊢;rw [h2,e];exact h.ln j hj (by rw [←e,←h1];exact q)
    · rw [if_neg e] at q ⊢;exact h.ln j hj q
  · rw [List.length_set] at hj;rw [hg j hj]
    by_cases e:l=j
    · rw [if_pos e,h1,e];exact h.sh j hj
    · rw [if_neg e];exact h.sh j hj
theorem PI.map (f:bf→bf) (hf:∀L,(f L).sh=L.sh∧(f L).ld.l.length=L.ld.l.length):PI ts (lk.map f) ng ls:=by
  have hg:∀j,j<lk.length→(lk.map f).getD j default=f (lk.getD j default):=fun j hj=>by
    rw [List.getD_eq_getElem?_getD,List.getElem?_map,List.getElem?_eq_getElem hj,List.getD_eq_getElem?_getD,List.getElem?_eq_getElem hj];rfl
  refine ⟨h.gr,fun j hj q=>?_,fun j hj=>?_,h.id⟩
  · rw [List.length_map] at hj;rw [hg j hj] at q ⊢;rw [(hf _).2];exact h.ln j hj (by rw [←(hf _).1];exact q)
  · rw [List.length_map] at hj;rw [hg j hj,(hf _).1];exact h.sh j hj
theorem PI.snoc (y:iQ) (hy:0≤y.gr∧y.gr<(ng:Int)) (hi:y.id=(ts.length:Int)):PI (ts++ [y]) lk ng ls:=by
  refine ⟨fun j hj=>?_,h.ln,h.sh,fun j hj=>?_⟩<;>rw [List.length_append,List.length_singleton] at hj<;>rcases Nat.lt_or_ge j ts.length with q|q
  · rw [List.getD_eq_getElem?_getD,List.getElem?_append_left q,←List.getD_eq_getElem?_getD];exact h.gr j q
  · rw [show j=ts.length by omega,List.getD_eq_getElem?_getD,List.getElem?_append_right (Nat.le_refl _),Nat.sub_self];exact hy
  · rw [List.getD_eq_getElem?_getD,List.getElem?_append_left q,←List.getD_eq_getElem?_getD];exact h.id j q
  · rw [show j=ts.length by omega,List.getD_eq_getElem?_getD,List.getElem?_append_right (Nat.le_refl _),Nat.sub_self];exact hi
end
theorem Pd (L:bf) (t p:Int):(cR L t p).sh=L.sh∧(cR L t p).ld.l.length=L.ld.l.length:=by
  unfold cR;split
  · exact⟨rfl,rfl⟩
  · have e:=ff L p
    exact⟨e.1,(g9 ..).trans (by show (ca L p).ld.l.length=_;rw [e.2.2.2.1])⟩
theorem QH (L:bf) (t p:Int):(dQ L t p).sh=L.sh∧(dQ L t p).ld.l.length=L.ld.l.length:=by
  unfold dQ;split
  · exact⟨rfl,rfl⟩
  · exact⟨rfl,g9 ..⟩
theorem Ug (L:bf) (t:Int):(eQ L t).sh=L.sh∧(eQ L t).ld.l.length=L.ld.l.length:=by
  by_cases e:bu L t=true
  · obtain ⟨p,h⟩:=pW.BD e;exact⟨h.sh,h.ln⟩
  · unfold eQ;rw [if_neg e];exact⟨rfl,rfl⟩
theorem Nc (L:bf) (t:Int):(fY L t).sh=L.sh∧(fY L t).ld.l.length=L.ld.l.length:=by
  by_cases e:cC L t=true
  · obtain ⟨p,h⟩:=pW.lv e;exact⟨h.2.2.2.2.2.1,h.2.2.2.2.2.2⟩
  · unfold fY;rw [if_neg e];exact⟨rfl,rfl⟩
theorem Tl (L:bf) (t:Int):(sw L t).sh=L.sh∧(sw L t).ld.l.length=L.ld.l.length:=by
  unfold sw;split
  · exact Nc L t
  · split
    · exact Ug {L with di:=true} t
    · exact⟨rfl,rfl⟩
theorem SI (L:bf) (t:Int):(jk L t).sh=L.sh∧(jk L t).ld.l.length=L.ld.l.length:=by
  unfold jk;split
  · exact⟨rfl,(g9 ..).trans (by show (L.ld.l.set _ _).length=_;rw [List.length_set])⟩
  · exact⟨rfl,rfl⟩
theorem D3 (L:bf) (g w:Int):(iL L g w).sh=L.sh∧(iL L g w).ld.l.length=L.ld.l.length:=by
  unfold iL;split
  · exact⟨rfl,(g9 ..).trans (by show (L.ld.l.set _ _).length=_;rw [List.length_set])⟩
  · exact⟨rfl,rfl⟩
abbrev xQ (x:aG):Prop:=PI x.ts x.lk x.s.gs.length x.s.ls
section
variable {x:aG} (h:xQ x)
include h
theorem PI.inc (t:Nat):xQ (bO x t):=PI.set h t _ rfl
theorem PI.Ea (t:Nat):xQ (ft x t):=PI.set h t _ rfl
theorem PI.pt (l:Nat) {M:bf} (hM:M.sh=(gL x l).sh∧M.ld.l.length=(gL x l).ld.l.length):xQ (bt x l M):=PI.put h l M hM.1 hM.2
theorem PI.qA (l:Nat) (t:Int):xQ (qA l x t):=PI.Ea (x:=dO (bO (bn x 4 t l (ea (gL x l) t)) t.toNat) t.toNat) (PI.inc (x:=bn x 4 t l (ea (gL x l) t)) h t.toNat) t.toNat
end
theorem PI.p7 {l:Nat} :∀(to:List Int) {x:aG},xQ x→xQ (p7 l x to)
  | [],x,h=>h
  |t::to,x,h=>PI.p7 to (PI.qA h l t)
theorem PI.sX {l:Nat} {to:List Int} {x:aG} (h:xQ x):xQ (dX x l to):=PI.p7 to h
theorem PI.rC {x:aG} (h:xQ x) (t:Nat):xQ (rC x t):=by
  unfold Go.Eng.rC;split
  · exact PI.sX (PI.pt h _ (Nc _ _))
  · exact h
theorem PI.sM {x:aG} (h:xQ x) (t l:Nat):xQ (sM t x l):=by
  unfold Go.Eng.sM;split
  · exact PI.sX (PI.pt (x:=bn x 12 t l 0) h _ (Tl _ _))
  · exact h
theorem PI.qG {x:aG} (h:xQ x) (t:Nat):∀n,xQ (qG t x n)
  |0=>h
  |n+1=>by rw [lz];exact PI.sM (PI.qG h t n) t n
theorem PI.die {x:aG} (h:xQ x) (t:Nat):xQ (kG x t):=by
  have h1:xQ (DA x t):=PI.qG (x:=zh x t) (PI.rC h t) t x.lk.length;rw [Aa];exact PI.set h1 t _ rfl
theorem PI.pG {x:aG} (h:xQ x) (t:Nat):xQ (pG x t):=by
  unfold Go.Eng.pG;split
  · exact h
  · split
    · exact PI.Ea h t
    · refine PI.sX ?_
      exact PI.Ea (x:=dO (bO (bn (bt x (gT x t).lk.toNat (fY (gL x (gT x t).lk.toNat) t)) 8 t (gT x t).lk 10) t) t) (PI.inc (x:=bn (bt x (gT x t).lk.toNat (fY (gL x (gT x t).lk.toNat) t)) 8 t (gT x t).lk 10) (PI.pt h _ (Nc _ _)) t) t
/-! ops that may be -/
structure OpQ (s:jy) (o:cZ):Prop where
  r:o.k=3→(s.ls.getD o.a.toNat default).sh=true
  s:o.k=7→1≤o.a∧o.a≤64
  w:o.k=10→1≤o.a∧o.a≤16
theorem Uy {s:jy} (h:eu s=true) {p:qx} (hp:p∈s.ps) {i:Nat} (hi:i<p.xs.length):OpQ s (p.xs.getD i default):=by
  obtain ⟨h1,h2,h3⟩:=jK h;obtain ⟨hm,hf⟩:=rE (h3 p hp);have hr:=v5 hm hi;have hf:=hf i hi
  unfold dY at hf
  generalize p.xs.getD i default=o at hr hf
  unfold ei at hr
  simp only [Bool.and_eq_true] at hr;have h5:=hr.1.2;refine ⟨fun e=>?_,fun e=>?_,fun e=>?_⟩
  · split at hf
    · cases hf
    · split at hf
      · cases hf
      · next q=>
        rw [decide_eq_true e] at q;cases c:(s.ls.getD o.a.toNat default).sh with
        |true=>rfl
        |false=>rw [c] at q;exact absurd rfl q
  · rw [e] at h5;simp [hasB,nn,pU] at h5;exact h5
  · rw [e] at h5;simp [hasB,nn,pU] at h5;exact h5
structure MT (w0:bU) (x:aG):Prop where
  q:MQ TP x
  p:xQ x
  a:AV w0 x.ev x.now (kz x)
theorem MT.die {w0:bU} {k:Nat} {x:aG} {t:Nat} (hI:MI k x) (h:MT w0 x) (ht:t<x.ts.length) (h5:dt x t≠5):MT w0 (kG x t):=by
  have q:=Sc hI h.q ht h5 h.a;exact⟨q.1,PI.die h.p t,q.2⟩
theorem MT.pG {w0:bU} {k:Nat} {x:aG} {t:Nat} (hI:MI k x) (h:MT w0 x) (ht:t<x.ts.length):MT w0 (pG x t):=by
  have q:=TY hI h.q ht h.a;exact⟨q.1,PI.pG h.p t,q.2⟩
theorem WN {x:aG} {t:Nat} (ht:t<x.ts.length) {y:iQ} (h1:y.st=(gT x t).st) (h2:y.co=(gT x t).co) (h3:y.lk=(gT x t).lk):Rg (kz x) (kz (dH x t y)):=
  ⟨(bA ..).symm,rfl,rfl,fun _ _=>rfl,fun j _=>((gv ht y j).trans (by rw [h1];exact aU _ _ _)).symm,fun j _ _=>((jX ht y j).trans (by rw [h3];exact aU _ _ _)).symm,fun j _=>((j0 ht y j).trans (by rw [h2];exact aU _ _ _)).symm,fun _ _ _=>Iff.rfl⟩
theorem S7 {L:bf} {t p:Int} (h:cV L t p≠0):dx L t p=cV L t p:=if_pos h
theorem Ps {L:bf} {t p:Int} (h:cV L t p=0):dx L t p=if gE L p=true then 0 else 8:=if_neg (by rw [h];decide)
theorem PO {L:bf} {t p:Int} (h:cV L t p=0):jT L t p=if gE L p=true then 4 else if 8≤L.wt.length then 3 else 0:=if_neg (by rw [h];decide)
theorem MT.err {w0:bU} {x:aG} (h:MT w0 x) {t:Nat} (ht:t<x.ts.length) (h2:dt x t=2) {l n:Int} (hl:(0≤l∧l<(x.lk.length:Int))∨(l= -1∧n=3)) (hn:n=3∨n=7∨n=8∨n=9):MT w0 (bn x 8 t l n):=
  ⟨h.q.kt ..,h.p,h.a.err (t:=t) ht h2 hl hn⟩
theorem MT.core {w0:bU} {k:Nat} {x:aG} (hI:MI k x) (h:MT w0 x) {t c:Nat} (hc:c<x.cs.length) (rW:(qg x.cs c).cur=(t:Int)):eR x t=(c:Int):=by
  have hk:=(hI.ci.wf.wf c hc).ix (show 0≤(qg x.cs c).cur by omega);have:=(h.q.q.has c hc _ hk).1;rw [rW] at this;exact this
section
variable {w0:bU} {k:Nat} {x:aG} (hI:MI k x) (h:MT w0 x) {t:Nat} (ht:t<x.ts.length)
include hI h ht
theorem MT.up {y:iQ} (h1:y.st=(gT x t).st) (h2:y.co=(gT x t).co) (h3:y.lk=(gT x t).lk) (h4:(y.gr,y.id)=((gT x t).gr,(gT x t).id)):MT w0 (dH x t y):=
  ⟨h.q.up hI ht h1 h2 h3,PI.set h.p t y h4,h.a.eqv (WN ht h1 h2 h3)⟩
theorem MT.inc:MT w0 (bO x t):=MT.up hI h ht rfl rfl rfl rfl
theorem MT.tak (h2:dt x t=2) {o:cZ} (ho:QF x.s o) (hp:OpQ x.s o) (hk:2≤o.k∧o.k≤5):MT w0 (nK x t o).1:=by
  have hlr:=ho.l ⟨hk.1,by omega⟩;obtain ⟨l,gz⟩:∃l:Nat,o.a=(l:Nat):=⟨o.a.toNat,(Int.toNat_of_nonneg hlr.1).symm⟩
  have hl:l<x.lk.length:=by rw [hI.ll];omega
  have hL:=hI.li l hl;have Ck:kI x.ts.length (t:Int):=⟨by omega,by omega⟩
  have Wc:=h.q.Wm (t:=t) (by rw [h2];decide)
  have C7:cC (gL x l) t=false:=by
    cases c:cC (gL x l) t with
    |false=>rfl
    |true=>
      obtain ⟨y,hy,e⟩:=List.any_eq_true.1 c;exact absurd (by rw [of_decide_eq_true e];rfl) (Wc l hl y hy)
  have hgr:=h.p.gr t ht
  have YF:pF (gL x l).ld (tq x t l o)=true:=by
    unfold tq yQ pF
    cases hs:(gL x l).sh with
    |true=>
      have h8:=hL.w.l2 hs;rw [if_pos rfl,h8];split<;>rfl
    |false=>
      have kE:=h.p.ln l hl hs;have fC:=h.p.sh l hl
      have aeh:¬o.k=3:=fun e=>by
        have:=hp.r e;rw [gz,Int.toNat_natCast,←fC] at this;have q2:(gL x l).sh=true:=this;rw [hs] at q2;cases q2
      have hg:pF (gL x l).ld (gT x t).gr=true:=by
        unfold pF
        rw [decide_eq_true hgr.1,decide_eq_true (show (gT x t).gr<((gL x l).ld.l.length:Int) by have h1:(gT x t).gr<(x.s.gs.length:Int):=hgr.2;have h3:x.s.gs.length≤(gL x l).ld.l.length:=kE;omega)];rfl
      rw [if_neg (by decide),if_neg (fun q=>by
        rcases q with q|q
        · exact aeh (of_decide_eq_true q)
        · have hg2:=hg;unfold pF at hg2;rw [hg2] at q;cases q)]
      unfold pF at hg;exact hg
  have NF:cV (gL x l) t (tq x t l o)=if bu (gL x l) t=true then 9 else 0:=by
    unfold cV;rw [if_neg (by rintro (q|q);rw [YF] at q;cases q;omega),C7];rfl
  by_cases he:dx (gL x l) t (tq x t l o)=0
  · rw [IZ gz he]
    have C9:cV (gL x l) t (tq x t l o)=0:=by
      refine Classical.byContradiction fun n=>?_
      unfold dx at he;rw [if_pos n] at he;exact n he
    have x8:bu (gL x l) t=false:=(oV C9).2.2.1
    generalize hP:tq x t l o=p at*
    have hM:=hL.take t p Ck;have hf:=ff (gL x l) p
    have e1:(cR (gL x l) t p).ho=(gL x l).ho++ [⟨t,p,(gL x l).di⟩] :=by
      unfold cR;rw [if_neg (by simpa using he)]
      show (ca (gL x l) p).ho++ [⟨t,p,(ca (gL x l) p).di⟩] =_
      rw [hf.2.1,hf.2.2.2.2.2]
    have e2:(cR (gL x l) t p).wt=(gL x l).wt:=by
      unfold cR;rw [if_neg (by simpa using he)];exact hf.2.2.1
    have e3:=Pd (gL x l) t p;have wb:gL (bt x l (cR (gL x l) t p)) l=cR (gL x l) t p:=(gX hl _ l).trans (if_pos rfl);rw [wb];have TJ:(⟨t,p,(gL x l).di⟩:Hd)∈(cR (gL x l) t p).ho:=by rw [e1];simp
    have hH:ea (cR (gL x l) t p) t=nO (gL x l).sh ⟨t,p,(gL x l).di⟩:=by rw [←e3.1];exact KX (g:=⟨t,p,(gL x l).di⟩) hM.w.hd TJ
    obtain ⟨k1,k2⟩:=RX hM.w.top8 e1;rw [e3.1] at k2;have hA:=h.a.afF (t:=t) (l:=l) (g:=⟨t,p,(gL x l).di⟩) ht hl rfl k1 k2 h2;have hA2:=hA.eqv (zH hl (M:=cR (gL x l) t p) e3.1 (told:=(gL x l).ho++ [⟨t,p,(gL x l).di⟩]) (fun g=>Iff.rfl))
    have hA3:=hA2.eqv (u:=kz (bt x l (cR (gL x l) t p))) ⟨rfl,rfl,rfl,fun _ _=>rfl,fun _ _=>rfl,fun _ _ _=>rfl,fun _ _=>rfl,fun j _ g=>by
      show g∈aT (fun i=>(gL (bt x l (cR (gL x l) t p)) i).ho) l ((gL x l).ho++ [⟨t,p,(gL x l).di⟩]) j↔g∈(gL (bt x l (cR (gL x l) t p)) j).ho
      unfold aT;split
      · next q=>rw [←q,wb,e1]
      · exact Iff.rfl⟩
    have hQ:MQ TP (bt x l (cR (gL x l) t p)):=by
      refine ⟨h.q.q,h.q.l.put hl (fun y hy=>by rw [e2] at hy;exact hy) (fun _ q=>q) (fun y hy=> .inl ⟨y,by rw [e2];exact hy,rfl⟩) (fun g hg=>?_)⟩;rw [e1] at hg;rcases List.mem_append.1 hg with q|q
      · exact h.q.l.h5 l hl g q
      · rw [List.mem_singleton.1 q];show dt x (t:Int).toNat≠5;rw [Int.toNat_natCast,h2];decide
    have pC:=((hI.mono (Nat.le_succ k)).bt (l:=l) hM).kt 4 t l (nO (gL x l).sh ⟨t,p,(gL x l).di⟩);rw [hH];have hT:MT w0 (bn (bt x l (cR (gL x l) t p)) 4 t l (nO (gL x l).sh ⟨t,p,(gL x l).di⟩)):=⟨hQ.kt ..,PI.pt h.p l e3,hA3⟩
    exact MT.inc (x:=BT _ l) (pC.Yh l) ⟨hT.q.gr _,hT.p,hT.a⟩ ht
  · have uT:(bu (gL x l) t=true∧dx (gL x l) t (tq x t l o)=9)∨(bu (gL x l) t=false∧gE (gL x l) (tq x t l o)=false∧dx (gL x l) t (tq x t l o)=8):=by
      cases hh:bu (gL x l) t with
      |true=>
        rw [hh,if_pos rfl] at NF;exact .inl ⟨rfl,(S7 (by rw [NF];decide)).trans NF⟩
      |false=>
        rw [hh,if_neg (by decide)] at NF;have e:=Ps NF;cases hf:gE (gL x l) (tq x t l o) with
        |true=>rw [hf,if_pos rfl] at e;exact absurd e he
        |false=>rw [hf,if_neg (by decide)] at e;exact .inr ⟨rfl,rfl,e⟩
    have hW:dx (gL x l) t (tq x t l o)=8→bu (gL x l) t=false∧gE (gL x l) (tq x t l o)=false:=fun q=>by
      rcases uT with ⟨_,r⟩|⟨r1,r2,_⟩
      · rw [q] at r;cases r
      · exact⟨r1,r2⟩
    have hE:dx (gL x l) t (tq x t l o)=9∨dx (gL x l) t (tq x t l o)=8:=by
      rcases uT with ⟨_,r⟩|⟨_,_,r⟩
      · exact .inl r
      · exact .inr r
    by_cases NK:nE x t o≠0
    · rw [LS gz he NK]
      refine MT.inc (hI.kt ..) (MT.err h ht h2 (.inl ⟨Int.natCast_nonneg l,by omega⟩) ?_) ht
      by_cases h8:dx (gL x l) t (tq x t l o)=8∧o.k≠4
      · obtain ⟨w1,w2⟩:=hW h8.1
        rw [w1,if_neg (by decide)] at NF;have e:=PO NF;rw [w2,if_neg (by decide)] at e;rw [u6 gz h8.1 h8.2] at NK ⊢
        by_cases q:aR (rY x.g (s3 (gL x l))) t=true
        · rw [if_pos q];exact .inr (.inr (.inr rfl))
        · rw [if_neg q,e] at NK ⊢
          by_cases r:8≤(gL x l).wt.length
          · rw [if_pos r];exact .inl rfl
          · rw [if_neg r] at NK;exact absurd rfl NK
      · rw [Ai gz h8]
        rcases hE with q|q
        · exact .inr (.inr (.inr q))
        · exact .inr (.inr (.inl q))
    · have sJ:nE x t o=0:=by simpa using NK
      have h8:dx (gL x l) t (tq x t l o)=8∧o.k≠4:=by
        refine Classical.byContradiction fun n=>?_;rw [Ai gz n] at sJ;exact he sJ
      obtain ⟨w1,w2⟩:=hW h8.1
      have hwE:jT (gL x l) t (tq x t l o)=0:=by
        rw [u6 gz h8.1 h8.2] at sJ
        split at sJ
        · cases sJ
        · exact sJ
      rw [HF gz he NK,yY gz]
      generalize hP:tq x t l o=p at*
      have e1:(dQ (gL x l) t p).ho=(gL x l).ho:=by unfold dQ;rw [if_neg (by simpa using hwE)];rfl
      have e2:(dQ (gL x l) t p).wt=(gL x l).wt++ [⟨t,p,0#64⟩] :=by unfold dQ;rw [if_neg (by simpa using hwE)];rfl
      have e3:=QH (gL x l) t p
      have fi:(gL x l).ho≠ [] :=fun q=>by
        unfold gE at w2;rw [YF,q] at w2;cases w2
      have hY:lH x t l o=eX (bn (bt x l (dQ (gL x l) t p)) 6 t l 0) t:=by unfold lH;rw [hP]
      have hA:=h.a.block (t:=t) (l:=l) ht h2 hl fi (sb w1);have pC:=hI.tak ht (o:=o) ⟨hlr.1,by omega⟩;rw [HF gz (by rw [hP];exact he) NK,yY gz] at pC;have hts:(lH x t l o).ts=x.ts:=by rw [hY];rfl
      have Ce:t<(lH x t l o).ts.length:=by rw [hts];exact ht
      have Ux:∀j,gT (lH x t l o) j=gT x j:=fun j=>by unfold gT;rw [hts]
      have O0:(lH x t l o).lk=(bt x l (dQ (gL x l) t p)).lk:=by rw [hY];rfl
      have adk:(lH x t l o).cs=gS x.cs t:=by rw [hY];rfl
      have Tx:(lH x t l o).ev=x.ev++ [⟨x.now,6,t,l,0⟩] :=by rw [hY];rfl
      have Ye:(lH x t l o).now=x.now:=by rw [hY];rfl
      have Dc:(lH x t l o).s=x.s:=by rw [hY];rfl
      have wb:∀j,gL (lH x t l o) j=if l=j then dQ (gL x l) t p else gL x j:=fun j=>by
        unfold gL;rw [O0];exact gX hl _ j
      generalize az:CZ x.g t (s3 (gL (lH x t l o) l))=g' at*
      have cu:∀j,dt {dH (lH x t l o) t (xd (gT x t) o x.now) with g:=g'} j=aT (dt x) t 4 j:=fun j=>by
        show dt (dH (lH x t l o) t (xd (gT x t) o x.now)) j=_
        rw [gv Ce];unfold aT;split;rfl;show (gT _ j).st=_;rw [Ux]
      have tt:∀j,eR {dH (lH x t l o) t (xd (gT x t) o x.now) with g:=g'} j=eR x j:=fun j=>by
        show eR (dH (lH x t l o) t (xd (gT x t) o x.now)) j=_
        rw [j0 Ce];unfold aT;split
        · next q=>rw [←q];rfl
        · show (gT _ j).co=_;rw [Ux]
      have uv:∀j,fh {dH (lH x t l o) t (xd (gT x t) o x.now) with g:=g'} j=aT (fh x) t l j:=fun j=>by
        show fh (dH (lH x t l o) t (xd (gT x t) o x.now)) j=_
        rw [jX Ce];unfold aT;split;exact gz;show (gT _ j).lk=_;rw [Ux]
      have hlen:({dH (lH x t l o) t (xd (gT x t) o x.now) with g:=g'} :aG).ts.length=x.ts.length:=by
        show (dH (lH x t l o) t (xd (gT x t) o x.now)).ts.length=_;rw [bA,hts]
      refine ⟨⟨?_,?_⟩,?_,?_⟩
      · rw [hlen]
        have hc:=pC.ci;rw [hlen] at hc;rw [show ({dH (lH x t l o) t (xd (gT x t) o x.now) with g:=g'} :aG).cs=gS x.cs t from adk] at hc ⊢;exact(h.q.q.rem hI.ci (t:=t) (s:=4) (by decide)).ext hc (fun j _=>cu j) (fun j _=>tt j)
      · rw [hlen]
        have hi:=pC.PM;rw [hlen] at hi;rw [show ({dH (lH x t l o) t (xd (gT x t) o x.now) with g:=g'} :aG).lk=x.lk.set l (dQ (gL x l) t p) from O0] at hi ⊢;refine LC.ext (st:=aT (dt x) t 4) (lk:=aT (fh x) t l) ?_ hi (fun j _=>cu j) (fun j _=>uv j);refine ⟨fun j hj y hy=>?_,fun j hj h4 _=>?_,fun j hj g hg=>?_⟩
        · rw [List.length_set] at hj;rw [bN hl] at hy
          have ow:∀i,i<x.lk.length→∀y∈(qg x.lk i).wt,aT (dt x) t 4 y.who.toNat=4∧aT (fh x) t l y.who.toNat=(i:Int):=fun i hi y hy=>by
            have:=Wc i hi y hy;rw [bp _ _ (Ne.symm this),bp _ _ (Ne.symm this)];exact h.q.l.wt i hi y hy
          by_cases c:l=j
          · rw [if_pos c,e2] at hy
            rcases List.mem_append.1 hy with q|q
            · rw [←c];exact ow l hl y q
            · rw [List.mem_singleton.1 q];show aT (dt x) t 4 (t:Int).toNat=4∧aT (fh x) t l (t:Int).toNat=_
              rw [Int.toNat_natCast,bJ,bJ,c];exact⟨rfl,rfl⟩
          · rw [if_neg c] at hy;exact ow j hj y hy
        · by_cases c:t=j
          · subst c
            refine ⟨⟨t,p,0#64⟩,?_,rfl⟩;rw [bJ,Int.toNat_natCast,bN hl,if_pos rfl,e2];simp
          · rw [bp _ _ c] at h4 ⊢
            obtain ⟨y,hy,q⟩:=h.q.l.s4 j hj h4 (fun q=>q);refine ⟨y,?_,q⟩;rw [bN hl];split
            · next r=>rw [e2,r];exact List.mem_append_left _ hy
            · exact hy
        · rw [List.length_set] at hj;rw [bN hl] at hg
          have:g∈(qg x.lk j).ho:=by
            split at hg
            · next r=>rw [e1] at hg;rw [←r];exact hg
            · exact hg
          unfold aT;split
          · decide
          · exact h.q.l.h5 j hj g this
      · have q:=PI.set (PI.pt h.p l e3) t (xd (gT x t) o x.now) rfl
        show PI ((lH x t l o).ts.set t _) (lH x t l o).lk (lH x t l o).s.gs.length (lH x t l o).s.ls
        rw [hts,O0,Dc];exact q
      · have q:=hA.eqv (u:=kz {dH (lH x t l o) t (xd (gT x t) o x.now) with g:=g'}) ⟨hlen.symm,by show x.lk.length=(lH x t l o).lk.length;rw [O0];exact(cP ..).symm,by show x.s.cr=(lH x t l o).s.cr;rw [Dc],fun j _=>?_,fun j _=>(cu j).symm,fun j _ _=>(uv j).symm,fun j _=>?_,fun j _ g=>?_⟩
        · rw [show ({dH (lH x t l o) t (xd (gT x t) o x.now) with g:=g'} :aG).ev=_ from Tx,show ({dH (lH x t l o) t (xd (gT x t) o x.now) with g:=g'} :aG).now=_ from Ye];exact q
        · show (gL x j).sh=(gL (lH x t l o) j).sh
          rw [wb];split
          · next r=>rw [e3.1,r]
          · rfl
        · exact(aU (eR x) t j).trans (tt j).symm
        · show g∈(gL x j).ho↔g∈(gL (lH x t l o) j).ho
          rw [wb];split
          · next r=>rw [e1,r]
          · exact Iff.rfl
end
theorem Lq {cs:List Qm} {c:Nat} (hc:c<cs.length) {q:Qm} (he:q.l.map (·.id)=(qg cs c).l.map (·.id)) (hu:q.cur=(qg cs c).cur) {n:Nat} {st co:Nat→Int} (h:QC n cs st co):QC n (cs.set c q) st co:=by
  refine h.same (List.length_set ..) (fun d hd a ha=>jQ hc he ha) (fun d hd=>?_);rw [bN hc];split
  · next r=>rw [hu,r]
  · rfl
theorem P3 (cs:List Qm) (a w:Int) (c:Nat):(qg (ks cs a w) c).cur=(qg cs c).cur:=by
  unfold ks;split
  · next ha=>
    rw [show mR (qg cs (bS cs a)) a w=ij (qg cs (bS cs a)) a w from if_pos (dz ha),bN ha]
    split
    · next r=>rw [←r];rfl
    · rfl
  · rfl
section
variable {w0:bU} {k:Nat} {x:aG} (hI:MI k x) (h:MT w0 x)
include h
theorem MT.cs {cs:List Qm} (hl:cs.length=x.cs.length) (hk:∀c,c<x.cs.length→∀a,cA (qg cs c) a→cA (qg x.cs c) a) (hq:∀c,c<x.cs.length→(qg cs c).cur=(qg x.cs c).cur):MT w0 {x with cs:=cs} :=
  ⟨⟨h.q.q.same hl hk hq,h.q.l⟩,h.p,h.a⟩
include hI
theorem MT.sX (l:Nat) {M:bf} {t:Nat} (hl:l<x.lk.length) (ht:t<x.ts.length) (hM:LI x.ts.length k M) (hh:bu (gL x l) t=true) {to:List Int} (hT:∃cQ,pW (gL x l) M ((gL x l).ho.eraseIdx (gk (gL x l).ho t)) to cQ) (h2:dt x t=2):MT w0 (dX (bt (bn x 5 t l 0) l M) l to):=by
  obtain ⟨cQ,hT⟩:=hT;have q:=FD hI h.q hl hM ht hh h.a hT (kd:=5) (.inl ⟨rfl,h2⟩);exact⟨q.1,PI.sX (PI.pt (x:=bn x 5 t l 0) h.p l ⟨hT.sh,hT.ln⟩),q.2⟩
theorem MT.uB (fT:List Int) {i:Nat} (hi:i<x.ts.length):MT w0 (uB fT x i):=by
  unfold Go.Eng.uB;split
  · exact h
  · exact(MT.up hI h hi (y:= {gT x i with ef:=fT.getD i 0}) rfl rfl rfl rfl).cs (FK ..) (fun c _ a ha=>Cg ha) (fun c _=>P3 ..)
end
theorem MT.uO {w0:bU} {k:Nat} {x:aG} (hI:MI k x) (h:MT w0 x) (fT:List Int):∀{n:Nat},n≤x.ts.length→MT w0 (uO fT x n)
  |0,_=>h
  |n+1,hn=>by
    rw [jP];exact(h.uO hI fT (n:=n) om).uB (hI.uO fT (n:=n) om) fT (by rw [(oy fT x n).1];omega)
theorem MT.Ml {w0:bU} {k:Nat} {x:aG} (hI:MI k x) (h:MT w0 x):MT w0 (kh x):=by
  have h1:=h.uO hI (zq (sU x) x.g) (n:=x.ts.length) (Nat.le_refl _);exact h1.cs (mu _) (fun c hc a ha=>Ba hc ha) (fun c hc=>by rw [wx hc];exact(eL _).2.1)
/-! an op -/
theorem MI.AE {k:Nat} {x:aG} (h:MI k x) {t:Nat} (ht:t<x.ts.length) {a:Int} (ha:1≤a∧a≤64):MI (k+1) (AE x t a):=by
  have q:=h.tb t ht;have hl:=q.lf;have hq:xB x.s k (FJ (gT x t) a):=⟨q.pr,q.pc,by show 0≤EV (gT x t) a-1∧EV (gT x t) a-1≤64;unfold EV;split<;>omega,q.ti,q.l4,q.un⟩
  have h':=(h.up ht hq).mono (Nat.le_succ k)
  exact {h' with
    ll:=by show (x.lk.map _).length=_;rw [List.length_map];exact h.ll
    li:=fun l hl=>by have:=LI.Yp h.li t l hl;rw [show (Go.Eng.AE x t a).ts.length=x.ts.length from bA ..];exact this}
theorem Mg (L:bf) (t:Int):(jk L t).ho=L.ho∧(jk L t).wt=L.wt:=by unfold jk;split;exact⟨rfl,rfl⟩;exact⟨rfl,rfl⟩
theorem vd (L:bf) (g w:Int):(iL L g w).ho=L.ho∧(iL L g w).wt=L.wt:=by unfold iL;split;exact⟨rfl,rfl⟩;exact⟨rfl,rfl⟩
theorem MT.lks {w0:bU} {x:aG} (h:MT w0 x) (f:bf→bf) (hf:∀L,(f L).ho=L.ho∧(f L).wt=L.wt) (hd:∀L,(f L).sh=L.sh∧(f L).ld.l.length=L.ld.l.length):MT w0 {x with lk:=x.lk.map f} :=by
  have hg:∀l,l<x.lk.length→qg (x.lk.map f) l=f (qg x.lk l):=fun l hl=>by
    unfold qg;rw [List.getD_eq_getElem?_getD,List.getElem?_map,List.getElem?_eq_getElem hl,List.getD_eq_getElem?_getD,List.getElem?_eq_getElem hl];rfl
  have hs4:∀t,t<x.ts.length→dt x t=4→∃y∈(qg (x.lk.map f) (fh x t).toNat).wt,y.who=(t:Int):=fun t ht h4=>by
    obtain ⟨y,hy,e⟩:=h.q.l.s4 t ht h4 (fun q=>q)
    by_cases c:(fh x t).toNat<x.lk.length
    · exact⟨y,by rw [hg _ c,(hf _).2];exact hy,e⟩
    · unfold qg at hy;rw [List.getD_eq_getElem?_getD,List.getElem?_eq_none om] at hy;cases hy
  refine ⟨⟨h.q.q,⟨fun l hl y hy=>?_,fun t ht h4 _=>hs4 t ht h4,fun l hl g az=>?_⟩⟩,PI.map h.p f hd,?_⟩
  · rw [show ({x with lk:=x.lk.map f} :aG).lk.length=x.lk.length from List.length_map ..] at hl
    rw [show qg ({x with lk:=x.lk.map f} :aG).lk l=f (qg x.lk l) from hg l hl,(hf _).2] at hy;exact h.q.l.wt l hl y hy
  · rw [show ({x with lk:=x.lk.map f} :aG).lk.length=x.lk.length from List.length_map ..] at hl
    rw [show qg ({x with lk:=x.lk.map f} :aG).lk l=f (qg x.lk l) from hg l hl,(hf _).1] at az;exact h.q.l.h5 l hl g az
  · refine h.a.eqv ⟨rfl,(List.length_map ..).symm,rfl,fun l hl=>?_,fun _ _=>rfl,fun _ _ _=>rfl,fun _ _=>rfl,fun l hl g=>?_⟩
    · show (qg x.lk l).sh=(qg (x.lk.map f) l).sh;rw [hg l hl,(hd _).1]
    · show g∈(qg x.lk l).ho↔g∈(qg (x.lk.map f) l).ho;rw [hg l hl,(hf _).1]
theorem MT.out {w0:bU} {k k':Nat} {x:aG} (hI:MI k x) (h:MT w0 x) {t:Nat} (ht:t<x.ts.length) (h2:dt x t=2) {ev:List dP} {y:iQ} {z:aG} (hz:z=dH {(eX x t) with ev:=ev} t y) (ri:MI k' z) (hy:y.st≠2∧y.st≠4∧y.st≠5) (hc:y.co=(gT x t).co) (hg:(y.gr,y.id)=((gT x t).gr,(gT x t).id)) (hA:AV w0 ev x.now ((kz x).put t y.st (fh x t) (eR x t))):MT w0 z:=by
  have hlen:z.ts.length=x.ts.length:=by rw [hz];exact bA ..
  have cu:∀j,dt z j=aT (dt x) t y.st j:=fun j=>by rw [hz];exact gv (x:= {(eX x t) with ev:=ev}) ht y j
  have tt:∀j,eR z j=eR x j:=fun j=>by rw [hz,j0 (x:= {(eX x t) with ev:=ev}) ht y j,hc];exact aU (eR x) t j
  have uv:∀j,fh z j=aT (fh x) t y.lk j:=fun j=>by rw [hz];exact jX (x:= {(eX x t) with ev:=ev}) ht y j
  have e1:z.cs=gS x.cs t:=by rw [hz];rfl
  have e2:z.lk=x.lk:=by rw [hz];rfl
  have e3:z.ev=ev:=by rw [hz];rfl
  have e4:z.now=x.now:=by rw [hz];rfl
  have e5:z.s=x.s:=by rw [hz];rfl
  have Mh:=ri.ci;rw [hlen,e1] at Mh;have hi:=ri.PM;rw [hlen,e2] at hi;refine ⟨⟨?_,?_⟩,?_,?_⟩
  · rw [hlen,e1];exact(h.q.q.rem hI.ci (t:=t) hy.1).ext Mh (fun j _=>cu j) (fun j _=>tt j)
  · rw [hlen,e2]
    exact((h.q.l.R4 (t:=t) hy.2.1 (h.q.Wm (by rw [h2];decide)) (fun q=>absurd q hy.2.2) y.lk).ext hi (fun j _=>cu j) (fun j _=>uv j)).mono (fun j _ _ q=>q.1)
  · show PI z.ts z.lk z.s.gs.length z.s.ls
    rw [e2,e5,hz];exact PI.set h.p t y hg
  · rw [e3,e4]
    refine hA.eqv ⟨hlen.symm,by show x.lk.length=z.lk.length;rw [e2],by show x.s.cr=z.s.cr;rw [e5],fun j _=>by show (gL x j).sh=(gL z j).sh;unfold gL;rw [e2],fun j _=>(cu j).symm,fun j _ q4=>?_,fun j _=>(aU (eR x) t j).trans (tt j).symm,fun j _ g=>by show g∈(gL x j).ho↔g∈(gL z j).ho;unfold gL;rw [e2]⟩;have q4:aT (dt x) t y.st j=4:=q4
    show aT (fh x) t (fh x t) j=fh z j
    rw [uv]
    by_cases c:t=j
    · rw [←c,bJ] at q4;exact absurd q4 hy.2.1
    · rw [bp _ _ c,bp _ _ c]
theorem MT.bak {w0:bU} {k:Nat} {x:aG} (hI:MI k x) (h:MT w0 x) {t c:Nat} (ht:t<x.ts.length) (hc:c<x.cs.length) (rW:(qg x.cs c).cur=(t:Int)) (h2:dt x t=2) {kd:Int} (Vz:kd=3∨kd=10) {y:iQ} (hy:y.st=1) (aeV:y.co=(gT x t).co) (hg:(y.gr,y.id)=((gT x t).gr,(gT x t).id)) (hu:y.un=(gT x t).un) (hb:xB x.s (k+1) y):
    MT w0 {dH (iK x c (fJ (qg x.cs c))) t y with ev:=x.ev++ [⟨x.now,kd,t,-1,c⟩] } :=by
  have Fb:=MT.core hI h hc rW;have hA:=h.a.leave (t:=t) ht kd Vz h2;rw [show (kz x).co t=(c:Int) from Fb] at hA
  generalize hz:({dH (iK x c (fJ (qg x.cs c))) t y with ev:=x.ev++ [⟨x.now,kd,t,-1,c⟩] } :aG)=z
  have hlen:z.ts.length=x.ts.length:=by rw [←hz];exact bA ..
  have cu:∀j,dt z j=aT (dt x) t 1 j:=fun j=>by rw [←hy,←hz];exact gv (x:=iK x c (fJ (qg x.cs c))) ht y j
  have tt:∀j,eR z j=eR x j:=fun j=>by rw [←hz];exact(j0 (x:=iK x c (fJ (qg x.cs c))) ht y j).trans (by rw [aeV];exact aU (eR x) t j)
  have uv:∀j,fh z j=aT (fh x) t y.lk j:=fun j=>by rw [←hz];exact jX (x:=iK x c (fJ (qg x.cs c))) ht y j
  have e1:z.cs=x.cs.set c (fJ (qg x.cs c)):=by rw [←hz];rfl
  have e2:z.lk=x.lk:=by rw [←hz];rfl
  have e3:z.ev=x.ev++ [⟨x.now,kd,t,-1,c⟩] :=by rw [←hz]
  have e4:z.now=x.now:=by rw [←hz];rfl
  have e5:z.s=x.s:=by rw [←hz];rfl
  refine ⟨⟨?_,?_⟩,?_,?_⟩
  · rw [hlen,e1]
    have q:=h.q.q.back hc hI.ci om;rw [show (qg x.cs c).cur.toNat=t by omega] at q;exact q.ext (hI.ci.back hc) (fun j _=>cu j) (fun j _=>tt j)
  · rw [hlen,e2]
    exact((h.q.l.R4 (t:=t) (s:=1) (by decide) (h.q.Wm (by rw [h2];decide)) (fun q=>by cases q) y.lk).ext hI.PM (fun j _=>cu j) (fun j _=>uv j)).mono (fun j _ _ q=>q.1)
  · show PI z.ts z.lk z.s.gs.length z.s.ls
    rw [e2,e5,←hz];exact PI.set h.p t y hg
  · rw [e3,e4]
    refine hA.eqv ⟨hlen.symm,by show x.lk.length=z.lk.length;rw [e2],by show x.s.cr=z.s.cr;rw [e5],fun j _=>by show (gL x j).sh=(gL z j).sh;unfold gL;rw [e2],fun j _=>(cu j).symm,fun j _ q4=>?_,fun j _=>?_,fun j _ g=>by show g∈(gL x j).ho↔g∈(gL z j).ho;unfold gL;rw [e2]⟩
    · have q4:aT (dt x) t 1 j=4:=q4
      show aT (fh x) t (fh x t) j=fh z j
      rw [uv]
      by_cases q:t=j
      · rw [←q,bJ] at q4;cases q4
      · rw [bp _ _ q,bp _ _ q]
    · show aT (eR x) t (c:Int) j=eR z j
      rw [tt,←Fb];exact aU (eR x) t j
section
variable {w0:bU} {k:Nat} {x:aG} (hI:MI k x) (h:MT w0 x)
include hI h
theorem MT.NR {pr gr we co:Int} (hp:0≤pr∧pr<(x.s.ps.length:Int)) (hg:0≤gr∧gr<(x.s.gs.length:Int)) (hc:0≤co∧co<x.s.cr) (AH:x.ts.length<64):MT w0 (pL x pr gr we co):=by
  have ri:=hI.NR pr gr we co hp AH
  have Ux:∀j,gT (pL x pr gr we co) j=if x.ts.length=j then Dr x.ts.length pr gr we co else gT x j:=fun j=>by
    show (x.ts++ [_]).getD j default=_
    rw [List.getD_eq_getElem?_getD];rcases Nat.lt_trichotomy j x.ts.length with q|q|q
    · rw [List.getElem?_append_left q,if_neg om,←List.getD_eq_getElem?_getD]
    · rw [List.getElem?_append_right om,if_pos q.symm,q,Nat.sub_self];rfl
    · rw [if_neg om,List.getElem?_eq_none (by rw [List.length_append,List.length_singleton];omega)]
      unfold gT;rw [List.getD_eq_getElem?_getD,List.getElem?_eq_none om]
  have cu:∀j,dt (pL x pr gr we co) j=aT (dt x) x.ts.length 1 j:=fun j=>by show (gT _ j).st=_;rw [Ux];unfold aT;split<;>rfl
  have tt:∀j,eR (pL x pr gr we co) j=aT (eR x) x.ts.length co j:=fun j=>by show (gT _ j).co=_;rw [Ux];unfold aT;split<;>rfl
  have uv:∀j,j<x.ts.length→fh (pL x pr gr we co) j=fh x j:=fun j hj=>by show (gT _ j).lk=_;rw [Ux,if_neg om]
  have hlen:(pL x pr gr we co).ts.length=x.ts.length+1:=by show (x.ts++ [_]).length=_;rw [List.length_append];rfl
  have Mh:=ri.ci;rw [hlen] at Mh;have gI:∀l,l<x.lk.length→gY (kI x.ts.length) (qg x.lk l):=hI.PM;refine ⟨⟨?_,?_⟩,PI.snoc h.p _ hg rfl,?_⟩
  · rw [hlen];exact(h.q.q.new hI.ci (co0:=co) 0#64 we).ext Mh (fun j _=>cu j) (fun j _=>tt j)
  · rw [hlen]
    refine ⟨fun l hl y hy=>?_,fun t ht h4 _=>?_,fun l hl g hg=>?_⟩
    · have:=(gI l hl).wt y hy;unfold kI at this
      rw [cu,uv _ om,bp _ _ om];exact h.q.l.wt l hl y hy
    · rw [cu] at h4
      by_cases e:x.ts.length=t
      · rw [←e,bJ] at h4;cases h4
      · rw [bp _ _ e] at h4;rw [uv t om];exact h.q.l.s4 t om h4 (fun q=>q)
    · have:=(gI l hl).ho g hg;unfold kI at this
      rw [cu,bp _ _ om];exact h.q.l.h5 l hl g hg
  · have hA:=h.a.spawn (co:=co) (by exact AH) hc
    refine hA.eqv ⟨hlen.symm,rfl,rfl,fun _ _=>rfl,fun j _=>(cu j).symm,fun j hj q4=>?_,fun j _=>(tt j).symm,fun _ _ _=>Iff.rfl⟩;have q4:aT (dt x) x.ts.length 1 j=4:=q4;have hj:j<x.ts.length+1:=hj
    by_cases e:x.ts.length=j
    · rw [←e,bJ] at q4;cases q4
    · exact(uv j om).symm
theorem MT.eY {t c:Nat} (ht:t<x.ts.length) (hc:c<x.cs.length) (rW:(qg x.cs c).cur=(t:Int)) (h2:dt x t=2) {o:cZ} (ho:QF x.s o) (hp:OpQ x.s o):MT w0 (eY x t c o).1:=by
  have Fb:=MT.core hI h hc rW;have mL:bS x.cs t=c:=hI.ci.wf.at hc (by have q:=(hI.ci.wf.wf c hc).ix (show 0≤(qg x.cs c).cur by omega);rw [rW] at q;exact q);have Bg:bS x.cs t<x.cs.length:=by rw [mL];exact hc
  have hI':=hI.eY (t:=t) (c:=c) ht hc Bg ho;have nW:=hI.ll
  by_cases h1:o.k=1
  · rw [WM h1]
    have hq:=hI.cmp ht (ho.c h1);have qq:MT w0 (dH x t (FJ (gT x t) o.a)):=MT.up hI h ht rfl rfl rfl rfl;have js:MT w0 (AE x t o.a):=qq.lks (fun L=>jk L t) (fun L=>Mg L t) (fun L=>SI L t);have hl:t<(AE x t o.a).ts.length:=by rw [show (AE x t o.a).ts.length=x.ts.length from bA ..];exact ht
    show MT w0 (qw x t o.a)
    unfold qw;split
    · exact MT.inc (hI.AE ht (ho.c h1)) js hl
    · exact js
  by_cases sz:2≤o.k∧o.k≤5
  · rw [Cw sz];exact MT.tak hI h ht h2 ho hp sz
  by_cases h6:o.k=6
  · have hl:=ho.l om
    obtain ⟨l,gz⟩:∃l:Nat,o.a=(l:Nat):=⟨o.a.toNat,(Int.toNat_of_nonneg hl.1).symm⟩
    have iF:l<x.lk.length:=by omega
    have hL:=hI.li l iF;have e1:o.a.toNat=l:=by omega
    by_cases he:nF (gL x o.a.toNat) t≠0
    · rw [LY h6 he]
      have e7:nF (gL x o.a.toNat) t=7:=by
        unfold nF at he ⊢;split
        · next q=>rw [if_pos q] at he;exact absurd rfl he
        · rfl
      exact MT.inc (hI.kt ..) (MT.err h ht h2 (.inl ⟨hl.1,by omega⟩) (.inr (.inl e7))) ht
    · rw [Nf h6 he,e1,gz]
      have hh:bu (gL x l) t=true:=by
        rw [e1] at he;unfold nF at he;cases c:bu (gL x l) t with
        |true=>rfl
        |false=>rw [c] at he;exact absurd (by decide) he
      have hs:=db l (bt (bn x 5 t l 0) l (eQ (gL x l) t)) (eC (gL x l) t);have q8:=((hI.kt 5 t l 0).bt (l:=l) ((hL.BD t).mono (Nat.le_refl _) (Nat.le_succ k))).sX l (hL.i.eC t) (Nat.le_trans (nV ..) hL.w.w8);have cO:bt (bn x 5 t l 0) l (eQ (gL x l) t)=bn (bt x l (eQ (gL x l) t)) 5 t l 0:=rfl;rw [←cO];exact MT.inc q8 (MT.sX hI h l iF ht (hL.BD t) hh (pW.BD hh) h2) (by rw [hs.1];exact ht)
  by_cases h7:o.k=7
  · rw [Wl h7]
    rw [Wl h7] at hI';exact MT.out hI h ht h2 (y:= {gT x t with st:=3,un:=x.now+BitVec.ofInt 64 o.a,pc:=(gT x t).pc+1}) (ev:=x.ev++ [⟨x.now,9,t,-1,o.a⟩]) rfl hI' ⟨show (3:Int)≠2 by decide,show (3:Int)≠4 by decide,show (3:Int)≠5 by decide⟩ rfl rfl (h.a.sleep (t:=t) ht h2 (hp.s h7))
  by_cases h8:o.k=8
  · rw [Zj h8]
    have q:=hI.tb t ht;exact MT.bak hI h ht hc rW h2 (kd:=10) (.inr rfl) (y:= {gT x t with st:=1,pc:=(gT x t).pc+1}) rfl rfl rfl rfl ⟨q.pr,by have:=q.pc;show 0≤(gT x t).pc+1∧(gT x t).pc+1≤_;omega,q.lf,by have:=q.ti;show 0≤(gT x t).ti∧(gT x t).ti≤_;omega,fun e=>(by cases e),fun e=>absurd (hI.iq c hc t (by rw [←mL];exact dz Bg)) e⟩
  by_cases h9:o.k=9
  · rw [V0 h9]
    have h4:=hI.len
    split
    · next e=>
      unfold je at e;simp only [Bool.and_eq_true,decide_eq_true_eq] at e
      have hg:=h.p.gr t ht;have hce:=hI.ce;exact MT.inc (hI.NR _ _ _ _ (ho.p h9) e.2) (MT.NR hI h (ho.p h9) hg ⟨by omega,by omega⟩ e.2) (by show t<(x.ts++ [_]).length;rw [List.length_append];omega)
    · exact MT.inc (hI.kt ..) (MT.err h ht h2 (.inr ⟨rfl,rfl⟩) (.inl rfl)) ht
  by_cases gh:o.k=10
  · rw [JP gh]
    have hT:=MT.up hI h ht (y:= {gT x t with we:=o.a}) rfl rfl rfl rfl;have q:=hI.tb t ht;have hIu:=hI.up ht (y:= {gT x t with we:=o.a}) ⟨q.pr,q.pc,q.lf,q.ti,q.l4,q.un⟩;have V7:t<(dH x t {gT x t with we:=o.a}).ts.length:=by rw [bA];exact ht
    have h2u:dt (dH x t {gT x t with we:=o.a}) t=2:=by rw [gv ht];exact(bJ ..).trans h2
    have hA:=(hT.a.weight (t:=t) V7 h2u (hp.w gh)).eqv (u:=kz (dH x t {gT x t with we:=o.a})) ⟨rfl,rfl,rfl,fun _ _=>rfl,fun j _=>?_,fun j _ _=>aU _ _ _,fun j _=>aU _ _ _,fun _ _ _=>Iff.rfl⟩
    · exact MT.inc (hIu.kt 14 t (-1) o.a) ⟨hT.q.kt ..,hT.p,hA⟩ V7
    · show aT (dt (dH x t {gT x t with we:=o.a})) t 2 j=_
      rw [←h2u];exact aU (dt (dH x t {gT x t with we:=o.a})) t j
  · have hk:=ho.k
    rw [Je om];exact MT.die hI h ht (by rw [h2];decide)
end
def Eu (s:jy):bU:=⟨0#64,[],List.replicate s.ls.length 0#64,List.replicate s.ls.length 0#64,s.ls.map (·.sh),s.cr⟩
def oO (s:jy) (l:List dP):Nat:=if eu s=true then Oh (Eu s) l else 0
def g8 (s:jy) (l:List dP):Bool:=eu s&&decide (oO s l=l.length)
def wX (s:jy) (l:List dP):bU:=ue (Eu s) l l.length
def ur (p:jn→Bool) (ts:List jn) (k:Nat):BitVec 64:=(List.range k).foldl (fun a i=>if p (ts.getD i default)=true then bZ a (i:Nat) else a) 0#64
theorem jB (p:jn→Bool) (ts:List jn) (k:Nat):ur p ts (k+1)=if p (ts.getD k default)=true then bZ (ur p ts k) (k:Nat) else ur p ts k:=by unfold ur;rw [List.range_succ,List.foldl_append];rfl
def zP (s:jy) (l:List dP) (lock:Int):BitVec 64:=if g8 s l=true∧0≤lock∧lock<s.ls.length then qe (wX s l) lock.toNat|||ql (wX s l) lock.toNat else 0#64
def EH (s:jy) (l:List dP):BitVec 64:=if g8 s l=true then ur (fun t=>decide (t.how=2)) (wX s l).ts (wX s l).ts.length else 0#64
def Ds (s:jy) (l:List dP) (lock:Int):BitVec 64:=if g8 s l=true∧0≤lock∧lock<s.ls.length then ur (fun t=>decide (t.how=4)&&decide (t.lock=lock)) (wX s l).ts (wX s l).ts.length else 0#64
theorem YG {x:aG} {t:Nat} (ht:t<x.ts.length) (j:Nat):dt (kV x t) j=dt x j∧eR (kV x t) j=eR x j∧fh (kV x t) j=fh x j:=by
  unfold kV;split
  · exact⟨(gv ht _ j).trans (aU _ _ _),(j0 ht _ j).trans (aU _ _ _),(jX ht _ j).trans (aU _ _ _)⟩
  · exact⟨rfl,rfl,rfl⟩
theorem MT.pcr {w0:bU} {k:Nat} {x:aG} (hI:MI k x) (h:MT w0 x) {t:Nat} (ht:t<x.ts.length):MT w0 (Go.Eng.kV x t):=by
  unfold Go.Eng.kV;split
  · exact MT.up hI h ht rfl rfl rfl rfl
  · exact h
theorem H9 {k:Nat} {x:aG} (h:MI k x) {t c:Nat} (ht:t<x.ts.length) {o:cZ} (ho:QF x.s o) (hf:(eY x t c o).2=false):dt (eY x t c o).1 t=dt x t∧eR (eY x t c o).1 t=eR x t:=by
  have hk:=ho.k
  have hp:¬(o.k=1∨o.k=7∨o.k=8∨o.k=11):=fun q=>by
    rcases q with e|e|e|e
    · rw [WM e] at hf;cases hf
    · rw [Wl e] at hf;cases hf
    · rw [Zj e] at hf;cases hf
    · rw [Je e] at hf;cases hf
  have inc:∀v:aG,t<v.ts.length→gT v t=gT x t→dt (bO v t) t=dt x t∧eR (bO v t) t=eR x t:=fun v hv e=>by
    have q:=FA hv t;exact⟨q.1.trans (by show (gT v t).st=_;rw [e]),q.2.1.trans (by show (gT v t).co=_;rw [e])⟩
  by_cases sz:2≤o.k∧o.k≤5
  · have hl:=ho.l ⟨sz.1,by omega⟩
    obtain ⟨l,gz⟩:∃l:Nat,o.a=(l:Nat):=⟨o.a.toNat,(Int.toNat_of_nonneg hl.1).symm⟩
    rw [Cw sz] at hf ⊢
    by_cases he:dx (gL x l) t (tq x t l o)=0
    · rw [IZ gz he];exact inc _ ht rfl
    · by_cases h2:nE x t o≠0
      · rw [LS gz he h2];exact inc _ ht rfl
      · rw [HF gz he h2] at hf;cases hf
  by_cases h6:o.k=6
  · have hl:=ho.l om
    by_cases he:nF (gL x o.a.toNat) t≠0
    · rw [LY h6 he];exact inc _ ht rfl
    · have hL:=h.li o.a.toNat (by have:=h.ll;omega)
      have fi:∀u∈eC (gL x o.a.toNat) t,u.toNat≠t:=fun u hu q=>by
        have h1:=FG hL.w.top8 hu;have h2:=hL.i.eC t u hu
        unfold kI at h2;omega
      have hg:=wh o.a.toNat (eC (gL x o.a.toNat) t) (bn (bt x o.a.toNat (eQ (gL x o.a.toNat) t)) 5 t o.a 0) fi;have hs:=db o.a.toNat (bn (bt x o.a.toNat (eQ (gL x o.a.toNat) t)) 5 t o.a 0) (eC (gL x o.a.toNat) t);rw [Nf h6 he];exact inc _ (by rw [hs.1];exact ht) hg
  by_cases h9:o.k=9
  · rw [V0 h9]
    show dt (bO _ t) t=_∧eR (bO _ t) t=_
    split
    · exact inc _ (by show _<(x.ts++ [_]).length;rw [List.length_append];omega) (by
        show (x.ts++ [_]).getD t default=_
        rw [List.getD_eq_getElem?_getD,List.getElem?_append_left ht,←List.getD_eq_getElem?_getD])
    · exact inc _ ht rfl
  have gh:o.k=10:=by omega
  rw [JP gh];have V7:t<(dH x t {gT x t with we:=o.a}).ts.length:=by rw [bA];exact ht
  have q:=FA (x:=bn (dH x t {gT x t with we:=o.a}) 14 t (-1) o.a) V7 t;exact⟨q.1.trans ((gv ht _ t).trans (bJ ..)),q.2.1.trans ((j0 ht _ t).trans (bJ ..))⟩
section
variable {w0:bU} {k:Nat} {x:aG} (hI:MI k x) (h:MT w0 x) {t c:Nat} (ht:t<x.ts.length) (hc:c<x.cs.length) (rW:(qg x.cs c).cur=(t:Int)) (h2:dt x t=2)
include hI h ht hc rW h2
theorem MT.WL:MT w0 (fy x t c).1∧((fy x t c).2=false→dt (fy x t c).1 t=2∧eR (fy x t c).1 t=(c:Int)):=by
  by_cases hd:((kT x t).xs.length:Int)≤(gT x t).pc∧(kT x t).fv=false
  · rw [uU hd.1 hd.2];exact⟨MT.die hI h ht (by rw [h2];decide),fun q=>by cases q⟩
  have e:fy x t c=Go.Eng.eY (Go.Eng.kV x t) t c ((kT x t).xs.getD (gT (Go.Eng.kV x t) t).pc.toNat default):=if_neg hd;have HK:=Gg hI ht;have xZ:=hI.op ht HK.1;have af5:=Uy hI.ms (p:=kT x t) (List.mem_of_getElem? (aO default (show (gT x t).pr.toNat<x.s.ps.length by have:=(hI.tb t ht).pr;omega))) HK.1;have hs:=Ap (x:=x) (t:=t);have hF:=YG ht t;have htp:t<(Go.Eng.kV x t).ts.length:=by rw [hs.1];exact ht
  have XA:QF (Go.Eng.kV x t).s ((kT x t).xs.getD (gT (Go.Eng.kV x t) t).pc.toNat default):=by rw [hs.2.2.1];exact xZ
  rw [e];refine ⟨MT.eY (hI.kV ht) (MT.pcr hI h ht) htp (by rw [hs.2.2.2.2.2.2];exact hc) (by rw [hs.2.2.2.2.2.2];exact rW) (hF.1.trans h2) XA (by rw [hs.2.2.1];exact af5),fun q=>?_⟩;have q2:=H9 (hI.kV ht) htp XA q;exact⟨q2.1.trans (hF.1.trans h2),q2.2.trans (hF.2.1.trans (MT.core hI h hc rW))⟩
end
theorem MT.cur {w0:bU} {k:Nat} {x:aG} (hI:MI k x) (h:MT w0 x) {t c:Nat} (ht:t<x.ts.length) (h2:dt x t=2) (tt:eR x t=(c:Int)):(qg x.cs c).cur=(t:Int):=by
  obtain ⟨d,hd,e⟩:=h.q.q.run t ht h2;have:=MT.core hI h hd e;rw [show c=d by omega];exact e
theorem MT.run {w0:bU} {t c:Nat} :∀{f k:Nat} {x:aG},MI k x→MT w0 x→t<x.ts.length→c<x.cs.length→(qg x.cs c).cur=(t:Int)→dt x t=2→MT w0 (pK t c f x)
  |0,k,x,_,h,_,_,_,_=>h
  |f+1,k,x,hI,h,ht,hc,rW,h2=>by
    have mL:bS x.cs t<x.cs.length:=by
      have:=hI.ci.wf.at (a:=(t:Int)) hc (by have q:=(hI.ci.wf.wf c hc).ix (show 0≤(qg x.cs c).cur by omega);rw [rW] at q;exact q);omega
    obtain ⟨q1,q2⟩:=MT.WL hI h ht hc rW h2
    unfold pK
    split
    · exact q1
    · next e=>
      have e:(fy x t c).2=false:=by simpa using e
      obtain ⟨e1,e2,e3,e4⟩:=sI hI ht mL (c:=c) e;obtain ⟨r1,r2⟩:=q2 e;have q8:=hI.WL ht hc mL;have Aq:c<(fy x t c).1.cs.length:=by have a1:=q8.ce;have a2:=hI.ce;rw [e4] at a1;omega
      exact MT.run q8 q1 e2 Aq (MT.cur q8 q1 e2 r1 r2) r1
/-! a tick -/
theorem AV.now {w0:bU} {ev:List dP} {now aaB:BitVec 64} {v:Vw} (h:AV w0 ev now v) (hn:now.toNat≤aaB.toNat):AV w0 ev aaB v:=by
  obtain ⟨w,h1,h2,h3⟩:=h;exact⟨w,h1,Nat.le_trans h2 hn,h3⟩
section
variable {w0:bU} {k:Nat} {x:aG} (hI:MI k x) (h:MT w0 x) {c:Nat} (hc:c<x.cs.length)
include hI h hc
theorem MT.xE:MT w0 (xE x c):=by
  unfold Go.Eng.xE;split
  · next e=>
    obtain ⟨h1,h2,h3⟩:=hI.cur hc (u9 e)
    generalize (qg x.cs c).cur.toNat=t at*
    have q:=hI.tb t h2
    have hs:dt x t=2:=by
      have:=h.q.q.cur c hc (u9 e);rw [←h3,Int.toNat_natCast] at this;exact this
    have hu:(gT x t).un=0#64:=by
      have:=hI.iq c hc _ h1;rw [←h3,Int.toNat_natCast] at this;exact this
    have r:=MT.bak hI h h2 hc h3.symm hs (kd:=3) (.inl rfl) (y:= {gT x t with st:=1}) rfl rfl rfl rfl ⟨q.pr,by have:=q.pc;show 0≤(gT x t).pc∧(gT x t).pc≤_;omega,q.lf,by have:=q.ti;show 0≤(gT x t).ti∧(gT x t).ti≤_;omega,fun e=>(by cases e),fun e=>absurd hu e⟩;rw [←h3];exact r
  · exact h
theorem MT.xe:MT w0 (xe x c):=by
  have ri:=hI.xe hc
  unfold Go.Eng.xe at ri ⊢;split
  · next e=>
    rw [if_pos e] at ri;obtain ⟨h0,h1,h2⟩:=zd (hI.ci.wf.wf c hc) e.1 e.2;have hid:=hI.ci.id c hc _ h1;obtain ⟨t,Lf⟩:∃t:Nat,gg (qg x.cs c)=(t:Int):=⟨(gg (qg x.cs c)).toNat,by omega⟩
    rw [h2] at ri ⊢;rw [Lf] at h1 hid ri ⊢;rw [Int.toNat_natCast] at ri ⊢;have ht:t<x.ts.length:=by omega
    obtain ⟨g1,g2⟩:=h.q.q.has c hc _ h1;rw [Int.toNat_natCast] at g1 g2
    have hn:∀j,j<x.ts.length→dt x j=2→eR x j≠eR x t:=fun j hj hs q=>by
      have:=MT.cur hI h hj hs (q.trans g1);omega
    have hs:dt x t=1:=g2.resolve_right (fun q=>hn t ht q rfl);have hA:=h.a.af4 (t:=t) ht hs hn;rw [show (kz x).co t=(c:Int) from g1] at hA
    generalize hz:bn (dH (iK x c (ns (qg x.cs c) t)) t {gT x t with st:=2}) 2 t (-1) c=z at*
    have hlen:z.ts.length=x.ts.length:=by rw [←hz];exact bA ..
    have cu:∀j,dt z j=aT (dt x) t 2 j:=fun j=>by rw [←hz];exact gv (x:=iK x c (ns (qg x.cs c) t)) ht {gT x t with st:=2} j
    have tt:∀j,eR z j=eR x j:=fun j=>by rw [←hz];exact(j0 (x:=iK x c (ns (qg x.cs c) t)) ht {gT x t with st:=2} j).trans (aU (eR x) t j)
    have uv:∀j,fh z j=fh x j:=fun j=>by rw [←hz];exact(jX (x:=iK x c (ns (qg x.cs c) t)) ht {gT x t with st:=2} j).trans (aU (fh x) t j)
    have e1:z.cs=x.cs.set c (ns (qg x.cs c) t):=by rw [←hz];rfl
    have e2:z.lk=x.lk:=by rw [←hz];rfl
    have e3:z.ev=x.ev++ [⟨x.now,2,t,-1,c⟩] :=by rw [←hz];rfl
    have e4:z.now=x.now:=by rw [←hz];rfl
    have e5:z.s=x.s:=by rw [←hz];rfl
    have Mh:=ri.ci;rw [hlen,e1] at Mh;have hi:=ri.PM;rw [hlen,e2] at hi;refine ⟨⟨?_,?_⟩,?_,?_⟩
    · rw [hlen,e1]
      have q:=h.q.q.pik hc hI.ci e.1 h1 om;rw [Int.toNat_natCast] at q;exact q.ext Mh (fun j _=>cu j) (fun j _=>tt j)
    · rw [hlen,e2]
      exact((h.q.l.R4 (t:=t) (s:=2) (by decide) (h.q.Wm (by rw [hs];decide)) (fun q=>by cases q) (fh x t)).ext hi (fun j _=>cu j) (fun j _=>(uv j).trans (aU (fh x) t j).symm)).mono (fun j _ _ q=>q.1)
    · show PI z.ts z.lk z.s.gs.length z.s.ls
      rw [e2,e5,←hz];exact PI.set h.p t _ rfl
    · rw [e3,e4]
      refine hA.eqv ⟨hlen.symm,by show x.lk.length=z.lk.length;rw [e2],by show x.s.cr=z.s.cr;rw [e5],fun j _=>by show (gL x j).sh=(gL z j).sh;unfold gL;rw [e2],fun j _=>(cu j).symm,fun j _ _=>(aU (fh x) t j).trans (uv j).symm,fun j _=>?_,fun j _ g=>by show g∈(gL x j).ho↔g∈(gL z j).ho;unfold gL;rw [e2]⟩
      show aT (eR x) t (c:Int) j=eR z j
      rw [tt,←g1];exact aU (eR x) t j
  · exact h
theorem MT.uS:MT w0 (uS x c):=by
  unfold Go.Eng.uS;split
  · exact⟨⟨h.q.q,h.q.l⟩,h.p,h.a⟩
  · next e=>
    have h0:0≤(qg x.cs c).cur:=by omega
    obtain ⟨h1,h2,h3⟩:=hI.cur hc h0;obtain ⟨hU1,Zl,hU3⟩:=hI.Di hc h0
    have hid:(fF (qg x.cs c)).l.map (·.id)=(qg x.cs c).l.map (·.id):=by
      unfold fF;rw [if_pos h0];exact iu h1 (ju h1).1
    have rW:(fF (qg x.cs c)).cur=(qg x.cs c).cur:=by unfold fF;rw [if_pos h0]
    have hs:dt x (qg x.cs c).cur.toNat=2:=h.q.q.cur c hc h0;have hT1:MT w0 (iK x c (fF (qg x.cs c))):=⟨⟨Lq hc hid rW h.q.q,h.q.l⟩,h.p,h.a⟩
    have pC:MI (k+1) (iK x c (fF (qg x.cs c))):=(hI.mono (Nat.le_succ k)).FT (hI.ci.tick hc) (List.length_set ..) (fun d hd b hb=> .inl ⟨d,hd,jQ hc hid hb⟩);have hT2:MT w0 (Di x c):=MT.up pC hT1 (t:=(qg x.cs c).cur.toNat) h2 rfl rfl rfl rfl;have jg:c<(Di x c).cs.length:=by show c<(x.cs.set _ _).length;rw [List.length_set];exact hc
    exact MT.run hU1 hT2 Zl jg (by show (qg (x.cs.set c _) c).cur=_;rw [bN hc,if_pos rfl,rW];exact h3.symm) ((gv (x:=iK x c (fF (qg x.cs c))) h2 _ _).trans ((bJ ..).trans hs))
end
theorem MT.XC {w0:bU} {k:Nat} {x:aG} (hI:MI k x) (h:MT w0 x) {c:Nat} (hc:c<x.cs.length) (hn:x.now.toNat<18446744073709551615):MT w0 (um x c):=by
  have NS:MI k {x with now:=x.now+1#64} := {hI with}
  have h0:MT w0 {x with now:=x.now+1#64} :=⟨⟨h.q.q,h.q.l⟩,h.p,AV.now (show AV w0 x.ev x.now (kz x) from h.a) (by show x.now.toNat≤(x.now+1#64).toNat;rw [BitVec.toNat_add];show _≤(x.now.toNat+1) % _;omega)⟩
  have hl:∀y:aG,∀j,MI j y→y.s=x.s→c<y.cs.length:=fun y j hy e=>by have h1:=hy.ce;have h2:=hI.ce;rw [e] at h1;omega
  have pC:=NS.xE hc;have Ws:=hl _ _ pC (yG ..);have q8:=pC.xe (c:=c) Ws;have Aq:=hl _ _ q8 ((Fu ..).trans (yG ..));have SD:=q8.uS (c:=c) Aq;exact MT.Ml SD (MT.uS q8 (MT.xe pC (MT.xE NS h0 hc) Ws) Aq)
theorem Qs (x:aG) (c:Nat):(xE x c).now=x.now:=by unfold xE;split<;>rfl
theorem On (x:aG) (c:Nat):(xe x c).now=x.now:=by unfold xe;split<;>rfl
theorem GM (t c:Nat):∀(f:Nat) (x:aG),(pK t c f x).now=x.now
  |0,x=>rfl
  |f+1,x=>by unfold pK;split;exact uG x t c;exact(GM t c f _).trans (uG x t c)
theorem Pv (x:aG) (c:Nat):(uS x c).now=x.now:=by
  unfold uS;split
  · rfl
  · exact GM ..
theorem PN (x:aG) (c:Nat):(um x c).now=x.now+1#64:=((jF _).2.2.2.1).trans ((Pv ..).trans ((On ..).trans (Qs ..)))
theorem B8 {x:aG} {c:Nat} (hn:x.now.toNat<18446744073709551615):(um x c).now.toNat=x.now.toNat+1:=by
  rw [PN,BitVec.toNat_add];show (x.now.toNat+1) % _=_;omega
theorem MT.R5 {w0:bU} {k:Nat} {x:aG} (hI:MI k x) (h:MT w0 x) (hn:x.now.toNat≤1048576):∀{n:Nat},n≤x.s.cr.toNat→MT w0 (xU x n)∧(xU x n).now.toNat=x.now.toNat+n
  |0,_=>⟨h,rfl⟩
  |n+1,hle=>by
    obtain ⟨h1,h2⟩:=MT.R5 hI h hn (n:=n) om;have pC:=hI.R5 (n:=n) om;have h4:=hI.len;rw [r9];exact⟨MT.XC pC h1 (by rw [pC.len.1,AO];omega) om,by rw [B8 om];omega⟩
theorem MT.yh {w0:bU} :∀{l:List Nat} {k:Nat} {x:aG},MI k x→MT w0 x→(∀t∈l,t<x.ts.length)→MT w0 (yh x l)
  | [],k,x,_,h,_=>h
  |t::l,k,x,hI,h,ht=>MT.yh (l:=l) (hI.pG (ht t (List.mem_cons_self ..))) (MT.pG hI h (ht t (List.mem_cons_self ..))) (fun u hu=>by rw [(vr x t).1];exact ht u (List.mem_cons_of_mem _ hu))
theorem MT.Zx {w0:bU} {k:Nat} {x:aG} (hI:MI k x) (h:MT w0 x):MT w0 (wc x):=
  MT.Ml (hI.yh (l:=oz x) (fun t ht=>jm x _ t ht)) (MT.yh hI h (fun t ht=>jm x _ t ht))
theorem GA (x:aG):(wc x).now=x.now:=((jF _).2.2.2.1).trans (rD ..).2.2.2
theorem MT.rou {w0:bU} {k:Nat} {x:aG} (hI:MI k x) (h:MT w0 x) (hn:x.now.toNat≤1048576):MT w0 (BL x)∧(BL x).now.toNat=x.now.toNat+x.s.cr.toNat:=by
  obtain ⟨h1,h2⟩:=MT.R5 hI h hn (Nat.le_refl _);exact⟨MT.Zx (hI.R5 (Nat.le_refl _)) h1,by rw [show (BL x).now=(xU x x.s.cr.toNat).now from GA _];exact h2⟩
theorem MT.BO {w0:bU} {k:Nat} {x:aG} (hI:MI k x) (h:MT w0 x):∀{n:Nat},x.now.toNat+n*x.s.cr.toNat≤1048576→MT w0 (xK x n)∧(xK x n).now.toNat=x.now.toNat+n*x.s.cr.toNat
  |0,_=>⟨h,by rw [Nat.zero_mul];rfl⟩
  |n+1,hn=>by
    rw [Nat.succ_mul] at hn ⊢;obtain ⟨h1,h2⟩:=MT.BO hI h (n:=n) om;obtain ⟨h3,h4⟩:=MT.rou (hI.BO n) h1 om;exact⟨h3,by rw [show xK x (n+1)=BL (xK x n) from rfl,h4,Ep];omega⟩
/-! deeds -/
theorem MT.mig {w0:bU} {k k':Nat} {x:aG} (hI:MI k x) (h:MT w0 x) {a:Int} {to:Nat} (ha:bS x.cs a<x.cs.length) (ht:to<x.cs.length) (fi:to≠bS x.cs a) (rW:(qg x.cs (bS x.cs a)).cur≠a) (S9:MI k' {x with cs:=gH x.cs a to}):MT w0 (sQ {x with cs:=gH x.cs a to} a.toNat to):=by
  obtain ⟨g0,g1⟩:=hI.ids ha;obtain ⟨t,Lf⟩:∃t:Nat,a=(t:Int):=⟨a.toNat,by omega⟩
  have yp:t<x.ts.length:=by omega
  obtain ⟨q1,q2⟩:=h.q.q.has _ ha _ (dz ha);have e0:a.toNat=t:=by omega
  rw [e0] at q1 q2 ⊢;have hs:dt x t=1:=q2.resolve_right (fun q=>rW (by rw [Lf] at q1 ⊢;exact MT.cur hI h yp q q1));have hce:=hI.ce;have hA:=h.a.ac1 (t:=t) yp hs (n:=(to:Int)) (by rw [show (kz x).co t=_ from q1];omega) ⟨by omega,by show (to:Int)<x.s.cr;omega⟩;have Xq:=h.q.q.car hI.ci ha ht fi rW;rw [e0] at Xq
  unfold sQ
  have qb:=S9.tb t yp;have ri:=(S9.up (t:=t) yp (y:= {gT ({x with cs:=gH x.cs a to} :aG) t with co:=(to:Int)}) ⟨qb.pr,qb.pc,qb.lf,qb.ti,qb.l4,qb.un⟩).kt 13 t (-1) to;refine MT.Ml ri ?_
  generalize hz:bn (dH {x with cs:=gH x.cs a to} t {gT ({x with cs:=gH x.cs a to} :aG) t with co:=(to:Int)}) 13 t (-1) to=z at*
  have hlen:z.ts.length=x.ts.length:=by rw [←hz];exact bA ..
  have cu:∀j,dt z j=dt x j:=fun j=>by rw [←hz];exact(gv (x:= {x with cs:=gH x.cs a to}) yp _ j).trans (aU (dt x) t j)
  have tt:∀j,eR z j=aT (eR x) t to j:=fun j=>by rw [←hz];exact j0 (x:= {x with cs:=gH x.cs a to}) yp _ j
  have uv:∀j,fh z j=fh x j:=fun j=>by rw [←hz];exact(jX (x:= {x with cs:=gH x.cs a to}) yp _ j).trans (aU (fh x) t j)
  have e1:z.cs=gH x.cs a to:=by rw [←hz];rfl
  have e2:z.lk=x.lk:=by rw [←hz];rfl
  have e3:z.ev=x.ev++ [⟨x.now,13,t,-1,to⟩] :=by rw [←hz];rfl
  have e4:z.now=x.now:=by rw [←hz];rfl
  have e5:z.s=x.s:=by rw [←hz];rfl
  have Mh:=ri.ci;rw [hlen,e1] at Mh;have hi:=ri.PM;rw [hlen,e2] at hi;refine ⟨⟨?_,?_⟩,?_,?_⟩
  · rw [hlen,e1];exact Xq.ext Mh (fun j _=>cu j) (fun j _=>tt j)
  · rw [hlen,e2];exact h.q.l.ext hi (fun j _=>cu j) (fun j _=>uv j)
  · show PI z.ts z.lk z.s.gs.length z.s.ls
    rw [e2,e5,←hz];exact PI.set h.p t _ rfl
  · rw [e3,e4]
    exact hA.eqv ⟨hlen.symm,by show x.lk.length=z.lk.length;rw [e2],by show x.s.cr=z.s.cr;rw [e5],fun j _=>by show (gL x j).sh=(gL z j).sh;unfold gL;rw [e2],fun j _=>(by rw [←hs];exact aU (dt x) t j:aT (dt x) t 1 j=dt x j).trans (cu j).symm,fun j _ _=>(aU (fh x) t j).trans (uv j).symm,fun j _=>(tt j).symm,fun j _ g=>by show g∈(gL x j).ho↔g∈(gL z j).ho;unfold gL;rw [e2]⟩
theorem MT.agb {w0:bU} {k:Nat} {x:aG} (hI:MI k x) (h:MT w0 x) {a co:Int} (he:fc x.cs co a=0):MT w0 (sQ {x with cs:=jW x.cs co a} a.toNat co):=by
  obtain ⟨h1,h2,h3,h4,h5⟩:=Fo he
  have rW:(qg x.cs (bS x.cs a)).cur≠a:=fun q=>by
    unfold fc at he
    rw [if_neg om,if_neg om,if_neg om,if_pos q] at he;cases he
  have hX:jW x.cs co a=gH x.cs a co.toNat:=if_pos he;have S9:=hI.mov co a;rw [hX] at S9 ⊢;have:=MT.mig hI h h1 h2 h4 rW S9;rw [h5] at this;exact this
theorem MT.adS {w0:bU} {k:Nat} {x:aG} (hI:MI k x) (h:MT w0 x) (hb:¬ja x.cs<0):MT w0 (sQ {x with cs:=jY x.cs} (ja x.cs).toNat (uw x.cs)):=by
  have hIb:=hI.XZ
  have key:∀t,w5 x.cs=some t→MT w0 (sQ {x with cs:=gH x.cs t.id (le x.cs)} t.id.toNat (le x.cs:Nat)):=fun t e=>by
    obtain ⟨h1,h2,h3,h4,h5,h6,h7⟩:=lg hI.ci.wf e;have hX:jY x.cs=gH x.cs t.id (le x.cs):=by unfold jY;rw [e]
    rw [hX] at hIb;exact MT.mig hI h (by rw [h4];exact h5) h6 h7 (by rw [h4];exact fun q=>h2 q.symm) hIb
  cases e:w5 x.cs with
  |none=>exact absurd (by unfold ja;rw [e];decide) hb
  |some t=>
    have:=key t e;rw [show jY x.cs=gH x.cs t.id (le x.cs) by unfold jY;rw [e],show ja x.cs=t.id by unfold ja;rw [e],show uw x.cs=(le x.cs:Nat) by unfold uw;rw [e]];exact this
theorem Hw {x:aG} {a:Int} (hc:1≤x.s.cr∧x.s.cr≤4) (g1:¬(a<0∨200<a)) (g2:¬1048576<(x.now+BitVec.ofInt 64 (a*x.s.cr)).toNat) (hn:x.now.toNat≤1048576):x.now.toNat+a.toNat*x.s.cr.toNat≤1048576:=by
  obtain ⟨n,IJ⟩:∃n:Nat,a=(n:Int):=⟨a.toNat,by omega⟩
  obtain ⟨c,hcc⟩:∃c:Nat,x.s.cr=(c:Int):=⟨x.s.cr.toNat,by omega⟩
  rw [IJ,hcc] at g2 ⊢;rw [Int.toNat_natCast,Int.toNat_natCast];have hb:n*c≤800:=Nat.le_trans (Nat.mul_le_mul (show n≤200 by omega) (show c≤4 by omega)) (by decide);rw [←Int.natCast_mul,BitVec.ofInt_natCast,BitVec.toNat_add,BitVec.toNat_ofNat] at g2
  generalize n*c=m at*
  have e1:m % 2 ^ 64=m:=Nat.mod_eq_of_lt (Nat.lt_of_le_of_lt hb (by decide));rw [e1] at g2;have e2:(x.now.toNat+m) % 2 ^ 64=x.now.toNat+m:=Nat.mod_eq_of_lt (Nat.lt_of_le_of_lt (Nat.add_le_add hn hb) (by decide));rw [e2] at g2;omega
theorem Kp {s:jy} {d:NJ} (h:eu s=true) (hs:(nY d s.gs).sh=false):s.gs.length≤(nY d s.gs).ld.l.length:=by
  show _≤(lC (td d s.gs) _ _).l.length
  have hs:d.sh=false:=hs;have hg:=Gb h;rw [lG];unfold td;rw [hs,if_neg (by decide)];unfold RM;rw [if_neg (by rw [List.length_take];omega),List.length_take];omega
structure MW (w0:bU) (k:Nat) (x:aG):Prop where
  i:MI k x
  t:MT w0 x
  n:x.now.toNat≤1048576
theorem BQ (n l:Nat):(List.replicate n 0#64).getD l 0#64=0#64:=by
  rw [List.getD_eq_getElem?_getD,List.getElem?_replicate];split<;>rfl
theorem MW.new {s:jy} (h:eu s=true):MW (Eu s) 0 (fH s):=by
  have hI:=MI.new h;have iF:(fH s).lk.length=s.ls.length:=hI.ll
  have nW:∀l,l<s.ls.length→gL (fH s) l=nY ⟨(s.ls.getD l default).sh,(s.ls.getD l default).sl,(s.ls.getD l default).cr,(s.ls.getD l default).rd,(s.ls.getD l default).wr⟩ s.gs:=fun l hl=>by
    show (s.ls.map _).getD l default=_
    rw [List.getD_eq_getElem?_getD,List.getElem?_map,List.getElem?_eq_getElem hl,List.getD_eq_getElem?_getD,List.getElem?_eq_getElem hl];rfl
  have jg:∀c,c<(fH s).cs.length→qg (fH s).cs c=vA s.gr:=fun c hc=>by
    have Aq:c<(aF s.cr 1 4).toNat:=by rw [←eN s.cr s.gr];exact hc
    exact s8 Aq
  refine ⟨hI,⟨⟨⟨fun c hc a ha=>?_,fun c hc h0=>?_,fun t ht _=>absurd ht (Nat.not_lt_zero t)⟩,⟨fun l hl y hy=>?_,fun t ht _ _=>absurd ht (Nat.not_lt_zero t),fun l hl g hg=>?_⟩⟩,⟨fun t ht=>absurd ht (Nat.not_lt_zero t),fun l hl hs=>?_,fun l hl=>?_,fun t ht=>absurd ht (Nat.not_lt_zero t)⟩,?_⟩,by show (0#64).toNat≤_;decide⟩
  · rw [jg c hc] at ha;exact absurd ha (uX _ _)
  · rw [jg c hc] at h0;exact absurd h0 (by show¬(0:Int)≤-1;decide)
  · rw [iF] at hl;rw [show qg (fH s).lk l=gL (fH s) l from rfl,nW l hl] at hy;cases hy
  · rw [iF] at hl;rw [show qg (fH s).lk l=gL (fH s) l from rfl,nW l hl] at hg;cases hg
  · rw [iF] at hl
    show s.gs.length≤(gL (fH s) l).ld.l.length
    have hs:(gL (fH s) l).sh=false:=hs;rw [nW l hl] at hs ⊢;exact Kp h hs
  · rw [iF] at hl
    show (gL (fH s) l).sh=_
    rw [nW l hl];rfl
  · refine ⟨Eu s,.nil,Nat.le_refl _,rfl,Nat.zero_le _,fun t ht=>absurd ht (Nat.not_lt_zero t),fun t ht=>absurd ht (Nat.not_lt_zero t),fun t ht _=>absurd ht (Nat.not_lt_zero t),?_,?_,?_,fun l hl=>?_,rfl,fun l hl g hg=>?_,fun l hl q=>?_,fun l hl q=>?_⟩
    · show (s.ls.map _).length=(fH s).lk.length;rw [List.length_map,iF]
    · show (List.replicate _ _).length=(fH s).lk.length;rw [List.length_replicate,iF]
    · show (List.replicate _ _).length=(fH s).lk.length;rw [List.length_replicate,iF]
    · have kN:l<s.ls.length:=by rw [←iF];exact hl
      show (s.ls.map (·.sh)).getD l false=(gL (fH s) l).sh
      rw [nW l kN,List.getD_eq_getElem?_getD,List.getElem?_map,List.getElem?_eq_getElem kN,List.getD_eq_getElem?_getD,List.getElem?_eq_getElem kN];rfl
    · have kN:l<s.ls.length:=by rw [←iF];exact hl
      rw [show (kz (fH s)).hs l=(gL (fH s) l).ho from rfl,nW l kN] at hg;cases hg
    · have kN:l<s.ls.length:=by rw [←iF];exact hl
      rw [show (kz (fH s)).hs l=(gL (fH s) l).ho from rfl,nW l kN,show qe (Eu s) l=0#64 from BQ _ _,dd];exact⟨fun q=>(by cases q),fun ⟨g,hg,_⟩=>(by cases hg)⟩
    · have kN:l<s.ls.length:=by rw [←iF];exact hl
      rw [show (kz (fH s)).hs l=(gL (fH s) l).ho from rfl,nW l kN,show ql (Eu s) l=0#64 from BQ _ _,dd];exact⟨fun q=>(by cases q),fun ⟨g,hg,_⟩=>(by cases hg)⟩
theorem MW.mdo {w0:bU} {k:Nat} {x:aG} (h:MW w0 k x) (a:Act):MW w0 (k+30000000) (j7 x a):=by
  have hI:=h.i;have hT:=h.t;have hn:=h.n;refine ⟨hI.mdo a,?_,?_⟩<;>clear h
  all_goals
    by_cases he:dA x a≠0
    · rw [eU he];assumption
    have he:dA x a=0:=Classical.byContradiction he;have hv:¬50000≤x.ev.length:=fun q=>by unfold dA at he;rw [if_pos q] at he;cases he
    by_cases e1:a.k=1
    · rw [Yt hv e1] at he
      have g1:¬(a.a<0∨x.s.cr≤a.a):=fun q=>by rw [if_pos q] at he;cases he
      rw [if_neg g1] at he;have g2:¬1048576≤x.now.toNat:=fun q=>by rw [if_pos q] at he;cases he
      rw [if_neg g2] at he;rw [dx1 (by rw [Yt hv e1,if_neg g1,if_neg g2]) e1]
      first
      |exact MT.XC hI hT (by have:=hI.ce;omega) om
      |(rw [B8 om];omega)
    by_cases e2:a.k=2
    · rw [dx2 he e2]
      first
      |exact MT.Zx hI hT
      |(rw [GA];exact hn)
    by_cases e3:a.k=3
    · rw [dx3 he e3]
      rw [do3 hv e3] at he;have g1:¬ja x.cs<0:=fun q=>by rw [if_pos q] at he;cases he
      first
      |exact MT.adS hI hT g1
      |(rw [show (sQ {x with cs:=jY x.cs} (ja x.cs).toNat (uw x.cs)).now=x.now from (jF _).2.2.2.1];exact hn)
    by_cases e4:a.k=4
    · rw [dx4 he e4]
      rw [do4 hv e4] at he;have g1:¬(a.a<0∨(x.s.ps.length:Int)≤a.a∨a.b<0∨(x.gp.length:Int)≤a.b∨a.c<1∨16<a.c∨a.d<0∨x.s.cr≤a.d):=fun q=>by rw [if_pos q] at he;cases he
      rw [if_neg g1] at he
      have g2:je x=true:=by
        cases q:je x with
        |true=>rfl
        |false=>rw [q] at he;cases he
      unfold je at g2;simp only [Bool.and_eq_true,decide_eq_true_eq] at g2
      have xR:=hI.gn
      first
      |exact MT.Ml (hI.NR _ _ _ _ om g2.2) (MT.NR hI hT om om om g2.2)
      |(rw [show (kh (pL x a.a a.b a.c a.d)).now=x.now from (jF _).2.2.2.1];exact hn)
    by_cases e5:a.k=5
    · rw [dx5 he e5]
      rw [do5 hv e5] at he;have g1:¬(a.a<0∨(x.ts.length:Int)≤a.a):=fun q=>by rw [if_pos q] at he;cases he
      rw [if_neg g1] at he;have g2:¬(gT x a.a.toNat).st=5:=fun q=>by rw [if_pos q] at he;cases he
      have ht:a.a.toNat<x.ts.length:=by omega
      first
      |exact MT.Ml (hI.die ht) (MT.die hI hT ht g2)
      |(rw [show (kh (kG x a.a.toNat)).now=x.now from (jF _).2.2.2.1.trans (oP _ _).2.2.2];exact hn)
    by_cases e6:a.k=6
    · rw [dx6 he e6]
      first
      |exact hn
      |exact⟨(hT.lks (fun L=>iL L a.a a.b) (fun L=>vd L _ _) (fun L=>D3 L _ _)).q |> fun q=>⟨q.q,q.l⟩,(hT.lks (fun L=>iL L a.a a.b) (fun L=>vd L _ _) (fun L=>D3 L _ _)).p,(hT.lks (fun L=>iL L a.a a.b) (fun L=>vd L _ _) (fun L=>D3 L _ _)).a⟩
    by_cases e7:a.k=7
    · rw [dx7 he e7]
      rw [do7 hv e7] at he
      first
      |exact MT.agb hI hT he
      |(rw [show (sQ {x with cs:=jW x.cs a.b a.a} a.a.toNat a.b).now=x.now from (jF _).2.2.2.1];exact hn)
    by_cases e8:a.k=8
    · rw [dx8 he e8]
      rw [do8 hv e8] at he;have g1:¬(a.a<0∨200<a.a):=fun q=>by rw [if_pos q] at he;cases he
      rw [if_neg g1] at he;have g2:¬1048576<(x.now+BitVec.ofInt 64 (a.a*x.s.cr)).toNat:=fun q=>by rw [if_pos q] at he;cases he
      have hc4:=u1 hI.ms;have hb:=Hw (x:=x) hc4 g1 g2 hn
      first
      |exact(MT.BO hI hT hb).1
      |(rw [(MT.BO hI hT hb).2];exact hb)
    · rw [do0 hv om] at he;cases he
structure Ev where
  time:BitVec 64
  kind:Int
  task:Int
  lock:Int
  n:Int
structure St where
  task:Int
  lock:Int
  Wv:BitVec 64
  to:BitVec 64
  fin:Int
  read:Bool
deriving DecidableEq
end Go.Eng
namespace Go.Eng
open Go Go.RowKit
instance:Inhabited St:=⟨⟨0,0,0#64,0#64,0,false⟩⟩
instance:Inhabited Ev:=⟨⟨0#64,0,0,0,0⟩⟩
/-! ### A map of own slices -/
def X2 (E n0:Nat) (K:Int→List Int):List (Int×Value)→ab→Prop
  | [],m=>m=[]
  |(t,v)::l,m=>∃m1 m2,m=m1++m2∧Sl fI E 1 n0 (K t) v m1∧X2 E n0 K l m2
structure Own (E n0:Nat) (K:Int→List Int) (l:List (Int×Value)) (m:ab):Prop where
  nd:(l.map (·.1)).Nodup
  own:X2 E n0 K l m
  non:∀t,afH l t=none→K t=[]
end Go.Eng
namespace Go.Eng
open Go Go.RowKit
/-! what an event that may come does -/
structure aj3 (w u:bU):Prop where
  rd:u.rd=w.rd
  wr:u.wr=w.wr
  sh:u.sh=w.sh
structure WK (w:bU):Prop where
  n:w.ts.length≤64
  rl:w.rd.length=w.sh.length
  wl:w.wr.length=w.sh.length
/-! holds -/
def hR (a b:St):Prop:=(a.lock=b.lock→a.task≠b.task→(a.read&&b.read)=false→a.fin≠0∧a.to.toNat≤b.Wv.toNat)∧(a.fin=0→b.fin=0→¬(a.task=b.task∧a.lock=b.lock))
structure HI (w:bU) (out:List St):Prop where
  k:WK w
  op:∀s∈out,s.fin=0→0≤s.task∧s.task<64∧0≤s.lock∧s.lock<(w.sh.length:Int)∧(if s.read=true then aR (qe w s.lock.toNat) s.task=true else aR (ql w s.lock.toNat) s.task=true)
  al:∀(l:Nat) (t:Int),l<w.sh.length→nG w t l=true→∃s∈out,s.fin=0∧s.task=t∧s.lock=(l:Int)
  tm:∀s∈out,s.Wv.toNat≤w.now.toNat∧(s.fin≠0→s.Wv.toNat≤s.to.toNat∧s.to.toNat≤w.now.toNat)
  pw:out.Pairwise hR
structure Bec (T T':jn) (e:dP):Prop where
  a:T.how=4→((e.k=4∨e.k=8)∧e.l=T.lock∧T'.how≠4)∨(e.k=11∧T'.how≠4)∨(e.k=12∧T'=T)
  b:T.how≠4→(e.k=6∧T'.how=4∧T'.lock=e.l)∨(e.k≠6∧T'.how≠4)
/-! waits -/
def wtR (a b:St):Prop:=a.fin=0→b.fin=0→a.task≠b.task
structure WI (w:bU) (out:List St):Prop where
  op:∀s∈out,s.fin=0→0≤s.task∧s.task.toNat<w.ts.length∧(bL w s.task.toNat).how=4∧(bL w s.task.toNat).lock=s.lock∧0≤s.lock∧s.lock<(w.sh.length:Int)
  al:∀t:Nat,t<w.ts.length→(bL w t).how=4→∃s∈out,s.fin=0∧s.task=(t:Int)
  tm:∀s∈out,s.Wv.toNat≤w.now.toNat∧(s.fin≠0→s.Wv.toNat≤s.to.toNat∧s.to.toNat≤w.now.toNat)
  pw:out.Pairwise wtR
/-! counting -/
def Xo (f:Nat→Nat):Nat→Nat
  |0=>0
  |n+1=>Xo f n+f n
def opN (l:List St):Nat:=(l.filter (fun s=>decide (s.fin=0))).length
structure Sfe (x:aG) (on:bf→Int→Bool) (f:Nat→List Int) (l:List St):Prop where
  op:∀s∈l,s.fin=0→0≤s.lock∧s.lock<(x.lk.length:Int)∧on (gL x s.lock.toNat) s.task=true
  tm:∀s∈l,s.fin≠0→s.Wv.toNat≤s.to.toNat
  n:opN l=Xo (fun j=>(f j).length) x.lk.length
section
variable {k:Nat} {s:jy} {x:aG} (h:MW (Eu s) k x)
include h
end
/-! deeds one behind the other -/
def GP (x:aG) (l:List Act) (i:Nat):aG:=(l.take i).foldl j7 x
theorem AJ {x:aG} {l:List Act} {i:Nat} (h:i<l.length):GP x l (i+1)=j7 (GP x l i) (l.getD i default):=by
  unfold GP;rw [bR default h,List.foldl_append];rfl
theorem MW.ply {w0:bU} {k:Nat} {x:aG} (h:MW w0 k x) (l:List Act):∀i,i≤l.length→MW w0 (k+30000000*i) (GP x l i)
  |0,_=>h
  |i+1,hi=>by rw [AJ om];have:=(h.ply l i om).mdo (l.getD i default);rw [show k+30000000*(i+1)=k+30000000*i+30000000 by omega];exact this
end Go.Eng
namespace Go.Eng
open Go Go.Proofs Go.RowKit
end Go.Eng
namespace Go.Eng
open Go Go.Proofs Go.RowKit
end Go.Eng
namespace Go.Eng
open Go Go.Proofs Go.RowKit
end Go.Eng
namespace Go.Eng
open Go Go.Proofs Go.RowKit
end Go.Eng
namespace Go.Eng
open Go Go.Proofs Go.RowKit Go.ChangeShapes Go.WideShapes
theorem A7:Rdb Tryz.prog 37 fA (fun a=>(-9223372036854775808≤a.k∧a.k≤9223372036854775807)∧(-9223372036854775808≤a.a∧a.a≤9223372036854775807)∧(-9223372036854775808≤a.b∧a.b≤9223372036854775807)∧(-9223372036854775808≤a.c∧a.c≤9223372036854775807)∧(-9223372036854775808≤a.d∧a.d≤9223372036854775807)):=fun {H enc w base sp held fuel cs x} h=>by
  obtain ⟨h1,h2⟩:=tB Tryz.underlying37 h;rw [show Tryz.prog.cellsOf 37=5 by kernel_rfl] at h1;have c3:Tryz.prog.cellsOf 3=1:=by kernel_rfl
  match cs,h1 with
  | [a0,a1,a2,a3,a4],_=>
    simp only [List.forall_mem_cons,c3,List.drop_succ_cons,List.drop_zero,List.take_succ_cons,List.take_zero] at h2;obtain ⟨⟨_,_,f0⟩,⟨_,_,f1⟩,⟨_,_,f2⟩,⟨_,_,f3⟩,⟨_,_,f4⟩,_⟩:=h2;obtain ⟨m0,e0,_,w0⟩:=DataW.trod_int Tryz.underlying3 f0;obtain ⟨m1,e1,_,w1⟩:=DataW.trod_int Tryz.underlying3 f1;obtain ⟨m2,e2,_,w2⟩:=DataW.trod_int Tryz.underlying3 f2;obtain ⟨m3,e3,_,w3⟩:=DataW.trod_int Tryz.underlying3 f3;obtain ⟨m4,e4,_,w4⟩:=DataW.trod_int Tryz.underlying3 f4;simp only [List.cons.injEq,and_true] at e0 e1 e2 e3 e4;subst e0;subst e1;subst e2;subst e3;subst e4;exact⟨⟨m0,m1,m2,m3,m4⟩,rfl,⟨bounds_i64 w0,bounds_i64 w1,bounds_i64 w2,bounds_i64 w3,bounds_i64 w4⟩⟩
theorem GZ {H:Type} {enc:TypeId×Value→H} {w:World} {base:Nat} {sp:Nat→Bool} {held:Bool} {r:Reach} {b0:Nat} {v:Value} {d:DataW H} {ps:List MemPlace}
    (Mp:Value.okWide Tryz.prog w r b0 24 v) (h:DataW.Trod enc Tryz.prog w base sp held 24 v d ps):
    ∃(t:List UInt8) (xs:List Act) (ad:Option Addr) (cap:Nat),v= .agg #[vS t,.slice ad xs.length cap]∧Sr fA 5 xs (.slice ad xs.length cap) w:=by
  obtain ⟨fuel,h⟩:=h
  obtain ⟨cs,rfl⟩:∃cs,v= .agg cs:=by
    simp only [Value.okWide,Tryz.underlying24] at Mp;obtain ⟨cs,h1,_⟩:=Mp;exact⟨cs,h1⟩
  obtain ⟨h1,h2⟩:=tB Tryz.underlying24 h;rw [show Tryz.prog.cellsOf 24=2 by kernel_rfl] at h1;have c0:Tryz.prog.cellsOf 9=1:=by kernel_rfl
  have c1:Tryz.prog.cellsOf 22=1:=by kernel_rfl
  have uT:(Value.agg cs).cells.toList=cs.toList:=rfl;rw [uT] at h1 h2;obtain ⟨l⟩:=cs
  match l,h1 with
  | [a0,a1],_=>
    simp only [List.forall_mem_cons,c0,c1,List.drop_succ_cons,List.drop_zero,List.take_succ_cons,List.take_zero] at h2;obtain ⟨⟨_,_,f0⟩,⟨n1,y1,f1⟩,_⟩:=h2;obtain ⟨m0,e0,_⟩:=DataW.trod_string Tryz.underlying9 f0;simp only [List.cons.injEq,and_true] at e0;subst e0
    obtain ⟨ad,len,cap,rfl⟩:∃ad len cap,a1= .slice ad len cap:=by
      rcases DataW.trod_slice Tryz.underlying22 f1 with ⟨h0,_⟩|⟨a,l,c,elems,rest,n,_,h0,_⟩
      · simp at h0;exact⟨_,_,_,h0⟩
      · simp at h0;exact⟨_,_,_,h0⟩
    obtain ⟨d1,p1⟩:=y1;obtain ⟨xs,rfl,h3,_,h4⟩:=PU (s:=5) (H:=H) (enc:=enc) (ad:=ad) (len:=len) (cap:=cap) (d:=d1) (ps:=p1) Tryz.underlying22 A7 kr (by decide) (fun _=>rfl) ⟨n1,f1⟩;obtain ⟨t,rfl⟩:∃x:List UInt8,m0=bs x:=⟨_,aaf m0⟩
    exact⟨t,xs,ad,cap,rfl,h3⟩
end Go.Eng
namespace Go.Eng
open Go Go.Proofs Go.RowKit
def IW (s:dm) (k:Nat) (v:Value) (m:ab):Prop:=∃n0,k≤n0∧s.Old n0∧McN s n0 v m
theorem IW.mono {s:dm} :∀(a b:Nat) u m,b≤a→IW s a u m→IW s b u m:=fun a b u m h ⟨n0,h1,h2⟩=>⟨n0,Nat.le_trans h h1,h2⟩
theorem Sr.lt {α:Type} {f:α→List Value} {s:Nat} {xs:List α} {ad:Option Addr} {n c:Nat} {w:World} (h:Sr f s xs (.slice ad n c) w) (hx:0<xs.length):kc ad<w.heap.size:=by
  obtain ⟨b,off,cs,E,fz,h1,h2,-⟩:=h.open.2.2 hx;rw [h1];exact(Array.getElem?_eq_some_iff.1 h2).1
theorem dm.In.ow {s:dm} {w:World} (h:s.In w):s.Old w.heap.size:=⟨h.hg.lt,h.hl.lt,h.hp.lt,fun p hp=>(h.ops p hp).2.lt⟩
theorem AS {s:dm} (w:World) (hI:s.In w):aD Tryz.prog 7 #[s.val] w (fun v w'=>Ext w w'∧∃m,IW s w.heap.size v m∧Mem w' m∧∀p∈m,w.heap.size≤p.1):=
  (Ey w hI).mono (fun v w' ⟨h1,m,h2,h3⟩=>⟨h1,m,⟨_,Nat.le_refl _,hI.ow,h2⟩,h3⟩)
theorem eF.le {n0 b:Nat} {s:dm} {x:aG} {m:ab} {w:World} (h:eF n0 b s x m) (hm:Mem w m):n0≤w.heap.size:=by
  obtain ⟨P,rfl,h⟩:=h;have:=h.hb;have h2:=(hm.at b)
  exact Nat.le_of_lt (Nat.lt_of_le_of_lt this (Array.getElem?_eq_some_iff.1 h2).1)
end Go.Eng
namespace Go.Eng
open Go Go.RowKit
theorem vC {w:bU} {l:List dP} (e:dP):∀{j:Nat},j≤l.length→ue w (l++ [e]) j=ue w l j
  |0,_=>rfl
  |j+1,h=>by
    show nQ (ue w (l++ [e]) j) ((l++ [e]).getD j default)=nQ (ue w l j) (l.getD j default)
    rw [vC e om,List.getD_eq_getElem?_getD,List.getElem?_append_left om,←List.getD_eq_getElem?_getD]
theorem QZ.sta {w0 w:bU} {l:List dP} (h:QZ w0 l w):ue w0 l l.length=w∧∀j,j<l.length→SX w0 l j=true:=by
  induction h with
  |nil=>exact⟨rfl,fun j hj=>absurd hj (Nat.not_lt_zero j)⟩
  | @snoc l w e h hb ih=>
    have hg:(l++ [e]).getD l.length default=e:=by rw [List.getD_eq_getElem?_getD,List.getElem?_append_right (Nat.le_refl _),Nat.sub_self];rfl
    have hs:ue w0 (l++ [e]) l.length=w:=by rw [vC e (Nat.le_refl _),ih.1]
    refine ⟨?_,fun j hj=>?_⟩
    · rw [List.length_append,List.length_singleton]
      show nQ (ue w0 (l++ [e]) l.length) ((l++ [e]).getD l.length default)=_
      rw [hs,hg]
    · rw [List.length_append,List.length_singleton] at hj
      show qu (ue w0 (l++ [e]) j) ((l++ [e]).getD j default)=true
      rcases Nat.lt_or_ge j l.length with q|q
      · have:=ih.2 j q
        rw [vC e (Nat.le_of_lt q),List.getD_eq_getElem?_getD,List.getElem?_append_left q,←List.getD_eq_getElem?_getD];exact this
      · rw [show j=l.length by omega,hs,hg];exact hb
theorem QZ.V8 {s:jy} {l:List dP} {w:bU} (hm:eu s=true) (h:QZ (Eu s) l w):oO s l=l.length∧g8 s l=true∧wX s l=w:=by
  obtain ⟨h1,h2⟩:=h.sta;have e:oO s l=l.length:=by unfold oO;rw [if_pos hm];exact Ad h2 (.inl rfl)
  exact⟨e,by unfold g8;rw [hm,e,decide_eq_true rfl];rfl,h1⟩
/-! sets -/
def Kh (l:List Int):BitVec 64:=l.foldl bZ 0#64
theorem Qq (l:List Int) (t:Int):Kh (l++ [t])=bZ (Kh l) t:=by unfold Kh;rw [List.foldl_append];rfl
theorem uY {α:Type} [Inhabited α] (f:α→Int) {l:List α} {i:Nat} (h:i<l.length):Kh ((l.take (i+1)).map f)=bZ (Kh ((l.take i).map f)) (f (l.getD i default)):=by
  rw [List.take_add_one,List.getElem?_eq_getElem h,List.map_append,List.getD_eq_getElem?_getD,List.getElem?_eq_getElem h];exact Qq _ _
theorem Hc (l:List Int):∀(a:BitVec 64),(∀t∈l,0≤t∧t<64)→∀q:Int,(aR (l.foldl bZ a) q=true↔aR a q=true∨q∈l):=by
  induction l with
  |nil=>intro a _ q;simp
  |cons t r ih=>
    intro a h q;rw [List.foldl_cons,ih _ (fun y hy=>h y (List.mem_cons_of_mem _ hy)) q,iz];have ht:=h t (List.mem_cons_self ..);simp only [Bool.or_eq_true,Bool.and_eq_true,decide_eq_true_eq,List.mem_cons]
    constructor
    · rintro ((h1|⟨h1,_⟩)|h1)
      · exact .inl h1
      · exact .inr (.inl h1)
      · exact .inr (.inr h1)
    · rintro (h1|rfl|h1)
      · exact .inl (.inl h1)
      · exact .inl (.inr ⟨rfl,ht⟩)
      · exact .inr h1
theorem Gh {l:List Int} (h:∀t∈l,0≤t∧t<64) (q:Int):aR (Kh l) q=true↔q∈l:=by
  rw [Kh,Hc l _ h q,dd];simp
theorem CJ (p:jn→Bool) (ts:List jn):∀{k:Nat},k≤64→∀q:Nat,(aR (ur p ts k) (q:Int)=true↔q<k∧p (ts.getD q default)=true)
  |0,_,q=>by show aR 0#64 _=true↔_;rw [dd];simp
  |k+1,hk,q=>by
    rw [jB];have ih:=CJ p ts (k:=k) om q
    split
    · next h=>
      rw [iz,Bool.or_eq_true,ih];simp only [Bool.and_eq_true,decide_eq_true_eq]
      constructor
      · rintro (⟨h1,h2⟩|⟨h1,_⟩)
        · exact⟨by omega,h2⟩
        · have:q=k:=by omega
          rw [this];exact⟨by omega,h⟩
      · rintro ⟨h1,h2⟩
        rcases Nat.lt_or_ge q k with c|c
        · exact .inl ⟨c,h2⟩
        · exact .inr ⟨by omega,by omega,by omega⟩
    · next h=>
      rw [ih]
      constructor
      · rintro ⟨h1,h2⟩;exact⟨by omega,h2⟩
      · rintro ⟨h1,h2⟩
        rcases Nat.lt_or_ge q k with c|c
        · exact⟨c,h2⟩
        · rw [show q=k by omega] at h2;exact absurd h2 h
theorem Kr {a b:Bool} (h:a=true↔b=true):a=b:=by cases a<;>cases b<;>simp_all
theorem FU {a b:BitVec 64} (h:∀q:Nat,q<64→(aR a (q:Int)=true↔aR b (q:Int)=true)):a=b:=o4 (fun i hi=>Kr (h i hi))
def T9 (ts:List iQ) (k:Nat):BitVec 64:=(List.range k).foldl (fun a i=>if (ts.getD i default).st=2 then bZ a (ts.getD i default).id else a) 0#64
theorem jZ (ts:List iQ) (k:Nat):T9 ts (k+1)=if (ts.getD k default).st=2 then bZ (T9 ts k) (ts.getD k default).id else T9 ts k:=by unfold T9;rw [List.range_succ,List.foldl_append];rfl
section
variable {k:Nat} {s:jy} {x:aG} (h:MW (Eu s) k x) (hm:eu s=true)
include h hm
theorem MW.may:oO s x.ev=x.ev.length∧g8 s x.ev=true:=by
  obtain ⟨w,hr,_,_⟩:=h.t.a;exact⟨(hr.V8 hm).1,(hr.V8 hm).2.1⟩
theorem MW.RG {l:Nat} (hl:l<x.lk.length) (sy:x.lk.length=s.ls.length):zP s x.ev (l:Int)=Kh ((gL x l).ho.map (·.t)):=by
  obtain ⟨w,hr,_,hv⟩:=h.t.a;obtain ⟨c1,c2,c3⟩:=hr.V8 hm;have hi:=(h.i.li l hl).i;have uz:=h.i.tl
  unfold zP
  rw [if_pos ⟨c2,by omega,by omega⟩,c3,Int.toNat_natCast];refine FU (fun q hq=>?_);rw [show aR (qe w l|||ql w l) (q:Int)=nG w (q:Int) l from rfl,hv.RG (l:=l) hl,Gh (fun t ht=>?_),List.mem_map]
  · exact Iff.rfl
  · obtain ⟨g,hg,e⟩:=List.mem_map.1 ht
    have:=hi.ho g hg;unfold kI at this;omega
theorem MW.wai {l:Nat} (hl:l<x.lk.length) (sy:x.lk.length=s.ls.length):Ds s x.ev (l:Int)=Kh ((gL x l).wt.map (·.who)):=by
  obtain ⟨w,hr,_,hv⟩:=h.t.a;obtain ⟨c1,c2,c3⟩:=hr.V8 hm;have hi:=(h.i.li l hl).i;have uz:=h.i.tl;have hn:w.ts.length=x.ts.length:=hv.n
  unfold Ds
  rw [if_pos ⟨c2,by omega,by omega⟩,c3];refine FU (fun q hq=>?_);rw [CJ _ _ om,Gh (fun t ht=>?_),List.mem_map,hn]
  · simp only [Bool.and_eq_true,decide_eq_true_eq]
    constructor
    · rintro ⟨h1,h2,h3⟩
      have e4:dt x q=4:=(hv.hw q h1).symm.trans h2;have el:fh x q=(l:Int):=(hv.lo q h1 e4).symm.trans h3;obtain ⟨y,hy,e⟩:=h.t.q.l.s4 q h1 e4 (fun z=>z);rw [el,Int.toNat_natCast] at hy;exact⟨y,hy,e⟩
    · rintro ⟨y,hy,e⟩
      have gI:=hi.wt y hy;unfold kI at gI;obtain ⟨f1,f2⟩:=h.t.q.l.wt l hl y hy;have js:y.who.toNat=q:=by rw [e];exact Int.toNat_natCast q
      rw [js] at f1 f2;have hqn:q<x.ts.length:=by omega
      exact⟨hqn,(hv.hw q hqn).trans f1,(hv.lo q hqn f1).trans f2⟩
  · obtain ⟨g,hg,e⟩:=List.mem_map.1 ht
    have:=hi.wt g hg;unfold kI at this;omega
theorem MW.rn:∀{j:Nat},j≤x.ts.length→T9 x.ts j=ur (fun t=>decide (t.how=2)) (wX s x.ev).ts j
  |0,_=>rfl
  |j+1,hj=>by
    obtain ⟨w,hr,_,hv⟩:=h.t.a;have c3:=(hr.V8 hm).2.2;have hh:((wX s x.ev).ts.getD j default).how=(x.ts.getD j default).st:=by rw [c3];exact hv.hw j hj
    rw [jZ,jB,MW.rn om,h.t.p.id j hj,hh]
    by_cases c:(x.ts.getD j default).st=2
    · rw [if_pos c,if_pos (decide_eq_true c)]
    · rw [if_neg c,if_neg (fun q=>c (of_decide_eq_true q))]
theorem MW.runs:EH s x.ev=T9 x.ts x.ts.length:=by
  rw [h.rn hm (Nat.le_refl _)];obtain ⟨w,hr,_,hv⟩:=h.t.a;obtain ⟨c1,c2,c3⟩:=hr.V8 hm
  unfold EH;rw [if_pos c2,c3,show w.ts.length=x.ts.length from hv.n]
end
end Go.Eng
namespace Go.Eng
open Go Go.Proofs Go.RowKit
abbrev Qv (b:Nat) (e:dP):Nat×Obj:=(b,.cells (Am e).toArray 72 (0,0))
abbrev cI (b:Nat) (x:Int):Nat×Obj:=(b,.cells #[.int .i64 x] 3 (0,0))
abbrev pT (c5:Option Addr) (i:Nat):Value:= .pointer (some ⟨kc c5,Dh c5+i*3,none⟩)
theorem qE {t:jn} {fr to:Int} {may:Bool} (h:cL t fr may=false):eH t fr to may=t:=by unfold eH;rw [h];rfl
theorem YM {t:jn} {may:Bool} (h:cL t 3 may=true):qN t may=true∧wy t may=eH t 3 1 may:=by
  have hb:qN t may=true:=by unfold cL at h;unfold qN;simp_all
  exact⟨hb,by unfold wy eH;rw [hb,h]⟩
theorem W7 {t:jn} {may:Bool} (h0:cL t 3 may=false) (h:cL t 6 may=true):qN t may=true∧wy t may=eH t 6 1 may:=by
  have hb:qN t may=true:=by unfold cL at h;unfold qN;simp_all
  exact⟨hb,by unfold wy eH;rw [hb,h]⟩
theorem aaj {t:jn} {may:Bool} (h0:cL t 3 may=false) (h1:cL t 6 may=false):qN t may=cL t 7 may∧wy t may=eH t 7 1 may:=by
  have hb:qN t may=cL t 7 may:=by
    unfold cL at h0 h1 ⊢;unfold qN
    cases may
    · simp
    · simp only [Bool.and_true] at h0 h1 ⊢;rw [h0,h1];rfl
  exact⟨hb,by unfold wy eH;rw [hb]⟩
theorem Y5 {t:jn} {e:dP} (h:t.how=2) (h2:rQ e.n=true):wj t e=true∧vx t e=t:=by
  unfold wj vx;rw [decide_eq_true h,h2];exact⟨rfl,rfl⟩
theorem F1 {t:jn} {e:dP} (h:¬(t.how=2∧rQ e.n=true)):wj t e=cL t 4 (decide (t.lock=e.l)&&decide (e.n=10))∧vx t e=eH t 4 7 (decide (t.lock=e.l)&&decide (e.n=10)):=by
  have:(decide (t.how=2)&&rQ e.n)=false:=by
    cases hq:(decide (t.how=2)&&rQ e.n)
    · rfl
    · rw [Bool.and_eq_true,decide_eq_true_eq] at hq;exact absurd hq h
  unfold wj vx;rw [this];exact⟨rfl,rfl⟩
def Ub (n0 i:Nat) (ts:List jn) (c5:Option Addr) (nt bz:Nat) (q:Bool) (t:jn):Value→ab→Prop:=fun u m'=>u= .bool q∧Sl yI 103 3 n0 (ts.set i t) (.slice c5 nt bz) m'
theorem DX {n0 b:Nat} {s:dm} {x:bU} {m:ab} (e:dP) (w:World) (h:pR n0 b s x m) (hM:Mem w m):aD Tryz.prog 122 #[.pointer (some ⟨b,0,none⟩),.agg (Am e).toArray] w (fun u w'=>u= .bool (iM x e)∧Ext w w'):=by
 obtain ⟨c5,nt,bz,dT,bh,mt,mr,mw,rfl,dN,cu,ew,cO,hk,hb⟩:=h;have fC:=hk.hl;refine aD.ao Tryz.func122 rfl Tryz.ntmps122 rfl (qS b s x.now c5 nt bz dT bh::(mt++(mr++(mw++ [])))) (no) aM ?_;refine J2 ?_;refine LM.box rfl rfl (fun b3 xu=>?_);refine pQ ?_;refine cE Tryz.func155 rfl (fun w hm hc hg=>z5 _ w) ?_;refine J2 ?_;refine af.bC (α:=Bool) (fun q=>[(5,.bool q)]) [(0,_),(3,_)] (fun q=>Qv b3 e::qS b s x.now c5 nt bz dT bh::(mt++(mr++(mw++ [])))) (fun q=>q=(if zw e.k=true then (decide (0≤e.l)&&decide (e.l<x.sh.length))||(decide (e.l= -1)&&(decide (e.k=8)&&decide (e.n=3))) else decide (e.l= -1))) cF ?_ ?_
 ·refine af.aJ rfl (fun h1=>?_) (fun h1=>?_)
  ·refine af.draw [(0,0),(1,1),(2,0),(3,0),(4,0),(5,1),(6,0),(7,0),(8,0),(9,0),(10,1),(11,0),(12,0),(13,0),(14,0),(15,0),(16,1),(17,0),(18,0),(19,0),(20,1),(21,0),(22,0),(23,0),(24,0),(25,1),(26,0),(27,0),(28,0),(29,0)] kr kr ?_;refine J4 ?_;refine LD.aq (t:=15) rfl (fun h2=>?_) (fun h2=>?_)
   ·refine c9 ?_;refine LD.aq (t:=26) rfl (fun h3=>?_) (fun h3=>?_)
    ·refine J3 ?_;refine LD.dp rfl rfl ⟨26,_,rfl,rfl,rfl⟩ ?_;refine J4 ?_;refine LD.dp rfl rfl ⟨26,_,rfl,rfl,rfl⟩ ?_;refine J7 ?_;refine mK (_) ?_
     · rw [if_pos h1,fC];first|(simp_all;done)|(simp_all;omega)
    refine J4 ?_;refine LD.aq (t:=30) rfl (fun h4=>?_) (fun h4=>?_)
    ·refine J5 ?_;refine LD.aq (t:=35) rfl (fun h5=>?_) (fun h5=>?_)
     ·refine J7 ?_;refine mK (_) ?_
      · rw [if_pos h1,fC];first|(simp_all;done)|(simp_all;omega)
     refine J7 ?_;refine mK (_) ?_
     · rw [if_pos h1,fC];first|(simp_all;done)|(simp_all;omega)
    refine cN ?_;refine mK (_) ?_
    · rw [if_pos h1,fC];first|(simp_all;done)|(simp_all;omega)
   refine py ?_;refine LD.aq (t:=30) rfl (fun h6=>?_) (fun h6=>?_)
   ·refine J5 ?_;refine LD.aq (t:=35) rfl (fun h7=>?_) (fun h7=>?_)
    ·refine J7 ?_;refine mK (_) ?_
     · rw [if_pos h1,fC];first|(simp_all;done)|(simp_all;omega)
    refine J7 ?_;refine mK (_) ?_
    · rw [if_pos h1,fC];first|(simp_all;done)|(simp_all;omega)
   refine cN ?_;refine mK (_) ?_
   · rw [if_pos h1,fC];first|(simp_all;done)|(simp_all;omega)
  refine J1 ?_;refine mK (_) ?_
  · rw [if_neg (by rw [h1];simp)]
 rintro q hq;change QM _ _ _ _ _ (Qv b3 e::qS b s x.now c5 nt bz dT bh::(mt++(mr++(mw++ [])))) _ _ _;refine J2 ?_;refine af.draw [(0,0),(1,1),(2,0),(3,0),(4,0),(5,1),(6,0),(7,0),(8,0),(9,0),(10,0),(11,0),(12,1),(13,0),(14,0),(15,0),(16,1),(17,2),(18,0),(19,0),(20,0),(21,0)] kr kr ?_;refine J6 ?_;refine LD.val rfl rfl (Fx rfl rfl) ?_;refine J1 ?_;refine LD.aq (t:=48) rfl (fun h8=>?_) (fun h8=>?_)
 ·refine J3 ?_;refine LD.bj (t:=51) rfl (fun h9=>?_) (fun h9=>?_)
  ·refine J4 ?_;refine LD.aq (t:=55) rfl (fun gh=>?_) (fun gh=>?_)
   ·refine cj ?_;refine qL Tryz.results122 rfl fun w' aj aa az=>?_;refine ⟨?_,aa⟩;simp only [ba,iM,←hq];simp_all
   refine J2 ?_;refine dE rfl ⟨55,_,rfl,rfl,rfl⟩ Tryz.func156 rfl (fun w hm hc hg=>DU _ w) ?_;refine J7 ?_;refine qL Tryz.results122 rfl fun w' aj aa az=>?_;refine ⟨?_,aa⟩;simp only [ba,iM,←hq];simp_all
  refine J3 ?_;refine LD.dp rfl rfl ⟨51,_,rfl,rfl,rfl⟩ ?_;refine J2 ?_;refine LD.AY rfl rfl rfl ?_;refine J7 ?_;refine qL Tryz.results122 rfl fun w' aj aa az=>?_;refine ⟨?_,aa⟩;show Value.bool false=Value.bool (iM x e);unfold iM;rw [←hq];first|(simp;done)|(rw [h9];simp)
 refine J6 ?_;refine LD.dp rfl rfl ⟨51,_,rfl,rfl,rfl⟩ ?_;refine J2 ?_;refine LD.AY rfl rfl rfl ?_;refine J7 ?_;refine qL Tryz.results122 rfl fun w' aj aa az=>?_;refine ⟨?_,aa⟩;show Value.bool false=Value.bool (iM x e);unfold iM;rw [decide_eq_false (show¬x.now.toNat≤e.tm.toNat by omega)];rfl
theorem bH {n0 i:Nat} {ts:List jn} {c5:Option Addr} {nt bz:Nat} {mt:ab} (fr to:Int) (may:Bool) (w:World) (cu:Sl yI 103 3 n0 ts (.slice c5 nt bz) mt) (hi:i<ts.length) (hM:Mem w mt):aD Tryz.prog 157 #[pT c5 i,.int .i64 fr,.int .i64 to,.bool may] w (ec mt (Ub n0 i ts c5 nt bz (cL (ts.getD i default) fr may) (eH (ts.getD i default) fr to may)) w):=by
 refine aD.ao Tryz.func157 rfl Tryz.ntmps157 rfl (mt++ []) ((eO mt)) aM ?_;refine c9 ?_;refine LM.rd (aE (j:=1) aB ir Tryz.isAgg3 rfl rfl cJ rfl (by rfl)) ?_;refine J3 ?_;refine LM.aq (t:=15) rfl (fun h1=>?_) (fun h1=>?_)
 ·refine gy ?_;refine qL Tryz.results157 rfl fun w' aj aa az=>?_;have dw:cL (ts.getD i default) fr may=false:=(by unfold cL;simp_all);exact aY (m':=mt) ⟨by rw [dw];rfl,by unfold eH;rw [dw];simp only [Bool.false_eq_true,if_false];rw [fZ default hi];exact cu⟩ aj aN aa (ay _ _)
 refine J5 ?_;refine af.aJ rfl (fun h2=>?_) (fun h2=>?_)
 ·refine J7 ?_;refine qL Tryz.results157 rfl fun w' aj aa az=>?_;have dw:cL (ts.getD i default) fr may=false:=(by unfold cL;simp_all);exact aY (m':=mt) ⟨by rw [dw];rfl,by unfold eH;rw [dw];simp only [Bool.false_eq_true,if_false];rw [fZ default hi];exact cu⟩ aj aN aa (ay _ _)
 refine J8 ?_;refine LM.fR ({ts.getD i default with how:=to}) (j:=1) aB ir Tryz.sizeOf3 rfl rfl rfl cJ rfl (by decide) (by rfl) rfl (fun p hp _=>⟨p,by simp [hp],rfl⟩) (fun jh cG cY=>?_);refine J8 ?_;refine qL Tryz.results157 rfl fun w' aj aa az=>?_;have dw:cL (ts.getD i default) fr may=true:=(by unfold cL;simp_all);exact aY (m':=jh) ⟨by rw [dw];rfl,by unfold eH;rw [dw];simp only [if_true];exact cG⟩ aj aN aa (jN cY)
theorem DO (t:jn) (c:Nat) (core:Int) (w:World) (hM:Mem w [cI c core]):aD Tryz.prog 181 #[.agg (yI t).toArray,.pointer (some ⟨c,0,none⟩)] w (fun u w'=>u= .bool (decide (t.how=2)&&decide (t.core=core))∧Ext w w'):=by
 refine aD.ao Tryz.func181 rfl Tryz.ntmps181 rfl ([cI c core]) (no) hM ?_;refine J2 ?_;refine LM.box rfl rfl (fun b2 xr=>?_);refine J9 ?_;refine LM.aq (t:=7) rfl (fun h1=>?_) (fun h1=>?_)
 ·refine c9 ?_;refine qL Tryz.results181 rfl fun w' aj aa az=>?_;refine ⟨?_,aa⟩;simp only [ba];simp_all
 refine J9 ?_;refine qL Tryz.results181 rfl fun w' aj aa az=>?_;refine ⟨?_,aa⟩;simp only [ba];simp_all
theorem K1 {xs:List jn} {ad:Option Addr} {n cap c:Nat} (core:Int) (w:World) (hn:n=xs.length) (hl:Sr yI 3 xs (.slice ad n cap) w) (hx:xs.length≤64) (hM:Mem w [cI c core]):aD Tryz.prog 193 #[.slice ad n cap,.func (.func 181) #[] #[.pointer (some ⟨c,0,none⟩)]] w (fun v w'=>v= .int .i64 (fS (fun t=>decide (t.how=2)&&decide (t.core=core)) xs)∧Ext w w'):=by
 refine aD.ao Tryz.func193 rfl Tryz.ntmps193 rfl ([cI c core]) (no) hM ?_;refine kk ?_;refine af.aP (α:=Nat) (fun i=>[(8,.int .i64 (i:Nat))]) [(0,_),(1,_),(7,_)] (fun i=>[cI c core]) (fun i=>i≤xs.length∧(xs.take i).any (fun t=>decide (t.how=2)&&decide (t.core=core))=false) (fun i=>xs.length-i) (0) cF aN ⟨Nat.zero_le _,rfl⟩ ?_;rintro i ⟨hi,ha⟩;change af _ _ _ _ _ _ _ ([cI c core]) _ _ _;refine J6 ?_;refine af.ak rfl (fun h1=>?_) (fun h1=>?_)
 ·refine pQ ?_;refine LM.eh (dB aB ir Tryz.isAgg103 Tryz.sizeOf103 rfl cJ id) ?_;refine LM.p9 (jO rfl (dV Tryz.func181 kr rfl) rfl) (fun w hm hc hg=>DO _ c core w (hm.pick _)) ?_;refine J2 ?_;refine af.aJ rfl (fun h2=>?_) (fun h2=>?_)
  ·refine cN ?_;refine qL Tryz.results193 rfl fun w' aj aa az=>?_;exact⟨by show Value.int .i64 _=_;rw [iC default ha om h2],aa⟩
  refine J7 ?_;refine aK (i+1) ?_ ?_
  · exact⟨by omega,by rw [dv default om,ha,Bool.false_or];exact h2⟩
  · omega
 refine c9 ?_;refine qL Tryz.results193 rfl fun w' aj aa az=>?_;have er:i=xs.length:=om;subst er;rw [List.take_length] at ha;exact⟨by show Value.int .i64 _=_;rw [eK ha],aa⟩
theorem Jk {xs:List jn} {ad:Option Addr} {n cap c:Nat} (core:Int) (w:World) (hn:n=xs.length) (hl:Sr yI 3 xs (.slice ad n cap) w) (hx:xs.length≤64) (hM:Mem w [cI c core]):aD Tryz.prog 180 #[.slice ad n cap,.func (.func 181) #[] #[.pointer (some ⟨c,0,none⟩)]] w (fun v w'=>v= .bool (xs.any (fun t=>decide (t.how=2)&&decide (t.core=core)))∧Ext w w'):=by
 refine aD.ao Tryz.func180 rfl Tryz.ntmps180 rfl ([cI c core]) (no) hM ?_;refine J9 ?_;refine cE Tryz.func193 rfl (fun w hm hc hg=>K1 core w hn (hl.ext hc) hx (hm.pick _)) ?_;refine J5 ?_;refine qL Tryz.results180 rfl fun w' aj aa az=>?_;exact⟨by show Value.bool _=_;rw [←kx],aa⟩
theorem Dk {n0 b:Nat} {s:dm} {x:bU} {m:ab} (core:Int) (w:World) (h:pR n0 b s x m) (hM:Mem w m):aD Tryz.prog 158 #[.pointer (some ⟨b,0,none⟩),.int .i64 core] w (fun u w'=>u= .bool (CP x core)∧Ext w w'):=by
 obtain ⟨c5,nt,bz,dT,bh,mt,mr,mw,rfl,dN,cu,ew,cO,hk,hb⟩:=h;refine aD.ao Tryz.func158 rfl Tryz.ntmps158 rfl (qS b s x.now c5 nt bz dT bh::(mt++(mr++(mw++ [])))) (no) aM ?_;refine J2 ?_;refine LM.box rfl rfl (fun b3 xu=>?_);refine J9 ?_;refine LM.val (oe rfl) ?_;refine cE Tryz.func180 rfl (fun w hm hc hg=>Jk core w dN (cu.lK ir hm) hk.t (hm.pick [(b3,.cells (Value.int .i64 core).cells 3 (0,0))])) ?_;refine J5 ?_;refine qL Tryz.results158 rfl fun w' aj aa az=>?_;exact⟨rfl,aa⟩
theorem Hb {xs:List Int} {ad:Option Addr} {n cap:Nat} (x:Int) (w:World) (hn:n=xs.length) (hl:Sr fI 1 xs (.slice ad n cap) w) (hx:xs.length≤1000):aD Tryz.prog 195 #[.slice ad n cap,.int .i64 x] w (fun v w'=>v= .int .i64 (fS (fun y=>decide (x=y)) xs)∧Ext w w'):=by
 refine aD.ao Tryz.func195 rfl Tryz.ntmps195 rfl ([]) (no) (Mem.nil w) ?_;refine kk ?_;refine af.aP (α:=Nat) (fun i=>[(8,.int .i64 (i:Nat))]) [(0,_),(1,_),(7,_)] (fun i=>[]) (fun i=>i≤xs.length∧(xs.take i).any (fun y=>decide (x=y))=false) (fun i=>xs.length-i) (0) cF aN ⟨Nat.zero_le _,rfl⟩ ?_;rintro i ⟨hi,ha⟩;change af _ _ _ _ _ _ _ ([]) _ _ _;refine J6 ?_;refine af.ak rfl (fun h1=>?_) (fun h1=>?_)
 ·refine pQ ?_;refine LM.eh (lV aB Tryz.isAgg190 rfl rfl (by exact aO 0 cK) (by rfl) id) ?_;refine J3 ?_;refine af.ak rfl (fun h2=>?_) (fun h2=>?_)
  ·refine cN ?_;refine qL Tryz.results195 rfl fun w' aj aa az=>?_;exact⟨by show Value.int .i64 _=_;rw [iC 0 ha om (decide_eq_true h2)],aa⟩
  refine J7 ?_;refine aK (i+1) ?_ ?_
  · exact⟨by omega,by rw [dv 0 om,ha,Bool.false_or];exact decide_eq_false h2⟩
  · omega
 refine c9 ?_;refine qL Tryz.results195 rfl fun w' aj aa az=>?_;have er:i=xs.length:=om;subst er;rw [List.take_length] at ha;exact⟨by show Value.int .i64 _=_;rw [eK ha],aa⟩
theorem ze {xs:List Int} {ad:Option Addr} {n cap:Nat} (x:Int) (w:World) (hn:n=xs.length) (hl:Sr fI 1 xs (.slice ad n cap) w) (hx:xs.length≤1000):aD Tryz.prog 185 #[.slice ad n cap,.int .i64 x] w (fun v w'=>v= .bool (xs.any (fun y=>decide (x=y)))∧Ext w w'):=by
 refine aD.ao Tryz.func185 rfl Tryz.ntmps185 rfl ([]) (no) (Mem.nil w) ?_;refine J9 ?_;refine cE Tryz.func195 rfl (fun w hm hc hg=>Hb x w hn (hl.ext hc) hx) ?_;refine J5 ?_;refine qL Tryz.results185 rfl fun w' aj aa az=>?_;exact⟨by show Value.bool _=_;rw [←kx],aa⟩
theorem A4 {n0 i:Nat} {ts:List jn} {c5:Option Addr} {nt bz:Nat} {mt:ab} (e:dP) (w:World) (cu:Sl yI 103 3 n0 ts (.slice c5 nt bz) mt) (hi:i<ts.length) (hM:Mem w mt):aD Tryz.prog 163 #[pT c5 i,.agg (Am e).toArray] w (ec mt (Ub n0 i ts c5 nt bz (wj (ts.getD i default) e) (vx (ts.getD i default) e)) w):=by
 refine aD.ao Tryz.func163 rfl Tryz.ntmps163 rfl (mt++ []) ((eO mt)) aM ?_;refine J2 ?_;refine LM.box rfl rfl (fun b3 xu=>?_);refine J9 ?_;refine LM.rd (aE (j:=1) aB ir Tryz.isAgg3 rfl rfl cJ rfl (by rfl)) ?_;refine J2 ?_;refine LM.aq (t:=10) rfl (fun h1=>?_) (fun h1=>?_)
 ·refine J1 ?_;refine LM.row (vs:=[_,_,_,_]) Tryz.underlying230 Tryz.sizeOf190 Tryz.zeroValue190 rfl rfl rfl rfl rfl rfl (fun b11 Ve=>?_);refine J4 ?_;refine cE Tryz.func185 rfl (fun w hm hc hg=>ze (xs:=[3,7,8,9]) _ w rfl (wB 4 (hm.at b11) rfl rfl (fun _=>rfl)) (by decide)) ?_;refine J3 ?_;refine af.aJ rfl (fun h2=>?_) (fun h2=>?_)
  ·refine J7 ?_;refine qL Tryz.results163 rfl fun w' aj aa az=>?_;obtain ⟨e1,e2⟩:=Y5 (t:=ts.getD i default) (e:=e) (by simp_all) (by rw [←rv];simp_all);rw [e1,e2];exact aY (m':=mt) ⟨rfl,by rw [fZ default hi];exact cu⟩ aj aN aa (ay _ _)
  refine J3 ?_;refine af.draw [(0,0),(1,0),(2,0),(3,0),(4,1),(5,0),(6,1),(7,0),(8,0),(9,0),(10,1),(11,0),(12,0),(13,3),(14,3)] kr kr ?_;refine J4 ?_;refine LD.rd rfl rfl (aE (j:=2) aB ir Tryz.isAgg3 rfl rfl cJ rfl (by rfl)) ?_;refine J4 ?_;refine LD.aq (t:=24) rfl (fun h3=>?_) (fun h3=>?_)
  ·refine J4 ?_;refine LD.tail rfl rfl ?_;refine cU Tryz.func157 rfl (fun w hm hc hg=>bH 4 7 _ w cu hi (hm.pick mt)) cu.bE (fun p hp _=>⟨p,hp,rfl⟩) ?_;rintro Wg AP ⟨rfl,kM⟩ jb;refine J2 ?_;refine QM.qn ?_;refine J2 ?_;refine qL Tryz.results163 rfl fun w' aj aa az=>?_;obtain ⟨e1,e2⟩:=F1 (t:=ts.getD i default) (e:=e) (by rw [←rv];simp_all);rw [e1,e2];refine aY (m':=AP) ⟨?_,?_⟩ aj aN aa jb;(simp only [h1,h2,h3,decide_true,decide_false,Bool.true_and,Bool.false_and,Bool.and_true,Bool.and_false,Bool.not_true,Bool.not_false,Bool.true_or,Bool.false_or,Bool.or_true,Bool.or_false,ne_eq,not_true_eq_false,not_false_eq_true,Bool.and_self];rfl);(simp only [h1,h2,h3,decide_true,decide_false,Bool.true_and,Bool.false_and,Bool.and_true,Bool.and_false,Bool.not_true,Bool.not_false,Bool.true_or,Bool.false_or,Bool.or_true,Bool.or_false,ne_eq,not_true_eq_false,not_false_eq_true,Bool.and_self] at kM ⊢;exact kM)
  refine J4 ?_;refine LD.tail rfl rfl ?_;refine cU Tryz.func157 rfl (fun w hm hc hg=>bH 4 7 _ w cu hi (hm.pick mt)) cu.bE (fun p hp _=>⟨p,hp,rfl⟩) ?_;rintro Wg AP ⟨rfl,kM⟩ jb;refine J2 ?_;refine QM.qn ?_;refine J2 ?_;refine qL Tryz.results163 rfl fun w' aj aa az=>?_;obtain ⟨e1,e2⟩:=F1 (t:=ts.getD i default) (e:=e) (by rw [←rv];simp_all);rw [e1,e2];refine aY (m':=AP) ⟨?_,?_⟩ aj aN aa jb;(simp only [h1,h2,h3,decide_true,decide_false,Bool.true_and,Bool.false_and,Bool.and_true,Bool.and_false,Bool.not_true,Bool.not_false,Bool.true_or,Bool.false_or,Bool.or_true,Bool.or_false,ne_eq,not_true_eq_false,not_false_eq_true,Bool.and_self];rfl);(simp only [h1,h2,h3,decide_true,decide_false,Bool.true_and,Bool.false_and,Bool.and_true,Bool.and_false,Bool.not_true,Bool.not_false,Bool.true_or,Bool.false_or,Bool.or_true,Bool.or_false,ne_eq,not_true_eq_false,not_false_eq_true,Bool.and_self] at kM ⊢;exact kM)
 refine c9 ?_;refine af.draw [(0,0),(1,0),(2,0),(3,0),(4,1),(5,0),(6,1),(7,0),(8,0),(9,0),(10,1),(11,0),(12,0),(13,3),(14,3)] kr kr ?_;refine J4 ?_;refine LD.rd rfl rfl (aE (j:=2) aB ir Tryz.isAgg3 rfl rfl cJ rfl (by rfl)) ?_;refine J4 ?_;refine LD.aq (t:=24) rfl (fun h4=>?_) (fun h4=>?_)
 ·refine J4 ?_;refine LD.tail rfl rfl ?_;refine cU Tryz.func157 rfl (fun w hm hc hg=>bH 4 7 _ w cu hi (hm.pick mt)) cu.bE (fun p hp _=>⟨p,hp,rfl⟩) ?_;rintro Wg AP ⟨rfl,kM⟩ jb;refine J2 ?_;refine QM.qn ?_;refine J2 ?_;refine qL Tryz.results163 rfl fun w' aj aa az=>?_;obtain ⟨e1,e2⟩:=F1 (t:=ts.getD i default) (e:=e) (by rw [←rv];simp_all);rw [e1,e2];refine aY (m':=AP) ⟨?_,?_⟩ aj aN aa jb;(simp only [h1,h4,decide_true,decide_false,Bool.true_and,Bool.false_and,Bool.and_true,Bool.and_false,Bool.not_true,Bool.not_false,Bool.true_or,Bool.false_or,Bool.or_true,Bool.or_false,ne_eq,not_true_eq_false,not_false_eq_true,Bool.and_self];rfl);(simp only [h1,h4,decide_true,decide_false,Bool.true_and,Bool.false_and,Bool.and_true,Bool.and_false,Bool.not_true,Bool.not_false,Bool.true_or,Bool.false_or,Bool.or_true,Bool.or_false,ne_eq,not_true_eq_false,not_false_eq_true,Bool.and_self] at kM ⊢;exact kM)
 refine J4 ?_;refine LD.tail rfl rfl ?_;refine cU Tryz.func157 rfl (fun w hm hc hg=>bH 4 7 _ w cu hi (hm.pick mt)) cu.bE (fun p hp _=>⟨p,hp,rfl⟩) ?_;rintro Wg AP ⟨rfl,kM⟩ jb;refine J2 ?_;refine QM.qn ?_;refine J2 ?_;refine qL Tryz.results163 rfl fun w' aj aa az=>?_;obtain ⟨e1,e2⟩:=F1 (t:=ts.getD i default) (e:=e) (by rw [←rv];simp_all);rw [e1,e2];refine aY (m':=AP) ⟨?_,?_⟩ aj aN aa jb;(simp only [h1,h4,decide_true,decide_false,Bool.true_and,Bool.false_and,Bool.and_true,Bool.and_false,Bool.not_true,Bool.not_false,Bool.true_or,Bool.false_or,Bool.or_true,Bool.or_false,ne_eq,not_true_eq_false,not_false_eq_true,Bool.and_self];rfl);(simp only [h1,h4,decide_true,decide_false,Bool.true_and,Bool.false_and,Bool.and_true,Bool.and_false,Bool.not_true,Bool.not_false,Bool.true_or,Bool.false_or,Bool.or_true,Bool.or_false,ne_eq,not_true_eq_false,not_false_eq_true,Bool.and_self] at kM ⊢;exact kM)
theorem Cu {n0 i:Nat} {ts:List jn} {c5:Option Addr} {nt bz:Nat} {mt:ab} (may:Bool) (w:World) (cu:Sl yI 103 3 n0 ts (.slice c5 nt bz) mt) (hi:i<ts.length) (hM:Mem w mt):aD Tryz.prog 162 #[pT c5 i,.bool may] w (ec mt (Ub n0 i ts c5 nt bz (qN (ts.getD i default) may) (wy (ts.getD i default) may)) w):=by
 refine aD.ao Tryz.func162 rfl Tryz.ntmps162 rfl (mt++ []) ((eO mt)) aM ?_;refine J9 ?_;refine cU Tryz.func157 rfl (fun w hm hc hg=>bH 3 1 may w cu hi (hm.pick mt)) cu.bE (fun p hp _=>⟨p,hp,rfl⟩) ?_;rintro u7 m7 ⟨rfl,Td⟩ K3;refine J1 ?_;refine LM.bj (t:=8) rfl (fun h1=>?_) (fun h1=>?_)
 ·refine gy ?_;refine qL Tryz.results162 rfl fun w' aj aa az=>?_;obtain ⟨e1,e2⟩:=YM h1;rw [e1,e2];exact aY (m':=m7) ⟨rfl,Td⟩ aj aN aa K3
 rw [qE h1,fZ default hi] at Td;refine J3 ?_;refine cU Tryz.func157 rfl (fun w hm hc hg=>bH 6 1 may w Td hi (hm.pick m7)) Td.bE (au K3) ?_;rintro u11 m11 ⟨rfl,Jv⟩ Jo;refine J2 ?_;refine LM.bj (t:=13) rfl (fun h2=>?_) (fun h2=>?_)
 ·refine J8 ?_;refine qL Tryz.results162 rfl fun w' aj aa az=>?_;obtain ⟨e1,e2⟩:=W7 h1 h2;rw [e1,e2];exact aY (m':=m11) ⟨rfl,Jv⟩ aj aN aa (ar K3 Jo)
 rw [qE h2,fZ default hi] at Jv;refine J3 ?_;refine cU Tryz.func157 rfl (fun w hm hc hg=>bH 7 1 may w Jv hi (hm.pick m11)) Jv.bE (au (ar K3 Jo)) ?_;rintro u16 m16 ⟨rfl,aeT⟩ Ks;refine J5 ?_;refine qL Tryz.results162 rfl fun w' aj aa az=>?_;obtain ⟨e1,e2⟩:=aaj h1 h2;rw [e1,e2];exact aY (m':=m16) ⟨rfl,aeT⟩ aj aN aa (ar K3 (ar Jo Ks))
theorem EI {n0 b:Nat} {s:dm} {x:bU} {m:ab} (id:Int) (w:World) (h:pR n0 b s x m) (hM:Mem w m):aD Tryz.prog 164 #[.pointer (some ⟨b,0,none⟩),.int .i64 id] w (fun u w'=>u= .bool (ui x id)∧Ext w w'):=by
 have hW:=h;obtain ⟨c5,nt,bz,dT,bh,mt,mr,mw,rfl,dN,cu,ew,cO,hk,hb⟩:=h;have fC:=hk.hl;have NB:=hk.l;refine aD.ao Tryz.func164 rfl Tryz.ntmps164 rfl (qS b s x.now c5 nt bz dT bh::(mt++(mr++(mw++ [])))) (no) aM ?_;refine yx ?_;refine af.aP (α:=Nat) (fun l=>[(12,.int .i64 (l:Nat))]) [(0,_),(1,_),(11,_)] (fun l=>qS b s x.now c5 nt bz dT bh::(mt++(mr++(mw++ [])))) (fun l=>l≤s.ln∧∀j,j<l→nG x id j=false) (fun l=>s.ln-l) (0) cF aN ⟨Nat.zero_le _,fun j hj=>absurd hj (Nat.not_lt_zero _)⟩ ?_;rintro l ⟨hl,h0⟩;change af _ _ _ _ _ _ _ (qS b s x.now c5 nt bz dT bh::(mt++(mr++(mw++ [])))) _ _ _;refine J6 ?_;refine af.ak rfl (fun h1=>?_) (fun h1=>?_)
 ·refine py ?_;refine cE Tryz.func182 rfl (fun w hm hc hg=>sf _ l w hW om (hm.pick (qS b s x.now c5 nt bz dT bh::(mt++(mr++mw))))) ?_;refine J2 ?_;refine af.aJ rfl (fun h2=>?_) (fun h2=>?_)
  ·refine c9 ?_;refine qL Tryz.results164 rfl fun w' aj aa az=>?_;refine ⟨?_,aa⟩;show Value.bool false=Value.bool (ui x id);unfold ui;rw [show (List.range x.sh.length).all (fun l=> !nG x id l)=false from List.all_eq_false.2 ⟨l,List.mem_range.2 om,by rw [h2];simp⟩]
  refine J7 ?_;refine aK (l+1) ?_ ?_
  · exact⟨by omega,fun j hj=>by rcases Nat.lt_or_ge j l with q|q;exact h0 j q;rw [show j=l by omega];exact h2⟩
  · omega
 refine c9 ?_;refine qL Tryz.results164 rfl fun w' aj aa az=>?_;refine ⟨?_,aa⟩;show Value.bool true=Value.bool (ui x id);unfold ui;rw [show (List.range x.sh.length).all (fun l=> !nG x id l)=true from List.all_eq_true.2 (fun j hj=>by rw [h0 j (by have:=List.mem_range.1 hj;omega)];rfl)]
def Wx (n0 b:Nat) (s:dm) (x:bU) (c5:Option Addr) (nt bz:Nat) (m:ab):Prop:=∃dT bh mt mr mw,m=iy b s x c5 nt bz dT bh mt mr mw∧nt=x.ts.length∧Sl yI 103 3 n0 x.ts (.slice c5 nt bz) mt∧Sl fU 41 1 n0 x.rd (.slice dT s.ln s.ln) mr∧Sl fU 41 1 n0 x.wr (.slice bh s.ln s.ln) mw∧KS s x∧n0≤b
theorem Wx.m {n0 b:Nat} {s:dm} {x:bU} {c5:Option Addr} {nt bz:Nat} {m:ab} (h:Wx n0 b s x c5 nt bz m):pR n0 b s x m:=by
  obtain ⟨dT,bh,mt,mr,mw,h⟩:=h;exact⟨c5,nt,bz,dT,bh,mt,mr,mw,h⟩
theorem JQ {n0 b:Nat} {s:dm} {x:bU} {m:ab} (OU:0<s.ls.length→kc s.la<n0) (h:pR n0 b s x m):0<s.ls.length→¬eO m (kc s.la):=fun q ⟨p,hp,he⟩=>by have:=h.ge p hp;have:=OU q;omega
theorem va {x:bU} {e:dP} (h:nD x e=false):It x e=x:=if_neg (by rw [h];simp)
theorem eG {x:bU} {i:Nat} {e:dP} (h:dK x (bL x i) e=false):nT x i e=x:=if_neg (by rw [h];simp)
theorem Gp {x:bU} {e:dP} {may:Bool} (h:n3 x e may=false):tn x e may=x:=if_neg (by rw [h];simp)
theorem F7 {x:bU} {i:Nat} {e:dP} (h:xI x (bL x i) e=false):Ay x i e=x:=if_neg (by rw [h];simp)
theorem Ku {α:Type} {l:List α} {i:Nat} {x d:α} (h:i<l.length):(l.set i x).getD i d=x:=by
  rw [List.getD_eq_getElem?_getD,List.getElem?_set,if_pos rfl,if_pos h];rfl
theorem U1 {x:bU} {i:Nat} {e:dP} {nP:List jn} (h:cL (x.ts.getD i default) 2 (wv x e)=true) (hi:i<x.ts.length) (ht:nP=x.ts.set i (eH (x.ts.getD i default) 2 4 (wv x e))):nP.set i {nP.getD i default with lock:=e.l} =x.ts.set i {bL x i with how:=4,lock:=e.l} :=by
  rw [ht,List.set_set,Ku hi];unfold eH;rw [h];rfl
theorem BJ {n0 b:Nat} {s:dm} {x:bU} {m:ab} (e:dP) (w:World) (h:pR n0 b s x m) (cm:n0≤w.heap.size) (hM:Mem w m):aD Tryz.prog 123 #[.pointer (some ⟨b,0,none⟩),.agg (Am e).toArray] w (ec m (fun u m'=>u= .bool (nD x e)∧pR n0 b s (It x e) m') w):=by
 obtain ⟨c5,nt,bz,dT,bh,mt,mr,mw,rfl,dN,cu,ew,cO,hk,hb⟩:=h;have hkc:=hk.c;have hkt:=hk.t;refine aD.ao Tryz.func123 rfl Tryz.ntmps123 rfl (qS b s x.now c5 nt bz dT bh::(mt++(mr++(mw++ [])))) ((eO (iy b s x c5 nt bz dT bh mt mr mw))) aM ?_;refine J2 ?_;refine LM.box rfl rfl (fun b3 xu=>?_);refine J5 ?_;refine af.draw [(0,0),(1,1),(2,0),(3,0),(4,0),(5,1),(6,0),(7,0),(8,0),(9,0),(10,1),(11,0),(12,0),(13,0),(14,0),(15,1),(16,0),(17,0),(18,0),(19,0),(20,1),(21,0),(22,0),(23,0),(24,0),(25,1),(26,0),(27,0)] kr kr ?_;refine J9 ?_;refine LD.aq (t:=13) rfl (fun h1=>?_) (fun h1=>?_)
 ·refine J29 ?_;refine qL Tryz.results123 rfl fun w' aj aa az=>?_;have dw:nD x e=false:=(by unfold nD;first|(simp_all;done)|(simp_all;intros;omega));rw [dw,va dw];exact bo dN cu ew cO hk hb aj aN aa bK c7 c7 c7
 refine J5 ?_;refine LD.aq (t:=18) rfl (fun h2=>?_) (fun h2=>?_)
 ·refine J24 ?_;refine qL Tryz.results123 rfl fun w' aj aa az=>?_;have dw:nD x e=false:=(by unfold nD;first|(simp_all;done)|(simp_all;intros;omega));rw [dw,va dw];exact bo dN cu ew cO hk hb aj aN aa bK c7 c7 c7
 refine J5 ?_;refine LD.aq (t:=23) rfl (fun h3=>?_) (fun h3=>?_)
 ·refine O2 ?_;refine qL Tryz.results123 rfl fun w' aj aa az=>?_;have dw:nD x e=false:=(by unfold nD;first|(simp_all;done)|(simp_all;intros;omega));rw [dw,va dw];exact bo dN cu ew cO hk hb aj aN aa bK c7 c7 c7
 refine c9 ?_;refine af.ak rfl (fun h4=>?_) (fun h4=>?_)
 ·refine J7 ?_;refine qL Tryz.results123 rfl fun w' aj aa az=>?_;have dw:nD x e=false:=(by unfold nD;first|(simp_all;done)|(simp_all;intros;omega));rw [dw,va dw];exact bo dN cu ew cO hk hb aj aN aa bK c7 c7 c7
 refine J3 ?_;refine af.keep (qS b s x.now c5 nt bz dT bh::Qv b3 e:: []) (fun _=>True) (.one 0 0 (.one 1 0 (.one 2 0 (.one 3 0 (.one 4 1 (.one 5 0 (.one 6 1 (.one 7 0 (.one 8 2 (.one 9 2 (.one 10 0 (.one 11 0 (.last 12))))))))))))) kr kr aN (fun _ _=>trivial) ?_;refine J7 ?_;refine KD.val rfl rfl (aC (cs:=(yI ⟨e.n,1,0⟩).toArray) rfl kr) ?_;refine J1 ?_;refine LM.single Tryz.underlying98 Tryz.sizeOf103 Tryz.zeroValue103 rfl rfl rfl rfl rfl (fun b41 aaG=>?_);refine J3 ?_;refine LM.app (a:=(⟨e.n,1,0⟩:jn)) Tryz.underlying98 Tryz.typeInfo103 rfl rfl rfl rfl rfl rfl rfl aB (by rfl) ir (by intro _ u hu;simp [yI] at hu;(repeat (first|(rcases hu with rfl|hu)|subst hu|rfl))) (by first|exact Nat.le_refl _|omega) (fun p hp _=>⟨p,by simp [hp],rfl⟩) (by first|omega|(unfold maxLen;omega)) (by simp only [Tryz.t103];omega) (fun Ph Xw FY NV Zr MH qh=>?_);refine J4 ?_;refine KD.last rfl ?_;refine LM.st Tryz.sizeOf98 rfl rfl rfl dW rfl sC ?_;refine J1 ?_;refine QM.qn ?_;refine J7 ?_;refine qL Tryz.results123 rfl fun w' aj aa az=>?_;have dw:nD x e=true:=(by unfold nD;simp_all);have e1:It x e= {x with ts:=x.ts++ [⟨e.n,1,0⟩] } :=if_pos dw;rw [dw,e1];exact bo (x:= {x with ts:=x.ts++ [⟨e.n,1,0⟩] }) (by show Xw=(x.ts++ [_]).length;rw [List.length_append,List.length_singleton];omega) MH ew cO (hk.of rfl rfl (by show (x.ts++ [_]).length≤64;rw [List.length_append,List.length_singleton];omega) rfl rfl) hb aj aN aa bK (dc qh (fun p hp=>by simp [hp])) c7 c7
theorem xo {n0 b:Nat} {s:dm} {x:bU} {m:ab} (e:dP) (may:Bool) (w:World) (h:pR n0 b s x m) (h0:0≤e.l) (hl:e.l<s.ln) (hM:Mem w m):aD Tryz.prog 160 #[.pointer (some ⟨b,0,none⟩),.agg (Am e).toArray,.bool may] w (ec m (fun u m'=>u= .bool (n3 x e may)∧pR n0 b s (tn x e may) m') w):=by
 refine aD.ao Tryz.func160 rfl Tryz.ntmps160 rfl (m++ []) ((eO m)) aM ?_;refine J2 ?_;refine LM.box rfl rfl (fun b4 xw=>?_);refine J9 ?_;refine LM.bj (t:=9) rfl (fun h1=>?_) (fun h1=>?_)
 ·refine yx ?_;refine qL Tryz.results160 rfl fun w' aj aa az=>?_;have dw:n3 x e may=false:=(by unfold n3;simp_all);rw [dw,Gp dw];exact aY (m':=m) ⟨rfl,h⟩ aj aN aa (ay _ _)
 refine J8 ?_;refine cE Tryz.func182 rfl (fun w hm hc hg=>oN _ _ w h h0 hl (hm.pick m)) ?_;refine J4 ?_;refine af.aJ rfl (fun h2=>?_) (fun h2=>?_)
 ·refine J7 ?_;refine qL Tryz.results160 rfl fun w' aj aa az=>?_;have dw:n3 x e may=false:=(by unfold n3;simp_all);rw [dw,Gp dw];exact aY (m':=m) ⟨rfl,h⟩ aj aN aa (ay _ _)
 refine J9 ?_;refine cU Tryz.func183 rfl (fun w hm hc hg=>E4 _ _ w h h0 hl (hm.pick m)) h.bE (fun p hp _=>⟨p,hp,rfl⟩) ?_;rintro u23 m23 Dg Re;refine J8 ?_;refine qL Tryz.results160 rfl fun w' aj aa az=>?_;have dw:n3 x e may=true:=(by unfold n3;simp_all);rw [dw,show tn x e may=CM x e.t e.l.toNat from if_pos dw];exact aY (m':=m23) ⟨rfl,Dg⟩ aj aN aa Re
theorem CS {n0 b nt bz i:Nat} {s:dm} {x:bU} {c5:Option Addr} {m:ab} (e:dP) (w:World) (h:Wx n0 b s x c5 nt bz m) (hi:i<x.ts.length) (h0:0≤e.l) (hl:e.l<s.ln) (hM:Mem w m):aD Tryz.prog 161 #[.pointer (some ⟨b,0,none⟩),pT c5 i,.agg (Am e).toArray] w (ec m (fun u m'=>u= .bool (xI x (bL x i) e)∧pR n0 b s (Ay x i e) m') w):=by
 obtain ⟨dT,bh,mt,mr,mw,rfl,dN,cu,ew,cO,hk,hb⟩:=h;have W5:=hk.r;have QI:=hk.w;refine aD.ao Tryz.func161 rfl Tryz.ntmps161 rfl (qS b s x.now c5 nt bz dT bh::(mt++(mr++(mw++ [])))) ((eO (iy b s x c5 nt bz dT bh mt mr mw))) aM ?_;refine J2 ?_;refine LM.box rfl rfl (fun b5 AA=>?_);refine J4 ?_;refine af.draw [(0,0),(1,0),(2,0),(3,1),(4,0),(5,1),(6,0),(7,1),(8,0),(9,0),(10,0),(11,1),(12,0),(13,1),(14,0),(15,1),(16,0),(17,0)] kr kr ?_;refine J6 ?_;refine LD.val rfl rfl (bF j3 Tryz.underlying46 Tryz.sizeOf41 rfl rfl om) ?_;refine LD.rd rfl rfl (bd aB ir Tryz.isAgg41 rfl rfl (by exact aO 0#64 cK) (by rfl)) ?_;refine J6 ?_;refine LD.val rfl rfl (bF j3 Tryz.underlying46 Tryz.sizeOf41 rfl rfl om) ?_;refine LD.rd rfl rfl (bd aB ir Tryz.isAgg41 rfl rfl (by exact aO 0#64 cK) (by rfl)) ?_;refine LD.val rfl rfl (og rfl rfl) ?_;refine J8 ?_;refine LM.val (fQ (b:=0#64) rfl rfl) ?_;refine J1 ?_;refine LM.aq (t:=28) rfl (fun h1=>?_) (fun h1=>?_)
 ·have gD:(!aR (x.rd.getD e.l.toNat 0#64|||x.wr.getD e.l.toNat 0#64) e.t)=wv x e:=(by unfold wv;rw [decide_eq_true (show qe x e.l.toNat|||ql x e.l.toNat≠0#64 from h1)];rfl)
  refine J5 ?_;refine cE Tryz.func184 rfl (fun w hm hc hg=>yv _ _ w) ?_;refine J2 ?_;refine cU Tryz.func157 rfl (fun w hm hc hg=>bH 2 4 _ w cu hi (hm.pick mt)) cu.bE (fun p hp _=>⟨p,by simp [hp],rfl⟩) ?_;rintro u35 Xv ⟨rfl,sT⟩ qm;obtain ⟨nP,iJ,sT⟩:∃nP,nP=_∧Sl yI 103 3 n0 nP (.slice c5 nt bz) Xv:=⟨_,rfl,sT⟩;have kN:nP.length=x.ts.length:=(by rw [iJ,List.length_set])
  refine J3 ?_;refine af.aJ rfl (fun h2=>?_) (fun h2=>?_)
  ·refine J7 ?_;refine qL Tryz.results161 rfl fun w' aj aa az=>?_;have jq:cL (x.ts.getD i default) 2 (wv x e)=false:=(by rw [←gD];first|simpa using h2|(unfold cL;simp));have dw:xI x (bL x i) e=false:=jq;rw [dw,F7 dw];rw [gD,qE jq,fZ default hi] at iJ;rw [iJ] at sT;exact bo dN sT ew cO hk hb aj aN aa bK (dc (x:=mt) qm (fun p hp=>by simp [hp])) c7 c7
  refine J9 ?_;refine LM.fR ({nP.getD i default with lock:=e.l}) (j:=2) aB ir Tryz.sizeOf3 rfl rfl rfl cJ rfl (by decide) (by rfl) rfl (fun p hp bD=>au (dc (x:=mt) qm (fun p hp=>by simp [hp])) p hp bD) (fun jh cG cY=>?_);refine J8 ?_;refine qL Tryz.results161 rfl fun w' aj aa az=>?_;rw [gD] at iJ h2;have jq:cL (x.ts.getD i default) 2 (wv x e)=true:=(by simpa using h2);have dw:xI x (bL x i) e=true:=jq;rw [dw,show Ay x i e=x.put i {bL x i with how:=4,lock:=e.l} from if_pos dw];have et:=U1 jq hi iJ;rw [et] at cG;exact bo (x:=x.put i {bL x i with how:=4,lock:=e.l}) (by show nt=(x.ts.set i _).length;rw [List.length_set];exact dN) cG ew cO (hk.of rfl rfl (by show (x.ts.set i _).length≤64;rw [List.length_set];exact hk.t) rfl rfl) hb aj aN aa bK (dc (ar qm (jN cY)) (fun p hp=>by simp [hp])) c7 c7
 have gD:false=wv x e:=(by unfold wv;rw [decide_eq_false (show¬(qe x e.l.toNat|||ql x e.l.toNat≠0#64) from h1)];rfl)
 refine J6 ?_;refine cU Tryz.func157 rfl (fun w hm hc hg=>bH 2 4 _ w cu hi (hm.pick mt)) cu.bE (fun p hp _=>⟨p,by simp [hp],rfl⟩) ?_;rintro u35 Xv ⟨rfl,sT⟩ qm;obtain ⟨nP,iJ,sT⟩:∃nP,nP=_∧Sl yI 103 3 n0 nP (.slice c5 nt bz) Xv:=⟨_,rfl,sT⟩;have kN:nP.length=x.ts.length:=(by rw [iJ,List.length_set])
 refine J3 ?_;refine af.aJ rfl (fun h3=>?_) (fun h3=>?_)
 ·refine J7 ?_;refine qL Tryz.results161 rfl fun w' aj aa az=>?_;have jq:cL (x.ts.getD i default) 2 (wv x e)=false:=(by rw [←gD];first|simpa using h2|(unfold cL;simp));have dw:xI x (bL x i) e=false:=jq;rw [dw,F7 dw];rw [gD,qE jq,fZ default hi] at iJ;rw [iJ] at sT;exact bo dN sT ew cO hk hb aj aN aa bK (dc (x:=mt) qm (fun p hp=>by simp [hp])) c7 c7
 refine J9 ?_;refine LM.fR ({nP.getD i default with lock:=e.l}) (j:=2) aB ir Tryz.sizeOf3 rfl rfl rfl cJ rfl (by decide) (by rfl) rfl (fun p hp bD=>au (dc (x:=mt) qm (fun p hp=>by simp [hp])) p hp bD) (fun jh cG cY=>?_);refine J8 ?_;refine qL Tryz.results161 rfl fun w' aj aa az=>?_
 exfalso;unfold cL at h3;simp at h3
end Go.Eng
