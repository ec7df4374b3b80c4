/- Who waits for whom: what is come to, what comes, cycles, chains; no program. No condition. -/
import Derived.Test.YtdimfmnimobmfaaGreatDoorM2
import Derived.Lib.ItoaNum
import Derived.Lib.SlTrimSet
import Derived.Lib.Bytealg
import Derived.Test.YtdimfmnimobmfaaGreatDoorRows
set_option linter.unusedVariables false
set_option linter.unusedSectionVars false
set_option linter.unusedSimpArgs false
set_option maxRecDepth 100000
set_option maxHeartbeats 4000000
attribute [local irreducible] Go.Eng.LM Go.Eng.LD Go.Eng.KD Go.Eng.af Go.Eng.QM
namespace Go.Eng
open Go Go.RowKit
variable {a b e hi last lo:Int} {nm s t:List UInt8} {ops xs:List bO} {ah ahead cap i j k n n0 w:Nat} {ad:Option Addr} {x:Qm}
abbrev Gr:=List (BitVec 64)
def ot (G:Gr) (i:Nat):BitVec 64:=G.getD i 0#64
inductive iD (G:Gr) (s:BitVec 64):Nat->Prop
  |base {i:Nat} :aq s i=true->iD G s i
  |step {j i:Nat} :iD G s j->aq (ot G j) i=true->iD G s i
theorem iD.lt {G:Gr} {s:BitVec 64} (h:iD G s i):i<64:=by
  cases h with
  |base h=>have:=gk h;omega
  |step _ h=>have:=gk h;omega
theorem iD.mono {G G':Gr} {s s':BitVec 64} (h:iD G s i) (hG:∀j k:Nat,aq (ot G j) k=true->aq (ot G' j) k=true) (hs:∀k:Nat,aq s k=true->aq s' k=true):iD G' s' i:=by
  induction h with
  |base h=>exact .base (hs _ h)
  |step _ h ih=>exact .step ih (hG _ _ h)
theorem iD.trans {G:Gr} {s:BitVec 64} (h:iD G s i) (hk:iD G (ot G i) k):iD G s k:=by
  induction hk with
  |base h2=>exact .step h h2
  |step _ h2 ih=>exact .step ih h2
theorem iD.sub {G:Gr} {s t:BitVec 64} (h:iD G t k) (hs:∀i:Nat,aq t i=true->iD G s i):iD G s k:=by
  induction h with
  |base h=>exact hs _ h
  |step _ h ih=>exact .step ih h
/-! how many -/
def ep (s:BitVec 64):Nat:=(ek s).length
theorem filter_lt {α:Type} {p q:α->Bool} :∀(l:List α),(∀x∈l,p x=true->q x=true)->(∃x∈l,q x=true/\p x=false)->(l.filter p).length<(l.filter q).length
  | [],_,h=>by obtain ⟨x,hx,_⟩:=h;cases hx
  |a::l,hpq,hex=>by
    have hle:∀l:List α,(∀x∈l,p x=true->q x=true)->(l.filter p).length<=(l.filter q).length:=by
      intro l
      induction l with
      |nil=>intro _;exact Nat.le_refl _
      |cons a l ih=>
        intro h;have h1:=ih (fun x hx=>h x (List.mem_cons_of_mem _ hx));have h2:=h a (List.mem_cons_self ..);simp only [List.filter_cons];cases hp:p a<;>cases hq:q a<;>simp<;>first|omega|(rw [hp,hq] at h2;simp at h2)
    have h0:=hle l (fun x hx=>hpq x (List.mem_cons_of_mem _ hx));have ha:=hpq a (List.mem_cons_self ..);obtain ⟨x,hx,h1,h2⟩:=hex;simp only [List.filter_cons];rcases List.mem_cons.1 hx with rfl|hx
    ·rw [h1,h2];simp;omega
    · have ih:=filter_lt l (fun x hx=>hpq x (List.mem_cons_of_mem _ hx)) ⟨x,hx,h1,h2⟩
      cases hp:p a<;>cases hq:q a<;>simp<;>first|omega|(rw [hp,hq] at ha;simp at ha)
theorem s8 {s t:BitVec 64} (h:∀k:Nat,aq s k=true->aq t k=true) (hi:aq t i=true) (hn:aq s i=false):ep s<ep t:=by
  have hr:=gk hi;exact filter_lt _ (fun k _ hk=>by have:=h k;rw [bz,bz] at this;exact this hk) ⟨i,List.mem_range.2 om,by rw [<-bz];exact hi,by rw [<-bz];exact hn⟩
theorem dO (s:BitVec 64):ep s<=64:=by unfold ep ek;refine Nat.le_trans (List.length_filter_le _ _) ?_;simp
theorem Kr {s t:BitVec 64} (h:¬t&&& ~~~s=0#64):∃i:Nat,aq t i=true/\aq s i=false:=by
  apply Classical.byContradiction;intro hn
  apply h;apply Cg.2
  intro i hi ht;cases hs:aq s i
  ·exact absurd ⟨i,ht,hs⟩ hn
  ·rfl
/-! all that is come to -/
def Clo (G:Gr) (X:BitVec 64):Prop:=∀j i:Nat,aq X j=true->aq (ot G j) i=true->aq X i=true
structure Cl (G:Gr) (s X:BitVec 64):Prop where
  sup:∀i:Nat,aq s i=true->aq X i=true
  sound:∀i:Nat,aq X i=true->iD G s i
  clo:Clo G X
theorem Cl.iff {G:Gr} {s X:BitVec 64} (h:Cl G s X) (i:Nat):aq X i=true↔iD G s i:=by
  refine ⟨h.sound i,fun hr=>?_⟩
  induction hr with
  |base hb=>exact h.sup _ hb
  |step _ hb ih=>exact h.clo _ _ ih hb
theorem Cl.uniq {G:Gr} {s X Y:BitVec 64} (h:Cl G s X) (k:Cl G s Y):X=Y:=ss (fun i _=>by
  rw [Bool.eq_iff_iff,h.iff,k.iff])
def stepG (G:Gr) (s:BitVec 64):BitVec 64:=(List.range 64).foldl (fun a (i:Nat)=>if aq s i=true then a|||ot G i else a) s
theorem xO (G:Gr) (s:BitVec 64):∀(l:List Nat) (a:BitVec 64) (k:Nat),aq (l.foldl (fun a (i:Nat)=>if aq s i=true then a|||ot G i else a) a) k=true↔aq a k=true\/∃i∈l,aq s i=true/\aq (ot G i) k=true
  | [],a,k=>by simp
  |i::l,a,k=>by
    rw [List.foldl_cons,xO G s l]
    by_cases h:aq s i=true
    · rw [if_pos h,cO,Bool.or_eq_true]
      constructor
      · rintro ((h1|h1)|⟨j,hj,h1⟩)
        ·exact .inl h1
        ·exact .inr ⟨i,List.mem_cons_self ..,h,h1⟩
        ·exact .inr ⟨j,List.mem_cons_of_mem _ hj,h1⟩
      · rintro (h1|⟨j,hj,h1⟩)
        ·exact .inl (.inl h1)
        · rcases List.mem_cons.1 hj with rfl|hj
          ·exact .inl (.inr h1.2)
          ·exact .inr ⟨j,hj,h1⟩
    · rw [if_neg h]
      constructor
      · rintro (h1|⟨j,hj,h1⟩)
        ·exact .inl h1
        ·exact .inr ⟨j,List.mem_cons_of_mem _ hj,h1⟩
      · rintro (h1|⟨j,hj,h1⟩)
        ·exact .inl h1
        · rcases List.mem_cons.1 hj with rfl|hj
          ·exact absurd h1.1 h
          ·exact .inr ⟨j,hj,h1⟩
theorem uz (G:Gr) (s:BitVec 64) (k:Nat):aq (stepG G s) k=true↔aq s k=true\/∃i:Nat,aq s i=true/\aq (ot G i) k=true:=by
  unfold stepG;rw [xO]
  constructor
  · rintro (h|⟨i,_,h⟩)
    ·exact .inl h
    ·exact .inr ⟨i,h⟩
  · rintro (h|⟨i,h⟩)
    ·exact .inl h
    ·exact .inr ⟨i,List.mem_range.2 (by have:=gk h.1;omega),h⟩
def ovF (G:Gr):Nat->BitVec 64->BitVec 64
  |0,s=>s
  |n+1,s=>if stepG G s=s then s else ovF G n (stepG G s)
def iH (G:Gr) (s:BitVec 64):BitVec 64:=ovF G 65 s
theorem Ov (G:Gr):∀(n:Nat) (s:BitVec 64),65<=n+ep s->Cl G s (ovF G n s)
  |0,s,h=>by have:=dO s;omega
  |n+1,s,h=>by
    rw [ovF]
    by_cases e:stepG G s=s
    · rw [if_pos e]
      exact⟨fun _ h=>h,fun i h=> .base h,fun j i hj hi=>by rw [<-e,uz];exact .inr ⟨j,hj,hi⟩⟩
    · rw [if_neg e]
      have WG:∀k:Nat,aq s k=true->aq (stepG G s) k=true:=fun k hk=>(uz G s k).2 (.inl hk)
      obtain ⟨i,h1,h2⟩:∃i:Nat,aq (stepG G s) i=true/\aq s i=false:=by
        apply Classical.byContradiction;intro hn;apply e
        apply ss;intro k hk
        cases h1:aq s k
        · cases h2:aq (stepG G s) k
          ·rfl
          ·exact absurd ⟨k,h2,h1⟩ hn
        ·exact WG k h1
      have hc:=s8 WG h1 h2;have ih:=Ov G n (stepG G s) om;refine ⟨fun i hi=>ih.sup i (WG i hi),fun i hi=>(ih.sound i hi).sub (fun k hk=>?_),ih.clo⟩;rcases (uz G s k).1 hk with h|⟨j,hj,hk⟩
      ·exact .base h
      ·exact .step (.base hj) hk
theorem PD (G:Gr) (s:BitVec 64):Cl G s (iH G s):=Ov G 65 s om
theorem eg (G:Gr) (s:BitVec 64) (i:Nat):aq (iH G s) i=true↔iD G s i:=(PD G s).iff i
theorem Gj {G:Gr} {s X:BitVec 64} (h:Cl G s X):X=iH G s:=h.uniq (PD G s)
/-! one is set anew -/
theorem jA {G:Gr} (h:G.length=64) (hw:w<64) (s:BitVec 64) (j:Nat):ot (G.set w s) j=if j=w then s else ot G j:=by
  unfold ot
  simp only [List.getD_eq_getElem?_getD,List.getElem?_set]
  by_cases e:w=j
  ·subst e;simp [h,hw]
  ·rw [if_neg e,if_neg (Ne.symm e)]
theorem ns {G:Gr} (h:G.length=64) (hw:w<64) (hb:aq (ot (G.set w 0#64) j) k=true):j≠w/\aq (ot G j) k=true:=by
  rw [jA h hw] at hb
  by_cases e:j=w
  ·rw [if_pos e,bC] at hb;cases hb
  ·rw [if_neg e] at hb;exact⟨e,hb⟩
theorem SU {G:Gr} (h:G.length=64) (hw:w<64) {s:BitVec 64} (hr:iD G s i):iD (G.set w 0#64) s i\/iD (G.set w 0#64) s w:=by
  induction hr with
  |base hb=>exact .inl (.base hb)
  | @step j i _ hb ih=>
    rcases ih with ih|ih
    · by_cases e:j=w
      ·subst e;exact .inr ih
      ·exact .inl (.step ih (by rw [jA h hw,if_neg e];exact hb))
    ·exact .inr ih
theorem xU {G:Gr} (h:G.length=64) (hw:w<64) {s:BitVec 64}:iD (G.set w 0#64) s w↔iD G s w:=by
  constructor
  ·intro hr;exact hr.mono (fun j k hb=>(ns h hw hb).2) (fun _ h=>h)
  ·intro hr;rcases SU h hw hr with h1|h1<;>exact h1
theorem DE {G:Gr} (h:G.length=64) (hw:w<64) (s:BitVec 64):aq (iH (G.set w 0#64) s) (w:Int)=aq (iH G s) (w:Int):=by
  rw [Bool.eq_iff_iff,eg,eg];exact xU h hw
def jT (G:Gr):Prop:=∀i:Nat,¬iD G (ot G i) i
theorem H0 {G:Gr} (h:G.length=64) (hw:w<64) {s:BitVec 64} (hG:jT G) (hs:¬iD G s w):jT (G.set w s):=by
  have hlen:(G.set w s).length=64:=by rw [List.length_set];exact h
  have e2:(G.set w s).set w 0#64=G.set w 0#64:=by rw [List.set_set]
  have ha:¬iD (G.set w s) s w:=by
    intro hr;have h1:=(xU hlen hw).2 hr;rw [e2] at h1;exact hs ((xU h hw).1 h1)
  have up:∀{t:BitVec 64} {i:Nat},iD (G.set w 0#64) t i->iD (G.set w s) t i:=fun hr=>hr.mono (fun j k hb=>by
    obtain ⟨e,hb⟩:=ns h hw hb;rw [jA h hw,if_neg e];exact hb) (fun _ h=>h)
  have part:∀{t:BitVec 64} {i:Nat},iD (G.set w s) t i->iD (G.set w 0#64) t i\/(iD (G.set w 0#64) t w/\iD (G.set w s) s i):=by
    intro t i hr
    induction hr with
    |base hb=>exact .inl (.base hb)
    | @step j i _ hb ih=>
      rcases ih with ih|⟨ih1,ih2⟩
      · by_cases e:j=w
        · subst e
          rw [jA h hw,if_pos rfl] at hb;exact .inr ⟨ih,.base hb⟩
        · rw [jA h hw,if_neg e] at hb
          exact .inl (.step ih (by rw [jA h hw,if_neg e];exact hb))
      ·exact .inr ⟨ih1,.step ih2 hb⟩
  intro i hr
  by_cases e:i=w
  ·subst e;rw [jA h hw,if_pos rfl] at hr;exact ha hr
  · rw [jA h hw,if_neg e] at hr
    rcases part hr with h1|⟨h1,h2⟩
    ·exact hG i (h1.mono (fun j k hb=>(ns h hw hb).2) (fun _ h=>h))
    · refine ha (h2.trans ?_)
      rw [jA h hw,if_neg e];exact up h1
def kk:Gr:=List.replicate 64 0#64
theorem zS:kk.length=64:=by simp [kk]
theorem sJ (i:Nat):ot kk i=0#64:=by
  unfold ot kk;rw [List.getD_eq_getElem?_getD,List.getElem?_replicate];split<;>rfl
theorem B5:jT kk:=by
  intro i h;rw [sJ] at h
  have:∀{s:BitVec 64} {k:Nat},iD kk s k->s=0#64->False:=by
    intro s k hr
    induction hr with
    |base hb=>intro e;subst e;rw [bC] at hb;cases hb
    |step _ hb _=>intro _;rw [sJ,bC] at hb;cases hb
  exact this h rfl
/-! what comes to one -/
def mkS (p:Nat->Bool):BitVec 64:=(List.range 64).foldl (fun a (i:Nat)=>if p i=true then bL a i else a) 0#64
theorem Da (p:Nat->Bool):∀(l:List Nat) (a:BitVec 64) (k:Nat),k<64->(aq (l.foldl (fun a (i:Nat)=>if p i=true then bL a i else a) a) k=true↔aq a k=true\/(k∈l/\p k=true))
  | [],a,k,_=>by simp
  |i::l,a,k,hk=>by
    rw [List.foldl_cons,Da p l _ k hk]
    by_cases h:p i=true
    · rw [if_pos h,dZ,Bool.or_eq_true]
      simp only [Bool.and_eq_true,decide_eq_true_eq,List.mem_cons]
      constructor
      · rintro ((h1|⟨h1,_⟩)|⟨h1,h2⟩)
        ·exact .inl h1
        · have:k=i:=by omega
          subst this;exact .inr ⟨.inl rfl,h⟩
        ·exact .inr ⟨.inr h1,h2⟩
      · rintro (h1|⟨rfl|h1,h2⟩)
        ·exact .inl (.inl h1)
        ·exact .inl (.inr ⟨rfl,by omega,by omega⟩)
        ·exact .inr ⟨h1,h2⟩
    · rw [if_neg h]
      constructor
      · rintro (h1|⟨h1,h2⟩)
        ·exact .inl h1
        ·exact .inr ⟨List.mem_cons_of_mem _ h1,h2⟩
      · rintro (h1|⟨h1,h2⟩)
        ·exact .inl h1
        · rcases List.mem_cons.1 h1 with rfl|h1
          ·exact absurd h2 h
          ·exact .inr ⟨h1,h2⟩
theorem Ti (p:Nat->Bool) (hk:k<64):aq (mkS p) k=p k:=by
  rw [Bool.eq_iff_iff];unfold mkS;rw [Da p _ _ k hk,bC];simp [hk]
def bhd (G:Gr) (w:Nat):BitVec 64:=mkS (fun i=>aq (iH G (ot G i)) w)
theorem SG (G:Gr) (w i:Nat) (hi:i<64):aq (bhd G w) i=true↔iD G (ot G i) w:=by
  unfold bhd;rw [Ti _ hi,eg]
/-! chains -/
structure Met (G:Gr) (V:BitVec 64) (w:Int):Prop where
  reach:∀i:Nat,aq V i=true->0<=w->w<64->iD G (ot G i) w.toNat
theorem pK {V:BitVec 64} {w:Int} (h0:0<=w) (h1:w<64) (h:aq V w=false):ep V<ep (bL V w):=by
  have e:((w.toNat:Nat):Int)=w:=by omega
  refine s8 (i:=w.toNat) (fun k hk=>by rw [dZ,hk];rfl) ?_ (by rw [e];exact h);rw [e,dZ];simp [h0,h1]
end Go.Eng
namespace Go.Eng
open Go Go.RowKit
variable {a b e hi last lo:Int} {nm s t:List UInt8} {ops xs:List bO} {ah ahead cap i j k n n0 w:Nat} {ad:Option Addr} {x:Qm}
structure SJ (G:Gr) (s met todo:BitVec 64):Prop where
  sup:∀i:Nat,aq s i=true->aq met i=true
  sound:∀i:Nat,aq met i=true->iD G s i
  sub:∀i:Nat,aq todo i=true->aq met i=true
  done:∀j:Nat,aq met j=true->aq todo j=false->∀i:Nat,aq (ot G j) i=true->aq met i=true
theorem SJ.init (G:Gr) (s:BitVec 64):SJ G s s s:=⟨fun _ h=>h,fun _ h=> .base h,fun _ h=>h,fun j h1 h2=>by rw [h1] at h2;cases h2⟩
theorem eZ (a b:BitVec 64) (i:Nat) (hi:i<64):aq (a&&& ~~~b) i=(aq a i&& !aq b i):=by
  rw [bz,bz,bz,BitVec.getLsbD_and,BitVec.getLsbD_not,decide_eq_true hi,Bool.true_and]
theorem cL {s:BitVec 64} (h:aq s i=true):i<64:=by have:=gk h;omega
def GN (G:Gr) (met:BitVec 64) (i:Nat):BitVec 64:=ot G i&&& ~~~met
theorem SJ.step {G:Gr} {s met todo:BitVec 64} (h:SJ G s met todo) (h0:todo≠0#64):
    SJ G s (met|||GN G met (fj todo)) (gb todo (fj todo:Nat)|||GN G met (fj todo))/\
    64-ep ((met|||GN G met (fj todo))&&& ~~~(gb todo (fj todo:Nat)|||GN G met (fj todo)))<64-ep (met&&& ~~~todo):=by
  obtain ⟨hl,hb,_⟩:=eU h0;have hb':aq todo (fj todo:Nat)=true:=by rw [bz];exact hb
  have hm:=h.sub _ hb'
  have hf:∀k:Nat,aq (GN G met (fj todo)) k=true↔aq (ot G (fj todo)) k=true/\aq met k=false:=fun k=>by
    constructor
    ·intro hk;have bo:=cL hk;unfold GN at hk;rw [eZ _ _ _ bo,Bool.and_eq_true] at hk;simpa using hk
    ·rintro ⟨h1,h2⟩;have bo:=cL h1;unfold GN;rw [eZ _ _ _ bo,h1,h2];rfl
  refine ⟨⟨fun i hi=>by rw [cO,h.sup i hi];rfl,fun i hi=>?_,fun i hi=>?_,fun j hj hn i hi=>?_⟩,?_⟩
  · rw [cO,Bool.or_eq_true] at hi
    rcases hi with hi|hi
    ·exact h.sound i hi
    ·exact .step (h.sound _ hm) ((hf i).1 hi).1
  · rw [cO,Bool.or_eq_true] at hi ⊢
    rcases hi with hi|hi
    ·rw [eR,Bool.and_eq_true] at hi;exact .inl (h.sub i hi.1)
    ·exact .inr hi
  · rw [cO,Bool.or_eq_false_iff] at hn
    rw [cO,Bool.or_eq_true] at hj ⊢;have hjm:aq met j=true:=by rcases hj with hj|hj;exact hj;rw [hn.2] at hj;cases hj
    cases UX:aq met i
    · right;rw [hf]
      refine ⟨?_,UX⟩
      by_cases e:j=fj todo
      ·subst e;exact hi
      · have:=hn.1;rw [eR,decide_eq_false (show¬(j:Int)=(fj todo:Nat) by omega)] at this
        simp only [Bool.not_false,Bool.and_true] at this;rw [h.done j hjm this i hi] at UX;cases UX
    ·exact .inl rfl
  · have hc:=s8 (s:=met&&& ~~~todo) (t:=(met|||GN G met (fj todo))&&& ~~~(gb todo (fj todo:Nat)|||GN G met (fj todo))) (i:=fj todo) (fun k hk=>?_) ?_ ?_
    · have:=dO ((met|||GN G met (fj todo))&&& ~~~(gb todo (fj todo:Nat)|||GN G met (fj todo)))
      omega
    · have bo:=cL hk
      rw [eZ _ _ _ bo,Bool.and_eq_true,Bool.not_eq_true'] at hk;rw [eZ _ _ _ bo,cO,hk.1,cO,eR,hk.2];cases hfk:aq (GN G met (fj todo)) k
      ·rfl
      ·rw [((hf k).1 hfk).2] at hk;cases hk.1
    · rw [eZ _ _ _ hl,cO,hm,cO,eR]
      cases hfk:aq (GN G met (fj todo)) (fj todo:Nat)
      ·simp
      ·rw [((hf _).1 hfk).2] at hm;cases hm
    ·rw [eZ _ _ _ hl,hm,hb'];rfl
theorem SJ.end {G:Gr} {s met:BitVec 64} (h:SJ G s met 0#64):met=iH G s:=Gj ⟨h.sup,h.sound,fun j i hj hi=>h.done j hj (bC _) i hi⟩
def Bs (w:Int):Bool:=decide (0<=w)&&decide (w<64)
def vY (G:Gr) (w:Int) (s:BitVec 64):Int:=if Bs w=true then (if aq (iH G s) w=true then 9 else 0) else 1
def qt (G:Gr) (w:Int) (s:BitVec 64):Gr:=if vY G w s=0 then G.set w.toNat s else G
theorem sw {G:Gr} (h:G.length=64) (w:Int) (s:BitVec 64):(qt G w s).length=64:=by unfold qt;split<;>simp [h]
theorem g8 {w:Int}:Bs w=true↔0<=w/\w<64:=by simp [Bs]
theorem Pz {G:Gr} {w:Int} {s:BitVec 64} (h:vY G w s=0):(0<=w/\w<64)/\aq (iH G s) w=false:=by
  unfold vY at h
  by_cases h1:Bs w=true
  · rw [if_pos h1] at h
    by_cases h2:aq (iH G s) w=true
    ·rw [if_pos h2] at h;omega
    ·exact⟨g8.1 h1,by simpa using h2⟩
  ·rw [if_neg h1] at h;omega
theorem HQ {G:Gr} (h:G.length=64) (hG:jT G) (w:Int) (s:BitVec 64):jT (qt G w s):=by
  unfold qt
  by_cases e:vY G w s=0
  · rw [if_pos e]
    obtain ⟨hw,hb⟩:=Pz e;refine H0 h om hG (fun hr=>?_);have:=(eg G s w.toNat).2 hr;rw [show ((w.toNat:Nat):Int)=w by omega,hb] at this;cases this
  ·rw [if_neg e];exact hG
def Oj (G:Gr) (w:Int):BitVec 64:=if Bs w=true then iH G (ot G w.toNat) else 0#64
def wY (G:Gr) (w:Int):BitVec 64:=if Bs w=true then bhd G w.toNat else 0#64
structure Ed where
  who:Int
  to:Int
deriving Inhabited,DecidableEq
structure Dd where
  kind:Int
  who:Int
  set:BitVec 64
deriving Inhabited
def GLe (G F:Gr):Prop:=∀j k:Nat,aq (ot G j) k=true->aq (ot F j) k=true
/-! the document's -/
structure Qj (G:Gr) (s X:BitVec 64):Prop where
  sup:∀i:Nat,aq s i=true->aq X i=true
  sound:∀i:Nat,aq X i=true->iD G s i
theorem Qj.init (G:Gr) (s:BitVec 64):Qj G s s:=⟨fun _ h=>h,fun _ h=> .base h⟩
theorem Qj.put {G:Gr} {s X:BitVec 64} (h:Qj G s X) (hb:(aq X (i:Nat)&&decide (ot G i&&& ~~~X≠0#64))=true):Qj G s (X|||ot G i)/\ep X<ep (X|||ot G i):=by
  rw [Bool.and_eq_true,decide_eq_true_eq] at hb;refine ⟨⟨fun k hk=>by rw [cO,h.sup k hk];rfl,fun k hk=>?_⟩,?_⟩
  · rw [cO,Bool.or_eq_true] at hk
    rcases hk with hk|hk
    ·exact h.sound k hk
    ·exact .step (h.sound i hb.1) hk
  · obtain ⟨k,h1,h2⟩:=Kr hb.2
    exact s8 (fun q hq=>by rw [cO,hq];rfl) (by rw [cO,h1];simp) h2
def I9 (G:Gr) (X:BitVec 64) (n:Nat):Prop:=∀j:Nat,j<n->aq X j=true->∀i:Nat,aq (ot G j) i=true->aq X i=true
theorem I9.step {G:Gr} {X:BitVec 64} {n:Nat} (h:I9 G X n) (hb:(aq X (n:Nat)&&decide (ot G n&&& ~~~X≠0#64))=false):I9 G X (n+1):=fun j hj hx i hi=>by
  by_cases e:j=n
  · subst e
    rw [hx,Bool.true_and,decide_eq_false_iff_not,Classical.not_not] at hb;exact Cg.1 hb i (cL hi) hi
  ·exact h j om hx i hi
theorem Qj.end {G:Gr} {s X:BitVec 64} (h:Qj G s X) (hc:I9 G X 64):X=iH G s:=Gj ⟨h.sup,h.sound,fun j i hj hi=>hc j (cL hj) hj i hi⟩
def UQ (G:Gr) (who:Int) (n:Nat):BitVec 64:=(List.range n).foldl (fun a (i:Nat)=>if aq (iH G (ot G i)) who=true then bL a (i:Nat) else a) 0#64
theorem r7 (G:Gr) (who:Int) (n:Nat):UQ G who (n+1)=if aq (iH G (ot G n)) who=true then bL (UQ G who n) (n:Nat) else UQ G who n:=by
  unfold UQ;rw [List.range_succ,List.foldl_append];rfl
theorem RD (G:Gr) (who:Int):UQ G who 64=wY G who:=by
  unfold wY
  by_cases h:Bs who=true
  · rw [if_pos h]
    have hw:=g8.1 h;have e:((who.toNat:Nat):Int)=who:=by omega
    unfold UQ bhd mkS;rw [e]
  · rw [if_neg h]
    have:∀n,UQ G who n=0#64:=by
      intro n
      induction n with
      |zero=>rfl
      |succ n ih=>
        rw [r7,if_neg,ih];intro hb;have:=gk hb;exact h (g8.2 this)
    exact this 64
theorem Nk (G:Gr):iH G 0#64=0#64:=by
  apply ss;intro i hi;rw [bC]
  cases h:aq (iH G 0#64) i
  ·rfl
  · exfalso
    have:∀{k:Nat},iD G 0#64 k->False:=by
      intro k hr
      induction hr with
      |base hb=>rw [bC] at hb;cases hb
      |step _ _ ih=>exact ih
    exact this ((eg G _ i).1 h)
/-! all edges -/
/-! deeds -/
def wt (own:List Int) (i:Nat):Int:=if i<min own.length 64 then min (max (own.getD i 0) 0) 16 else 0
theorem Fh (own:List Int) (i:Nat):0<=wt own i/\wt own i<=16:=by unfold wt;split<;>omega
theorem We {own:List Int} (h:¬i<min own.length 64):wt own i=0:=by unfold wt;rw [if_neg h]
def kt (own:List Int) (B:BitVec 64):Nat->Int
  |0=>0
  |n+1=>kt own B n+if aq B (n:Nat)=true then wt own n else 0
theorem Cz (own:List Int) (B:BitVec 64):∀n:Nat,0<=kt own B n/\kt own B n<=16*(n:Int)
  |0=>by simp [kt]
  |n+1=>by
    have h:=Cz own B n;have h2:=Fh own n;rw [kt];split<;>omega
theorem B4 (own:List Int) (B:BitVec 64):∀n:Nat,min own.length 64<=n->kt own B n=kt own B (min own.length 64)
  |0,h=>by rw [show min own.length 64=0 by omega]
  |n+1,h=>by
    by_cases e:min own.length 64=n+1
    ·rw [e]
    ·rw [kt,B4 own B n om,We (i:=n) om];split<;>omega
def Y2 (own:List Int) (G:Gr) (i:Nat):Int:=wt own i+kt own (wY G (i:Nat)) 64
def CS (own:List Int) (G:Gr) (n:Nat):List Int:=(List.range n).map (Y2 own G)
def y7 (own:List Int) (G:Gr):List Int:=CS own G (min own.length 64)
theorem NM (own:List Int) (G:Gr) (n:Nat):(CS own G n).length=n:=by simp [CS]
theorem zU (own:List Int) (G:Gr) (n:Nat):CS own G (n+1)=CS own G n++ [Y2 own G n] :=by unfold CS;rw [List.range_succ,List.map_append];rfl
theorem Po {G:Gr} (hG:jT G) (hi:i<64):aq (wY G (i:Nat)) (i:Nat)=false:=by
  unfold wY;rw [if_pos (g8.2 ⟨by omega,by omega⟩),Int.toNat_natCast]
  cases h:aq (bhd G i) (i:Nat)
  ·rfl
  ·exact absurd ((SG G i i hi).1 h) (hG i)
structure bA where
  k:Int
  t:List UInt8
  n:Int
  p:Int
deriving DecidableEq
instance:Inhabited bA:=⟨⟨0,[],0,0⟩⟩
def fW (w:bA):List Value:=[.int .i64 w.k,.string (bs w.t),.int .i64 w.n,.int .i64 w.p]
def R4 (n:Int):Bool:=decide (97<=n)&&decide (n<=122)
def MA (n:Int):Bool:=decide (48<=n)&&decide (n<=57)
def wA (n:Int):Bool:=decide (n=123)||decide (n=125)||decide (n=59)||decide (n=46)||decide (n=61)
def qu (c:UInt8):Bool:=R4 (c.toNat:Nat)
def ju (c:UInt8):Bool:=MA (c.toNat:Nat)
def UH (c:UInt8):Bool:=wA (c.toNat:Nat)
def k7 (c:UInt8):Bool:=decide (((c.toNat:Nat):Int)≠10)
def gI (p:UInt8->Bool) (s:List UInt8) (i:Nat):Nat:=((s.drop i).takeWhile p).length
theorem BH (p:UInt8->Bool) (s:List UInt8) (i:Nat):gI p s i<=s.length-i:=by
  unfold gI;have:=(List.takeWhile_sublist (l:=s.drop i) p).length_le;rwa [List.length_drop] at this
theorem rX (h:i<s.length):s.drop i=s.getD i 0::s.drop (i+1):=by
  have e:=aH (0:UInt8) h;rw [List.getElem?_eq_getElem h] at e;rw [List.drop_eq_getElem_cons h,Option.some.inj e]
theorem eX {p:UInt8->Bool} (h:i<s.length) (hp:p (s.getD i 0)=true):gI p s i=gI p s (i+1)+1:=by
  unfold gI;rw [rX h,List.takeWhile_cons,if_pos hp];rfl
theorem lr {p:UInt8->Bool} (h:i<s.length) (hp:p (s.getD i 0)=false):gI p s i=0:=by
  unfold gI;rw [rX h,List.takeWhile_cons,if_neg (by rw [hp];simp)];rfl
theorem pj {p:UInt8->Bool} (h:s.length<=i):gI p s i=0:=by
  have:=BH p s i;omega
def yG:Nat->List UInt8->Int->Int
  |0,_,n=>n
  |_+1,[],n=>n
  |k+1,c::l,n=>if ju c then yG k l (n*10+((c.toNat:Nat):Int)-48) else n
theorem KL {n:Int} (h:i<s.length) (hp:ju (s.getD i 0)=true):yG (k+1) (s.drop i) n=yG k (s.drop (i+1)) (n*10+(((s.getD i 0).toNat:Nat):Int)-48):=by
  rw [rX h,yG,if_pos hp]
theorem jS {n:Int} (h:s.length<=i\/ju (s.getD i 0)=false):yG k (s.drop i) n=n:=by
  cases k with
  |zero=>rfl
  |succ k=>
    rcases Nat.lt_or_ge i s.length with hi|hi
    · rcases h with h|h
      ·omega
      ·rw [rX hi,yG,if_neg (by rw [h];simp)]
    ·rw [List.drop_of_length_le hi];rfl
def fV (s:List UInt8) (i:Nat):bA×Nat×Bool:=
  if qu (s.getD i 0) then (⟨1,(s.drop i).take (gI qu s i),0,(i:Nat)⟩,i+gI qu s i,decide (gI qu s i<=12))
  else if ju (s.getD i 0) then (⟨2,[],yG 9 (s.drop i) 0,(i:Nat)⟩,i+gI ju s i,decide (gI ju s i<=9)&&(decide ((((s.getD i 0).toNat:Nat):Int)≠48)||decide (gI ju s i=1)))
  else (⟨3,(s.drop i).take 1,0,(i:Nat)⟩,i+1,UH (s.getD i 0))
theorem GR (h:i<s.length):i<(fV s i).2.1/\(fV s i).2.1<=s.length:=by
  unfold fV
  split
  · rename_i hl
    have h1:=eX h hl;have h2:=BH qu s i;simp only;omega
  · split
    · rename_i hl
      have h1:=eX h hl;have h2:=BH ju s i;simp only;omega
    ·simp only;omega
def kT (c:UInt8):Bool:=decide (((c.toNat:Nat):Int)=32)||decide (((c.toNat:Nat):Int)=9)||decide (((c.toNat:Nat):Int)=10)
def wj (c:UInt8):Bool:=decide (((c.toNat:Nat):Int)=35)
def BL (r:bA×Nat×Bool) (i:Nat) (last:Int) (out:List bA):Bool:= !r.2.2||(decide (last=(i:Nat))&&decide (r.1.k≠3)&&decide ((out.getD (out.length-1) default).k≠3))
def kD:Nat->List UInt8->Nat->Int->List bA->List bA×Int×Int
  |0,_,_,_,out=>(out,0,0)
  |f+1,s,i,last,out=>
    if s.length<=i then (out,0,0)
    else if kT (s.getD i 0) then kD f s (i+1) last out
    else if wj (s.getD i 0) then kD f s (i+gI k7 s i) last out
    else if BL (fV s i) i last out then ([],(i:Nat),5)
    else kD f s (fV s i).2.1 ((fV s i).2.1:Nat) (out++ [(fV s i).1])
theorem vE {c:UInt8} (h:wj c=true):k7 c=true:=by
  unfold wj at h;unfold k7;simp only [decide_eq_true_eq] at h ⊢;omega
theorem iS (s:List UInt8):∀(f g i:Nat) (last:Int) (out:List bA),s.length-i<=f->s.length-i<=g->kD f s i last out=kD g s i last out
  |0,0,_,_,_,_,_=>rfl
  |0,g+1,i,last,out,h1,h2=>by rw [kD,kD,if_pos om]
  |f+1,0,i,last,out,h1,h2=>by rw [kD,kD,if_pos om]
  |f+1,g+1,i,last,out,h1,h2=>by
    simp only [kD]
    split
    ·rfl
    rename_i hi
    have bo:i<s.length:=by omega
    split
    ·exact iS s f g _ _ _ om om
    split
    · rename_i hh
      have h3:=eX bo (vE hh);exact iS s f g _ _ _ om om
    split
    ·rfl
    · have h4:=GR bo
      exact iS s f g _ _ _ om om
def iK (s:List UInt8) (i:Nat) (last:Int) (out:List bA):List bA×Int×Int:=kD (s.length-i) s i last out
theorem JK {out:List bA} (h:s.length<=i):iK s i last out=(out,0,0):=by
  unfold iK;rw [show s.length-i=0 by omega];rfl
theorem mZ {out:List bA} (h:i<s.length):iK s i last out=
    if kT (s.getD i 0) then iK s (i+1) last out
    else if wj (s.getD i 0) then iK s (i+gI k7 s i) last out
    else if BL (fV s i) i last out then ([],(i:Nat),5)
    else iK s (fV s i).2.1 ((fV s i).2.1:Nat) (out++ [(fV s i).1]):=by
  unfold iK
  obtain ⟨f,hf⟩:∃f,s.length-i=f+1:=⟨s.length-i-1,by omega⟩
  rw [hf,kD,if_neg om]
  split
  ·exact iS s _ _ _ _ _ om om
  split
  · rename_i hh
    have h3:=eX h (vE hh);exact iS s _ _ _ _ _ om om
  split
  ·rfl
  · have h4:=GR h
    exact iS s _ _ _ _ _ om om
theorem C1 {out:List bA} (h:i<s.length) (hb:kT (s.getD i 0)=true):iK s i last out=iK s (i+1) last out:=by rw [mZ h,if_pos hb]
theorem xm {out:List bA} (h:i<s.length) (hb:kT (s.getD i 0)=false) (hh:wj (s.getD i 0)=true) (hj:i+gI k7 s i=j):iK s i last out=iK s j last out:=by
  rw [mZ h,if_neg (by rw [hb];simp),if_pos hh,hj]
theorem I5 {out:List bA} (h:i<s.length) (hb:kT (s.getD i 0)=false) (hh:wj (s.getD i 0)=false) (hq:BL (fV s i) i last out=true):iK s i last out=([],(i:Int),5):=by
  rw [mZ h,if_neg (by rw [hb];simp),if_neg (by rw [hh];simp),if_pos hq]
theorem Gn {out:List bA} (h:i<s.length) (hb:kT (s.getD i 0)=false) (hh:wj (s.getD i 0)=false) (hq:BL (fV s i) i last out=false):iK s i last out=iK s (fV s i).2.1 ((fV s i).2.1:Nat) (out++ [(fV s i).1]):=by
  rw [mZ h,if_neg (by rw [hb];simp),if_neg (by rw [hh];simp),if_neg (by rw [hq];simp)]
def eG (s:List UInt8):List bA×Int×Int:=if 8000<s.length then ([],8000,6) else iK s 0 (-1) []
def fB (l:List UInt8):List Value:=[.string (bs l)]
def yX:List (List UInt8):=[[],[99,111,109,112,117,116,101],[108,111,99,107],[114,101,97,100],[116,114,121],[116,105,109,101,100],[117,110,108,111,99,107],[115,108,101,101,112],[121,105,101,108,100],[115,112,97,119,110],[119,101,105,103,104,116],[101,120,105,116]]
def yV (k:Int):List UInt8:=if 0<=k/\k<12 then yX.getD k.toNat [] else []
theorem jP (k:Int):decide (yV k≠ [])=vb k:=by
  unfold vb
  by_cases h:0<=k/\k<12
  · have:k=0\/k=1\/k=2\/k=3\/k=4\/k=5\/k=6\/k=7\/k=8\/k=9\/k=10\/k=11:=by omega
    rcases this with rfl|rfl|rfl|rfl|rfl|rfl|rfl|rfl|rfl|rfl|rfl|rfl<;>decide+kernel
  · unfold yV;rw [if_neg h]
    by_cases h2:1<=k
    ·rw [show decide (k<=11)=false from decide_eq_false om];simp
    ·rw [show decide (1<=k)=false from decide_eq_false h2];simp
abbrev qI:List UInt8:=[112,114,111,103]
abbrev oP:List UInt8:=[102,111,114,101,118,101,114]
def jd (ws:List bA) (i:Nat) (k:Int) (t:List UInt8):Bool:=decide (i<ws.length)&&decide ((ws.getD i default).k=k)&&decide ((ws.getD i default).t=t)
def On (t:List UInt8):Int:=mx0 (g9 (fun y=>decide (t=y)) yX)
def cb (ws:List bA) (i:Nat):Int:=if (decide (i<ws.length)&&decide ((ws.getD i default).k=1)) then On (ws.getD i default).t else 0
def ME (t:List UInt8):Nat->Int
  |0=>0
  |k+1=>if t=yX.getD (k+1) [] then ((k+1:Nat):Int) else ME t k
theorem Tp (t:List UInt8):ME t 11=On t:=by
  by_cases h:t∈yX
  · have:t=[]\/t∈yX.tail:=by simpa [yX] using h
    simp only [yX,List.mem_cons,List.not_mem_nil,or_false] at h;rcases h with rfl|rfl|rfl|rfl|rfl|rfl|rfl|rfl|rfl|rfl|rfl|rfl<;>decide+kernel
  · have h2:g9 (fun y=>decide (t=y)) yX= -1:=gg (by
      rw [List.any_eq_false];intro y hy;simp only [decide_eq_true_eq];rintro rfl;exact h hy)
    unfold On;rw [h2]
    simp only [yX,List.mem_cons,List.not_mem_nil,or_false,not_or] at h;obtain ⟨-,a1,a2,a3,a4,a5,a6,a7,a8,a9,a10,a11⟩:=h;simp only [ME,yX,List.getD_cons_succ,List.getD_cons_zero,if_neg a1,if_neg a2,if_neg a3,if_neg a4,if_neg a5,if_neg a6,if_neg a7,if_neg a8,if_neg a9,if_neg a10,if_neg a11]
    rfl
theorem xT {ws:List bA} (h:cb ws i≠0):i<ws.length:=by
  unfold cb at h;split at h
  ·rename_i q;simp only [Bool.and_eq_true,decide_eq_true_eq] at q;exact q.1
  ·exact absurd rfl h
def nN (ws:List bA) (i:Nat) (lo hi:Int):Nat×Int×Int:=
  if lo= -1 then (i,0,0)
  else if (decide (ws.length<=i)||decide ((ws.getD i default).k≠2)) then (i,5,0)
  else if hasB lo hi (ws.getD i default).n then (i+1,0,(ws.getD i default).n) else (i,1,0)
theorem BE {ws:List bA} (h:i<=ws.length):i<=(nN ws i lo hi).1/\(nN ws i lo hi).1<=ws.length:=by
  unfold nN;split
  ·exact⟨Nat.le_refl _,h⟩
  split
  ·exact⟨Nat.le_refl _,h⟩
  rename_i q
  simp only [Bool.or_eq_true,decide_eq_true_eq,not_or] at q
  split
  ·simp only;omega
  ·exact⟨Nat.le_refl _,h⟩
def S4 (ws:List bA) (a:Nat×Int×Int) (lo hi:Int):Nat×Int×Int:=if a.2.1≠0 then (a.1,a.2.1,0) else nN ws a.1 lo hi
def Jf (ws:List bA) (i:Nat):Nat×Int×Int:=nN ws (i+1) (n3 (cb ws i)) (qM (cb ws i))
def vd (ws:List bA) (i:Nat):Nat×Int×Int:=S4 ws (Jf ws i) (yB (cb ws i)) (yP (cb ws i))
def mU (ws:List bA) (i ahead:Nat):Nat×Int×bO:=
  if cb ws i=0 then (i,5,⟨0,0,0⟩)
  else if 12<=ahead then (i,6,⟨0,0,0⟩)
  else if (vd ws i).2.1≠0 then ((vd ws i).1,(vd ws i).2.1,⟨cb ws i,(Jf ws i).2.2,(vd ws i).2.2⟩)
  else if jd ws (vd ws i).1 3 [59] then ((vd ws i).1+1,0,⟨cb ws i,(Jf ws i).2.2,(vd ws i).2.2⟩)
  else ((vd ws i).1,5,⟨cb ws i,(Jf ws i).2.2,(vd ws i).2.2⟩)
theorem OY {ws:List bA} (h:cb ws i≠0):i<(vd ws i).1/\(vd ws i).1<=ws.length:=by
  have h1:=xT h;have h2:=BE (ws:=ws) (i:=i+1) (lo:=n3 (cb ws i)) (hi:=qM (cb ws i)) h1
  unfold vd S4
  split
  ·unfold Jf;simp only;omega
  · have h3:=BE (ws:=ws) (i:=(Jf ws i).1) (lo:=yB (cb ws i)) (hi:=yP (cb ws i)) h2.2
    unfold Jf at h3 ⊢;omega
theorem pE {ws:List bA} {k:Int} (h:jd ws i k t=true):i<ws.length:=by
  unfold jd at h;simp only [Bool.and_eq_true,decide_eq_true_eq] at h;exact h.1.1
theorem FX {ws:List bA} (h:(mU ws i ahead).2.1=0):i<(mU ws i ahead).1/\(mU ws i ahead).1<=ws.length:=by
  unfold mU at h ⊢
  split at h
  ·cases h
  rename_i h1
  rw [if_neg h1]
  split at h
  ·cases h
  rename_i h2
  rw [if_neg h2]
  split at h
  ·rename_i h3;exact absurd h h3
  rename_i h3
  rw [if_neg h3]
  split at h
  · rename_i h4
    rw [if_pos h4];have:=OY h1;have:=pE h4;simp only;omega
  ·cases h
def o7:Nat->List bA->Nat->List bO->List bO×Int×Int
  |0,_,i,_=>([],(i:Nat),5)
  |f+1,ws,i,ops=>
    if jd ws i 3 [125] then (if ops.length=0 then ([],(i:Nat),4) else (ops,((i+1:Nat):Int),0))
    else if (mU ws i ops.length).2.1≠0 then ([],((mU ws i ops.length).1:Nat),(mU ws i ops.length).2.1)
    else o7 f ws (mU ws i ops.length).1 (ops++ [(mU ws i ops.length).2.2])
theorem yr (ws:List bA):∀(f g i:Nat) (ops:List bO),ws.length-i+1<=f->ws.length-i+1<=g->o7 f ws i ops=o7 g ws i ops
  |0,_,i,_,h,_=>absurd h om
  |_+1,0,i,_,_,h=>absurd h om
  |f+1,g+1,i,ops,h1,h2=>by
    simp only [o7]
    split
    ·rfl
    split
    ·rfl
    · rename_i h3 h4
      have:=FX (Classical.not_not.1 h4);exact yr ws f g _ _ om om
def pz (ws:List bA) (i:Nat) (ops:List bO):List bO×Int×Int:=o7 (ws.length-i+1) ws i ops
theorem xi {ws:List bA} (h:jd ws i 3 [125] =true):pz ws i ops=if ops.length=0 then ([],(i:Int),4) else (ops,((i+1:Nat):Int),0):=by
  unfold pz;rw [o7,if_pos h]
theorem KX {ws:List bA} (h:jd ws i 3 [125] =false) (h2:(mU ws i ops.length).2.1≠0):pz ws i ops=([],((mU ws i ops.length).1:Int),(mU ws i ops.length).2.1):=by
  unfold pz;rw [o7,if_neg (by rw [h];simp),if_pos h2]
theorem F1 {ws:List bA} (h:jd ws i 3 [125] =false) (h2:(mU ws i ops.length).2.1=0):pz ws i ops=pz ws (mU ws i ops.length).1 (ops++ [(mU ws i ops.length).2.2]):=by
  have h3:=FX h2
  unfold pz;rw [o7,if_neg (by rw [h];simp),if_neg (by rw [h2];simp)]
  exact yr ws _ _ _ _ om om
def dR (ws:List bA) (i:Nat):Bool×Nat:=(jd ws (i+1) 1 oP,if jd ws (i+1) 1 oP then i+2 else i+1)
def kN (ws:List bA) (i:Nat):List bO×Int×Int:=
  if jd ws i 1 qI then (if jd ws (dR ws i).2 3 [123] then pz ws ((dR ws i).2+1) [] else ([],((dR ws i).2:Int),5)) else ([],(i:Int),5)
def dY (ws:List bA) (p:Int):Bool×List bO×Int×Int:=
  if p<0\/(ws.length:Int)<p then (false,[],0,5)
  else (decide ((kN ws p.toNat).2.2=0)&&(dR ws p.toNat).1,kN ws p.toNat)
/-! what is parsed may be -/
end Go.Eng
namespace Go.Eng
open Go Go.Proofs Go.RowKit
variable {a b e hi last lo:Int} {nm s t:List UInt8} {ops xs:List bO} {ah ahead cap i j k n n0 w:Nat} {ad:Option Addr} {x:Qm}
theorem uM (n:Int) (w:World):aD Tryz.prog 127 #[.int .u8 n] w (fun v w'=>v= .bool (R4 n)/\Ext w w'):=by
 refine aD.ak Tryz.func127 rfl Tryz.ntmps127 rfl ([]) (no) (Mem.nil w) ?_;refine cF ?_;refine LM.aw (t:=5) rfl (fun h1=>?_) (fun h1=>?_)
 ·refine J7 ?_;refine qL Tryz.results127 rfl fun w' ao aa aA=>?_;refine ⟨?_,aa⟩;simp only [bd,R4];congr 1;first|(rw [decide_eq_false (show¬97<=n by omega)];rfl)|(rw [decide_eq_true (show 97<=n by omega)];rfl)
 refine J7 ?_;refine qL Tryz.results127 rfl fun w' ao aa aA=>?_;refine ⟨?_,aa⟩;simp only [bd,R4];congr 1;first|(rw [decide_eq_false (show¬97<=n by omega)];rfl)|(rw [decide_eq_true (show 97<=n by omega)];rfl)
theorem x5 (n:Int) (w:World):aD Tryz.prog 128 #[.int .u8 n] w (fun v w'=>v= .bool (MA n)/\Ext w w'):=by
 refine aD.ak Tryz.func128 rfl Tryz.ntmps128 rfl ([]) (no) (Mem.nil w) ?_;refine cF ?_;refine LM.aw (t:=5) rfl (fun h1=>?_) (fun h1=>?_)
 ·refine J7 ?_;refine qL Tryz.results128 rfl fun w' ao aa aA=>?_;refine ⟨?_,aa⟩;simp only [bd,MA];congr 1;first|(rw [decide_eq_false (show¬48<=n by omega)];rfl)|(rw [decide_eq_true (show 48<=n by omega)];rfl)
 refine J7 ?_;refine qL Tryz.results128 rfl fun w' ao aa aA=>?_;refine ⟨?_,aa⟩;simp only [bd,MA];congr 1;first|(rw [decide_eq_false (show¬48<=n by omega)];rfl)|(rw [decide_eq_true (show 48<=n by omega)];rfl)
theorem Jh (n:Int) (w:World):aD Tryz.prog 129 #[.int .u8 n] w (fun v w'=>v= .bool (wA n)/\Ext w w'):=by
 refine aD.ak Tryz.func129 rfl Tryz.ntmps129 rfl ([]) (no) (Mem.nil w) ?_;refine cF ?_;refine LM.aw (t:=5) rfl (fun h1=>?_) (fun h1=>?_)
 ·refine UT ?_;refine qL Tryz.results129 rfl fun w' ao aa aA=>?_;refine ⟨?_,aa⟩;simp only [bd,wA];simp only [h1,decide_true,decide_false,Bool.true_and,Bool.false_and,Bool.and_true,Bool.and_false,Bool.not_true,Bool.not_false,Bool.true_or,Bool.false_or,Bool.or_true,Bool.or_false,ne_eq,not_true_eq_false,not_false_eq_true,Bool.and_self]
 refine J4 ?_;refine LM.aw (t:=9) rfl (fun h2=>?_) (fun h2=>?_)
 ·refine rA ?_;refine qL Tryz.results129 rfl fun w' ao aa aA=>?_;refine ⟨?_,aa⟩;simp only [bd,wA];simp only [h1,h2,decide_true,decide_false,Bool.true_and,Bool.false_and,Bool.and_true,Bool.and_false,Bool.not_true,Bool.not_false,Bool.true_or,Bool.false_or,Bool.or_true,Bool.or_false,ne_eq,not_true_eq_false,not_false_eq_true,Bool.and_self]
 refine J4 ?_;refine LM.aw (t:=13) rfl (fun h3=>?_) (fun h3=>?_)
 ·refine dc ?_;refine qL Tryz.results129 rfl fun w' ao aa aA=>?_;refine ⟨?_,aa⟩;simp only [bd,wA];simp only [h1,h2,h3,decide_true,decide_false,Bool.true_and,Bool.false_and,Bool.and_true,Bool.and_false,Bool.not_true,Bool.not_false,Bool.true_or,Bool.false_or,Bool.or_true,Bool.or_false,ne_eq,not_true_eq_false,not_false_eq_true,Bool.and_self]
 refine J4 ?_;refine LM.aw (t:=17) rfl (fun h4=>?_) (fun h4=>?_)
 ·refine J7 ?_;refine qL Tryz.results129 rfl fun w' ao aa aA=>?_;refine ⟨?_,aa⟩;simp only [bd,wA];simp only [h1,h2,h3,h4,decide_true,decide_false,Bool.true_and,Bool.false_and,Bool.and_true,Bool.and_false,Bool.not_true,Bool.not_false,Bool.true_or,Bool.false_or,Bool.or_true,Bool.or_false,ne_eq,not_true_eq_false,not_false_eq_true,Bool.and_self]
 refine J7 ?_;refine qL Tryz.results129 rfl fun w' ao aa aA=>?_;refine ⟨?_,aa⟩;simp only [bd,wA];simp only [h1,h2,h3,h4,decide_true,decide_false,Bool.true_and,Bool.false_and,Bool.and_true,Bool.and_false,Bool.not_true,Bool.not_false,Bool.true_or,Bool.false_or,Bool.or_true,Bool.or_false,ne_eq,not_true_eq_false,not_false_eq_true,Bool.and_self]
def IH (r:bA×Nat×Bool):Value:= .tuple #[.agg (fW r.1).toArray,.int .i64 (r.2.1:Nat),.bool r.2.2]
theorem HE (h:qu (s.getD i 0)=true) (hj:j=i+gI qu s i):IH (fV s i)= .tuple #[.agg #[.int .i64 1,vS ((s.drop i).take (j-i)),.int .i64 0,.int .i64 (i:Nat)],.int .i64 (j:Nat),.bool (decide ((j:Int)-(i:Nat)<=12))] :=by
  unfold fV;rw [if_pos h]
  unfold IH fW
  simp only;rw [show j-i=gI qu s i by omega,<-hj,show decide (gI qu s i<=12)=decide ((j:Int)-(i:Nat)<=12) from decide_eq_decide.2 om]
theorem qf {n:Int} {b:Bool} (h1:qu (s.getD i 0)=false) (h:ju (s.getD i 0)=true) (hj:j=i+gI ju s i) (hn:yG 9 (s.drop i) 0=n) (hb:b=(decide ((j:Int)-(i:Nat)<=9)&&(decide ((((s.getD i 0).toNat:Nat):Int)≠48)||decide ((j:Int)=(i:Nat)+1)))):IH (fV s i)= .tuple #[.agg #[.int .i64 2,vS [],.int .i64 n,.int .i64 (i:Nat)],.int .i64 (j:Nat),.bool b] :=by
  unfold fV;rw [if_neg (by rw [h1];simp),if_pos h]
  unfold IH fW
  simp only;rw [hn,<-hj,hb,show decide (gI ju s i<=9)=decide ((j:Int)-(i:Nat)<=9) from decide_eq_decide.2 om,show decide (gI ju s i=1)=decide ((j:Int)=(i:Nat)+1) from decide_eq_decide.2 om]
theorem Oz (h1:qu (s.getD i 0)=false) (h:ju (s.getD i 0)=false):IH (fV s i)= .tuple #[.agg #[.int .i64 3,vS ((s.drop i).take (i+1-i)),.int .i64 0,.int .i64 (i:Nat)],.int .i64 ((i+1:Nat)),.bool (UH (s.getD i 0))] :=by
  unfold fV;rw [if_neg (by rw [h1];simp),if_neg (by rw [h];simp),show i+1-i=1 by omega];rfl
theorem QK {c:UInt8} (h:ju c=true):48<=((c.toNat:Nat):Int)/\((c.toNat:Nat):Int)<=57:=by
  unfold ju MA at h;simp only [Bool.and_eq_true,decide_eq_true_eq] at h;exact h
theorem XZ (h:k<9):10 ^ k<=100000000:=Nat.le_trans (Nat.pow_le_pow_right (by decide) (show k<=8 by omega)) (by decide)
set_option maxHeartbeats 1000000 in
theorem JZ (i:Nat) (w:World) (hi:i<s.length) (hx:s.length<=9223372036854775807):aD Tryz.prog 76 #[vS s,.int .i64 (i:Nat)] w (fun v w'=>v=IH (fV s i)/\Ext w w'):=by
 refine aD.ak Tryz.func76 rfl Tryz.ntmps76 rfl ([]) (no) (Mem.nil w) ?_;refine J2 ?_;refine LM.alloc Tryz.zeroValue147 rfl (fun b4 wG=>?_);refine rA ?_;refine LM.val (ei Tryz.underlying9 rfl rfl om) ?_;refine cE Tryz.func127 rfl (fun w hm hc hg=>uM _ w) ?_;refine J2 ?_;refine af.aN rfl (fun h1=>?_) (fun h1=>?_)
 ·refine J2 ?_;refine af.aO (α:=Nat) (fun j=>[(7,.int .i64 (j:Nat))]) [(0,_),(1,_),(4,_)] (fun j=>(b4,.cells #[.int .i64 0,.string (bs []),.int .i64 0,.int .i64 0] 147 (0,0)):: []) (fun j=>i<=j/\j<=s.length/\i+gI qu s i=j+gI qu s j) (fun j=>s.length-j) (i) cA aX ⟨Nat.le_refl _,by omega,rfl⟩ ?_;rintro j ⟨Rh,Qq,hr⟩;change af _ _ _ _ _ _ _ ((b4,.cells #[.int .i64 0,.string (bs []),.int .i64 0,.int .i64 0] 147 (0,0)):: []) _ _ _;refine J5 ?_;refine LM.val (j0 Tryz.underlying9 rfl) ?_;refine J2 ?_;refine LM.aw (t:=18) rfl (fun h2=>?_) (fun h2=>?_)
  ·refine J2 ?_;refine LM.sp 18 rfl rfl rfl ?_;refine LM.val (ei Tryz.underlying9 rfl rfl om) ?_;refine J1 ?_;refine cE Tryz.func127 rfl (fun w hm hc hg=>uM _ w) ?_;refine J3 ?_;refine af.aN rfl (fun h3=>?_) (fun h3=>?_)
   ·refine J9 ?_;refine aK (j+1) ?_ ?_
    ·have Bf:=eX (p:=qu) (show j<s.length by omega) h3;exact⟨by omega,by omega,by omega⟩
    ·omega
   refine cF ?_;refine LM.val (xK Tryz.underlying9 rfl rfl rfl om om om) ?_;refine J1 ?_;refine LM.val (aE (cs:=#[_,_,_,_]) rfl (by first|rfl|kernel_rfl)) ?_;refine J5 ?_;refine LM.c6 Tryz.sizeOf147 rfl rfl rfl rfl cZ bF ?_;refine J6 ?_;refine QM.aG (ds:=([])) (.inl rfl) [.cell 4 147,.tmp 5,.tmp 6] Tryz.results76 aV (bU rfl Tryz.isAgg147 Tryz.sizeOf147 rfl (aZ rfl (aZ rfl aU))) ?_;intro w' ao aa;have q9:=lr (p:=qu) (show j<s.length by omega) h3;exact⟨(HE (j:=j) h1 om).symm,aa⟩
  refine En ?_;refine LM.val (xK Tryz.underlying9 rfl rfl rfl om om om) ?_;refine J1 ?_;refine LM.val (aE (cs:=#[_,_,_,_]) rfl (by first|rfl|kernel_rfl)) ?_;refine J5 ?_;refine LM.c6 Tryz.sizeOf147 rfl rfl rfl rfl cZ bF ?_;refine J6 ?_;refine QM.aG (ds:=([])) (.inl rfl) [.cell 4 147,.tmp 5,.tmp 6] Tryz.results76 aV (bU rfl Tryz.isAgg147 Tryz.sizeOf147 rfl (aZ rfl (aZ rfl aU))) ?_;intro w' ao aa;have q9:=pj (p:=qu) (show s.length<=j by omega);exact⟨(HE (j:=j) h1 om).symm,aa⟩
 refine J7 ?_;refine LM.val (ei Tryz.underlying9 rfl rfl om) ?_;refine cE Tryz.func128 rfl (fun w hm hc hg=>x5 _ w) ?_;refine J2 ?_;refine af.aN rfl (fun h4=>?_) (fun h4=>?_)
 ·refine J7 ?_;refine af.aO (α:=Nat×Int) (fun ⟨j,n⟩=>[(7,.int .i64 (j:Nat)),(8,.int .i64 n)]) [(0,_),(1,_),(4,_)] (fun ⟨j,n⟩=>(b4,.cells #[.int .i64 0,.string (bs []),.int .i64 0,.int .i64 0] 147 (0,0)):: []) (fun ⟨j,n⟩=>i<=j/\j<=s.length/\i+gI ju s i=j+gI ju s j/\yG 9 (s.drop i) 0=yG (9-(j-i)) (s.drop j) n/\0<=n/\n+1<=((10 ^ (min (j-i) 9):Nat):Int)) (fun ⟨j,n⟩=>s.length-j) ((i,0)) cA aX ⟨Nat.le_refl _,by omega,rfl,by simp,by simp,by simp⟩ ?_;rintro ⟨j,n⟩ ⟨Rh,Qq,hr,QA,cm,RL⟩;change af _ _ _ _ _ _ _ ((b4,.cells #[.int .i64 0,.string (bs []),.int .i64 0,.int .i64 0] 147 (0,0)):: []) _ _ _;refine J5 ?_;refine LM.val (j0 Tryz.underlying9 rfl) ?_;refine J2 ?_;refine LM.aw (t:=45) rfl (fun h5=>?_) (fun h5=>?_)
  ·refine J2 ?_;refine LM.sp 45 rfl rfl rfl ?_;refine LM.val (ei Tryz.underlying9 rfl rfl om) ?_;refine J1 ?_;refine cE Tryz.func128 rfl (fun w hm hc hg=>x5 _ w) ?_;refine J3 ?_;refine af.aN rfl (fun h6=>?_) (fun h6=>?_)
   ·refine cM ?_;refine af.aj rfl (fun h7=>?_) (fun h7=>?_)
    ·have hp8:=XZ (k:=min (j-i) 9) om;have hdr:=QK (c:=s.getD j 0) h6;refine J2 ?_;refine LM.val (Dp rfl rfl om) ?_;refine J2 ?_;refine LM.val (ei Tryz.underlying9 rfl rfl om) ?_;refine LM.val (IE Tryz.underlying5 Tryz.underlying3 rfl om) ?_;refine dc ?_;refine aK ((j+1,n*10+(((s.getD j 0).toNat:Nat):Int)-48)) ?_ ?_
     ·have Bf:=eX (p:=ju) (show j<s.length by omega) h6;refine ⟨by omega,by omega,by omega,by rw [QA,show 9-(j-i)=(9-(j+1-i))+1 by omega,KL om h6],by omega,?_⟩;rw [show min (j+1-i) 9=min (j-i) 9+1 by omega,Nat.pow_succ];omega
     ·(dsimp only;omega)
    refine J8 ?_;refine aK ((j+1,n)) ?_ ?_
    ·have Bf:=eX (p:=ju) (show j<s.length by omega) h6;exact⟨by omega,by omega,by omega,by rw [QA,show 9-(j-i)=0 by omega,show 9-(j+1-i)=0 by omega];rfl,cm,by rw [show min (j+1-i) 9=min (j-i) 9 by omega];exact RL⟩
    ·(dsimp only;omega)
   refine J9 ?_;refine LM.val (aE (cs:=#[_,_,_,_]) rfl (by first|rfl|kernel_rfl)) ?_;refine J6 ?_;refine LM.aw (t:=73) rfl (fun h8=>?_) (fun h8=>?_)
   ·refine J2 ?_;refine LM.sp 73 rfl rfl rfl ?_;refine LM.val (ei Tryz.underlying9 rfl rfl om) ?_;refine J2 ?_;refine LM.aw (t:=78) rfl (fun h9=>?_) (fun h9=>?_)
    ·refine J6 ?_;refine LM.c6 Tryz.sizeOf147 rfl rfl rfl rfl cZ bF ?_;refine J6 ?_;refine QM.aG (ds:=([])) (.inl rfl) [.cell 4 147,.tmp 5,.tmp 6] Tryz.results76 aV (bU rfl Tryz.isAgg147 Tryz.sizeOf147 rfl (aZ rfl (aZ rfl aU))) ?_;intro w' ao aa;have q9:=lr (p:=ju) (show j<s.length by omega) h6;have xG:=QA.trans (jS (.inr h6));exact⟨(qf (j:=j) h1 h4 om xG (by simp only [h1,h4,h5,h6,h8,h9,decide_true,decide_false,Bool.true_and,Bool.false_and,Bool.and_true,Bool.and_false,Bool.not_true,Bool.not_false,Bool.true_or,Bool.false_or,Bool.or_true,Bool.or_false,ne_eq,not_true_eq_false,not_false_eq_true,Bool.and_self])).symm,aa⟩
    refine J2 ?_;refine LM.sp 78 rfl rfl rfl ?_;refine J4 ?_;refine LM.c6 Tryz.sizeOf147 rfl rfl rfl rfl cZ bF ?_;refine J6 ?_;refine QM.aG (ds:=([])) (.inl rfl) [.cell 4 147,.tmp 5,.tmp 6] Tryz.results76 aV (bU rfl Tryz.isAgg147 Tryz.sizeOf147 rfl (aZ rfl (aZ rfl aU))) ?_;intro w' ao aa;have q9:=lr (p:=ju) (show j<s.length by omega) h6;have xG:=QA.trans (jS (.inr h6));exact⟨(qf (j:=j) h1 h4 om xG (by simp only [h1,h4,h5,h6,h8,h9,decide_true,decide_false,Bool.true_and,Bool.false_and,Bool.and_true,Bool.and_false,Bool.not_true,Bool.not_false,Bool.true_or,Bool.false_or,Bool.or_true,Bool.or_false,ne_eq,not_true_eq_false,not_false_eq_true,Bool.and_self])).symm,aa⟩
   refine J4 ?_;refine LM.dL (t:=73) rfl rfl rfl ?_;refine J6 ?_;refine LM.c6 Tryz.sizeOf147 rfl rfl rfl rfl cZ bF ?_;refine J6 ?_;refine QM.aG (ds:=([])) (.inl rfl) [.cell 4 147,.tmp 5,.tmp 6] Tryz.results76 aV (bU rfl Tryz.isAgg147 Tryz.sizeOf147 rfl (aZ rfl (aZ rfl aU))) ?_;intro w' ao aa;have q9:=lr (p:=ju) (show j<s.length by omega) h6;have xG:=QA.trans (jS (.inr h6));exact⟨(qf (j:=j) h1 h4 om xG (by simp only [h1,h4,h5,h6,h8,decide_true,decide_false,Bool.true_and,Bool.false_and,Bool.and_true,Bool.and_false,Bool.not_true,Bool.not_false,Bool.true_or,Bool.false_or,Bool.or_true,Bool.or_false,ne_eq,not_true_eq_false,not_false_eq_true,Bool.and_self])).symm,aa⟩
  refine yA ?_;refine LM.val (aE (cs:=#[_,_,_,_]) rfl (by first|rfl|kernel_rfl)) ?_;refine J6 ?_;refine LM.aw (t:=73) rfl (fun je=>?_) (fun je=>?_)
  ·refine J2 ?_;refine LM.sp 73 rfl rfl rfl ?_;refine LM.val (ei Tryz.underlying9 rfl rfl om) ?_;refine J2 ?_;refine LM.aw (t:=78) rfl (fun lK=>?_) (fun lK=>?_)
   ·refine J6 ?_;refine LM.c6 Tryz.sizeOf147 rfl rfl rfl rfl cZ bF ?_;refine J6 ?_;refine QM.aG (ds:=([])) (.inl rfl) [.cell 4 147,.tmp 5,.tmp 6] Tryz.results76 aV (bU rfl Tryz.isAgg147 Tryz.sizeOf147 rfl (aZ rfl (aZ rfl aU))) ?_;intro w' ao aa;have q9:=pj (p:=ju) (show s.length<=j by omega);have xG:=QA.trans (jS (.inl (show s.length<=j by omega)));exact⟨(qf (j:=j) h1 h4 om xG (by simp only [h1,h4,h5,je,lK,decide_true,decide_false,Bool.true_and,Bool.false_and,Bool.and_true,Bool.and_false,Bool.not_true,Bool.not_false,Bool.true_or,Bool.false_or,Bool.or_true,Bool.or_false,ne_eq,not_true_eq_false,not_false_eq_true,Bool.and_self])).symm,aa⟩
   refine J2 ?_;refine LM.sp 78 rfl rfl rfl ?_;refine J4 ?_;refine LM.c6 Tryz.sizeOf147 rfl rfl rfl rfl cZ bF ?_;refine J6 ?_;refine QM.aG (ds:=([])) (.inl rfl) [.cell 4 147,.tmp 5,.tmp 6] Tryz.results76 aV (bU rfl Tryz.isAgg147 Tryz.sizeOf147 rfl (aZ rfl (aZ rfl aU))) ?_;intro w' ao aa;have q9:=pj (p:=ju) (show s.length<=j by omega);have xG:=QA.trans (jS (.inl (show s.length<=j by omega)));exact⟨(qf (j:=j) h1 h4 om xG (by simp only [h1,h4,h5,je,lK,decide_true,decide_false,Bool.true_and,Bool.false_and,Bool.and_true,Bool.and_false,Bool.not_true,Bool.not_false,Bool.true_or,Bool.false_or,Bool.or_true,Bool.or_false,ne_eq,not_true_eq_false,not_false_eq_true,Bool.and_self])).symm,aa⟩
  refine J4 ?_;refine LM.dL (t:=73) rfl rfl rfl ?_;refine J6 ?_;refine LM.c6 Tryz.sizeOf147 rfl rfl rfl rfl cZ bF ?_;refine J6 ?_;refine QM.aG (ds:=([])) (.inl rfl) [.cell 4 147,.tmp 5,.tmp 6] Tryz.results76 aV (bU rfl Tryz.isAgg147 Tryz.sizeOf147 rfl (aZ rfl (aZ rfl aU))) ?_;intro w' ao aa;have q9:=pj (p:=ju) (show s.length<=j by omega);have xG:=QA.trans (jS (.inl (show s.length<=j by omega)));exact⟨(qf (j:=j) h1 h4 om xG (by simp only [h1,h4,h5,je,decide_true,decide_false,Bool.true_and,Bool.false_and,Bool.and_true,Bool.and_false,Bool.not_true,Bool.not_false,Bool.true_or,Bool.false_or,Bool.or_true,Bool.or_false,ne_eq,not_true_eq_false,not_false_eq_true,Bool.and_self])).symm,aa⟩
 refine J3 ?_;refine af.draw [(0,0),(1,0),(2,0),(3,0),(4,0),(5,0),(6,0),(7,0),(8,0),(9,0),(10,0),(11,0),(12,2),(13,3),(14,3),(15,3)] kr kr ?_;refine J3 ?_;refine LD.val rfl rfl (lC rfl rfl om) ?_;refine LD.val rfl rfl (xK Tryz.underlying9 rfl rfl rfl om om om) ?_;refine J1 ?_;refine LD.val rfl rfl (aE (cs:=#[_,_,_,_]) rfl (by first|rfl|kernel_rfl)) ?_;refine J1 ?_;refine LD.val rfl rfl (lC rfl rfl om) ?_;refine J2 ?_;refine LD.val rfl rfl (ei Tryz.underlying9 rfl rfl om) ?_;refine dE rfl rfl Tryz.func129 rfl (fun w hm hc hg=>Jh _ w) ?_;refine LD.tail rfl rfl ?_;refine LM.c6 Tryz.sizeOf147 rfl rfl rfl rfl cZ bF ?_;refine J3 ?_;refine QM.qn ?_;refine J2 ?_;refine QM.aG (ds:=([])) (.inl rfl) [.cell 4 147,.tmp 5,.tmp 6] Tryz.results76 aV (bU rfl Tryz.isAgg147 Tryz.sizeOf147 rfl (aZ rfl (aZ rfl aU))) ?_;intro w' ao aa;exact⟨(Oz h1 h4).symm,aa⟩
def ScT (r:List bA×Int×Int) (n0:Nat) (v:Value) (m:ab):Prop:=∃ad n cap,v= .tuple #[.slice ad n cap,.int .i64 r.2.1,.int .i64 r.2.2]/\n=r.1.length/\Sl fW 147 4 n0 r.1 (.slice ad n cap) m
theorem ScT.mono {r:List bA×Int×Int} :∀(k k':Nat) u m,k'<=k->ScT r k u m->ScT r k' u m:=fun k k' u m h ⟨ad,n,cap,h1,h2,h3⟩=>⟨ad,n,cap,h1,h2,h3.mono h⟩
set_option maxHeartbeats 1000000 in
theorem IN (w:World) (hx:s.length<=1000000000):aD Tryz.prog 31 #[vS s] w (fun v w'=>Ext w w'/\∃m,ScT (eG s) w.heap.size v m/\Mem w' m/\∀p∈m,w.heap.size<=p.1):=by
 refine aD.ak Tryz.func31 rfl Tryz.ntmps31 rfl ([]) (no) (Mem.nil w) ?_;refine dc ?_;refine LM.val (j0 Tryz.underlying9 rfl) ?_;refine J3 ?_;refine af.aj rfl (fun h1=>?_) (fun h1=>?_)
 ·refine J9 ?_;refine QM.leave (.inl rfl) [.tmp 2,.tmp 3,.tmp 4] Tryz.results31 rfl ?_;intro w' ao aa aA;have hr:eG s=([],8000,6):=(by unfold eG;rw [if_pos om]);rw [hr];exact⟨aa,[],⟨none,0,0,rfl,rfl,.nil _ _ _ _⟩,Mem.nil _,fun p hp=>by cases hp⟩
 refine UT ?_;refine af.aO (α:=Nat×Int×List bA×Option Addr×Nat×Nat×ab) (fun ⟨i,last,out,AD,n5,nL,m5⟩=>[(5,.slice AD n5 nL),(6,.int .i64 last),(7,.int .i64 (i:Nat))]) [(0,_)] (fun ⟨i,last,out,AD,n5,nL,m5⟩=>m5++ []) (fun ⟨i,last,out,AD,n5,nL,m5⟩=>i<=s.length/\iK s i last out=iK s 0 (-1) []/\n5=out.length/\Sl fW 147 4 w.heap.size out (.slice AD n5 nL) m5/\(last= -1\/out≠ [])/\out.length<=i) (fun ⟨i,last,out,AD,n5,nL,m5⟩=>s.length-i) ((0,-1,[],none,0,0,[])) cA aX ⟨Nat.zero_le _,rfl,rfl,.nil _ _ _ _,.inl rfl,Nat.zero_le _⟩ ?_;rintro ⟨i,last,out,AD,n5,nL,m5⟩ ⟨hi,Ze,UN,Qp,HG,Lj⟩;change af _ _ _ _ _ _ _ (m5++ []) _ _ _;refine J5 ?_;refine LM.val (j0 Tryz.underlying9 rfl) ?_;refine J3 ?_;refine af.aj rfl (fun h2=>?_) (fun h2=>?_)
 ·refine J5 ?_;refine af.bB (α:=Bool) (fun q7=>[(33,.bool q7)]) [(0,_),(5,_),(6,_),(7,_)] (fun q7=>m5++ []) (fun q7=>q7=kT (s.getD i 0)) cA ?_ ?_
  ·refine J3 ?_;refine LM.val (ei Tryz.underlying9 rfl rfl om) ?_;refine J2 ?_;refine LM.aw (t:=22) rfl (fun h3=>?_) (fun h3=>?_)
   ·refine cM ?_;refine mK (_) ?_
    ·unfold kT;simp only [h1,h2,h3,decide_true,decide_false,Bool.true_and,Bool.false_and,Bool.and_true,Bool.and_false,Bool.not_true,Bool.not_false,Bool.true_or,Bool.false_or,Bool.or_true,Bool.or_false,ne_eq,not_true_eq_false,not_false_eq_true,Bool.and_self]
   refine J2 ?_;refine LM.sp 22 rfl rfl rfl ?_;refine LM.val (ei Tryz.underlying9 rfl rfl om) ?_;refine J3 ?_;refine LM.aw (t:=28) rfl (fun h4=>?_) (fun h4=>?_)
   ·refine J6 ?_;refine mK (_) ?_
    ·unfold kT;simp only [h1,h2,h3,h4,decide_true,decide_false,Bool.true_and,Bool.false_and,Bool.and_true,Bool.and_false,Bool.not_true,Bool.not_false,Bool.true_or,Bool.false_or,Bool.or_true,Bool.or_false,ne_eq,not_true_eq_false,not_false_eq_true,Bool.and_self]
   refine J2 ?_;refine LM.sp 28 rfl rfl rfl ?_;refine LM.val (ei Tryz.underlying9 rfl rfl om) ?_;refine J3 ?_;refine mK (_) ?_
   ·unfold kT;simp only [h1,h2,h3,h4,decide_true,decide_false,Bool.true_and,Bool.false_and,Bool.and_true,Bool.and_false,Bool.not_true,Bool.not_false,Bool.true_or,Bool.false_or,Bool.or_true,Bool.or_false,ne_eq,not_true_eq_false,not_false_eq_true,Bool.and_self]
  rintro q7 hq7;change QM _ _ _ _ _ (m5++ []) _ _ _;refine J1 ?_;refine af.aN rfl (fun h5=>?_) (fun h5=>?_)
  ·refine cF ?_;refine aK ((i+1,last,out,AD,n5,nL,m5)) ?_ ?_
   ·exact⟨by omega,(C1 om (hq7▸h5)).symm.trans Ze,UN,Qp,HG,by omega⟩
   ·(dsimp only;omega)
  refine J7 ?_;refine LM.val (ei Tryz.underlying9 rfl rfl om) ?_;refine J3 ?_;refine af.aj rfl (fun h6=>?_) (fun h6=>?_)
  ·refine J2 ?_;refine af.aO (α:=Nat) (fun j=>[(7,.int .i64 (j:Nat))]) [(0,_),(5,_),(6,_)] (fun j=>m5++ []) (fun j=>i<=j/\j<=s.length/\i+gI k7 s i=j+gI k7 s j) (fun j=>s.length-j) (i) cA aX ⟨Nat.le_refl _,by omega,rfl⟩ ?_;rintro j ⟨Rh,Qq,hr⟩;change af _ _ _ _ _ _ _ (m5++ []) _ _ _;refine J5 ?_;refine LM.val (j0 Tryz.underlying9 rfl) ?_;refine J2 ?_;refine LM.aw (t:=44) rfl (fun h7=>?_) (fun h7=>?_)
   ·refine J2 ?_;refine LM.sp 44 rfl rfl rfl ?_;refine LM.val (ei Tryz.underlying9 rfl rfl om) ?_;refine J4 ?_;refine af.aj rfl (fun h8=>?_) (fun h8=>?_)
    ·refine J9 ?_;refine aK (j+1) ?_ ?_
     ·have Bf:=eX (p:=k7) (show j<s.length by omega) (decide_eq_true h8);exact⟨by omega,by omega,by omega⟩
     ·omega
    refine J8 ?_;have q9:=lr (p:=k7) (show j<s.length by omega) (decide_eq_false h8);have Yn:=eX (p:=k7) (show i<s.length by omega) (vE (decide_eq_true h6));refine aK ((j,last,out,AD,n5,nL,m5)) ?_ ?_
    ·exact⟨by omega,(xm (j:=j) om (hq7▸h5) (decide_eq_true h6) om).symm.trans Ze,UN,Qp,HG,by omega⟩
    ·(dsimp only;omega)
   refine Ai ?_;have q9:=pj (p:=k7) (show s.length<=j by omega);have Yn:=eX (p:=k7) (show i<s.length by omega) (vE (decide_eq_true h6));refine aK ((j,last,out,AD,n5,nL,m5)) ?_ ?_
   ·exact⟨by omega,(xm (j:=j) om (hq7▸h5) (decide_eq_true h6) om).symm.trans Ze,UN,Qp,HG,by omega⟩
   ·(dsimp only;omega)
  refine J6 ?_;refine cE Tryz.func76 rfl (fun w hm hc hg=>JZ i w om om) ?_;refine J4 ?_;refine LM.alloc Tryz.zeroValue147 rfl (fun b8 RV=>?_);refine LM.c6 Tryz.sizeOf147 rfl rfl rfl rfl cZ bF ?_;refine J6 ?_;refine af.bB (α:=Bool) (fun q=>[(80,.bool q)]) [(0,_),(5,_),(7,_),(8,_),(9,_)] (fun q=>(b8,.cells (fW (fV s i).1).toArray 147 (0,0))::(m5++ [])) (fun q=>q=BL (fV s i) i last out) cA ?_ ?_
  ·refine J4 ?_;refine LM.bn (t:=61) rfl (fun h9=>?_) (fun h9=>?_)
   ·refine J3 ?_;refine LM.dL (t:=61) rfl rfl rfl ?_;refine J4 ?_;refine LM.dL (t:=61) rfl rfl rfl ?_;refine dc ?_;refine mK (_) ?_
    ·unfold BL;simp only [h1,h2,h5,h6,h9,decide_true,decide_false,Bool.true_and,Bool.false_and,Bool.and_true,Bool.and_false,Bool.not_true,Bool.not_false,Bool.true_or,Bool.false_or,Bool.or_true,Bool.or_false,ne_eq,not_true_eq_false,not_false_eq_true,Bool.and_self]
   refine J4 ?_;refine LM.aw (t:=65) rfl (fun je=>?_) (fun je=>?_)
   ·refine J6 ?_;refine LM.aw (t:=70) rfl (fun lK=>?_) (fun lK=>?_)
    ·have ec:0<out.length:=(by rcases HG with h|h;(exfalso;omega);exact List.length_pos_iff.2 h)
     refine J3 ?_;refine LM.sp 70 rfl rfl rfl ?_;refine J1 ?_;refine LM.sp 70 rfl rfl rfl ?_;refine LM.val (c4 qw Tryz.underlying84 Tryz.sizeOf147 rfl rfl om) ?_;refine J2 ?_;refine LM.rd (aL (j:=0) aC ir Tryz.isAgg3 rfl rfl c7 rfl (by rfl)) ?_;refine J4 ?_;refine mK (_) ?_
     ·rw [show ((n5:Int)-1).toNat=out.length-1 by omega];unfold BL;simp only [h1,h2,h5,h6,h9,je,lK,decide_true,decide_false,Bool.true_and,Bool.false_and,Bool.and_true,Bool.and_false,Bool.not_true,Bool.not_false,Bool.true_or,Bool.false_or,Bool.or_true,Bool.or_false,ne_eq,not_true_eq_false,not_false_eq_true,Bool.and_self]
    refine dc ?_;refine mK (_) ?_
    ·unfold BL;simp only [h1,h2,h5,h6,h9,je,lK,decide_true,decide_false,Bool.true_and,Bool.false_and,Bool.and_true,Bool.and_false,Bool.not_true,Bool.not_false,Bool.true_or,Bool.false_or,Bool.or_true,Bool.or_false,ne_eq,not_true_eq_false,not_false_eq_true,Bool.and_self]
   refine Ai ?_;refine mK (_) ?_
   ·unfold BL;simp only [h1,h2,h5,h6,h9,je,decide_true,decide_false,Bool.true_and,Bool.false_and,Bool.and_true,Bool.and_false,Bool.not_true,Bool.not_false,Bool.true_or,Bool.false_or,Bool.or_true,Bool.or_false,ne_eq,not_true_eq_false,not_false_eq_true,Bool.and_self]
  rintro q hq;change QM _ _ _ _ _ ((b8,.cells (fW (fV s i).1).toArray 147 (0,0))::(m5++ [])) _ _ _;refine J1 ?_;refine af.aN rfl (fun rz=>?_) (fun rz=>?_)
  ·refine kR ?_;refine QM.leave (.inl rfl) [.tmp 2,.tmp 3,.tmp 4] Tryz.results31 rfl ?_;intro w' ao aa aA;have hr:eG s=([],(i:Int),5):=(by unfold eG;rw [if_neg om,<-Ze,I5 om (hq7▸h5) (decide_eq_false h6) (hq▸rz)]);rw [hr];exact⟨aa,[],⟨none,0,0,rfl,rfl,.nil _ _ _ _⟩,Mem.nil _,fun p hp=>by cases hp⟩
  refine J5 ?_;refine LM.rd (aR Tryz.isAgg147 Tryz.sizeOf147 rfl rfl) ?_;refine LM.single Tryz.underlying84 Tryz.sizeOf147 Tryz.zeroValue147 rfl rfl rfl rfl rfl (fun b84 anY=>?_);refine LM.app (a:=(fV s i).1) Tryz.underlying84 Tryz.typeInfo147 rfl rfl rfl rfl rfl rfl rfl aC (by rfl) ir (by intro _ u hu;simp [fW] at hu;(repeat (first|(rcases hu with rfl|hu)|subst hu|rfl))) (by first|exact Nat.le_refl _|omega) kU (by first|omega|(unfold maxLen;omega)) (by simp only [Tryz.t147];omega) (fun ag2 n85 aao m85 agL agB amd=>?_);refine kR ?_;have xr:=GR (show i<s.length by omega);refine aK (((fV s i).2.1,((fV s i).2.1:Nat),out++ [(fV s i).1],ag2,n85,aao,m85)) ?_ ?_
  ·exact⟨by omega,(Gn om (hq7▸h5) (decide_eq_false h6) (hq▸rz)).symm.trans Ze,by rw [agL];simp,agB,.inr (by simp),by simp;omega⟩
  ·(dsimp only;omega)
 refine kR ?_;refine QM.leave (.inl rfl) [.tmp 2,.tmp 3,.tmp 4] Tryz.results31 rfl ?_;intro w' ao aa aA;have hr:eG s=(out,0,0):=(by unfold eG;rw [if_neg om,<-Ze,JK om]);rw [hr];exact⟨aa,m5,⟨AD,n5,nL,rfl,UN,Qp⟩,ao.pick m5,fun p hp=>Sl.ge Qp p hp⟩
end Go.Eng
namespace Go.Eng
open Go Go.Proofs Go.RowKit
variable {a b e hi last lo:Int} {nm s t:List UInt8} {ops xs:List bO} {ah ahead cap i j k n n0 w:Nat} {ad:Option Addr} {x:Qm}
theorem pR (k:Int):n3 k= -1\/0<=n3 k:=by unfold n3;(repeat' split)<;>omega
theorem nu {α:Type} {p:α->Bool} {xs:List α}:xs.all p= !xs.any (fun o=> !p o):=by rw [List.all_eq_not_any_not]
theorem xM {α:Type} {p:α->Bool} {xs:List α} (d:α) (h:i<xs.length):(xs.take (i+1)).all p=((xs.take i).all p&&p (xs.getD i d)):=by
  rw [bQ d h,List.all_append];simp
theorem SX (h:i<xs.length) (hr:ew (xs.getD i default)=false):jl xs=false:=by
  cases hm:jl xs with
  |false=>rfl
  |true=>rw [tL hm h] at hr;cases hr
theorem T9 {k:Int} (h:k=5):hasB (yB k) (yP k) b=(decide (1<=b)&&decide (b<=64)):=by subst h;rfl
theorem aag {k:Int} (h:¬k=5):hasB (yB k) (yP k) b=decide (b=0):=by unfold yB yP;rw [if_neg h,if_neg h];rfl
abbrev pV (fv:Bool) (ad:Option Addr) (n cap:Nat):Value:= .agg #[.bool fv,.slice ad n cap]
abbrev pB (b:Nat) (fv:Bool) (ad:Option Addr) (n cap:Nat):Nat×Obj:=(b,.cells #[.bool fv,.slice ad n cap] 62 (0,0))
theorem xW (w:World):aD Tryz.prog 180 #[] w (New fB 9 1 yX w):=by
 refine aD.ak Tryz.func180 rfl Tryz.ntmps180 rfl ([]) (no) (Mem.nil w) ?_;refine J7 ?_;refine LM.row (vs:=[_,_,_,_,_,_,_,_,_,_,_,_]) Tryz.underlying190 Tryz.sizeOf9 Tryz.zeroValue9 rfl rfl rfl rfl rfl rfl (fun b1 l6=>?_);refine J4 ?_;refine qL Tryz.results180 rfl fun w' ao aa aA=>?_;exact⟨aa,[(b1,.cells (arr fB yX []) 9 (0,0))],.inr ⟨b1,12,[],l6,rfl,rfl,by decide,by unfold maxLen;decide,rfl⟩,ao⟩
theorem KR (k:Int) (w:World):aD Tryz.prog 178 #[.int .i64 k] w (fun v w'=>v=vS (yV k)/\Ext w w'):=by
 refine aD.ak Tryz.func178 rfl Tryz.ntmps178 rfl ([]) (no) (Mem.nil w) ?_;refine dc ?_;refine LM.aw (t:=5) rfl (fun h1=>?_) (fun h1=>?_)
 ·refine rA ?_;refine qL Tryz.results178 rfl fun w' ao aa aA=>?_;have W7:yX.length=12:=rfl;refine ⟨?_,aa⟩;show vS _=_;congr 1;first|(rw [yV,if_neg om];done)|(rw [yV,if_pos om];rfl)
 refine J2 ?_;refine LM.cS (oC Tryz.func180) (fun w hm hc hg=>xW w) (fun ad7 n7 afw m7 hn7 hs7=>?_);refine J1 ?_;refine LM.sp 5 rfl rfl rfl ?_;have RM:n7=12:=hn7;refine J4 ?_;refine af.aj rfl (fun h2=>?_) (fun h2=>?_)
 ·refine J7 ?_;refine qL Tryz.results178 rfl fun w' ao aa aA=>?_;have W7:yX.length=12:=rfl;refine ⟨?_,aa⟩;show vS _=_;congr 1;first|(rw [yV,if_neg om];done)|(rw [yV,if_pos om];rfl)
 refine J4 ?_;refine LM.cS (oC Tryz.func180) (fun w hm hc hg=>xW w) (fun acA n11 Ui UY y9 E5=>?_);have RM:n11=12:=y9;refine J1 ?_;refine LM.val (c4 qw Tryz.underlying190 Tryz.sizeOf9 rfl rfl om) ?_;refine LM.rd (bt aC ir Tryz.isAgg9 rfl rfl c7 (by rfl)) ?_;refine J4 ?_;refine qL Tryz.results178 rfl fun w' ao aa aA=>?_;have W7:yX.length=12:=rfl;refine ⟨?_,aa⟩;show vS _=_;congr 1;first|(rw [yV,if_neg om];done)|(rw [yV,if_pos om];rfl)
theorem yn (k:Int) (w:World):aD Tryz.prog 131 #[.int .i64 k] w (fun v w'=>v=vS (yV k)/\Ext w w'):=by
 refine aD.ak Tryz.func131 rfl Tryz.ntmps131 rfl ([]) (no) (Mem.nil w) ?_;refine J7 ?_;refine LM.row (vs:=[_,_,_,_,_,_,_,_,_,_,_,_]) Tryz.underlying190 Tryz.sizeOf9 Tryz.zeroValue9 rfl rfl rfl rfl rfl rfl (fun b4 wG=>?_);refine J9 ?_;refine LM.aw (t:=7) rfl (fun h1=>?_) (fun h1=>?_)
 ·refine gz ?_;refine qL Tryz.results131 rfl fun w' ao aa aA=>?_;refine ⟨?_,aa⟩;show vS _=_;congr 1;first|(rw [yV,if_neg om];done)|(rw [yV,if_pos om];rfl)
 refine J5 ?_;refine af.aj rfl (fun h2=>?_) (fun h2=>?_)
 ·refine J7 ?_;refine qL Tryz.results131 rfl fun w' ao aa aA=>?_;refine ⟨?_,aa⟩;show vS _=_;congr 1;first|(rw [yV,if_neg om];done)|(rw [yV,if_pos om];rfl)
 refine J6 ?_;change LM _ _ _ _ _ _ _ _ ((b4,Obj.cells (arr fB yX []) 9 (0,0))::_) _ _ _;have hs4:Sl fB 9 1 w.heap.size yX (.slice (some ⟨b4,0,none⟩) 12 12) [(b4,.cells (arr fB yX []) 9 (0,0))] := .inr ⟨b4,12,[],wG,rfl,rfl,by decide,by unfold maxLen;decide,rfl⟩;have RM:yX.length=12:=rfl;refine LM.val (c4 qw Tryz.underlying190 Tryz.sizeOf9 rfl rfl om) ?_;refine LM.rd (bt aC ir Tryz.isAgg9 rfl rfl c7 (by rfl)) ?_;refine J4 ?_;refine qL Tryz.results131 rfl fun w' ao aa aA=>?_;refine ⟨?_,aa⟩;show vS _=_;congr 1;first|(rw [yV,if_neg om];done)|(rw [yV,if_pos om];rfl)
theorem EX (k:Int) (w:World):aD Tryz.prog 177 #[.int .i64 k] w (fun v w'=>v= .tuple #[.agg #[.int .i64 (n3 k),.int .i64 (qM k)],.agg #[.int .i64 (yB k),.int .i64 (yP k)]]/\Ext w w'):=by
 refine aD.ak Tryz.func177 rfl Tryz.ntmps177 rfl ([]) (no) (Mem.nil w) ?_;refine J2 ?_;refine LM.alloc Tryz.zeroValue222 rfl (fun b2 wi=>?_);refine LM.alloc Tryz.zeroValue222 rfl (fun b3 FM=>?_);refine J4 ?_;refine LM.val (aE (cs:=#[_,_]) rfl (by first|rfl|kernel_rfl)) ?_;refine LM.alloc Tryz.zeroValue222 rfl (fun b4 wG=>?_);refine LM.c6 Tryz.sizeOf222 rfl rfl rfl rfl cZ bF ?_;refine rA ?_;refine af.aj rfl (fun h1=>?_) (fun h1=>?_)
 ·refine J1 ?_;refine af.toJS (b2) [.cells #[.int .i64 0,.int .i64 0] 222 (0,0),.cells #[.int .i64 (1),.int .i64 (16)] 222 (0,0)] (by first|exact .head _|(simp;done)) (fun yC=>?_);refine af.draw [(0,0),(1,1),(2,2),(3,3)] kr kr ?_;refine LD.val rfl rfl (aE (cs:=#[_,_]) rfl (by first|rfl|kernel_rfl)) ?_;refine LD.rd rfl rfl (aR Tryz.isAgg222 Tryz.sizeOf222 rfl rfl) ?_;refine LD.mn [.cells #[.int .i64 (1),.int .i64 (16)] 222 (0,0)] rfl rfl Tryz.sizeOf222 rfl rfl rfl (by decide) (by simp) (by simp only [List.forall_mem_cons,List.not_mem_nil,false_implies,implies_true,and_true];exact⟨⟨_,_,rfl,by decide,.head _⟩,⟨_,_,rfl,by decide,.head _⟩⟩) bF yC ?_;refine LD.tail rfl rfl ?_;refine LM.mT ?_;refine LM.c6 Tryz.sizeOf222 rfl rfl rfl rfl cZ bF ?_;refine J1 ?_;refine QM.qn ?_;refine J4 ?_;refine QM.aG (ds:=([])) (.inl rfl) [.cell 2 222,.cell 3 222] Tryz.results177 aV (bU rfl Tryz.isAgg222 Tryz.sizeOf222 rfl (bU rfl Tryz.isAgg222 Tryz.sizeOf222 rfl aU)) ?_;intro w' ao aa;refine ⟨?_,aa⟩;simp only [bd,n3,qM,yB,yP];try ((repeat' split)<;>first|rfl|omega)
 refine J7 ?_;refine af.mG (t:=11) rfl (fun h2=>?_) (fun h2=>?_)
 ·refine J4 ?_;refine af.toJS (b2) [.cells #[.int .i64 0,.int .i64 0] 222 (0,0),.cells #[.int .i64 (0),.int .i64 (7)] 222 (0,0)] (by first|exact .head _|(simp;done)) (fun yC=>?_);refine af.draw [(0,0),(1,1),(2,2),(3,3)] kr kr ?_;refine LD.val rfl rfl (aE (cs:=#[_,_]) rfl (by first|rfl|kernel_rfl)) ?_;refine LD.rd rfl rfl (aR Tryz.isAgg222 Tryz.sizeOf222 rfl rfl) ?_;refine LD.mn [.cells #[.int .i64 (0),.int .i64 (7)] 222 (0,0)] rfl rfl Tryz.sizeOf222 rfl rfl rfl (by decide) (by simp) (by simp only [List.forall_mem_cons,List.not_mem_nil,false_implies,implies_true,and_true];exact⟨⟨_,_,rfl,by decide,.head _⟩,⟨_,_,rfl,by decide,.head _⟩⟩) bF yC ?_;refine LD.tail rfl rfl ?_;refine LM.mT ?_;refine LM.c6 Tryz.sizeOf222 rfl rfl rfl rfl cZ bF ?_;refine J1 ?_;refine QM.qn ?_;refine J4 ?_;refine QM.aG (ds:=([])) (.inl rfl) [.cell 2 222,.cell 3 222] Tryz.results177 aV (bU rfl Tryz.isAgg222 Tryz.sizeOf222 rfl (bU rfl Tryz.isAgg222 Tryz.sizeOf222 rfl aU)) ?_;intro w' ao aa;refine ⟨?_,aa⟩;simp only [bd,n3,qM,yB,yP];try ((repeat' split)<;>first|rfl|omega)
 refine J6 ?_;refine af.mG (t:=11) rfl (fun h3=>?_) (fun h3=>?_)
 ·refine J4 ?_;refine af.toJS (b2) [.cells #[.int .i64 0,.int .i64 0] 222 (0,0),.cells #[.int .i64 (0),.int .i64 (7)] 222 (0,0)] (by first|exact .head _|(simp;done)) (fun yC=>?_);refine af.draw [(0,0),(1,1),(2,2),(3,3)] kr kr ?_;refine LD.val rfl rfl (aE (cs:=#[_,_]) rfl (by first|rfl|kernel_rfl)) ?_;refine LD.rd rfl rfl (aR Tryz.isAgg222 Tryz.sizeOf222 rfl rfl) ?_;refine LD.mn [.cells #[.int .i64 (0),.int .i64 (7)] 222 (0,0)] rfl rfl Tryz.sizeOf222 rfl rfl rfl (by decide) (by simp) (by simp only [List.forall_mem_cons,List.not_mem_nil,false_implies,implies_true,and_true];exact⟨⟨_,_,rfl,by decide,.head _⟩,⟨_,_,rfl,by decide,.head _⟩⟩) bF yC ?_;refine LD.tail rfl rfl ?_;refine LM.mT ?_;refine LM.c6 Tryz.sizeOf222 rfl rfl rfl rfl cZ bF ?_;refine J1 ?_;refine QM.qn ?_;refine J4 ?_;refine QM.aG (ds:=([])) (.inl rfl) [.cell 2 222,.cell 3 222] Tryz.results177 aV (bU rfl Tryz.isAgg222 Tryz.sizeOf222 rfl (bU rfl Tryz.isAgg222 Tryz.sizeOf222 rfl aU)) ?_;intro w' ao aa;refine ⟨?_,aa⟩;simp only [bd,n3,qM,yB,yP];try ((repeat' split)<;>first|rfl|omega)
 refine J6 ?_;refine af.mG (t:=11) rfl (fun h4=>?_) (fun h4=>?_)
 ·refine J4 ?_;refine af.toJS (b2) [.cells #[.int .i64 0,.int .i64 0] 222 (0,0),.cells #[.int .i64 (0),.int .i64 (7)] 222 (0,0)] (by first|exact .head _|(simp;done)) (fun yC=>?_);refine af.draw [(0,0),(1,1),(2,2),(3,3)] kr kr ?_;refine LD.val rfl rfl (aE (cs:=#[_,_]) rfl (by first|rfl|kernel_rfl)) ?_;refine LD.rd rfl rfl (aR Tryz.isAgg222 Tryz.sizeOf222 rfl rfl) ?_;refine LD.mn [.cells #[.int .i64 (0),.int .i64 (7)] 222 (0,0)] rfl rfl Tryz.sizeOf222 rfl rfl rfl (by decide) (by simp) (by simp only [List.forall_mem_cons,List.not_mem_nil,false_implies,implies_true,and_true];exact⟨⟨_,_,rfl,by decide,.head _⟩,⟨_,_,rfl,by decide,.head _⟩⟩) bF yC ?_;refine LD.tail rfl rfl ?_;refine LM.mT ?_;refine LM.c6 Tryz.sizeOf222 rfl rfl rfl rfl cZ bF ?_;refine J1 ?_;refine QM.qn ?_;refine J4 ?_;refine QM.aG (ds:=([])) (.inl rfl) [.cell 2 222,.cell 3 222] Tryz.results177 aV (bU rfl Tryz.isAgg222 Tryz.sizeOf222 rfl (bU rfl Tryz.isAgg222 Tryz.sizeOf222 rfl aU)) ?_;intro w' ao aa;refine ⟨?_,aa⟩;simp only [bd,n3,qM,yB,yP];try ((repeat' split)<;>first|rfl|omega)
 refine J6 ?_;refine af.mG (t:=11) rfl (fun h5=>?_) (fun h5=>?_)
 ·refine J4 ?_;refine af.toJS (b2) [.cells #[.int .i64 0,.int .i64 0] 222 (0,0),.cells #[.int .i64 (0),.int .i64 (7)] 222 (0,0)] (by first|exact .head _|(simp;done)) (fun yC=>?_);refine af.draw [(0,0),(1,1),(2,2),(3,3)] kr kr ?_;refine LD.val rfl rfl (aE (cs:=#[_,_]) rfl (by first|rfl|kernel_rfl)) ?_;refine LD.rd rfl rfl (aR Tryz.isAgg222 Tryz.sizeOf222 rfl rfl) ?_;refine LD.mn [.cells #[.int .i64 (0),.int .i64 (7)] 222 (0,0)] rfl rfl Tryz.sizeOf222 rfl rfl rfl (by decide) (by simp) (by simp only [List.forall_mem_cons,List.not_mem_nil,false_implies,implies_true,and_true];exact⟨⟨_,_,rfl,by decide,.head _⟩,⟨_,_,rfl,by decide,.head _⟩⟩) bF yC ?_;refine LD.tail rfl rfl ?_;refine LM.mT ?_;refine LM.c6 Tryz.sizeOf222 rfl rfl rfl rfl cZ bF ?_;refine J1 ?_;refine QM.qn ?_;refine J4 ?_;refine QM.aG (ds:=([])) (.inl rfl) [.cell 2 222,.cell 3 222] Tryz.results177 aV (bU rfl Tryz.isAgg222 Tryz.sizeOf222 rfl (bU rfl Tryz.isAgg222 Tryz.sizeOf222 rfl aU)) ?_;intro w' ao aa;refine ⟨?_,aa⟩;simp only [bd,n3,qM,yB,yP];try ((repeat' split)<;>first|rfl|omega)
 refine J5 ?_;refine af.aj rfl (fun h6=>?_) (fun h6=>?_)
 ·refine J1 ?_;refine af.toJS (b2) [.cells #[.int .i64 0,.int .i64 0] 222 (0,0),.cells #[.int .i64 (0),.int .i64 (7)] 222 (0,0)] (by first|exact .head _|(simp;done)) (fun yC=>?_);refine af.draw [(0,0),(1,1),(2,2),(3,3)] kr kr ?_;refine LD.val rfl rfl (aE (cs:=#[_,_]) rfl (by first|rfl|kernel_rfl)) ?_;refine LD.rd rfl rfl (aR Tryz.isAgg222 Tryz.sizeOf222 rfl rfl) ?_;refine LD.mn [.cells #[.int .i64 (0),.int .i64 (7)] 222 (0,0)] rfl rfl Tryz.sizeOf222 rfl rfl rfl (by decide) (by simp) (by simp only [List.forall_mem_cons,List.not_mem_nil,false_implies,implies_true,and_true];exact⟨⟨_,_,rfl,by decide,.head _⟩,⟨_,_,rfl,by decide,.head _⟩⟩) bF yC ?_;refine LD.tail rfl rfl ?_;refine LM.mT ?_;refine LM.c6 Tryz.sizeOf222 rfl rfl rfl rfl cZ bF ?_;refine J1 ?_;refine QM.qn ?_;refine J4 ?_;refine QM.aG (ds:=([])) (.inl rfl) [.cell 2 222,.cell 3 222] Tryz.results177 aV (bU rfl Tryz.isAgg222 Tryz.sizeOf222 rfl (bU rfl Tryz.isAgg222 Tryz.sizeOf222 rfl aU)) ?_;intro w' ao aa;refine ⟨?_,aa⟩;simp only [bd,n3,qM,yB,yP];try ((repeat' split)<;>first|rfl|omega)
 refine J6 ?_;refine af.aj rfl (fun h7=>?_) (fun h7=>?_)
 ·refine J2 ?_;refine LM.val (aE (cs:=#[_,_]) rfl (by first|rfl|kernel_rfl)) ?_;refine LM.val (aE (cs:=#[_,_]) rfl (by first|rfl|kernel_rfl)) ?_;refine LM.c6 Tryz.sizeOf222 rfl rfl rfl rfl cZ bF ?_;refine LM.c6 Tryz.sizeOf222 rfl rfl rfl rfl cZ bF ?_;refine J5 ?_;refine QM.aG (ds:=([])) (.inl rfl) [.cell 2 222,.cell 3 222] Tryz.results177 aV (bU rfl Tryz.isAgg222 Tryz.sizeOf222 rfl (bU rfl Tryz.isAgg222 Tryz.sizeOf222 rfl aU)) ?_;intro w' ao aa;refine ⟨?_,aa⟩;simp only [bd,n3,qM,yB,yP];try ((repeat' split)<;>first|rfl|omega)
 refine J6 ?_;refine af.aj rfl (fun h8=>?_) (fun h8=>?_)
 ·refine J1 ?_;refine af.toJS (b2) [.cells #[.int .i64 0,.int .i64 0] 222 (0,0),.cells #[.int .i64 (1),.int .i64 (64)] 222 (0,0)] (by first|exact .head _|(simp;done)) (fun yC=>?_);refine af.draw [(0,0),(1,1),(2,2),(3,3)] kr kr ?_;refine LD.val rfl rfl (aE (cs:=#[_,_]) rfl (by first|rfl|kernel_rfl)) ?_;refine LD.rd rfl rfl (aR Tryz.isAgg222 Tryz.sizeOf222 rfl rfl) ?_;refine LD.mn [.cells #[.int .i64 (1),.int .i64 (64)] 222 (0,0)] rfl rfl Tryz.sizeOf222 rfl rfl rfl (by decide) (by simp) (by simp only [List.forall_mem_cons,List.not_mem_nil,false_implies,implies_true,and_true];exact⟨⟨_,_,rfl,by decide,.head _⟩,⟨_,_,rfl,by decide,.head _⟩⟩) bF yC ?_;refine LD.tail rfl rfl ?_;refine LM.mT ?_;refine LM.c6 Tryz.sizeOf222 rfl rfl rfl rfl cZ bF ?_;refine J1 ?_;refine QM.qn ?_;refine J4 ?_;refine QM.aG (ds:=([])) (.inl rfl) [.cell 2 222,.cell 3 222] Tryz.results177 aV (bU rfl Tryz.isAgg222 Tryz.sizeOf222 rfl (bU rfl Tryz.isAgg222 Tryz.sizeOf222 rfl aU)) ?_;intro w' ao aa;refine ⟨?_,aa⟩;simp only [bd,n3,qM,yB,yP];try ((repeat' split)<;>first|rfl|omega)
 refine J6 ?_;refine af.aj rfl (fun h9=>?_) (fun h9=>?_)
 ·refine J1 ?_;refine af.toJS (b2) [.cells #[.int .i64 0,.int .i64 0] 222 (0,0),.cells #[.int .i64 (1),.int .i64 (16)] 222 (0,0)] (by first|exact .head _|(simp;done)) (fun yC=>?_);refine af.draw [(0,0),(1,1),(2,2),(3,3)] kr kr ?_;refine LD.val rfl rfl (aE (cs:=#[_,_]) rfl (by first|rfl|kernel_rfl)) ?_;refine LD.rd rfl rfl (aR Tryz.isAgg222 Tryz.sizeOf222 rfl rfl) ?_;refine LD.mn [.cells #[.int .i64 (1),.int .i64 (16)] 222 (0,0)] rfl rfl Tryz.sizeOf222 rfl rfl rfl (by decide) (by simp) (by simp only [List.forall_mem_cons,List.not_mem_nil,false_implies,implies_true,and_true];exact⟨⟨_,_,rfl,by decide,.head _⟩,⟨_,_,rfl,by decide,.head _⟩⟩) bF yC ?_;refine LD.tail rfl rfl ?_;refine LM.mT ?_;refine LM.c6 Tryz.sizeOf222 rfl rfl rfl rfl cZ bF ?_;refine J1 ?_;refine QM.qn ?_;refine J4 ?_;refine QM.aG (ds:=([])) (.inl rfl) [.cell 2 222,.cell 3 222] Tryz.results177 aV (bU rfl Tryz.isAgg222 Tryz.sizeOf222 rfl (bU rfl Tryz.isAgg222 Tryz.sizeOf222 rfl aU)) ?_;intro w' ao aa;refine ⟨?_,aa⟩;simp only [bd,n3,qM,yB,yP];try ((repeat' split)<;>first|rfl|omega)
 refine J4 ?_;refine af.toJS (b2) [.cells #[.int .i64 0,.int .i64 0] 222 (0,0),.cells #[.int .i64 (-1),.int .i64 (-1)] 222 (0,0)] (by first|exact .head _|(simp;done)) (fun yC=>?_);refine af.draw [(0,1),(1,1),(2,2),(3,3)] kr kr ?_;refine LD.rd rfl rfl (aR Tryz.isAgg222 Tryz.sizeOf222 rfl rfl) ?_;refine LD.rd rfl rfl (aR Tryz.isAgg222 Tryz.sizeOf222 rfl rfl) ?_;refine LD.mn [.cells #[.int .i64 (-1),.int .i64 (-1)] 222 (0,0)] rfl rfl Tryz.sizeOf222 rfl rfl rfl (by decide) (by simp) (by simp only [List.forall_mem_cons,List.not_mem_nil,false_implies,implies_true,and_true];exact⟨⟨_,_,rfl,by decide,.head _⟩,⟨_,_,rfl,by decide,.head _⟩⟩) bF yC ?_;refine LD.tail rfl rfl ?_;refine LM.mT ?_;refine LM.c6 Tryz.sizeOf222 rfl rfl rfl rfl cZ bF ?_;refine J1 ?_;refine QM.qn ?_;refine J2 ?_;refine QM.aG (ds:=([])) (.inl rfl) [.cell 2 222,.cell 3 222] Tryz.results177 aV (bU rfl Tryz.isAgg222 Tryz.sizeOf222 rfl (bU rfl Tryz.isAgg222 Tryz.sizeOf222 rfl aU)) ?_;intro w' ao aa;refine ⟨?_,aa⟩;simp only [bd,n3,qM,yB,yP];try ((repeat' split)<;>first|rfl|omega)
theorem D1 (lo hi n:Int) (w:World):aD Tryz.prog 179 #[.agg #[.int .i64 lo,.int .i64 hi],.int .i64 n] w (fun v w'=>v= .bool (hasB lo hi n)/\Ext w w'):=by
 refine aD.ak Tryz.func179 rfl Tryz.ntmps179 rfl ([]) (no) (Mem.nil w) ?_;refine J2 ?_;refine LM.box rfl rfl (fun b2 wi=>?_);refine dc ?_;refine af.aj rfl (fun h1=>?_) (fun h1=>?_)
 ·refine J9 ?_;refine qL Tryz.results179 rfl fun w' ao aa aA=>?_;refine ⟨?_,aa⟩;simp only [bd,hasB];simp only [h1,decide_true,decide_false,Bool.true_and,Bool.false_and,Bool.and_true,Bool.and_false,Bool.not_true,Bool.not_false,Bool.true_or,Bool.false_or,Bool.or_true,Bool.or_false,ne_eq,not_true_eq_false,not_false_eq_true,Bool.and_self,if_true,if_false,reduceIte]
 refine J9 ?_;refine LM.aw (t:=14) rfl (fun h2=>?_) (fun h2=>?_)
 ·refine cF ?_;refine qL Tryz.results179 rfl fun w' ao aa aA=>?_;refine ⟨?_,aa⟩;simp only [bd,hasB];simp only [h1,h2,decide_true,decide_false,Bool.true_and,Bool.false_and,Bool.and_true,Bool.and_false,Bool.not_true,Bool.not_false,Bool.true_or,Bool.false_or,Bool.or_true,Bool.or_false,ne_eq,not_true_eq_false,not_false_eq_true,Bool.and_self,if_true,if_false,reduceIte]
 refine J9 ?_;refine qL Tryz.results179 rfl fun w' ao aa aA=>?_;refine ⟨?_,aa⟩;simp only [bd,hasB];simp only [h1,h2,decide_true,decide_false,Bool.true_and,Bool.false_and,Bool.and_true,Bool.and_false,Bool.not_true,Bool.not_false,Bool.true_or,Bool.false_or,Bool.or_true,Bool.or_false,ne_eq,not_true_eq_false,not_false_eq_true,Bool.and_self,if_true,if_false,reduceIte]
theorem FI (o:bO) (w:World):aD Tryz.prog 174 #[.agg (fO o).toArray] w (fun v w'=>v= .bool (ew o)/\Ext w w'):=by
 refine aD.ak Tryz.func174 rfl Tryz.ntmps174 rfl ([]) (no) (Mem.nil w) ?_;refine J2 ?_;refine LM.box rfl rfl (fun b1 l6=>?_);refine J7 ?_;refine cE Tryz.func177 rfl (fun w hm hc hg=>EX o.k w) ?_;refine J3 ?_;refine LM.alloc Tryz.zeroValue222 rfl (fun b3 FM=>?_);refine LM.alloc Tryz.zeroValue222 rfl (fun b4 wG=>?_);refine LM.c6 Tryz.sizeOf222 rfl rfl rfl rfl cZ bF ?_;refine LM.c6 Tryz.sizeOf222 rfl rfl rfl rfl cZ bF ?_;refine J6 ?_;refine cE Tryz.func178 rfl (fun w hm hc hg=>KR o.k w) ?_;refine LM.val (DY rfl rfl) ?_;refine J1 ?_;refine LM.aw (t:=15) rfl (fun h1=>?_) (fun h1=>?_)
 ·refine J1 ?_;refine LM.rd (aR Tryz.isAgg222 Tryz.sizeOf222 rfl rfl) ?_;refine J4 ?_;refine cE Tryz.func179 rfl (fun w hm hc hg=>D1 _ _ _ w) ?_;refine J2 ?_;refine LM.bn (t:=21) rfl (fun h2=>?_) (fun h2=>?_)
  ·refine J1 ?_;refine LM.rd (aR Tryz.isAgg222 Tryz.sizeOf222 rfl rfl) ?_;refine J4 ?_;refine cE Tryz.func179 rfl (fun w hm hc hg=>D1 _ _ _ w) ?_;refine J5 ?_;refine qL Tryz.results174 rfl fun w' ao aa aA=>?_;refine ⟨?_,aa⟩;have hk:=jP o.k;simp only [bd,ew,<-hk];simp only [h1,h2,decide_true,decide_false,Bool.true_and,Bool.false_and,Bool.and_true,Bool.and_false,Bool.not_true,Bool.not_false,Bool.true_or,Bool.false_or,Bool.or_true,Bool.or_false,ne_eq,not_true_eq_false,not_false_eq_true,Bool.and_self]
  refine J9 ?_;refine qL Tryz.results174 rfl fun w' ao aa aA=>?_;refine ⟨?_,aa⟩;have hk:=jP o.k;simp only [bd,ew,<-hk];simp only [h1,h2,decide_true,decide_false,Bool.true_and,Bool.false_and,Bool.and_true,Bool.and_false,Bool.not_true,Bool.not_false,Bool.true_or,Bool.false_or,Bool.or_true,Bool.or_false,ne_eq,not_true_eq_false,not_false_eq_true,Bool.and_self]
 refine rA ?_;refine qL Tryz.results174 rfl fun w' ao aa aA=>?_;refine ⟨?_,aa⟩;have hk:=jP o.k;simp only [bd,ew,<-hk];simp only [h1,decide_true,decide_false,Bool.true_and,Bool.false_and,Bool.and_true,Bool.and_false,Bool.not_true,Bool.not_false,Bool.true_or,Bool.false_or,Bool.or_true,Bool.or_false,ne_eq,not_true_eq_false,not_false_eq_true,Bool.and_self]
theorem JN (o:bO) (w:World):aD Tryz.prog 173 #[.agg (fO o).toArray] w (fun v w'=>v= .bool (!ew o)/\Ext w w'):=by
 refine aD.ak Tryz.func173 rfl Tryz.ntmps173 rfl ([]) (no) (Mem.nil w) ?_;refine J2 ?_;refine LM.box rfl rfl (fun b1 l6=>?_);refine J5 ?_;refine LM.rd (aR Tryz.isAgg103 Tryz.sizeOf103 rfl rfl) ?_;refine cE Tryz.func174 rfl (fun w hm hc hg=>FI o w) ?_;refine J5 ?_;refine qL Tryz.results173 rfl fun w' ao aa aA=>?_;exact⟨rfl,aa⟩
theorem QL (w:World) (hn:n=xs.length) (hl:Sr fO 3 xs (.slice ad n cap) w) (hx:xs.length<=1000000):aD Tryz.prog 176 #[.slice ad n cap,.func (.func 173) #[] #[]] w (fun v w'=>v= .int .i64 (g9 (fun o=> !ew o) xs)/\Ext w w'):=by
 refine aD.ak Tryz.func176 rfl Tryz.ntmps176 rfl ([]) (no) (Mem.nil w) ?_;refine kR ?_;refine af.aO (α:=Nat) (fun i=>[(8,.int .i64 (i:Nat))]) [(0,_),(1,_),(7,_)] (fun i=>[]) (fun i=>i<=xs.length/\(xs.take i).any (fun o=> !ew o)=false) (fun i=>xs.length-i) (0) cA aX ⟨Nat.zero_le _,rfl⟩ ?_;rintro i ⟨hi,ha⟩;change af _ _ _ _ _ _ _ ([]) _ _ _;refine J6 ?_;refine af.aj rfl (fun h1=>?_) (fun h1=>?_)
 ·refine Ai ?_;refine LM.dV (de aC ir Tryz.isAgg103 Tryz.sizeOf103 rfl c7 id) ?_;refine LM.ye (tf rfl (dF Tryz.func173 kr rfl) rfl) (fun w hm hc hg=>JN _ w) ?_;refine J2 ?_;refine af.aN rfl (fun h2=>?_) (fun h2=>?_)
  ·refine cM ?_;refine qL Tryz.results176 rfl fun w' ao aa aA=>?_;exact⟨by show Value.int .i64 _=_;rw [kC default ha om (by simpa using h2)],aa⟩
  refine J7 ?_;refine aK (i+1) ?_ ?_
  ·exact⟨by omega,by rw [dG default om,ha,Bool.false_or];simpa using h2⟩
  ·omega
 refine dc ?_;refine qL Tryz.results176 rfl fun w' ao aa aA=>?_;have eA:i=xs.length:=om;subst eA;rw [List.take_length] at ha;exact⟨by show Value.int .i64 _=_;rw [gg ha],aa⟩
theorem RS (w:World) (hn:n=xs.length) (hl:Sr fO 3 xs (.slice ad n cap) w) (hx:xs.length<=1000000):aD Tryz.prog 162 #[.slice ad n cap,.func (.func 173) #[] #[]] w (fun v w'=>v= .bool (xs.any (fun o=> !ew o))/\Ext w w'):=by
 refine aD.ak Tryz.func162 rfl Tryz.ntmps162 rfl ([]) (no) (Mem.nil w) ?_;refine J9 ?_;refine cE Tryz.func176 rfl (fun w hm hc hg=>QL w hn (hl.ext hc) hx) ?_;refine J5 ?_;refine qL Tryz.results162 rfl fun w' ao aa aA=>?_;exact⟨by show Value.bool _=_;rw [<-pG],aa⟩
theorem Kn {fv:Bool} (w:World) (hn:n=xs.length) (hl:Sr fO 3 xs (.slice ad n cap) w):aD Tryz.prog 159 #[pV fv ad n cap] w (fun v w'=>v= .bool (jl xs)/\Ext w w'):=by
 refine aD.ak Tryz.func159 rfl Tryz.ntmps159 rfl ([]) (no) (Mem.nil w) ?_;refine J2 ?_;refine LM.box rfl rfl (fun b1 l6=>?_);refine cF ?_;refine LM.aw (t:=7) rfl (fun h1=>?_) (fun h1=>?_)
 ·refine J7 ?_;refine LM.aw (t:=13) rfl (fun h2=>?_) (fun h2=>?_)
  ·refine J4 ?_;refine cE Tryz.func162 rfl (fun w hm hc hg=>RS w hn (hl.ext hc) om) ?_;refine J6 ?_;refine qL Tryz.results159 rfl fun w' ao aa aA=>?_;refine ⟨?_,aa⟩;simp only [bd,jl];congr 1;first|(rw [decide_eq_false (show¬0<xs.length by omega)];rfl)|(rw [decide_eq_false (show¬xs.length<=12 by omega)];simp;done)|(rw [decide_eq_true (show 0<xs.length by omega),decide_eq_true (show xs.length<=12 by omega),nu];rfl)
  refine J9 ?_;refine qL Tryz.results159 rfl fun w' ao aa aA=>?_;refine ⟨?_,aa⟩;simp only [bd,jl];congr 1;first|(rw [decide_eq_false (show¬0<xs.length by omega)];rfl)|(rw [decide_eq_false (show¬xs.length<=12 by omega)];simp;done)|(rw [decide_eq_true (show 0<xs.length by omega),decide_eq_true (show xs.length<=12 by omega),nu];rfl)
 refine rA ?_;refine qL Tryz.results159 rfl fun w' ao aa aA=>?_;refine ⟨?_,aa⟩;simp only [bd,jl];congr 1;first|(rw [decide_eq_false (show¬0<xs.length by omega)];rfl)|(rw [decide_eq_false (show¬xs.length<=12 by omega)];simp;done)|(rw [decide_eq_true (show 0<xs.length by omega),decide_eq_true (show xs.length<=12 by omega),nu];rfl)
theorem uU (k:Int) (w:World):aD Tryz.prog 132 #[.int .i64 k] w (fun v w'=>v= .tuple #[.int .i64 (n3 k),.int .i64 (qM k)]/\Ext w w'):=by
 refine aD.ak Tryz.func132 rfl Tryz.ntmps132 rfl ([]) (no) (Mem.nil w) ?_;refine gz ?_;refine af.aj rfl (fun h1=>?_) (fun h1=>?_)
 ·refine J8 ?_;refine QM.leave (.inl rfl) [.tmp 2,.tmp 3] Tryz.results132 rfl ?_;intro w' ao aa aA;refine ⟨?_,aa⟩;simp only [bd,n3,qM];try ((repeat' split)<;>first|rfl|omega)
 refine J8 ?_;refine LM.aw (t:=8) rfl (fun h2=>?_) (fun h2=>?_)
 ·refine J4 ?_;refine LM.aw (t:=12) rfl (fun h3=>?_) (fun h3=>?_)
  ·refine kR ?_;refine QM.leave (.inl rfl) [.tmp 2,.tmp 3] Tryz.results132 rfl ?_;intro w' ao aa aA;refine ⟨?_,aa⟩;simp only [bd,n3,qM];try ((repeat' split)<;>first|rfl|omega)
  refine J5 ?_;refine af.aj rfl (fun h4=>?_) (fun h4=>?_)
  ·refine J8 ?_;refine QM.leave (.inl rfl) [.tmp 2,.tmp 3] Tryz.results132 rfl ?_;intro w' ao aa aA;refine ⟨?_,aa⟩;simp only [bd,n3,qM];try ((repeat' split)<;>first|rfl|omega)
  refine J9 ?_;refine af.aj rfl (fun h5=>?_) (fun h5=>?_)
  ·refine J8 ?_;refine QM.leave (.inl rfl) [.tmp 2,.tmp 3] Tryz.results132 rfl ?_;intro w' ao aa aA;refine ⟨?_,aa⟩;simp only [bd,n3,qM];try ((repeat' split)<;>first|rfl|omega)
  refine J9 ?_;refine af.aj rfl (fun h6=>?_) (fun h6=>?_)
  ·refine J8 ?_;refine QM.leave (.inl rfl) [.tmp 2,.tmp 3] Tryz.results132 rfl ?_;intro w' ao aa aA;refine ⟨?_,aa⟩;simp only [bd,n3,qM];try ((repeat' split)<;>first|rfl|omega)
  refine J9 ?_;refine QM.leave (.inl rfl) [.tmp 2,.tmp 3] Tryz.results132 rfl ?_;intro w' ao aa aA;refine ⟨?_,aa⟩;simp only [bd,n3,qM];try ((repeat' split)<;>first|rfl|omega)
 refine J9 ?_;refine af.aj rfl (fun h7=>?_) (fun h7=>?_)
 ·refine J8 ?_;refine QM.leave (.inl rfl) [.tmp 2,.tmp 3] Tryz.results132 rfl ?_;intro w' ao aa aA;refine ⟨?_,aa⟩;simp only [bd,n3,qM];try ((repeat' split)<;>first|rfl|omega)
 refine J9 ?_;refine af.aj rfl (fun h8=>?_) (fun h8=>?_)
 ·refine J8 ?_;refine QM.leave (.inl rfl) [.tmp 2,.tmp 3] Tryz.results132 rfl ?_;intro w' ao aa aA;refine ⟨?_,aa⟩;simp only [bd,n3,qM];try ((repeat' split)<;>first|rfl|omega)
 refine J9 ?_;refine af.aj rfl (fun h9=>?_) (fun h9=>?_)
 ·refine J8 ?_;refine QM.leave (.inl rfl) [.tmp 2,.tmp 3] Tryz.results132 rfl ?_;intro w' ao aa aA;refine ⟨?_,aa⟩;simp only [bd,n3,qM];try ((repeat' split)<;>first|rfl|omega)
 refine J9 ?_;refine QM.leave (.inl rfl) [.tmp 2,.tmp 3] Tryz.results132 rfl ?_;intro w' ao aa aA;refine ⟨?_,aa⟩;simp only [bd,n3,qM];try ((repeat' split)<;>first|rfl|omega)
theorem MY (o:bO) (w:World):aD Tryz.prog 138 #[.agg (fO o).toArray] w (fun v w'=>v= .bool (ew o)/\Ext w w'):=by
 refine aD.ak Tryz.func138 rfl Tryz.ntmps138 rfl ([]) (no) (Mem.nil w) ?_;refine J2 ?_;refine LM.box rfl rfl (fun b1 l6=>?_);refine J8 ?_;refine cE Tryz.func131 rfl (fun w hm hc hg=>yn o.k w) ?_;refine LM.val (sj rfl rfl) ?_;refine J2 ?_;refine af.aj rfl (fun h1=>?_) (fun h1=>?_)
 ·refine J7 ?_;refine qL Tryz.results138 rfl fun w' ao aa aA=>?_;refine ⟨?_,aa⟩;have hk:vb o.k=false:=(by rw [<-jP,h1];rfl);simp only [bd,ew,hk,Bool.false_and]
 refine J6 ?_;refine cE Tryz.func132 rfl (fun w hm hc hg=>uU o.k w) ?_;refine J22 ?_;refine af.bB (α:=Bool) (fun b=>[(5,.bool b)]) [(1,_)] (fun b=>(b1,.cells (fO o).toArray 103 (0,0)):: []) (fun b=>b=hasB (n3 o.k) (qM o.k) o.a) cA ?_ ?_
 ·refine af.aj rfl (fun h2=>?_) (fun h2=>?_)
  ·refine J6 ?_;refine LM.aw (t:=26) rfl (fun h3=>?_) (fun h3=>?_)
   ·refine J8 ?_;have hlc:=pR o.k;refine mK (_) ?_
    ·(rw [hasB,if_neg om,decide_eq_true (show n3 o.k<=o.a by omega)];rfl)
   refine J7 ?_;have hlc:=pR o.k;refine mK (_) ?_
   ·(rw [hasB,if_neg om,decide_eq_false (show¬n3 o.k<=o.a by omega)];rfl)
  refine J1 ?_;have hlc:=pR o.k;refine mK (_) ?_
  ·(rw [hasB,if_pos om];done)
 rintro b l6;change QM _ _ _ _ _ ((b1,.cells (fO o).toArray 103 (0,0)):: []) _ _ _;refine yA ?_;refine af.bB (α:=Bool) (fun b'=>[(6,.bool b')]) [(5,_)] (fun b'=>(b1,.cells (fO o).toArray 103 (0,0)):: []) (fun b'=>b'=hasB (yB o.k) (yP o.k) o.b) cA ?_ ?_
 ·refine af.aj rfl (fun h4=>?_) (fun h4=>?_)
  ·refine J5 ?_;refine LM.aw (t:=41) rfl (fun h5=>?_) (fun h5=>?_)
   ·refine J7 ?_;refine mK (_) ?_
    ·(rw [T9 aC,decide_eq_true (show 1<=o.b by omega)];rfl)
   refine J6 ?_;refine mK (_) ?_
   ·(rw [T9 aC,decide_eq_false (show¬1<=o.b by omega)];rfl)
  refine J1 ?_;refine mK (_) ?_
  ·(rw [aag aC];done)
 rintro b' wi;change QM _ _ _ _ _ ((b1,.cells (fO o).toArray 103 (0,0)):: []) _ _ _;refine J5 ?_;refine LM.bn (t:=47) rfl (fun h6=>?_) (fun h6=>?_)
 ·refine J6 ?_;refine qL Tryz.results138 rfl fun w' ao aa aA=>?_;refine ⟨?_,aa⟩;have hk:vb o.k=true:=(by rw [<-jP];exact decide_eq_true h1);simp only [bd,ew,hk,Bool.true_and,<-l6,<-wi];simp only [h1,h6,decide_true,decide_false,Bool.true_and,Bool.false_and,Bool.and_true,Bool.and_false,Bool.not_true,Bool.not_false,Bool.true_or,Bool.false_or,Bool.or_true,Bool.or_false,ne_eq,not_true_eq_false,not_false_eq_true,Bool.and_self]
 refine J6 ?_;refine qL Tryz.results138 rfl fun w' ao aa aA=>?_;refine ⟨?_,aa⟩;have hk:vb o.k=true:=(by rw [<-jP];exact decide_eq_true h1);simp only [bd,ew,hk,Bool.true_and,<-l6,<-wi];simp only [h1,h6,decide_true,decide_false,Bool.true_and,Bool.false_and,Bool.and_true,Bool.and_false,Bool.not_true,Bool.not_false,Bool.true_or,Bool.false_or,Bool.or_true,Bool.or_false,ne_eq,not_true_eq_false,not_false_eq_true,Bool.and_self]
theorem Kw {fv:Bool} (w:World) (hn:n=xs.length) (hl:Sr fO 3 xs (.slice ad n cap) w):aD Tryz.prog 100 #[pV fv ad n cap] w (fun v w'=>v= .bool (jl xs)/\Ext w w'):=by
 refine aD.ak Tryz.func100 rfl Tryz.ntmps100 rfl ([]) (no) (Mem.nil w) ?_;refine J2 ?_;refine LM.box rfl rfl (fun b1 l6=>?_);refine cF ?_;refine af.aO (α:=Nat) (fun i=>[(3,.int .i64 (i:Nat))]) [(1,_)] (fun i=>pB b1 fv ad n cap:: []) (fun i=>i<=xs.length/\i<=12/\(xs.take i).all ew=true) (fun i=>xs.length-i) (0) cA aX ⟨Nat.zero_le _,Nat.zero_le _,rfl⟩ ?_;rintro i ⟨hi,UX,ha⟩;change af _ _ _ _ _ _ _ (pB b1 fv ad n cap:: []) _ _ _;refine cF ?_;refine af.aj rfl (fun h1=>?_) (fun h1=>?_)
 ·refine J9 ?_;refine LM.aw (t:=13) rfl (fun h2=>?_) (fun h2=>?_)
  ·refine J22 ?_;refine qL Tryz.results100 rfl fun w' ao aa aA=>?_;refine ⟨?_,aa⟩;simp only [bd];have hm:jl xs=false:=(by unfold jl;rw [decide_eq_false (show¬xs.length<=12 by omega)];simp);rw [hm]
  refine J4 ?_;refine LM.sp 13 rfl rfl rfl ?_;refine J2 ?_;refine LM.dV (de aC ir Tryz.isAgg103 Tryz.sizeOf103 rfl c7 id) ?_;refine J1 ?_;refine cE Tryz.func138 rfl (fun w hm hc hg=>MY _ w) ?_;refine J4 ?_;refine af.aN rfl (fun h3=>?_) (fun h3=>?_)
  ·refine dc ?_;refine qL Tryz.results100 rfl fun w' ao aa aA=>?_;refine ⟨?_,aa⟩;simp only [bd];rw [SX (i:=i) om (by simpa using h3)]
  refine J8 ?_;refine aK (i+1) ?_ ?_
  ·exact⟨by omega,by omega,by rw [xM default om,ha,Bool.true_and];simpa using h3⟩
  ·omega
 refine rA ?_;refine qL Tryz.results100 rfl fun w' ao aa aA=>?_;have eA:i=xs.length:=om;subst eA;rw [List.take_length] at ha;refine ⟨?_,aa⟩;simp only [bd,jl];congr 1;rw [ha,decide_eq_true (show xs.length<=12 by omega),Bool.and_true,Bool.and_true];exact decide_eq_decide.2 om
theorem Sr.kp {α:Type} {f:α->List Value} {s:Nat} {xs:List α} {b:Nat} {w w':World} (h:Sr f s xs (.slice ad n cap) w) (k:cG (fun x=>x=b) w w') (sE:0<xs.length->ox ad≠b):Sr f s xs (.slice ad n cap) w':=by
  by_cases h0:0<xs.length
  ·exact h.keep k (fun b' off n' c' e=>by simp only [Value.slice.injEq] at e;obtain ⟨rfl,_,_⟩:=e;exact sE h0)
  · obtain ⟨BP,mD,h1,h2,h3⟩:=h
    exact⟨BP,mD,h1,h2,fun q=>absurd q h0⟩
def oh (ws:List bA) (i:Nat) (e k:Int) (t:List UInt8):Bool:=decide (e=0)&&decide (i<ws.length)&&decide ((ws.getD i default).k=k)&&decide ((ws.getD i default).t=t)
theorem LU {ws:List bA} {k:Int}:oh ws i e k t=(decide (e=0)&&jd ws i k t):=by unfold oh jd;rw [Bool.and_assoc,Bool.and_assoc,Bool.and_assoc]
theorem px {ws:List bA} {k:Int} (h:oh ws i e k t=true):i<ws.length/\e=0:=by
  unfold oh at h;simp only [Bool.and_eq_true,decide_eq_true_eq] at h;exact⟨h.1.1.2,h.1.1.1⟩
def fS (ws:List bA) (i:Nat) (e k:Int) (t:List UInt8):Nat×Int:=if oh ws i e k t then (i+1,e) else if e=0 then (i,5) else (i,e)
def ub (ws:List bA) (i:Nat) (e lo hi:Int):Nat×Int×Int:=if e≠0 then (i,e,0) else nN ws i lo hi
theorem UM {ws:List bA} (h:e≠0):ub ws i e lo hi=(i,e,0):=by unfold ub;rw [if_pos h]
theorem UE {ws:List bA} (h:¬lo= -1) (h2:ws.length<=i\/(ws.getD i default).k≠2):ub ws i 0 lo hi=(i,5,0):=by
  unfold ub nN;rw [if_neg (by simp),if_neg h,if_pos (by simp only [Bool.or_eq_true,decide_eq_true_eq];exact h2)]
theorem TW {ws:List bA} (h:¬lo= -1) (h2:i<ws.length) (h3:(ws.getD i default).k=2) (h4:hasB lo hi (ws.getD i default).n=false):ub ws i 0 lo hi=(i,1,0):=by
  unfold ub nN;rw [if_neg (by simp),if_neg h,if_neg (by simp only [Bool.or_eq_true,decide_eq_true_eq,not_or];exact⟨by omega,fun q=>q h3⟩),if_neg (by rw [h4];simp)]
theorem acu {ws:List bA} (h:¬lo= -1) (h2:i<ws.length) (h3:(ws.getD i default).k=2) (h4:hasB lo hi (ws.getD i default).n=true):ub ws i 0 lo hi=(i+1,0,(ws.getD i default).n):=by
  unfold ub nN;rw [if_neg (by simp),if_neg h,if_neg (by simp only [Bool.or_eq_true,decide_eq_true_eq,not_or];exact⟨by omega,fun q=>q h3⟩),if_pos h4]
theorem SE {ws:List bA} (h1:cb ws i≠0) (h2:ahead<12):mU ws i ahead=((fS ws (vd ws i).1 (vd ws i).2.1 3 [59]).1,(fS ws (vd ws i).1 (vd ws i).2.1 3 [59]).2,⟨cb ws i,(Jf ws i).2.2,(vd ws i).2.2⟩):=by
  unfold mU fS;rw [if_neg h1,if_neg om,LU]
  by_cases h:(vd ws i).2.1=0
  · rw [if_neg (by simp [h]),decide_eq_true h,Bool.true_and]
    split
    ·rw [h]
    ·rfl
  ·rw [if_pos h,decide_eq_false h,Bool.false_and,if_neg (by simp),if_neg h]
theorem acM {ws:List bA} (h1:cb ws i=0):mU ws i ahead=(i,5,⟨0,0,0⟩):=by unfold mU;rw [if_pos h1]
theorem aaa {ws:List bA} (h1:cb ws i≠0) (h2:12<=ahead):mU ws i ahead=(i,6,⟨0,0,0⟩):=by unfold mU;rw [if_neg h1,if_pos h2]
theorem Sr.agS {α:Type} {f:α->List Value} {s:Nat} {xs:List α} {w:World} (h:Sr f s xs (.slice ad n cap) w) (h0:0<xs.length):ox ad<w.heap.size:=by
  obtain ⟨rfl,_,h3⟩:=h.open;obtain ⟨b,off,cs,E,fz,rfl,hb,_⟩:=h3 h0;exact(Array.getElem?_eq_some_iff.1 hb).1
def Gv (r:Bool×List bO×Int×Int) (n0:Nat) (v:Value) (m:ab):Prop:=∃ad n cap,v= .tuple #[.agg #[.bool r.1,.slice ad n cap],.int .i64 r.2.2.1,.int .i64 r.2.2.2]/\n=r.2.1.length/\Sl fO 103 3 n0 r.2.1 (.slice ad n cap) m
theorem Gv.mono {r:Bool×List bO×Int×Int} :∀(k k':Nat) u m,k'<=k->Gv r k u m->Gv r k' u m:=fun k k' u m h ⟨ad,n,cap,h1,h2,h3⟩=>⟨ad,n,cap,h1,h2,h3.mono h⟩
theorem Bv {ws:List bA} {k:Int} (h:e≠0):oh ws i e k t=false:=by rw [LU,decide_eq_false h];rfl
theorem Sy {ws:List bA} (hi:i<=ws.length):(mU ws i k).1<=ws.length:=by
  by_cases h1:cb ws i=0
  ·rw [acM h1];exact hi
  · by_cases h2:12<=k
    ·rw [aaa h1 h2];exact hi
    · rw [SE h1 om]
      have h3:=OY h1
      unfold fS;split
      ·rename_i q;have:=(px q).1;simp only;omega
      ·split<;>simp only<;>omega
theorem uu {ws:List bA} (hi:i<=ws.length):dY ws (i:Int)=(decide ((kN ws i).2.2=0)&&(dR ws i).1,kN ws i):=by
  unfold dY;rw [if_neg om,Int.toNat_natCast]
theorem gy {ws:List bA} {i0:Nat} {i:Int} (hi:i0<=ws.length) (h:kN ws i0=([],i,e)) (he:e≠0):Gv (dY ws (i0:Int)) n0 (.tuple #[.agg #[.bool false,.slice none 0 0],.int .i64 i,.int .i64 e]) [] :=by
  rw [uu hi,h,decide_eq_false he];exact⟨none,0,0,rfl,rfl,.nil _ _ _ _⟩
def vt (ws:List bA) (i:Nat):Nat->Int
  |0=>0
  |m+1=>if jd ws i 1 (yV ((m+1:Nat):Int)) then ((m+1:Nat):Int) else vt ws i m
theorem S9 (h:k<12):yV (k:Int)=yX.getD k [] :=by unfold yV;rw [if_pos om,Int.toNat_natCast]
theorem Sp (ws:List bA) (i:Nat):vt ws i 11=cb ws i:=by
  unfold cb
  cases hc:(decide (i<ws.length)&&decide ((ws.getD i default).k=1)) with
  |false=>
    rw [if_neg (by simp)]
    have:∀m,vt ws i m=0:=by
      intro m
      induction m with
      |zero=>rfl
      |succ m ih=>unfold vt jd;rw [hc,Bool.false_and,if_neg (by simp),ih]
    exact this 11
  |true=>
    rw [if_pos rfl,<-Tp]
    have:∀m,m<=11->vt ws i m=ME (ws.getD i default).t m:=by
      intro m
      induction m with
      |zero=>intro _;rfl
      |succ m ih=>
        intro hm
        unfold vt ME jd;rw [hc,Bool.true_and,ih om,S9 om]
        by_cases q:(ws.getD i default).t=yX.getD (m+1) []
        ·rw [if_pos q,if_pos (decide_eq_true q)]
        ·rw [if_neg q,if_neg (by rw [decide_eq_false q];simp)]
    exact this 11 (Nat.le_refl _)
theorem WN {ws:List bA} (h1:1<=k) (h:jd ws i 1 (yV (k:Int))=true):vt ws i k=(k:Int):=by
  obtain ⟨m,rfl⟩:∃m,k=m+1:=⟨k-1,by omega⟩
  unfold vt;rw [if_pos h]
theorem Yy {ws:List bA} (h1:1<=k) (h:jd ws i 1 (yV (k:Int))=false):vt ws i k=vt ws i (k-1):=by
  obtain ⟨m,rfl⟩:∃m,k=m+1:=⟨k-1,by omega⟩
  rw [show m+1-1=m by omega]
  conv=>lhs;unfold vt
  rw [if_neg (by rw [h];simp)]
theorem Vv {ws:List bA} (h:jd ws i 1 qI=false):kN ws i=([],(i:Int),5):=by unfold kN;rw [if_neg (by rw [h];simp)]
theorem Vh {ws:List bA} (h:jd ws i 1 qI=true) (h2:jd ws (dR ws i).2 3 [123] =false):kN ws i=([],((dR ws i).2:Int),5):=by unfold kN;rw [if_pos h,if_neg (by rw [h2];simp)]
theorem Yv {ws:List bA} (h:jd ws i 1 qI=true) (h2:jd ws (dR ws i).2 3 [123] =true):pz ws ((dR ws i).2+1) [] =kN ws i:=by unfold kN;rw [if_pos h,if_pos h2]
theorem nR1 {ws:List bA} (h:lo= -1):nN ws i lo hi=(i,0,0):=by unfold nN;rw [if_pos h]
theorem nR2 {ws:List bA} (h:¬lo= -1) (h2:ws.length<=i\/(ws.getD i default).k≠2):nN ws i lo hi=(i,5,0):=by
  unfold nN;rw [if_neg h,if_pos (by simp only [Bool.or_eq_true,decide_eq_true_eq];exact h2)]
theorem nR3 {ws:List bA} (h:¬lo= -1) (h2:i<ws.length) (h3:(ws.getD i default).k=2) (h4:(ws.getD i default).n<lo\/hi<(ws.getD i default).n):nN ws i lo hi=(i,1,0):=by
  unfold nN hasB;rw [if_neg h,if_neg (by simp only [Bool.or_eq_true,decide_eq_true_eq,not_or];exact⟨by omega,fun q=>q h3⟩),if_neg h,if_neg (by simp only [Bool.and_eq_true,decide_eq_true_eq];omega)]
theorem nR4 {ws:List bA} (h:¬lo= -1) (h2:i<ws.length) (h3:(ws.getD i default).k=2) (h4:lo<=(ws.getD i default).n/\(ws.getD i default).n<=hi):nN ws i lo hi=(i+1,0,(ws.getD i default).n):=by
  unfold nN hasB;rw [if_neg h,if_neg (by simp only [Bool.or_eq_true,decide_eq_true_eq,not_or];exact⟨by omega,fun q=>q h3⟩),if_neg h,if_pos (by simp only [Bool.and_eq_true,decide_eq_true_eq];exact h4)]
theorem G7 {ws:List bA} (h:Jf ws i=(j,0,a)):vd ws i=nN ws j (yB (cb ws i)) (yP (cb ws i)):=by unfold vd S4;rw [h,if_neg (by simp)]
theorem LY {ws:List bA} (h1:cb ws i≠0) (h2:ah<12) (h:Jf ws i=(j,e,a)) (he:e≠0):(mU ws i ah).1=j/\(mU ws i ah).2.1=e:=by
  have hB:vd ws i=(j,e,0):=by unfold vd S4;rw [h,if_pos he]
  unfold mU;rw [if_neg h1,if_neg om,hB,if_pos he];exact⟨rfl,rfl⟩
theorem OD {ws:List bA} (h1:cb ws i≠0) (h2:ah<12) (h:vd ws i=(j,e,b)) (he:e≠0):(mU ws i ah).1=j/\(mU ws i ah).2.1=e:=by
  unfold mU;rw [if_neg h1,if_neg om,h,if_pos he];exact⟨rfl,rfl⟩
theorem XG {ws:List bA} (h1:cb ws i≠0) (h2:ah<12) (h:vd ws i=(j,0,b)) (he:jd ws j 3 [59] =false):(mU ws i ah).1=j/\(mU ws i ah).2.1=5:=by
  unfold mU;rw [if_neg h1,if_neg om,h,if_neg (by simp),if_neg (by rw [he];simp)];exact⟨rfl,rfl⟩
theorem Ye {ws:List bA} (h1:cb ws i≠0) (h2:ah<12) (hA:(Jf ws i).2.2=a) (h:vd ws i=(j,0,b)) (he:jd ws j 3 [59] =true):mU ws i ah=(j+1,0,⟨cb ws i,a,b⟩):=by
  unfold mU;rw [if_neg h1,if_neg om,h,if_neg (by simp),if_pos he,hA]
theorem nr {ws:List bA} {R:List bO×Int×Int} (h:pz ws i ops=R) (hn:jd ws i 3 [125] =false) (h1:(mU ws i ops.length).1=j/\(mU ws i ops.length).2.1=e) (he:e≠0):R=([],(j:Int),e):=by
  rw [<-h,KX hn (by rw [h1.2];exact he),h1.1,h1.2]
theorem RI {ws:List bA} {i0:Nat} {i:Int} {m:ab} (hi:i0<=ws.length) (h:kN ws i0=(ops,i,0)) (hn:n=ops.length) (hs:Sl fO 103 3 n0 ops (.slice ad n cap) m):Gv (dY ws (i0:Int)) n0 (.tuple #[.agg #[.bool (dR ws i0).1,.slice ad n cap],.int .i64 i,.int .i64 0]) m:=by
  rw [uu hi,h];exact⟨ad,n,cap,rfl,hn,hs⟩
def vj (ws:List bA) (i k j:Nat) (lo hi a b:Int):Prop:=
  k<=2/\j<=ws.length/\(k=0->j=i+1/\lo=n3 (cb ws i)/\hi=qM (cb ws i)/\a=0/\b=0)/\(k=1->Jf ws i=(j,0,a)/\b=0)/\(k=2->(Jf ws i).2.2=a/\vd ws i=(j,0,b))
theorem vj.skip {ws:List bA} (h:vj ws i k j lo hi a b) (hq:(k=0/\lo<0)\/(k=1/\cb ws i≠5)):vj ws i (k+1) j lo hi a b:=by
  obtain ⟨h1,h2,h3,h4,h5⟩:=h;rcases hq with ⟨rfl,hq⟩|⟨rfl,hq⟩
  · obtain ⟨e1,e2,e3,e4,e5⟩:=h3 rfl
    subst e1;subst e4;subst e5;subst e2;subst e3;have:=pR (cb ws i);exact⟨by omega,h2,fun q=>by omega,fun _=>⟨nR1 om,rfl⟩,fun q=>by omega⟩
  · obtain ⟨e1,e2⟩:=h4 rfl
    subst e2;exact⟨by omega,h2,fun q=>by omega,fun q=>by omega,fun _=>⟨by rw [e1],by rw [G7 e1,nR1 (by unfold yB;rw [if_neg hq])]⟩⟩
theorem vj.aca {ws:List bA} (h:vj ws i 0 j lo hi a b) (hq:¬lo<0) (h2:j<ws.length) (h3:(ws.getD j default).k=2) (h4:lo<=(ws.getD j default).n/\(ws.getD j default).n<=hi):vj ws i 1 (j+1) lo hi (ws.getD j default).n b:=by
  obtain ⟨h1,_,h5,_,_⟩:=h;obtain ⟨e1,e2,e3,e4,e5⟩:=h5 rfl;subst e1;subst e2;subst e3;subst e5;exact⟨by omega,h2,fun q=>by omega,fun _=>⟨nR4 om h2 h3 h4,rfl⟩,fun q=>by omega⟩
theorem vj.aaf {ws:List bA} {lo' Y3:Int} (h:vj ws i 1 j lo hi a b) (hq:cb ws i=5) (h2:j<ws.length) (h3:(ws.getD j default).k=2) (h4:1<=(ws.getD j default).n/\(ws.getD j default).n<=64):vj ws i 2 (j+1) lo' Y3 a (ws.getD j default).n:=by
  obtain ⟨h1,_,_,h5,_⟩:=h;obtain ⟨e1,e2⟩:=h5 rfl;exact⟨by omega,h2,fun q=>by omega,fun q=>by omega,fun _=>⟨by rw [e1],by rw [G7 e1];unfold yB yP;rw [if_pos hq,if_pos hq];exact nR4 (by decide) h2 h3 h4⟩⟩
theorem vj.bad {ws:List bA} (h:vj ws i k j lo hi a b) (hk:k<2) (h1:cb ws i≠0) (h2:ah<12) (hq:¬((k=0/\lo<0)\/(k=1/\cb ws i≠5))) (he:e≠0)
    (h3:(e=5/\(ws.length<=j\/(ws.getD j default).k≠2))\/(e=1/\j<ws.length/\(ws.getD j default).k=2/\((k=0/\((ws.getD j default).n<lo\/hi<(ws.getD j default).n))\/(k=1/\((ws.getD j default).n<1\/64<(ws.getD j default).n))))):(mU ws i ah).1=j/\(mU ws i ah).2.1=e:=by
  obtain ⟨_,_,h5,h6,_⟩:=h;have:k=0\/k=1:=by omega
  rcases this with rfl|rfl
  · obtain ⟨e1,e2,e3,e4,e5⟩:=h5 rfl
    subst e1;subst e2;subst e3;have vf:¬n3 (cb ws i)= -1:=by omega
    rcases h3 with ⟨rfl,h3⟩|⟨rfl,a1,a2,a3⟩
    ·exact LY h1 h2 (nR2 vf h3) he
    · rcases a3 with ⟨_,a3⟩|⟨a3,_⟩
      ·exact LY h1 h2 (nR3 vf a1 a2 a3) he
      ·cases a3
  · obtain ⟨e1,e2⟩:=h6 rfl
    have h5':cb ws i=5:=by omega
    have e3:=G7 e1
    unfold yB yP at e3;rw [if_pos h5',if_pos h5'] at e3
    rcases h3 with ⟨rfl,h3⟩|⟨rfl,a1,a2,a3⟩
    ·exact OD h1 h2 (e3.trans (nR2 (by decide) h3)) he
    · rcases a3 with ⟨a3,_⟩|⟨_,a3⟩
      ·cases a3
      ·exact OD h1 h2 (e3.trans (nR3 (by decide) a1 a2 a3)) he
theorem lB {ws:List bA} (i:Nat) (k:Int) (t:List UInt8) (w:World) (hn:n=ws.length) (hl:Sr fW 4 ws (.slice ad n cap) w):aD Tryz.prog 130 #[.slice ad n cap,.int .i64 (i:Nat),.int .i64 k,vS t] w (fun v w'=>v= .bool (jd ws i k t)/\Ext w w'):=by
 refine aD.ak Tryz.func130 rfl Tryz.ntmps130 rfl ([]) (no) (Mem.nil w) ?_;refine cM ?_;refine LM.aw (t:=13) rfl (fun h1=>?_) (fun h1=>?_)
 ·refine J2 ?_;refine LM.sp 13 rfl rfl rfl ?_;refine J3 ?_;refine LM.dV (db (j:=0) aC Tryz.isAgg3 rfl rfl c7 (by rfl) (by rfl) id) ?_;refine J4 ?_;refine LM.aw (t:=22) rfl (fun h2=>?_) (fun h2=>?_)
  ·refine J2 ?_;refine LM.sp 22 rfl rfl rfl ?_;refine J3 ?_;refine LM.dV (db (j:=1) aC Tryz.isAgg9 rfl rfl c7 (by rfl) (by rfl) id) ?_;refine J1 ?_;refine LM.sp 22 rfl rfl rfl ?_;refine LM.val (sj rfl rfl) ?_;refine J5 ?_;refine qL Tryz.results130 rfl fun w' ao aa aA=>?_;refine ⟨?_,aa⟩;simp only [bd,jd];rw [decide_eq_true (show i<ws.length by omega),decide_eq_true h2];simp only [Bool.true_and]
  refine cM ?_;refine qL Tryz.results130 rfl fun w' ao aa aA=>?_;refine ⟨?_,aa⟩;simp only [bd,jd];rw [decide_eq_false h2];simp only [Bool.and_false,Bool.false_and]
 refine J21 ?_;refine qL Tryz.results130 rfl fun w' ao aa aA=>?_;refine ⟨?_,aa⟩;simp only [bd,jd];rw [decide_eq_false (show¬i<ws.length by omega)];simp only [Bool.and_false,Bool.false_and]
set_option maxHeartbeats 1000000 in
theorem Cf {ws:List bA} (p:Int) (w:World) (hn:n=ws.length) (hx:ws.length<=1000000000) (hl:Sr fW 4 ws (.slice ad n cap) w):aD Tryz.prog 82 #[.slice ad n cap,.int .i64 p] w (fun v w'=>Ext w w'/\∃m,Gv (dY ws p) w.heap.size v m/\Mem w' m/\∀p∈m,w.heap.size<=p.1):=by
 refine aD.ak Tryz.func82 rfl Tryz.ntmps82 rfl ([]) (no) (Mem.nil w) ?_;refine J2 ?_;refine LM.alloc Tryz.zeroValue62 rfl (fun b4 wG=>?_);refine J6 ?_;refine LM.val (aE (cs:=#[_,_]) rfl (by first|rfl|kernel_rfl)) ?_;refine LM.alloc Tryz.zeroValue62 rfl (fun b7 K9=>?_);refine LM.c6 Tryz.sizeOf62 rfl rfl rfl rfl cZ bF ?_;refine J8 ?_;refine LM.aw (t:=18) rfl (fun h1=>?_) (fun h1=>?_)
 ·refine cF ?_;refine LM.rd (aR Tryz.isAgg62 Tryz.sizeOf62 rfl rfl) ?_;refine LM.c6 Tryz.sizeOf62 rfl rfl rfl rfl cZ bF ?_;refine J6 ?_;refine QM.aG (ds:=([])) (.inl rfl) [.cell 4 62,.tmp 5,.tmp 6] Tryz.results82 aV (bU rfl Tryz.isAgg62 Tryz.sizeOf62 rfl (aZ rfl (aZ rfl aU))) ?_;intro w' ao aa;have r5:dY ws p=(false,[],0,5):=(by unfold dY;rw [if_pos om]);rw [r5];exact⟨aa,[],⟨none,0,0,rfl,rfl,.nil _ _ _ _⟩,Mem.nil _,fun p hp=>by cases hp⟩
 refine J7 ?_;refine af.aj rfl (fun h2=>?_) (fun h2=>?_)
 ·refine J2 ?_;refine LM.rd (aR Tryz.isAgg62 Tryz.sizeOf62 rfl rfl) ?_;refine LM.c6 Tryz.sizeOf62 rfl rfl rfl rfl cZ bF ?_;refine J6 ?_;refine QM.aG (ds:=([])) (.inl rfl) [.cell 4 62,.tmp 5,.tmp 6] Tryz.results82 aV (bU rfl Tryz.isAgg62 Tryz.sizeOf62 rfl (aZ rfl (aZ rfl aU))) ?_;intro w' ao aa;have r5:dY ws p=(false,[],0,5):=(by unfold dY;rw [if_pos om]);rw [r5];exact⟨aa,[],⟨none,0,0,rfl,rfl,.nil _ _ _ _⟩,Mem.nil _,fun p hp=>by cases hp⟩
 obtain ⟨i0,rfl⟩:∃i0:Nat,p=(i0:Nat):=⟨p.toNat,by omega⟩;have tY:i0<=ws.length:=om;refine J7 ?_;refine cE Tryz.func130 rfl (fun w hm hc hg=>lB i0 1 qI w hn (hl.ext hc)) ?_;refine J3 ?_;refine af.aN rfl (fun h3=>?_) (fun h3=>?_)
 ·refine J2 ?_;refine LM.rd (aR Tryz.isAgg62 Tryz.sizeOf62 rfl rfl) ?_;refine J1 ?_;refine LM.c6 Tryz.sizeOf62 rfl rfl rfl rfl cZ bF ?_;refine J6 ?_;refine QM.aG (ds:=([])) (.inl rfl) [.cell 4 62,.tmp 5,.tmp 6] Tryz.results82 aV (bU rfl Tryz.isAgg62 Tryz.sizeOf62 rfl (aZ rfl (aZ rfl aU))) ?_;intro w' ao aa;exact⟨aa,[],gy tY (Vv (by simpa using h3)) (by decide),Mem.nil _,fun p hp=>by cases hp⟩
 have hp:jd ws i0 1 qI=true:=(by simpa using h3)
 refine kR ?_;rw [show ((i0:Int)+1)=((i0+1:Nat):Int) from rfl];refine cE Tryz.func130 rfl (fun w hm hc hg=>lB (i0+1) 1 oP w hn (hl.ext hc)) ?_;refine J2 ?_;refine af.bB (α:=Nat) (fun jj=>[(1,.int .i64 (jj:Nat))]) [(0,_),(4,_),(7,_)] (fun jj=>(b7,.cells #[.bool (dR ws i0).1,.slice none 0 0] 62 (0,0))::(b4,.cells #[.bool false,.slice none 0 0] 62 (0,0)):: []) (fun jj=>jj=(dR ws i0).2) cA ?_ ?_
 ·refine af.aN rfl (fun h4=>?_) (fun h4=>?_)
  ·refine J3 ?_;refine LM.st Tryz.sizeOf4 rfl rfl rfl dx rfl bF ?_;refine J7 ?_;rw [show (dR ws i0).1=true from h4];refine mK (i0+1+1) ?_
   ·show i0+1+1=(if jd ws (i0+1) 1 oP then i0+2 else i0+1);rw [if_pos h4]
  refine J1 ?_;rw [show (dR ws i0).1=false from h4];refine mK (i0+1) ?_
  ·show i0+1=(if jd ws (i0+1) 1 oP then i0+2 else i0+1);rw [if_neg (by rw [h4];simp)]
 rintro jj rfl;change QM _ _ _ _ _ ((b7,.cells #[.bool (dR ws i0).1,.slice none 0 0] 62 (0,0))::(b4,.cells #[.bool false,.slice none 0 0] 62 (0,0)):: []) _ _ _;refine J6 ?_;refine cE Tryz.func130 rfl (fun w hm hc hg=>lB (dR ws i0).2 3 [123] w hn (hl.ext hc)) ?_;refine J3 ?_;refine af.aN rfl (fun h5=>?_) (fun h5=>?_)
 ·refine J2 ?_;refine LM.val (aE (cs:=#[_,_]) rfl (by first|rfl|kernel_rfl)) ?_;refine J1 ?_;refine LM.c6 Tryz.sizeOf62 rfl rfl rfl rfl cZ bF ?_;refine J6 ?_;refine QM.aG (ds:=([])) (.inl rfl) [.cell 4 62,.tmp 5,.tmp 6] Tryz.results82 aV (bU rfl Tryz.isAgg62 Tryz.sizeOf62 rfl (aZ rfl (aZ rfl aU))) ?_;intro w' ao aa;exact⟨aa,[],gy tY (Vh hp (by simpa using h5)) (by decide),Mem.nil _,fun p hp=>by cases hp⟩
 have hbr:jd ws (dR ws i0).2 3 [123] =true:=(by simpa using h5);have apK:=pE hbr;refine dc ?_;refine af.aO (α:=Nat×List bO×Option Addr×Nat×Nat×ab) (fun ⟨i,ops,eu,no,bP,mo⟩=>[(1,.int .i64 (i:Nat))]) [(0,_),(4,_),(7,_)] (fun ⟨i,ops,eu,no,bP,mo⟩=>mo++((b7,.cells #[.bool (dR ws i0).1,.slice eu no bP] 62 (0,0))::(b4,.cells #[.bool false,.slice none 0 0] 62 (0,0)):: [])) (fun ⟨i,ops,eu,no,bP,mo⟩=>pz ws i ops=kN ws i0/\i<=ws.length/\no=ops.length/\Sl fO 103 3 w.heap.size ops (.slice eu no bP) mo/\ops.length<=12) (fun ⟨i,ops,eu,no,bP,mo⟩=>ws.length-i) (((dR ws i0).2+1,[],none,0,0,[])) cA aX ⟨Yv hp hbr,pE hbr,rfl,.nil _ _ _ _,by decide⟩ ?_;rintro ⟨i,ops,eu,no,bP,mo⟩ ⟨hL,ami,gK,kH,Lj⟩;change af _ _ _ _ _ _ _ (mo++((b7,.cells #[.bool (dR ws i0).1,.slice eu no bP] 62 (0,0))::(b4,.cells #[.bool false,.slice none 0 0] 62 (0,0)):: [])) _ _ _;refine J5 ?_;refine cE Tryz.func130 rfl (fun w hm hc hg=>lB i 3 [125] w hn (hl.ext hc)) ?_;refine J3 ?_;refine af.aN rfl (fun h6=>?_) (fun h6=>?_)
 ·have cm:jd ws i 3 [125] =false:=(by simpa using h6)
  refine rA ?_;refine af.aO (α:=Nat×Int) (fun ⟨k,kd⟩=>[(8,.int .i64 kd),(9,.int .i64 (k:Nat))]) [(0,_),(1,_),(4,_),(7,_)] (fun ⟨k,kd⟩=>mo++((b7,.cells #[.bool (dR ws i0).1,.slice eu no bP] 62 (0,0))::(b4,.cells #[.bool false,.slice none 0 0] 62 (0,0)):: [])) (fun ⟨k,kd⟩=>1<=k/\k<=12/\kd=vt ws i (k-1)) (fun ⟨k,kd⟩=>12-k) ((1,0)) cA aX ⟨by omega,by omega,rfl⟩ ?_;rintro ⟨k,kd⟩ ⟨y6,Vs,Sn⟩;change af _ _ _ _ _ _ _ (mo++((b7,.cells #[.bool (dR ws i0).1,.slice eu no bP] 62 (0,0))::(b4,.cells #[.bool false,.slice none 0 0] 62 (0,0)):: [])) _ _ _;refine J7 ?_;refine af.aj rfl (fun h7=>?_) (fun h7=>?_)
  ·refine J9 ?_;refine cE Tryz.func131 rfl (fun w hm hc hg=>yn _ w) ?_;refine cE Tryz.func130 rfl (fun w hm hc hg=>lB i 1 _ w hn (hl.ext hc)) ?_;refine J2 ?_;refine af.aN rfl (fun h8=>?_) (fun h8=>?_)
   ·refine dc ?_;refine aK ((k+1,(k:Int))) ?_ ?_
    ·exact⟨by omega,by omega,(WN y6 h8).symm⟩
    ·(dsimp only;omega)
   refine J8 ?_;refine aK ((k+1,kd)) ?_ ?_
   ·exact⟨by omega,by omega,by rw [Sn];exact(Yy y6 h8).symm⟩
   ·(dsimp only;omega)
  obtain rfl:kd=cb ws i:=(by rw [Sn,show k-1=11 by omega,Sp])
  refine cM ?_;refine af.aj rfl (fun h9=>?_) (fun h9=>?_)
  ·refine J2 ?_;refine LM.val (aE (cs:=#[_,_]) rfl (by first|rfl|kernel_rfl)) ?_;refine J1 ?_;refine LM.c6 Tryz.sizeOf62 rfl rfl rfl rfl cZ bF ?_;refine cF ?_;refine QM.aG (ds:=([])) (.inl rfl) [.cell 4 62,.tmp 5,.tmp 6] Tryz.results82 aV (bU rfl Tryz.isAgg62 Tryz.sizeOf62 rfl (aZ rfl (aZ rfl aU))) ?_;intro w' ao aa;exact⟨aa,[],gy tY (nr hL cm (by rw [acM h9];exact⟨rfl,rfl⟩) (by decide)) (by decide),Mem.nil _,fun p hp=>by cases hp⟩
  have JW:cb ws i≠0:=h9;have an1:=xT JW;refine dc ?_;refine af.aj rfl (fun je=>?_) (fun je=>?_)
  ·refine J2 ?_;refine LM.val (aE (cs:=#[_,_]) rfl (by first|rfl|kernel_rfl)) ?_;refine J1 ?_;refine LM.c6 Tryz.sizeOf62 rfl rfl rfl rfl cZ bF ?_;refine cF ?_;refine QM.aG (ds:=([])) (.inl rfl) [.cell 4 62,.tmp 5,.tmp 6] Tryz.results82 aV (bU rfl Tryz.isAgg62 Tryz.sizeOf62 rfl (aZ rfl (aZ rfl aU))) ?_;intro w' ao aa;exact⟨aa,[],gy tY (nr hL cm (by rw [aaa JW om];exact⟨rfl,rfl⟩) (by decide)) (by decide),Mem.nil _,fun p hp=>by cases hp⟩
  have TJ:ops.length<12:=om;refine cM ?_;refine LM.val (aE (cs:=#[_,_,_]) rfl (by first|rfl|kernel_rfl)) ?_;refine LM.alloc Tryz.zeroValue103 rfl (fun vp Md=>?_);refine LM.c6 Tryz.sizeOf103 rfl rfl rfl rfl cZ bF ?_;refine J5 ?_;refine cE Tryz.func132 rfl (fun w hm hc hg=>uU _ w) ?_;refine kR ?_;refine af.aO (α:=Nat×Nat×Int×Int×Int×Int) (fun ⟨k,j,lo,hi,a,b⟩=>[(1,.int .i64 (j:Nat)),(11,.int .i64 lo),(12,.int .i64 hi),(13,.int .i64 (k:Nat))]) [(0,_),(4,_),(7,_),(8,_),(10,_)] (fun ⟨k,j,lo,hi,a,b⟩=>mo++((vp,.cells #[.int .i64 (cb ws i),.int .i64 a,.int .i64 b] 103 (0,0))::(b7,.cells #[.bool (dR ws i0).1,.slice eu no bP] 62 (0,0))::(b4,.cells #[.bool false,.slice none 0 0] 62 (0,0)):: [])) (fun ⟨k,j,lo,hi,a,b⟩=>vj ws i k j lo hi a b) (fun ⟨k,j,lo,hi,a,b⟩=>2-k) ((0,i+1,n3 (cb ws i),qM (cb ws i),0,0)) cA aX ⟨by omega,xT JW,fun _=>⟨rfl,rfl,rfl,rfl,rfl⟩,fun q=>by omega,fun q=>by omega⟩ ?_;rintro ⟨k,j,lo,hi,a,b⟩ hN;change af _ _ _ _ _ _ _ (mo++((vp,.cells #[.int .i64 (cb ws i),.int .i64 a,.int .i64 b] 103 (0,0))::(b7,.cells #[.bool (dR ws i0).1,.slice eu no bP] 62 (0,0))::(b4,.cells #[.bool false,.slice none 0 0] 62 (0,0)):: [])) _ _ _;have Qq:=hN.2.1;have Vs:=hN.1;refine J7 ?_;refine af.aj rfl (fun lK=>?_) (fun lK=>?_)
  ·refine J6 ?_;refine af.bB (α:=Bool) (fun q=>[(97,.bool q)]) [(0,_),(1,_),(4,_),(7,_),(8,_),(10,_),(11,_),(12,_),(13,_)] (fun q=>mo++((vp,.cells #[.int .i64 (cb ws i),.int .i64 a,.int .i64 b] 103 (0,0))::(b7,.cells #[.bool (dR ws i0).1,.slice eu no bP] 62 (0,0))::(b4,.cells #[.bool false,.slice none 0 0] 62 (0,0)):: [])) (fun q=>q=decide ((k=0/\lo<0)\/(k=1/\cb ws i≠5))) cA ?_ ?_
   ·refine J4 ?_;refine LM.aw (t:=86) rfl (fun rz=>?_) (fun rz=>?_)
    ·refine J4 ?_;refine LM.aw (t:=90) rfl (fun tz=>?_) (fun tz=>?_)
     ·refine J2 ?_;refine LM.dL (t:=90) rfl rfl rfl ?_;refine J5 ?_;refine mK (_) ?_
      ·exact(decide_eq_true (.inl ⟨by omega,tz⟩)).symm
     refine J3 ?_;refine LM.aw (t:=93) rfl (fun nW=>?_) (fun nW=>?_)
     ·refine J5 ?_;refine mK (_) ?_
      ·exfalso;omega
     refine J5 ?_;refine mK (_) ?_
     ·exact(decide_eq_false (fun q=>by rcases q with ⟨_,q⟩|⟨q,_⟩;exact tz q;omega)).symm
    refine J7 ?_;refine LM.aw (t:=93) rfl (fun C2=>?_) (fun C2=>?_)
    ·refine J5 ?_;refine mK (_) ?_
     ·exact decide_eq_decide.2 ⟨fun q=> .inr ⟨by omega,q⟩,fun q=>by rcases q with ⟨q,_⟩|⟨_,q⟩;(exfalso;omega);exact q⟩
    refine J5 ?_;refine mK (_) ?_
    ·exact(decide_eq_false (fun q=>by rcases q with ⟨q,_⟩|⟨q,_⟩<;>omega)).symm
   rintro q hq;change QM _ _ _ _ _ (mo++((vp,.cells #[.int .i64 (cb ws i),.int .i64 a,.int .i64 b] 103 (0,0))::(b7,.cells #[.bool (dR ws i0).1,.slice eu no bP] 62 (0,0))::(b4,.cells #[.bool false,.slice none 0 0] 62 (0,0)):: [])) _ _ _;refine J1 ?_;refine af.aN rfl (fun xe=>?_) (fun xe=>?_)
   ·refine J9 ?_;refine aK ((k+1,j,lo,hi,a,b)) ?_ ?_
    ·exact hN.skip (of_decide_eq_true (hq▸xe))
    ·(dsimp only;omega)
   have DP:¬((k=0/\lo<0)\/(k=1/\cb ws i≠5)):=of_decide_eq_false (hq▸xe);refine cF ?_;refine LM.aw (t:=102) rfl (fun r9=>?_) (fun r9=>?_)
   ·refine cM ?_;refine LM.val (aE (cs:=#[_,_]) rfl (by first|rfl|kernel_rfl)) ?_;refine J1 ?_;refine LM.c6 Tryz.sizeOf62 rfl rfl rfl rfl cZ bF ?_;refine rA ?_;refine QM.aG (ds:=([])) (.inl rfl) [.cell 4 62,.tmp 5,.tmp 6] Tryz.results82 aV (bU rfl Tryz.isAgg62 Tryz.sizeOf62 rfl (aZ rfl (aZ rfl aU))) ?_;intro w' ao aa;exact⟨aa,[],gy tY (nr hL cm (hN.bad (e:=5) om JW TJ DP (by decide) (.inl ⟨rfl,.inl om⟩)) (by decide)) (by decide),Mem.nil _,fun p hp=>by cases hp⟩
   refine J2 ?_;refine LM.sp 102 rfl rfl rfl ?_;refine J3 ?_;refine LM.dV (db (j:=0) aC Tryz.isAgg3 rfl rfl c7 (by rfl) (by rfl) id) ?_;refine J4 ?_;refine af.aj rfl (fun wJ=>?_) (fun wJ=>?_)
   ·refine J2 ?_;refine LM.val (aE (cs:=#[_,_]) rfl (by first|rfl|kernel_rfl)) ?_;refine J1 ?_;refine LM.c6 Tryz.sizeOf62 rfl rfl rfl rfl cZ bF ?_;refine rA ?_;refine QM.aG (ds:=([])) (.inl rfl) [.cell 4 62,.tmp 5,.tmp 6] Tryz.results82 aV (bU rfl Tryz.isAgg62 Tryz.sizeOf62 rfl (aZ rfl (aZ rfl aU))) ?_;intro w' ao aa;exact⟨aa,[],gy tY (nr hL cm (hN.bad (e:=5) om JW TJ DP (by decide) (.inl ⟨rfl,.inr wJ⟩)) (by decide)) (by decide),Mem.nil _,fun p hp=>by cases hp⟩
   refine J8 ?_;refine LM.dV (db (j:=2) aC Tryz.isAgg3 rfl rfl c7 (by rfl) (by rfl) id) ?_;refine cF ?_;refine af.aj rfl (fun EK=>?_) (fun EK=>?_)
   ·refine gz ?_;refine LM.st Tryz.sizeOf3 rfl rfl rfl dx rfl bF ?_;refine J9 ?_;refine LM.aw (t:=126) rfl (fun yy=>?_) (fun yy=>?_)
    ·refine J9 ?_;refine LM.val (aE (cs:=#[_,_]) rfl (by first|rfl|kernel_rfl)) ?_;refine J1 ?_;refine LM.c6 Tryz.sizeOf62 rfl rfl rfl rfl cZ bF ?_;refine rA ?_;refine QM.aG (ds:=([])) (.inl rfl) [.cell 4 62,.tmp 5,.tmp 6] Tryz.results82 aV (bU rfl Tryz.isAgg62 Tryz.sizeOf62 rfl (aZ rfl (aZ rfl aU))) ?_;intro w' ao aa;exact⟨aa,[],gy tY (nr hL cm (hN.bad (e:=1) om JW TJ DP (by decide) (.inr ⟨rfl,by omega,Classical.not_not.1 wJ,.inr ⟨by omega,.inl yy⟩⟩)) (by decide)) (by decide),Mem.nil _,fun p hp=>by cases hp⟩
    refine J6 ?_;refine af.aj rfl (fun Lh=>?_) (fun Lh=>?_)
    ·refine J2 ?_;refine LM.val (aE (cs:=#[_,_]) rfl (by first|rfl|kernel_rfl)) ?_;refine J1 ?_;refine LM.c6 Tryz.sizeOf62 rfl rfl rfl rfl cZ bF ?_;refine rA ?_;refine QM.aG (ds:=([])) (.inl rfl) [.cell 4 62,.tmp 5,.tmp 6] Tryz.results82 aV (bU rfl Tryz.isAgg62 Tryz.sizeOf62 rfl (aZ rfl (aZ rfl aU))) ?_;intro w' ao aa;exact⟨aa,[],gy tY (nr hL cm (hN.bad (e:=1) om JW TJ DP (by decide) (.inr ⟨rfl,by omega,Classical.not_not.1 wJ,.inr ⟨by omega,.inr om⟩⟩)) (by decide)) (by decide),Mem.nil _,fun p hp=>by cases hp⟩
    refine kR ?_;obtain rfl:k=1:=om;refine aK ((2,j+1,1,64,a,(ws.getD j default).n)) ?_ ?_
    ·exact hN.aaf (Classical.byContradiction fun q=>DP (.inr ⟨rfl,q⟩)) om (Classical.not_not.1 wJ) ⟨by omega,by omega⟩
    ·(dsimp only;omega)
   refine J3 ?_;refine LM.st Tryz.sizeOf3 rfl rfl rfl dx rfl bF ?_;refine J9 ?_;refine LM.aw (t:=126) rfl (fun LP=>?_) (fun LP=>?_)
   ·refine J9 ?_;refine LM.val (aE (cs:=#[_,_]) rfl (by first|rfl|kernel_rfl)) ?_;refine J1 ?_;refine LM.c6 Tryz.sizeOf62 rfl rfl rfl rfl cZ bF ?_;refine rA ?_;refine QM.aG (ds:=([])) (.inl rfl) [.cell 4 62,.tmp 5,.tmp 6] Tryz.results82 aV (bU rfl Tryz.isAgg62 Tryz.sizeOf62 rfl (aZ rfl (aZ rfl aU))) ?_;intro w' ao aa;exact⟨aa,[],gy tY (nr hL cm (hN.bad (e:=1) om JW TJ DP (by decide) (.inr ⟨rfl,by omega,Classical.not_not.1 wJ,.inl ⟨by omega,.inl LP⟩⟩)) (by decide)) (by decide),Mem.nil _,fun p hp=>by cases hp⟩
   refine J6 ?_;refine af.aj rfl (fun Lo=>?_) (fun Lo=>?_)
   ·refine J2 ?_;refine LM.val (aE (cs:=#[_,_]) rfl (by first|rfl|kernel_rfl)) ?_;refine J1 ?_;refine LM.c6 Tryz.sizeOf62 rfl rfl rfl rfl cZ bF ?_;refine rA ?_;refine QM.aG (ds:=([])) (.inl rfl) [.cell 4 62,.tmp 5,.tmp 6] Tryz.results82 aV (bU rfl Tryz.isAgg62 Tryz.sizeOf62 rfl (aZ rfl (aZ rfl aU))) ?_;intro w' ao aa;exact⟨aa,[],gy tY (nr hL cm (hN.bad (e:=1) om JW TJ DP (by decide) (.inr ⟨rfl,by omega,Classical.not_not.1 wJ,.inl ⟨by omega,.inr om⟩⟩)) (by decide)) (by decide),Mem.nil _,fun p hp=>by cases hp⟩
   refine kR ?_;obtain rfl:k=0:=om;refine aK ((1,j+1,lo,hi,(ws.getD j default).n,b)) ?_ ?_
   ·exact hN.aca (fun q=>DP (.inl ⟨rfl,q⟩)) om (Classical.not_not.1 wJ) ⟨by omega,by omega⟩
   ·(dsimp only;omega)
  refine cF ?_;refine cE Tryz.func130 rfl (fun w hm hc hg=>lB j 3 [59] w hn (hl.ext hc)) ?_;refine J3 ?_;refine af.aN rfl (fun h24=>?_) (fun h24=>?_)
  ·refine J2 ?_;refine LM.val (aE (cs:=#[_,_]) rfl (by first|rfl|kernel_rfl)) ?_;refine J1 ?_;refine LM.c6 Tryz.sizeOf62 rfl rfl rfl rfl cZ bF ?_;refine cF ?_;refine QM.aG (ds:=([])) (.inl rfl) [.cell 4 62,.tmp 5,.tmp 6] Tryz.results82 aV (bU rfl Tryz.isAgg62 Tryz.sizeOf62 rfl (aZ rfl (aZ rfl aU))) ?_;intro w' ao aa;have hA:=hN.2.2.2.2 om;exact⟨aa,[],gy tY (nr hL cm (XG JW TJ hA.2 (by simpa using h24)) (by decide)) (by decide),Mem.nil _,fun p hp=>by cases hp⟩
  refine cM ?_;refine LM.rd (aR Tryz.isAgg103 Tryz.sizeOf103 rfl rfl) ?_;refine LM.single Tryz.underlying60 Tryz.sizeOf103 Tryz.zeroValue103 rfl rfl rfl rfl rfl (fun aog ak0=>?_);refine LM.app (a:=bO.mk (cb ws i) a b) Tryz.underlying60 Tryz.typeInfo103 rfl rfl rfl rfl rfl rfl rfl aC (by rfl) ir (by intro _ u hu;simp [fO] at hu;(repeat (first|(rcases hu with rfl|hu)|subst hu|rfl))) (by first|exact Nat.le_refl _|omega) kU (by first|omega|(unfold maxLen;omega)) (by simp only [Tryz.t103];omega) (fun aaK aih V0 ahF aaY Z4 afq=>?_);refine J1 ?_;refine LM.st Tryz.sizeOf60 rfl rfl rfl dx rfl bF ?_;refine J2 ?_;have hA:=hN.2.2.2.2 om;have GB:=Ye JW TJ hA.1 hA.2 (show jd ws j 3 [59] =true by simpa using h24);have bo:=FX (ws:=ws) (i:=i) (ahead:=ops.length) (by rw [GB]);rw [GB] at bo;have bo:i<j+1/\j+1<=ws.length:=bo;refine aK ((j+1,ops++ [⟨cb ws i,a,b⟩],aaK,aih,V0,ahF)) ?_ ?_
  ·exact⟨by rw [<-hL,F1 cm (by rw [GB]),GB],bo.2,by rw [aaY];simp,Z4,by simp;omega⟩
  ·(dsimp only;omega)
 refine kR ?_;refine af.aj rfl (fun uB=>?_) (fun uB=>?_)
 ·refine J2 ?_;refine LM.val (aE (cs:=#[_,_]) rfl (by first|rfl|kernel_rfl)) ?_;refine J1 ?_;refine LM.c6 Tryz.sizeOf62 rfl rfl rfl rfl cZ bF ?_;refine J6 ?_;refine QM.aG (ds:=([])) (.inl rfl) [.cell 4 62,.tmp 5,.tmp 6] Tryz.results82 aV (bU rfl Tryz.isAgg62 Tryz.sizeOf62 rfl (aZ rfl (aZ rfl aU))) ?_;intro w' ao aa;have RL:jd ws i 3 [125] =true:=(by simpa using h6);have hb:=hL;rw [xi RL,if_pos om] at hb;exact⟨aa,[],gy tY hb.symm (by decide),Mem.nil _,fun p hp=>by cases hp⟩
 refine J4 ?_;refine LM.rd (aR Tryz.isAgg62 Tryz.sizeOf62 rfl rfl) ?_;refine J2 ?_;refine LM.c6 Tryz.sizeOf62 rfl rfl rfl rfl cZ bF ?_;refine J5 ?_;refine QM.aG (ds:=([])) (.inl rfl) [.cell 4 62,.tmp 5,.tmp 6] Tryz.results82 aV (bU rfl Tryz.isAgg62 Tryz.sizeOf62 rfl (aZ rfl (aZ rfl aU))) ?_;intro w' ao aa;have RL:jd ws i 3 [125] =true:=(by simpa using h6);have hb:=hL;rw [xi RL,if_neg om] at hb;exact⟨aa,mo,RI tY hb.symm gK kH,ao.pick mo,fun p hp=>Sl.ge kH p hp⟩
deriving instance DecidableEq for bO
/-! a program's text -/
end Go.Eng
namespace Go.Eng
open Go Go.RowKit
variable {a b e hi last lo:Int} {nm s t:List UInt8} {ops xs:List bO} {ah ahead cap i j k n n0 w:Nat} {ad:Option Addr} {x:Qm}
deriving instance DecidableEq for jD
structure mX where
  fv:Bool
  xs:List bO
deriving DecidableEq
instance:Inhabited mX:=⟨⟨false,[]⟩⟩
structure ee where
  cr:Int
  gr:Int
  gs:List Int
  ls:List jD
  ps:List mX
deriving DecidableEq
instance:Inhabited ee:=⟨⟨0,0,[],[],[]⟩⟩
abbrev Bt:List UInt8:=[99,111,114,101,115]
abbrev Aw:List UInt8:=[103,114,97,105,110]
abbrev bW:List UInt8:=[103,114,111,117,112]
abbrev UB:List UInt8:=[108,111,99,107]
abbrev fe:List UInt8:=[115,104,97,114,101,100]
abbrev rk:List UInt8:=[115,108,105,99,101]
abbrev yh:List UInt8:=[99,114,105,116]
abbrev HO:List UInt8:=[114,101,97,100]
abbrev AB:List UInt8:=[119,114,105,116,101]
def dQ (ws:List bA) (i:Nat) (e:Int) (nm:List UInt8) (gD:Int):Nat×Int×Int:=ub ws (fS ws i e 1 nm).1 (fS ws i e 1 nm).2 1 gD
def jn (ws:List bA) (i:Nat) (e:Int) (nm:List UInt8) (gD:Int):Nat×Int×Int:=((fS ws (dQ ws i e nm gD).1 (dQ ws i e nm gD).2.1 3 [59]).1,(fS ws (dQ ws i e nm gD).1 (dQ ws i e nm gD).2.1 3 [59]).2,(dQ ws i e nm gD).2.2)
def EH (ws:List bA) (i:Nat) (e:Int):Nat×Int×Int:=dQ ws i e rk 16
def K8 (ws:List bA) (i:Nat) (e:Int):Nat×Int×Int:=dQ ws (EH ws i e).1 (EH ws i e).2.1 yh 32
def I8 (ws:List bA) (sh:Bool) (i:Nat) (e:Int):Nat×Int×Int:=if sh then dQ ws (K8 ws i e).1 (K8 ws i e).2.1 HO 16 else ((K8 ws i e).1,(K8 ws i e).2.1,0)
def Lg (ws:List bA) (sh:Bool) (i:Nat) (e:Int):Nat×Int×Int:=if sh then dQ ws (I8 ws sh i e).1 (I8 ws sh i e).2.1 AB 16 else ((I8 ws sh i e).1,(I8 ws sh i e).2.1,0)
def ky (ws:List bA) (sh:Bool) (i:Nat) (e:Int):Nat×Int×jD:=
  ((fS ws (Lg ws sh i e).1 (Lg ws sh i e).2.1 3 [59]).1,(fS ws (Lg ws sh i e).1 (Lg ws sh i e).2.1 3 [59]).2,⟨sh,(EH ws i e).2.2,(K8 ws i e).2.2,(I8 ws sh i e).2.2,(Lg ws sh i e).2.2⟩)
def HC (ws:List bA):Nat->Nat->Int->List Int->List Int×Nat×Int
  |0,i,e,gs=>if oh ws i e 1 bW then (gs,i,6) else (gs,i,e)
  |f+1,i,e,gs=>if oh ws i e 1 bW then HC ws f (jn ws i e bW 16).1 (jn ws i e bW 16).2.1 (gs++ [(jn ws i e bW 16).2.2]) else (gs,i,e)
def QU (ws:List bA) (i:Nat) (e:Int) (gs:List Int):List Int×Nat×Int:=HC ws (4-gs.length) i e gs
def gpO (ws:List bA) (i:Nat) (e:Int):List Int×Nat×Int:=QU ws (jn ws i e bW 16).1 (jn ws i e bW 16).2.1 [(jn ws i e bW 16).2.2]
def Nc (ws:List bA) (i:Nat) (e:Int):Bool:=oh ws i e 1 UB||oh ws i e 1 fe
def Kf (ws:List bA):Nat->Nat->Int->List jD->List jD×Nat×Int
  |0,i,e,ls=>if Nc ws i e then (ls,i,6) else (ls,i,e)
  |f+1,i,e,ls=>if Nc ws i e then Kf ws f (ky ws (oh ws i e 1 fe) (i+1) e).1 (ky ws (oh ws i e 1 fe) (i+1) e).2.1 (ls++ [(ky ws (oh ws i e 1 fe) (i+1) e).2.2]) else (ls,i,e)
def JA (ws:List bA) (i:Nat) (e:Int) (ls:List jD):List jD×Nat×Int:=Kf ws (8-ls.length) i e ls
def Lc (ws:List bA) (i:Nat) (e:Int) (ps:List mX):Bool:=decide (e=0)&&(decide (ps.length=0)||oh ws i e 1 qI)
def prC (r:Bool×List bO×Int×Int):mX:=⟨r.1,r.2.1⟩
def EF (ws:List bA):Nat->Nat->Int->List mX->List Int->List mX×List Int×Nat×Int
  |0,i,e,ps,pl=>if Lc ws i e ps then (ps,pl,i,6) else (ps,pl,i,e)
  |f+1,i,e,ps,pl=>if Lc ws i e ps then EF ws f (dY ws (i:Int)).2.2.1.toNat (dY ws (i:Int)).2.2.2 (ps++ [prC (dY ws (i:Int))]) (pl++ [(i:Int)]) else (ps,pl,i,e)
def Ke (ws:List bA) (i:Nat) (e:Int) (ps:List mX) (pl:List Int):List mX×List Int×Nat×Int:=EF ws (8-ps.length) i e ps pl
def jW (ls:List jD) (n:Nat) (p:mX):Bool:=decide ((ES p.fv p.xs ls (n:Int)).2≠0)
def ql (ls:List jD) (ps:List mX):Int:=g9 (jW ls ps.length) ps
def Jv (ls:List jD) (ps:List mX) (j:Int):Int:=if j<0 then 0 else (ES (ps.getD j.toNat default).fv (ps.getD j.toNat default).xs ls (ps.length:Int)).2
def sA (ws:List bA) (i:Nat):Nat×Int×Int:=jn ws i 0 Bt 4
def pN (ws:List bA) (i:Nat):Nat×Int×Int:=jn ws (sA ws i).1 (sA ws i).2.1 Aw 8
def sG (ws:List bA) (i:Nat):List Int×Nat×Int:=gpO ws (pN ws i).1 (pN ws i).2.1
def sL (ws:List bA) (i:Nat):List jD×Nat×Int:=JA ws (sG ws i).2.1 (sG ws i).2.2 []
def sP (ws:List bA) (i:Nat):List mX×List Int×Nat×Int:=Ke ws (sL ws i).2.1 (sL ws i).2.2 [] []
def vq (ws:List bA) (i:Nat):ee×Int×Int:=
  if (sP ws i).2.2.2≠0 then (default,((sP ws i).2.2.1:Int),(sP ws i).2.2.2)
  else if 0<=ql (sL ws i).1 (sP ws i).1 then (default,(sP ws i).2.1.getD (ql (sL ws i).1 (sP ws i).1).toNat 0,Jv (sL ws i).1 (sP ws i).1 (ql (sL ws i).1 (sP ws i).1))
  else (⟨(sA ws i).2.2,(pN ws i).2.2,(sG ws i).1,(sL ws i).1,(sP ws i).1⟩,((sP ws i).2.2.1:Int),0)
def ly (ws:List bA) (p:Int):ee×Int×Int:=if p<0\/(ws.length:Int)<p then (default,0,5) else vq ws p.toNat
theorem A7 {ws:List bA} (h:i<=ws.length):ly ws (i:Int)=vq ws i:=by
  unfold ly;rw [if_neg om,Int.toNat_natCast]
/-! where they stand -/
theorem By {ws:List bA} {k:Int} (h:i<=ws.length):(fS ws i e k t).1<=ws.length:=by
  unfold fS;split
  ·rename_i q;exact(px q).1
  ·split<;>exact h
theorem wv {ws:List bA} {m:Int} (h:i<=ws.length):(dQ ws i e nm m).1<=ws.length:=by
  have h1:=By (ws:=ws) (i:=i) (e:=e) (k:=1) (t:=nm) h
  unfold dQ ub;split
  ·exact h1
  ·exact(BE h1).2
theorem Be {ws:List bA} {m:Int} (h:i<=ws.length):(jn ws i e nm m).1<=ws.length:=By (wv h)
theorem V7 {ws:List bA} (h:i<=ws.length):(EH ws i e).1<=ws.length:=wv h
theorem NZ {ws:List bA} (h:i<=ws.length):(K8 ws i e).1<=ws.length:=wv (V7 h)
theorem Mu {ws:List bA} {sh:Bool} (h:i<=ws.length):(I8 ws sh i e).1<=ws.length:=by
  unfold I8;split
  ·exact wv (NZ h)
  ·exact NZ h
theorem YQ {ws:List bA} {sh:Bool} (h:i<=ws.length):(Lg ws sh i e).1<=ws.length:=by
  unfold Lg;split
  ·exact wv (Mu h)
  ·exact Mu h
theorem VJ {ws:List bA} {sh:Bool} (h:i<=ws.length):(ky ws sh i e).1<=ws.length:=By (YQ h)
/-! a state with an error stays -/
theorem Cv {ws:List bA} {k:Int} (h:e≠0):fS ws i e k t=(i,e):=by
  unfold fS;rw [Bv h,if_neg (by simp),if_neg h]
theorem RY {ws:List bA} {m:Int} (h:e≠0):dQ ws i e nm m=(i,e,0):=by
  unfold dQ;rw [Cv h];exact UM h
theorem RF {ws:List bA} {m:Int} (h:e≠0):jn ws i e nm m=(i,e,0):=by
  unfold jn;rw [RY h,Cv h]
/-! steps of the loops -/
theorem B3 {ws:List bA} {gs:List Int} (h:oh ws i e 1 bW=false):QU ws i e gs=(gs,i,e):=by
  unfold QU;cases 4-gs.length<;>(unfold HC;rw [if_neg (by rw [h];simp)])
theorem LV {ws:List bA} {gs:List Int} (h:oh ws i e 1 bW=true) (hl:4<=gs.length):QU ws i e gs=(gs,i,6):=by
  unfold QU;rw [show 4-gs.length=0 by omega];unfold HC;rw [if_pos h]
theorem Oo {ws:List bA} {gs:List Int} (h:oh ws i e 1 bW=true) (hl:gs.length<4):QU ws i e gs=QU ws (jn ws i e bW 16).1 (jn ws i e bW 16).2.1 (gs++ [(jn ws i e bW 16).2.2]):=by
  unfold QU
  obtain ⟨f,hf⟩:∃f,4-gs.length=f+1:=⟨4-gs.length-1,by omega⟩
  rw [hf,HC,if_pos h,List.length_append,List.length_singleton,show 4-(gs.length+1)=f by omega]
theorem PS {ws:List bA} {ls:List jD} (h:Nc ws i e=false):JA ws i e ls=(ls,i,e):=by
  unfold JA;cases 8-ls.length<;>(unfold Kf;rw [if_neg (by rw [h];simp)])
theorem Qf {ws:List bA} {ls:List jD} (h:Nc ws i e=true) (hl:8<=ls.length):JA ws i e ls=(ls,i,6):=by
  unfold JA;rw [show 8-ls.length=0 by omega];unfold Kf;rw [if_pos h]
theorem L6 {ws:List bA} {ls:List jD} (h:Nc ws i e=true) (hl:ls.length<8):JA ws i e ls=JA ws (ky ws (oh ws i e 1 fe) (i+1) e).1 (ky ws (oh ws i e 1 fe) (i+1) e).2.1 (ls++ [(ky ws (oh ws i e 1 fe) (i+1) e).2.2]):=by
  unfold JA
  obtain ⟨f,hf⟩:∃f,8-ls.length=f+1:=⟨8-ls.length-1,by omega⟩
  rw [hf,Kf,if_pos h,List.length_append,List.length_singleton,show 8-(ls.length+1)=f by omega]
theorem Od {ws:List bA} {ps:List mX} {pl:List Int} (h:Lc ws i e ps=false):Ke ws i e ps pl=(ps,pl,i,e):=by
  unfold Ke;cases 8-ps.length<;>(unfold EF;rw [if_neg (by rw [h];simp)])
theorem MS {ws:List bA} {ps:List mX} {pl:List Int} (h:Lc ws i e ps=true) (hl:8<=ps.length):Ke ws i e ps pl=(ps,pl,i,6):=by
  unfold Ke;rw [show 8-ps.length=0 by omega];unfold EF;rw [if_pos h]
theorem LJ {ws:List bA} {ps:List mX} {pl:List Int} (h:Lc ws i e ps=true) (hl:ps.length<8):Ke ws i e ps pl=Ke ws (dY ws (i:Int)).2.2.1.toNat (dY ws (i:Int)).2.2.2 (ps++ [prC (dY ws (i:Int))]) (pl++ [(i:Int)]):=by
  unfold Ke
  obtain ⟨f,hf⟩:∃f,8-ps.length=f+1:=⟨8-ps.length-1,by omega⟩
  rw [hf,EF,if_pos h,List.length_append,List.length_singleton,show 8-(ps.length+1)=f by omega]
/-! which may be -/
def cz (n gD:Int):Bool:=decide (1<=n)&&decide (n<=gD)
def lI (x:jD):Bool:=(if x.sh then cz x.rd 16&&cz x.wr 16 else decide (x.rd=0)&&decide (x.wr=0))&&cz x.sl 16&&cz x.cr 32
def dt (s:ee):Bool:=cz s.cr 4&&cz s.gr 8&&(cz (s.gs.length:Int) 4&&s.gs.all (fun n=>cz n 16))&&(decide (s.ls.length<=8)&&s.ls.all lI)&&cz (s.ps.length:Int) 8&& !s.ps.any (jW s.ls s.ps.length)
/-! its words -/
structure kz where
  tm:BitVec 64
  k:Int
  t:Int
  l:Int
  n:Int
instance:Inhabited kz:=⟨⟨0#64,0,0,0,0⟩⟩
structure zm where
  core:Int
  how:Int
  lock:Int
deriving Inhabited
structure cR where
  now:BitVec 64
  ts:List zm
  rd:List (BitVec 64)
  wr:List (BitVec 64)
  sh:List Bool
  cores:Int
abbrev dN (w:cR) (i:Nat):zm:=w.ts.getD i default
abbrev xf (w:cR) (l:Nat):BitVec 64:=w.rd.getD l 0#64
abbrev xu (w:cR) (l:Nat):BitVec 64:=w.wr.getD l 0#64
def cR.put (w:cR) (i:Nat) (t:zm):cR:= {w with ts:=w.ts.set i t}
def vn (w:cR) (id:Int) (l:Nat):Bool:=aq (xf w l|||xu w l) id
def RU (w:cR) (id:Int) (l:Nat):cR:= {w with rd:=w.rd.set l (gb (xf w l) id),wr:=w.wr.set l (gb (xu w l) id)}
def WH (k:Int):Bool:=decide (k=4)||(decide (k=5)||(decide (k=6)||(decide (k=12)||decide (k=8))))
def XQ (k:Int):Bool:=decide (k=5)||(decide (k=6)||(decide (k=12)||decide (k=11)))
def vw (w:cR) (e:kz):Bool:=
  decide (w.now.toNat<=e.tm.toNat)&&(if WH e.k=true then (decide (0<=e.l)&&decide (e.l<w.sh.length))||(decide (e.l= -1)&&(decide (e.k=8)&&decide (e.n=3))) else decide (e.l= -1))&&(decide (e.n=0)|| !XQ e.k)
def Nr (w:cR) (core:Int):Bool:= !w.ts.any (fun t=>decide (t.how=2)&&decide (t.core=core))
def Px (w:cR) (e:kz):Bool:=decide (e.t=w.ts.length)&&(decide (e.t<64)&&(decide (0<=e.n)&&decide (e.n<w.cores)))
def abk (w:cR) (e:kz):cR:=if Px w e=true then {w with ts:=w.ts++ [⟨e.n,1,0⟩] } else w
def j1 (t:zm) (fr:Int) (may:Bool):Bool:=decide (t.how=fr)&&may
def qR (t:zm) (fr to:Int) (may:Bool):zm:=if j1 t fr may=true then {t with how:=to} else t
def LX (t:zm) (e:kz):Bool:=decide (t.how=4)&&decide (t.lock=e.l)
def Sk (w:cR) (t:zm) (e:kz):Bool:=
  (decide (t.how=2)||LX t e)&&(!vn w e.t e.l.toNat&&(decide (0<=e.n)&&(decide (e.n<=3)&&(decide (xu w e.l.toNat=0#64)&&(if 2<=e.n then w.sh.getD e.l.toNat false else decide (xf w e.l.toNat=0#64))))))
def Df (w:cR) (e:kz):cR:=if 2<=e.n then {w with rd:=w.rd.set e.l.toNat (bL (xf w e.l.toNat) e.t)} else {w with wr:=w.wr.set e.l.toNat (bL (xu w e.l.toNat) e.t)}
def F6 (w:cR) (i:Nat) (e:kz):cR:=
  if Sk w (dN w i) e=true then (if LX (dN w i) e=true then (Df w e).put i {dN w i with how:=6} else Df w e) else w
def Tz (w:cR) (id:Int):Bool:=(List.range w.sh.length).all (fun l=> !vn w id l)
def Gx (w:cR) (e:kz) (may:Bool):Bool:=may&&vn w e.t e.l.toNat
def Ew (w:cR) (e:kz) (may:Bool):cR:=if Gx w e may=true then RU w e.t e.l.toNat else w
def aas (w:cR) (e:kz):Bool:=decide (xf w e.l.toNat|||xu w e.l.toNat≠0#64)&& !aq (xf w e.l.toNat|||xu w e.l.toNat) e.t
def Tx (w:cR) (t:zm) (e:kz):Bool:=j1 t 2 (aas w e)
def L2 (w:cR) (i:Nat) (e:kz):cR:=if Tx w (dN w i) e=true then w.put i {dN w i with how:=4,lock:=e.l} else w
def DG (n:Int):Bool:=decide (n=3)||(decide (n=7)||(decide (n=8)||decide (n=9)))
def Qa (t:zm) (e:kz):Bool:=(decide (t.how=2)&&DG e.n)||j1 t 4 (decide (t.lock=e.l)&&decide (e.n=10))
def ND (t:zm) (e:kz):zm:=if decide (t.how=2)&&DG e.n then t else qR t 4 7 (decide (t.lock=e.l)&&decide (e.n=10))
def RC (t:zm) (may:Bool):Bool:=(decide (t.how=3)||(decide (t.how=6)||decide (t.how=7)))&&may
def W9 (t:zm) (may:Bool):zm:=if RC t may=true then {t with how:=1} else t
def La (w:cR) (i:Nat) (e:kz):Bool:=
  if e.k=2 then j1 (dN w i) 1 (decide (e.n=(dN w i).core)&&Nr w (dN w i).core)
  else if e.k=3\/e.k=10 then j1 (dN w i) 2 (decide (e.n=(dN w i).core))
  else if e.k=4 then Sk w (dN w i) e
  else if e.k=5 then Gx w e (decide ((dN w i).how=2))
  else if e.k=12 then Gx w e (decide ((dN w i).how≠5))
  else if e.k=6 then Tx w (dN w i) e
  else if e.k=7 then RC (dN w i) (decide (e.n=(dN w i).core))
  else if e.k=8 then Qa (dN w i) e
  else if e.k=9 then j1 (dN w i) 2 (decide (1<=e.n)&&decide (e.n<=64))
  else if e.k=14 then j1 (dN w i) 2 (decide (1<=e.n)&&decide (e.n<=16))
  else if e.k=11 then decide ((dN w i).how≠5)&&Tz w e.t
  else if e.k=13 then j1 (dN w i) 1 (decide (e.n≠(dN w i).core)&&(decide (0<=e.n)&&decide (e.n<w.cores)))
  else false
def ofM (w:cR) (i:Nat) (e:kz):cR:=
  if e.k=2 then w.put i (qR (dN w i) 1 2 (decide (e.n=(dN w i).core)&&Nr w (dN w i).core))
  else if e.k=3\/e.k=10 then w.put i (qR (dN w i) 2 1 (decide (e.n=(dN w i).core)))
  else if e.k=4 then F6 w i e
  else if e.k=5 then Ew w e (decide ((dN w i).how=2))
  else if e.k=12 then Ew w e (decide ((dN w i).how≠5))
  else if e.k=6 then L2 w i e
  else if e.k=7 then w.put i (W9 (dN w i) (decide (e.n=(dN w i).core)))
  else if e.k=8 then w.put i (ND (dN w i) e)
  else if e.k=9 then w.put i (qR (dN w i) 2 3 (decide (1<=e.n)&&decide (e.n<=64)))
  else if e.k=14 then w.put i (qR (dN w i) 2 2 (decide (1<=e.n)&&decide (e.n<=16)))
  else if e.k=11 then (if La w i e=true then w.put i {dN w i with how:=5} else w)
  else if e.k=13 then (if La w i e=true then w.put i {dN w i with core:=e.n} else w)
  else w
def SW (w:cR) (e:kz):Bool:=
  vw w e&&(if e.k=1 then Px w e else decide (0<=e.t)&&(decide (e.t<w.ts.length)&&La {w with now:=e.tm} e.t.toNat e))
def Kk (w:cR) (e:kz):cR:=
  if vw w e=false then w else if e.k=1 then abk {w with now:=e.tm} e else if e.t<0\/(w.ts.length:Int)<=e.t then w else ofM {w with now:=e.tm} e.t.toNat e
/-! event by event -/
structure Act where
  k:Int
  a:Int
  b:Int
  c:Int
  d:Int
deriving DecidableEq
instance:Inhabited Act:=⟨⟨0,0,0,0,0⟩⟩
def fA (o:Act):List Value:=[.int .i64 o.k,.int .i64 o.a,.int .i64 o.b,.int .i64 o.c,.int .i64 o.d]
def Hh:List (List UInt8):=[[],[116,105,99,107],[102,105,114,101],[98,97,108,97,110,99,101],[115,112,97,119,110],[107,105,108,108],[103,114,111,117,112],[109,111,118,101],[114,111,117,110,100]]
def I4 (k:Int):List UInt8:=if 0<=k/\k<9 then Hh.getD k.toNat [] else []
def lu (k:Int):Nat:=if k=1\/k=5\/k=8 then 1 else if k=6\/k=7 then 2 else if k=4 then 4 else 0
theorem Pk (k:Int):lu k<=4:=by unfold lu;(repeat' split)<;>omega
def zF:List Int:=[0,1,0,0,4,1,2,2,1]
theorem KS {k:Int} (h:0<=k/\k<9):zF.getD k.toNat 0=(lu k:Int):=by
  have:k=0\/k=1\/k=2\/k=3\/k=4\/k=5\/k=6\/k=7\/k=8:=by omega
  rcases this with rfl|rfl|rfl|rfl|rfl|rfl|rfl|rfl|rfl<;>rfl
def xv (t:List UInt8):Int:=mx0 (g9 (fun y=>decide (t=y)) Hh)
def cX (ws:List bA) (i:Nat):Int:=if (decide (i<ws.length)&&decide ((ws.getD i default).k=1)) then xv (ws.getD i default).t else 0
def D3 (t:List UInt8):Nat->Int
  |0=>0
  |k+1=>if t=Hh.getD (k+1) [] then ((k+1:Nat):Int) else D3 t k
theorem Ii (t:List UInt8):D3 t 8=xv t:=by
  by_cases h:t∈Hh
  · simp only [Hh,List.mem_cons,List.not_mem_nil,or_false] at h
    rcases h with rfl|rfl|rfl|rfl|rfl|rfl|rfl|rfl|rfl<;>decide+kernel
  · have h2:g9 (fun y=>decide (t=y)) Hh= -1:=gg (by
      rw [List.any_eq_false];intro y hy;simp only [decide_eq_true_eq];rintro rfl;exact h hy)
    unfold xv;rw [h2]
    simp only [Hh,List.mem_cons,List.not_mem_nil,or_false,not_or] at h;obtain ⟨-,a1,a2,a3,a4,a5,a6,a7,a8⟩:=h;simp only [D3,Hh,List.getD_cons_succ,List.getD_cons_zero,if_neg a1,if_neg a2,if_neg a3,if_neg a4,if_neg a5,if_neg a6,if_neg a7,if_neg a8]
    rfl
theorem Ft (t:List UInt8):0<=xv t/\xv t<=8:=by
  rw [<-Ii]
  have:∀k:Nat,0<=D3 t k/\D3 t k<=(k:Int):=by
    intro k
    induction k with
    |zero=>exact⟨Int.le_refl _,Int.le_refl _⟩
    |succ k ih=>unfold D3;split<;>omega
  exact this 8
theorem JO (ws:List bA) (i:Nat):0<=cX ws i/\cX ws i<=8:=by
  unfold cX;split
  ·exact Ft _
  ·omega
def yv (ws:List bA):Nat->Nat->Nat->List Int->Nat×Int×List Int
  |0,j,_,xs=>(j,0,xs)
  |f+1,j,i,xs=>if (decide (ws.length<=j)||decide ((ws.getD j default).k≠2)) then (j,5,xs) else yv ws f (j+1) (i+1) (xs.set i (ws.getD j default).n)
def K4 (k:Int) (xs:List Int):Act:=⟨k,xs.getD 0 0,xs.getD 1 0,xs.getD 2 0,xs.getD 3 0⟩
def Yl:List Int:=[0,0,0,0]
def rf (ws:List bA) (i:Nat):Nat×Int×List Int:=yv ws (lu (cX ws i)) (i+1) 0 Yl
theorem ID (ws:List bA):∀(f j i:Nat) (xs:List Int),j<=ws.length->j<=(yv ws f j i xs).1/\(yv ws f j i xs).1<=ws.length
  |0,j,i,xs,h=>⟨Nat.le_refl _,h⟩
  |f+1,j,i,xs,h=>by
    unfold yv;split
    ·exact⟨Nat.le_refl _,h⟩
    · rename_i q
      simp only [Bool.or_eq_true,decide_eq_true_eq,not_or] at q;have:=ID ws f (j+1) (i+1) (xs.set i (ws.getD j default).n) om;omega
def j2 (ws:List bA) (i:Nat):Act×Nat×Int:=
  if cX ws i=0 then (default,i,5)
  else if (rf ws i).2.1≠0 then (default,(rf ws i).1,(rf ws i).2.1)
  else if jd ws (rf ws i).1 3 [59] then (K4 (cX ws i) (rf ws i).2.2,(rf ws i).1+1,0)
  else (default,(rf ws i).1,5)
theorem Nx {ws:List bA} (h:cX ws i≠0):i<ws.length:=by
  unfold cX at h;split at h
  ·rename_i q;simp only [Bool.and_eq_true,decide_eq_true_eq] at q;exact q.1
  ·exact absurd rfl h
theorem BK {ws:List bA} (h:(j2 ws i).2.2=0):i<(j2 ws i).2.1/\(j2 ws i).2.1<=ws.length:=by
  unfold j2 at h ⊢
  split at h
  ·cases h
  rename_i h1
  rw [if_neg h1]
  split at h
  ·rename_i h2;exact absurd h h2
  rename_i h2
  rw [if_neg h2]
  split at h
  · rename_i h3
    rw [if_pos h3];have h4:=ID ws (lu (cX ws i)) (i+1) 0 Yl (Nx h1);have h5:=pE h3
    unfold rf at h5 ⊢
    simp only;omega
  ·cases h
def jz:Nat->List bA->Nat->List Act->List Act×Int×Int
  |0,_,i,out=>(out,(i:Nat),0)
  |f+1,ws,i,out=>
    if ws.length<=i then (out,(i:Nat),0)
    else if cX ws i=0 then ([],(i:Nat),5)
    else if out.length=4000 then ([],(i:Nat),6)
    else if (j2 ws i).2.2≠0 then ([],((j2 ws i).2.1:Nat),(j2 ws i).2.2)
    else jz f ws (j2 ws i).2.1 (out++ [(j2 ws i).1])
theorem ve (ws:List bA):∀(f g i:Nat) (out:List Act),ws.length-i<=f->ws.length-i<=g->jz f ws i out=jz g ws i out
  |0,0,i,out,_,_=>rfl
  |0,g+1,i,out,h1,h2=>by rw [jz,jz,if_pos om]
  |f+1,0,i,out,h1,h2=>by rw [jz,jz,if_pos om]
  |f+1,g+1,i,out,h1,h2=>by
    simp only [jz]
    split
    ·rfl
    split
    ·rfl
    split
    ·rfl
    split
    ·rfl
    · rename_i h4
      have:=BK (Classical.not_not.1 h4);exact ve ws f g _ _ om om
def kA (ws:List bA) (i:Nat) (out:List Act):List Act×Int×Int:=jz (ws.length-i) ws i out
theorem Kt {ws:List bA} {out:List Act} (h:ws.length<=i):kA ws i out=(out,(i:Int),0):=by
  unfold kA;rw [show ws.length-i=0 by omega];rfl
theorem mM {ws:List bA} {out:List Act} (h:i<ws.length):kA ws i out=
    if cX ws i=0 then ([],(i:Int),5)
    else if out.length=4000 then ([],(i:Int),6)
    else if (j2 ws i).2.2≠0 then ([],((j2 ws i).2.1:Int),(j2 ws i).2.2)
    else kA ws (j2 ws i).2.1 (out++ [(j2 ws i).1]):=by
  unfold kA
  obtain ⟨f,hf⟩:∃f,ws.length-i=f+1:=⟨ws.length-i-1,by omega⟩
  rw [hf,jz,if_neg om]
  split
  ·rfl
  split
  ·rfl
  split
  ·rfl
  · rename_i h4
    have:=BK (Classical.not_not.1 h4);exact ve ws _ _ _ _ om om
def k5 (ws:List bA) (p:Int):List Act×Int×Int:=if p<0\/(ws.length:Int)<p then ([],0,5) else kA ws p.toNat []
theorem o6 {ws:List bA} (hi:i<=ws.length):k5 ws (i:Int)=kA ws i [] :=by
  unfold k5;rw [if_neg om,Int.toNat_natCast]
/-! what is parsed may be -/
structure iy where
  id:Int
  pr:Int
  gr:Int
  co:Int
  pc:Int
  lf:Int
  st:Int
  un:BitVec 64
  lk:Int
  we:Int
  ef:Int
  ti:Int
deriving Inhabited
instance:Inhabited bf:=⟨⟨false,0,[],[],default,⟨[],0,0,0#64⟩,false⟩⟩
structure aB where
  s:ee
  now:BitVec 64
  cs:List Qm
  idle:List Int
  lk:List bf
  gp:List Int
  g:Gr
  ts:List iy
  v:List (BitVec 64)
  ev:List kz
abbrev gT (x:aB) (t:Nat):iy:=x.ts.getD t default
abbrev gL (x:aB) (l:Nat):bf:=x.lk.getD l default
def bR (x:aB) (t:Nat) (y:iy):aB:= {x with ts:=x.ts.set t y}
def aY (x:aB) (l:Nat) (y:bf):aB:= {x with lk:=x.lk.set l y}
def fZ (x:aB) (c:Nat) (y:Qm):aB:= {x with cs:=x.cs.set c y}
def cC (x:aB) (t:Nat):aB:= {x with g:=x.g.set t 0#64}
def ba (x:aB) (k t l n:Int):aB:= {x with ev:=x.ev++ [⟨x.now,k,t,l,n⟩] }
def kg (ts:List iy):Nat:=(ts.filter (fun t=>decide (t.st≠5))).length
def jE (x:aB):Bool:=decide (kg x.ts<16)&&decide (x.ts.length<64)
def AK (id pr gr we co:Int):iy:=⟨id,pr,gr,co,0,0,1,0#64,-1,we,we,0⟩
def pk (x:aB) (pr gr we co:Int):aB:=
  ba {x with ts:=x.ts++ [AK x.ts.length pr gr we co],v:=x.v++ [0#64],cs:=dT x.cs co x.ts.length 0#64 we} 1 x.ts.length (-1) co
def C9 (t:iy):iy:= {t with st:=1,un:=0#64,lk:= -1}
def dH (x:aB) (t:Nat):aB:=ba {bR x t (C9 (gT x t)) with cs:=dT x.cs (gT x t).co t (x.v.getD t 0#64) (gT x t).ef} 7 t (-1) (gT x t).co
def eM (x:aB) (t:Nat):aB:= {x with cs:=iM x.cs t,v:=if bN x.cs t<x.cs.length then x.v.set t (xV x.cs t) else x.v}
def dD (l:bf) (t:Int):Int:=if bj l t=true then (if (l.ho.getD (gE l.ho t) default).d=true then 1 else 0)+(if l.sh=true/\(l.ho.getD (gE l.ho t) default).p=0 then 2 else 0) else 0
def gV (l:bf):BitVec 64:=kv (l.ho.map (·.t))
def Sj (L:bf) (g:Gr):Gr:=L.wt.foldl (fun g w=>qt g w.who (gV L)) g
def zc (x:aB) (l:Nat):aB:= {x with g:=Sj (gL x l) x.g}
def oM (t:iy):iy:= {t with pc:=t.pc+1}
def bh (x:aB) (t:Nat):aB:=bR x t (oM (gT x t))
def oJ (l:Nat) (x:aB) (t:Int):aB:=dH (cC (bh (ba x 4 t l (dD (gL x l) t)) t.toNat) t.toNat) t.toNat
def n4 (l:Nat) (x:aB) (to:List Int):aB:=to.foldl (oJ l) x
def cT (x:aB) (l:Nat) (to:List Int):aB:=zc (n4 l x to) l
def oy (x:aB) (t:Nat):aB:=if (gT x t).st=4 then cT (aY x (gT x t).lk.toNat (fR (gL x (gT x t).lk.toNat) t)) (gT x t).lk.toNat (oc (gL x (gT x t).lk.toNat) t) else x
def tt (t:Nat) (x:aB) (l:Nat):aB:=if bj (gL x l) t=true then cT (aY (ba x 12 t l 0) l (tx (gL x l) t)) l (v9 (gL x l) t) else x
def lS (t:Nat) (x:aB) (n:Nat):aB:=(List.range n).foldl (tt t) x
def tM (t:iy):iy:= {t with st:=5,un:=0#64,lk:= -1,lf:=0}
def ku (x:aB) (t:Nat):aB:=
  let y:=eM (lS t (cC (oy x t) t) x.lk.length) t
  ba (bR y t (tM (gT y t))) 11 t (-1) 0
def D7 (t:iy):Int:=if t.st=5 then 0 else t.we
def rP (x:aB):List Int:=x.ts.map D7
def tp (fC:List Int) (x:aB) (i:Nat):aB:=if (gT x i).st=5\/(gT x i).ef=fC.getD i 0 then x else {bR x i {gT x i with ef:=fC.getD i 0} with cs:=kG x.cs i (fC.getD i 0)}
def tw (fC:List Int) (x:aB) (n:Nat):aB:=(List.range n).foldl (tp fC) x
def ki (x:aB):aB:= {tw (y7 (rP x) x.g) x x.ts.length with cs:=(tw (y7 (rP x) x.g) x x.ts.length).cs.map fQ}
def Y1 (x:aB) (t:Nat) (o:bO):Int:=Ah (gL x o.a.toNat) (gT x t).gr (decide (o.k=3))
def tkE (x:aB) (t:Nat) (o:bO):Int:=cV (gL x o.a.toNat) t (Y1 x t o)
def Uc (x:aB) (t:Nat) (o:bO):Bool:=decide (tkE x t o=8)&&decide (o.k≠4)
def tkC (x:aB) (t:Nat) (o:bO):Bool:=aq (iH x.g (gV (gL x o.a.toNat))) t
def lG (x:aB) (t:Nat) (o:bO):Int:=if Uc x t o=true then (if tkC x t o=true then 9 else jF (gL x o.a.toNat) t (Y1 x t o)) else tkE x t o
def wg (t:iy) (o:bO) (now:BitVec 64):iy:= {t with st:=4,lk:=o.a,un:=if o.k=5 then now+BitVec.ofInt 64 o.b else t.un}
def tk0 (x:aB) (t:Nat) (o:bO):aB:=
  let y:=aY x o.a.toNat (cf (gL x o.a.toNat) t (Y1 x t o))
  bh (zc (ba y 4 t o.a (dD (gL y o.a.toNat) t)) o.a.toNat) t
def tk1 (x:aB) (t:Nat) (o:bO):aB:=bh (ba x 8 t o.a (lG x t o)) t
def tk2 (x:aB) (t:Nat) (o:bO):aB:=
  let y:=eM (ba (aY x o.a.toNat (du (gL x o.a.toNat) t (Y1 x t o))) 6 t o.a 0) t
  {bR y t (wg (gT y t) o y.now) with g:=qt y.g t (gV (gL y o.a.toNat))}
def mb (x:aB) (t:Nat) (o:bO):aB×Bool:=
  if tkE x t o=0 then (tk0 x t o,false) else if lG x t o≠0 then (tk1 x t o,false) else (tk2 x t o,true)
def Fs (t:iy) (a:Int):Int:=if t.lf=0 then a else t.lf
def Gz (t:iy) (a:Int):iy:= {t with lf:=Fs t a-1}
def zx (x:aB) (t:Nat) (a:Int):aB:= {bR x t (Gz (gT x t) a) with lk:=x.lk.map (fun L=>jt L t)}
def oW (x:aB) (t:Nat) (a:Int):aB:=if (gT (zx x t a) t).lf=0 then bh (zx x t a) t else zx x t a
def eF (x:aB) (t:Nat) (c:Nat) (o:bO):aB×Bool:=
  if o.k=1 then (oW x t o.a,true)
  else if 2<=o.k/\o.k<=5 then mb x t o
  else if o.k=6 then (if kb (gL x o.a.toNat) t≠0 then (bh (ba x 8 t o.a (kb (gL x o.a.toNat) t)) t,false) else (bh (cT (ba (aY x o.a.toNat (dP (gL x o.a.toNat) t)) 5 t o.a 0) o.a.toNat (dI (gL x o.a.toNat) t)) t,false))
  else if o.k=7 then (let y:=eM (ba x 9 t (-1) o.a) t;bR y t {gT y t with st:=3,un:=y.now+BitVec.ofInt 64 o.a,pc:=(gT y t).pc+1},true)
  else if o.k=8 then (let y:=fZ (ba x 10 t (-1) c) c (fM (qg x.cs c));bR y t {gT y t with st:=1,pc:=(gT y t).pc+1},true)
  else if o.k=9 then (bh (if jE x=true then pk x o.a (gT x t).gr (gT x t).we c else ba x 8 t (-1) 3) t,false)
  else if o.k=10 then (bh (ba (bR x t {gT x t with we:=o.a}) 14 t (-1) o.a) t,false)
  else if o.k=11 then (ku x t,true)
  else (bh x t,false)
abbrev iu (x:aB) (t:Nat):mX:=x.s.ps.getD (gT x t).pr.toNat default
def iP (x:aB) (t:Nat):aB:=if ((iu x t).xs.length:Int)<=(gT x t).pc then bR x t {gT x t with pc:=0} else x
def fb (x:aB) (t:Nat) (c:Nat):aB×Bool:=
  if ((iu x t).xs.length:Int)<=(gT x t).pc/\(iu x t).fv=false then (ku x t,true)
  else eF (iP x t) t c ((iu x t).xs.getD (gT (iP x t) t).pc.toNat default)
def oA (t c:Nat):Nat->aB->aB
  |0,x=>x
  |f+1,x=>if (fb x t c).2=true then (fb x t c).1 else oA t c f (fb x t c).1
def th (x:aB) (c:Nat):aB:=if KV (qg x.cs c)=true then ba (bR (fZ x c (fM (qg x.cs c))) (qg x.cs c).cur.toNat {gT x (qg x.cs c).cur.toNat with st:=1}) 3 (qg x.cs c).cur (-1) c else x
def rV (x:aB) (c:Nat):aB:=if (qg x.cs c).cur<0/\0<(qg x.cs c).l.length then ba (bR (fZ x c (ru (qg x.cs c))) (fN (qg x.cs c)).toNat {gT x (fN (qg x.cs c)).toNat with st:=2}) 2 (fN (qg x.cs c)) (-1) c else x
def tA (x:aB) (c:Nat):aB:=if (qg x.cs c).cur<0 then {x with idle:=x.idle.set c (x.idle.getD c 0+1)} else
  oA (qg x.cs c).cur.toNat c 64 (bR (fZ x c (dW (qg x.cs c))) (qg x.cs c).cur.toNat {gT x (qg x.cs c).cur.toNat with ti:=(gT x (qg x.cs c).cur.toNat).ti+1})
def uy (x:aB) (c:Nat):aB:=ki (tA (rV (th {x with now:=x.now+1#64} c) c) c)
def Qt (x:aB) (i:Nat):Nat:=(gT x i).un.toNat
def Zv (x:aB) (out:List Nat) (i:Nat):Nat:=out.findIdx (fun j=>decide (Qt x i<Qt x j))
def Zr (x:aB) (out:List Nat) (i:Nat):List Nat:=if (gT x i).un=0#64\/x.now.toNat<Qt x i then out else out.take (Zv x out i)++i::out.drop (Zv x out i)
def CF (x:aB) (n:Nat):List Nat:=(List.range n).foldl (Zr x) []
def pq (x:aB):List Nat:=CF x x.ts.length
def oo (x:aB) (t:Nat):aB:=
  if (gT x t).un=0#64 then x else if (gT x t).st=3 then dH x t else
  cT (dH (cC (bh (ba (aY x (gT x t).lk.toNat (fR (gL x (gT x t).lk.toNat) t)) 8 t (gT x t).lk 10) t) t) t) (gT x t).lk.toNat (oc (gL x (gT x t).lk.toNat) t)
def vX (x:aB) (l:List Nat):aB:=l.foldl oo x
def vh (x:aB):aB:=ki (vX x (pq x))
def qq (x:aB) (t:Nat) (c:Int):aB:=ki (ba (bR x t {gT x t with co:=c}) 13 t (-1) c)
def xh (x:aB) (n:Nat):aB:=(List.range n).foldl uy x
def AM (x:aB):aB:=vh (xh x x.s.cr.toNat)
def yk (x:aB):Nat->aB
  |0=>x
  |n+1=>AM (yk x n)
def dd (x:aB) (a:Act):Int:=
  if 50000<=x.ev.length then 3
  else if a.k=1 then (if a.a<0\/x.s.cr<=a.a then 1 else if 1048576<=x.now.toNat then 2 else 0)
  else if a.k=2 then 0
  else if a.k=3 then (if gj x.cs<0 then 4 else 0)
  else if a.k=4 then (if a.a<0\/(x.s.ps.length:Int)<=a.a\/a.b<0\/(x.gp.length:Int)<=a.b\/a.c<1\/16<a.c\/a.d<0\/x.s.cr<=a.d then 1 else if jE x=true then 0 else 3)
  else if a.k=5 then (if a.a<0\/(x.ts.length:Int)<=a.a then 4 else if (gT x a.a.toNat).st=5 then 11 else 0)
  else if a.k=6 then (if a.a<0\/(x.gp.length:Int)<=a.a\/a.b<1\/16<a.b then 1 else 0)
  else if a.k=7 then fy x.cs a.b a.a
  else if a.k=8 then (if a.a<0\/200<a.a then 1 else if 1048576<(x.now+BitVec.ofInt 64 (a.a*x.s.cr)).toNat then 2 else 0)
  else 1
def ji (x:aB) (a:Act):aB:=
  if dd x a≠0 then x
  else if a.k=1 then uy x a.a.toNat
  else if a.k=2 then vh x
  else if a.k=3 then qq {x with cs:=jI x.cs} (gj x.cs).toNat (uc x.cs)
  else if a.k=4 then ki (pk x a.a a.b a.c a.d)
  else if a.k=5 then ki (ku x a.a.toNat)
  else if a.k=6 then {x with gp:=x.gp.set a.a.toNat a.b,lk:=x.lk.map (fun L=>iU L a.a a.b)}
  else if a.k=7 then qq {x with cs:=jB x.cs a.b a.a} a.a.toNat a.b
  else yk x a.a.toNat
def fH (s:ee):aB:=⟨s,0#64,gm s.cr s.gr,List.replicate s.cr.toNat 0,s.ls.map (fun l=>oU ⟨l.sh,l.sl,l.cr,l.rd,l.wr⟩ s.gs),s.gs,kk,[],[],[]⟩
def Jc (L:bf) (g:Gr) (i:Nat):Gr:=(L.wt.take i).foldl (fun g w=>qt g w.who (gV L)) g
theorem I2 {L:bf} {g:Gr} (h:i<L.wt.length):Jc L g (i+1)=qt (Jc L g i) (L.wt.getD i default).who (gV L):=by
  unfold Jc;rw [bQ default h,List.foldl_append];rfl
theorem B1 (L:bf) (g:Gr):Jc L g L.wt.length=Sj L g:=by unfold Jc;rw [List.take_length];rfl
theorem It {x:aB} {t:Nat} (h:bN x.cs t<x.cs.length):(eM x t).v=x.v.set t (xV x.cs t):=if_pos h
theorem MJ {x:aB} {t:Nat} (h:¬bN x.cs t<x.cs.length):(eM x t).v=x.v:=if_neg h
theorem uq {L:bf} {t:Int} (h:∀j,j<i->(L.ho.getD j default).t≠t) (hi:i<L.ho.length) (ht:(L.ho.getD i default).t=t):bj L t=true/\gE L.ho t=i:=by
  have e:∀j (hj:j<L.ho.length),L.ho.getD j default=L.ho[j] :=fun j hj=>by rw [List.getD_eq_getElem?_getD,List.getElem?_eq_getElem hj];rfl
  refine ⟨List.any_eq_true.2 ⟨L.ho[i],List.getElem_mem _,by rw [<-e i hi];exact decide_eq_true ht⟩,?_⟩
  unfold gE
  rw [List.findIdx_eq hi];exact⟨by rw [<-e i hi];exact decide_eq_true ht,fun j hj=>by have:=h j hj;rw [e j om] at this;exact decide_eq_false this⟩
theorem Vd {L:bf} {t:Int} (h:∀j,j<L.ho.length->(L.ho.getD j default).t≠t):bj L t=false:=by
  unfold bj
  rw [List.any_eq_false];intro q hq;obtain ⟨j,hj,rfl⟩:=List.getElem_of_mem hq;have:=h j hj;rw [List.getD_eq_getElem?_getD,List.getElem?_eq_getElem hj] at this;simpa using this
theorem Of (l:List iy):kg l<=l.length:=List.length_filter_le ..
theorem tN {l:List iy} (h:i<l.length) (h2:(l.getD i default).st≠5):((kg (l.take i):Nat):Int)+1=((kg (l.take (i+1)):Nat):Int):=by
  rw [bQ default h];unfold kg;rw [List.filter_append,List.filter_cons_of_pos (by simpa using h2),List.length_append];rfl
theorem wH {l:List iy} (h:i<l.length) (h2:¬(l.getD i default).st≠5):((kg (l.take i):Nat):Int)=((kg (l.take (i+1)):Nat):Int):=by
  rw [bQ default h];unfold kg;rw [List.filter_append,List.filter_cons_of_neg (by simpa using h2),List.length_append];rfl
def XF (a:BitVec 64):List (BitVec 64):=[a % 65536#64,a / 65536#64 % 65536#64,a / 4294967296#64 % 65536#64,a / 281474976710656#64]
def ph (l:List (BitVec 64)) (i:Nat):BitVec 64:=l.getD i 0#64
def AJ (a b:List (BitVec 64)):Nat->List (BitVec 64)×BitVec 64
  |0=>([],0#64)
  |k+1=>((AJ a b k).1++ [(ph a k+ph b k+(AJ a b k).2) % 65536#64],(ph a k+ph b k+(AJ a b k).2) / 65536#64)
theorem wX (a b:List (BitVec 64)):∀k,(AJ a b k).1.length=k
  |0=>rfl
  |k+1=>by simp [AJ,wX a b k]
def DW (l:List (BitVec 64)):BitVec 64×Int:=if (0#64).toNat<(ph l 4).toNat then (18446744073709551615#64,2) else (ph l 0+ph l 1*65536#64+ph l 2*4294967296#64+ph l 3*281474976710656#64,0)
theorem VB {A:Nat} (h:A<18446744073709551616):A=A % 65536+65536*(A / 65536 % 65536)+4294967296*(A / 4294967296 % 65536)+281474976710656*(A / 281474976710656):=by
  have e2:A / 4294967296=A / 65536 / 65536:=(Nat.div_div_eq_div_mul A 65536 65536).symm;have e3:A / 281474976710656=A / 65536 / 65536 / 65536:=by rw [Nat.div_div_eq_div_mul,Nat.div_div_eq_div_mul]
  rw [e2,e3]
  generalize re:A / 65536=q1
  generalize jY:q1 / 65536=q2
  generalize DA:q2 / 65536=q3
  omega
theorem Rc {A B a0 a1 a2 a3 b0 b1 b2 b3 c0 c1 c2 c3:Nat} (hA:A=a0+65536*a1+4294967296*a2+281474976710656*a3) (hB:B=b0+65536*b1+4294967296*b2+281474976710656*b3)
    (e0:c0=a0+b0) (e1:c1=a1+b1+c0 / 65536) (e2:c2=a2+b2+c1 / 65536) (e3:c3=a3+b3+c2 / 65536):
    A+B=c0 % 65536+c1 % 65536*65536+c2 % 65536*4294967296+c3 % 65536*281474976710656+c3 / 65536*18446744073709551616:=by
  generalize Un:c0 / 65536=q0 at*
  generalize re:c1 / 65536=q1 at*
  generalize jY:c2 / 65536=q2 at*
  generalize DA:c3 / 65536=q3 at*
  generalize hr0:c0 % 65536=r0 at*
  generalize Zh:c1 % 65536=r1 at*
  generalize XY:c2 % 65536=r2 at*
  generalize hr3:c3 % 65536=r3 at*
  have k0:c0=65536*q0+r0:=by omega
  have k1:c1=65536*q1+r1:=by omega
  have k2:c2=65536*q2+r2:=by omega
  have k3:c3=65536*q3+r3:=by omega
  clear Un re jY DA hr0 Zh XY hr3
  omega
theorem bv_add {x y:BitVec 64} {m:Nat} (hx:x.toNat=m) (hy:y.toNat=n) (h:m+n<18446744073709551616):(x+y).toNat=m+n:=by
  rw [BitVec.toNat_add,hx,hy];exact Nat.mod_eq_of_lt h
theorem GO {x y:BitVec 64} {m:Nat} (hx:x.toNat=m) (hy:y.toNat=n) (h:m*n<18446744073709551616):(x*y).toNat=m*n:=by
  rw [BitVec.toNat_mul,hx,hy];exact Nat.mod_eq_of_lt h
theorem wF {x y:BitVec 64} {m:Nat} (hx:x.toNat=m) (hy:y.toNat=n):(x % y).toNat=m % n:=by rw [BitVec.toNat_umod,hx,hy]
theorem BB {x y:BitVec 64} {m:Nat} (hx:x.toNat=m) (hy:y.toNat=n):(x / y).toNat=m / n:=by rw [BitVec.toNat_udiv,hx,hy]
theorem sd {x y z c:BitVec 64} (hc:c=x+y+z) (hx:x.toNat<65536) (hy:y.toNat<65536) (hz:z.toNat<=1):c.toNat=x.toNat+y.toNat+z.toNat/\(c / 65536#64).toNat=c.toNat / 65536/\(c / 65536#64).toNat<=1/\(c % 65536#64).toNat=c.toNat % 65536:=by
  have t6:(65536#64).toNat=65536:=rfl
  have e:c.toNat=x.toNat+y.toNat+z.toNat:=by
    rw [hc];exact bv_add (bv_add rfl rfl om) rfl om
  have d:(c / 65536#64).toNat=c.toNat / 65536:=BB (m:=c.toNat) rfl t6;exact⟨e,d,by rw [d,e];omega,wF (m:=c.toNat) rfl t6⟩
theorem LZ {a b x0 x1 x2 x3 y0 y1 y2 y3 z c0 c1 c2 c3:BitVec 64} (hA:a.toNat=x0.toNat+65536*x1.toNat+4294967296*x2.toNat+281474976710656*x3.toNat) (hB:b.toNat=y0.toNat+65536*y1.toNat+4294967296*y2.toNat+281474976710656*y3.toNat)
    (hx0:x0.toNat<65536) (hx1:x1.toNat<65536) (ZD:x2.toNat<65536) (hx3:x3.toNat<65536) (hy0:y0.toNat<65536) (hy1:y1.toNat<65536) (hy2:y2.toNat<65536) (hy3:y3.toNat<65536)
    (hz:z.toNat=0) (ED:c0=x0+y0+z) (HY:c1=x1+y1+c0 / 65536#64) (wT:c2=x2+y2+c1 / 65536#64) (QH:c3=x3+y3+c2 / 65536#64):
    DW [c0 % 65536#64,c1 % 65536#64,c2 % 65536#64,c3 % 65536#64,c3 / 65536#64 % 65536#64] =(qy a b,if a.toNat+b.toNat<18446744073709551616 then 0 else 2):=by
  obtain ⟨e0,d0,l0,m0⟩:=sd ED hx0 hy0 om;obtain ⟨e1,d1,l1,m1⟩:=sd HY hx1 hy1 l0;obtain ⟨e2,d2,l2,m2⟩:=sd wT ZD hy2 l1;obtain ⟨e3,d3,l3,m3⟩:=sd QH hx3 hy3 l2;rw [d0] at e1;rw [d1] at e2;rw [d2] at e3;have e0':c0.toNat=x0.toNat+y0.toNat:=by rw [e0,hz,Nat.add_zero]
  have Tu:=Rc hA hB e0' e1 e2 e3;have l4:c3.toNat / 65536<=1:=d3▸l3
  clear hA hB e0 e0' e1 e2 e3 d0 d1 d2 l0 l1 l2 l3 hx0 hx1 ZD hx3 hy0 hy1 hy2 hy3 ED HY wT QH
  have f4:(c3 / 65536#64 % 65536#64).toNat=c3.toNat / 65536:=by
    rw [wF d3 (n:=65536) rfl];exact Nat.mod_eq_of_lt om
  have b0:c0.toNat % 65536<65536:=Nat.mod_lt _ (by decide);have b1:c1.toNat % 65536<65536:=Nat.mod_lt _ (by decide);have b2:c2.toNat % 65536<65536:=Nat.mod_lt _ (by decide);have b3:c3.toNat % 65536<65536:=Nat.mod_lt _ (by decide);have hd4:(ph [c0 % 65536#64,c1 % 65536#64,c2 % 65536#64,c3 % 65536#64,c3 / 65536#64 % 65536#64] 4).toNat=c3.toNat / 65536:=f4;have z0:(0#64).toNat=0:=rfl
  unfold DW
  rw [hd4,z0]
  by_cases h:a.toNat+b.toNat<18446744073709551616
  · have q:¬0<c3.toNat / 65536:=by omega
    rw [if_neg q,if_pos h,show qy a b=a+b from if_pos h]
    congr 1
    apply BitVec.eq_of_toNat_eq
    rw [bv_add (x:=a) (y:=b) rfl rfl h]
    show (c0 % 65536#64+c1 % 65536#64*65536#64+c2 % 65536#64*4294967296#64+c3 % 65536#64*281474976710656#64).toNat=_
    rw [bv_add (bv_add (bv_add m0 (GO m1 (n:=65536) rfl om) om) (GO m2 (n:=4294967296) rfl om) om) (GO m3 (n:=281474976710656) rfl om) om];omega
  · have q:0<c3.toNat / 65536:=by omega
    rw [if_pos q,if_neg h,show qy a b=18446744073709551615#64 from if_neg h]
theorem Oh (a:BitVec 64):a.toNat=(a % 65536#64).toNat+65536*(a / 65536#64 % 65536#64).toNat+4294967296*(a / 4294967296#64 % 65536#64).toNat+281474976710656*(a / 281474976710656#64).toNat/\
    (a % 65536#64).toNat<65536/\(a / 65536#64 % 65536#64).toNat<65536/\(a / 4294967296#64 % 65536#64).toNat<65536/\(a / 281474976710656#64).toNat<65536:=by
  have t6:(65536#64).toNat=65536:=rfl;have t32:(4294967296#64).toNat=4294967296:=rfl;have t48:(281474976710656#64).toNat=281474976710656:=rfl;rw [wF (m:=a.toNat) rfl t6,wF (BB (m:=a.toNat) rfl t6) t6,wF (BB (m:=a.toNat) rfl t32) t6,BB (m:=a.toNat) rfl t48];have ha:=a.isLt;exact⟨VB ha,Nat.mod_lt _ (by decide),Nat.mod_lt _ (by decide),Nat.mod_lt _ (by decide),by omega⟩
theorem RG (a b:BitVec 64):DW (AJ (XF a) (XF b) 5).1=(qy a b,if a.toNat+b.toNat<18446744073709551616 then 0 else 2):=by
  obtain ⟨hA,a0,a1,a2,a3⟩:=Oh a;obtain ⟨hB,b0,b1,b2,b3⟩:=Oh b;have key:=LZ (z:=0#64) hA hB a0 a1 a2 a3 b0 b1 b2 b3 rfl rfl rfl rfl rfl;rw [<-key];have hz:∀x:BitVec 64,0#64+0#64+x=x:=fun x=>by rw [BitVec.zero_add,BitVec.zero_add]
  show DW [_,_,_,_,(0#64+0#64+_) % 65536#64] =_
  rw [hz]
  rfl
end Go.Eng
namespace Go.Eng
open Go Go.Proofs Go.RowKit
variable {a b e hi last lo:Int} {nm s t:List UInt8} {ops xs:List bO} {ah ahead cap i j k n n0 w:Nat} {ad:Option Addr} {x:Qm}
theorem zL (a:BitVec 64) (w:World):aD Tryz.prog 141 #[U a] w (New fU 41 1 (XF a) w):=by
 refine aD.ak Tryz.func141 rfl Tryz.ntmps141 rfl ([]) (no) (Mem.nil w) ?_;refine J8 ?_;refine LM.val (sk (b:=65536#64) rfl rfl (by first|decide|assumption)) ?_;refine J1 ?_;refine LM.val (pI (b:=65536#64) rfl rfl (by first|decide|assumption)) ?_;refine LM.val (sk (b:=65536#64) rfl rfl (by first|decide|assumption)) ?_;refine J1 ?_;refine LM.val (pI (b:=4294967296#64) rfl rfl (by first|decide|assumption)) ?_;refine LM.val (sk (b:=65536#64) rfl rfl (by first|decide|assumption)) ?_;refine J1 ?_;refine LM.val (pI (b:=281474976710656#64) rfl rfl (by first|decide|assumption)) ?_;refine LM.row (vs:=[_,_,_,_]) Tryz.underlying46 Tryz.sizeOf41 Tryz.zeroValue41 rfl rfl rfl rfl rfl rfl (fun b13 aiX=>?_);refine J4 ?_;refine qL Tryz.results141 rfl fun w' ao aa aA=>?_;exact⟨aa,_,.inr ⟨b13,4,[],aiX,rfl,rfl,Nat.le_refl _,by unfold maxLen;decide,rfl⟩,ao⟩
theorem lW {l:List (BitVec 64)} (i:Nat) (w:World) (hn:n=l.length) (hl:Sr fU 1 l (.slice ad n cap) w):aD Tryz.prog 164 #[.slice ad n cap,.int .i64 (i:Nat)] w (fun v w'=>v=U (ph l i)/\Ext w w'):=by
 refine aD.ak Tryz.func164 rfl Tryz.ntmps164 rfl ([]) (no) (Mem.nil w) ?_;refine kR ?_;refine af.aj rfl (fun h1=>?_) (fun h1=>?_)
 ·refine J5 ?_;refine LM.dV (iO aC Tryz.isAgg41 rfl rfl (by exact aH 0#64 cH) (by rfl) id) ?_;refine J5 ?_;refine qL Tryz.results164 rfl fun w' ao aa aA=>?_;exact⟨rfl,aa⟩
 refine J8 ?_;refine qL Tryz.results164 rfl fun w' ao aa aA=>?_;refine ⟨?_,aa⟩;unfold ph;rw [List.getD_eq_getElem?_getD,List.getElem?_eq_none om];rfl
theorem AY {n' mD:Nat} {BP:Option Addr} (w:World):aD Tryz.prog 165 #[.slice ad n cap,.slice BP n' mD] w (fun v w'=>v= .int .i64 (max n n':Nat)/\Ext w w'):=by
 refine aD.ak Tryz.func165 rfl Tryz.ntmps165 rfl ([]) (no) (Mem.nil w) ?_;refine rA ?_;refine af.aj rfl (fun h1=>?_) (fun h1=>?_)
 ·refine J9 ?_;refine qL Tryz.results165 rfl fun w' ao aa aA=>?_;exact⟨by show Value.int .i64 (n:Nat)=_;rw [show max n n'=n by omega],aa⟩
 refine cF ?_;refine qL Tryz.results165 rfl fun w' ao aa aA=>?_;exact⟨by show Value.int .i64 (n':Nat)=_;rw [show max n n'=n' by omega],aa⟩
theorem JJ {a b:List (BitVec 64)} {BP:Option Addr} {n' mD:Nat} (w:World) (hn:n=a.length) (QW:n'=b.length) (ha:Sr fU 1 a (.slice ad n cap) w) (hb:Sr fU 1 b (.slice BP n' mD) w) (ft:a.length=4) (Qs:b.length=4):aD Tryz.prog 140 #[.slice ad n cap,.slice BP n' mD] w (New fU 41 1 (AJ a b 5).1 w):=by
 have hmx:max n n'=4:=om;refine aD.ak Tryz.func140 rfl Tryz.ntmps140 rfl ([]) (no) (Mem.nil w) ?_;refine UT ?_;refine cE Tryz.func165 rfl (fun w hm hc hg=>hmx▸AY w) ?_;refine cF ?_;refine af.aO (α:=Nat×Option Addr×Nat×Nat×ab) (fun ⟨i,eu,no,bP,mo⟩=>[(5,.slice eu no bP),(6,U (AJ a b i).2),(8,.int .i64 (i:Nat))]) [(0,_),(1,_),(7,_)] (fun ⟨i,eu,no,bP,mo⟩=>mo++ []) (fun ⟨i,eu,no,bP,mo⟩=>i<=5/\no=i/\Sl fU 41 1 w.heap.size (AJ a b i).1 (.slice eu no bP) mo) (fun ⟨i,eu,no,bP,mo⟩=>5-i) ((0,none,0,0,[])) cA aX ⟨by omega,rfl,.nil _ _ _ _⟩ ?_;rintro ⟨i,eu,no,bP,mo⟩ ⟨hi,gK,hs⟩;change af _ _ _ _ _ _ _ (mo++ []) _ _ _;have jL:=wX a b i;refine J8 ?_;refine af.aj rfl (fun h1=>?_) (fun h1=>?_)
 ·refine J8 ?_;refine cE Tryz.func164 rfl (fun w hm hc hg=>lW i w hn (ha.ext hc)) ?_;refine J2 ?_;refine cE Tryz.func164 rfl (fun w hm hc hg=>lW i w QW (hb.ext hc)) ?_;refine LM.val (iX rfl rfl) ?_;refine J1 ?_;refine LM.val (iX rfl rfl) ?_;refine J7 ?_;refine LM.val (sk (b:=65536#64) rfl rfl (by first|decide|assumption)) ?_;refine LM.single Tryz.underlying46 Tryz.sizeOf41 Tryz.zeroValue41 rfl rfl rfl rfl rfl (fun b30 anK=>?_);refine LM.app Tryz.underlying46 Tryz.typeInfo41 rfl rfl rfl rfl rfl rfl rfl aC (by rfl) ir (by intro _ u hu;simp [fU] at hu;(repeat (first|(rcases hu with rfl|hu)|subst hu|rfl))) (by first|exact Nat.le_refl _|omega) kU (by first|omega|(unfold maxLen;omega)) (by simp only [Tryz.t41];omega) (fun ahA n31 acP m31 aoV aim akc=>?_);refine J5 ?_;refine LM.val (pI (b:=65536#64) rfl rfl (by first|decide|assumption)) ?_;refine J9 ?_;refine aK (i+1,ahA,n31,acP,m31) ?_ ?_
  ·exact⟨by omega,by omega,aim⟩
  ·(dsimp only;omega)
 refine cM ?_;refine qL Tryz.results140 rfl fun w' ao aa aA=>?_;have h5:i=5:=om;subst h5;exact⟨aa,mo,hs,ao.pick mo⟩
theorem Ge {l:List (BitVec 64)} (w:World) (hn:n=l.length) (hl:Sr fU 1 l (.slice ad n cap) w) (h5:l.length=5):aD Tryz.prog 139 #[.slice ad n cap] w (fun v w'=>v= .tuple #[U (DW l).1,.int .i64 (DW l).2]/\Ext w w'):=by
 refine aD.ak Tryz.func139 rfl Tryz.ntmps139 rfl ([]) (no) (Mem.nil w) ?_;refine gz ?_;refine af.aO (α:=Nat) (fun i=>[(4,.int .i64 (i:Nat))]) [(0,_)] (fun i=>[]) (fun i=>4<=i/\i<=5/\(i=5->¬(0#64).toNat<(ph l 4).toNat)) (fun i=>5-i) (4) cA aX ⟨by omega,by omega,by omega⟩ ?_;rintro i ⟨TD,hi5,hq⟩;change af _ _ _ _ _ _ _ ([]) _ _ _;refine J9 ?_;refine af.aj rfl (fun h1=>?_) (fun h1=>?_)
 ·refine J9 ?_;refine LM.dV (iO aC Tryz.isAgg41 rfl rfl (by exact aH 0#64 cH) (by rfl) id) ?_;refine LM.val (pW (b:=0#64) rfl rfl) ?_;refine J2 ?_;refine af.aj rfl (fun h2=>?_) (fun h2=>?_)
  ·refine cM ?_;refine QM.leave (.inl rfl) [.tmp 2,.tmp 3] Tryz.results139 rfl ?_;intro w' ao aa aA;have h4:i=4:=om;subst h4;refine ⟨?_,aa⟩;rw [show DW l=(18446744073709551615#64,2) from if_pos h2];rfl
  refine J8 ?_;refine aK (i+1) ?_ ?_
  ·exact⟨by omega,by omega,fun _=>by have h4:i=4:=om;subst h4;exact h2⟩
  ·omega
 refine J8 ?_;refine cE Tryz.func164 rfl (fun w hm hc hg=>lW 0 w hn (hl.ext hc)) ?_;refine J1 ?_;refine cE Tryz.func164 rfl (fun w hm hc hg=>lW 1 w hn (hl.ext hc)) ?_;refine LM.val (nM (b:=65536#64) rfl rfl) ?_;refine LM.val (iX rfl rfl) ?_;refine J1 ?_;refine cE Tryz.func164 rfl (fun w hm hc hg=>lW 2 w hn (hl.ext hc)) ?_;refine LM.val (nM (b:=4294967296#64) rfl rfl) ?_;refine LM.val (iX rfl rfl) ?_;refine J1 ?_;refine cE Tryz.func164 rfl (fun w hm hc hg=>lW 3 w hn (hl.ext hc)) ?_;refine LM.val (nM (b:=281474976710656#64) rfl rfl) ?_;refine LM.val (iX rfl rfl) ?_;refine J5 ?_;refine QM.leave (.inl rfl) [.tmp 2,.tmp 3] Tryz.results139 rfl ?_;intro w' ao aa aA;refine ⟨?_,aa⟩;rw [show DW l=(ph l 0+ph l 1*65536#64+ph l 2*4294967296#64+ph l 3*281474976710656#64,0) from if_neg (hq om)];rfl
theorem p9 (a b:BitVec 64) (w:World):aD Tryz.prog 104 #[U a,U b] w (fun v w'=>v= .tuple #[U (qy a b),.int .i64 (if a.toNat+b.toNat<18446744073709551616 then 0 else 2)]/\Ext w w'):=by
 refine aD.ak Tryz.func104 rfl Tryz.ntmps104 rfl ([]) (no) (Mem.nil w) ?_;refine J9 ?_;refine LM.cS (oC Tryz.func141) (fun w hm hc hg=>zL a w) (fun ad7 n7 afw m7 hn7 hs7=>?_);refine J1 ?_;refine LM.cS (oC Tryz.func141) (fun w hm hc hg=>zL b w) (fun Oq n9 xo m9 hn9 Y5=>?_);refine LM.cS (oC Tryz.func140) (fun w hm hc hg=>JJ w hn7 hn9 (hs7.l7 AU hm) (Y5.l7 AU hm) rfl rfl) (fun aph n10 alF OA afR afy=>?_);refine cE Tryz.func139 rfl (fun w hm hc hg=>(RG a b)▸Ge w afR (afy.l7 AU hm) (wX _ _ 5)) ?_;refine J7 ?_;refine QM.leave (.inl rfl) [.tmp 4,.tmp 5] Tryz.results104 rfl ?_;intro w' ao aa aA;exact⟨rfl,aa⟩
theorem Ji (a b:BitVec 64) (w:World):aD Tryz.prog 114 #[U a,U b] w (fun v w'=>v= .tuple #[U (if a.toNat<b.toNat then 0#64 else a-b),.int .i64 (if a.toNat<b.toNat then 2 else 0)]/\Ext w w'):=by
 refine aD.ak Tryz.func114 rfl Tryz.ntmps114 rfl ([]) (no) (Mem.nil w) ?_;refine dc ?_;refine LM.val (nn rfl rfl) ?_;refine J2 ?_;refine af.aj rfl (fun h1=>?_) (fun h1=>?_)
 ·refine J8 ?_;refine QM.leave (.inl rfl) [.tmp 4,.tmp 5] Tryz.results114 rfl ?_;intro w' ao aa aA;refine ⟨?_,aa⟩;rw [if_pos h1,if_pos h1];rfl
 refine J6 ?_;refine LM.val (Ag rfl rfl) ?_;refine J5 ?_;refine QM.leave (.inl rfl) [.tmp 4,.tmp 5] Tryz.results114 rfl ?_;intro w' ao aa aA;refine ⟨?_,aa⟩;rw [if_neg h1,if_neg h1];rfl
theorem bM (n lo hi:Int) (w:World):aD Tryz.prog 48 #[.int .i64 n,.int .i64 lo,.int .i64 hi] w (fun v w'=>v= .int .i64 (aF n lo hi)/\Ext w w'):=by
 refine aD.ak Tryz.func48 rfl Tryz.ntmps48 rfl ([]) (no) (Mem.nil w) ?_;refine gz ?_;refine af.aj rfl (fun h1=>?_) (fun h1=>?_)
 ·refine J8 ?_;refine qL Tryz.results48 rfl fun w' ao aa aA=>?_;exact⟨by unfold aF;rw [if_pos h1];rfl,aa⟩
 refine cF ?_;refine af.aj rfl (fun h2=>?_) (fun h2=>?_)
 ·refine J8 ?_;refine qL Tryz.results48 rfl fun w' ao aa aA=>?_;exact⟨by unfold aF;rw [if_neg h1,if_pos h2];rfl,aa⟩
 refine J9 ?_;refine qL Tryz.results48 rfl fun w' ao aa aA=>?_;exact⟨by unfold aF;rw [if_neg h1,if_neg h2];rfl,aa⟩
theorem oR (v fl r:BitVec 64) (w:World):aD Tryz.prog 123 #[U v,U fl,U r] w (fun u w'=>u=U (fu v fl r)/\Ext w w'):=by
 refine aD.ak Tryz.func123 rfl Tryz.ntmps123 rfl ([]) (no) (Mem.nil w) ?_;refine cF ?_;refine LM.val (nn rfl rfl) ?_;refine J2 ?_;refine af.aj rfl (fun h1=>?_) (fun h1=>?_)
 ·refine J8 ?_;refine qL Tryz.results123 rfl fun w' ao aa aA=>?_;exact⟨by unfold fu;rw [if_pos h1];rfl,aa⟩
 refine J6 ?_;refine cE Tryz.func104 rfl (fun w hm hc hg=>p9 _ _ w) ?_;refine cM ?_;refine LM.val (pW rfl rfl) ?_;refine J2 ?_;refine af.aj rfl (fun h2=>?_) (fun h2=>?_)
 ·refine J8 ?_;refine qL Tryz.results123 rfl fun w' ao aa aA=>?_;exact⟨by unfold fu;rw [if_neg h1,if_pos h2];rfl,aa⟩
 refine J9 ?_;refine qL Tryz.results123 rfl fun w' ao aa aA=>?_;exact⟨by unfold fu;rw [if_neg h1,if_neg h2];rfl,aa⟩
theorem ra (n:Int) (w:World):aD Tryz.prog 124 #[.int .i64 n] w (fun v w'=>v=U (qG n)/\Ext w w'):=by
 have hz:=D2 (n:=n) (hi:=16) (by decide) (by decide);refine aD.ak Tryz.func124 rfl Tryz.ntmps124 rfl ([]) (no) (Mem.nil w) ?_;refine J8 ?_;refine cE Tryz.func48 rfl (fun w hm hc hg=>bM _ 1 16 w) ?_;refine LM.val (oK Tryz.underlying3 Tryz.underlying41 rfl) ?_;refine LM.val (pI (a:=720720#64) rfl rfl (by first|decide|assumption)) ?_;refine J4 ?_;refine qL Tryz.results124 rfl fun w' ao aa aA=>?_;exact⟨rfl,aa⟩
theorem EC (n s c:Int) (w:World):aD Tryz.prog 157 #[.int .i64 n,.int .i64 s,.int .i64 c] w (fun v w'=>v=U (mY n s c)/\Ext w w'):=by
 have re:=ej (n:=s) (lo:=1) (hi:=32) (by decide);have jY:=ej (n:=c) (lo:=1) (hi:=32) (by decide);refine aD.ak Tryz.func157 rfl Tryz.ntmps157 rfl ([]) (no) (Mem.nil w) ?_;refine J8 ?_;refine cE Tryz.func124 rfl (fun w hm hc hg=>ra _ w) ?_;refine J1 ?_;refine cE Tryz.func48 rfl (fun w hm hc hg=>bM _ 1 32 w) ?_;refine J1 ?_;refine cE Tryz.func48 rfl (fun w hm hc hg=>bM _ 1 32 w) ?_;refine J1 ?_;refine LM.val (oK Tryz.underlying3 Tryz.underlying41 rfl) ?_;refine LM.val (nM rfl rfl) ?_;refine J4 ?_;refine qL Tryz.results157 rfl fun w' ao aa aA=>?_;refine ⟨?_,aa⟩;simp only [bd];rw [BitVec.ofInt_add];rfl
theorem ym (n:Int) (w:World):aD Tryz.prog 105 #[.int .i64 n] w (fun v w'=>v=U (Dh n)/\Ext w w'):=by
 have hz:=D2 (n:=n) (hi:=4096) (by decide) (by decide);refine aD.ak Tryz.func105 rfl Tryz.ntmps105 rfl ([]) (no) (Mem.nil w) ?_;refine J8 ?_;refine cE Tryz.func48 rfl (fun w hm hc hg=>bM _ 1 4096 w) ?_;refine LM.val (oK Tryz.underlying3 Tryz.underlying41 rfl) ?_;refine LM.val (pI (a:=1099511627776#64) rfl rfl (by first|decide|assumption)) ?_;refine J4 ?_;refine qL Tryz.results105 rfl fun w' ao aa aA=>?_;exact⟨rfl,aa⟩
theorem DF (n g:Int) (w:World):aD Tryz.prog 156 #[.int .i64 n,.int .i64 g] w (fun v w'=>v=U (Fz n g)/\Ext w w'):=by
 refine aD.ak Tryz.func156 rfl Tryz.ntmps156 rfl ([]) (no) (Mem.nil w) ?_;refine J8 ?_;refine cE Tryz.func105 rfl (fun w hm hc hg=>ym _ w) ?_;refine J1 ?_;refine cE Tryz.func48 rfl (fun w hm hc hg=>bM _ 1 8 w) ?_;refine LM.val (oK Tryz.underlying3 Tryz.underlying41 rfl) ?_;refine LM.val (nM rfl rfl) ?_;refine J4 ?_;refine qL Tryz.results156 rfl fun w' ao aa aA=>?_;exact⟨rfl,aa⟩
def yN (t:Kv):List Value:=[.int .i64 t.id,U t.V,.int .i64 t.x]
abbrev ea (b:Nat) (g:Int) (fl:BitVec 64) (ad:Option Addr) (n cap:Nat) (cur cY:Int):Nat×Obj:=(b,.cells #[.int .i64 g,U fl,.slice ad n cap,.int .i64 cur,.int .i64 cY] 128 (0,0))
def jb (n0 b:Nat) (x:Qm) (m:ab):Prop:=nJ x/\∃(ad:Option Addr) (n cap:Nat) (ms:ab),m=ea b x.g x.fl ad n cap x.cur x.cY::ms/\n=x.l.length/\Sl yN 134 3 n0 x.l (.slice ad n cap) ms/\n0<=b
theorem jb.ge {n0 b:Nat} {x:Qm} {m:ab} (h:jb n0 b x m):∀p∈m,n0<=p.1:=by
  obtain ⟨hq,ad,n,cap,ms,rfl,hn,hs,hb⟩:=h;intro p hp;rcases List.mem_cons.1 hp with rfl|hp
  ·exact hb
  ·exact hs.ge p hp
theorem jb.bJ {n0 b:Nat} {x:Qm} {m:ab} (h:jb n0 b x m):∀p∈m,bJ p.2=false:=by
  obtain ⟨hq,ad,n,cap,ms,rfl,hn,hs,hb⟩:=h;intro p hp;rcases List.mem_cons.1 hp with rfl|hp
  ·rfl
  ·exact hs.bJ p hp
theorem jb.mono {n0 n1 b:Nat} {x:Qm} {m:ab} (h:jb n0 b x m) (hn:n1<=n0):jb n1 b x m:=by
  obtain ⟨hq,ad,n,cap,ms,rfl,QW,hs,hb⟩:=h;exact⟨hq,ad,n,cap,ms,rfl,QW,hs.mono hn,Nat.le_trans hn hb⟩
def RfN (g:Int) (n0:Nat) (v:Value) (m:ab):Prop:=∃b,v= .pointer (some ⟨b,0,none⟩)/\jb n0 b (xY g) m
theorem RfN.mono {g:Int} :∀(n n':Nat) (v:Value) (m:ab),n'<=n->RfN g n v m->RfN g n' v m:=fun n n' v m hn ⟨b,h1,h⟩=>⟨b,h1,h.mono hn⟩
theorem c5 {b n' mD:Nat} {BP:Option Addr} {x':Qm} {g cur cY:Int} {fl:BitVec 64} {ms Ri M:ab} {u0:Value} {w w':World} (hq:nJ x') (QW:n'=x'.l.length) (YU:Sl yN 134 3 n0 x'.l (.slice BP n' mD) Ri) (hb:n0<=b) (hm:Mem w' M)
    (hs:aJ M (ea b x'.g x'.fl BP n' mD x'.cur x'.cY::(Ri++ []))) (hc:cG (gU (ea b g fl ad n cap cur cY::ms)) w w') (eK:df ms w.heap.size Ri):
    fq (ea b g fl ad n cap cur cY::ms) (fun u m'=>u=u0/\jb n0 b x' m') w u0 w':=by
  rw [List.append_nil] at hs;refine ⟨hc,_,⟨rfl,hq,BP,n',mD,Ri,rfl,QW,YU,hb⟩,hs.mem w' hm,fun p hp=>?_⟩;rcases List.mem_cons.1 hp with rfl|hp
  ·exact .inr ⟨_,List.mem_cons_self ..,rfl⟩
  · rcases eK p hp with q|⟨q,hq,e⟩
    ·exact .inl q
    ·exact .inr ⟨q,List.mem_cons_of_mem _ hq,e⟩
def Xj (l:List Kv) (a:Int):Int:=if eC l a<l.length then (eC l a:Nat) else-1
theorem jM {l:List Kv} (h:eC l a<l.length):Xj l a=(eC l a:Nat):=if_pos h
theorem GW {l:List Kv} (h:¬eC l a<l.length):Xj l a= -1:=if_neg h
theorem SO {l:List Kv} (h:∀t∈l.take i,t.id≠a) (hi:i<l.length) (he:(l.getD i default).id=a):eC l a=i:=by
  have e1:l=l.take i++l.drop i:=(List.take_append_drop i l).symm;have hn:¬eC (l.take i) a<(l.take i).length:=fun q=>by obtain ⟨t,ht,e⟩:=jx.1 q;exact h t ht e
  have hd:l.drop i=l.getD i default::l.drop (i+1):=by
    rw [List.drop_eq_getElem_cons hi];congr 1;rw [List.getD_eq_getElem?_getD,List.getElem?_eq_getElem hi];rfl
  rw [e1,Su hn,hd,o9,if_pos he,List.length_take];omega
theorem SN {l:List Kv} (h:∀t∈l,t.id≠a):¬eC l a<l.length:=fun q=>by obtain ⟨t,ht,e⟩:=jx.1 q;exact h t ht e
def iF (x:Qm) (i:Nat):List Kv:=wN ((x.l.take i).filter (fun t=>decide (t.id≠x.cur)))
theorem IJ (hi:i<x.l.length) (h:(x.l.getD i default).id=x.cur):iF x (i+1)=iF x i:=by
  unfold iF
  rw [bQ default hi,List.filter_append,List.filter_cons_of_neg (by simp only [decide_eq_true_eq];exact fun q=>q h),List.filter_nil,List.append_nil]
theorem Lu (hi:i<x.l.length) (h:¬(x.l.getD i default).id=x.cur):iF x (i+1)=qm (iF x i) (x.l.getD i default):=by
  unfold iF wN
  rw [bQ default hi,List.filter_append,List.filter_cons_of_pos (by simpa using h),List.filter_nil,List.foldl_append];rfl
theorem JX (h:nJ x) (i:Nat):Lw (iF x i)/\∀t,t∈iF x i->t∈x.l.take i:=by
  have hn:((x.l.take i).map (·.id)).Nodup:=List.Sublist.nodup (List.Sublist.map _ (List.take_sublist ..)) h.nd;have:=pQ _ [] List.Pairwise.nil (q6 (p:=fun t=>decide (t.id≠x.cur)) hn) (fun x hx=>by cases hx);refine ⟨this.1,fun t ht=>?_⟩;have:=(this.2 t).1 ht;simp only [List.not_mem_nil,false_or] at this;exact(List.mem_filter.1 this).1
theorem Me (h:nJ x) (i:Nat):(iF x i).length<=i:=by
  have hq:iF x i=eN {x with l:=x.l.take i} :=rfl;rw [hq];refine Nat.le_trans (Hn (List.Sublist.nodup (List.Sublist.map _ (List.take_sublist ..)) h.nd)) ?_
  show (x.l.take i).length<=i
  rw [List.length_take];omega
theorem Mk (x:Qm):iF x x.l.length=eN x:=by unfold iF eN;rw [List.take_length]
theorem mQ {l:List Kv} (h:(l.map (·.id)).Nodup) (hi:i<l.length):∀t∈l.take i,t.id≠(l.getD i default).id:=fun t ht e=>by
  obtain ⟨j,hj,rfl⟩:=List.getElem_of_mem ht;rw [List.length_take] at hj;rw [List.getElem_take] at e;rw [List.getD_eq_getElem?_getD,List.getElem?_eq_getElem hi] at e;have h1:=List.pairwise_iff_getElem.1 h j i (by rw [List.length_map];omega) (by rw [List.length_map];exact hi) om;rw [List.getElem_map,List.getElem_map] at h1;exact h1 e
theorem Bc {L:List Kv} {e:Kv} (hs:Lw L) (ec:∀t∈L,t.id≠e.id) (hk:k<=L.length) (h1:∀j,j<k->qp (L.getD j default) e) (h2:k<L.length->¬qp (L.getD k default) e):qm L e=L.take k++e::L.drop k:=by
  have h3:=Gp (lo:=L.take k) (hi:=L.drop k) (k:=e) (fun t ht=>?_) (fun t ht=>?_)
  ·rw [List.take_append_drop] at h3;exact h3
  · obtain ⟨j,hj,rfl⟩:=List.getElem_of_mem ht
    rw [List.length_take] at hj;have:=h1 j om;rw [List.getD_eq_getElem?_getD,List.getElem?_eq_getElem (by omega:j<L.length)] at this;rw [List.getElem_take];exact this
  · have JD:k<L.length:=by have:=List.length_pos_of_mem ht;rw [List.length_drop] at this;omega
    have hd:L.drop k=L.getD k default::L.drop (k+1):=by
      rw [List.drop_eq_getElem_cons JD];congr 1;rw [List.getD_eq_getElem?_getD,List.getElem?_eq_getElem JD];rfl
    have VZ:L.getD k default∈L:=(List.drop_sublist k L).subset (by rw [hd];exact List.mem_cons_self ..)
    have bo:qp e (L.getD k default):=by
      rcases TZ e (L.getD k default) with q|q|q
      ·exact absurd q.2.symm (ec _ VZ)
      ·exact q
      ·exact absurd q (h2 JD)
    rw [hd] at ht;rcases List.mem_cons.1 ht with rfl|ht
    ·exact bo
    · have hsd:Lw (L.drop k):=List.Pairwise.sublist (List.drop_sublist k L) hs
      rw [hd] at hsd;exact bo.trans ((List.pairwise_cons.1 hsd).1 t ht)
theorem Gk (g:Int) (w:World):aD Tryz.prog 49 #[.int .i64 g] w (fun v w'=>Ext w w'/\∃m,RfN g w.heap.size v m/\Mem w' m/\∀p∈m,w.heap.size<=p.1):=by
 refine aD.ak Tryz.func49 rfl Tryz.ntmps49 rfl ([]) (no) (Mem.nil w) ?_;refine J8 ?_;refine cE Tryz.func48 rfl (fun w hm hc hg=>bM _ 1 8 w) ?_;refine LM.val (aE (cs:=#[_,_,_,_,_]) rfl (by first|rfl|kernel_rfl)) ?_;refine LM.box rfl rfl (fun b6 Qo=>?_);refine J4 ?_;refine qL Tryz.results49 rfl fun w' ao aa aA=>?_;exact⟨aa,_,⟨b6,rfl,MZ g,none,0,0,[],rfl,rfl,.nil _ _ _ _,Qo⟩,(aJ.mem (by(repeat' (first|exact aJ.all _|refine aJ.cons rfl ?_|exact aJ.nil _)))) w' ao,fun p hp=>by simp only [List.mem_cons,List.not_mem_nil,or_false] at hp;subst hp;exact Qo⟩
theorem gG {b:Nat} {m:ab} (a:Int) (w:World) (h:jb n0 b x m) (hM:Mem w m):aD Tryz.prog 103 #[.pointer (some ⟨b,0,none⟩),.int .i64 a] w (fun u w'=>u= .int .i64 (Xj x.l a)/\Ext w w'):=by
 obtain ⟨hq,ad,n,cap,ms,rfl,hn,hs,hb⟩:=h;have hlen:=hq.len;have h0:jb n0 b x (ea b x.g x.fl ad n cap x.cur x.cY::ms):=⟨hq,ad,n,cap,ms,rfl,hn,hs,hb⟩
 refine aD.ak Tryz.func103 rfl Tryz.ntmps103 rfl (ea b x.g x.fl ad n cap x.cur x.cY::(ms++ [])) (no) aM ?_;refine cM ?_;refine af.aO (α:=Nat) (fun i=>[(5,.int .i64 (i:Nat))]) [(0,_),(1,_)] (fun i=>ea b x.g x.fl ad n cap x.cur x.cY::(ms++ [])) (fun i=>i<=x.l.length/\∀t∈x.l.take i,t.id≠a) (fun i=>x.l.length-i) (0) cA aX ⟨Nat.zero_le _,fun t ht=>by cases ht⟩ ?_;rintro i ⟨hi,K3⟩;change af _ _ _ _ _ _ _ (ea b x.g x.fl ad n cap x.cur x.cY::(ms++ [])) _ _ _;refine cM ?_;refine af.aj rfl (fun h1=>?_) (fun h1=>?_)
 ·refine gz ?_;refine LM.rd (aL (j:=0) aC ir Tryz.isAgg3 rfl rfl c7 rfl (by rfl)) ?_;refine J4 ?_;refine af.aj rfl (fun h2=>?_) (fun h2=>?_)
  ·refine cM ?_;refine qL Tryz.results103 rfl fun w' ao aa aA=>?_;have gE:=SO K3 om h2;refine ⟨?_,aa⟩;rw [jM om,gE];rfl
  refine J8 ?_;refine aK (i+1) ?_ ?_
  ·exact⟨by omega,fun t ht=>by rw [bQ default om,List.mem_append,List.mem_singleton] at ht;rcases ht with ht|rfl;exact K3 t ht;exact h2⟩
  ·omega
 refine dc ?_;refine qL Tryz.results103 rfl fun w' ao aa aA=>?_;have eA:i=x.l.length:=om;subst eA;rw [List.take_length] at K3;refine ⟨?_,aa⟩;rw [GW (SN K3)];rfl
theorem mN {b:Nat} {g cur cY:Int} {fl:BitVec 64} (v:BitVec 64) (wt:Int) (w:World) (hM:Mem w [ea b g fl ad n cap cur cY]):aD Tryz.prog 120 #[.pointer (some ⟨b,0,none⟩),U v,.int .i64 wt] w (fun u w'=>u=U (fu v fl (Fz wt g))/\Ext w w'):=by
 refine aD.ak Tryz.func120 rfl Tryz.ntmps120 rfl (ea b g fl ad n cap cur cY:: []) (no) hM ?_;refine J6 ?_;refine af.draw [(0,0),(1,0),(2,0),(3,0),(4,1),(5,0),(6,0),(7,0),(8,0),(9,1),(10,2),(11,2),(12,0)] kr kr ?_;refine cF ?_;refine dE rfl rfl Tryz.func156 rfl (fun w hm hc hg=>DF _ _ w) ?_;refine dE rfl rfl Tryz.func123 rfl (fun w hm hc hg=>oR _ _ _ w) ?_;refine J4 ?_;refine qL Tryz.results120 rfl fun w' ao aa aA=>?_;exact⟨rfl,aa⟩
theorem eJ {b:Nat} {m:ab} (w:World) (h:jb n0 b x m) (hM:Mem w m):aD Tryz.prog 61 #[.pointer (some ⟨b,0,none⟩)] w (fun u w'=>u= .int .i64 (eI x.l)/\Ext w w'):=by
 obtain ⟨hq,ad,n,cap,ms,rfl,hn,hs,hb⟩:=h;have hlen:=hq.len;have h0:jb n0 b x (ea b x.g x.fl ad n cap x.cur x.cY::ms):=⟨hq,ad,n,cap,ms,rfl,hn,hs,hb⟩;have Ta:=hq.load;refine aD.ak Tryz.func61 rfl Tryz.ntmps61 rfl (ea b x.g x.fl ad n cap x.cur x.cY::(ms++ [])) (no) aM ?_;refine yA ?_;refine af.aO (α:=Nat) (fun i=>[(3,.int .i64 (eI (x.l.take i))),(4,.int .i64 (i:Nat))]) [(0,_)] (fun i=>ea b x.g x.fl ad n cap x.cur x.cY::(ms++ [])) (fun i=>i<=x.l.length) (fun i=>x.l.length-i) (0) ⟨(by first|rfl|exact lk rfl (by rw [bQ default om,CR];congr 1;show eI _+_=_;simp [eI])),l5,rfl,trivial⟩ aX (Nat.zero_le _) ?_;rintro i hi;change af _ _ _ _ _ _ _ (ea b x.g x.fl ad n cap x.cur x.cY::(ms++ [])) _ _ _;have Qs:=AW (l:=x.l.take i) (fun t ht=>hq.wt t (List.mem_of_mem_take ht));rw [List.length_take] at Qs;refine cM ?_;refine af.aj rfl (fun h1=>?_) (fun h1=>?_)
 ·have hwt:=hq.wt (x.l.getD i default) (by rw [List.getD_eq_getElem?_getD,List.getElem?_eq_getElem (by omega:i<x.l.length)];exact List.getElem_mem _);refine gz ?_;refine LM.rd (aL (j:=2) aC ir Tryz.isAgg3 rfl rfl c7 rfl (by rfl)) ?_;refine cF ?_;refine QM.dk (i+1) ⟨(by first|rfl|exact lk rfl (by rw [bQ default om,CR];congr 1;show eI _+_=_;simp [eI])),l5,rfl,trivial⟩ aX (fun _ h=>h) ?_ ?_
  ·omega
  ·omega
 refine cM ?_;refine qL Tryz.results61 rfl fun w' ao aa aA=>?_;have eA:i=x.l.length:=om;subst eA;refine ⟨?_,aa⟩;show Value.int .i64 (eI (x.l.take x.l.length))=_;rw [List.take_length]
theorem mA {b:Nat} {m:ab} (w:World) (h:jb n0 b x m) (hM:Mem w m):aD Tryz.prog 62 #[.pointer (some ⟨b,0,none⟩)] w (New yN 134 3 (eN x) w):=by
 obtain ⟨hq,ad,n,cap,ms,rfl,hn,hs,hb⟩:=h;have hlen:=hq.len;have h0:jb n0 b x (ea b x.g x.fl ad n cap x.cur x.cY::ms):=⟨hq,ad,n,cap,ms,rfl,hn,hs,hb⟩
 refine aD.ak Tryz.func62 rfl Tryz.ntmps62 rfl (ea b x.g x.fl ad n cap x.cur x.cY::(ms++ [])) (no) aM ?_;refine yA ?_;refine af.aO (α:=Nat×Option Addr×Nat×Nat×ab) (fun ⟨i,eu,no,bP,mo⟩=>[(3,.slice eu no bP),(4,.int .i64 (i:Nat))]) [(0,_)] (fun ⟨i,eu,no,bP,mo⟩=>ea b x.g x.fl ad n cap x.cur x.cY::(ms++(mo++ []))) (fun ⟨i,eu,no,bP,mo⟩=>i<=x.l.length/\no=(iF x i).length/\Sl yN 134 3 w.heap.size (iF x i) (.slice eu no bP) mo) (fun ⟨i,eu,no,bP,mo⟩=>x.l.length-i) ((0,none,0,0,[])) cA aX ⟨by omega,rfl,.nil _ _ _ _⟩ ?_;rintro ⟨i,eu,no,bP,mo⟩ ⟨hi,gK,kH⟩;change af _ _ _ _ _ _ _ (ea b x.g x.fl ad n cap x.cur x.cY::(ms++(mo++ []))) _ _ _;have hrl:=Me hq i;have Y4:=JX hq i;refine cM ?_;refine af.aj rfl (fun h1=>?_) (fun h1=>?_)
 ·refine cM ?_;refine LM.rd (tP aC ir Tryz.isAgg134 Tryz.sizeOf134 rfl c7) ?_;refine LM.alloc Tryz.zeroValue134 rfl (fun b5 BV=>?_);refine LM.c6 Tryz.sizeOf134 rfl rfl rfl rfl cZ (fun bo=>by first|exact eS|exact absurd bo om) ?_;refine J4 ?_;refine af.draw [(0,0),(1,1),(2,0),(3,0),(4,0),(5,1),(6,0)] kr kr ?_;refine J9 ?_;refine af.aj rfl (fun h2=>?_) (fun h2=>?_)
  ·refine J9 ?_;refine aK (i+1,eu,no,bP,mo) ?_ ?_
   ·dsimp only;rw [IJ om h2];exact⟨by omega,gK,kH⟩
   ·(dsimp only;omega)
  refine J8 ?_;refine af.bB (α:=Nat) (fun k=>[(6,.int .i64 (k:Nat))]) [(0,_),(3,_),(4,_),(5,_)] (fun k=>(b5,.cells (yN (x.l.getD i default)).toArray 134 (0,0))::ea b x.g x.fl ad n cap x.cur x.cY::(ms++(mo++ []))) (fun k=>k<=(iF x i).length/\qm (iF x i) (x.l.getD i default)=(iF x i).take k++x.l.getD i default::(iF x i).drop k) cA ?_ ?_
  ·refine J1 ?_;refine af.aO (α:=Nat) (fun k=>[(6,.int .i64 (k:Nat))]) [(0,_),(3,_),(4,_),(5,_)] (fun k=>(b5,.cells (yN (x.l.getD i default)).toArray 134 (0,0))::ea b x.g x.fl ad n cap x.cur x.cY::(ms++(mo++ []))) (fun k=>k<=(iF x i).length/\∀j,j<k->qp ((iF x i).getD j default) (x.l.getD i default)) (fun k=>(iF x i).length-k) (0) cA aX ⟨Nat.zero_le _,fun j hj=>by omega⟩ ?_;rintro k ⟨hk,bo⟩;change af _ _ _ _ _ _ _ ((b5,.cells (yN (x.l.getD i default)).toArray 134 (0,0))::ea b x.g x.fl ad n cap x.cur x.cY::(ms++(mo++ []))) _ _ _;refine J2 ?_;refine af.draw [(0,0),(1,0),(2,0),(3,0),(4,0),(5,0),(6,0),(7,0),(8,0),(9,1),(10,0),(11,1),(12,0),(13,0),(14,0),(15,0),(16,0),(17,0),(18,1),(19,0),(20,1),(21,0),(22,0),(23,0),(24,0),(25,0),(26,0),(27,1),(28,0),(29,1),(30,0),(31,0),(32,0),(33,0)] kr kr ?_;refine J5 ?_;refine LD.aw (t:=35) rfl (fun h3=>?_) (fun h3=>?_)
   ·refine J4 ?_;refine LD.rd rfl ⟨35,_,rfl,rfl,rfl⟩ (aL (j:=1) aC ir Tryz.isAgg41 rfl rfl c7 rfl (by rfl)) ?_;refine J2 ?_;refine LD.val rfl ⟨35,_,rfl,rfl,rfl⟩ (nn rfl rfl) ?_;refine J1 ?_;refine LD.aw (t:=44) rfl (fun h4=>?_) (fun h4=>?_)
    ·refine J8 ?_;refine LD.dL rfl rfl ⟨44,_,rfl,rfl,rfl⟩ ?_;refine Zp ?_;refine aK (k+1) ?_ ?_
     ·exact⟨by omega,fun j hj=>by rcases Nat.lt_or_ge j k with q|q;exact bo j q;rw [show j=k by omega];first|exact .inl aC|exact .inr ⟨by assumption,by assumption⟩⟩
     ·omega
    refine J4 ?_;refine LD.rd rfl ⟨44,_,rfl,rfl,rfl⟩ (aL (j:=1) aC ir Tryz.isAgg41 rfl rfl c7 rfl (by rfl)) ?_;refine J2 ?_;refine LD.val rfl ⟨44,_,rfl,rfl,rfl⟩ (kL rfl rfl) ?_;refine J1 ?_;refine LD.aw (t:=53) rfl (fun h5=>?_) (fun h5=>?_)
    ·refine J4 ?_;refine LD.rd rfl ⟨53,_,rfl,rfl,rfl⟩ (aL (j:=0) aC ir Tryz.isAgg3 rfl rfl c7 rfl (by rfl)) ?_;refine J8 ?_;refine af.aj rfl (fun h6=>?_) (fun h6=>?_)
     ·refine J9 ?_;refine aK (k+1) ?_ ?_
      ·exact⟨by omega,fun j hj=>by rcases Nat.lt_or_ge j k with q|q;exact bo j q;rw [show j=k by omega];first|exact .inl aC|exact .inr ⟨by assumption,by assumption⟩⟩
      ·omega
     refine J4 ?_;refine mK (k) ?_
     ·exact⟨hk,Bc Y4.1 (fun t ht=>mQ hq.nd om t (Y4.2 t ht)) hk bo (fun q=>by first|omega|(rintro (z|⟨z1,z2⟩);omega;first|omega|exact absurd z1 aC))⟩
    refine En ?_;refine mK (k) ?_
    ·exact⟨hk,Bc Y4.1 (fun t ht=>mQ hq.nd om t (Y4.2 t ht)) hk bo (fun q=>by first|omega|(rintro (z|⟨z1,z2⟩);omega;first|omega|exact absurd z1 aC))⟩
   refine J8 ?_;refine LD.dL rfl rfl ⟨35,_,rfl,rfl,rfl⟩ ?_;refine J27 ?_;refine mK (k) ?_
   ·exact⟨hk,Bc Y4.1 (fun t ht=>mQ hq.nd om t (Y4.2 t ht)) hk bo (fun q=>by first|omega|(rintro (z|⟨z1,z2⟩);omega;first|omega|exact absurd z1 aC))⟩
  rintro k ⟨hk,ahG⟩;change QM _ _ _ _ _ ((b5,.cells (yN (x.l.getD i default)).toArray 134 (0,0))::ea b x.g x.fl ad n cap x.cur x.cY::(ms++(mo++ []))) _ _ _;refine J3 ?_;refine LM.Ot Tryz.underlying126 Tryz.sizeOf134 rfl (fun b67 ah1=>?_);have adH:Sl yN 134 3 w.heap.size ([] :List Kv) (.slice (some ⟨b67,0,none⟩) 0 0) [(b67,.cells (([] :List Value).toArray) 134 (0,0))] := .void ah1 (Nat.zero_le _) rfl;refine J2 ?_;refine LM.val (jU Tryz.underlying126 Tryz.sizeOf134 rfl rfl om (by have:=kH.len;omega)) ?_;refine LM.tU (ys:=(iF x i).take k) (m:=[(b67,.cells (([] :List Value).toArray) 134 (0,0))]) Tryz.underlying126 Tryz.typeInfo134 rfl rfl rfl rfl rfl rfl rfl adH (fun w hm hc hg=>(by have hz:=(kH.l7 ir hm).take (k:=k) hk;exact hz)) ir (by intro _ u hu;simp [yN] at hu;(repeat (first|(rcases hu with rfl|hu)|subst hu|rfl))) (Nat.le_refl _) (fun p hp bo=>absurd bo (Nat.not_lt_of_le (Sl.ge adH p hp))) (by unfold maxLen;simp only [List.length_nil,List.length_take,List.length_drop,List.length_append,List.length_cons];omega) (by simp only [Tryz.t134,List.length_nil,List.length_take,List.length_drop,List.length_append,List.length_cons];omega) (fun anN n71 ajV m71 aoY aml alX=>?_);refine J5 ?_;have hlz:(([] :List Kv)++(iF x i).take k).length<=16:=(by simp only [List.nil_append,List.length_take];omega)
  refine J1 ?_;refine LM.rd (aR Tryz.isAgg134 Tryz.sizeOf134 rfl rfl) ?_;refine LM.single Tryz.underlying126 Tryz.sizeOf134 Tryz.zeroValue134 rfl rfl rfl rfl rfl (fun b74 anw=>?_);refine LM.app (a:=x.l.getD i default) Tryz.underlying126 Tryz.typeInfo134 rfl rfl rfl rfl rfl rfl rfl aC (by rfl) ir (by intro _ u hu;simp [yN] at hu;(repeat (first|(rcases hu with rfl|hu)|subst hu|rfl))) (by first|exact Nat.le_refl _|omega) (fun p hp bo=>by first|exact⟨p,List.mem_cons_of_mem _ hp,rfl⟩|exact absurd bo (Nat.not_lt_of_le (Sl.ge aC p hp))) (by first|omega|(unfold maxLen;omega)) (by simp only [Tryz.t134];omega) (fun aoD n75 ajN m75 apy abn ajX=>?_);refine J7 ?_;refine LM.val (jV k Tryz.underlying126 Tryz.sizeOf134 rfl rfl rfl om) ?_;refine LM.tU (ys:=(iF x i).drop k) (m:=m75) Tryz.underlying126 Tryz.typeInfo134 rfl rfl rfl rfl rfl rfl rfl abn (fun w hm hc hg=>((kH.l7 ir hm).drop (l:=k) om)) ir (by intro _ u hu;simp [yN] at hu;(repeat (first|(rcases hu with rfl|hu)|subst hu|rfl))) (Nat.le_refl _) (fun p hp bo=>absurd bo (Nat.not_lt_of_le (Sl.ge abn p hp))) (by unfold maxLen;simp only [List.length_nil,List.length_take,List.length_drop,List.length_append,List.length_cons];omega) (by simp only [Tryz.t134,List.length_nil,List.length_take,List.length_drop,List.length_append,List.length_cons];omega) (fun ail n80 acv m80 agY agw Ut=>?_);refine J9 ?_;refine aK (i+1,ail,n80,acv,m80) ?_ ?_
  ·dsimp only;rw [Lu om h2,ahG];exact⟨by omega,by rw [agY];simp only [List.length_append,List.length_take,List.length_drop,List.length_cons,List.length_nil];omega,by rw [show (iF x i).take k++x.l.getD i default::(iF x i).drop k=[] ++(iF x i).take k++ [x.l.getD i default] ++(iF x i).drop k by simp];exact agw⟩
  ·(dsimp only;omega)
 refine cM ?_;refine qL Tryz.results62 rfl fun w' ao aa aA=>?_;have eA:i=x.l.length:=om;subst eA;rw [Mk] at kH;exact⟨aa,mo,kH,ao.pick mo⟩
end Go.Eng
