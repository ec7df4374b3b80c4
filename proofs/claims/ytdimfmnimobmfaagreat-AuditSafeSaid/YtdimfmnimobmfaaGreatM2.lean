/- The calculus, twelfth part: regions that draw, in which only a part of the memory is read early or late; all else stands alone. No condition. -/
import Derived.Test.YtdimfmnimobmfaaGreatM1
import Derived.ProofKit
import Derived.OpenShut
import Derived.ShutString
import Derived.ChangeOld
import Derived.Below
import Derived.DataElems
import Derived.Lib.Strings
import Derived.Laws.IdiomStrings
import Derived.Lib.OthersKept
import Derived.Lib.FrozenHead
import Derived.Lib.UnsafeStr
import Derived.Lib.AppendStr
import Derived.Lib.AppendIntMem
import Derived.Lib.AppendZeros
import Derived.Lib.SliceRun
import Derived.Test.YtdimfmnimobmfaaGreatRows
set_option linter.unusedVariables false
set_option linter.unusedSimpArgs false
set_option maxRecDepth 100000
set_option maxHeartbeats 4000000
namespace Go.Eng
open Go Go.RowKit
inductive OT where
  |nil:OT
  |one:Nat→Nat→OT→OT
  |fork:Nat→OT→Nat→OT→OT
  |UW:Nat→OT→Nat→OT→Nat→OT→OT
  |last:Nat→OT
def OT.size:OT→Nat
  | .nil=>0
  | .one _ _ t=>t.size+1
  | .fork _ t _ _=>t.size+1
  | .UW _ t _ _ _ _=>t.size+1
  | .last _=>1
section
variable {P:Program} {r:Option Nat} {ops:Array Oper}
def tv (P:Program) (r:Option Nat) (ops:Array Oper) (Q:Exit→Act→World→Prop) (D:World→Prop):(World→Prop)→OT→Act→Prop
  |C,.nil,a=>∀w,C w→Q .normal a w
  |C,.last i,a=>∀w,C w→wpOpIn (Wd r) 0 P ops (Qn Q) i (Q .normal) a w
  |C,.fork i t j s,a=>(∀w,C w→wpOpIn (Wd r) 0 P ops (Qn Q) i (fun a' w'=>∃C':World→Prop,(∀w,C' w→D w)∧C' w'∧tv P r ops Q D C' t a') a w)∧
      ∀w,C w→wpOpIn (Wd r) 0 P ops (Qn Q) j (fun a' w'=>∃C':World→Prop,(∀w,C' w→D w)∧C' w'∧tv P r ops Q D C' s a') a w
  |C,.UW i t j s k u,a=>(∀w,C w→wpOpIn (Wd r) 0 P ops (Qn Q) i (fun a' w'=>∃C':World→Prop,(∀w,C' w→D w)∧C' w'∧tv P r ops Q D C' t a') a w)∧
      (∀w,C w→wpOpIn (Wd r) 0 P ops (Qn Q) j (fun a' w'=>∃C':World→Prop,(∀w,C' w→D w)∧C' w'∧tv P r ops Q D C' s a') a w)∧
      ∀w,C w→wpOpIn (Wd r) 0 P ops (Qn Q) k (fun a' w'=>∃C':World→Prop,(∀w,C' w→D w)∧C' w'∧tv P r ops Q D C' u a') a w
  |C,.one i k l,a=>
    match ops[i]? with
    |none=>False
    |some o=>
      match k with
      |0=>∃v,YA P ops (fun _=>True) o v a∧tv P r ops Q D C l (a.put o.dst v)
      |1=>∃v,YA P ops D o v a∧tv P r ops Q D C l (a.put o.dst v)
      |_=>∀w,C w→wpOpIn (Wd r) 0 P ops (Qn Q) i (fun a' w'=>∃C':World→Prop,(∀w,C' w→D w)∧C' w'∧tv P r ops Q D C' l a') a w
def pP (ops:Array Oper) (z:Nat):OT→Array Bool→Bool
  | .nil,aw=>Region.ready .any ops aw== []
  | .last i,aw=>Region.ready .any ops aw== [i] &&(i==z)&&decide (i<aw.size)&&Region.ready .any ops (aw.setIfInBounds i true)== []
  | .fork i t j s,aw=>Region.ready .any ops aw== [i,j] &&t.size==s.size&&(i != z)&&(j != z)&&pP ops z t (aw.setIfInBounds i true)&&pP ops z s (aw.setIfInBounds j true)
  | .UW i t j s k u,aw=>Region.ready .any ops aw== [i,j,k] &&t.size==s.size&&t.size==u.size&&(i != z)&&(j != z)&&(k != z)&&pP ops z t (aw.setIfInBounds i true)&&pP ops z s (aw.setIfInBounds j true)&&pP ops z u (aw.setIfInBounds k true)
  | .one i k l,aw=>
    (match k with
      |0=>Region.free .any ops aw i&&(Region.ready .any ops aw).contains i
      |1=>Region.free .any ops aw i&&(Region.ready .any ops aw).contains i&&(decide (ops.size≤z)||o8 ops 40 z i)
      |_=>Region.ready .any ops aw== [i])&&(i != z)&&
    pP ops z l (aw.setIfInBounds i true)
def QL (z:Nat):Nat→Bool:=fun q=>q==z
theorem eU {Q:Exit→Act→World→Prop} {D:World→Prop} {z:Nat} (lM:Region.noSelect ops=true) (dt:tM ops=true):
    ∀(l:OT) (C:World→Prop) (aw:Array Bool) (a:Act) (w:World),pP ops z l aw=true→iB ops aw→aw.getD z false=false→(∀w,C w→D w)→C w→tv P r ops Q D C l a→WS P r ops Q D (QL z) l.size aw a w
  | .nil,C,aw,a,w,hc,_,_,CE,hC,h=>by
    simp only [pP,beq_iff_eq] at hc;exact⟨fun _=>CE w hC,hc,h w hC⟩
  | .last i,C,aw,a,w,hc,ks,hz,CE,hC,h=>by
    simp only [pP,Bool.and_eq_true,beq_iff_eq,decide_eq_true_eq] at hc;obtain ⟨⟨⟨hr,rfl⟩,bB⟩,hr2⟩:=hc;simp only [tv] at h;refine ⟨fun _=>CE w hC,fun h0=>(by rw [hr] at h0;cases h0),fun q hq=>?_⟩;rw [hr] at hq;obtain rfl:q=i:=by simpa using hq
    exact wpOpIn_mono (fun a' w' G3=>⟨fun ht=>absurd (ht q (by simp [QL])) (by simp [bB]),hr2,G3⟩) (h w hC)
  | .fork i t j s,C,aw,a,w,hc,ks,hz,CE,hC,h=>by
    simp only [pP,Bool.and_eq_true,beq_iff_eq,bne_iff_ne] at hc;obtain ⟨⟨⟨⟨⟨hr,Mu⟩,Iv⟩,hjz⟩,hct⟩,wx⟩:=hc;simp only [tv] at h;refine ⟨fun _=>CE w hC,fun h0=>(by rw [hr] at h0;cases h0),fun q hq=>?_⟩;have G3:=hq;rw [hr] at G3;simp only [List.mem_cons,List.not_mem_nil,or_false] at G3;rcases G3 with rfl|rfl
    · exact wpOpIn_mono (fun a' w' ⟨C',kY,zW,hl⟩=>eU lM dt t C' _ a' w' hct (ks.set hq) (cz (Ne.symm Iv) hz) kY zW hl) (h.1 w hC)
    · exact wpOpIn_mono (fun a' w' ⟨C',kY,zW,hl⟩=>by have:=eU lM dt s C' _ a' w' wx (ks.set hq) (cz (Ne.symm hjz) hz) kY zW hl;rw [←Mu] at this;exact this) (h.2 w hC)
  | .UW i t j s k u,C,aw,a,w,hc,ks,hz,CE,hC,h=>by
    simp only [pP,Bool.and_eq_true,beq_iff_eq,bne_iff_ne] at hc;obtain ⟨⟨⟨⟨⟨⟨⟨⟨hr,Mu⟩,aeH⟩,Iv⟩,hjz⟩,hkz⟩,hct⟩,wx⟩,qG⟩:=hc;simp only [tv] at h;refine ⟨fun _=>CE w hC,fun h0=>(by rw [hr] at h0;cases h0),fun q hq=>?_⟩;have G3:=hq;rw [hr] at G3;simp only [List.mem_cons,List.not_mem_nil,or_false] at G3;rcases G3 with rfl|rfl|rfl
    · exact wpOpIn_mono (fun a' w' ⟨C',kY,zW,hl⟩=>eU lM dt t C' _ a' w' hct (ks.set hq) (cz (Ne.symm Iv) hz) kY zW hl) (h.1 w hC)
    · exact wpOpIn_mono (fun a' w' ⟨C',kY,zW,hl⟩=>by have:=eU lM dt s C' _ a' w' wx (ks.set hq) (cz (Ne.symm hjz) hz) kY zW hl;rw [←Mu] at this;exact this) (h.2.1 w hC)
    · exact wpOpIn_mono (fun a' w' ⟨C',kY,zW,hl⟩=>by have:=eU lM dt u C' _ a' w' qG (ks.set hq) (cz (Ne.symm hkz) hz) kY zW hl;rw [←aeH] at this;exact this) (h.2.2 w hC)
  | .one i k l,C,aw,a,w,hc,ks,hz,CE,hC,h=>by
    simp only [tv] at h;cases ho:ops[i]? with
    |none=>rw [ho] at h;exact h.elim
    |some o=>
      rw [ho] at h;simp only at h;have IT:∀(j:Nat) (o:Oper),ops[j]? =some o→nd o.op=true:=fun j o hj=>(Array.all_eq_true_iff_forall_mem.1 dt) o (Array.mem_of_getElem? hj);have OY:∀q,QL z q=true→aw.getD q false=false:=fun q hq=>by unfold QL at hq;rw [beq_iff_eq] at hq;subst hq;exact hz
      have HN:i≠z→QL z i=false:=fun h=>beq_eq_false_iff_ne.2 h
      match k,h,hc with
      |0,⟨v,hy,hl⟩,hc=>
        simp only [pP,Bool.and_eq_true,bne_iff_ne] at hc;obtain ⟨⟨⟨hf,hr⟩,Iv⟩,hc⟩:=hc
        exact WS.first (tl:=QL z) ho (HN Iv) (Region.noSelect_spec lM) IT (D:=fun _=>True) (.inl fun _=>trivial) l.size aw a w ks (CE w hC) OY (Region.free_spec ho hf) (by simpa using hr) hy
          (eU lM dt l C _ _ w hc (ks.set (by simpa using hr)) (cz (Ne.symm Iv) hz) CE hC hl)
      |1,⟨v,hy,hl⟩,hc=>
        simp only [pP,Bool.and_eq_true,bne_iff_ne,Bool.or_eq_true,decide_eq_true_eq] at hc;obtain ⟨⟨⟨⟨hf,hr⟩,Tz⟩,Iv⟩,hc⟩:=hc
        exact WS.first (tl:=QL z) ho (HN Iv) (Region.noSelect_spec lM) IT (D:=D) (.inr ⟨fun _ h=>h,fun j oj hj VD=>by
            unfold QL at VD;rw [beq_iff_eq] at VD;subst VD
            rcases Tz with hd|hd
            · have:=(Array.getElem?_eq_some_iff.1 hj).1;omega
            · exact .inr hd⟩) l.size aw a w ks (CE w hC) OY (Region.free_spec ho hf) (by simpa using hr) hy
          (eU lM dt l C _ _ w hc (ks.set (by simpa using hr)) (cz (Ne.symm Iv) hz) CE hC hl)
      |k+2,h,hc=>
        simp only [pP,Bool.and_eq_true,beq_iff_eq,bne_iff_ne] at hc;obtain ⟨⟨hr,Iv⟩,hc⟩:=hc;refine ⟨fun _=>CE w hC,fun h0=>(by rw [hr] at h0;cases h0),fun j hj=>?_⟩;rw [hr] at hj;obtain rfl:j=i:=by simpa using hj
        exact wpOpIn_mono (fun a' w' ⟨C',kY,zW,hl⟩=>eU lM dt l C' _ a' w' hc (ks.set (by rw [hr];simp)) (cz (Ne.symm Iv) hz) kY zW hl) (h w hC)
end
def OT.z (n:Nat):OT→Nat
  | .nil=>n
  | .one _ _ t=>t.z n
  | .fork _ t _ _=>t.z n
  | .UW _ t _ _ _ _=>t.z n
  | .last i=>i
def FB (ops:Array Oper) (ord:OT):Bool:=
  Region.noSelect ops&&tM ops&&(ord.size==ops.size)&&pP ops (ord.z ops.size) ord (Array.replicate ops.size false)
section
variable {P:Program} {r:Option Nat} {N:Nat} {Q:Exit→Act→World→Prop} {e:Env} {ds:List Nat} {M:aa} {S:Nat→Prop} {w0:World} {G:World→Prop}
def KD (P:Program) (r:Option Nat) (N:Nat) (ops:Array Oper) (Q:Exit→Act→World→Prop) (MD:aa) (GD:World→Prop) (ord:OT) (e:Env) (ds:List Nat) (M:aa) (S:Nat→Prop) (w0:World) (G:World→Prop):Prop:=
  ∀a,Fr N e a→Dm ds a→tv P r ops Q (Fz MD S w0 GD) (Fz M S w0 G) ord a
theorem af.keep [GS G] {id:Nat} {ops:Array Oper} (MD:aa) (GD:World→Prop) (ord:OT) (hm:P.follows .mixedOrders=true) (hc:FB ops ord=true) (hM:aT M MD) (hG:∀w,G w→GD w) (h:KD P r N ops Q MD GD ord e ds M S w0 G):af P r N (.region id ops true) Q e ds M S w0 G:=fun w hw gC hg a hf hd=>by
  simp only [FB,Bool.and_eq_true,beq_iff_eq] at hc;obtain ⟨⟨⟨h1,h2⟩,h3⟩,h6⟩:=hc;refine wpIn_mono (wpIn_region_any (Q:=Qn Q) hm ?_) (fun x a w hq=>?_)
  · rw [←h3]
    exact WS.any _ _ a _ (eU h1 h2 ord _ _ a _ (h3▸h6) (fun q o hq _=>by rw [Array.getD_eq_getD_getElem?,Array.getElem?_replicate] at hq;split at hq<;>cases hq) (by rw [Array.getD_eq_getD_getElem?,Array.getElem?_replicate];split<;>rfl) (fun w hw=>⟨hM.mem w hw.1,hw.2.1,hG w hw.2.2⟩)
      ⟨hw.ext (cX.drew no w),gC.trans (cX.drew S w),GS.ext w _ hg (cX.drew no w)⟩ (h a hf hd))
  · cases x<;>first|exact hq|exact hq.elim
variable {ops:Array Oper} {l:OT} {op:Op} {ty:TypeId} {pos:String} {after:Array Edge} {d:Nat} {v:Value} {i:Nat} {MD:aa} {GD:World→Prop}
theorem KD.nil (h:QM N Q .normal e ds M S w0 G):KD P r N ops Q MD GD .nil e ds M S w0 G:=fun a hf hd w hw=>h w hw.1 hw.2.1 hw.2.2 a hf hd
theorem KD.val {g:Option (Nat×Bool)} (hi:ops[i]? =some ⟨some d,op,ty,pos,after,g⟩) (hg:sz ops e g true) (hv:fb P op ty e v) (h:KD P r N ops Q MD GD l ((d,v)::e) ds M S w0 G) (dt:nd op=true:=by rfl) (hd:Nat.blt d N=true:=by rfl):
    KD P r N ops Q MD GD (.one i 0 l) e ds M S w0 G:=fun a hf eN=>by
  simp only [tv,hi];exact⟨v,.inl ⟨hg.wanted hf,dt,fun w _=>hv w a.eval (fun x u hx=>hf.eval hx) _ _ _ _⟩,h _ (hf.put hd v) eN⟩
theorem KD.rd {g:Option (Nat×Bool)} (hi:ops[i]? =some ⟨some d,op,ty,pos,after,g⟩) (hg:sz ops e g true) (hv:∀w,Mem w MD→rA P op ty e w v w) (h:KD P r N ops Q MD GD l ((d,v)::e) ds M S w0 G) (dt:nd op=true:=by rfl) (hd:Nat.blt d N=true:=by rfl):
    KD P r N ops Q MD GD (.one i 1 l) e ds M S w0 G:=fun a hf eN=>by
  simp only [tv,hi];exact⟨v,.inl ⟨hg.wanted hf,dt,fun w hw=>hv w hw.1 a.eval (fun x u hx=>hf.eval hx) _ _ _ _⟩,h _ (hf.put hd v) eN⟩
theorem KD.eT {g:Option (Nat×Bool)} (hi:ops[i]? =some ⟨some d,op,ty,pos,after,g⟩) (hg:sz ops e g true) (hv:∀w,Mem w MD→cX S w0 w→GD w→rA P op ty e w v w) (h:KD P r N ops Q MD GD l ((d,v)::e) ds M S w0 G) (dt:nd op=true:=by rfl) (hd:Nat.blt d N=true:=by rfl):
    KD P r N ops Q MD GD (.one i 1 l) e ds M S w0 G:=fun a hf eN=>by
  simp only [tv,hi];exact⟨v,.inl ⟨hg.wanted hf,dt,fun w hw=>hv w hw.1 hw.2.1 hw.2.2 a.eval (fun x u hx=>hf.eval hx) _ _ _ _⟩,h _ (hf.put hd v) eN⟩
theorem KD.c9 {g:Option (Nat×Bool)} {k:Nat} (hk:Nat.blt k 2=true) (hi:ops[i]? =some ⟨some d,op,ty,pos,after,g⟩) (hg:sz ops e g false) (h:KD P r N ops Q MD GD l ((d,undef)::e) ds M S w0 G) (hd:Nat.blt d N=true:=by rfl):
    KD P r N ops Q MD GD (.one i k l) e ds M S w0 G:=fun a hf eN=>by
  have hY:∀D,YA P ops D ⟨some d,op,ty,pos,after,g⟩ undef a:=fun D=> .inr ⟨hg.wanted (o:=⟨some d,op,ty,pos,after,g⟩) hf,rfl⟩
  match k,hk with
  |0,_=>simp only [tv,hi];exact⟨undef,hY _,h _ (hf.put hd undef) eN⟩
  |1,_=>simp only [tv,hi];exact⟨undef,hY _,h _ (hf.put hd undef) eN⟩
theorem KD.drop {g:Option (Nat×Bool)} {k:Nat} (hk:Nat.blt k 2=true) (hi:ops[i]? =some ⟨some d,op,ty,pos,after,g⟩) (hg:sz ops e g false) (h:KD P r N ops Q MD GD l e ds M S w0 G) (hd:Nat.blt d N=true:=by rfl) (uA:look e d=none:=by rfl):
    KD P r N ops Q MD GD (.one i k l) e ds M S w0 G:= .c9 hk hi hg (fun a hf eN=>h a ⟨hf.1,fun t u hu=>hf.2 t u (by
      rw [dP]
      by_cases H0:d=t
      · subst H0;rw [uA] at hu;cases hu
      · rw [if_neg H0];exact hu)⟩ eN) hd
theorem KD.ar {t:Nat} {p:Prop} [Decidable p] (ht:look e t=some (.bool (decide p))) (h1:p→KD P r N ops Q MD GD l ((t,.bool true)::e) ds M S w0 G) (h2:¬p→KD P r N ops Q MD GD l ((t,.bool false)::e) ds M S w0 G):
    KD P r N ops Q MD GD l e ds M S w0 G:=fun a hf eN=>by
  by_cases hp:p
  · exact h1 hp a (hf.Oj ht (decide_eq_true hp)) eN
  · exact h2 hp a (hf.Oj ht (decide_eq_false hp)) eN
theorem CT {F:Fence} {n:Nat} {o:Oper} {a:Act} {w:World} {K K':Act→World→Prop} {Q Q':Exit→Act→World→Prop} (h:∀a w,K a w→K' a w) (hQ:∀c a w,Q (.panic c) a w→Q' (.panic c) a w) (hL:LetsOut Q→LetsOut Q')
    (hh:o.wpIn F n P a w K Q):o.wpIn F n P a w K' Q':=by
  unfold Oper.wpIn at*
  refine ⟨hh.1,?_⟩;have hh:=hh.2
  generalize (o.semAt F.round a.eval).run P w=r at*
  cases r with
  |ok x w'=>
    cases x<;>simp only [Oper.uponIn] at hh ⊢ <;>
      first
        |exact h _ _ hh
        |exact⟨hh.1,CallsIn.mono hh.2 (fun e ZH he=>by cases e<;>first|exact h _ _ he|exact hQ _ _ _ he|exact hL he)⟩
        |exact⟨hh.1,RowsIn.mono hh.2 (fun _ _ he=>h _ _ he)⟩
        |exact⟨hh.1,RoundIn.mono hh.2 (fun e ZH he=>by cases e<;>first|exact h _ _ he|exact hQ _ _ _ he|exact hL he)⟩
  |halt x w'=>cases x<;>simp only [Oper.uponIn] at hh ⊢ <;>first|exact hQ _ _ _ hh|exact hh
def KQ (P:Program) (r:Option Nat) (N:Nat) (ops:Array Oper) (Q:Exit→Act→World→Prop) (D:World→Prop) (l:OT):Exit→Act→World→Prop:=fun x a w=>x= .normal∧∃C':World→Prop,(∀w,C' w→D w)∧C' w∧tv P r ops Q D C' l a
theorem KD.one {o:Oper} {k:Nat} (ho:ops[i]? =some o) (h:LM P r N ops (KQ P r N ops Q (Fz MD S w0 GD) l) [o] e ds M S w0 G):KD P r N ops Q MD GD (.one i (k+2) l) e ds M S w0 G:=fun a hf eN=>by
  simp only [tv,ho];intro w hw;have h3:=h w hw.1 hw.2.1 hw.2.2 a hf eN
  unfold wpOpIn
  rw [ho]
  unfold wpListIn at h3
  simp only
  split
  · rename_i hq;rw [if_pos hq] at h3
    exact CT (fun a w h=>h.2) (fun c a w h=>by cases h.1) (fun ⟨a,w,h⟩=>by cases h.1) h3
  · rename_i hq;rw [if_neg hq] at h3
    exact⟨fun _ _=>trivial,h3.2.2⟩
theorem KD.last {o:Oper} (ho:ops[i]? =some o) (h:LM P r N ops (Qn Q) [o] e ds M S w0 G):KD P r N ops Q MD GD (.last i) e ds M S w0 G:=fun a hf eN=>by
  simp only [tv];intro w hw;have h3:=h w hw.1 hw.2.1 hw.2.2 a hf eN
  unfold wpOpIn
  rw [ho]
  unfold wpListIn at h3
  simp only
  split
  · rename_i hq;rw [if_pos hq] at h3;exact Oper.wpIn_mono (fun a w h=>h) h3
  · rename_i hq;rw [if_neg hq] at h3;exact h3
theorem KD.fork {o o2:Oper} {j:Nat} {s:OT} (ho:ops[i]? =some o) (YE:ops[j]? =some o2) (h:LM P r N ops (KQ P r N ops Q (Fz MD S w0 GD) l) [o] e ds M S w0 G) (h2:LM P r N ops (KQ P r N ops Q (Fz MD S w0 GD) s) [o2] e ds M S w0 G):KD P r N ops Q MD GD (.fork i l j s) e ds M S w0 G:=fun a hf eN=>by
  have k1:=KD.one (k:=0) ho h a hf eN;have k2:=KD.one (k:=0) YE h2 a hf eN;simp only [tv,ho] at k1;simp only [tv,YE] at k2;simp only [tv];exact⟨k1,k2⟩
theorem QM.one (hM:aT M MD) (hG:∀w,G w→GD w) (h:KD P r N ops Q MD GD l e ds M S w0 G):QM N (KQ P r N ops Q (Fz MD S w0 GD) l) .normal e ds M S w0 G:=fun w hm hc hg a hf hd=>
  ⟨rfl,Fz M S w0 G,fun w hw=>⟨hM.mem w hw.1,hw.2.1,hG w hw.2.2⟩,⟨hm,hc,hg⟩,h a hf hd⟩
end
section
variable {P:Program} {e:Env} {x:Operand} {t ty:TypeId} {M:aa}
end
section
variable {P:Program} {r:Option Nat} {N:Nat} {Q:Exit→Act→World→Prop} {e:Env} {ds:List Nat} {M:aa} {S:Nat→Prop} {w0:World}
variable {ops:Array Oper} {rest:List Oper} {op:Op} {ty:TypeId} {pos:String} {after:Array Edge} {d:Nat}
end
section
variable {P:Program} {r:Option Nat} {N:Nat} {Q:Exit→Act→World→Prop} {e:Env} {ds:List Nat} {M:aa} {S:Nat→Prop} {w0:World} {G:World→Prop}
variable {ops:Array Oper} {l:List Oper} {ty:TypeId} {pos:String} {after:Array Edge} {d:Nat} {t tk:TypeId} {x y z:Operand}
end
theorem mj:∀(M:List aa) (i:Nat),i<M.length→M.flatten.Perm (M.getD i [] ++(M.eraseIdx i).flatten)
  | [],i,h=>by cases h
  |m::M,0,h=>by simp
  |m::M,i+1,h=>by
    have ih:=mj M i (Nat.lt_of_succ_lt_succ h);simp only [List.flatten_cons,List.getD_cons_succ,List.eraseIdx_cons_succ];refine (ih.append_left m).trans ?_;rw [←List.append_assoc,←List.append_assoc];exact List.perm_append_comm.append_right _
theorem Ku {M:List aa} {i:Nat} (h:i<M.length) (m':aa):(M.set i m').flatten.Perm (m'++(M.eraseIdx i).flatten):=by
  have h1:=mj (M.set i m') i (by rw [List.length_set];exact h);rw [List.getD_eq_getElem?_getD,List.getElem?_set,if_pos rfl,if_pos h,Option.getD_some] at h1
  have h2:(M.set i m').eraseIdx i=M.eraseIdx i:=by
    apply List.ext_getElem?
    intro j;rw [List.getElem?_eraseIdx,List.getElem?_eraseIdx]
    split
    · rw [List.getElem?_set_ne om]
    · rw [List.getElem?_set_ne om]
  rw [h2] at h1;exact h1
theorem TX {M:List aa} {i:Nat} (h:i<M.length) {p:Nat×Obj} (hp:p∈M.getD i []):p∈M.flatten:=
  (mj M i h).mem_iff.2 (List.mem_append_left _ hp)
theorem Ex {M:List aa} {i:Nat} (h:i<M.length) {w:World} (hm:Mem w M.flatten):Mem w (M.getD i []):=
  (hm.perm (mj M i h)).sub (List.sublist_append_left ..)
theorem Mem.part {mp rest m:aa} {w:World} (hp:m.Perm (mp++rest)) (hm:Mem w m):Mem w mp:=(hm.perm hp).sub (List.sublist_append_left ..)
end Go.Eng
namespace Go.Eng
open Go Go.RowKit Go.ChangeShapes Go.WideShapes
section
variable {H:Type} {enc:TypeId×Value→H} {P:Program} {w:World} {base:Nat} {sp:Nat→Bool} {held:Bool} {t:TypeId} {fuel:Nat} {cs:List Value} {x:DataW H×List MemPlace}
theorem mapM_each {α β:Type} (f:α→Option β):∀(l:List α) (ys:List β),l.mapM f=some ys→∀a∈l,∃y,f a=some y
  | [],_,_,a,h=>by cases h
  |b::l,ys,h,a,ha=>by
    rw [List.mapM_cons] at h;simp only [bind,Option.bind_eq_some_iff,pure,Option.some.injEq] at h;obtain ⟨y,hy,zs,hz,_⟩:=h;rcases List.mem_cons.1 ha with rfl|ha
    · exact⟨y,hy⟩
    · exact mapM_each f l zs hz a ha
theorem sC {fs:Array Field} (ht:P.underlying t=some (.struct fs)) (h:DataW.trod enc P w base sp held fuel t cs=some x):
    cs.length=P.cellsOf t∧∀f∈fs.toList,∃n y,DataW.trod enc P w base sp held n f.type ((cs.drop f.offset).take (P.cellsOf f.type))=some y:=by
  cases fuel with
  |zero=>simp [DataW.trod] at h
  |succ n=>
    rw [DataW.trod_step] at h
    unfold DataW.trodStep at h
    simp only [ht] at h
    split at h
    · rename_i hl
      simp only [Option.map_eq_some_iff] at h;obtain ⟨ys,hy,_⟩:=h;exact⟨hl,fun f hf=>⟨n,mapM_each _ _ _ hy f hf⟩⟩
    · cases h
def Rdb (P:Program) (t:TypeId) {α:Type} (f:α→List Value) (ok:α→Prop):Prop:=
  ∀{H:Type} {enc:TypeId×Value→H} {w:World} {base:Nat} {sp:Nat→Bool} {held:Bool} {fuel:Nat} {cs:List Value} {x:DataW H×List MemPlace},DataW.trod enc P w base sp held fuel t cs=some x→∃a,cs=f a∧ok a
def fU (x:BitVec 64):List Value:=[U x]
theorem zo (n:BitVec 64):(fU n).length=1:=rfl
theorem Pf {α:Type} {f:α→List Value} {ok:α→Prop} {e:TypeId} {s:Nat} (ht:P.underlying t=some (.slice e)) (he:Rdb P e f ok) (hs:P.cellsOf e=s) (pE:0<s) (hf:∀a,(f a).length=s)
    {ad:Option Addr} {len cap:Nat} {d:DataW H} {ps:List MemPlace} (h:DataW.Trod enc P w base sp held t (.slice ad len cap) d ps):
    ∃xs:List α,len=xs.length∧Sr f s xs (.slice ad xs.length cap) w∧(∀a∈xs,ok a)∧xs.length≤maxLen:=by
  obtain ⟨fuel,h⟩:=h;rcases DataW.trod_slice ht h with ⟨h0,_⟩|⟨a,l,c,elems,rest,n,_,h0,_,_,XN,MA,hel,hE,_,_⟩
  · simp [Value.cells] at h0
    obtain ⟨rfl,rfl,rfl⟩:=h0;exact⟨[],rfl,.nil _ _ _,(fun a ha=>absurd ha (by simp)),Nat.zero_le _⟩
  · simp [Value.cells] at h0
    obtain ⟨rfl,rfl,rfl⟩:=h0
    have each:∀i,i<len→∃b,ok b∧∀j,j<s→w.cell? (a.add (i*s+j))=(f b)[j]? :=fun i hi=>by
      have h1:=hE i hi;rw [hs] at h1;obtain ⟨y,hy⟩:∃y,elems[i]? =some y:=⟨_,List.getElem?_eq_getElem om⟩
      rw [hy,Option.bind_eq_some_iff] at h1;obtain ⟨cs,wx,Pz⟩:=h1;obtain ⟨b,rfl,hb⟩:=he Pz;refine ⟨b,hb,fun j hj=>?_⟩;have:=(World.cells?_some wx).2.2 j hj;rw [←this,Addr.add_add]
    obtain ⟨xs,hxl,hx⟩:∃xs:List α,xs.length=len∧∀i b,xs[i]? =some b→ok b∧∀j,j<s→w.cell? (a.add (i*s+j))=(f b)[j]? :=by
      clear hE hel
      have:∀m,m≤len→∃xs:List α,xs.length=m∧∀i b,xs[i]? =some b→ok b∧∀j,j<s→w.cell? (a.add (i*s+j))=(f b)[j]? :=by
        intro m
        induction m with
        |zero=>intro _;exact⟨[],rfl,fun i b h=>by simp at h⟩
        |succ m ih=>
          intro hm;obtain ⟨xs,h1,h2⟩:=ih om;obtain ⟨b,hb⟩:=each m om;refine ⟨xs++ [b],by simp [h1],fun i c hc=>?_⟩
          by_cases hi:i<m
          · rw [List.getElem?_append_left om] at hc;exact h2 i c hc
          · have bB:=(List.getElem?_eq_some_iff.1 hc).1
            simp [h1] at bB;have:i=m:=by omega
            subst this;rw [List.getElem?_append_right om,h1,Nat.sub_self] at hc;simp at hc;subst hc;exact hb
      exact this len (Nat.le_refl _)
    subst hxl;refine ⟨xs,rfl,⟨_,_,rfl,XN,fun h0=>?_⟩,fun b hb=>?_,by omega⟩
    · obtain ⟨b0,hb0⟩:∃b,xs[0]? =some b:=⟨_,List.getElem?_eq_getElem h0⟩
      have h1:=(hx 0 b0 hb0).2 0 pE;have hfb:(f b0)[0]? =some ((f b0)[0]'(by rw [hf];exact pE)):=List.getElem?_eq_getElem _;rw [hfb] at h1;have Og:=World.cell?_spot h1;obtain ⟨b,off,spot⟩:=a;have:spot=none:=by simpa [Addr.add] using Og
      subst this;have h2:=h1;rw [iT] at h2
      unfold World.cell? at h2
      simp only at h2
      split at h2
      · rename_i c E fz hb
        refine ⟨b,off,c,E,fz,rfl,hb,fun i a ha j hj=>?_⟩;have h3:=(hx i a ha).2 j hj;rw [iT] at h3
        unfold World.cell? at h3
        simp only [hb] at h3;rw [←h3];rfl
      · cases h2
    · obtain ⟨i,hi⟩:=List.getElem?_of_mem hb
      exact(hx i b hi).1
end
end Go.Eng
namespace Go.Eng
open Go Go.RowKit
abbrev cZ (m:aa) (k:Nat) (x:aa):Prop:=∀p∈x,k≤p.1∨∃q∈m,q.1=p.1
theorem ay (m:aa) (k:Nat):cZ m k m:=fun p hp=> .inr ⟨p,hp,rfl⟩
theorem ak {m x y:aa} {k:Nat} (h:cZ m k x) (h2:cZ x k y):cZ m k y:=fun p hp=>by
  rcases h2 p hp with q|⟨q,hq,e⟩
  · exact .inl q
  · rw [←e];exact h q hq
theorem Vf {m x y:aa} {k:Nat} (h:cZ x k y) (hs:∀p∈x,fS m p.1):∀p∈y,p.1<k→fS m p.1:=fun p hp bB=>by
  rcases h p hp with q|⟨q,hq,e⟩
  · omega
  · rw [←e];exact hs q hq
theorem ee {b:Nat} {o:Obj} {m:aa} :fS ((b,o)::m) b:=⟨_,List.mem_cons_self ..,rfl⟩
theorem aZ {m m' M:aa} {T:Value→aa→Prop} {u:Value} {w w':World} (hT:T u m') (hm:Mem w' M) (hs:aT M (m'++ [])) (hc:cX (fS m) w w') (jC:cZ m w.heap.size m'):eI m T w u w':=by
  rw [List.append_nil] at hs;exact⟨hc,m',hT,hs.mem w' hm,jC⟩
theorem gj {m:aa} {k b:Nat} {o:Obj} {x:aa} (h:fS m b) (h2:cZ m k x):cZ m k ((b,o)::x):=fun p hp=>by
  rcases List.mem_cons.1 hp with rfl|hp
  · exact .inr h
  · exact h2 p hp
theorem bZ {m x y:aa} {k:Nat} (h:cZ m k x) (h2:cZ m k y):cZ m k (x++y):=fun p hp=>by
  rcases List.mem_append.1 hp with hp|hp
  · exact h p hp
  · exact h2 p hp
theorem DM {m x:aa} {k:Nat} (h:∀p∈x,p∈m):cZ m k x:=fun p hp=> .inr ⟨p,h p hp,rfl⟩
theorem rr {m x y:aa} {k:Nat} (h:cZ x k y) (h2:∀p∈x,p∈m):cZ m k y:=fun p hp=>by
  rcases h p hp with q|⟨q,hq,e⟩
  · exact .inl q
  · exact .inr ⟨q,h2 q hq,e⟩
theorem eI.imp {m:aa} {T T':Value→aa→Prop} {w w':World} {u:Value} (h:eI m T w u w') (k:∀u m',T u m'→T' u m'):eI m T' w u w':=by
  obtain ⟨h1,m',h2,h3,h4⟩:=h;exact⟨h1,m',k _ _ h2,h3,h4⟩
theorem Dh {a a':Nat×Obj} {R:aa} :∀q∈a::R,a'.1=a.1→fS (a'::R) q.1:=fun q hq h=>by
  rcases List.mem_cons.1 hq with rfl|hq
  · exact⟨a',List.mem_cons_self ..,h⟩
  · exact⟨q,List.mem_cons_of_mem _ hq,rfl⟩
theorem LQ {a a':Nat×Obj} {R y:aa} {k:Nat} (jC:cZ (a::R) k y) (h:a'.1=a.1):cZ (a'::R) k y:=fun q hq=>by
  rcases jC q hq with e|⟨z,hz,e⟩
  · exact .inl e
  · rw [←e];exact .inr (Dh z hz h)
theorem ao {m y:aa} {k:Nat} (jC:cZ m k y):∀q∈y,q.1<k→fS m q.1:=fun q hq bB=>by
  rcases jC q hq with e|e
  · omega
  · exact e
theorem M6 {m:aa} {a a':Nat×Obj} {R:aa} {k:Nat} (jC:cZ m k (a::R)) (h:a'.1=a.1):cZ m k (a'::R):=fun p hp=>by
  rcases List.mem_cons.1 hp with rfl|hp
  · rw [h];exact jC a (List.mem_cons_self ..)
  · exact jC p (List.mem_cons_of_mem _ hp)
theorem Sr.EI {α:Type} {f:α→List Value} {s n cap:Nat} {xs:List α} {ad:Option Addr} {S:Nat→Prop} {w w':World} (h:Sr f s xs (.slice ad n cap) w) (k:cX S w w') (hS:0<xs.length→¬S (iM ad)):Sr f s xs (.slice ad n cap) w':=by
  obtain ⟨zY,kT,h1,h2,h3⟩:=h;refine ⟨zY,kT,h1,h2,fun hx=>?_⟩;obtain ⟨b,off,cs,E,fz,h4,h5,h6⟩:=h3 hx;exact⟨b,off,cs,E,fz,h4,k.get h5 (by have:=hS hx;rw [(Value.slice.inj h1).1,h4] at this;exact this),h6⟩
theorem ca {m x y:aa} {k:Nat} (h2:∀p∈x,∃q∈y,q.1=p.1) (h:cZ m k y):cZ m k x:=fun p hp=>by
  obtain ⟨q,hq,e⟩:=h2 p hp;rw [←e];exact h q hq
theorem bF {α:Type} {xs:List α} {i:Nat} {a:α} (h:i<xs.length):(xs.set i a)[i]? =some a:=List.getElem?_set_self h
theorem zQ {α:Type} {l:List α} {i:Nat} (d:α) (h:i<l.length):l.set i (l.getD i d)=l:=by
  apply List.ext_getElem (by rw [List.length_set])
  intro j h1 h2;rw [List.getElem_set]
  split
  · rename_i e;subst e;rw [List.getD_eq_getElem?_getD,List.getElem?_eq_getElem h2];rfl
  · rfl
abbrev bs (l:List UInt8):ByteArray:=⟨l.toArray⟩
abbrev vS (l:List UInt8):Value:= .string (bs l)
theorem yn (l:List UInt8):(bs l).size=l.length:=by rw [Lib.size_eq]
theorem tN (l:List UInt8):(bs l).toList=l:=by rw [Lib.toList_data]
theorem X0 (s:ByteArray):s=bs s.data.toList:=(Lib.mk_data s).symm
section
variable {P:Program} {ty:TypeId} {e:Env} {t u:TypeId} {x y lo hi:Operand} {l a b:List UInt8}
theorem jE (ht:P.underlying t=some .string) (hx:ev e x=some (vS l)):fb P (.call {callee:= .builtin .len,args:=#[x],argTypes:=#[t] }) ty e (.int .i64 l.length):=by
  have:=PE (P:=P) (ty:=ty) ht hx;rwa [yn] at this
theorem F2 (a b:List UInt8):(a==b)=decide (a=b):=by rw [Bool.eq_iff_iff];simp
theorem qe (hx:ev e x=some (vS a)) (hy:ev e y=some (vS b)):fb P (.binOp .eql t x y u) ty e (.bool (decide (a=b))):=by
  have:=Oo (P:=P) (ty:=ty) (t:=t) (u:=u) hx hy;rwa [tN,tN,F2] at this
theorem JC (hx:ev e x=some (vS a)) (hy:ev e y=some (vS b)):fb P (.binOp .neq t x y u) ty e (.bool (decide (a≠b))):=by
  have:=NN (P:=P) (ty:=ty) (t:=t) (u:=u) hx hy;rw [tN,tN,F2] at this;rwa [show (!decide (a=b))=decide (a≠b) by rw [decide_not]] at this
theorem Lu {k:IntKind} {i:Int} (ht:P.underlying t=some .string) (hx:ev e x=some (vS l)) (hy:ev e y=some (.int k i)) (h:0≤i∧i<l.length):fb P (.index t x y) ty e (.int .u8 ((l.getD i.toNat 0).toNat:Nat)):=fun w ρ hρ _ _ _ _=>by
  have h2:(bs l)[i.toNat]? =some (l.getD i.toNat 0):=by
    have bB:i.toNat<l.length:=by omega
    rw [getElem?_pos (bs l) i.toNat (by rw [yn];exact bB),List.getD_eq_getElem?_getD,List.getElem?_eq_getElem bB]
    rfl
  simp only [execOp,Instr.index,asIntOf,hρ x _ hx,hρ y _ hy,Sem.run_bind,Sem.run_pure,Result.andThen,run_underlying ht,if_pos h.1,h2,Sem.run_map]
theorem dO {k:IntKind} {i:Nat} (ht:P.underlying t=some .string) (hx:ev e x=some (vS l)) (hy:ev e y=some (.int k (i:Nat))) (h:i<l.length):fb P (.index t x y) ty e (.int .u8 ((l.getD i 0).toNat:Nat)):=by
  have:=Lu (P:=P) (ty:=ty) ht hx hy om;simpa using this
theorem uG {k k':IntKind} {i j:Int} (ht:P.underlying t=some .string) (hx:ev e x=some (vS l)) (hl:ev e lo=some (.int k i)) (hh:ev e hi=some (.int k' j)) (h1:0≤i) (h2:i≤j) (h3:j≤l.length):
    fb P (.slice t x (some lo) (some hi) none) ty e (vS ((l.drop i.toNat).take (j.toNat-i.toNat))):=fun w ρ hρ _ _ _ _=>by
  have a1:0≤j∧j≤((bs l).size:Int):=by rw [yn];omega
  have a2:0≤i∧i≤((j.toNat:Nat):Int):=by omega
  have h4:(bs l).extract i.toNat j.toNat=bs ((l.drop i.toNat).take (j.toNat-i.toNat)):=Lib.extract_eq _ _ _;simp only [execOp,Instr.sliceAt,Instr.slice,Instr.sliceBounds,Instr.sliceBound,asIntOf,hρ x _ hx,hρ lo _ hl,hρ hi _ hh,Sem.run_bind,Sem.run_pure,Result.andThen,run_underlying ht,Option.map_some,Option.map_none,if_pos a1,if_pos a2,h4,Option.isSome_none,Bool.false_eq_true,if_false,Sem.run_map]
end
section
variable {P:Program} {r:Option Nat} {N:Nat} {Q:Exit→Act→World→Prop} {e:Env} {ds:List Nat} {M:aa} {S:Nat→Prop} {w0:World} {G:World→Prop}
variable {ops:Array Oper} {l:List Oper} {op:Op} {ty:TypeId} {pos:String} {after:Array Edge} {d:Nat}
end
theorem rQ {P:Program} (w:World) (t ty E:TypeId) (inf:TypeInfo) (hU:P.underlying t=some (.slice E)) (hI:P.info? E=some inf) (base ad:Option Addr) (n cap cy:Nat) (h:n≤cap):
    (Builtin.append_ #[t,t] ty #[.slice base n cap,.slice ad 0 cy]).run P w= .ok (.slice base n cap) w:=by
  have hf:(Builtin.firstCells inf.size 0 (.slice ad 0 cy)).run P w= .ok #[] w:=by
    cases ad with
    |none=>simp [Builtin.firstCells]
    |some a=>exact run_firstCells_some w inf.size 0 a 0 cy [] (by simp) (fun j v hj=>by simp at hj)
  have hs:(sizeOf E).run P w= .ok inf.size w:=by simp [sizeOf,typeInfo,hI]
  cases base with
  |none=>simp [Builtin.append_,run_underlying hU,hs,Builtin.lenOf,hf,h]
  |some b=>simp [Builtin.append_,run_underlying hU,hs,Builtin.lenOf,hf,h,storeCells]
theorem C6 {α:Type} {f:α→List Value} {s:Nat} (hf:∀a,(f a).length=s) (hs:0<s) {ys:List α} {j:Nat} {u:Value} (h:(ys.flatMap f)[j]? =some u):∃i a k,ys[i]? =some a∧k<s∧j=i*s+k∧(f a)[k]? =some u:=by
  have hj:j<ys.length*s:=by
    have:=(List.getElem?_eq_some_iff.1 h).1;rwa [bQ hf] at this
  have hi:j / s<ys.length:=(Nat.div_lt_iff_lt_mul hs).2 hj;have e:j=j / s*s+j % s:=by rw [Nat.mul_comm];exact(Nat.div_add_mod j s).symm
  have hk:j % s<s:=Nat.mod_lt _ hs;refine ⟨j / s,ys[j / s],j % s,List.getElem?_eq_getElem hi,hk,e,?_⟩;rw [←j0 hf ys (j / s) (j % s) _ (List.getElem?_eq_getElem hi) hk,←e];exact h
section
variable {P:Program} {r:Option Nat} {N:Nat} {Q:Exit→Act→World→Prop} {e:Env} {ds:List Nat} {M:aa} {S:Nat→Prop} {w0:World} {G:World→Prop}
variable {ops:Array Oper} {l:List Oper} {ty:TypeId} {pos:String} {after:Array Edge} {d:Nat} {x y:Operand} {t:TypeId}
theorem LM.rD [GT G] {α:Type} {f:α→List Value} {E s n0:Nat} {inf:TypeInfo} {z:Value} {xs ys:List α} {v:Value} {m M2:aa} {ad:Option Addr} {ny c:Nat}
    (hU:P.underlying t=some (.slice E)) (hI:∀w,(typeInfo E).run P w= .ok inf w) (hz:inf.zero=some z) (hs:inf.size=s) (pE:Nat.blt 0 s=true) (HZ:z.cells.size=s) (hd:Nat.blt d N=true)
    (hx:ev e x=some v) (hy:ev e y=some (.slice ad ny c)) (gh:Sl f E s n0 xs v m) [h2:oU M m M2] (hr:∀w,Mem w M→cX S w0 w→G w→Sr f s ys (.slice ad ny c) w)
    (hf:∀a,(f a).length=s) (yk:∀a,∀u∈f a,one u=true) (cb:n0≤w0.heap.size) (Y3:∀p∈m,p.1<w0.heap.size→S p.1) (hlen:xs.length+ys.length≤maxLen) (pL:(xs.length+ys.length)*inf.bytes≤140737488355328)
    (h:∀ad n cap m',n=xs.length+ys.length→Sl f E s n0 (xs++ys) (.slice ad n cap) m'→(∀p∈m',w0.heap.size≤p.1∨∃q∈m,q.1=p.1)→LM P r N ops Q l ((d,.slice ad n cap)::e) ds (m'++M2) S w0 G):
    LM P r N ops Q (⟨some d,.call {callee:= .builtin .append,args:=#[x,y],argTypes:=#[t,t] },ty,pos,after,none⟩::l) e ds M S w0 G:=fun w hm hc hg=>by
  have pE:0<s:=Nat.le_of_ble_eq_true pE;have B5:=yp hI;have CN:=hr w hm hc hg;have Kk:Mem w (m++M2):=hm.perm h2.perm;obtain ⟨rfl,-,lN⟩:=CN.open
  have h':∀v' m',Sl f E s n0 (xs++ys) v' m'→(∀p∈m',w0.heap.size≤p.1∨∃q∈m,q.1=p.1)→LM P r N ops Q l ((d,v')::e) ds (m'++M2) S w0 G:=fun v' m' Hp jC=>by
    obtain ⟨ad,cap,rfl⟩:=Hp.form;exact h ad _ cap m' (by simp) Hp jC
  have step:∀(v':Value) (w':World),(Builtin.append_ #[t,t] ty #[v,.slice ad ys.length c]).run P w= .ok v' w'→
      (LE P r N ops Q l ((d,v')::e) ds w')→LE P r N ops Q (⟨some d,.call {callee:= .builtin .append,args:=#[x,y],argTypes:=#[t,t] },ty,pos,after,none⟩::l) e ds w:=fun v' w' hr hl=>
    LE.val (fun ρ hρ _ _ _ _=>by simp [execOp,resolve,invoke,builtin,hρ x _ hx,hρ y _ hy,hr,Result.andThen]) hl rfl hd
  by_cases Z3:ys.length=0
  · obtain rfl:ys=[] :=List.eq_nil_of_length_eq_zero Z3
    have hv:∃b n cp,v= .slice b n cp∧n≤cp:=by
      rcases gh with ⟨rfl,_,_⟩|⟨b,cap,bz,_,rfl,_,hle,_,_⟩
      · exact⟨_,_,_,rfl,Nat.le_refl _⟩
      · exact⟨_,_,_,rfl,hle⟩
    obtain ⟨b,n,cp,rfl,hle⟩:=hv;exact step _ _ (rQ w t ty E inf hU B5 b ad n cp c hle) (h' _ m (by simpa using gh) (fun p hp=> .inr ⟨p,hp,rfl⟩) w Kk hc hg)
  obtain ⟨bx,off,cs,F,fz,rfl,hbx,wx⟩:=lN om;have H2:(ys.flatMap f).length=ys.length*inf.size:=by rw [bQ hf,hs]
  have uF:∀j u,(ys.flatMap f)[j]? =some u→w.cell? ((⟨bx,off,none⟩:Addr).add j)=some u:=fun j u hj=>by
    obtain ⟨i,a,k,h1,h2,h3,h4⟩:=C6 hf pE hj;have:=wx i a h1 k h2;rw [←h3,h4] at this;rw [Addr.add_lit];simp [World.cell?,hbx];exact this
  have XD:∀u∈ys.flatMap f,one u=true:=fun u hu=>by
    obtain ⟨a,_,hu⟩:=List.mem_flatMap.1 hu;exact yk a u hu
  rcases gh with ⟨rfl,rfl,rfl⟩|⟨b,cap,bz,hb,rfl,rfl,hle,SV,Mu⟩
  · -- nil
    simp only [List.length_nil,Nat.zero_add] at hlen pL;have hr:=run_append_nil (P:=P) w t ty E inf z hU B5 hz ⟨bx,off,none⟩ ys.length c (ys.flatMap f) H2 uF om (by unfold maxLen at hlen;omega) om;refine step _ _ hr ?_;obtain ⟨k,hk,xb⟩:∃k,grownCap w ys.length 0 E=k∧ys.length≤k∧k≤maxLen:=⟨_,rfl,grownCap_ge w _ 0 E,grownCap_le_maxLen w _ 0 E hlen⟩
    rw [hk];refine h' _ [(w.heap.size,.cells (arr f ([] ++ys) (Builtin.zeroCells z.cells (k-ys.length)).toList) E (0,0))] (.inr ⟨w.heap.size,k,(Builtin.zeroCells z.cells (k-ys.length)).toList,Nat.le_trans cb hc.size,rfl,rfl,by simpa using xb.1,xb.2,?_⟩) (fun p hp=>by rw [List.mem_singleton] at hp;subst hp;exact .inl hc.size) _ ?_ ?_ ?_
    · simp only [List.nil_append,Array.length_toList,size_zeroCells,HZ]
      rw [Nat.sub_mul];have:ys.length*s≤k*s:=Nat.mul_le_mul_right _ xb.1;omega
    · have e1:(Obj.cells ((ys.flatMap f).toArray++Builtin.zeroCells z.cells (k-ys.length)) E)= .cells (arr f ([] ++ys) (Builtin.zeroCells z.cells (k-ys.length)).toList) E (0,0):=by
        congr 1;apply Array.ext';simp [arr]
      rw [e1];exact(Kk.ext (cX.drew no w)).alloc _
    · exact(hc.step (cX.drew no w) (fun _ _ q=>q.elim)).step (bE w.drew _) (fun _ _ q=>q.elim)
    · exact GS.ext w.drew _ (GS.ext w _ hg (cX.drew no w)) (bE w.drew _)
  · have Cu:=Kk.get (i:=0) rfl
    have Lg:(arr f xs bz).size=cap*s:=by simp [arr,bQ hf,Mu]
    by_cases vq:xs.length+ys.length≤cap
    · have hmul:(xs.length+ys.length)*s≤cap*s:=Nat.mul_le_mul_right _ vq
      rw [Nat.add_mul] at hmul;have hr:=run_append_room (P:=P) w t ty E inf hU B5 b xs.length cap (arr f xs bz) Cu ⟨bx,off,none⟩ ys.length c (ys.flatMap f) H2 uF (fun u hu=>XD u hu) vq (by rw [hs,bQ hf,Lg];exact hmul);refine step _ _ hr ?_;rw [hs,bQ hf]
      have e1:(((arr f xs bz).toList.take (xs.length*s)++ys.flatMap f++(arr f xs bz).toList.drop (xs.length*s+ys.length*s)).toArray)=arr f (xs++ys) (bz.drop (ys.length*s)):=by
        apply Array.ext'
        have hl:=bQ hf xs;simp only [arr,List.flatMap_append];rw [←hl,List.take_left,List.drop_append,List.drop_eq_nil_of_le om,List.nil_append,Nat.add_sub_cancel_left]
      rw [e1]
      have TH:(w.setRow b (arr f (xs++ys) (bz.drop (ys.length*s)))).heap[b]? =some (.cells (arr f (xs++ys) (bz.drop (ys.length*s))) E (0,0)):=by
        obtain ⟨bB,hk⟩:=Array.getElem?_eq_some_iff.1 Cu
        show (w.heap.modify b _)[b]? =_
        rw [Array.getElem?_eq_getElem (by rw [Array.size_modify];exact bB),Array.getElem_modify_self,hk]
      have yF:cX (fun x=>x=b) w (w.setRow b (arr f (xs++ys) (bz.drop (ys.length*s)))):=⟨rfl,rfl,rfl,by simp [World.setRow],fun k _ hn=>by
        simp only [World.setRow,Array.getElem?_modify];rw [if_neg (Ne.symm hn)]⟩
      refine h' _ [(b,.cells (arr f (xs++ys) (bz.drop (ys.length*s))) E (0,0))] (.inr ⟨b,cap,bz.drop (ys.length*s),hb,by simp,rfl,by simpa using vq,SV,?_⟩) (fun p hp=>by rw [List.mem_singleton] at hp;subst hp;exact .inr ⟨_,List.mem_singleton.2 rfl,rfl⟩) _ ?_ ?_ ?_
      · simp only [List.length_append,List.length_drop,Nat.add_mul];omega
      · exact Kk.set (i:=0) rfl TH yF
      · exact hc.step yF (fun k hk OW=>by subst OW;exact Y3 _ (List.mem_singleton.2 rfl) hk)
      · exact GT.xQ _ w _ hg yF (.one yF Cu rfl)
    · have holds:∀j u,(xs.flatMap f)[j]? =some u→w.cell? ((⟨b,0,none⟩:Addr).add j)=some u:=fun j u hj=>by
        have Qb:j<(xs.flatMap f).length:=(List.getElem?_eq_some_iff.1 hj).1;rw [iT];simp [World.cell?,Cu,arr,List.getElem?_append_left Qb,hj]
      have hr:=run_append_grow (P:=P) w t ty E inf z hU B5 hz ⟨b,0,none⟩ xs.length cap (xs.flatMap f) (by rw [bQ hf,hs]) holds ⟨bx,off,none⟩ ys.length c (ys.flatMap f) H2 uF om (by unfold maxLen at hlen;omega) (growslice_fits om pL);refine step _ _ hr ?_;obtain ⟨k,hk,xb⟩:∃k,grownCap w (xs.length+ys.length) cap E=k∧xs.length+ys.length≤k∧k≤maxLen:=⟨_,rfl,grownCap_ge w _ cap E,grownCap_le_maxLen w _ cap E hlen⟩
      rw [hk];refine h' _ [(w.heap.size,.cells (arr f (xs++ys) (Builtin.zeroCells z.cells (k-(xs.length+ys.length))).toList) E (0,0))] (.inr ⟨w.heap.size,k,(Builtin.zeroCells z.cells (k-(xs.length+ys.length))).toList,Nat.le_trans cb hc.size,by simp,rfl,by simpa using xb.1,xb.2,?_⟩) (fun p hp=>by rw [List.mem_singleton] at hp;subst hp;exact .inl hc.size) _ ?_ ?_ ?_
      · simp only [List.length_append,Array.length_toList,size_zeroCells,HZ]
        rw [Nat.sub_mul];have:(xs.length+ys.length)*s≤k*s:=Nat.mul_le_mul_right _ xb.1;omega
      · have e1:(Obj.cells ((xs.flatMap f).toArray++(ys.flatMap f).toArray++Builtin.zeroCells z.cells (k-(xs.length+ys.length))) E)= .cells (arr f (xs++ys) (Builtin.zeroCells z.cells (k-(xs.length+ys.length))).toList) E (0,0):=by
          congr 1;apply Array.ext';simp [arr]
        rw [e1];have Zn:Mem w M2:=by simpa using Kk.tail
        exact(Zn.ext (cX.drew no w)).alloc _
      · exact(hc.step (cX.drew no w) (fun _ _ q=>q.elim)).step (bE w.drew _) (fun _ _ q=>q.elim)
      · exact GS.ext w.drew _ (GS.ext w _ hg (cX.drew no w)) (bE w.drew _)
end
section
variable {P:Program} {r:Option Nat} {N:Nat} {Q:Exit→Act→World→Prop} {e:Env} {ds:List Nat} {M:aa} {S:Nat→Prop} {w0:World} {G:World→Prop}
variable {ops:Array Oper} {l:List Oper} {op:Op} {ty:TypeId} {pos:String} {after:Array Edge} {d:Nat}
end
end Go.Eng
namespace Go.Eng
open Go Go.RowKit Go.Lib Go.Sort
section
variable {P:Program} {r:Option Nat} {N:Nat} {Q:Exit→Go.Act→World→Prop} {e:Env} {ds:List Nat} {M:aa} {S:Nat→Prop} {w0:World} {G:World→Prop}
variable {ops:Array Oper} {l:List Oper} {ty:TypeId} {pos:String} {after:Array Edge} {d:Nat} {x y:Operand} {t:TypeId}
end
section
variable {P:Program} {r:Option Nat} {N:Nat} {Q:Exit→Go.Act→World→Prop} {e:Env} {ds:List Nat} {M:aa} {S:Nat→Prop} {w0:World} {G:World→Prop}
variable {ops:Array Oper} {l:List Oper} {ty:TypeId} {pos:String} {after:Array Edge} {d:Nat} {t:TypeId}
theorem LM.K7 [GS G] {E:TypeId} {s:Nat} (hU:P.underlying t=some (.slice E)) (hS:∀w,(sizeOf E).run P w= .ok s w) (hd:Nat.blt d N=true)
    (h:∀b,w0.heap.size≤b→LM P r N ops Q l ((d,.slice (some ⟨b,0,none⟩) 0 0)::e) ds ((b,.cells (([] :List Value).toArray) E (0,0))::M) S w0 G):LM P r N ops Q (⟨some d,.buildSlice t 0 #[],ty,pos,after,none⟩::l) e ds M S w0 G:=fun w hm hc hg=>by
  refine LE.val (w':=w.alloc (.cells ([] :List Value).toArray E)) (fun ρ hρ _ _ _ _=>?_) (h w.heap.size hc.size _ (hm.alloc _) (hc.step (bE w _) (fun _ _ q=>q.elim)) (GS.ext w _ hg (bE w _))) rfl hd;simp [execOp,Instr.buildSlice,run_underlying hU,hS,Instr.fill,newRow,Result.andThen];rw [show (Array.range 0)=#[] by decide,Array.map_empty]
end
section
variable {P:Program} {r:Option Nat} {N:Nat} {Q:Exit→Go.Act→World→Prop} {e:Env} {ds:List Nat} {M:aa} {S:Nat→Prop} {w0:World} {G:World→Prop}
variable {ops:Array Oper} {l:List (Nat×Nat)} {op:Op} {ty:TypeId} {pos:String} {after:Array Edge} {d i:Nat}
theorem LD.Lr {j t:Nat} {b:Bool} (hi:ops[i]? =some ⟨some d,op,ty,pos,after,some (j,b)⟩) (hj:(ops[j]?).bind (·.dst)=some t) (ht:look e t=some undef) (h:LD P r N ops Q l ((d,undef)::e) ds M S w0 G) (hd:Nat.blt d N=true:=by rfl):
    LD P r N ops Q ((i,2)::l) e ds M S w0 G:=fun a hf eN=>by
  have hw:Region.wanted ⟨some d,op,ty,pos,after,some (j,b)⟩ (yielded ops a.tmps)=false:=by
    simp only [Region.wanted,yielded,hj,Option.bind_some,hf.2 t _ ht,undef];rfl
  have hl:=h _ (hf.put hd undef) eN;simp only [xc,hi];intro w hC
  unfold wpOpIn
  rw [hi];simp only;rw [if_neg (by rw [hw];simp)];exact⟨fun _ _=>trivial,Fz M S w0 G,fun _ h=>h,hC,hl⟩
theorem LD.iO [GS G] {gd:Option (Nat×Bool)} {g:FuncId} {args:Array Value} {T:Nat→Value→aa→Prop} (hi:ops[i]? =some ⟨some d,op,ty,pos,after,gd⟩) (Gt:sz ops e gd true) (hc:∀w,yy P op ty e w g args) (Ii:∀n n' u m,n'≤n→T n u m→T n' u m)
    (h:∀w,Mem w M→cX S w0 w→G w→aJ P g args w (fun u w'=>Ext w w'∧∃m,T w.heap.size u m∧Mem w' m∧∀p∈m,w.heap.size≤p.1))
    (hk:∀u m,T w0.heap.size u m→(∀p∈m,w0.heap.size≤p.1)→LD P r N ops Q l ((d,u)::e) ds (M++m) S w0 G) (dt:nd op=true:=by rfl) (hd:Nat.blt d N=true:=by rfl):
    LD P r N ops Q ((i,2)::l) e ds M S w0 G:=
  .Mg hi Gt hc (fun w hm gC hg=>h w hm gC hg) (fun w u w' hm gC hg ⟨he,m,hT,aq,FW⟩=>by
    refine ⟨M++m,fun w h=>h.sub (List.sublist_append_left _ _),⟨Mem.perm (M:=m++M) ⟨?_,fun p hp=>?_⟩ List.perm_append_comm,gC.step he (fun _ _ q=>q.elim),GS.ext w w' hg he⟩,hk u m (Ii _ _ u m gC.size hT) (fun p hp=>Nat.le_trans gC.size (FW p hp))⟩
    · rw [List.map_append]
      refine List.nodup_append.2 ⟨aq.1,hm.1,?_⟩;intro x hx y hy SJ;obtain ⟨p,hp,rfl⟩:=List.mem_map.1 hx;obtain ⟨q,hq,rfl⟩:=List.mem_map.1 hy;have:=FW p hp;have:=hm.lt hq;omega
    · rcases List.mem_append.1 hp with hp|hp
      · exact aq.2 p hp
      · exact he.get (hm.2 p hp)) dt hd
end
theorem Sl.void {α:Type} {f:α→List Value} {E s n0 b cap:Nat} {cs:List Value} (hb:n0≤b) (hc:cap≤maxLen) (hl:cs.length=cap*s):Sl f E s n0 ([] :List α) (.slice (some ⟨b,0,none⟩) 0 cap) [(b,.cells cs.toArray E (0,0))] :=
  .inr ⟨b,cap,cs,hb,rfl,by simp [arr],Nat.zero_le _,hc,by simpa using hl⟩
end Go.Eng
namespace Go.Eng
open Go Go.RowKit
section
variable {P:Program} {r:Option Nat} {N:Nat} {Q:Exit→Act→World→Prop} {e:Env} {ds:List Nat} {M:aa} {S:Nat→Prop} {w0:World} {G:World→Prop}
variable {ops:Array Oper} {l:List Oper} {ty:TypeId} {pos:String} {after:Array Edge} {d:Nat} {x y:Operand} {t:TypeId}
end
section
variable {P:Program} {r:Option Nat} {N:Nat} {Q:Exit→Act→World→Prop} {e:Env} {ds:List Nat} {M m:aa} {w0 w1:World} {n k:Nat} {J:Nat→aa→World→Prop} {Jx K:World→Prop}
variable {ops:Array Oper} {rest:List Oper} {ty:TypeId} {pos:String} {after:Array Edge} {d:Nat}
end
section range
variable {P:Program} {N:Nat} {Q:Exit→Act→World→Prop} {e:Env} {ds:List Nat} {M:aa} {S:Nat→Prop} {w0:World} {G:World→Prop}
variable {g:Operand} {ps:Array Tmp} {assign body:Code} {gf:FuncId} {lb:Array Value} {A:List (Array Value)} {Rd:World→Prop} {mp0:aa} {T:Nat→aa→Prop} {fin:Prop} {α β:Type}
end range
end Go.Eng
namespace Go.Eng
open Go Go.Proofs Go.RowKit
def PC {α:Type} :List (Nat×α)→Nat→Option α
  | [],_=>none
  |(k,v)::e,t=>match Nat.beq k t with|true=>some v|false=>PC e t
def Of {α:Type} (f:α→Prop):List α→Prop
  | [] =>True
  |a::l=>f a∧Of f l
theorem oD {α:Type} {f:Nat×α→Prop} {t:Nat} {v:α} :∀{l:List (Nat×α)},Of f l→PC l t=some v→f (t,v)
  | [],_,h=>by cases h
  |(k,u)::l,h,e=>by
    unfold PC at e
    cases q:Nat.beq k t with
    |true=>rw [q] at e;obtain rfl:=Nat.eq_of_beq_eq_true q;cases e;exact h.1
    |false=>rw [q] at e;exact oD h.2 e
class Zg (P:Program) where
  U:List (Nat×TypeDesc)
  S:List (Nat×Nat)
  hU:Of (fun p=>P.underlying p.1=some p.2) U
  hS:Of (fun p=>∀w,(sizeOf p.1).run P w= .ok p.2 w) S
def Vs (o:BinOp) (a b:Int):Option Value:=
  match o with
  | .lss=>some (.bool (decide (a<b)))
  | .leq=>some (.bool (decide (a≤b)))
  | .gtr=>some (.bool (decide (b<a)))
  | .geq=>some (.bool (decide (b≤a)))
  | .eql=>some (.bool (decide (a=b)))
  | .neq=>some (.bool (decide (a≠b)))
  |_=>none
def pv (U:List (Nat×TypeDesc)) (S:List (Nat×Nat)) (op:Op) (e:Env):Option Value:=
  match op with
  | .move x=>ev e x
  | .assign x=>ev e x
  | .pick c a b=>match ev e c with|some (.bool true)=>ev e a|some (.bool false)=>ev e b|_=>none
  | .nilCheck x=>match ev e x with|some (.pointer (some ad))=>some (.pointer (some ad))|_=>none
  | .extract x i=>match ev e x with|some (.tuple vs)=>vs[i]? |_=>none
  | .fieldAddr t x f=>match PC U t with
    |some (.struct fs)=>match ev e x with
      |some (.pointer (some ⟨b,off,none⟩))=>match (fs[f]?).map (fun fl=>(fl.type,fl.offset)) with
        |some (T,k)=>match PC S T with|some (n+1)=>some (.pointer (some ⟨b,off+k,none⟩))|_=>none
        |none=>none
      |_=>none
    |_=>none
  | .unOp .not _ x=>match ev e x with|some (.bool b)=>some (.bool (!b))|_=>none
  | .binOp o _ x y _=>match ev e x with
    |some (.int k a)=>match ev e y with
      |some (.int k' b)=>if k=k' then Vs o a b else none
      |_=>none
    |_=>none
  | .call c=>match c.callee with
    | .builtin .len=>match c.args.toList with
      | [x] =>match c.argTypes.toList with
        | [t] =>match PC U t with
          |some (.slice _)=>match ev e x with|some (.slice _ n _)=>some (.int .i64 n)|_=>none
          |_=>none
        |_=>none
      |_=>none
    |_=>none
  |_=>none
theorem Nn {U:List (Nat×TypeDesc)} {S:List (Nat×Nat)} {c:Call} {e:Env} {v:Value} (h:pv U S (.call c) e=some v):
    ∃x t E ad n cp,c= {callee:= .builtin .len,args:=#[x],argTypes:=#[t] }∧PC U t=some (.slice E)∧ev e x=some (.slice ad n cp)∧v= .int .i64 n:=by
  obtain ⟨cl,ags,yN⟩:=c
  unfold pv at h
  simp only at h
  repeat' split at h
  all_goals first|(cases h;done)|skip
  rename_i x hx _ t ht _ E hE _ ad n cp hv
  cases h
  refine ⟨x,t,E,ad,n,cp,?_,hE,hv,rfl⟩
  obtain ⟨a⟩:=ags;obtain ⟨b⟩:=yN
  simp only at hx ht
  subst hx;subst ht;rfl
theorem VG {P:Program} [T:Zg P] {op:Op} {ty:TypeId} {e:Env} {v:Value} (h:pv T.U T.S op e=some v):fb P op ty e v:=by
  cases op
  case move x=>exact Fl h
  case assign x=>exact xU h
  case pick c a b=>
    unfold pv at h;simp only at h
    split at h
    · next q=>exact LW q h
    · next q=>exact LO q h
    · cases h
  case nilCheck x=>
    unfold pv at h;simp only at h
    split at h
    · next q=>cases h;exact s5 q
    · cases h
  case extract x i=>
    unfold pv at h;simp only at h
    split at h
    · next q=>exact Dz q h
    · cases h
  case fieldAddr t x f=>
    unfold pv at h;simp only at h
    repeat' split at h
    all_goals first|(cases h;done)|skip
    rename_i fs hfs _ b off ha _ TT k hf _ n hn
    cases h
    have h1:=oD T.hU hfs;have h2:=oD T.hS hn
    cases hq:fs[f]? with
    |none=>rw [hq] at hf;cases hf
    |some fl=>
      rw [hq] at hf
      obtain ⟨e1,e2⟩:=Prod.mk.inj (Option.some.inj hf)
      exact z9 h1 hq (e1▸h2) (by rfl) e2 ha
  case unOp o t x=>
    unfold pv at h;simp only at h
    cases o<;>simp only at h
    case not=>
      split at h
      · next q=>cases h;exact R5 q
      · cases h
    all_goals cases h
  case binOp o t x y u=>
    unfold pv at h;simp only at h
    repeat' split at h
    all_goals first|(cases h;done)|skip
    rename_i hx _ _ _ hy hk
    subst hk
    unfold Vs at h
    cases o<;>simp only at h<;>cases h
    · exact RL hx hy
    · exact Tc hx hy
    · exact Ty hx hy
    · exact Tl hx hy
    · exact Rh hx hy
    · exact Q5 hx hy
  case call c=>
    obtain ⟨x,t,E,ad,n,cp,rfl,h1,h2,rfl⟩:=Nn h
    exact SD (oD T.hU h1) h2
  all_goals (unfold pv at h;cases h)
def wtB (ops:Array Oper) (e:Env) (g:Option (Nat×Bool)):Option Bool:=
  match g with
  |none=>some true
  |some (j,b)=>match (ops[j]?).bind (·.dst) with
    |some t=>match look e t with|some (.bool c)=>some (c==b)|_=>none
    |none=>none
def Ce (U:List (Nat×TypeDesc)) (S:List (Nat×Nat)) (ops:Array Oper) (N:Nat) (o:Oper) (e:Env):Option (Bool×Env):=
  match o.dst with
  |none=>none
  |some d=>match Nat.blt d N&&nd o.op with
    |false=>none
    |true=>match wtB ops e o.guard with
      |none=>none
      |some true=>match pv U S o.op e with|some v=>some (true,(d,v)::e)|none=>none
      |some false=>match look e d with|none=>some (false,e)|some _=>none
def pvL (U:List (Nat×TypeDesc)) (S:List (Nat×Nat)) (ops:Array Oper) (N:Nat):Nat→List Oper→Env→Option (List Oper×Env)
  |0,l,e=>some (l,e)
  |n+1,o::l,e=>match Ce U S ops N o e with|some (_,e')=>pvL U S ops N n l e'|none=>none
  |_+1,[],_=>none
def pvD (U:List (Nat×TypeDesc)) (S:List (Nat×Nat)) (ops:Array Oper) (N:Nat):Nat→List (Nat×Nat)→Env→Option (List (Nat×Nat)×Env)
  |0,l,e=>some (l,e)
  |n+1,(i,k)::l,e=>match ops[i]? with
    |some o=>match Ce U S ops N o e with
      |some (true,e')=>match k with|0=>pvD U S ops N n l e'|_+1=>none
      |some (false,e')=>match Nat.blt k 3 with|true=>pvD U S ops N n l e'|false=>none
      |none=>none
    |none=>none
  |_+1,[],_=>none
def ZA (U:List (Nat×TypeDesc)) (S:List (Nat×Nat)) (ops:Array Oper) (N:Nat):Nat→OT→Env→Option (OT×Env)
  |0,l,e=>some (l,e)
  |n+1,.one i k l,e=>match ops[i]? with
    |some o=>match Ce U S ops N o e with
      |some (true,e')=>match k with|0=>ZA U S ops N n l e'|_+1=>none
      |some (false,e')=>match Nat.blt k 2 with|true=>ZA U S ops N n l e'|false=>none
      |none=>none
    |none=>none
  |_+1,_,_=>none
theorem Ll {ops:Array Oper} {e:Env} {g:Option (Nat×Bool)} {b:Bool} (h:wtB ops e g=some b):sz ops e g b:=by
  cases g with
  |none=>cases h;rfl
  |some p=>
    obtain ⟨j,c⟩:=p
    unfold wtB at h;simp only at h
    cases h1:(ops[j]?).bind (·.dst) with
    |none=>rw [h1] at h;cases h
    |some t=>
      rw [h1] at h;simp only at h
      cases h2:look e t with
      |none=>rw [h2] at h;cases h
      |some u=>
        rw [h2] at h
        cases u<;>simp only at h
        case bool q=>exact⟨t,q,h1,h2,Option.some.inj h⟩
        all_goals cases h
theorem yR {P:Program} [T:Zg P] {ops:Array Oper} {N:Nat} {o:Oper} {e e':Env} {b:Bool} (h:Ce T.U T.S ops N o e=some (b,e')):
    ∃d,o.dst=some d∧Nat.blt d N=true∧nd o.op=true∧sz ops e o.guard b∧((b=true∧∃v,e'=(d,v)::e∧∀ty,fb P o.op ty e v)∨(b=false∧e'=e∧look e d=none)):=by
  unfold Ce at h
  cases h1:o.dst with
  |none=>rw [h1] at h;cases h
  |some d=>
    rw [h1] at h;simp only at h
    cases h2:Nat.blt d N&&nd o.op with
    |false=>rw [h2] at h;cases h
    |true=>
      rw [h2] at h;simp only at h
      rw [Bool.and_eq_true] at h2
      cases h3:wtB ops e o.guard with
      |none=>rw [h3] at h;cases h
      |some c=>
        rw [h3] at h
        cases c with
        |true=>
          simp only at h
          cases h4:pv T.U T.S o.op e with
          |none=>rw [h4] at h;cases h
          |some v=>rw [h4] at h;cases h;exact⟨d,rfl,h2.1,h2.2,Ll h3,.inl ⟨rfl,v,rfl,fun ty=>VG h4⟩⟩
        |false=>
          simp only at h
          cases h4:look e d with
          |some v=>rw [h4] at h;cases h
          |none=>rw [h4] at h;cases h;exact⟨d,rfl,h2.1,h2.2,Ll h3,.inr ⟨rfl,rfl,h4⟩⟩
section
variable {P:Program} [T:Zg P] {r:Option Nat} {N:Nat} {Q:Exit→Act→World→Prop} {ds:List Nat} {M:aa} {S:Nat→Prop} {w0:World} {G:World→Prop} {ops:Array Oper}
theorem LM.V:∀(n:Nat) {l l':List Oper} {e e':Env},pvL T.U T.S ops N n l e=some (l',e')→LM P r N ops Q l' e' ds M S w0 G→LM P r N ops Q l e ds M S w0 G
  |0,l,l',e,e',h,k=>by cases h;exact k
  |n+1,[],l',e,e',h,k=>by cases h
  |n+1,o::l,l',e,e',h,k=>by
    unfold pvL at h
    cases h1:Ce T.U T.S ops N o e with
    |none=>rw [h1] at h;cases h
    |some p=>
      obtain ⟨b,e1⟩:=p
      rw [h1] at h;simp only at h
      have k1:=LM.V n h k
      obtain ⟨d,q1,q2,q3,q4,q5⟩:=yR h1
      obtain ⟨dst,op,ty,pos,after,g⟩:=o
      simp only at q1 q3 q4 q5;subst q1
      rcases q5 with ⟨rfl,v,rfl,hv⟩|⟨rfl,rfl,hf⟩
      · have k2:LM P r N ops Q (⟨some d,op,ty,pos,after,none⟩::l) e ds M S w0 G:=LM.val (hv _) k1 q3 q2
        cases g with
        |none=>exact k2
        |some p=>
          obtain ⟨j,c⟩:=p
          obtain ⟨t,u,z1,z2,z3⟩:=q4
          have z3:u=c:=by simpa using z3
          subst z3
          exact LM.strip z1 z2 rfl k2
      · cases g with
        |none=>cases q4
        |some p=>
          obtain ⟨j,c⟩:=p
          obtain ⟨t,u,z1,z2,z3⟩:=q4
          exact LM.drop z1 z2 z3 k1 q2 hf
theorem LD.V:∀(n:Nat) {l l':List (Nat×Nat)} {e e':Env},pvD T.U T.S ops N n l e=some (l',e')→LD P r N ops Q l' e' ds M S w0 G→LD P r N ops Q l e ds M S w0 G
  |0,l,l',e,e',h,k=>by cases h;exact k
  |n+1,[],l',e,e',h,k=>by cases h
  |n+1,(i,m)::l,l',e,e',h,k=>by
    unfold pvD at h
    cases h0:ops[i]? with
    |none=>rw [h0] at h;cases h
    |some o=>
      rw [h0] at h;simp only at h
      cases h1:Ce T.U T.S ops N o e with
      |none=>rw [h1] at h;cases h
      |some p=>
        obtain ⟨b,e1⟩:=p
        rw [h1] at h
        obtain ⟨d,q1,q2,q3,q4,q5⟩:=yR h1
        obtain ⟨dst,op,ty,pos,after,g⟩:=o
        simp only at q1 q3 q4 q5;subst q1
        rcases q5 with ⟨rfl,v,rfl,hv⟩|⟨rfl,rfl,hf⟩
        · cases m with
          |zero=>exact LD.val h0 q4 (hv _) (LD.V n h k) q3 q2
          |succ m=>cases h
        · simp only at h
          cases h2:Nat.blt m 3 with
          |true=>rw [h2] at h;exact LD.drop h2 h0 q4 (LD.V n h k) q2 hf
          |false=>rw [h2] at h;cases h
theorem KD.V {MD:aa} {GD:World→Prop} :∀(n:Nat) {l l':OT} {e e':Env},ZA T.U T.S ops N n l e=some (l',e')→KD P r N ops Q MD GD l' e' ds M S w0 G→KD P r N ops Q MD GD l e ds M S w0 G
  |0,l,l',e,e',h,k=>by cases h;exact k
  |n+1,.one i m l,l',e,e',h,k=>by
    unfold ZA at h
    cases h0:ops[i]? with
    |none=>rw [h0] at h;cases h
    |some o=>
      rw [h0] at h;simp only at h
      cases h1:Ce T.U T.S ops N o e with
      |none=>rw [h1] at h;cases h
      |some p=>
        obtain ⟨b,e1⟩:=p
        rw [h1] at h
        obtain ⟨d,q1,q2,q3,q4,q5⟩:=yR h1
        obtain ⟨dst,op,ty,pos,after,g⟩:=o
        simp only at q1 q3 q4 q5;subst q1
        rcases q5 with ⟨rfl,v,rfl,hv⟩|⟨rfl,rfl,hf⟩
        · cases m with
          |zero=>exact KD.val h0 q4 (hv _) (KD.V n h k) q3 q2
          |succ m=>cases h
        · simp only at h
          cases h2:Nat.blt m 2 with
          |true=>rw [h2] at h;exact KD.drop h2 h0 q4 (KD.V n h k) q2 hf
          |false=>rw [h2] at h;cases h
  |n+1,.nil,l',e,e',h,k=>by cases h
  |n+1,.fork ..,l',e,e',h,k=>by cases h
  |n+1,.UW ..,l',e,e',h,k=>by cases h
  |n+1,.last ..,l',e,e',h,k=>by cases h
end
instance:Zg Tryz.prog:=⟨[(22,_),(24,_),(26,_),(27,_),(28,_),(30,_),(37,_),(39,_),(43,_),(45,_),(46,_),(47,_),(49,_),(53,_),(56,_),(58,_),(61,_),(66,_),(68,_),(72,_),(75,_),(83,_),(105,_),(115,_),(117,_),(118,_),(120,_),(125,_),(128,_),(130,_),(137,_),(143,_),(144,_),(146,_),(152,_),(157,_),(168,_),(171,_)],[(3,_),(4,_),(9,_),(22,_),(26,_),(27,_),(28,_),(30,_),(37,_),(41,_),(42,_),(43,_),(44,_),(45,_),(46,_),(47,_),(53,_),(54,_),(56,_),(58,_),(59,_),(66,_),(68,_),(72,_),(83,_),(105,_),(115,_),(117,_),(118,_),(122,_),(128,_),(137,_),(143,_),(144,_),(152,_),(168,_)],⟨Tryz.underlying22,Tryz.underlying24,Tryz.underlying26,Tryz.underlying27,Tryz.underlying28,Tryz.underlying30,Tryz.underlying37,Tryz.underlying39,Tryz.underlying43,Tryz.underlying45,Tryz.underlying46,Tryz.underlying47,Tryz.underlying49,Tryz.underlying53,Tryz.underlying56,Tryz.underlying58,Tryz.underlying61,Tryz.underlying66,Tryz.underlying68,Tryz.underlying72,Tryz.underlying75,Tryz.underlying83,Tryz.underlying105,Tryz.underlying115,Tryz.underlying117,Tryz.underlying118,Tryz.underlying120,Tryz.underlying125,Tryz.underlying128,Tryz.underlying130,Tryz.underlying137,Tryz.underlying143,Tryz.underlying144,Tryz.underlying146,Tryz.underlying152,Tryz.underlying157,Tryz.underlying168,Tryz.underlying171,trivial⟩,⟨Tryz.sizeOf3,Tryz.sizeOf4,Tryz.sizeOf9,Tryz.sizeOf22,Tryz.sizeOf26,Tryz.sizeOf27,Tryz.sizeOf28,Tryz.sizeOf30,Tryz.sizeOf37,Tryz.sizeOf41,Tryz.sizeOf42,Tryz.sizeOf43,Tryz.sizeOf44,Tryz.sizeOf45,Tryz.sizeOf46,Tryz.sizeOf47,Tryz.sizeOf53,Tryz.sizeOf54,Tryz.sizeOf56,Tryz.sizeOf58,Tryz.sizeOf59,Tryz.sizeOf66,Tryz.sizeOf68,Tryz.sizeOf72,Tryz.sizeOf83,Tryz.sizeOf105,Tryz.sizeOf115,Tryz.sizeOf117,Tryz.sizeOf118,Tryz.sizeOf122,Tryz.sizeOf128,Tryz.sizeOf137,Tryz.sizeOf143,Tryz.sizeOf144,Tryz.sizeOf152,Tryz.sizeOf168,trivial⟩⟩
theorem kq1 {P:Program} {r:Option Nat} {N:Nat} {Q:Exit→Go.Act→World→Prop} {e:Env} {ds:List Nat} {M MD:aa} {S:Nat→Prop} {w0:World} {G GD:World→Prop} {ops:Array Oper} {l:OT} (h:KD P r N ops Q MD GD l e ds M S w0 G) (hM:aT M MD:=by exact aX) (hG:∀w,G w→GD w:=by exact fun _ _=>trivial):QM N (KQ P r N ops Q (Fz MD S w0 GD) l) .normal e ds M S w0 G:=QM.one hM hG h
instance:wv Tryz.prog 3:=⟨_,Tryz.isAgg3⟩
instance:wv Tryz.prog 4:=⟨_,Tryz.isAgg4⟩
instance:wv Tryz.prog 9:=⟨_,Tryz.isAgg9⟩
instance:wv Tryz.prog 22:=⟨_,Tryz.isAgg22⟩
instance:wv Tryz.prog 26:=⟨_,Tryz.isAgg26⟩
instance:wv Tryz.prog 27:=⟨_,Tryz.isAgg27⟩
instance:wv Tryz.prog 28:=⟨_,Tryz.isAgg28⟩
instance:wv Tryz.prog 41:=⟨_,Tryz.isAgg41⟩
instance:wv Tryz.prog 42:=⟨_,Tryz.isAgg42⟩
instance:wv Tryz.prog 43:=⟨_,Tryz.isAgg43⟩
instance:wv Tryz.prog 44:=⟨_,Tryz.isAgg44⟩
instance:wv Tryz.prog 45:=⟨_,Tryz.isAgg45⟩
instance:wv Tryz.prog 46:=⟨_,Tryz.isAgg46⟩
instance:wv Tryz.prog 47:=⟨_,Tryz.isAgg47⟩
instance:wv Tryz.prog 56:=⟨_,Tryz.isAgg56⟩
instance:wv Tryz.prog 59:=⟨_,Tryz.isAgg59⟩
instance:wv Tryz.prog 105:=⟨_,Tryz.isAgg105⟩
instance:wv Tryz.prog 115:=⟨_,Tryz.isAgg115⟩
instance:wv Tryz.prog 118:=⟨_,Tryz.isAgg118⟩
instance:wv Tryz.prog 128:=⟨_,Tryz.isAgg128⟩
instance:wv Tryz.prog 144:=⟨_,Tryz.isAgg144⟩
instance:mL Tryz.prog 3:=⟨_,Tryz.sizeOf3⟩
instance:mL Tryz.prog 4:=⟨_,Tryz.sizeOf4⟩
instance:mL Tryz.prog 9:=⟨_,Tryz.sizeOf9⟩
instance:mL Tryz.prog 22:=⟨_,Tryz.sizeOf22⟩
instance:mL Tryz.prog 26:=⟨_,Tryz.sizeOf26⟩
instance:mL Tryz.prog 27:=⟨_,Tryz.sizeOf27⟩
instance:mL Tryz.prog 28:=⟨_,Tryz.sizeOf28⟩
instance:mL Tryz.prog 30:=⟨_,Tryz.sizeOf30⟩
instance:mL Tryz.prog 37:=⟨_,Tryz.sizeOf37⟩
instance:mL Tryz.prog 41:=⟨_,Tryz.sizeOf41⟩
instance:mL Tryz.prog 42:=⟨_,Tryz.sizeOf42⟩
instance:mL Tryz.prog 43:=⟨_,Tryz.sizeOf43⟩
instance:mL Tryz.prog 44:=⟨_,Tryz.sizeOf44⟩
instance:mL Tryz.prog 45:=⟨_,Tryz.sizeOf45⟩
instance:mL Tryz.prog 46:=⟨_,Tryz.sizeOf46⟩
instance:mL Tryz.prog 47:=⟨_,Tryz.sizeOf47⟩
instance:mL Tryz.prog 53:=⟨_,Tryz.sizeOf53⟩
instance:mL Tryz.prog 54:=⟨_,Tryz.sizeOf54⟩
instance:mL Tryz.prog 56:=⟨_,Tryz.sizeOf56⟩
instance:mL Tryz.prog 58:=⟨_,Tryz.sizeOf58⟩
instance:mL Tryz.prog 59:=⟨_,Tryz.sizeOf59⟩
instance:mL Tryz.prog 66:=⟨_,Tryz.sizeOf66⟩
instance:mL Tryz.prog 68:=⟨_,Tryz.sizeOf68⟩
instance:mL Tryz.prog 72:=⟨_,Tryz.sizeOf72⟩
instance:mL Tryz.prog 83:=⟨_,Tryz.sizeOf83⟩
instance:mL Tryz.prog 105:=⟨_,Tryz.sizeOf105⟩
instance:mL Tryz.prog 115:=⟨_,Tryz.sizeOf115⟩
instance:mL Tryz.prog 117:=⟨_,Tryz.sizeOf117⟩
instance:mL Tryz.prog 118:=⟨_,Tryz.sizeOf118⟩
instance:mL Tryz.prog 122:=⟨_,Tryz.sizeOf122⟩
instance:mL Tryz.prog 128:=⟨_,Tryz.sizeOf128⟩
instance:mL Tryz.prog 137:=⟨_,Tryz.sizeOf137⟩
instance:mL Tryz.prog 143:=⟨_,Tryz.sizeOf143⟩
instance:mL Tryz.prog 144:=⟨_,Tryz.sizeOf144⟩
instance:mL Tryz.prog 152:=⟨_,Tryz.sizeOf152⟩
instance:mL Tryz.prog 168:=⟨_,Tryz.sizeOf168⟩
instance:lY Tryz.prog 22:=⟨_,Tryz.underlying22⟩
instance:lY Tryz.prog 24:=⟨_,Tryz.underlying24⟩
instance:lY Tryz.prog 26:=⟨_,Tryz.underlying26⟩
instance:lY Tryz.prog 27:=⟨_,Tryz.underlying27⟩
instance:lY Tryz.prog 28:=⟨_,Tryz.underlying28⟩
instance:lY Tryz.prog 30:=⟨_,Tryz.underlying30⟩
instance:lY Tryz.prog 37:=⟨_,Tryz.underlying37⟩
instance:lY Tryz.prog 39:=⟨_,Tryz.underlying39⟩
instance:lY Tryz.prog 43:=⟨_,Tryz.underlying43⟩
instance:lY Tryz.prog 45:=⟨_,Tryz.underlying45⟩
instance:lY Tryz.prog 46:=⟨_,Tryz.underlying46⟩
instance:lY Tryz.prog 47:=⟨_,Tryz.underlying47⟩
instance:lY Tryz.prog 49:=⟨_,Tryz.underlying49⟩
instance:lY Tryz.prog 53:=⟨_,Tryz.underlying53⟩
instance:lY Tryz.prog 56:=⟨_,Tryz.underlying56⟩
instance:lY Tryz.prog 58:=⟨_,Tryz.underlying58⟩
instance:lY Tryz.prog 61:=⟨_,Tryz.underlying61⟩
instance:lY Tryz.prog 66:=⟨_,Tryz.underlying66⟩
instance:lY Tryz.prog 68:=⟨_,Tryz.underlying68⟩
instance:lY Tryz.prog 72:=⟨_,Tryz.underlying72⟩
instance:lY Tryz.prog 75:=⟨_,Tryz.underlying75⟩
instance:lY Tryz.prog 83:=⟨_,Tryz.underlying83⟩
instance:lY Tryz.prog 105:=⟨_,Tryz.underlying105⟩
instance:lY Tryz.prog 115:=⟨_,Tryz.underlying115⟩
instance:lY Tryz.prog 117:=⟨_,Tryz.underlying117⟩
instance:lY Tryz.prog 118:=⟨_,Tryz.underlying118⟩
instance:lY Tryz.prog 120:=⟨_,Tryz.underlying120⟩
instance:lY Tryz.prog 125:=⟨_,Tryz.underlying125⟩
instance:lY Tryz.prog 128:=⟨_,Tryz.underlying128⟩
instance:lY Tryz.prog 130:=⟨_,Tryz.underlying130⟩
instance:lY Tryz.prog 137:=⟨_,Tryz.underlying137⟩
instance:lY Tryz.prog 143:=⟨_,Tryz.underlying143⟩
instance:lY Tryz.prog 144:=⟨_,Tryz.underlying144⟩
instance:lY Tryz.prog 146:=⟨_,Tryz.underlying146⟩
instance:lY Tryz.prog 152:=⟨_,Tryz.underlying152⟩
instance:lY Tryz.prog 157:=⟨_,Tryz.underlying157⟩
instance:lY Tryz.prog 168:=⟨_,Tryz.underlying168⟩
instance:lY Tryz.prog 171:=⟨_,Tryz.underlying171⟩
theorem Wn {P:Program} [T:Zg P] {ty:TypeId} {e:Env} {x y:Operand} {t:TypeId} {k:IntKind} {i:Nat} {ad:Option Addr} {n c s:Nat} {E:TypeId} (ha:ev e x=some (.slice ad n c)) (hi:ev e y=some (.int k (i:Nat))) (hU:PC T.U t=some (.slice E)) (hS:PC T.S E=some s) (hp:W2 n ad) (h:i<n):fb P (.indexAddr t x y) ty e (.pointer (some ⟨iM ad,Ck ad+i*s,none⟩)):=jr hp (oD T.hU hU) (oD T.hS hS) ha hi h
theorem LM.spB {P:Program} {r:Option Nat} {N:Nat} {Q:Exit→Act→World→Prop} {e:Env} {ds:List Nat} {M:aa} {S:Nat→Prop} {w0:World} {G:World→Prop} {ops:Array Oper} {l:List Oper} {o:Oper} {j t:Nat} {b:Bool} (ho:o.guard=some (j,b)) (hj:(ops[j]?).bind (·.dst)=some t) (ht:look e t=some (.bool b)) (h:LM P r N ops Q ({o with guard:=none} ::l) e ds M S w0 G):LM P r N ops Q (o::l) e ds M S w0 G:= .strip hj ht ho h
attribute [local irreducible] LM LD KD af QM
structure Bx (q:Prop):Prop where
  h:q
theorem Js {p q:Prop} (k:q) (h:Bx q→p:=by(intro z;(first|refine LM.V 1 rfl ?_|refine LM.rd (Xm rfl rfl rfl) ?_|refine LM.nil ?_|refine QM.then ?_|refine af.seq ?_|refine af.region ?_|refine LD.V 1 rfl ?_|refine LD.rd rfl rfl (Xm rfl rfl rfl) ?_|refine af.skip ?_|refine af.ret ?_|refine QM.Lv ?_|refine QM.Hn ?_|refine QM.zm ?_|refine QM.Gl ?_|refine QM.sk ?_|refine af.block ?_|refine af.exit ?_|refine LM.val (Wn rfl rfl rfl rfl o5 om) ?_|refine LM.val (nf rfl rfl om) ?_|refine LM.val (z6 rfl rfl om) ?_|refine LM.spB rfl rfl rfl ?_|refine LM.Io rfl rfl ?_|refine LD.rd rfl ⟨_,_,rfl,rfl,rfl⟩ (Xm rfl rfl rfl) ?_|refine LD.val rfl rfl (Wn rfl rfl rfl rfl o5 om) ?_|refine LD.val rfl ⟨_,_,rfl,rfl,rfl⟩ (Wn rfl rfl rfl rfl o5 om) ?_|refine LD.Io rfl rfl rfl rfl ?_|refine LD.nil ?_|refine KD.V 1 rfl ?_|refine KD.rd rfl rfl (Xm rfl rfl rfl) ?_|refine KD.rd rfl ⟨_,_,rfl,rfl,rfl⟩ (Xm rfl rfl rfl) ?_|refine KD.val rfl rfl (Wn rfl rfl rfl rfl o5 om) ?_|refine KD.val rfl ⟨_,_,rfl,rfl,rfl⟩ (Wn rfl rfl rfl rfl o5 om) ?_|refine KD.one rfl ?_|refine kq1 ?_|refine KD.nil ?_|refine af.KA rfl ?_|refine af.LZ rfl ?_|refine QM.pQ rfl ?_);exact z.1)):p:=h ⟨k⟩
theorem J1 {p q:Prop} (k:q) (h:Bx q→p:=by(intro z;(iterate 1 (refine Js ?_));exact z.1)):p:=h ⟨k⟩
theorem J2 {p q:Prop} (k:q) (h:Bx q→p:=by(intro z;(iterate 2 (refine Js ?_));exact z.1)):p:=h ⟨k⟩
theorem J3 {p q:Prop} (k:q) (h:Bx q→p:=by(intro z;(iterate 3 (refine Js ?_));exact z.1)):p:=h ⟨k⟩
theorem J4 {p q:Prop} (k:q) (h:Bx q→p:=by(intro z;(iterate 4 (refine Js ?_));exact z.1)):p:=h ⟨k⟩
theorem J5 {p q:Prop} (k:q) (h:Bx q→p:=by(intro z;(iterate 5 (refine Js ?_));exact z.1)):p:=h ⟨k⟩
theorem J6 {p q:Prop} (k:q) (h:Bx q→p:=by(intro z;(iterate 6 (refine Js ?_));exact z.1)):p:=h ⟨k⟩
theorem J7 {p q:Prop} (k:q) (h:Bx q→p:=by(intro z;(iterate 7 (refine Js ?_));exact z.1)):p:=h ⟨k⟩
theorem J8 {p q:Prop} (k:q) (h:Bx q→p:=by(intro z;(iterate 8 (refine Js ?_));exact z.1)):p:=h ⟨k⟩
theorem J9 {p q:Prop} (k:q) (h:Bx q→p:=by(intro z;(iterate 9 (refine Js ?_));exact z.1)):p:=h ⟨k⟩
theorem cf {p q:Prop} (k:q) (h:Bx q→p:=by(intro z;(iterate 10 (refine Js ?_));exact z.1)):p:=h ⟨k⟩
theorem dB {p q:Prop} (k:q) (h:Bx q→p:=by(intro z;(iterate 11 (refine Js ?_));exact z.1)):p:=h ⟨k⟩
theorem cK {p q:Prop} (k:q) (h:Bx q→p:=by(intro z;(iterate 12 (refine Js ?_));exact z.1)):p:=h ⟨k⟩
theorem gw {p q:Prop} (k:q) (h:Bx q→p:=by(intro z;(iterate 13 (refine Js ?_));exact z.1)):p:=h ⟨k⟩
theorem lg {p q:Prop} (k:q) (h:Bx q→p:=by(intro z;(iterate 14 (refine Js ?_));exact z.1)):p:=h ⟨k⟩
theorem ud {p q:Prop} (k:q) (h:Bx q→p:=by(intro z;(iterate 15 (refine Js ?_));exact z.1)):p:=h ⟨k⟩
theorem Fw {p q:Prop} (k:q) (h:Bx q→p:=by(intro z;(iterate 16 (refine Js ?_));exact z.1)):p:=h ⟨k⟩
theorem xW {p q:Prop} (k:q) (h:Bx q→p:=by(intro z;(iterate 17 (refine Js ?_));exact z.1)):p:=h ⟨k⟩
theorem Fj {p q:Prop} (k:q) (h:Bx q→p:=by(intro z;(iterate 18 (refine Js ?_));exact z.1)):p:=h ⟨k⟩
theorem TS {p q:Prop} (k:q) (h:Bx q→p:=by(intro z;(iterate 19 (refine Js ?_));exact z.1)):p:=h ⟨k⟩
theorem US {p q:Prop} (k:q) (h:Bx q→p:=by(intro z;(iterate 20 (refine Js ?_));exact z.1)):p:=h ⟨k⟩
theorem J21 {p q:Prop} (k:q) (h:Bx q→p:=by(intro z;(iterate 21 (refine Js ?_));exact z.1)):p:=h ⟨k⟩
theorem J22 {p q:Prop} (k:q) (h:Bx q→p:=by(intro z;(iterate 22 (refine Js ?_));exact z.1)):p:=h ⟨k⟩
theorem XC {p q:Prop} (k:q) (h:Bx q→p:=by(intro z;(iterate 23 (refine Js ?_));exact z.1)):p:=h ⟨k⟩
theorem J24 {p q:Prop} (k:q) (h:Bx q→p:=by(intro z;(iterate 24 (refine Js ?_));exact z.1)):p:=h ⟨k⟩
theorem J25 {p q:Prop} (k:q) (h:Bx q→p:=by(intro z;(iterate 25 (refine Js ?_));exact z.1)):p:=h ⟨k⟩
theorem Uz {p q:Prop} (k:q) (h:Bx q→p:=by(intro z;(iterate 26 (refine Js ?_));exact z.1)):p:=h ⟨k⟩
theorem J27 {p q:Prop} (k:q) (h:Bx q→p:=by(intro z;(iterate 27 (refine Js ?_));exact z.1)):p:=h ⟨k⟩
theorem J28 {p q:Prop} (k:q) (h:Bx q→p:=by(intro z;(iterate 28 (refine Js ?_));exact z.1)):p:=h ⟨k⟩
theorem J30 {p q:Prop} (k:q) (h:Bx q→p:=by(intro z;(iterate 30 (refine Js ?_));exact z.1)):p:=h ⟨k⟩
theorem J31 {p q:Prop} (k:q) (h:Bx q→p:=by(intro z;(iterate 31 (refine Js ?_));exact z.1)):p:=h ⟨k⟩
theorem J33 {p q:Prop} (k:q) (h:Bx q→p:=by(intro z;(iterate 33 (refine Js ?_));exact z.1)):p:=h ⟨k⟩
theorem J35 {p q:Prop} (k:q) (h:Bx q→p:=by(intro z;(iterate 35 (refine Js ?_));exact z.1)):p:=h ⟨k⟩
theorem J39 {p q:Prop} (k:q) (h:Bx q→p:=by(intro z;(iterate 39 (refine Js ?_));exact z.1)):p:=h ⟨k⟩
theorem J40 {p q:Prop} (k:q) (h:Bx q→p:=by(intro z;(iterate 40 (refine Js ?_));exact z.1)):p:=h ⟨k⟩
theorem J45 {p q:Prop} (k:q) (h:Bx q→p:=by(intro z;(iterate 45 (refine Js ?_));exact z.1)):p:=h ⟨k⟩
theorem J51 {p q:Prop} (k:q) (h:Bx q→p:=by(intro z;(iterate 51 (refine Js ?_));exact z.1)):p:=h ⟨k⟩
end Go.Eng
namespace Go.Eng
open Go Go.RowKit
variable {I:List Nat}
structure Kv where
  V:BitVec 64
  id:Int
  x:Int
deriving DecidableEq
instance:Inhabited Kv:=⟨⟨0#64,0,0⟩⟩
structure Nd where
  e:Kv
  l:Nat
  r:Nat
  up:Nat
  red:Bool
deriving DecidableEq
instance:Inhabited Nd:=⟨⟨default,0,0,0,false⟩⟩
abbrev gN (N:List Nd) (i:Nat):Nd:=N.getD i default
/-! what the code does to nodes -/
abbrev Ns:=List Nd×Nat
/-! trees -/
inductive Tr where
  |lf:Tr
  |nd (i:Nat) (e:Kv) (c:Bool) (l r:Tr):Tr
def Tr.ix:Tr→Nat
  |lf=>0
  |nd i _ _ _ _=>i
def Tr.red:Tr→Bool
  |lf=>false
  |nd _ _ c _ _=>c
def Tr.G8 (up:Nat):Tr→List (Nat×Nd)
  |lf=>[]
  |nd i e c l r=>(i,⟨e,l.ix,r.ix,up,c⟩)::(l.G8 i++r.G8 i)
def Tr.Me:Tr→List Nat
  |lf=>[]
  |nd i _ _ l r=>i::(l.Me++r.Me)
def Tr.ord:Tr→List (Nat×Kv)
  |lf=>[]
  |nd i e _ l r=>l.ord++(i,e)::r.ord
def mkR (s:Bool) (i:Nat) (e:Kv) (c:Bool) (a b:Tr):Tr:=if s then .nd i e c a b else .nd i e c b a
inductive Cx where
  |top:Cx
  |dn (s:Bool) (i:Nat) (e:Kv) (c:Bool) (Jo:Tr) (k:Cx):Cx
def Cx.ix:Cx→Nat
  |top=>0
  |dn _ i _ _ _ _=>i
def Ru:Cx→Tr→Tr
  | .top,t=>t
  | .dn s i e c Jo k,t=>Ru k (mkR s i e c t Jo)
def mkN (s:Bool) (e:Kv) (a b up:Nat) (c:Bool):Nd:=⟨e,if s then a else b,if s then b else a,up,c⟩
def Cx.G8 (h:Nat):Cx→List (Nat×Nd)
  |top=>[]
  |dn s i e c Jo k=>(i,mkN s e h Jo.ix k.ix c)::(Jo.G8 i++k.G8 i)
def Cx.Me:Cx→List Nat
  |top=>[]
  |dn _ i _ _ Jo k=>i::(Jo.Me++k.Me)
def Cx.lo:Cx→List (Nat×Kv)
  |top=>[]
  |dn s i e _ Jo k=>if s then k.lo else k.lo++Jo.ord++ [(i,e)]
def Cx.hi:Cx→List (Nat×Kv)
  |top=>[]
  |dn s i e _ Jo k=>if s then (i,e)::Jo.ord++k.hi else k.hi
def Has (N:List Nd) (l:List (Nat×Nd)):Prop:=∀p∈l,N[p.1]? =some p.2
structure Ly (I:List Nat) (S:Ns) (t:Tr):Prop where
  has:Has S.1 (t.G8 0)
  root:S.2=t.ix
  nd:t.Me.Nodup
  sub:∀x∈t.Me,x∈I
  nz:0 ∉ I
variable {I:List Nat}
variable {I:List Nat}
def Ok:Tr→Nat→Prop
  | .lf,h=>h=0
  | .nd _ _ c l r,h=>if c then Ok l h∧Ok r h∧l.red=false∧r.red=false else∃g,h=g+1∧Ok l g∧Ok r g
def Cx.red:Cx→Bool
  |top=>false
  |dn _ _ _ c _ _=>c
def Cx.len:Cx→Nat
  |top=>0
  |dn _ _ _ _ _ k=>k.len+1
variable {I:List Nat}
variable {I:List Nat}
def oY (a b:Kv):Prop:=a.V.toNat<b.V.toNat∨a.V=b.V∧a.id<b.id
instance (a b:Kv):Decidable (oY a b):=by unfold oY;infer_instance
def UH (a b:Kv):Prop:=a.V=b.V∧a.id=b.id
instance (a b:Kv):Decidable (UH a b):=by unfold UH;infer_instance
theorem oY.trans {a b c:Kv} (h:oY a b) (k:oY b c):oY a c:=by
  unfold oY at*
  rcases h with h|⟨h1,h2⟩<;>rcases k with k|⟨k1,k2⟩
  · left;omega
  · left;rw [←k1];exact h
  · left;rw [h1];exact k
  · right;exact⟨h1.trans k1,by omega⟩
theorem oY.irr (a:Kv):¬oY a a:=by unfold oY;intro h;rcases h with h|h<;>omega
theorem QH (a b:Kv):UH a b∨oY a b∨oY b a:=by
  unfold UH oY
  by_cases h:a.V=b.V
  · by_cases h2:a.id<b.id
    · exact .inr (.inl (.inr ⟨h,h2⟩))
    · by_cases h3:b.id<a.id
      · exact .inr (.inr (.inr ⟨h.symm,h3⟩))
      · exact .inl ⟨h,by omega⟩
  · by_cases h2:a.V.toNat<b.V.toNat
    · exact .inr (.inl (.inl h2))
    · refine .inr (.inr (.inl ?_))
      have:a.V.toNat≠b.V.toNat:=fun q=>h (BitVec.eq_of_toNat_eq q);omega
theorem oY.SU {a b:Kv} (h:oY a b):¬oY b a:=fun k=>oY.irr a (h.trans k)
def L4 (l:List Kv):Prop:=l.Pairwise oY
/-! what is found -/
def Tr.size:Tr→Nat
  |lf=>0
  |nd _ _ _ l r=>l.size+r.size+1
inductive Found (T:Tr) (k:Kv) (res:Nat×Nat):Prop
  |BR (c:Cx) (i:Nat) (e:Kv) (col:Bool) (l r:Tr):T=Ru c (.nd i e col l r)→UH k e→res=(i,c.ix)→Found T k res
  |amg (c:Cx):T=Ru c .lf→(∀p∈c.lo,oY p.2 k)→(∀p∈c.hi,oY k p.2)→res=(0,c.ix)→Found T k res
/-! what comes next -/
def hdI (l:List (Nat×Kv)):Nat:=match l with| [] =>0|p::_=>p.1
variable {I:List Nat}
/-! numbers of nodes are numbers of nodes -/
def Wf (N:List Nd):Prop:=∀i,(gN N i).l<N.length∧(gN N i).r<N.length∧(gN N i).up<N.length
structure WfS (S:Ns) (n:Nat):Prop where
  wf:Wf S.1
  len:S.1.length=n
  rt:S.2<n
/-! a tree as it stands -/
structure RbS where
  gA:Nat
  N:List Nd
  root:Nat
  first:Nat
  free:Nat
  n:Nat
def FrL (N:List Nd):Nat→List Nat→Prop
  |i,[] =>i=0
  |i,j::fl=>i=j∧j≠0∧j<N.length∧FrL N (gN N j).l fl
structure RbI (s:RbS) (L:List Kv):Prop where
  ex:∃(t:Tr) (fl:List Nat),Ly t.Me (s.N,s.root) t∧t.ord.map (·.2)=L∧(∃H,Ok t H)∧t.red=false∧s.first=hdI t.ord∧FrL s.N s.free fl∧fl.Nodup∧(∀j∈fl,j ∉ t.Me)∧s.N.length=1+t.size+fl.length
  srt:L4 L
  zero:s.N[0]? =some default
  wf:WfS (s.N,s.root) s.N.length
  n:s.n=L.length
  gA:L.length≤s.gA
  len:s.N.length≤s.gA+1
def oV (L:List Kv) (k:Kv):List Kv:=L.filter (fun x=>decide (oY x k))++k::L.filter (fun x=>decide (oY k x))
theorem Aa {α:Type} {p:α→Bool} {l:List α} (h:∀x∈l,p x=true):l.filter p=l:=List.filter_eq_self.2 h
theorem xm {α:Type} {p:α→Bool} {l:List α} (h:∀x∈l,p x=false):l.filter p=[] :=List.filter_eq_nil_iff.2 (fun x hx=>by rw [h x hx];simp)
theorem DA {lo hi:List Kv} {k:Kv} (h1:∀x∈lo,oY x k) (h2:∀x∈hi,oY k x):oV (lo++hi) k=lo++k::hi:=by
  unfold oV
  rw [List.filter_append,List.filter_append,Aa (fun x hx=>decide_eq_true (h1 x hx)),xm (fun x hx=>decide_eq_false (h2 x hx).SU),xm (fun x hx=>decide_eq_false (h1 x hx).SU),Aa (fun x hx=>decide_eq_true (h2 x hx))];simp
variable {I:List Nat}
structure Take (s:RbS) (t:Tr) (x:Nd) (fl:List Nat) (N1:List Nd) (i free:Nat) (Zr:List Nat):Prop where
  out:i ∉ t.Me
  nz:i≠0
  DE:N1[i]? =some x
  same:∀j,j≠i→j<s.N.length→N1[j]? =s.N[j]?
  lt:i<N1.length
  fr:FrL N1 free Zr
  nd:Zr.Nodup
  ap:∀j∈Zr,j ∉ t.Me∧j≠i
  len:N1.length=1+(t.size+1)+Zr.length
  wf:WfS (N1,s.root) N1.length
  le:N1.length≤s.gA+1
  ge:s.N.length≤N1.length
variable {I:List Nat}
def aB (n lo hi:Int):Int:=if n<lo then lo else if hi<n then hi else n
def o0 (a b:BitVec 64):BitVec 64:=if a.toNat+b.toNat<18446744073709551616 then a+b else 18446744073709551615#64
def eG (v fl r:BitVec 64):BitVec 64:=if v.toNat<fl.toNat then fl else if (o0 fl r).toNat<v.toNat then o0 fl r else v
theorem dN {n lo hi:Int} (h:lo≤hi):lo≤aB n lo hi∧aB n lo hi≤hi:=by unfold aB;split;omega;split<;>omega
theorem Em {n lo hi:Int} (h:lo≤hi):aB (aB n lo hi) lo hi=aB n lo hi:=by
  have:=dN (n:=n) h
  unfold aB at*;(repeat' split)<;>omega
/-! what a held tick costs -/
def o7 (w:Int):BitVec 64:=720720#64 / BitVec.ofInt 64 (aB w 1 16)
def lD (w s c:Int):BitVec 64:=o7 w*(BitVec.ofInt 64 (aB s 1 32)+BitVec.ofInt 64 (aB c 1 32))
theorem Av {n hi:Int} (h:1≤hi) (hh:hi≤100000):BitVec.ofInt 64 (aB n 1 hi)≠0#64:=by
  have:=dN (n:=n) h;intro e;have e2:=congrArg BitVec.toNat e;rw [BitVec.toNat_ofInt] at e2;simp at e2;omega
structure Qm where
  g:Int
  fl:BitVec 64
  l:List Kv
  cur:Int
  cI:Int
def B8 (w:Int):BitVec 64:=1099511627776#64 / BitVec.ofInt 64 (aB w 1 4096)
def D8 (w g:Int):BitVec 64:=B8 w*BitVec.ofInt 64 (aB g 1 8)
def dJ (l:List Kv) (a:Int):Nat:=l.findIdx (fun t=>decide (t.id=a))
def rB (x:Qm) (v:BitVec 64) (w:Int):BitVec 64:=eG v x.fl (D8 w x.g)
def uO (l:List Kv):List Kv:=l.foldl oV []
def dV (x:Qm):List Kv:=uO (x.l.filter (fun t=>decide (t.id≠x.cur)))
def dU (l:List Kv):Int:=(l.map (·.x)).sum
structure mA (x:Qm):Prop where
  nd:(x.l.map (·.id)).Nodup
  pos:∀t∈x.l,0≤t.id
  len:x.l.length≤16
  wt:∀t∈x.l,1≤t.x∧t.x≤4096
  cur:x.cur= -1∨∃t∈x.l,t.id=x.cur
  g:1≤x.g∧x.g≤8
  cI:0≤x.cI
theorem nb (t:Kv) (l:List Kv) (a:Int):dJ (t::l) a=if t.id=a then 0 else dJ l a+1:=by
  unfold dJ;rw [List.findIdx_cons]
  by_cases h:t.id=a
  · rw [if_pos h,decide_eq_true h];rfl
  · rw [if_neg h,decide_eq_false h];rfl
theorem iU {l:List Kv} {a:Int} (h:dJ l a<l.length):(l.getD (dJ l a) default).id=a∧l.getD (dJ l a) default∈l:=by
  have h2:l.getD (dJ l a) default=l[dJ l a] :=by rw [List.getD_eq_getElem?_getD,List.getElem?_eq_getElem h];rfl
  rw [h2];have h3:=List.findIdx_getElem (p:=fun t:Kv=>decide (t.id=a)) (xs:=l) (w:=h);exact⟨of_decide_eq_true h3,List.getElem_mem h⟩
theorem iG {l:List Kv} {a:Int} :dJ l a<l.length↔∃t∈l,t.id=a:=by
  unfold dJ;rw [List.findIdx_lt_length]
  exact⟨fun ⟨t,h,e⟩=>⟨t,h,of_decide_eq_true e⟩,fun ⟨t,h,e⟩=>⟨t,h,decide_eq_true e⟩⟩
theorem MS {l m:List Kv} {a:Int} (h:¬dJ l a<l.length):dJ (l++m) a=l.length+dJ m a:=by
  induction l with
  |nil=>simp
  |cons t l ih=>
    rw [nb] at h
    by_cases e:t.id=a
    · rw [if_pos e] at h;simp at h
    · rw [if_neg e,List.length_cons] at h
      rw [List.cons_append,nb,if_neg e,ih om,List.length_cons];omega
/-! sorted lists -/
theorem IQ {L:List Kv} (h:L4 L) (k:Kv):L4 (oV L k):=by
  unfold oV L4
  refine List.pairwise_append.2 ⟨List.Pairwise.filter _ h,List.pairwise_cons.2 ⟨fun y hy=>of_decide_eq_true (List.mem_filter.1 hy).2,List.Pairwise.filter _ h⟩,fun x hx y hy=>?_⟩;have h1:oY x k:=of_decide_eq_true (List.mem_filter.1 hx).2;rcases List.mem_cons.1 hy with rfl|hy
  · exact h1
  · exact h1.trans (of_decide_eq_true (List.mem_filter.1 hy).2)
theorem K5 {L:List Kv} {k:Kv} (h:∀x∈L,¬UH x k) (x:Kv):x∈oV L k↔x∈L∨x=k:=by
  unfold oV
  simp only [List.mem_append,List.mem_cons,List.mem_filter,decide_eq_true_eq]
  constructor
  · rintro (q|q|q)
    · exact .inl q.1
    · exact .inr q
    · exact .inl q.1
  · rintro (q|q)
    · rcases QH x k with e|e|e
      · exact absurd e (h x q)
      · exact .inl ⟨q,e⟩
      · exact .inr (.inr ⟨q,e⟩)
    · exact .inr (.inl q)
theorem oh:∀(l L:List Kv),L4 L→(l.map (·.id)).Nodup→(∀x∈L,∀y∈l,x.id≠y.id)→L4 (l.foldl oV L)∧∀x,x∈l.foldl oV L↔x∈L∨x∈l
  | [],L,h,_,_=>⟨h,fun x=>by simp⟩
  |t::l,L,h,hn,hd=>by
    rw [List.map_cons,List.nodup_cons] at hn;have hm:=K5 (L:=L) (k:=t) (fun x hx e=>hd x hx t (List.mem_cons_self ..) e.2)
    have ih:=oh l (oV L t) (IQ h t) hn.2 (fun x hx y hy=>by
      rcases (hm x).1 hx with q|rfl
      · exact hd x q y (List.mem_cons_of_mem _ hy)
      · exact fun e=>hn.1 (List.mem_map.2 ⟨y,hy,e.symm⟩))
    refine ⟨ih.1,fun x=>?_⟩;rw [List.foldl_cons,ih.2 x,hm x,List.mem_cons]
    constructor
    · rintro ((q|q)|q)
      · exact .inl q
      · exact .inr (.inl q)
      · exact .inr (.inr q)
    · rintro (q|q|q)
      · exact .inl (.inl q)
      · exact .inl (.inr q)
      · exact .inr q
theorem pK {l:List Kv} {p:Kv→Bool} (h:(l.map (·.id)).Nodup):((l.filter p).map (·.id)).Nodup:=List.Sublist.nodup (List.Sublist.map _ List.filter_sublist) h
theorem M7 {x:Qm} (h:(x.l.map (·.id)).Nodup):L4 (dV x):=(oh _ [] List.Pairwise.nil (pK h) (fun x hx=>by cases hx)).1
theorem yB {x:Qm} (h:(x.l.map (·.id)).Nodup) (t:Kv):t∈dV x↔t∈x.l∧t.id≠x.cur:=by
  unfold dV uO
  rw [(oh _ [] List.Pairwise.nil (pK h) (fun x hx=>by cases hx)).2 t];simp
theorem EN {x:Qm} (h:(x.l.map (·.id)).Nodup):(dV x).length≤x.l.length:=by
  have:∀(l L:List Kv),(l.foldl oV L).length≤L.length+l.length:=by
    intro l
    induction l with
    |nil=>intro L;simp
    |cons t l ih=>
      intro L;rw [List.foldl_cons,List.length_cons];refine Nat.le_trans (ih _) ?_
      have:(oV L t).length≤L.length+1:=by
        unfold oV
        rw [List.length_append,List.length_cons]
        have:∀(L:List Kv),(L.filter (fun x=>decide (oY x t))).length+(L.filter (fun x=>decide (oY t x))).length≤L.length:=by
          intro L
          induction L with
          |nil=>simp
          |cons y L ih2=>
            by_cases h1:oY y t
            · rw [List.filter_cons_of_pos (by simpa using h1),List.filter_cons_of_neg (by simpa using h1.SU)];simp only [List.length_cons];omega
            · rw [List.filter_cons_of_neg (by simpa using h1)]
              by_cases h2:oY t y
              · rw [List.filter_cons_of_pos (by simpa using h2)];simp only [List.length_cons];omega
              · rw [List.filter_cons_of_neg (by simpa using h2)];simp only [List.length_cons];omega
        have:=this L;omega
      omega
  have h1:=this (x.l.filter (fun t=>decide (t.id≠x.cur))) [];have h2:(x.l.filter (fun t=>decide (t.id≠x.cur))).length≤x.l.length:=List.length_filter_le ..
  unfold dV uO
  simp at h1 ⊢;simp at h2;omega
/-! what is done -/
def u7 (g:Int):Qm:=⟨aB g 1 8,0#64,[],-1,0⟩
def qW (x:Qm) (a:Int) (v:BitVec 64) (w:Int):Qm:= {x with l:=x.l++ [⟨rB x v (aB w 1 4096),a,aB w 1 4096⟩] }
def mW (x:Qm) (a:Int):Int:=if a<0 then 1 else if dJ x.l a<x.l.length then 12 else if 16≤x.l.length then 3 else 0
def iw (x:Qm) (a:Int):Qm:=if x.cur=a then {x with l:=x.l.eraseIdx (dJ x.l a),cur:= -1,cI:=0} else {x with l:=x.l.eraseIdx (dJ x.l a)}
def mG (x:Qm) (a:Int):Qm:= {x with cur:=a,cI:=0}
def fJ (x:Qm):Int:=if 0≤x.cur then-1 else match dV x with| [] => -1|t::_=>t.id
def qJ (x:Qm):Qm:=if fJ x<0 then x else mG x (fJ x)
def Gd (x:Qm):Bool:=if 0≤x.cur∧x.g≤x.cI then (match dV x with| [] =>false|t::_=>decide (t.V.toNat<(x.l.getD (dJ x.l x.cur) default).V.toNat)) else false
def fh (x:Qm):Qm:= {x with cur:= -1,cI:=0}
def FT (l:List Kv) (a:Int):List Kv:=l.set (dJ l a) {l.getD (dJ l a) default with V:=o0 (l.getD (dJ l a) default).V (B8 (l.getD (dJ l a) default).x)}
def fi (x:Qm):Qm:=if 0≤x.cur then {x with l:=FT x.l x.cur,cI:=x.cI+1} else x
def gU (x:Qm) (a w:Int):Qm:=
  { x with cI := if (x.l.getD (dJ x.l a) default).x ≠ aB w 1 4096 ∧ x.cur = a then x.g else x.cI
           l:=x.l.set (dJ x.l a) ⟨rB x (x.l.getD (dJ x.l a) default).V (aB w 1 4096),a,aB w 1 4096⟩}
def nX:List Kv→BitVec 64
  | [] =>0#64
  |t::l=>l.foldl (fun m s=>if s.V.toNat<m.toNat then s.V else m) t.V
def eW (x:Qm):Qm:=match x.l with| [] =>x|_::_=>if x.fl.toNat<(nX x.l).toNat then {x with fl:=nX x.l} else x
/-! they keep a queue whole -/
theorem Dr {l:List Kv} {a:Int} (hn:(l.map (·.id)).Nodup) (h:dJ l a<l.length) {y:Kv} (hy:y.id=a) (t:Kv):t∈l.set (dJ l a) y↔t=y∨(t∈l∧t.id≠a):=by
  induction l with
  |nil=>simp at h
  |cons s l ih=>
    rw [List.map_cons,List.nodup_cons] at hn;rw [nb] at h ⊢
    by_cases e:s.id=a
    · rw [if_pos e,List.set_cons_zero,List.mem_cons,List.mem_cons]
      constructor
      · rintro (q|q)
        · exact .inl q
        · exact .inr ⟨.inr q,fun e2=>hn.1 (List.mem_map.2 ⟨t,q,e2.trans e.symm⟩)⟩
      · rintro (q|⟨q|q,e2⟩)
        · exact .inl q
        · rw [q] at e2;exact absurd e e2
        · exact .inr q
    · rw [if_neg e,List.length_cons] at h
      rw [if_neg e,List.set_cons_succ,List.mem_cons,ih hn.2 om,List.mem_cons]
      constructor
      · rintro (q|q|q)
        · rw [q];exact .inr ⟨.inl rfl,e⟩
        · exact .inl q
        · exact .inr ⟨.inr q.1,q.2⟩
      · rintro (q|⟨q|q,e2⟩)
        · exact .inr (.inl q)
        · exact .inl q
        · exact .inr (.inr ⟨q,e2⟩)
theorem lK {l:List Kv} {a:Int} (hn:(l.map (·.id)).Nodup) (h:dJ l a<l.length) (t:Kv):t∈l.eraseIdx (dJ l a)↔t∈l∧t.id≠a:=by
  induction l with
  |nil=>simp at h
  |cons s l ih=>
    rw [List.map_cons,List.nodup_cons] at hn;rw [nb] at h ⊢
    by_cases e:s.id=a
    · rw [if_pos e,List.eraseIdx_cons_zero,List.mem_cons]
      constructor
      · intro q;exact⟨.inr q,fun e2=>hn.1 (List.mem_map.2 ⟨t,q,e2.trans e.symm⟩)⟩
      · rintro ⟨q|q,e2⟩
        · rw [q] at e2;exact absurd e e2
        · exact q
    · rw [if_neg e,List.length_cons] at h
      rw [if_neg e,List.eraseIdx_cons_succ,List.mem_cons,ih hn.2 om,List.mem_cons]
      constructor
      · rintro (q|q)
        · rw [q];exact⟨.inl rfl,e⟩
        · exact⟨.inr q.1,q.2⟩
      · rintro ⟨q|q,e2⟩
        · exact .inl q
        · exact .inr ⟨q,e2⟩
theorem gM {l:List Kv} {a:Int} (h:dJ l a<l.length) {y:Kv} (hy:y.id=a):(l.set (dJ l a) y).map (·.id)=l.map (·.id):=by
  rw [List.map_set]
  apply List.ext_getElem?
  intro i;rw [List.getElem?_set]
  split
  · rename_i e;subst e
    have:=(iU h).1;rw [List.getD_eq_getElem?_getD,List.getElem?_eq_getElem h] at this;rw [if_pos (by simpa using h),List.getElem?_map,List.getElem?_eq_getElem h,Option.map_some,hy];exact congrArg _ this.symm
  · rfl
theorem sM {l:List Kv} {i:Nat} (h:(l.map (·.id)).Nodup):((l.eraseIdx i).map (·.id)).Nodup:=List.Sublist.nodup (List.Sublist.map _ (List.eraseIdx_sublist ..)) h
theorem mA.ix {x:Qm} (h:mA x) (hc:0≤x.cur):dJ x.l x.cur<x.l.length:=by
  rcases h.cur with e|e
  · omega
  · exact iG.2 e
theorem mA.Pw {x:Qm} (h:mA x) (hc:¬0≤x.cur):x.cur= -1:=by
  rcases h.cur with e|⟨t,ht,e⟩
  · exact e
  · have:=h.pos t ht;omega
theorem KI (g:Int):mA (u7 g):=⟨List.nodup_nil,fun t h=>(nomatch h),Nat.zero_le _,fun t h=>(nomatch h),.inl rfl,dN (by decide),Int.le_refl _⟩
theorem L2 {x:Qm} (h:mA x) {a w:Int} {v:BitVec 64} (ha:mW x a=0):mA (qW x a v w):=by
  unfold mW at ha
  split at ha; · cases ha
  rename_i V9
  split at ha; · cases ha
  rename_i ha1
  split at ha; · cases ha
  rename_i ha2
  refine ⟨?_,fun t ht=>?_,?_,fun t ht=>?_,?_,h.g,h.cI⟩
  · show ((x.l++ [_]).map _).Nodup
    rw [List.map_append,List.nodup_append];refine ⟨h.nd,by simp,fun b hb c hc e=>?_⟩;obtain ⟨t,ht,rfl⟩:=List.mem_map.1 hb;simp at hc;exact ha1 (iG.2 ⟨t,ht,e.trans hc⟩)
  · rcases List.mem_append.1 ht with q|q
    · exact h.pos t q
    · simp at q;subst q;show 0≤a;omega
  · show (x.l++ [_]).length≤16
    rw [List.length_append];simp;omega
  · rcases List.mem_append.1 ht with q|q
    · exact h.wt t q
    · simp at q;subst q;exact dN (by decide)
  · rcases h.cur with e|⟨t,ht,e⟩
    · exact .inl e
    · exact .inr ⟨t,List.mem_append_left _ ht,e⟩
theorem Jq {x:Qm} (h:mA x) {a:Int} (ha:dJ x.l a<x.l.length):mA (iw x a):=by
  have hm:=lK h.nd ha;have hl:(x.l.eraseIdx (dJ x.l a)).length≤16:=Nat.le_trans (List.Sublist.length_le (List.eraseIdx_sublist ..)) h.len
  unfold iw
  split
  · exact⟨sM h.nd,fun t ht=>h.pos t ((hm t).1 ht).1,hl,fun t ht=>h.wt t ((hm t).1 ht).1,.inl rfl,h.g,Int.le_refl _⟩
  · rename_i hc
    refine ⟨sM h.nd,fun t ht=>h.pos t ((hm t).1 ht).1,hl,fun t ht=>h.wt t ((hm t).1 ht).1,?_,h.g,h.cI⟩;rcases h.cur with e|⟨t,ht,e⟩
    · exact .inl e
    · exact .inr ⟨t,(hm t).2 ⟨ht,fun q=>hc (e.symm.trans q)⟩,e⟩
theorem FU {x:Qm} (h:mA x):mA (fh x):=⟨h.nd,h.pos,h.len,h.wt,.inl rfl,h.g,Int.le_refl _⟩
theorem Fk {x:Qm} (h:mA x) {t:Kv} (ht:t∈x.l):mA (mG x t.id):=⟨h.nd,h.pos,h.len,h.wt,.inr ⟨t,ht,rfl⟩,h.g,Int.le_refl _⟩
theorem ji {x:Qm} (h:mA x) {t:Kv} {l:List Kv} (e:dV x=t::l):t∈x.l∧t.id≠x.cur:=(yB h.nd t).1 (by rw [e];exact List.mem_cons_self ..)
theorem sy {x:Qm} (h:mA x) (hc:x.cur= -1) {t:Kv} {l:List Kv} (e:dV x=t::l):fJ x=t.id∧qJ x=mG x t.id:=by
  have h1:fJ x=t.id:=by unfold fJ;rw [if_neg om,e]
  have h2:=h.pos t (ji h e).1;exact⟨h1,by unfold qJ;rw [h1,if_neg om]⟩
theorem qR {x:Qm} (hc:0≤x.cur∨dV x=[]):fJ x= -1∧qJ x=x:=by
  have h1:fJ x= -1:=by
    unfold fJ
    rcases hc with h|h
    · rw [if_pos h]
    · rw [h];split<;>rfl
  exact⟨h1,by unfold qJ;rw [h1,if_pos (by decide)]⟩
theorem Ue {x:Qm} (h:mA x):mA (qJ x):=by
  by_cases hc:0≤x.cur
  · rw [(qR (.inl hc)).2];exact h
  · cases e:dV x with
    |nil=>rw [(qR (.inr e)).2];exact h
    |cons t l=>rw [(sy h (h.Pw hc) e).2];exact Fk h (ji h e).1
theorem K4 {x:Qm} (h:mA x) {a:Int} (ha:dJ x.l a<x.l.length) {y:Kv} (hy:y.id=a) (hw:1≤y.x∧y.x≤4096) {r:Int} (hr:0≤r):mA {x with l:=x.l.set (dJ x.l a) y,cI:=r} :=by
  obtain ⟨h1,h2⟩:=iU ha;have hm:=Dr h.nd ha hy;refine ⟨by show ((x.l.set _ y).map _).Nodup;rw [gM ha hy];exact h.nd,fun t ht=>?_,by show (x.l.set _ y).length≤16;rw [List.length_set];exact h.len,fun t ht=>?_,?_,h.g,hr⟩
  · rcases (hm t).1 ht with rfl|q
    · rw [hy,←h1];exact h.pos _ h2
    · exact h.pos t q.1
  · rcases (hm t).1 ht with rfl|q
    · exact hw
    · exact h.wt t q.1
  · rcases h.cur with e|⟨t,ht,e⟩
    · exact .inl e
    · by_cases q:t.id=a
      · exact .inr ⟨y,(hm y).2 (.inl rfl),by rw [hy,←q];exact e⟩
      · exact .inr ⟨t,(hm t).2 (.inr ⟨ht,q⟩),e⟩
theorem FF {x:Qm} (h:mA x):mA (fi x):=by
  unfold fi
  split
  · rename_i hc
    obtain ⟨h1,h2⟩:=iU (h.ix hc);exact K4 (y:= {x.l.getD (dJ x.l x.cur) default with V:=o0 (x.l.getD (dJ x.l x.cur) default).V (B8 (x.l.getD (dJ x.l x.cur) default).x)}) (r:=x.cI+1) h (h.ix hc) h1 (h.wt (x.l.getD (dJ x.l x.cur) default) h2) (by have:=h.cI;omega)
  · exact h
theorem B4 {x:Qm} (h:mA x) {a w:Int} (ha:dJ x.l a<x.l.length):mA (gU x a w):=
  K4 h ha rfl (dN (by decide)) (by have:=h.cI;have:=h.g;split<;>omega)
theorem eg (x:Qm):(eW x).l=x.l∧(eW x).cur=x.cur∧(eW x).cI=x.cI∧(eW x).g=x.g:=by
  unfold eW
  split
  · exact⟨rfl,rfl,rfl,rfl⟩
  · split<;>exact⟨rfl,rfl,rfl,rfl⟩
theorem tX {x:Qm} (h:mA x):mA (eW x):=by
  obtain ⟨h1,h2,h3,h4⟩:=eg x;exact⟨by rw [h1];exact h.nd,by rw [h1];exact h.pos,by rw [h1];exact h.len,by rw [h1];exact h.wt,by rw [h1,h2];exact h.cur,by rw [h4];exact h.g,by rw [h3];exact h.cI⟩
/-! the least V -/
theorem xV:∀(l:List Kv) (m:BitVec 64),(l.foldl (fun m s=>if s.V.toNat<m.toNat then s.V else m) m=m∨∃t∈l,t.V=l.foldl (fun m s=>if s.V.toNat<m.toNat then s.V else m) m)∧(l.foldl (fun m s=>if s.V.toNat<m.toNat then s.V else m) m).toNat≤m.toNat∧∀t∈l,(l.foldl (fun m s=>if s.V.toNat<m.toNat then s.V else m) m).toNat≤t.V.toNat
  | [],m=>⟨.inl rfl,Nat.le_refl _,fun t h=>by cases h⟩
  |s::l,m=>by
    rw [List.foldl_cons];obtain ⟨h1,h2,h3⟩:=xV l (if s.V.toNat<m.toNat then s.V else m);have h4:(if s.V.toNat<m.toNat then s.V else m).toNat≤m.toNat∧(if s.V.toNat<m.toNat then s.V else m).toNat≤s.V.toNat:=by split<;>omega
    refine ⟨?_,by omega,fun t ht=>?_⟩
    · rcases h1 with q|⟨t,ht,q⟩
      · by_cases e:s.V.toNat<m.toNat
        · rw [if_pos e] at q ⊢;exact .inr ⟨s,List.mem_cons_self ..,q.symm⟩
        · rw [if_neg e] at q ⊢;exact .inl q
      · exact .inr ⟨t,List.mem_cons_of_mem _ ht,q⟩
    · rcases List.mem_cons.1 ht with rfl|ht
      · omega
      · exact h3 t ht
theorem Hf {l:List Kv} (h:l≠ []):(∃t∈l,t.V=nX l)∧∀t∈l,(nX l).toNat≤t.V.toNat:=by
  cases l with
  |nil=>exact absurd rfl h
  |cons s l=>
    obtain ⟨h1,h2,h3⟩:=xV l s.V;refine ⟨?_,fun t ht=>?_⟩
    · rcases h1 with q|⟨t,ht,q⟩
      · exact⟨s,List.mem_cons_self ..,q.symm⟩
      · exact⟨t,List.mem_cons_of_mem _ ht,q⟩
    · rcases List.mem_cons.1 ht with rfl|ht
      · exact h2
      · exact h3 t ht
theorem OZ {l:List Kv} {v:BitVec 64} (h:∃t∈l,t.V=v) (h2:∀t∈l,v.toNat≤t.V.toNat):nX l=v:=by
  obtain ⟨t,ht,rfl⟩:=h;have eb:l≠ [] :=fun e=>by rw [e] at ht;cases ht
  obtain ⟨⟨s,hs,e⟩,h3⟩:=Hf eb;have h4:=h3 t ht;have h5:=h2 s hs;rw [e] at h5;exact BitVec.eq_of_toNat_eq om
theorem S6 {t:Kv} {l:List Kv} (h:L4 (t::l)):∀s∈t::l,t.V.toNat≤s.V.toNat:=fun s hs=>by
  rcases List.mem_cons.1 hs with rfl|hs
  · exact Nat.le_refl _
  · rcases (List.pairwise_cons.1 h).1 s hs with q|q
    · omega
    · rw [q.1];exact Nat.le_refl _
theorem LG {x:Qm} (h:mA x) (hc:¬0≤x.cur):(dV x=[]→x.l=[])∧∀t l,dV x=t::l→x.l≠ []∧nX x.l=t.V:=by
  have h0:=h.Pw hc;have tn:∀t∈x.l,t∈dV x:=fun t ht=>(yB h.nd t).2 ⟨ht,by have:=h.pos t ht;omega⟩;refine ⟨fun e=>?_,fun t l e=>?_⟩
  · cases q:x.l with
    |nil=>rfl
    |cons s m=>have:=tn s (by rw [q];exact List.mem_cons_self ..);rw [e] at this;cases this
  · have ht:=(ji h e).1
    refine ⟨fun q=>(by rw [q] at ht;cases ht),OZ ⟨t,ht,rfl⟩ (fun s hs=>S6 (l:=l) (by rw [←e];exact M7 h.nd) s (by rw [←e];exact tn s hs))⟩
/-! weights -/
theorem BF (l m:List Kv):dU (l++m)=dU l+dU m:=by unfold dU;rw [List.map_append,List.sum_append]
theorem yu:∀{l:List Kv},(∀t∈l,1≤t.x∧t.x≤4096)→0≤dU l∧dU l≤4096*l.length
  | [],_=>by simp [dU]
  |t::l,h=>by
    have h1:=h t (List.mem_cons_self ..);have h2:=yu (l:=l) (fun s hs=>h s (List.mem_cons_of_mem _ hs));simp only [dU,List.map_cons,List.sum_cons,List.length_cons] at h2 ⊢;omega
theorem mA.load {x:Qm} (h:mA x):0≤dU x.l∧dU x.l≤65536:=by
  have:=yu h.wt;have:=h.len;omega
abbrev gQ (l:List Kv) (a:Int):Kv:=l.getD (dJ l a) default
theorem Nl {l:List Kv} {a:Int} (h:¬dJ l a<l.length):gQ l a=default:=by
  unfold gQ;rw [List.getD_eq_getElem?_getD,List.getElem?_eq_none om];rfl
theorem EK {x:Qm} (h:¬(0≤x.cur∧x.g≤x.cI)):Gd x=false:=if_neg h
theorem Kx {x:Qm} (h:0≤x.cur∧x.g≤x.cI):Gd x=(match dV x with| [] =>false|t::_=>decide (t.V.toNat<(gQ x.l x.cur).V.toNat)):=if_pos h
theorem ow {α:Type} {l:List α} (h:l≠ []):∃a t,l=a::t:=by cases l with|nil=>exact absurd rfl h|cons a t=>exact⟨a,t,rfl⟩
def Lq (x:Qm) (a:Int) (v:BitVec 64) (w:Int):BitVec 64:=if mW x a=0 then rB x v (aB w 1 4096) else 0#64
def IF (x:Qm) (a:Int) (v:BitVec 64) (w:Int):Qm:=if mW x a=0 then qW x a v w else x
def Hc (x:Qm) (a:Int):Qm:=if dJ x.l a<x.l.length then iw x a else x
def lG (x:Qm) (a w:Int):Qm:=if dJ x.l a<x.l.length then gU x a w else x
theorem L1 {x:Qm} {a:Int} (h:a<0):mW x a=1:=if_pos h
theorem JD {x:Qm} {a:Int} (h:¬a<0) (h2:dJ x.l a<x.l.length):mW x a=12:=by unfold mW;rw [if_neg h,if_pos h2]
theorem Gi {x:Qm} {a:Int} (h:¬a<0) (h2:¬dJ x.l a<x.l.length) (h3:16≤x.l.length):mW x a=3:=by unfold mW;rw [if_neg h,if_neg h2,if_pos h3]
theorem FG {x:Qm} {a:Int} (h:¬a<0) (h2:¬dJ x.l a<x.l.length) (h3:¬16≤x.l.length):mW x a=0:=by unfold mW;rw [if_neg h,if_neg h2,if_neg h3]
theorem zH {x:Qm} {a:Int} {v:BitVec 64} {w:Int} (h:mW x a≠0):Lq x a v w=0#64:=if_neg h
theorem yP {x:Qm} {a:Int} {v:BitVec 64} {w:Int} (h:mW x a≠0):IF x a v w=x:=if_neg h
theorem Gv {x:Qm} (h:x.l=[]):eW x=x:=by unfold eW;rw [h]
theorem xr {x:Qm} (h:x.l≠ []):eW x= {x with fl:=if x.fl.toNat<(nX x.l).toNat then nX x.l else x.fl} :=by
  have h2:eW x=if x.fl.toNat<(nX x.l).toNat then {x with fl:=nX x.l} else x:=by
    unfold eW;split
    · exact absurd aA h
    · rfl
  rw [h2]
  by_cases q:x.fl.toNat<(nX x.l).toNat
  · rw [if_pos q,if_pos q]
  · rw [if_neg q,if_neg q]
instance:Inhabited Qm:=⟨u7 0⟩
abbrev cd (x:Qm) (a:Int):Prop:=dJ x.l a<x.l.length
abbrev qg {α:Type} [Inhabited α] (qs:List α) (i:Nat):α:=qs.getD i default
def bO (qs:List Qm) (a:Int):Nat:=qs.findIdx (fun x=>decide (cd x a))
def N9 (qs:List Qm) (a:Int):Int:=if bO qs a<qs.length then (bO qs a:Nat) else-1
def ez (qs:List Qm):Nat:=(qs.map (fun x=>x.l.length)).sum
structure rq (qs:List Qm):Prop where
  len:1≤qs.length∧qs.length≤4
  wf:∀i,i<qs.length→mA (qg qs i)
  one:∀i j a,i<qs.length→j<qs.length→cd (qg qs i) a→cd (qg qs j) a→i=j
  all:ez qs≤16
theorem FC {α:Type} [Inhabited α] {qs:List α} {i:Nat} (h:i<qs.length):qg qs i=qs[i] :=by unfold qg;rw [List.getD_eq_getElem?_getD,List.getElem?_eq_getElem h];rfl
theorem bK {α:Type} [Inhabited α] {qs:List α} {i:Nat} (h:i<qs.length) (x:α) (j:Nat):qg (qs.set i x) j=if i=j then x else qg qs j:=by
  unfold qg
  rw [List.getD_eq_getElem?_getD,List.getD_eq_getElem?_getD,List.getElem?_set]
  by_cases e:i=j
  · subst e;rw [if_pos rfl,if_pos rfl,if_pos h];rfl
  · rw [if_neg e,if_neg e]
theorem PN {α:Type} [Inhabited α] (qs:List α) (x:α) (j:Nat) (h:j≤qs.length):qg (qs++ [x]) j=if j=qs.length then x else qg qs j:=by
  unfold qg
  rw [List.getD_eq_getElem?_getD,List.getD_eq_getElem?_getD]
  by_cases e:j=qs.length
  · subst e;rw [if_pos rfl];simp
  · rw [if_neg e,List.getElem?_append_left om]
theorem c8 {qs:List Qm} {a:Int} (h:bO qs a<qs.length):cd (qg qs (bO qs a)) a:=by
  have:=List.findIdx_getElem (xs:=qs) (p:=fun x=>decide (cd x a)) (w:=h);simp only [decide_eq_true_eq] at this;rw [FC h];exact this
theorem vb {qs:List Qm} {a:Int} (h:¬bO qs a<qs.length) {i:Nat} (hi:i<qs.length):¬cd (qg qs i) a:=fun q=>by
  rw [FC hi] at q;exact h (List.findIdx_lt_length_of_exists ⟨qs[i],List.getElem_mem hi,by simpa using q⟩)
theorem X9 {qs:List Qm} {a:Int} {i:Nat} (hi:i<qs.length) (hk:cd (qg qs i) a) (hu:∀j,j<qs.length→cd (qg qs j) a→j=i):bO qs a=i:=by
  have h1:bO qs a<qs.length:=Classical.byContradiction fun q=>vb q hi hk;exact hu _ h1 (c8 h1)
theorem E4 {qs:List Qm} {a:Int} (h:∀j,j<qs.length→¬cd (qg qs j) a):¬bO qs a<qs.length:=fun q=>h _ q (c8 q)
theorem rq.at {qs:List Qm} (h:rq qs) {a:Int} {i:Nat} (hi:i<qs.length) (hk:cd (qg qs i) a):bO qs a=i:=X9 hi hk (fun j hj hkj=>h.one j i a hj hi hkj hk)
theorem qz {qs:List Qm} {a:Int} (h:bO qs a<qs.length):N9 qs a=(bO qs a:Nat):=if_pos h
theorem R1 {qs:List Qm} {a:Int} (h:¬bO qs a<qs.length):N9 qs a= -1:=if_neg h
theorem rq.pos {qs:List Qm} (h:rq qs) {a:Int} (ha:bO qs a<qs.length):0≤a:=by
  obtain ⟨t,ht,e⟩:=iG.1 (c8 ha);have:=(h.wf _ ha).pos t ht;omega
/-! ### what a queue has -/
theorem ea {x:Qm} {a:Int} (h:cd x a):gQ x.l a∈x.l∧(gQ x.l a).id=a:=⟨(iU h).2,(iU h).1⟩
theorem has_add {x:Qm} {a w:Int} {v:BitVec 64} {b:Int} :cd (qW x a v w) b↔cd x b∨b=a:=by
  unfold cd;rw [iG,iG]
  show (∃t∈x.l++ [(⟨_,a,_⟩:Kv)],t.id=b)↔_
  simp only [List.mem_append,List.mem_singleton]
  constructor
  · rintro ⟨t,ht|rfl,e⟩
    · exact .inl ⟨t,ht,e⟩
    · exact .inr e.symm
  · rintro (⟨t,ht,e⟩|rfl)
    · exact⟨t,.inl ht,e⟩
    · exact⟨_,.inr rfl,rfl⟩
theorem Qt (x:Qm) (a:Int):(iw x a).l=x.l.eraseIdx (dJ x.l a):=by unfold iw;split<;>rfl
theorem oP {x:Qm} (h:mA x) {a b:Int} (ha:cd x a):cd (iw x a) b↔cd x b∧b≠a:=by
  unfold cd;rw [iG,iG,Qt]
  constructor
  · rintro ⟨t,ht,rfl⟩
    have:=(lK h.nd ha t).1 ht;exact⟨⟨t,this.1,rfl⟩,this.2⟩
  · rintro ⟨⟨t,ht,rfl⟩,eb⟩
    exact⟨t,(lK h.nd ha t).2 ⟨ht,eb⟩,rfl⟩
theorem M3 (x:Qm) (a:Int) (v:BitVec 64) (w:Int):(qW x a v w).l.length=x.l.length+1:=by simp [qW]
theorem E0 {x:Qm} {a:Int} (ha:cd x a):(iw x a).l.length+1=x.l.length:=by
  rw [Qt,List.length_eraseIdx,if_pos ha];have:=ha;unfold cd at this;omega
/-! ### how many there are -/
theorem x9:∀{qs:List Qm} {i:Nat} (h:i<qs.length) (x:Qm),ez (qs.set i x)+(qg qs i).l.length=ez qs+x.l.length
  | [],i,h,x=>by cases h
  |q::qs,0,h,x=>by show (x.l.length+ez qs)+q.l.length=(q.l.length+ez qs)+x.l.length;omega
  |q::qs,i+1,h,x=>by
    have:=x9 (qs:=qs) (Nat.lt_of_succ_lt_succ h) x
    show (q.l.length+ez (qs.set i x))+(qg qs i).l.length=(q.l.length+ez qs)+x.l.length
    omega
theorem DO:∀{qs:List Qm} {i:Nat} (h:i<qs.length),(qg qs i).l.length≤ez qs
  | [],i,h=>by cases h
  |q::qs,0,h=>by show q.l.length≤q.l.length+ez qs;omega
  |q::qs,i+1,h=>by
    have:=DO (qs:=qs) (Nat.lt_of_succ_lt_succ h)
    show (qg qs i).l.length≤q.l.length+ez qs
    omega
/-! ### what the two maps have -/
theorem rq.set {qs:List Qm} (h:rq qs) {i:Nat} (hi:i<qs.length) {x':Qm} (hx:mA x') (hk:∀j b,j<qs.length→j≠i→cd x' b→¬cd (qg qs j) b) (hl:ez qs+x'.l.length≤16+(qg qs i).l.length):rq (qs.set i x'):=by
  refine ⟨by rw [List.length_set];exact h.len,fun j hj=>?_,fun j k a hj UA h1 h2=>?_,?_⟩
  · rw [List.length_set] at hj
    rw [bK hi];split
    · exact hx
    · exact h.wf j hj
  · rw [List.length_set] at hj UA
    rw [bK hi] at h1 h2
    by_cases e1:i=j
    · by_cases e2:i=k
      · omega
      · rw [if_pos e1] at h1;rw [if_neg e2] at h2
        exact absurd h2 (hk k a UA (fun q=>e2 q.symm) h1)
    · rw [if_neg e1] at h1
      by_cases e2:i=k
      · rw [if_pos e2] at h2
        exact absurd h1 (hk j a hj (fun q=>e1 q.symm) h2)
      · rw [if_neg e2] at h2
        exact h.one j k a hj UA h1 h2
  · have:=x9 hi x';omega
/-! ### one more -/
def ik (qs:List Qm) (core a:Int):Int:=if core<0∨(qs.length:Int)≤core∨a<0 then 1 else if bO qs a<qs.length then 12 else if 16≤ez qs then 3 else 0
def uz (qs:List Qm) (core a:Int) (v:BitVec 64) (w:Int):BitVec 64:=if ik qs core a=0 then rB (qg qs core.toNat) v (aB w 1 4096) else 0#64
def dx (qs:List Qm) (core a:Int) (v:BitVec 64) (w:Int):List Qm:=if ik qs core a=0 then qs.set core.toNat (qW (qg qs core.toNat) a v w) else qs
theorem Dp {qs:List Qm} (h:rq qs) {i:Nat} (hi:i<qs.length) {a:Int} (ha:0≤a) (hn:¬bO qs a<qs.length) (hf:ez qs<16):mW (qg qs i) a=0:=
  FG om (vb hn hi) (by have:=DO hi;omega)
theorem yJ {qs:List Qm} (h:rq qs) {i:Nat} (hi:i<qs.length) {a:Int} (ha:0≤a) (hn:¬bO qs a<qs.length) (hf:ez qs<16) (v:BitVec 64) (w:Int):rq (qs.set i (qW (qg qs i) a v w)):=
  h.set hi (L2 (h.wf i hi) (Dp h hi ha hn hf)) (fun j b hj HX hb q=>by
    rcases has_add.1 hb with z|rfl
    · exact HX (h.one j i b hj hi q z)
    · exact vb hn hj q) (by rw [M3];omega)
/-! ### one less -/
def gD (qs:List Qm) (a:Int):List Qm:=if bO qs a<qs.length then qs.set (bO qs a) (iw (qg qs (bO qs a)) a) else qs
def uD (qs:List Qm) (a:Int):BitVec 64:=if bO qs a<qs.length then (gQ (qg qs (bO qs a)).l a).V else 0#64
theorem zR {qs:List Qm} (h:rq qs) {a:Int} (ha:bO qs a<qs.length):rq (qs.set (bO qs a) (iw (qg qs (bO qs a)) a)):=by
  have hh:=c8 ha;refine h.set ha (Jq (h.wf _ ha) hh) (fun j b hj HX hb q=>HX (h.one j _ b hj ha q ((oP (h.wf _ ha) hh).1 hb).1)) ?_;have:=E0 hh;have:=h.all;omega
theorem EV {qs:List Qm} (h:rq qs) {a:Int} (ha:bO qs a<qs.length):¬bO (qs.set (bO qs a) (iw (qg qs (bO qs a)) a)) a<(qs.set (bO qs a) (iw (qg qs (bO qs a)) a)).length:=E4 (fun j hj q=>by
  rw [List.length_set] at hj;rw [bK ha] at q
  by_cases e:bO qs a=j
  · rw [if_pos e] at q;exact((oP (h.wf _ ha) (c8 ha)).1 q).2 rfl
  · rw [if_neg e] at q;exact e (h.at hj q))
theorem Lc {qs:List Qm} {a:Int} (ha:bO qs a<qs.length):ez (qs.set (bO qs a) (iw (qg qs (bO qs a)) a))+1=ez qs:=by
  have h1:=x9 ha (iw (qg qs (bO qs a)) a);have h2:=E0 (c8 ha);omega
/-! ### another weight -/
def j5 (qs:List Qm) (a w:Int):List Qm:=if bO qs a<qs.length then qs.set (bO qs a) (lG (qg qs (bO qs a)) a w) else qs
/-! ### to another core -/
def acY (a b:BitVec 64):BitVec 64:=if a.toNat<b.toNat then 0#64 else a-b
def ep (qs:List Qm) (a:Int):List Qm:=qs.set (bO qs a) (iw (qg qs (bO qs a)) a)
def Hu (qs:List Qm) (a:Int) (to:Nat):BitVec 64:=o0 (qg qs to).fl (acY (gQ (qg qs (bO qs a)).l a).V (qg qs (bO qs a)).fl)
def fV (qs:List Qm) (a:Int) (to:Nat):List Qm:=(ep qs a).set to (qW (qg qs to) a (Hu qs a to) (gQ (qg qs (bO qs a)).l a).x)
theorem zf {qs:List Qm} (_:rq qs) {a:Int} (ha:bO qs a<qs.length) {to:Nat} (_:to<qs.length) (eb:to≠bO qs a):qg (ep qs a) to=qg qs to:=by unfold ep;rw [bK ha,if_neg (fun q=>eb q.symm)]
theorem yv {qs:List Qm} (h:rq qs) {a:Int} (ha:bO qs a<qs.length) {to:Nat} (ht:to<qs.length) (_:to≠bO qs a):rq (ep qs a)∧to<(ep qs a).length∧0≤a∧¬bO (ep qs a) a<(ep qs a).length∧ez (ep qs a)<16:=
  ⟨zR h ha,by unfold ep;rw [List.length_set];exact ht,h.pos ha,EV h ha,by have h1:=Lc ha;have h2:=h.all;unfold ep;omega⟩
section
variable {qs:List Qm} (h:rq qs) {a:Int} (ha:bO qs a<qs.length) {to:Nat} (ht:to<qs.length) (eb:to≠bO qs a)
include h ha ht eb
theorem vw:fV qs a to=(ep qs a).set to (qW (qg (ep qs a) to) a (Hu qs a to) (gQ (qg qs (bO qs a)).l a).x):=by rw [zf h ha ht eb];rfl
theorem SC:rq (fV qs a to):=by
  obtain ⟨h1,h2,h3,h4,h5⟩:=yv h ha ht eb;rw [vw h ha ht eb];exact yJ h1 h2 h3 h4 h5 _ _
theorem VS:mW (qg qs to) a=0:=by
  obtain ⟨h1,h2,h3,h4,h5⟩:=yv h ha ht eb;rw [←zf h ha ht eb];exact Dp h1 h2 h3 h4 h5
end
/-! ### the heaviest and the lightest -/
abbrev My (qs:List Qm) (i:Nat):Int:=dU (qg qs i).l
def iP (qs:List Qm):Nat→Nat
  |0=>0
  |i+1=>if My qs (iP qs i)<My qs i then i else iP qs i
def eY (qs:List Qm):Nat→Nat
  |0=>0
  |i+1=>if My qs i<My qs (eY qs i) then i else eY qs i
theorem tY {qs:List Qm} (h:1≤qs.length):∀i,i≤qs.length→iP qs i<qs.length
  |0,_=>h
  |i+1,hi=>by have:=tY h i om;unfold iP;split<;>omega
theorem qq {qs:List Qm} (h:1≤qs.length):∀i,i≤qs.length→eY qs i<qs.length
  |0,_=>h
  |i+1,hi=>by have:=qq h i om;unfold eY;split<;>omega
abbrev mo (qs:List Qm):Nat:=iP qs qs.length
abbrev le (qs:List Qm):Nat:=eY qs qs.length
def C1 (qs:List Qm):Int:=My qs (mo qs)-My qs (le qs)
def uU (qs:List Qm):Option Kv:=(dV (qg qs (mo qs))).find? (fun t=>decide (t.x<C1 qs))
def jt (qs:List Qm):List Qm:=match uU qs with|none=>qs|some t=>fV qs t.id (le qs)
def iC (qs:List Qm):Int:=match uU qs with|none=> -1|some t=>t.id
def JB (qs:List Qm):Int:=match uU qs with|none=> -1|some _=>(mo qs:Nat)
def tz (qs:List Qm):Int:=match uU qs with|none=> -1|some _=>(le qs:Nat)
theorem JE {L:List Kv} {p:Kv→Bool} :∀{k:Nat},(∀j,j<k→p (L.getD j default)=false)→k<L.length→p (L.getD k default)=true→L.find? p=some (L.getD k default):=by
  induction L with
  |nil=>intro k _ h;cases h
  |cons x L ih=>
    intro k h1 h2 h3;cases k with
    |zero=>simp only [List.getD_cons_zero] at h3 ⊢;rw [List.find?_cons,h3]
    |succ k=>
      have h0:=h1 0 om;simp only [List.getD_cons_zero] at h0;simp only [List.getD_cons_succ] at h3 ⊢;rw [List.find?_cons,h0];exact ih (fun j hj=>by have:=h1 (j+1) om;rwa [List.getD_cons_succ] at this) (by simpa using h2) h3
theorem KH {L:List Kv} {p:Kv→Bool} (h:∀j,j<L.length→p (L.getD j default)=false):L.find? p=none:=by
  rw [List.find?_eq_none];intro x hx;obtain ⟨j,hj,rfl⟩:=List.getElem_of_mem hx;have:=h j hj;rw [List.getD_eq_getElem?_getD,List.getElem?_eq_getElem hj] at this;simpa using this
theorem k4 {qs:List Qm} (h:rq qs) {t:Kv} (hb:uU qs=some t):t∈(qg qs (mo qs)).l∧t.id≠(qg qs (mo qs)).cur∧t.x<C1 qs∧bO qs t.id=mo qs∧mo qs<qs.length∧le qs<qs.length∧le qs≠bO qs t.id:=by
  have hm:=tY h.len.1 qs.length (Nat.le_refl _);have hl:=qq h.len.1 qs.length (Nat.le_refl _);have h1:=List.mem_of_find?_eq_some hb;have h2:=List.find?_some hb;simp only [decide_eq_true_eq] at h2;obtain ⟨h3,h4⟩:=(yB (h.wf _ hm).nd t).1 h1;have h5:bO qs t.id=mo qs:=h.at hm (iG.2 ⟨t,h3,rfl⟩);refine ⟨h3,h4,h2,h5,hm,hl,fun e=>?_⟩;rw [h5] at e;have h6:=((h.wf _ hm).wt t h3).1
  unfold C1 at h2
  rw [e] at h2;omega
theorem xA (qs:List Qm) (i:Nat):iP qs (i+1)=if My qs (iP qs i)<My qs i then i else iP qs i:=rfl
theorem vC (qs:List Qm) (i:Nat):eY qs (i+1)=if My qs i<My qs (eY qs i) then i else eY qs i:=rfl
theorem k7 (qs:List Qm):iP qs 0=0:=rfl
theorem jx (qs:List Qm):eY qs 0=0:=rfl
attribute [irreducible] iP eY
structure QKd {α:Type} (R:Nat→Nat→α→aa→Prop):Prop where
  ge:∀{n0 b x m},R n0 b x m→∀p∈m,n0≤p.1
  bW:∀{n0 b x m},R n0 b x m→∀p∈m,bW p.2=false
  mono:∀{n0 n1 b x m},R n0 b x m→n1≤n0→R n1 b x m
def jT {α:Type} [Inhabited α] (R:Nat→Nat→α→aa→Prop) (n0:Nat) (bs:List Nat) (qs:List α) (mm:aa):Prop:=
  ∃M:List aa,mm=M.flatten∧bs.length=qs.length∧M.length=qs.length∧∀i,i<qs.length→R n0 (bs.getD i default) (qg qs i) (M.getD i [])
section
variable {α:Type} [Inhabited α] {R:Nat→Nat→α→aa→Prop} (hR:QKd R) {n0:Nat} {bs:List Nat} {qs:List α} {mm:aa}
theorem jT.nil:jT R n0 [] [] [] :=⟨[],rfl,rfl,rfl,fun i h=>by cases h⟩
theorem jT.len (h:jT R n0 bs qs mm):bs.length=qs.length:=by obtain ⟨M,_,h,_⟩:=h;exact h
include hR in
theorem jT.ge (h:jT R n0 bs qs mm):∀p∈mm,n0≤p.1:=by
  obtain ⟨M,rfl,h1,h2,h3⟩:=h;intro p hp;obtain ⟨m,hm,ph⟩:=List.mem_flatten.1 hp;obtain ⟨i,hi,rfl⟩:=List.getElem_of_mem hm;refine hR.ge (h3 i om) p ?_;rw [List.getD_eq_getElem?_getD,List.getElem?_eq_getElem hi];exact ph
include hR in
theorem jT.bW (h:jT R n0 bs qs mm):∀p∈mm,bW p.2=false:=by
  obtain ⟨M,rfl,h1,h2,h3⟩:=h;intro p hp;obtain ⟨m,hm,ph⟩:=List.mem_flatten.1 hp;obtain ⟨i,hi,rfl⟩:=List.getElem_of_mem hm;refine hR.bW (h3 i om) p ?_;rw [List.getD_eq_getElem?_getD,List.getElem?_eq_getElem hi];exact ph
include hR in
theorem jT.mono (h:jT R n0 bs qs mm) {n1:Nat} (hn:n1≤n0):jT R n1 bs qs mm:=by
  obtain ⟨M,rfl,h1,h2,h3⟩:=h;exact⟨M,rfl,h1,h2,fun i hi=>hR.mono (h3 i hi) hn⟩
theorem jT.snoc (h:jT R n0 bs qs mm) {b:Nat} {x:α} {m:aa} (hx:R n0 b x m):jT R n0 (bs++ [b]) (qs++ [x]) (mm++m):=by
  obtain ⟨M,rfl,h1,h2,h3⟩:=h;refine ⟨M++ [m],by simp,by simp [h1],by simp [h2],fun i hi=>?_⟩;rw [List.length_append,List.length_singleton] at hi;rw [PN qs x i om];rw [List.getD_eq_getElem?_getD,List.getD_eq_getElem?_getD]
  by_cases e:i=qs.length
  · rw [if_pos e,List.getElem?_append_right om,List.getElem?_append_right om,h1,h2,e];simpa using hx
  · rw [if_neg e,List.getElem?_append_left om,List.getElem?_append_left om]
    have:=h3 i om;rw [List.getD_eq_getElem?_getD,List.getD_eq_getElem?_getD] at this;exact this
theorem jT.read {P:Program} {f:FuncId} {args:Array Value} {w:World} {Q:Value→World→Prop} {i:Nat} (h:jT R n0 bs qs mm) (hi:i<qs.length) (hm:Mem w mm)
    (hs:∀m,R n0 (bs.getD i default) (qg qs i) m→Mem w m→aJ P f args w Q):aJ P f args w Q:=by
  obtain ⟨M,rfl,h1,h2,h3⟩:=h;exact hs _ (h3 i hi) (Ex om hm)
include hR in
theorem jT.Vz {P:Program} {f:FuncId} {args:Array Value} {w:World} {T:Value→aa→Prop} {x':α} {i:Nat} (h:jT R n0 bs qs mm) (hi:i<qs.length) (hm:Mem w mm)
    (hs:∀m,R n0 (bs.getD i default) (qg qs i) m→Mem w m→aJ P f args w (eI m (fun u m'=>∃mr mx,T u mr∧m'=mr++mx∧R n0 (bs.getD i default) x' mx) w)):
    aJ P f args w (eI mm (fun u m'=>∃mr mx,T u mr∧m'=mr++mx∧jT R n0 bs (qs.set i x') mx) w):=by
  obtain ⟨M,rfl,h1,h2,h3⟩:=h;have UG:i<M.length:=by omega
  refine (hs _ (h3 i hi) (Ex UG hm)).mono (fun u w' hU=>?_);have jC:=fun p hp=>TX (M:=M) (i:=i) UG (p:=p) hp;obtain ⟨m',⟨mr,mx,hu,rfl,hr⟩,jF,hM,hC,_⟩:=vm (G:=top) (S:=fun b=>∃q∈M.flatten,q.1=b) (w0:=w) (hm.perm (mj M i UG)) (hR.bW (h3 i hi)) (fun p hp _=>⟨p,jC p hp,rfl⟩) (cX.refl _ _) trivial hU
  have ph:((mr++mx)++(M.eraseIdx i).flatten).Perm (mr++(M.set i mx).flatten):=by
    rw [List.append_assoc];exact(Ku UG mx).symm.append_left mr
  refine ⟨hC,mr++(M.set i mx).flatten,⟨mr,_,hu,rfl,M.set i mx,rfl,by rw [List.length_set];exact h1,by rw [List.length_set,List.length_set];exact h2,fun j hj=>?_⟩,hM.perm ph,fun p hp=>?_⟩
  · rw [List.length_set] at hj
    rw [bK hi,List.getD_eq_getElem?_getD (l:=M.set i mx),List.getElem?_set]
    by_cases e:i=j
    · subst e;rw [if_pos rfl,if_pos rfl,if_pos UG];exact hr
    · rw [if_neg e,if_neg e]
      have:=h3 j hj;rw [List.getD_eq_getElem?_getD (l:=M)] at this;exact this
  · rcases List.mem_append.1 (ph.mem_iff.2 hp) with q|q
    · rcases jF p q with z|⟨q',G3,e⟩
      · exact .inl z
      · exact .inr ⟨q',jC q' G3,e⟩
    · exact .inr ⟨p,(mj M i UG).mem_iff.2 (List.mem_append_right _ q),rfl⟩
include hR in
theorem jT.AE {P:Program} {f:FuncId} {args:Array Value} {w:World} {u0:Value} {x':α} {i:Nat} (h:jT R n0 bs qs mm) (hi:i<qs.length) (hm:Mem w mm)
    (hs:∀m,R n0 (bs.getD i default) (qg qs i) m→Mem w m→aJ P f args w (eI m (fun u m'=>u=u0∧R n0 (bs.getD i default) x' m') w)):
    aJ P f args w (eI mm (fun u m'=>u=u0∧jT R n0 bs (qs.set i x') m') w):=
  (h.Vz hR (T:=fun u mr=>u=u0∧mr=[]) hi hm (fun m hr hM=>(hs m hr hM).mono (fun u w' ⟨a,m',⟨e,r⟩,b,c⟩=>⟨a,m',⟨[],m',⟨e,rfl⟩,rfl,r⟩,b,c⟩))).mono
    (fun u w' ⟨a,m',⟨mr,mx,⟨e,e2⟩,e3,r⟩,b,c⟩=>⟨a,m',⟨e,by rw [e3,e2];exact r⟩,b,c⟩)
end
def fP (b:Nat):List Value:=[.pointer (some ⟨b,0,none⟩)]
def fk (k g:Int):List Qm:=List.replicate (aB k 1 4).toNat (u7 g)
theorem rZ {n i:Nat} {x:Qm} (h:i<n):qg (List.replicate n x) i=x:=by unfold qg;rw [List.getD_eq_getElem?_getD,List.getElem?_replicate,if_pos h];rfl
theorem ei (k g:Int):(fk k g).length=(aB k 1 4).toNat:=List.length_replicate
theorem tS (g a:Int):¬cd (u7 g) a:=by unfold cd u7;simp
theorem He (k g:Int):ez (fk k g)=0:=by
  have:∀n,ez (List.replicate n (u7 g))=0:=fun n=>by
    induction n with
    |zero=>rfl
    |succ n ih=>show (u7 g).l.length+ez (List.replicate n (u7 g))=0;rw [ih];rfl
  exact this _
theorem Be (k g:Int):rq (fk k g):=by
  have hb:=dN (n:=k) (lo:=1) (hi:=4) (by decide);refine ⟨by rw [ei];omega,fun i hi=>?_,fun i j a hi hj h1 h2=>?_,by rw [He];omega⟩
  · rw [ei] at hi;rw [fk,rZ hi];exact KI g
  · rw [ei] at hi;rw [fk,rZ hi] at h1;exact absurd h1 (tS g a)
theorem Mr (n:Nat) (x:Qm):List.replicate n x++ [x] =List.replicate (n+1) x:=(List.replicate_succ' ..).symm
theorem Qk {x:Qm} {a:Int} (hE:mW x a=0) (v:BitVec 64) (w:Int):IF x a v w=qW x a v w∧Lq x a v w=rB x v (aB w 1 4096):=⟨if_pos hE,if_pos hE⟩
theorem DK (qs:List Qm) (i:Nat) (x:Qm):(qs.set i x).length=qs.length:=List.length_set
def eF (qs:List Qm) (core a:Int):Int:=if¬bO qs a<qs.length then 4 else if core<0∨(qs.length:Int)≤core then 1 else if (bO qs a:Int)=core then 12 else if (qg qs (bO qs a)).cur=a then 8 else 0
def jB (qs:List Qm) (core a:Int):List Qm:=if eF qs core a=0 then fV qs a core.toNat else qs
theorem zj {qs:List Qm} {a:Int} (h:N9 qs a<0):¬bO qs a<qs.length:=fun q=>by unfold N9 at h;rw [if_pos q] at h;omega
theorem yE {qs:List Qm} {a:Int} (h:¬N9 qs a<0):bO qs a<qs.length:=Classical.byContradiction fun q=>by unfold N9 at h;rw [if_neg q] at h;omega
theorem kL {qs:List Qm} {core a:Int} (h:eF qs core a≠0):jB qs core a=qs:=if_neg h
theorem Un {qs:List Qm} (h:∀j,j<(dV (qg qs (mo qs))).length→¬((dV (qg qs (mo qs))).getD j default).x<C1 qs):uU qs=none:=KH (fun j hj=>decide_eq_false (h j hj))
theorem S5 {qs:List Qm} {k:Nat} (h:∀j,j<k→¬((dV (qg qs (mo qs))).getD j default).x<C1 qs) (hk:k<(dV (qg qs (mo qs))).length) (h2:((dV (qg qs (mo qs))).getD k default).x<C1 qs):uU qs=some ((dV (qg qs (mo qs))).getD k default):=JE (fun j hj=>decide_eq_false (h j hj)) hk (decide_eq_true h2)
/-! the members -/
def Y7 (s:BitVec 64):List Nat:=(List.range 64).filter (fun i=>s.getLsbD i)
/-! one number -/
def r8 (i:Int):BitVec 64:=if i<0∨63<i then 0#64 else 1#64<<<i.toNat
def aN (s:BitVec 64) (i:Int):Bool:=decide (0≤i)&&(decide (i<64)&&s.getLsbD i.toNat)
theorem nI (i:Int) (j:Nat):(r8 i).getLsbD j=(decide ((j:Int)=i)&&decide (j<64)):=by
  unfold r8
  split
  · rename_i h
    rw [BitVec.getLsbD_zero]
    by_cases hj:(j:Int)=i
    · rw [decide_eq_false (show¬j<64 by omega)];simp
    · rw [decide_eq_false hj];rfl
  · rename_i h
    rw [BitVec.getLsbD_shiftLeft,BitVec.getLsbD_one]
    by_cases hj:(j:Int)=i
    · have:i.toNat=j:=by omega
      subst hj;simp [show j<64 by omega]
    · rw [decide_eq_false hj]
      by_cases h1:j<i.toNat
      · simp [h1]
      · have:¬j-i.toNat=0:=by omega
        simp [this]
theorem N0 (s:BitVec 64) (i:Int):decide (s&&& r8 i≠0#64)=aN s i:=by
  unfold aN
  rw [Bool.eq_iff_iff];simp only [decide_eq_true_eq,Bool.and_eq_true]
  constructor
  · intro h
    have hi:0≤i∧i<64:=by
      apply Classical.byContradiction;intro hn;apply h
      have:r8 i=0#64:=by unfold r8;rw [if_pos om]
      rw [this];simp
    refine ⟨hi.1,hi.2,?_⟩
    apply Classical.byContradiction;intro hb;apply h
    apply BitVec.eq_of_getLsbD_eq
    intro j hj;rw [BitVec.getLsbD_and,nI,BitVec.getLsbD_zero]
    by_cases e:(j:Int)=i
    · have:i.toNat=j:=by omega
      rw [this] at hb;simp [hb]
    · rw [decide_eq_false e];simp
  · rintro ⟨h1,h2,h3⟩ e
    have:(s&&& r8 i).getLsbD i.toNat=true:=by
      rw [BitVec.getLsbD_and,h3,nI,decide_eq_true (show ((i.toNat:Nat):Int)=i by omega),decide_eq_true (show i.toNat<64 by omega)];rfl
    rw [e,BitVec.getLsbD_zero] at this;cases this
theorem eH {s:BitVec 64} {i:Nat} :aN s (i:Int)=s.getLsbD i:=by
  unfold aN
  by_cases h:i<64
  · rw [decide_eq_true (show (0:Int)≤i by omega),decide_eq_true (show (i:Int)<64 by omega),Int.toNat_natCast];rfl
  · have:=BitVec.getLsbD_of_ge s i om
    rw [decide_eq_false (show¬(i:Int)<64 by omega),this];simp
def da (s:BitVec 64) (i:Int):BitVec 64:=s|||r8 i
def xj (s:BitVec 64) (i:Int):BitVec 64:=s&&& ~~~(r8 i)
theorem dW (s:BitVec 64) (i k:Int):aN (da s i) k=(aN s k||(decide (k=i)&&(decide (0≤k)&&decide (k<64)))):=by
  unfold aN da
  rw [BitVec.getLsbD_or,nI]
  by_cases h1:0≤k<;>by_cases h2:k<64
  · have e:decide (((k.toNat:Nat):Int)=i)=decide (k=i):=decide_eq_decide.2 om
    rw [e,decide_eq_true (show k.toNat<64 by omega),decide_eq_true h1,decide_eq_true h2];cases s.getLsbD k.toNat<;>cases decide (k=i)<;>rfl
  all_goals simp [h1,h2]
theorem gK (s:BitVec 64) (i k:Int):aN (xj s i) k=(aN s k&& !(decide (k=i))):=by
  unfold aN xj
  rw [BitVec.getLsbD_and,BitVec.getLsbD_not,nI]
  by_cases h1:0≤k<;>by_cases h2:k<64
  · have e:decide (((k.toNat:Nat):Int)=i)=decide (k=i):=decide_eq_decide.2 om
    rw [e,decide_eq_true (show k.toNat<64 by omega),decide_eq_true h1,decide_eq_true h2];cases s.getLsbD k.toNat<;>cases decide (k=i)<;>rfl
  all_goals simp [h1,h2]
theorem rh {a b:BitVec 64} (h:∀i:Nat,i<64→aN a i=aN b i):a=b:=by
  apply BitVec.eq_of_getLsbD_eq
  intro i hi;have:=h i hi;rwa [eH,eH] at this
theorem eS (a b:BitVec 64) (i:Int):aN (a|||b) i=(aN a i||aN b i):=by
  unfold aN;rw [BitVec.getLsbD_or];cases decide (0≤i)<;>cases decide (i<64)<;>simp
theorem cF (i:Int):aN 0#64 i=false:=by unfold aN;simp
theorem qA {s:BitVec 64} {i:Int} (h:i<0∨63<i):da s i=s:=by unfold da r8;rw [if_pos h];simp
theorem qd {s:BitVec 64} {i:Int} (h:aN s i=true):da s i=s:=by
  apply rh;intro k hk
  rw [dW]
  by_cases e:(k:Int)=i
  · rw [e,h];rfl
  · rw [decide_eq_false e];simp
theorem gm {s:BitVec 64} {i:Int} (h:aN s i=true):0≤i∧i<64:=by
  simp only [aN,Bool.and_eq_true,decide_eq_true_eq] at h;exact⟨h.1,h.2.1⟩
def adD (a b:BitVec 64):Prop:=a&&& ~~~b=0#64
instance (a b:BitVec 64):Decidable (adD a b):=inferInstanceAs (Decidable (_=_))
theorem Ab {a b:BitVec 64} :a&&& ~~~b=0#64↔∀i:Nat,i<64→aN a i=true→aN b i=true:=by
  constructor
  · intro h i hi ha
    rw [eH] at*;have h1:(a&&& ~~~b).getLsbD i=false:=by rw [h];simp
    rw [BitVec.getLsbD_and,BitVec.getLsbD_not,ha,decide_eq_true hi] at h1;simpa using h1
  · intro h
    apply BitVec.eq_of_getLsbD_eq
    intro i hi;have:=h i hi;rw [eH,eH] at this;rw [BitVec.getLsbD_and,BitVec.getLsbD_not,decide_eq_true hi,BitVec.getLsbD_zero];cases h1:a.getLsbD i
    · rfl
    · rw [this h1];rfl
/-! the document's -/
theorem Na (s:BitVec 64) (n:Nat):decide ((s >>> n) % 2#64=1#64)=s.getLsbD n:=by
  rw [Bool.eq_iff_iff,decide_eq_true_eq,BitVec.getLsbD,Nat.testBit];rw [←BitVec.toNat_inj,BitVec.toNat_umod,BitVec.toNat_ushiftRight];have h2:(2#64).toNat=2:=rfl;have h1:(1#64).toNat=1:=rfl;rw [h2,h1,Nat.one_and_eq_mod_two];have:=Nat.mod_two_eq_zero_or_one (s.toNat >>> n);rcases this with h|h<;>simp [h]
theorem tT {s:BitVec 64} {i:Int} (h:¬(i<0∨63<i)) (hb:aN s i=false):s+1#64<<<i.toNat=da s i:=by
  have e:r8 i=1#64<<<i.toNat:=by unfold r8;rw [if_neg h]
  unfold da
  rw [←e]
  apply BitVec.add_eq_or_of_and_eq_zero
  apply Classical.byContradiction;intro hn
  have:=N0 s i;rw [hb,decide_eq_false_iff_not] at this;exact this hn
structure Wt where
  who:Int
  key:Int
  til:BitVec 64
deriving DecidableEq
instance:Inhabited Wt:=⟨⟨0,0,0#64⟩⟩
def LF (L:List Wt) (key:Int):List Wt:=L.filter (fun w=>decide (w.key=key))
def CC (L:List Wt) (who:Int):List Wt:=L.filter (fun w=>decide (w.who≠who))
def wA (L:List Wt):Prop:=L.Pairwise (fun a b=>a.who≠b.who)
theorem vU {L:List Wt} {k:Int} {w:Wt} :w∈LF L k↔w∈L∧w.key=k:=by unfold LF;rw [List.mem_filter];simp
theorem pq {L:List Wt} {who:Int} {w:Wt} :w∈CC L who↔w∈L∧w.who≠who:=by unfold CC;rw [List.mem_filter];simp
theorem QF {L:List Wt} {who:Int} (h:∀w∈L,w.who≠who):CC L who=L:=List.filter_eq_self.2 (fun w hw=>decide_eq_true (h w hw))
theorem IJ {L:List Wt} (h:wA L) (who:Int):wA (CC L who):=h.filter _
theorem X5 {L:List Wt} (h:wA L) (k:Int):wA (LF L k):=h.filter _
theorem OK {L:List Wt} (h:wA L) {v:Wt} (hn:∀w∈L,w.who≠v.who):wA (L++ [v]):=
  List.pairwise_append.2 ⟨h,List.pairwise_singleton ..,fun a ha b hb=>by rw [List.mem_singleton] at hb;subst hb;exact hn a ha⟩
theorem BG:∀{L:List Wt} {i:Nat} {w:Wt},wA L→L[i]? =some w→CC L w.who=L.eraseIdx i
  | [],i,w,_,h=>by simp at h
  |x::L,0,w,h,hi=>by
    simp at hi;subst hi;have h1:=List.pairwise_cons.1 h
    show List.filter _ _=_
    rw [List.filter_cons_of_neg (by simp)];exact QF (fun y hy e=>h1.1 y hy e.symm)
  |x::L,i+1,w,h,hi=>by
    have h1:=List.pairwise_cons.1 h;have Zm:L[i]? =some w:=by simpa using hi
    have hx:x.who≠w.who:=h1.1 w (List.mem_of_getElem? Zm)
    show List.filter _ _=_
    rw [List.filter_cons_of_pos (by simpa using hx),List.eraseIdx_cons_succ]
    congr 1
    exact BG h1.2 Zm
def wj (L:List Wt) (key:Int):Nat:=(LF L key).length
structure mZ where
  w:Int
  v:BitVec 64
  h:Int
  a:Bool
deriving Inhabited
structure mV where
  l:List mZ
  sl:Int
  cr:Int
  fl:BitVec 64
abbrev gP (l:List mZ) (p:Nat):mZ:=l.getD p default
def oT (x:mV) (p:Int):Bool:=decide (0≤p)&&decide (p<(x.l.length:Nat))
theorem L8 {x:mV} {p:Nat} (h:p<x.l.length):oT x (p:Int)=true:=by unfold oT;simp;omega
theorem uX {x:mV} {p:Int} (h:oT x p=true):∃i:Nat,p=i∧i<x.l.length:=by
  unfold oT at h;simp at h;exact⟨p.toNat,by omega,by omega⟩
def kU (ws:List Int) (s c:Int):mV:=⟨(ws.take 8).map (fun w=>⟨aB w 1 16,0#64,0,false⟩),aB s 1 32,aB c 1 32,0#64⟩
def KS (q:mZ):mZ:= {q with v:=o0 q.v (o7 q.w),h:=q.h+1}
def AT (x:mV) (p:Nat):mV:= {x with l:=x.l.set p (KS (gP x.l p))}
def EA (x:mV) (q:mZ) (w:Int):mZ:=if aB w 1 16=q.w then q else {q with w:=aB w 1 16,v:=eG q.v x.fl (o7 (aB w 1 16)*BitVec.ofInt 64 x.sl)}
def cc (x:mV) (p:Nat) (w:Int):mV:= {x with l:=x.l.set p (EA x (gP x.l p) w)}
def ec (l:List mZ) (s:BitVec 64):Nat→Int
  |0=> -1
  |k+1=>if s.getLsbD k=true∧(ec l s k<0∨(gP l k).v.toNat<(gP l (ec l s k).toNat).v.toNat) then k else ec l s k
theorem uC (l:List mZ) (s:BitVec 64):∀k,-1≤ec l s k∧ec l s k<(k:Nat)
  |0=>⟨Int.le_refl _,by show (-1:Int)<0;decide⟩
  |k+1=>by
    have:=uC l s k
    unfold ec;split<;>omega
theorem xv (l:List mZ) (s:BitVec 64):∀k,0≤ec l s k→s.getLsbD (ec l s k).toNat=true
  |0,h=>absurd (show (0:Int)≤-1 from h) (by decide)
  |k+1,h=>by
    unfold ec at h ⊢
    split
    · rename_i c;simpa using c.1
    · rename_i c;rw [if_neg c] at h;exact xv l s k h
theorem vJ {l:List mZ} {s:BitVec 64} :∀{k},ec l s k<0→∀p,p<k→s.getLsbD p=false
  |0,_,p,hp=>absurd hp (Nat.not_lt_zero _)
  |k+1,h,p,hp=>by
    unfold ec at h
    by_cases c:s.getLsbD k=true∧(ec l s k<0∨(gP l k).v.toNat<(gP l (ec l s k).toNat).v.toNat)
    · rw [if_pos c] at h;omega
    · rw [if_neg c] at h
      by_cases e:p=k
      · subst e
        cases hb:s.getLsbD p with
        |false=>rfl
        |true=>exact absurd ⟨hb,.inl h⟩ c
      · exact vJ h p om
def IC (x:mV) (now:Bool) (q:mZ):mZ:= {q with v:=if now=true∧q.a=false then eG q.v x.fl (lD q.w x.sl x.cr) else q.v,a:=now}
def tw (x:mV) (s:BitVec 64) (k:Nat):List mZ:=(List.range x.l.length).map (fun p=>if p<k then IC x (s.getLsbD p) (gP x.l p) else gP x.l p)
theorem ij (x:mV) (s:BitVec 64) (k:Nat):(tw x s k).length=x.l.length:=by simp [tw]
theorem lA {x:mV} {s:BitVec 64} {k p:Nat} (hp:p<x.l.length):gP (tw x s k) p=if p<k then IC x (s.getLsbD p) (gP x.l p) else gP x.l p:=by
  unfold gP tw
  rw [List.getD_eq_getElem?_getD,List.getElem?_map,List.getElem?_range hp];rfl
theorem CP {l l':List mZ} (hl:l.length=l'.length) (h:∀p,p<l.length→gP l p=gP l' p):l=l':=by
  refine List.ext_getElem hl (fun p h1 h2=>?_);have:=h p h1
  unfold gP at this
  rw [List.getD_eq_getElem?_getD,List.getD_eq_getElem?_getD,List.getElem?_eq_getElem h1,List.getElem?_eq_getElem h2] at this;exact this
theorem yK {l:List mZ} {p q:Nat} {y:mZ} (hp:p<l.length):gP (l.set p y) q=if q=p then y else gP l q:=by
  unfold gP
  rw [List.getD_eq_getElem?_getD,List.getD_eq_getElem?_getD,List.getElem?_set]
  by_cases e:q=p
  · subst e;simp [hp]
  · rw [if_neg (fun z=>e z.symm),if_neg e]
theorem I3 (x:mV) (s:BitVec 64):tw x s 0=x.l:=CP (ij x s 0) (fun p hp=>by rw [ij] at hp;rw [lA hp,if_neg (Nat.not_lt_zero _)])
theorem Bm {x:mV} {s:BitVec 64} {k:Nat} (hk:k<x.l.length):tw x s (k+1)=(tw x s k).set k (IC x (s.getLsbD k) (gP x.l k)):=by
  refine CP (by rw [List.length_set,ij,ij]) (fun p hp=>?_);rw [ij] at hp;rw [yK (by rw [ij];exact hk),lA hp,lA hp]
  by_cases e:p=k
  · subst e;rw [if_pos (Nat.lt_succ_self _),if_pos rfl]
  · rw [if_neg e]
    by_cases c:p<k
    · rw [if_pos c,if_pos om]
    · rw [if_neg c,if_neg om]
def nk (x:mV) (s:BitVec 64):List mZ:=tw x s x.l.length
def T8 (a b:BitVec 64):BitVec 64:=if a.toNat<b.toNat then b else a
def mC (x:mV) (s:BitVec 64):mV:= {x with l:=nk x s,fl:=if ec (nk x s) s x.l.length<0 then x.fl else T8 x.fl (gP (nk x s) (ec (nk x s) s x.l.length).toNat).v}
/-! the least, gone over by members -/
theorem u6 {l:List mZ} {p:Nat} (hp:p<l.length):l.set p (gP l p)=l:=CP (List.length_set ..) (fun q hq=>by
  rw [yK hp];by_cases e:q=p
  · rw [if_pos e,e]
  · rw [if_neg e])
/-! those that become active, gone over by members -/
def upQ (x:mV) (q:mZ):mZ:=⟨q.w,eG q.v x.fl (lD q.w x.sl x.cr),q.h,q.a⟩
theorem tH (x:mV) (s:BitVec 64):(nk x s).length=x.l.length:=ij ..
/-! the least, its V -/
def yD (l:List mZ) (s:BitVec 64) (k:Nat):BitVec 64:=if ec l s k<0 then 0#64 else (gP l (ec l s k).toNat).v
theorem Fx {l:List mZ} {s:BitVec 64} {k:Nat} {ls:BitVec 64} {mt:Bool} (um:ls=yD l s k) (CM:mt=decide (0≤ec l s k)) (h:s.getLsbD k=true) (h2:mt=false∨(gP l k).v.toNat<ls.toNat):(gP l k).v=yD l s (k+1)∧true=decide (0≤ec l s (k+1)):=by
  have e:ec l s (k+1)=(k:Nat):=by
    show (if _ then _ else _)=_
    refine if_pos ⟨h,?_⟩
    by_cases c:ec l s k<0
    · exact .inl c
    · rcases h2 with h2|h2
      · subst CM;simp at h2;exact .inl om
      · rw [um,show yD l s k=_ from if_neg c] at h2;exact .inr h2
  rw [e];unfold yD;rw [e,if_neg om];exact⟨rfl,(decide_eq_true om).symm⟩
theorem L0 {l:List mZ} {s:BitVec 64} {k:Nat} {ls:BitVec 64} {mt:Bool} (um:ls=yD l s k) (CM:mt=decide (0≤ec l s k)) (h:s.getLsbD k=true→mt=true∧¬(gP l k).v.toNat<ls.toNat):ls=yD l s (k+1)∧mt=decide (0≤ec l s (k+1)):=by
  have e:ec l s (k+1)=ec l s k:=by
    show (if _ then _ else _)=_
    refine if_neg (fun q=>?_);have h2:=h q.1;have c:¬ec l s k<0:=by have:=h2.1;subst CM;simp at this;omega
    rcases q.2 with q2|q2
    · exact c q2
    · rw [um,show yD l s k=_ from if_neg c] at h2;exact h2.2 q2
  unfold yD at*;rw [e];exact⟨um,CM⟩
theorem LR {x:mV} {s:BitVec 64} {k:Nat} (hk:k<x.l.length):gP (tw x s (k+1)) k=gP (nk x s) k:=by
  rw [lA hk,show gP (nk x s) k=_ from lA hk,if_pos (Nat.lt_succ_self k),if_pos hk]
theorem Nu {x:mV} {s:BitVec 64} {k:Nat} (hk:k<x.l.length):gP (tw x s k) k=gP x.l k:=by rw [lA hk,if_neg (Nat.lt_irrefl k)]
theorem gPs {l:List mZ} {p:Nat} {y:mZ} (hp:p<l.length):(l.set p y).getD p default=y:=by rw [List.getD_eq_getElem?_getD,List.getElem?_set_self hp];rfl
def vP (q:mZ) (v:BitVec 64):mZ:=⟨q.w,v,q.h,q.a⟩
def wP (q:mZ) (w:Int):mZ:=⟨w,q.v,q.h,q.a⟩
def LdB (x:mV):Prop:=x.l.length≤8∧(1≤x.sl∧x.sl≤32)∧1≤x.cr∧x.cr≤32
def ptN (w:Int):mZ:=⟨aB w 1 16,0#64,0,false⟩
def R7 (ws:List Int) (i:Nat):List mZ:=(ws.take i).map ptN
theorem Nv {ws:List Int} {i:Nat} (h:i≤ws.length):(R7 ws i).length=i:=by unfold R7;rw [List.length_map,List.length_take];omega
theorem LH {ws:List Int} {i:Nat} (h:i<ws.length):R7 ws (i+1)=R7 ws i++ [ptN (ws.getD i 0)] :=by
  unfold R7;rw [bD 0 h,List.map_append];rfl
theorem F7 {ws:List Int} {k:Nat} (s c:Int) (h:k=min ws.length 8):R7 ws k=(kU ws s c).l:=by
  show (ws.take k).map ptN=(ws.take 8).map _
  have:ws.take k=ws.take 8:=by
    rcases Nat.le_total ws.length 8 with q|q
    · rw [List.take_of_length_le om,List.take_of_length_le om]
    · rw [show k=8 by omega]
  rw [this];rfl
theorem kJ (ws:List Int) (s c:Int):(kU ws s c).l.length=min ws.length 8:=by
  show ((ws.take 8).map _).length=_;rw [List.length_map,List.length_take];omega
theorem E5 (ws:List Int) (s c:Int):LdB (kU ws s c):=⟨by show ((ws.take 8).map _).length≤8;rw [List.length_map,List.length_take];omega,dN (by decide),dN (by decide)⟩
structure vW where
  p:Int
  u:Int
deriving Inhabited
abbrev RT (t:vW):Value:= .agg #[.int .i64 t.p,.int .i64 t.u]
def yc (t:vW) (sl p:Int):Bool:=decide (0≤p)&&(decide (t.p=p)&&decide (t.u<aB sl 1 16))
def pj (t:vW) (sl:Int) (s:BitVec 64) (least:Int):vW:=if s=0#64∨(aN s t.p=true∧yc t sl t.p=true) then t else ⟨least,0⟩
def iH (t:vW):vW:=if t.u<2147483648 then ⟨t.p,t.u+1⟩ else t
def wZ (t:vW) (sl:Int):vW:=if t.u<aB sl 1 16 then ⟨t.p,aB sl 1 16⟩ else t
structure db where
  k:Int
  a:Int
  b:Int
structure km where
  sh:Bool
  sl:Int
  cr:Int
  rd:Int
  wr:Int
instance:Inhabited db:=⟨⟨0,0,0⟩⟩
instance:Inhabited km:=⟨⟨false,0,0,0,0⟩⟩
def fO (o:db):List Value:=[.int .i64 o.k,.int .i64 o.a,.int .i64 o.b]
def fL (x:km):List Value:=[.bool x.sh,.int .i64 x.sl,.int .i64 x.cr,.int .i64 x.rd,.int .i64 x.wr]
/-! the first that is such -/
def jL {α:Type} (p:α→Bool) (xs:List α):Int:=if xs.any p then (xs.findIdx p:Nat) else-1
theorem fX {α:Type} {p:α→Bool} {xs:List α} {i:Nat} (d:α) (h:i<xs.length):(xs.take (i+1)).any p=((xs.take i).any p||p (xs.getD i d)):=by
  rw [bD d h,List.any_append];simp
theorem ED {α:Type} {p:α→Bool} {xs:List α} {i:Nat} (d:α) (h0:(xs.take i).any p=false) (h:i<xs.length) (hp:p (xs.getD i d)=true):jL p xs=(i:Nat):=by
  have e:=aQ d h;have h1:xs.any p=true:=List.any_eq_true.2 ⟨_,List.mem_of_getElem? e,hp⟩
  have h2:xs.findIdx p=i:=by
    rw [List.findIdx_eq h];refine ⟨by rw [List.getElem?_eq_getElem h] at e;rw [Option.some.inj e];exact hp,fun j hj=>?_⟩;have h3:=List.any_eq_false.1 h0 xs[j] (by rw [List.mem_take_iff_getElem];exact⟨j,by omega,rfl⟩);simpa using h3
  unfold jL;rw [if_pos h1,h2]
theorem qw {α:Type} {p:α→Bool} {xs:List α} (h:xs.any p=false):jL p xs= -1:=by
  unfold jL;rw [h];rfl
/-! ops -/
def nM (k:Int):Bool:=decide (2≤k)&&decide (k≤5)
def gq (k:Int):Bool:=decide (k=1)||decide (k=7)||decide (k=8)||decide (k=11)
def r4 (k:Int):Int:=if k=1 then 1 else if k=2∨k=3∨k=4∨k=6∨k=9 then 0 else if k=5 then 0 else if k=7 then 1 else if k=10 then 1 else-1
def wT (k:Int):Int:=if k=1 then 16 else if k=2∨k=3∨k=4∨k=6∨k=9 then 7 else if k=5 then 7 else if k=7 then 64 else if k=10 then 16 else-1
def Lm (k:Int):Int:=if k=5 then 1 else-1
def MR (k:Int):Int:=if k=5 then 64 else-1
def hasB (lo hi n:Int):Bool:=if lo= -1 then decide (n=0) else decide (lo≤n)&&decide (n≤hi)
def sR (k:Int):Bool:=decide (1≤k)&&decide (k≤11)
def iD (o:db):Bool:=sR o.k&&hasB (r4 o.k) (wT o.k) o.a&&hasB (Lm o.k) (MR o.k) o.b
/-! names -/
/-! sections: the steps to the end, and the ticks -/
def nN (lock:Int) (o:db):Bool:=decide (o.k=11)||(decide (o.k=6)&&decide (o.a=lock))
def nP (lock:Int):List db→Nat×Int
  | [] =>(0,0)
  |o::l=>if nN lock o then (0,0) else ((nP lock l).1+1,(if o.k=1 then o.a else 0)+(nP lock l).2)
theorem Ir {lock:Int} {xs:List db} {i:Nat} (h:i<xs.length) (hs:nN lock (xs.getD i default)=false):
    nP lock (xs.drop i)=((nP lock (xs.drop (i+1))).1+1,(if (xs.getD i default).k=1 then (xs.getD i default).a else 0)+(nP lock (xs.drop (i+1))).2):=by
  have e:=aQ (default:db) h;rw [List.getElem?_eq_getElem h] at e;rw [List.drop_eq_getElem_cons h,Option.some.inj e];rw [nP,if_neg (by rw [hs];simp)]
theorem IP {lock:Int} {xs:List db} {i:Nat} (h:i<xs.length) (hs:nN lock (xs.getD i default)=true):nP lock (xs.drop i)=(0,0):=by
  have e:=aQ (default:db) h;rw [List.getElem?_eq_getElem h] at e;rw [List.drop_eq_getElem_cons h,Option.some.inj e];rw [nP,if_pos hs]
theorem Pn {lock:Int} {xs:List db} {i:Nat} (h:xs.length≤i):nP lock (xs.drop i)=(0,0):=by
  rw [List.drop_of_length_le h];rfl
def nG (xs:List db):Prop:=xs.length≤20∧∀o∈xs,-1125899906842624≤o.a∧o.a≤1125899906842624
theorem nG.at {xs:List db} (h:nG xs) (i:Nat): -1125899906842624≤(xs.getD i default).a∧(xs.getD i default).a≤1125899906842624:=by
  by_cases hi:i<xs.length
  · exact h.2 _ (List.mem_of_getElem? (aQ default hi))
  · rw [List.getD_eq_getElem?_getD,List.getElem?_eq_none om];decide
/-! which ops fit -/
def wY (xs:List db) (i:Nat):Nat×Int:=nP (xs.getD i default).a (xs.drop (i+1))
def gG (fv:Bool) (xs:List db) (ls:List km) (cO:Int) (i:Nat):Int:=
  if (nM (xs.getD i default).k||decide ((xs.getD i default).k=6))&&decide ((xs.getD i default).a ≥ ls.length)||decide ((xs.getD i default).k=9)&&decide ((xs.getD i default).a ≥ cO) then 4
  else if decide ((xs.getD i default).k=3)&& !(ls.getD (xs.getD i default).a.toNat default).sh then 1
  else if !nM (xs.getD i default).k then 0
  else if decide ((wY xs i).2<1)||decide ((wY xs i).2 > (ls.getD (xs.getD i default).a.toNat default).cr)||fv&&decide (((i+1+(wY xs i).1:Nat):Int)=xs.length) then 13 else 0
def kW (xs:List db):Bool:=decide (0<xs.length)&&decide (xs.length≤12)&&xs.all iD
def Cy (fv:Bool) (xs:List db) (ls:List km) (cO:Int):Int×Int:=
  if kW xs then
    match (List.range xs.length).find? (fun j=>decide (gG fv xs ls cO j≠0)) with
    |some j=>((j:Int),gG fv xs ls cO j)
    |none=>if fv&& !xs.any (fun o=>gq o.k) then (0,1) else (0,0)
  else (0,1)
theorem y7 {o:db} (h:iD o=true):0≤o.a∧o.a≤64∧(2≤o.k∧o.k≤6∨o.k=9→o.a≤7):=by
  unfold iD sR hasB r4 wT at h
  simp only [Bool.and_eq_true,decide_eq_true_eq] at h;obtain ⟨⟨⟨h1,h2⟩,h3⟩,-⟩:=h;have:o.k=1∨o.k=2∨o.k=3∨o.k=4∨o.k=5∨o.k=6∨o.k=7∨o.k=8∨o.k=9∨o.k=10∨o.k=11:=by omega
  rcases this with hk|hk|hk|hk|hk|hk|hk|hk|hk|hk|hk<;>rw [hk] at h3 ⊢ <;>simp at h3<;>omega
theorem yV {xs:List db} (h:kW xs=true) {i:Nat} (hi:i<xs.length):iD (xs.getD i default)=true:=by
  unfold kW at h;simp only [Bool.and_eq_true,List.all_eq_true] at h
  exact h.2 _ (List.mem_of_getElem? (aQ default hi))
theorem xE {xs:List db} (h:kW xs=true):nG xs:=by
  have h':=h
  unfold kW at h;simp only [Bool.and_eq_true,List.all_eq_true,decide_eq_true_eq] at h
  exact⟨by omega,fun o ho=>by have:=y7 (h.2 o ho);omega⟩
theorem OO {fv:Bool} {xs:List db} {ls:List km} {cO:Int} (h:kW xs=false):Cy fv xs ls cO=(0,1):=by unfold Cy;rw [h];rfl
theorem XG {fv:Bool} {xs:List db} {ls:List km} {cO:Int} {i:Nat} (h:kW xs=true) (h0:∀j,j<i→gG fv xs ls cO j=0) (hi:i<xs.length) (hf:gG fv xs ls cO i≠0):Cy fv xs ls cO=((i:Int),gG fv xs ls cO i):=by
  unfold Cy
  rw [if_pos h,(List.find?_range_eq_some (i:=i)).2 ⟨by simpa using hf,List.mem_range.2 hi,fun j hj=>by simp [h0 j hj]⟩]
theorem TM {fv:Bool} {xs:List db} {ls:List km} {cO:Int} (h:kW xs=true) (h0:∀j,j<xs.length→gG fv xs ls cO j=0):Cy fv xs ls cO=if fv&& !xs.any (fun o=>gq o.k) then (0,1) else (0,0):=by
  unfold Cy
  rw [if_pos h,List.find?_range_eq_none.2 (fun j hj=>by simp [h0 j hj])]
theorem s8 {g:Nat→Int} {i:Nat} (h:∀j,j<i→g j=0) (hi:g i=0):∀j,j<i+1→g j=0:=fun j hj=>by
  rcases Nat.lt_or_ge j i with h1|h1
  · exact h j h1
  · rw [show j=i by omega];exact hi
/-! more ticks, more locks, more programs -/
def mx0 (c:Int):Int:=if 0 > c then 0 else c
/-! ### What is gone over -/
def W0 (xs:List db) (i:Nat):Value:= .agg #[.int .i64 (i:Nat),.int .i64 ((i+1+(wY xs i).1:Nat)),.int .i64 (xs.getD i default).a,.int .i64 (wY xs i).2]
structure Hd where
  t:Int
  p:Int
  d:Bool
deriving Inhabited
structure aY where
  sh:Bool
  sl:Int
  ho:List Hd
  wt:List Wt
  tr:vW
  ld:mV
  di:Bool
def ff (l:List Hd) (t:Int):Nat:=l.findIdx (fun h=>decide (h.t=t))
def mP (l:List Hd) (t:Int):Int:=jL (fun h=>decide (h.t=t)) l
def bd (x:aY) (t:Int):Bool:=x.ho.any (fun h=>decide (h.t=t))
theorem ox (x:aY) (t:Int):decide (0≤mP x.ho t)=bd x t:=by
  unfold mP bd jL
  cases x.ho.any (fun h=>decide (h.t=t))
  · rfl
  · simp
theorem pD {x:aY} {t:Int} (h:bd x t=true):mP x.ho t=(ff x.ho t:Nat)∧ff x.ho t<x.ho.length∧(x.ho.getD (ff x.ho t) default).t=t:=by
  have h1:ff x.ho t<x.ho.length:=List.findIdx_lt_length.2 (by unfold bd at h;rw [List.any_eq_true] at h;exact h);refine ⟨if_pos h,h1,?_⟩;have:=List.findIdx_getElem (w:=h1);rw [List.getD_eq_getElem?_getD,List.getElem?_eq_getElem h1];exact of_decide_eq_true this
def bY (x:aY) (t:Int):Bool:=x.wt.any (fun w=>decide (w.who=t))
def kO (x:aY):Bool:=x.sh&&(decide (0<x.ho.length)&&decide ((x.ho.getD 0 default).p=0))
def gg (x:aY) (p:Int):Bool:=oT x.ld p&&(decide (x.ho.length=0)||(decide (p=0)&&(kO x&&(decide (wj x.wt 1=0)||yc x.tr x.sl 0))))
def jM (l:List Int):BitVec 64:=l.foldl da 0#64
def gb (x:aY):BitVec 64:=jM (x.wt.map (·.key))
def G1 (x:aY):BitVec 64:=jM (x.wt.map (·.key)++x.ho.map (·.p))
def cB (x:aY):aY:= {x with ld:=mC x.ld (G1 x)}
def mI (x:aY) (t p:Int):aY:= {x with ho:=x.ho++ [⟨t,p,x.di⟩],di:=false}
def zZ (L:List Wt) (os:List Int):List Wt:=os.foldl CC L
def cQ (x:aY) (p:Int) (n:Nat):List Int:=((LF x.wt p).take n).map (·.who)
def l9 (x:aY) (p:Int) (n:Nat):aY:=(cQ x p n).foldl (fun x t=>mI x t p) {x with wt:=zZ x.wt (cQ x p n)}
def dp (x:aY):aY:= {x with tr:=pj x.tr x.sl (gb x) (ec x.ld.l (gb x) x.ld.l.length)}
def mB (x:aY):Nat:=if x.sh=true∧(dp x).tr.p=0 then 8 else 1
def iJ (x:aY):List Int:=if x.wt.length=0 then [] else cQ x (dp x).tr.p (mB x)
def jV (x:aY):aY:=if x.wt.length=0 then x else l9 (dp x) (dp x).tr.p (mB x)
def cD (x:aY) (t p:Int):Int:=if oT x.ld p=false∨t<0 then 1 else if bd x t=true then 9 else if bY x t=true then 12 else 0
def c6 (x:aY) (t p:Int):Int:=if cD x t p≠0 then cD x t p else if gg x p=true then 0 else 8
def bT (x:aY) (p:Int):aY:=if x.ho.length=0∧yc x.tr x.sl p=false then {x with tr:=⟨p,0⟩} else x
def cu (x:aY) (t p:Int):aY:=if c6 x t p≠0 then x else cB (mI (bT x p) t p)
def js (x:aY) (t p:Int):Int:=if cD x t p≠0 then cD x t p else if gg x p=true then 4 else if 8≤x.wt.length then 3 else 0
def dv (x:aY) (t p:Int):aY:=if js x t p≠0 then x else cB {x with wt:=x.wt++ [⟨t,p,0#64⟩] }
def fa (x:aY) (t:Int):aY:= {x with ho:=x.ho.eraseIdx (ff x.ho t)}
def mM (x:aY) (t:Int):Int:=if bd x t=true then 0 else 7
def dZ (x:aY) (t:Int):List Int:=if bd x t=true∧(fa x t).ho.length=0 then iJ (fa x t) else []
def ej (x:aY) (t:Int):aY:=if bd x t=true then cB (if (fa x t).ho.length=0 then jV (fa x t) else fa x t) else x
def cV (x:aY) (t:Int):aY:= {x with wt:=CC x.wt t}
def o9 (x:aY) (t:Int):List Int:=if bY x t=true∧kO x=true∧wj (cV x t).wt 1=0 then cQ (cV x t) 0 8 else []
def fw (x:aY) (t:Int):aY:=if bY x t=true then cB (if kO x=true∧wj (cV x t).wt 1=0 then l9 (cV x t) 0 8 else cV x t) else x
def Ro (x:aY) (t:Int):Bool:=bY x t||bd x t
def ua (x:aY) (t:Int):List Int:=if bY x t=true then o9 x t else dZ {x with di:=true} t
def rk (x:aY) (t:Int):aY:=if bY x t=true then fw x t else if bd x t=true then ej {x with di:=true} t else x
def iR (x:aY) (t:Int):aY:=if bd x t=true then cB {x with ld:=AT x.ld (x.ho.getD (ff x.ho t) default).p.toNat,tr:=iH x.tr} else x
def wF (x:aY) (g:Int):Bool:= !x.sh&&oT x.ld g
def iz (x:aY) (g wt:Int):aY:=if wF x g=true then cB {x with ld:=cc x.ld g.toNat wt,tr:=if x.tr.p=g∧(gP (cc x.ld g.toNat wt).l g.toNat).w≠(gP x.ld.l g.toNat).w then wZ x.tr x.sl else x.tr} else x
def yG (x:aY) (g:Int) (r:Bool):Int:=if x.sh=true then (if r=true then 0 else 1) else if r=true∨oT x.ld g=false then-1 else g
/-! the first of a key, taken one after another -/
theorem NZ {x:Wt} {l:List Wt} (h:wA (x::l)):CC (x::l) x.who=l:=by
  show List.filter _ _=_
  rw [List.filter_cons_of_neg (by simp)];exact QF (fun y hy e=>(List.pairwise_cons.1 h).1 y hy e.symm)
theorem BO (s:BitVec 64) (i:Int):da s i=s|||r8 i:=rfl
theorem yw:∀(l:List Int) (s:BitVec 64),l.foldl da s=s|||jM l
  | [],s=>by show s=s|||0#64;simp
  |i::l,s=>by
    unfold jM
    rw [List.foldl_cons,List.foldl_cons,yw l,yw l (da 0#64 i),BO,BO];rw [BitVec.zero_or,BitVec.or_assoc]
theorem Bg (a b:List Int):jM (a++b)=jM a|||jM b:=by
  show (a++b).foldl da 0#64=_;rw [List.foldl_append];exact yw b _
theorem Hk (a b:List Int):jM (a++b)=jM (b++a):=by rw [Bg,Bg,BitVec.or_comm]
def td (h:Hd):List Value:=[.int .i64 h.t,.int .i64 h.p,.bool h.d]
theorem xg (l:List Int) (i:Int):jM (l++ [i])=da (jM l) i:=by unfold jM;rw [List.foldl_append];rfl
theorem g9 {α:Type} {f:α→Int} {l:List α} {i:Nat} (d:α) (h:i<l.length):(l.take (i+1)).map f=(l.take i).map f++ [f (l.getD i d)] :=by rw [bD d h,List.map_append];rfl
theorem vx (x:aY) (p:Int):(bT x p).wt=x.wt:=by unfold bT;split<;>rfl
theorem oK {L:List Wt} :∀{os:List Int} {w:Wt},w∈zZ L os↔w∈L∧w.who ∉ os:=by
  intro os
  unfold zZ
  induction os generalizing L with
  |nil=>intro w;simp
  |cons t os ih=>intro w;rw [List.foldl_cons,ih,pq];simp only [List.mem_cons,not_or];exact⟨fun ⟨⟨a,b⟩,c⟩=>⟨a,b,c⟩,fun ⟨a,b,c⟩=>⟨⟨a,b⟩,c⟩⟩
theorem Bt {p:Int} :∀(os:List Int) (x:aY),(os.foldl (fun x t=>mI x t p) x).wt=x.wt
  | [],x=>rfl
  |t::os,x=>by rw [List.foldl_cons,Bt os];rfl
theorem PL (x:aY) (p:Int) (n:Nat):(l9 x p n).wt=zZ x.wt (cQ x p n):=Bt _ _
theorem NJ {x:aY} {t:Int} (h:bd x t=true) (h0:(fa x t).ho.length=0):dZ x t=iJ (fa x t):=if_pos ⟨h,h0⟩
theorem Ta {x:aY} {t:Int} (h0:¬(fa x t).ho.length=0):dZ x t=[] :=if_neg (fun q=>h0 q.2)
theorem Kq {x:aY} {t:Int} (h:bd x t=true):(fa x t).ho.length=x.ho.length-1:=by
  show (x.ho.eraseIdx _).length=_;rw [List.length_eraseIdx,if_pos (pD h).2.1]
theorem X7 {x:aY} {t:Int} (h:bY x t=false):o9 x t=[]∧fw x t=x:=⟨if_neg (fun q=>by rw [h] at q;cases q.1),if_neg (by rw [h];simp)⟩
theorem Vt {x:aY} {t:Int} (h:bY x t=true) (h2:kO x=true∧wj (cV x t).wt 1=0):o9 x t=cQ (cV x t) 0 8∧fw x t=cB (l9 (cV x t) 0 8):=⟨if_pos ⟨h,h2⟩,by unfold fw;rw [if_pos h,if_pos h2]⟩
theorem SH {x:aY} {t:Int} (h:bY x t=true) (h2:¬(kO x=true∧wj (cV x t).wt 1=0)):o9 x t=[]∧fw x t=cB (cV x t):=⟨if_neg (fun q=>h2 q.2),by unfold fw;rw [if_pos h,if_neg h2]⟩
theorem O1 {x:aY} {t:Int} (h:bd x t=true):iR x t=cB {x with ld:=AT x.ld (x.ho.getD (ff x.ho t) default).p.toNat,tr:=iH x.tr} :=if_pos h
theorem KC {x:aY} {t:Int} (h:bd x t=false):iR x t=x:=if_neg (by rw [h];simp)
theorem PF {x:aY} {t:Int} (h:bd x t=true):x.ho.getD (ff x.ho t) default∈x.ho:=by
  rw [List.getD_eq_getElem?_getD,List.getElem?_eq_getElem (pD h).2.1];exact List.getElem_mem _
theorem Iu {x:aY} {g wt:Int} (h:wF x g=false):iz x g wt=x:=if_neg (by rw [h];simp)
theorem FP {x:aY} {g:Nat} {wt:Int} (h:wF x g=true):iz x g wt=cB {x with ld:=cc x.ld g wt,tr:=if x.tr.p=(g:Int)∧(gP (cc x.ld g wt).l g).w≠(gP x.ld.l g).w then wZ x.tr x.sl else x.tr} :=if_pos h
structure ME where
  sh:Bool
  sl:Int
  cr:Int
  rd:Int
  wr:Int
deriving Inhabited
abbrev So (d:ME):List Value:=[.bool d.sh,.int .i64 d.sl,.int .i64 d.cr,.int .i64 d.rd,.int .i64 d.wr]
def QA (gs:List Int):List Int:=if (gs.take 4).length=0 then [1] else gs.take 4
def rU (d:ME) (gs:List Int):List Int:=if d.sh=true then [d.rd,d.wr] else QA gs
def nJ (d:ME) (gs:List Int):aY:=⟨d.sh,aB d.sl 1 16,[],[],⟨-1,0⟩,kU (rU d gs) (aB d.sl 1 16) d.cr,false⟩
theorem Ip (d:ME) (gs:List Int):0<(rU d gs).length∧(rU d gs).length≤4:=by
  unfold rU QA
  split
  · exact⟨Nat.succ_pos _,by simp⟩
  · split
    · exact⟨Nat.succ_pos _,by simp⟩
    · rw [List.length_take] at*;omega
def RdS (ws:List Int) (ad:Option Addr) (n cap:Nat) (m:aa) (w:World):Prop:=n=ws.length∧∀w',Mem w' m→Ext w w'→Sr fI 1 ws (.slice ad n cap) w'
def qU (p:Int):Nat→List Wt→List Wt
  |_,[] =>[]
  |n,w::l=>if w.key=p∧0<n then qU p (n-1) l else w::qU p n l
theorem r6 (p:Int):∀l,qU p 0 l=l
  | [] =>rfl
  |w::l=>by
    show (if w.key=p∧0<0 then _ else w::qU p 0 l)=_
    rw [if_neg (fun q=>absurd q.2 (Nat.lt_irrefl 0)),r6 p l]
theorem KR {w:Wt} {L:List Wt} :∀{os:List Int},w.who ∉ os→zZ (w::L) os=w::zZ L os:=by
  intro os
  unfold zZ
  induction os generalizing L with
  |nil=>intro _;rfl
  |cons t os ih=>
    intro h;rw [List.foldl_cons,List.foldl_cons]
    have e:CC (w::L) t=w::CC L t:=by
      unfold CC;rw [List.filter_cons_of_pos (by simpa using fun q=>h (by rw [q];exact List.mem_cons_self ..))]
    rw [e];exact ih (fun q=>h (List.mem_cons_of_mem _ q))
theorem nj {w:Wt} {l:List Wt} {p:Int} (h:w.key=p):LF (w::l) p=w::LF l p:=by
  unfold LF;rw [List.filter_cons_of_pos (by simpa using h)]
theorem oe {w:Wt} {l:List Wt} {p:Int} (h:w.key≠p):LF (w::l) p=LF l p:=by
  unfold LF;rw [List.filter_cons_of_neg (by simpa using h)]
theorem tZ (p:Int):∀(L:List Wt) (n:Nat),wA L→qU p n L=zZ L (((LF L p).take n).map (·.who))
  | [],n,_=>by
    show [] =zZ [] _
    have:LF [] p=[] :=rfl;rw [this,List.take_nil];rfl
  |w::l,n,h=>by
    show (if w.key=p∧0<n then qU p (n-1) l else w::qU p n l)=_
    have hl:=(List.pairwise_cons.1 h).2;have hw:=(List.pairwise_cons.1 h).1
    by_cases c:w.key=p
    · by_cases c2:0<n
      · rw [if_pos ⟨c,c2⟩,nj c,tZ p l _ hl]
        obtain ⟨m,rfl⟩:∃m,n=m+1:=⟨n-1,by omega⟩
        rw [Nat.add_sub_cancel,List.take_succ_cons,List.map_cons]
        show _=zZ (CC (w::l) w.who) _
        rw [NZ h]
      · rw [if_neg (fun q=>c2 q.2),show n=0 by omega,r6,List.take_zero];rfl
    · rw [if_neg (fun q=>c q.1),oe c,tZ p l _ hl,KR]
      intro q;obtain ⟨z,hz,e⟩:=List.mem_map.1 q;exact hw z (vU.1 (List.mem_of_mem_take hz)).1 e.symm
theorem xz {p:Int} {w:Wt} {l:List Wt} {n:Nat} (h:w.key≠p∨n=0):qU p n (w::l)=w::qU p n l:=if_neg (fun q=>by rcases h with h|h;exact h q.1;omega)
theorem Bp {p:Int} {w:Wt} {l:List Wt} {n:Nat} (h:w.key=p) (hn:0<n):qU p n (w::l)=qU p (n-1) l:=if_pos ⟨h,hn⟩
theorem xM:∀(l:List Int) (s:BitVec 64) (q:Nat),(l.foldl da s).getLsbD q=(s.getLsbD q||(decide (q<64)&&l.any (fun k=>decide (k=(q:Int)))))
  | [],s,q=>by simp
  |k::l,s,q=>by
    rw [List.foldl_cons,xM l,List.any_cons]
    show ((s|||r8 k).getLsbD q||_)=_
    rw [BitVec.getLsbD_or,nI]
    by_cases e:k=(q:Int)
    · subst e;by_cases c:q<64<;>simp [c]
    · have:¬(q:Int)=k:=fun z=>e z.symm
      by_cases c:q<64<;>simp [c,e,this]
theorem Cc (l:List Int) (q:Nat):(jM l).getLsbD q=(decide (q<64)&&l.any (fun k=>decide (k=(q:Int)))):=by
  unfold jM;rw [xM];simp
theorem Ah (l:List Int) (q:Int) (h:0≤q∧q<64):aN (jM l) q=l.any (fun k=>decide (k=q)):=by
  unfold aN;rw [Cc]
  have e:((q.toNat:Nat):Int)=q:=by omega
  rw [e];simp [h.1,h.2]
theorem GZ {l:List Int} (h:∀k∈l,0≤k∧k<64):jM l=0#64↔l.length=0:=by
  constructor
  · intro e
    cases l with
    |nil=>rfl
    |cons k l=>
      have hk:=h k (List.mem_cons_self ..);have:=Ah (k::l) k hk;rw [e,cF] at this;simp at this
  · intro e;rw [List.eq_nil_of_length_eq_zero e];rfl
theorem Py {x:mV} {p:Int} (h:oT x p=true) (hl:x.l.length≤8):0≤p∧p<64:=by
  obtain ⟨i,rfl,hi⟩:=uX h;omega
def AJ (p:Int) (d:Bool):List Int→List Hd
  | [] =>[]
  |t::os=>⟨t,p,d⟩::os.map (fun t=>⟨t,p,false⟩)
theorem WN (p:Int):∀os,AJ p false os=os.map (fun t=>(⟨t,p,false⟩:Hd))
  | [] =>rfl
  |t::os=>rfl
theorem lO (p:Int):∀(os:List Int) (x:aY),os.foldl (fun x t=>mI x t p) x= {x with ho:=x.ho++AJ p x.di os,di:=x.di&&os.isEmpty}
  | [],x=>by simp [AJ]
  |t::os,x=>by
    rw [List.foldl_cons,lO p os]
    show ({x with ho:=(x.ho++ [⟨t,p,x.di⟩])++AJ p false os,di:=false&&os.isEmpty} :aY)= {x with ho:=x.ho++(⟨t,p,x.di⟩::os.map (fun t=>⟨t,p,false⟩)),di:=x.di&&false}
    rw [WN,List.append_assoc,Bool.false_and,Bool.and_false];rfl
theorem rf (p:Int) (d:Bool):∀os,(AJ p d os).length=os.length
  | [] =>rfl
  |t::os=>by simp [AJ]
theorem Br (p:Int) (d:Bool):∀os,(AJ p d os).map (·.t)=os
  | [] =>rfl
  |t::os=>by simp [AJ,Function.comp_def]
theorem JP {p:Int} {d:Bool} :∀{os:List Int} {h:Hd},h∈AJ p d os→h.p=p
  | [],h,q=>by cases q
  |t::os,h,q=>by
    rcases List.mem_cons.1 q with rfl|q
    · rfl
    · obtain ⟨t',_,rfl⟩:=List.mem_map.1 q;rfl
theorem eQ (x:aY) (p:Int) (n:Nat):l9 x p n= {x with wt:=zZ x.wt (cQ x p n),ho:=x.ho++AJ p x.di (cQ x p n),di:=x.di&&(cQ x p n).isEmpty} :=lO p _ _
structure pg (x:aY):Prop where
  wd:wA x.wt
  w8:x.wt.length≤8
  hd:(x.ho.map (·.t)).Nodup
  dj:∀w∈x.wt,∀h∈x.ho,w.who≠h.t
  wk:∀w∈x.wt,oT x.ld w.key=true
  hk:∀h∈x.ho,oT x.ld h.p=true
  wz:∀w∈x.wt,w.til=0#64
  ex:x.sh=false→x.ho.length≤1
  rd:x.sh=true→(∀h∈x.ho,h.p=0)∨x.ho.length≤1
  l2:x.sh=true→x.ld.l.length=2
  l8:x.ld.l.length≤8
structure k9 (x:aY):Prop extends pg x where
  em:x.ho.length=0→x.wt.length=0
theorem pg.core {x y:aY} (h:pg x) (e1:y.sh=x.sh) (e2:y.ho=x.ho) (e3:y.wt=x.wt) (e4:y.ld.l.length=x.ld.l.length):pg y:=by
  have hi:∀p,oT y.ld p=oT x.ld p:=fun p=>by unfold oT;rw [e4]
  refine ⟨?_,?_,?_,?_,?_,?_,?_,?_,?_,?_,?_⟩
  · rw [e3];exact h.wd
  · rw [e3];exact h.w8
  · rw [e2];exact h.hd
  · rw [e2,e3];exact h.dj
  · rw [e3];exact fun w hw=>by rw [hi];exact h.wk w hw
  · rw [e2];exact fun w hw=>by rw [hi];exact h.hk w hw
  · rw [e3];exact h.wz
  · rw [e1,e2];exact h.ex
  · rw [e1,e2];exact h.rd
  · rw [e1,e4];exact h.l2
  · rw [e4];exact h.l8
theorem k9.core {x y:aY} (h:k9 x) (e1:y.sh=x.sh) (e2:y.ho=x.ho) (e3:y.wt=x.wt) (e4:y.ld.l.length=x.ld.l.length):k9 y:=
  ⟨h.topg.core e1 e2 e3 e4,by rw [e2,e3];exact h.em⟩
theorem gS (x:mV) (s:BitVec 64):(mC x s).l.length=x.l.length:=tH x s
theorem k9.settle {x:aY} (h:k9 x):k9 (cB x):=h.core rfl rfl rfl (gS _ _)
theorem pg.hws {x:aY} (h:pg x):gb x=0#64↔x.wt.length=0:=by
  unfold gb
  rw [GZ (fun k hk=>by obtain ⟨w,hw,rfl⟩:=List.mem_map.1 hk;exact Py (h.wk w hw) h.l8),List.length_map]
theorem qI {x:aY} {p:Int} {n:Nat} {t:Int} (h:t∈cQ x p n):∃w∈x.wt,w.who=t∧w.key=p:=by
  unfold cQ at h
  obtain ⟨w,hw,rfl⟩:=List.mem_map.1 h;have:=vU.1 (List.mem_of_mem_take hw);exact⟨w,this.1,rfl,this.2⟩
theorem Eb {x:aY} (h:wA x.wt) (p:Int) (n:Nat):(cQ x p n).Nodup:=by
  unfold cQ
  have h1:((LF x.wt p).take n).Pairwise (fun a b=>a.who≠b.who):=List.Pairwise.sublist (List.take_sublist _ _) (X5 h p);exact List.pairwise_map.2 h1
theorem Tu {L:List Wt} :∀{os:List Int},wA L→wA (zZ L os):=by
  intro os
  unfold zZ
  induction os generalizing L with
  |nil=>exact id
  |cons t os ih=>intro h;rw [List.foldl_cons];exact ih (IJ h t)
theorem SG {L:List Wt} :∀{os:List Int},(zZ L os).length≤L.length:=by
  intro os
  unfold zZ
  induction os generalizing L with
  |nil=>exact Nat.le_refl _
  |cons t os ih=>rw [List.foldl_cons];exact Nat.le_trans ih (List.length_filter_le _ _)
theorem pg.Ki {x:aY} (h:pg x) (p:Int) (n:Nat) (hc:(x.ho.length=0∧(n=1∨(x.sh=true∧p=0)))∨(x.sh=true∧p=0∧∀h∈x.ho,h.p=0)):pg (l9 x p n):=by
  rw [eQ];have hm:∀t∈cQ x p n,∃w∈x.wt,w.who=t∧w.key=p:=fun t ht=>qI ht;refine ⟨Tu h.wd,Nat.le_trans SG h.w8,?_,?_,fun w hw=>h.wk w (oK.1 hw).1,?_,fun w hw=>h.wz w (oK.1 hw).1,?_,?_,h.l2,h.l8⟩
  · show ((x.ho++AJ p x.di (cQ x p n)).map (·.t)).Nodup
    rw [List.map_append,Br,List.nodup_append];refine ⟨h.hd,Eb h.wd p n,fun a ha b hb e=>?_⟩;obtain ⟨g,hg,rfl⟩:=List.mem_map.1 ha;obtain ⟨w,hw,e2,_⟩:=hm b hb;exact h.dj w hw g hg (e2.trans e.symm)
  · intro w hw g hg
    have Hg:=oK.1 hw;rcases List.mem_append.1 hg with hg|hg
    · exact h.dj w Hg.1 g hg
    · intro e
      refine Hg.2 ?_;have:g.t∈(AJ p x.di (cQ x p n)).map (·.t):=List.mem_map.2 ⟨g,hg,rfl⟩;rw [Br] at this;rw [e];exact this
  · intro g hg
    rcases List.mem_append.1 hg with hg|hg
    · exact h.hk g hg
    · have hp:=JP hg
      have:g.t∈(AJ p x.di (cQ x p n)).map (·.t):=List.mem_map.2 ⟨g,hg,rfl⟩;rw [Br] at this;obtain ⟨w,hw,_,e⟩:=hm _ this
      show oT x.ld g.p=true
      rw [hp,←e];exact h.wk w hw
  · intro hs
    show (x.ho++_).length≤1
    rw [List.length_append,rf];rcases hc with ⟨h0,hn⟩|⟨q,_⟩
    · rcases hn with rfl|⟨q,_⟩
      · have:(cQ x p 1).length≤1:=by unfold cQ;rw [List.length_map,List.length_take];omega
        omega
      · rw [hs] at q;cases q
    · rw [hs] at q;cases q
  · intro hs
    show (∀g∈x.ho++AJ p x.di (cQ x p n),g.p=0)∨(x.ho++AJ p x.di (cQ x p n)).length≤1
    rcases hc with ⟨h0,hn⟩|⟨_,hp,hh⟩
    · have e0:=List.eq_nil_of_length_eq_zero h0
      rcases hn with rfl|⟨_,hp⟩
      · right
        have:(cQ x p 1).length≤1:=by unfold cQ;rw [List.length_map,List.length_take];omega
        rw [List.length_append,rf];omega
      · left
        intro g hg;rw [e0,List.nil_append] at hg;exact(JP hg).trans hp
    · left
      intro g hg;rcases List.mem_append.1 hg with hg|hg
      · exact hh g hg
      · exact(JP hg).trans hp
theorem KV {x:aY} (h:pg x) (hw:¬x.wt.length=0):∃w∈x.wt,w.key=(dp x).tr.p:=by
  have hs:gb x≠0#64:=fun q=>hw (h.hws.1 q)
  have key:aN (gb x) (dp x).tr.p=true:=by
    show aN (gb x) (pj x.tr x.sl (gb x) (ec x.ld.l (gb x) x.ld.l.length)).p=true
    unfold pj
    split
    · rename_i c
      rcases c with c|c
      · exact absurd c hs
      · exact c.1
    · show aN (gb x) (ec x.ld.l (gb x) x.ld.l.length)=true
      have hle:=uC x.ld.l (gb x) x.ld.l.length
      have h0:0≤ec x.ld.l (gb x) x.ld.l.length:=by
        apply Classical.byContradiction;intro q
        have fH:=vJ (l:=x.ld.l) (s:=gb x) (k:=x.ld.l.length) om;cases hx:x.wt with
        |nil=>rw [hx] at hw;exact hw rfl
        |cons w l=>
          have Ow:=h.wk w (by rw [hx];exact List.mem_cons_self ..);obtain ⟨i,hi,fp⟩:=uX Ow;have:=fH i fp;rw [show gb x=jM (x.wt.map (·.key)) from rfl,Cc,hx] at this;have h8:=h.l8;rw [decide_eq_true om,List.map_cons,List.any_cons,hi] at this;simp at this
      have hb:=xv x.ld.l (gb x) x.ld.l.length h0;have h8:=h.l8
      unfold aN;rw [decide_eq_true h0,decide_eq_true om,hb];rfl
  have hr:=gm key;rw [show gb x=jM (x.wt.map (·.key)) from rfl,Ah _ _ hr,List.any_eq_true] at key;obtain ⟨k,hk,e⟩:=key;obtain ⟨w,hw,rfl⟩:=List.mem_map.1 hk;exact⟨w,hw,of_decide_eq_true e⟩
theorem Jy {x:aY} {p:Int} {n:Nat} (hn:0<n) (h:∃w∈x.wt,w.key=p):0<(cQ x p n).length:=by
  obtain ⟨w,hw,e⟩:=h;have:w∈LF x.wt p:=vU.2 ⟨hw,e⟩;have h1:=List.length_pos_of_mem this
  unfold cQ;rw [List.length_map,List.length_take];omega
theorem Hq (x:aY):0<mB x:=by unfold mB;split<;>decide
theorem pg.pass {x:aY} (h:pg x) (h0:x.ho.length=0):k9 (jV x):=by
  unfold jV
  split
  · rename_i hw;exact⟨h,fun _=>hw⟩
  · rename_i hw
    have hv:pg (dp x):=h.core rfl rfl rfl rfl;have hk:=KV h hw;have al8:0<(cQ (dp x) (dp x).tr.p (mB x)).length:=Jy (Hq x) hk;refine ⟨hv.Ki _ _ (.inl ⟨h0,?_⟩),fun q=>?_⟩
    · unfold mB;split
      · rename_i c;exact .inr c
      · exact .inl rfl
    · rw [eQ] at q
      have q2:(x.ho++AJ (dp x).tr.p x.di (cQ (dp x) (dp x).tr.p (mB x))).length=0:=q;rw [List.length_append,rf] at q2;omega
theorem nR {x:aY} {t p:Int} (h:cD x t p=0):oT x.ld p=true∧0≤t∧bd x t=false∧bY x t=false:=by
  unfold cD at h
  by_cases c1:oT x.ld p=false∨t<0
  · rw [if_pos c1] at h;cases h
  · rw [if_neg c1] at h
    by_cases c2:bd x t=true
    · rw [if_pos c2] at h;cases h
    · rw [if_neg c2] at h
      by_cases c3:bY x t=true
      · rw [if_pos c3] at h;cases h
      · exact⟨by simpa using fun q=>c1 (.inl q),by omega,by simpa using c2,by simpa using c3⟩
theorem qj {x:aY} {t:Int} (h:bd x t=false):∀g∈x.ho,g.t≠t:=fun g hg e=>by
  unfold bd at h;rw [List.any_eq_false] at h;exact h g hg (decide_eq_true e)
theorem Ay {x:aY} {t:Int} (h:bY x t=false):∀w∈x.wt,w.who≠t:=fun g hg e=>by
  unfold bY at h;rw [List.any_eq_false] at h;exact h g hg (decide_eq_true e)
theorem DI {x:aY} {p:Int} (h:pg x) (hf:gg x p=true):oT x.ld p=true∧(x.ho.length=0∨(p=0∧x.sh=true∧0<x.ho.length∧∀g∈x.ho,g.p=0)):=by
  unfold gg kO at hf
  simp only [Bool.and_eq_true,Bool.or_eq_true,decide_eq_true_eq] at hf;refine ⟨hf.1,?_⟩;rcases hf.2 with q|⟨q1,⟨q2,q3,q4⟩,_⟩
  · exact .inl q
  · refine .inr ⟨q1,q2,q3,fun g hg=>?_⟩
    rcases h.rd q2 with r|r
    · exact r g hg
    · cases hx:x.ho with
      |nil=>rw [hx] at hg;cases hg
      |cons a l=>
        rw [hx] at r q4 hg;have:l=[] :=List.eq_nil_of_length_eq_zero (by simp at r;simp [r]);subst this;rcases List.mem_singleton.1 hg with rfl
        exact q4
theorem eK (x:aY) (p:Int):(bT x p).sh=x.sh∧(bT x p).ho=x.ho∧(bT x p).wt=x.wt∧(bT x p).ld=x.ld∧(bT x p).sl=x.sl∧(bT x p).di=x.di:=by
  unfold bT;split<;>exact⟨rfl,rfl,rfl,rfl,rfl,rfl⟩
theorem k9.take {x:aY} (h:k9 x) (t p:Int):k9 (cu x t p):=by
  unfold cu
  split
  · exact h
  · rename_i hE
    have Cm:c6 x t p=0:=by simpa using hE
    unfold c6 at Cm
    by_cases c:cD x t p≠0
    · rw [if_pos c] at Cm;exact absurd Cm c
    · rw [if_neg c] at Cm
      have hc:=nR (by simpa using c)
      by_cases hf:gg x p=true
      · obtain ⟨_,hh⟩:=DI h.topg hf
        have hv:=h.topg;obtain ⟨e1,e2,e3,e4,e5,e6⟩:=eK x p;refine k9.settle ⟨?_,fun q=>?_⟩
        · have fH:=qj hc.2.2.1
          have Cr:=Ay hc.2.2.2
          have key:pg {x with ho:=x.ho++ [(⟨t,p,x.di⟩:Hd)] } :=by
            refine ⟨hv.wd,hv.w8,?_,?_,hv.wk,?_,hv.wz,?_,?_,hv.l2,hv.l8⟩
            · show ((x.ho++ [(⟨t,p,x.di⟩:Hd)]).map (·.t)).Nodup
              rw [List.map_append,List.nodup_append];refine ⟨hv.hd,by simp,fun a ha b hb e=>?_⟩;obtain ⟨g,hg,rfl⟩:=List.mem_map.1 ha;simp only [List.map_cons,List.map_nil,List.mem_singleton] at hb;exact fH g hg (e.trans hb)
            · intro w hw g hg
              rcases List.mem_append.1 hg with hg|hg
              · exact hv.dj w hw g hg
              · rw [List.mem_singleton.1 hg];exact Cr w hw
            · intro g hg
              rcases List.mem_append.1 hg with hg|hg
              · exact hv.hk g hg
              · rw [List.mem_singleton.1 hg];exact hc.1
            · intro hs
              show (x.ho++ [_]).length≤1
              rw [List.length_append];rcases hh with q|⟨_,q,_⟩
              · simp [q]
              · rw [hs] at q;cases q
            · intro hs
              show (∀g∈x.ho++ [(⟨t,p,x.di⟩:Hd)],g.p=0)∨(x.ho++ [(⟨t,p,x.di⟩:Hd)]).length≤1
              rcases hh with q|⟨q1,_,_,q2⟩
              · right;rw [List.length_append,q];simp
              · left;intro g hg
                rcases List.mem_append.1 hg with hg|hg
                · exact q2 g hg
                · rw [List.mem_singleton.1 hg];exact q1
          exact key.core (by show (bT x p).sh=_;rw [e1]) (by show (bT x p).ho++ [⟨t,p,(bT x p).di⟩] =_;rw [e2,e6]) (by show (bT x p).wt=_;rw [e3]) (by show (bT x p).ld.l.length=_;rw [e4])
        · exfalso
          have:((bT x p).ho++ [(⟨t,p,(bT x p).di⟩:Hd)]).length=0:=q;rw [List.length_append] at this;simp at this
      · rw [if_neg hf] at Cm;cases Cm
theorem k9.wait {x:aY} (h:k9 x) (t p:Int):k9 (dv x t p):=by
  unfold dv
  split
  · exact h
  · rename_i hE
    have Cm:js x t p=0:=by simpa using hE
    unfold js at Cm
    by_cases c:cD x t p≠0
    · rw [if_pos c] at Cm;exact absurd Cm c
    · rw [if_neg c] at Cm
      have hc:=nR (by simpa using c)
      by_cases hf:gg x p=true
      · rw [if_pos hf] at Cm;cases Cm
      · rw [if_neg hf] at Cm
        by_cases h8:8≤x.wt.length
        · rw [if_pos h8] at Cm;cases Cm
        · have hv:=h.topg
          have fH:=qj hc.2.2.1;have Cr:=Ay hc.2.2.2;refine k9.settle ⟨⟨OK hv.wd Cr,by show (x.wt++ [_]).length≤8;rw [List.length_append];simp;omega,hv.hd,?_,?_,hv.hk,?_,hv.ex,hv.rd,hv.l2,hv.l8⟩,fun q=>?_⟩
          · intro w hw g hg
            rcases List.mem_append.1 hw with hw|hw
            · exact hv.dj w hw g hg
            · rw [List.mem_singleton.1 hw];exact fun e=>fH g hg e.symm
          · intro w hw
            rcases List.mem_append.1 hw with hw|hw
            · exact hv.wk w hw
            · rw [List.mem_singleton.1 hw];exact hc.1
          · intro w hw
            rcases List.mem_append.1 hw with hw|hw
            · exact hv.wz w hw
            · rw [List.mem_singleton.1 hw]
          · exfalso;apply hf
            unfold gg
            rw [hc.1,decide_eq_true (show x.ho.length=0 from q)];rfl
theorem pg.out {x:aY} (h:pg x) (t:Int):pg (fa x t):=by
  have lj:∀g∈(fa x t).ho,g∈x.ho:=fun g hg=>List.mem_of_mem_eraseIdx hg;have hlen:(fa x t).ho.length≤x.ho.length:=List.Sublist.length_le (List.eraseIdx_sublist _ _);refine ⟨h.wd,h.w8,?_,fun w hw g hg=>h.dj w hw g (lj g hg),h.wk,fun g hg=>h.hk g (lj g hg),h.wz,fun hs=>Nat.le_trans hlen (h.ex hs),fun hs=>?_,h.l2,h.l8⟩
  · exact List.Nodup.sublist (List.Sublist.map _ (List.eraseIdx_sublist _ _)) h.hd
  · rcases h.rd hs with q|q
    · exact .inl (fun g hg=>q g (lj g hg))
    · exact .inr (Nat.le_trans hlen q)
theorem k9.BL {x:aY} (h:pg x) (t:Int) (he:x.ho.length=0→x.wt.length=0):k9 (ej x t):=by
  unfold ej
  split
  · refine k9.settle ?_
    split
    · rename_i h0;exact(h.out t).pass h0
    · rename_i h0;exact⟨h.out t,fun q=>absurd q h0⟩
  · exact⟨h,he⟩
theorem pg.gone {x:aY} (h:pg x) (t:Int):pg (cV x t):=
  ⟨IJ h.wd t,Nat.le_trans (List.length_filter_le _ _) h.w8,h.hd,fun w hw=>h.dj w (pq.1 hw).1,fun w hw=>h.wk w (pq.1 hw).1,h.hk,fun w hw=>h.wz w (pq.1 hw).1,h.ex,h.rd,h.l2,h.l8⟩
theorem JO {x:aY} (h:pg x) (hr:kO x=true):x.sh=true∧0<x.ho.length∧∀g∈x.ho,g.p=0:=by
  unfold kO at hr
  simp only [Bool.and_eq_true,decide_eq_true_eq] at hr;obtain ⟨q2,q3,q4⟩:=hr;refine ⟨q2,q3,fun g hg=>?_⟩;rcases h.rd q2 with r|r
  · exact r g hg
  · cases hx:x.ho with
    |nil=>rw [hx] at hg;cases hg
    |cons a l=>
      rw [hx] at r q4 hg;have:l=[] :=List.eq_nil_of_length_eq_zero (by simp at r;simp [r]);subst this;rcases List.mem_singleton.1 hg with rfl
      exact q4
theorem k9.lv {x:aY} (h:k9 x) (t:Int):k9 (fw x t):=by
  unfold fw
  split
  · rename_i hw
    refine k9.settle ?_;have hg:=h.topg.gone t
    have eb:x.ho.length≠0:=fun q=>by
      have:=h.em q
      unfold bY at hw
      rw [List.eq_nil_of_length_eq_zero this] at hw;cases hw
    split
    · rename_i c
      have hr:=JO h.topg c.1;refine ⟨hg.Ki 0 8 (.inr ⟨hr.1,rfl,hr.2.2⟩),fun q=>?_⟩;rw [eQ] at q;have q2:(x.ho++_).length=0:=q;rw [List.length_append] at q2;omega
    · exact⟨hg,fun q=>absurd q eb⟩
  · exact h
theorem k9.die {x:aY} (h:k9 x) (t:Int):k9 (rk x t):=by
  unfold rk
  split
  · exact h.lv t
  · split
    · exact k9.BL (x:= {x with di:=true}) (h.topg.core rfl rfl rfl rfl) t h.em
    · exact h
theorem k9.xQ {x:aY} (h:k9 x) (t:Int):k9 (iR x t):=by
  unfold iR
  split
  · refine k9.settle (h.core rfl rfl rfl ?_)
    show (x.ld.l.set _ _).length=_;rw [List.length_set]
  · exact h
theorem k9.PH {x:aY} (h:k9 x) (g wt:Int):k9 (iz x g wt):=by
  unfold iz
  split
  · refine k9.settle (h.core rfl rfl rfl ?_)
    show (x.ld.l.set _ _).length=_;rw [List.length_set]
  · exact h
theorem NR (d:ME) (gs:List Int):k9 (nJ d gs):=by
  have hl:=Ip d gs;refine ⟨⟨List.Pairwise.nil,Nat.zero_le _,List.nodup_nil,fun w hw=>(by cases hw),fun w hw=>(by cases hw),fun w hw=>(by cases hw),fun w hw=>(by cases hw),fun _=>Nat.zero_le _,fun _=> .inr (Nat.zero_le _),fun hs=>?_,?_⟩,fun _=>rfl⟩
  · show (kU (rU d gs) _ _).l.length=2
    rw [kJ];unfold rU;rw [if_pos (show d.sh=true from hs)];rfl
  · show (kU (rU d gs) _ _).l.length≤8
    rw [kJ];omega
theorem vM (p:Int):∀(L:List Wt) (n:Nat),(qU p n L).length+((LF L p).take n).length=L.length
  | [],n=>by
    have:LF [] p=[] :=rfl;rw [this,List.take_nil];rfl
  |w::l,n=>by
    by_cases c:w.key=p
    · by_cases c2:0<n
      · rw [Bp c c2,nj c]
        obtain ⟨m,rfl⟩:∃m,n=m+1:=⟨n-1,by omega⟩
        have:=vM p l m;rw [Nat.add_sub_cancel,List.take_succ_cons,List.length_cons,List.length_cons];omega
      · rw [show n=0 by omega,r6,List.take_zero];rfl
    · rw [xz (.inl c),oe c]
      have:=vM p l n;rw [List.length_cons,List.length_cons];omega
theorem NX {x:aY} (h:wA x.wt) (p:Int) (n:Nat):(l9 x p n).ho.length+(l9 x p n).wt.length=x.ho.length+x.wt.length:=by
  rw [eQ]
  show (x.ho++_).length+(zZ x.wt (cQ x p n)).length=_
  rw [List.length_append,rf];have:=vM p x.wt n;rw [tZ p _ _ h] at this;have e:(cQ x p n).length=((LF x.wt p).take n).length:=by unfold cQ;rw [List.length_map]
  have e2:cQ x p n=((LF x.wt p).take n).map (·.who):=rfl;rw [←e2,←e] at this;omega
structure jQ (k:Nat) (x:aY):Prop where
  hl:x.ho.length+x.wt.length≤k
  hh:∀p,p<x.ld.l.length→0≤(gP x.ld.l p).h∧(gP x.ld.l p).h≤k
  tu:0≤x.tr.u
theorem jQ.mono {k k':Nat} {x:aY} (h:jQ k x) (hk:k≤k'):jQ k' x:=⟨Nat.le_trans h.hl hk,fun p hp=>by have:=h.hh p hp;omega,h.tu⟩
theorem O8 {x:mV} {s:BitVec 64} {p:Nat} (hp:p<x.l.length):(gP (mC x s).l p).h=(gP x.l p).h:=by
  show (gP (tw x s x.l.length) p).h=_
  rw [lA hp,if_pos hp];rfl
theorem jQ.settle {k:Nat} {x:aY} (h:jQ k x):jQ k (cB x):=
  ⟨h.hl, fun p hp => by have xK : p < x.ld.l.length := by rw [← gS]; exact hp
                        show 0≤(gP (mC x.ld _).l p).h∧_
                        rw [show (cB x).ld=mC x.ld (G1 x) from rfl,O8 xK];exact h.hh p xK,h.tu⟩
theorem jQ.Ki {k:Nat} {x:aY} (h:jQ k x) (hw:wA x.wt) (p:Int) (n:Nat):jQ k (l9 x p n):=by
  have e:=NX hw p n;have e1:(l9 x p n).ld=x.ld:=by rw [eQ]
  have e2:(l9 x p n).tr=x.tr:=by rw [eQ]
  exact⟨by rw [e];exact h.hl,by rw [e1];exact h.hh,by rw [e2];exact h.tu⟩
theorem SA {t:vW} {sl:Int} {s:BitVec 64} {le:Int} (h:0≤t.u):0≤(pj t sl s le).u:=by unfold pj;split;exact h;exact Int.le_refl _
theorem Ol {t:vW} (h:0≤t.u):0≤(iH t).u:=by unfold iH;split;show 0≤t.u+1;omega;exact h
theorem Wk {t:vW} {sl:Int} (h:0≤t.u):0≤(wZ t sl).u:=by
  unfold wZ;split
  · have:=dN (n:=sl) (show (1:Int)≤16 by decide);show 0≤aB sl 1 16;omega
  · exact h
theorem jQ.pass {k:Nat} {x:aY} (h:jQ k x) (hw:wA x.wt):jQ k (jV x):=by
  unfold jV;split
  · exact h
  · exact jQ.Ki (x:=dp x) ⟨h.hl,h.hh,SA h.tu⟩ hw _ _
theorem jQ.take {k:Nat} {x:aY} (h:jQ k x) (t p:Int):jQ (k+1) (cu x t p):=by
  unfold cu;split
  · exact h.mono om
  · obtain ⟨e1,e2,e3,e4,e5,e6⟩:=eK x p
    refine jQ.settle ⟨?_,?_,?_⟩
    · show ((bT x p).ho++ [_]).length+(bT x p).wt.length≤_
      rw [e2,e3,List.length_append,List.length_singleton];have:=h.hl;omega
    · show∀q,q<(bT x p).ld.l.length→0≤(gP (bT x p).ld.l q).h∧(gP (bT x p).ld.l q).h≤((k+1:Nat):Int)
      rw [e4];exact(h.mono (Nat.le_succ k)).hh
    · show 0≤(bT x p).tr.u
      unfold bT;split;exact Int.le_refl _;exact h.tu
theorem jQ.wait {k:Nat} {x:aY} (h:jQ k x) (t p:Int):jQ (k+1) (dv x t p):=by
  unfold dv;split
  · exact h.mono om
  · refine jQ.settle ⟨?_,(h.mono (Nat.le_succ k)).hh,h.tu⟩
    show x.ho.length+(x.wt++ [_]).length≤_
    rw [List.length_append,List.length_singleton];have:=h.hl;omega
theorem jQ.BL {k:Nat} {x:aY} (h:jQ k x) (hw:wA x.wt) (t:Int):jQ k (ej x t):=by
  unfold ej;split
  · have ho:jQ k (fa x t):=⟨by show (x.ho.eraseIdx _).length+_≤k;have:=List.Sublist.length_le (List.eraseIdx_sublist x.ho (ff x.ho t));have:=h.hl;show _+x.wt.length≤k;omega,h.hh,h.tu⟩
    refine jQ.settle ?_
    split
    · exact ho.pass hw
    · exact ho
  · exact h
theorem jQ.lv {k:Nat} {x:aY} (h:jQ k x) (hw:wA x.wt) (t:Int):jQ k (fw x t):=by
  unfold fw;split
  · have hg:jQ k (cV x t):=⟨by show x.ho.length+(CC x.wt t).length≤k;have:(CC x.wt t).length≤x.wt.length:=List.length_filter_le _ _;have:=h.hl;omega,h.hh,h.tu⟩
    refine jQ.settle ?_
    split
    · exact hg.Ki (IJ hw t) _ _
    · exact hg
  · exact h
theorem jQ.die {k:Nat} {x:aY} (h:jQ k x) (hw:wA x.wt) (t:Int):jQ k (rk x t):=by
  unfold rk;split
  · exact h.lv hw t
  · split
    · exact jQ.BL (x:= {x with di:=true}) ⟨h.hl,h.hh,h.tu⟩ hw t
    · exact h
theorem jQ.xQ {k:Nat} {x:aY} (h:jQ k x) (t:Int):jQ (k+1) (iR x t):=by
  unfold iR;split
  · refine jQ.settle ⟨Nat.le_succ_of_le h.hl,fun q hq=>?_,Ol h.tu⟩
    generalize (x.ho.getD (ff x.ho t) default).p.toNat=pp at hq ⊢
    have jK:q<x.ld.l.length:=by
      have:q<(x.ld.l.set pp (KS (gP x.ld.l pp))).length:=hq;rw [List.length_set] at this;exact this
    show 0≤(gP (x.ld.l.set pp (KS (gP x.ld.l pp))) q).h∧(gP (x.ld.l.set pp (KS (gP x.ld.l pp))) q).h≤_
    by_cases hp:pp<x.ld.l.length
    · rw [yK hp]
      split
      · rename_i e;subst e
        have:=h.hh q jK
        show 0≤(gP x.ld.l q).h+1∧(gP x.ld.l q).h+1≤_
        omega
      · have:=h.hh q jK;omega
    · rw [List.set_eq_of_length_le om];have:=h.hh q jK;omega
  · exact h.mono om
theorem jQ.PH {k:Nat} {x:aY} (h:jQ k x) (g wt:Int):jQ k (iz x g wt):=by
  unfold iz;split
  · refine jQ.settle ⟨h.hl,fun q hq=>?_,by show 0≤(if _ then _ else _:vW).u;split;exact Wk h.tu;exact h.tu⟩
    have jK:q<x.ld.l.length:=by
      have:q<(x.ld.l.set g.toNat (EA x.ld (gP x.ld.l g.toNat) wt)).length:=hq;rw [List.length_set] at this;exact this
    show 0≤(gP (x.ld.l.set g.toNat (EA x.ld (gP x.ld.l g.toNat) wt)) q).h∧(gP (x.ld.l.set g.toNat (EA x.ld (gP x.ld.l g.toNat) wt)) q).h≤_
    by_cases hp:g.toNat<x.ld.l.length
    · rw [yK hp]
      split
      · rename_i e;subst e
        have:=h.hh _ jK
        unfold EA;split
        · exact this
        · exact this
      · exact h.hh q jK
    · rw [List.set_eq_of_length_le om];exact h.hh q jK
  · exact h
theorem O2 (d:ME) (gs:List Int):jQ 0 (nJ d gs):=by
  refine ⟨Nat.le_refl _,fun p hp=>?_,Int.le_refl _⟩
  have:∀q∈(kU (rU d gs) (aB d.sl 1 16) d.cr).l,q.h=0:=fun q hq=>by
    unfold kU at hq
    obtain ⟨w,_,rfl⟩:=List.mem_map.1 hq;rfl
  have h2:=this (gP (nJ d gs).ld.l p) (by unfold gP;rw [List.getD_eq_getElem?_getD,List.getElem?_eq_getElem hp];exact List.getElem_mem _);rw [h2];exact⟨Int.le_refl _,Int.le_refl _⟩
abbrev Gr:=List (BitVec 64)
def ot (G:Gr) (i:Nat):BitVec 64:=G.getD i 0#64
inductive lh (G:Gr) (s:BitVec 64):Nat→Prop
  |base {i:Nat} :aN s i=true→lh G s i
  |step {j i:Nat} :lh G s j→aN (ot G j) i=true→lh G s i
theorem lh.lt {G:Gr} {s:BitVec 64} {i:Nat} (h:lh G s i):i<64:=by
  cases h with
  |base h=>have:=gm h;omega
  |step _ h=>have:=gm h;omega
theorem lh.mono {G G':Gr} {s s':BitVec 64} {i:Nat} (h:lh G s i) (hG:∀j k:Nat,aN (ot G j) k=true→aN (ot G' j) k=true) (hs:∀k:Nat,aN s k=true→aN s' k=true):lh G' s' i:=by
  induction h with
  |base h=>exact .base (hs _ h)
  |step _ h ih=>exact .step ih (hG _ _ h)
theorem lh.trans {G:Gr} {s:BitVec 64} {i k:Nat} (h:lh G s i) (hk:lh G (ot G i) k):lh G s k:=by
  induction hk with
  |base h2=>exact .step h h2
  |step _ h2 ih=>exact .step ih h2
theorem lh.sub {G:Gr} {s t:BitVec 64} {k:Nat} (h:lh G t k) (hs:∀i:Nat,aN t i=true→lh G s i):lh G s k:=by
  induction h with
  |base h=>exact hs _ h
  |step _ h ih=>exact .step ih h
/-! how many -/
def xd (s:BitVec 64):Nat:=(Y7 s).length
theorem filter_lt {α:Type} {p q:α→Bool} :∀(l:List α),(∀x∈l,p x=true→q x=true)→(∃x∈l,q x=true∧p x=false)→(l.filter p).length<(l.filter q).length
  | [],_,h=>by obtain ⟨x,hx,_⟩:=h;cases hx
  |a::l,Xg,hex=>by
    have hle:∀l:List α,(∀x∈l,p x=true→q x=true)→(l.filter p).length≤(l.filter q).length:=by
      intro l
      induction l with
      |nil=>intro _;exact Nat.le_refl _
      |cons a l ih=>
        intro h;have h1:=ih (fun x hx=>h x (List.mem_cons_of_mem _ hx));have h2:=h a (List.mem_cons_self ..);simp only [List.filter_cons];cases hp:p a<;>cases hq:q a<;>simp<;>first|omega|(rw [hp,hq] at h2;simp at h2)
    have h0:=hle l (fun x hx=>Xg x (List.mem_cons_of_mem _ hx));have ha:=Xg a (List.mem_cons_self ..);obtain ⟨x,hx,h1,h2⟩:=hex;simp only [List.filter_cons];rcases List.mem_cons.1 hx with rfl|hx
    · rw [h1,h2];simp;omega
    · have ih:=filter_lt l (fun x hx=>Xg x (List.mem_cons_of_mem _ hx)) ⟨x,hx,h1,h2⟩
      cases hp:p a<;>cases hq:q a<;>simp<;>first|omega|(rw [hp,hq] at ha;simp at ha)
theorem E9 {s t:BitVec 64} (h:∀k:Nat,aN s k=true→aN t k=true) {i:Nat} (hi:aN t i=true) (hn:aN s i=false):xd s<xd t:=by
  have hr:=gm hi;exact filter_lt _ (fun k _ hk=>by have:=h k;rw [eH,eH] at this;exact this hk) ⟨i,List.mem_range.2 om,by rw [←eH];exact hi,by rw [←eH];exact hn⟩
theorem zS (s:BitVec 64):xd s≤64:=by unfold xd Y7;refine Nat.le_trans (List.length_filter_le _ _) ?_;simp
theorem G9 {s t:BitVec 64} (h:¬t&&& ~~~s=0#64):∃i:Nat,aN t i=true∧aN s i=false:=by
  apply Classical.byContradiction;intro hn
  apply h;apply Ab.2
  intro i hi ht;cases hs:aN s i
  · exact absurd ⟨i,ht,hs⟩ hn
  · rfl
/-! all that is come to -/
def Clo (G:Gr) (X:BitVec 64):Prop:=∀j i:Nat,aN X j=true→aN (ot G j) i=true→aN X i=true
structure Cl (G:Gr) (s X:BitVec 64):Prop where
  sup:∀i:Nat,aN s i=true→aN X i=true
  sound:∀i:Nat,aN X i=true→lh G s i
  clo:Clo G X
theorem Cl.iff {G:Gr} {s X:BitVec 64} (h:Cl G s X) (i:Nat):aN X i=true↔lh G s i:=by
  refine ⟨h.sound i,fun hr=>?_⟩
  induction hr with
  |base hb=>exact h.sup _ hb
  |step _ hb ih=>exact h.clo _ _ ih hb
theorem Cl.uniq {G:Gr} {s X Y:BitVec 64} (h:Cl G s X) (k:Cl G s Y):X=Y:=rh (fun i _=>by
  rw [Bool.eq_iff_iff,h.iff,k.iff])
def stepG (G:Gr) (s:BitVec 64):BitVec 64:=(List.range 64).foldl (fun a (i:Nat)=>if aN s i=true then a|||ot G i else a) s
theorem wh (G:Gr) (s:BitVec 64):∀(l:List Nat) (a:BitVec 64) (k:Nat),aN (l.foldl (fun a (i:Nat)=>if aN s i=true then a|||ot G i else a) a) k=true↔aN a k=true∨∃i∈l,aN s i=true∧aN (ot G i) k=true
  | [],a,k=>by simp
  |i::l,a,k=>by
    rw [List.foldl_cons,wh G s l]
    by_cases h:aN s i=true
    · rw [if_pos h,eS,Bool.or_eq_true]
      constructor
      · rintro ((h1|h1)|⟨j,hj,h1⟩)
        · exact .inl h1
        · exact .inr ⟨i,List.mem_cons_self ..,h,h1⟩
        · exact .inr ⟨j,List.mem_cons_of_mem _ hj,h1⟩
      · rintro (h1|⟨j,hj,h1⟩)
        · exact .inl (.inl h1)
        · rcases List.mem_cons.1 hj with rfl|hj
          · exact .inl (.inr h1.2)
          · exact .inr ⟨j,hj,h1⟩
    · rw [if_neg h]
      constructor
      · rintro (h1|⟨j,hj,h1⟩)
        · exact .inl h1
        · exact .inr ⟨j,List.mem_cons_of_mem _ hj,h1⟩
      · rintro (h1|⟨j,hj,h1⟩)
        · exact .inl h1
        · rcases List.mem_cons.1 hj with rfl|hj
          · exact absurd h1.1 h
          · exact .inr ⟨j,hj,h1⟩
theorem sd (G:Gr) (s:BitVec 64) (k:Nat):aN (stepG G s) k=true↔aN s k=true∨∃i:Nat,aN s i=true∧aN (ot G i) k=true:=by
  unfold stepG;rw [wh]
  constructor
  · rintro (h|⟨i,_,h⟩)
    · exact .inl h
    · exact .inr ⟨i,h⟩
  · rintro (h|⟨i,h⟩)
    · exact .inl h
    · exact .inr ⟨i,List.mem_range.2 (by have:=gm h.1;omega),h⟩
def ZG (G:Gr):Nat→BitVec 64→BitVec 64
  |0,s=>s
  |n+1,s=>if stepG G s=s then s else ZG G n (stepG G s)
def qk (G:Gr) (s:BitVec 64):BitVec 64:=ZG G 65 s
theorem Ih (G:Gr):∀(n:Nat) (s:BitVec 64),65≤n+xd s→Cl G s (ZG G n s)
  |0,s,h=>by have:=zS s;omega
  |n+1,s,h=>by
    rw [ZG]
    by_cases e:stepG G s=s
    · rw [if_pos e]
      exact⟨fun _ h=>h,fun i h=> .base h,fun j i hj hi=>by rw [←e,sd];exact .inr ⟨j,hj,hi⟩⟩
    · rw [if_neg e]
      have Rl:∀k:Nat,aN s k=true→aN (stepG G s) k=true:=fun k hk=>(sd G s k).2 (.inl hk)
      obtain ⟨i,h1,h2⟩:∃i:Nat,aN (stepG G s) i=true∧aN s i=false:=by
        apply Classical.byContradiction;intro hn;apply e
        apply rh;intro k hk
        cases h1:aN s k
        · cases h2:aN (stepG G s) k
          · rfl
          · exact absurd ⟨k,h2,h1⟩ hn
        · exact Rl k h1
      have hc:=E9 Rl h1 h2;have ih:=Ih G n (stepG G s) om;refine ⟨fun i hi=>ih.sup i (Rl i hi),fun i hi=>(ih.sound i hi).sub (fun k hk=>?_),ih.clo⟩;rcases (sd G s k).1 hk with h|⟨j,hj,hk⟩
      · exact .base h
      · exact .step (.base hj) hk
theorem Lk (G:Gr) (s:BitVec 64):Cl G s (qk G s):=Ih G 65 s om
theorem q9 (G:Gr) (s:BitVec 64) (i:Nat):aN (qk G s) i=true↔lh G s i:=(Lk G s).iff i
theorem SP {G:Gr} {s X:BitVec 64} (h:Cl G s X):X=qk G s:=h.uniq (Lk G s)
/-! one is set anew -/
theorem lL {G:Gr} (h:G.length=64) {w:Nat} (hw:w<64) (s:BitVec 64) (j:Nat):ot (G.set w s) j=if j=w then s else ot G j:=by
  unfold ot
  simp only [List.getD_eq_getElem?_getD,List.getElem?_set]
  by_cases e:w=j
  · subst e;simp [h,hw]
  · rw [if_neg e,if_neg (Ne.symm e)]
theorem yx {G:Gr} (h:G.length=64) {w:Nat} (hw:w<64) {j k:Nat} (hb:aN (ot (G.set w 0#64) j) k=true):j≠w∧aN (ot G j) k=true:=by
  rw [lL h hw] at hb
  by_cases e:j=w
  · rw [if_pos e,cF] at hb;cases hb
  · rw [if_neg e] at hb;exact⟨e,hb⟩
theorem Pm {G:Gr} (h:G.length=64) {w:Nat} (hw:w<64) {s:BitVec 64} {i:Nat} (hr:lh G s i):lh (G.set w 0#64) s i∨lh (G.set w 0#64) s w:=by
  induction hr with
  |base hb=>exact .inl (.base hb)
  | @step j i _ hb ih=>
    rcases ih with ih|ih
    · by_cases e:j=w
      · subst e;exact .inr ih
      · exact .inl (.step ih (by rw [lL h hw,if_neg e];exact hb))
    · exact .inr ih
theorem v7 {G:Gr} (h:G.length=64) {w:Nat} (hw:w<64) {s:BitVec 64} :lh (G.set w 0#64) s w↔lh G s w:=by
  constructor
  · intro hr;exact hr.mono (fun j k hb=>(yx h hw hb).2) (fun _ h=>h)
  · intro hr;rcases Pm h hw hr with h1|h1<;>exact h1
theorem BB {G:Gr} (h:G.length=64) {w:Nat} (hw:w<64) (s:BitVec 64):aN (qk (G.set w 0#64) s) (w:Int)=aN (qk G s) (w:Int):=by
  rw [Bool.eq_iff_iff,q9,q9];exact v7 h hw
def QS (G:Gr):Prop:=∀i:Nat,¬lh G (ot G i) i
theorem EO {G:Gr} (h:G.length=64) {w:Nat} (hw:w<64) {s:BitVec 64} (hG:QS G) (hs:¬lh G s w):QS (G.set w s):=by
  have hlen:(G.set w s).length=64:=by rw [List.length_set];exact h
  have e2:(G.set w s).set w 0#64=G.set w 0#64:=by rw [List.set_set]
  have ha:¬lh (G.set w s) s w:=by
    intro hr;have h1:=(v7 hlen hw).2 hr;rw [e2] at h1;exact hs ((v7 h hw).1 h1)
  have up:∀{t:BitVec 64} {i:Nat},lh (G.set w 0#64) t i→lh (G.set w s) t i:=fun hr=>hr.mono (fun j k hb=>by
    obtain ⟨e,hb⟩:=yx h hw hb;rw [lL h hw,if_neg e];exact hb) (fun _ h=>h)
  have part:∀{t:BitVec 64} {i:Nat},lh (G.set w s) t i→lh (G.set w 0#64) t i∨(lh (G.set w 0#64) t w∧lh (G.set w s) s i):=by
    intro t i hr
    induction hr with
    |base hb=>exact .inl (.base hb)
    | @step j i _ hb ih=>
      rcases ih with ih|⟨ih1,ih2⟩
      · by_cases e:j=w
        · subst e
          rw [lL h hw,if_pos rfl] at hb;exact .inr ⟨ih,.base hb⟩
        · rw [lL h hw,if_neg e] at hb
          exact .inl (.step ih (by rw [lL h hw,if_neg e];exact hb))
      · exact .inr ⟨ih1,.step ih2 hb⟩
  intro i hr
  by_cases e:i=w
  · subst e;rw [lL h hw,if_pos rfl] at hr;exact ha hr
  · rw [lL h hw,if_neg e] at hr
    rcases part hr with h1|⟨h1,h2⟩
    · exact hG i (h1.mono (fun j k hb=>(yx h hw hb).2) (fun _ h=>h))
    · refine ha (h2.trans ?_)
      rw [lL h hw,if_neg e];exact up h1
def po:Gr:=List.replicate 64 0#64
theorem Ge:po.length=64:=by simp [po]
theorem Bj (i:Nat):ot po i=0#64:=by
  unfold ot po;rw [List.getD_eq_getElem?_getD,List.getElem?_replicate];split<;>rfl
theorem Kf:QS po:=by
  intro i h;rw [Bj] at h
  have:∀{s:BitVec 64} {k:Nat},lh po s k→s=0#64→False:=by
    intro s k hr
    induction hr with
    |base hb=>intro e;subst e;rw [cF] at hb;cases hb
    |step _ hb _=>intro _;rw [Bj,cF] at hb;cases hb
  exact this h rfl
/-! what comes to one -/
def Zz (p:Nat→Bool):BitVec 64:=(List.range 64).foldl (fun a (i:Nat)=>if p i=true then da a i else a) 0#64
theorem BC (p:Nat→Bool):∀(l:List Nat) (a:BitVec 64) (k:Nat),k<64→(aN (l.foldl (fun a (i:Nat)=>if p i=true then da a i else a) a) k=true↔aN a k=true∨(k∈l∧p k=true))
  | [],a,k,_=>by simp
  |i::l,a,k,hk=>by
    rw [List.foldl_cons,BC p l _ k hk]
    by_cases h:p i=true
    · rw [if_pos h,dW,Bool.or_eq_true]
      simp only [Bool.and_eq_true,decide_eq_true_eq,List.mem_cons]
      constructor
      · rintro ((h1|⟨h1,_⟩)|⟨h1,h2⟩)
        · exact .inl h1
        · have:k=i:=by omega
          subst this;exact .inr ⟨.inl rfl,h⟩
        · exact .inr ⟨.inr h1,h2⟩
      · rintro (h1|⟨rfl|h1,h2⟩)
        · exact .inl (.inl h1)
        · exact .inl (.inr ⟨rfl,by omega,by omega⟩)
        · exact .inr ⟨h1,h2⟩
    · rw [if_neg h]
      constructor
      · rintro (h1|⟨h1,h2⟩)
        · exact .inl h1
        · exact .inr ⟨List.mem_cons_of_mem _ h1,h2⟩
      · rintro (h1|⟨h1,h2⟩)
        · exact .inl h1
        · rcases List.mem_cons.1 h1 with rfl|h1
          · exact absurd h2 h
          · exact .inr ⟨h1,h2⟩
theorem NB (p:Nat→Bool) {k:Nat} (hk:k<64):aN (Zz p) k=p k:=by
  rw [Bool.eq_iff_iff];unfold Zz;rw [BC p _ _ k hk,cF];simp [hk]
def W8 (G:Gr) (w:Nat):BitVec 64:=Zz (fun i=>aN (qk G (ot G i)) w)
theorem Np (G:Gr) (w i:Nat) (hi:i<64):aN (W8 G w) i=true↔lh G (ot G i) w:=by
  unfold W8;rw [NB _ hi,q9]
/-! chains -/
structure Met (G:Gr) (V:BitVec 64) (w:Int):Prop where
  reach:∀i:Nat,aN V i=true→0≤w→w<64→lh G (ot G i) w.toNat
end Go.Eng
namespace Go.Eng
open Go Go.RowKit
structure OvI (G:Gr) (s met todo:BitVec 64):Prop where
  sup:∀i:Nat,aN s i=true→aN met i=true
  sound:∀i:Nat,aN met i=true→lh G s i
  sub:∀i:Nat,aN todo i=true→aN met i=true
  done:∀j:Nat,aN met j=true→aN todo j=false→∀i:Nat,aN (ot G j) i=true→aN met i=true
theorem uv {s:BitVec 64} {i:Nat} (h:aN s i=true):i<64:=by have:=gm h;omega
def F6 (w:Int):Bool:=decide (0≤w)&&decide (w<64)
def LJ (G:Gr) (w:Int) (s:BitVec 64):Int:=if F6 w=true then (if aN (qk G s) w=true then 9 else 0) else 1
def Co (G:Gr) (w:Int) (s:BitVec 64):Gr:=if LJ G w s=0 then G.set w.toNat s else G
theorem yd {G:Gr} (h:G.length=64) (w:Int) (s:BitVec 64):(Co G w s).length=64:=by unfold Co;split<;>simp [h]
theorem kb {w:Int} :F6 w=true↔0≤w∧w<64:=by simp [F6]
theorem Ie {G:Gr} {w:Int} {s:BitVec 64} (h:LJ G w s=0):(0≤w∧w<64)∧aN (qk G s) w=false:=by
  unfold LJ at h
  by_cases h1:F6 w=true
  · rw [if_pos h1] at h
    by_cases h2:aN (qk G s) w=true
    · rw [if_pos h2] at h;omega
    · exact⟨kb.1 h1,by simpa using h2⟩
  · rw [if_neg h1] at h;omega
theorem Px {G:Gr} (h:G.length=64) (hG:QS G) (w:Int) (s:BitVec 64):QS (Co G w s):=by
  unfold Co
  by_cases e:LJ G w s=0
  · rw [if_pos e]
    obtain ⟨hw,hb⟩:=Ie e;refine EO h om hG (fun hr=>?_);have:=(q9 G s w.toNat).2 hr;rw [show ((w.toNat:Nat):Int)=w by omega,hb] at this;cases this
  · rw [if_neg e];exact hG
def Kn (G:Gr) (w:Int):BitVec 64:=if F6 w=true then qk G (ot G w.toNat) else 0#64
def uE (G:Gr) (w:Int):BitVec 64:=if F6 w=true then W8 G w.toNat else 0#64
structure Ed where
  who:Int
  to:Int
deriving Inhabited,DecidableEq
structure Dd where
  kind:Int
  who:Int
  set:BitVec 64
deriving Inhabited
/-! the document's -/
structure MH (G:Gr) (s X:BitVec 64):Prop where
  sup:∀i:Nat,aN s i=true→aN X i=true
  sound:∀i:Nat,aN X i=true→lh G s i
theorem MH.init (G:Gr) (s:BitVec 64):MH G s s:=⟨fun _ h=>h,fun _ h=> .base h⟩
theorem MH.put {G:Gr} {s X:BitVec 64} {i:Nat} (h:MH G s X) (hb:(aN X (i:Nat)&&decide (ot G i&&& ~~~X≠0#64))=true):MH G s (X|||ot G i)∧xd X<xd (X|||ot G i):=by
  rw [Bool.and_eq_true,decide_eq_true_eq] at hb;refine ⟨⟨fun k hk=>by rw [eS,h.sup k hk];rfl,fun k hk=>?_⟩,?_⟩
  · rw [eS,Bool.or_eq_true] at hk
    rcases hk with hk|hk
    · exact h.sound k hk
    · exact .step (h.sound i hb.1) hk
  · obtain ⟨k,h1,h2⟩:=G9 hb.2
    exact E9 (fun q hq=>by rw [eS,hq];rfl) (by rw [eS,h1];simp) h2
def GH (G:Gr) (X:BitVec 64) (n:Nat):Prop:=∀j:Nat,j<n→aN X j=true→∀i:Nat,aN (ot G j) i=true→aN X i=true
theorem GH.step {G:Gr} {X:BitVec 64} {n:Nat} (h:GH G X n) (hb:(aN X (n:Nat)&&decide (ot G n&&& ~~~X≠0#64))=false):GH G X (n+1):=fun j hj hx i hi=>by
  by_cases e:j=n
  · subst e
    rw [hx,Bool.true_and,decide_eq_false_iff_not,Classical.not_not] at hb;exact Ab.1 hb i (uv hi) hi
  · exact h j om hx i hi
theorem MH.end {G:Gr} {s X:BitVec 64} (h:MH G s X) (hc:GH G X 64):X=qk G s:=SP ⟨h.sup,h.sound,fun j i hj hi=>hc j (uv hj) hj i hi⟩
def QW (G:Gr) (who:Int) (n:Nat):BitVec 64:=(List.range n).foldl (fun a (i:Nat)=>if aN (qk G (ot G i)) who=true then da a (i:Nat) else a) 0#64
theorem qi (G:Gr) (who:Int) (n:Nat):QW G who (n+1)=if aN (qk G (ot G n)) who=true then da (QW G who n) (n:Nat) else QW G who n:=by
  unfold QW;rw [List.range_succ,List.foldl_append];rfl
theorem O4 (G:Gr) (who:Int):QW G who 64=uE G who:=by
  unfold uE
  by_cases h:F6 who=true
  · rw [if_pos h]
    have hw:=kb.1 h;have e:((who.toNat:Nat):Int)=who:=by omega
    unfold QW W8 Zz;rw [e]
  · rw [if_neg h]
    have:∀n,QW G who n=0#64:=by
      intro n
      induction n with
      |zero=>rfl
      |succ n ih=>
        rw [qi,if_neg,ih];intro hb;have:=gm hb;exact h (kb.2 this)
    exact this 64
theorem Mk (G:Gr):qk G 0#64=0#64:=by
  apply rh;intro i hi;rw [cF]
  cases h:aN (qk G 0#64) i
  · rfl
  · exfalso
    have:∀{k:Nat},lh G 0#64 k→False:=by
      intro k hr
      induction hr with
      |base hb=>rw [cF] at hb;cases hb
      |step _ _ ih=>exact ih
    exact this ((q9 G _ i).1 h)
/-! all edges -/
/-! deeds -/
def wt (own:List Int) (i:Nat):Int:=if i<min own.length 64 then min (max (own.getD i 0) 0) 16 else 0
theorem Du (own:List Int) (i:Nat):0≤wt own i∧wt own i≤16:=by unfold wt;split<;>omega
theorem SL {own:List Int} {i:Nat} (h:¬i<min own.length 64):wt own i=0:=by unfold wt;rw [if_neg h]
def jO (own:List Int) (B:BitVec 64):Nat→Int
  |0=>0
  |n+1=>jO own B n+if aN B (n:Nat)=true then wt own n else 0
theorem Bi (own:List Int) (B:BitVec 64):∀n:Nat,0≤jO own B n∧jO own B n≤16*(n:Int)
  |0=>by simp [jO]
  |n+1=>by
    have h:=Bi own B n;have h2:=Du own n;rw [jO];split<;>omega
theorem BT (own:List Int) (B:BitVec 64):∀n:Nat,min own.length 64≤n→jO own B n=jO own B (min own.length 64)
  |0,h=>by rw [show min own.length 64=0 by omega]
  |n+1,h=>by
    by_cases e:min own.length 64=n+1
    · rw [e]
    · rw [jO,BT own B n om,SL (i:=n) om];split<;>omega
def U1 (own:List Int) (G:Gr) (i:Nat):Int:=wt own i+jO own (uE G (i:Nat)) 64
def BQ (own:List Int) (G:Gr) (n:Nat):List Int:=(List.range n).map (U1 own G)
def zk (own:List Int) (G:Gr):List Int:=BQ own G (min own.length 64)
theorem JS (own:List Int) (G:Gr) (n:Nat):(BQ own G n).length=n:=by simp [BQ]
theorem xT (own:List Int) (G:Gr) (n:Nat):BQ own G (n+1)=BQ own G n++ [U1 own G n] :=by unfold BQ;rw [List.range_succ,List.map_append];rfl
theorem Lt {G:Gr} (hG:QS G) {i:Nat} (hi:i<64):aN (uE G (i:Nat)) (i:Nat)=false:=by
  unfold uE;rw [if_pos (kb.2 ⟨by omega,by omega⟩),Int.toNat_natCast]
  cases h:aN (W8 G i) (i:Nat)
  · rfl
  · exact absurd ((Np G i i hi).1 h) (hG i)
structure bC where
  k:Int
  t:List UInt8
  n:Int
  p:Int
deriving DecidableEq
instance:Inhabited bC:=⟨⟨0,[],0,0⟩⟩
def fW (w:bC):List Value:=[.int .i64 w.k,.string (bs w.t),.int .i64 w.n,.int .i64 w.p]
def Nh (n:Int):Bool:=decide (97≤n)&&decide (n≤122)
def Iq (n:Int):Bool:=decide (48≤n)&&decide (n≤57)
def vk (n:Int):Bool:=decide (n=123)||decide (n=125)||decide (n=59)||decide (n=46)||decide (n=61)
def oZ (c:UInt8):Bool:=Nh (c.toNat:Nat)
def iI (c:UInt8):Bool:=Iq (c.toNat:Nat)
def P9 (c:UInt8):Bool:=vk (c.toNat:Nat)
def kP (c:UInt8):Bool:=decide (((c.toNat:Nat):Int)≠10)
def fR (p:UInt8→Bool) (s:List UInt8) (i:Nat):Nat:=((s.drop i).takeWhile p).length
theorem zp (p:UInt8→Bool) (s:List UInt8) (i:Nat):fR p s i≤s.length-i:=by
  unfold fR;have:=(List.takeWhile_sublist (l:=s.drop i) p).length_le;rwa [List.length_drop] at this
theorem rb {s:List UInt8} {i:Nat} (h:i<s.length):s.drop i=s.getD i 0::s.drop (i+1):=by
  have e:=aQ (0:UInt8) h;rw [List.getElem?_eq_getElem h] at e;rw [List.drop_eq_getElem_cons h,Option.some.inj e]
theorem eh {p:UInt8→Bool} {s:List UInt8} {i:Nat} (h:i<s.length) (hp:p (s.getD i 0)=true):fR p s i=fR p s (i+1)+1:=by
  unfold fR;rw [rb h,List.takeWhile_cons,if_pos hp];rfl
theorem kQ {p:UInt8→Bool} {s:List UInt8} {i:Nat} (h:i<s.length) (hp:p (s.getD i 0)=false):fR p s i=0:=by
  unfold fR;rw [rb h,List.takeWhile_cons,if_neg (by rw [hp];simp)];rfl
theorem nF {p:UInt8→Bool} {s:List UInt8} {i:Nat} (h:s.length≤i):fR p s i=0:=by
  have:=zp p s i;omega
def wJ:Nat→List UInt8→Int→Int
  |0,_,n=>n
  |_+1,[],n=>n
  |k+1,c::l,n=>if iI c then wJ k l (n*10+((c.toNat:Nat):Int)-48) else n
theorem Hh {s:List UInt8} {i k:Nat} {n:Int} (h:i<s.length) (hp:iI (s.getD i 0)=true):wJ (k+1) (s.drop i) n=wJ k (s.drop (i+1)) (n*10+(((s.getD i 0).toNat:Nat):Int)-48):=by
  rw [rb h,wJ,if_pos hp]
theorem jc {s:List UInt8} {i k:Nat} {n:Int} (h:s.length≤i∨iI (s.getD i 0)=false):wJ k (s.drop i) n=n:=by
  cases k with
  |zero=>rfl
  |succ k=>
    rcases Nat.lt_or_ge i s.length with hi|hi
    · rcases h with h|h
      · omega
      · rw [rb hi,wJ,if_neg (by rw [h];simp)]
    · rw [List.drop_of_length_le hi];rfl
def fc (s:List UInt8) (i:Nat):bC×Nat×Bool:=
  if oZ (s.getD i 0) then (⟨1,(s.drop i).take (fR oZ s i),0,(i:Nat)⟩,i+fR oZ s i,decide (fR oZ s i≤12))
  else if iI (s.getD i 0) then (⟨2,[],wJ 9 (s.drop i) 0,(i:Nat)⟩,i+fR iI s i,decide (fR iI s i≤9)&&(decide ((((s.getD i 0).toNat:Nat):Int)≠48)||decide (fR iI s i=1)))
  else (⟨3,(s.drop i).take 1,0,(i:Nat)⟩,i+1,P9 (s.getD i 0))
theorem El {s:List UInt8} {i:Nat} (h:i<s.length):i<(fc s i).2.1∧(fc s i).2.1≤s.length:=by
  unfold fc
  split
  · rename_i hl
    have h1:=eh h hl;have h2:=zp oZ s i;simp only;omega
  · split
    · rename_i hl
      have h1:=eh h hl;have h2:=zp iI s i;simp only;omega
    · simp only;omega
def kl (c:UInt8):Bool:=decide (((c.toNat:Nat):Int)=32)||decide (((c.toNat:Nat):Int)=9)||decide (((c.toNat:Nat):Int)=10)
def uW (c:UInt8):Bool:=decide (((c.toNat:Nat):Int)=35)
def y6 (r:bC×Nat×Bool) (i:Nat) (last:Int) (out:List bC):Bool:= !r.2.2||(decide (last=(i:Nat))&&decide (r.1.k≠3)&&decide ((out.getD (out.length-1) default).k≠3))
def j7:Nat→List UInt8→Nat→Int→List bC→List bC×Int×Int
  |0,_,_,_,out=>(out,0,0)
  |f+1,s,i,last,out=>
    if s.length≤i then (out,0,0)
    else if kl (s.getD i 0) then j7 f s (i+1) last out
    else if uW (s.getD i 0) then j7 f s (i+fR kP s i) last out
    else if y6 (fc s i) i last out then ([],(i:Nat),5)
    else j7 f s (fc s i).2.1 ((fc s i).2.1:Nat) (out++ [(fc s i).1])
theorem tV {c:UInt8} (h:uW c=true):kP c=true:=by
  unfold uW at h;unfold kP;simp only [decide_eq_true_eq] at h ⊢;omega
theorem gO (s:List UInt8):∀(f g i:Nat) (last:Int) (out:List bC),s.length-i≤f→s.length-i≤g→j7 f s i last out=j7 g s i last out
  |0,0,_,_,_,_,_=>rfl
  |0,g+1,i,last,out,h1,h2=>by rw [j7,j7,if_pos om]
  |f+1,0,i,last,out,h1,h2=>by rw [j7,j7,if_pos om]
  |f+1,g+1,i,last,out,h1,h2=>by
    simp only [j7]
    split
    · rfl
    rename_i hi
    have bB:i<s.length:=by omega
    split
    · exact gO s f g _ _ _ om om
    split
    · rename_i hh
      have h3:=eh bB (tV hh);exact gO s f g _ _ _ om om
    split
    · rfl
    · have h4:=El bB
      exact gO s f g _ _ _ om om
def gF (s:List UInt8) (i:Nat) (last:Int) (out:List bC):List bC×Int×Int:=j7 (s.length-i) s i last out
theorem GV {s:List UInt8} {i:Nat} {last:Int} {out:List bC} (h:s.length≤i):gF s i last out=(out,0,0):=by
  unfold gF;rw [show s.length-i=0 by omega];rfl
theorem mn {s:List UInt8} {i:Nat} {last:Int} {out:List bC} (h:i<s.length):gF s i last out=
    if kl (s.getD i 0) then gF s (i+1) last out
    else if uW (s.getD i 0) then gF s (i+fR kP s i) last out
    else if y6 (fc s i) i last out then ([],(i:Nat),5)
    else gF s (fc s i).2.1 ((fc s i).2.1:Nat) (out++ [(fc s i).1]):=by
  unfold gF
  obtain ⟨f,hf⟩:∃f,s.length-i=f+1:=⟨s.length-i-1,by omega⟩
  rw [hf,j7,if_neg om]
  split
  · exact gO s _ _ _ _ _ om om
  split
  · rename_i hh
    have h3:=eh h (tV hh);exact gO s _ _ _ _ _ om om
  split
  · rfl
  · have h4:=El h
    exact gO s _ _ _ _ _ om om
theorem At {s:List UInt8} {i:Nat} {last:Int} {out:List bC} (h:i<s.length) (hb:kl (s.getD i 0)=true):gF s i last out=gF s (i+1) last out:=by rw [mn h,if_pos hb]
theorem wu {s:List UInt8} {i j:Nat} {last:Int} {out:List bC} (h:i<s.length) (hb:kl (s.getD i 0)=false) (hh:uW (s.getD i 0)=true) (hj:i+fR kP s i=j):gF s i last out=gF s j last out:=by
  rw [mn h,if_neg (by rw [hb];simp),if_pos hh,hj]
theorem GM {s:List UInt8} {i:Nat} {last:Int} {out:List bC} (h:i<s.length) (hb:kl (s.getD i 0)=false) (hh:uW (s.getD i 0)=false) (hq:y6 (fc s i) i last out=true):gF s i last out=([],(i:Int),5):=by
  rw [mn h,if_neg (by rw [hb];simp),if_neg (by rw [hh];simp),if_pos hq]
theorem Dt {s:List UInt8} {i:Nat} {last:Int} {out:List bC} (h:i<s.length) (hb:kl (s.getD i 0)=false) (hh:uW (s.getD i 0)=false) (hq:y6 (fc s i) i last out=false):gF s i last out=gF s (fc s i).2.1 ((fc s i).2.1:Nat) (out++ [(fc s i).1]):=by
  rw [mn h,if_neg (by rw [hb];simp),if_neg (by rw [hh];simp),if_neg (by rw [hq];simp)]
def dT (s:List UInt8):List bC×Int×Int:=if 8000<s.length then ([],8000,6) else gF s 0 (-1) []
end Go.Eng
