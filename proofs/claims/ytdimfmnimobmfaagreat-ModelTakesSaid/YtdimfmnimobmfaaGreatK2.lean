/- The calculus, eleventh part: results that lie in cells, several or structs; the rest of a slice. No condition. -/
import Derived.Test.YtdimfmnimobmfaaGreatK1
import Derived.ProofKit
import Derived.OpenShut
import Derived.ShutString
import Derived.ChangeOld
import Derived.Below
import Derived.DataElems
import Derived.Lib.Strings
import Derived.Laws.IdiomStrings
import Derived.Lib.OthersKept
import Derived.Lib.FrozenHead
import Derived.Lib.UnsafeStr
import Derived.Lib.AppendStr
import Derived.Lib.AppendIntMem
import Derived.Lib.AppendZeros
import Derived.Lib.SliceRun
import Derived.Test.YtdimfmnimobmfaaGreatRows
set_option linter.unusedVariables false
set_option linter.unusedSimpArgs false
set_option maxRecDepth 100000
set_option maxHeartbeats 4000000
namespace Go.Eng
open Go Go.RowKit
/-! ### Results -/
def uk (P:Program) (e:Env) (M:ab):List ResultVar→List Value→Prop
  | [],vs=>vs=[]
  | .tmp t::l,vs=>∃v us,vs=v::us∧look e t=some v∧uk P e M l us
  | .cell b t::l,vs=>∃v us ad,vs=v::us∧look e b=some (.pointer (some ad))∧(∀w,Mem w M→(loadVar t ad).run P w= .ok v w)∧uk P e M l us
section
variable {P:Program} {fn:Func} {N:Nat} {e:Env} {ds:List Nat} {M M1 M2:ab} {S:Nat→Prop} {w0:World} {G:World→Prop} {R:Value→World→Prop} {vs:List Value} {l:List ResultVar} {us:List Value} {v:Value}
theorem aW:uk P e M [] [] :=rfl
theorem aZ {t:Nat} (h:look e t=some v) (k:uk P e M l us):uk P e M (.tmp t::l) (v::us):=⟨_,_,rfl,h,k⟩
theorem x9 {b off ad:Nat} {t E:TypeId} {cs:Array Value} {fz:Nat×Nat} (hb:look e b=some (.pointer (some ⟨ad,off,none⟩))) [q:qZ M ad (.cells cs E fz) M2] (hT:∀w,(isAgg t).run P w= .ok false w) (hc:cs[off]? =some v) (k:uk P e M l us):
    uk P e M (.cell b t::l) (v::us):=⟨_,_,_,rfl,hb,fun w hm=>uA hT (q.get hm) hc,k⟩
theorem bY {b ad n:Nat} {t E:TypeId} {cs:Array Value} {fz:Nat×Nat} (hb:look e b=some (.pointer (some ⟨ad,0,none⟩))) [q:qZ M ad (.cells cs E fz) M2] (hT:∀w,(isAgg t).run P w= .ok true w) (hS:∀w,(sizeOf t).run P w= .ok n w) (hn:cs.size=n) (k:uk P e M l us):
    uk P e M (.cell b t::l) (.agg cs::us):=⟨_,_,_,rfl,hb,fun w hm=>by
  have:=fN (P:=P) (off:=0) (vs:=cs.toList) hT hS (q.get hm) (by simpa using hn) (fun j v hj=>by rw [Nat.zero_add];simpa using hj);simpa using this,k⟩
theorem s6 {a:Act} (hf:Fr N e a) {w:World} (hm:Mem w M) (f:ResultVar→Sem Value) (hft:∀t v,a.tmps[t]? =some v→(f (.tmp t)).run P w= .ok v w)
    (hfc:∀b t ad,a.tmps[b]? =some (.pointer (some ad))→(f (.cell b t)).run P w=(loadVar t ad).run P w):
    ∀(rs:List ResultVar) (vs:List Value),uk P e M rs vs→(rs.mapM f).run P w= .ok vs w
  | [],vs,h=>by obtain rfl:vs=[] :=h;simp
  | .tmp t::rs,vs,h=>by
    obtain ⟨v,us,rfl,h1,h2⟩:=h;simp only [List.mapM_cons,Sem.run_bind,hft t v (hf.2 _ _ h1),Result.andThen,s6 hf hm f hft hfc rs us h2,Sem.run_pure]
  | .cell b t::rs,vs,h=>by
    obtain ⟨v,us,ad,rfl,h1,h2,h3⟩:=h;simp only [List.mapM_cons,Sem.run_bind,hfc b t ad (hf.2 _ _ h1),h2 w hm,Result.andThen,s6 hf hm f hft hfc rs us h3,Sem.run_pure]
theorem rB {a:Act} (hf:Fr N e a) {w:World} (hm:Mem w M) {rs:List ResultVar} (hr:fn.results=rs.toArray) (h:uk P e M rs vs):(results fn a.tmps).run P w= .ok (ba vs) w:=by
  unfold results
  rw [hr]
  have h1:=s6 (P:=P) hf hm (fun x=>match x with
      |ResultVar.tmp t=>(pure (a.tmps.getD t undef):Sem Value)
      |ResultVar.cell b t=>do loadVar t (←asAddr (a.tmps.getD b undef)))
    (fun t v hl=>by
      show Result.ok (a.tmps.getD t undef) w=_
      rw [Array.getD_eq_getD_getElem?,hl];rfl)
    (fun b t ad hl=>by
      simp [Array.getD_eq_getD_getElem?,hl,asAddr]) rs vs h
  simp only [List.mapM_toArray,Sem.run_bind,Sem.run_map]
  generalize hX:Sem.run P (List.mapM _ rs) w=X
  obtain rfl:Result.ok vs w=X:=by rw [←hX];exact h1.symm
  simp only [Result.andThen];cases vs with
  |nil=>simp [ba]
  |cons v l=>cases l with
    |nil=>simp [ba]
    |cons u l=>simp [ba]
theorem QM.aH {x:Exit} (hx:x= .ret∨x= .normal) (rs:List ResultVar) (hr:fn.results=rs.toArray) (hD:∀D∈ds,w0.heap.size≤D) [k:LZ M ds M1] (h:uk P e M1 rs vs) (hR:∀w,Mem w M1→cM S w0 w→R (ba vs) w):QM N (mI P fn R) x e ds M S w0 G:=
  .mem (fun w hm=>hm.perm k.perm) (fun w hm hc hg=>by
    obtain ⟨h1,h2,h3⟩:=BP ds w M1 hm hc hD;rcases hx with rfl|rfl
    · intro a hf hd
      show LeavesInM _ _ _ _ _ _ _ _ _
      rw [hd];exact gB ds w h1 (rB hf h2 hr h) ⟨_,rfl,hR _ h2 h3⟩
    · intro a hf hd
      show LeavesInM _ _ _ _ _ _ _ _ _
      rw [hd];exact gB ds w h1 (rB hf h2 hr h) ⟨_,rfl,hR _ h2 h3⟩)
end
/-! ### A store among what may be carried out early or late -/
section
variable {P:Program} {r:Option Nat} {N:Nat} {Q:Exit→Act→World→Prop} {e:Env} {ds:List Nat} {M:ab} {S:Nat→Prop} {w0:World} {G:World→Prop}
variable {ops:Array Oper} {l:List (Nat×Nat)} {ty:TypeId} {pos:String} {after:Array Edge} {d i:Nat} {t:TypeId} {x y:Operand}
theorem LD.l6 [GT G] {b n off:Nat} {os:List Obj} (os':List Obj) {Mc:ab} {v:Value} {gd:Option (Nat×Bool)} (hi:ops[i]? =some ⟨none,.store t x y,ty,pos,after,gd⟩) (PE:uR ops e gd true)
    (hS:∀w,(sizeOf t).run P w= .ok n w) (ha:ev e x=some (.pointer (some ⟨b,off,none⟩))) (hv:ev e y=some v) (hn:v.cells.size=n) (h1:v.cells.toList.all one=true)
    (mM:∀o∈os',o∈os) (aat:∀o∈os,∃cs E,o=Obj.cells cs E (0,0)∧off+n≤cs.size∧Obj.cells (kQ cs off v.cells.toList) E (0,0)∈os') (hb:b<w0.heap.size→S b) (xA:∀q∈Mc,q.1≠b)
    (h:LD P r N ops Q l e ds Mc S w0 (fun w=>G w∧Hi b Mc os' w)):LD P r N ops Q ((i,2)::l) e ds Mc S w0 (fun w=>G w∧Hi b Mc os w):=fun a KJ fa=>by
  simp only [x5,hi];intro w ⟨hm,hc,hg,o,hos,Kc⟩;obtain ⟨cs,E,rfl,hle,gI⟩:=aat o hos;have kE:v.cells.toList.length=n:=by simpa using hn
  obtain ⟨w',h2,h3,h4⟩:=eg (P:=P) v.cells.toList w cs off 0 (Kc.get (i:=0) rfl) om (fun u hu=>List.all_eq_true.1 h1 u hu);rw [Nat.add_zero] at h3
  unfold wpOpIn
  rw [hi];simp only;rw [if_pos (PE.wanted (o:=⟨none,.store t x y,ty,pos,after,gd⟩) KJ)];refine wp_skip (a:=a) rfl (w':=w') (by simp [execOp,Instr.storeAt,Instr.sureAddr,KJ.eval ha,KJ.eval hv,storeVar,hS,hn,h2,Result.andThen]) ?_;refine ⟨Ga Mc S w0 (fun w=>G w∧Hi b Mc os' w),fun w hw=>⟨hw.1,hw.2.1,hw.2.2.1,?_⟩,⟨hm.keep h4 xA,hc.step h4 (fun k hk JY=>by subst JY;exact hb hk),GT.xD _ w w' hg h4 (.one h4 (Kc.get (i:=0) rfl) rfl),_,gI,Kc.set (i:=0) rfl h3 h4⟩,h _ (KJ.acS undef) fa⟩;obtain ⟨o',ho',aj⟩:=hw.2.2.2;exact⟨o',mM o' ho',aj⟩
end
/-! ### The rest of a slice -/
def Oo (ad:Option Addr) (l c s:Nat):Option Addr:=if c=l then ad else ad.map (·.add (l*s))
section
variable {P:Program} {ty:TypeId} {e:Env} {t:TypeId} {x lo:Operand}
theorem lu (l:Nat) {k:IntKind} {li:Int} {ad:Option Addr} {n c s:Nat} {E:TypeId} (hU:P.underlying t=some (.slice E)) (hS:∀w,(sizeOf E).run P w= .ok s w) (ha:ev e x=some (.slice ad n c)) (hl:ev e lo=some (.int k li))
    (Nz:li=(l:Nat)) (h:l≤n):fx P (.slice t x (some lo) none none) ty e (.slice (Oo ad l c s) (n-l) (c-l)):=fun w ρ hρ _ _ _ _=>by
  subst Nz;have h2:(l:Int)≤n:=by omega
  simp [execOp,Instr.sliceAt,Instr.slice,Instr.sliceBounds,Instr.sliceBound,asIntOf,run_underlying hU,hρ x _ ha,hρ lo _ hl,hS,h,h2,Oo,Result.andThen]
end
theorem Sr.drop {α:Type} {f:α→List Value} {s:Nat} {xs:List α} {ad:Option Addr} {n cap:Nat} {w:World} (h:Sr f s xs (.slice ad n cap) w) {l:Nat} (hk:l≤n):Sr f s (xs.drop l) (.slice (Oo ad l cap s) (n-l) (cap-l)) w:=by
  obtain ⟨AB,mG,h1,h2,h3⟩:=h;simp only [Value.slice.injEq] at h1;obtain ⟨rfl,rfl,rfl⟩:=h1;have hl:(xs.drop l).length=xs.length-l:=by simp
  refine ⟨_,_,by rw [hl],by omega,fun hx=>?_⟩;obtain ⟨b,off,cs,E,fz,h4,h5,h6⟩:=h3 om;refine ⟨b,off+l*s,cs,E,fz,?_,h5,fun i a ha j hj=>?_⟩
  · subst h4
    unfold Oo;rw [if_neg om]
    simp [Addr.add]
  · rw [List.getElem?_drop] at ha
    have:=h6 (l+i) a ha j hj;rw [←this];congr 1;rw [Nat.add_mul];omega
/-! ### A test whose outcome is asked again -/
section
variable {P:Program} {r:Option Nat} {N:Nat} {Q:Exit→Act→World→Prop} {e:Env} {ds:List Nat} {M:ab} {S:Nat→Prop} {w0:World} {G:World→Prop}
theorem Fr.BI {t:Nat} {b c:Bool} {a:Act} (hf:Fr N e a) (ht:look e t=some (.bool b)) (hc:b=c):Fr N ((t,.bool c)::e) a:=⟨hf.1,fun k u hu=>by
    rw [ep] at hu
    by_cases hk:t=k
    · subst hk;rw [if_pos rfl] at hu;rw [←hu,←hc];exact hf.2 _ _ ht
    · rw [if_neg hk] at hu;exact hf.2 k u hu⟩
theorem af.im {t:Nat} {p:Prop} [Decidable p] {x y:Code} (ht:look e t=some (.bool (decide p))) (h1:p→af P r N x Q ((t,.bool true)::e) ds M S w0 G) (h2:¬p→af P r N y Q ((t,.bool false)::e) ds M S w0 G):
    af P r N (.cond (.tmp t) x y) Q e ds M S w0 G:=
  .ak ht (fun hp w hm hc hg a hf hd=>h1 hp w hm hc hg a (hf.BI ht (decide_eq_true hp)) hd) (fun hp w hm hc hg a hf hd=>h2 hp w hm hc hg a (hf.BI ht (decide_eq_false hp)) hd)
theorem af.sS {t:Nat} {b:Bool} {x y:Code} (ht:look e t=some (.bool b)) (h1:b=true→af P r N x Q ((t,.bool true)::e) ds M S w0 G) (h2:b=false→af P r N y Q ((t,.bool false)::e) ds M S w0 G):
    af P r N (.cond (.tmp t) x y) Q e ds M S w0 G:=
  .aJ ht (fun hp w hm hc hg a hf hd=>h1 hp w hm hc hg a (hf.BI ht hp) hd) (fun hp w hm hc hg a hf hd=>h2 hp w hm hc hg a (hf.BI ht hp) hd)
end
inductive OT where
  |nil:OT
  |one:Nat→Nat→OT→OT
  |fork:Nat→OT→Nat→OT→OT
  |Wy:Nat→OT→Nat→OT→Nat→OT→OT
  |last:Nat→OT
def OT.size:OT→Nat
  | .nil=>0
  | .one _ _ t=>t.size+1
  | .fork _ t _ _=>t.size+1
  | .Wy _ t _ _ _ _=>t.size+1
  | .last _=>1
section
variable {P:Program} {r:Option Nat} {ops:Array Oper}
def uo (P:Program) (r:Option Nat) (ops:Array Oper) (Q:Exit→Act→World→Prop) (D:World→Prop):(World→Prop)→OT→Act→Prop
  |C,.nil,a=>∀w,C w→Q .normal a w
  |C,.last i,a=>∀w,C w→wpOpIn (Wd r) 0 P ops (Qn Q) i (Q .normal) a w
  |C,.fork i t j s,a=>(∀w,C w→wpOpIn (Wd r) 0 P ops (Qn Q) i (fun a' w'=>∃C':World→Prop,(∀w,C' w→D w)∧C' w'∧uo P r ops Q D C' t a') a w)∧
      ∀w,C w→wpOpIn (Wd r) 0 P ops (Qn Q) j (fun a' w'=>∃C':World→Prop,(∀w,C' w→D w)∧C' w'∧uo P r ops Q D C' s a') a w
  |C,.Wy i t j s k u,a=>(∀w,C w→wpOpIn (Wd r) 0 P ops (Qn Q) i (fun a' w'=>∃C':World→Prop,(∀w,C' w→D w)∧C' w'∧uo P r ops Q D C' t a') a w)∧
      (∀w,C w→wpOpIn (Wd r) 0 P ops (Qn Q) j (fun a' w'=>∃C':World→Prop,(∀w,C' w→D w)∧C' w'∧uo P r ops Q D C' s a') a w)∧
      ∀w,C w→wpOpIn (Wd r) 0 P ops (Qn Q) k (fun a' w'=>∃C':World→Prop,(∀w,C' w→D w)∧C' w'∧uo P r ops Q D C' u a') a w
  |C,.one i k l,a=>
    match ops[i]? with
    |none=>False
    |some o=>
      match k with
      |0=>∃v,YA P ops (fun _=>True) o v a∧uo P r ops Q D C l (a.put o.dst v)
      |1=>∃v,YA P ops D o v a∧uo P r ops Q D C l (a.put o.dst v)
      |_=>∀w,C w→wpOpIn (Wd r) 0 P ops (Qn Q) i (fun a' w'=>∃C':World→Prop,(∀w,C' w→D w)∧C' w'∧uo P r ops Q D C' l a') a w
def qR (ops:Array Oper) (z:Nat):OT→Array Bool→Bool
  | .nil,aw=>Region.ready .any ops aw== []
  | .last i,aw=>Region.ready .any ops aw== [i] &&(i==z)&&decide (i<aw.size)&&Region.ready .any ops (aw.setIfInBounds i true)== []
  | .fork i t j s,aw=>Region.ready .any ops aw== [i,j] &&t.size==s.size&&(i != z)&&(j != z)&&qR ops z t (aw.setIfInBounds i true)&&qR ops z s (aw.setIfInBounds j true)
  | .Wy i t j s k u,aw=>Region.ready .any ops aw== [i,j,k] &&t.size==s.size&&t.size==u.size&&(i != z)&&(j != z)&&(k != z)&&qR ops z t (aw.setIfInBounds i true)&&qR ops z s (aw.setIfInBounds j true)&&qR ops z u (aw.setIfInBounds k true)
  | .one i k l,aw=>
    (match k with
      |0=>Region.free .any ops aw i&&(Region.ready .any ops aw).contains i
      |1=>Region.free .any ops aw i&&(Region.ready .any ops aw).contains i&&(decide (ops.size≤z)||qf ops 40 z i)
      |_=>Region.ready .any ops aw== [i])&&(i != z)&&
    qR ops z l (aw.setIfInBounds i true)
def RE (z:Nat):Nat→Bool:=fun q=>q==z
theorem fk {Q:Exit→Act→World→Prop} {D:World→Prop} {z:Nat} (l7:Region.noSelect ops=true) (ee:uJ ops=true):
    ∀(l:OT) (C:World→Prop) (aw:Array Bool) (a:Act) (w:World),qR ops z l aw=true→iW ops aw→aw.getD z false=false→(∀w,C w→D w)→C w→uo P r ops Q D C l a→WS P r ops Q D (RE z) l.size aw a w
  | .nil,C,aw,a,w,hc,_,_,C1,hC,h=>by
    simp only [qR,beq_iff_eq] at hc;exact⟨fun _=>C1 w hC,hc,h w hC⟩
  | .last i,C,aw,a,w,hc,jg,hz,C1,hC,h=>by
    simp only [qR,Bool.and_eq_true,beq_iff_eq,decide_eq_true_eq] at hc;obtain ⟨⟨⟨hr,rfl⟩,bD⟩,hr2⟩:=hc;simp only [uo] at h;refine ⟨fun _=>C1 w hC,fun h0=>(by rw [hr] at h0;cases h0),fun q hq=>?_⟩;rw [hr] at hq;obtain rfl:q=i:=by simpa using hq
    exact wpOpIn_mono (fun a' w' G8=>⟨fun ht=>absurd (ht q (by simp [RE])) (by simp [bD]),hr2,G8⟩) (h w hC)
  | .fork i t j s,C,aw,a,w,hc,jg,hz,C1,hC,h=>by
    simp only [qR,Bool.and_eq_true,beq_iff_eq,bne_iff_ne] at hc;obtain ⟨⟨⟨⟨⟨hr,JM⟩,Lr⟩,hjz⟩,hct⟩,uT⟩:=hc;simp only [uo] at h;refine ⟨fun _=>C1 w hC,fun h0=>(by rw [hr] at h0;cases h0),fun q hq=>?_⟩;have G8:=hq;rw [hr] at G8;simp only [List.mem_cons,List.not_mem_nil,or_false] at G8;rcases G8 with rfl|rfl
    · exact wpOpIn_mono (fun a' w' ⟨C',lE,AG,hl⟩=>fk l7 ee t C' _ a' w' hct (jg.set hq) (cT (Ne.symm Lr) hz) lE AG hl) (h.1 w hC)
    · exact wpOpIn_mono (fun a' w' ⟨C',lE,AG,hl⟩=>by have:=fk l7 ee s C' _ a' w' uT (jg.set hq) (cT (Ne.symm hjz) hz) lE AG hl;rw [←JM] at this;exact this) (h.2 w hC)
  | .Wy i t j s k u,C,aw,a,w,hc,jg,hz,C1,hC,h=>by
    simp only [qR,Bool.and_eq_true,beq_iff_eq,bne_iff_ne] at hc;obtain ⟨⟨⟨⟨⟨⟨⟨⟨hr,JM⟩,afg⟩,Lr⟩,hjz⟩,hkz⟩,hct⟩,uT⟩,rW⟩:=hc;simp only [uo] at h;refine ⟨fun _=>C1 w hC,fun h0=>(by rw [hr] at h0;cases h0),fun q hq=>?_⟩;have G8:=hq;rw [hr] at G8;simp only [List.mem_cons,List.not_mem_nil,or_false] at G8;rcases G8 with rfl|rfl|rfl
    · exact wpOpIn_mono (fun a' w' ⟨C',lE,AG,hl⟩=>fk l7 ee t C' _ a' w' hct (jg.set hq) (cT (Ne.symm Lr) hz) lE AG hl) (h.1 w hC)
    · exact wpOpIn_mono (fun a' w' ⟨C',lE,AG,hl⟩=>by have:=fk l7 ee s C' _ a' w' uT (jg.set hq) (cT (Ne.symm hjz) hz) lE AG hl;rw [←JM] at this;exact this) (h.2.1 w hC)
    · exact wpOpIn_mono (fun a' w' ⟨C',lE,AG,hl⟩=>by have:=fk l7 ee u C' _ a' w' rW (jg.set hq) (cT (Ne.symm hkz) hz) lE AG hl;rw [←afg] at this;exact this) (h.2.2 w hC)
  | .one i k l,C,aw,a,w,hc,jg,hz,C1,hC,h=>by
    simp only [uo] at h;cases ho:ops[i]? with
    |none=>rw [ho] at h;exact h.elim
    |some o=>
      rw [ho] at h;simp only at h;have JA:∀(j:Nat) (o:Oper),ops[j]? =some o→nd o.op=true:=fun j o hj=>(Array.all_eq_true_iff_forall_mem.1 ee) o (Array.mem_of_getElem? hj);have OO:∀q,RE z q=true→aw.getD q false=false:=fun q hq=>by unfold RE at hq;rw [beq_iff_eq] at hq;subst hq;exact hz
      have IC:i≠z→RE z i=false:=fun h=>beq_eq_false_iff_ne.2 h
      match k,h,hc with
      |0,⟨v,hy,hl⟩,hc=>
        simp only [qR,Bool.and_eq_true,bne_iff_ne] at hc;obtain ⟨⟨⟨hf,hr⟩,Lr⟩,hc⟩:=hc
        exact WS.first (tl:=RE z) ho (IC Lr) (Region.noSelect_spec l7) JA (D:=fun _=>True) (.inl fun _=>trivial) l.size aw a w jg (C1 w hC) OO (Region.free_spec ho hf) (by simpa using hr) hy
          (fk l7 ee l C _ _ w hc (jg.set (by simpa using hr)) (cT (Ne.symm Lr) hz) C1 hC hl)
      |1,⟨v,hy,hl⟩,hc=>
        simp only [qR,Bool.and_eq_true,bne_iff_ne,Bool.or_eq_true,decide_eq_true_eq] at hc;obtain ⟨⟨⟨⟨hf,hr⟩,Ta⟩,Lr⟩,hc⟩:=hc
        exact WS.first (tl:=RE z) ho (IC Lr) (Region.noSelect_spec l7) JA (D:=D) (.inr ⟨fun _ h=>h,fun j oj hj htj=>by
            unfold RE at htj;rw [beq_iff_eq] at htj;subst htj
            rcases Ta with hd|hd
            · have:=(Array.getElem?_eq_some_iff.1 hj).1;omega
            · exact .inr hd⟩) l.size aw a w jg (C1 w hC) OO (Region.free_spec ho hf) (by simpa using hr) hy
          (fk l7 ee l C _ _ w hc (jg.set (by simpa using hr)) (cT (Ne.symm Lr) hz) C1 hC hl)
      |k+2,h,hc=>
        simp only [qR,Bool.and_eq_true,beq_iff_eq,bne_iff_ne] at hc;obtain ⟨⟨hr,Lr⟩,hc⟩:=hc;refine ⟨fun _=>C1 w hC,fun h0=>(by rw [hr] at h0;cases h0),fun j hj=>?_⟩;rw [hr] at hj;obtain rfl:j=i:=by simpa using hj
        exact wpOpIn_mono (fun a' w' ⟨C',lE,AG,hl⟩=>fk l7 ee l C' _ a' w' hc (jg.set (by rw [hr];simp)) (cT (Ne.symm Lr) hz) lE AG hl) (h w hC)
end
def OT.z (n:Nat):OT→Nat
  | .nil=>n
  | .one _ _ t=>t.z n
  | .fork _ t _ _=>t.z n
  | .Wy _ t _ _ _ _=>t.z n
  | .last i=>i
def FF (ops:Array Oper) (ord:OT):Bool:=
  Region.noSelect ops&&uJ ops&&(ord.size==ops.size)&&qR ops (ord.z ops.size) ord (Array.replicate ops.size false)
section
variable {P:Program} {r:Option Nat} {N:Nat} {Q:Exit→Act→World→Prop} {e:Env} {ds:List Nat} {M:ab} {S:Nat→Prop} {w0:World} {G:World→Prop}
def KD (P:Program) (r:Option Nat) (N:Nat) (ops:Array Oper) (Q:Exit→Act→World→Prop) (MD:ab) (GD:World→Prop) (ord:OT) (e:Env) (ds:List Nat) (M:ab) (S:Nat→Prop) (w0:World) (G:World→Prop):Prop:=
  ∀a,Fr N e a→Dm ds a→uo P r ops Q (Ga MD S w0 GD) (Ga M S w0 G) ord a
theorem af.keep [GS G] {id:Nat} {ops:Array Oper} (MD:ab) (GD:World→Prop) (ord:OT) (hm:P.follows .mixedOrders=true) (hc:FF ops ord=true) (hM:aV M MD) (hG:∀w,G w→GD w) (h:KD P r N ops Q MD GD ord e ds M S w0 G):af P r N (.region id ops true) Q e ds M S w0 G:=fun w hw iX hg a hf hd=>by
  simp only [FF,Bool.and_eq_true,beq_iff_eq] at hc;obtain ⟨⟨⟨h1,h2⟩,h3⟩,h6⟩:=hc;refine wpIn_mono (wpIn_region_any (Q:=Qn Q) hm ?_) (fun x a w hq=>?_)
  · rw [←h3]
    exact WS.any _ _ a _ (fk h1 h2 ord _ _ a _ (h3▸h6) (fun q o hq _=>by rw [Array.getD_eq_getD_getElem?,Array.getElem?_replicate] at hq;split at hq<;>cases hq) (by rw [Array.getD_eq_getD_getElem?,Array.getElem?_replicate];split<;>rfl) (fun w hw=>⟨hM.mem w hw.1,hw.2.1,hG w hw.2.2⟩)
      ⟨hw.ext (cM.drew no w),iX.trans (cM.drew S w),GS.ext w _ hg (cM.drew no w)⟩ (h a hf hd))
  · cases x<;>first|exact hq|exact hq.elim
variable {ops:Array Oper} {l:OT} {op:Op} {ty:TypeId} {pos:String} {after:Array Edge} {d:Nat} {v:Value} {i:Nat} {MD:ab} {GD:World→Prop}
theorem KD.nil (h:QM N Q .normal e ds M S w0 G):KD P r N ops Q MD GD .nil e ds M S w0 G:=fun a hf hd w hw=>h w hw.1 hw.2.1 hw.2.2 a hf hd
theorem KD.val {g:Option (Nat×Bool)} (hi:ops[i]? =some ⟨some d,op,ty,pos,after,g⟩) (hg:uR ops e g true) (hv:fx P op ty e v) (h:KD P r N ops Q MD GD l ((d,v)::e) ds M S w0 G) (ee:nd op=true:=by rfl) (hd:Nat.blt d N=true:=by rfl):
    KD P r N ops Q MD GD (.one i 0 l) e ds M S w0 G:=fun a hf fa=>by
  simp only [uo,hi];exact⟨v,.inl ⟨hg.wanted hf,ee,fun w _=>hv w a.eval (fun x u hx=>hf.eval hx) _ _ _ _⟩,h _ (hf.put hd v) fa⟩
theorem KD.rd {g:Option (Nat×Bool)} (hi:ops[i]? =some ⟨some d,op,ty,pos,after,g⟩) (hg:uR ops e g true) (hv:∀w,Mem w MD→tW P op ty e w v w) (h:KD P r N ops Q MD GD l ((d,v)::e) ds M S w0 G) (ee:nd op=true:=by rfl) (hd:Nat.blt d N=true:=by rfl):
    KD P r N ops Q MD GD (.one i 1 l) e ds M S w0 G:=fun a hf fa=>by
  simp only [uo,hi];exact⟨v,.inl ⟨hg.wanted hf,ee,fun w hw=>hv w hw.1 a.eval (fun x u hx=>hf.eval hx) _ _ _ _⟩,h _ (hf.put hd v) fa⟩
theorem KD.eh {g:Option (Nat×Bool)} (hi:ops[i]? =some ⟨some d,op,ty,pos,after,g⟩) (hg:uR ops e g true) (hv:∀w,Mem w MD→cM S w0 w→GD w→tW P op ty e w v w) (h:KD P r N ops Q MD GD l ((d,v)::e) ds M S w0 G) (ee:nd op=true:=by rfl) (hd:Nat.blt d N=true:=by rfl):
    KD P r N ops Q MD GD (.one i 1 l) e ds M S w0 G:=fun a hf fa=>by
  simp only [uo,hi];exact⟨v,.inl ⟨hg.wanted hf,ee,fun w hw=>hv w hw.1 hw.2.1 hw.2.2 a.eval (fun x u hx=>hf.eval hx) _ _ _ _⟩,h _ (hf.put hd v) fa⟩
theorem KD.dp {g:Option (Nat×Bool)} {k:Nat} (hk:Nat.blt k 2=true) (hi:ops[i]? =some ⟨some d,op,ty,pos,after,g⟩) (hg:uR ops e g false) (h:KD P r N ops Q MD GD l ((d,undef)::e) ds M S w0 G) (hd:Nat.blt d N=true:=by rfl):
    KD P r N ops Q MD GD (.one i k l) e ds M S w0 G:=fun a hf fa=>by
  have hY:∀D,YA P ops D ⟨some d,op,ty,pos,after,g⟩ undef a:=fun D=> .inr ⟨hg.wanted (o:=⟨some d,op,ty,pos,after,g⟩) hf,rfl⟩
  match k,hk with
  |0,_=>simp only [uo,hi];exact⟨undef,hY _,h _ (hf.put hd undef) fa⟩
  |1,_=>simp only [uo,hi];exact⟨undef,hY _,h _ (hf.put hd undef) fa⟩
theorem KD.drop {g:Option (Nat×Bool)} {k:Nat} (hk:Nat.blt k 2=true) (hi:ops[i]? =some ⟨some d,op,ty,pos,after,g⟩) (hg:uR ops e g false) (h:KD P r N ops Q MD GD l e ds M S w0 G) (hd:Nat.blt d N=true:=by rfl) (vy:look e d=none:=by rfl):
    KD P r N ops Q MD GD (.one i k l) e ds M S w0 G:= .dp hk hi hg (fun a hf fa=>h a ⟨hf.1,fun t u hu=>hf.2 t u (by
      rw [ep]
      by_cases IF:d=t
      · subst IF;rw [vy] at hu;cases hu
      · rw [if_neg IF];exact hu)⟩ fa) hd
theorem KD.aq {t:Nat} {p:Prop} [Decidable p] (ht:look e t=some (.bool (decide p))) (h1:p→KD P r N ops Q MD GD l ((t,.bool true)::e) ds M S w0 G) (h2:¬p→KD P r N ops Q MD GD l ((t,.bool false)::e) ds M S w0 G):
    KD P r N ops Q MD GD l e ds M S w0 G:=fun a hf fa=>by
  by_cases hp:p
  · exact h1 hp a (hf.BI ht (decide_eq_true hp)) fa
  · exact h2 hp a (hf.BI ht (decide_eq_false hp)) fa
theorem DF {F:Fence} {n:Nat} {o:Oper} {a:Act} {w:World} {K K':Act→World→Prop} {Q Q':Exit→Act→World→Prop} (h:∀a w,K a w→K' a w) (hQ:∀c a w,Q (.panic c) a w→Q' (.panic c) a w) (hL:LetsOut Q→LetsOut Q')
    (hh:o.wpIn F n P a w K Q):o.wpIn F n P a w K' Q':=by
  unfold Oper.wpIn at*
  refine ⟨hh.1,?_⟩;have hh:=hh.2
  generalize (o.semAt F.round a.eval).run P w=r at*
  cases r with
  |ok x w'=>
    cases x<;>simp only [Oper.uponIn] at hh ⊢ <;>
      first
        |exact h _ _ hh
        |exact⟨hh.1,CallsIn.mono hh.2 (fun e w'' he=>by cases e<;>first|exact h _ _ he|exact hQ _ _ _ he|exact hL he)⟩
        |exact⟨hh.1,RowsIn.mono hh.2 (fun _ _ he=>h _ _ he)⟩
        |exact⟨hh.1,RoundIn.mono hh.2 (fun e w'' he=>by cases e<;>first|exact h _ _ he|exact hQ _ _ _ he|exact hL he)⟩
  |halt x w'=>cases x<;>simp only [Oper.uponIn] at hh ⊢ <;>first|exact hQ _ _ _ hh|exact hh
def KQ (P:Program) (r:Option Nat) (N:Nat) (ops:Array Oper) (Q:Exit→Act→World→Prop) (D:World→Prop) (l:OT):Exit→Act→World→Prop:=fun x a w=>x= .normal∧∃C':World→Prop,(∀w,C' w→D w)∧C' w∧uo P r ops Q D C' l a
theorem KD.one {o:Oper} {k:Nat} (ho:ops[i]? =some o) (h:LM P r N ops (KQ P r N ops Q (Ga MD S w0 GD) l) [o] e ds M S w0 G):KD P r N ops Q MD GD (.one i (k+2) l) e ds M S w0 G:=fun a hf fa=>by
  simp only [uo,ho];intro w hw;have h3:=h w hw.1 hw.2.1 hw.2.2 a hf fa
  unfold wpOpIn
  rw [ho]
  unfold wpListIn at h3
  simp only
  split
  · rename_i hq;rw [if_pos hq] at h3
    exact DF (fun a w h=>h.2) (fun c a w h=>by cases h.1) (fun ⟨a,w,h⟩=>by cases h.1) h3
  · rename_i hq;rw [if_neg hq] at h3
    exact⟨fun _ _=>trivial,h3.2.2⟩
theorem KD.last {o:Oper} (ho:ops[i]? =some o) (h:LM P r N ops (Qn Q) [o] e ds M S w0 G):KD P r N ops Q MD GD (.last i) e ds M S w0 G:=fun a hf fa=>by
  simp only [uo];intro w hw;have h3:=h w hw.1 hw.2.1 hw.2.2 a hf fa
  unfold wpOpIn
  rw [ho]
  unfold wpListIn at h3
  simp only
  split
  · rename_i hq;rw [if_pos hq] at h3;exact Oper.wpIn_mono (fun a w h=>h) h3
  · rename_i hq;rw [if_neg hq] at h3;exact h3
theorem KD.fork {o o2:Oper} {j:Nat} {s:OT} (ho:ops[i]? =some o) (ho2:ops[j]? =some o2) (h:LM P r N ops (KQ P r N ops Q (Ga MD S w0 GD) l) [o] e ds M S w0 G) (h2:LM P r N ops (KQ P r N ops Q (Ga MD S w0 GD) s) [o2] e ds M S w0 G):KD P r N ops Q MD GD (.fork i l j s) e ds M S w0 G:=fun a hf fa=>by
  have k1:=KD.one (k:=0) ho h a hf fa;have k2:=KD.one (k:=0) ho2 h2 a hf fa;simp only [uo,ho] at k1;simp only [uo,ho2] at k2;simp only [uo];exact⟨k1,k2⟩
theorem QM.one (hM:aV M MD) (hG:∀w,G w→GD w) (h:KD P r N ops Q MD GD l e ds M S w0 G):QM N (KQ P r N ops Q (Ga MD S w0 GD) l) .normal e ds M S w0 G:=fun w hm hc hg a hf hd=>
  ⟨rfl,Ga M S w0 G,fun w hw=>⟨hM.mem w hw.1,hw.2.1,hG w hw.2.2⟩,⟨hm,hc,hg⟩,h a hf hd⟩
end
section
variable {P:Program} {e:Env} {x:Operand} {t ty:TypeId} {M:ab}
end
section
variable {P:Program} {r:Option Nat} {N:Nat} {Q:Exit→Act→World→Prop} {e:Env} {ds:List Nat} {M:ab} {S:Nat→Prop} {w0:World}
variable {ops:Array Oper} {rest:List Oper} {op:Op} {ty:TypeId} {pos:String} {after:Array Edge} {d:Nat}
end
section
variable {P:Program} {r:Option Nat} {N:Nat} {Q:Exit→Act→World→Prop} {e:Env} {ds:List Nat} {M:ab} {S:Nat→Prop} {w0:World} {G:World→Prop}
variable {ops:Array Oper} {l:List Oper} {ty:TypeId} {pos:String} {after:Array Edge} {d:Nat} {t tk:TypeId} {x y z:Operand}
end
theorem mJ:∀(M:List ab) (i:Nat),i<M.length→M.flatten.Perm (M.getD i [] ++(M.eraseIdx i).flatten)
  | [],i,h=>by cases h
  |m::M,0,h=>by simp
  |m::M,i+1,h=>by
    have ih:=mJ M i (Nat.lt_of_succ_lt_succ h);simp only [List.flatten_cons,List.getD_cons_succ,List.eraseIdx_cons_succ];refine (ih.append_left m).trans ?_;rw [←List.append_assoc,←List.append_assoc];exact List.perm_append_comm.append_right _
theorem Kx {M:List ab} {i:Nat} (h:i<M.length) (m':ab):(M.set i m').flatten.Perm (m'++(M.eraseIdx i).flatten):=by
  have h1:=mJ (M.set i m') i (by rw [List.length_set];exact h);rw [List.getD_eq_getElem?_getD,List.getElem?_set,if_pos rfl,if_pos h,Option.getD_some] at h1
  have h2:(M.set i m').eraseIdx i=M.eraseIdx i:=by
    apply List.ext_getElem?
    intro j;rw [List.getElem?_eraseIdx,List.getElem?_eraseIdx]
    split
    · rw [List.getElem?_set_ne om]
    · rw [List.getElem?_set_ne om]
  rw [h2] at h1;exact h1
theorem U9 {M:List ab} {i:Nat} (h:i<M.length) {p:Nat×Obj} (hp:p∈M.getD i []):p∈M.flatten:=
  (mJ M i h).mem_iff.2 (List.mem_append_left _ hp)
theorem E3 {M:List ab} {i:Nat} (h:i<M.length) {w:World} (hm:Mem w M.flatten):Mem w (M.getD i []):=
  (hm.perm (mJ M i h)).sub (List.sublist_append_left ..)
theorem Mem.part {mp rest m:ab} {w:World} (hp:m.Perm (mp++rest)) (hm:Mem w m):Mem w mp:=(hm.perm hp).sub (List.sublist_append_left ..)
end Go.Eng
namespace Go.Eng
open Go Go.RowKit Go.ChangeShapes Go.WideShapes
section
variable {H:Type} {enc:TypeId×Value→H} {P:Program} {w:World} {base:Nat} {sp:Nat→Bool} {held:Bool} {t:TypeId} {fuel:Nat} {cs:List Value} {x:DataW H×List MemPlace}
theorem mapM_each {α β:Type} (f:α→Option β):∀(l:List α) (ys:List β),l.mapM f=some ys→∀a∈l,∃y,f a=some y
  | [],_,_,a,h=>by cases h
  |b::l,ys,h,a,ha=>by
    rw [List.mapM_cons] at h;simp only [bind,Option.bind_eq_some_iff,pure,Option.some.injEq] at h;obtain ⟨y,hy,zs,hz,_⟩:=h;rcases List.mem_cons.1 ha with rfl|ha
    · exact⟨y,hy⟩
    · exact mapM_each f l zs hz a ha
theorem tB {fs:Array Field} (ht:P.underlying t=some (.struct fs)) (h:DataW.trod enc P w base sp held fuel t cs=some x):
    cs.length=P.cellsOf t∧∀f∈fs.toList,∃n y,DataW.trod enc P w base sp held n f.type ((cs.drop f.offset).take (P.cellsOf f.type))=some y:=by
  cases fuel with
  |zero=>simp [DataW.trod] at h
  |succ n=>
    rw [DataW.trod_step] at h
    unfold DataW.trodStep at h
    simp only [ht] at h
    split at h
    · rename_i hl
      simp only [Option.map_eq_some_iff] at h;obtain ⟨ys,hy,_⟩:=h;exact⟨hl,fun f hf=>⟨n,mapM_each _ _ _ hy f hf⟩⟩
    · cases h
def Rdb (P:Program) (t:TypeId) {α:Type} (f:α→List Value) (ok:α→Prop):Prop:=
  ∀{H:Type} {enc:TypeId×Value→H} {w:World} {base:Nat} {sp:Nat→Bool} {held:Bool} {fuel:Nat} {cs:List Value} {x:DataW H×List MemPlace},DataW.trod enc P w base sp held fuel t cs=some x→∃a,cs=f a∧ok a
def fU (x:BitVec 64):List Value:=[U x]
theorem Au (n:BitVec 64):(fU n).length=1:=rfl
theorem PU {α:Type} {f:α→List Value} {ok:α→Prop} {e:TypeId} {s:Nat} (ht:P.underlying t=some (.slice e)) (he:Rdb P e f ok) (hs:P.cellsOf e=s) (qD:0<s) (hf:∀a,(f a).length=s)
    {ad:Option Addr} {len cap:Nat} {d:DataW H} {ps:List MemPlace} (h:DataW.Trod enc P w base sp held t (.slice ad len cap) d ps):
    ∃xs:List α,len=xs.length∧Sr f s xs (.slice ad xs.length cap) w∧(∀a∈xs,ok a)∧xs.length≤maxLen:=by
  obtain ⟨fuel,h⟩:=h;rcases DataW.trod_slice ht h with ⟨h0,_⟩|⟨a,l,c,elems,rest,n,_,h0,_,_,Qg,NF,hel,hE,_,_⟩
  · simp [Value.cells] at h0
    obtain ⟨rfl,rfl,rfl⟩:=h0;exact⟨[],rfl,.nil _ _ _,(fun a ha=>absurd ha (by simp)),Nat.zero_le _⟩
  · simp [Value.cells] at h0
    obtain ⟨rfl,rfl,rfl⟩:=h0
    have each:∀i,i<len→∃b,ok b∧∀j,j<s→w.cell? (a.add (i*s+j))=(f b)[j]? :=fun i hi=>by
      have h1:=hE i hi;rw [hs] at h1;obtain ⟨y,hy⟩:∃y,elems[i]? =some y:=⟨_,List.getElem?_eq_getElem om⟩
      rw [hy,Option.bind_eq_some_iff] at h1;obtain ⟨cs,uT,Ql⟩:=h1;obtain ⟨b,rfl,hb⟩:=he Ql;refine ⟨b,hb,fun j hj=>?_⟩;have:=(World.cells?_some uT).2.2 j hj;rw [←this,Addr.add_add]
    obtain ⟨xs,hxl,hx⟩:∃xs:List α,xs.length=len∧∀i b,xs[i]? =some b→ok b∧∀j,j<s→w.cell? (a.add (i*s+j))=(f b)[j]? :=by
      clear hE hel
      have:∀m,m≤len→∃xs:List α,xs.length=m∧∀i b,xs[i]? =some b→ok b∧∀j,j<s→w.cell? (a.add (i*s+j))=(f b)[j]? :=by
        intro m
        induction m with
        |zero=>intro _;exact⟨[],rfl,fun i b h=>by simp at h⟩
        |succ m ih=>
          intro hm;obtain ⟨xs,h1,h2⟩:=ih om;obtain ⟨b,hb⟩:=each m om;refine ⟨xs++ [b],by simp [h1],fun i c hc=>?_⟩
          by_cases hi:i<m
          · rw [List.getElem?_append_left om] at hc;exact h2 i c hc
          · have bD:=(List.getElem?_eq_some_iff.1 hc).1
            simp [h1] at bD;have:i=m:=by omega
            subst this;rw [List.getElem?_append_right om,h1,Nat.sub_self] at hc;simp at hc;subst hc;exact hb
      exact this len (Nat.le_refl _)
    subst hxl;refine ⟨xs,rfl,⟨_,_,rfl,Qg,fun h0=>?_⟩,fun b hb=>?_,by omega⟩
    · obtain ⟨b0,dw⟩:∃b,xs[0]? =some b:=⟨_,List.getElem?_eq_getElem h0⟩
      have h1:=(hx 0 b0 dw).2 0 qD;have hfb:(f b0)[0]? =some ((f b0)[0]'(by rw [hf];exact qD)):=List.getElem?_eq_getElem _;rw [hfb] at h1;have Jm:=World.cell?_spot h1;obtain ⟨b,off,spot⟩:=a;have:spot=none:=by simpa [Addr.add] using Jm
      subst this;have h2:=h1;rw [jl] at h2
      unfold World.cell? at h2
      simp only at h2
      split at h2
      · rename_i c E fz hb
        refine ⟨b,off,c,E,fz,rfl,hb,fun i a ha j hj=>?_⟩;have h3:=(hx i a ha).2 j hj;rw [jl] at h3
        unfold World.cell? at h3
        simp only [hb] at h3;rw [←h3];rfl
      · cases h2
    · obtain ⟨i,hi⟩:=List.getElem?_of_mem hb
      exact(hx i b hi).1
end
end Go.Eng
namespace Go.Eng
open Go Go.RowKit
abbrev de (m:ab) (k:Nat) (x:ab):Prop:=∀p∈x,k≤p.1∨∃q∈m,q.1=p.1
theorem ay (m:ab) (k:Nat):de m k m:=fun p hp=> .inr ⟨p,hp,rfl⟩
theorem ar {m x y:ab} {k:Nat} (h:de m k x) (h2:de x k y):de m k y:=fun p hp=>by
  rcases h2 p hp with q|⟨q,hq,e⟩
  · exact .inl q
  · rw [←e];exact h q hq
theorem aaM {m x y:ab} {k:Nat} (h:de x k y) (hs:∀p∈x,eO m p.1):∀p∈y,p.1<k→eO m p.1:=fun p hp bD=>by
  rcases h p hp with q|⟨q,hq,e⟩
  · omega
  · rw [←e];exact hs q hq
theorem bK {b:Nat} {o:Obj} {m:ab} :eO ((b,o)::m) b:=⟨_,List.mem_cons_self ..,rfl⟩
theorem aY {m m' M:ab} {T:Value→ab→Prop} {u:Value} {w w':World} (hT:T u m') (hm:Mem w' M) (hs:aV M (m'++ [])) (hc:cM (eO m) w w') (gI:de m w.heap.size m'):ec m T w u w':=by
  rw [List.append_nil] at hs;exact⟨hc,m',hT,hs.mem w' hm,gI⟩
theorem jN {m x:ab} {k:Nat} (h:∀p∈x,∃q∈m,q.1=p.1):de m k x:=fun p hp=> .inr (h p hp)
theorem fE {m:ab} {k b:Nat} {o:Obj} {x:ab} (h:eO m b) (h2:de m k x):de m k ((b,o)::x):=fun p hp=>by
  rcases List.mem_cons.1 hp with rfl|hp
  · exact .inr h
  · exact h2 p hp
theorem bW {m x y:ab} {k:Nat} (h:de m k x) (h2:de m k y):de m k (x++y):=fun p hp=>by
  rcases List.mem_append.1 hp with hp|hp
  · exact h p hp
  · exact h2 p hp
theorem DI {m x:ab} {k:Nat} (h:∀p∈x,p∈m):de m k x:=fun p hp=> .inr ⟨p,h p hp,rfl⟩
theorem dc {m x y:ab} {k:Nat} (h:de x k y) (h2:∀p∈x,p∈m):de m k y:=fun p hp=>by
  rcases h p hp with q|⟨q,hq,e⟩
  · exact .inl q
  · exact .inr ⟨q,h2 q hq,e⟩
theorem ec.imp {m:ab} {T T':Value→ab→Prop} {w w':World} {u:Value} (h:ec m T w u w') (k:∀u m',T u m'→T' u m'):ec m T' w u w':=by
  obtain ⟨h1,m',h2,h3,h4⟩:=h;exact⟨h1,m',k _ _ h2,h3,h4⟩
theorem ET {a a':Nat×Obj} {R:ab} :∀q∈a::R,a'.1=a.1→eO (a'::R) q.1:=fun q hq h=>by
  rcases List.mem_cons.1 hq with rfl|hq
  · exact⟨a',List.mem_cons_self ..,h⟩
  · exact⟨q,List.mem_cons_of_mem _ hq,rfl⟩
theorem JT {a a':Nat×Obj} {R y:ab} {k:Nat} (gI:de (a::R) k y) (h:a'.1=a.1):de (a'::R) k y:=fun q hq=>by
  rcases gI q hq with e|⟨z,hz,e⟩
  · exact .inl e
  · rw [←e];exact .inr (ET z hz h)
theorem au {m y:ab} {k:Nat} (gI:de m k y):∀q∈y,q.1<k→eO m q.1:=fun q hq bD=>by
  rcases gI q hq with e|e
  · omega
  · exact e
theorem Gz {m:ab} {a a':Nat×Obj} {R:ab} {k:Nat} (gI:de m k (a::R)) (h:a'.1=a.1):de m k (a'::R):=fun p hp=>by
  rcases List.mem_cons.1 hp with rfl|hp
  · rw [h];exact gI a (List.mem_cons_self ..)
  · exact gI p (List.mem_cons_of_mem _ hp)
theorem Sr.yP {α:Type} {f:α→List Value} {s n cap:Nat} {xs:List α} {ad:Option Addr} {S:Nat→Prop} {w w':World} (h:Sr f s xs (.slice ad n cap) w) (k:cM S w w') (hS:0<xs.length→¬S (kc ad)):Sr f s xs (.slice ad n cap) w':=by
  obtain ⟨AB,mG,h1,h2,h3⟩:=h;refine ⟨AB,mG,h1,h2,fun hx=>?_⟩;obtain ⟨b,off,cs,E,fz,h4,h5,h6⟩:=h3 hx;exact⟨b,off,cs,E,fz,h4,k.get h5 (by have:=hS hx;rw [(Value.slice.inj h1).1,h4] at this;exact this),h6⟩
theorem cn {m x y:ab} {k:Nat} (h2:∀p∈x,∃q∈y,q.1=p.1) (h:de m k y):de m k x:=fun p hp=>by
  obtain ⟨q,hq,e⟩:=h2 p hp;rw [←e];exact h q hq
theorem bI {α:Type} {xs:List α} {i:Nat} {a:α} (h:i<xs.length):(xs.set i a)[i]? =some a:=List.getElem?_set_self h
theorem fZ {α:Type} {l:List α} {i:Nat} (d:α) (h:i<l.length):l.set i (l.getD i d)=l:=by
  apply List.ext_getElem (by rw [List.length_set])
  intro j h1 h2;rw [List.getElem_set]
  split
  · rename_i e;subst e;rw [List.getD_eq_getElem?_getD,List.getElem?_eq_getElem h2];rfl
  · rfl
abbrev bs (l:List UInt8):ByteArray:=⟨l.toArray⟩
abbrev vS (l:List UInt8):Value:= .string (bs l)
theorem zn (l:List UInt8):(bs l).size=l.length:=by rw [Lib.size_eq]
theorem uC (l:List UInt8):(bs l).toList=l:=by rw [Lib.toList_data]
theorem aaf (s:ByteArray):s=bs s.data.toList:=(Lib.mk_data s).symm
section
variable {P:Program} {ty:TypeId} {e:Env} {t u:TypeId} {x y lo hi:Operand} {l a b:List UInt8}
theorem jR (ht:P.underlying t=some .string) (hx:ev e x=some (vS l)):fx P (.call {callee:= .builtin .len,args:=#[x],argTypes:=#[t] }) ty e (.int .i64 l.length):=by
  have:=Oe (P:=P) (ty:=ty) ht hx;rwa [zn] at this
theorem Gy (a b:List UInt8):(a==b)=decide (a=b):=by rw [Bool.eq_iff_iff];simp
theorem rj (hx:ev e x=some (vS a)) (hy:ev e y=some (vS b)):fx P (.binOp .eql t x y u) ty e (.bool (decide (a=b))):=by
  have:=NX (P:=P) (ty:=ty) (t:=t) (u:=u) hx hy;rwa [uC,uC,Gy] at this
theorem CO (hx:ev e x=some (vS a)) (hy:ev e y=some (vS b)):fx P (.binOp .neq t x y u) ty e (.bool (decide (a≠b))):=by
  have:=PK (P:=P) (ty:=ty) (t:=t) (u:=u) hx hy;rw [uC,uC,Gy] at this;rwa [show (!decide (a=b))=decide (a≠b) by rw [decide_not]] at this
theorem M8 {k:IntKind} {i:Int} (ht:P.underlying t=some .string) (hx:ev e x=some (vS l)) (hy:ev e y=some (.int k i)) (h:0≤i∧i<l.length):fx P (.index t x y) ty e (.int .u8 ((l.getD i.toNat 0).toNat:Nat)):=fun w ρ hρ _ _ _ _=>by
  have h2:(bs l)[i.toNat]? =some (l.getD i.toNat 0):=by
    have bD:i.toNat<l.length:=by omega
    rw [getElem?_pos (bs l) i.toNat (by rw [zn];exact bD),List.getD_eq_getElem?_getD,List.getElem?_eq_getElem bD]
    rfl
  simp only [execOp,Instr.index,asIntOf,hρ x _ hx,hρ y _ hy,Sem.run_bind,Sem.run_pure,Result.andThen,run_underlying ht,if_pos h.1,h2,Sem.run_map]
theorem eo {k:IntKind} {i:Nat} (ht:P.underlying t=some .string) (hx:ev e x=some (vS l)) (hy:ev e y=some (.int k (i:Nat))) (h:i<l.length):fx P (.index t x y) ty e (.int .u8 ((l.getD i 0).toNat:Nat)):=by
  have:=M8 (P:=P) (ty:=ty) ht hx hy om;simpa using this
theorem vh {k k':IntKind} {i j:Int} (ht:P.underlying t=some .string) (hx:ev e x=some (vS l)) (hl:ev e lo=some (.int k i)) (hh:ev e hi=some (.int k' j)) (h1:0≤i) (h2:i≤j) (h3:j≤l.length):
    fx P (.slice t x (some lo) (some hi) none) ty e (vS ((l.drop i.toNat).take (j.toNat-i.toNat))):=fun w ρ hρ _ _ _ _=>by
  have a1:0≤j∧j≤((bs l).size:Int):=by rw [zn];omega
  have a2:0≤i∧i≤((j.toNat:Nat):Int):=by omega
  have h4:(bs l).extract i.toNat j.toNat=bs ((l.drop i.toNat).take (j.toNat-i.toNat)):=Lib.extract_eq _ _ _;simp only [execOp,Instr.sliceAt,Instr.slice,Instr.sliceBounds,Instr.sliceBound,asIntOf,hρ x _ hx,hρ lo _ hl,hρ hi _ hh,Sem.run_bind,Sem.run_pure,Result.andThen,run_underlying ht,Option.map_some,Option.map_none,if_pos a1,if_pos a2,h4,Option.isSome_none,Bool.false_eq_true,if_false,Sem.run_map]
end
section
variable {P:Program} {r:Option Nat} {N:Nat} {Q:Exit→Act→World→Prop} {e:Env} {ds:List Nat} {M:ab} {S:Nat→Prop} {w0:World} {G:World→Prop}
variable {ops:Array Oper} {l:List Oper} {op:Op} {ty:TypeId} {pos:String} {after:Array Edge} {d:Nat}
end
theorem tj {P:Program} (w:World) (t ty E:TypeId) (inf:TypeInfo) (hU:P.underlying t=some (.slice E)) (hI:P.info? E=some inf) (base ad:Option Addr) (n cap cy:Nat) (h:n≤cap):
    (Builtin.append_ #[t,t] ty #[.slice base n cap,.slice ad 0 cy]).run P w= .ok (.slice base n cap) w:=by
  have hf:(Builtin.firstCells inf.size 0 (.slice ad 0 cy)).run P w= .ok #[] w:=by
    cases ad with
    |none=>simp [Builtin.firstCells]
    |some a=>exact run_firstCells_some w inf.size 0 a 0 cy [] (by simp) (fun j v hj=>by simp at hj)
  have hs:(sizeOf E).run P w= .ok inf.size w:=by simp [sizeOf,typeInfo,hI]
  cases base with
  |none=>simp [Builtin.append_,run_underlying hU,hs,Builtin.lenOf,hf,h]
  |some b=>simp [Builtin.append_,run_underlying hU,hs,Builtin.lenOf,hf,h,storeCells]
theorem Es {α:Type} {f:α→List Value} {s:Nat} (hf:∀a,(f a).length=s) (hs:0<s) {ys:List α} {j:Nat} {u:Value} (h:(ys.flatMap f)[j]? =some u):∃i a k,ys[i]? =some a∧k<s∧j=i*s+k∧(f a)[k]? =some u:=by
  have hj:j<ys.length*s:=by
    have:=(List.getElem?_eq_some_iff.1 h).1;rwa [cf hf] at this
  have hi:j / s<ys.length:=(Nat.div_lt_iff_lt_mul hs).2 hj;have e:j=j / s*s+j % s:=by rw [Nat.mul_comm];exact(Nat.div_add_mod j s).symm
  have hk:j % s<s:=Nat.mod_lt _ hs;refine ⟨j / s,ys[j / s],j % s,List.getElem?_eq_getElem hi,hk,e,?_⟩;rw [←kq hf ys (j / s) (j % s) _ (List.getElem?_eq_getElem hi) hk,←e];exact h
section
variable {P:Program} {r:Option Nat} {N:Nat} {Q:Exit→Act→World→Prop} {e:Env} {ds:List Nat} {M:ab} {S:Nat→Prop} {w0:World} {G:World→Prop}
variable {ops:Array Oper} {l:List Oper} {ty:TypeId} {pos:String} {after:Array Edge} {d:Nat} {x y:Operand} {t:TypeId}
theorem LM.sF [GT G] {α:Type} {f:α→List Value} {E s n0:Nat} {inf:TypeInfo} {z:Value} {xs ys:List α} {v:Value} {m M2:ab} {ad:Option Addr} {ny c:Nat}
    (hU:P.underlying t=some (.slice E)) (hI:∀w,(typeInfo E).run P w= .ok inf w) (hz:inf.zero=some z) (hs:inf.size=s) (qD:Nat.blt 0 s=true) (IS:z.cells.size=s) (hd:Nat.blt d N=true)
    (hx:ev e x=some v) (hy:ev e y=some (.slice ad ny c)) (jt:Sl f E s n0 xs v m) [h2:q6 M m M2] (hr:∀w,Mem w M→cM S w0 w→G w→Sr f s ys (.slice ad ny c) w)
    (hf:∀a,(f a).length=s) (Ax:∀a,∀u∈f a,one u=true) (cm:n0≤w0.heap.size) (hSm:∀p∈m,p.1<w0.heap.size→S p.1) (hlen:xs.length+ys.length≤maxLen) (qT:(xs.length+ys.length)*inf.bytes≤140737488355328)
    (h:∀ad n cap m',n=xs.length+ys.length→Sl f E s n0 (xs++ys) (.slice ad n cap) m'→(∀p∈m',w0.heap.size≤p.1∨∃q∈m,q.1=p.1)→LM P r N ops Q l ((d,.slice ad n cap)::e) ds (m'++M2) S w0 G):
    LM P r N ops Q (⟨some d,.call {callee:= .builtin .append,args:=#[x,y],argTypes:=#[t,t] },ty,pos,after,none⟩::l) e ds M S w0 G:=fun w hm hc hg=>by
  have qD:0<s:=Nat.le_of_ble_eq_true qD;have BK:=zT hI;have ew:=hr w hm hc hg;have KI:Mem w (m++M2):=hm.perm h2.perm;obtain ⟨rfl,-,xZ⟩:=ew.open
  have h':∀v' m',Sl f E s n0 (xs++ys) v' m'→(∀p∈m',w0.heap.size≤p.1∨∃q∈m,q.1=p.1)→LM P r N ops Q l ((d,v')::e) ds (m'++M2) S w0 G:=fun v' m' Hm gI=>by
    obtain ⟨ad,cap,rfl⟩:=Hm.form;exact h ad _ cap m' (by simp) Hm gI
  have step:∀(v':Value) (w':World),(Builtin.append_ #[t,t] ty #[v,.slice ad ys.length c]).run P w= .ok v' w'→
      (LE P r N ops Q l ((d,v')::e) ds w')→LE P r N ops Q (⟨some d,.call {callee:= .builtin .append,args:=#[x,y],argTypes:=#[t,t] },ty,pos,after,none⟩::l) e ds w:=fun v' w' hr hl=>
    LE.val (fun ρ hρ _ _ _ _=>by simp [execOp,resolve,invoke,builtin,hρ x _ hx,hρ y _ hy,hr,Result.andThen]) hl rfl hd
  by_cases hy0:ys.length=0
  · obtain rfl:ys=[] :=List.eq_nil_of_length_eq_zero hy0
    have hv:∃b n cp,v= .slice b n cp∧n≤cp:=by
      rcases jt with ⟨rfl,_,_⟩|⟨b,cap,bT,_,rfl,_,hle,_,_⟩
      · exact⟨_,_,_,rfl,Nat.le_refl _⟩
      · exact⟨_,_,_,rfl,hle⟩
    obtain ⟨b,n,cp,rfl,hle⟩:=hv;exact step _ _ (tj w t ty E inf hU BK b ad n cp c hle) (h' _ m (by simpa using jt) (fun p hp=> .inr ⟨p,hp,rfl⟩) w KI hc hg)
  obtain ⟨bx,off,cs,F,fz,rfl,hbx,uT⟩:=xZ om;have hfl:(ys.flatMap f).length=ys.length*inf.size:=by rw [cf hf,hs]
  have ve:∀j u,(ys.flatMap f)[j]? =some u→w.cell? ((⟨bx,off,none⟩:Addr).add j)=some u:=fun j u hj=>by
    obtain ⟨i,a,k,h1,h2,h3,h4⟩:=Es hf qD hj;have:=uT i a h1 k h2;rw [←h3,h4] at this;rw [Addr.add_lit];simp [World.cell?,hbx];exact this
  have aaP:∀u∈ys.flatMap f,one u=true:=fun u hu=>by
    obtain ⟨a,_,hu⟩:=List.mem_flatMap.1 hu;exact Ax a u hu
  rcases jt with ⟨rfl,rfl,rfl⟩|⟨b,cap,bT,hb,rfl,rfl,hle,UI,JM⟩
  · -- nil
    simp only [List.length_nil,Nat.zero_add] at hlen qT;have hr:=run_append_nil (P:=P) w t ty E inf z hU BK hz ⟨bx,off,none⟩ ys.length c (ys.flatMap f) hfl ve om (by unfold maxLen at hlen;omega) om;refine step _ _ hr ?_;obtain ⟨k,hk,xY⟩:∃k,grownCap w ys.length 0 E=k∧ys.length≤k∧k≤maxLen:=⟨_,rfl,grownCap_ge w _ 0 E,grownCap_le_maxLen w _ 0 E hlen⟩
    rw [hk];refine h' _ [(w.heap.size,.cells (arr f ([] ++ys) (Builtin.zeroCells z.cells (k-ys.length)).toList) E (0,0))] (.inr ⟨w.heap.size,k,(Builtin.zeroCells z.cells (k-ys.length)).toList,Nat.le_trans cm hc.size,rfl,rfl,by simpa using xY.1,xY.2,?_⟩) (fun p hp=>by rw [List.mem_singleton] at hp;subst hp;exact .inl hc.size) _ ?_ ?_ ?_
    · simp only [List.nil_append,Array.length_toList,size_zeroCells,IS]
      rw [Nat.sub_mul];have:ys.length*s≤k*s:=Nat.mul_le_mul_right _ xY.1;omega
    · have e1:(Obj.cells ((ys.flatMap f).toArray++Builtin.zeroCells z.cells (k-ys.length)) E)= .cells (arr f ([] ++ys) (Builtin.zeroCells z.cells (k-ys.length)).toList) E (0,0):=by
        congr 1;apply Array.ext';simp [arr]
      rw [e1];exact(KI.ext (cM.drew no w)).alloc _
    · exact(hc.step (cM.drew no w) (fun _ _ q=>q.elim)).step (bB w.drew _) (fun _ _ q=>q.elim)
    · exact GS.ext w.drew _ (GS.ext w _ hg (cM.drew no w)) (bB w.drew _)
  · have Pc:=KI.get (i:=0) rfl
    have Nw:(arr f xs bT).size=cap*s:=by simp [arr,cf hf,JM]
    by_cases wH:xs.length+ys.length≤cap
    · have hmul:(xs.length+ys.length)*s≤cap*s:=Nat.mul_le_mul_right _ wH
      rw [Nat.add_mul] at hmul;have hr:=run_append_room (P:=P) w t ty E inf hU BK b xs.length cap (arr f xs bT) Pc ⟨bx,off,none⟩ ys.length c (ys.flatMap f) hfl ve (fun u hu=>aaP u hu) wH (by rw [hs,cf hf,Nw];exact hmul);refine step _ _ hr ?_;rw [hs,cf hf]
      have e1:(((arr f xs bT).toList.take (xs.length*s)++ys.flatMap f++(arr f xs bT).toList.drop (xs.length*s+ys.length*s)).toArray)=arr f (xs++ys) (bT.drop (ys.length*s)):=by
        apply Array.ext'
        have hl:=cf hf xs;simp only [arr,List.flatMap_append];rw [←hl,List.take_left,List.drop_append,List.drop_eq_nil_of_le om,List.nil_append,Nat.add_sub_cancel_left]
      rw [e1]
      have Vr:(w.setRow b (arr f (xs++ys) (bT.drop (ys.length*s)))).heap[b]? =some (.cells (arr f (xs++ys) (bT.drop (ys.length*s))) E (0,0)):=by
        obtain ⟨bD,hk⟩:=Array.getElem?_eq_some_iff.1 Pc
        show (w.heap.modify b _)[b]? =_
        rw [Array.getElem?_eq_getElem (by rw [Array.size_modify];exact bD),Array.getElem_modify_self,hk]
      have zV:cM (fun x=>x=b) w (w.setRow b (arr f (xs++ys) (bT.drop (ys.length*s)))):=⟨rfl,rfl,rfl,by simp [World.setRow],fun k _ hn=>by
        simp only [World.setRow,Array.getElem?_modify];rw [if_neg (Ne.symm hn)]⟩
      refine h' _ [(b,.cells (arr f (xs++ys) (bT.drop (ys.length*s))) E (0,0))] (.inr ⟨b,cap,bT.drop (ys.length*s),hb,by simp,rfl,by simpa using wH,UI,?_⟩) (fun p hp=>by rw [List.mem_singleton] at hp;subst hp;exact .inr ⟨_,List.mem_singleton.2 rfl,rfl⟩) _ ?_ ?_ ?_
      · simp only [List.length_append,List.length_drop,Nat.add_mul];omega
      · exact KI.set (i:=0) rfl Vr zV
      · exact hc.step zV (fun k hk JY=>by subst JY;exact hSm _ (List.mem_singleton.2 rfl) hk)
      · exact GT.xD _ w _ hg zV (.one zV Pc rfl)
    · have holds:∀j u,(xs.flatMap f)[j]? =some u→w.cell? ((⟨b,0,none⟩:Addr).add j)=some u:=fun j u hj=>by
        have RN:j<(xs.flatMap f).length:=(List.getElem?_eq_some_iff.1 hj).1;rw [jl];simp [World.cell?,Pc,arr,List.getElem?_append_left RN,hj]
      have hr:=run_append_grow (P:=P) w t ty E inf z hU BK hz ⟨b,0,none⟩ xs.length cap (xs.flatMap f) (by rw [cf hf,hs]) holds ⟨bx,off,none⟩ ys.length c (ys.flatMap f) hfl ve om (by unfold maxLen at hlen;omega) (growslice_fits om qT);refine step _ _ hr ?_;obtain ⟨k,hk,xY⟩:∃k,grownCap w (xs.length+ys.length) cap E=k∧xs.length+ys.length≤k∧k≤maxLen:=⟨_,rfl,grownCap_ge w _ cap E,grownCap_le_maxLen w _ cap E hlen⟩
      rw [hk];refine h' _ [(w.heap.size,.cells (arr f (xs++ys) (Builtin.zeroCells z.cells (k-(xs.length+ys.length))).toList) E (0,0))] (.inr ⟨w.heap.size,k,(Builtin.zeroCells z.cells (k-(xs.length+ys.length))).toList,Nat.le_trans cm hc.size,by simp,rfl,by simpa using xY.1,xY.2,?_⟩) (fun p hp=>by rw [List.mem_singleton] at hp;subst hp;exact .inl hc.size) _ ?_ ?_ ?_
      · simp only [List.length_append,Array.length_toList,size_zeroCells,IS]
        rw [Nat.sub_mul];have:(xs.length+ys.length)*s≤k*s:=Nat.mul_le_mul_right _ xY.1;omega
      · have e1:(Obj.cells ((xs.flatMap f).toArray++(ys.flatMap f).toArray++Builtin.zeroCells z.cells (k-(xs.length+ys.length))) E)= .cells (arr f (xs++ys) (Builtin.zeroCells z.cells (k-(xs.length+ys.length))).toList) E (0,0):=by
          congr 1;apply Array.ext';simp [arr]
        rw [e1];have G5:Mem w M2:=by simpa using KI.tail
        exact(G5.ext (cM.drew no w)).alloc _
      · exact(hc.step (cM.drew no w) (fun _ _ q=>q.elim)).step (bB w.drew _) (fun _ _ q=>q.elim)
      · exact GS.ext w.drew _ (GS.ext w _ hg (cM.drew no w)) (bB w.drew _)
end
section
variable {P:Program} {r:Option Nat} {N:Nat} {Q:Exit→Act→World→Prop} {e:Env} {ds:List Nat} {M:ab} {S:Nat→Prop} {w0:World} {G:World→Prop}
variable {ops:Array Oper} {l:List Oper} {op:Op} {ty:TypeId} {pos:String} {after:Array Edge} {d:Nat}
end
end Go.Eng
namespace Go.Eng
open Go Go.RowKit Go.Lib Go.Sort
section
variable {P:Program} {r:Option Nat} {N:Nat} {Q:Exit→Go.Act→World→Prop} {e:Env} {ds:List Nat} {M:ab} {S:Nat→Prop} {w0:World} {G:World→Prop}
variable {ops:Array Oper} {l:List Oper} {ty:TypeId} {pos:String} {after:Array Edge} {d:Nat} {x y:Operand} {t:TypeId}
end
section
variable {P:Program} {r:Option Nat} {N:Nat} {Q:Exit→Go.Act→World→Prop} {e:Env} {ds:List Nat} {M:ab} {S:Nat→Prop} {w0:World} {G:World→Prop}
variable {ops:Array Oper} {l:List Oper} {ty:TypeId} {pos:String} {after:Array Edge} {d:Nat} {t:TypeId}
theorem LM.KL [GS G] {E:TypeId} {s:Nat} (hU:P.underlying t=some (.slice E)) (hS:∀w,(sizeOf E).run P w= .ok s w) (hd:Nat.blt d N=true)
    (h:∀b,w0.heap.size≤b→LM P r N ops Q l ((d,.slice (some ⟨b,0,none⟩) 0 0)::e) ds ((b,.cells (([] :List Value).toArray) E (0,0))::M) S w0 G):LM P r N ops Q (⟨some d,.buildSlice t 0 #[],ty,pos,after,none⟩::l) e ds M S w0 G:=fun w hm hc hg=>by
  refine LE.val (w':=w.alloc (.cells ([] :List Value).toArray E)) (fun ρ hρ _ _ _ _=>?_) (h w.heap.size hc.size _ (hm.alloc _) (hc.step (bB w _) (fun _ _ q=>q.elim)) (GS.ext w _ hg (bB w _))) rfl hd;simp [execOp,Instr.buildSlice,run_underlying hU,hS,Instr.fill,newRow,Result.andThen];rw [show (Array.range 0)=#[] by decide,Array.map_empty]
end
section
variable {P:Program} {r:Option Nat} {N:Nat} {Q:Exit→Go.Act→World→Prop} {e:Env} {ds:List Nat} {M:ab} {S:Nat→Prop} {w0:World} {G:World→Prop}
variable {ops:Array Oper} {l:List (Nat×Nat)} {op:Op} {ty:TypeId} {pos:String} {after:Array Edge} {d i:Nat}
theorem LD.AY {j t:Nat} {b:Bool} (hi:ops[i]? =some ⟨some d,op,ty,pos,after,some (j,b)⟩) (hj:(ops[j]?).bind (·.dst)=some t) (ht:look e t=some undef) (h:LD P r N ops Q l ((d,undef)::e) ds M S w0 G) (hd:Nat.blt d N=true:=by rfl):
    LD P r N ops Q ((i,2)::l) e ds M S w0 G:=fun a hf fa=>by
  have hw:Region.wanted ⟨some d,op,ty,pos,after,some (j,b)⟩ (yielded ops a.tmps)=false:=by
    simp only [Region.wanted,yielded,hj,Option.bind_some,hf.2 t _ ht,undef];rfl
  have hl:=h _ (hf.put hd undef) fa;simp only [x5,hi];intro w hC
  unfold wpOpIn
  rw [hi];simp only;rw [if_neg (by rw [hw];simp)];exact⟨fun _ _=>trivial,Ga M S w0 G,fun _ h=>h,hC,hl⟩
theorem LD.fm [GS G] {gd:Option (Nat×Bool)} {g:FuncId} {args:Array Value} {T:Nat→Value→ab→Prop} (hi:ops[i]? =some ⟨some d,op,ty,pos,after,gd⟩) (PE:uR ops e gd true) (hc:∀w,AI P op ty e w g args) (LW:∀n n' u m,n'≤n→T n u m→T n' u m)
    (h:∀w,Mem w M→cM S w0 w→G w→aD P g args w (fun u w'=>Ext w w'∧∃m,T w.heap.size u m∧Mem w' m∧∀p∈m,w.heap.size≤p.1))
    (hk:∀u m,T w0.heap.size u m→(∀p∈m,w0.heap.size≤p.1)→LD P r N ops Q l ((d,u)::e) ds (M++m) S w0 G) (ee:nd op=true:=by rfl) (hd:Nat.blt d N=true:=by rfl):
    LD P r N ops Q ((i,2)::l) e ds M S w0 G:=
  .RK hi PE hc (fun w hm iX hg=>h w hm iX hg) (fun w u w' hm iX hg ⟨he,m,hT,aj,Fl⟩=>by
    refine ⟨M++m,fun w h=>h.sub (List.sublist_append_left _ _),⟨Mem.perm (M:=m++M) ⟨?_,fun p hp=>?_⟩ List.perm_append_comm,iX.step he (fun _ _ q=>q.elim),GS.ext w w' hg he⟩,hk u m (LW _ _ u m iX.size hT) (fun p hp=>Nat.le_trans iX.size (Fl p hp))⟩
    · rw [List.map_append]
      refine List.nodup_append.2 ⟨aj.1,hm.1,?_⟩;intro x hx y hy hxy;obtain ⟨p,hp,rfl⟩:=List.mem_map.1 hx;obtain ⟨q,hq,rfl⟩:=List.mem_map.1 hy;have:=Fl p hp;have:=hm.lt hq;omega
    · rcases List.mem_append.1 hp with hp|hp
      · exact aj.2 p hp
      · exact he.get (hm.2 p hp)) ee hd
end
theorem Sl.void {α:Type} {f:α→List Value} {E s n0 b cap:Nat} {cs:List Value} (hb:n0≤b) (hc:cap≤maxLen) (hl:cs.length=cap*s):Sl f E s n0 ([] :List α) (.slice (some ⟨b,0,none⟩) 0 cap) [(b,.cells cs.toArray E (0,0))] :=
  .inr ⟨b,cap,cs,hb,rfl,by simp [arr],Nat.zero_le _,hc,by simpa using hl⟩
end Go.Eng
namespace Go.Eng
open Go Go.RowKit
section
variable {P:Program} {r:Option Nat} {N:Nat} {Q:Exit→Act→World→Prop} {e:Env} {ds:List Nat} {M:ab} {S:Nat→Prop} {w0:World} {G:World→Prop}
variable {ops:Array Oper} {l:List Oper} {ty:TypeId} {pos:String} {after:Array Edge} {d:Nat} {x y:Operand} {t:TypeId}
end
section
variable {P:Program} {r:Option Nat} {N:Nat} {Q:Exit→Act→World→Prop} {e:Env} {ds:List Nat} {M m:ab} {w0 w1:World} {n k:Nat} {J:Nat→ab→World→Prop} {Jx K:World→Prop}
variable {ops:Array Oper} {rest:List Oper} {ty:TypeId} {pos:String} {after:Array Edge} {d:Nat}
end
section range
variable {P:Program} {N:Nat} {Q:Exit→Act→World→Prop} {e:Env} {ds:List Nat} {M:ab} {S:Nat→Prop} {w0:World} {G:World→Prop}
variable {g:Operand} {ps:Array Tmp} {assign body:Code} {gf:FuncId} {lb:Array Value} {A:List (Array Value)} {Rd:World→Prop} {mp0:ab} {T:Nat→ab→Prop} {fin:Prop} {α β:Type}
end range
end Go.Eng
namespace Go.Eng
open Go Go.Proofs Go.RowKit
def PH {α:Type} :List (Nat×α)→Nat→Option α
  | [],_=>none
  |(k,v)::e,t=>match Nat.beq k t with|true=>some v|false=>PH e t
def NZ {α:Type} (f:α→Prop):List α→Prop
  | [] =>True
  |a::l=>f a∧NZ f l
theorem po {α:Type} {f:Nat×α→Prop} {t:Nat} {v:α} :∀{l:List (Nat×α)},NZ f l→PH l t=some v→f (t,v)
  | [],_,h=>by cases h
  |(k,u)::l,h,e=>by
    unfold PH at e
    cases q:Nat.beq k t with
    |true=>rw [q] at e;obtain rfl:=Nat.eq_of_beq_eq_true q;cases e;exact h.1
    |false=>rw [q] at e;exact po h.2 e
class WR (P:Program) where
  U:List (Nat×TypeDesc)
  S:List (Nat×Nat)
  hU:NZ (fun p=>P.underlying p.1=some p.2) U
  hS:NZ (fun p=>∀w,(sizeOf p.1).run P w= .ok p.2 w) S
def XY (o:BinOp) (a b:Int):Option Value:=
  match o with
  | .lss=>some (.bool (decide (a<b)))
  | .leq=>some (.bool (decide (a≤b)))
  | .gtr=>some (.bool (decide (b<a)))
  | .geq=>some (.bool (decide (b≤a)))
  | .eql=>some (.bool (decide (a=b)))
  | .neq=>some (.bool (decide (a≠b)))
  |_=>none
def pv (U:List (Nat×TypeDesc)) (S:List (Nat×Nat)) (op:Op) (e:Env):Option Value:=
  match op with
  | .move x=>ev e x
  | .assign x=>ev e x
  | .pick c a b=>match ev e c with|some (.bool true)=>ev e a|some (.bool false)=>ev e b|_=>none
  | .nilCheck x=>match ev e x with|some (.pointer (some ad))=>some (.pointer (some ad))|_=>none
  | .extract x i=>match ev e x with|some (.tuple vs)=>vs[i]? |_=>none
  | .fieldAddr t x f=>match PH U t with
    |some (.struct fs)=>match ev e x with
      |some (.pointer (some ⟨b,off,none⟩))=>match (fs[f]?).map (fun fl=>(fl.type,fl.offset)) with
        |some (T,k)=>match PH S T with|some (n+1)=>some (.pointer (some ⟨b,off+k,none⟩))|_=>none
        |none=>none
      |_=>none
    |_=>none
  | .unOp .not _ x=>match ev e x with|some (.bool b)=>some (.bool (!b))|_=>none
  | .binOp o _ x y _=>match ev e x with
    |some (.int k a)=>match ev e y with
      |some (.int k' b)=>if k=k' then XY o a b else none
      |_=>none
    |_=>none
  | .call c=>match c.callee with
    | .builtin .len=>match c.args.toList with
      | [x] =>match c.argTypes.toList with
        | [t] =>match PH U t with
          |some (.slice _)=>match ev e x with|some (.slice _ n _)=>some (.int .i64 n)|_=>none
          |_=>none
        |_=>none
      |_=>none
    |_=>none
  |_=>none
theorem N3 {U:List (Nat×TypeDesc)} {S:List (Nat×Nat)} {c:Call} {e:Env} {v:Value} (h:pv U S (.call c) e=some v):
    ∃x t E ad n cp,c= {callee:= .builtin .len,args:=#[x],argTypes:=#[t] }∧PH U t=some (.slice E)∧ev e x=some (.slice ad n cp)∧v= .int .i64 n:=by
  obtain ⟨cl,ags,C2⟩:=c
  unfold pv at h
  simp only at h
  repeat' split at h
  all_goals first|(cases h;done)|skip
  rename_i x hx _ t ht _ E hE _ ad n cp hv
  cases h
  refine ⟨x,t,E,ad,n,cp,?_,hE,hv,rfl⟩
  obtain ⟨a⟩:=ags;obtain ⟨b⟩:=C2
  simp only at hx ht
  subst hx;subst ht;rfl
theorem YX {P:Program} [T:WR P] {op:Op} {ty:TypeId} {e:Env} {v:Value} (h:pv T.U T.S op e=some v):fx P op ty e v:=by
  cases op
  case move x=>exact GJ h
  case assign x=>exact ye h
  case pick c a b=>
    unfold pv at h;simp only at h
    split at h
    · next q=>exact MR q h
    · next q=>exact I6 q h
    · cases h
  case nilCheck x=>
    unfold pv at h;simp only at h
    split at h
    · next q=>cases h;exact tK q
    · cases h
  case extract x i=>
    unfold pv at h;simp only at h
    split at h
    · next q=>exact DC q h
    · cases h
  case fieldAddr t x f=>
    unfold pv at h;simp only at h
    repeat' split at h
    all_goals first|(cases h;done)|skip
    rename_i fs hfs _ b off ha _ TT k hf _ n hn
    cases h
    have h1:=po T.hU hfs;have h2:=po T.hS hn
    cases hq:fs[f]? with
    |none=>rw [hq] at hf;cases hf
    |some fl=>
      rw [hq] at hf
      obtain ⟨e1,e2⟩:=Prod.mk.inj (Option.some.inj hf)
      exact CT h1 hq (e1▸h2) (by rfl) e2 ha
  case unOp o t x=>
    unfold pv at h;simp only at h
    cases o<;>simp only at h
    case not=>
      split at h
      · next q=>cases h;exact SL q
      · cases h
    all_goals cases h
  case binOp o t x y u=>
    unfold pv at h;simp only at h
    repeat' split at h
    all_goals first|(cases h;done)|skip
    rename_i hx _ _ _ hy hk
    subst hk
    unfold XY at h
    cases o<;>simp only at h<;>cases h
    · exact Ur hx hy
    · exact Tn hx hy
    · exact SS hx hy
    · exact Tm hx hy
    · exact S2 hx hy
    · exact SW hx hy
  case call c=>
    obtain ⟨x,t,E,ad,n,cp,rfl,h1,h2,rfl⟩:=N3 h
    exact SZ (po T.hU h1) h2
  all_goals (unfold pv at h;cases h)
def wtB (ops:Array Oper) (e:Env) (g:Option (Nat×Bool)):Option Bool:=
  match g with
  |none=>some true
  |some (j,b)=>match (ops[j]?).bind (·.dst) with
    |some t=>match look e t with|some (.bool c)=>some (c==b)|_=>none
    |none=>none
def Bf (U:List (Nat×TypeDesc)) (S:List (Nat×Nat)) (ops:Array Oper) (N:Nat) (o:Oper) (e:Env):Option (Bool×Env):=
  match o.dst with
  |none=>none
  |some d=>match Nat.blt d N&&nd o.op with
    |false=>none
    |true=>match wtB ops e o.guard with
      |none=>none
      |some true=>match pv U S o.op e with|some v=>some (true,(d,v)::e)|none=>none
      |some false=>match look e d with|none=>some (false,e)|some _=>none
def pvL (U:List (Nat×TypeDesc)) (S:List (Nat×Nat)) (ops:Array Oper) (N:Nat):Nat→List Oper→Env→Option (List Oper×Env)
  |0,l,e=>some (l,e)
  |n+1,o::l,e=>match Bf U S ops N o e with|some (_,e')=>pvL U S ops N n l e'|none=>none
  |_+1,[],_=>none
def pvD (U:List (Nat×TypeDesc)) (S:List (Nat×Nat)) (ops:Array Oper) (N:Nat):Nat→List (Nat×Nat)→Env→Option (List (Nat×Nat)×Env)
  |0,l,e=>some (l,e)
  |n+1,(i,k)::l,e=>match ops[i]? with
    |some o=>match Bf U S ops N o e with
      |some (true,e')=>match k with|0=>pvD U S ops N n l e'|_+1=>none
      |some (false,e')=>match Nat.blt k 3 with|true=>pvD U S ops N n l e'|false=>none
      |none=>none
    |none=>none
  |_+1,[],_=>none
def pvK (U:List (Nat×TypeDesc)) (S:List (Nat×Nat)) (ops:Array Oper) (N:Nat):Nat→OT→Env→Option (OT×Env)
  |0,l,e=>some (l,e)
  |n+1,.one i k l,e=>match ops[i]? with
    |some o=>match Bf U S ops N o e with
      |some (true,e')=>match k with|0=>pvK U S ops N n l e'|_+1=>none
      |some (false,e')=>match Nat.blt k 2 with|true=>pvK U S ops N n l e'|false=>none
      |none=>none
    |none=>none
  |_+1,_,_=>none
theorem K9 {ops:Array Oper} {e:Env} {g:Option (Nat×Bool)} {b:Bool} (h:wtB ops e g=some b):uR ops e g b:=by
  cases g with
  |none=>cases h;rfl
  |some p=>
    obtain ⟨j,c⟩:=p
    unfold wtB at h;simp only at h
    cases h1:(ops[j]?).bind (·.dst) with
    |none=>rw [h1] at h;cases h
    |some t=>
      rw [h1] at h;simp only at h
      cases h2:look e t with
      |none=>rw [h2] at h;cases h
      |some u=>
        rw [h2] at h
        cases u<;>simp only at h
        case bool q=>exact⟨t,q,h1,h2,Option.some.inj h⟩
        all_goals cases h
theorem zu {P:Program} [T:WR P] {ops:Array Oper} {N:Nat} {o:Oper} {e e':Env} {b:Bool} (h:Bf T.U T.S ops N o e=some (b,e')):
    ∃d,o.dst=some d∧Nat.blt d N=true∧nd o.op=true∧uR ops e o.guard b∧((b=true∧∃v,e'=(d,v)::e∧∀ty,fx P o.op ty e v)∨(b=false∧e'=e∧look e d=none)):=by
  unfold Bf at h
  cases h1:o.dst with
  |none=>rw [h1] at h;cases h
  |some d=>
    rw [h1] at h;simp only at h
    cases h2:Nat.blt d N&&nd o.op with
    |false=>rw [h2] at h;cases h
    |true=>
      rw [h2] at h;simp only at h
      rw [Bool.and_eq_true] at h2
      cases h3:wtB ops e o.guard with
      |none=>rw [h3] at h;cases h
      |some c=>
        rw [h3] at h
        cases c with
        |true=>
          simp only at h
          cases h4:pv T.U T.S o.op e with
          |none=>rw [h4] at h;cases h
          |some v=>rw [h4] at h;cases h;exact⟨d,rfl,h2.1,h2.2,K9 h3,.inl ⟨rfl,v,rfl,fun ty=>YX h4⟩⟩
        |false=>
          simp only at h
          cases h4:look e d with
          |some v=>rw [h4] at h;cases h
          |none=>rw [h4] at h;cases h;exact⟨d,rfl,h2.1,h2.2,K9 h3,.inr ⟨rfl,rfl,h4⟩⟩
section
variable {P:Program} [T:WR P] {r:Option Nat} {N:Nat} {Q:Exit→Act→World→Prop} {ds:List Nat} {M:ab} {S:Nat→Prop} {w0:World} {G:World→Prop} {ops:Array Oper}
theorem LM.V:∀(n:Nat) {l l':List Oper} {e e':Env},pvL T.U T.S ops N n l e=some (l',e')→LM P r N ops Q l' e' ds M S w0 G→LM P r N ops Q l e ds M S w0 G
  |0,l,l',e,e',h,k=>by cases h;exact k
  |n+1,[],l',e,e',h,k=>by cases h
  |n+1,o::l,l',e,e',h,k=>by
    unfold pvL at h
    cases h1:Bf T.U T.S ops N o e with
    |none=>rw [h1] at h;cases h
    |some p=>
      obtain ⟨b,e1⟩:=p
      rw [h1] at h;simp only at h
      have k1:=LM.V n h k
      obtain ⟨d,q1,q2,q3,q4,q5⟩:=zu h1
      obtain ⟨dst,op,ty,pos,after,g⟩:=o
      simp only at q1 q3 q4 q5;subst q1
      rcases q5 with ⟨rfl,v,rfl,hv⟩|⟨rfl,rfl,hf⟩
      · have k2:LM P r N ops Q (⟨some d,op,ty,pos,after,none⟩::l) e ds M S w0 G:=LM.val (hv _) k1 q3 q2
        cases g with
        |none=>exact k2
        |some p=>
          obtain ⟨j,c⟩:=p
          obtain ⟨t,u,z1,z2,z3⟩:=q4
          have z3:u=c:=by simpa using z3
          subst z3
          exact LM.strip z1 z2 rfl k2
      · cases g with
        |none=>cases q4
        |some p=>
          obtain ⟨j,c⟩:=p
          obtain ⟨t,u,z1,z2,z3⟩:=q4
          exact LM.drop z1 z2 z3 k1 q2 hf
theorem LD.V:∀(n:Nat) {l l':List (Nat×Nat)} {e e':Env},pvD T.U T.S ops N n l e=some (l',e')→LD P r N ops Q l' e' ds M S w0 G→LD P r N ops Q l e ds M S w0 G
  |0,l,l',e,e',h,k=>by cases h;exact k
  |n+1,[],l',e,e',h,k=>by cases h
  |n+1,(i,m)::l,l',e,e',h,k=>by
    unfold pvD at h
    cases h0:ops[i]? with
    |none=>rw [h0] at h;cases h
    |some o=>
      rw [h0] at h;simp only at h
      cases h1:Bf T.U T.S ops N o e with
      |none=>rw [h1] at h;cases h
      |some p=>
        obtain ⟨b,e1⟩:=p
        rw [h1] at h
        obtain ⟨d,q1,q2,q3,q4,q5⟩:=zu h1
        obtain ⟨dst,op,ty,pos,after,g⟩:=o
        simp only at q1 q3 q4 q5;subst q1
        rcases q5 with ⟨rfl,v,rfl,hv⟩|⟨rfl,rfl,hf⟩
        · cases m with
          |zero=>exact LD.val h0 q4 (hv _) (LD.V n h k) q3 q2
          |succ m=>cases h
        · simp only at h
          cases h2:Nat.blt m 3 with
          |true=>rw [h2] at h;exact LD.drop h2 h0 q4 (LD.V n h k) q2 hf
          |false=>rw [h2] at h;cases h
theorem KD.V {MD:ab} {GD:World→Prop} :∀(n:Nat) {l l':OT} {e e':Env},pvK T.U T.S ops N n l e=some (l',e')→KD P r N ops Q MD GD l' e' ds M S w0 G→KD P r N ops Q MD GD l e ds M S w0 G
  |0,l,l',e,e',h,k=>by cases h;exact k
  |n+1,.one i m l,l',e,e',h,k=>by
    unfold pvK at h
    cases h0:ops[i]? with
    |none=>rw [h0] at h;cases h
    |some o=>
      rw [h0] at h;simp only at h
      cases h1:Bf T.U T.S ops N o e with
      |none=>rw [h1] at h;cases h
      |some p=>
        obtain ⟨b,e1⟩:=p
        rw [h1] at h
        obtain ⟨d,q1,q2,q3,q4,q5⟩:=zu h1
        obtain ⟨dst,op,ty,pos,after,g⟩:=o
        simp only at q1 q3 q4 q5;subst q1
        rcases q5 with ⟨rfl,v,rfl,hv⟩|⟨rfl,rfl,hf⟩
        · cases m with
          |zero=>exact KD.val h0 q4 (hv _) (KD.V n h k) q3 q2
          |succ m=>cases h
        · simp only at h
          cases h2:Nat.blt m 2 with
          |true=>rw [h2] at h;exact KD.drop h2 h0 q4 (KD.V n h k) q2 hf
          |false=>rw [h2] at h;cases h
  |n+1,.nil,l',e,e',h,k=>by cases h
  |n+1,.fork ..,l',e,e',h,k=>by cases h
  |n+1,.Wy ..,l',e,e',h,k=>by cases h
  |n+1,.last ..,l',e,e',h,k=>by cases h
end
instance:WR Tryz.prog:=⟨[(22,_),(24,_),(26,_),(27,_),(28,_),(30,_),(37,_),(43,_),(45,_),(46,_),(47,_),(49,_),(56,_),(58,_),(61,_),(66,_),(68,_),(72,_),(75,_),(83,_),(98,_),(100,_),(103,_),(105,_),(115,_),(117,_),(118,_),(120,_),(125,_),(128,_),(130,_),(137,_),(143,_),(144,_),(146,_),(152,_),(157,_),(168,_),(171,_),(198,_),(230,_),(236,_)],[(3,_),(4,_),(9,_),(22,_),(26,_),(27,_),(28,_),(30,_),(37,_),(41,_),(42,_),(43,_),(44,_),(45,_),(46,_),(47,_),(54,_),(56,_),(58,_),(59,_),(66,_),(68,_),(72,_),(83,_),(98,_),(103,_),(105,_),(115,_),(117,_),(118,_),(122,_),(128,_),(137,_),(143,_),(144,_),(152,_),(168,_),(190,_)],⟨Tryz.underlying22,Tryz.underlying24,Tryz.underlying26,Tryz.underlying27,Tryz.underlying28,Tryz.underlying30,Tryz.underlying37,Tryz.underlying43,Tryz.underlying45,Tryz.underlying46,Tryz.underlying47,Tryz.underlying49,Tryz.underlying56,Tryz.underlying58,Tryz.underlying61,Tryz.underlying66,Tryz.underlying68,Tryz.underlying72,Tryz.underlying75,Tryz.underlying83,Tryz.underlying98,Tryz.underlying100,Tryz.underlying103,Tryz.underlying105,Tryz.underlying115,Tryz.underlying117,Tryz.underlying118,Tryz.underlying120,Tryz.underlying125,Tryz.underlying128,Tryz.underlying130,Tryz.underlying137,Tryz.underlying143,Tryz.underlying144,Tryz.underlying146,Tryz.underlying152,Tryz.underlying157,Tryz.underlying168,Tryz.underlying171,Tryz.underlying198,Tryz.underlying230,Tryz.underlying236,trivial⟩,⟨Tryz.sizeOf3,Tryz.sizeOf4,Tryz.sizeOf9,Tryz.sizeOf22,Tryz.sizeOf26,Tryz.sizeOf27,Tryz.sizeOf28,Tryz.sizeOf30,Tryz.sizeOf37,Tryz.sizeOf41,Tryz.sizeOf42,Tryz.sizeOf43,Tryz.sizeOf44,Tryz.sizeOf45,Tryz.sizeOf46,Tryz.sizeOf47,Tryz.sizeOf54,Tryz.sizeOf56,Tryz.sizeOf58,Tryz.sizeOf59,Tryz.sizeOf66,Tryz.sizeOf68,Tryz.sizeOf72,Tryz.sizeOf83,Tryz.sizeOf98,Tryz.sizeOf103,Tryz.sizeOf105,Tryz.sizeOf115,Tryz.sizeOf117,Tryz.sizeOf118,Tryz.sizeOf122,Tryz.sizeOf128,Tryz.sizeOf137,Tryz.sizeOf143,Tryz.sizeOf144,Tryz.sizeOf152,Tryz.sizeOf168,Tryz.sizeOf190,trivial⟩⟩
theorem kq1 {P:Program} {r:Option Nat} {N:Nat} {Q:Exit→Go.Act→World→Prop} {e:Env} {ds:List Nat} {M MD:ab} {S:Nat→Prop} {w0:World} {G GD:World→Prop} {ops:Array Oper} {l:OT} (h:KD P r N ops Q MD GD l e ds M S w0 G) (hM:aV M MD:=by exact aN) (hG:∀w,G w→GD w:=by exact fun _ _=>trivial):QM N (KQ P r N ops Q (Ga MD S w0 GD) l) .normal e ds M S w0 G:=QM.one hM hG h
instance:vW Tryz.prog 3:=⟨_,Tryz.isAgg3⟩
instance:vW Tryz.prog 4:=⟨_,Tryz.isAgg4⟩
instance:vW Tryz.prog 9:=⟨_,Tryz.isAgg9⟩
instance:vW Tryz.prog 22:=⟨_,Tryz.isAgg22⟩
instance:vW Tryz.prog 26:=⟨_,Tryz.isAgg26⟩
instance:vW Tryz.prog 27:=⟨_,Tryz.isAgg27⟩
instance:vW Tryz.prog 28:=⟨_,Tryz.isAgg28⟩
instance:vW Tryz.prog 41:=⟨_,Tryz.isAgg41⟩
instance:vW Tryz.prog 42:=⟨_,Tryz.isAgg42⟩
instance:vW Tryz.prog 43:=⟨_,Tryz.isAgg43⟩
instance:vW Tryz.prog 44:=⟨_,Tryz.isAgg44⟩
instance:vW Tryz.prog 45:=⟨_,Tryz.isAgg45⟩
instance:vW Tryz.prog 46:=⟨_,Tryz.isAgg46⟩
instance:vW Tryz.prog 47:=⟨_,Tryz.isAgg47⟩
instance:vW Tryz.prog 56:=⟨_,Tryz.isAgg56⟩
instance:vW Tryz.prog 59:=⟨_,Tryz.isAgg59⟩
instance:vW Tryz.prog 98:=⟨_,Tryz.isAgg98⟩
instance:vW Tryz.prog 105:=⟨_,Tryz.isAgg105⟩
instance:vW Tryz.prog 115:=⟨_,Tryz.isAgg115⟩
instance:vW Tryz.prog 118:=⟨_,Tryz.isAgg118⟩
instance:vW Tryz.prog 128:=⟨_,Tryz.isAgg128⟩
instance:vW Tryz.prog 144:=⟨_,Tryz.isAgg144⟩
instance:mC Tryz.prog 3:=⟨_,Tryz.sizeOf3⟩
instance:mC Tryz.prog 4:=⟨_,Tryz.sizeOf4⟩
instance:mC Tryz.prog 9:=⟨_,Tryz.sizeOf9⟩
instance:mC Tryz.prog 22:=⟨_,Tryz.sizeOf22⟩
instance:mC Tryz.prog 26:=⟨_,Tryz.sizeOf26⟩
instance:mC Tryz.prog 27:=⟨_,Tryz.sizeOf27⟩
instance:mC Tryz.prog 28:=⟨_,Tryz.sizeOf28⟩
instance:mC Tryz.prog 30:=⟨_,Tryz.sizeOf30⟩
instance:mC Tryz.prog 37:=⟨_,Tryz.sizeOf37⟩
instance:mC Tryz.prog 41:=⟨_,Tryz.sizeOf41⟩
instance:mC Tryz.prog 42:=⟨_,Tryz.sizeOf42⟩
instance:mC Tryz.prog 43:=⟨_,Tryz.sizeOf43⟩
instance:mC Tryz.prog 44:=⟨_,Tryz.sizeOf44⟩
instance:mC Tryz.prog 45:=⟨_,Tryz.sizeOf45⟩
instance:mC Tryz.prog 46:=⟨_,Tryz.sizeOf46⟩
instance:mC Tryz.prog 47:=⟨_,Tryz.sizeOf47⟩
instance:mC Tryz.prog 54:=⟨_,Tryz.sizeOf54⟩
instance:mC Tryz.prog 56:=⟨_,Tryz.sizeOf56⟩
instance:mC Tryz.prog 58:=⟨_,Tryz.sizeOf58⟩
instance:mC Tryz.prog 59:=⟨_,Tryz.sizeOf59⟩
instance:mC Tryz.prog 66:=⟨_,Tryz.sizeOf66⟩
instance:mC Tryz.prog 68:=⟨_,Tryz.sizeOf68⟩
instance:mC Tryz.prog 72:=⟨_,Tryz.sizeOf72⟩
instance:mC Tryz.prog 83:=⟨_,Tryz.sizeOf83⟩
instance:mC Tryz.prog 98:=⟨_,Tryz.sizeOf98⟩
instance:mC Tryz.prog 103:=⟨_,Tryz.sizeOf103⟩
instance:mC Tryz.prog 105:=⟨_,Tryz.sizeOf105⟩
instance:mC Tryz.prog 115:=⟨_,Tryz.sizeOf115⟩
instance:mC Tryz.prog 117:=⟨_,Tryz.sizeOf117⟩
instance:mC Tryz.prog 118:=⟨_,Tryz.sizeOf118⟩
instance:mC Tryz.prog 122:=⟨_,Tryz.sizeOf122⟩
instance:mC Tryz.prog 128:=⟨_,Tryz.sizeOf128⟩
instance:mC Tryz.prog 137:=⟨_,Tryz.sizeOf137⟩
instance:mC Tryz.prog 143:=⟨_,Tryz.sizeOf143⟩
instance:mC Tryz.prog 144:=⟨_,Tryz.sizeOf144⟩
instance:mC Tryz.prog 152:=⟨_,Tryz.sizeOf152⟩
instance:mC Tryz.prog 168:=⟨_,Tryz.sizeOf168⟩
instance:mC Tryz.prog 190:=⟨_,Tryz.sizeOf190⟩
instance:kJ Tryz.prog 22:=⟨_,Tryz.underlying22⟩
instance:kJ Tryz.prog 24:=⟨_,Tryz.underlying24⟩
instance:kJ Tryz.prog 26:=⟨_,Tryz.underlying26⟩
instance:kJ Tryz.prog 27:=⟨_,Tryz.underlying27⟩
instance:kJ Tryz.prog 28:=⟨_,Tryz.underlying28⟩
instance:kJ Tryz.prog 30:=⟨_,Tryz.underlying30⟩
instance:kJ Tryz.prog 37:=⟨_,Tryz.underlying37⟩
instance:kJ Tryz.prog 43:=⟨_,Tryz.underlying43⟩
instance:kJ Tryz.prog 45:=⟨_,Tryz.underlying45⟩
instance:kJ Tryz.prog 46:=⟨_,Tryz.underlying46⟩
instance:kJ Tryz.prog 47:=⟨_,Tryz.underlying47⟩
instance:kJ Tryz.prog 49:=⟨_,Tryz.underlying49⟩
instance:kJ Tryz.prog 56:=⟨_,Tryz.underlying56⟩
instance:kJ Tryz.prog 58:=⟨_,Tryz.underlying58⟩
instance:kJ Tryz.prog 61:=⟨_,Tryz.underlying61⟩
instance:kJ Tryz.prog 66:=⟨_,Tryz.underlying66⟩
instance:kJ Tryz.prog 68:=⟨_,Tryz.underlying68⟩
instance:kJ Tryz.prog 72:=⟨_,Tryz.underlying72⟩
instance:kJ Tryz.prog 75:=⟨_,Tryz.underlying75⟩
instance:kJ Tryz.prog 83:=⟨_,Tryz.underlying83⟩
instance:kJ Tryz.prog 98:=⟨_,Tryz.underlying98⟩
instance:kJ Tryz.prog 100:=⟨_,Tryz.underlying100⟩
instance:kJ Tryz.prog 103:=⟨_,Tryz.underlying103⟩
instance:kJ Tryz.prog 105:=⟨_,Tryz.underlying105⟩
instance:kJ Tryz.prog 115:=⟨_,Tryz.underlying115⟩
instance:kJ Tryz.prog 117:=⟨_,Tryz.underlying117⟩
instance:kJ Tryz.prog 118:=⟨_,Tryz.underlying118⟩
instance:kJ Tryz.prog 120:=⟨_,Tryz.underlying120⟩
instance:kJ Tryz.prog 125:=⟨_,Tryz.underlying125⟩
instance:kJ Tryz.prog 128:=⟨_,Tryz.underlying128⟩
instance:kJ Tryz.prog 130:=⟨_,Tryz.underlying130⟩
instance:kJ Tryz.prog 137:=⟨_,Tryz.underlying137⟩
instance:kJ Tryz.prog 143:=⟨_,Tryz.underlying143⟩
instance:kJ Tryz.prog 144:=⟨_,Tryz.underlying144⟩
instance:kJ Tryz.prog 146:=⟨_,Tryz.underlying146⟩
instance:kJ Tryz.prog 152:=⟨_,Tryz.underlying152⟩
instance:kJ Tryz.prog 157:=⟨_,Tryz.underlying157⟩
instance:kJ Tryz.prog 168:=⟨_,Tryz.underlying168⟩
instance:kJ Tryz.prog 171:=⟨_,Tryz.underlying171⟩
instance:kJ Tryz.prog 198:=⟨_,Tryz.underlying198⟩
instance:kJ Tryz.prog 230:=⟨_,Tryz.underlying230⟩
instance:kJ Tryz.prog 236:=⟨_,Tryz.underlying236⟩
theorem Ze {P:Program} [T:WR P] {ty:TypeId} {e:Env} {x y:Operand} {t:TypeId} {k:IntKind} {i:Nat} {ad:Option Addr} {n c s:Nat} {E:TypeId} (ha:ev e x=some (.slice ad n c)) (hi:ev e y=some (.int k (i:Nat))) (hU:PH T.U t=some (.slice E)) (hS:PH T.S E=some s) (hp:WX n ad) (h:i<n):fx P (.indexAddr t x y) ty e (.pointer (some ⟨kc ad,Dh ad+i*s,none⟩)):=oX hp (po T.hU hU) (po T.hS hS) ha hi h
theorem LM.spB {P:Program} {r:Option Nat} {N:Nat} {Q:Exit→Act→World→Prop} {e:Env} {ds:List Nat} {M:ab} {S:Nat→Prop} {w0:World} {G:World→Prop} {ops:Array Oper} {l:List Oper} {o:Oper} {j t:Nat} {b:Bool} (ho:o.guard=some (j,b)) (hj:(ops[j]?).bind (·.dst)=some t) (ht:look e t=some (.bool b)) (h:LM P r N ops Q ({o with guard:=none} ::l) e ds M S w0 G):LM P r N ops Q (o::l) e ds M S w0 G:= .strip hj ht ho h
attribute [local irreducible] LM LD KD af QM
structure Bx (q:Prop):Prop where
  h:q
theorem Js {p q:Prop} (k:q) (h:Bx q→p:=by(intro z;(first|refine LM.V 1 rfl ?_|refine LM.rd (ZE rfl rfl rfl) ?_|refine LM.nil ?_|refine QM.then ?_|refine af.seq ?_|refine af.region ?_|refine LD.V 1 rfl ?_|refine LD.rd rfl rfl (ZE rfl rfl rfl) ?_|refine af.skip ?_|refine af.ret ?_|refine QM.M3 ?_|refine QM.Ir ?_|refine QM.zZ ?_|refine QM.G4 ?_|refine QM.tf ?_|refine af.block ?_|refine af.exit ?_|refine LM.val (Ze rfl rfl rfl rfl j3 om) ?_|refine LM.val (oc rfl rfl om) ?_|refine LM.val (B0 rfl rfl om) ?_|refine LM.spB rfl rfl rfl ?_|refine LM.MP rfl rfl ?_|refine LD.rd rfl ⟨_,_,rfl,rfl,rfl⟩ (ZE rfl rfl rfl) ?_|refine LD.val rfl rfl (Ze rfl rfl rfl rfl j3 om) ?_|refine LD.val rfl ⟨_,_,rfl,rfl,rfl⟩ (Ze rfl rfl rfl rfl j3 om) ?_|refine LD.MP rfl rfl rfl rfl ?_|refine LD.nil ?_|refine KD.V 1 rfl ?_|refine KD.rd rfl rfl (ZE rfl rfl rfl) ?_|refine KD.rd rfl ⟨_,_,rfl,rfl,rfl⟩ (ZE rfl rfl rfl) ?_|refine KD.val rfl rfl (Ze rfl rfl rfl rfl j3 om) ?_|refine KD.val rfl ⟨_,_,rfl,rfl,rfl⟩ (Ze rfl rfl rfl rfl j3 om) ?_|refine KD.one rfl ?_|refine kq1 ?_|refine KD.nil ?_|refine af.Nu rfl ?_|refine af.Nl rfl ?_|refine QM.qt rfl ?_);exact z.1)):p:=h ⟨k⟩
theorem J1 {p q:Prop} (k:q) (h:Bx q→p:=by(intro z;(iterate 1 (refine Js ?_));exact z.1)):p:=h ⟨k⟩
theorem J2 {p q:Prop} (k:q) (h:Bx q→p:=by(intro z;(iterate 2 (refine Js ?_));exact z.1)):p:=h ⟨k⟩
theorem J3 {p q:Prop} (k:q) (h:Bx q→p:=by(intro z;(iterate 3 (refine Js ?_));exact z.1)):p:=h ⟨k⟩
theorem J4 {p q:Prop} (k:q) (h:Bx q→p:=by(intro z;(iterate 4 (refine Js ?_));exact z.1)):p:=h ⟨k⟩
theorem J5 {p q:Prop} (k:q) (h:Bx q→p:=by(intro z;(iterate 5 (refine Js ?_));exact z.1)):p:=h ⟨k⟩
theorem J6 {p q:Prop} (k:q) (h:Bx q→p:=by(intro z;(iterate 6 (refine Js ?_));exact z.1)):p:=h ⟨k⟩
theorem J7 {p q:Prop} (k:q) (h:Bx q→p:=by(intro z;(iterate 7 (refine Js ?_));exact z.1)):p:=h ⟨k⟩
theorem J8 {p q:Prop} (k:q) (h:Bx q→p:=by(intro z;(iterate 8 (refine Js ?_));exact z.1)):p:=h ⟨k⟩
theorem J9 {p q:Prop} (k:q) (h:Bx q→p:=by(intro z;(iterate 9 (refine Js ?_));exact z.1)):p:=h ⟨k⟩
theorem cj {p q:Prop} (k:q) (h:Bx q→p:=by(intro z;(iterate 10 (refine Js ?_));exact z.1)):p:=h ⟨k⟩
theorem c9 {p q:Prop} (k:q) (h:Bx q→p:=by(intro z;(iterate 11 (refine Js ?_));exact z.1)):p:=h ⟨k⟩
theorem cN {p q:Prop} (k:q) (h:Bx q→p:=by(intro z;(iterate 12 (refine Js ?_));exact z.1)):p:=h ⟨k⟩
theorem gy {p q:Prop} (k:q) (h:Bx q→p:=by(intro z;(iterate 13 (refine Js ?_));exact z.1)):p:=h ⟨k⟩
theorem kk {p q:Prop} (k:q) (h:Bx q→p:=by(intro z;(iterate 14 (refine Js ?_));exact z.1)):p:=h ⟨k⟩
theorem py {p q:Prop} (k:q) (h:Bx q→p:=by(intro z;(iterate 15 (refine Js ?_));exact z.1)):p:=h ⟨k⟩
theorem pQ {p q:Prop} (k:q) (h:Bx q→p:=by(intro z;(iterate 16 (refine Js ?_));exact z.1)):p:=h ⟨k⟩
theorem yi {p q:Prop} (k:q) (h:Bx q→p:=by(intro z;(iterate 17 (refine Js ?_));exact z.1)):p:=h ⟨k⟩
theorem yx {p q:Prop} (k:q) (h:Bx q→p:=by(intro z;(iterate 18 (refine Js ?_));exact z.1)):p:=h ⟨k⟩
theorem O2 {p q:Prop} (k:q) (h:Bx q→p:=by(intro z;(iterate 19 (refine Js ?_));exact z.1)):p:=h ⟨k⟩
theorem Rt {p q:Prop} (k:q) (h:Bx q→p:=by(intro z;(iterate 20 (refine Js ?_));exact z.1)):p:=h ⟨k⟩
theorem J21 {p q:Prop} (k:q) (h:Bx q→p:=by(intro z;(iterate 21 (refine Js ?_));exact z.1)):p:=h ⟨k⟩
theorem J22 {p q:Prop} (k:q) (h:Bx q→p:=by(intro z;(iterate 22 (refine Js ?_));exact z.1)):p:=h ⟨k⟩
theorem Wo {p q:Prop} (k:q) (h:Bx q→p:=by(intro z;(iterate 23 (refine Js ?_));exact z.1)):p:=h ⟨k⟩
theorem J24 {p q:Prop} (k:q) (h:Bx q→p:=by(intro z;(iterate 24 (refine Js ?_));exact z.1)):p:=h ⟨k⟩
theorem J25 {p q:Prop} (k:q) (h:Bx q→p:=by(intro z;(iterate 25 (refine Js ?_));exact z.1)):p:=h ⟨k⟩
theorem J26 {p q:Prop} (k:q) (h:Bx q→p:=by(intro z;(iterate 26 (refine Js ?_));exact z.1)):p:=h ⟨k⟩
theorem J27 {p q:Prop} (k:q) (h:Bx q→p:=by(intro z;(iterate 27 (refine Js ?_));exact z.1)):p:=h ⟨k⟩
theorem J28 {p q:Prop} (k:q) (h:Bx q→p:=by(intro z;(iterate 28 (refine Js ?_));exact z.1)):p:=h ⟨k⟩
theorem J29 {p q:Prop} (k:q) (h:Bx q→p:=by(intro z;(iterate 29 (refine Js ?_));exact z.1)):p:=h ⟨k⟩
theorem J30 {p q:Prop} (k:q) (h:Bx q→p:=by(intro z;(iterate 30 (refine Js ?_));exact z.1)):p:=h ⟨k⟩
theorem J31 {p q:Prop} (k:q) (h:Bx q→p:=by(intro z;(iterate 31 (refine Js ?_));exact z.1)):p:=h ⟨k⟩
theorem J33 {p q:Prop} (k:q) (h:Bx q→p:=by(intro z;(iterate 33 (refine Js ?_));exact z.1)):p:=h ⟨k⟩
theorem J35 {p q:Prop} (k:q) (h:Bx q→p:=by(intro z;(iterate 35 (refine Js ?_));exact z.1)):p:=h ⟨k⟩
theorem J39 {p q:Prop} (k:q) (h:Bx q→p:=by(intro z;(iterate 39 (refine Js ?_));exact z.1)):p:=h ⟨k⟩
theorem J40 {p q:Prop} (k:q) (h:Bx q→p:=by(intro z;(iterate 40 (refine Js ?_));exact z.1)):p:=h ⟨k⟩
theorem J45 {p q:Prop} (k:q) (h:Bx q→p:=by(intro z;(iterate 45 (refine Js ?_));exact z.1)):p:=h ⟨k⟩
theorem J51 {p q:Prop} (k:q) (h:Bx q→p:=by(intro z;(iterate 51 (refine Js ?_));exact z.1)):p:=h ⟨k⟩
end Go.Eng
namespace Go.Eng
open Go Go.RowKit
variable {I:List Nat}
structure Kv where
  V:BitVec 64
  id:Int
  x:Int
deriving DecidableEq
instance:Inhabited Kv:=⟨⟨0#64,0,0⟩⟩
structure Nd where
  e:Kv
  l:Nat
  r:Nat
  up:Nat
  red:Bool
deriving DecidableEq
instance:Inhabited Nd:=⟨⟨default,0,0,0,false⟩⟩
abbrev gN (N:List Nd) (i:Nat):Nd:=N.getD i default
/-! what the code does to nodes -/
abbrev Ns:=List Nd×Nat
/-! trees -/
inductive Tr where
  |lf:Tr
  |nd (i:Nat) (e:Kv) (c:Bool) (l r:Tr):Tr
def Tr.ix:Tr→Nat
  |lf=>0
  |nd i _ _ _ _=>i
def Tr.red:Tr→Bool
  |lf=>false
  |nd _ _ c _ _=>c
def Tr.Hs (up:Nat):Tr→List (Nat×Nd)
  |lf=>[]
  |nd i e c l r=>(i,⟨e,l.ix,r.ix,up,c⟩)::(l.Hs i++r.Hs i)
def Tr.ME:Tr→List Nat
  |lf=>[]
  |nd i _ _ l r=>i::(l.ME++r.ME)
def Tr.ord:Tr→List (Nat×Kv)
  |lf=>[]
  |nd i e _ l r=>l.ord++(i,e)::r.ord
def mkR (s:Bool) (i:Nat) (e:Kv) (c:Bool) (a b:Tr):Tr:=if s then .nd i e c a b else .nd i e c b a
inductive Cx where
  |top:Cx
  |dn (s:Bool) (i:Nat) (e:Kv) (c:Bool) (L3:Tr) (k:Cx):Cx
def Cx.ix:Cx→Nat
  |top=>0
  |dn _ i _ _ _ _=>i
def Uq:Cx→Tr→Tr
  | .top,t=>t
  | .dn s i e c L3 k,t=>Uq k (mkR s i e c t L3)
def mkN (s:Bool) (e:Kv) (a b up:Nat) (c:Bool):Nd:=⟨e,if s then a else b,if s then b else a,up,c⟩
def Cx.Hs (h:Nat):Cx→List (Nat×Nd)
  |top=>[]
  |dn s i e c L3 k=>(i,mkN s e h L3.ix k.ix c)::(L3.Hs i++k.Hs i)
def Cx.ME:Cx→List Nat
  |top=>[]
  |dn _ i _ _ L3 k=>i::(L3.ME++k.ME)
def Cx.lo:Cx→List (Nat×Kv)
  |top=>[]
  |dn s i e _ L3 k=>if s then k.lo else k.lo++L3.ord++ [(i,e)]
def Cx.hi:Cx→List (Nat×Kv)
  |top=>[]
  |dn s i e _ L3 k=>if s then (i,e)::L3.ord++k.hi else k.hi
def Has (N:List Nd) (l:List (Nat×Nd)):Prop:=∀p∈l,N[p.1]? =some p.2
structure Ly (I:List Nat) (S:Ns) (t:Tr):Prop where
  has:Has S.1 (t.Hs 0)
  root:S.2=t.ix
  nd:t.ME.Nodup
  sub:∀x∈t.ME,x∈I
  nz:0 ∉ I
variable {I:List Nat}
variable {I:List Nat}
def Ok:Tr→Nat→Prop
  | .lf,h=>h=0
  | .nd _ _ c l r,h=>if c then Ok l h∧Ok r h∧l.red=false∧r.red=false else∃g,h=g+1∧Ok l g∧Ok r g
def Cx.red:Cx→Bool
  |top=>false
  |dn _ _ _ c _ _=>c
def Cx.len:Cx→Nat
  |top=>0
  |dn _ _ _ _ _ k=>k.len+1
variable {I:List Nat}
variable {I:List Nat}
def pM (a b:Kv):Prop:=a.V.toNat<b.V.toNat∨a.V=b.V∧a.id<b.id
instance (a b:Kv):Decidable (pM a b):=by unfold pM;infer_instance
def VW (a b:Kv):Prop:=a.V=b.V∧a.id=b.id
instance (a b:Kv):Decidable (VW a b):=by unfold VW;infer_instance
theorem pM.trans {a b c:Kv} (h:pM a b) (k:pM b c):pM a c:=by
  unfold pM at*
  rcases h with h|⟨h1,h2⟩<;>rcases k with k|⟨k1,k2⟩
  · left;omega
  · left;rw [←k1];exact h
  · left;rw [h1];exact k
  · right;exact⟨h1.trans k1,by omega⟩
theorem pM.irr (a:Kv):¬pM a a:=by unfold pM;intro h;rcases h with h|h<;>omega
theorem RD (a b:Kv):VW a b∨pM a b∨pM b a:=by
  unfold VW pM
  by_cases h:a.V=b.V
  · by_cases h2:a.id<b.id
    · exact .inr (.inl (.inr ⟨h,h2⟩))
    · by_cases h3:b.id<a.id
      · exact .inr (.inr (.inr ⟨h.symm,h3⟩))
      · exact .inl ⟨h,by omega⟩
  · by_cases h2:a.V.toNat<b.V.toNat
    · exact .inr (.inl (.inl h2))
    · refine .inr (.inr (.inl ?_))
      have:a.V.toNat≠b.V.toNat:=fun q=>h (BitVec.eq_of_toNat_eq q);omega
theorem pM.U4 {a b:Kv} (h:pM a b):¬pM b a:=fun k=>pM.irr a (h.trans k)
def I5 (l:List Kv):Prop:=l.Pairwise pM
/-! what is found -/
def Tr.size:Tr→Nat
  |lf=>0
  |nd _ _ _ l r=>l.size+r.size+1
inductive Found (T:Tr) (k:Kv) (res:Nat×Nat):Prop
  |Ck (c:Cx) (i:Nat) (e:Kv) (col:Bool) (l r:Tr):T=Uq c (.nd i e col l r)→VW k e→res=(i,c.ix)→Found T k res
  |amH (c:Cx):T=Uq c .lf→(∀p∈c.lo,pM p.2 k)→(∀p∈c.hi,pM k p.2)→res=(0,c.ix)→Found T k res
/-! what comes next -/
def hdI (l:List (Nat×Kv)):Nat:=match l with| [] =>0|p::_=>p.1
variable {I:List Nat}
/-! numbers of nodes are numbers of nodes -/
def Wf (N:List Nd):Prop:=∀i,(gN N i).l<N.length∧(gN N i).r<N.length∧(gN N i).up<N.length
structure WfS (S:Ns) (n:Nat):Prop where
  wf:Wf S.1
  len:S.1.length=n
  rt:S.2<n
/-! a tree as it stands -/
structure RbS where
  fX:Nat
  N:List Nd
  root:Nat
  first:Nat
  free:Nat
  n:Nat
def FrL (N:List Nd):Nat→List Nat→Prop
  |i,[] =>i=0
  |i,j::fl=>i=j∧j≠0∧j<N.length∧FrL N (gN N j).l fl
structure RbI (s:RbS) (L:List Kv):Prop where
  ex:∃(t:Tr) (fl:List Nat),Ly t.ME (s.N,s.root) t∧t.ord.map (·.2)=L∧(∃H,Ok t H)∧t.red=false∧s.first=hdI t.ord∧FrL s.N s.free fl∧fl.Nodup∧(∀j∈fl,j ∉ t.ME)∧s.N.length=1+t.size+fl.length
  srt:I5 L
  zero:s.N[0]? =some default
  wf:WfS (s.N,s.root) s.N.length
  n:s.n=L.length
  fX:L.length≤s.fX
  len:s.N.length≤s.fX+1
def pJ (L:List Kv) (k:Kv):List Kv:=L.filter (fun x=>decide (pM x k))++k::L.filter (fun x=>decide (pM k x))
theorem CD {α:Type} {p:α→Bool} {l:List α} (h:∀x∈l,p x=true):l.filter p=l:=List.filter_eq_self.2 h
theorem yf {α:Type} {p:α→Bool} {l:List α} (h:∀x∈l,p x=false):l.filter p=[] :=List.filter_eq_nil_iff.2 (fun x hx=>by rw [h x hx];simp)
theorem Ei {lo hi:List Kv} {k:Kv} (h1:∀x∈lo,pM x k) (h2:∀x∈hi,pM k x):pJ (lo++hi) k=lo++k::hi:=by
  unfold pJ
  rw [List.filter_append,List.filter_append,CD (fun x hx=>decide_eq_true (h1 x hx)),yf (fun x hx=>decide_eq_false (h2 x hx).U4),yf (fun x hx=>decide_eq_false (h1 x hx).U4),CD (fun x hx=>decide_eq_true (h2 x hx))];simp
variable {I:List Nat}
structure Take (s:RbS) (t:Tr) (x:Nd) (fl:List Nat) (N1:List Nd) (i free:Nat) (fl':List Nat):Prop where
  out:i ∉ t.ME
  nz:i≠0
  EC:N1[i]? =some x
  same:∀j,j≠i→j<s.N.length→N1[j]? =s.N[j]?
  lt:i<N1.length
  fr:FrL N1 free fl'
  nd:fl'.Nodup
  ap:∀j∈fl',j ∉ t.ME∧j≠i
  len:N1.length=1+(t.size+1)+fl'.length
  wf:WfS (N1,s.root) N1.length
  le:N1.length≤s.fX+1
  ge:s.N.length≤N1.length
variable {I:List Nat}
def aF (n lo hi:Int):Int:=if n<lo then lo else if hi<n then hi else n
def pN (a b:BitVec 64):BitVec 64:=if a.toNat+b.toNat<18446744073709551616 then a+b else 18446744073709551615#64
def fe (v fl r:BitVec 64):BitVec 64:=if v.toNat<fl.toNat then fl else if (pN fl r).toNat<v.toNat then pN fl r else v
theorem ek {n lo hi:Int} (h:lo≤hi):lo≤aF n lo hi∧aF n lo hi≤hi:=by unfold aF;split;omega;split<;>omega
theorem Ez {n lo hi:Int} (h:lo≤hi):aF (aF n lo hi) lo hi=aF n lo hi:=by
  have:=ek (n:=n) h
  unfold aF at*;(repeat' split)<;>omega
/-! what a held tick costs -/
def qi (w:Int):BitVec 64:=720720#64 / BitVec.ofInt 64 (aF w 1 16)
def mQ (w s c:Int):BitVec 64:=qi w*(BitVec.ofInt 64 (aF s 1 32)+BitVec.ofInt 64 (aF c 1 32))
theorem B2 {n hi:Int} (h:1≤hi) (hh:hi≤100000):BitVec.ofInt 64 (aF n 1 hi)≠0#64:=by
  have:=ek (n:=n) h;intro e;have e2:=congrArg BitVec.toNat e;rw [BitVec.toNat_ofInt] at e2;simp at e2;omega
structure Qm where
  g:Int
  fl:BitVec 64
  l:List Kv
  cur:Int
  c4:Int
def BR (w:Int):BitVec 64:=1099511627776#64 / BitVec.ofInt 64 (aF w 1 4096)
def DS (w g:Int):BitVec 64:=BR w*BitVec.ofInt 64 (aF g 1 8)
def ej (l:List Kv) (a:Int):Nat:=l.findIdx (fun t=>decide (t.id=a))
def tc (x:Qm) (v:BitVec 64) (w:Int):BitVec 64:=fe v x.fl (DS w x.g)
def w9 (l:List Kv):List Kv:=l.foldl pJ []
def eD (x:Qm):List Kv:=w9 (x.l.filter (fun t=>decide (t.id≠x.cur)))
def ez (l:List Kv):Int:=(l.map (·.x)).sum
structure mT (x:Qm):Prop where
  nd:(x.l.map (·.id)).Nodup
  pos:∀t∈x.l,0≤t.id
  len:x.l.length≤16
  wt:∀t∈x.l,1≤t.x∧t.x≤4096
  cur:x.cur= -1∨∃t∈x.l,t.id=x.cur
  g:1≤x.g∧x.g≤8
  c4:0≤x.c4
theorem oU (t:Kv) (l:List Kv) (a:Int):ej (t::l) a=if t.id=a then 0 else ej l a+1:=by
  unfold ej;rw [List.findIdx_cons]
  by_cases h:t.id=a
  · rw [if_pos h,decide_eq_true h];rfl
  · rw [if_neg h,decide_eq_false h];rfl
theorem ju {l:List Kv} {a:Int} (h:ej l a<l.length):(l.getD (ej l a) default).id=a∧l.getD (ej l a) default∈l:=by
  have h2:l.getD (ej l a) default=l[ej l a] :=by rw [List.getD_eq_getElem?_getD,List.getElem?_eq_getElem h];rfl
  rw [h2];have h3:=List.findIdx_getElem (p:=fun t:Kv=>decide (t.id=a)) (xs:=l) (w:=h);exact⟨of_decide_eq_true h3,List.getElem_mem h⟩
theorem iT {l:List Kv} {a:Int} :ej l a<l.length↔∃t∈l,t.id=a:=by
  unfold ej;rw [List.findIdx_lt_length]
  exact⟨fun ⟨t,h,e⟩=>⟨t,h,of_decide_eq_true e⟩,fun ⟨t,h,e⟩=>⟨t,h,decide_eq_true e⟩⟩
theorem Oi {l m:List Kv} {a:Int} (h:¬ej l a<l.length):ej (l++m) a=l.length+ej m a:=by
  induction l with
  |nil=>simp
  |cons t l ih=>
    rw [oU] at h
    by_cases e:t.id=a
    · rw [if_pos e] at h;simp at h
    · rw [if_neg e,List.length_cons] at h
      rw [List.cons_append,oU,if_neg e,ih om,List.length_cons];omega
/-! sorted lists -/
theorem MS {L:List Kv} (h:I5 L) (k:Kv):I5 (pJ L k):=by
  unfold pJ I5
  refine List.pairwise_append.2 ⟨List.Pairwise.filter _ h,List.pairwise_cons.2 ⟨fun y hy=>of_decide_eq_true (List.mem_filter.1 hy).2,List.Pairwise.filter _ h⟩,fun x hx y hy=>?_⟩;have h1:pM x k:=of_decide_eq_true (List.mem_filter.1 hx).2;rcases List.mem_cons.1 hy with rfl|hy
  · exact h1
  · exact h1.trans (of_decide_eq_true (List.mem_filter.1 hy).2)
theorem Lc {L:List Kv} {k:Kv} (h:∀x∈L,¬VW x k) (x:Kv):x∈pJ L k↔x∈L∨x=k:=by
  unfold pJ
  simp only [List.mem_append,List.mem_cons,List.mem_filter,decide_eq_true_eq]
  constructor
  · rintro (q|q|q)
    · exact .inl q.1
    · exact .inr q
    · exact .inl q.1
  · rintro (q|q)
    · rcases RD x k with e|e|e
      · exact absurd e (h x q)
      · exact .inl ⟨q,e⟩
      · exact .inr (.inr ⟨q,e⟩)
    · exact .inr (.inl q)
theorem o6:∀(l L:List Kv),I5 L→(l.map (·.id)).Nodup→(∀x∈L,∀y∈l,x.id≠y.id)→I5 (l.foldl pJ L)∧∀x,x∈l.foldl pJ L↔x∈L∨x∈l
  | [],L,h,_,_=>⟨h,fun x=>by simp⟩
  |t::l,L,h,hn,hd=>by
    rw [List.map_cons,List.nodup_cons] at hn;have hm:=Lc (L:=L) (k:=t) (fun x hx e=>hd x hx t (List.mem_cons_self ..) e.2)
    have ih:=o6 l (pJ L t) (MS h t) hn.2 (fun x hx y hy=>by
      rcases (hm x).1 hx with q|rfl
      · exact hd x q y (List.mem_cons_of_mem _ hy)
      · exact fun e=>hn.1 (List.mem_map.2 ⟨y,hy,e.symm⟩))
    refine ⟨ih.1,fun x=>?_⟩;rw [List.foldl_cons,ih.2 x,hm x,List.mem_cons]
    constructor
    · rintro ((q|q)|q)
      · exact .inl q
      · exact .inr (.inl q)
      · exact .inr (.inr q)
    · rintro (q|q|q)
      · exact .inl (.inl q)
      · exact .inl (.inr q)
      · exact .inr q
theorem qU {l:List Kv} {p:Kv→Bool} (h:(l.map (·.id)).Nodup):((l.filter p).map (·.id)).Nodup:=List.Sublist.nodup (List.Sublist.map _ List.filter_sublist) h
theorem Po {x:Qm} (h:(x.l.map (·.id)).Nodup):I5 (eD x):=(o6 _ [] List.Pairwise.nil (qU h) (fun x hx=>by cases hx)).1
theorem zU {x:Qm} (h:(x.l.map (·.id)).Nodup) (t:Kv):t∈eD x↔t∈x.l∧t.id≠x.cur:=by
  unfold eD w9
  rw [(o6 _ [] List.Pairwise.nil (qU h) (fun x hx=>by cases hx)).2 t];simp
theorem Gj {x:Qm} (h:(x.l.map (·.id)).Nodup):(eD x).length≤x.l.length:=by
  have:∀(l L:List Kv),(l.foldl pJ L).length≤L.length+l.length:=by
    intro l
    induction l with
    |nil=>intro L;simp
    |cons t l ih=>
      intro L;rw [List.foldl_cons,List.length_cons];refine Nat.le_trans (ih _) ?_
      have:(pJ L t).length≤L.length+1:=by
        unfold pJ
        rw [List.length_append,List.length_cons]
        have:∀(L:List Kv),(L.filter (fun x=>decide (pM x t))).length+(L.filter (fun x=>decide (pM t x))).length≤L.length:=by
          intro L
          induction L with
          |nil=>simp
          |cons y L ih2=>
            by_cases h1:pM y t
            · rw [List.filter_cons_of_pos (by simpa using h1),List.filter_cons_of_neg (by simpa using h1.U4)];simp only [List.length_cons];omega
            · rw [List.filter_cons_of_neg (by simpa using h1)]
              by_cases h2:pM t y
              · rw [List.filter_cons_of_pos (by simpa using h2)];simp only [List.length_cons];omega
              · rw [List.filter_cons_of_neg (by simpa using h2)];simp only [List.length_cons];omega
        have:=this L;omega
      omega
  have h1:=this (x.l.filter (fun t=>decide (t.id≠x.cur))) [];have h2:(x.l.filter (fun t=>decide (t.id≠x.cur))).length≤x.l.length:=List.length_filter_le ..
  unfold eD w9
  simp at h1 ⊢;simp at h2;omega
/-! what is done -/
def vA (g:Int):Qm:=⟨aF g 1 8,0#64,[],-1,0⟩
def rO (x:Qm) (a:Int) (v:BitVec 64) (w:Int):Qm:= {x with l:=x.l++ [⟨tc x v (aF w 1 4096),a,aF w 1 4096⟩] }
def nL (x:Qm) (a:Int):Int:=if a<0 then 1 else if ej x.l a<x.l.length then 12 else if 16≤x.l.length then 3 else 0
def iN (x:Qm) (a:Int):Qm:=if x.cur=a then {x with l:=x.l.eraseIdx (ej x.l a),cur:= -1,c4:=0} else {x with l:=x.l.eraseIdx (ej x.l a)}
def ns (x:Qm) (a:Int):Qm:= {x with cur:=a,c4:=0}
def gg (x:Qm):Int:=if 0≤x.cur then-1 else match eD x with| [] => -1|t::_=>t.id
def rS (x:Qm):Qm:=if gg x<0 then x else ns x (gg x)
def HL (x:Qm):Bool:=if 0≤x.cur∧x.g≤x.c4 then (match eD x with| [] =>false|t::_=>decide (t.V.toNat<(x.l.getD (ej x.l x.cur) default).V.toNat)) else false
def fJ (x:Qm):Qm:= {x with cur:= -1,c4:=0}
def Gk (l:List Kv) (a:Int):List Kv:=l.set (ej l a) {l.getD (ej l a) default with V:=pN (l.getD (ej l a) default).V (BR (l.getD (ej l a) default).x)}
def fF (x:Qm):Qm:=if 0≤x.cur then {x with l:=Gk x.l x.cur,c4:=x.c4+1} else x
def ij (x:Qm) (a w:Int):Qm:=
  { x with c4 := if (x.l.getD (ej x.l a) default).x ≠ aF w 1 4096 ∧ x.cur = a then x.g else x.c4
           l:=x.l.set (ej x.l a) ⟨tc x (x.l.getD (ej x.l a) default).V (aF w 1 4096),a,aF w 1 4096⟩}
def oo:List Kv→BitVec 64
  | [] =>0#64
  |t::l=>l.foldl (fun m s=>if s.V.toNat<m.toNat then s.V else m) t.V
def fq (x:Qm):Qm:=match x.l with| [] =>x|_::_=>if x.fl.toNat<(oo x.l).toNat then {x with fl:=oo x.l} else x
/-! they keep a queue whole -/
theorem Dt {l:List Kv} {a:Int} (hn:(l.map (·.id)).Nodup) (h:ej l a<l.length) {y:Kv} (hy:y.id=a) (t:Kv):t∈l.set (ej l a) y↔t=y∨(t∈l∧t.id≠a):=by
  induction l with
  |nil=>simp at h
  |cons s l ih=>
    rw [List.map_cons,List.nodup_cons] at hn;rw [oU] at h ⊢
    by_cases e:s.id=a
    · rw [if_pos e,List.set_cons_zero,List.mem_cons,List.mem_cons]
      constructor
      · rintro (q|q)
        · exact .inl q
        · exact .inr ⟨.inr q,fun e2=>hn.1 (List.mem_map.2 ⟨t,q,e2.trans e.symm⟩)⟩
      · rintro (q|⟨q|q,e2⟩)
        · exact .inl q
        · rw [q] at e2;exact absurd e e2
        · exact .inr q
    · rw [if_neg e,List.length_cons] at h
      rw [if_neg e,List.set_cons_succ,List.mem_cons,ih hn.2 om,List.mem_cons]
      constructor
      · rintro (q|q|q)
        · rw [q];exact .inr ⟨.inl rfl,e⟩
        · exact .inl q
        · exact .inr ⟨.inr q.1,q.2⟩
      · rintro (q|⟨q|q,e2⟩)
        · exact .inr (.inl q)
        · exact .inl q
        · exact .inr (.inr ⟨q,e2⟩)
theorem lN {l:List Kv} {a:Int} (hn:(l.map (·.id)).Nodup) (h:ej l a<l.length) (t:Kv):t∈l.eraseIdx (ej l a)↔t∈l∧t.id≠a:=by
  induction l with
  |nil=>simp at h
  |cons s l ih=>
    rw [List.map_cons,List.nodup_cons] at hn;rw [oU] at h ⊢
    by_cases e:s.id=a
    · rw [if_pos e,List.eraseIdx_cons_zero,List.mem_cons]
      constructor
      · intro q;exact⟨.inr q,fun e2=>hn.1 (List.mem_map.2 ⟨t,q,e2.trans e.symm⟩)⟩
      · rintro ⟨q|q,e2⟩
        · rw [q] at e2;exact absurd e e2
        · exact q
    · rw [if_neg e,List.length_cons] at h
      rw [if_neg e,List.eraseIdx_cons_succ,List.mem_cons,ih hn.2 om,List.mem_cons]
      constructor
      · rintro (q|q)
        · rw [q];exact⟨.inl rfl,e⟩
        · exact⟨.inr q.1,q.2⟩
      · rintro ⟨q|q,e2⟩
        · exact .inl q
        · exact .inr ⟨q,e2⟩
theorem iu {l:List Kv} {a:Int} (h:ej l a<l.length) {y:Kv} (hy:y.id=a):(l.set (ej l a) y).map (·.id)=l.map (·.id):=by
  rw [List.map_set]
  apply List.ext_getElem?
  intro i;rw [List.getElem?_set]
  split
  · rename_i e;subst e
    have:=(ju h).1;rw [List.getD_eq_getElem?_getD,List.getElem?_eq_getElem h] at this;rw [if_pos (by simpa using h),List.getElem?_map,List.getElem?_eq_getElem h,Option.map_some,hy];exact congrArg _ this.symm
  · rfl
theorem tG {l:List Kv} {i:Nat} (h:(l.map (·.id)).Nodup):((l.eraseIdx i).map (·.id)).Nodup:=List.Sublist.nodup (List.Sublist.map _ (List.eraseIdx_sublist ..)) h
theorem mT.ix {x:Qm} (h:mT x) (hc:0≤x.cur):ej x.l x.cur<x.l.length:=by
  rcases h.cur with e|e
  · omega
  · exact iT.2 e
theorem mT.Om {x:Qm} (h:mT x) (hc:¬0≤x.cur):x.cur= -1:=by
  rcases h.cur with e|⟨t,ht,e⟩
  · exact e
  · have:=h.pos t ht;omega
theorem JG (g:Int):mT (vA g):=⟨List.nodup_nil,fun t h=>(nomatch h),Nat.zero_le _,fun t h=>(nomatch h),.inl rfl,ek (by decide),Int.le_refl _⟩
theorem Lp {x:Qm} (h:mT x) {a w:Int} {v:BitVec 64} (ha:nL x a=0):mT (rO x a v w):=by
  unfold nL at ha
  split at ha; · cases ha
  rename_i ha0
  split at ha; · cases ha
  rename_i ha1
  split at ha; · cases ha
  rename_i ha2
  refine ⟨?_,fun t ht=>?_,?_,fun t ht=>?_,?_,h.g,h.c4⟩
  · show ((x.l++ [_]).map _).Nodup
    rw [List.map_append,List.nodup_append];refine ⟨h.nd,by simp,fun b hb c hc e=>?_⟩;obtain ⟨t,ht,rfl⟩:=List.mem_map.1 hb;simp at hc;exact ha1 (iT.2 ⟨t,ht,e.trans hc⟩)
  · rcases List.mem_append.1 ht with q|q
    · exact h.pos t q
    · simp at q;subst q;show 0≤a;omega
  · show (x.l++ [_]).length≤16
    rw [List.length_append];simp;omega
  · rcases List.mem_append.1 ht with q|q
    · exact h.wt t q
    · simp at q;subst q;exact ek (by decide)
  · rcases h.cur with e|⟨t,ht,e⟩
    · exact .inl e
    · exact .inr ⟨t,List.mem_append_left _ ht,e⟩
theorem MK {x:Qm} (h:mT x) {a:Int} (ha:ej x.l a<x.l.length):mT (iN x a):=by
  have hm:=lN h.nd ha;have hl:(x.l.eraseIdx (ej x.l a)).length≤16:=Nat.le_trans (List.Sublist.length_le (List.eraseIdx_sublist ..)) h.len
  unfold iN
  split
  · exact⟨tG h.nd,fun t ht=>h.pos t ((hm t).1 ht).1,hl,fun t ht=>h.wt t ((hm t).1 ht).1,.inl rfl,h.g,Int.le_refl _⟩
  · rename_i hc
    refine ⟨tG h.nd,fun t ht=>h.pos t ((hm t).1 ht).1,hl,fun t ht=>h.wt t ((hm t).1 ht).1,?_,h.g,h.c4⟩;rcases h.cur with e|⟨t,ht,e⟩
    · exact .inl e
    · exact .inr ⟨t,(hm t).2 ⟨ht,fun q=>hc (e.symm.trans q)⟩,e⟩
theorem FC {x:Qm} (h:mT x):mT (fJ x):=⟨h.nd,h.pos,h.len,h.wt,.inl rfl,h.g,Int.le_refl _⟩
theorem Fm {x:Qm} (h:mT x) {t:Kv} (ht:t∈x.l):mT (ns x t.id):=⟨h.nd,h.pos,h.len,h.wt,.inr ⟨t,ht,rfl⟩,h.g,Int.le_refl _⟩
theorem jJ {x:Qm} (h:mT x) {t:Kv} {l:List Kv} (e:eD x=t::l):t∈x.l∧t.id≠x.cur:=(zU h.nd t).1 (by rw [e];exact List.mem_cons_self ..)
theorem sW {x:Qm} (h:mT x) (hc:x.cur= -1) {t:Kv} {l:List Kv} (e:eD x=t::l):gg x=t.id∧rS x=ns x t.id:=by
  have h1:gg x=t.id:=by unfold gg;rw [if_neg om,e]
  have h2:=h.pos t (jJ h e).1;exact⟨h1,by unfold rS;rw [h1,if_neg om]⟩
theorem rN {x:Qm} (hc:0≤x.cur∨eD x=[]):gg x= -1∧rS x=x:=by
  have h1:gg x= -1:=by
    unfold gg
    rcases hc with h|h
    · rw [if_pos h]
    · rw [h];split<;>rfl
  exact⟨h1,by unfold rS;rw [h1,if_pos (by decide)]⟩
theorem To {x:Qm} (h:mT x):mT (rS x):=by
  by_cases hc:0≤x.cur
  · rw [(rN (.inl hc)).2];exact h
  · cases e:eD x with
    |nil=>rw [(rN (.inr e)).2];exact h
    |cons t l=>rw [(sW h (h.Om hc) e).2];exact Fm h (jJ h e).1
theorem LB {x:Qm} (h:mT x) {a:Int} (ha:ej x.l a<x.l.length) {y:Kv} (hy:y.id=a) (hw:1≤y.x∧y.x≤4096) {r:Int} (hr:0≤r):mT {x with l:=x.l.set (ej x.l a) y,c4:=r} :=by
  obtain ⟨h1,h2⟩:=ju ha;have hm:=Dt h.nd ha hy;refine ⟨by show ((x.l.set _ y).map _).Nodup;rw [iu ha hy];exact h.nd,fun t ht=>?_,by show (x.l.set _ y).length≤16;rw [List.length_set];exact h.len,fun t ht=>?_,?_,h.g,hr⟩
  · rcases (hm t).1 ht with rfl|q
    · rw [hy,←h1];exact h.pos _ h2
    · exact h.pos t q.1
  · rcases (hm t).1 ht with rfl|q
    · exact hw
    · exact h.wt t q.1
  · rcases h.cur with e|⟨t,ht,e⟩
    · exact .inl e
    · by_cases q:t.id=a
      · exact .inr ⟨y,(hm y).2 (.inl rfl),by rw [hy,←q];exact e⟩
      · exact .inr ⟨t,(hm t).2 (.inr ⟨ht,q⟩),e⟩
theorem FX {x:Qm} (h:mT x):mT (fF x):=by
  unfold fF
  split
  · rename_i hc
    obtain ⟨h1,h2⟩:=ju (h.ix hc);exact LB (y:= {x.l.getD (ej x.l x.cur) default with V:=pN (x.l.getD (ej x.l x.cur) default).V (BR (x.l.getD (ej x.l x.cur) default).x)}) (r:=x.c4+1) h (h.ix hc) h1 (h.wt (x.l.getD (ej x.l x.cur) default) h2) (by have:=h.c4;omega)
  · exact h
theorem Bm {x:Qm} (h:mT x) {a w:Int} (ha:ej x.l a<x.l.length):mT (ij x a w):=
  LB h ha rfl (ek (by decide)) (by have:=h.c4;have:=h.g;split<;>omega)
theorem eL (x:Qm):(fq x).l=x.l∧(fq x).cur=x.cur∧(fq x).c4=x.c4∧(fq x).g=x.g:=by
  unfold fq
  split
  · exact⟨rfl,rfl,rfl,rfl⟩
  · split<;>exact⟨rfl,rfl,rfl,rfl⟩
theorem uI {x:Qm} (h:mT x):mT (fq x):=by
  obtain ⟨h1,h2,h3,h4⟩:=eL x;exact⟨by rw [h1];exact h.nd,by rw [h1];exact h.pos,by rw [h1];exact h.len,by rw [h1];exact h.wt,by rw [h1,h2];exact h.cur,by rw [h4];exact h.g,by rw [h3];exact h.c4⟩
/-! the least V -/
theorem yk:∀(l:List Kv) (m:BitVec 64),(l.foldl (fun m s=>if s.V.toNat<m.toNat then s.V else m) m=m∨∃t∈l,t.V=l.foldl (fun m s=>if s.V.toNat<m.toNat then s.V else m) m)∧(l.foldl (fun m s=>if s.V.toNat<m.toNat then s.V else m) m).toNat≤m.toNat∧∀t∈l,(l.foldl (fun m s=>if s.V.toNat<m.toNat then s.V else m) m).toNat≤t.V.toNat
  | [],m=>⟨.inl rfl,Nat.le_refl _,fun t h=>by cases h⟩
  |s::l,m=>by
    rw [List.foldl_cons];obtain ⟨h1,h2,h3⟩:=yk l (if s.V.toNat<m.toNat then s.V else m);have h4:(if s.V.toNat<m.toNat then s.V else m).toNat≤m.toNat∧(if s.V.toNat<m.toNat then s.V else m).toNat≤s.V.toNat:=by split<;>omega
    refine ⟨?_,by omega,fun t ht=>?_⟩
    · rcases h1 with q|⟨t,ht,q⟩
      · by_cases e:s.V.toNat<m.toNat
        · rw [if_pos e] at q ⊢;exact .inr ⟨s,List.mem_cons_self ..,q.symm⟩
        · rw [if_neg e] at q ⊢;exact .inl q
      · exact .inr ⟨t,List.mem_cons_of_mem _ ht,q⟩
    · rcases List.mem_cons.1 ht with rfl|ht
      · omega
      · exact h3 t ht
theorem G7 {l:List Kv} (h:l≠ []):(∃t∈l,t.V=oo l)∧∀t∈l,(oo l).toNat≤t.V.toNat:=by
  cases l with
  |nil=>exact absurd rfl h
  |cons s l=>
    obtain ⟨h1,h2,h3⟩:=yk l s.V;refine ⟨?_,fun t ht=>?_⟩
    · rcases h1 with q|⟨t,ht,q⟩
      · exact⟨s,List.mem_cons_self ..,q.symm⟩
      · exact⟨t,List.mem_cons_of_mem _ ht,q⟩
    · rcases List.mem_cons.1 ht with rfl|ht
      · exact h2
      · exact h3 t ht
theorem Oc {l:List Kv} {v:BitVec 64} (h:∃t∈l,t.V=v) (h2:∀t∈l,v.toNat≤t.V.toNat):oo l=v:=by
  obtain ⟨t,ht,rfl⟩:=h;have fi:l≠ [] :=fun e=>by rw [e] at ht;cases ht
  obtain ⟨⟨s,hs,e⟩,h3⟩:=G7 fi;have h4:=h3 t ht;have h5:=h2 s hs;rw [e] at h5;exact BitVec.eq_of_toNat_eq om
theorem Ut {t:Kv} {l:List Kv} (h:I5 (t::l)):∀s∈t::l,t.V.toNat≤s.V.toNat:=fun s hs=>by
  rcases List.mem_cons.1 hs with rfl|hs
  · exact Nat.le_refl _
  · rcases (List.pairwise_cons.1 h).1 s hs with q|q
    · omega
    · rw [q.1];exact Nat.le_refl _
theorem Jh {x:Qm} (h:mT x) (hc:¬0≤x.cur):(eD x=[]→x.l=[])∧∀t l,eD x=t::l→x.l≠ []∧oo x.l=t.V:=by
  have h0:=h.Om hc;have uy:∀t∈x.l,t∈eD x:=fun t ht=>(zU h.nd t).2 ⟨ht,by have:=h.pos t ht;omega⟩;refine ⟨fun e=>?_,fun t l e=>?_⟩
  · cases q:x.l with
    |nil=>rfl
    |cons s m=>have:=uy s (by rw [q];exact List.mem_cons_self ..);rw [e] at this;cases this
  · have ht:=(jJ h e).1
    refine ⟨fun q=>(by rw [q] at ht;cases ht),Oc ⟨t,ht,rfl⟩ (fun s hs=>Ut (l:=l) (by rw [←e];exact Po h.nd) s (by rw [←e];exact uy s hs))⟩
/-! weights -/
theorem BU (l m:List Kv):ez (l++m)=ez l+ez m:=by unfold ez;rw [List.map_append,List.sum_append]
theorem yW:∀{l:List Kv},(∀t∈l,1≤t.x∧t.x≤4096)→0≤ez l∧ez l≤4096*l.length
  | [],_=>by simp [ez]
  |t::l,h=>by
    have h1:=h t (List.mem_cons_self ..);have h2:=yW (l:=l) (fun s hs=>h s (List.mem_cons_of_mem _ hs));simp only [ez,List.map_cons,List.sum_cons,List.length_cons] at h2 ⊢;omega
theorem mT.load {x:Qm} (h:mT x):0≤ez x.l∧ez x.l≤65536:=by
  have:=yW h.wt;have:=h.len;omega
abbrev gQ (l:List Kv) (a:Int):Kv:=l.getD (ej l a) default
theorem PA {l:List Kv} {a:Int} (h:¬ej l a<l.length):gQ l a=default:=by
  unfold gQ;rw [List.getD_eq_getElem?_getD,List.getElem?_eq_none om];rfl
theorem GB {x:Qm} (h:¬(0≤x.cur∧x.g≤x.c4)):HL x=false:=if_neg h
theorem Me {x:Qm} (h:0≤x.cur∧x.g≤x.c4):HL x=(match eD x with| [] =>false|t::_=>decide (t.V.toNat<(gQ x.l x.cur).V.toNat)):=if_pos h
theorem o1 {α:Type} {l:List α} (h:l≠ []):∃a t,l=a::t:=by cases l with|nil=>exact absurd rfl h|cons a t=>exact⟨a,t,rfl⟩
def Nb (x:Qm) (a:Int) (v:BitVec 64) (w:Int):BitVec 64:=if nL x a=0 then tc x v (aF w 1 4096) else 0#64
def Kj (x:Qm) (a:Int) (v:BitVec 64) (w:Int):Qm:=if nL x a=0 then rO x a v w else x
def Il (x:Qm) (a:Int):Qm:=if ej x.l a<x.l.length then iN x a else x
def mR (x:Qm) (a w:Int):Qm:=if ej x.l a<x.l.length then ij x a w else x
theorem ML {x:Qm} {a:Int} (h:a<0):nL x a=1:=if_pos h
theorem KO {x:Qm} {a:Int} (h:¬a<0) (h2:ej x.l a<x.l.length):nL x a=12:=by unfold nL;rw [if_neg h,if_pos h2]
theorem H6 {x:Qm} {a:Int} (h:¬a<0) (h2:¬ej x.l a<x.l.length) (h3:16≤x.l.length):nL x a=3:=by unfold nL;rw [if_neg h,if_neg h2,if_pos h3]
theorem FB {x:Qm} {a:Int} (h:¬a<0) (h2:¬ej x.l a<x.l.length) (h3:¬16≤x.l.length):nL x a=0:=by unfold nL;rw [if_neg h,if_neg h2,if_neg h3]
theorem As {x:Qm} {a:Int} {v:BitVec 64} {w:Int} (h:nL x a≠0):Nb x a v w=0#64:=if_neg h
theorem y8 {x:Qm} {a:Int} {v:BitVec 64} {w:Int} (h:nL x a≠0):Kj x a v w=x:=if_neg h
theorem HU {x:Qm} (h:x.l=[]):fq x=x:=by unfold fq;rw [h]
theorem yn {x:Qm} (h:x.l≠ []):fq x= {x with fl:=if x.fl.toNat<(oo x.l).toNat then oo x.l else x.fl} :=by
  have h2:fq x=if x.fl.toNat<(oo x.l).toNat then {x with fl:=oo x.l} else x:=by
    unfold fq;split
    · exact absurd aB h
    · rfl
  rw [h2]
  by_cases q:x.fl.toNat<(oo x.l).toNat
  · rw [if_pos q,if_pos q]
  · rw [if_neg q,if_neg q]
instance:Inhabited Qm:=⟨vA 0⟩
abbrev cA (x:Qm) (a:Int):Prop:=ej x.l a<x.l.length
abbrev qg {α:Type} [Inhabited α] (qs:List α) (i:Nat):α:=qs.getD i default
def bS (qs:List Qm) (a:Int):Nat:=qs.findIdx (fun x=>decide (cA x a))
def Pm (qs:List Qm) (a:Int):Int:=if bS qs a<qs.length then (bS qs a:Nat) else-1
def eZ (qs:List Qm):Nat:=(qs.map (fun x=>x.l.length)).sum
structure su (qs:List Qm):Prop where
  len:1≤qs.length∧qs.length≤4
  wf:∀i,i<qs.length→mT (qg qs i)
  one:∀i j a,i<qs.length→j<qs.length→cA (qg qs i) a→cA (qg qs j) a→i=j
  all:eZ qs≤16
theorem F2 {α:Type} [Inhabited α] {qs:List α} {i:Nat} (h:i<qs.length):qg qs i=qs[i] :=by unfold qg;rw [List.getD_eq_getElem?_getD,List.getElem?_eq_getElem h];rfl
theorem bN {α:Type} [Inhabited α] {qs:List α} {i:Nat} (h:i<qs.length) (x:α) (j:Nat):qg (qs.set i x) j=if i=j then x else qg qs j:=by
  unfold qg
  rw [List.getD_eq_getElem?_getD,List.getD_eq_getElem?_getD,List.getElem?_set]
  by_cases e:i=j
  · subst e;rw [if_pos rfl,if_pos rfl,if_pos h];rfl
  · rw [if_neg e,if_neg e]
theorem OY {α:Type} [Inhabited α] (qs:List α) (x:α) (j:Nat) (h:j≤qs.length):qg (qs++ [x]) j=if j=qs.length then x else qg qs j:=by
  unfold qg
  rw [List.getD_eq_getElem?_getD,List.getD_eq_getElem?_getD]
  by_cases e:j=qs.length
  · subst e;rw [if_pos rfl];simp
  · rw [if_neg e,List.getElem?_append_left om]
theorem dz {qs:List Qm} {a:Int} (h:bS qs a<qs.length):cA (qg qs (bS qs a)) a:=by
  have:=List.findIdx_getElem (xs:=qs) (p:=fun x=>decide (cA x a)) (w:=h);simp only [decide_eq_true_eq] at this;rw [F2 h];exact this
theorem vH {qs:List Qm} {a:Int} (h:¬bS qs a<qs.length) {i:Nat} (hi:i<qs.length):¬cA (qg qs i) a:=fun q=>by
  rw [F2 hi] at q;exact h (List.findIdx_lt_length_of_exists ⟨qs[i],List.getElem_mem hi,by simpa using q⟩)
theorem aaq {qs:List Qm} {a:Int} {i:Nat} (hi:i<qs.length) (hk:cA (qg qs i) a) (hu:∀j,j<qs.length→cA (qg qs j) a→j=i):bS qs a=i:=by
  have h1:bS qs a<qs.length:=Classical.byContradiction fun q=>vH q hi hk;exact hu _ h1 (dz h1)
theorem F9 {qs:List Qm} {a:Int} (h:∀j,j<qs.length→¬cA (qg qs j) a):¬bS qs a<qs.length:=fun q=>h _ q (dz q)
theorem su.at {qs:List Qm} (h:su qs) {a:Int} {i:Nat} (hi:i<qs.length) (hk:cA (qg qs i) a):bS qs a=i:=aaq hi hk (fun j hj hkj=>h.one j i a hj hi hkj hk)
theorem rI {qs:List Qm} {a:Int} (h:bS qs a<qs.length):Pm qs a=(bS qs a:Nat):=if_pos h
theorem Sz {qs:List Qm} {a:Int} (h:¬bS qs a<qs.length):Pm qs a= -1:=if_neg h
theorem su.pos {qs:List Qm} (h:su qs) {a:Int} (ha:bS qs a<qs.length):0≤a:=by
  obtain ⟨t,ht,e⟩:=iT.1 (dz ha);have:=(h.wf _ ha).pos t ht;omega
/-! ### what a queue has -/
theorem eE {x:Qm} {a:Int} (h:cA x a):gQ x.l a∈x.l∧(gQ x.l a).id=a:=⟨(ju h).2,(ju h).1⟩
theorem has_add {x:Qm} {a w:Int} {v:BitVec 64} {b:Int} :cA (rO x a v w) b↔cA x b∨b=a:=by
  unfold cA;rw [iT,iT]
  show (∃t∈x.l++ [(⟨_,a,_⟩:Kv)],t.id=b)↔_
  simp only [List.mem_append,List.mem_singleton]
  constructor
  · rintro ⟨t,ht|rfl,e⟩
    · exact .inl ⟨t,ht,e⟩
    · exact .inr e.symm
  · rintro (⟨t,ht,e⟩|rfl)
    · exact⟨t,.inl ht,e⟩
    · exact⟨_,.inr rfl,rfl⟩
theorem Rz (x:Qm) (a:Int):(iN x a).l=x.l.eraseIdx (ej x.l a):=by unfold iN;split<;>rfl
theorem pe {x:Qm} (h:mT x) {a b:Int} (ha:cA x a):cA (iN x a) b↔cA x b∧b≠a:=by
  unfold cA;rw [iT,iT,Rz]
  constructor
  · rintro ⟨t,ht,rfl⟩
    have:=(lN h.nd ha t).1 ht;exact⟨⟨t,this.1,rfl⟩,this.2⟩
  · rintro ⟨⟨t,ht,rfl⟩,fi⟩
    exact⟨t,(lN h.nd ha t).2 ⟨ht,fi⟩,rfl⟩
theorem Qc (x:Qm) (a:Int) (v:BitVec 64) (w:Int):(rO x a v w).l.length=x.l.length+1:=by simp [rO]
theorem Fv {x:Qm} {a:Int} (ha:cA x a):(iN x a).l.length+1=x.l.length:=by
  rw [Rz,List.length_eraseIdx,if_pos ha];have:=ha;unfold cA at this;omega
/-! ### how many there are -/
theorem zL:∀{qs:List Qm} {i:Nat} (h:i<qs.length) (x:Qm),eZ (qs.set i x)+(qg qs i).l.length=eZ qs+x.l.length
  | [],i,h,x=>by cases h
  |q::qs,0,h,x=>by show (x.l.length+eZ qs)+q.l.length=(q.l.length+eZ qs)+x.l.length;omega
  |q::qs,i+1,h,x=>by
    have:=zL (qs:=qs) (Nat.lt_of_succ_lt_succ h) x
    show (q.l.length+eZ (qs.set i x))+(qg qs i).l.length=(q.l.length+eZ qs)+x.l.length
    omega
theorem DL:∀{qs:List Qm} {i:Nat} (h:i<qs.length),(qg qs i).l.length≤eZ qs
  | [],i,h=>by cases h
  |q::qs,0,h=>by show q.l.length≤q.l.length+eZ qs;omega
  |q::qs,i+1,h=>by
    have:=DL (qs:=qs) (Nat.lt_of_succ_lt_succ h)
    show (qg qs i).l.length≤q.l.length+eZ qs
    omega
/-! ### what the two maps have -/
theorem su.set {qs:List Qm} (h:su qs) {i:Nat} (hi:i<qs.length) {x':Qm} (hx:mT x') (hk:∀j b,j<qs.length→j≠i→cA x' b→¬cA (qg qs j) b) (hl:eZ qs+x'.l.length≤16+(qg qs i).l.length):su (qs.set i x'):=by
  refine ⟨by rw [List.length_set];exact h.len,fun j hj=>?_,fun j k a hj WC h1 h2=>?_,?_⟩
  · rw [List.length_set] at hj
    rw [bN hi];split
    · exact hx
    · exact h.wf j hj
  · rw [List.length_set] at hj WC
    rw [bN hi] at h1 h2
    by_cases e1:i=j
    · by_cases e2:i=k
      · omega
      · rw [if_pos e1] at h1;rw [if_neg e2] at h2
        exact absurd h2 (hk k a WC (fun q=>e2 q.symm) h1)
    · rw [if_neg e1] at h1
      by_cases e2:i=k
      · rw [if_pos e2] at h2
        exact absurd h1 (hk j a hj (fun q=>e1 q.symm) h2)
      · rw [if_neg e2] at h2
        exact h.one j k a hj WC h1 h2
  · have:=zL hi x';omega
/-! ### one more -/
def iP (qs:List Qm) (core a:Int):Int:=if core<0∨(qs.length:Int)≤core∨a<0 then 1 else if bS qs a<qs.length then 12 else if 16≤eZ qs then 3 else 0
def xt (qs:List Qm) (core a:Int) (v:BitVec 64) (w:Int):BitVec 64:=if iP qs core a=0 then tc (qg qs core.toNat) v (aF w 1 4096) else 0#64
def dS (qs:List Qm) (core a:Int) (v:BitVec 64) (w:Int):List Qm:=if iP qs core a=0 then qs.set core.toNat (rO (qg qs core.toNat) a v w) else qs
theorem Fe {qs:List Qm} (h:su qs) {i:Nat} (hi:i<qs.length) {a:Int} (ha:0≤a) (hn:¬bS qs a<qs.length) (hf:eZ qs<16):nL (qg qs i) a=0:=
  FB om (vH hn hi) (by have:=DL hi;omega)
theorem yS {qs:List Qm} (h:su qs) {i:Nat} (hi:i<qs.length) {a:Int} (ha:0≤a) (hn:¬bS qs a<qs.length) (hf:eZ qs<16) (v:BitVec 64) (w:Int):su (qs.set i (rO (qg qs i) a v w)):=
  h.set hi (Lp (h.wf i hi) (Fe h hi ha hn hf)) (fun j b hj IB hb q=>by
    rcases has_add.1 hb with z|rfl
    · exact IB (h.one j i b hj hi q z)
    · exact vH hn hj q) (by rw [Qc];omega)
/-! ### one less -/
def gS (qs:List Qm) (a:Int):List Qm:=if bS qs a<qs.length then qs.set (bS qs a) (iN (qg qs (bS qs a)) a) else qs
def wY (qs:List Qm) (a:Int):BitVec 64:=if bS qs a<qs.length then (gQ (qg qs (bS qs a)).l a).V else 0#64
theorem zk {qs:List Qm} (h:su qs) {a:Int} (ha:bS qs a<qs.length):su (qs.set (bS qs a) (iN (qg qs (bS qs a)) a)):=by
  have hh:=dz ha;refine h.set ha (MK (h.wf _ ha) hh) (fun j b hj IB hb q=>IB (h.one j _ b hj ha q ((pe (h.wf _ ha) hh).1 hb).1)) ?_;have:=Fv hh;have:=h.all;omega
theorem Gc {qs:List Qm} (h:su qs) {a:Int} (ha:bS qs a<qs.length):¬bS (qs.set (bS qs a) (iN (qg qs (bS qs a)) a)) a<(qs.set (bS qs a) (iN (qg qs (bS qs a)) a)).length:=F9 (fun j hj q=>by
  rw [List.length_set] at hj;rw [bN ha] at q
  by_cases e:bS qs a=j
  · rw [if_pos e] at q;exact((pe (h.wf _ ha) (dz ha)).1 q).2 rfl
  · rw [if_neg e] at q;exact e (h.at hj q))
theorem Mm {qs:List Qm} {a:Int} (ha:bS qs a<qs.length):eZ (qs.set (bS qs a) (iN (qg qs (bS qs a)) a))+1=eZ qs:=by
  have h1:=zL ha (iN (qg qs (bS qs a)) a);have h2:=Fv (dz ha);omega
/-! ### another weight -/
def ks (qs:List Qm) (a w:Int):List Qm:=if bS qs a<qs.length then qs.set (bS qs a) (mR (qg qs (bS qs a)) a w) else qs
/-! ### to another core -/
def adn (a b:BitVec 64):BitVec 64:=if a.toNat<b.toNat then 0#64 else a-b
def eV (qs:List Qm) (a:Int):List Qm:=qs.set (bS qs a) (iN (qg qs (bS qs a)) a)
def Hx (qs:List Qm) (a:Int) (to:Nat):BitVec 64:=pN (qg qs to).fl (adn (gQ (qg qs (bS qs a)).l a).V (qg qs (bS qs a)).fl)
def gH (qs:List Qm) (a:Int) (to:Nat):List Qm:=(eV qs a).set to (rO (qg qs to) a (Hx qs a to) (gQ (qg qs (bS qs a)).l a).x)
theorem At {qs:List Qm} (_:su qs) {a:Int} (ha:bS qs a<qs.length) {to:Nat} (_:to<qs.length) (fi:to≠bS qs a):qg (eV qs a) to=qg qs to:=by unfold eV;rw [bN ha,if_neg (fun q=>fi q.symm)]
theorem zx {qs:List Qm} (h:su qs) {a:Int} (ha:bS qs a<qs.length) {to:Nat} (ht:to<qs.length) (_:to≠bS qs a):su (eV qs a)∧to<(eV qs a).length∧0≤a∧¬bS (eV qs a) a<(eV qs a).length∧eZ (eV qs a)<16:=
  ⟨zk h ha,by unfold eV;rw [List.length_set];exact ht,h.pos ha,Gc h ha,by have h1:=Mm ha;have h2:=h.all;unfold eV;omega⟩
section
variable {qs:List Qm} (h:su qs) {a:Int} (ha:bS qs a<qs.length) {to:Nat} (ht:to<qs.length) (fi:to≠bS qs a)
include h ha ht fi
theorem wW:gH qs a to=(eV qs a).set to (rO (qg (eV qs a) to) a (Hx qs a to) (gQ (qg qs (bS qs a)).l a).x):=by rw [At h ha ht fi];rfl
theorem S6:su (gH qs a to):=by
  obtain ⟨h1,h2,h3,h4,h5⟩:=zx h ha ht fi;rw [wW h ha ht fi];exact yS h1 h2 h3 h4 h5 _ _
theorem aaA:nL (qg qs to) a=0:=by
  obtain ⟨h1,h2,h3,h4,h5⟩:=zx h ha ht fi;rw [←At h ha ht fi];exact Fe h1 h2 h3 h4 h5
end
/-! ### the heaviest and the lightest -/
abbrev NI (qs:List Qm) (i:Nat):Int:=ez (qg qs i).l
def jc (qs:List Qm):Nat→Nat
  |0=>0
  |i+1=>if NI qs (jc qs i)<NI qs i then i else jc qs i
def fD (qs:List Qm):Nat→Nat
  |0=>0
  |i+1=>if NI qs i<NI qs (fD qs i) then i else fD qs i
theorem u5 {qs:List Qm} (h:1≤qs.length):∀i,i≤qs.length→jc qs i<qs.length
  |0,_=>h
  |i+1,hi=>by have:=u5 h i om;unfold jc;split<;>omega
theorem rm {qs:List Qm} (h:1≤qs.length):∀i,i≤qs.length→fD qs i<qs.length
  |0,_=>h
  |i+1,hi=>by have:=rm h i om;unfold fD;split<;>omega
abbrev mo (qs:List Qm):Nat:=jc qs qs.length
abbrev le (qs:List Qm):Nat:=fD qs qs.length
def EF (qs:List Qm):Int:=NI qs (mo qs)-NI qs (le qs)
def w5 (qs:List Qm):Option Kv:=(eD (qg qs (mo qs))).find? (fun t=>decide (t.x<EF qs))
def jY (qs:List Qm):List Qm:=match w5 qs with|none=>qs|some t=>gH qs t.id (le qs)
def ja (qs:List Qm):Int:=match w5 qs with|none=> -1|some t=>t.id
def Mu (qs:List Qm):Int:=match w5 qs with|none=> -1|some _=>(mo qs:Nat)
def uw (qs:List Qm):Int:=match w5 qs with|none=> -1|some _=>(le qs:Nat)
theorem Mf {L:List Kv} {p:Kv→Bool} :∀{k:Nat},(∀j,j<k→p (L.getD j default)=false)→k<L.length→p (L.getD k default)=true→L.find? p=some (L.getD k default):=by
  induction L with
  |nil=>intro k _ h;cases h
  |cons x L ih=>
    intro k h1 h2 h3;cases k with
    |zero=>simp only [List.getD_cons_zero] at h3 ⊢;rw [List.find?_cons,h3]
    |succ k=>
      have h0:=h1 0 om;simp only [List.getD_cons_zero] at h0;simp only [List.getD_cons_succ] at h3 ⊢;rw [List.find?_cons,h0];exact ih (fun j hj=>by have:=h1 (j+1) om;rwa [List.getD_cons_succ] at this) (by simpa using h2) h3
theorem I7 {L:List Kv} {p:Kv→Bool} (h:∀j,j<L.length→p (L.getD j default)=false):L.find? p=none:=by
  rw [List.find?_eq_none];intro x hx;obtain ⟨j,hj,rfl⟩:=List.getElem_of_mem hx;have:=h j hj;rw [List.getD_eq_getElem?_getD,List.getElem?_eq_getElem hj] at this;simpa using this
theorem lg {qs:List Qm} (h:su qs) {t:Kv} (hb:w5 qs=some t):t∈(qg qs (mo qs)).l∧t.id≠(qg qs (mo qs)).cur∧t.x<EF qs∧bS qs t.id=mo qs∧mo qs<qs.length∧le qs<qs.length∧le qs≠bS qs t.id:=by
  have hm:=u5 h.len.1 qs.length (Nat.le_refl _);have hl:=rm h.len.1 qs.length (Nat.le_refl _);have h1:=List.mem_of_find?_eq_some hb;have h2:=List.find?_some hb;simp only [decide_eq_true_eq] at h2;obtain ⟨h3,h4⟩:=(zU (h.wf _ hm).nd t).1 h1;have h5:bS qs t.id=mo qs:=h.at hm (iT.2 ⟨t,h3,rfl⟩);refine ⟨h3,h4,h2,h5,hm,hl,fun e=>?_⟩;rw [h5] at e;have h6:=((h.wf _ hm).wt t h3).1
  unfold EF at h2
  rw [e] at h2;omega
theorem yE (qs:List Qm) (i:Nat):jc qs (i+1)=if NI qs (jc qs i)<NI qs i then i else jc qs i:=rfl
theorem wN (qs:List Qm) (i:Nat):fD qs (i+1)=if NI qs i<NI qs (fD qs i) then i else fD qs i:=rfl
theorem lp (qs:List Qm):jc qs 0=0:=rfl
theorem jE (qs:List Qm):fD qs 0=0:=rfl
attribute [irreducible] jc fD
structure QKd {α:Type} (R:Nat→Nat→α→ab→Prop):Prop where
  ge:∀{n0 b x m},R n0 b x m→∀p∈m,n0≤p.1
  bE:∀{n0 b x m},R n0 b x m→∀p∈m,bE p.2=false
  mono:∀{n0 n1 b x m},R n0 b x m→n1≤n0→R n1 b x m
def km {α:Type} [Inhabited α] (R:Nat→Nat→α→ab→Prop) (n0:Nat) (bs:List Nat) (qs:List α) (mm:ab):Prop:=
  ∃M:List ab,mm=M.flatten∧bs.length=qs.length∧M.length=qs.length∧∀i,i<qs.length→R n0 (bs.getD i default) (qg qs i) (M.getD i [])
section
variable {α:Type} [Inhabited α] {R:Nat→Nat→α→ab→Prop} (hR:QKd R) {n0:Nat} {bs:List Nat} {qs:List α} {mm:ab}
theorem km.nil:km R n0 [] [] [] :=⟨[],rfl,rfl,rfl,fun i h=>by cases h⟩
theorem km.len (h:km R n0 bs qs mm):bs.length=qs.length:=by obtain ⟨M,_,h,_⟩:=h;exact h
include hR in
theorem km.ge (h:km R n0 bs qs mm):∀p∈mm,n0≤p.1:=by
  obtain ⟨M,rfl,h1,h2,h3⟩:=h;intro p hp;obtain ⟨m,hm,uE⟩:=List.mem_flatten.1 hp;obtain ⟨i,hi,rfl⟩:=List.getElem_of_mem hm;refine hR.ge (h3 i om) p ?_;rw [List.getD_eq_getElem?_getD,List.getElem?_eq_getElem hi];exact uE
include hR in
theorem km.bE (h:km R n0 bs qs mm):∀p∈mm,bE p.2=false:=by
  obtain ⟨M,rfl,h1,h2,h3⟩:=h;intro p hp;obtain ⟨m,hm,uE⟩:=List.mem_flatten.1 hp;obtain ⟨i,hi,rfl⟩:=List.getElem_of_mem hm;refine hR.bE (h3 i om) p ?_;rw [List.getD_eq_getElem?_getD,List.getElem?_eq_getElem hi];exact uE
include hR in
theorem km.mono (h:km R n0 bs qs mm) {n1:Nat} (hn:n1≤n0):km R n1 bs qs mm:=by
  obtain ⟨M,rfl,h1,h2,h3⟩:=h;exact⟨M,rfl,h1,h2,fun i hi=>hR.mono (h3 i hi) hn⟩
theorem km.snoc (h:km R n0 bs qs mm) {b:Nat} {x:α} {m:ab} (hx:R n0 b x m):km R n0 (bs++ [b]) (qs++ [x]) (mm++m):=by
  obtain ⟨M,rfl,h1,h2,h3⟩:=h;refine ⟨M++ [m],by simp,by simp [h1],by simp [h2],fun i hi=>?_⟩;rw [List.length_append,List.length_singleton] at hi;rw [OY qs x i om];rw [List.getD_eq_getElem?_getD,List.getD_eq_getElem?_getD]
  by_cases e:i=qs.length
  · rw [if_pos e,List.getElem?_append_right om,List.getElem?_append_right om,h1,h2,e];simpa using hx
  · rw [if_neg e,List.getElem?_append_left om,List.getElem?_append_left om]
    have:=h3 i om;rw [List.getD_eq_getElem?_getD,List.getD_eq_getElem?_getD] at this;exact this
theorem km.read {P:Program} {f:FuncId} {args:Array Value} {w:World} {Q:Value→World→Prop} {i:Nat} (h:km R n0 bs qs mm) (hi:i<qs.length) (hm:Mem w mm)
    (hs:∀m,R n0 (bs.getD i default) (qg qs i) m→Mem w m→aD P f args w Q):aD P f args w Q:=by
  obtain ⟨M,rfl,h1,h2,h3⟩:=h;exact hs _ (h3 i hi) (E3 om hm)
include hR in
theorem km.aaF {P:Program} {f:FuncId} {args:Array Value} {w:World} {T:Value→ab→Prop} {x':α} {i:Nat} (h:km R n0 bs qs mm) (hi:i<qs.length) (hm:Mem w mm)
    (hs:∀m,R n0 (bs.getD i default) (qg qs i) m→Mem w m→aD P f args w (ec m (fun u m'=>∃mr mx,T u mr∧m'=mr++mx∧R n0 (bs.getD i default) x' mx) w)):
    aD P f args w (ec mm (fun u m'=>∃mr mx,T u mr∧m'=mr++mx∧km R n0 bs (qs.set i x') mx) w):=by
  obtain ⟨M,rfl,h1,h2,h3⟩:=h;have VT:i<M.length:=by omega
  refine (hs _ (h3 i hi) (E3 VT hm)).mono (fun u w' hU=>?_);have gI:=fun p hp=>U9 (M:=M) (i:=i) VT (p:=p) hp;obtain ⟨m',⟨mr,mx,hu,rfl,hr⟩,T1,hM,hC,_⟩:=xm (G:=top) (S:=fun b=>∃q∈M.flatten,q.1=b) (w0:=w) (hm.perm (mJ M i VT)) (hR.bE (h3 i hi)) (fun p hp _=>⟨p,gI p hp,rfl⟩) (cM.refl _ _) trivial hU
  have uE:((mr++mx)++(M.eraseIdx i).flatten).Perm (mr++(M.set i mx).flatten):=by
    rw [List.append_assoc];exact(Kx VT mx).symm.append_left mr
  refine ⟨hC,mr++(M.set i mx).flatten,⟨mr,_,hu,rfl,M.set i mx,rfl,by rw [List.length_set];exact h1,by rw [List.length_set,List.length_set];exact h2,fun j hj=>?_⟩,hM.perm uE,fun p hp=>?_⟩
  · rw [List.length_set] at hj
    rw [bN hi,List.getD_eq_getElem?_getD (l:=M.set i mx),List.getElem?_set]
    by_cases e:i=j
    · subst e;rw [if_pos rfl,if_pos rfl,if_pos VT];exact hr
    · rw [if_neg e,if_neg e]
      have:=h3 j hj;rw [List.getD_eq_getElem?_getD (l:=M)] at this;exact this
  · rcases List.mem_append.1 (uE.mem_iff.2 hp) with q|q
    · rcases T1 p q with z|⟨q',G8,e⟩
      · exact .inl z
      · exact .inr ⟨q',gI q' G8,e⟩
    · exact .inr ⟨p,(mJ M i VT).mem_iff.2 (List.mem_append_right _ q),rfl⟩
include hR in
theorem km.Bp {P:Program} {f:FuncId} {args:Array Value} {w:World} {u0:Value} {x':α} {i:Nat} (h:km R n0 bs qs mm) (hi:i<qs.length) (hm:Mem w mm)
    (hs:∀m,R n0 (bs.getD i default) (qg qs i) m→Mem w m→aD P f args w (ec m (fun u m'=>u=u0∧R n0 (bs.getD i default) x' m') w)):
    aD P f args w (ec mm (fun u m'=>u=u0∧km R n0 bs (qs.set i x') m') w):=
  (h.aaF hR (T:=fun u mr=>u=u0∧mr=[]) hi hm (fun m hr hM=>(hs m hr hM).mono (fun u w' ⟨a,m',⟨e,r⟩,b,c⟩=>⟨a,m',⟨[],m',⟨e,rfl⟩,rfl,r⟩,b,c⟩))).mono
    (fun u w' ⟨a,m',⟨mr,mx,⟨e,e2⟩,e3,r⟩,b,c⟩=>⟨a,m',⟨e,by rw [e3,e2];exact r⟩,b,c⟩)
end
def fP (b:Nat):List Value:=[.pointer (some ⟨b,0,none⟩)]
def fG (k g:Int):List Qm:=List.replicate (aF k 1 4).toNat (vA g)
theorem s8 {n i:Nat} {x:Qm} (h:i<n):qg (List.replicate n x) i=x:=by unfold qg;rw [List.getD_eq_getElem?_getD,List.getElem?_replicate,if_pos h];rfl
theorem eN (k g:Int):(fG k g).length=(aF k 1 4).toNat:=List.length_replicate
theorem uX (g a:Int):¬cA (vA g) a:=by unfold cA vA;simp
theorem H7 (k g:Int):eZ (fG k g)=0:=by
  have:∀n,eZ (List.replicate n (vA g))=0:=fun n=>by
    induction n with
    |zero=>rfl
    |succ n ih=>show (vA g).l.length+eZ (List.replicate n (vA g))=0;rw [ih];rfl
  exact this _
theorem BW (k g:Int):su (fG k g):=by
  have hb:=ek (n:=k) (lo:=1) (hi:=4) (by decide);refine ⟨by rw [eN];omega,fun i hi=>?_,fun i j a hi hj h1 h2=>?_,by rw [H7];omega⟩
  · rw [eN] at hi;rw [fG,s8 hi];exact JG g
  · rw [eN] at hi;rw [fG,s8 hi] at h1;exact absurd h1 (uX g a)
theorem Lh (n:Nat) (x:Qm):List.replicate n x++ [x] =List.replicate (n+1) x:=(List.replicate_succ' ..).symm
theorem Rc {x:Qm} {a:Int} (hE:nL x a=0) (v:BitVec 64) (w:Int):Kj x a v w=rO x a v w∧Nb x a v w=tc x v (aF w 1 4096):=⟨if_pos hE,if_pos hE⟩
theorem Dq (qs:List Qm) (i:Nat) (x:Qm):(qs.set i x).length=qs.length:=List.length_set
def fc (qs:List Qm) (core a:Int):Int:=if¬bS qs a<qs.length then 4 else if core<0∨(qs.length:Int)≤core then 1 else if (bS qs a:Int)=core then 12 else if (qg qs (bS qs a)).cur=a then 8 else 0
def jW (qs:List Qm) (core a:Int):List Qm:=if fc qs core a=0 then gH qs a core.toNat else qs
theorem zb {qs:List Qm} {a:Int} (h:Pm qs a<0):¬bS qs a<qs.length:=fun q=>by unfold Pm at h;rw [if_pos q] at h;omega
theorem zQ {qs:List Qm} {a:Int} (h:¬Pm qs a<0):bS qs a<qs.length:=Classical.byContradiction fun q=>by unfold Pm at h;rw [if_neg q] at h;omega
theorem k7 {qs:List Qm} {core a:Int} (h:fc qs core a≠0):jW qs core a=qs:=if_neg h
theorem VE {qs:List Qm} (h:∀j,j<(eD (qg qs (mo qs))).length→¬((eD (qg qs (mo qs))).getD j default).x<EF qs):w5 qs=none:=I7 (fun j hj=>decide_eq_false (h j hj))
theorem VF {qs:List Qm} {k:Nat} (h:∀j,j<k→¬((eD (qg qs (mo qs))).getD j default).x<EF qs) (hk:k<(eD (qg qs (mo qs))).length) (h2:((eD (qg qs (mo qs))).getD k default).x<EF qs):w5 qs=some ((eD (qg qs (mo qs))).getD k default):=Mf (fun j hj=>decide_eq_false (h j hj)) hk (decide_eq_true h2)
/-! the members -/
def Zc (s:BitVec 64):List Nat:=(List.range 64).filter (fun i=>s.getLsbD i)
/-! one number -/
def nH (i:Int):BitVec 64:=if i<0∨63<i then 0#64 else 1#64<<<i.toNat
def aR (s:BitVec 64) (i:Int):Bool:=decide (0≤i)&&(decide (i<64)&&s.getLsbD i.toNat)
theorem ou (i:Int) (j:Nat):(nH i).getLsbD j=(decide ((j:Int)=i)&&decide (j<64)):=by
  unfold nH
  split
  · rename_i h
    rw [BitVec.getLsbD_zero]
    by_cases hj:(j:Int)=i
    · rw [decide_eq_false (show¬j<64 by omega)];simp
    · rw [decide_eq_false hj];rfl
  · rename_i h
    rw [BitVec.getLsbD_shiftLeft,BitVec.getLsbD_one]
    by_cases hj:(j:Int)=i
    · have:i.toNat=j:=by omega
      subst hj;simp [show j<64 by omega]
    · rw [decide_eq_false hj]
      by_cases h1:j<i.toNat
      · simp [h1]
      · have:¬j-i.toNat=0:=by omega
        simp [this]
theorem Fy (s:BitVec 64) (i:Int):decide (s&&& nH i≠0#64)=aR s i:=by
  unfold aR
  rw [Bool.eq_iff_iff];simp only [decide_eq_true_eq,Bool.and_eq_true]
  constructor
  · intro h
    have hi:0≤i∧i<64:=by
      apply Classical.byContradiction;intro hn;apply h
      have:nH i=0#64:=by unfold nH;rw [if_pos om]
      rw [this];simp
    refine ⟨hi.1,hi.2,?_⟩
    apply Classical.byContradiction;intro hb;apply h
    apply BitVec.eq_of_getLsbD_eq
    intro j hj;rw [BitVec.getLsbD_and,ou,BitVec.getLsbD_zero]
    by_cases e:(j:Int)=i
    · have:i.toNat=j:=by omega
      rw [this] at hb;simp [hb]
    · rw [decide_eq_false e];simp
  · rintro ⟨h1,h2,h3⟩ e
    have:(s&&& nH i).getLsbD i.toNat=true:=by
      rw [BitVec.getLsbD_and,h3,ou,decide_eq_true (show ((i.toNat:Nat):Int)=i by omega),decide_eq_true (show i.toNat<64 by omega)];rfl
    rw [e,BitVec.getLsbD_zero] at this;cases this
theorem fg {s:BitVec 64} {i:Nat} :aR s (i:Int)=s.getLsbD i:=by
  unfold aR
  by_cases h:i<64
  · rw [decide_eq_true (show (0:Int)≤i by omega),decide_eq_true (show (i:Int)<64 by omega),Int.toNat_natCast];rfl
  · have:=BitVec.getLsbD_of_ge s i om
    rw [decide_eq_false (show¬(i:Int)<64 by omega),this];simp
def bZ (s:BitVec 64) (i:Int):BitVec 64:=s|||nH i
def vY (s:BitVec 64) (i:Int):BitVec 64:=s&&& ~~~(nH i)
theorem iz (s:BitVec 64) (i k:Int):aR (bZ s i) k=(aR s k||(decide (k=i)&&(decide (0≤k)&&decide (k<64)))):=by
  unfold aR bZ
  rw [BitVec.getLsbD_or,ou]
  by_cases h1:0≤k<;>by_cases h2:k<64
  · have e:decide (((k.toNat:Nat):Int)=i)=decide (k=i):=decide_eq_decide.2 om
    rw [e,decide_eq_true (show k.toNat<64 by omega),decide_eq_true h1,decide_eq_true h2];cases s.getLsbD k.toNat<;>cases decide (k=i)<;>rfl
  all_goals simp [h1,h2]
theorem wC (s:BitVec 64) (i k:Int):aR (vY s i) k=(aR s k&& !(decide (k=i))):=by
  unfold aR vY
  rw [BitVec.getLsbD_and,BitVec.getLsbD_not,ou]
  by_cases h1:0≤k<;>by_cases h2:k<64
  · have e:decide (((k.toNat:Nat):Int)=i)=decide (k=i):=decide_eq_decide.2 om
    rw [e,decide_eq_true (show k.toNat<64 by omega),decide_eq_true h1,decide_eq_true h2];cases s.getLsbD k.toNat<;>cases decide (k=i)<;>rfl
  all_goals simp [h1,h2]
theorem o4 {a b:BitVec 64} (h:∀i:Nat,i<64→aR a i=aR b i):a=b:=by
  apply BitVec.eq_of_getLsbD_eq
  intro i hi;have:=h i hi;rwa [fg,fg] at this
theorem kD (a b:BitVec 64) (i:Int):aR (a|||b) i=(aR a i||aR b i):=by
  unfold aR;rw [BitVec.getLsbD_or];cases decide (0≤i)<;>cases decide (i<64)<;>simp
theorem dd (i:Int):aR 0#64 i=false:=by unfold aR;simp
theorem rH {s:BitVec 64} {i:Int} (h:i<0∨63<i):bZ s i=s:=by unfold bZ nH;rw [if_pos h];simp
theorem rr {s:BitVec 64} {i:Int} (h:aR s i=true):bZ s i=s:=by
  apply o4;intro k hk
  rw [iz]
  by_cases e:(k:Int)=i
  · rw [e,h];rfl
  · rw [decide_eq_false e];simp
theorem gA {s:BitVec 64} {i:Int} (h:aR s i=true):0≤i∧i<64:=by
  simp only [aR,Bool.and_eq_true,decide_eq_true_eq] at h;exact⟨h.1,h.2.1⟩
def aej (a b:BitVec 64):Prop:=a&&& ~~~b=0#64
instance (a b:BitVec 64):Decidable (aej a b):=inferInstanceAs (Decidable (_=_))
theorem A0 {a b:BitVec 64} :a&&& ~~~b=0#64↔∀i:Nat,i<64→aR a i=true→aR b i=true:=by
  constructor
  · intro h i hi ha
    rw [fg] at*;have h1:(a&&& ~~~b).getLsbD i=false:=by rw [h];simp
    rw [BitVec.getLsbD_and,BitVec.getLsbD_not,ha,decide_eq_true hi] at h1;simpa using h1
  · intro h
    apply BitVec.eq_of_getLsbD_eq
    intro i hi;have:=h i hi;rw [fg,fg] at this;rw [BitVec.getLsbD_and,BitVec.getLsbD_not,decide_eq_true hi,BitVec.getLsbD_zero];cases h1:a.getLsbD i
    · rfl
    · rw [this h1];rfl
/-! the document's -/
theorem NW (s:BitVec 64) (n:Nat):decide ((s >>> n) % 2#64=1#64)=s.getLsbD n:=by
  rw [Bool.eq_iff_iff,decide_eq_true_eq,BitVec.getLsbD,Nat.testBit];rw [←BitVec.toNat_inj,BitVec.toNat_umod,BitVec.toNat_ushiftRight];have h2:(2#64).toNat=2:=rfl;have h1:(1#64).toNat=1:=rfl;rw [h2,h1,Nat.one_and_eq_mod_two];have:=Nat.mod_two_eq_zero_or_one (s.toNat >>> n);rcases this with h|h<;>simp [h]
theorem u3 {s:BitVec 64} {i:Int} (h:¬(i<0∨63<i)) (hb:aR s i=false):s+1#64<<<i.toNat=bZ s i:=by
  have e:nH i=1#64<<<i.toNat:=by unfold nH;rw [if_neg h]
  unfold bZ
  rw [←e]
  apply BitVec.add_eq_or_of_and_eq_zero
  apply Classical.byContradiction;intro hn
  have:=Fy s i;rw [hb,decide_eq_false_iff_not] at this;exact this hn
structure Wt where
  who:Int
  key:Int
  til:BitVec 64
deriving DecidableEq
instance:Inhabited Wt:=⟨⟨0,0,0#64⟩⟩
def LF (L:List Wt) (key:Int):List Wt:=L.filter (fun w=>decide (w.key=key))
def Df (L:List Wt) (who:Int):List Wt:=L.filter (fun w=>decide (w.who≠who))
def xx (L:List Wt):Prop:=L.Pairwise (fun a b=>a.who≠b.who)
theorem vO {L:List Wt} {k:Int} {w:Wt} :w∈LF L k↔w∈L∧w.key=k:=by unfold LF;rw [List.mem_filter];simp
theorem qp {L:List Wt} {who:Int} {w:Wt} :w∈Df L who↔w∈L∧w.who≠who:=by unfold Df;rw [List.mem_filter];simp
theorem RC {L:List Wt} {who:Int} (h:∀w∈L,w.who≠who):Df L who=L:=List.filter_eq_self.2 (fun w hw=>decide_eq_true (h w hw))
theorem KE {L:List Wt} (h:xx L) (who:Int):xx (Df L who):=h.filter _
theorem ZL {L:List Wt} (h:xx L) (k:Int):xx (LF L k):=h.filter _
theorem Pn {L:List Wt} (h:xx L) {v:Wt} (hn:∀w∈L,w.who≠v.who):xx (L++ [v]):=
  List.pairwise_append.2 ⟨h,List.pairwise_singleton ..,fun a ha b hb=>by rw [List.mem_singleton] at hb;subst hb;exact hn a ha⟩
theorem Bw:∀{L:List Wt} {i:Nat} {w:Wt},xx L→L[i]? =some w→Df L w.who=L.eraseIdx i
  | [],i,w,_,h=>by simp at h
  |x::L,0,w,h,hi=>by
    simp at hi;subst hi;have h1:=List.pairwise_cons.1 h
    show List.filter _ _=_
    rw [List.filter_cons_of_neg (by simp)];exact RC (fun y hy e=>h1.1 y hy e.symm)
  |x::L,i+1,w,h,hi=>by
    have h1:=List.pairwise_cons.1 h;have hi':L[i]? =some w:=by simpa using hi
    have hx:x.who≠w.who:=h1.1 w (List.mem_of_getElem? hi')
    show List.filter _ _=_
    rw [List.filter_cons_of_pos (by simpa using hx),List.eraseIdx_cons_succ]
    congr 1
    exact Bw h1.2 hi'
def wU (L:List Wt) (key:Int):Nat:=(LF L key).length
structure nU where
  w:Int
  v:BitVec 64
  h:Int
  a:Bool
deriving Inhabited
structure nI where
  l:List nU
  sl:Int
  cr:Int
  fl:BitVec 64
abbrev gP (l:List nU) (p:Nat):nU:=l.getD p default
def pF (x:nI) (p:Int):Bool:=decide (0≤p)&&decide (p<(x.l.length:Nat))
theorem Ng {x:nI} {p:Nat} (h:p<x.l.length):pF x (p:Int)=true:=by unfold pF;simp;omega
theorem wM {x:nI} {p:Int} (h:pF x p=true):∃i:Nat,p=i∧i<x.l.length:=by
  unfold pF at h;simp at h;exact⟨p.toNat,by omega,by omega⟩
def lC (ws:List Int) (s c:Int):nI:=⟨(ws.take 8).map (fun w=>⟨aF w 1 16,0#64,0,false⟩),aF s 1 32,aF c 1 32,0#64⟩
def KR (q:nU):nU:= {q with v:=pN q.v (qi q.w),h:=q.h+1}
def Bc (x:nI) (p:Nat):nI:= {x with l:=x.l.set p (KR (gP x.l p))}
def ED (x:nI) (q:nU) (w:Int):nU:=if aF w 1 16=q.w then q else {q with w:=aF w 1 16,v:=fe q.v x.fl (qi (aF w 1 16)*BitVec.ofInt 64 x.sl)}
def cB (x:nI) (p:Nat) (w:Int):nI:= {x with l:=x.l.set p (ED x (gP x.l p) w)}
def eI (l:List nU) (s:BitVec 64):Nat→Int
  |0=> -1
  |k+1=>if s.getLsbD k=true∧(eI l s k<0∨(gP l k).v.toNat<(gP l (eI l s k).toNat).v.toNat) then k else eI l s k
theorem wo (l:List nU) (s:BitVec 64):∀k,-1≤eI l s k∧eI l s k<(k:Nat)
  |0=>⟨Int.le_refl _,by show (-1:Int)<0;decide⟩
  |k+1=>by
    have:=wo l s k
    unfold eI;split<;>omega
theorem yj (l:List nU) (s:BitVec 64):∀k,0≤eI l s k→s.getLsbD (eI l s k).toNat=true
  |0,h=>absurd (show (0:Int)≤-1 from h) (by decide)
  |k+1,h=>by
    unfold eI at h ⊢
    split
    · rename_i c;simpa using c.1
    · rename_i c;rw [if_neg c] at h;exact yj l s k h
theorem wV {l:List nU} {s:BitVec 64} :∀{k},eI l s k<0→∀p,p<k→s.getLsbD p=false
  |0,_,p,hp=>absurd hp (Nat.not_lt_zero _)
  |k+1,h,p,hp=>by
    unfold eI at h
    by_cases c:s.getLsbD k=true∧(eI l s k<0∨(gP l k).v.toNat<(gP l (eI l s k).toNat).v.toNat)
    · rw [if_pos c] at h;omega
    · rw [if_neg c] at h
      by_cases e:p=k
      · subst e
        cases hb:s.getLsbD p with
        |false=>rfl
        |true=>exact absurd ⟨hb,.inl h⟩ c
      · exact wV h p om
def Nv (x:nI) (now:Bool) (q:nU):nU:= {q with v:=if now=true∧q.a=false then fe q.v x.fl (mQ q.w x.sl x.cr) else q.v,a:=now}
def ud (x:nI) (s:BitVec 64) (k:Nat):List nU:=(List.range x.l.length).map (fun p=>if p<k then Nv x (s.getLsbD p) (gP x.l p) else gP x.l p)
theorem iG (x:nI) (s:BitVec 64) (k:Nat):(ud x s k).length=x.l.length:=by simp [ud]
theorem mH {x:nI} {s:BitVec 64} {k p:Nat} (hp:p<x.l.length):gP (ud x s k) p=if p<k then Nv x (s.getLsbD p) (gP x.l p) else gP x.l p:=by
  unfold gP ud
  rw [List.getD_eq_getElem?_getD,List.getElem?_map,List.getElem?_range hp];rfl
theorem D1 {l l':List nU} (hl:l.length=l'.length) (h:∀p,p<l.length→gP l p=gP l' p):l=l':=by
  refine List.ext_getElem hl (fun p h1 h2=>?_);have:=h p h1
  unfold gP at this
  rw [List.getD_eq_getElem?_getD,List.getD_eq_getElem?_getD,List.getElem?_eq_getElem h1,List.getElem?_eq_getElem h2] at this;exact this
theorem zG {l:List nU} {p q:Nat} {y:nU} (hp:p<l.length):gP (l.set p y) q=if q=p then y else gP l q:=by
  unfold gP
  rw [List.getD_eq_getElem?_getD,List.getD_eq_getElem?_getD,List.getElem?_set]
  by_cases e:q=p
  · subst e;simp [hp]
  · rw [if_neg (fun z=>e z.symm),if_neg e]
theorem LQ (x:nI) (s:BitVec 64):ud x s 0=x.l:=D1 (iG x s 0) (fun p hp=>by rw [iG] at hp;rw [mH hp,if_neg (Nat.not_lt_zero _)])
theorem CV {x:nI} {s:BitVec 64} {k:Nat} (hk:k<x.l.length):ud x s (k+1)=(ud x s k).set k (Nv x (s.getLsbD k) (gP x.l k)):=by
  refine D1 (by rw [List.length_set,iG,iG]) (fun p hp=>?_);rw [iG] at hp;rw [zG (by rw [iG];exact hk),mH hp,mH hp]
  by_cases e:p=k
  · subst e;rw [if_pos (Nat.lt_succ_self _),if_pos rfl]
  · rw [if_neg e]
    by_cases c:p<k
    · rw [if_pos c,if_pos om]
    · rw [if_neg c,if_neg om]
def oh (x:nI) (s:BitVec 64):List nU:=ud x s x.l.length
def TB (a b:BitVec 64):BitVec 64:=if a.toNat<b.toNat then b else a
def nr (x:nI) (s:BitVec 64):nI:= {x with l:=oh x s,fl:=if eI (oh x s) s x.l.length<0 then x.fl else TB x.fl (gP (oh x s) (eI (oh x s) s x.l.length).toNat).v}
/-! the least, gone over by members -/
theorem vk {l:List nU} {p:Nat} (hp:p<l.length):l.set p (gP l p)=l:=D1 (List.length_set ..) (fun q hq=>by
  rw [zG hp];by_cases e:q=p
  · rw [if_pos e,e]
  · rw [if_neg e])
/-! those that become active, gone over by members -/
def upQ (x:nI) (q:nU):nU:=⟨q.w,fe q.v x.fl (mQ q.w x.sl x.cr),q.h,q.a⟩
theorem u2 (x:nI) (s:BitVec 64):(oh x s).length=x.l.length:=iG ..
/-! the least, its V -/
def zz (l:List nU) (s:BitVec 64) (k:Nat):BitVec 64:=if eI l s k<0 then 0#64 else (gP l (eI l s k).toNat).v
theorem Fk {l:List nU} {s:BitVec 64} {k:Nat} {ls:BitVec 64} {mt:Bool} (sy:ls=zz l s k) (Db:mt=decide (0≤eI l s k)) (h:s.getLsbD k=true) (h2:mt=false∨(gP l k).v.toNat<ls.toNat):(gP l k).v=zz l s (k+1)∧true=decide (0≤eI l s (k+1)):=by
  have e:eI l s (k+1)=(k:Nat):=by
    show (if _ then _ else _)=_
    refine if_pos ⟨h,?_⟩
    by_cases c:eI l s k<0
    · exact .inl c
    · rcases h2 with h2|h2
      · subst Db;simp at h2;exact .inl om
      · rw [sy,show zz l s k=_ from if_neg c] at h2;exact .inr h2
  rw [e];unfold zz;rw [e,if_neg om];exact⟨rfl,(decide_eq_true om).symm⟩
theorem I8 {l:List nU} {s:BitVec 64} {k:Nat} {ls:BitVec 64} {mt:Bool} (sy:ls=zz l s k) (Db:mt=decide (0≤eI l s k)) (h:s.getLsbD k=true→mt=true∧¬(gP l k).v.toNat<ls.toNat):ls=zz l s (k+1)∧mt=decide (0≤eI l s (k+1)):=by
  have e:eI l s (k+1)=eI l s k:=by
    show (if _ then _ else _)=_
    refine if_neg (fun q=>?_);have h2:=h q.1;have c:¬eI l s k<0:=by have:=h2.1;subst Db;simp at this;omega
    rcases q.2 with q2|q2
    · exact c q2
    · rw [sy,show zz l s k=_ from if_neg c] at h2;exact h2.2 q2
  unfold zz at*;rw [e];exact⟨sy,Db⟩
theorem Mb {x:nI} {s:BitVec 64} {k:Nat} (hk:k<x.l.length):gP (ud x s (k+1)) k=gP (oh x s) k:=by
  rw [mH hk,show gP (oh x s) k=_ from mH hk,if_pos (Nat.lt_succ_self k),if_pos hk]
theorem OZ {x:nI} {s:BitVec 64} {k:Nat} (hk:k<x.l.length):gP (ud x s k) k=gP x.l k:=by rw [mH hk,if_neg (Nat.lt_irrefl k)]
theorem gPs {l:List nU} {p:Nat} {y:nU} (hp:p<l.length):(l.set p y).getD p default=y:=by rw [List.getD_eq_getElem?_getD,List.getElem?_set_self hp];rfl
def vP (q:nU) (v:BitVec 64):nU:=⟨q.w,v,q.h,q.a⟩
def wP (q:nU) (w:Int):nU:=⟨w,q.v,q.h,q.a⟩
def LdB (x:nI):Prop:=x.l.length≤8∧(1≤x.sl∧x.sl≤32)∧1≤x.cr∧x.cr≤32
def ptN (w:Int):nU:=⟨aF w 1 16,0#64,0,false⟩
def T4 (ws:List Int) (i:Nat):List nU:=(ws.take i).map ptN
theorem O6 {ws:List Int} {i:Nat} (h:i≤ws.length):(T4 ws i).length=i:=by unfold T4;rw [List.length_map,List.length_take];omega
theorem MF {ws:List Int} {i:Nat} (h:i<ws.length):T4 ws (i+1)=T4 ws i++ [ptN (ws.getD i 0)] :=by
  unfold T4;rw [bR 0 h,List.map_append];rfl
theorem Ft {ws:List Int} {k:Nat} (s c:Int) (h:k=min ws.length 8):T4 ws k=(lC ws s c).l:=by
  show (ws.take k).map ptN=(ws.take 8).map _
  have:ws.take k=ws.take 8:=by
    rcases Nat.le_total ws.length 8 with q|q
    · rw [List.take_of_length_le om,List.take_of_length_le om]
    · rw [show k=8 by omega]
  rw [this];rfl
theorem lG (ws:List Int) (s c:Int):(lC ws s c).l.length=min ws.length 8:=by
  show ((ws.take 8).map _).length=_;rw [List.length_map,List.length_take];omega
theorem FH (ws:List Int) (s c:Int):LdB (lC ws s c):=⟨by show ((ws.take 8).map _).length≤8;rw [List.length_map,List.length_take];omega,ek (by decide),ek (by decide)⟩
structure vT where
  p:Int
  u:Int
deriving Inhabited
abbrev VG (t:vT):Value:= .agg #[.int .i64 t.p,.int .i64 t.u]
def z8 (t:vT) (sl p:Int):Bool:=decide (0≤p)&&(decide (t.p=p)&&decide (t.u<aF sl 1 16))
def pY (t:vT) (sl:Int) (s:BitVec 64) (least:Int):vT:=if s=0#64∨(aR s t.p=true∧z8 t sl t.p=true) then t else ⟨least,0⟩
def iZ (t:vT):vT:=if t.u<2147483648 then ⟨t.p,t.u+1⟩ else t
def xX (t:vT) (sl:Int):vT:=if t.u<aF sl 1 16 then ⟨t.p,aF sl 1 16⟩ else t
structure cZ where
  k:Int
  a:Int
  b:Int
structure jv where
  sh:Bool
  sl:Int
  cr:Int
  rd:Int
  wr:Int
instance:Inhabited cZ:=⟨⟨0,0,0⟩⟩
instance:Inhabited jv:=⟨⟨false,0,0,0,0⟩⟩
def fO (o:cZ):List Value:=[.int .i64 o.k,.int .i64 o.a,.int .i64 o.b]
def fL (x:jv):List Value:=[.bool x.sh,.int .i64 x.sl,.int .i64 x.cr,.int .i64 x.rd,.int .i64 x.wr]
/-! the first that is such -/
def fS {α:Type} (p:α→Bool) (xs:List α):Int:=if xs.any p then (xs.findIdx p:Nat) else-1
theorem dv {α:Type} {p:α→Bool} {xs:List α} {i:Nat} (d:α) (h:i<xs.length):(xs.take (i+1)).any p=((xs.take i).any p||p (xs.getD i d)):=by
  rw [bR d h,List.any_append];simp
theorem iC {α:Type} {p:α→Bool} {xs:List α} {i:Nat} (d:α) (h0:(xs.take i).any p=false) (h:i<xs.length) (hp:p (xs.getD i d)=true):fS p xs=(i:Nat):=by
  have e:=aO d h;have h1:xs.any p=true:=List.any_eq_true.2 ⟨_,List.mem_of_getElem? e,hp⟩
  have h2:xs.findIdx p=i:=by
    rw [List.findIdx_eq h];refine ⟨by rw [List.getElem?_eq_getElem h] at e;rw [Option.some.inj e];exact hp,fun j hj=>?_⟩;have h3:=List.any_eq_false.1 h0 xs[j] (by rw [List.mem_take_iff_getElem];exact⟨j,by omega,rfl⟩);simpa using h3
  unfold fS;rw [if_pos h1,h2]
theorem eK {α:Type} {p:α→Bool} {xs:List α} (h:xs.any p=false):fS p xs= -1:=by
  unfold fS;rw [h];rfl
theorem kx {α:Type} {p:α→Bool} {xs:List α} :decide (0≤fS p xs)=xs.any p:=by
  unfold fS
  cases xs.any p
  · rfl
  · simp
/-! ops -/
def iU (k:Int):Bool:=decide (2≤k)&&decide (k≤5)
def eJ (k:Int):Bool:=decide (k=1)||decide (k=7)||decide (k=8)||decide (k=11)
def nn (k:Int):Int:=if k=1 then 1 else if k=2∨k=3∨k=4∨k=6∨k=9 then 0 else if k=5 then 0 else if k=7 then 1 else if k=10 then 1 else-1
def pU (k:Int):Int:=if k=1 then 16 else if k=2∨k=3∨k=4∨k=6∨k=9 then 7 else if k=5 then 7 else if k=7 then 64 else if k=10 then 16 else-1
def xF (k:Int):Int:=if k=5 then 1 else-1
def xW (k:Int):Int:=if k=5 then 64 else-1
def hasB (lo hi n:Int):Bool:=if lo= -1 then decide (n=0) else decide (lo≤n)&&decide (n≤hi)
def tM (k:Int):Bool:=decide (1≤k)&&decide (k≤11)
def ei (o:cZ):Bool:=tM o.k&&hasB (nn o.k) (pU o.k) o.a&&hasB (xF o.k) (xW o.k) o.b
theorem Hj (k:Int): [(2:Int),3,4,5].any (fun y=>decide (k=y))=iU k:=by
  unfold iU;simp only [List.any_cons,List.any_nil,Bool.or_false]
  by_cases h:2≤k∧k≤5
  · have:k=2∨k=3∨k=4∨k=5:=by omega
    rcases this with rfl|rfl|rfl|rfl<;>rfl
  · rw [show decide (k=2)=false from decide_eq_false om,show decide (k=3)=false from decide_eq_false om,show decide (k=4)=false from decide_eq_false om,show decide (k=5)=false from decide_eq_false om]
    by_cases h2:2≤k
    · rw [show decide (k≤5)=false from decide_eq_false om];simp
    · rw [show decide (2≤k)=false from decide_eq_false h2];rfl
theorem Mr (k:Int): [(1:Int),7,8,11].any (fun y=>decide (k=y))=eJ k:=by
  unfold eJ;simp only [List.any_cons,List.any_nil,Bool.or_false,Bool.or_assoc]
/-! names -/
/-! sections: the steps to the end, and the ticks -/
def oS (lock:Int) (o:cZ):Bool:=decide (o.k=11)||(decide (o.k=6)&&decide (o.a=lock))
def nN (lock:Int):List cZ→Nat×Int
  | [] =>(0,0)
  |o::l=>if oS lock o then (0,0) else ((nN lock l).1+1,(if o.k=1 then o.a else 0)+(nN lock l).2)
theorem Nj {lock:Int} {xs:List cZ} {i:Nat} (h:i<xs.length) (hs:oS lock (xs.getD i default)=false):
    nN lock (xs.drop i)=((nN lock (xs.drop (i+1))).1+1,(if (xs.getD i default).k=1 then (xs.getD i default).a else 0)+(nN lock (xs.drop (i+1))).2):=by
  have e:=aO (default:cZ) h;rw [List.getElem?_eq_getElem h] at e;rw [List.drop_eq_getElem_cons h,Option.some.inj e];rw [nN,if_neg (by rw [hs];simp)]
theorem Lk {lock:Int} {xs:List cZ} {i:Nat} (h:i<xs.length) (hs:oS lock (xs.getD i default)=true):nN lock (xs.drop i)=(0,0):=by
  have e:=aO (default:cZ) h;rw [List.getElem?_eq_getElem h] at e;rw [List.drop_eq_getElem_cons h,Option.some.inj e];rw [nN,if_pos hs]
theorem Oj {lock:Int} {xs:List cZ} {i:Nat} (h:xs.length≤i):nN lock (xs.drop i)=(0,0):=by
  rw [List.drop_of_length_le h];rfl
def mD (xs:List cZ):Prop:=xs.length≤20∧∀o∈xs,-1125899906842624≤o.a∧o.a≤1125899906842624
theorem mD.at {xs:List cZ} (h:mD xs) (i:Nat): -1125899906842624≤(xs.getD i default).a∧(xs.getD i default).a≤1125899906842624:=by
  by_cases hi:i<xs.length
  · exact h.2 _ (List.mem_of_getElem? (aO default hi))
  · rw [List.getD_eq_getElem?_getD,List.getElem?_eq_none om];decide
/-! which ops fit -/
def qI (xs:List cZ) (i:Nat):Nat×Int:=nN (xs.getD i default).a (xs.drop (i+1))
def dY (fv:Bool) (xs:List cZ) (ls:List jv) (cb:Int) (i:Nat):Int:=
  if (iU (xs.getD i default).k||decide ((xs.getD i default).k=6))&&decide ((xs.getD i default).a ≥ ls.length)||decide ((xs.getD i default).k=9)&&decide ((xs.getD i default).a ≥ cb) then 4
  else if decide ((xs.getD i default).k=3)&& !(ls.getD (xs.getD i default).a.toNat default).sh then 1
  else if !iU (xs.getD i default).k then 0
  else if decide ((qI xs i).2<1)||decide ((qI xs i).2 > (ls.getD (xs.getD i default).a.toNat default).cr)||fv&&decide (((i+1+(qI xs i).1:Nat):Int)=xs.length) then 13 else 0
def iO (xs:List cZ):Bool:=decide (0<xs.length)&&decide (xs.length≤12)&&xs.all ei
def CX (fv:Bool) (xs:List cZ) (ls:List jv) (cb:Int):Int×Int:=
  if iO xs then
    match (List.range xs.length).find? (fun j=>decide (dY fv xs ls cb j≠0)) with
    |some j=>((j:Int),dY fv xs ls cb j)
    |none=>if fv&& !xs.any (fun o=>eJ o.k) then (0,1) else (0,0)
  else (0,1)
theorem uD {o:cZ} (h:ei o=true):0≤o.a∧o.a≤64∧(2≤o.k∧o.k≤6∨o.k=9→o.a≤7):=by
  unfold ei tM hasB nn pU at h
  simp only [Bool.and_eq_true,decide_eq_true_eq] at h;obtain ⟨⟨⟨h1,h2⟩,h3⟩,-⟩:=h;have:o.k=1∨o.k=2∨o.k=3∨o.k=4∨o.k=5∨o.k=6∨o.k=7∨o.k=8∨o.k=9∨o.k=10∨o.k=11:=by omega
  rcases this with hk|hk|hk|hk|hk|hk|hk|hk|hk|hk|hk<;>rw [hk] at h3 ⊢ <;>simp at h3<;>omega
theorem v5 {xs:List cZ} (h:iO xs=true) {i:Nat} (hi:i<xs.length):ei (xs.getD i default)=true:=by
  unfold iO at h;simp only [Bool.and_eq_true,List.all_eq_true] at h
  exact h.2 _ (List.mem_of_getElem? (aO default hi))
theorem o0 {xs:List cZ} (h:iO xs=true):mD xs:=by
  have h':=h
  unfold iO at h;simp only [Bool.and_eq_true,List.all_eq_true,decide_eq_true_eq] at h
  exact⟨by omega,fun o ho=>by have:=uD (h.2 o ho);omega⟩
theorem Ov {fv:Bool} {xs:List cZ} {ls:List jv} {cb:Int} (h:iO xs=false):CX fv xs ls cb=(0,1):=by unfold CX;rw [h];rfl
theorem Zg {fv:Bool} {xs:List cZ} {ls:List jv} {cb:Int} {i:Nat} (h:iO xs=true) (h0:∀j,j<i→dY fv xs ls cb j=0) (hi:i<xs.length) (hf:dY fv xs ls cb i≠0):CX fv xs ls cb=((i:Int),dY fv xs ls cb i):=by
  unfold CX
  rw [if_pos h,(List.find?_range_eq_some (i:=i)).2 ⟨by simpa using hf,List.mem_range.2 hi,fun j hj=>by simp [h0 j hj]⟩]
theorem Tp {fv:Bool} {xs:List cZ} {ls:List jv} {cb:Int} (h:iO xs=true) (h0:∀j,j<xs.length→dY fv xs ls cb j=0):CX fv xs ls cb=if fv&& !xs.any (fun o=>eJ o.k) then (0,1) else (0,0):=by
  unfold CX
  rw [if_pos h,List.find?_range_eq_none.2 (fun j hj=>by simp [h0 j hj])]
theorem oD {g:Nat→Int} {i:Nat} (h:∀j,j<i→g j=0) (hi:g i=0):∀j,j<i+1→g j=0:=fun j hj=>by
  rcases Nat.lt_or_ge j i with h1|h1
  · exact h j h1
  · rw [show j=i by omega];exact hi
/-! more ticks, more locks, more programs -/
def mx0 (c:Int):Int:=if 0 > c then 0 else c
/-! ### What is gone over -/
def wA (xs:List cZ):List (Array Value):=(List.range xs.length).map (fun i=>#[.int .i64 (i:Nat),.agg (fO (xs.getD i default)).toArray])
theorem yw {xs:List cZ} {i:Nat} (h:i<xs.length):(wA xs)[i]? =some #[.int .i64 (i:Nat),.agg (fO (xs.getD i default)).toArray] :=by
  unfold wA;rw [List.getElem?_map,List.getElem?_range h];rfl
theorem yq {xs:List cZ} {k:Nat} {a:Array Value} (h:(wA xs)[k]? =some a):k<xs.length∧a=#[.int .i64 (k:Nat),.agg (fO (xs.getD k default)).toArray] :=by
  have hk:k<xs.length:=by
    have:=(List.getElem?_eq_some_iff.1 h).1;simpa [wA] using this
  rw [yw hk] at h;exact⟨hk,(Option.some.inj h).symm⟩
theorem pk (xs:List cZ):(wA xs).length=xs.length:=by simp [wA]
def PZ (xs:List cZ) (i:Nat):Value:= .agg #[.int .i64 (i:Nat),.int .i64 ((i+1+(qI xs i).1:Nat)),.int .i64 (xs.getD i default).a,.int .i64 (qI xs i).2]
structure Hd where
  t:Int
  p:Int
  d:Bool
deriving Inhabited
structure bf where
  sh:Bool
  sl:Int
  ho:List Hd
  wt:List Wt
  tr:vT
  ld:nI
  di:Bool
def gk (l:List Hd) (t:Int):Nat:=l.findIdx (fun h=>decide (h.t=t))
def nR (l:List Hd) (t:Int):Int:=fS (fun h=>decide (h.t=t)) l
def bu (x:bf) (t:Int):Bool:=x.ho.any (fun h=>decide (h.t=t))
theorem oZ (x:bf) (t:Int):decide (0≤nR x.ho t)=bu x t:=by
  unfold nR bu fS
  cases x.ho.any (fun h=>decide (h.t=t))
  · rfl
  · simp
theorem qK {x:bf} {t:Int} (h:bu x t=true):nR x.ho t=(gk x.ho t:Nat)∧gk x.ho t<x.ho.length∧(x.ho.getD (gk x.ho t) default).t=t:=by
  have h1:gk x.ho t<x.ho.length:=List.findIdx_lt_length.2 (by unfold bu at h;rw [List.any_eq_true] at h;exact h);refine ⟨if_pos h,h1,?_⟩;have:=List.findIdx_getElem (w:=h1);rw [List.getD_eq_getElem?_getD,List.getElem?_eq_getElem h1];exact of_decide_eq_true this
def cC (x:bf) (t:Int):Bool:=x.wt.any (fun w=>decide (w.who=t))
def lr (x:bf):Bool:=x.sh&&(decide (0<x.ho.length)&&decide ((x.ho.getD 0 default).p=0))
def gE (x:bf) (p:Int):Bool:=pF x.ld p&&(decide (x.ho.length=0)||(decide (p=0)&&(lr x&&(decide (wU x.wt 1=0)||z8 x.tr x.sl 0))))
def kf (l:List Int):BitVec 64:=l.foldl bZ 0#64
def gG (x:bf):BitVec 64:=kf (x.wt.map (·.key))
def HH (x:bf):BitVec 64:=kf (x.wt.map (·.key)++x.ho.map (·.p))
def cX (x:bf):bf:= {x with ld:=nr x.ld (HH x)}
def nb (x:bf) (t p:Int):bf:= {x with ho:=x.ho++ [⟨t,p,x.di⟩],di:=false}
def AD (L:List Wt) (os:List Int):List Wt:=os.foldl Df L
def dk (x:bf) (p:Int) (n:Nat):List Int:=((LF x.wt p).take n).map (·.who)
def lS (x:bf) (p:Int) (n:Nat):bf:=(dk x p n).foldl (fun x t=>nb x t p) {x with wt:=AD x.wt (dk x p n)}
def dJ (x:bf):bf:= {x with tr:=pY x.tr x.sl (gG x) (eI x.ld.l (gG x) x.ld.l.length)}
def mZ (x:bf):Nat:=if x.sh=true∧(dJ x).tr.p=0 then 8 else 1
def jd (x:bf):List Int:=if x.wt.length=0 then [] else dk x (dJ x).tr.p (mZ x)
def kl (x:bf):bf:=if x.wt.length=0 then x else lS (dJ x) (dJ x).tr.p (mZ x)
def cV (x:bf) (t p:Int):Int:=if pF x.ld p=false∨t<0 then 1 else if bu x t=true then 9 else if cC x t=true then 12 else 0
def dx (x:bf) (t p:Int):Int:=if cV x t p≠0 then cV x t p else if gE x p=true then 0 else 8
def ca (x:bf) (p:Int):bf:=if x.ho.length=0∧z8 x.tr x.sl p=false then {x with tr:=⟨p,0⟩} else x
def cR (x:bf) (t p:Int):bf:=if dx x t p≠0 then x else cX (nb (ca x p) t p)
def jT (x:bf) (t p:Int):Int:=if cV x t p≠0 then cV x t p else if gE x p=true then 4 else if 8≤x.wt.length then 3 else 0
def dQ (x:bf) (t p:Int):bf:=if jT x t p≠0 then x else cX {x with wt:=x.wt++ [⟨t,p,0#64⟩] }
def fu (x:bf) (t:Int):bf:= {x with ho:=x.ho.eraseIdx (gk x.ho t)}
def nF (x:bf) (t:Int):Int:=if bu x t=true then 0 else 7
def eC (x:bf) (t:Int):List Int:=if bu x t=true∧(fu x t).ho.length=0 then jd (fu x t) else []
def eQ (x:bf) (t:Int):bf:=if bu x t=true then cX (if (fu x t).ho.length=0 then kl (fu x t) else fu x t) else x
def du (x:bf) (t:Int):bf:= {x with wt:=Df x.wt t}
def qk (x:bf) (t:Int):List Int:=if cC x t=true∧lr x=true∧wU (du x t).wt 1=0 then dk (du x t) 0 8 else []
def fY (x:bf) (t:Int):bf:=if cC x t=true then cX (if lr x=true∧wU (du x t).wt 1=0 then lS (du x t) 0 8 else du x t) else x
def TK (x:bf) (t:Int):Bool:=cC x t||bu x t
def uN (x:bf) (t:Int):List Int:=if cC x t=true then qk x t else eC {x with di:=true} t
def sw (x:bf) (t:Int):bf:=if cC x t=true then fY x t else if bu x t=true then eQ {x with di:=true} t else x
def jk (x:bf) (t:Int):bf:=if bu x t=true then cX {x with ld:=Bc x.ld (x.ho.getD (gk x.ho t) default).p.toNat,tr:=iZ x.tr} else x
def yb (x:bf) (g:Int):Bool:= !x.sh&&pF x.ld g
def iL (x:bf) (g wt:Int):bf:=if yb x g=true then cX {x with ld:=cB x.ld g.toNat wt,tr:=if x.tr.p=g∧(gP (cB x.ld g.toNat wt).l g.toNat).w≠(gP x.ld.l g.toNat).w then xX x.tr x.sl else x.tr} else x
def yQ (x:bf) (g:Int) (r:Bool):Int:=if x.sh=true then (if r=true then 0 else 1) else if r=true∨pF x.ld g=false then-1 else g
/-! the first of a key, taken one after another -/
theorem N0 {x:Wt} {l:List Wt} (h:xx (x::l)):Df (x::l) x.who=l:=by
  show List.filter _ _=_
  rw [List.filter_cons_of_neg (by simp)];exact RC (fun y hy e=>(List.pairwise_cons.1 h).1 y hy e.symm)
theorem Cv (s:BitVec 64) (i:Int):bZ s i=s|||nH i:=rfl
theorem yT:∀(l:List Int) (s:BitVec 64),l.foldl bZ s=s|||kf l
  | [],s=>by show s=s|||0#64;simp
  |i::l,s=>by
    unfold kf
    rw [List.foldl_cons,List.foldl_cons,yT l,yT l (bZ 0#64 i),Cv,Cv];rw [BitVec.zero_or,BitVec.or_assoc]
theorem Cb (a b:List Int):kf (a++b)=kf a|||kf b:=by
  show (a++b).foldl bZ 0#64=_;rw [List.foldl_append];exact yT b _
theorem Iz (a b:List Int):kf (a++b)=kf (b++a):=by rw [Cb,Cb,BitVec.or_comm]
def tQ (h:Hd):List Value:=[.int .i64 h.t,.int .i64 h.p,.bool h.d]
theorem yA (l:List Int) (i:Int):kf (l++ [i])=bZ (kf l) i:=by unfold kf;rw [List.foldl_append];rfl
theorem iE {α:Type} {f:α→Int} {l:List α} {i:Nat} (d:α) (h:i<l.length):(l.take (i+1)).map f=(l.take i).map f++ [f (l.getD i d)] :=by rw [bR d h,List.map_append];rfl
theorem vq (x:bf) (p:Int):(ca x p).wt=x.wt:=by unfold ca;split<;>rfl
theorem ph {L:List Wt} :∀{os:List Int} {w:Wt},w∈AD L os↔w∈L∧w.who ∉ os:=by
  intro os
  unfold AD
  induction os generalizing L with
  |nil=>intro w;simp
  |cons t os ih=>intro w;rw [List.foldl_cons,ih,qp];simp only [List.mem_cons,not_or];exact⟨fun ⟨⟨a,b⟩,c⟩=>⟨a,b,c⟩,fun ⟨a,b,c⟩=>⟨⟨a,b⟩,c⟩⟩
theorem AW {p:Int} :∀(os:List Int) (x:bf),(os.foldl (fun x t=>nb x t p) x).wt=x.wt
  | [],x=>rfl
  |t::os,x=>by rw [List.foldl_cons,AW os];rfl
theorem Qk (x:bf) (p:Int) (n:Nat):(lS x p n).wt=AD x.wt (dk x p n):=AW _ _
theorem Qz {x:bf} {t:Int} (h:bu x t=true) (h0:(fu x t).ho.length=0):eC x t=jd (fu x t):=if_pos ⟨h,h0⟩
theorem TN {x:bf} {t:Int} (h0:¬(fu x t).ho.length=0):eC x t=[] :=if_neg (fun q=>h0 q.2)
theorem My {x:bf} {t:Int} (h:bu x t=true):(fu x t).ho.length=x.ho.length-1:=by
  show (x.ho.eraseIdx _).length=_;rw [List.length_eraseIdx,if_pos (qK h).2.1]
theorem Zs {x:bf} {t:Int} (h:cC x t=false):qk x t=[]∧fY x t=x:=⟨if_neg (fun q=>by rw [h] at q;cases q.1),if_neg (by rw [h];simp)⟩
theorem Za {x:bf} {t:Int} (h:cC x t=true) (h2:lr x=true∧wU (du x t).wt 1=0):qk x t=dk (du x t) 0 8∧fY x t=cX (lS (du x t) 0 8):=⟨if_pos ⟨h,h2⟩,by unfold fY;rw [if_pos h,if_pos h2]⟩
theorem Sq {x:bf} {t:Int} (h:cC x t=true) (h2:¬(lr x=true∧wU (du x t).wt 1=0)):qk x t=[]∧fY x t=cX (du x t):=⟨if_neg (fun q=>h2 q.2),by unfold fY;rw [if_pos h,if_neg h2]⟩
theorem Qt {x:bf} {t:Int} (h:bu x t=true):jk x t=cX {x with ld:=Bc x.ld (x.ho.getD (gk x.ho t) default).p.toNat,tr:=iZ x.tr} :=if_pos h
theorem K6 {x:bf} {t:Int} (h:bu x t=false):jk x t=x:=if_neg (by rw [h];simp)
theorem Ow {x:bf} {t:Int} (h:bu x t=true):x.ho.getD (gk x.ho t) default∈x.ho:=by
  rw [List.getD_eq_getElem?_getD,List.getElem?_eq_getElem (qK h).2.1];exact List.getElem_mem _
theorem K7 {x:bf} {g wt:Int} (h:yb x g=false):iL x g wt=x:=if_neg (by rw [h];simp)
theorem Gd {x:bf} {g:Nat} {wt:Int} (h:yb x g=true):iL x g wt=cX {x with ld:=cB x.ld g wt,tr:=if x.tr.p=(g:Int)∧(gP (cB x.ld g wt).l g).w≠(gP x.ld.l g).w then xX x.tr x.sl else x.tr} :=if_pos h
structure NJ where
  sh:Bool
  sl:Int
  cr:Int
  rd:Int
  wr:Int
deriving Inhabited
abbrev So (d:NJ):List Value:=[.bool d.sh,.int .i64 d.sl,.int .i64 d.cr,.int .i64 d.rd,.int .i64 d.wr]
def RM (gs:List Int):List Int:=if (gs.take 4).length=0 then [1] else gs.take 4
def td (d:NJ) (gs:List Int):List Int:=if d.sh=true then [d.rd,d.wr] else RM gs
def nY (d:NJ) (gs:List Int):bf:=⟨d.sh,aF d.sl 1 16,[],[],⟨-1,0⟩,lC (td d gs) (aF d.sl 1 16) d.cr,false⟩
theorem Mi (d:NJ) (gs:List Int):0<(td d gs).length∧(td d gs).length≤4:=by
  unfold td RM
  split
  · exact⟨Nat.succ_pos _,by simp⟩
  · split
    · exact⟨Nat.succ_pos _,by simp⟩
    · rw [List.length_take] at*;omega
def RdS (ws:List Int) (ad:Option Addr) (n cap:Nat) (m:ab) (w:World):Prop:=n=ws.length∧∀w',Mem w' m→Ext w w'→Sr fI 1 ws (.slice ad n cap) w'
def rZ (p:Int):Nat→List Wt→List Wt
  |_,[] =>[]
  |n,w::l=>if w.key=p∧0<n then rZ p (n-1) l else w::rZ p n l
theorem sE (p:Int):∀l,rZ p 0 l=l
  | [] =>rfl
  |w::l=>by
    show (if w.key=p∧0<0 then _ else w::rZ p 0 l)=_
    rw [if_neg (fun q=>absurd q.2 (Nat.lt_irrefl 0)),sE p l]
theorem MG {w:Wt} {L:List Wt} :∀{os:List Int},w.who ∉ os→AD (w::L) os=w::AD L os:=by
  intro os
  unfold AD
  induction os generalizing L with
  |nil=>intro _;rfl
  |cons t os ih=>
    intro h;rw [List.foldl_cons,List.foldl_cons]
    have e:Df (w::L) t=w::Df L t:=by
      unfold Df;rw [List.filter_cons_of_pos (by simpa using fun q=>h (by rw [q];exact List.mem_cons_self ..))]
    rw [e];exact ih (fun q=>h (List.mem_cons_of_mem _ q))
theorem oH {w:Wt} {l:List Wt} {p:Int} (h:w.key=p):LF (w::l) p=w::LF l p:=by
  unfold LF;rw [List.filter_cons_of_pos (by simpa using h)]
theorem ox {w:Wt} {l:List Wt} {p:Int} (h:w.key≠p):LF (w::l) p=LF l p:=by
  unfold LF;rw [List.filter_cons_of_neg (by simpa using h)]
theorem uK (p:Int):∀(L:List Wt) (n:Nat),xx L→rZ p n L=AD L (((LF L p).take n).map (·.who))
  | [],n,_=>by
    show [] =AD [] _
    have:LF [] p=[] :=rfl;rw [this,List.take_nil];rfl
  |w::l,n,h=>by
    show (if w.key=p∧0<n then rZ p (n-1) l else w::rZ p n l)=_
    have hl:=(List.pairwise_cons.1 h).2;have hw:=(List.pairwise_cons.1 h).1
    by_cases c:w.key=p
    · by_cases c2:0<n
      · rw [if_pos ⟨c,c2⟩,oH c,uK p l _ hl]
        obtain ⟨m,rfl⟩:∃m,n=m+1:=⟨n-1,by omega⟩
        rw [Nat.add_sub_cancel,List.take_succ_cons,List.map_cons]
        show _=AD (Df (w::l) w.who) _
        rw [N0 h]
      · rw [if_neg (fun q=>c2 q.2),show n=0 by omega,sE,List.take_zero];rfl
    · rw [if_neg (fun q=>c q.1),ox c,uK p l _ hl,MG]
      intro q;obtain ⟨z,hz,e⟩:=List.mem_map.1 q;exact hw z (vO.1 (List.mem_of_mem_take hz)).1 e.symm
theorem yJ {p:Int} {w:Wt} {l:List Wt} {n:Nat} (h:w.key≠p∨n=0):rZ p n (w::l)=w::rZ p n l:=if_neg (fun q=>by rcases h with h|h;exact h q.1;omega)
theorem Bd {p:Int} {w:Wt} {l:List Wt} {n:Nat} (h:w.key=p) (hn:0<n):rZ p n (w::l)=rZ p (n-1) l:=if_pos ⟨h,hn⟩
theorem yt:∀(l:List Int) (s:BitVec 64) (q:Nat),(l.foldl bZ s).getLsbD q=(s.getLsbD q||(decide (q<64)&&l.any (fun k=>decide (k=(q:Int)))))
  | [],s,q=>by simp
  |k::l,s,q=>by
    rw [List.foldl_cons,yt l,List.any_cons]
    show ((s|||nH k).getLsbD q||_)=_
    rw [BitVec.getLsbD_or,ou]
    by_cases e:k=(q:Int)
    · subst e;by_cases c:q<64<;>simp [c]
    · have:¬(q:Int)=k:=fun z=>e z.symm
      by_cases c:q<64<;>simp [c,e,this]
theorem CR (l:List Int) (q:Nat):(kf l).getLsbD q=(decide (q<64)&&l.any (fun k=>decide (k=(q:Int)))):=by
  unfold kf;rw [yt];simp
theorem Bs (l:List Int) (q:Int) (h:0≤q∧q<64):aR (kf l) q=l.any (fun k=>decide (k=q)):=by
  unfold aR;rw [CR]
  have e:((q.toNat:Nat):Int)=q:=by omega
  rw [e];simp [h.1,h.2]
theorem Ip {l:List Int} (h:∀k∈l,0≤k∧k<64):kf l=0#64↔l.length=0:=by
  constructor
  · intro e
    cases l with
    |nil=>rfl
    |cons k l=>
      have hk:=h k (List.mem_cons_self ..);have:=Bs (k::l) k hk;rw [e,dd] at this;simp at this
  · intro e;rw [List.eq_nil_of_length_eq_zero e];rfl
theorem QS {x:nI} {p:Int} (h:pF x p=true) (hl:x.l.length≤8):0≤p∧p<64:=by
  obtain ⟨i,rfl,hi⟩:=wM h;omega
def Cc (p:Int) (d:Bool):List Int→List Hd
  | [] =>[]
  |t::os=>⟨t,p,d⟩::os.map (fun t=>⟨t,p,false⟩)
theorem ZF (p:Int):∀os,Cc p false os=os.map (fun t=>(⟨t,p,false⟩:Hd))
  | [] =>rfl
  |t::os=>rfl
theorem mN (p:Int):∀(os:List Int) (x:bf),os.foldl (fun x t=>nb x t p) x= {x with ho:=x.ho++Cc p x.di os,di:=x.di&&os.isEmpty}
  | [],x=>by simp [Cc]
  |t::os,x=>by
    rw [List.foldl_cons,mN p os]
    show ({x with ho:=(x.ho++ [⟨t,p,x.di⟩])++Cc p false os,di:=false&&os.isEmpty} :bf)= {x with ho:=x.ho++(⟨t,p,x.di⟩::os.map (fun t=>⟨t,p,false⟩)),di:=x.di&&false}
    rw [ZF,List.append_assoc,Bool.false_and,Bool.and_false];rfl
theorem rb (p:Int) (d:Bool):∀os,(Cc p d os).length=os.length
  | [] =>rfl
  |t::os=>by simp [Cc]
theorem Bl (p:Int) (d:Bool):∀os,(Cc p d os).map (·.t)=os
  | [] =>rfl
  |t::os=>by simp [Cc,Function.comp_def]
theorem Jt {p:Int} {d:Bool} :∀{os:List Int} {h:Hd},h∈Cc p d os→h.p=p
  | [],h,q=>by cases q
  |t::os,h,q=>by
    rcases List.mem_cons.1 q with rfl|q
    · rfl
    · obtain ⟨t',_,rfl⟩:=List.mem_map.1 q;rfl
theorem fj (x:bf) (p:Int) (n:Nat):lS x p n= {x with wt:=AD x.wt (dk x p n),ho:=x.ho++Cc p x.di (dk x p n),di:=x.di&&(dk x p n).isEmpty} :=mN p _ _
structure p8 (x:bf):Prop where
  wd:xx x.wt
  w8:x.wt.length≤8
  hd:(x.ho.map (·.t)).Nodup
  dj:∀w∈x.wt,∀h∈x.ho,w.who≠h.t
  wk:∀w∈x.wt,pF x.ld w.key=true
  hk:∀h∈x.ho,pF x.ld h.p=true
  wz:∀w∈x.wt,w.til=0#64
  ex:x.sh=false→x.ho.length≤1
  rd:x.sh=true→(∀h∈x.ho,h.p=0)∨x.ho.length≤1
  l2:x.sh=true→x.ld.l.length=2
  l8:x.ld.l.length≤8
structure lM (x:bf):Prop extends p8 x where
  em:x.ho.length=0→x.wt.length=0
theorem p8.core {x y:bf} (h:p8 x) (e1:y.sh=x.sh) (e2:y.ho=x.ho) (e3:y.wt=x.wt) (e4:y.ld.l.length=x.ld.l.length):p8 y:=by
  have hi:∀p,pF y.ld p=pF x.ld p:=fun p=>by unfold pF;rw [e4]
  refine ⟨?_,?_,?_,?_,?_,?_,?_,?_,?_,?_,?_⟩
  · rw [e3];exact h.wd
  · rw [e3];exact h.w8
  · rw [e2];exact h.hd
  · rw [e2,e3];exact h.dj
  · rw [e3];exact fun w hw=>by rw [hi];exact h.wk w hw
  · rw [e2];exact fun w hw=>by rw [hi];exact h.hk w hw
  · rw [e3];exact h.wz
  · rw [e1,e2];exact h.ex
  · rw [e1,e2];exact h.rd
  · rw [e1,e4];exact h.l2
  · rw [e4];exact h.l8
theorem lM.core {x y:bf} (h:lM x) (e1:y.sh=x.sh) (e2:y.ho=x.ho) (e3:y.wt=x.wt) (e4:y.ld.l.length=x.ld.l.length):lM y:=
  ⟨h.top8.core e1 e2 e3 e4,by rw [e2,e3];exact h.em⟩
theorem g9 (x:nI) (s:BitVec 64):(nr x s).l.length=x.l.length:=u2 x s
theorem lM.settle {x:bf} (h:lM x):lM (cX x):=h.core rfl rfl rfl (g9 _ _)
theorem p8.hws {x:bf} (h:p8 x):gG x=0#64↔x.wt.length=0:=by
  unfold gG
  rw [Ip (fun k hk=>by obtain ⟨w,hw,rfl⟩:=List.mem_map.1 hk;exact QS (h.wk w hw) h.l8),List.length_map]
theorem r5 {x:bf} {p:Int} {n:Nat} {t:Int} (h:t∈dk x p n):∃w∈x.wt,w.who=t∧w.key=p:=by
  unfold dk at h
  obtain ⟨w,hw,rfl⟩:=List.mem_map.1 h;have:=vO.1 (List.mem_of_mem_take hw);exact⟨w,this.1,rfl,this.2⟩
theorem Eh {x:bf} (h:xx x.wt) (p:Int) (n:Nat):(dk x p n).Nodup:=by
  unfold dk
  have h1:((LF x.wt p).take n).Pairwise (fun a b=>a.who≠b.who):=List.Pairwise.sublist (List.take_sublist _ _) (ZL h p);exact List.pairwise_map.2 h1
theorem Uo {L:List Wt} :∀{os:List Int},xx L→xx (AD L os):=by
  intro os
  unfold AD
  induction os generalizing L with
  |nil=>exact id
  |cons t os ih=>intro h;rw [List.foldl_cons];exact ih (KE h t)
theorem Ti {L:List Wt} :∀{os:List Int},(AD L os).length≤L.length:=by
  intro os
  unfold AD
  induction os generalizing L with
  |nil=>exact Nat.le_refl _
  |cons t os ih=>rw [List.foldl_cons];exact Nat.le_trans ih (List.length_filter_le _ _)
theorem p8.L9 {x:bf} (h:p8 x) (p:Int) (n:Nat) (hc:(x.ho.length=0∧(n=1∨(x.sh=true∧p=0)))∨(x.sh=true∧p=0∧∀h∈x.ho,h.p=0)):p8 (lS x p n):=by
  rw [fj];have hm:∀t∈dk x p n,∃w∈x.wt,w.who=t∧w.key=p:=fun t ht=>r5 ht;refine ⟨Uo h.wd,Nat.le_trans Ti h.w8,?_,?_,fun w hw=>h.wk w (ph.1 hw).1,?_,fun w hw=>h.wz w (ph.1 hw).1,?_,?_,h.l2,h.l8⟩
  · show ((x.ho++Cc p x.di (dk x p n)).map (·.t)).Nodup
    rw [List.map_append,Bl,List.nodup_append];refine ⟨h.hd,Eh h.wd p n,fun a ha b hb e=>?_⟩;obtain ⟨g,hg,rfl⟩:=List.mem_map.1 ha;obtain ⟨w,hw,e2,_⟩:=hm b hb;exact h.dj w hw g hg (e2.trans e.symm)
  · intro w hw g hg
    have X8:=ph.1 hw;rcases List.mem_append.1 hg with hg|hg
    · exact h.dj w X8.1 g hg
    · intro e
      refine X8.2 ?_;have:g.t∈(Cc p x.di (dk x p n)).map (·.t):=List.mem_map.2 ⟨g,hg,rfl⟩;rw [Bl] at this;rw [e];exact this
  · intro g hg
    rcases List.mem_append.1 hg with hg|hg
    · exact h.hk g hg
    · have hp:=Jt hg
      have:g.t∈(Cc p x.di (dk x p n)).map (·.t):=List.mem_map.2 ⟨g,hg,rfl⟩;rw [Bl] at this;obtain ⟨w,hw,_,e⟩:=hm _ this
      show pF x.ld g.p=true
      rw [hp,←e];exact h.wk w hw
  · intro hs
    show (x.ho++_).length≤1
    rw [List.length_append,rb];rcases hc with ⟨h0,hn⟩|⟨q,_⟩
    · rcases hn with rfl|⟨q,_⟩
      · have:(dk x p 1).length≤1:=by unfold dk;rw [List.length_map,List.length_take];omega
        omega
      · rw [hs] at q;cases q
    · rw [hs] at q;cases q
  · intro hs
    show (∀g∈x.ho++Cc p x.di (dk x p n),g.p=0)∨(x.ho++Cc p x.di (dk x p n)).length≤1
    rcases hc with ⟨h0,hn⟩|⟨_,hp,hh⟩
    · have e0:=List.eq_nil_of_length_eq_zero h0
      rcases hn with rfl|⟨_,hp⟩
      · right
        have:(dk x p 1).length≤1:=by unfold dk;rw [List.length_map,List.length_take];omega
        rw [List.length_append,rb];omega
      · left
        intro g hg;rw [e0,List.nil_append] at hg;exact(Jt hg).trans hp
    · left
      intro g hg;rcases List.mem_append.1 hg with hg|hg
      · exact hh g hg
      · exact(Jt hg).trans hp
theorem Nr {x:bf} (h:p8 x) (hw:¬x.wt.length=0):∃w∈x.wt,w.key=(dJ x).tr.p:=by
  have hs:gG x≠0#64:=fun q=>hw (h.hws.1 q)
  have key:aR (gG x) (dJ x).tr.p=true:=by
    show aR (gG x) (pY x.tr x.sl (gG x) (eI x.ld.l (gG x) x.ld.l.length)).p=true
    unfold pY
    split
    · rename_i c
      rcases c with c|c
      · exact absurd c hs
      · exact c.1
    · show aR (gG x) (eI x.ld.l (gG x) x.ld.l.length)=true
      have hle:=wo x.ld.l (gG x) x.ld.l.length
      have h0:0≤eI x.ld.l (gG x) x.ld.l.length:=by
        apply Classical.byContradiction;intro q
        have gZ:=wV (l:=x.ld.l) (s:=gG x) (k:=x.ld.l.length) om;cases hx:x.wt with
        |nil=>rw [hx] at hw;exact hw rfl
        |cons w l=>
          have PG:=h.wk w (by rw [hx];exact List.mem_cons_self ..);obtain ⟨i,hi,er⟩:=wM PG;have:=gZ i er;rw [show gG x=kf (x.wt.map (·.key)) from rfl,CR,hx] at this;have h8:=h.l8;rw [decide_eq_true om,List.map_cons,List.any_cons,hi] at this;simp at this
      have hb:=yj x.ld.l (gG x) x.ld.l.length h0;have h8:=h.l8
      unfold aR;rw [decide_eq_true h0,decide_eq_true om,hb];rfl
  have hr:=gA key;rw [show gG x=kf (x.wt.map (·.key)) from rfl,Bs _ _ hr,List.any_eq_true] at key;obtain ⟨k,hk,e⟩:=key;obtain ⟨w,hw,rfl⟩:=List.mem_map.1 hk;exact⟨w,hw,of_decide_eq_true e⟩
theorem M5 {x:bf} {p:Int} {n:Nat} (hn:0<n) (h:∃w∈x.wt,w.key=p):0<(dk x p n).length:=by
  obtain ⟨w,hw,e⟩:=h;have:w∈LF x.wt p:=vO.2 ⟨hw,e⟩;have h1:=List.length_pos_of_mem this
  unfold dk;rw [List.length_map,List.length_take];omega
theorem GU (x:bf):0<mZ x:=by unfold mZ;split<;>decide
theorem p8.pass {x:bf} (h:p8 x) (h0:x.ho.length=0):lM (kl x):=by
  unfold kl
  split
  · rename_i hw;exact⟨h,fun _=>hw⟩
  · rename_i hw
    have hv:p8 (dJ x):=h.core rfl rfl rfl rfl;have hk:=Nr h hw;have akw:0<(dk (dJ x) (dJ x).tr.p (mZ x)).length:=M5 (GU x) hk;refine ⟨hv.L9 _ _ (.inl ⟨h0,?_⟩),fun q=>?_⟩
    · unfold mZ;split
      · rename_i c;exact .inr c
      · exact .inl rfl
    · rw [fj] at q
      have q2:(x.ho++Cc (dJ x).tr.p x.di (dk (dJ x) (dJ x).tr.p (mZ x))).length=0:=q;rw [List.length_append,rb] at q2;omega
theorem oV {x:bf} {t p:Int} (h:cV x t p=0):pF x.ld p=true∧0≤t∧bu x t=false∧cC x t=false:=by
  unfold cV at h
  by_cases c1:pF x.ld p=false∨t<0
  · rw [if_pos c1] at h;cases h
  · rw [if_neg c1] at h
    by_cases c2:bu x t=true
    · rw [if_pos c2] at h;cases h
    · rw [if_neg c2] at h
      by_cases c3:cC x t=true
      · rw [if_pos c3] at h;cases h
      · exact⟨by simpa using fun q=>c1 (.inl q),by omega,by simpa using c2,by simpa using c3⟩
theorem sb {x:bf} {t:Int} (h:bu x t=false):∀g∈x.ho,g.t≠t:=fun g hg e=>by
  unfold bu at h;rw [List.any_eq_false] at h;exact h g hg (decide_eq_true e)
theorem BC {x:bf} {t:Int} (h:cC x t=false):∀w∈x.wt,w.who≠t:=fun g hg e=>by
  unfold cC at h;rw [List.any_eq_false] at h;exact h g hg (decide_eq_true e)
theorem Dv {x:bf} {p:Int} (h:p8 x) (hf:gE x p=true):pF x.ld p=true∧(x.ho.length=0∨(p=0∧x.sh=true∧0<x.ho.length∧∀g∈x.ho,g.p=0)):=by
  unfold gE lr at hf
  simp only [Bool.and_eq_true,Bool.or_eq_true,decide_eq_true_eq] at hf;refine ⟨hf.1,?_⟩;rcases hf.2 with q|⟨q1,⟨q2,q3,q4⟩,_⟩
  · exact .inl q
  · refine .inr ⟨q1,q2,q3,fun g hg=>?_⟩
    rcases h.rd q2 with r|r
    · exact r g hg
    · cases hx:x.ho with
      |nil=>rw [hx] at hg;cases hg
      |cons a l=>
        rw [hx] at r q4 hg;have:l=[] :=List.eq_nil_of_length_eq_zero (by simp at r;simp [r]);subst this;rcases List.mem_singleton.1 hg with rfl
        exact q4
theorem ff (x:bf) (p:Int):(ca x p).sh=x.sh∧(ca x p).ho=x.ho∧(ca x p).wt=x.wt∧(ca x p).ld=x.ld∧(ca x p).sl=x.sl∧(ca x p).di=x.di:=by
  unfold ca;split<;>exact⟨rfl,rfl,rfl,rfl,rfl,rfl⟩
theorem lM.take {x:bf} (h:lM x) (t p:Int):lM (cR x t p):=by
  unfold cR
  split
  · exact h
  · rename_i hE
    have CY:dx x t p=0:=by simpa using hE
    unfold dx at CY
    by_cases c:cV x t p≠0
    · rw [if_pos c] at CY;exact absurd CY c
    · rw [if_neg c] at CY
      have hc:=oV (by simpa using c)
      by_cases hf:gE x p=true
      · obtain ⟨_,hh⟩:=Dv h.top8 hf
        have hv:=h.top8;obtain ⟨e1,e2,e3,e4,e5,e6⟩:=ff x p;refine lM.settle ⟨?_,fun q=>?_⟩
        · have gZ:=sb hc.2.2.1
          have C7:=BC hc.2.2.2
          have key:p8 {x with ho:=x.ho++ [(⟨t,p,x.di⟩:Hd)] } :=by
            refine ⟨hv.wd,hv.w8,?_,?_,hv.wk,?_,hv.wz,?_,?_,hv.l2,hv.l8⟩
            · show ((x.ho++ [(⟨t,p,x.di⟩:Hd)]).map (·.t)).Nodup
              rw [List.map_append,List.nodup_append];refine ⟨hv.hd,by simp,fun a ha b hb e=>?_⟩;obtain ⟨g,hg,rfl⟩:=List.mem_map.1 ha;simp only [List.map_cons,List.map_nil,List.mem_singleton] at hb;exact gZ g hg (e.trans hb)
            · intro w hw g hg
              rcases List.mem_append.1 hg with hg|hg
              · exact hv.dj w hw g hg
              · rw [List.mem_singleton.1 hg];exact C7 w hw
            · intro g hg
              rcases List.mem_append.1 hg with hg|hg
              · exact hv.hk g hg
              · rw [List.mem_singleton.1 hg];exact hc.1
            · intro hs
              show (x.ho++ [_]).length≤1
              rw [List.length_append];rcases hh with q|⟨_,q,_⟩
              · simp [q]
              · rw [hs] at q;cases q
            · intro hs
              show (∀g∈x.ho++ [(⟨t,p,x.di⟩:Hd)],g.p=0)∨(x.ho++ [(⟨t,p,x.di⟩:Hd)]).length≤1
              rcases hh with q|⟨q1,_,_,q2⟩
              · right;rw [List.length_append,q];simp
              · left;intro g hg
                rcases List.mem_append.1 hg with hg|hg
                · exact q2 g hg
                · rw [List.mem_singleton.1 hg];exact q1
          exact key.core (by show (ca x p).sh=_;rw [e1]) (by show (ca x p).ho++ [⟨t,p,(ca x p).di⟩] =_;rw [e2,e6]) (by show (ca x p).wt=_;rw [e3]) (by show (ca x p).ld.l.length=_;rw [e4])
        · exfalso
          have:((ca x p).ho++ [(⟨t,p,(ca x p).di⟩:Hd)]).length=0:=q;rw [List.length_append] at this;simp at this
      · rw [if_neg hf] at CY;cases CY
theorem lM.wait {x:bf} (h:lM x) (t p:Int):lM (dQ x t p):=by
  unfold dQ
  split
  · exact h
  · rename_i hE
    have CY:jT x t p=0:=by simpa using hE
    unfold jT at CY
    by_cases c:cV x t p≠0
    · rw [if_pos c] at CY;exact absurd CY c
    · rw [if_neg c] at CY
      have hc:=oV (by simpa using c)
      by_cases hf:gE x p=true
      · rw [if_pos hf] at CY;cases CY
      · rw [if_neg hf] at CY
        by_cases h8:8≤x.wt.length
        · rw [if_pos h8] at CY;cases CY
        · have hv:=h.top8
          have gZ:=sb hc.2.2.1;have C7:=BC hc.2.2.2;refine lM.settle ⟨⟨Pn hv.wd C7,by show (x.wt++ [_]).length≤8;rw [List.length_append];simp;omega,hv.hd,?_,?_,hv.hk,?_,hv.ex,hv.rd,hv.l2,hv.l8⟩,fun q=>?_⟩
          · intro w hw g hg
            rcases List.mem_append.1 hw with hw|hw
            · exact hv.dj w hw g hg
            · rw [List.mem_singleton.1 hw];exact fun e=>gZ g hg e.symm
          · intro w hw
            rcases List.mem_append.1 hw with hw|hw
            · exact hv.wk w hw
            · rw [List.mem_singleton.1 hw];exact hc.1
          · intro w hw
            rcases List.mem_append.1 hw with hw|hw
            · exact hv.wz w hw
            · rw [List.mem_singleton.1 hw]
          · exfalso;apply hf
            unfold gE
            rw [hc.1,decide_eq_true (show x.ho.length=0 from q)];rfl
theorem p8.out {x:bf} (h:p8 x) (t:Int):p8 (fu x t):=by
  have mM:∀g∈(fu x t).ho,g∈x.ho:=fun g hg=>List.mem_of_mem_eraseIdx hg;have hlen:(fu x t).ho.length≤x.ho.length:=List.Sublist.length_le (List.eraseIdx_sublist _ _);refine ⟨h.wd,h.w8,?_,fun w hw g hg=>h.dj w hw g (mM g hg),h.wk,fun g hg=>h.hk g (mM g hg),h.wz,fun hs=>Nat.le_trans hlen (h.ex hs),fun hs=>?_,h.l2,h.l8⟩
  · exact List.Nodup.sublist (List.Sublist.map _ (List.eraseIdx_sublist _ _)) h.hd
  · rcases h.rd hs with q|q
    · exact .inl (fun g hg=>q g (mM g hg))
    · exact .inr (Nat.le_trans hlen q)
theorem lM.BD {x:bf} (h:p8 x) (t:Int) (he:x.ho.length=0→x.wt.length=0):lM (eQ x t):=by
  unfold eQ
  split
  · refine lM.settle ?_
    split
    · rename_i h0;exact(h.out t).pass h0
    · rename_i h0;exact⟨h.out t,fun q=>absurd q h0⟩
  · exact⟨h,he⟩
theorem p8.gone {x:bf} (h:p8 x) (t:Int):p8 (du x t):=
  ⟨KE h.wd t,Nat.le_trans (List.length_filter_le _ _) h.w8,h.hd,fun w hw=>h.dj w (qp.1 hw).1,fun w hw=>h.wk w (qp.1 hw).1,h.hk,fun w hw=>h.wz w (qp.1 hw).1,h.ex,h.rd,h.l2,h.l8⟩
theorem Jn {x:bf} (h:p8 x) (hr:lr x=true):x.sh=true∧0<x.ho.length∧∀g∈x.ho,g.p=0:=by
  unfold lr at hr
  simp only [Bool.and_eq_true,decide_eq_true_eq] at hr;obtain ⟨q2,q3,q4⟩:=hr;refine ⟨q2,q3,fun g hg=>?_⟩;rcases h.rd q2 with r|r
  · exact r g hg
  · cases hx:x.ho with
    |nil=>rw [hx] at hg;cases hg
    |cons a l=>
      rw [hx] at r q4 hg;have:l=[] :=List.eq_nil_of_length_eq_zero (by simp at r;simp [r]);subst this;rcases List.mem_singleton.1 hg with rfl
      exact q4
theorem lM.lv {x:bf} (h:lM x) (t:Int):lM (fY x t):=by
  unfold fY
  split
  · rename_i hw
    refine lM.settle ?_;have hg:=h.top8.gone t
    have fi:x.ho.length≠0:=fun q=>by
      have:=h.em q
      unfold cC at hw
      rw [List.eq_nil_of_length_eq_zero this] at hw;cases hw
    split
    · rename_i c
      have hr:=Jn h.top8 c.1;refine ⟨hg.L9 0 8 (.inr ⟨hr.1,rfl,hr.2.2⟩),fun q=>?_⟩;rw [fj] at q;have q2:(x.ho++_).length=0:=q;rw [List.length_append] at q2;omega
    · exact⟨hg,fun q=>absurd q fi⟩
  · exact h
theorem lM.die {x:bf} (h:lM x) (t:Int):lM (sw x t):=by
  unfold sw
  split
  · exact h.lv t
  · split
    · exact lM.BD (x:= {x with di:=true}) (h.top8.core rfl rfl rfl rfl) t h.em
    · exact h
theorem lM.xD {x:bf} (h:lM x) (t:Int):lM (jk x t):=by
  unfold jk
  split
  · refine lM.settle (h.core rfl rfl rfl ?_)
    show (x.ld.l.set _ _).length=_;rw [List.length_set]
  · exact h
theorem lM.P7 {x:bf} (h:lM x) (g wt:Int):lM (iL x g wt):=by
  unfold iL
  split
  · refine lM.settle (h.core rfl rfl rfl ?_)
    show (x.ld.l.set _ _).length=_;rw [List.length_set]
  · exact h
theorem OW (d:NJ) (gs:List Int):lM (nY d gs):=by
  have hl:=Mi d gs;refine ⟨⟨List.Pairwise.nil,Nat.zero_le _,List.nodup_nil,fun w hw=>(by cases hw),fun w hw=>(by cases hw),fun w hw=>(by cases hw),fun w hw=>(by cases hw),fun _=>Nat.zero_le _,fun _=> .inr (Nat.zero_le _),fun hs=>?_,?_⟩,fun _=>rfl⟩
  · show (lC (td d gs) _ _).l.length=2
    rw [lG];unfold td;rw [if_pos (show d.sh=true from hs)];rfl
  · show (lC (td d gs) _ _).l.length≤8
    rw [lG];omega
theorem wT (p:Int):∀(L:List Wt) (n:Nat),(rZ p n L).length+((LF L p).take n).length=L.length
  | [],n=>by
    have:LF [] p=[] :=rfl;rw [this,List.take_nil];rfl
  |w::l,n=>by
    by_cases c:w.key=p
    · by_cases c2:0<n
      · rw [Bd c c2,oH c]
        obtain ⟨m,rfl⟩:∃m,n=m+1:=⟨n-1,by omega⟩
        have:=wT p l m;rw [Nat.add_sub_cancel,List.take_succ_cons,List.length_cons,List.length_cons];omega
      · rw [show n=0 by omega,sE,List.take_zero];rfl
    · rw [yJ (.inl c),ox c]
      have:=wT p l n;rw [List.length_cons,List.length_cons];omega
theorem OG {x:bf} (h:xx x.wt) (p:Int) (n:Nat):(lS x p n).ho.length+(lS x p n).wt.length=x.ho.length+x.wt.length:=by
  rw [fj]
  show (x.ho++_).length+(AD x.wt (dk x p n)).length=_
  rw [List.length_append,rb];have:=wT p x.wt n;rw [uK p _ _ h] at this;have e:(dk x p n).length=((LF x.wt p).take n).length:=by unfold dk;rw [List.length_map]
  have e2:dk x p n=((LF x.wt p).take n).map (·.who):=rfl;rw [←e2,←e] at this;omega
structure kb (k:Nat) (x:bf):Prop where
  hl:x.ho.length+x.wt.length≤k
  hh:∀p,p<x.ld.l.length→0≤(gP x.ld.l p).h∧(gP x.ld.l p).h≤k
  tu:0≤x.tr.u
theorem kb.mono {k k':Nat} {x:bf} (h:kb k x) (hk:k≤k'):kb k' x:=⟨Nat.le_trans h.hl hk,fun p hp=>by have:=h.hh p hp;omega,h.tu⟩
theorem N7 {x:nI} {s:BitVec 64} {p:Nat} (hp:p<x.l.length):(gP (nr x s).l p).h=(gP x.l p).h:=by
  show (gP (ud x s x.l.length) p).h=_
  rw [mH hp,if_pos hp];rfl
theorem kb.settle {k:Nat} {x:bf} (h:kb k x):kb k (cX x):=
  ⟨h.hl, fun p hp => by have yg : p < x.ld.l.length := by rw [← g9]; exact hp
                        show 0≤(gP (nr x.ld _).l p).h∧_
                        rw [show (cX x).ld=nr x.ld (HH x) from rfl,N7 yg];exact h.hh p yg,h.tu⟩
theorem kb.L9 {k:Nat} {x:bf} (h:kb k x) (hw:xx x.wt) (p:Int) (n:Nat):kb k (lS x p n):=by
  have e:=OG hw p n;have e1:(lS x p n).ld=x.ld:=by rw [fj]
  have e2:(lS x p n).tr=x.tr:=by rw [fj]
  exact⟨by rw [e];exact h.hl,by rw [e1];exact h.hh,by rw [e2];exact h.tu⟩
theorem US {t:vT} {sl:Int} {s:BitVec 64} {le:Int} (h:0≤t.u):0≤(pY t sl s le).u:=by unfold pY;split;exact h;exact Int.le_refl _
theorem Pp {t:vT} (h:0≤t.u):0≤(iZ t).u:=by unfold iZ;split;show 0≤t.u+1;omega;exact h
theorem Xb {t:vT} {sl:Int} (h:0≤t.u):0≤(xX t sl).u:=by
  unfold xX;split
  · have:=ek (n:=sl) (show (1:Int)≤16 by decide);show 0≤aF sl 1 16;omega
  · exact h
theorem kb.pass {k:Nat} {x:bf} (h:kb k x) (hw:xx x.wt):kb k (kl x):=by
  unfold kl;split
  · exact h
  · exact kb.L9 (x:=dJ x) ⟨h.hl,h.hh,US h.tu⟩ hw _ _
theorem kb.take {k:Nat} {x:bf} (h:kb k x) (t p:Int):kb (k+1) (cR x t p):=by
  unfold cR;split
  · exact h.mono om
  · obtain ⟨e1,e2,e3,e4,e5,e6⟩:=ff x p
    refine kb.settle ⟨?_,?_,?_⟩
    · show ((ca x p).ho++ [_]).length+(ca x p).wt.length≤_
      rw [e2,e3,List.length_append,List.length_singleton];have:=h.hl;omega
    · show∀q,q<(ca x p).ld.l.length→0≤(gP (ca x p).ld.l q).h∧(gP (ca x p).ld.l q).h≤((k+1:Nat):Int)
      rw [e4];exact(h.mono (Nat.le_succ k)).hh
    · show 0≤(ca x p).tr.u
      unfold ca;split;exact Int.le_refl _;exact h.tu
theorem kb.wait {k:Nat} {x:bf} (h:kb k x) (t p:Int):kb (k+1) (dQ x t p):=by
  unfold dQ;split
  · exact h.mono om
  · refine kb.settle ⟨?_,(h.mono (Nat.le_succ k)).hh,h.tu⟩
    show x.ho.length+(x.wt++ [_]).length≤_
    rw [List.length_append,List.length_singleton];have:=h.hl;omega
theorem kb.BD {k:Nat} {x:bf} (h:kb k x) (hw:xx x.wt) (t:Int):kb k (eQ x t):=by
  unfold eQ;split
  · have ho:kb k (fu x t):=⟨by show (x.ho.eraseIdx _).length+_≤k;have:=List.Sublist.length_le (List.eraseIdx_sublist x.ho (gk x.ho t));have:=h.hl;show _+x.wt.length≤k;omega,h.hh,h.tu⟩
    refine kb.settle ?_
    split
    · exact ho.pass hw
    · exact ho
  · exact h
theorem kb.lv {k:Nat} {x:bf} (h:kb k x) (hw:xx x.wt) (t:Int):kb k (fY x t):=by
  unfold fY;split
  · have hg:kb k (du x t):=⟨by show x.ho.length+(Df x.wt t).length≤k;have:(Df x.wt t).length≤x.wt.length:=List.length_filter_le _ _;have:=h.hl;omega,h.hh,h.tu⟩
    refine kb.settle ?_
    split
    · exact hg.L9 (KE hw t) _ _
    · exact hg
  · exact h
theorem kb.die {k:Nat} {x:bf} (h:kb k x) (hw:xx x.wt) (t:Int):kb k (sw x t):=by
  unfold sw;split
  · exact h.lv hw t
  · split
    · exact kb.BD (x:= {x with di:=true}) ⟨h.hl,h.hh,h.tu⟩ hw t
    · exact h
theorem kb.xD {k:Nat} {x:bf} (h:kb k x) (t:Int):kb (k+1) (jk x t):=by
  unfold jk;split
  · refine kb.settle ⟨Nat.le_succ_of_le h.hl,fun q hq=>?_,Pp h.tu⟩
    generalize (x.ho.getD (gk x.ho t) default).p.toNat=pp at hq ⊢
    have js:q<x.ld.l.length:=by
      have:q<(x.ld.l.set pp (KR (gP x.ld.l pp))).length:=hq;rw [List.length_set] at this;exact this
    show 0≤(gP (x.ld.l.set pp (KR (gP x.ld.l pp))) q).h∧(gP (x.ld.l.set pp (KR (gP x.ld.l pp))) q).h≤_
    by_cases hp:pp<x.ld.l.length
    · rw [zG hp]
      split
      · rename_i e;subst e
        have:=h.hh q js
        show 0≤(gP x.ld.l q).h+1∧(gP x.ld.l q).h+1≤_
        omega
      · have:=h.hh q js;omega
    · rw [List.set_eq_of_length_le om];have:=h.hh q js;omega
  · exact h.mono om
theorem kb.P7 {k:Nat} {x:bf} (h:kb k x) (g wt:Int):kb k (iL x g wt):=by
  unfold iL;split
  · refine kb.settle ⟨h.hl,fun q hq=>?_,by show 0≤(if _ then _ else _:vT).u;split;exact Xb h.tu;exact h.tu⟩
    have js:q<x.ld.l.length:=by
      have:q<(x.ld.l.set g.toNat (ED x.ld (gP x.ld.l g.toNat) wt)).length:=hq;rw [List.length_set] at this;exact this
    show 0≤(gP (x.ld.l.set g.toNat (ED x.ld (gP x.ld.l g.toNat) wt)) q).h∧(gP (x.ld.l.set g.toNat (ED x.ld (gP x.ld.l g.toNat) wt)) q).h≤_
    by_cases hp:g.toNat<x.ld.l.length
    · rw [zG hp]
      split
      · rename_i e;subst e
        have:=h.hh _ js
        unfold ED;split
        · exact this
        · exact this
      · exact h.hh q js
    · rw [List.set_eq_of_length_le om];exact h.hh q js
  · exact h
theorem Qr (d:NJ) (gs:List Int):kb 0 (nY d gs):=by
  refine ⟨Nat.le_refl _,fun p hp=>?_,Int.le_refl _⟩
  have:∀q∈(lC (td d gs) (aF d.sl 1 16) d.cr).l,q.h=0:=fun q hq=>by
    unfold lC at hq
    obtain ⟨w,_,rfl⟩:=List.mem_map.1 hq;rfl
  have h2:=this (gP (nY d gs).ld.l p) (by unfold gP;rw [List.getD_eq_getElem?_getD,List.getElem?_eq_getElem hp];exact List.getElem_mem _);rw [h2];exact⟨Int.le_refl _,Int.le_refl _⟩
abbrev Gr:=List (BitVec 64)
def ot (G:Gr) (i:Nat):BitVec 64:=G.getD i 0#64
inductive lL (G:Gr) (s:BitVec 64):Nat→Prop
  |base {i:Nat} :aR s i=true→lL G s i
  |step {j i:Nat} :lL G s j→aR (ot G j) i=true→lL G s i
theorem lL.lt {G:Gr} {s:BitVec 64} {i:Nat} (h:lL G s i):i<64:=by
  cases h with
  |base h=>have:=gA h;omega
  |step _ h=>have:=gA h;omega
theorem lL.mono {G G':Gr} {s s':BitVec 64} {i:Nat} (h:lL G s i) (hG:∀j k:Nat,aR (ot G j) k=true→aR (ot G' j) k=true) (hs:∀k:Nat,aR s k=true→aR s' k=true):lL G' s' i:=by
  induction h with
  |base h=>exact .base (hs _ h)
  |step _ h ih=>exact .step ih (hG _ _ h)
theorem lL.trans {G:Gr} {s:BitVec 64} {i k:Nat} (h:lL G s i) (hk:lL G (ot G i) k):lL G s k:=by
  induction hk with
  |base h2=>exact .step h h2
  |step _ h2 ih=>exact .step ih h2
theorem lL.sub {G:Gr} {s t:BitVec 64} {k:Nat} (h:lL G t k) (hs:∀i:Nat,aR t i=true→lL G s i):lL G s k:=by
  induction h with
  |base h=>exact hs _ h
  |step _ h ih=>exact .step ih h
/-! how many -/
def xO (s:BitVec 64):Nat:=(Zc s).length
theorem filter_lt {α:Type} {p q:α→Bool} :∀(l:List α),(∀x∈l,p x=true→q x=true)→(∃x∈l,q x=true∧p x=false)→(l.filter p).length<(l.filter q).length
  | [],_,h=>by obtain ⟨x,hx,_⟩:=h;cases hx
  |a::l,Yo,hex=>by
    have hle:∀l:List α,(∀x∈l,p x=true→q x=true)→(l.filter p).length≤(l.filter q).length:=by
      intro l
      induction l with
      |nil=>intro _;exact Nat.le_refl _
      |cons a l ih=>
        intro h;have h1:=ih (fun x hx=>h x (List.mem_cons_of_mem _ hx));have h2:=h a (List.mem_cons_self ..);simp only [List.filter_cons];cases hp:p a<;>cases hq:q a<;>simp<;>first|omega|(rw [hp,hq] at h2;simp at h2)
    have h0:=hle l (fun x hx=>Yo x (List.mem_cons_of_mem _ hx));have ha:=Yo a (List.mem_cons_self ..);obtain ⟨x,hx,h1,h2⟩:=hex;simp only [List.filter_cons];rcases List.mem_cons.1 hx with rfl|hx
    · rw [h1,h2];simp;omega
    · have ih:=filter_lt l (fun x hx=>Yo x (List.mem_cons_of_mem _ hx)) ⟨x,hx,h1,h2⟩
      cases hp:p a<;>cases hq:q a<;>simp<;>first|omega|(rw [hp,hq] at ha;simp at ha)
theorem Fw {s t:BitVec 64} (h:∀k:Nat,aR s k=true→aR t k=true) {i:Nat} (hi:aR t i=true) (hn:aR s i=false):xO s<xO t:=by
  have hr:=gA hi;exact filter_lt _ (fun k _ hk=>by have:=h k;rw [fg,fg] at this;exact this hk) ⟨i,List.mem_range.2 om,by rw [←fg];exact hi,by rw [←fg];exact hn⟩
theorem zo (s:BitVec 64):xO s≤64:=by unfold xO Zc;refine Nat.le_trans (List.length_filter_le _ _) ?_;simp
theorem Ie {s t:BitVec 64} (h:¬t&&& ~~~s=0#64):∃i:Nat,aR t i=true∧aR s i=false:=by
  apply Classical.byContradiction;intro hn
  apply h;apply A0.2
  intro i hi ht;cases hs:aR s i
  · exact absurd ⟨i,ht,hs⟩ hn
  · rfl
/-! all that is come to -/
def Clo (G:Gr) (X:BitVec 64):Prop:=∀j i:Nat,aR X j=true→aR (ot G j) i=true→aR X i=true
structure Cl (G:Gr) (s X:BitVec 64):Prop where
  sup:∀i:Nat,aR s i=true→aR X i=true
  sound:∀i:Nat,aR X i=true→lL G s i
  clo:Clo G X
theorem Cl.iff {G:Gr} {s X:BitVec 64} (h:Cl G s X) (i:Nat):aR X i=true↔lL G s i:=by
  refine ⟨h.sound i,fun hr=>?_⟩
  induction hr with
  |base hb=>exact h.sup _ hb
  |step _ hb ih=>exact h.clo _ _ ih hb
theorem Cl.uniq {G:Gr} {s X Y:BitVec 64} (h:Cl G s X) (k:Cl G s Y):X=Y:=o4 (fun i _=>by
  rw [Bool.eq_iff_iff,h.iff,k.iff])
def stepG (G:Gr) (s:BitVec 64):BitVec 64:=(List.range 64).foldl (fun a (i:Nat)=>if aR s i=true then a|||ot G i else a) s
theorem wq (G:Gr) (s:BitVec 64):∀(l:List Nat) (a:BitVec 64) (k:Nat),aR (l.foldl (fun a (i:Nat)=>if aR s i=true then a|||ot G i else a) a) k=true↔aR a k=true∨∃i∈l,aR s i=true∧aR (ot G i) k=true
  | [],a,k=>by simp
  |i::l,a,k=>by
    rw [List.foldl_cons,wq G s l]
    by_cases h:aR s i=true
    · rw [if_pos h,kD,Bool.or_eq_true]
      constructor
      · rintro ((h1|h1)|⟨j,hj,h1⟩)
        · exact .inl h1
        · exact .inr ⟨i,List.mem_cons_self ..,h,h1⟩
        · exact .inr ⟨j,List.mem_cons_of_mem _ hj,h1⟩
      · rintro (h1|⟨j,hj,h1⟩)
        · exact .inl (.inl h1)
        · rcases List.mem_cons.1 hj with rfl|hj
          · exact .inl (.inr h1.2)
          · exact .inr ⟨j,hj,h1⟩
    · rw [if_neg h]
      constructor
      · rintro (h1|⟨j,hj,h1⟩)
        · exact .inl h1
        · exact .inr ⟨j,List.mem_cons_of_mem _ hj,h1⟩
      · rintro (h1|⟨j,hj,h1⟩)
        · exact .inl h1
        · rcases List.mem_cons.1 hj with rfl|hj
          · exact absurd h1.1 h
          · exact .inr ⟨j,hj,h1⟩
theorem sR (G:Gr) (s:BitVec 64) (k:Nat):aR (stepG G s) k=true↔aR s k=true∨∃i:Nat,aR s i=true∧aR (ot G i) k=true:=by
  unfold stepG;rw [wq]
  constructor
  · rintro (h|⟨i,_,h⟩)
    · exact .inl h
    · exact .inr ⟨i,h⟩
  · rintro (h|⟨i,h⟩)
    · exact .inl h
    · exact .inr ⟨i,List.mem_range.2 (by have:=gA h.1;omega),h⟩
def ovF (G:Gr):Nat→BitVec 64→BitVec 64
  |0,s=>s
  |n+1,s=>if stepG G s=s then s else ovF G n (stepG G s)
def rY (G:Gr) (s:BitVec 64):BitVec 64:=ovF G 65 s
theorem LP (G:Gr):∀(n:Nat) (s:BitVec 64),65≤n+xO s→Cl G s (ovF G n s)
  |0,s,h=>by have:=zo s;omega
  |n+1,s,h=>by
    rw [ovF]
    by_cases e:stepG G s=s
    · rw [if_pos e]
      exact⟨fun _ h=>h,fun i h=> .base h,fun j i hj hi=>by rw [←e,sR];exact .inr ⟨j,hj,hi⟩⟩
    · rw [if_neg e]
      have S1:∀k:Nat,aR s k=true→aR (stepG G s) k=true:=fun k hk=>(sR G s k).2 (.inl hk)
      obtain ⟨i,h1,h2⟩:∃i:Nat,aR (stepG G s) i=true∧aR s i=false:=by
        apply Classical.byContradiction;intro hn;apply e
        apply o4;intro k hk
        cases h1:aR s k
        · cases h2:aR (stepG G s) k
          · rfl
          · exact absurd ⟨k,h2,h1⟩ hn
        · exact S1 k h1
      have hc:=Fw S1 h1 h2;have ih:=LP G n (stepG G s) om;refine ⟨fun i hi=>ih.sup i (S1 i hi),fun i hi=>(ih.sound i hi).sub (fun k hk=>?_),ih.clo⟩;rcases (sR G s k).1 hk with h|⟨j,hj,hk⟩
      · exact .base h
      · exact .step (.base hj) hk
theorem Md (G:Gr) (s:BitVec 64):Cl G s (rY G s):=LP G 65 s om
theorem rK (G:Gr) (s:BitVec 64) (i:Nat):aR (rY G s) i=true↔lL G s i:=(Md G s).iff i
theorem U7 {G:Gr} {s X:BitVec 64} (h:Cl G s X):X=rY G s:=h.uniq (Md G s)
/-! one is set anew -/
theorem lU {G:Gr} (h:G.length=64) {w:Nat} (hw:w<64) (s:BitVec 64) (j:Nat):ot (G.set w s) j=if j=w then s else ot G j:=by
  unfold ot
  simp only [List.getD_eq_getElem?_getD,List.getElem?_set]
  by_cases e:w=j
  · subst e;simp [h,hw]
  · rw [if_neg e,if_neg (Ne.symm e)]
theorem y5 {G:Gr} (h:G.length=64) {w:Nat} (hw:w<64) {j k:Nat} (hb:aR (ot (G.set w 0#64) j) k=true):j≠w∧aR (ot G j) k=true:=by
  rw [lU h hw] at hb
  by_cases e:j=w
  · rw [if_pos e,dd] at hb;cases hb
  · rw [if_neg e] at hb;exact⟨e,hb⟩
theorem PS {G:Gr} (h:G.length=64) {w:Nat} (hw:w<64) {s:BitVec 64} {i:Nat} (hr:lL G s i):lL (G.set w 0#64) s i∨lL (G.set w 0#64) s w:=by
  induction hr with
  |base hb=>exact .inl (.base hb)
  | @step j i _ hb ih=>
    rcases ih with ih|ih
    · by_cases e:j=w
      · subst e;exact .inr ih
      · exact .inl (.step ih (by rw [lU h hw,if_neg e];exact hb))
    · exact .inr ih
theorem wK {G:Gr} (h:G.length=64) {w:Nat} (hw:w<64) {s:BitVec 64} :lL (G.set w 0#64) s w↔lL G s w:=by
  constructor
  · intro hr;exact hr.mono (fun j k hb=>(y5 h hw hb).2) (fun _ h=>h)
  · intro hr;rcases PS h hw hr with h1|h1<;>exact h1
theorem BY {G:Gr} (h:G.length=64) {w:Nat} (hw:w<64) (s:BitVec 64):aR (rY (G.set w 0#64) s) (w:Int)=aR (rY G s) (w:Int):=by
  rw [Bool.eq_iff_iff,rK,rK];exact wK h hw
def Ri (G:Gr):Prop:=∀i:Nat,¬lL G (ot G i) i
theorem FE {G:Gr} (h:G.length=64) {w:Nat} (hw:w<64) {s:BitVec 64} (hG:Ri G) (hs:¬lL G s w):Ri (G.set w s):=by
  have hlen:(G.set w s).length=64:=by rw [List.length_set];exact h
  have e2:(G.set w s).set w 0#64=G.set w 0#64:=by rw [List.set_set]
  have ha:¬lL (G.set w s) s w:=by
    intro hr;have h1:=(wK hlen hw).2 hr;rw [e2] at h1;exact hs ((wK h hw).1 h1)
  have up:∀{t:BitVec 64} {i:Nat},lL (G.set w 0#64) t i→lL (G.set w s) t i:=fun hr=>hr.mono (fun j k hb=>by
    obtain ⟨e,hb⟩:=y5 h hw hb;rw [lU h hw,if_neg e];exact hb) (fun _ h=>h)
  have part:∀{t:BitVec 64} {i:Nat},lL (G.set w s) t i→lL (G.set w 0#64) t i∨(lL (G.set w 0#64) t w∧lL (G.set w s) s i):=by
    intro t i hr
    induction hr with
    |base hb=>exact .inl (.base hb)
    | @step j i _ hb ih=>
      rcases ih with ih|⟨ih1,ih2⟩
      · by_cases e:j=w
        · subst e
          rw [lU h hw,if_pos rfl] at hb;exact .inr ⟨ih,.base hb⟩
        · rw [lU h hw,if_neg e] at hb
          exact .inl (.step ih (by rw [lU h hw,if_neg e];exact hb))
      · exact .inr ⟨ih1,.step ih2 hb⟩
  intro i hr
  by_cases e:i=w
  · subst e;rw [lU h hw,if_pos rfl] at hr;exact ha hr
  · rw [lU h hw,if_neg e] at hr
    rcases part hr with h1|⟨h1,h2⟩
    · exact hG i (h1.mono (fun j k hb=>(y5 h hw hb).2) (fun _ h=>h))
    · refine ha (h2.trans ?_)
      rw [lU h hw,if_neg e];exact up h1
def pX:Gr:=List.replicate 64 0#64
theorem H8:pX.length=64:=by simp [pX]
theorem CN (i:Nat):ot pX i=0#64:=by
  unfold ot pX;rw [List.getD_eq_getElem?_getD,List.getElem?_replicate];split<;>rfl
theorem KA:Ri pX:=by
  intro i h;rw [CN] at h
  have:∀{s:BitVec 64} {k:Nat},lL pX s k→s=0#64→False:=by
    intro s k hr
    induction hr with
    |base hb=>intro e;subst e;rw [dd] at hb;cases hb
    |step _ hb _=>intro _;rw [CN,dd] at hb;cases hb
  exact this h rfl
/-! what comes to one -/
def mkS (p:Nat→Bool):BitVec 64:=(List.range 64).foldl (fun a (i:Nat)=>if p i=true then bZ a i else a) 0#64
theorem Cz (p:Nat→Bool):∀(l:List Nat) (a:BitVec 64) (k:Nat),k<64→(aR (l.foldl (fun a (i:Nat)=>if p i=true then bZ a i else a) a) k=true↔aR a k=true∨(k∈l∧p k=true))
  | [],a,k,_=>by simp
  |i::l,a,k,hk=>by
    rw [List.foldl_cons,Cz p l _ k hk]
    by_cases h:p i=true
    · rw [if_pos h,iz,Bool.or_eq_true]
      simp only [Bool.and_eq_true,decide_eq_true_eq,List.mem_cons]
      constructor
      · rintro ((h1|⟨h1,_⟩)|⟨h1,h2⟩)
        · exact .inl h1
        · have:k=i:=by omega
          subst this;exact .inr ⟨.inl rfl,h⟩
        · exact .inr ⟨.inr h1,h2⟩
      · rintro (h1|⟨rfl|h1,h2⟩)
        · exact .inl (.inl h1)
        · exact .inl (.inr ⟨rfl,by omega,by omega⟩)
        · exact .inr ⟨h1,h2⟩
    · rw [if_neg h]
      constructor
      · rintro (h1|⟨h1,h2⟩)
        · exact .inl h1
        · exact .inr ⟨List.mem_cons_of_mem _ h1,h2⟩
      · rintro (h1|⟨h1,h2⟩)
        · exact .inl h1
        · rcases List.mem_cons.1 h1 with rfl|h1
          · exact absurd h2 h
          · exact .inr ⟨h1,h2⟩
theorem QR (p:Nat→Bool) {k:Nat} (hk:k<64):aR (mkS p) k=p k:=by
  rw [Bool.eq_iff_iff];unfold mkS;rw [Cz p _ _ k hk,dd];simp [hk]
def ZD (G:Gr) (w:Nat):BitVec 64:=mkS (fun i=>aR (rY G (ot G i)) w)
theorem Py (G:Gr) (w i:Nat) (hi:i<64):aR (ZD G w) i=true↔lL G (ot G i) w:=by
  unfold ZD;rw [QR _ hi,rK]
/-! chains -/
structure Met (G:Gr) (V:BitVec 64) (w:Int):Prop where
  reach:∀i:Nat,aR V i=true→0≤w→w<64→lL G (ot G i) w.toNat
end Go.Eng
namespace Go.Eng
open Go Go.RowKit
structure OvI (G:Gr) (s met todo:BitVec 64):Prop where
  sup:∀i:Nat,aR s i=true→aR met i=true
  sound:∀i:Nat,aR met i=true→lL G s i
  sub:∀i:Nat,aR todo i=true→aR met i=true
  done:∀j:Nat,aR met j=true→aR todo j=false→∀i:Nat,aR (ot G j) i=true→aR met i=true
theorem xl {s:BitVec 64} {i:Nat} (h:aR s i=true):i<64:=by have:=gA h;omega
def Gt (w:Int):Bool:=decide (0≤w)&&decide (w<64)
def Nq (G:Gr) (w:Int) (s:BitVec 64):Int:=if Gt w=true then (if aR (rY G s) w=true then 9 else 0) else 1
def CZ (G:Gr) (w:Int) (s:BitVec 64):Gr:=if Nq G w s=0 then G.set w.toNat s else G
theorem yX {G:Gr} (h:G.length=64) (w:Int) (s:BitVec 64):(CZ G w s).length=64:=by unfold CZ;split<;>simp [h]
theorem ky {w:Int} :Gt w=true↔0≤w∧w<64:=by simp [Gt]
theorem Ke {G:Gr} {w:Int} {s:BitVec 64} (h:Nq G w s=0):(0≤w∧w<64)∧aR (rY G s) w=false:=by
  unfold Nq at h
  by_cases h1:Gt w=true
  · rw [if_pos h1] at h
    by_cases h2:aR (rY G s) w=true
    · rw [if_pos h2] at h;omega
    · exact⟨ky.1 h1,by simpa using h2⟩
  · rw [if_neg h1] at h;omega
theorem Od {G:Gr} (h:G.length=64) (hG:Ri G) (w:Int) (s:BitVec 64):Ri (CZ G w s):=by
  unfold CZ
  by_cases e:Nq G w s=0
  · rw [if_pos e]
    obtain ⟨hw,hb⟩:=Ke e;refine FE h om hG (fun hr=>?_);have:=(rK G s w.toNat).2 hr;rw [show ((w.toNat:Nat):Int)=w by omega,hb] at this;cases this
  · rw [if_neg e];exact hG
def Ju (G:Gr) (w:Int):BitVec 64:=if Gt w=true then rY G (ot G w.toNat) else 0#64
def vZ (G:Gr) (w:Int):BitVec 64:=if Gt w=true then ZD G w.toNat else 0#64
structure Ed where
  who:Int
  to:Int
deriving Inhabited,DecidableEq
structure Dd where
  kind:Int
  who:Int
  set:BitVec 64
deriving Inhabited
/-! the document's -/
structure Ny (G:Gr) (s X:BitVec 64):Prop where
  sup:∀i:Nat,aR s i=true→aR X i=true
  sound:∀i:Nat,aR X i=true→lL G s i
theorem Ny.init (G:Gr) (s:BitVec 64):Ny G s s:=⟨fun _ h=>h,fun _ h=> .base h⟩
theorem Ny.put {G:Gr} {s X:BitVec 64} {i:Nat} (h:Ny G s X) (hb:(aR X (i:Nat)&&decide (ot G i&&& ~~~X≠0#64))=true):Ny G s (X|||ot G i)∧xO X<xO (X|||ot G i):=by
  rw [Bool.and_eq_true,decide_eq_true_eq] at hb;refine ⟨⟨fun k hk=>by rw [kD,h.sup k hk];rfl,fun k hk=>?_⟩,?_⟩
  · rw [kD,Bool.or_eq_true] at hk
    rcases hk with hk|hk
    · exact h.sound k hk
    · exact .step (h.sound i hb.1) hk
  · obtain ⟨k,h1,h2⟩:=Ie hb.2
    exact Fw (fun q hq=>by rw [kD,hq];rfl) (by rw [kD,h1];simp) h2
def HR (G:Gr) (X:BitVec 64) (n:Nat):Prop:=∀j:Nat,j<n→aR X j=true→∀i:Nat,aR (ot G j) i=true→aR X i=true
theorem HR.step {G:Gr} {X:BitVec 64} {n:Nat} (h:HR G X n) (hb:(aR X (n:Nat)&&decide (ot G n&&& ~~~X≠0#64))=false):HR G X (n+1):=fun j hj hx i hi=>by
  by_cases e:j=n
  · subst e
    rw [hx,Bool.true_and,decide_eq_false_iff_not,Classical.not_not] at hb;exact A0.1 hb i (xl hi) hi
  · exact h j om hx i hi
theorem Ny.end {G:Gr} {s X:BitVec 64} (h:Ny G s X) (hc:HR G X 64):X=rY G s:=U7 ⟨h.sup,h.sound,fun j i hj hi=>hc j (xl hj) hj i hi⟩
def Q7 (G:Gr) (who:Int) (n:Nat):BitVec 64:=(List.range n).foldl (fun a (i:Nat)=>if aR (rY G (ot G i)) who=true then bZ a (i:Nat) else a) 0#64
theorem rG (G:Gr) (who:Int) (n:Nat):Q7 G who (n+1)=if aR (rY G (ot G n)) who=true then bZ (Q7 G who n) (n:Nat) else Q7 G who n:=by
  unfold Q7;rw [List.range_succ,List.foldl_append];rfl
theorem OL (G:Gr) (who:Int):Q7 G who 64=vZ G who:=by
  unfold vZ
  by_cases h:Gt who=true
  · rw [if_pos h]
    have hw:=ky.1 h;have e:((who.toNat:Nat):Int)=who:=by omega
    unfold Q7 ZD mkS;rw [e]
  · rw [if_neg h]
    have:∀n,Q7 G who n=0#64:=by
      intro n
      induction n with
      |zero=>rfl
      |succ n ih=>
        rw [rG,if_neg,ih];intro hb;have:=gA hb;exact h (ky.2 this)
    exact this 64
theorem L2 (G:Gr):rY G 0#64=0#64:=by
  apply o4;intro i hi;rw [dd]
  cases h:aR (rY G 0#64) i
  · rfl
  · exfalso
    have:∀{k:Nat},lL G 0#64 k→False:=by
      intro k hr
      induction hr with
      |base hb=>rw [dd] at hb;cases hb
      |step _ _ ih=>exact ih
    exact this ((rK G _ i).1 h)
/-! all edges -/
/-! deeds -/
end Go.Eng
