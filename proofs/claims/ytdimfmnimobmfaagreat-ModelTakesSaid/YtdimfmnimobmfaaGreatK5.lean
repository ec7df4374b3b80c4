/- The walks of ops that fit; of the ops, and the sections, that are gone over. No condition. -/
import Derived.Test.YtdimfmnimobmfaaGreatK2
import Derived.Test.YtdimfmnimobmfaaGreatK4
import Derived.Test.YtdimfmnimobmfaaGreatK3
set_option linter.unusedVariables false
set_option linter.unusedSimpArgs false
set_option maxRecDepth 100000
set_option maxHeartbeats 4000000
attribute [local irreducible] Go.Eng.LM Go.Eng.LD Go.Eng.KD Go.Eng.af Go.Eng.QM
namespace Go.Eng
open Go Go.Proofs Go.RowKit
abbrev lBc (b:Nat) (ad:Option Addr) (n cap:Nat):Nat×Obj:=(b,.cells #[.slice ad n cap] 27 (0,0))
abbrev Tc (b:Nat) (x:Int):Nat×Obj:=(b,.cells #[.int .i64 x] 3 (0,0))
abbrev eBc (b:Nat) (x:Int):Nat×Obj:=(b,.cells #[.int .i64 x] 190 (0,0))
def vF (fv:Bool) (ad:Option Addr) (n cap:Nat) (n0:Nat) (v:Value) (m:ab):Prop:=∃b1,v= .func (.func 188) #[] #[.pointer (some ⟨b1,0,none⟩)]∧m=[pB b1 fv ad n cap]∧n0≤b1
theorem vF.mono {fv:Bool} {ad:Option Addr} {n cap:Nat} :∀(k k':Nat) u m,k'≤k→vF fv ad n cap k u m→vF fv ad n cap k' u m:=fun k k' u m h ⟨b1,h1,h2,h3⟩=>⟨b1,h1,h2,by omega⟩
theorem FZ {T K:Bool} {q:Bool} {a:Int} {n:Nat} (hq:q=((T||K)&&decide (a ≥ n))) (h:q=false) (ht:T=true):a<n:=by
  rw [h,ht,Bool.true_or,Bool.true_and] at hq;have:=of_decide_eq_false hq.symm;omega
set_option maxHeartbeats 1000000 in
theorem Hn {xs:List cZ} {ls:List jv} {fv:Bool} {ad nJ:Option Addr} {n cap n2 eP:Nat} (i:Nat) (cb:Int) (w:World) (hn:n=xs.length) (hl:Sr fO 3 xs (.slice ad n cap) w) (xP:n2=ls.length) (kN:Sr fL 5 ls (.slice nJ n2 eP) w) (xC:iO xs=true) (hi:i<xs.length):aD Tryz.prog 176 #[pV fv ad n cap,.int .i64 (i:Nat),.slice nJ n2 eP,.int .i64 cb] w (fun v w'=>v= .int .i64 (dY fv xs ls cb i)∧Ext w w'):=by
 have hs:=o0 xC;have hr:=uD (v5 xC hi);refine aD.ao Tryz.func176 rfl Tryz.ntmps176 rfl ([]) (no) (Mem.nil w) ?_;refine J2 ?_;refine LM.box rfl rfl (fun b4 xw=>?_);refine J9 ?_;refine LM.eh (dB aB ir Tryz.isAgg168 Tryz.sizeOf168 rfl cJ id) ?_;refine LM.alloc Tryz.zeroValue168 rfl (fun b9 hb9=>?_);refine LM.dh Tryz.sizeOf168 rfl rfl rfl rfl df bV ?_;refine J6 ?_;refine cE Tryz.func189 rfl (fun w hm hc hg=>E7 _ w) ?_;refine J7 ?_;refine af.bC (α:=Bool) (fun q=>[(20,.bool q)]) [(1,_),(2,_),(3,_),(4,_),(9,_),(10,_)] (fun q=>oB b9 (xs.getD i default)::pB b4 fv ad n cap:: []) (fun q=>q=((iU (xs.getD i default).k||decide ((xs.getD i default).k=6))&&decide ((xs.getD i default).a ≥ n2))) cF ?_ ?_
 ·refine J3 ?_;refine LM.bj (t:=22) rfl (fun h1=>?_) (fun h1=>?_)
  ·refine kk ?_;refine mK (_) ?_
   · simp only [h1,decide_true,decide_false,Bool.true_and,Bool.false_and,Bool.and_true,Bool.and_false,Bool.not_true,Bool.not_false,Bool.true_or,Bool.false_or,Bool.or_true,Bool.or_false,ne_eq,not_true_eq_false,not_false_eq_true,Bool.and_self]
  refine J6 ?_;refine LM.aq (t:=27) rfl (fun h2=>?_) (fun h2=>?_)
  ·refine J9 ?_;refine mK (_) ?_
   · simp only [h1,h2,decide_true,decide_false,Bool.true_and,Bool.false_and,Bool.and_true,Bool.and_false,Bool.not_true,Bool.not_false,Bool.true_or,Bool.false_or,Bool.or_true,Bool.or_false,ne_eq,not_true_eq_false,not_false_eq_true,Bool.and_self]
  refine J8 ?_;refine mK (_) ?_
  · simp only [h1,h2,decide_true,decide_false,Bool.true_and,Bool.false_and,Bool.and_true,Bool.and_false,Bool.not_true,Bool.not_false,Bool.true_or,Bool.false_or,Bool.or_true,Bool.or_false,ne_eq,not_true_eq_false,not_false_eq_true,Bool.and_self]
 rintro q hq;change QM _ _ _ _ _ (oB b9 (xs.getD i default)::pB b4 fv ad n cap:: []) _ _ _;refine J1 ?_;refine af.sS (t:=20) rfl (fun h3=>?_) (fun h3=>?_)
 ·refine c9 ?_;refine qL Tryz.results176 rfl fun w' aj aa az=>?_;refine ⟨?_,aa⟩;simp only [ba,dY,←hn,←xP,←hq];simp only [h3,decide_true,decide_false,Bool.true_and,Bool.false_and,Bool.and_true,Bool.and_false,Bool.not_true,Bool.not_false,Bool.true_or,Bool.false_or,Bool.or_true,Bool.or_false,ne_eq,not_true_eq_false,not_false_eq_true,Bool.and_self,if_true,ite_true]
 refine af.bC (α:=Bool) (fun q2=>[(20,.bool q2)]) [(1,_),(2,_),(4,_),(9,_),(10,_)] (fun q2=>oB b9 (xs.getD i default)::pB b4 fv ad n cap:: []) (fun q2=>q2=(decide ((xs.getD i default).k=9)&&decide ((xs.getD i default).a ≥ cb))) cF ?_ ?_
 ·refine J5 ?_;refine LM.aq (t:=37) rfl (fun h4=>?_) (fun h4=>?_)
  ·refine J8 ?_;refine mK (_) ?_
   · simp only [h3,h4,decide_true,decide_false,Bool.true_and,Bool.false_and,Bool.and_true,Bool.and_false,Bool.not_true,Bool.not_false,Bool.true_or,Bool.false_or,Bool.or_true,Bool.or_false,ne_eq,not_true_eq_false,not_false_eq_true,Bool.and_self]
  refine J7 ?_;refine mK (_) ?_
  · simp only [h3,h4,decide_true,decide_false,Bool.true_and,Bool.false_and,Bool.and_true,Bool.and_false,Bool.not_true,Bool.not_false,Bool.true_or,Bool.false_or,Bool.or_true,Bool.or_false,ne_eq,not_true_eq_false,not_false_eq_true,Bool.and_self]
 rintro q2 js;change QM _ _ _ _ _ (oB b9 (xs.getD i default)::pB b4 fv ad n cap:: []) _ _ _;refine J1 ?_;refine af.aJ rfl (fun h5=>?_) (fun h5=>?_)
 ·refine J8 ?_;refine qL Tryz.results176 rfl fun w' aj aa az=>?_;refine ⟨?_,aa⟩;simp only [ba,dY,←hn,←xP,←hq,←js];simp only [h3,h5,decide_true,decide_false,Bool.true_and,Bool.false_and,Bool.and_true,Bool.and_false,Bool.not_true,Bool.not_false,Bool.true_or,Bool.false_or,Bool.or_true,Bool.or_false,ne_eq,not_true_eq_false,not_false_eq_true,Bool.and_self,if_true,ite_true]
 refine J1 ?_;refine af.bC (α:=Bool) (fun q3=>[(43,.bool q3)]) [(1,_),(2,_),(4,_),(9,_),(10,_)] (fun q3=>oB b9 (xs.getD i default)::pB b4 fv ad n cap:: []) (fun q3=>q3=(decide ((xs.getD i default).k=3)&& !(ls.getD (xs.getD i default).a.toNat default).sh)) cF ?_ ?_
 ·refine J5 ?_;refine LM.aq (t:=47) rfl (fun h6=>?_) (fun h6=>?_)
  ·have bD:=FZ hq h3 (by rw [h6];rfl);refine J4 ?_;refine LM.sp 47 rfl rfl rfl ?_;refine LM.val (bF j3 Tryz.underlying27 Tryz.sizeOf83 rfl rfl om) ?_;refine J2 ?_;refine LM.eh (da (j:=0) aB Tryz.isAgg4 rfl rfl cJ (by rfl) (by rfl) id) ?_;refine J4 ?_;refine mK (_) ?_
   · simp only [h3,h5,h6,decide_true,decide_false,Bool.true_and,Bool.false_and,Bool.and_true,Bool.and_false,Bool.not_true,Bool.not_false,Bool.true_or,Bool.false_or,Bool.or_true,Bool.or_false,ne_eq,not_true_eq_false,not_false_eq_true,Bool.and_self]
  refine cj ?_;refine mK (_) ?_
  · simp only [h3,h5,h6,decide_true,decide_false,Bool.true_and,Bool.false_and,Bool.and_true,Bool.and_false,Bool.not_true,Bool.not_false,Bool.true_or,Bool.false_or,Bool.or_true,Bool.or_false,ne_eq,not_true_eq_false,not_false_eq_true,Bool.and_self]
 rintro q3 Bn;change QM _ _ _ _ _ (oB b9 (xs.getD i default)::pB b4 fv ad n cap:: []) _ _ _;refine J1 ?_;refine af.aJ rfl (fun h7=>?_) (fun h7=>?_)
 ·refine J8 ?_;refine qL Tryz.results176 rfl fun w' aj aa az=>?_;refine ⟨?_,aa⟩;simp only [ba,dY,←hn,←xP,←hq,←js,←Bn];simp only [h3,h5,h7,decide_true,decide_false,Bool.true_and,Bool.false_and,Bool.and_true,Bool.and_false,Bool.not_true,Bool.not_false,Bool.true_or,Bool.false_or,Bool.or_true,Bool.or_false,ne_eq,not_true_eq_false,not_false_eq_true,Bool.and_self,if_true,if_false,ite_true,Bool.false_eq_true]
 refine J7 ?_;refine af.aJ rfl (fun h8=>?_) (fun h8=>?_)
 ·refine J8 ?_;refine qL Tryz.results176 rfl fun w' aj aa az=>?_;refine ⟨?_,aa⟩;simp only [ba,dY,←hn,←xP,←hq,←js,←Bn];simp only [h3,h5,h7,h8,decide_true,decide_false,Bool.true_and,Bool.false_and,Bool.and_true,Bool.and_false,Bool.not_true,Bool.not_false,Bool.true_or,Bool.false_or,Bool.or_true,Bool.or_false,ne_eq,not_true_eq_false,not_false_eq_true,Bool.and_self,if_true,if_false,ite_true,Bool.false_eq_true]
 have bD:=FZ hq h3 (by simpa using h8);refine J5 ?_;refine LM.rd (aL Tryz.isAgg117 Tryz.sizeOf117 rfl rfl) ?_;refine J1 ?_;refine cE Tryz.func190 rfl (fun w hm hc hg=>zW i w hn (hl.ext hc) hs hi) ?_;refine LM.alloc Tryz.zeroValue171 rfl (fun b11 Ve=>?_);refine LM.dh Tryz.sizeOf171 rfl rfl rfl rfl df bV ?_;refine J4 ?_;refine af.bC (α:=Bool) (fun q4=>[(87,.bool q4)]) [] (fun q4=>[]) (fun q4=>q4=(decide ((qI xs i).2<1)||decide ((qI xs i).2 > (ls.getD (xs.getD i default).a.toNat default).cr)||fv&&decide (((i+1+(qI xs i).1:Nat):Int)=n))) trivial ?_ ?_
 ·refine af.draw [(0,0),(1,1),(2,0),(3,0),(4,0),(5,1),(6,0),(7,0),(8,1),(9,0),(10,0),(11,1),(12,0),(13,0),(14,0),(15,0),(16,1),(17,0),(18,0),(19,1),(20,0),(21,1),(22,0),(23,0),(24,0),(25,0)] kr kr ?_;refine J4 ?_;refine LD.aq (t:=65) rfl (fun h9=>?_) (fun h9=>?_)
  ·refine gy ?_;refine LD.dp rfl rfl ⟨76,_,rfl,rfl,rfl⟩ ?_;refine J9 ?_;refine mK (_) ?_
   · simp only [h3,h5,h7,h8,h9,decide_true,decide_false,Bool.true_and,Bool.false_and,Bool.and_true,Bool.and_false,Bool.not_true,Bool.not_false,Bool.true_or,Bool.false_or,Bool.or_true,Bool.or_false,ne_eq,not_true_eq_false,not_false_eq_true,Bool.and_self]
  refine J5 ?_;refine LD.val rfl ⟨65,_,rfl,rfl,rfl⟩ (bF j3 Tryz.underlying27 Tryz.sizeOf83 rfl rfl om) ?_;refine J1 ?_;refine LD.eh rfl ⟨65,_,rfl,rfl,rfl⟩ (da (j:=2) aB Tryz.isAgg3 rfl rfl cJ (by rfl) (by rfl) id) ?_;refine J3 ?_;refine LD.aq (t:=76) rfl (fun gh=>?_) (fun gh=>?_)
  ·refine J2 ?_;refine LD.dp rfl rfl ⟨76,_,rfl,rfl,rfl⟩ ?_;refine J9 ?_;refine mK (_) ?_
   · simp only [h3,h5,h7,h8,h9,gh,decide_true,decide_false,Bool.true_and,Bool.false_and,Bool.and_true,Bool.and_false,Bool.not_true,Bool.not_false,Bool.true_or,Bool.false_or,Bool.or_true,Bool.or_false,ne_eq,not_true_eq_false,not_false_eq_true,Bool.and_self]
  refine J3 ?_;refine LD.bj (t:=79) rfl (fun jf=>?_) (fun jf=>?_)
  ·refine J9 ?_;refine mK (_) ?_
   · simp only [h3,h5,h7,h8,h9,gh,jf,decide_true,decide_false,Bool.true_and,Bool.false_and,Bool.and_true,Bool.and_false,Bool.not_true,Bool.not_false,Bool.true_or,Bool.false_or,Bool.or_true,Bool.or_false,ne_eq,not_true_eq_false,not_false_eq_true,Bool.and_self]
  refine J9 ?_;refine mK (_) ?_
  · simp only [h3,h5,h7,h8,h9,gh,jf,decide_true,decide_false,Bool.true_and,Bool.false_and,Bool.and_true,Bool.and_false,Bool.not_true,Bool.not_false,Bool.true_or,Bool.false_or,Bool.or_true,Bool.or_false,ne_eq,not_true_eq_false,not_false_eq_true,Bool.and_self]
 rintro q4 NG;change QM _ _ _ _ _ ([]) _ _ _;refine J1 ?_;refine af.aJ rfl (fun lJ=>?_) (fun lJ=>?_)
 ·refine J7 ?_;refine qL Tryz.results176 rfl fun w' aj aa az=>?_;refine ⟨?_,aa⟩;simp only [ba,dY,←hn,←xP,←hq,←js,←Bn,←NG];simp only [h3,h5,h7,h8,lJ,decide_true,decide_false,Bool.true_and,Bool.false_and,Bool.and_true,Bool.and_false,Bool.not_true,Bool.not_false,Bool.true_or,Bool.false_or,Bool.or_true,Bool.or_false,ne_eq,not_true_eq_false,not_false_eq_true,Bool.and_self,if_true,if_false,ite_true,Bool.false_eq_true]
 refine J8 ?_;refine qL Tryz.results176 rfl fun w' aj aa az=>?_;refine ⟨?_,aa⟩;simp only [ba,dY,←hn,←xP,←hq,←js,←Bn,←NG];simp only [h3,h5,h7,h8,lJ,decide_true,decide_false,Bool.true_and,Bool.false_and,Bool.and_true,Bool.and_false,Bool.not_true,Bool.not_false,Bool.true_or,Bool.false_or,Bool.or_true,Bool.or_false,ne_eq,not_true_eq_false,not_false_eq_true,Bool.and_self,if_true,if_false,ite_true,Bool.false_eq_true]
theorem EE (fv:Bool) (ad:Option Addr) (n cap:Nat) (w:World):aD Tryz.prog 175 #[pV fv ad n cap] w (fun v w'=>Ext w w'∧∃m,vF fv ad n cap w.heap.size v m∧Mem w' m∧∀p∈m,w.heap.size≤p.1):=by
 refine aD.ao Tryz.func175 rfl Tryz.ntmps175 rfl ([]) (no) (Mem.nil w) ?_;refine J2 ?_;refine LM.box rfl rfl (fun b1 jq=>?_);refine J5 ?_;refine LM.val (oe rfl) ?_;refine J4 ?_;refine qL Tryz.results175 rfl fun w' aj aa az=>?_;exact⟨aa,_,⟨b1,rfl,rfl,jq⟩,aj,fun p hp=>by simp only [List.mem_cons,List.not_mem_nil,or_false] at hp;subst hp;assumption⟩
set_option maxHeartbeats 1000000 in
theorem GW {xs:List cZ} {fv:Bool} {ad:Option Addr} {n cap:Nat} {b1:Nat} (hn:n=xs.length) (Wq:xs.length≤1000000000000):Hf Tryz.prog 188 #[.pointer (some ⟨b1,0,none⟩)] (wA xs) (fun w=>Mem w [pB b1 fv ad n cap]∧Sr fO 3 xs (.slice ad n cap) w) (True):=by
 refine Hf.enter (lb:=[.pointer (some ⟨b1,0,none⟩)]) Tryz.func188 rfl Tryz.ntmps188 rfl ?_;intro l n0 J Jx w0 HT YK gJ gJx hy;refine J3 ?_;refine LM.eh (fun w _ _ hg=>Fg 0 Tryz.isAgg115 rfl rfl rfl w (YK _ w hg).1) ?_;refine J5 ?_;refine af.Ys (α:=Nat) (fun i=>[(8,.int .i64 (i:Nat))]) [(0,_),(6,_),(7,_)] (fun i=>[]) (fun i=>J i) (fun i=>i≤xs.length) (fun i=>xs.length-i) (0) cF aN (fun _ h=>h) (Nat.zero_le _) ?_;rintro i hi;change af _ _ _ _ _ _ _ ([]) _ _ _;refine J6 ?_;refine af.ak rfl (fun h1=>?_) (fun h1=>?_)
 ·refine J7 ?_;refine LM.BI (fun w _ _ hg=>(YK _ w hg).2.spt) (fun Jm=>?_);refine LM.val (oX Jm Tryz.underlying115 Tryz.sizeOf168 rfl rfl om) ?_;refine LM.eh (fun w hm hc hg=>QT (YK _ w hg).2 ir Tryz.isAgg168 Tryz.sizeOf168 rfl (aO default om)) ?_;refine LM.Vy Tryz.zeroValue168 rfl (fun b4 xw=>?_);refine J1 ?_;refine LM.adC Tryz.sizeOf168 rfl rfl rfl rfl df bV om ?_;refine LM.unF ?_;refine J6 ?_;refine LM.rd (aL Tryz.isAgg168 Tryz.sizeOf168 rfl rfl) ?_;refine LM.mem (M':=[]) (fun w _=>Mem.nil w) ?_;refine LM.yield (n:=n0) (G1:=J (i+1)) (G2:=Jx) rfl rfl (fun w hj=>hy (i) _ w (yw om) hj) (fun _=>trivial) ?_ ?_
  ·refine c9 ?_;refine QM.dq (i+1) cF aN (fun w h=>h) ?_ ?_
   · omega
   · omega
  refine J9 ?_;refine QM.leave (.inl rfl) [] Tryz.results188 rfl ?_;intro w' aj aa az;exact .inr az
 refine J4 ?_;refine QM.leave (.inr rfl) [] Tryz.results188 rfl ?_;intro w' aj aa az
 (have er:i=xs.length:=om;subst er;exact .inl (by rw [pk];exact az))
def Q3 (fv:Bool) (xs:List cZ) (ls:List jv) (cb:Int):Value:= .tuple #[.int .i64 (CX fv xs ls cb).1,.int .i64 (CX fv xs ls cb).2]
theorem CC {T K r:Bool} {q:Bool} {a:Int} {n:Nat} (hq:q=((T||K)&&decide (a ≥ n)||r)) (h:q=false) (ht:T=true):a<n:=by
  rw [h,ht,Bool.true_or,Bool.true_and] at hq;have:=(Bool.or_eq_false_iff.1 hq.symm).1;have:=of_decide_eq_false this;omega
theorem zF {fv:Bool} {xs:List cZ} {ls:List jv} {cb e:Int} {i:Nat} (h:iO xs=true) (h0:∀j,j<i→dY fv xs ls cb j=0) (hi:i<xs.length) (hf:dY fv xs ls cb i=e) (he:e≠0):Q3 fv xs ls cb= .tuple #[.int .i64 (i:Nat),.int .i64 e] :=by
  unfold Q3;rw [Zg h h0 hi (by rw [hf];exact he),hf]
theorem o3 {fv:Bool} {xs:List cZ} {ls:List jv} {cb:Int} {b:Bool} (h:iO xs=true) (h0:∀j,j<xs.length→dY fv xs ls cb j=0) (hb:(fv&& !xs.any (fun o=>eJ o.k))=b):Q3 fv xs ls cb= .tuple #[.int .i64 0,.int .i64 (if b then 1 else 0)] :=by
  unfold Q3;rw [Tp h h0,hb];cases b<;>rfl
theorem Ca {fv:Bool} {xs:List cZ} {ls:List jv} {cb:Int} (h:iO xs=false):Q3 fv xs ls cb= .tuple #[.int .i64 0,.int .i64 1] :=by
  unfold Q3;rw [Ov h]
theorem EW {xs:List cZ} {ls:List jv} {fv:Bool} {ad nJ:Option Addr} {n cap n2 eP:Nat} (cb:Int) (w:World) (hn:n=xs.length) (hl:Sr fO 3 xs (.slice ad n cap) w) (xP:n2=ls.length) (kN:Sr fL 5 ls (.slice nJ n2 eP) w):aD Tryz.prog 154 #[pV fv ad n cap,.slice nJ n2 eP,.int .i64 cb] w (fun v w'=>v=Q3 fv xs ls cb∧Ext w w'):=by
 refine aD.ao Tryz.func154 rfl Tryz.ntmps154 rfl ([]) (no) (Mem.nil w) ?_;refine J2 ?_;refine LM.box rfl rfl (fun b3 xu=>?_);refine LM.box rfl rfl (fun b4 xw=>?_);refine LM.box rfl rfl (fun b5 AA=>?_);refine LM.alloc Tryz.zeroValue3 rfl (fun b6 Rs=>?_);refine LM.alloc Tryz.zeroValue190 rfl (fun b7 KF=>?_);refine J5 ?_;refine LM.rd (aL Tryz.isAgg117 Tryz.sizeOf117 rfl rfl) ?_;refine cE Tryz.func174 rfl (fun w hm hc hg=>Hq w hn (hl.ext hc)) ?_;refine J3 ?_;refine af.aJ rfl (fun h1=>?_) (fun h1=>?_)
 ·refine J2 ?_;refine LM.st Tryz.sizeOf3 rfl rfl rfl dW rfl bV ?_;refine LM.st Tryz.sizeOf190 rfl rfl rfl dW rfl bV ?_;refine J4 ?_;refine QM.aH (ds:=([])) (.inl rfl) [.cell 6 3,.cell 7 190] Tryz.results154 aX (x9 rfl Tryz.isAgg3 rfl (x9 rfl Tryz.isAgg190 rfl aW)) ?_;intro w' aj aa;exact⟨(Ca (by simpa using h1)).symm,aa⟩
 have xC:iO xs=true:=(by simpa using h1);have S5:=(o0 xC).1;refine J5 ?_;refine LM.rd (aL Tryz.isAgg117 Tryz.sizeOf117 rfl rfl) ?_;refine LM.fm (oC Tryz.func175) vF.mono (fun w hm hc hg=>EE fv ad n cap w) ?_;rintro u14 TH ⟨c1,rfl,rfl,Ws⟩-;refine J3 ?_;refine af.Qi (α:=Unit) (fun k ⟨⟩=>pB c1 fv ad n cap::eBc b7 0::Tc b6 0::Tc b5 cb::lBc b4 nJ n2 eP::pB b3 fv ad n cap:: []) (⟨⟩) aN ?_;refine af.range (α:=Unit) (β:=Nat) (dV Tryz.func188 kr rfl) rfl (GW (xs:=xs) hn om) (fun k ⟨⟩=>pB c1 fv ad n cap::eBc b7 0::Tc b6 0::Tc b5 cb::lBc b4 nJ n2 eP::pB b3 fv ad n cap:: []) (fun _ _=>top) (fun k ⟨⟩=>k≤xs.length∧∀j,j<k→dY fv xs ls cb j=0) (fun i=>eBc b7 (dY fv xs ls cb i)::Tc b6 (i:Nat):: []) (fun _=>top) (fun c i=>c= .ret∧i<xs.length∧(∀j,j<i→dY fv xs ls cb j=0)∧dY fv xs ls cb i≠0) ⟨⟩ rfl (fun _ h=>h) ⟨Nat.zero_le _,fun j hj=>absurd hj (Nat.not_lt_zero _)⟩ kr (by intro k av R3;obtain ⟨hkx,rfl⟩:=yq R3;rfl) (.inl trivial) (fun k a w hm hc _ _=>⟨aV.mem aN w hm,hl.ext hc⟩) (fun _ _ _ _=>Ma _) (fun _ _ _=>Ma _) (fun k x _=>by((repeat (refine GN rfl ?_));exact fun p hp=> .inl (by first|exact hp|(simp at hp;done)|(simp [hp];done)|(simp at hp ⊢;first|exact .inl hp|exact hp|(simp [hp];done))))) (fun c z _=>by((repeat (refine GN rfl ?_));exact fun p hp=> .inl (by first|exact hp|(simp at hp;done)|(simp [hp];done)|(simp at hp ⊢;first|exact .inl hp|exact hp|(simp [hp];done))))) ?_ ?_ ?_ ?_
 ·rintro k av ⟨⟩ l D rc n1 W1 hD iF aeU Vi R3 ⟨hk,h0⟩;change af _ _ _ _ _ _ _ ((l,Obj.loop rc)::([(D,Obj.deferred (some []))] ++(pB c1 fv ad n cap::eBc b7 0::Tc b6 0::Tc b5 cb::lBc b4 nJ n2 eP::pB b3 fv ad n cap:: []))) _ _ _;obtain ⟨hkx,rfl⟩:=yq R3;refine J3 ?_;refine QM.PY (aeU k ⟨⟩) iF ?_;refine J3 ?_;refine LM.rd (aL Tryz.isAgg117 Tryz.sizeOf117 rfl rfl) ?_;refine J3 ?_;refine cE Tryz.func176 rfl (fun w hm hc hg=>Hn k cb w hn (hl.ext hc) xP (kN.ext hc) xC hkx) ?_;refine J9 ?_;refine af.ak rfl (fun h2=>?_) (fun h2=>?_)
  ·refine J4 ?_;refine LM.st Tryz.sizeOf3 rfl rfl rfl dW rfl bV ?_;refine LM.st Tryz.sizeOf190 rfl rfl rfl dW rfl bV ?_;refine J4 ?_;refine QM.ac8 (k) (aV.mem aN) (fun _ h=>h) ?_
   · exact⟨rfl,hkx,h0,by simpa using h2⟩
  refine J2 ?_;refine QM.next (⟨⟩) (aV.mem aN) (fun _ h=>h) ?_
  · exact⟨by omega,oD h0 (by simpa using h2)⟩
 ·rintro ⟨⟩ D0 VX ⟨hk,h0⟩;refine J8 ?_;refine LM.bj (t:=28) rfl (fun h3=>?_) (fun h3=>?_)
  ·refine J4 ?_;refine cE Tryz.func177 rfl (fun w hm hc hg=>LV w hn (hl.ext hc) om) ?_;refine J4 ?_;refine af.aJ rfl (fun h4=>?_) (fun h4=>?_)
   ·refine J2 ?_;refine LM.st Tryz.sizeOf3 rfl rfl rfl dW rfl bV ?_;refine LM.st Tryz.sizeOf190 rfl rfl rfl dW rfl bV ?_;refine J4 ?_;refine QM.aH (ds:=(D0:: [])) (.inl rfl) [.cell 6 3,.cell 7 190] Tryz.results154 (u4 VX aX) (x9 rfl Tryz.isAgg3 rfl (x9 rfl Tryz.isAgg190 rfl aW)) ?_;intro w' aj aa;exact⟨(o3 (b:=true) xC (fun j hj=>h0 j (by rw [pk];exact hj)) (by rw [h3,h4];rfl)).symm,aa⟩
   refine J4 ?_;refine LM.st Tryz.sizeOf3 rfl rfl rfl dW rfl bV ?_;refine LM.st Tryz.sizeOf190 rfl rfl rfl dW rfl bV ?_;refine J3 ?_;refine QM.aH (ds:=(D0:: [])) (.inl rfl) [.cell 6 3,.cell 7 190] Tryz.results154 (u4 VX aX) (x9 rfl Tryz.isAgg3 rfl (x9 rfl Tryz.isAgg190 rfl aW)) ?_;intro w' aj aa;exact⟨(o3 (b:=false) xC (fun j hj=>h0 j (by rw [pk];exact hj)) (by rw [h3,h4];rfl)).symm,aa⟩
  refine cN ?_;refine LM.st Tryz.sizeOf3 rfl rfl rfl dW rfl bV ?_;refine LM.st Tryz.sizeOf190 rfl rfl rfl dW rfl bV ?_;refine J3 ?_;refine QM.aH (ds:=(D0:: [])) (.inl rfl) [.cell 6 3,.cell 7 190] Tryz.results154 (u4 VX aX) (x9 rfl Tryz.isAgg3 rfl (x9 rfl Tryz.isAgg190 rfl aW)) ?_;intro w' aj aa;exact⟨(o3 (b:=false) xC (fun j hj=>h0 j (by rw [pk];exact hj)) (by rw [h3];rfl)).symm,aa⟩
 ·rintro i D0 VX hx;obtain ⟨-,hi,h0,fi⟩:=hx;refine J2 ?_;refine QM.aH (ds:=(D0:: [])) (.inl rfl) [.cell 6 3,.cell 7 190] Tryz.results154 (u4 VX aX) (x9 rfl Tryz.isAgg3 rfl (x9 rfl Tryz.isAgg190 rfl aW)) ?_;intro w' aj aa;exact⟨(zF xC h0 hi rfl fi).symm,aa⟩
 rintro id i D0 VX hx;cases hx.1
set_option maxHeartbeats 1000000 in
theorem tA {xs:List cZ} {ls:List jv} {fv:Bool} {ad nJ:Option Addr} {n cap n2 eP:Nat} (cb:Int) (w:World) (hn:n=xs.length) (hl:Sr fO 3 xs (.slice ad n cap) w) (xP:n2=ls.length) (kN:Sr fL 5 ls (.slice nJ n2 eP) w):aD Tryz.prog 49 #[pV fv ad n cap,.slice nJ n2 eP,.int .i64 cb] w (fun v w'=>v=Q3 fv xs ls cb∧Ext w w'):=by
 refine aD.ao Tryz.func49 rfl Tryz.ntmps49 rfl ([]) (no) (Mem.nil w) ?_;refine J2 ?_;refine LM.box rfl rfl (fun b3 xu=>?_);refine J7 ?_;refine LM.rd (aL Tryz.isAgg117 Tryz.sizeOf117 rfl rfl) ?_;refine cE Tryz.func90 rfl (fun w hm hc hg=>H4 w hn (hl.ext hc)) ?_;refine J3 ?_;refine af.aJ rfl (fun h1=>?_) (fun h1=>?_)
 ·refine J8 ?_;refine QM.leave (.inl rfl) [.tmp 6,.tmp 7] Tryz.results49 rfl ?_;intro w' aj aa az;exact⟨(Ca (by simpa using h1)).symm,aa⟩
 have xC:iO xs=true:=(by simpa using h1);have Ww:=o0 xC;have S5:=Ww.1;refine kk ?_;refine af.aP (α:=Nat) (fun i=>[(8,.bool ((xs.take i).any (fun o=>eJ o.k))),(9,.int .i64 (i:Nat))]) [(1,_),(2,_),(3,_)] (fun i=>pB b3 fv ad n cap:: []) (fun i=>i≤xs.length∧∀j,j<i→dY fv xs ls cb j=0) (fun i=>xs.length-i) (0) cF aN ⟨Nat.zero_le _,fun j hj=>absurd hj (Nat.not_lt_zero _)⟩ ?_;rintro i ⟨hi,h0⟩;change af _ _ _ _ _ _ _ (pB b3 fv ad n cap:: []) _ _ _;refine cj ?_;refine af.ak rfl (fun h2=>?_) (fun h2=>?_)
 ·refine cj ?_;refine LM.eh (dB aB ir Tryz.isAgg168 Tryz.sizeOf168 rfl cJ id) ?_;refine LM.alloc Tryz.zeroValue168 rfl (fun yu SF=>?_);refine LM.dh Tryz.sizeOf168 rfl rfl rfl rfl df bV ?_;refine J3 ?_;refine af.bC (α:=Bool) (fun t=>[(8,.bool t)]) [(1,_),(2,_),(3,_),(9,_),(10,_)] (fun t=>oB yu (xs.getD i default)::pB b3 fv ad n cap:: []) (fun t=>t=(xs.take (i+1)).any (fun o=>eJ o.k)) cF ?_ ?_
  ·refine J3 ?_;refine LM.bj (t:=28) rfl (fun h3=>?_) (fun h3=>?_)
   ·refine J21 ?_;refine mK (_) ?_
    · rw [dv default om,eJ];simp only [h1,h2,h3,decide_true,decide_false,Bool.true_and,Bool.false_and,Bool.and_true,Bool.and_false,Bool.not_true,Bool.not_false,Bool.true_or,Bool.false_or,Bool.or_true,Bool.or_false,ne_eq,not_true_eq_false,not_false_eq_true,Bool.and_self]
   refine J6 ?_;refine LM.aq (t:=33) rfl (fun h4=>?_) (fun h4=>?_)
   ·refine pQ ?_;refine mK (_) ?_
    · rw [dv default om,eJ];simp only [h1,h2,h3,h4,decide_true,decide_false,Bool.true_and,Bool.false_and,Bool.and_true,Bool.and_false,Bool.not_true,Bool.not_false,Bool.true_or,Bool.false_or,Bool.or_true,Bool.or_false,ne_eq,not_true_eq_false,not_false_eq_true,Bool.and_self]
   refine J6 ?_;refine LM.aq (t:=38) rfl (fun h5=>?_) (fun h5=>?_)
   ·refine c9 ?_;refine mK (_) ?_
    · rw [dv default om,eJ];simp only [h1,h2,h3,h4,h5,decide_true,decide_false,Bool.true_and,Bool.false_and,Bool.and_true,Bool.and_false,Bool.not_true,Bool.not_false,Bool.true_or,Bool.false_or,Bool.or_true,Bool.or_false,ne_eq,not_true_eq_false,not_false_eq_true,Bool.and_self]
   refine J6 ?_;refine LM.aq (t:=43) rfl (fun h6=>?_) (fun h6=>?_)
   ·refine J6 ?_;refine mK (_) ?_
    · rw [dv default om,eJ];simp only [h1,h2,h3,h4,h5,h6,decide_true,decide_false,Bool.true_and,Bool.false_and,Bool.and_true,Bool.and_false,Bool.not_true,Bool.not_false,Bool.true_or,Bool.false_or,Bool.or_true,Bool.or_false,ne_eq,not_true_eq_false,not_false_eq_true,Bool.and_self]
   refine J7 ?_;refine mK (_) ?_
   · rw [dv default om,eJ];simp only [h1,h2,h3,h4,h5,h6,decide_true,decide_false,Bool.true_and,Bool.false_and,Bool.and_true,Bool.and_false,Bool.not_true,Bool.not_false,Bool.true_or,Bool.false_or,Bool.or_true,Bool.or_false,ne_eq,not_true_eq_false,not_false_eq_true,Bool.and_self]
  rintro t rfl;change QM _ _ _ _ _ (oB yu (xs.getD i default)::pB b3 fv ad n cap:: []) _ _ _;have hr:=uD (v5 xC (show i<xs.length by omega));refine J3 ?_;refine af.bC (α:=Bool) (fun q=>[(72,.bool q)]) [(1,_),(2,_),(3,_),(8,_),(9,_),(10,_)] (fun q=>oB yu (xs.getD i default)::pB b3 fv ad n cap:: []) (fun q=>q=((iU (xs.getD i default).k||decide ((xs.getD i default).k=6))&&decide ((xs.getD i default).a ≥ n2)||decide ((xs.getD i default).k=9)&&decide ((xs.getD i default).a ≥ cb))) cF ?_ ?_
  ·refine J1 ?_;refine LM.rd (aL Tryz.isAgg168 Tryz.sizeOf168 rfl rfl) ?_;refine cE Tryz.func91 rfl (fun w hm hc hg=>tZ _ w) ?_;refine J1 ?_;refine LM.bj (t:=50) rfl (fun h7=>?_) (fun h7=>?_)
   ·refine gy ?_;refine LM.aq (t:=62) rfl (fun h8=>?_) (fun h8=>?_)
    ·refine J3 ?_;refine LM.dp (t:=62) rfl rfl rfl ?_;refine J7 ?_;refine mK (_) ?_
     · (simp only [h1,h2,h7,h8,decide_true,decide_false,Bool.true_and,Bool.false_and,Bool.and_true,Bool.and_false,Bool.not_true,Bool.not_false,Bool.true_or,Bool.false_or,Bool.or_true,Bool.or_false,ne_eq,not_true_eq_false,not_false_eq_true,Bool.and_self];done)
    refine J5 ?_;refine LM.aq (t:=66) rfl (fun h9=>?_) (fun h9=>?_)
    ·refine J8 ?_;refine mK (_) ?_
     · (simp only [h1,h2,h7,h8,h9,decide_true,decide_false,Bool.true_and,Bool.false_and,Bool.and_true,Bool.and_false,Bool.not_true,Bool.not_false,Bool.true_or,Bool.false_or,Bool.or_true,Bool.or_false,ne_eq,not_true_eq_false,not_false_eq_true,Bool.and_self];done)
    refine J7 ?_;refine mK (_) ?_
    · (simp only [h1,h2,h7,h8,h9,decide_true,decide_false,Bool.true_and,Bool.false_and,Bool.and_true,Bool.and_false,Bool.not_true,Bool.not_false,Bool.true_or,Bool.false_or,Bool.or_true,Bool.or_false,ne_eq,not_true_eq_false,not_false_eq_true,Bool.and_self];done)
   refine J6 ?_;refine LM.aq (t:=55) rfl (fun gh=>?_) (fun gh=>?_)
   ·refine J8 ?_;refine LM.aq (t:=62) rfl (fun jf=>?_) (fun jf=>?_)
    ·refine J3 ?_;refine LM.dp (t:=62) rfl rfl rfl ?_;refine J7 ?_;refine mK (_) ?_
     · (simp only [h1,h2,h7,gh,jf,decide_true,decide_false,Bool.true_and,Bool.false_and,Bool.and_true,Bool.and_false,Bool.not_true,Bool.not_false,Bool.true_or,Bool.false_or,Bool.or_true,Bool.or_false,ne_eq,not_true_eq_false,not_false_eq_true,Bool.and_self];done)
    refine J5 ?_;refine LM.aq (t:=66) rfl (fun lJ=>?_) (fun lJ=>?_)
    ·refine J8 ?_;refine mK (_) ?_
     · (exfalso;omega)
    refine J7 ?_;refine mK (_) ?_
    · (simp only [h1,h2,h7,gh,jf,lJ,decide_true,decide_false,Bool.true_and,Bool.false_and,Bool.and_true,Bool.and_false,Bool.not_true,Bool.not_false,Bool.true_or,Bool.false_or,Bool.or_true,Bool.or_false,ne_eq,not_true_eq_false,not_false_eq_true,Bool.and_self];rfl)
   refine cN ?_;refine LM.aq (t:=66) rfl (fun oK=>?_) (fun oK=>?_)
   ·refine J8 ?_;refine mK (_) ?_
    · (simp only [h1,h2,h7,gh,oK,decide_true,decide_false,Bool.true_and,Bool.false_and,Bool.and_true,Bool.and_false,Bool.not_true,Bool.not_false,Bool.true_or,Bool.false_or,Bool.or_true,Bool.or_false,ne_eq,not_true_eq_false,not_false_eq_true,Bool.and_self];rfl)
   refine J7 ?_;refine mK (_) ?_
   · (simp only [h1,h2,h7,gh,oK,decide_true,decide_false,Bool.true_and,Bool.false_and,Bool.and_true,Bool.and_false,Bool.not_true,Bool.not_false,Bool.true_or,Bool.false_or,Bool.or_true,Bool.or_false,ne_eq,not_true_eq_false,not_false_eq_true,Bool.and_self];done)
  rintro q hq;change QM _ _ _ _ _ (oB yu (xs.getD i default)::pB b3 fv ad n cap:: []) _ _ _;refine J1 ?_;refine af.aJ rfl (fun ku=>?_) (fun ku=>?_)
  ·refine kk ?_;refine QM.leave (.inl rfl) [.tmp 6,.tmp 7] Tryz.results49 rfl ?_;intro w' aj aa az;exact⟨(zF (e:=4) xC h0 om (by simp only [dY,←hn,←xP,←hq];simp only [h1,h2,ku,decide_true,decide_false,Bool.true_and,Bool.false_and,Bool.and_true,Bool.and_false,Bool.not_true,Bool.not_false,Bool.true_or,Bool.false_or,Bool.or_true,Bool.or_false,ne_eq,not_true_eq_false,not_false_eq_true,Bool.and_self,if_true]) (by decide)).symm,aa⟩
  refine J4 ?_;refine af.bC (α:=Bool) (fun q3=>[(85,.bool q3)]) [(1,_),(2,_),(3,_),(8,_),(9,_),(10,_)] (fun q3=>oB yu (xs.getD i default)::pB b3 fv ad n cap:: []) (fun q3=>q3=(decide ((xs.getD i default).k=3)&& !(ls.getD (xs.getD i default).a.toNat default).sh)) cF ?_ ?_
  ·refine J5 ?_;refine LM.aq (t:=77) rfl (fun uM=>?_) (fun uM=>?_)
   ·have bD:=CC hq ku (by rw [uM];rfl);refine J4 ?_;refine LM.sp 77 rfl rfl rfl ?_;refine LM.val (bF j3 Tryz.underlying27 Tryz.sizeOf83 rfl rfl om) ?_;refine J2 ?_;refine LM.eh (da (j:=0) aB Tryz.isAgg4 rfl rfl cJ (by rfl) (by rfl) id) ?_;refine J3 ?_;refine mK (_) ?_
    · simp only [h1,h2,ku,uM,decide_true,decide_false,Bool.true_and,Bool.false_and,Bool.and_true,Bool.and_false,Bool.not_true,Bool.not_false,Bool.true_or,Bool.false_or,Bool.or_true,Bool.or_false,ne_eq,not_true_eq_false,not_false_eq_true,Bool.and_self]
   refine J9 ?_;refine mK (_) ?_
   · simp only [h1,h2,ku,uM,decide_true,decide_false,Bool.true_and,Bool.false_and,Bool.and_true,Bool.and_false,Bool.not_true,Bool.not_false,Bool.true_or,Bool.false_or,Bool.or_true,Bool.or_false,ne_eq,not_true_eq_false,not_false_eq_true,Bool.and_self]
  rintro q3 Bn;change QM _ _ _ _ _ (oB yu (xs.getD i default)::pB b3 fv ad n cap:: []) _ _ _;refine J1 ?_;refine af.aJ rfl (fun r7=>?_) (fun r7=>?_)
  ·refine kk ?_;refine QM.leave (.inl rfl) [.tmp 6,.tmp 7] Tryz.results49 rfl ?_;intro w' aj aa az;exact⟨(zF (e:=1) xC h0 om (by simp only [dY,←hn,←xP,←hq,←Bn];simp only [h1,h2,ku,r7,decide_true,decide_false,Bool.true_and,Bool.false_and,Bool.and_true,Bool.and_false,Bool.not_true,Bool.not_false,Bool.true_or,Bool.false_or,Bool.or_true,Bool.or_false,ne_eq,not_true_eq_false,not_false_eq_true,Bool.and_self,if_true,if_false,Bool.false_eq_true]) (by decide)).symm,aa⟩
  refine J4 ?_;refine LM.rd (aL Tryz.isAgg168 Tryz.sizeOf168 rfl rfl) ?_;refine cE Tryz.func91 rfl (fun w hm hc hg=>tZ _ w) ?_;refine J2 ?_;refine af.aJ rfl (fun nk=>?_) (fun nk=>?_)
  ·have bD:=CC hq ku nk;refine J2 ?_;refine LM.rd (aL Tryz.isAgg117 Tryz.sizeOf117 rfl rfl) ?_;refine J1 ?_;refine cE Tryz.func92 rfl (fun w hm hc hg=>xN i w hn (hl.ext hc) Ww om) ?_;refine LM.alloc Tryz.zeroValue171 rfl (fun b11 Ve=>?_);refine LM.dh Tryz.sizeOf171 rfl rfl rfl rfl df bV ?_;refine J3 ?_;refine af.bC (α:=Bool) (fun q4=>[(117,.bool q4)]) [(1,_),(2,_),(3,_),(8,_),(9,_)] (fun q4=>pB b3 fv ad n cap:: []) (fun q4=>q4=(decide ((qI xs i).2<1)||decide ((qI xs i).2 > (ls.getD (xs.getD i default).a.toNat default).cr)||fv&&decide (((i+1+(qI xs i).1:Nat):Int)=n))) cF ?_ ?_
   ·refine af.draw [(0,0),(1,1),(2,0),(3,0),(4,0),(5,1),(6,0),(7,0),(8,1),(9,0),(10,0),(11,1),(12,0),(13,0),(14,0),(15,0),(16,1),(17,0),(18,0),(19,1),(20,0),(21,1),(22,0),(23,0),(24,0),(25,0)] kr kr ?_;refine J4 ?_;refine LD.aq (t:=95) rfl (fun qY=>?_) (fun qY=>?_)
    ·refine gy ?_;refine LD.dp rfl rfl ⟨106,_,rfl,rfl,rfl⟩ ?_;refine J9 ?_;refine mK (_) ?_
     · simp only [h1,h2,ku,r7,nk,qY,decide_true,decide_false,Bool.true_and,Bool.false_and,Bool.and_true,Bool.and_false,Bool.not_true,Bool.not_false,Bool.true_or,Bool.false_or,Bool.or_true,Bool.or_false,ne_eq,not_true_eq_false,not_false_eq_true,Bool.and_self]
    refine J5 ?_;refine LD.val rfl ⟨95,_,rfl,rfl,rfl⟩ (bF j3 Tryz.underlying27 Tryz.sizeOf83 rfl rfl om) ?_;refine J1 ?_;refine LD.eh rfl ⟨95,_,rfl,rfl,rfl⟩ (da (j:=2) aB Tryz.isAgg3 rfl rfl cJ (by rfl) (by rfl) id) ?_;refine J3 ?_;refine LD.aq (t:=106) rfl (fun xf=>?_) (fun xf=>?_)
    ·refine J2 ?_;refine LD.dp rfl rfl ⟨106,_,rfl,rfl,rfl⟩ ?_;refine J9 ?_;refine mK (_) ?_
     · simp only [h1,h2,ku,r7,nk,qY,xf,decide_true,decide_false,Bool.true_and,Bool.false_and,Bool.and_true,Bool.and_false,Bool.not_true,Bool.not_false,Bool.true_or,Bool.false_or,Bool.or_true,Bool.or_false,ne_eq,not_true_eq_false,not_false_eq_true,Bool.and_self]
    refine J3 ?_;refine LD.bj (t:=109) rfl (fun sJ=>?_) (fun sJ=>?_)
    ·refine J9 ?_;refine mK (_) ?_
     · simp only [h1,h2,ku,r7,nk,qY,xf,sJ,decide_true,decide_false,Bool.true_and,Bool.false_and,Bool.and_true,Bool.and_false,Bool.not_true,Bool.not_false,Bool.true_or,Bool.false_or,Bool.or_true,Bool.or_false,ne_eq,not_true_eq_false,not_false_eq_true,Bool.and_self]
    refine J9 ?_;refine mK (_) ?_
    · simp only [h1,h2,ku,r7,nk,qY,xf,sJ,decide_true,decide_false,Bool.true_and,Bool.false_and,Bool.and_true,Bool.and_false,Bool.not_true,Bool.not_false,Bool.true_or,Bool.false_or,Bool.or_true,Bool.or_false,ne_eq,not_true_eq_false,not_false_eq_true,Bool.and_self]
   rintro q4 NG;change QM _ _ _ _ _ (pB b3 fv ad n cap:: []) _ _ _;refine J1 ?_;refine af.aJ rfl (fun xv=>?_) (fun xv=>?_)
   ·refine gy ?_;refine QM.leave (.inl rfl) [.tmp 6,.tmp 7] Tryz.results49 rfl ?_;intro w' aj aa az;exact⟨(zF (e:=13) xC h0 om (by simp only [dY,←hn,←xP,←hq,←Bn,←NG];simp only [h1,h2,ku,r7,nk,xv,decide_true,decide_false,Bool.true_and,Bool.false_and,Bool.and_true,Bool.and_false,Bool.not_true,Bool.not_false,Bool.true_or,Bool.false_or,Bool.or_true,Bool.or_false,ne_eq,not_true_eq_false,not_false_eq_true,Bool.and_self,if_true,if_false,Bool.false_eq_true]) (by decide)).symm,aa⟩
   refine J8 ?_;refine aK (i+1) ?_ ?_
   · exact⟨by omega,oD h0 (by simp only [dY,←hn,←xP,←hq,←Bn,←NG];simp only [h1,h2,ku,r7,nk,xv,decide_true,decide_false,Bool.true_and,Bool.false_and,Bool.and_true,Bool.and_false,Bool.not_true,Bool.not_false,Bool.true_or,Bool.false_or,Bool.or_true,Bool.or_false,ne_eq,not_true_eq_false,not_false_eq_true,Bool.and_self,if_true,if_false,ite_true,Bool.false_eq_true])⟩
   · omega
  refine J8 ?_;refine aK (i+1) ?_ ?_
  · exact⟨by omega,oD h0 (by simp only [dY,←hn,←xP,←hq,←Bn];simp only [h1,h2,ku,r7,nk,decide_true,decide_false,Bool.true_and,Bool.false_and,Bool.and_true,Bool.and_false,Bool.not_true,Bool.not_false,Bool.true_or,Bool.false_or,Bool.or_true,Bool.or_false,ne_eq,not_true_eq_false,not_false_eq_true,Bool.and_self,if_true,if_false,ite_true,Bool.false_eq_true])⟩
  · omega
 refine c9 ?_;refine LM.bj (t:=121) rfl (fun y4=>?_) (fun y4=>?_)
 ·refine J5 ?_;refine af.aJ rfl (fun Dg=>?_) (fun Dg=>?_)
  ·refine J8 ?_;refine QM.leave (.inl rfl) [.tmp 6,.tmp 7] Tryz.results49 rfl ?_;intro w' aj aa az;have er:i=xs.length:=om;subst er;rw [List.take_length] at Dg;exact⟨(o3 (b:=true) xC h0 (by rw [y4,Dg];rfl)).symm,aa⟩
  refine J9 ?_;refine QM.leave (.inl rfl) [.tmp 6,.tmp 7] Tryz.results49 rfl ?_;intro w' aj aa az;have er:i=xs.length:=om;subst er;rw [List.take_length] at Dg;exact⟨(o3 (b:=false) xC h0 (by rw [y4,Dg];rfl)).symm,aa⟩
 refine py ?_;refine QM.leave (.inl rfl) [.tmp 6,.tmp 7] Tryz.results49 rfl ?_;intro w' aj aa az;have er:i=xs.length:=om;subst er;exact⟨(o3 (b:=false) xC h0 (by rw [y4];rfl)).symm,aa⟩
structure iS where
  c:qx
  ad:Option Addr
  n:Nat
  cap:Nat
instance:Inhabited iS:=⟨⟨default,none,0,0⟩⟩
def YO (p:iS):List Value:=[.bool p.c.fv,.slice p.ad p.n p.cap]
def iS.In (p:iS) (w:World):Prop:=p.n=p.c.xs.length∧Sr fO 3 p.c.xs (.slice p.ad p.n p.cap) w
theorem iS.In.ext {p:iS} {w w':World} (h:p.In w) (k:Ext w w'):p.In w':=⟨h.1,h.2.ext k⟩
def tP (ps:List iS) (w:World):Prop:=∀p∈ps,p.In w
theorem tP.ext {ps:List iS} {w w':World} (h:tP ps w) (k:Ext w w'):tP ps w':=fun p hp=>(h p hp).ext k
structure dm where
  cr:Int
  gr:Int
  gs:List Int
  ga:Option Addr
  gn:Nat
  gc:Nat
  ls:List jv
  la:Option Addr
  ln:Nat
  lc:Nat
  ps:List iS
  pa:Option Addr
  pn:Nat
  pc:Nat
instance:Inhabited dm:=⟨⟨0,0,[],none,0,0,[],none,0,0,[],none,0,0⟩⟩
def dm.cs (s:dm):List Value:=[.int .i64 s.cr,.int .i64 s.gr,.slice s.ga s.gn s.gc,.slice s.la s.ln s.lc,.slice s.pa s.pn s.pc]
abbrev dm.val (s:dm):Value:= .agg #[.int .i64 s.cr,.int .i64 s.gr,.slice s.ga s.gn s.gc,.slice s.la s.ln s.lc,.slice s.pa s.pn s.pc]
def dm.C (s:dm):jy:=⟨s.cr,s.gr,s.gs,s.ls,s.ps.map iS.c⟩
structure dm.In (s:dm) (w:World):Prop where
  xR:s.gn=s.gs.length
  hg:Sr fI 1 s.gs (.slice s.ga s.gn s.gc) w
  kE:s.ln=s.ls.length
  hl:Sr fL 5 s.ls (.slice s.la s.ln s.lc) w
  q9:s.pn=s.ps.length
  hp:Sr YO 2 s.ps (.slice s.pa s.pn s.pc) w
  ops:tP s.ps w
theorem dm.In.ext {s:dm} {w w':World} (h:s.In w) (k:Ext w w'):s.In w':=⟨h.xR,h.hg.ext k,h.kE,h.hl.ext k,h.q9,h.hp.ext k,h.ops.ext k⟩
theorem gF {ps:List iS} {i:Nat} :(ps.map iS.c).getD i default=(ps.getD i default).c:=by
  rw [List.getD_eq_getElem?_getD,List.getD_eq_getElem?_getD,List.getElem?_map];cases ps[i]? <;>rfl
abbrev qO (ad:Option Addr) (n cap:Nat) (i:Nat) (e:Int):Obj:= .cells #[.slice ad n cap,.int .i64 (i:Nat),.int .i64 e] 157 (0,0)
abbrev qB (b:Nat) (ad:Option Addr) (n cap:Nat) (i:Nat) (e:Int):Nat×Obj:=(b,qO ad n cap i e)
set_option maxHeartbeats 1000000 in
theorem jI {ws:List bG} (b:Nat) {ad:Option Addr} {n cap:Nat} (i:Nat) (e k:Int) (t:List UInt8) (w:World) (hn:n=ws.length) (hl:Sr fW 4 ws (.slice ad n cap) w) (hM:Mem w [qB b ad n cap i e]):aD Tryz.prog 83 #[.pointer (some ⟨b,0,none⟩),.int .i64 k,vS t] w (fun v w'=>v= .bool (nM ws i e k t)∧Ext w w'):=by
 refine aD.ao Tryz.func83 rfl Tryz.ntmps83 rfl ([qB b ad n cap i e]) (no) hM ?_;refine J6 ?_;refine af.draw [(0,0),(1,0),(2,0),(3,1),(4,0),(5,0),(6,0),(7,0),(8,0),(9,1),(10,0),(11,0),(12,0),(13,1),(14,0),(15,0),(16,0),(17,0),(18,0),(19,0),(20,0),(21,1),(22,0),(23,0),(24,0),(25,1),(26,0),(27,0),(28,1),(29,0),(30,0),(31,0),(32,0),(33,0),(34,0),(35,0),(36,1),(37,0),(38,0),(39,0),(40,1),(41,0),(42,0),(43,1),(44,0),(45,0),(46,0),(47,0)] kr kr ?_;refine J6 ?_;refine LD.aq (t:=12) rfl (fun h1=>?_) (fun h1=>?_)
 ·refine cN ?_;refine LD.aq (t:=24) rfl (fun h2=>?_) (fun h2=>?_)
  ·refine cj ?_;refine LD.eh rfl ⟨24,_,rfl,rfl,rfl⟩ (da (j:=0) aB Tryz.isAgg3 rfl rfl cJ (by rfl) (by rfl) id) ?_;refine J4 ?_;refine LD.aq (t:=39) rfl (fun h3=>?_) (fun h3=>?_)
   ·refine cj ?_;refine LD.eh rfl ⟨39,_,rfl,rfl,rfl⟩ (da (j:=1) aB Tryz.isAgg9 rfl rfl cJ (by rfl) (by rfl) id) ?_;refine J1 ?_;refine LD.val rfl ⟨39,_,rfl,rfl,rfl⟩ (rj rfl rfl) ?_;refine J5 ?_;refine qL Tryz.results83 rfl fun w' aj aa az=>?_;refine ⟨?_,aa⟩;simp only [ba,nM];rw [decide_eq_true h1,decide_eq_true (show i<ws.length by omega),decide_eq_true h3];simp only [Bool.true_and]
   refine yx ?_;refine qL Tryz.results83 rfl fun w' aj aa az=>?_;refine ⟨?_,aa⟩;simp only [ba,nM];rw [decide_eq_false h3];simp only [Bool.and_false,Bool.false_and]
  refine J33 ?_;refine qL Tryz.results83 rfl fun w' aj aa az=>?_;refine ⟨?_,aa⟩;simp only [ba,nM];rw [decide_eq_false (show¬i<ws.length by omega)];simp only [Bool.and_false,Bool.false_and]
 refine J45 ?_;refine qL Tryz.results83 rfl fun w' aj aa az=>?_;refine ⟨?_,aa⟩;simp only [ba,nM];rw [decide_eq_false h1];simp only [Bool.and_false,Bool.false_and]
theorem fV {ws:List bG} (b:Nat) {ad:Option Addr} {n cap:Nat} (i:Nat) (e k:Int) (t:List UInt8) (w:World) (hn:n=ws.length) (hx:ws.length≤1000000000) (hl:Sr fW 4 ws (.slice ad n cap) w) (pS:0<ws.length→kc ad≠b) (hM:Mem w [qB b ad n cap i e]):aD Tryz.prog 82 #[.pointer (some ⟨b,0,none⟩),.int .i64 k,vS t] w (SM b (.tuple #[]) (qO ad n cap (fo ws i e k t).1 (fo ws i e k t).2) w):=by
 refine aD.ao Tryz.func82 rfl Tryz.ntmps82 rfl ([qB b ad n cap i e]) ((fun x=>x=b)) hM ?_;refine J5 ?_;refine cE Tryz.func83 rfl (fun w hm hc hg=>jI b i e k t w hn (hl.kp hc pS) (hm.pick _)) ?_;refine J2 ?_;refine af.aJ rfl (fun h1=>?_) (fun h1=>?_)
 ·have bD:=(oF h1).1;refine J8 ?_;refine LM.st Tryz.sizeOf3 rfl rfl rfl dW rfl (fun _=>rfl) ?_;refine J1 ?_;refine QM.leave (.inr rfl) [] Tryz.results82 rfl ?_;intro w' aj aa az;refine ⟨rfl,aa,?_⟩;have h3:=aj.at b;unfold fo;rw [if_pos h1];exact h3
 refine J9 ?_;refine af.ak rfl (fun h2=>?_) (fun h2=>?_)
 ·refine J4 ?_;refine LM.st Tryz.sizeOf3 rfl rfl rfl dW rfl (fun _=>rfl) ?_;refine J1 ?_;refine QM.leave (.inr rfl) [] Tryz.results82 rfl ?_;intro w' aj aa az;refine ⟨rfl,aa,?_⟩;have h3:=aj.at b;unfold fo;rw [if_neg (by rw [h1];simp),if_pos h2];exact h3
 refine J1 ?_;refine QM.leave (.inr rfl) [] Tryz.results82 rfl ?_;intro w' aj aa az;refine ⟨rfl,aa,?_⟩;have h3:=aj.at b;unfold fo;rw [if_neg (by rw [h1];simp),if_neg h2];exact h3
set_option maxHeartbeats 1000000 in
theorem dG {ws:List bG} (b:Nat) {ad:Option Addr} {n cap:Nat} (i:Nat) (e fX:Int) (nm:List UInt8) (w:World) (hn:n=ws.length) (hx:ws.length≤1000000000) (hl:Sr fW 4 ws (.slice ad n cap) w) (pS:0<ws.length→kc ad≠b) (hM:Mem w [qB b ad n cap i e]):aD Tryz.prog 81 #[.pointer (some ⟨b,0,none⟩),vS nm,.int .i64 fX] w (SM b (.int .i64 (dL ws i e nm fX).2.2) (qO ad n cap (dL ws i e nm fX).1 (dL ws i e nm fX).2.1) w):=by
 refine aD.ao Tryz.func81 rfl Tryz.ntmps81 rfl ([qB b ad n cap i e]) ((fun x=>x=b)) hM ?_;refine J9 ?_;refine LM.cW (oC Tryz.func82) (fun w hm hc hg=>fV b i e 1 nm w hn hx (hl.kp hc pS) pS (hm.pick _)) rfl (fun _=>rfl) ?_;refine cN ?_;refine af.ak rfl (fun h1=>?_) (fun h1=>?_)
 ·refine J7 ?_;refine qL Tryz.results81 rfl fun w' aj aa az=>?_
  unfold dL;rw [RU h1];exact⟨rfl,aa,aj.at b⟩
 have DV:(fo ws i e 1 nm).2=0:=Classical.not_not.1 h1;refine J4 ?_;refine af.draw [(0,0),(1,0),(2,0),(3,1),(4,0),(5,0),(6,0),(7,1),(8,0),(9,0),(10,0),(11,0),(12,0),(13,0),(14,1),(15,0),(16,0),(17,0),(18,1),(19,0),(20,0),(21,1),(22,0),(23,0)] kr kr ?_;refine c9 ?_;refine LD.aq (t:=26) rfl (fun h2=>?_) (fun h2=>?_)
 ·refine J21 ?_;refine LM.st Tryz.sizeOf3 rfl rfl rfl dW rfl (fun _=>rfl) ?_;refine J9 ?_;refine qL Tryz.results81 rfl fun w' aj aa az=>?_
  unfold dL;rw [DV,Q5 (by decide) (.inl om)];exact⟨rfl,aa,aj.at b⟩
 refine cj ?_;refine LD.eh rfl ⟨26,_,rfl,rfl,rfl⟩ (da (j:=0) aB Tryz.isAgg3 rfl rfl cJ (by rfl) (by rfl) (by exact pS om)) ?_;refine J4 ?_;refine af.ak rfl (fun h3=>?_) (fun h3=>?_)
 ·refine J5 ?_;refine LM.st Tryz.sizeOf3 rfl rfl rfl dW rfl (fun _=>rfl) ?_;refine J9 ?_;refine qL Tryz.results81 rfl fun w' aj aa az=>?_
  unfold dL;rw [DV,Q5 (by decide) (.inr h3)];exact⟨rfl,aa,aj.at b⟩
 refine J3 ?_;refine af.draw [(0,0),(1,0),(2,0),(3,1),(4,0),(5,0),(6,0),(7,1),(8,0),(9,0),(10,1),(11,0)] kr kr ?_;refine cj ?_;refine LD.eh rfl rfl (da (j:=2) aB Tryz.isAgg3 rfl rfl cJ (by rfl) (by rfl) (by exact pS om)) ?_;refine J9 ?_;refine LM.aq (t:=56) rfl (fun h4=>?_) (fun h4=>?_)
 ·refine cN ?_;refine LM.st Tryz.sizeOf3 rfl rfl rfl dW rfl (fun _=>rfl) ?_;refine J9 ?_;refine qL Tryz.results81 rfl fun w' aj aa az=>?_
  unfold dL;rw [DV,R7 (by decide) om (Classical.not_not.1 h3) (by unfold hasB;rw [if_neg (by decide),decide_eq_false om];rfl)];exact⟨rfl,aa,aj.at b⟩
 refine J6 ?_;refine af.ak rfl (fun h5=>?_) (fun h5=>?_)
 ·refine J5 ?_;refine LM.st Tryz.sizeOf3 rfl rfl rfl dW rfl (fun _=>rfl) ?_;refine J9 ?_;refine qL Tryz.results81 rfl fun w' aj aa az=>?_
  unfold dL;rw [DV,R7 (by decide) om (Classical.not_not.1 h3) (by unfold hasB;rw [if_neg (by decide),decide_eq_true om,decide_eq_false om];rfl)];exact⟨rfl,aa,aj.at b⟩
 refine c9 ?_;refine LM.st Tryz.sizeOf3 rfl rfl rfl dW rfl (fun _=>rfl) ?_;refine J9 ?_;refine qL Tryz.results81 rfl fun w' aj aa az=>?_
 unfold dL;rw [DV,W9 (by decide) om (Classical.not_not.1 h3) (by unfold hasB;rw [if_neg (by decide),decide_eq_true om,decide_eq_true om];rfl)];exact⟨rfl,aa,by have:=aj.at b;rw [DV] at this;exact this⟩
theorem qy {ws:List bG} (b:Nat) {ad:Option Addr} {n cap:Nat} (i:Nat) (e k fX:Int) (w:World) (hM:Mem w [qB b ad n cap i e]):aD Tryz.prog 84 #[.pointer (some ⟨b,0,none⟩),.int .i64 k,.int .i64 fX] w (SM b (.bool (decide (e≠0)||decide (fX≤k))) (qO ad n cap i (if e=0∧fX≤k then 6 else e)) w):=by
 refine aD.ao Tryz.func84 rfl Tryz.ntmps84 rfl ([qB b ad n cap i e]) ((fun x=>x=b)) hM ?_;refine kk ?_;refine LM.aq (t:=12) rfl (fun h1=>?_) (fun h1=>?_)
 ·refine J6 ?_;refine af.ak rfl (fun h2=>?_) (fun h2=>?_)
  ·refine J4 ?_;refine LM.st Tryz.sizeOf3 rfl rfl rfl dW rfl (fun _=>rfl) ?_;refine gy ?_;refine qL Tryz.results84 rfl fun w' aj aa az=>?_;refine ⟨?_,aa,?_⟩;(rw [decide_eq_true (show fX≤k from h2),Bool.or_true];rfl);(rw [if_pos ⟨h1,h2⟩];exact aj.at b)
  refine gy ?_;refine qL Tryz.results84 rfl fun w' aj aa az=>?_;refine ⟨?_,aa,?_⟩;(rw [decide_eq_false (show¬fX≤k from h2),Bool.or_false];rfl);(rw [if_neg (fun q=>h2 q.2)];exact aj.at b)
 refine Rt ?_;refine qL Tryz.results84 rfl fun w' aj aa az=>?_;refine ⟨?_,aa,?_⟩;(rw [decide_eq_true (show e≠0 from h1)];rfl);(rw [if_neg (fun q=>h1 q.1)];exact aj.at b)
set_option maxHeartbeats 1000000 in
theorem B5 {ws:List bG} (b:Nat) {ad:Option Addr} {n cap:Nat} (i:Nat) (e:Int) (w:World) (hn:n=ws.length) (hx:ws.length≤1000000000) (hl:Sr fW 4 ws (.slice ad n cap) w) (pS:0<ws.length→kc ad≠b) (hM:Mem w [qB b ad n cap i e]):aD Tryz.prog 85 #[.pointer (some ⟨b,0,none⟩),.bool true] w (SM b (.agg (fL (ke ws true i e).2.2).toArray) (qO ad n cap (ke ws true i e).1 (ke ws true i e).2.1) w):=by
 refine aD.ao Tryz.func85 rfl Tryz.ntmps85 rfl ([qB b ad n cap i e]) ((fun x=>x=b)) hM ?_;refine J2 ?_;refine LM.alloc Tryz.zeroValue83 rfl (fun b4 xw=>?_);refine J5 ?_;refine LM.val (aC (cs:=#[_,_,_,_,_]) rfl (by first|rfl|kernel_rfl)) ?_;refine LM.alloc Tryz.zeroValue83 rfl (fun b5 AA=>?_);refine LM.dh Tryz.sizeOf83 rfl rfl rfl rfl df (fun bD=>by first|exact rfl|exact absurd bD om) ?_;refine J5 ?_;refine LM.cW (oC Tryz.func81) (fun w hm hc hg=>dG b i e 16 qV w hn hx (hl.kp hc pS) pS (sm hm)) rfl (fun bD=>by first|exact rfl|exact absurd bD om) ?_;refine J1 ?_;refine LM.st Tryz.sizeOf3 rfl rfl rfl dW rfl (fun bD=>by first|exact rfl|exact absurd bD om) ?_;refine J5 ?_;refine LM.cW (oC Tryz.func81) (fun w hm hc hg=>dG b (Da ws i e).1 (Da ws i e).2.1 32 vR w hn hx (hl.kp hc pS) pS (sm hm)) rfl (fun bD=>by first|exact rfl|exact absurd bD om) ?_;refine J1 ?_;refine LM.st Tryz.sizeOf3 rfl rfl rfl dW rfl (fun bD=>by first|exact rfl|exact absurd bD om) ?_;refine J8 ?_;refine af.aJ rfl (fun h1=>?_) (fun h1=>?_)
 ·refine J3 ?_;refine LM.cW (oC Tryz.func81) (fun w hm hc hg=>dG b (IQ ws i e).1 (IQ ws i e).2.1 16 Gu w hn hx (hl.kp hc pS) pS (sm hm)) rfl (fun bD=>by first|exact rfl|exact absurd bD om) ?_;refine J1 ?_;refine LM.st Tryz.sizeOf3 rfl rfl rfl dW rfl (fun bD=>by first|exact rfl|exact absurd bD om) ?_;refine J4 ?_;refine LM.cW (oC Tryz.func81) (fun w hm hc hg=>dG b (HS ws true i e).1 (HS ws true i e).2.1 16 yV w hn hx (hl.kp hc pS) pS (sm hm)) rfl (fun bD=>by first|exact rfl|exact absurd bD om) ?_;refine J1 ?_;refine LM.st Tryz.sizeOf3 rfl rfl rfl dW rfl (fun bD=>by first|exact rfl|exact absurd bD om) ?_;refine J5 ?_;refine LM.cW (oC Tryz.func82) (fun w hm hc hg=>fV b (ID ws true i e).1 (ID ws true i e).2.1 3 [59] w hn hx (hl.kp hc pS) pS (sm hm)) rfl (fun bD=>by first|exact rfl|exact absurd bD om) ?_;refine J4 ?_;refine LM.rd (aL Tryz.isAgg83 Tryz.sizeOf83 rfl rfl) ?_;refine LM.dh Tryz.sizeOf83 rfl rfl rfl rfl df (fun bD=>by first|exact rfl|exact absurd bD om) ?_;refine J3 ?_;refine QM.aH (ds:=([])) (.inl rfl) [.cell 4 83] Tryz.results85 aX (bY rfl Tryz.isAgg83 Tryz.sizeOf83 rfl aW) ?_;intro w' aj aa;exact⟨rfl,aa,aj.at b⟩
 cases h1
set_option maxHeartbeats 1000000 in
theorem B7 {ws:List bG} (b:Nat) {ad:Option Addr} {n cap:Nat} (i:Nat) (e:Int) (w:World) (hn:n=ws.length) (hx:ws.length≤1000000000) (hl:Sr fW 4 ws (.slice ad n cap) w) (pS:0<ws.length→kc ad≠b) (hM:Mem w [qB b ad n cap i e]):aD Tryz.prog 85 #[.pointer (some ⟨b,0,none⟩),.bool false] w (SM b (.agg (fL (ke ws false i e).2.2).toArray) (qO ad n cap (ke ws false i e).1 (ke ws false i e).2.1) w):=by
 refine aD.ao Tryz.func85 rfl Tryz.ntmps85 rfl ([qB b ad n cap i e]) ((fun x=>x=b)) hM ?_;refine J2 ?_;refine LM.alloc Tryz.zeroValue83 rfl (fun b4 xw=>?_);refine J5 ?_;refine LM.val (aC (cs:=#[_,_,_,_,_]) rfl (by first|rfl|kernel_rfl)) ?_;refine LM.alloc Tryz.zeroValue83 rfl (fun b5 AA=>?_);refine LM.dh Tryz.sizeOf83 rfl rfl rfl rfl df (fun bD=>by first|exact rfl|exact absurd bD om) ?_;refine J5 ?_;refine LM.cW (oC Tryz.func81) (fun w hm hc hg=>dG b i e 16 qV w hn hx (hl.kp hc pS) pS (sm hm)) rfl (fun bD=>by first|exact rfl|exact absurd bD om) ?_;refine J1 ?_;refine LM.st Tryz.sizeOf3 rfl rfl rfl dW rfl (fun bD=>by first|exact rfl|exact absurd bD om) ?_;refine J5 ?_;refine LM.cW (oC Tryz.func81) (fun w hm hc hg=>dG b (Da ws i e).1 (Da ws i e).2.1 32 vR w hn hx (hl.kp hc pS) pS (sm hm)) rfl (fun bD=>by first|exact rfl|exact absurd bD om) ?_;refine J1 ?_;refine LM.st Tryz.sizeOf3 rfl rfl rfl dW rfl (fun bD=>by first|exact rfl|exact absurd bD om) ?_;refine J8 ?_;refine af.aJ rfl (fun h1=>?_) (fun h1=>?_)
 ·cases h1
 refine J5 ?_;refine LM.cW (oC Tryz.func82) (fun w hm hc hg=>fV b (ID ws false i e).1 (ID ws false i e).2.1 3 [59] w hn hx (hl.kp hc pS) pS (sm hm)) rfl (fun bD=>by first|exact rfl|exact absurd bD om) ?_;refine J4 ?_;refine LM.rd (aL Tryz.isAgg83 Tryz.sizeOf83 rfl rfl) ?_;refine LM.dh Tryz.sizeOf83 rfl rfl rfl rfl df (fun bD=>by first|exact rfl|exact absurd bD om) ?_;refine J3 ?_;refine QM.aH (ds:=([])) (.inl rfl) [.cell 4 83] Tryz.results85 aX (bY rfl Tryz.isAgg83 Tryz.sizeOf83 rfl aW) ?_;intro w' aj aa;exact⟨rfl,aa,aj.at b⟩
theorem DR {ws:List bG} (sh:Bool) (b:Nat) {ad:Option Addr} {n cap:Nat} (i:Nat) (e:Int) (w:World) (hn:n=ws.length) (hx:ws.length≤1000000000) (hl:Sr fW 4 ws (.slice ad n cap) w) (pS:0<ws.length→kc ad≠b) (hM:Mem w [qB b ad n cap i e]):
    aD Tryz.prog 85 #[.pointer (some ⟨b,0,none⟩),.bool sh] w (SM b (.agg (fL (ke ws sh i e).2.2).toArray) (qO ad n cap (ke ws sh i e).1 (ke ws sh i e).2.1) w):=by
  cases sh
  · exact B7 b i e w hn hx hl pS hM
  · exact B5 b i e w hn hx hl pS hM
def IN (ws:List bG) (i:Nat) (e:Int) (gs:List Int):List Int×Nat×Int:=if gs.length=0 then (if e=0 then gpO ws i e else ([],i,e)) else PL ws i e gs
theorem Na {ws:List bG} {i:Nat} {e:Int} {gs:List Int} (h:(nM ws i e 1 bX||(decide (gs.length=0)&&decide (e=0)))=false):IN ws i e gs=(gs,i,e):=by
  simp only [Bool.or_eq_false_iff,Bool.and_eq_false_iff,decide_eq_false_iff_not] at h
  unfold IN
  by_cases h0:gs.length=0
  · rw [if_pos h0,if_neg (h.2.resolve_left (fun q=>q h0)),List.length_eq_zero_iff.1 h0]
  · rw [if_neg h0,AM h.1]
theorem Ll {ws:List bG} {i:Nat} {e:Int} {gs:List Int} (h:nM ws i e 1 bX=true) (hl:4≤gs.length):IN ws i e gs=(gs,i,6):=by
  unfold IN;rw [if_neg om,Nh h hl]
theorem CU {ws:List bG} {i:Nat} {e:Int} {gs:List Int} (h:(nM ws i e 1 bX||(decide (gs.length=0)&&decide (e=0)))=true) (hl:gs.length<4):IN ws i e gs=IN ws (iI ws i e bX 16).1 (iI ws i e bX 16).2.1 (gs++ [(iI ws i e bX 16).2.2]):=by
  simp only [Bool.or_eq_true,Bool.and_eq_true,decide_eq_true_eq] at h
  unfold IN
  rw [if_neg (show¬(gs++ [(iI ws i e bX 16).2.2]).length=0 by simp)]
  by_cases h0:gs.length=0
  · have he:e=0:=h.elim (fun q=>(oF q).2) (fun q=>q.2)
    rw [if_pos h0,if_pos he,List.length_eq_zero_iff.1 h0];rfl
  · rw [if_neg h0,LA (h.resolve_right (fun q=>h0 q.1)) hl]
theorem zE {ws:List bG} {i0:Nat} {gs:List Int} {i:Nat} {e:Int} (h:IN ws (pq ws i0).1 (pq ws i0).2.1 [] =(gs,i,e)):(sG ws i0).2=(i,e)∧(e=0→sG ws i0=(gs,i,e)):=by
  unfold IN at h
  rw [if_pos (show ([] :List Int).length=0 from rfl)] at h
  unfold sG
  by_cases h0:(pq ws i0).2.1=0
  · rw [if_pos h0] at h;rw [h];exact⟨rfl,fun _=>rfl⟩
  · rw [if_neg h0] at h
    simp only [Prod.mk.injEq] at h;obtain ⟨_,h2,h3⟩:=h;rw [←h2,←h3];refine ⟨?_,fun q=>absurd q h0⟩
    unfold gpO;rw [Oa h0];simp only;rw [AM (Ae h0)]
theorem KT {ws:List bG} {i:Nat} {e:Int} {ps:List qx} :IM ws i e ps=(nM ws i e 1 pZ||(decide (ps.length=0)&&decide (e=0))):=by
  unfold IM
  by_cases h:e=0
  · rw [decide_eq_true h,Bool.true_and,Bool.and_true,Bool.or_comm]
  · rw [Ae h,decide_eq_false h];simp
structure xL (ws:List bG) (i0:Nat) (gs:List Int) (i1:Nat) (e1:Int) (ls:List jv) (i2:Nat) (e2:Int) (ps:List qx) (pl:List Int) (i3:Nat) (e3:Int):Prop where
  g:(sG ws i0).2=(i1,e1)∧(e1=0→(sG ws i0).1=gs)
  l:HB ws i1 e1 [] =(ls,i2,e2)
  p:GV ws i2 e2 [] [] =(ps,pl,i3,e3)
theorem xL.two {ws:List bG} {i0:Nat} {gs:List Int} {i1:Nat} {e1:Int} {ls:List jv} {i2:Nat} {e2:Int} {ps:List qx} {pl:List Int} {i3:Nat} {e3:Int} (h:xL ws i0 gs i1 e1 ls i2 e2 ps pl i3 e3):sL ws i0=(ls,i2,e2)∧sP ws i0=(ps,pl,i3,e3):=by
  have a:sL ws i0=(ls,i2,e2):=by unfold Go.Eng.sL;rw [h.g.1];exact h.l
  exact⟨a,by unfold sP;rw [a];exact h.p⟩
theorem xL.bad {ws:List bG} {i0:Nat} {gs:List Int} {i1:Nat} {e1:Int} {ls:List jv} {i2:Nat} {e2:Int} {ps:List qx} {pl:List Int} {i3:Nat} {e3:Int} (h:xL ws i0 gs i1 e1 ls i2 e2 ps pl i3 e3) (he:e3≠0):ux ws i0=(default,(i3:Int),e3):=by
  unfold ux;rw [h.two.2];simp only;rw [if_pos he]
theorem xL.mis {ws:List bG} {i0:Nat} {gs:List Int} {i1:Nat} {e1:Int} {ls:List jv} {i2:Nat} {e2:Int} {ps:List qx} {pl:List Int} {i3:Nat} {e3:Int} (h:xL ws i0 gs i1 e1 ls i2 e2 ps pl i3 e3) (he:e3=0) {j:Nat} (hj:j<ps.length) (h0:(ps.take j).any (j1 ls ps.length)=false) (h1:j1 ls ps.length (ps.getD j default)=true):ux ws i0=(default,pl.getD j 0,(CX (ps.getD j default).fv (ps.getD j default).xs ls (ps.length:Int)).2):=by
  have e:=iC default h0 hj h1;have e':pO ls ps=(j:Nat):=e
  unfold ux;rw [h.two.2,h.two.1];simp only;rw [if_neg (by simp [he]),e',if_pos om,Int.toNat_natCast]
  unfold Hh;rw [if_neg om,Int.toNat_natCast]
theorem xL.ok {ws:List bG} {i0:Nat} {gs:List Int} {i1:Nat} {e1:Int} {ls:List jv} {i2:Nat} {e2:Int} {ps:List qx} {pl:List Int} {i3:Nat} {e3:Int} (h:xL ws i0 gs i1 e1 ls i2 e2 ps pl i3 e3) (he:e3=0) (h0:ps.any (j1 ls ps.length)=false):ux ws i0=(⟨(sA ws i0).2.2,(pq ws i0).2.2,gs,ls,ps⟩,(i3:Int),0):=by
  have z2:e2=0:=by
    have:=r8 (ws:=ws) _ i2 e2 [] [] (by have:=h.p;unfold GV at this;rw [this];exact he);exact this
  have z1:e1=0:=by
    have:=rp (ws:=ws) _ i1 e1 [] (by have:=h.l;unfold HB at this;rw [this];exact z2);exact this
  have e':pO ls ps= -1:=eK h0
  unfold ux;rw [h.two.2,h.two.1];simp only;rw [if_neg (by simp [he]),e',if_neg (by decide),h.g.2 z1]
theorem P6 {ws:List bG} {i:Nat} (h:i≤ws.length):0≤(dZ ws (i:Int)).2.2.1∧(dZ ws (i:Int)).2.2.1.toNat≤ws.length:=by
  have key:∀(f i:Nat) (ops:List cZ),i≤ws.length→0≤(od f ws i ops).2.1∧(od f ws i ops).2.1.toNat≤ws.length:=by
    intro f
    induction f with
    |zero=>intro i ops hi;exact⟨by show (0:Int)≤(i:Int);omega,by show ((i:Int)).toNat≤_;omega⟩
    |succ f ih=>
      intro i ops hi
      unfold od
      split
      · rename_i q
        have:=oM q
        split
        · exact⟨by show (0:Int)≤(i:Int);omega,by show ((i:Int)).toNat≤_;omega⟩
        · exact⟨by show (0:Int)≤((i+1:Nat):Int);omega,by show (((i+1:Nat):Int)).toNat≤_;omega⟩
      · have hp:=PD (k:=ops.length) hi
        split
        · exact⟨by show (0:Int)≤((mz ws i ops.length).1:Int);omega,by show (((mz ws i ops.length).1:Int)).toNat≤_;omega⟩
        · exact ih _ _ hp
  rw [s9 h];simp only
  unfold kj
  split
  · rename_i q
    have:=oM q
    have hh:(dR ws i).2≤ws.length:=by
      unfold dR;simp only;split
      · rename_i q;have:=oM q;omega
      · omega
    split
    · rename_i q2
      have:=oM q2;exact key _ _ _ om
    · exact⟨by show (0:Int)≤((dR ws i).2:Int);omega,by show (((dR ws i).2:Int)).toNat≤_;omega⟩
  · exact⟨by show (0:Int)≤(i:Int);omega,by show ((i:Int)).toNat≤_;omega⟩
def LN (r:jy×Int×Int) (n0:Nat) (v:Value) (m:ab):Prop:=∃sv:dm,v= .tuple #[sv.val,.int .i64 r.2.1,.int .i64 r.2.2]∧sv.C=r.1∧∀w,Mem w m→sv.In w
theorem LN.mono {r:jy×Int×Int} :∀(k k':Nat) u m,k'≤k→LN r k u m→LN r k' u m:=fun k k' u m h q=>q
theorem LN.none {p e:Int} {n0:Nat} :LN (default,p,e) n0 (.tuple #[(default:dm).val,.int .i64 p,.int .i64 e]) [] :=
  ⟨default,rfl,rfl,fun w _=>⟨rfl,.nil _ _ _,rfl,.nil _ _ _,rfl,.nil _ _ _,fun p hp=>by cases hp⟩⟩
abbrev sO (c g:Int) (ga:Option Addr) (gn gc:Nat) (la:Option Addr) (ln lc:Nat) (pa:Option Addr) (pn pc:Nat):Obj:= .cells #[.int .i64 c,.int .i64 g,.slice ga gn gc,.slice la ln lc,.slice pa pn pc] 30 (0,0)
abbrev z0:Obj:=sO 0 0 none 0 0 none 0 0 none 0 0
theorem M6 {ps:List iS} {p:iS} :(ps++ [p]).map iS.c=ps.map iS.c++ [p.c] :=by simp
theorem Oz {ps:List iS} {p:iS} {w:World} (h:tP ps w) (k:p.In w):tP (ps++ [p]) w:=fun q hq=>by
  rcases List.mem_append.1 hq with hq|hq
  · exact h q hq
  · rw [List.mem_singleton] at hq;subst hq;exact k
theorem rU {α:Type} {f:α→List Value} {E s n0:Nat} {xs:List α} {v:Value} {m:ab} {w:World} (h:Sl f E s n0 xs v m) (hf:∀a,(f a).length=s) (hm:Mem w m):Sr f s xs v w:=h.sr hf (fun p hp=>hm.2 p hp)
theorem Fz (n:Nat):decide ((n:Int)=0)=decide (n=0):=decide_eq_decide.2 om
set_option maxHeartbeats 4000000 in
theorem Cm {ws:List bG} {ad:Option Addr} {n cap:Nat} (p:Int) (w:World) (hn:n=ws.length) (hx:ws.length≤1000000000) (hl:Sr fW 4 ws (.slice ad n cap) w):aD Tryz.prog 45 #[.slice ad n cap,.int .i64 p] w (fun v w'=>Ext w w'∧∃m,LN (lq ws p) w.heap.size v m∧Mem w' m∧∀p∈m,w.heap.size≤p.1):=by
 refine aD.ao Tryz.func45 rfl Tryz.ntmps45 rfl ([]) (no) (Mem.nil w) ?_;refine J2 ?_;refine LM.alloc Tryz.zeroValue30 rfl (fun b4 xw=>?_);refine cj ?_;refine LM.aq (t:=19) rfl (fun h1=>?_) (fun h1=>?_)
 ·refine cj ?_;refine LM.val (aC (cs:=#[_,_,_,_,_]) rfl (by first|rfl|kernel_rfl)) ?_;refine LM.dh Tryz.sizeOf30 rfl rfl rfl rfl df bV ?_;refine J6 ?_;refine QM.aH (ds:=([])) (.inl rfl) [.cell 4 30,.tmp 5,.tmp 6] Tryz.results45 aX (bY rfl Tryz.isAgg30 Tryz.sizeOf30 rfl (aZ rfl (aZ rfl aW))) ?_;intro w' aj aa;have rz:lq ws p=(default,0,5):=(by unfold lq;rw [if_pos om]);rw [rz];exact⟨aa,[],LN.none,Mem.nil _,fun p hp=>by cases hp⟩
 refine J7 ?_;refine af.ak rfl (fun h2=>?_) (fun h2=>?_)
 ·refine J2 ?_;refine LM.val (aC (cs:=#[_,_,_,_,_]) rfl (by first|rfl|kernel_rfl)) ?_;refine LM.dh Tryz.sizeOf30 rfl rfl rfl rfl df bV ?_;refine J6 ?_;refine QM.aH (ds:=([])) (.inl rfl) [.cell 4 30,.tmp 5,.tmp 6] Tryz.results45 aX (bY rfl Tryz.isAgg30 Tryz.sizeOf30 rfl (aZ rfl (aZ rfl aW))) ?_;intro w' aj aa;have rz:lq ws p=(default,0,5):=(by unfold lq;rw [if_pos om]);rw [rz];exact⟨aa,[],LN.none,Mem.nil _,fun p hp=>by cases hp⟩
 obtain ⟨i0,rfl⟩:∃i0:Nat,p=(i0:Nat):=⟨p.toNat,by omega⟩;have th:i0≤ws.length:=om;refine J6 ?_;refine LM.val (aC (cs:=#[_,_,_]) rfl (by first|rfl|kernel_rfl)) ?_;refine LM.box rfl rfl (fun k5 aau=>?_);refine J5 ?_;have rA:0<ws.length→kc ad≠k5:=(fun h0=>by have:=hl.acp h0;omega)
 refine LM.val (aC (cs:=#[_,_,_,_,_]) rfl (by first|rfl|kernel_rfl)) ?_;refine LM.alloc Tryz.zeroValue30 rfl (fun b8 O9=>?_);refine LM.dh Tryz.sizeOf30 rfl rfl rfl rfl df bV ?_;refine J5 ?_;refine LM.cW (oC Tryz.func81) (fun w hm hc hg=>dG k5 i0 0 4 Ag w hn hx (hl.ext hc) rA (sm hm)) rfl bV ?_;refine J1 ?_;refine LM.st Tryz.sizeOf3 rfl rfl rfl dW rfl bV ?_;refine J5 ?_;refine LM.cW (oC Tryz.func82) (fun w hm hc hg=>fV k5 (dL ws i0 0 Ag 4).1 (dL ws i0 0 Ag 4).2.1 3 [59] w hn hx (hl.ext hc) rA (sm hm)) rfl bV ?_;refine J5 ?_;refine LM.cW (oC Tryz.func81) (fun w hm hc hg=>dG k5 (sA ws i0).1 (sA ws i0).2.1 8 zg w hn hx (hl.ext hc) rA (sm hm)) rfl bV ?_;refine J1 ?_;refine LM.st Tryz.sizeOf3 rfl rfl rfl dW rfl bV ?_;refine J5 ?_;refine LM.cW (oC Tryz.func82) (fun w hm hc hg=>fV k5 (dL ws (sA ws i0).1 (sA ws i0).2.1 zg 8).1 (dL ws (sA ws i0).1 (sA ws i0).2.1 zg 8).2.1 3 [59] w hn hx (hl.ext hc) rA (sm hm)) rfl bV ?_;refine J3 ?_;refine af.bC (α:=Nat×Int×List Int×Option Addr×Nat×Nat×ab) (fun ⟨i1,e1,gs,lB,ng,cg,mg⟩=>[]) [(0,_),(4,_),(7,_),(8,_)] (fun ⟨i1,e1,gs,lB,ng,cg,mg⟩=>mg++qB k5 ad n cap i1 e1::(b8,sO (sA ws i0).2.2 (pq ws i0).2.2 lB ng cg none 0 0 none 0 0)::(b4,z0):: []) (fun ⟨i1,e1,gs,lB,ng,cg,mg⟩=>IN ws (pq ws i0).1 (pq ws i0).2.1 [] =(gs,i1,e1)∧i1≤ws.length∧gs.length≤4∧ng=gs.length∧Sl fI 3 1 w.heap.size gs (.slice lB ng cg) mg) cF ?_ ?_
 ·refine J1 ?_;refine af.aP (α:=Nat×Int×List Int×Option Addr×Nat×Nat×ab) (fun ⟨i,e,gs,lB,ng,cg,mg⟩=>[]) [(0,_),(4,_),(7,_),(8,_)] (fun ⟨i,e,gs,lB,ng,cg,mg⟩=>mg++qB k5 ad n cap i e::(b8,sO (sA ws i0).2.2 (pq ws i0).2.2 lB ng cg none 0 0 none 0 0)::(b4,z0):: []) (fun ⟨i,e,gs,lB,ng,cg,mg⟩=>IN ws i e gs=IN ws (pq ws i0).1 (pq ws i0).2.1 []∧i≤ws.length∧gs.length≤4∧ng=gs.length∧Sl fI 3 1 w.heap.size gs (.slice lB ng cg) mg) (fun ⟨i,e,gs,lB,ng,cg,mg⟩=>5-gs.length) (((pq ws i0).1,(pq ws i0).2.1,[],none,0,0,[])) cF aN ⟨rfl,y9 (y9 om),by decide,rfl,.nil _ _ _ _⟩ ?_;rintro ⟨i,e,gs,lB,ng,cg,mg⟩ ⟨hG,hi,V4,E5,CK⟩;change af _ _ _ _ _ _ _ (mg++qB k5 ad n cap i e::(b8,sO (sA ws i0).2.2 (pq ws i0).2.2 lB ng cg none 0 0 none 0 0)::(b4,z0):: []) _ _ _;refine J2 ?_;refine af.bC (α:=Bool) (fun q=>[(55,.bool q)]) [(0,_),(4,_),(7,_),(8,_)] (fun q=>mg++qB k5 ad n cap i e::(b8,sO (sA ws i0).2.2 (pq ws i0).2.2 lB ng cg none 0 0 none 0 0)::(b4,z0):: []) (fun q=>q=(nM ws i e 1 bX||(decide ((ng:Int)=0)&&decide (e=0)))) cF ?_ ?_
  ·refine J2 ?_;refine cE Tryz.func83 rfl (fun w hm hc hg=>jI k5 i e 1 bX w hn (hl.ext hc) (sm hm)) ?_;refine J1 ?_;refine LM.bj (t:=43) rfl (fun h3=>?_) (fun h3=>?_)
   ·refine J4 ?_;refine LM.dp (t:=43) rfl rfl rfl ?_;refine J8 ?_;refine mK (_) ?_
    · (simp [h1,h2,h3];done)
   refine J6 ?_;refine LM.aq (t:=48) rfl (fun h4=>?_) (fun h4=>?_)
   ·refine J9 ?_;refine mK (_) ?_
    · (simp [h1,h2,h3,h4];done)
   refine J8 ?_;refine mK (_) ?_
   · (have h0:=decide_eq_false (show¬((ng:Nat):Int)=0 by omega);simp only [h0,h1,h2,h3,h4,Bool.false_and,Bool.or_false];rfl)
  rintro q hq;change QM _ _ _ _ _ (mg++qB k5 ad n cap i e::(b8,sO (sA ws i0).2.2 (pq ws i0).2.2 lB ng cg none 0 0 none 0 0)::(b4,z0):: []) _ _ _;refine J1 ?_;refine af.aJ rfl (fun h5=>?_) (fun h5=>?_)
  ·have hQ:(nM ws i e 1 bX||(decide (gs.length=0)&&decide (e=0)))=true:=(by rw [←h5,hq,E5,Fz])
   refine J7 ?_;refine cE Tryz.func83 rfl (fun w hm hc hg=>jI k5 i e 1 bX w hn (hl.ext hc) (sm hm)) ?_;refine J1 ?_;refine LM.bj (t:=58) rfl (fun h6=>?_) (fun h6=>?_)
   ·refine J6 ?_;refine LM.cW (oC Tryz.func84) (fun w hm hc hg=>qy (ws:=ws) k5 i e (ng:Nat) 4 w (sm hm)) rfl bV ?_;refine J3 ?_;refine af.aJ rfl (fun h7=>?_) (fun h7=>?_)
    ·have DV:=(oF h6).2;have h4:(4:Int)≤(ng:Nat):=(by simpa [DV] using h7);rw [if_pos ⟨DV,h4⟩];refine J5 ?_;refine mK ((i,6,gs,lB,ng,cg,mg)) ?_
     · exact⟨by rw [←hG];exact Ll h6 om,hi,V4,E5,CK⟩
    have h4:¬(4:Int)≤(ng:Nat):=(fun q=>by rw [decide_eq_true q] at h7;simp at h7);rw [if_neg (fun q=>h4 q.2)];refine J3 ?_;refine af.keep ((b8,_):: []) (fun _=>True) (.one 0 0 (.one 1 1 (.one 2 0 (.one 3 2 (.one 4 2 (.one 5 2 (.one 6 0 (.last 7)))))))) kr kr aN (fun _ _=>trivial) ?_;refine J4 ?_;refine LM.cW (oC Tryz.func81) (fun w hm hc hg=>dG k5 i e 16 bX w hn hx (hl.ext hc) rA (sm hm)) rfl bV ?_;refine J3 ?_;refine LM.single Tryz.underlying26 Tryz.sizeOf3 Tryz.zeroValue3 rfl rfl rfl rfl rfl (fun b69 afB=>?_);refine J3 ?_;refine LM.app (a:=(dL ws i e bX 16).2.2) Tryz.underlying26 Tryz.typeInfo3 rfl rfl rfl rfl rfl rfl rfl aB (by rfl) ir (by intro _ u hu;simp [fI] at hu;(repeat (first|(rcases hu with rfl|hu)|subst hu|rfl))) (by first|exact Nat.le_refl _|omega) pH (by first|omega|(unfold maxLen;omega)) (by simp only [Tryz.t3];omega) (fun UP n70 Mn YD Tb Ul Nm=>?_);refine J3 ?_;refine KD.last rfl ?_;refine LM.st Tryz.sizeOf26 rfl rfl rfl dW rfl bV ?_;refine J1 ?_;refine QM.qn ?_;refine J3 ?_;refine LM.cW (oC Tryz.func82) (fun w hm hc hg=>fV k5 (dL ws i e bX 16).1 (dL ws i e bX 16).2.1 3 [59] w hn hx (hl.ext hc) rA (sm hm)) rfl bV ?_;refine J2 ?_;refine aK (((iI ws i e bX 16).1,(iI ws i e bX 16).2.1,gs++ [(iI ws i e bX 16).2.2],UP,n70,Mn,YD)) ?_ ?_
    · exact⟨by rw [←CU hQ om];exact hG,y9 hi,by simp;omega,by rw [Tb];simp,Ul⟩
    · dsimp only;rw [List.length_append,List.length_singleton];omega
   have hg0:gs.length=0:=(by have h:=hQ;simp only [h6,Bool.false_or,Bool.and_eq_true,decide_eq_true_eq] at h;exact h.1)
   refine cN ?_;refine af.keep ((b8,_):: []) (fun _=>True) (.one 0 0 (.one 1 1 (.one 2 0 (.one 3 2 (.one 4 2 (.one 5 2 (.one 6 0 (.last 7)))))))) kr kr aN (fun _ _=>trivial) ?_;refine J4 ?_;refine LM.cW (oC Tryz.func81) (fun w hm hc hg=>dG k5 i e 16 bX w hn hx (hl.ext hc) rA (sm hm)) rfl bV ?_;refine J3 ?_;refine LM.single Tryz.underlying26 Tryz.sizeOf3 Tryz.zeroValue3 rfl rfl rfl rfl rfl (fun b69 afB=>?_);refine J3 ?_;refine LM.app (a:=(dL ws i e bX 16).2.2) Tryz.underlying26 Tryz.typeInfo3 rfl rfl rfl rfl rfl rfl rfl aB (by rfl) ir (by intro _ u hu;simp [fI] at hu;(repeat (first|(rcases hu with rfl|hu)|subst hu|rfl))) (by first|exact Nat.le_refl _|omega) pH (by first|omega|(unfold maxLen;omega)) (by simp only [Tryz.t3];omega) (fun UP n70 Mn YD Tb Ul Nm=>?_);refine J3 ?_;refine KD.last rfl ?_;refine LM.st Tryz.sizeOf26 rfl rfl rfl dW rfl bV ?_;refine J1 ?_;refine QM.qn ?_;refine J3 ?_;refine LM.cW (oC Tryz.func82) (fun w hm hc hg=>fV k5 (dL ws i e bX 16).1 (dL ws i e bX 16).2.1 3 [59] w hn hx (hl.ext hc) rA (sm hm)) rfl bV ?_;refine J2 ?_;refine aK (((iI ws i e bX 16).1,(iI ws i e bX 16).2.1,gs++ [(iI ws i e bX 16).2.2],UP,n70,Mn,YD)) ?_ ?_
   · exact⟨by rw [←CU hQ om];exact hG,y9 hi,by simp;omega,by rw [Tb];simp,Ul⟩
   · dsimp only;rw [List.length_append,List.length_singleton];omega
  refine J4 ?_;refine mK ((i,e,gs,lB,ng,cg,mg)) ?_
  · exact⟨by rw [←hG];exact Na (by rw [←h5,hq,E5,Fz]),hi,V4,E5,CK⟩
 rintro ⟨i1,e1,gs,lB,ng,cg,mg⟩ ⟨hG,XR,V4,E5,CK⟩;change QM _ _ _ _ _ (mg++qB k5 ad n cap i1 e1::(b8,sO (sA ws i0).2.2 (pq ws i0).2.2 lB ng cg none 0 0 none 0 0)::(b4,z0):: []) _ _ _;refine J2 ?_;refine af.bC (α:=Nat×Int×List jv×Option Addr×Nat×Nat×ab) (fun ⟨i2,e2,ls,tw,nl,cl,ml⟩=>[]) [(0,_),(4,_),(7,_),(8,_)] (fun ⟨i2,e2,ls,tw,nl,cl,ml⟩=>ml++(mg++(qB k5 ad n cap i2 e2::(b8,sO (sA ws i0).2.2 (pq ws i0).2.2 lB ng cg tw nl cl none 0 0)::(b4,z0):: []))) (fun ⟨i2,e2,ls,tw,nl,cl,ml⟩=>HB ws i1 e1 [] =(ls,i2,e2)∧i2≤ws.length∧ls.length≤8∧nl=ls.length∧Sl fL 83 5 w.heap.size ls (.slice tw nl cl) ml) cF ?_ ?_
 ·refine J1 ?_;refine af.aP (α:=Nat×Int×List jv×Option Addr×Nat×Nat×ab) (fun ⟨i,e,ls,tw,nl,cl,ml⟩=>[]) [(0,_),(4,_),(7,_),(8,_)] (fun ⟨i,e,ls,tw,nl,cl,ml⟩=>ml++(mg++(qB k5 ad n cap i e::(b8,sO (sA ws i0).2.2 (pq ws i0).2.2 lB ng cg tw nl cl none 0 0)::(b4,z0):: []))) (fun ⟨i,e,ls,tw,nl,cl,ml⟩=>HB ws i e ls=HB ws i1 e1 []∧i≤ws.length∧ls.length≤8∧nl=ls.length∧Sl fL 83 5 w.heap.size ls (.slice tw nl cl) ml) (fun ⟨i,e,ls,tw,nl,cl,ml⟩=>9-ls.length) ((i1,e1,[],none,0,0,[])) cF aN ⟨rfl,XR,by decide,rfl,.nil _ _ _ _⟩ ?_;rintro ⟨i,e,ls,tw,nl,cl,ml⟩ ⟨hL,hi,NB,xz,jt⟩;change af _ _ _ _ _ _ _ (ml++(mg++(qB k5 ad n cap i e::(b8,sO (sA ws i0).2.2 (pq ws i0).2.2 lB ng cg tw nl cl none 0 0)::(b4,z0):: []))) _ _ _;refine J2 ?_;refine af.bC (α:=Bool) (fun q=>[(79,.bool q)]) [(0,_),(4,_),(7,_),(8,_)] (fun q=>ml++(mg++(qB k5 ad n cap i e::(b8,sO (sA ws i0).2.2 (pq ws i0).2.2 lB ng cg tw nl cl none 0 0)::(b4,z0):: []))) (fun q=>q=Lu ws i e) cF ?_ ?_
  ·refine J2 ?_;refine cE Tryz.func83 rfl (fun w hm hc hg=>jI k5 i e 1 R2 w hn (hl.ext hc) (sm hm)) ?_;refine J1 ?_;refine LM.bj (t:=76) rfl (fun h8=>?_) (fun h8=>?_)
   ·refine J4 ?_;refine mK (_) ?_
    · simp [Lu,h1,h2,h8]
   refine J2 ?_;refine cE Tryz.func83 rfl (fun w hm hc hg=>jI k5 i e 1 eT w hn (hl.ext hc) (sm hm)) ?_;refine J2 ?_;refine mK (_) ?_
   · simp [Lu,h1,h2,h8]
  rintro q hq;change QM _ _ _ _ _ (ml++(mg++(qB k5 ad n cap i e::(b8,sO (sA ws i0).2.2 (pq ws i0).2.2 lB ng cg tw nl cl none 0 0)::(b4,z0):: []))) _ _ _;refine J1 ?_;refine af.aJ rfl (fun h9=>?_) (fun h9=>?_)
  ·have hQ:Lu ws i e=true:=(by rw [←hq,h9]);have DV:=(zO hQ).2;have bD:=(zO hQ).1;refine cj ?_;refine LM.cW (oC Tryz.func84) (fun w hm hc hg=>qy (ws:=ws) k5 i e (nl:Nat) 8 w (sm hm)) rfl bV ?_;refine J2 ?_;refine af.aJ rfl (fun gh=>?_) (fun gh=>?_)
   ·have h4:(8:Int)≤(nl:Nat):=(by simpa [DV] using gh);rw [if_pos ⟨DV,h4⟩];refine J5 ?_;refine mK ((i,6,ls,tw,nl,cl,ml)) ?_
    · exact⟨by rw [←hL];exact Mq hQ om,hi,NB,xz,jt⟩
   have h4:¬(8:Int)≤(nl:Nat):=(fun q=>by rw [decide_eq_true q] at gh;simp at gh);rw [if_neg (fun q=>h4 q.2)];refine J5 ?_;refine cE Tryz.func83 rfl (fun w hm hc hg=>jI k5 i e 1 eT w hn (hl.ext hc) (sm hm)) ?_;refine cN ?_;refine LM.st Tryz.sizeOf3 rfl rfl rfl dW rfl bV ?_;refine J2 ?_;refine af.keep ((b8,_):: []) (fun _=>True) (.one 0 0 (.one 1 1 (.one 2 0 (.one 3 0 (.one 4 2 (.one 5 2 (.one 6 2 (.one 7 0 (.last 8))))))))) kr kr aN (fun _ _=>trivial) ?_;refine J5 ?_;refine LM.cW (oC Tryz.func85) (fun w hm hc hg=>DR (nM ws i e 1 eT) k5 (i+1) e w hn hx (hl.ext hc) rA (sm hm)) rfl bV ?_;refine J3 ?_;refine LM.single Tryz.underlying27 Tryz.sizeOf83 Tryz.zeroValue83 rfl rfl rfl rfl rfl (fun b99 ajs=>?_);refine J3 ?_;refine LM.app (a:=(ke ws (nM ws i e 1 eT) (i+1) e).2.2) Tryz.underlying27 Tryz.typeInfo83 rfl rfl rfl rfl rfl rfl rfl aB (by rfl) ir (by intro _ u hu;simp [fL] at hu;(repeat (first|(rcases hu with rfl|hu)|subst hu|rfl))) (by first|exact Nat.le_refl _|omega) pH (by first|omega|(unfold maxLen;omega)) (by simp only [Tryz.t83];omega) (fun Xk agR U8 aek aaI Xe acn=>?_);refine J3 ?_;refine KD.last rfl ?_;refine LM.st Tryz.sizeOf27 rfl rfl rfl dW rfl bV ?_;refine J1 ?_;refine QM.qn ?_;refine J1 ?_;refine aK (((ke ws (nM ws i e 1 eT) (i+1) e).1,(ke ws (nM ws i e 1 eT) (i+1) e).2.1,ls++ [(ke ws (nM ws i e 1 eT) (i+1) e).2.2],Xk,agR,U8,aek)) ?_ ?_
   · exact⟨by rw [←LH hQ om];exact hL,Sw om,by simp;omega,by rw [aaI];simp,Xe⟩
   · dsimp only;rw [List.length_append,List.length_singleton];omega
  refine J4 ?_;refine mK ((i,e,ls,tw,nl,cl,ml)) ?_
  · exact⟨by rw [←hL];exact MA (by rw [←hq,h9]),hi,NB,xz,jt⟩
 rintro ⟨i2,e2,ls,tw,nl,cl,ml⟩ ⟨hL,hi2,NB,xz,jt⟩;change QM _ _ _ _ _ (ml++(mg++(qB k5 ad n cap i2 e2::(b8,sO (sA ws i0).2.2 (pq ws i0).2.2 lB ng cg tw nl cl none 0 0)::(b4,z0):: []))) _ _ _;refine J7 ?_;refine af.bC (α:=Nat×Int×List iS×Option Addr×Nat×Nat×ab×List Int×Option Addr×Nat×Nat×ab×ab) (fun ⟨i3,e3,ps,yd,np,cp,mp,pl,nu,nq,cq,mq,mo⟩=>[(10,.slice nu nq cq)]) [(4,_),(7,_),(8,_)] (fun ⟨i3,e3,ps,yd,np,cp,mp,pl,nu,nq,cq,mq,mo⟩=>mo++(mp++(mq++(ml++(mg++(qB k5 ad n cap i3 e3::(b8,sO (sA ws i0).2.2 (pq ws i0).2.2 lB ng cg tw nl cl yd np cp)::(b4,z0):: [])))))) (fun ⟨i3,e3,ps,yd,np,cp,mp,pl,nu,nq,cq,mq,mo⟩=>GV ws i2 e2 [] [] =(ps.map iS.c,pl,i3,e3)∧i3≤ws.length∧ps.length≤8∧np=ps.length∧Sl YO 117 2 w.heap.size ps (.slice yd np cp) mp∧pl.length=ps.length∧nq=pl.length∧Sl fI 3 1 w.heap.size pl (.slice nu nq cq) mq∧(∀w,Mem w mo→tP ps w)∧(∀p∈mo,w.heap.size≤p.1)) cF ?_ ?_
 ·refine J1 ?_;refine af.aP (α:=Nat×Int×List iS×Option Addr×Nat×Nat×ab×List Int×Option Addr×Nat×Nat×ab×ab) (fun ⟨i,e,ps,yd,np,cp,mp,pl,nu,nq,cq,mq,mo⟩=>[(10,.slice nu nq cq)]) [(0,_),(4,_),(7,_),(8,_)] (fun ⟨i,e,ps,yd,np,cp,mp,pl,nu,nq,cq,mq,mo⟩=>mo++(mp++(mq++(ml++(mg++(qB k5 ad n cap i e::(b8,sO (sA ws i0).2.2 (pq ws i0).2.2 lB ng cg tw nl cl yd np cp)::(b4,z0):: [])))))) (fun ⟨i,e,ps,yd,np,cp,mp,pl,nu,nq,cq,mq,mo⟩=>GV ws i e (ps.map iS.c) pl=GV ws i2 e2 [] []∧i≤ws.length∧ps.length≤8∧np=ps.length∧Sl YO 117 2 w.heap.size ps (.slice yd np cp) mp∧pl.length=ps.length∧nq=pl.length∧Sl fI 3 1 w.heap.size pl (.slice nu nq cq) mq∧(∀w,Mem w mo→tP ps w)∧(∀p∈mo,w.heap.size≤p.1)) (fun ⟨i,e,ps,yd,np,cp,mp,pl,nu,nq,cq,mq,mo⟩=>9-ps.length) ((i2,e2,[],none,0,0,[],[],none,0,0,[],[])) cF aN ⟨rfl,hi2,by decide,rfl,.nil _ _ _ _,rfl,rfl,.nil _ _ _ _,(fun w _ p hp=>by cases hp),(fun p hp=>by cases hp)⟩ ?_;rintro ⟨i,e,ps,yd,np,cp,mp,pl,nu,nq,cq,mq,mo⟩ ⟨hP,hi,hp8,Qx,Jm,Pq,Cd,Co,xZ,Zv⟩;change af _ _ _ _ _ _ _ (mo++(mp++(mq++(ml++(mg++(qB k5 ad n cap i e::(b8,sO (sA ws i0).2.2 (pq ws i0).2.2 lB ng cg tw nl cl yd np cp)::(b4,z0):: [])))))) _ _ _;refine J2 ?_;refine af.bC (α:=Bool) (fun q=>[(116,.bool q)]) [(0,_),(4,_),(7,_),(8,_),(10,_)] (fun q=>mo++(mp++(mq++(ml++(mg++(qB k5 ad n cap i e::(b8,sO (sA ws i0).2.2 (pq ws i0).2.2 lB ng cg tw nl cl yd np cp)::(b4,z0):: [])))))) (fun q=>q=(nM ws i e 1 pZ||(decide ((np:Int)=0)&&decide (e=0)))) cF ?_ ?_
  ·refine J2 ?_;refine cE Tryz.func83 rfl (fun w hm hc hg=>jI k5 i e 1 pZ w hn (hl.ext hc) (sm hm)) ?_;refine J1 ?_;refine LM.bj (t:=104) rfl (fun jf=>?_) (fun jf=>?_)
   ·refine J4 ?_;refine LM.dp (t:=104) rfl rfl rfl ?_;refine J8 ?_;refine mK (_) ?_
    · (simp [h1,h2,jf];done)
   refine J6 ?_;refine LM.aq (t:=109) rfl (fun lJ=>?_) (fun lJ=>?_)
   ·refine J9 ?_;refine mK (_) ?_
    · (simp [h1,h2,jf,lJ];done)
   refine J8 ?_;refine mK (_) ?_
   · (have h0:=decide_eq_false (show¬((np:Nat):Int)=0 by omega);simp only [h0,h1,h2,jf,lJ,Bool.false_and,Bool.or_false];rfl)
  rintro q hq;change QM _ _ _ _ _ (mo++(mp++(mq++(ml++(mg++(qB k5 ad n cap i e::(b8,sO (sA ws i0).2.2 (pq ws i0).2.2 lB ng cg tw nl cl yd np cp)::(b4,z0):: [])))))) _ _ _;refine J1 ?_;refine af.aJ rfl (fun oK=>?_) (fun oK=>?_)
  ·have hQ:IM ws i e (ps.map iS.c)=true:=(by rw [KT,List.length_map,←oK,hq,Qx,Fz]);have DV:=xc hQ;refine cj ?_;refine LM.cW (oC Tryz.func84) (fun w hm hc hg=>qy (ws:=ws) k5 i e (np:Nat) 8 w (sm hm)) rfl bV ?_;refine J2 ?_;refine af.aJ rfl (fun ku=>?_) (fun ku=>?_)
   ·have h4:(8:Int)≤(np:Nat):=(by simpa [DV] using ku);rw [if_pos ⟨DV,h4⟩];refine J5 ?_;refine mK ((i,6,ps,yd,np,cp,mp,pl,nu,nq,cq,mq,mo)) ?_
    · exact⟨by rw [←hP];exact JZ hQ (by simp;omega),hi,hp8,Qx,Jm,Pq,Cd,Co,xZ,Zv⟩
   have h4:¬(8:Int)≤(np:Nat):=(fun q=>by rw [decide_eq_true q] at ku;simp at ku);rw [if_neg (fun q=>h4 q.2)];refine J9 ?_;refine LM.single Tryz.underlying26 Tryz.sizeOf3 Tryz.zeroValue3 rfl rfl rfl rfl rfl (fun alh ahU=>?_);refine LM.app (a:=(i:Int)) Tryz.underlying26 Tryz.typeInfo3 rfl rfl rfl rfl rfl rfl rfl aB (by rfl) ir (by intro _ u hu;simp [fI] at hu;(repeat (first|(rcases hu with rfl|hu)|subst hu|rfl))) (by first|exact Nat.le_refl _|omega) pH (by first|omega|(unfold maxLen;omega)) (by simp only [Tryz.t3];omega) (fun ZC acM UU afV X1 XL aff=>?_);refine cj ?_;refine LM.fm (oC Tryz.func86) D5.mono (fun w hm hc hg=>CL (i:Nat) w hn hx (hl.ext hc)) ?_;rintro Xn Jg ⟨Ro,aaa,Ni,rfl,Y8,aaD⟩ VM;have R0:=P6 hi;obtain ⟨j9,hj9⟩:∃j:Nat,(dZ ws (i:Int)).2.2.1=(j:Int):=⟨_,(Int.toNat_of_nonneg R0.1).symm⟩;rw [hj9];refine J4 ?_;refine LM.alloc Tryz.zeroValue117 rfl (fun b11 Ve=>?_);refine LM.dh Tryz.sizeOf117 rfl rfl rfl rfl df bV ?_;refine J8 ?_;refine LM.rd (aL Tryz.isAgg117 Tryz.sizeOf117 rfl rfl) ?_;refine LM.single Tryz.underlying28 Tryz.sizeOf117 Tryz.zeroValue117 rfl rfl rfl rfl rfl (fun ala ag3=>?_);refine LM.app (a:=(⟨prC (dZ ws (i:Int)),Ro,aaa,Ni⟩:iS)) Tryz.underlying28 Tryz.typeInfo117 rfl rfl rfl rfl rfl rfl rfl aB (by rfl) ir (by intro _ u hu;simp [YO] at hu;(repeat (first|(rcases hu with rfl|hu)|subst hu|rfl))) (by first|exact Nat.le_refl _|omega) pH (by first|omega|(unfold maxLen;omega)) (by simp only [Tryz.t117];omega) (fun YQ afa Vu ac5 Xs ZO aeW=>?_);refine J1 ?_;refine LM.st Tryz.sizeOf28 rfl rfl rfl dW rfl bV ?_;refine J8 ?_;refine LM.st Tryz.sizeOf3 rfl rfl rfl dW rfl bV ?_;refine J7 ?_;refine LM.st Tryz.sizeOf3 rfl rfl rfl dW rfl bV ?_;refine J2 ?_;refine aK ((j9,(dZ ws (i:Int)).2.2.2,ps++ [(⟨prC (dZ ws (i:Int)),Ro,aaa,Ni⟩:iS)],YQ,afa,Vu,ac5,pl++ [(i:Int)],ZC,acM,UU,afV,Jg++mo)) ?_ ?_
   · exact⟨by rw [M6,←hP,MN hQ (by simp;omega),hj9,Int.toNat_natCast],by have:=R0.2;rw [hj9,Int.toNat_natCast] at this;exact this,by simp;omega,by rw [Xs];simp,ZO,by simp [Pq],by rw [X1];simp,XL,(fun w hm=>Oz (xZ w (hm.sub (List.sublist_append_right _ _))) ⟨Y8,rU aaD (fun _=>rfl) (hm.sub (List.sublist_append_left _ _))⟩),List.forall_mem_append.2 ⟨VM,Zv⟩⟩
   · dsimp only;rw [List.length_append,List.length_singleton];omega
  refine J4 ?_;refine mK ((i,e,ps,yd,np,cp,mp,pl,nu,nq,cq,mq,mo)) ?_
  · exact⟨by rw [←hP];exact JW (by rw [KT,List.length_map,←oK,hq,Qx,Fz]),hi,hp8,Qx,Jm,Pq,Cd,Co,xZ,Zv⟩
 rintro ⟨i3,e3,ps,yd,np,cp,mp,pl,nu,nq,cq,mq,mo⟩ ⟨hP,hi3,hp8,Qx,Jm,Pq,Cd,Co,xZ,Zv⟩;change QM _ _ _ _ _ (mo++(mp++(mq++(ml++(mg++(qB k5 ad n cap i3 e3::(b8,sO (sA ws i0).2.2 (pq ws i0).2.2 lB ng cg tw nl cl yd np cp)::(b4,z0):: [])))))) _ _ _;refine c9 ?_;refine af.ak rfl (fun uM=>?_) (fun uM=>?_)
 ·have hI:xL ws i0 gs i1 e1 ls i2 e2 (ps.map iS.c) pl i3 e3:=⟨⟨(zE hG).1,fun q=>by rw [(zE hG).2 q]⟩,hL,hP⟩
  refine J1 ?_;refine af.keep ((k5,_):: []) (fun _=>True) (.one 0 0 (.one 1 0 (.one 2 0 (.one 3 0 (.one 4 1 (.one 5 0 (.one 6 0 (.one 7 0 (.one 8 1 (.one 9 2 (.one 10 0 (.one 11 0 .nil)))))))))))) kr kr aN (fun _ _=>trivial) ?_;refine KD.val rfl rfl (aC (cs:=#[_,_,_,_,_]) rfl (by first|rfl|kernel_rfl)) ?_;refine J9 ?_;refine LM.dh Tryz.sizeOf30 rfl rfl rfl rfl df bV ?_;refine J8 ?_;refine QM.aH (ds:=([])) (.inl rfl) [.cell 4 30,.tmp 5,.tmp 6] Tryz.results45 aX (bY rfl Tryz.isAgg30 Tryz.sizeOf30 rfl (aZ rfl (aZ rfl aW))) ?_;intro w' aj aa;rw [zS th,hI.bad uM];exact⟨aa,[],LN.none,Mem.nil _,fun p hp=>by cases hp⟩
 have he3:e3=0:=Classical.not_not.1 uM;have hI:xL ws i0 gs i1 e1 ls i2 e2 (ps.map iS.c) pl i3 e3:=⟨⟨(zE hG).1,fun q=>by rw [(zE hG).2 q]⟩,hL,hP⟩
 refine J9 ?_;refine af.aP (α:=Nat) (fun j=>[(14,.int .i64 (j:Nat))]) [(4,_),(7,_),(8,_),(10,_)] (fun j=>mo++(mp++(mq++(ml++(mg++(qB k5 ad n cap i3 e3::(b8,sO (sA ws i0).2.2 (pq ws i0).2.2 lB ng cg tw nl cl yd np cp)::(b4,z0):: [])))))) (fun j=>j≤ps.length∧((ps.map iS.c).take j).any (j1 ls ps.length)=false) (fun j=>ps.length-j) (0) cF aN ⟨Nat.zero_le _,rfl⟩ ?_;rintro j ⟨hj,Uz⟩;change af _ _ _ _ _ _ _ (mo++(mp++(mq++(ml++(mg++(qB k5 ad n cap i3 e3::(b8,sO (sA ws i0).2.2 (pq ws i0).2.2 lB ng cg tw nl cl yd np cp)::(b4,z0):: [])))))) _ _ _;refine cj ?_;refine af.ak rfl (fun r7=>?_) (fun r7=>?_)
 ·have D9:j<ps.length:=om;have uE:ps.getD j default∈ps:=List.mem_of_getElem? (aO default D9);refine J5 ?_;refine af.draw [(0,0),(1,1),(2,0),(3,0),(4,1),(5,0),(6,1),(7,0),(8,1),(9,0),(10,2),(11,0),(12,0),(13,0),(14,0),(15,0)] kr kr ?_;refine J4 ?_;refine LD.rd rfl rfl (kK aB ir Tryz.isAgg117 Tryz.sizeOf117 rfl cJ) ?_;refine J5 ?_;refine dE rfl rfl Tryz.func49 rfl (fun w hm hc hg=>tA (np:Nat) w (xZ w (hm.pick mo) _ uE).1 (xZ w (hm.pick mo) _ uE).2 xz (jt.lK ir hm)) ?_;refine gy ?_;refine af.ak rfl (fun nk=>?_) (fun nk=>?_)
  ·refine J1 ?_;refine af.keep (mq++ []) (fun _=>True) (.one 0 0 (.one 1 0 (.one 2 0 (.one 3 0 (.one 4 1 (.one 5 0 (.one 6 2 (.one 7 0 (.one 8 0 .nil))))))))) kr kr aN (fun _ _=>trivial) ?_;refine KD.val rfl rfl (aC (cs:=#[_,_,_,_,_]) rfl (by first|rfl|kernel_rfl)) ?_;refine J3 ?_;refine KD.rd rfl rfl (bd aB ir Tryz.isAgg3 rfl rfl (by exact aO 0 cK) (by rfl)) ?_;refine J2 ?_;refine LM.dh Tryz.sizeOf30 rfl rfl rfl rfl df bV ?_;refine cN ?_;refine QM.aH (ds:=([])) (.inl rfl) [.cell 4 30,.tmp 5,.tmp 6] Tryz.results45 aX (bY rfl Tryz.isAgg30 Tryz.sizeOf30 rfl (aZ rfl (aZ rfl aW))) ?_;intro w' aj aa;rw [zS th,hI.mis he3 (j:=j) (by simpa using D9) (by rw [List.length_map];exact Uz) (by rw [gF,List.length_map];unfold j1;rw [←Qx];simpa using nk),gF,List.length_map,←Qx];exact⟨aa,[],LN.none,Mem.nil _,fun p hp=>by cases hp⟩
  refine J8 ?_;refine aK (j+1) ?_ ?_
  · exact⟨by omega,by rw [dv default (by simp;omega),Uz,Bool.false_or,gF];unfold j1;rw [←Qx];simpa using nk⟩
  · omega
 refine J6 ?_;refine af.keep ((k5,_)::(b8,_):: []) (fun _=>True) (.one 0 1 (.one 1 0 (.one 2 0 (.one 3 0 (.one 4 1 (.one 5 2 (.one 6 0 (.one 7 0 .nil)))))))) kr kr aN (fun _ _=>trivial) ?_;refine KD.rd rfl rfl (aL Tryz.isAgg30 Tryz.sizeOf30 rfl rfl) ?_;refine J5 ?_;refine LM.dh Tryz.sizeOf30 rfl rfl rfl rfl df bV ?_;refine J7 ?_;refine QM.aH (ds:=([])) (.inl rfl) [.cell 4 30,.tmp 5,.tmp 6] Tryz.results45 aX (bY rfl Tryz.isAgg30 Tryz.sizeOf30 rfl (aZ rfl (aZ rfl aW))) ?_;intro w' aj aa;rw [zS th,hI.ok he3 (by have D9:j=ps.length:=om;have h9:=Uz;rw [D9,List.take_of_length_le (by simp)] at h9;rw [List.length_map];exact h9)];refine ⟨aa,mo++(mp++(ml++(mg++ []))),⟨⟨(sA ws i0).2.2,(pq ws i0).2.2,gs,lB,ng,cg,ls,tw,nl,cl,ps,yd,np,cp⟩,rfl,rfl,fun w hm=>⟨E5,rU CK (fun _=>rfl) (hm.pick mg),xz,rU jt (fun _=>rfl) (hm.pick ml),Qx,rU Jm (fun _=>rfl) (hm.pick mp),xZ w (hm.pick mo)⟩⟩,aV.mem (by(repeat' (first|exact aV.nil _|refine aV.app ?_))) w' aj,?_⟩;intro p hp;simp only [List.mem_append,List.not_mem_nil,or_false] at hp;rcases hp with hp|hp|hp|hp;exact Zv p hp;exact Sl.ge Jm p hp;exact Sl.ge jt p hp;exact Sl.ge CK p hp
abbrev nS (b:Nat) (s:dm):Nat×Obj:=(b,sO s.cr s.gr s.ga s.gn s.gc s.la s.ln s.lc s.pa s.pn s.pc)
def tJ (s:jy):Bool:=cD s.cr 4&&(cD s.gr 8&&(cD (s.gs.length:Int) 4&&(decide (s.ls.length≤8)&&cD (s.ps.length:Int) 8)))
theorem iw (s:jy):eu s=(tJ s&&(s.gs.all (fun n=>cD n 16)&&(s.ls.all k8&& !s.ps.any (j1 s.ls s.ps.length)))):=by
  unfold eu tJ
  ac_rfl
theorem El {α:Type} {p:α→Bool} {xs:List α} {i:Nat} (d:α) (h:i<xs.length) (hp:p (xs.getD i d)=false):xs.all p=false:=by
  cases hm:xs.all p with
  |false=>rfl
  |true=>rw [List.all_eq_true.1 hm _ (List.mem_of_getElem? (aO d h))] at hp;cases hp
theorem Uf {α:Type} {p:α→Bool} {xs:List α} {i:Nat} (d:α) (h:i<xs.length) (hp:p (xs.getD i d)=true):xs.any p=true:=List.any_eq_true.2 ⟨_,List.mem_of_getElem? (aO d h),hp⟩
theorem head_eq {s:dm} (h1:s.gn=s.gs.length) (h2:s.ln=s.ls.length) (h3:s.pn=s.ps.length):tJ s.C= !(!cD s.cr 4||(!cD s.gr 8||(!cD (s.gn:Int) 4||(decide ((s.ln:Int) > 8)|| !cD (s.pn:Int) 8)))):=by
  unfold tJ dm.C
  simp only [List.length_map,←h1,←h2,←h3];rw [show decide (s.ln≤8)= !decide ((s.ln:Int) > 8) by rw [←decide_not];exact decide_eq_decide.2 om];cases cD s.cr 4<;>cases cD s.gr 8<;>cases cD (s.gn:Int) 4<;>cases decide ((s.ln:Int) > 8)<;>cases cD (s.pn:Int) 8<;>rfl
theorem jA {s:jy} (h:tJ s=false):eu s=false:=by rw [iw,h];rfl
theorem GF {s:jy} (h:s.gs.all (fun n=>cD n 16)=false):eu s=false:=by rw [iw,h];simp
theorem zf {s:jy} (h:s.ls.all k8=false):eu s=false:=by rw [iw,h];simp
theorem OA {s:jy} (h:s.ps.any (j1 s.ls s.ps.length)=true):eu s=false:=by rw [iw,h];simp
theorem E2 {x:jv} :k8 x= !((!cD x.sl 16|| !cD x.cr 32)||((x.sh&&(!cD x.rd 16|| !cD x.wr 16))||(!x.sh&&(decide (x.rd≠0)||decide (x.wr≠0))))):=by
  unfold k8
  cases x.sh<;>cases cD x.sl 16<;>cases cD x.cr 32<;>simp
theorem dC (n fX:Int) (w:World):aD Tryz.prog 48 #[.int .i64 n,.int .i64 fX] w (fun v w'=>v= .bool (cD n fX)∧Ext w w'):=by
 refine aD.ao Tryz.func48 rfl Tryz.ntmps48 rfl ([]) (no) (Mem.nil w) ?_;refine cj ?_;refine LM.aq (t:=7) rfl (fun h1=>?_) (fun h1=>?_)
 ·refine J8 ?_;refine qL Tryz.results48 rfl fun w' aj aa az=>?_;refine ⟨?_,aa⟩;simp only [ba,cD];first|(rw [decide_eq_true (show 1≤n by omega),Bool.true_and];done)|(rw [decide_eq_false (show¬1≤n by omega),Bool.false_and];done)
 refine J8 ?_;refine qL Tryz.results48 rfl fun w' aj aa az=>?_;refine ⟨?_,aa⟩;simp only [ba,cD];first|(rw [decide_eq_true (show 1≤n by omega),Bool.true_and];done)|(rw [decide_eq_false (show¬1≤n by omega),Bool.false_and];done)
theorem dD (n fX:Int) (w:World):aD Tryz.prog 115 #[.int .i64 n,.int .i64 fX] w (fun v w'=>v= .bool (cD n fX)∧Ext w w'):=by
 refine aD.ao Tryz.func115 rfl Tryz.ntmps115 rfl ([]) (no) (Mem.nil w) ?_;refine cj ?_;refine LM.aq (t:=7) rfl (fun h1=>?_) (fun h1=>?_)
 ·refine J8 ?_;refine qL Tryz.results115 rfl fun w' aj aa az=>?_;refine ⟨?_,aa⟩;simp only [ba,cD];first|(rw [decide_eq_true (show 1≤n by omega),Bool.true_and];done)|(rw [decide_eq_false (show¬1≤n by omega),Bool.false_and];done)
 refine J8 ?_;refine qL Tryz.results115 rfl fun w' aj aa az=>?_;refine ⟨?_,aa⟩;simp only [ba,cD];first|(rw [decide_eq_true (show 1≤n by omega),Bool.true_and];done)|(rw [decide_eq_false (show¬1≤n by omega),Bool.false_and];done)
set_option maxHeartbeats 2000000 in
theorem E6 {s:dm} (w:World) (hI:s.In w):aD Tryz.prog 21 #[s.val] w (fun v w'=>v= .bool (eu s.C)∧Ext w w'):=by
 have xR:=hI.xR;have kE:=hI.kE;have q9:=hI.q9;have hp:=hI.hp;have hg:=hI.hg;have hl:=hI.hl;have jg:(s.ps.map iS.c).length=s.ps.length:=List.length_map ..;refine aD.ao Tryz.func21 rfl Tryz.ntmps21 rfl ([]) (no) (Mem.nil w) ?_;refine J2 ?_;refine LM.box rfl rfl (fun b1 jq=>?_);refine J5 ?_;refine af.bC (α:=Bool) (fun q=>[(38,.bool q)]) [(1,_)] (fun q=>nS b1 s:: []) (fun q=>q=(!cD s.cr 4||(!cD s.gr 8||(!cD (s.gn:Int) 4||(decide ((s.ln:Int) > 8)|| !cD (s.pn:Int) 8))))) cF ?_ ?_
 ·refine J3 ?_;refine cE Tryz.func48 rfl (fun w hm hc hg=>dC _ _ w) ?_;refine J2 ?_;refine LM.bj (t:=13) rfl (fun h1=>?_) (fun h1=>?_)
  ·refine J26 ?_;refine mK (_) ?_
   · (simp [h1,-List.getD_eq_getElem?_getD];done)
  refine J4 ?_;refine cE Tryz.func48 rfl (fun w hm hc hg=>dC _ _ w) ?_;refine J3 ?_;refine LM.bj (t:=19) rfl (fun h2=>?_) (fun h2=>?_)
  ·refine Rt ?_;refine mK (_) ?_
   · (simp [h1,h2,-List.getD_eq_getElem?_getD];done)
  refine J5 ?_;refine cE Tryz.func48 rfl (fun w hm hc hg=>dC _ _ w) ?_;refine J3 ?_;refine LM.bj (t:=26) rfl (fun h3=>?_) (fun h3=>?_)
  ·refine gy ?_;refine mK (_) ?_
   · (simp [h1,h2,h3,-List.getD_eq_getElem?_getD];done)
  refine J7 ?_;refine LM.aq (t:=32) rfl (fun h4=>?_) (fun h4=>?_)
  ·refine J7 ?_;refine mK (_) ?_
   · (simp [h1,h2,h3,h4,-List.getD_eq_getElem?_getD];done)
  refine J5 ?_;refine cE Tryz.func48 rfl (fun w hm hc hg=>dC _ _ w) ?_;refine J3 ?_;refine mK (_) ?_
  · (simp [h1,h2,h3,h4,-List.getD_eq_getElem?_getD];done)
 rintro q hq;change QM _ _ _ _ _ (nS b1 s:: []) _ _ _;refine J1 ?_;refine af.aJ rfl (fun h5=>?_) (fun h5=>?_)
 ·refine J7 ?_;refine qL Tryz.results21 rfl fun w' aj aa az=>?_;refine ⟨?_,aa⟩;rw [jA (by rw [head_eq xR kE q9,←hq,h5];rfl)];rfl
 have hhd:tJ s.C=true:=(by rw [head_eq xR kE q9,←hq,h5];rfl);have W6:=hhd;unfold tJ at W6;simp only [Bool.and_eq_true,decide_eq_true_eq,Ld] at W6;have hG4:s.gs.length≤4:=(by have:=W6.2.2.1.2;show s.gs.length≤4;have h9:(s.C.gs.length:Int)≤4:=this;have h8:s.C.gs.length=s.gs.length:=rfl;omega);have hL8:s.ls.length≤8:=W6.2.2.2.1;have hP8:s.ps.length≤8:=(by have h9:=W6.2.2.2.2.2;have h8:s.C.ps.length=s.ps.length:=jg;omega)
 refine J9 ?_;refine af.aP (α:=Nat) (fun i=>[(3,.int .i64 (i:Nat))]) [(1,_)] (fun i=>nS b1 s:: []) (fun i=>i≤s.gs.length∧(s.gs.take i).all (fun n=>cD n 16)=true) (fun i=>s.gs.length-i) (0) cF aN ⟨Nat.zero_le _,rfl⟩ ?_;rintro i ⟨hi,hag⟩;change af _ _ _ _ _ _ _ (nS b1 s:: []) _ _ _;refine cj ?_;refine af.ak rfl (fun h6=>?_) (fun h6=>?_)
 ·refine cj ?_;refine LM.eh (lV aB Tryz.isAgg3 rfl rfl (by exact aO 0 cK) (by rfl) id) ?_;refine cE Tryz.func48 rfl (fun w hm hc hg=>dC _ _ w) ?_;refine J3 ?_;refine af.aJ rfl (fun h7=>?_) (fun h7=>?_)
  ·refine c9 ?_;refine qL Tryz.results21 rfl fun w' aj aa az=>?_;refine ⟨?_,aa⟩;rw [GF (s:=s.C) (El (xs:=s.gs) (i:=i) 0 om (by simpa using h7))];rfl
  refine J8 ?_;refine aK (i+1) ?_ ?_
  · exact⟨by omega,by rw [wI 0 om,hag,Bool.true_and];simpa using h7⟩
  · omega
 refine cN ?_;refine af.aP (α:=Nat) (fun j=>[(4,.int .i64 (j:Nat))]) [(1,_)] (fun j=>nS b1 s:: []) (fun j=>j≤s.ls.length∧(s.ls.take j).all k8=true) (fun j=>s.ls.length-j) (0) cF aN ⟨Nat.zero_le _,rfl⟩ ?_;rintro j ⟨hj,IU⟩;change af _ _ _ _ _ _ _ (nS b1 s:: []) _ _ _;refine cj ?_;refine af.ak rfl (fun h8=>?_) (fun h8=>?_)
 ·refine cj ?_;refine LM.eh (dB aB ir Tryz.isAgg83 Tryz.sizeOf83 rfl cJ id) ?_;refine LM.alloc Tryz.zeroValue83 rfl (fun b5 AA=>?_);refine LM.dh Tryz.sizeOf83 rfl rfl rfl rfl df bV ?_;refine J4 ?_;refine af.bC (α:=Bool) (fun q2=>[(74,.bool q2)]) [(1,_),(4,_),(5,_)] (fun q2=>(b5,.cells (fL (s.ls.getD j default)).toArray 83 (0,0))::nS b1 s:: []) (fun q2=>q2=(!cD (s.ls.getD j default).sl 16|| !cD (s.ls.getD j default).cr 32)) cF ?_ ?_
  ·refine J3 ?_;refine cE Tryz.func48 rfl (fun w hm hc hg=>dC _ _ w) ?_;refine J2 ?_;refine LM.bj (t:=69) rfl (fun h9=>?_) (fun h9=>?_)
   ·refine J6 ?_;refine mK (_) ?_
    · (simp [h5,h6,h8,h9,-List.getD_eq_getElem?_getD];done)
   refine J4 ?_;refine cE Tryz.func48 rfl (fun w hm hc hg=>dC _ _ w) ?_;refine J3 ?_;refine mK (_) ?_
   · (simp [h5,h6,h8,h9,-List.getD_eq_getElem?_getD];done)
  rintro q2 js;change QM _ _ _ _ _ ((b5,.cells (fL (s.ls.getD j default)).toArray 83 (0,0))::nS b1 s:: []) _ _ _;refine J1 ?_;refine af.aJ rfl (fun gh=>?_) (fun gh=>?_)
  ·refine cN ?_;refine qL Tryz.results21 rfl fun w' aj aa az=>?_;refine ⟨?_,aa⟩;rw [zf (s:=s.C) (El (xs:=s.ls) (i:=j) default om (by rw [E2,←js,gh];rfl))];rfl
  refine J3 ?_;refine af.bC (α:=Bool) (fun q3=>[(103,.bool q3)]) [(1,_),(4,_)] (fun q3=>(b5,.cells (fL (s.ls.getD j default)).toArray 83 (0,0))::nS b1 s:: []) (fun q3=>q3=(((s.ls.getD j default).sh&&(!cD (s.ls.getD j default).rd 16|| !cD (s.ls.getD j default).wr 16))||(!(s.ls.getD j default).sh&&(decide ((s.ls.getD j default).rd≠0)||decide ((s.ls.getD j default).wr≠0))))) cF ?_ ?_
  ·refine J4 ?_;refine LM.bj (t:=77) rfl (fun jf=>?_) (fun jf=>?_)
   ·refine J4 ?_;refine cE Tryz.func48 rfl (fun w hm hc hg=>dC _ _ w) ?_;refine J2 ?_;refine LM.bj (t:=82) rfl (fun lJ=>?_) (fun lJ=>?_)
    ·refine cj ?_;refine LM.dp (t:=89) rfl rfl rfl ?_;refine c9 ?_;refine mK (_) ?_
     · (simp [h5,h6,h8,gh,jf,lJ,-List.getD_eq_getElem?_getD];done)
    refine J4 ?_;refine cE Tryz.func48 rfl (fun w hm hc hg=>dC _ _ w) ?_;refine J4 ?_;refine LM.bj (t:=89) rfl (fun oK=>?_) (fun oK=>?_)
    ·refine J3 ?_;refine LM.dp (t:=89) rfl rfl rfl ?_;refine c9 ?_;refine mK (_) ?_
     · (simp [h5,h6,h8,gh,jf,lJ,oK,-List.getD_eq_getElem?_getD];done)
    refine J5 ?_;refine LM.bj (t:=93) rfl (fun ku=>?_) (fun ku=>?_)
    ·refine J5 ?_;refine LM.aq (t:=97) rfl (fun uM=>?_) (fun uM=>?_)
     ·refine J7 ?_;refine mK (_) ?_
      · (simp_all [-List.getD_eq_getElem?_getD];done)
     refine J8 ?_;refine mK (_) ?_
     · (simp_all [-List.getD_eq_getElem?_getD];done)
    refine J3 ?_;refine LM.dp (t:=93) rfl rfl rfl ?_;refine J7 ?_;refine mK (_) ?_
    · (simp [h5,h6,h8,gh,jf,lJ,oK,ku,-List.getD_eq_getElem?_getD];done)
   refine J4 ?_;refine LM.dp (t:=77) rfl rfl rfl ?_;refine cN ?_;refine LM.bj (t:=93) rfl (fun r7=>?_) (fun r7=>?_)
   ·refine J5 ?_;refine LM.aq (t:=97) rfl (fun nk=>?_) (fun nk=>?_)
    ·refine J7 ?_;refine mK (_) ?_
     · (simp [h5,h6,h8,gh,jf,r7,nk,-List.getD_eq_getElem?_getD];done)
    refine J8 ?_;refine mK (_) ?_
    · (simp [h5,h6,h8,gh,jf,r7,nk,-List.getD_eq_getElem?_getD];done)
   refine J3 ?_;refine LM.dp (t:=93) rfl rfl rfl ?_;refine J7 ?_;refine mK (_) ?_
   · (simp_all [-List.getD_eq_getElem?_getD];done)
  rintro q3 Bn;change QM _ _ _ _ _ ((b5,.cells (fL (s.ls.getD j default)).toArray 83 (0,0))::nS b1 s:: []) _ _ _;refine J1 ?_;refine af.aJ rfl (fun qY=>?_) (fun qY=>?_)
  ·refine c9 ?_;refine qL Tryz.results21 rfl fun w' aj aa az=>?_;refine ⟨?_,aa⟩;rw [zf (s:=s.C) (El (xs:=s.ls) (i:=j) default om (by rw [E2,←Bn,qY];simp))];rfl
  refine J8 ?_;refine aK (j+1) ?_ ?_
  · exact⟨by omega,by rw [wI default om,IU,Bool.true_and,E2,←js,←Bn,gh,qY];rfl⟩
  · omega
 refine cN ?_;refine af.aP (α:=Nat) (fun k=>[(6,.int .i64 (k:Nat))]) [(1,_)] (fun k=>nS b1 s:: []) (fun k=>k≤s.ps.length∧((s.ps.map iS.c).take k).any (j1 s.ls (s.pn:Nat))=false) (fun k=>s.ps.length-k) (0) cF aN ⟨Nat.zero_le _,rfl⟩ ?_;rintro k ⟨hk,zt⟩;change af _ _ _ _ _ _ _ (nS b1 s:: []) _ _ _;refine cj ?_;refine af.ak rfl (fun xf=>?_) (fun xf=>?_)
 ·have uE:s.ps.getD k default∈s.ps:=List.mem_of_getElem? (aO default om);refine J5 ?_;refine af.draw [(0,0),(1,1),(2,0),(3,0),(4,1),(5,0),(6,1),(7,0),(8,1),(9,0),(10,2),(11,0),(12,0),(13,0),(14,0),(15,0)] kr kr ?_;refine J4 ?_;refine LD.eh rfl rfl (dB aB ir Tryz.isAgg117 Tryz.sizeOf117 rfl cJ id) ?_;refine J5 ?_;refine dE rfl rfl Tryz.func49 rfl (fun w hm hc hg=>tA (s.pn:Nat) w (hI.ops _ uE).1 ((hI.ops _ uE).2.ext hc) kE (hl.ext hc)) ?_;refine gy ?_;refine af.ak rfl (fun sJ=>?_) (fun sJ=>?_)
  ·refine c9 ?_;refine qL Tryz.results21 rfl fun w' aj aa az=>?_;refine ⟨?_,aa⟩;rw [OA (s:=s.C) (Uf (xs:=s.C.ps) (i:=k) default (by show k<(s.ps.map iS.c).length;omega) (by show j1 s.ls (s.ps.map iS.c).length ((s.ps.map iS.c).getD k default)=true;rw [gF,jg];unfold j1;rw [←q9];exact decide_eq_true sJ))];rfl
  refine J8 ?_;refine aK (k+1) ?_ ?_
  · exact⟨by omega,by rw [dv default (by rw [jg];omega),zt,Bool.false_or,gF];unfold j1;simpa using sJ⟩
  · omega
 refine c9 ?_;refine qL Tryz.results21 rfl fun w' aj aa az=>?_;refine ⟨?_,aa⟩;have Ua:i=s.gs.length:=om;have D9:j=s.ls.length:=om;have hkp:k=s.ps.length:=om;rw [Ua,List.take_length] at hag;rw [D9,List.take_length] at IU;rw [hkp,List.take_of_length_le om] at zt;rw [iw,hhd];show Value.bool true=Value.bool (true&&(s.gs.all (fun n=>cD n 16)&&(s.ls.all k8&& !(s.ps.map iS.c).any (j1 s.ls (s.ps.map iS.c).length))));rw [hag,IU,jg,←q9,zt];rfl
theorem DB (n:Int) (w:World):aD Tryz.prog 117 #[.int .i64 n] w (fun v w'=>v= .bool (!cD n 16)∧Ext w w'):=by
 refine aD.ao Tryz.func117 rfl Tryz.ntmps117 rfl ([]) (no) (Mem.nil w) ?_;refine J8 ?_;refine cE Tryz.func115 rfl (fun w hm hc hg=>dD n 16 w) ?_;refine J5 ?_;refine qL Tryz.results117 rfl fun w' aj aa az=>?_;exact⟨rfl,aa⟩
theorem zy (x:jv) (w:World):aD Tryz.prog 120 #[.agg (fL x).toArray] w (fun v w'=>v= .bool (k8 x)∧Ext w w'):=by
 refine aD.ao Tryz.func120 rfl Tryz.ntmps120 rfl ([]) (no) (Mem.nil w) ?_;refine J2 ?_;refine LM.box rfl rfl (fun b1 jq=>?_);refine J4 ?_;refine af.bC (α:=Bool) (fun q=>[(3,.bool q)]) [(1,_)] (fun q=>(b1,.cells (fL x).toArray 83 (0,0)):: []) (fun q=>q=(decide (x.rd=0)&&decide (x.wr=0))) cF ?_ ?_
 ·refine J5 ?_;refine LM.aq (t:=7) rfl (fun h1=>?_) (fun h1=>?_)
  ·refine J7 ?_;refine mK (_) ?_
   · (simp [h1,-List.getD_eq_getElem?_getD];done)
  refine J6 ?_;refine mK (_) ?_
  · (simp [h1,-List.getD_eq_getElem?_getD];done)
 rintro q hq;change QM _ _ _ _ _ ((b1,.cells (fL x).toArray 83 (0,0)):: []) _ _ _;refine J8 ?_;refine af.bC (α:=Bool) (fun q2=>[(3,.bool q2)]) [(1,_)] (fun q2=>(b1,.cells (fL x).toArray 83 (0,0)):: []) (fun q2=>q2=(if x.sh then cD x.rd 16&&cD x.wr 16 else decide (x.rd=0)&&decide (x.wr=0))) cF ?_ ?_
 ·refine af.aJ rfl (fun h2=>?_) (fun h2=>?_)
  ·refine J3 ?_;refine cE Tryz.func115 rfl (fun w hm hc hg=>dD _ _ w) ?_;refine J1 ?_;refine LM.bj (t:=17) rfl (fun h3=>?_) (fun h3=>?_)
   ·refine J4 ?_;refine cE Tryz.func115 rfl (fun w hm hc hg=>dD _ _ w) ?_;refine J3 ?_;refine mK (_) ?_
    · (simp [h2,h3,-List.getD_eq_getElem?_getD];done)
   refine J6 ?_;refine mK (_) ?_
   · (simp [h2,h3,-List.getD_eq_getElem?_getD];done)
  refine J1 ?_;refine mK (_) ?_
  · (simp_all [-List.getD_eq_getElem?_getD];done)
 rintro q2 js;change QM _ _ _ _ _ ((b1,.cells (fL x).toArray 83 (0,0)):: []) _ _ _;refine J5 ?_;refine LM.bj (t:=23) rfl (fun h4=>?_) (fun h4=>?_)
 ·refine J4 ?_;refine cE Tryz.func115 rfl (fun w hm hc hg=>dD _ _ w) ?_;refine J2 ?_;refine LM.bj (t:=28) rfl (fun h5=>?_) (fun h5=>?_)
  ·refine J4 ?_;refine cE Tryz.func115 rfl (fun w hm hc hg=>dD _ _ w) ?_;refine J5 ?_;refine qL Tryz.results120 rfl fun w' aj aa az=>?_;refine ⟨?_,aa⟩;simp only [ba,k8,←js];simp [h4,h5]
  refine J8 ?_;refine qL Tryz.results120 rfl fun w' aj aa az=>?_;refine ⟨?_,aa⟩;simp only [ba,k8,←js];simp [h4,h5]
 refine gy ?_;refine qL Tryz.results120 rfl fun w' aj aa az=>?_;refine ⟨?_,aa⟩;simp only [ba,k8,←js];simp [h4]
theorem DT (x:jv) (w:World):aD Tryz.prog 119 #[.agg (fL x).toArray] w (fun v w'=>v= .bool (!k8 x)∧Ext w w'):=by
 refine aD.ao Tryz.func119 rfl Tryz.ntmps119 rfl ([]) (no) (Mem.nil w) ?_;refine J2 ?_;refine LM.box rfl rfl (fun b1 jq=>?_);refine J5 ?_;refine LM.rd (aL Tryz.isAgg83 Tryz.sizeOf83 rfl rfl) ?_;refine cE Tryz.func120 rfl (fun w hm hc hg=>zy x w) ?_;refine J5 ?_;refine qL Tryz.results119 rfl fun w' aj aa az=>?_;exact⟨rfl,aa⟩
theorem Yy {xs:List Int} {ad:Option Addr} {n cap:Nat} (w:World) (hn:n=xs.length) (hl:Sr fI 1 xs (.slice ad n cap) w) (hx:xs.length≤1000000):aD Tryz.prog 152 #[.slice ad n cap,.func (.func 117) #[] #[]] w (fun v w'=>v= .int .i64 (fS (fun o=>(!cD o 16)) xs)∧Ext w w'):=by
 refine aD.ao Tryz.func152 rfl Tryz.ntmps152 rfl ([]) (no) (Mem.nil w) ?_;refine kk ?_;refine af.aP (α:=Nat) (fun i=>[(8,.int .i64 (i:Nat))]) [(0,_),(1,_),(7,_)] (fun i=>[]) (fun i=>i≤xs.length∧(xs.take i).any (fun o=>(!cD o 16))=false) (fun i=>xs.length-i) (0) cF aN ⟨Nat.zero_le _,rfl⟩ ?_;rintro i ⟨hi,ha⟩;change af _ _ _ _ _ _ _ ([]) _ _ _;refine J6 ?_;refine af.ak rfl (fun h1=>?_) (fun h1=>?_)
 ·refine pQ ?_;refine LM.eh (lV aB Tryz.isAgg3 rfl rfl (by exact aO 0 cK) (by rfl) id) ?_;refine LM.p9 (jO rfl (dV Tryz.func117 kr rfl) rfl) (fun w hm hc hg=>DB _ w) ?_;refine J2 ?_;refine af.aJ rfl (fun h2=>?_) (fun h2=>?_)
  ·refine cN ?_;refine qL Tryz.results152 rfl fun w' aj aa az=>?_;exact⟨by show Value.int .i64 _=_;rw [iC 0 ha om (by simpa using h2)],aa⟩
  refine J7 ?_;refine aK (i+1) ?_ ?_
  · exact⟨by omega,by rw [dv 0 om,ha,Bool.false_or];simpa using h2⟩
  · omega
 refine c9 ?_;refine qL Tryz.results152 rfl fun w' aj aa az=>?_;have er:i=xs.length:=om;subst er;rw [List.take_length] at ha;exact⟨by show Value.int .i64 _=_;rw [eK ha],aa⟩
theorem X6 {xs:List Int} {ad:Option Addr} {n cap:Nat} (w:World) (hn:n=xs.length) (hl:Sr fI 1 xs (.slice ad n cap) w) (hx:xs.length≤1000000):aD Tryz.prog 116 #[.slice ad n cap,.func (.func 117) #[] #[]] w (fun v w'=>v= .bool (xs.any (fun o=>(!cD o 16)))∧Ext w w'):=by
 refine aD.ao Tryz.func116 rfl Tryz.ntmps116 rfl ([]) (no) (Mem.nil w) ?_;refine J9 ?_;refine cE Tryz.func152 rfl (fun w hm hc hg=>Yy w hn (hl.ext hc) hx) ?_;refine J5 ?_;refine qL Tryz.results116 rfl fun w' aj aa az=>?_;exact⟨by show Value.bool _=_;rw [←kx],aa⟩
theorem Zd {xs:List jv} {ad:Option Addr} {n cap:Nat} (w:World) (hn:n=xs.length) (hl:Sr fL 5 xs (.slice ad n cap) w) (hx:xs.length≤1000000):aD Tryz.prog 153 #[.slice ad n cap,.func (.func 119) #[] #[]] w (fun v w'=>v= .int .i64 (fS (fun o=>(!k8 o)) xs)∧Ext w w'):=by
 refine aD.ao Tryz.func153 rfl Tryz.ntmps153 rfl ([]) (no) (Mem.nil w) ?_;refine kk ?_;refine af.aP (α:=Nat) (fun i=>[(8,.int .i64 (i:Nat))]) [(0,_),(1,_),(7,_)] (fun i=>[]) (fun i=>i≤xs.length∧(xs.take i).any (fun o=>(!k8 o))=false) (fun i=>xs.length-i) (0) cF aN ⟨Nat.zero_le _,rfl⟩ ?_;rintro i ⟨hi,ha⟩;change af _ _ _ _ _ _ _ ([]) _ _ _;refine J6 ?_;refine af.ak rfl (fun h1=>?_) (fun h1=>?_)
 ·refine pQ ?_;refine LM.eh (dB aB ir Tryz.isAgg83 Tryz.sizeOf83 rfl cJ id) ?_;refine LM.p9 (jO rfl (dV Tryz.func119 kr rfl) rfl) (fun w hm hc hg=>DT _ w) ?_;refine J2 ?_;refine af.aJ rfl (fun h2=>?_) (fun h2=>?_)
  ·refine cN ?_;refine qL Tryz.results153 rfl fun w' aj aa az=>?_;exact⟨by show Value.int .i64 _=_;rw [iC default ha om (by simpa using h2)],aa⟩
  refine J7 ?_;refine aK (i+1) ?_ ?_
  · exact⟨by omega,by rw [dv default om,ha,Bool.false_or];simpa using h2⟩
  · omega
 refine c9 ?_;refine qL Tryz.results153 rfl fun w' aj aa az=>?_;have er:i=xs.length:=om;subst er;rw [List.take_length] at ha;exact⟨by show Value.int .i64 _=_;rw [eK ha],aa⟩
theorem Y6 {xs:List jv} {ad:Option Addr} {n cap:Nat} (w:World) (hn:n=xs.length) (hl:Sr fL 5 xs (.slice ad n cap) w) (hx:xs.length≤1000000):aD Tryz.prog 118 #[.slice ad n cap,.func (.func 119) #[] #[]] w (fun v w'=>v= .bool (xs.any (fun o=>(!k8 o)))∧Ext w w'):=by
 refine aD.ao Tryz.func118 rfl Tryz.ntmps118 rfl ([]) (no) (Mem.nil w) ?_;refine J9 ?_;refine cE Tryz.func153 rfl (fun w hm hc hg=>Zd w hn (hl.ext hc) hx) ?_;refine J5 ?_;refine qL Tryz.results118 rfl fun w' aj aa az=>?_;exact⟨by show Value.bool _=_;rw [←kx],aa⟩
theorem Bh {s:dm} (w:World) (hI:s.In w) (hx:s.ps.length≤1000000):aD Tryz.prog 121 #[s.val] w (fun v w'=>v= .tuple #[.int .i64 (pO s.ls (s.ps.map iS.c)),.int .i64 (Hh s.ls (s.ps.map iS.c) (pO s.ls (s.ps.map iS.c)))]∧Ext w w'):=by
 have xR:=hI.xR;have kE:=hI.kE;have q9:=hI.q9;have hp:=hI.hp;have hg:=hI.hg;have hl:=hI.hl;have jg:(s.ps.map iS.c).length=s.ps.length:=List.length_map ..;refine aD.ao Tryz.func121 rfl Tryz.ntmps121 rfl ([]) (no) (Mem.nil w) ?_;refine J2 ?_;refine LM.box rfl rfl (fun b1 jq=>?_);refine kk ?_;refine af.aP (α:=Nat) (fun k=>[(11,.int .i64 (k:Nat))]) [(1,_),(9,_),(10,_)] (fun k=>nS b1 s:: []) (fun k=>k≤s.ps.length∧((s.ps.map iS.c).take k).any (j1 s.ls (s.pn:Nat))=false) (fun k=>s.ps.length-k) (0) cF aN ⟨Nat.zero_le _,rfl⟩ ?_;rintro k ⟨hk,zt⟩;change af _ _ _ _ _ _ _ (nS b1 s:: []) _ _ _;refine J6 ?_;refine af.ak rfl (fun h1=>?_) (fun h1=>?_)
 ·have uE:s.ps.getD k default∈s.ps:=List.mem_of_getElem? (aO default om);refine J8 ?_;refine LM.eh (dB aB ir Tryz.isAgg117 Tryz.sizeOf117 rfl cJ id) ?_;refine LM.alloc Tryz.zeroValue117 rfl (fun b5 AA=>?_);refine J1 ?_;refine LM.dh Tryz.sizeOf117 rfl rfl rfl rfl df bV ?_;refine J4 ?_;refine LM.rd (aL Tryz.isAgg117 Tryz.sizeOf117 rfl rfl) ?_;refine J5 ?_;refine cE Tryz.func154 rfl (fun w hm hc hg=>EW (s.pn:Nat) w (hI.ops _ uE).1 ((hI.ops _ uE).2.ext hc) kE (hl.ext hc)) ?_;refine gy ?_;refine af.ak rfl (fun h2=>?_) (fun h2=>?_)
  ·refine kk ?_;refine QM.leave (.inl rfl) [.tmp 2,.tmp 3] Tryz.results121 rfl ?_;intro w' aj aa az;have e:pO s.ls (s.ps.map iS.c)=(k:Nat):=iC default (by rw [jg,←q9];exact zt) (by rw [jg];omega) (by rw [gF,jg,←q9];unfold j1;exact decide_eq_true h2);refine ⟨?_,aa⟩;rw [e];unfold Hh;rw [if_neg om,Int.toNat_natCast,gF,jg,←q9];rfl
  refine J7 ?_;refine aK (k+1) ?_ ?_
  · exact⟨by omega,by rw [dv default (by rw [jg];omega),zt,Bool.false_or,gF];unfold j1;simpa using h2⟩
  · omega
 refine cN ?_;refine QM.leave (.inl rfl) [.tmp 2,.tmp 3] Tryz.results121 rfl ?_;intro w' aj aa az;have hkp:k=s.ps.length:=om;rw [hkp,List.take_of_length_le om] at zt;have e:pO s.ls (s.ps.map iS.c)= -1:=eK (by rw [jg,←q9];exact zt);refine ⟨?_,aa⟩;rw [e];rfl
theorem HX {s:dm} (w:World) (hI:s.In w):aD Tryz.prog 77 #[s.val] w (fun v w'=>v= .bool (eu s.C)∧Ext w w'):=by
 have xR:=hI.xR;have kE:=hI.kE;have q9:=hI.q9;have hp:=hI.hp;have hg:=hI.hg;have hl:=hI.hl;have jg:(s.ps.map iS.c).length=s.ps.length:=List.length_map ..;refine aD.ao Tryz.func77 rfl Tryz.ntmps77 rfl ([]) (no) (Mem.nil w) ?_;refine J2 ?_;refine LM.box rfl rfl (fun b1 jq=>?_);refine J9 ?_;refine cE Tryz.func115 rfl (fun w hm hc hg=>dD _ _ w) ?_;refine J2 ?_;refine LM.bj (t:=10) rfl (fun h1=>?_) (fun h1=>?_)
 ·refine yi ?_;refine qL Tryz.results77 rfl fun w' aj aa az=>?_;refine ⟨?_,aa⟩;rw [jA (by rw [head_eq xR kE q9];simp [h1])];rfl
 refine J4 ?_;refine cE Tryz.func115 rfl (fun w hm hc hg=>dD _ _ w) ?_;refine J5 ?_;refine af.aJ rfl (fun h2=>?_) (fun h2=>?_)
 ·refine J8 ?_;refine qL Tryz.results77 rfl fun w' aj aa az=>?_;refine ⟨?_,aa⟩;rw [jA (by rw [head_eq xR kE q9];simp [h1,h2])];rfl
 refine J5 ?_;refine cE Tryz.func115 rfl (fun w hm hc hg=>dD _ _ w) ?_;refine J2 ?_;refine LM.bj (t:=22) rfl (fun h3=>?_) (fun h3=>?_)
 ·refine pQ ?_;refine qL Tryz.results77 rfl fun w' aj aa az=>?_;refine ⟨?_,aa⟩;rw [jA (by rw [head_eq xR kE q9];simp [h1,h2,h3])];rfl
 refine J4 ?_;refine cE Tryz.func116 rfl (fun w hm hc hg=>X6 w xR (hI.hg.ext hc) (by have h9:cD (s.gn:Int) 4=true:=(by simpa using h3);have:=(Ld _ _).1 h9;omega)) ?_;refine J4 ?_;refine af.aJ rfl (fun h4=>?_) (fun h4=>?_)
 ·refine J8 ?_;refine qL Tryz.results77 rfl fun w' aj aa az=>?_;refine ⟨?_,aa⟩;rw [GF (s:=s.C) (by show s.gs.all _=false;rw [mE,h4];rfl)];rfl
 refine J7 ?_;refine LM.aq (t:=32) rfl (fun h5=>?_) (fun h5=>?_)
 ·refine pQ ?_;refine qL Tryz.results77 rfl fun w' aj aa az=>?_;refine ⟨?_,aa⟩;rw [jA (by rw [head_eq xR kE q9];simp [h1,h2,h3,h4,h5])];rfl
 refine J4 ?_;refine cE Tryz.func118 rfl (fun w hm hc hg=>Y6 w kE (hl.ext hc) om) ?_;refine J4 ?_;refine af.aJ rfl (fun h6=>?_) (fun h6=>?_)
 ·refine J8 ?_;refine qL Tryz.results77 rfl fun w' aj aa az=>?_;refine ⟨?_,aa⟩;rw [zf (s:=s.C) (by show s.ls.all _=false;rw [mE,h6];rfl)];rfl
 refine J5 ?_;refine cE Tryz.func115 rfl (fun w hm hc hg=>dD _ _ w) ?_;refine J4 ?_;refine af.aJ rfl (fun h7=>?_) (fun h7=>?_)
 ·refine J8 ?_;refine qL Tryz.results77 rfl fun w' aj aa az=>?_;refine ⟨?_,aa⟩;rw [jA (by rw [head_eq xR kE q9];simp [h1,h2,h3,h4,h5,h6,h7])];rfl
 refine J5 ?_;refine LM.rd (aL Tryz.isAgg30 Tryz.sizeOf30 rfl rfl) ?_;refine cE Tryz.func121 rfl (fun w hm hc hg=>Bh w (hI.ext hc) (by have h9:cD (s.pn:Int) 8=true:=(by simpa using h7);have:=(Ld _ _).1 h9;omega)) ?_;refine py ?_;refine qL Tryz.results77 rfl fun w' aj aa az=>?_;have hhd:tJ s.C=true:=(by rw [head_eq xR kE q9];simp [h1,h2,h3,h4,h5,h6,h7]);have ZX:s.gs.all (fun n=>cD n 16)=true:=(by rw [mE,h4];rfl);have sy:s.ls.all k8=true:=(by rw [mE,h6];rfl);have hmi:decide (pO s.ls (s.ps.map iS.c)<0)= !(s.ps.map iS.c).any (j1 s.ls (s.ps.map iS.c).length):=(by unfold pO;rw [←kx,←decide_not];exact decide_eq_decide.2 om);refine ⟨?_,aa⟩;rw [iw,hhd];show Value.bool (decide (pO s.ls (s.ps.map iS.c)<0))=Value.bool (true&&(s.gs.all (fun n=>cD n 16)&&(s.ls.all k8&& !(s.ps.map iS.c).any (j1 s.ls (s.ps.map iS.c).length))));rw [hmi,ZX,sy];rfl
def yI (t:jn):List Value:=[.int .i64 t.core,.int .i64 t.how,.int .i64 t.lock]
def Am (e:dP):List Value:=[U e.tm,.int .i64 e.k,.int .i64 e.t,.int .i64 e.l,.int .i64 e.n]
abbrev qS (b:Nat) (s:dm) (now:BitVec 64) (c5:Option Addr) (nt bz:Nat) (dT:Option Addr) (bh:Option Addr):Nat×Obj:=
  (b,.cells #[.int .i64 s.cr,.int .i64 s.gr,.slice s.ga s.gn s.gc,.slice s.la s.ln s.lc,.slice s.pa s.pn s.pc,U now,.slice c5 nt bz,.slice dT s.ln s.ln,.slice bh s.ln s.ln] 100 (0,0))
structure KS (s:dm) (x:bU):Prop where
  r:x.rd.length=s.ln
  w:x.wr.length=s.ln
  t:x.ts.length≤64
  l:s.ln≤8
  h:x.sh=s.ls.map (·.sh)
  c:x.cores=s.cr
  n:s.ln=s.ls.length
theorem KS.hl {s:dm} {x:bU} (h:KS s x):x.sh.length=s.ln:=by rw [h.h,List.length_map,h.n]
theorem KS.of {s:dm} {x y:bU} (h:KS s x) (h1:y.rd.length=x.rd.length) (h2:y.wr.length=x.wr.length) (h3:y.ts.length≤64) (h4:y.sh=x.sh) (h5:y.cores=x.cores):KS s y:=⟨h1.trans h.r,h2.trans h.w,h3,h.l,h4.trans h.h,h5.trans h.c,h.n⟩
abbrev iy (b:Nat) (s:dm) (x:bU) (c5:Option Addr) (nt bz:Nat) (dT bh:Option Addr) (mt mr mw:ab):ab:=qS b s x.now c5 nt bz dT bh::(mt++(mr++mw))
def pR (n0 b:Nat) (s:dm) (x:bU) (m:ab):Prop:=∃c5 nt bz dT bh mt mr mw,m=iy b s x c5 nt bz dT bh mt mr mw∧nt=x.ts.length∧Sl yI 103 3 n0 x.ts (.slice c5 nt bz) mt∧Sl fU 41 1 n0 x.rd (.slice dT s.ln s.ln) mr∧Sl fU 41 1 n0 x.wr (.slice bh s.ln s.ln) mw∧KS s x∧n0≤b
theorem pR.bE {n0 b:Nat} {s:dm} {x:bU} {m:ab} (h:pR n0 b s x m):∀p∈m,bE p.2=false:=by
  obtain ⟨c5,nt,bz,dT,bh,mt,mr,mw,rfl,-,h1,h2,h3,-,-⟩:=h;intro p hp;rcases List.mem_cons.1 hp with rfl|hp
  · rfl
  rcases List.mem_append.1 hp with hp|hp
  · exact h1.bE p hp
  rcases List.mem_append.1 hp with hp|hp
  · exact h2.bE p hp
  · exact h3.bE p hp
theorem pR.ge {n0 b:Nat} {s:dm} {x:bU} {m:ab} (h:pR n0 b s x m):∀p∈m,n0≤p.1:=by
  obtain ⟨c5,nt,bz,dT,bh,mt,mr,mw,rfl,-,h1,h2,h3,-,hb⟩:=h;intro p hp;rcases List.mem_cons.1 hp with rfl|hp
  · exact hb
  rcases List.mem_append.1 hp with hp|hp
  · exact h1.ge p hp
  rcases List.mem_append.1 hp with hp|hp
  · exact h2.ge p hp
  · exact h3.ge p hp
theorem bo {n0 b nt bz:Nat} {s:dm} {c5 dT bh:Option Addr} {x:bU} {m mt mr mw M:ab} {u0:Value} {w w':World} (dN:nt=x.ts.length) (cu:Sl yI 103 3 n0 x.ts (.slice c5 nt bz) mt) (ew:Sl fU 41 1 n0 x.rd (.slice dT s.ln s.ln) mr) (cO:Sl fU 41 1 n0 x.wr (.slice bh s.ln s.ln) mw) (hk:KS s x) (hb:n0≤b) (hm:Mem w' M)
    (hs:aV M (qS b s x.now c5 nt bz dT bh::(mt++(mr++(mw++ []))))) (hc:cM (eO m) w w') (hbm:eO m b) (h1:de m w.heap.size mt) (h2:de m w.heap.size mr) (h3:de m w.heap.size mw):
    ec m (fun u m'=>u=u0∧pR n0 b s x m') w u0 w':=by
  rw [List.append_nil] at hs;exact⟨hc,_,⟨rfl,c5,nt,bz,dT,bh,mt,mr,mw,rfl,dN,cu,ew,cO,hk,hb⟩,hs.mem w' hm,fE hbm (bW h1 (bW h2 h3))⟩
theorem Qb (k:Int): [(4:Int),5,6,12,8].any (fun y=>decide (k=y))=zw k:=by unfold zw;simp only [List.any_cons,List.any_nil,Bool.or_false]
theorem Qa (k:Int): [(5:Int),6,12,11].any (fun y=>decide (k=y))=H0 k:=by unfold H0;simp only [List.any_cons,List.any_nil,Bool.or_false]
theorem rv (k:Int): [(3:Int),7,8,9].any (fun y=>decide (k=y))=rQ k:=by unfold rQ;simp only [List.any_cons,List.any_nil,Bool.or_false]
theorem sf {n0 b:Nat} {s:dm} {x:bU} {m:ab} (id:Int) (l:Nat) (w:World) (h:pR n0 b s x m) (hl:l<s.ln) (hM:Mem w m):aD Tryz.prog 182 #[.pointer (some ⟨b,0,none⟩),.int .i64 id,.int .i64 (l:Nat)] w (fun u w'=>u= .bool (nG x id l)∧Ext w w'):=by
 obtain ⟨c5,nt,bz,dT,bh,mt,mr,mw,rfl,dN,cu,ew,cO,hk,hb⟩:=h;have W5:=hk.r;have QI:=hk.w;refine aD.ao Tryz.func182 rfl Tryz.ntmps182 rfl (qS b s x.now c5 nt bz dT bh::(mt++(mr++(mw++ [])))) (no) aM ?_;refine J6 ?_;refine af.draw [(0,0),(1,0),(2,0),(3,1),(4,0),(5,0),(6,1),(7,0),(8,0),(9,0),(10,1),(11,0),(12,0),(13,1),(14,0),(15,0),(16,2),(17,0)] kr kr ?_;refine J6 ?_;refine LD.rd rfl rfl (bd aB ir Tryz.isAgg41 rfl rfl (by exact aO 0#64 cK) (by rfl)) ?_;refine J6 ?_;refine LD.rd rfl rfl (bd aB ir Tryz.isAgg41 rfl rfl (by exact aO 0#64 cK) (by rfl)) ?_;refine LD.val rfl rfl (og rfl rfl) ?_;refine J1 ?_;refine dE rfl rfl Tryz.func184 rfl (fun w hm hc hg=>yv _ _ w) ?_;refine J4 ?_;refine qL Tryz.results182 rfl fun w' aj aa az=>?_;exact⟨rfl,aa⟩
theorem oN {n0 b:Nat} {s:dm} {x:bU} {m:ab} (id lock:Int) (w:World) (h:pR n0 b s x m) (h0:0≤lock) (hl:lock<s.ln) (hM:Mem w m):
    aD Tryz.prog 182 #[.pointer (some ⟨b,0,none⟩),.int .i64 id,.int .i64 lock] w (fun u w'=>u= .bool (nG x id lock.toNat)∧Ext w w'):=by
  obtain ⟨l,rfl⟩:∃l:Nat,lock=l:=⟨lock.toNat,by omega⟩
  exact sf id l w h om hM
theorem Cn {n0 b:Nat} {s:dm} {x:bU} {m:ab} (id:Int) (l:Nat) (w:World) (h:pR n0 b s x m) (hl:l<s.ln) (hM:Mem w m):aD Tryz.prog 183 #[.pointer (some ⟨b,0,none⟩),.int .i64 id,.int .i64 (l:Nat)] w (ec m (fun u m'=>pR n0 b s (CM x id l) m') w):=by
 obtain ⟨c5,nt,bz,dT,bh,mt,mr,mw,rfl,dN,cu,ew,cO,hk,hb⟩:=h;have W5:=hk.r;have QI:=hk.w;refine aD.ao Tryz.func183 rfl Tryz.ntmps183 rfl (qS b s x.now c5 nt bz dT bh::(mt++(mr++(mw++ [])))) ((eO (iy b s x c5 nt bz dT bh mt mr mw))) aM ?_;refine af.draw [(0,0),(1,0),(2,0),(3,1),(4,0),(5,0),(6,0),(7,0),(8,1),(9,0),(10,0),(11,0),(12,0),(13,1),(14,0),(15,0),(16,1),(17,0),(19,0),(20,0),(21,0),(22,1),(23,0),(24,0),(25,1),(26,0),(18,2),(27,2),(28,0),(29,3),(30,3),(31,3)] kr kr ?_;refine pQ ?_;refine LD.rd rfl rfl (bd aB ir Tryz.isAgg41 rfl rfl (by exact aO 0#64 cK) (by rfl)) ?_;refine J7 ?_;refine LD.rd rfl rfl (bd aB ir Tryz.isAgg41 rfl rfl (by exact aO 0#64 cK) (by rfl)) ?_;refine J1 ?_;refine dE rfl rfl Tryz.func194 rfl (fun w hm hc hg=>rJ _ _ w) ?_;refine dE rfl rfl Tryz.func194 rfl (fun w hm hc hg=>rJ _ _ w) ?_;refine J1 ?_;refine LD.tail rfl rfl ?_;refine LM.fR ((vY (x.rd.getD l 0#64) id)) (j:=0) aB ir Tryz.sizeOf41 rfl rfl rfl (by exact aO 0#64 cK) rfl (by decide) (by rfl) rfl (fun p hp _=>⟨p,by simp [hp],rfl⟩) (fun jh cG cY=>?_);refine J1 ?_;refine LM.fR ((vY (x.wr.getD l 0#64) id)) (j:=0) aB ir Tryz.sizeOf41 rfl rfl rfl (by exact aO 0#64 cK) rfl (by decide) (by rfl) rfl (fun p hp _=>⟨p,by simp [hp],rfl⟩) (fun j5 e9 ik=>?_);refine J1 ?_;refine QM.qn ?_;refine QM.leave (.inr rfl) [] Tryz.results183 rfl ?_;intro w' aj aa az;exact ec.imp (bo (u0:=ba []) (x:=CM x id l) dN cu cG e9 (hk.of (List.length_set ..) (List.length_set ..) hk.t rfl rfl) hb aj aN aa bK c7 (dc (jN cY) (fun p hp=>by simp [hp])) (dc (jN ik) (fun p hp=>by simp [hp]))) (fun u m' h=>h.2)
theorem E4 {n0 b:Nat} {s:dm} {x:bU} {m:ab} (id lock:Int) (w:World) (h:pR n0 b s x m) (h0:0≤lock) (hl:lock<s.ln) (hM:Mem w m):
    aD Tryz.prog 183 #[.pointer (some ⟨b,0,none⟩),.int .i64 id,.int .i64 lock] w (ec m (fun u m'=>pR n0 b s (CM x id lock.toNat) m') w):=by
  obtain ⟨l,rfl⟩:∃l:Nat,lock=l:=⟨lock.toNat,by omega⟩
  exact Cn id l w h om hM
theorem z5 (k:Int) (w:World):aD Tryz.prog 155 #[.int .i64 k] w (fun v w'=>v= .bool (zw k)∧Ext w w'):=by
 refine aD.ao Tryz.func155 rfl Tryz.ntmps155 rfl ([]) (no) (Mem.nil w) ?_;refine J7 ?_;refine LM.row (vs:=[_,_,_,_,_]) Tryz.underlying26 Tryz.sizeOf3 Tryz.zeroValue3 rfl rfl rfl rfl rfl rfl (fun b3 xu=>?_);refine J1 ?_;refine cE Tryz.func179 rfl (fun w hm hc hg=>ji (xs:=[4,5,6,12,8]) k w rfl (wB 5 (hm.at b3) rfl rfl (fun _=>rfl)) (by decide)) ?_;refine J4 ?_;refine qL Tryz.results155 rfl fun w' aj aa az=>?_;exact⟨by show Value.bool _=_;rw [Qb],aa⟩
theorem DU (k:Int) (w:World):aD Tryz.prog 156 #[.int .i64 k] w (fun v w'=>v= .bool (H0 k)∧Ext w w'):=by
 refine aD.ao Tryz.func156 rfl Tryz.ntmps156 rfl ([]) (no) (Mem.nil w) ?_;refine J7 ?_;refine LM.row (vs:=[_,_,_,_]) Tryz.underlying26 Tryz.sizeOf3 Tryz.zeroValue3 rfl rfl rfl rfl rfl rfl (fun b3 xu=>?_);refine J1 ?_;refine cE Tryz.func179 rfl (fun w hm hc hg=>ji (xs:=[5,6,12,11]) k w rfl (wB 4 (hm.at b3) rfl rfl (fun _=>rfl)) (by decide)) ?_;refine J4 ?_;refine qL Tryz.results156 rfl fun w' aj aa az=>?_;exact⟨by show Value.bool _=_;rw [Qa],aa⟩
def Ix (t:iQ):List Value:=[.int .i64 t.id,.int .i64 t.pr,.int .i64 t.gr,.int .i64 t.co,.int .i64 t.pc,.int .i64 t.lf,.int .i64 t.st,U t.un,.int .i64 t.lk,.int .i64 t.we,.int .i64 t.ef,.int .i64 t.ti]
abbrev NO (n0 b:Nat) (x:bf) (m:ab):Prop:=gV n0 b x (x.wt.map eW) m
theorem Fa:QKd NO:=⟨gV.ge,gV.bE,gV.mono⟩
structure tY where
  bc:Nat
  bg:Nat
  bs:List Nat
  ai:Option Addr
  ni:Nat
  ci:Nat
  al:Option Addr
  nl:Nat
  cl:Nat
  ag:Option Addr
  ng:Nat
  cg:Nat
  ax:Option Addr
  nx:Nat
  cx:Nat
  EC:Option Addr
  nt:Nat
  ct:Nat
  av:Option Addr
  nv:Nat
  cv:Nat
  ae:Option Addr
  ne:Nat
  ce:Nat
  mi:ab
  ml:ab
  mg:ab
  mx:ab
  mt:ab
  mv:ab
  me:ab
  mc:ab
  mq:ab
abbrev v9 (b:Nat) (s:dm) (now:BitVec 64) (P:tY):Nat×Obj:=
  (b,.cells #[.int .i64 s.cr,.int .i64 s.gr,.slice s.ga s.gn s.gc,.slice s.la s.ln s.lc,.slice s.pa s.pn s.pc,U now,.pointer (some ⟨P.bc,0,none⟩),.slice P.ai P.ni P.ci,.slice P.al P.nl P.cl,.slice P.ag P.ng P.cg,.pointer (some ⟨P.bg,0,none⟩),.slice P.EC P.nt P.ct,.slice P.av P.nv P.cv,.slice P.ae P.ne P.ce] 49 (0,0))
abbrev aA (b:Nat) (s:dm) (now:BitVec 64) (P:tY):ab:=v9 b s now P::gR P.bg P.ax P.nx P.cx::(P.mi++(P.ml++(P.mg++(P.mx++(P.mt++(P.mv++(P.me++(P.mc++P.mq))))))))
abbrev zm (b:Nat) (s:dm) (now:BitVec 64) (P:tY) (mx mt mc mq:ab):ab:=v9 b s now P::gR P.bg P.ax P.nx P.cx::(P.mi++(P.ml++(P.mg++(mx++(mt++(P.mv++(P.me++(mc++mq))))))))
structure gm (n0 b:Nat) (s:dm) (x:aG) (P:tY):Prop where
  ni:P.ni=x.idle.length
  si:Sl fI 3 1 n0 x.idle (.slice P.ai P.ni P.ci) P.mi
  nl:P.nl=x.lk.length
  bl:P.bs.length=x.lk.length
  sl:Sl fP 54 1 n0 P.bs (.slice P.al P.nl P.cl) P.ml
  sq:km NO n0 P.bs x.lk P.mq
  ng:P.ng=x.gp.length
  sg:Sl fI 3 1 n0 x.gp (.slice P.ag P.ng P.cg) P.mg
  nx:P.nx=64
  gl:x.g.length=64
  sx:Sl fU 41 1 n0 x.g (.slice P.ax P.nx P.cx) P.mx
  nt:P.nt=x.ts.length
  st:Sl Ix 66 12 n0 x.ts (.slice P.EC P.nt P.ct) P.mt
  nv:P.nv=x.v.length
  sv:Sl fU 41 1 n0 x.v (.slice P.av P.nv P.cv) P.mv
  ne:P.ne=x.ev.length
  se:Sl Am 72 5 n0 x.ev (.slice P.ae P.ne P.ce) P.me
  sc:RcM n0 P.bc x.cs P.mc
  hb:n0≤b
  hg:n0≤P.bg
  hs:x.s=s.C
def eF (n0 b:Nat) (s:dm) (x:aG) (m:ab):Prop:=∃P,m=aA b s x.now P∧gm n0 b s x P
theorem gm.ge {n0 b:Nat} {s:dm} {x:aG} {P:tY} {y:BitVec 64} (h:gm n0 b s x P):∀p∈aA b s y P,n0≤p.1:=by
  intro p hp;simp only [List.mem_cons,List.mem_append] at hp;rcases hp with rfl|rfl|hp|hp|hp|hp|hp|hp|hp|hp|hp
  · exact h.hb
  · exact h.hg
  · exact h.si.ge p hp
  · exact h.sl.ge p hp
  · exact h.sg.ge p hp
  · exact h.sx.ge p hp
  · exact h.st.ge p hp
  · exact h.sv.ge p hp
  · exact h.se.ge p hp
  · exact h.sc.ge p hp
  · exact h.sq.ge Fa p hp
theorem eF.ge {n0 b:Nat} {s:dm} {x:aG} {m:ab} (h:eF n0 b s x m):∀p∈m,n0≤p.1:=by obtain ⟨P,rfl,h⟩:=h;exact h.ge
theorem eF.bE {n0 b:Nat} {s:dm} {x:aG} {m:ab} (h:eF n0 b s x m):∀p∈m,bE p.2=false:=by
  obtain ⟨P,rfl,h⟩:=h;intro p hp;simp only [List.mem_cons,List.mem_append] at hp;rcases hp with rfl|rfl|hp|hp|hp|hp|hp|hp|hp|hp|hp
  · rfl
  · rfl
  · exact h.si.bE p hp
  · exact h.sl.bE p hp
  · exact h.sg.bE p hp
  · exact h.sx.bE p hp
  · exact h.st.bE p hp
  · exact h.sv.bE p hp
  · exact h.se.bE p hp
  · exact h.sc.bE p hp
  · exact h.sq.bE Fa p hp
theorem gm.m {n0 b:Nat} {s:dm} {x:aG} {P:tY} {y:BitVec 64} (h:gm n0 b s x P) (hn:x.now=y:=by first|rfl|assumption):eF n0 b s x (aA b s y P):=⟨P,by rw [hn],h⟩
theorem eF.b {n0 b:Nat} {s:dm} {x:aG} {m:ab} (h:eF n0 b s x m):eO m b:=by obtain ⟨P,rfl,-⟩:=h;exact bK
theorem aQ {b k:Nat} {s:dm} {y:BitVec 64} {m:ab} {P:tY} (h0:eO m b:=by first|exact bK|assumption) (hg:k≤P.bg∨eO m P.bg:=by(try dsimp only);assumption)
    (hi:de m k P.mi:=by(try dsimp only);assumption)
    (hl:de m k P.ml:=by(try dsimp only);assumption)
    (hgg:de m k P.mg:=by(try dsimp only);assumption)
    (hx:de m k P.mx:=by(try dsimp only);assumption)
    (ht:de m k P.mt:=by(try dsimp only);assumption)
    (hv:de m k P.mv:=by(try dsimp only);assumption)
    (he:de m k P.me:=by(try dsimp only);assumption)
    (hc:de m k P.mc:=by(try dsimp only);assumption)
    (hq:de m k P.mq:=by(try dsimp only);assumption):
    de m k (aA b s y P):=fun p hp=>by
  rcases List.mem_cons.1 hp with rfl|hp
  · exact .inr h0
  rcases List.mem_cons.1 hp with rfl|hp
  · exact hg
  exact bW hi (bW hl (bW hgg (bW hx (bW ht (bW hv (bW he (bW hc hq))))))) p hp
theorem bP {b k:Nat} {s:dm} {y:BitVec 64} {m:ab} {P:tY} (h:de m k (aA b s y P)):(k≤P.bg∨eO m P.bg)∧de m k P.mi∧de m k P.ml∧de m k P.mg∧de m k P.mx∧de m k P.mt∧de m k P.mv∧de m k P.me∧de m k P.mc∧de m k P.mq:=
  ⟨h (gR P.bg P.ax P.nx P.cx) (by simp),fun p hp=>h p (by simp [hp]),fun p hp=>h p (by simp [hp]),fun p hp=>h p (by simp [hp]),fun p hp=>h p (by simp [hp]),fun p hp=>h p (by simp [hp]),fun p hp=>h p (by simp [hp]),fun p hp=>h p (by simp [hp]),fun p hp=>h p (by simp [hp]),fun p hp=>h p (by simp [hp])⟩
theorem zD {n0 b:Nat} {s:dm} {x:aG} {P:tY} {m M:ab} {u0:Value} {w w':World} (h:gm n0 b s x P) (hm:Mem w' M) (hs:aV M (aA b s x.now P++ [])) (hc:cM (eO m) w w') (hn:de m w.heap.size (aA b s x.now P)):
    ec m (fun u m'=>u=u0∧eF n0 b s x m') w u0 w':=aY ⟨rfl,P,rfl,h⟩ hm hs hc hn
theorem uL {n0:Nat} {bs:List Nat} {x:aG} {mm:ab} (h:km NO n0 bs x.lk mm) {l:Nat} (hl:l<x.lk.length):∃(bM:Option Addr) (nh aI:Nat) (bh:Option Addr) (nw aS bl:Nat) (mh mw rest:ab),nh=(gL x l).ho.length∧nw=(gL x l).wt.length∧Sl tQ 68 3 n0 (gL x l).ho (.slice bM nh aI) mh∧Sl tQ 68 3 n0 ((gL x l).wt.map eW) (.slice bh nw aS) mw∧
    mm.Perm ((dU (bs.getD l default) (gL x l).sh (gL x l).sl bM nh aI bh nw aS (gL x l).tr bl (gL x l).di::(mh++(mw++ [])))++rest):=by
  obtain ⟨M,rfl,h1,h2,h3⟩:=h;obtain ⟨bM,nh,aI,bh,nw,aS,bl,mh,mw,ml,e,jx,kR,fC,cO,-,-⟩:=h3 l hl;refine ⟨bM,nh,aI,bh,nw,aS,bl,mh,mw,ml++(M.eraseIdx l).flatten,jx,by rw [kR,List.length_map],fC,cO,?_⟩;have:=mJ M l om;rw [e] at this;refine this.trans (.of_eq ?_);rw [List.append_nil,List.cons_append,List.cons_append,List.append_assoc,List.append_assoc,List.append_assoc]
theorem ZJ {L:List Wt} {i:Nat} (h:i<L.length):((L.map eW).getD i default).t=(L.getD i default).who:=by
  rw [List.getD_eq_getElem?_getD,List.getD_eq_getElem?_getD,List.getElem?_map,List.getElem?_eq_getElem h];rfl
theorem Jp {w:World} {b:Nat} {s:dm} {y:BitVec 64} {P:tY} {L rest:ab} (hM:Mem w (aA b s y P)) (hp:P.mq.Perm (L++rest)):Mem w (v9 b s y P::(P.ml++L)):=by
  have h1:Mem w (v9 b s y P::(P.ml++(P.mq++ []))):=aV.mem aN w hM;rw [List.append_nil] at h1;refine (h1.perm ((hp.append_left P.ml).cons _)).sub (List.Sublist.cons_cons _ ?_);rw [←List.append_assoc];exact List.sublist_append_left _ _
def Xu (n0 b:Nat) (s:dm) (y:BitVec 64) (x:aG) (P:tY) (u:Value) (m':ab):Prop:=u= .tuple #[]∧∃ad n cap me,m'=aA b s y {P with ae:=ad,ne:=n,ce:=cap,me:=me}∧gm n0 b s x {P with ae:=ad,ne:=n,ce:=cap,me:=me}
theorem ub {n0 b:Nat} {s:dm} {x:aG} {P:tY} (k t l n:Int) (w:World) (h:gm n0 b s x P) (AF:x.ev.length≤1000000000000) (cm:n0≤w.heap.size) (hM:Mem w (aA b s x.now P)):aD Tryz.prog 55 #[.pointer (some ⟨b,0,none⟩),.int .i64 k,.int .i64 t,.int .i64 l,.int .i64 n] w (ec (aA b s x.now P) (Xu n0 b s x.now (bn x k t l n) P) w):=by
 have fi:=h.ne;have hse:=h.se;obtain ⟨ig,ii,il,ip,ix,it,iv,ie,ic,iq⟩:=bP (ay (aA b s x.now P) w.heap.size);refine aD.ao Tryz.func55 rfl Tryz.ntmps55 rfl (aA b s x.now P++ []) ((eO (aA b s x.now P))) aM ?_;refine af.keep (v9 b s x.now P:: []) (fun _=>True) (.one 0 0 (.one 1 0 (.one 2 0 (.one 3 0 (.one 4 1 (.one 5 0 (.one 6 0 (.one 7 0 (.one 8 1 (.one 9 0 (.one 10 0 (.one 11 0 (.one 12 0 (.one 13 0 (.one 14 2 (.one 15 2 (.one 16 0 (.one 17 0 (.last 18))))))))))))))))))) kr kr aN (fun _ _=>trivial) ?_;refine gy ?_;refine KD.val rfl rfl (aC (cs:=(Am ⟨x.now,k,t,l,n⟩).toArray) rfl kr) ?_;refine J1 ?_;refine LM.single Tryz.underlying47 Tryz.sizeOf72 Tryz.zeroValue72 rfl rfl rfl rfl rfl (fun b24 alK=>?_);refine J3 ?_;refine LM.app (a:=(⟨x.now,k,t,l,n⟩:dP)) Tryz.underlying47 Tryz.typeInfo72 rfl rfl rfl rfl rfl rfl rfl aB (by rfl) ir (by intro _ u hu;simp [Am] at hu;(repeat (first|(rcases hu with rfl|hu)|subst hu|rfl))) (by first|exact Nat.le_refl _|omega) (au aB) (by first|omega|(unfold maxLen;omega)) (by simp only [Tryz.t72];omega) (fun ae2 n25 Xi m25 amL ago JX=>?_);have alP:=ar aB JX;refine J4 ?_;refine KD.last rfl ?_;refine LM.st Tryz.sizeOf47 rfl rfl rfl dW rfl sC ?_;refine J1 ?_;refine QM.qn ?_;refine QM.leave (.inr rfl) [] Tryz.results55 rfl ?_;intro w' aj aa az;exact aY (m':=aA b s x.now {P with ae:=ae2,ne:=n25,ce:=Xi,me:=m25}) ⟨rfl,_,_,_,_,rfl,{h with ne:=(by show n25=(x.ev++ [_]).length;rw [List.length_append,List.length_singleton];omega),se:=ago}⟩ aj aN aa aQ
theorem tO {n0 b:Nat} {s:dm} {x:aG} {P:tY} {y:BitVec 64} (hn:x.now=y) (k t l n:Int) (w:World) (h:gm n0 b s x P) (AF:x.ev.length≤1000000000000) (cm:n0≤w.heap.size) (hM:Mem w (aA b s y P)):
    aD Tryz.prog 55 #[.pointer (some ⟨b,0,none⟩),.int .i64 k,.int .i64 t,.int .i64 l,.int .i64 n] w (ec (aA b s y P) (Xu n0 b s y (bn x k t l n) P) w):=by
  subst hn;exact ub k t l n w h AF cm hM
theorem cc {n0 b:Nat} {s:dm} {x:aG} {m:ab} (k t l n:Int) (w:World) (h:eF n0 b s x m) (AF:x.ev.length≤1000000000000) (cm:n0≤w.heap.size) (hM:Mem w m):
    aD Tryz.prog 55 #[.pointer (some ⟨b,0,none⟩),.int .i64 k,.int .i64 t,.int .i64 l,.int .i64 n] w (ec m (fun u m'=>u= .tuple #[]∧eF n0 b s (bn x k t l n) m') w):=by
  obtain ⟨P,rfl,h⟩:=h;exact(ub k t l n w h AF cm hM).mono (fun u w' hU=>hU.imp (fun u m' ⟨e,_,_,_,_,e2,h2⟩=>⟨e,_,e2,h2⟩))
theorem uc {n0 b:Nat} {s:dm} {x:aG} {m:ab} (w:World) (h:eF n0 b s x m) (uz:x.ts.length≤64) (hM:Mem w m):aD Tryz.prog 29 #[.pointer (some ⟨b,0,none⟩)] w (fun v w'=>v= .bool (je x)∧Ext w w'):=by
 obtain ⟨P,rfl,h⟩:=h;have dN:=h.nt;have cu:=h.st;refine aD.ao Tryz.func29 rfl Tryz.ntmps29 rfl (aA b s x.now P++ []) (no) aM ?_;refine yi ?_;refine af.aP (α:=Nat) (fun i=>[(3,.int .i64 (jU (x.ts.take i):Nat)),(4,.int .i64 (i:Nat))]) [(0,_)] (fun i=>aA b s x.now P++ []) (fun i=>i≤x.ts.length) (fun i=>x.ts.length-i) (0) ⟨(by first|rfl|exact lk rfl (congrArg (Value.int .i64) (tz om aB))|exact lk rfl (congrArg (Value.int .i64) (vu om aB))),kO,rfl,trivial⟩ aN (Nat.zero_le _) ?_;rintro i hi;change af _ _ _ _ _ _ _ (aA b s x.now P++ []) _ _ _;have IU:=KY (x.ts.take i);have htk:=List.length_take_le i x.ts;refine cN ?_;refine af.ak rfl (fun h1=>?_) (fun h1=>?_)
 ·refine gy ?_;refine LM.rd (aE (j:=6) aB ir Tryz.isAgg3 rfl rfl (by first|exact bI om|exact aO default cK) rfl (by rfl)) ?_;refine J3 ?_;refine af.ak rfl (fun h2=>?_) (fun h2=>?_)
  ·refine cN ?_;refine QM.dq (i+1) ⟨(by first|rfl|exact lk rfl (congrArg (Value.int .i64) (tz om aB))|exact lk rfl (congrArg (Value.int .i64) (vu om aB))),kO,rfl,trivial⟩ aN (fun _ h=>h) ?_ ?_
   · omega
   · omega
  refine J8 ?_;refine QM.dq (i+1) ⟨(by first|rfl|exact lk rfl (congrArg (Value.int .i64) (tz om aB))|exact lk rfl (congrArg (Value.int .i64) (vu om aB))),kO,rfl,trivial⟩ aN (fun _ h=>h) ?_ ?_
  · omega
  · omega
 refine cj ?_;refine LM.aq (t:=27) rfl (fun h3=>?_) (fun h3=>?_)
 ·refine cN ?_;refine qL Tryz.results29 rfl fun w' aj aa az=>?_;have er:i=x.ts.length:=om;subst er;rw [List.take_length] at*;refine ⟨?_,aa⟩;show Value.bool _=_;unfold je;rw [decide_eq_true (show jU x.ts<16 by omega),Bool.true_and,dN];exact congrArg Value.bool (decide_eq_decide.2 om)
 refine c9 ?_;refine qL Tryz.results29 rfl fun w' aj aa az=>?_;have er:i=x.ts.length:=om;subst er;rw [List.take_length] at*;refine ⟨?_,aa⟩;show Value.bool _=_;unfold je;rw [decide_eq_false (show¬jU x.ts<16 by omega)];rfl
theorem vD {n0 b:Nat} {s:dm} {x:aG} {m:ab} (l:Nat) (t:Int) (w:World) (h:eF n0 b s x m) (hl:l<x.lk.length) (hx:(gL x l).ho.length≤900) (hM:Mem w m):aD Tryz.prog 101 #[.pointer (some ⟨b,0,none⟩),.int .i64 (l:Nat),.int .i64 t] w (fun v w'=>v= .int .i64 (ea (gL x l) t)∧Ext w w'):=by
 obtain ⟨P,rfl,h⟩:=h;have xz:=h.nl;have tU:=h.bl;have jt:=h.sl;obtain ⟨bM,nh,aI,bh,nw,aS,bl,mh,mw,rest,jx,kR,fC,cO,hq⟩:=uL h.sq hl;refine aD.ao Tryz.func101 rfl Tryz.ntmps101 rfl (v9 b s x.now P::(P.ml++(dU (P.bs.getD l default) (gL x l).sh (gL x l).sl bM nh aI bh nw aS (gL x l).tr bl (gL x l).di::(mh++(mw++ []))))) (no) (Jp hM hq) ?_;refine gy ?_;refine LM.rd (bd aB ir Tryz.isAgg54 rfl rfl (by first|exact bI om|exact aO default cK) (by rfl)) ?_;refine cj ?_;refine af.aP (α:=Nat) (fun i=>[(8,.int .i64 (i:Nat))]) [(2,_),(7,_)] (fun i=>v9 b s x.now P::(P.ml++(dU (P.bs.getD l default) (gL x l).sh (gL x l).sl bM nh aI bh nw aS (gL x l).tr bl (gL x l).di::(mh++(mw++ []))))) (fun i=>i≤(gL x l).ho.length∧∀j,j<i→((gL x l).ho.getD j default).t≠t) (fun i=>(gL x l).ho.length-i) (0) cF aN ⟨Nat.zero_le _,fun j hj=>absurd hj (Nat.not_lt_zero j)⟩ ?_;rintro i ⟨hi,gZ⟩;change af _ _ _ _ _ _ _ (v9 b s x.now P::(P.ml++(dU (P.bs.getD l default) (gL x l).sh (gL x l).sl bM nh aI bh nw aS (gL x l).tr bl (gL x l).di::(mh++(mw++ []))))) _ _ _;refine cN ?_;refine af.ak rfl (fun h1=>?_) (fun h1=>?_)
 ·refine gy ?_;refine LM.rd (aE (j:=0) aB ir Tryz.isAgg3 rfl rfl (by first|exact bI om|exact aO default cK) rfl (by rfl)) ?_;refine J4 ?_;refine af.ak rfl (fun h2=>?_) (fun h2=>?_)
  ·refine py ?_;refine LM.rd (aE (j:=2) aB ir Tryz.isAgg4 rfl rfl (by first|exact bI om|exact aO default cK) rfl (by rfl)) ?_;refine J2 ?_;refine af.aJ rfl (fun h3=>?_) (fun h3=>?_)
   ·refine cN ?_;refine LM.bj (t:=48) rfl (fun h4=>?_) (fun h4=>?_)
    ·refine J6 ?_;refine LM.sp 48 rfl rfl rfl ?_;refine J3 ?_;refine LM.rd (aE (j:=1) aB ir Tryz.isAgg3 rfl rfl (by first|exact bI om|exact aO default cK) rfl (by rfl)) ?_;refine J4 ?_;refine af.ak rfl (fun h5=>?_) (fun h5=>?_)
     ·refine yx ?_;refine qL Tryz.results101 rfl fun w' aj aa az=>?_;obtain ⟨e1,e2⟩:=tv (L:=gL x l) gZ om h2;refine ⟨?_,aa⟩;show Value.int .i64 _=_;unfold ea;rw [if_pos e1,e2];simp only [h1,h2,h3,h4,h5, *] <;>simp_all
     refine kk ?_;refine qL Tryz.results101 rfl fun w' aj aa az=>?_;obtain ⟨e1,e2⟩:=tv (L:=gL x l) gZ om h2;refine ⟨?_,aa⟩;show Value.int .i64 _=_;unfold ea;rw [if_pos e1,e2];simp only [h1,h2,h3,h4,h5, *] <;>simp_all
    refine J27 ?_;refine qL Tryz.results101 rfl fun w' aj aa az=>?_;obtain ⟨e1,e2⟩:=tv (L:=gL x l) gZ om h2;refine ⟨?_,aa⟩;show Value.int .i64 _=_;unfold ea;rw [if_pos e1,e2];simp only [h1,h2,h3,h4, *] <;>simp_all
   refine cj ?_;refine LM.bj (t:=48) rfl (fun h6=>?_) (fun h6=>?_)
   ·refine J6 ?_;refine LM.sp 48 rfl rfl rfl ?_;refine J3 ?_;refine LM.rd (aE (j:=1) aB ir Tryz.isAgg3 rfl rfl (by first|exact bI om|exact aO default cK) rfl (by rfl)) ?_;refine J4 ?_;refine af.ak rfl (fun h7=>?_) (fun h7=>?_)
    ·refine yx ?_;refine qL Tryz.results101 rfl fun w' aj aa az=>?_;obtain ⟨e1,e2⟩:=tv (L:=gL x l) gZ om h2;refine ⟨?_,aa⟩;show Value.int .i64 _=_;unfold ea;rw [if_pos e1,e2];simp only [h1,h2,h3,h6,h7, *] <;>simp_all
    refine kk ?_;refine qL Tryz.results101 rfl fun w' aj aa az=>?_;obtain ⟨e1,e2⟩:=tv (L:=gL x l) gZ om h2;refine ⟨?_,aa⟩;show Value.int .i64 _=_;unfold ea;rw [if_pos e1,e2];simp only [h1,h2,h3,h6,h7, *] <;>simp_all
   refine J27 ?_;refine qL Tryz.results101 rfl fun w' aj aa az=>?_;obtain ⟨e1,e2⟩:=tv (L:=gL x l) gZ om h2;refine ⟨?_,aa⟩;show Value.int .i64 _=_;unfold ea;rw [if_pos e1,e2];simp only [h1,h2,h3,h6, *] <;>simp_all
  refine J8 ?_;refine aK (i+1) ?_ ?_
  · exact⟨by omega,fun j hj=>by rcases Nat.lt_or_ge j i with q|q;exact gZ j q;rw [show j=i by omega];assumption⟩
  · omega
 refine c9 ?_;refine qL Tryz.results101 rfl fun w' aj aa az=>?_;refine ⟨?_,aa⟩;show Value.int .i64 0=_;unfold ea;rw [if_neg (by rw [SV (L:=gL x l) (fun j hj=>gZ j om)];simp)]
theorem qW {n0 b:Nat} {s:dm} {x:aG} {m:ab} (l:Nat) (w:World) (h:eF n0 b s x m) (hl:l<x.lk.length) (hx:(gL x l).ho.length≤900) (hM:Mem w m):aD Tryz.prog 140 #[.pointer (some ⟨b,0,none⟩),.int .i64 (l:Nat)] w (fun v w'=>v=U (s3 (gL x l))∧Ext w w'):=by
 obtain ⟨P,rfl,h⟩:=h;have xz:=h.nl;have tU:=h.bl;have jt:=h.sl;obtain ⟨bM,nh,aI,bh,nw,aS,bl,mh,mw,rest,jx,kR,fC,cO,hq⟩:=uL h.sq hl;refine aD.ao Tryz.func140 rfl Tryz.ntmps140 rfl (v9 b s x.now P::(P.ml++(dU (P.bs.getD l default) (gL x l).sh (gL x l).sl bM nh aI bh nw aS (gL x l).tr bl (gL x l).di::(mh++(mw++ []))))) (no) (Jp hM hq) ?_;refine yx ?_;refine LM.rd (bd aB ir Tryz.isAgg54 rfl rfl (by first|exact bI om|exact aO default cK) (by rfl)) ?_;refine cj ?_;refine af.aP (α:=Nat) (fun i=>[(5,U (kf (((gL x l).ho.take i).map (·.t)))),(7,.int .i64 (i:Nat))]) [(6,_)] (fun i=>v9 b s x.now P::(P.ml++(dU (P.bs.getD l default) (gL x l).sh (gL x l).sl bM nh aI bh nw aS (gL x l).tr bl (gL x l).di::(mh++(mw++ []))))) (fun i=>i≤(gL x l).ho.length) (fun i=>(gL x l).ho.length-i) (0) ⟨(by first|exact lk rfl (by rw [List.take_zero];rfl)|exact lk rfl (by rw [iE default om,yA])),kO,rfl,trivial⟩ aN (Nat.zero_le _) ?_;rintro i hi;change af _ _ _ _ _ _ _ (v9 b s x.now P::(P.ml++(dU (P.bs.getD l default) (gL x l).sh (gL x l).sl bM nh aI bh nw aS (gL x l).tr bl (gL x l).di::(mh++(mw++ []))))) _ _ _;refine cN ?_;refine af.ak rfl (fun h1=>?_) (fun h1=>?_)
 ·refine gy ?_;refine LM.rd (aE (j:=0) aB ir Tryz.isAgg3 rfl rfl (by first|exact bI om|exact aO default cK) rfl (by rfl)) ?_;refine cE Tryz.func149 rfl (fun w hm hc hg=>qC _ _ w) ?_;refine J9 ?_;refine QM.dq (i+1) ⟨(by first|exact lk rfl (by rw [List.take_zero];rfl)|exact lk rfl (by rw [iE default om,yA])),kO,rfl,trivial⟩ aN (fun _ h=>h) ?_ ?_
  · omega
  · omega
 refine cN ?_;refine qL Tryz.results140 rfl fun w' aj aa az=>?_;have er:i=(gL x l).ho.length:=om;subst er;rw [List.take_length];exact⟨rfl,aa⟩
theorem vB {n0 b:Nat} {s:dm} {x:aG} {m:ab} (l:Nat) (w:World) (h:eF n0 b s x m) (hl:l<x.lk.length) (hx:(gL x l).ho.length≤900) (hx8:(gL x l).wt.length≤8) (hM:Mem w m):aD Tryz.prog 102 #[.pointer (some ⟨b,0,none⟩),.int .i64 (l:Nat)] w (ec m (fun u m'=>u= .tuple #[]∧eF n0 b s (BT x l) m') w):=by
 obtain ⟨P,rfl,h⟩:=h;have hI:=h;have xz:=h.nl;have tU:=h.bl;have jt:=h.sl;have QA:=h.nx;obtain ⟨ig,ii,il,ip,ix,it,iv,ie,ic,iq⟩:=bP (ay (aA b s x.now P) w.heap.size);obtain ⟨bM,nh,aI,bh,nw,aS,bl,mh,mw,rest,jx,kR,fC,cO,hq⟩:=uL h.sq hl;refine aD.ao Tryz.func102 rfl Tryz.ntmps102 rfl (aA b s x.now P++ []) ((eO (aA b s x.now P))) aM ?_;refine J8 ?_;refine LM.rd (bd aB ir Tryz.isAgg54 rfl rfl (by first|exact bI om|exact aO default cK) (by rfl)) ?_;refine J9 ?_;refine af.aP (α:=Nat×Gr×ab) (fun ⟨i,g,mg⟩=>[(5,.int .i64 (i:Nat))]) [(0,_),(1,_),(4,_)] (fun ⟨i,g,mg⟩=>v9 b s x.now P::gR P.bg P.ax P.nx P.cx::(P.mi++(P.ml++(P.mg++(mg++(P.mt++(P.mv++(P.me++(P.mc++(P.mq++ [])))))))))) (fun ⟨i,g,mg⟩=>i≤(gL x l).wt.length∧g=H3 (gL x l) x.g i∧g.length=64∧Sl fU 41 1 n0 g (.slice P.ax P.nx P.cx) mg∧de (aA b s x.now P) w.heap.size mg) (fun ⟨i,g,mg⟩=>(gL x l).wt.length-i) ((0,x.g,P.mx)) cF aN ⟨Nat.zero_le _,rfl,h.gl,h.sx,ix⟩ ?_;rintro ⟨i,g,mg⟩ ⟨hi,hg,wb,CK,Ua⟩;change af _ _ _ _ _ _ _ (v9 b s x.now P::gR P.bg P.ax P.nx P.cx::(P.mi++(P.ml++(P.mg++(mg++(P.mt++(P.mv++(P.me++(P.mc++(P.mq++ [])))))))))) _ _ _;have OH:((gL x l).wt.map eW).length=(gL x l).wt.length:=List.length_map ..;refine J7 ?_;refine LM.eh (fun w hm hc hg=>gw (M:=dU (P.bs.getD l default) (gL x l).sh (gL x l).sl bM nh aI bh nw aS (gL x l).tr bl (gL x l).di::(mh++(mw++ []))) Tryz.isAgg56 rfl rfl w (((hm.pick P.mq).perm hq).sub (List.sublist_append_left _ _))) ?_;refine J4 ?_;refine af.ak rfl (fun h1=>?_) (fun h1=>?_)
 ·refine J4 ?_;refine af.draw [(0,0),(1,0),(2,0),(3,1),(4,0),(5,0),(6,0),(7,1),(8,0),(9,0),(10,0),(11,1),(12,0),(13,0),(14,2),(15,3)] kr kr ?_;refine J7 ?_;refine LD.eh rfl rfl (fun w hm hc hg=>gw (M:=dU (P.bs.getD l default) (gL x l).sh (gL x l).sl bM nh aI bh nw aS (gL x l).tr bl (gL x l).di::(mh++(mw++ []))) Tryz.isAgg56 rfl rfl w (((hm.pick P.mq).perm hq).sub (List.sublist_append_left _ _))) ?_;refine J3 ?_;refine LD.eh rfl rfl (fun w hm hc hg=>aE (M:=dU (P.bs.getD l default) (gL x l).sh (gL x l).sl bM nh aI bh nw aS (gL x l).tr bl (gL x l).di::(mh++(mw++ []))) (j:=0) cO ir Tryz.isAgg3 rfl rfl (by exact aO default om) rfl (by rfl) w (((hm.pick P.mq).perm hq).sub (List.sublist_append_left _ _))) ?_;refine J2 ?_;refine dE rfl rfl Tryz.func140 rfl (fun w hm hc hg=>qW l w (⟨{P with mx:=mg},rfl,{hI with gl:=wb,sx:=CK}⟩:eF n0 b s {x with g:=g} _) hl hx (hm.pick (aA b s x.now {P with mx:=mg}))) ?_;refine LD.tail rfl rfl ?_;refine cU Tryz.func142 rfl (fun w hm hc hg=>wi P.bg _ _ w wb QA CK (sm hm)) CK.bE (au Ua) ?_;rintro u37 N6 ⟨rfl,qM⟩ wZ;rw [ZJ (show i<(gL x l).wt.length by omega)] at qM;refine J1 ?_;refine QM.qn ?_;refine J7 ?_;refine aK (i+1,CZ g ((gL x l).wt.getD i default).who (s3 (gL x l)),N6) ?_ ?_
  · exact⟨by omega,by rw [HO om,←hg],yX wb _ _,qM,ar Ua wZ⟩
  · (dsimp only;omega)
 refine J4 ?_;refine QM.leave (.inr rfl) [] Tryz.results102 rfl ?_;intro w' aj aa az;have er:i=(gL x l).wt.length:=om;subst er;exact zD (P:= {P with mx:=mg}) (x:=BT x l) {hI with gl:=(by rw [hg] at wb;rw [AT] at wb;exact wb),sx:=(by rw [hg,AT] at CK;exact CK)} aj aN aa aQ
theorem xn {n0 b:Nat} {s:dm} {x:aG} {m:ab} (pr gr we co:Int) (w:World) (h:eF n0 b s x m) (uz:x.ts.length≤64) (hvl:x.v.length≤64) (AF:x.ev.length≤1000000000000) (cm:n0≤w.heap.size) (hM:Mem w m):aD Tryz.prog 30 #[.pointer (some ⟨b,0,none⟩),.int .i64 pr,.int .i64 gr,.int .i64 we,.int .i64 co] w (ec m (fun u m'=>u= .tuple #[]∧eF n0 b s (pL x pr gr we co) m') w):=by
 obtain ⟨P,rfl,h⟩:=h;have dN:=h.nt;have cu:=h.st;have hnv:=h.nv;have XV:=h.sv;obtain ⟨ig,ii,il,ip,ix,it,iv,ie,ic,iq⟩:=bP (ay (aA b s x.now P) w.heap.size);refine aD.ao Tryz.func30 rfl Tryz.ntmps30 rfl (aA b s x.now P++ []) ((eO (aA b s x.now P))) aM ?_;refine Wo ?_;refine LM.val (aC (cs:=(Ix (Dr (P.nt:Nat) pr gr we co)).toArray) rfl kr) ?_;refine LM.single Tryz.underlying45 Tryz.sizeOf66 Tryz.zeroValue66 rfl rfl rfl rfl rfl (fun b28 alj=>?_);refine LM.app (a:=Dr (P.nt:Nat) pr gr we co) Tryz.underlying45 Tryz.typeInfo66 rfl rfl rfl rfl rfl rfl rfl aB (by rfl) ir (by intro _ u hu;simp [Ix] at hu;(repeat (first|(rcases hu with rfl|hu)|subst hu|rfl))) (by first|exact Nat.le_refl _|omega) (au aB) (by first|omega|(unfold maxLen;omega)) (by simp only [Tryz.t66];omega) (fun Tu n29 Li AP acx kM jb=>?_);have ank:=ar aB jb;refine J2 ?_;refine LM.st Tryz.sizeOf45 rfl rfl rfl dW rfl sC ?_;refine J9 ?_;refine LM.single Tryz.underlying46 Tryz.sizeOf41 Tryz.zeroValue41 rfl rfl rfl rfl rfl (fun b37 YT=>?_);refine LM.app (a:=0#64) Tryz.underlying46 Tryz.typeInfo41 rfl rfl rfl rfl rfl rfl rfl aB (by rfl) ir (by intro _ u hu;simp [fU] at hu;(repeat (first|(rcases hu with rfl|hu)|subst hu|rfl))) (by first|exact Nat.le_refl _|omega) (au aB) (by first|omega|(unfold maxLen;omega)) (by simp only [Tryz.t41];omega) (fun Ij RZ yO VJ TU J0 tD=>?_);have aeR:=ar aB tD;refine J2 ?_;refine LM.st Tryz.sizeOf46 rfl rfl rfl dW rfl sC ?_;refine LM.mem (aV.mem (M':=aA b s x.now {P with EC:=Tu,nt:=n29,ct:=Li,av:=Ij,nv:=RZ,cv:=yO,mt:=AP,mv:=VJ} ++ []) aN) ?_;refine c9 ?_;refine cU Tryz.func66 rfl (fun w hm hc hg=>wQ co (P.nt:Nat) 0#64 we w h.sc (Nat.le_trans cm hc.size) (hm.pick P.mc)) h.sc.bE (au ic) ?_;rintro u48 m48 ⟨rfl,W4⟩ LU;have i48:=ar ic LU;have xS:eF n0 b s {x with ts:=x.ts++ [Dr x.ts.length pr gr we co],v:=x.v++ [0#64],cs:=dS x.cs co x.ts.length 0#64 we} _:=⟨{P with EC:=Tu,nt:=n29,ct:=Li,av:=Ij,nv:=RZ,cv:=yO,mt:=AP,mv:=VJ,mc:=m48},rfl,{h with nt:=(by show n29=(x.ts++ [_]).length;rw [List.length_append,List.length_singleton];omega),nv:=(by show RZ=(x.v++ [_]).length;rw [List.length_append,List.length_singleton];omega),st:=(by rw [dN] at kM;exact kM),sv:=J0,sc:=(by rw [dN] at W4;exact W4)}⟩
 refine J6 ?_;refine cU Tryz.func55 rfl (fun w hm hc hg=>cc 1 (P.nt:Nat) (-1) co w xS AF (Nat.le_trans cm hc.size) (hm.pick _)) xS.bE (au aQ) ?_;rintro u52 C3 ⟨rfl,h52⟩ FW;refine J1 ?_;refine QM.leave (.inr rfl) [] Tryz.results30 rfl ?_;intro w' aj aa az;exact aY (m':=C3) ⟨rfl,(by rw [dN] at h52;exact h52)⟩ aj aN aa (ar aQ FW)
theorem qH {n0 b:Nat} {s:dm} {x:aG} {m:ab} (t:Nat) (w:World) (h:eF n0 b s x m) (ht:t<x.ts.length) (hv:x.v.length=x.ts.length) (AF:x.ev.length≤1000000000000) (cm:n0≤w.heap.size) (hM:Mem w m):aD Tryz.prog 60 #[.pointer (some ⟨b,0,none⟩),.int .i64 (t:Nat)] w (ec m (fun u m'=>u= .tuple #[]∧eF n0 b s (ft x t) m') w):=by
 obtain ⟨P,rfl,h⟩:=h;have dN:=h.nt;have cu:=h.st;have hnv:=h.nv;have XV:=h.sv;obtain ⟨ig,ii,il,ip,ix,it,iv,ie,ic,iq⟩:=bP (ay (aA b s x.now P) w.heap.size);refine aD.ao Tryz.func60 rfl Tryz.ntmps60 rfl (aA b s x.now P++ []) ((eO (aA b s x.now P))) aM ?_;refine J9 ?_;refine LM.fR ({gT x t with st:=1}) (j:=6) aB ir Tryz.sizeOf3 rfl rfl rfl (by first|exact bI om|exact aO default cK) rfl (by decide) (by rfl) rfl (au aB) (fun jh cG cY=>?_)
 try rw [List.set_set] at cG
 have HE:=cn cY aB;refine c9 ?_;refine LM.fR ({gT x t with st:=1,un:=0#64}) (j:=7) aB ir Tryz.sizeOf41 rfl rfl rfl (by first|exact bI om|exact aO default cK) rfl (by decide) (by rfl) rfl (au aB) (fun j5 e9 ik=>?_)
 try rw [List.set_set] at e9
 have IG:=cn ik aB;refine c9 ?_;refine LM.fR (MB (gT x t)) (j:=8) aB ir Tryz.sizeOf3 rfl rfl rfl (by first|exact bI om|exact aO default cK) rfl (by decide) (by rfl) rfl (au aB) (fun tN nX sY=>?_)
 try rw [List.set_set] at nX
 have UC:=cn sY aB;refine J3 ?_;refine af.draw [(0,0),(1,0),(2,0),(3,1),(4,0),(5,0),(6,0),(7,1),(8,0),(9,0),(10,0),(11,1),(12,0),(13,0),(14,0),(15,0),(16,1),(17,0),(18,0),(19,1),(20,0),(21,0),(22,0),(23,1),(24,0),(25,0),(26,0),(27,1),(28,3)] kr kr ?_;refine c9 ?_;refine LD.rd rfl rfl (aE (j:=3) aB ir Tryz.isAgg3 rfl rfl (by first|exact bI om|exact aO default cK) rfl (by rfl)) ?_;refine J7 ?_;refine LD.rd rfl rfl (bd aB ir Tryz.isAgg41 rfl rfl (by first|exact bI om|exact aO 0#64 cK) (by rfl)) ?_;refine J7 ?_;refine LD.rd rfl rfl (aE (j:=10) aB ir Tryz.isAgg3 rfl rfl (by first|exact bI om|exact aO default cK) rfl (by rfl)) ?_;refine LD.tail rfl rfl ?_;refine cU Tryz.func66 rfl (fun w hm hc hg=>wQ (gT x t).co (t:Nat) (x.v.getD t 0#64) (gT x t).ef w h.sc (Nat.le_trans cm hc.size) (hm.pick P.mc)) h.sc.bE (au ic) ?_;rintro u53 m53 ⟨rfl,ae5⟩ aak;have i53:=ar ic aak;have xS:eF n0 b s {dH x t (MB (gT x t)) with cs:=dS x.cs (gT x t).co t (x.v.getD t 0#64) (gT x t).ef} (aA b s x.now {P with mt:=tN,mc:=m53}):=⟨_,rfl,{h with nt:=(by show P.nt=(x.ts.set t _).length;rw [List.length_set];exact dN),st:=nX,sc:=ae5}⟩
 refine J1 ?_;refine QM.qn ?_;refine c9 ?_;refine LM.rd (aE (j:=3) aB ir Tryz.isAgg3 rfl rfl (by first|exact bI om|exact aO default cK) rfl (by rfl)) ?_;refine cU Tryz.func55 rfl (fun w hm hc hg=>cc 7 (t:Nat) (-1) (gT x t).co w xS AF (Nat.le_trans cm hc.size) (hm.pick _)) xS.bE (au aQ) ?_;rintro u64 m64 ⟨rfl,AH⟩ A8;refine J1 ?_;refine QM.leave (.inr rfl) [] Tryz.results60 rfl ?_;intro w' aj aa az;exact aY (m':=m64) ⟨rfl,AH⟩ aj aN aa (ar aQ A8)
theorem qz {n0 b:Nat} {s:dm} {x:aG} {m:ab} (t:Nat) (w:World) (h:eF n0 b s x m) (hv:t<x.v.length) (cm:n0≤w.heap.size) (hM:Mem w m):aD Tryz.prog 72 #[.pointer (some ⟨b,0,none⟩),.int .i64 (t:Nat)] w (ec m (fun u m'=>u= .tuple #[]∧eF n0 b s (eX x t) m') w):=by
 obtain ⟨P,rfl,h⟩:=h;have hnv:=h.nv;have XV:=h.sv;obtain ⟨ig,ii,il,ip,ix,it,iv,ie,ic,iq⟩:=bP (ay (aA b s x.now P) w.heap.size);refine aD.ao Tryz.func72 rfl Tryz.ntmps72 rfl (aA b s x.now P++ []) ((eO (aA b s x.now P))) aM ?_;refine J7 ?_;refine cU Tryz.func110 rfl (fun w hm hc hg=>Ew (t:Nat) w h.sc (Nat.le_trans cm hc.size) (hm.pick P.mc)) h.sc.bE (au ic) ?_;rintro u12 m12 ⟨rfl,Xf⟩ Zt;have i12:=ar ic Zt;refine cN ?_;refine af.ak rfl (fun h1=>?_) (fun h1=>?_)
 ·refine J8 ?_;refine LM.fR (wY x.cs t) (j:=0) aB ir Tryz.sizeOf41 rfl rfl rfl (by first|exact bI om|exact aO 0#64 cK) rfl (by decide) (by rfl) rfl (au aB) (fun jh cG cY=>?_)
  try rw [List.set_set] at cG
  have HE:=cn cY aB;refine J1 ?_;refine QM.leave (.inr rfl) [] Tryz.results72 rfl ?_;intro w' aj aa az;exact zD (P:= {P with mv:=jh,mc:=m12}) (x:=eX x t) {h with nv:=(by rw [Fp h1,List.length_set];exact hnv),sv:=(by rw [Fp h1];exact cG),sc:=Xf} aj aN aa aQ
 refine J1 ?_;refine QM.leave (.inr rfl) [] Tryz.results72 rfl ?_;intro w' aj aa az;exact zD (P:= {P with mc:=m12}) (x:=eX x t) {h with nv:=(by rw [Jb h1];exact hnv),sv:=(by rw [Jb h1];exact XV),sc:=Xf} aj aN aa aQ
end Go.Eng
namespace Go.Eng
open Go Go.RowKit
/-! ### cores -/
theorem pD {q q':Qm} (h:q'.l.map (·.id)=q.l.map (·.id)) (b:Int):cA q' b↔cA q b:=by
  have e:∀(x:Qm),cA x b↔b∈x.l.map (·.id):=fun x=>by
    unfold cA;rw [iT,List.mem_map]
  rw [e,e,h]
structure CI (n k:Nat) (cs:List Qm):Prop where
  wf:su cs
  id:∀c,c<cs.length→∀a,cA (qg cs c) a→a<(n:Int)
  rn:∀c,c<cs.length→(qg cs c).c4≤(k:Int)+8
theorem CI.mono {n n' k k':Nat} {cs:List Qm} (h:CI n k cs) (hn:n≤n') (hk:k≤k'):CI n' k' cs:=⟨h.wf,fun c hc a ha=>by have:=h.id c hc a ha;omega,fun c hc=>by have:=h.rn c hc;omega⟩
theorem CI.set {n k:Nat} {cs:List Qm} (h:CI n k cs) {c:Nat} (hc:c<cs.length) {q:Qm} (hq:mT q) (he:q.l.map (·.id)=(qg cs c).l.map (·.id)) (hr:q.c4≤(k:Int)+8):CI n k (cs.set c q):=by
  have hl:q.l.length=(qg cs c).l.length:=by have:=congrArg List.length he;rw [List.length_map,List.length_map] at this;exact this
  refine ⟨h.wf.set hc hq (fun j b hj hjc hb q'=>hjc (h.wf.one j c b hj hc q' ((pD he b).1 hb))) (by have:=h.wf.all;omega),fun d hd a ha=>?_,fun d hd=>?_⟩
  · rw [List.length_set] at hd;rw [bN hc] at ha
    by_cases e:c=d
    · rw [if_pos e] at ha;exact h.id c hc a ((pD he a).1 ha)
    · rw [if_neg e] at ha;exact h.id d hd a ha
  · rw [List.length_set] at hd;rw [bN hc]
    by_cases e:c=d
    · rw [if_pos e];exact hr
    · rw [if_neg e];exact h.rn d hd
theorem CI.Zy {n k:Nat} {cs:List Qm} (h:CI n k cs) {c:Nat} (hc:c<cs.length) {a:Int} (ha:0≤a) (hn:¬bS cs a<cs.length) (hf:eZ cs<16) (v:BitVec 64) (w:Int) (han:a<n):CI n k (cs.set c (rO (qg cs c) a v w)):=by
  refine ⟨yS h.wf hc ha hn hf v w,fun d hd b hb=>?_,fun d hd=>?_⟩
  · rw [List.length_set] at hd;rw [bN hc] at hb
    by_cases e:c=d
    · rw [if_pos e,has_add] at hb
      rcases hb with hb|rfl
      · exact h.id c hc b hb
      · exact han
    · rw [if_neg e] at hb;exact h.id d hd b hb
  · rw [List.length_set] at hd;rw [bN hc]
    by_cases e:c=d
    · rw [if_pos e];exact h.rn c hc
    · rw [if_neg e];exact h.rn d hd
theorem CI.add {n k:Nat} {cs:List Qm} (h:CI n k cs) (co a:Int) (v:BitVec 64) (w:Int) (han:a<n):CI n k (dS cs co a v w):=by
  unfold dS
  split
  · next e=>
    unfold iP at e
    split at e
    · cases e
    split at e
    · cases e
    split at e
    · cases e
    exact h.Zy om om aB om v w han
  · exact h
theorem gC (cs:List Qm) (co a:Int) (v:BitVec 64) (w:Int):(dS cs co a v w).length=cs.length:=by unfold dS;split;exact List.length_set;rfl
theorem CI.aai {n k:Nat} {cs:List Qm} (h:CI n k cs) {a:Int} (ha:bS cs a<cs.length):CI n k (cs.set (bS cs a) (iN (qg cs (bS cs a)) a)):=by
  refine ⟨zk h.wf ha,fun d hd b hb=>?_,fun d hd=>?_⟩
  · rw [List.length_set] at hd;rw [bN ha] at hb
    by_cases e:bS cs a=d
    · rw [if_pos e,pe (h.wf.wf _ ha) (dz ha)] at hb;exact h.id _ ha b hb.1
    · rw [if_neg e] at hb;exact h.id d hd b hb
  · rw [List.length_set] at hd;rw [bN ha]
    by_cases e:bS cs a=d
    · rw [if_pos e];unfold iN;split
      · show (0:Int)≤_;omega
      · exact h.rn _ ha
    · rw [if_neg e];exact h.rn d hd
theorem CI.rem {n k:Nat} {cs:List Qm} (h:CI n k cs) (a:Int):CI n k (gS cs a):=by
  unfold gS;split
  · exact h.aai aB
  · exact h
theorem pg (cs:List Qm) (a:Int):(gS cs a).length=cs.length:=by unfold gS;split;exact List.length_set;rfl
theorem CI.wgh {n k:Nat} {cs:List Qm} (h:CI n k cs) (a w:Int):CI n k (ks cs a w):=by
  unfold ks;split
  · next ha=>
    have hh:=dz ha;rw [show mR (qg cs (bS cs a)) a w=ij (qg cs (bS cs a)) a w from if_pos hh];refine h.set ha (Bm (h.wf.wf _ ha) hh) (iu hh rfl) ?_
    show (if _ then _ else _)≤_
    have hg:=(h.wf.wf _ ha).g;have:=h.rn _ ha
    split<;>omega
  · exact h
theorem FK (cs:List Qm) (a w:Int):(ks cs a w).length=cs.length:=by unfold ks;split;exact List.length_set;rfl
theorem CI.back {n k:Nat} {cs:List Qm} (h:CI n k cs) {c:Nat} (hc:c<cs.length):CI n k (cs.set c (fJ (qg cs c))):=h.set hc (FC (h.wf.wf _ hc)) rfl (by show (0:Int)≤_;omega)
theorem CI.pik {n k:Nat} {cs:List Qm} (h:CI n k cs) {c:Nat} (hc:c<cs.length):CI n k (cs.set c (rS (qg cs c))):=by
  refine h.set hc (To (h.wf.wf _ hc)) (by unfold rS;split<;>rfl) ?_
  unfold rS;split
  · exact h.rn c hc
  · show (0:Int)≤_;omega
theorem CI.tick {n k:Nat} {cs:List Qm} (h:CI n k cs) {c:Nat} (hc:c<cs.length):CI n (k+1) (cs.set c (fF (qg cs c))):=by
  refine (h.mono (Nat.le_refl n) (Nat.le_succ k)).set hc (FX (h.wf.wf _ hc)) ?_ ?_
  · unfold fF;split
    · next q=>exact iu ((h.wf.wf _ hc).ix q) ((ju ((h.wf.wf _ hc).ix q)).1)
    · rfl
  · have:=h.rn c hc
    unfold fF;split
    · show _+1≤_;omega
    · omega
theorem mu {cs:List Qm} (f:Qm→Qm):(cs.map f).length=cs.length:=List.length_map ..
theorem wx {cs:List Qm} {f:Qm→Qm} {c:Nat} (h:c<cs.length):qg (cs.map f) c=f (qg cs c):=by
  unfold qg;rw [List.getD_eq_getElem?_getD,List.getD_eq_getElem?_getD,List.getElem?_map,List.getElem?_eq_getElem h];rfl
theorem CI.aco {n k:Nat} {cs:List Qm} (h:CI n k cs):CI n k (cs.map fq):=by
  have hk:∀c,c<cs.length→∀a,cA (qg (cs.map fq) c) a↔cA (qg cs c) a:=fun c hc a=>by
    rw [wx hc];exact pD (by rw [(eL _).1]) a
  refine ⟨⟨by rw [mu];exact h.wf.len,fun c hc=>?_,fun i j a hi hj h1 h2=>?_,?_⟩,fun c hc a ha=>?_,fun c hc=>?_⟩
  · rw [mu] at hc;rw [wx hc];exact uI (h.wf.wf c hc)
  · rw [mu] at hi hj;exact h.wf.one i j a hi hj ((hk i hi a).1 h1) ((hk j hj a).1 h2)
  · have e:eZ (cs.map fq)=eZ cs:=by
      unfold eZ;rw [List.map_map];congr 1
      exact List.map_congr_left (fun q _=>by show (fq q).l.length=_;rw [(eL q).1])
    rw [e];exact h.wf.all
  · rw [mu] at hc;exact h.id c hc a ((hk c hc a).1 ha)
  · rw [mu] at hc;rw [wx hc,(eL _).2.2.1];exact h.rn c hc
theorem CI.car {n k:Nat} {cs:List Qm} (h:CI n k cs) {a:Int} {to:Nat} (ha:bS cs a<cs.length) (ht:to<cs.length) (fi:to≠bS cs a):CI n k (gH cs a to):=by
  obtain ⟨h1,h2,h3,h4,h5⟩:=zx h.wf ha ht fi;rw [wW h.wf ha ht fi];exact CI.Zy (h.aai ha) h2 h3 h4 h5 _ _ (h.id _ ha a (dz ha))
theorem sk (cs:List Qm) (a:Int) (to:Nat):(gH cs a to).length=cs.length:=by unfold gH eV;rw [List.length_set,List.length_set]
theorem CI.XZ {n k:Nat} {cs:List Qm} (h:CI n k cs):CI n k (jY cs):=by
  unfold jY
  split
  · exact h
  · next t e=>
    obtain ⟨h1,h2,h3,h4,h5,h6,h7⟩:=lg h.wf e;exact h.car (by rw [h4];exact h5) h6 h7
theorem P4 (cs:List Qm):(jY cs).length=cs.length:=by unfold jY;split;rfl;exact sk ..
theorem CI.mov {n k:Nat} {cs:List Qm} (h:CI n k cs) (co a:Int):CI n k (jW cs co a):=by
  unfold jW
  split
  · next e=>
    unfold fc at e
    split at e
    · cases e
    split at e
    · cases e
    split at e
    · cases e
    split at e
    · cases e
    exact h.car om om om
  · exact h
theorem PR (cs:List Qm) (co a:Int):(jW cs co a).length=cs.length:=by unfold jW;split;exact sk ..;rfl
/-! who is in a queue behind it -/
theorem BS {cs:List Qm} {co a:Int} {v:BitVec 64} {w:Int} {c:Nat} {b:Int} (h:cA (qg (dS cs co a v w) c) b):cA (qg cs c) b∨b=a:=by
  unfold dS at h;split at h
  · next e=>
    have tt:co.toNat<cs.length:=by unfold iP at e;split at e;cases e;omega
    rw [bN tt] at h
    by_cases q:co.toNat=c
    · rw [if_pos q,has_add] at h;rw [←q];exact h
    · rw [if_neg q] at h;exact .inl h
  · exact .inl h
theorem Br {cs:List Qm} (co a:Int) (v:BitVec 64) (w:Int) {b:Int} (h:bS cs b<cs.length):bS (dS cs co a v w) b<(dS cs co a v w).length:=by
  refine Classical.byContradiction fun n=>?_;have hh:=dz h;have hn:=vH n (i:=bS cs b) (by rw [gC];exact h)
  unfold dS at hn;split at hn
  · next e=>
    have tt:co.toNat<cs.length:=by unfold iP at e;split at e;cases e;omega
    rw [bN tt] at hn
    by_cases q:co.toNat=bS cs b
    · rw [if_pos q,has_add,q] at hn;exact hn (.inl hh)
    · rw [if_neg q] at hn;exact hn hh
  · exact hn hh
theorem rX {cs:List Qm} (hw:su cs) {a:Int} {c:Nat} (hc:c<cs.length) {b:Int} (h:cA (qg (gS cs a) c) b):cA (qg cs c) b∧b≠a:=by
  unfold gS at h;split at h
  · next e=>
    have hn:=Gc hw e;refine ⟨?_,fun q=>?_⟩
    · rw [bN e] at h
      by_cases q:bS cs a=c
      · rw [if_pos q,pe (hw.wf _ e) (dz e),q] at h;exact h.1
      · rw [if_neg q] at h;exact h
    · rw [q] at h;exact vH hn (i:=c) (by rw [List.length_set];exact hc) h
  · next e=>exact⟨h,fun q=>by rw [q] at h;exact vH e hc h⟩
theorem jQ {cs:List Qm} {c:Nat} (hc:c<cs.length) {q:Qm} (he:q.l.map (·.id)=(qg cs c).l.map (·.id)) {d:Nat} {b:Int} (h:cA (qg (cs.set c q) d) b):cA (qg cs d) b:=by
  rw [bN hc] at h
  by_cases e:c=d
  · rw [if_pos e] at h;rw [←e];exact(pD he b).1 h
  · rw [if_neg e] at h;exact h
theorem Cg {cs:List Qm} {a w:Int} {d:Nat} {b:Int} (h:cA (qg (ks cs a w) d) b):cA (qg cs d) b:=by
  unfold ks at h;split at h
  · next ha=>
    have hh:=dz ha;rw [show mR (qg cs (bS cs a)) a w=ij (qg cs (bS cs a)) a w from if_pos hh] at h;exact jQ ha (iu hh rfl) h
  · exact h
theorem Ba {cs:List Qm} {d:Nat} (hd:d<cs.length) {b:Int} (h:cA (qg (cs.map fq) d) b):cA (qg cs d) b:=by
  rw [wx hd] at h;exact(pD (by rw [(eL _).1]) b).1 h
theorem A9 {cs:List Qm} (hw:su cs) {a:Int} {to:Nat} (ha:bS cs a<cs.length) (ht:to<cs.length) (fi:to≠bS cs a) {d:Nat} (hd:d<cs.length) {b:Int} (h:cA (qg (gH cs a to) d) b):∃e,e<cs.length∧cA (qg cs e) b:=by
  rw [wW hw ha ht fi,bN (by unfold eV;rw [List.length_set];exact ht)] at h
  have key:∀e,cA (qg (eV cs a) e) b→cA (qg cs e) b:=fun e q=>by
    unfold eV at q;rw [bN ha] at q
    by_cases z:bS cs a=e
    · rw [if_pos z,pe (hw.wf _ ha) (dz ha),z] at q;exact q.1
    · rw [if_neg z] at q;exact q
  by_cases e:to=d
  · rw [if_pos e,has_add] at h
    rcases h with h|rfl
    · exact⟨to,ht,key to h⟩
    · exact⟨_,ha,dz ha⟩
  · rw [if_neg e] at h;exact⟨d,hd,key d h⟩
/-! ### locks -/
structure gY (P:Int→Prop) (L:bf):Prop where
  ho:∀h∈L.ho,P h.t
  wt:∀w∈L.wt,P w.who
theorem gY.settle {P:Int→Prop} {L:bf} (h:gY P L):gY P (cX L):=⟨h.ho,h.wt⟩
theorem BX (L:bf) (p:Int) (n:Nat):(dk L p n).length≤L.wt.length:=by
  unfold dk LF;rw [List.length_map,List.length_take]
  have:=List.length_filter_le (fun w:Wt=>decide (w.key=p)) L.wt;omega
theorem gY.dk {P:Int→Prop} {L:bf} (h:gY P L) (p:Int) (n:Nat):∀t∈dk L p n,P t:=fun t ht=>by
  obtain ⟨w,hw,rfl,_⟩:=r5 ht;exact h.wt w hw
theorem gY.L9 {P:Int→Prop} {L:bf} (h:gY P L) (p:Int) (n:Nat):gY P (lS L p n):=by
  rw [fj];refine ⟨fun g hg=>?_,fun w hw=>h.wt w (ph.1 hw).1⟩;rcases List.mem_append.1 hg with hg|hg
  · exact h.ho g hg
  · refine h.dk p n g.t ?_
    rw [←Bl p L.di (Go.Eng.dk L p n)];exact List.mem_map_of_mem hg
theorem gY.jd {P:Int→Prop} {L:bf} (h:gY P L):∀t∈jd L,P t:=fun t ht=>by
  unfold Go.Eng.jd at ht;split at ht
  · cases ht
  · exact h.dk _ _ t ht
theorem gY.pass {P:Int→Prop} {L:bf} (h:gY P L):gY P (kl L):=by
  unfold kl;split
  · exact h
  · exact gY.L9 (L:=dJ L) ⟨h.ho,h.wt⟩ _ _
theorem gY.take {P:Int→Prop} {L:bf} (h:gY P L) (t p:Int) (ht:P t):gY P (cR L t p):=by
  unfold cR;split
  · exact h
  · refine gY.settle ⟨fun g hg=>?_,fun w hw=>h.wt w (by rw [←vq L p];exact hw)⟩
    rcases List.mem_append.1 hg with hg|hg
    · exact h.ho g (by rw [(ff L p).2.1] at hg;exact hg)
    · rw [List.mem_singleton] at hg;rw [hg];exact ht
theorem gY.wait {P:Int→Prop} {L:bf} (h:gY P L) (t p:Int) (ht:P t):gY P (dQ L t p):=by
  unfold dQ;split
  · exact h
  · refine gY.settle ⟨h.ho,fun w hw=>?_⟩
    rcases List.mem_append.1 hw with hw|hw
    · exact h.wt w hw
    · rw [List.mem_singleton] at hw;rw [hw];exact ht
theorem gY.out {P:Int→Prop} {L:bf} (h:gY P L) (t:Int):gY P (fu L t):=⟨fun g hg=>h.ho g (List.mem_of_mem_eraseIdx hg),h.wt⟩
theorem gY.BD {P:Int→Prop} {L:bf} (h:gY P L) (t:Int):gY P (eQ L t):=by
  unfold eQ;split
  · split
    · exact(h.out t).pass.settle
    · exact(h.out t).settle
  · exact h
theorem gY.eC {P:Int→Prop} {L:bf} (h:gY P L) (t:Int):∀u∈eC L t,P u:=fun u hu=>by
  unfold Go.Eng.eC at hu;split at hu
  · exact(h.out t).jd u hu
  · cases hu
theorem gY.gone {P:Int→Prop} {L:bf} (h:gY P L) (t:Int):gY P (du L t):=⟨h.ho,fun w hw=>h.wt w (List.mem_filter.1 hw).1⟩
theorem gY.lv {P:Int→Prop} {L:bf} (h:gY P L) (t:Int):gY P (fY L t):=by
  unfold fY;split
  · split
    · exact((h.gone t).L9 _ _).settle
    · exact(h.gone t).settle
  · exact h
theorem gY.qk {P:Int→Prop} {L:bf} (h:gY P L) (t:Int):∀u∈qk L t,P u:=fun u hu=>by
  unfold Go.Eng.qk at hu;split at hu
  · exact(h.gone t).dk _ _ u hu
  · cases hu
theorem gY.die {P:Int→Prop} {L:bf} (h:gY P L) (t:Int):gY P (sw L t):=by
  unfold sw;split
  · exact h.lv t
  · split
    · exact gY.BD (L:= {L with di:=true}) ⟨h.ho,h.wt⟩ t
    · exact h
theorem gY.uN {P:Int→Prop} {L:bf} (h:gY P L) (t:Int):∀u∈uN L t,P u:=fun u hu=>by
  unfold Go.Eng.uN at hu;split at hu
  · exact h.qk t u hu
  · exact gY.eC (L:= {L with di:=true}) ⟨h.ho,h.wt⟩ t u hu
theorem gY.xD {P:Int→Prop} {L:bf} (h:gY P L) (t:Int):gY P (jk L t):=by unfold jk;split;exact⟨h.ho,h.wt⟩;exact h
theorem gY.P7 {P:Int→Prop} {L:bf} (h:gY P L) (g w:Int):gY P (iL L g w):=by unfold iL;split;exact⟨h.ho,h.wt⟩;exact h
theorem Hg (L:bf):(jd L).length≤L.wt.length:=by unfold jd;split;exact Nat.zero_le _;exact BX (dJ L) _ _
theorem nV (L:bf) (t:Int):(eC L t).length≤L.wt.length:=by unfold eC;split;exact Hg (fu L t);exact Nat.zero_le _
theorem ra (L:bf) (t:Int):(qk L t).length≤L.wt.length:=by
  unfold qk;split
  · exact Nat.le_trans (BX (du L t) _ _) (List.length_filter_le ..)
  · exact Nat.zero_le _
theorem FN (L:bf) (t:Int):(uN L t).length≤L.wt.length:=by unfold uN;split;exact ra L t;exact nV {L with di:=true} t
def kI (n:Nat) (t:Int):Prop:=0≤t∧t<n
structure LI (n k:Nat) (L:bf):Prop where
  w:lM L
  b:kb k L
  i:gY (kI n) L
theorem LI.mono {n n' k k':Nat} {L:bf} (h:LI n k L) (hn:n≤n') (hk:k≤k'):LI n' k' L:=⟨h.w,h.b.mono hk,⟨fun g hg=>by have:=h.i.ho g hg;exact⟨this.1,by have:=this.2;omega⟩,fun g hg=>by have:=h.i.wt g hg;exact⟨this.1,by have:=this.2;omega⟩⟩⟩
theorem tx {n:Nat} {l:List Int} (h:l.Nodup) (hn:∀t∈l,kI n t):l.length≤n:=by
  have h1:(l.map Int.toNat).Nodup:=by
    unfold List.Nodup;rw [List.pairwise_map]
    refine List.Pairwise.imp_of_mem (fun {a b} ha hb fi e=>fi ?_) h;have h2:=hn a ha;have h3:=hn b hb;unfold kI at h2 h3;omega
  have h2:∀t∈l.map Int.toNat,t∈List.range n:=fun t ht=>by
    obtain ⟨a,ha,rfl⟩:=List.mem_map.1 ht;have:=hn a ha;unfold kI at this;exact List.mem_range.2 om
  have h3:=List.Nodup.length_le_of_subset h1 h2;rw [List.length_map,List.length_range] at h3;exact h3
theorem LI.hl {n k:Nat} {L:bf} (h:LI n k L):L.ho.length≤n:=by
  have:=tx h.w.hd (fun t ht=>by obtain ⟨g,hg,rfl⟩:=List.mem_map.1 ht;exact h.i.ho g hg);rw [List.length_map] at this;exact this
section
variable {n k:Nat} {L:bf} (h:LI n k L) (t:Int)
include h
theorem LI.take (p:Int) (ht:kI n t):LI n (k+1) (cR L t p):=⟨h.w.take t p,h.b.take t p,h.i.take t p ht⟩
theorem LI.wait (p:Int) (ht:kI n t):LI n (k+1) (dQ L t p):=⟨h.w.wait t p,h.b.wait t p,h.i.wait t p ht⟩
theorem LI.BD:LI n k (eQ L t):=⟨lM.BD h.w.top8 t h.w.em,h.b.BD h.w.wd t,h.i.BD t⟩
theorem LI.lv:LI n k (fY L t):=⟨h.w.lv t,h.b.lv h.w.wd t,h.i.lv t⟩
theorem LI.die:LI n k (sw L t):=⟨h.w.die t,h.b.die h.w.wd t,h.i.die t⟩
theorem LI.xD:LI n (k+1) (jk L t):=⟨h.w.xD t,h.b.xD t,h.i.xD t⟩
theorem LI.P7 (w:Int):LI n k (iL L t w):=⟨h.w.P7 t w,h.b.P7 t w,h.i.P7 t w⟩
end
/-! ### who waits for whom -/
structure GI (g:Gr):Prop where
  l:g.length=64
  a:Ri g
theorem Jz {G:Gr} {i:Nat} :¬lL G 0#64 i:=fun h=>by
  induction h with
  |base h=>rw [dd] at h;cases h
  |step _ _ ih=>exact ih
theorem GI.cut {g:Gr} (h:GI g) {t:Nat} (ht:t<64):GI (g.set t 0#64):=⟨by rw [List.length_set];exact h.l,FE h.l ht h.a Jz⟩
theorem GI.wt {g:Gr} (h:GI g) (t:Int) (s:BitVec 64):GI (CZ g t s):=⟨yX h.l t s,Od h.l h.a t s⟩
theorem GI.Yh {L:bf} :∀{g:Gr},GI g→GI (Qw L g):=by
  unfold Qw
  generalize L.wt=l
  induction l with
  |nil=>intro g h;exact h
  |cons w l ih=>intro g h;rw [List.foldl_cons];exact ih (h.wt _ _)
structure xB (s:jy) (k:Nat) (t:iQ):Prop where
  pr:0≤t.pr∧t.pr<(s.ps.length:Int)
  pc:0≤t.pc∧t.pc≤(k:Int)
  lf:0≤t.lf∧t.lf≤64
  ti:0≤t.ti∧t.ti≤(k:Int)
  l4:t.st=4→0≤t.lk∧t.lk<(s.ls.length:Int)
  un:t.un≠0#64→t.st=3∨t.st=4
theorem xB.mono {s:jy} {k k':Nat} {t:iQ} (h:xB s k t) (hk:k≤k'):xB s k' t:=⟨h.pr,by have:=h.pc;omega,h.lf,by have:=h.ti;omega,h.l4,h.un⟩
structure MI (k:Nat) (x:aG):Prop where
  ms:eu x.s=true
  ce:(x.cs.length:Int)=x.s.cr
  ci:CI x.ts.length k x.cs
  il:x.idle.length=x.cs.length
  ib:∀n∈x.idle,0≤n∧n≤(k:Int)
  ll:x.lk.length=x.s.ls.length
  li:∀l,l<x.lk.length→LI x.ts.length k (gL x l)
  gi:GI x.g
  tl:x.ts.length≤64
  vl:x.v.length=x.ts.length
  tb:∀t,t<x.ts.length→xB x.s k (gT x t)
  gn:x.gp.length=x.s.gs.length
  ev:x.ev.length≤k
  iq:∀c,c<x.cs.length→∀a,cA (qg x.cs c) a→(gT x a.toNat).un=0#64
theorem MI.mono {k k':Nat} {x:aG} (h:MI k x) (hk:k≤k'):MI k' x:=
  {h with ci:=h.ci.mono (Nat.le_refl _) hk,ib:=fun n hn=>by have:=h.ib n hn;omega,li:=fun l hl=>(h.li l hl).mono (Nat.le_refl _) hk,tb:=fun t ht=>(h.tb t ht).mono hk,ev:=Nat.le_trans h.ev hk}
theorem gq {x:aG} {t:Nat} (ht:t<x.ts.length) (y:iQ) (j:Nat):gT (dH x t y) j=if t=j then y else gT x j:=by
  unfold gT dH
  show (x.ts.set t y).getD j default=_
  rw [List.getD_eq_getElem?_getD,List.getElem?_set]
  by_cases e:t=j
  · rw [if_pos e,if_pos e,if_pos ht];rfl
  · rw [if_neg e,if_neg e,List.getD_eq_getElem?_getD]
theorem bA (x:aG) (t:Nat) (y:iQ):(dH x t y).ts.length=x.ts.length:=List.length_set ..
section
variable {k:Nat} {x:aG} (h:MI k x)
include h
theorem MI.kt (a t l n:Int):MI (k+1) (bn x a t l n):=
  have h':=h.mono (Nat.le_succ k)
  {h' with ev:=by show (x.ev++ [_]).length≤_;rw [List.length_append,List.length_singleton];have:=h.ev;omega}
theorem MI.upQ {t:Nat} (ht:t<x.ts.length) {y:iQ} (hy:xB x.s k y) (hu:∀c,c<x.cs.length→cA (qg x.cs c) t→y.un=0#64):MI k (dH x t y):=
  {h with
    iq:=fun c hc a ha=>by
      rw [gq ht];split
      · next e=>
        have h0:=(h.ci.wf.wf c hc).pos _ (eE ha).1;rw [(eE ha).2] at h0;exact hu c hc (by rw [show (t:Int)=a by omega];exact ha)
      · exact h.iq c hc a ha
    ci:=by rw [bA];exact h.ci
    li:=fun l hl=>by rw [bA];exact h.li l hl
    tl:=by rw [bA];exact h.tl
    vl:=by rw [bA];exact h.vl
    tb:=fun j hj=>by rw [bA] at hj;rw [gq ht];split;exact hy;exact h.tb j hj}
theorem MI.up {t:Nat} (ht:t<x.ts.length) {y:iQ} (hy:xB x.s k y) (hu:y.un=0#64∨y.un=(gT x t).un:=by first|exact .inl rfl|exact .inr rfl):MI k (dH x t y):=
  h.upQ ht hy (fun c hc hk=>by rcases hu with e|e;exact e;rw [e];exact h.iq c hc t hk)
theorem MI.FT {cs:List Qm} (hc:CI x.ts.length k cs) (hl:cs.length=x.cs.length) (hq:∀c,c<x.cs.length→∀a,cA (qg cs c) a→(∃d,d<x.cs.length∧cA (qg x.cs d) a)∨(gT x a.toNat).un=0#64):MI k {x with cs:=cs} :=
  {h with iq:=fun c hc a ha=>by {rcases hq c (by rw [←hl];exact hc) a ha with ⟨d,hd,q⟩|q;exact h.iq d hd a q;exact q},ci:=hc,ce:=by rw [show ({x with cs:=cs} :aG).cs.length=x.cs.length from hl];exact h.ce,il:=by rw [show ({x with cs:=cs} :aG).cs.length=x.cs.length from hl];exact h.il}
theorem MI.bt {l:Nat} {L:bf} (hL:LI x.ts.length k L):MI k (bt x l L):=
  {h with
    ll:=by show (x.lk.set l L).length=_;rw [List.length_set];exact h.ll
    li:=fun j hj=>by
      have RN:j<x.lk.length:=by rw [show (Go.Eng.bt x l L).lk.length=x.lk.length from List.length_set ..] at hj;exact hj
      show LI _ k ((x.lk.set l L).getD j default)
      rw [List.getD_eq_getElem?_getD,List.getElem?_set]
      by_cases e:l=j
      · rw [if_pos e,if_pos (by rw [e];exact RN)];exact hL
      · rw [if_neg e,←List.getD_eq_getElem?_getD];exact h.li j RN}
theorem MI.gr {g:Gr} (hg:GI g):MI k {x with g:=g} := {h with gi:=hg}
theorem MI.vv {v:List (BitVec 64)} (hv:v.length=x.v.length):MI k {x with v:=v} := {h with vl:=by show v.length=_;rw [hv];exact h.vl}
theorem MI.cut {t:Nat} (ht:t<x.ts.length):MI k (dO x t):=h.gr (h.gi.cut (by have:=h.tl;omega))
theorem MI.inc {t:Nat} (ht:t<x.ts.length):MI (k+1) (bO x t):=
  (h.mono (Nat.le_succ k)).up ht (by have q:=h.tb t ht;exact⟨q.pr,by have:=q.pc;show 0≤_+1∧_+1≤_;omega,q.lf,by have:=q.ti;show 0≤(gT x t).ti∧(gT x t).ti≤_;omega,q.l4,q.un⟩)
theorem MI.Ea {t:Nat} (ht:t<x.ts.length):MI (k+1) (ft x t):=by
  have q:=h.tb t ht;have h1:=h.up ht (y:=MB (gT x t)) ⟨q.pr,q.pc,q.lf,q.ti,fun e=>(by cases e),fun e=>absurd rfl e⟩;exact(h1.FT (cs:=dS x.cs (gT x t).co t (x.v.getD t 0#64) (gT x t).ef) (by rw [bA];exact h.ci.add _ _ _ _ om) (gC ..) (fun c hc a ha=>by rcases BS ha with q|rfl;exact .inl ⟨c,hc,q⟩;exact .inr (by rw [gq ht,if_pos (Int.toNat_natCast t).symm];rfl))).kt _ _ _ _
theorem MI.qut (t:Nat):MI k (eX x t):=by
  have h1:=h.FT (h.ci.rem t) (pg x.cs t) (fun c hc a ha=> .inl ⟨c,hc,(rX h.ci.wf hc ha).1⟩);refine h1.vv (v:=if bS x.cs t<x.cs.length then x.v.set t (wY x.cs t) else x.v) ?_
  split
  · exact List.length_set ..
  · rfl
theorem MI.qA (l:Nat) {t:Int} (ht:kI x.ts.length t):MI (k+3) (qA l x t):=by
  have h0:t.toNat<x.ts.length:=by unfold kI at ht;omega
  have h1:=h.kt 4 t l (ea (gL x l) t);have h2:=h1.inc (t:=t.toNat) h0;have h3:=h2.cut (t:=t.toNat) (by show _<(x.ts.set _ _).length;rw [List.length_set];exact h0);exact h3.Ea (t:=t.toNat) (by show _<(x.ts.set _ _).length;rw [List.length_set];exact h0)
end
theorem yR (l:Nat) (x:aG) (t:Int):(qA l x t).ts.length=x.ts.length:=by
  show ((x.ts.set _ _).set _ _).length=_;rw [List.length_set,List.length_set]
theorem vN (l:Nat):∀(to:List Int) (x:aG),(p7 l x to).ts.length=x.ts.length∧(p7 l x to).lk=x.lk∧(p7 l x to).s=x.s∧(p7 l x to).now=x.now
  | [],x=>⟨rfl,rfl,rfl,rfl⟩
  |t::to,x=>by
    have ih:=vN l to (qA l x t)
    unfold p7 at ih ⊢
    rw [List.foldl_cons];exact⟨ih.1.trans (yR l x t),ih.2⟩
theorem MI.p7 {l:Nat} :∀{to:List Int} {k:Nat} {x:aG},MI k x→(∀t∈to,kI x.ts.length t)→MI (k+3*to.length) (p7 l x to)
  | [],k,x,h,_=>h
  |t::to,k,x,h,ht=>by
    have h1:=MI.p7 (l:=l) (h.qA l (ht t (List.mem_cons_self ..))) (fun u hu=>by rw [yR];exact ht u (List.mem_cons_of_mem _ hu));rw [List.length_cons,show k+3*(to.length+1)=k+3+3*to.length by omega];exact h1
theorem MI.Yh {k:Nat} {x:aG} (h:MI k x) (l:Nat):MI k (BT x l):=h.gr h.gi.Yh
theorem db (l:Nat) (x:aG) (to:List Int):(dX x l to).ts.length=x.ts.length∧(dX x l to).lk=x.lk∧(dX x l to).s=x.s∧(dX x l to).now=x.now:=vN l to x
theorem MI.sX {k:Nat} {x:aG} (h:MI k x) (l:Nat) {to:List Int} (ht:∀t∈to,kI x.ts.length t) (h8:to.length≤8):MI (k+24) (dX x l to):=((h.p7 ht).Yh l).mono om
theorem cP (x:aG) (l:Nat) (L:bf):(bt x l L).lk.length=x.lk.length:=List.length_set ..
theorem MI.w8 {k:Nat} {x:aG} (h:MI k x) {l:Nat} (hl:l<x.lk.length):(gL x l).wt.length≤8:=(h.li l hl).w.w8
theorem MI.rC {k:Nat} {x:aG} (h:MI k x) {t:Nat} (ht:t<x.ts.length):MI (k+24) (rC x t):=by
  unfold Go.Eng.rC
  split
  · next e=>
    have hl:=(h.tb t ht).l4 e;have kN:(gT x t).lk.toNat<x.lk.length:=by rw [h.ll];omega
    have hL:=h.li _ kN;exact(h.bt (hL.lv t)).sX _ (hL.i.qk t) (Nat.le_trans (ra ..) (h.w8 kN))
  · exact h.mono om
theorem rP (x:aG) (t:Nat):(rC x t).ts.length=x.ts.length∧(rC x t).lk.length=x.lk.length∧(rC x t).s=x.s∧(rC x t).now=x.now:=by
  unfold rC;split
  · have e:=db (gT x t).lk.toNat (bt x (gT x t).lk.toNat (fY (gL x (gT x t).lk.toNat) t)) (qk (gL x (gT x t).lk.toNat) t)
    exact⟨e.1,by rw [e.2.1];exact cP ..,e.2.2⟩
  · exact⟨rfl,rfl,rfl,rfl⟩
theorem MI.sM {k:Nat} {x:aG} (h:MI k x) (t:Nat) {l:Nat} (hl:l<x.lk.length):MI (k+25) (sM t x l):=by
  unfold Go.Eng.sM
  split
  · have h1:=h.kt 12 t l 0
    have hL:=h1.li l hl;exact((h1.bt (hL.die t)).sX l (hL.i.uN t) (Nat.le_trans (FN ..) (h1.w8 hl))).mono om
  · exact h.mono om
theorem Cj (t:Nat) (x:aG) (l:Nat):(sM t x l).ts.length=x.ts.length∧(sM t x l).lk.length=x.lk.length∧(sM t x l).s=x.s∧(sM t x l).now=x.now:=by
  unfold sM;split
  · have e:=db l (bt (bn x 12 t l 0) l (sw (gL x l) t)) (uN (gL x l) t)
    exact⟨e.1,by rw [e.2.1];exact cP ..,e.2.2⟩
  · exact⟨rfl,rfl,rfl,rfl⟩
theorem lz (t:Nat) (x:aG) (n:Nat):qG t x (n+1)=sM t (qG t x n) n:=by unfold qG;rw [List.range_succ,List.foldl_append];rfl
theorem lA (t:Nat) (x:aG):∀n,(qG t x n).ts.length=x.ts.length∧(qG t x n).lk.length=x.lk.length∧(qG t x n).s=x.s∧(qG t x n).now=x.now
  |0=>⟨rfl,rfl,rfl,rfl⟩
  |n+1=>by
    rw [lz];have h1:=Cj t (qG t x n) n;have h2:=lA t x n;exact⟨h1.1.trans h2.1,h1.2.1.trans h2.2.1,h1.2.2.1.trans h2.2.2.1,h1.2.2.2.trans h2.2.2.2⟩
theorem MI.qG {k:Nat} {x:aG} (h:MI k x) (t:Nat):∀{n:Nat},n≤x.lk.length→MI (k+25*n) (qG t x n)
  |0,_=>h
  |n+1,hn=>by
    rw [lz];exact((h.qG t (n:=n) om).sM t (by rw [(lA t x n).2.1];omega)).mono om
theorem Ol {s:jy} (h:eu s=true):s.ls.length≤8:=by
  unfold eu at h;simp only [Bool.and_eq_true,decide_eq_true_eq] at h;omega
theorem MI.l8 {k:Nat} {x:aG} (h:MI k x):x.lk.length≤8:=by rw [h.ll];exact Ol h.ms
def zh (x:aG) (t:Nat):aG:=dO (rC x t) t
def DA (x:aG) (t:Nat):aG:=eX (qG t (zh x t) x.lk.length) t
theorem Aa (x:aG) (t:Nat):kG x t=bn (dH (DA x t) t (uh (gT (DA x t) t))) 11 t (-1) 0:=rfl
theorem rR (x:aG) (t:Nat):(zh x t).ts.length=x.ts.length∧(zh x t).lk.length=x.lk.length∧(zh x t).s=x.s∧(zh x t).now=x.now:=rP x t
theorem vn (x:aG) (t:Nat):(DA x t).ts.length=x.ts.length∧(DA x t).lk.length=x.lk.length∧(DA x t).s=x.s∧(DA x t).now=x.now:=by
  have h1:=lA t (zh x t) x.lk.length;have h2:=rR x t;exact⟨h1.1.trans h2.1,h1.2.1.trans h2.2.1,h1.2.2.1.trans h2.2.2.1,h1.2.2.2.trans h2.2.2.2⟩
theorem oP (x:aG) (t:Nat):(kG x t).ts.length=x.ts.length∧(kG x t).lk.length=x.lk.length∧(kG x t).s=x.s∧(kG x t).now=x.now:=by
  have h:=vn x t;exact⟨by rw [Aa];exact(bA ..).trans h.1,h.2⟩
theorem MI.zh {k:Nat} {x:aG} (h:MI k x) {t:Nat} (ht:t<x.ts.length):MI (k+24) (zh x t):=(h.rC ht).cut (by rw [(rP x t).1];exact ht)
theorem MI.DA {k:Nat} {x:aG} (h:MI k x) {t:Nat} (ht:t<x.ts.length):MI (k+224) (DA x t):=by
  have h8:=h.l8;exact(((h.zh ht).qG t (n:=x.lk.length) (by rw [(rR x t).2.1];exact Nat.le_refl _)).qut t).mono om
theorem xB.ded {s:jy} {k:Nat} {t:iQ} (q:xB s k t):xB s k (uh t):=⟨q.pr,q.pc,⟨Int.le_refl _,by show (0:Int)≤64;decide⟩,q.ti,fun e=>(by cases e),fun e=>absurd rfl e⟩
theorem MI.die {k:Nat} {x:aG} (h:MI k x) {t:Nat} (ht:t<x.ts.length):MI (k+225) (kG x t):=by
  have h2:=h.DA ht;have Wp:t<(Go.Eng.DA x t).ts.length:=by rw [(vn x t).1];exact ht
  rw [Aa];exact(h2.up Wp (h2.tb t Wp).ded).kt _ _ _ _
/-! ### weights -/
theorem xB.ef {s:jy} {k:Nat} {t:iQ} (q:xB s k t) (e:Int):xB s k {t with ef:=e} :=⟨q.pr,q.pc,q.lf,q.ti,q.l4,q.un⟩
theorem Lx (fT:List Int) (x:aG) (i:Nat):(uB fT x i).ts.length=x.ts.length∧(uB fT x i).lk=x.lk∧(uB fT x i).s=x.s∧(uB fT x i).now=x.now∧(uB fT x i).g=x.g∧(uB fT x i).ev=x.ev:=by
  unfold uB;split
  · exact⟨rfl,rfl,rfl,rfl,rfl,rfl⟩
  · exact⟨bA ..,rfl,rfl,rfl,rfl,rfl⟩
theorem MI.uB {k:Nat} {x:aG} (h:MI k x) (fT:List Int) {i:Nat} (hi:i<x.ts.length):MI k (uB fT x i):=by
  unfold Go.Eng.uB;split
  · exact h
  · exact(h.up hi ((h.tb i hi).ef _)).FT (by rw [bA];exact h.ci.wgh _ _) (FK ..) (fun c hc a ha=> .inl ⟨c,hc,Cg ha⟩)
theorem jP (fT:List Int) (x:aG) (n:Nat):uO fT x (n+1)=uB fT (uO fT x n) n:=by unfold uO;rw [List.range_succ,List.foldl_append];rfl
theorem oy (fT:List Int) (x:aG):∀n,(uO fT x n).ts.length=x.ts.length∧(uO fT x n).lk=x.lk∧(uO fT x n).s=x.s∧(uO fT x n).now=x.now∧(uO fT x n).g=x.g∧(uO fT x n).ev=x.ev
  |0=>⟨rfl,rfl,rfl,rfl,rfl,rfl⟩
  |n+1=>by
    rw [jP];have h1:=Lx fT (uO fT x n) n;have h2:=oy fT x n;exact⟨h1.1.trans h2.1,h1.2.1.trans h2.2.1,h1.2.2.1.trans h2.2.2.1,h1.2.2.2.1.trans h2.2.2.2.1,h1.2.2.2.2.1.trans h2.2.2.2.2.1,h1.2.2.2.2.2.trans h2.2.2.2.2.2⟩
theorem MI.uO {k:Nat} {x:aG} (h:MI k x) (fT:List Int):∀{n:Nat},n≤x.ts.length→MI k (uO fT x n)
  |0,_=>h
  |n+1,hn=>by
    rw [jP];exact(h.uO fT (n:=n) om).uB fT (by rw [(oy fT x n).1];omega)
theorem MI.Ml {k:Nat} {x:aG} (h:MI k x):MI k (kh x):=by
  have h1:=h.uO (zq (sU x) x.g) (n:=x.ts.length) (Nat.le_refl _);exact h1.FT (h1.ci.aco) (mu _) (fun c hc a ha=> .inl ⟨c,hc,Ba hc ha⟩)
theorem jF (x:aG):(kh x).ts.length=x.ts.length∧(kh x).lk=x.lk∧(kh x).s=x.s∧(kh x).now=x.now∧(kh x).g=x.g∧(kh x).ev=x.ev:=oy (zq (sU x) x.g) x x.ts.length
theorem pA (x:aG):(sU x).length=x.ts.length:=List.length_map ..
theorem Ms {x:aG} {i:Nat} (h:i<x.ts.length):(sU x).take (i+1)=(sU x).take i++ [AZ (x.ts.getD i default)] :=by
  rw [bR 0 (by rw [pA];exact h)]
  congr 2
  unfold sU;rw [List.getD_eq_getElem?_getD,List.getD_eq_getElem?_getD,List.getElem?_map,List.getElem?_eq_getElem h];rfl
def Hk {α:Type} [Inhabited α] (f:α→α) (l:List α):Nat→List α
  |0=>l
  |i+1=>(Hk f l i).set i (f (qg (Hk f l i) i))
theorem mO {α:Type} [Inhabited α] (f:α→α) (l:List α):∀i,(Hk f l i).length=l.length
  |0=>rfl
  |i+1=>by unfold Hk;rw [List.length_set];exact mO f l i
theorem Ak {α:Type} [Inhabited α] (f:α→α) (l:List α):∀(i j:Nat),i≤l.length→j<l.length→qg (Hk f l i) j=if j<i then f (qg l j) else qg l j
  |0,j,_,_=>rfl
  |i+1,j,hi,hj=>by
    unfold Hk
    rw [bN (by rw [mO];omega),Ak f l i i om om,if_neg (Nat.lt_irrefl i),Ak f l i j om hj]
    by_cases e:i=j
    · subst e;rw [if_pos rfl,if_pos (Nat.lt_succ_self i)]
    · rw [if_neg e]
      by_cases e2:j<i
      · rw [if_pos e2,if_pos om]
      · rw [if_neg e2,if_neg om]
theorem DK {α:Type} [Inhabited α] (f:α→α) (l:List α):Hk f l l.length=l.map f:=by
  refine List.ext_getElem (by rw [mO,List.length_map]) (fun j h1 h2=>?_);rw [mO] at h1;have:=Ak f l l.length j (Nat.le_refl _) h1;rw [if_pos h1,F2 (by rw [mO];exact h1),F2 h1] at this;rw [this,List.getElem_map]
theorem CI.stl {n k:Nat} {cs:List Qm} (h:CI n k cs):∀{i:Nat},i≤cs.length→CI n k (Hk fq cs i)
  |0,_=>h
  |i+1,hi=>by
    have h1:=h.stl (i:=i) om;have hl:i<(Hk fq cs i).length:=by rw [mO];omega
    unfold Hk
    exact h1.set hl (uI (h1.wf.wf i hl)) (by rw [(eL _).1]) (by rw [(eL _).2.2.1];exact h1.rn i hl)
/-! ### an op -/
theorem Rp {x:aG} {t:Nat} (ht:t<x.ts.length) (a:Int):gT (AE x t a) t=FJ (gT x t) a:=(gq ht _ t).trans (if_pos rfl)
theorem Px {x:aG} {t:Nat} (ht:t<x.ts.length) {a:Int} (h:(FJ (gT x t) a).lf=0):qw x t a=dH (AE x t a) t (s7 (FJ (gT x t) a)):=by
  unfold qw bO;rw [Rp ht];exact if_pos h
theorem VH {x:aG} {t:Nat} (ht:t<x.ts.length) {a:Int} (h:¬(FJ (gT x t) a).lf=0):qw x t a=AE x t a:=by
  unfold qw;rw [Rp ht];exact if_neg h
theorem LI.Yp {n k:Nat} {ls:List bf} (h:∀l,l<ls.length→LI n k (qg ls l)) (t:Int):∀l,l<(ls.map (fun L=>jk L t)).length→LI n (k+1) (qg (ls.map (fun L=>jk L t)) l):=fun l hl=>by
  rw [List.length_map] at hl
  unfold qg;rw [List.getD_eq_getElem?_getD,List.getElem?_map,List.getElem?_eq_getElem hl]
  have:=h l hl
  unfold qg at this;rw [List.getD_eq_getElem?_getD,List.getElem?_eq_getElem hl] at this
  exact this.xD t
/-! ### a lock is taken -/
theorem Gv {x:aG} {l:Nat} (hl:l<x.lk.length) (L:bf):gL (bt x l L) l=L:=by
  show (x.lk.set l L).getD l default=L
  rw [List.getD_eq_getElem?_getD,List.getElem?_set_self hl];rfl
def tq (x:aG) (t:Nat) (l:Nat) (o:cZ):Int:=yQ (gL x l) (gT x t).gr (decide (o.k=3))
section
variable {x:aG} {t l:Nat} {o:cZ} (gz:o.a=(l:Int))
include gz
theorem Ah:V9 x t o=tq x t l o:=by unfold V9 tq;rw [gz];rfl
theorem mf:X3 x t o=dx (gL x l) t (tq x t l o):=by unfold X3;rw [Ah gz,gz];rfl
theorem UH:tkC x t o=aR (rY x.g (s3 (gL x l))) t:=by unfold tkC;rw [gz];rfl
theorem u6 (h8:dx (gL x l) t (tq x t l o)=8) (h4:o.k≠4):nE x t o=if aR (rY x.g (s3 (gL x l))) t=true then 9 else jT (gL x l) t (tq x t l o):=by
  unfold nE Ru;rw [mf gz,UH gz,Ah gz,h8,decide_eq_true h4,gz];rfl
theorem Ai (h8:¬(dx (gL x l) t (tq x t l o)=8∧o.k≠4)):nE x t o=dx (gL x l) t (tq x t l o):=by
  unfold nE Ru;rw [mf gz,if_neg (by rw [Bool.and_eq_true,decide_eq_true_eq,decide_eq_true_eq];exact h8)]
theorem IZ (he:dx (gL x l) t (tq x t l o)=0):nK x t o=(bO (BT (bn (bt x l (cR (gL x l) t (tq x t l o))) 4 t l (ea (gL (bt x l (cR (gL x l) t (tq x t l o))) l) t)) l) t,false):=by
  unfold nK;rw [mf gz,if_pos he];unfold tk0;rw [Ah gz,gz];rfl
theorem LS (he:dx (gL x l) t (tq x t l o)≠0) (h2:nE x t o≠0):nK x t o=(bO (bn x 8 t l (nE x t o)) t,false):=by
  unfold nK;rw [mf gz,if_neg he,if_pos h2];unfold tk1;rw [gz]
theorem HF (he:dx (gL x l) t (tq x t l o)≠0) (h2:¬nE x t o≠0):nK x t o=(tk2 x t o,true):=by
  unfold nK;rw [mf gz,if_neg he,if_neg h2]
end
def lH (x:aG) (t l:Nat) (o:cZ):aG:=eX (bn (bt x l (dQ (gL x l) t (tq x t l o))) 6 t l 0) t
theorem yY {x:aG} {t l:Nat} {o:cZ} (gz:o.a=(l:Int)):tk2 x t o= {dH (lH x t l o) t (xd (gT x t) o x.now) with g:=CZ x.g t (s3 (gL (lH x t l o) l))} :=by
  unfold tk2;rw [Ah gz,gz];rfl
end Go.Eng
namespace Go.Eng
open Go Go.Proofs Go.RowKit
theorem JN {l:Nat} {x:aG} {to:List Int} {i:Nat} (h:i<to.length):p7 l x (to.take (i+1))=qA l (p7 l x (to.take i)) (to.getD i 0):=by
  unfold p7;rw [bR 0 h,List.foldl_append];rfl
def UnT (k:Nat) (L:List Int) (y u:Value) (mr:ab):Prop:=∃ad cap,u= .tuple #[.slice ad L.length cap,y]∧Sl fI 3 1 k L (.slice ad L.length cap) mr
theorem Gq {P:Program} {f:FuncId} {args:Array Value} {w:World} {n0 k l:Nat} {bs:List Nat} {ls:List bf} {mm:ab} {L:List Int} {y:Value} {x':bf} (h:km NO n0 bs ls mm) (hi:l<ls.length) (hm:Mem w mm)
    (hs:∀m,gV n0 (bs.getD l default) (ls.getD l default) ((ls.getD l default).wt.map eW) m→Mem w m→aD P f args w (ec m (UnD n0 (bs.getD l default) k L y x') w)):
    aD P f args w (ec mm (fun u m'=>∃mr mx,UnT k L y u mr∧m'=mr++mx∧km NO n0 bs (ls.set l x') mx) w):=
  h.aaF Fa hi hm (fun m hr hM=>(hs m hr hM).mono (fun u w' hU=>hU.imp (fun u m' ⟨v,mr,mx,h1,h2,h3,h4⟩=>by
    obtain ⟨ad,cap,rfl⟩:=h2.form;exact⟨mr,mx,⟨ad,cap,h1,h2⟩,h3,h4⟩)))
theorem mW {n0 b k l k0 n cap:Nat} {ad:Option Addr} {to:List Int} {s:dm} {x:aG} {m mr:ab} (w:World) (h:eF n0 b s x m) (hI:MI k x) (hk:k≤900000000000) (hl:l<x.lk.length) (hto:∀t∈to,kI x.ts.length t) (h8:to.length≤8) (hn:n=to.length) (ew:Sl fI 3 1 k0 to (.slice ad n cap) mr) (cm:n0≤w.heap.size) (hM:Mem w (m++(mr++ []))):aD Tryz.prog 62 #[.pointer (some ⟨b,0,none⟩),.int .i64 (l:Nat),.slice ad n cap] w (ec m (fun u m'=>u= .tuple #[]∧eF n0 b s (dX x l to) m') w):=by
 have hmb:=h.b;refine aD.ao Tryz.func62 rfl Tryz.ntmps62 rfl (m++(mr++ [])) ((eO m)) hM ?_;refine J7 ?_;refine af.aP (α:=Nat×aG×ab) (fun ⟨i,y,mi⟩=>[(6,.int .i64 (i:Nat))]) [(0,_),(1,_),(2,_)] (fun ⟨i,y,mi⟩=>mi++(mr++ [])) (fun ⟨i,y,mi⟩=>i≤to.length∧y=p7 l x (to.take i)∧eF n0 b s y mi∧de m w.heap.size mi) (fun ⟨i,y,mi⟩=>to.length-i) ((0,x,m)) cF aN ⟨Nat.zero_le _,rfl,h,ay _ _⟩ ?_;rintro ⟨i,y,mi⟩ ⟨hi,hy,ZN,hni⟩;change af _ _ _ _ _ _ _ (mi++(mr++ [])) _ _ _;have Vh:MI (k+3*(to.take i).length) y:=(by rw [hy];exact hI.p7 (fun t ht=>hto t (List.mem_of_mem_take ht)));have Ww:=vN l (to.take i) x;rw [←hy] at Ww;have Nz:l<y.lk.length:=(by rw [Ww.2.1];exact hl);have IC:=List.length_take_le i to;have uz:=Vh.tl;have AF:=Vh.ev;refine J9 ?_;refine af.ak rfl (fun h1=>?_) (fun h1=>?_)
 ·have Db:=hto _ (List.mem_of_getElem? (aO 0 (show i<to.length by omega)));obtain ⟨t,yp⟩:∃t:Nat,to.getD i 0=(t:Nat):=(by unfold kI at Db;exact⟨(to.getD i 0).toNat,by omega⟩);have ht:t<y.ts.length:=(by rw [Ww.1];rw [yp] at Db;unfold kI at Db;omega);have Vm:0≤(y.ts.getD t default).pc∧(y.ts.getD t default).pc≤((k+3*(to.take i).length:Nat):Int):=(Vh.tb t ht).pc;have x8:=(Vh.li l Nz).hl;refine J9 ?_;refine LM.rd (bd aB ir Tryz.isAgg3 rfl rfl (by first|exact bI om|exact aO 0 cK) (by rfl)) ?_;refine c9 ?_;rw [yp];refine cE Tryz.func101 rfl (fun w hm hc hg=>vD l (t:Nat) w ZN Nz om (hm.pick mi)) ?_;refine cU Tryz.func55 rfl (fun w hm hc hg=>cc 4 (t:Nat) (l:Nat) (ea (gL y l) t) w ZN om (Nat.le_trans cm hc.size) (hm.pick mi)) ZN.bE (au hni) ?_;rintro u25 m25 ⟨rfl,sz⟩ JX;obtain ⟨P,hP,sz⟩:=sz;change m25=aA b s y.now P at hP;subst hP;obtain ⟨ig,ii,il,ip,ix,it,iv,ie,ic,iq⟩:=bP (ar hni JX);have cu:Sl Ix 66 12 n0 y.ts (.slice P.EC P.nt P.ct) P.mt:=sz.st;have dN:P.nt=y.ts.length:=sz.nt;have VB:Sl fU 41 1 n0 y.g (.slice P.ax P.nx P.cx) P.mx:=sz.sx;have QA:=sz.nx;have wb:y.g.length=64:=sz.gl;refine c9 ?_;refine LM.rd (aE (j:=4) aB ir Tryz.isAgg3 rfl rfl (by first|exact bI om|exact aO default cK) rfl (by rfl)) ?_;refine J3 ?_;refine LM.fR (s7 (gT y t)) (j:=4) aB ir Tryz.sizeOf3 rfl rfl rfl (by first|exact bI om|exact aO default cK) rfl (by decide) (by rfl) rfl (au aB) (fun jh cG cY=>?_)
  try rw [List.set_set] at cG
  have HE:=cn cY aB;refine gy ?_;refine LM.fR (0#64) (j:=0) aB ir Tryz.sizeOf41 rfl rfl rfl (by first|exact bI om|exact aO 0#64 cK) rfl (by decide) (by rfl) rfl (au aB) (fun j5 e9 ik=>?_)
  try rw [List.set_set] at e9
  have IG:=cn ik aB;refine J3 ?_;have xy:eF n0 b s (dO (bO (bn y 4 t l (ea (gL y l) t)) t) t) (aA b s y.now {P with mt:=jh,mx:=j5}):=⟨_,rfl,{sz with nt:=(by show P.nt=(y.ts.set t _).length;rw [List.length_set];exact dN),st:=cG,gl:=(by show (y.g.set t _).length=64;rw [List.length_set];exact wb),sx:=e9}⟩
  refine J2 ?_;refine cU Tryz.func60 rfl (fun w hm hc hg=>qH t w xy (by show t<(y.ts.set _ _).length;rw [List.length_set];exact ht) (by show y.v.length=(y.ts.set _ _).length;rw [List.length_set];exact Vh.vl) (by show (y.ev++ [_]).length≤_;rw [List.length_append,List.length_singleton];omega) (Nat.le_trans cm hc.size) (hm.pick _)) xy.bE (au aQ) ?_;rintro u48 m48 ⟨rfl,V5⟩ LU;refine J8 ?_;refine aK (i+1,qA l y (t:Nat),m48) ?_ ?_
  · exact⟨by omega,by rw [JN om,←hy,yp],V5,ar aQ LU⟩
  · (dsimp only;omega)
 refine J8 ?_;refine cU Tryz.func102 rfl (fun w hm hc hg=>vB l w ZN Nz (by have:=(Vh.li l Nz).hl;omega) (Vh.w8 Nz) (hm.pick mi)) ZN.bE (au hni) ?_;rintro u51 Xm ⟨rfl,VP⟩ AQ;refine J1 ?_;refine QM.leave (.inr rfl) [] Tryz.results62 rfl ?_;intro w' aj aa az;have er:i=to.length:=om;subst er;rw [List.take_length] at hy;exact aY (m':=Xm) ⟨rfl,(by rw [hy] at VP;exact VP)⟩ aj aN aa (ar hni AQ)
set_option maxHeartbeats 2000000 in
theorem qF {n0 b k t:Nat} {s:dm} {x:aG} {m:ab} (w:World) (h:eF n0 b s x m) (hI:MI k x) (hk:k≤800000000000) (ht:t<x.ts.length) (cm:n0≤w.heap.size) (hM:Mem w m):aD Tryz.prog 32 #[.pointer (some ⟨b,0,none⟩),.int .i64 (t:Nat)] w (ec m (fun u m'=>u= .tuple #[]∧eF n0 b s (kG x t) m') w):=by
 obtain ⟨P,rfl,h⟩:=h;have dN:=h.nt;have cu:=h.st;have xz:=h.nl;have tU:=h.bl;have jt:=h.sl;obtain ⟨ig,ii,il,ip,ix,it,iv,ie,ic,iq⟩:=bP (ay (aA b s x.now P) w.heap.size);have uz:=hI.tl;refine aD.ao Tryz.func32 rfl Tryz.ntmps32 rfl (aA b s x.now P++ []) ((eO (aA b s x.now P))) aM ?_;refine cj ?_;refine LM.rd (aE (j:=6) aB ir Tryz.isAgg3 rfl rfl (by first|exact bI om|exact aO default cK) rfl (by rfl)) ?_;refine J3 ?_;refine af.bC (α:=tY) (fun P0=>[]) [(0,_),(1,_)] (fun P0=>aA b s x.now P0++ []) (fun P0=>gm n0 b s (rC x t) P0∧de (aA b s x.now P) w.heap.size (aA b s x.now P0)) cF ?_ ?_
 ·refine af.ak rfl (fun h1=>?_) (fun h1=>?_)
  ·have hl4:=(hI.tb t ht).l4 h1;obtain ⟨l,nW⟩:∃l:Nat,(x.ts.getD t default).lk=(l:Nat):=⟨(gT x t).lk.toNat,(Int.toNat_of_nonneg hl4.1).symm⟩;have iF:l<x.lk.length:=(by rw [hI.ll];have:(gT x t).lk=(l:Nat):=nW;omega);have hL:=hI.li l iF;have hLh:=hL.hl;have hdi:rC x t=dX (bt x l (fY (gL x l) t)) l (qk (gL x l) t):=(by unfold rC;rw [if_pos h1,show (gT x t).lk.toNat=l by rw [show (gT x t).lk=(l:Nat) from nW];rfl])
   refine J9 ?_;refine LM.rd (aE (j:=8) aB ir Tryz.isAgg3 rfl rfl (by first|exact bI om|exact aO default cK) rfl (by rfl)) ?_;refine J5 ?_;rw [nW];refine J6 ?_;refine LM.rd (bd aB ir Tryz.isAgg54 rfl rfl (by first|exact bI om|exact aO default cK) (by rfl)) ?_;refine J1 ?_;refine cU Tryz.func61 rfl (fun w hm hc hg=>Gq h.sq iF (hm.pick P.mq) (fun m hr hM=>sK (k:=n0) (t:Nat) w hL.w hr (Nat.le_trans cm hc.size) (by have:=hL.hl;show (gL x l).ho.length≤900;omega) (Nat.le_trans cm hc.size) hM)) (h.sq.bE Fa) (au iq) ?_;rintro u36 VZ ⟨mr,aaw,⟨dT,T7,rfl,ew⟩,rfl,Co⟩ La;refine LM.assoc ?_;have i36:de (aA b s x.now P) w.heap.size aaw:=fun p hp=>ar iq La p (List.mem_append_right _ hp);have xS:eF n0 b s (bt x l (fY (gL x l) t)) (aA b s x.now {P with mq:=aaw}):=⟨_,rfl,{h with nl:=(by show P.nl=(x.lk.set _ _).length;rw [List.length_set];exact xz),bl:=(by show P.bs.length=(x.lk.set _ _).length;rw [List.length_set];exact tU),sq:=Co}⟩;have pC:=hI.bt (l:=l) (hL.lv t);refine c9 ?_;refine cU Tryz.func62 rfl (fun w hm hc hg=>mW w xS pC om (by rw [cP];exact iF) (hL.i.qk t) (Nat.le_trans (ra ..) (hI.w8 iF)) rfl ew (Nat.le_trans cm hc.size) (sm hm)) xS.bE (au aQ) ?_;rintro u42 NV ⟨rfl,h42⟩ qh;rw [←hdi] at h42;obtain ⟨P2,DM,h42⟩:=h42;rw [(rP x t).2.2.2] at DM;subst DM;refine J1 ?_;refine mK (P2) ?_
   · exact⟨h42,ar aQ qh⟩
  refine J1 ?_;refine mK (P) ?_
  · exact⟨by rw [show rC x t=x from if_neg h1];exact h,ay _ _⟩
 rintro P0 ⟨h0,agF⟩;change QM _ _ _ _ _ (aA b s x.now P0++ []) _ _ _
 clear ig ii il ip ix it iv ie ic iq;have hd0:=rP x t;obtain ⟨ig,ii,il,ip,ix,it,iv,ie,ic,iq⟩:=bP agF;have VB:=h0.sx;have QA:=h0.nx;have wb:=h0.gl
 refine cN ?_;refine LM.fR (0#64) (j:=0) aB ir Tryz.sizeOf41 rfl rfl rfl (by first|exact bI om|exact aO 0#64 cK) rfl (by decide) (by rfl) rfl (au aB) (fun jh cG cY=>?_)
 try rw [List.set_set] at cG
 have HE:=cn cY aB;refine J9 ?_;refine af.aP (α:=Nat×aG×tY) (fun ⟨i,y,Q⟩=>[(7,.int .i64 (i:Nat))]) [(0,_),(1,_)] (fun ⟨i,y,Q⟩=>aA b s x.now Q++ []) (fun ⟨i,y,Q⟩=>i≤x.lk.length∧y=qG t (zh x t) i∧gm n0 b s y Q∧de (aA b s x.now P) w.heap.size (aA b s x.now Q)) (fun ⟨i,y,Q⟩=>x.lk.length-i) ((0,zh x t,{P0 with mx:=jh})) cF aN ⟨Nat.zero_le _,rfl,{h0 with gl:=(by show ((rC x t).g.set _ _).length=64;rw [List.length_set];exact wb),sx:=cG},aQ⟩ ?_;rintro ⟨i,y,Q⟩ ⟨hi,hy,hQ,yD⟩;change af _ _ _ _ _ _ _ (aA b s x.now Q++ []) _ _ _;have Wu:=rR x t;have iR:MI (k+24+25*i) y:=(by rw [hy];exact(hI.zh ht).qG t (by rw [Wu.2.1];exact hi));have o8:=lA t (zh x t) i;rw [←hy] at o8;have VY:y.lk.length=x.lk.length:=o8.2.1.trans Wu.2.1;have ss:y.ts.length=x.ts.length:=o8.1.trans Wu.1;have lY:y.now=x.now:=o8.2.2.2.trans Wu.2.2.2;clear ig ii il ip ix it iv ie ic iq;obtain ⟨ig,ii,il,ip,ix,it,iv,ie,ic,iq⟩:=bP yD;have al5:=hQ.nl;have amp:=hQ.bl;have Hm:=hQ.sl;have NB:=hI.l8;refine cN ?_;refine af.ak rfl (fun h2=>?_) (fun h2=>?_)
 ·refine cN ?_;refine LM.rd (bd aB ir Tryz.isAgg54 rfl rfl (by first|exact bI om|exact aO default cK) (by rfl)) ?_;refine J1 ?_;refine cE Tryz.func12 rfl (fun w hm hc hg=>hQ.sq.read (i:=i) om (hm.pick Q.mq) (fun m hr hM=>(show aD _ _ _ _ (fun u w'=>u= .bool (bu (gL y i) (t:Nat))∧Ext _ w') from lR (t:Nat) w hr hM))) ?_;refine J2 ?_;refine af.aJ rfl (fun h3=>?_) (fun h3=>?_)
  ·have er:i<y.lk.length:=om;have hLi:=iR.li i er;have hLh:=hLi.hl;have qd:eF n0 b s y (aA b s x.now Q):=hQ.m;have hd1:sM t y i=dX (bt (bn y 12 t i 0) i (sw (gL y i) t)) i (uN (gL y i) t):=if_pos h3;have Tx:=iR.ev;refine J5 ?_;refine cU Tryz.func55 rfl (fun w hm hc hg=>cc 12 (t:Nat) (i:Nat) 0 w qd om (Nat.le_trans cm hc.size) (hm.pick _)) qd.bE (au yD) ?_;rintro u73 m73 ⟨rfl,QX⟩ Ym;obtain ⟨P1,kZ,QX⟩:=QX;rw [show (bn y 12 t i 0).now=x.now from lY] at kZ;subst kZ;clear ig ii il ip ix it iv ie ic iq;obtain ⟨ig,ii,il,ip,ix,it,iv,ie,ic,iq⟩:=bP (ar yD Ym);have ael:P1.nl=y.lk.length:=QX.nl;have aei:P1.bs.length=y.lk.length:=QX.bl;have am0:=QX.sl;have pC:=iR.kt 12 t i 0;refine cj ?_;refine LM.rd (bd aB ir Tryz.isAgg54 rfl rfl (by first|exact bI om|exact aO default cK) (by rfl)) ?_;refine J1 ?_;refine cU Tryz.func71 rfl (fun w hm hc hg=>Gq QX.sq er (hm.pick P1.mq) (fun m hr hM=>DP (k:=n0) (t:Nat) w hLi.w hr (Nat.le_trans cm hc.size) (by show (gL y i).ho.length≤900;omega) (Nat.le_trans cm hc.size) hM)) (QX.sq.bE Fa) (au iq) ?_;rintro u83 m83 ⟨mr,Z9,⟨dT,T7,rfl,ew⟩,rfl,Co⟩ I0;refine LM.assoc ?_;have i83:de (aA b s x.now P) w.heap.size Z9:=fun p hp=>ar iq I0 p (List.mem_append_right _ hp);have xy:eF n0 b s (bt (bn y 12 t i 0) i (sw (gL y i) t)) (aA b s x.now {P1 with mq:=Z9}):=gm.m (hn:=lY) {QX with nl:=(by show _=(y.lk.set _ _).length;rw [List.length_set];exact ael),bl:=(by show _=(y.lk.set _ _).length;rw [List.length_set];exact aei),sq:=Co};have q8:=pC.bt (l:=i) (hLi.mono (Nat.le_refl _) (Nat.le_succ _) |>.die t);refine c9 ?_;refine cU Tryz.func62 rfl (fun w hm hc hg=>mW w xy q8 om (by rw [cP];exact er) (hLi.i.uN t) (Nat.le_trans (FN ..) (iR.w8 er)) rfl ew (Nat.le_trans cm hc.size) (sm hm)) xy.bE (au aQ) ?_;rintro u89 m89 ⟨rfl,h89⟩ Bv;rw [←hd1] at h89;obtain ⟨P2,DM,h89⟩:=h89;rw [(Cj t y i).2.2.2,lY] at DM;subst DM;refine J8 ?_;refine aK (i+1,sM t y i,P2) ?_ ?_
   · exact⟨by omega,by rw [lz,←hy],h89,ar aQ Bv⟩
   · (dsimp only;omega)
  refine J8 ?_;refine aK (i+1,sM t y i,Q) ?_ ?_
  · exact⟨by omega,by rw [lz,←hy],by rw [show sM t y i=y from if_neg (by simpa [bu] using h3)];exact hQ,yD⟩
  · (dsimp only;omega)
 have er:i=x.lk.length:=om;subst er;have qd:eF n0 b s y (aA b s x.now Q):=hQ.m;refine J9 ?_;refine cU Tryz.func72 rfl (fun w hm hc hg=>qz t w qd (by rw [iR.vl,ss];exact ht) (Nat.le_trans cm hc.size) (hm.pick _)) qd.bE (au yD) ?_;rintro u92 m92 ⟨rfl,Q9⟩ Lt;rw [hy] at Q9;change eF n0 b s (DA x t) m92 at Q9;have hz:=vn x t;have ri:=hI.DA ht;obtain ⟨z,hzz⟩:∃z,z=DA x t:=⟨_,rfl⟩;have Wu:kG x t=bn (dH z t (uh (gT z t))) 11 t (-1) 0:=(by rw [hzz];rfl);rw [←hzz] at Q9 hz ri;obtain ⟨P1,kZ,Q9⟩:=Q9;rw [hz.2.2.2] at kZ;subst kZ;clear ig ii il ip ix it iv ie ic iq;obtain ⟨ig,ii,il,ip,ix,it,iv,ie,ic,iq⟩:=bP (ar yD Lt);have xT:=Q9.nt;have Dj:=Q9.st;have Cq:t<z.ts.length:=(by rw [hz.1];exact ht);have alT:=ri.ev;refine c9 ?_;refine LM.fR ({gT z t with st:=5}) (j:=6) aB ir Tryz.sizeOf3 rfl rfl rfl (by first|exact bI om|exact aO default cK) rfl (by decide) (by rfl) rfl (au aB) (fun j5 e9 ik=>?_)
 try rw [List.set_set] at e9
 have IG:=cn ik aB;refine c9 ?_;refine LM.fR ({gT z t with st:=5,un:=0#64}) (j:=7) aB ir Tryz.sizeOf41 rfl rfl rfl (by first|exact bI om|exact aO default cK) rfl (by decide) (by rfl) rfl (au aB) (fun tN nX sY=>?_)
 try rw [List.set_set] at nX
 have UC:=cn sY aB;refine c9 ?_;refine LM.fR ({gT z t with st:=5,un:=0#64,lk:= -1}) (j:=8) aB ir Tryz.sizeOf3 rfl rfl rfl (by first|exact bI om|exact aO default cK) rfl (by decide) (by rfl) rfl (au aB) (fun ms4 Ht I4=>?_)
 try rw [List.set_set] at Ht
 have ii4:=cn I4 aB;refine c9 ?_;refine LM.fR (uh (gT z t)) (j:=5) aB ir Tryz.sizeOf3 rfl rfl rfl (by first|exact bI om|exact aO default cK) rfl (by decide) (by rfl) rfl (au aB) (fun ms5 LO SA=>?_)
 try rw [List.set_set] at LO
 have ii5:=cn SA aB;refine J3 ?_;have Mo:eF n0 b s (dH z t (uh (gT z t))) (aA b s x.now {P1 with mt:=ms5}):=gm.m (hn:=hz.2.2.2) {Q9 with nt:=(by rw [bA];exact xT),st:=LO};refine J2 ?_;refine cU Tryz.func55 rfl (fun w hm hc hg=>cc 11 (t:Nat) (-1) 0 w Mo (by show z.ev.length≤_;omega) (Nat.le_trans cm hc.size) (hm.pick _)) Mo.bE (au aQ) ?_;rintro anB agx ⟨rfl,acw⟩ UG;refine J1 ?_;refine QM.leave (.inr rfl) [] Tryz.results32 rfl ?_;intro w' aj aa az;exact aY (m':=agx) ⟨rfl,by rw [Wu];exact acw⟩ aj aN aa (ar aQ UG)
structure C8 (n0 b:Nat) (qs:List Qm) (ad:Option Addr) (n cap:Nat) (bs:List Nat) (ms:ab) (m:ab):Prop where
  wf:su qs
  nl:n=qs.length
  sl:Sl fP 122 1 n0 bs (.slice ad n cap) ms
  hm:∃mm,m=gO b ad n cap::(ms++mm)∧km iA n0 bs qs mm
  hb:n0≤b
section
variable {n0 b n cap:Nat} {qs:List Qm} {ad:Option Addr} {bs:List Nat} {m ms:ab}
theorem RcM.x (h:RcM n0 b qs m):∃ad n cap bs ms,C8 n0 b qs ad n cap bs ms m:=by
  obtain ⟨hw,ad,n,cap,ms,mm,bs,rfl,hn,hs,hq,hb⟩:=h;exact⟨ad,n,cap,bs,ms,hw,hn,hs,⟨mm,rfl,hq⟩,hb⟩
theorem C8.c (h:C8 n0 b qs ad n cap bs ms m):RcM n0 b qs m:=by
  obtain ⟨hw,hn,hs,⟨mm,rfl,hq⟩,hb⟩:=h;exact⟨hw,ad,n,cap,ms,mm,bs,rfl,hn,hs,hq,hb⟩
theorem C8.len (h:C8 n0 b qs ad n cap bs ms m):bs.length=qs.length:=by obtain ⟨hw,hn,hs,⟨mm,rfl,hq⟩,hb⟩:=h;exact hq.len
theorem C8.ld (h:C8 n0 b qs ad n cap bs ms m) {w:World} (hM:Mem w m):Mem w (gO b ad n cap::(ms++ [])):=by
  obtain ⟨hw,hn,hs,⟨mm,rfl,hq⟩,hb⟩:=h;refine hM.sub (List.Sublist.cons_cons _ ?_);rw [List.append_nil];exact List.sublist_append_left _ _
theorem C8.mm (h:C8 n0 b qs ad n cap bs ms m) {i:Nat} (hi:i<qs.length):∃(nJ:Option Addr) (n2 eP:Nat) (NH:ab),n2=(qg qs i).l.length∧mT (qg qs i)∧Sl x7 137 3 n0 (qg qs i).l (.slice nJ n2 eP) NH∧∀w,Mem w m→Mem w (eb (bs.getD i default) (qg qs i).g (qg qs i).fl nJ n2 eP (qg qs i).cur (qg qs i).c4::NH):=by
  obtain ⟨hw,hn,hs,⟨mm,rfl,hq⟩,hb⟩:=h;obtain ⟨nJ,n2,eP,NH,h1,h2,h3,h4⟩:=hq.CH hi;exact⟨nJ,n2,eP,NH,h1,h2,h3,fun w hM=>h4 w (hM.sub ((List.sublist_append_right ms mm).cons _))⟩
theorem C8.read {P:Program} {f:FuncId} {args:Array Value} {w:World} {Q:Value→World→Prop} {i:Nat} (h:C8 n0 b qs ad n cap bs ms m) (hi:i<qs.length) (hM:Mem w m)
    (hs:∀m,iA n0 (bs.getD i default) (qg qs i) m→Mem w m→aD P f args w Q):aD P f args w Q:=by
  obtain ⟨hw,hn,VO,⟨mm,rfl,hq⟩,hb⟩:=h;exact hq.read hi (hM.sub ((List.sublist_append_right ms mm).cons _)) hs
theorem C8.Bp {P:Program} {f:FuncId} {args:Array Value} {w:World} {u0:Value} {x':Qm} {i:Nat} (h:C8 n0 b qs ad n cap bs ms m) (hi:i<qs.length) (hM:Mem w m) (QY:su (qs.set i x'))
    (hs:∀m,iA n0 (bs.getD i default) (qg qs i) m→Mem w m→aD P f args w (ec m (fun u m'=>u=u0∧iA n0 (bs.getD i default) x' m') w)):
    aD P f args w (ec m (fun u m'=>u=u0∧C8 n0 b (qs.set i x') ad n cap bs ms m') w):=by
  obtain ⟨hw,hn,VO,⟨mm,rfl,hq⟩,hb⟩:=h;have hp:((gO b ad n cap::(ms++mm)):ab).Perm (mm++(gO b ad n cap::ms)):=(List.perm_append_comm (l₁:=gO b ad n cap::ms) (l₂:=mm))
  have hMm:=hM.perm hp;refine (hq.Bp Io hi (hM.sub ((List.sublist_append_right ms mm).cons _)) hs).mono (fun u w' hU=>?_);obtain ⟨m',⟨hu,hr⟩,T1,hM',hC,_⟩:=xm (G:=top) (S:=fun b'=>∃q∈(gO b ad n cap::(ms++mm):ab),q.1=b') (w0:=w) hMm (hq.bE Io) (fun p QN _=>⟨p,List.mem_cons_of_mem _ (List.mem_append_right _ QN),rfl⟩) (cM.refl _ _) trivial hU;refine ⟨hC,gO b ad n cap::(ms++m'),⟨hu,QY,by rw [List.length_set];exact hn,VO,⟨m',rfl,hr⟩,hb⟩,hM'.perm (List.perm_append_comm (l₁:=gO b ad n cap::ms) (l₂:=m')).symm,fun p QN=>?_⟩;rcases List.mem_cons.1 QN with rfl|QN
  · exact .inr ⟨_,List.mem_cons_self ..,rfl⟩
  rcases List.mem_append.1 QN with QN|QN
  · exact .inr ⟨p,List.mem_cons_of_mem _ (List.mem_append_left _ QN),rfl⟩
  · rcases T1 p QN with e|⟨q,hq,e⟩
    · exact .inl e
    · exact .inr ⟨q,List.mem_cons_of_mem _ (List.mem_append_right _ hq),e⟩
end
set_option maxHeartbeats 2000000 in
theorem j2 {n0 b k:Nat} {s:dm} {x:aG} {m:ab} (w:World) (h:eF n0 b s x m) (hI:MI k x) (cm:n0≤w.heap.size) (hM:Mem w m):aD Tryz.prog 31 #[.pointer (some ⟨b,0,none⟩)] w (ec m (fun u m'=>u= .tuple #[]∧eF n0 b s (kh x) m') w):=by
 obtain ⟨P,rfl,h⟩:=h;have dN:=h.nt;have cu:=h.st;have uz:=hI.tl;refine aD.ao Tryz.func31 rfl Tryz.ntmps31 rfl (aA b s x.now P++ []) ((eO (aA b s x.now P))) aM ?_;refine cN ?_;refine af.aP (α:=Nat×Option Addr×Nat×Nat×ab) (fun ⟨i,fp,no,cH,mo⟩=>[(2,.slice fp no cH),(3,.int .i64 (i:Nat))]) [(0,_)] (fun ⟨i,fp,no,cH,mo⟩=>aA b s x.now P++(mo++ [])) (fun ⟨i,fp,no,cH,mo⟩=>i≤x.ts.length∧no=i∧Sl fI 3 1 w.heap.size ((sU x).take i) (.slice fp no cH) mo) (fun ⟨i,fp,no,cH,mo⟩=>x.ts.length-i) ((0,none,0,0,[])) cF aN ⟨Nat.zero_le _,rfl,.nil _ _ _ _⟩ ?_;rintro ⟨i,fp,no,cH,mo⟩ ⟨hi,gZ,mj⟩;change af _ _ _ _ _ _ _ (aA b s x.now P++(mo++ [])) _ _ _;have ioo:de (aA b s x.now P) w.heap.size mo:=(fun p hp=> .inl (mj.ge p hp));have ZR:((sU x).take i).length=i:=(by rw [List.length_take,pA];omega)
 refine cN ?_;refine af.ak rfl (fun h1=>?_) (fun h1=>?_)
 ·refine gy ?_;refine LM.rd (aE (j:=9) aB ir Tryz.isAgg3 rfl rfl (by first|exact bI om|exact aO default cK) rfl (by rfl)) ?_;refine gy ?_;refine LM.rd (aE (j:=6) aB ir Tryz.isAgg3 rfl rfl (by first|exact bI om|exact aO default cK) rfl (by rfl)) ?_;refine J3 ?_;refine af.bC (α:=Unit) (fun ⟨⟩=>[(4,.int .i64 (AZ (x.ts.getD i default)))]) [(0,_),(2,_),(3,_)] (fun ⟨⟩=>aA b s x.now P++(mo++ [])) (fun ⟨⟩=>True) cF ?_ ?_
  ·refine af.ak rfl (fun h2=>?_) (fun h2=>?_)
   ·refine J3 ?_;refine QM.yC (⟨⟩) ⟨(by first|exact lk rfl (congrArg (Value.int .i64) (show _=AZ _ from (if_pos aB).symm))|exact lk rfl (congrArg (Value.int .i64) (show _=AZ _ from (if_neg aB).symm))),rfl,rfl,rfl,trivial⟩ aN ?_
    · trivial
   refine J1 ?_;refine QM.yC (⟨⟩) ⟨(by first|exact lk rfl (congrArg (Value.int .i64) (show _=AZ _ from (if_pos aB).symm))|exact lk rfl (congrArg (Value.int .i64) (show _=AZ _ from (if_neg aB).symm))),rfl,rfl,rfl,trivial⟩ aN ?_
   · trivial
  rintro ⟨⟩ _;change QM _ _ _ _ _ (aA b s x.now P++(mo++ [])) _ _ _;refine J4 ?_;refine LM.single Tryz.underlying26 Tryz.sizeOf3 Tryz.zeroValue3 rfl rfl rfl rfl rfl (fun b37 YT=>?_);refine LM.app (a:=AZ (x.ts.getD i default)) Tryz.underlying26 Tryz.typeInfo3 rfl rfl rfl rfl rfl rfl rfl aB (by rfl) ir (by intro _ u hu;simp [fI] at hu;(repeat (first|(rcases hu with rfl|hu)|subst hu|rfl))) (by first|exact Nat.le_refl _|omega) (au aB) (by first|omega|(unfold maxLen;omega)) (by simp only [Tryz.t3];omega) (fun Ij RZ yO VJ TU J0 tD=>?_);have aeR:=ar aB tD;refine J9 ?_;refine aK (i+1,Ij,RZ,yO,VJ) ?_ ?_
  · exact⟨by omega,by omega,by rw [Ms om];exact J0⟩
  · (dsimp only;omega)
 refine J7 ?_;have er:i=x.ts.length:=om;subst er;rw [List.take_of_length_le (by rw [pA];exact Nat.le_refl _)] at mj;refine J5 ?_;refine LM.cS (oC Tryz.func67) (fun w hm hc hg=>G0 P.bg w h.gl hI.gi.a h.nx h.sx (by rw [pA];omega) (Sl.lK mj (fun _=>rfl) hm) (by rw [pA];omega) (sm hm)) (fun ajx n44 ai0 m44 aeN ac0=>?_);obtain ⟨fT,hef⟩:∃fT,fT=zq (sU x) x.g:=⟨_,rfl⟩;have hel:fT.length=x.ts.length:=(by rw [hef];unfold zq Cf;rw [List.length_map,List.length_range,pA];omega);rw [←hef] at ac0 aeN;refine cj ?_;refine af.aP (α:=Nat×aG×tY) (fun ⟨i,y,Q⟩=>[(6,.int .i64 (i:Nat))]) [(0,_),(5,_)] (fun ⟨i,y,Q⟩=>aA b s x.now Q++(m44++ [])) (fun ⟨i,y,Q⟩=>i≤x.ts.length∧y=uO fT x i∧gm n0 b s y Q∧de (aA b s x.now P) w.heap.size (aA b s x.now Q)) (fun ⟨i,y,Q⟩=>x.ts.length-i) ((0,x,P)) cF aN ⟨Nat.zero_le _,rfl,h,ay _ _⟩ ?_;rintro ⟨i,y,Q⟩ ⟨hi,hy,hQ,yD⟩;change af _ _ _ _ _ _ _ (aA b s x.now Q++(m44++ [])) _ _ _;have iR:MI k y:=(by rw [hy];exact hI.uO fT hi);have o8:=oy fT x i;rw [←hy] at o8;have ss:y.ts.length=x.ts.length:=o8.1;have lY:y.now=x.now:=o8.2.2.2.1;obtain ⟨ig,ii,il,ip,ix,it,iv,ie,ic,iq⟩:=bP yD;have Lo:=hQ.st;have OQ:=hQ.nt;obtain ⟨nu,nq,jV,F8,sB,hX⟩:=hQ.sc.x;have UB:=hX.sl;have Wj:=hX.len;have hXn:=hX.nl;refine cN ?_;refine af.ak rfl (fun h3=>?_) (fun h3=>?_)
 ·refine J6 ?_;refine af.draw [(0,0),(1,0),(2,0),(3,1),(4,0),(5,0),(6,0),(7,1),(8,0),(9,0),(10,0),(11,0),(12,0),(13,1),(14,0),(15,0),(16,0),(17,1),(18,0),(19,0),(20,0),(21,1),(22,0),(23,0)] kr kr ?_;refine J7 ?_;refine LD.rd rfl rfl (aE (j:=6) aB ir Tryz.isAgg3 rfl rfl (by first|exact bI om|exact aO default cK) rfl (by rfl)) ?_;refine J2 ?_;refine LD.aq (t:=63) rfl (fun h4=>?_) (fun h4=>?_)
  ·refine J26 ?_;refine aK (i+1,uB fT y i,Q) ?_ ?_
   · exact⟨by omega,by rw [jP,←hy],by rw [show uB fT y i=y from if_pos (.inl h4)];exact hQ,yD⟩
   · (dsimp only;omega)
  refine J7 ?_;refine LD.rd rfl ⟨63,_,rfl,rfl,rfl⟩ (aE (j:=10) aB ir Tryz.isAgg3 rfl rfl (by first|exact bI om|exact aO default cK) rfl (by rfl)) ?_;refine J3 ?_;refine LD.rd rfl ⟨63,_,rfl,rfl,rfl⟩ (bd aB ir Tryz.isAgg3 rfl rfl (by first|exact bI om|exact aO 0 cK) (by rfl)) ?_;refine J4 ?_;refine af.ak rfl (fun h5=>?_) (fun h5=>?_)
  ·refine J9 ?_;refine aK (i+1,uB fT y i,Q) ?_ ?_
   · exact⟨by omega,by rw [jP,←hy],by rw [show uB fT y i=y from if_pos (.inr h5)];exact hQ,yD⟩
   · (dsimp only;omega)
  have hrk:uB fT y i= {dH y i {gT y i with ef:=fT.getD i 0} with cs:=ks y.cs i (fT.getD i 0)} :=if_neg (fun q=>q.elim h4 h5);refine J3 ?_;refine af.keep (v9 b s x.now Q::(m44++ [])) (fun _=>True) (.one 0 0 (.one 1 0 (.one 2 0 (.one 3 1 (.one 4 0 (.one 5 0 (.one 6 0 (.one 7 0 (.one 8 1 (.one 9 0 (.one 10 0 (.last 11)))))))))))) kr kr aN (fun _ _=>trivial) ?_;refine J8 ?_;refine KD.rd rfl rfl (bd aB ir Tryz.isAgg3 rfl rfl (by first|exact bI om|exact aO 0 cK) (by rfl)) ?_;refine J2 ?_;refine KD.last rfl ?_;refine LM.fR ({y.ts.getD i default with ef:=fT.getD i 0}) (j:=10) aB ir Tryz.sizeOf3 rfl rfl rfl (by first|exact bI om|exact aO default cK) rfl (by decide) (by rfl) rfl (au aB) (fun jh cG cY=>?_)
  try rw [List.set_set] at cG
  have HE:=cn cY aB;refine J1 ?_;refine QM.qn ?_;refine J8 ?_;refine cE Tryz.func68 rfl (fun w hm hc hg=>k6 (i:Nat) w hQ.sc (hm.pick Q.mc)) ?_;refine J9 ?_;refine af.ak rfl (fun h6=>?_) (fun h6=>?_)
  ·have mL:bS y.cs i<y.cs.length:=zQ om;have hcw:ks y.cs i (fT.getD i 0)=y.cs.set (bS y.cs i) (mR (qg y.cs (bS y.cs i)) i (fT.getD i 0)):=if_pos mL;refine af.draw [(0,0),(1,0),(2,0),(3,1),(4,0),(5,0),(6,1),(7,0),(8,0),(9,1),(10,0),(11,0),(12,0),(13,0),(14,1),(15,3)] kr kr ?_;rw [rI mL];refine J6 ?_;refine LD.eh rfl rfl (fun w hm hc hg=>gw (M:=gO Q.bc nu nq jV::(sB++ [])) Tryz.isAgg118 rfl rfl w (hX.ld (hm.pick Q.mc))) ?_;refine J2 ?_;refine LD.eh rfl rfl (fun w hm hc hg=>aE (M:=gO Q.bc nu nq jV::(sB++ [])) (i:=bS y.cs i) (j:=0) UB ir Tryz.isAgg122 rfl rfl (aO (xs:=F8) default om) rfl (by rfl) w (hX.ld (hm.pick Q.mc))) ?_;refine J4 ?_;refine LD.rd rfl rfl (bd aB ir Tryz.isAgg3 rfl rfl (by first|exact bI om|exact aO 0 cK) (by rfl)) ?_;refine LD.tail rfl rfl ?_;refine cU Tryz.func69 rfl (fun w hm hc hg=>hX.Bp mL (hm.pick Q.mc) (by rw [←hcw];exact(iR.ci.wgh _ _).wf) (fun m hr hM=>D6 (i:Nat) (fT.getD i 0) w hr hM)) hQ.sc.bE (au ic) ?_;rintro aee X9 ⟨rfl,Lz⟩ Ec;have i112:=ar ic Ec;refine J1 ?_;refine QM.qn ?_;refine J7 ?_;refine aK (i+1,uB fT y i,{Q with mt:=jh,mc:=X9}) ?_ ?_
   · exact⟨by omega,by rw [jP,←hy],by rw [hrk];exact {hQ with nt:=(by rw [bA];exact OQ),st:=cG,sc:=(by show RcM _ _ (ks _ _ _) _;rw [hcw];exact Lz.c)},aQ⟩
   · (dsimp only;omega)
  refine J8 ?_;refine aK (i+1,uB fT y i,{Q with mt:=jh}) ?_ ?_
  · exact⟨by omega,by rw [jP,←hy],by rw [hrk];exact {hQ with nt:=(by rw [bA];exact OQ),st:=cG,sc:=(by show RcM _ _ (ks _ _ _) _;rw [show ks y.cs i (fT.getD i 0)=y.cs from if_neg (zb om)];exact hQ.sc)},aQ⟩
  · (dsimp only;omega)
 have hyF:y=uO (zq (sU x) x.g) x x.ts.length:=(by rw [hy,←hef,show i=x.ts.length by omega])
 refine c9 ?_;refine af.aP (α:=Nat×List Qm×ab) (fun ⟨i,cs,mc⟩=>[(8,.int .i64 (i:Nat))]) [(0,_)] (fun ⟨i,cs,mc⟩=>aA b s x.now {Q with mc:=mc} ++ []) (fun ⟨i,cs,mc⟩=>i≤y.cs.length∧cs=Hk fq y.cs i∧RcM n0 Q.bc cs mc∧de (aA b s x.now P) w.heap.size mc) (fun ⟨i,cs,mc⟩=>y.cs.length-i) ((0,y.cs,Q.mc)) cF aN ⟨Nat.zero_le _,rfl,hQ.sc,ic⟩ ?_;rintro ⟨i,cs,mc⟩ ⟨hi,uT,hRc,hic⟩;change af _ _ _ _ _ _ _ (aA b s x.now {Q with mc:=mc} ++ []) _ _ _;have hCi:CI y.ts.length k cs:=(by rw [uT];exact iR.ci.stl hi);have jg:cs.length=y.cs.length:=(by rw [uT,mO]);obtain ⟨nu,nq,jV,F8,sB,hX⟩:=hRc.x;have UB:=hX.sl;have Wj:=hX.len;have hXn:=hX.nl;have hc4:=iR.ci.wf.len;refine cj ?_;refine LM.eh (fun w hm hc hg=>gw (M:=gO Q.bc nu nq jV::(sB++ [])) Tryz.isAgg118 rfl rfl w (hX.ld (hm.pick mc))) ?_;refine J4 ?_;refine af.ak rfl (fun h7=>?_) (fun h7=>?_)
 ·refine c9 ?_;refine LM.eh (fun w hm hc hg=>gw (M:=gO Q.bc nu nq jV::(sB++ [])) Tryz.isAgg118 rfl rfl w (hX.ld (hm.pick mc))) ?_;refine J2 ?_;refine LM.eh (fun w hm hc hg=>aE (M:=gO Q.bc nu nq jV::(sB++ [])) (j:=0) UB ir Tryz.isAgg122 rfl rfl (aO (xs:=F8) default om) rfl (by rfl) w (hX.ld (hm.pick mc))) ?_;refine cU Tryz.func70 rfl (fun w hm hc hg=>hX.Bp (i:=i) om (hm.pick mc) ((hCi.set om (uI (hCi.wf.wf i om)) (by rw [(eL _).1]) (by rw [(eL _).2.2.1];exact hCi.rn i om)).wf) (fun m hr hM=>x4 w hr hM)) hRc.bE (au hic) ?_;rintro Xn Jg ⟨rfl,Up⟩ DE;refine J8 ?_;refine aK (i+1,cs.set i (fq (qg cs i)),Jg) ?_ ?_
  · exact⟨by omega,by rw [uT];rfl,Up.c,ar hic DE⟩
  · (dsimp only;omega)
 refine J4 ?_;refine QM.leave (.inr rfl) [] Tryz.results31 rfl ?_;intro w' aj aa az;have agz:i=y.cs.length:=om;subst agz;rw [DK] at uT;have hrk:kh x= {y with cs:=cs} :=(by rw [uT,hyF];rfl);exact aY (m':=aA b s x.now {Q with mc:=mc}) ⟨rfl,by rw [hrk];exact gm.m (hn:=lY) {hQ with sc:=hRc}⟩ aj aN aa aQ
end Go.Eng
