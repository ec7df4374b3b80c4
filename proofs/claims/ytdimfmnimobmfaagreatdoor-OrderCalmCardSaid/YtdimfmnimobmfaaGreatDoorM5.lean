/- The walks of the document's weights. No condition. -/
import Derived.Test.YtdimfmnimobmfaaGreatDoorM2
import Derived.Test.YtdimfmnimobmfaaGreatDoorM4
import Derived.Test.YtdimfmnimobmfaaGreatDoorM3
set_option linter.unusedVariables false
set_option linter.unusedSectionVars false
set_option linter.unusedSimpArgs false
set_option maxRecDepth 100000
set_option maxHeartbeats 4000000
attribute [local irreducible] Go.Eng.LM Go.Eng.LD Go.Eng.KD Go.Eng.af Go.Eng.QM
namespace Go.Eng
open Go Go.Proofs Go.RowKit
variable {fv:Bool} {a e e1 e2 e3 lock:Int} {P:Int->Prop} {gs pl:List Int} {ws:List bA} {xs:List bO} {ls:List jD} {ps:List mX} {c cap i i0 i1 i2 i3 k n n0 t:Nat} {ad:Option Addr} {α:Type} {x:aB} {L:bf} {s:ee}
theorem ZL {own:List Int} (h:i<min own.length 64):min (max (own.getD i 0) 0) 16=wt own i:=by unfold wt;rw [if_pos h]
theorem Dk {own:List Int} (h:i<min own.length 64) (w:World):aD Tryz.prog 48 #[.int .i64 (own.getD i 0),.int .i64 0,.int .i64 16] w (fun v w'=>v= .int .i64 (wt own i)/\Ext w w'):=ZL h▸(by have k:=bM (own.getD i 0) 0 16 w;rw [show aF (own.getD i 0) 0 16=min (max (own.getD i 0) 0) 16 by unfold aF;split<;>(try split)<;>omega] at k;exact k)
theorem Ht {own:List Int} {G:Gr}:wt own i+kt own (wY G (i:Nat)) (min own.length 64)=Y2 own G i:=by unfold Y2;rw [<-B4 own _ 64 om]
theorem yq {own:List Int} {B:BitVec 64} (h:aq B (k:Nat)=true):kt own B (k+1)=kt own B k+wt own k:=by rw [kt,if_pos h]
theorem AR {own:List Int} {B:BitVec 64} (h:aq B (k:Nat)=false):kt own B (k+1)=kt own B k:=by rw [kt,if_neg (by rw [h];simp)];omega
theorem Jl {own:List Int} {G:Gr} {lj:Option Addr} {ng FE:Nat} {mg:ab} (br:Nat) (w:World) (hG:G.length=64) (hA:jT G) (FP:ng=64) (Cp:Sl fU 41 1 n0 G (.slice lj ng FE) mg) (hn:n=own.length) (hl:Sr fI 1 own (.slice ad n cap) w) (hx:own.length<=1000000000000) (hM:Mem w (gR br lj ng FE::(mg++ []))):aD Tryz.prog 65 #[.slice ad n cap,.pointer (some ⟨br,0,none⟩)] w (New fI 3 1 (y7 own G) w):=by
 refine aD.ak Tryz.func65 rfl Tryz.ntmps65 rfl (gR br lj ng FE::(mg++ [])) (no) hM ?_;refine yA ?_;refine af.aO (α:=Nat×Option Addr×Nat×Nat×ab) (fun ⟨i,eu,no,bP,mo⟩=>[(5,.slice eu no bP),(6,.int .i64 (i:Nat))]) [(0,_),(1,_)] (fun ⟨i,eu,no,bP,mo⟩=>mo++(gR br lj ng FE::(mg++ []))) (fun ⟨i,eu,no,bP,mo⟩=>i<=min own.length 64/\no=i/\Sl fI 3 1 w.heap.size (CS own G i) (.slice eu no bP) mo) (fun ⟨i,eu,no,bP,mo⟩=>min own.length 64-i) ((0,none,0,0,[])) cA aX ⟨Nat.zero_le _,rfl,.nil _ _ _ _⟩ ?_;rintro ⟨i,eu,no,bP,mo⟩ ⟨hi,gK,kH⟩;change af _ _ _ _ _ _ _ (mo++(gR br lj ng FE::(mg++ []))) _ _ _;have hel:=NM own G i;refine J8 ?_;refine LM.aw (t:=14) rfl (fun h1=>?_) (fun h1=>?_)
 ·refine J5 ?_;refine af.aj rfl (fun h2=>?_) (fun h2=>?_)
  ·refine J9 ?_;refine LM.dV (iO aC Tryz.isAgg3 rfl rfl (by exact aH 0 cH) (by rfl) id) ?_;refine cE Tryz.func48 rfl (fun w hm hc hg=>Dk om w) ?_;refine J7 ?_;refine cE Tryz.func118 rfl (fun w hm hc hg=>Av br _ w hG FP Cp (sm hm)) ?_;refine cF ?_;refine af.aO (α:=Nat) (fun k=>[(7,.int .i64 (wt own i+kt own (wY G (i:Nat)) k)),(9,.int .i64 (k:Nat))]) [(0,_),(1,_),(5,_),(6,_),(8,_)] (fun k=>mo++(gR br lj ng FE::(mg++ []))) (fun k=>k<=min own.length 64) (fun k=>min own.length 64-k) (0) ⟨(by first|rfl|exact lk rfl (by simp only [kt];congr 1;omega)|exact lk rfl (by rw [yq aC,Int.add_assoc])|exact lk rfl (by rw [AR aC])),l5,rfl,rfl,rfl,rfl,rfl,trivial⟩ aX (Nat.zero_le _) ?_;rintro k hk;change af _ _ _ _ _ _ _ (mo++(gR br lj ng FE::(mg++ []))) _ _ _;have Mj:=Fh own i;have hw2:=Cz own (wY G (i:Nat)) k;have hw3:=Fh own k;refine J8 ?_;refine LM.aw (t:=32) rfl (fun h3=>?_) (fun h3=>?_)
   ·refine J5 ?_;refine af.aj rfl (fun h4=>?_) (fun h4=>?_)
    ·refine J8 ?_;refine cE Tryz.func119 rfl (fun w hm hc hg=>gH _ _ w) ?_;refine J1 ?_;refine LM.bn (t:=41) rfl (fun h5=>?_) (fun h5=>?_)
     ·refine J6 ?_;refine af.aj rfl (fun h6=>?_) (fun h6=>?_)
      ·refine J5 ?_;refine LM.dV (iO aC Tryz.isAgg3 rfl rfl (by exact aH 0 cH) (by rfl) id) ?_;refine cE Tryz.func48 rfl (fun w hm hc hg=>Dk om w) ?_;refine cF ?_;refine QM.dk (k+1) ⟨(by first|rfl|exact lk rfl (by simp only [kt];congr 1;omega)|exact lk rfl (by rw [yq aC,Int.add_assoc])|exact lk rfl (by rw [AR aC])),l5,rfl,rfl,rfl,rfl,rfl,trivial⟩ aX (fun _ h=>h) ?_ ?_
       ·omega
       ·omega
      have e:k=i:=om;subst e;rw [Po hA om] at h5;cases h5
     refine rA ?_;refine QM.dk (k+1) ⟨(by first|rfl|exact lk rfl (by simp only [kt];congr 1;omega)|exact lk rfl (by rw [yq aC,Int.add_assoc])|exact lk rfl (by rw [AR aC])),l5,rfl,rfl,rfl,rfl,rfl,trivial⟩ aX (fun _ h=>h) ?_ ?_
     ·omega
     ·omega
    have hkm:k=min own.length 64:=om;have Tu:wt own i+kt own (wY G (i:Nat)) k=Y2 own G i:=(by rw [hkm];exact Ht)
    refine J8 ?_;refine LM.single Tryz.underlying26 Tryz.sizeOf3 Tryz.zeroValue3 rfl rfl rfl rfl rfl (fun b55 ahx=>?_);refine LM.app Tryz.underlying26 Tryz.typeInfo3 rfl rfl rfl rfl rfl rfl rfl aC (by rfl) ir (by intro _ u hu;simp [fI] at hu;(repeat (first|(rcases hu with rfl|hu)|subst hu|rfl))) (by first|exact Nat.le_refl _|omega) kU (by first|omega|(unfold maxLen;omega)) (by simp only [Tryz.t3];omega) (fun VF n56 Nf HR ahr V5 wo=>?_);refine J9 ?_;refine aK (i+1,VF,n56,Nf,HR) ?_ ?_
    ·exact⟨by omega,by omega,by rw [zU,<-Tu];exact V5⟩
    ·(dsimp only;omega)
   have hkm:k=min own.length 64:=om;have Tu:wt own i+kt own (wY G (i:Nat)) k=Y2 own G i:=(by rw [hkm];exact Ht)
   refine kR ?_;refine LM.single Tryz.underlying26 Tryz.sizeOf3 Tryz.zeroValue3 rfl rfl rfl rfl rfl (fun b55 ahx=>?_);refine LM.app Tryz.underlying26 Tryz.typeInfo3 rfl rfl rfl rfl rfl rfl rfl aC (by rfl) ir (by intro _ u hu;simp [fI] at hu;(repeat (first|(rcases hu with rfl|hu)|subst hu|rfl))) (by first|exact Nat.le_refl _|omega) kU (by first|omega|(unfold maxLen;omega)) (by simp only [Tryz.t3];omega) (fun VF n56 Nf HR ahr V5 wo=>?_);refine J9 ?_;refine aK (i+1,VF,n56,Nf,HR) ?_ ?_
   ·exact⟨by omega,by omega,by rw [zU,<-Tu];exact V5⟩
   ·(dsimp only;omega)
  refine cM ?_;refine qL Tryz.results65 rfl fun w' ao aa aA=>?_;have him:i=min own.length 64:=om;subst him;exact⟨aa,mo,kH,ao.pick mo⟩
 refine En ?_;refine qL Tryz.results65 rfl fun w' ao aa aA=>?_;have him:i=min own.length 64:=om;subst him;exact⟨aa,mo,kH,ao.pick mo⟩
structure Dw where
  who:Int
  set:BitVec 64
deriving Inhabited
end Go.Eng
namespace Go.Eng
open Go Go.RowKit
variable {fv:Bool} {a e e1 e2 e3 lock:Int} {P:Int->Prop} {gs pl:List Int} {ws:List bA} {xs:List bO} {ls:List jD} {ps:List mX} {c cap i i0 i1 i2 i3 k n n0 t:Nat} {ad:Option Addr} {α:Type} {x:aB} {L:bf} {s:ee}
theorem Xz {p:α->Bool} {xs:List α} (d:α) (h:0<=g9 p xs):(g9 p xs).toNat<xs.length/\p (xs.getD (g9 p xs).toNat d)=true:=by
  unfold g9 at h ⊢
  split at h
  · rename_i q
    rw [if_pos q,Int.toNat_natCast]
    have bo:xs.findIdx p<xs.length:=by
      obtain ⟨x,hx,hp⟩:=List.any_eq_true.1 q;exact List.findIdx_lt_length_of_exists ⟨x,hx,hp⟩
    refine ⟨bo,?_⟩;have e:=aH d bo;rw [List.getElem?_eq_getElem bo] at e;rw [<-Option.some.inj e];exact List.findIdx_getElem (w:=bo)
  ·omega
theorem V3 {p:α->Bool} {xs:List α} (h:¬0<=g9 p xs):xs.any p=false:=by
  unfold g9 at h
  cases q:xs.any p with
  |false=>rfl
  |true=>rw [if_pos q] at h;omega
/-! what is parsed may be -/
theorem uo {k:Int} {t:List UInt8} (h:(fS ws i e k t).2=0):e=0:=by
  unfold fS at h;split at h
  ·exact h
  · split at h
    ·cases h
    ·exact h
theorem IC {m:Int} (h:(ub ws i e 1 m).2.1=0):e=0/\cz (ub ws i e 1 m).2.2 m=true:=by
  unfold ub nN at h ⊢
  split at h
  ·rename_i q;exact absurd h q
  rename_i q
  rw [if_neg q,if_neg (by decide)];rw [if_neg (by decide)] at h;refine ⟨Classical.not_not.1 q,?_⟩
  split at h
  ·cases h
  rename_i q2
  rw [if_neg q2]
  split at h
  · rename_i q3
    rw [if_pos q3]
    unfold hasB at q3;rw [if_neg (by decide)] at q3;exact q3
  ·cases h
theorem mW {m:Int} {nm:List UInt8} (h:(dQ ws i e nm m).2.1=0):e=0/\cz (dQ ws i e nm m).2.2 m=true:=
  ⟨uo (IC h).1,(IC h).2⟩
theorem sH {m:Int} {nm:List UInt8} (h:(jn ws i e nm m).2.1=0):e=0/\cz (jn ws i e nm m).2.2 m=true:=
  mW (uo h)
theorem yt:∀(f i:Nat) (e:Int) (gs:List Int),(HC ws f i e gs).2.2=0->e=0
  |0,i,e,gs,h=>by
    unfold HC at h;split at h
    ·rename_i q;exact(px q).2
    ·exact h
  |f+1,i,e,gs,h=>by
    unfold HC at h;split at h
    ·rename_i q;exact(px q).2
    ·exact h
theorem HP {ws:List bA} :∀(f i:Nat) (e:Int) (gs:List Int),(HC ws f i e gs).2.2=0->(e=0->gs.all (fun n=>cz n 16)=true)->1<=gs.length->gs.length+f<=4->
    (HC ws f i e gs).1.all (fun n=>cz n 16)=true/\1<=(HC ws f i e gs).1.length/\(HC ws f i e gs).1.length<=4
  |0,i,e,gs,h,ha,h1,h2=>by
    have he:=yt 0 i e gs h
    unfold HC;split<;>exact⟨ha he,h1,h2⟩
  |f+1,i,e,gs,h,ha,h1,h2=>by
    have he:=yt (f+1) i e gs h
    unfold HC at h ⊢;split
    · rename_i q
      rw [if_pos q] at h;refine HP f _ _ _ h (fun h3=>?_) (by simp) (by simp;omega);rw [List.all_append,ha he,Bool.true_and];simp [(sH h3).2]
    ·exact⟨ha he,h1,by show gs.length<=4;omega⟩
theorem Tl {sh:Bool} (h:(ky ws sh i e).2.1=0):e=0/\lI (ky ws sh i e).2.2=true:=by
  have hD:(Lg ws sh i e).2.1=0:=uo h;cases sh with
  |true=>
    have d:=mW (show (dQ ws (I8 ws true i e).1 (I8 ws true i e).2.1 AB 16).2.1=0 from hD);have c:=mW (show (dQ ws (K8 ws i e).1 (K8 ws i e).2.1 HO 16).2.1=0 from d.1);have b:=mW (show (dQ ws (EH ws i e).1 (EH ws i e).2.1 yh 32).2.1=0 from c.1);have a:=mW (show (dQ ws i e rk 16).2.1=0 from b.1);refine ⟨a.1,?_⟩
    show ((if true=true then cz (dQ ws (K8 ws i e).1 (K8 ws i e).2.1 HO 16).2.2 16&&cz (dQ ws (I8 ws true i e).1 (I8 ws true i e).2.1 AB 16).2.2 16 else _)&&cz (dQ ws i e rk 16).2.2 16&&cz (dQ ws (EH ws i e).1 (EH ws i e).2.1 yh 32).2.2 32)=true
    rw [if_pos rfl,a.2,b.2,c.2,d.2];rfl
  |false=>
    have b:=mW (show (dQ ws (EH ws i e).1 (EH ws i e).2.1 yh 32).2.1=0 from hD);have a:=mW (show (dQ ws i e rk 16).2.1=0 from b.1);refine ⟨a.1,?_⟩
    show (true&&cz (dQ ws i e rk 16).2.2 16&&cz (dQ ws (EH ws i e).1 (EH ws i e).2.1 yh 32).2.2 32)=true
    rw [a.2,b.2];rfl
theorem BG (h:Nc ws i e=true):i<ws.length/\e=0:=by
  unfold Nc at h;rw [Bool.or_eq_true] at h
  rcases h with h|h<;>exact px h
theorem rK:∀(f i:Nat) (e:Int) (ls:List jD),(Kf ws f i e ls).2.2=0->e=0
  |0,i,e,ls,h=>by
    unfold Kf at h;split at h
    ·rename_i q;exact(BG q).2
    ·exact h
  |f+1,i,e,ls,h=>by
    unfold Kf at h;split at h
    ·rename_i q;exact(BG q).2
    ·exact h
theorem Iz {ws:List bA} :∀(f i:Nat) (e:Int) (ls:List jD),(Kf ws f i e ls).2.2=0->(e=0->ls.all lI=true)->ls.length+f<=8->
    (Kf ws f i e ls).1.all lI=true/\(Kf ws f i e ls).1.length<=8
  |0,i,e,ls,h,ha,h2=>by
    have he:=rK 0 i e ls h
    unfold Kf;split<;>exact⟨ha he,h2⟩
  |f+1,i,e,ls,h,ha,h2=>by
    have he:=rK (f+1) i e ls h
    unfold Kf at h ⊢;split
    · rename_i q
      rw [if_pos q] at h;refine Iz f _ _ _ h (fun h3=>?_) (by simp;omega);rw [List.all_append,ha he,Bool.true_and];simp [(Tl h3).2]
    ·exact⟨ha he,by show ls.length<=8;omega⟩
theorem wu (h:Lc ws i e ps=true):e=0:=by
  unfold Lc at h;simp only [Bool.and_eq_true,decide_eq_true_eq] at h;exact h.1
theorem sS:∀(f i:Nat) (e:Int) (ps:List mX) (pl:List Int),(EF ws f i e ps pl).2.2.2=0->e=0
  |0,i,e,ps,pl,h=>by
    unfold EF at h;split at h
    ·rename_i q;exact wu q
    ·exact h
  |f+1,i,e,ps,pl,h=>by
    unfold EF at h;split at h
    ·rename_i q;exact wu q
    ·exact h
theorem H2 {ws:List bA} :∀(f i:Nat) (e:Int) (ps:List mX) (pl:List Int),(EF ws f i e ps pl).2.2.2=0->ps.length+f<=8->
    1<=(EF ws f i e ps pl).1.length/\(EF ws f i e ps pl).1.length<=8
  |0,i,e,ps,pl,h,h2=>by
    have he:=sS 0 i e ps pl h;subst he
    unfold EF at h ⊢;split
    ·rename_i q;rw [if_pos q] at h;cases h
    · rename_i q
      unfold Lc at q;simp only [decide_true,Bool.true_and,Bool.or_eq_true,decide_eq_true_eq,not_or] at q
      exact⟨by show 1<=ps.length;omega,h2⟩
  |f+1,i,e,ps,pl,h,h2=>by
    have he:=sS (f+1) i e ps pl h;subst he
    unfold EF at h ⊢;split
    · rename_i q
      rw [if_pos q] at h;exact H2 f _ _ _ _ h (by simp;omega)
    · rename_i q
      unfold Lc at q;simp only [decide_true,Bool.true_and,Bool.or_eq_true,decide_eq_true_eq,not_or] at q
      exact⟨by show 1<=ps.length;omega,by show ps.length<=8;omega⟩
theorem RZ (h:0<=ql ls ps):Jv ls ps (ql ls ps)≠0:=by
  have:jW ls ps.length (ps.getD (ql ls ps).toNat default)=true:=(Xz default h).2
  unfold Jv;rw [if_neg om]
  simpa [jW] using this
theorem P4 (n:Nat) (m:Int):cz (n:Int) m=true↔1<=n/\(n:Int)<=m:=by
  unfold cz;simp only [Bool.and_eq_true,decide_eq_true_eq];omega
theorem NA (h:(vq ws i).2.2=0):dt (vq ws i).1=true:=by
  unfold vq at h ⊢
  split at h
  ·rename_i q;exact absurd h q
  rename_i q
  rw [if_neg q]
  split at h
  ·rename_i q2;exact absurd h (RZ q2)
  rename_i q2
  rw [if_neg q2];have hP:=Classical.not_not.1 q;have p0:=sS _ _ _ _ _ hP;have p1:=H2 _ _ _ _ _ hP (by simp);have l0:=rK _ _ _ _ p0;have l1:=Iz _ _ _ _ p0 (fun _=>rfl) (by simp);have g0:=yt _ _ _ _ l0;have g1:=HP _ _ _ _ l0 (fun h3=>by simp [(sH h3).2]) (by simp) (by simp);have b0:=sH g0;have b1:=sH b0.1;have a0:=sH b1.1
  unfold dt
  simp only [Bool.and_eq_true,decide_eq_true_eq,Bool.not_eq_true'];exact⟨⟨⟨⟨⟨a0.2,b1.2⟩,⟨(P4 _ _).2 ⟨g1.2.1,by have:(sG ws i).1.length<=4:=g1.2.2;omega⟩,g1.1⟩⟩,⟨l1.2,l1.1⟩⟩,(P4 _ _).2 ⟨p1.1,by have:(sP ws i).1.length<=8:=p1.2;omega⟩⟩,V3 q2⟩
theorem RE {p:Int} (h:(ly ws p).2.2=0):dt (ly ws p).1=true:=by
  unfold ly at h ⊢
  split at h
  ·cases h
  ·rename_i q;rw [if_neg q];exact NA h
/-! words are parsed again -/
/-! how many words -/
end Go.Eng
namespace Go.Eng
open Go Go.Proofs Go.RowKit
variable {fv:Bool} {a e e1 e2 e3 lock:Int} {P:Int->Prop} {gs pl:List Int} {ws:List bA} {xs:List bO} {ls:List jD} {ps:List mX} {c cap i i0 i1 i2 i3 k n n0 t:Nat} {ad:Option Addr} {α:Type} {x:aB} {L:bf} {s:ee}
theorem Pc {f:α->List Value} {s:Nat} {xs:List α} {b:Nat} {cs:Array Value} {E:TypeId} {fz:Nat×Nat} {w:World} (n:Nat) (h:w.heap[b]? =some (.cells cs E fz)) (hn:n=xs.length) (vH:cs=arr f xs []) (hf:∀a,(f a).length=s):Sr f s xs (.slice (some ⟨b,0,none⟩) n n) w:=by
  subst hn;exact Sr.row h vH rfl (Nat.le_refl _) hf
theorem IS {xs:List Int} (x:Int) (w:World) (hn:n=xs.length) (hl:Sr fI 1 xs (.slice ad n cap) w) (hx:xs.length<=1000):aD Tryz.prog 158 #[.slice ad n cap,.int .i64 x] w (fun v w'=>v= .int .i64 (g9 (fun y=>decide (x=y)) xs)/\Ext w w'):=by
 refine aD.ak Tryz.func158 rfl Tryz.ntmps158 rfl ([]) (no) (Mem.nil w) ?_;refine kR ?_;refine af.aO (α:=Nat) (fun i=>[(8,.int .i64 (i:Nat))]) [(0,_),(1,_),(7,_)] (fun i=>[]) (fun i=>i<=xs.length/\(xs.take i).any (fun y=>decide (x=y))=false) (fun i=>xs.length-i) (0) cA aX ⟨Nat.zero_le _,rfl⟩ ?_;rintro i ⟨hi,ha⟩;change af _ _ _ _ _ _ _ ([]) _ _ _;refine J6 ?_;refine af.aj rfl (fun h1=>?_) (fun h1=>?_)
 ·refine Ai ?_;refine LM.dV (iO aC Tryz.isAgg3 rfl rfl (by exact aH 0 cH) (by rfl) id) ?_;refine J3 ?_;refine af.aj rfl (fun h2=>?_) (fun h2=>?_)
  ·refine cM ?_;refine qL Tryz.results158 rfl fun w' ao aa aA=>?_;exact⟨by show Value.int .i64 _=_;rw [kC 0 ha om (decide_eq_true h2)],aa⟩
  refine J7 ?_;refine aK (i+1) ?_ ?_
  ·exact⟨by omega,by rw [dG 0 om,ha,Bool.false_or];exact decide_eq_false h2⟩
  ·omega
 refine dc ?_;refine qL Tryz.results158 rfl fun w' ao aa aA=>?_;have eA:i=xs.length:=om;subst eA;rw [List.take_length] at ha;exact⟨by show Value.int .i64 _=_;rw [gg ha],aa⟩
theorem rW {xs:List Int} (x:Int) (w:World) (hn:n=xs.length) (hl:Sr fI 1 xs (.slice ad n cap) w) (hx:xs.length<=1000):aD Tryz.prog 133 #[.slice ad n cap,.int .i64 x] w (fun v w'=>v= .bool (xs.any (fun y=>decide (x=y)))/\Ext w w'):=by
 refine aD.ak Tryz.func133 rfl Tryz.ntmps133 rfl ([]) (no) (Mem.nil w) ?_;refine J9 ?_;refine cE Tryz.func158 rfl (fun w hm hc hg=>IS x w hn (hl.ext hc) hx) ?_;refine J5 ?_;refine qL Tryz.results133 rfl fun w' ao aa aA=>?_;exact⟨by show Value.bool _=_;rw [<-pG],aa⟩
theorem xC (k:Int) (w:World):aD Tryz.prog 89 #[.int .i64 k] w (fun v w'=>v= .bool (cD k)/\Ext w w'):=by
 refine aD.ak Tryz.func89 rfl Tryz.ntmps89 rfl ([]) (no) (Mem.nil w) ?_;refine J7 ?_;refine LM.row (vs:=[_,_,_,_]) Tryz.underlying26 Tryz.sizeOf3 Tryz.zeroValue3 rfl rfl rfl rfl rfl rfl (fun b3 FM=>?_);refine J1 ?_;refine cE Tryz.func133 rfl (fun w hm hc hg=>rW (xs:=[2,3,4,5]) k w rfl (Pc 4 (hm.at b3) rfl rfl (fun _=>rfl)) (by decide)) ?_;refine J4 ?_;refine qL Tryz.results89 rfl fun w' ao aa aA=>?_;exact⟨by show Value.bool _=_;rw [I6],aa⟩
theorem DJ (o:bO) (w:World):aD Tryz.prog 163 #[.agg (fO o).toArray] w (fun v w'=>v= .bool (eV o.k)/\Ext w w'):=by
 refine aD.ak Tryz.func163 rfl Tryz.ntmps163 rfl ([]) (no) (Mem.nil w) ?_;refine J2 ?_;refine LM.box rfl rfl (fun b1 l6=>?_);refine J5 ?_;refine LM.row (vs:=[_,_,_,_]) Tryz.underlying26 Tryz.sizeOf3 Tryz.zeroValue3 rfl rfl rfl rfl rfl rfl (fun b3 FM=>?_);refine J2 ?_;refine cE Tryz.func133 rfl (fun w hm hc hg=>rW (xs:=[1,7,8,11]) o.k w rfl (Pc 4 (hm.at b3) rfl rfl (fun _=>rfl)) (by decide)) ?_;refine J4 ?_;refine qL Tryz.results163 rfl fun w' ao aa aA=>?_;exact⟨by show Value.bool _=_;rw [Lx],aa⟩
theorem Om (w:World) (hn:n=xs.length) (hl:Sr fO 3 xs (.slice ad n cap) w) (hx:xs.length<=1000000):aD Tryz.prog 176 #[.slice ad n cap,.func (.func 163) #[] #[]] w (fun v w'=>v= .int .i64 (g9 (fun o=>eV o.k) xs)/\Ext w w'):=by
 refine aD.ak Tryz.func176 rfl Tryz.ntmps176 rfl ([]) (no) (Mem.nil w) ?_;refine kR ?_;refine af.aO (α:=Nat) (fun i=>[(8,.int .i64 (i:Nat))]) [(0,_),(1,_),(7,_)] (fun i=>[]) (fun i=>i<=xs.length/\(xs.take i).any (fun o=>eV o.k)=false) (fun i=>xs.length-i) (0) cA aX ⟨Nat.zero_le _,rfl⟩ ?_;rintro i ⟨hi,ha⟩;change af _ _ _ _ _ _ _ ([]) _ _ _;refine J6 ?_;refine af.aj rfl (fun h1=>?_) (fun h1=>?_)
 ·refine Ai ?_;refine LM.dV (de aC ir Tryz.isAgg103 Tryz.sizeOf103 rfl c7 id) ?_;refine LM.ye (tf rfl (dF Tryz.func163 kr rfl) rfl) (fun w hm hc hg=>DJ _ w) ?_;refine J2 ?_;refine af.aN rfl (fun h2=>?_) (fun h2=>?_)
  ·refine cM ?_;refine qL Tryz.results176 rfl fun w' ao aa aA=>?_;exact⟨by show Value.int .i64 _=_;rw [kC default ha om (by simpa using h2)],aa⟩
  refine J7 ?_;refine aK (i+1) ?_ ?_
  ·exact⟨by omega,by rw [dG default om,ha,Bool.false_or];simpa using h2⟩
  ·omega
 refine dc ?_;refine qL Tryz.results176 rfl fun w' ao aa aA=>?_;have eA:i=xs.length:=om;subst eA;rw [List.take_length] at ha;exact⟨by show Value.int .i64 _=_;rw [gg ha],aa⟩
theorem Qb (w:World) (hn:n=xs.length) (hl:Sr fO 3 xs (.slice ad n cap) w) (hx:xs.length<=1000000):aD Tryz.prog 162 #[.slice ad n cap,.func (.func 163) #[] #[]] w (fun v w'=>v= .bool (xs.any (fun o=>eV o.k))/\Ext w w'):=by
 refine aD.ak Tryz.func162 rfl Tryz.ntmps162 rfl ([]) (no) (Mem.nil w) ?_;refine J9 ?_;refine cE Tryz.func176 rfl (fun w hm hc hg=>Om w hn (hl.ext hc) hx) ?_;refine J5 ?_;refine qL Tryz.results162 rfl fun w' ao aa aA=>?_;exact⟨by show Value.bool _=_;rw [<-pG],aa⟩
theorem uW (o:bO) (w:World):aD Tryz.prog 101 #[.agg (fO o).toArray] w (fun v w'=>v= .bool (cD o.k)/\Ext w w'):=by
 refine aD.ak Tryz.func101 rfl Tryz.ntmps101 rfl ([]) (no) (Mem.nil w) ?_;refine J2 ?_;refine LM.box rfl rfl (fun b1 l6=>?_);refine J9 ?_;refine LM.aw (t:=6) rfl (fun h1=>?_) (fun h1=>?_)
 ·refine J9 ?_;refine qL Tryz.results101 rfl fun w' ao aa aA=>?_;refine ⟨?_,aa⟩;simp only [bd,cD];congr 1;first|(rw [decide_eq_false (show¬2<=o.k by omega)];rfl)|(rw [decide_eq_true (show 2<=o.k by omega)];rfl)
 refine J8 ?_;refine qL Tryz.results101 rfl fun w' ao aa aA=>?_;refine ⟨?_,aa⟩;simp only [bd,cD];congr 1;first|(rw [decide_eq_false (show¬2<=o.k by omega)];rfl)|(rw [decide_eq_true (show 2<=o.k by omega)];rfl)
theorem nj.drop {xs:List bO} (h:nj xs) (k:Nat):nj (xs.drop k):=⟨by rw [List.length_drop];have:=h.1;omega,fun o ho=>h.2 o (List.mem_of_mem_drop ho)⟩
theorem Kd {j:Nat}:(xs.drop i).getD j default=xs.getD (i+j) default:=by rw [List.getD_eq_getElem?_getD,List.getElem?_drop,<-List.getD_eq_getElem?_getD]
abbrev sV (i to lock ticks:Int):Value:= .agg #[.int .i64 i,.int .i64 to,.int .i64 lock,.int .i64 ticks]
abbrev Li (b:Nat) (i to lock ticks:Int):Nat×Obj:=(b,.cells #[.int .i64 i,.int .i64 to,.int .i64 lock,.int .i64 ticks] 101 (0,0))
abbrev oB (b:Nat) (o:bO):Nat×Obj:=(b,.cells (fO o).toArray 103 (0,0))
theorem gx {o:bO} (h1:¬o.k=11) (h2:¬(o.k=6/\o.a=lock)):eH lock o=false:=by
  unfold eH;rw [decide_eq_false h1]
  by_cases h:o.k=6
  ·rw [decide_eq_false (fun q=>h2 ⟨h,q⟩)];simp
  ·rw [decide_eq_false h];rfl
theorem Ab {o:bO} (h1:o.k=11):eH lock o=true:=by unfold eH;rw [decide_eq_true h1];rfl
theorem Fm {o:bO} (h1:o.k=6) (h2:o.a=lock):eH lock o=true:=by unfold eH;rw [decide_eq_true h1,decide_eq_true h2];simp
def uA (lock:Int) (ys:List bO) (j:Nat) (acc:Int):Prop:=
  j<=ys.length/\(iA lock ys).1=j+(iA lock (ys.drop j)).1/\(iA lock ys).2=acc+(iA lock (ys.drop j)).2/\-((j:Int)*1125899906842624)<=acc/\acc<=(j:Int)*1125899906842624
theorem uA.zero (lock:Int) (ys:List bO):uA lock ys 0 0:=⟨Nat.zero_le _,by simp,by simp,by simp,by simp⟩
theorem uA.step {lock:Int} {ys:List bO} {j:Nat} {acc Ob:Int} (h:uA lock ys j acc) (hs:nj ys) (hj:j<ys.length) (hn:eH lock (ys.getD j default)=false) (ha:Ob=acc+if (ys.getD j default).k=1 then (ys.getD j default).a else 0):uA lock ys (j+1) Ob:=by
  obtain ⟨h1,h2,h3,h4,h5⟩:=h;have e:=D4 hj hn;have hb:=hs.at j;rw [e] at h2 h3
  dsimp only at h2 h3
  have:((j+1:Nat):Int)*1125899906842624=(j:Int)*1125899906842624+1125899906842624:=by push_cast;omega
  refine ⟨by omega,by omega,by rw [ha];omega,?_,?_⟩<;>rw [this,ha] <;>split<;>omega
theorem uA.stop {ys:List bO} {j:Nat} {acc:Int} (h:uA lock ys j acc) (hj:j<ys.length) (hn:eH lock (ys.getD j default)=true):iA lock ys=(j,acc):=by
  obtain ⟨h1,h2,h3,h4,h5⟩:=h;rw [PN hj hn] at h2 h3;exact Prod.ext (by simpa using h2) (by simpa using h3)
theorem uA.fin {ys:List bO} {j:Nat} {acc:Int} (h:uA lock ys j acc) (hj:ys.length<=j):iA lock ys=(ys.length,acc):=by
  obtain ⟨h1,h2,h3,h4,h5⟩:=h;rw [S6 hj] at h2 h3;exact Prod.ext (by dsimp only at h2 ⊢;omega) (by simpa using h3)
theorem AF (i:Nat) (w:World) (hn:n=xs.length) (hl:Sr fO 3 xs (.slice ad n cap) w) (hs:nj xs) (hi:i<xs.length):aD Tryz.prog 90 #[pV fv ad n cap,.int .i64 (i:Nat)] w (fun v w'=>v=RP xs i/\Ext w w'):=by
 have Es:=hs.1;have Ta:=hl.drop (l:=i+1) om;have EU:=hs.drop (i+1);obtain ⟨ys,nV⟩:∃ys,xs.drop (i+1)=ys:=⟨_,rfl⟩;have WY:ys.length=xs.length-(i+1):=(by rw [<-nV,List.length_drop]);have Ja:ez xs i=iA (xs.getD i default).a ys:=(by unfold ez;rw [nV]);rw [nV] at Ta EU;simp only [RP,Ja];refine aD.ak Tryz.func90 rfl Tryz.ntmps90 rfl ([]) (no) (Mem.nil w) ?_;refine J2 ?_;refine LM.box rfl rfl (fun b2 wi=>?_);refine LM.alloc Tryz.zeroValue101 rfl (fun b4 wG=>?_);refine J3 ?_;refine af.draw [(0,0),(1,0),(2,1),(3,0),(4,0),(5,1),(6,0),(7,0),(8,0),(9,1),(10,0),(11,2),(12,3)] kr kr ?_;refine J9 ?_;refine LD.dV rfl rfl (db (j:=1) aC Tryz.isAgg3 rfl rfl c7 (by rfl) (by rfl) id) ?_;refine LD.val rfl rfl (aE (cs:=#[_,_,_,_]) rfl (by first|rfl|kernel_rfl)) ?_;refine LD.alloc rfl rfl Tryz.zeroValue101 rfl (fun b5 BV=>?_);refine LD.tail rfl rfl ?_;refine LM.c6 Tryz.sizeOf101 rfl rfl rfl rfl cZ bF ?_;refine J1 ?_;refine QM.qn ?_;refine J8 ?_;refine LM.val (jV (i+1) Tryz.underlying60 Tryz.sizeOf103 rfl rfl om om) ?_;refine J5 ?_;refine af.aO (α:=Nat×Int) (fun ⟨j,acc⟩=>[(25,.int .i64 (j:Nat))]) [(1,_),(4,_),(5,_),(23,_),(24,_)] (fun ⟨j,acc⟩=>Li b5 (i:Nat) n (xs.getD i default).a acc::Li b4 0 0 0 0::pB b2 fv ad n cap:: []) (fun ⟨j,acc⟩=>uA (xs.getD i default).a ys j acc) (fun ⟨j,acc⟩=>ys.length-j) ((0,0)) cA aX (uA.zero _ ys) ?_;rintro ⟨j,acc⟩ hI;change af _ _ _ _ _ _ _ (Li b5 (i:Nat) n (xs.getD i default).a acc::Li b4 0 0 0 0::pB b2 fv ad n cap:: []) _ _ _;have hj:=hI.1;have hb:=EU.at j;obtain ⟨-,-,-,l6,wi⟩:=id hI;refine J6 ?_;refine af.aj rfl (fun h1=>?_) (fun h1=>?_)
 ·refine J8 ?_;refine LM.dV (de aC ir Tryz.isAgg103 Tryz.sizeOf103 rfl c7 id) ?_;refine LM.alloc Tryz.zeroValue103 rfl (fun b7 K9=>?_);refine J1 ?_;refine LM.c6 Tryz.sizeOf103 rfl rfl rfl rfl cZ bF ?_;refine cM ?_;refine af.mG (t:=30) rfl (fun h2=>?_) (fun h2=>?_)
  ·refine cF ?_;refine LM.st Tryz.sizeOf3 rfl rfl rfl dx rfl bF ?_;refine J4 ?_;refine LM.rd (aR Tryz.isAgg101 Tryz.sizeOf101 rfl rfl) ?_;refine LM.c6 Tryz.sizeOf101 rfl rfl rfl rfl cZ bF ?_;refine J9 ?_;refine QM.aG (ds:=([])) (.inl rfl) [.cell 4 101] Tryz.results90 aV (bU rfl Tryz.isAgg101 Tryz.sizeOf101 rfl aU) ?_;intro w' ao aa;have hq:=hI.stop om (Ab h2);refine ⟨?_,aa⟩;rw [hq];show sV _ _ _ _=_;congr 5
  refine J5 ?_;refine LM.aw (t:=37) rfl (fun h3=>?_) (fun h3=>?_)
  ·refine dc ?_;refine af.aj rfl (fun h4=>?_) (fun h4=>?_)
   ·refine J7 ?_;refine LM.st Tryz.sizeOf3 rfl rfl rfl dx rfl bF ?_;refine J4 ?_;refine LM.rd (aR Tryz.isAgg101 Tryz.sizeOf101 rfl rfl) ?_;refine LM.c6 Tryz.sizeOf101 rfl rfl rfl rfl cZ bF ?_;refine J9 ?_;refine QM.aG (ds:=([])) (.inl rfl) [.cell 4 101] Tryz.results90 aV (bU rfl Tryz.isAgg101 Tryz.sizeOf101 rfl aU) ?_;intro w' ao aa;have hq:=hI.stop om (Fm h3 h4);refine ⟨?_,aa⟩;rw [hq];show sV _ _ _ _=_;congr 5
   refine J8 ?_;refine af.aj rfl (fun h5=>?_) (fun h5=>?_)
   ·refine J7 ?_;refine LM.st Tryz.sizeOf3 rfl rfl rfl dx rfl bF ?_;refine J8 ?_;refine aK ((j+1,acc+(ys.getD j default).a)) ?_ ?_
    ·exact hI.step EU om (gx h2 (fun q=>by first|exact h4 q.2|exact h3 q.1)) (by rw [if_pos h5])
    ·omega
   refine J8 ?_;refine aK ((j+1,acc)) ?_ ?_
   ·exact hI.step EU om (gx h2 (fun q=>by first|exact h4 q.2|exact h3 q.1)) (by rw [if_neg h5];omega)
   ·(dsimp only;omega)
  refine En ?_;refine af.aj rfl (fun h6=>?_) (fun h6=>?_)
  ·refine J7 ?_;refine LM.st Tryz.sizeOf3 rfl rfl rfl dx rfl bF ?_;refine J8 ?_;refine aK ((j+1,acc+(ys.getD j default).a)) ?_ ?_
   ·exact hI.step EU om (gx h2 (fun q=>by first|exact h4 q.2|exact h3 q.1)) (by rw [if_pos h6])
   ·(dsimp only;omega)
  refine J8 ?_;refine aK ((j+1,acc)) ?_ ?_
  ·exact hI.step EU om (gx h2 (fun q=>by first|exact h4 q.2|exact h3 q.1)) (by rw [if_neg h6];omega)
  ·(dsimp only;omega)
 refine J7 ?_;refine LM.rd (aR Tryz.isAgg101 Tryz.sizeOf101 rfl rfl) ?_;refine LM.c6 Tryz.sizeOf101 rfl rfl rfl rfl cZ bF ?_;refine J3 ?_;refine QM.aG (ds:=([])) (.inl rfl) [.cell 4 101] Tryz.results90 aV (bU rfl Tryz.isAgg101 Tryz.sizeOf101 rfl aU) ?_;intro w' ao aa;have hq:=hI.fin om;refine ⟨?_,aa⟩;rw [hq];show sV _ _ _ _=_;congr 5;omega
theorem yM (i:Nat) (w:World) (hn:n=xs.length) (hl:Sr fO 3 xs (.slice ad n cap) w) (hs:nj xs) (hi:i<xs.length):aD Tryz.prog 102 #[pV fv ad n cap,.int .i64 (i:Nat)] w (fun v w'=>v=RP xs i/\Ext w w'):=by
 have Es:=hs.1;have EU:=hs.drop (i+1);obtain ⟨ys,nV⟩:∃ys,xs.drop (i+1)=ys:=⟨_,rfl⟩;have WY:ys.length=xs.length-(i+1):=(by rw [<-nV,List.length_drop]);have Ja:ez xs i=iA (xs.getD i default).a ys:=(by unfold ez;rw [nV]);have hyx:∀j,ys.getD j default=xs.getD (i+1+j) default:=(fun j=>by rw [<-nV,Kd]);rw [nV] at EU;simp only [RP,Ja];refine aD.ak Tryz.func102 rfl Tryz.ntmps102 rfl ([]) (no) (Mem.nil w) ?_;refine J2 ?_;refine LM.box rfl rfl (fun b2 wi=>?_);refine LM.alloc Tryz.zeroValue101 rfl (fun b4 wG=>?_);refine cM ?_;refine LM.dV (db (j:=1) aC Tryz.isAgg3 rfl rfl c7 (by rfl) (by rfl) id) ?_;refine LM.val (aE (cs:=#[_,_,_,_]) rfl (by first|rfl|kernel_rfl)) ?_;refine LM.alloc Tryz.zeroValue101 rfl (fun b5 BV=>?_);refine LM.c6 Tryz.sizeOf101 rfl rfl rfl rfl cZ bF ?_;refine J4 ?_;refine af.aO (α:=Nat×Int×Int) (fun ⟨j,to,acc⟩=>[]) [(2,_),(4,_),(5,_)] (fun ⟨j,to,acc⟩=>Li b5 (i:Nat) to (xs.getD i default).a acc::Li b4 0 0 0 0::pB b2 fv ad n cap:: []) (fun ⟨j,to,acc⟩=>uA (xs.getD i default).a ys j acc/\to=(i:Int)+1+(j:Nat)) (fun ⟨j,to,acc⟩=>ys.length-j) ((0,(i:Int)+1,0)) cA aX ⟨uA.zero _ ys,by simp⟩ ?_;rintro ⟨j,to,acc⟩ ⟨hI,hto⟩;change af _ _ _ _ _ _ _ (Li b5 (i:Nat) to (xs.getD i default).a acc::Li b4 0 0 0 0::pB b2 fv ad n cap:: []) _ _ _;have hj:=hI.1;have htn:to.toNat=i+1+j:=om;have qA:ys.getD j default=xs.getD to.toNat default:=(by rw [hyx,htn]);have hb:=EU.at j;rw [qA] at hb;obtain ⟨-,-,-,l6,wi⟩:=id hI;refine dc ?_;refine af.aj rfl (fun h1=>?_) (fun h1=>?_)
 ·refine J9 ?_;refine LM.val (c4 qw Tryz.underlying60 Tryz.sizeOf103 rfl rfl om) ?_;refine LM.dV (de aC ir Tryz.isAgg103 Tryz.sizeOf103 rfl c7 id) ?_;refine LM.alloc Tryz.zeroValue103 rfl (fun b6 Qo=>?_);refine LM.c6 Tryz.sizeOf103 rfl rfl rfl rfl cZ bF ?_;refine J9 ?_;refine LM.aw (t:=32) rfl (fun h2=>?_) (fun h2=>?_)
  ·refine J3 ?_;refine LM.dL (t:=32) rfl rfl rfl ?_;refine cM ?_;refine LM.rd (aR Tryz.isAgg101 Tryz.sizeOf101 rfl rfl) ?_;refine LM.c6 Tryz.sizeOf101 rfl rfl rfl rfl cZ bF ?_;refine J8 ?_;refine QM.aG (ds:=([])) (.inl rfl) [.cell 4 101] Tryz.results102 aV (bU rfl Tryz.isAgg101 Tryz.sizeOf101 rfl aU) ?_;intro w' ao aa;have hq:=hI.stop om (by rw [qA];exact Ab h2);refine ⟨?_,aa⟩;rw [hq];show sV _ _ _ _=_;congr 5
  refine J5 ?_;refine LM.aw (t:=36) rfl (fun h3=>?_) (fun h3=>?_)
  ·refine dc ?_;refine af.aj rfl (fun h4=>?_) (fun h4=>?_)
   ·refine J2 ?_;refine LM.rd (aR Tryz.isAgg101 Tryz.sizeOf101 rfl rfl) ?_;refine LM.c6 Tryz.sizeOf101 rfl rfl rfl rfl cZ bF ?_;refine J8 ?_;refine QM.aG (ds:=([])) (.inl rfl) [.cell 4 101] Tryz.results102 aV (bU rfl Tryz.isAgg101 Tryz.sizeOf101 rfl aU) ?_;intro w' ao aa;have hq:=hI.stop om (by rw [qA];exact Fm h3 h4);refine ⟨?_,aa⟩;rw [hq];show sV _ _ _ _=_;congr 5
   refine cF ?_;refine af.aj rfl (fun h5=>?_) (fun h5=>?_)
   ·refine J7 ?_;refine LM.st Tryz.sizeOf3 rfl rfl rfl dx rfl bF ?_;refine J7 ?_;refine LM.st Tryz.sizeOf3 rfl rfl rfl dx rfl bF ?_;refine J2 ?_;refine aK ((j+1,to+1,acc+(xs.getD to.toNat default).a)) ?_ ?_
    ·exact⟨hI.step EU om (by rw [qA];exact gx h2 (fun q=>by first|exact h4 q.2|exact h3 q.1)) (by rw [qA,if_pos h5]),by push_cast;omega⟩
    ·omega
   refine J7 ?_;refine LM.st Tryz.sizeOf3 rfl rfl rfl dx rfl bF ?_;refine J2 ?_;refine aK ((j+1,to+1,acc)) ?_ ?_
   ·exact⟨hI.step EU om (by rw [qA];exact gx h2 (fun q=>by first|exact h4 q.2|exact h3 q.1)) (by rw [qA,if_neg h5];omega),by push_cast;omega⟩
   ·(dsimp only;omega)
  refine Zg ?_;refine af.aj rfl (fun h6=>?_) (fun h6=>?_)
  ·refine J7 ?_;refine LM.st Tryz.sizeOf3 rfl rfl rfl dx rfl bF ?_;refine J7 ?_;refine LM.st Tryz.sizeOf3 rfl rfl rfl dx rfl bF ?_;refine J2 ?_;refine aK ((j+1,to+1,acc+(xs.getD to.toNat default).a)) ?_ ?_
   ·exact⟨hI.step EU om (by rw [qA];exact gx h2 (fun q=>by first|exact h4 q.2|exact h3 q.1)) (by rw [qA,if_pos h6]),by push_cast;omega⟩
   ·(dsimp only;omega)
  refine J7 ?_;refine LM.st Tryz.sizeOf3 rfl rfl rfl dx rfl bF ?_;refine J2 ?_;refine aK ((j+1,to+1,acc)) ?_ ?_
  ·exact⟨hI.step EU om (by rw [qA];exact gx h2 (fun q=>by first|exact h4 q.2|exact h3 q.1)) (by rw [qA,if_neg h6];omega),by push_cast;omega⟩
  ·(dsimp only;omega)
 refine J7 ?_;refine LM.rd (aR Tryz.isAgg101 Tryz.sizeOf101 rfl rfl) ?_;refine LM.c6 Tryz.sizeOf101 rfl rfl rfl rfl cZ bF ?_;refine J3 ?_;refine QM.aG (ds:=([])) (.inl rfl) [.cell 4 101] Tryz.results102 aV (bU rfl Tryz.isAgg101 Tryz.sizeOf101 rfl aU) ?_;intro w' ao aa;have hq:=hI.fin om;refine ⟨?_,aa⟩;rw [hq];show sV _ _ _ _=_;congr 5;omega
abbrev lBc (b:Nat) (ad:Option Addr) (n cap:Nat):Nat×Obj:=(b,.cells #[.slice ad n cap] 27 (0,0))
abbrev Ld (b:Nat) (x:Int):Nat×Obj:=(b,.cells #[.int .i64 x] 3 (0,0))
abbrev eBc (b:Nat) (x:Int):Nat×Obj:=(b,.cells #[.int .i64 x] 106 (0,0))
def xS (fv:Bool) (ad:Option Addr) (n cap:Nat) (n0:Nat) (v:Value) (m:ab):Prop:=∃b1,v= .func (.func 175) #[] #[.pointer (some ⟨b1,0,none⟩)]/\m=[pB b1 fv ad n cap]/\n0<=b1
theorem xS.mono:∀(k k':Nat) u m,k'<=k->xS fv ad n cap k u m->xS fv ad n cap k' u m:=fun k k' u m h ⟨b1,h1,h2,h3⟩=>⟨b1,h1,h2,by omega⟩
def Ef (fv:Bool) (ad:Option Addr) (n cap:Nat) (n0:Nat) (v:Value) (m:ab):Prop:=∃b1,v= .func (.func 88) #[] #[.pointer (some ⟨b1,0,none⟩)]/\m=[pB b1 fv ad n cap]/\n0<=b1
theorem Ef.mono:∀(k k':Nat) u m,k'<=k->Ef fv ad n cap k u m->Ef fv ad n cap k' u m:=fun k k' u m h ⟨b1,h1,h2,h3⟩=>⟨b1,h1,h2,by omega⟩
theorem Ie {T K:Bool} {q:Bool} (hq:q=((T||K)&&decide (a >= n))) (h:q=false) (ht:T=true):a<n:=by
  rw [h,ht,Bool.true_or,Bool.true_and] at hq;have:=of_decide_eq_false hq.symm;omega
set_option maxHeartbeats 1000000 in
theorem KP {ow:Option Addr} {n2 fa:Nat} (i:Nat) (bV:Int) (w:World) (hn:n=xs.length) (hl:Sr fO 3 xs (.slice ad n cap) w) (y5:n2=ls.length) (mL:Sr fL 5 ls (.slice ow n2 fa) w) (vA:jl xs=true) (hi:i<xs.length):aD Tryz.prog 161 #[pV fv ad n cap,.int .i64 (i:Nat),.slice ow n2 fa,.int .i64 bV] w (fun v w'=>v= .int .i64 (dC fv xs ls bV i)/\Ext w w'):=by
 have hs:=qc vA;have hr:=r6 (tL vA hi);refine aD.ak Tryz.func161 rfl Tryz.ntmps161 rfl ([]) (no) (Mem.nil w) ?_;refine J2 ?_;refine LM.box rfl rfl (fun b4 wG=>?_);refine J9 ?_;refine LM.dV (de aC ir Tryz.isAgg103 Tryz.sizeOf103 rfl c7 id) ?_;refine LM.alloc Tryz.zeroValue103 rfl (fun b9 hb9=>?_);refine LM.c6 Tryz.sizeOf103 rfl rfl rfl rfl cZ bF ?_;refine J6 ?_;refine cE Tryz.func89 rfl (fun w hm hc hg=>xC _ w) ?_;refine J7 ?_;refine af.bB (α:=Bool) (fun q=>[(20,.bool q)]) [(1,_),(2,_),(3,_),(4,_),(9,_),(10,_)] (fun q=>oB b9 (xs.getD i default)::pB b4 fv ad n cap:: []) (fun q=>q=((cD (xs.getD i default).k||decide ((xs.getD i default).k=6))&&decide ((xs.getD i default).a >= n2))) cA ?_ ?_
 ·refine J3 ?_;refine LM.bn (t:=22) rfl (fun h1=>?_) (fun h1=>?_)
  ·refine kR ?_;refine mK (_) ?_
   ·simp only [h1,decide_true,decide_false,Bool.true_and,Bool.false_and,Bool.and_true,Bool.and_false,Bool.not_true,Bool.not_false,Bool.true_or,Bool.false_or,Bool.or_true,Bool.or_false,ne_eq,not_true_eq_false,not_false_eq_true,Bool.and_self]
  refine J6 ?_;refine LM.aw (t:=27) rfl (fun h2=>?_) (fun h2=>?_)
  ·refine J9 ?_;refine mK (_) ?_
   ·simp only [h1,h2,decide_true,decide_false,Bool.true_and,Bool.false_and,Bool.and_true,Bool.and_false,Bool.not_true,Bool.not_false,Bool.true_or,Bool.false_or,Bool.or_true,Bool.or_false,ne_eq,not_true_eq_false,not_false_eq_true,Bool.and_self]
  refine J8 ?_;refine mK (_) ?_
  ·simp only [h1,h2,decide_true,decide_false,Bool.true_and,Bool.false_and,Bool.and_true,Bool.and_false,Bool.not_true,Bool.not_false,Bool.true_or,Bool.false_or,Bool.or_true,Bool.or_false,ne_eq,not_true_eq_false,not_false_eq_true,Bool.and_self]
 rintro q hq;change QM _ _ _ _ _ (oB b9 (xs.getD i default)::pB b4 fv ad n cap:: []) _ _ _;refine J1 ?_;refine af.U8 (t:=20) rfl (fun h3=>?_) (fun h3=>?_)
 ·refine dc ?_;refine qL Tryz.results161 rfl fun w' ao aa aA=>?_;refine ⟨?_,aa⟩;simp only [bd,dC,<-hn,<-y5,<-hq];simp only [h3,decide_true,decide_false,Bool.true_and,Bool.false_and,Bool.and_true,Bool.and_false,Bool.not_true,Bool.not_false,Bool.true_or,Bool.false_or,Bool.or_true,Bool.or_false,ne_eq,not_true_eq_false,not_false_eq_true,Bool.and_self,if_true,ite_true]
 refine af.bB (α:=Bool) (fun q2=>[(20,.bool q2)]) [(1,_),(2,_),(4,_),(9,_),(10,_)] (fun q2=>oB b9 (xs.getD i default)::pB b4 fv ad n cap:: []) (fun q2=>q2=(decide ((xs.getD i default).k=9)&&decide ((xs.getD i default).a >= bV))) cA ?_ ?_
 ·refine J5 ?_;refine LM.aw (t:=37) rfl (fun h4=>?_) (fun h4=>?_)
  ·refine J8 ?_;refine mK (_) ?_
   ·simp only [h3,h4,decide_true,decide_false,Bool.true_and,Bool.false_and,Bool.and_true,Bool.and_false,Bool.not_true,Bool.not_false,Bool.true_or,Bool.false_or,Bool.or_true,Bool.or_false,ne_eq,not_true_eq_false,not_false_eq_true,Bool.and_self]
  refine J7 ?_;refine mK (_) ?_
  ·simp only [h3,h4,decide_true,decide_false,Bool.true_and,Bool.false_and,Bool.and_true,Bool.and_false,Bool.not_true,Bool.not_false,Bool.true_or,Bool.false_or,Bool.or_true,Bool.or_false,ne_eq,not_true_eq_false,not_false_eq_true,Bool.and_self]
 rintro q2 jY;change QM _ _ _ _ _ (oB b9 (xs.getD i default)::pB b4 fv ad n cap:: []) _ _ _;refine J1 ?_;refine af.aN rfl (fun h5=>?_) (fun h5=>?_)
 ·refine J8 ?_;refine qL Tryz.results161 rfl fun w' ao aa aA=>?_;refine ⟨?_,aa⟩;simp only [bd,dC,<-hn,<-y5,<-hq,<-jY];simp only [h3,h5,decide_true,decide_false,Bool.true_and,Bool.false_and,Bool.and_true,Bool.and_false,Bool.not_true,Bool.not_false,Bool.true_or,Bool.false_or,Bool.or_true,Bool.or_false,ne_eq,not_true_eq_false,not_false_eq_true,Bool.and_self,if_true,ite_true]
 refine J1 ?_;refine af.bB (α:=Bool) (fun q3=>[(43,.bool q3)]) [(1,_),(2,_),(4,_),(9,_),(10,_)] (fun q3=>oB b9 (xs.getD i default)::pB b4 fv ad n cap:: []) (fun q3=>q3=(decide ((xs.getD i default).k=3)&& !(ls.getD (xs.getD i default).a.toNat default).sh)) cA ?_ ?_
 ·refine J5 ?_;refine LM.aw (t:=47) rfl (fun h6=>?_) (fun h6=>?_)
  ·have bo:=Ie hq h3 (by rw [h6];rfl);refine J4 ?_;refine LM.sp 47 rfl rfl rfl ?_;refine LM.val (c4 qw Tryz.underlying27 Tryz.sizeOf74 rfl rfl om) ?_;refine J2 ?_;refine LM.dV (db (j:=0) aC Tryz.isAgg4 rfl rfl c7 (by rfl) (by rfl) id) ?_;refine J4 ?_;refine mK (_) ?_
   ·simp only [h3,h5,h6,decide_true,decide_false,Bool.true_and,Bool.false_and,Bool.and_true,Bool.and_false,Bool.not_true,Bool.not_false,Bool.true_or,Bool.false_or,Bool.or_true,Bool.or_false,ne_eq,not_true_eq_false,not_false_eq_true,Bool.and_self]
  refine cF ?_;refine mK (_) ?_
  ·simp only [h3,h5,h6,decide_true,decide_false,Bool.true_and,Bool.false_and,Bool.and_true,Bool.and_false,Bool.not_true,Bool.not_false,Bool.true_or,Bool.false_or,Bool.or_true,Bool.or_false,ne_eq,not_true_eq_false,not_false_eq_true,Bool.and_self]
 rintro q3 DA;change QM _ _ _ _ _ (oB b9 (xs.getD i default)::pB b4 fv ad n cap:: []) _ _ _;refine J1 ?_;refine af.aN rfl (fun h7=>?_) (fun h7=>?_)
 ·refine J8 ?_;refine qL Tryz.results161 rfl fun w' ao aa aA=>?_;refine ⟨?_,aa⟩;simp only [bd,dC,<-hn,<-y5,<-hq,<-jY,<-DA];simp only [h3,h5,h7,decide_true,decide_false,Bool.true_and,Bool.false_and,Bool.and_true,Bool.and_false,Bool.not_true,Bool.not_false,Bool.true_or,Bool.false_or,Bool.or_true,Bool.or_false,ne_eq,not_true_eq_false,not_false_eq_true,Bool.and_self,if_true,if_false,ite_true,Bool.false_eq_true]
 refine J7 ?_;refine af.aN rfl (fun h8=>?_) (fun h8=>?_)
 ·refine J8 ?_;refine qL Tryz.results161 rfl fun w' ao aa aA=>?_;refine ⟨?_,aa⟩;simp only [bd,dC,<-hn,<-y5,<-hq,<-jY,<-DA];simp only [h3,h5,h7,h8,decide_true,decide_false,Bool.true_and,Bool.false_and,Bool.and_true,Bool.and_false,Bool.not_true,Bool.not_false,Bool.true_or,Bool.false_or,Bool.or_true,Bool.or_false,ne_eq,not_true_eq_false,not_false_eq_true,Bool.and_self,if_true,if_false,ite_true,Bool.false_eq_true]
 have bo:=Ie hq h3 (by simpa using h8);refine J5 ?_;refine LM.rd (aR Tryz.isAgg62 Tryz.sizeOf62 rfl rfl) ?_;refine J1 ?_;refine cE Tryz.func90 rfl (fun w hm hc hg=>AF i w hn (hl.ext hc) hs hi) ?_;refine LM.alloc Tryz.zeroValue101 rfl (fun b11 aaN=>?_);refine LM.c6 Tryz.sizeOf101 rfl rfl rfl rfl cZ bF ?_;refine J4 ?_;refine af.bB (α:=Bool) (fun q4=>[(87,.bool q4)]) [] (fun q4=>[]) (fun q4=>q4=(decide ((ez xs i).2<1)||decide ((ez xs i).2 > (ls.getD (xs.getD i default).a.toNat default).cr)||fv&&decide (((i+1+(ez xs i).1:Nat):Int)=n))) trivial ?_ ?_
 ·refine af.draw [(0,0),(1,1),(2,0),(3,0),(4,0),(5,1),(6,0),(7,0),(8,1),(9,0),(10,0),(11,1),(12,0),(13,0),(14,0),(15,0),(16,1),(17,0),(18,0),(19,1),(20,0),(21,1),(22,0),(23,0),(24,0),(25,0)] kr kr ?_;refine J4 ?_;refine LD.aw (t:=65) rfl (fun h9=>?_) (fun h9=>?_)
  ·refine gz ?_;refine LD.dL rfl rfl ⟨76,_,rfl,rfl,rfl⟩ ?_;refine J9 ?_;refine mK (_) ?_
   ·simp only [h3,h5,h7,h8,h9,decide_true,decide_false,Bool.true_and,Bool.false_and,Bool.and_true,Bool.and_false,Bool.not_true,Bool.not_false,Bool.true_or,Bool.false_or,Bool.or_true,Bool.or_false,ne_eq,not_true_eq_false,not_false_eq_true,Bool.and_self]
  refine J5 ?_;refine LD.val rfl ⟨65,_,rfl,rfl,rfl⟩ (c4 qw Tryz.underlying27 Tryz.sizeOf74 rfl rfl om) ?_;refine J1 ?_;refine LD.dV rfl ⟨65,_,rfl,rfl,rfl⟩ (db (j:=2) aC Tryz.isAgg3 rfl rfl c7 (by rfl) (by rfl) id) ?_;refine J3 ?_;refine LD.aw (t:=76) rfl (fun je=>?_) (fun je=>?_)
  ·refine J2 ?_;refine LD.dL rfl rfl ⟨76,_,rfl,rfl,rfl⟩ ?_;refine J9 ?_;refine mK (_) ?_
   ·simp only [h3,h5,h7,h8,h9,je,decide_true,decide_false,Bool.true_and,Bool.false_and,Bool.and_true,Bool.and_false,Bool.not_true,Bool.not_false,Bool.true_or,Bool.false_or,Bool.or_true,Bool.or_false,ne_eq,not_true_eq_false,not_false_eq_true,Bool.and_self]
  refine J3 ?_;refine LD.bn (t:=79) rfl (fun lK=>?_) (fun lK=>?_)
  ·refine J9 ?_;refine mK (_) ?_
   ·simp only [h3,h5,h7,h8,h9,je,lK,decide_true,decide_false,Bool.true_and,Bool.false_and,Bool.and_true,Bool.and_false,Bool.not_true,Bool.not_false,Bool.true_or,Bool.false_or,Bool.or_true,Bool.or_false,ne_eq,not_true_eq_false,not_false_eq_true,Bool.and_self]
  refine J9 ?_;refine mK (_) ?_
  ·simp only [h3,h5,h7,h8,h9,je,lK,decide_true,decide_false,Bool.true_and,Bool.false_and,Bool.and_true,Bool.and_false,Bool.not_true,Bool.not_false,Bool.true_or,Bool.false_or,Bool.or_true,Bool.or_false,ne_eq,not_true_eq_false,not_false_eq_true,Bool.and_self]
 rintro q4 Qu;change QM _ _ _ _ _ ([]) _ _ _;refine J1 ?_;refine af.aN rfl (fun rz=>?_) (fun rz=>?_)
 ·refine J7 ?_;refine qL Tryz.results161 rfl fun w' ao aa aA=>?_;refine ⟨?_,aa⟩;simp only [bd,dC,<-hn,<-y5,<-hq,<-jY,<-DA,<-Qu];simp only [h3,h5,h7,h8,rz,decide_true,decide_false,Bool.true_and,Bool.false_and,Bool.and_true,Bool.and_false,Bool.not_true,Bool.not_false,Bool.true_or,Bool.false_or,Bool.or_true,Bool.or_false,ne_eq,not_true_eq_false,not_false_eq_true,Bool.and_self,if_true,if_false,ite_true,Bool.false_eq_true]
 refine J8 ?_;refine qL Tryz.results161 rfl fun w' ao aa aA=>?_;refine ⟨?_,aa⟩;simp only [bd,dC,<-hn,<-y5,<-hq,<-jY,<-DA,<-Qu];simp only [h3,h5,h7,h8,rz,decide_true,decide_false,Bool.true_and,Bool.false_and,Bool.and_true,Bool.and_false,Bool.not_true,Bool.not_false,Bool.true_or,Bool.false_or,Bool.or_true,Bool.or_false,ne_eq,not_true_eq_false,not_false_eq_true,Bool.and_self,if_true,if_false,ite_true,Bool.false_eq_true]
theorem GF (fv:Bool) (ad:Option Addr) (n cap:Nat) (w:World):aD Tryz.prog 160 #[pV fv ad n cap] w (fun v w'=>Ext w w'/\∃m,xS fv ad n cap w.heap.size v m/\Mem w' m/\∀p∈m,w.heap.size<=p.1):=by
 refine aD.ak Tryz.func160 rfl Tryz.ntmps160 rfl ([]) (no) (Mem.nil w) ?_;refine J2 ?_;refine LM.box rfl rfl (fun b1 l6=>?_);refine J5 ?_;refine LM.val (oF rfl) ?_;refine J4 ?_;refine qL Tryz.results160 rfl fun w' ao aa aA=>?_;exact⟨aa,_,⟨b1,rfl,rfl,l6⟩,ao,fun p hp=>by simp only [List.mem_cons,List.not_mem_nil,or_false] at hp;subst hp;assumption⟩
theorem Kl (fv:Bool) (ad:Option Addr) (n cap:Nat) (w:World):aD Tryz.prog 40 #[pV fv ad n cap] w (fun v w'=>Ext w w'/\∃m,Ef fv ad n cap w.heap.size v m/\Mem w' m/\∀p∈m,w.heap.size<=p.1):=by
 refine aD.ak Tryz.func40 rfl Tryz.ntmps40 rfl ([]) (no) (Mem.nil w) ?_;refine J2 ?_;refine LM.box rfl rfl (fun b1 l6=>?_);refine J5 ?_;refine LM.val (oF rfl) ?_;refine J4 ?_;refine qL Tryz.results40 rfl fun w' ao aa aA=>?_;exact⟨aa,_,⟨b1,rfl,rfl,l6⟩,ao,fun p hp=>by simp only [List.mem_cons,List.not_mem_nil,or_false] at hp;subst hp;assumption⟩
set_option maxHeartbeats 1000000 in
theorem KZ {b1:Nat} (hn:n=xs.length) (ZD:xs.length<=1000000000000):yR Tryz.prog 175 #[.pointer (some ⟨b1,0,none⟩)] (xl xs) (fun w=>Mem w [pB b1 fv ad n cap]/\Sr fO 3 xs (.slice ad n cap) w) (True):=by
 refine yR.enter (lb:=[.pointer (some ⟨b1,0,none⟩)]) Tryz.func175 rfl Tryz.ntmps175 rfl ?_;intro l n0 J Jx w0 vy Hg gJ gJx hy;refine J3 ?_;refine LM.dV (fun w _ _ hg=>vC 0 Tryz.isAgg60 rfl rfl rfl w (Hg _ w hg).1) ?_;refine J5 ?_;refine af.Qi (α:=Nat) (fun i=>[(8,.int .i64 (i:Nat))]) [(0,_),(6,_),(7,_)] (fun i=>[]) (fun i=>J i) (fun i=>i<=xs.length) (fun i=>xs.length-i) (0) cA aX (fun _ h=>h) (Nat.zero_le _) ?_;rintro i hi;change af _ _ _ _ _ _ _ ([]) _ _ _;refine J6 ?_;refine af.aj rfl (fun h1=>?_) (fun h1=>?_)
 ·refine J7 ?_;refine LM.yi (fun w _ _ hg=>(Hg _ w hg).2.Uz) (fun C4=>?_);refine LM.val (gh C4 Tryz.underlying60 Tryz.sizeOf103 rfl rfl om) ?_;refine LM.dV (fun w hm hc hg=>Am (Hg _ w hg).2 ir Tryz.isAgg103 Tryz.sizeOf103 rfl (aH default om)) ?_;refine LM.Pb Tryz.zeroValue103 rfl (fun b4 wG=>?_);refine J1 ?_;refine LM.Z6 Tryz.sizeOf103 rfl rfl rfl rfl cZ bF om ?_;refine LM.unF ?_;refine J6 ?_;refine LM.rd (aR Tryz.isAgg103 Tryz.sizeOf103 rfl rfl) ?_;refine LM.mem (M':=[]) (fun w _=>Mem.nil w) ?_;refine LM.yield (n:=n0) (G1:=J (i+1)) (G2:=Jx) rfl rfl (fun w hj=>hy (i) _ w (zw om) hj) (fun _=>trivial) ?_ ?_
  ·refine dc ?_;refine QM.dk (i+1) cA aX (fun w h=>h) ?_ ?_
   ·omega
   ·omega
  refine J9 ?_;refine QM.leave (.inl rfl) [] Tryz.results175 rfl ?_;intro w' ao aa aA;exact .inr aA
 refine J4 ?_;refine QM.leave (.inr rfl) [] Tryz.results175 rfl ?_;intro w' ao aa aA
 (have eA:i=xs.length:=om;subst eA;exact .inl (by rw [p6];exact aA))
def UA (fv:Bool) (xs:List bO) (ls:List jD) (bV:Int):Value:= .tuple #[.int .i64 (ES fv xs ls bV).1,.int .i64 (ES fv xs ls bV).2]
theorem Ey {T K r:Bool} {q:Bool} (hq:q=((T||K)&&decide (a >= n)||r)) (h:q=false) (ht:T=true):a<n:=by
  rw [h,ht,Bool.true_or,Bool.true_and] at hq;have:=(Bool.or_eq_false_iff.1 hq.symm).1;have:=of_decide_eq_false this;omega
theorem z9 {bV:Int} (h:jl xs=true) (h0:∀j,j<i->dC fv xs ls bV j=0) (hi:i<xs.length) (hf:dC fv xs ls bV i=e) (he:e≠0):UA fv xs ls bV= .tuple #[.int .i64 (i:Nat),.int .i64 e] :=by
  unfold UA;rw [ZV h h0 hi (by rw [hf];exact he),hf]
theorem p8 {bV:Int} {b:Bool} (h:jl xs=true) (h0:∀j,j<xs.length->dC fv xs ls bV j=0) (hb:(fv&& !xs.any (fun o=>eV o.k))=b):UA fv xs ls bV= .tuple #[.int .i64 0,.int .i64 (if b then 1 else 0)] :=by
  unfold UA;rw [VW h h0,hb];cases b<;>rfl
theorem Dt {bV:Int} (h:jl xs=false):UA fv xs ls bV= .tuple #[.int .i64 0,.int .i64 1] :=by
  unfold UA;rw [SB h]
theorem FW {ow:Option Addr} {n2 fa:Nat} (bV:Int) (w:World) (hn:n=xs.length) (hl:Sr fO 3 xs (.slice ad n cap) w) (y5:n2=ls.length) (mL:Sr fL 5 ls (.slice ow n2 fa) w):aD Tryz.prog 136 #[pV fv ad n cap,.slice ow n2 fa,.int .i64 bV] w (fun v w'=>v=UA fv xs ls bV/\Ext w w'):=by
 refine aD.ak Tryz.func136 rfl Tryz.ntmps136 rfl ([]) (no) (Mem.nil w) ?_;refine J2 ?_;refine LM.box rfl rfl (fun b3 FM=>?_);refine LM.box rfl rfl (fun b4 wG=>?_);refine LM.box rfl rfl (fun b5 BV=>?_);refine LM.alloc Tryz.zeroValue3 rfl (fun b6 Qo=>?_);refine LM.alloc Tryz.zeroValue106 rfl (fun b7 K9=>?_);refine J5 ?_;refine LM.rd (aR Tryz.isAgg62 Tryz.sizeOf62 rfl rfl) ?_;refine cE Tryz.func159 rfl (fun w hm hc hg=>Kn w hn (hl.ext hc)) ?_;refine J3 ?_;refine af.aN rfl (fun h1=>?_) (fun h1=>?_)
 ·refine J2 ?_;refine LM.st Tryz.sizeOf3 rfl rfl rfl dx rfl bF ?_;refine LM.st Tryz.sizeOf106 rfl rfl rfl dx rfl bF ?_;refine J4 ?_;refine QM.aG (ds:=([])) (.inl rfl) [.cell 6 3,.cell 7 106] Tryz.results136 aV (yO rfl Tryz.isAgg3 rfl (yO rfl Tryz.isAgg106 rfl aU)) ?_;intro w' ao aa;exact⟨(Dt (by simpa using h1)).symm,aa⟩
 have vA:jl xs=true:=(by simpa using h1);have Es:=(qc vA).1;refine J5 ?_;refine LM.rd (aR Tryz.isAgg62 Tryz.sizeOf62 rfl rfl) ?_;refine LM.dS (oC Tryz.func160) xS.mono (fun w hm hc hg=>GF fv ad n cap w) ?_;rintro u14 EP ⟨c1,rfl,rfl,HY⟩-;refine J3 ?_;refine af.sn (α:=Unit) (fun k ⟨⟩=>pB c1 fv ad n cap::eBc b7 0::Ld b6 0::Ld b5 bV::lBc b4 ow n2 fa::pB b3 fv ad n cap:: []) (⟨⟩) aX ?_;refine af.range (α:=Unit) (β:=Nat) (dF Tryz.func175 kr rfl) rfl (KZ (xs:=xs) hn om) (fun k ⟨⟩=>pB c1 fv ad n cap::eBc b7 0::Ld b6 0::Ld b5 bV::lBc b4 ow n2 fa::pB b3 fv ad n cap:: []) (fun _ _=>top) (fun k ⟨⟩=>k<=xs.length/\∀j,j<k->dC fv xs ls bV j=0) (fun i=>eBc b7 (dC fv xs ls bV i)::Ld b6 (i:Nat):: []) (fun _=>top) (fun c i=>c= .ret/\i<xs.length/\(∀j,j<i->dC fv xs ls bV j=0)/\dC fv xs ls bV i≠0) ⟨⟩ rfl (fun _ h=>h) ⟨Nat.zero_le _,fun j hj=>absurd hj (Nat.not_lt_zero _)⟩ kr (by intro k av vW;obtain ⟨hkx,rfl⟩:=zZ vW;rfl) (.inl trivial) (fun k a w hm hc _ _=>⟨aJ.mem aX w hm,hl.ext hc⟩) (fun _ _ _ _=>kW _) (fun _ _ _=>kW _) (fun k x _=>by((repeat (refine c9 rfl ?_));exact fun p hp=> .inl (by first|exact hp|(simp at hp;done)|(simp [hp];done)|(simp at hp ⊢;first|exact .inl hp|exact hp|(simp [hp];done))))) (fun c z _=>by((repeat (refine c9 rfl ?_));exact fun p hp=> .inl (by first|exact hp|(simp at hp;done)|(simp [hp];done)|(simp at hp ⊢;first|exact .inl hp|exact hp|(simp [hp];done))))) ?_ ?_ ?_ ?_
 ·rintro k av ⟨⟩ l D rc n1 W1 hD eE AO OB vW ⟨hk,h0⟩;change af _ _ _ _ _ _ _ ((l,Obj.loop rc)::([(D,Obj.deferred (some []))] ++(pB c1 fv ad n cap::eBc b7 0::Ld b6 0::Ld b5 bV::lBc b4 ow n2 fa::pB b3 fv ad n cap:: []))) _ _ _;obtain ⟨hkx,rfl⟩:=zZ vW;refine J3 ?_;refine QM.sf (AO k ⟨⟩) eE ?_;refine J3 ?_;refine LM.rd (aR Tryz.isAgg62 Tryz.sizeOf62 rfl rfl) ?_;refine J3 ?_;refine cE Tryz.func161 rfl (fun w hm hc hg=>KP k bV w hn (hl.ext hc) y5 (mL.ext hc) vA hkx) ?_;refine J9 ?_;refine af.aj rfl (fun h2=>?_) (fun h2=>?_)
  ·refine J4 ?_;refine LM.st Tryz.sizeOf3 rfl rfl rfl dx rfl bF ?_;refine LM.st Tryz.sizeOf106 rfl rfl rfl dx rfl bF ?_;refine J4 ?_;refine QM.Wq (k) (aJ.mem aX) (fun _ h=>h) ?_
   ·exact⟨rfl,hkx,h0,by simpa using h2⟩
  refine J2 ?_;refine QM.next (⟨⟩) (aJ.mem aX) (fun _ h=>h) ?_
  ·exact⟨by omega,oH h0 (by simpa using h2)⟩
 ·rintro ⟨⟩ D0 As ⟨hk,h0⟩;refine J8 ?_;refine LM.bn (t:=28) rfl (fun h3=>?_) (fun h3=>?_)
  ·refine J4 ?_;refine cE Tryz.func162 rfl (fun w hm hc hg=>Qb w hn (hl.ext hc) om) ?_;refine J4 ?_;refine af.aN rfl (fun h4=>?_) (fun h4=>?_)
   ·refine J2 ?_;refine LM.st Tryz.sizeOf3 rfl rfl rfl dx rfl bF ?_;refine LM.st Tryz.sizeOf106 rfl rfl rfl dx rfl bF ?_;refine J4 ?_;refine QM.aG (ds:=(D0:: [])) (.inl rfl) [.cell 6 3,.cell 7 106] Tryz.results136 (rD As aV) (yO rfl Tryz.isAgg3 rfl (yO rfl Tryz.isAgg106 rfl aU)) ?_;intro w' ao aa;exact⟨(p8 (b:=true) vA (fun j hj=>h0 j (by rw [p6];exact hj)) (by rw [h3,h4];rfl)).symm,aa⟩
   refine J4 ?_;refine LM.st Tryz.sizeOf3 rfl rfl rfl dx rfl bF ?_;refine LM.st Tryz.sizeOf106 rfl rfl rfl dx rfl bF ?_;refine J3 ?_;refine QM.aG (ds:=(D0:: [])) (.inl rfl) [.cell 6 3,.cell 7 106] Tryz.results136 (rD As aV) (yO rfl Tryz.isAgg3 rfl (yO rfl Tryz.isAgg106 rfl aU)) ?_;intro w' ao aa;exact⟨(p8 (b:=false) vA (fun j hj=>h0 j (by rw [p6];exact hj)) (by rw [h3,h4];rfl)).symm,aa⟩
  refine cM ?_;refine LM.st Tryz.sizeOf3 rfl rfl rfl dx rfl bF ?_;refine LM.st Tryz.sizeOf106 rfl rfl rfl dx rfl bF ?_;refine J3 ?_;refine QM.aG (ds:=(D0:: [])) (.inl rfl) [.cell 6 3,.cell 7 106] Tryz.results136 (rD As aV) (yO rfl Tryz.isAgg3 rfl (yO rfl Tryz.isAgg106 rfl aU)) ?_;intro w' ao aa;exact⟨(p8 (b:=false) vA (fun j hj=>h0 j (by rw [p6];exact hj)) (by rw [h3];rfl)).symm,aa⟩
 ·rintro i D0 As hx;obtain ⟨-,hi,h0,ec⟩:=hx;refine J2 ?_;refine QM.aG (ds:=(D0:: [])) (.inl rfl) [.cell 6 3,.cell 7 106] Tryz.results136 (rD As aV) (yO rfl Tryz.isAgg3 rfl (yO rfl Tryz.isAgg106 rfl aU)) ?_;intro w' ao aa;exact⟨(z9 vA h0 hi rfl ec).symm,aa⟩
 rintro id i D0 As hx;cases hx.1
set_option maxHeartbeats 1000000 in
theorem uO {ow:Option Addr} {n2 fa:Nat} (bV:Int) (w:World) (hn:n=xs.length) (hl:Sr fO 3 xs (.slice ad n cap) w) (y5:n2=ls.length) (mL:Sr fL 5 ls (.slice ow n2 fa) w):aD Tryz.prog 47 #[pV fv ad n cap,.slice ow n2 fa,.int .i64 bV] w (fun v w'=>v=UA fv xs ls bV/\Ext w w'):=by
 refine aD.ak Tryz.func47 rfl Tryz.ntmps47 rfl ([]) (no) (Mem.nil w) ?_;refine J2 ?_;refine LM.box rfl rfl (fun b3 FM=>?_);refine J7 ?_;refine LM.rd (aR Tryz.isAgg62 Tryz.sizeOf62 rfl rfl) ?_;refine cE Tryz.func100 rfl (fun w hm hc hg=>Kw w hn (hl.ext hc)) ?_;refine J3 ?_;refine af.aN rfl (fun h1=>?_) (fun h1=>?_)
 ·refine J8 ?_;refine QM.leave (.inl rfl) [.tmp 6,.tmp 7] Tryz.results47 rfl ?_;intro w' ao aa aA;exact⟨(Dt (by simpa using h1)).symm,aa⟩
 have vA:jl xs=true:=(by simpa using h1);have ZI:=qc vA;have Es:=ZI.1;refine kR ?_;refine af.aO (α:=Nat) (fun i=>[(8,.bool ((xs.take i).any (fun o=>eV o.k))),(9,.int .i64 (i:Nat))]) [(1,_),(2,_),(3,_)] (fun i=>pB b3 fv ad n cap:: []) (fun i=>i<=xs.length/\∀j,j<i->dC fv xs ls bV j=0) (fun i=>xs.length-i) (0) cA aX ⟨Nat.zero_le _,fun j hj=>absurd hj (Nat.not_lt_zero _)⟩ ?_;rintro i ⟨hi,h0⟩;change af _ _ _ _ _ _ _ (pB b3 fv ad n cap:: []) _ _ _;refine cF ?_;refine af.aj rfl (fun h2=>?_) (fun h2=>?_)
 ·refine cF ?_;refine LM.dV (de aC ir Tryz.isAgg103 Tryz.sizeOf103 rfl c7 id) ?_;refine LM.alloc Tryz.zeroValue103 rfl (fun vp Md=>?_);refine LM.c6 Tryz.sizeOf103 rfl rfl rfl rfl cZ bF ?_;refine J3 ?_;refine af.bB (α:=Bool) (fun t=>[(8,.bool t)]) [(1,_),(2,_),(3,_),(9,_),(10,_)] (fun t=>oB vp (xs.getD i default)::pB b3 fv ad n cap:: []) (fun t=>t=(xs.take (i+1)).any (fun o=>eV o.k)) cA ?_ ?_
  ·refine J3 ?_;refine LM.bn (t:=28) rfl (fun h3=>?_) (fun h3=>?_)
   ·refine J21 ?_;refine mK (_) ?_
    ·rw [dG default om,eV];simp only [h1,h2,h3,decide_true,decide_false,Bool.true_and,Bool.false_and,Bool.and_true,Bool.and_false,Bool.not_true,Bool.not_false,Bool.true_or,Bool.false_or,Bool.or_true,Bool.or_false,ne_eq,not_true_eq_false,not_false_eq_true,Bool.and_self]
   refine J6 ?_;refine LM.aw (t:=33) rfl (fun h4=>?_) (fun h4=>?_)
   ·refine Ai ?_;refine mK (_) ?_
    ·rw [dG default om,eV];simp only [h1,h2,h3,h4,decide_true,decide_false,Bool.true_and,Bool.false_and,Bool.and_true,Bool.and_false,Bool.not_true,Bool.not_false,Bool.true_or,Bool.false_or,Bool.or_true,Bool.or_false,ne_eq,not_true_eq_false,not_false_eq_true,Bool.and_self]
   refine J6 ?_;refine LM.aw (t:=38) rfl (fun h5=>?_) (fun h5=>?_)
   ·refine dc ?_;refine mK (_) ?_
    ·rw [dG default om,eV];simp only [h1,h2,h3,h4,h5,decide_true,decide_false,Bool.true_and,Bool.false_and,Bool.and_true,Bool.and_false,Bool.not_true,Bool.not_false,Bool.true_or,Bool.false_or,Bool.or_true,Bool.or_false,ne_eq,not_true_eq_false,not_false_eq_true,Bool.and_self]
   refine J6 ?_;refine LM.aw (t:=43) rfl (fun h6=>?_) (fun h6=>?_)
   ·refine J6 ?_;refine mK (_) ?_
    ·rw [dG default om,eV];simp only [h1,h2,h3,h4,h5,h6,decide_true,decide_false,Bool.true_and,Bool.false_and,Bool.and_true,Bool.and_false,Bool.not_true,Bool.not_false,Bool.true_or,Bool.false_or,Bool.or_true,Bool.or_false,ne_eq,not_true_eq_false,not_false_eq_true,Bool.and_self]
   refine J7 ?_;refine mK (_) ?_
   ·rw [dG default om,eV];simp only [h1,h2,h3,h4,h5,h6,decide_true,decide_false,Bool.true_and,Bool.false_and,Bool.and_true,Bool.and_false,Bool.not_true,Bool.not_false,Bool.true_or,Bool.false_or,Bool.or_true,Bool.or_false,ne_eq,not_true_eq_false,not_false_eq_true,Bool.and_self]
  rintro t rfl;change QM _ _ _ _ _ (oB vp (xs.getD i default)::pB b3 fv ad n cap:: []) _ _ _;have hr:=r6 (tL vA (show i<xs.length by omega));refine J3 ?_;refine af.bB (α:=Bool) (fun q=>[(72,.bool q)]) [(1,_),(2,_),(3,_),(8,_),(9,_),(10,_)] (fun q=>oB vp (xs.getD i default)::pB b3 fv ad n cap:: []) (fun q=>q=((cD (xs.getD i default).k||decide ((xs.getD i default).k=6))&&decide ((xs.getD i default).a >= n2)||decide ((xs.getD i default).k=9)&&decide ((xs.getD i default).a >= bV))) cA ?_ ?_
  ·refine J1 ?_;refine LM.rd (aR Tryz.isAgg103 Tryz.sizeOf103 rfl rfl) ?_;refine cE Tryz.func101 rfl (fun w hm hc hg=>uW _ w) ?_;refine J1 ?_;refine LM.bn (t:=50) rfl (fun h7=>?_) (fun h7=>?_)
   ·refine gz ?_;refine LM.aw (t:=62) rfl (fun h8=>?_) (fun h8=>?_)
    ·refine J3 ?_;refine LM.dL (t:=62) rfl rfl rfl ?_;refine J7 ?_;refine mK (_) ?_
     ·(simp only [h1,h2,h7,h8,decide_true,decide_false,Bool.true_and,Bool.false_and,Bool.and_true,Bool.and_false,Bool.not_true,Bool.not_false,Bool.true_or,Bool.false_or,Bool.or_true,Bool.or_false,ne_eq,not_true_eq_false,not_false_eq_true,Bool.and_self];done)
    refine J5 ?_;refine LM.aw (t:=66) rfl (fun h9=>?_) (fun h9=>?_)
    ·refine J8 ?_;refine mK (_) ?_
     ·(simp only [h1,h2,h7,h8,h9,decide_true,decide_false,Bool.true_and,Bool.false_and,Bool.and_true,Bool.and_false,Bool.not_true,Bool.not_false,Bool.true_or,Bool.false_or,Bool.or_true,Bool.or_false,ne_eq,not_true_eq_false,not_false_eq_true,Bool.and_self];done)
    refine J7 ?_;refine mK (_) ?_
    ·(simp only [h1,h2,h7,h8,h9,decide_true,decide_false,Bool.true_and,Bool.false_and,Bool.and_true,Bool.and_false,Bool.not_true,Bool.not_false,Bool.true_or,Bool.false_or,Bool.or_true,Bool.or_false,ne_eq,not_true_eq_false,not_false_eq_true,Bool.and_self];done)
   refine J6 ?_;refine LM.aw (t:=55) rfl (fun je=>?_) (fun je=>?_)
   ·refine J8 ?_;refine LM.aw (t:=62) rfl (fun lK=>?_) (fun lK=>?_)
    ·refine J3 ?_;refine LM.dL (t:=62) rfl rfl rfl ?_;refine J7 ?_;refine mK (_) ?_
     ·(simp only [h1,h2,h7,je,lK,decide_true,decide_false,Bool.true_and,Bool.false_and,Bool.and_true,Bool.and_false,Bool.not_true,Bool.not_false,Bool.true_or,Bool.false_or,Bool.or_true,Bool.or_false,ne_eq,not_true_eq_false,not_false_eq_true,Bool.and_self];done)
    refine J5 ?_;refine LM.aw (t:=66) rfl (fun rz=>?_) (fun rz=>?_)
    ·refine J8 ?_;refine mK (_) ?_
     ·(exfalso;omega)
    refine J7 ?_;refine mK (_) ?_
    ·(simp only [h1,h2,h7,je,lK,rz,decide_true,decide_false,Bool.true_and,Bool.false_and,Bool.and_true,Bool.and_false,Bool.not_true,Bool.not_false,Bool.true_or,Bool.false_or,Bool.or_true,Bool.or_false,ne_eq,not_true_eq_false,not_false_eq_true,Bool.and_self];rfl)
   refine cM ?_;refine LM.aw (t:=66) rfl (fun tz=>?_) (fun tz=>?_)
   ·refine J8 ?_;refine mK (_) ?_
    ·(simp only [h1,h2,h7,je,tz,decide_true,decide_false,Bool.true_and,Bool.false_and,Bool.and_true,Bool.and_false,Bool.not_true,Bool.not_false,Bool.true_or,Bool.false_or,Bool.or_true,Bool.or_false,ne_eq,not_true_eq_false,not_false_eq_true,Bool.and_self];rfl)
   refine J7 ?_;refine mK (_) ?_
   ·(simp only [h1,h2,h7,je,tz,decide_true,decide_false,Bool.true_and,Bool.false_and,Bool.and_true,Bool.and_false,Bool.not_true,Bool.not_false,Bool.true_or,Bool.false_or,Bool.or_true,Bool.or_false,ne_eq,not_true_eq_false,not_false_eq_true,Bool.and_self];done)
  rintro q hq;change QM _ _ _ _ _ (oB vp (xs.getD i default)::pB b3 fv ad n cap:: []) _ _ _;refine J1 ?_;refine af.aN rfl (fun nW=>?_) (fun nW=>?_)
  ·refine kR ?_;refine QM.leave (.inl rfl) [.tmp 6,.tmp 7] Tryz.results47 rfl ?_;intro w' ao aa aA;exact⟨(z9 (e:=4) vA h0 om (by simp only [dC,<-hn,<-y5,<-hq];simp only [h1,h2,nW,decide_true,decide_false,Bool.true_and,Bool.false_and,Bool.and_true,Bool.and_false,Bool.not_true,Bool.not_false,Bool.true_or,Bool.false_or,Bool.or_true,Bool.or_false,ne_eq,not_true_eq_false,not_false_eq_true,Bool.and_self,if_true]) (by decide)).symm,aa⟩
  refine J4 ?_;refine af.bB (α:=Bool) (fun q3=>[(85,.bool q3)]) [(1,_),(2,_),(3,_),(8,_),(9,_),(10,_)] (fun q3=>oB vp (xs.getD i default)::pB b3 fv ad n cap:: []) (fun q3=>q3=(decide ((xs.getD i default).k=3)&& !(ls.getD (xs.getD i default).a.toNat default).sh)) cA ?_ ?_
  ·refine J5 ?_;refine LM.aw (t:=77) rfl (fun C2=>?_) (fun C2=>?_)
   ·have bo:=Ey hq nW (by rw [C2];rfl);refine J4 ?_;refine LM.sp 77 rfl rfl rfl ?_;refine LM.val (c4 qw Tryz.underlying27 Tryz.sizeOf74 rfl rfl om) ?_;refine J2 ?_;refine LM.dV (db (j:=0) aC Tryz.isAgg4 rfl rfl c7 (by rfl) (by rfl) id) ?_;refine J3 ?_;refine mK (_) ?_
    ·simp only [h1,h2,nW,C2,decide_true,decide_false,Bool.true_and,Bool.false_and,Bool.and_true,Bool.and_false,Bool.not_true,Bool.not_false,Bool.true_or,Bool.false_or,Bool.or_true,Bool.or_false,ne_eq,not_true_eq_false,not_false_eq_true,Bool.and_self]
   refine J9 ?_;refine mK (_) ?_
   ·simp only [h1,h2,nW,C2,decide_true,decide_false,Bool.true_and,Bool.false_and,Bool.and_true,Bool.and_false,Bool.not_true,Bool.not_false,Bool.true_or,Bool.false_or,Bool.or_true,Bool.or_false,ne_eq,not_true_eq_false,not_false_eq_true,Bool.and_self]
  rintro q3 DA;change QM _ _ _ _ _ (oB vp (xs.getD i default)::pB b3 fv ad n cap:: []) _ _ _;refine J1 ?_;refine af.aN rfl (fun xe=>?_) (fun xe=>?_)
  ·refine kR ?_;refine QM.leave (.inl rfl) [.tmp 6,.tmp 7] Tryz.results47 rfl ?_;intro w' ao aa aA;exact⟨(z9 (e:=1) vA h0 om (by simp only [dC,<-hn,<-y5,<-hq,<-DA];simp only [h1,h2,nW,xe,decide_true,decide_false,Bool.true_and,Bool.false_and,Bool.and_true,Bool.and_false,Bool.not_true,Bool.not_false,Bool.true_or,Bool.false_or,Bool.or_true,Bool.or_false,ne_eq,not_true_eq_false,not_false_eq_true,Bool.and_self,if_true,if_false,Bool.false_eq_true]) (by decide)).symm,aa⟩
  refine J4 ?_;refine LM.rd (aR Tryz.isAgg103 Tryz.sizeOf103 rfl rfl) ?_;refine cE Tryz.func101 rfl (fun w hm hc hg=>uW _ w) ?_;refine J2 ?_;refine af.aN rfl (fun r9=>?_) (fun r9=>?_)
  ·have bo:=Ey hq nW r9;refine J2 ?_;refine LM.rd (aR Tryz.isAgg62 Tryz.sizeOf62 rfl rfl) ?_;refine J1 ?_;refine cE Tryz.func102 rfl (fun w hm hc hg=>yM i w hn (hl.ext hc) ZI om) ?_;refine LM.alloc Tryz.zeroValue101 rfl (fun b11 aaN=>?_);refine LM.c6 Tryz.sizeOf101 rfl rfl rfl rfl cZ bF ?_;refine J3 ?_;refine af.bB (α:=Bool) (fun q4=>[(117,.bool q4)]) [(1,_),(2,_),(3,_),(8,_),(9,_)] (fun q4=>pB b3 fv ad n cap:: []) (fun q4=>q4=(decide ((ez xs i).2<1)||decide ((ez xs i).2 > (ls.getD (xs.getD i default).a.toNat default).cr)||fv&&decide (((i+1+(ez xs i).1:Nat):Int)=n))) cA ?_ ?_
   ·refine af.draw [(0,0),(1,1),(2,0),(3,0),(4,0),(5,1),(6,0),(7,0),(8,1),(9,0),(10,0),(11,1),(12,0),(13,0),(14,0),(15,0),(16,1),(17,0),(18,0),(19,1),(20,0),(21,1),(22,0),(23,0),(24,0),(25,0)] kr kr ?_;refine J4 ?_;refine LD.aw (t:=95) rfl (fun wJ=>?_) (fun wJ=>?_)
    ·refine gz ?_;refine LD.dL rfl rfl ⟨106,_,rfl,rfl,rfl⟩ ?_;refine J9 ?_;refine mK (_) ?_
     ·simp only [h1,h2,nW,xe,r9,wJ,decide_true,decide_false,Bool.true_and,Bool.false_and,Bool.and_true,Bool.and_false,Bool.not_true,Bool.not_false,Bool.true_or,Bool.false_or,Bool.or_true,Bool.or_false,ne_eq,not_true_eq_false,not_false_eq_true,Bool.and_self]
    refine J5 ?_;refine LD.val rfl ⟨95,_,rfl,rfl,rfl⟩ (c4 qw Tryz.underlying27 Tryz.sizeOf74 rfl rfl om) ?_;refine J1 ?_;refine LD.dV rfl ⟨95,_,rfl,rfl,rfl⟩ (db (j:=2) aC Tryz.isAgg3 rfl rfl c7 (by rfl) (by rfl) id) ?_;refine J3 ?_;refine LD.aw (t:=106) rfl (fun EK=>?_) (fun EK=>?_)
    ·refine J2 ?_;refine LD.dL rfl rfl ⟨106,_,rfl,rfl,rfl⟩ ?_;refine J9 ?_;refine mK (_) ?_
     ·simp only [h1,h2,nW,xe,r9,wJ,EK,decide_true,decide_false,Bool.true_and,Bool.false_and,Bool.and_true,Bool.and_false,Bool.not_true,Bool.not_false,Bool.true_or,Bool.false_or,Bool.or_true,Bool.or_false,ne_eq,not_true_eq_false,not_false_eq_true,Bool.and_self]
    refine J3 ?_;refine LD.bn (t:=109) rfl (fun yy=>?_) (fun yy=>?_)
    ·refine J9 ?_;refine mK (_) ?_
     ·simp only [h1,h2,nW,xe,r9,wJ,EK,yy,decide_true,decide_false,Bool.true_and,Bool.false_and,Bool.and_true,Bool.and_false,Bool.not_true,Bool.not_false,Bool.true_or,Bool.false_or,Bool.or_true,Bool.or_false,ne_eq,not_true_eq_false,not_false_eq_true,Bool.and_self]
    refine J9 ?_;refine mK (_) ?_
    ·simp only [h1,h2,nW,xe,r9,wJ,EK,yy,decide_true,decide_false,Bool.true_and,Bool.false_and,Bool.and_true,Bool.and_false,Bool.not_true,Bool.not_false,Bool.true_or,Bool.false_or,Bool.or_true,Bool.or_false,ne_eq,not_true_eq_false,not_false_eq_true,Bool.and_self]
   rintro q4 Qu;change QM _ _ _ _ _ (pB b3 fv ad n cap:: []) _ _ _;refine J1 ?_;refine af.aN rfl (fun Lh=>?_) (fun Lh=>?_)
   ·refine gz ?_;refine QM.leave (.inl rfl) [.tmp 6,.tmp 7] Tryz.results47 rfl ?_;intro w' ao aa aA;exact⟨(z9 (e:=13) vA h0 om (by simp only [dC,<-hn,<-y5,<-hq,<-DA,<-Qu];simp only [h1,h2,nW,xe,r9,Lh,decide_true,decide_false,Bool.true_and,Bool.false_and,Bool.and_true,Bool.and_false,Bool.not_true,Bool.not_false,Bool.true_or,Bool.false_or,Bool.or_true,Bool.or_false,ne_eq,not_true_eq_false,not_false_eq_true,Bool.and_self,if_true,if_false,Bool.false_eq_true]) (by decide)).symm,aa⟩
   refine J8 ?_;refine aK (i+1) ?_ ?_
   ·exact⟨by omega,oH h0 (by simp only [dC,<-hn,<-y5,<-hq,<-DA,<-Qu];simp only [h1,h2,nW,xe,r9,Lh,decide_true,decide_false,Bool.true_and,Bool.false_and,Bool.and_true,Bool.and_false,Bool.not_true,Bool.not_false,Bool.true_or,Bool.false_or,Bool.or_true,Bool.or_false,ne_eq,not_true_eq_false,not_false_eq_true,Bool.and_self,if_true,if_false,ite_true,Bool.false_eq_true])⟩
   ·omega
  refine J8 ?_;refine aK (i+1) ?_ ?_
  ·exact⟨by omega,oH h0 (by simp only [dC,<-hn,<-y5,<-hq,<-DA];simp only [h1,h2,nW,xe,r9,decide_true,decide_false,Bool.true_and,Bool.false_and,Bool.and_true,Bool.and_false,Bool.not_true,Bool.not_false,Bool.true_or,Bool.false_or,Bool.or_true,Bool.or_false,ne_eq,not_true_eq_false,not_false_eq_true,Bool.and_self,if_true,if_false,ite_true,Bool.false_eq_true])⟩
  ·omega
 refine dc ?_;refine LM.bn (t:=121) rfl (fun LP=>?_) (fun LP=>?_)
 ·refine J5 ?_;refine af.aN rfl (fun Lo=>?_) (fun Lo=>?_)
  ·refine J8 ?_;refine QM.leave (.inl rfl) [.tmp 6,.tmp 7] Tryz.results47 rfl ?_;intro w' ao aa aA;have eA:i=xs.length:=om;subst eA;rw [List.take_length] at Lo;exact⟨(p8 (b:=true) vA h0 (by rw [LP,Lo];rfl)).symm,aa⟩
  refine J9 ?_;refine QM.leave (.inl rfl) [.tmp 6,.tmp 7] Tryz.results47 rfl ?_;intro w' ao aa aA;have eA:i=xs.length:=om;subst eA;rw [List.take_length] at Lo;exact⟨(p8 (b:=false) vA h0 (by rw [LP,Lo];rfl)).symm,aa⟩
 refine rA ?_;refine QM.leave (.inl rfl) [.tmp 6,.tmp 7] Tryz.results47 rfl ?_;intro w' ao aa aA;have eA:i=xs.length:=om;subst eA;exact⟨(p8 (b:=false) vA h0 (by rw [LP];rfl)).symm,aa⟩
structure iJ where
  c:mX
  ad:Option Addr
  n:Nat
  cap:Nat
instance:Inhabited iJ:=⟨⟨default,none,0,0⟩⟩
def Z5 (p:iJ):List Value:=[.bool p.c.fv,.slice p.ad p.n p.cap]
def iJ.In (p:iJ) (w:World):Prop:=p.n=p.c.xs.length/\Sr fO 3 p.c.xs (.slice p.ad p.n p.cap) w
theorem iJ.In.ext {p:iJ} {w w':World} (h:p.In w) (k:Ext w w'):p.In w':=⟨h.1,h.2.ext k⟩
def uI (ps:List iJ) (w:World):Prop:=∀p∈ps,p.In w
theorem uI.ext {ps:List iJ} {w w':World} (h:uI ps w) (k:Ext w w'):uI ps w':=fun p hp=>(h p hp).ext k
structure dU where
  cr:Int
  gr:Int
  gs:List Int
  ga:Option Addr
  gn:Nat
  gc:Nat
  ls:List jD
  la:Option Addr
  ln:Nat
  lc:Nat
  ps:List iJ
  pa:Option Addr
  pn:Nat
  pc:Nat
instance:Inhabited dU:=⟨⟨0,0,[],none,0,0,[],none,0,0,[],none,0,0⟩⟩
def dU.cs (s:dU):List Value:=[.int .i64 s.cr,.int .i64 s.gr,.slice s.ga s.gn s.gc,.slice s.la s.ln s.lc,.slice s.pa s.pn s.pc]
abbrev dU.val (s:dU):Value:= .agg #[.int .i64 s.cr,.int .i64 s.gr,.slice s.ga s.gn s.gc,.slice s.la s.ln s.lc,.slice s.pa s.pn s.pc]
def dU.C (s:dU):ee:=⟨s.cr,s.gr,s.gs,s.ls,s.ps.map iJ.c⟩
structure dU.In (s:dU) (w:World):Prop where
  yD:s.gn=s.gs.length
  hg:Sr fI 1 s.gs (.slice s.ga s.gn s.gc) w
  qV:s.ln=s.ls.length
  hl:Sr fL 5 s.ls (.slice s.la s.ln s.lc) w
  qE:s.pn=s.ps.length
  hp:Sr Z5 2 s.ps (.slice s.pa s.pn s.pc) w
  ops:uI s.ps w
theorem dU.In.ext {s:dU} {w w':World} (h:s.In w) (k:Ext w w'):s.In w':=⟨h.yD,h.hg.ext k,h.qV,h.hl.ext k,h.qE,h.hp.ext k,h.ops.ext k⟩
theorem eT {ps:List iJ}:(ps.map iJ.c).getD i default=(ps.getD i default).c:=by
  rw [List.getD_eq_getElem?_getD,List.getD_eq_getElem?_getD,List.getElem?_map];cases ps[i]? <;>rfl
abbrev qO (ad:Option Addr) (n cap:Nat) (i:Nat) (e:Int):Obj:= .cells #[.slice ad n cap,.int .i64 (i:Nat),.int .i64 e] 152 (0,0)
abbrev qB (b:Nat) (ad:Option Addr) (n cap:Nat) (i:Nat) (e:Int):Nat×Obj:=(b,qO ad n cap i e)
set_option maxHeartbeats 1000000 in
theorem j8 (b:Nat) (i:Nat) (e k:Int) (t:List UInt8) (w:World) (hn:n=ws.length) (hl:Sr fW 4 ws (.slice ad n cap) w) (hM:Mem w [qB b ad n cap i e]):aD Tryz.prog 79 #[.pointer (some ⟨b,0,none⟩),.int .i64 k,vS t] w (fun v w'=>v= .bool (oh ws i e k t)/\Ext w w'):=by
 refine aD.ak Tryz.func79 rfl Tryz.ntmps79 rfl ([qB b ad n cap i e]) (no) hM ?_;refine J6 ?_;refine af.draw [(0,0),(1,0),(2,0),(3,1),(4,0),(5,0),(6,0),(7,0),(8,0),(9,1),(10,0),(11,0),(12,0),(13,1),(14,0),(15,0),(16,0),(17,0),(18,0),(19,0),(20,0),(21,1),(22,0),(23,0),(24,0),(25,1),(26,0),(27,0),(28,1),(29,0),(30,0),(31,0),(32,0),(33,0),(34,0),(35,0),(36,1),(37,0),(38,0),(39,0),(40,1),(41,0),(42,0),(43,1),(44,0),(45,0),(46,0),(47,0)] kr kr ?_;refine J6 ?_;refine LD.aw (t:=12) rfl (fun h1=>?_) (fun h1=>?_)
 ·refine cM ?_;refine LD.aw (t:=24) rfl (fun h2=>?_) (fun h2=>?_)
  ·refine cF ?_;refine LD.dV rfl ⟨24,_,rfl,rfl,rfl⟩ (db (j:=0) aC Tryz.isAgg3 rfl rfl c7 (by rfl) (by rfl) id) ?_;refine J4 ?_;refine LD.aw (t:=39) rfl (fun h3=>?_) (fun h3=>?_)
   ·refine cF ?_;refine LD.dV rfl ⟨39,_,rfl,rfl,rfl⟩ (db (j:=1) aC Tryz.isAgg9 rfl rfl c7 (by rfl) (by rfl) id) ?_;refine J1 ?_;refine LD.val rfl ⟨39,_,rfl,rfl,rfl⟩ (sj rfl rfl) ?_;refine J5 ?_;refine qL Tryz.results79 rfl fun w' ao aa aA=>?_;refine ⟨?_,aa⟩;simp only [bd,oh];rw [decide_eq_true h1,decide_eq_true (show i<ws.length by omega),decide_eq_true h3];simp only [Bool.true_and]
   refine En ?_;refine qL Tryz.results79 rfl fun w' ao aa aA=>?_;refine ⟨?_,aa⟩;simp only [bd,oh];rw [decide_eq_false h3];simp only [Bool.and_false,Bool.false_and]
  refine J33 ?_;refine qL Tryz.results79 rfl fun w' ao aa aA=>?_;refine ⟨?_,aa⟩;simp only [bd,oh];rw [decide_eq_false (show¬i<ws.length by omega)];simp only [Bool.and_false,Bool.false_and]
 refine J45 ?_;refine qL Tryz.results79 rfl fun w' ao aa aA=>?_;refine ⟨?_,aa⟩;simp only [bd,oh];rw [decide_eq_false h1];simp only [Bool.and_false,Bool.false_and]
theorem gA (b:Nat) (i:Nat) (e k:Int) (t:List UInt8) (w:World) (hn:n=ws.length) (hx:ws.length<=1000000000) (hl:Sr fW 4 ws (.slice ad n cap) w) (sE:0<ws.length->ox ad≠b) (hM:Mem w [qB b ad n cap i e]):aD Tryz.prog 78 #[.pointer (some ⟨b,0,none⟩),.int .i64 k,vS t] w (UW b (.tuple #[]) (qO ad n cap (fS ws i e k t).1 (fS ws i e k t).2) w):=by
 refine aD.ak Tryz.func78 rfl Tryz.ntmps78 rfl ([qB b ad n cap i e]) ((fun x=>x=b)) hM ?_;refine J5 ?_;refine cE Tryz.func79 rfl (fun w hm hc hg=>j8 b i e k t w hn (hl.kp hc sE) (hm.pick _)) ?_;refine J2 ?_;refine af.aN rfl (fun h1=>?_) (fun h1=>?_)
 ·have bo:=(px h1).1;refine J8 ?_;refine LM.st Tryz.sizeOf3 rfl rfl rfl dx rfl (fun _=>rfl) ?_;refine J1 ?_;refine QM.leave (.inr rfl) [] Tryz.results78 rfl ?_;intro w' ao aa aA;refine ⟨rfl,aa,?_⟩;have h3:=ao.at b;unfold fS;rw [if_pos h1];exact h3
 refine J9 ?_;refine af.aj rfl (fun h2=>?_) (fun h2=>?_)
 ·refine J4 ?_;refine LM.st Tryz.sizeOf3 rfl rfl rfl dx rfl (fun _=>rfl) ?_;refine J1 ?_;refine QM.leave (.inr rfl) [] Tryz.results78 rfl ?_;intro w' ao aa aA;refine ⟨rfl,aa,?_⟩;have h3:=ao.at b;unfold fS;rw [if_neg (by rw [h1];simp),if_pos h2];exact h3
 refine J1 ?_;refine QM.leave (.inr rfl) [] Tryz.results78 rfl ?_;intro w' ao aa aA;refine ⟨rfl,aa,?_⟩;have h3:=ao.at b;unfold fS;rw [if_neg (by rw [h1];simp),if_neg h2];exact h3
set_option maxHeartbeats 1000000 in
theorem dz (b:Nat) (i:Nat) (e gD:Int) (nm:List UInt8) (w:World) (hn:n=ws.length) (hx:ws.length<=1000000000) (hl:Sr fW 4 ws (.slice ad n cap) w) (sE:0<ws.length->ox ad≠b) (hM:Mem w [qB b ad n cap i e]):aD Tryz.prog 77 #[.pointer (some ⟨b,0,none⟩),vS nm,.int .i64 gD] w (UW b (.int .i64 (dQ ws i e nm gD).2.2) (qO ad n cap (dQ ws i e nm gD).1 (dQ ws i e nm gD).2.1) w):=by
 refine aD.ak Tryz.func77 rfl Tryz.ntmps77 rfl ([qB b ad n cap i e]) ((fun x=>x=b)) hM ?_;refine J9 ?_;refine LM.cW (oC Tryz.func78) (fun w hm hc hg=>gA b i e 1 nm w hn hx (hl.kp hc sE) sE (hm.pick _)) rfl (fun _=>rfl) ?_;refine cM ?_;refine af.aj rfl (fun h1=>?_) (fun h1=>?_)
 ·refine J7 ?_;refine qL Tryz.results77 rfl fun w' ao aa aA=>?_
  unfold dQ;rw [UM h1];exact⟨rfl,aa,ao.at b⟩
 have GU:(fS ws i e 1 nm).2=0:=Classical.not_not.1 h1;refine J4 ?_;refine af.draw [(0,0),(1,0),(2,0),(3,1),(4,0),(5,0),(6,0),(7,1),(8,0),(9,0),(10,0),(11,0),(12,0),(13,0),(14,1),(15,0),(16,0),(17,0),(18,1),(19,0),(20,0),(21,1),(22,0),(23,0)] kr kr ?_;refine dc ?_;refine LD.aw (t:=26) rfl (fun h2=>?_) (fun h2=>?_)
 ·refine J21 ?_;refine LM.st Tryz.sizeOf3 rfl rfl rfl dx rfl (fun _=>rfl) ?_;refine J9 ?_;refine qL Tryz.results77 rfl fun w' ao aa aA=>?_
  unfold dQ;rw [GU,UE (by decide) (.inl om)];exact⟨rfl,aa,ao.at b⟩
 refine cF ?_;refine LD.dV rfl ⟨26,_,rfl,rfl,rfl⟩ (db (j:=0) aC Tryz.isAgg3 rfl rfl c7 (by rfl) (by rfl) (by exact sE om)) ?_;refine J4 ?_;refine af.aj rfl (fun h3=>?_) (fun h3=>?_)
 ·refine J5 ?_;refine LM.st Tryz.sizeOf3 rfl rfl rfl dx rfl (fun _=>rfl) ?_;refine J9 ?_;refine qL Tryz.results77 rfl fun w' ao aa aA=>?_
  unfold dQ;rw [GU,UE (by decide) (.inr h3)];exact⟨rfl,aa,ao.at b⟩
 refine J3 ?_;refine af.draw [(0,0),(1,0),(2,0),(3,1),(4,0),(5,0),(6,0),(7,1),(8,0),(9,0),(10,1),(11,0)] kr kr ?_;refine cF ?_;refine LD.dV rfl rfl (db (j:=2) aC Tryz.isAgg3 rfl rfl c7 (by rfl) (by rfl) (by exact sE om)) ?_;refine J9 ?_;refine LM.aw (t:=56) rfl (fun h4=>?_) (fun h4=>?_)
 ·refine cM ?_;refine LM.st Tryz.sizeOf3 rfl rfl rfl dx rfl (fun _=>rfl) ?_;refine J9 ?_;refine qL Tryz.results77 rfl fun w' ao aa aA=>?_
  unfold dQ;rw [GU,TW (by decide) om (Classical.not_not.1 h3) (by unfold hasB;rw [if_neg (by decide),decide_eq_false om];rfl)];exact⟨rfl,aa,ao.at b⟩
 refine J6 ?_;refine af.aj rfl (fun h5=>?_) (fun h5=>?_)
 ·refine J5 ?_;refine LM.st Tryz.sizeOf3 rfl rfl rfl dx rfl (fun _=>rfl) ?_;refine J9 ?_;refine qL Tryz.results77 rfl fun w' ao aa aA=>?_
  unfold dQ;rw [GU,TW (by decide) om (Classical.not_not.1 h3) (by unfold hasB;rw [if_neg (by decide),decide_eq_true om,decide_eq_false om];rfl)];exact⟨rfl,aa,ao.at b⟩
 refine dc ?_;refine LM.st Tryz.sizeOf3 rfl rfl rfl dx rfl (fun _=>rfl) ?_;refine J9 ?_;refine qL Tryz.results77 rfl fun w' ao aa aA=>?_
 unfold dQ;rw [GU,acu (by decide) om (Classical.not_not.1 h3) (by unfold hasB;rw [if_neg (by decide),decide_eq_true om,decide_eq_true om];rfl)];exact⟨rfl,aa,by have:=ao.at b;rw [GU] at this;exact this⟩
theorem q8 (b:Nat) (i:Nat) (e k gD:Int) (w:World) (hM:Mem w [qB b ad n cap i e]):aD Tryz.prog 80 #[.pointer (some ⟨b,0,none⟩),.int .i64 k,.int .i64 gD] w (UW b (.bool (decide (e≠0)||decide (gD<=k))) (qO ad n cap i (if e=0/\gD<=k then 6 else e)) w):=by
 refine aD.ak Tryz.func80 rfl Tryz.ntmps80 rfl ([qB b ad n cap i e]) ((fun x=>x=b)) hM ?_;refine kR ?_;refine LM.aw (t:=12) rfl (fun h1=>?_) (fun h1=>?_)
 ·refine J6 ?_;refine af.aj rfl (fun h2=>?_) (fun h2=>?_)
  ·refine J4 ?_;refine LM.st Tryz.sizeOf3 rfl rfl rfl dx rfl (fun _=>rfl) ?_;refine gz ?_;refine qL Tryz.results80 rfl fun w' ao aa aA=>?_;refine ⟨?_,aa,?_⟩;(rw [decide_eq_true (show gD<=k from h2),Bool.or_true];rfl);(rw [if_pos ⟨h1,h2⟩];exact ao.at b)
  refine gz ?_;refine qL Tryz.results80 rfl fun w' ao aa aA=>?_;refine ⟨?_,aa,?_⟩;(rw [decide_eq_false (show¬gD<=k from h2),Bool.or_false];rfl);(rw [if_neg (fun q=>h2 q.2)];exact ao.at b)
 refine Zg ?_;refine qL Tryz.results80 rfl fun w' ao aa aA=>?_;refine ⟨?_,aa,?_⟩;(rw [decide_eq_true (show e≠0 from h1)];rfl);(rw [if_neg (fun q=>h1 q.1)];exact ao.at b)
set_option maxHeartbeats 1000000 in
theorem Dy (b:Nat) (i:Nat) (e:Int) (w:World) (hn:n=ws.length) (hx:ws.length<=1000000000) (hl:Sr fW 4 ws (.slice ad n cap) w) (sE:0<ws.length->ox ad≠b) (hM:Mem w [qB b ad n cap i e]):aD Tryz.prog 81 #[.pointer (some ⟨b,0,none⟩),.bool true] w (UW b (.agg (fL (ky ws true i e).2.2).toArray) (qO ad n cap (ky ws true i e).1 (ky ws true i e).2.1) w):=by
 refine aD.ak Tryz.func81 rfl Tryz.ntmps81 rfl ([qB b ad n cap i e]) ((fun x=>x=b)) hM ?_;refine J2 ?_;refine LM.alloc Tryz.zeroValue74 rfl (fun b4 wG=>?_);refine J5 ?_;refine LM.val (aE (cs:=#[_,_,_,_,_]) rfl (by first|rfl|kernel_rfl)) ?_;refine LM.alloc Tryz.zeroValue74 rfl (fun b5 BV=>?_);refine LM.c6 Tryz.sizeOf74 rfl rfl rfl rfl cZ (fun bo=>by first|exact rfl|exact absurd bo om) ?_;refine J5 ?_;refine LM.cW (oC Tryz.func77) (fun w hm hc hg=>dz b i e 16 rk w hn hx (hl.kp hc sE) sE (sm hm)) rfl (fun bo=>by first|exact rfl|exact absurd bo om) ?_;refine J1 ?_;refine LM.st Tryz.sizeOf3 rfl rfl rfl dx rfl (fun bo=>by first|exact rfl|exact absurd bo om) ?_;refine J5 ?_;refine LM.cW (oC Tryz.func77) (fun w hm hc hg=>dz b (EH ws i e).1 (EH ws i e).2.1 32 yh w hn hx (hl.kp hc sE) sE (sm hm)) rfl (fun bo=>by first|exact rfl|exact absurd bo om) ?_;refine J1 ?_;refine LM.st Tryz.sizeOf3 rfl rfl rfl dx rfl (fun bo=>by first|exact rfl|exact absurd bo om) ?_;refine J8 ?_;refine af.aN rfl (fun h1=>?_) (fun h1=>?_)
 ·refine J3 ?_;refine LM.cW (oC Tryz.func77) (fun w hm hc hg=>dz b (K8 ws i e).1 (K8 ws i e).2.1 16 HO w hn hx (hl.kp hc sE) sE (sm hm)) rfl (fun bo=>by first|exact rfl|exact absurd bo om) ?_;refine J1 ?_;refine LM.st Tryz.sizeOf3 rfl rfl rfl dx rfl (fun bo=>by first|exact rfl|exact absurd bo om) ?_;refine J4 ?_;refine LM.cW (oC Tryz.func77) (fun w hm hc hg=>dz b (I8 ws true i e).1 (I8 ws true i e).2.1 16 AB w hn hx (hl.kp hc sE) sE (sm hm)) rfl (fun bo=>by first|exact rfl|exact absurd bo om) ?_;refine J1 ?_;refine LM.st Tryz.sizeOf3 rfl rfl rfl dx rfl (fun bo=>by first|exact rfl|exact absurd bo om) ?_;refine J5 ?_;refine LM.cW (oC Tryz.func78) (fun w hm hc hg=>gA b (Lg ws true i e).1 (Lg ws true i e).2.1 3 [59] w hn hx (hl.kp hc sE) sE (sm hm)) rfl (fun bo=>by first|exact rfl|exact absurd bo om) ?_;refine J4 ?_;refine LM.rd (aR Tryz.isAgg74 Tryz.sizeOf74 rfl rfl) ?_;refine LM.c6 Tryz.sizeOf74 rfl rfl rfl rfl cZ (fun bo=>by first|exact rfl|exact absurd bo om) ?_;refine J3 ?_;refine QM.aG (ds:=([])) (.inl rfl) [.cell 4 74] Tryz.results81 aV (bU rfl Tryz.isAgg74 Tryz.sizeOf74 rfl aU) ?_;intro w' ao aa;exact⟨rfl,aa,ao.at b⟩
 cases h1
set_option maxHeartbeats 1000000 in
theorem Ec (b:Nat) (i:Nat) (e:Int) (w:World) (hn:n=ws.length) (hx:ws.length<=1000000000) (hl:Sr fW 4 ws (.slice ad n cap) w) (sE:0<ws.length->ox ad≠b) (hM:Mem w [qB b ad n cap i e]):aD Tryz.prog 81 #[.pointer (some ⟨b,0,none⟩),.bool false] w (UW b (.agg (fL (ky ws false i e).2.2).toArray) (qO ad n cap (ky ws false i e).1 (ky ws false i e).2.1) w):=by
 refine aD.ak Tryz.func81 rfl Tryz.ntmps81 rfl ([qB b ad n cap i e]) ((fun x=>x=b)) hM ?_;refine J2 ?_;refine LM.alloc Tryz.zeroValue74 rfl (fun b4 wG=>?_);refine J5 ?_;refine LM.val (aE (cs:=#[_,_,_,_,_]) rfl (by first|rfl|kernel_rfl)) ?_;refine LM.alloc Tryz.zeroValue74 rfl (fun b5 BV=>?_);refine LM.c6 Tryz.sizeOf74 rfl rfl rfl rfl cZ (fun bo=>by first|exact rfl|exact absurd bo om) ?_;refine J5 ?_;refine LM.cW (oC Tryz.func77) (fun w hm hc hg=>dz b i e 16 rk w hn hx (hl.kp hc sE) sE (sm hm)) rfl (fun bo=>by first|exact rfl|exact absurd bo om) ?_;refine J1 ?_;refine LM.st Tryz.sizeOf3 rfl rfl rfl dx rfl (fun bo=>by first|exact rfl|exact absurd bo om) ?_;refine J5 ?_;refine LM.cW (oC Tryz.func77) (fun w hm hc hg=>dz b (EH ws i e).1 (EH ws i e).2.1 32 yh w hn hx (hl.kp hc sE) sE (sm hm)) rfl (fun bo=>by first|exact rfl|exact absurd bo om) ?_;refine J1 ?_;refine LM.st Tryz.sizeOf3 rfl rfl rfl dx rfl (fun bo=>by first|exact rfl|exact absurd bo om) ?_;refine J8 ?_;refine af.aN rfl (fun h1=>?_) (fun h1=>?_)
 ·cases h1
 refine J5 ?_;refine LM.cW (oC Tryz.func78) (fun w hm hc hg=>gA b (Lg ws false i e).1 (Lg ws false i e).2.1 3 [59] w hn hx (hl.kp hc sE) sE (sm hm)) rfl (fun bo=>by first|exact rfl|exact absurd bo om) ?_;refine J4 ?_;refine LM.rd (aR Tryz.isAgg74 Tryz.sizeOf74 rfl rfl) ?_;refine LM.c6 Tryz.sizeOf74 rfl rfl rfl rfl cZ (fun bo=>by first|exact rfl|exact absurd bo om) ?_;refine J3 ?_;refine QM.aG (ds:=([])) (.inl rfl) [.cell 4 74] Tryz.results81 aV (bU rfl Tryz.isAgg74 Tryz.sizeOf74 rfl aU) ?_;intro w' ao aa;exact⟨rfl,aa,ao.at b⟩
theorem Fq (sh:Bool) (b:Nat) (i:Nat) (e:Int) (w:World) (hn:n=ws.length) (hx:ws.length<=1000000000) (hl:Sr fW 4 ws (.slice ad n cap) w) (sE:0<ws.length->ox ad≠b) (hM:Mem w [qB b ad n cap i e]):
    aD Tryz.prog 81 #[.pointer (some ⟨b,0,none⟩),.bool sh] w (UW b (.agg (fL (ky ws sh i e).2.2).toArray) (qO ad n cap (ky ws sh i e).1 (ky ws sh i e).2.1) w):=by
  cases sh
  ·exact Ec b i e w hn hx hl sE hM
  ·exact Dy b i e w hn hx hl sE hM
def Lf (ws:List bA) (i:Nat) (e:Int) (gs:List Int):List Int×Nat×Int:=if gs.length=0 then (if e=0 then gpO ws i e else ([],i,e)) else QU ws i e gs
theorem Lq (h:(oh ws i e 1 bW||(decide (gs.length=0)&&decide (e=0)))=false):Lf ws i e gs=(gs,i,e):=by
  simp only [Bool.or_eq_false_iff,Bool.and_eq_false_iff,decide_eq_false_iff_not] at h
  unfold Lf
  by_cases h0:gs.length=0
  ·rw [if_pos h0,if_neg (h.2.resolve_left (fun q=>q h0)),List.length_eq_zero_iff.1 h0]
  ·rw [if_neg h0,B3 h.1]
theorem Mh (h:oh ws i e 1 bW=true) (hl:4<=gs.length):Lf ws i e gs=(gs,i,6):=by
  unfold Lf;rw [if_neg om,LV h hl]
theorem CO (h:(oh ws i e 1 bW||(decide (gs.length=0)&&decide (e=0)))=true) (hl:gs.length<4):Lf ws i e gs=Lf ws (jn ws i e bW 16).1 (jn ws i e bW 16).2.1 (gs++ [(jn ws i e bW 16).2.2]):=by
  simp only [Bool.or_eq_true,Bool.and_eq_true,decide_eq_true_eq] at h
  unfold Lf
  rw [if_neg (show¬(gs++ [(jn ws i e bW 16).2.2]).length=0 by simp)]
  by_cases h0:gs.length=0
  · have he:e=0:=h.elim (fun q=>(px q).2) (fun q=>q.2)
    rw [if_pos h0,if_pos he,List.length_eq_zero_iff.1 h0];rfl
  ·rw [if_neg h0,Oo (h.resolve_right (fun q=>h0 q.1)) hl]
theorem Ba (h:Lf ws (pN ws i0).1 (pN ws i0).2.1 [] =(gs,i,e)):(sG ws i0).2=(i,e)/\(e=0->sG ws i0=(gs,i,e)):=by
  unfold Lf at h
  rw [if_pos (show ([] :List Int).length=0 from rfl)] at h
  unfold sG
  by_cases h0:(pN ws i0).2.1=0
  ·rw [if_pos h0] at h;rw [h];exact⟨rfl,fun _=>rfl⟩
  · rw [if_neg h0] at h
    simp only [Prod.mk.injEq] at h;obtain ⟨_,h2,h3⟩:=h;rw [<-h2,<-h3];refine ⟨?_,fun q=>absurd q h0⟩
    unfold gpO;rw [RF h0];simp only;rw [B3 (Bv h0)]
theorem NI:Lc ws i e ps=(oh ws i e 1 qI||(decide (ps.length=0)&&decide (e=0))):=by
  unfold Lc
  by_cases h:e=0
  ·rw [decide_eq_true h,Bool.true_and,Bool.and_true,Bool.or_comm]
  ·rw [Bv h,decide_eq_false h];simp
structure za (ws:List bA) (i0:Nat) (gs:List Int) (i1:Nat) (e1:Int) (ls:List jD) (i2:Nat) (e2:Int) (ps:List mX) (pl:List Int) (i3:Nat) (e3:Int):Prop where
  g:(sG ws i0).2=(i1,e1)/\(e1=0->(sG ws i0).1=gs)
  l:JA ws i1 e1 [] =(ls,i2,e2)
  p:Ke ws i2 e2 [] [] =(ps,pl,i3,e3)
theorem za.two (h:za ws i0 gs i1 e1 ls i2 e2 ps pl i3 e3):sL ws i0=(ls,i2,e2)/\sP ws i0=(ps,pl,i3,e3):=by
  have a:sL ws i0=(ls,i2,e2):=by unfold Go.Eng.sL;rw [h.g.1];exact h.l
  exact⟨a,by unfold sP;rw [a];exact h.p⟩
theorem za.bad (h:za ws i0 gs i1 e1 ls i2 e2 ps pl i3 e3) (he:e3≠0):vq ws i0=(default,(i3:Int),e3):=by
  unfold vq;rw [h.two.2];simp only;rw [if_pos he]
theorem za.mis (h:za ws i0 gs i1 e1 ls i2 e2 ps pl i3 e3) (he:e3=0) {j:Nat} (hj:j<ps.length) (h0:(ps.take j).any (jW ls ps.length)=false) (h1:jW ls ps.length (ps.getD j default)=true):vq ws i0=(default,pl.getD j 0,(ES (ps.getD j default).fv (ps.getD j default).xs ls (ps.length:Int)).2):=by
  have e:=kC default h0 hj h1;have e':ql ls ps=(j:Nat):=e
  unfold vq;rw [h.two.2,h.two.1];simp only;rw [if_neg (by simp [he]),e',if_pos om,Int.toNat_natCast]
  unfold Jv;rw [if_neg om,Int.toNat_natCast]
theorem za.ok (h:za ws i0 gs i1 e1 ls i2 e2 ps pl i3 e3) (he:e3=0) (h0:ps.any (jW ls ps.length)=false):vq ws i0=(⟨(sA ws i0).2.2,(pN ws i0).2.2,gs,ls,ps⟩,(i3:Int),0):=by
  have z2:e2=0:=by
    have:=sS (ws:=ws) _ i2 e2 [] [] (by have:=h.p;unfold Ke at this;rw [this];exact he);exact this
  have z1:e1=0:=by
    have:=rK (ws:=ws) _ i1 e1 [] (by have:=h.l;unfold JA at this;rw [this];exact z2);exact this
  have e':ql ls ps= -1:=gg h0
  unfold vq;rw [h.two.2,h.two.1];simp only;rw [if_neg (by simp [he]),e',if_neg (by decide),h.g.2 z1]
theorem QV (h:i<=ws.length):0<=(dY ws (i:Int)).2.2.1/\(dY ws (i:Int)).2.2.1.toNat<=ws.length:=by
  have key:∀(f i:Nat) (ops:List bO),i<=ws.length->0<=(o7 f ws i ops).2.1/\(o7 f ws i ops).2.1.toNat<=ws.length:=by
    intro f
    induction f with
    |zero=>intro i ops hi;exact⟨by show (0:Int)<=(i:Int);omega,by show ((i:Int)).toNat<=_;omega⟩
    |succ f ih=>
      intro i ops hi
      unfold o7
      split
      · rename_i q
        have:=pE q
        split
        ·exact⟨by show (0:Int)<=(i:Int);omega,by show ((i:Int)).toNat<=_;omega⟩
        ·exact⟨by show (0:Int)<=((i+1:Nat):Int);omega,by show (((i+1:Nat):Int)).toNat<=_;omega⟩
      · have hp:=Sy (k:=ops.length) hi
        split
        ·exact⟨by show (0:Int)<=((mU ws i ops.length).1:Int);omega,by show (((mU ws i ops.length).1:Int)).toNat<=_;omega⟩
        ·exact ih _ _ hp
  rw [uu h];simp only
  unfold kN
  split
  · rename_i q
    have:=pE q
    have hh:(dR ws i).2<=ws.length:=by
      unfold dR;simp only;split
      ·rename_i q;have:=pE q;omega
      ·omega
    split
    · rename_i q2
      have:=pE q2;exact key _ _ _ om
    ·exact⟨by show (0:Int)<=((dR ws i).2:Int);omega,by show (((dR ws i).2:Int)).toNat<=_;omega⟩
  ·exact⟨by show (0:Int)<=(i:Int);omega,by show ((i:Int)).toNat<=_;omega⟩
def M9 (r:ee×Int×Int) (n0:Nat) (v:Value) (m:ab):Prop:=∃sv:dU,v= .tuple #[sv.val,.int .i64 r.2.1,.int .i64 r.2.2]/\sv.C=r.1/\∀w,Mem w m->sv.In w
theorem M9.mono {r:ee×Int×Int}:∀(k k':Nat) u m,k'<=k->M9 r k u m->M9 r k' u m:=fun k k' u m h q=>q
theorem M9.none {p:Int}:M9 (default,p,e) n0 (.tuple #[(default:dU).val,.int .i64 p,.int .i64 e]) [] :=
  ⟨default,rfl,rfl,fun w _=>⟨rfl,.nil _ _ _,rfl,.nil _ _ _,rfl,.nil _ _ _,fun p hp=>by cases hp⟩⟩
abbrev sO (c g:Int) (ga:Option Addr) (gn gc:Nat) (la:Option Addr) (ln lc:Nat) (pa:Option Addr) (pn pc:Nat):Obj:= .cells #[.int .i64 c,.int .i64 g,.slice ga gn gc,.slice la ln lc,.slice pa pn pc] 30 (0,0)
abbrev z0:Obj:=sO 0 0 none 0 0 none 0 0 none 0 0
theorem ML {ps:List iJ} {p:iJ}:(ps++ [p]).map iJ.c=ps.map iJ.c++ [p.c] :=by simp
theorem RJ {ps:List iJ} {p:iJ} {w:World} (h:uI ps w) (k:p.In w):uI (ps++ [p]) w:=fun q hq=>by
  rcases List.mem_append.1 hq with hq|hq
  ·exact h q hq
  ·rw [List.mem_singleton] at hq;subst hq;exact k
theorem rQ {f:α->List Value} {E s:Nat} {xs:List α} {v:Value} {m:ab} {w:World} (h:Sl f E s n0 xs v m) (hf:∀a,(f a).length=s) (hm:Mem w m):Sr f s xs v w:=h.sr hf (fun p hp=>hm.2 p hp)
theorem Hq (n:Nat):decide ((n:Int)=0)=decide (n=0):=decide_eq_decide.2 om
set_option maxHeartbeats 4000000 in
theorem Cm (p:Int) (w:World) (hn:n=ws.length) (hx:ws.length<=1000000000) (hl:Sr fW 4 ws (.slice ad n cap) w):aD Tryz.prog 32 #[.slice ad n cap,.int .i64 p] w (fun v w'=>Ext w w'/\∃m,M9 (ly ws p) w.heap.size v m/\Mem w' m/\∀p∈m,w.heap.size<=p.1):=by
 refine aD.ak Tryz.func32 rfl Tryz.ntmps32 rfl ([]) (no) (Mem.nil w) ?_;refine J2 ?_;refine LM.alloc Tryz.zeroValue30 rfl (fun b4 wG=>?_);refine cF ?_;refine LM.aw (t:=19) rfl (fun h1=>?_) (fun h1=>?_)
 ·refine cF ?_;refine LM.val (aE (cs:=#[_,_,_,_,_]) rfl (by first|rfl|kernel_rfl)) ?_;refine LM.c6 Tryz.sizeOf30 rfl rfl rfl rfl cZ bF ?_;refine J6 ?_;refine QM.aG (ds:=([])) (.inl rfl) [.cell 4 30,.tmp 5,.tmp 6] Tryz.results32 aV (bU rfl Tryz.isAgg30 Tryz.sizeOf30 rfl (aZ rfl (aZ rfl aU))) ?_;intro w' ao aa;have r5:ly ws p=(default,0,5):=(by unfold ly;rw [if_pos om]);rw [r5];exact⟨aa,[],M9.none,Mem.nil _,fun p hp=>by cases hp⟩
 refine J7 ?_;refine af.aj rfl (fun h2=>?_) (fun h2=>?_)
 ·refine J2 ?_;refine LM.val (aE (cs:=#[_,_,_,_,_]) rfl (by first|rfl|kernel_rfl)) ?_;refine LM.c6 Tryz.sizeOf30 rfl rfl rfl rfl cZ bF ?_;refine J6 ?_;refine QM.aG (ds:=([])) (.inl rfl) [.cell 4 30,.tmp 5,.tmp 6] Tryz.results32 aV (bU rfl Tryz.isAgg30 Tryz.sizeOf30 rfl (aZ rfl (aZ rfl aU))) ?_;intro w' ao aa;have r5:ly ws p=(default,0,5):=(by unfold ly;rw [if_pos om]);rw [r5];exact⟨aa,[],M9.none,Mem.nil _,fun p hp=>by cases hp⟩
 obtain ⟨i0,rfl⟩:∃i0:Nat,p=(i0:Nat):=⟨p.toNat,by omega⟩;have tY:i0<=ws.length:=om;refine J6 ?_;refine LM.val (aE (cs:=#[_,_,_]) rfl (by first|rfl|kernel_rfl)) ?_;refine LM.box rfl rfl (fun lN aaF=>?_);refine J5 ?_;have r8:0<ws.length->ox ad≠lN:=(fun h0=>by have:=hl.agS h0;omega)
 refine LM.val (aE (cs:=#[_,_,_,_,_]) rfl (by first|rfl|kernel_rfl)) ?_;refine LM.alloc Tryz.zeroValue30 rfl (fun b8 RV=>?_);refine LM.c6 Tryz.sizeOf30 rfl rfl rfl rfl cZ bF ?_;refine J5 ?_;refine LM.cW (oC Tryz.func77) (fun w hm hc hg=>dz lN i0 0 4 Bt w hn hx (hl.ext hc) r8 (sm hm)) rfl bF ?_;refine J1 ?_;refine LM.st Tryz.sizeOf3 rfl rfl rfl dx rfl bF ?_;refine J5 ?_;refine LM.cW (oC Tryz.func78) (fun w hm hc hg=>gA lN (dQ ws i0 0 Bt 4).1 (dQ ws i0 0 Bt 4).2.1 3 [59] w hn hx (hl.ext hc) r8 (sm hm)) rfl bF ?_;refine J5 ?_;refine LM.cW (oC Tryz.func77) (fun w hm hc hg=>dz lN (sA ws i0).1 (sA ws i0).2.1 8 Aw w hn hx (hl.ext hc) r8 (sm hm)) rfl bF ?_;refine J1 ?_;refine LM.st Tryz.sizeOf3 rfl rfl rfl dx rfl bF ?_;refine J5 ?_;refine LM.cW (oC Tryz.func78) (fun w hm hc hg=>gA lN (dQ ws (sA ws i0).1 (sA ws i0).2.1 Aw 8).1 (dQ ws (sA ws i0).1 (sA ws i0).2.1 Aw 8).2.1 3 [59] w hn hx (hl.ext hc) r8 (sm hm)) rfl bF ?_;refine J3 ?_;refine af.bB (α:=Nat×Int×List Int×Option Addr×Nat×Nat×ab) (fun ⟨i1,e1,gs,lj,ng,cg,mg⟩=>[]) [(0,_),(4,_),(7,_),(8,_)] (fun ⟨i1,e1,gs,lj,ng,cg,mg⟩=>mg++qB lN ad n cap i1 e1::(b8,sO (sA ws i0).2.2 (pN ws i0).2.2 lj ng cg none 0 0 none 0 0)::(b4,z0):: []) (fun ⟨i1,e1,gs,lj,ng,cg,mg⟩=>Lf ws (pN ws i0).1 (pN ws i0).2.1 [] =(gs,i1,e1)/\i1<=ws.length/\gs.length<=4/\ng=gs.length/\Sl fI 3 1 w.heap.size gs (.slice lj ng cg) mg) cA ?_ ?_
 ·refine J1 ?_;refine af.aO (α:=Nat×Int×List Int×Option Addr×Nat×Nat×ab) (fun ⟨i,e,gs,lj,ng,cg,mg⟩=>[]) [(0,_),(4,_),(7,_),(8,_)] (fun ⟨i,e,gs,lj,ng,cg,mg⟩=>mg++qB lN ad n cap i e::(b8,sO (sA ws i0).2.2 (pN ws i0).2.2 lj ng cg none 0 0 none 0 0)::(b4,z0):: []) (fun ⟨i,e,gs,lj,ng,cg,mg⟩=>Lf ws i e gs=Lf ws (pN ws i0).1 (pN ws i0).2.1 []/\i<=ws.length/\gs.length<=4/\ng=gs.length/\Sl fI 3 1 w.heap.size gs (.slice lj ng cg) mg) (fun ⟨i,e,gs,lj,ng,cg,mg⟩=>5-gs.length) (((pN ws i0).1,(pN ws i0).2.1,[],none,0,0,[])) cA aX ⟨rfl,Be (Be om),by decide,rfl,.nil _ _ _ _⟩ ?_;rintro ⟨i,e,gs,lj,ng,cg,mg⟩ ⟨hG,hi,Zf,FP,Cp⟩;change af _ _ _ _ _ _ _ (mg++qB lN ad n cap i e::(b8,sO (sA ws i0).2.2 (pN ws i0).2.2 lj ng cg none 0 0 none 0 0)::(b4,z0):: []) _ _ _;refine J2 ?_;refine af.bB (α:=Bool) (fun q=>[(55,.bool q)]) [(0,_),(4,_),(7,_),(8,_)] (fun q=>mg++qB lN ad n cap i e::(b8,sO (sA ws i0).2.2 (pN ws i0).2.2 lj ng cg none 0 0 none 0 0)::(b4,z0):: []) (fun q=>q=(oh ws i e 1 bW||(decide ((ng:Int)=0)&&decide (e=0)))) cA ?_ ?_
  ·refine J2 ?_;refine cE Tryz.func79 rfl (fun w hm hc hg=>j8 lN i e 1 bW w hn (hl.ext hc) (sm hm)) ?_;refine J1 ?_;refine LM.bn (t:=43) rfl (fun h3=>?_) (fun h3=>?_)
   ·refine J4 ?_;refine LM.dL (t:=43) rfl rfl rfl ?_;refine J8 ?_;refine mK (_) ?_
    ·(simp [h1,h2,h3];done)
   refine J6 ?_;refine LM.aw (t:=48) rfl (fun h4=>?_) (fun h4=>?_)
   ·refine J9 ?_;refine mK (_) ?_
    ·(simp [h1,h2,h3,h4];done)
   refine J8 ?_;refine mK (_) ?_
   ·(have h0:=decide_eq_false (show¬((ng:Nat):Int)=0 by omega);simp only [h0,h1,h2,h3,h4,Bool.false_and,Bool.or_false];rfl)
  rintro q hq;change QM _ _ _ _ _ (mg++qB lN ad n cap i e::(b8,sO (sA ws i0).2.2 (pN ws i0).2.2 lj ng cg none 0 0 none 0 0)::(b4,z0):: []) _ _ _;refine J1 ?_;refine af.aN rfl (fun h5=>?_) (fun h5=>?_)
  ·have hQ:(oh ws i e 1 bW||(decide (gs.length=0)&&decide (e=0)))=true:=(by rw [<-h5,hq,FP,Hq])
   refine J7 ?_;refine cE Tryz.func79 rfl (fun w hm hc hg=>j8 lN i e 1 bW w hn (hl.ext hc) (sm hm)) ?_;refine J1 ?_;refine LM.bn (t:=58) rfl (fun h6=>?_) (fun h6=>?_)
   ·refine J6 ?_;refine LM.cW (oC Tryz.func80) (fun w hm hc hg=>q8 lN i e (ng:Nat) 4 w (sm hm)) rfl bF ?_;refine J3 ?_;refine af.aN rfl (fun h7=>?_) (fun h7=>?_)
    ·have GU:=(px h6).2;have h4:(4:Int)<=(ng:Nat):=(by simpa [GU] using h7);rw [if_pos ⟨GU,h4⟩];refine J5 ?_;refine mK ((i,6,gs,lj,ng,cg,mg)) ?_
     ·exact⟨by rw [<-hG];exact Mh h6 om,hi,Zf,FP,Cp⟩
    have h4:¬(4:Int)<=(ng:Nat):=(fun q=>by rw [decide_eq_true q] at h7;simp at h7);rw [if_neg (fun q=>h4 q.2)];refine J3 ?_;refine af.keep ((b8,_):: []) (fun _=>True) (.one 0 0 (.one 1 1 (.one 2 0 (.one 3 2 (.one 4 2 (.one 5 2 (.one 6 0 (.last 7)))))))) kr kr aX (fun _ _=>trivial) ?_;refine J4 ?_;refine LM.cW (oC Tryz.func77) (fun w hm hc hg=>dz lN i e 16 bW w hn hx (hl.ext hc) r8 (sm hm)) rfl bF ?_;refine J3 ?_;refine LM.single Tryz.underlying26 Tryz.sizeOf3 Tryz.zeroValue3 rfl rfl rfl rfl rfl (fun b69 ahv=>?_);refine J3 ?_;refine LM.app (a:=(dQ ws i e bW 16).2.2) Tryz.underlying26 Tryz.typeInfo3 rfl rfl rfl rfl rfl rfl rfl aC (by rfl) ir (by intro _ u hu;simp [fI] at hu;(repeat (first|(rcases hu with rfl|hu)|subst hu|rfl))) (by first|exact Nat.le_refl _|omega) kU (by first|omega|(unfold maxLen;omega)) (by simp only [Tryz.t3];omega) (fun U1 n70 LO m70 Yf YI NO=>?_);refine J3 ?_;refine KD.last rfl ?_;refine LM.st Tryz.sizeOf26 rfl rfl rfl dx rfl bF ?_;refine J1 ?_;refine QM.qn ?_;refine J3 ?_;refine LM.cW (oC Tryz.func78) (fun w hm hc hg=>gA lN (dQ ws i e bW 16).1 (dQ ws i e bW 16).2.1 3 [59] w hn hx (hl.ext hc) r8 (sm hm)) rfl bF ?_;refine J2 ?_;refine aK (((jn ws i e bW 16).1,(jn ws i e bW 16).2.1,gs++ [(jn ws i e bW 16).2.2],U1,n70,LO,m70)) ?_ ?_
    ·exact⟨by rw [<-CO hQ om];exact hG,Be hi,by simp;omega,by rw [Yf];simp,YI⟩
    ·dsimp only;rw [List.length_append,List.length_singleton];omega
   have hg0:gs.length=0:=(by have h:=hQ;simp only [h6,Bool.false_or,Bool.and_eq_true,decide_eq_true_eq] at h;exact h.1)
   refine cM ?_;refine af.keep ((b8,_):: []) (fun _=>True) (.one 0 0 (.one 1 1 (.one 2 0 (.one 3 2 (.one 4 2 (.one 5 2 (.one 6 0 (.last 7)))))))) kr kr aX (fun _ _=>trivial) ?_;refine J4 ?_;refine LM.cW (oC Tryz.func77) (fun w hm hc hg=>dz lN i e 16 bW w hn hx (hl.ext hc) r8 (sm hm)) rfl bF ?_;refine J3 ?_;refine LM.single Tryz.underlying26 Tryz.sizeOf3 Tryz.zeroValue3 rfl rfl rfl rfl rfl (fun b69 ahv=>?_);refine J3 ?_;refine LM.app (a:=(dQ ws i e bW 16).2.2) Tryz.underlying26 Tryz.typeInfo3 rfl rfl rfl rfl rfl rfl rfl aC (by rfl) ir (by intro _ u hu;simp [fI] at hu;(repeat (first|(rcases hu with rfl|hu)|subst hu|rfl))) (by first|exact Nat.le_refl _|omega) kU (by first|omega|(unfold maxLen;omega)) (by simp only [Tryz.t3];omega) (fun U1 n70 LO m70 Yf YI NO=>?_);refine J3 ?_;refine KD.last rfl ?_;refine LM.st Tryz.sizeOf26 rfl rfl rfl dx rfl bF ?_;refine J1 ?_;refine QM.qn ?_;refine J3 ?_;refine LM.cW (oC Tryz.func78) (fun w hm hc hg=>gA lN (dQ ws i e bW 16).1 (dQ ws i e bW 16).2.1 3 [59] w hn hx (hl.ext hc) r8 (sm hm)) rfl bF ?_;refine J2 ?_;refine aK (((jn ws i e bW 16).1,(jn ws i e bW 16).2.1,gs++ [(jn ws i e bW 16).2.2],U1,n70,LO,m70)) ?_ ?_
   ·exact⟨by rw [<-CO hQ om];exact hG,Be hi,by simp;omega,by rw [Yf];simp,YI⟩
   ·dsimp only;rw [List.length_append,List.length_singleton];omega
  refine J4 ?_;refine mK ((i,e,gs,lj,ng,cg,mg)) ?_
  ·exact⟨by rw [<-hG];exact Lq (by rw [<-h5,hq,FP,Hq]),hi,Zf,FP,Cp⟩
 rintro ⟨i1,e1,gs,lj,ng,cg,mg⟩ ⟨hG,hi1,Zf,FP,Cp⟩;change QM _ _ _ _ _ (mg++qB lN ad n cap i1 e1::(b8,sO (sA ws i0).2.2 (pN ws i0).2.2 lj ng cg none 0 0 none 0 0)::(b4,z0):: []) _ _ _;refine J2 ?_;refine af.bB (α:=Nat×Int×List jD×Option Addr×Nat×Nat×ab) (fun ⟨i2,e2,ls,tO,nl,cl,ml⟩=>[]) [(0,_),(4,_),(7,_),(8,_)] (fun ⟨i2,e2,ls,tO,nl,cl,ml⟩=>ml++(mg++(qB lN ad n cap i2 e2::(b8,sO (sA ws i0).2.2 (pN ws i0).2.2 lj ng cg tO nl cl none 0 0)::(b4,z0):: []))) (fun ⟨i2,e2,ls,tO,nl,cl,ml⟩=>JA ws i1 e1 [] =(ls,i2,e2)/\i2<=ws.length/\ls.length<=8/\nl=ls.length/\Sl fL 74 5 w.heap.size ls (.slice tO nl cl) ml) cA ?_ ?_
 ·refine J1 ?_;refine af.aO (α:=Nat×Int×List jD×Option Addr×Nat×Nat×ab) (fun ⟨i,e,ls,tO,nl,cl,ml⟩=>[]) [(0,_),(4,_),(7,_),(8,_)] (fun ⟨i,e,ls,tO,nl,cl,ml⟩=>ml++(mg++(qB lN ad n cap i e::(b8,sO (sA ws i0).2.2 (pN ws i0).2.2 lj ng cg tO nl cl none 0 0)::(b4,z0):: []))) (fun ⟨i,e,ls,tO,nl,cl,ml⟩=>JA ws i e ls=JA ws i1 e1 []/\i<=ws.length/\ls.length<=8/\nl=ls.length/\Sl fL 74 5 w.heap.size ls (.slice tO nl cl) ml) (fun ⟨i,e,ls,tO,nl,cl,ml⟩=>9-ls.length) ((i1,e1,[],none,0,0,[])) cA aX ⟨rfl,hi1,by decide,rfl,.nil _ _ _ _⟩ ?_;rintro ⟨i,e,ls,tO,nl,cl,ml⟩ ⟨hL,hi,Rm,vV,jL⟩;change af _ _ _ _ _ _ _ (ml++(mg++(qB lN ad n cap i e::(b8,sO (sA ws i0).2.2 (pN ws i0).2.2 lj ng cg tO nl cl none 0 0)::(b4,z0):: []))) _ _ _;refine J2 ?_;refine af.bB (α:=Bool) (fun q=>[(79,.bool q)]) [(0,_),(4,_),(7,_),(8,_)] (fun q=>ml++(mg++(qB lN ad n cap i e::(b8,sO (sA ws i0).2.2 (pN ws i0).2.2 lj ng cg tO nl cl none 0 0)::(b4,z0):: []))) (fun q=>q=Nc ws i e) cA ?_ ?_
  ·refine J2 ?_;refine cE Tryz.func79 rfl (fun w hm hc hg=>j8 lN i e 1 UB w hn (hl.ext hc) (sm hm)) ?_;refine J1 ?_;refine LM.bn (t:=76) rfl (fun h8=>?_) (fun h8=>?_)
   ·refine J4 ?_;refine mK (_) ?_
    ·simp [Nc,h1,h2,h8]
   refine J2 ?_;refine cE Tryz.func79 rfl (fun w hm hc hg=>j8 lN i e 1 fe w hn (hl.ext hc) (sm hm)) ?_;refine J2 ?_;refine mK (_) ?_
   ·simp [Nc,h1,h2,h8]
  rintro q hq;change QM _ _ _ _ _ (ml++(mg++(qB lN ad n cap i e::(b8,sO (sA ws i0).2.2 (pN ws i0).2.2 lj ng cg tO nl cl none 0 0)::(b4,z0):: []))) _ _ _;refine J1 ?_;refine af.aN rfl (fun h9=>?_) (fun h9=>?_)
  ·have hQ:Nc ws i e=true:=(by rw [<-hq,h9]);have GU:=(BG hQ).2;have bo:=(BG hQ).1;refine cF ?_;refine LM.cW (oC Tryz.func80) (fun w hm hc hg=>q8 lN i e (nl:Nat) 8 w (sm hm)) rfl bF ?_;refine J2 ?_;refine af.aN rfl (fun je=>?_) (fun je=>?_)
   ·have h4:(8:Int)<=(nl:Nat):=(by simpa [GU] using je);rw [if_pos ⟨GU,h4⟩];refine J5 ?_;refine mK ((i,6,ls,tO,nl,cl,ml)) ?_
    ·exact⟨by rw [<-hL];exact Qf hQ om,hi,Rm,vV,jL⟩
   have h4:¬(8:Int)<=(nl:Nat):=(fun q=>by rw [decide_eq_true q] at je;simp at je);rw [if_neg (fun q=>h4 q.2)];refine J5 ?_;refine cE Tryz.func79 rfl (fun w hm hc hg=>j8 lN i e 1 fe w hn (hl.ext hc) (sm hm)) ?_;refine cM ?_;refine LM.st Tryz.sizeOf3 rfl rfl rfl dx rfl bF ?_;refine J2 ?_;refine af.keep ((b8,_):: []) (fun _=>True) (.one 0 0 (.one 1 1 (.one 2 0 (.one 3 0 (.one 4 2 (.one 5 2 (.one 6 2 (.one 7 0 (.last 8))))))))) kr kr aX (fun _ _=>trivial) ?_;refine J5 ?_;refine LM.cW (oC Tryz.func81) (fun w hm hc hg=>Fq (oh ws i e 1 fe) lN (i+1) e w hn hx (hl.ext hc) r8 (sm hm)) rfl bF ?_;refine J3 ?_;refine LM.single Tryz.underlying27 Tryz.sizeOf74 Tryz.zeroValue74 rfl rfl rfl rfl rfl (fun b99 amh=>?_);refine J3 ?_;refine LM.app (a:=(ky ws (oh ws i e 1 fe) (i+1) e).2.2) Tryz.underlying27 Tryz.typeInfo74 rfl rfl rfl rfl rfl rfl rfl aC (by rfl) ir (by intro _ u hu;simp [fL] at hu;(repeat (first|(rcases hu with rfl|hu)|subst hu|rfl))) (by first|exact Nat.le_refl _|omega) kU (by first|omega|(unfold maxLen;omega)) (by simp only [Tryz.t74];omega) (fun ZK agH Yr ahK aa7 abx agi=>?_);refine J3 ?_;refine KD.last rfl ?_;refine LM.st Tryz.sizeOf27 rfl rfl rfl dx rfl bF ?_;refine J1 ?_;refine QM.qn ?_;refine J1 ?_;refine aK (((ky ws (oh ws i e 1 fe) (i+1) e).1,(ky ws (oh ws i e 1 fe) (i+1) e).2.1,ls++ [(ky ws (oh ws i e 1 fe) (i+1) e).2.2],ZK,agH,Yr,ahK)) ?_ ?_
   ·exact⟨by rw [<-L6 hQ om];exact hL,VJ om,by simp;omega,by rw [aa7];simp,abx⟩
   ·dsimp only;rw [List.length_append,List.length_singleton];omega
  refine J4 ?_;refine mK ((i,e,ls,tO,nl,cl,ml)) ?_
  ·exact⟨by rw [<-hL];exact PS (by rw [<-hq,h9]),hi,Rm,vV,jL⟩
 rintro ⟨i2,e2,ls,tO,nl,cl,ml⟩ ⟨hL,UX,Rm,vV,jL⟩;change QM _ _ _ _ _ (ml++(mg++(qB lN ad n cap i2 e2::(b8,sO (sA ws i0).2.2 (pN ws i0).2.2 lj ng cg tO nl cl none 0 0)::(b4,z0):: []))) _ _ _;refine J7 ?_;refine af.bB (α:=Nat×Int×List iJ×Option Addr×Nat×Nat×ab×List Int×Option Addr×Nat×Nat×ab×ab) (fun ⟨i3,e3,ps,yZ,np,cp,mp,pl,nS,nq,cq,mq,mo⟩=>[(10,.slice nS nq cq)]) [(4,_),(7,_),(8,_)] (fun ⟨i3,e3,ps,yZ,np,cp,mp,pl,nS,nq,cq,mq,mo⟩=>mo++(mp++(mq++(ml++(mg++(qB lN ad n cap i3 e3::(b8,sO (sA ws i0).2.2 (pN ws i0).2.2 lj ng cg tO nl cl yZ np cp)::(b4,z0):: [])))))) (fun ⟨i3,e3,ps,yZ,np,cp,mp,pl,nS,nq,cq,mq,mo⟩=>Ke ws i2 e2 [] [] =(ps.map iJ.c,pl,i3,e3)/\i3<=ws.length/\ps.length<=8/\np=ps.length/\Sl Z5 62 2 w.heap.size ps (.slice yZ np cp) mp/\pl.length=ps.length/\nq=pl.length/\Sl fI 3 1 w.heap.size pl (.slice nS nq cq) mq/\(∀w,Mem w mo->uI ps w)/\(∀p∈mo,w.heap.size<=p.1)) cA ?_ ?_
 ·refine J1 ?_;refine af.aO (α:=Nat×Int×List iJ×Option Addr×Nat×Nat×ab×List Int×Option Addr×Nat×Nat×ab×ab) (fun ⟨i,e,ps,yZ,np,cp,mp,pl,nS,nq,cq,mq,mo⟩=>[(10,.slice nS nq cq)]) [(0,_),(4,_),(7,_),(8,_)] (fun ⟨i,e,ps,yZ,np,cp,mp,pl,nS,nq,cq,mq,mo⟩=>mo++(mp++(mq++(ml++(mg++(qB lN ad n cap i e::(b8,sO (sA ws i0).2.2 (pN ws i0).2.2 lj ng cg tO nl cl yZ np cp)::(b4,z0):: [])))))) (fun ⟨i,e,ps,yZ,np,cp,mp,pl,nS,nq,cq,mq,mo⟩=>Ke ws i e (ps.map iJ.c) pl=Ke ws i2 e2 [] []/\i<=ws.length/\ps.length<=8/\np=ps.length/\Sl Z5 62 2 w.heap.size ps (.slice yZ np cp) mp/\pl.length=ps.length/\nq=pl.length/\Sl fI 3 1 w.heap.size pl (.slice nS nq cq) mq/\(∀w,Mem w mo->uI ps w)/\(∀p∈mo,w.heap.size<=p.1)) (fun ⟨i,e,ps,yZ,np,cp,mp,pl,nS,nq,cq,mq,mo⟩=>9-ps.length) ((i2,e2,[],none,0,0,[],[],none,0,0,[],[])) cA aX ⟨rfl,UX,by decide,rfl,.nil _ _ _ _,rfl,rfl,.nil _ _ _ _,(fun w _ p hp=>by cases hp),(fun p hp=>by cases hp)⟩ ?_;rintro ⟨i,e,ps,yZ,np,cp,mp,pl,nS,nq,cq,mq,mo⟩ ⟨hP,hi,hp8,S1,C4,So,DP,zM,pO,hog⟩;change af _ _ _ _ _ _ _ (mo++(mp++(mq++(ml++(mg++(qB lN ad n cap i e::(b8,sO (sA ws i0).2.2 (pN ws i0).2.2 lj ng cg tO nl cl yZ np cp)::(b4,z0):: [])))))) _ _ _;refine J2 ?_;refine af.bB (α:=Bool) (fun q=>[(116,.bool q)]) [(0,_),(4,_),(7,_),(8,_),(10,_)] (fun q=>mo++(mp++(mq++(ml++(mg++(qB lN ad n cap i e::(b8,sO (sA ws i0).2.2 (pN ws i0).2.2 lj ng cg tO nl cl yZ np cp)::(b4,z0):: [])))))) (fun q=>q=(oh ws i e 1 qI||(decide ((np:Int)=0)&&decide (e=0)))) cA ?_ ?_
  ·refine J2 ?_;refine cE Tryz.func79 rfl (fun w hm hc hg=>j8 lN i e 1 qI w hn (hl.ext hc) (sm hm)) ?_;refine J1 ?_;refine LM.bn (t:=104) rfl (fun lK=>?_) (fun lK=>?_)
   ·refine J4 ?_;refine LM.dL (t:=104) rfl rfl rfl ?_;refine J8 ?_;refine mK (_) ?_
    ·(simp [h1,h2,lK];done)
   refine J6 ?_;refine LM.aw (t:=109) rfl (fun rz=>?_) (fun rz=>?_)
   ·refine J9 ?_;refine mK (_) ?_
    ·(simp [h1,h2,lK,rz];done)
   refine J8 ?_;refine mK (_) ?_
   ·(have h0:=decide_eq_false (show¬((np:Nat):Int)=0 by omega);simp only [h0,h1,h2,lK,rz,Bool.false_and,Bool.or_false];rfl)
  rintro q hq;change QM _ _ _ _ _ (mo++(mp++(mq++(ml++(mg++(qB lN ad n cap i e::(b8,sO (sA ws i0).2.2 (pN ws i0).2.2 lj ng cg tO nl cl yZ np cp)::(b4,z0):: [])))))) _ _ _;refine J1 ?_;refine af.aN rfl (fun tz=>?_) (fun tz=>?_)
  ·have hQ:Lc ws i e (ps.map iJ.c)=true:=(by rw [NI,List.length_map,<-tz,hq,S1,Hq]);have GU:=wu hQ;refine cF ?_;refine LM.cW (oC Tryz.func80) (fun w hm hc hg=>q8 lN i e (np:Nat) 8 w (sm hm)) rfl bF ?_;refine J2 ?_;refine af.aN rfl (fun nW=>?_) (fun nW=>?_)
   ·have h4:(8:Int)<=(np:Nat):=(by simpa [GU] using nW);rw [if_pos ⟨GU,h4⟩];refine J5 ?_;refine mK ((i,6,ps,yZ,np,cp,mp,pl,nS,nq,cq,mq,mo)) ?_
    ·exact⟨by rw [<-hP];exact MS hQ (by simp;omega),hi,hp8,S1,C4,So,DP,zM,pO,hog⟩
   have h4:¬(8:Int)<=(np:Nat):=(fun q=>by rw [decide_eq_true q] at nW;simp at nW);rw [if_neg (fun q=>h4 q.2)];refine J9 ?_;refine LM.single Tryz.underlying26 Tryz.sizeOf3 Tryz.zeroValue3 rfl rfl rfl rfl rfl (fun aor alY=>?_);refine LM.app (a:=(i:Int)) Tryz.underlying26 Tryz.typeInfo3 rfl rfl rfl rfl rfl rfl rfl aC (by rfl) ir (by intro _ u hu;simp [fI] at hu;(repeat (first|(rcases hu with rfl|hu)|subst hu|rfl))) (by first|exact Nat.le_refl _|omega) kU (by first|omega|(unfold maxLen;omega)) (by simp only [Tryz.t3];omega) (fun adt ahE Yq afm aaS abw aiu=>?_);refine cF ?_;refine LM.dS (oC Tryz.func82) Gv.mono (fun w hm hc hg=>Cf (i:Nat) w hn hx (hl.ext hc)) ?_;rintro ac6 Mn ⟨UD,adI,NQ,rfl,adz,aat⟩ Xm;have UK:=QV hi;obtain ⟨j9,hj9⟩:∃j:Nat,(dY ws (i:Int)).2.2.1=(j:Int):=⟨_,(Int.toNat_of_nonneg UK.1).symm⟩;rw [hj9];refine J4 ?_;refine LM.alloc Tryz.zeroValue62 rfl (fun b11 aaN=>?_);refine LM.c6 Tryz.sizeOf62 rfl rfl rfl rfl cZ bF ?_;refine J8 ?_;refine LM.rd (aR Tryz.isAgg62 Tryz.sizeOf62 rfl rfl) ?_;refine LM.single Tryz.underlying28 Tryz.sizeOf62 Tryz.zeroValue62 rfl rfl rfl rfl rfl (fun aoQ akC=>?_);refine LM.app (a:=(⟨prC (dY ws (i:Int)),UD,adI,NQ⟩:iJ)) Tryz.underlying28 Tryz.typeInfo62 rfl rfl rfl rfl rfl rfl rfl aC (by rfl) ir (by intro _ u hu;simp [Z5] at hu;(repeat (first|(rcases hu with rfl|hu)|subst hu|rfl))) (by first|exact Nat.le_refl _|omega) kU (by first|omega|(unfold maxLen;omega)) (by simp only [Tryz.t62];omega) (fun abt afl Ww af0 abE ZU ahp=>?_);refine J1 ?_;refine LM.st Tryz.sizeOf28 rfl rfl rfl dx rfl bF ?_;refine J8 ?_;refine LM.st Tryz.sizeOf3 rfl rfl rfl dx rfl bF ?_;refine J7 ?_;refine LM.st Tryz.sizeOf3 rfl rfl rfl dx rfl bF ?_;refine J2 ?_;refine aK ((j9,(dY ws (i:Int)).2.2.2,ps++ [(⟨prC (dY ws (i:Int)),UD,adI,NQ⟩:iJ)],abt,afl,Ww,af0,pl++ [(i:Int)],adt,ahE,Yq,afm,Mn++mo)) ?_ ?_
   ·exact⟨by rw [ML,<-hP,LJ hQ (by simp;omega),hj9,Int.toNat_natCast],by have:=UK.2;rw [hj9,Int.toNat_natCast] at this;exact this,by simp;omega,by rw [abE];simp,ZU,by simp [So],by rw [aaS];simp,abw,(fun w hm=>RJ (pO w (hm.sub (List.sublist_append_right _ _))) ⟨adz,rQ aat (fun _=>rfl) (hm.sub (List.sublist_append_left _ _))⟩),List.forall_mem_append.2 ⟨Xm,hog⟩⟩
   ·dsimp only;rw [List.length_append,List.length_singleton];omega
  refine J4 ?_;refine mK ((i,e,ps,yZ,np,cp,mp,pl,nS,nq,cq,mq,mo)) ?_
  ·exact⟨by rw [<-hP];exact Od (by rw [NI,List.length_map,<-tz,hq,S1,Hq]),hi,hp8,S1,C4,So,DP,zM,pO,hog⟩
 rintro ⟨i3,e3,ps,yZ,np,cp,mp,pl,nS,nq,cq,mq,mo⟩ ⟨hP,hi3,hp8,S1,C4,So,DP,zM,pO,hog⟩;change QM _ _ _ _ _ (mo++(mp++(mq++(ml++(mg++(qB lN ad n cap i3 e3::(b8,sO (sA ws i0).2.2 (pN ws i0).2.2 lj ng cg tO nl cl yZ np cp)::(b4,z0):: [])))))) _ _ _;refine dc ?_;refine af.aj rfl (fun C2=>?_) (fun C2=>?_)
 ·have hI:za ws i0 gs i1 e1 ls i2 e2 (ps.map iJ.c) pl i3 e3:=⟨⟨(Ba hG).1,fun q=>by rw [(Ba hG).2 q]⟩,hL,hP⟩
  refine J1 ?_;refine af.keep ((lN,_):: []) (fun _=>True) (.one 0 0 (.one 1 0 (.one 2 0 (.one 3 0 (.one 4 1 (.one 5 0 (.one 6 0 (.one 7 0 (.one 8 1 (.one 9 2 (.one 10 0 (.one 11 0 .nil)))))))))))) kr kr aX (fun _ _=>trivial) ?_;refine KD.val rfl rfl (aE (cs:=#[_,_,_,_,_]) rfl (by first|rfl|kernel_rfl)) ?_;refine J9 ?_;refine LM.c6 Tryz.sizeOf30 rfl rfl rfl rfl cZ bF ?_;refine J8 ?_;refine QM.aG (ds:=([])) (.inl rfl) [.cell 4 30,.tmp 5,.tmp 6] Tryz.results32 aV (bU rfl Tryz.isAgg30 Tryz.sizeOf30 rfl (aZ rfl (aZ rfl aU))) ?_;intro w' ao aa;rw [A7 tY,hI.bad C2];exact⟨aa,[],M9.none,Mem.nil _,fun p hp=>by cases hp⟩
 have he3:e3=0:=Classical.not_not.1 C2;have hI:za ws i0 gs i1 e1 ls i2 e2 (ps.map iJ.c) pl i3 e3:=⟨⟨(Ba hG).1,fun q=>by rw [(Ba hG).2 q]⟩,hL,hP⟩
 refine J9 ?_;refine af.aO (α:=Nat) (fun j=>[(14,.int .i64 (j:Nat))]) [(4,_),(7,_),(8,_),(10,_)] (fun j=>mo++(mp++(mq++(ml++(mg++(qB lN ad n cap i3 e3::(b8,sO (sA ws i0).2.2 (pN ws i0).2.2 lj ng cg tO nl cl yZ np cp)::(b4,z0):: [])))))) (fun j=>j<=ps.length/\((ps.map iJ.c).take j).any (jW ls ps.length)=false) (fun j=>ps.length-j) (0) cA aX ⟨Nat.zero_le _,rfl⟩ ?_;rintro j ⟨hj,VA⟩;change af _ _ _ _ _ _ _ (mo++(mp++(mq++(ml++(mg++(qB lN ad n cap i3 e3::(b8,sO (sA ws i0).2.2 (pN ws i0).2.2 lj ng cg tO nl cl yZ np cp)::(b4,z0):: [])))))) _ _ _;refine cF ?_;refine af.aj rfl (fun xe=>?_) (fun xe=>?_)
 ·have Qq:j<ps.length:=om;have tS:ps.getD j default∈ps:=List.mem_of_getElem? (aH default Qq);refine J5 ?_;refine af.draw [(0,0),(1,1),(2,0),(3,0),(4,1),(5,0),(6,1),(7,0),(8,1),(9,0),(10,2),(11,0),(12,0),(13,0),(14,0),(15,0)] kr kr ?_;refine J4 ?_;refine LD.rd rfl rfl (tP aC ir Tryz.isAgg62 Tryz.sizeOf62 rfl c7) ?_;refine J5 ?_;refine dE rfl rfl Tryz.func47 rfl (fun w hm hc hg=>uO (np:Nat) w (pO w (hm.pick mo) _ tS).1 (pO w (hm.pick mo) _ tS).2 vV (jL.l7 ir hm)) ?_;refine gz ?_;refine af.aj rfl (fun r9=>?_) (fun r9=>?_)
  ·refine J1 ?_;refine af.keep (mq++ []) (fun _=>True) (.one 0 0 (.one 1 0 (.one 2 0 (.one 3 0 (.one 4 1 (.one 5 0 (.one 6 2 (.one 7 0 (.one 8 0 .nil))))))))) kr kr aX (fun _ _=>trivial) ?_;refine KD.val rfl rfl (aE (cs:=#[_,_,_,_,_]) rfl (by first|rfl|kernel_rfl)) ?_;refine J3 ?_;refine KD.rd rfl rfl (bt aC ir Tryz.isAgg3 rfl rfl (by exact aH 0 cH) (by rfl)) ?_;refine J2 ?_;refine LM.c6 Tryz.sizeOf30 rfl rfl rfl rfl cZ bF ?_;refine cM ?_;refine QM.aG (ds:=([])) (.inl rfl) [.cell 4 30,.tmp 5,.tmp 6] Tryz.results32 aV (bU rfl Tryz.isAgg30 Tryz.sizeOf30 rfl (aZ rfl (aZ rfl aU))) ?_;intro w' ao aa;rw [A7 tY,hI.mis he3 (j:=j) (by simpa using Qq) (by rw [List.length_map];exact VA) (by rw [eT,List.length_map];unfold jW;rw [<-S1];simpa using r9),eT,List.length_map,<-S1];exact⟨aa,[],M9.none,Mem.nil _,fun p hp=>by cases hp⟩
  refine J8 ?_;refine aK (j+1) ?_ ?_
  ·exact⟨by omega,by rw [dG default (by simp;omega),VA,Bool.false_or,eT];unfold jW;rw [<-S1];simpa using r9⟩
  ·omega
 refine J6 ?_;refine af.keep ((lN,_)::(b8,_):: []) (fun _=>True) (.one 0 1 (.one 1 0 (.one 2 0 (.one 3 0 (.one 4 1 (.one 5 2 (.one 6 0 (.one 7 0 .nil)))))))) kr kr aX (fun _ _=>trivial) ?_;refine KD.rd rfl rfl (aR Tryz.isAgg30 Tryz.sizeOf30 rfl rfl) ?_;refine J5 ?_;refine LM.c6 Tryz.sizeOf30 rfl rfl rfl rfl cZ bF ?_;refine J7 ?_;refine QM.aG (ds:=([])) (.inl rfl) [.cell 4 30,.tmp 5,.tmp 6] Tryz.results32 aV (bU rfl Tryz.isAgg30 Tryz.sizeOf30 rfl (aZ rfl (aZ rfl aU))) ?_;intro w' ao aa;rw [A7 tY,hI.ok he3 (by have Qq:j=ps.length:=om;have h9:=VA;rw [Qq,List.take_of_length_le (by simp)] at h9;rw [List.length_map];exact h9)];refine ⟨aa,mo++(mp++(ml++(mg++ []))),⟨⟨(sA ws i0).2.2,(pN ws i0).2.2,gs,lj,ng,cg,ls,tO,nl,cl,ps,yZ,np,cp⟩,rfl,rfl,fun w hm=>⟨FP,rQ Cp (fun _=>rfl) (hm.pick mg),vV,rQ jL (fun _=>rfl) (hm.pick ml),S1,rQ C4 (fun _=>rfl) (hm.pick mp),pO w (hm.pick mo)⟩⟩,aJ.mem (by(repeat' (first|exact aJ.nil _|refine aJ.app ?_))) w' ao,?_⟩;intro p hp;simp only [List.mem_append,List.not_mem_nil,or_false] at hp;rcases hp with hp|hp|hp|hp;exact hog p hp;exact Sl.ge C4 p hp;exact Sl.ge jL p hp;exact Sl.ge Cp p hp
abbrev kZ (b:Nat) (s:dU):Nat×Obj:=(b,sO s.cr s.gr s.ga s.gn s.gc s.la s.ln s.lc s.pa s.pn s.pc)
def u1 (s:ee):Bool:=cz s.cr 4&&(cz s.gr 8&&(cz (s.gs.length:Int) 4&&(decide (s.ls.length<=8)&&cz (s.ps.length:Int) 8)))
theorem iV (s:ee):dt s=(u1 s&&(s.gs.all (fun n=>cz n 16)&&(s.ls.all lI&& !s.ps.any (jW s.ls s.ps.length)))):=by
  unfold dt u1
  ac_rfl
theorem GL {p:α->Bool} {xs:List α} (d:α) (h:i<xs.length) (hp:p (xs.getD i d)=false):xs.all p=false:=by
  cases hm:xs.all p with
  |false=>rfl
  |true=>rw [List.all_eq_true.1 hm _ (List.mem_of_getElem? (aH d h))] at hp;cases hp
theorem YB {p:α->Bool} {xs:List α} (d:α) (h:i<xs.length) (hp:p (xs.getD i d)=true):xs.any p=true:=List.any_eq_true.2 ⟨_,List.mem_of_getElem? (aH d h),hp⟩
theorem head_eq {s:dU} (h1:s.gn=s.gs.length) (h2:s.ln=s.ls.length) (h3:s.pn=s.ps.length):u1 s.C= !(!cz s.cr 4||(!cz s.gr 8||(!cz (s.gn:Int) 4||(decide ((s.ln:Int) > 8)|| !cz (s.pn:Int) 8)))):=by
  unfold u1 dU.C
  simp only [List.length_map,<-h1,<-h2,<-h3];rw [show decide (s.ln<=8)= !decide ((s.ln:Int) > 8) by rw [<-decide_not];exact decide_eq_decide.2 om];cases cz s.cr 4<;>cases cz s.gr 8<;>cases cz (s.gn:Int) 4<;>cases decide ((s.ln:Int) > 8)<;>cases cz (s.pn:Int) 8<;>rfl
theorem jN (h:u1 s=false):dt s=false:=by rw [iV,h];rfl
theorem Hv (h:s.gs.all (fun n=>cz n 16)=false):dt s=false:=by rw [iV,h];simp
theorem BN (h:s.ls.all lI=false):dt s=false:=by rw [iV,h];simp
theorem Q9 (h:s.ps.any (jW s.ls s.ps.length)=true):dt s=false:=by rw [iV,h];simp
theorem GP {x:jD}:lI x= !((!cz x.sl 16|| !cz x.cr 32)||((x.sh&&(!cz x.rd 16|| !cz x.wr 16))||(!x.sh&&(decide (x.rd≠0)||decide (x.wr≠0))))):=by
  unfold lI
  cases x.sh<;>cases cz x.sl 16<;>cases cz x.cr 32<;>simp
theorem dw (n gD:Int) (w:World):aD Tryz.prog 46 #[.int .i64 n,.int .i64 gD] w (fun v w'=>v= .bool (cz n gD)/\Ext w w'):=by
 refine aD.ak Tryz.func46 rfl Tryz.ntmps46 rfl ([]) (no) (Mem.nil w) ?_;refine cF ?_;refine LM.aw (t:=7) rfl (fun h1=>?_) (fun h1=>?_)
 ·refine J8 ?_;refine qL Tryz.results46 rfl fun w' ao aa aA=>?_;refine ⟨?_,aa⟩;simp only [bd,cz];first|(rw [decide_eq_true (show 1<=n by omega),Bool.true_and];done)|(rw [decide_eq_false (show¬1<=n by omega),Bool.false_and];done)
 refine J8 ?_;refine qL Tryz.results46 rfl fun w' ao aa aA=>?_;refine ⟨?_,aa⟩;simp only [bd,cz];first|(rw [decide_eq_true (show 1<=n by omega),Bool.true_and];done)|(rw [decide_eq_false (show¬1<=n by omega),Bool.false_and];done)
theorem dv (n gD:Int) (w:World):aD Tryz.prog 91 #[.int .i64 n,.int .i64 gD] w (fun v w'=>v= .bool (cz n gD)/\Ext w w'):=by
 refine aD.ak Tryz.func91 rfl Tryz.ntmps91 rfl ([]) (no) (Mem.nil w) ?_;refine cF ?_;refine LM.aw (t:=7) rfl (fun h1=>?_) (fun h1=>?_)
 ·refine J8 ?_;refine qL Tryz.results91 rfl fun w' ao aa aA=>?_;refine ⟨?_,aa⟩;simp only [bd,cz];first|(rw [decide_eq_true (show 1<=n by omega),Bool.true_and];done)|(rw [decide_eq_false (show¬1<=n by omega),Bool.false_and];done)
 refine J8 ?_;refine qL Tryz.results91 rfl fun w' ao aa aA=>?_;refine ⟨?_,aa⟩;simp only [bd,cz];first|(rw [decide_eq_true (show 1<=n by omega),Bool.true_and];done)|(rw [decide_eq_false (show¬1<=n by omega),Bool.false_and];done)
set_option maxHeartbeats 2000000 in
theorem Ga {s:dU} (w:World) (hI:s.In w):aD Tryz.prog 17 #[s.val] w (fun v w'=>v= .bool (dt s.C)/\Ext w w'):=by
 have yD:=hI.yD;have qV:=hI.qV;have qE:=hI.qE;have hp:=hI.hp;have hg:=hI.hg;have hl:=hI.hl;have iT:(s.ps.map iJ.c).length=s.ps.length:=List.length_map ..;refine aD.ak Tryz.func17 rfl Tryz.ntmps17 rfl ([]) (no) (Mem.nil w) ?_;refine J2 ?_;refine LM.box rfl rfl (fun b1 l6=>?_);refine J5 ?_;refine af.bB (α:=Bool) (fun q=>[(38,.bool q)]) [(1,_)] (fun q=>kZ b1 s:: []) (fun q=>q=(!cz s.cr 4||(!cz s.gr 8||(!cz (s.gn:Int) 4||(decide ((s.ln:Int) > 8)|| !cz (s.pn:Int) 8))))) cA ?_ ?_
 ·refine J3 ?_;refine cE Tryz.func46 rfl (fun w hm hc hg=>dw _ _ w) ?_;refine J2 ?_;refine LM.bn (t:=13) rfl (fun h1=>?_) (fun h1=>?_)
  ·refine J26 ?_;refine mK (_) ?_
   ·(simp [h1,-List.getD_eq_getElem?_getD];done)
  refine J4 ?_;refine cE Tryz.func46 rfl (fun w hm hc hg=>dw _ _ w) ?_;refine J3 ?_;refine LM.bn (t:=19) rfl (fun h2=>?_) (fun h2=>?_)
  ·refine Zg ?_;refine mK (_) ?_
   ·(simp [h1,h2,-List.getD_eq_getElem?_getD];done)
  refine J5 ?_;refine cE Tryz.func46 rfl (fun w hm hc hg=>dw _ _ w) ?_;refine J3 ?_;refine LM.bn (t:=26) rfl (fun h3=>?_) (fun h3=>?_)
  ·refine gz ?_;refine mK (_) ?_
   ·(simp [h1,h2,h3,-List.getD_eq_getElem?_getD];done)
  refine J7 ?_;refine LM.aw (t:=32) rfl (fun h4=>?_) (fun h4=>?_)
  ·refine J7 ?_;refine mK (_) ?_
   ·(simp [h1,h2,h3,h4,-List.getD_eq_getElem?_getD];done)
  refine J5 ?_;refine cE Tryz.func46 rfl (fun w hm hc hg=>dw _ _ w) ?_;refine J3 ?_;refine mK (_) ?_
  ·(simp [h1,h2,h3,h4,-List.getD_eq_getElem?_getD];done)
 rintro q hq;change QM _ _ _ _ _ (kZ b1 s:: []) _ _ _;refine J1 ?_;refine af.aN rfl (fun h5=>?_) (fun h5=>?_)
 ·refine J7 ?_;refine qL Tryz.results17 rfl fun w' ao aa aA=>?_;refine ⟨?_,aa⟩;rw [jN (by rw [head_eq yD qV qE,<-hq,h5];rfl)];rfl
 have hhd:u1 s.C=true:=(by rw [head_eq yD qV qE,<-hq,h5];rfl);have hh4:=hhd;unfold u1 at hh4;simp only [Bool.and_eq_true,decide_eq_true_eq,P4] at hh4;have hG4:s.gs.length<=4:=(by have:=hh4.2.2.1.2;show s.gs.length<=4;have h9:(s.C.gs.length:Int)<=4:=this;have h8:s.C.gs.length=s.gs.length:=rfl;omega);have hL8:s.ls.length<=8:=hh4.2.2.2.1;have hP8:s.ps.length<=8:=(by have h9:=hh4.2.2.2.2.2;have h8:s.C.ps.length=s.ps.length:=iT;omega)
 refine J9 ?_;refine af.aO (α:=Nat) (fun i=>[(3,.int .i64 (i:Nat))]) [(1,_)] (fun i=>kZ b1 s:: []) (fun i=>i<=s.gs.length/\(s.gs.take i).all (fun n=>cz n 16)=true) (fun i=>s.gs.length-i) (0) cA aX ⟨Nat.zero_le _,rfl⟩ ?_;rintro i ⟨hi,hag⟩;change af _ _ _ _ _ _ _ (kZ b1 s:: []) _ _ _;refine cF ?_;refine af.aj rfl (fun h6=>?_) (fun h6=>?_)
 ·refine cF ?_;refine LM.dV (iO aC Tryz.isAgg3 rfl rfl (by exact aH 0 cH) (by rfl) id) ?_;refine cE Tryz.func46 rfl (fun w hm hc hg=>dw _ _ w) ?_;refine J3 ?_;refine af.aN rfl (fun h7=>?_) (fun h7=>?_)
  ·refine dc ?_;refine qL Tryz.results17 rfl fun w' ao aa aA=>?_;refine ⟨?_,aa⟩;rw [Hv (s:=s.C) (GL (xs:=s.gs) (i:=i) 0 om (by simpa using h7))];rfl
  refine J8 ?_;refine aK (i+1) ?_ ?_
  ·exact⟨by omega,by rw [xM 0 om,hag,Bool.true_and];simpa using h7⟩
  ·omega
 refine cM ?_;refine af.aO (α:=Nat) (fun j=>[(4,.int .i64 (j:Nat))]) [(1,_)] (fun j=>kZ b1 s:: []) (fun j=>j<=s.ls.length/\(s.ls.take j).all lI=true) (fun j=>s.ls.length-j) (0) cA aX ⟨Nat.zero_le _,rfl⟩ ?_;rintro j ⟨hj,Iv⟩;change af _ _ _ _ _ _ _ (kZ b1 s:: []) _ _ _;refine cF ?_;refine af.aj rfl (fun h8=>?_) (fun h8=>?_)
 ·refine cF ?_;refine LM.dV (de aC ir Tryz.isAgg74 Tryz.sizeOf74 rfl c7 id) ?_;refine LM.alloc Tryz.zeroValue74 rfl (fun b5 BV=>?_);refine LM.c6 Tryz.sizeOf74 rfl rfl rfl rfl cZ bF ?_;refine J4 ?_;refine af.bB (α:=Bool) (fun q2=>[(74,.bool q2)]) [(1,_),(4,_),(5,_)] (fun q2=>(b5,.cells (fL (s.ls.getD j default)).toArray 74 (0,0))::kZ b1 s:: []) (fun q2=>q2=(!cz (s.ls.getD j default).sl 16|| !cz (s.ls.getD j default).cr 32)) cA ?_ ?_
  ·refine J3 ?_;refine cE Tryz.func46 rfl (fun w hm hc hg=>dw _ _ w) ?_;refine J2 ?_;refine LM.bn (t:=69) rfl (fun h9=>?_) (fun h9=>?_)
   ·refine J6 ?_;refine mK (_) ?_
    ·(simp [h5,h6,h8,h9,-List.getD_eq_getElem?_getD];done)
   refine J4 ?_;refine cE Tryz.func46 rfl (fun w hm hc hg=>dw _ _ w) ?_;refine J3 ?_;refine mK (_) ?_
   ·(simp [h5,h6,h8,h9,-List.getD_eq_getElem?_getD];done)
  rintro q2 jY;change QM _ _ _ _ _ ((b5,.cells (fL (s.ls.getD j default)).toArray 74 (0,0))::kZ b1 s:: []) _ _ _;refine J1 ?_;refine af.aN rfl (fun je=>?_) (fun je=>?_)
  ·refine cM ?_;refine qL Tryz.results17 rfl fun w' ao aa aA=>?_;refine ⟨?_,aa⟩;rw [BN (s:=s.C) (GL (xs:=s.ls) (i:=j) default om (by rw [GP,<-jY,je];rfl))];rfl
  refine J3 ?_;refine af.bB (α:=Bool) (fun q3=>[(103,.bool q3)]) [(1,_),(4,_)] (fun q3=>(b5,.cells (fL (s.ls.getD j default)).toArray 74 (0,0))::kZ b1 s:: []) (fun q3=>q3=(((s.ls.getD j default).sh&&(!cz (s.ls.getD j default).rd 16|| !cz (s.ls.getD j default).wr 16))||(!(s.ls.getD j default).sh&&(decide ((s.ls.getD j default).rd≠0)||decide ((s.ls.getD j default).wr≠0))))) cA ?_ ?_
  ·refine J4 ?_;refine LM.bn (t:=77) rfl (fun lK=>?_) (fun lK=>?_)
   ·refine J4 ?_;refine cE Tryz.func46 rfl (fun w hm hc hg=>dw _ _ w) ?_;refine J2 ?_;refine LM.bn (t:=82) rfl (fun rz=>?_) (fun rz=>?_)
    ·refine cF ?_;refine LM.dL (t:=89) rfl rfl rfl ?_;refine dc ?_;refine mK (_) ?_
     ·(simp [h5,h6,h8,je,lK,rz,-List.getD_eq_getElem?_getD];done)
    refine J4 ?_;refine cE Tryz.func46 rfl (fun w hm hc hg=>dw _ _ w) ?_;refine J4 ?_;refine LM.bn (t:=89) rfl (fun tz=>?_) (fun tz=>?_)
    ·refine J3 ?_;refine LM.dL (t:=89) rfl rfl rfl ?_;refine dc ?_;refine mK (_) ?_
     ·(simp [h5,h6,h8,je,lK,rz,tz,-List.getD_eq_getElem?_getD];done)
    refine J5 ?_;refine LM.bn (t:=93) rfl (fun nW=>?_) (fun nW=>?_)
    ·refine J5 ?_;refine LM.aw (t:=97) rfl (fun C2=>?_) (fun C2=>?_)
     ·refine J7 ?_;refine mK (_) ?_
      ·(simp_all [-List.getD_eq_getElem?_getD];done)
     refine J8 ?_;refine mK (_) ?_
     ·(simp_all [-List.getD_eq_getElem?_getD];done)
    refine J3 ?_;refine LM.dL (t:=93) rfl rfl rfl ?_;refine J7 ?_;refine mK (_) ?_
    ·(simp [h5,h6,h8,je,lK,rz,tz,nW,-List.getD_eq_getElem?_getD];done)
   refine J4 ?_;refine LM.dL (t:=77) rfl rfl rfl ?_;refine cM ?_;refine LM.bn (t:=93) rfl (fun xe=>?_) (fun xe=>?_)
   ·refine J5 ?_;refine LM.aw (t:=97) rfl (fun r9=>?_) (fun r9=>?_)
    ·refine J7 ?_;refine mK (_) ?_
     ·(simp [h5,h6,h8,je,lK,xe,r9,-List.getD_eq_getElem?_getD];done)
    refine J8 ?_;refine mK (_) ?_
    ·(simp [h5,h6,h8,je,lK,xe,r9,-List.getD_eq_getElem?_getD];done)
   refine J3 ?_;refine LM.dL (t:=93) rfl rfl rfl ?_;refine J7 ?_;refine mK (_) ?_
   ·(simp_all [-List.getD_eq_getElem?_getD];done)
  rintro q3 DA;change QM _ _ _ _ _ ((b5,.cells (fL (s.ls.getD j default)).toArray 74 (0,0))::kZ b1 s:: []) _ _ _;refine J1 ?_;refine af.aN rfl (fun wJ=>?_) (fun wJ=>?_)
  ·refine dc ?_;refine qL Tryz.results17 rfl fun w' ao aa aA=>?_;refine ⟨?_,aa⟩;rw [BN (s:=s.C) (GL (xs:=s.ls) (i:=j) default om (by rw [GP,<-DA,wJ];simp))];rfl
  refine J8 ?_;refine aK (j+1) ?_ ?_
  ·exact⟨by omega,by rw [xM default om,Iv,Bool.true_and,GP,<-jY,<-DA,je,wJ];rfl⟩
  ·omega
 refine cM ?_;refine af.aO (α:=Nat) (fun k=>[(6,.int .i64 (k:Nat))]) [(1,_)] (fun k=>kZ b1 s:: []) (fun k=>k<=s.ps.length/\((s.ps.map iJ.c).take k).any (jW s.ls (s.pn:Nat))=false) (fun k=>s.ps.length-k) (0) cA aX ⟨Nat.zero_le _,rfl⟩ ?_;rintro k ⟨hk,A6⟩;change af _ _ _ _ _ _ _ (kZ b1 s:: []) _ _ _;refine cF ?_;refine af.aj rfl (fun EK=>?_) (fun EK=>?_)
 ·have tS:s.ps.getD k default∈s.ps:=List.mem_of_getElem? (aH default om);refine J5 ?_;refine af.draw [(0,0),(1,1),(2,0),(3,0),(4,1),(5,0),(6,1),(7,0),(8,1),(9,0),(10,2),(11,0),(12,0),(13,0),(14,0),(15,0)] kr kr ?_;refine J4 ?_;refine LD.dV rfl rfl (de aC ir Tryz.isAgg62 Tryz.sizeOf62 rfl c7 id) ?_;refine J5 ?_;refine dE rfl rfl Tryz.func47 rfl (fun w hm hc hg=>uO (s.pn:Nat) w (hI.ops _ tS).1 ((hI.ops _ tS).2.ext hc) qV (hl.ext hc)) ?_;refine gz ?_;refine af.aj rfl (fun yy=>?_) (fun yy=>?_)
  ·refine dc ?_;refine qL Tryz.results17 rfl fun w' ao aa aA=>?_;refine ⟨?_,aa⟩;rw [Q9 (s:=s.C) (YB (xs:=s.C.ps) (i:=k) default (by show k<(s.ps.map iJ.c).length;omega) (by show jW s.ls (s.ps.map iJ.c).length ((s.ps.map iJ.c).getD k default)=true;rw [eT,iT];unfold jW;rw [<-qE];exact decide_eq_true yy))];rfl
  refine J8 ?_;refine aK (k+1) ?_ ?_
  ·exact⟨by omega,by rw [dG default (by rw [iT];omega),A6,Bool.false_or,eT];unfold jW;simpa using yy⟩
  ·omega
 refine dc ?_;refine qL Tryz.results17 rfl fun w' ao aa aA=>?_;refine ⟨?_,aa⟩;have YG:i=s.gs.length:=om;have Qq:j=s.ls.length:=om;have hkp:k=s.ps.length:=om;rw [YG,List.take_length] at hag;rw [Qq,List.take_length] at Iv;rw [hkp,List.take_of_length_le om] at A6;rw [iV,hhd];show Value.bool true=Value.bool (true&&(s.gs.all (fun n=>cz n 16)&&(s.ls.all lI&& !(s.ps.map iJ.c).any (jW s.ls (s.ps.map iJ.c).length))));rw [hag,Iv,iT,<-qE,A6];rfl
theorem FT (n:Int) (w:World):aD Tryz.prog 93 #[.int .i64 n] w (fun v w'=>v= .bool (!cz n 16)/\Ext w w'):=by
 refine aD.ak Tryz.func93 rfl Tryz.ntmps93 rfl ([]) (no) (Mem.nil w) ?_;refine J8 ?_;refine cE Tryz.func91 rfl (fun w hm hc hg=>dv n 16 w) ?_;refine J5 ?_;refine qL Tryz.results93 rfl fun w' ao aa aA=>?_;exact⟨rfl,aa⟩
theorem A1 (x:jD) (w:World):aD Tryz.prog 96 #[.agg (fL x).toArray] w (fun v w'=>v= .bool (lI x)/\Ext w w'):=by
 refine aD.ak Tryz.func96 rfl Tryz.ntmps96 rfl ([]) (no) (Mem.nil w) ?_;refine J2 ?_;refine LM.box rfl rfl (fun b1 l6=>?_);refine J4 ?_;refine af.bB (α:=Bool) (fun q=>[(3,.bool q)]) [(1,_)] (fun q=>(b1,.cells (fL x).toArray 74 (0,0)):: []) (fun q=>q=(decide (x.rd=0)&&decide (x.wr=0))) cA ?_ ?_
 ·refine J5 ?_;refine LM.aw (t:=7) rfl (fun h1=>?_) (fun h1=>?_)
  ·refine J7 ?_;refine mK (_) ?_
   ·(simp [h1,-List.getD_eq_getElem?_getD];done)
  refine J6 ?_;refine mK (_) ?_
  ·(simp [h1,-List.getD_eq_getElem?_getD];done)
 rintro q hq;change QM _ _ _ _ _ ((b1,.cells (fL x).toArray 74 (0,0)):: []) _ _ _;refine J8 ?_;refine af.bB (α:=Bool) (fun q2=>[(3,.bool q2)]) [(1,_)] (fun q2=>(b1,.cells (fL x).toArray 74 (0,0)):: []) (fun q2=>q2=(if x.sh then cz x.rd 16&&cz x.wr 16 else decide (x.rd=0)&&decide (x.wr=0))) cA ?_ ?_
 ·refine af.aN rfl (fun h2=>?_) (fun h2=>?_)
  ·refine J3 ?_;refine cE Tryz.func91 rfl (fun w hm hc hg=>dv _ _ w) ?_;refine J1 ?_;refine LM.bn (t:=17) rfl (fun h3=>?_) (fun h3=>?_)
   ·refine J4 ?_;refine cE Tryz.func91 rfl (fun w hm hc hg=>dv _ _ w) ?_;refine J3 ?_;refine mK (_) ?_
    ·(simp [h2,h3,-List.getD_eq_getElem?_getD];done)
   refine J6 ?_;refine mK (_) ?_
   ·(simp [h2,h3,-List.getD_eq_getElem?_getD];done)
  refine J1 ?_;refine mK (_) ?_
  ·(simp_all [-List.getD_eq_getElem?_getD];done)
 rintro q2 jY;change QM _ _ _ _ _ ((b1,.cells (fL x).toArray 74 (0,0)):: []) _ _ _;refine J5 ?_;refine LM.bn (t:=23) rfl (fun h4=>?_) (fun h4=>?_)
 ·refine J4 ?_;refine cE Tryz.func91 rfl (fun w hm hc hg=>dv _ _ w) ?_;refine J2 ?_;refine LM.bn (t:=28) rfl (fun h5=>?_) (fun h5=>?_)
  ·refine J4 ?_;refine cE Tryz.func91 rfl (fun w hm hc hg=>dv _ _ w) ?_;refine J5 ?_;refine qL Tryz.results96 rfl fun w' ao aa aA=>?_;refine ⟨?_,aa⟩;simp only [bd,lI,<-jY];simp [h4,h5]
  refine J8 ?_;refine qL Tryz.results96 rfl fun w' ao aa aA=>?_;refine ⟨?_,aa⟩;simp only [bd,lI,<-jY];simp [h4,h5]
 refine gz ?_;refine qL Tryz.results96 rfl fun w' ao aa aA=>?_;refine ⟨?_,aa⟩;simp only [bd,lI,<-jY];simp [h4]
theorem GQ (x:jD) (w:World):aD Tryz.prog 95 #[.agg (fL x).toArray] w (fun v w'=>v= .bool (!lI x)/\Ext w w'):=by
 refine aD.ak Tryz.func95 rfl Tryz.ntmps95 rfl ([]) (no) (Mem.nil w) ?_;refine J2 ?_;refine LM.box rfl rfl (fun b1 l6=>?_);refine J5 ?_;refine LM.rd (aR Tryz.isAgg74 Tryz.sizeOf74 rfl rfl) ?_;refine cE Tryz.func96 rfl (fun w hm hc hg=>A1 x w) ?_;refine J5 ?_;refine qL Tryz.results95 rfl fun w' ao aa aA=>?_;exact⟨rfl,aa⟩
theorem abg {xs:List Int} (w:World) (hn:n=xs.length) (hl:Sr fI 1 xs (.slice ad n cap) w) (hx:xs.length<=1000000):aD Tryz.prog 134 #[.slice ad n cap,.func (.func 93) #[] #[]] w (fun v w'=>v= .int .i64 (g9 (fun o=>(!cz o 16)) xs)/\Ext w w'):=by
 refine aD.ak Tryz.func134 rfl Tryz.ntmps134 rfl ([]) (no) (Mem.nil w) ?_;refine kR ?_;refine af.aO (α:=Nat) (fun i=>[(8,.int .i64 (i:Nat))]) [(0,_),(1,_),(7,_)] (fun i=>[]) (fun i=>i<=xs.length/\(xs.take i).any (fun o=>(!cz o 16))=false) (fun i=>xs.length-i) (0) cA aX ⟨Nat.zero_le _,rfl⟩ ?_;rintro i ⟨hi,ha⟩;change af _ _ _ _ _ _ _ ([]) _ _ _;refine J6 ?_;refine af.aj rfl (fun h1=>?_) (fun h1=>?_)
 ·refine Ai ?_;refine LM.dV (iO aC Tryz.isAgg3 rfl rfl (by exact aH 0 cH) (by rfl) id) ?_;refine LM.ye (tf rfl (dF Tryz.func93 kr rfl) rfl) (fun w hm hc hg=>FT _ w) ?_;refine J2 ?_;refine af.aN rfl (fun h2=>?_) (fun h2=>?_)
  ·refine cM ?_;refine qL Tryz.results134 rfl fun w' ao aa aA=>?_;exact⟨by show Value.int .i64 _=_;rw [kC 0 ha om (by simpa using h2)],aa⟩
  refine J7 ?_;refine aK (i+1) ?_ ?_
  ·exact⟨by omega,by rw [dG 0 om,ha,Bool.false_or];simpa using h2⟩
  ·omega
 refine dc ?_;refine qL Tryz.results134 rfl fun w' ao aa aA=>?_;have eA:i=xs.length:=om;subst eA;rw [List.take_length] at ha;exact⟨by show Value.int .i64 _=_;rw [gg ha],aa⟩
theorem acd {xs:List Int} (w:World) (hn:n=xs.length) (hl:Sr fI 1 xs (.slice ad n cap) w) (hx:xs.length<=1000000):aD Tryz.prog 92 #[.slice ad n cap,.func (.func 93) #[] #[]] w (fun v w'=>v= .bool (xs.any (fun o=>(!cz o 16)))/\Ext w w'):=by
 refine aD.ak Tryz.func92 rfl Tryz.ntmps92 rfl ([]) (no) (Mem.nil w) ?_;refine J9 ?_;refine cE Tryz.func134 rfl (fun w hm hc hg=>abg w hn (hl.ext hc) hx) ?_;refine J5 ?_;refine qL Tryz.results92 rfl fun w' ao aa aA=>?_;exact⟨by show Value.bool _=_;rw [<-pG],aa⟩
theorem aaX {xs:List jD} (w:World) (hn:n=xs.length) (hl:Sr fL 5 xs (.slice ad n cap) w) (hx:xs.length<=1000000):aD Tryz.prog 135 #[.slice ad n cap,.func (.func 95) #[] #[]] w (fun v w'=>v= .int .i64 (g9 (fun o=>(!lI o)) xs)/\Ext w w'):=by
 refine aD.ak Tryz.func135 rfl Tryz.ntmps135 rfl ([]) (no) (Mem.nil w) ?_;refine kR ?_;refine af.aO (α:=Nat) (fun i=>[(8,.int .i64 (i:Nat))]) [(0,_),(1,_),(7,_)] (fun i=>[]) (fun i=>i<=xs.length/\(xs.take i).any (fun o=>(!lI o))=false) (fun i=>xs.length-i) (0) cA aX ⟨Nat.zero_le _,rfl⟩ ?_;rintro i ⟨hi,ha⟩;change af _ _ _ _ _ _ _ ([]) _ _ _;refine J6 ?_;refine af.aj rfl (fun h1=>?_) (fun h1=>?_)
 ·refine Ai ?_;refine LM.dV (de aC ir Tryz.isAgg74 Tryz.sizeOf74 rfl c7 id) ?_;refine LM.ye (tf rfl (dF Tryz.func95 kr rfl) rfl) (fun w hm hc hg=>GQ _ w) ?_;refine J2 ?_;refine af.aN rfl (fun h2=>?_) (fun h2=>?_)
  ·refine cM ?_;refine qL Tryz.results135 rfl fun w' ao aa aA=>?_;exact⟨by show Value.int .i64 _=_;rw [kC default ha om (by simpa using h2)],aa⟩
  refine J7 ?_;refine aK (i+1) ?_ ?_
  ·exact⟨by omega,by rw [dG default om,ha,Bool.false_or];simpa using h2⟩
  ·omega
 refine dc ?_;refine qL Tryz.results135 rfl fun w' ao aa aA=>?_;have eA:i=xs.length:=om;subst eA;rw [List.take_length] at ha;exact⟨by show Value.int .i64 _=_;rw [gg ha],aa⟩
theorem Z9 {xs:List jD} (w:World) (hn:n=xs.length) (hl:Sr fL 5 xs (.slice ad n cap) w) (hx:xs.length<=1000000):aD Tryz.prog 94 #[.slice ad n cap,.func (.func 95) #[] #[]] w (fun v w'=>v= .bool (xs.any (fun o=>(!lI o)))/\Ext w w'):=by
 refine aD.ak Tryz.func94 rfl Tryz.ntmps94 rfl ([]) (no) (Mem.nil w) ?_;refine J9 ?_;refine cE Tryz.func135 rfl (fun w hm hc hg=>aaX w hn (hl.ext hc) hx) ?_;refine J5 ?_;refine qL Tryz.results94 rfl fun w' ao aa aA=>?_;exact⟨by show Value.bool _=_;rw [<-pG],aa⟩
theorem Ea {s:dU} (w:World) (hI:s.In w) (hx:s.ps.length<=1000000):aD Tryz.prog 97 #[s.val] w (fun v w'=>v= .tuple #[.int .i64 (ql s.ls (s.ps.map iJ.c)),.int .i64 (Jv s.ls (s.ps.map iJ.c) (ql s.ls (s.ps.map iJ.c)))]/\Ext w w'):=by
 have yD:=hI.yD;have qV:=hI.qV;have qE:=hI.qE;have hp:=hI.hp;have hg:=hI.hg;have hl:=hI.hl;have iT:(s.ps.map iJ.c).length=s.ps.length:=List.length_map ..;refine aD.ak Tryz.func97 rfl Tryz.ntmps97 rfl ([]) (no) (Mem.nil w) ?_;refine J2 ?_;refine LM.box rfl rfl (fun b1 l6=>?_);refine kR ?_;refine af.aO (α:=Nat) (fun k=>[(11,.int .i64 (k:Nat))]) [(1,_),(9,_),(10,_)] (fun k=>kZ b1 s:: []) (fun k=>k<=s.ps.length/\((s.ps.map iJ.c).take k).any (jW s.ls (s.pn:Nat))=false) (fun k=>s.ps.length-k) (0) cA aX ⟨Nat.zero_le _,rfl⟩ ?_;rintro k ⟨hk,A6⟩;change af _ _ _ _ _ _ _ (kZ b1 s:: []) _ _ _;refine J6 ?_;refine af.aj rfl (fun h1=>?_) (fun h1=>?_)
 ·have tS:s.ps.getD k default∈s.ps:=List.mem_of_getElem? (aH default om);refine J8 ?_;refine LM.dV (de aC ir Tryz.isAgg62 Tryz.sizeOf62 rfl c7 id) ?_;refine LM.alloc Tryz.zeroValue62 rfl (fun b5 BV=>?_);refine J1 ?_;refine LM.c6 Tryz.sizeOf62 rfl rfl rfl rfl cZ bF ?_;refine J4 ?_;refine LM.rd (aR Tryz.isAgg62 Tryz.sizeOf62 rfl rfl) ?_;refine J5 ?_;refine cE Tryz.func136 rfl (fun w hm hc hg=>FW (s.pn:Nat) w (hI.ops _ tS).1 ((hI.ops _ tS).2.ext hc) qV (hl.ext hc)) ?_;refine gz ?_;refine af.aj rfl (fun h2=>?_) (fun h2=>?_)
  ·refine kR ?_;refine QM.leave (.inl rfl) [.tmp 2,.tmp 3] Tryz.results97 rfl ?_;intro w' ao aa aA;have e:ql s.ls (s.ps.map iJ.c)=(k:Nat):=kC default (by rw [iT,<-qE];exact A6) (by rw [iT];omega) (by rw [eT,iT,<-qE];unfold jW;exact decide_eq_true h2);refine ⟨?_,aa⟩;rw [e];unfold Jv;rw [if_neg om,Int.toNat_natCast,eT,iT,<-qE];rfl
  refine J7 ?_;refine aK (k+1) ?_ ?_
  ·exact⟨by omega,by rw [dG default (by rw [iT];omega),A6,Bool.false_or,eT];unfold jW;simpa using h2⟩
  ·omega
 refine cM ?_;refine QM.leave (.inl rfl) [.tmp 2,.tmp 3] Tryz.results97 rfl ?_;intro w' ao aa aA;have hkp:k=s.ps.length:=om;rw [hkp,List.take_of_length_le om] at A6;have e:ql s.ls (s.ps.map iJ.c)= -1:=gg (by rw [iT,<-qE];exact A6);refine ⟨?_,aa⟩;rw [e];rfl
theorem JR {s:dU} (w:World) (hI:s.In w):aD Tryz.prog 41 #[s.val] w (fun v w'=>v= .bool (dt s.C)/\Ext w w'):=by
 have yD:=hI.yD;have qV:=hI.qV;have qE:=hI.qE;have hp:=hI.hp;have hg:=hI.hg;have hl:=hI.hl;have iT:(s.ps.map iJ.c).length=s.ps.length:=List.length_map ..;refine aD.ak Tryz.func41 rfl Tryz.ntmps41 rfl ([]) (no) (Mem.nil w) ?_;refine J2 ?_;refine LM.box rfl rfl (fun b1 l6=>?_);refine J9 ?_;refine cE Tryz.func91 rfl (fun w hm hc hg=>dv _ _ w) ?_;refine J2 ?_;refine LM.bn (t:=10) rfl (fun h1=>?_) (fun h1=>?_)
 ·refine yA ?_;refine qL Tryz.results41 rfl fun w' ao aa aA=>?_;refine ⟨?_,aa⟩;rw [jN (by rw [head_eq yD qV qE];simp [h1])];rfl
 refine J4 ?_;refine cE Tryz.func91 rfl (fun w hm hc hg=>dv _ _ w) ?_;refine J5 ?_;refine af.aN rfl (fun h2=>?_) (fun h2=>?_)
 ·refine J8 ?_;refine qL Tryz.results41 rfl fun w' ao aa aA=>?_;refine ⟨?_,aa⟩;rw [jN (by rw [head_eq yD qV qE];simp [h1,h2])];rfl
 refine J5 ?_;refine cE Tryz.func91 rfl (fun w hm hc hg=>dv _ _ w) ?_;refine J2 ?_;refine LM.bn (t:=22) rfl (fun h3=>?_) (fun h3=>?_)
 ·refine Ai ?_;refine qL Tryz.results41 rfl fun w' ao aa aA=>?_;refine ⟨?_,aa⟩;rw [jN (by rw [head_eq yD qV qE];simp [h1,h2,h3])];rfl
 refine J4 ?_;refine cE Tryz.func92 rfl (fun w hm hc hg=>acd w yD (hI.hg.ext hc) (by have h9:cz (s.gn:Int) 4=true:=(by simpa using h3);have:=(P4 _ _).1 h9;omega)) ?_;refine J4 ?_;refine af.aN rfl (fun h4=>?_) (fun h4=>?_)
 ·refine J8 ?_;refine qL Tryz.results41 rfl fun w' ao aa aA=>?_;refine ⟨?_,aa⟩;rw [Hv (s:=s.C) (by show s.gs.all _=false;rw [nu,h4];rfl)];rfl
 refine J7 ?_;refine LM.aw (t:=32) rfl (fun h5=>?_) (fun h5=>?_)
 ·refine Ai ?_;refine qL Tryz.results41 rfl fun w' ao aa aA=>?_;refine ⟨?_,aa⟩;rw [jN (by rw [head_eq yD qV qE];simp [h1,h2,h3,h4,h5])];rfl
 refine J4 ?_;refine cE Tryz.func94 rfl (fun w hm hc hg=>Z9 w qV (hl.ext hc) om) ?_;refine J4 ?_;refine af.aN rfl (fun h6=>?_) (fun h6=>?_)
 ·refine J8 ?_;refine qL Tryz.results41 rfl fun w' ao aa aA=>?_;refine ⟨?_,aa⟩;rw [BN (s:=s.C) (by show s.ls.all _=false;rw [nu,h6];rfl)];rfl
 refine J5 ?_;refine cE Tryz.func91 rfl (fun w hm hc hg=>dv _ _ w) ?_;refine J4 ?_;refine af.aN rfl (fun h7=>?_) (fun h7=>?_)
 ·refine J8 ?_;refine qL Tryz.results41 rfl fun w' ao aa aA=>?_;refine ⟨?_,aa⟩;rw [jN (by rw [head_eq yD qV qE];simp [h1,h2,h3,h4,h5,h6,h7])];rfl
 refine J5 ?_;refine LM.rd (aR Tryz.isAgg30 Tryz.sizeOf30 rfl rfl) ?_;refine cE Tryz.func97 rfl (fun w hm hc hg=>Ea w (hI.ext hc) (by have h9:cz (s.pn:Int) 8=true:=(by simpa using h7);have:=(P4 _ _).1 h9;omega)) ?_;refine rA ?_;refine qL Tryz.results41 rfl fun w' ao aa aA=>?_;have hhd:u1 s.C=true:=(by rw [head_eq yD qV qE];simp [h1,h2,h3,h4,h5,h6,h7]);have ZM:s.gs.all (fun n=>cz n 16)=true:=(by rw [nu,h4];rfl);have uS:s.ls.all lI=true:=(by rw [nu,h6];rfl);have hmi:decide (ql s.ls (s.ps.map iJ.c)<0)= !(s.ps.map iJ.c).any (jW s.ls (s.ps.map iJ.c).length):=(by unfold ql;rw [<-pG,<-decide_not];exact decide_eq_decide.2 om);refine ⟨?_,aa⟩;rw [iV,hhd];show Value.bool (decide (ql s.ls (s.ps.map iJ.c)<0))=Value.bool (true&&(s.gs.all (fun n=>cz n 16)&&(s.ls.all lI&& !(s.ps.map iJ.c).any (jW s.ls (s.ps.map iJ.c).length))));rw [hmi,ZM,uS];rfl
def fMe (e:kz):List Value:=[U e.tm,.int .i64 e.k,.int .i64 e.t,.int .i64 e.l,.int .i64 e.n]
def KN (t:iy):List Value:=[.int .i64 t.id,.int .i64 t.pr,.int .i64 t.gr,.int .i64 t.co,.int .i64 t.pc,.int .i64 t.lf,.int .i64 t.st,U t.un,.int .i64 t.lk,.int .i64 t.we,.int .i64 t.ef,.int .i64 t.ti]
abbrev Qv (n0 b:Nat) (x:bf) (m:ab):Prop:=iN n0 b x (x.wt.map fp) m
theorem EZ:QKd Qv:=⟨iN.ge,iN.bJ,iN.mono⟩
structure va where
  bc:Nat
  bg:Nat
  bs:List Nat
  ai:Option Addr
  ni:Nat
  ci:Nat
  al:Option Addr
  nl:Nat
  cl:Nat
  ag:Option Addr
  ng:Nat
  cg:Nat
  ax:Option Addr
  nx:Nat
  cx:Nat
  at':Option Addr
  nt:Nat
  ct:Nat
  av:Option Addr
  nv:Nat
  cv:Nat
  ae:Option Addr
  ne:Nat
  ce:Nat
  mi:ab
  ml:ab
  mg:ab
  mx:ab
  mt:ab
  mv:ab
  me:ab
  mc:ab
  mq:ab
abbrev xL (b:Nat) (s:dU) (now:BitVec 64) (P:va):Nat×Obj:=
  (b,.cells #[.int .i64 s.cr,.int .i64 s.gr,.slice s.ga s.gn s.gc,.slice s.la s.ln s.lc,.slice s.pa s.pn s.pc,U now,.pointer (some ⟨P.bc,0,none⟩),.slice P.ai P.ni P.ci,.slice P.al P.nl P.cl,.slice P.ag P.ng P.cg,.pointer (some ⟨P.bg,0,none⟩),.slice P.at' P.nt P.ct,.slice P.av P.nv P.cv,.slice P.ae P.ne P.ce] 49 (0,0))
abbrev az (b:Nat) (s:dU) (now:BitVec 64) (P:va):ab:=xL b s now P::gR P.bg P.ax P.nx P.cx::(P.mi++(P.ml++(P.mg++(P.mx++(P.mt++(P.mv++(P.me++(P.mc++P.mq))))))))
abbrev Ay (b:Nat) (s:dU) (now:BitVec 64) (P:va) (mx mt mc mq:ab):ab:=xL b s now P::gR P.bg P.ax P.nx P.cx::(P.mi++(P.ml++(P.mg++(mx++(mt++(P.mv++(P.me++(mc++mq))))))))
structure gF (n0 b:Nat) (s:dU) (x:aB) (P:va):Prop where
  ni:P.ni=x.idle.length
  si:Sl fI 3 1 n0 x.idle (.slice P.ai P.ni P.ci) P.mi
  nl:P.nl=x.lk.length
  bl:P.bs.length=x.lk.length
  sl:Sl fP 71 1 n0 P.bs (.slice P.al P.nl P.cl) P.ml
  sq:kJ Qv n0 P.bs x.lk P.mq
  ng:P.ng=x.gp.length
  sg:Sl fI 3 1 n0 x.gp (.slice P.ag P.ng P.cg) P.mg
  nx:P.nx=64
  gl:x.g.length=64
  sx:Sl fU 41 1 n0 x.g (.slice P.ax P.nx P.cx) P.mx
  nt:P.nt=x.ts.length
  st:Sl KN 81 12 n0 x.ts (.slice P.at' P.nt P.ct) P.mt
  nv:P.nv=x.v.length
  sv:Sl fU 41 1 n0 x.v (.slice P.av P.nv P.cv) P.mv
  ne:P.ne=x.ev.length
  se:Sl fMe 51 5 n0 x.ev (.slice P.ae P.ne P.ce) P.me
  sc:RcM n0 P.bc x.cs P.mc
  hb:n0<=b
  hg:n0<=P.bg
  hs:x.s=s.C
def eQ (n0 b:Nat) (s:dU) (x:aB) (m:ab):Prop:=∃P,m=az b s x.now P/\gF n0 b s x P
theorem gF.ge {n0 b:Nat} {s:dU} {x:aB} {P:va} {y:BitVec 64} (h:gF n0 b s x P):∀p∈az b s y P,n0<=p.1:=by
  intro p hp;simp only [List.mem_cons,List.mem_append] at hp;rcases hp with rfl|rfl|hp|hp|hp|hp|hp|hp|hp|hp|hp
  ·exact h.hb
  ·exact h.hg
  ·exact h.si.ge p hp
  ·exact h.sl.ge p hp
  ·exact h.sg.ge p hp
  ·exact h.sx.ge p hp
  ·exact h.st.ge p hp
  ·exact h.sv.ge p hp
  ·exact h.se.ge p hp
  ·exact h.sc.ge p hp
  ·exact h.sq.ge EZ p hp
theorem eQ.ge {n0 b:Nat} {s:dU} {x:aB} {m:ab} (h:eQ n0 b s x m):∀p∈m,n0<=p.1:=by obtain ⟨P,rfl,h⟩:=h;exact h.ge
theorem eQ.bJ {n0 b:Nat} {s:dU} {x:aB} {m:ab} (h:eQ n0 b s x m):∀p∈m,bJ p.2=false:=by
  obtain ⟨P,rfl,h⟩:=h;intro p hp;simp only [List.mem_cons,List.mem_append] at hp;rcases hp with rfl|rfl|hp|hp|hp|hp|hp|hp|hp|hp|hp
  ·rfl
  ·rfl
  ·exact h.si.bJ p hp
  ·exact h.sl.bJ p hp
  ·exact h.sg.bJ p hp
  ·exact h.sx.bJ p hp
  ·exact h.st.bJ p hp
  ·exact h.sv.bJ p hp
  ·exact h.se.bJ p hp
  ·exact h.sc.bJ p hp
  ·exact h.sq.bJ EZ p hp
theorem gF.m {b:Nat} {s:dU} {P:va} {y:BitVec 64} (h:gF n0 b s x P) (hn:x.now=y:=by first|rfl|assumption):eQ n0 b s x (az b s y P):=⟨P,by rw [hn],h⟩
theorem eQ.b {n0 b:Nat} {s:dU} {x:aB} {m:ab} (h:eQ n0 b s x m):gU m b:=by obtain ⟨P,rfl,-⟩:=h;exact eS
theorem aP {b:Nat} {s:dU} {y:BitVec 64} {m:ab} {P:va} (h0:gU m b:=by first|exact eS|assumption) (hg:k<=P.bg\/gU m P.bg:=by(try dsimp only);assumption)
    (hi:df m k P.mi:=by(try dsimp only);assumption)
    (hl:df m k P.ml:=by(try dsimp only);assumption)
    (hgg:df m k P.mg:=by(try dsimp only);assumption)
    (hx:df m k P.mx:=by(try dsimp only);assumption)
    (ht:df m k P.mt:=by(try dsimp only);assumption)
    (hv:df m k P.mv:=by(try dsimp only);assumption)
    (he:df m k P.me:=by(try dsimp only);assumption)
    (hc:df m k P.mc:=by(try dsimp only);assumption)
    (hq:df m k P.mq:=by(try dsimp only);assumption):
    df m k (az b s y P):=fun p hp=>by
  rcases List.mem_cons.1 hp with rfl|hp
  ·exact .inr h0
  rcases List.mem_cons.1 hp with rfl|hp
  ·exact hg
  exact cd hi (cd hl (cd hgg (cd hx (cd ht (cd hv (cd he (cd hc hq))))))) p hp
theorem bK {b:Nat} {s:dU} {y:BitVec 64} {m:ab} {P:va} (h:df m k (az b s y P)):(k<=P.bg\/gU m P.bg)/\df m k P.mi/\df m k P.ml/\df m k P.mg/\df m k P.mx/\df m k P.mt/\df m k P.mv/\df m k P.me/\df m k P.mc/\df m k P.mq:=
  ⟨h (gR P.bg P.ax P.nx P.cx) (by simp),fun p hp=>h p (by simp [hp]),fun p hp=>h p (by simp [hp]),fun p hp=>h p (by simp [hp]),fun p hp=>h p (by simp [hp]),fun p hp=>h p (by simp [hp]),fun p hp=>h p (by simp [hp]),fun p hp=>h p (by simp [hp]),fun p hp=>h p (by simp [hp]),fun p hp=>h p (by simp [hp])⟩
theorem BD {b:Nat} {s:dU} {P:va} {m M:ab} {u0:Value} {w w':World} (h:gF n0 b s x P) (hm:Mem w' M) (hs:aJ M (az b s x.now P++ [])) (hc:cG (gU m) w w') (hn:df m w.heap.size (az b s x.now P)):
    fq m (fun u m'=>u=u0/\eQ n0 b s x m') w u0 w':=bp ⟨rfl,P,rfl,h⟩ hm hs hc hn
theorem BM {bs:List Nat} {mm:ab} (h:kJ Qv n0 bs x.lk mm) {l:Nat} (hl:l<x.lk.length):∃(bI:Option Addr) (nh aI:Nat) (bX:Option Addr) (nw aT bl:Nat) (mh mw rest:ab),nh=(gL x l).ho.length/\nw=(gL x l).wt.length/\Sl uY 204 3 n0 (gL x l).ho (.slice bI nh aI) mh/\Sl uY 204 3 n0 ((gL x l).wt.map fp) (.slice bX nw aT) mw/\
    mm.Perm ((eb (bs.getD l default) (gL x l).sh (gL x l).sl bI nh aI bX nw aT (gL x l).tr bl (gL x l).di::(mh++(mw++ [])))++rest):=by
  obtain ⟨M,rfl,h1,h2,h3⟩:=h;obtain ⟨bI,nh,aI,bX,nw,aT,bl,mh,mw,ml,e,jJ,kX,iI,gW,-,-⟩:=h3 l hl;refine ⟨bI,nh,aI,bX,nw,aT,bl,mh,mw,ml++(M.eraseIdx l).flatten,jJ,by rw [kX,List.length_map],iI,gW,?_⟩;have:=mH M l om;rw [e] at this;refine this.trans (.of_eq ?_);rw [List.append_nil,List.cons_append,List.cons_append,List.append_assoc,List.append_assoc,List.append_assoc]
theorem aix {L:List Wt} (h:i<L.length):((L.map fp).getD i default).t=(L.getD i default).who:=by
  rw [List.getD_eq_getElem?_getD,List.getD_eq_getElem?_getD,List.getElem?_map,List.getElem?_eq_getElem h];rfl
theorem Np {w:World} {b:Nat} {s:dU} {y:BitVec 64} {P:va} {L rest:ab} (hM:Mem w (az b s y P)) (hp:P.mq.Perm (L++rest)):Mem w (xL b s y P::(P.ml++L)):=by
  have h1:Mem w (xL b s y P::(P.ml++(P.mq++ []))):=aJ.mem aX w hM;rw [List.append_nil] at h1;refine (h1.perm ((hp.append_left P.ml).cons _)).sub (List.Sublist.cons_cons _ ?_);rw [<-List.append_assoc];exact List.sublist_append_left _ _
def aah (n0 b:Nat) (s:dU) (y:BitVec 64) (x:aB) (P:va) (u:Value) (m':ab):Prop:=u= .tuple #[]/\∃ad n cap me,m'=az b s y {P with ae:=ad,ne:=n,ce:=cap,me:=me}/\gF n0 b s x {P with ae:=ad,ne:=n,ce:=cap,me:=me}
theorem uV {b:Nat} {s:dU} {P:va} (k t l n:Int) (w:World) (h:gF n0 b s x P) (BO:x.ev.length<=1000000000000) (cm:n0<=w.heap.size) (hM:Mem w (az b s x.now P)):aD Tryz.prog 53 #[.pointer (some ⟨b,0,none⟩),.int .i64 k,.int .i64 t,.int .i64 l,.int .i64 n] w (fq (az b s x.now P) (aah n0 b s x.now (ba x k t l n) P) w):=by
 have ec:=h.ne;have hse:=h.se;obtain ⟨ig,ii,il,ip,ix,it,iv,ie,ic,iq⟩:=bK (ay (az b s x.now P) w.heap.size);refine aD.ak Tryz.func53 rfl Tryz.ntmps53 rfl (az b s x.now P++ []) ((gU (az b s x.now P))) aM ?_;refine af.keep (xL b s x.now P:: []) (fun _=>True) (.one 0 0 (.one 1 0 (.one 2 0 (.one 3 0 (.one 4 1 (.one 5 0 (.one 6 0 (.one 7 0 (.one 8 1 (.one 9 0 (.one 10 0 (.one 11 0 (.one 12 0 (.one 13 0 (.one 14 2 (.one 15 2 (.one 16 0 (.one 17 0 (.last 18))))))))))))))))))) kr kr aX (fun _ _=>trivial) ?_;refine gz ?_;refine KD.val rfl rfl (aE (cs:=(fMe ⟨x.now,k,t,l,n⟩).toArray) rfl kr) ?_;refine J1 ?_;refine LM.single Tryz.underlying47 Tryz.sizeOf51 Tryz.zeroValue51 rfl rfl rfl rfl rfl (fun b24 anp=>?_);refine J3 ?_;refine LM.app (a:=(⟨x.now,k,t,l,n⟩:kz)) Tryz.underlying47 Tryz.typeInfo51 rfl rfl rfl rfl rfl rfl rfl aC (by rfl) ir (by intro _ u hu;simp [fMe] at hu;(repeat (first|(rcases hu with rfl|hu)|subst hu|rfl))) (by first|exact Nat.le_refl _|omega) (au aC) (by first|omega|(unfold maxLen;omega)) (by simp only [Tryz.t51];omega) (fun aiZ n25 acR m25 apl afe Oe=>?_);have aoh:=ar aC Oe;refine J4 ?_;refine KD.last rfl ?_;refine LM.st Tryz.sizeOf47 rfl rfl rfl dx rfl vg ?_;refine J1 ?_;refine QM.qn ?_;refine QM.leave (.inr rfl) [] Tryz.results53 rfl ?_;intro w' ao aa aA;exact bp (m':=az b s x.now {P with ae:=aiZ,ne:=n25,ce:=acR,me:=m25}) ⟨rfl,_,_,_,_,rfl,{h with ne:=(by show n25=(x.ev++ [_]).length;rw [List.length_append,List.length_singleton];omega),se:=afe}⟩ ao aX aa aP
theorem u3 {b:Nat} {s:dU} {P:va} {y:BitVec 64} (hn:x.now=y) (k t l n:Int) (w:World) (h:gF n0 b s x P) (BO:x.ev.length<=1000000000000) (cm:n0<=w.heap.size) (hM:Mem w (az b s y P)):
    aD Tryz.prog 53 #[.pointer (some ⟨b,0,none⟩),.int .i64 k,.int .i64 t,.int .i64 l,.int .i64 n] w (fq (az b s y P) (aah n0 b s y (ba x k t l n) P) w):=by
  subst hn;exact uV k t l n w h BO cm hM
theorem cc {b:Nat} {s:dU} {m:ab} (k t l n:Int) (w:World) (h:eQ n0 b s x m) (BO:x.ev.length<=1000000000000) (cm:n0<=w.heap.size) (hM:Mem w m):
    aD Tryz.prog 53 #[.pointer (some ⟨b,0,none⟩),.int .i64 k,.int .i64 t,.int .i64 l,.int .i64 n] w (fq m (fun u m'=>u= .tuple #[]/\eQ n0 b s (ba x k t l n) m') w):=by
  obtain ⟨P,rfl,h⟩:=h;exact(uV k t l n w h BO cm hM).mono (fun u w' hU=>hU.imp (fun u m' ⟨e,_,_,_,_,e2,h2⟩=>⟨e,_,e2,h2⟩))
theorem uH {b:Nat} {s:dU} {m:ab} (w:World) (h:eQ n0 b s x m) (rB:x.ts.length<=64) (hM:Mem w m):aD Tryz.prog 25 #[.pointer (some ⟨b,0,none⟩)] w (fun v w'=>v= .bool (jE x)/\Ext w w'):=by
 obtain ⟨P,rfl,h⟩:=h;have uF:=h.nt;have gS:=h.st;refine aD.ak Tryz.func25 rfl Tryz.ntmps25 rfl (az b s x.now P++ []) (no) aM ?_;refine yA ?_;refine af.aO (α:=Nat) (fun i=>[(3,.int .i64 (kg (x.ts.take i):Nat)),(4,.int .i64 (i:Nat))]) [(0,_)] (fun i=>az b s x.now P++ []) (fun i=>i<=x.ts.length) (fun i=>x.ts.length-i) (0) ⟨(by first|rfl|exact lk rfl (congrArg (Value.int .i64) (tN om aC))|exact lk rfl (congrArg (Value.int .i64) (wH om aC))),l5,rfl,trivial⟩ aX (Nat.zero_le _) ?_;rintro i hi;change af _ _ _ _ _ _ _ (az b s x.now P++ []) _ _ _;have Iv:=Of (x.ts.take i);have z7:=List.length_take_le i x.ts;refine cM ?_;refine af.aj rfl (fun h1=>?_) (fun h1=>?_)
 ·refine gz ?_;refine LM.rd (aL (j:=6) aC ir Tryz.isAgg3 rfl rfl (by first|exact bE om|exact aH default cH) rfl (by rfl)) ?_;refine J3 ?_;refine af.aj rfl (fun h2=>?_) (fun h2=>?_)
  ·refine cM ?_;refine QM.dk (i+1) ⟨(by first|rfl|exact lk rfl (congrArg (Value.int .i64) (tN om aC))|exact lk rfl (congrArg (Value.int .i64) (wH om aC))),l5,rfl,trivial⟩ aX (fun _ h=>h) ?_ ?_
   ·omega
   ·omega
  refine J8 ?_;refine QM.dk (i+1) ⟨(by first|rfl|exact lk rfl (congrArg (Value.int .i64) (tN om aC))|exact lk rfl (congrArg (Value.int .i64) (wH om aC))),l5,rfl,trivial⟩ aX (fun _ h=>h) ?_ ?_
  ·omega
  ·omega
 refine cF ?_;refine LM.aw (t:=27) rfl (fun h3=>?_) (fun h3=>?_)
 ·refine cM ?_;refine qL Tryz.results25 rfl fun w' ao aa aA=>?_;have eA:i=x.ts.length:=om;subst eA;rw [List.take_length] at*;refine ⟨?_,aa⟩;show Value.bool _=_;unfold jE;rw [decide_eq_true (show kg x.ts<16 by omega),Bool.true_and,uF];exact congrArg Value.bool (decide_eq_decide.2 om)
 refine dc ?_;refine qL Tryz.results25 rfl fun w' ao aa aA=>?_;have eA:i=x.ts.length:=om;subst eA;rw [List.take_length] at*;refine ⟨?_,aa⟩;show Value.bool _=_;unfold jE;rw [decide_eq_false (show¬kg x.ts<16 by omega)];rfl
theorem yg {b:Nat} {s:dU} {m:ab} (l:Nat) (t:Int) (w:World) (h:eQ n0 b s x m) (hl:l<x.lk.length) (hx:(gL x l).ho.length<=900) (hM:Mem w m):aD Tryz.prog 112 #[.pointer (some ⟨b,0,none⟩),.int .i64 (l:Nat),.int .i64 t] w (fun v w'=>v= .int .i64 (dD (gL x l) t)/\Ext w w'):=by
 obtain ⟨P,rfl,h⟩:=h;have vV:=h.nl;have u2:=h.bl;have jL:=h.sl;obtain ⟨bI,nh,aI,bX,nw,aT,bl,mh,mw,rest,jJ,kX,iI,gW,hq⟩:=BM h.sq hl;refine aD.ak Tryz.func112 rfl Tryz.ntmps112 rfl (xL b s x.now P::(P.ml++(eb (P.bs.getD l default) (gL x l).sh (gL x l).sl bI nh aI bX nw aT (gL x l).tr bl (gL x l).di::(mh++(mw++ []))))) (no) (Np hM hq) ?_;refine gz ?_;refine LM.rd (bt aC ir Tryz.isAgg71 rfl rfl (by first|exact bE om|exact aH default cH) (by rfl)) ?_;refine cF ?_;refine af.aO (α:=Nat) (fun i=>[(8,.int .i64 (i:Nat))]) [(2,_),(7,_)] (fun i=>xL b s x.now P::(P.ml++(eb (P.bs.getD l default) (gL x l).sh (gL x l).sl bI nh aI bX nw aT (gL x l).tr bl (gL x l).di::(mh++(mw++ []))))) (fun i=>i<=(gL x l).ho.length/\∀j,j<i->((gL x l).ho.getD j default).t≠t) (fun i=>(gL x l).ho.length-i) (0) cA aX ⟨Nat.zero_le _,fun j hj=>absurd hj (Nat.not_lt_zero j)⟩ ?_;rintro i ⟨hi,gK⟩;change af _ _ _ _ _ _ _ (xL b s x.now P::(P.ml++(eb (P.bs.getD l default) (gL x l).sh (gL x l).sl bI nh aI bX nw aT (gL x l).tr bl (gL x l).di::(mh++(mw++ []))))) _ _ _;refine cM ?_;refine af.aj rfl (fun h1=>?_) (fun h1=>?_)
 ·refine gz ?_;refine LM.rd (aL (j:=0) aC ir Tryz.isAgg3 rfl rfl (by first|exact bE om|exact aH default cH) rfl (by rfl)) ?_;refine J4 ?_;refine af.aj rfl (fun h2=>?_) (fun h2=>?_)
  ·refine rA ?_;refine LM.rd (aL (j:=2) aC ir Tryz.isAgg4 rfl rfl (by first|exact bE om|exact aH default cH) rfl (by rfl)) ?_;refine J2 ?_;refine af.aN rfl (fun h3=>?_) (fun h3=>?_)
   ·refine cM ?_;refine LM.bn (t:=48) rfl (fun h4=>?_) (fun h4=>?_)
    ·refine J6 ?_;refine LM.sp 48 rfl rfl rfl ?_;refine J3 ?_;refine LM.rd (aL (j:=1) aC ir Tryz.isAgg3 rfl rfl (by first|exact bE om|exact aH default cH) rfl (by rfl)) ?_;refine J4 ?_;refine af.aj rfl (fun h5=>?_) (fun h5=>?_)
     ·refine En ?_;refine qL Tryz.results112 rfl fun w' ao aa aA=>?_;obtain ⟨e1,e2⟩:=uq (L:=gL x l) gK om h2;refine ⟨?_,aa⟩;show Value.int .i64 _=_;unfold dD;rw [if_pos e1,e2];simp only [h1,h2,h3,h4,h5, *] <;>simp_all
     refine kR ?_;refine qL Tryz.results112 rfl fun w' ao aa aA=>?_;obtain ⟨e1,e2⟩:=uq (L:=gL x l) gK om h2;refine ⟨?_,aa⟩;show Value.int .i64 _=_;unfold dD;rw [if_pos e1,e2];simp only [h1,h2,h3,h4,h5, *] <;>simp_all
    refine J27 ?_;refine qL Tryz.results112 rfl fun w' ao aa aA=>?_;obtain ⟨e1,e2⟩:=uq (L:=gL x l) gK om h2;refine ⟨?_,aa⟩;show Value.int .i64 _=_;unfold dD;rw [if_pos e1,e2];simp only [h1,h2,h3,h4, *] <;>simp_all
   refine cF ?_;refine LM.bn (t:=48) rfl (fun h6=>?_) (fun h6=>?_)
   ·refine J6 ?_;refine LM.sp 48 rfl rfl rfl ?_;refine J3 ?_;refine LM.rd (aL (j:=1) aC ir Tryz.isAgg3 rfl rfl (by first|exact bE om|exact aH default cH) rfl (by rfl)) ?_;refine J4 ?_;refine af.aj rfl (fun h7=>?_) (fun h7=>?_)
    ·refine En ?_;refine qL Tryz.results112 rfl fun w' ao aa aA=>?_;obtain ⟨e1,e2⟩:=uq (L:=gL x l) gK om h2;refine ⟨?_,aa⟩;show Value.int .i64 _=_;unfold dD;rw [if_pos e1,e2];simp only [h1,h2,h3,h6,h7, *] <;>simp_all
    refine kR ?_;refine qL Tryz.results112 rfl fun w' ao aa aA=>?_;obtain ⟨e1,e2⟩:=uq (L:=gL x l) gK om h2;refine ⟨?_,aa⟩;show Value.int .i64 _=_;unfold dD;rw [if_pos e1,e2];simp only [h1,h2,h3,h6,h7, *] <;>simp_all
   refine J27 ?_;refine qL Tryz.results112 rfl fun w' ao aa aA=>?_;obtain ⟨e1,e2⟩:=uq (L:=gL x l) gK om h2;refine ⟨?_,aa⟩;show Value.int .i64 _=_;unfold dD;rw [if_pos e1,e2];simp only [h1,h2,h3,h6, *] <;>simp_all
  refine J8 ?_;refine aK (i+1) ?_ ?_
  ·exact⟨by omega,fun j hj=>by rcases Nat.lt_or_ge j i with q|q;exact gK j q;rw [show j=i by omega];assumption⟩
  ·omega
 refine dc ?_;refine qL Tryz.results112 rfl fun w' ao aa aA=>?_;refine ⟨?_,aa⟩;show Value.int .i64 0=_;unfold dD;rw [if_neg (by rw [Vd (L:=gL x l) (fun j hj=>gK j om)];simp)]
theorem ri {b:Nat} {s:dU} {m:ab} (l:Nat) (w:World) (h:eQ n0 b s x m) (hl:l<x.lk.length) (hx:(gL x l).ho.length<=900) (hM:Mem w m):aD Tryz.prog 146 #[.pointer (some ⟨b,0,none⟩),.int .i64 (l:Nat)] w (fun v w'=>v=U (gV (gL x l))/\Ext w w'):=by
 obtain ⟨P,rfl,h⟩:=h;have vV:=h.nl;have u2:=h.bl;have jL:=h.sl;obtain ⟨bI,nh,aI,bX,nw,aT,bl,mh,mw,rest,jJ,kX,iI,gW,hq⟩:=BM h.sq hl;refine aD.ak Tryz.func146 rfl Tryz.ntmps146 rfl (xL b s x.now P::(P.ml++(eb (P.bs.getD l default) (gL x l).sh (gL x l).sl bI nh aI bX nw aT (gL x l).tr bl (gL x l).di::(mh++(mw++ []))))) (no) (Np hM hq) ?_;refine En ?_;refine LM.rd (bt aC ir Tryz.isAgg71 rfl rfl (by first|exact bE om|exact aH default cH) (by rfl)) ?_;refine cF ?_;refine af.aO (α:=Nat) (fun i=>[(5,U (kv (((gL x l).ho.take i).map (·.t)))),(7,.int .i64 (i:Nat))]) [(6,_)] (fun i=>xL b s x.now P::(P.ml++(eb (P.bs.getD l default) (gL x l).sh (gL x l).sl bI nh aI bX nw aT (gL x l).tr bl (gL x l).di::(mh++(mw++ []))))) (fun i=>i<=(gL x l).ho.length) (fun i=>(gL x l).ho.length-i) (0) ⟨(by first|exact lk rfl (by rw [List.take_zero];rfl)|exact lk rfl (by rw [iY default om,zV])),l5,rfl,trivial⟩ aX (Nat.zero_le _) ?_;rintro i hi;change af _ _ _ _ _ _ _ (xL b s x.now P::(P.ml++(eb (P.bs.getD l default) (gL x l).sh (gL x l).sl bI nh aI bX nw aT (gL x l).tr bl (gL x l).di::(mh++(mw++ []))))) _ _ _;refine cM ?_;refine af.aj rfl (fun h1=>?_) (fun h1=>?_)
 ·refine gz ?_;refine LM.rd (aL (j:=0) aC ir Tryz.isAgg3 rfl rfl (by first|exact bE om|exact aH default cH) rfl (by rfl)) ?_;refine cE Tryz.func155 rfl (fun w hm hc hg=>rb _ _ w) ?_;refine J9 ?_;refine QM.dk (i+1) ⟨(by first|exact lk rfl (by rw [List.take_zero];rfl)|exact lk rfl (by rw [iY default om,zV])),l5,rfl,trivial⟩ aX (fun _ h=>h) ?_ ?_
  ·omega
  ·omega
 refine cM ?_;refine qL Tryz.results146 rfl fun w' ao aa aA=>?_;have eA:i=(gL x l).ho.length:=om;subst eA;rw [List.take_length];exact⟨rfl,aa⟩
theorem xj {b:Nat} {s:dU} {m:ab} (l:Nat) (w:World) (h:eQ n0 b s x m) (hl:l<x.lk.length) (hx:(gL x l).ho.length<=900) (hx8:(gL x l).wt.length<=8) (hM:Mem w m):aD Tryz.prog 113 #[.pointer (some ⟨b,0,none⟩),.int .i64 (l:Nat)] w (fq m (fun u m'=>u= .tuple #[]/\eQ n0 b s (zc x l) m') w):=by
 obtain ⟨P,rfl,h⟩:=h;have hI:=h;have vV:=h.nl;have u2:=h.bl;have jL:=h.sl;have ER:=h.nx;obtain ⟨ig,ii,il,ip,ix,it,iv,ie,ic,iq⟩:=bK (ay (az b s x.now P) w.heap.size);obtain ⟨bI,nh,aI,bX,nw,aT,bl,mh,mw,rest,jJ,kX,iI,gW,hq⟩:=BM h.sq hl;refine aD.ak Tryz.func113 rfl Tryz.ntmps113 rfl (az b s x.now P++ []) ((gU (az b s x.now P))) aM ?_;refine J8 ?_;refine LM.rd (bt aC ir Tryz.isAgg71 rfl rfl (by first|exact bE om|exact aH default cH) (by rfl)) ?_;refine J9 ?_;refine af.aO (α:=Nat×Gr×ab) (fun ⟨i,g,mg⟩=>[(5,.int .i64 (i:Nat))]) [(0,_),(1,_),(4,_)] (fun ⟨i,g,mg⟩=>xL b s x.now P::gR P.bg P.ax P.nx P.cx::(P.mi++(P.ml++(P.mg++(mg++(P.mt++(P.mv++(P.me++(P.mc++(P.mq++ [])))))))))) (fun ⟨i,g,mg⟩=>i<=(gL x l).wt.length/\g=Jc (gL x l) x.g i/\g.length=64/\Sl fU 41 1 n0 g (.slice P.ax P.nx P.cx) mg/\df (az b s x.now P) w.heap.size mg) (fun ⟨i,g,mg⟩=>(gL x l).wt.length-i) ((0,x.g,P.mx)) cA aX ⟨Nat.zero_le _,rfl,h.gl,h.sx,ix⟩ ?_;rintro ⟨i,g,mg⟩ ⟨hi,hg,sI,Cp,YG⟩;change af _ _ _ _ _ _ _ (xL b s x.now P::gR P.bg P.ax P.nx P.cx::(P.mi++(P.ml++(P.mg++(mg++(P.mt++(P.mv++(P.me++(P.mc++(P.mq++ [])))))))))) _ _ _;have Qk:((gL x l).wt.map fp).length=(gL x l).wt.length:=List.length_map ..;refine J7 ?_;refine LM.dV (fun w hm hc hg=>iL (M:=eb (P.bs.getD l default) (gL x l).sh (gL x l).sl bI nh aI bX nw aT (gL x l).tr bl (gL x l).di::(mh++(mw++ []))) Tryz.isAgg122 rfl rfl w (((hm.pick P.mq).perm hq).sub (List.sublist_append_left _ _))) ?_;refine J4 ?_;refine af.aj rfl (fun h1=>?_) (fun h1=>?_)
 ·refine J4 ?_;refine af.draw [(0,0),(1,0),(2,0),(3,1),(4,0),(5,0),(6,0),(7,1),(8,0),(9,0),(10,0),(11,1),(12,0),(13,0),(14,2),(15,3)] kr kr ?_;refine J7 ?_;refine LD.dV rfl rfl (fun w hm hc hg=>iL (M:=eb (P.bs.getD l default) (gL x l).sh (gL x l).sl bI nh aI bX nw aT (gL x l).tr bl (gL x l).di::(mh++(mw++ []))) Tryz.isAgg122 rfl rfl w (((hm.pick P.mq).perm hq).sub (List.sublist_append_left _ _))) ?_;refine J3 ?_;refine LD.dV rfl rfl (fun w hm hc hg=>aL (M:=eb (P.bs.getD l default) (gL x l).sh (gL x l).sl bI nh aI bX nw aT (gL x l).tr bl (gL x l).di::(mh++(mw++ []))) (j:=0) gW ir Tryz.isAgg3 rfl rfl (by exact aH default om) rfl (by rfl) w (((hm.pick P.mq).perm hq).sub (List.sublist_append_left _ _))) ?_;refine J2 ?_;refine dE rfl rfl Tryz.func146 rfl (fun w hm hc hg=>ri l w (⟨{P with mx:=mg},rfl,{hI with gl:=sI,sx:=Cp}⟩:eQ n0 b s {x with g:=g} _) hl hx (hm.pick (az b s x.now {P with mx:=mg}))) ?_;refine LD.tail rfl rfl ?_;refine cU Tryz.func148 rfl (fun w hm hc hg=>yu P.bg _ _ w sI ER Cp (sm hm)) Cp.bJ (au YG) ?_;rintro u37 Tq ⟨rfl,rh⟩ wB;rw [aix (show i<(gL x l).wt.length by omega)] at rh;refine J1 ?_;refine QM.qn ?_;refine J7 ?_;refine aK (i+1,qt g ((gL x l).wt.getD i default).who (gV (gL x l)),Tq) ?_ ?_
  ·exact⟨by omega,by rw [I2 om,<-hg],sw sI _ _,rh,ar YG wB⟩
  ·(dsimp only;omega)
 refine J4 ?_;refine QM.leave (.inr rfl) [] Tryz.results113 rfl ?_;intro w' ao aa aA;have eA:i=(gL x l).wt.length:=om;subst eA;exact BD (P:= {P with mx:=mg}) (x:=zc x l) {hI with gl:=(by rw [hg] at sI;rw [B1] at sI;exact sI),sx:=(by rw [hg,B1] at Cp;exact Cp)} ao aX aa aP
theorem wM {b:Nat} {s:dU} {m:ab} (pr gr we co:Int) (w:World) (h:eQ n0 b s x m) (rB:x.ts.length<=64) (hvl:x.v.length<=64) (BO:x.ev.length<=1000000000000) (cm:n0<=w.heap.size) (hM:Mem w m):aD Tryz.prog 26 #[.pointer (some ⟨b,0,none⟩),.int .i64 pr,.int .i64 gr,.int .i64 we,.int .i64 co] w (fq m (fun u m'=>u= .tuple #[]/\eQ n0 b s (pk x pr gr we co) m') w):=by
 obtain ⟨P,rfl,h⟩:=h;have uF:=h.nt;have gS:=h.st;have hnv:=h.nv;have hsv:=h.sv;obtain ⟨ig,ii,il,ip,ix,it,iv,ie,ic,iq⟩:=bK (ay (az b s x.now P) w.heap.size);refine aD.ak Tryz.func26 rfl Tryz.ntmps26 rfl (az b s x.now P++ []) ((gU (az b s x.now P))) aM ?_;refine Zp ?_;refine LM.val (aE (cs:=(KN (AK (P.nt:Nat) pr gr we co)).toArray) rfl kr) ?_;refine LM.single Tryz.underlying45 Tryz.sizeOf81 Tryz.zeroValue81 rfl rfl rfl rfl rfl (fun b28 aq0=>?_);refine LM.app (a:=AK (P.nt:Nat) pr gr we co) Tryz.underlying45 Tryz.typeInfo81 rfl rfl rfl rfl rfl rfl rfl aC (by rfl) ir (by intro _ u hu;simp [KN] at hu;(repeat (first|(rcases hu with rfl|hu)|subst hu|rfl))) (by first|exact Nat.le_refl _|omega) (au aC) (by first|omega|(unfold maxLen;omega)) (by simp only [Tryz.t81];omega) (fun XA n29 MP XV ah9 Ox IF=>?_);have aox:=ar aC IF;refine J2 ?_;refine LM.st Tryz.sizeOf45 rfl rfl rfl dx rfl vg ?_;refine J9 ?_;refine LM.single Tryz.underlying46 Tryz.sizeOf41 Tryz.zeroValue41 rfl rfl rfl rfl rfl (fun b37 adf=>?_);refine LM.app (a:=0#64) Tryz.underlying46 Tryz.typeInfo41 rfl rfl rfl rfl rfl rfl rfl aC (by rfl) ir (by intro _ u hu;simp [fU] at hu;(repeat (first|(rcases hu with rfl|hu)|subst hu|rfl))) (by first|exact Nat.le_refl _|omega) (au aC) (by first|omega|(unfold maxLen;omega)) (by simp only [Tryz.t41];omega) (fun I3 Ue z8 Wm Yk Pe uT=>?_);have aiW:=ar aC uT;refine J2 ?_;refine LM.st Tryz.sizeOf46 rfl rfl rfl dx rfl vg ?_;refine LM.mem (aJ.mem (M':=az b s x.now {P with at':=XA,nt:=n29,ct:=MP,av:=I3,nv:=Ue,cv:=z8,mt:=XV,mv:=Wm} ++ []) aX) ?_;refine dc ?_;refine cU Tryz.func64 rfl (fun w hm hc hg=>xN co (P.nt:Nat) 0#64 we w h.sc (Nat.le_trans cm hc.size) (hm.pick P.mc)) h.sc.bJ (au ic) ?_;rintro u48 m48 ⟨rfl,acm⟩ P5;have i48:=ar ic P5;have yW:eQ n0 b s {x with ts:=x.ts++ [AK x.ts.length pr gr we co],v:=x.v++ [0#64],cs:=dT x.cs co x.ts.length 0#64 we} _:=⟨{P with at':=XA,nt:=n29,ct:=MP,av:=I3,nv:=Ue,cv:=z8,mt:=XV,mv:=Wm,mc:=m48},rfl,{h with nt:=(by show n29=(x.ts++ [_]).length;rw [List.length_append,List.length_singleton];omega),nv:=(by show Ue=(x.v++ [_]).length;rw [List.length_append,List.length_singleton];omega),st:=(by rw [uF] at Ox;exact Ox),sv:=Pe,sc:=(by rw [uF] at acm;exact acm)}⟩
 refine J6 ?_;refine cU Tryz.func53 rfl (fun w hm hc hg=>cc 1 (P.nt:Nat) (-1) co w yW BO (Nat.le_trans cm hc.size) (hm.pick _)) yW.bJ (au aP) ?_;rintro u52 EO ⟨rfl,h52⟩ HS;refine J1 ?_;refine QM.leave (.inr rfl) [] Tryz.results26 rfl ?_;intro w' ao aa aA;exact bp (m':=EO) ⟨rfl,(by rw [uF] at h52;exact h52)⟩ ao aX aa (ar aP HS)
theorem qS {b:Nat} {s:dU} {m:ab} (t:Nat) (w:World) (h:eQ n0 b s x m) (ht:t<x.ts.length) (hv:x.v.length=x.ts.length) (BO:x.ev.length<=1000000000000) (cm:n0<=w.heap.size) (hM:Mem w m):aD Tryz.prog 58 #[.pointer (some ⟨b,0,none⟩),.int .i64 (t:Nat)] w (fq m (fun u m'=>u= .tuple #[]/\eQ n0 b s (dH x t) m') w):=by
 obtain ⟨P,rfl,h⟩:=h;have uF:=h.nt;have gS:=h.st;have hnv:=h.nv;have hsv:=h.sv;obtain ⟨ig,ii,il,ip,ix,it,iv,ie,ic,iq⟩:=bK (ay (az b s x.now P) w.heap.size);refine aD.ak Tryz.func58 rfl Tryz.ntmps58 rfl (az b s x.now P++ []) ((gU (az b s x.now P))) aM ?_;refine J9 ?_;refine LM.ja ({gT x t with st:=1}) (j:=6) aC ir Tryz.sizeOf3 rfl rfl rfl (by first|exact bE om|exact aH default cH) rfl (by decide) (by rfl) rfl (au aC) (fun mP dy eB=>?_)
 try rw [List.set_set] at dy
 have Jp:=ck eB aC;refine dc ?_;refine LM.ja ({gT x t with st:=1,un:=0#64}) (j:=7) aC ir Tryz.sizeOf41 rfl rfl rfl (by first|exact bE om|exact aH default cH) rfl (by decide) (by rfl) rfl (au aC) (fun kF gM kQ=>?_)
 try rw [List.set_set] at gM
 have K0:=ck kQ aC;refine dc ?_;refine LM.ja (C9 (gT x t)) (j:=8) aC ir Tryz.sizeOf3 rfl rfl rfl (by first|exact bE om|exact aH default cH) rfl (by decide) (by rfl) rfl (au aC) (fun td mV sD=>?_)
 try rw [List.set_set] at mV
 have V9:=ck sD aC;refine J3 ?_;refine af.draw [(0,0),(1,0),(2,0),(3,1),(4,0),(5,0),(6,0),(7,1),(8,0),(9,0),(10,0),(11,1),(12,0),(13,0),(14,0),(15,0),(16,1),(17,0),(18,0),(19,1),(20,0),(21,0),(22,0),(23,1),(24,0),(25,0),(26,0),(27,1),(28,3)] kr kr ?_;refine dc ?_;refine LD.rd rfl rfl (aL (j:=3) aC ir Tryz.isAgg3 rfl rfl (by first|exact bE om|exact aH default cH) rfl (by rfl)) ?_;refine J7 ?_;refine LD.rd rfl rfl (bt aC ir Tryz.isAgg41 rfl rfl (by first|exact bE om|exact aH 0#64 cH) (by rfl)) ?_;refine J7 ?_;refine LD.rd rfl rfl (aL (j:=10) aC ir Tryz.isAgg3 rfl rfl (by first|exact bE om|exact aH default cH) rfl (by rfl)) ?_;refine LD.tail rfl rfl ?_;refine cU Tryz.func64 rfl (fun w hm hc hg=>xN (gT x t).co (t:Nat) (x.v.getD t 0#64) (gT x t).ef w h.sc (Nat.le_trans cm hc.size) (hm.pick P.mc)) h.sc.bJ (au ic) ?_;rintro u53 m53 ⟨rfl,ajm⟩ aac;have i53:=ar ic aac;have yW:eQ n0 b s {bR x t (C9 (gT x t)) with cs:=dT x.cs (gT x t).co t (x.v.getD t 0#64) (gT x t).ef} (az b s x.now {P with mt:=td,mc:=m53}):=⟨_,rfl,{h with nt:=(by show P.nt=(x.ts.set t _).length;rw [List.length_set];exact uF),st:=mV,sc:=ajm}⟩
 refine J1 ?_;refine QM.qn ?_;refine dc ?_;refine LM.rd (aL (j:=3) aC ir Tryz.isAgg3 rfl rfl (by first|exact bE om|exact aH default cH) rfl (by rfl)) ?_;refine cU Tryz.func53 rfl (fun w hm hc hg=>cc 7 (t:Nat) (-1) (gT x t).co w yW BO (Nat.le_trans cm hc.size) (hm.pick _)) yW.bJ (au aP) ?_;rintro u64 m64 ⟨rfl,vZ⟩ DD;refine J1 ?_;refine QM.leave (.inr rfl) [] Tryz.results58 rfl ?_;intro w' ao aa aA;exact bp (m':=m64) ⟨rfl,vZ⟩ ao aX aa (ar aP DD)
theorem rv {b:Nat} {s:dU} {m:ab} (t:Nat) (w:World) (h:eQ n0 b s x m) (hv:t<x.v.length) (cm:n0<=w.heap.size) (hM:Mem w m):aD Tryz.prog 71 #[.pointer (some ⟨b,0,none⟩),.int .i64 (t:Nat)] w (fq m (fun u m'=>u= .tuple #[]/\eQ n0 b s (eM x t) m') w):=by
 obtain ⟨P,rfl,h⟩:=h;have hnv:=h.nv;have hsv:=h.sv;obtain ⟨ig,ii,il,ip,ix,it,iv,ie,ic,iq⟩:=bK (ay (az b s x.now P) w.heap.size);refine aD.ak Tryz.func71 rfl Tryz.ntmps71 rfl (az b s x.now P++ []) ((gU (az b s x.now P))) aM ?_;refine J7 ?_;refine cU Tryz.func122 rfl (fun w hm hc hg=>F3 (t:Nat) w h.sc (Nat.le_trans cm hc.size) (hm.pick P.mc)) h.sc.bJ (au ic) ?_;rintro u12 m12 ⟨rfl,aaU⟩ ab6;have i12:=ar ic ab6;refine cM ?_;refine af.aj rfl (fun h1=>?_) (fun h1=>?_)
 ·refine J8 ?_;refine LM.ja (xV x.cs t) (j:=0) aC ir Tryz.sizeOf41 rfl rfl rfl (by first|exact bE om|exact aH 0#64 cH) rfl (by decide) (by rfl) rfl (au aC) (fun mP dy eB=>?_)
  try rw [List.set_set] at dy
  have Jp:=ck eB aC;refine J1 ?_;refine QM.leave (.inr rfl) [] Tryz.results71 rfl ?_;intro w' ao aa aA;exact BD (P:= {P with mv:=mP,mc:=m12}) (x:=eM x t) {h with nv:=(by rw [It h1,List.length_set];exact hnv),sv:=(by rw [It h1];exact dy),sc:=aaU} ao aX aa aP
 refine J1 ?_;refine QM.leave (.inr rfl) [] Tryz.results71 rfl ?_;intro w' ao aa aA;exact BD (P:= {P with mc:=m12}) (x:=eM x t) {h with nv:=(by rw [MJ h1];exact hnv),sv:=(by rw [MJ h1];exact hsv),sc:=aaU} ao aX aa aP
end Go.Eng
namespace Go.Eng
open Go Go.RowKit
variable {fv:Bool} {a e e1 e2 e3 lock:Int} {P:Int->Prop} {gs pl:List Int} {ws:List bA} {xs:List bO} {ls:List jD} {ps:List mX} {c cap i i0 i1 i2 i3 k n n0 t:Nat} {ad:Option Addr} {α:Type} {x:aB} {L:bf} {s:ee}
/-! ### cores -/
theorem qh {q q':Qm} (h:q'.l.map (·.id)=q.l.map (·.id)) (b:Int):cB q' b↔cB q b:=by
  have e:∀(x:Qm),cB x b↔b∈x.l.map (·.id):=fun x=>by
    unfold cB;rw [jx,List.mem_map]
  rw [e,e,h]
structure CI (n k:Nat) (cs:List Qm):Prop where
  wf:tv cs
  id:∀c,c<cs.length->∀a,cB (qg cs c) a->a<(n:Int)
  rn:∀c,c<cs.length->(qg cs c).cY<=(k:Int)+8
theorem CI.mono {n' k':Nat} {cs:List Qm} (h:CI n k cs) (hn:n<=n') (hk:k<=k'):CI n' k' cs:=⟨h.wf,fun c hc a ha=>by have:=h.id c hc a ha;omega,fun c hc=>by have:=h.rn c hc;omega⟩
theorem CI.set {n k:Nat} {cs:List Qm} (h:CI n k cs) {c:Nat} (hc:c<cs.length) {q:Qm} (hq:nJ q) (he:q.l.map (·.id)=(qg cs c).l.map (·.id)) (hr:q.cY<=(k:Int)+8):CI n k (cs.set c q):=by
  have hl:q.l.length=(qg cs c).l.length:=by have:=congrArg List.length he;rw [List.length_map,List.length_map] at this;exact this
  refine ⟨h.wf.set hc hq (fun j b hj hjc hb q'=>hjc (h.wf.one j c b hj hc q' ((qh he b).1 hb))) (by have:=h.wf.all;omega),fun d hd a ha=>?_,fun d hd=>?_⟩
  · rw [List.length_set] at hd;rw [bG hc] at ha
    by_cases e:c=d
    ·rw [if_pos e] at ha;exact h.id c hc a ((qh he a).1 ha)
    ·rw [if_neg e] at ha;exact h.id d hd a ha
  · rw [List.length_set] at hd;rw [bG hc]
    by_cases e:c=d
    ·rw [if_pos e];exact hr
    ·rw [if_neg e];exact h.rn d hd
theorem CI.ab4 {cs:List Qm} (h:CI n k cs) (hc:c<cs.length) (ha:0<=a) (hn:¬bN cs a<cs.length) (hf:fm cs<16) (v:BitVec 64) (w:Int) (han:a<n):CI n k (cs.set c (sR (qg cs c) a v w)):=by
  refine ⟨AS h.wf hc ha hn hf v w,fun d hd b hb=>?_,fun d hd=>?_⟩
  · rw [List.length_set] at hd;rw [bG hc] at hb
    by_cases e:c=d
    · rw [if_pos e,has_add] at hb
      rcases hb with hb|rfl
      ·exact h.id c hc b hb
      ·exact han
    ·rw [if_neg e] at hb;exact h.id d hd b hb
  · rw [List.length_set] at hd;rw [bG hc]
    by_cases e:c=d
    ·rw [if_pos e];exact h.rn c hc
    ·rw [if_neg e];exact h.rn d hd
theorem CI.add {cs:List Qm} (h:CI n k cs) (co a:Int) (v:BitVec 64) (w:Int) (han:a<n):CI n k (dT cs co a v w):=by
  unfold dT
  split
  · next e=>
    unfold jm at e
    split at e
    ·cases e
    split at e
    ·cases e
    split at e
    ·cases e
    exact h.ab4 om om aC om v w han
  ·exact h
theorem gX (cs:List Qm) (co a:Int) (v:BitVec 64) (w:Int):(dT cs co a v w).length=cs.length:=by unfold dT;split;exact List.length_set;rfl
theorem CI.aaR {cs:List Qm} (h:CI n k cs) (ha:bN cs a<cs.length):CI n k (cs.set (bN cs a) (jq (qg cs (bN cs a)) a)):=by
  refine ⟨Br h.wf ha,fun d hd b hb=>?_,fun d hd=>?_⟩
  · rw [List.length_set] at hd;rw [bG ha] at hb
    by_cases e:bN cs a=d
    ·rw [if_pos e,pS (h.wf.wf _ ha) (dm ha)] at hb;exact h.id _ ha b hb.1
    ·rw [if_neg e] at hb;exact h.id d hd b hb
  · rw [List.length_set] at hd;rw [bG ha]
    by_cases e:bN cs a=d
    · rw [if_pos e];unfold jq;split
      ·show (0:Int)<=_;omega
      ·exact h.rn _ ha
    ·rw [if_neg e];exact h.rn d hd
theorem CI.rem {cs:List Qm} (h:CI n k cs) (a:Int):CI n k (iM cs a):=by
  unfold iM;split
  ·exact h.aaR aC
  ·exact h
theorem pY (cs:List Qm) (a:Int):(iM cs a).length=cs.length:=by unfold iM;split;exact List.length_set;rfl
theorem CI.wgh {cs:List Qm} (h:CI n k cs) (a w:Int):CI n k (kG cs a w):=by
  unfold kG;split
  · next ha=>
    have hh:=dm ha;rw [show nk (qg cs (bN cs a)) a w=iW (qg cs (bN cs a)) a w from if_pos hh];refine h.set ha (B2 (h.wf.wf _ ha) hh) (gC hh rfl) ?_
    show (if _ then _ else _)<=_
    have hg:=(h.wf.wf _ ha).g;have:=h.rn _ ha
    split<;>omega
  ·exact h
theorem HU (cs:List Qm) (a w:Int):(kG cs a w).length=cs.length:=by unfold kG;split;exact List.length_set;rfl
theorem CI.back {cs:List Qm} (h:CI n k cs) (hc:c<cs.length):CI n k (cs.set c (fM (qg cs c))):=h.set hc (Hk (h.wf.wf _ hc)) rfl (by show (0:Int)<=_;omega)
theorem CI.pik {cs:List Qm} (h:CI n k cs) (hc:c<cs.length):CI n k (cs.set c (ru (qg cs c))):=by
  refine h.set hc (VU (h.wf.wf _ hc)) (by unfold ru;split<;>rfl) ?_
  unfold ru;split
  ·exact h.rn c hc
  ·show (0:Int)<=_;omega
theorem CI.tick {cs:List Qm} (h:CI n k cs) (hc:c<cs.length):CI n (k+1) (cs.set c (dW (qg cs c))):=by
  refine (h.mono (Nat.le_refl n) (Nat.le_succ k)).set hc (Iw (h.wf.wf _ hc)) ?_ ?_
  · unfold dW;split
    ·next q=>exact gC ((h.wf.wf _ hc).ix q) ((iZ ((h.wf.wf _ hc).ix q)).1)
    ·rfl
  · have:=h.rn c hc
    unfold dW;split
    ·show _+1<=_;omega
    ·omega
theorem nI {cs:List Qm} (f:Qm->Qm):(cs.map f).length=cs.length:=List.length_map ..
theorem xP {cs:List Qm} {f:Qm->Qm} (h:c<cs.length):qg (cs.map f) c=f (qg cs c):=by
  unfold qg;rw [List.getD_eq_getElem?_getD,List.getD_eq_getElem?_getD,List.getElem?_map,List.getElem?_eq_getElem h];rfl
theorem CI.af8 {cs:List Qm} (h:CI n k cs):CI n k (cs.map fQ):=by
  have hk:∀c,c<cs.length->∀a,cB (qg (cs.map fQ) c) a↔cB (qg cs c) a:=fun c hc a=>by
    rw [xP hc];exact qh (by rw [(eY _).1]) a
  refine ⟨⟨by rw [nI];exact h.wf.len,fun c hc=>?_,fun i j a hi hj h1 h2=>?_,?_⟩,fun c hc a ha=>?_,fun c hc=>?_⟩
  ·rw [nI] at hc;rw [xP hc];exact vF (h.wf.wf c hc)
  ·rw [nI] at hi hj;exact h.wf.one i j a hi hj ((hk i hi a).1 h1) ((hk j hj a).1 h2)
  · have e:fm (cs.map fQ)=fm cs:=by
      unfold fm;rw [List.map_map];congr 1
      exact List.map_congr_left (fun q _=>by show (fQ q).l.length=_;rw [(eY q).1])
    rw [e];exact h.wf.all
  ·rw [nI] at hc;exact h.id c hc a ((hk c hc a).1 ha)
  ·rw [nI] at hc;rw [xP hc,(eY _).2.2.1];exact h.rn c hc
theorem CI.car {cs:List Qm} (h:CI n k cs) {to:Nat} (ha:bN cs a<cs.length) (ht:to<cs.length) (ec:to≠bN cs a):CI n k (ia cs a to):=by
  obtain ⟨h1,h2,h3,h4,h5⟩:=Bd h.wf ha ht ec;rw [x9 h.wf ha ht ec];exact CI.ab4 (h.aaR ha) h2 h3 h4 h5 _ _ (h.id _ ha a (dm ha))
theorem sM (cs:List Qm) (a:Int) (to:Nat):(ia cs a to).length=cs.length:=by unfold ia fh;rw [List.length_set,List.length_set]
theorem CI.ZR {cs:List Qm} (h:CI n k cs):CI n k (jI cs):=by
  unfold jI
  split
  ·exact h
  · next t e=>
    obtain ⟨h1,h2,h3,h4,h5,h6,h7⟩:=jX h.wf e;exact h.car (by rw [h4];exact h5) h6 h7
theorem Rs (cs:List Qm):(jI cs).length=cs.length:=by unfold jI;split;rfl;exact sM ..
theorem CI.Z8 {cs:List Qm} (h:CI n k cs) (co a:Int):CI n k (jB cs co a):=by
  unfold jB
  split
  · next e=>
    unfold fy at e
    split at e
    ·cases e
    split at e
    ·cases e
    split at e
    ·cases e
    split at e
    ·cases e
    exact h.car om om om
  ·exact h
theorem SC (cs:List Qm) (co a:Int):(jB cs co a).length=cs.length:=by unfold jB;split;exact sM ..;rfl
/-! who is in a queue behind it -/
theorem De {cs:List Qm} {co:Int} {v:BitVec 64} {w:Int} {b:Int} (h:cB (qg (dT cs co a v w) c) b):cB (qg cs c) b\/b=a:=by
  unfold dT at h;split at h
  · next e=>
    have tZ:co.toNat<cs.length:=by unfold jm at e;split at e;cases e;omega
    rw [bG tZ] at h
    by_cases q:co.toNat=c
    ·rw [if_pos q,has_add] at h;rw [<-q];exact h
    ·rw [if_neg q] at h;exact .inl h
  ·exact .inl h
theorem BZ {cs:List Qm} (co a:Int) (v:BitVec 64) (w:Int) {b:Int} (h:bN cs b<cs.length):bN (dT cs co a v w) b<(dT cs co a v w).length:=by
  refine Classical.byContradiction fun n=>?_;have hh:=dm h;have hn:=wK n (i:=bN cs b) (by rw [gX];exact h)
  unfold dT at hn;split at hn
  · next e=>
    have tZ:co.toNat<cs.length:=by unfold jm at e;split at e;cases e;omega
    rw [bG tZ] at hn
    by_cases q:co.toNat=bN cs b
    ·rw [if_pos q,has_add,q] at hn;exact hn (.inl hh)
    ·rw [if_neg q] at hn;exact hn hh
  ·exact hn hh
theorem su {cs:List Qm} (hw:tv cs) (hc:c<cs.length) {b:Int} (h:cB (qg (iM cs a) c) b):cB (qg cs c) b/\b≠a:=by
  unfold iM at h;split at h
  · next e=>
    have hn:=Iy hw e;refine ⟨?_,fun q=>?_⟩
    · rw [bG e] at h
      by_cases q:bN cs a=c
      ·rw [if_pos q,pS (hw.wf _ e) (dm e),q] at h;exact h.1
      ·rw [if_neg q] at h;exact h
    ·rw [q] at h;exact wK hn (i:=c) (by rw [List.length_set];exact hc) h
  ·next e=>exact⟨h,fun q=>by rw [q] at h;exact wK e hc h⟩
theorem jr {cs:List Qm} (hc:c<cs.length) {q:Qm} (he:q.l.map (·.id)=(qg cs c).l.map (·.id)) {d:Nat} {b:Int} (h:cB (qg (cs.set c q) d) b):cB (qg cs d) b:=by
  rw [bG hc] at h
  by_cases e:c=d
  ·rw [if_pos e] at h;rw [<-e];exact(qh he b).1 h
  ·rw [if_neg e] at h;exact h
theorem DT {cs:List Qm} {w:Int} {d:Nat} {b:Int} (h:cB (qg (kG cs a w) d) b):cB (qg cs d) b:=by
  unfold kG at h;split at h
  · next ha=>
    have hh:=dm ha;rw [show nk (qg cs (bN cs a)) a w=iW (qg cs (bN cs a)) a w from if_pos hh] at h;exact jr ha (gC hh rfl) h
  ·exact h
theorem D5 {cs:List Qm} {d:Nat} (hd:d<cs.length) {b:Int} (h:cB (qg (cs.map fQ) d) b):cB (qg cs d) b:=by
  rw [xP hd] at h;exact(qh (by rw [(eY _).1]) b).1 h
theorem EA {cs:List Qm} (hw:tv cs) {to:Nat} (ha:bN cs a<cs.length) (ht:to<cs.length) (ec:to≠bN cs a) {d:Nat} (hd:d<cs.length) {b:Int} (h:cB (qg (ia cs a to) d) b):∃e,e<cs.length/\cB (qg cs e) b:=by
  rw [x9 hw ha ht ec,bG (by unfold fh;rw [List.length_set];exact ht)] at h
  have key:∀e,cB (qg (fh cs a) e) b->cB (qg cs e) b:=fun e q=>by
    unfold fh at q;rw [bG ha] at q
    by_cases z:bN cs a=e
    ·rw [if_pos z,pS (hw.wf _ ha) (dm ha),z] at q;exact q.1
    ·rw [if_neg z] at q;exact q
  by_cases e:to=d
  · rw [if_pos e,has_add] at h
    rcases h with h|rfl
    ·exact⟨to,ht,key to h⟩
    ·exact⟨_,ha,dm ha⟩
  ·rw [if_neg e] at h;exact⟨d,hd,key d h⟩
/-! ### locks -/
structure iR (P:Int->Prop) (L:bf):Prop where
  ho:∀h∈L.ho,P h.t
  wt:∀w∈L.wt,P w.who
theorem iR.settle (h:iR P L):iR P (cN L):=⟨h.ho,h.wt⟩
theorem BX (L:bf) (p:Int) (n:Nat):(c8 L p n).length<=L.wt.length:=by
  unfold c8 LF;rw [List.length_map,List.length_take]
  have:=List.length_filter_le (fun w:Wt=>decide (w.key=p)) L.wt;omega
theorem iR.c8 {P:Int->Prop} {L:bf} (h:iR P L) (p:Int) (n:Nat):∀t∈c8 L p n,P t:=fun t ht=>by
  obtain ⟨w,hw,rfl,_⟩:=rG ht;exact h.wt w hw
theorem iR.MB (h:iR P L) (p:Int) (n:Nat):iR P (l9 L p n):=by
  rw [fG];refine ⟨fun g hg=>?_,fun w hw=>h.wt w (pL.1 hw).1⟩;rcases List.mem_append.1 hg with hg|hg
  ·exact h.ho g hg
  · refine h.c8 p n g.t ?_
    rw [<-Cu p L.di (Go.Eng.c8 L p n)];exact List.mem_map_of_mem hg
theorem iR.jH {P:Int->Prop} {L:bf} (h:iR P L):∀t∈jH L,P t:=fun t ht=>by
  unfold Go.Eng.jH at ht;split at ht
  ·cases ht
  ·exact h.c8 _ _ t ht
theorem iR.pass (h:iR P L):iR P (kO L):=by
  unfold kO;split
  ·exact h
  ·exact iR.MB (L:=dK L) ⟨h.ho,h.wt⟩ _ _
theorem iR.take (h:iR P L) (t p:Int) (ht:P t):iR P (cf L t p):=by
  unfold cf;split
  ·exact h
  · refine iR.settle ⟨fun g hg=>?_,fun w hw=>h.wt w (by rw [<-xc L p];exact hw)⟩
    rcases List.mem_append.1 hg with hg|hg
    ·exact h.ho g (by rw [(eL L p).2.1] at hg;exact hg)
    ·rw [List.mem_singleton] at hg;rw [hg];exact ht
theorem iR.wait (h:iR P L) (t p:Int) (ht:P t):iR P (du L t p):=by
  unfold du;split
  ·exact h
  · refine iR.settle ⟨h.ho,fun w hw=>?_⟩
    rcases List.mem_append.1 hw with hw|hw
    ·exact h.wt w hw
    ·rw [List.mem_singleton] at hw;rw [hw];exact ht
theorem iR.out (h:iR P L) (t:Int):iR P (fY L t):=⟨fun g hg=>h.ho g (List.mem_of_mem_eraseIdx hg),h.wt⟩
theorem iR.yF (h:iR P L) (t:Int):iR P (dP L t):=by
  unfold dP;split
  · split
    ·exact(h.out t).pass.settle
    ·exact(h.out t).settle
  ·exact h
theorem iR.dI {P:Int->Prop} {L:bf} (h:iR P L) (t:Int):∀u∈dI L t,P u:=fun u hu=>by
  unfold Go.Eng.dI at hu;split at hu
  ·exact(h.out t).jH u hu
  ·cases hu
theorem iR.gone (h:iR P L) (t:Int):iR P (da L t):=⟨h.ho,fun w hw=>h.wt w (List.mem_filter.1 hw).1⟩
theorem iR.lv (h:iR P L) (t:Int):iR P (fR L t):=by
  unfold fR;split
  · split
    ·exact((h.gone t).MB _ _).settle
    ·exact(h.gone t).settle
  ·exact h
theorem iR.oc {P:Int->Prop} {L:bf} (h:iR P L) (t:Int):∀u∈oc L t,P u:=fun u hu=>by
  unfold Go.Eng.oc at hu;split at hu
  ·exact(h.gone t).c8 _ _ u hu
  ·cases hu
theorem iR.die (h:iR P L) (t:Int):iR P (tx L t):=by
  unfold tx;split
  ·exact h.lv t
  · split
    ·exact iR.yF (L:= {L with di:=true}) ⟨h.ho,h.wt⟩ t
    ·exact h
theorem iR.v9 {P:Int->Prop} {L:bf} (h:iR P L) (t:Int):∀u∈v9 L t,P u:=fun u hu=>by
  unfold Go.Eng.v9 at hu;split at hu
  ·exact h.oc t u hu
  ·exact iR.dI (L:= {L with di:=true}) ⟨h.ho,h.wt⟩ t u hu
theorem iR.yw (h:iR P L) (t:Int):iR P (jt L t):=by unfold jt;split;exact⟨h.ho,h.wt⟩;exact h
theorem iR.Tb (h:iR P L) (g w:Int):iR P (iU L g w):=by unfold iU;split;exact⟨h.ho,h.wt⟩;exact h
theorem KC (L:bf):(jH L).length<=L.wt.length:=by unfold jH;split;exact Nat.zero_le _;exact BX (dK L) _ _
theorem k4 (L:bf) (t:Int):(dI L t).length<=L.wt.length:=by unfold dI;split;exact KC (fY L t);exact Nat.zero_le _
theorem pU (L:bf) (t:Int):(oc L t).length<=L.wt.length:=by
  unfold oc;split
  ·exact Nat.le_trans (BX (da L t) _ _) (List.length_filter_le ..)
  ·exact Nat.zero_le _
theorem IB (L:bf) (t:Int):(v9 L t).length<=L.wt.length:=by unfold v9;split;exact pU L t;exact k4 {L with di:=true} t
def iz (n:Nat) (t:Int):Prop:=0<=t/\t<n
structure LI (n k:Nat) (L:bf):Prop where
  w:lZ L
  b:kx k L
  i:iR (iz n) L
theorem LI.mono {n n' k k':Nat} {L:bf} (h:LI n k L) (hn:n<=n') (hk:k<=k'):LI n' k' L:=⟨h.w,h.b.mono hk,⟨fun g hg=>by have:=h.i.ho g hg;exact⟨this.1,by have:=this.2;omega⟩,fun g hg=>by have:=h.i.wt g hg;exact⟨this.1,by have:=this.2;omega⟩⟩⟩
theorem IT {l:List Int} (h:l.Nodup) (hn:∀t∈l,iz n t):l.length<=n:=by
  have h1:(l.map Int.toNat).Nodup:=by
    unfold List.Nodup;rw [List.pairwise_map]
    refine List.Pairwise.imp_of_mem (fun {a b} ha hb ec e=>ec ?_) h;have h2:=hn a ha;have h3:=hn b hb;unfold iz at h2 h3;omega
  have h2:∀t∈l.map Int.toNat,t∈List.range n:=fun t ht=>by
    obtain ⟨a,ha,rfl⟩:=List.mem_map.1 ht;have:=hn a ha;unfold iz at this;exact List.mem_range.2 om
  have h3:=List.Nodup.length_le_of_subset h1 h2;rw [List.length_map,List.length_range] at h3;exact h3
theorem LI.hl (h:LI n k L):L.ho.length<=n:=by
  have:=IT h.w.hd (fun t ht=>by obtain ⟨g,hg,rfl⟩:=List.mem_map.1 ht;exact h.i.ho g hg);rw [List.length_map] at this;exact this
section
variable {n k:Nat} {L:bf} (h:LI n k L) (t:Int)
include h
theorem LI.take (p:Int) (ht:iz n t):LI n (k+1) (cf L t p):=⟨h.w.take t p,h.b.take t p,h.i.take t p ht⟩
theorem LI.wait (p:Int) (ht:iz n t):LI n (k+1) (du L t p):=⟨h.w.wait t p,h.b.wait t p,h.i.wait t p ht⟩
theorem LI.yF:LI n k (dP L t):=⟨lZ.yF h.w.toqH t h.w.em,h.b.yF h.w.wd t,h.i.yF t⟩
theorem LI.lv:LI n k (fR L t):=⟨h.w.lv t,h.b.lv h.w.wd t,h.i.lv t⟩
theorem LI.die:LI n k (tx L t):=⟨h.w.die t,h.b.die h.w.wd t,h.i.die t⟩
theorem LI.yw:LI n (k+1) (jt L t):=⟨h.w.yw t,h.b.yw t,h.i.yw t⟩
theorem LI.Tb (w:Int):LI n k (iU L t w):=⟨h.w.Tb t w,h.b.Tb t w,h.i.Tb t w⟩
end
/-! ### who waits for whom -/
structure GI (g:Gr):Prop where
  l:g.length=64
  a:jT g
theorem L7 {G:Gr}:¬iD G 0#64 i:=fun h=>by
  induction h with
  |base h=>rw [bC] at h;cases h
  |step _ _ ih=>exact ih
theorem GI.cut {g:Gr} (h:GI g) (ht:t<64):GI (g.set t 0#64):=⟨by rw [List.length_set];exact h.l,H0 h.l ht h.a L7⟩
theorem GI.wt {g:Gr} (h:GI g) (t:Int) (s:BitVec 64):GI (qt g t s):=⟨sw h.l t s,HQ h.l h.a t s⟩
theorem GI.UG:∀{g:Gr},GI g->GI (Sj L g):=by
  unfold Sj
  generalize L.wt=l
  induction l with
  |nil=>intro g h;exact h
  |cons w l ih=>intro g h;rw [List.foldl_cons];exact ih (h.wt _ _)
structure yz (s:ee) (k:Nat) (t:iy):Prop where
  pr:0<=t.pr/\t.pr<(s.ps.length:Int)
  pc:0<=t.pc/\t.pc<=(k:Int)
  lf:0<=t.lf/\t.lf<=64
  ti:0<=t.ti/\t.ti<=(k:Int)
  l4:t.st=4->0<=t.lk/\t.lk<(s.ls.length:Int)
  un:t.un≠0#64->t.st=3\/t.st=4
theorem yz.mono {k':Nat} {t:iy} (h:yz s k t) (hk:k<=k'):yz s k' t:=⟨h.pr,by have:=h.pc;omega,h.lf,by have:=h.ti;omega,h.l4,h.un⟩
structure MI (k:Nat) (x:aB):Prop where
  ms:dt x.s=true
  ce:(x.cs.length:Int)=x.s.cr
  ci:CI x.ts.length k x.cs
  il:x.idle.length=x.cs.length
  ib:∀n∈x.idle,0<=n/\n<=(k:Int)
  ll:x.lk.length=x.s.ls.length
  li:∀l,l<x.lk.length->LI x.ts.length k (gL x l)
  gi:GI x.g
  tl:x.ts.length<=64
  vl:x.v.length=x.ts.length
  tb:∀t,t<x.ts.length->yz x.s k (gT x t)
  gn:x.gp.length=x.s.gs.length
  ev:x.ev.length<=k
  iq:∀c,c<x.cs.length->∀a,cB (qg x.cs c) a->(gT x a.toNat).un=0#64
theorem MI.mono {k k':Nat} {x:aB} (h:MI k x) (hk:k<=k'):MI k' x:=
  {h with ci:=h.ci.mono (Nat.le_refl _) hk,ib:=fun n hn=>by have:=h.ib n hn;omega,li:=fun l hl=>(h.li l hl).mono (Nat.le_refl _) hk,tb:=fun t ht=>(h.tb t ht).mono hk,ev:=Nat.le_trans h.ev hk}
theorem dB (ht:t<x.ts.length) (y:iy) (j:Nat):gT (bR x t y) j=if t=j then y else gT x j:=by
  unfold gT bR
  show (x.ts.set t y).getD j default=_
  rw [List.getD_eq_getElem?_getD,List.getElem?_set]
  by_cases e:t=j
  ·rw [if_pos e,if_pos e,if_pos ht];rfl
  ·rw [if_neg e,if_neg e,List.getD_eq_getElem?_getD]
theorem aW (x:aB) (t:Nat) (y:iy):(bR x t y).ts.length=x.ts.length:=List.length_set ..
section
variable {k:Nat} {x:aB} (h:MI k x)
include h
theorem MI.fX (a t l n:Int):MI (k+1) (ba x a t l n):=
  have h':=h.mono (Nat.le_succ k)
  {h' with ev:=by show (x.ev++ [_]).length<=_;rw [List.length_append,List.length_singleton];have:=h.ev;omega}
theorem MI.upQ (ht:t<x.ts.length) {y:iy} (hy:yz x.s k y) (hu:∀c,c<x.cs.length->cB (qg x.cs c) t->y.un=0#64):MI k (bR x t y):=
  {h with
    iq:=fun c hc a ha=>by
      rw [dB ht];split
      · next e=>
        have h0:=(h.ci.wf.wf c hc).pos _ (eP ha).1;rw [(eP ha).2] at h0;exact hu c hc (by rw [show (t:Int)=a by omega];exact ha)
      ·exact h.iq c hc a ha
    ci:=by rw [aW];exact h.ci
    li:=fun l hl=>by rw [aW];exact h.li l hl
    tl:=by rw [aW];exact h.tl
    vl:=by rw [aW];exact h.vl
    tb:=fun j hj=>by rw [aW] at hj;rw [dB ht];split;exact hy;exact h.tb j hj}
theorem MI.up (ht:t<x.ts.length) {y:iy} (hy:yz x.s k y) (hu:y.un=0#64\/y.un=(gT x t).un:=by first|exact .inl rfl|exact .inr rfl):MI k (bR x t y):=
  h.upQ ht hy (fun c hc hk=>by rcases hu with e|e;exact e;rw [e];exact h.iq c hc t hk)
theorem MI.E6 {cs:List Qm} (hc:CI x.ts.length k cs) (hl:cs.length=x.cs.length) (hq:∀c,c<x.cs.length->∀a,cB (qg cs c) a->(∃d,d<x.cs.length/\cB (qg x.cs d) a)\/(gT x a.toNat).un=0#64):MI k {x with cs:=cs} :=
  {h with iq:=fun c hc a ha=>by {rcases hq c (by rw [<-hl];exact hc) a ha with ⟨d,hd,q⟩|q;exact h.iq d hd a q;exact q},ci:=hc,ce:=by rw [show ({x with cs:=cs} :aB).cs.length=x.cs.length from hl];exact h.ce,il:=by rw [show ({x with cs:=cs} :aB).cs.length=x.cs.length from hl];exact h.il}
theorem MI.aY {l:Nat} {L:bf} (hL:LI x.ts.length k L):MI k (aY x l L):=
  {h with
    ll:=by show (x.lk.set l L).length=_;rw [List.length_set];exact h.ll
    li:=fun j hj=>by
      have T2:j<x.lk.length:=by rw [show (Go.Eng.aY x l L).lk.length=x.lk.length from List.length_set ..] at hj;exact hj
      show LI _ k ((x.lk.set l L).getD j default)
      rw [List.getD_eq_getElem?_getD,List.getElem?_set]
      by_cases e:l=j
      ·rw [if_pos e,if_pos (by rw [e];exact T2)];exact hL
      ·rw [if_neg e,<-List.getD_eq_getElem?_getD];exact h.li j T2}
theorem MI.gr {g:Gr} (hg:GI g):MI k {x with g:=g} := {h with gi:=hg}
theorem MI.vv {v:List (BitVec 64)} (hv:v.length=x.v.length):MI k {x with v:=v} := {h with vl:=by show v.length=_;rw [hv];exact h.vl}
theorem MI.cut {t:Nat} (ht:t<x.ts.length):MI k (cC x t):=h.gr (h.gi.cut (by have:=h.tl;omega))
theorem MI.inc (ht:t<x.ts.length):MI (k+1) (bh x t):=
  (h.mono (Nat.le_succ k)).up ht (by have q:=h.tb t ht;exact⟨q.pr,by have:=q.pc;show 0<=_+1/\_+1<=_;omega,q.lf,by have:=q.ti;show 0<=(gT x t).ti/\(gT x t).ti<=_;omega,q.l4,q.un⟩)
theorem MI.EJ (ht:t<x.ts.length):MI (k+1) (dH x t):=by
  have q:=h.tb t ht;have h1:=h.up ht (y:=C9 (gT x t)) ⟨q.pr,q.pc,q.lf,q.ti,fun e=>(by cases e),fun e=>absurd rfl e⟩;exact(h1.E6 (cs:=dT x.cs (gT x t).co t (x.v.getD t 0#64) (gT x t).ef) (by rw [aW];exact h.ci.add _ _ _ _ om) (gX ..) (fun c hc a ha=>by rcases De ha with q|rfl;exact .inl ⟨c,hc,q⟩;exact .inr (by rw [dB ht,if_pos (Int.toNat_natCast t).symm];rfl))).fX _ _ _ _
theorem MI.qut (t:Nat):MI k (eM x t):=by
  have h1:=h.E6 (h.ci.rem t) (pY x.cs t) (fun c hc a ha=> .inl ⟨c,hc,(su h.ci.wf hc ha).1⟩);refine h1.vv (v:=if bN x.cs t<x.cs.length then x.v.set t (xV x.cs t) else x.v) ?_
  split
  ·exact List.length_set ..
  ·rfl
theorem MI.oJ (l:Nat) {t:Int} (ht:iz x.ts.length t):MI (k+3) (oJ l x t):=by
  have h0:t.toNat<x.ts.length:=by unfold iz at ht;omega
  have h1:=h.fX 4 t l (dD (gL x l) t);have h2:=h1.inc (t:=t.toNat) h0;have h3:=h2.cut (t:=t.toNat) (by show _<(x.ts.set _ _).length;rw [List.length_set];exact h0);exact h3.EJ (t:=t.toNat) (by show _<(x.ts.set _ _).length;rw [List.length_set];exact h0)
end
theorem Au (l:Nat) (x:aB) (t:Int):(oJ l x t).ts.length=x.ts.length:=by
  show ((x.ts.set _ _).set _ _).length=_;rw [List.length_set,List.length_set]
theorem oE (l:Nat):∀(to:List Int) (x:aB),(n4 l x to).ts.length=x.ts.length/\(n4 l x to).lk=x.lk/\(n4 l x to).s=x.s/\(n4 l x to).now=x.now
  | [],x=>⟨rfl,rfl,rfl,rfl⟩
  |t::to,x=>by
    have ih:=oE l to (oJ l x t)
    unfold n4 at ih ⊢
    rw [List.foldl_cons];exact⟨ih.1.trans (Au l x t),ih.2⟩
theorem MI.n4 {l:Nat} :∀{to:List Int} {k:Nat} {x:aB},MI k x->(∀t∈to,iz x.ts.length t)->MI (k+3*to.length) (n4 l x to)
  | [],k,x,h,_=>h
  |t::to,k,x,h,ht=>by
    have h1:=MI.n4 (l:=l) (h.oJ l (ht t (List.mem_cons_self ..))) (fun u hu=>by rw [Au];exact ht u (List.mem_cons_of_mem _ hu));rw [List.length_cons,show k+3*(to.length+1)=k+3+3*to.length by omega];exact h1
theorem MI.UG {k:Nat} {x:aB} (h:MI k x) (l:Nat):MI k (zc x l):=h.gr h.gi.UG
theorem cQ (l:Nat) (x:aB) (to:List Int):(cT x l to).ts.length=x.ts.length/\(cT x l to).lk=x.lk/\(cT x l to).s=x.s/\(cT x l to).now=x.now:=oE l to x
theorem MI.lV (h:MI k x) (l:Nat) {to:List Int} (ht:∀t∈to,iz x.ts.length t) (h8:to.length<=8):MI (k+24) (cT x l to):=((h.n4 ht).UG l).mono om
theorem cj (x:aB) (l:Nat) (L:bf):(aY x l L).lk.length=x.lk.length:=List.length_set ..
theorem MI.w8 {k:Nat} {x:aB} (h:MI k x) {l:Nat} (hl:l<x.lk.length):(gL x l).wt.length<=8:=(h.li l hl).w.w8
theorem MI.oy {k:Nat} {x:aB} (h:MI k x) {t:Nat} (ht:t<x.ts.length):MI (k+24) (oy x t):=by
  unfold Go.Eng.oy
  split
  · next e=>
    have hl:=(h.tb t ht).l4 e;have mL:(gT x t).lk.toNat<x.lk.length:=by rw [h.ll];omega
    have hL:=h.li _ mL;exact(h.aY (hL.lv t)).lV _ (hL.i.oc t) (Nat.le_trans (pU ..) (h.w8 mL))
  ·exact h.mono om
theorem sz (x:aB) (t:Nat):(oy x t).ts.length=x.ts.length/\(oy x t).lk.length=x.lk.length/\(oy x t).s=x.s/\(oy x t).now=x.now:=by
  unfold oy;split
  · have e:=cQ (gT x t).lk.toNat (aY x (gT x t).lk.toNat (fR (gL x (gT x t).lk.toNat) t)) (oc (gL x (gT x t).lk.toNat) t)
    exact⟨e.1,by rw [e.2.1];exact cj ..,e.2.2⟩
  ·exact⟨rfl,rfl,rfl,rfl⟩
theorem MI.tt {k:Nat} {x:aB} (h:MI k x) (t:Nat) {l:Nat} (hl:l<x.lk.length):MI (k+25) (tt t x l):=by
  unfold Go.Eng.tt
  split
  · have h1:=h.fX 12 t l 0
    have hL:=h1.li l hl;exact((h1.aY (hL.die t)).lV l (hL.i.v9 t) (Nat.le_trans (IB ..) (h1.w8 hl))).mono om
  ·exact h.mono om
theorem BY (t:Nat) (x:aB) (l:Nat):(tt t x l).ts.length=x.ts.length/\(tt t x l).lk.length=x.lk.length/\(tt t x l).s=x.s/\(tt t x l).now=x.now:=by
  unfold tt;split
  · have e:=cQ l (aY (ba x 12 t l 0) l (tx (gL x l) t)) (v9 (gL x l) t)
    exact⟨e.1,by rw [e.2.1];exact cj ..,e.2.2⟩
  ·exact⟨rfl,rfl,rfl,rfl⟩
theorem kn (t:Nat) (x:aB) (n:Nat):lS t x (n+1)=tt t (lS t x n) n:=by unfold lS;rw [List.range_succ,List.foldl_append];rfl
theorem jo (t:Nat) (x:aB):∀n,(lS t x n).ts.length=x.ts.length/\(lS t x n).lk.length=x.lk.length/\(lS t x n).s=x.s/\(lS t x n).now=x.now
  |0=>⟨rfl,rfl,rfl,rfl⟩
  |n+1=>by
    rw [kn];have h1:=BY t (lS t x n) n;have h2:=jo t x n;exact⟨h1.1.trans h2.1,h1.2.1.trans h2.2.1,h1.2.2.1.trans h2.2.2.1,h1.2.2.2.trans h2.2.2.2⟩
theorem MI.lS {k:Nat} {x:aB} (h:MI k x) (t:Nat):∀{n:Nat},n<=x.lk.length->MI (k+25*n) (lS t x n)
  |0,_=>h
  |n+1,hn=>by
    rw [kn];exact((h.lS t (n:=n) om).tt t (by rw [(jo t x n).2.1];omega)).mono om
theorem Ss (h:dt s=true):s.ls.length<=8:=by
  unfold dt at h;simp only [Bool.and_eq_true,decide_eq_true_eq] at h;omega
theorem MI.l8 (h:MI k x):x.lk.length<=8:=by rw [h.ll];exact Ss h.ms
def uC (x:aB) (t:Nat):aB:=cC (oy x t) t
def EN (x:aB) (t:Nat):aB:=eM (lS t (uC x t) x.lk.length) t
theorem xz (x:aB) (t:Nat):ku x t=ba (bR (EN x t) t (tM (gT (EN x t) t))) 11 t (-1) 0:=rfl
theorem oY (x:aB) (t:Nat):(uC x t).ts.length=x.ts.length/\(uC x t).lk.length=x.lk.length/\(uC x t).s=x.s/\(uC x t).now=x.now:=sz x t
theorem yp (x:aB) (t:Nat):(EN x t).ts.length=x.ts.length/\(EN x t).lk.length=x.lk.length/\(EN x t).s=x.s/\(EN x t).now=x.now:=by
  have h1:=jo t (uC x t) x.lk.length;have h2:=oY x t;exact⟨h1.1.trans h2.1,h1.2.1.trans h2.2.1,h1.2.2.1.trans h2.2.2.1,h1.2.2.2.trans h2.2.2.2⟩
theorem k6 (x:aB) (t:Nat):(ku x t).ts.length=x.ts.length/\(ku x t).lk.length=x.lk.length/\(ku x t).s=x.s/\(ku x t).now=x.now:=by
  have h:=yp x t;exact⟨by rw [xz];exact(aW ..).trans h.1,h.2⟩
theorem MI.uC {k:Nat} {x:aB} (h:MI k x) {t:Nat} (ht:t<x.ts.length):MI (k+24) (uC x t):=(h.oy ht).cut (by rw [(sz x t).1];exact ht)
theorem MI.EN {k:Nat} {x:aB} (h:MI k x) {t:Nat} (ht:t<x.ts.length):MI (k+224) (EN x t):=by
  have h8:=h.l8;exact(((h.uC ht).lS t (n:=x.lk.length) (by rw [(oY x t).2.1];exact Nat.le_refl _)).qut t).mono om
theorem yz.ded {t:iy} (q:yz s k t):yz s k (tM t):=⟨q.pr,q.pc,⟨Int.le_refl _,by show (0:Int)<=64;decide⟩,q.ti,fun e=>(by cases e),fun e=>absurd rfl e⟩
theorem MI.die (h:MI k x) (ht:t<x.ts.length):MI (k+225) (ku x t):=by
  have h2:=h.EN ht;have ZC:t<(Go.Eng.EN x t).ts.length:=by rw [(yp x t).1];exact ht
  rw [xz];exact(h2.up ZC (h2.tb t ZC).ded).fX _ _ _ _
/-! ### weights -/
theorem yz.ef {s:ee} {k:Nat} {t:iy} (q:yz s k t) (e:Int):yz s k {t with ef:=e} :=⟨q.pr,q.pc,q.lf,q.ti,q.l4,q.un⟩
theorem Pg (fC:List Int) (x:aB) (i:Nat):(tp fC x i).ts.length=x.ts.length/\(tp fC x i).lk=x.lk/\(tp fC x i).s=x.s/\(tp fC x i).now=x.now/\(tp fC x i).g=x.g/\(tp fC x i).ev=x.ev:=by
  unfold tp;split
  ·exact⟨rfl,rfl,rfl,rfl,rfl,rfl⟩
  ·exact⟨aW ..,rfl,rfl,rfl,rfl,rfl⟩
theorem MI.tp {k:Nat} {x:aB} (h:MI k x) (fC:List Int) {i:Nat} (hi:i<x.ts.length):MI k (tp fC x i):=by
  unfold Go.Eng.tp;split
  ·exact h
  ·exact(h.up hi ((h.tb i hi).ef _)).E6 (by rw [aW];exact h.ci.wgh _ _) (HU ..) (fun c hc a ha=> .inl ⟨c,hc,DT ha⟩)
theorem jk (fC:List Int) (x:aB) (n:Nat):tw fC x (n+1)=tp fC (tw fC x n) n:=by unfold tw;rw [List.range_succ,List.foldl_append];rfl
theorem lY (fC:List Int) (x:aB):∀n,(tw fC x n).ts.length=x.ts.length/\(tw fC x n).lk=x.lk/\(tw fC x n).s=x.s/\(tw fC x n).now=x.now/\(tw fC x n).g=x.g/\(tw fC x n).ev=x.ev
  |0=>⟨rfl,rfl,rfl,rfl,rfl,rfl⟩
  |n+1=>by
    rw [jk];have h1:=Pg fC (tw fC x n) n;have h2:=lY fC x n;exact⟨h1.1.trans h2.1,h1.2.1.trans h2.2.1,h1.2.2.1.trans h2.2.2.1,h1.2.2.2.1.trans h2.2.2.2.1,h1.2.2.2.2.1.trans h2.2.2.2.2.1,h1.2.2.2.2.2.trans h2.2.2.2.2.2⟩
theorem MI.tw {k:Nat} {x:aB} (h:MI k x) (fC:List Int):∀{n:Nat},n<=x.ts.length->MI k (tw fC x n)
  |0,_=>h
  |n+1,hn=>by
    rw [jk];exact(h.tw fC (n:=n) om).tp fC (by rw [(lY fC x n).1];omega)
theorem MI.C0 (h:MI k x):MI k (ki x):=by
  have h1:=h.tw (y7 (rP x) x.g) (n:=x.ts.length) (Nat.le_refl _);exact h1.E6 (h1.ci.af8) (nI _) (fun c hc a ha=> .inl ⟨c,hc,D5 hc ha⟩)
theorem j5 (x:aB):(ki x).ts.length=x.ts.length/\(ki x).lk=x.lk/\(ki x).s=x.s/\(ki x).now=x.now/\(ki x).g=x.g/\(ki x).ev=x.ev:=lY (y7 (rP x) x.g) x x.ts.length
theorem qe (x:aB):(rP x).length=x.ts.length:=List.length_map ..
theorem M4 (h:i<x.ts.length):(rP x).take (i+1)=(rP x).take i++ [D7 (x.ts.getD i default)] :=by
  rw [bQ 0 (by rw [qe];exact h)]
  congr 2
  unfold rP;rw [List.getD_eq_getElem?_getD,List.getD_eq_getElem?_getD,List.getElem?_map,List.getElem?_eq_getElem h];rfl
def Jo {α:Type} [Inhabited α] (f:α->α) (l:List α):Nat->List α
  |0=>l
  |i+1=>(Jo f l i).set i (f (qg (Jo f l i) i))
theorem mR {α:Type} [Inhabited α] (f:α->α) (l:List α):∀i,(Jo f l i).length=l.length
  |0=>rfl
  |i+1=>by unfold Jo;rw [List.length_set];exact mR f l i
theorem AZ {α:Type} [Inhabited α] (f:α->α) (l:List α):∀(i j:Nat),i<=l.length->j<l.length->qg (Jo f l i) j=if j<i then f (qg l j) else qg l j
  |0,j,_,_=>rfl
  |i+1,j,hi,hj=>by
    unfold Jo
    rw [bG (by rw [mR];omega),AZ f l i i om om,if_neg (Nat.lt_irrefl i),AZ f l i j om hj]
    by_cases e:i=j
    ·subst e;rw [if_pos rfl,if_pos (Nat.lt_succ_self i)]
    · rw [if_neg e]
      by_cases e2:j<i
      ·rw [if_pos e2,if_pos om]
      ·rw [if_neg e2,if_neg om]
theorem FA [Inhabited α] (f:α->α) (l:List α):Jo f l l.length=l.map f:=by
  refine List.ext_getElem (by rw [mR,List.length_map]) (fun j h1 h2=>?_);rw [mR] at h1;have:=AZ f l l.length j (Nat.le_refl _) h1;rw [if_pos h1,G9 (by rw [mR];exact h1),G9 h1] at this;rw [this,List.getElem_map]
theorem CI.stl {n k:Nat} {cs:List Qm} (h:CI n k cs):∀{i:Nat},i<=cs.length->CI n k (Jo fQ cs i)
  |0,_=>h
  |i+1,hi=>by
    have h1:=h.stl (i:=i) om;have hl:i<(Jo fQ cs i).length:=by rw [mR];omega
    unfold Jo
    exact h1.set hl (vF (h1.wf.wf i hl)) (by rw [(eY _).1]) (by rw [(eY _).2.2.1];exact h1.rn i hl)
/-! ### an op -/
theorem N0 (ht:t<x.ts.length) (a:Int):gT (zx x t a) t=Gz (gT x t) a:=(dB ht _ t).trans (if_pos rfl)
theorem Tm (ht:t<x.ts.length) (h:(Gz (gT x t) a).lf=0):oW x t a=bR (zx x t a) t (oM (Gz (gT x t) a)):=by
  unfold oW bh;rw [N0 ht];exact if_pos h
theorem VS (ht:t<x.ts.length) (h:¬(Gz (gT x t) a).lf=0):oW x t a=zx x t a:=by
  unfold oW;rw [N0 ht];exact if_neg h
theorem LI.aaw {ls:List bf} (h:∀l,l<ls.length->LI n k (qg ls l)) (t:Int):∀l,l<(ls.map (fun L=>jt L t)).length->LI n (k+1) (qg (ls.map (fun L=>jt L t)) l):=fun l hl=>by
  rw [List.length_map] at hl
  unfold qg;rw [List.getD_eq_getElem?_getD,List.getElem?_map,List.getElem?_eq_getElem hl]
  have:=h l hl
  unfold qg at this;rw [List.getD_eq_getElem?_getD,List.getElem?_eq_getElem hl] at this
  exact this.yw t
/-! ### a lock is taken -/
theorem H8 {l:Nat} (hl:l<x.lk.length) (L:bf):gL (aY x l L) l=L:=by
  show (x.lk.set l L).getD l default=L
  rw [List.getD_eq_getElem?_getD,List.getElem?_set_self hl];rfl
def tq (x:aB) (t:Nat) (l:Nat) (o:bO):Int:=Ah (gL x l) (gT x t).gr (decide (o.k=3))
section
variable {x:aB} {t l:Nat} {o:bO} (ft:o.a=(l:Int))
include ft
theorem A8:Y1 x t o=tq x t l o:=by unfold Y1 tq;rw [ft];rfl
theorem mE:tkE x t o=cV (gL x l) t (tq x t l o):=by unfold tkE;rw [A8 ft,ft];rfl
theorem WQ:tkC x t o=aq (iH x.g (gV (gL x l))) t:=by unfold tkC;rw [ft];rfl
theorem ta (h8:cV (gL x l) t (tq x t l o)=8) (h4:o.k≠4):lG x t o=if aq (iH x.g (gV (gL x l))) t=true then 9 else jF (gL x l) t (tq x t l o):=by
  unfold lG Uc;rw [mE ft,WQ ft,A8 ft,h8,decide_eq_true h4,ft];rfl
theorem wc (h8:¬(cV (gL x l) t (tq x t l o)=8/\o.k≠4)):lG x t o=cV (gL x l) t (tq x t l o):=by
  unfold lG Uc;rw [mE ft,if_neg (by rw [Bool.and_eq_true,decide_eq_true_eq,decide_eq_true_eq];exact h8)]
theorem KM (he:cV (gL x l) t (tq x t l o)=0):mb x t o=(bh (zc (ba (aY x l (cf (gL x l) t (tq x t l o))) 4 t l (dD (gL (aY x l (cf (gL x l) t (tq x t l o))) l) t)) l) t,false):=by
  unfold mb;rw [mE ft,if_pos he];unfold tk0;rw [A8 ft,ft];rfl
theorem Ko (he:cV (gL x l) t (tq x t l o)≠0) (h2:lG x t o≠0):mb x t o=(bh (ba x 8 t l (lG x t o)) t,false):=by
  unfold mb;rw [mE ft,if_neg he,if_pos h2];unfold tk1;rw [ft]
theorem Fy (he:cV (gL x l) t (tq x t l o)≠0) (h2:¬lG x t o≠0):mb x t o=(tk2 x t o,true):=by
  unfold mb;rw [mE ft,if_neg he,if_neg h2]
end
def kV (x:aB) (t l:Nat) (o:bO):aB:=eM (ba (aY x l (du (gL x l) t (tq x t l o))) 6 t l 0) t
theorem ya {l:Nat} {o:bO} (ft:o.a=(l:Int)):tk2 x t o= {bR (kV x t l o) t (wg (gT x t) o x.now) with g:=qt x.g t (gV (gL (kV x t l o) l))} :=by
  unfold tk2;rw [A8 ft,ft];rfl
end Go.Eng
