/- The walk of the document's parser of setups. No condition. -/
import Derived.Test.YtdimfmnimobmfaaGreatM2
import Derived.Test.YtdimfmnimobmfaaGreatM4
import Derived.Test.YtdimfmnimobmfaaGreatM3
set_option linter.unusedVariables false
set_option linter.unusedSimpArgs false
set_option maxRecDepth 100000
set_option maxHeartbeats 4000000
attribute [local irreducible] Go.Eng.LM Go.Eng.LD Go.Eng.KD Go.Eng.af Go.Eng.QM
namespace Go.Eng
open Go Go.Proofs Go.RowKit
def HT (ws:List bC) (i:Nat) (e:Int) (gs:List Int):List Int×Nat×Int:=if gs.length=0 then (if e=0 then gpO ws i e else ([],i,e)) else NU ws i e gs
theorem KO {ws:List bC} {i:Nat} {e:Int} {gs:List Int} (h:(mX ws i e 1 bS||(decide (gs.length=0)&&decide (e=0)))=false):HT ws i e gs=(gs,i,e):=by
  simp only [Bool.or_eq_false_iff,Bool.and_eq_false_iff,decide_eq_false_iff_not] at h
  unfold HT
  by_cases h0:gs.length=0
  · rw [if_pos h0,if_neg (h.2.resolve_left (fun q=>q h0)),List.length_eq_zero_iff.1 h0]
  · rw [if_neg h0,AP h.1]
theorem Ku {ws:List bC} {i:Nat} {e:Int} {gs:List Int} (h:mX ws i e 1 bS=true) (hl:4≤gs.length):HT ws i e gs=(gs,i,6):=by
  unfold HT;rw [if_neg om,LG h hl]
theorem Aa {ws:List bC} {i:Nat} {e:Int} {gs:List Int} (h:(mX ws i e 1 bS||(decide (gs.length=0)&&decide (e=0)))=true) (hl:gs.length<4):HT ws i e gs=HT ws (im ws i e bS 16).1 (im ws i e bS 16).2.1 (gs++ [(im ws i e bS 16).2.2]):=by
  simp only [Bool.or_eq_true,Bool.and_eq_true,decide_eq_true_eq] at h
  unfold HT
  rw [if_neg (show¬(gs++ [(im ws i e bS 16).2.2]).length=0 by simp)]
  by_cases h0:gs.length=0
  · have he:e=0:=h.elim (fun q=>(nG q).2) (fun q=>q.2)
    rw [if_pos h0,if_pos he,List.length_eq_zero_iff.1 h0];rfl
  · rw [if_neg h0,Lb (h.resolve_right (fun q=>h0 q.1)) hl]
theorem yj {ws:List bC} {i0:Nat} {gs:List Int} {i:Nat} {e:Int} (h:HT ws (oP ws i0).1 (oP ws i0).2.1 [] =(gs,i,e)):(sG ws i0).2=(i,e)∧(e=0→sG ws i0=(gs,i,e)):=by
  unfold HT at h
  rw [if_pos (show ([] :List Int).length=0 from rfl)] at h
  unfold sG
  by_cases h0:(oP ws i0).2.1=0
  · rw [if_pos h0] at h;rw [h];exact⟨rfl,fun _=>rfl⟩
  · rw [if_neg h0] at h
    simp only [Prod.mk.injEq] at h;obtain ⟨_,h2,h3⟩:=h;rw [←h2,←h3];refine ⟨?_,fun q=>absurd q h0⟩
    unfold gpO;rw [MY h0];simp only;rw [AP (zq h0)]
theorem Kf {ws:List bC} {i:Nat} {e:Int} {ps:List pF} :H6 ws i e ps=(mX ws i e 1 o4||(decide (ps.length=0)&&decide (e=0))):=by
  unfold H6
  by_cases h:e=0
  · rw [decide_eq_true h,Bool.true_and,Bool.and_true,Bool.or_comm]
  · rw [zq h,decide_eq_false h];simp
structure wT (ws:List bC) (i0:Nat) (gs:List Int) (i1:Nat) (e1:Int) (ls:List ke) (i2:Nat) (e2:Int) (ps:List pF) (pl:List Int) (i3:Nat) (e3:Int):Prop where
  g:(sG ws i0).2=(i1,e1)∧(e1=0→(sG ws i0).1=gs)
  l:G1 ws i1 e1 [] =(ls,i2,e2)
  p:G4 ws i2 e2 [] [] =(ps,pl,i3,e3)
theorem wT.two {ws:List bC} {i0:Nat} {gs:List Int} {i1:Nat} {e1:Int} {ls:List ke} {i2:Nat} {e2:Int} {ps:List pF} {pl:List Int} {i3:Nat} {e3:Int} (h:wT ws i0 gs i1 e1 ls i2 e2 ps pl i3 e3):sL ws i0=(ls,i2,e2)∧sP ws i0=(ps,pl,i3,e3):=by
  have a:sL ws i0=(ls,i2,e2):=by unfold Go.Eng.sL;rw [h.g.1];exact h.l
  exact⟨a,by unfold sP;rw [a];exact h.p⟩
theorem wT.bad {ws:List bC} {i0:Nat} {gs:List Int} {i1:Nat} {e1:Int} {ls:List ke} {i2:Nat} {e2:Int} {ps:List pF} {pl:List Int} {i3:Nat} {e3:Int} (h:wT ws i0 gs i1 e1 ls i2 e2 ps pl i3 e3) (he:e3≠0):tj ws i0=(default,(i3:Int),e3):=by
  unfold tj;rw [h.two.2];simp only;rw [if_pos he]
theorem wT.mis {ws:List bC} {i0:Nat} {gs:List Int} {i1:Nat} {e1:Int} {ls:List ke} {i2:Nat} {e2:Int} {ps:List pF} {pl:List Int} {i3:Nat} {e3:Int} (h:wT ws i0 gs i1 e1 ls i2 e2 ps pl i3 e3) (he:e3=0) {j:Nat} (hj:j<ps.length) (h0:(ps.take j).any (mM ls ps.length)=false) (h1:mM ls ps.length (ps.getD j default)=true):tj ws i0=(default,pl.getD j 0,(Cn (ps.getD j default).fv (ps.getD j default).xs ls (ps.length:Int)).2):=by
  have e:=F5 default h0 hj h1;have e':zi ls ps=(j:Nat):=e
  unfold tj;rw [h.two.2,h.two.1];simp only;rw [if_neg (by simp [he]),e',if_pos om,Int.toNat_natCast]
  unfold Oi;rw [if_neg om,Int.toNat_natCast]
theorem wT.ok {ws:List bC} {i0:Nat} {gs:List Int} {i1:Nat} {e1:Int} {ls:List ke} {i2:Nat} {e2:Int} {ps:List pF} {pl:List Int} {i3:Nat} {e3:Int} (h:wT ws i0 gs i1 e1 ls i2 e2 ps pl i3 e3) (he:e3=0) (h0:ps.any (mM ls ps.length)=false):tj ws i0=(⟨(sA ws i0).2.2,(oP ws i0).2.2,gs,ls,ps⟩,(i3:Int),0):=by
  have z2:e2=0:=by
    have:=qN (ws:=ws) _ i2 e2 [] [] (by have:=h.p;unfold G4 at this;rw [this];exact he);exact this
  have z1:e1=0:=by
    have:=qe (ws:=ws) _ i1 e1 [] (by have:=h.l;unfold G1 at this;rw [this];exact z2);exact this
  have e':zi ls ps= -1:=qV h0
  unfold tj;rw [h.two.2,h.two.1];simp only;rw [if_neg (by simp [he]),e',if_neg (by decide),h.g.2 z1]
theorem PF {ws:List bC} {i:Nat} (h:i≤ws.length):0≤(dG ws (i:Int)).2.2.1∧(dG ws (i:Int)).2.2.1.toNat≤ws.length:=by
  have key:∀(f i:Nat) (ops:List da),i≤ws.length→0≤(nN f ws i ops).2.1∧(nN f ws i ops).2.1.toNat≤ws.length:=by
    intro f
    induction f with
    |zero=>intro i ops hi;exact⟨by show (0:Int)≤(i:Int);omega,by show ((i:Int)).toNat≤_;omega⟩
    |succ f ih=>
      intro i ops hi
      unfold nN
      split
      · rename_i q
        have:=oe q
        split
        · exact⟨by show (0:Int)≤(i:Int);omega,by show ((i:Int)).toNat≤_;omega⟩
        · exact⟨by show (0:Int)≤((i+1:Nat):Int);omega,by show (((i+1:Nat):Int)).toNat≤_;omega⟩
      · have hp:=Pn (k:=ops.length) hi
        split
        · exact⟨by show (0:Int)≤((l9 ws i ops.length).1:Int);omega,by show (((l9 ws i ops.length).1:Int)).toNat≤_;omega⟩
        · exact ih _ _ hp
  rw [rR h];simp only
  unfold j7
  split
  · rename_i q
    have:=oe q
    have hh:(dw ws i).2≤ws.length:=by
      unfold dw;simp only;split
      · rename_i q;have:=oe q;omega
      · omega
    split
    · rename_i q2
      have:=oe q2;exact key _ _ _ om
    · exact⟨by show (0:Int)≤((dw ws i).2:Int);omega,by show (((dw ws i).2:Int)).toNat≤_;omega⟩
  · exact⟨by show (0:Int)≤(i:Int);omega,by show ((i:Int)).toNat≤_;omega⟩
def Mh (r:km×Int×Int) (n0:Nat) (v:Value) (m:aa):Prop:=∃sv:eM,v= .tuple #[sv.val,.int .i64 r.2.1,.int .i64 r.2.2]∧sv.C=r.1∧∀w,Mem w m→sv.In w
theorem Mh.mono {r:km×Int×Int} :∀(k k':Nat) u m,k'≤k→Mh r k u m→Mh r k' u m:=fun k k' u m h q=>q
theorem Mh.none {p e:Int} {n0:Nat} :Mh (default,p,e) n0 (.tuple #[(default:eM).val,.int .i64 p,.int .i64 e]) [] :=
  ⟨default,rfl,rfl,fun w _=>⟨rfl,.nil _ _ _,rfl,.nil _ _ _,rfl,.nil _ _ _,fun p hp=>by cases hp⟩⟩
abbrev sO (c g:Int) (ga:Option Addr) (gn gc:Nat) (la:Option Addr) (ln lc:Nat) (pa:Option Addr) (pn pc:Nat):Obj:= .cells #[.int .i64 c,.int .i64 g,.slice ga gn gc,.slice la ln lc,.slice pa pn pc] 30 (0,0)
abbrev z0:Obj:=sO 0 0 none 0 0 none 0 0 none 0 0
theorem Mf {ps:List mI} {p:mI} :(ps++ [p]).map mI.c=ps.map mI.c++ [p.c] :=by simp
theorem NH {ps:List mI} {p:mI} {w:World} (h:sz ps w) (k:p.In w):sz (ps++ [p]) w:=fun q hq=>by
  rcases List.mem_append.1 hq with hq|hq
  · exact h q hq
  · rw [List.mem_singleton] at hq;subst hq;exact k
theorem re {α:Type} {f:α→List Value} {E s n0:Nat} {xs:List α} {v:Value} {m:aa} {w:World} (h:Sl f E s n0 xs v m) (hf:∀a,(f a).length=s) (hm:Mem w m):Sr f s xs v w:=h.sr hf (fun p hp=>hm.2 p hp)
theorem FE (n:Nat):decide ((n:Int)=0)=decide (n=0):=decide_eq_decide.2 om
set_option maxHeartbeats 4000000 in
theorem B3 {ws:List bC} {ad:Option Addr} {n cap:Nat} (p:Int) (w:World) (hn:n=ws.length) (hx:ws.length≤1000000000) (hl:Sr fW 4 ws (.slice ad n cap) w):aJ Tryz.prog 45 #[.slice ad n cap,.int .i64 p] w (fun v w'=>Ext w w'∧∃m,Mh (kK ws p) w.heap.size v m∧Mem w' m∧∀p∈m,w.heap.size≤p.1):=by
 refine aJ.au Tryz.func45 rfl Tryz.ntmps45 rfl ([]) (no) (Mem.nil w) ?_;refine J2 ?_;refine LM.alloc Tryz.zeroValue30 rfl (fun b4 DT=>?_);refine cf ?_;refine LM.ar (t:=19) rfl (fun h1=>?_) (fun h1=>?_)
 ·refine cf ?_;refine LM.val (aD (cs:=#[_,_,_,_,_]) rfl (by first|rfl|kernel_rfl)) ?_;refine LM.dC Tryz.sizeOf30 rfl rfl rfl rfl dD cn ?_;refine J6 ?_;refine QM.aV (ds:=([])) (.inl rfl) [.cell 4 30,.tmp 5,.tmp 6] Tryz.results45 bh (cN rfl Tryz.isAgg30 Tryz.sizeOf30 rfl (aU rfl (aU rfl bn))) ?_;intro w' aq ab;have vm:kK ws p=(default,0,5):=(by unfold kK;rw [if_pos om]);rw [vm];exact⟨ab,[],Mh.none,Mem.nil _,fun p hp=>by cases hp⟩
 refine J7 ?_;refine af.aj rfl (fun h2=>?_) (fun h2=>?_)
 ·refine J2 ?_;refine LM.val (aD (cs:=#[_,_,_,_,_]) rfl (by first|rfl|kernel_rfl)) ?_;refine LM.dC Tryz.sizeOf30 rfl rfl rfl rfl dD cn ?_;refine J6 ?_;refine QM.aV (ds:=([])) (.inl rfl) [.cell 4 30,.tmp 5,.tmp 6] Tryz.results45 bh (cN rfl Tryz.isAgg30 Tryz.sizeOf30 rfl (aU rfl (aU rfl bn))) ?_;intro w' aq ab;have vm:kK ws p=(default,0,5):=(by unfold kK;rw [if_pos om]);rw [vm];exact⟨ab,[],Mh.none,Mem.nil _,fun p hp=>by cases hp⟩
 obtain ⟨i0,rfl⟩:∃i0:Nat,p=(i0:Nat):=⟨p.toNat,by omega⟩;have r6:i0≤ws.length:=om;refine J6 ?_;refine LM.val (aD (cs:=#[_,_,_]) rfl (by first|rfl|kernel_rfl)) ?_;refine LM.box rfl rfl (fun kI Yw=>?_);refine J5 ?_;have qM:0<ws.length→iL ad≠kI:=(fun h0=>by have:=hl.acP h0;omega)
 refine LM.val (aD (cs:=#[_,_,_,_,_]) rfl (by first|rfl|kernel_rfl)) ?_;refine LM.alloc Tryz.zeroValue30 rfl (fun b8 L4=>?_);refine LM.dC Tryz.sizeOf30 rfl rfl rfl rfl dD cn ?_;refine J5 ?_;refine LM.cW (oC Tryz.func81) (fun w hm hc hg=>df kI i0 0 4 zw w hn hx (hl.ext hc) qM (sm hm)) rfl cn ?_;refine J1 ?_;refine LM.st Tryz.sizeOf3 rfl rfl rfl ez rfl cn ?_;refine J5 ?_;refine LM.cW (oC Tryz.func82) (fun w hm hc hg=>fC kI (du ws i0 0 zw 4).1 (du ws i0 0 zw 4).2.1 3 [59] w hn hx (hl.ext hc) qM (sm hm)) rfl cn ?_;refine J5 ?_;refine LM.cW (oC Tryz.func81) (fun w hm hc hg=>df kI (sA ws i0).1 (sA ws i0).2.1 8 x7 w hn hx (hl.ext hc) qM (sm hm)) rfl cn ?_;refine J1 ?_;refine LM.st Tryz.sizeOf3 rfl rfl rfl ez rfl cn ?_;refine J5 ?_;refine LM.cW (oC Tryz.func82) (fun w hm hc hg=>fC kI (du ws (sA ws i0).1 (sA ws i0).2.1 x7 8).1 (du ws (sA ws i0).1 (sA ws i0).2.1 x7 8).2.1 3 [59] w hn hx (hl.ext hc) qM (sm hm)) rfl cn ?_;refine J3 ?_;refine af.bH (α:=Nat×Int×List Int×Option Addr×Nat×Nat×aa) (fun ⟨i1,e1,gs,kL,ng,cg,mg⟩=>[]) [(0,_),(4,_),(7,_),(8,_)] (fun ⟨i1,e1,gs,kL,ng,cg,mg⟩=>mg++qB kI ad n cap i1 e1::(b8,sO (sA ws i0).2.2 (oP ws i0).2.2 kL ng cg none 0 0 none 0 0)::(b4,z0):: []) (fun ⟨i1,e1,gs,kL,ng,cg,mg⟩=>HT ws (oP ws i0).1 (oP ws i0).2.1 [] =(gs,i1,e1)∧i1≤ws.length∧gs.length≤4∧ng=gs.length∧Sl fI 3 1 w.heap.size gs (.slice kL ng cg) mg) cm ?_ ?_
 ·refine J1 ?_;refine af.aS (α:=Nat×Int×List Int×Option Addr×Nat×Nat×aa) (fun ⟨i,e,gs,kL,ng,cg,mg⟩=>[]) [(0,_),(4,_),(7,_),(8,_)] (fun ⟨i,e,gs,kL,ng,cg,mg⟩=>mg++qB kI ad n cap i e::(b8,sO (sA ws i0).2.2 (oP ws i0).2.2 kL ng cg none 0 0 none 0 0)::(b4,z0):: []) (fun ⟨i,e,gs,kL,ng,cg,mg⟩=>HT ws i e gs=HT ws (oP ws i0).1 (oP ws i0).2.1 []∧i≤ws.length∧gs.length≤4∧ng=gs.length∧Sl fI 3 1 w.heap.size gs (.slice kL ng cg) mg) (fun ⟨i,e,gs,kL,ng,cg,mg⟩=>5-gs.length) (((oP ws i0).1,(oP ws i0).2.1,[],none,0,0,[])) cm aX ⟨rfl,yb (yb om),by decide,rfl,.nil _ _ _ _⟩ ?_;rintro ⟨i,e,gs,kL,ng,cg,mg⟩ ⟨hG,hi,U1,Ea,B9⟩;change af _ _ _ _ _ _ _ (mg++qB kI ad n cap i e::(b8,sO (sA ws i0).2.2 (oP ws i0).2.2 kL ng cg none 0 0 none 0 0)::(b4,z0):: []) _ _ _;refine J2 ?_;refine af.bH (α:=Bool) (fun q=>[(55,.bool q)]) [(0,_),(4,_),(7,_),(8,_)] (fun q=>mg++qB kI ad n cap i e::(b8,sO (sA ws i0).2.2 (oP ws i0).2.2 kL ng cg none 0 0 none 0 0)::(b4,z0):: []) (fun q=>q=(mX ws i e 1 bS||(decide ((ng:Int)=0)&&decide (e=0)))) cm ?_ ?_
  ·refine J2 ?_;refine cE Tryz.func83 rfl (fun w hm hc hg=>jm kI i e 1 bS w hn (hl.ext hc) (sm hm)) ?_;refine J1 ?_;refine LM.bw (t:=43) rfl (fun h3=>?_) (fun h3=>?_)
   ·refine J4 ?_;refine LM.db (t:=43) rfl rfl rfl ?_;refine J8 ?_;refine mK (_) ?_
    · (simp [h1,h2,h3];done)
   refine J6 ?_;refine LM.ar (t:=48) rfl (fun h4=>?_) (fun h4=>?_)
   ·refine J9 ?_;refine mK (_) ?_
    · (simp [h1,h2,h3,h4];done)
   refine J8 ?_;refine mK (_) ?_
   · (have h0:=decide_eq_false (show¬((ng:Nat):Int)=0 by omega);simp only [h0,h1,h2,h3,h4,Bool.false_and,Bool.or_false];rfl)
  rintro q hq;change QM _ _ _ _ _ (mg++qB kI ad n cap i e::(b8,sO (sA ws i0).2.2 (oP ws i0).2.2 kL ng cg none 0 0 none 0 0)::(b4,z0):: []) _ _ _;refine J1 ?_;refine af.aW rfl (fun h5=>?_) (fun h5=>?_)
  ·have hQ:(mX ws i e 1 bS||(decide (gs.length=0)&&decide (e=0)))=true:=(by rw [←h5,hq,Ea,FE])
   refine J7 ?_;refine cE Tryz.func83 rfl (fun w hm hc hg=>jm kI i e 1 bS w hn (hl.ext hc) (sm hm)) ?_;refine J1 ?_;refine LM.bw (t:=58) rfl (fun h6=>?_) (fun h6=>?_)
   ·refine J6 ?_;refine LM.cW (oC Tryz.func84) (fun w hm hc hg=>pL (ws:=ws) kI i e (ng:Nat) 4 w (sm hm)) rfl cn ?_;refine J3 ?_;refine af.aW rfl (fun h7=>?_) (fun h7=>?_)
    ·have Ep:=(nG h6).2;have h4:(4:Int)≤(ng:Nat):=(by simpa [Ep] using h7);rw [if_pos ⟨Ep,h4⟩];refine J5 ?_;refine mK ((i,6,gs,kL,ng,cg,mg)) ?_
     · exact⟨by rw [←hG];exact Ku h6 om,hi,U1,Ea,B9⟩
    have h4:¬(4:Int)≤(ng:Nat):=(fun q=>by rw [decide_eq_true q] at h7;simp at h7);rw [if_neg (fun q=>h4 q.2)];refine J3 ?_;refine af.keep ((b8,_):: []) (fun _=>True) (.one 0 0 (.one 1 1 (.one 2 0 (.one 3 2 (.one 4 2 (.one 5 2 (.one 6 0 (.last 7)))))))) kr kr aX (fun _ _=>trivial) ?_;refine J4 ?_;refine LM.cW (oC Tryz.func81) (fun w hm hc hg=>df kI i e 16 bS w hn hx (hl.ext hc) qM (sm hm)) rfl cn ?_;refine J3 ?_;refine LM.single Tryz.underlying26 Tryz.sizeOf3 Tryz.zeroValue3 rfl rfl rfl rfl rfl (fun b69 acq=>?_);refine J3 ?_;refine LM.app (a:=(du ws i e bS 16).2.2) Tryz.underlying26 Tryz.typeInfo3 rfl rfl rfl rfl rfl rfl rfl aA (by rfl) ir (by intro _ u hu;simp [fI] at hu;(repeat (first|(rcases hu with rfl|hu)|subst hu|rfl))) (by first|exact Nat.le_refl _|omega) jn (by first|omega|(unfold maxLen;omega)) (by simp only [Tryz.t3];omega) (fun Rj n70 La Za SV Sh JS=>?_);refine J3 ?_;refine KD.last rfl ?_;refine LM.st Tryz.sizeOf26 rfl rfl rfl ez rfl cn ?_;refine J1 ?_;refine QM.qn ?_;refine J3 ?_;refine LM.cW (oC Tryz.func82) (fun w hm hc hg=>fC kI (du ws i e bS 16).1 (du ws i e bS 16).2.1 3 [59] w hn hx (hl.ext hc) qM (sm hm)) rfl cn ?_;refine J2 ?_;refine aK (((im ws i e bS 16).1,(im ws i e bS 16).2.1,gs++ [(im ws i e bS 16).2.2],Rj,n70,La,Za)) ?_ ?_
    · exact⟨by rw [←Aa hQ om];exact hG,yb hi,by simp;omega,by rw [SV];simp,Sh⟩
    · dsimp only;rw [List.length_append,List.length_singleton];omega
   have hg0:gs.length=0:=(by have h:=hQ;simp only [h6,Bool.false_or,Bool.and_eq_true,decide_eq_true_eq] at h;exact h.1)
   refine cL ?_;refine af.keep ((b8,_):: []) (fun _=>True) (.one 0 0 (.one 1 1 (.one 2 0 (.one 3 2 (.one 4 2 (.one 5 2 (.one 6 0 (.last 7)))))))) kr kr aX (fun _ _=>trivial) ?_;refine J4 ?_;refine LM.cW (oC Tryz.func81) (fun w hm hc hg=>df kI i e 16 bS w hn hx (hl.ext hc) qM (sm hm)) rfl cn ?_;refine J3 ?_;refine LM.single Tryz.underlying26 Tryz.sizeOf3 Tryz.zeroValue3 rfl rfl rfl rfl rfl (fun b69 acq=>?_);refine J3 ?_;refine LM.app (a:=(du ws i e bS 16).2.2) Tryz.underlying26 Tryz.typeInfo3 rfl rfl rfl rfl rfl rfl rfl aA (by rfl) ir (by intro _ u hu;simp [fI] at hu;(repeat (first|(rcases hu with rfl|hu)|subst hu|rfl))) (by first|exact Nat.le_refl _|omega) jn (by first|omega|(unfold maxLen;omega)) (by simp only [Tryz.t3];omega) (fun Rj n70 La Za SV Sh JS=>?_);refine J3 ?_;refine KD.last rfl ?_;refine LM.st Tryz.sizeOf26 rfl rfl rfl ez rfl cn ?_;refine J1 ?_;refine QM.qn ?_;refine J3 ?_;refine LM.cW (oC Tryz.func82) (fun w hm hc hg=>fC kI (du ws i e bS 16).1 (du ws i e bS 16).2.1 3 [59] w hn hx (hl.ext hc) qM (sm hm)) rfl cn ?_;refine J2 ?_;refine aK (((im ws i e bS 16).1,(im ws i e bS 16).2.1,gs++ [(im ws i e bS 16).2.2],Rj,n70,La,Za)) ?_ ?_
   · exact⟨by rw [←Aa hQ om];exact hG,yb hi,by simp;omega,by rw [SV];simp,Sh⟩
   · dsimp only;rw [List.length_append,List.length_singleton];omega
  refine J4 ?_;refine mK ((i,e,gs,kL,ng,cg,mg)) ?_
  · exact⟨by rw [←hG];exact KO (by rw [←h5,hq,Ea,FE]),hi,U1,Ea,B9⟩
 rintro ⟨i1,e1,gs,kL,ng,cg,mg⟩ ⟨hG,WU,U1,Ea,B9⟩;change QM _ _ _ _ _ (mg++qB kI ad n cap i1 e1::(b8,sO (sA ws i0).2.2 (oP ws i0).2.2 kL ng cg none 0 0 none 0 0)::(b4,z0):: []) _ _ _;refine J2 ?_;refine af.bH (α:=Nat×Int×List ke×Option Addr×Nat×Nat×aa) (fun ⟨i2,e2,ls,r7,nl,cl,ml⟩=>[]) [(0,_),(4,_),(7,_),(8,_)] (fun ⟨i2,e2,ls,r7,nl,cl,ml⟩=>ml++(mg++(qB kI ad n cap i2 e2::(b8,sO (sA ws i0).2.2 (oP ws i0).2.2 kL ng cg r7 nl cl none 0 0)::(b4,z0):: []))) (fun ⟨i2,e2,ls,r7,nl,cl,ml⟩=>G1 ws i1 e1 [] =(ls,i2,e2)∧i2≤ws.length∧ls.length≤8∧nl=ls.length∧Sl fL 83 5 w.heap.size ls (.slice r7 nl cl) ml) cm ?_ ?_
 ·refine J1 ?_;refine af.aS (α:=Nat×Int×List ke×Option Addr×Nat×Nat×aa) (fun ⟨i,e,ls,r7,nl,cl,ml⟩=>[]) [(0,_),(4,_),(7,_),(8,_)] (fun ⟨i,e,ls,r7,nl,cl,ml⟩=>ml++(mg++(qB kI ad n cap i e::(b8,sO (sA ws i0).2.2 (oP ws i0).2.2 kL ng cg r7 nl cl none 0 0)::(b4,z0):: []))) (fun ⟨i,e,ls,r7,nl,cl,ml⟩=>G1 ws i e ls=G1 ws i1 e1 []∧i≤ws.length∧ls.length≤8∧nl=ls.length∧Sl fL 83 5 w.heap.size ls (.slice r7 nl cl) ml) (fun ⟨i,e,ls,r7,nl,cl,ml⟩=>9-ls.length) ((i1,e1,[],none,0,0,[])) cm aX ⟨rfl,WU,by decide,rfl,.nil _ _ _ _⟩ ?_;rintro ⟨i,e,ls,r7,nl,cl,ml⟩ ⟨hL,hi,NV,vr,fY⟩;change af _ _ _ _ _ _ _ (ml++(mg++(qB kI ad n cap i e::(b8,sO (sA ws i0).2.2 (oP ws i0).2.2 kL ng cg r7 nl cl none 0 0)::(b4,z0):: []))) _ _ _;refine J2 ?_;refine af.bH (α:=Bool) (fun q=>[(79,.bool q)]) [(0,_),(4,_),(7,_),(8,_)] (fun q=>ml++(mg++(qB kI ad n cap i e::(b8,sO (sA ws i0).2.2 (oP ws i0).2.2 kL ng cg r7 nl cl none 0 0)::(b4,z0):: []))) (fun q=>q=Jd ws i e) cm ?_ ?_
  ·refine J2 ?_;refine cE Tryz.func83 rfl (fun w hm hc hg=>jm kI i e 1 QA w hn (hl.ext hc) (sm hm)) ?_;refine J1 ?_;refine LM.bw (t:=76) rfl (fun h8=>?_) (fun h8=>?_)
   ·refine J4 ?_;refine mK (_) ?_
    · simp [Jd,h1,h2,h8]
   refine J2 ?_;refine cE Tryz.func83 rfl (fun w hm hc hg=>jm kI i e 1 ew w hn (hl.ext hc) (sm hm)) ?_;refine J2 ?_;refine mK (_) ?_
   · simp [Jd,h1,h2,h8]
  rintro q hq;change QM _ _ _ _ _ (ml++(mg++(qB kI ad n cap i e::(b8,sO (sA ws i0).2.2 (oP ws i0).2.2 kL ng cg r7 nl cl none 0 0)::(b4,z0):: []))) _ _ _;refine J1 ?_;refine af.aW rfl (fun h9=>?_) (fun h9=>?_)
  ·have hQ:Jd ws i e=true:=(by rw [←hq,h9]);have Ep:=(yX hQ).2;have bB:=(yX hQ).1;refine cf ?_;refine LM.cW (oC Tryz.func84) (fun w hm hc hg=>pL (ws:=ws) kI i e (nl:Nat) 8 w (sm hm)) rfl cn ?_;refine J2 ?_;refine af.aW rfl (fun iT=>?_) (fun iT=>?_)
   ·have h4:(8:Int)≤(nl:Nat):=(by simpa [Ep] using iT);rw [if_pos ⟨Ep,h4⟩];refine J5 ?_;refine mK ((i,6,ls,r7,nl,cl,ml)) ?_
    · exact⟨by rw [←hL];exact IK hQ om,hi,NV,vr,fY⟩
   have h4:¬(8:Int)≤(nl:Nat):=(fun q=>by rw [decide_eq_true q] at iT;simp at iT);rw [if_neg (fun q=>h4 q.2)];refine J5 ?_;refine cE Tryz.func83 rfl (fun w hm hc hg=>jm kI i e 1 ew w hn (hl.ext hc) (sm hm)) ?_;refine cL ?_;refine LM.st Tryz.sizeOf3 rfl rfl rfl ez rfl cn ?_;refine J2 ?_;refine af.keep ((b8,_):: []) (fun _=>True) (.one 0 0 (.one 1 1 (.one 2 0 (.one 3 0 (.one 4 2 (.one 5 2 (.one 6 2 (.one 7 0 (.last 8))))))))) kr kr aX (fun _ _=>trivial) ?_;refine J5 ?_;refine LM.cW (oC Tryz.func85) (fun w hm hc hg=>CX (mX ws i e 1 ew) kI (i+1) e w hn hx (hl.ext hc) qM (sm hm)) rfl cn ?_;refine J3 ?_;refine LM.single Tryz.underlying27 Tryz.sizeOf83 Tryz.zeroValue83 rfl rfl rfl rfl rfl (fun b99 aiC=>?_);refine J3 ?_;refine LM.app (a:=(jQ ws (mX ws i e 1 ew) (i+1) e).2.2) Tryz.underlying27 Tryz.typeInfo83 rfl rfl rfl rfl rfl rfl rfl aA (by rfl) ir (by intro _ u hu;simp [fL] at hu;(repeat (first|(rcases hu with rfl|hu)|subst hu|rfl))) (by first|exact Nat.le_refl _|omega) jn (by first|omega|(unfold maxLen;omega)) (by simp only [Tryz.t83];omega) (fun VT acg Tp aaI XZ YY aaD=>?_);refine J3 ?_;refine KD.last rfl ?_;refine LM.st Tryz.sizeOf27 rfl rfl rfl ez rfl cn ?_;refine J1 ?_;refine QM.qn ?_;refine J1 ?_;refine aK (((jQ ws (mX ws i e 1 ew) (i+1) e).1,(jQ ws (mX ws i e 1 ew) (i+1) e).2.1,ls++ [(jQ ws (mX ws i e 1 ew) (i+1) e).2.2],VT,acg,Tp,aaI)) ?_ ?_
   · exact⟨by rw [←II hQ om];exact hL,Ta om,by simp;omega,by rw [XZ];simp,YY⟩
   · dsimp only;rw [List.length_append,List.length_singleton];omega
  refine J4 ?_;refine mK ((i,e,ls,r7,nl,cl,ml)) ?_
  · exact⟨by rw [←hL];exact Ju (by rw [←hq,h9]),hi,NV,vr,fY⟩
 rintro ⟨i2,e2,ls,r7,nl,cl,ml⟩ ⟨hL,Zs,NV,vr,fY⟩;change QM _ _ _ _ _ (ml++(mg++(qB kI ad n cap i2 e2::(b8,sO (sA ws i0).2.2 (oP ws i0).2.2 kL ng cg r7 nl cl none 0 0)::(b4,z0):: []))) _ _ _;refine J7 ?_;refine af.bH (α:=Nat×Int×List mI×Option Addr×Nat×Nat×aa×List Int×Option Addr×Nat×Nat×aa×aa) (fun ⟨i3,e3,ps,wI,np,cp,mp,pl,mH,nq,cq,mq,mo⟩=>[(10,.slice mH nq cq)]) [(4,_),(7,_),(8,_)] (fun ⟨i3,e3,ps,wI,np,cp,mp,pl,mH,nq,cq,mq,mo⟩=>mo++(mp++(mq++(ml++(mg++(qB kI ad n cap i3 e3::(b8,sO (sA ws i0).2.2 (oP ws i0).2.2 kL ng cg r7 nl cl wI np cp)::(b4,z0):: [])))))) (fun ⟨i3,e3,ps,wI,np,cp,mp,pl,mH,nq,cq,mq,mo⟩=>G4 ws i2 e2 [] [] =(ps.map mI.c,pl,i3,e3)∧i3≤ws.length∧ps.length≤8∧np=ps.length∧Sl V5 117 2 w.heap.size ps (.slice wI np cp) mp∧pl.length=ps.length∧nq=pl.length∧Sl fI 3 1 w.heap.size pl (.slice mH nq cq) mq∧(∀w,Mem w mo→sz ps w)∧(∀p∈mo,w.heap.size≤p.1)) cm ?_ ?_
 ·refine J1 ?_;refine af.aS (α:=Nat×Int×List mI×Option Addr×Nat×Nat×aa×List Int×Option Addr×Nat×Nat×aa×aa) (fun ⟨i,e,ps,wI,np,cp,mp,pl,mH,nq,cq,mq,mo⟩=>[(10,.slice mH nq cq)]) [(0,_),(4,_),(7,_),(8,_)] (fun ⟨i,e,ps,wI,np,cp,mp,pl,mH,nq,cq,mq,mo⟩=>mo++(mp++(mq++(ml++(mg++(qB kI ad n cap i e::(b8,sO (sA ws i0).2.2 (oP ws i0).2.2 kL ng cg r7 nl cl wI np cp)::(b4,z0):: [])))))) (fun ⟨i,e,ps,wI,np,cp,mp,pl,mH,nq,cq,mq,mo⟩=>G4 ws i e (ps.map mI.c) pl=G4 ws i2 e2 [] []∧i≤ws.length∧ps.length≤8∧np=ps.length∧Sl V5 117 2 w.heap.size ps (.slice wI np cp) mp∧pl.length=ps.length∧nq=pl.length∧Sl fI 3 1 w.heap.size pl (.slice mH nq cq) mq∧(∀w,Mem w mo→sz ps w)∧(∀p∈mo,w.heap.size≤p.1)) (fun ⟨i,e,ps,wI,np,cp,mp,pl,mH,nq,cq,mq,mo⟩=>9-ps.length) ((i2,e2,[],none,0,0,[],[],none,0,0,[],[])) cm aX ⟨rfl,Zs,by decide,rfl,.nil _ _ _ _,rfl,rfl,.nil _ _ _ _,(fun w _ p hp=>by cases hp),(fun p hp=>by cases hp)⟩ ?_;rintro ⟨i,e,ps,wI,np,cp,mp,pl,mH,nq,cq,mq,mo⟩ ⟨hP,hi,ZI,MU,OH,NL,BC,z9,lL,VA⟩;change af _ _ _ _ _ _ _ (mo++(mp++(mq++(ml++(mg++(qB kI ad n cap i e::(b8,sO (sA ws i0).2.2 (oP ws i0).2.2 kL ng cg r7 nl cl wI np cp)::(b4,z0):: [])))))) _ _ _;refine J2 ?_;refine af.bH (α:=Bool) (fun q=>[(116,.bool q)]) [(0,_),(4,_),(7,_),(8,_),(10,_)] (fun q=>mo++(mp++(mq++(ml++(mg++(qB kI ad n cap i e::(b8,sO (sA ws i0).2.2 (oP ws i0).2.2 kL ng cg r7 nl cl wI np cp)::(b4,z0):: [])))))) (fun q=>q=(mX ws i e 1 o4||(decide ((np:Int)=0)&&decide (e=0)))) cm ?_ ?_
  ·refine J2 ?_;refine cE Tryz.func83 rfl (fun w hm hc hg=>jm kI i e 1 o4 w hn (hl.ext hc) (sm hm)) ?_;refine J1 ?_;refine LM.bw (t:=104) rfl (fun kg=>?_) (fun kg=>?_)
   ·refine J4 ?_;refine LM.db (t:=104) rfl rfl rfl ?_;refine J8 ?_;refine mK (_) ?_
    · (simp [h1,h2,kg];done)
   refine J6 ?_;refine LM.ar (t:=109) rfl (fun gJ=>?_) (fun gJ=>?_)
   ·refine J9 ?_;refine mK (_) ?_
    · (simp [h1,h2,kg,gJ];done)
   refine J8 ?_;refine mK (_) ?_
   · (have h0:=decide_eq_false (show¬((np:Nat):Int)=0 by omega);simp only [h0,h1,h2,kg,gJ,Bool.false_and,Bool.or_false];rfl)
  rintro q hq;change QM _ _ _ _ _ (mo++(mp++(mq++(ml++(mg++(qB kI ad n cap i e::(b8,sO (sA ws i0).2.2 (oP ws i0).2.2 kL ng cg r7 nl cl wI np cp)::(b4,z0):: [])))))) _ _ _;refine J1 ?_;refine af.aW rfl (fun ow=>?_) (fun ow=>?_)
  ·have hQ:H6 ws i e (ps.map mI.c)=true:=(by rw [Kf,List.length_map,←ow,hq,MU,FE]);have Ep:=va hQ;refine cf ?_;refine LM.cW (oC Tryz.func84) (fun w hm hc hg=>pL (ws:=ws) kI i e (np:Nat) 8 w (sm hm)) rfl cn ?_;refine J2 ?_;refine af.aW rfl (fun jt=>?_) (fun jt=>?_)
   ·have h4:(8:Int)≤(np:Nat):=(by simpa [Ep] using jt);rw [if_pos ⟨Ep,h4⟩];refine J5 ?_;refine mK ((i,6,ps,wI,np,cp,mp,pl,mH,nq,cq,mq,mo)) ?_
    · exact⟨by rw [←hP];exact Ma hQ (by simp;omega),hi,ZI,MU,OH,NL,BC,z9,lL,VA⟩
   have h4:¬(8:Int)≤(np:Nat):=(fun q=>by rw [decide_eq_true q] at jt;simp at jt);rw [if_neg (fun q=>h4 q.2)];refine J9 ?_;refine LM.single Tryz.underlying26 Tryz.sizeOf3 Tryz.zeroValue3 rfl rfl rfl rfl rfl (fun akw agm=>?_);refine LM.app (a:=(i:Int)) Tryz.underlying26 Tryz.typeInfo3 rfl rfl rfl rfl rfl rfl rfl aA (by rfl) ir (by intro _ u hu;simp [fI] at hu;(repeat (first|(rcases hu with rfl|hu)|subst hu|rfl))) (by first|exact Nat.le_refl _|omega) jn (by first|omega|(unfold maxLen;omega)) (by simp only [Tryz.t3];omega) (fun Y6 aca TD abK X7 WG adW=>?_);refine cf ?_;refine LM.iK (oC Tryz.func86) CS.mono (fun w hm hc hg=>BA (i:Nat) w hn hx (hl.ext hc)) ?_;rintro Xf LU ⟨Qk,Yc,Kk,rfl,XV,Wv⟩ RL;have Qw:=PF hi;obtain ⟨j9,hj9⟩:∃j:Nat,(dG ws (i:Int)).2.2.1=(j:Int):=⟨_,(Int.toNat_of_nonneg Qw.1).symm⟩;rw [hj9];refine J4 ?_;refine LM.alloc Tryz.zeroValue117 rfl (fun b11 aeg=>?_);refine LM.dC Tryz.sizeOf117 rfl rfl rfl rfl dD cn ?_;refine J8 ?_;refine LM.rd (bo Tryz.isAgg117 Tryz.sizeOf117 rfl rfl) ?_;refine LM.single Tryz.underlying28 Tryz.sizeOf117 Tryz.zeroValue117 rfl rfl rfl rfl rfl (fun ah9 agf=>?_);refine LM.app (a:=(⟨prC (dG ws (i:Int)),Qk,Yc,Kk⟩:mI)) Tryz.underlying28 Tryz.typeInfo117 rfl rfl rfl rfl rfl rfl rfl aA (by rfl) ir (by intro _ u hu;simp [V5] at hu;(repeat (first|(rcases hu with rfl|hu)|subst hu|rfl))) (by first|exact Nat.le_refl _|omega) jn (by first|omega|(unfold maxLen;omega)) (by simp only [Tryz.t117];omega) (fun Yo aaS Tl acy XX Wi abG=>?_);refine J1 ?_;refine LM.st Tryz.sizeOf28 rfl rfl rfl ez rfl cn ?_;refine J8 ?_;refine LM.st Tryz.sizeOf3 rfl rfl rfl ez rfl cn ?_;refine J7 ?_;refine LM.st Tryz.sizeOf3 rfl rfl rfl ez rfl cn ?_;refine J2 ?_;refine aK ((j9,(dG ws (i:Int)).2.2.2,ps++ [(⟨prC (dG ws (i:Int)),Qk,Yc,Kk⟩:mI)],Yo,aaS,Tl,acy,pl++ [(i:Int)],Y6,aca,TD,abK,LU++mo)) ?_ ?_
   · exact⟨by rw [Mf,←hP,IL hQ (by simp;omega),hj9,Int.toNat_natCast],by have:=Qw.2;rw [hj9,Int.toNat_natCast] at this;exact this,by simp;omega,by rw [XX];simp,Wi,by simp [NL],by rw [X7];simp,WG,(fun w hm=>NH (lL w (hm.sub (List.sublist_append_right _ _))) ⟨XV,re Wv (fun _=>rfl) (hm.sub (List.sublist_append_left _ _))⟩),List.forall_mem_append.2 ⟨RL,VA⟩⟩
   · dsimp only;rw [List.length_append,List.length_singleton];omega
  refine J4 ?_;refine mK ((i,e,ps,wI,np,cp,mp,pl,mH,nq,cq,mq,mo)) ?_
  · exact⟨by rw [←hP];exact I4 (by rw [Kf,List.length_map,←ow,hq,MU,FE]),hi,ZI,MU,OH,NL,BC,z9,lL,VA⟩
 rintro ⟨i3,e3,ps,wI,np,cp,mp,pl,mH,nq,cq,mq,mo⟩ ⟨hP,hi3,ZI,MU,OH,NL,BC,z9,lL,VA⟩;change QM _ _ _ _ _ (mo++(mp++(mq++(ml++(mg++(qB kI ad n cap i3 e3::(b8,sO (sA ws i0).2.2 (oP ws i0).2.2 kL ng cg r7 nl cl wI np cp)::(b4,z0):: [])))))) _ _ _;refine dA ?_;refine af.aj rfl (fun wY=>?_) (fun wY=>?_)
 ·have hI:wT ws i0 gs i1 e1 ls i2 e2 (ps.map mI.c) pl i3 e3:=⟨⟨(yj hG).1,fun q=>by rw [(yj hG).2 q]⟩,hL,hP⟩
  refine J1 ?_;refine af.keep ((kI,_):: []) (fun _=>True) (.one 0 0 (.one 1 0 (.one 2 0 (.one 3 0 (.one 4 1 (.one 5 0 (.one 6 0 (.one 7 0 (.one 8 1 (.one 9 2 (.one 10 0 (.one 11 0 .nil)))))))))))) kr kr aX (fun _ _=>trivial) ?_;refine KD.val rfl rfl (aD (cs:=#[_,_,_,_,_]) rfl (by first|rfl|kernel_rfl)) ?_;refine J9 ?_;refine LM.dC Tryz.sizeOf30 rfl rfl rfl rfl dD cn ?_;refine J8 ?_;refine QM.aV (ds:=([])) (.inl rfl) [.cell 4 30,.tmp 5,.tmp 6] Tryz.results45 bh (cN rfl Tryz.isAgg30 Tryz.sizeOf30 rfl (aU rfl (aU rfl bn))) ?_;intro w' aq ab;rw [zF r6,hI.bad wY];exact⟨ab,[],Mh.none,Mem.nil _,fun p hp=>by cases hp⟩
 have he3:e3=0:=Classical.not_not.1 wY;have hI:wT ws i0 gs i1 e1 ls i2 e2 (ps.map mI.c) pl i3 e3:=⟨⟨(yj hG).1,fun q=>by rw [(yj hG).2 q]⟩,hL,hP⟩
 refine J9 ?_;refine af.aS (α:=Nat) (fun j=>[(14,.int .i64 (j:Nat))]) [(4,_),(7,_),(8,_),(10,_)] (fun j=>mo++(mp++(mq++(ml++(mg++(qB kI ad n cap i3 e3::(b8,sO (sA ws i0).2.2 (oP ws i0).2.2 kL ng cg r7 nl cl wI np cp)::(b4,z0):: [])))))) (fun j=>j≤ps.length∧((ps.map mI.c).take j).any (mM ls ps.length)=false) (fun j=>ps.length-j) (0) cm aX ⟨Nat.zero_le _,rfl⟩ ?_;rintro j ⟨hj,SQ⟩;change af _ _ _ _ _ _ _ (mo++(mp++(mq++(ml++(mg++(qB kI ad n cap i3 e3::(b8,sO (sA ws i0).2.2 (oP ws i0).2.2 kL ng cg r7 nl cl wI np cp)::(b4,z0):: [])))))) _ _ _;refine cf ?_;refine af.aj rfl (fun tv=>?_) (fun tv=>?_)
 ·have rp:j<ps.length:=om;have o6:ps.getD j default∈ps:=List.mem_of_getElem? (aQ default rp);refine J5 ?_;refine af.draw [(0,0),(1,1),(2,0),(3,0),(4,1),(5,0),(6,1),(7,0),(8,1),(9,0),(10,2),(11,0),(12,0),(13,0),(14,0),(15,0)] kr kr ?_;refine J4 ?_;refine LD.rd rfl rfl (jo aA ir Tryz.isAgg117 Tryz.sizeOf117 rfl cR) ?_;refine J5 ?_;refine dE rfl rfl Tryz.func49 rfl (fun w hm hc hg=>sD (np:Nat) w (lL w (hm.pick mo) _ o6).1 (lL w (hm.pick mo) _ o6).2 vr (fY.k8 ir hm)) ?_;refine gz ?_;refine af.aj rfl (fun pM=>?_) (fun pM=>?_)
  ·refine J1 ?_;refine af.keep (mq++ []) (fun _=>True) (.one 0 0 (.one 1 0 (.one 2 0 (.one 3 0 (.one 4 1 (.one 5 0 (.one 6 2 (.one 7 0 (.one 8 0 .nil))))))))) kr kr aX (fun _ _=>trivial) ?_;refine KD.val rfl rfl (aD (cs:=#[_,_,_,_,_]) rfl (by first|rfl|kernel_rfl)) ?_;refine J3 ?_;refine KD.rd rfl rfl (bu aA ir Tryz.isAgg3 rfl rfl (by exact aQ 0 cJ) (by rfl)) ?_;refine J2 ?_;refine LM.dC Tryz.sizeOf30 rfl rfl rfl rfl dD cn ?_;refine cL ?_;refine QM.aV (ds:=([])) (.inl rfl) [.cell 4 30,.tmp 5,.tmp 6] Tryz.results45 bh (cN rfl Tryz.isAgg30 Tryz.sizeOf30 rfl (aU rfl (aU rfl bn))) ?_;intro w' aq ab;rw [zF r6,hI.mis he3 (j:=j) (by simpa using rp) (by rw [List.length_map];exact SQ) (by rw [kX,List.length_map];unfold mM;rw [←MU];simpa using pM),kX,List.length_map,←MU];exact⟨ab,[],Mh.none,Mem.nil _,fun p hp=>by cases hp⟩
  refine J8 ?_;refine aK (j+1) ?_ ?_
  · exact⟨by omega,by rw [fX default (by simp;omega),SQ,Bool.false_or,kX];unfold mM;rw [←MU];simpa using pM⟩
  · omega
 refine J6 ?_;refine af.keep ((kI,_)::(b8,_):: []) (fun _=>True) (.one 0 1 (.one 1 0 (.one 2 0 (.one 3 0 (.one 4 1 (.one 5 2 (.one 6 0 (.one 7 0 .nil)))))))) kr kr aX (fun _ _=>trivial) ?_;refine KD.rd rfl rfl (bo Tryz.isAgg30 Tryz.sizeOf30 rfl rfl) ?_;refine J5 ?_;refine LM.dC Tryz.sizeOf30 rfl rfl rfl rfl dD cn ?_;refine J7 ?_;refine QM.aV (ds:=([])) (.inl rfl) [.cell 4 30,.tmp 5,.tmp 6] Tryz.results45 bh (cN rfl Tryz.isAgg30 Tryz.sizeOf30 rfl (aU rfl (aU rfl bn))) ?_;intro w' aq ab;rw [zF r6,hI.ok he3 (by have rp:j=ps.length:=om;have h9:=SQ;rw [rp,List.take_of_length_le (by simp)] at h9;rw [List.length_map];exact h9)];refine ⟨ab,mo++(mp++(ml++(mg++ []))),⟨⟨(sA ws i0).2.2,(oP ws i0).2.2,gs,kL,ng,cg,ls,r7,nl,cl,ps,wI,np,cp⟩,rfl,rfl,fun w hm=>⟨Ea,re B9 (fun _=>rfl) (hm.pick mg),vr,re fY (fun _=>rfl) (hm.pick ml),MU,re OH (fun _=>rfl) (hm.pick mp),lL w (hm.pick mo)⟩⟩,aT.mem (by(repeat' (first|exact aT.nil _|refine aT.app ?_))) w' aq,?_⟩;intro p hp;simp only [List.mem_append,List.not_mem_nil,or_false] at hp;rcases hp with hp|hp|hp|hp;exact VA p hp;exact Sl.ge OH p hp;exact Sl.ge fY p hp;exact Sl.ge B9 p hp
abbrev xO (b:Nat) (s:eM):Nat×Obj:=(b,sO s.cr s.gr s.ga s.gn s.gc s.la s.ln s.lc s.pa s.pn s.pc)
def uZ (s:km):Bool:=cG s.cr 4&&(cG s.gr 8&&(cG (s.gs.length:Int) 4&&(decide (s.ls.length≤8)&&cG (s.ps.length:Int) 8)))
theorem jD (s:km):fy s=(uZ s&&(s.gs.all (fun n=>cG n 16)&&(s.ls.all wO&& !s.ps.any (mM s.ls s.ps.length)))):=by
  unfold fy uZ
  ac_rfl
theorem CT {α:Type} {p:α→Bool} {xs:List α} {i:Nat} (d:α) (h:i<xs.length) (hp:p (xs.getD i d)=false):xs.all p=false:=by
  cases hm:xs.all p with
  |false=>rfl
  |true=>rw [List.all_eq_true.1 hm _ (List.mem_of_getElem? (aQ d h))] at hp;cases hp
theorem SL {α:Type} {p:α→Bool} {xs:List α} {i:Nat} (d:α) (h:i<xs.length) (hp:p (xs.getD i d)=true):xs.any p=true:=List.any_eq_true.2 ⟨_,List.mem_of_getElem? (aQ d h),hp⟩
theorem head_eq {s:eM} (h1:s.gn=s.gs.length) (h2:s.ln=s.ls.length) (h3:s.pn=s.ps.length):uZ s.C= !(!cG s.cr 4||(!cG s.gr 8||(!cG (s.gn:Int) 4||(decide ((s.ln:Int) > 8)|| !cG (s.pn:Int) 8)))):=by
  unfold uZ eM.C
  simp only [List.length_map,←h1,←h2,←h3];rw [show decide (s.ln≤8)= !decide ((s.ln:Int) > 8) by rw [←decide_not];exact decide_eq_decide.2 om];cases cG s.cr 4<;>cases cG s.gr 8<;>cases cG (s.gn:Int) 4<;>cases decide ((s.ln:Int) > 8)<;>cases cG (s.pn:Int) 8<;>rfl
theorem Ge {s:km} (h:uZ s=false):fy s=false:=by rw [jD,h];rfl
theorem Of {s:km} (h:s.gs.all (fun n=>cG n 16)=false):fy s=false:=by rw [jD,h];simp
theorem Fm {s:km} (h:s.ls.all wO=false):fy s=false:=by rw [jD,h];simp
theorem Ol {s:km} (h:s.ps.any (mM s.ls s.ps.length)=true):fy s=false:=by rw [jD,h];simp
theorem El {x:ke} :wO x= !((!cG x.sl 16|| !cG x.cr 32)||((x.sh&&(!cG x.rd 16|| !cG x.wr 16))||(!x.sh&&(decide (x.rd≠0)||decide (x.wr≠0))))):=by
  unfold wO
  cases x.sh<;>cases cG x.sl 16<;>cases cG x.cr 32<;>simp
theorem dc (n gy:Int) (w:World):aJ Tryz.prog 48 #[.int .i64 n,.int .i64 gy] w (fun v w'=>v= .bool (cG n gy)∧Ext w w'):=by
 refine aJ.au Tryz.func48 rfl Tryz.ntmps48 rfl ([]) (no) (Mem.nil w) ?_;refine cf ?_;refine LM.ar (t:=7) rfl (fun h1=>?_) (fun h1=>?_)
 ·refine J8 ?_;refine qL Tryz.results48 rfl fun w' aq ab aI=>?_;refine ⟨?_,ab⟩;simp only [bA,cG];first|(rw [decide_eq_true (show 1≤n by omega),Bool.true_and];done)|(rw [decide_eq_false (show¬1≤n by omega),Bool.false_and];done)
 refine J8 ?_;refine qL Tryz.results48 rfl fun w' aq ab aI=>?_;refine ⟨?_,ab⟩;simp only [bA,cG];first|(rw [decide_eq_true (show 1≤n by omega),Bool.true_and];done)|(rw [decide_eq_false (show¬1≤n by omega),Bool.false_and];done)
set_option maxHeartbeats 2000000 in
theorem DE {s:eM} (w:World) (hI:s.In w):aJ Tryz.prog 21 #[s.val] w (fun v w'=>v= .bool (fy s.C)∧Ext w w'):=by
 have My:=hI.My;have AO:=hI.AO;have CC:=hI.CC;have hp:=hI.hp;have hg:=hI.hg;have hl:=hI.hl;have ks:(s.ps.map mI.c).length=s.ps.length:=List.length_map ..;refine aJ.au Tryz.func21 rfl Tryz.ntmps21 rfl ([]) (no) (Mem.nil w) ?_;refine J2 ?_;refine LM.box rfl rfl (fun b1 Cm=>?_);refine J5 ?_;refine af.bH (α:=Bool) (fun q=>[(38,.bool q)]) [(1,_)] (fun q=>xO b1 s:: []) (fun q=>q=(!cG s.cr 4||(!cG s.gr 8||(!cG (s.gn:Int) 4||(decide ((s.ln:Int) > 8)|| !cG (s.pn:Int) 8))))) cm ?_ ?_
 ·refine J3 ?_;refine cE Tryz.func48 rfl (fun w hm hc hg=>dc _ _ w) ?_;refine J2 ?_;refine LM.bw (t:=13) rfl (fun h1=>?_) (fun h1=>?_)
  ·refine U4 ?_;refine mK (_) ?_
   · (simp [h1,-List.getD_eq_getElem?_getD];done)
  refine J4 ?_;refine cE Tryz.func48 rfl (fun w hm hc hg=>dc _ _ w) ?_;refine J3 ?_;refine LM.bw (t:=19) rfl (fun h2=>?_) (fun h2=>?_)
  ·refine UT ?_;refine mK (_) ?_
   · (simp [h1,h2,-List.getD_eq_getElem?_getD];done)
  refine J5 ?_;refine cE Tryz.func48 rfl (fun w hm hc hg=>dc _ _ w) ?_;refine J3 ?_;refine LM.bw (t:=26) rfl (fun h3=>?_) (fun h3=>?_)
  ·refine gz ?_;refine mK (_) ?_
   · (simp [h1,h2,h3,-List.getD_eq_getElem?_getD];done)
  refine J7 ?_;refine LM.ar (t:=32) rfl (fun h4=>?_) (fun h4=>?_)
  ·refine J7 ?_;refine mK (_) ?_
   · (simp [h1,h2,h3,h4,-List.getD_eq_getElem?_getD];done)
  refine J5 ?_;refine cE Tryz.func48 rfl (fun w hm hc hg=>dc _ _ w) ?_;refine J3 ?_;refine mK (_) ?_
  · (simp [h1,h2,h3,h4,-List.getD_eq_getElem?_getD];done)
 rintro q hq;change QM _ _ _ _ _ (xO b1 s:: []) _ _ _;refine J1 ?_;refine af.aW rfl (fun h5=>?_) (fun h5=>?_)
 ·refine J7 ?_;refine qL Tryz.results21 rfl fun w' aq ab aI=>?_;refine ⟨?_,ab⟩;rw [Ge (by rw [head_eq My AO CC,←hq,h5];rfl)];rfl
 have hhd:uZ s.C=true:=(by rw [head_eq My AO CC,←hq,h5];rfl);have Vd:=hhd;unfold uZ at Vd;simp only [Bool.and_eq_true,decide_eq_true_eq,Tm] at Vd;have hG4:s.gs.length≤4:=(by have:=Vd.2.2.1.2;show s.gs.length≤4;have h9:(s.C.gs.length:Int)≤4:=this;have h8:s.C.gs.length=s.gs.length:=rfl;omega);have hL8:s.ls.length≤8:=Vd.2.2.2.1;have hP8:s.ps.length≤8:=(by have h9:=Vd.2.2.2.2.2;have h8:s.C.ps.length=s.ps.length:=ks;omega)
 refine J9 ?_;refine af.aS (α:=Nat) (fun i=>[(3,.int .i64 (i:Nat))]) [(1,_)] (fun i=>xO b1 s:: []) (fun i=>i≤s.gs.length∧(s.gs.take i).all (fun n=>cG n 16)=true) (fun i=>s.gs.length-i) (0) cm aX ⟨Nat.zero_le _,rfl⟩ ?_;rintro i ⟨hi,hag⟩;change af _ _ _ _ _ _ _ (xO b1 s:: []) _ _ _;refine cf ?_;refine af.aj rfl (fun h6=>?_) (fun h6=>?_)
 ·refine cf ?_;refine LM.eR (sn aA Tryz.isAgg3 rfl rfl (by exact aQ 0 cJ) (by rfl) id) ?_;refine cE Tryz.func48 rfl (fun w hm hc hg=>dc _ _ w) ?_;refine J3 ?_;refine af.aW rfl (fun h7=>?_) (fun h7=>?_)
  ·refine dA ?_;refine qL Tryz.results21 rfl fun w' aq ab aI=>?_;refine ⟨?_,ab⟩;rw [Of (s:=s.C) (CT (xs:=s.gs) (i:=i) 0 om (by simpa using h7))];rfl
  refine J8 ?_;refine aK (i+1) ?_ ?_
  · exact⟨by omega,by rw [v5 0 om,hag,Bool.true_and];simpa using h7⟩
  · omega
 refine cL ?_;refine af.aS (α:=Nat) (fun j=>[(4,.int .i64 (j:Nat))]) [(1,_)] (fun j=>xO b1 s:: []) (fun j=>j≤s.ls.length∧(s.ls.take j).all wO=true) (fun j=>s.ls.length-j) (0) cm aX ⟨Nat.zero_le _,rfl⟩ ?_;rintro j ⟨hj,H4⟩;change af _ _ _ _ _ _ _ (xO b1 s:: []) _ _ _;refine cf ?_;refine af.aj rfl (fun h8=>?_) (fun h8=>?_)
 ·refine cf ?_;refine LM.eR (dZ aA ir Tryz.isAgg83 Tryz.sizeOf83 rfl cR id) ?_;refine LM.alloc Tryz.zeroValue83 rfl (fun b5 Ky=>?_);refine LM.dC Tryz.sizeOf83 rfl rfl rfl rfl dD cn ?_;refine J4 ?_;refine af.bH (α:=Bool) (fun q2=>[(74,.bool q2)]) [(1,_),(4,_),(5,_)] (fun q2=>(b5,.cells (fL (s.ls.getD j default)).toArray 83 (0,0))::xO b1 s:: []) (fun q2=>q2=(!cG (s.ls.getD j default).sl 16|| !cG (s.ls.getD j default).cr 32)) cm ?_ ?_
  ·refine J3 ?_;refine cE Tryz.func48 rfl (fun w hm hc hg=>dc _ _ w) ?_;refine J2 ?_;refine LM.bw (t:=69) rfl (fun h9=>?_) (fun h9=>?_)
   ·refine J6 ?_;refine mK (_) ?_
    · (simp [h5,h6,h8,h9,-List.getD_eq_getElem?_getD];done)
   refine J4 ?_;refine cE Tryz.func48 rfl (fun w hm hc hg=>dc _ _ w) ?_;refine J3 ?_;refine mK (_) ?_
   · (simp [h5,h6,h8,h9,-List.getD_eq_getElem?_getD];done)
  rintro q2 jK;change QM _ _ _ _ _ ((b5,.cells (fL (s.ls.getD j default)).toArray 83 (0,0))::xO b1 s:: []) _ _ _;refine J1 ?_;refine af.aW rfl (fun iT=>?_) (fun iT=>?_)
  ·refine cL ?_;refine qL Tryz.results21 rfl fun w' aq ab aI=>?_;refine ⟨?_,ab⟩;rw [Fm (s:=s.C) (CT (xs:=s.ls) (i:=j) default om (by rw [El,←jK,iT];rfl))];rfl
  refine J3 ?_;refine af.bH (α:=Bool) (fun q3=>[(103,.bool q3)]) [(1,_),(4,_)] (fun q3=>(b5,.cells (fL (s.ls.getD j default)).toArray 83 (0,0))::xO b1 s:: []) (fun q3=>q3=(((s.ls.getD j default).sh&&(!cG (s.ls.getD j default).rd 16|| !cG (s.ls.getD j default).wr 16))||(!(s.ls.getD j default).sh&&(decide ((s.ls.getD j default).rd≠0)||decide ((s.ls.getD j default).wr≠0))))) cm ?_ ?_
  ·refine J4 ?_;refine LM.bw (t:=77) rfl (fun kg=>?_) (fun kg=>?_)
   ·refine J4 ?_;refine cE Tryz.func48 rfl (fun w hm hc hg=>dc _ _ w) ?_;refine J2 ?_;refine LM.bw (t:=82) rfl (fun gJ=>?_) (fun gJ=>?_)
    ·refine cf ?_;refine LM.db (t:=89) rfl rfl rfl ?_;refine dA ?_;refine mK (_) ?_
     · (simp [h5,h6,h8,iT,kg,gJ,-List.getD_eq_getElem?_getD];done)
    refine J4 ?_;refine cE Tryz.func48 rfl (fun w hm hc hg=>dc _ _ w) ?_;refine J4 ?_;refine LM.bw (t:=89) rfl (fun ow=>?_) (fun ow=>?_)
    ·refine J3 ?_;refine LM.db (t:=89) rfl rfl rfl ?_;refine dA ?_;refine mK (_) ?_
     · (simp [h5,h6,h8,iT,kg,gJ,ow,-List.getD_eq_getElem?_getD];done)
    refine J5 ?_;refine LM.bw (t:=93) rfl (fun jt=>?_) (fun jt=>?_)
    ·refine J5 ?_;refine LM.ar (t:=97) rfl (fun wY=>?_) (fun wY=>?_)
     ·refine J7 ?_;refine mK (_) ?_
      · (simp_all [-List.getD_eq_getElem?_getD];done)
     refine J8 ?_;refine mK (_) ?_
     · (simp_all [-List.getD_eq_getElem?_getD];done)
    refine J3 ?_;refine LM.db (t:=93) rfl rfl rfl ?_;refine J7 ?_;refine mK (_) ?_
    · (simp [h5,h6,h8,iT,kg,gJ,ow,jt,-List.getD_eq_getElem?_getD];done)
   refine J4 ?_;refine LM.db (t:=77) rfl rfl rfl ?_;refine cL ?_;refine LM.bw (t:=93) rfl (fun tv=>?_) (fun tv=>?_)
   ·refine J5 ?_;refine LM.ar (t:=97) rfl (fun pM=>?_) (fun pM=>?_)
    ·refine J7 ?_;refine mK (_) ?_
     · (simp [h5,h6,h8,iT,kg,tv,pM,-List.getD_eq_getElem?_getD];done)
    refine J8 ?_;refine mK (_) ?_
    · (simp [h5,h6,h8,iT,kg,tv,pM,-List.getD_eq_getElem?_getD];done)
   refine J3 ?_;refine LM.db (t:=93) rfl rfl rfl ?_;refine J7 ?_;refine mK (_) ?_
   · (simp_all [-List.getD_eq_getElem?_getD];done)
  rintro q3 CJ;change QM _ _ _ _ _ ((b5,.cells (fL (s.ls.getD j default)).toArray 83 (0,0))::xO b1 s:: []) _ _ _;refine J1 ?_;refine af.aW rfl (fun sS=>?_) (fun sS=>?_)
  ·refine dA ?_;refine qL Tryz.results21 rfl fun w' aq ab aI=>?_;refine ⟨?_,ab⟩;rw [Fm (s:=s.C) (CT (xs:=s.ls) (i:=j) default om (by rw [El,←CJ,sS];simp))];rfl
  refine J8 ?_;refine aK (j+1) ?_ ?_
  · exact⟨by omega,by rw [v5 default om,H4,Bool.true_and,El,←jK,←CJ,iT,sS];rfl⟩
  · omega
 refine cL ?_;refine af.aS (α:=Nat) (fun k=>[(6,.int .i64 (k:Nat))]) [(1,_)] (fun k=>xO b1 s:: []) (fun k=>k≤s.ps.length∧((s.ps.map mI.c).take k).any (mM s.ls (s.pn:Nat))=false) (fun k=>s.ps.length-k) (0) cm aX ⟨Nat.zero_le _,rfl⟩ ?_;rintro k ⟨hk,E0⟩;change af _ _ _ _ _ _ _ (xO b1 s:: []) _ _ _;refine cf ?_;refine af.aj rfl (fun CA=>?_) (fun CA=>?_)
 ·have o6:s.ps.getD k default∈s.ps:=List.mem_of_getElem? (aQ default om);refine J5 ?_;refine af.draw [(0,0),(1,1),(2,0),(3,0),(4,1),(5,0),(6,1),(7,0),(8,1),(9,0),(10,2),(11,0),(12,0),(13,0),(14,0),(15,0)] kr kr ?_;refine J4 ?_;refine LD.eR rfl rfl (dZ aA ir Tryz.isAgg117 Tryz.sizeOf117 rfl cR id) ?_;refine J5 ?_;refine dE rfl rfl Tryz.func49 rfl (fun w hm hc hg=>sD (s.pn:Nat) w (hI.ops _ o6).1 ((hI.ops _ o6).2.ext hc) AO (hl.ext hc)) ?_;refine gz ?_;refine af.aj rfl (fun w5=>?_) (fun w5=>?_)
  ·refine dA ?_;refine qL Tryz.results21 rfl fun w' aq ab aI=>?_;refine ⟨?_,ab⟩;rw [Ol (s:=s.C) (SL (xs:=s.C.ps) (i:=k) default (by show k<(s.ps.map mI.c).length;omega) (by show mM s.ls (s.ps.map mI.c).length ((s.ps.map mI.c).getD k default)=true;rw [kX,ks];unfold mM;rw [←CC];exact decide_eq_true w5))];rfl
  refine J8 ?_;refine aK (k+1) ?_ ?_
  · exact⟨by omega,by rw [fX default (by rw [ks];omega),E0,Bool.false_or,kX];unfold mM;simpa using w5⟩
  · omega
 refine dA ?_;refine qL Tryz.results21 rfl fun w' aq ab aI=>?_;refine ⟨?_,ab⟩;have T0:i=s.gs.length:=om;have rp:j=s.ls.length:=om;have hkp:k=s.ps.length:=om;rw [T0,List.take_length] at hag;rw [rp,List.take_length] at H4;rw [hkp,List.take_of_length_le om] at E0;rw [jD,hhd];show Value.bool true=Value.bool (true&&(s.gs.all (fun n=>cG n 16)&&(s.ls.all wO&& !(s.ps.map mI.c).any (mM s.ls (s.ps.map mI.c).length))));rw [hag,H4,ks,←CC,E0];rfl
def fMe (e:fu):List Value:=[U e.tm,.int .i64 e.k,.int .i64 e.t,.int .i64 e.l,.int .i64 e.n]
structure WoK (s:eM) (x:ck):Prop where
  r:x.rd.length=s.ln
  w:x.wr.length=s.ln
  t:x.ts.length≤64
  l:s.ln≤8
  h:x.sh=s.ls.map (·.sh)
  c:x.cores=s.cr
  n:s.ln=s.ls.length
def Gc (t:iM):List Value:=[.int .i64 t.id,.int .i64 t.pr,.int .i64 t.gr,.int .i64 t.co,.int .i64 t.pc,.int .i64 t.lf,.int .i64 t.st,U t.un,.int .i64 t.lk,.int .i64 t.we,.int .i64 t.ef,.int .i64 t.ti]
abbrev MF (n0 b:Nat) (x:aY) (m:aa):Prop:=gE n0 b x (x.wt.map eD) m
theorem Dj:QKd MF:=⟨gE.ge,gE.bX,gE.mono⟩
structure sY where
  bc:Nat
  bg:Nat
  bs:List Nat
  ai:Option Addr
  ni:Nat
  ci:Nat
  al:Option Addr
  nl:Nat
  cl:Nat
  ag:Option Addr
  ng:Nat
  cg:Nat
  ax:Option Addr
  nx:Nat
  cx:Nat
  Dx:Option Addr
  nt:Nat
  ct:Nat
  av:Option Addr
  nv:Nat
  cv:Nat
  ae:Option Addr
  ne:Nat
  ce:Nat
  mi:aa
  ml:aa
  mg:aa
  mx:aa
  mt:aa
  mv:aa
  me:aa
  mc:aa
  mq:aa
abbrev vE (b:Nat) (s:eM) (now:BitVec 64) (P:sY):Nat×Obj:=
  (b,.cells #[.int .i64 s.cr,.int .i64 s.gr,.slice s.ga s.gn s.gc,.slice s.la s.ln s.lc,.slice s.pa s.pn s.pc,U now,.pointer (some ⟨P.bc,0,none⟩),.slice P.ai P.ni P.ci,.slice P.al P.nl P.cl,.slice P.ag P.ng P.cg,.pointer (some ⟨P.bg,0,none⟩),.slice P.Dx P.nt P.ct,.slice P.av P.nv P.cv,.slice P.ae P.ne P.ce] 49 (0,0))
abbrev az (b:Nat) (s:eM) (now:BitVec 64) (P:sY):aa:=vE b s now P::gR P.bg P.ax P.nx P.cx::(P.mi++(P.ml++(P.mg++(P.mx++(P.mt++(P.mv++(P.me++(P.mc++P.mq))))))))
abbrev yd (b:Nat) (s:eM) (now:BitVec 64) (P:sY) (mx mt mc mq:aa):aa:=vE b s now P::gR P.bg P.ax P.nx P.cx::(P.mi++(P.ml++(P.mg++(mx++(mt++(P.mv++(P.me++(mc++mq))))))))
structure fF (n0 b:Nat) (s:eM) (x:aC) (P:sY):Prop where
  ni:P.ni=x.idle.length
  si:Sl fI 3 1 n0 x.idle (.slice P.ai P.ni P.ci) P.mi
  nl:P.nl=x.lk.length
  bl:P.bs.length=x.lk.length
  sl:Sl fP 54 1 n0 P.bs (.slice P.al P.nl P.cl) P.ml
  sq:jZ MF n0 P.bs x.lk P.mq
  ng:P.ng=x.gp.length
  sg:Sl fI 3 1 n0 x.gp (.slice P.ag P.ng P.cg) P.mg
  nx:P.nx=64
  gl:x.g.length=64
  sx:Sl fU 41 1 n0 x.g (.slice P.ax P.nx P.cx) P.mx
  nt:P.nt=x.ts.length
  st:Sl Gc 66 12 n0 x.ts (.slice P.Dx P.nt P.ct) P.mt
  nv:P.nv=x.v.length
  sv:Sl fU 41 1 n0 x.v (.slice P.av P.nv P.cv) P.mv
  ne:P.ne=x.ev.length
  se:Sl fMe 72 5 n0 x.ev (.slice P.ae P.ne P.ce) P.me
  sc:RcM n0 P.bc x.cs P.mc
  hb:n0≤b
  hg:n0≤P.bg
  hs:x.s=s.C
def dW (n0 b:Nat) (s:eM) (x:aC) (m:aa):Prop:=∃P,m=az b s x.now P∧fF n0 b s x P
theorem fF.ge {n0 b:Nat} {s:eM} {x:aC} {P:sY} {y:BitVec 64} (h:fF n0 b s x P):∀p∈az b s y P,n0≤p.1:=by
  intro p hp;simp only [List.mem_cons,List.mem_append] at hp;rcases hp with rfl|rfl|hp|hp|hp|hp|hp|hp|hp|hp|hp
  · exact h.hb
  · exact h.hg
  · exact h.si.ge p hp
  · exact h.sl.ge p hp
  · exact h.sg.ge p hp
  · exact h.sx.ge p hp
  · exact h.st.ge p hp
  · exact h.sv.ge p hp
  · exact h.se.ge p hp
  · exact h.sc.ge p hp
  · exact h.sq.ge Dj p hp
theorem dW.ge {n0 b:Nat} {s:eM} {x:aC} {m:aa} (h:dW n0 b s x m):∀p∈m,n0≤p.1:=by obtain ⟨P,rfl,h⟩:=h;exact h.ge
theorem dW.bX {n0 b:Nat} {s:eM} {x:aC} {m:aa} (h:dW n0 b s x m):∀p∈m,bX p.2=false:=by
  obtain ⟨P,rfl,h⟩:=h;intro p hp;simp only [List.mem_cons,List.mem_append] at hp;rcases hp with rfl|rfl|hp|hp|hp|hp|hp|hp|hp|hp|hp
  · rfl
  · rfl
  · exact h.si.bX p hp
  · exact h.sl.bX p hp
  · exact h.sg.bX p hp
  · exact h.sx.bX p hp
  · exact h.st.bX p hp
  · exact h.sv.bX p hp
  · exact h.se.bX p hp
  · exact h.sc.bX p hp
  · exact h.sq.bX Dj p hp
theorem fF.m {n0 b:Nat} {s:eM} {x:aC} {P:sY} {y:BitVec 64} (h:fF n0 b s x P) (hn:x.now=y:=by first|rfl|assumption):dW n0 b s x (az b s y P):=⟨P,by rw [hn],h⟩
theorem dW.b {n0 b:Nat} {s:eM} {x:aC} {m:aa} (h:dW n0 b s x m):fQ m b:=by obtain ⟨P,rfl,-⟩:=h;exact ee
theorem aL {b k:Nat} {s:eM} {y:BitVec 64} {m:aa} {P:sY} (h0:fQ m b:=by first|exact ee|assumption) (hg:k≤P.bg∨fQ m P.bg:=by(try dsimp only);assumption)
    (hi:c6 m k P.mi:=by(try dsimp only);assumption)
    (hl:c6 m k P.ml:=by(try dsimp only);assumption)
    (hgg:c6 m k P.mg:=by(try dsimp only);assumption)
    (hx:c6 m k P.mx:=by(try dsimp only);assumption)
    (ht:c6 m k P.mt:=by(try dsimp only);assumption)
    (hv:c6 m k P.mv:=by(try dsimp only);assumption)
    (he:c6 m k P.me:=by(try dsimp only);assumption)
    (hc:c6 m k P.mc:=by(try dsimp only);assumption)
    (hq:c6 m k P.mq:=by(try dsimp only);assumption):
    c6 m k (az b s y P):=fun p hp=>by
  rcases List.mem_cons.1 hp with rfl|hp
  · exact .inr h0
  rcases List.mem_cons.1 hp with rfl|hp
  · exact hg
  exact bZ hi (bZ hl (bZ hgg (bZ hx (bZ ht (bZ hv (bZ he (bZ hc hq))))))) p hp
theorem bM {b k:Nat} {s:eM} {y:BitVec 64} {m:aa} {P:sY} (h:c6 m k (az b s y P)):(k≤P.bg∨fQ m P.bg)∧c6 m k P.mi∧c6 m k P.ml∧c6 m k P.mg∧c6 m k P.mx∧c6 m k P.mt∧c6 m k P.mv∧c6 m k P.me∧c6 m k P.mc∧c6 m k P.mq:=
  ⟨h (gR P.bg P.ax P.nx P.cx) (by simp),fun p hp=>h p (by simp [hp]),fun p hp=>h p (by simp [hp]),fun p hp=>h p (by simp [hp]),fun p hp=>h p (by simp [hp]),fun p hp=>h p (by simp [hp]),fun p hp=>h p (by simp [hp]),fun p hp=>h p (by simp [hp]),fun p hp=>h p (by simp [hp]),fun p hp=>h p (by simp [hp])⟩
theorem ye {n0 b:Nat} {s:eM} {x:aC} {P:sY} {m M:aa} {u0:Value} {w w':World} (h:fF n0 b s x P) (hm:Mem w' M) (hs:aT M (az b s x.now P++ [])) (hc:cX (fQ m) w w') (hn:c6 m w.heap.size (az b s x.now P)):
    eF m (fun u m'=>u=u0∧dW n0 b s x m') w u0 w':=aZ ⟨rfl,P,rfl,h⟩ hm hs hc hn
theorem ui {n0:Nat} {bs:List Nat} {x:aC} {mm:aa} (h:jZ MF n0 bs x.lk mm) {l:Nat} (hl:l<x.lk.length):∃(bI:Option Addr) (nh aG:Nat) (bR:Option Addr) (nw aO bl:Nat) (mh mw rest:aa),nh=(gL x l).ho.length∧nw=(gL x l).wt.length∧Sl sI 68 3 n0 (gL x l).ho (.slice bI nh aG) mh∧Sl sI 68 3 n0 ((gL x l).wt.map eD) (.slice bR nw aO) mw∧
    mm.Perm ((dB (bs.getD l default) (gL x l).sh (gL x l).sl bI nh aG bR nw aO (gL x l).tr bl (gL x l).di::(mh++(mw++ [])))++rest):=by
  obtain ⟨M,rfl,h1,h2,h3⟩:=h;obtain ⟨bI,nh,aG,bR,nw,aO,bl,mh,mw,ml,e,iO,jN,eW,gh,-,-⟩:=h3 l hl;refine ⟨bI,nh,aG,bR,nw,aO,bl,mh,mw,ml++(M.eraseIdx l).flatten,iO,by rw [jN,List.length_map],eW,gh,?_⟩;have:=mA M l om;rw [e] at this;refine this.trans (.of_eq ?_);rw [List.append_nil,List.cons_append,List.cons_append,List.append_assoc,List.append_assoc,List.append_assoc]
theorem acQ {L:List Wt} {i:Nat} (h:i<L.length):((L.map eD).getD i default).t=(L.getD i default).who:=by
  rw [List.getD_eq_getElem?_getD,List.getD_eq_getElem?_getD,List.getElem?_map,List.getElem?_eq_getElem h];rfl
theorem Kh {w:World} {b:Nat} {s:eM} {y:BitVec 64} {P:sY} {L rest:aa} (hM:Mem w (az b s y P)) (hp:P.mq.Perm (L++rest)):Mem w (vE b s y P::(P.ml++L)):=by
  have h1:Mem w (vE b s y P::(P.ml++(P.mq++ []))):=aT.mem aX w hM;rw [List.append_nil] at h1;refine (h1.perm ((hp.append_left P.ml).cons _)).sub (List.Sublist.cons_cons _ ?_);rw [←List.append_assoc];exact List.sublist_append_left _ _
def We (n0 b:Nat) (s:eM) (y:BitVec 64) (x:aC) (P:sY) (u:Value) (m':aa):Prop:=u= .tuple #[]∧∃ad n cap me,m'=az b s y {P with ae:=ad,ne:=n,ce:=cap,me:=me}∧fF n0 b s x {P with ae:=ad,ne:=n,ce:=cap,me:=me}
theorem sB {n0 b:Nat} {s:eM} {x:aC} {P:sY} (k t l n:Int) (w:World) (h:fF n0 b s x P) (zV:x.ev.length≤1000000000000) (cb:n0≤w.heap.size) (hM:Mem w (az b s x.now P)):aJ Tryz.prog 55 #[.pointer (some ⟨b,0,none⟩),.int .i64 k,.int .i64 t,.int .i64 l,.int .i64 n] w (eF (az b s x.now P) (We n0 b s x.now (ba x k t l n) P) w):=by
 have eb:=h.ne;have hse:=h.se;obtain ⟨ig,ii,il,ip,ix,it,iv,ie,ic,iq⟩:=bM (ay (az b s x.now P) w.heap.size);refine aJ.au Tryz.func55 rfl Tryz.ntmps55 rfl (az b s x.now P++ []) ((fQ (az b s x.now P))) aM ?_;refine af.keep (vE b s x.now P:: []) (fun _=>True) (.one 0 0 (.one 1 0 (.one 2 0 (.one 3 0 (.one 4 1 (.one 5 0 (.one 6 0 (.one 7 0 (.one 8 1 (.one 9 0 (.one 10 0 (.one 11 0 (.one 12 0 (.one 13 0 (.one 14 2 (.one 15 2 (.one 16 0 (.one 17 0 (.last 18))))))))))))))))))) kr kr aX (fun _ _=>trivial) ?_;refine gz ?_;refine KD.val rfl rfl (aD (cs:=(fMe ⟨x.now,k,t,l,n⟩).toArray) rfl kr) ?_;refine J1 ?_;refine LM.single Tryz.underlying47 Tryz.sizeOf72 Tryz.zeroValue72 rfl rfl rfl rfl rfl (fun b24 ami=>?_);refine J3 ?_;refine LM.app (a:=(⟨x.now,k,t,l,n⟩:fu)) Tryz.underlying47 Tryz.typeInfo72 rfl rfl rfl rfl rfl rfl rfl aA (by rfl) ir (by intro _ u hu;simp [fMe] at hu;(repeat (first|(rcases hu with rfl|hu)|subst hu|rfl))) (by first|exact Nat.le_refl _|omega) (ao aA) (by first|omega|(unfold maxLen;omega)) (by simp only [Tryz.t72];omega) (fun ac7 n25 XP m25 al9 abh JK=>?_);have akY:=ak aA JK;refine J4 ?_;refine KD.last rfl ?_;refine LM.st Tryz.sizeOf47 rfl rfl rfl ez rfl tw ?_;refine J1 ?_;refine QM.qn ?_;refine QM.leave (.inr rfl) [] Tryz.results55 rfl ?_;intro w' aq ab aI;exact aZ (m':=az b s x.now {P with ae:=ac7,ne:=n25,ce:=XP,me:=m25}) ⟨rfl,_,_,_,_,rfl,{h with ne:=(by show n25=(x.ev++ [_]).length;rw [List.length_append,List.length_singleton];omega),se:=abh}⟩ aq aX ab aL
theorem s8 {n0 b:Nat} {s:eM} {x:aC} {P:sY} {y:BitVec 64} (hn:x.now=y) (k t l n:Int) (w:World) (h:fF n0 b s x P) (zV:x.ev.length≤1000000000000) (cb:n0≤w.heap.size) (hM:Mem w (az b s y P)):
    aJ Tryz.prog 55 #[.pointer (some ⟨b,0,none⟩),.int .i64 k,.int .i64 t,.int .i64 l,.int .i64 n] w (eF (az b s y P) (We n0 b s y (ba x k t l n) P) w):=by
  subst hn;exact sB k t l n w h zV cb hM
theorem bV {n0 b:Nat} {s:eM} {x:aC} {m:aa} (k t l n:Int) (w:World) (h:dW n0 b s x m) (zV:x.ev.length≤1000000000000) (cb:n0≤w.heap.size) (hM:Mem w m):
    aJ Tryz.prog 55 #[.pointer (some ⟨b,0,none⟩),.int .i64 k,.int .i64 t,.int .i64 l,.int .i64 n] w (eF m (fun u m'=>u= .tuple #[]∧dW n0 b s (ba x k t l n) m') w):=by
  obtain ⟨P,rfl,h⟩:=h;exact(sB k t l n w h zV cb hM).mono (fun u w' hU=>hU.imp (fun u m' ⟨e,_,_,_,_,e2,h2⟩=>⟨e,_,e2,h2⟩))
theorem sE {n0 b:Nat} {s:eM} {x:aC} {m:aa} (w:World) (h:dW n0 b s x m) (uc:x.ts.length≤64) (hM:Mem w m):aJ Tryz.prog 29 #[.pointer (some ⟨b,0,none⟩)] w (fun v w'=>v= .bool (iJ x)∧Ext w w'):=by
 obtain ⟨P,rfl,h⟩:=h;have rB:=h.nt;have er:=h.st;refine aJ.au Tryz.func29 rfl Tryz.ntmps29 rfl (az b s x.now P++ []) (no) aM ?_;refine xq ?_;refine af.aS (α:=Nat) (fun i=>[(3,.int .i64 (jx (x.ts.take i):Nat)),(4,.int .i64 (i:Nat))]) [(0,_)] (fun i=>az b s x.now P++ []) (fun i=>i≤x.ts.length) (fun i=>x.ts.length-i) (0) ⟨(by first|rfl|exact lk rfl (congrArg (Value.int .i64) (rW om aA))|exact lk rfl (congrArg (Value.int .i64) (uD om aA))),j8,rfl,trivial⟩ aX (Nat.zero_le _) ?_;rintro i hi;change af _ _ _ _ _ _ _ (az b s x.now P++ []) _ _ _;have H4:=LH (x.ts.take i);have Jj:=List.length_take_le i x.ts;refine cL ?_;refine af.aj rfl (fun h1=>?_) (fun h1=>?_)
 ·refine gz ?_;refine LM.rd (aH (j:=6) aA ir Tryz.isAgg3 rfl rfl (by first|exact bF om|exact aQ default cJ) rfl (by rfl)) ?_;refine J3 ?_;refine af.aj rfl (fun h2=>?_) (fun h2=>?_)
  ·refine cL ?_;refine QM.cT (i+1) ⟨(by first|rfl|exact lk rfl (congrArg (Value.int .i64) (rW om aA))|exact lk rfl (congrArg (Value.int .i64) (uD om aA))),j8,rfl,trivial⟩ aX (fun _ h=>h) ?_ ?_
   · omega
   · omega
  refine J8 ?_;refine QM.cT (i+1) ⟨(by first|rfl|exact lk rfl (congrArg (Value.int .i64) (rW om aA))|exact lk rfl (congrArg (Value.int .i64) (uD om aA))),j8,rfl,trivial⟩ aX (fun _ h=>h) ?_ ?_
  · omega
  · omega
 refine cf ?_;refine LM.ar (t:=27) rfl (fun h3=>?_) (fun h3=>?_)
 ·refine cL ?_;refine qL Tryz.results29 rfl fun w' aq ab aI=>?_;have fp:i=x.ts.length:=om;subst fp;rw [List.take_length] at*;refine ⟨?_,ab⟩;show Value.bool _=_;unfold iJ;rw [decide_eq_true (show jx x.ts<16 by omega),Bool.true_and,rB];exact congrArg Value.bool (decide_eq_decide.2 om)
 refine dA ?_;refine qL Tryz.results29 rfl fun w' aq ab aI=>?_;have fp:i=x.ts.length:=om;subst fp;rw [List.take_length] at*;refine ⟨?_,ab⟩;show Value.bool _=_;unfold iJ;rw [decide_eq_false (show¬jx x.ts<16 by omega)];rfl
theorem vw {n0 b:Nat} {s:eM} {x:aC} {m:aa} (l:Nat) (t:Int) (w:World) (h:dW n0 b s x m) (hl:l<x.lk.length) (hx:(gL x l).ho.length≤900) (hM:Mem w m):aJ Tryz.prog 101 #[.pointer (some ⟨b,0,none⟩),.int .i64 (l:Nat),.int .i64 t] w (fun v w'=>v= .int .i64 (dF (gL x l) t)∧Ext w w'):=by
 obtain ⟨P,rfl,h⟩:=h;have vr:=h.nl;have te:=h.bl;have fY:=h.sl;obtain ⟨bI,nh,aG,bR,nw,aO,bl,mh,mw,rest,iO,jN,eW,gh,hq⟩:=ui h.sq hl;refine aJ.au Tryz.func101 rfl Tryz.ntmps101 rfl (vE b s x.now P::(P.ml++(dB (P.bs.getD l default) (gL x l).sh (gL x l).sl bI nh aG bR nw aO (gL x l).tr bl (gL x l).di::(mh++(mw++ []))))) (no) (Kh hM hq) ?_;refine gz ?_;refine LM.rd (bu aA ir Tryz.isAgg54 rfl rfl (by first|exact bF om|exact aQ default cJ) (by rfl)) ?_;refine cf ?_;refine af.aS (α:=Nat) (fun i=>[(8,.int .i64 (i:Nat))]) [(2,_),(7,_)] (fun i=>vE b s x.now P::(P.ml++(dB (P.bs.getD l default) (gL x l).sh (gL x l).sl bI nh aG bR nw aO (gL x l).tr bl (gL x l).di::(mh++(mw++ []))))) (fun i=>i≤(gL x l).ho.length∧∀j,j<i→((gL x l).ho.getD j default).t≠t) (fun i=>(gL x l).ho.length-i) (0) cm aX ⟨Nat.zero_le _,fun j hj=>absurd hj (Nat.not_lt_zero j)⟩ ?_;rintro i ⟨hi,fM⟩;change af _ _ _ _ _ _ _ (vE b s x.now P::(P.ml++(dB (P.bs.getD l default) (gL x l).sh (gL x l).sl bI nh aG bR nw aO (gL x l).tr bl (gL x l).di::(mh++(mw++ []))))) _ _ _;refine cL ?_;refine af.aj rfl (fun h1=>?_) (fun h1=>?_)
 ·refine gz ?_;refine LM.rd (aH (j:=0) aA ir Tryz.isAgg3 rfl rfl (by first|exact bF om|exact aQ default cJ) rfl (by rfl)) ?_;refine J4 ?_;refine af.aj rfl (fun h2=>?_) (fun h2=>?_)
  ·refine tO ?_;refine LM.rd (aH (j:=2) aA ir Tryz.isAgg4 rfl rfl (by first|exact bF om|exact aQ default cJ) rfl (by rfl)) ?_;refine J2 ?_;refine af.aW rfl (fun h3=>?_) (fun h3=>?_)
   ·refine cL ?_;refine LM.bw (t:=48) rfl (fun h4=>?_) (fun h4=>?_)
    ·refine J6 ?_;refine LM.sp 48 rfl rfl rfl ?_;refine J3 ?_;refine LM.rd (aH (j:=1) aA ir Tryz.isAgg3 rfl rfl (by first|exact bF om|exact aQ default cJ) rfl (by rfl)) ?_;refine J4 ?_;refine af.aj rfl (fun h5=>?_) (fun h5=>?_)
     ·refine Ft ?_;refine qL Tryz.results101 rfl fun w' aq ab aI=>?_;obtain ⟨e1,e2⟩:=rO (L:=gL x l) fM om h2;refine ⟨?_,ab⟩;show Value.int .i64 _=_;unfold dF;rw [if_pos e1,e2];simp only [h1,h2,h3,h4,h5,*] <;>simp_all
     refine lh ?_;refine qL Tryz.results101 rfl fun w' aq ab aI=>?_;obtain ⟨e1,e2⟩:=rO (L:=gL x l) fM om h2;refine ⟨?_,ab⟩;show Value.int .i64 _=_;unfold dF;rw [if_pos e1,e2];simp only [h1,h2,h3,h4,h5,*] <;>simp_all
    refine J27 ?_;refine qL Tryz.results101 rfl fun w' aq ab aI=>?_;obtain ⟨e1,e2⟩:=rO (L:=gL x l) fM om h2;refine ⟨?_,ab⟩;show Value.int .i64 _=_;unfold dF;rw [if_pos e1,e2];simp only [h1,h2,h3,h4,*] <;>simp_all
   refine cf ?_;refine LM.bw (t:=48) rfl (fun h6=>?_) (fun h6=>?_)
   ·refine J6 ?_;refine LM.sp 48 rfl rfl rfl ?_;refine J3 ?_;refine LM.rd (aH (j:=1) aA ir Tryz.isAgg3 rfl rfl (by first|exact bF om|exact aQ default cJ) rfl (by rfl)) ?_;refine J4 ?_;refine af.aj rfl (fun h7=>?_) (fun h7=>?_)
    ·refine Ft ?_;refine qL Tryz.results101 rfl fun w' aq ab aI=>?_;obtain ⟨e1,e2⟩:=rO (L:=gL x l) fM om h2;refine ⟨?_,ab⟩;show Value.int .i64 _=_;unfold dF;rw [if_pos e1,e2];simp only [h1,h2,h3,h6,h7,*] <;>simp_all
    refine lh ?_;refine qL Tryz.results101 rfl fun w' aq ab aI=>?_;obtain ⟨e1,e2⟩:=rO (L:=gL x l) fM om h2;refine ⟨?_,ab⟩;show Value.int .i64 _=_;unfold dF;rw [if_pos e1,e2];simp only [h1,h2,h3,h6,h7,*] <;>simp_all
   refine J27 ?_;refine qL Tryz.results101 rfl fun w' aq ab aI=>?_;obtain ⟨e1,e2⟩:=rO (L:=gL x l) fM om h2;refine ⟨?_,ab⟩;show Value.int .i64 _=_;unfold dF;rw [if_pos e1,e2];simp only [h1,h2,h3,h6,*] <;>simp_all
  refine J8 ?_;refine aK (i+1) ?_ ?_
  · exact⟨by omega,fun j hj=>by rcases Nat.lt_or_ge j i with q|q;exact fM j q;rw [show j=i by omega];assumption⟩
  · omega
 refine dA ?_;refine qL Tryz.results101 rfl fun w' aq ab aI=>?_;refine ⟨?_,ab⟩;show Value.int .i64 0=_;unfold dF;rw [if_neg (by rw [Q5 (L:=gL x l) (fun j hj=>fM j om)];simp)]
theorem pz {n0 b:Nat} {s:eM} {x:aC} {m:aa} (l:Nat) (w:World) (h:dW n0 b s x m) (hl:l<x.lk.length) (hx:(gL x l).ho.length≤900) (hM:Mem w m):aJ Tryz.prog 140 #[.pointer (some ⟨b,0,none⟩),.int .i64 (l:Nat)] w (fun v w'=>v=U (sf (gL x l))∧Ext w w'):=by
 obtain ⟨P,rfl,h⟩:=h;have vr:=h.nl;have te:=h.bl;have fY:=h.sl;obtain ⟨bI,nh,aG,bR,nw,aO,bl,mh,mw,rest,iO,jN,eW,gh,hq⟩:=ui h.sq hl;refine aJ.au Tryz.func140 rfl Tryz.ntmps140 rfl (vE b s x.now P::(P.ml++(dB (P.bs.getD l default) (gL x l).sh (gL x l).sl bI nh aG bR nw aO (gL x l).tr bl (gL x l).di::(mh++(mw++ []))))) (no) (Kh hM hq) ?_;refine Ft ?_;refine LM.rd (bu aA ir Tryz.isAgg54 rfl rfl (by first|exact bF om|exact aQ default cJ) (by rfl)) ?_;refine cf ?_;refine af.aS (α:=Nat) (fun i=>[(5,U (jP (((gL x l).ho.take i).map (·.t)))),(7,.int .i64 (i:Nat))]) [(6,_)] (fun i=>vE b s x.now P::(P.ml++(dB (P.bs.getD l default) (gL x l).sh (gL x l).sl bI nh aG bR nw aO (gL x l).tr bl (gL x l).di::(mh++(mw++ []))))) (fun i=>i≤(gL x l).ho.length) (fun i=>(gL x l).ho.length-i) (0) ⟨(by first|exact lk rfl (by rw [List.take_zero];rfl)|exact lk rfl (by rw [ia default om,xA])),j8,rfl,trivial⟩ aX (Nat.zero_le _) ?_;rintro i hi;change af _ _ _ _ _ _ _ (vE b s x.now P::(P.ml++(dB (P.bs.getD l default) (gL x l).sh (gL x l).sl bI nh aG bR nw aO (gL x l).tr bl (gL x l).di::(mh++(mw++ []))))) _ _ _;refine cL ?_;refine af.aj rfl (fun h1=>?_) (fun h1=>?_)
 ·refine gz ?_;refine LM.rd (aH (j:=0) aA ir Tryz.isAgg3 rfl rfl (by first|exact bF om|exact aQ default cJ) rfl (by rfl)) ?_;refine cE Tryz.func149 rfl (fun w hm hc hg=>pA _ _ w) ?_;refine J9 ?_;refine QM.cT (i+1) ⟨(by first|exact lk rfl (by rw [List.take_zero];rfl)|exact lk rfl (by rw [ia default om,xA])),j8,rfl,trivial⟩ aX (fun _ h=>h) ?_ ?_
  · omega
  · omega
 refine cL ?_;refine qL Tryz.results140 rfl fun w' aq ab aI=>?_;have fp:i=(gL x l).ho.length:=om;subst fp;rw [List.take_length];exact⟨rfl,ab⟩
theorem uQ {n0 b:Nat} {s:eM} {x:aC} {m:aa} (l:Nat) (w:World) (h:dW n0 b s x m) (hl:l<x.lk.length) (hx:(gL x l).ho.length≤900) (hx8:(gL x l).wt.length≤8) (hM:Mem w m):aJ Tryz.prog 102 #[.pointer (some ⟨b,0,none⟩),.int .i64 (l:Nat)] w (eF m (fun u m'=>u= .tuple #[]∧dW n0 b s (BJ x l) m') w):=by
 obtain ⟨P,rfl,h⟩:=h;have hI:=h;have vr:=h.nl;have te:=h.bl;have fY:=h.sl;have O0:=h.nx;obtain ⟨ig,ii,il,ip,ix,it,iv,ie,ic,iq⟩:=bM (ay (az b s x.now P) w.heap.size);obtain ⟨bI,nh,aG,bR,nw,aO,bl,mh,mw,rest,iO,jN,eW,gh,hq⟩:=ui h.sq hl;refine aJ.au Tryz.func102 rfl Tryz.ntmps102 rfl (az b s x.now P++ []) ((fQ (az b s x.now P))) aM ?_;refine J8 ?_;refine LM.rd (bu aA ir Tryz.isAgg54 rfl rfl (by first|exact bF om|exact aQ default cJ) (by rfl)) ?_;refine J9 ?_;refine af.aS (α:=Nat×Gr×aa) (fun ⟨i,g,mg⟩=>[(5,.int .i64 (i:Nat))]) [(0,_),(1,_),(4,_)] (fun ⟨i,g,mg⟩=>vE b s x.now P::gR P.bg P.ax P.nx P.cx::(P.mi++(P.ml++(P.mg++(mg++(P.mt++(P.mv++(P.me++(P.mc++(P.mq++ [])))))))))) (fun ⟨i,g,mg⟩=>i≤(gL x l).wt.length∧g=Hy (gL x l) x.g i∧g.length=64∧Sl fU 41 1 n0 g (.slice P.ax P.nx P.cx) mg∧c6 (az b s x.now P) w.heap.size mg) (fun ⟨i,g,mg⟩=>(gL x l).wt.length-i) ((0,x.g,P.mx)) cm aX ⟨Nat.zero_le _,rfl,h.gl,h.sx,ix⟩ ?_;rintro ⟨i,g,mg⟩ ⟨hi,hg,wu,B9,T0⟩;change af _ _ _ _ _ _ _ (vE b s x.now P::gR P.bg P.ax P.nx P.cx::(P.mi++(P.ml++(P.mg++(mg++(P.mt++(P.mv++(P.me++(P.mc++(P.mq++ [])))))))))) _ _ _;have OJ:((gL x l).wt.map eD).length=(gL x l).wt.length:=List.length_map ..;refine J7 ?_;refine LM.eR (fun w hm hc hg=>fD (M:=dB (P.bs.getD l default) (gL x l).sh (gL x l).sl bI nh aG bR nw aO (gL x l).tr bl (gL x l).di::(mh++(mw++ []))) Tryz.isAgg56 rfl rfl w (((hm.pick P.mq).perm hq).sub (List.sublist_append_left _ _))) ?_;refine J4 ?_;refine af.aj rfl (fun h1=>?_) (fun h1=>?_)
 ·refine J4 ?_;refine af.draw [(0,0),(1,0),(2,0),(3,1),(4,0),(5,0),(6,0),(7,1),(8,0),(9,0),(10,0),(11,1),(12,0),(13,0),(14,2),(15,3)] kr kr ?_;refine J7 ?_;refine LD.eR rfl rfl (fun w hm hc hg=>fD (M:=dB (P.bs.getD l default) (gL x l).sh (gL x l).sl bI nh aG bR nw aO (gL x l).tr bl (gL x l).di::(mh++(mw++ []))) Tryz.isAgg56 rfl rfl w (((hm.pick P.mq).perm hq).sub (List.sublist_append_left _ _))) ?_;refine J3 ?_;refine LD.eR rfl rfl (fun w hm hc hg=>aH (M:=dB (P.bs.getD l default) (gL x l).sh (gL x l).sl bI nh aG bR nw aO (gL x l).tr bl (gL x l).di::(mh++(mw++ []))) (j:=0) gh ir Tryz.isAgg3 rfl rfl (by exact aQ default om) rfl (by rfl) w (((hm.pick P.mq).perm hq).sub (List.sublist_append_left _ _))) ?_;refine J2 ?_;refine dE rfl rfl Tryz.func140 rfl (fun w hm hc hg=>pz l w (⟨{P with mx:=mg},rfl,{hI with gl:=wu,sx:=B9}⟩:dW n0 b s {x with g:=g} _) hl hx (hm.pick (az b s x.now {P with mx:=mg}))) ?_;refine LD.tail rfl rfl ?_;refine cU Tryz.func142 rfl (fun w hm hc hg=>vV P.bg _ _ w wu O0 B9 (sm hm)) B9.bX (ao T0) ?_;rintro u37 Pj ⟨rfl,pH⟩ vg;rw [acQ (show i<(gL x l).wt.length by omega)] at pH;refine J1 ?_;refine QM.qn ?_;refine J7 ?_;refine aK (i+1,CM g ((gL x l).wt.getD i default).who (sf (gL x l)),Pj) ?_ ?_
  · exact⟨by omega,by rw [GZ om,←hg],zl wu _ _,pH,ak T0 vg⟩
  · (dsimp only;omega)
 refine J4 ?_;refine QM.leave (.inr rfl) [] Tryz.results102 rfl ?_;intro w' aq ab aI;have fp:i=(gL x l).wt.length:=om;subst fp;exact ye (P:= {P with mx:=mg}) (x:=BJ x l) {hI with gl:=(by rw [hg] at wu;rw [BB] at wu;exact wu),sx:=(by rw [hg,BB] at B9;exact B9)} aq aX ab aL
theorem uI {n0 b:Nat} {s:eM} {x:aC} {m:aa} (pr gr we co:Int) (w:World) (h:dW n0 b s x m) (uc:x.ts.length≤64) (hvl:x.v.length≤64) (zV:x.ev.length≤1000000000000) (cb:n0≤w.heap.size) (hM:Mem w m):aJ Tryz.prog 30 #[.pointer (some ⟨b,0,none⟩),.int .i64 pr,.int .i64 gr,.int .i64 we,.int .i64 co] w (eF m (fun u m'=>u= .tuple #[]∧dW n0 b s (oT x pr gr we co) m') w):=by
 obtain ⟨P,rfl,h⟩:=h;have rB:=h.nt;have er:=h.st;have ZB:=h.nv;have Vz:=h.sv;obtain ⟨ig,ii,il,ip,ix,it,iv,ie,ic,iq⟩:=bM (ay (az b s x.now P) w.heap.size);refine aJ.au Tryz.func30 rfl Tryz.ntmps30 rfl (az b s x.now P++ []) ((fQ (az b s x.now P))) aM ?_;refine YD ?_;refine LM.val (aD (cs:=(Gc (Eb (P.nt:Nat) pr gr we co)).toArray) rfl kr) ?_;refine LM.single Tryz.underlying45 Tryz.sizeOf66 Tryz.zeroValue66 rfl rfl rfl rfl rfl (fun b28 alI=>?_);refine LM.app (a:=Eb (P.nt:Nat) pr gr we co) Tryz.underlying45 Tryz.typeInfo66 rfl rfl rfl rfl rfl rfl rfl aA (by rfl) ir (by intro _ u hu;simp [Gc] at hu;(repeat (first|(rcases hu with rfl|hu)|subst hu|rfl))) (by first|exact Nat.le_refl _|omega) (ao aA) (by first|omega|(unfold maxLen;omega)) (by simp only [Tryz.t66];omega) (fun Ro Zt Jl SA aeo Ln FF=>?_);have al6:=ak aA FF;refine J2 ?_;refine LM.st Tryz.sizeOf45 rfl rfl rfl ez rfl tw ?_;refine J9 ?_;refine LM.single Tryz.underlying46 Tryz.sizeOf41 Tryz.zeroValue41 rfl rfl rfl rfl rfl (fun b37 VG=>?_);refine LM.app (a:=0#64) Tryz.underlying46 Tryz.typeInfo41 rfl rfl rfl rfl rfl rfl rfl aA (by rfl) ir (by intro _ u hu;simp [fU] at hu;(repeat (first|(rcases hu with rfl|hu)|subst hu|rfl))) (by first|exact Nat.le_refl _|omega) (ao aA) (by first|omega|(unfold maxLen;omega)) (by simp only [Tryz.t41];omega) (fun HM Qo xj R1 Q8 Jy s5=>?_);have abV:=ak aA s5;refine J2 ?_;refine LM.st Tryz.sizeOf46 rfl rfl rfl ez rfl tw ?_;refine LM.mem (aT.mem (M':=az b s x.now {P with Dx:=Ro,nt:=Zt,ct:=Jl,av:=HM,nv:=Qo,cv:=xj,mt:=SA,mv:=R1} ++ []) aX) ?_;refine dA ?_;refine cU Tryz.func66 rfl (fun w hm hc hg=>wc co (P.nt:Nat) 0#64 we w h.sc (Nat.le_trans cb hc.size) (hm.pick P.mc)) h.sc.bX (ao ic) ?_;rintro u48 m48 ⟨rfl,Y9⟩ KT;have i48:=ak ic KT;have wF:dW n0 b s {x with ts:=x.ts++ [Eb x.ts.length pr gr we co],v:=x.v++ [0#64],cs:=dx x.cs co x.ts.length 0#64 we} _:=⟨{P with Dx:=Ro,nt:=Zt,ct:=Jl,av:=HM,nv:=Qo,cv:=xj,mt:=SA,mv:=R1,mc:=m48},rfl,{h with nt:=(by show Zt=(x.ts++ [_]).length;rw [List.length_append,List.length_singleton];omega),nv:=(by show Qo=(x.v++ [_]).length;rw [List.length_append,List.length_singleton];omega),st:=(by rw [rB] at Ln;exact Ln),sv:=Jy,sc:=(by rw [rB] at Y9;exact Y9)}⟩
 refine J6 ?_;refine cU Tryz.func55 rfl (fun w hm hc hg=>bV 1 (P.nt:Nat) (-1) co w wF zV (Nat.le_trans cb hc.size) (hm.pick _)) wF.bX (ao aL) ?_;rintro u52 Co ⟨rfl,h52⟩ Fb;refine J1 ?_;refine QM.leave (.inr rfl) [] Tryz.results30 rfl ?_;intro w' aq ab aI;exact aZ (m':=Co) ⟨rfl,(by rw [rB] at h52;exact h52)⟩ aq aX ab (ak aL Fb)
theorem pD {n0 b:Nat} {s:eM} {x:aC} {m:aa} (t:Nat) (w:World) (h:dW n0 b s x m) (ht:t<x.ts.length) (hv:x.v.length=x.ts.length) (zV:x.ev.length≤1000000000000) (cb:n0≤w.heap.size) (hM:Mem w m):aJ Tryz.prog 60 #[.pointer (some ⟨b,0,none⟩),.int .i64 (t:Nat)] w (eF m (fun u m'=>u= .tuple #[]∧dW n0 b s (fe x t) m') w):=by
 obtain ⟨P,rfl,h⟩:=h;have rB:=h.nt;have er:=h.st;have ZB:=h.nv;have Vz:=h.sv;obtain ⟨ig,ii,il,ip,ix,it,iv,ie,ic,iq⟩:=bM (ay (az b s x.now P) w.heap.size);refine aJ.au Tryz.func60 rfl Tryz.ntmps60 rfl (az b s x.now P++ []) ((fQ (az b s x.now P))) aM ?_;refine J9 ?_;refine LM.iB ({gT x t with st:=1}) (j:=6) aA ir Tryz.sizeOf3 rfl rfl rfl (by first|exact bF om|exact aQ default cJ) rfl (by decide) (by rfl) rfl (ao aA) (fun l5 de dJ=>?_)
 try rw [List.set_set] at de
 have G2:=ca dJ aA;refine dA ?_;refine LM.iB ({gT x t with st:=1,un:=0#64}) (j:=7) aA ir Tryz.sizeOf41 rfl rfl rfl (by first|exact bF om|exact aQ default cJ) rfl (by decide) (by rfl) rfl (ao aA) (fun jU fR kf=>?_)
 try rw [List.set_set] at fR
 have H0:=ca kf aA;refine dA ?_;refine LM.iB (Jf (gT x t)) (j:=8) aA ir Tryz.sizeOf3 rfl rfl rfl (by first|exact bF om|exact aQ default cJ) rfl (by decide) (by rfl) rfl (ao aA) (fun qa ki rL=>?_)
 try rw [List.set_set] at ki
 have QZ:=ca rL aA;refine J3 ?_;refine af.draw [(0,0),(1,0),(2,0),(3,1),(4,0),(5,0),(6,0),(7,1),(8,0),(9,0),(10,0),(11,1),(12,0),(13,0),(14,0),(15,0),(16,1),(17,0),(18,0),(19,1),(20,0),(21,0),(22,0),(23,1),(24,0),(25,0),(26,0),(27,1),(28,3)] kr kr ?_;refine dA ?_;refine LD.rd rfl rfl (aH (j:=3) aA ir Tryz.isAgg3 rfl rfl (by first|exact bF om|exact aQ default cJ) rfl (by rfl)) ?_;refine J7 ?_;refine LD.rd rfl rfl (bu aA ir Tryz.isAgg41 rfl rfl (by first|exact bF om|exact aQ 0#64 cJ) (by rfl)) ?_;refine J7 ?_;refine LD.rd rfl rfl (aH (j:=10) aA ir Tryz.isAgg3 rfl rfl (by first|exact bF om|exact aQ default cJ) rfl (by rfl)) ?_;refine LD.tail rfl rfl ?_;refine cU Tryz.func66 rfl (fun w hm hc hg=>wc (gT x t).co (t:Nat) (x.v.getD t 0#64) (gT x t).ef w h.sc (Nat.le_trans cb hc.size) (hm.pick P.mc)) h.sc.bX (ao ic) ?_;rintro u53 m53 ⟨rfl,aeP⟩ Xi;have i53:=ak ic Xi;have wF:dW n0 b s {dh x t (Jf (gT x t)) with cs:=dx x.cs (gT x t).co t (x.v.getD t 0#64) (gT x t).ef} (az b s x.now {P with mt:=qa,mc:=m53}):=⟨_,rfl,{h with nt:=(by show P.nt=(x.ts.set t _).length;rw [List.length_set];exact rB),st:=ki,sc:=aeP}⟩
 refine J1 ?_;refine QM.qn ?_;refine dA ?_;refine LM.rd (aH (j:=3) aA ir Tryz.isAgg3 rfl rfl (by first|exact bF om|exact aQ default cJ) rfl (by rfl)) ?_;refine cU Tryz.func55 rfl (fun w hm hc hg=>bV 7 (t:Nat) (-1) (gT x t).co w wF zV (Nat.le_trans cb hc.size) (hm.pick _)) wF.bX (ao aL) ?_;rintro u64 m64 ⟨rfl,zZ⟩ uU;refine J1 ?_;refine QM.leave (.inr rfl) [] Tryz.results60 rfl ?_;intro w' aq ab aI;exact aZ (m':=m64) ⟨rfl,zZ⟩ aq aX ab (ak aL uU)
theorem px {n0 b:Nat} {s:eM} {x:aC} {m:aa} (t:Nat) (w:World) (h:dW n0 b s x m) (hv:t<x.v.length) (cb:n0≤w.heap.size) (hM:Mem w m):aJ Tryz.prog 72 #[.pointer (some ⟨b,0,none⟩),.int .i64 (t:Nat)] w (eF m (fun u m'=>u= .tuple #[]∧dW n0 b s (eC x t) m') w):=by
 obtain ⟨P,rfl,h⟩:=h;have ZB:=h.nv;have Vz:=h.sv;obtain ⟨ig,ii,il,ip,ix,it,iv,ie,ic,iq⟩:=bM (ay (az b s x.now P) w.heap.size);refine aJ.au Tryz.func72 rfl Tryz.ntmps72 rfl (az b s x.now P++ []) ((fQ (az b s x.now P))) aM ?_;refine J7 ?_;refine cU Tryz.func110 rfl (fun w hm hc hg=>D8 (t:Nat) w h.sc (Nat.le_trans cb hc.size) (hm.pick P.mc)) h.sc.bX (ao ic) ?_;rintro u12 m12 ⟨rfl,Zk⟩ VC;have i12:=ak ic VC;refine cL ?_;refine af.aj rfl (fun h1=>?_) (fun h1=>?_)
 ·refine J8 ?_;refine LM.iB (vU x.cs t) (j:=0) aA ir Tryz.sizeOf41 rfl rfl rfl (by first|exact bF om|exact aQ 0#64 cJ) rfl (by decide) (by rfl) rfl (ao aA) (fun l5 de dJ=>?_)
  try rw [List.set_set] at de
  have G2:=ca dJ aA;refine J1 ?_;refine QM.leave (.inr rfl) [] Tryz.results72 rfl ?_;intro w' aq ab aI;exact ye (P:= {P with mv:=l5,mc:=m12}) (x:=eC x t) {h with nv:=(by rw [Fa h1,List.length_set];exact ZB),sv:=(by rw [Fa h1];exact de),sc:=Zk} aq aX ab aL
 refine J1 ?_;refine QM.leave (.inr rfl) [] Tryz.results72 rfl ?_;intro w' aq ab aI;exact ye (P:= {P with mc:=m12}) (x:=eC x t) {h with nv:=(by rw [K4 h1];exact ZB),sv:=(by rw [K4 h1];exact Vz),sc:=Zk} aq aX ab aL
end Go.Eng
namespace Go.Eng
open Go Go.RowKit
/-! ### cores -/
theorem oy {q q':Qm} (h:q'.l.map (·.id)=q.l.map (·.id)) (b:Int):cd q' b↔cd q b:=by
  have e:∀(x:Qm),cd x b↔b∈x.l.map (·.id):=fun x=>by
    unfold cd;rw [iF,List.mem_map]
  rw [e,e,h]
structure CI (n k:Nat) (cs:List Qm):Prop where
  wf:rq cs
  id:∀c,c<cs.length→∀a,cd (qg cs c) a→a<(n:Int)
  rn:∀c,c<cs.length→(qg cs c).cI≤(k:Int)+8
theorem CI.mono {n n' k k':Nat} {cs:List Qm} (h:CI n k cs) (hn:n≤n') (hk:k≤k'):CI n' k' cs:=⟨h.wf,fun c hc a ha=>by have:=h.id c hc a ha;omega,fun c hc=>by have:=h.rn c hc;omega⟩
theorem CI.set {n k:Nat} {cs:List Qm} (h:CI n k cs) {c:Nat} (hc:c<cs.length) {q:Qm} (hq:lr q) (he:q.l.map (·.id)=(qg cs c).l.map (·.id)) (hr:q.cI≤(k:Int)+8):CI n k (cs.set c q):=by
  have hl:q.l.length=(qg cs c).l.length:=by have:=congrArg List.length he;rw [List.length_map,List.length_map] at this;exact this
  refine ⟨h.wf.set hc hq (fun j b hj hjc hb q'=>hjc (h.wf.one j c b hj hc q' ((oy he b).1 hb))) (by have:=h.wf.all;omega),fun d hd a ha=>?_,fun d hd=>?_⟩
  · rw [List.length_set] at hd;rw [bJ hc] at ha
    by_cases e:c=d
    · rw [if_pos e] at ha;exact h.id c hc a ((oy he a).1 ha)
    · rw [if_neg e] at ha;exact h.id d hd a ha
  · rw [List.length_set] at hd;rw [bJ hc]
    by_cases e:c=d
    · rw [if_pos e];exact hr
    · rw [if_neg e];exact h.rn d hd
theorem CI.V3 {n k:Nat} {cs:List Qm} (h:CI n k cs) {c:Nat} (hc:c<cs.length) {a:Int} (ha:0≤a) (hn:¬bO cs a<cs.length) (hf:eB cs<16) (v:BitVec 64) (w:Int) (han:a<n):CI n k (cs.set c (rf (qg cs c) a v w)):=by
  refine ⟨yc h.wf hc ha hn hf v w,fun d hd b hb=>?_,fun d hd=>?_⟩
  · rw [List.length_set] at hd;rw [bJ hc] at hb
    by_cases e:c=d
    · rw [if_pos e,has_add] at hb
      rcases hb with hb|rfl
      · exact h.id c hc b hb
      · exact han
    · rw [if_neg e] at hb;exact h.id d hd b hb
  · rw [List.length_set] at hd;rw [bJ hc]
    by_cases e:c=d
    · rw [if_pos e];exact h.rn c hc
    · rw [if_neg e];exact h.rn d hd
theorem CI.add {n k:Nat} {cs:List Qm} (h:CI n k cs) (co a:Int) (v:BitVec 64) (w:Int) (han:a<n):CI n k (dx cs co a v w):=by
  unfold dx
  split
  · next e=>
    unfold ik at e
    split at e
    · cases e
    split at e
    · cases e
    split at e
    · cases e
    exact h.V3 om om aA om v w han
  · exact h
theorem fZ (cs:List Qm) (co a:Int) (v:BitVec 64) (w:Int):(dx cs co a v w).length=cs.length:=by unfold dx;split;exact List.length_set;rfl
theorem CI.X0 {n k:Nat} {cs:List Qm} (h:CI n k cs) {a:Int} (ha:bO cs a<cs.length):CI n k (cs.set (bO cs a) (iy (qg cs (bO cs a)) a)):=by
  refine ⟨yw h.wf ha,fun d hd b hb=>?_,fun d hd=>?_⟩
  · rw [List.length_set] at hd;rw [bJ ha] at hb
    by_cases e:bO cs a=d
    · rw [if_pos e,oD (h.wf.wf _ ha) (c8 ha)] at hb;exact h.id _ ha b hb.1
    · rw [if_neg e] at hb;exact h.id d hd b hb
  · rw [List.length_set] at hd;rw [bJ ha]
    by_cases e:bO cs a=d
    · rw [if_pos e];unfold iy;split
      · show (0:Int)≤_;omega
      · exact h.rn _ ha
    · rw [if_neg e];exact h.rn d hd
theorem CI.rem {n k:Nat} {cs:List Qm} (h:CI n k cs) (a:Int):CI n k (gI cs a):=by
  unfold gI;split
  · exact h.X0 aA
  · exact h
theorem oQ (cs:List Qm) (a:Int):(gI cs a).length=cs.length:=by unfold gI;split;exact List.length_set;rfl
theorem CI.wgh {n k:Nat} {cs:List Qm} (h:CI n k cs) (a w:Int):CI n k (kc cs a w):=by
  unfold kc;split
  · next ha=>
    have hh:=c8 ha;rw [show l7 (qg cs (bO cs a)) a w=gK (qg cs (bO cs a)) a w from if_pos hh];refine h.set ha (AN (h.wf.wf _ ha) hh) (gU hh rfl) ?_
    show (if _ then _ else _)≤_
    have hg:=(h.wf.wf _ ha).g;have:=h.rn _ ha
    split<;>omega
  · exact h
theorem Fs (cs:List Qm) (a w:Int):(kc cs a w).length=cs.length:=by unfold kc;split;exact List.length_set;rfl
theorem CI.back {n k:Nat} {cs:List Qm} (h:CI n k cs) {c:Nat} (hc:c<cs.length):CI n k (cs.set c (fj (qg cs c))):=h.set hc (FB (h.wf.wf _ hc)) rfl (by show (0:Int)≤_;omega)
theorem CI.ZC {n k:Nat} {cs:List Qm} (h:CI n k cs) {c:Nat} (hc:c<cs.length):CI n k (cs.set c (qj (qg cs c))):=by
  refine h.set hc (SX (h.wf.wf _ hc)) (by unfold qj;split<;>rfl) ?_
  unfold qj;split
  · exact h.rn c hc
  · show (0:Int)≤_;omega
theorem CI.tick {n k:Nat} {cs:List Qm} (h:CI n k cs) {c:Nat} (hc:c<cs.length):CI n (k+1) (cs.set c (fi (qg cs c))):=by
  refine (h.mono (Nat.le_refl n) (Nat.le_succ k)).set hc (EP (h.wf.wf _ hc)) ?_ ?_
  · unfold fi;split
    · next q=>exact gU ((h.wf.wf _ hc).ix q) ((iX ((h.wf.wf _ hc).ix q)).1)
    · rfl
  · have:=h.rn c hc
    unfold fi;split
    · show _+1≤_;omega
    · omega
theorem md {cs:List Qm} (f:Qm→Qm):(cs.map f).length=cs.length:=List.length_map ..
theorem vj {cs:List Qm} {f:Qm→Qm} {c:Nat} (h:c<cs.length):qg (cs.map f) c=f (qg cs c):=by
  unfold qg;rw [List.getD_eq_getElem?_getD,List.getD_eq_getElem?_getD,List.getElem?_map,List.getElem?_eq_getElem h];rfl
theorem CI.aem {n k:Nat} {cs:List Qm} (h:CI n k cs):CI n k (cs.map eV):=by
  have hk:∀c,c<cs.length→∀a,cd (qg (cs.map eV) c) a↔cd (qg cs c) a:=fun c hc a=>by
    rw [vj hc];exact oy (by rw [(eg _).1]) a
  refine ⟨⟨by rw [md];exact h.wf.len,fun c hc=>?_,fun i j a hi hj h1 h2=>?_,?_⟩,fun c hc a ha=>?_,fun c hc=>?_⟩
  · rw [md] at hc;rw [vj hc];exact tZ (h.wf.wf c hc)
  · rw [md] at hi hj;exact h.wf.one i j a hi hj ((hk i hi a).1 h1) ((hk j hj a).1 h2)
  · have e:eB (cs.map eV)=eB cs:=by
      unfold eB;rw [List.map_map];congr 1
      exact List.map_congr_left (fun q _=>by show (eV q).l.length=_;rw [(eg q).1])
    rw [e];exact h.wf.all
  · rw [md] at hc;exact h.id c hc a ((hk c hc a).1 ha)
  · rw [md] at hc;rw [vj hc,(eg _).2.2.1];exact h.rn c hc
theorem CI.Zl {n k:Nat} {cs:List Qm} (h:CI n k cs) {a:Int} {to:Nat} (ha:bO cs a<cs.length) (ht:to<cs.length) (eb:to≠bO cs a):CI n k (gb cs a to):=by
  obtain ⟨h1,h2,h3,h4,h5⟩:=zx h.wf ha ht eb;rw [ur h.wf ha ht eb];exact CI.V3 (h.X0 ha) h2 h3 h4 h5 _ _ (h.id _ ha a (c8 ha))
theorem qw (cs:List Qm) (a:Int) (to:Nat):(gb cs a to).length=cs.length:=by unfold gb eo;rw [List.length_set,List.length_set]
theorem CI.Wn {n k:Nat} {cs:List Qm} (h:CI n k cs):CI n k (jz cs):=by
  unfold jz
  split
  · exact h
  · next t e=>
    obtain ⟨h1,h2,h3,h4,h5,h6,h7⟩:=kF h.wf e;exact h.Zl (by rw [h4];exact h5) h6 h7
theorem O2 (cs:List Qm):(jz cs).length=cs.length:=by unfold jz;split;rfl;exact qw ..
theorem CI.Ym {n k:Nat} {cs:List Qm} (h:CI n k cs) (co a:Int):CI n k (jF cs co a):=by
  unfold jF
  split
  · next e=>
    unfold eH at e
    split at e
    · cases e
    split at e
    · cases e
    split at e
    · cases e
    split at e
    · cases e
    exact h.Zl om om om
  · exact h
theorem Ox (cs:List Qm) (co a:Int):(jF cs co a).length=cs.length:=by unfold jF;split;exact qw ..;rfl
/-! who is in a queue behind it -/
theorem By {cs:List Qm} {co a:Int} {v:BitVec 64} {w:Int} {c:Nat} {b:Int} (h:cd (qg (dx cs co a v w) c) b):cd (qg cs c) b∨b=a:=by
  unfold dx at h;split at h
  · next e=>
    have r4:co.toNat<cs.length:=by unfold ik at e;split at e;cases e;omega
    rw [bJ r4] at h
    by_cases q:co.toNat=c
    · rw [if_pos q,has_add] at h;rw [←q];exact h
    · rw [if_neg q] at h;exact .inl h
  · exact .inl h
theorem Bb {cs:List Qm} (co a:Int) (v:BitVec 64) (w:Int) {b:Int} (h:bO cs b<cs.length):bO (dx cs co a v w) b<(dx cs co a v w).length:=by
  refine Classical.byContradiction fun n=>?_;have hh:=c8 h;have hn:=wo n (i:=bO cs b) (by rw [fZ];exact h)
  unfold dx at hn;split at hn
  · next e=>
    have r4:co.toNat<cs.length:=by unfold ik at e;split at e;cases e;omega
    rw [bJ r4] at hn
    by_cases q:co.toNat=bO cs b
    · rw [if_pos q,has_add,q] at hn;exact hn (.inl hh)
    · rw [if_neg q] at hn;exact hn hh
  · exact hn hh
theorem qH {cs:List Qm} (hw:rq cs) {a:Int} {c:Nat} (hc:c<cs.length) {b:Int} (h:cd (qg (gI cs a) c) b):cd (qg cs c) b∧b≠a:=by
  unfold gI at h;split at h
  · next e=>
    have hn:=FM hw e;refine ⟨?_,fun q=>?_⟩
    · rw [bJ e] at h
      by_cases q:bO cs a=c
      · rw [if_pos q,oD (hw.wf _ e) (c8 e),q] at h;exact h.1
      · rw [if_neg q] at h;exact h
    · rw [q] at h;exact wo hn (i:=c) (by rw [List.length_set];exact hc) h
  · next e=>exact⟨h,fun q=>by rw [q] at h;exact wo e hc h⟩
theorem jE {cs:List Qm} {c:Nat} (hc:c<cs.length) {q:Qm} (he:q.l.map (·.id)=(qg cs c).l.map (·.id)) {d:Nat} {b:Int} (h:cd (qg (cs.set c q) d) b):cd (qg cs d) b:=by
  rw [bJ hc] at h
  by_cases e:c=d
  · rw [if_pos e] at h;rw [←e];exact(oy he b).1 h
  · rw [if_neg e] at h;exact h
theorem AR {cs:List Qm} {a w:Int} {d:Nat} {b:Int} (h:cd (qg (kc cs a w) d) b):cd (qg cs d) b:=by
  unfold kc at h;split at h
  · next ha=>
    have hh:=c8 ha;rw [show l7 (qg cs (bO cs a)) a w=gK (qg cs (bO cs a)) a w from if_pos hh] at h;exact jE ha (gU hh rfl) h
  · exact h
theorem Bg {cs:List Qm} {d:Nat} (hd:d<cs.length) {b:Int} (h:cd (qg (cs.map eV) d) b):cd (qg cs d) b:=by
  rw [vj hd] at h;exact(oy (by rw [(eg _).1]) b).1 h
theorem BF {cs:List Qm} (hw:rq cs) {a:Int} {to:Nat} (ha:bO cs a<cs.length) (ht:to<cs.length) (eb:to≠bO cs a) {d:Nat} (hd:d<cs.length) {b:Int} (h:cd (qg (gb cs a to) d) b):∃e,e<cs.length∧cd (qg cs e) b:=by
  rw [ur hw ha ht eb,bJ (by unfold eo;rw [List.length_set];exact ht)] at h
  have key:∀e,cd (qg (eo cs a) e) b→cd (qg cs e) b:=fun e q=>by
    unfold eo at q;rw [bJ ha] at q
    by_cases z:bO cs a=e
    · rw [if_pos z,oD (hw.wf _ ha) (c8 ha),z] at q;exact q.1
    · rw [if_neg z] at q;exact q
  by_cases e:to=d
  · rw [if_pos e,has_add] at h
    rcases h with h|rfl
    · exact⟨to,ht,key to h⟩
    · exact⟨_,ha,c8 ha⟩
  · rw [if_neg e] at h;exact⟨d,hd,key d h⟩
/-! ### locks -/
structure gO (P:Int→Prop) (L:aY):Prop where
  ho:∀h∈L.ho,P h.t
  wt:∀w∈L.wt,P w.who
theorem gO.settle {P:Int→Prop} {L:aY} (h:gO P L):gO P (cu L):=⟨h.ho,h.wt⟩
theorem Br (L:aY) (p:Int) (n:Nat):(cQ L p n).length≤L.wt.length:=by
  unfold cQ LF;rw [List.length_map,List.length_take]
  have:=List.length_filter_le (fun w:Wt=>decide (w.key=p)) L.wt;omega
theorem gO.cQ {P:Int→Prop} {L:aY} (h:gO P L) (p:Int) (n:Nat):∀t∈cQ L p n,P t:=fun t ht=>by
  obtain ⟨w,hw,rfl,_⟩:=qi ht;exact h.wt w hw
theorem gO.Lk {P:Int→Prop} {L:aY} (h:gO P L) (p:Int) (n:Nat):gO P (lX L p n):=by
  rw [eU];refine ⟨fun g hg=>?_,fun w hw=>h.wt w (oS.1 hw).1⟩;rcases List.mem_append.1 hg with hg|hg
  · exact h.ho g hg
  · refine h.cQ p n g.t ?_
    rw [←A3 p L.di (Go.Eng.cQ L p n)];exact List.mem_map_of_mem hg
theorem gO.iN {P:Int→Prop} {L:aY} (h:gO P L):∀t∈iN L,P t:=fun t ht=>by
  unfold Go.Eng.iN at ht;split at ht
  · cases ht
  · exact h.cQ _ _ t ht
theorem gO.pass {P:Int→Prop} {L:aY} (h:gO P L):gO P (kb L):=by
  unfold kb;split
  · exact h
  · exact gO.Lk (L:=dp L) ⟨h.ho,h.wt⟩ _ _
theorem gO.take {P:Int→Prop} {L:aY} (h:gO P L) (t p:Int) (ht:P t):gO P (cD L t p):=by
  unfold cD;split
  · exact h
  · refine gO.settle ⟨fun g hg=>?_,fun w hw=>h.wt w (by rw [←vN L p];exact hw)⟩
    rcases List.mem_append.1 hg with hg|hg
    · exact h.ho g (by rw [(eJ L p).2.1] at hg;exact hg)
    · rw [List.mem_singleton] at hg;rw [hg];exact ht
theorem gO.wait {P:Int→Prop} {L:aY} (h:gO P L) (t p:Int) (ht:P t):gO P (dv L t p):=by
  unfold dv;split
  · exact h
  · refine gO.settle ⟨h.ho,fun w hw=>?_⟩
    rcases List.mem_append.1 hw with hw|hw
    · exact h.wt w hw
    · rw [List.mem_singleton] at hw;rw [hw];exact ht
theorem gO.out {P:Int→Prop} {L:aY} (h:gO P L) (t:Int):gO P (eY L t):=⟨fun g hg=>h.ho g (List.mem_of_mem_eraseIdx hg),h.wt⟩
theorem gO.At {P:Int→Prop} {L:aY} (h:gO P L) (t:Int):gO P (ej L t):=by
  unfold ej;split
  · split
    · exact(h.out t).pass.settle
    · exact(h.out t).settle
  · exact h
theorem gO.dY {P:Int→Prop} {L:aY} (h:gO P L) (t:Int):∀u∈dY L t,P u:=fun u hu=>by
  unfold Go.Eng.dY at hu;split at hu
  · exact(h.out t).iN u hu
  · cases hu
theorem gO.gone {P:Int→Prop} {L:aY} (h:gO P L) (t:Int):gO P (cV L t):=⟨h.ho,fun w hw=>h.wt w (List.mem_filter.1 hw).1⟩
theorem gO.lv {P:Int→Prop} {L:aY} (h:gO P L) (t:Int):gO P (fx L t):=by
  unfold fx;split
  · split
    · exact((h.gone t).Lk _ _).settle
    · exact(h.gone t).settle
  · exact h
theorem gO.pd {P:Int→Prop} {L:aY} (h:gO P L) (t:Int):∀u∈pd L t,P u:=fun u hu=>by
  unfold Go.Eng.pd at hu;split at hu
  · exact(h.gone t).cQ _ _ u hu
  · cases hu
theorem gO.die {P:Int→Prop} {L:aY} (h:gO P L) (t:Int):gO P (rm L t):=by
  unfold rm;split
  · exact h.lv t
  · split
    · exact gO.At (L:= {L with di:=true}) ⟨h.ho,h.wt⟩ t
    · exact h
theorem gO.ud {P:Int→Prop} {L:aY} (h:gO P L) (t:Int):∀u∈ud L t,P u:=fun u hu=>by
  unfold Go.Eng.ud at hu;split at hu
  · exact h.pd t u hu
  · exact gO.dY (L:= {L with di:=true}) ⟨h.ho,h.wt⟩ t u hu
theorem gO.xG {P:Int→Prop} {L:aY} (h:gO P L) (t:Int):gO P (iU L t):=by unfold iU;split;exact⟨h.ho,h.wt⟩;exact h
theorem gO.PK {P:Int→Prop} {L:aY} (h:gO P L) (g w:Int):gO P (iu L g w):=by unfold iu;split;exact⟨h.ho,h.wt⟩;exact h
theorem Hk (L:aY):(iN L).length≤L.wt.length:=by unfold iN;split;exact Nat.zero_le _;exact Br (dp L) _ _
theorem nK (L:aY) (t:Int):(dY L t).length≤L.wt.length:=by unfold dY;split;exact Hk (eY L t);exact Nat.zero_le _
theorem qP (L:aY) (t:Int):(pd L t).length≤L.wt.length:=by
  unfold pd;split
  · exact Nat.le_trans (Br (cV L t) _ _) (List.length_filter_le ..)
  · exact Nat.zero_le _
theorem E2 (L:aY) (t:Int):(ud L t).length≤L.wt.length:=by unfold ud;split;exact qP L t;exact nK {L with di:=true} t
def lu (n:Nat) (t:Int):Prop:=0≤t∧t<n
structure LI (n k:Nat) (L:aY):Prop where
  w:k9 L
  b:jO k L
  i:gO (lu n) L
theorem LI.mono {n n' k k':Nat} {L:aY} (h:LI n k L) (hn:n≤n') (hk:k≤k'):LI n' k' L:=⟨h.w,h.b.mono hk,⟨fun g hg=>by have:=h.i.ho g hg;exact⟨this.1,by have:=this.2;omega⟩,fun g hg=>by have:=h.i.wt g hg;exact⟨this.1,by have:=this.2;omega⟩⟩⟩
theorem G6 {n:Nat} {l:List Int} (h:l.Nodup) (hn:∀t∈l,lu n t):l.length≤n:=by
  have h1:(l.map Int.toNat).Nodup:=by
    unfold List.Nodup;rw [List.pairwise_map]
    refine List.Pairwise.imp_of_mem (fun {a b} ha hb eb e=>eb ?_) h;have h2:=hn a ha;have h3:=hn b hb;unfold lu at h2 h3;omega
  have h2:∀t∈l.map Int.toNat,t∈List.range n:=fun t ht=>by
    obtain ⟨a,ha,rfl⟩:=List.mem_map.1 ht;have:=hn a ha;unfold lu at this;exact List.mem_range.2 om
  have h3:=List.Nodup.length_le_of_subset h1 h2;rw [List.length_map,List.length_range] at h3;exact h3
theorem LI.hl {n k:Nat} {L:aY} (h:LI n k L):L.ho.length≤n:=by
  have:=G6 h.w.hd (fun t ht=>by obtain ⟨g,hg,rfl⟩:=List.mem_map.1 ht;exact h.i.ho g hg);rw [List.length_map] at this;exact this
section
variable {n k:Nat} {L:aY} (h:LI n k L) (t:Int)
include h
theorem LI.take (p:Int) (ht:lu n t):LI n (k+1) (cD L t p):=⟨h.w.take t p,h.b.take t p,h.i.take t p ht⟩
theorem LI.wait (p:Int) (ht:lu n t):LI n (k+1) (dv L t p):=⟨h.w.wait t p,h.b.wait t p,h.i.wait t p ht⟩
theorem LI.At:LI n k (ej L t):=⟨k9.At h.w.topg t h.w.em,h.b.At h.w.wd t,h.i.At t⟩
theorem LI.lv:LI n k (fx L t):=⟨h.w.lv t,h.b.lv h.w.wd t,h.i.lv t⟩
theorem LI.die:LI n k (rm L t):=⟨h.w.die t,h.b.die h.w.wd t,h.i.die t⟩
theorem LI.xG:LI n (k+1) (iU L t):=⟨h.w.xG t,h.b.xG t,h.i.xG t⟩
theorem LI.PK (w:Int):LI n k (iu L t w):=⟨h.w.PK t w,h.b.PK t w,h.i.PK t w⟩
end
/-! ### who waits for whom -/
structure GI (g:Gr):Prop where
  l:g.length=64
  a:PX g
theorem Ll {G:Gr} {i:Nat} :¬lg G 0#64 i:=fun h=>by
  induction h with
  |base h=>rw [cF] at h;cases h
  |step _ _ ih=>exact ih
theorem GI.cut {g:Gr} (h:GI g) {t:Nat} (ht:t<64):GI (g.set t 0#64):=⟨by rw [List.length_set];exact h.l,Fg h.l ht h.a Ll⟩
theorem GI.wt {g:Gr} (h:GI g) (t:Int) (s:BitVec 64):GI (CM g t s):=⟨zl h.l t s,N6 h.l h.a t s⟩
theorem GI.WE {L:aY} :∀{g:Gr},GI g→GI (O8 L g):=by
  unfold O8
  generalize L.wt=l
  induction l with
  |nil=>intro g h;exact h
  |cons w l ih=>intro g h;rw [List.foldl_cons];exact ih (h.wt _ _)
structure wA (s:km) (k:Nat) (t:iM):Prop where
  pr:0≤t.pr∧t.pr<(s.ps.length:Int)
  pc:0≤t.pc∧t.pc≤(k:Int)
  lf:0≤t.lf∧t.lf≤64
  ti:0≤t.ti∧t.ti≤(k:Int)
  l4:t.st=4→0≤t.lk∧t.lk<(s.ls.length:Int)
  un:t.un≠0#64→t.st=3∨t.st=4
theorem wA.mono {s:km} {k k':Nat} {t:iM} (h:wA s k t) (hk:k≤k'):wA s k' t:=⟨h.pr,by have:=h.pc;omega,h.lf,by have:=h.ti;omega,h.l4,h.un⟩
structure MI (k:Nat) (x:aC):Prop where
  ms:fy x.s=true
  ce:(x.cs.length:Int)=x.s.cr
  ci:CI x.ts.length k x.cs
  il:x.idle.length=x.cs.length
  ib:∀n∈x.idle,0≤n∧n≤(k:Int)
  ll:x.lk.length=x.s.ls.length
  li:∀l,l<x.lk.length→LI x.ts.length k (gL x l)
  gi:GI x.g
  tl:x.ts.length≤64
  vl:x.v.length=x.ts.length
  tb:∀t,t<x.ts.length→wA x.s k (gT x t)
  gn:x.gp.length=x.s.gs.length
  ev:x.ev.length≤k
  iq:∀c,c<x.cs.length→∀a,cd (qg x.cs c) a→(gT x a.toNat).un=0#64
theorem MI.mono {k k':Nat} {x:aC} (h:MI k x) (hk:k≤k'):MI k' x:=
  {h with ci:=h.ci.mono (Nat.le_refl _) hk,ib:=fun n hn=>by have:=h.ib n hn;omega,li:=fun l hl=>(h.li l hl).mono (Nat.le_refl _) hk,tb:=fun t ht=>(h.tb t ht).mono hk,ev:=Nat.le_trans h.ev hk}
theorem fJ {x:aC} {t:Nat} (ht:t<x.ts.length) (y:iM) (j:Nat):gT (dh x t y) j=if t=j then y else gT x j:=by
  unfold gT dh
  show (x.ts.set t y).getD j default=_
  rw [List.getD_eq_getElem?_getD,List.getElem?_set]
  by_cases e:t=j
  · rw [if_pos e,if_pos e,if_pos ht];rfl
  · rw [if_neg e,if_neg e,List.getD_eq_getElem?_getD]
theorem bt (x:aC) (t:Nat) (y:iM):(dh x t y).ts.length=x.ts.length:=List.length_set ..
section
variable {k:Nat} {x:aC} (h:MI k x)
include h
theorem MI.j3 (a t l n:Int):MI (k+1) (ba x a t l n):=
  have h':=h.mono (Nat.le_succ k)
  {h' with ev:=by show (x.ev++ [_]).length≤_;rw [List.length_append,List.length_singleton];have:=h.ev;omega}
theorem MI.Zu {t:Nat} (ht:t<x.ts.length) {y:iM} (hy:wA x.s k y) (hu:∀c,c<x.cs.length→cd (qg x.cs c) t→y.un=0#64):MI k (dh x t y):=
  {h with
    iq:=fun c hc a ha=>by
      rw [fJ ht];split
      · next e=>
        have h0:=(h.ci.wf.wf c hc).pos _ (ea ha).1;rw [(ea ha).2] at h0;exact hu c hc (by rw [show (t:Int)=a by omega];exact ha)
      · exact h.iq c hc a ha
    ci:=by rw [bt];exact h.ci
    li:=fun l hl=>by rw [bt];exact h.li l hl
    tl:=by rw [bt];exact h.tl
    vl:=by rw [bt];exact h.vl
    tb:=fun j hj=>by rw [bt] at hj;rw [fJ ht];split;exact hy;exact h.tb j hj}
theorem MI.up {t:Nat} (ht:t<x.ts.length) {y:iM} (hy:wA x.s k y) (hu:y.un=0#64∨y.un=(gT x t).un:=by first|exact .inl rfl|exact .inr rfl):MI k (dh x t y):=
  h.Zu ht hy (fun c hc hk=>by rcases hu with e|e;exact e;rw [e];exact h.iq c hc t hk)
theorem MI.F7 {cs:List Qm} (hc:CI x.ts.length k cs) (hl:cs.length=x.cs.length) (hq:∀c,c<x.cs.length→∀a,cd (qg cs c) a→(∃d,d<x.cs.length∧cd (qg x.cs d) a)∨(gT x a.toNat).un=0#64):MI k {x with cs:=cs} :=
  {h with iq:=fun c hc a ha=>by {rcases hq c (by rw [←hl];exact hc) a ha with ⟨d,hd,q⟩|q;exact h.iq d hd a q;exact q},ci:=hc,ce:=by rw [show ({x with cs:=cs} :aC).cs.length=x.cs.length from hl];exact h.ce,il:=by rw [show ({x with cs:=cs} :aC).cs.length=x.cs.length from hl];exact h.il}
theorem MI.bj {l:Nat} {L:aY} (hL:LI x.ts.length k L):MI k (bj x l L):=
  {h with
    ll:=by show (x.lk.set l L).length=_;rw [List.length_set];exact h.ll
    li:=fun j hj=>by
      have QP:j<x.lk.length:=by rw [show (Go.Eng.bj x l L).lk.length=x.lk.length from List.length_set ..] at hj;exact hj
      show LI _ k ((x.lk.set l L).getD j default)
      rw [List.getD_eq_getElem?_getD,List.getElem?_set]
      by_cases e:l=j
      · rw [if_pos e,if_pos (by rw [e];exact QP)];exact hL
      · rw [if_neg e,←List.getD_eq_getElem?_getD];exact h.li j QP}
theorem MI.gr {g:Gr} (hg:GI g):MI k {x with g:=g} := {h with gi:=hg}
theorem MI.vv {v:List (BitVec 64)} (hv:v.length=x.v.length):MI k {x with v:=v} := {h with vl:=by show v.length=_;rw [hv];exact h.vl}
theorem MI.cut {t:Nat} (ht:t<x.ts.length):MI k (dt x t):=h.gr (h.gi.cut (by have:=h.tl;omega))
theorem MI.inc {t:Nat} (ht:t<x.ts.length):MI (k+1) (bK x t):=
  (h.mono (Nat.le_succ k)).up ht (by have q:=h.tb t ht;exact⟨q.pr,by have:=q.pc;show 0≤_+1∧_+1≤_;omega,q.lf,by have:=q.ti;show 0≤(gT x t).ti∧(gT x t).ti≤_;omega,q.l4,q.un⟩)
theorem MI.D6 {t:Nat} (ht:t<x.ts.length):MI (k+1) (fe x t):=by
  have q:=h.tb t ht;have h1:=h.up ht (y:=Jf (gT x t)) ⟨q.pr,q.pc,q.lf,q.ti,fun e=>(by cases e),fun e=>absurd rfl e⟩;exact(h1.F7 (cs:=dx x.cs (gT x t).co t (x.v.getD t 0#64) (gT x t).ef) (by rw [bt];exact h.ci.add _ _ _ _ om) (fZ ..) (fun c hc a ha=>by rcases By ha with q|rfl;exact .inl ⟨c,hc,q⟩;exact .inr (by rw [fJ ht,if_pos (Int.toNat_natCast t).symm];rfl))).j3 _ _ _ _
theorem MI.qut (t:Nat):MI k (eC x t):=by
  have h1:=h.F7 (h.ci.rem t) (oQ x.cs t) (fun c hc a ha=> .inl ⟨c,hc,(qH h.ci.wf hc ha).1⟩);refine h1.vv (v:=if bO x.cs t<x.cs.length then x.v.set t (vU x.cs t) else x.v) ?_
  split
  · exact List.length_set ..
  · rfl
theorem MI.p7 (l:Nat) {t:Int} (ht:lu x.ts.length t):MI (k+3) (p7 l x t):=by
  have h0:t.toNat<x.ts.length:=by unfold lu at ht;omega
  have h1:=h.j3 4 t l (dF (gL x l) t);have h2:=h1.inc (t:=t.toNat) h0;have h3:=h2.cut (t:=t.toNat) (by show _<(x.ts.set _ _).length;rw [List.length_set];exact h0);exact h3.D6 (t:=t.toNat) (by show _<(x.ts.set _ _).length;rw [List.length_set];exact h0)
end
theorem yu (l:Nat) (x:aC) (t:Int):(p7 l x t).ts.length=x.ts.length:=by
  show ((x.ts.set _ _).set _ _).length=_;rw [List.length_set,List.length_set]
theorem vk (l:Nat):∀(to:List Int) (x:aC),(o9 l x to).ts.length=x.ts.length∧(o9 l x to).lk=x.lk∧(o9 l x to).s=x.s∧(o9 l x to).now=x.now
  | [],x=>⟨rfl,rfl,rfl,rfl⟩
  |t::to,x=>by
    have ih:=vk l to (p7 l x t)
    unfold o9 at ih ⊢
    rw [List.foldl_cons];exact⟨ih.1.trans (yu l x t),ih.2⟩
theorem MI.o9 {l:Nat} :∀{to:List Int} {k:Nat} {x:aC},MI k x→(∀t∈to,lu x.ts.length t)→MI (k+3*to.length) (o9 l x to)
  | [],k,x,h,_=>h
  |t::to,k,x,h,ht=>by
    have h1:=MI.o9 (l:=l) (h.p7 l (ht t (List.mem_cons_self ..))) (fun u hu=>by rw [yu];exact ht u (List.mem_cons_of_mem _ hu));rw [List.length_cons,show k+3*(to.length+1)=k+3+3*to.length by omega];exact h1
theorem MI.WE {k:Nat} {x:aC} (h:MI k x) (l:Nat):MI k (BJ x l):=h.gr h.gi.WE
theorem cM (l:Nat) (x:aC) (to:List Int):(dz x l to).ts.length=x.ts.length∧(dz x l to).lk=x.lk∧(dz x l to).s=x.s∧(dz x l to).now=x.now:=vk l to x
theorem MI.rQ {k:Nat} {x:aC} (h:MI k x) (l:Nat) {to:List Int} (ht:∀t∈to,lu x.ts.length t) (h8:to.length≤8):MI (k+24) (dz x l to):=((h.o9 ht).WE l).mono om
theorem cC (x:aC) (l:Nat) (L:aY):(bj x l L).lk.length=x.lk.length:=List.length_set ..
theorem MI.w8 {k:Nat} {x:aC} (h:MI k x) {l:Nat} (hl:l<x.lk.length):(gL x l).wt.length≤8:=(h.li l hl).w.w8
theorem MI.qR {k:Nat} {x:aC} (h:MI k x) {t:Nat} (ht:t<x.ts.length):MI (k+24) (qR x t):=by
  unfold Go.Eng.qR
  split
  · next e=>
    have hl:=(h.tb t ht).l4 e;have nL:(gT x t).lk.toNat<x.lk.length:=by rw [h.ll];omega
    have hL:=h.li _ nL;exact(h.bj (hL.lv t)).rQ _ (hL.i.pd t) (Nat.le_trans (qP ..) (h.w8 nL))
  · exact h.mono om
theorem qc (x:aC) (t:Nat):(qR x t).ts.length=x.ts.length∧(qR x t).lk.length=x.lk.length∧(qR x t).s=x.s∧(qR x t).now=x.now:=by
  unfold qR;split
  · have e:=cM (gT x t).lk.toNat (bj x (gT x t).lk.toNat (fx (gL x (gT x t).lk.toNat) t)) (pd (gL x (gT x t).lk.toNat) t)
    exact⟨e.1,by rw [e.2.1];exact cC ..,e.2.2⟩
  · exact⟨rfl,rfl,rfl,rfl⟩
theorem MI.ru {k:Nat} {x:aC} (h:MI k x) (t:Nat) {l:Nat} (hl:l<x.lk.length):MI (k+25) (ru t x l):=by
  unfold Go.Eng.ru
  split
  · have h1:=h.j3 12 t l 0
    have hL:=h1.li l hl;exact((h1.bj (hL.die t)).rQ l (hL.i.ud t) (Nat.le_trans (E2 ..) (h1.w8 hl))).mono om
  · exact h.mono om
theorem Aw (t:Nat) (x:aC) (l:Nat):(ru t x l).ts.length=x.ts.length∧(ru t x l).lk.length=x.lk.length∧(ru t x l).s=x.s∧(ru t x l).now=x.now:=by
  unfold ru;split
  · have e:=cM l (bj (ba x 12 t l 0) l (rm (gL x l) t)) (ud (gL x l) t)
    exact⟨e.1,by rw [e.2.1];exact cC ..,e.2.2⟩
  · exact⟨rfl,rfl,rfl,rfl⟩
theorem kZ (t:Nat) (x:aC) (n:Nat):pN t x (n+1)=ru t (pN t x n) n:=by unfold pN;rw [List.range_succ,List.foldl_append];rfl
theorem ky (t:Nat) (x:aC):∀n,(pN t x n).ts.length=x.ts.length∧(pN t x n).lk.length=x.lk.length∧(pN t x n).s=x.s∧(pN t x n).now=x.now
  |0=>⟨rfl,rfl,rfl,rfl⟩
  |n+1=>by
    rw [kZ];have h1:=Aw t (pN t x n) n;have h2:=ky t x n;exact⟨h1.1.trans h2.1,h1.2.1.trans h2.2.1,h1.2.2.1.trans h2.2.2.1,h1.2.2.2.trans h2.2.2.2⟩
theorem MI.pN {k:Nat} {x:aC} (h:MI k x) (t:Nat):∀{n:Nat},n≤x.lk.length→MI (k+25*n) (pN t x n)
  |0,_=>h
  |n+1,hn=>by
    rw [kZ];exact((h.pN t (n:=n) om).ru t (by rw [(ky t x n).2.1];omega)).mono om
theorem Pt {s:km} (h:fy s=true):s.ls.length≤8:=by
  unfold fy at h;simp only [Bool.and_eq_true,decide_eq_true_eq] at h;omega
theorem MI.l8 {k:Nat} {x:aC} (h:MI k x):x.lk.length≤8:=by rw [h.ll];exact Pt h.ms
def yA (x:aC) (t:Nat):aC:=dt (qR x t) t
def De (x:aC) (t:Nat):aC:=eC (pN t (yA x t) x.lk.length) t
theorem yv (x:aC) (t:Nat):kh x t=ba (dh (De x t) t (tp (gT (De x t) t))) 11 t (-1) 0:=rfl
theorem qS (x:aC) (t:Nat):(yA x t).ts.length=x.ts.length∧(yA x t).lk.length=x.lk.length∧(yA x t).s=x.s∧(yA x t).now=x.now:=qc x t
theorem uq (x:aC) (t:Nat):(De x t).ts.length=x.ts.length∧(De x t).lk.length=x.lk.length∧(De x t).s=x.s∧(De x t).now=x.now:=by
  have h1:=ky t (yA x t) x.lk.length;have h2:=qS x t;exact⟨h1.1.trans h2.1,h1.2.1.trans h2.2.1,h1.2.2.1.trans h2.2.2.1,h1.2.2.2.trans h2.2.2.2⟩
theorem nb (x:aC) (t:Nat):(kh x t).ts.length=x.ts.length∧(kh x t).lk.length=x.lk.length∧(kh x t).s=x.s∧(kh x t).now=x.now:=by
  have h:=uq x t;exact⟨by rw [yv];exact(bt ..).trans h.1,h.2⟩
theorem MI.yA {k:Nat} {x:aC} (h:MI k x) {t:Nat} (ht:t<x.ts.length):MI (k+24) (yA x t):=(h.qR ht).cut (by rw [(qc x t).1];exact ht)
theorem MI.De {k:Nat} {x:aC} (h:MI k x) {t:Nat} (ht:t<x.ts.length):MI (k+224) (De x t):=by
  have h8:=h.l8;exact(((h.yA ht).pN t (n:=x.lk.length) (by rw [(qS x t).2.1];exact Nat.le_refl _)).qut t).mono om
theorem wA.ded {s:km} {k:Nat} {t:iM} (q:wA s k t):wA s k (tp t):=⟨q.pr,q.pc,⟨Int.le_refl _,by show (0:Int)≤64;decide⟩,q.ti,fun e=>(by cases e),fun e=>absurd rfl e⟩
theorem MI.die {k:Nat} {x:aC} (h:MI k x) {t:Nat} (ht:t<x.ts.length):MI (k+225) (kh x t):=by
  have h2:=h.De ht;have UX:t<(Go.Eng.De x t).ts.length:=by rw [(uq x t).1];exact ht
  rw [yv];exact(h2.up UX (h2.tb t UX).ded).j3 _ _ _ _
/-! ### weights -/
theorem wA.ef {s:km} {k:Nat} {t:iM} (q:wA s k t) (e:Int):wA s k {t with ef:=e} :=⟨q.pr,q.pc,q.lf,q.ti,q.l4,q.un⟩
theorem Ke (fw:List Int) (x:aC) (i:Nat):(tL fw x i).ts.length=x.ts.length∧(tL fw x i).lk=x.lk∧(tL fw x i).s=x.s∧(tL fw x i).now=x.now∧(tL fw x i).g=x.g∧(tL fw x i).ev=x.ev:=by
  unfold tL;split
  · exact⟨rfl,rfl,rfl,rfl,rfl,rfl⟩
  · exact⟨bt ..,rfl,rfl,rfl,rfl,rfl⟩
theorem MI.tL {k:Nat} {x:aC} (h:MI k x) (fw:List Int) {i:Nat} (hi:i<x.ts.length):MI k (tL fw x i):=by
  unfold Go.Eng.tL;split
  · exact h
  · exact(h.up hi ((h.tb i hi).ef _)).F7 (by rw [bt];exact h.ci.wgh _ _) (Fs ..) (fun c hc a ha=> .inl ⟨c,hc,AR ha⟩)
theorem ju (fw:List Int) (x:aC) (n:Nat):tT fw x (n+1)=tL fw (tT fw x n) n:=by unfold tT;rw [List.range_succ,List.foldl_append];rfl
theorem nD (fw:List Int) (x:aC):∀n,(tT fw x n).ts.length=x.ts.length∧(tT fw x n).lk=x.lk∧(tT fw x n).s=x.s∧(tT fw x n).now=x.now∧(tT fw x n).g=x.g∧(tT fw x n).ev=x.ev
  |0=>⟨rfl,rfl,rfl,rfl,rfl,rfl⟩
  |n+1=>by
    rw [ju];have h1:=Ke fw (tT fw x n) n;have h2:=nD fw x n;exact⟨h1.1.trans h2.1,h1.2.1.trans h2.2.1,h1.2.2.1.trans h2.2.2.1,h1.2.2.2.1.trans h2.2.2.2.1,h1.2.2.2.2.1.trans h2.2.2.2.2.1,h1.2.2.2.2.2.trans h2.2.2.2.2.2⟩
theorem MI.tT {k:Nat} {x:aC} (h:MI k x) (fw:List Int):∀{n:Nat},n≤x.ts.length→MI k (tT fw x n)
  |0,_=>h
  |n+1,hn=>by
    rw [ju];exact(h.tT fw (n:=n) om).tL fw (by rw [(nD fw x n).1];omega)
theorem MI.IQ {k:Nat} {x:aC} (h:MI k x):MI k (jS x):=by
  have h1:=h.tT (x5 (rV x) x.g) (n:=x.ts.length) (Nat.le_refl _);exact h1.F7 (h1.ci.aem) (md _) (fun c hc a ha=> .inl ⟨c,hc,Bg hc ha⟩)
theorem jf (x:aC):(jS x).ts.length=x.ts.length∧(jS x).lk=x.lk∧(jS x).s=x.s∧(jS x).now=x.now∧(jS x).g=x.g∧(jS x).ev=x.ev:=nD (x5 (rV x) x.g) x x.ts.length
theorem oK (x:aC):(rV x).length=x.ts.length:=List.length_map ..
theorem KH {x:aC} {i:Nat} (h:i<x.ts.length):(rV x).take (i+1)=(rV x).take i++ [z8 (x.ts.getD i default)] :=by
  rw [bE 0 (by rw [oK];exact h)]
  congr 2
  unfold rV;rw [List.getD_eq_getElem?_getD,List.getD_eq_getElem?_getD,List.getElem?_map,List.getElem?_eq_getElem h];rfl
def Hq {α:Type} [Inhabited α] (f:α→α) (l:List α):Nat→List α
  |0=>l
  |i+1=>(Hq f l i).set i (f (qg (Hq f l i) i))
theorem lC {α:Type} [Inhabited α] (f:α→α) (l:List α):∀i,(Hq f l i).length=l.length
  |0=>rfl
  |i+1=>by unfold Hq;rw [List.length_set];exact lC f l i
theorem x9 {α:Type} [Inhabited α] (f:α→α) (l:List α):∀(i j:Nat),i≤l.length→j<l.length→qg (Hq f l i) j=if j<i then f (qg l j) else qg l j
  |0,j,_,_=>rfl
  |i+1,j,hi,hj=>by
    unfold Hq
    rw [bJ (by rw [lC];omega),x9 f l i i om om,if_neg (Nat.lt_irrefl i),x9 f l i j om hj]
    by_cases e:i=j
    · subst e;rw [if_pos rfl,if_pos (Nat.lt_succ_self i)]
    · rw [if_neg e]
      by_cases e2:j<i
      · rw [if_pos e2,if_pos om]
      · rw [if_neg e2,if_neg om]
theorem Dq {α:Type} [Inhabited α] (f:α→α) (l:List α):Hq f l l.length=l.map f:=by
  refine List.ext_getElem (by rw [lC,List.length_map]) (fun j h1 h2=>?_);rw [lC] at h1;have:=x9 f l l.length j (Nat.le_refl _) h1;rw [if_pos h1,Fq (by rw [lC];exact h1),Fq h1] at this;rw [this,List.getElem_map]
theorem CI.stl {n k:Nat} {cs:List Qm} (h:CI n k cs):∀{i:Nat},i≤cs.length→CI n k (Hq eV cs i)
  |0,_=>h
  |i+1,hi=>by
    have h1:=h.stl (i:=i) om;have hl:i<(Hq eV cs i).length:=by rw [lC];omega
    unfold Hq
    exact h1.set hl (tZ (h1.wf.wf i hl)) (by rw [(eg _).1]) (by rw [(eg _).2.2.1];exact h1.rn i hl)
/-! ### an op -/
theorem Qz {x:aC} {t:Nat} (ht:t<x.ts.length) (a:Int):gT (zX x t a) t=F1 (gT x t) a:=(fJ ht _ t).trans (if_pos rfl)
theorem N0 {x:aC} {t:Nat} (ht:t<x.ts.length) {a:Int} (h:(F1 (gT x t) a).lf=0):pK x t a=dh (zX x t a) t (sk (F1 (gT x t) a)):=by
  unfold pK bK;rw [Qz ht];exact if_pos h
theorem Rx {x:aC} {t:Nat} (ht:t<x.ts.length) {a:Int} (h:¬(F1 (gT x t) a).lf=0):pK x t a=zX x t a:=by
  unfold pK;rw [Qz ht];exact if_neg h
theorem LI.Xp {n k:Nat} {ls:List aY} (h:∀l,l<ls.length→LI n k (qg ls l)) (t:Int):∀l,l<(ls.map (fun L=>iU L t)).length→LI n (k+1) (qg (ls.map (fun L=>iU L t)) l):=fun l hl=>by
  rw [List.length_map] at hl
  unfold qg;rw [List.getD_eq_getElem?_getD,List.getElem?_map,List.getElem?_eq_getElem hl]
  have:=h l hl
  unfold qg at this;rw [List.getD_eq_getElem?_getD,List.getElem?_eq_getElem hl] at this
  exact this.xG t
/-! ### a lock is taken -/
theorem FV {x:aC} {l:Nat} (hl:l<x.lk.length) (L:aY):gL (bj x l L) l=L:=by
  show (x.lk.set l L).getD l default=L
  rw [List.getD_eq_getElem?_getD,List.getElem?_set_self hl];rfl
def tq (x:aC) (t:Nat) (l:Nat) (o:da):Int:=zt (gL x l) (gT x t).gr (decide (o.k=3))
section
variable {x:aC} {t l:Nat} {o:da} (eO:o.a=(l:Int))
include eO
theorem yf:UJ x t o=tq x t l o:=by unfold UJ tq;rw [eO];rfl
theorem ma:VV x t o=cZ (gL x l) t (tq x t l o):=by unfold VV;rw [yf eO,eO];rfl
theorem S9:tkC x t o=aN (ql x.g (sf (gL x l))) t:=by unfold tkC;rw [eO];rfl
theorem ug (h8:cZ (gL x l) t (tq x t l o)=8) (h4:o.k≠4):mQ x t o=if aN (ql x.g (sf (gL x l))) t=true then 9 else jv (gL x l) t (tq x t l o):=by
  unfold mQ Qy;rw [ma eO,S9 eO,yf eO,h8,decide_eq_true h4,eO];rfl
theorem yx (h8:¬(cZ (gL x l) t (tq x t l o)=8∧o.k≠4)):mQ x t o=cZ (gL x l) t (tq x t l o):=by
  unfold mQ Qy;rw [ma eO,if_neg (by rw [Bool.and_eq_true,decide_eq_true_eq,decide_eq_true_eq];exact h8)]
theorem Lp (he:cZ (gL x l) t (tq x t l o)=0):mO x t o=(bK (BJ (ba (bj x l (cD (gL x l) t (tq x t l o))) 4 t l (dF (gL (bj x l (cD (gL x l) t (tq x t l o))) l) t)) l) t,false):=by
  unfold mO;rw [ma eO,if_pos he];unfold tk0;rw [yf eO,eO];rfl
theorem JG (he:cZ (gL x l) t (tq x t l o)≠0) (h2:mQ x t o≠0):mO x t o=(bK (ba x 8 t l (mQ x t o)) t,false):=by
  unfold mO;rw [ma eO,if_neg he,if_pos h2];unfold tk1;rw [eO]
theorem HG (he:cZ (gL x l) t (tq x t l o)≠0) (h2:¬mQ x t o≠0):mO x t o=(ZN x t o,true):=by
  unfold mO;rw [ma eO,if_neg he,if_neg h2]
end
def kP (x:aC) (t l:Nat) (o:da):aC:=eC (ba (bj x l (dv (gL x l) t (tq x t l o))) 6 t l 0) t
theorem yH {x:aC} {t l:Nat} {o:da} (eO:o.a=(l:Int)):ZN x t o= {dh (kP x t l o) t (vK (gT x t) o x.now) with g:=CM x.g t (sf (gL (kP x t l o) l))} :=by
  unfold ZN;rw [yf eO,eO];rfl
end Go.Eng
namespace Go.Eng
open Go Go.Proofs Go.RowKit
theorem Kl {l:Nat} {x:aC} {to:List Int} {i:Nat} (h:i<to.length):o9 l x (to.take (i+1))=p7 l (o9 l x (to.take i)) (to.getD i 0):=by
  unfold o9;rw [bE 0 h,List.foldl_append];rfl
def UnT (k:Nat) (L:List Int) (y u:Value) (mr:aa):Prop:=∃ad cap,u= .tuple #[.slice ad L.length cap,y]∧Sl fI 3 1 k L (.slice ad L.length cap) mr
theorem Fe {P:Program} {f:FuncId} {args:Array Value} {w:World} {n0 k l:Nat} {bs:List Nat} {ls:List aY} {mm:aa} {L:List Int} {y:Value} {x':aY} (h:jZ MF n0 bs ls mm) (hi:l<ls.length) (hm:Mem w mm)
    (hs:∀m,gE n0 (bs.getD l default) (ls.getD l default) ((ls.getD l default).wt.map eD) m→Mem w m→aJ P f args w (eF m (UnD n0 (bs.getD l default) k L y x') w)):
    aJ P f args w (eF mm (fun u m'=>∃mr mx,UnT k L y u mr∧m'=mr++mx∧jZ MF n0 bs (ls.set l x') mx) w):=
  h.Ye Dj hi hm (fun m hr hM=>(hs m hr hM).mono (fun u w' hU=>hU.imp (fun u m' ⟨v,mr,mx,h1,h2,h3,h4⟩=>by
    obtain ⟨ad,cap,rfl⟩:=h2.form;exact⟨mr,mx,⟨ad,cap,h1,h2⟩,h3,h4⟩)))
theorem lV {n0 b k l k0 n cap:Nat} {ad:Option Addr} {to:List Int} {s:eM} {x:aC} {m mr:aa} (w:World) (h:dW n0 b s x m) (hI:MI k x) (hk:k≤900000000000) (hl:l<x.lk.length) (hto:∀t∈to,lu x.ts.length t) (h8:to.length≤8) (hn:n=to.length) (Cz:Sl fI 3 1 k0 to (.slice ad n cap) mr) (cb:n0≤w.heap.size) (hM:Mem w (m++(mr++ []))):aJ Tryz.prog 62 #[.pointer (some ⟨b,0,none⟩),.int .i64 (l:Nat),.slice ad n cap] w (eF m (fun u m'=>u= .tuple #[]∧dW n0 b s (dz x l to) m') w):=by
 have hmb:=h.b;refine aJ.au Tryz.func62 rfl Tryz.ntmps62 rfl (m++(mr++ [])) ((fQ m)) hM ?_;refine J7 ?_;refine af.aS (α:=Nat×aC×aa) (fun ⟨i,y,mi⟩=>[(6,.int .i64 (i:Nat))]) [(0,_),(1,_),(2,_)] (fun ⟨i,y,mi⟩=>mi++(mr++ [])) (fun ⟨i,y,mi⟩=>i≤to.length∧y=o9 l x (to.take i)∧dW n0 b s y mi∧c6 m w.heap.size mi) (fun ⟨i,y,mi⟩=>to.length-i) ((0,x,m)) cm aX ⟨Nat.zero_le _,rfl,h,ay _ _⟩ ?_;rintro ⟨i,y,mi⟩ ⟨hi,hy,Wj,hni⟩;change af _ _ _ _ _ _ _ (mi++(mr++ [])) _ _ _;have RT:MI (k+3*(to.take i).length) y:=(by rw [hy];exact hI.o9 (fun t ht=>hto t (List.mem_of_mem_take ht)));have UO:=vk l (to.take i) x;rw [←hy] at UO;have ME:l<y.lk.length:=(by rw [UO.2.1];exact hl);have HY:=List.length_take_le i to;have uc:=RT.tl;have zV:=RT.ev;refine J9 ?_;refine af.aj rfl (fun h1=>?_) (fun h1=>?_)
 ·have Cw:=hto _ (List.mem_of_getElem? (aQ 0 (show i<to.length by omega)));obtain ⟨t,xp⟩:∃t:Nat,to.getD i 0=(t:Nat):=(by unfold lu at Cw;exact⟨(to.getD i 0).toNat,by omega⟩);have ht:t<y.ts.length:=(by rw [UO.1];rw [xp] at Cw;unfold lu at Cw;omega);have Rr:0≤(y.ts.getD t default).pc∧(y.ts.getD t default).pc≤((k+3*(to.take i).length:Nat):Int):=(RT.tb t ht).pc;have xc:=(RT.li l ME).hl;refine J9 ?_;refine LM.rd (bu aA ir Tryz.isAgg3 rfl rfl (by first|exact bF om|exact aQ 0 cJ) (by rfl)) ?_;refine dA ?_;rw [xp];refine cE Tryz.func101 rfl (fun w hm hc hg=>vw l (t:Nat) w Wj ME om (hm.pick mi)) ?_;refine cU Tryz.func55 rfl (fun w hm hc hg=>bV 4 (t:Nat) (l:Nat) (dF (gL y l) t) w Wj om (Nat.le_trans cb hc.size) (hm.pick mi)) Wj.bX (ao hni) ?_;rintro u25 m25 ⟨rfl,tH⟩ JK;obtain ⟨P,hP,tH⟩:=tH;change m25=az b s y.now P at hP;subst hP;obtain ⟨ig,ii,il,ip,ix,it,iv,ie,ic,iq⟩:=bM (ak hni JK);have er:Sl Gc 66 12 n0 y.ts (.slice P.Dx P.nt P.ct) P.mt:=tH.st;have rB:P.nt=y.ts.length:=tH.nt;have RN:Sl fU 41 1 n0 y.g (.slice P.ax P.nx P.cx) P.mx:=tH.sx;have O0:=tH.nx;have wu:y.g.length=64:=tH.gl;refine dA ?_;refine LM.rd (aH (j:=4) aA ir Tryz.isAgg3 rfl rfl (by first|exact bF om|exact aQ default cJ) rfl (by rfl)) ?_;refine J3 ?_;refine LM.iB (sk (gT y t)) (j:=4) aA ir Tryz.sizeOf3 rfl rfl rfl (by first|exact bF om|exact aQ default cJ) rfl (by decide) (by rfl) rfl (ao aA) (fun l5 de dJ=>?_)
  try rw [List.set_set] at de
  have G2:=ca dJ aA;refine gz ?_;refine LM.iB (0#64) (j:=0) aA ir Tryz.sizeOf41 rfl rfl rfl (by first|exact bF om|exact aQ 0#64 cJ) rfl (by decide) (by rfl) rfl (ao aA) (fun jU fR kf=>?_)
  try rw [List.set_set] at fR
  have H0:=ca kf aA;refine J3 ?_;have wB:dW n0 b s (dt (bK (ba y 4 t l (dF (gL y l) t)) t) t) (az b s y.now {P with mt:=l5,mx:=jU}):=⟨_,rfl,{tH with nt:=(by show P.nt=(y.ts.set t _).length;rw [List.length_set];exact rB),st:=de,gl:=(by show (y.g.set t _).length=64;rw [List.length_set];exact wu),sx:=fR}⟩
  refine J2 ?_;refine cU Tryz.func60 rfl (fun w hm hc hg=>pD t w wB (by show t<(y.ts.set _ _).length;rw [List.length_set];exact ht) (by show y.v.length=(y.ts.set _ _).length;rw [List.length_set];exact RT.vl) (by show (y.ev++ [_]).length≤_;rw [List.length_append,List.length_singleton];omega) (Nat.le_trans cb hc.size) (hm.pick _)) wB.bX (ao aL) ?_;rintro u48 m48 ⟨rfl,UZ⟩ KT;refine J8 ?_;refine aK (i+1,p7 l y (t:Nat),m48) ?_ ?_
  · exact⟨by omega,by rw [Kl om,←hy,xp],UZ,ak aL KT⟩
  · (dsimp only;omega)
 refine J8 ?_;refine cU Tryz.func102 rfl (fun w hm hc hg=>uQ l w Wj ME (by have:=(RT.li l ME).hl;omega) (RT.w8 ME) (hm.pick mi)) Wj.bX (ao hni) ?_;rintro u51 Nj ⟨rfl,h51⟩ Zh;refine J1 ?_;refine QM.leave (.inr rfl) [] Tryz.results62 rfl ?_;intro w' aq ab aI;have fp:i=to.length:=om;subst fp;rw [List.take_length] at hy;exact aZ (m':=Nj) ⟨rfl,(by rw [hy] at h51;exact h51)⟩ aq aX ab (ak hni Zh)
set_option maxHeartbeats 2000000 in
theorem pq {n0 b k t:Nat} {s:eM} {x:aC} {m:aa} (w:World) (h:dW n0 b s x m) (hI:MI k x) (hk:k≤800000000000) (ht:t<x.ts.length) (cb:n0≤w.heap.size) (hM:Mem w m):aJ Tryz.prog 32 #[.pointer (some ⟨b,0,none⟩),.int .i64 (t:Nat)] w (eF m (fun u m'=>u= .tuple #[]∧dW n0 b s (kh x t) m') w):=by
 obtain ⟨P,rfl,h⟩:=h;have rB:=h.nt;have er:=h.st;have vr:=h.nl;have te:=h.bl;have fY:=h.sl;obtain ⟨ig,ii,il,ip,ix,it,iv,ie,ic,iq⟩:=bM (ay (az b s x.now P) w.heap.size);have uc:=hI.tl;refine aJ.au Tryz.func32 rfl Tryz.ntmps32 rfl (az b s x.now P++ []) ((fQ (az b s x.now P))) aM ?_;refine cf ?_;refine LM.rd (aH (j:=6) aA ir Tryz.isAgg3 rfl rfl (by first|exact bF om|exact aQ default cJ) rfl (by rfl)) ?_;refine J3 ?_;refine af.bH (α:=sY) (fun P0=>[]) [(0,_),(1,_)] (fun P0=>az b s x.now P0++ []) (fun P0=>fF n0 b s (qR x t) P0∧c6 (az b s x.now P) w.heap.size (az b s x.now P0)) cm ?_ ?_
 ·refine af.aj rfl (fun h1=>?_) (fun h1=>?_)
  ·have hl4:=(hI.tb t ht).l4 h1;obtain ⟨l,tK⟩:∃l:Nat,(x.ts.getD t default).lk=(l:Nat):=⟨(gT x t).lk.toNat,(Int.toNat_of_nonneg hl4.1).symm⟩;have ij:l<x.lk.length:=(by rw [hI.ll];have:(gT x t).lk=(l:Nat):=tK;omega);have hL:=hI.li l ij;have hLh:=hL.hl;have hdi:qR x t=dz (bj x l (fx (gL x l) t)) l (pd (gL x l) t):=(by unfold qR;rw [if_pos h1,show (gT x t).lk.toNat=l by rw [show (gT x t).lk=(l:Nat) from tK];rfl])
   refine J9 ?_;refine LM.rd (aH (j:=8) aA ir Tryz.isAgg3 rfl rfl (by first|exact bF om|exact aQ default cJ) rfl (by rfl)) ?_;refine J5 ?_;rw [tK];refine J6 ?_;refine LM.rd (bu aA ir Tryz.isAgg54 rfl rfl (by first|exact bF om|exact aQ default cJ) (by rfl)) ?_;refine J1 ?_;refine cU Tryz.func61 rfl (fun w hm hc hg=>Fe h.sq ij (hm.pick P.mq) (fun m hr hM=>rU (k:=n0) (t:Nat) w hL.w hr (Nat.le_trans cb hc.size) (by have:=hL.hl;show (gL x l).ho.length≤900;omega) (Nat.le_trans cb hc.size) hM)) (h.sq.bX Dj) (ao iq) ?_;rintro u36 U5 ⟨mr,W5,⟨adr,Rz,rfl,Cz⟩,rfl,z9⟩ Ie;refine LM.assoc ?_;have i36:c6 (az b s x.now P) w.heap.size W5:=fun p hp=>ak iq Ie p (List.mem_append_right _ hp);have wF:dW n0 b s (bj x l (fx (gL x l) t)) (az b s x.now {P with mq:=W5}):=⟨_,rfl,{h with nl:=(by show P.nl=(x.lk.set _ _).length;rw [List.length_set];exact vr),bl:=(by show P.bs.length=(x.lk.set _ _).length;rw [List.length_set];exact te),sq:=z9}⟩;have oR:=hI.bj (l:=l) (hL.lv t);refine dA ?_;refine cU Tryz.func62 rfl (fun w hm hc hg=>lV w wF oR om (by rw [cC];exact ij) (hL.i.pd t) (Nat.le_trans (qP ..) (hI.w8 ij)) rfl Cz (Nat.le_trans cb hc.size) (sm hm)) wF.bX (ao aL) ?_;rintro u42 OI ⟨rfl,Z3⟩ sX;rw [←hdi] at Z3;obtain ⟨P2,QH,Z3⟩:=Z3;rw [(qc x t).2.2.2] at QH;subst QH;refine J1 ?_;refine mK (P2) ?_
   · exact⟨Z3,ak aL sX⟩
  refine J1 ?_;refine mK (P) ?_
  · exact⟨by rw [show qR x t=x from if_neg h1];exact h,ay _ _⟩
 rintro P0 ⟨h0,abU⟩;change QM _ _ _ _ _ (az b s x.now P0++ []) _ _ _
 clear ig ii il ip ix it iv ie ic iq;have hd0:=qc x t;obtain ⟨ig,ii,il,ip,ix,it,iv,ie,ic,iq⟩:=bM abU;have RN:=h0.sx;have O0:=h0.nx;have wu:=h0.gl
 refine cL ?_;refine LM.iB (0#64) (j:=0) aA ir Tryz.sizeOf41 rfl rfl rfl (by first|exact bF om|exact aQ 0#64 cJ) rfl (by decide) (by rfl) rfl (ao aA) (fun l5 de dJ=>?_)
 try rw [List.set_set] at de
 have G2:=ca dJ aA;refine J9 ?_;refine af.aS (α:=Nat×aC×sY) (fun ⟨i,y,Q⟩=>[(7,.int .i64 (i:Nat))]) [(0,_),(1,_)] (fun ⟨i,y,Q⟩=>az b s x.now Q++ []) (fun ⟨i,y,Q⟩=>i≤x.lk.length∧y=pN t (yA x t) i∧fF n0 b s y Q∧c6 (az b s x.now P) w.heap.size (az b s x.now Q)) (fun ⟨i,y,Q⟩=>x.lk.length-i) ((0,yA x t,{P0 with mx:=l5})) cm aX ⟨Nat.zero_le _,rfl,{h0 with gl:=(by show ((qR x t).g.set _ _).length=64;rw [List.length_set];exact wu),sx:=de},aL⟩ ?_;rintro ⟨i,y,Q⟩ ⟨hi,hy,hQ,xU⟩;change af _ _ _ _ _ _ _ (az b s x.now Q++ []) _ _ _;have Vc:=qS x t;have iA:MI (k+24+25*i) y:=(by rw [hy];exact(hI.yA ht).pN t (by rw [Vc.2.1];exact hi));have p9:=ky t (yA x t) i;rw [←hy] at p9;have YJ:y.lk.length=x.lk.length:=p9.2.1.trans Vc.2.1;have ri:y.ts.length=x.ts.length:=p9.1.trans Vc.1;have l6:y.now=x.now:=p9.2.2.2.trans Vc.2.2.2;clear ig ii il ip ix it iv ie ic iq;obtain ⟨ig,ii,il,ip,ix,it,iv,ie,ic,iq⟩:=bM xU;have aio:=hQ.nl;have amf:=hQ.bl;have Hv:=hQ.sl;have NV:=hI.l8;refine cL ?_;refine af.aj rfl (fun h2=>?_) (fun h2=>?_)
 ·refine cL ?_;refine LM.rd (bu aA ir Tryz.isAgg54 rfl rfl (by first|exact bF om|exact aQ default cJ) (by rfl)) ?_;refine J1 ?_;refine cE Tryz.func12 rfl (fun w hm hc hg=>hQ.sq.read (i:=i) om (hm.pick Q.mq) (fun m hr hM=>(show aJ _ _ _ _ (fun u w'=>u= .bool (bd (gL y i) (t:Nat))∧Ext _ w') from iW (t:Nat) w hr hM))) ?_;refine J2 ?_;refine af.aW rfl (fun h3=>?_) (fun h3=>?_)
  ·have fp:i<y.lk.length:=om;have hLi:=iA.li i fp;have hLh:=hLi.hl;have o7:dW n0 b s y (az b s x.now Q):=hQ.m;have hd1:ru t y i=dz (bj (ba y 12 t i 0) i (rm (gL y i) t)) i (ud (gL y i) t):=if_pos h3;have Ru:=iA.ev;refine J5 ?_;refine cU Tryz.func55 rfl (fun w hm hc hg=>bV 12 (t:Nat) (i:Nat) 0 w o7 om (Nat.le_trans cb hc.size) (hm.pick _)) o7.bX (ao xU) ?_;rintro u73 m73 ⟨rfl,QW⟩ XN;obtain ⟨P1,kW,QW⟩:=QW;rw [show (ba y 12 t i 0).now=x.now from l6] at kW;subst kW;clear ig ii il ip ix it iv ie ic iq;obtain ⟨ig,ii,il,ip,ix,it,iv,ie,ic,iq⟩:=bM (ak xU XN);have adJ:P1.nl=y.lk.length:=QW.nl;have adN:P1.bs.length=y.lk.length:=QW.bl;have alg:=QW.sl;have oR:=iA.j3 12 t i 0;refine cf ?_;refine LM.rd (bu aA ir Tryz.isAgg54 rfl rfl (by first|exact bF om|exact aQ default cJ) (by rfl)) ?_;refine J1 ?_;refine cU Tryz.func71 rfl (fun w hm hc hg=>Fe QW.sq fp (hm.pick P1.mq) (fun m hr hM=>Eu (k:=n0) (t:Nat) w hLi.w hr (Nat.le_trans cb hc.size) (by show (gL y i).ho.length≤900;omega) (Nat.le_trans cb hc.size) hM)) (QW.sq.bX Dj) (ao iq) ?_;rintro u83 m83 ⟨mr,YR,⟨adr,Rz,rfl,Cz⟩,rfl,z9⟩ Mq;refine LM.assoc ?_;have i83:c6 (az b s x.now P) w.heap.size YR:=fun p hp=>ak iq Mq p (List.mem_append_right _ hp);have wB:dW n0 b s (bj (ba y 12 t i 0) i (rm (gL y i) t)) (az b s x.now {P1 with mq:=YR}):=fF.m (hn:=l6) {QW with nl:=(by show _=(y.lk.set _ _).length;rw [List.length_set];exact adJ),bl:=(by show _=(y.lk.set _ _).length;rw [List.length_set];exact adN),sq:=z9};have p8:=oR.bj (l:=i) (hLi.mono (Nat.le_refl _) (Nat.le_succ _) |>.die t);refine dA ?_;refine cU Tryz.func62 rfl (fun w hm hc hg=>lV w wB p8 om (by rw [cC];exact fp) (hLi.i.ud t) (Nat.le_trans (E2 ..) (iA.w8 fp)) rfl Cz (Nat.le_trans cb hc.size) (sm hm)) wB.bX (ao aL) ?_;rintro u89 m89 ⟨rfl,ZH⟩ WQ;rw [←hd1] at ZH;obtain ⟨P2,QH,ZH⟩:=ZH;rw [(Aw t y i).2.2.2,l6] at QH;subst QH;refine J8 ?_;refine aK (i+1,ru t y i,P2) ?_ ?_
   · exact⟨by omega,by rw [kZ,←hy],ZH,ak aL WQ⟩
   · (dsimp only;omega)
  refine J8 ?_;refine aK (i+1,ru t y i,Q) ?_ ?_
  · exact⟨by omega,by rw [kZ,←hy],by rw [show ru t y i=y from if_neg (by simpa [bd] using h3)];exact hQ,xU⟩
  · (dsimp only;omega)
 have fp:i=x.lk.length:=om;subst fp;have o7:dW n0 b s y (az b s x.now Q):=hQ.m;refine J9 ?_;refine cU Tryz.func72 rfl (fun w hm hc hg=>px t w o7 (by rw [iA.vl,ri];exact ht) (Nat.le_trans cb hc.size) (hm.pick _)) o7.bX (ao xU) ?_;rintro u92 m92 ⟨rfl,QB⟩ Iq;rw [hy] at QB;change dW n0 b s (De x t) m92 at QB;have hz:=uq x t;have qC:=hI.De ht;obtain ⟨z,Zy⟩:∃z,z=De x t:=⟨_,rfl⟩;have Vc:kh x t=ba (dh z t (tp (gT z t))) 11 t (-1) 0:=(by rw [Zy];rfl);rw [←Zy] at QB hz qC;obtain ⟨P1,kW,QB⟩:=QB;rw [hz.2.2.2] at kW;subst kW;clear ig ii il ip ix it iv ie ic iq;obtain ⟨ig,ii,il,ip,ix,it,iv,ie,ic,iq⟩:=bM (ak xU Iq);have wL:=QB.nt;have Dz:=QB.st;have Cd:t<z.ts.length:=(by rw [hz.1];exact ht);have aix:=qC.ev;refine dA ?_;refine LM.iB ({gT z t with st:=5}) (j:=6) aA ir Tryz.sizeOf3 rfl rfl rfl (by first|exact bF om|exact aQ default cJ) rfl (by decide) (by rfl) rfl (ao aA) (fun jU fR kf=>?_)
 try rw [List.set_set] at fR
 have H0:=ca kf aA;refine dA ?_;refine LM.iB ({gT z t with st:=5,un:=0#64}) (j:=7) aA ir Tryz.sizeOf41 rfl rfl rfl (by first|exact bF om|exact aQ default cJ) rfl (by decide) (by rfl) rfl (ao aA) (fun qa ki rL=>?_)
 try rw [List.set_set] at ki
 have QZ:=ca rL aA;refine dA ?_;refine LM.iB ({gT z t with st:=5,un:=0#64,lk:= -1}) (j:=8) aA ir Tryz.sizeOf3 rfl rfl rfl (by first|exact bF om|exact aQ default cJ) rfl (by decide) (by rfl) rfl (ao aA) (fun ms4 G9 Ml=>?_)
 try rw [List.set_set] at G9
 have ii4:=ca Ml aA;refine dA ?_;refine LM.iB (tp (gT z t)) (j:=5) aA ir Tryz.sizeOf3 rfl rfl rfl (by first|exact bF om|exact aQ default cJ) rfl (by decide) (by rfl) rfl (ao aA) (fun ms5 L9 Sf=>?_)
 try rw [List.set_set] at L9
 have ii5:=ca Sf aA;refine J3 ?_;have JQ:dW n0 b s (dh z t (tp (gT z t))) (az b s x.now {P1 with mt:=ms5}):=fF.m (hn:=hz.2.2.2) {QB with nt:=(by rw [bt];exact wL),st:=L9};refine J2 ?_;refine cU Tryz.func55 rfl (fun w hm hc hg=>bV 11 (t:Nat) (-1) 0 w JQ (by show z.ev.length≤_;omega) (Nat.le_trans cb hc.size) (hm.pick _)) JQ.bX (ao aL) ?_;rintro akc aek ⟨rfl,aer⟩ Ti;refine J1 ?_;refine QM.leave (.inr rfl) [] Tryz.results32 rfl ?_;intro w' aq ab aI;exact aZ (m':=aek) ⟨rfl,by rw [Vc];exact aer⟩ aq aX ab (ak aL Ti)
structure Cv (n0 b:Nat) (qs:List Qm) (ad:Option Addr) (n cap:Nat) (bs:List Nat) (ms:aa) (m:aa):Prop where
  wf:rq qs
  nl:n=qs.length
  sl:Sl fP 122 1 n0 bs (.slice ad n cap) ms
  hm:∃mm,m=gB b ad n cap::(ms++mm)∧jZ g8 n0 bs qs mm
  hb:n0≤b
section
variable {n0 b n cap:Nat} {qs:List Qm} {ad:Option Addr} {bs:List Nat} {m ms:aa}
theorem RcM.x (h:RcM n0 b qs m):∃ad n cap bs ms,Cv n0 b qs ad n cap bs ms m:=by
  obtain ⟨hw,ad,n,cap,ms,mm,bs,rfl,hn,hs,hq,hb⟩:=h;exact⟨ad,n,cap,bs,ms,hw,hn,hs,⟨mm,rfl,hq⟩,hb⟩
theorem Cv.c (h:Cv n0 b qs ad n cap bs ms m):RcM n0 b qs m:=by
  obtain ⟨hw,hn,hs,⟨mm,rfl,hq⟩,hb⟩:=h;exact⟨hw,ad,n,cap,ms,mm,bs,rfl,hn,hs,hq,hb⟩
theorem Cv.len (h:Cv n0 b qs ad n cap bs ms m):bs.length=qs.length:=by obtain ⟨hw,hn,hs,⟨mm,rfl,hq⟩,hb⟩:=h;exact hq.len
theorem Cv.ld (h:Cv n0 b qs ad n cap bs ms m) {w:World} (hM:Mem w m):Mem w (gB b ad n cap::(ms++ [])):=by
  obtain ⟨hw,hn,hs,⟨mm,rfl,hq⟩,hb⟩:=h;refine hM.sub (List.Sublist.cons_cons _ ?_);rw [List.append_nil];exact List.sublist_append_left _ _
theorem Cv.mm (h:Cv n0 b qs ad n cap bs ms m) {i:Nat} (hi:i<qs.length):∃(rk:Option Addr) (n2 gA:Nat) (MR:aa),n2=(qg qs i).l.length∧lr (qg qs i)∧Sl wK 137 3 n0 (qg qs i).l (.slice rk n2 gA) MR∧∀w,Mem w m→Mem w (dH (bs.getD i default) (qg qs i).g (qg qs i).fl rk n2 gA (qg qs i).cur (qg qs i).cI::MR):=by
  obtain ⟨hw,hn,hs,⟨mm,rfl,hq⟩,hb⟩:=h;obtain ⟨rk,n2,gA,MR,h1,h2,h3,h4⟩:=hq.Ak hi;exact⟨rk,n2,gA,MR,h1,h2,h3,fun w hM=>h4 w (hM.sub ((List.sublist_append_right ms mm).cons _))⟩
theorem Cv.read {P:Program} {f:FuncId} {args:Array Value} {w:World} {Q:Value→World→Prop} {i:Nat} (h:Cv n0 b qs ad n cap bs ms m) (hi:i<qs.length) (hM:Mem w m)
    (hs:∀m,g8 n0 (bs.getD i default) (qg qs i) m→Mem w m→aJ P f args w Q):aJ P f args w Q:=by
  obtain ⟨hw,hn,Fw,⟨mm,rfl,hq⟩,hb⟩:=h;exact hq.read hi (hM.sub ((List.sublist_append_right ms mm).cons _)) hs
theorem Cv.AY {P:Program} {f:FuncId} {args:Array Value} {w:World} {u0:Value} {x':Qm} {i:Nat} (h:Cv n0 b qs ad n cap bs ms m) (hi:i<qs.length) (hM:Mem w m) (Ut:rq (qs.set i x'))
    (hs:∀m,g8 n0 (bs.getD i default) (qg qs i) m→Mem w m→aJ P f args w (eF m (fun u m'=>u=u0∧g8 n0 (bs.getD i default) x' m') w)):
    aJ P f args w (eF m (fun u m'=>u=u0∧Cv n0 b (qs.set i x') ad n cap bs ms m') w):=by
  obtain ⟨hw,hn,Fw,⟨mm,rfl,hq⟩,hb⟩:=h;have hp:((gB b ad n cap::(ms++mm)):aa).Perm (mm++(gB b ad n cap::ms)):=(List.perm_append_comm (l₁:=gB b ad n cap::ms) (l₂:=mm))
  have hMm:=hM.perm hp;refine (hq.AY G3 hi (hM.sub ((List.sublist_append_right ms mm).cons _)) hs).mono (fun u w' hU=>?_);obtain ⟨m',⟨hu,hr⟩,jy,hM',hC,_⟩:=uN (G:=top) (S:=fun b'=>∃q∈(gB b ad n cap::(ms++mm):aa),q.1=b') (w0:=w) hMm (hq.bX G3) (fun p OY _=>⟨p,List.mem_cons_of_mem _ (List.mem_append_right _ OY),rfl⟩) (cX.refl _ _) trivial hU;refine ⟨hC,gB b ad n cap::(ms++m'),⟨hu,Ut,by rw [List.length_set];exact hn,Fw,⟨m',rfl,hr⟩,hb⟩,hM'.perm (List.perm_append_comm (l₁:=gB b ad n cap::ms) (l₂:=m')).symm,fun p OY=>?_⟩;rcases List.mem_cons.1 OY with rfl|OY
  · exact .inr ⟨_,List.mem_cons_self ..,rfl⟩
  rcases List.mem_append.1 OY with OY|OY
  · exact .inr ⟨p,List.mem_cons_of_mem _ (List.mem_append_left _ OY),rfl⟩
  · rcases jy p OY with e|⟨q,hq,e⟩
    · exact .inl e
    · exact .inr ⟨q,List.mem_cons_of_mem _ (List.mem_append_right _ hq),e⟩
end
set_option maxHeartbeats 2000000 in
theorem je {n0 b k:Nat} {s:eM} {x:aC} {m:aa} (w:World) (h:dW n0 b s x m) (hI:MI k x) (cb:n0≤w.heap.size) (hM:Mem w m):aJ Tryz.prog 31 #[.pointer (some ⟨b,0,none⟩)] w (eF m (fun u m'=>u= .tuple #[]∧dW n0 b s (jS x) m') w):=by
 obtain ⟨P,rfl,h⟩:=h;have rB:=h.nt;have er:=h.st;have uc:=hI.tl;refine aJ.au Tryz.func31 rfl Tryz.ntmps31 rfl (az b s x.now P++ []) ((fQ (az b s x.now P))) aM ?_;refine cL ?_;refine af.aS (α:=Nat×Option Addr×Nat×Nat×aa) (fun ⟨i,dI,no,bL,mo⟩=>[(2,.slice dI no bL),(3,.int .i64 (i:Nat))]) [(0,_)] (fun ⟨i,dI,no,bL,mo⟩=>az b s x.now P++(mo++ [])) (fun ⟨i,dI,no,bL,mo⟩=>i≤x.ts.length∧no=i∧Sl fI 3 1 w.heap.size ((rV x).take i) (.slice dI no bL) mo) (fun ⟨i,dI,no,bL,mo⟩=>x.ts.length-i) ((0,none,0,0,[])) cm aX ⟨Nat.zero_le _,rfl,.nil _ _ _ _⟩ ?_;rintro ⟨i,dI,no,bL,mo⟩ ⟨hi,fM,jL⟩;change af _ _ _ _ _ _ _ (az b s x.now P++(mo++ [])) _ _ _;have ioo:c6 (az b s x.now P) w.heap.size mo:=(fun p hp=> .inl (jL.ge p hp));have Nv:((rV x).take i).length=i:=(by rw [List.length_take,oK];omega)
 refine cL ?_;refine af.aj rfl (fun h1=>?_) (fun h1=>?_)
 ·refine gz ?_;refine LM.rd (aH (j:=9) aA ir Tryz.isAgg3 rfl rfl (by first|exact bF om|exact aQ default cJ) rfl (by rfl)) ?_;refine gz ?_;refine LM.rd (aH (j:=6) aA ir Tryz.isAgg3 rfl rfl (by first|exact bF om|exact aQ default cJ) rfl (by rfl)) ?_;refine J3 ?_;refine af.bH (α:=Unit) (fun ⟨⟩=>[(4,.int .i64 (z8 (x.ts.getD i default)))]) [(0,_),(2,_),(3,_)] (fun ⟨⟩=>az b s x.now P++(mo++ [])) (fun ⟨⟩=>True) cm ?_ ?_
  ·refine af.aj rfl (fun h2=>?_) (fun h2=>?_)
   ·refine J3 ?_;refine QM.xK (⟨⟩) ⟨(by first|exact lk rfl (congrArg (Value.int .i64) (show _=z8 _ from (if_pos aA).symm))|exact lk rfl (congrArg (Value.int .i64) (show _=z8 _ from (if_neg aA).symm))),rfl,rfl,rfl,trivial⟩ aX ?_
    · trivial
   refine J1 ?_;refine QM.xK (⟨⟩) ⟨(by first|exact lk rfl (congrArg (Value.int .i64) (show _=z8 _ from (if_pos aA).symm))|exact lk rfl (congrArg (Value.int .i64) (show _=z8 _ from (if_neg aA).symm))),rfl,rfl,rfl,trivial⟩ aX ?_
   · trivial
  rintro ⟨⟩ _;change QM _ _ _ _ _ (az b s x.now P++(mo++ [])) _ _ _;refine J4 ?_;refine LM.single Tryz.underlying26 Tryz.sizeOf3 Tryz.zeroValue3 rfl rfl rfl rfl rfl (fun b37 VG=>?_);refine LM.app (a:=z8 (x.ts.getD i default)) Tryz.underlying26 Tryz.typeInfo3 rfl rfl rfl rfl rfl rfl rfl aA (by rfl) ir (by intro _ u hu;simp [fI] at hu;(repeat (first|(rcases hu with rfl|hu)|subst hu|rfl))) (by first|exact Nat.le_refl _|omega) (ao aA) (by first|omega|(unfold maxLen;omega)) (by simp only [Tryz.t3];omega) (fun HM Qo xj R1 Q8 Jy s5=>?_);have abV:=ak aA s5;refine J9 ?_;refine aK (i+1,HM,Qo,xj,R1) ?_ ?_
  · exact⟨by omega,by omega,by rw [KH om];exact Jy⟩
  · (dsimp only;omega)
 refine J7 ?_;have fp:i=x.ts.length:=om;subst fp;rw [List.take_of_length_le (by rw [oK];exact Nat.le_refl _)] at jL;refine J5 ?_;refine LM.cS (oC Tryz.func67) (fun w hm hc hg=>Gb P.bg w h.gl hI.gi.a h.nx h.sx (by rw [oK];omega) (Sl.k8 jL (fun _=>rfl) hm) (by rw [oK];omega) (sm hm)) (fun akn n44 afr Z5 aeZ abP=>?_);obtain ⟨fw,hef⟩:∃fw,fw=x5 (rV x) x.g:=⟨_,rfl⟩;have hel:fw.length=x.ts.length:=(by rw [hef];unfold x5 AA;rw [List.length_map,List.length_range,oK];omega);rw [←hef] at abP aeZ;refine cf ?_;refine af.aS (α:=Nat×aC×sY) (fun ⟨i,y,Q⟩=>[(6,.int .i64 (i:Nat))]) [(0,_),(5,_)] (fun ⟨i,y,Q⟩=>az b s x.now Q++(Z5++ [])) (fun ⟨i,y,Q⟩=>i≤x.ts.length∧y=tT fw x i∧fF n0 b s y Q∧c6 (az b s x.now P) w.heap.size (az b s x.now Q)) (fun ⟨i,y,Q⟩=>x.ts.length-i) ((0,x,P)) cm aX ⟨Nat.zero_le _,rfl,h,ay _ _⟩ ?_;rintro ⟨i,y,Q⟩ ⟨hi,hy,hQ,xU⟩;change af _ _ _ _ _ _ _ (az b s x.now Q++(Z5++ [])) _ _ _;have iA:MI k y:=(by rw [hy];exact hI.tT fw hi);have p9:=nD fw x i;rw [←hy] at p9;have ri:y.ts.length=x.ts.length:=p9.1;have l6:y.now=x.now:=p9.2.2.2.1;obtain ⟨ig,ii,il,ip,ix,it,iv,ie,ic,iq⟩:=bM xU;have IZ:=hQ.st;have MV:=hQ.nt;obtain ⟨mH,nq,jq,E6,rj,hX⟩:=hQ.sc.x;have Si:=hX.sl;have hXl:=hX.len;have hXn:=hX.nl;refine cL ?_;refine af.aj rfl (fun h3=>?_) (fun h3=>?_)
 ·refine J6 ?_;refine af.draw [(0,0),(1,0),(2,0),(3,1),(4,0),(5,0),(6,0),(7,1),(8,0),(9,0),(10,0),(11,0),(12,0),(13,1),(14,0),(15,0),(16,0),(17,1),(18,0),(19,0),(20,0),(21,1),(22,0),(23,0)] kr kr ?_;refine J7 ?_;refine LD.rd rfl rfl (aH (j:=6) aA ir Tryz.isAgg3 rfl rfl (by first|exact bF om|exact aQ default cJ) rfl (by rfl)) ?_;refine J2 ?_;refine LD.ar (t:=63) rfl (fun h4=>?_) (fun h4=>?_)
  ·refine U4 ?_;refine aK (i+1,tL fw y i,Q) ?_ ?_
   · exact⟨by omega,by rw [ju,←hy],by rw [show tL fw y i=y from if_pos (.inl h4)];exact hQ,xU⟩
   · (dsimp only;omega)
  refine J7 ?_;refine LD.rd rfl ⟨63,_,rfl,rfl,rfl⟩ (aH (j:=10) aA ir Tryz.isAgg3 rfl rfl (by first|exact bF om|exact aQ default cJ) rfl (by rfl)) ?_;refine J3 ?_;refine LD.rd rfl ⟨63,_,rfl,rfl,rfl⟩ (bu aA ir Tryz.isAgg3 rfl rfl (by first|exact bF om|exact aQ 0 cJ) (by rfl)) ?_;refine J4 ?_;refine af.aj rfl (fun h5=>?_) (fun h5=>?_)
  ·refine J9 ?_;refine aK (i+1,tL fw y i,Q) ?_ ?_
   · exact⟨by omega,by rw [ju,←hy],by rw [show tL fw y i=y from if_pos (.inr h5)];exact hQ,xU⟩
   · (dsimp only;omega)
  have ZV:tL fw y i= {dh y i {gT y i with ef:=fw.getD i 0} with cs:=kc y.cs i (fw.getD i 0)} :=if_neg (fun q=>q.elim h4 h5);refine J3 ?_;refine af.keep (vE b s x.now Q::(Z5++ [])) (fun _=>True) (.one 0 0 (.one 1 0 (.one 2 0 (.one 3 1 (.one 4 0 (.one 5 0 (.one 6 0 (.one 7 0 (.one 8 1 (.one 9 0 (.one 10 0 (.last 11)))))))))))) kr kr aX (fun _ _=>trivial) ?_;refine J8 ?_;refine KD.rd rfl rfl (bu aA ir Tryz.isAgg3 rfl rfl (by first|exact bF om|exact aQ 0 cJ) (by rfl)) ?_;refine J2 ?_;refine KD.last rfl ?_;refine LM.iB ({y.ts.getD i default with ef:=fw.getD i 0}) (j:=10) aA ir Tryz.sizeOf3 rfl rfl rfl (by first|exact bF om|exact aQ default cJ) rfl (by decide) (by rfl) rfl (ao aA) (fun l5 de dJ=>?_)
  try rw [List.set_set] at de
  have G2:=ca dJ aA;refine J1 ?_;refine QM.qn ?_;refine J8 ?_;refine cE Tryz.func68 rfl (fun w hm hc hg=>k5 (i:Nat) w hQ.sc (hm.pick Q.mc)) ?_;refine J9 ?_;refine af.aj rfl (fun h6=>?_) (fun h6=>?_)
  ·have lp:bO y.cs i<y.cs.length:=yn om;have hcw:kc y.cs i (fw.getD i 0)=y.cs.set (bO y.cs i) (l7 (qg y.cs (bO y.cs i)) i (fw.getD i 0)):=if_pos lp;refine af.draw [(0,0),(1,0),(2,0),(3,1),(4,0),(5,0),(6,1),(7,0),(8,0),(9,1),(10,0),(11,0),(12,0),(13,0),(14,1),(15,3)] kr kr ?_;rw [qy lp];refine J6 ?_;refine LD.eR rfl rfl (fun w hm hc hg=>fD (M:=gB Q.bc mH nq jq::(rj++ [])) Tryz.isAgg118 rfl rfl w (hX.ld (hm.pick Q.mc))) ?_;refine J2 ?_;refine LD.eR rfl rfl (fun w hm hc hg=>aH (M:=gB Q.bc mH nq jq::(rj++ [])) (i:=bO y.cs i) (j:=0) Si ir Tryz.isAgg122 rfl rfl (aQ (xs:=E6) default om) rfl (by rfl) w (hX.ld (hm.pick Q.mc))) ?_;refine J4 ?_;refine LD.rd rfl rfl (bu aA ir Tryz.isAgg3 rfl rfl (by first|exact bF om|exact aQ 0 cJ) (by rfl)) ?_;refine LD.tail rfl rfl ?_;refine cU Tryz.func69 rfl (fun w hm hc hg=>hX.AY lp (hm.pick Q.mc) (by rw [←hcw];exact(iA.ci.wgh _ _).wf) (fun m hr hM=>CR (i:Nat) (fw.getD i 0) w hr hM)) hQ.sc.bX (ao ic) ?_;rintro abz Wg ⟨rfl,KG⟩ C9;have i112:=ak ic C9;refine J1 ?_;refine QM.qn ?_;refine J7 ?_;refine aK (i+1,tL fw y i,{Q with mt:=l5,mc:=Wg}) ?_ ?_
   · exact⟨by omega,by rw [ju,←hy],by rw [ZV];exact {hQ with nt:=(by rw [bt];exact MV),st:=de,sc:=(by show RcM _ _ (kc _ _ _) _;rw [hcw];exact KG.c)},aL⟩
   · (dsimp only;omega)
  refine J8 ?_;refine aK (i+1,tL fw y i,{Q with mt:=l5}) ?_ ?_
  · exact⟨by omega,by rw [ju,←hy],by rw [ZV];exact {hQ with nt:=(by rw [bt];exact MV),st:=de,sc:=(by show RcM _ _ (kc _ _ _) _;rw [show kc y.cs i (fw.getD i 0)=y.cs from if_neg (yJ om)];exact hQ.sc)},aL⟩
  · (dsimp only;omega)
 have hyF:y=tT (x5 (rV x) x.g) x x.ts.length:=(by rw [hy,←hef,show i=x.ts.length by omega])
 refine dA ?_;refine af.aS (α:=Nat×List Qm×aa) (fun ⟨i,cs,mc⟩=>[(8,.int .i64 (i:Nat))]) [(0,_)] (fun ⟨i,cs,mc⟩=>az b s x.now {Q with mc:=mc} ++ []) (fun ⟨i,cs,mc⟩=>i≤y.cs.length∧cs=Hq eV y.cs i∧RcM n0 Q.bc cs mc∧c6 (az b s x.now P) w.heap.size mc) (fun ⟨i,cs,mc⟩=>y.cs.length-i) ((0,y.cs,Q.mc)) cm aX ⟨Nat.zero_le _,rfl,hQ.sc,ic⟩ ?_;rintro ⟨i,cs,mc⟩ ⟨hi,wx,hRc,hic⟩;change af _ _ _ _ _ _ _ (az b s x.now {Q with mc:=mc} ++ []) _ _ _;have hCi:CI y.ts.length k cs:=(by rw [wx];exact iA.ci.stl hi);have ks:cs.length=y.cs.length:=(by rw [wx,lC]);obtain ⟨mH,nq,jq,E6,rj,hX⟩:=hRc.x;have Si:=hX.sl;have hXl:=hX.len;have hXn:=hX.nl;have hc4:=iA.ci.wf.len;refine cf ?_;refine LM.eR (fun w hm hc hg=>fD (M:=gB Q.bc mH nq jq::(rj++ [])) Tryz.isAgg118 rfl rfl w (hX.ld (hm.pick mc))) ?_;refine J4 ?_;refine af.aj rfl (fun h7=>?_) (fun h7=>?_)
 ·refine dA ?_;refine LM.eR (fun w hm hc hg=>fD (M:=gB Q.bc mH nq jq::(rj++ [])) Tryz.isAgg118 rfl rfl w (hX.ld (hm.pick mc))) ?_;refine J2 ?_;refine LM.eR (fun w hm hc hg=>aH (M:=gB Q.bc mH nq jq::(rj++ [])) (j:=0) Si ir Tryz.isAgg122 rfl rfl (aQ (xs:=E6) default om) rfl (by rfl) w (hX.ld (hm.pick mc))) ?_;refine cU Tryz.func70 rfl (fun w hm hc hg=>hX.AY (i:=i) om (hm.pick mc) ((hCi.set om (tZ (hCi.wf.wf i om)) (by rw [(eg _).1]) (by rw [(eg _).2.2.1];exact hCi.rn i om)).wf) (fun m hr hM=>wH w hr hM)) hRc.bX (ao hic) ?_;rintro Xf LU ⟨rfl,Tg⟩ DQ;refine J8 ?_;refine aK (i+1,cs.set i (eV (qg cs i)),LU) ?_ ?_
  · exact⟨by omega,by rw [wx];rfl,Tg.c,ak hic DQ⟩
  · (dsimp only;omega)
 refine J4 ?_;refine QM.leave (.inr rfl) [] Tryz.results31 rfl ?_;intro w' aq ab aI;have adP:i=y.cs.length:=om;subst adP;rw [Dq] at wx;have ZV:jS x= {y with cs:=cs} :=(by rw [wx,hyF];rfl);exact aZ (m':=az b s x.now {Q with mc:=mc}) ⟨rfl,by rw [ZV];exact fF.m (hn:=l6) {hQ with sc:=hRc}⟩ aq aX ab aL
abbrev oL (ok:Int) (l:Nat) (ob:Int):da:=⟨ok,(l:Int),ob⟩
set_option maxHeartbeats 2000000 in
theorem C0 {n0 b k t:Nat} {s:eM} {x:aC} {m:aa} (o:da) (w:World) (h:dW n0 b s x m) (hI:MI k x) (hk:k≤800000000000) (ht:t<x.ts.length) (hoa:1≤o.a∧o.a≤64) (cb:n0≤w.heap.size) (hM:Mem w m):aJ Tryz.prog 96 #[.pointer (some ⟨b,0,none⟩),.int .i64 (t:Nat),.agg (fO o).toArray] w (eF m (fun u m'=>u= .tuple #[]∧dW n0 b s (pK x t o.a) m') w):=by
 obtain ⟨P,rfl,h⟩:=h;have rB:=h.nt;have er:=h.st;have uc:=hI.tl;obtain ⟨ig,ii,il,ip,ix,it,iv,ie,ic,iq⟩:=bM (ay (az b s x.now P) w.heap.size);refine aJ.au Tryz.func96 rfl Tryz.ntmps96 rfl (az b s x.now P++ []) ((fQ (az b s x.now P))) aM ?_;refine J2 ?_;refine LM.box rfl rfl (fun b5 Ky=>?_);refine cL ?_;refine LM.rd (aH (j:=5) aA ir Tryz.isAgg3 rfl rfl (by first|exact bF om|exact aQ default cJ) rfl (by rfl)) ?_;refine J3 ?_;refine af.bH (α:=aa) (fun mt=>[]) [(0,_),(1,_)] (fun mt=>yd b s x.now P P.mx mt P.mc P.mq++(oB b5 o:: [])) (fun mt=>Sl Gc 66 12 n0 (x.ts.set t {gT x t with lf:=Ei (gT x t) o.a}) (.slice P.Dx P.nt P.ct) mt∧c6 (az b s x.now P) w.heap.size mt) cm ?_ ?_
 ·refine af.aj rfl (fun h1=>?_) (fun h1=>?_)
  ·refine af.keep (vE b s x.now P::oB b5 o:: []) (fun _=>True) (.one 0 0 (.one 1 0 (.one 2 0 (.one 3 1 (.one 4 0 (.one 5 0 (.one 6 1 (.one 7 0 (.one 8 0 (.last 9)))))))))) kr kr aX (fun _ _=>trivial) ?_;refine J9 ?_;refine KD.last rfl ?_;refine LM.iB ({gT x t with lf:=o.a}) (j:=5) aA ir Tryz.sizeOf3 rfl rfl rfl (by first|exact bF om|exact aQ default cJ) rfl (by decide) (by rfl) rfl (ao aA) (fun l5 de dJ=>?_)
   try rw [List.set_set] at de
   have G2:=ca dJ aA;refine J1 ?_;refine QM.qn ?_;refine mK (l5) ?_
   · exact⟨by rw [show Ei (gT x t) o.a=o.a from if_pos h1];exact de,G2⟩
  refine J1 ?_;refine mK (P.mt) ?_
  · exact⟨by rw [show Ei (gT x t) o.a=(gT x t).lf from if_neg h1,show ({gT x t with lf:=(gT x t).lf} :iM)=gT x t from rfl,yM default ht];exact er,it⟩
 rintro mt ⟨Dz,it1⟩;change QM _ _ _ _ _ (yd b s x.now P P.mx mt P.mc P.mq++(oB b5 o:: [])) _ _ _;have hlf:=(hI.tb t ht).lf;have hl0:1≤Ei (gT x t) o.a∧Ei (gT x t) o.a≤64:=(by unfold Ei;split<;>omega);have hlq:({gT x t with lf:=Ei (gT x t) o.a} :iM).lf=Ei (gT x t) o.a:=rfl;refine cf ?_;refine LM.rd (aH (j:=5) aA ir Tryz.isAgg3 rfl rfl (by first|exact bF om|exact aQ default cJ) rfl (by rfl)) ?_;refine J3 ?_;refine LM.iB (F1 (gT x t) o.a) (j:=5) aA ir Tryz.sizeOf3 rfl rfl rfl (by first|exact bF om|exact aQ default cJ) rfl (by decide) (by rfl) rfl (ao aA) (fun l5 de dJ=>?_)
 try rw [List.set_set] at de
 have G2:=ca dJ aA;refine J9 ?_;refine af.aS (α:=Nat×List aY×aa) (fun ⟨i,ls,mq⟩=>[(6,.int .i64 (i:Nat))]) [(0,_),(1,_)] (fun ⟨i,ls,mq⟩=>yd b s x.now P P.mx l5 P.mc mq++(oB b5 o:: [])) (fun ⟨i,ls,mq⟩=>i≤x.lk.length∧ls=Hq (fun L=>iU L t) x.lk i∧jZ MF n0 P.bs ls mq∧c6 (az b s x.now P) w.heap.size mq) (fun ⟨i,ls,mq⟩=>x.lk.length-i) ((0,x.lk,P.mq)) cm aX ⟨Nat.zero_le _,rfl,h.sq,iq⟩ ?_;rintro ⟨i,ls,mq⟩ ⟨hi,tV,hq,UP⟩;change af _ _ _ _ _ _ _ (yd b s x.now P P.mx l5 P.mc mq++(oB b5 o:: [])) _ _ _;have Jo:ls.length=x.lk.length:=(by rw [tV,lC]);have vr:=h.nl;have te:=h.bl;have fY:=h.sl;have NV:=hI.l8;have hgi:∀j,i≤j→j<x.lk.length→qg ls j=gL x j:=(fun j h1 h2=>by rw [tV,x9 _ _ _ _ hi h2,if_neg om])
 refine cL ?_;refine af.aj rfl (fun h2=>?_) (fun h2=>?_)
 ·refine cL ?_;refine LM.rd (bu aA ir Tryz.isAgg54 rfl rfl (by first|exact bF om|exact aQ default cJ) (by rfl)) ?_;refine J1 ?_;refine cE Tryz.func12 rfl (fun w hm hc hg=>hq.read (i:=i) om (hm.pick mq) (fun m hr hM=>(show aJ _ _ _ _ (fun u w'=>u= .bool (bd (qg ls i) (t:Nat))∧Ext _ w') from iW (t:Nat) w hr hM))) ?_;refine J2 ?_;refine af.aW rfl (fun h3=>?_) (fun h3=>?_)
  ·refine J7 ?_;refine LM.rd (bu aA ir Tryz.isAgg54 rfl rfl (by first|exact bF om|exact aQ default cJ) (by rfl)) ?_;refine J1 ?_;refine cU Tryz.func136 rfl (fun w hm hc hg=>hq.AY Dj (i:=i) om (hm.pick mq) (fun m hr hM=>(Ex (t:Nat) w hr (by rw [hgi i (Nat.le_refl _) om];exact(hI.li i om).w.hk) (by rw [hgi i (Nat.le_refl _) om];exact fun p hp=>by have:=(hI.li i om).b.hh p hp;omega) (by rw [hgi i (Nat.le_refl _) om];have:=(hI.li i om).b.tu;omega) hM))) (hq.bX Dj) (ao UP) ?_;rintro u62 ZS ⟨rfl,h62⟩ YV;refine J8 ?_;refine aK (i+1,ls.set i (iU (qg ls i) t),ZS) ?_ ?_
   · exact⟨by omega,by rw [tV];rfl,h62,ak UP YV⟩
   · (dsimp only;omega)
  refine J8 ?_;refine aK (i+1,ls.set i (iU (qg ls i) t),mq) ?_ ?_
  · exact⟨by omega,by rw [tV];rfl,by rw [KR (by simpa using h3),show qg ls i=ls.getD i default from rfl,yM default om];exact hq,UP⟩
  · (dsimp only;omega)
 have fp:i=x.lk.length:=om;subst fp;rw [Dq] at tV;have Rr:0≤(F1 (gT x t) o.a).pc∧(F1 (gT x t) o.a).pc≤(k:Int):=(hI.tb t ht).pc;refine lh ?_;refine LM.rd (aH (j:=5) aA ir Tryz.isAgg3 rfl rfl (by first|exact bF om|exact aQ default cJ) rfl (by rfl)) ?_;refine J3 ?_;refine af.aj rfl (fun h4=>?_) (fun h4=>?_)
 ·refine J8 ?_;refine LM.rd (aH (j:=4) aA ir Tryz.isAgg3 rfl rfl (by first|exact bF om|exact aQ default cJ) rfl (by rfl)) ?_;refine J3 ?_;refine LM.iB (sk (F1 (gT x t) o.a)) (j:=4) aA ir Tryz.sizeOf3 rfl rfl rfl (by first|exact bF om|exact aQ default cJ) rfl (by decide) (by rfl) rfl (ao aA) (fun jU fR kf=>?_)
  try rw [List.set_set] at fR
  have H0:=ca kf aA;refine J1 ?_;refine QM.leave (.inr rfl) [] Tryz.results96 rfl ?_;intro w' aq ab aI;refine aZ (m':=yd b s x.now P P.mx jU P.mc mq) ⟨rfl,?_⟩ aq aX ab (aL (P:= {P with mt:=jU,mq:=mq}));rw [N0 ht h4,show zX x t o.a= {dh x t (F1 (gT x t) o.a) with lk:=ls} by rw [tV];rfl];exact fF.m (P:= {P with mt:=jU,mq:=mq}) {h with nt:=(by rw [bt];exact(bt x t _).symm▸rB),st:=(by show Sl _ _ _ _ ((x.ts.set t _).set t _) _ _;rw [List.set_set];exact fR),nl:=(by show _=ls.length;rw [Jo];exact h.nl),bl:=(by show _=ls.length;rw [Jo];exact h.bl),sq:=hq}
 refine J1 ?_;refine QM.leave (.inr rfl) [] Tryz.results96 rfl ?_;intro w' aq ab aI;refine aZ (m':=yd b s x.now P P.mx l5 P.mc mq) ⟨rfl,?_⟩ aq aX ab (aL (P:= {P with mt:=l5,mq:=mq}));rw [Rx ht h4,show zX x t o.a= {dh x t (F1 (gT x t) o.a) with lk:=ls} by rw [tV];rfl];exact fF.m (P:= {P with mt:=l5,mq:=mq}) {h with nt:=(by show _=(x.ts.set t _).length;rw [List.length_set];exact rB),st:=de,nl:=(by show _=ls.length;rw [Jo];exact h.nl),bl:=(by show _=ls.length;rw [Jo];exact h.bl),sq:=hq}
set_option maxHeartbeats 2000000 in
theorem Ac {n0 b k t l:Nat} {ok ob:Int} {s:eM} {x:aC} {m:aa} (w:World) (h:dW n0 b s x m) (hI:MI k x) (hk:k≤800000000000) (ht:t<x.ts.length) (ij:l<x.lk.length) (cb:n0≤w.heap.size) (hM:Mem w m):aJ Tryz.prog 97 #[.pointer (some ⟨b,0,none⟩),.int .i64 (t:Nat),.agg (fO (oL ok l ob)).toArray] w (eF m (fun u m'=>u= .bool (mO x t (oL ok l ob)).2∧dW n0 b s (mO x t (oL ok l ob)).1 m') w):=by
 obtain ⟨P,rfl,h⟩:=h;have rB:=h.nt;have er:=h.st;have uc:=hI.tl;have vr:=h.nl;have te:=h.bl;have fY:=h.sl;obtain ⟨ig,ii,il,ip,ix,it,iv,ie,ic,iq⟩:=bM (ay (az b s x.now P) w.heap.size);have eO:(oL ok l ob).a=(l:Int):=rfl;have hL:=hI.li l ij;have hLh:=hL.hl;have zV:=hI.ev;have A0:lu x.ts.length (t:Int):=⟨by omega,by omega⟩
 refine aJ.au Tryz.func97 rfl Tryz.ntmps97 rfl (az b s x.now P++ []) ((fQ (az b s x.now P))) aM ?_;refine J2 ?_;refine LM.box rfl rfl (fun b5 Ky=>?_);refine J4 ?_;refine af.draw [(0,0),(1,0),(2,0),(3,1),(4,0),(5,1),(6,0),(7,1),(8,0)] kr kr ?_;refine J7 ?_;refine LD.rd rfl rfl (bu aA ir Tryz.isAgg54 rfl rfl (by first|exact bF om|exact aQ default cJ) (by rfl)) ?_;refine J4 ?_;refine af.draw [(0,0),(1,0),(2,0),(3,0),(4,1),(5,0),(6,0),(7,0),(8,1),(9,0),(10,1),(11,0),(12,2),(13,0)] kr kr ?_;refine J8 ?_;refine LD.rd rfl rfl (aH (j:=2) aA ir Tryz.isAgg3 rfl rfl (by first|exact bF om|exact aQ default cJ) rfl (by rfl)) ?_;refine J3 ?_;refine dE rfl rfl Tryz.func137 rfl (fun w hm hc hg=>h.sq.read ij (hm.pick P.mq) (fun m hr hM=>(show aJ _ _ _ _ (fun u w'=>u= .int .i64 (tq x t l (oL ok l ob))∧Ext _ w') from ze (gT x t).gr (decide ((oL ok l ob).k=3)) w hr hM))) ?_;refine J8 ?_;refine cU Tryz.func138 rfl (fun w hm hc hg=>h.sq.AY Dj ij (hm.pick P.mq) (fun m hr hM=>BY (t:Nat) (tq x t l (oL ok l ob)) w hL.w.topg hr (Nat.le_trans cb hc.size) (by show (gL x l).ho.length≤900;omega) hM)) (h.sq.bX Dj) (ao iq) ?_;rintro u34 Ki ⟨rfl,QQ⟩ JT;have i34:=ak iq JT;refine cf ?_;refine af.aj rfl (fun h1=>?_) (fun h1=>?_)
 ·obtain ⟨y,hy⟩:∃y,y=bj x l (cD (gL x l) t (tq x t l (oL ok l ob))):=⟨_,rfl⟩;have YJ:y.lk.length=x.lk.length:=(by rw [hy];exact cC ..);have hLy:gL y l=cD (gL x l) t (tq x t l (oL ok l ob)):=(by rw [hy];exact FV ij _);have hLt:=hL.take t (tq x t l (oL ok l ob)) A0;have bB:=hLt.hl;have ri:y.ts=x.ts:=(by rw [hy];rfl);have wF:dW n0 b s y (az b s x.now {P with mq:=Ki}):=(by rw [hy];exact fF.m {h with nl:=(by rw [cC];exact vr),bl:=(by rw [cC];exact te),sq:=QQ});have l6:y.now=x.now:=(by rw [hy];rfl);have hye:y.ev=x.ev:=(by rw [hy];rfl)
  refine J1 ?_;refine af.draw [(0,0),(1,0),(2,0),(3,1),(4,0),(5,0),(6,1),(7,0),(8,2),(9,3)] kr kr ?_;refine J8 ?_;refine dE rfl rfl Tryz.func101 rfl (fun w hm hc hg=>vw l (t:Nat) w wF om (by rw [hLy];omega) (hm.pick _)) ?_;refine LD.tail rfl rfl ?_;refine cU Tryz.func55 rfl (fun w hm hc hg=>bV 4 (t:Nat) (l:Nat) _ w wF (by rw [hye];omega) (Nat.le_trans cb hc.size) (hm.pick _)) wF.bX (ao aL) ?_;rintro u46 m46 ⟨rfl,h46⟩ Wy;have i46:c6 (az b s x.now P) w.heap.size m46:=ak aL Wy;refine J1 ?_;refine QM.qn ?_;refine J6 ?_;refine cU Tryz.func102 rfl (fun w hm hc hg=>uQ l w h46 (by show l<y.lk.length;omega) (by show (gL y l).ho.length≤900;rw [hLy];omega) (by show (gL y l).wt.length≤8;rw [hLy];exact hLt.w.w8) (hm.pick _)) h46.bX (ao i46) ?_;rintro u50 m50 ⟨rfl,TB⟩ Vv;obtain ⟨P1,kW,TB⟩:=TB;rw [show (BJ (ba y 4 t l (dF (gL y l) t)) l).now=x.now from l6] at kW;subst kW;clear ig ii il ip ix it iv ie ic iq;obtain ⟨ig,ii,il,ip,ix,it,iv,ie,ic,iq⟩:=bM (ak i46 Vv);have Dz:Sl Gc 66 12 n0 x.ts (.slice P1.Dx P1.nt P1.ct) P1.mt:=ri▸TB.st;have wL:P1.nt=x.ts.length:=ri▸TB.nt;have Rr:0≤(x.ts.getD t default).pc∧(x.ts.getD t default).pc≤(k:Int):=(hI.tb t ht).pc;refine dA ?_;refine LM.rd (aH (j:=4) aA ir Tryz.isAgg3 rfl rfl (by first|exact bF om|exact aQ default cJ) rfl (by rfl)) ?_;refine J3 ?_;refine LM.iB (sk (gT x t)) (j:=4) aA ir Tryz.sizeOf3 rfl rfl rfl (by first|exact bF om|exact aQ default cJ) rfl (by decide) (by rfl) rfl (ao aA) (fun l5 de dJ=>?_)
  try rw [List.set_set] at de
  have G2:=ca dJ aA;refine J9 ?_;refine qL Tryz.results97 rfl fun w' aq ab aI=>?_;rw [Lp eO h1,←hy];exact aZ (m':=az b s x.now {P1 with mt:=l5}) ⟨rfl,fF.m (hn:=l6) {TB with nt:=(by show _=(y.ts.set _ _).length;rw [List.length_set,ri];exact wL),st:=(by show Sl _ _ _ _ (y.ts.set t (sk (y.ts.getD t default))) _ _;rw [ri];exact de)}⟩ aq aX ab aL
 have IN:jZ MF n0 P.bs x.lk Ki:=(by have q:=QQ;rw [show cD (gL x l) t (tq x t l (oL ok l ob))=x.lk.getD l default from if_pos h1,yM default ij] at q;exact q);have wB:dW n0 b s x (az b s x.now {P with mq:=Ki}):=fF.m {h with sq:=IN};refine J4 ?_;refine af.bH (α:=Bool) (fun q=>[(68,.bool q)]) [(0,_),(1,_),(5,_),(7,_),(8,_),(9,_)] (fun q=>yd b s x.now P P.mx P.mt P.mc Ki++(oB b5 (oL ok l ob):: [])) (fun q=>q=Qy x t (oL ok l ob)) cm ?_ ?_
 ·refine J4 ?_;refine LM.ar (t:=64) rfl (fun h2=>?_) (fun h2=>?_)
  ·refine J6 ?_;refine mK (_) ?_
   · unfold Qy;rw [ma eO];simp_all
  refine J5 ?_;refine mK (_) ?_
  · unfold Qy;rw [ma eO];simp_all
 rintro q hq;change QM _ _ _ _ _ (yd b s x.now P P.mx P.mt P.mc Ki++(oB b5 (oL ok l ob):: [])) _ _ _;refine J1 ?_;refine af.bH (α:=aa) (fun mq=>[(9,.int .i64 (mQ x t (oL ok l ob)))]) [(0,_),(1,_),(5,_)] (fun mq=>yd b s x.now P P.mx P.mt P.mc mq++(oB b5 (oL ok l ob):: [])) (fun mq=>jZ MF n0 P.bs (if mQ x t (oL ok l ob)=0 then x.lk.set l (dv (gL x l) t (tq x t l (oL ok l ob))) else x.lk) mq∧c6 (az b s x.now P) w.heap.size mq) cm ?_ ?_
 ·refine af.aW rfl (fun h3=>?_) (fun h3=>?_)
  ·have UZ:cZ (gL x l) t (tq x t l (oL ok l ob))=8∧(oL ok l ob).k≠4:=(by rw [hq] at h3;unfold Qy at h3;rw [ma eO,Bool.and_eq_true,decide_eq_true_eq,decide_eq_true_eq] at h3;exact h3)
   refine J6 ?_;refine af.draw [(0,0),(1,0),(2,0),(3,1),(4,0),(5,0),(6,0),(7,1),(8,2),(9,2),(10,0)] kr kr ?_;refine J8 ?_;refine dE rfl rfl Tryz.func140 rfl (fun w hm hc hg=>pz l w wB ij om (hm.pick _)) ?_;refine dE rfl rfl Tryz.func139 rfl (fun w hm hc hg=>qf P.bg (t:Nat) _ w h.gl h.nx h.sx (sm hm)) ?_;refine J3 ?_;refine af.aW rfl (fun h4=>?_) (fun h4=>?_)
   ·have QK:=(ug eO UZ.1 UZ.2).trans (if_neg (by simpa using h4));refine J4 ?_;refine cU Tryz.func141 rfl (fun w hm hc hg=>IN.AY Dj ij (hm.pick Ki) (fun m hr hM=>AQ (t:Nat) (tq x t l (oL ok l ob)) w hL.w.topg hr (Nat.le_trans cb hc.size) hM)) (IN.bX Dj) (ao i34) ?_;rintro u83 m83 ⟨rfl,h83⟩ Mq;have i83:=ak i34 Mq;refine J2 ?_;refine QM.xK (m83) ⟨(by exact lk rfl (congrArg (Value.int .i64) QK.symm)),rfl,rfl,rfl,trivial⟩ aX ?_
    · refine ⟨?_,i83⟩;split;exact h83;(have q:=h83;rw [show dv (gL x l) t (tq x t l (oL ok l ob))=x.lk.getD l default from if_pos (by rw [←QK];assumption),yM default ij] at q;exact q)
   have QK:=(ug eO UZ.1 UZ.2).trans (if_pos (by simpa using h4));refine J1 ?_;refine QM.xK (Ki) ⟨(by exact lk rfl (congrArg (Value.int .i64) QK.symm)),rfl,rfl,rfl,trivial⟩ aX ?_
   · exact⟨by rw [if_neg (by rw [QK];decide)];exact IN,i34⟩
  have QK:=yx eO (fun q2=>by rw [hq] at h3;unfold Qy at h3;rw [ma eO,decide_eq_true q2.1,decide_eq_true q2.2] at h3;cases h3);refine J1 ?_;refine QM.xK (Ki) ⟨(by exact lk rfl (congrArg (Value.int .i64) QK.symm)),rfl,rfl,rfl,trivial⟩ aX ?_
  · exact⟨by rw [if_neg (by rw [QK];exact h1)];exact IN,i34⟩
 rintro mq ⟨ZQ,iqw⟩;change QM _ _ _ _ _ (yd b s x.now P P.mx P.mt P.mc mq++(oB b5 (oL ok l ob):: [])) _ _ _;refine J8 ?_;refine af.aj rfl (fun h5=>?_) (fun h5=>?_)
 ·have JQ:dW n0 b s x (az b s x.now {P with mq:=mq}):=fF.m {h with sq:=(by have q:=ZQ;rw [if_neg h5] at q;exact q)};refine J7 ?_;refine cU Tryz.func55 rfl (fun w hm hc hg=>bV 8 (t:Nat) (l:Nat) (mQ x t (oL ok l ob)) w JQ om (Nat.le_trans cb hc.size) (hm.pick _)) JQ.bX (ao aL) ?_;rintro u91 m91 ⟨rfl,Nz⟩ IG;obtain ⟨P1,kW,Nz⟩:=Nz;change m91=az b s x.now P1 at kW;subst kW;have i91:c6 (az b s x.now P) w.heap.size (az b s x.now P1):=ak aL IG;clear ig ii il ip ix it iv ie ic iq;obtain ⟨ig,ii,il,ip,ix,it,iv,ie,ic,iq⟩:=bM i91;have Dz:Sl Gc 66 12 n0 x.ts (.slice P1.Dx P1.nt P1.ct) P1.mt:=Nz.st;have wL:P1.nt=x.ts.length:=Nz.nt;have Rr:0≤(x.ts.getD t default).pc∧(x.ts.getD t default).pc≤(k:Int):=(hI.tb t ht).pc;refine dA ?_;refine LM.rd (aH (j:=4) aA ir Tryz.isAgg3 rfl rfl (by first|exact bF om|exact aQ default cJ) rfl (by rfl)) ?_;refine J3 ?_;refine LM.iB (sk (gT x t)) (j:=4) aA ir Tryz.sizeOf3 rfl rfl rfl (by first|exact bF om|exact aQ default cJ) rfl (by decide) (by rfl) rfl (ao aA) (fun l5 de dJ=>?_)
  try rw [List.set_set] at de
  have G2:=ca dJ aA;refine J9 ?_;refine qL Tryz.results97 rfl fun w' aq ab aI=>?_;rw [JG eO h1 h5];exact aZ (m':=az b s x.now {P1 with mt:=l5}) ⟨rfl,fF.m {Nz with nt:=(by show _=(x.ts.set _ _).length;rw [List.length_set];exact wL),st:=de}⟩ aq aX ab aL
 have JQ:dW n0 b s (bj x l (dv (gL x l) t (tq x t l (oL ok l ob)))) (az b s x.now {P with mq:=mq}):=fF.m {h with nl:=(by rw [cC];exact vr),bl:=(by rw [cC];exact te),sq:=(by have q:=ZQ;rw [if_pos om] at q;exact q)};have hvl:=hI.vl;refine J8 ?_;refine cU Tryz.func55 rfl (fun w hm hc hg=>bV 6 (t:Nat) (l:Nat) 0 w JQ (by show x.ev.length≤_;omega) (Nat.le_trans cb hc.size) (hm.pick _)) JQ.bX (ao aL) ?_;rintro aeM SS ⟨rfl,Lr⟩ Em;have i107:c6 (az b s x.now P) w.heap.size SS:=ak aL Em;refine J6 ?_;refine cU Tryz.func72 rfl (fun w hm hc hg=>px t w Lr (by show t<x.v.length;omega) (Nat.le_trans cb hc.size) (hm.pick _)) Lr.bX (ao i107) ?_;rintro akT XC ⟨rfl,ya⟩ RZ;change dW n0 b s (kP x t l (oL ok l ob)) XC at ya;obtain ⟨P1,kW,ya⟩:=ya;change XC=az b s x.now P1 at kW;subst kW;have i110:=ak i107 RZ;clear ig ii il ip ix it iv ie ic iq;obtain ⟨ig,ii,il,ip,ix,it,iv,ie,ic,iq⟩:=bM i110;have Dz:Sl Gc 66 12 n0 x.ts (.slice P1.Dx P1.nt P1.ct) P1.mt:=ya.st;have wL:P1.nt=x.ts.length:=ya.nt;have T4:Sl fU 41 1 n0 x.g (.slice P1.ax P1.nx P1.cx) P1.mx:=ya.sx;refine dA ?_;refine LM.iB ({gT x t with st:=4}) (j:=6) aA ir Tryz.sizeOf3 rfl rfl rfl (by first|exact bF om|exact aQ default cJ) rfl (by decide) (by rfl) rfl (ao aA) (fun l5 de dJ=>?_)
 try rw [List.set_set] at de
 have G2:=ca dJ aA;refine J3 ?_;refine af.keep (vE b s x.now P1::oB b5 (oL ok l ob):: []) (fun _=>True) (.one 0 0 (.one 1 0 (.one 2 0 (.one 3 1 (.one 4 0 (.one 5 0 (.one 6 1 (.one 7 0 (.one 8 0 (.last 9)))))))))) kr kr aX (fun _ _=>trivial) ?_;refine J9 ?_;refine KD.last rfl ?_;refine LM.iB ({gT x t with st:=4,lk:=(oL ok l ob).a}) (j:=8) aA ir Tryz.sizeOf3 rfl rfl rfl (by first|exact bF om|exact aQ default cJ) rfl (by decide) (by rfl) rfl (ao aA) (fun jU fR kf=>?_)
 try rw [List.set_set] at fR
 have H0:=ca kf aA;refine J1 ?_;refine QM.qn ?_;refine J9 ?_;refine af.bH (α:=aa) (fun mt=>[]) [(0,_),(1,_),(5,_)] (fun mt=>yd b s x.now P1 P1.mx mt P1.mc P1.mq++(oB b5 (oL ok l ob):: [])) (fun mt=>Sl Gc 66 12 n0 (x.ts.set t (vK (gT x t) (oL ok l ob) x.now)) (.slice P1.Dx P1.nt P1.ct) mt∧c6 (az b s x.now P) w.heap.size mt) cm ?_ ?_
 ·refine af.aj rfl (fun h6=>?_) (fun h6=>?_)
  ·refine af.keep (vE b s x.now P1::oB b5 (oL ok l ob):: []) (fun _=>True) (.one 0 0 (.one 1 0 (.one 2 0 (.one 3 1 (.one 4 0 (.one 5 0 (.one 6 0 (.one 7 0 (.one 8 1 (.one 9 0 (.one 10 1 (.one 11 0 (.one 12 0 (.one 13 0 (.one 14 0 (.last 15)))))))))))))))) kr kr aX (fun _ _=>trivial) ?_;refine dA ?_;refine KD.val rfl rfl (nH Tryz.underlying3 Tryz.underlying41 rfl) ?_;refine KD.val rfl rfl (gY rfl rfl) ?_;refine J2 ?_;refine KD.last rfl ?_;refine LM.iB ({gT x t with st:=4,lk:=(oL ok l ob).a,un:=x.now+BitVec.ofInt 64 (oL ok l ob).b}) (j:=7) aA ir Tryz.sizeOf41 rfl rfl rfl (by first|exact bF om|exact aQ default cJ) rfl (by decide) (by rfl) rfl (ao aA) (fun qa ki rL=>?_)
   try rw [List.set_set] at ki
   have QZ:=ca rL aA;refine J1 ?_;refine QM.qn ?_;refine mK (qa) ?_
   · exact⟨by rw [show vK (gT x t) (oL ok l ob) x.now= {gT x t with st:=4,lk:=(oL ok l ob).a,un:=x.now+BitVec.ofInt 64 (oL ok l ob).b} by unfold vK;rw [if_pos h6]];exact ki,QZ⟩
  refine J1 ?_;refine mK (jU) ?_
  · exact⟨by rw [show vK (gT x t) (oL ok l ob) x.now= {gT x t with st:=4,lk:=(oL ok l ob).a} by unfold vK;rw [if_neg h6]];exact fR,H0⟩
 rintro mt ⟨IZ,it2⟩;change QM _ _ _ _ _ (yd b s x.now P1 P1.mx mt P1.mc P1.mq++(oB b5 (oL ok l ob):: [])) _ _ _;have hMw:dW n0 b s (dh (kP x t l (oL ok l ob)) t (vK (gT x t) (oL ok l ob) x.now)) (az b s x.now {P1 with mt:=mt}):=fF.m {ya with nt:=(by show _=(x.ts.set _ _).length;rw [List.length_set];exact wL),st:=IZ};have hLw:=hL.wait t (tq x t l (oL ok l ob)) A0;have hlw:=hLw.hl;have wu:gL (kP x t l (oL ok l ob)) l=dv (gL x l) t (tq x t l (oL ok l ob)):=FV ij _;refine J2 ?_;refine af.draw [(0,0),(1,0),(2,0),(3,1),(4,0),(5,0),(6,0),(7,1),(8,2),(9,3)] kr kr ?_;refine J8 ?_;refine dE rfl rfl Tryz.func140 rfl (fun w hm hc hg=>pz l w hMw (by show l<(x.lk.set _ _).length;rw [List.length_set];exact ij) (by show (gL (kP x t l (oL ok l ob)) l).ho.length≤900;rw [wu];omega) (hm.pick _)) ?_;refine LD.tail rfl rfl ?_;refine cU Tryz.func142 rfl (fun w hm hc hg=>vV P1.bg (t:Nat) (sf (gL (kP x t l (oL ok l ob)) l)) w h.gl ya.nx T4 (sm hm)) T4.bX (ao ix) ?_;rintro ajq TK ⟨rfl,Xv⟩ Sa;have i154:=ak ix Sa;refine J1 ?_;refine QM.qn ?_;refine J7 ?_;refine qL Tryz.results97 rfl fun w' aq ab aI=>?_;rw [HG eO h1 h5,yH eO];exact aZ (m':=yd b s x.now P1 TK mt P1.mc P1.mq) ⟨rfl,fF.m (P:= {P1 with mt:=mt,mx:=TK}) {ya with nt:=(by show _=(x.ts.set _ _).length;rw [List.length_set];exact wL),st:=IZ,gl:=zl h.gl _ _,sx:=Xv}⟩ aq aX ab (aL (P:= {P1 with mt:=mt,mx:=TK}))
theorem lF {n0 b k t:Nat} {s:eM} {x:aC} {m:aa} (o:da) (w:World) (h:dW n0 b s x m) (hI:MI k x) (hk:k≤800000000000) (ht:t<x.ts.length) (hoa:0≤o.a∧o.a<(x.lk.length:Int)) (cb:n0≤w.heap.size) (hM:Mem w m):
    aJ Tryz.prog 97 #[.pointer (some ⟨b,0,none⟩),.int .i64 (t:Nat),.agg (fO o).toArray] w (eF m (fun u m'=>u= .bool (mO x t o).2∧dW n0 b s (mO x t o).1 m') w):=by
  obtain ⟨ok,oa,ob⟩:=o;obtain ⟨l,rfl⟩:∃l:Nat,oa=l:=⟨oa.toNat,(Int.toNat_of_nonneg hoa.1).symm⟩
  exact Ac w h hI hk ht (by have:=hoa.2;show l<_;exact Int.ofNat_lt.1 this) cb hM
end Go.Eng
namespace Go.Eng
open Go Go.RowKit
theorem k7 {s:km} (h:fy s=true):s.ls.length≤8∧s.ps.length≤8∧∀p∈s.ps,(Cn p.fv p.xs s.ls (s.ps.length:Int)).2=0:=by
  unfold fy cG at h
  simp only [Bool.and_eq_true,decide_eq_true_eq,Bool.not_eq_true'] at h;refine ⟨h.1.1.2.1,by omega,fun p hp=>?_⟩;have:=List.any_eq_false.1 h.2 p hp
  unfold mM at this
  simpa using this
theorem qZ {fv:Bool} {xs:List da} {ls:List ke} {cO:Int} (h:(Cn fv xs ls cO).2=0):kC xs=true∧∀j,j<xs.length→gC fv xs ls cO j=0:=by
  unfold Cn at h
  split at h
  · rename_i hm
    refine ⟨hm,fun j hj=>?_⟩
    split at h
    · rename_i i hi
      have:=List.find?_some hi;simp only [decide_eq_true_eq] at this;exact absurd h this
    · rename_i hn
      have:=List.find?_eq_none.1 hn j (List.mem_range.2 hj);simpa using this
  · cases h
theorem Bo {s:km} (h:fy s=true) {p:pF} (hp:p∈s.ps):p.xs.length≤20:=(xH (qZ ((k7 h).2.2 p hp)).1).1
structure Nl (s:km) (o:da):Prop where
  k:1≤o.k∧o.k≤11
  c:o.k=1→1≤o.a∧o.a≤64
  l:2≤o.k∧o.k≤6→0≤o.a∧o.a<(s.ls.length:Int)
  p:o.k=9→0≤o.a∧o.a<(s.ps.length:Int)
theorem Vq {s:km} (h:fy s=true) {p:pF} (hp:p∈s.ps) {i:Nat} (hi:i<p.xs.length):Nl s (p.xs.getD i default):=by
  obtain ⟨h1,h2,h3⟩:=k7 h;obtain ⟨hm,hf⟩:=qZ (h3 p hp);have hr:=yS hm hi;have ha:=ym hr;have hf:=hf i hi
  have hc:¬((nI (p.xs.getD i default).k||decide ((p.xs.getD i default).k=6))&&decide ((p.xs.getD i default).a ≥ (s.ls.length:Int))||decide ((p.xs.getD i default).k=9)&&decide ((p.xs.getD i default).a ≥ (s.ps.length:Int)))=true:=fun q=>by
    unfold gC at hf;rw [if_pos q] at hf;cases hf
  clear hf
  generalize p.xs.getD i default=o at hr ha hc
  unfold iE td at hr
  unfold nI at hc
  simp only [Bool.and_eq_true,Bool.or_eq_true,decide_eq_true_eq] at hr hc
  have key:(2≤o.k∧o.k≤6→o.a<(s.ls.length:Int))∧(o.k=9→o.a<(s.ps.length:Int)):=⟨fun q=>by
    refine Classical.byContradiction fun n=>hc (.inl ⟨?_,by omega⟩);rcases Int.lt_or_le 5 o.k with r|r
    · exact .inr om
    · exact .inl ⟨q.1,r⟩,fun q=>Classical.byContradiction fun n=>hc (.inr ⟨q,by omega⟩)⟩
  refine ⟨hr.1.1,fun e=>?_,fun e=>⟨ha.1,key.1 e⟩,fun e=>⟨ha.1,key.2 e⟩⟩;have h5:=hr.1.2;rw [e] at h5;simp [hasB,rG,wZ] at h5;omega
section
variable {k:Nat} {x:aC} (h:MI k x)
include h
theorem MI.cmp {t:Nat} (ht:t<x.ts.length) {a:Int} (ha:1≤a∧a≤64):MI (k+2) (pK x t a):=by
  have q:=h.tb t ht;have hl:=q.lf;have hq:wA x.s k (F1 (gT x t) a):=⟨q.pr,q.pc,by show 0≤Ei (gT x t) a-1∧Ei (gT x t) a-1≤64;unfold Ei;split<;>omega,q.ti,q.l4,q.un⟩
  have h1:MI (k+1) (zX x t a):=
    have h':=(h.up ht hq).mono (Nat.le_succ k)
    {h' with
      ll:=by show (x.lk.map _).length=_;rw [List.length_map];exact h.ll
      li:=fun l hl=>by have:=LI.Xp h.li t l hl;rw [show (zX x t a).ts.length=x.ts.length from bt ..];exact this}
  unfold pK;split
  · exact h1.inc (by rw [show (zX x t a).ts.length=x.ts.length from bt ..];exact ht)
  · exact h1.mono (Nat.le_succ _)
theorem MI.MP (pr gr we co:Int) (hp:0≤pr∧pr<(x.s.ps.length:Int)) (zZ:x.ts.length<64):MI (k+1) (oT x pr gr we co):=by
  have hl:(x.ts++ [Eb x.ts.length pr gr we co]).length=x.ts.length+1:=by rw [List.length_append];rfl
  have h1:MI k {x with ts:=x.ts++ [Eb x.ts.length pr gr we co],v:=x.v++ [0#64],cs:=dx x.cs co x.ts.length 0#64 we} :=
    {h with
      ce:=by rw [show (dx x.cs co x.ts.length 0#64 we).length=x.cs.length from fZ ..];exact h.ce
      ci:=by
        show CI (x.ts++ [_]).length k _
        rw [hl];exact(h.ci.mono (Nat.le_succ _) (Nat.le_refl _)).add _ _ _ _ om
      il:=by rw [show (dx x.cs co x.ts.length 0#64 we).length=x.cs.length from fZ ..];exact h.il
      li:=fun l nL=>by show LI (x.ts++ [_]).length k _;rw [hl];exact(h.li l nL).mono (Nat.le_succ _) (Nat.le_refl _)
      tl:=by show (x.ts++ [_]).length≤64;rw [hl];omega
      iq:=fun c hc a ha=>by
        have yl:c<x.cs.length:=by rw [←fZ x.cs co x.ts.length 0#64 we];exact hc
        show ((x.ts++ [_]).getD a.toNat default).un=0#64
        rcases By ha with q|rfl
        · have h1:=h.ci.id c yl a q
          have h0:=(h.ci.wf.wf c yl).pos _ (ea q).1;rw [(ea q).2] at h0;rw [List.getD_eq_getElem?_getD,List.getElem?_append_left om,←List.getD_eq_getElem?_getD];exact h.iq c yl a q
        · rw [Int.toNat_natCast,List.getD_eq_getElem?_getD,List.getElem?_append_right (Nat.le_refl _),Nat.sub_self];rfl
      vl:=by show (x.v++ [_]).length=(x.ts++ [_]).length;rw [hl,List.length_append,h.vl];rfl
      tb:=fun t ht=>by
        have UX:t<x.ts.length+1:=by rw [←hl];exact ht
        show wA x.s k ((x.ts++ [_]).getD t default)
        rcases Nat.lt_or_ge t x.ts.length with q|q
        · rw [List.getD_eq_getElem?_getD,List.getElem?_append_left q,←List.getD_eq_getElem?_getD];exact h.tb t q
        · rw [show t=x.ts.length by omega,List.getD_eq_getElem?_getD,List.getElem?_append_right (Nat.le_refl _),Nat.sub_self]
          exact⟨hp,⟨Int.le_refl _,Int.natCast_nonneg k⟩,⟨Int.le_refl _,by show (0:Int)≤64;decide⟩,⟨Int.le_refl _,Int.natCast_nonneg k⟩,fun e=>(by cases e),fun e=>absurd rfl e⟩}
  exact h1.j3 _ _ _ _
theorem MI.Zz {t:Nat} (ht:t<x.ts.length) {o:da} (ho:0≤o.a∧o.a<(x.lk.length:Int)):MI (k+3) (mO x t o).1:=by
  obtain ⟨l,eO⟩:∃l:Nat,o.a=(l:Nat):=⟨o.a.toNat,(Int.toNat_of_nonneg ho.1).symm⟩
  have ij:l<x.lk.length:=by omega
  have hL:=h.li l ij;have A0:lu x.ts.length (t:Int):=⟨by omega,by omega⟩
  by_cases he:cZ (gL x l) t (tq x t l o)=0
  · rw [Lp eO he]
    have h1:=(h.mono (Nat.le_succ k)).bj (l:=l) (hL.take t (tq x t l o) A0);exact((h1.j3 4 t l (dF (gL (Go.Eng.bj x l (cD (gL x l) t (tq x t l o))) l) t)).WE l).inc ht
  · by_cases h2:mQ x t o≠0
    · rw [JG eO he h2];exact((h.j3 8 t l (mQ x t o)).inc ht).mono om
    · rw [HG eO he h2,yH eO]
      have h1:=(h.mono (Nat.le_succ k)).bj (l:=l) (hL.wait t (tq x t l o) A0);have h3:MI (k+2) (kP x t l o):=(h1.j3 6 t l 0).qut t;have q:=(h.tb t ht).mono (show k≤k+2 by omega);exact((h3.Zu (t:=t) ht (y:=vK (gT x t) o x.now) ⟨q.pr,q.pc,q.lf,q.ti,fun _=>⟨ho.1,by show o.a<(x.s.ls.length:Int);have:=h.ll;omega⟩,fun _=> .inr rfl⟩ (fun c hc hk=>absurd rfl (qH h.ci.wf (by rw [←oQ x.cs t];exact hc) hk).2)).gr (h.gi.wt _ _)).mono om
theorem MI.back {c:Nat} (hc:c<x.cs.length):MI k (iz x c (fj (qg x.cs c))):=h.F7 (h.ci.back hc) (List.length_set ..) (fun d hd a ha=> .inl ⟨d,hd,jE hc (q:=fj (qg x.cs c)) rfl ha⟩)
theorem MI.op {t:Nat} (ht:t<x.ts.length) {i:Nat} (hi:i<(kn x t).xs.length):Nl x.s ((kn x t).xs.getD i default):=by
  have hp:=(h.tb t ht).pr;exact Vq h.ms (List.mem_of_getElem? (aQ default (show (gT x t).pr.toNat<x.s.ps.length by omega))) hi
end
section
variable {x:aC} {t c:Nat} {o:da}
theorem V9 (h:o.k=1):eA x t c o=(pK x t o.a,true):=if_pos h
theorem B0 (h:2≤o.k∧o.k≤5):eA x t c o=mO x t o:=by unfold eA;rw [if_neg om,if_pos h]
theorem KP (h:o.k=6) (he:mL (gL x o.a.toNat) t≠0):eA x t c o=(bK (ba x 8 t o.a (mL (gL x o.a.toNat) t)) t,false):=by unfold eA;rw [if_neg om,if_neg om,if_pos h,if_pos he]
theorem IV (h:o.k=6) (he:¬mL (gL x o.a.toNat) t≠0):eA x t c o=(bK (dz (ba (bj x o.a.toNat (ej (gL x o.a.toNat) t)) 5 t o.a 0) o.a.toNat (dY (gL x o.a.toNat) t)) t,false):=by unfold eA;rw [if_neg om,if_neg om,if_pos h,if_neg he]
def Re (x:aC) (t:Nat) (a:Int):aC:=eC (ba x 9 t (-1) a) t
theorem Uz (h:o.k=7):eA x t c o=(dh (Re x t o.a) t {gT x t with st:=3,un:=x.now+BitVec.ofInt 64 o.a,pc:=(gT x t).pc+1},true):=by unfold eA;rw [if_neg om,if_neg om,if_neg om,if_pos h];rfl
def aeR (x:aC) (t c:Nat):aC:=iz (ba x 10 t (-1) c) c (fj (qg x.cs c))
theorem Xr (h:o.k=8):eA x t c o=(dh (aeR x t c) t {gT x t with st:=1,pc:=(gT x t).pc+1},true):=by unfold eA;rw [if_neg om,if_neg om,if_neg om,if_neg om,if_pos h];rfl
theorem UN (h:o.k=9):eA x t c o=(bK (if iJ x=true then oT x o.a (gT x t).gr (gT x t).we c else ba x 8 t (-1) 3) t,false):=by unfold eA;rw [if_neg om,if_neg om,if_neg om,if_neg om,if_neg om,if_pos h]
theorem JM (h:o.k=10):eA x t c o=(bK (ba (dh x t {gT x t with we:=o.a}) 14 t (-1) o.a) t,false):=by unfold eA;rw [if_neg om,if_neg om,if_neg om,if_neg om,if_neg om,if_neg om,if_pos h]
theorem Lt (h:o.k=11):eA x t c o=(kh x t,true):=by unfold eA;rw [if_neg om,if_neg om,if_neg om,if_neg om,if_neg om,if_neg om,if_neg om,if_pos h]
end
theorem zk {x:aC} {t:Nat} :(kq x t).ts.length=x.ts.length∧(kq x t).lk=x.lk∧(kq x t).s=x.s∧(kq x t).now=x.now∧(kq x t).g=x.g∧(kq x t).ev=x.ev∧(kq x t).cs=x.cs:=by
  unfold kq;split
  · exact⟨bt ..,rfl,rfl,rfl,rfl,rfl,rfl⟩
  · exact⟨rfl,rfl,rfl,rfl,rfl,rfl,rfl⟩
theorem MI.kq {k:Nat} {x:aC} (h:MI k x) {t:Nat} (ht:t<x.ts.length):MI k (kq x t):=by
  unfold Go.Eng.kq;split
  · have q:=h.tb t ht
    exact h.up ht ⟨q.pr,⟨Int.le_refl _,Int.natCast_nonneg k⟩,q.lf,q.ti,q.l4,q.un⟩
  · exact h
theorem Sq {x:aC} {t:Nat} (ht:t<x.ts.length):kn (kq x t) t=kn x t:=by
  unfold kn kq;split
  · rw [fJ ht,if_pos rfl];rfl
  · rfl
theorem Fi {k:Nat} {x:aC} (h:MI k x) {t:Nat} (ht:t<x.ts.length):(gT (kq x t) t).pc.toNat<(kn x t).xs.length∧0≤(gT (kq x t) t).pc:=by
  have hp:=(h.tb t ht).pr;have hm:=(qZ ((k7 h.ms).2.2 (kn x t) (List.mem_of_getElem? (aQ default (show (gT x t).pr.toNat<x.s.ps.length by omega))))).1;have h0:0<(kn x t).xs.length:=by unfold kC at hm;simp only [Bool.and_eq_true,decide_eq_true_eq] at hm;exact hm.1.1
  have Rr:=(h.tb t ht).pc
  unfold kq;split
  · rw [fJ ht,if_pos rfl];exact⟨h0,Int.le_refl _⟩
  · exact⟨by omega,Rr.1⟩
theorem tJ {α:Type} {l:List α} {i:Nat} (d:α) (h:i<l.length):l.set i (l.getD i d)=l:=by
  apply List.ext_getElem (by rw [List.length_set])
  intro j h1 h2;rw [List.getElem_set]
  split
  · rename_i e;subst e;rw [List.getD_eq_getElem?_getD,List.getElem?_eq_getElem h2];rfl
  · rfl
theorem QG {x:aC} {t:Nat} (ht:t<x.ts.length):∃z,kq x t=dh x t z:=by
  unfold kq;split
  · exact⟨_,rfl⟩
  · refine ⟨gT x t,?_⟩;unfold dh;rw [tJ default ht]
theorem tP {x:aC} {t c:Nat} (h1:((kn x t).xs.length:Int)≤(gT x t).pc) (h2:(kn x t).fv=false):e9 x t c=(kh x t,true):=if_pos ⟨h1,h2⟩
theorem Dv {x:aC} {t c:Nat} (h:¬(((kn x t).xs.length:Int)≤(gT x t).pc∧(kn x t).fv=false)) {z:iM} (ht:t<x.ts.length) (hz:kq x t=dh x t z) {o:da} (ho:(kn x t).xs.getD z.pc.toNat default=o):e9 x t c=eA (dh x t z) t c o:=by
  unfold e9;rw [if_neg h,hz,fJ ht,if_pos rfl,ho]
/-! ### who is due -/
theorem kV (x:aC) (n:Nat):Ay x (n+1)=U3 x (Ay x n) n:=by unfold Ay;rw [List.range_succ,List.foldl_append];rfl
theorem iS (x:aC):∀(n j:Nat),j∈Ay x n→j<n
  |0,j,h=>by cases h
  |n+1,j,h=>by
    rw [kV] at h
    unfold U3 at h;split at h
    · have:=iS x n j h;omega
    · rcases List.mem_append.1 h with h|h
      · have:=iS x n j (List.mem_of_mem_take h);omega
      · rcases List.mem_cons.1 h with rfl|h
        · omega
        · have:=iS x n j (List.mem_of_mem_drop h);omega
theorem tF (x:aC):∀n,(Ay x n).length≤n
  |0=>Nat.le_refl _
  |n+1=>by
    have ih:=tF x n;rw [kV]
    unfold U3;split
    · omega
    · rw [List.length_append,List.length_cons,List.length_take,List.length_drop];omega
theorem Qi {x:aC} {out:List Nat} {i k:Nat} (h:∀j,j<k→¬MG x i<MG x (out.getD j 0)) (hk:k=out.length∨(k<out.length∧MG x i<MG x (out.getD k 0))):Va x out i=k:=by
  have e:∀j (hj:j<out.length),out.getD j 0=out[j] :=fun j hj=>by rw [List.getD_eq_getElem?_getD,List.getElem?_eq_getElem hj];rfl
  unfold Va
  rcases hk with rfl|⟨h1,h2⟩
  · refine List.findIdx_eq_length.2 (fun a ha=>?_)
    obtain ⟨j,hj,rfl⟩:=List.getElem_of_mem ha;have:=h j hj;rw [e j hj] at this;exact decide_eq_false this
  · rw [List.findIdx_eq h1]
    exact⟨by rw [←e k h1];exact decide_eq_true h2,fun j hj=>by have:=h j hj;rw [e j om] at this;exact decide_eq_false this⟩
theorem B6 {l:List Nat} {k:Nat} (h:k<l.length):(l.map (fun (j:Nat)=>(j:Int))).getD k 0=((l.getD k 0:Nat):Int):=by
  rw [List.getD_eq_getElem?_getD,List.getD_eq_getElem?_getD,List.getElem?_map,List.getElem?_eq_getElem h];rfl
theorem vF (x:aC) (t:Nat):(oU x t).ts.length=x.ts.length∧(oU x t).lk.length=x.lk.length∧(oU x t).s=x.s∧(oU x t).now=x.now:=by
  unfold oU;split
  · exact⟨rfl,rfl,rfl,rfl⟩
  · split
    · exact⟨List.length_set ..,rfl,rfl,rfl⟩
    · have e:=cM (gT x t).lk.toNat (fe (dt (bK (ba (bj x (gT x t).lk.toNat (fx (gL x (gT x t).lk.toNat) t)) 8 t (gT x t).lk 10) t) t) t) (pd (gL x (gT x t).lk.toNat) t)
      exact⟨e.1.trans (by show ((x.ts.set _ _).set _ _).length=_;rw [List.length_set,List.length_set]),by rw [e.2.1];exact cC ..,e.2.2⟩
theorem MI.oU {k:Nat} {x:aC} (h:MI k x) {t:Nat} (ht:t<x.ts.length):MI (k+40) (oU x t):=by
  unfold Go.Eng.oU;split
  · exact h.mono om
  · next e=>
    split
    · exact(h.D6 ht).mono om
    · next e2=>
      have hl:=(h.tb t ht).l4 (((h.tb t ht).un e).resolve_left e2);have nL:(gT x t).lk.toNat<x.lk.length:=by rw [h.ll];omega
      have hL:=h.li _ nL;have h1:=((h.bj (l:=(gT x t).lk.toNat) (hL.lv t)).j3 8 t (gT x t).lk 10).inc (t:=t) ht;have h2:=(h1.cut (t:=t) (by show t<(x.ts.set _ _).length;rw [List.length_set];exact ht)).D6 (t:=t) (by show t<(x.ts.set _ _).length;rw [List.length_set];exact ht);refine (h2.rQ (gT x t).lk.toNat (fun u hu=>?_) (Nat.le_trans (qP ..) (h.w8 nL))).mono om;have:=hL.i.pd t u hu
      show lu ((x.ts.set _ _).set _ _).length u
      rw [List.length_set,List.length_set];exact this
theorem uH (x:aC) (l:List Nat) (t:Nat):xZ x (l++ [t])=oU (xZ x l) t:=by unfold xZ;rw [List.foldl_append];rfl
theorem qK:∀(l:List Nat) (x:aC),(xZ x l).ts.length=x.ts.length∧(xZ x l).lk.length=x.lk.length∧(xZ x l).s=x.s∧(xZ x l).now=x.now
  | [],x=>⟨rfl,rfl,rfl,rfl⟩
  |t::l,x=>by
    have h1:=vF x t;have h2:=qK l (oU x t)
    unfold xZ at h2 ⊢
    rw [List.foldl_cons];exact⟨h2.1.trans h1.1,h2.2.1.trans h1.2.1,h2.2.2.1.trans h1.2.2.1,h2.2.2.2.trans h1.2.2.2⟩
theorem MI.xZ:∀{l:List Nat} {k:Nat} {x:aC},MI k x→(∀t∈l,t<x.ts.length)→MI (k+40*l.length) (xZ x l)
  | [],k,x,h,_=>h
  |t::l,k,x,h,ht=>by
    have h1:=MI.xZ (l:=l) (h.oU (ht t (List.mem_cons_self ..))) (fun u hu=>by rw [(vF x t).1];exact ht u (List.mem_cons_of_mem _ hu));rw [List.length_cons,show k+40*(l.length+1)=k+40+40*l.length by omega];exact h1
theorem MI.XY {k:Nat} {x:aC} (h:MI k x):MI (k+2560) (uz x):=by
  have zZ:=h.tl;have hd:=tF x x.ts.length;exact((h.xZ (l:=nU x) (fun t ht=>iS x _ t ht)).mono (show _≤k+2560 by show k+40*(Ay x x.ts.length).length≤_;omega)).IQ
theorem MI.mvd {k:Nat} {x:aC} (h:MI k x) {t:Nat} (ht:t<x.ts.length) (c:Int):MI (k+1) (rP x t c):=by
  have q:=h.tb t ht;exact((h.up ht (y:= {gT x t with co:=c}) ⟨q.pr,q.pc,q.lf,q.ti,q.l4,q.un⟩).j3 _ _ _ _).IQ
end Go.Eng
namespace Go.Eng
open Go Go.Proofs Go.RowKit
structure eM.Old (s:eM) (n0:Nat):Prop where
  g:0<s.gs.length→iL s.ga<n0
  l:0<s.ls.length→iL s.la<n0
  p:0<s.ps.length→iL s.pa<n0
  o:∀p∈s.ps,0<p.c.xs.length→iL p.ad<n0
theorem eM.In.keep {s:eM} {n0:Nat} {S:Nat→Prop} {w w':World} (h:s.In w) (ho:s.Old n0) (k:cX S w w') (hS:∀b,S b→n0≤b):s.In w':=
  ⟨h.My,h.hg.E9 k (fun q e=>by have:=hS _ e;have:=ho.g q;omega),h.AO,h.hl.E9 k (fun q e=>by have:=hS _ e;have:=ho.l q;omega),h.CC,h.hp.E9 k (fun q e=>by have:=hS _ e;have:=ho.p q;omega),
   fun p hp=>⟨(h.ops p hp).1,(h.ops p hp).2.E9 k (fun q e=>by have:=hS _ e;have:=ho.o p hp q;omega)⟩⟩
abbrev Su (b:Nat) (p:mI):Nat×Obj:=(b,.cells (V5 p).toArray 117 (0,0))
abbrev DA (s:eM) (x:aC) (t:Nat):mI:=s.ps.getD (x.ts.getD t default).pr.toNat default
set_option maxHeartbeats 4000000 in
theorem DB {n0 b k t c:Nat} {s:eM} {x:aC} {m:aa} (w:World) (h:dW n0 b s x m) (hI:MI k x) (hk:k≤700000000000) (ht:t<x.ts.length) (HA:c<x.cs.length) (hs:s.In w) (jL:s.Old n0) (cb:n0≤w.heap.size) (hM:Mem w m):aJ Tryz.prog 58 #[.pointer (some ⟨b,0,none⟩),.int .i64 (t:Nat),.int .i64 (c:Nat)] w (eF m (fun u m'=>u= .bool (e9 x t c).2∧dW n0 b s (e9 x t c).1 m') w):=by
 obtain ⟨P,rfl,h⟩:=h;have Ff:=h.ge (y:=x.now);have rB:=h.nt;have er:=h.st;have uc:=hI.tl;obtain ⟨ig,ii,il,ip,ix,it,iv,ie,ic,iq⟩:=bM (ay (az b s x.now P) w.heap.size);have ZJ:=hs.hp;have CC:=hs.CC;have G0:x.s.ps=s.ps.map mI.c:=(by rw [h.hs];rfl);have fY:x.s.ps.length=s.ps.length:=(by rw [G0,List.length_map]);have hpr:0≤(x.ts.getD t default).pr∧(x.ts.getD t default).pr<(x.s.ps.length:Int):=(hI.tb t ht).pr;have o6:DA s x t∈s.ps:=List.mem_of_getElem? (aQ default om);have lL:=hs.ops _ o6;have hon:=lL.1;have hos:=lL.2;have W7:0<s.ps.length→¬fQ (az b s x.now P) (iL s.pa):=(fun q ⟨p,hp,he⟩=>by have:=Ff p hp;have:=jL.p q;omega);have WN:0<(DA s x t).c.xs.length→¬fQ (az b s x.now P) (iL (DA s x t).ad):=(fun q ⟨p,hp,he⟩=>by have:=Ff p hp;have:=jL.o _ o6 q;omega);have H9:kn x t=(DA s x t).c:=(by unfold kn;rw [G0,kX]);have MO:=Bo hI.ms (p:=kn x t) (by rw [H9,G0];exact List.mem_map_of_mem o6);rw [H9] at MO;refine aJ.au Tryz.func58 rfl Tryz.ntmps58 rfl (az b s x.now P++ []) ((fQ (az b s x.now P))) aM ?_;refine J6 ?_;refine af.bH (α:=Nat) (fun b7=>[(7,.pointer (some ⟨b7,0,none⟩))]) [(0,_),(1,_),(2,_)] (fun b7=>Su b7 (DA s x t)::(az b s x.now P++ [])) (fun b7=>w.heap.size≤b7) cm ?_ ?_
 ·refine af.keep (az b s x.now P++ []) (fun _=>True) (.one 0 0 (.one 1 0 (.one 2 0 (.one 3 0 (.one 4 1 (.one 5 0 (.one 6 0 (.one 7 0 (.one 8 1 (.one 9 0 (.one 10 0 (.one 11 0 (.one 12 1 (.one 13 0 (.one 14 1 (.one 15 2 (.one 16 2 .nil))))))))))))))))) kr kr aX (fun _ _=>trivial) ?_;refine cL ?_;refine KD.rd rfl rfl (aH (j:=1) aA ir Tryz.isAgg3 rfl rfl (by first|exact bF om|exact aQ default cJ) rfl (by rfl)) ?_;refine KD.val rfl rfl (cP pe Tryz.underlying28 Tryz.sizeOf117 rfl rfl om) ?_;refine KD.eR rfl rfl (dZ aA ir Tryz.isAgg117 Tryz.sizeOf117 rfl (by first|exact bF om|exact aQ default cJ) (by first|exact W7 om|exact WN om)) ?_;refine J1 ?_;refine LM.alloc Tryz.zeroValue117 rfl (fun b7 SP=>?_);refine J3 ?_;refine LM.dC Tryz.sizeOf117 rfl rfl rfl rfl dD tw ?_;refine J3 ?_;refine mK (b7) ?_
  · assumption
 rintro b7 SP;change QM _ _ _ _ _ (Su b7 (DA s x t)::(az b s x.now P++ [])) _ _ _;refine J3 ?_;refine af.draw [(0,0),(1,0),(2,0),(3,1),(4,0),(5,0),(6,0),(7,1),(8,0),(9,1),(10,0),(11,0)] kr kr ?_;refine J7 ?_;refine LD.rd rfl rfl (aH (j:=4) aA ir Tryz.isAgg3 rfl rfl (by first|exact bF om|exact aQ default cJ) rfl (by rfl)) ?_;refine J6 ?_;refine af.bH (α:=aa×iM) (fun ⟨mt,z⟩=>[]) [(0,_),(1,_),(2,_),(7,_)] (fun ⟨mt,z⟩=>Su b7 (DA s x t)::(yd b s x.now P P.mx mt P.mc P.mq++ [])) (fun ⟨mt,z⟩=>kq x t=dh x t z∧Sl Gc 66 12 n0 (x.ts.set t z) (.slice P.Dx P.nt P.ct) mt∧c6 (az b s x.now P) w.heap.size mt∧¬(((kn x t).xs.length:Int)≤(gT x t).pc∧(kn x t).fv=false)) cm ?_ ?_
 ·refine af.aj rfl (fun h1=>?_) (fun h1=>?_)
  ·refine J8 ?_;refine af.aW rfl (fun h2=>?_) (fun h2=>?_)
   ·refine J4 ?_;refine cU Tryz.func32 rfl (fun w hm hc hg=>pq w (fF.m h) hI om ht (Nat.le_trans cb hc.size) (hm.pick _)) (fF.m h).bX (ao (ay _ _)) ?_;rintro u43 m43 ⟨rfl,h43⟩ JN;refine J9 ?_;refine QM.gu ?_;refine J1 ?_;refine qL Tryz.results58 rfl fun w' aq ab aI=>?_;rw [tP (by rw [H9];show _≤(x.ts.getD t default).pc;omega) (by rw [H9];simpa using h2)];exact aZ (m':=m43) ⟨rfl,h43⟩ aq aX ab JN
   refine cf ?_;refine LM.iB ({gT x t with pc:=0}) (j:=4) aA ir Tryz.sizeOf3 rfl rfl rfl (by first|exact bF om|exact aQ default cJ) rfl (by decide) (by rfl) rfl (ao aA) (fun jU fR kf=>?_)
   try rw [List.set_set] at fR
   have H0:=ca kf aA;refine J1 ?_;refine mK (jU,{gT x t with pc:=0}) ?_
   · exact⟨by unfold kq;rw [if_pos (by rw [H9];show _≤(x.ts.getD t default).pc;omega)],fR,H0,fun q=>by have q2:=q.2;rw [H9] at q2;rw [q2] at h2;simp at h2⟩
  refine J1 ?_;refine mK (P.mt,gT x t) ?_
  · exact⟨by unfold kq dh;rw [if_neg (by rw [H9];show¬_≤(x.ts.getD t default).pc;omega),tJ default ht],by rw [tJ default ht];exact er,it,fun q=>by have q1:=q.1;rw [H9] at q1;have:((DA s x t).c.xs.length:Int)≤(x.ts.getD t default).pc:=q1;omega⟩
 rintro ⟨mt,z⟩ ⟨hz,Dz,it1,dq⟩;change QM _ _ _ _ _ (Su b7 (DA s x t)::(yd b s x.now P P.mx mt P.mc P.mq++ [])) _ _ _
 clear er;have GQ:=Fi hI ht;rw [hz,H9,fJ ht,if_pos rfl] at GQ
 refine J2 ?_;refine af.bH (α:=Nat) (fun b8=>[(8,.pointer (some ⟨b8,0,none⟩))]) [(0,_),(1,_),(2,_)] (fun b8=>oB b8 ((DA s x t).c.xs.getD z.pc.toNat default)::Su b7 (DA s x t)::(yd b s x.now P P.mx mt P.mc P.mq++ [])) (fun b8=>w.heap.size≤b8) cm ?_ ?_
 ·refine af.keep (Su b7 (DA s x t)::(yd b s x.now P P.mx mt P.mc P.mq++ [])) (fun _=>True) (.one 0 0 (.one 1 1 (.one 2 0 (.one 3 0 (.one 4 0 (.one 5 1 (.one 6 0 (.one 7 0 (.one 8 0 (.one 9 1 (.one 10 0 (.one 11 1 (.one 12 2 (.one 13 2 .nil)))))))))))))) kr kr aX (fun _ _=>trivial) ?_;refine J9 ?_;refine KD.rd rfl rfl (aH (j:=4) aA ir Tryz.isAgg3 rfl rfl (by first|exact bF om|exact aQ default cJ) rfl (by rfl)) ?_;refine KD.val rfl rfl (cP pe Tryz.underlying115 Tryz.sizeOf168 rfl rfl om) ?_;refine KD.eR rfl rfl (dZ aA ir Tryz.isAgg168 Tryz.sizeOf168 rfl (by first|exact bF om|exact aQ default cJ) (by first|exact W7 om|exact WN om)) ?_;refine J1 ?_;refine LM.alloc Tryz.zeroValue168 rfl (fun b8 L4=>?_);refine J3 ?_;refine LM.dC Tryz.sizeOf168 rfl rfl rfl rfl dD tw ?_;refine J3 ?_;refine mK (b8) ?_
  · assumption
 rintro b8 L4;change QM _ _ _ _ _ (oB b8 ((DA s x t).c.xs.getD z.pc.toNat default)::Su b7 (DA s x t)::(yd b s x.now P P.mx mt P.mc P.mq++ [])) _ _ _;obtain ⟨o,ho⟩:∃o:da,(DA s x t).c.xs.getD z.pc.toNat default=o:=⟨_,rfl⟩;rw [ho];have P7:Nl x.s o:=(by have q:=hI.op ht (i:=z.pc.toNat) (by rw [H9];exact GQ.1);rw [H9,ho] at q;exact q);have qF:=Dv (c:=c) (o:=o) dq ht hz (by rw [H9];exact ho);obtain ⟨y,hy⟩:∃y,y=dh x t z:=⟨_,rfl⟩;rw [←hy] at qF;have iA:MI k y:=(by rw [hy,←hz];exact hI.kq ht);have MH:fF n0 b s y {P with mt:=mt} :=(by rw [hy];exact {h with nt:=(by rw [bt];exact rB),st:=Dz});have l6:y.now=x.now:=(by rw [hy];rfl);have o7:dW n0 b s y (az b s x.now {P with mt:=mt}):=fF.m (hn:=l6) MH;have ri:y.ts=x.ts.set t z:=(by rw [hy];rfl);have YJ:y.ts.length=x.ts.length:=(by rw [ri,List.length_set]);have hyk:y.lk=x.lk:=(by rw [hy];rfl);have hyc:y.cs=x.cs:=(by rw [hy];rfl);have Rc:gT y t=z:=(by rw [hy,fJ ht,if_pos rfl]);have A9:t<y.ts.length:=om;have zV:=iA.ev;have hvl:=iA.vl;have ij:=iA.ll;have p9:y.s=x.s:=(by rw [hy];rfl);have ZK:0≤z.pc∧z.pc≤(k:Int):=(by rw [←Rc];exact(iA.tb t A9).pc)
 refine J8 ?_;refine af.bH (α:=aC×sY) (fun ⟨v,V⟩=>[]) [(0,_),(1,_)] (fun ⟨v,V⟩=>az b s x.now V++ []) (fun ⟨v,V⟩=>e9 x t c=(bK v t,false)∧fF n0 b s v V∧v.now=x.now∧c6 (az b s x.now P) w.heap.size (az b s x.now V)∧MI (k+100) v∧t<v.ts.length) cm ?_ ?_
 ·refine J7 ?_;refine af.aj rfl (fun h3=>?_) (fun h3=>?_)
  ·refine J4 ?_;refine LM.rd (bo Tryz.isAgg168 Tryz.sizeOf168 rfl rfl) ?_;refine cU Tryz.func96 rfl (fun w hm hc hg=>C0 o w o7 iA om A9 (P7.c aA) (Nat.le_trans cb hc.size) (hm.pick _)) o7.bX (ao aL) ?_;rintro u70 Za ⟨rfl,h70⟩ JS;refine J9 ?_;refine QM.gu ?_;refine J1 ?_;refine qL Tryz.results58 rfl fun w' aq ab aI=>?_;rw [qF,V9 h3];exact aZ (m':=Za) ⟨rfl,h70⟩ aq aX ab (ak aL JS)
  refine J7 ?_;refine af.En (t:=71) rfl (fun h4=>?_) (fun h4=>?_)
  ·refine J7 ?_;refine LM.rd (bo Tryz.isAgg168 Tryz.sizeOf168 rfl rfl) ?_;refine cU Tryz.func97 rfl (fun w hm hc hg=>lF o w o7 iA om A9 (by have q:=P7.l om;rw [p9] at ij;omega) (Nat.le_trans cb hc.size) (hm.pick _)) o7.bX (ao aL) ?_;rintro u79 SB ⟨rfl,R2⟩ u2;refine J5 ?_;refine QM.gu ?_;refine J1 ?_;refine qL Tryz.results58 rfl fun w' aq ab aI=>?_;rw [qF,B0 om];exact aZ (m':=SB) ⟨rfl,R2⟩ aq aX ab (ak aL u2)
  refine J6 ?_;refine af.En (t:=71) rfl (fun h5=>?_) (fun h5=>?_)
  ·refine J7 ?_;refine LM.rd (bo Tryz.isAgg168 Tryz.sizeOf168 rfl rfl) ?_;refine cU Tryz.func97 rfl (fun w hm hc hg=>lF o w o7 iA om A9 (by have q:=P7.l om;rw [p9] at ij;omega) (Nat.le_trans cb hc.size) (hm.pick _)) o7.bX (ao aL) ?_;rintro u79 SB ⟨rfl,R2⟩ u2;refine J5 ?_;refine QM.gu ?_;refine J1 ?_;refine qL Tryz.results58 rfl fun w' aq ab aI=>?_;rw [qF,B0 om];exact aZ (m':=SB) ⟨rfl,R2⟩ aq aX ab (ak aL u2)
  refine J6 ?_;refine af.En (t:=71) rfl (fun h6=>?_) (fun h6=>?_)
  ·refine J7 ?_;refine LM.rd (bo Tryz.isAgg168 Tryz.sizeOf168 rfl rfl) ?_;refine cU Tryz.func97 rfl (fun w hm hc hg=>lF o w o7 iA om A9 (by have q:=P7.l om;rw [p9] at ij;omega) (Nat.le_trans cb hc.size) (hm.pick _)) o7.bX (ao aL) ?_;rintro u79 SB ⟨rfl,R2⟩ u2;refine J5 ?_;refine QM.gu ?_;refine J1 ?_;refine qL Tryz.results58 rfl fun w' aq ab aI=>?_;rw [qF,B0 om];exact aZ (m':=SB) ⟨rfl,R2⟩ aq aX ab (ak aL u2)
  refine J5 ?_;refine af.aj rfl (fun h7=>?_) (fun h7=>?_)
  ·refine J4 ?_;refine LM.rd (bo Tryz.isAgg168 Tryz.sizeOf168 rfl rfl) ?_;refine cU Tryz.func97 rfl (fun w hm hc hg=>lF o w o7 iA om A9 (by have q:=P7.l om;rw [p9] at ij;omega) (Nat.le_trans cb hc.size) (hm.pick _)) o7.bX (ao aL) ?_;rintro u79 SB ⟨rfl,R2⟩ u2;refine J5 ?_;refine QM.gu ?_;refine J1 ?_;refine qL Tryz.results58 rfl fun w' aq ab aI=>?_;rw [qF,B0 om];exact aZ (m':=SB) ⟨rfl,R2⟩ aq aX ab (ak aL u2)
  refine J6 ?_;refine af.aj rfl (fun h8=>?_) (fun h8=>?_)
  ·have H4:=P7.l om;have tK:o.a.toNat<y.lk.length:=(by rw [p9] at ij;omega);have hL:=iA.li o.a.toNat tK;have hLh:=hL.hl;have vr:P.nl=y.lk.length:=MH.nl;have te:P.bs.length=y.lk.length:=MH.bl;have GC:Sl fP 54 1 n0 P.bs (.slice P.al P.nl P.cl) P.ml:=MH.sl;have akM:0≤o.a∧o.a<(P.nl:Int):=(by rw [p9] at ij;omega);have hia:((o.a.toNat:Nat):Int)=o.a:=Int.toNat_of_nonneg H4.1;refine J1 ?_;refine af.keep (vE b s x.now P::(P.ml++(oB b8 o:: []))) (fun _=>True) (.one 0 0 (.one 1 0 (.one 2 0 (.one 3 1 (.one 4 0 (.one 5 1 (.one 6 0 (.one 7 1 (.one 8 0 (.one 9 2 (.one 10 0 (.one 11 0 (.one 12 0 (.one 13 0 (.one 14 0 .nil))))))))))))))) kr kr aX (fun _ _=>trivial) ?_;refine J6 ?_;refine KD.val rfl rfl (cP pe Tryz.underlying43 Tryz.sizeOf54 rfl rfl om) ?_;refine KD.rd rfl rfl (bu aA ir Tryz.isAgg54 rfl rfl (by first|exact bF om|exact aQ default cJ) (by rfl)) ?_;refine J2 ?_;refine cU Tryz.func98 rfl (fun w hm hc hg=>Fe (l:=o.a.toNat) MH.sq tK (hm.pick P.mq) (fun m hr hM=>vZ (k:=n0) (t:Nat) w hL.w.topg hr (Nat.le_trans cb hc.size) (by show (gL y o.a.toNat).ho.length≤900;omega) (Nat.le_trans cb hc.size) hM)) (MH.sq.bX Dj) (ao iq) ?_;rintro u92 m92 ⟨mr,So,⟨adr,Rz,rfl,Cz⟩,rfl,z9⟩ Iq;refine LM.assoc ?_;have i92:c6 (az b s x.now P) w.heap.size So:=fun p hp=>ak iq Iq p (List.mem_append_right _ hp);refine tO ?_;refine af.aj rfl (fun h9=>?_) (fun h9=>?_)
   ·have wB:dW n0 b s y (az b s x.now {P with mt:=mt,mq:=So}):=fF.m (hn:=l6) {MH with sq:=(by have q:=z9;rw [show ej (gL y o.a.toNat) t=y.lk.getD o.a.toNat default from if_neg (fun e=>h9 (if_pos e)),tJ default tK] at q;exact q)};refine J6 ?_;refine cU Tryz.func55 rfl (fun w hm hc hg=>bV 8 (t:Nat) o.a (mL (gL y o.a.toNat) t) w wB om (Nat.le_trans cb hc.size) (hm.pick _)) wB.bX (ao aL) ?_;rintro akm aic ⟨rfl,T9⟩ RX;obtain ⟨P1,kW,T9⟩:=T9;rw [show (ba y 8 t o.a (mL (gL y o.a.toNat) t)).now=x.now from l6] at kW;subst kW;have i102:c6 (az b s x.now P) w.heap.size (az b s x.now P1):=ak aL RX;refine J2 ?_;refine mK (ba y 8 t o.a (mL (gL y o.a.toNat) t),P1) ?_
    · exact⟨by rw [qF,KP h8 h9],T9,l6,i102,(iA.j3 _ _ _ _).mono om,A9⟩
   have wB:dW n0 b s (bj y o.a.toNat (ej (gL y o.a.toNat) t)) (az b s x.now {P with mt:=mt,mq:=So}):=fF.m (hn:=l6) {MH with nl:=(by rw [cC];exact vr),bl:=(by rw [cC];exact te),sq:=z9};have p8:=(iA.bj (l:=o.a.toNat) (hL.At t)).j3 5 t o.a 0;refine J6 ?_;refine cU Tryz.func55 rfl (fun w hm hc hg=>bV 5 (t:Nat) o.a 0 w wB (by show y.ev.length≤_;omega) (Nat.le_trans cb hc.size) (hm.pick _)) wB.bX (ao aL) ?_;rintro aeM SS ⟨rfl,Lr⟩ Em;have i107:c6 (az b s x.now P) w.heap.size SS:=ak aL Em;refine J7 ?_;refine cU Tryz.func62 rfl (fun w hm hc hg=>(by have q:=lV (l:=o.a.toNat) w Lr p8 om (by show _<(y.lk.set _ _).length;rw [List.length_set];exact tK) (hL.i.dY t) (Nat.le_trans (nK ..) hL.w.w8) rfl Cz (Nat.le_trans cb hc.size) (sm hm);rw [hia] at q;exact q)) Lr.bX (ao i107) ?_;rintro abz Wg ⟨rfl,KG⟩ C9;obtain ⟨P1,kW,KG⟩:=KG;have hgs:=cM o.a.toNat (ba (bj y o.a.toNat (ej (gL y o.a.toNat) t)) 5 t o.a 0) (dY (gL y o.a.toNat) t);rw [hgs.2.2.2,show (ba (bj y o.a.toNat (ej (gL y o.a.toNat) t)) 5 t o.a 0).now=x.now from l6] at kW;subst kW;have i112:c6 (az b s x.now P) w.heap.size (az b s x.now P1):=ak i107 C9;refine J2 ?_;refine mK (dz (ba (bj y o.a.toNat (ej (gL y o.a.toNat) t)) 5 t o.a 0) o.a.toNat (dY (gL y o.a.toNat) t),P1) ?_
   · exact⟨by rw [qF,IV h8 h9],KG,hgs.2.2.2.trans l6,i112,(p8.rQ o.a.toNat (hL.i.dY t) (Nat.le_trans (nK ..) hL.w.w8)).mono om,by rw [hgs.1];exact A9⟩
  refine J6 ?_;refine af.aj rfl (fun iT=>?_) (fun iT=>?_)
  ·have hzq:({z with st:=3,un:=x.now+BitVec.ofInt 64 o.a} :iM).pc=z.pc:=rfl;refine J6 ?_;refine cU Tryz.func55 rfl (fun w hm hc hg=>bV 9 (t:Nat) (-1) o.a w o7 om (Nat.le_trans cb hc.size) (hm.pick _)) o7.bX (ao aL) ?_;rintro ahW aaZ ⟨rfl,Ys⟩ Ub;have i119:c6 (az b s x.now P) w.heap.size aaZ:=ak aL Ub;refine J6 ?_;refine cU Tryz.func72 rfl (fun w hm hc hg=>px t w Ys (by show t<y.v.length;omega) (Nat.le_trans cb hc.size) (hm.pick _)) Ys.bX (ao i119) ?_;rintro amr adn ⟨rfl,C2⟩ TO;change dW n0 b s (Re y t o.a) adn at C2;obtain ⟨P1,kW,C2⟩:=C2;rw [show (Re y t o.a).now=x.now from l6] at kW;subst kW;have i122:=ak i119 TO;clear ig ii il ip ix it iv ie ic iq;obtain ⟨ig,ii,il,ip,ix,it,iv,ie,ic,iq⟩:=bM i122;have IZ:Sl Gc 66 12 n0 (x.ts.set t z) (.slice P1.Dx P1.nt P1.ct) P1.mt:=ri▸C2.st;have MV:P1.nt=x.ts.length:=YJ▸C2.nt;refine dA ?_;refine LM.iB ({z with st:=3}) (j:=6) aA ir Tryz.sizeOf3 rfl rfl rfl (by first|exact bF om|exact aQ default cJ) rfl (by decide) (by rfl) rfl (ao aA) (fun qa ki rL=>?_)
   try rw [List.set_set] at ki
   have QZ:=ca rL aA;refine J3 ?_;refine af.keep (vE b s x.now P1::oB b8 o:: []) (fun _=>True) (.one 0 0 (.one 1 0 (.one 2 0 (.one 3 1 (.one 4 0 (.one 5 0 (.one 6 0 (.one 7 0 (.one 8 1 (.one 9 0 (.one 10 1 (.one 11 0 (.one 12 0 (.one 13 0 (.one 14 0 (.last 15)))))))))))))))) kr kr aX (fun _ _=>trivial) ?_;refine dA ?_;refine KD.val rfl rfl (nH Tryz.underlying3 Tryz.underlying41 rfl) ?_;refine KD.val rfl rfl (gY rfl rfl) ?_;refine J2 ?_;refine KD.last rfl ?_;refine LM.iB ({z with st:=3,un:=x.now+BitVec.ofInt 64 o.a}) (j:=7) aA ir Tryz.sizeOf41 rfl rfl rfl (by first|exact bF om|exact aQ default cJ) rfl (by decide) (by rfl) rfl (ao aA) (fun ms4 G9 Ml=>?_)
   try rw [List.set_set] at G9
   have ii4:=ca Ml aA;refine J1 ?_;refine QM.qn ?_;refine cf ?_;refine LM.rd (aH (j:=4) aA ir Tryz.isAgg3 rfl rfl (by first|exact bF om|exact aQ default cJ) rfl (by rfl)) ?_;refine J3 ?_;refine LM.iB ({z with st:=3,un:=x.now+BitVec.ofInt 64 o.a,pc:=z.pc+1}) (j:=4) aA ir Tryz.sizeOf3 rfl rfl rfl (by first|exact bF om|exact aQ default cJ) rfl (by decide) (by rfl) rfl (ao aA) (fun ms5 L9 Sf=>?_)
   try rw [List.set_set] at L9
   have ii5:=ca Sf aA;refine J9 ?_;refine QM.gu ?_;refine J1 ?_;refine qL Tryz.results58 rfl fun w' aq ab aI=>?_;rw [qF,Uz iT,Rc,l6];exact aZ (m':=az b s x.now {P1 with mt:=ms5}) ⟨rfl,fF.m (hn:=l6) {C2 with nt:=(by rw [bt];exact C2.nt),st:=(by show Sl _ _ _ _ (y.ts.set t _) _ _;rw [ri,List.set_set];exact L9)}⟩ aq aX ab aL
  refine J6 ?_;refine af.aj rfl (fun kg=>?_) (fun kg=>?_)
  ·have hzq:({z with st:=1} :iM).pc=z.pc:=rfl;refine J5 ?_;refine cU Tryz.func55 rfl (fun w hm hc hg=>bV 10 (t:Nat) (-1) (c:Nat) w o7 om (Nat.le_trans cb hc.size) (hm.pick _)) o7.bX (ao aL) ?_;rintro ajk alx ⟨rfl,AB⟩ Se;obtain ⟨P1,kW,AB⟩:=AB;rw [show (ba y 10 t (-1) c).now=x.now from l6] at kW;subst kW;have i161:c6 (az b s x.now P) w.heap.size (az b s x.now P1):=ak aL Se;clear ig ii il ip ix it iv ie ic iq;obtain ⟨ig,ii,il,ip,ix,it,iv,ie,ic,iq⟩:=bM i161;have IZ:Sl Gc 66 12 n0 (x.ts.set t z) (.slice P1.Dx P1.nt P1.ct) P1.mt:=ri▸AB.st;have MV:P1.nt=x.ts.length:=YJ▸AB.nt;obtain ⟨mH,nq,jq,E6,rj,hX⟩:=AB.sc.x;have Si:=hX.sl;have hXl:E6.length=y.cs.length:=hX.len;have hXn:nq=y.cs.length:=hX.nl;have PQ:c<y.cs.length:=(by rw [hyc];exact HA)
   refine cf ?_;refine LM.eR (fun w hm hc hg=>fD (M:=gB P1.bc mH nq jq::(rj++ [])) Tryz.isAgg118 rfl rfl w (hX.ld (hm.pick P1.mc))) ?_;refine J2 ?_;refine LM.eR (fun w hm hc hg=>aH (M:=gB P1.bc mH nq jq::(rj++ [])) (i:=c) (j:=0) Si ir Tryz.isAgg122 rfl rfl (aQ (xs:=E6) default om) rfl (by rfl) w (hX.ld (hm.pick P1.mc))) ?_;refine cU Tryz.func54 rfl (fun w hm hc hg=>hX.AY (i:=c) (x':=fj (qg y.cs c)) PQ (hm.pick P1.mc) (iA.ci.back PQ).wf (fun m hr hM=>s6 w hr hM)) AB.sc.bX (ao ic) ?_;rintro alU aaB ⟨rfl,aa0⟩ SD;have i172:=ak ic SD;refine dA ?_;refine LM.iB ({z with st:=1}) (j:=6) aA ir Tryz.sizeOf3 rfl rfl rfl (by first|exact bF om|exact aQ default cJ) rfl (by decide) (by rfl) rfl (ao aA) (fun qa ki rL=>?_)
   try rw [List.set_set] at ki
   have QZ:=ca rL aA;refine dA ?_;refine LM.rd (aH (j:=4) aA ir Tryz.isAgg3 rfl rfl (by first|exact bF om|exact aQ default cJ) rfl (by rfl)) ?_;refine J3 ?_;refine LM.iB ({z with st:=1,pc:=z.pc+1}) (j:=4) aA ir Tryz.sizeOf3 rfl rfl rfl (by first|exact bF om|exact aQ default cJ) rfl (by decide) (by rfl) rfl (ao aA) (fun ms4 G9 Ml=>?_)
   try rw [List.set_set] at G9
   have ii4:=ca Ml aA;refine J9 ?_;refine QM.gu ?_;refine J1 ?_;refine qL Tryz.results58 rfl fun w' aq ab aI=>?_;rw [qF,Xr kg,Rc];exact aZ (m':=az b s x.now {P1 with mt:=ms4,mc:=aaB}) ⟨rfl,fF.m (hn:=l6) {AB with nt:=(by rw [bt];exact AB.nt),st:=(by show Sl _ _ _ _ (y.ts.set t _) _ _;rw [ri,List.set_set];exact G9),sc:=aa0.c}⟩ aq aX ab aL
  refine J6 ?_;refine af.aj rfl (fun gJ=>?_) (fun gJ=>?_)
  ·refine J3 ?_;refine cE Tryz.func29 rfl (fun w hm hc hg=>sE w o7 iA.tl (hm.pick _)) ?_;refine J2 ?_;refine af.aW rfl (fun ow=>?_) (fun ow=>?_)
   ·refine af.draw [(0,0),(1,0),(2,1),(3,0),(4,0),(5,0),(6,1),(7,0),(8,0),(9,0),(10,1),(11,0),(12,0),(13,0),(14,1),(15,0),(16,0),(17,0),(18,1),(19,0),(20,3)] kr kr ?_;refine cf ?_;refine LD.rd rfl rfl (aH (j:=2) aA ir Tryz.isAgg3 rfl rfl (by first|exact bF om|exact aQ default cJ) rfl (by rfl)) ?_;refine J7 ?_;refine LD.rd rfl rfl (aH (j:=9) aA ir Tryz.isAgg3 rfl rfl (by first|exact bF om|exact aQ default cJ) rfl (by rfl)) ?_;refine J1 ?_;refine LD.tail rfl rfl ?_;refine cU Tryz.func30 rfl (fun w hm hc hg=>uI o.a z.gr z.we (c:Nat) w o7 iA.tl (by have:=iA.tl;omega) om (Nat.le_trans cb hc.size) (hm.pick _)) o7.bX (ao aL) ?_;rintro ajZ alj ⟨rfl,SH⟩ RY;obtain ⟨P1,kW,SH⟩:=SH;rw [show (oT y o.a z.gr z.we c).now=x.now from l6] at kW;subst kW;have i215:c6 (az b s x.now P) w.heap.size (az b s x.now P1):=ak aL RY;refine J1 ?_;refine QM.qn ?_;refine J1 ?_;refine mK (oT y o.a z.gr z.we c,P1) ?_
    · exact⟨by rw [qF,UN gJ,if_pos ow,Rc],SH,l6,i215,(iA.MP _ _ _ _ (by rw [p9];exact P7.p gJ) (by unfold iJ at ow;simp only [Bool.and_eq_true,decide_eq_true_eq] at ow;exact ow.2)).mono om,by show t<(y.ts++ [_]).length;rw [List.length_append];omega⟩
   refine J3 ?_;refine cU Tryz.func55 rfl (fun w hm hc hg=>bV 8 (t:Nat) (-1) 3 w o7 om (Nat.le_trans cb hc.size) (hm.pick _)) o7.bX (ao aL) ?_;rintro akt ah2 ⟨rfl,T7⟩ TA;obtain ⟨P1,kW,T7⟩:=T7;rw [show (ba y 8 t (-1) 3).now=x.now from l6] at kW;subst kW;have i218:c6 (az b s x.now P) w.heap.size (az b s x.now P1):=ak aL TA;refine J2 ?_;refine mK (ba y 8 t (-1) 3,P1) ?_
   · exact⟨by rw [qF,UN gJ,if_neg (by simpa using ow)],T7,l6,i218,(iA.j3 _ _ _ _).mono om,A9⟩
  refine J6 ?_;refine af.aj rfl (fun jt=>?_) (fun jt=>?_)
  ·refine J1 ?_;refine af.keep (yd b s x.now P P.mx mt P.mc P.mq++(oB b8 o:: [])) (fun _=>True) (.one 0 0 (.one 1 0 (.one 2 0 (.one 3 1 (.one 4 0 (.one 5 0 (.one 6 1 (.one 7 0 (.one 8 0 (.last 9)))))))))) kr kr aX (fun _ _=>trivial) ?_;refine J9 ?_;refine KD.last rfl ?_;refine LM.iB ({z with we:=o.a}) (j:=9) aA ir Tryz.sizeOf3 rfl rfl rfl (by first|exact bF om|exact aQ default cJ) rfl (by decide) (by rfl) rfl (ao aA) (fun qa ki rL=>?_)
   try rw [List.set_set] at ki
   have QZ:=ca rL aA;refine J1 ?_;refine QM.qn ?_;refine J2 ?_;have JQ:dW n0 b s (dh y t {z with we:=o.a}) (az b s x.now {P with mt:=qa}):=fF.m (hn:=l6) {MH with nt:=(by rw [bt];exact MH.nt),st:=(by show Sl _ _ _ _ (y.ts.set t _) _ _;rw [ri,List.set_set];exact ki)};refine J4 ?_;refine cU Tryz.func55 rfl (fun w hm hc hg=>bV 14 (t:Nat) (-1) o.a w JQ (by show y.ev.length≤_;omega) (Nat.le_trans cb hc.size) (hm.pick _)) JQ.bX (ao aL) ?_;rintro aja amg ⟨rfl,Ra⟩ SG;obtain ⟨P1,kW,Ra⟩:=Ra;rw [show (ba (dh y t {z with we:=o.a}) 14 t (-1) o.a).now=x.now from l6] at kW;subst kW;have i234:c6 (az b s x.now P) w.heap.size (az b s x.now P1):=ak aL SG;refine J2 ?_;refine mK (ba (dh y t {z with we:=o.a}) 14 t (-1) o.a,P1) ?_
   · exact⟨by rw [qF,JM jt,Rc],Ra,l6,i234,((iA.up A9 (y:= {z with we:=o.a}) (by have q:=iA.tb t A9;rw [Rc] at q;exact⟨q.pr,q.pc,q.lf,q.ti,q.l4,q.un⟩) (.inr (by rw [Rc]))).j3 _ _ _ _).mono om,by show t<(y.ts.set _ _).length;rw [List.length_set];exact A9⟩
  refine J6 ?_;refine af.aj rfl (fun wY=>?_) (fun wY=>?_)
  ·refine J4 ?_;refine cU Tryz.func32 rfl (fun w hm hc hg=>pq w o7 iA om A9 (Nat.le_trans cb hc.size) (hm.pick _)) o7.bX (ao aL) ?_;rintro ajc aex ⟨rfl,ab3⟩ S2;refine J9 ?_;refine QM.gu ?_;refine J1 ?_;refine qL Tryz.results58 rfl fun w' aq ab aI=>?_;rw [qF,Lt wY];exact aZ (m':=aex) ⟨rfl,ab3⟩ aq aX ab (ak aL S2)
  refine J2 ?_;refine mK (y,{P with mt:=mt}) ?_
  · exact absurd P7.k om
 rintro ⟨v,V⟩ ⟨hv1,Vf,hv3,hv4,X3,hv6⟩;change QM _ _ _ _ _ (az b s x.now V++ []) _ _ _;have hvp:0≤(v.ts.getD t default).pc∧(v.ts.getD t default).pc≤((k+100:Nat):Int):=(X3.tb t hv6).pc;have hvs:=Vf.st;have Ts:=Vf.nt;clear ig ii il ip ix it iv ie ic iq;obtain ⟨ig,ii,il,ip,ix,it,iv,ie,ic,iq⟩:=bM hv4;refine cf ?_;refine LM.rd (aH (j:=4) aA ir Tryz.isAgg3 rfl rfl (by first|exact bF om|exact aQ default cJ) rfl (by rfl)) ?_;refine J3 ?_;refine LM.iB (sk (gT v t)) (j:=4) aA ir Tryz.sizeOf3 rfl rfl rfl (by first|exact bF om|exact aQ default cJ) rfl (by decide) (by rfl) rfl (ao aA) (fun qa ki rL=>?_)
 try rw [List.set_set] at ki
 have QZ:=ca rL aA;refine J8 ?_;refine qL Tryz.results58 rfl fun w' aq ab aI=>?_;rw [hv1];exact aZ (m':=az b s x.now {V with mt:=qa}) ⟨rfl,fF.m (hn:=hv3) {Vf with nt:=(by rw [show (bK v t).ts.length=v.ts.length from bt ..];exact Ts),st:=ki}⟩ aq aX ab aL
set_option maxHeartbeats 2000000 in
theorem DF {n0 b:Nat} {s:eM} {x:aC} {m:aa} (w:World) (h:dW n0 b s x m) (uc:x.ts.length≤64) (hM:Mem w m):aJ Tryz.prog 59 #[.pointer (some ⟨b,0,none⟩)] w (New fI 3 1 ((nU x).map (fun (j:Nat)=>(j:Int))) w):=by
 obtain ⟨P,rfl,h⟩:=h;have rB:=h.nt;have er:=h.st;refine aJ.au Tryz.func59 rfl Tryz.ntmps59 rfl (az b s x.now P++ []) (no) aM ?_;refine xq ?_;refine af.aS (α:=Nat×List Nat×Option Addr×Nat×Nat×aa) (fun ⟨i,out,dI,no,bL,mo⟩=>[(3,.slice dI no bL),(4,.int .i64 (i:Nat))]) [(0,_)] (fun ⟨i,out,dI,no,bL,mo⟩=>az b s x.now P++(mo++ [])) (fun ⟨i,out,dI,no,bL,mo⟩=>i≤x.ts.length∧out=Ay x i∧no=out.length∧Sl fI 3 1 w.heap.size (out.map (fun (j:Nat)=>(j:Int))) (.slice dI no bL) mo) (fun ⟨i,out,dI,no,bL,mo⟩=>x.ts.length-i) ((0,[],none,0,0,[])) cm aX ⟨Nat.zero_le _,rfl,rfl,.nil _ _ _ _⟩ ?_;rintro ⟨i,out,dI,no,bL,mo⟩ ⟨hi,mN,fM,jL⟩;change af _ _ _ _ _ _ _ (az b s x.now P++(mo++ [])) _ _ _;have hml:(out.map (fun (j:Nat)=>(j:Int))).length=out.length:=List.length_map ..;have ks:=jL.len;have Nv:out.length≤i:=(by rw [mN];exact tF x i);have hom:∀j,j<out.length→out.getD j 0<i:=(fun j hj=>iS x i _ (by rw [←mN];exact List.mem_of_getElem? (aQ 0 hj)))
 refine cL ?_;refine af.aj rfl (fun h1=>?_) (fun h1=>?_)
 ·refine J6 ?_;refine af.draw [(0,0),(1,0),(2,0),(3,1),(4,0),(5,0),(6,0),(7,1),(8,0),(9,0),(10,0),(11,0),(12,0),(13,1),(14,0),(15,0),(16,0),(17,1),(18,0),(19,0),(20,0),(21,1),(22,0),(23,0)] kr kr ?_;refine J7 ?_;refine LD.rd rfl rfl (aH (j:=7) aA ir Tryz.isAgg41 rfl rfl cR rfl (by rfl)) ?_;refine LD.val rfl rfl (qu (b:=0#64) rfl rfl) ?_;refine J1 ?_;refine LD.ar (t:=25) rfl (fun h2=>?_) (fun h2=>?_)
  ·refine U4 ?_;refine aK (i+1,out,dI,no,bL,mo) ?_ ?_
   · exact⟨by omega,by rw [kV,←mN];exact(if_pos (.inl h2)).symm,fM,jL⟩
   · (dsimp only;omega)
  refine J7 ?_;refine LD.rd rfl ⟨25,_,rfl,rfl,rfl⟩ (aH (j:=7) aA ir Tryz.isAgg41 rfl rfl cR rfl (by rfl)) ?_;refine J4 ?_;refine LD.val rfl ⟨25,_,rfl,rfl,rfl⟩ (mb rfl rfl) ?_;refine J3 ?_;refine af.aj rfl (fun h3=>?_) (fun h3=>?_)
  ·refine J9 ?_;refine aK (i+1,out,dI,no,bL,mo) ?_ ?_
   · exact⟨by omega,by rw [kV,←mN];exact(if_pos (.inr h3)).symm,fM,jL⟩
   · (dsimp only;omega)
  refine J9 ?_;refine af.aS (α:=Nat) (fun k=>[(5,.int .i64 (k:Nat))]) [(0,_),(3,_),(4,_)] (fun k=>az b s x.now P++(mo++ [])) (fun k=>k≤out.length∧∀j,j<k→¬MG x i<MG x (out.getD j 0)) (fun k=>out.length-k) (0) cm aX ⟨Nat.zero_le _,fun j hj=>absurd hj (Nat.not_lt_zero j)⟩ ?_;rintro k ⟨hk,DS⟩;change af _ _ _ _ _ _ _ (az b s x.now P++(mo++ [])) _ _ _;have UF:k<out.length→(out.map (fun (j:Nat)=>(j:Int))).getD k 0=((out.getD k 0:Nat):Int):=B6;have P4:=hom k;refine J2 ?_;refine af.draw [(0,0),(1,0),(2,0),(3,0),(4,0),(5,0),(6,0),(7,0),(8,1),(9,0),(10,0),(11,0),(12,1),(13,0),(14,0),(15,1),(16,0),(17,0),(18,0),(19,1),(20,0),(21,0),(22,0),(23,1),(24,0),(25,0)] kr kr ?_;refine J5 ?_;refine LD.ar (t:=44) rfl (fun h4=>?_) (fun h4=>?_)
  ·refine J7 ?_;refine LD.rd rfl ⟨44,_,rfl,rfl,rfl⟩ (bu aA ir Tryz.isAgg3 rfl rfl (by exact aQ 0 cJ) (by rfl)) ?_;refine LD.val rfl ⟨44,_,rfl,rfl,rfl⟩ (cP pe Tryz.underlying45 Tryz.sizeOf66 rfl rfl om) ?_;refine J1 ?_;refine LD.rd rfl ⟨44,_,rfl,rfl,rfl⟩ (aH (j:=7) aA ir Tryz.isAgg41 rfl rfl cR rfl (by rfl)) ?_;refine J7 ?_;refine LD.rd rfl ⟨44,_,rfl,rfl,rfl⟩ (aH (j:=7) aA ir Tryz.isAgg41 rfl rfl cR rfl (by rfl)) ?_;refine LD.val rfl ⟨44,_,rfl,rfl,rfl⟩ (Oc rfl rfl) ?_;refine J3 ?_;refine af.aj rfl (fun h5=>?_) (fun h5=>?_)
   ·refine J9 ?_;refine aK (k+1) ?_ ?_
    · exact⟨by omega,fun j hj=>by rcases Nat.lt_or_ge j k with q|q;exact DS j q;rw [show j=k by omega];rw [UF om,Int.toNat_natCast] at h5;unfold MG;show¬(x.ts.getD i default).un.toNat<(x.ts.getD (out.getD k 0) default).un.toNat;omega⟩
    · omega
   have hdk:Va x out i=k:=Qi DS (.inr ⟨by omega,by rw [UF om,Int.toNat_natCast] at h5;show (x.ts.getD i default).un.toNat<(x.ts.getD (out.getD k 0) default).un.toNat;omega⟩);refine J7 ?_;refine LM.Mr Tryz.underlying26 Tryz.sizeOf3 rfl (fun SF Tv=>?_);have ID:Sl fI 3 1 w.heap.size ([] :List Int) (.slice (some ⟨SF,0,none⟩) 0 0) [(SF,.cells (([] :List Value).toArray) 3 (0,0))] := .void Tv (Nat.zero_le _) rfl;refine J2 ?_;refine LM.val (ji Tryz.underlying26 Tryz.sizeOf3 rfl rfl om om) ?_;refine LM.rC (ys:=(out.map (fun (j:Nat)=>(j:Int))).take k) (m:=[(SF,.cells (([] :List Value).toArray) 3 (0,0))]) Tryz.underlying26 Tryz.typeInfo3 rfl rfl rfl rfl rfl rfl rfl ID (fun w hm hc hg=>(jL.k8 (fun _=>rfl) hm).take (k:=k) om) ir (by intro _ u hu;simp [fI] at hu;(repeat (first|(rcases hu with rfl|hu)|subst hu|rfl))) (Nat.le_refl _) (fun p hp bB=>absurd bB (Nat.not_lt_of_le (Sl.ge ID p hp))) (by unfold maxLen;rw [List.length_take];simp only [List.length_nil];omega) (by rw [List.length_take];simp only [Tryz.t3,List.length_nil];omega) (fun adT n72 VJ m72 abe aeQ Xs=>?_);refine J7 ?_;refine LM.single Tryz.underlying26 Tryz.sizeOf3 Tryz.zeroValue3 rfl rfl rfl rfl rfl (fun b75 acM=>?_);have acV:(([] :List Int)++(out.map (fun (j:Nat)=>(j:Int))).take k).length≤64:=(by simp only [List.length_append,List.length_take,List.length_map,List.length_nil];omega)
   refine LM.app (a:=(i:Int)) Tryz.underlying26 Tryz.typeInfo3 rfl rfl rfl rfl rfl rfl rfl aA (by rfl) ir (by intro _ u hu;simp [fI] at hu;(repeat (first|(rcases hu with rfl|hu)|subst hu|rfl))) (by first|exact Nat.le_refl _|omega) jn (by first|omega|(unfold maxLen;omega)) (by simp only [Tryz.t3];omega) (fun ac8 n76 X1 m76 adA Ji Y5=>?_);refine J7 ?_;refine LM.val (nf k Tryz.underlying26 Tryz.sizeOf3 rfl rfl om om) ?_;refine LM.rC (ys:=(out.map (fun (j:Nat)=>(j:Int))).drop k) (m:=m76) Tryz.underlying26 Tryz.typeInfo3 rfl rfl rfl rfl rfl rfl rfl Ji (fun w hm hc hg=>(jL.k8 (fun _=>rfl) hm).drop (l:=k) om) ir (by intro _ u hu;simp [fI] at hu;(repeat (first|(rcases hu with rfl|hu)|subst hu|rfl))) (Nat.le_refl _) (fun p hp bB=>absurd bB (Nat.not_lt_of_le (Sl.ge Ji p hp))) (by unfold maxLen;simp only [List.length_nil,List.length_append,List.length_take,List.length_drop,List.length_cons,List.length_map];omega) (by simp only [Tryz.t3,List.length_nil,List.length_append,List.length_take,List.length_drop,List.length_cons,List.length_map];omega) (fun TP n81 LX m81 S6 Sj Xj=>?_);refine J9 ?_;refine aK (i+1,out.take k++i::out.drop k,TP,n81,LX,m81) ?_ ?_
   · exact⟨by omega,by rw [kV,←mN];unfold U3;rw [if_neg (fun q=>q.elim h2 h3),hdk],by rw [S6];simp only [List.length_append,List.length_cons,List.length_map,List.length_take,List.length_drop,List.length_nil];omega,by rw [List.map_append,List.map_cons,List.map_take,List.map_drop];have q:=Sj;rw [List.nil_append,List.append_assoc] at q;exact q⟩
   · (dsimp only;omega)
  have hdk:Va x out i=k:=Qi DS (.inl om);refine J31 ?_;refine LM.Mr Tryz.underlying26 Tryz.sizeOf3 rfl (fun SF Tv=>?_);have ID:Sl fI 3 1 w.heap.size ([] :List Int) (.slice (some ⟨SF,0,none⟩) 0 0) [(SF,.cells (([] :List Value).toArray) 3 (0,0))] := .void Tv (Nat.zero_le _) rfl;refine J2 ?_;refine LM.val (ji Tryz.underlying26 Tryz.sizeOf3 rfl rfl om om) ?_;refine LM.rC (ys:=(out.map (fun (j:Nat)=>(j:Int))).take k) (m:=[(SF,.cells (([] :List Value).toArray) 3 (0,0))]) Tryz.underlying26 Tryz.typeInfo3 rfl rfl rfl rfl rfl rfl rfl ID (fun w hm hc hg=>(jL.k8 (fun _=>rfl) hm).take (k:=k) om) ir (by intro _ u hu;simp [fI] at hu;(repeat (first|(rcases hu with rfl|hu)|subst hu|rfl))) (Nat.le_refl _) (fun p hp bB=>absurd bB (Nat.not_lt_of_le (Sl.ge ID p hp))) (by unfold maxLen;rw [List.length_take];simp only [List.length_nil];omega) (by rw [List.length_take];simp only [Tryz.t3,List.length_nil];omega) (fun adT n72 VJ m72 abe aeQ Xs=>?_);refine J7 ?_;refine LM.single Tryz.underlying26 Tryz.sizeOf3 Tryz.zeroValue3 rfl rfl rfl rfl rfl (fun b75 acM=>?_);have acV:(([] :List Int)++(out.map (fun (j:Nat)=>(j:Int))).take k).length≤64:=(by simp only [List.length_append,List.length_take,List.length_map,List.length_nil];omega)
  refine LM.app (a:=(i:Int)) Tryz.underlying26 Tryz.typeInfo3 rfl rfl rfl rfl rfl rfl rfl aA (by rfl) ir (by intro _ u hu;simp [fI] at hu;(repeat (first|(rcases hu with rfl|hu)|subst hu|rfl))) (by first|exact Nat.le_refl _|omega) jn (by first|omega|(unfold maxLen;omega)) (by simp only [Tryz.t3];omega) (fun ac8 n76 X1 m76 adA Ji Y5=>?_);refine J7 ?_;refine LM.val (nf k Tryz.underlying26 Tryz.sizeOf3 rfl rfl om om) ?_;refine LM.rC (ys:=(out.map (fun (j:Nat)=>(j:Int))).drop k) (m:=m76) Tryz.underlying26 Tryz.typeInfo3 rfl rfl rfl rfl rfl rfl rfl Ji (fun w hm hc hg=>(jL.k8 (fun _=>rfl) hm).drop (l:=k) om) ir (by intro _ u hu;simp [fI] at hu;(repeat (first|(rcases hu with rfl|hu)|subst hu|rfl))) (Nat.le_refl _) (fun p hp bB=>absurd bB (Nat.not_lt_of_le (Sl.ge Ji p hp))) (by unfold maxLen;simp only [List.length_nil,List.length_append,List.length_take,List.length_drop,List.length_cons,List.length_map];omega) (by simp only [Tryz.t3,List.length_nil,List.length_append,List.length_take,List.length_drop,List.length_cons,List.length_map];omega) (fun TP n81 LX m81 S6 Sj Xj=>?_);refine J9 ?_;refine aK (i+1,out.take k++i::out.drop k,TP,n81,LX,m81) ?_ ?_
  · exact⟨by omega,by rw [kV,←mN];unfold U3;rw [if_neg (fun q=>q.elim h2 h3),hdk],by rw [S6];simp only [List.length_append,List.length_cons,List.length_map,List.length_take,List.length_drop,List.length_nil];omega,by rw [List.map_append,List.map_cons,List.map_take,List.map_drop];have q:=Sj;rw [List.nil_append,List.append_assoc] at q;exact q⟩
  · (dsimp only;omega)
 refine cL ?_;refine qL Tryz.results59 rfl fun w' aq ab aI=>?_;have fp:i=x.ts.length:=om;subst fp;subst mN;exact⟨ab,mo,jL,aq.pick _⟩
end Go.Eng
