/- The walk of the document's parser of setups. No condition. -/
import Derived.Test.YtdimfmnimobmfaaGreatM2
import Derived.Test.YtdimfmnimobmfaaGreatM4
import Derived.Test.YtdimfmnimobmfaaGreatM3
set_option linter.unusedVariables false
set_option linter.unusedSimpArgs false
set_option maxRecDepth 100000
set_option maxHeartbeats 4000000
attribute [local irreducible] Go.Eng.LM Go.Eng.LD Go.Eng.KD Go.Eng.af Go.Eng.QM
namespace Go.Eng
open Go Go.Proofs Go.RowKit
def HR (ws:List bC) (i:Nat) (e:Int) (gs:List Int):List Int×Nat×Int:=if gs.length=0 then (if e=0 then gpO ws i e else ([],i,e)) else OM ws i e gs
theorem IE {ws:List bC} {i:Nat} {e:Int} {gs:List Int} (h:(mQ ws i e 1 bS||(decide (gs.length=0)&&decide (e=0)))=false):HR ws i e gs=(gs,i,e):=by
  simp only [Bool.or_eq_false_iff,Bool.and_eq_false_iff,decide_eq_false_iff_not] at h
  unfold HR
  by_cases h0:gs.length=0
  · rw [if_pos h0,if_neg (h.2.resolve_left (fun q=>q h0)),List.length_eq_zero_iff.1 h0]
  · rw [if_neg h0,AB h.1]
theorem Mn {ws:List bC} {i:Nat} {e:Int} {gs:List Int} (h:mQ ws i e 1 bS=true) (hl:4≤gs.length):HR ws i e gs=(gs,i,6):=by
  unfold HR;rw [if_neg om,IW h hl]
theorem AP {ws:List bC} {i:Nat} {e:Int} {gs:List Int} (h:(mQ ws i e 1 bS||(decide (gs.length=0)&&decide (e=0)))=true) (hl:gs.length<4):HR ws i e gs=HR ws (iu ws i e bS 16).1 (iu ws i e bS 16).2.1 (gs++ [(iu ws i e bS 16).2.2]):=by
  simp only [Bool.or_eq_true,Bool.and_eq_true,decide_eq_true_eq] at h
  unfold HR
  rw [if_neg (show¬(gs++ [(iu ws i e bS 16).2.2]).length=0 by simp)]
  by_cases h0:gs.length=0
  · have he:e=0:=h.elim (fun q=>(nK q).2) (fun q=>q.2)
    rw [if_pos h0,if_pos he,List.length_eq_zero_iff.1 h0];rfl
  · rw [if_neg h0,K1 (h.resolve_right (fun q=>h0 q.1)) hl]
theorem y8 {ws:List bC} {i0:Nat} {gs:List Int} {i:Nat} {e:Int} (h:HR ws (oJ ws i0).1 (oJ ws i0).2.1 [] =(gs,i,e)):(sG ws i0).2=(i,e)∧(e=0→sG ws i0=(gs,i,e)):=by
  unfold HR at h
  rw [if_pos (show ([] :List Int).length=0 from rfl)] at h
  unfold sG
  by_cases h0:(oJ ws i0).2.1=0
  · rw [if_pos h0] at h;rw [h];exact⟨rfl,fun _=>rfl⟩
  · rw [if_neg h0] at h
    simp only [Prod.mk.injEq] at h;obtain ⟨_,h2,h3⟩:=h;rw [←h2,←h3];refine ⟨?_,fun q=>absurd q h0⟩
    unfold gpO;rw [Nq h0];simp only;rw [AB (x6 h0)]
theorem Kg {ws:List bC} {i:Nat} {e:Int} {ps:List pS} :H9 ws i e ps=(mQ ws i e 1 pb||(decide (ps.length=0)&&decide (e=0))):=by
  unfold H9
  by_cases h:e=0
  · rw [decide_eq_true h,Bool.true_and,Bool.and_true,Bool.or_comm]
  · rw [x6 h,decide_eq_false h];simp
structure w6 (ws:List bC) (i0:Nat) (gs:List Int) (i1:Nat) (e1:Int) (ls:List km) (i2:Nat) (e2:Int) (ps:List pS) (pl:List Int) (i3:Nat) (e3:Int):Prop where
  g:(sG ws i0).2=(i1,e1)∧(e1=0→(sG ws i0).1=gs)
  l:Gp ws i1 e1 [] =(ls,i2,e2)
  p:GW ws i2 e2 [] [] =(ps,pl,i3,e3)
theorem w6.two {ws:List bC} {i0:Nat} {gs:List Int} {i1:Nat} {e1:Int} {ls:List km} {i2:Nat} {e2:Int} {ps:List pS} {pl:List Int} {i3:Nat} {e3:Int} (h:w6 ws i0 gs i1 e1 ls i2 e2 ps pl i3 e3):sL ws i0=(ls,i2,e2)∧sP ws i0=(ps,pl,i3,e3):=by
  have a:sL ws i0=(ls,i2,e2):=by unfold Go.Eng.sL;rw [h.g.1];exact h.l
  exact⟨a,by unfold sP;rw [a];exact h.p⟩
theorem w6.bad {ws:List bC} {i0:Nat} {gs:List Int} {i1:Nat} {e1:Int} {ls:List km} {i2:Nat} {e2:Int} {ps:List pS} {pl:List Int} {i3:Nat} {e3:Int} (h:w6 ws i0 gs i1 e1 ls i2 e2 ps pl i3 e3) (he:e3≠0):tg ws i0=(default,(i3:Int),e3):=by
  unfold tg;rw [h.two.2];simp only;rw [if_pos he]
theorem w6.mis {ws:List bC} {i0:Nat} {gs:List Int} {i1:Nat} {e1:Int} {ls:List km} {i2:Nat} {e2:Int} {ps:List pS} {pl:List Int} {i3:Nat} {e3:Int} (h:w6 ws i0 gs i1 e1 ls i2 e2 ps pl i3 e3) (he:e3=0) {j:Nat} (hj:j<ps.length) (h0:(ps.take j).any (mR ls ps.length)=false) (h1:mR ls ps.length (ps.getD j default)=true):tg ws i0=(default,pl.getD j 0,(Cy (ps.getD j default).fv (ps.getD j default).xs ls (ps.length:Int)).2):=by
  have e:=ED default h0 hj h1;have e':zE ls ps=(j:Nat):=e
  unfold tg;rw [h.two.2,h.two.1];simp only;rw [if_neg (by simp [he]),e',if_pos om,Int.toNat_natCast]
  unfold PJ;rw [if_neg om,Int.toNat_natCast]
theorem w6.ok {ws:List bC} {i0:Nat} {gs:List Int} {i1:Nat} {e1:Int} {ls:List km} {i2:Nat} {e2:Int} {ps:List pS} {pl:List Int} {i3:Nat} {e3:Int} (h:w6 ws i0 gs i1 e1 ls i2 e2 ps pl i3 e3) (he:e3=0) (h0:ps.any (mR ls ps.length)=false):tg ws i0=(⟨(sA ws i0).2.2,(oJ ws i0).2.2,gs,ls,ps⟩,(i3:Int),0):=by
  have z2:e2=0:=by
    have:=qQ (ws:=ws) _ i2 e2 [] [] (by have:=h.p;unfold GW at this;rw [this];exact he);exact this
  have z1:e1=0:=by
    have:=qC (ws:=ws) _ i1 e1 [] (by have:=h.l;unfold Gp at this;rw [this];exact z2);exact this
  have e':zE ls ps= -1:=qw h0
  unfold tg;rw [h.two.2,h.two.1];simp only;rw [if_neg (by simp [he]),e',if_neg (by decide),h.g.2 z1]
theorem PK {ws:List bC} {i:Nat} (h:i≤ws.length):0≤(dG ws (i:Int)).2.2.1∧(dG ws (i:Int)).2.2.1.toNat≤ws.length:=by
  have key:∀(f i:Nat) (ops:List db),i≤ws.length→0≤(nW f ws i ops).2.1∧(nW f ws i ops).2.1.toNat≤ws.length:=by
    intro f
    induction f with
    |zero=>intro i ops hi;exact⟨by show (0:Int)≤(i:Int);omega,by show ((i:Int)).toNat≤_;omega⟩
    |succ f ih=>
      intro i ops hi
      unfold nW
      split
      · rename_i q
        have:=nS q
        split
        · exact⟨by show (0:Int)≤(i:Int);omega,by show ((i:Int)).toNat≤_;omega⟩
        · exact⟨by show (0:Int)≤((i+1:Nat):Int);omega,by show (((i+1:Nat):Int)).toNat≤_;omega⟩
      · have hp:=OV (k:=ops.length) hi
        split
        · exact⟨by show (0:Int)≤((lR ws i ops.length).1:Int);omega,by show (((lR ws i ops.length).1:Int)).toNat≤_;omega⟩
        · exact ih _ _ hp
  rw [su h];simp only
  unfold j8
  split
  · rename_i q
    have:=nS q
    have hh:(dw ws i).2≤ws.length:=by
      unfold dw;simp only;split
      · rename_i q;have:=nS q;omega
      · omega
    split
    · rename_i q2
      have:=nS q2;exact key _ _ _ om
    · exact⟨by show (0:Int)≤((dw ws i).2:Int);omega,by show (((dw ws i).2:Int)).toNat≤_;omega⟩
  · exact⟨by show (0:Int)≤(i:Int);omega,by show ((i:Int)).toNat≤_;omega⟩
def KO (r:kh×Int×Int) (n0:Nat) (v:Value) (m:aa):Prop:=∃sv:eL,v= .tuple #[sv.val,.int .i64 r.2.1,.int .i64 r.2.2]∧sv.C=r.1∧∀w,Mem w m→sv.In w
theorem KO.mono {r:kh×Int×Int} :∀(k k':Nat) u m,k'≤k→KO r k u m→KO r k' u m:=fun k k' u m h q=>q
theorem KO.none {p e:Int} {n0:Nat} :KO (default,p,e) n0 (.tuple #[(default:eL).val,.int .i64 p,.int .i64 e]) [] :=
  ⟨default,rfl,rfl,fun w _=>⟨rfl,.nil _ _ _,rfl,.nil _ _ _,rfl,.nil _ _ _,fun p hp=>by cases hp⟩⟩
abbrev sO (c g:Int) (ga:Option Addr) (gn gc:Nat) (la:Option Addr) (ln lc:Nat) (pa:Option Addr) (pn pc:Nat):Obj:= .cells #[.int .i64 c,.int .i64 g,.slice ga gn gc,.slice la ln lc,.slice pa pn pc] 30 (0,0)
abbrev z0:Obj:=sO 0 0 none 0 0 none 0 0 none 0 0
theorem Jg {ps:List mJ} {p:mJ} :(ps++ [p]).map mJ.c=ps.map mJ.c++ [p.c] :=by simp
theorem Nm {ps:List mJ} {p:mJ} {w:World} (h:sK ps w) (k:p.In w):sK (ps++ [p]) w:=fun q hq=>by
  rcases List.mem_append.1 hq with hq|hq
  · exact h q hq
  · rw [List.mem_singleton] at hq;subst hq;exact k
theorem q8 {α:Type} {f:α→List Value} {E s n0:Nat} {xs:List α} {v:Value} {m:aa} {w:World} (h:Sl f E s n0 xs v m) (hf:∀a,(f a).length=s) (hm:Mem w m):Sr f s xs v w:=h.sr hf (fun p hp=>hm.2 p hp)
theorem FY (n:Nat):decide ((n:Int)=0)=decide (n=0):=decide_eq_decide.2 om
set_option maxHeartbeats 4000000 in
theorem Bc {ws:List bC} {ad:Option Addr} {n cap:Nat} (p:Int) (w:World) (hn:n=ws.length) (hx:ws.length≤1000000000) (hl:Sr fW 4 ws (.slice ad n cap) w):aJ Tryz.prog 45 #[.slice ad n cap,.int .i64 p] w (fun v w'=>Ext w w'∧∃m,KO (kz ws p) w.heap.size v m∧Mem w' m∧∀p∈m,w.heap.size≤p.1):=by
 refine aJ.au Tryz.func45 rfl Tryz.ntmps45 rfl ([]) (no) (Mem.nil w) ?_;refine J2 ?_;refine LM.alloc Tryz.zeroValue30 rfl (fun b4 CO=>?_);refine cf ?_;refine LM.ar (t:=19) rfl (fun h1=>?_) (fun h1=>?_)
 ·refine cf ?_;refine LM.val (aD (cs:=#[_,_,_,_,_]) rfl (by first|rfl|kernel_rfl)) ?_;refine LM.dC Tryz.sizeOf30 rfl rfl rfl rfl dF cn ?_;refine J6 ?_;refine QM.aV (ds:=([])) (.inl rfl) [.cell 4 30,.tmp 5,.tmp 6] Tryz.results45 bj (cM rfl Tryz.isAgg30 Tryz.sizeOf30 rfl (aU rfl (aU rfl bn))) ?_;intro w' aq ab;have vL:kz ws p=(default,0,5):=(by unfold kz;rw [if_pos om]);rw [vL];exact⟨ab,[],KO.none,Mem.nil _,fun p hp=>by cases hp⟩
 refine J7 ?_;refine af.aj rfl (fun h2=>?_) (fun h2=>?_)
 ·refine J2 ?_;refine LM.val (aD (cs:=#[_,_,_,_,_]) rfl (by first|rfl|kernel_rfl)) ?_;refine LM.dC Tryz.sizeOf30 rfl rfl rfl rfl dF cn ?_;refine J6 ?_;refine QM.aV (ds:=([])) (.inl rfl) [.cell 4 30,.tmp 5,.tmp 6] Tryz.results45 bj (cM rfl Tryz.isAgg30 Tryz.sizeOf30 rfl (aU rfl (aU rfl bn))) ?_;intro w' aq ab;have vL:kz ws p=(default,0,5):=(by unfold kz;rw [if_pos om]);rw [vL];exact⟨ab,[],KO.none,Mem.nil _,fun p hp=>by cases hp⟩
 obtain ⟨i0,rfl⟩:∃i0:Nat,p=(i0:Nat):=⟨p.toNat,by omega⟩;have rN:i0≤ws.length:=om;refine J6 ?_;refine LM.val (aD (cs:=#[_,_,_]) rfl (by first|rfl|kernel_rfl)) ?_;refine LM.box rfl rfl (fun kM WG=>?_);refine J5 ?_;have re:0<ws.length→iM ad≠kM:=(fun h0=>by have:=hl.acn h0;omega)
 refine LM.val (aD (cs:=#[_,_,_,_,_]) rfl (by first|rfl|kernel_rfl)) ?_;refine LM.alloc Tryz.zeroValue30 rfl (fun b8 J0=>?_);refine LM.dC Tryz.sizeOf30 rfl rfl rfl rfl dF cn ?_;refine J5 ?_;refine LM.cW (oC Tryz.func81) (fun w hm hc hg=>df kM i0 0 4 yo w hn hx (hl.ext hc) re (sm hm)) rfl cn ?_;refine J1 ?_;refine LM.st Tryz.sizeOf3 rfl rfl rfl eA rfl cn ?_;refine J5 ?_;refine LM.cW (oC Tryz.func82) (fun w hm hc hg=>fx kM (dq ws i0 0 yo 4).1 (dq ws i0 0 yo 4).2.1 3 [59] w hn hx (hl.ext hc) re (sm hm)) rfl cn ?_;refine J5 ?_;refine LM.cW (oC Tryz.func81) (fun w hm hc hg=>df kM (sA ws i0).1 (sA ws i0).2.1 8 yq w hn hx (hl.ext hc) re (sm hm)) rfl cn ?_;refine J1 ?_;refine LM.st Tryz.sizeOf3 rfl rfl rfl eA rfl cn ?_;refine J5 ?_;refine LM.cW (oC Tryz.func82) (fun w hm hc hg=>fx kM (dq ws (sA ws i0).1 (sA ws i0).2.1 yq 8).1 (dq ws (sA ws i0).1 (sA ws i0).2.1 yq 8).2.1 3 [59] w hn hx (hl.ext hc) re (sm hm)) rfl cn ?_;refine J3 ?_;refine af.bH (α:=Nat×Int×List Int×Option Addr×Nat×Nat×aa) (fun ⟨i1,e1,gs,k6,ng,cg,mg⟩=>[]) [(0,_),(4,_),(7,_),(8,_)] (fun ⟨i1,e1,gs,k6,ng,cg,mg⟩=>mg++qB kM ad n cap i1 e1::(b8,sO (sA ws i0).2.2 (oJ ws i0).2.2 k6 ng cg none 0 0 none 0 0)::(b4,z0):: []) (fun ⟨i1,e1,gs,k6,ng,cg,mg⟩=>HR ws (oJ ws i0).1 (oJ ws i0).2.1 [] =(gs,i1,e1)∧i1≤ws.length∧gs.length≤4∧ng=gs.length∧Sl fI 3 1 w.heap.size gs (.slice k6 ng cg) mg) cm ?_ ?_
 ·refine J1 ?_;refine af.aS (α:=Nat×Int×List Int×Option Addr×Nat×Nat×aa) (fun ⟨i,e,gs,k6,ng,cg,mg⟩=>[]) [(0,_),(4,_),(7,_),(8,_)] (fun ⟨i,e,gs,k6,ng,cg,mg⟩=>mg++qB kM ad n cap i e::(b8,sO (sA ws i0).2.2 (oJ ws i0).2.2 k6 ng cg none 0 0 none 0 0)::(b4,z0):: []) (fun ⟨i,e,gs,k6,ng,cg,mg⟩=>HR ws i e gs=HR ws (oJ ws i0).1 (oJ ws i0).2.1 []∧i≤ws.length∧gs.length≤4∧ng=gs.length∧Sl fI 3 1 w.heap.size gs (.slice k6 ng cg) mg) (fun ⟨i,e,gs,k6,ng,cg,mg⟩=>5-gs.length) (((oJ ws i0).1,(oJ ws i0).2.1,[],none,0,0,[])) cm aX ⟨rfl,yZ (yZ om),by decide,rfl,.nil _ _ _ _⟩ ?_;rintro ⟨i,e,gs,k6,ng,cg,mg⟩ ⟨hG,hi,UN,Ef,As⟩;change af _ _ _ _ _ _ _ (mg++qB kM ad n cap i e::(b8,sO (sA ws i0).2.2 (oJ ws i0).2.2 k6 ng cg none 0 0 none 0 0)::(b4,z0):: []) _ _ _;refine J2 ?_;refine af.bH (α:=Bool) (fun q=>[(55,.bool q)]) [(0,_),(4,_),(7,_),(8,_)] (fun q=>mg++qB kM ad n cap i e::(b8,sO (sA ws i0).2.2 (oJ ws i0).2.2 k6 ng cg none 0 0 none 0 0)::(b4,z0):: []) (fun q=>q=(mQ ws i e 1 bS||(decide ((ng:Int)=0)&&decide (e=0)))) cm ?_ ?_
  ·refine J2 ?_;refine cE Tryz.func83 rfl (fun w hm hc hg=>jg kM i e 1 bS w hn (hl.ext hc) (sm hm)) ?_;refine J1 ?_;refine LM.bu (t:=43) rfl (fun h3=>?_) (fun h3=>?_)
   ·refine J4 ?_;refine LM.c9 (t:=43) rfl rfl rfl ?_;refine J8 ?_;refine mK (_) ?_
    · (simp [h1,h2,h3];done)
   refine J6 ?_;refine LM.ar (t:=48) rfl (fun h4=>?_) (fun h4=>?_)
   ·refine J9 ?_;refine mK (_) ?_
    · (simp [h1,h2,h3,h4];done)
   refine J8 ?_;refine mK (_) ?_
   · (have h0:=decide_eq_false (show¬((ng:Nat):Int)=0 by omega);simp only [h0,h1,h2,h3,h4,Bool.false_and,Bool.or_false];rfl)
  rintro q hq;change QM _ _ _ _ _ (mg++qB kM ad n cap i e::(b8,sO (sA ws i0).2.2 (oJ ws i0).2.2 k6 ng cg none 0 0 none 0 0)::(b4,z0):: []) _ _ _;refine J1 ?_;refine af.aW rfl (fun h5=>?_) (fun h5=>?_)
  ·have hQ:(mQ ws i e 1 bS||(decide (gs.length=0)&&decide (e=0)))=true:=(by rw [←h5,hq,Ef,FY])
   refine J7 ?_;refine cE Tryz.func83 rfl (fun w hm hc hg=>jg kM i e 1 bS w hn (hl.ext hc) (sm hm)) ?_;refine J1 ?_;refine LM.bu (t:=58) rfl (fun h6=>?_) (fun h6=>?_)
   ·refine J6 ?_;refine LM.cW (oC Tryz.func84) (fun w hm hc hg=>pG (ws:=ws) kM i e (ng:Nat) 4 w (sm hm)) rfl cn ?_;refine J3 ?_;refine af.aW rfl (fun h7=>?_) (fun h7=>?_)
    ·have DU:=(nK h6).2;have h4:(4:Int)≤(ng:Nat):=(by simpa [DU] using h7);rw [if_pos ⟨DU,h4⟩];refine J5 ?_;refine mK ((i,6,gs,k6,ng,cg,mg)) ?_
     · exact⟨by rw [←hG];exact Mn h6 om,hi,UN,Ef,As⟩
    have h4:¬(4:Int)≤(ng:Nat):=(fun q=>by rw [decide_eq_true q] at h7;simp at h7);rw [if_neg (fun q=>h4 q.2)];refine J3 ?_;refine af.keep ((b8,_):: []) (fun _=>True) (.one 0 0 (.one 1 1 (.one 2 0 (.one 3 2 (.one 4 2 (.one 5 2 (.one 6 0 (.last 7)))))))) kr kr aX (fun _ _=>trivial) ?_;refine J4 ?_;refine LM.cW (oC Tryz.func81) (fun w hm hc hg=>df kM i e 16 bS w hn hx (hl.ext hc) re (sm hm)) rfl cn ?_;refine J3 ?_;refine LM.single Tryz.underlying26 Tryz.sizeOf3 Tryz.zeroValue3 rfl rfl rfl rfl rfl (fun b69 abO=>?_);refine J3 ?_;refine LM.app (a:=(dq ws i e bS 16).2.2) Tryz.underlying26 Tryz.typeInfo3 rfl rfl rfl rfl rfl rfl rfl aA (by rfl) ir (by intro _ u hu;simp [fI] at hu;(repeat (first|(rcases hu with rfl|hu)|subst hu|rfl))) (by first|exact Nat.le_refl _|omega) jh (by first|omega|(unfold maxLen;omega)) (by simp only [Tryz.t3];omega) (fun TY n70 JZ WB Ud T5 I5=>?_);refine J3 ?_;refine KD.last rfl ?_;refine LM.st Tryz.sizeOf26 rfl rfl rfl eA rfl cn ?_;refine J1 ?_;refine QM.qn ?_;refine J3 ?_;refine LM.cW (oC Tryz.func82) (fun w hm hc hg=>fx kM (dq ws i e bS 16).1 (dq ws i e bS 16).2.1 3 [59] w hn hx (hl.ext hc) re (sm hm)) rfl cn ?_;refine J2 ?_;refine aK (((iu ws i e bS 16).1,(iu ws i e bS 16).2.1,gs++ [(iu ws i e bS 16).2.2],TY,n70,JZ,WB)) ?_ ?_
    · exact⟨by rw [←AP hQ om];exact hG,yZ hi,by simp;omega,by rw [Ud];simp,T5⟩
    · dsimp only;rw [List.length_append,List.length_singleton];omega
   have hg0:gs.length=0:=(by have h:=hQ;simp only [h6,Bool.false_or,Bool.and_eq_true,decide_eq_true_eq] at h;exact h.1)
   refine cK ?_;refine af.keep ((b8,_):: []) (fun _=>True) (.one 0 0 (.one 1 1 (.one 2 0 (.one 3 2 (.one 4 2 (.one 5 2 (.one 6 0 (.last 7)))))))) kr kr aX (fun _ _=>trivial) ?_;refine J4 ?_;refine LM.cW (oC Tryz.func81) (fun w hm hc hg=>df kM i e 16 bS w hn hx (hl.ext hc) re (sm hm)) rfl cn ?_;refine J3 ?_;refine LM.single Tryz.underlying26 Tryz.sizeOf3 Tryz.zeroValue3 rfl rfl rfl rfl rfl (fun b69 abO=>?_);refine J3 ?_;refine LM.app (a:=(dq ws i e bS 16).2.2) Tryz.underlying26 Tryz.typeInfo3 rfl rfl rfl rfl rfl rfl rfl aA (by rfl) ir (by intro _ u hu;simp [fI] at hu;(repeat (first|(rcases hu with rfl|hu)|subst hu|rfl))) (by first|exact Nat.le_refl _|omega) jh (by first|omega|(unfold maxLen;omega)) (by simp only [Tryz.t3];omega) (fun TY n70 JZ WB Ud T5 I5=>?_);refine J3 ?_;refine KD.last rfl ?_;refine LM.st Tryz.sizeOf26 rfl rfl rfl eA rfl cn ?_;refine J1 ?_;refine QM.qn ?_;refine J3 ?_;refine LM.cW (oC Tryz.func82) (fun w hm hc hg=>fx kM (dq ws i e bS 16).1 (dq ws i e bS 16).2.1 3 [59] w hn hx (hl.ext hc) re (sm hm)) rfl cn ?_;refine J2 ?_;refine aK (((iu ws i e bS 16).1,(iu ws i e bS 16).2.1,gs++ [(iu ws i e bS 16).2.2],TY,n70,JZ,WB)) ?_ ?_
   · exact⟨by rw [←AP hQ om];exact hG,yZ hi,by simp;omega,by rw [Ud];simp,T5⟩
   · dsimp only;rw [List.length_append,List.length_singleton];omega
  refine J4 ?_;refine mK ((i,e,gs,k6,ng,cg,mg)) ?_
  · exact⟨by rw [←hG];exact IE (by rw [←h5,hq,Ef,FY]),hi,UN,Ef,As⟩
 rintro ⟨i1,e1,gs,k6,ng,cg,mg⟩ ⟨hG,XY,UN,Ef,As⟩;change QM _ _ _ _ _ (mg++qB kM ad n cap i1 e1::(b8,sO (sA ws i0).2.2 (oJ ws i0).2.2 k6 ng cg none 0 0 none 0 0)::(b4,z0):: []) _ _ _;refine J2 ?_;refine af.bH (α:=Nat×Int×List km×Option Addr×Nat×Nat×aa) (fun ⟨i2,e2,ls,rL,nl,cl,ml⟩=>[]) [(0,_),(4,_),(7,_),(8,_)] (fun ⟨i2,e2,ls,rL,nl,cl,ml⟩=>ml++(mg++(qB kM ad n cap i2 e2::(b8,sO (sA ws i0).2.2 (oJ ws i0).2.2 k6 ng cg rL nl cl none 0 0)::(b4,z0):: []))) (fun ⟨i2,e2,ls,rL,nl,cl,ml⟩=>Gp ws i1 e1 [] =(ls,i2,e2)∧i2≤ws.length∧ls.length≤8∧nl=ls.length∧Sl fL 83 5 w.heap.size ls (.slice rL nl cl) ml) cm ?_ ?_
 ·refine J1 ?_;refine af.aS (α:=Nat×Int×List km×Option Addr×Nat×Nat×aa) (fun ⟨i,e,ls,rL,nl,cl,ml⟩=>[]) [(0,_),(4,_),(7,_),(8,_)] (fun ⟨i,e,ls,rL,nl,cl,ml⟩=>ml++(mg++(qB kM ad n cap i e::(b8,sO (sA ws i0).2.2 (oJ ws i0).2.2 k6 ng cg rL nl cl none 0 0)::(b4,z0):: []))) (fun ⟨i,e,ls,rL,nl,cl,ml⟩=>Gp ws i e ls=Gp ws i1 e1 []∧i≤ws.length∧ls.length≤8∧nl=ls.length∧Sl fL 83 5 w.heap.size ls (.slice rL nl cl) ml) (fun ⟨i,e,ls,rL,nl,cl,ml⟩=>9-ls.length) ((i1,e1,[],none,0,0,[])) cm aX ⟨rfl,XY,by decide,rfl,.nil _ _ _ _⟩ ?_;rintro ⟨i,e,ls,rL,nl,cl,ml⟩ ⟨hL,hi,Pr,uN,gh⟩;change af _ _ _ _ _ _ _ (ml++(mg++(qB kM ad n cap i e::(b8,sO (sA ws i0).2.2 (oJ ws i0).2.2 k6 ng cg rL nl cl none 0 0)::(b4,z0):: []))) _ _ _;refine J2 ?_;refine af.bH (α:=Bool) (fun q=>[(79,.bool q)]) [(0,_),(4,_),(7,_),(8,_)] (fun q=>ml++(mg++(qB kM ad n cap i e::(b8,sO (sA ws i0).2.2 (oJ ws i0).2.2 k6 ng cg rL nl cl none 0 0)::(b4,z0):: []))) (fun q=>q=Il ws i e) cm ?_ ?_
  ·refine J2 ?_;refine cE Tryz.func83 rfl (fun w hm hc hg=>jg kM i e 1 Qw w hn (hl.ext hc) (sm hm)) ?_;refine J1 ?_;refine LM.bu (t:=76) rfl (fun h8=>?_) (fun h8=>?_)
   ·refine J4 ?_;refine mK (_) ?_
    · simp [Il,h1,h2,h8]
   refine J2 ?_;refine cE Tryz.func83 rfl (fun w hm hc hg=>jg kM i e 1 eo w hn (hl.ext hc) (sm hm)) ?_;refine J2 ?_;refine mK (_) ?_
   · simp [Il,h1,h2,h8]
  rintro q hq;change QM _ _ _ _ _ (ml++(mg++(qB kM ad n cap i e::(b8,sO (sA ws i0).2.2 (oJ ws i0).2.2 k6 ng cg rL nl cl none 0 0)::(b4,z0):: []))) _ _ _;refine J1 ?_;refine af.aW rfl (fun h9=>?_) (fun h9=>?_)
  ·have hQ:Il ws i e=true:=(by rw [←hq,h9]);have DU:=(yM hQ).2;have bB:=(yM hQ).1;refine cf ?_;refine LM.cW (oC Tryz.func84) (fun w hm hc hg=>pG (ws:=ws) kM i e (nl:Nat) 8 w (sm hm)) rfl cn ?_;refine J2 ?_;refine af.aW rfl (fun iV=>?_) (fun iV=>?_)
   ·have h4:(8:Int)≤(nl:Nat):=(by simpa [DU] using iV);rw [if_pos ⟨DU,h4⟩];refine J5 ?_;refine mK ((i,6,ls,rL,nl,cl,ml)) ?_
    · exact⟨by rw [←hL];exact IV hQ om,hi,Pr,uN,gh⟩
   have h4:¬(8:Int)≤(nl:Nat):=(fun q=>by rw [decide_eq_true q] at iV;simp at iV);rw [if_neg (fun q=>h4 q.2)];refine J5 ?_;refine cE Tryz.func83 rfl (fun w hm hc hg=>jg kM i e 1 eo w hn (hl.ext hc) (sm hm)) ?_;refine cK ?_;refine LM.st Tryz.sizeOf3 rfl rfl rfl eA rfl cn ?_;refine J2 ?_;refine af.keep ((b8,_):: []) (fun _=>True) (.one 0 0 (.one 1 1 (.one 2 0 (.one 3 0 (.one 4 2 (.one 5 2 (.one 6 2 (.one 7 0 (.last 8))))))))) kr kr aX (fun _ _=>trivial) ?_;refine J5 ?_;refine LM.cW (oC Tryz.func85) (fun w hm hc hg=>D7 (mQ ws i e 1 eo) kM (i+1) e w hn hx (hl.ext hc) re (sm hm)) rfl cn ?_;refine J3 ?_;refine LM.single Tryz.underlying27 Tryz.sizeOf83 Tryz.zeroValue83 rfl rfl rfl rfl rfl (fun b99 amc=>?_);refine J3 ?_;refine LM.app (a:=(jN ws (mQ ws i e 1 eo) (i+1) e).2.2) Tryz.underlying27 Tryz.typeInfo83 rfl rfl rfl rfl rfl rfl rfl aA (by rfl) ir (by intro _ u hu;simp [fL] at hu;(repeat (first|(rcases hu with rfl|hu)|subst hu|rfl))) (by first|exact Nat.le_refl _|omega) jh (by first|omega|(unfold maxLen;omega)) (by simp only [Tryz.t83];omega) (fun Y8 acw RF abL VO Yw abw=>?_);refine J3 ?_;refine KD.last rfl ?_;refine LM.st Tryz.sizeOf27 rfl rfl rfl eA rfl cn ?_;refine J1 ?_;refine QM.qn ?_;refine J1 ?_;refine aK (((jN ws (mQ ws i e 1 eo) (i+1) e).1,(jN ws (mQ ws i e 1 eo) (i+1) e).2.1,ls++ [(jN ws (mQ ws i e 1 eo) (i+1) e).2.2],Y8,acw,RF,abL)) ?_ ?_
   · exact⟨by rw [←LV hQ om];exact hL,RJ om,by simp;omega,by rw [VO];simp,Yw⟩
   · dsimp only;rw [List.length_append,List.length_singleton];omega
  refine J4 ?_;refine mK ((i,e,ls,rL,nl,cl,ml)) ?_
  · exact⟨by rw [←hL];exact K6 (by rw [←hq,h9]),hi,Pr,uN,gh⟩
 rintro ⟨i2,e2,ls,rL,nl,cl,ml⟩ ⟨hL,hi2,Pr,uN,gh⟩;change QM _ _ _ _ _ (ml++(mg++(qB kM ad n cap i2 e2::(b8,sO (sA ws i0).2.2 (oJ ws i0).2.2 k6 ng cg rL nl cl none 0 0)::(b4,z0):: []))) _ _ _;refine J7 ?_;refine af.bH (α:=Nat×Int×List mJ×Option Addr×Nat×Nat×aa×List Int×Option Addr×Nat×Nat×aa×aa) (fun ⟨i3,e3,ps,w7,np,cp,mp,pl,mD,nq,cq,mq,mo⟩=>[(10,.slice mD nq cq)]) [(4,_),(7,_),(8,_)] (fun ⟨i3,e3,ps,w7,np,cp,mp,pl,mD,nq,cq,mq,mo⟩=>mo++(mp++(mq++(ml++(mg++(qB kM ad n cap i3 e3::(b8,sO (sA ws i0).2.2 (oJ ws i0).2.2 k6 ng cg rL nl cl w7 np cp)::(b4,z0):: [])))))) (fun ⟨i3,e3,ps,w7,np,cp,mp,pl,mD,nq,cq,mq,mo⟩=>GW ws i2 e2 [] [] =(ps.map mJ.c,pl,i3,e3)∧i3≤ws.length∧ps.length≤8∧np=ps.length∧Sl XQ 117 2 w.heap.size ps (.slice w7 np cp) mp∧pl.length=ps.length∧nq=pl.length∧Sl fI 3 1 w.heap.size pl (.slice mD nq cq) mq∧(∀w,Mem w mo→sK ps w)∧(∀p∈mo,w.heap.size≤p.1)) cm ?_ ?_
 ·refine J1 ?_;refine af.aS (α:=Nat×Int×List mJ×Option Addr×Nat×Nat×aa×List Int×Option Addr×Nat×Nat×aa×aa) (fun ⟨i,e,ps,w7,np,cp,mp,pl,mD,nq,cq,mq,mo⟩=>[(10,.slice mD nq cq)]) [(0,_),(4,_),(7,_),(8,_)] (fun ⟨i,e,ps,w7,np,cp,mp,pl,mD,nq,cq,mq,mo⟩=>mo++(mp++(mq++(ml++(mg++(qB kM ad n cap i e::(b8,sO (sA ws i0).2.2 (oJ ws i0).2.2 k6 ng cg rL nl cl w7 np cp)::(b4,z0):: [])))))) (fun ⟨i,e,ps,w7,np,cp,mp,pl,mD,nq,cq,mq,mo⟩=>GW ws i e (ps.map mJ.c) pl=GW ws i2 e2 [] []∧i≤ws.length∧ps.length≤8∧np=ps.length∧Sl XQ 117 2 w.heap.size ps (.slice w7 np cp) mp∧pl.length=ps.length∧nq=pl.length∧Sl fI 3 1 w.heap.size pl (.slice mD nq cq) mq∧(∀w,Mem w mo→sK ps w)∧(∀p∈mo,w.heap.size≤p.1)) (fun ⟨i,e,ps,w7,np,cp,mp,pl,mD,nq,cq,mq,mo⟩=>9-ps.length) ((i2,e2,[],none,0,0,[],[],none,0,0,[],[])) cm aX ⟨rfl,hi2,by decide,rfl,.nil _ _ _ _,rfl,rfl,.nil _ _ _ _,(fun w _ p hp=>by cases hp),(fun p hp=>by cases hp)⟩ ?_;rintro ⟨i,e,ps,w7,np,cp,mp,pl,mD,nq,cq,mq,mo⟩ ⟨hP,hi,ZZ,Pk,Og,Oa,Ax,BD,lN,W6⟩;change af _ _ _ _ _ _ _ (mo++(mp++(mq++(ml++(mg++(qB kM ad n cap i e::(b8,sO (sA ws i0).2.2 (oJ ws i0).2.2 k6 ng cg rL nl cl w7 np cp)::(b4,z0):: [])))))) _ _ _;refine J2 ?_;refine af.bH (α:=Bool) (fun q=>[(116,.bool q)]) [(0,_),(4,_),(7,_),(8,_),(10,_)] (fun q=>mo++(mp++(mq++(ml++(mg++(qB kM ad n cap i e::(b8,sO (sA ws i0).2.2 (oJ ws i0).2.2 k6 ng cg rL nl cl w7 np cp)::(b4,z0):: [])))))) (fun q=>q=(mQ ws i e 1 pb||(decide ((np:Int)=0)&&decide (e=0)))) cm ?_ ?_
  ·refine J2 ?_;refine cE Tryz.func83 rfl (fun w hm hc hg=>jg kM i e 1 pb w hn (hl.ext hc) (sm hm)) ?_;refine J1 ?_;refine LM.bu (t:=104) rfl (fun kg=>?_) (fun kg=>?_)
   ·refine J4 ?_;refine LM.c9 (t:=104) rfl rfl rfl ?_;refine J8 ?_;refine mK (_) ?_
    · (simp [h1,h2,kg];done)
   refine J6 ?_;refine LM.ar (t:=109) rfl (fun gH=>?_) (fun gH=>?_)
   ·refine J9 ?_;refine mK (_) ?_
    · (simp [h1,h2,kg,gH];done)
   refine J8 ?_;refine mK (_) ?_
   · (have h0:=decide_eq_false (show¬((np:Nat):Int)=0 by omega);simp only [h0,h1,h2,kg,gH,Bool.false_and,Bool.or_false];rfl)
  rintro q hq;change QM _ _ _ _ _ (mo++(mp++(mq++(ml++(mg++(qB kM ad n cap i e::(b8,sO (sA ws i0).2.2 (oJ ws i0).2.2 k6 ng cg rL nl cl w7 np cp)::(b4,z0):: [])))))) _ _ _;refine J1 ?_;refine af.aW rfl (fun oq=>?_) (fun oq=>?_)
  ·have hQ:H9 ws i e (ps.map mJ.c)=true:=(by rw [Kg,List.length_map,←oq,hq,Pk,FY]);have DU:=vX hQ;refine cf ?_;refine LM.cW (oC Tryz.func84) (fun w hm hc hg=>pG (ws:=ws) kM i e (np:Nat) 8 w (sm hm)) rfl cn ?_;refine J2 ?_;refine af.aW rfl (fun jw=>?_) (fun jw=>?_)
   ·have h4:(8:Int)≤(np:Nat):=(by simpa [DU] using jw);rw [if_pos ⟨DU,h4⟩];refine J5 ?_;refine mK ((i,6,ps,w7,np,cp,mp,pl,mD,nq,cq,mq,mo)) ?_
    · exact⟨by rw [←hP];exact JQ hQ (by simp;omega),hi,ZZ,Pk,Og,Oa,Ax,BD,lN,W6⟩
   have h4:¬(8:Int)≤(np:Nat):=(fun q=>by rw [decide_eq_true q] at jw;simp at jw);rw [if_neg (fun q=>h4 q.2)];refine J9 ?_;refine LM.single Tryz.underlying26 Tryz.sizeOf3 Tryz.zeroValue3 rfl rfl rfl rfl rfl (fun aiQ afm=>?_);refine LM.app (a:=(i:Int)) Tryz.underlying26 Tryz.typeInfo3 rfl rfl rfl rfl rfl rfl rfl aA (by rfl) ir (by intro _ u hu;simp [fI] at hu;(repeat (first|(rcases hu with rfl|hu)|subst hu|rfl))) (by first|exact Nat.le_refl _|omega) jh (by first|omega|(unfold maxLen;omega)) (by simp only [Tryz.t3];omega) (fun Ve acv Uf abr VX XP abC=>?_);refine cf ?_;refine LM.iO (oC Tryz.func86) DR.mono (fun w hm hc hg=>AM (i:Nat) w hn hx (hl.ext hc)) ?_;rintro XI Kw ⟨PU,WD,Ml,rfl,Yt,W3⟩ Sw;have P4:=PK hi;obtain ⟨j9,hj9⟩:∃j:Nat,(dG ws (i:Int)).2.2.1=(j:Int):=⟨_,(Int.toNat_of_nonneg P4.1).symm⟩;rw [hj9];refine J4 ?_;refine LM.alloc Tryz.zeroValue117 rfl (fun b11 aes=>?_);refine LM.dC Tryz.sizeOf117 rfl rfl rfl rfl dF cn ?_;refine J8 ?_;refine LM.rd (bo Tryz.isAgg117 Tryz.sizeOf117 rfl rfl) ?_;refine LM.single Tryz.underlying28 Tryz.sizeOf117 Tryz.zeroValue117 rfl rfl rfl rfl rfl (fun ahS agN=>?_);refine LM.app (a:=(⟨ZE (dG ws (i:Int)),PU,WD,Ml⟩:mJ)) Tryz.underlying28 Tryz.typeInfo117 rfl rfl rfl rfl rfl rfl rfl aA (by rfl) ir (by intro _ u hu;simp [XQ] at hu;(repeat (first|(rcases hu with rfl|hu)|subst hu|rfl))) (by first|exact Nat.le_refl _|omega) jh (by first|omega|(unfold maxLen;omega)) (by simp only [Tryz.t117];omega) (fun WO abI Tt aci Xj Yr ac1=>?_);refine J1 ?_;refine LM.st Tryz.sizeOf28 rfl rfl rfl eA rfl cn ?_;refine J8 ?_;refine LM.st Tryz.sizeOf3 rfl rfl rfl eA rfl cn ?_;refine J7 ?_;refine LM.st Tryz.sizeOf3 rfl rfl rfl eA rfl cn ?_;refine J2 ?_;refine aK ((j9,(dG ws (i:Int)).2.2.2,ps++ [(⟨ZE (dG ws (i:Int)),PU,WD,Ml⟩:mJ)],WO,abI,Tt,aci,pl++ [(i:Int)],Ve,acv,Uf,abr,Kw++mo)) ?_ ?_
   · exact⟨by rw [Jg,←hP,Ix hQ (by simp;omega),hj9,Int.toNat_natCast],by have:=P4.2;rw [hj9,Int.toNat_natCast] at this;exact this,by simp;omega,by rw [Xj];simp,Yr,by simp [Oa],by rw [VX];simp,XP,(fun w hm=>Nm (lN w (hm.sub (List.sublist_append_right _ _))) ⟨Yt,q8 W3 (fun _=>rfl) (hm.sub (List.sublist_append_left _ _))⟩),List.forall_mem_append.2 ⟨Sw,W6⟩⟩
   · dsimp only;rw [List.length_append,List.length_singleton];omega
  refine J4 ?_;refine mK ((i,e,ps,w7,np,cp,mp,pl,mD,nq,cq,mq,mo)) ?_
  · exact⟨by rw [←hP];exact Ib (by rw [Kg,List.length_map,←oq,hq,Pk,FY]),hi,ZZ,Pk,Og,Oa,Ax,BD,lN,W6⟩
 rintro ⟨i3,e3,ps,w7,np,cp,mp,pl,mD,nq,cq,mq,mo⟩ ⟨hP,hi3,ZZ,Pk,Og,Oa,Ax,BD,lN,W6⟩;change QM _ _ _ _ _ (mo++(mp++(mq++(ml++(mg++(qB kM ad n cap i3 e3::(b8,sO (sA ws i0).2.2 (oJ ws i0).2.2 k6 ng cg rL nl cl w7 np cp)::(b4,z0):: [])))))) _ _ _;refine dB ?_;refine af.aj rfl (fun wW=>?_) (fun wW=>?_)
 ·have hI:w6 ws i0 gs i1 e1 ls i2 e2 (ps.map mJ.c) pl i3 e3:=⟨⟨(y8 hG).1,fun q=>by rw [(y8 hG).2 q]⟩,hL,hP⟩
  refine J1 ?_;refine af.keep ((kM,_):: []) (fun _=>True) (.one 0 0 (.one 1 0 (.one 2 0 (.one 3 0 (.one 4 1 (.one 5 0 (.one 6 0 (.one 7 0 (.one 8 1 (.one 9 2 (.one 10 0 (.one 11 0 .nil)))))))))))) kr kr aX (fun _ _=>trivial) ?_;refine KD.val rfl rfl (aD (cs:=#[_,_,_,_,_]) rfl (by first|rfl|kernel_rfl)) ?_;refine J9 ?_;refine LM.dC Tryz.sizeOf30 rfl rfl rfl rfl dF cn ?_;refine J8 ?_;refine QM.aV (ds:=([])) (.inl rfl) [.cell 4 30,.tmp 5,.tmp 6] Tryz.results45 bj (cM rfl Tryz.isAgg30 Tryz.sizeOf30 rfl (aU rfl (aU rfl bn))) ?_;intro w' aq ab;rw [yO rN,hI.bad wW];exact⟨ab,[],KO.none,Mem.nil _,fun p hp=>by cases hp⟩
 have he3:e3=0:=Classical.not_not.1 wW;have hI:w6 ws i0 gs i1 e1 ls i2 e2 (ps.map mJ.c) pl i3 e3:=⟨⟨(y8 hG).1,fun q=>by rw [(y8 hG).2 q]⟩,hL,hP⟩
 refine J9 ?_;refine af.aS (α:=Nat) (fun j=>[(14,.int .i64 (j:Nat))]) [(4,_),(7,_),(8,_),(10,_)] (fun j=>mo++(mp++(mq++(ml++(mg++(qB kM ad n cap i3 e3::(b8,sO (sA ws i0).2.2 (oJ ws i0).2.2 k6 ng cg rL nl cl w7 np cp)::(b4,z0):: [])))))) (fun j=>j≤ps.length∧((ps.map mJ.c).take j).any (mR ls ps.length)=false) (fun j=>ps.length-j) (0) cm aX ⟨Nat.zero_le _,rfl⟩ ?_;rintro j ⟨hj,Tf⟩;change af _ _ _ _ _ _ _ (mo++(mp++(mq++(ml++(mg++(qB kM ad n cap i3 e3::(b8,sO (sA ws i0).2.2 (oJ ws i0).2.2 k6 ng cg rL nl cl w7 np cp)::(b4,z0):: [])))))) _ _ _;refine cf ?_;refine af.aj rfl (fun tB=>?_) (fun tB=>?_)
 ·have rp:j<ps.length:=om;have ph:ps.getD j default∈ps:=List.mem_of_getElem? (aQ default rp);refine J5 ?_;refine af.draw [(0,0),(1,1),(2,0),(3,0),(4,1),(5,0),(6,1),(7,0),(8,1),(9,0),(10,2),(11,0),(12,0),(13,0),(14,0),(15,0)] kr kr ?_;refine J4 ?_;refine LD.rd rfl rfl (jm aA ir Tryz.isAgg117 Tryz.sizeOf117 rfl cR) ?_;refine J5 ?_;refine dE rfl rfl Tryz.func49 rfl (fun w hm hc hg=>sT (np:Nat) w (lN w (hm.pick mo) _ ph).1 (lN w (hm.pick mo) _ ph).2 uN (gh.k8 ir hm)) ?_;refine gw ?_;refine af.aj rfl (fun pC=>?_) (fun pC=>?_)
  ·refine J1 ?_;refine af.keep (mq++ []) (fun _=>True) (.one 0 0 (.one 1 0 (.one 2 0 (.one 3 0 (.one 4 1 (.one 5 0 (.one 6 2 (.one 7 0 (.one 8 0 .nil))))))))) kr kr aX (fun _ _=>trivial) ?_;refine KD.val rfl rfl (aD (cs:=#[_,_,_,_,_]) rfl (by first|rfl|kernel_rfl)) ?_;refine J3 ?_;refine KD.rd rfl rfl (bw aA ir Tryz.isAgg3 rfl rfl (by exact aQ 0 cL) (by rfl)) ?_;refine J2 ?_;refine LM.dC Tryz.sizeOf30 rfl rfl rfl rfl dF cn ?_;refine cK ?_;refine QM.aV (ds:=([])) (.inl rfl) [.cell 4 30,.tmp 5,.tmp 6] Tryz.results45 bj (cM rfl Tryz.isAgg30 Tryz.sizeOf30 rfl (aU rfl (aU rfl bn))) ?_;intro w' aq ab;rw [yO rN,hI.mis he3 (j:=j) (by simpa using rp) (by rw [List.length_map];exact Tf) (by rw [ku,List.length_map];unfold mR;rw [←Pk];simpa using pC),ku,List.length_map,←Pk];exact⟨ab,[],KO.none,Mem.nil _,fun p hp=>by cases hp⟩
  refine J8 ?_;refine aK (j+1) ?_ ?_
  · exact⟨by omega,by rw [fX default (by simp;omega),Tf,Bool.false_or,ku];unfold mR;rw [←Pk];simpa using pC⟩
  · omega
 refine J6 ?_;refine af.keep ((kM,_)::(b8,_):: []) (fun _=>True) (.one 0 1 (.one 1 0 (.one 2 0 (.one 3 0 (.one 4 1 (.one 5 2 (.one 6 0 (.one 7 0 .nil)))))))) kr kr aX (fun _ _=>trivial) ?_;refine KD.rd rfl rfl (bo Tryz.isAgg30 Tryz.sizeOf30 rfl rfl) ?_;refine J5 ?_;refine LM.dC Tryz.sizeOf30 rfl rfl rfl rfl dF cn ?_;refine J7 ?_;refine QM.aV (ds:=([])) (.inl rfl) [.cell 4 30,.tmp 5,.tmp 6] Tryz.results45 bj (cM rfl Tryz.isAgg30 Tryz.sizeOf30 rfl (aU rfl (aU rfl bn))) ?_;intro w' aq ab;rw [yO rN,hI.ok he3 (by have rp:j=ps.length:=om;have h9:=Tf;rw [rp,List.take_of_length_le (by simp)] at h9;rw [List.length_map];exact h9)];refine ⟨ab,mo++(mp++(ml++(mg++ []))),⟨⟨(sA ws i0).2.2,(oJ ws i0).2.2,gs,k6,ng,cg,ls,rL,nl,cl,ps,w7,np,cp⟩,rfl,rfl,fun w hm=>⟨Ef,q8 As (fun _=>rfl) (hm.pick mg),uN,q8 gh (fun _=>rfl) (hm.pick ml),Pk,q8 Og (fun _=>rfl) (hm.pick mp),lN w (hm.pick mo)⟩⟩,aT.mem (by(repeat' (first|exact aT.nil _|refine aT.app ?_))) w' aq,?_⟩;intro p hp;simp only [List.mem_append,List.not_mem_nil,or_false] at hp;rcases hp with hp|hp|hp|hp;exact W6 p hp;exact Sl.ge Og p hp;exact Sl.ge gh p hp;exact Sl.ge As p hp
abbrev xp (b:Nat) (s:eL):Nat×Obj:=(b,sO s.cr s.gr s.ga s.gn s.gc s.la s.ln s.lc s.pa s.pn s.pc)
def vE (s:kh):Bool:=cG s.cr 4&&(cG s.gr 8&&(cG (s.gs.length:Int) 4&&(decide (s.ls.length≤8)&&cG (s.ps.length:Int) 8)))
theorem jf (s:kh):fC s=(vE s&&(s.gs.all (fun n=>cG n 16)&&(s.ls.all wQ&& !s.ps.any (mR s.ls s.ps.length)))):=by
  unfold fC vE
  ac_rfl
theorem DV {α:Type} {p:α→Bool} {xs:List α} {i:Nat} (d:α) (h:i<xs.length) (hp:p (xs.getD i d)=false):xs.all p=false:=by
  cases hm:xs.all p with
  |false=>rfl
  |true=>rw [List.all_eq_true.1 hm _ (List.mem_of_getElem? (aQ d h))] at hp;cases hp
theorem Tv {α:Type} {p:α→Bool} {xs:List α} {i:Nat} (d:α) (h:i<xs.length) (hp:p (xs.getD i d)=true):xs.any p=true:=List.any_eq_true.2 ⟨_,List.mem_of_getElem? (aQ d h),hp⟩
theorem head_eq {s:eL} (h1:s.gn=s.gs.length) (h2:s.ln=s.ls.length) (h3:s.pn=s.ps.length):vE s.C= !(!cG s.cr 4||(!cG s.gr 8||(!cG (s.gn:Int) 4||(decide ((s.ln:Int) > 8)|| !cG (s.pn:Int) 8)))):=by
  unfold vE eL.C
  simp only [List.length_map,←h1,←h2,←h3];rw [show decide (s.ln≤8)= !decide ((s.ln:Int) > 8) by rw [←decide_not];exact decide_eq_decide.2 om];cases cG s.cr 4<;>cases cG s.gr 8<;>cases cG (s.gn:Int) 4<;>cases decide ((s.ln:Int) > 8)<;>cases cG (s.pn:Int) 8<;>rfl
theorem Hl {s:kh} (h:vE s=false):fC s=false:=by rw [jf,h];rfl
theorem OI {s:kh} (h:s.gs.all (fun n=>cG n 16)=false):fC s=false:=by rw [jf,h];simp
theorem E1 {s:kh} (h:s.ls.all wQ=false):fC s=false:=by rw [jf,h];simp
theorem NF {s:kh} (h:s.ps.any (mR s.ls s.ps.length)=true):fC s=false:=by rw [jf,h];simp
theorem Ez {x:km} :wQ x= !((!cG x.sl 16|| !cG x.cr 32)||((x.sh&&(!cG x.rd 16|| !cG x.wr 16))||(!x.sh&&(decide (x.rd≠0)||decide (x.wr≠0))))):=by
  unfold wQ
  cases x.sh<;>cases cG x.sl 16<;>cases cG x.cr 32<;>simp
theorem de (n gA:Int) (w:World):aJ Tryz.prog 48 #[.int .i64 n,.int .i64 gA] w (fun v w'=>v= .bool (cG n gA)∧Ext w w'):=by
 refine aJ.au Tryz.func48 rfl Tryz.ntmps48 rfl ([]) (no) (Mem.nil w) ?_;refine cf ?_;refine LM.ar (t:=7) rfl (fun h1=>?_) (fun h1=>?_)
 ·refine J8 ?_;refine qL Tryz.results48 rfl fun w' aq ab aI=>?_;refine ⟨?_,ab⟩;simp only [bA,cG];first|(rw [decide_eq_true (show 1≤n by omega),Bool.true_and];done)|(rw [decide_eq_false (show¬1≤n by omega),Bool.false_and];done)
 refine J8 ?_;refine qL Tryz.results48 rfl fun w' aq ab aI=>?_;refine ⟨?_,ab⟩;simp only [bA,cG];first|(rw [decide_eq_true (show 1≤n by omega),Bool.true_and];done)|(rw [decide_eq_false (show¬1≤n by omega),Bool.false_and];done)
set_option maxHeartbeats 2000000 in
theorem Df {s:eL} (w:World) (hI:s.In w):aJ Tryz.prog 21 #[s.val] w (fun v w'=>v= .bool (fC s.C)∧Ext w w'):=by
 have Mz:=hI.Mz;have A1:=hI.A1;have Cp:=hI.Cp;have hp:=hI.hp;have hg:=hI.hg;have hl:=hI.hl;have ks:(s.ps.map mJ.c).length=s.ps.length:=List.length_map ..;refine aJ.au Tryz.func21 rfl Tryz.ntmps21 rfl ([]) (no) (Mem.nil w) ?_;refine J2 ?_;refine LM.box rfl rfl (fun b1 CJ=>?_);refine J5 ?_;refine af.bH (α:=Bool) (fun q=>[(38,.bool q)]) [(1,_)] (fun q=>xp b1 s:: []) (fun q=>q=(!cG s.cr 4||(!cG s.gr 8||(!cG (s.gn:Int) 4||(decide ((s.ln:Int) > 8)|| !cG (s.pn:Int) 8))))) cm ?_ ?_
 ·refine J3 ?_;refine cE Tryz.func48 rfl (fun w hm hc hg=>de _ _ w) ?_;refine J2 ?_;refine LM.bu (t:=13) rfl (fun h1=>?_) (fun h1=>?_)
  ·refine Uz ?_;refine mK (_) ?_
   · (simp [h1,-List.getD_eq_getElem?_getD];done)
  refine J4 ?_;refine cE Tryz.func48 rfl (fun w hm hc hg=>de _ _ w) ?_;refine J3 ?_;refine LM.bu (t:=19) rfl (fun h2=>?_) (fun h2=>?_)
  ·refine US ?_;refine mK (_) ?_
   · (simp [h1,h2,-List.getD_eq_getElem?_getD];done)
  refine J5 ?_;refine cE Tryz.func48 rfl (fun w hm hc hg=>de _ _ w) ?_;refine J3 ?_;refine LM.bu (t:=26) rfl (fun h3=>?_) (fun h3=>?_)
  ·refine gw ?_;refine mK (_) ?_
   · (simp [h1,h2,h3,-List.getD_eq_getElem?_getD];done)
  refine J7 ?_;refine LM.ar (t:=32) rfl (fun h4=>?_) (fun h4=>?_)
  ·refine J7 ?_;refine mK (_) ?_
   · (simp [h1,h2,h3,h4,-List.getD_eq_getElem?_getD];done)
  refine J5 ?_;refine cE Tryz.func48 rfl (fun w hm hc hg=>de _ _ w) ?_;refine J3 ?_;refine mK (_) ?_
  · (simp [h1,h2,h3,h4,-List.getD_eq_getElem?_getD];done)
 rintro q hq;change QM _ _ _ _ _ (xp b1 s:: []) _ _ _;refine J1 ?_;refine af.aW rfl (fun h5=>?_) (fun h5=>?_)
 ·refine J7 ?_;refine qL Tryz.results21 rfl fun w' aq ab aI=>?_;refine ⟨?_,ab⟩;rw [Hl (by rw [head_eq Mz A1 Cp,←hq,h5];rfl)];rfl
 have hhd:vE s.C=true:=(by rw [head_eq Mz A1 Cp,←hq,h5];rfl);have VZ:=hhd;unfold vE at VZ;simp only [Bool.and_eq_true,decide_eq_true_eq,TB] at VZ;have hG4:s.gs.length≤4:=(by have:=VZ.2.2.1.2;show s.gs.length≤4;have h9:(s.C.gs.length:Int)≤4:=this;have h8:s.C.gs.length=s.gs.length:=rfl;omega);have hL8:s.ls.length≤8:=VZ.2.2.2.1;have hP8:s.ps.length≤8:=(by have h9:=VZ.2.2.2.2.2;have h8:s.C.ps.length=s.ps.length:=ks;omega)
 refine J9 ?_;refine af.aS (α:=Nat) (fun i=>[(3,.int .i64 (i:Nat))]) [(1,_)] (fun i=>xp b1 s:: []) (fun i=>i≤s.gs.length∧(s.gs.take i).all (fun n=>cG n 16)=true) (fun i=>s.gs.length-i) (0) cm aX ⟨Nat.zero_le _,rfl⟩ ?_;rintro i ⟨hi,hag⟩;change af _ _ _ _ _ _ _ (xp b1 s:: []) _ _ _;refine cf ?_;refine af.aj rfl (fun h6=>?_) (fun h6=>?_)
 ·refine cf ?_;refine LM.eT (ry aA Tryz.isAgg3 rfl rfl (by exact aQ 0 cL) (by rfl) id) ?_;refine cE Tryz.func48 rfl (fun w hm hc hg=>de _ _ w) ?_;refine J3 ?_;refine af.aW rfl (fun h7=>?_) (fun h7=>?_)
  ·refine dB ?_;refine qL Tryz.results21 rfl fun w' aq ab aI=>?_;refine ⟨?_,ab⟩;rw [OI (s:=s.C) (DV (xs:=s.gs) (i:=i) 0 om (by simpa using h7))];rfl
  refine J8 ?_;refine aK (i+1) ?_ ?_
  · exact⟨by omega,by rw [vt 0 om,hag,Bool.true_and];simpa using h7⟩
  · omega
 refine cK ?_;refine af.aS (α:=Nat) (fun j=>[(4,.int .i64 (j:Nat))]) [(1,_)] (fun j=>xp b1 s:: []) (fun j=>j≤s.ls.length∧(s.ls.take j).all wQ=true) (fun j=>s.ls.length-j) (0) cm aX ⟨Nat.zero_le _,rfl⟩ ?_;rintro j ⟨hj,H8⟩;change af _ _ _ _ _ _ _ (xp b1 s:: []) _ _ _;refine cf ?_;refine af.aj rfl (fun h8=>?_) (fun h8=>?_)
 ·refine cf ?_;refine LM.eT (dX aA ir Tryz.isAgg83 Tryz.sizeOf83 rfl cR id) ?_;refine LM.alloc Tryz.zeroValue83 rfl (fun b5 KU=>?_);refine LM.dC Tryz.sizeOf83 rfl rfl rfl rfl dF cn ?_;refine J4 ?_;refine af.bH (α:=Bool) (fun q2=>[(74,.bool q2)]) [(1,_),(4,_),(5,_)] (fun q2=>(b5,.cells (fL (s.ls.getD j default)).toArray 83 (0,0))::xp b1 s:: []) (fun q2=>q2=(!cG (s.ls.getD j default).sl 16|| !cG (s.ls.getD j default).cr 32)) cm ?_ ?_
  ·refine J3 ?_;refine cE Tryz.func48 rfl (fun w hm hc hg=>de _ _ w) ?_;refine J2 ?_;refine LM.bu (t:=69) rfl (fun h9=>?_) (fun h9=>?_)
   ·refine J6 ?_;refine mK (_) ?_
    · (simp [h5,h6,h8,h9,-List.getD_eq_getElem?_getD];done)
   refine J4 ?_;refine cE Tryz.func48 rfl (fun w hm hc hg=>de _ _ w) ?_;refine J3 ?_;refine mK (_) ?_
   · (simp [h5,h6,h8,h9,-List.getD_eq_getElem?_getD];done)
  rintro q2 jK;change QM _ _ _ _ _ ((b5,.cells (fL (s.ls.getD j default)).toArray 83 (0,0))::xp b1 s:: []) _ _ _;refine J1 ?_;refine af.aW rfl (fun iV=>?_) (fun iV=>?_)
  ·refine cK ?_;refine qL Tryz.results21 rfl fun w' aq ab aI=>?_;refine ⟨?_,ab⟩;rw [E1 (s:=s.C) (DV (xs:=s.ls) (i:=j) default om (by rw [Ez,←jK,iV];rfl))];rfl
  refine J3 ?_;refine af.bH (α:=Bool) (fun q3=>[(103,.bool q3)]) [(1,_),(4,_)] (fun q3=>(b5,.cells (fL (s.ls.getD j default)).toArray 83 (0,0))::xp b1 s:: []) (fun q3=>q3=(((s.ls.getD j default).sh&&(!cG (s.ls.getD j default).rd 16|| !cG (s.ls.getD j default).wr 16))||(!(s.ls.getD j default).sh&&(decide ((s.ls.getD j default).rd≠0)||decide ((s.ls.getD j default).wr≠0))))) cm ?_ ?_
  ·refine J4 ?_;refine LM.bu (t:=77) rfl (fun kg=>?_) (fun kg=>?_)
   ·refine J4 ?_;refine cE Tryz.func48 rfl (fun w hm hc hg=>de _ _ w) ?_;refine J2 ?_;refine LM.bu (t:=82) rfl (fun gH=>?_) (fun gH=>?_)
    ·refine cf ?_;refine LM.c9 (t:=89) rfl rfl rfl ?_;refine dB ?_;refine mK (_) ?_
     · (simp [h5,h6,h8,iV,kg,gH,-List.getD_eq_getElem?_getD];done)
    refine J4 ?_;refine cE Tryz.func48 rfl (fun w hm hc hg=>de _ _ w) ?_;refine J4 ?_;refine LM.bu (t:=89) rfl (fun oq=>?_) (fun oq=>?_)
    ·refine J3 ?_;refine LM.c9 (t:=89) rfl rfl rfl ?_;refine dB ?_;refine mK (_) ?_
     · (simp [h5,h6,h8,iV,kg,gH,oq,-List.getD_eq_getElem?_getD];done)
    refine J5 ?_;refine LM.bu (t:=93) rfl (fun jw=>?_) (fun jw=>?_)
    ·refine J5 ?_;refine LM.ar (t:=97) rfl (fun wW=>?_) (fun wW=>?_)
     ·refine J7 ?_;refine mK (_) ?_
      · (simp_all [-List.getD_eq_getElem?_getD];done)
     refine J8 ?_;refine mK (_) ?_
     · (simp_all [-List.getD_eq_getElem?_getD];done)
    refine J3 ?_;refine LM.c9 (t:=93) rfl rfl rfl ?_;refine J7 ?_;refine mK (_) ?_
    · (simp [h5,h6,h8,iV,kg,gH,oq,jw,-List.getD_eq_getElem?_getD];done)
   refine J4 ?_;refine LM.c9 (t:=77) rfl rfl rfl ?_;refine cK ?_;refine LM.bu (t:=93) rfl (fun tB=>?_) (fun tB=>?_)
   ·refine J5 ?_;refine LM.ar (t:=97) rfl (fun pC=>?_) (fun pC=>?_)
    ·refine J7 ?_;refine mK (_) ?_
     · (simp [h5,h6,h8,iV,kg,tB,pC,-List.getD_eq_getElem?_getD];done)
    refine J8 ?_;refine mK (_) ?_
    · (simp [h5,h6,h8,iV,kg,tB,pC,-List.getD_eq_getElem?_getD];done)
   refine J3 ?_;refine LM.c9 (t:=93) rfl rfl rfl ?_;refine J7 ?_;refine mK (_) ?_
   · (simp_all [-List.getD_eq_getElem?_getD];done)
  rintro q3 CG;change QM _ _ _ _ _ ((b5,.cells (fL (s.ls.getD j default)).toArray 83 (0,0))::xp b1 s:: []) _ _ _;refine J1 ?_;refine af.aW rfl (fun sX=>?_) (fun sX=>?_)
  ·refine dB ?_;refine qL Tryz.results21 rfl fun w' aq ab aI=>?_;refine ⟨?_,ab⟩;rw [E1 (s:=s.C) (DV (xs:=s.ls) (i:=j) default om (by rw [Ez,←CG,sX];simp))];rfl
  refine J8 ?_;refine aK (j+1) ?_ ?_
  · exact⟨by omega,by rw [vt default om,H8,Bool.true_and,Ez,←jK,←CG,iV,sX];rfl⟩
  · omega
 refine cK ?_;refine af.aS (α:=Nat) (fun k=>[(6,.int .i64 (k:Nat))]) [(1,_)] (fun k=>xp b1 s:: []) (fun k=>k≤s.ps.length∧((s.ps.map mJ.c).take k).any (mR s.ls (s.pn:Nat))=false) (fun k=>s.ps.length-k) (0) cm aX ⟨Nat.zero_le _,rfl⟩ ?_;rintro k ⟨hk,Fb⟩;change af _ _ _ _ _ _ _ (xp b1 s:: []) _ _ _;refine cf ?_;refine af.aj rfl (fun Cw=>?_) (fun Cw=>?_)
 ·have ph:s.ps.getD k default∈s.ps:=List.mem_of_getElem? (aQ default om);refine J5 ?_;refine af.draw [(0,0),(1,1),(2,0),(3,0),(4,1),(5,0),(6,1),(7,0),(8,1),(9,0),(10,2),(11,0),(12,0),(13,0),(14,0),(15,0)] kr kr ?_;refine J4 ?_;refine LD.eT rfl rfl (dX aA ir Tryz.isAgg117 Tryz.sizeOf117 rfl cR id) ?_;refine J5 ?_;refine dE rfl rfl Tryz.func49 rfl (fun w hm hc hg=>sT (s.pn:Nat) w (hI.ops _ ph).1 ((hI.ops _ ph).2.ext hc) A1 (hl.ext hc)) ?_;refine gw ?_;refine af.aj rfl (fun wV=>?_) (fun wV=>?_)
  ·refine dB ?_;refine qL Tryz.results21 rfl fun w' aq ab aI=>?_;refine ⟨?_,ab⟩;rw [NF (s:=s.C) (Tv (xs:=s.C.ps) (i:=k) default (by show k<(s.ps.map mJ.c).length;omega) (by show mR s.ls (s.ps.map mJ.c).length ((s.ps.map mJ.c).getD k default)=true;rw [ku,ks];unfold mR;rw [←Cp];exact decide_eq_true wV))];rfl
  refine J8 ?_;refine aK (k+1) ?_ ?_
  · exact⟨by omega,by rw [fX default (by rw [ks];omega),Fb,Bool.false_or,ku];unfold mR;simpa using wV⟩
  · omega
 refine dB ?_;refine qL Tryz.results21 rfl fun w' aq ab aI=>?_;refine ⟨?_,ab⟩;have SF:i=s.gs.length:=om;have rp:j=s.ls.length:=om;have hkp:k=s.ps.length:=om;rw [SF,List.take_length] at hag;rw [rp,List.take_length] at H8;rw [hkp,List.take_of_length_le om] at Fb;rw [jf,hhd];show Value.bool true=Value.bool (true&&(s.gs.all (fun n=>cG n 16)&&(s.ls.all wQ&& !(s.ps.map mJ.c).any (mR s.ls (s.ps.map mJ.c).length))));rw [hag,H8,ks,←Cp,Fb];rfl
def ZP (e:fu):List Value:=[U e.tm,.int .i64 e.k,.int .i64 e.t,.int .i64 e.l,.int .i64 e.n]
structure WoK (s:eL) (x:ck):Prop where
  r:x.rd.length=s.ln
  w:x.wr.length=s.ln
  t:x.ts.length≤64
  l:s.ln≤8
  h:x.sh=s.ls.map (·.sh)
  c:x.cores=s.cr
  n:s.ln=s.ls.length
def Ha (t:iN):List Value:=[.int .i64 t.id,.int .i64 t.pr,.int .i64 t.gr,.int .i64 t.co,.int .i64 t.pc,.int .i64 t.lf,.int .i64 t.st,U t.un,.int .i64 t.lk,.int .i64 t.we,.int .i64 t.ef,.int .i64 t.ti]
abbrev MC (n0 b:Nat) (x:aY) (m:aa):Prop:=gE n0 b x (x.wt.map eD) m
theorem C8:QKd MC:=⟨gE.ge,gE.bW,gE.mono⟩
structure sD where
  bc:Nat
  bg:Nat
  bs:List Nat
  ai:Option Addr
  ni:Nat
  ci:Nat
  al:Option Addr
  nl:Nat
  cl:Nat
  ag:Option Addr
  ng:Nat
  cg:Nat
  ax:Option Addr
  nx:Nat
  cx:Nat
  DE:Option Addr
  nt:Nat
  ct:Nat
  av:Option Addr
  nv:Nat
  cv:Nat
  ae:Option Addr
  ne:Nat
  ce:Nat
  mi:aa
  ml:aa
  mg:aa
  mx:aa
  mt:aa
  mv:aa
  me:aa
  mc:aa
  mq:aa
abbrev uH (b:Nat) (s:eL) (now:BitVec 64) (P:sD):Nat×Obj:=
  (b,.cells #[.int .i64 s.cr,.int .i64 s.gr,.slice s.ga s.gn s.gc,.slice s.la s.ln s.lc,.slice s.pa s.pn s.pc,U now,.pointer (some ⟨P.bc,0,none⟩),.slice P.ai P.ni P.ci,.slice P.al P.nl P.cl,.slice P.ag P.ng P.cg,.pointer (some ⟨P.bg,0,none⟩),.slice P.DE P.nt P.ct,.slice P.av P.nv P.cv,.slice P.ae P.ne P.ce] 49 (0,0))
abbrev az (b:Nat) (s:eL) (now:BitVec 64) (P:sD):aa:=uH b s now P::gR P.bg P.ax P.nx P.cx::(P.mi++(P.ml++(P.mg++(P.mx++(P.mt++(P.mv++(P.me++(P.mc++P.mq))))))))
abbrev zJ (b:Nat) (s:eL) (now:BitVec 64) (P:sD) (mx mt mc mq:aa):aa:=uH b s now P::gR P.bg P.ax P.nx P.cx::(P.mi++(P.ml++(P.mg++(mx++(mt++(P.mv++(P.me++(mc++mq))))))))
structure fN (n0 b:Nat) (s:eL) (x:aC) (P:sD):Prop where
  ni:P.ni=x.idle.length
  si:Sl fI 3 1 n0 x.idle (.slice P.ai P.ni P.ci) P.mi
  nl:P.nl=x.lk.length
  bl:P.bs.length=x.lk.length
  sl:Sl fP 54 1 n0 P.bs (.slice P.al P.nl P.cl) P.ml
  sq:jT MC n0 P.bs x.lk P.mq
  ng:P.ng=x.gp.length
  sg:Sl fI 3 1 n0 x.gp (.slice P.ag P.ng P.cg) P.mg
  nx:P.nx=64
  gl:x.g.length=64
  sx:Sl fU 41 1 n0 x.g (.slice P.ax P.nx P.cx) P.mx
  nt:P.nt=x.ts.length
  st:Sl Ha 66 12 n0 x.ts (.slice P.DE P.nt P.ct) P.mt
  nv:P.nv=x.v.length
  sv:Sl fU 41 1 n0 x.v (.slice P.av P.nv P.cv) P.mv
  ne:P.ne=x.ev.length
  se:Sl ZP 72 5 n0 x.ev (.slice P.ae P.ne P.ce) P.me
  sc:RcM n0 P.bc x.cs P.mc
  hb:n0≤b
  hg:n0≤P.bg
  hs:x.s=s.C
def dY (n0 b:Nat) (s:eL) (x:aC) (m:aa):Prop:=∃P,m=az b s x.now P∧fN n0 b s x P
theorem fN.ge {n0 b:Nat} {s:eL} {x:aC} {P:sD} {y:BitVec 64} (h:fN n0 b s x P):∀p∈az b s y P,n0≤p.1:=by
  intro p hp;simp only [List.mem_cons,List.mem_append] at hp;rcases hp with rfl|rfl|hp|hp|hp|hp|hp|hp|hp|hp|hp
  · exact h.hb
  · exact h.hg
  · exact h.si.ge p hp
  · exact h.sl.ge p hp
  · exact h.sg.ge p hp
  · exact h.sx.ge p hp
  · exact h.st.ge p hp
  · exact h.sv.ge p hp
  · exact h.se.ge p hp
  · exact h.sc.ge p hp
  · exact h.sq.ge C8 p hp
theorem dY.ge {n0 b:Nat} {s:eL} {x:aC} {m:aa} (h:dY n0 b s x m):∀p∈m,n0≤p.1:=by obtain ⟨P,rfl,h⟩:=h;exact h.ge
theorem dY.bW {n0 b:Nat} {s:eL} {x:aC} {m:aa} (h:dY n0 b s x m):∀p∈m,bW p.2=false:=by
  obtain ⟨P,rfl,h⟩:=h;intro p hp;simp only [List.mem_cons,List.mem_append] at hp;rcases hp with rfl|rfl|hp|hp|hp|hp|hp|hp|hp|hp|hp
  · rfl
  · rfl
  · exact h.si.bW p hp
  · exact h.sl.bW p hp
  · exact h.sg.bW p hp
  · exact h.sx.bW p hp
  · exact h.st.bW p hp
  · exact h.sv.bW p hp
  · exact h.se.bW p hp
  · exact h.sc.bW p hp
  · exact h.sq.bW C8 p hp
theorem fN.m {n0 b:Nat} {s:eL} {x:aC} {P:sD} {y:BitVec 64} (h:fN n0 b s x P) (hn:x.now=y:=by first|rfl|assumption):dY n0 b s x (az b s y P):=⟨P,by rw [hn],h⟩
theorem dY.b {n0 b:Nat} {s:eL} {x:aC} {m:aa} (h:dY n0 b s x m):fS m b:=by obtain ⟨P,rfl,-⟩:=h;exact ee
theorem aL {b k:Nat} {s:eL} {y:BitVec 64} {m:aa} {P:sD} (h0:fS m b:=by first|exact ee|assumption) (hg:k≤P.bg∨fS m P.bg:=by(try dsimp only);assumption)
    (hi:cZ m k P.mi:=by(try dsimp only);assumption)
    (hl:cZ m k P.ml:=by(try dsimp only);assumption)
    (hgg:cZ m k P.mg:=by(try dsimp only);assumption)
    (hx:cZ m k P.mx:=by(try dsimp only);assumption)
    (ht:cZ m k P.mt:=by(try dsimp only);assumption)
    (hv:cZ m k P.mv:=by(try dsimp only);assumption)
    (he:cZ m k P.me:=by(try dsimp only);assumption)
    (hc:cZ m k P.mc:=by(try dsimp only);assumption)
    (hq:cZ m k P.mq:=by(try dsimp only);assumption):
    cZ m k (az b s y P):=fun p hp=>by
  rcases List.mem_cons.1 hp with rfl|hp
  · exact .inr h0
  rcases List.mem_cons.1 hp with rfl|hp
  · exact hg
  exact bZ hi (bZ hl (bZ hgg (bZ hx (bZ ht (bZ hv (bZ he (bZ hc hq))))))) p hp
theorem bM {b k:Nat} {s:eL} {y:BitVec 64} {m:aa} {P:sD} (h:cZ m k (az b s y P)):(k≤P.bg∨fS m P.bg)∧cZ m k P.mi∧cZ m k P.ml∧cZ m k P.mg∧cZ m k P.mx∧cZ m k P.mt∧cZ m k P.mv∧cZ m k P.me∧cZ m k P.mc∧cZ m k P.mq:=
  ⟨h (gR P.bg P.ax P.nx P.cx) (by simp),fun p hp=>h p (by simp [hp]),fun p hp=>h p (by simp [hp]),fun p hp=>h p (by simp [hp]),fun p hp=>h p (by simp [hp]),fun p hp=>h p (by simp [hp]),fun p hp=>h p (by simp [hp]),fun p hp=>h p (by simp [hp]),fun p hp=>h p (by simp [hp]),fun p hp=>h p (by simp [hp])⟩
theorem zT {n0 b:Nat} {s:eL} {x:aC} {P:sD} {m M:aa} {u0:Value} {w w':World} (h:fN n0 b s x P) (hm:Mem w' M) (hs:aT M (az b s x.now P++ [])) (hc:cX (fS m) w w') (hn:cZ m w.heap.size (az b s x.now P)):
    eI m (fun u m'=>u=u0∧dY n0 b s x m') w u0 w':=aZ ⟨rfl,P,rfl,h⟩ hm hs hc hn
theorem tL {n0:Nat} {bs:List Nat} {x:aC} {mm:aa} (h:jT MC n0 bs x.lk mm) {l:Nat} (hl:l<x.lk.length):∃(bI:Option Addr) (nh aG:Nat) (bR:Option Addr) (nw aO bl:Nat) (mh mw rest:aa),nh=(gL x l).ho.length∧nw=(gL x l).wt.length∧Sl td 68 3 n0 (gL x l).ho (.slice bI nh aG) mh∧Sl td 68 3 n0 ((gL x l).wt.map eD) (.slice bR nw aO) mw∧
    mm.Perm ((dA (bs.getD l default) (gL x l).sh (gL x l).sl bI nh aG bR nw aO (gL x l).tr bl (gL x l).di::(mh++(mw++ [])))++rest):=by
  obtain ⟨M,rfl,h1,h2,h3⟩:=h;obtain ⟨bI,nh,aG,bR,nw,aO,bl,mh,mw,ml,e,iL,jP,eX,gk,-,-⟩:=h3 l hl;refine ⟨bI,nh,aG,bR,nw,aO,bl,mh,mw,ml++(M.eraseIdx l).flatten,iL,by rw [jP,List.length_map],eX,gk,?_⟩;have:=mj M l om;rw [e] at this;refine this.trans (.of_eq ?_);rw [List.append_nil,List.cons_append,List.cons_append,List.append_assoc,List.append_assoc,List.append_assoc]
theorem aeZ {L:List Wt} {i:Nat} (h:i<L.length):((L.map eD).getD i default).t=(L.getD i default).who:=by
  rw [List.getD_eq_getElem?_getD,List.getD_eq_getElem?_getD,List.getElem?_map,List.getElem?_eq_getElem h];rfl
theorem LA {w:World} {b:Nat} {s:eL} {y:BitVec 64} {P:sD} {L rest:aa} (hM:Mem w (az b s y P)) (hp:P.mq.Perm (L++rest)):Mem w (uH b s y P::(P.ml++L)):=by
  have h1:Mem w (uH b s y P::(P.ml++(P.mq++ []))):=aT.mem aX w hM;rw [List.append_nil] at h1;refine (h1.perm ((hp.append_left P.ml).cons _)).sub (List.Sublist.cons_cons _ ?_);rw [←List.append_assoc];exact List.sublist_append_left _ _
def Wl (n0 b:Nat) (s:eL) (y:BitVec 64) (x:aC) (P:sD) (u:Value) (m':aa):Prop:=u= .tuple #[]∧∃ad n cap me,m'=az b s y {P with ae:=ad,ne:=n,ce:=cap,me:=me}∧fN n0 b s x {P with ae:=ad,ne:=n,ce:=cap,me:=me}
theorem sF {n0 b:Nat} {s:eL} {x:aC} {P:sD} (k t l n:Int) (w:World) (h:fN n0 b s x P) (z4:x.ev.length≤1000000000000) (cb:n0≤w.heap.size) (hM:Mem w (az b s x.now P)):aJ Tryz.prog 55 #[.pointer (some ⟨b,0,none⟩),.int .i64 k,.int .i64 t,.int .i64 l,.int .i64 n] w (eI (az b s x.now P) (Wl n0 b s x.now (ba x k t l n) P) w):=by
 have eb:=h.ne;have hse:=h.se;obtain ⟨ig,ii,il,ip,ix,it,iv,ie,ic,iq⟩:=bM (ay (az b s x.now P) w.heap.size);refine aJ.au Tryz.func55 rfl Tryz.ntmps55 rfl (az b s x.now P++ []) ((fS (az b s x.now P))) aM ?_;refine af.keep (uH b s x.now P:: []) (fun _=>True) (.one 0 0 (.one 1 0 (.one 2 0 (.one 3 0 (.one 4 1 (.one 5 0 (.one 6 0 (.one 7 0 (.one 8 1 (.one 9 0 (.one 10 0 (.one 11 0 (.one 12 0 (.one 13 0 (.one 14 2 (.one 15 2 (.one 16 0 (.one 17 0 (.last 18))))))))))))))))))) kr kr aX (fun _ _=>trivial) ?_;refine gw ?_;refine KD.val rfl rfl (aD (cs:=(ZP ⟨x.now,k,t,l,n⟩).toArray) rfl kr) ?_;refine J1 ?_;refine LM.single Tryz.underlying47 Tryz.sizeOf72 Tryz.zeroValue72 rfl rfl rfl rfl rfl (fun b24 ajw=>?_);refine J3 ?_;refine LM.app (a:=(⟨x.now,k,t,l,n⟩:fu)) Tryz.underlying47 Tryz.typeInfo72 rfl rfl rfl rfl rfl rfl rfl aA (by rfl) ir (by intro _ u hu;simp [ZP] at hu;(repeat (first|(rcases hu with rfl|hu)|subst hu|rfl))) (by first|exact Nat.le_refl _|omega) (ao aA) (by first|omega|(unfold maxLen;omega)) (by simp only [Tryz.t72];omega) (fun abQ n25 Yo m25 akR abM Lw=>?_);have ahZ:=ak aA Lw;refine J4 ?_;refine KD.last rfl ?_;refine LM.st Tryz.sizeOf47 rfl rfl rfl eA rfl tC ?_;refine J1 ?_;refine QM.qn ?_;refine QM.leave (.inr rfl) [] Tryz.results55 rfl ?_;intro w' aq ab aI;exact aZ (m':=az b s x.now {P with ae:=abQ,ne:=n25,ce:=Yo,me:=m25}) ⟨rfl,_,_,_,_,rfl,{h with ne:=(by show n25=(x.ev++ [_]).length;rw [List.length_append,List.length_singleton];omega),se:=abM}⟩ aq aX ab aL
theorem tc {n0 b:Nat} {s:eL} {x:aC} {P:sD} {y:BitVec 64} (hn:x.now=y) (k t l n:Int) (w:World) (h:fN n0 b s x P) (z4:x.ev.length≤1000000000000) (cb:n0≤w.heap.size) (hM:Mem w (az b s y P)):
    aJ Tryz.prog 55 #[.pointer (some ⟨b,0,none⟩),.int .i64 k,.int .i64 t,.int .i64 l,.int .i64 n] w (eI (az b s y P) (Wl n0 b s y (ba x k t l n) P) w):=by
  subst hn;exact sF k t l n w h z4 cb hM
theorem bV {n0 b:Nat} {s:eL} {x:aC} {m:aa} (k t l n:Int) (w:World) (h:dY n0 b s x m) (z4:x.ev.length≤1000000000000) (cb:n0≤w.heap.size) (hM:Mem w m):
    aJ Tryz.prog 55 #[.pointer (some ⟨b,0,none⟩),.int .i64 k,.int .i64 t,.int .i64 l,.int .i64 n] w (eI m (fun u m'=>u= .tuple #[]∧dY n0 b s (ba x k t l n) m') w):=by
  obtain ⟨P,rfl,h⟩:=h;exact(sF k t l n w h z4 cb hM).mono (fun u w' hU=>hU.imp (fun u m' ⟨e,_,_,_,_,e2,h2⟩=>⟨e,_,e2,h2⟩))
theorem s9 {n0 b:Nat} {s:eL} {x:aC} {m:aa} (w:World) (h:dY n0 b s x m) (uf:x.ts.length≤64) (hM:Mem w m):aJ Tryz.prog 29 #[.pointer (some ⟨b,0,none⟩)] w (fun v w'=>v= .bool (iK x)∧Ext w w'):=by
 obtain ⟨P,rfl,h⟩:=h;have rP:=h.nt;have er:=h.st;refine aJ.au Tryz.func29 rfl Tryz.ntmps29 rfl (az b s x.now P++ []) (no) aM ?_;refine xW ?_;refine af.aS (α:=Nat) (fun i=>[(3,.int .i64 (jy (x.ts.take i):Nat)),(4,.int .i64 (i:Nat))]) [(0,_)] (fun i=>az b s x.now P++ []) (fun i=>i≤x.ts.length) (fun i=>x.ts.length-i) (0) ⟨(by first|rfl|exact lk rfl (congrArg (Value.int .i64) (rW om aA))|exact lk rfl (congrArg (Value.int .i64) (vi om aA))),ka,rfl,trivial⟩ aX (Nat.zero_le _) ?_;rintro i hi;change af _ _ _ _ _ _ _ (az b s x.now P++ []) _ _ _;have H8:=I0 (x.ts.take i);have KL:=List.length_take_le i x.ts;refine cK ?_;refine af.aj rfl (fun h1=>?_) (fun h1=>?_)
 ·refine gw ?_;refine LM.rd (aH (j:=6) aA ir Tryz.isAgg3 rfl rfl (by first|exact bF om|exact aQ default cL) rfl (by rfl)) ?_;refine J3 ?_;refine af.aj rfl (fun h2=>?_) (fun h2=>?_)
  ·refine cK ?_;refine QM.cT (i+1) ⟨(by first|rfl|exact lk rfl (congrArg (Value.int .i64) (rW om aA))|exact lk rfl (congrArg (Value.int .i64) (vi om aA))),ka,rfl,trivial⟩ aX (fun _ h=>h) ?_ ?_
   · omega
   · omega
  refine J8 ?_;refine QM.cT (i+1) ⟨(by first|rfl|exact lk rfl (congrArg (Value.int .i64) (rW om aA))|exact lk rfl (congrArg (Value.int .i64) (vi om aA))),ka,rfl,trivial⟩ aX (fun _ h=>h) ?_ ?_
  · omega
  · omega
 refine cf ?_;refine LM.ar (t:=27) rfl (fun h3=>?_) (fun h3=>?_)
 ·refine cK ?_;refine qL Tryz.results29 rfl fun w' aq ab aI=>?_;have fp:i=x.ts.length:=om;subst fp;rw [List.take_length] at*;refine ⟨?_,ab⟩;show Value.bool _=_;unfold iK;rw [decide_eq_true (show jy x.ts<16 by omega),Bool.true_and,rP];exact congrArg Value.bool (decide_eq_decide.2 om)
 refine dB ?_;refine qL Tryz.results29 rfl fun w' aq ab aI=>?_;have fp:i=x.ts.length:=om;subst fp;rw [List.take_length] at*;refine ⟨?_,ab⟩;show Value.bool _=_;unfold iK;rw [decide_eq_false (show¬jy x.ts<16 by omega)];rfl
theorem vp {n0 b:Nat} {s:eL} {x:aC} {m:aa} (l:Nat) (t:Int) (w:World) (h:dY n0 b s x m) (hl:l<x.lk.length) (hx:(gL x l).ho.length≤900) (hM:Mem w m):aJ Tryz.prog 101 #[.pointer (some ⟨b,0,none⟩),.int .i64 (l:Nat),.int .i64 t] w (fun v w'=>v= .int .i64 (dD (gL x l) t)∧Ext w w'):=by
 obtain ⟨P,rfl,h⟩:=h;have uN:=h.nl;have sY:=h.bl;have gh:=h.sl;obtain ⟨bI,nh,aG,bR,nw,aO,bl,mh,mw,rest,iL,jP,eX,gk,hq⟩:=tL h.sq hl;refine aJ.au Tryz.func101 rfl Tryz.ntmps101 rfl (uH b s x.now P::(P.ml++(dA (P.bs.getD l default) (gL x l).sh (gL x l).sl bI nh aG bR nw aO (gL x l).tr bl (gL x l).di::(mh++(mw++ []))))) (no) (LA hM hq) ?_;refine gw ?_;refine LM.rd (bw aA ir Tryz.isAgg54 rfl rfl (by first|exact bF om|exact aQ default cL) (by rfl)) ?_;refine cf ?_;refine af.aS (α:=Nat) (fun i=>[(8,.int .i64 (i:Nat))]) [(2,_),(7,_)] (fun i=>uH b s x.now P::(P.ml++(dA (P.bs.getD l default) (gL x l).sh (gL x l).sl bI nh aG bR nw aO (gL x l).tr bl (gL x l).di::(mh++(mw++ []))))) (fun i=>i≤(gL x l).ho.length∧∀j,j<i→((gL x l).ho.getD j default).t≠t) (fun i=>(gL x l).ho.length-i) (0) cm aX ⟨Nat.zero_le _,fun j hj=>absurd hj (Nat.not_lt_zero j)⟩ ?_;rintro i ⟨hi,fH⟩;change af _ _ _ _ _ _ _ (uH b s x.now P::(P.ml++(dA (P.bs.getD l default) (gL x l).sh (gL x l).sl bI nh aG bR nw aO (gL x l).tr bl (gL x l).di::(mh++(mw++ []))))) _ _ _;refine cK ?_;refine af.aj rfl (fun h1=>?_) (fun h1=>?_)
 ·refine gw ?_;refine LM.rd (aH (j:=0) aA ir Tryz.isAgg3 rfl rfl (by first|exact bF om|exact aQ default cL) rfl (by rfl)) ?_;refine J4 ?_;refine af.aj rfl (fun h2=>?_) (fun h2=>?_)
  ·refine ud ?_;refine LM.rd (aH (j:=2) aA ir Tryz.isAgg4 rfl rfl (by first|exact bF om|exact aQ default cL) rfl (by rfl)) ?_;refine J2 ?_;refine af.aW rfl (fun h3=>?_) (fun h3=>?_)
   ·refine cK ?_;refine LM.bu (t:=48) rfl (fun h4=>?_) (fun h4=>?_)
    ·refine J6 ?_;refine LM.sp 48 rfl rfl rfl ?_;refine J3 ?_;refine LM.rd (aH (j:=1) aA ir Tryz.isAgg3 rfl rfl (by first|exact bF om|exact aQ default cL) rfl (by rfl)) ?_;refine J4 ?_;refine af.aj rfl (fun h5=>?_) (fun h5=>?_)
     ·refine Fj ?_;refine qL Tryz.results101 rfl fun w' aq ab aI=>?_;obtain ⟨e1,e2⟩:=rV (L:=gL x l) fH om h2;refine ⟨?_,ab⟩;show Value.int .i64 _=_;unfold dD;rw [if_pos e1,e2];simp only [h1,h2,h3,h4,h5, *] <;>simp_all
     refine lg ?_;refine qL Tryz.results101 rfl fun w' aq ab aI=>?_;obtain ⟨e1,e2⟩:=rV (L:=gL x l) fH om h2;refine ⟨?_,ab⟩;show Value.int .i64 _=_;unfold dD;rw [if_pos e1,e2];simp only [h1,h2,h3,h4,h5, *] <;>simp_all
    refine J27 ?_;refine qL Tryz.results101 rfl fun w' aq ab aI=>?_;obtain ⟨e1,e2⟩:=rV (L:=gL x l) fH om h2;refine ⟨?_,ab⟩;show Value.int .i64 _=_;unfold dD;rw [if_pos e1,e2];simp only [h1,h2,h3,h4, *] <;>simp_all
   refine cf ?_;refine LM.bu (t:=48) rfl (fun h6=>?_) (fun h6=>?_)
   ·refine J6 ?_;refine LM.sp 48 rfl rfl rfl ?_;refine J3 ?_;refine LM.rd (aH (j:=1) aA ir Tryz.isAgg3 rfl rfl (by first|exact bF om|exact aQ default cL) rfl (by rfl)) ?_;refine J4 ?_;refine af.aj rfl (fun h7=>?_) (fun h7=>?_)
    ·refine Fj ?_;refine qL Tryz.results101 rfl fun w' aq ab aI=>?_;obtain ⟨e1,e2⟩:=rV (L:=gL x l) fH om h2;refine ⟨?_,ab⟩;show Value.int .i64 _=_;unfold dD;rw [if_pos e1,e2];simp only [h1,h2,h3,h6,h7, *] <;>simp_all
    refine lg ?_;refine qL Tryz.results101 rfl fun w' aq ab aI=>?_;obtain ⟨e1,e2⟩:=rV (L:=gL x l) fH om h2;refine ⟨?_,ab⟩;show Value.int .i64 _=_;unfold dD;rw [if_pos e1,e2];simp only [h1,h2,h3,h6,h7, *] <;>simp_all
   refine J27 ?_;refine qL Tryz.results101 rfl fun w' aq ab aI=>?_;obtain ⟨e1,e2⟩:=rV (L:=gL x l) fH om h2;refine ⟨?_,ab⟩;show Value.int .i64 _=_;unfold dD;rw [if_pos e1,e2];simp only [h1,h2,h3,h6, *] <;>simp_all
  refine J8 ?_;refine aK (i+1) ?_ ?_
  · exact⟨by omega,fun j hj=>by rcases Nat.lt_or_ge j i with q|q;exact fH j q;rw [show j=i by omega];assumption⟩
  · omega
 refine dB ?_;refine qL Tryz.results101 rfl fun w' aq ab aI=>?_;refine ⟨?_,ab⟩;show Value.int .i64 0=_;unfold dD;rw [if_neg (by rw [TU (L:=gL x l) (fun j hj=>fH j om)];simp)]
theorem pH {n0 b:Nat} {s:eL} {x:aC} {m:aa} (l:Nat) (w:World) (h:dY n0 b s x m) (hl:l<x.lk.length) (hx:(gL x l).ho.length≤900) (hM:Mem w m):aJ Tryz.prog 140 #[.pointer (some ⟨b,0,none⟩),.int .i64 (l:Nat)] w (fun v w'=>v=U (rI (gL x l))∧Ext w w'):=by
 obtain ⟨P,rfl,h⟩:=h;have uN:=h.nl;have sY:=h.bl;have gh:=h.sl;obtain ⟨bI,nh,aG,bR,nw,aO,bl,mh,mw,rest,iL,jP,eX,gk,hq⟩:=tL h.sq hl;refine aJ.au Tryz.func140 rfl Tryz.ntmps140 rfl (uH b s x.now P::(P.ml++(dA (P.bs.getD l default) (gL x l).sh (gL x l).sl bI nh aG bR nw aO (gL x l).tr bl (gL x l).di::(mh++(mw++ []))))) (no) (LA hM hq) ?_;refine Fj ?_;refine LM.rd (bw aA ir Tryz.isAgg54 rfl rfl (by first|exact bF om|exact aQ default cL) (by rfl)) ?_;refine cf ?_;refine af.aS (α:=Nat) (fun i=>[(5,U (jM (((gL x l).ho.take i).map (·.t)))),(7,.int .i64 (i:Nat))]) [(6,_)] (fun i=>uH b s x.now P::(P.ml++(dA (P.bs.getD l default) (gL x l).sh (gL x l).sl bI nh aG bR nw aO (gL x l).tr bl (gL x l).di::(mh++(mw++ []))))) (fun i=>i≤(gL x l).ho.length) (fun i=>(gL x l).ho.length-i) (0) ⟨(by first|exact lk rfl (by rw [List.take_zero];rfl)|exact lk rfl (by rw [g9 default om,xg])),ka,rfl,trivial⟩ aX (Nat.zero_le _) ?_;rintro i hi;change af _ _ _ _ _ _ _ (uH b s x.now P::(P.ml++(dA (P.bs.getD l default) (gL x l).sh (gL x l).sl bI nh aG bR nw aO (gL x l).tr bl (gL x l).di::(mh++(mw++ []))))) _ _ _;refine cK ?_;refine af.aj rfl (fun h1=>?_) (fun h1=>?_)
 ·refine gw ?_;refine LM.rd (aH (j:=0) aA ir Tryz.isAgg3 rfl rfl (by first|exact bF om|exact aQ default cL) rfl (by rfl)) ?_;refine cE Tryz.func149 rfl (fun w hm hc hg=>pN _ _ w) ?_;refine J9 ?_;refine QM.cT (i+1) ⟨(by first|exact lk rfl (by rw [List.take_zero];rfl)|exact lk rfl (by rw [g9 default om,xg])),ka,rfl,trivial⟩ aX (fun _ h=>h) ?_ ?_
  · omega
  · omega
 refine cK ?_;refine qL Tryz.results140 rfl fun w' aq ab aI=>?_;have fp:i=(gL x l).ho.length:=om;subst fp;rw [List.take_length];exact⟨rfl,ab⟩
theorem vF {n0 b:Nat} {s:eL} {x:aC} {m:aa} (l:Nat) (w:World) (h:dY n0 b s x m) (hl:l<x.lk.length) (hx:(gL x l).ho.length≤900) (hx8:(gL x l).wt.length≤8) (hM:Mem w m):aJ Tryz.prog 102 #[.pointer (some ⟨b,0,none⟩),.int .i64 (l:Nat)] w (eI m (fun u m'=>u= .tuple #[]∧dY n0 b s (AG x l) m') w):=by
 obtain ⟨P,rfl,h⟩:=h;have hI:=h;have uN:=h.nl;have sY:=h.bl;have gh:=h.sl;have OR:=h.nx;obtain ⟨ig,ii,il,ip,ix,it,iv,ie,ic,iq⟩:=bM (ay (az b s x.now P) w.heap.size);obtain ⟨bI,nh,aG,bR,nw,aO,bl,mh,mw,rest,iL,jP,eX,gk,hq⟩:=tL h.sq hl;refine aJ.au Tryz.func102 rfl Tryz.ntmps102 rfl (az b s x.now P++ []) ((fS (az b s x.now P))) aM ?_;refine J8 ?_;refine LM.rd (bw aA ir Tryz.isAgg54 rfl rfl (by first|exact bF om|exact aQ default cL) (by rfl)) ?_;refine J9 ?_;refine af.aS (α:=Nat×Gr×aa) (fun ⟨i,g,mg⟩=>[(5,.int .i64 (i:Nat))]) [(0,_),(1,_),(4,_)] (fun ⟨i,g,mg⟩=>uH b s x.now P::gR P.bg P.ax P.nx P.cx::(P.mi++(P.ml++(P.mg++(mg++(P.mt++(P.mv++(P.me++(P.mc++(P.mq++ [])))))))))) (fun ⟨i,g,mg⟩=>i≤(gL x l).wt.length∧g=Gh (gL x l) x.g i∧g.length=64∧Sl fU 41 1 n0 g (.slice P.ax P.nx P.cx) mg∧cZ (az b s x.now P) w.heap.size mg) (fun ⟨i,g,mg⟩=>(gL x l).wt.length-i) ((0,x.g,P.mx)) cm aX ⟨Nat.zero_le _,rfl,h.gl,h.sx,ix⟩ ?_;rintro ⟨i,g,mg⟩ ⟨hi,hg,vc,As,SF⟩;change af _ _ _ _ _ _ _ (uH b s x.now P::gR P.bg P.ax P.nx P.cx::(P.mi++(P.ml++(P.mg++(mg++(P.mt++(P.mv++(P.me++(P.mc++(P.mq++ [])))))))))) _ _ _;have Pc:((gL x l).wt.map eD).length=(gL x l).wt.length:=List.length_map ..;refine J7 ?_;refine LM.eT (fun w hm hc hg=>fF (M:=dA (P.bs.getD l default) (gL x l).sh (gL x l).sl bI nh aG bR nw aO (gL x l).tr bl (gL x l).di::(mh++(mw++ []))) Tryz.isAgg56 rfl rfl w (((hm.pick P.mq).perm hq).sub (List.sublist_append_left _ _))) ?_;refine J4 ?_;refine af.aj rfl (fun h1=>?_) (fun h1=>?_)
 ·refine J4 ?_;refine af.draw [(0,0),(1,0),(2,0),(3,1),(4,0),(5,0),(6,0),(7,1),(8,0),(9,0),(10,0),(11,1),(12,0),(13,0),(14,2),(15,3)] kr kr ?_;refine J7 ?_;refine LD.eT rfl rfl (fun w hm hc hg=>fF (M:=dA (P.bs.getD l default) (gL x l).sh (gL x l).sl bI nh aG bR nw aO (gL x l).tr bl (gL x l).di::(mh++(mw++ []))) Tryz.isAgg56 rfl rfl w (((hm.pick P.mq).perm hq).sub (List.sublist_append_left _ _))) ?_;refine J3 ?_;refine LD.eT rfl rfl (fun w hm hc hg=>aH (M:=dA (P.bs.getD l default) (gL x l).sh (gL x l).sl bI nh aG bR nw aO (gL x l).tr bl (gL x l).di::(mh++(mw++ []))) (j:=0) gk ir Tryz.isAgg3 rfl rfl (by exact aQ default om) rfl (by rfl) w (((hm.pick P.mq).perm hq).sub (List.sublist_append_left _ _))) ?_;refine J2 ?_;refine dE rfl rfl Tryz.func140 rfl (fun w hm hc hg=>pH l w (⟨{P with mx:=mg},rfl,{hI with gl:=vc,sx:=As}⟩:dY n0 b s {x with g:=g} _) hl hx (hm.pick (az b s x.now {P with mx:=mg}))) ?_;refine LD.tail rfl rfl ?_;refine cU Tryz.func142 rfl (fun w hm hc hg=>vd P.bg _ _ w vc OR As (sm hm)) As.bW (ao SF) ?_;rintro u37 OX ⟨rfl,pO⟩ vy;rw [aeZ (show i<(gL x l).wt.length by omega)] at pO;refine J1 ?_;refine QM.qn ?_;refine J7 ?_;refine aK (i+1,Co g ((gL x l).wt.getD i default).who (rI (gL x l)),OX) ?_ ?_
  · exact⟨by omega,by rw [Hz om,←hg],yd vc _ _,pO,ak SF vy⟩
  · (dsimp only;omega)
 refine J4 ?_;refine QM.leave (.inr rfl) [] Tryz.results102 rfl ?_;intro w' aq ab aI;have fp:i=(gL x l).wt.length:=om;subst fp;exact zT (P:= {P with mx:=mg}) (x:=AG x l) {hI with gl:=(by rw [hg] at vc;rw [AR] at vc;exact vc),sx:=(by rw [hg,AR] at As;exact As)} aq aX ab aL
theorem vG {n0 b:Nat} {s:eL} {x:aC} {m:aa} (pr gr we co:Int) (w:World) (h:dY n0 b s x m) (uf:x.ts.length≤64) (hvl:x.v.length≤64) (z4:x.ev.length≤1000000000000) (cb:n0≤w.heap.size) (hM:Mem w m):aJ Tryz.prog 30 #[.pointer (some ⟨b,0,none⟩),.int .i64 pr,.int .i64 gr,.int .i64 we,.int .i64 co] w (eI m (fun u m'=>u= .tuple #[]∧dY n0 b s (oX x pr gr we co) m') w):=by
 obtain ⟨P,rfl,h⟩:=h;have rP:=h.nt;have er:=h.st;have Zx:=h.nv;have VT:=h.sv;obtain ⟨ig,ii,il,ip,ix,it,iv,ie,ic,iq⟩:=bM (ay (az b s x.now P) w.heap.size);refine aJ.au Tryz.func30 rfl Tryz.ntmps30 rfl (az b s x.now P++ []) ((fS (az b s x.now P))) aM ?_;refine XC ?_;refine LM.val (aD (cs:=(Ha (Ej (P.nt:Nat) pr gr we co)).toArray) rfl kr) ?_;refine LM.single Tryz.underlying45 Tryz.sizeOf66 Tryz.zeroValue66 rfl rfl rfl rfl rfl (fun b28 alN=>?_);refine LM.app (a:=Ej (P.nt:Nat) pr gr we co) Tryz.underlying45 Tryz.typeInfo66 rfl rfl rfl rfl rfl rfl rfl aA (by rfl) ir (by intro _ u hu;simp [Ha] at hu;(repeat (first|(rcases hu with rfl|hu)|subst hu|rfl))) (by first|exact Nat.le_refl _|omega) (ao aA) (by first|omega|(unfold maxLen;omega)) (by simp only [Tryz.t66];omega) (fun Rt Zs Mh RE abu KP EE=>?_);have ajE:=ak aA EE;refine J2 ?_;refine LM.st Tryz.sizeOf45 rfl rfl rfl eA rfl tC ?_;refine J9 ?_;refine LM.single Tryz.underlying46 Tryz.sizeOf41 Tryz.zeroValue41 rfl rfl rfl rfl rfl (fun b37 Wx=>?_);refine LM.app (a:=0#64) Tryz.underlying46 Tryz.typeInfo41 rfl rfl rfl rfl rfl rfl rfl aA (by rfl) ir (by intro _ u hu;simp [fU] at hu;(repeat (first|(rcases hu with rfl|hu)|subst hu|rfl))) (by first|exact Nat.le_refl _|omega) (ao aA) (by first|omega|(unfold maxLen;omega)) (by simp only [Tryz.t41];omega) (fun Hv PQ xB TN Q6 Ka ta=>?_);have aa0:=ak aA ta;refine J2 ?_;refine LM.st Tryz.sizeOf46 rfl rfl rfl eA rfl tC ?_;refine LM.mem (aT.mem (M':=az b s x.now {P with DE:=Rt,nt:=Zs,ct:=Mh,av:=Hv,nv:=PQ,cv:=xB,mt:=RE,mv:=TN} ++ []) aX) ?_;refine dB ?_;refine cU Tryz.func66 rfl (fun w hm hc hg=>wg co (P.nt:Nat) 0#64 we w h.sc (Nat.le_trans cb hc.size) (hm.pick P.mc)) h.sc.bW (ao ic) ?_;rintro u48 m48 ⟨rfl,Zf⟩ I2;have i48:=ak ic I2;have xe:dY n0 b s {x with ts:=x.ts++ [Ej x.ts.length pr gr we co],v:=x.v++ [0#64],cs:=dx x.cs co x.ts.length 0#64 we} _:=⟨{P with DE:=Rt,nt:=Zs,ct:=Mh,av:=Hv,nv:=PQ,cv:=xB,mt:=RE,mv:=TN,mc:=m48},rfl,{h with nt:=(by show Zs=(x.ts++ [_]).length;rw [List.length_append,List.length_singleton];omega),nv:=(by show PQ=(x.v++ [_]).length;rw [List.length_append,List.length_singleton];omega),st:=(by rw [rP] at KP;exact KP),sv:=Ka,sc:=(by rw [rP] at Zf;exact Zf)}⟩
 refine J6 ?_;refine cU Tryz.func55 rfl (fun w hm hc hg=>bV 1 (P.nt:Nat) (-1) co w xe z4 (Nat.le_trans cb hc.size) (hm.pick _)) xe.bW (ao aL) ?_;rintro u52 CL ⟨rfl,h52⟩ EC;refine J1 ?_;refine QM.leave (.inr rfl) [] Tryz.results30 rfl ?_;intro w' aq ab aI;exact aZ (m':=CL) ⟨rfl,(by rw [rP] at h52;exact h52)⟩ aq aX ab (ak aL EC)
theorem pX {n0 b:Nat} {s:eL} {x:aC} {m:aa} (t:Nat) (w:World) (h:dY n0 b s x m) (ht:t<x.ts.length) (hv:x.v.length=x.ts.length) (z4:x.ev.length≤1000000000000) (cb:n0≤w.heap.size) (hM:Mem w m):aJ Tryz.prog 60 #[.pointer (some ⟨b,0,none⟩),.int .i64 (t:Nat)] w (eI m (fun u m'=>u= .tuple #[]∧dY n0 b s (fe x t) m') w):=by
 obtain ⟨P,rfl,h⟩:=h;have rP:=h.nt;have er:=h.st;have Zx:=h.nv;have VT:=h.sv;obtain ⟨ig,ii,il,ip,ix,it,iv,ie,ic,iq⟩:=bM (ay (az b s x.now P) w.heap.size);refine aJ.au Tryz.func60 rfl Tryz.ntmps60 rfl (az b s x.now P++ []) ((fS (az b s x.now P))) aM ?_;refine J9 ?_;refine LM.iF ({gT x t with st:=1}) (j:=6) aA ir Tryz.sizeOf3 rfl rfl rfl (by first|exact bF om|exact aQ default cL) rfl (by decide) (by rfl) rfl (ao aA) (fun ly dc dK=>?_)
 try rw [List.set_set] at dc
 have Gb:=ca dK aA;refine dB ?_;refine LM.iF ({gT x t with st:=1,un:=0#64}) (j:=7) aA ir Tryz.sizeOf41 rfl rfl rfl (by first|exact bF om|exact aQ default cL) rfl (by decide) (by rfl) rfl (ao aA) (fun jZ fQ kj=>?_)
 try rw [List.set_set] at fQ
 have H6:=ca kj aA;refine dB ?_;refine LM.iF (KJ (gT x t)) (j:=8) aA ir Tryz.sizeOf3 rfl rfl rfl (by first|exact bF om|exact aQ default cL) rfl (by decide) (by rfl) rfl (ao aA) (fun p9 kk so=>?_)
 try rw [List.set_set] at kk
 have TK:=ca so aA;refine J3 ?_;refine af.draw [(0,0),(1,0),(2,0),(3,1),(4,0),(5,0),(6,0),(7,1),(8,0),(9,0),(10,0),(11,1),(12,0),(13,0),(14,0),(15,0),(16,1),(17,0),(18,0),(19,1),(20,0),(21,0),(22,0),(23,1),(24,0),(25,0),(26,0),(27,1),(28,3)] kr kr ?_;refine dB ?_;refine LD.rd rfl rfl (aH (j:=3) aA ir Tryz.isAgg3 rfl rfl (by first|exact bF om|exact aQ default cL) rfl (by rfl)) ?_;refine J7 ?_;refine LD.rd rfl rfl (bw aA ir Tryz.isAgg41 rfl rfl (by first|exact bF om|exact aQ 0#64 cL) (by rfl)) ?_;refine J7 ?_;refine LD.rd rfl rfl (aH (j:=10) aA ir Tryz.isAgg3 rfl rfl (by first|exact bF om|exact aQ default cL) rfl (by rfl)) ?_;refine LD.tail rfl rfl ?_;refine cU Tryz.func66 rfl (fun w hm hc hg=>wg (gT x t).co (t:Nat) (x.v.getD t 0#64) (gT x t).ef w h.sc (Nat.le_trans cb hc.size) (hm.pick P.mc)) h.sc.bW (ao ic) ?_;rintro u53 m53 ⟨rfl,aaK⟩ WZ;have i53:=ak ic WZ;have xe:dY n0 b s {dk x t (KJ (gT x t)) with cs:=dx x.cs (gT x t).co t (x.v.getD t 0#64) (gT x t).ef} (az b s x.now {P with mt:=p9,mc:=m53}):=⟨_,rfl,{h with nt:=(by show P.nt=(x.ts.set t _).length;rw [List.length_set];exact rP),st:=kk,sc:=aaK}⟩
 refine J1 ?_;refine QM.qn ?_;refine dB ?_;refine LM.rd (aH (j:=3) aA ir Tryz.isAgg3 rfl rfl (by first|exact bF om|exact aQ default cL) rfl (by rfl)) ?_;refine cU Tryz.func55 rfl (fun w hm hc hg=>bV 7 (t:Nat) (-1) (gT x t).co w xe z4 (Nat.le_trans cb hc.size) (hm.pick _)) xe.bW (ao aL) ?_;rintro u64 m64 ⟨rfl,zX⟩ v8;refine J1 ?_;refine QM.leave (.inr rfl) [] Tryz.results60 rfl ?_;intro w' aq ab aI;exact aZ (m':=m64) ⟨rfl,zX⟩ aq aX ab (ak aL v8)
theorem pY {n0 b:Nat} {s:eL} {x:aC} {m:aa} (t:Nat) (w:World) (h:dY n0 b s x m) (hv:t<x.v.length) (cb:n0≤w.heap.size) (hM:Mem w m):aJ Tryz.prog 72 #[.pointer (some ⟨b,0,none⟩),.int .i64 (t:Nat)] w (eI m (fun u m'=>u= .tuple #[]∧dY n0 b s (eC x t) m') w):=by
 obtain ⟨P,rfl,h⟩:=h;have Zx:=h.nv;have VT:=h.sv;obtain ⟨ig,ii,il,ip,ix,it,iv,ie,ic,iq⟩:=bM (ay (az b s x.now P) w.heap.size);refine aJ.au Tryz.func72 rfl Tryz.ntmps72 rfl (az b s x.now P++ []) ((fS (az b s x.now P))) aM ?_;refine J7 ?_;refine cU Tryz.func110 rfl (fun w hm hc hg=>DH (t:Nat) w h.sc (Nat.le_trans cb hc.size) (hm.pick P.mc)) h.sc.bW (ao ic) ?_;rintro u12 m12 ⟨rfl,WT⟩ X6;have i12:=ak ic X6;refine cK ?_;refine af.aj rfl (fun h1=>?_) (fun h1=>?_)
 ·refine J8 ?_;refine LM.iF (uD x.cs t) (j:=0) aA ir Tryz.sizeOf41 rfl rfl rfl (by first|exact bF om|exact aQ 0#64 cL) rfl (by decide) (by rfl) rfl (ao aA) (fun ly dc dK=>?_)
  try rw [List.set_set] at dc
  have Gb:=ca dK aA;refine J1 ?_;refine QM.leave (.inr rfl) [] Tryz.results72 rfl ?_;intro w' aq ab aI;exact zT (P:= {P with mv:=ly,mc:=m12}) (x:=eC x t) {h with nv:=(by rw [Fh h1,List.length_set];exact Zx),sv:=(by rw [Fh h1];exact dc),sc:=WT} aq aX ab aL
 refine J1 ?_;refine QM.leave (.inr rfl) [] Tryz.results72 rfl ?_;intro w' aq ab aI;exact zT (P:= {P with mc:=m12}) (x:=eC x t) {h with nv:=(by rw [Iz h1];exact Zx),sv:=(by rw [Iz h1];exact VT),sc:=WT} aq aX ab aL
end Go.Eng
namespace Go.Eng
open Go Go.RowKit
/-! ### cores -/
theorem oF {q q':Qm} (h:q'.l.map (·.id)=q.l.map (·.id)) (b:Int):cd q' b↔cd q b:=by
  have e:∀(x:Qm),cd x b↔b∈x.l.map (·.id):=fun x=>by
    unfold cd;rw [iG,List.mem_map]
  rw [e,e,h]
structure CI (n k:Nat) (cs:List Qm):Prop where
  wf:rq cs
  id:∀c,c<cs.length→∀a,cd (qg cs c) a→a<(n:Int)
  rn:∀c,c<cs.length→(qg cs c).cI≤(k:Int)+8
theorem CI.mono {n n' k k':Nat} {cs:List Qm} (h:CI n k cs) (hn:n≤n') (hk:k≤k'):CI n' k' cs:=⟨h.wf,fun c hc a ha=>by have:=h.id c hc a ha;omega,fun c hc=>by have:=h.rn c hc;omega⟩
theorem CI.set {n k:Nat} {cs:List Qm} (h:CI n k cs) {c:Nat} (hc:c<cs.length) {q:Qm} (hq:mA q) (he:q.l.map (·.id)=(qg cs c).l.map (·.id)) (hr:q.cI≤(k:Int)+8):CI n k (cs.set c q):=by
  have hl:q.l.length=(qg cs c).l.length:=by have:=congrArg List.length he;rw [List.length_map,List.length_map] at this;exact this
  refine ⟨h.wf.set hc hq (fun j b hj hjc hb q'=>hjc (h.wf.one j c b hj hc q' ((oF he b).1 hb))) (by have:=h.wf.all;omega),fun d hd a ha=>?_,fun d hd=>?_⟩
  · rw [List.length_set] at hd;rw [bK hc] at ha
    by_cases e:c=d
    · rw [if_pos e] at ha;exact h.id c hc a ((oF he a).1 ha)
    · rw [if_neg e] at ha;exact h.id d hd a ha
  · rw [List.length_set] at hd;rw [bK hc]
    by_cases e:c=d
    · rw [if_pos e];exact hr
    · rw [if_neg e];exact h.rn d hd
theorem CI.Yq {n k:Nat} {cs:List Qm} (h:CI n k cs) {c:Nat} (hc:c<cs.length) {a:Int} (ha:0≤a) (hn:¬bO cs a<cs.length) (hf:ez cs<16) (v:BitVec 64) (w:Int) (han:a<n):CI n k (cs.set c (qW (qg cs c) a v w)):=by
  refine ⟨yJ h.wf hc ha hn hf v w,fun d hd b hb=>?_,fun d hd=>?_⟩
  · rw [List.length_set] at hd;rw [bK hc] at hb
    by_cases e:c=d
    · rw [if_pos e,has_add] at hb
      rcases hb with hb|rfl
      · exact h.id c hc b hb
      · exact han
    · rw [if_neg e] at hb;exact h.id d hd b hb
  · rw [List.length_set] at hd;rw [bK hc]
    by_cases e:c=d
    · rw [if_pos e];exact h.rn c hc
    · rw [if_neg e];exact h.rn d hd
theorem CI.add {n k:Nat} {cs:List Qm} (h:CI n k cs) (co a:Int) (v:BitVec 64) (w:Int) (han:a<n):CI n k (dx cs co a v w):=by
  unfold dx
  split
  · next e=>
    unfold ik at e
    split at e
    · cases e
    split at e
    · cases e
    split at e
    · cases e
    exact h.Yq om om aA om v w han
  · exact h
theorem gu (cs:List Qm) (co a:Int) (v:BitVec 64) (w:Int):(dx cs co a v w).length=cs.length:=by unfold dx;split;exact List.length_set;rfl
theorem CI.Vi {n k:Nat} {cs:List Qm} (h:CI n k cs) {a:Int} (ha:bO cs a<cs.length):CI n k (cs.set (bO cs a) (iw (qg cs (bO cs a)) a)):=by
  refine ⟨zR h.wf ha,fun d hd b hb=>?_,fun d hd=>?_⟩
  · rw [List.length_set] at hd;rw [bK ha] at hb
    by_cases e:bO cs a=d
    · rw [if_pos e,oP (h.wf.wf _ ha) (c8 ha)] at hb;exact h.id _ ha b hb.1
    · rw [if_neg e] at hb;exact h.id d hd b hb
  · rw [List.length_set] at hd;rw [bK ha]
    by_cases e:bO cs a=d
    · rw [if_pos e];unfold iw;split
      · show (0:Int)≤_;omega
      · exact h.rn _ ha
    · rw [if_neg e];exact h.rn d hd
theorem CI.rem {n k:Nat} {cs:List Qm} (h:CI n k cs) (a:Int):CI n k (gD cs a):=by
  unfold gD;split
  · exact h.Vi aA
  · exact h
theorem oM (cs:List Qm) (a:Int):(gD cs a).length=cs.length:=by unfold gD;split;exact List.length_set;rfl
theorem CI.wgh {n k:Nat} {cs:List Qm} (h:CI n k cs) (a w:Int):CI n k (j5 cs a w):=by
  unfold j5;split
  · next ha=>
    have hh:=c8 ha;rw [show lG (qg cs (bO cs a)) a w=gU (qg cs (bO cs a)) a w from if_pos hh];refine h.set ha (B4 (h.wf.wf _ ha) hh) (gM hh rfl) ?_
    show (if _ then _ else _)≤_
    have hg:=(h.wf.wf _ ha).g;have:=h.rn _ ha
    split<;>omega
  · exact h
theorem Fo (cs:List Qm) (a w:Int):(j5 cs a w).length=cs.length:=by unfold j5;split;exact List.length_set;rfl
theorem CI.back {n k:Nat} {cs:List Qm} (h:CI n k cs) {c:Nat} (hc:c<cs.length):CI n k (cs.set c (fh (qg cs c))):=h.set hc (FU (h.wf.wf _ hc)) rfl (by show (0:Int)≤_;omega)
theorem CI.pik {n k:Nat} {cs:List Qm} (h:CI n k cs) {c:Nat} (hc:c<cs.length):CI n k (cs.set c (qJ (qg cs c))):=by
  refine h.set hc (Ue (h.wf.wf _ hc)) (by unfold qJ;split<;>rfl) ?_
  unfold qJ;split
  · exact h.rn c hc
  · show (0:Int)≤_;omega
theorem CI.tick {n k:Nat} {cs:List Qm} (h:CI n k cs) {c:Nat} (hc:c<cs.length):CI n (k+1) (cs.set c (fi (qg cs c))):=by
  refine (h.mono (Nat.le_refl n) (Nat.le_succ k)).set hc (FF (h.wf.wf _ hc)) ?_ ?_
  · unfold fi;split
    · next q=>exact gM ((h.wf.wf _ hc).ix q) ((iU ((h.wf.wf _ hc).ix q)).1)
    · rfl
  · have:=h.rn c hc
    unfold fi;split
    · show _+1≤_;omega
    · omega
theorem md {cs:List Qm} (f:Qm→Qm):(cs.map f).length=cs.length:=List.length_map ..
theorem vR {cs:List Qm} {f:Qm→Qm} {c:Nat} (h:c<cs.length):qg (cs.map f) c=f (qg cs c):=by
  unfold qg;rw [List.getD_eq_getElem?_getD,List.getD_eq_getElem?_getD,List.getElem?_map,List.getElem?_eq_getElem h];rfl
theorem CI.acP {n k:Nat} {cs:List Qm} (h:CI n k cs):CI n k (cs.map eW):=by
  have hk:∀c,c<cs.length→∀a,cd (qg (cs.map eW) c) a↔cd (qg cs c) a:=fun c hc a=>by
    rw [vR hc];exact oF (by rw [(eg _).1]) a
  refine ⟨⟨by rw [md];exact h.wf.len,fun c hc=>?_,fun i j a hi hj h1 h2=>?_,?_⟩,fun c hc a ha=>?_,fun c hc=>?_⟩
  · rw [md] at hc;rw [vR hc];exact tX (h.wf.wf c hc)
  · rw [md] at hi hj;exact h.wf.one i j a hi hj ((hk i hi a).1 h1) ((hk j hj a).1 h2)
  · have e:ez (cs.map eW)=ez cs:=by
      unfold ez;rw [List.map_map];congr 1
      exact List.map_congr_left (fun q _=>by show (eW q).l.length=_;rw [(eg q).1])
    rw [e];exact h.wf.all
  · rw [md] at hc;exact h.id c hc a ((hk c hc a).1 ha)
  · rw [md] at hc;rw [vR hc,(eg _).2.2.1];exact h.rn c hc
theorem CI.car {n k:Nat} {cs:List Qm} (h:CI n k cs) {a:Int} {to:Nat} (ha:bO cs a<cs.length) (ht:to<cs.length) (eb:to≠bO cs a):CI n k (fV cs a to):=by
  obtain ⟨h1,h2,h3,h4,h5⟩:=yv h.wf ha ht eb;rw [vw h.wf ha ht eb];exact CI.Yq (h.Vi ha) h2 h3 h4 h5 _ _ (h.id _ ha a (c8 ha))
theorem qP (cs:List Qm) (a:Int) (to:Nat):(fV cs a to).length=cs.length:=by unfold fV ep;rw [List.length_set,List.length_set]
theorem CI.VW {n k:Nat} {cs:List Qm} (h:CI n k cs):CI n k (jt cs):=by
  unfold jt
  split
  · exact h
  · next t e=>
    obtain ⟨h1,h2,h3,h4,h5,h6,h7⟩:=k4 h.wf e;exact h.car (by rw [h4];exact h5) h6 h7
theorem NV (cs:List Qm):(jt cs).length=cs.length:=by unfold jt;split;rfl;exact qP ..
theorem CI.Xo {n k:Nat} {cs:List Qm} (h:CI n k cs) (co a:Int):CI n k (jB cs co a):=by
  unfold jB
  split
  · next e=>
    unfold eF at e
    split at e
    · cases e
    split at e
    · cases e
    split at e
    · cases e
    split at e
    · cases e
    exact h.car om om om
  · exact h
theorem Nz (cs:List Qm) (co a:Int):(jB cs co a).length=cs.length:=by unfold jB;split;exact qP ..;rfl
/-! who is in a queue behind it -/
theorem A9 {cs:List Qm} {co a:Int} {v:BitVec 64} {w:Int} {c:Nat} {b:Int} (h:cd (qg (dx cs co a v w) c) b):cd (qg cs c) b∨b=a:=by
  unfold dx at h;split at h
  · next e=>
    have rY:co.toNat<cs.length:=by unfold ik at e;split at e;cases e;omega
    rw [bK rY] at h
    by_cases q:co.toNat=c
    · rw [if_pos q,has_add] at h;rw [←q];exact h
    · rw [if_neg q] at h;exact .inl h
  · exact .inl h
theorem A6 {cs:List Qm} (co a:Int) (v:BitVec 64) (w:Int) {b:Int} (h:bO cs b<cs.length):bO (dx cs co a v w) b<(dx cs co a v w).length:=by
  refine Classical.byContradiction fun n=>?_;have hh:=c8 h;have hn:=vb n (i:=bO cs b) (by rw [gu];exact h)
  unfold dx at hn;split at hn
  · next e=>
    have rY:co.toNat<cs.length:=by unfold ik at e;split at e;cases e;omega
    rw [bK rY] at hn
    by_cases q:co.toNat=bO cs b
    · rw [if_pos q,has_add,q] at hn;exact hn (.inl hh)
    · rw [if_neg q] at hn;exact hn hh
  · exact hn hh
theorem qv {cs:List Qm} (hw:rq cs) {a:Int} {c:Nat} (hc:c<cs.length) {b:Int} (h:cd (qg (gD cs a) c) b):cd (qg cs c) b∧b≠a:=by
  unfold gD at h;split at h
  · next e=>
    have hn:=EV hw e;refine ⟨?_,fun q=>?_⟩
    · rw [bK e] at h
      by_cases q:bO cs a=c
      · rw [if_pos q,oP (hw.wf _ e) (c8 e),q] at h;exact h.1
      · rw [if_neg q] at h;exact h
    · rw [q] at h;exact vb hn (i:=c) (by rw [List.length_set];exact hc) h
  · next e=>exact⟨h,fun q=>by rw [q] at h;exact vb e hc h⟩
theorem jA {cs:List Qm} {c:Nat} (hc:c<cs.length) {q:Qm} (he:q.l.map (·.id)=(qg cs c).l.map (·.id)) {d:Nat} {b:Int} (h:cd (qg (cs.set c q) d) b):cd (qg cs d) b:=by
  rw [bK hc] at h
  by_cases e:c=d
  · rw [if_pos e] at h;rw [←e];exact(oF he b).1 h
  · rw [if_neg e] at h;exact h
theorem AH {cs:List Qm} {a w:Int} {d:Nat} {b:Int} (h:cd (qg (j5 cs a w) d) b):cd (qg cs d) b:=by
  unfold j5 at h;split at h
  · next ha=>
    have hh:=c8 ha;rw [show lG (qg cs (bO cs a)) a w=gU (qg cs (bO cs a)) a w from if_pos hh] at h;exact jA ha (gM hh rfl) h
  · exact h
theorem AD {cs:List Qm} {d:Nat} (hd:d<cs.length) {b:Int} (h:cd (qg (cs.map eW) d) b):cd (qg cs d) b:=by
  rw [vR hd] at h;exact(oF (by rw [(eg _).1]) b).1 h
theorem AO {cs:List Qm} (hw:rq cs) {a:Int} {to:Nat} (ha:bO cs a<cs.length) (ht:to<cs.length) (eb:to≠bO cs a) {d:Nat} (hd:d<cs.length) {b:Int} (h:cd (qg (fV cs a to) d) b):∃e,e<cs.length∧cd (qg cs e) b:=by
  rw [vw hw ha ht eb,bK (by unfold ep;rw [List.length_set];exact ht)] at h
  have key:∀e,cd (qg (ep cs a) e) b→cd (qg cs e) b:=fun e q=>by
    unfold ep at q;rw [bK ha] at q
    by_cases z:bO cs a=e
    · rw [if_pos z,oP (hw.wf _ ha) (c8 ha),z] at q;exact q.1
    · rw [if_neg z] at q;exact q
  by_cases e:to=d
  · rw [if_pos e,has_add] at h
    rcases h with h|rfl
    · exact⟨to,ht,key to h⟩
    · exact⟨_,ha,c8 ha⟩
  · rw [if_neg e] at h;exact⟨d,hd,key d h⟩
/-! ### locks -/
structure gW (P:Int→Prop) (L:aY):Prop where
  ho:∀h∈L.ho,P h.t
  wt:∀w∈L.wt,P w.who
theorem gW.settle {P:Int→Prop} {L:aY} (h:gW P L):gW P (cB L):=⟨h.ho,h.wt⟩
theorem BP (L:aY) (p:Int) (n:Nat):(cQ L p n).length≤L.wt.length:=by
  unfold cQ LF;rw [List.length_map,List.length_take]
  have:=List.length_filter_le (fun w:Wt=>decide (w.key=p)) L.wt;omega
theorem gW.cQ {P:Int→Prop} {L:aY} (h:gW P L) (p:Int) (n:Nat):∀t∈cQ L p n,P t:=fun t ht=>by
  obtain ⟨w,hw,rfl,_⟩:=qI ht;exact h.wt w hw
theorem gW.Ki {P:Int→Prop} {L:aY} (h:gW P L) (p:Int) (n:Nat):gW P (l9 L p n):=by
  rw [eQ];refine ⟨fun g hg=>?_,fun w hw=>h.wt w (oK.1 hw).1⟩;rcases List.mem_append.1 hg with hg|hg
  · exact h.ho g hg
  · refine h.cQ p n g.t ?_
    rw [←Br p L.di (Go.Eng.cQ L p n)];exact List.mem_map_of_mem hg
theorem gW.iJ {P:Int→Prop} {L:aY} (h:gW P L):∀t∈iJ L,P t:=fun t ht=>by
  unfold Go.Eng.iJ at ht;split at ht
  · cases ht
  · exact h.cQ _ _ t ht
theorem gW.pass {P:Int→Prop} {L:aY} (h:gW P L):gW P (jV L):=by
  unfold jV;split
  · exact h
  · exact gW.Ki (L:=dp L) ⟨h.ho,h.wt⟩ _ _
theorem gW.take {P:Int→Prop} {L:aY} (h:gW P L) (t p:Int) (ht:P t):gW P (cu L t p):=by
  unfold cu;split
  · exact h
  · refine gW.settle ⟨fun g hg=>?_,fun w hw=>h.wt w (by rw [←vx L p];exact hw)⟩
    rcases List.mem_append.1 hg with hg|hg
    · exact h.ho g (by rw [(eK L p).2.1] at hg;exact hg)
    · rw [List.mem_singleton] at hg;rw [hg];exact ht
theorem gW.wait {P:Int→Prop} {L:aY} (h:gW P L) (t p:Int) (ht:P t):gW P (dv L t p):=by
  unfold dv;split
  · exact h
  · refine gW.settle ⟨h.ho,fun w hw=>?_⟩
    rcases List.mem_append.1 hw with hw|hw
    · exact h.wt w hw
    · rw [List.mem_singleton] at hw;rw [hw];exact ht
theorem gW.out {P:Int→Prop} {L:aY} (h:gW P L) (t:Int):gW P (fa L t):=⟨fun g hg=>h.ho g (List.mem_of_mem_eraseIdx hg),h.wt⟩
theorem gW.BL {P:Int→Prop} {L:aY} (h:gW P L) (t:Int):gW P (ej L t):=by
  unfold ej;split
  · split
    · exact(h.out t).pass.settle
    · exact(h.out t).settle
  · exact h
theorem gW.dZ {P:Int→Prop} {L:aY} (h:gW P L) (t:Int):∀u∈dZ L t,P u:=fun u hu=>by
  unfold Go.Eng.dZ at hu;split at hu
  · exact(h.out t).iJ u hu
  · cases hu
theorem gW.gone {P:Int→Prop} {L:aY} (h:gW P L) (t:Int):gW P (cV L t):=⟨h.ho,fun w hw=>h.wt w (List.mem_filter.1 hw).1⟩
theorem gW.lv {P:Int→Prop} {L:aY} (h:gW P L) (t:Int):gW P (fw L t):=by
  unfold fw;split
  · split
    · exact((h.gone t).Ki _ _).settle
    · exact(h.gone t).settle
  · exact h
theorem gW.o9 {P:Int→Prop} {L:aY} (h:gW P L) (t:Int):∀u∈o9 L t,P u:=fun u hu=>by
  unfold Go.Eng.o9 at hu;split at hu
  · exact(h.gone t).cQ _ _ u hu
  · cases hu
theorem gW.die {P:Int→Prop} {L:aY} (h:gW P L) (t:Int):gW P (rk L t):=by
  unfold rk;split
  · exact h.lv t
  · split
    · exact gW.BL (L:= {L with di:=true}) ⟨h.ho,h.wt⟩ t
    · exact h
theorem gW.ua {P:Int→Prop} {L:aY} (h:gW P L) (t:Int):∀u∈ua L t,P u:=fun u hu=>by
  unfold Go.Eng.ua at hu;split at hu
  · exact h.o9 t u hu
  · exact gW.dZ (L:= {L with di:=true}) ⟨h.ho,h.wt⟩ t u hu
theorem gW.xQ {P:Int→Prop} {L:aY} (h:gW P L) (t:Int):gW P (iR L t):=by unfold iR;split;exact⟨h.ho,h.wt⟩;exact h
theorem gW.PH {P:Int→Prop} {L:aY} (h:gW P L) (g w:Int):gW P (iz L g w):=by unfold iz;split;exact⟨h.ho,h.wt⟩;exact h
theorem Gz (L:aY):(iJ L).length≤L.wt.length:=by unfold iJ;split;exact Nat.zero_le _;exact BP (dp L) _ _
theorem nV (L:aY) (t:Int):(dZ L t).length≤L.wt.length:=by unfold dZ;split;exact Gz (fa L t);exact Nat.zero_le _
theorem qT (L:aY) (t:Int):(o9 L t).length≤L.wt.length:=by
  unfold o9;split
  · exact Nat.le_trans (BP (cV L t) _ _) (List.length_filter_le ..)
  · exact Nat.zero_le _
theorem EJ (L:aY) (t:Int):(ua L t).length≤L.wt.length:=by unfold ua;split;exact qT L t;exact nV {L with di:=true} t
def lz (n:Nat) (t:Int):Prop:=0≤t∧t<n
structure LI (n k:Nat) (L:aY):Prop where
  w:k9 L
  b:jQ k L
  i:gW (lz n) L
theorem LI.mono {n n' k k':Nat} {L:aY} (h:LI n k L) (hn:n≤n') (hk:k≤k'):LI n' k' L:=⟨h.w,h.b.mono hk,⟨fun g hg=>by have:=h.i.ho g hg;exact⟨this.1,by have:=this.2;omega⟩,fun g hg=>by have:=h.i.wt g hg;exact⟨this.1,by have:=this.2;omega⟩⟩⟩
theorem GK {n:Nat} {l:List Int} (h:l.Nodup) (hn:∀t∈l,lz n t):l.length≤n:=by
  have h1:(l.map Int.toNat).Nodup:=by
    unfold List.Nodup;rw [List.pairwise_map]
    refine List.Pairwise.imp_of_mem (fun {a b} ha hb eb e=>eb ?_) h;have h2:=hn a ha;have h3:=hn b hb;unfold lz at h2 h3;omega
  have h2:∀t∈l.map Int.toNat,t∈List.range n:=fun t ht=>by
    obtain ⟨a,ha,rfl⟩:=List.mem_map.1 ht;have:=hn a ha;unfold lz at this;exact List.mem_range.2 om
  have h3:=List.Nodup.length_le_of_subset h1 h2;rw [List.length_map,List.length_range] at h3;exact h3
theorem LI.hl {n k:Nat} {L:aY} (h:LI n k L):L.ho.length≤n:=by
  have:=GK h.w.hd (fun t ht=>by obtain ⟨g,hg,rfl⟩:=List.mem_map.1 ht;exact h.i.ho g hg);rw [List.length_map] at this;exact this
section
variable {n k:Nat} {L:aY} (h:LI n k L) (t:Int)
include h
theorem LI.take (p:Int) (ht:lz n t):LI n (k+1) (cu L t p):=⟨h.w.take t p,h.b.take t p,h.i.take t p ht⟩
theorem LI.wait (p:Int) (ht:lz n t):LI n (k+1) (dv L t p):=⟨h.w.wait t p,h.b.wait t p,h.i.wait t p ht⟩
theorem LI.BL:LI n k (ej L t):=⟨k9.BL h.w.topg t h.w.em,h.b.BL h.w.wd t,h.i.BL t⟩
theorem LI.lv:LI n k (fw L t):=⟨h.w.lv t,h.b.lv h.w.wd t,h.i.lv t⟩
theorem LI.die:LI n k (rk L t):=⟨h.w.die t,h.b.die h.w.wd t,h.i.die t⟩
theorem LI.xQ:LI n (k+1) (iR L t):=⟨h.w.xQ t,h.b.xQ t,h.i.xQ t⟩
theorem LI.PH (w:Int):LI n k (iz L t w):=⟨h.w.PH t w,h.b.PH t w,h.i.PH t w⟩
end
/-! ### who waits for whom -/
structure GI (g:Gr):Prop where
  l:g.length=64
  a:QS g
theorem Ke {G:Gr} {i:Nat} :¬lh G 0#64 i:=fun h=>by
  induction h with
  |base h=>rw [cF] at h;cases h
  |step _ _ ih=>exact ih
theorem GI.cut {g:Gr} (h:GI g) {t:Nat} (ht:t<64):GI (g.set t 0#64):=⟨by rw [List.length_set];exact h.l,EO h.l ht h.a Ke⟩
theorem GI.wt {g:Gr} (h:GI g) (t:Int) (s:BitVec 64):GI (Co g t s):=⟨yd h.l t s,Px h.l h.a t s⟩
theorem GI.Y5 {L:aY} :∀{g:Gr},GI g→GI (NH L g):=by
  unfold NH
  generalize L.wt=l
  induction l with
  |nil=>intro g h;exact h
  |cons w l ih=>intro g h;rw [List.foldl_cons];exact ih (h.wt _ _)
structure wy (s:kh) (k:Nat) (t:iN):Prop where
  pr:0≤t.pr∧t.pr<(s.ps.length:Int)
  pc:0≤t.pc∧t.pc≤(k:Int)
  lf:0≤t.lf∧t.lf≤64
  ti:0≤t.ti∧t.ti≤(k:Int)
  l4:t.st=4→0≤t.lk∧t.lk<(s.ls.length:Int)
  un:t.un≠0#64→t.st=3∨t.st=4
theorem wy.mono {s:kh} {k k':Nat} {t:iN} (h:wy s k t) (hk:k≤k'):wy s k' t:=⟨h.pr,by have:=h.pc;omega,h.lf,by have:=h.ti;omega,h.l4,h.un⟩
structure MI (k:Nat) (x:aC):Prop where
  ms:fC x.s=true
  ce:(x.cs.length:Int)=x.s.cr
  ci:CI x.ts.length k x.cs
  il:x.idle.length=x.cs.length
  ib:∀n∈x.idle,0≤n∧n≤(k:Int)
  ll:x.lk.length=x.s.ls.length
  li:∀l,l<x.lk.length→LI x.ts.length k (gL x l)
  gi:GI x.g
  tl:x.ts.length≤64
  vl:x.v.length=x.ts.length
  tb:∀t,t<x.ts.length→wy x.s k (gT x t)
  gn:x.gp.length=x.s.gs.length
  ev:x.ev.length≤k
  iq:∀c,c<x.cs.length→∀a,cd (qg x.cs c) a→(gT x a.toNat).un=0#64
theorem MI.mono {k k':Nat} {x:aC} (h:MI k x) (hk:k≤k'):MI k' x:=
  {h with ci:=h.ci.mono (Nat.le_refl _) hk,ib:=fun n hn=>by have:=h.ib n hn;omega,li:=fun l hl=>(h.li l hl).mono (Nat.le_refl _) hk,tb:=fun t ht=>(h.tb t ht).mono hk,ev:=Nat.le_trans h.ev hk}
theorem fD {x:aC} {t:Nat} (ht:t<x.ts.length) (y:iN) (j:Nat):gT (dk x t y) j=if t=j then y else gT x j:=by
  unfold gT dk
  show (x.ts.set t y).getD j default=_
  rw [List.getD_eq_getElem?_getD,List.getElem?_set]
  by_cases e:t=j
  · rw [if_pos e,if_pos e,if_pos ht];rfl
  · rw [if_neg e,if_neg e,List.getD_eq_getElem?_getD]
theorem bt (x:aC) (t:Nat) (y:iN):(dk x t y).ts.length=x.ts.length:=List.length_set ..
section
variable {k:Nat} {x:aC} (h:MI k x)
include h
theorem MI.kc (a t l n:Int):MI (k+1) (ba x a t l n):=
  have h':=h.mono (Nat.le_succ k)
  {h' with ev:=by show (x.ev++ [_]).length≤_;rw [List.length_append,List.length_singleton];have:=h.ev;omega}
theorem MI.upQ {t:Nat} (ht:t<x.ts.length) {y:iN} (hy:wy x.s k y) (hu:∀c,c<x.cs.length→cd (qg x.cs c) t→y.un=0#64):MI k (dk x t y):=
  {h with
    iq:=fun c hc a ha=>by
      rw [fD ht];split
      · next e=>
        have h0:=(h.ci.wf.wf c hc).pos _ (ea ha).1;rw [(ea ha).2] at h0;exact hu c hc (by rw [show (t:Int)=a by omega];exact ha)
      · exact h.iq c hc a ha
    ci:=by rw [bt];exact h.ci
    li:=fun l hl=>by rw [bt];exact h.li l hl
    tl:=by rw [bt];exact h.tl
    vl:=by rw [bt];exact h.vl
    tb:=fun j hj=>by rw [bt] at hj;rw [fD ht];split;exact hy;exact h.tb j hj}
theorem MI.up {t:Nat} (ht:t<x.ts.length) {y:iN} (hy:wy x.s k y) (hu:y.un=0#64∨y.un=(gT x t).un:=by first|exact .inl rfl|exact .inr rfl):MI k (dk x t y):=
  h.upQ ht hy (fun c hc hk=>by rcases hu with e|e;exact e;rw [e];exact h.iq c hc t hk)
theorem MI.FM {cs:List Qm} (hc:CI x.ts.length k cs) (hl:cs.length=x.cs.length) (hq:∀c,c<x.cs.length→∀a,cd (qg cs c) a→(∃d,d<x.cs.length∧cd (qg x.cs d) a)∨(gT x a.toNat).un=0#64):MI k {x with cs:=cs} :=
  {h with iq:=fun c hc a ha=>by {rcases hq c (by rw [←hl];exact hc) a ha with ⟨d,hd,q⟩|q;exact h.iq d hd a q;exact q},ci:=hc,ce:=by rw [show ({x with cs:=cs} :aC).cs.length=x.cs.length from hl];exact h.ce,il:=by rw [show ({x with cs:=cs} :aC).cs.length=x.cs.length from hl];exact h.il}
theorem MI.bh {l:Nat} {L:aY} (hL:LI x.ts.length k L):MI k (bh x l L):=
  {h with
    ll:=by show (x.lk.set l L).length=_;rw [List.length_set];exact h.ll
    li:=fun j hj=>by
      have Qb:j<x.lk.length:=by rw [show (Go.Eng.bh x l L).lk.length=x.lk.length from List.length_set ..] at hj;exact hj
      show LI _ k ((x.lk.set l L).getD j default)
      rw [List.getD_eq_getElem?_getD,List.getElem?_set]
      by_cases e:l=j
      · rw [if_pos e,if_pos (by rw [e];exact Qb)];exact hL
      · rw [if_neg e,←List.getD_eq_getElem?_getD];exact h.li j Qb}
theorem MI.gr {g:Gr} (hg:GI g):MI k {x with g:=g} := {h with gi:=hg}
theorem MI.vv {v:List (BitVec 64)} (hv:v.length=x.v.length):MI k {x with v:=v} := {h with vl:=by show v.length=_;rw [hv];exact h.vl}
theorem MI.cut {t:Nat} (ht:t<x.ts.length):MI k (du x t):=h.gr (h.gi.cut (by have:=h.tl;omega))
theorem MI.inc {t:Nat} (ht:t<x.ts.length):MI (k+1) (bJ x t):=
  (h.mono (Nat.le_succ k)).up ht (by have q:=h.tb t ht;exact⟨q.pr,by have:=q.pc;show 0≤_+1∧_+1≤_;omega,q.lf,by have:=q.ti;show 0≤(gT x t).ti∧(gT x t).ti≤_;omega,q.l4,q.un⟩)
theorem MI.Dc {t:Nat} (ht:t<x.ts.length):MI (k+1) (fe x t):=by
  have q:=h.tb t ht;have h1:=h.up ht (y:=KJ (gT x t)) ⟨q.pr,q.pc,q.lf,q.ti,fun e=>(by cases e),fun e=>absurd rfl e⟩;exact(h1.FM (cs:=dx x.cs (gT x t).co t (x.v.getD t 0#64) (gT x t).ef) (by rw [bt];exact h.ci.add _ _ _ _ om) (gu ..) (fun c hc a ha=>by rcases A9 ha with q|rfl;exact .inl ⟨c,hc,q⟩;exact .inr (by rw [fD ht,if_pos (Int.toNat_natCast t).symm];rfl))).kc _ _ _ _
theorem MI.qut (t:Nat):MI k (eC x t):=by
  have h1:=h.FM (h.ci.rem t) (oM x.cs t) (fun c hc a ha=> .inl ⟨c,hc,(qv h.ci.wf hc ha).1⟩);refine h1.vv (v:=if bO x.cs t<x.cs.length then x.v.set t (uD x.cs t) else x.v) ?_
  split
  · exact List.length_set ..
  · rfl
theorem MI.py (l:Nat) {t:Int} (ht:lz x.ts.length t):MI (k+3) (py l x t):=by
  have h0:t.toNat<x.ts.length:=by unfold lz at ht;omega
  have h1:=h.kc 4 t l (dD (gL x l) t);have h2:=h1.inc (t:=t.toNat) h0;have h3:=h2.cut (t:=t.toNat) (by show _<(x.ts.set _ _).length;rw [List.length_set];exact h0);exact h3.Dc (t:=t.toNat) (by show _<(x.ts.set _ _).length;rw [List.length_set];exact h0)
end
theorem zt (l:Nat) (x:aC) (t:Int):(py l x t).ts.length=x.ts.length:=by
  show ((x.ts.set _ _).set _ _).length=_;rw [List.length_set,List.length_set]
theorem uI (l:Nat):∀(to:List Int) (x:aC),(o4 l x to).ts.length=x.ts.length∧(o4 l x to).lk=x.lk∧(o4 l x to).s=x.s∧(o4 l x to).now=x.now
  | [],x=>⟨rfl,rfl,rfl,rfl⟩
  |t::to,x=>by
    have ih:=uI l to (py l x t)
    unfold o4 at ih ⊢
    rw [List.foldl_cons];exact⟨ih.1.trans (zt l x t),ih.2⟩
theorem MI.o4 {l:Nat} :∀{to:List Int} {k:Nat} {x:aC},MI k x→(∀t∈to,lz x.ts.length t)→MI (k+3*to.length) (o4 l x to)
  | [],k,x,h,_=>h
  |t::to,k,x,h,ht=>by
    have h1:=MI.o4 (l:=l) (h.py l (ht t (List.mem_cons_self ..))) (fun u hu=>by rw [zt];exact ht u (List.mem_cons_of_mem _ hu));rw [List.length_cons,show k+3*(to.length+1)=k+3+3*to.length by omega];exact h1
theorem MI.Y5 {k:Nat} {x:aC} (h:MI k x) (l:Nat):MI k (AG x l):=h.gr h.gi.Y5
theorem cN (l:Nat) (x:aC) (to:List Int):(dz x l to).ts.length=x.ts.length∧(dz x l to).lk=x.lk∧(dz x l to).s=x.s∧(dz x l to).now=x.now:=uI l to x
theorem MI.rv {k:Nat} {x:aC} (h:MI k x) (l:Nat) {to:List Int} (ht:∀t∈to,lz x.ts.length t) (h8:to.length≤8):MI (k+24) (dz x l to):=((h.o4 ht).Y5 l).mono om
theorem cA (x:aC) (l:Nat) (L:aY):(bh x l L).lk.length=x.lk.length:=List.length_set ..
theorem MI.w8 {k:Nat} {x:aC} (h:MI k x) {l:Nat} (hl:l<x.lk.length):(gL x l).wt.length≤8:=(h.li l hl).w.w8
theorem MI.qx {k:Nat} {x:aC} (h:MI k x) {t:Nat} (ht:t<x.ts.length):MI (k+24) (qx x t):=by
  unfold Go.Eng.qx
  split
  · next e=>
    have hl:=(h.tb t ht).l4 e;have nu:(gT x t).lk.toNat<x.lk.length:=by rw [h.ll];omega
    have hL:=h.li _ nu;exact(h.bh (hL.lv t)).rv _ (hL.i.o9 t) (Nat.le_trans (qT ..) (h.w8 nu))
  · exact h.mono om
theorem qZ (x:aC) (t:Nat):(qx x t).ts.length=x.ts.length∧(qx x t).lk.length=x.lk.length∧(qx x t).s=x.s∧(qx x t).now=x.now:=by
  unfold qx;split
  · have e:=cN (gT x t).lk.toNat (bh x (gT x t).lk.toNat (fw (gL x (gT x t).lk.toNat) t)) (o9 (gL x (gT x t).lk.toNat) t)
    exact⟨e.1,by rw [e.2.1];exact cA ..,e.2.2⟩
  · exact⟨rfl,rfl,rfl,rfl⟩
theorem MI.r5 {k:Nat} {x:aC} (h:MI k x) (t:Nat) {l:Nat} (hl:l<x.lk.length):MI (k+25) (r5 t x l):=by
  unfold Go.Eng.r5
  split
  · have h1:=h.kc 12 t l 0
    have hL:=h1.li l hl;exact((h1.bh (hL.die t)).rv l (hL.i.ua t) (Nat.le_trans (EJ ..) (h1.w8 hl))).mono om
  · exact h.mono om
theorem A8 (t:Nat) (x:aC) (l:Nat):(r5 t x l).ts.length=x.ts.length∧(r5 t x l).lk.length=x.lk.length∧(r5 t x l).s=x.s∧(r5 t x l).now=x.now:=by
  unfold r5;split
  · have e:=cN l (bh (ba x 12 t l 0) l (rk (gL x l) t)) (ua (gL x l) t)
    exact⟨e.1,by rw [e.2.1];exact cA ..,e.2.2⟩
  · exact⟨rfl,rfl,rfl,rfl⟩
theorem kD (t:Nat) (x:aC) (n:Nat):pF t x (n+1)=r5 t (pF t x n) n:=by unfold pF;rw [List.range_succ,List.foldl_append];rfl
theorem kZ (t:Nat) (x:aC):∀n,(pF t x n).ts.length=x.ts.length∧(pF t x n).lk.length=x.lk.length∧(pF t x n).s=x.s∧(pF t x n).now=x.now
  |0=>⟨rfl,rfl,rfl,rfl⟩
  |n+1=>by
    rw [kD];have h1:=A8 t (pF t x n) n;have h2:=kZ t x n;exact⟨h1.1.trans h2.1,h1.2.1.trans h2.2.1,h1.2.2.1.trans h2.2.2.1,h1.2.2.2.trans h2.2.2.2⟩
theorem MI.pF {k:Nat} {x:aC} (h:MI k x) (t:Nat):∀{n:Nat},n≤x.lk.length→MI (k+25*n) (pF t x n)
  |0,_=>h
  |n+1,hn=>by
    rw [kD];exact((h.pF t (n:=n) om).r5 t (by rw [(kZ t x n).2.1];omega)).mono om
theorem NY {s:kh} (h:fC s=true):s.ls.length≤8:=by
  unfold fC at h;simp only [Bool.and_eq_true,decide_eq_true_eq] at h;omega
theorem MI.l8 {k:Nat} {x:aC} (h:MI k x):x.lk.length≤8:=by rw [h.ll];exact NY h.ms
def yW (x:aC) (t:Nat):aC:=du (qx x t) t
def D5 (x:aC) (t:Nat):aC:=eC (pF t (yW x t) x.lk.length) t
theorem zK (x:aC) (t:Nat):kf x t=ba (dk (D5 x t) t (tE (gT (D5 x t) t))) 11 t (-1) 0:=rfl
theorem qX (x:aC) (t:Nat):(yW x t).ts.length=x.ts.length∧(yW x t).lk.length=x.lk.length∧(yW x t).s=x.s∧(yW x t).now=x.now:=qZ x t
theorem ux (x:aC) (t:Nat):(D5 x t).ts.length=x.ts.length∧(D5 x t).lk.length=x.lk.length∧(D5 x t).s=x.s∧(D5 x t).now=x.now:=by
  have h1:=kZ t (yW x t) x.lk.length;have h2:=qX x t;exact⟨h1.1.trans h2.1,h1.2.1.trans h2.2.1,h1.2.2.1.trans h2.2.2.1,h1.2.2.2.trans h2.2.2.2⟩
theorem nE (x:aC) (t:Nat):(kf x t).ts.length=x.ts.length∧(kf x t).lk.length=x.lk.length∧(kf x t).s=x.s∧(kf x t).now=x.now:=by
  have h:=ux x t;exact⟨by rw [zK];exact(bt ..).trans h.1,h.2⟩
theorem MI.yW {k:Nat} {x:aC} (h:MI k x) {t:Nat} (ht:t<x.ts.length):MI (k+24) (yW x t):=(h.qx ht).cut (by rw [(qZ x t).1];exact ht)
theorem MI.D5 {k:Nat} {x:aC} (h:MI k x) {t:Nat} (ht:t<x.ts.length):MI (k+224) (D5 x t):=by
  have h8:=h.l8;exact(((h.yW ht).pF t (n:=x.lk.length) (by rw [(qX x t).2.1];exact Nat.le_refl _)).qut t).mono om
theorem wy.ded {s:kh} {k:Nat} {t:iN} (q:wy s k t):wy s k (tE t):=⟨q.pr,q.pc,⟨Int.le_refl _,by show (0:Int)≤64;decide⟩,q.ti,fun e=>(by cases e),fun e=>absurd rfl e⟩
theorem MI.die {k:Nat} {x:aC} (h:MI k x) {t:Nat} (ht:t<x.ts.length):MI (k+225) (kf x t):=by
  have h2:=h.D5 ht;have UJ:t<(Go.Eng.D5 x t).ts.length:=by rw [(ux x t).1];exact ht
  rw [zK];exact(h2.up UJ (h2.tb t UJ).ded).kc _ _ _ _
/-! ### weights -/
theorem wy.ef {s:kh} {k:Nat} {t:iN} (q:wy s k t) (e:Int):wy s k {t with ef:=e} :=⟨q.pr,q.pc,q.lf,q.ti,q.l4,q.un⟩
theorem Kt (fy:List Int) (x:aC) (i:Nat):(ug fy x i).ts.length=x.ts.length∧(ug fy x i).lk=x.lk∧(ug fy x i).s=x.s∧(ug fy x i).now=x.now∧(ug fy x i).g=x.g∧(ug fy x i).ev=x.ev:=by
  unfold ug;split
  · exact⟨rfl,rfl,rfl,rfl,rfl,rfl⟩
  · exact⟨bt ..,rfl,rfl,rfl,rfl,rfl⟩
theorem MI.ug {k:Nat} {x:aC} (h:MI k x) (fy:List Int) {i:Nat} (hi:i<x.ts.length):MI k (ug fy x i):=by
  unfold Go.Eng.ug;split
  · exact h
  · exact(h.up hi ((h.tb i hi).ef _)).FM (by rw [bt];exact h.ci.wgh _ _) (Fo ..) (fun c hc a ha=> .inl ⟨c,hc,AH ha⟩)
theorem jo (fy:List Int) (x:aC) (n:Nat):tK fy x (n+1)=ug fy (tK fy x n) n:=by unfold tK;rw [List.range_succ,List.foldl_append];rfl
theorem nZ (fy:List Int) (x:aC):∀n,(tK fy x n).ts.length=x.ts.length∧(tK fy x n).lk=x.lk∧(tK fy x n).s=x.s∧(tK fy x n).now=x.now∧(tK fy x n).g=x.g∧(tK fy x n).ev=x.ev
  |0=>⟨rfl,rfl,rfl,rfl,rfl,rfl⟩
  |n+1=>by
    rw [jo];have h1:=Kt fy (tK fy x n) n;have h2:=nZ fy x n;exact⟨h1.1.trans h2.1,h1.2.1.trans h2.2.1,h1.2.2.1.trans h2.2.2.1,h1.2.2.2.1.trans h2.2.2.2.1,h1.2.2.2.2.1.trans h2.2.2.2.2.1,h1.2.2.2.2.2.trans h2.2.2.2.2.2⟩
theorem MI.tK {k:Nat} {x:aC} (h:MI k x) (fy:List Int):∀{n:Nat},n≤x.ts.length→MI k (tK fy x n)
  |0,_=>h
  |n+1,hn=>by
    rw [jo];exact(h.tK fy (n:=n) om).ug fy (by rw [(nZ fy x n).1];omega)
theorem MI.Mo {k:Nat} {x:aC} (h:MI k x):MI k (jJ x):=by
  have h1:=h.tK (zk (r9 x) x.g) (n:=x.ts.length) (Nat.le_refl _);exact h1.FM (h1.ci.acP) (md _) (fun c hc a ha=> .inl ⟨c,hc,AD hc ha⟩)
theorem jD (x:aC):(jJ x).ts.length=x.ts.length∧(jJ x).lk=x.lk∧(jJ x).s=x.s∧(jJ x).now=x.now∧(jJ x).g=x.g∧(jJ x).ev=x.ev:=nZ (zk (r9 x) x.g) x x.ts.length
theorem oO (x:aC):(r9 x).length=x.ts.length:=List.length_map ..
theorem L6 {x:aC} {i:Nat} (h:i<x.ts.length):(r9 x).take (i+1)=(r9 x).take i++ [BM (x.ts.getD i default)] :=by
  rw [bD 0 (by rw [oO];exact h)]
  congr 2
  unfold r9;rw [List.getD_eq_getElem?_getD,List.getD_eq_getElem?_getD,List.getElem?_map,List.getElem?_eq_getElem h];rfl
def GC {α:Type} [Inhabited α] (f:α→α) (l:List α):Nat→List α
  |0=>l
  |i+1=>(GC f l i).set i (f (qg (GC f l i) i))
theorem lV {α:Type} [Inhabited α] (f:α→α) (l:List α):∀i,(GC f l i).length=l.length
  |0=>rfl
  |i+1=>by unfold GC;rw [List.length_set];exact lV f l i
theorem y9 {α:Type} [Inhabited α] (f:α→α) (l:List α):∀(i j:Nat),i≤l.length→j<l.length→qg (GC f l i) j=if j<i then f (qg l j) else qg l j
  |0,j,_,_=>rfl
  |i+1,j,hi,hj=>by
    unfold GC
    rw [bK (by rw [lV];omega),y9 f l i i om om,if_neg (Nat.lt_irrefl i),y9 f l i j om hj]
    by_cases e:i=j
    · subst e;rw [if_pos rfl,if_pos (Nat.lt_succ_self i)]
    · rw [if_neg e]
      by_cases e2:j<i
      · rw [if_pos e2,if_pos om]
      · rw [if_neg e2,if_neg om]
theorem CZ {α:Type} [Inhabited α] (f:α→α) (l:List α):GC f l l.length=l.map f:=by
  refine List.ext_getElem (by rw [lV,List.length_map]) (fun j h1 h2=>?_);rw [lV] at h1;have:=y9 f l l.length j (Nat.le_refl _) h1;rw [if_pos h1,FC (by rw [lV];exact h1),FC h1] at this;rw [this,List.getElem_map]
theorem CI.stl {n k:Nat} {cs:List Qm} (h:CI n k cs):∀{i:Nat},i≤cs.length→CI n k (GC eW cs i)
  |0,_=>h
  |i+1,hi=>by
    have h1:=h.stl (i:=i) om;have hl:i<(GC eW cs i).length:=by rw [lV];omega
    unfold GC
    exact h1.set hl (tX (h1.wf.wf i hl)) (by rw [(eg _).1]) (by rw [(eg _).2.2.1];exact h1.rn i hl)
/-! ### an op -/
theorem QV {x:aC} {t:Nat} (ht:t<x.ts.length) (a:Int):gT (zU x t a) t=FK (gT x t) a:=(fD ht _ t).trans (if_pos rfl)
theorem NG {x:aC} {t:Nat} (ht:t<x.ts.length) {a:Int} (h:(FK (gT x t) a).lf=0):pA x t a=dk (zU x t a) t (rM (FK (gT x t) a)):=by
  unfold pA bJ;rw [QV ht];exact if_pos h
theorem S2 {x:aC} {t:Nat} (ht:t<x.ts.length) {a:Int} (h:¬(FK (gT x t) a).lf=0):pA x t a=zU x t a:=by
  unfold pA;rw [QV ht];exact if_neg h
theorem LI.Vl {n k:Nat} {ls:List aY} (h:∀l,l<ls.length→LI n k (qg ls l)) (t:Int):∀l,l<(ls.map (fun L=>iR L t)).length→LI n (k+1) (qg (ls.map (fun L=>iR L t)) l):=fun l hl=>by
  rw [List.length_map] at hl
  unfold qg;rw [List.getD_eq_getElem?_getD,List.getElem?_map,List.getElem?_eq_getElem hl]
  have:=h l hl
  unfold qg at this;rw [List.getD_eq_getElem?_getD,List.getElem?_eq_getElem hl] at this
  exact this.xQ t
/-! ### a lock is taken -/
theorem FL {x:aC} {l:Nat} (hl:l<x.lk.length) (L:aY):gL (bh x l L) l=L:=by
  show (x.lk.set l L).getD l default=L
  rw [List.getD_eq_getElem?_getD,List.getElem?_set_self hl];rfl
def tq (x:aC) (t:Nat) (l:Nat) (o:db):Int:=yG (gL x l) (gT x t).gr (decide (o.k=3))
section
variable {x:aC} {t l:Nat} {o:db} (eO:o.a=(l:Int))
include eO
theorem yI:U3 x t o=tq x t l o:=by unfold U3 tq;rw [eO];rfl
theorem lQ:Ym x t o=c6 (gL x l) t (tq x t l o):=by unfold Ym;rw [yI eO,eO];rfl
theorem Ss:tkC x t o=aN (qk x.g (rI (gL x l))) t:=by unfold tkC;rw [eO];rfl
theorem tF (h8:c6 (gL x l) t (tq x t l o)=8) (h4:o.k≠4):mN x t o=if aN (qk x.g (rI (gL x l))) t=true then 9 else js (gL x l) t (tq x t l o):=by
  unfold mN Qh;rw [lQ eO,Ss eO,yI eO,h8,decide_eq_true h4,eO];rfl
theorem zn (h8:¬(c6 (gL x l) t (tq x t l o)=8∧o.k≠4)):mN x t o=c6 (gL x l) t (tq x t l o):=by
  unfold mN Qh;rw [lQ eO,if_neg (by rw [Bool.and_eq_true,decide_eq_true_eq,decide_eq_true_eq];exact h8)]
theorem KB (he:c6 (gL x l) t (tq x t l o)=0):mX x t o=(bJ (AG (ba (bh x l (cu (gL x l) t (tq x t l o))) 4 t l (dD (gL (bh x l (cu (gL x l) t (tq x t l o))) l) t)) l) t,false):=by
  unfold mX;rw [lQ eO,if_pos he];unfold tk0;rw [yI eO,eO];rfl
theorem KM (he:c6 (gL x l) t (tq x t l o)≠0) (h2:mN x t o≠0):mX x t o=(bJ (ba x 8 t l (mN x t o)) t,false):=by
  unfold mX;rw [lQ eO,if_neg he,if_pos h2];unfold tk1;rw [eO]
theorem HB (he:c6 (gL x l) t (tq x t l o)≠0) (h2:¬mN x t o≠0):mX x t o=(ZF x t o,true):=by
  unfold mX;rw [lQ eO,if_neg he,if_neg h2]
end
def kv (x:aC) (t l:Nat) (o:db):aC:=eC (ba (bh x l (dv (gL x l) t (tq x t l o))) 6 t l 0) t
theorem ym {x:aC} {t l:Nat} {o:db} (eO:o.a=(l:Int)):ZF x t o= {dk (kv x t l o) t (wm (gT x t) o x.now) with g:=Co x.g t (rI (gL (kv x t l o) l))} :=by
  unfold ZF;rw [yI eO,eO];rfl
end Go.Eng
namespace Go.Eng
open Go Go.Proofs Go.RowKit
theorem LL {l:Nat} {x:aC} {to:List Int} {i:Nat} (h:i<to.length):o4 l x (to.take (i+1))=py l (o4 l x (to.take i)) (to.getD i 0):=by
  unfold o4;rw [bD 0 h,List.foldl_append];rfl
def UnT (k:Nat) (L:List Int) (y u:Value) (mr:aa):Prop:=∃ad cap,u= .tuple #[.slice ad L.length cap,y]∧Sl fI 3 1 k L (.slice ad L.length cap) mr
theorem EH {P:Program} {f:FuncId} {args:Array Value} {w:World} {n0 k l:Nat} {bs:List Nat} {ls:List aY} {mm:aa} {L:List Int} {y:Value} {x':aY} (h:jT MC n0 bs ls mm) (hi:l<ls.length) (hm:Mem w mm)
    (hs:∀m,gE n0 (bs.getD l default) (ls.getD l default) ((ls.getD l default).wt.map eD) m→Mem w m→aJ P f args w (eI m (ZW n0 (bs.getD l default) k L y x') w)):
    aJ P f args w (eI mm (fun u m'=>∃mr mx,UnT k L y u mr∧m'=mr++mx∧jT MC n0 bs (ls.set l x') mx) w):=
  h.Vz C8 hi hm (fun m hr hM=>(hs m hr hM).mono (fun u w' hU=>hU.imp (fun u m' ⟨v,mr,mx,h1,h2,h3,h4⟩=>by
    obtain ⟨ad,cap,rfl⟩:=h2.form;exact⟨mr,mx,⟨ad,cap,h1,h2⟩,h3,h4⟩)))
theorem lC {n0 b k l k0 n cap:Nat} {ad:Option Addr} {to:List Int} {s:eL} {x:aC} {m mr:aa} (w:World) (h:dY n0 b s x m) (hI:MI k x) (hk:k≤900000000000) (hl:l<x.lk.length) (hto:∀t∈to,lz x.ts.length t) (h8:to.length≤8) (hn:n=to.length) (CN:Sl fI 3 1 k0 to (.slice ad n cap) mr) (cb:n0≤w.heap.size) (hM:Mem w (m++(mr++ []))):aJ Tryz.prog 62 #[.pointer (some ⟨b,0,none⟩),.int .i64 (l:Nat),.slice ad n cap] w (eI m (fun u m'=>u= .tuple #[]∧dY n0 b s (dz x l to) m') w):=by
 have hmb:=h.b;refine aJ.au Tryz.func62 rfl Tryz.ntmps62 rfl (m++(mr++ [])) ((fS m)) hM ?_;refine J7 ?_;refine af.aS (α:=Nat×aC×aa) (fun ⟨i,y,mi⟩=>[(6,.int .i64 (i:Nat))]) [(0,_),(1,_),(2,_)] (fun ⟨i,y,mi⟩=>mi++(mr++ [])) (fun ⟨i,y,mi⟩=>i≤to.length∧y=o4 l x (to.take i)∧dY n0 b s y mi∧cZ m w.heap.size mi) (fun ⟨i,y,mi⟩=>to.length-i) ((0,x,m)) cm aX ⟨Nat.zero_le _,rfl,h,ay _ _⟩ ?_;rintro ⟨i,y,mi⟩ ⟨hi,hy,WU,Zo⟩;change af _ _ _ _ _ _ _ (mi++(mr++ [])) _ _ _;have RM:MI (k+3*(to.take i).length) y:=(by rw [hy];exact hI.o4 (fun t ht=>hto t (List.mem_of_mem_take ht)));have U6:=uI l (to.take i) x;rw [←hy] at U6;have MB:l<y.lk.length:=(by rw [U6.2.1];exact hl);have HN:=List.length_take_le i to;have uf:=RM.tl;have z4:=RM.ev;refine J9 ?_;refine af.aj rfl (fun h1=>?_) (fun h1=>?_)
 ·have CM:=hto _ (List.mem_of_getElem? (aQ 0 (show i<to.length by omega)));obtain ⟨t,xu⟩:∃t:Nat,to.getD i 0=(t:Nat):=(by unfold lz at CM;exact⟨(to.getD i 0).toNat,by omega⟩);have ht:t<y.ts.length:=(by rw [U6.1];rw [xu] at CM;unfold lz at CM;omega);have Te:0≤(y.ts.getD t default).pc∧(y.ts.getD t default).pc≤((k+3*(to.take i).length:Nat):Int):=(RM.tb t ht).pc;have xa:=(RM.li l MB).hl;refine J9 ?_;refine LM.rd (bw aA ir Tryz.isAgg3 rfl rfl (by first|exact bF om|exact aQ 0 cL) (by rfl)) ?_;refine dB ?_;rw [xu];refine cE Tryz.func101 rfl (fun w hm hc hg=>vp l (t:Nat) w WU MB om (hm.pick mi)) ?_;refine cU Tryz.func55 rfl (fun w hm hc hg=>bV 4 (t:Nat) (l:Nat) (dD (gL y l) t) w WU om (Nat.le_trans cb hc.size) (hm.pick mi)) WU.bW (ao Zo) ?_;rintro u25 m25 ⟨rfl,uk⟩ Lw;obtain ⟨P,hP,uk⟩:=uk;change m25=az b s y.now P at hP;subst hP;obtain ⟨ig,ii,il,ip,ix,it,iv,ie,ic,iq⟩:=bM (ak Zo Lw);have er:Sl Ha 66 12 n0 y.ts (.slice P.DE P.nt P.ct) P.mt:=uk.st;have rP:P.nt=y.ts.length:=uk.nt;have RO:Sl fU 41 1 n0 y.g (.slice P.ax P.nx P.cx) P.mx:=uk.sx;have OR:=uk.nx;have vc:y.g.length=64:=uk.gl;refine dB ?_;refine LM.rd (aH (j:=4) aA ir Tryz.isAgg3 rfl rfl (by first|exact bF om|exact aQ default cL) rfl (by rfl)) ?_;refine J3 ?_;refine LM.iF (rM (gT y t)) (j:=4) aA ir Tryz.sizeOf3 rfl rfl rfl (by first|exact bF om|exact aQ default cL) rfl (by decide) (by rfl) rfl (ao aA) (fun ly dc dK=>?_)
  try rw [List.set_set] at dc
  have Gb:=ca dK aA;refine gw ?_;refine LM.iF (0#64) (j:=0) aA ir Tryz.sizeOf41 rfl rfl rfl (by first|exact bF om|exact aQ 0#64 cL) rfl (by decide) (by rfl) rfl (ao aA) (fun jZ fQ kj=>?_)
  try rw [List.set_set] at fQ
  have H6:=ca kj aA;refine J3 ?_;have wB:dY n0 b s (du (bJ (ba y 4 t l (dD (gL y l) t)) t) t) (az b s y.now {P with mt:=ly,mx:=jZ}):=⟨_,rfl,{uk with nt:=(by show P.nt=(y.ts.set t _).length;rw [List.length_set];exact rP),st:=dc,gl:=(by show (y.g.set t _).length=64;rw [List.length_set];exact vc),sx:=fQ}⟩
  refine J2 ?_;refine cU Tryz.func60 rfl (fun w hm hc hg=>pX t w wB (by show t<(y.ts.set _ _).length;rw [List.length_set];exact ht) (by show y.v.length=(y.ts.set _ _).length;rw [List.length_set];exact RM.vl) (by show (y.ev++ [_]).length≤_;rw [List.length_append,List.length_singleton];omega) (Nat.le_trans cb hc.size) (hm.pick _)) wB.bW (ao aL) ?_;rintro u48 m48 ⟨rfl,U5⟩ I2;refine J8 ?_;refine aK (i+1,py l y (t:Nat),m48) ?_ ?_
  · exact⟨by omega,by rw [LL om,←hy,xu],U5,ak aL I2⟩
  · (dsimp only;omega)
 refine J8 ?_;refine cU Tryz.func102 rfl (fun w hm hc hg=>vF l w WU MB (by have:=(RM.li l MB).hl;omega) (RM.w8 MB) (hm.pick mi)) WU.bW (ao Zo) ?_;rintro u51 NL ⟨rfl,h51⟩ WE;refine J1 ?_;refine QM.leave (.inr rfl) [] Tryz.results62 rfl ?_;intro w' aq ab aI;have fp:i=to.length:=om;subst fp;rw [List.take_length] at hy;exact aZ (m':=NL) ⟨rfl,(by rw [hy] at h51;exact h51)⟩ aq aX ab (ak Zo WE)
set_option maxHeartbeats 2000000 in
theorem pR {n0 b k t:Nat} {s:eL} {x:aC} {m:aa} (w:World) (h:dY n0 b s x m) (hI:MI k x) (hk:k≤800000000000) (ht:t<x.ts.length) (cb:n0≤w.heap.size) (hM:Mem w m):aJ Tryz.prog 32 #[.pointer (some ⟨b,0,none⟩),.int .i64 (t:Nat)] w (eI m (fun u m'=>u= .tuple #[]∧dY n0 b s (kf x t) m') w):=by
 obtain ⟨P,rfl,h⟩:=h;have rP:=h.nt;have er:=h.st;have uN:=h.nl;have sY:=h.bl;have gh:=h.sl;obtain ⟨ig,ii,il,ip,ix,it,iv,ie,ic,iq⟩:=bM (ay (az b s x.now P) w.heap.size);have uf:=hI.tl;refine aJ.au Tryz.func32 rfl Tryz.ntmps32 rfl (az b s x.now P++ []) ((fS (az b s x.now P))) aM ?_;refine cf ?_;refine LM.rd (aH (j:=6) aA ir Tryz.isAgg3 rfl rfl (by first|exact bF om|exact aQ default cL) rfl (by rfl)) ?_;refine J3 ?_;refine af.bH (α:=sD) (fun P0=>[]) [(0,_),(1,_)] (fun P0=>az b s x.now P0++ []) (fun P0=>fN n0 b s (qx x t) P0∧cZ (az b s x.now P) w.heap.size (az b s x.now P0)) cm ?_ ?_
 ·refine af.aj rfl (fun h1=>?_) (fun h1=>?_)
  ·have hl4:=(hI.tb t ht).l4 h1;obtain ⟨l,tI⟩:∃l:Nat,(x.ts.getD t default).lk=(l:Nat):=⟨(gT x t).lk.toNat,(Int.toNat_of_nonneg hl4.1).symm⟩;have gZ:l<x.lk.length:=(by rw [hI.ll];have:(gT x t).lk=(l:Nat):=tI;omega);have hL:=hI.li l gZ;have hLh:=hL.hl;have hdi:qx x t=dz (bh x l (fw (gL x l) t)) l (o9 (gL x l) t):=(by unfold qx;rw [if_pos h1,show (gT x t).lk.toNat=l by rw [show (gT x t).lk=(l:Nat) from tI];rfl])
   refine J9 ?_;refine LM.rd (aH (j:=8) aA ir Tryz.isAgg3 rfl rfl (by first|exact bF om|exact aQ default cL) rfl (by rfl)) ?_;refine J5 ?_;rw [tI];refine J6 ?_;refine LM.rd (bw aA ir Tryz.isAgg54 rfl rfl (by first|exact bF om|exact aQ default cL) (by rfl)) ?_;refine J1 ?_;refine cU Tryz.func61 rfl (fun w hm hc hg=>EH h.sq gZ (hm.pick P.mq) (fun m hr hM=>rG (k:=n0) (t:Nat) w hL.w hr (Nat.le_trans cb hc.size) (by have:=hL.hl;show (gL x l).ho.length≤900;omega) (Nat.le_trans cb hc.size) hM)) (h.sq.bW C8) (ao iq) ?_;rintro u36 UO ⟨mr,VY,⟨adr,Tk,rfl,CN⟩,rfl,BD⟩ Ic;refine LM.assoc ?_;have i36:cZ (az b s x.now P) w.heap.size VY:=fun p hp=>ak iq Ic p (List.mem_append_right _ hp);have xe:dY n0 b s (bh x l (fw (gL x l) t)) (az b s x.now {P with mq:=VY}):=⟨_,rfl,{h with nl:=(by show P.nl=(x.lk.set _ _).length;rw [List.length_set];exact uN),bl:=(by show P.bs.length=(x.lk.set _ _).length;rw [List.length_set];exact sY),sq:=BD}⟩;have oE:=hI.bh (l:=l) (hL.lv t);refine dB ?_;refine cU Tryz.func62 rfl (fun w hm hc hg=>lC w xe oE om (by rw [cA];exact gZ) (hL.i.o9 t) (Nat.le_trans (qT ..) (hI.w8 gZ)) rfl CN (Nat.le_trans cb hc.size) (sm hm)) xe.bW (ao aL) ?_;rintro u42 OD ⟨rfl,Zw⟩ sH;rw [←hdi] at Zw;obtain ⟨P2,Qv,Zw⟩:=Zw;rw [(qZ x t).2.2.2] at Qv;subst Qv;refine J1 ?_;refine mK (P2) ?_
   · exact⟨Zw,ak aL sH⟩
  refine J1 ?_;refine mK (P) ?_
  · exact⟨by rw [show qx x t=x from if_neg h1];exact h,ay _ _⟩
 rintro P0 ⟨h0,abj⟩;change QM _ _ _ _ _ (az b s x.now P0++ []) _ _ _
 clear ig ii il ip ix it iv ie ic iq;have hd0:=qZ x t;obtain ⟨ig,ii,il,ip,ix,it,iv,ie,ic,iq⟩:=bM abj;have RO:=h0.sx;have OR:=h0.nx;have vc:=h0.gl
 refine cK ?_;refine LM.iF (0#64) (j:=0) aA ir Tryz.sizeOf41 rfl rfl rfl (by first|exact bF om|exact aQ 0#64 cL) rfl (by decide) (by rfl) rfl (ao aA) (fun ly dc dK=>?_)
 try rw [List.set_set] at dc
 have Gb:=ca dK aA;refine J9 ?_;refine af.aS (α:=Nat×aC×sD) (fun ⟨i,y,Q⟩=>[(7,.int .i64 (i:Nat))]) [(0,_),(1,_)] (fun ⟨i,y,Q⟩=>az b s x.now Q++ []) (fun ⟨i,y,Q⟩=>i≤x.lk.length∧y=pF t (yW x t) i∧fN n0 b s y Q∧cZ (az b s x.now P) w.heap.size (az b s x.now Q)) (fun ⟨i,y,Q⟩=>x.lk.length-i) ((0,yW x t,{P0 with mx:=ly})) cm aX ⟨Nat.zero_le _,rfl,{h0 with gl:=(by show ((qx x t).g.set _ _).length=64;rw [List.length_set];exact vc),sx:=dc},aL⟩ ?_;rintro ⟨i,y,Q⟩ ⟨hi,hy,hQ,xw⟩;change af _ _ _ _ _ _ _ (az b s x.now Q++ []) _ _ _;have UY:=qX x t;have iA:MI (k+24+25*i) y:=(by rw [hy];exact(hI.yW ht).pF t (by rw [UY.2.1];exact hi));have qa:=kZ t (yW x t) i;rw [←hy] at qa;have WR:y.lk.length=x.lk.length:=qa.2.1.trans UY.2.1;have ri:y.ts.length=x.ts.length:=qa.1.trans UY.1;have mu:y.now=x.now:=qa.2.2.2.trans UY.2.2.2;clear ig ii il ip ix it iv ie ic iq;obtain ⟨ig,ii,il,ip,ix,it,iv,ie,ic,iq⟩:=bM xw;have ai0:=hQ.nl;have aj0:=hQ.bl;have Hp:=hQ.sl;have Pr:=hI.l8;refine cK ?_;refine af.aj rfl (fun h2=>?_) (fun h2=>?_)
 ·refine cK ?_;refine LM.rd (bw aA ir Tryz.isAgg54 rfl rfl (by first|exact bF om|exact aQ default cL) (by rfl)) ?_;refine J1 ?_;refine cE Tryz.func12 rfl (fun w hm hc hg=>hQ.sq.read (i:=i) om (hm.pick Q.mq) (fun m hr hM=>(show aJ _ _ _ _ (fun u w'=>u= .bool (bd (gL y i) (t:Nat))∧Ext _ w') from iW (t:Nat) w hr hM))) ?_;refine J2 ?_;refine af.aW rfl (fun h3=>?_) (fun h3=>?_)
  ·have fp:i<y.lk.length:=om;have ZK:=iA.li i fp;have hLh:=ZK.hl;have pk:dY n0 b s y (az b s x.now Q):=hQ.m;have hd1:r5 t y i=dz (bh (ba y 12 t i 0) i (rk (gL y i) t)) i (ua (gL y i) t):=if_pos h3;have Tm:=iA.ev;refine J5 ?_;refine cU Tryz.func55 rfl (fun w hm hc hg=>bV 12 (t:Nat) (i:Nat) 0 w pk om (Nat.le_trans cb hc.size) (hm.pick _)) pk.bW (ao xw) ?_;rintro u73 m73 ⟨rfl,QD⟩ VF;obtain ⟨P1,kR,QD⟩:=QD;rw [show (ba y 12 t i 0).now=x.now from mu] at kR;subst kR;clear ig ii il ip ix it iv ie ic iq;obtain ⟨ig,ii,il,ip,ix,it,iv,ie,ic,iq⟩:=bM (ak xw VF);have acE:P1.nl=y.lk.length:=QD.nl;have acH:P1.bs.length=y.lk.length:=QD.bl;have alE:=QD.sl;have oE:=iA.kc 12 t i 0;refine cf ?_;refine LM.rd (bw aA ir Tryz.isAgg54 rfl rfl (by first|exact bF om|exact aQ default cL) (by rfl)) ?_;refine J1 ?_;refine cU Tryz.func71 rfl (fun w hm hc hg=>EH QD.sq fp (hm.pick P1.mq) (fun m hr hM=>Ei (k:=n0) (t:Nat) w ZK.w hr (Nat.le_trans cb hc.size) (by show (gL y i).ho.length≤900;omega) (Nat.le_trans cb hc.size) hM)) (QD.sq.bW C8) (ao iq) ?_;rintro u83 m83 ⟨mr,Xs,⟨adr,Tk,rfl,CN⟩,rfl,BD⟩ Jf;refine LM.assoc ?_;have i83:cZ (az b s x.now P) w.heap.size Xs:=fun p hp=>ak iq Jf p (List.mem_append_right _ hp);have wB:dY n0 b s (bh (ba y 12 t i 0) i (rk (gL y i) t)) (az b s x.now {P1 with mq:=Xs}):=fN.m (hn:=mu) {QD with nl:=(by show _=(y.lk.set _ _).length;rw [List.length_set];exact acE),bl:=(by show _=(y.lk.set _ _).length;rw [List.length_set];exact acH),sq:=BD};have p8:=oE.bh (l:=i) (ZK.mono (Nat.le_refl _) (Nat.le_succ _) |>.die t);refine dB ?_;refine cU Tryz.func62 rfl (fun w hm hc hg=>lC w wB p8 om (by rw [cA];exact fp) (ZK.i.ua t) (Nat.le_trans (EJ ..) (iA.w8 fp)) rfl CN (Nat.le_trans cb hc.size) (sm hm)) wB.bW (ao aL) ?_;rintro u89 m89 ⟨rfl,ZY⟩ YC;rw [←hd1] at ZY;obtain ⟨P2,Qv,ZY⟩:=ZY;rw [(A8 t y i).2.2.2,mu] at Qv;subst Qv;refine J8 ?_;refine aK (i+1,r5 t y i,P2) ?_ ?_
   · exact⟨by omega,by rw [kD,←hy],ZY,ak aL YC⟩
   · (dsimp only;omega)
  refine J8 ?_;refine aK (i+1,r5 t y i,Q) ?_ ?_
  · exact⟨by omega,by rw [kD,←hy],by rw [show r5 t y i=y from if_neg (by simpa [bd] using h3)];exact hQ,xw⟩
  · (dsimp only;omega)
 have fp:i=x.lk.length:=om;subst fp;have pk:dY n0 b s y (az b s x.now Q):=hQ.m;refine J9 ?_;refine cU Tryz.func72 rfl (fun w hm hc hg=>pY t w pk (by rw [iA.vl,ri];exact ht) (Nat.le_trans cb hc.size) (hm.pick _)) pk.bW (ao xw) ?_;rintro u92 m92 ⟨rfl,PZ⟩ L3;rw [hy] at PZ;change dY n0 b s (D5 x t) m92 at PZ;have hz:=ux x t;have qS:=hI.D5 ht;obtain ⟨z,ZU⟩:∃z,z=D5 x t:=⟨_,rfl⟩;have UY:kf x t=ba (dk z t (tE (gT z t))) 11 t (-1) 0:=(by rw [ZU];rfl);rw [←ZU] at PZ hz qS;obtain ⟨P1,kR,PZ⟩:=PZ;rw [hz.2.2.2] at kR;subst kR;clear ig ii il ip ix it iv ie ic iq;obtain ⟨ig,ii,il,ip,ix,it,iv,ie,ic,iq⟩:=bM (ak xw L3);have wN:=PZ.nt;have Ea:=PZ.st;have AZ:t<z.ts.length:=(by rw [hz.1];exact ht);have ak9:=qS.ev;refine dB ?_;refine LM.iF ({gT z t with st:=5}) (j:=6) aA ir Tryz.sizeOf3 rfl rfl rfl (by first|exact bF om|exact aQ default cL) rfl (by decide) (by rfl) rfl (ao aA) (fun jZ fQ kj=>?_)
 try rw [List.set_set] at fQ
 have H6:=ca kj aA;refine dB ?_;refine LM.iF ({gT z t with st:=5,un:=0#64}) (j:=7) aA ir Tryz.sizeOf41 rfl rfl rfl (by first|exact bF om|exact aQ default cL) rfl (by decide) (by rfl) rfl (ao aA) (fun p9 kk so=>?_)
 try rw [List.set_set] at kk
 have TK:=ca so aA;refine dB ?_;refine LM.iF ({gT z t with st:=5,un:=0#64,lk:= -1}) (j:=8) aA ir Tryz.sizeOf3 rfl rfl rfl (by first|exact bF om|exact aQ default cL) rfl (by decide) (by rfl) rfl (ao aA) (fun ms4 Gg Mp=>?_)
 try rw [List.set_set] at Gg
 have ii4:=ca Mp aA;refine dB ?_;refine LM.iF (tE (gT z t)) (j:=5) aA ir Tryz.sizeOf3 rfl rfl rfl (by first|exact bF om|exact aQ default cL) rfl (by decide) (by rfl) rfl (ao aA) (fun ms5 Ja T6=>?_)
 try rw [List.set_set] at Ja
 have ii5:=ca T6 aA;refine J3 ?_;have Jc:dY n0 b s (dk z t (tE (gT z t))) (az b s x.now {P1 with mt:=ms5}):=fN.m (hn:=hz.2.2.2) {PZ with nt:=(by rw [bt];exact wN),st:=Ja};refine J2 ?_;refine cU Tryz.func55 rfl (fun w hm hc hg=>bV 11 (t:Nat) (-1) 0 w Jc (by show z.ev.length≤_;omega) (Nat.le_trans cb hc.size) (hm.pick _)) Jc.bW (ao aL) ?_;rintro amm ael ⟨rfl,abp⟩ S3;refine J1 ?_;refine QM.leave (.inr rfl) [] Tryz.results32 rfl ?_;intro w' aq ab aI;exact aZ (m':=ael) ⟨rfl,by rw [UY];exact abp⟩ aq aX ab (ak aL S3)
structure CH (n0 b:Nat) (qs:List Qm) (ad:Option Addr) (n cap:Nat) (bs:List Nat) (ms:aa) (m:aa):Prop where
  wf:rq qs
  nl:n=qs.length
  sl:Sl fP 122 1 n0 bs (.slice ad n cap) ms
  hm:∃mm,m=gv b ad n cap::(ms++mm)∧jT g8 n0 bs qs mm
  hb:n0≤b
section
variable {n0 b n cap:Nat} {qs:List Qm} {ad:Option Addr} {bs:List Nat} {m ms:aa}
theorem RcM.x (h:RcM n0 b qs m):∃ad n cap bs ms,CH n0 b qs ad n cap bs ms m:=by
  obtain ⟨hw,ad,n,cap,ms,mm,bs,rfl,hn,hs,hq,hb⟩:=h;exact⟨ad,n,cap,bs,ms,hw,hn,hs,⟨mm,rfl,hq⟩,hb⟩
theorem CH.c (h:CH n0 b qs ad n cap bs ms m):RcM n0 b qs m:=by
  obtain ⟨hw,hn,hs,⟨mm,rfl,hq⟩,hb⟩:=h;exact⟨hw,ad,n,cap,ms,mm,bs,rfl,hn,hs,hq,hb⟩
theorem CH.len (h:CH n0 b qs ad n cap bs ms m):bs.length=qs.length:=by obtain ⟨hw,hn,hs,⟨mm,rfl,hq⟩,hb⟩:=h;exact hq.len
theorem CH.ld (h:CH n0 b qs ad n cap bs ms m) {w:World} (hM:Mem w m):Mem w (gv b ad n cap::(ms++ [])):=by
  obtain ⟨hw,hn,hs,⟨mm,rfl,hq⟩,hb⟩:=h;refine hM.sub (List.Sublist.cons_cons _ ?_);rw [List.append_nil];exact List.sublist_append_left _ _
theorem CH.mm (h:CH n0 b qs ad n cap bs ms m) {i:Nat} (hi:i<qs.length):∃(rj:Option Addr) (n2 gy:Nat) (Mt:aa),n2=(qg qs i).l.length∧mA (qg qs i)∧Sl wX 137 3 n0 (qg qs i).l (.slice rj n2 gy) Mt∧∀w,Mem w m→Mem w (dI (bs.getD i default) (qg qs i).g (qg qs i).fl rj n2 gy (qg qs i).cur (qg qs i).cI::Mt):=by
  obtain ⟨hw,hn,hs,⟨mm,rfl,hq⟩,hb⟩:=h;obtain ⟨rj,n2,gy,Mt,h1,h2,h3,h4⟩:=hq.B9 hi;exact⟨rj,n2,gy,Mt,h1,h2,h3,fun w hM=>h4 w (hM.sub ((List.sublist_append_right ms mm).cons _))⟩
theorem CH.read {P:Program} {f:FuncId} {args:Array Value} {w:World} {Q:Value→World→Prop} {i:Nat} (h:CH n0 b qs ad n cap bs ms m) (hi:i<qs.length) (hM:Mem w m)
    (hs:∀m,g8 n0 (bs.getD i default) (qg qs i) m→Mem w m→aJ P f args w Q):aJ P f args w Q:=by
  obtain ⟨hw,hn,FZ,⟨mm,rfl,hq⟩,hb⟩:=h;exact hq.read hi (hM.sub ((List.sublist_append_right ms mm).cons _)) hs
theorem CH.AE {P:Program} {f:FuncId} {args:Array Value} {w:World} {u0:Value} {x':Qm} {i:Nat} (h:CH n0 b qs ad n cap bs ms m) (hi:i<qs.length) (hM:Mem w m) (UX:rq (qs.set i x'))
    (hs:∀m,g8 n0 (bs.getD i default) (qg qs i) m→Mem w m→aJ P f args w (eI m (fun u m'=>u=u0∧g8 n0 (bs.getD i default) x' m') w)):
    aJ P f args w (eI m (fun u m'=>u=u0∧CH n0 b (qs.set i x') ad n cap bs ms m') w):=by
  obtain ⟨hw,hn,FZ,⟨mm,rfl,hq⟩,hb⟩:=h;have hp:((gv b ad n cap::(ms++mm)):aa).Perm (mm++(gv b ad n cap::ms)):=(List.perm_append_comm (l₁:=gv b ad n cap::ms) (l₂:=mm))
  have hMm:=hM.perm hp;refine (hq.AE G0 hi (hM.sub ((List.sublist_append_right ms mm).cons _)) hs).mono (fun u w' hU=>?_);obtain ⟨m',⟨hu,hr⟩,jF,hM',hC,_⟩:=vm (G:=top) (S:=fun b'=>∃q∈(gv b ad n cap::(ms++mm):aa),q.1=b') (w0:=w) hMm (hq.bW G0) (fun p Pq _=>⟨p,List.mem_cons_of_mem _ (List.mem_append_right _ Pq),rfl⟩) (cX.refl _ _) trivial hU;refine ⟨hC,gv b ad n cap::(ms++m'),⟨hu,UX,by rw [List.length_set];exact hn,FZ,⟨m',rfl,hr⟩,hb⟩,hM'.perm (List.perm_append_comm (l₁:=gv b ad n cap::ms) (l₂:=m')).symm,fun p Pq=>?_⟩;rcases List.mem_cons.1 Pq with rfl|Pq
  · exact .inr ⟨_,List.mem_cons_self ..,rfl⟩
  rcases List.mem_append.1 Pq with Pq|Pq
  · exact .inr ⟨p,List.mem_cons_of_mem _ (List.mem_append_left _ Pq),rfl⟩
  · rcases jF p Pq with e|⟨q,hq,e⟩
    · exact .inl e
    · exact .inr ⟨q,List.mem_cons_of_mem _ (List.mem_append_right _ hq),e⟩
end
set_option maxHeartbeats 2000000 in
theorem jd {n0 b k:Nat} {s:eL} {x:aC} {m:aa} (w:World) (h:dY n0 b s x m) (hI:MI k x) (cb:n0≤w.heap.size) (hM:Mem w m):aJ Tryz.prog 31 #[.pointer (some ⟨b,0,none⟩)] w (eI m (fun u m'=>u= .tuple #[]∧dY n0 b s (jJ x) m') w):=by
 obtain ⟨P,rfl,h⟩:=h;have rP:=h.nt;have er:=h.st;have uf:=hI.tl;refine aJ.au Tryz.func31 rfl Tryz.ntmps31 rfl (az b s x.now P++ []) ((fS (az b s x.now P))) aM ?_;refine cK ?_;refine af.aS (α:=Nat×Option Addr×Nat×Nat×aa) (fun ⟨i,dH,no,bL,mo⟩=>[(2,.slice dH no bL),(3,.int .i64 (i:Nat))]) [(0,_)] (fun ⟨i,dH,no,bL,mo⟩=>az b s x.now P++(mo++ [])) (fun ⟨i,dH,no,bL,mo⟩=>i≤x.ts.length∧no=i∧Sl fI 3 1 w.heap.size ((r9 x).take i) (.slice dH no bL) mo) (fun ⟨i,dH,no,bL,mo⟩=>x.ts.length-i) ((0,none,0,0,[])) cm aX ⟨Nat.zero_le _,rfl,.nil _ _ _ _⟩ ?_;rintro ⟨i,dH,no,bL,mo⟩ ⟨hi,fH,jS⟩;change af _ _ _ _ _ _ _ (az b s x.now P++(mo++ [])) _ _ _;have ioo:cZ (az b s x.now P) w.heap.size mo:=(fun p hp=> .inl (jS.ge p hp));have Ou:((r9 x).take i).length=i:=(by rw [List.length_take,oO];omega)
 refine cK ?_;refine af.aj rfl (fun h1=>?_) (fun h1=>?_)
 ·refine gw ?_;refine LM.rd (aH (j:=9) aA ir Tryz.isAgg3 rfl rfl (by first|exact bF om|exact aQ default cL) rfl (by rfl)) ?_;refine gw ?_;refine LM.rd (aH (j:=6) aA ir Tryz.isAgg3 rfl rfl (by first|exact bF om|exact aQ default cL) rfl (by rfl)) ?_;refine J3 ?_;refine af.bH (α:=Unit) (fun ⟨⟩=>[(4,.int .i64 (BM (x.ts.getD i default)))]) [(0,_),(2,_),(3,_)] (fun ⟨⟩=>az b s x.now P++(mo++ [])) (fun ⟨⟩=>True) cm ?_ ?_
  ·refine af.aj rfl (fun h2=>?_) (fun h2=>?_)
   ·refine J3 ?_;refine QM.xG (⟨⟩) ⟨(by first|exact lk rfl (congrArg (Value.int .i64) (show _=BM _ from (if_pos aA).symm))|exact lk rfl (congrArg (Value.int .i64) (show _=BM _ from (if_neg aA).symm))),rfl,rfl,rfl,trivial⟩ aX ?_
    · trivial
   refine J1 ?_;refine QM.xG (⟨⟩) ⟨(by first|exact lk rfl (congrArg (Value.int .i64) (show _=BM _ from (if_pos aA).symm))|exact lk rfl (congrArg (Value.int .i64) (show _=BM _ from (if_neg aA).symm))),rfl,rfl,rfl,trivial⟩ aX ?_
   · trivial
  rintro ⟨⟩ _;change QM _ _ _ _ _ (az b s x.now P++(mo++ [])) _ _ _;refine J4 ?_;refine LM.single Tryz.underlying26 Tryz.sizeOf3 Tryz.zeroValue3 rfl rfl rfl rfl rfl (fun b37 Wx=>?_);refine LM.app (a:=BM (x.ts.getD i default)) Tryz.underlying26 Tryz.typeInfo3 rfl rfl rfl rfl rfl rfl rfl aA (by rfl) ir (by intro _ u hu;simp [fI] at hu;(repeat (first|(rcases hu with rfl|hu)|subst hu|rfl))) (by first|exact Nat.le_refl _|omega) (ao aA) (by first|omega|(unfold maxLen;omega)) (by simp only [Tryz.t3];omega) (fun Hv PQ xB TN Q6 Ka ta=>?_);have aa0:=ak aA ta;refine J9 ?_;refine aK (i+1,Hv,PQ,xB,TN) ?_ ?_
  · exact⟨by omega,by omega,by rw [L6 om];exact Ka⟩
  · (dsimp only;omega)
 refine J7 ?_;have fp:i=x.ts.length:=om;subst fp;rw [List.take_of_length_le (by rw [oO];exact Nat.le_refl _)] at jS;refine J5 ?_;refine LM.cS (oC Tryz.func67) (fun w hm hc hg=>Gw P.bg w h.gl hI.gi.a h.nx h.sx (by rw [oO];omega) (Sl.k8 jS (fun _=>rfl) hm) (by rw [oO];omega) (sm hm)) (fun akf n44 ag9 ZV acx aeL=>?_);obtain ⟨fy,hef⟩:∃fy,fy=zk (r9 x) x.g:=⟨_,rfl⟩;have hel:fy.length=x.ts.length:=(by rw [hef];unfold zk BQ;rw [List.length_map,List.length_range,oO];omega);rw [←hef] at aeL acx;refine cf ?_;refine af.aS (α:=Nat×aC×sD) (fun ⟨i,y,Q⟩=>[(6,.int .i64 (i:Nat))]) [(0,_),(5,_)] (fun ⟨i,y,Q⟩=>az b s x.now Q++(ZV++ [])) (fun ⟨i,y,Q⟩=>i≤x.ts.length∧y=tK fy x i∧fN n0 b s y Q∧cZ (az b s x.now P) w.heap.size (az b s x.now Q)) (fun ⟨i,y,Q⟩=>x.ts.length-i) ((0,x,P)) cm aX ⟨Nat.zero_le _,rfl,h,ay _ _⟩ ?_;rintro ⟨i,y,Q⟩ ⟨hi,hy,hQ,xw⟩;change af _ _ _ _ _ _ _ (az b s x.now Q++(ZV++ [])) _ _ _;have iA:MI k y:=(by rw [hy];exact hI.tK fy hi);have qa:=nZ fy x i;rw [←hy] at qa;have ri:y.ts.length=x.ts.length:=qa.1;have mu:y.now=x.now:=qa.2.2.2.1;obtain ⟨ig,ii,il,ip,ix,it,iv,ie,ic,iq⟩:=bM xw;have Ld:=hQ.st;have Oe:=hQ.nt;obtain ⟨mD,nq,je,Fg,rm,hX⟩:=hQ.sc.x;have Rv:=hX.sl;have hXl:=hX.len;have hXn:=hX.nl;refine cK ?_;refine af.aj rfl (fun h3=>?_) (fun h3=>?_)
 ·refine J6 ?_;refine af.draw [(0,0),(1,0),(2,0),(3,1),(4,0),(5,0),(6,0),(7,1),(8,0),(9,0),(10,0),(11,0),(12,0),(13,1),(14,0),(15,0),(16,0),(17,1),(18,0),(19,0),(20,0),(21,1),(22,0),(23,0)] kr kr ?_;refine J7 ?_;refine LD.rd rfl rfl (aH (j:=6) aA ir Tryz.isAgg3 rfl rfl (by first|exact bF om|exact aQ default cL) rfl (by rfl)) ?_;refine J2 ?_;refine LD.ar (t:=63) rfl (fun h4=>?_) (fun h4=>?_)
  ·refine Uz ?_;refine aK (i+1,ug fy y i,Q) ?_ ?_
   · exact⟨by omega,by rw [jo,←hy],by rw [show ug fy y i=y from if_pos (.inl h4)];exact hQ,xw⟩
   · (dsimp only;omega)
  refine J7 ?_;refine LD.rd rfl ⟨63,_,rfl,rfl,rfl⟩ (aH (j:=10) aA ir Tryz.isAgg3 rfl rfl (by first|exact bF om|exact aQ default cL) rfl (by rfl)) ?_;refine J3 ?_;refine LD.rd rfl ⟨63,_,rfl,rfl,rfl⟩ (bw aA ir Tryz.isAgg3 rfl rfl (by first|exact bF om|exact aQ 0 cL) (by rfl)) ?_;refine J4 ?_;refine af.aj rfl (fun h5=>?_) (fun h5=>?_)
  ·refine J9 ?_;refine aK (i+1,ug fy y i,Q) ?_ ?_
   · exact⟨by omega,by rw [jo,←hy],by rw [show ug fy y i=y from if_pos (.inr h5)];exact hQ,xw⟩
   · (dsimp only;omega)
  have Z8:ug fy y i= {dk y i {gT y i with ef:=fy.getD i 0} with cs:=j5 y.cs i (fy.getD i 0)} :=if_neg (fun q=>q.elim h4 h5);refine J3 ?_;refine af.keep (uH b s x.now Q::(ZV++ [])) (fun _=>True) (.one 0 0 (.one 1 0 (.one 2 0 (.one 3 1 (.one 4 0 (.one 5 0 (.one 6 0 (.one 7 0 (.one 8 1 (.one 9 0 (.one 10 0 (.last 11)))))))))))) kr kr aX (fun _ _=>trivial) ?_;refine J8 ?_;refine KD.rd rfl rfl (bw aA ir Tryz.isAgg3 rfl rfl (by first|exact bF om|exact aQ 0 cL) (by rfl)) ?_;refine J2 ?_;refine KD.last rfl ?_;refine LM.iF ({y.ts.getD i default with ef:=fy.getD i 0}) (j:=10) aA ir Tryz.sizeOf3 rfl rfl rfl (by first|exact bF om|exact aQ default cL) rfl (by decide) (by rfl) rfl (ao aA) (fun ly dc dK=>?_)
  try rw [List.set_set] at dc
  have Gb:=ca dK aA;refine J1 ?_;refine QM.qn ?_;refine J8 ?_;refine cE Tryz.func68 rfl (fun w hm hc hg=>kG (i:Nat) w hQ.sc (hm.pick Q.mc)) ?_;refine J9 ?_;refine af.aj rfl (fun h6=>?_) (fun h6=>?_)
  ·have lP:bO y.cs i<y.cs.length:=yE om;have hcw:j5 y.cs i (fy.getD i 0)=y.cs.set (bO y.cs i) (lG (qg y.cs (bO y.cs i)) i (fy.getD i 0)):=if_pos lP;refine af.draw [(0,0),(1,0),(2,0),(3,1),(4,0),(5,0),(6,1),(7,0),(8,0),(9,1),(10,0),(11,0),(12,0),(13,0),(14,1),(15,3)] kr kr ?_;rw [qz lP];refine J6 ?_;refine LD.eT rfl rfl (fun w hm hc hg=>fF (M:=gv Q.bc mD nq je::(rm++ [])) Tryz.isAgg118 rfl rfl w (hX.ld (hm.pick Q.mc))) ?_;refine J2 ?_;refine LD.eT rfl rfl (fun w hm hc hg=>aH (M:=gv Q.bc mD nq je::(rm++ [])) (i:=bO y.cs i) (j:=0) Rv ir Tryz.isAgg122 rfl rfl (aQ (xs:=Fg) default om) rfl (by rfl) w (hX.ld (hm.pick Q.mc))) ?_;refine J4 ?_;refine LD.rd rfl rfl (bw aA ir Tryz.isAgg3 rfl rfl (by first|exact bF om|exact aQ 0 cL) (by rfl)) ?_;refine LD.tail rfl rfl ?_;refine cU Tryz.func69 rfl (fun w hm hc hg=>hX.AE lP (hm.pick Q.mc) (by rw [←hcw];exact(iA.ci.wgh _ _).wf) (fun m hr hM=>DS (i:Nat) (fy.getD i 0) w hr hM)) hQ.sc.bW (ao ic) ?_;rintro aeb Wm ⟨rfl,Kp⟩ Ep;have i112:=ak ic Ep;refine J1 ?_;refine QM.qn ?_;refine J7 ?_;refine aK (i+1,ug fy y i,{Q with mt:=ly,mc:=Wm}) ?_ ?_
   · exact⟨by omega,by rw [jo,←hy],by rw [Z8];exact {hQ with nt:=(by rw [bt];exact Oe),st:=dc,sc:=(by show RcM _ _ (j5 _ _ _) _;rw [hcw];exact Kp.c)},aL⟩
   · (dsimp only;omega)
  refine J8 ?_;refine aK (i+1,ug fy y i,{Q with mt:=ly}) ?_ ?_
  · exact⟨by omega,by rw [jo,←hy],by rw [Z8];exact {hQ with nt:=(by rw [bt];exact Oe),st:=dc,sc:=(by show RcM _ _ (j5 _ _ _) _;rw [show j5 y.cs i (fy.getD i 0)=y.cs from if_neg (zj om)];exact hQ.sc)},aL⟩
  · (dsimp only;omega)
 have hyF:y=tK (zk (r9 x) x.g) x x.ts.length:=(by rw [hy,←hef,show i=x.ts.length by omega])
 refine dB ?_;refine af.aS (α:=Nat×List Qm×aa) (fun ⟨i,cs,mc⟩=>[(8,.int .i64 (i:Nat))]) [(0,_)] (fun ⟨i,cs,mc⟩=>az b s x.now {Q with mc:=mc} ++ []) (fun ⟨i,cs,mc⟩=>i≤y.cs.length∧cs=GC eW y.cs i∧RcM n0 Q.bc cs mc∧cZ (az b s x.now P) w.heap.size mc) (fun ⟨i,cs,mc⟩=>y.cs.length-i) ((0,y.cs,Q.mc)) cm aX ⟨Nat.zero_le _,rfl,hQ.sc,ic⟩ ?_;rintro ⟨i,cs,mc⟩ ⟨hi,wx,hRc,hic⟩;change af _ _ _ _ _ _ _ (az b s x.now {Q with mc:=mc} ++ []) _ _ _;have hCi:CI y.ts.length k cs:=(by rw [wx];exact iA.ci.stl hi);have ks:cs.length=y.cs.length:=(by rw [wx,lV]);obtain ⟨mD,nq,je,Fg,rm,hX⟩:=hRc.x;have Rv:=hX.sl;have hXl:=hX.len;have hXn:=hX.nl;have Zu:=iA.ci.wf.len;refine cf ?_;refine LM.eT (fun w hm hc hg=>fF (M:=gv Q.bc mD nq je::(rm++ [])) Tryz.isAgg118 rfl rfl w (hX.ld (hm.pick mc))) ?_;refine J4 ?_;refine af.aj rfl (fun h7=>?_) (fun h7=>?_)
 ·refine dB ?_;refine LM.eT (fun w hm hc hg=>fF (M:=gv Q.bc mD nq je::(rm++ [])) Tryz.isAgg118 rfl rfl w (hX.ld (hm.pick mc))) ?_;refine J2 ?_;refine LM.eT (fun w hm hc hg=>aH (M:=gv Q.bc mD nq je::(rm++ [])) (j:=0) Rv ir Tryz.isAgg122 rfl rfl (aQ (xs:=Fg) default om) rfl (by rfl) w (hX.ld (hm.pick mc))) ?_;refine cU Tryz.func70 rfl (fun w hm hc hg=>hX.AE (i:=i) om (hm.pick mc) ((hCi.set om (tX (hCi.wf.wf i om)) (by rw [(eg _).1]) (by rw [(eg _).2.2.1];exact hCi.rn i om)).wf) (fun m hr hM=>wU w hr hM)) hRc.bW (ao hic) ?_;rintro XI Kw ⟨rfl,SQ⟩ C5;refine J8 ?_;refine aK (i+1,cs.set i (eW (qg cs i)),Kw) ?_ ?_
  · exact⟨by omega,by rw [wx];rfl,SQ.c,ak hic C5⟩
  · (dsimp only;omega)
 refine J4 ?_;refine QM.leave (.inr rfl) [] Tryz.results31 rfl ?_;intro w' aq ab aI;have acq:i=y.cs.length:=om;subst acq;rw [CZ] at wx;have Z8:jJ x= {y with cs:=cs} :=(by rw [wx,hyF];rfl);exact aZ (m':=az b s x.now {Q with mc:=mc}) ⟨rfl,by rw [Z8];exact fN.m (hn:=mu) {hQ with sc:=hRc}⟩ aq aX ab aL
abbrev oL (ok:Int) (l:Nat) (ob:Int):db:=⟨ok,(l:Int),ob⟩
set_option maxHeartbeats 2000000 in
theorem DN {n0 b k t:Nat} {s:eL} {x:aC} {m:aa} (o:db) (w:World) (h:dY n0 b s x m) (hI:MI k x) (hk:k≤800000000000) (ht:t<x.ts.length) (hoa:1≤o.a∧o.a≤64) (cb:n0≤w.heap.size) (hM:Mem w m):aJ Tryz.prog 96 #[.pointer (some ⟨b,0,none⟩),.int .i64 (t:Nat),.agg (fO o).toArray] w (eI m (fun u m'=>u= .tuple #[]∧dY n0 b s (pA x t o.a) m') w):=by
 obtain ⟨P,rfl,h⟩:=h;have rP:=h.nt;have er:=h.st;have uf:=hI.tl;obtain ⟨ig,ii,il,ip,ix,it,iv,ie,ic,iq⟩:=bM (ay (az b s x.now P) w.heap.size);refine aJ.au Tryz.func96 rfl Tryz.ntmps96 rfl (az b s x.now P++ []) ((fS (az b s x.now P))) aM ?_;refine J2 ?_;refine LM.box rfl rfl (fun b5 KU=>?_);refine cK ?_;refine LM.rd (aH (j:=5) aA ir Tryz.isAgg3 rfl rfl (by first|exact bF om|exact aQ default cL) rfl (by rfl)) ?_;refine J3 ?_;refine af.bH (α:=aa) (fun mt=>[]) [(0,_),(1,_)] (fun mt=>zJ b s x.now P P.mx mt P.mc P.mq++(oB b5 o:: [])) (fun mt=>Sl Ha 66 12 n0 (x.ts.set t {gT x t with lf:=Db (gT x t) o.a}) (.slice P.DE P.nt P.ct) mt∧cZ (az b s x.now P) w.heap.size mt) cm ?_ ?_
 ·refine af.aj rfl (fun h1=>?_) (fun h1=>?_)
  ·refine af.keep (uH b s x.now P::oB b5 o:: []) (fun _=>True) (.one 0 0 (.one 1 0 (.one 2 0 (.one 3 1 (.one 4 0 (.one 5 0 (.one 6 1 (.one 7 0 (.one 8 0 (.last 9)))))))))) kr kr aX (fun _ _=>trivial) ?_;refine J9 ?_;refine KD.last rfl ?_;refine LM.iF ({gT x t with lf:=o.a}) (j:=5) aA ir Tryz.sizeOf3 rfl rfl rfl (by first|exact bF om|exact aQ default cL) rfl (by decide) (by rfl) rfl (ao aA) (fun ly dc dK=>?_)
   try rw [List.set_set] at dc
   have Gb:=ca dK aA;refine J1 ?_;refine QM.qn ?_;refine mK (ly) ?_
   · exact⟨by rw [show Db (gT x t) o.a=o.a from if_pos h1];exact dc,Gb⟩
  refine J1 ?_;refine mK (P.mt) ?_
  · exact⟨by rw [show Db (gT x t) o.a=(gT x t).lf from if_neg h1,show ({gT x t with lf:=(gT x t).lf} :iN)=gT x t from rfl,zQ default ht];exact er,it⟩
 rintro mt ⟨Ea,it1⟩;change QM _ _ _ _ _ (zJ b s x.now P P.mx mt P.mc P.mq++(oB b5 o:: [])) _ _ _;have hlf:=(hI.tb t ht).lf;have hl0:1≤Db (gT x t) o.a∧Db (gT x t) o.a≤64:=(by unfold Db;split<;>omega);have hlq:({gT x t with lf:=Db (gT x t) o.a} :iN).lf=Db (gT x t) o.a:=rfl;refine cf ?_;refine LM.rd (aH (j:=5) aA ir Tryz.isAgg3 rfl rfl (by first|exact bF om|exact aQ default cL) rfl (by rfl)) ?_;refine J3 ?_;refine LM.iF (FK (gT x t) o.a) (j:=5) aA ir Tryz.sizeOf3 rfl rfl rfl (by first|exact bF om|exact aQ default cL) rfl (by decide) (by rfl) rfl (ao aA) (fun ly dc dK=>?_)
 try rw [List.set_set] at dc
 have Gb:=ca dK aA;refine J9 ?_;refine af.aS (α:=Nat×List aY×aa) (fun ⟨i,ls,mq⟩=>[(6,.int .i64 (i:Nat))]) [(0,_),(1,_)] (fun ⟨i,ls,mq⟩=>zJ b s x.now P P.mx ly P.mc mq++(oB b5 o:: [])) (fun ⟨i,ls,mq⟩=>i≤x.lk.length∧ls=GC (fun L=>iR L t) x.lk i∧jT MC n0 P.bs ls mq∧cZ (az b s x.now P) w.heap.size mq) (fun ⟨i,ls,mq⟩=>x.lk.length-i) ((0,x.lk,P.mq)) cm aX ⟨Nat.zero_le _,rfl,h.sq,iq⟩ ?_;rintro ⟨i,ls,mq⟩ ⟨hi,um,hq,UE⟩;change af _ _ _ _ _ _ _ (zJ b s x.now P P.mx ly P.mc mq++(oB b5 o:: [])) _ _ _;have KF:ls.length=x.lk.length:=(by rw [um,lV]);have uN:=h.nl;have sY:=h.bl;have gh:=h.sl;have Pr:=hI.l8;have hgi:∀j,i≤j→j<x.lk.length→qg ls j=gL x j:=(fun j h1 h2=>by rw [um,y9 _ _ _ _ hi h2,if_neg om])
 refine cK ?_;refine af.aj rfl (fun h2=>?_) (fun h2=>?_)
 ·refine cK ?_;refine LM.rd (bw aA ir Tryz.isAgg54 rfl rfl (by first|exact bF om|exact aQ default cL) (by rfl)) ?_;refine J1 ?_;refine cE Tryz.func12 rfl (fun w hm hc hg=>hq.read (i:=i) om (hm.pick mq) (fun m hr hM=>(show aJ _ _ _ _ (fun u w'=>u= .bool (bd (qg ls i) (t:Nat))∧Ext _ w') from iW (t:Nat) w hr hM))) ?_;refine J2 ?_;refine af.aW rfl (fun h3=>?_) (fun h3=>?_)
  ·refine J7 ?_;refine LM.rd (bw aA ir Tryz.isAgg54 rfl rfl (by first|exact bF om|exact aQ default cL) (by rfl)) ?_;refine J1 ?_;refine cU Tryz.func136 rfl (fun w hm hc hg=>hq.AE C8 (i:=i) om (hm.pick mq) (fun m hr hM=>(D6 (t:Nat) w hr (by rw [hgi i (Nat.le_refl _) om];exact(hI.li i om).w.hk) (by rw [hgi i (Nat.le_refl _) om];exact fun p hp=>by have:=(hI.li i om).b.hh p hp;omega) (by rw [hgi i (Nat.le_refl _) om];have:=(hI.li i om).b.tu;omega) hM))) (hq.bW C8) (ao UE) ?_;rintro u62 Z2 ⟨rfl,h62⟩ Ys;refine J8 ?_;refine aK (i+1,ls.set i (iR (qg ls i) t),Z2) ?_ ?_
   · exact⟨by omega,by rw [um];rfl,h62,ak UE Ys⟩
   · (dsimp only;omega)
  refine J8 ?_;refine aK (i+1,ls.set i (iR (qg ls i) t),mq) ?_ ?_
  · exact⟨by omega,by rw [um];rfl,by rw [KC (by simpa using h3),show qg ls i=ls.getD i default from rfl,zQ default om];exact hq,UE⟩
  · (dsimp only;omega)
 have fp:i=x.lk.length:=om;subst fp;rw [CZ] at um;have Te:0≤(FK (gT x t) o.a).pc∧(FK (gT x t) o.a).pc≤(k:Int):=(hI.tb t ht).pc;refine lg ?_;refine LM.rd (aH (j:=5) aA ir Tryz.isAgg3 rfl rfl (by first|exact bF om|exact aQ default cL) rfl (by rfl)) ?_;refine J3 ?_;refine af.aj rfl (fun h4=>?_) (fun h4=>?_)
 ·refine J8 ?_;refine LM.rd (aH (j:=4) aA ir Tryz.isAgg3 rfl rfl (by first|exact bF om|exact aQ default cL) rfl (by rfl)) ?_;refine J3 ?_;refine LM.iF (rM (FK (gT x t) o.a)) (j:=4) aA ir Tryz.sizeOf3 rfl rfl rfl (by first|exact bF om|exact aQ default cL) rfl (by decide) (by rfl) rfl (ao aA) (fun jZ fQ kj=>?_)
  try rw [List.set_set] at fQ
  have H6:=ca kj aA;refine J1 ?_;refine QM.leave (.inr rfl) [] Tryz.results96 rfl ?_;intro w' aq ab aI;refine aZ (m':=zJ b s x.now P P.mx jZ P.mc mq) ⟨rfl,?_⟩ aq aX ab (aL (P:= {P with mt:=jZ,mq:=mq}));rw [NG ht h4,show zU x t o.a= {dk x t (FK (gT x t) o.a) with lk:=ls} by rw [um];rfl];exact fN.m (P:= {P with mt:=jZ,mq:=mq}) {h with nt:=(by rw [bt];exact(bt x t _).symm▸rP),st:=(by show Sl _ _ _ _ ((x.ts.set t _).set t _) _ _;rw [List.set_set];exact fQ),nl:=(by show _=ls.length;rw [KF];exact h.nl),bl:=(by show _=ls.length;rw [KF];exact h.bl),sq:=hq}
 refine J1 ?_;refine QM.leave (.inr rfl) [] Tryz.results96 rfl ?_;intro w' aq ab aI;refine aZ (m':=zJ b s x.now P P.mx ly P.mc mq) ⟨rfl,?_⟩ aq aX ab (aL (P:= {P with mt:=ly,mq:=mq}));rw [S2 ht h4,show zU x t o.a= {dk x t (FK (gT x t) o.a) with lk:=ls} by rw [um];rfl];exact fN.m (P:= {P with mt:=ly,mq:=mq}) {h with nt:=(by show _=(x.ts.set t _).length;rw [List.length_set];exact rP),st:=dc,nl:=(by show _=ls.length;rw [KF];exact h.nl),bl:=(by show _=ls.length;rw [KF];exact h.bl),sq:=hq}
set_option maxHeartbeats 2000000 in
theorem BN {n0 b k t l:Nat} {ok ob:Int} {s:eL} {x:aC} {m:aa} (w:World) (h:dY n0 b s x m) (hI:MI k x) (hk:k≤800000000000) (ht:t<x.ts.length) (gZ:l<x.lk.length) (cb:n0≤w.heap.size) (hM:Mem w m):aJ Tryz.prog 97 #[.pointer (some ⟨b,0,none⟩),.int .i64 (t:Nat),.agg (fO (oL ok l ob)).toArray] w (eI m (fun u m'=>u= .bool (mX x t (oL ok l ob)).2∧dY n0 b s (mX x t (oL ok l ob)).1 m') w):=by
 obtain ⟨P,rfl,h⟩:=h;have rP:=h.nt;have er:=h.st;have uf:=hI.tl;have uN:=h.nl;have sY:=h.bl;have gh:=h.sl;obtain ⟨ig,ii,il,ip,ix,it,iv,ie,ic,iq⟩:=bM (ay (az b s x.now P) w.heap.size);have eO:(oL ok l ob).a=(l:Int):=rfl;have hL:=hI.li l gZ;have hLh:=hL.hl;have z4:=hI.ev;have BR:lz x.ts.length (t:Int):=⟨by omega,by omega⟩
 refine aJ.au Tryz.func97 rfl Tryz.ntmps97 rfl (az b s x.now P++ []) ((fS (az b s x.now P))) aM ?_;refine J2 ?_;refine LM.box rfl rfl (fun b5 KU=>?_);refine J4 ?_;refine af.draw [(0,0),(1,0),(2,0),(3,1),(4,0),(5,1),(6,0),(7,1),(8,0)] kr kr ?_;refine J7 ?_;refine LD.rd rfl rfl (bw aA ir Tryz.isAgg54 rfl rfl (by first|exact bF om|exact aQ default cL) (by rfl)) ?_;refine J4 ?_;refine af.draw [(0,0),(1,0),(2,0),(3,0),(4,1),(5,0),(6,0),(7,0),(8,1),(9,0),(10,1),(11,0),(12,2),(13,0)] kr kr ?_;refine J8 ?_;refine LD.rd rfl rfl (aH (j:=2) aA ir Tryz.isAgg3 rfl rfl (by first|exact bF om|exact aQ default cL) rfl (by rfl)) ?_;refine J3 ?_;refine dE rfl rfl Tryz.func137 rfl (fun w hm hc hg=>h.sq.read gZ (hm.pick P.mq) (fun m hr hM=>(show aJ _ _ _ _ (fun u w'=>u= .int .i64 (tq x t l (oL ok l ob))∧Ext _ w') from ye (gT x t).gr (decide ((oL ok l ob).k=3)) w hr hM))) ?_;refine J8 ?_;refine cU Tryz.func138 rfl (fun w hm hc hg=>h.sq.AE C8 gZ (hm.pick P.mq) (fun m hr hM=>Aj (t:Nat) (tq x t l (oL ok l ob)) w hL.w.topg hr (Nat.le_trans cb hc.size) (by show (gL x l).ho.length≤900;omega) hM)) (h.sq.bW C8) (ao iq) ?_;rintro u34 Mq ⟨rfl,PX⟩ It;have i34:=ak iq It;refine cf ?_;refine af.aj rfl (fun h1=>?_) (fun h1=>?_)
 ·obtain ⟨y,hy⟩:∃y,y=bh x l (cu (gL x l) t (tq x t l (oL ok l ob))):=⟨_,rfl⟩;have WR:y.lk.length=x.lk.length:=(by rw [hy];exact cA ..);have hLy:gL y l=cu (gL x l) t (tq x t l (oL ok l ob)):=(by rw [hy];exact FL gZ _);have hLt:=hL.take t (tq x t l (oL ok l ob)) BR;have bB:=hLt.hl;have ri:y.ts=x.ts:=(by rw [hy];rfl);have xe:dY n0 b s y (az b s x.now {P with mq:=Mq}):=(by rw [hy];exact fN.m {h with nl:=(by rw [cA];exact uN),bl:=(by rw [cA];exact sY),sq:=PX});have mu:y.now=x.now:=(by rw [hy];rfl);have hye:y.ev=x.ev:=(by rw [hy];rfl)
  refine J1 ?_;refine af.draw [(0,0),(1,0),(2,0),(3,1),(4,0),(5,0),(6,1),(7,0),(8,2),(9,3)] kr kr ?_;refine J8 ?_;refine dE rfl rfl Tryz.func101 rfl (fun w hm hc hg=>vp l (t:Nat) w xe om (by rw [hLy];omega) (hm.pick _)) ?_;refine LD.tail rfl rfl ?_;refine cU Tryz.func55 rfl (fun w hm hc hg=>bV 4 (t:Nat) (l:Nat) _ w xe (by rw [hye];omega) (Nat.le_trans cb hc.size) (hm.pick _)) xe.bW (ao aL) ?_;rintro u46 m46 ⟨rfl,h46⟩ Y0;have i46:cZ (az b s x.now P) w.heap.size m46:=ak aL Y0;refine J1 ?_;refine QM.qn ?_;refine J6 ?_;refine cU Tryz.func102 rfl (fun w hm hc hg=>vF l w h46 (by show l<y.lk.length;omega) (by show (gL y l).ho.length≤900;rw [hLy];omega) (by show (gL y l).wt.length≤8;rw [hLy];exact hLt.w.w8) (hm.pick _)) h46.bW (ao i46) ?_;rintro u50 m50 ⟨rfl,Tp⟩ Vg;obtain ⟨P1,kR,Tp⟩:=Tp;rw [show (AG (ba y 4 t l (dD (gL y l) t)) l).now=x.now from mu] at kR;subst kR;clear ig ii il ip ix it iv ie ic iq;obtain ⟨ig,ii,il,ip,ix,it,iv,ie,ic,iq⟩:=bM (ak i46 Vg);have Ea:Sl Ha 66 12 n0 x.ts (.slice P1.DE P1.nt P1.ct) P1.mt:=ri▸Tp.st;have wN:P1.nt=x.ts.length:=ri▸Tp.nt;have Te:0≤(x.ts.getD t default).pc∧(x.ts.getD t default).pc≤(k:Int):=(hI.tb t ht).pc;refine dB ?_;refine LM.rd (aH (j:=4) aA ir Tryz.isAgg3 rfl rfl (by first|exact bF om|exact aQ default cL) rfl (by rfl)) ?_;refine J3 ?_;refine LM.iF (rM (gT x t)) (j:=4) aA ir Tryz.sizeOf3 rfl rfl rfl (by first|exact bF om|exact aQ default cL) rfl (by decide) (by rfl) rfl (ao aA) (fun ly dc dK=>?_)
  try rw [List.set_set] at dc
  have Gb:=ca dK aA;refine J9 ?_;refine qL Tryz.results97 rfl fun w' aq ab aI=>?_;rw [KB eO h1,←hy];exact aZ (m':=az b s x.now {P1 with mt:=ly}) ⟨rfl,fN.m (hn:=mu) {Tp with nt:=(by show _=(y.ts.set _ _).length;rw [List.length_set,ri];exact wN),st:=(by show Sl _ _ _ _ (y.ts.set t (rM (y.ts.getD t default))) _ _;rw [ri];exact dc)}⟩ aq aX ab aL
 have Jl:jT MC n0 P.bs x.lk Mq:=(by have q:=PX;rw [show cu (gL x l) t (tq x t l (oL ok l ob))=x.lk.getD l default from if_pos h1,zQ default gZ] at q;exact q);have wB:dY n0 b s x (az b s x.now {P with mq:=Mq}):=fN.m {h with sq:=Jl};refine J4 ?_;refine af.bH (α:=Bool) (fun q=>[(68,.bool q)]) [(0,_),(1,_),(5,_),(7,_),(8,_),(9,_)] (fun q=>zJ b s x.now P P.mx P.mt P.mc Mq++(oB b5 (oL ok l ob):: [])) (fun q=>q=Qh x t (oL ok l ob)) cm ?_ ?_
 ·refine J4 ?_;refine LM.ar (t:=64) rfl (fun h2=>?_) (fun h2=>?_)
  ·refine J6 ?_;refine mK (_) ?_
   · unfold Qh;rw [lQ eO];simp_all
  refine J5 ?_;refine mK (_) ?_
  · unfold Qh;rw [lQ eO];simp_all
 rintro q hq;change QM _ _ _ _ _ (zJ b s x.now P P.mx P.mt P.mc Mq++(oB b5 (oL ok l ob):: [])) _ _ _;refine J1 ?_;refine af.bH (α:=aa) (fun mq=>[(9,.int .i64 (mN x t (oL ok l ob)))]) [(0,_),(1,_),(5,_)] (fun mq=>zJ b s x.now P P.mx P.mt P.mc mq++(oB b5 (oL ok l ob):: [])) (fun mq=>jT MC n0 P.bs (if mN x t (oL ok l ob)=0 then x.lk.set l (dv (gL x l) t (tq x t l (oL ok l ob))) else x.lk) mq∧cZ (az b s x.now P) w.heap.size mq) cm ?_ ?_
 ·refine af.aW rfl (fun h3=>?_) (fun h3=>?_)
  ·have U5:c6 (gL x l) t (tq x t l (oL ok l ob))=8∧(oL ok l ob).k≠4:=(by rw [hq] at h3;unfold Qh at h3;rw [lQ eO,Bool.and_eq_true,decide_eq_true_eq,decide_eq_true_eq] at h3;exact h3)
   refine J6 ?_;refine af.draw [(0,0),(1,0),(2,0),(3,1),(4,0),(5,0),(6,0),(7,1),(8,2),(9,2),(10,0)] kr kr ?_;refine J8 ?_;refine dE rfl rfl Tryz.func140 rfl (fun w hm hc hg=>pH l w wB gZ om (hm.pick _)) ?_;refine dE rfl rfl Tryz.func139 rfl (fun w hm hc hg=>qu P.bg (t:Nat) _ w h.gl h.nx h.sx (sm hm)) ?_;refine J3 ?_;refine af.aW rfl (fun h4=>?_) (fun h4=>?_)
   ·have QN:=(tF eO U5.1 U5.2).trans (if_neg (by simpa using h4));refine J4 ?_;refine cU Tryz.func141 rfl (fun w hm hc hg=>Jl.AE C8 gZ (hm.pick Mq) (fun m hr hM=>BE (t:Nat) (tq x t l (oL ok l ob)) w hL.w.topg hr (Nat.le_trans cb hc.size) hM)) (Jl.bW C8) (ao i34) ?_;rintro u83 m83 ⟨rfl,h83⟩ Jf;have i83:=ak i34 Jf;refine J2 ?_;refine QM.xG (m83) ⟨(by exact lk rfl (congrArg (Value.int .i64) QN.symm)),rfl,rfl,rfl,trivial⟩ aX ?_
    · refine ⟨?_,i83⟩;split;exact h83;(have q:=h83;rw [show dv (gL x l) t (tq x t l (oL ok l ob))=x.lk.getD l default from if_pos (by rw [←QN];assumption),zQ default gZ] at q;exact q)
   have QN:=(tF eO U5.1 U5.2).trans (if_pos (by simpa using h4));refine J1 ?_;refine QM.xG (Mq) ⟨(by exact lk rfl (congrArg (Value.int .i64) QN.symm)),rfl,rfl,rfl,trivial⟩ aX ?_
   · exact⟨by rw [if_neg (by rw [QN];decide)];exact Jl,i34⟩
  have QN:=zn eO (fun q2=>by rw [hq] at h3;unfold Qh at h3;rw [lQ eO,decide_eq_true q2.1,decide_eq_true q2.2] at h3;cases h3);refine J1 ?_;refine QM.xG (Mq) ⟨(by exact lk rfl (congrArg (Value.int .i64) QN.symm)),rfl,rfl,rfl,trivial⟩ aX ?_
  · exact⟨by rw [if_neg (by rw [QN];exact h1)];exact Jl,i34⟩
 rintro mq ⟨ZL,iqw⟩;change QM _ _ _ _ _ (zJ b s x.now P P.mx P.mt P.mc mq++(oB b5 (oL ok l ob):: [])) _ _ _;refine J8 ?_;refine af.aj rfl (fun h5=>?_) (fun h5=>?_)
 ·have Jc:dY n0 b s x (az b s x.now {P with mq:=mq}):=fN.m {h with sq:=(by have q:=ZL;rw [if_neg h5] at q;exact q)};refine J7 ?_;refine cU Tryz.func55 rfl (fun w hm hc hg=>bV 8 (t:Nat) (l:Nat) (mN x t (oL ok l ob)) w Jc om (Nat.le_trans cb hc.size) (hm.pick _)) Jc.bW (ao aL) ?_;rintro u91 m91 ⟨rfl,ND⟩ Ji;obtain ⟨P1,kR,ND⟩:=ND;change m91=az b s x.now P1 at kR;subst kR;have i91:cZ (az b s x.now P) w.heap.size (az b s x.now P1):=ak aL Ji;clear ig ii il ip ix it iv ie ic iq;obtain ⟨ig,ii,il,ip,ix,it,iv,ie,ic,iq⟩:=bM i91;have Ea:Sl Ha 66 12 n0 x.ts (.slice P1.DE P1.nt P1.ct) P1.mt:=ND.st;have wN:P1.nt=x.ts.length:=ND.nt;have Te:0≤(x.ts.getD t default).pc∧(x.ts.getD t default).pc≤(k:Int):=(hI.tb t ht).pc;refine dB ?_;refine LM.rd (aH (j:=4) aA ir Tryz.isAgg3 rfl rfl (by first|exact bF om|exact aQ default cL) rfl (by rfl)) ?_;refine J3 ?_;refine LM.iF (rM (gT x t)) (j:=4) aA ir Tryz.sizeOf3 rfl rfl rfl (by first|exact bF om|exact aQ default cL) rfl (by decide) (by rfl) rfl (ao aA) (fun ly dc dK=>?_)
  try rw [List.set_set] at dc
  have Gb:=ca dK aA;refine J9 ?_;refine qL Tryz.results97 rfl fun w' aq ab aI=>?_;rw [KM eO h1 h5];exact aZ (m':=az b s x.now {P1 with mt:=ly}) ⟨rfl,fN.m {ND with nt:=(by show _=(x.ts.set _ _).length;rw [List.length_set];exact wN),st:=dc}⟩ aq aX ab aL
 have Jc:dY n0 b s (bh x l (dv (gL x l) t (tq x t l (oL ok l ob)))) (az b s x.now {P with mq:=mq}):=fN.m {h with nl:=(by rw [cA];exact uN),bl:=(by rw [cA];exact sY),sq:=(by have q:=ZL;rw [if_pos om] at q;exact q)};have hvl:=hI.vl;refine J8 ?_;refine cU Tryz.func55 rfl (fun w hm hc hg=>bV 6 (t:Nat) (l:Nat) 0 w Jc (by show x.ev.length≤_;omega) (Nat.le_trans cb hc.size) (hm.pick _)) Jc.bW (ao aL) ?_;rintro adM Uh ⟨rfl,LP⟩ En;have i107:cZ (az b s x.now P) w.heap.size Uh:=ak aL En;refine J6 ?_;refine cU Tryz.func72 rfl (fun w hm hc hg=>pY t w LP (by show t<x.v.length;omega) (Nat.le_trans cb hc.size) (hm.pick _)) LP.bW (ao i107) ?_;rintro akt Yj ⟨rfl,zr⟩ Td;change dY n0 b s (kv x t l (oL ok l ob)) Yj at zr;obtain ⟨P1,kR,zr⟩:=zr;change Yj=az b s x.now P1 at kR;subst kR;have i110:=ak i107 Td;clear ig ii il ip ix it iv ie ic iq;obtain ⟨ig,ii,il,ip,ix,it,iv,ie,ic,iq⟩:=bM i110;have Ea:Sl Ha 66 12 n0 x.ts (.slice P1.DE P1.nt P1.ct) P1.mt:=zr.st;have wN:P1.nt=x.ts.length:=zr.nt;have TQ:Sl fU 41 1 n0 x.g (.slice P1.ax P1.nx P1.cx) P1.mx:=zr.sx;refine dB ?_;refine LM.iF ({gT x t with st:=4}) (j:=6) aA ir Tryz.sizeOf3 rfl rfl rfl (by first|exact bF om|exact aQ default cL) rfl (by decide) (by rfl) rfl (ao aA) (fun ly dc dK=>?_)
 try rw [List.set_set] at dc
 have Gb:=ca dK aA;refine J3 ?_;refine af.keep (uH b s x.now P1::oB b5 (oL ok l ob):: []) (fun _=>True) (.one 0 0 (.one 1 0 (.one 2 0 (.one 3 1 (.one 4 0 (.one 5 0 (.one 6 1 (.one 7 0 (.one 8 0 (.last 9)))))))))) kr kr aX (fun _ _=>trivial) ?_;refine J9 ?_;refine KD.last rfl ?_;refine LM.iF ({gT x t with st:=4,lk:=(oL ok l ob).a}) (j:=8) aA ir Tryz.sizeOf3 rfl rfl rfl (by first|exact bF om|exact aQ default cL) rfl (by decide) (by rfl) rfl (ao aA) (fun jZ fQ kj=>?_)
 try rw [List.set_set] at fQ
 have H6:=ca kj aA;refine J1 ?_;refine QM.qn ?_;refine J9 ?_;refine af.bH (α:=aa) (fun mt=>[]) [(0,_),(1,_),(5,_)] (fun mt=>zJ b s x.now P1 P1.mx mt P1.mc P1.mq++(oB b5 (oL ok l ob):: [])) (fun mt=>Sl Ha 66 12 n0 (x.ts.set t (wm (gT x t) (oL ok l ob) x.now)) (.slice P1.DE P1.nt P1.ct) mt∧cZ (az b s x.now P) w.heap.size mt) cm ?_ ?_
 ·refine af.aj rfl (fun h6=>?_) (fun h6=>?_)
  ·refine af.keep (uH b s x.now P1::oB b5 (oL ok l ob):: []) (fun _=>True) (.one 0 0 (.one 1 0 (.one 2 0 (.one 3 1 (.one 4 0 (.one 5 0 (.one 6 0 (.one 7 0 (.one 8 1 (.one 9 0 (.one 10 1 (.one 11 0 (.one 12 0 (.one 13 0 (.one 14 0 (.last 15)))))))))))))))) kr kr aX (fun _ _=>trivial) ?_;refine dB ?_;refine KD.val rfl rfl (oc Tryz.underlying3 Tryz.underlying41 rfl) ?_;refine KD.val rfl rfl (gY rfl rfl) ?_;refine J2 ?_;refine KD.last rfl ?_;refine LM.iF ({gT x t with st:=4,lk:=(oL ok l ob).a,un:=x.now+BitVec.ofInt 64 (oL ok l ob).b}) (j:=7) aA ir Tryz.sizeOf41 rfl rfl rfl (by first|exact bF om|exact aQ default cL) rfl (by decide) (by rfl) rfl (ao aA) (fun p9 kk so=>?_)
   try rw [List.set_set] at kk
   have TK:=ca so aA;refine J1 ?_;refine QM.qn ?_;refine mK (p9) ?_
   · exact⟨by rw [show wm (gT x t) (oL ok l ob) x.now= {gT x t with st:=4,lk:=(oL ok l ob).a,un:=x.now+BitVec.ofInt 64 (oL ok l ob).b} by unfold wm;rw [if_pos h6]];exact kk,TK⟩
  refine J1 ?_;refine mK (jZ) ?_
  · exact⟨by rw [show wm (gT x t) (oL ok l ob) x.now= {gT x t with st:=4,lk:=(oL ok l ob).a} by unfold wm;rw [if_neg h6]];exact fQ,H6⟩
 rintro mt ⟨Ld,it2⟩;change QM _ _ _ _ _ (zJ b s x.now P1 P1.mx mt P1.mc P1.mq++(oB b5 (oL ok l ob):: [])) _ _ _;have hMw:dY n0 b s (dk (kv x t l (oL ok l ob)) t (wm (gT x t) (oL ok l ob) x.now)) (az b s x.now {P1 with mt:=mt}):=fN.m {zr with nt:=(by show _=(x.ts.set _ _).length;rw [List.length_set];exact wN),st:=Ld};have hLw:=hL.wait t (tq x t l (oL ok l ob)) BR;have hlw:=hLw.hl;have vc:gL (kv x t l (oL ok l ob)) l=dv (gL x l) t (tq x t l (oL ok l ob)):=FL gZ _;refine J2 ?_;refine af.draw [(0,0),(1,0),(2,0),(3,1),(4,0),(5,0),(6,0),(7,1),(8,2),(9,3)] kr kr ?_;refine J8 ?_;refine dE rfl rfl Tryz.func140 rfl (fun w hm hc hg=>pH l w hMw (by show l<(x.lk.set _ _).length;rw [List.length_set];exact gZ) (by show (gL (kv x t l (oL ok l ob)) l).ho.length≤900;rw [vc];omega) (hm.pick _)) ?_;refine LD.tail rfl rfl ?_;refine cU Tryz.func142 rfl (fun w hm hc hg=>vd P1.bg (t:Nat) (rI (gL (kv x t l (oL ok l ob)) l)) w h.gl zr.nx TQ (sm hm)) TQ.bW (ao ix) ?_;rintro akB Sg ⟨rfl,XB⟩ Ub;have i154:=ak ix Ub;refine J1 ?_;refine QM.qn ?_;refine J7 ?_;refine qL Tryz.results97 rfl fun w' aq ab aI=>?_;rw [HB eO h1 h5,ym eO];exact aZ (m':=zJ b s x.now P1 Sg mt P1.mc P1.mq) ⟨rfl,fN.m (P:= {P1 with mt:=mt,mx:=Sg}) {zr with nt:=(by show _=(x.ts.set _ _).length;rw [List.length_set];exact wN),st:=Ld,gl:=yd h.gl _ _,sx:=XB}⟩ aq aX ab (aL (P:= {P1 with mt:=mt,mx:=Sg}))
theorem l6 {n0 b k t:Nat} {s:eL} {x:aC} {m:aa} (o:db) (w:World) (h:dY n0 b s x m) (hI:MI k x) (hk:k≤800000000000) (ht:t<x.ts.length) (hoa:0≤o.a∧o.a<(x.lk.length:Int)) (cb:n0≤w.heap.size) (hM:Mem w m):
    aJ Tryz.prog 97 #[.pointer (some ⟨b,0,none⟩),.int .i64 (t:Nat),.agg (fO o).toArray] w (eI m (fun u m'=>u= .bool (mX x t o).2∧dY n0 b s (mX x t o).1 m') w):=by
  obtain ⟨ok,oa,ob⟩:=o;obtain ⟨l,rfl⟩:∃l:Nat,oa=l:=⟨oa.toNat,(Int.toNat_of_nonneg hoa.1).symm⟩
  exact BN w h hI hk ht (by have:=hoa.2;show l<_;exact Int.ofNat_lt.1 this) cb hM
end Go.Eng
namespace Go.Eng
open Go Go.RowKit
theorem ky {s:kh} (h:fC s=true):s.ls.length≤8∧s.ps.length≤8∧∀p∈s.ps,(Cy p.fv p.xs s.ls (s.ps.length:Int)).2=0:=by
  unfold fC cG at h
  simp only [Bool.and_eq_true,decide_eq_true_eq,Bool.not_eq_true'] at h;refine ⟨h.1.1.2.1,by omega,fun p hp=>?_⟩;have:=List.any_eq_false.1 h.2 p hp
  unfold mR at this
  simpa using this
theorem qo {fv:Bool} {xs:List db} {ls:List km} {cO:Int} (h:(Cy fv xs ls cO).2=0):kW xs=true∧∀j,j<xs.length→gG fv xs ls cO j=0:=by
  unfold Cy at h
  split at h
  · rename_i hm
    refine ⟨hm,fun j hj=>?_⟩
    split at h
    · rename_i i hi
      have:=List.find?_some hi;simp only [decide_eq_true_eq] at this;exact absurd h this
    · rename_i hn
      have:=List.find?_eq_none.1 hn j (List.mem_range.2 hj);simpa using this
  · cases h
theorem B3 {s:kh} (h:fC s=true) {p:pS} (hp:p∈s.ps):p.xs.length≤20:=(xE (qo ((ky h).2.2 p hp)).1).1
structure OL (s:kh) (o:db):Prop where
  k:1≤o.k∧o.k≤11
  c:o.k=1→1≤o.a∧o.a≤64
  l:2≤o.k∧o.k≤6→0≤o.a∧o.a<(s.ls.length:Int)
  p:o.k=9→0≤o.a∧o.a<(s.ps.length:Int)
theorem W5 {s:kh} (h:fC s=true) {p:pS} (hp:p∈s.ps) {i:Nat} (hi:i<p.xs.length):OL s (p.xs.getD i default):=by
  obtain ⟨h1,h2,h3⟩:=ky h;obtain ⟨hm,hf⟩:=qo (h3 p hp);have hr:=yV hm hi;have ha:=y7 hr;have hf:=hf i hi
  have hc:¬((nM (p.xs.getD i default).k||decide ((p.xs.getD i default).k=6))&&decide ((p.xs.getD i default).a ≥ (s.ls.length:Int))||decide ((p.xs.getD i default).k=9)&&decide ((p.xs.getD i default).a ≥ (s.ps.length:Int)))=true:=fun q=>by
    unfold gG at hf;rw [if_pos q] at hf;cases hf
  clear hf
  generalize p.xs.getD i default=o at hr ha hc
  unfold iD sR at hr
  unfold nM at hc
  simp only [Bool.and_eq_true,Bool.or_eq_true,decide_eq_true_eq] at hr hc
  have key:(2≤o.k∧o.k≤6→o.a<(s.ls.length:Int))∧(o.k=9→o.a<(s.ps.length:Int)):=⟨fun q=>by
    refine Classical.byContradiction fun n=>hc (.inl ⟨?_,by omega⟩);rcases Int.lt_or_le 5 o.k with r|r
    · exact .inr om
    · exact .inl ⟨q.1,r⟩,fun q=>Classical.byContradiction fun n=>hc (.inr ⟨q,by omega⟩)⟩
  refine ⟨hr.1.1,fun e=>?_,fun e=>⟨ha.1,key.1 e⟩,fun e=>⟨ha.1,key.2 e⟩⟩;have h5:=hr.1.2;rw [e] at h5;simp [hasB,r4,wT] at h5;omega
section
variable {k:Nat} {x:aC} (h:MI k x)
include h
theorem MI.cmp {t:Nat} (ht:t<x.ts.length) {a:Int} (ha:1≤a∧a≤64):MI (k+2) (pA x t a):=by
  have q:=h.tb t ht;have hl:=q.lf;have hq:wy x.s k (FK (gT x t) a):=⟨q.pr,q.pc,by show 0≤Db (gT x t) a-1∧Db (gT x t) a-1≤64;unfold Db;split<;>omega,q.ti,q.l4,q.un⟩
  have h1:MI (k+1) (zU x t a):=
    have h':=(h.up ht hq).mono (Nat.le_succ k)
    {h' with
      ll:=by show (x.lk.map _).length=_;rw [List.length_map];exact h.ll
      li:=fun l hl=>by have:=LI.Vl h.li t l hl;rw [show (zU x t a).ts.length=x.ts.length from bt ..];exact this}
  unfold pA;split
  · exact h1.inc (by rw [show (zU x t a).ts.length=x.ts.length from bt ..];exact ht)
  · exact h1.mono (Nat.le_succ _)
theorem MI.Ms (pr gr we co:Int) (hp:0≤pr∧pr<(x.s.ps.length:Int)) (zX:x.ts.length<64):MI (k+1) (oX x pr gr we co):=by
  have hl:(x.ts++ [Ej x.ts.length pr gr we co]).length=x.ts.length+1:=by rw [List.length_append];rfl
  have h1:MI k {x with ts:=x.ts++ [Ej x.ts.length pr gr we co],v:=x.v++ [0#64],cs:=dx x.cs co x.ts.length 0#64 we} :=
    {h with
      ce:=by rw [show (dx x.cs co x.ts.length 0#64 we).length=x.cs.length from gu ..];exact h.ce
      ci:=by
        show CI (x.ts++ [_]).length k _
        rw [hl];exact(h.ci.mono (Nat.le_succ _) (Nat.le_refl _)).add _ _ _ _ om
      il:=by rw [show (dx x.cs co x.ts.length 0#64 we).length=x.cs.length from gu ..];exact h.il
      li:=fun l nu=>by show LI (x.ts++ [_]).length k _;rw [hl];exact(h.li l nu).mono (Nat.le_succ _) (Nat.le_refl _)
      tl:=by show (x.ts++ [_]).length≤64;rw [hl];omega
      iq:=fun c hc a ha=>by
        have zw:c<x.cs.length:=by rw [←gu x.cs co x.ts.length 0#64 we];exact hc
        show ((x.ts++ [_]).getD a.toNat default).un=0#64
        rcases A9 ha with q|rfl
        · have h1:=h.ci.id c zw a q
          have h0:=(h.ci.wf.wf c zw).pos _ (ea q).1;rw [(ea q).2] at h0;rw [List.getD_eq_getElem?_getD,List.getElem?_append_left om,←List.getD_eq_getElem?_getD];exact h.iq c zw a q
        · rw [Int.toNat_natCast,List.getD_eq_getElem?_getD,List.getElem?_append_right (Nat.le_refl _),Nat.sub_self];rfl
      vl:=by show (x.v++ [_]).length=(x.ts++ [_]).length;rw [hl,List.length_append,h.vl];rfl
      tb:=fun t ht=>by
        have UJ:t<x.ts.length+1:=by rw [←hl];exact ht
        show wy x.s k ((x.ts++ [_]).getD t default)
        rcases Nat.lt_or_ge t x.ts.length with q|q
        · rw [List.getD_eq_getElem?_getD,List.getElem?_append_left q,←List.getD_eq_getElem?_getD];exact h.tb t q
        · rw [show t=x.ts.length by omega,List.getD_eq_getElem?_getD,List.getElem?_append_right (Nat.le_refl _),Nat.sub_self]
          exact⟨hp,⟨Int.le_refl _,Int.natCast_nonneg k⟩,⟨Int.le_refl _,by show (0:Int)≤64;decide⟩,⟨Int.le_refl _,Int.natCast_nonneg k⟩,fun e=>(by cases e),fun e=>absurd rfl e⟩}
  exact h1.kc _ _ _ _
theorem MI.ZC {t:Nat} (ht:t<x.ts.length) {o:db} (ho:0≤o.a∧o.a<(x.lk.length:Int)):MI (k+3) (mX x t o).1:=by
  obtain ⟨l,eO⟩:∃l:Nat,o.a=(l:Nat):=⟨o.a.toNat,(Int.toNat_of_nonneg ho.1).symm⟩
  have gZ:l<x.lk.length:=by omega
  have hL:=h.li l gZ;have BR:lz x.ts.length (t:Int):=⟨by omega,by omega⟩
  by_cases he:c6 (gL x l) t (tq x t l o)=0
  · rw [KB eO he]
    have h1:=(h.mono (Nat.le_succ k)).bh (l:=l) (hL.take t (tq x t l o) BR);exact((h1.kc 4 t l (dD (gL (Go.Eng.bh x l (cu (gL x l) t (tq x t l o))) l) t)).Y5 l).inc ht
  · by_cases h2:mN x t o≠0
    · rw [KM eO he h2];exact((h.kc 8 t l (mN x t o)).inc ht).mono om
    · rw [HB eO he h2,ym eO]
      have h1:=(h.mono (Nat.le_succ k)).bh (l:=l) (hL.wait t (tq x t l o) BR);have h3:MI (k+2) (kv x t l o):=(h1.kc 6 t l 0).qut t;have q:=(h.tb t ht).mono (show k≤k+2 by omega);exact((h3.upQ (t:=t) ht (y:=wm (gT x t) o x.now) ⟨q.pr,q.pc,q.lf,q.ti,fun _=>⟨ho.1,by show o.a<(x.s.ls.length:Int);have:=h.ll;omega⟩,fun _=> .inr rfl⟩ (fun c hc hk=>absurd rfl (qv h.ci.wf (by rw [←oM x.cs t];exact hc) hk).2)).gr (h.gi.wt _ _)).mono om
theorem MI.back {c:Nat} (hc:c<x.cs.length):MI k (iy x c (fh (qg x.cs c))):=h.FM (h.ci.back hc) (List.length_set ..) (fun d hd a ha=> .inl ⟨d,hd,jA hc (q:=fh (qg x.cs c)) rfl ha⟩)
theorem MI.op {t:Nat} (ht:t<x.ts.length) {i:Nat} (hi:i<(ko x t).xs.length):OL x.s ((ko x t).xs.getD i default):=by
  have hp:=(h.tb t ht).pr;exact W5 h.ms (List.mem_of_getElem? (aQ default (show (gT x t).pr.toNat<x.s.ps.length by omega))) hi
end
section
variable {x:aC} {t c:Nat} {o:db}
theorem Ww (h:o.k=1):eB x t c o=(pA x t o.a,true):=if_pos h
theorem AN (h:2≤o.k∧o.k≤5):eB x t c o=mX x t o:=by unfold eB;rw [if_neg om,if_pos h]
theorem JX (h:o.k=6) (he:mM (gL x o.a.toNat) t≠0):eB x t c o=(bJ (ba x 8 t o.a (mM (gL x o.a.toNat) t)) t,false):=by unfold eB;rw [if_neg om,if_neg om,if_pos h,if_pos he]
theorem JK (h:o.k=6) (he:¬mM (gL x o.a.toNat) t≠0):eB x t c o=(bJ (dz (ba (bh x o.a.toNat (ej (gL x o.a.toNat) t)) 5 t o.a 0) o.a.toNat (dZ (gL x o.a.toNat) t)) t,false):=by unfold eB;rw [if_neg om,if_neg om,if_pos h,if_neg he]
def Q2 (x:aC) (t:Nat) (a:Int):aC:=eC (ba x 9 t (-1) a) t
theorem UC (h:o.k=7):eB x t c o=(dk (Q2 x t o.a) t {gT x t with st:=3,un:=x.now+BitVec.ofInt 64 o.a,pc:=(gT x t).pc+1},true):=by unfold eB;rw [if_neg om,if_neg om,if_neg om,if_pos h];rfl
def aeQ (x:aC) (t c:Nat):aC:=iy (ba x 10 t (-1) c) c (fh (qg x.cs c))
theorem VA (h:o.k=8):eB x t c o=(dk (aeQ x t c) t {gT x t with st:=1,pc:=(gT x t).pc+1},true):=by unfold eB;rw [if_neg om,if_neg om,if_neg om,if_neg om,if_pos h];rfl
theorem Uw (h:o.k=9):eB x t c o=(bJ (if iK x=true then oX x o.a (gT x t).gr (gT x t).we c else ba x 8 t (-1) 3) t,false):=by unfold eB;rw [if_neg om,if_neg om,if_neg om,if_neg om,if_neg om,if_pos h]
theorem Mj (h:o.k=10):eB x t c o=(bJ (ba (dk x t {gT x t with we:=o.a}) 14 t (-1) o.a) t,false):=by unfold eB;rw [if_neg om,if_neg om,if_neg om,if_neg om,if_neg om,if_neg om,if_pos h]
theorem Jp (h:o.k=11):eB x t c o=(kf x t,true):=by unfold eB;rw [if_neg om,if_neg om,if_neg om,if_neg om,if_neg om,if_neg om,if_neg om,if_pos h]
end
theorem ya {x:aC} {t:Nat} :(kq x t).ts.length=x.ts.length∧(kq x t).lk=x.lk∧(kq x t).s=x.s∧(kq x t).now=x.now∧(kq x t).g=x.g∧(kq x t).ev=x.ev∧(kq x t).cs=x.cs:=by
  unfold kq;split
  · exact⟨bt ..,rfl,rfl,rfl,rfl,rfl,rfl⟩
  · exact⟨rfl,rfl,rfl,rfl,rfl,rfl,rfl⟩
theorem MI.kq {k:Nat} {x:aC} (h:MI k x) {t:Nat} (ht:t<x.ts.length):MI k (kq x t):=by
  unfold Go.Eng.kq;split
  · have q:=h.tb t ht
    exact h.up ht ⟨q.pr,⟨Int.le_refl _,Int.natCast_nonneg k⟩,q.lf,q.ti,q.l4,q.un⟩
  · exact h
theorem Sq {x:aC} {t:Nat} (ht:t<x.ts.length):ko (kq x t) t=ko x t:=by
  unfold ko kq;split
  · rw [fD ht,if_pos rfl];rfl
  · rfl
theorem FH {k:Nat} {x:aC} (h:MI k x) {t:Nat} (ht:t<x.ts.length):(gT (kq x t) t).pc.toNat<(ko x t).xs.length∧0≤(gT (kq x t) t).pc:=by
  have hp:=(h.tb t ht).pr;have hm:=(qo ((ky h.ms).2.2 (ko x t) (List.mem_of_getElem? (aQ default (show (gT x t).pr.toNat<x.s.ps.length by omega))))).1;have h0:0<(ko x t).xs.length:=by unfold kW at hm;simp only [Bool.and_eq_true,decide_eq_true_eq] at hm;exact hm.1.1
  have Te:=(h.tb t ht).pc
  unfold kq;split
  · rw [fD ht,if_pos rfl];exact⟨h0,Int.le_refl _⟩
  · exact⟨by omega,Te.1⟩
theorem tJ {α:Type} {l:List α} {i:Nat} (d:α) (h:i<l.length):l.set i (l.getD i d)=l:=by
  apply List.ext_getElem (by rw [List.length_set])
  intro j h1 h2;rw [List.getElem_set]
  split
  · rename_i e;subst e;rw [List.getD_eq_getElem?_getD,List.getElem?_eq_getElem h2];rfl
  · rfl
theorem Ql {x:aC} {t:Nat} (ht:t<x.ts.length):∃z,kq x t=dk x t z:=by
  unfold kq;split
  · exact⟨_,rfl⟩
  · refine ⟨gT x t,?_⟩;unfold dk;rw [tJ default ht]
theorem tW {x:aC} {t c:Nat} (h1:((ko x t).xs.length:Int)≤(gT x t).pc) (h2:(ko x t).fv=false):eZ x t c=(kf x t,true):=if_pos ⟨h1,h2⟩
theorem D9 {x:aC} {t c:Nat} (h:¬(((ko x t).xs.length:Int)≤(gT x t).pc∧(ko x t).fv=false)) {z:iN} (ht:t<x.ts.length) (hz:kq x t=dk x t z) {o:db} (ho:(ko x t).xs.getD z.pc.toNat default=o):eZ x t c=eB (dk x t z) t c o:=by
  unfold eZ;rw [if_neg h,hz,fD ht,if_pos rfl,ho]
/-! ### who is due -/
theorem kF (x:aC) (n:Nat):Bs x (n+1)=UT x (Bs x n) n:=by unfold Bs;rw [List.range_succ,List.foldl_append];rfl
theorem iX (x:aC):∀(n j:Nat),j∈Bs x n→j<n
  |0,j,h=>by cases h
  |n+1,j,h=>by
    rw [kF] at h
    unfold UT at h;split at h
    · have:=iX x n j h;omega
    · rcases List.mem_append.1 h with h|h
      · have:=iX x n j (List.mem_of_mem_take h);omega
      · rcases List.mem_cons.1 h with rfl|h
        · omega
        · have:=iX x n j (List.mem_of_mem_drop h);omega
theorem tQ (x:aC):∀n,(Bs x n).length≤n
  |0=>Nat.le_refl _
  |n+1=>by
    have ih:=tQ x n;rw [kF]
    unfold UT;split
    · omega
    · rw [List.length_append,List.length_cons,List.length_take,List.length_drop];omega
theorem QR {x:aC} {out:List Nat} {i k:Nat} (h:∀j,j<k→¬MJ x i<MJ x (out.getD j 0)) (hk:k=out.length∨(k<out.length∧MJ x i<MJ x (out.getD k 0))):Us x out i=k:=by
  have e:∀j (hj:j<out.length),out.getD j 0=out[j] :=fun j hj=>by rw [List.getD_eq_getElem?_getD,List.getElem?_eq_getElem hj];rfl
  unfold Us
  rcases hk with rfl|⟨h1,h2⟩
  · refine List.findIdx_eq_length.2 (fun a ha=>?_)
    obtain ⟨j,hj,rfl⟩:=List.getElem_of_mem ha;have:=h j hj;rw [e j hj] at this;exact decide_eq_false this
  · rw [List.findIdx_eq h1]
    exact⟨by rw [←e k h1];exact decide_eq_true h2,fun j hj=>by have:=h j hj;rw [e j om] at this;exact decide_eq_false this⟩
theorem Ch {l:List Nat} {k:Nat} (h:k<l.length):(l.map (fun (j:Nat)=>(j:Int))).getD k 0=((l.getD k 0:Nat):Int):=by
  rw [List.getD_eq_getElem?_getD,List.getD_eq_getElem?_getD,List.getElem?_map,List.getElem?_eq_getElem h];rfl
theorem u4 (x:aC) (t:Nat):(o1 x t).ts.length=x.ts.length∧(o1 x t).lk.length=x.lk.length∧(o1 x t).s=x.s∧(o1 x t).now=x.now:=by
  unfold o1;split
  · exact⟨rfl,rfl,rfl,rfl⟩
  · split
    · exact⟨List.length_set ..,rfl,rfl,rfl⟩
    · have e:=cN (gT x t).lk.toNat (fe (du (bJ (ba (bh x (gT x t).lk.toNat (fw (gL x (gT x t).lk.toNat) t)) 8 t (gT x t).lk 10) t) t) t) (o9 (gL x (gT x t).lk.toNat) t)
      exact⟨e.1.trans (by show ((x.ts.set _ _).set _ _).length=_;rw [List.length_set,List.length_set]),by rw [e.2.1];exact cA ..,e.2.2⟩
theorem MI.o1 {k:Nat} {x:aC} (h:MI k x) {t:Nat} (ht:t<x.ts.length):MI (k+40) (o1 x t):=by
  unfold Go.Eng.o1;split
  · exact h.mono om
  · next e=>
    split
    · exact(h.Dc ht).mono om
    · next e2=>
      have hl:=(h.tb t ht).l4 (((h.tb t ht).un e).resolve_left e2);have nu:(gT x t).lk.toNat<x.lk.length:=by rw [h.ll];omega
      have hL:=h.li _ nu;have h1:=((h.bh (l:=(gT x t).lk.toNat) (hL.lv t)).kc 8 t (gT x t).lk 10).inc (t:=t) ht;have h2:=(h1.cut (t:=t) (by show t<(x.ts.set _ _).length;rw [List.length_set];exact ht)).Dc (t:=t) (by show t<(x.ts.set _ _).length;rw [List.length_set];exact ht);refine (h2.rv (gT x t).lk.toNat (fun u hu=>?_) (Nat.le_trans (qT ..) (h.w8 nu))).mono om;have:=hL.i.o9 t u hu
      show lz ((x.ts.set _ _).set _ _).length u
      rw [List.length_set,List.length_set];exact this
theorem uR (x:aC) (l:List Nat) (t:Nat):xN x (l++ [t])=o1 (xN x l) t:=by unfold xN;rw [List.foldl_append];rfl
theorem qY:∀(l:List Nat) (x:aC),(xN x l).ts.length=x.ts.length∧(xN x l).lk.length=x.lk.length∧(xN x l).s=x.s∧(xN x l).now=x.now
  | [],x=>⟨rfl,rfl,rfl,rfl⟩
  |t::l,x=>by
    have h1:=u4 x t;have h2:=qY l (o1 x t)
    unfold xN at h2 ⊢
    rw [List.foldl_cons];exact⟨h2.1.trans h1.1,h2.2.1.trans h1.2.1,h2.2.2.1.trans h1.2.2.1,h2.2.2.2.trans h1.2.2.2⟩
theorem MI.xN:∀{l:List Nat} {k:Nat} {x:aC},MI k x→(∀t∈l,t<x.ts.length)→MI (k+40*l.length) (xN x l)
  | [],k,x,h,_=>h
  |t::l,k,x,h,ht=>by
    have h1:=MI.xN (l:=l) (h.o1 (ht t (List.mem_cons_self ..))) (fun u hu=>by rw [(u4 x t).1];exact ht u (List.mem_cons_of_mem _ hu));rw [List.length_cons,show k+40*(l.length+1)=k+40+40*l.length by omega];exact h1
theorem MI.V7 {k:Nat} {x:aC} (h:MI k x):MI (k+2560) (uP x):=by
  have zX:=h.tl;have hd:=tQ x x.ts.length;exact((h.xN (l:=nr x) (fun t ht=>iX x _ t ht)).mono (show _≤k+2560 by show k+40*(Bs x x.ts.length).length≤_;omega)).Mo
theorem MI.mvd {k:Nat} {x:aC} (h:MI k x) {t:Nat} (ht:t<x.ts.length) (c:Int):MI (k+1) (sw x t c):=by
  have q:=h.tb t ht;exact((h.up ht (y:= {gT x t with co:=c}) ⟨q.pr,q.pc,q.lf,q.ti,q.l4,q.un⟩).kc _ _ _ _).Mo
end Go.Eng
namespace Go.Eng
open Go Go.Proofs Go.RowKit
structure eL.Old (s:eL) (n0:Nat):Prop where
  g:0<s.gs.length→iM s.ga<n0
  l:0<s.ls.length→iM s.la<n0
  p:0<s.ps.length→iM s.pa<n0
  o:∀p∈s.ps,0<p.c.xs.length→iM p.ad<n0
theorem eL.In.keep {s:eL} {n0:Nat} {S:Nat→Prop} {w w':World} (h:s.In w) (ho:s.Old n0) (k:cX S w w') (hS:∀b,S b→n0≤b):s.In w':=
  ⟨h.Mz,h.hg.EI k (fun q e=>by have:=hS _ e;have:=ho.g q;omega),h.A1,h.hl.EI k (fun q e=>by have:=hS _ e;have:=ho.l q;omega),h.Cp,h.hp.EI k (fun q e=>by have:=hS _ e;have:=ho.p q;omega),
   fun p hp=>⟨(h.ops p hp).1,(h.ops p hp).2.EI k (fun q e=>by have:=hS _ e;have:=ho.o p hp q;omega)⟩⟩
abbrev SW (b:Nat) (p:mJ):Nat×Obj:=(b,.cells (XQ p).toArray 117 (0,0))
abbrev Dj (s:eL) (x:aC) (t:Nat):mJ:=s.ps.getD (x.ts.getD t default).pr.toNat default
set_option maxHeartbeats 4000000 in
theorem C2 {n0 b k t c:Nat} {s:eL} {x:aC} {m:aa} (w:World) (h:dY n0 b s x m) (hI:MI k x) (hk:k≤700000000000) (ht:t<x.ts.length) (Gy:c<x.cs.length) (hs:s.In w) (jS:s.Old n0) (cb:n0≤w.heap.size) (hM:Mem w m):aJ Tryz.prog 58 #[.pointer (some ⟨b,0,none⟩),.int .i64 (t:Nat),.int .i64 (c:Nat)] w (eI m (fun u m'=>u= .bool (eZ x t c).2∧dY n0 b s (eZ x t c).1 m') w):=by
 obtain ⟨P,rfl,h⟩:=h;have FW:=h.ge (y:=x.now);have rP:=h.nt;have er:=h.st;have uf:=hI.tl;obtain ⟨ig,ii,il,ip,ix,it,iv,ie,ic,iq⟩:=bM (ay (az b s x.now P) w.heap.size);have ZT:=hs.hp;have Cp:=hs.Cp;have Gk:x.s.ps=s.ps.map mJ.c:=(by rw [h.hs];rfl);have gh:x.s.ps.length=s.ps.length:=(by rw [Gk,List.length_map]);have hpr:0≤(x.ts.getD t default).pr∧(x.ts.getD t default).pr<(x.s.ps.length:Int):=(hI.tb t ht).pr;have ph:Dj s x t∈s.ps:=List.mem_of_getElem? (aQ default om);have lN:=hs.ops _ ph;have hon:=lN.1;have hos:=lN.2;have VE:0<s.ps.length→¬fS (az b s x.now P) (iM s.pa):=(fun q ⟨p,hp,he⟩=>by have:=FW p hp;have:=jS.p q;omega);have VB:0<(Dj s x t).c.xs.length→¬fS (az b s x.now P) (iM (Dj s x t).ad):=(fun q ⟨p,hp,he⟩=>by have:=FW p hp;have:=jS.o _ ph q;omega);have H5:ko x t=(Dj s x t).c:=(by unfold ko;rw [Gk,ku]);have MF:=B3 hI.ms (p:=ko x t) (by rw [H5,Gk];exact List.mem_map_of_mem ph);rw [H5] at MF;refine aJ.au Tryz.func58 rfl Tryz.ntmps58 rfl (az b s x.now P++ []) ((fS (az b s x.now P))) aM ?_;refine J6 ?_;refine af.bH (α:=Nat) (fun b7=>[(7,.pointer (some ⟨b7,0,none⟩))]) [(0,_),(1,_),(2,_)] (fun b7=>SW b7 (Dj s x t)::(az b s x.now P++ [])) (fun b7=>w.heap.size≤b7) cm ?_ ?_
 ·refine af.keep (az b s x.now P++ []) (fun _=>True) (.one 0 0 (.one 1 0 (.one 2 0 (.one 3 0 (.one 4 1 (.one 5 0 (.one 6 0 (.one 7 0 (.one 8 1 (.one 9 0 (.one 10 0 (.one 11 0 (.one 12 1 (.one 13 0 (.one 14 1 (.one 15 2 (.one 16 2 .nil))))))))))))))))) kr kr aX (fun _ _=>trivial) ?_;refine cK ?_;refine KD.rd rfl rfl (aH (j:=1) aA ir Tryz.isAgg3 rfl rfl (by first|exact bF om|exact aQ default cL) rfl (by rfl)) ?_;refine KD.val rfl rfl (cP o5 Tryz.underlying28 Tryz.sizeOf117 rfl rfl om) ?_;refine KD.eT rfl rfl (dX aA ir Tryz.isAgg117 Tryz.sizeOf117 rfl (by first|exact bF om|exact aQ default cL) (by first|exact VE om|exact VB om)) ?_;refine J1 ?_;refine LM.alloc Tryz.zeroValue117 rfl (fun b7 R2=>?_);refine J3 ?_;refine LM.dC Tryz.sizeOf117 rfl rfl rfl rfl dF tC ?_;refine J3 ?_;refine mK (b7) ?_
  · assumption
 rintro b7 R2;change QM _ _ _ _ _ (SW b7 (Dj s x t)::(az b s x.now P++ [])) _ _ _;refine J3 ?_;refine af.draw [(0,0),(1,0),(2,0),(3,1),(4,0),(5,0),(6,0),(7,1),(8,0),(9,1),(10,0),(11,0)] kr kr ?_;refine J7 ?_;refine LD.rd rfl rfl (aH (j:=4) aA ir Tryz.isAgg3 rfl rfl (by first|exact bF om|exact aQ default cL) rfl (by rfl)) ?_;refine J6 ?_;refine af.bH (α:=aa×iN) (fun ⟨mt,z⟩=>[]) [(0,_),(1,_),(2,_),(7,_)] (fun ⟨mt,z⟩=>SW b7 (Dj s x t)::(zJ b s x.now P P.mx mt P.mc P.mq++ [])) (fun ⟨mt,z⟩=>kq x t=dk x t z∧Sl Ha 66 12 n0 (x.ts.set t z) (.slice P.DE P.nt P.ct) mt∧cZ (az b s x.now P) w.heap.size mt∧¬(((ko x t).xs.length:Int)≤(gT x t).pc∧(ko x t).fv=false)) cm ?_ ?_
 ·refine af.aj rfl (fun h1=>?_) (fun h1=>?_)
  ·refine J8 ?_;refine af.aW rfl (fun h2=>?_) (fun h2=>?_)
   ·refine J4 ?_;refine cU Tryz.func32 rfl (fun w hm hc hg=>pR w (fN.m h) hI om ht (Nat.le_trans cb hc.size) (hm.pick _)) (fN.m h).bW (ao (ay _ _)) ?_;rintro u43 m43 ⟨rfl,h43⟩ IK;refine J9 ?_;refine QM.fZ ?_;refine J1 ?_;refine qL Tryz.results58 rfl fun w' aq ab aI=>?_;rw [tW (by rw [H5];show _≤(x.ts.getD t default).pc;omega) (by rw [H5];simpa using h2)];exact aZ (m':=m43) ⟨rfl,h43⟩ aq aX ab IK
   refine cf ?_;refine LM.iF ({gT x t with pc:=0}) (j:=4) aA ir Tryz.sizeOf3 rfl rfl rfl (by first|exact bF om|exact aQ default cL) rfl (by decide) (by rfl) rfl (ao aA) (fun jZ fQ kj=>?_)
   try rw [List.set_set] at fQ
   have H6:=ca kj aA;refine J1 ?_;refine mK (jZ,{gT x t with pc:=0}) ?_
   · exact⟨by unfold kq;rw [if_pos (by rw [H5];show _≤(x.ts.getD t default).pc;omega)],fQ,H6,fun q=>by have q2:=q.2;rw [H5] at q2;rw [q2] at h2;simp at h2⟩
  refine J1 ?_;refine mK (P.mt,gT x t) ?_
  · exact⟨by unfold kq dk;rw [if_neg (by rw [H5];show¬_≤(x.ts.getD t default).pc;omega),tJ default ht],by rw [tJ default ht];exact er,it,fun q=>by have q1:=q.1;rw [H5] at q1;have:((Dj s x t).c.xs.length:Int)≤(x.ts.getD t default).pc:=q1;omega⟩
 rintro ⟨mt,z⟩ ⟨hz,Ea,it1,dt⟩;change QM _ _ _ _ _ (SW b7 (Dj s x t)::(zJ b s x.now P P.mx mt P.mc P.mq++ [])) _ _ _
 clear er;have Hs:=FH hI ht;rw [hz,H5,fD ht,if_pos rfl] at Hs
 refine J2 ?_;refine af.bH (α:=Nat) (fun b8=>[(8,.pointer (some ⟨b8,0,none⟩))]) [(0,_),(1,_),(2,_)] (fun b8=>oB b8 ((Dj s x t).c.xs.getD z.pc.toNat default)::SW b7 (Dj s x t)::(zJ b s x.now P P.mx mt P.mc P.mq++ [])) (fun b8=>w.heap.size≤b8) cm ?_ ?_
 ·refine af.keep (SW b7 (Dj s x t)::(zJ b s x.now P P.mx mt P.mc P.mq++ [])) (fun _=>True) (.one 0 0 (.one 1 1 (.one 2 0 (.one 3 0 (.one 4 0 (.one 5 1 (.one 6 0 (.one 7 0 (.one 8 0 (.one 9 1 (.one 10 0 (.one 11 1 (.one 12 2 (.one 13 2 .nil)))))))))))))) kr kr aX (fun _ _=>trivial) ?_;refine J9 ?_;refine KD.rd rfl rfl (aH (j:=4) aA ir Tryz.isAgg3 rfl rfl (by first|exact bF om|exact aQ default cL) rfl (by rfl)) ?_;refine KD.val rfl rfl (cP o5 Tryz.underlying115 Tryz.sizeOf168 rfl rfl om) ?_;refine KD.eT rfl rfl (dX aA ir Tryz.isAgg168 Tryz.sizeOf168 rfl (by first|exact bF om|exact aQ default cL) (by first|exact VE om|exact VB om)) ?_;refine J1 ?_;refine LM.alloc Tryz.zeroValue168 rfl (fun b8 J0=>?_);refine J3 ?_;refine LM.dC Tryz.sizeOf168 rfl rfl rfl rfl dF tC ?_;refine J3 ?_;refine mK (b8) ?_
  · assumption
 rintro b8 J0;change QM _ _ _ _ _ (oB b8 ((Dj s x t).c.xs.getD z.pc.toNat default)::SW b7 (Dj s x t)::(zJ b s x.now P P.mx mt P.mc P.mq++ [])) _ _ _;obtain ⟨o,ho⟩:∃o:db,(Dj s x t).c.xs.getD z.pc.toNat default=o:=⟨_,rfl⟩;rw [ho];have PT:OL x.s o:=(by have q:=hI.op ht (i:=z.pc.toNat) (by rw [H5];exact Hs.1);rw [H5,ho] at q;exact q);have qm:=D9 (c:=c) (o:=o) dt ht hz (by rw [H5];exact ho);obtain ⟨y,hy⟩:∃y,y=dk x t z:=⟨_,rfl⟩;rw [←hy] at qm;have iA:MI k y:=(by rw [hy,←hz];exact hI.kq ht);have MO:fN n0 b s y {P with mt:=mt} :=(by rw [hy];exact {h with nt:=(by rw [bt];exact rP),st:=Ea});have mu:y.now=x.now:=(by rw [hy];rfl);have pk:dY n0 b s y (az b s x.now {P with mt:=mt}):=fN.m (hn:=mu) MO;have ri:y.ts=x.ts.set t z:=(by rw [hy];rfl);have WR:y.ts.length=x.ts.length:=(by rw [ri,List.length_set]);have hyk:y.lk=x.lk:=(by rw [hy];rfl);have hyc:y.cs=x.cs:=(by rw [hy];rfl);have Sy:gT y t=z:=(by rw [hy,fD ht,if_pos rfl]);have Ak:t<y.ts.length:=om;have z4:=iA.ev;have hvl:=iA.vl;have gZ:=iA.ll;have qa:y.s=x.s:=(by rw [hy];rfl);have hzp:0≤z.pc∧z.pc≤(k:Int):=(by rw [←Sy];exact(iA.tb t Ak).pc)
 refine J8 ?_;refine af.bH (α:=aC×sD) (fun ⟨v,V⟩=>[]) [(0,_),(1,_)] (fun ⟨v,V⟩=>az b s x.now V++ []) (fun ⟨v,V⟩=>eZ x t c=(bJ v t,false)∧fN n0 b s v V∧v.now=x.now∧cZ (az b s x.now P) w.heap.size (az b s x.now V)∧MI (k+100) v∧t<v.ts.length) cm ?_ ?_
 ·refine J7 ?_;refine af.aj rfl (fun h3=>?_) (fun h3=>?_)
  ·refine J4 ?_;refine LM.rd (bo Tryz.isAgg168 Tryz.sizeOf168 rfl rfl) ?_;refine cU Tryz.func96 rfl (fun w hm hc hg=>DN o w pk iA om Ak (PT.c aA) (Nat.le_trans cb hc.size) (hm.pick _)) pk.bW (ao aL) ?_;rintro u70 WB ⟨rfl,h70⟩ I5;refine J9 ?_;refine QM.fZ ?_;refine J1 ?_;refine qL Tryz.results58 rfl fun w' aq ab aI=>?_;rw [qm,Ww h3];exact aZ (m':=WB) ⟨rfl,h70⟩ aq aX ab (ak aL I5)
  refine J7 ?_;refine af.Da (t:=71) rfl (fun h4=>?_) (fun h4=>?_)
  ·refine J7 ?_;refine LM.rd (bo Tryz.isAgg168 Tryz.sizeOf168 rfl rfl) ?_;refine cU Tryz.func97 rfl (fun w hm hc hg=>l6 o w pk iA om Ak (by have q:=PT.l om;rw [qa] at gZ;omega) (Nat.le_trans cb hc.size) (hm.pick _)) pk.bW (ao aL) ?_;rintro u79 Sb ⟨rfl,R9⟩ u2;refine J5 ?_;refine QM.fZ ?_;refine J1 ?_;refine qL Tryz.results58 rfl fun w' aq ab aI=>?_;rw [qm,AN om];exact aZ (m':=Sb) ⟨rfl,R9⟩ aq aX ab (ak aL u2)
  refine J6 ?_;refine af.Da (t:=71) rfl (fun h5=>?_) (fun h5=>?_)
  ·refine J7 ?_;refine LM.rd (bo Tryz.isAgg168 Tryz.sizeOf168 rfl rfl) ?_;refine cU Tryz.func97 rfl (fun w hm hc hg=>l6 o w pk iA om Ak (by have q:=PT.l om;rw [qa] at gZ;omega) (Nat.le_trans cb hc.size) (hm.pick _)) pk.bW (ao aL) ?_;rintro u79 Sb ⟨rfl,R9⟩ u2;refine J5 ?_;refine QM.fZ ?_;refine J1 ?_;refine qL Tryz.results58 rfl fun w' aq ab aI=>?_;rw [qm,AN om];exact aZ (m':=Sb) ⟨rfl,R9⟩ aq aX ab (ak aL u2)
  refine J6 ?_;refine af.Da (t:=71) rfl (fun h6=>?_) (fun h6=>?_)
  ·refine J7 ?_;refine LM.rd (bo Tryz.isAgg168 Tryz.sizeOf168 rfl rfl) ?_;refine cU Tryz.func97 rfl (fun w hm hc hg=>l6 o w pk iA om Ak (by have q:=PT.l om;rw [qa] at gZ;omega) (Nat.le_trans cb hc.size) (hm.pick _)) pk.bW (ao aL) ?_;rintro u79 Sb ⟨rfl,R9⟩ u2;refine J5 ?_;refine QM.fZ ?_;refine J1 ?_;refine qL Tryz.results58 rfl fun w' aq ab aI=>?_;rw [qm,AN om];exact aZ (m':=Sb) ⟨rfl,R9⟩ aq aX ab (ak aL u2)
  refine J5 ?_;refine af.aj rfl (fun h7=>?_) (fun h7=>?_)
  ·refine J4 ?_;refine LM.rd (bo Tryz.isAgg168 Tryz.sizeOf168 rfl rfl) ?_;refine cU Tryz.func97 rfl (fun w hm hc hg=>l6 o w pk iA om Ak (by have q:=PT.l om;rw [qa] at gZ;omega) (Nat.le_trans cb hc.size) (hm.pick _)) pk.bW (ao aL) ?_;rintro u79 Sb ⟨rfl,R9⟩ u2;refine J5 ?_;refine QM.fZ ?_;refine J1 ?_;refine qL Tryz.results58 rfl fun w' aq ab aI=>?_;rw [qm,AN om];exact aZ (m':=Sb) ⟨rfl,R9⟩ aq aX ab (ak aL u2)
  refine J6 ?_;refine af.aj rfl (fun h8=>?_) (fun h8=>?_)
  ·have H8:=PT.l om;have tI:o.a.toNat<y.lk.length:=(by rw [qa] at gZ;omega);have hL:=iA.li o.a.toNat tI;have hLh:=hL.hl;have uN:P.nl=y.lk.length:=MO.nl;have sY:P.bs.length=y.lk.length:=MO.bl;have Gs:Sl fP 54 1 n0 P.bs (.slice P.al P.nl P.cl) P.ml:=MO.sl;have ajM:0≤o.a∧o.a<(P.nl:Int):=(by rw [qa] at gZ;omega);have hia:((o.a.toNat:Nat):Int)=o.a:=Int.toNat_of_nonneg H8.1;refine J1 ?_;refine af.keep (uH b s x.now P::(P.ml++(oB b8 o:: []))) (fun _=>True) (.one 0 0 (.one 1 0 (.one 2 0 (.one 3 1 (.one 4 0 (.one 5 1 (.one 6 0 (.one 7 1 (.one 8 0 (.one 9 2 (.one 10 0 (.one 11 0 (.one 12 0 (.one 13 0 (.one 14 0 .nil))))))))))))))) kr kr aX (fun _ _=>trivial) ?_;refine J6 ?_;refine KD.val rfl rfl (cP o5 Tryz.underlying43 Tryz.sizeOf54 rfl rfl om) ?_;refine KD.rd rfl rfl (bw aA ir Tryz.isAgg54 rfl rfl (by first|exact bF om|exact aQ default cL) (by rfl)) ?_;refine J2 ?_;refine cU Tryz.func98 rfl (fun w hm hc hg=>EH (l:=o.a.toNat) MO.sq tI (hm.pick P.mq) (fun m hr hM=>vD (k:=n0) (t:Nat) w hL.w.topg hr (Nat.le_trans cb hc.size) (by show (gL y o.a.toNat).ho.length≤900;omega) (Nat.le_trans cb hc.size) hM)) (MO.sq.bW C8) (ao iq) ?_;rintro u92 m92 ⟨mr,Si,⟨adr,Tk,rfl,CN⟩,rfl,BD⟩ L3;refine LM.assoc ?_;have i92:cZ (az b s x.now P) w.heap.size Si:=fun p hp=>ak iq L3 p (List.mem_append_right _ hp);refine ud ?_;refine af.aj rfl (fun h9=>?_) (fun h9=>?_)
   ·have wB:dY n0 b s y (az b s x.now {P with mt:=mt,mq:=Si}):=fN.m (hn:=mu) {MO with sq:=(by have q:=BD;rw [show ej (gL y o.a.toNat) t=y.lk.getD o.a.toNat default from if_neg (fun e=>h9 (if_pos e)),tJ default tI] at q;exact q)};refine J6 ?_;refine cU Tryz.func55 rfl (fun w hm hc hg=>bV 8 (t:Nat) o.a (mM (gL y o.a.toNat) t) w wB om (Nat.le_trans cb hc.size) (hm.pick _)) wB.bW (ao aL) ?_;rintro aki ai7 ⟨rfl,T1⟩ TL;obtain ⟨P1,kR,T1⟩:=T1;rw [show (ba y 8 t o.a (mM (gL y o.a.toNat) t)).now=x.now from mu] at kR;subst kR;have i102:cZ (az b s x.now P) w.heap.size (az b s x.now P1):=ak aL TL;refine J2 ?_;refine mK (ba y 8 t o.a (mM (gL y o.a.toNat) t),P1) ?_
    · exact⟨by rw [qm,JX h8 h9],T1,mu,i102,(iA.kc _ _ _ _).mono om,Ak⟩
   have wB:dY n0 b s (bh y o.a.toNat (ej (gL y o.a.toNat) t)) (az b s x.now {P with mt:=mt,mq:=Si}):=fN.m (hn:=mu) {MO with nl:=(by rw [cA];exact uN),bl:=(by rw [cA];exact sY),sq:=BD};have p8:=(iA.bh (l:=o.a.toNat) (hL.BL t)).kc 5 t o.a 0;refine J6 ?_;refine cU Tryz.func55 rfl (fun w hm hc hg=>bV 5 (t:Nat) o.a 0 w wB (by show y.ev.length≤_;omega) (Nat.le_trans cb hc.size) (hm.pick _)) wB.bW (ao aL) ?_;rintro adM Uh ⟨rfl,LP⟩ En;have i107:cZ (az b s x.now P) w.heap.size Uh:=ak aL En;refine J7 ?_;refine cU Tryz.func62 rfl (fun w hm hc hg=>(by have q:=lC (l:=o.a.toNat) w LP p8 om (by show _<(y.lk.set _ _).length;rw [List.length_set];exact tI) (hL.i.dZ t) (Nat.le_trans (nV ..) hL.w.w8) rfl CN (Nat.le_trans cb hc.size) (sm hm);rw [hia] at q;exact q)) LP.bW (ao i107) ?_;rintro aeb Wm ⟨rfl,Kp⟩ Ep;obtain ⟨P1,kR,Kp⟩:=Kp;have hgs:=cN o.a.toNat (ba (bh y o.a.toNat (ej (gL y o.a.toNat) t)) 5 t o.a 0) (dZ (gL y o.a.toNat) t);rw [hgs.2.2.2,show (ba (bh y o.a.toNat (ej (gL y o.a.toNat) t)) 5 t o.a 0).now=x.now from mu] at kR;subst kR;have i112:cZ (az b s x.now P) w.heap.size (az b s x.now P1):=ak i107 Ep;refine J2 ?_;refine mK (dz (ba (bh y o.a.toNat (ej (gL y o.a.toNat) t)) 5 t o.a 0) o.a.toNat (dZ (gL y o.a.toNat) t),P1) ?_
   · exact⟨by rw [qm,JK h8 h9],Kp,hgs.2.2.2.trans mu,i112,(p8.rv o.a.toNat (hL.i.dZ t) (Nat.le_trans (nV ..) hL.w.w8)).mono om,by rw [hgs.1];exact Ak⟩
  refine J6 ?_;refine af.aj rfl (fun iV=>?_) (fun iV=>?_)
  ·have hzq:({z with st:=3,un:=x.now+BitVec.ofInt 64 o.a} :iN).pc=z.pc:=rfl;refine J6 ?_;refine cU Tryz.func55 rfl (fun w hm hc hg=>bV 9 (t:Nat) (-1) o.a w pk om (Nat.le_trans cb hc.size) (hm.pick _)) pk.bW (ao aL) ?_;rintro akc aeO ⟨rfl,Ze⟩ Rc;have i119:cZ (az b s x.now P) w.heap.size aeO:=ak aL Rc;refine J6 ?_;refine cU Tryz.func72 rfl (fun w hm hc hg=>pY t w Ze (by show t<y.v.length;omega) (Nat.le_trans cb hc.size) (hm.pick _)) Ze.bW (ao i119) ?_;rintro akL acy ⟨rfl,Eh⟩ Sh;change dY n0 b s (Q2 y t o.a) acy at Eh;obtain ⟨P1,kR,Eh⟩:=Eh;rw [show (Q2 y t o.a).now=x.now from mu] at kR;subst kR;have i122:=ak i119 Sh;clear ig ii il ip ix it iv ie ic iq;obtain ⟨ig,ii,il,ip,ix,it,iv,ie,ic,iq⟩:=bM i122;have Ld:Sl Ha 66 12 n0 (x.ts.set t z) (.slice P1.DE P1.nt P1.ct) P1.mt:=ri▸Eh.st;have Oe:P1.nt=x.ts.length:=WR▸Eh.nt;refine dB ?_;refine LM.iF ({z with st:=3}) (j:=6) aA ir Tryz.sizeOf3 rfl rfl rfl (by first|exact bF om|exact aQ default cL) rfl (by decide) (by rfl) rfl (ao aA) (fun p9 kk so=>?_)
   try rw [List.set_set] at kk
   have TK:=ca so aA;refine J3 ?_;refine af.keep (uH b s x.now P1::oB b8 o:: []) (fun _=>True) (.one 0 0 (.one 1 0 (.one 2 0 (.one 3 1 (.one 4 0 (.one 5 0 (.one 6 0 (.one 7 0 (.one 8 1 (.one 9 0 (.one 10 1 (.one 11 0 (.one 12 0 (.one 13 0 (.one 14 0 (.last 15)))))))))))))))) kr kr aX (fun _ _=>trivial) ?_;refine dB ?_;refine KD.val rfl rfl (oc Tryz.underlying3 Tryz.underlying41 rfl) ?_;refine KD.val rfl rfl (gY rfl rfl) ?_;refine J2 ?_;refine KD.last rfl ?_;refine LM.iF ({z with st:=3,un:=x.now+BitVec.ofInt 64 o.a}) (j:=7) aA ir Tryz.sizeOf41 rfl rfl rfl (by first|exact bF om|exact aQ default cL) rfl (by decide) (by rfl) rfl (ao aA) (fun ms4 Gg Mp=>?_)
   try rw [List.set_set] at Gg
   have ii4:=ca Mp aA;refine J1 ?_;refine QM.qn ?_;refine cf ?_;refine LM.rd (aH (j:=4) aA ir Tryz.isAgg3 rfl rfl (by first|exact bF om|exact aQ default cL) rfl (by rfl)) ?_;refine J3 ?_;refine LM.iF ({z with st:=3,un:=x.now+BitVec.ofInt 64 o.a,pc:=z.pc+1}) (j:=4) aA ir Tryz.sizeOf3 rfl rfl rfl (by first|exact bF om|exact aQ default cL) rfl (by decide) (by rfl) rfl (ao aA) (fun ms5 Ja T6=>?_)
   try rw [List.set_set] at Ja
   have ii5:=ca T6 aA;refine J9 ?_;refine QM.fZ ?_;refine J1 ?_;refine qL Tryz.results58 rfl fun w' aq ab aI=>?_;rw [qm,UC iV,Sy,mu];exact aZ (m':=az b s x.now {P1 with mt:=ms5}) ⟨rfl,fN.m (hn:=mu) {Eh with nt:=(by rw [bt];exact Eh.nt),st:=(by show Sl _ _ _ _ (y.ts.set t _) _ _;rw [ri,List.set_set];exact Ja)}⟩ aq aX ab aL
  refine J6 ?_;refine af.aj rfl (fun kg=>?_) (fun kg=>?_)
  ·have hzq:({z with st:=1} :iN).pc=z.pc:=rfl;refine J5 ?_;refine cU Tryz.func55 rfl (fun w hm hc hg=>bV 10 (t:Nat) (-1) (c:Nat) w pk om (Nat.le_trans cb hc.size) (hm.pick _)) pk.bW (ao aL) ?_;rintro aiu al5 ⟨rfl,AY⟩ RY;obtain ⟨P1,kR,AY⟩:=AY;rw [show (ba y 10 t (-1) c).now=x.now from mu] at kR;subst kR;have i161:cZ (az b s x.now P) w.heap.size (az b s x.now P1):=ak aL RY;clear ig ii il ip ix it iv ie ic iq;obtain ⟨ig,ii,il,ip,ix,it,iv,ie,ic,iq⟩:=bM i161;have Ld:Sl Ha 66 12 n0 (x.ts.set t z) (.slice P1.DE P1.nt P1.ct) P1.mt:=ri▸AY.st;have Oe:P1.nt=x.ts.length:=WR▸AY.nt;obtain ⟨mD,nq,je,Fg,rm,hX⟩:=AY.sc.x;have Rv:=hX.sl;have hXl:Fg.length=y.cs.length:=hX.len;have hXn:nq=y.cs.length:=hX.nl;have P3:c<y.cs.length:=(by rw [hyc];exact Gy)
   refine cf ?_;refine LM.eT (fun w hm hc hg=>fF (M:=gv P1.bc mD nq je::(rm++ [])) Tryz.isAgg118 rfl rfl w (hX.ld (hm.pick P1.mc))) ?_;refine J2 ?_;refine LM.eT (fun w hm hc hg=>aH (M:=gv P1.bc mD nq je::(rm++ [])) (i:=c) (j:=0) Rv ir Tryz.isAgg122 rfl rfl (aQ (xs:=Fg) default om) rfl (by rfl) w (hX.ld (hm.pick P1.mc))) ?_;refine cU Tryz.func54 rfl (fun w hm hc hg=>hX.AE (i:=c) (x':=fh (qg y.cs c)) P3 (hm.pick P1.mc) (iA.ci.back P3).wf (fun m hr hM=>sZ w hr hM)) AY.sc.bW (ao ic) ?_;rintro ajz ace ⟨rfl,aet⟩ Q7;have i172:=ak ic Q7;refine dB ?_;refine LM.iF ({z with st:=1}) (j:=6) aA ir Tryz.sizeOf3 rfl rfl rfl (by first|exact bF om|exact aQ default cL) rfl (by decide) (by rfl) rfl (ao aA) (fun p9 kk so=>?_)
   try rw [List.set_set] at kk
   have TK:=ca so aA;refine dB ?_;refine LM.rd (aH (j:=4) aA ir Tryz.isAgg3 rfl rfl (by first|exact bF om|exact aQ default cL) rfl (by rfl)) ?_;refine J3 ?_;refine LM.iF ({z with st:=1,pc:=z.pc+1}) (j:=4) aA ir Tryz.sizeOf3 rfl rfl rfl (by first|exact bF om|exact aQ default cL) rfl (by decide) (by rfl) rfl (ao aA) (fun ms4 Gg Mp=>?_)
   try rw [List.set_set] at Gg
   have ii4:=ca Mp aA;refine J9 ?_;refine QM.fZ ?_;refine J1 ?_;refine qL Tryz.results58 rfl fun w' aq ab aI=>?_;rw [qm,VA kg,Sy];exact aZ (m':=az b s x.now {P1 with mt:=ms4,mc:=ace}) ⟨rfl,fN.m (hn:=mu) {AY with nt:=(by rw [bt];exact AY.nt),st:=(by show Sl _ _ _ _ (y.ts.set t _) _ _;rw [ri,List.set_set];exact Gg),sc:=aet.c}⟩ aq aX ab aL
  refine J6 ?_;refine af.aj rfl (fun gH=>?_) (fun gH=>?_)
  ·refine J3 ?_;refine cE Tryz.func29 rfl (fun w hm hc hg=>s9 w pk iA.tl (hm.pick _)) ?_;refine J2 ?_;refine af.aW rfl (fun oq=>?_) (fun oq=>?_)
   ·refine af.draw [(0,0),(1,0),(2,1),(3,0),(4,0),(5,0),(6,1),(7,0),(8,0),(9,0),(10,1),(11,0),(12,0),(13,0),(14,1),(15,0),(16,0),(17,0),(18,1),(19,0),(20,3)] kr kr ?_;refine cf ?_;refine LD.rd rfl rfl (aH (j:=2) aA ir Tryz.isAgg3 rfl rfl (by first|exact bF om|exact aQ default cL) rfl (by rfl)) ?_;refine J7 ?_;refine LD.rd rfl rfl (aH (j:=9) aA ir Tryz.isAgg3 rfl rfl (by first|exact bF om|exact aQ default cL) rfl (by rfl)) ?_;refine J1 ?_;refine LD.tail rfl rfl ?_;refine cU Tryz.func30 rfl (fun w hm hc hg=>vG o.a z.gr z.we (c:Nat) w pk iA.tl (by have:=iA.tl;omega) om (Nat.le_trans cb hc.size) (hm.pick _)) pk.bW (ao aL) ?_;rintro aiC alT ⟨rfl,Th⟩ Sz;obtain ⟨P1,kR,Th⟩:=Th;rw [show (oX y o.a z.gr z.we c).now=x.now from mu] at kR;subst kR;have i215:cZ (az b s x.now P) w.heap.size (az b s x.now P1):=ak aL Sz;refine J1 ?_;refine QM.qn ?_;refine J1 ?_;refine mK (oX y o.a z.gr z.we c,P1) ?_
    · exact⟨by rw [qm,Uw gH,if_pos oq,Sy],Th,mu,i215,(iA.Ms _ _ _ _ (by rw [qa];exact PT.p gH) (by unfold iK at oq;simp only [Bool.and_eq_true,decide_eq_true_eq] at oq;exact oq.2)).mono om,by show t<(y.ts++ [_]).length;rw [List.length_append];omega⟩
   refine J3 ?_;refine cU Tryz.func55 rfl (fun w hm hc hg=>bV 8 (t:Nat) (-1) 3 w pk om (Nat.le_trans cb hc.size) (hm.pick _)) pk.bW (ao aL) ?_;rintro aiF aiV ⟨rfl,T4⟩ SS;obtain ⟨P1,kR,T4⟩:=T4;rw [show (ba y 8 t (-1) 3).now=x.now from mu] at kR;subst kR;have i218:cZ (az b s x.now P) w.heap.size (az b s x.now P1):=ak aL SS;refine J2 ?_;refine mK (ba y 8 t (-1) 3,P1) ?_
   · exact⟨by rw [qm,Uw gH,if_neg (by simpa using oq)],T4,mu,i218,(iA.kc _ _ _ _).mono om,Ak⟩
  refine J6 ?_;refine af.aj rfl (fun jw=>?_) (fun jw=>?_)
  ·refine J1 ?_;refine af.keep (zJ b s x.now P P.mx mt P.mc P.mq++(oB b8 o:: [])) (fun _=>True) (.one 0 0 (.one 1 0 (.one 2 0 (.one 3 1 (.one 4 0 (.one 5 0 (.one 6 1 (.one 7 0 (.one 8 0 (.last 9)))))))))) kr kr aX (fun _ _=>trivial) ?_;refine J9 ?_;refine KD.last rfl ?_;refine LM.iF ({z with we:=o.a}) (j:=9) aA ir Tryz.sizeOf3 rfl rfl rfl (by first|exact bF om|exact aQ default cL) rfl (by decide) (by rfl) rfl (ao aA) (fun p9 kk so=>?_)
   try rw [List.set_set] at kk
   have TK:=ca so aA;refine J1 ?_;refine QM.qn ?_;refine J2 ?_;have Jc:dY n0 b s (dk y t {z with we:=o.a}) (az b s x.now {P with mt:=p9}):=fN.m (hn:=mu) {MO with nt:=(by rw [bt];exact MO.nt),st:=(by show Sl _ _ _ _ (y.ts.set t _) _ _;rw [ri,List.set_set];exact kk)};refine J4 ?_;refine cU Tryz.func55 rfl (fun w hm hc hg=>bV 14 (t:Nat) (-1) o.a w Jc (by show y.ev.length≤_;omega) (Nat.le_trans cb hc.size) (hm.pick _)) Jc.bW (ao aL) ?_;rintro ah6 aml ⟨rfl,S7⟩ R0;obtain ⟨P1,kR,S7⟩:=S7;rw [show (ba (dk y t {z with we:=o.a}) 14 t (-1) o.a).now=x.now from mu] at kR;subst kR;have i234:cZ (az b s x.now P) w.heap.size (az b s x.now P1):=ak aL R0;refine J2 ?_;refine mK (ba (dk y t {z with we:=o.a}) 14 t (-1) o.a,P1) ?_
   · exact⟨by rw [qm,Mj jw,Sy],S7,mu,i234,((iA.up Ak (y:= {z with we:=o.a}) (by have q:=iA.tb t Ak;rw [Sy] at q;exact⟨q.pr,q.pc,q.lf,q.ti,q.l4,q.un⟩) (.inr (by rw [Sy]))).kc _ _ _ _).mono om,by show t<(y.ts.set _ _).length;rw [List.length_set];exact Ak⟩
  refine J6 ?_;refine af.aj rfl (fun wW=>?_) (fun wW=>?_)
  ·refine J4 ?_;refine cU Tryz.func32 rfl (fun w hm hc hg=>pR w pk iA om Ak (Nat.le_trans cb hc.size) (hm.pick _)) pk.bW (ao aL) ?_;rintro akT acJ ⟨rfl,acu⟩ RA;refine J9 ?_;refine QM.fZ ?_;refine J1 ?_;refine qL Tryz.results58 rfl fun w' aq ab aI=>?_;rw [qm,Jp wW];exact aZ (m':=acJ) ⟨rfl,acu⟩ aq aX ab (ak aL RA)
  refine J2 ?_;refine mK (y,{P with mt:=mt}) ?_
  · exact absurd PT.k om
 rintro ⟨v,V⟩ ⟨hv1,Xd,hv3,hv4,W7,hv6⟩;change QM _ _ _ _ _ (az b s x.now V++ []) _ _ _;have hvp:0≤(v.ts.getD t default).pc∧(v.ts.getD t default).pc≤((k+100:Nat):Int):=(W7.tb t hv6).pc;have hvs:=Xd.st;have Ti:=Xd.nt;clear ig ii il ip ix it iv ie ic iq;obtain ⟨ig,ii,il,ip,ix,it,iv,ie,ic,iq⟩:=bM hv4;refine cf ?_;refine LM.rd (aH (j:=4) aA ir Tryz.isAgg3 rfl rfl (by first|exact bF om|exact aQ default cL) rfl (by rfl)) ?_;refine J3 ?_;refine LM.iF (rM (gT v t)) (j:=4) aA ir Tryz.sizeOf3 rfl rfl rfl (by first|exact bF om|exact aQ default cL) rfl (by decide) (by rfl) rfl (ao aA) (fun p9 kk so=>?_)
 try rw [List.set_set] at kk
 have TK:=ca so aA;refine J8 ?_;refine qL Tryz.results58 rfl fun w' aq ab aI=>?_;rw [hv1];exact aZ (m':=az b s x.now {V with mt:=p9}) ⟨rfl,fN.m (hn:=hv3) {Xd with nt:=(by rw [show (bJ v t).ts.length=v.ts.length from bt ..];exact Ti),st:=kk}⟩ aq aX ab aL
set_option maxHeartbeats 2000000 in
theorem CU {n0 b:Nat} {s:eL} {x:aC} {m:aa} (w:World) (h:dY n0 b s x m) (uf:x.ts.length≤64) (hM:Mem w m):aJ Tryz.prog 59 #[.pointer (some ⟨b,0,none⟩)] w (New fI 3 1 ((nr x).map (fun (j:Nat)=>(j:Int))) w):=by
 obtain ⟨P,rfl,h⟩:=h;have rP:=h.nt;have er:=h.st;refine aJ.au Tryz.func59 rfl Tryz.ntmps59 rfl (az b s x.now P++ []) (no) aM ?_;refine xW ?_;refine af.aS (α:=Nat×List Nat×Option Addr×Nat×Nat×aa) (fun ⟨i,out,dH,no,bL,mo⟩=>[(3,.slice dH no bL),(4,.int .i64 (i:Nat))]) [(0,_)] (fun ⟨i,out,dH,no,bL,mo⟩=>az b s x.now P++(mo++ [])) (fun ⟨i,out,dH,no,bL,mo⟩=>i≤x.ts.length∧out=Bs x i∧no=out.length∧Sl fI 3 1 w.heap.size (out.map (fun (j:Nat)=>(j:Int))) (.slice dH no bL) mo) (fun ⟨i,out,dH,no,bL,mo⟩=>x.ts.length-i) ((0,[],none,0,0,[])) cm aX ⟨Nat.zero_le _,rfl,rfl,.nil _ _ _ _⟩ ?_;rintro ⟨i,out,dH,no,bL,mo⟩ ⟨hi,mT,fH,jS⟩;change af _ _ _ _ _ _ _ (az b s x.now P++(mo++ [])) _ _ _;have hml:(out.map (fun (j:Nat)=>(j:Int))).length=out.length:=List.length_map ..;have ks:=jS.len;have Ou:out.length≤i:=(by rw [mT];exact tQ x i);have hom:∀j,j<out.length→out.getD j 0<i:=(fun j hj=>iX x i _ (by rw [←mT];exact List.mem_of_getElem? (aQ 0 hj)))
 refine cK ?_;refine af.aj rfl (fun h1=>?_) (fun h1=>?_)
 ·refine J6 ?_;refine af.draw [(0,0),(1,0),(2,0),(3,1),(4,0),(5,0),(6,0),(7,1),(8,0),(9,0),(10,0),(11,0),(12,0),(13,1),(14,0),(15,0),(16,0),(17,1),(18,0),(19,0),(20,0),(21,1),(22,0),(23,0)] kr kr ?_;refine J7 ?_;refine LD.rd rfl rfl (aH (j:=7) aA ir Tryz.isAgg41 rfl rfl cR rfl (by rfl)) ?_;refine LD.val rfl rfl (qF (b:=0#64) rfl rfl) ?_;refine J1 ?_;refine LD.ar (t:=25) rfl (fun h2=>?_) (fun h2=>?_)
  ·refine Uz ?_;refine aK (i+1,out,dH,no,bL,mo) ?_ ?_
   · exact⟨by omega,by rw [kF,←mT];exact(if_pos (.inl h2)).symm,fH,jS⟩
   · (dsimp only;omega)
  refine J7 ?_;refine LD.rd rfl ⟨25,_,rfl,rfl,rfl⟩ (aH (j:=7) aA ir Tryz.isAgg41 rfl rfl cR rfl (by rfl)) ?_;refine J4 ?_;refine LD.val rfl ⟨25,_,rfl,rfl,rfl⟩ (lr rfl rfl) ?_;refine J3 ?_;refine af.aj rfl (fun h3=>?_) (fun h3=>?_)
  ·refine J9 ?_;refine aK (i+1,out,dH,no,bL,mo) ?_ ?_
   · exact⟨by omega,by rw [kF,←mT];exact(if_pos (.inr h3)).symm,fH,jS⟩
   · (dsimp only;omega)
  refine J9 ?_;refine af.aS (α:=Nat) (fun k=>[(5,.int .i64 (k:Nat))]) [(0,_),(3,_),(4,_)] (fun k=>az b s x.now P++(mo++ [])) (fun k=>k≤out.length∧∀j,j<k→¬MJ x i<MJ x (out.getD j 0)) (fun k=>out.length-k) (0) cm aX ⟨Nat.zero_le _,fun j hj=>absurd hj (Nat.not_lt_zero j)⟩ ?_;rintro k ⟨hk,D0⟩;change af _ _ _ _ _ _ _ (az b s x.now P++(mo++ [])) _ _ _;have UB:k<out.length→(out.map (fun (j:Nat)=>(j:Int))).getD k 0=((out.getD k 0:Nat):Int):=Ch;have QG:=hom k;refine J2 ?_;refine af.draw [(0,0),(1,0),(2,0),(3,0),(4,0),(5,0),(6,0),(7,0),(8,1),(9,0),(10,0),(11,0),(12,1),(13,0),(14,0),(15,1),(16,0),(17,0),(18,0),(19,1),(20,0),(21,0),(22,0),(23,1),(24,0),(25,0)] kr kr ?_;refine J5 ?_;refine LD.ar (t:=44) rfl (fun h4=>?_) (fun h4=>?_)
  ·refine J7 ?_;refine LD.rd rfl ⟨44,_,rfl,rfl,rfl⟩ (bw aA ir Tryz.isAgg3 rfl rfl (by exact aQ 0 cL) (by rfl)) ?_;refine LD.val rfl ⟨44,_,rfl,rfl,rfl⟩ (cP o5 Tryz.underlying45 Tryz.sizeOf66 rfl rfl om) ?_;refine J1 ?_;refine LD.rd rfl ⟨44,_,rfl,rfl,rfl⟩ (aH (j:=7) aA ir Tryz.isAgg41 rfl rfl cR rfl (by rfl)) ?_;refine J7 ?_;refine LD.rd rfl ⟨44,_,rfl,rfl,rfl⟩ (aH (j:=7) aA ir Tryz.isAgg41 rfl rfl cR rfl (by rfl)) ?_;refine LD.val rfl ⟨44,_,rfl,rfl,rfl⟩ (Ot rfl rfl) ?_;refine J3 ?_;refine af.aj rfl (fun h5=>?_) (fun h5=>?_)
   ·refine J9 ?_;refine aK (k+1) ?_ ?_
    · exact⟨by omega,fun j hj=>by rcases Nat.lt_or_ge j k with q|q;exact D0 j q;rw [show j=k by omega];rw [UB om,Int.toNat_natCast] at h5;unfold MJ;show¬(x.ts.getD i default).un.toNat<(x.ts.getD (out.getD k 0) default).un.toNat;omega⟩
    · omega
   have hdk:Us x out i=k:=QR D0 (.inr ⟨by omega,by rw [UB om,Int.toNat_natCast] at h5;show (x.ts.getD i default).un.toNat<(x.ts.getD (out.getD k 0) default).un.toNat;omega⟩);refine J7 ?_;refine LM.K7 Tryz.underlying26 Tryz.sizeOf3 rfl (fun TF Tw=>?_);have JW:Sl fI 3 1 w.heap.size ([] :List Int) (.slice (some ⟨TF,0,none⟩) 0 0) [(TF,.cells (([] :List Value).toArray) 3 (0,0))] := .void Tw (Nat.zero_le _) rfl;refine J2 ?_;refine LM.val (jv Tryz.underlying26 Tryz.sizeOf3 rfl rfl om om) ?_;refine LM.rD (ys:=(out.map (fun (j:Nat)=>(j:Int))).take k) (m:=[(TF,.cells (([] :List Value).toArray) 3 (0,0))]) Tryz.underlying26 Tryz.typeInfo3 rfl rfl rfl rfl rfl rfl rfl JW (fun w hm hc hg=>(jS.k8 (fun _=>rfl) hm).take (k:=k) om) ir (by intro _ u hu;simp [fI] at hu;(repeat (first|(rcases hu with rfl|hu)|subst hu|rfl))) (Nat.le_refl _) (fun p hp bB=>absurd bB (Nat.not_lt_of_le (Sl.ge JW p hp))) (by unfold maxLen;rw [List.length_take];simp only [List.length_nil];omega) (by rw [List.length_take];simp only [Tryz.t3,List.length_nil];omega) (fun abe n72 VL m72 acG ach Xy=>?_);refine J7 ?_;refine LM.single Tryz.underlying26 Tryz.sizeOf3 Tryz.zeroValue3 rfl rfl rfl rfl rfl (fun b75 aaU=>?_);have aaC:(([] :List Int)++(out.map (fun (j:Nat)=>(j:Int))).take k).length≤64:=(by simp only [List.length_append,List.length_take,List.length_map,List.length_nil];omega)
   refine LM.app (a:=(i:Int)) Tryz.underlying26 Tryz.typeInfo3 rfl rfl rfl rfl rfl rfl rfl aA (by rfl) ir (by intro _ u hu;simp [fI] at hu;(repeat (first|(rcases hu with rfl|hu)|subst hu|rfl))) (by first|exact Nat.le_refl _|omega) jh (by first|omega|(unfold maxLen;omega)) (by simp only [Tryz.t3];omega) (fun aaH n76 VI m76 adT Li XV=>?_);refine J7 ?_;refine LM.val (nY k Tryz.underlying26 Tryz.sizeOf3 rfl rfl om om) ?_;refine LM.rD (ys:=(out.map (fun (j:Nat)=>(j:Int))).drop k) (m:=m76) Tryz.underlying26 Tryz.typeInfo3 rfl rfl rfl rfl rfl rfl rfl Li (fun w hm hc hg=>(jS.k8 (fun _=>rfl) hm).drop (l:=k) om) ir (by intro _ u hu;simp [fI] at hu;(repeat (first|(rcases hu with rfl|hu)|subst hu|rfl))) (Nat.le_refl _) (fun p hp bB=>absurd bB (Nat.not_lt_of_le (Sl.ge Li p hp))) (by unfold maxLen;simp only [List.length_nil,List.length_append,List.length_take,List.length_drop,List.length_cons,List.length_map];omega) (by simp only [Tryz.t3,List.length_nil,List.length_append,List.length_take,List.length_drop,List.length_cons,List.length_map];omega) (fun R3 n81 Kc m81 Q4 Rr Yx=>?_);refine J9 ?_;refine aK (i+1,out.take k++i::out.drop k,R3,n81,Kc,m81) ?_ ?_
   · exact⟨by omega,by rw [kF,←mT];unfold UT;rw [if_neg (fun q=>q.elim h2 h3),hdk],by rw [Q4];simp only [List.length_append,List.length_cons,List.length_map,List.length_take,List.length_drop,List.length_nil];omega,by rw [List.map_append,List.map_cons,List.map_take,List.map_drop];have q:=Rr;rw [List.nil_append,List.append_assoc] at q;exact q⟩
   · (dsimp only;omega)
  have hdk:Us x out i=k:=QR D0 (.inl om);refine J31 ?_;refine LM.K7 Tryz.underlying26 Tryz.sizeOf3 rfl (fun TF Tw=>?_);have JW:Sl fI 3 1 w.heap.size ([] :List Int) (.slice (some ⟨TF,0,none⟩) 0 0) [(TF,.cells (([] :List Value).toArray) 3 (0,0))] := .void Tw (Nat.zero_le _) rfl;refine J2 ?_;refine LM.val (jv Tryz.underlying26 Tryz.sizeOf3 rfl rfl om om) ?_;refine LM.rD (ys:=(out.map (fun (j:Nat)=>(j:Int))).take k) (m:=[(TF,.cells (([] :List Value).toArray) 3 (0,0))]) Tryz.underlying26 Tryz.typeInfo3 rfl rfl rfl rfl rfl rfl rfl JW (fun w hm hc hg=>(jS.k8 (fun _=>rfl) hm).take (k:=k) om) ir (by intro _ u hu;simp [fI] at hu;(repeat (first|(rcases hu with rfl|hu)|subst hu|rfl))) (Nat.le_refl _) (fun p hp bB=>absurd bB (Nat.not_lt_of_le (Sl.ge JW p hp))) (by unfold maxLen;rw [List.length_take];simp only [List.length_nil];omega) (by rw [List.length_take];simp only [Tryz.t3,List.length_nil];omega) (fun abe n72 VL m72 acG ach Xy=>?_);refine J7 ?_;refine LM.single Tryz.underlying26 Tryz.sizeOf3 Tryz.zeroValue3 rfl rfl rfl rfl rfl (fun b75 aaU=>?_);have aaC:(([] :List Int)++(out.map (fun (j:Nat)=>(j:Int))).take k).length≤64:=(by simp only [List.length_append,List.length_take,List.length_map,List.length_nil];omega)
  refine LM.app (a:=(i:Int)) Tryz.underlying26 Tryz.typeInfo3 rfl rfl rfl rfl rfl rfl rfl aA (by rfl) ir (by intro _ u hu;simp [fI] at hu;(repeat (first|(rcases hu with rfl|hu)|subst hu|rfl))) (by first|exact Nat.le_refl _|omega) jh (by first|omega|(unfold maxLen;omega)) (by simp only [Tryz.t3];omega) (fun aaH n76 VI m76 adT Li XV=>?_);refine J7 ?_;refine LM.val (nY k Tryz.underlying26 Tryz.sizeOf3 rfl rfl om om) ?_;refine LM.rD (ys:=(out.map (fun (j:Nat)=>(j:Int))).drop k) (m:=m76) Tryz.underlying26 Tryz.typeInfo3 rfl rfl rfl rfl rfl rfl rfl Li (fun w hm hc hg=>(jS.k8 (fun _=>rfl) hm).drop (l:=k) om) ir (by intro _ u hu;simp [fI] at hu;(repeat (first|(rcases hu with rfl|hu)|subst hu|rfl))) (Nat.le_refl _) (fun p hp bB=>absurd bB (Nat.not_lt_of_le (Sl.ge Li p hp))) (by unfold maxLen;simp only [List.length_nil,List.length_append,List.length_take,List.length_drop,List.length_cons,List.length_map];omega) (by simp only [Tryz.t3,List.length_nil,List.length_append,List.length_take,List.length_drop,List.length_cons,List.length_map];omega) (fun R3 n81 Kc m81 Q4 Rr Yx=>?_);refine J9 ?_;refine aK (i+1,out.take k++i::out.drop k,R3,n81,Kc,m81) ?_ ?_
  · exact⟨by omega,by rw [kF,←mT];unfold UT;rw [if_neg (fun q=>q.elim h2 h3),hdk],by rw [Q4];simp only [List.length_append,List.length_cons,List.length_map,List.length_take,List.length_drop,List.length_nil];omega,by rw [List.map_append,List.map_cons,List.map_take,List.map_drop];have q:=Rr;rw [List.nil_append,List.append_assoc] at q;exact q⟩
  · (dsimp only;omega)
 refine cK ?_;refine qL Tryz.results59 rfl fun w' aq ab aI=>?_;have fp:i=x.ts.length:=om;subst fp;subst mT;exact⟨ab,mo,jS,aq.pick _⟩
end Go.Eng
