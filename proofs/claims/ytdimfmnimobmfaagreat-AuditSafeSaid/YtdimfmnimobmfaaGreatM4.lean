/- The walks of sets of numbers. No condition. -/
import Derived.Test.YtdimfmnimobmfaaGreatM2
import Derived.Test.YtdimfmnimobmfaaGreatRows
import Derived.Test.YtdimfmnimobmfaaGreatM3
set_option linter.unusedVariables false
set_option linter.unusedSimpArgs false
set_option maxRecDepth 100000
set_option maxHeartbeats 4000000
attribute [local irreducible] Go.Eng.LM Go.Eng.LD Go.Eng.KD Go.Eng.af Go.Eng.QM
namespace Go.Eng
open Go Go.Proofs Go.RowKit
theorem fK (s:BitVec 64) (i:Int) (w:World):aJ Tryz.prog 108 #[U s,.int .i64 i] w (fun v w'=>v= .bool (aN s i)∧Ext w w'):=by
 refine aJ.au Tryz.func108 rfl Tryz.ntmps108 rfl ([]) (no) (Mem.nil w) ?_;refine cf ?_;refine LM.ar (t:=7) rfl (fun h1=>?_) (fun h1=>?_)
 ·refine J4 ?_;refine LM.ar (t:=11) rfl (fun h2=>?_) (fun h2=>?_)
  ·refine J2 ?_;refine LM.sp 11 rfl rfl rfl ?_;refine LM.val (N5 rfl rfl om) ?_;refine LM.sp 11 rfl rfl rfl ?_;refine LM.val (qp (b:=2#64) rfl rfl (by first|decide|assumption)) ?_;refine LM.sp 11 rfl rfl rfl ?_;refine LM.val (qu (b:=1#64) rfl rfl) ?_;refine J5 ?_;refine qL Tryz.results108 rfl fun w' aq ab aI=>?_;refine ⟨?_,ab⟩;simp only [bA,aN,h1,h2,decide_true,decide_false,Bool.true_and,Bool.false_and,Bool.and_true,Bool.and_false,Bool.not_true,Bool.not_false,Bool.true_or,Bool.false_or,Bool.or_true,Bool.or_false,ne_eq,not_true_eq_false,not_false_eq_true,Bool.and_self];rw [Oj]
  refine cf ?_;refine qL Tryz.results108 rfl fun w' aq ab aI=>?_;refine ⟨?_,ab⟩;simp only [bA,aN,h1,h2,decide_true,decide_false,Bool.true_and,Bool.false_and,Bool.and_true,Bool.and_false,Bool.not_true,Bool.not_false,Bool.true_or,Bool.false_or,Bool.or_true,Bool.or_false,ne_eq,not_true_eq_false,not_false_eq_true,Bool.and_self]
 refine lh ?_;refine qL Tryz.results108 rfl fun w' aq ab aI=>?_;refine ⟨?_,ab⟩;simp only [bA,aN,h1,decide_true,decide_false,Bool.true_and,Bool.false_and,Bool.and_true,Bool.and_false,Bool.not_true,Bool.not_false,Bool.true_or,Bool.false_or,Bool.or_true,Bool.or_false,ne_eq,not_true_eq_false,not_false_eq_true,Bool.and_self]
theorem pA (s:BitVec 64) (i:Int) (w:World):aJ Tryz.prog 149 #[U s,.int .i64 i] w (fun v w'=>v=U (c9 s i)∧Ext w w'):=by
 refine aJ.au Tryz.func149 rfl Tryz.ntmps149 rfl ([]) (no) (Mem.nil w) ?_;refine dA ?_;refine LM.ar (t:=7) rfl (fun h1=>?_) (fun h1=>?_)
 ·refine Tj ?_;refine qL Tryz.results149 rfl fun w' aq ab aI=>?_;refine ⟨?_,ab⟩;simp only [bA];first|exact congrArg U (qq om).symm|exact congrArg U (q9 aA).symm|exact congrArg U (ub om aA)
 refine J4 ?_;refine LM.ar (t:=11) rfl (fun h2=>?_) (fun h2=>?_)
 ·refine tO ?_;refine qL Tryz.results149 rfl fun w' aq ab aI=>?_;refine ⟨?_,ab⟩;simp only [bA];first|exact congrArg U (qq om).symm|exact congrArg U (q9 aA).symm|exact congrArg U (ub om aA)
 refine J3 ?_;refine cE Tryz.func108 rfl (fun w hm hc hg=>fK _ _ w) ?_;refine J3 ?_;refine af.aW rfl (fun h3=>?_) (fun h3=>?_)
 ·refine J8 ?_;refine qL Tryz.results149 rfl fun w' aq ab aI=>?_;refine ⟨?_,ab⟩;simp only [bA];first|exact congrArg U (qq om).symm|exact congrArg U (q9 aA).symm|exact congrArg U (ub om aA)
 refine J6 ?_;refine LM.val (ND (a:=1#64) rfl rfl om) ?_;refine LM.val (gY rfl rfl) ?_;refine J4 ?_;refine qL Tryz.results149 rfl fun w' aq ab aI=>?_;refine ⟨?_,ab⟩;simp only [bA];first|exact congrArg U (qq om).symm|exact congrArg U (q9 aA).symm|exact congrArg U (ub om aA)
end Go.Eng
namespace Go.Eng
open Go Go.Proofs Go.RowKit
def TE (q:mZ):List Value:=[.int .i64 q.w,U q.v,.int .i64 q.h,.bool q.a]
abbrev iZ (b:Nat) (ad:Option Addr) (n cap:Nat) (sl cr:Int) (fl:BitVec 64):Nat×Obj:=(b,.cells #[.slice ad n cap,.int .i64 sl,.int .i64 cr,U fl] 146 (0,0))
def xb (n0 b:Nat) (x:mV) (m:aa):Prop:=LdB x∧∃(ad:Option Addr) (n cap:Nat) (ms:aa),m=iZ b ad n cap x.sl x.cr x.fl::ms∧n=x.l.length∧Sl TE 143 4 n0 x.l (.slice ad n cap) ms∧n0≤b
theorem xb.ge {n0 b:Nat} {x:mV} {m:aa} (h:xb n0 b x m):∀p∈m,n0≤p.1:=by
  obtain ⟨hB,ad,n,cap,ms,rfl,hn,hs,hb⟩:=h;intro p hp;rcases List.mem_cons.1 hp with rfl|hp
  · exact hb
  · exact hs.ge p hp
theorem xb.bX {n0 b:Nat} {x:mV} {m:aa} (h:xb n0 b x m):∀p∈m,bX p.2=false:=by
  obtain ⟨hB,ad,n,cap,ms,rfl,hn,hs,hb⟩:=h;intro p hp;rcases List.mem_cons.1 hp with rfl|hp
  · rfl
  · exact hs.bX p hp
theorem xb.mono {n0 n1 b:Nat} {x:mV} {m:aa} (h:xb n0 b x m) (hn:n1≤n0):xb n1 b x m:=by
  obtain ⟨hB,ad,n,cap,ms,rfl,NY,hs,hb⟩:=h;exact⟨hB,ad,n,cap,ms,rfl,NY,hs.mono hn,Nat.le_trans hn hb⟩
theorem kN {n0 b n n' cap kE:Nat} {ad zU:Option Addr} {x':mV} {sl cr:Int} {fl:BitVec 64} {ms Om M:aa} {u0:Value} {w w':World} (hq:LdB x') (NY:n'=x'.l.length) (Fw:Sl TE 143 4 n0 x'.l (.slice zU n' kE) Om) (hb:n0≤b) (hm:Mem w' M)
    (hs:aT M (iZ b zU n' kE x'.sl x'.cr x'.fl::(Om++ []))) (hc:cX (fQ (iZ b ad n cap sl cr fl::ms)) w w') (jl:c6 ms w.heap.size Om):
    eF (iZ b ad n cap sl cr fl::ms) (fun u m'=>u=u0∧xb n0 b x' m') w u0 w':=by
  rw [List.append_nil] at hs;refine ⟨hc,_,⟨rfl,hq,zU,n',kE,Om,rfl,NY,Fw,hb⟩,hs.mem w' hm,fun p hp=>?_⟩;rcases List.mem_cons.1 hp with rfl|hp
  · exact .inr ⟨_,List.mem_cons_self ..,rfl⟩
  · rcases jl p hp with q|⟨q,hq,e⟩
    · exact .inl q
    · exact .inr ⟨q,List.mem_cons_of_mem _ hq,e⟩
theorem iY {n0 b:Nat} {x:mV} {m:aa} (p:Int) (w:World) (h:xb n0 b x m) (hM:Mem w m):aJ Tryz.prog 73 #[.pointer (some ⟨b,0,none⟩),.int .i64 p] w (fun u w'=>u= .bool (o3 x p)∧Ext w w'):=by
 obtain ⟨hB,ad,n,cap,ms,rfl,hn,hs,hb⟩:=h;refine aJ.au Tryz.func73 rfl Tryz.ntmps73 rfl (iZ b ad n cap x.sl x.cr x.fl::(ms++ [])) (no) aM ?_;refine cf ?_;refine LM.ar (t:=7) rfl (fun h1=>?_) (fun h1=>?_)
 ·refine gz ?_;refine qL Tryz.results73 rfl fun w' aq ab aI=>?_;refine ⟨?_,ab⟩;simp only [bA,o3,hn,h1,decide_true,decide_false,Bool.true_and,Bool.false_and,Bool.and_true,Bool.and_false,Bool.not_true,Bool.not_false,Bool.true_or,Bool.false_or,Bool.or_true,Bool.or_false,ne_eq,not_true_eq_false,not_false_eq_true,Bool.and_self]
 refine cL ?_;refine qL Tryz.results73 rfl fun w' aq ab aI=>?_;refine ⟨?_,ab⟩;simp only [bA,o3,hn,h1,decide_true,decide_false,Bool.true_and,Bool.false_and,Bool.and_true,Bool.and_false,Bool.not_true,Bool.not_false,Bool.true_or,Bool.false_or,Bool.or_true,Bool.or_false,ne_eq,not_true_eq_false,not_false_eq_true,Bool.and_self]
theorem Ew {n0 b:Nat} {x:mV} {m:aa} (p:Nat) (w:World) (h:xb n0 b x m) (hp:p<x.l.length) (hh:0≤(gP x.l p).h∧(gP x.l p).h≤1000000000000) (hM:Mem w m):aJ Tryz.prog 167 #[.pointer (some ⟨b,0,none⟩),.int .i64 (p:Nat)] w (eF m (fun u m'=>u= .bool true∧xb n0 b (AD x p) m') w):=by
 obtain ⟨hB,ad,n,cap,ms,rfl,hn,hs,hb⟩:=h;have h0:xb n0 b x (iZ b ad n cap x.sl x.cr x.fl::ms):=⟨hB,ad,n,cap,ms,rfl,hn,hs,hb⟩;have Uw:=gPs (y:=vP (gP x.l p) (oX (gP x.l p).v (o8 (gP x.l p).w))) hp;have hip:=IM hp;have hg9:(vP (gP x.l p) (oX (gP x.l p).v (o8 (gP x.l p).w))).h=(gP x.l p).h:=rfl;refine aJ.au Tryz.func167 rfl Tryz.ntmps167 rfl (iZ b ad n cap x.sl x.cr x.fl::(ms++ [])) ((fQ (iZ b ad n cap x.sl x.cr x.fl::ms))) aM ?_;refine cf ?_;refine cE Tryz.func73 rfl (fun w hm hc hg=>hip▸iY p w h0 (hm.pick (iZ b ad n cap x.sl x.cr x.fl::ms))) ?_;refine J3 ?_;refine af.aW rfl (fun h1=>?_) (fun h1=>?_)
 ·cases h1
 refine J3 ?_;refine af.draw [(0,0),(1,0),(2,0),(3,1),(4,0),(5,0),(6,0),(7,0),(8,1),(9,0),(10,0),(11,0),(12,1),(13,0),(14,0),(15,0),(16,1),(17,0),(18,0),(19,0),(20,1),(21,2),(22,2),(23,0),(24,0),(25,0),(26,0),(27,0),(28,3)] kr kr ?_;refine cL ?_;refine LD.rd rfl rfl (aH (j:=1) aA ir Tryz.isAgg41 rfl rfl cR rfl (by rfl)) ?_;refine J7 ?_;refine LD.rd rfl rfl (aH (j:=0) aA ir Tryz.isAgg3 rfl rfl cR rfl (by rfl)) ?_;refine dE rfl rfl Tryz.func112 rfl (fun w hm hc hg=>pX _ w) ?_;refine dE rfl rfl Tryz.func94 rfl (fun w hm hc hg=>ox _ _ w) ?_;refine J5 ?_;refine LD.tail rfl rfl ?_;refine LM.iB ((vP (gP x.l p) (oX (gP x.l p).v (o8 (gP x.l p).w)))) (j:=1) (i:=p) aA ir Tryz.sizeOf41 rfl rfl rfl cR rfl (by decide) (by rfl) rfl (fun p hp _=>⟨p,List.mem_cons_of_mem _ hp,rfl⟩) (fun l5 de dJ=>?_);refine J1 ?_;refine QM.qn ?_;refine cf ?_;refine LM.rd (aH (j:=2) aA ir Tryz.isAgg3 rfl rfl cR rfl (by rfl)) ?_;rw [Uw];refine J3 ?_;refine LM.iB (a:=vP (gP x.l p) (oX (gP x.l p).v (o8 (gP x.l p).w))) (IP (gP x.l p)) (j:=2) de ir Tryz.sizeOf3 rfl rfl rfl (List.getElem?_set_self hp) rfl (by decide) (by rfl) rfl (fun p hp _=>by obtain ⟨q,lI,e⟩:=dJ p hp;exact⟨q,List.mem_cons_of_mem _ lI,e⟩) (fun xx lS uJ=>?_);refine J8 ?_;refine qL Tryz.results167 rfl fun w' aq ab aI=>?_;rw [List.set_set] at lS;exact kN (x':=AD x p) ⟨by show (x.l.set _ _).length≤8;rw [List.length_set];exact hB.1,hB.2⟩ (by show _=(x.l.set _ _).length;rw [List.length_set];exact hn) lS hb aq aX ab (fun p hp=> .inr (by obtain ⟨q,lI,e⟩:=uJ p hp;obtain ⟨q2,jK,e2⟩:=dJ q lI;exact⟨q2,jK,e2.trans e⟩))
theorem CW {n0 b:Nat} {x:mV} {m:aa} (p:Nat) (wt:Int) (w:World) (h:xb n0 b x m) (hp:p<x.l.length) (hM:Mem w m):aJ Tryz.prog 74 #[.pointer (some ⟨b,0,none⟩),.int .i64 (p:Nat),.int .i64 wt] w (eF m (fun u m'=>u= .bool true∧xb n0 b (cc x p wt) m') w):=by
 obtain ⟨hB,ad,n,cap,ms,rfl,hn,hs,hb⟩:=h;have h0:xb n0 b x (iZ b ad n cap x.sl x.cr x.fl::ms):=⟨hB,ad,n,cap,ms,rfl,hn,hs,hb⟩;have Uw:=gPs (y:=wP (gP x.l p) (aB wt 1 16)) hp;have hip:=IM hp;refine aJ.au Tryz.func74 rfl Tryz.ntmps74 rfl (iZ b ad n cap x.sl x.cr x.fl::(ms++ [])) ((fQ (iZ b ad n cap x.sl x.cr x.fl::ms))) aM ?_;refine cf ?_;refine cE Tryz.func73 rfl (fun w hm hc hg=>hip▸iY p w h0 (hm.pick (iZ b ad n cap x.sl x.cr x.fl::ms))) ?_;refine J3 ?_;refine af.aW rfl (fun h1=>?_) (fun h1=>?_)
 ·cases h1
 refine J5 ?_;refine cE Tryz.func50 rfl (fun w hm hc hg=>bN _ 1 16 w) ?_;refine lh ?_;refine LM.rd (aH (j:=0) aA ir Tryz.isAgg3 rfl rfl cR rfl (by rfl)) ?_;refine J3 ?_;refine af.aj rfl (fun h2=>?_) (fun h2=>?_)
 ·refine cf ?_;refine LM.iB ((wP (gP x.l p) (aB wt 1 16))) (j:=0) (i:=p) aA ir Tryz.sizeOf3 rfl rfl rfl cR rfl (by decide) (by rfl) rfl (fun p hp _=>⟨p,List.mem_cons_of_mem _ hp,rfl⟩) (fun l5 de dJ=>?_);refine J2 ?_;refine af.draw [(0,0),(1,0),(2,0),(3,1),(4,0),(5,0),(6,0),(7,0),(8,1),(9,0),(10,0),(11,0),(12,1),(13,0),(14,0),(15,0),(16,1),(17,0),(19,0),(20,0),(21,0),(22,1),(23,0),(18,2),(24,0),(25,2),(26,0),(27,0),(28,3)] kr kr ?_;refine cL ?_;refine LD.rd rfl rfl (aH (j:=1) aA ir Tryz.isAgg41 rfl rfl cR rfl (by rfl)) ?_;rw [Uw];refine J9 ?_;refine LD.val rfl rfl (nH Tryz.underlying3 Tryz.underlying41 rfl) ?_;refine dE rfl rfl Tryz.func112 rfl (fun w hm hc hg=>pX _ w) ?_;refine LD.val rfl rfl (oF rfl rfl) ?_;refine dE rfl rfl Tryz.func111 rfl (fun w hm hc hg=>nn _ _ _ w) ?_;refine J2 ?_;refine LD.tail rfl rfl ?_;refine LM.iB (a:=wP (gP x.l p) (aB wt 1 16)) ({gP x.l p with w:=aB wt 1 16,v:=eK (gP x.l p).v x.fl (o8 (aB wt 1 16)*BitVec.ofInt 64 x.sl)} :mZ) (j:=1) de ir Tryz.sizeOf41 rfl rfl rfl (List.getElem?_set_self hp) rfl (by decide) (by rfl) rfl (fun p hp _=>by obtain ⟨q,lI,e⟩:=dJ p hp;exact⟨q,List.mem_cons_of_mem _ lI,e⟩) (fun xx lS uJ=>?_);refine J1 ?_;refine QM.qn ?_;refine J7 ?_;refine qL Tryz.results74 rfl fun w' aq ab aI=>?_;rw [List.set_set] at lS;have hw:cc x p wt= {x with l:=x.l.set p {gP x.l p with w:=aB wt 1 16,v:=eK (gP x.l p).v x.fl (o8 (aB wt 1 16)*BitVec.ofInt 64 x.sl)} } :=(by unfold cc D2;rw [if_neg h2]);rw [hw];exact kN (x':= {x with l:=_}) ⟨by show (x.l.set _ _).length≤8;rw [List.length_set];exact hB.1,hB.2⟩ (by show _=(x.l.set _ _).length;rw [List.length_set];exact hn) lS hb aq aX ab (fun p hp=> .inr (by obtain ⟨q,lI,e⟩:=uJ p hp;obtain ⟨q2,jK,e2⟩:=dJ q lI;exact⟨q2,jK,e2.trans e⟩))
 refine J8 ?_;refine qL Tryz.results74 rfl fun w' aq ab aI=>?_;have hw:cc x p wt=x:=(by unfold cc D2;rw [if_pos (by simpa using h2),v7 hp]);rw [hw];exact kN hB hn hs hb aq aX ab (ay _ _)
theorem DR {n0 b:Nat} {x:mV} {m:aa} (s:BitVec 64) (w:World) (h:xb n0 b x m) (hM:Mem w m):aJ Tryz.prog 144 #[.pointer (some ⟨b,0,none⟩),U s] w (fun u w'=>u= .int .i64 (ec x.l s x.l.length)∧Ext w w'):=by
 obtain ⟨hB,ad,n,cap,ms,rfl,hn,hs,hb⟩:=h;have NV:=hB.1;refine aJ.au Tryz.func144 rfl Tryz.ntmps144 rfl (iZ b ad n cap x.sl x.cr x.fl::(ms++ [])) (no) aM ?_;refine xq ?_;refine af.aS (α:=Nat×Int) (fun ⟨i,v⟩=>[(5,.int .i64 v),(6,.int .i64 (i:Nat))]) [(0,_),(1,_)] (fun ⟨i,v⟩=>iZ b ad n cap x.sl x.cr x.fl::(ms++ [])) (fun ⟨i,v⟩=>i≤n∧v=ec x.l s i) (fun ⟨i,v⟩=>n-i) ((0,-1)) cm aX ⟨Nat.zero_le _,rfl⟩ ?_;rintro ⟨i,v⟩ ⟨hi,hv⟩;change af _ _ _ _ _ _ _ (iZ b ad n cap x.sl x.cr x.fl::(ms++ [])) _ _ _;have jl:=uS x.l s i;refine cL ?_;refine af.aj rfl (fun h1=>?_) (fun h1=>?_)
 ·refine J5 ?_;refine af.draw [(0,0),(1,0),(2,2),(3,0),(4,0),(5,0),(6,0),(7,0),(8,0),(9,0),(10,1),(11,0),(12,0),(13,0),(14,1),(15,0),(16,0),(17,0),(18,1),(19,0),(20,0),(21,0),(22,1),(23,0),(24,0),(25,0)] kr kr ?_;refine J2 ?_;refine dE rfl rfl Tryz.func108 rfl (fun w hm hc hg=>(eE (s:=s) (i:=i))▸fK s (i:Nat) w) ?_;refine J1 ?_;refine LD.bw (t:=19) rfl (fun h2=>?_) (fun h2=>?_)
  ·refine J3 ?_;refine LD.ar (t:=22) rfl (fun h3=>?_) (fun h3=>?_)
   ·refine J33 ?_;refine aK (i+1,(i:Int)) ?_ ?_
    · exact⟨by omega,by rw [hv] at h3;exact(if_pos ⟨h2,.inl h3⟩).symm⟩
    · (dsimp only;omega)
   refine J7 ?_;refine LD.rd rfl ⟨22,_,rfl,rfl,rfl⟩ (aH (j:=1) aA ir Tryz.isAgg41 rfl rfl cR rfl (by rfl)) ?_;refine J5 ?_;refine LD.val rfl ⟨22,_,rfl,rfl,rfl⟩ (cP pe Tryz.underlying144 Tryz.sizeOf143 rfl rfl om) ?_;refine J1 ?_;refine LD.rd rfl ⟨22,_,rfl,rfl,rfl⟩ (aH (j:=1) aA ir Tryz.isAgg41 rfl rfl cR rfl (by rfl)) ?_;refine LD.val rfl ⟨22,_,rfl,rfl,rfl⟩ (gZ rfl rfl) ?_;refine J4 ?_;refine af.aj rfl (fun h4=>?_) (fun h4=>?_)
   ·refine dA ?_;refine aK (i+1,(i:Int)) ?_ ?_
    · exact⟨by omega,by rw [hv] at h4;exact(if_pos ⟨h2,.inr h4⟩).symm⟩
    · (dsimp only;omega)
   refine J8 ?_;refine aK (i+1,v) ?_ ?_
   · exact⟨by omega,by rw [hv] at h3 h4 ⊢;exact(if_neg (fun q=>by rcases q.2 with q2|q2;exact h3 q2;exact h4 q2)).symm⟩
   · (dsimp only;omega)
  refine J2 ?_;refine LD.db rfl rfl ⟨19,_,rfl,rfl,rfl⟩ ?_;refine J30 ?_;refine aK (i+1,v) ?_ ?_
  · exact⟨by omega,by rw [hv];exact(if_neg (fun q=>by rw [h2] at q;cases q.1)).symm⟩
  · (dsimp only;omega)
 refine cL ?_;refine qL Tryz.results144 rfl fun w' aq ab aI=>?_;have fp:i=n:=om;refine ⟨?_,ab⟩;show Value.int .i64 v=_;rw [hv,fp,hn]
theorem CP {n0 b:Nat} {x:mV} {m:aa} (s:BitVec 64) (w:World) (h:xb n0 b x m) (hM:Mem w m):aJ Tryz.prog 113 #[.pointer (some ⟨b,0,none⟩),U s] w (eF m (fun u m'=>xb n0 b (mF x s) m') w):=by
 obtain ⟨hB,ad,n,cap,ms,rfl,hn,hs,hb⟩:=h;have NV:=hB.1;refine aJ.au Tryz.func113 rfl Tryz.ntmps113 rfl (iZ b ad n cap x.sl x.cr x.fl::(ms++ [])) ((fQ (iZ b ad n cap x.sl x.cr x.fl::ms))) aM ?_;refine xq ?_;refine af.aS (α:=Nat×BitVec 64×Bool×aa) (fun ⟨k,ls,mt,jU⟩=>[(4,U ls),(5,.bool mt),(6,.int .i64 (k:Nat))]) [(0,_),(1,_)] (fun ⟨k,ls,mt,jU⟩=>iZ b ad n cap x.sl x.cr x.fl::(jU++ [])) (fun ⟨k,ls,mt,jU⟩=>k≤n∧Sl TE 143 4 n0 (tz x s k) (.slice ad n cap) jU∧c6 ms w.heap.size jU∧ls=yk (nT x s) s k∧mt=decide (0≤ec (nT x s) s k)) (fun ⟨k,ls,mt,jU⟩=>n-k) ((0,0#64,false,ms)) ⟨(by first|rfl|exact lk rfl (by rw [HQ])),j8,j8,rfl,rfl,trivial⟩ aX ⟨by omega,by rw [KC];exact hs,ay _ _,rfl,rfl⟩ ?_;rintro ⟨k,ls,mt,jU⟩ ⟨hk,ss,y6,tV,Cw⟩;change af _ _ _ _ _ _ _ (iZ b ad n cap x.sl x.cr x.fl::(jU++ [])) _ _ _;have fY:=g9 x s k;refine cL ?_;refine af.aj rfl (fun h1=>?_) (fun h1=>?_)
 ·have DS:k<x.l.length:=om;have hq:(tz x s k).getD k default=gP x.l k:=OD DS;refine J8 ?_;refine cE Tryz.func108 rfl (fun w hm hc hg=>(eE (s:=s) (i:=k))▸fK s (k:Nat) w) ?_;refine J8 ?_;refine LM.bw (t:=21) rfl (fun h2=>?_) (fun h2=>?_)
  ·refine J6 ?_;refine LM.sp 21 rfl rfl rfl ?_;refine J3 ?_;refine LM.rd (aH (j:=3) aA ir Tryz.isAgg4 rfl rfl cR rfl (by rfl)) ?_;refine J4 ?_;refine af.bH (α:=List mZ×aa) (fun ⟨l3,qa⟩=>[]) [(0,_),(1,_),(4,_),(5,_),(6,_),(7,_)] (fun ⟨l3,qa⟩=>iZ b ad n cap x.sl x.cr x.fl::(qa++ [])) (fun ⟨l3,qa⟩=>Sl TE 143 4 n0 l3 (.slice ad n cap) qa∧c6 ms w.heap.size qa∧l3=(tz x s k).set k (vP (gP x.l k) (if s.getLsbD k=true∧(gP x.l k).a=false then eK (gP x.l k).v x.fl (lQ (gP x.l k).w x.sl x.cr) else (gP x.l k).v))) cm ?_ ?_
   ·refine af.aW rfl (fun h3=>?_) (fun h3=>?_)
    ·refine af.draw [(0,0),(1,0),(2,0),(3,1),(4,0),(5,0),(6,0),(7,0),(8,1),(9,0),(10,0),(11,0),(12,1),(13,0),(14,0),(15,0),(16,1),(17,0),(18,0),(19,0),(20,1),(21,0),(22,0),(23,0),(24,1),(25,0),(26,0),(27,0),(28,1),(29,0),(30,0),(31,0),(32,1),(33,2),(34,2),(35,0),(36,0),(37,3)] kr kr ?_;refine cL ?_;refine LD.rd rfl rfl (aH (j:=1) aA ir Tryz.isAgg41 rfl rfl cR rfl (by rfl)) ?_;refine dA ?_;refine LD.rd rfl rfl (aH (j:=0) aA ir Tryz.isAgg3 rfl rfl cR rfl (by rfl)) ?_;refine J8 ?_;refine dE rfl rfl Tryz.func151 rfl (fun w hm hc hg=>B8 _ _ _ w) ?_;rw [hq];refine dE rfl rfl Tryz.func111 rfl (fun w hm hc hg=>nn _ _ _ w) ?_;refine J2 ?_;refine LD.tail rfl rfl ?_;refine LM.iB (a:=gP x.l k) (vP (gP x.l k) (eK (gP x.l k).v x.fl (lQ (gP x.l k).w x.sl x.cr))) (j:=1) ss ir Tryz.sizeOf41 rfl rfl rfl (by rw [←hq];exact aQ default om) rfl (by decide) (by rfl) rfl (fun p hp bB=>by rcases y6 p hp with q|⟨q,hq,e⟩;exact absurd bB om;exact⟨q,List.mem_cons_of_mem _ hq,e⟩) (fun l5 de dJ=>?_);refine J1 ?_;refine QM.qn ?_;refine mK ((tz x s k).set k (vP (gP x.l k) (eK (gP x.l k).v x.fl (lQ (gP x.l k).w x.sl x.cr))),l5) ?_
     · have h3b:(gP x.l k).a=false:=(by rw [←hq];simpa using h3);exact⟨de,fun p hp=>by obtain ⟨q,lI,e⟩:=dJ p hp;rw [←e];exact y6 q lI,by rw [if_pos ⟨h2,h3b⟩]⟩
    refine J1 ?_;refine mK (tz x s k,jU) ?_
    · have h3b:¬(gP x.l k).a=false:=(by rw [←hq];simpa using h3);exact⟨ss,y6,by rw [if_neg (fun q=>h3b q.2),show vP (gP x.l k) (gP x.l k).v=gP (tz x s k) k from hq.symm,v7 om]⟩
   rintro ⟨l3,qa⟩ ⟨ML,Iy,R7⟩;change QM _ _ _ _ _ (iZ b ad n cap x.sl x.cr x.fl::(qa++ [])) _ _ _;refine dA ?_;refine LM.iB (a:=vP (gP x.l k) (if s.getLsbD k=true∧(gP x.l k).a=false then eK (gP x.l k).v x.fl (lQ (gP x.l k).w x.sl x.cr) else (gP x.l k).v)) (Mm x (s.getLsbD k) (gP x.l k)) (j:=3) ML ir Tryz.sizeOf4 rfl rfl rfl (by rw [R7];exact List.getElem?_set_self om) rfl (by decide) (by rfl) rfl (fun p hp bB=>by rcases Iy p hp with q|⟨q,hq,e⟩;exact absurd bB om;exact⟨q,List.mem_cons_of_mem _ hq,e⟩) (fun xx lS uJ=>?_);rw [R7,List.set_set,←A6 DS] at lS;have GR:c6 ms w.heap.size xx:=(fun p hp=>by obtain ⟨q,lI,e⟩:=uJ p hp;rw [←e];exact Iy q lI);have RJ:=g9 x s (k+1);have HQ:(tz x s (k+1)).getD k default=gP (nT x s) k:=K6 DS;refine J6 ?_;refine LM.bw (t:=78) rfl (fun h4=>?_) (fun h4=>?_)
   ·refine J3 ?_;refine LM.bw (t:=81) rfl (fun h5=>?_) (fun h5=>?_)
    ·refine J24 ?_;refine LM.rd (aH (j:=1) aA ir Tryz.isAgg41 rfl rfl cR rfl (by rfl)) ?_;refine gz ?_;refine QM.cT (k+1,(gP (nT x s) k).v,true,xx) ⟨(by first|rfl|exact lk rfl (by rw [HQ])),j8,j8,rfl,rfl,trivial⟩ aX (fun _ h=>h) ?_ ?_
     · have hy:=FY tV Cw h2 (.inl (by simpa using h5));exact⟨by omega,lS,GR,hy.1,hy.2⟩
     · (dsimp only;omega)
    refine J6 ?_;refine LM.sp 81 rfl rfl rfl ?_;refine J3 ?_;refine LM.rd (aH (j:=1) aA ir Tryz.isAgg41 rfl rfl cR rfl (by rfl)) ?_;refine J1 ?_;rw [HQ];refine J1 ?_;refine LM.sp 81 rfl rfl rfl ?_;refine LM.val (gZ rfl rfl) ?_;refine J4 ?_;refine af.aj rfl (fun h6=>?_) (fun h6=>?_)
    ·refine J9 ?_;refine LM.rd (aH (j:=1) aA ir Tryz.isAgg41 rfl rfl cR rfl (by rfl)) ?_;refine gz ?_;refine QM.cT (k+1,(gP (nT x s) k).v,true,xx) ⟨(by first|rfl|exact lk rfl (by rw [HQ])),j8,j8,rfl,rfl,trivial⟩ aX (fun _ h=>h) ?_ ?_
     · have hy:=FY tV Cw h2 (.inr h6);exact⟨by omega,lS,GR,hy.1,hy.2⟩
     · (dsimp only;omega)
    refine J8 ?_;refine QM.cT (k+1,ls,mt,xx) ⟨(by first|rfl|exact lk rfl (by rw [HQ])),j8,j8,rfl,rfl,trivial⟩ aX (fun _ h=>h) ?_ ?_
    · have hy:=Lz tV Cw (fun _=>⟨by simpa using h5,h6⟩);exact⟨by omega,lS,GR,hy.1,hy.2⟩
    · (dsimp only;omega)
   rw [h2] at h4;cases h4
  refine cL ?_;refine af.bH (α:=List mZ×aa) (fun ⟨l3,qa⟩=>[]) [(0,_),(1,_),(4,_),(5,_),(6,_),(7,_)] (fun ⟨l3,qa⟩=>iZ b ad n cap x.sl x.cr x.fl::(qa++ [])) (fun ⟨l3,qa⟩=>Sl TE 143 4 n0 l3 (.slice ad n cap) qa∧c6 ms w.heap.size qa∧l3=(tz x s k).set k (vP (gP x.l k) (if s.getLsbD k=true∧(gP x.l k).a=false then eK (gP x.l k).v x.fl (lQ (gP x.l k).w x.sl x.cr) else (gP x.l k).v))) cm ?_ ?_
  ·refine J2 ?_;refine mK (tz x s k,jU) ?_
   · exact⟨ss,y6,by rw [if_neg (fun q=>by rw [h2] at q;cases q.1),show vP (gP x.l k) (gP x.l k).v=gP (tz x s k) k from hq.symm,v7 om]⟩
  rintro ⟨l3,qa⟩ ⟨ML,Iy,R7⟩;change QM _ _ _ _ _ (iZ b ad n cap x.sl x.cr x.fl::(qa++ [])) _ _ _;refine dA ?_;refine LM.iB (a:=vP (gP x.l k) (if s.getLsbD k=true∧(gP x.l k).a=false then eK (gP x.l k).v x.fl (lQ (gP x.l k).w x.sl x.cr) else (gP x.l k).v)) (Mm x (s.getLsbD k) (gP x.l k)) (j:=3) ML ir Tryz.sizeOf4 rfl rfl rfl (by rw [R7];exact List.getElem?_set_self om) rfl (by decide) (by rfl) rfl (fun p hp bB=>by rcases Iy p hp with q|⟨q,hq,e⟩;exact absurd bB om;exact⟨q,List.mem_cons_of_mem _ hq,e⟩) (fun xx lS uJ=>?_);rw [R7,List.set_set,←A6 DS] at lS;have GR:c6 ms w.heap.size xx:=(fun p hp=>by obtain ⟨q,lI,e⟩:=uJ p hp;rw [←e];exact Iy q lI);have RJ:=g9 x s (k+1);have HQ:(tz x s (k+1)).getD k default=gP (nT x s) k:=K6 DS;refine J6 ?_;refine LM.bw (t:=78) rfl (fun h7=>?_) (fun h7=>?_)
  ·rw [h2] at h7;cases h7
  refine J2 ?_;refine LM.db (t:=78) rfl rfl rfl ?_;refine YD ?_;refine QM.cT (k+1,ls,mt,xx) ⟨(by first|rfl|exact lk rfl (by rw [HQ])),j8,j8,rfl,rfl,trivial⟩ aX (fun _ h=>h) ?_ ?_
  · have hy:=Lz tV Cw (fun q=>by rw [h2] at q;cases q);exact⟨by omega,lS,GR,hy.1,hy.2⟩
  · (dsimp only;omega)
 refine J9 ?_;refine LM.bw (t:=103) rfl (fun h8=>?_) (fun h8=>?_)
 ·refine J6 ?_;refine LM.sp 103 rfl rfl rfl ?_;refine LM.val (mb rfl rfl) ?_;refine J3 ?_;refine af.aj rfl (fun h9=>?_) (fun h9=>?_)
  ·refine J5 ?_;refine LM.st Tryz.sizeOf41 rfl rfl rfl ez rfl tw ?_;refine J1 ?_;refine QM.leave (.inr rfl) [] Tryz.results113 rfl ?_;intro w' aq ab aI;have DS:k=x.l.length:=om;subst DS;have GC:=tX x s;rw [show tz x s x.l.length=nT x s from rfl] at ss;have hle:¬ec (nT x s) s x.l.length<0:=(by subst Cw;simp at h8;omega);have hlv:ls=(gP (nT x s) (ec (nT x s) s x.l.length).toNat).v:=tV.trans (if_neg hle);have hx:mF x s= {x with l:=nT x s,fl:=ls} :=(by unfold mF;rw [if_neg hle,←hlv];unfold Uf;rw [if_pos h9]);rw [hx];exact eF.imp (kN (u0:=bA []) (x':= {x with l:=nT x s,fl:=ls}) ⟨by show (nT x s).length≤8;omega,hB.2⟩ (by show n=(nT x s).length;omega) ss hb aq aX ab y6) (fun u m' h=>h.2)
  refine J1 ?_;refine QM.leave (.inr rfl) [] Tryz.results113 rfl ?_;intro w' aq ab aI;have DS:k=x.l.length:=om;subst DS;have GC:=tX x s;rw [show tz x s x.l.length=nT x s from rfl] at ss;have hle:¬ec (nT x s) s x.l.length<0:=(by subst Cw;simp at h8;omega);have hlv:ls=(gP (nT x s) (ec (nT x s) s x.l.length).toNat).v:=tV.trans (if_neg hle);have hx:mF x s= {x with l:=nT x s} :=(by unfold mF;rw [if_neg hle,←hlv];unfold Uf;rw [if_neg h9]);rw [hx];exact eF.imp (kN (u0:=bA []) (x':= {x with l:=nT x s}) ⟨by show (nT x s).length≤8;omega,hB.2⟩ (by show n=(nT x s).length;omega) ss hb aq aX ab y6) (fun u m' h=>h.2)
 refine dA ?_;refine QM.leave (.inr rfl) [] Tryz.results113 rfl ?_;intro w' aq ab aI;have DS:k=x.l.length:=om;subst DS;have GC:=tX x s;rw [show tz x s x.l.length=nT x s from rfl] at ss;have hle:ec (nT x s) s x.l.length<0:=(by subst Cw;simp at h8;omega);have hx:mF x s= {x with l:=nT x s} :=(by unfold mF;rw [if_pos hle]);rw [hx];exact eF.imp (kN (u0:=bA []) (x':= {x with l:=nT x s}) ⟨by show (nT x s).length≤8;omega,hB.2⟩ (by show n=(nT x s).length;omega) ss hb aq aX ab y6) (fun u m' h=>h.2)
def Ya (ws:List Int) (s c:Int) (n0:Nat) (v:Value) (m:aa):Prop:=∃b,v= .pointer (some ⟨b,0,none⟩)∧xb n0 b (kU ws s c) m
theorem Ya.mono {ws:List Int} {s c:Int} :∀(n n':Nat) (v:Value) (m:aa),n'≤n→Ya ws s c n v m→Ya ws s c n' v m:=fun n n' v m hn ⟨b,h1,h⟩=>⟨b,h1,h.mono hn⟩
theorem pT (t:vR) (sl p:Int) (w:World):aJ Tryz.prog 171 #[Rk t,.int .i64 sl,.int .i64 p] w (fun v w'=>v= .bool (x6 t sl p)∧Ext w w'):=by
 refine aJ.au Tryz.func171 rfl Tryz.ntmps171 rfl ([]) (no) (Mem.nil w) ?_;refine J2 ?_;refine LM.box rfl rfl (fun b3 Jc=>?_);refine J4 ?_;refine af.draw [(0,0),(1,0),(2,0),(3,0),(4,1),(5,0),(6,0),(7,0),(8,0),(9,0),(10,1),(11,0),(12,2),(13,0),(14,0),(15,0)] kr kr ?_;refine J3 ?_;refine LD.ar (t:=9) rfl (fun h1=>?_) (fun h1=>?_)
 ·refine J6 ?_;refine LD.ar (t:=15) rfl (fun h2=>?_) (fun h2=>?_)
  ·refine J3 ?_;refine dE rfl ⟨15,_,rfl,rfl,rfl⟩ Tryz.func50 rfl (fun w hm hc hg=>bN _ 1 16 w) ?_;refine J6 ?_;refine qL Tryz.results171 rfl fun w' aq ab aI=>?_;refine ⟨?_,ab⟩;simp only [bA,x6,h1,h2,decide_true,decide_false,Bool.true_and,Bool.false_and,Bool.and_true,Bool.and_false,Bool.not_true,Bool.not_false,Bool.true_or,Bool.false_or,Bool.or_true,Bool.or_false,ne_eq,not_true_eq_false,not_false_eq_true,Bool.and_self]
  refine cf ?_;refine qL Tryz.results171 rfl fun w' aq ab aI=>?_;refine ⟨?_,ab⟩;simp only [bA,x6,h1,h2,decide_true,decide_false,Bool.true_and,Bool.false_and,Bool.and_true,Bool.and_false,Bool.not_true,Bool.not_false,Bool.true_or,Bool.false_or,Bool.or_true,Bool.or_false,ne_eq,not_true_eq_false,not_false_eq_true,Bool.and_self]
 refine ET ?_;refine qL Tryz.results171 rfl fun w' aq ab aI=>?_;refine ⟨?_,ab⟩;simp only [bA,x6,h1,decide_true,decide_false,Bool.true_and,Bool.false_and,Bool.and_true,Bool.and_false,Bool.not_true,Bool.not_false,Bool.true_or,Bool.false_or,Bool.or_true,Bool.or_false,ne_eq,not_true_eq_false,not_false_eq_true,Bool.and_self]
theorem Bn (t:vR) (sl:Int) (s:BitVec 64) (le:Int) (w:World):aJ Tryz.prog 143 #[Rk t,.int .i64 sl,U s,.int .i64 le] w (fun v w'=>v=Rk (o5 t sl s le)∧Ext w w'):=by
 refine aJ.au Tryz.func143 rfl Tryz.ntmps143 rfl ([]) (no) (Mem.nil w) ?_;refine J2 ?_;refine LM.box rfl rfl (fun b4 DT=>?_);refine LM.alloc Tryz.zeroValue58 rfl (fun b8 L4=>?_);refine J6 ?_;refine LM.val (qu (b:=0#64) rfl rfl) ?_;refine J1 ?_;refine LM.ar (t:=11) rfl (fun h1=>?_) (fun h1=>?_)
 ·refine J4 ?_;refine LM.db (t:=11) rfl rfl rfl ?_;refine cL ?_;refine LM.rd (bo Tryz.isAgg58 Tryz.sizeOf58 rfl rfl) ?_;refine LM.dC Tryz.sizeOf58 rfl rfl rfl rfl dD cn ?_;refine J4 ?_;refine QM.aV (ds:=([])) (.inl rfl) [.cell 8 58] Tryz.results143 bh (cN rfl Tryz.isAgg58 Tryz.sizeOf58 rfl bn) ?_;intro w' aq ab;refine ⟨?_,ab⟩;rw [show o5 t sl s le=t from if_pos (.inl h1)];rfl
 refine J5 ?_;refine cE Tryz.func108 rfl (fun w hm hc hg=>fK _ _ w) ?_;refine J1 ?_;refine LM.bw (t:=16) rfl (fun h2=>?_) (fun h2=>?_)
 ·refine J1 ?_;refine LM.rd (bo Tryz.isAgg58 Tryz.sizeOf58 rfl rfl) ?_;refine J5 ?_;refine cE Tryz.func171 rfl (fun w hm hc hg=>pT t _ _ w) ?_;refine J4 ?_;refine af.aW rfl (fun h3=>?_) (fun h3=>?_)
  ·refine J2 ?_;refine LM.rd (bo Tryz.isAgg58 Tryz.sizeOf58 rfl rfl) ?_;refine LM.dC Tryz.sizeOf58 rfl rfl rfl rfl dD cn ?_;refine J4 ?_;refine QM.aV (ds:=([])) (.inl rfl) [.cell 8 58] Tryz.results143 bh (cN rfl Tryz.isAgg58 Tryz.sizeOf58 rfl bn) ?_;intro w' aq ab;refine ⟨?_,ab⟩;rw [show o5 t sl s le=t from if_pos (.inr ⟨h2,h3⟩)];rfl
  refine J5 ?_;refine LM.val (aD (cs:=#[_,_]) rfl (by first|rfl|kernel_rfl)) ?_;refine LM.dC Tryz.sizeOf58 rfl rfl rfl rfl dD cn ?_;refine J3 ?_;refine QM.aV (ds:=([])) (.inl rfl) [.cell 8 58] Tryz.results143 bh (cN rfl Tryz.isAgg58 Tryz.sizeOf58 rfl bn) ?_;intro w' aq ab;refine ⟨?_,ab⟩;rw [show o5 t sl s le=⟨le,0⟩ from if_neg (fun q=>by rcases q with q|q;exact h1 q;rw [h3] at q;cases q.2)];rfl
 refine tO ?_;refine LM.val (aD (cs:=#[_,_]) rfl (by first|rfl|kernel_rfl)) ?_;refine LM.dC Tryz.sizeOf58 rfl rfl rfl rfl dD cn ?_;refine J3 ?_;refine QM.aV (ds:=([])) (.inl rfl) [.cell 8 58] Tryz.results143 bh (cN rfl Tryz.isAgg58 Tryz.sizeOf58 rfl bn) ?_;intro w' aq ab;refine ⟨?_,ab⟩;rw [show o5 t sl s le=⟨le,0⟩ from if_neg (fun q=>by rcases q with q|q;exact h1 q;rw [h2] at q;cases q.1)];rfl
theorem yF (t:vR) (w:World) (hu: -1000000≤t.u):aJ Tryz.prog 168 #[Rk t] w (fun v w'=>v=Rk (iH t)∧Ext w w'):=by
 refine aJ.au Tryz.func168 rfl Tryz.ntmps168 rfl ([]) (no) (Mem.nil w) ?_;refine J2 ?_;refine LM.box rfl rfl (fun b1 Cm=>?_);refine LM.alloc Tryz.zeroValue58 rfl (fun b2 tn=>?_);refine cf ?_;refine af.aj rfl (fun h1=>?_) (fun h1=>?_)
 ·refine J5 ?_;refine LM.st Tryz.sizeOf3 rfl rfl rfl ez rfl cn ?_;refine J4 ?_;refine LM.rd (bo Tryz.isAgg58 Tryz.sizeOf58 rfl rfl) ?_;refine LM.dC Tryz.sizeOf58 rfl rfl rfl rfl dD cn ?_;refine J3 ?_;refine QM.aV (ds:=([])) (.inl rfl) [.cell 2 58] Tryz.results168 bh (cN rfl Tryz.isAgg58 Tryz.sizeOf58 rfl bn) ?_;intro w' aq ab;refine ⟨?_,ab⟩;rw [show iH t=⟨t.p,t.u+1⟩ from if_pos h1];rfl
 refine J4 ?_;refine LM.rd (bo Tryz.isAgg58 Tryz.sizeOf58 rfl rfl) ?_;refine LM.dC Tryz.sizeOf58 rfl rfl rfl rfl dD cn ?_;refine J3 ?_;refine QM.aV (ds:=([])) (.inl rfl) [.cell 2 58] Tryz.results168 bh (cN rfl Tryz.isAgg58 Tryz.sizeOf58 rfl bn) ?_;intro w' aq ab;refine ⟨?_,ab⟩;rw [show iH t=t from if_neg h1];rfl
theorem DV (t:vR) (sl:Int) (w:World):aJ Tryz.prog 75 #[Rk t,.int .i64 sl] w (fun v w'=>v=Rk (wW t sl)∧Ext w w'):=by
 refine aJ.au Tryz.func75 rfl Tryz.ntmps75 rfl ([]) (no) (Mem.nil w) ?_;refine J2 ?_;refine LM.box rfl rfl (fun b2 tn=>?_);refine LM.alloc Tryz.zeroValue58 rfl (fun b4 DT=>?_);refine J5 ?_;refine cE Tryz.func50 rfl (fun w hm hc hg=>bN _ 1 16 w) ?_;refine cL ?_;refine af.aj rfl (fun h1=>?_) (fun h1=>?_)
 ·refine J3 ?_;refine LM.st Tryz.sizeOf3 rfl rfl rfl ez rfl cn ?_;refine J4 ?_;refine LM.rd (bo Tryz.isAgg58 Tryz.sizeOf58 rfl rfl) ?_;refine LM.dC Tryz.sizeOf58 rfl rfl rfl rfl dD cn ?_;refine J3 ?_;refine QM.aV (ds:=([])) (.inl rfl) [.cell 4 58] Tryz.results75 bh (cN rfl Tryz.isAgg58 Tryz.sizeOf58 rfl bn) ?_;intro w' aq ab;refine ⟨?_,ab⟩;rw [show wW t sl=⟨t.p,aB sl 1 16⟩ from if_pos h1];rfl
 refine J4 ?_;refine LM.rd (bo Tryz.isAgg58 Tryz.sizeOf58 rfl rfl) ?_;refine LM.dC Tryz.sizeOf58 rfl rfl rfl rfl dD cn ?_;refine J3 ?_;refine QM.aV (ds:=([])) (.inl rfl) [.cell 4 58] Tryz.results75 bh (cN rfl Tryz.isAgg58 Tryz.sizeOf58 rfl bn) ?_;intro w' aq ab;refine ⟨?_,ab⟩;rw [show wW t sl=t from if_neg om];rfl
theorem D5 {ws:List Int} {ad:Option Addr} {n cap:Nat} (s c:Int) (w:World) (hn:n=ws.length) (hl:Sr fI 1 ws (.slice ad n cap) w):aJ Tryz.prog 52 #[.slice ad n cap,.int .i64 s,.int .i64 c] w (fun v w'=>Ext w w'∧∃m,Ya ws s c w.heap.size v m∧Mem w' m∧∀p∈m,w.heap.size≤p.1):=by
 refine aJ.au Tryz.func52 rfl Tryz.ntmps52 rfl ([]) (no) (Mem.nil w) ?_;refine J8 ?_;refine cE Tryz.func50 rfl (fun w hm hc hg=>bN _ 1 32 w) ?_;refine J1 ?_;refine cE Tryz.func50 rfl (fun w hm hc hg=>bN _ 1 32 w) ?_;refine LM.val (aD (cs:=#[_,_,_,_]) rfl (by first|rfl|kernel_rfl)) ?_;refine LM.box rfl rfl (fun S4 Oq=>?_);refine cf ?_;refine af.aS (α:=Nat×Option Addr×Nat×Nat×aa) (fun ⟨i,rk,n2,gA,ms⟩=>[(8,.int .i64 (i:Nat))]) [(0,_),(7,_)] (fun ⟨i,rk,n2,gA,ms⟩=>iZ S4 rk n2 gA (aB s 1 32) (aB c 1 32) 0#64::(ms++ [])) (fun ⟨i,rk,n2,gA,ms⟩=>i≤n∧i≤8∧n2=i∧Sl TE 143 4 w.heap.size (S8 ws i) (.slice rk n2 gA) ms) (fun ⟨i,rk,n2,gA,ms⟩=>n-i) ((0,none,0,0,[])) cm aX ⟨Nat.zero_le _,Nat.zero_le _,rfl,.nil _ _ _ _⟩ ?_;rintro ⟨i,rk,n2,gA,ms⟩ ⟨hi,hi8,H5,hs⟩;change af _ _ _ _ _ _ _ (iZ S4 rk n2 gA (aB s 1 32) (aB c 1 32) 0#64::(ms++ [])) _ _ _;have MO:=M6 (ws:=ws) (i:=i) om;refine J8 ?_;refine LM.ar (t:=19) rfl (fun h1=>?_) (fun h1=>?_)
 ·refine J5 ?_;refine af.aj rfl (fun h2=>?_) (fun h2=>?_)
  ·refine J4 ?_;refine af.keep (iZ S4 rk n2 gA (aB s 1 32) (aB c 1 32) 0#64:: []) (fun _=>True) (.one 0 0 (.one 1 0 (.one 2 0 (.one 3 0 (.one 4 1 (.one 5 0 (.one 6 0 (.one 7 0 (.one 8 1 (.one 9 2 (.one 10 0 (.one 11 2 (.one 12 2 (.one 13 0 (.one 14 0 (.last 15)))))))))))))))) kr kr aX (fun _ _=>trivial) ?_;refine J8 ?_;refine KD.eR rfl rfl (sn aA Tryz.isAgg3 rfl rfl (by exact aQ 0 cJ) (by rfl) id) ?_;refine J1 ?_;refine cE Tryz.func50 rfl (fun w hm hc hg=>bN _ 1 16 w) ?_;refine J2 ?_;refine KD.val rfl rfl (aD (cs:=#[_,_,_,_]) rfl (by first|rfl|kernel_rfl)) ?_;refine J1 ?_;refine LM.single Tryz.underlying144 Tryz.sizeOf143 Tryz.zeroValue143 rfl rfl rfl rfl rfl (fun UC adK=>?_);refine J3 ?_;refine LM.app (a:=ZL (ws.getD i 0)) Tryz.underlying144 Tryz.typeInfo143 rfl rfl rfl rfl rfl rfl rfl aA (by rfl) ir (by intro _ u hu;simp [TE] at hu;(repeat (first|(rcases hu with rfl|hu)|subst hu|rfl))) (by first|exact Nat.le_refl _|omega) jn (by first|omega|(unfold maxLen;omega)) (by simp only [Tryz.t143];omega) (fun LK UY BM Pj Vx pH vg=>?_);refine J4 ?_;refine KD.last rfl ?_;refine LM.st Tryz.sizeOf144 rfl rfl rfl ez rfl cn ?_;refine J1 ?_;refine QM.qn ?_;refine J7 ?_;refine aK (i+1,LK,UY,BM,Pj) ?_ ?_
   · exact⟨by omega,by omega,by omega,by rw [Jn om];exact pH⟩
   · (dsimp only;omega)
  refine cL ?_;refine qL Tryz.results52 rfl fun w' aq ab aI=>?_;rw [Fx s c om] at hs;exact⟨ab,iZ S4 rk n2 gA (aB s 1 32) (aB c 1 32) 0#64::ms,⟨S4,rfl,FX ws s c,rk,n2,gA,ms,rfl,by rw [kO];omega,hs,Oq⟩,(aT.mem (by(repeat' (first|exact aT.all _|refine aT.cons rfl ?_|exact aT.nil _|(rw [List.append_nil];exact aT.all _))))) w' aq,fun p hp=>by rcases List.mem_cons.1 hp with rfl|hp;exact Oq;exact hs.ge p hp⟩
 refine Ft ?_;refine qL Tryz.results52 rfl fun w' aq ab aI=>?_;rw [Fx s c om] at hs;exact⟨ab,iZ S4 rk n2 gA (aB s 1 32) (aB c 1 32) 0#64::ms,⟨S4,rfl,FX ws s c,rk,n2,gA,ms,rfl,by rw [kO];omega,hs,Oq⟩,(aT.mem (by(repeat' (first|exact aT.all _|refine aT.cons rfl ?_|exact aT.nil _|(rw [List.append_nil];exact aT.all _))))) w' aq,fun p hp=>by rcases List.mem_cons.1 hp with rfl|hp;exact Oq;exact hs.ge p hp⟩
abbrev dB (b:Nat) (sh:Bool) (sl:Int) (bI:Option Addr) (nh aG:Nat) (bR:Option Addr) (nw aO:Nat) (tr:vR) (bl:Nat) (di:Bool):Nat×Obj:=(b,.cells #[.bool sh,.int .i64 sl,.slice bI nh aG,.slice bR nw aO,.int .i64 tr.p,.int .i64 tr.u,.pointer (some ⟨bl,0,none⟩),.bool di] 61 (0,0))
abbrev c7 (b:Nat) (x:aY) (bI:Option Addr) (nh aG:Nat) (bR:Option Addr) (nw aO bl:Nat) (mh mw ml:aa):aa:=dB b x.sh x.sl bI nh aG bR nw aO x.tr bl x.di::(mh++(mw++ml))
def gE (n0 b:Nat) (x:aY) (wa:List Hd) (m:aa):Prop:=∃(bI:Option Addr) (nh aG:Nat) (bR:Option Addr) (nw aO bl:Nat) (mh mw ml:aa),m=c7 b x bI nh aG bR nw aO bl mh mw ml∧nh=x.ho.length∧nw=wa.length∧Sl sI 68 3 n0 x.ho (.slice bI nh aG) mh∧Sl sI 68 3 n0 wa (.slice bR nw aO) mw∧xb n0 bl x.ld ml∧n0≤b
def eD (w:Wt):Hd:=⟨w.who,w.key,false⟩
theorem gE.ge {n0 b:Nat} {x:aY} {wa:List Hd} {m:aa} (h:gE n0 b x wa m):∀p∈m,n0≤p.1:=by
  obtain ⟨bI,nh,aG,bR,nw,aO,bl,mh,mw,ml,rfl,iO,jN,eW,gh,ko,hb⟩:=h;intro p hp;rcases List.mem_cons.1 hp with rfl|hp
  · exact hb
  · rcases List.mem_append.1 hp with hp|hp
    · exact eW.ge p hp
    · rcases List.mem_append.1 hp with hp|hp
      · exact gh.ge p hp
      · exact ko.ge p hp
theorem gE.bX {n0 b:Nat} {x:aY} {wa:List Hd} {m:aa} (h:gE n0 b x wa m):∀p∈m,bX p.2=false:=by
  obtain ⟨bI,nh,aG,bR,nw,aO,bl,mh,mw,ml,rfl,iO,jN,eW,gh,ko,hb⟩:=h
  exact fun p hp=>by
    rcases List.mem_cons.1 hp with rfl|hp
    · rfl
    · rcases List.mem_append.1 hp with hp|hp
      · exact eW.bX p hp
      · rcases List.mem_append.1 hp with hp|hp
        · exact gh.bX p hp
        · exact ko.bX p hp
theorem gE.mono {n0 n1 b:Nat} {x:aY} {wa:List Hd} {m:aa} (h:gE n0 b x wa m) (hn:n1≤n0):gE n1 b x wa m:=by
  obtain ⟨bI,nh,aG,bR,nw,aO,bl,mh,mw,ml,rfl,iO,jN,eW,gh,ko,hb⟩:=h;exact⟨bI,nh,aG,bR,nw,aO,bl,mh,mw,ml,rfl,iO,jN,eW.mono hn,gh.mono hn,ko.mono hn,Nat.le_trans hn hb⟩
theorem Mg {l:List Hd} {t:Int} {i:Nat} (ha:(l.take i).any (fun h=>decide (h.t=t))=false) (hi:i<l.length) (he:(l.getD i default).t=t):mR l t=(i:Nat):=by
  unfold mR;rw [F5 default ha hi (decide_eq_true he)]
theorem kS {xs:List Hd} {ad:Option Addr} {n cap:Nat} (task:Int) (w:World) (hn:n=xs.length) (hl:Sr sI 3 xs (.slice ad n cap) w) (hx:xs.length≤maxLen):aJ Tryz.prog 39 #[.slice ad n cap,.int .i64 task] w (fun v w'=>v= .int .i64 (mR xs task)∧Ext w w'):=by
 have yU:maxLen=9223372036854775807:=(by unfold maxLen;rfl)
 refine aJ.au Tryz.func39 rfl Tryz.ntmps39 rfl ([]) (no) (Mem.nil w) ?_;refine cL ?_;refine af.aS (α:=Nat) (fun i=>[(5,.int .i64 (i:Nat))]) [(0,_),(1,_)] (fun i=>[]) (fun i=>i≤xs.length∧(xs.take i).any (fun h=>decide (h.t=task))=false) (fun i=>xs.length-i) (0) cm aX ⟨Nat.zero_le _,rfl⟩ ?_;rintro i ⟨hi,ha⟩;change af _ _ _ _ _ _ _ ([]) _ _ _;refine J9 ?_;refine af.aj rfl (fun h1=>?_) (fun h1=>?_)
 ·refine cf ?_;refine LM.eR (dy (j:=0) aA Tryz.isAgg3 rfl rfl cR (by rfl) (by rfl) id) ?_;refine J4 ?_;refine af.aj rfl (fun h2=>?_) (fun h2=>?_)
  ·refine cL ?_;refine qL Tryz.results39 rfl fun w' aq ab aI=>?_;exact⟨by show Value.int .i64 _=_;rw [Mg ha om h2],ab⟩
  refine J8 ?_;refine aK (i+1) ?_ ?_
  · exact⟨by omega,by rw [fX default om,ha,Bool.false_or];exact decide_eq_false h2⟩
  · omega
 refine dA ?_;refine qL Tryz.results39 rfl fun w' aq ab aI=>?_;have fp:i=xs.length:=om;subst fp;rw [List.take_length] at ha;exact⟨by show Value.int .i64 _=_;unfold mR;rw [qV ha],ab⟩
theorem lP {xs:List Hd} {ad:Option Addr} {n cap:Nat} (p:Int) (w:World) (hn:n=xs.length) (hl:Sr sI 3 xs (.slice ad n cap) w) (hx:xs.length≤maxLen):aJ Tryz.prog 146 #[.slice ad n cap,.int .i64 p] w (fun v w'=>v= .bool (xs.any (fun h=>decide (h.p=p)))∧Ext w w'):=by
 have yU:maxLen=9223372036854775807:=(by unfold maxLen;rfl)
 refine aJ.au Tryz.func146 rfl Tryz.ntmps146 rfl ([]) (no) (Mem.nil w) ?_;refine cL ?_;refine af.aS (α:=Nat) (fun i=>[(5,.int .i64 (i:Nat))]) [(0,_),(1,_)] (fun i=>[]) (fun i=>i≤xs.length∧(xs.take i).any (fun h=>decide (h.p=p))=false) (fun i=>xs.length-i) (0) cm aX ⟨Nat.zero_le _,rfl⟩ ?_;rintro i ⟨hi,ha⟩;change af _ _ _ _ _ _ _ ([]) _ _ _;refine J9 ?_;refine af.aj rfl (fun h1=>?_) (fun h1=>?_)
 ·refine cf ?_;refine LM.eR (dy (j:=1) aA Tryz.isAgg3 rfl rfl cR (by rfl) (by rfl) id) ?_;refine J4 ?_;refine af.aj rfl (fun h2=>?_) (fun h2=>?_)
  ·refine dA ?_;refine qL Tryz.results146 rfl fun w' aq ab aI=>?_;refine ⟨?_,ab⟩;show Value.bool true=_;congr 1;symm;rw [List.any_eq_true];exact⟨xs.getD i default,by rw [List.getD_eq_getElem?_getD,List.getElem?_eq_getElem om];exact List.getElem_mem _,decide_eq_true h2⟩
  refine J8 ?_;refine aK (i+1) ?_ ?_
  · exact⟨by omega,by rw [fX default om,ha,Bool.false_or];exact decide_eq_false h2⟩
  · omega
 refine dA ?_;refine qL Tryz.results146 rfl fun w' aq ab aI=>?_;have fp:i=xs.length:=om;subst fp;rw [List.take_length] at ha;exact⟨by rw [ha];rfl,ab⟩
theorem sj {xs:List Hd} {ad:Option Addr} {n cap:Nat} (s:BitVec 64) (w:World) (hn:n=xs.length) (hl:Sr sI 3 xs (.slice ad n cap) w) (hx:xs.length≤maxLen):aJ Tryz.prog 114 #[U s,.slice ad n cap] w (fun v w'=>v=U ((xs.map (·.p)).foldl c9 s)∧Ext w w'):=by
 have yU:maxLen=9223372036854775807:=(by unfold maxLen;rfl)
 refine aJ.au Tryz.func114 rfl Tryz.ntmps114 rfl ([]) (no) (Mem.nil w) ?_;refine cL ?_;refine af.aS (α:=Nat) (fun i=>[(0,U (((xs.take i).map (·.p)).foldl c9 s)),(5,.int .i64 (i:Nat))]) [(1,_)] (fun i=>[]) (fun i=>i≤xs.length) (fun i=>xs.length-i) (0) ⟨(by first|exact lk rfl (by rw [List.take_zero];rfl)|exact lk rfl (by rw [ia default om,List.foldl_append];rfl)),j8,rfl,trivial⟩ aX (Nat.zero_le _) ?_;rintro i hi;change af _ _ _ _ _ _ _ ([]) _ _ _;refine J9 ?_;refine af.aj rfl (fun h1=>?_) (fun h1=>?_)
 ·refine cf ?_;refine LM.eR (dy (j:=1) aA Tryz.isAgg3 rfl rfl cR (by rfl) (by rfl) id) ?_;refine cE Tryz.func149 rfl (fun w hm hc hg=>pA _ _ w) ?_;refine J9 ?_;refine QM.cT (i+1) ⟨(by first|exact lk rfl (by rw [List.take_zero];rfl)|exact lk rfl (by rw [ia default om,List.foldl_append];rfl)),j8,rfl,trivial⟩ aX (fun _ h=>h) ?_ ?_
  · omega
  · omega
 refine cL ?_;refine qL Tryz.results114 rfl fun w' aq ab aI=>?_;have fp:i=xs.length:=om;subst fp;rw [List.take_length];exact⟨rfl,ab⟩
theorem pI {xs:List Hd} {ad:Option Addr} {n cap:Nat} (i:Nat) (w:World) (hn:n=xs.length) (hl:Sr sI 3 xs (.slice ad n cap) w) (hi:i<xs.length) (hx:xs.length≤1000000):aJ Tryz.prog 99 #[.slice ad n cap,.int .i64 (i:Nat)] w (New sI 68 3 (xs.eraseIdx i) w):=by
 have ks:=hl.open.2.1;refine aJ.au Tryz.func99 rfl Tryz.ntmps99 rfl ([]) (no) (Mem.nil w) ?_;refine J6 ?_;refine af.draw [(1,0),(2,0),(3,0),(5,0),(6,0),(7,0),(8,0),(0,3),(4,3),(9,3),(10,3)] kr kr ?_;refine J2 ?_;refine LD.val rfl rfl (ji Tryz.underlying56 Tryz.sizeOf68 rfl rfl om om) ?_;refine J2 ?_;refine LD.val rfl rfl (nJ rfl rfl om) ?_;refine LD.val rfl rfl (nf (i+1) Tryz.underlying56 Tryz.sizeOf68 rfl rfl om om) ?_;refine LD.tail rfl rfl ?_;refine LM.Mr Tryz.underlying56 Tryz.sizeOf68 rfl (fun b5 Ky=>?_);have EG:Sl sI 68 3 w.heap.size ([] :List Hd) (.slice (some ⟨b5,0,none⟩) 0 0) [(b5,.cells (([] :List Value).toArray) 68 (0,0))] := .void Ky (Nat.zero_le _) rfl;refine LM.rC (ys:=xs.take i) (m:=[(b5,.cells (([] :List Value).toArray) 68 (0,0))]) Tryz.underlying56 Tryz.typeInfo68 rfl rfl rfl rfl rfl rfl rfl EG (fun w hm hc hg=>(hl.take (k:=i) om).ext hc) ir (by intro _ u hu;simp [sI] at hu;(repeat (first|(rcases hu with rfl|hu)|subst hu|rfl))) (Nat.le_refl _) (fun p hp bB=>absurd bB (Nat.not_lt_of_le (Sl.ge EG p hp))) (by unfold maxLen;rw [List.length_take];simp only [List.length_nil];omega) (by rw [List.length_take];simp only [Tryz.t68,List.length_nil];omega) (fun Ij n9 v3 m9 hn9 UA GR=>?_);refine LM.rC (ys:=xs.drop (i+1)) (m:=m9) Tryz.underlying56 Tryz.typeInfo68 rfl rfl rfl rfl rfl rfl rfl UA (fun w hm hc hg=>(hl.drop (l:=i+1) om).ext hc) ir (by intro _ u hu;simp [sI] at hu;(repeat (first|(rcases hu with rfl|hu)|subst hu|rfl))) (Nat.le_refl _) (fun p hp bB=>absurd bB (Nat.not_lt_of_le (Sl.ge UA p hp))) (by unfold maxLen;simp only [List.length_nil,List.length_append,List.length_take,List.length_drop];omega) (by simp only [Tryz.t68,List.length_nil,List.length_append,List.length_take,List.length_drop];omega) (fun alN n14 ahg U8 ai5 aeV afl=>?_);refine J2 ?_;refine QM.qn ?_;refine J2 ?_;refine qL Tryz.results99 rfl fun w' aq ab aI=>?_;refine ⟨ab,U8,?_,aq.pick _⟩;rw [List.eraseIdx_eq_take_drop_succ];exact aeV
theorem iW {n0 b:Nat} {x:aY} {wa:List Hd} {m:aa} (task:Int) (w:World) (h:gE n0 b x wa m) (hM:Mem w m):aJ Tryz.prog 12 #[.pointer (some ⟨b,0,none⟩),.int .i64 task] w (fun u w'=>u= .bool ((x.ho).any (fun h=>decide (h.t=task)))∧Ext w w'):=by
 obtain ⟨bI,nh,aG,bR,nw,aO,bl,mh,mw,ml,rfl,iO,jN,eW,gh,ko,hb⟩:=h;refine aJ.au Tryz.func12 rfl Tryz.ntmps12 rfl (dB b x.sh x.sl bI nh aG bR nw aO x.tr bl x.di::(mh++(mw++(ml++ [])))) (no) aM ?_;refine cL ?_;refine cE Tryz.func39 rfl (fun w hm hc hg=>kS task w iO (eW.k8 ir hm) eW.len.2.1) ?_;refine J5 ?_;refine qL Tryz.results12 rfl fun w' aq ab aI=>?_;exact⟨by show Value.bool (decide (0≤mR (x.ho) task))=_;congr 1;unfold mR jJ;cases (x.ho).any (fun h=>decide (h.t=task))<;>simp,ab⟩
theorem lH {n0 b:Nat} {x:aY} {wa:List Hd} {m:aa} (task:Int) (w:World) (h:gE n0 b x wa m) (hM:Mem w m):aJ Tryz.prog 13 #[.pointer (some ⟨b,0,none⟩),.int .i64 task] w (fun u w'=>u= .bool ((wa).any (fun h=>decide (h.t=task)))∧Ext w w'):=by
 obtain ⟨bI,nh,aG,bR,nw,aO,bl,mh,mw,ml,rfl,iO,jN,eW,gh,ko,hb⟩:=h;refine aJ.au Tryz.func13 rfl Tryz.ntmps13 rfl (dB b x.sh x.sl bI nh aG bR nw aO x.tr bl x.di::(mh++(mw++(ml++ [])))) (no) aM ?_;refine cL ?_;refine cE Tryz.func39 rfl (fun w hm hc hg=>kS task w jN (gh.k8 ir hm) gh.len.2.1) ?_;refine J5 ?_;refine qL Tryz.results13 rfl fun w' aq ab aI=>?_;exact⟨by show Value.bool (decide (0≤mR (wa) task))=_;congr 1;unfold mR jJ;cases (wa).any (fun h=>decide (h.t=task))<;>simp,ab⟩
theorem ze {n0 b:Nat} {x:aY} {wa:List Hd} {m:aa} (g:Int) (r:Bool) (w:World) (h:gE n0 b x wa m) (hM:Mem w m):aJ Tryz.prog 137 #[.pointer (some ⟨b,0,none⟩),.int .i64 g,.bool r] w (fun u w'=>u= .int .i64 (zt x g r)∧Ext w w'):=by
 obtain ⟨bI,nh,aG,bR,nw,aO,bl,mh,mw,ml,rfl,iO,jN,eW,gh,ko,hb⟩:=h;refine aJ.au Tryz.func137 rfl Tryz.ntmps137 rfl (dB b x.sh x.sl bI nh aG bR nw aO x.tr bl x.di::(mh++(mw++(ml++ [])))) (no) aM ?_;refine lh ?_;refine af.aW rfl (fun h1=>?_) (fun h1=>?_)
 ·refine J6 ?_;refine af.aW rfl (fun h2=>?_) (fun h2=>?_)
  ·refine J8 ?_;refine qL Tryz.results137 rfl fun w' aq ab aI=>?_;refine ⟨?_,ab⟩;unfold zt;simp_all [bA]
  refine J9 ?_;refine qL Tryz.results137 rfl fun w' aq ab aI=>?_;refine ⟨?_,ab⟩;unfold zt;simp_all [bA]
 refine J7 ?_;refine LM.bw (t:=13) rfl (fun h3=>?_) (fun h3=>?_)
 ·refine Ft ?_;refine qL Tryz.results137 rfl fun w' aq ab aI=>?_;refine ⟨?_,ab⟩;unfold zt;simp_all [bA]
 refine J7 ?_;refine cE Tryz.func73 rfl (fun w hm hc hg=>iY g w ko (hm.pick ml)) ?_;refine J4 ?_;refine af.aW rfl (fun h4=>?_) (fun h4=>?_)
 ·refine J7 ?_;refine qL Tryz.results137 rfl fun w' aq ab aI=>?_;refine ⟨?_,ab⟩;unfold zt;simp_all [bA]
 refine J9 ?_;refine qL Tryz.results137 rfl fun w' aq ab aI=>?_;refine ⟨?_,ab⟩;unfold zt;simp_all [bA]
theorem zg {n0 b:Nat} {x:aY} {wa:List Hd} {m:aa} (p:Int) (w:World) (h:gE n0 b x wa m) (hM:Mem w m):aJ Tryz.prog 170 #[.pointer (some ⟨b,0,none⟩),.int .i64 p] w (fun u w'=>u= .bool (o3 x.ld p&&(decide (x.ho.length=0)||(x.sh&&decide (p=0)&& !(x.ho.any (fun h=>decide (h.p=1)))&&(!(wa.any (fun h=>decide (h.p=1)))||x6 x.tr x.sl 0))))∧Ext w w'):=by
 obtain ⟨bI,nh,aG,bR,nw,aO,bl,mh,mw,ml,rfl,iO,jN,eW,gh,ko,hb⟩:=h;refine aJ.au Tryz.func170 rfl Tryz.ntmps170 rfl (dB b x.sh x.sl bI nh aG bR nw aO x.tr bl x.di::(mh++(mw++(ml++ [])))) (no) aM ?_;refine gz ?_;refine cE Tryz.func73 rfl (fun w hm hc hg=>iY p w ko (hm.pick ml)) ?_;refine J3 ?_;refine af.aW rfl (fun h1=>?_) (fun h1=>?_)
 ·refine J7 ?_;refine qL Tryz.results170 rfl fun w' aq ab aI=>?_;refine ⟨?_,ab⟩;have hz:decide (x.ho.length=0)=decide ((nh:Int)=0):=decide_eq_decide.2 om;simp only [bA,hz,h1,decide_true,decide_false,Bool.true_and,Bool.false_and,Bool.and_true,Bool.and_false,Bool.not_true,Bool.not_false,Bool.true_or,Bool.false_or,Bool.or_true,Bool.or_false,ne_eq,not_true_eq_false,not_false_eq_true,Bool.and_self];first|done|(simp_all;done)|(simp_all;omega)
 refine gz ?_;refine af.aj rfl (fun h2=>?_) (fun h2=>?_)
 ·refine J7 ?_;refine qL Tryz.results170 rfl fun w' aq ab aI=>?_;refine ⟨?_,ab⟩;have hz:decide (x.ho.length=0)=decide ((nh:Int)=0):=decide_eq_decide.2 om;simp only [bA,hz,h1,h2,decide_true,decide_false,Bool.true_and,Bool.false_and,Bool.and_true,Bool.and_false,Bool.not_true,Bool.not_false,Bool.true_or,Bool.false_or,Bool.or_true,Bool.or_false,ne_eq,not_true_eq_false,not_false_eq_true,Bool.and_self];first|done|(simp_all;done)|(simp_all;omega)
 refine J3 ?_;refine af.draw [(0,0),(1,0),(2,0),(3,1),(4,0),(5,0),(6,0),(7,0),(8,0),(9,0),(10,0),(11,0),(12,1),(13,2),(14,0),(15,0),(16,0),(17,0),(18,0),(19,0),(20,1),(21,2),(22,0),(23,0),(24,0),(25,0),(26,0),(27,1),(28,0),(29,0),(30,0),(31,1),(32,2),(33,0),(34,0),(35,0)] kr kr ?_;refine J5 ?_;refine LD.bw (t:=22) rfl (fun h3=>?_) (fun h3=>?_)
 ·refine J4 ?_;refine LD.ar (t:=26) rfl (fun h4=>?_) (fun h4=>?_)
  ·refine J4 ?_;refine dE rfl ⟨26,_,rfl,rfl,rfl⟩ Tryz.func146 rfl (fun w hm hc hg=>lP 1 w iO (eW.k8 ir hm) eW.len.2.1) ?_;refine J3 ?_;refine LD.bw (t:=34) rfl (fun h5=>?_) (fun h5=>?_)
   ·refine J4 ?_;refine dE rfl ⟨34,_,rfl,rfl,rfl⟩ Tryz.func146 rfl (fun w hm hc hg=>lP 1 w jN (gh.k8 ir hm) gh.len.2.1) ?_;refine J2 ?_;refine LD.bw (t:=41) rfl (fun h6=>?_) (fun h6=>?_)
    ·refine tO ?_;refine qL Tryz.results170 rfl fun w' aq ab aI=>?_;refine ⟨?_,ab⟩;have hz:decide (x.ho.length=0)=decide ((nh:Int)=0):=decide_eq_decide.2 om;simp only [bA,hz,h1,h2,h3,h4,h5,h6,decide_true,decide_false,Bool.true_and,Bool.false_and,Bool.and_true,Bool.and_false,Bool.not_true,Bool.not_false,Bool.true_or,Bool.false_or,Bool.or_true,Bool.or_false,ne_eq,not_true_eq_false,not_false_eq_true,Bool.and_self];first|done|(simp_all;done)|(simp_all;omega)
    refine J3 ?_;refine LD.rd rfl ⟨41,_,rfl,rfl,rfl⟩ (pP Tryz.isAgg58 Tryz.sizeOf58 rfl (vs:=[_,_]) rfl ⟨rfl,rfl,trivial⟩) ?_;refine J4 ?_;refine dE rfl ⟨41,_,rfl,rfl,rfl⟩ Tryz.func171 rfl (fun w hm hc hg=>pT x.tr _ _ w) ?_;refine J6 ?_;refine qL Tryz.results170 rfl fun w' aq ab aI=>?_;refine ⟨?_,ab⟩;have hz:decide (x.ho.length=0)=decide ((nh:Int)=0):=decide_eq_decide.2 om;simp only [bA,hz,h1,h2,h3,h4,h5,h6,decide_true,decide_false,Bool.true_and,Bool.false_and,Bool.and_true,Bool.and_false,Bool.not_true,Bool.not_false,Bool.true_or,Bool.false_or,Bool.or_true,Bool.or_false,ne_eq,not_true_eq_false,not_false_eq_true,Bool.and_self];first|done|(simp_all;done)|(simp_all;omega)
   refine J6 ?_;refine LD.db rfl rfl ⟨34,_,rfl,rfl,rfl⟩ ?_;refine J8 ?_;refine LD.Io rfl rfl rfl ?_;refine J6 ?_;refine qL Tryz.results170 rfl fun w' aq ab aI=>?_;refine ⟨?_,ab⟩;have hz:decide (x.ho.length=0)=decide ((nh:Int)=0):=decide_eq_decide.2 om;simp only [bA,hz,h1,h2,h3,h4,h5,decide_true,decide_false,Bool.true_and,Bool.false_and,Bool.and_true,Bool.and_false,Bool.not_true,Bool.not_false,Bool.true_or,Bool.false_or,Bool.or_true,Bool.or_false,ne_eq,not_true_eq_false,not_false_eq_true,Bool.and_self];first|done|(simp_all;done)|(simp_all;omega)
  refine lh ?_;refine LD.db rfl rfl ⟨34,_,rfl,rfl,rfl⟩ ?_;refine J8 ?_;refine LD.Io rfl rfl rfl ?_;refine J6 ?_;refine qL Tryz.results170 rfl fun w' aq ab aI=>?_;refine ⟨?_,ab⟩;have hz:decide (x.ho.length=0)=decide ((nh:Int)=0):=decide_eq_decide.2 om;simp only [bA,hz,h1,h2,h3,h4,decide_true,decide_false,Bool.true_and,Bool.false_and,Bool.and_true,Bool.and_false,Bool.not_true,Bool.not_false,Bool.true_or,Bool.false_or,Bool.or_true,Bool.or_false,ne_eq,not_true_eq_false,not_false_eq_true,Bool.and_self];first|done|(simp_all;done)|(simp_all;omega)
 refine Ft ?_;refine LD.db rfl rfl ⟨34,_,rfl,rfl,rfl⟩ ?_;refine J8 ?_;refine LD.Io rfl rfl rfl ?_;refine J6 ?_;refine qL Tryz.results170 rfl fun w' aq ab aI=>?_;refine ⟨?_,ab⟩;have hz:decide (x.ho.length=0)=decide ((nh:Int)=0):=decide_eq_decide.2 om;simp only [bA,hz,h1,h2,h3,decide_true,decide_false,Bool.true_and,Bool.false_and,Bool.and_true,Bool.and_false,Bool.not_true,Bool.not_false,Bool.true_or,Bool.false_or,Bool.or_true,Bool.or_false,ne_eq,not_true_eq_false,not_false_eq_true,Bool.and_self];first|done|(simp_all;done)|(simp_all;omega)
theorem BZ {n0 b nh aG nw aO bl:Nat} {bI bR:Option Addr} {x:aY} {wa:List Hd} {m mh mw ml M:aa} {u0:Value} {w w':World} (iO:nh=x.ho.length) (jN:nw=wa.length) (eW:Sl sI 68 3 n0 x.ho (.slice bI nh aG) mh) (gh:Sl sI 68 3 n0 wa (.slice bR nw aO) mw) (ko:xb n0 bl x.ld ml) (hb:n0≤b) (hm:Mem w' M)
    (hs:aT M (dB b x.sh x.sl bI nh aG bR nw aO x.tr bl x.di::(mh++(mw++(ml++ []))))) (hc:cX (fQ m) w w') (hbm:fQ m b) (h1:c6 m w.heap.size mh) (h2:c6 m w.heap.size mw) (h3:c6 m w.heap.size ml):
    eF m (fun u m'=>u=u0∧gE n0 b x wa m') w u0 w':=by
  rw [List.append_nil] at hs;exact⟨hc,_,⟨rfl,bI,nh,aG,bR,nw,aO,bl,mh,mw,ml,rfl,iO,jN,eW,gh,ko,hb⟩,hs.mem w' hm,fV hbm (bZ h1 (bZ h2 h3))⟩
theorem To {x:aY} {wa:List Hd} (h:wa.map (·.p)=x.wt.map (·.key)):(wa.map (·.p)).foldl c9 ((x.ho.map (·.p)).foldl c9 0#64)=Gh x:=by
  have e:=Hh (x.ho.map (·.p)) (x.wt.map (·.key))
  unfold Gh
  rw [←List.foldl_append,h,←e]
  unfold jP
  with_reducible rfl
theorem po {n0 b:Nat} {x:aY} {wa:List Hd} {m:aa} (task:Int) (w:World) (h:gE n0 b x wa m) (hM:Mem w m):
    aJ Tryz.prog 12 #[.pointer (some ⟨b,0,none⟩),.int .i64 task] w (fun u w'=>u= .bool (bd x task)∧Ext w w'):=iW task w h hM
theorem eI {n0 b:Nat} {x:aY} {wa:List Hd} {m:aa} (w:World) (h:gE n0 b x wa m) (hwa:wa.map (·.p)=x.wt.map (·.key)) (hM:Mem w m):aJ Tryz.prog 76 #[.pointer (some ⟨b,0,none⟩)] w (eF m (fun u m'=>gE n0 b (cu x) wa m') w):=by
 obtain ⟨bI,nh,aG,bR,nw,aO,bl,mh,mw,ml,rfl,iO,jN,eW,gh,ko,hb⟩:=h;refine aJ.au Tryz.func76 rfl Tryz.ntmps76 rfl (dB b x.sh x.sl bI nh aG bR nw aO x.tr bl x.di::(mh++(mw++(ml++ [])))) ((fQ (c7 b x bI nh aG bR nw aO bl mh mw ml))) aM ?_;refine af.draw [(0,0),(1,0),(2,0),(3,1),(4,0),(5,0),(6,0),(7,1),(9,0),(10,0),(11,0),(12,1),(8,2),(13,2),(14,3)] kr kr ?_;refine cL ?_;refine dE rfl rfl Tryz.func114 rfl (fun w hm hc hg=>sj 0#64 w iO (eW.k8 ir hm) eW.len.2.1) ?_
 generalize Fh:List.foldl c9 0#64 (List.map (fun h=>h.p) x.ho)=s1
 refine dE rfl rfl Tryz.func114 rfl (fun w hm hc hg=>sj s1 w jN (gh.k8 ir hm) gh.len.2.1) ?_
 generalize ss:List.foldl c9 s1 (List.map (fun h=>h.p) wa)=s2;have ML:s2=Gh x:=(by rw [←ss,←Fh];exact To hwa);subst ML
 refine LD.tail rfl rfl ?_;refine cU Tryz.func113 rfl (fun w hm hc hg=>CP (Gh x) w ko (hm.pick ml)) ko.bX (fun p hp _=>⟨p,by simp [hp],rfl⟩) ?_;rintro u16 m16 tv YM;refine J1 ?_;refine QM.qn ?_;refine QM.leave (.inr rfl) [] Tryz.results76 rfl ?_;intro w' aq ab aI;exact eF.imp (BZ (u0:=bA []) (x:=cu x) iO jN eW gh tv hb aq aX ab ee zN zN (r5 YM (fun p hp=>by simp [hp]))) (fun u m' h=>h.2)
theorem vu {n0 b:Nat} {x:aY} {wa:List Hd} {m:aa} (t p:Int) (w:World) (h:gE n0 b x wa m) (hwt:wa.any (fun h=>decide (h.t=t))=bY x t) (hM:Mem w m):aJ Tryz.prog 169 #[.pointer (some ⟨b,0,none⟩),.int .i64 t,.int .i64 p] w (fun u w'=>u= .int .i64 (cz x t p)∧Ext w w'):=by
 have nj:=h;obtain ⟨bI,nh,aG,bR,nw,aO,bl,mh,mw,ml,rfl,iO,jN,eW,gh,ko,hb⟩:=h;refine aJ.au Tryz.func169 rfl Tryz.ntmps169 rfl (dB b x.sh x.sl bI nh aG bR nw aO x.tr bl x.di::(mh++(mw++(ml++ [])))) (no) aM ?_;refine dA ?_;refine LM.ar (t:=9) rfl (fun h1=>?_) (fun h1=>?_)
 ·refine Ft ?_;refine qL Tryz.results169 rfl fun w' aq ab aI=>?_;refine ⟨?_,ab⟩;unfold cz;simp_all [bA];try (intros;omega)
 refine J7 ?_;refine cE Tryz.func73 rfl (fun w hm hc hg=>iY p w ko (hm.pick ml)) ?_;refine J4 ?_;refine af.aW rfl (fun h2=>?_) (fun h2=>?_)
 ·refine J7 ?_;refine qL Tryz.results169 rfl fun w' aq ab aI=>?_;refine ⟨?_,ab⟩;unfold cz;simp_all [bA];try (intros;omega)
 refine J7 ?_;refine cE Tryz.func12 rfl (fun w hm hc hg=>po t w nj (hm.pick (c7 b x bI nh aG bR nw aO bl mh mw ml))) ?_;refine J2 ?_;refine af.aW rfl (fun h3=>?_) (fun h3=>?_)
 ·refine J7 ?_;refine qL Tryz.results169 rfl fun w' aq ab aI=>?_;refine ⟨?_,ab⟩;unfold cz;simp_all [bA];try (intros;omega)
 refine J7 ?_;refine cE Tryz.func13 rfl (fun w hm hc hg=>hwt▸lH t w nj (hm.pick (c7 b x bI nh aG bR nw aO bl mh mw ml))) ?_;refine J2 ?_;refine af.aW rfl (fun h4=>?_) (fun h4=>?_)
 ·refine J7 ?_;refine qL Tryz.results169 rfl fun w' aq ab aI=>?_;refine ⟨?_,ab⟩;unfold cz;simp_all [bA];try (intros;omega)
 refine J8 ?_;refine qL Tryz.results169 rfl fun w' aq ab aI=>?_;refine ⟨?_,ab⟩;unfold cz;simp_all [bA];try (intros;omega)
theorem oH {n0 b:Nat} {x:aY} {wa:List Hd} {m:aa} (i:Nat) (w:World) (h:gE n0 b x wa m) (hi:i<wa.length) (cb:n0≤w.heap.size) (hx:x.ho.length≤1000) (hw9:wa.length≤1000) (hM:Mem w m):aJ Tryz.prog 172 #[.pointer (some ⟨b,0,none⟩),.int .i64 (i:Nat)] w (eF m (fun u m'=>u= .int .i64 (wa.getD i default).t∧gE n0 b (mE x (wa.getD i default).t (wa.getD i default).p) (wa.eraseIdx i) m') w):=by
 obtain ⟨bI,nh,aG,bR,nw,aO,bl,mh,mw,ml,rfl,iO,jN,eW,gh,ko,hb⟩:=h;have ZR:=eW.len.2.1;have OJ:=gh.len;refine aJ.au Tryz.func172 rfl Tryz.ntmps172 rfl (dB b x.sh x.sl bI nh aG bR nw aO x.tr bl x.di::(mh++(mw++(ml++ [])))) ((fQ (c7 b x bI nh aG bR nw aO bl mh mw ml))) aM ?_;refine gz ?_;refine LM.rd (jo gh ir Tryz.isAgg68 Tryz.sizeOf68 rfl (by exact aQ default hi)) ?_;refine LM.alloc Tryz.zeroValue68 rfl (fun b5 Ky=>?_);refine LM.dC Tryz.sizeOf68 rfl rfl rfl rfl dD tw ?_;refine LM.mem (aT.mem (M':=(b5,.cells #[.int .i64 (wa.getD i default).t,.int .i64 (wa.getD i default).p,.bool (wa.getD i default).d] 68 (0,0))::dB b x.sh x.sl bI nh aG bR nw aO x.tr bl x.di::(mh++(mw++(ml++ [])))) aX) ?_;refine cf ?_;refine LM.cS (oC Tryz.func99) (fun w hm hc hg=>pI i w jN (gh.k8 ir hm) hi om) (fun M4 n19 EI Zg abr YP=>?_);refine J2 ?_;refine LM.st Tryz.sizeOf56 rfl rfl rfl ez rfl tw ?_;refine LM.mem (aT.mem (M':=(b5,.cells #[.int .i64 (wa.getD i default).t,.int .i64 (wa.getD i default).p,.bool (wa.getD i default).d] 68 (0,0))::dB b x.sh x.sl bI nh aG M4 n19 EI x.tr bl x.di::(mh++(Zg++(ml++ [])))) aX) ?_;refine J9 ?_;refine LM.st Tryz.sizeOf4 rfl rfl rfl ez rfl tw ?_;refine LM.mem (aT.mem (M':=(b5,.cells #[.int .i64 (wa.getD i default).t,.int .i64 (wa.getD i default).p,.bool x.di] 68 (0,0))::dB b x.sh x.sl bI nh aG M4 n19 EI x.tr bl x.di::(mh++(Zg++(ml++ [])))) aX) ?_;refine J7 ?_;refine LM.st Tryz.sizeOf4 rfl rfl rfl ez rfl tw ?_;refine LM.mem (aT.mem (M':=(b5,.cells #[.int .i64 (wa.getD i default).t,.int .i64 (wa.getD i default).p,.bool x.di] 68 (0,0))::dB b x.sh x.sl bI nh aG M4 n19 EI x.tr bl false::(mh++(Zg++(ml++ [])))) aX) ?_;refine J3 ?_;refine af.keep ((b5,.cells #[.int .i64 (wa.getD i default).t,.int .i64 (wa.getD i default).p,.bool x.di] 68 (0,0))::dB b x.sh x.sl bI nh aG M4 n19 EI x.tr bl false:: []) (fun _=>True) (.one 0 0 (.one 1 0 (.one 2 0 (.one 3 0 (.one 4 1 (.one 5 1 (.one 6 2 (.one 7 2 (.one 8 0 (.one 9 0 (.last 10))))))))))) kr kr aX (fun _ _=>trivial) ?_;refine J5 ?_;refine KD.rd rfl rfl (bo Tryz.isAgg68 Tryz.sizeOf68 rfl rfl) ?_;refine J1 ?_;refine LM.single Tryz.underlying56 Tryz.sizeOf68 Tryz.zeroValue68 rfl rfl rfl rfl rfl (fun UC adK=>?_);refine J3 ?_;refine LM.app (a:=(⟨(wa.getD i default).t,(wa.getD i default).p,x.di⟩:Hd)) Tryz.underlying56 Tryz.typeInfo68 rfl rfl rfl rfl rfl rfl rfl aA (by rfl) ir (by intro _ u hu;simp [sI] at hu;(repeat (first|(rcases hu with rfl|hu)|subst hu|rfl))) (by first|exact Nat.le_refl _|omega) (fun p hp _=>⟨p,by simp [hp],rfl⟩) (by first|omega|(unfold maxLen;omega)) (by simp only [Tryz.t68];omega) (fun LK UY BM Pj Vx pH vg=>?_);refine J4 ?_;refine KD.last rfl ?_;refine LM.st Tryz.sizeOf56 rfl rfl rfl ez rfl tw ?_;refine J1 ?_;refine QM.qn ?_;refine J9 ?_;refine qL Tryz.results172 rfl fun w' aq ab aI=>?_;exact BZ (x:=mE x (wa.getD i default).t (wa.getD i default).p) (by show UY=(_++_:List Hd).length;rw [List.length_append];omega) abr pH (YP.mono cb) ko hb aq aX ab ee (r5 vg (fun p hp=>by simp [hp])) (fun p hp=> .inl (YP.ge p hp)) zN
def Cy (p:Int) (x:aY) (os:List Int):aY:=os.foldl (fun x t=>mE x t p) x
theorem Ap (p:Int) (x:aY) (os:List Int) (t:Int):Cy p x (os++ [t])=mE (Cy p x os) t p:=by unfold Cy;rw [List.foldl_append];rfl
theorem Ps (p:Int) (x:aY) (os:List Int):(Cy p x os).ho.length=x.ho.length+os.length:=by
  unfold Cy;rw [lK];show (x.ho++_).length=_;rw [List.length_append,qt]
theorem Ja {l:List Wt} {i:Nat} (hi:i<l.length):(l.map eD).getD i default=eD (l.getD i default):=by
  rw [List.getD_eq_getElem?_getD,List.getD_eq_getElem?_getD,List.getElem?_map,List.getElem?_eq_getElem hi];rfl
structure H2 (x:aY) (p:Int) (n:Nat) (al:Bool) (dn rs:List Wt) (os:List Int):Prop where
  a:dn++qz p (n-os.length) rs=z5 x.wt (cQ x p n)
  b:os++((LF rs p).take (n-os.length)).map (·.who)=cQ x p n
  c:al=true→os.length+rs.length≤8
  d:dn.length+rs.length+os.length=x.wt.length
theorem H2.init {x:aY} {p:Int} {n:Nat} {al:Bool} (hw:wC x.wt) (h8:x.wt.length≤8):H2 x p n al [] x.wt [] :=
  ⟨by rw [List.nil_append,tN _ _ _ hw];rfl,by rw [List.nil_append];rfl,fun _=>by simpa using h8,by simp⟩
theorem H2.fin {x:aY} {p:Int} {n:Nat} {al:Bool} {dn:List Wt} {os:List Int} (h:H2 x p n al dn [] os):dn=z5 x.wt (cQ x p n)∧os=cQ x p n:=by
  have ha:=h.a;have hb:=h.b;rw [show qz p (n-os.length) [] =[] by cases (n-os.length)<;>rfl,List.append_nil] at ha;rw [show LF [] p=[] from rfl,List.take_nil] at hb;exact⟨ha,by simpa using hb⟩
theorem H2.skip {x:aY} {p:Int} {n:Nat} {al:Bool} {dn rs:List Wt} {os:List Int} {w:Wt} (h:H2 x p n al dn (w::rs) os) (hs:w.key≠p∨n-os.length=0):H2 x p n al (dn++ [w]) rs os:=by
  refine ⟨?_,?_,fun q=>?_,?_⟩
  · rw [←h.a,xi hs];simp
  · rw [←h.b]
    rcases hs with hs|hs
    · rw [nW hs]
    · rw [hs,List.take_zero,List.take_zero]
  · have:=h.c q;simp at this;omega
  · have:=h.d;simp at this ⊢;omega
theorem H2.A0 {x:aY} {p:Int} {n:Nat} {al:Bool} {dn rs:List Wt} {os:List Int} {w:Wt} (h:H2 x p n al dn (w::rs) os) (hk:w.key=p) (hn:0<n-os.length):H2 x p n al dn rs (os++ [w.who]):=by
  have e:n-(os++ [w.who]).length=n-os.length-1:=by rw [List.length_append];simp;omega
  refine ⟨?_,?_,fun q=>?_,?_⟩
  · rw [←h.a,AJ hk hn,e]
  · rw [←h.b,og hk,e]
    obtain ⟨m,hm⟩:∃m,n-os.length=m+1:=⟨n-os.length-1,by omega⟩
    rw [hm,List.take_succ_cons];simp
  · have:=h.c q;simp at this ⊢;omega
  · have:=h.d;simp at this ⊢;omega
def RdT (n0 b k:Nat) (l:List Int) (x:aY) (u:Value) (m:aa):Prop:=∃mr mx,Sl fI 3 1 k l u mr∧m=mr++mx∧gE n0 b x (x.wt.map eD) mx
theorem pW {n0 b k:Nat} {x:aY} {m:aa} (p:Int) (al:Bool) (w:World) (h:gE n0 b x (x.wt.map eD) m) (hwd:wC x.wt) (h8:x.wt.length≤8) (cb:n0≤w.heap.size) (hx:x.ho.length≤900) (hk:k≤w.heap.size) (hM:Mem w m):aJ Tryz.prog 145 #[.pointer (some ⟨b,0,none⟩),.int .i64 p,.bool al] w (eF m (RdT n0 b k (cQ x p (if al then 8 else 1)) (lX x p (if al then 8 else 1))) w):=by
 refine aJ.au Tryz.func145 rfl Tryz.ntmps145 rfl (m++ []) ((fQ m)) aM ?_;refine xq ?_;refine af.aS (α:=List Wt×List Wt×List Int×Option Addr×Nat×Nat×aa×aa) (fun ⟨dn,rs,os,ad,n,cap,mo,mx⟩=>[(7,.slice ad n cap),(8,.int .i64 (dn.length:Nat))]) [(0,_),(1,_),(2,_)] (fun ⟨dn,rs,os,ad,n,cap,mo,mx⟩=>mo++(mx++ [])) (fun ⟨dn,rs,os,ad,n,cap,mo,mx⟩=>H2 x p (if al then 8 else 1) al dn rs os∧n=os.length∧Sl fI 3 1 w.heap.size os (.slice ad n cap) mo∧gE n0 b (Cy p x os) ((dn++rs).map eD) mx∧c6 m w.heap.size mx) (fun ⟨dn,rs,os,ad,n,cap,mo,mx⟩=>rs.length) (([],x.wt,[],none,0,0,[],m)) cm aX ⟨H2.init hwd h8,rfl,.nil _ _ _ _,h,ay _ _⟩ ?_;rintro ⟨dn,rs,os,ad,n,cap,mo,mx⟩ ⟨hG,hn,hO,hL,vH⟩;change af _ _ _ _ _ _ _ (mo++(mx++ [])) _ _ _;have MB:=hL;obtain ⟨bI,nh,aG,bR,nw,aO,bl,mh,mw,ml,rfl,iO,jN,eW,gh,ko,hb⟩:=hL;refine af.mem (aT.mem (M':=mo++(dB b (Cy p x os).sh (Cy p x os).sl bI nh aG bR nw aO (Cy p x os).tr bl (Cy p x os).di::(mh++(mw++(ml++ []))))) (by rw [List.cons_append,List.append_assoc,List.append_assoc];(repeat' (first|exact aT.nil _|refine aT.cons rfl ?_|refine aT.app ?_)))) ?_;have hdl:((dn++rs).map eD).length=dn.length+rs.length:=(by rw [List.length_map,List.length_append]);have hGd:=hG.d;have fp:=Ps p x os;refine cL ?_;refine af.aj rfl (fun h1=>?_) (fun h1=>?_)
 ·obtain ⟨v,NI,rfl⟩:∃v l,rs=v::l:=(by cases rs with|nil=>exfalso;have e0:([] :List Wt).length=0:=rfl;omega|cons v l=>exact⟨v,l,rfl⟩);have Ux:(List.map eD (dn++v::NI)).getD dn.length default=eD v:=(by rw [Ja (by simp),List.getD_eq_getElem?_getD,List.getElem?_append_right (Nat.le_refl _),Nat.sub_self];rfl);have zV:(List.map eD (dn++v::NI)).eraseIdx dn.length=List.map eD (dn++NI):=(by rw [List.map_append,List.eraseIdx_append_of_length_le (by rw [List.length_map];exact Nat.le_refl _),List.length_map,Nat.sub_self,List.map_append];rfl);rw [List.length_cons] at hdl hGd;have WZ:(v::NI).length=NI.length+1:=List.length_cons ..;refine gz ?_;refine LM.rd (aH (j:=1) aA ir Tryz.isAgg3 rfl rfl cR rfl (by rfl)) ?_;refine J3 ?_;refine LM.ar (t:=26) rfl (fun h2=>?_) (fun h2=>?_)
  ·rw [Ux] at h2;refine J3 ?_;refine LM.db (t:=26) rfl rfl rfl ?_;refine xq ?_;refine aK (dn++ [v],NI,os,ad,n,cap,mo,c7 b (Cy p x os) bI nh aG bR nw aO bl mh mw ml) ?_ ?_
   · exact⟨hG.skip (.inl h2),hn,hO,by rw [List.append_assoc];exact MB,vH⟩
   · (dsimp only;omega)
  rw [Ux] at h2;have RV:v.key=p:=(by simpa [eD] using h2)
  refine J4 ?_;refine LM.ar (t:=30) rfl (fun h3=>?_) (fun h3=>?_)
  ·refine J6 ?_;refine af.aW rfl (fun h4=>?_) (fun h4=>?_)
   ·refine cf ?_;refine aK (dn++ [v],NI,os,ad,n,cap,mo,c7 b (Cy p x os) bI nh aG bR nw aO bl mh mw ml) ?_ ?_
    · have H4:al=false:=(by simpa using h4);exact⟨hG.skip (.inr (by rw [H4,if_neg (by decide)];omega)),hn,hO,by rw [List.append_assoc];exact MB,vH⟩
    · (dsimp only;omega)
   refine J6 ?_;refine cU Tryz.func172 rfl (fun w hm hc hg=>oH dn.length w MB om (Nat.le_trans cb hc.size) om om (hm.pick (c7 b (Cy p x os) bI nh aG bR nw aO bl mh mw ml))) MB.bX (ao vH) ?_;rintro u40 WV ⟨rfl,Cr⟩ pb;rw [Ux,zV] at Cr;rw [Ux];rw [show (eD v).p=p from RV] at Cr;refine LM.single Tryz.underlying26 Tryz.sizeOf3 Tryz.zeroValue3 rfl rfl rfl rfl rfl (fun b41 aeY=>?_);refine LM.app (a:=v.who) Tryz.underlying26 Tryz.typeInfo3 rfl rfl rfl rfl rfl rfl rfl aA (by rfl) ir (by intro _ u hu;simp [fI] at hu;(repeat (first|(rcases hu with rfl|hu)|subst hu|rfl))) (by first|exact Nat.le_refl _|omega) (fun p hp bB=>absurd bB (Nat.not_lt_of_le (hO.ge p hp))) (by first|omega|(unfold maxLen;omega)) (by simp only [Tryz.t3];omega) (fun Rv n42 I2 OI acu Sv sX=>?_);refine J3 ?_;refine aK (dn,NI,os++ [v.who],Rv,n42,I2,OI,WV) ?_ ?_
   · have H4:al=true:=(by simpa using h4);have hc8:=hG.c H4;rw [List.length_cons] at hc8;exact⟨hG.A0 RV (by rw [H4,if_pos rfl];omega),by rw [List.length_append,List.length_singleton];omega,Sv,by rw [Ap];exact Cr,ak vH pb⟩
   · (dsimp only;omega)
  refine gz ?_;refine cU Tryz.func172 rfl (fun w hm hc hg=>oH dn.length w MB om (Nat.le_trans cb hc.size) om om (hm.pick (c7 b (Cy p x os) bI nh aG bR nw aO bl mh mw ml))) MB.bX (ao vH) ?_;rintro u40 WV ⟨rfl,Cr⟩ pb;rw [Ux,zV] at Cr;rw [Ux];rw [show (eD v).p=p from RV] at Cr;refine LM.single Tryz.underlying26 Tryz.sizeOf3 Tryz.zeroValue3 rfl rfl rfl rfl rfl (fun b41 aeY=>?_);refine LM.app (a:=v.who) Tryz.underlying26 Tryz.typeInfo3 rfl rfl rfl rfl rfl rfl rfl aA (by rfl) ir (by intro _ u hu;simp [fI] at hu;(repeat (first|(rcases hu with rfl|hu)|subst hu|rfl))) (by first|exact Nat.le_refl _|omega) (fun p hp bB=>absurd bB (Nat.not_lt_of_le (hO.ge p hp))) (by first|omega|(unfold maxLen;omega)) (by simp only [Tryz.t3];omega) (fun Rv n42 I2 OI acu Sv sX=>?_);refine J3 ?_;refine aK (dn,NI,os++ [v.who],Rv,n42,I2,OI,WV) ?_ ?_
  · exact⟨hG.A0 RV (by have:os.length=0:=om;rw [this];cases al<;>decide),by rw [List.length_append,List.length_singleton];omega,Sv,by rw [Ap];exact Cr,ak vH pb⟩
  · (dsimp only;omega)
 refine cL ?_;refine qL Tryz.results145 rfl fun w' aq ab aI=>?_;have hrs:rs=[] :=(by apply List.eq_nil_of_length_eq_zero;omega);subst hrs;obtain ⟨hf1,hf2⟩:=hG.fin;subst hf2;refine aZ (m':=mo++c7 b (Cy p x (cQ x p (if al then 8 else 1))) bI nh aG bR nw aO bl mh mw ml) ⟨mo,_,hO.mono hk,rfl,?_⟩ aq aX ab (bZ (fun p hp=> .inl (hO.ge p hp)) vH);rw [O9,←hf1,eU];rw [List.append_nil] at MB;unfold Cy at MB ⊢;rw [lK] at MB ⊢;exact MB
theorem Sl.Xh {α:Type} {f:α→List Value} {E s n0 b:Nat} (a:α) (hb:n0≤b) (hf:(f a).length=s):Sl f E s n0 [a] (.slice (some ⟨b,0,none⟩) 1 1) [(b,.cells (f a).toArray E (0,0))] :=
  .inr ⟨b,1,[],hb,rfl,by simp [arr],Nat.le_refl _,by decide,by rw [List.length_singleton,Nat.one_mul];rfl⟩
theorem ly (L:List Wt):(L.map eD).map (·.p)=L.map (·.key):=by rw [List.map_map];rfl
theorem rK (L:List Wt) (t:Int):(L.map eD).any (fun h=>decide (h.t=t))=L.any (fun w=>decide (w.who=t)):=by rw [List.any_map];rfl
theorem Ey (L:List Wt) (p:Int):(L.map eD).any (fun h=>decide (h.p=p))=L.any (fun w=>decide (w.key=p)):=by rw [List.any_map];rfl
theorem EX (L:List Wt) (p:Int):decide (uM L p=0)= !(L.any (fun w=>decide (w.key=p))):=by
  by_cases c:uM L p=0
  · rw [decide_eq_true c]
    have:LF L p=[] :=List.eq_nil_of_length_eq_zero c
    have h2:L.any (fun w=>decide (w.key=p))=false:=by
      rw [List.any_eq_false];intro w hw q;have:=uy.2 ⟨hw,of_decide_eq_true q⟩;rw [‹LF L p=[]›] at this;cases this
    rw [h2];rfl
  · rw [decide_eq_false c]
    have h2:L.any (fun w=>decide (w.key=p))=true:=by
      rw [List.any_eq_true];cases hl:LF L p with
      |nil=>exfalso;apply c;unfold uM;rw [hl];rfl
      |cons w l=>
        have:w∈LF L p:=by rw [hl];exact List.mem_cons_self ..
        have:=uy.1 this;exact⟨w,this.1,decide_eq_true this.2⟩
    rw [h2];rfl
theorem Ag {x:aY} (h:pg x) (hs:x.sh=true) (h0:0<x.ho.length):(!(x.ho.any (fun g=>decide (g.p=1))))=decide ((x.ho.getD 0 default).p=0):=by
  have jl:∀g∈x.ho,g.p=0∨g.p=1:=fun g hg=>by
    obtain ⟨i,hi,fp⟩:=v9 (h.hk g hg);rw [h.l2 hs] at fp;omega
  cases hx:x.ho with
  |nil=>rw [hx] at h0;cases h0
  |cons a l=>
    show _=decide (a.p=0)
    have ha:a∈x.ho:=by rw [hx];exact List.mem_cons_self ..
    by_cases c:a.p=0
    · rw [decide_eq_true c]
      have:(a::l).any (fun g=>decide (g.p=1))=false:=by
        rw [List.any_eq_false];intro g hg q;have q2:=of_decide_eq_true q;rcases h.rd hs with r|r
        · have:=r g (by rw [hx];exact hg);omega
        · rw [hx] at r;have hl:l=[] :=List.eq_nil_of_length_eq_zero (by simp at r;simp [r])
          subst hl;rcases List.mem_singleton.1 hg with rfl;omega
      rw [this];rfl
    · rw [decide_eq_false c]
      have:a.p=1:=by rcases jl a ha with q|q;exact absurd q c;exact q
      rw [List.any_cons,decide_eq_true this];rfl
theorem Oy {x:aY} (h:pg x) (p:Int):(o3 x.ld p&&(decide (x.ho.length=0)||(x.sh&&decide (p=0)&& !(x.ho.any (fun h=>decide (h.p=1)))&&(!((x.wt.map eD).any (fun h=>decide (h.p=1)))||x6 x.tr x.sl 0))))=gm x p:=by
  unfold gm kT
  rw [Ey,EX]
  by_cases c0:x.ho.length=0
  · rw [decide_eq_true c0];simp
  · rw [decide_eq_false c0,decide_eq_true (show 0<x.ho.length by omega)]
    cases hs:x.sh with
    |false=>simp
    |true=>
      rw [Ag h hs om];cases o3 x.ld p<;>cases decide (p=0)<;>cases decide ((x.ho.getD 0 default).p=0)<;>simp
theorem sC {n0 b:Nat} {x:aY} {m:aa} (p:Int) (w:World) (hv:pg x) (h:gE n0 b x (x.wt.map eD) m) (hM:Mem w m):
    aJ Tryz.prog 170 #[.pointer (some ⟨b,0,none⟩),.int .i64 p] w (fun u w'=>u= .bool (gm x p)∧Ext w w'):=by
  have h1:=zg p w h hM;rw [Oy hv] at h1;exact h1
def FR (x:aY):Bool:=x.sh&& !(x.ho.any (fun g=>decide (g.p=1)))&& !(x.wt.any (fun w=>decide (w.key=1)))
def xk (x:aY):List Int:=if x.wt.length=0 then [] else if x.ho.length=0 then iN x else if FR x=true then cQ x 0 8 else []
def vT (x:aY):aY:=if x.wt.length=0 then x else if x.ho.length=0 then kb x else if FR x=true then lX x 0 8 else x
theorem tQ {x:aY} (h:¬x.wt.length=0):iN x=cQ (dp x) (dp x).tr.p (mC x)∧kb x=lX (dp x) (dp x).tr.p (mC x):=⟨if_neg h,if_neg h⟩
theorem Bl (x:aY):mC x=if (x.sh&&decide ((dp x).tr.p=0))=true then 8 else 1:=by
  unfold mC;congr 1;simp
theorem xI {n0 b k:Nat} {x:aY} {m:aa} (w:World) (hv:pg x) (h:gE n0 b x (x.wt.map eD) m) (cb:n0≤w.heap.size) (hx:x.ho.length≤900) (hk:k≤w.heap.size) (hM:Mem w m):aJ Tryz.prog 100 #[.pointer (some ⟨b,0,none⟩)] w (eF m (RdT n0 b k (xk x) (vT x)) w):=by
 have nj:=h;obtain ⟨bI,nh,aG,bR,nw,aO,bl,mh,mw,ml,rfl,iO,jN,eW,gh,ko,hb⟩:=h;have OJ:(x.wt.map eD).length=x.wt.length:=List.length_map ..;refine aJ.au Tryz.func100 rfl Tryz.ntmps100 rfl (dB b x.sh x.sl bI nh aG bR nw aO x.tr bl x.di::(mh++(mw++(ml++ [])))) ((fQ (c7 b x bI nh aG bR nw aO bl mh mw ml))) aM ?_;refine ET ?_;refine af.aj rfl (fun h1=>?_) (fun h1=>?_)
 ·refine J7 ?_;refine qL Tryz.results100 rfl fun w' aq ab aI=>?_;have hz:x.wt.length=0:=om;rw [show xk x=[] from if_pos hz,show vT x=x from if_pos hz];exact aZ (m':=c7 b x bI nh aG bR nw aO bl mh mw ml) ⟨[],_,Sl.nil _ _ _ _,rfl,nj⟩ aq aX ab (ay _ _)
 refine gz ?_;refine af.aj rfl (fun h2=>?_) (fun h2=>?_)
 ·refine J6 ?_;refine cE Tryz.func114 rfl (fun w hm hc hg=>sj 0#64 w jN (gh.k8 ir hm) gh.len.2.1) ?_
  generalize Fh:List.foldl c9 0#64 (List.map (fun h=>h.p) (List.map eD x.wt))=s1;have ss:s1=gj x:=(by rw [←Fh];unfold gj jP;rw [←ly]);subst ss
  refine J4 ?_;refine af.draw [(0,0),(1,0),(2,0),(3,0),(4,1),(5,0),(6,0),(7,0),(8,1),(9,0),(10,0),(11,0),(12,0),(13,1),(14,0),(15,2),(16,2),(17,0),(18,0),(19,3)] kr kr ?_;refine J4 ?_;refine LD.rd rfl rfl (pP Tryz.isAgg58 Tryz.sizeOf58 rfl (vs:=[_,_]) rfl ⟨rfl,rfl,trivial⟩) ?_;refine cf ?_;refine dE rfl rfl Tryz.func144 rfl (fun w hm hc hg=>DR _ w ko (hm.pick ml)) ?_;refine dE rfl rfl Tryz.func143 rfl (fun w hm hc hg=>Bn x.tr _ _ _ w) ?_;refine J2 ?_;refine LD.tail rfl rfl ?_;refine LM.st Tryz.sizeOf58 rfl rfl rfl ez rfl tw ?_;refine LM.mem (aT.mem (M':=dB b x.sh x.sl bI nh aG bR nw aO (dp x).tr bl x.di::(mh++(mw++(ml++ [])))) aX) ?_;refine J1 ?_;refine QM.qn ?_;refine J2 ?_;refine af.draw [(0,0),(1,0),(2,0),(3,0),(4,0),(5,1),(6,0),(7,0),(8,0),(9,1),(10,0),(11,0),(12,0),(13,0),(14,0),(15,1),(16,0),(17,0),(18,3),(19,3)] kr kr ?_;refine dA ?_;refine LD.bw (t:=50) rfl (fun h3=>?_) (fun h3=>?_)
  ·refine J7 ?_;refine LD.tail rfl rfl ?_;have hF:gE n0 b (dp x) ((dp x).wt.map eD) (dB b x.sh x.sl bI nh aG bR nw aO (dp x).tr bl x.di::(mh++(mw++ml))):=⟨bI,nh,aG,bR,nw,aO,bl,mh,mw,ml,rfl,iO,jN,eW,gh,ko,hb⟩
   refine cU Tryz.func145 rfl (fun w hm hc hg=>pW (k:=k) _ _ w hF hv.wd hv.w8 (Nat.le_trans cb hc.size) hx (Nat.le_trans hk hc.size) (hm.pick (dB b x.sh x.sl bI nh aG bR nw aO (dp x).tr bl x.di::(mh++(mw++ml))))) hF.bX (fun q hq _=>DZ q hq rfl) ?_;rintro Z6 Up ⟨Lw,BP,Uk,rfl,Tc⟩ qd;refine J2 ?_;refine QM.qn ?_;refine J3 ?_;refine qL Tryz.results100 rfl fun w' aq ab aI=>?_;have hz:¬x.wt.length=0:=om;have h0:x.ho.length=0:=om;have e1:xk x=iN x:=(by unfold xk;rw [if_neg hz,if_pos h0]);have e2:vT x=kb x:=(by unfold vT;rw [if_neg hz,if_pos h0]);rw [e1,e2,(tQ hz).1,(tQ hz).2,Bl,h3,Bool.true_and];exact aZ (m':=Lw++BP) ⟨Lw,BP,Uk,rfl,Tc⟩ aq aX ab (K9 qd rfl)
  refine J7 ?_;refine LD.tail rfl rfl ?_;have hF:gE n0 b (dp x) ((dp x).wt.map eD) (dB b x.sh x.sl bI nh aG bR nw aO (dp x).tr bl x.di::(mh++(mw++ml))):=⟨bI,nh,aG,bR,nw,aO,bl,mh,mw,ml,rfl,iO,jN,eW,gh,ko,hb⟩
  refine cU Tryz.func145 rfl (fun w hm hc hg=>pW (k:=k) _ _ w hF hv.wd hv.w8 (Nat.le_trans cb hc.size) hx (Nat.le_trans hk hc.size) (hm.pick (dB b x.sh x.sl bI nh aG bR nw aO (dp x).tr bl x.di::(mh++(mw++ml))))) hF.bX (fun q hq _=>DZ q hq rfl) ?_;rintro Z6 Up ⟨Lw,BP,Uk,rfl,Tc⟩ qd;refine J2 ?_;refine QM.qn ?_;refine J3 ?_;refine qL Tryz.results100 rfl fun w' aq ab aI=>?_;have hz:¬x.wt.length=0:=om;have h0:x.ho.length=0:=om;have e1:xk x=iN x:=(by unfold xk;rw [if_neg hz,if_pos h0]);have e2:vT x=kb x:=(by unfold vT;rw [if_neg hz,if_pos h0]);rw [e1,e2,(tQ hz).1,(tQ hz).2,Bl,h3,Bool.false_and];exact aZ (m':=Lw++BP) ⟨Lw,BP,Uk,rfl,Tc⟩ aq aX ab (K9 qd rfl)
 refine cf ?_;refine LM.bw (t:=63) rfl (fun h4=>?_) (fun h4=>?_)
 ·refine J6 ?_;refine cE Tryz.func146 rfl (fun w hm hc hg=>lP 1 w iO (eW.k8 ir hm) eW.len.2.1) ?_;refine J3 ?_;refine LM.bw (t:=71) rfl (fun h5=>?_) (fun h5=>?_)
  ·refine J6 ?_;refine cE Tryz.func146 rfl (fun w hm hc hg=>lP 1 w jN (gh.k8 ir hm) gh.len.2.1) ?_;refine J4 ?_;refine af.aW rfl (fun h6=>?_) (fun h6=>?_)
   ·refine J3 ?_;refine cU Tryz.func145 rfl (fun w hm hc hg=>pW (k:=k) 0 true w nj hv.wd hv.w8 (Nat.le_trans cb hc.size) hx (Nat.le_trans hk hc.size) (hm.pick (c7 b x bI nh aG bR nw aO bl mh mw ml))) nj.bX (fun q hq _=>⟨q,hq,rfl⟩) ?_;rintro u80 m80 ⟨W8,XS,abq,rfl,h80⟩ PZ;refine J5 ?_;refine qL Tryz.results100 rfl fun w' aq ab aI=>?_;have hn:FR x=true:=(by unfold FR;rw [←Ey,h4,h5,h6];rfl);have hz:¬x.wt.length=0:=om;have h0:¬x.ho.length=0:=om;have e1:xk x=cQ x 0 8:=(by unfold xk;rw [if_neg hz,if_neg h0,if_pos hn]);have e2:vT x=lX x 0 8:=(by unfold vT;rw [if_neg hz,if_neg h0,if_pos hn]);rw [e1,e2];exact aZ (m':=W8++XS) ⟨W8,XS,abq,rfl,h80⟩ aq aX ab PZ
   refine J8 ?_;refine qL Tryz.results100 rfl fun w' aq ab aI=>?_;have hn:FR x=false:=(by unfold FR;rw [←Ey,h6];simp);have hz:¬x.wt.length=0:=om;have h0:¬x.ho.length=0:=om;have e1:xk x=[] :=(by unfold xk;rw [if_neg hz,if_neg h0,if_neg (by rw [hn];simp)]);have e2:vT x=x:=(by unfold vT;rw [if_neg hz,if_neg h0,if_neg (by rw [hn];simp)]);rw [e1,e2];exact aZ (m':=c7 b x bI nh aG bR nw aO bl mh mw ml) ⟨[],_,Sl.nil _ _ _ _,rfl,nj⟩ aq aX ab (ay _ _)
  refine Ft ?_;refine qL Tryz.results100 rfl fun w' aq ab aI=>?_;have hn:FR x=false:=(by unfold FR;rw [h5];simp);have hz:¬x.wt.length=0:=om;have h0:¬x.ho.length=0:=om;have e1:xk x=[] :=(by unfold xk;rw [if_neg hz,if_neg h0,if_neg (by rw [hn];simp)]);have e2:vT x=x:=(by unfold vT;rw [if_neg hz,if_neg h0,if_neg (by rw [hn];simp)]);rw [e1,e2];exact aZ (m':=c7 b x bI nh aG bR nw aO bl mh mw ml) ⟨[],_,Sl.nil _ _ _ _,rfl,nj⟩ aq aX ab (ay _ _)
 refine U4 ?_;refine qL Tryz.results100 rfl fun w' aq ab aI=>?_;have hn:FR x=false:=(by unfold FR;rw [h4];simp);have hz:¬x.wt.length=0:=om;have h0:¬x.ho.length=0:=om;have e1:xk x=[] :=(by unfold xk;rw [if_neg hz,if_neg h0,if_neg (by rw [hn];simp)]);have e2:vT x=x:=(by unfold vT;rw [if_neg hz,if_neg h0,if_neg (by rw [hn];simp)]);rw [e1,e2];exact aZ (m':=c7 b x bI nh aG bR nw aO bl mh mw ml) ⟨[],_,Sl.nil _ _ _ _,rfl,nj⟩ aq aX ab (ay _ _)
theorem Fc (x:aY) (t p:Int):(cD x t p).wt=x.wt:=by
  unfold cD;split
  · rfl
  · show (bT x p).wt=x.wt;exact(eJ x p).2.2.1
theorem BY {n0 b:Nat} {x:aY} {m:aa} (t p:Int) (w:World) (hv:pg x) (h:gE n0 b x (x.wt.map eD) m) (cb:n0≤w.heap.size) (hx:x.ho.length≤900) (hM:Mem w m):aJ Tryz.prog 138 #[.pointer (some ⟨b,0,none⟩),.int .i64 t,.int .i64 p] w (eF m (fun u m'=>u= .int .i64 (cZ x t p)∧gE n0 b (cD x t p) ((cD x t p).wt.map eD) m') w):=by
 have nj:=h;obtain ⟨bI,nh,aG,bR,nw,aO,bl,mh,mw,ml,rfl,iO,jN,eW,gh,ko,hb⟩:=h;have OJ:(x.wt.map eD).length=x.wt.length:=List.length_map ..;have hw8:=hv.w8;refine aJ.au Tryz.func138 rfl Tryz.ntmps138 rfl (dB b x.sh x.sl bI nh aG bR nw aO x.tr bl x.di::(mh++(mw++(ml++ [])))) ((fQ (c7 b x bI nh aG bR nw aO bl mh mw ml))) aM ?_;refine cf ?_;refine cE Tryz.func169 rfl (fun w hm hc hg=>vu t p w nj (rK _ _) (hm.pick (c7 b x bI nh aG bR nw aO bl mh mw ml))) ?_;refine cf ?_;refine af.aj rfl (fun h1=>?_) (fun h1=>?_)
 ·refine J8 ?_;refine qL Tryz.results138 rfl fun w' aq ab aI=>?_;have e1:cZ x t p=cz x t p:=if_pos (by simpa using h1);have e2:cD x t p=x:=if_pos (by rw [e1];simpa using h1);rw [e1,e2];exact aZ (m':=c7 b x bI nh aG bR nw aO bl mh mw ml) ⟨rfl,nj⟩ aq aX ab (ay _ _)
 refine J7 ?_;refine cE Tryz.func170 rfl (fun w hm hc hg=>sC p w hv nj (hm.pick (c7 b x bI nh aG bR nw aO bl mh mw ml))) ?_;refine J3 ?_;refine af.aW rfl (fun h2=>?_) (fun h2=>?_)
 ·refine J7 ?_;refine qL Tryz.results138 rfl fun w' aq ab aI=>?_;have k1:cz x t p=0:=(by simpa using h1);have k2:¬gm x p=true:=(by simpa using h2);have e1:cZ x t p=8:=(by unfold cZ;rw [if_neg (by rw [k1];simp),if_neg k2]);have e2:cD x t p=x:=if_pos (by rw [e1];decide);rw [e1,e2];exact aZ (m':=c7 b x bI nh aG bR nw aO bl mh mw ml) ⟨rfl,nj⟩ aq aX ab (ay _ _)
 refine J4 ?_;refine af.draw [(0,0),(1,0),(2,0),(3,1),(4,0),(5,0),(6,0),(7,0),(8,0),(9,0),(10,1),(11,0),(12,0),(13,0),(14,1),(15,0),(16,2),(17,0),(18,0)] kr kr ?_;refine J7 ?_;refine LD.ar (t:=25) rfl (fun h3=>?_) (fun h3=>?_)
 ·refine J3 ?_;refine LD.rd rfl ⟨25,_,rfl,rfl,rfl⟩ (pP Tryz.isAgg58 Tryz.sizeOf58 rfl (vs:=[_,_]) rfl ⟨rfl,rfl,trivial⟩) ?_;refine J5 ?_;refine dE rfl ⟨25,_,rfl,rfl,rfl⟩ Tryz.func171 rfl (fun w hm hc hg=>pT x.tr _ _ w) ?_;refine J4 ?_;refine af.bH (α:=vR) (fun tr=>[]) [(0,_),(1,_),(2,_)] (fun tr=>dB b x.sh x.sl bI nh aG bR nw aO tr bl x.di::(mh++(mw++(ml++ [])))) (fun tr=> {x with tr:=tr} =bT x p) cm ?_ ?_
  ·refine af.aW rfl (fun h4=>?_) (fun h4=>?_)
   ·refine J3 ?_;refine LM.val (aD (cs:=#[.int .i64 p,.int .i64 0]) rfl kr) ?_;refine J2 ?_;refine LM.st Tryz.sizeOf58 rfl rfl rfl ez rfl tw ?_;refine J1 ?_;refine mK ((⟨p,0⟩:vR)) ?_
    · exact(if_pos ⟨by omega,by simpa using h4⟩).symm
   refine J1 ?_;refine mK (x.tr) ?_
   · exact(if_neg (fun q=>by rw [q.2] at h4;cases h4)).symm
  rintro tr Od;change QM _ _ _ _ _ (dB b x.sh x.sl bI nh aG bR nw aO tr bl x.di::(mh++(mw++(ml++ [])))) _ _ _;refine J6 ?_;refine LM.val (aD (cs:=#[.int .i64 t,.int .i64 p,.bool false]) rfl kr) ?_;refine LM.single Tryz.underlying56 Tryz.sizeOf68 Tryz.zeroValue68 rfl rfl rfl rfl rfl (fun Ni Rb=>?_);refine LM.mem (aT.mem (M':=(Ni,.cells (sI (⟨t,p,false⟩:Hd)).toArray 68 (0,0))::dB b x.sh x.sl bI nh aG bR nw aO tr bl x.di::(mh++(mw++(ml++ [])))) aX) ?_;have K0:Sl sI 68 3 w.heap.size [(⟨t,p,false⟩:Hd)] (.slice (some ⟨Ni,0,none⟩) 1 1) [(Ni,.cells (sI (⟨t,p,false⟩:Hd)).toArray 68 (0,0))] :=Sl.Xh _ Rb rfl;refine J4 ?_;refine LM.rC (ys:=x.wt.map eD) (m:=[(Ni,.cells (sI (⟨t,p,false⟩:Hd)).toArray 68 (0,0))]) Tryz.underlying56 Tryz.typeInfo68 rfl rfl rfl rfl rfl rfl rfl K0 (fun w hm hc hg=>gh.k8 ir hm) ir (by intro _ u hu;simp [sI] at hu;(repeat (first|(rcases hu with rfl|hu)|subst hu|rfl))) (Nat.le_refl _) (fun p hp bB=>absurd bB (Nat.not_lt_of_le (Sl.ge K0 p hp))) (by unfold maxLen;simp only [List.length_singleton];omega) (by simp only [Tryz.t68,List.length_singleton];omega) (fun rb Df ka Co L1 C4 Fb=>?_);refine J2 ?_;refine LM.st Tryz.sizeOf56 rfl rfl rfl ez rfl tw ?_;refine LM.mem (aT.mem (M':=dB b x.sh x.sl bI nh aG rb Df ka tr bl x.di::(mh++(Co++(ml++ [])))) aX) ?_;refine J4 ?_;have hF:gE n0 b (bT x p) (⟨t,p,false⟩::x.wt.map eD) (dB b x.sh x.sl bI nh aG rb Df ka tr bl x.di::(mh++(Co++ml))):=(by rw [←Od];exact⟨bI,nh,aG,rb,Df,ka,bl,mh,Co,ml,rfl,iO,by rw [L1];simp only [List.length_cons,List.length_nil];omega,eW,C4.mono cb,ko,hb⟩);have gx:c6 (c7 b x bI nh aG bR nw aO bl mh mw ml) w.heap.size (dB b x.sh x.sl bI nh aG rb Df ka tr bl x.di::(mh++(Co++ml))):=fV ee (bZ zN (bZ (fun p hp=> .inl (C4.ge p hp)) zN));refine J1 ?_;refine cU Tryz.func172 rfl (fun w hm hc hg=>oH 0 w hF (by rw [List.length_cons];omega) (Nat.le_trans cb hc.size) (by rw [(eJ x p).2.1];omega) (by rw [List.length_cons];omega) (hm.pick (dB b x.sh x.sl bI nh aG rb Df ka tr bl x.di::(mh++(Co++ml))))) hF.bX (ao gx) ?_;rintro u56 wN ⟨-,Zi⟩ uF;have TS:gE n0 b (mE (bT x p) t p) (x.wt.map eD) wN:=Zi;refine J5 ?_;refine cU Tryz.func76 rfl (fun w hm hc hg=>eI w TS (by show _=(bT x p).wt.map _;rw [vN,ly]) (hm.pick wN)) Zi.bX (ao (ak gx uF)) ?_;rintro Z6 Up Tc qd;refine J8 ?_;refine qL Tryz.results138 rfl fun w' aq ab aI=>?_;have k1:cz x t p=0:=(by simpa using h1);have k2:gm x p=true:=(by simpa using h2);have e1:cZ x t p=0:=(by unfold cZ;rw [if_neg (by rw [k1];simp),if_pos k2]);have e2:cD x t p=cu (mE (bT x p) t p):=if_neg (by rw [e1];simp);rw [Fc,e1,e2];exact aZ (m':=Up) ⟨rfl,Tc⟩ aq aX ab (ak (ak gx uF) qd)
 refine lh ?_;refine af.bH (α:=vR) (fun tr=>[]) [(0,_),(1,_),(2,_)] (fun tr=>dB b x.sh x.sl bI nh aG bR nw aO tr bl x.di::(mh++(mw++(ml++ [])))) (fun tr=> {x with tr:=tr} =bT x p) cm ?_ ?_
 ·refine J2 ?_;refine mK (x.tr) ?_
  · exact(if_neg (fun q=>by omega)).symm
 rintro tr Od;change QM _ _ _ _ _ (dB b x.sh x.sl bI nh aG bR nw aO tr bl x.di::(mh++(mw++(ml++ [])))) _ _ _;refine J6 ?_;refine LM.val (aD (cs:=#[.int .i64 t,.int .i64 p,.bool false]) rfl kr) ?_;refine LM.single Tryz.underlying56 Tryz.sizeOf68 Tryz.zeroValue68 rfl rfl rfl rfl rfl (fun Ni Rb=>?_);refine LM.mem (aT.mem (M':=(Ni,.cells (sI (⟨t,p,false⟩:Hd)).toArray 68 (0,0))::dB b x.sh x.sl bI nh aG bR nw aO tr bl x.di::(mh++(mw++(ml++ [])))) aX) ?_;have K0:Sl sI 68 3 w.heap.size [(⟨t,p,false⟩:Hd)] (.slice (some ⟨Ni,0,none⟩) 1 1) [(Ni,.cells (sI (⟨t,p,false⟩:Hd)).toArray 68 (0,0))] :=Sl.Xh _ Rb rfl;refine J4 ?_;refine LM.rC (ys:=x.wt.map eD) (m:=[(Ni,.cells (sI (⟨t,p,false⟩:Hd)).toArray 68 (0,0))]) Tryz.underlying56 Tryz.typeInfo68 rfl rfl rfl rfl rfl rfl rfl K0 (fun w hm hc hg=>gh.k8 ir hm) ir (by intro _ u hu;simp [sI] at hu;(repeat (first|(rcases hu with rfl|hu)|subst hu|rfl))) (Nat.le_refl _) (fun p hp bB=>absurd bB (Nat.not_lt_of_le (Sl.ge K0 p hp))) (by unfold maxLen;simp only [List.length_singleton];omega) (by simp only [Tryz.t68,List.length_singleton];omega) (fun rb Df ka Co L1 C4 Fb=>?_);refine J2 ?_;refine LM.st Tryz.sizeOf56 rfl rfl rfl ez rfl tw ?_;refine LM.mem (aT.mem (M':=dB b x.sh x.sl bI nh aG rb Df ka tr bl x.di::(mh++(Co++(ml++ [])))) aX) ?_;refine J4 ?_;have hF:gE n0 b (bT x p) (⟨t,p,false⟩::x.wt.map eD) (dB b x.sh x.sl bI nh aG rb Df ka tr bl x.di::(mh++(Co++ml))):=(by rw [←Od];exact⟨bI,nh,aG,rb,Df,ka,bl,mh,Co,ml,rfl,iO,by rw [L1];simp only [List.length_cons,List.length_nil];omega,eW,C4.mono cb,ko,hb⟩);have gx:c6 (c7 b x bI nh aG bR nw aO bl mh mw ml) w.heap.size (dB b x.sh x.sl bI nh aG rb Df ka tr bl x.di::(mh++(Co++ml))):=fV ee (bZ zN (bZ (fun p hp=> .inl (C4.ge p hp)) zN));refine J1 ?_;refine cU Tryz.func172 rfl (fun w hm hc hg=>oH 0 w hF (by rw [List.length_cons];omega) (Nat.le_trans cb hc.size) (by rw [(eJ x p).2.1];omega) (by rw [List.length_cons];omega) (hm.pick (dB b x.sh x.sl bI nh aG rb Df ka tr bl x.di::(mh++(Co++ml))))) hF.bX (ao gx) ?_;rintro u56 wN ⟨-,Zi⟩ uF;have TS:gE n0 b (mE (bT x p) t p) (x.wt.map eD) wN:=Zi;refine J5 ?_;refine cU Tryz.func76 rfl (fun w hm hc hg=>eI w TS (by show _=(bT x p).wt.map _;rw [vN,ly]) (hm.pick wN)) Zi.bX (ao (ak gx uF)) ?_;rintro Z6 Up Tc qd;refine J8 ?_;refine qL Tryz.results138 rfl fun w' aq ab aI=>?_;have k1:cz x t p=0:=(by simpa using h1);have k2:gm x p=true:=(by simpa using h2);have e1:cZ x t p=0:=(by unfold cZ;rw [if_neg (by rw [k1];simp),if_pos k2]);have e2:cD x t p=cu (mE (bT x p) t p):=if_neg (by rw [e1];simp);rw [Fc,e1,e2];exact aZ (m':=Up) ⟨rfl,Tc⟩ aq aX ab (ak (ak gx uF) qd)
theorem AQ {n0 b:Nat} {x:aY} {m:aa} (t p:Int) (w:World) (hv:pg x) (h:gE n0 b x (x.wt.map eD) m) (cb:n0≤w.heap.size) (hM:Mem w m):aJ Tryz.prog 141 #[.pointer (some ⟨b,0,none⟩),.int .i64 t,.int .i64 p] w (eF m (fun u m'=>u= .int .i64 (jv x t p)∧gE n0 b (dv x t p) ((dv x t p).wt.map eD) m') w):=by
 have nj:=h;obtain ⟨bI,nh,aG,bR,nw,aO,bl,mh,mw,ml,rfl,iO,jN,eW,gh,ko,hb⟩:=h;have OJ:(x.wt.map eD).length=x.wt.length:=List.length_map ..;have hw8:=hv.w8;refine aJ.au Tryz.func141 rfl Tryz.ntmps141 rfl (dB b x.sh x.sl bI nh aG bR nw aO x.tr bl x.di::(mh++(mw++(ml++ [])))) ((fQ (c7 b x bI nh aG bR nw aO bl mh mw ml))) aM ?_;refine cf ?_;refine cE Tryz.func169 rfl (fun w hm hc hg=>vu t p w nj (rK _ _) (hm.pick (c7 b x bI nh aG bR nw aO bl mh mw ml))) ?_;refine cf ?_;refine af.aj rfl (fun h1=>?_) (fun h1=>?_)
 ·refine J8 ?_;refine qL Tryz.results141 rfl fun w' aq ab aI=>?_;have e1:jv x t p=cz x t p:=if_pos (by simpa using h1);have e2:dv x t p=x:=if_pos (by rw [e1];simpa using h1);rw [e1,e2];exact aZ (m':=c7 b x bI nh aG bR nw aO bl mh mw ml) ⟨rfl,nj⟩ aq aX ab (ay _ _)
 refine J7 ?_;refine cE Tryz.func170 rfl (fun w hm hc hg=>sC p w hv nj (hm.pick (c7 b x bI nh aG bR nw aO bl mh mw ml))) ?_;refine J2 ?_;refine af.aW rfl (fun h2=>?_) (fun h2=>?_)
 ·refine J7 ?_;refine qL Tryz.results141 rfl fun w' aq ab aI=>?_;have k1:cz x t p=0:=(by simpa using h1);have e1:jv x t p=4:=(by unfold jv;rw [if_neg (by rw [k1];simp),if_pos h2]);have e2:dv x t p=x:=if_pos (by rw [e1];decide);rw [e1,e2];exact aZ (m':=c7 b x bI nh aG bR nw aO bl mh mw ml) ⟨rfl,nj⟩ aq aX ab (ay _ _)
 refine gz ?_;refine af.aj rfl (fun h3=>?_) (fun h3=>?_)
 ·refine J7 ?_;refine qL Tryz.results141 rfl fun w' aq ab aI=>?_;have k1:cz x t p=0:=(by simpa using h1);have h8:8≤x.wt.length:=om;have e1:jv x t p=3:=(by unfold jv;rw [if_neg (by rw [k1];simp),if_neg (by rw [h2];simp),if_pos h8]);have e2:dv x t p=x:=if_pos (by rw [e1];decide);rw [e1,e2];exact aZ (m':=c7 b x bI nh aG bR nw aO bl mh mw ml) ⟨rfl,nj⟩ aq aX ab (ay _ _)
 refine dA ?_;refine LM.val (aD (cs:=#[.int .i64 t,.int .i64 p,.bool false]) rfl kr) ?_;refine LM.single Tryz.underlying56 Tryz.sizeOf68 Tryz.zeroValue68 rfl rfl rfl rfl rfl (fun b32 air=>?_);refine LM.app (a:=(⟨t,p,false⟩:Hd)) Tryz.underlying56 Tryz.typeInfo68 rfl rfl rfl rfl rfl rfl rfl aA (by rfl) ir (by intro _ u hu;simp [sI] at hu;(repeat (first|(rcases hu with rfl|hu)|subst hu|rfl))) (by first|exact Nat.le_refl _|omega) (fun p hp _=>⟨p,by simp [hp],rfl⟩) (by first|omega|(unfold maxLen;omega)) (by simp only [Tryz.t68];omega) (fun JB V8 B7 QD aks adV Wr=>?_);refine J2 ?_;refine LM.st Tryz.sizeOf56 rfl rfl rfl ez rfl tw ?_;refine LM.mem (aT.mem (M':=dB b x.sh x.sl bI nh aG JB V8 B7 x.tr bl x.di::(mh++(QD++(ml++ [])))) aX) ?_;refine J4 ?_;have Cr:gE n0 b {x with wt:=x.wt++ [⟨t,p,0#64⟩] } ((x.wt++ [(⟨t,p,0#64⟩:Wt)]).map eD) (dB b x.sh x.sl bI nh aG JB V8 B7 x.tr bl x.di::(mh++(QD++ml))):=⟨bI,nh,aG,JB,V8,B7,bl,mh,QD,ml,rfl,iO,by rw [List.length_map,List.length_append,List.length_singleton];omega,eW,by rw [List.map_append];exact adV,ko,hb⟩;have pb:c6 (c7 b x bI nh aG bR nw aO bl mh mw ml) w.heap.size (dB b x.sh x.sl bI nh aG JB V8 B7 x.tr bl x.di::(mh++(QD++ml))):=fV ee (bZ zN (bZ (r5 Wr (fun p hp=>by simp [hp])) zN));refine J1 ?_;refine cU Tryz.func76 rfl (fun w hm hc hg=>eI w Cr (ly _) (hm.pick (dB b x.sh x.sl bI nh aG JB V8 B7 x.tr bl x.di::(mh++(QD++ml))))) Cr.bX (ao pb) ?_;rintro u37 Pj h37 vg;refine J8 ?_;refine qL Tryz.results141 rfl fun w' aq ab aI=>?_;have k1:cz x t p=0:=(by simpa using h1);have h8:¬8≤x.wt.length:=om;have e1:jv x t p=0:=(by unfold jv;rw [if_neg (by rw [k1];simp),if_neg (by rw [h2];simp),if_neg h8]);have e2:dv x t p=cu {x with wt:=x.wt++ [⟨t,p,0#64⟩] } :=if_neg (by rw [e1];simp);rw [e1,e2];exact aZ (m':=Pj) ⟨rfl,h37⟩ aq aX ab (ak pb vg)
def UnD (n0 b k:Nat) (l:List Int) (y:Value) (x:aY) (u:Value) (m:aa):Prop:=∃v mr mx,u= .tuple #[v,y]∧Sl fI 3 1 k l v mr∧m=mr++mx∧gE n0 b x (x.wt.map eD) mx
theorem AL {y:aY} (h:y.ho.length=0):xk y=iN y∧vT y=kb y:=by
  unfold xk vT
  by_cases c:y.wt.length=0
  · rw [if_pos c,if_pos c];exact⟨(if_pos c).symm,(if_pos c).symm⟩
  · rw [if_neg c,if_neg c,if_pos h,if_pos h]
    exact⟨rfl,rfl⟩
theorem Kw {y:aY} (h:y.wt.length=0) (p:Int) (n:Nat):cQ y p n=[]∧lX y p n=y:=by
  have hw:=List.eq_nil_of_length_eq_zero h;have e:cQ y p n=[] :=by unfold cQ;rw [hw];show (List.take n []).map _=[];rw [List.take_nil];rfl
  refine ⟨e,?_⟩
  unfold lX;rw [e];rfl
theorem XA {x:aY} {t:Int} (h:k9 x) (hw:bY x t=true):pd x t=xk (cV x t)∧fx x t=cu (vT (cV x t)):=by
  have eb:x.ho.length≠0:=fun q=>by
    have:=h.em q
    unfold bY at hw
    rw [List.eq_nil_of_length_eq_zero this] at hw;cases hw
  have fM:FR (cV x t)=(kT x&&decide (uM (cV x t).wt 1=0)):=by
    rw [EX];unfold FR kT
    show (x.sh&&_&&_)=_
    cases hs:x.sh with
    |false=>rfl
    |true=>
      have:=Ag h.topg hs om;rw [decide_eq_true (show 0<x.ho.length by omega)]
      show (true&& !(x.ho.any _)&&_)=_
      rw [this];rfl
  by_cases c:kT x=true∧uM (cV x t).wt 1=0
  · obtain ⟨e1,e2⟩:=X4 hw c
    rw [e1,e2]
    by_cases cw:(cV x t).wt.length=0
    · obtain ⟨a1,a2⟩:=Kw cw 0 8
      rw [a1,a2];unfold xk vT;rw [if_pos cw,if_pos cw];exact⟨rfl,rfl⟩
    · have hn:FR (cV x t)=true:=by rw [fM,c.1,decide_eq_true c.2];rfl
      unfold xk vT
      rw [if_neg cw,if_neg cw,if_neg (show¬(cV x t).ho.length=0 from eb),if_neg (show¬(cV x t).ho.length=0 from eb),if_pos hn,if_pos hn];exact⟨rfl,rfl⟩
  · obtain ⟨e1,e2⟩:=Rg hw c
    rw [e1,e2]
    have hn:¬FR (cV x t)=true:=by
      rw [fM];intro q;simp only [Bool.and_eq_true,decide_eq_true_eq] at q;exact c q
    unfold xk vT
    by_cases cw:(cV x t).wt.length=0
    · rw [if_pos cw,if_pos cw];exact⟨rfl,rfl⟩
    · rw [if_neg cw,if_neg cw,if_neg (show¬(cV x t).ho.length=0 from eb),if_neg (show¬(cV x t).ho.length=0 from eb),if_neg hn,if_neg hn];exact⟨rfl,rfl⟩
theorem TH (x:aY) (t:Int) (h:bd x t=true):ej x t=cu (if (eY x t).ho.length=0 then vT (eY x t) else eY x t):=by
  unfold ej;rw [if_pos h]
  by_cases c:(eY x t).ho.length=0
  · rw [if_pos c,if_pos c,(AL c).2]
  · rw [if_neg c,if_neg c]
theorem Tz {L:List Wt} {t:Int} (h:mR (L.map eD) t<0):L.any (fun w=>decide (w.who=t))=false:=by
  unfold mR jJ at h
  rw [←rK];cases c:(L.map eD).any (fun h=>decide (h.t=t)) with
  |false=>rfl
  |true=>rw [c] at h;simp at h;omega
theorem Pb {L:List Wt} {t:Int} (hw:wC L) (h:¬mR (L.map eD) t<0):L.any (fun w=>decide (w.who=t))=true∧∃i:Nat,mR (L.map eD) t=(i:Int)∧i<L.length∧L.eraseIdx i=CB L t:=by
  have hc:(L.map eD).any (fun h=>decide (h.t=t))=true:=by
    cases c:(L.map eD).any (fun h=>decide (h.t=t)) with
    |true=>rfl
    |false=>exfalso;apply h;unfold mR jJ;rw [c];simp
  have h1:(L.map eD).findIdx (fun h=>decide (h.t=t))<(L.map eD).length:=List.findIdx_lt_length.2 (by rw [List.any_eq_true] at hc;exact hc);have h2:=List.findIdx_getElem (w:=h1);have h0:mR (L.map eD) t=((L.map eD).findIdx (fun h=>decide (h.t=t)):Nat):=by unfold mR jJ;exact if_pos hc
  have h3:(L.map eD).findIdx (fun h=>decide (h.t=t))<L.length:=by rw [List.length_map] at h1;exact h1
  refine ⟨by rw [←rK];exact hc,_,h0,h3,?_⟩;rw [List.getElem_map] at h2;have h4:(L[(L.map eD).findIdx (fun h=>decide (h.t=t))]).who=t:=of_decide_eq_true h2;have h5:=Av hw (List.getElem?_eq_getElem h3);rw [h4] at h5;exact h5.symm
theorem xV {α β:Type} (f:α→β):∀(l:List α) (i:Nat),(l.map f).eraseIdx i=(l.eraseIdx i).map f
  | [],i=>rfl
  |a::l,0=>rfl
  |a::l,i+1=>by show f a::(l.map f).eraseIdx i=f a::(l.eraseIdx i).map f;rw [xV f l i]
theorem vZ {n0 b k:Nat} {x:aY} {m:aa} (t:Int) (w:World) (hv:pg x) (h:gE n0 b x (x.wt.map eD) m) (cb:n0≤w.heap.size) (hx:x.ho.length≤900) (hk:k≤w.heap.size) (hM:Mem w m):aJ Tryz.prog 98 #[.pointer (some ⟨b,0,none⟩),.int .i64 t] w (eF m (UnD n0 b k (dY x t) (.int .i64 (mL x t)) (ej x t)) w):=by
 have nj:=h;obtain ⟨bI,nh,aG,bR,nw,aO,bl,mh,mw,ml,rfl,iO,jN,eW,gh,ko,hb⟩:=h;refine aJ.au Tryz.func98 rfl Tryz.ntmps98 rfl (dB b x.sh x.sl bI nh aG bR nw aO x.tr bl x.di::(mh++(mw++(ml++ [])))) ((fQ (c7 b x bI nh aG bR nw aO bl mh mw ml))) aM ?_;refine gz ?_;refine cE Tryz.func39 rfl (fun w hm hc hg=>kS t w iO (eW.k8 ir hm) eW.len.2.1) ?_;refine cf ?_;refine af.aj rfl (fun h1=>?_) (fun h1=>?_)
 ·have xc:bd x t=false:=(by rw [←oo];exact decide_eq_false om)
  refine J8 ?_;refine QM.leave (.inl rfl) [.tmp 4,.tmp 5] Tryz.results98 rfl ?_;intro w' aq ab aI;have e1:dY x t=[] :=if_neg (fun q=>by rw [xc] at q;cases q.1);have e2:ej x t=x:=if_neg (by rw [xc];simp);have e3:mL x t=7:=if_neg (by rw [xc];simp);rw [e1,e2,e3];exact aZ (m':=c7 b x bI nh aG bR nw aO bl mh mw ml) ⟨_,[],_,rfl,Sl.nil _ _ _ _,rfl,nj⟩ aq aX ab (ay _ _)
 have xc:bd x t=true:=(by rw [←oo];exact decide_eq_true om);have Ri:=(pU xc).1;have Ec:=(pU xc).2.1;rw [Ri];have Nv:=Ib xc;refine cf ?_;refine LM.cS (oC Tryz.func99) (fun w hm hc hg=>pI (ff x.ho t) w iO (eW.k8 ir hm) Ec om) (fun tA Hw mG H3 Le yr=>?_);refine J2 ?_;refine LM.st Tryz.sizeOf56 rfl rfl rfl ez rfl tw ?_;refine LM.mem (aT.mem (M':=dB b x.sh x.sl tA Hw mG bR nw aO x.tr bl x.di::(H3++(mw++(ml++ [])))) aX) ?_;refine cf ?_;have hF:gE n0 b (eY x t) ((eY x t).wt.map eD) (dB b x.sh x.sl tA Hw mG bR nw aO x.tr bl x.di::(H3++(mw++ml))):=⟨tA,Hw,mG,bR,nw,aO,bl,H3,mw,ml,rfl,Le,jN,yr.mono cb,gh,ko,hb⟩;have gx:c6 (c7 b x bI nh aG bR nw aO bl mh mw ml) w.heap.size (dB b x.sh x.sl tA Hw mG bR nw aO x.tr bl x.di::(H3++(mw++ml))):=fV ee (bZ (fun p hp=> .inl (yr.ge p hp)) (bZ zN zN));have agN:Hw=(eY x t).ho.length:=Le;refine J8 ?_;refine af.bH (α:=Value×aa×aa×aY) (fun ⟨v,mr,mx,y⟩=>[(7,v)]) [(0,_)] (fun ⟨v,mr,mx,y⟩=>mr++(mx++ [])) (fun ⟨v,mr,mx,y⟩=>Sl fI 3 1 k (dY x t) v mr∧gE n0 b y (y.wt.map eD) mx∧c6 (c7 b x bI nh aG bR nw aO bl mh mw ml) w.heap.size (mr++mx)∧y=if (eY x t).ho.length=0 then vT (eY x t) else eY x t) cm ?_ ?_
 ·refine af.aj rfl (fun h2=>?_) (fun h2=>?_)
  ·refine J2 ?_;refine cU Tryz.func100 rfl (fun w hm hc hg=>xI (k:=k) w (hv.out t) hF (Nat.le_trans cb hc.size) om (Nat.le_trans hk hc.size) (hm.pick (dB b x.sh x.sl tA Hw mG bR nw aO x.tr bl x.di::(H3++(mw++ml))))) hF.bX (ao gx) ?_;rintro u32 m32 ⟨adj,abt,abR,rfl,h32⟩ Xn;refine J2 ?_;refine mK (u32,adj,abt,vT (eY x t)) ?_
   · have hz:(eY x t).ho.length=0:=om;exact⟨by rw [OO xc hz,←(AL hz).1];exact abR,h32,ak gx Xn,(if_pos hz).symm⟩
  refine J1 ?_;refine mK (.slice none 0 0,[],dB b x.sh x.sl tA Hw mG bR nw aO x.tr bl x.di::(H3++(mw++ml)),eY x t) ?_
  · have hz:¬(eY x t).ho.length=0:=om;exact⟨by rw [Uj hz];exact Sl.nil _ _ _ _,hF,gx,(if_neg hz).symm⟩
 rintro ⟨v,mr,mx,y⟩ ⟨Vf,hL,vH,hy⟩;change QM _ _ _ _ _ (mr++(mx++ [])) _ _ _;refine J4 ?_;refine cU Tryz.func76 rfl (fun w hm hc hg=>eI w hL (ly _) (hm.pick mx)) hL.bX (ao (fun p hp=>vH p (List.mem_append_right _ hp))) ?_;rintro u34 Ki QQ JT;refine cf ?_;refine QM.leave (.inl rfl) [.tmp 4,.tmp 5] Tryz.results98 rfl ?_;intro w' aq ab aI;have e2:ej x t=cu y:=(by rw [TH _ _ xc,←hy]);have e3:mL x t=0:=if_pos xc;rw [e2,e3];exact aZ (m':=mr++Ki) ⟨_,mr,Ki,rfl,Vf,rfl,QQ⟩ aq aX ab (bZ (fun p hp=>vH p (List.mem_append_left _ hp)) (ak (fun p hp=>vH p (List.mem_append_right _ hp)) JT))
theorem rU {n0 b k:Nat} {x:aY} {m:aa} (t:Int) (w:World) (hw:k9 x) (h:gE n0 b x (x.wt.map eD) m) (cb:n0≤w.heap.size) (hx:x.ho.length≤900) (hk:k≤w.heap.size) (hM:Mem w m):aJ Tryz.prog 61 #[.pointer (some ⟨b,0,none⟩),.int .i64 t] w (eF m (UnD n0 b k (pd x t) (.bool (bY x t)) (fx x t)) w):=by
 have nj:=h;obtain ⟨bI,nh,aG,bR,nw,aO,bl,mh,mw,ml,rfl,iO,jN,eW,gh,ko,hb⟩:=h;have hv:=hw.topg;have hw8:=hv.w8;have OJ:(x.wt.map eD).length=x.wt.length:=List.length_map ..;refine aJ.au Tryz.func61 rfl Tryz.ntmps61 rfl (dB b x.sh x.sl bI nh aG bR nw aO x.tr bl x.di::(mh++(mw++(ml++ [])))) ((fQ (c7 b x bI nh aG bR nw aO bl mh mw ml))) aM ?_;refine gz ?_;refine cE Tryz.func39 rfl (fun w hm hc hg=>kS t w jN (gh.k8 ir hm) gh.len.2.1) ?_;refine cf ?_;refine af.aj rfl (fun h1=>?_) (fun h1=>?_)
 ·have CL:bY x t=false:=Tz h1;refine J8 ?_;refine QM.leave (.inl rfl) [.tmp 4,.tmp 5] Tryz.results61 rfl ?_;intro w' aq ab aI;have e:=WY CL;rw [e.1,e.2,CL];exact aZ (m':=c7 b x bI nh aG bR nw aO bl mh mw ml) ⟨_,[],_,rfl,Sl.nil _ _ _ _,rfl,nj⟩ aq aX ab (ay _ _)
 obtain ⟨abi,i,hi,fp,hie⟩:=Pb hv.wd h1;have CL:bY x t=true:=abi;rw [hi];refine cf ?_;refine LM.cS (oC Tryz.func99) (fun w hm hc hg=>pI i w jN (gh.k8 ir hm) om om) (fun tA Hw mG H3 Le yr=>?_);refine J2 ?_;refine LM.st Tryz.sizeOf56 rfl rfl rfl ez rfl tw ?_;refine LM.mem (aT.mem (M':=dB b x.sh x.sl bI nh aG tA Hw mG x.tr bl x.di::(mh++(H3++(ml++ [])))) aX) ?_;refine J4 ?_;have abc:(x.wt.map eD).eraseIdx i=(cV x t).wt.map eD:=(by show _=(CB x.wt t).map eD;rw [←hie,xV]);rw [abc] at yr Le;have hF:gE n0 b (cV x t) ((cV x t).wt.map eD) (dB b x.sh x.sl bI nh aG tA Hw mG x.tr bl x.di::(mh++(H3++ml))):=⟨bI,nh,aG,tA,Hw,mG,bl,mh,H3,ml,rfl,iO,Le,eW,yr.mono cb,ko,hb⟩;have gx:c6 (c7 b x bI nh aG bR nw aO bl mh mw ml) w.heap.size (dB b x.sh x.sl bI nh aG tA Hw mG x.tr bl x.di::(mh++(H3++ml))):=fV ee (bZ zN (bZ (fun p hp=> .inl (yr.ge p hp)) zN));refine J1 ?_;refine cU Tryz.func100 rfl (fun w hm hc hg=>xI (k:=k) w (hv.gone t) hF (Nat.le_trans cb hc.size) hx (Nat.le_trans hk hc.size) (hm.pick (dB b x.sh x.sl bI nh aG tA Hw mG x.tr bl x.di::(mh++(H3++ml))))) hF.bX (ao gx) ?_;rintro u26 zY ⟨IT,Pr,SZ,rfl,Qd⟩ ve;refine LM.assoc ?_;refine J6 ?_;refine cU Tryz.func76 rfl (fun w hm hc hg=>eI w Qd (ly _) (hm.pick Pr)) Qd.bX (ao (ak gx (fun p hp=>ve p (List.mem_append_right _ hp)))) ?_;rintro u28 Wb h28 Qr;refine cf ?_;refine QM.leave (.inl rfl) [.tmp 4,.tmp 5] Tryz.results61 rfl ?_;intro w' aq ab aI;have e:=XA hw CL;rw [e.1,e.2,CL];exact aZ (m':=IT++Wb) ⟨_,IT,Wb,rfl,SZ,rfl,h28⟩ aq aX ab (bZ (fun p hp=>ak gx ve p (List.mem_append_left _ hp)) (ak (fun p hp=>ak gx ve p (List.mem_append_right _ hp)) Qr))
theorem Eu {n0 b k:Nat} {x:aY} {m:aa} (t:Int) (w:World) (hw:k9 x) (h:gE n0 b x (x.wt.map eD) m) (cb:n0≤w.heap.size) (hx:x.ho.length≤900) (hk:k≤w.heap.size) (hM:Mem w m):aJ Tryz.prog 71 #[.pointer (some ⟨b,0,none⟩),.int .i64 t] w (eF m (UnD n0 b k (ud x t) (.bool (Td x t)) (rm x t)) w):=by
 have nj:=h;obtain ⟨bI,nh,aG,bR,nw,aO,bl,mh,mw,ml,rfl,iO,jN,eW,gh,ko,hb⟩:=h;have hv:=hw.topg;refine aJ.au Tryz.func71 rfl Tryz.ntmps71 rfl (dB b x.sh x.sl bI nh aG bR nw aO x.tr bl x.di::(mh++(mw++(ml++ [])))) ((fQ (c7 b x bI nh aG bR nw aO bl mh mw ml))) aM ?_;refine dA ?_;refine cE Tryz.func13 rfl (fun w hm hc hg=>rK x.wt t▸lH t w nj (hm.pick (c7 b x bI nh aG bR nw aO bl mh mw ml))) ?_;refine J2 ?_;refine af.aW rfl (fun h1=>?_) (fun h1=>?_)
 ·refine J4 ?_;refine cU Tryz.func61 rfl (fun w hm hc hg=>rU (k:=k) t w hw nj (Nat.le_trans cb hc.size) hx (Nat.le_trans hk hc.size) (hm.pick (c7 b x bI nh aG bR nw aO bl mh mw ml))) nj.bX (fun q hq _=>⟨q,hq,rfl⟩) ?_;rintro u13 m13 ⟨v13,Y4,VZ,rfl,abd,rfl,ow⟩ Yz;refine J8 ?_;refine QM.leave (.inl rfl) [.tmp 4,.tmp 5] Tryz.results71 rfl ?_;intro w' aq ab aI;have CL:bY x t=true:=h1;have e1:ud x t=pd x t:=if_pos CL;have e2:rm x t=fx x t:=if_pos CL;have e3:Td x t=true:=(by unfold Td;rw [CL];rfl);rw [e1,e2,e3];exact aZ (m':=Y4++VZ) ⟨_,Y4,VZ,(by show Value.tuple #[v13,.bool (bY x t)] =_;rw [CL]),abd,rfl,ow⟩ aq aX ab Yz
 refine J7 ?_;refine cE Tryz.func12 rfl (fun w hm hc hg=>po t w nj (hm.pick (c7 b x bI nh aG bR nw aO bl mh mw ml))) ?_;refine J3 ?_;refine af.aW rfl (fun h2=>?_) (fun h2=>?_)
 ·refine J8 ?_;refine QM.leave (.inl rfl) [.tmp 4,.tmp 5] Tryz.results71 rfl ?_;intro w' aq ab aI;have h1:bY x t=false:=h1;have e4:bd x t=false:=(by simpa using h2);have e1:ud x t=[] :=(by unfold ud;rw [if_neg (by rw [h1];simp)];exact if_neg (fun q=>by rw [show bd {x with di:=true} t=bd x t from rfl,e4] at q;cases q.1));have e2:rm x t=x:=(by unfold rm;rw [if_neg (by rw [h1];simp),if_neg (by rw [e4];simp)]);have e3:Td x t=false:=(by unfold Td;rw [h1,e4];rfl);rw [e1,e2,e3];exact aZ (m':=c7 b x bI nh aG bR nw aO bl mh mw ml) ⟨_,[],_,rfl,Sl.nil _ _ _ _,rfl,nj⟩ aq aX ab (ay _ _)
 refine J7 ?_;refine LM.st Tryz.sizeOf4 rfl rfl rfl ez rfl tw ?_;refine LM.mem (aT.mem (M':=dB b x.sh x.sl bI nh aG bR nw aO x.tr bl true::(mh++(mw++(ml++ [])))) aX) ?_;refine J4 ?_;have hF:gE n0 b {x with di:=true} (x.wt.map eD) (dB b x.sh x.sl bI nh aG bR nw aO x.tr bl true::(mh++(mw++ml))):=⟨bI,nh,aG,bR,nw,aO,bl,mh,mw,ml,rfl,iO,jN,eW,gh,ko,hb⟩;have gx:c6 (c7 b x bI nh aG bR nw aO bl mh mw ml) w.heap.size (dB b x.sh x.sl bI nh aG bR nw aO x.tr bl true::(mh++(mw++ml))):=PD (ay _ _) rfl;refine J2 ?_;refine cU Tryz.func98 rfl (fun w hm hc hg=>vZ (k:=k) (x:= {x with di:=true}) t w (hv.core rfl rfl rfl rfl) hF (Nat.le_trans cb hc.size) hx (Nat.le_trans hk hc.size) (hm.pick (dB b x.sh x.sl bI nh aG bR nw aO x.tr bl true::(mh++(mw++ml))))) hF.bX (ao gx) ?_;rintro u26 zY ⟨v26,IT,Pr,rfl,SZ,rfl,Qd⟩ ve;refine tO ?_;refine QM.leave (.inl rfl) [.tmp 4,.tmp 5] Tryz.results71 rfl ?_;intro w' aq ab aI;have h1:bY x t=false:=h1;have e4:bd x t=true:=(by simpa using h2);have e1:ud x t=dY {x with di:=true} t:=(by unfold ud;rw [if_neg (by rw [h1];simp)]);have e2:rm x t=ej {x with di:=true} t:=(by unfold rm;rw [if_neg (by rw [h1];simp),if_pos e4]);have e3:Td x t=true:=(by unfold Td;rw [h1,e4];rfl);rw [e1,e2,e3];exact aZ (m':=IT++Pr) ⟨_,IT,Pr,rfl,SZ,rfl,Qd⟩ aq aX ab (ak gx ve)
def z7 (d:Mx) (gs:List Int) (n0:Nat) (v:Value) (m:aa):Prop:=∃b,v= .pointer (some ⟨b,0,none⟩)∧gE n0 b (m8 d gs) [] m
theorem z7.mono {d:Mx} {gs:List Int} :∀(n n':Nat) (v:Value) (m:aa),n'≤n→z7 d gs n v m→z7 d gs n' v m:=fun n n' v m hn ⟨b,h1,h⟩=>⟨b,h1,h.mono hn⟩
theorem Mi (ws:List Int) (s c:Int):kU ws s (aB c 1 32)=kU ws s c:=by unfold kU;rw [C1 (by decide)]
theorem Ex {n0 b:Nat} {x:aY} {m:aa} (t:Int) (w:World) (h:gE n0 b x (x.wt.map eD) m) (hhk:∀h∈x.ho,o3 x.ld h.p=true) (hhh:∀p,p<x.ld.l.length→0≤(gP x.ld.l p).h∧(gP x.ld.l p).h≤1000000000000) (UQ: -1000000≤x.tr.u) (hM:Mem w m):aJ Tryz.prog 136 #[.pointer (some ⟨b,0,none⟩),.int .i64 t] w (eF m (fun u m'=>u= .bool (bd x t)∧gE n0 b (iU x t) ((iU x t).wt.map eD) m') w):=by
 have nj:=h;obtain ⟨bI,nh,aG,bR,nw,aO,bl,mh,mw,ml,rfl,iO,jN,eW,gh,ko,hb⟩:=h;have hSw:=And.intro gh trivial;clear gh;have ZR:=eW.len.2.1;refine aJ.au Tryz.func136 rfl Tryz.ntmps136 rfl (dB b x.sh x.sl bI nh aG bR nw aO x.tr bl x.di::(mh++(mw++(ml++ [])))) ((fQ (c7 b x bI nh aG bR nw aO bl mh mw ml))) aM ?_;refine cL ?_;refine cE Tryz.func39 rfl (fun w hm hc hg=>kS t w iO (eW.k8 ir hm) eW.len.2.1) ?_;refine cf ?_;refine af.aj rfl (fun h1=>?_) (fun h1=>?_)
 ·have xc:bd x t=false:=(by rw [←oo];exact decide_eq_false om)
  refine J7 ?_;refine qL Tryz.results136 rfl fun w' aq ab aI=>?_;rw [xc,KR xc];exact aZ (m':=c7 b x bI nh aG bR nw aO bl mh mw ml) ⟨rfl,nj⟩ aq aX ab (ay _ _)
 have xc:bd x t=true:=(by rw [←oo];exact decide_eq_true om);have Ri:=(pU xc).1;have Ec:=(pU xc).2.1;rw [Ri];obtain ⟨pp,Qw,MO⟩:=v9 (hhk _ (O7 xc));have CC:(x.ho.getD (ff x.ho t) default).p.toNat=pp:=(by rw [Qw];rfl)
 refine J3 ?_;refine af.draw [(0,0),(1,0),(2,0),(3,1),(4,0),(5,0),(6,0),(7,1),(8,0),(9,0),(10,0),(11,1),(12,3)] kr kr ?_;refine dA ?_;refine LD.rd rfl rfl (aH (j:=1) aA ir Tryz.isAgg3 rfl rfl cR rfl (by rfl)) ?_;refine LD.tail rfl rfl ?_;rw [Qw];refine cU Tryz.func167 rfl (fun w hm hc hg=>Ew pp w ko MO (hhh pp MO) (hm.pick ml)) ko.bX (fun q hq _=>⟨q,by simp [hq],rfl⟩) ?_;rintro u26 zY ⟨rfl,Qd⟩ ve;refine J1 ?_;refine QM.qn ?_;refine J7 ?_;refine LM.rd (pP Tryz.isAgg58 Tryz.sizeOf58 rfl (vs:=[_,_]) rfl ⟨rfl,rfl,trivial⟩) ?_;refine cE Tryz.func168 rfl (fun w hm hc hg=>yF x.tr w UQ) ?_;refine J2 ?_;refine LM.st Tryz.sizeOf58 rfl rfl rfl ez rfl tw ?_;refine LM.mem (aT.mem (M':=dB b x.sh x.sl bI nh aG bR nw aO (iH x.tr) bl x.di::(mh++(mw++(zY++ [])))) aX) ?_;refine J4 ?_;have hF:gE n0 b {x with ld:=AD x.ld pp,tr:=iH x.tr} (x.wt.map eD) (dB b x.sh x.sl bI nh aG bR nw aO (iH x.tr) bl x.di::(mh++(mw++zY))):=⟨bI,nh,aG,bR,nw,aO,bl,mh,mw,zY,rfl,iO,jN,eW,hSw.1,Qd,hb⟩;have gx:c6 (c7 b x bI nh aG bR nw aO bl mh mw ml) w.heap.size (dB b x.sh x.sl bI nh aG bR nw aO (iH x.tr) bl x.di::(mh++(mw++zY))):=fV ee (bZ zN (bZ zN (r5 ve (fun p hp=>by simp [hp]))));refine J1 ?_;refine cU Tryz.func76 rfl (fun w hm hc hg=>eI w hF (ly _) (hm.pick (dB b x.sh x.sl bI nh aG bR nw aO (iH x.tr) bl x.di::(mh++(mw++zY))))) hF.bX (ao gx) ?_;rintro u36 U5 U9 Ie;refine J8 ?_;refine qL Tryz.results136 rfl fun w' aq ab aI=>?_;rw [xc,PM xc,CC];exact aZ (m':=U5) ⟨rfl,U9⟩ aq aX ab (ak gx Ie)
theorem C7 {n0 b:Nat} {x:aY} {m:aa} (g wt:Int) (w:World) (h:gE n0 b x (x.wt.map eD) m) (hM:Mem w m):aJ Tryz.prog 33 #[.pointer (some ⟨b,0,none⟩),.int .i64 g,.int .i64 wt] w (eF m (fun u m'=>u= .bool (wD x g)∧gE n0 b (iu x g wt) ((iu x g wt).wt.map eD) m') w):=by
 have nj:=h;obtain ⟨bI,nh,aG,bR,nw,aO,bl,mh,mw,ml,rfl,iO,jN,eW,gh,ko,hb⟩:=h;have Zo:=And.intro eW gh;clear eW gh;have Ue:=ko;obtain ⟨hB9,Ij,n9,v3,xx,rfl,hn9,UA,hb9⟩:=ko;refine aJ.au Tryz.func33 rfl Tryz.ntmps33 rfl (dB b x.sh x.sl bI nh aG bR nw aO x.tr bl x.di::(mh++(mw++(iZ bl Ij n9 v3 x.ld.sl x.ld.cr x.ld.fl::(xx++ []))))) ((fQ (c7 b x bI nh aG bR nw aO bl mh mw (iZ bl Ij n9 v3 x.ld.sl x.ld.cr x.ld.fl::xx)))) aM ?_;refine gz ?_;refine LM.bw (t:=12) rfl (fun h1=>?_) (fun h1=>?_)
 ·have CG:wD x g=false:=(by unfold wD;rw [h1];rfl)
  refine Ft ?_;refine qL Tryz.results33 rfl fun w' aq ab aI=>?_;rw [CG,Kx CG];exact aZ (m':=c7 b x bI nh aG bR nw aO bl mh mw (iZ bl Ij n9 v3 x.ld.sl x.ld.cr x.ld.fl::xx)) ⟨rfl,nj⟩ aq aX ab (ay _ _)
 skip
 refine J7 ?_;refine cE Tryz.func73 rfl (fun w hm hc hg=>iY g w Ue (hm.pick (iZ bl Ij n9 v3 x.ld.sl x.ld.cr x.ld.fl::xx))) ?_;refine J4 ?_;refine af.aW rfl (fun h2=>?_) (fun h2=>?_)
 ·have CG:wD x g=false:=(by unfold wD;rw [show o3 x.ld g=false by simpa using h2];simp)
  refine J7 ?_;refine qL Tryz.results33 rfl fun w' aq ab aI=>?_;rw [CG,Kx CG];exact aZ (m':=c7 b x bI nh aG bR nw aO bl mh mw (iZ bl Ij n9 v3 x.ld.sl x.ld.cr x.ld.fl::xx)) ⟨rfl,nj⟩ aq aX ab (ay _ _)
 have T0:o3 x.ld g=true:=(by simpa using h2);have CG:wD x g=true:=(by unfold wD;rw [h1,T0];rfl);obtain ⟨p,rfl,MO⟩:=v9 T0;refine lh ?_;refine LM.rd (aH (j:=0) aA ir Tryz.isAgg3 rfl rfl cR rfl (by rfl)) ?_;refine dA ?_;refine cU Tryz.func74 rfl (fun w hm hc hg=>CW p wt w Ue MO (hm.pick (iZ bl Ij n9 v3 x.ld.sl x.ld.cr x.ld.fl::xx))) Ue.bX (fun q hq _=>⟨q,List.mem_cons_of_mem _ (List.mem_append_right _ (List.mem_append_right _ hq)),rfl⟩) ?_;rintro u38 R1 ⟨rfl,h38⟩ s5;have akl:p<(cc x.ld p wt).l.length:=(by show p<(x.ld.l.set _ _).length;rw [List.length_set];exact MO);have Vt:=h38;obtain ⟨hB8,Ii,n8,vB,IU,rfl,hn8,hs8,L4⟩:=h38;refine LM.mem (aT.mem (M':=dB b x.sh x.sl bI nh aG bR nw aO x.tr bl x.di::(mh++(mw++(iZ bl Ii n8 vB (cc x.ld p wt).sl (cc x.ld p wt).cr (cc x.ld p wt).fl::(IU++ []))))) (by rw [List.cons_append];(repeat' (first|exact aT.nil _|refine aT.cons rfl ?_|refine aT.app ?_)))) ?_;refine gz ?_;refine LM.ar (t:=46) rfl (fun h3=>?_) (fun h3=>?_)
 ·refine cf ?_;refine LM.sp 46 rfl rfl rfl ?_;refine J3 ?_;refine LM.rd (aH (j:=0) aA ir Tryz.isAgg3 rfl rfl cR rfl (by rfl)) ?_;refine J5 ?_;refine af.bH (α:=vR) (fun tr=>[]) [(0,_)] (fun tr=>dB b x.sh x.sl bI nh aG bR nw aO tr bl x.di::(mh++(mw++(iZ bl Ii n8 vB (cc x.ld p wt).sl (cc x.ld p wt).cr (cc x.ld p wt).fl::(IU++ []))))) (fun tr=>tr=if x.tr.p=(p:Int)∧(gP (cc x.ld p wt).l p).w≠(gP x.ld.l p).w then wW x.tr x.sl else x.tr) cm ?_ ?_
  ·refine af.aj rfl (fun h4=>?_) (fun h4=>?_)
   ·refine af.draw [(0,0),(1,0),(2,0),(3,0),(4,1),(5,0),(6,0),(7,0),(8,1),(9,2),(10,0),(11,0),(12,3)] kr kr ?_;refine J4 ?_;refine LD.rd rfl rfl (pP Tryz.isAgg58 Tryz.sizeOf58 rfl (vs:=[_,_]) rfl ⟨rfl,rfl,trivial⟩) ?_;refine J4 ?_;refine dE rfl rfl Tryz.func75 rfl (fun w hm hc hg=>DV x.tr _ w) ?_;refine J2 ?_;refine LD.tail rfl rfl ?_;refine LM.st Tryz.sizeOf58 rfl rfl rfl ez rfl tw ?_;refine J1 ?_;refine QM.qn ?_;refine mK (wW x.tr x.sl) ?_
    · exact(if_pos ⟨h3,by simpa using h4⟩).symm
   refine J1 ?_;refine mK (x.tr) ?_
   · exact(if_neg (fun q=>by have:=q.2;simp at h4;exact this h4)).symm
  rintro tr Od;change QM _ _ _ _ _ (dB b x.sh x.sl bI nh aG bR nw aO tr bl x.di::(mh++(mw++(iZ bl Ii n8 vB (cc x.ld p wt).sl (cc x.ld p wt).cr (cc x.ld p wt).fl::(IU++ []))))) _ _ _;refine J3 ?_;have hF:gE n0 b {x with ld:=cc x.ld p wt,tr:=tr} (x.wt.map eD) (dB b x.sh x.sl bI nh aG bR nw aO tr bl x.di::(mh++(mw++(iZ bl Ii n8 vB (cc x.ld p wt).sl (cc x.ld p wt).cr (cc x.ld p wt).fl::IU)))):=⟨bI,nh,aG,bR,nw,aO,bl,mh,mw,_,rfl,iO,jN,Zo.1,Zo.2,Vt,hb⟩;have gx:c6 (c7 b x bI nh aG bR nw aO bl mh mw (iZ bl Ij n9 v3 x.ld.sl x.ld.cr x.ld.fl::xx)) w.heap.size (dB b x.sh x.sl bI nh aG bR nw aO tr bl x.di::(mh++(mw++(iZ bl Ii n8 vB (cc x.ld p wt).sl (cc x.ld p wt).cr (cc x.ld p wt).fl::IU)))):=fV ee (bZ zN (bZ zN (r5 s5 (fun p hp=>List.mem_cons_of_mem _ (List.mem_append_right _ (List.mem_append_right _ hp))))));refine J1 ?_;refine cU Tryz.func76 rfl (fun w hm hc hg=>eI w hF (ly _) (hm.pick (dB b x.sh x.sl bI nh aG bR nw aO tr bl x.di::(mh++(mw++(iZ bl Ii n8 vB (cc x.ld p wt).sl (cc x.ld p wt).cr (cc x.ld p wt).fl::IU)))))) hF.bX (ao gx) ?_;rintro u74 m74 h74 I1;refine J8 ?_;refine qL Tryz.results33 rfl fun w' aq ab aI=>?_;rw [CG,EJ CG,←Od];exact aZ (m':=m74) ⟨rfl,h74⟩ aq aX ab (ak gx I1)
 refine ET ?_;refine af.bH (α:=vR) (fun tr=>[]) [(0,_)] (fun tr=>dB b x.sh x.sl bI nh aG bR nw aO tr bl x.di::(mh++(mw++(iZ bl Ii n8 vB (cc x.ld p wt).sl (cc x.ld p wt).cr (cc x.ld p wt).fl::(IU++ []))))) (fun tr=>tr=if x.tr.p=(p:Int)∧(gP (cc x.ld p wt).l p).w≠(gP x.ld.l p).w then wW x.tr x.sl else x.tr) cm ?_ ?_
 ·refine J2 ?_;refine mK (x.tr) ?_
  · exact(if_neg (fun q=>h3 q.1)).symm
 rintro tr Od;change QM _ _ _ _ _ (dB b x.sh x.sl bI nh aG bR nw aO tr bl x.di::(mh++(mw++(iZ bl Ii n8 vB (cc x.ld p wt).sl (cc x.ld p wt).cr (cc x.ld p wt).fl::(IU++ []))))) _ _ _;refine J3 ?_;have hF:gE n0 b {x with ld:=cc x.ld p wt,tr:=tr} (x.wt.map eD) (dB b x.sh x.sl bI nh aG bR nw aO tr bl x.di::(mh++(mw++(iZ bl Ii n8 vB (cc x.ld p wt).sl (cc x.ld p wt).cr (cc x.ld p wt).fl::IU)))):=⟨bI,nh,aG,bR,nw,aO,bl,mh,mw,_,rfl,iO,jN,Zo.1,Zo.2,Vt,hb⟩;have gx:c6 (c7 b x bI nh aG bR nw aO bl mh mw (iZ bl Ij n9 v3 x.ld.sl x.ld.cr x.ld.fl::xx)) w.heap.size (dB b x.sh x.sl bI nh aG bR nw aO tr bl x.di::(mh++(mw++(iZ bl Ii n8 vB (cc x.ld p wt).sl (cc x.ld p wt).cr (cc x.ld p wt).fl::IU)))):=fV ee (bZ zN (bZ zN (r5 s5 (fun p hp=>List.mem_cons_of_mem _ (List.mem_append_right _ (List.mem_append_right _ hp))))));refine J1 ?_;refine cU Tryz.func76 rfl (fun w hm hc hg=>eI w hF (ly _) (hm.pick (dB b x.sh x.sl bI nh aG bR nw aO tr bl x.di::(mh++(mw++(iZ bl Ii n8 vB (cc x.ld p wt).sl (cc x.ld p wt).cr (cc x.ld p wt).fl::IU)))))) hF.bX (ao gx) ?_;rintro u74 m74 h74 I1;refine J8 ?_;refine qL Tryz.results33 rfl fun w' aq ab aI=>?_;rw [CG,EJ CG,←Od];exact aZ (m':=m74) ⟨rfl,h74⟩ aq aX ab (ak gx I1)
theorem CZ {gs:List Int} {ad:Option Addr} {n cap:Nat} (d:Mx) (w:World) (hn:n=gs.length) (hl:Sr fI 1 gs (.slice ad n cap) w):aJ Tryz.prog 24 #[.agg (Ry d).toArray,.slice ad n cap] w (fun v w'=>Ext w w'∧∃m,z7 d gs w.heap.size v m∧Mem w' m∧∀p∈m,w.heap.size≤p.1):=by
 have ks:=hl.open.2.1;refine aJ.au Tryz.func24 rfl Tryz.ntmps24 rfl ([]) (no) (Mem.nil w) ?_;refine J2 ?_;refine LM.box rfl rfl (fun b2 tn=>?_);refine xq ?_;refine af.bH (α:=Nat) (fun k=>[(5,.slice ad k cap)]) [(2,_)] (fun k=>(b2,.cells (Value.agg (Ry d).toArray).cells 83 (0,0)):: []) (fun k=>k=min n 4) cm ?_ ?_
 ·refine af.aj rfl (fun h1=>?_) (fun h1=>?_)
  ·refine J2 ?_;refine LM.val (ji Tryz.underlying26 Tryz.sizeOf3 rfl rfl om om) ?_;refine J2 ?_;refine mK (4) ?_
   · omega
  refine J1 ?_;refine mK (n) ?_
  · omega
 rintro k hk;change QM _ _ _ _ _ ((b2,.cells (Value.agg (Ry d).toArray).cells 83 (0,0)):: []) _ _ _;have hsk:=Sr.take (k:=k) hl om;have D9:(gs.take k).length=k:=(by rw [List.length_take];omega);have U1:gs.take 4=gs.take k:=(by rcases Nat.le_total gs.length 4 with q|q;rw [List.take_of_length_le q,List.take_of_length_le om];rw [show k=4 by omega])
 refine J9 ?_;refine af.bH (α:=Option Addr×Nat×Nat×aa) (fun ⟨wG,n5,kk,m5⟩=>[(5,.slice wG n5 kk)]) [(2,_)] (fun ⟨wG,n5,kk,m5⟩=>(b2,.cells (Value.agg (Ry d).toArray).cells 83 (0,0))::(m5++ [])) (fun ⟨wG,n5,kk,m5⟩=>RdS (QL gs) wG n5 kk m5 w) cm ?_ ?_
 ·refine af.aj rfl (fun h2=>?_) (fun h2=>?_)
  ·refine J1 ?_;refine LM.single Tryz.underlying26 Tryz.sizeOf3 Tryz.zeroValue3 rfl rfl rfl rfl rfl (fun b16 ajM=>?_);refine J2 ?_;refine mK (some ⟨b16,0,none⟩,1,1,(b16,.cells #[.int .i64 1] 3 (0,0)):: []) ?_
   · have e:QL gs=[1] :=if_pos (by rw [U1,D9];omega);rw [e];exact⟨rfl,fun w' hm _=>Sr.row (hm.at b16) rfl rfl (by decide) ir⟩
  refine J1 ?_;refine mK (ad,k,cap,[]) ?_
  · have e:QL gs=gs.take k:=(by unfold QL;rw [U1,if_neg (by rw [D9];omega)]);rw [e];exact⟨D9.symm,fun w' _ hx=>hsk.ext hx⟩
 rintro ⟨wG,n5,kk,m5⟩ hR;change QM _ _ _ _ _ ((b2,.cells (Value.agg (Ry d).toArray).cells 83 (0,0))::(m5++ [])) _ _ _;refine J8 ?_;refine af.bH (α:=Option Addr×Nat×Nat×aa) (fun ⟨XT,n6,KK,m6⟩=>[(5,.slice XT n6 KK)]) [(2,_)] (fun ⟨XT,n6,KK,m6⟩=>(b2,.cells (Value.agg (Ry d).toArray).cells 83 (0,0))::(m6++ [])) (fun ⟨XT,n6,KK,m6⟩=>RdS (r8 d gs) XT n6 KK m6 w) cm ?_ ?_
 ·refine af.aW rfl (fun h3=>?_) (fun h3=>?_)
  ·refine J5 ?_;refine LM.row (vs:=[_,_]) Tryz.underlying26 Tryz.sizeOf3 Tryz.zeroValue3 rfl rfl rfl rfl rfl rfl (fun b23 ai2=>?_);refine J2 ?_;refine mK (some ⟨b23,0,none⟩,2,2,(b23,.cells #[.int .i64 d.rd,.int .i64 d.wr] 3 (0,0)):: []) ?_
   · have e:r8 d gs=[d.rd,d.wr] :=if_pos h3;rw [e];exact⟨rfl,fun w' hm _=>Sr.row (hm.at b23) rfl rfl (by simp) ir⟩
  refine J1 ?_;refine mK (wG,n5,kk,m5) ?_
  · have e:r8 d gs=QL gs:=if_neg (by simpa using h3);rw [e];exact hR
 rintro ⟨XT,n6,KK,m6⟩ hR6;change QM _ _ _ _ _ ((b2,.cells (Value.agg (Ry d).toArray).cells 83 (0,0))::(m6++ [])) _ _ _;refine J5 ?_;refine cE Tryz.func50 rfl (fun w hm hc hg=>bN _ 1 16 w) ?_;refine J4 ?_;refine af.draw [(0,0),(1,1),(2,0),(3,0),(4,0),(5,0),(6,0),(7,1),(8,2),(9,2),(10,0),(11,2),(12,0)] kr kr ?_;refine J3 ?_;refine LD.val rfl rfl (aD (cs:=#[.int .i64 (-1),.int .i64 0]) rfl kr) ?_;refine J4 ?_;refine dE rfl rfl Tryz.func50 rfl (fun w hm hc hg=>bN _ 1 32 w) ?_;refine LD.iK rfl rfl (oC Tryz.func52) Ya.mono (fun w hm hc hg=>D5 (aB d.sl 1 16) (aB d.cr 1 32) w hR6.1 (hR6.2 w (hm.pick m6) hc)) ?_;rintro u36 U5 ⟨UC,rfl,U9⟩ afq;refine LD.val rfl rfl (aD (cs:=#[.bool d.sh,.int .i64 (aB d.sl 1 16),.slice none 0 0,.slice none 0 0,.int .i64 (-1),.int .i64 0,.pointer (some ⟨UC,0,none⟩),.bool false]) rfl kr) ?_;refine LD.box rfl rfl rfl rfl (fun b38 aaT=>?_);refine J4 ?_;refine qL Tryz.results24 rfl fun w' aq ab aI=>?_;rw [Mi] at U9;have hL:gE w.heap.size b38 (m8 d gs) [] (dB b38 d.sh (aB d.sl 1 16) none 0 0 none 0 0 ⟨-1,0⟩ UC false::([] ++([] ++U5))):=⟨none,0,0,none,0,0,UC,[],[],U5,rfl,rfl,rfl,Sl.nil _ _ _ _,Sl.nil _ _ _ _,U9,aaT⟩;exact⟨ab,_,⟨b38,rfl,hL⟩,(by have h9:=aT.mem (M':=dB b38 d.sh (aB d.sl 1 16) none 0 0 none 0 0 ⟨-1,0⟩ UC false::(U5++ [])) aX w' aq;rw [List.append_nil] at h9;exact h9),hL.ge⟩
abbrev gR (b:Nat) (ad:Option Addr) (n cap:Nat):Nat×Obj:=(b,.cells #[.slice ad n cap] 125 (0,0))
def wg (n0:Nat) (v:Value) (mm:aa):Prop:=∃b ad n cap m,v= .pointer (some ⟨b,0,none⟩)∧mm=gR b ad n cap::m∧n0≤b∧n=64∧Sl fU 41 1 n0 pf (.slice ad n cap) m
theorem wg.mono:∀(k k':Nat) u m,k'≤k→wg k u m→wg k' u m:=fun k k' u m h ⟨b,ad,n,cap,m',h1,h2,h3,h4,h5⟩=>⟨b,ad,n,cap,m',h1,h2,by omega,h4,h5.mono h⟩
def WaT (n0:Nat) (G:Gr) (who:Int) (s:BitVec 64) (ad:Option Addr) (n cap:Nat) (u:Value) (m':aa):Prop:=u= .int .i64 (Lu G who s)∧Sl fU 41 1 n0 (CM G who s) (.slice ad n cap) m'
theorem Yf {G:Gr} {i:Nat} {who:Int} (h:F6 who=false):false=aN (ql G (ot G i)) who:=by
  cases hb:aN (ql G (ot G i)) who
  · rfl
  · have:=gq hb;rw [jW.2 this] at h;cases h
theorem VN {G:Gr} {i:Nat} {who:Int} (h:¬ot G i≠0#64):false=aN (ql G (ot G i)) who:=by
  rw [Classical.not_not] at h;rw [h,IA];exact(cF _).symm
theorem VD {G:Gr} {i:Nat} {who:Int} (h:i<64):aN (IS G (i:Nat)) who=aN (ql G (ot G i)) who:=by
  unfold IS;rw [if_pos (jW.2 ⟨by omega,by omega⟩),Int.toNat_natCast]
theorem qJ {G:Gr} (h:G.length=64) {who:Int} (jl:0≤who∧who<64) (s:BitVec 64):aN (ql (G.set who.toNat 0#64) s) who=aN (ql G s) who:=by
  have:=AW h (w:=who.toNat) om s;rwa [show ((who.toNat:Nat):Int)=who by omega] at this
theorem Gx {G:Gr} (i:Nat) (h:i<G.length):G.set i (G.getD i 0#64)=G:=by
  apply List.ext_getElem (by simp)
  intro j h1 h2;rw [List.getElem_set];split
  · subst_vars;simp [List.getD_eq_getElem?_getD,List.getElem?_eq_getElem h]
  · rfl
theorem rD (w:World):aJ Tryz.prog 23 #[] w (fun v w'=>Ext w w'∧∃m,wg w.heap.size v m∧Mem w' m∧∀p∈m,w.heap.size≤p.1):=by
 refine aJ.au Tryz.func23 rfl Tryz.ntmps23 rfl ([]) (no) (Mem.nil w) ?_;refine J7 ?_;refine LM.make (f:=fU) (a0:=0#64) Tryz.underlying46 Tryz.typeInfo41 rfl rfl rfl rfl yq rfl rfl rfl om (by simp only [Tryz.t41];omega) om (fun b1 Cm=>?_);refine LM.val (aD (cs:=#[_]) rfl (by first|rfl|kernel_rfl)) ?_;refine LM.box rfl rfl (fun b3 Jc=>?_);refine J4 ?_;refine qL Tryz.results23 rfl fun w' aq ab aI=>?_;exact⟨ab,[gR b3 (some ⟨b1,0,none⟩) 64 64,(b1,.cells (arr fU pf []) 41 (0,0))],⟨b3,some ⟨b1,0,none⟩,64,64,[(b1,.cells (arr fU pf []) 41 (0,0))],rfl,rfl,Jc,rfl,.inr ⟨b1,64,[],Cm,rfl,rfl,by decide,by decide,by decide⟩⟩,aT.mem (by(repeat' (first|exact aT.nil _|refine aT.cons kr ?_|refine aT.app ?_))) _ aq,fun p hp=>by simp only [List.mem_cons,List.not_mem_nil,or_false] at hp;rcases hp with rfl|rfl<;>assumption⟩
theorem oz (who:Int) (w:World):aJ Tryz.prog 147 #[.int .i64 who] w (fun v w'=>v= .bool (F6 who)∧Ext w w'):=by
 refine aJ.au Tryz.func147 rfl Tryz.ntmps147 rfl ([]) (no) (Mem.nil w) ?_;refine cf ?_;refine LM.ar (t:=5) rfl (fun h1=>?_) (fun h1=>?_)
 ·refine J7 ?_;refine qL Tryz.results147 rfl fun w' aq ab aI=>?_;refine ⟨?_,ab⟩;simp only [bA,F6,h1,decide_true,decide_false,Bool.true_and,Bool.false_and,Bool.and_true,Bool.and_false,Bool.not_true,Bool.not_false,Bool.true_or,Bool.false_or,Bool.or_true,Bool.or_false,ne_eq,not_true_eq_false,not_false_eq_true,Bool.and_self]
 refine J7 ?_;refine qL Tryz.results147 rfl fun w' aq ab aI=>?_;refine ⟨?_,ab⟩;simp only [bA,F6,h1,decide_true,decide_false,Bool.true_and,Bool.false_and,Bool.and_true,Bool.and_false,Bool.not_true,Bool.not_false,Bool.true_or,Bool.false_or,Bool.or_true,Bool.or_false,ne_eq,not_true_eq_false,not_false_eq_true,Bool.and_self]
theorem uP {n0:Nat} {G:Gr} {ad:Option Addr} {n cap:Nat} {m:aa} (b:Nat) (s:BitVec 64) (w:World) (hG:G.length=64) (hn:n=64) (fY:Sl fU 41 1 n0 G (.slice ad n cap) m) (hM:Mem w (gR b ad n cap::(m++ []))):aJ Tryz.prog 173 #[.pointer (some ⟨b,0,none⟩),U s] w (fun v w'=>v=U (ql G s)∧Ext w w'):=by
 refine aJ.au Tryz.func173 rfl Tryz.ntmps173 rfl (gR b ad n cap::(m++ [])) (no) hM ?_;refine cL ?_;refine af.aS (α:=BitVec 64×Bool) (fun ⟨X,fr⟩=>[(1,U X),(5,.bool fr)]) [(0,_)] (fun ⟨X,fr⟩=>gR b ad n cap::(m++ [])) (fun ⟨X,fr⟩=>Mz G s X∧(fr=false→GU G X 64)) (fun ⟨X,fr⟩=>2*(64-xa X)+fr.toNat) ((s,true)) cm aX ⟨Mz.init G s,fun h=>by cases h⟩ ?_;rintro ⟨X,fr⟩ ⟨hX,hd⟩;change af _ _ _ _ _ _ _ (gR b ad n cap::(m++ [])) _ _ _;refine J6 ?_;refine af.aW rfl (fun h1=>?_) (fun h1=>?_)
 ·refine lh ?_;refine af.aS (α:=Nat×BitVec 64×Bool) (fun ⟨i,Y,K8⟩=>[(1,U Y),(5,.bool K8),(6,.int .i64 (i:Nat))]) [(0,_)] (fun ⟨i,Y,K8⟩=>gR b ad n cap::(m++ [])) (fun ⟨i,Y,K8⟩=>i≤64∧Mz G s Y∧(K8=true→xa X<xa Y)∧(K8=false→Y=X∧GU G X i)) (fun ⟨i,Y,K8⟩=>64-i) ((0,X,false)) cm aX ⟨Nat.zero_le _,hX,(fun h=>by cases h),(fun _=>⟨rfl,fun j hj=>by omega⟩)⟩ ?_;rintro ⟨i,Y,K8⟩ ⟨hi,hY,ht,hf⟩;change af _ _ _ _ _ _ _ (gR b ad n cap::(m++ [])) _ _ _;refine J7 ?_;refine af.aj rfl (fun h2=>?_) (fun h2=>?_)
  ·refine J5 ?_;refine af.bH (α:=Bool) (fun bb=>[(26,.bool bb)]) [(0,_),(1,_),(5,_),(6,_)] (fun bb=>gR b ad n cap::(m++ [])) (fun bb=>bb=(aN Y (i:Nat)&&decide (ot G i&&& ~~~Y≠0#64))) cm ?_ ?_
   ·refine J3 ?_;refine cE Tryz.func108 rfl (fun w hm hc hg=>fK _ _ w) ?_;refine J1 ?_;refine LM.bw (t:=15) rfl (fun h3=>?_) (fun h3=>?_)
    ·refine J6 ?_;refine LM.sp 15 rfl rfl rfl ?_;refine J2 ?_;refine LM.rd (bu aA ir Tryz.isAgg41 rfl rfl (by exact aQ 0#64 cJ) (by rfl)) ?_;refine J1 ?_;refine LM.sp 15 rfl rfl rfl ?_;refine LM.val (Dp rfl rfl) ?_;refine LM.sp 15 rfl rfl rfl ?_;refine LM.val (F9 (b:=0#64) rfl rfl) ?_;refine J2 ?_;refine mK (_) ?_
     · (simp only [h1,h2,h3,decide_true,decide_false,Bool.true_and,Bool.false_and,Bool.and_true,Bool.and_false,Bool.not_true,Bool.not_false,Bool.true_or,Bool.false_or,Bool.or_true,Bool.or_false,ne_eq,not_true_eq_false,not_false_eq_true,Bool.and_self];rfl)
    refine cL ?_;refine mK (_) ?_
    · (simp only [h1,h2,h3,decide_true,decide_false,Bool.true_and,Bool.false_and,Bool.and_true,Bool.and_false,Bool.not_true,Bool.not_false,Bool.true_or,Bool.false_or,Bool.or_true,Bool.or_false,ne_eq,not_true_eq_false,not_false_eq_true,Bool.and_self];done)
   rintro bb acY;change QM _ _ _ _ _ (gR b ad n cap::(m++ [])) _ _ _;subst acY;refine J1 ?_;refine af.aW rfl (fun h4=>?_) (fun h4=>?_)
   ·refine J9 ?_;refine LM.rd (bu aA ir Tryz.isAgg41 rfl rfl (by exact aQ 0#64 cJ) (by rfl)) ?_;refine LM.val (Sp rfl rfl) ?_;refine gz ?_;refine aK (i+1,Y|||ot G i,true) ?_ ?_
    · obtain ⟨PV,xT⟩:=hY.put h4;exact⟨by omega,PV,fun _=>by cases K8 with|false=>(have e:=(hf rfl).1;rw [←e];exact xT)|true=>(have:=ht rfl;omega),fun h=>by cases h⟩
    · (dsimp only;omega)
   refine J8 ?_;refine aK (i+1,Y,K8) ?_ ?_
   · exact⟨by omega,hY,ht,fun hg=>by obtain ⟨e,hd2⟩:=hf hg;subst e;exact⟨rfl,hd2.step h4⟩⟩
   · (dsimp only;omega)
  refine J5 ?_;refine aK (Y,K8) ?_ ?_
  · exact⟨hY,fun hg=>by obtain ⟨e,hd2⟩:=hf hg;have Ss:i=64:=om;subst Ss;rw [e];exact hd2⟩
  · dsimp only;have:=zG X;have:=zG Y;cases K8 with|false=>(obtain ⟨e,_⟩:=hf rfl;subst e;rw [h1];simp)|true=>(have:=ht rfl;rw [h1];simp;omega)
 refine cL ?_;refine qL Tryz.results173 rfl fun w' aq ab aI=>?_;refine ⟨?_,ab⟩;simp only [bA];exact congrArg U (hX.end (hd (by simpa using h1)))
theorem zc {n0:Nat} {G:Gr} {ad:Option Addr} {n cap:Nat} {m:aa} (b:Nat) (who:Int) (w:World) (hG:G.length=64) (hn:n=64) (fY:Sl fU 41 1 n0 G (.slice ad n cap) m) (hM:Mem w (gR b ad n cap::(m++ []))):aJ Tryz.prog 148 #[.pointer (some ⟨b,0,none⟩),.int .i64 who] w (fun v w'=>v=U (IS G who)∧Ext w w'):=by
 refine aJ.au Tryz.func148 rfl Tryz.ntmps148 rfl (gR b ad n cap::(m++ [])) (no) hM ?_;refine J9 ?_;refine cE Tryz.func147 rfl (fun w hm hc hg=>oz _ w) ?_;refine J3 ?_;refine af.aW rfl (fun h1=>?_) (fun h1=>?_)
 ·refine J7 ?_;refine qL Tryz.results148 rfl fun w' aq ab aI=>?_;refine ⟨?_,ab⟩;simp only [bA,IS];rw [if_neg (by simpa using h1)];rfl
 have jl:=jW.1 (show F6 who=true by simpa using h1);refine cf ?_;refine LM.val (cP pe Tryz.underlying46 Tryz.sizeOf41 rfl rfl om) ?_;refine LM.rd (bu aA ir Tryz.isAgg41 rfl rfl (by exact aQ 0#64 cJ) (by rfl)) ?_;refine cE Tryz.func173 rfl (fun w hm hc hg=>uP b _ w hG hn fY hm) ?_;refine J4 ?_;refine qL Tryz.results148 rfl fun w' aq ab aI=>?_;refine ⟨?_,ab⟩;simp only [bA,IS];rw [if_pos (by simpa using h1)];rfl
theorem zd {n0:Nat} {G:Gr} {ad:Option Addr} {n cap:Nat} {m:aa} (b:Nat) (who:Int) (w:World) (hG:G.length=64) (hn:n=64) (fY:Sl fU 41 1 n0 G (.slice ad n cap) m) (hM:Mem w (gR b ad n cap::(m++ []))):aJ Tryz.prog 107 #[.pointer (some ⟨b,0,none⟩),.int .i64 who] w (fun v w'=>v=U (u6 G who)∧Ext w w'):=by
 refine aJ.au Tryz.func107 rfl Tryz.ntmps107 rfl (gR b ad n cap::(m++ [])) (no) hM ?_;refine xq ?_;refine af.aS (α:=Nat) (fun i=>[(5,U (P8 G who i)),(6,.int .i64 (i:Nat))]) [(0,_),(1,_)] (fun i=>gR b ad n cap::(m++ [])) (fun i=>i≤64) (fun i=>64-i) (0) ⟨(by first|rfl|exact lk rfl (by rw [qU];first|rw [if_pos h4] |rw [if_neg (by rw [h4];simp)])),j8,rfl,rfl,trivial⟩ aX (Nat.zero_le _) ?_;rintro i hi;change af _ _ _ _ _ _ _ (gR b ad n cap::(m++ [])) _ _ _;refine J7 ?_;refine af.aj rfl (fun h1=>?_) (fun h1=>?_)
 ·refine J5 ?_;refine af.bH (α:=Bool) (fun bb=>[(29,.bool bb)]) [(0,_),(1,_),(5,_),(6,_)] (fun bb=>gR b ad n cap::(m++ [])) (fun bb=>bb=aN (ql G (ot G i)) who) cm ?_ ?_
  ·refine J2 ?_;refine cE Tryz.func147 rfl (fun w hm hc hg=>oz _ w) ?_;refine J1 ?_;refine LM.bw (t:=13) rfl (fun h2=>?_) (fun h2=>?_)
   ·refine J6 ?_;refine LM.sp 13 rfl rfl rfl ?_;refine J2 ?_;refine LM.rd (bu aA ir Tryz.isAgg41 rfl rfl (by exact aQ 0#64 cJ) (by rfl)) ?_;refine LM.sp 13 rfl rfl rfl ?_;refine LM.val (F9 (b:=0#64) rfl rfl) ?_;refine J2 ?_;refine LM.ar (t:=23) rfl (fun h3=>?_) (fun h3=>?_)
    ·refine J3 ?_;refine cE Tryz.func148 rfl (fun w hm hc hg=>zc b _ w hG hn fY hm) ?_;refine J2 ?_;refine cE Tryz.func108 rfl (fun w hm hc hg=>fK _ _ w) ?_;refine J2 ?_;refine mK (_) ?_
     · exact VD om
    refine J7 ?_;refine mK (_) ?_
    · exact VN aA
   refine xq ?_;refine mK (_) ?_
   · exact Yf aA
  rintro bb Yw;change QM _ _ _ _ _ (gR b ad n cap::(m++ [])) _ _ _;subst Yw;refine J1 ?_;refine af.aW rfl (fun h4=>?_) (fun h4=>?_)
  ·refine J3 ?_;refine cE Tryz.func149 rfl (fun w hm hc hg=>pA _ _ w) ?_;refine J9 ?_;refine QM.cT (i+1) ⟨(by first|rfl|exact lk rfl (by rw [qU];first|rw [if_pos h4] |rw [if_neg (by rw [h4];simp)])),j8,rfl,rfl,trivial⟩ aX (fun _ h=>h) ?_ ?_
   · omega
   · omega
  refine J8 ?_;refine QM.cT (i+1) ⟨(by first|rfl|exact lk rfl (by rw [qU];first|rw [if_pos h4] |rw [if_neg (by rw [h4];simp)])),j8,rfl,rfl,trivial⟩ aX (fun _ h=>h) ?_ ?_
  · omega
  · omega
 refine cL ?_;refine qL Tryz.results107 rfl fun w' aq ab aI=>?_;have Ss:i=64:=om;subst Ss;exact⟨by simp only [bA];rw [Pg],ab⟩
theorem qf {n0:Nat} {G:Gr} {ad:Option Addr} {n cap:Nat} {m:aa} (b:Nat) (who:Int) (s:BitVec 64) (w:World) (hG:G.length=64) (hn:n=64) (fY:Sl fU 41 1 n0 G (.slice ad n cap) m) (hM:Mem w (gR b ad n cap::(m++ []))):aJ Tryz.prog 139 #[.pointer (some ⟨b,0,none⟩),.int .i64 who,U s] w (fun v w'=>v= .bool (aN (ql G s) who)∧Ext w w'):=by
 refine aJ.au Tryz.func139 rfl Tryz.ntmps139 rfl (gR b ad n cap::(m++ [])) (no) hM ?_;refine J8 ?_;refine cE Tryz.func147 rfl (fun w hm hc hg=>oz _ w) ?_;refine J1 ?_;refine LM.bw (t:=9) rfl (fun h1=>?_) (fun h1=>?_)
 ·refine J3 ?_;refine cE Tryz.func173 rfl (fun w hm hc hg=>uP b _ w hG hn fY hm) ?_;refine J2 ?_;refine cE Tryz.func108 rfl (fun w hm hc hg=>fK _ _ w) ?_;refine J5 ?_;refine qL Tryz.results139 rfl fun w' aq ab aI=>?_;exact⟨rfl,ab⟩
 refine cf ?_;refine qL Tryz.results139 rfl fun w' aq ab aI=>?_;refine ⟨?_,ab⟩;simp only [bA];congr 1;cases hh:aN (ql G s) who;rfl;(have:=gq hh;simp [F6,this.1,this.2] at h1)
theorem vV {n0:Nat} {G:Gr} {ad:Option Addr} {n cap:Nat} {m:aa} (b:Nat) (who:Int) (s:BitVec 64) (w:World) (hG:G.length=64) (hn:n=64) (fY:Sl fU 41 1 n0 G (.slice ad n cap) m) (hM:Mem w (gR b ad n cap::(m++ []))):aJ Tryz.prog 142 #[.pointer (some ⟨b,0,none⟩),.int .i64 who,U s] w (eF m (WaT n0 G who s ad n cap) w):=by
 refine aJ.au Tryz.func142 rfl Tryz.ntmps142 rfl (gR b ad n cap::(m++ [])) ((fun x=>∃q∈m,q.1=x)) hM ?_;refine J9 ?_;refine cE Tryz.func147 rfl (fun w hm hc hg=>oz _ w) ?_;refine J3 ?_;refine af.aW rfl (fun h1=>?_) (fun h1=>?_)
 ·refine J7 ?_;refine qL Tryz.results142 rfl fun w' aq ab aI=>?_;have he:Lu G who s=1:=(by unfold Lu;rw [if_neg (by simpa using h1)]);refine ⟨ab,m,⟨by rw [he];rfl,by unfold CM;rw [if_neg om];exact fY⟩,aq.pick m,fun p hp=> .inr ⟨p,hp,rfl⟩⟩
 have jl:=jW.1 (show F6 who=true by simpa using h1);refine J9 ?_;refine LM.val (cP pe Tryz.underlying46 Tryz.sizeOf41 rfl rfl om) ?_;refine LM.rd (bu aA ir Tryz.isAgg41 rfl rfl (by exact aQ 0#64 cJ) (by rfl)) ?_;refine cf ?_;refine LM.val (cP pe Tryz.underlying46 Tryz.sizeOf41 rfl rfl om) ?_;refine LM.iB 0#64 (j:=0) aA ir Tryz.sizeOf41 rfl rfl rfl (by exact aQ 0#64 cJ) rfl (by decide) (by rfl) rfl (fun p hp _=>by first|exact⟨p,hp,rfl⟩|exact EA p hp) (fun ms G0 EA=>?_);refine J8 ?_;refine cE Tryz.func139 rfl (fun w hm hc hg=>qf b _ _ w (by rw [List.length_set];exact hG) hn G0 (sm hm)) ?_;refine J2 ?_;refine af.aW rfl (fun h2=>?_) (fun h2=>?_)
 ·have S7:=EA;have abO:=G0;refine J8 ?_;refine LM.val (cP pe Tryz.underlying46 Tryz.sizeOf41 rfl rfl om) ?_;refine LM.iB _ (j:=0) aA ir Tryz.sizeOf41 rfl rfl rfl (by exact aQ 0#64 cJ) rfl (by decide) (by rfl) rfl (fun p hp _=>by first|exact⟨p,hp,rfl⟩|exact EA p hp) (fun ms G0 EA=>?_);refine J9 ?_;refine qL Tryz.results142 rfl fun w' aq ab aI=>?_;have he:Lu G who s=9:=(by rw [qJ hG jl] at h2;unfold Lu;rw [if_pos (by simpa using h1),if_pos h2]);rw [List.set_set,Gx _ om] at G0;refine ⟨ab,ms,⟨by rw [he];rfl,by unfold CM;rw [if_neg om];exact G0⟩,aq.pick ms,fun p hp=> .inr (by obtain ⟨q,hq,e⟩:=EA p hp;obtain ⟨r,hr,e2⟩:=S7 q hq;exact⟨r,hr,e2.trans e⟩)⟩
 have S7:=EA;have abO:=G0;refine cf ?_;refine LM.val (cP pe Tryz.underlying46 Tryz.sizeOf41 rfl rfl om) ?_;refine LM.iB _ (j:=0) aA ir Tryz.sizeOf41 rfl rfl rfl (by exact aQ 0#64 cJ) rfl (by decide) (by rfl) rfl (fun p hp _=>by first|exact⟨p,hp,rfl⟩|exact EA p hp) (fun ms G0 EA=>?_);refine J8 ?_;refine qL Tryz.results142 rfl fun w' aq ab aI=>?_;have he:Lu G who s=0:=(by rw [qJ hG jl] at h2;unfold Lu;rw [if_pos (by simpa using h1),if_neg (by rw [h2];simp)]);rw [List.set_set] at G0;refine ⟨ab,ms,⟨by rw [he];rfl,by unfold CM;rw [if_pos he];exact G0⟩,aq.pick ms,fun p hp=> .inr (by obtain ⟨q,hq,e⟩:=EA p hp;obtain ⟨r,hr,e2⟩:=S7 q hq;exact⟨r,hr,e2.trans e⟩)⟩
theorem Ws {own:List Int} {i:Nat} (h:i<min own.length 64):min (max (own.getD i 0) 0) 16=wt own i:=by unfold wt;rw [if_pos h]
theorem Bv {own:List Int} {i:Nat} (h:i<min own.length 64) (w:World):aJ Tryz.prog 50 #[.int .i64 (own.getD i 0),.int .i64 0,.int .i64 16] w (fun v w'=>v= .int .i64 (wt own i)∧Ext w w'):=Ws h▸(by have k:=bN (own.getD i 0) 0 16 w;rw [show aB (own.getD i 0) 0 16=min (max (own.getD i 0) 0) 16 by unfold aB;split<;>(try split)<;>omega] at k;exact k)
theorem EN {own:List Int} {G:Gr} {i:Nat} :wt own i+jR own (u6 G (i:Nat)) (min own.length 64)=U7 own G i:=by unfold U7;rw [←Ax own _ 64 om]
theorem vh {own:List Int} {B:BitVec 64} {k:Nat} (h:aN B (k:Nat)=true):jR own B (k+1)=jR own B k+wt own k:=by rw [jR,if_pos h]
theorem yI {own:List Int} {B:BitVec 64} {k:Nat} (h:aN B (k:Nat)=false):jR own B (k+1)=jR own B k:=by rw [jR,if_neg (by rw [h];simp)];omega
theorem Gb {own:List Int} {ad:Option Addr} {n cap n0:Nat} {G:Gr} {kL:Option Addr} {ng Di:Nat} {mg:aa} (br:Nat) (w:World) (hG:G.length=64) (hA:PX G) (Ea:ng=64) (B9:Sl fU 41 1 n0 G (.slice kL ng Di) mg) (hn:n=own.length) (hl:Sr fI 1 own (.slice ad n cap) w) (hx:own.length≤1000000000000) (hM:Mem w (gR br kL ng Di::(mg++ []))):aJ Tryz.prog 67 #[.slice ad n cap,.pointer (some ⟨br,0,none⟩)] w (New fI 3 1 (x5 own G) w):=by
 refine aJ.au Tryz.func67 rfl Tryz.ntmps67 rfl (gR br kL ng Di::(mg++ [])) (no) hM ?_;refine xq ?_;refine af.aS (α:=Nat×Option Addr×Nat×Nat×aa) (fun ⟨i,dI,no,bL,mo⟩=>[(5,.slice dI no bL),(6,.int .i64 (i:Nat))]) [(0,_),(1,_)] (fun ⟨i,dI,no,bL,mo⟩=>mo++(gR br kL ng Di::(mg++ []))) (fun ⟨i,dI,no,bL,mo⟩=>i≤min own.length 64∧no=i∧Sl fI 3 1 w.heap.size (AA own G i) (.slice dI no bL) mo) (fun ⟨i,dI,no,bL,mo⟩=>min own.length 64-i) ((0,none,0,0,[])) cm aX ⟨Nat.zero_le _,rfl,.nil _ _ _ _⟩ ?_;rintro ⟨i,dI,no,bL,mo⟩ ⟨hi,fM,jL⟩;change af _ _ _ _ _ _ _ (mo++(gR br kL ng Di::(mg++ []))) _ _ _;have hel:=Lq own G i;refine J8 ?_;refine LM.ar (t:=14) rfl (fun h1=>?_) (fun h1=>?_)
 ·refine J5 ?_;refine af.aj rfl (fun h2=>?_) (fun h2=>?_)
  ·refine J9 ?_;refine LM.eR (sn aA Tryz.isAgg3 rfl rfl (by exact aQ 0 cJ) (by rfl) id) ?_;refine cE Tryz.func50 rfl (fun w hm hc hg=>Bv om w) ?_;refine J7 ?_;refine cE Tryz.func107 rfl (fun w hm hc hg=>zd br _ w hG Ea B9 (sm hm)) ?_;refine cf ?_;refine af.aS (α:=Nat) (fun k=>[(7,.int .i64 (wt own i+jR own (u6 G (i:Nat)) k)),(9,.int .i64 (k:Nat))]) [(0,_),(1,_),(5,_),(6,_),(8,_)] (fun k=>mo++(gR br kL ng Di::(mg++ []))) (fun k=>k≤min own.length 64) (fun k=>min own.length 64-k) (0) ⟨(by first|rfl|exact lk rfl (by simp only [jR];congr 1;omega)|exact lk rfl (by rw [vh aA,Int.add_assoc])|exact lk rfl (by rw [yI aA])),j8,rfl,rfl,rfl,rfl,rfl,trivial⟩ aX (Nat.zero_le _) ?_;rintro k hk;change af _ _ _ _ _ _ _ (mo++(gR br kL ng Di::(mg++ []))) _ _ _;have CG:=Ej own i;have Hc:=Bu own (u6 G (i:Nat)) k;have hw3:=Ej own k;refine J8 ?_;refine LM.ar (t:=32) rfl (fun h3=>?_) (fun h3=>?_)
   ·refine J5 ?_;refine af.aj rfl (fun h4=>?_) (fun h4=>?_)
    ·refine J8 ?_;refine cE Tryz.func108 rfl (fun w hm hc hg=>fK _ _ w) ?_;refine J1 ?_;refine LM.bw (t:=41) rfl (fun h5=>?_) (fun h5=>?_)
     ·refine J6 ?_;refine af.aj rfl (fun h6=>?_) (fun h6=>?_)
      ·refine J5 ?_;refine LM.eR (sn aA Tryz.isAgg3 rfl rfl (by exact aQ 0 cJ) (by rfl) id) ?_;refine cE Tryz.func50 rfl (fun w hm hc hg=>Bv om w) ?_;refine cf ?_;refine QM.cT (k+1) ⟨(by first|rfl|exact lk rfl (by simp only [jR];congr 1;omega)|exact lk rfl (by rw [vh aA,Int.add_assoc])|exact lk rfl (by rw [yI aA])),j8,rfl,rfl,rfl,rfl,rfl,trivial⟩ aX (fun _ h=>h) ?_ ?_
       · omega
       · omega
      have e:k=i:=om;subst e;rw [JP hA om] at h5;cases h5
     refine tO ?_;refine QM.cT (k+1) ⟨(by first|rfl|exact lk rfl (by simp only [jR];congr 1;omega)|exact lk rfl (by rw [vh aA,Int.add_assoc])|exact lk rfl (by rw [yI aA])),j8,rfl,rfl,rfl,rfl,rfl,trivial⟩ aX (fun _ h=>h) ?_ ?_
     · omega
     · omega
    have ZX:k=min own.length 64:=om;have M7:wt own i+jR own (u6 G (i:Nat)) k=U7 own G i:=(by rw [ZX];exact EN)
    refine J8 ?_;refine LM.single Tryz.underlying26 Tryz.sizeOf3 Tryz.zeroValue3 rfl rfl rfl rfl rfl (fun b55 aed=>?_);refine LM.app Tryz.underlying26 Tryz.typeInfo3 rfl rfl rfl rfl rfl rfl rfl aA (by rfl) ir (by intro _ u hu;simp [fI] at hu;(repeat (first|(rcases hu with rfl|hu)|subst hu|rfl))) (by first|exact Nat.le_refl _|omega) jn (by first|omega|(unfold maxLen;omega)) (by simp only [Tryz.t3];omega) (fun NJ Z0 EH wN VO OP uF=>?_);refine J9 ?_;refine aK (i+1,NJ,Z0,EH,wN) ?_ ?_
    · exact⟨by omega,by omega,by rw [xJ,←M7];exact OP⟩
    · (dsimp only;omega)
   have ZX:k=min own.length 64:=om;have M7:wt own i+jR own (u6 G (i:Nat)) k=U7 own G i:=(by rw [ZX];exact EN)
   refine lh ?_;refine LM.single Tryz.underlying26 Tryz.sizeOf3 Tryz.zeroValue3 rfl rfl rfl rfl rfl (fun b55 aed=>?_);refine LM.app Tryz.underlying26 Tryz.typeInfo3 rfl rfl rfl rfl rfl rfl rfl aA (by rfl) ir (by intro _ u hu;simp [fI] at hu;(repeat (first|(rcases hu with rfl|hu)|subst hu|rfl))) (by first|exact Nat.le_refl _|omega) jn (by first|omega|(unfold maxLen;omega)) (by simp only [Tryz.t3];omega) (fun NJ Z0 EH wN VO OP uF=>?_);refine J9 ?_;refine aK (i+1,NJ,Z0,EH,wN) ?_ ?_
   · exact⟨by omega,by omega,by rw [xJ,←M7];exact OP⟩
   · (dsimp only;omega)
  refine cL ?_;refine qL Tryz.results67 rfl fun w' aq ab aI=>?_;have him:i=min own.length 64:=om;subst him;exact⟨ab,mo,jL,aq.pick mo⟩
 refine Ft ?_;refine qL Tryz.results67 rfl fun w' aq ab aI=>?_;have him:i=min own.length 64:=om;subst him;exact⟨ab,mo,jL,aq.pick mo⟩
structure Dw where
  who:Int
  set:BitVec 64
deriving Inhabited
end Go.Eng
namespace Go.Eng
open Go Go.RowKit
theorem S1 {α:Type} {p:α→Bool} {xs:List α} (d:α) (h:0≤jJ p xs):(jJ p xs).toNat<xs.length∧p (xs.getD (jJ p xs).toNat d)=true:=by
  unfold jJ at h ⊢
  split at h
  · rename_i q
    rw [if_pos q,Int.toNat_natCast]
    have bB:xs.findIdx p<xs.length:=by
      obtain ⟨x,hx,hp⟩:=List.any_eq_true.1 q;exact List.findIdx_lt_length_of_exists ⟨x,hx,hp⟩
    refine ⟨bB,?_⟩;have e:=aQ d bB;rw [List.getElem?_eq_getElem bB] at e;rw [←Option.some.inj e];exact List.findIdx_getElem (w:=bB)
  · omega
theorem T1 {α:Type} {p:α→Bool} {xs:List α} (h:¬0≤jJ p xs):xs.any p=false:=by
  unfold jJ at h
  cases q:xs.any p with
  |false=>rfl
  |true=>rw [if_pos q] at h;omega
/-! what is parsed may be -/
theorem rJ {ws:List bC} {i:Nat} {e k:Int} {t:List UInt8} (h:(eX ws i e k t).2=0):e=0:=by
  unfold eX at h;split at h
  · exact h
  · split at h
    · cases h
    · exact h
theorem FH {ws:List bC} {i:Nat} {e m:Int} (h:(rE ws i e 1 m).2.1=0):e=0∧cG (rE ws i e 1 m).2.2 m=true:=by
  unfold rE mn at h ⊢
  split at h
  · rename_i q;exact absurd h q
  rename_i q
  rw [if_neg q,if_neg (by decide)];rw [if_neg (by decide)] at h;refine ⟨Classical.not_not.1 q,?_⟩
  split at h
  · cases h
  rename_i q2
  rw [if_neg q2]
  split at h
  · rename_i q3
    rw [if_pos q3]
    unfold hasB at q3;rw [if_neg (by decide)] at q3;exact q3
  · cases h
theorem mu {ws:List bC} {i:Nat} {e m:Int} {nm:List UInt8} (h:(du ws i e nm m).2.1=0):e=0∧cG (du ws i e nm m).2.2 m=true:=
  ⟨rJ (FH h).1,(FH h).2⟩
theorem q6 {ws:List bC} {i:Nat} {e m:Int} {nm:List UInt8} (h:(im ws i e nm m).2.1=0):e=0∧cG (im ws i e nm m).2.2 m=true:=
  mu (rJ h)
theorem uB {ws:List bC} :∀(f i:Nat) (e:Int) (gs:List Int),(EC ws f i e gs).2.2=0→e=0
  |0,i,e,gs,h=>by
    unfold EC at h;split at h
    · rename_i q;exact(nG q).2
    · exact h
  |f+1,i,e,gs,h=>by
    unfold EC at h;split at h
    · rename_i q;exact(nG q).2
    · exact h
theorem E8 {ws:List bC} :∀(f i:Nat) (e:Int) (gs:List Int),(EC ws f i e gs).2.2=0→(e=0→gs.all (fun n=>cG n 16)=true)→1≤gs.length→gs.length+f≤4→
    (EC ws f i e gs).1.all (fun n=>cG n 16)=true∧1≤(EC ws f i e gs).1.length∧(EC ws f i e gs).1.length≤4
  |0,i,e,gs,h,ha,h1,h2=>by
    have he:=uB 0 i e gs h
    unfold EC;split<;>exact⟨ha he,h1,h2⟩
  |f+1,i,e,gs,h,ha,h1,h2=>by
    have he:=uB (f+1) i e gs h
    unfold EC at h ⊢;split
    · rename_i q
      rw [if_pos q] at h;refine E8 f _ _ _ h (fun h3=>?_) (by simp) (by simp;omega);rw [List.all_append,ha he,Bool.true_and];simp [(q6 h3).2]
    · exact⟨ha he,h1,by show gs.length≤4;omega⟩
theorem NQ {ws:List bC} {i:Nat} {e:Int} {sh:Bool} (h:(jQ ws sh i e).2.1=0):e=0∧wO (jQ ws sh i e).2.2=true:=by
  have hD:(HN ws sh i e).2.1=0:=rJ h;cases sh with
  |true=>
    have d:=mu (show (du ws (HJ ws true i e).1 (HJ ws true i e).2.1 yz 16).2.1=0 from hD);have c:=mu (show (du ws (HV ws i e).1 (HV ws i e).2.1 Fk 16).2.1=0 from d.1);have b:=mu (show (du ws (Ct ws i e).1 (Ct ws i e).2.1 uG 32).2.1=0 from c.1);have a:=mu (show (du ws i e pZ 16).2.1=0 from b.1);refine ⟨a.1,?_⟩
    show ((if true=true then cG (du ws (HV ws i e).1 (HV ws i e).2.1 Fk 16).2.2 16&&cG (du ws (HJ ws true i e).1 (HJ ws true i e).2.1 yz 16).2.2 16 else _)&&cG (du ws i e pZ 16).2.2 16&&cG (du ws (Ct ws i e).1 (Ct ws i e).2.1 uG 32).2.2 32)=true
    rw [if_pos rfl,a.2,b.2,c.2,d.2];rfl
  |false=>
    have b:=mu (show (du ws (Ct ws i e).1 (Ct ws i e).2.1 uG 32).2.1=0 from hD);have a:=mu (show (du ws i e pZ 16).2.1=0 from b.1);refine ⟨a.1,?_⟩
    show (true&&cG (du ws i e pZ 16).2.2 16&&cG (du ws (Ct ws i e).1 (Ct ws i e).2.1 uG 32).2.2 32)=true
    rw [a.2,b.2];rfl
theorem yX {ws:List bC} {i:Nat} {e:Int} (h:Jd ws i e=true):i<ws.length∧e=0:=by
  unfold Jd at h;rw [Bool.or_eq_true] at h
  rcases h with h|h<;>exact nG h
theorem qe {ws:List bC} :∀(f i:Nat) (e:Int) (ls:List ke),(Gd ws f i e ls).2.2=0→e=0
  |0,i,e,ls,h=>by
    unfold Gd at h;split at h
    · rename_i q;exact(yX q).2
    · exact h
  |f+1,i,e,ls,h=>by
    unfold Gd at h;split at h
    · rename_i q;exact(yX q).2
    · exact h
theorem Fu {ws:List bC} :∀(f i:Nat) (e:Int) (ls:List ke),(Gd ws f i e ls).2.2=0→(e=0→ls.all wO=true)→ls.length+f≤8→
    (Gd ws f i e ls).1.all wO=true∧(Gd ws f i e ls).1.length≤8
  |0,i,e,ls,h,ha,h2=>by
    have he:=qe 0 i e ls h
    unfold Gd;split<;>exact⟨ha he,h2⟩
  |f+1,i,e,ls,h,ha,h2=>by
    have he:=qe (f+1) i e ls h
    unfold Gd at h ⊢;split
    · rename_i q
      rw [if_pos q] at h;refine Fu f _ _ _ h (fun h3=>?_) (by simp;omega);rw [List.all_append,ha he,Bool.true_and];simp [(NQ h3).2]
    · exact⟨ha he,by show ls.length≤8;omega⟩
theorem va {ws:List bC} {i:Nat} {e:Int} {ps:List pF} (h:H6 ws i e ps=true):e=0:=by
  unfold H6 at h;simp only [Bool.and_eq_true,decide_eq_true_eq] at h;exact h.1
theorem qN {ws:List bC} :∀(f i:Nat) (e:Int) (ps:List pF) (pl:List Int),(CH ws f i e ps pl).2.2.2=0→e=0
  |0,i,e,ps,pl,h=>by
    unfold CH at h;split at h
    · rename_i q;exact va q
    · exact h
  |f+1,i,e,ps,pl,h=>by
    unfold CH at h;split at h
    · rename_i q;exact va q
    · exact h
theorem ED {ws:List bC} :∀(f i:Nat) (e:Int) (ps:List pF) (pl:List Int),(CH ws f i e ps pl).2.2.2=0→ps.length+f≤8→
    1≤(CH ws f i e ps pl).1.length∧(CH ws f i e ps pl).1.length≤8
  |0,i,e,ps,pl,h,h2=>by
    have he:=qN 0 i e ps pl h;subst he
    unfold CH at h ⊢;split
    · rename_i q;rw [if_pos q] at h;cases h
    · rename_i q
      unfold H6 at q;simp only [decide_true,Bool.true_and,Bool.or_eq_true,decide_eq_true_eq,not_or] at q
      exact⟨by show 1≤ps.length;omega,h2⟩
  |f+1,i,e,ps,pl,h,h2=>by
    have he:=qN (f+1) i e ps pl h;subst he
    unfold CH at h ⊢;split
    · rename_i q
      rw [if_pos q] at h;exact ED f _ _ _ _ h (by simp;omega)
    · rename_i q
      unfold H6 at q;simp only [decide_true,Bool.true_and,Bool.or_eq_true,decide_eq_true_eq,not_or] at q
      exact⟨by show 1≤ps.length;omega,by show ps.length≤8;omega⟩
theorem Ot {ls:List ke} {ps:List pF} (h:0≤zi ls ps):Oi ls ps (zi ls ps)≠0:=by
  have:mM ls ps.length (ps.getD (zi ls ps).toNat default)=true:=(S1 default h).2
  unfold Oi;rw [if_neg om]
  simpa [mM] using this
theorem Tm (n:Nat) (m:Int):cG (n:Int) m=true↔1≤n∧(n:Int)≤m:=by
  unfold cG;simp only [Bool.and_eq_true,decide_eq_true_eq];omega
theorem IC {ws:List bC} {i:Nat} (h:(tj ws i).2.2=0):fy (tj ws i).1=true:=by
  unfold tj at h ⊢
  split at h
  · rename_i q;exact absurd h q
  rename_i q
  rw [if_neg q]
  split at h
  · rename_i q2;exact absurd h (Ot q2)
  rename_i q2
  rw [if_neg q2];have hP:=Classical.not_not.1 q;have p0:=qN _ _ _ _ _ hP;have p1:=ED _ _ _ _ _ hP (by simp);have l0:=qe _ _ _ _ p0;have l1:=Fu _ _ _ _ p0 (fun _=>rfl) (by simp);have g0:=uB _ _ _ _ l0;have g1:=E8 _ _ _ _ l0 (fun h3=>by simp [(q6 h3).2]) (by simp) (by simp);have b0:=q6 g0;have b1:=q6 b0.1;have a0:=q6 b1.1
  unfold fy
  simp only [Bool.and_eq_true,decide_eq_true_eq,Bool.not_eq_true'];exact⟨⟨⟨⟨⟨a0.2,b1.2⟩,⟨(Tm _ _).2 ⟨g1.2.1,by have:(sG ws i).1.length≤4:=g1.2.2;omega⟩,g1.1⟩⟩,⟨l1.2,l1.1⟩⟩,(Tm _ _).2 ⟨p1.1,by have:(sP ws i).1.length≤8:=p1.2;omega⟩⟩,T1 q2⟩
theorem On {ws:List bC} {p:Int} (h:(kK ws p).2.2=0):fy (kK ws p).1=true:=by
  unfold kK at h ⊢
  split at h
  · cases h
  · rename_i q;rw [if_neg q];exact IC h
/-! words are parsed again -/
/-! how many words -/
end Go.Eng
namespace Go.Eng
open Go Go.Proofs Go.RowKit
theorem sT (o:da) (w:World):aJ Tryz.prog 91 #[.agg (fO o).toArray] w (fun v w'=>v= .bool (nI o.k)∧Ext w w'):=by
 refine aJ.au Tryz.func91 rfl Tryz.ntmps91 rfl ([]) (no) (Mem.nil w) ?_;refine J2 ?_;refine LM.box rfl rfl (fun b1 Cm=>?_);refine J9 ?_;refine LM.ar (t:=6) rfl (fun h1=>?_) (fun h1=>?_)
 ·refine J9 ?_;refine qL Tryz.results91 rfl fun w' aq ab aI=>?_;refine ⟨?_,ab⟩;simp only [bA,nI];congr 1;first|(rw [decide_eq_false (show¬2≤o.k by omega)];rfl)|(rw [decide_eq_true (show 2≤o.k by omega)];rfl)
 refine J8 ?_;refine qL Tryz.results91 rfl fun w' aq ab aI=>?_;refine ⟨?_,ab⟩;simp only [bA,nI];congr 1;first|(rw [decide_eq_false (show¬2≤o.k by omega)];rfl)|(rw [decide_eq_true (show 2≤o.k by omega)];rfl)
theorem nZ.drop {xs:List da} (h:nZ xs) (k:Nat):nZ (xs.drop k):=⟨by rw [List.length_drop];have:=h.1;omega,fun o ho=>h.2 o (List.mem_of_mem_drop ho)⟩
theorem Gg {xs:List da} {i j:Nat} :(xs.drop i).getD j default=xs.getD (i+j) default:=by rw [List.getD_eq_getElem?_getD,List.getElem?_drop,←List.getD_eq_getElem?_getD]
abbrev sV (i to lock ticks:Int):Value:= .agg #[.int .i64 i,.int .i64 to,.int .i64 lock,.int .i64 ticks]
abbrev Zn (b:Nat) (i to lock ticks:Int):Nat×Obj:=(b,.cells #[.int .i64 i,.int .i64 to,.int .i64 lock,.int .i64 ticks] 171 (0,0))
abbrev oB (b:Nat) (o:da):Nat×Obj:=(b,.cells (fO o).toArray 168 (0,0))
theorem uf {lock:Int} {o:da} (h1:¬o.k=11) (h2:¬(o.k=6∧o.a=lock)):nP lock o=false:=by
  unfold nP;rw [decide_eq_false h1]
  by_cases h:o.k=6
  · rw [decide_eq_false (fun q=>h2 ⟨h,q⟩)];simp
  · rw [decide_eq_false h];rfl
theorem Ph {lock:Int} {o:da} (h1:o.k=11):nP lock o=true:=by unfold nP;rw [decide_eq_true h1];rfl
theorem TY {lock:Int} {o:da} (h1:o.k=6) (h2:o.a=lock):nP lock o=true:=by unfold nP;rw [decide_eq_true h1,decide_eq_true h2];simp
def uT (lock:Int) (ys:List da) (j:Nat) (acc:Int):Prop:=
  j≤ys.length∧(nF lock ys).1=j+(nF lock (ys.drop j)).1∧(nF lock ys).2=acc+(nF lock (ys.drop j)).2∧-((j:Int)*1125899906842624)≤acc∧acc≤(j:Int)*1125899906842624
theorem uT.zero (lock:Int) (ys:List da):uT lock ys 0 0:=⟨Nat.zero_le _,by simp,by simp,by simp,by simp⟩
theorem uT.step {lock:Int} {ys:List da} {j:Nat} {acc Vh:Int} (h:uT lock ys j acc) (hs:nZ ys) (hj:j<ys.length) (hn:nP lock (ys.getD j default)=false) (ha:Vh=acc+if (ys.getD j default).k=1 then (ys.getD j default).a else 0):uT lock ys (j+1) Vh:=by
  obtain ⟨h1,h2,h3,h4,h5⟩:=h;have e:=Ig hj hn;have hb:=hs.at j;rw [e] at h2 h3
  dsimp only at h2 h3
  have:((j+1:Nat):Int)*1125899906842624=(j:Int)*1125899906842624+1125899906842624:=by push_cast;omega
  refine ⟨by omega,by omega,by rw [ha];omega,?_,?_⟩<;>rw [this,ha] <;>split<;>omega
theorem uT.stop {lock:Int} {ys:List da} {j:Nat} {acc:Int} (h:uT lock ys j acc) (hj:j<ys.length) (hn:nP lock (ys.getD j default)=true):nF lock ys=(j,acc):=by
  obtain ⟨h1,h2,h3,h4,h5⟩:=h;rw [JY hj hn] at h2 h3;exact Prod.ext (by simpa using h2) (by simpa using h3)
theorem uT.fin {lock:Int} {ys:List da} {j:Nat} {acc:Int} (h:uT lock ys j acc) (hj:ys.length≤j):nF lock ys=(ys.length,acc):=by
  obtain ⟨h1,h2,h3,h4,h5⟩:=h;rw [OG hj] at h2 h3;exact Prod.ext (by dsimp only at h2 ⊢;omega) (by simpa using h3)
theorem wJ {xs:List da} {fv:Bool} {ad:Option Addr} {n cap:Nat} (i:Nat) (w:World) (hn:n=xs.length) (hl:Sr fO 3 xs (.slice ad n cap) w) (hs:nZ xs) (hi:i<xs.length):aJ Tryz.prog 92 #[pV fv ad n cap,.int .i64 (i:Nat)] w (fun v w'=>v=YQ xs i∧Ext w w'):=by
 have acj:=hs.1;have Pp:=hs.drop (i+1);obtain ⟨ys,p9⟩:∃ys,xs.drop (i+1)=ys:=⟨_,rfl⟩;have YJ:ys.length=xs.length-(i+1):=(by rw [←p9,List.length_drop]);have ab9:wS xs i=nF (xs.getD i default).a ys:=(by unfold wS;rw [p9]);have hyx:∀j,ys.getD j default=xs.getD (i+1+j) default:=(fun j=>by rw [←p9,Gg]);rw [p9] at Pp;simp only [YQ,ab9];refine aJ.au Tryz.func92 rfl Tryz.ntmps92 rfl ([]) (no) (Mem.nil w) ?_;refine J2 ?_;refine LM.box rfl rfl (fun b2 tn=>?_);refine LM.alloc Tryz.zeroValue171 rfl (fun b4 DT=>?_);refine cL ?_;refine LM.eR (dy (j:=1) aA Tryz.isAgg3 rfl rfl cR (by rfl) (by rfl) id) ?_;refine LM.val (aD (cs:=#[_,_,_,_]) rfl (by first|rfl|kernel_rfl)) ?_;refine LM.alloc Tryz.zeroValue171 rfl (fun b5 Ky=>?_);refine LM.dC Tryz.sizeOf171 rfl rfl rfl rfl dD cn ?_;refine J4 ?_;refine af.aS (α:=Nat×Int×Int) (fun ⟨j,to,acc⟩=>[]) [(2,_),(4,_),(5,_)] (fun ⟨j,to,acc⟩=>Zn b5 (i:Nat) to (xs.getD i default).a acc::Zn b4 0 0 0 0::pB b2 fv ad n cap:: []) (fun ⟨j,to,acc⟩=>uT (xs.getD i default).a ys j acc∧to=(i:Int)+1+(j:Nat)) (fun ⟨j,to,acc⟩=>ys.length-j) ((0,(i:Int)+1,0)) cm aX ⟨uT.zero _ ys,by simp⟩ ?_;rintro ⟨j,to,acc⟩ ⟨hI,hto⟩;change af _ _ _ _ _ _ _ (Zn b5 (i:Nat) to (xs.getD i default).a acc::Zn b4 0 0 0 0::pB b2 fv ad n cap:: []) _ _ _;have hj:=hI.1;have htn:to.toNat=i+1+j:=om;have ri:ys.getD j default=xs.getD to.toNat default:=(by rw [hyx,htn]);have hb:=Pp.at j;rw [ri] at hb;obtain ⟨-,-,-,Cm,tn⟩:=id hI;refine dA ?_;refine af.aj rfl (fun h1=>?_) (fun h1=>?_)
 ·refine J9 ?_;refine LM.val (cP pe Tryz.underlying115 Tryz.sizeOf168 rfl rfl om) ?_;refine LM.eR (dZ aA ir Tryz.isAgg168 Tryz.sizeOf168 rfl cR id) ?_;refine LM.alloc Tryz.zeroValue168 rfl (fun b6 Qh=>?_);refine LM.dC Tryz.sizeOf168 rfl rfl rfl rfl dD cn ?_;refine J9 ?_;refine LM.ar (t:=32) rfl (fun h2=>?_) (fun h2=>?_)
  ·refine J3 ?_;refine LM.db (t:=32) rfl rfl rfl ?_;refine cL ?_;refine LM.rd (bo Tryz.isAgg171 Tryz.sizeOf171 rfl rfl) ?_;refine LM.dC Tryz.sizeOf171 rfl rfl rfl rfl dD cn ?_;refine J8 ?_;refine QM.aV (ds:=([])) (.inl rfl) [.cell 4 171] Tryz.results92 bh (cN rfl Tryz.isAgg171 Tryz.sizeOf171 rfl bn) ?_;intro w' aq ab;have hq:=hI.stop om (by rw [ri];exact Ph h2);refine ⟨?_,ab⟩;rw [hq];show sV _ _ _ _=_;congr 5
  refine J5 ?_;refine LM.ar (t:=36) rfl (fun h3=>?_) (fun h3=>?_)
  ·refine dA ?_;refine af.aj rfl (fun h4=>?_) (fun h4=>?_)
   ·refine J2 ?_;refine LM.rd (bo Tryz.isAgg171 Tryz.sizeOf171 rfl rfl) ?_;refine LM.dC Tryz.sizeOf171 rfl rfl rfl rfl dD cn ?_;refine J8 ?_;refine QM.aV (ds:=([])) (.inl rfl) [.cell 4 171] Tryz.results92 bh (cN rfl Tryz.isAgg171 Tryz.sizeOf171 rfl bn) ?_;intro w' aq ab;have hq:=hI.stop om (by rw [ri];exact TY h3 h4);refine ⟨?_,ab⟩;rw [hq];show sV _ _ _ _=_;congr 5
   refine cf ?_;refine af.aj rfl (fun h5=>?_) (fun h5=>?_)
   ·refine J7 ?_;refine LM.st Tryz.sizeOf3 rfl rfl rfl ez rfl cn ?_;refine J7 ?_;refine LM.st Tryz.sizeOf3 rfl rfl rfl ez rfl cn ?_;refine J2 ?_;refine aK ((j+1,to+1,acc+(xs.getD to.toNat default).a)) ?_ ?_
    · exact⟨hI.step Pp om (by rw [ri];exact uf h2 (fun q=>by first|exact h4 q.2|exact h3 q.1)) (by rw [ri,if_pos h5]),by push_cast;omega⟩
    · omega
   refine J7 ?_;refine LM.st Tryz.sizeOf3 rfl rfl rfl ez rfl cn ?_;refine J2 ?_;refine aK ((j+1,to+1,acc)) ?_ ?_
   · exact⟨hI.step Pp om (by rw [ri];exact uf h2 (fun q=>by first|exact h4 q.2|exact h3 q.1)) (by rw [ri,if_neg h5];omega),by push_cast;omega⟩
   · (dsimp only;omega)
  refine UT ?_;refine af.aj rfl (fun h6=>?_) (fun h6=>?_)
  ·refine J7 ?_;refine LM.st Tryz.sizeOf3 rfl rfl rfl ez rfl cn ?_;refine J7 ?_;refine LM.st Tryz.sizeOf3 rfl rfl rfl ez rfl cn ?_;refine J2 ?_;refine aK ((j+1,to+1,acc+(xs.getD to.toNat default).a)) ?_ ?_
   · exact⟨hI.step Pp om (by rw [ri];exact uf h2 (fun q=>by first|exact h4 q.2|exact h3 q.1)) (by rw [ri,if_pos h6]),by push_cast;omega⟩
   · (dsimp only;omega)
  refine J7 ?_;refine LM.st Tryz.sizeOf3 rfl rfl rfl ez rfl cn ?_;refine J2 ?_;refine aK ((j+1,to+1,acc)) ?_ ?_
  · exact⟨hI.step Pp om (by rw [ri];exact uf h2 (fun q=>by first|exact h4 q.2|exact h3 q.1)) (by rw [ri,if_neg h6];omega),by push_cast;omega⟩
  · (dsimp only;omega)
 refine J7 ?_;refine LM.rd (bo Tryz.isAgg171 Tryz.sizeOf171 rfl rfl) ?_;refine LM.dC Tryz.sizeOf171 rfl rfl rfl rfl dD cn ?_;refine J3 ?_;refine QM.aV (ds:=([])) (.inl rfl) [.cell 4 171] Tryz.results92 bh (cN rfl Tryz.isAgg171 Tryz.sizeOf171 rfl bn) ?_;intro w' aq ab;have hq:=hI.fin om;refine ⟨?_,ab⟩;rw [hq];show sV _ _ _ _=_;congr 5;omega
end Go.Eng
namespace Go.Eng
open Go Go.Proofs Go.RowKit
def SK (fv:Bool) (xs:List da) (ls:List ke) (cO:Int):Value:= .tuple #[.int .i64 (Cn fv xs ls cO).1,.int .i64 (Cn fv xs ls cO).2]
theorem Bi {T K r:Bool} {q:Bool} {a:Int} {n:Nat} (hq:q=((T||K)&&decide (a ≥ n)||r)) (h:q=false) (ht:T=true):a<n:=by
  rw [h,ht,Bool.true_or,Bool.true_and] at hq;have:=(Bool.or_eq_false_iff.1 hq.symm).1;have:=of_decide_eq_false this;omega
theorem DD {fv:Bool} {xs:List da} {ls:List ke} {cO e:Int} {i:Nat} (h:kC xs=true) (h0:∀j,j<i→gC fv xs ls cO j=0) (hi:i<xs.length) (hf:gC fv xs ls cO i=e) (he:e≠0):SK fv xs ls cO= .tuple #[.int .i64 (i:Nat),.int .i64 e] :=by
  unfold SK;rw [Vg h h0 hi (by rw [hf];exact he),hf]
theorem zh {fv:Bool} {xs:List da} {ls:List ke} {cO:Int} {b:Bool} (h:kC xs=true) (h0:∀j,j<xs.length→gC fv xs ls cO j=0) (hb:(fv&& !xs.any (fun o=>gk o.k))=b):SK fv xs ls cO= .tuple #[.int .i64 0,.int .i64 (if b then 1 else 0)] :=by
  unfold SK;rw [T6 h h0,hb];cases b<;>rfl
theorem JA {fv:Bool} {xs:List da} {ls:List ke} {cO:Int} (h:kC xs=false):SK fv xs ls cO= .tuple #[.int .i64 0,.int .i64 1] :=by
  unfold SK;rw [Oo h]
set_option maxHeartbeats 1000000 in
theorem sD {xs:List da} {ls:List ke} {fv:Bool} {ad rk:Option Addr} {n cap n2 gA:Nat} (cO:Int) (w:World) (hn:n=xs.length) (hl:Sr fO 3 xs (.slice ad n cap) w) (H5:n2=ls.length) (nL:Sr fL 5 ls (.slice rk n2 gA) w):aJ Tryz.prog 49 #[pV fv ad n cap,.slice rk n2 gA,.int .i64 cO] w (fun v w'=>v=SK fv xs ls cO∧Ext w w'):=by
 refine aJ.au Tryz.func49 rfl Tryz.ntmps49 rfl ([]) (no) (Mem.nil w) ?_;refine J2 ?_;refine LM.box rfl rfl (fun b3 Jc=>?_);refine J7 ?_;refine LM.rd (bo Tryz.isAgg117 Tryz.sizeOf117 rfl rfl) ?_;refine cE Tryz.func90 rfl (fun w hm hc hg=>GY w hn (hl.ext hc)) ?_;refine J3 ?_;refine af.aW rfl (fun h1=>?_) (fun h1=>?_)
 ·refine J8 ?_;refine QM.leave (.inl rfl) [.tmp 6,.tmp 7] Tryz.results49 rfl ?_;intro w' aq ab aI;exact⟨(JA (by simpa using h1)).symm,ab⟩
 have MA:kC xs=true:=(by simpa using h1);have UO:=xH MA;have acj:=UO.1;refine lh ?_;refine af.aS (α:=Nat) (fun i=>[(8,.bool ((xs.take i).any (fun o=>gk o.k))),(9,.int .i64 (i:Nat))]) [(1,_),(2,_),(3,_)] (fun i=>pB b3 fv ad n cap:: []) (fun i=>i≤xs.length∧∀j,j<i→gC fv xs ls cO j=0) (fun i=>xs.length-i) (0) cm aX ⟨Nat.zero_le _,fun j hj=>absurd hj (Nat.not_lt_zero _)⟩ ?_;rintro i ⟨hi,h0⟩;change af _ _ _ _ _ _ _ (pB b3 fv ad n cap:: []) _ _ _;refine cf ?_;refine af.aj rfl (fun h2=>?_) (fun h2=>?_)
 ·refine cf ?_;refine LM.eR (dZ aA ir Tryz.isAgg168 Tryz.sizeOf168 rfl cR id) ?_;refine LM.alloc Tryz.zeroValue168 rfl (fun sQ JD=>?_);refine LM.dC Tryz.sizeOf168 rfl rfl rfl rfl dD cn ?_;refine J3 ?_;refine af.bH (α:=Bool) (fun t=>[(8,.bool t)]) [(1,_),(2,_),(3,_),(9,_),(10,_)] (fun t=>oB sQ (xs.getD i default)::pB b3 fv ad n cap:: []) (fun t=>t=(xs.take (i+1)).any (fun o=>gk o.k)) cm ?_ ?_
  ·refine J3 ?_;refine LM.bw (t:=28) rfl (fun h3=>?_) (fun h3=>?_)
   ·refine J21 ?_;refine mK (_) ?_
    · rw [fX default om,gk];simp only [h1,h2,h3,decide_true,decide_false,Bool.true_and,Bool.false_and,Bool.and_true,Bool.and_false,Bool.not_true,Bool.not_false,Bool.true_or,Bool.false_or,Bool.or_true,Bool.or_false,ne_eq,not_true_eq_false,not_false_eq_true,Bool.and_self]
   refine J6 ?_;refine LM.ar (t:=33) rfl (fun h4=>?_) (fun h4=>?_)
   ·refine ET ?_;refine mK (_) ?_
    · rw [fX default om,gk];simp only [h1,h2,h3,h4,decide_true,decide_false,Bool.true_and,Bool.false_and,Bool.and_true,Bool.and_false,Bool.not_true,Bool.not_false,Bool.true_or,Bool.false_or,Bool.or_true,Bool.or_false,ne_eq,not_true_eq_false,not_false_eq_true,Bool.and_self]
   refine J6 ?_;refine LM.ar (t:=38) rfl (fun h5=>?_) (fun h5=>?_)
   ·refine dA ?_;refine mK (_) ?_
    · rw [fX default om,gk];simp only [h1,h2,h3,h4,h5,decide_true,decide_false,Bool.true_and,Bool.false_and,Bool.and_true,Bool.and_false,Bool.not_true,Bool.not_false,Bool.true_or,Bool.false_or,Bool.or_true,Bool.or_false,ne_eq,not_true_eq_false,not_false_eq_true,Bool.and_self]
   refine J6 ?_;refine LM.ar (t:=43) rfl (fun h6=>?_) (fun h6=>?_)
   ·refine J6 ?_;refine mK (_) ?_
    · rw [fX default om,gk];simp only [h1,h2,h3,h4,h5,h6,decide_true,decide_false,Bool.true_and,Bool.false_and,Bool.and_true,Bool.and_false,Bool.not_true,Bool.not_false,Bool.true_or,Bool.false_or,Bool.or_true,Bool.or_false,ne_eq,not_true_eq_false,not_false_eq_true,Bool.and_self]
   refine J7 ?_;refine mK (_) ?_
   · rw [fX default om,gk];simp only [h1,h2,h3,h4,h5,h6,decide_true,decide_false,Bool.true_and,Bool.false_and,Bool.and_true,Bool.and_false,Bool.not_true,Bool.not_false,Bool.true_or,Bool.false_or,Bool.or_true,Bool.or_false,ne_eq,not_true_eq_false,not_false_eq_true,Bool.and_self]
  rintro t rfl;change QM _ _ _ _ _ (oB sQ (xs.getD i default)::pB b3 fv ad n cap:: []) _ _ _;have hr:=ym (yS MA (show i<xs.length by omega));refine J3 ?_;refine af.bH (α:=Bool) (fun q=>[(72,.bool q)]) [(1,_),(2,_),(3,_),(8,_),(9,_),(10,_)] (fun q=>oB sQ (xs.getD i default)::pB b3 fv ad n cap:: []) (fun q=>q=((nI (xs.getD i default).k||decide ((xs.getD i default).k=6))&&decide ((xs.getD i default).a ≥ n2)||decide ((xs.getD i default).k=9)&&decide ((xs.getD i default).a ≥ cO))) cm ?_ ?_
  ·refine J1 ?_;refine LM.rd (bo Tryz.isAgg168 Tryz.sizeOf168 rfl rfl) ?_;refine cE Tryz.func91 rfl (fun w hm hc hg=>sT _ w) ?_;refine J1 ?_;refine LM.bw (t:=50) rfl (fun h7=>?_) (fun h7=>?_)
   ·refine gz ?_;refine LM.ar (t:=62) rfl (fun h8=>?_) (fun h8=>?_)
    ·refine J3 ?_;refine LM.db (t:=62) rfl rfl rfl ?_;refine J7 ?_;refine mK (_) ?_
     · (simp only [h1,h2,h7,h8,decide_true,decide_false,Bool.true_and,Bool.false_and,Bool.and_true,Bool.and_false,Bool.not_true,Bool.not_false,Bool.true_or,Bool.false_or,Bool.or_true,Bool.or_false,ne_eq,not_true_eq_false,not_false_eq_true,Bool.and_self];done)
    refine J5 ?_;refine LM.ar (t:=66) rfl (fun h9=>?_) (fun h9=>?_)
    ·refine J8 ?_;refine mK (_) ?_
     · (simp only [h1,h2,h7,h8,h9,decide_true,decide_false,Bool.true_and,Bool.false_and,Bool.and_true,Bool.and_false,Bool.not_true,Bool.not_false,Bool.true_or,Bool.false_or,Bool.or_true,Bool.or_false,ne_eq,not_true_eq_false,not_false_eq_true,Bool.and_self];done)
    refine J7 ?_;refine mK (_) ?_
    · (simp only [h1,h2,h7,h8,h9,decide_true,decide_false,Bool.true_and,Bool.false_and,Bool.and_true,Bool.and_false,Bool.not_true,Bool.not_false,Bool.true_or,Bool.false_or,Bool.or_true,Bool.or_false,ne_eq,not_true_eq_false,not_false_eq_true,Bool.and_self];done)
   refine J6 ?_;refine LM.ar (t:=55) rfl (fun iT=>?_) (fun iT=>?_)
   ·refine J8 ?_;refine LM.ar (t:=62) rfl (fun kg=>?_) (fun kg=>?_)
    ·refine J3 ?_;refine LM.db (t:=62) rfl rfl rfl ?_;refine J7 ?_;refine mK (_) ?_
     · (simp only [h1,h2,h7,iT,kg,decide_true,decide_false,Bool.true_and,Bool.false_and,Bool.and_true,Bool.and_false,Bool.not_true,Bool.not_false,Bool.true_or,Bool.false_or,Bool.or_true,Bool.or_false,ne_eq,not_true_eq_false,not_false_eq_true,Bool.and_self];done)
    refine J5 ?_;refine LM.ar (t:=66) rfl (fun gJ=>?_) (fun gJ=>?_)
    ·refine J8 ?_;refine mK (_) ?_
     · (exfalso;omega)
    refine J7 ?_;refine mK (_) ?_
    · (simp only [h1,h2,h7,iT,kg,gJ,decide_true,decide_false,Bool.true_and,Bool.false_and,Bool.and_true,Bool.and_false,Bool.not_true,Bool.not_false,Bool.true_or,Bool.false_or,Bool.or_true,Bool.or_false,ne_eq,not_true_eq_false,not_false_eq_true,Bool.and_self];rfl)
   refine cL ?_;refine LM.ar (t:=66) rfl (fun ow=>?_) (fun ow=>?_)
   ·refine J8 ?_;refine mK (_) ?_
    · (simp only [h1,h2,h7,iT,ow,decide_true,decide_false,Bool.true_and,Bool.false_and,Bool.and_true,Bool.and_false,Bool.not_true,Bool.not_false,Bool.true_or,Bool.false_or,Bool.or_true,Bool.or_false,ne_eq,not_true_eq_false,not_false_eq_true,Bool.and_self];rfl)
   refine J7 ?_;refine mK (_) ?_
   · (simp only [h1,h2,h7,iT,ow,decide_true,decide_false,Bool.true_and,Bool.false_and,Bool.and_true,Bool.and_false,Bool.not_true,Bool.not_false,Bool.true_or,Bool.false_or,Bool.or_true,Bool.or_false,ne_eq,not_true_eq_false,not_false_eq_true,Bool.and_self];done)
  rintro q hq;change QM _ _ _ _ _ (oB sQ (xs.getD i default)::pB b3 fv ad n cap:: []) _ _ _;refine J1 ?_;refine af.aW rfl (fun jt=>?_) (fun jt=>?_)
  ·refine lh ?_;refine QM.leave (.inl rfl) [.tmp 6,.tmp 7] Tryz.results49 rfl ?_;intro w' aq ab aI;exact⟨(DD (e:=4) MA h0 om (by simp only [gC,←hn,←H5,←hq];simp only [h1,h2,jt,decide_true,decide_false,Bool.true_and,Bool.false_and,Bool.and_true,Bool.and_false,Bool.not_true,Bool.not_false,Bool.true_or,Bool.false_or,Bool.or_true,Bool.or_false,ne_eq,not_true_eq_false,not_false_eq_true,Bool.and_self,if_true]) (by decide)).symm,ab⟩
  refine J4 ?_;refine af.bH (α:=Bool) (fun q3=>[(85,.bool q3)]) [(1,_),(2,_),(3,_),(8,_),(9,_),(10,_)] (fun q3=>oB sQ (xs.getD i default)::pB b3 fv ad n cap:: []) (fun q3=>q3=(decide ((xs.getD i default).k=3)&& !(ls.getD (xs.getD i default).a.toNat default).sh)) cm ?_ ?_
  ·refine J5 ?_;refine LM.ar (t:=77) rfl (fun wY=>?_) (fun wY=>?_)
   ·have bB:=Bi hq jt (by rw [wY];rfl);refine J4 ?_;refine LM.sp 77 rfl rfl rfl ?_;refine LM.val (cP pe Tryz.underlying27 Tryz.sizeOf83 rfl rfl om) ?_;refine J2 ?_;refine LM.eR (dy (j:=0) aA Tryz.isAgg4 rfl rfl cR (by rfl) (by rfl) id) ?_;refine J3 ?_;refine mK (_) ?_
    · simp only [h1,h2,jt,wY,decide_true,decide_false,Bool.true_and,Bool.false_and,Bool.and_true,Bool.and_false,Bool.not_true,Bool.not_false,Bool.true_or,Bool.false_or,Bool.or_true,Bool.or_false,ne_eq,not_true_eq_false,not_false_eq_true,Bool.and_self]
   refine J9 ?_;refine mK (_) ?_
   · simp only [h1,h2,jt,wY,decide_true,decide_false,Bool.true_and,Bool.false_and,Bool.and_true,Bool.and_false,Bool.not_true,Bool.not_false,Bool.true_or,Bool.false_or,Bool.or_true,Bool.or_false,ne_eq,not_true_eq_false,not_false_eq_true,Bool.and_self]
  rintro q3 CJ;change QM _ _ _ _ _ (oB sQ (xs.getD i default)::pB b3 fv ad n cap:: []) _ _ _;refine J1 ?_;refine af.aW rfl (fun tv=>?_) (fun tv=>?_)
  ·refine lh ?_;refine QM.leave (.inl rfl) [.tmp 6,.tmp 7] Tryz.results49 rfl ?_;intro w' aq ab aI;exact⟨(DD (e:=1) MA h0 om (by simp only [gC,←hn,←H5,←hq,←CJ];simp only [h1,h2,jt,tv,decide_true,decide_false,Bool.true_and,Bool.false_and,Bool.and_true,Bool.and_false,Bool.not_true,Bool.not_false,Bool.true_or,Bool.false_or,Bool.or_true,Bool.or_false,ne_eq,not_true_eq_false,not_false_eq_true,Bool.and_self,if_true,if_false,Bool.false_eq_true]) (by decide)).symm,ab⟩
  refine J4 ?_;refine LM.rd (bo Tryz.isAgg168 Tryz.sizeOf168 rfl rfl) ?_;refine cE Tryz.func91 rfl (fun w hm hc hg=>sT _ w) ?_;refine J2 ?_;refine af.aW rfl (fun pM=>?_) (fun pM=>?_)
  ·have bB:=Bi hq jt pM;refine J2 ?_;refine LM.rd (bo Tryz.isAgg117 Tryz.sizeOf117 rfl rfl) ?_;refine J1 ?_;refine cE Tryz.func92 rfl (fun w hm hc hg=>wJ i w hn (hl.ext hc) UO om) ?_;refine LM.alloc Tryz.zeroValue171 rfl (fun b11 aeg=>?_);refine LM.dC Tryz.sizeOf171 rfl rfl rfl rfl dD cn ?_;refine J3 ?_;refine af.bH (α:=Bool) (fun q4=>[(117,.bool q4)]) [(1,_),(2,_),(3,_),(8,_),(9,_)] (fun q4=>pB b3 fv ad n cap:: []) (fun q4=>q4=(decide ((wS xs i).2<1)||decide ((wS xs i).2 > (ls.getD (xs.getD i default).a.toNat default).cr)||fv&&decide (((i+1+(wS xs i).1:Nat):Int)=n))) cm ?_ ?_
   ·refine af.draw [(0,0),(1,1),(2,0),(3,0),(4,0),(5,1),(6,0),(7,0),(8,1),(9,0),(10,0),(11,1),(12,0),(13,0),(14,0),(15,0),(16,1),(17,0),(18,0),(19,1),(20,0),(21,1),(22,0),(23,0),(24,0),(25,0)] kr kr ?_;refine J4 ?_;refine LD.ar (t:=95) rfl (fun sS=>?_) (fun sS=>?_)
    ·refine gz ?_;refine LD.db rfl rfl ⟨106,_,rfl,rfl,rfl⟩ ?_;refine J9 ?_;refine mK (_) ?_
     · simp only [h1,h2,jt,tv,pM,sS,decide_true,decide_false,Bool.true_and,Bool.false_and,Bool.and_true,Bool.and_false,Bool.not_true,Bool.not_false,Bool.true_or,Bool.false_or,Bool.or_true,Bool.or_false,ne_eq,not_true_eq_false,not_false_eq_true,Bool.and_self]
    refine J5 ?_;refine LD.val rfl ⟨95,_,rfl,rfl,rfl⟩ (cP pe Tryz.underlying27 Tryz.sizeOf83 rfl rfl om) ?_;refine J1 ?_;refine LD.eR rfl ⟨95,_,rfl,rfl,rfl⟩ (dy (j:=2) aA Tryz.isAgg3 rfl rfl cR (by rfl) (by rfl) id) ?_;refine J3 ?_;refine LD.ar (t:=106) rfl (fun CA=>?_) (fun CA=>?_)
    ·refine J2 ?_;refine LD.db rfl rfl ⟨106,_,rfl,rfl,rfl⟩ ?_;refine J9 ?_;refine mK (_) ?_
     · simp only [h1,h2,jt,tv,pM,sS,CA,decide_true,decide_false,Bool.true_and,Bool.false_and,Bool.and_true,Bool.and_false,Bool.not_true,Bool.not_false,Bool.true_or,Bool.false_or,Bool.or_true,Bool.or_false,ne_eq,not_true_eq_false,not_false_eq_true,Bool.and_self]
    refine J3 ?_;refine LD.bw (t:=109) rfl (fun w5=>?_) (fun w5=>?_)
    ·refine J9 ?_;refine mK (_) ?_
     · simp only [h1,h2,jt,tv,pM,sS,CA,w5,decide_true,decide_false,Bool.true_and,Bool.false_and,Bool.and_true,Bool.and_false,Bool.not_true,Bool.not_false,Bool.true_or,Bool.false_or,Bool.or_true,Bool.or_false,ne_eq,not_true_eq_false,not_false_eq_true,Bool.and_self]
    refine J9 ?_;refine mK (_) ?_
    · simp only [h1,h2,jt,tv,pM,sS,CA,w5,decide_true,decide_false,Bool.true_and,Bool.false_and,Bool.and_true,Bool.and_false,Bool.not_true,Bool.not_false,Bool.true_or,Bool.false_or,Bool.or_true,Bool.or_false,ne_eq,not_true_eq_false,not_false_eq_true,Bool.and_self]
   rintro q4 Q6;change QM _ _ _ _ _ (pB b3 fv ad n cap:: []) _ _ _;refine J1 ?_;refine af.aW rfl (fun H8=>?_) (fun H8=>?_)
   ·refine gz ?_;refine QM.leave (.inl rfl) [.tmp 6,.tmp 7] Tryz.results49 rfl ?_;intro w' aq ab aI;exact⟨(DD (e:=13) MA h0 om (by simp only [gC,←hn,←H5,←hq,←CJ,←Q6];simp only [h1,h2,jt,tv,pM,H8,decide_true,decide_false,Bool.true_and,Bool.false_and,Bool.and_true,Bool.and_false,Bool.not_true,Bool.not_false,Bool.true_or,Bool.false_or,Bool.or_true,Bool.or_false,ne_eq,not_true_eq_false,not_false_eq_true,Bool.and_self,if_true,if_false,Bool.false_eq_true]) (by decide)).symm,ab⟩
   refine J8 ?_;refine aK (i+1) ?_ ?_
   · exact⟨by omega,sZ h0 (by simp only [gC,←hn,←H5,←hq,←CJ,←Q6];simp only [h1,h2,jt,tv,pM,H8,decide_true,decide_false,Bool.true_and,Bool.false_and,Bool.and_true,Bool.and_false,Bool.not_true,Bool.not_false,Bool.true_or,Bool.false_or,Bool.or_true,Bool.or_false,ne_eq,not_true_eq_false,not_false_eq_true,Bool.and_self,if_true,if_false,ite_true,Bool.false_eq_true])⟩
   · omega
  refine J8 ?_;refine aK (i+1) ?_ ?_
  · exact⟨by omega,sZ h0 (by simp only [gC,←hn,←H5,←hq,←CJ];simp only [h1,h2,jt,tv,pM,decide_true,decide_false,Bool.true_and,Bool.false_and,Bool.and_true,Bool.and_false,Bool.not_true,Bool.not_false,Bool.true_or,Bool.false_or,Bool.or_true,Bool.or_false,ne_eq,not_true_eq_false,not_false_eq_true,Bool.and_self,if_true,if_false,ite_true,Bool.false_eq_true])⟩
  · omega
 refine dA ?_;refine LM.bw (t:=121) rfl (fun L5=>?_) (fun L5=>?_)
 ·refine J5 ?_;refine af.aW rfl (fun HZ=>?_) (fun HZ=>?_)
  ·refine J8 ?_;refine QM.leave (.inl rfl) [.tmp 6,.tmp 7] Tryz.results49 rfl ?_;intro w' aq ab aI;have fp:i=xs.length:=om;subst fp;rw [List.take_length] at HZ;exact⟨(zh (b:=true) MA h0 (by rw [L5,HZ];rfl)).symm,ab⟩
  refine J9 ?_;refine QM.leave (.inl rfl) [.tmp 6,.tmp 7] Tryz.results49 rfl ?_;intro w' aq ab aI;have fp:i=xs.length:=om;subst fp;rw [List.take_length] at HZ;exact⟨(zh (b:=false) MA h0 (by rw [L5,HZ];rfl)).symm,ab⟩
 refine tO ?_;refine QM.leave (.inl rfl) [.tmp 6,.tmp 7] Tryz.results49 rfl ?_;intro w' aq ab aI;have fp:i=xs.length:=om;subst fp;exact⟨(zh (b:=false) MA h0 (by rw [L5];rfl)).symm,ab⟩
structure mI where
  c:pF
  ad:Option Addr
  n:Nat
  cap:Nat
instance:Inhabited mI:=⟨⟨default,none,0,0⟩⟩
def V5 (p:mI):List Value:=[.bool p.c.fv,.slice p.ad p.n p.cap]
def mI.In (p:mI) (w:World):Prop:=p.n=p.c.xs.length∧Sr fO 3 p.c.xs (.slice p.ad p.n p.cap) w
theorem mI.In.ext {p:mI} {w w':World} (h:p.In w) (k:Ext w w'):p.In w':=⟨h.1,h.2.ext k⟩
def sz (ps:List mI) (w:World):Prop:=∀p∈ps,p.In w
theorem sz.ext {ps:List mI} {w w':World} (h:sz ps w) (k:Ext w w'):sz ps w':=fun p hp=>(h p hp).ext k
structure eM where
  cr:Int
  gr:Int
  gs:List Int
  ga:Option Addr
  gn:Nat
  gc:Nat
  ls:List ke
  la:Option Addr
  ln:Nat
  lc:Nat
  ps:List mI
  pa:Option Addr
  pn:Nat
  pc:Nat
instance:Inhabited eM:=⟨⟨0,0,[],none,0,0,[],none,0,0,[],none,0,0⟩⟩
def eM.cs (s:eM):List Value:=[.int .i64 s.cr,.int .i64 s.gr,.slice s.ga s.gn s.gc,.slice s.la s.ln s.lc,.slice s.pa s.pn s.pc]
abbrev eM.val (s:eM):Value:= .agg #[.int .i64 s.cr,.int .i64 s.gr,.slice s.ga s.gn s.gc,.slice s.la s.ln s.lc,.slice s.pa s.pn s.pc]
def eM.C (s:eM):km:=⟨s.cr,s.gr,s.gs,s.ls,s.ps.map mI.c⟩
structure eM.In (s:eM) (w:World):Prop where
  My:s.gn=s.gs.length
  hg:Sr fI 1 s.gs (.slice s.ga s.gn s.gc) w
  AO:s.ln=s.ls.length
  hl:Sr fL 5 s.ls (.slice s.la s.ln s.lc) w
  CC:s.pn=s.ps.length
  hp:Sr V5 2 s.ps (.slice s.pa s.pn s.pc) w
  ops:sz s.ps w
theorem eM.In.ext {s:eM} {w w':World} (h:s.In w) (k:Ext w w'):s.In w':=⟨h.My,h.hg.ext k,h.AO,h.hl.ext k,h.CC,h.hp.ext k,h.ops.ext k⟩
theorem kX {ps:List mI} {i:Nat} :(ps.map mI.c).getD i default=(ps.getD i default).c:=by
  rw [List.getD_eq_getElem?_getD,List.getD_eq_getElem?_getD,List.getElem?_map];cases ps[i]? <;>rfl
abbrev qO (ad:Option Addr) (n cap:Nat) (i:Nat) (e:Int):Obj:= .cells #[.slice ad n cap,.int .i64 (i:Nat),.int .i64 e] 157 (0,0)
abbrev qB (b:Nat) (ad:Option Addr) (n cap:Nat) (i:Nat) (e:Int):Nat×Obj:=(b,qO ad n cap i e)
set_option maxHeartbeats 1000000 in
theorem jm {ws:List bC} (b:Nat) {ad:Option Addr} {n cap:Nat} (i:Nat) (e k:Int) (t:List UInt8) (w:World) (hn:n=ws.length) (hl:Sr fW 4 ws (.slice ad n cap) w) (hM:Mem w [qB b ad n cap i e]):aJ Tryz.prog 83 #[.pointer (some ⟨b,0,none⟩),.int .i64 k,vS t] w (fun v w'=>v= .bool (mX ws i e k t)∧Ext w w'):=by
 refine aJ.au Tryz.func83 rfl Tryz.ntmps83 rfl ([qB b ad n cap i e]) (no) hM ?_;refine J6 ?_;refine af.draw [(0,0),(1,0),(2,0),(3,1),(4,0),(5,0),(6,0),(7,0),(8,0),(9,1),(10,0),(11,0),(12,0),(13,1),(14,0),(15,0),(16,0),(17,0),(18,0),(19,0),(20,0),(21,1),(22,0),(23,0),(24,0),(25,1),(26,0),(27,0),(28,1),(29,0),(30,0),(31,0),(32,0),(33,0),(34,0),(35,0),(36,1),(37,0),(38,0),(39,0),(40,1),(41,0),(42,0),(43,1),(44,0),(45,0),(46,0),(47,0)] kr kr ?_;refine J6 ?_;refine LD.ar (t:=12) rfl (fun h1=>?_) (fun h1=>?_)
 ·refine cL ?_;refine LD.ar (t:=24) rfl (fun h2=>?_) (fun h2=>?_)
  ·refine cf ?_;refine LD.eR rfl ⟨24,_,rfl,rfl,rfl⟩ (dy (j:=0) aA Tryz.isAgg3 rfl rfl cR (by rfl) (by rfl) id) ?_;refine J4 ?_;refine LD.ar (t:=39) rfl (fun h3=>?_) (fun h3=>?_)
   ·refine cf ?_;refine LD.eR rfl ⟨39,_,rfl,rfl,rfl⟩ (dy (j:=1) aA Tryz.isAgg9 rfl rfl cR (by rfl) (by rfl) id) ?_;refine J1 ?_;refine LD.val rfl ⟨39,_,rfl,rfl,rfl⟩ (qE rfl rfl) ?_;refine J5 ?_;refine qL Tryz.results83 rfl fun w' aq ab aI=>?_;refine ⟨?_,ab⟩;simp only [bA,mX];rw [decide_eq_true h1,decide_eq_true (show i<ws.length by omega),decide_eq_true h3];simp only [Bool.true_and]
   refine Ft ?_;refine qL Tryz.results83 rfl fun w' aq ab aI=>?_;refine ⟨?_,ab⟩;simp only [bA,mX];rw [decide_eq_false h3];simp only [Bool.and_false,Bool.false_and]
  refine J33 ?_;refine qL Tryz.results83 rfl fun w' aq ab aI=>?_;refine ⟨?_,ab⟩;simp only [bA,mX];rw [decide_eq_false (show¬i<ws.length by omega)];simp only [Bool.and_false,Bool.false_and]
 refine J45 ?_;refine qL Tryz.results83 rfl fun w' aq ab aI=>?_;refine ⟨?_,ab⟩;simp only [bA,mX];rw [decide_eq_false h1];simp only [Bool.and_false,Bool.false_and]
theorem fC {ws:List bC} (b:Nat) {ad:Option Addr} {n cap:Nat} (i:Nat) (e k:Int) (t:List UInt8) (w:World) (hn:n=ws.length) (hx:ws.length≤1000000000) (hl:Sr fW 4 ws (.slice ad n cap) w) (jM:0<ws.length→iL ad≠b) (hM:Mem w [qB b ad n cap i e]):aJ Tryz.prog 82 #[.pointer (some ⟨b,0,none⟩),.int .i64 k,vS t] w (Tk b (.tuple #[]) (qO ad n cap (eX ws i e k t).1 (eX ws i e k t).2) w):=by
 refine aJ.au Tryz.func82 rfl Tryz.ntmps82 rfl ([qB b ad n cap i e]) ((fun x=>x=b)) hM ?_;refine J5 ?_;refine cE Tryz.func83 rfl (fun w hm hc hg=>jm b i e k t w hn (hl.kp hc jM) (hm.pick _)) ?_;refine J2 ?_;refine af.aW rfl (fun h1=>?_) (fun h1=>?_)
 ·have bB:=(nG h1).1;refine J8 ?_;refine LM.st Tryz.sizeOf3 rfl rfl rfl ez rfl (fun _=>rfl) ?_;refine J1 ?_;refine QM.leave (.inr rfl) [] Tryz.results82 rfl ?_;intro w' aq ab aI;refine ⟨rfl,ab,?_⟩;have h3:=aq.at b;unfold eX;rw [if_pos h1];exact h3
 refine J9 ?_;refine af.aj rfl (fun h2=>?_) (fun h2=>?_)
 ·refine J4 ?_;refine LM.st Tryz.sizeOf3 rfl rfl rfl ez rfl (fun _=>rfl) ?_;refine J1 ?_;refine QM.leave (.inr rfl) [] Tryz.results82 rfl ?_;intro w' aq ab aI;refine ⟨rfl,ab,?_⟩;have h3:=aq.at b;unfold eX;rw [if_neg (by rw [h1];simp),if_pos h2];exact h3
 refine J1 ?_;refine QM.leave (.inr rfl) [] Tryz.results82 rfl ?_;intro w' aq ab aI;refine ⟨rfl,ab,?_⟩;have h3:=aq.at b;unfold eX;rw [if_neg (by rw [h1];simp),if_neg h2];exact h3
set_option maxHeartbeats 1000000 in
theorem df {ws:List bC} (b:Nat) {ad:Option Addr} {n cap:Nat} (i:Nat) (e gy:Int) (nm:List UInt8) (w:World) (hn:n=ws.length) (hx:ws.length≤1000000000) (hl:Sr fW 4 ws (.slice ad n cap) w) (jM:0<ws.length→iL ad≠b) (hM:Mem w [qB b ad n cap i e]):aJ Tryz.prog 81 #[.pointer (some ⟨b,0,none⟩),vS nm,.int .i64 gy] w (Tk b (.int .i64 (du ws i e nm gy).2.2) (qO ad n cap (du ws i e nm gy).1 (du ws i e nm gy).2.1) w):=by
 refine aJ.au Tryz.func81 rfl Tryz.ntmps81 rfl ([qB b ad n cap i e]) ((fun x=>x=b)) hM ?_;refine J9 ?_;refine LM.cW (oC Tryz.func82) (fun w hm hc hg=>fC b i e 1 nm w hn hx (hl.kp hc jM) jM (hm.pick _)) rfl (fun _=>rfl) ?_;refine cL ?_;refine af.aj rfl (fun h1=>?_) (fun h1=>?_)
 ·refine J7 ?_;refine qL Tryz.results81 rfl fun w' aq ab aI=>?_
  unfold du;rw [P5 h1];exact⟨rfl,ab,aq.at b⟩
 have Ep:(eX ws i e 1 nm).2=0:=Classical.not_not.1 h1;refine J4 ?_;refine af.draw [(0,0),(1,0),(2,0),(3,1),(4,0),(5,0),(6,0),(7,1),(8,0),(9,0),(10,0),(11,0),(12,0),(13,0),(14,1),(15,0),(16,0),(17,0),(18,1),(19,0),(20,0),(21,1),(22,0),(23,0)] kr kr ?_;refine dA ?_;refine LD.ar (t:=26) rfl (fun h2=>?_) (fun h2=>?_)
 ·refine J21 ?_;refine LM.st Tryz.sizeOf3 rfl rfl rfl ez rfl (fun _=>rfl) ?_;refine J9 ?_;refine qL Tryz.results81 rfl fun w' aq ab aI=>?_
  unfold du;rw [Ep,Qe (by decide) (.inl om)];exact⟨rfl,ab,aq.at b⟩
 refine cf ?_;refine LD.eR rfl ⟨26,_,rfl,rfl,rfl⟩ (dy (j:=0) aA Tryz.isAgg3 rfl rfl cR (by rfl) (by rfl) (by exact jM om)) ?_;refine J4 ?_;refine af.aj rfl (fun h3=>?_) (fun h3=>?_)
 ·refine J5 ?_;refine LM.st Tryz.sizeOf3 rfl rfl rfl ez rfl (fun _=>rfl) ?_;refine J9 ?_;refine qL Tryz.results81 rfl fun w' aq ab aI=>?_
  unfold du;rw [Ep,Qe (by decide) (.inr h3)];exact⟨rfl,ab,aq.at b⟩
 refine J3 ?_;refine af.draw [(0,0),(1,0),(2,0),(3,1),(4,0),(5,0),(6,0),(7,1),(8,0),(9,0),(10,1),(11,0)] kr kr ?_;refine cf ?_;refine LD.eR rfl rfl (dy (j:=2) aA Tryz.isAgg3 rfl rfl cR (by rfl) (by rfl) (by exact jM om)) ?_;refine J9 ?_;refine LM.ar (t:=56) rfl (fun h4=>?_) (fun h4=>?_)
 ·refine cL ?_;refine LM.st Tryz.sizeOf3 rfl rfl rfl ez rfl (fun _=>rfl) ?_;refine J9 ?_;refine qL Tryz.results81 rfl fun w' aq ab aI=>?_
  unfold du;rw [Ep,PR (by decide) om (Classical.not_not.1 h3) (by unfold hasB;rw [if_neg (by decide),decide_eq_false om];rfl)];exact⟨rfl,ab,aq.at b⟩
 refine J6 ?_;refine af.aj rfl (fun h5=>?_) (fun h5=>?_)
 ·refine J5 ?_;refine LM.st Tryz.sizeOf3 rfl rfl rfl ez rfl (fun _=>rfl) ?_;refine J9 ?_;refine qL Tryz.results81 rfl fun w' aq ab aI=>?_
  unfold du;rw [Ep,PR (by decide) om (Classical.not_not.1 h3) (by unfold hasB;rw [if_neg (by decide),decide_eq_true om,decide_eq_false om];rfl)];exact⟨rfl,ab,aq.at b⟩
 refine dA ?_;refine LM.st Tryz.sizeOf3 rfl rfl rfl ez rfl (fun _=>rfl) ?_;refine J9 ?_;refine qL Tryz.results81 rfl fun w' aq ab aI=>?_
 unfold du;rw [Ep,Y8 (by decide) om (Classical.not_not.1 h3) (by unfold hasB;rw [if_neg (by decide),decide_eq_true om,decide_eq_true om];rfl)];exact⟨rfl,ab,by have:=aq.at b;rw [Ep] at this;exact this⟩
theorem pL {ws:List bC} (b:Nat) {ad:Option Addr} {n cap:Nat} (i:Nat) (e k gy:Int) (w:World) (hM:Mem w [qB b ad n cap i e]):aJ Tryz.prog 84 #[.pointer (some ⟨b,0,none⟩),.int .i64 k,.int .i64 gy] w (Tk b (.bool (decide (e≠0)||decide (gy≤k))) (qO ad n cap i (if e=0∧gy≤k then 6 else e)) w):=by
 refine aJ.au Tryz.func84 rfl Tryz.ntmps84 rfl ([qB b ad n cap i e]) ((fun x=>x=b)) hM ?_;refine lh ?_;refine LM.ar (t:=12) rfl (fun h1=>?_) (fun h1=>?_)
 ·refine J6 ?_;refine af.aj rfl (fun h2=>?_) (fun h2=>?_)
  ·refine J4 ?_;refine LM.st Tryz.sizeOf3 rfl rfl rfl ez rfl (fun _=>rfl) ?_;refine gz ?_;refine qL Tryz.results84 rfl fun w' aq ab aI=>?_;refine ⟨?_,ab,?_⟩;(rw [decide_eq_true (show gy≤k from h2),Bool.or_true];rfl);(rw [if_pos ⟨h1,h2⟩];exact aq.at b)
  refine gz ?_;refine qL Tryz.results84 rfl fun w' aq ab aI=>?_;refine ⟨?_,ab,?_⟩;(rw [decide_eq_false (show¬gy≤k from h2),Bool.or_false];rfl);(rw [if_neg (fun q=>h2 q.2)];exact aq.at b)
 refine UT ?_;refine qL Tryz.results84 rfl fun w' aq ab aI=>?_;refine ⟨?_,ab,?_⟩;(rw [decide_eq_true (show e≠0 from h1)];rfl);(rw [if_neg (fun q=>h1 q.1)];exact aq.at b)
set_option maxHeartbeats 1000000 in
theorem BQ {ws:List bC} (b:Nat) {ad:Option Addr} {n cap:Nat} (i:Nat) (e:Int) (w:World) (hn:n=ws.length) (hx:ws.length≤1000000000) (hl:Sr fW 4 ws (.slice ad n cap) w) (jM:0<ws.length→iL ad≠b) (hM:Mem w [qB b ad n cap i e]):aJ Tryz.prog 85 #[.pointer (some ⟨b,0,none⟩),.bool true] w (Tk b (.agg (fL (jQ ws true i e).2.2).toArray) (qO ad n cap (jQ ws true i e).1 (jQ ws true i e).2.1) w):=by
 refine aJ.au Tryz.func85 rfl Tryz.ntmps85 rfl ([qB b ad n cap i e]) ((fun x=>x=b)) hM ?_;refine J2 ?_;refine LM.alloc Tryz.zeroValue83 rfl (fun b4 DT=>?_);refine J5 ?_;refine LM.val (aD (cs:=#[_,_,_,_,_]) rfl (by first|rfl|kernel_rfl)) ?_;refine LM.alloc Tryz.zeroValue83 rfl (fun b5 Ky=>?_);refine LM.dC Tryz.sizeOf83 rfl rfl rfl rfl dD (fun bB=>by first|exact rfl|exact absurd bB om) ?_;refine J5 ?_;refine LM.cW (oC Tryz.func81) (fun w hm hc hg=>df b i e 16 pZ w hn hx (hl.kp hc jM) jM (sm hm)) rfl (fun bB=>by first|exact rfl|exact absurd bB om) ?_;refine J1 ?_;refine LM.st Tryz.sizeOf3 rfl rfl rfl ez rfl (fun bB=>by first|exact rfl|exact absurd bB om) ?_;refine J5 ?_;refine LM.cW (oC Tryz.func81) (fun w hm hc hg=>df b (Ct ws i e).1 (Ct ws i e).2.1 32 uG w hn hx (hl.kp hc jM) jM (sm hm)) rfl (fun bB=>by first|exact rfl|exact absurd bB om) ?_;refine J1 ?_;refine LM.st Tryz.sizeOf3 rfl rfl rfl ez rfl (fun bB=>by first|exact rfl|exact absurd bB om) ?_;refine J8 ?_;refine af.aW rfl (fun h1=>?_) (fun h1=>?_)
 ·refine J3 ?_;refine LM.cW (oC Tryz.func81) (fun w hm hc hg=>df b (HV ws i e).1 (HV ws i e).2.1 16 Fk w hn hx (hl.kp hc jM) jM (sm hm)) rfl (fun bB=>by first|exact rfl|exact absurd bB om) ?_;refine J1 ?_;refine LM.st Tryz.sizeOf3 rfl rfl rfl ez rfl (fun bB=>by first|exact rfl|exact absurd bB om) ?_;refine J4 ?_;refine LM.cW (oC Tryz.func81) (fun w hm hc hg=>df b (HJ ws true i e).1 (HJ ws true i e).2.1 16 yz w hn hx (hl.kp hc jM) jM (sm hm)) rfl (fun bB=>by first|exact rfl|exact absurd bB om) ?_;refine J1 ?_;refine LM.st Tryz.sizeOf3 rfl rfl rfl ez rfl (fun bB=>by first|exact rfl|exact absurd bB om) ?_;refine J5 ?_;refine LM.cW (oC Tryz.func82) (fun w hm hc hg=>fC b (HN ws true i e).1 (HN ws true i e).2.1 3 [59] w hn hx (hl.kp hc jM) jM (sm hm)) rfl (fun bB=>by first|exact rfl|exact absurd bB om) ?_;refine J4 ?_;refine LM.rd (bo Tryz.isAgg83 Tryz.sizeOf83 rfl rfl) ?_;refine LM.dC Tryz.sizeOf83 rfl rfl rfl rfl dD (fun bB=>by first|exact rfl|exact absurd bB om) ?_;refine J3 ?_;refine QM.aV (ds:=([])) (.inl rfl) [.cell 4 83] Tryz.results85 bh (cN rfl Tryz.isAgg83 Tryz.sizeOf83 rfl bn) ?_;intro w' aq ab;exact⟨rfl,ab,aq.at b⟩
 cases h1
set_option maxHeartbeats 1000000 in
theorem Al {ws:List bC} (b:Nat) {ad:Option Addr} {n cap:Nat} (i:Nat) (e:Int) (w:World) (hn:n=ws.length) (hx:ws.length≤1000000000) (hl:Sr fW 4 ws (.slice ad n cap) w) (jM:0<ws.length→iL ad≠b) (hM:Mem w [qB b ad n cap i e]):aJ Tryz.prog 85 #[.pointer (some ⟨b,0,none⟩),.bool false] w (Tk b (.agg (fL (jQ ws false i e).2.2).toArray) (qO ad n cap (jQ ws false i e).1 (jQ ws false i e).2.1) w):=by
 refine aJ.au Tryz.func85 rfl Tryz.ntmps85 rfl ([qB b ad n cap i e]) ((fun x=>x=b)) hM ?_;refine J2 ?_;refine LM.alloc Tryz.zeroValue83 rfl (fun b4 DT=>?_);refine J5 ?_;refine LM.val (aD (cs:=#[_,_,_,_,_]) rfl (by first|rfl|kernel_rfl)) ?_;refine LM.alloc Tryz.zeroValue83 rfl (fun b5 Ky=>?_);refine LM.dC Tryz.sizeOf83 rfl rfl rfl rfl dD (fun bB=>by first|exact rfl|exact absurd bB om) ?_;refine J5 ?_;refine LM.cW (oC Tryz.func81) (fun w hm hc hg=>df b i e 16 pZ w hn hx (hl.kp hc jM) jM (sm hm)) rfl (fun bB=>by first|exact rfl|exact absurd bB om) ?_;refine J1 ?_;refine LM.st Tryz.sizeOf3 rfl rfl rfl ez rfl (fun bB=>by first|exact rfl|exact absurd bB om) ?_;refine J5 ?_;refine LM.cW (oC Tryz.func81) (fun w hm hc hg=>df b (Ct ws i e).1 (Ct ws i e).2.1 32 uG w hn hx (hl.kp hc jM) jM (sm hm)) rfl (fun bB=>by first|exact rfl|exact absurd bB om) ?_;refine J1 ?_;refine LM.st Tryz.sizeOf3 rfl rfl rfl ez rfl (fun bB=>by first|exact rfl|exact absurd bB om) ?_;refine J8 ?_;refine af.aW rfl (fun h1=>?_) (fun h1=>?_)
 ·cases h1
 refine J5 ?_;refine LM.cW (oC Tryz.func82) (fun w hm hc hg=>fC b (HN ws false i e).1 (HN ws false i e).2.1 3 [59] w hn hx (hl.kp hc jM) jM (sm hm)) rfl (fun bB=>by first|exact rfl|exact absurd bB om) ?_;refine J4 ?_;refine LM.rd (bo Tryz.isAgg83 Tryz.sizeOf83 rfl rfl) ?_;refine LM.dC Tryz.sizeOf83 rfl rfl rfl rfl dD (fun bB=>by first|exact rfl|exact absurd bB om) ?_;refine J3 ?_;refine QM.aV (ds:=([])) (.inl rfl) [.cell 4 83] Tryz.results85 bh (cN rfl Tryz.isAgg83 Tryz.sizeOf83 rfl bn) ?_;intro w' aq ab;exact⟨rfl,ab,aq.at b⟩
theorem CX {ws:List bC} (sh:Bool) (b:Nat) {ad:Option Addr} {n cap:Nat} (i:Nat) (e:Int) (w:World) (hn:n=ws.length) (hx:ws.length≤1000000000) (hl:Sr fW 4 ws (.slice ad n cap) w) (jM:0<ws.length→iL ad≠b) (hM:Mem w [qB b ad n cap i e]):
    aJ Tryz.prog 85 #[.pointer (some ⟨b,0,none⟩),.bool sh] w (Tk b (.agg (fL (jQ ws sh i e).2.2).toArray) (qO ad n cap (jQ ws sh i e).1 (jQ ws sh i e).2.1) w):=by
  cases sh
  · exact Al b i e w hn hx hl jM hM
  · exact BQ b i e w hn hx hl jM hM
end Go.Eng
