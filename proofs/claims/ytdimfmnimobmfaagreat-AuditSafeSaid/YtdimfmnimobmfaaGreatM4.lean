/- The walks of sets of numbers. No condition. -/
import Derived.Test.YtdimfmnimobmfaaGreatM2
import Derived.Test.YtdimfmnimobmfaaGreatRows
import Derived.Test.YtdimfmnimobmfaaGreatM3
set_option linter.unusedVariables false
set_option linter.unusedSimpArgs false
set_option maxRecDepth 100000
set_option maxHeartbeats 4000000
attribute [local irreducible] Go.Eng.LM Go.Eng.LD Go.Eng.KD Go.Eng.af Go.Eng.QM
namespace Go.Eng
open Go Go.Proofs Go.RowKit
theorem fM (s:BitVec 64) (i:Int) (w:World):aJ Tryz.prog 108 #[U s,.int .i64 i] w (fun v w'=>v= .bool (aN s i)∧Ext w w'):=by
 refine aJ.au Tryz.func108 rfl Tryz.ntmps108 rfl ([]) (no) (Mem.nil w) ?_;refine cf ?_;refine LM.ar (t:=7) rfl (fun h1=>?_) (fun h1=>?_)
 ·refine J4 ?_;refine LM.ar (t:=11) rfl (fun h2=>?_) (fun h2=>?_)
  ·refine J2 ?_;refine LM.sp 11 rfl rfl rfl ?_;refine LM.val (N4 rfl rfl om) ?_;refine LM.sp 11 rfl rfl rfl ?_;refine LM.val (qh (b:=2#64) rfl rfl (by first|decide|assumption)) ?_;refine LM.sp 11 rfl rfl rfl ?_;refine LM.val (qF (b:=1#64) rfl rfl) ?_;refine J5 ?_;refine qL Tryz.results108 rfl fun w' aq ab aI=>?_;refine ⟨?_,ab⟩;simp only [bA,aN,h1,h2,decide_true,decide_false,Bool.true_and,Bool.false_and,Bool.and_true,Bool.and_false,Bool.not_true,Bool.not_false,Bool.true_or,Bool.false_or,Bool.or_true,Bool.or_false,ne_eq,not_true_eq_false,not_false_eq_true,Bool.and_self];rw [Na]
  refine cf ?_;refine qL Tryz.results108 rfl fun w' aq ab aI=>?_;refine ⟨?_,ab⟩;simp only [bA,aN,h1,h2,decide_true,decide_false,Bool.true_and,Bool.false_and,Bool.and_true,Bool.and_false,Bool.not_true,Bool.not_false,Bool.true_or,Bool.false_or,Bool.or_true,Bool.or_false,ne_eq,not_true_eq_false,not_false_eq_true,Bool.and_self]
 refine lg ?_;refine qL Tryz.results108 rfl fun w' aq ab aI=>?_;refine ⟨?_,ab⟩;simp only [bA,aN,h1,decide_true,decide_false,Bool.true_and,Bool.false_and,Bool.and_true,Bool.and_false,Bool.not_true,Bool.not_false,Bool.true_or,Bool.false_or,Bool.or_true,Bool.or_false,ne_eq,not_true_eq_false,not_false_eq_true,Bool.and_self]
theorem pN (s:BitVec 64) (i:Int) (w:World):aJ Tryz.prog 149 #[U s,.int .i64 i] w (fun v w'=>v=U (da s i)∧Ext w w'):=by
 refine aJ.au Tryz.func149 rfl Tryz.ntmps149 rfl ([]) (no) (Mem.nil w) ?_;refine dB ?_;refine LM.ar (t:=7) rfl (fun h1=>?_) (fun h1=>?_)
 ·refine TS ?_;refine qL Tryz.results149 rfl fun w' aq ab aI=>?_;refine ⟨?_,ab⟩;simp only [bA];first|exact congrArg U (qA om).symm|exact congrArg U (qd aA).symm|exact congrArg U (tT om aA)
 refine J4 ?_;refine LM.ar (t:=11) rfl (fun h2=>?_) (fun h2=>?_)
 ·refine ud ?_;refine qL Tryz.results149 rfl fun w' aq ab aI=>?_;refine ⟨?_,ab⟩;simp only [bA];first|exact congrArg U (qA om).symm|exact congrArg U (qd aA).symm|exact congrArg U (tT om aA)
 refine J3 ?_;refine cE Tryz.func108 rfl (fun w hm hc hg=>fM _ _ w) ?_;refine J3 ?_;refine af.aW rfl (fun h3=>?_) (fun h3=>?_)
 ·refine J8 ?_;refine qL Tryz.results149 rfl fun w' aq ab aI=>?_;refine ⟨?_,ab⟩;simp only [bA];first|exact congrArg U (qA om).symm|exact congrArg U (qd aA).symm|exact congrArg U (tT om aA)
 refine J6 ?_;refine LM.val (Ox (a:=1#64) rfl rfl om) ?_;refine LM.val (gY rfl rfl) ?_;refine J4 ?_;refine qL Tryz.results149 rfl fun w' aq ab aI=>?_;refine ⟨?_,ab⟩;simp only [bA];first|exact congrArg U (qA om).symm|exact congrArg U (qd aA).symm|exact congrArg U (tT om aA)
end Go.Eng
namespace Go.Eng
open Go Go.Proofs Go.RowKit
def SB (q:mZ):List Value:=[.int .i64 q.w,U q.v,.int .i64 q.h,.bool q.a]
abbrev jb (b:Nat) (ad:Option Addr) (n cap:Nat) (sl cr:Int) (fl:BitVec 64):Nat×Obj:=(b,.cells #[.slice ad n cap,.int .i64 sl,.int .i64 cr,U fl] 146 (0,0))
def wH (n0 b:Nat) (x:mV) (m:aa):Prop:=LdB x∧∃(ad:Option Addr) (n cap:Nat) (ms:aa),m=jb b ad n cap x.sl x.cr x.fl::ms∧n=x.l.length∧Sl SB 143 4 n0 x.l (.slice ad n cap) ms∧n0≤b
theorem wH.ge {n0 b:Nat} {x:mV} {m:aa} (h:wH n0 b x m):∀p∈m,n0≤p.1:=by
  obtain ⟨hB,ad,n,cap,ms,rfl,hn,hs,hb⟩:=h;intro p hp;rcases List.mem_cons.1 hp with rfl|hp
  · exact hb
  · exact hs.ge p hp
theorem wH.bW {n0 b:Nat} {x:mV} {m:aa} (h:wH n0 b x m):∀p∈m,bW p.2=false:=by
  obtain ⟨hB,ad,n,cap,ms,rfl,hn,hs,hb⟩:=h;intro p hp;rcases List.mem_cons.1 hp with rfl|hp
  · rfl
  · exact hs.bW p hp
theorem wH.mono {n0 n1 b:Nat} {x:mV} {m:aa} (h:wH n0 b x m) (hn:n1≤n0):wH n1 b x m:=by
  obtain ⟨hB,ad,n,cap,ms,rfl,OH,hs,hb⟩:=h;exact⟨hB,ad,n,cap,ms,rfl,OH,hs.mono hn,Nat.le_trans hn hb⟩
theorem kC {n0 b n n' cap kT:Nat} {ad zY:Option Addr} {x':mV} {sl cr:Int} {fl:BitVec 64} {ms Oc M:aa} {u0:Value} {w w':World} (hq:LdB x') (OH:n'=x'.l.length) (FZ:Sl SB 143 4 n0 x'.l (.slice zY n' kT) Oc) (hb:n0≤b) (hm:Mem w' M)
    (hs:aT M (jb b zY n' kT x'.sl x'.cr x'.fl::(Oc++ []))) (hc:cX (fS (jb b ad n cap sl cr fl::ms)) w w') (jC:cZ ms w.heap.size Oc):
    eI (jb b ad n cap sl cr fl::ms) (fun u m'=>u=u0∧wH n0 b x' m') w u0 w':=by
  rw [List.append_nil] at hs;refine ⟨hc,_,⟨rfl,hq,zY,n',kT,Oc,rfl,OH,FZ,hb⟩,hs.mem w' hm,fun p hp=>?_⟩;rcases List.mem_cons.1 hp with rfl|hp
  · exact .inr ⟨_,List.mem_cons_self ..,rfl⟩
  · rcases jC p hp with q|⟨q,hq,e⟩
    · exact .inl q
    · exact .inr ⟨q,List.mem_cons_of_mem _ hq,e⟩
theorem ja {n0 b:Nat} {x:mV} {m:aa} (p:Int) (w:World) (h:wH n0 b x m) (hM:Mem w m):aJ Tryz.prog 73 #[.pointer (some ⟨b,0,none⟩),.int .i64 p] w (fun u w'=>u= .bool (oT x p)∧Ext w w'):=by
 obtain ⟨hB,ad,n,cap,ms,rfl,hn,hs,hb⟩:=h;refine aJ.au Tryz.func73 rfl Tryz.ntmps73 rfl (jb b ad n cap x.sl x.cr x.fl::(ms++ [])) (no) aM ?_;refine cf ?_;refine LM.ar (t:=7) rfl (fun h1=>?_) (fun h1=>?_)
 ·refine gw ?_;refine qL Tryz.results73 rfl fun w' aq ab aI=>?_;refine ⟨?_,ab⟩;simp only [bA,oT,hn,h1,decide_true,decide_false,Bool.true_and,Bool.false_and,Bool.and_true,Bool.and_false,Bool.not_true,Bool.not_false,Bool.true_or,Bool.false_or,Bool.or_true,Bool.or_false,ne_eq,not_true_eq_false,not_false_eq_true,Bool.and_self]
 refine cK ?_;refine qL Tryz.results73 rfl fun w' aq ab aI=>?_;refine ⟨?_,ab⟩;simp only [bA,oT,hn,h1,decide_true,decide_false,Bool.true_and,Bool.false_and,Bool.and_true,Bool.and_false,Bool.not_true,Bool.not_false,Bool.true_or,Bool.false_or,Bool.or_true,Bool.or_false,ne_eq,not_true_eq_false,not_false_eq_true,Bool.and_self]
theorem DX {n0 b:Nat} {x:mV} {m:aa} (p:Nat) (w:World) (h:wH n0 b x m) (hp:p<x.l.length) (hh:0≤(gP x.l p).h∧(gP x.l p).h≤1000000000000) (hM:Mem w m):aJ Tryz.prog 167 #[.pointer (some ⟨b,0,none⟩),.int .i64 (p:Nat)] w (eI m (fun u m'=>u= .bool true∧wH n0 b (AT x p) m') w):=by
 obtain ⟨hB,ad,n,cap,ms,rfl,hn,hs,hb⟩:=h;have h0:wH n0 b x (jb b ad n cap x.sl x.cr x.fl::ms):=⟨hB,ad,n,cap,ms,rfl,hn,hs,hb⟩;have U0:=gPs (y:=vP (gP x.l p) (o0 (gP x.l p).v (o7 (gP x.l p).w))) hp;have hip:=L8 hp;have hg9:(vP (gP x.l p) (o0 (gP x.l p).v (o7 (gP x.l p).w))).h=(gP x.l p).h:=rfl;refine aJ.au Tryz.func167 rfl Tryz.ntmps167 rfl (jb b ad n cap x.sl x.cr x.fl::(ms++ [])) ((fS (jb b ad n cap x.sl x.cr x.fl::ms))) aM ?_;refine cf ?_;refine cE Tryz.func73 rfl (fun w hm hc hg=>hip▸ja p w h0 (hm.pick (jb b ad n cap x.sl x.cr x.fl::ms))) ?_;refine J3 ?_;refine af.aW rfl (fun h1=>?_) (fun h1=>?_)
 ·cases h1
 refine J3 ?_;refine af.draw [(0,0),(1,0),(2,0),(3,1),(4,0),(5,0),(6,0),(7,0),(8,1),(9,0),(10,0),(11,0),(12,1),(13,0),(14,0),(15,0),(16,1),(17,0),(18,0),(19,0),(20,1),(21,2),(22,2),(23,0),(24,0),(25,0),(26,0),(27,0),(28,3)] kr kr ?_;refine cK ?_;refine LD.rd rfl rfl (aH (j:=1) aA ir Tryz.isAgg41 rfl rfl cR rfl (by rfl)) ?_;refine J7 ?_;refine LD.rd rfl rfl (aH (j:=0) aA ir Tryz.isAgg3 rfl rfl cR rfl (by rfl)) ?_;refine dE rfl rfl Tryz.func112 rfl (fun w hm hc hg=>pI _ w) ?_;refine dE rfl rfl Tryz.func94 rfl (fun w hm hc hg=>oy _ _ w) ?_;refine J5 ?_;refine LD.tail rfl rfl ?_;refine LM.iF ((vP (gP x.l p) (o0 (gP x.l p).v (o7 (gP x.l p).w)))) (j:=1) (i:=p) aA ir Tryz.sizeOf41 rfl rfl rfl cR rfl (by decide) (by rfl) rfl (fun p hp _=>⟨p,List.mem_cons_of_mem _ hp,rfl⟩) (fun ly dc dK=>?_);refine J1 ?_;refine QM.qn ?_;refine cf ?_;refine LM.rd (aH (j:=2) aA ir Tryz.isAgg3 rfl rfl cR rfl (by rfl)) ?_;rw [U0];refine J3 ?_;refine LM.iF (a:=vP (gP x.l p) (o0 (gP x.l p).v (o7 (gP x.l p).w))) (KS (gP x.l p)) (j:=2) dc ir Tryz.sizeOf3 rfl rfl rfl (List.getElem?_set_self hp) rfl (by decide) (by rfl) rfl (fun p hp _=>by obtain ⟨q,l7,e⟩:=dK p hp;exact⟨q,List.mem_cons_of_mem _ l7,e⟩) (fun xL ma wb=>?_);refine J8 ?_;refine qL Tryz.results167 rfl fun w' aq ab aI=>?_;rw [List.set_set] at ma;exact kC (x':=AT x p) ⟨by show (x.l.set _ _).length≤8;rw [List.length_set];exact hB.1,hB.2⟩ (by show _=(x.l.set _ _).length;rw [List.length_set];exact hn) ma hb aq aX ab (fun p hp=> .inr (by obtain ⟨q,l7,e⟩:=wb p hp;obtain ⟨q2,jK,e2⟩:=dK q l7;exact⟨q2,jK,e2.trans e⟩))
theorem C7 {n0 b:Nat} {x:mV} {m:aa} (p:Nat) (wt:Int) (w:World) (h:wH n0 b x m) (hp:p<x.l.length) (hM:Mem w m):aJ Tryz.prog 74 #[.pointer (some ⟨b,0,none⟩),.int .i64 (p:Nat),.int .i64 wt] w (eI m (fun u m'=>u= .bool true∧wH n0 b (cc x p wt) m') w):=by
 obtain ⟨hB,ad,n,cap,ms,rfl,hn,hs,hb⟩:=h;have h0:wH n0 b x (jb b ad n cap x.sl x.cr x.fl::ms):=⟨hB,ad,n,cap,ms,rfl,hn,hs,hb⟩;have U0:=gPs (y:=wP (gP x.l p) (aB wt 1 16)) hp;have hip:=L8 hp;refine aJ.au Tryz.func74 rfl Tryz.ntmps74 rfl (jb b ad n cap x.sl x.cr x.fl::(ms++ [])) ((fS (jb b ad n cap x.sl x.cr x.fl::ms))) aM ?_;refine cf ?_;refine cE Tryz.func73 rfl (fun w hm hc hg=>hip▸ja p w h0 (hm.pick (jb b ad n cap x.sl x.cr x.fl::ms))) ?_;refine J3 ?_;refine af.aW rfl (fun h1=>?_) (fun h1=>?_)
 ·cases h1
 refine J5 ?_;refine cE Tryz.func50 rfl (fun w hm hc hg=>bN _ 1 16 w) ?_;refine lg ?_;refine LM.rd (aH (j:=0) aA ir Tryz.isAgg3 rfl rfl cR rfl (by rfl)) ?_;refine J3 ?_;refine af.aj rfl (fun h2=>?_) (fun h2=>?_)
 ·refine cf ?_;refine LM.iF ((wP (gP x.l p) (aB wt 1 16))) (j:=0) (i:=p) aA ir Tryz.sizeOf3 rfl rfl rfl cR rfl (by decide) (by rfl) rfl (fun p hp _=>⟨p,List.mem_cons_of_mem _ hp,rfl⟩) (fun ly dc dK=>?_);refine J2 ?_;refine af.draw [(0,0),(1,0),(2,0),(3,1),(4,0),(5,0),(6,0),(7,0),(8,1),(9,0),(10,0),(11,0),(12,1),(13,0),(14,0),(15,0),(16,1),(17,0),(19,0),(20,0),(21,0),(22,1),(23,0),(18,2),(24,0),(25,2),(26,0),(27,0),(28,3)] kr kr ?_;refine cK ?_;refine LD.rd rfl rfl (aH (j:=1) aA ir Tryz.isAgg41 rfl rfl cR rfl (by rfl)) ?_;rw [U0];refine J9 ?_;refine LD.val rfl rfl (oc Tryz.underlying3 Tryz.underlying41 rfl) ?_;refine dE rfl rfl Tryz.func112 rfl (fun w hm hc hg=>pI _ w) ?_;refine LD.val rfl rfl (oI rfl rfl) ?_;refine dE rfl rfl Tryz.func111 rfl (fun w hm hc hg=>m8 _ _ _ w) ?_;refine J2 ?_;refine LD.tail rfl rfl ?_;refine LM.iF (a:=wP (gP x.l p) (aB wt 1 16)) ({gP x.l p with w:=aB wt 1 16,v:=eG (gP x.l p).v x.fl (o7 (aB wt 1 16)*BitVec.ofInt 64 x.sl)} :mZ) (j:=1) dc ir Tryz.sizeOf41 rfl rfl rfl (List.getElem?_set_self hp) rfl (by decide) (by rfl) rfl (fun p hp _=>by obtain ⟨q,l7,e⟩:=dK p hp;exact⟨q,List.mem_cons_of_mem _ l7,e⟩) (fun xL ma wb=>?_);refine J1 ?_;refine QM.qn ?_;refine J7 ?_;refine qL Tryz.results74 rfl fun w' aq ab aI=>?_;rw [List.set_set] at ma;have hw:cc x p wt= {x with l:=x.l.set p {gP x.l p with w:=aB wt 1 16,v:=eG (gP x.l p).v x.fl (o7 (aB wt 1 16)*BitVec.ofInt 64 x.sl)} } :=(by unfold cc EA;rw [if_neg h2]);rw [hw];exact kC (x':= {x with l:=_}) ⟨by show (x.l.set _ _).length≤8;rw [List.length_set];exact hB.1,hB.2⟩ (by show _=(x.l.set _ _).length;rw [List.length_set];exact hn) ma hb aq aX ab (fun p hp=> .inr (by obtain ⟨q,l7,e⟩:=wb p hp;obtain ⟨q2,jK,e2⟩:=dK q l7;exact⟨q2,jK,e2.trans e⟩))
 refine J8 ?_;refine qL Tryz.results74 rfl fun w' aq ab aI=>?_;have hw:cc x p wt=x:=(by unfold cc EA;rw [if_pos (by simpa using h2),u6 hp]);rw [hw];exact kC hB hn hs hb aq aX ab (ay _ _)
theorem DJ {n0 b:Nat} {x:mV} {m:aa} (s:BitVec 64) (w:World) (h:wH n0 b x m) (hM:Mem w m):aJ Tryz.prog 144 #[.pointer (some ⟨b,0,none⟩),U s] w (fun u w'=>u= .int .i64 (ec x.l s x.l.length)∧Ext w w'):=by
 obtain ⟨hB,ad,n,cap,ms,rfl,hn,hs,hb⟩:=h;have Pr:=hB.1;refine aJ.au Tryz.func144 rfl Tryz.ntmps144 rfl (jb b ad n cap x.sl x.cr x.fl::(ms++ [])) (no) aM ?_;refine xW ?_;refine af.aS (α:=Nat×Int) (fun ⟨i,v⟩=>[(5,.int .i64 v),(6,.int .i64 (i:Nat))]) [(0,_),(1,_)] (fun ⟨i,v⟩=>jb b ad n cap x.sl x.cr x.fl::(ms++ [])) (fun ⟨i,v⟩=>i≤n∧v=ec x.l s i) (fun ⟨i,v⟩=>n-i) ((0,-1)) cm aX ⟨Nat.zero_le _,rfl⟩ ?_;rintro ⟨i,v⟩ ⟨hi,hv⟩;change af _ _ _ _ _ _ _ (jb b ad n cap x.sl x.cr x.fl::(ms++ [])) _ _ _;have jC:=uC x.l s i;refine cK ?_;refine af.aj rfl (fun h1=>?_) (fun h1=>?_)
 ·refine J5 ?_;refine af.draw [(0,0),(1,0),(2,2),(3,0),(4,0),(5,0),(6,0),(7,0),(8,0),(9,0),(10,1),(11,0),(12,0),(13,0),(14,1),(15,0),(16,0),(17,0),(18,1),(19,0),(20,0),(21,0),(22,1),(23,0),(24,0),(25,0)] kr kr ?_;refine J2 ?_;refine dE rfl rfl Tryz.func108 rfl (fun w hm hc hg=>(eH (s:=s) (i:=i))▸fM s (i:Nat) w) ?_;refine J1 ?_;refine LD.bu (t:=19) rfl (fun h2=>?_) (fun h2=>?_)
  ·refine J3 ?_;refine LD.ar (t:=22) rfl (fun h3=>?_) (fun h3=>?_)
   ·refine J33 ?_;refine aK (i+1,(i:Int)) ?_ ?_
    · exact⟨by omega,by rw [hv] at h3;exact(if_pos ⟨h2,.inl h3⟩).symm⟩
    · (dsimp only;omega)
   refine J7 ?_;refine LD.rd rfl ⟨22,_,rfl,rfl,rfl⟩ (aH (j:=1) aA ir Tryz.isAgg41 rfl rfl cR rfl (by rfl)) ?_;refine J5 ?_;refine LD.val rfl ⟨22,_,rfl,rfl,rfl⟩ (cP o5 Tryz.underlying144 Tryz.sizeOf143 rfl rfl om) ?_;refine J1 ?_;refine LD.rd rfl ⟨22,_,rfl,rfl,rfl⟩ (aH (j:=1) aA ir Tryz.isAgg41 rfl rfl cR rfl (by rfl)) ?_;refine LD.val rfl ⟨22,_,rfl,rfl,rfl⟩ (ia rfl rfl) ?_;refine J4 ?_;refine af.aj rfl (fun h4=>?_) (fun h4=>?_)
   ·refine dB ?_;refine aK (i+1,(i:Int)) ?_ ?_
    · exact⟨by omega,by rw [hv] at h4;exact(if_pos ⟨h2,.inr h4⟩).symm⟩
    · (dsimp only;omega)
   refine J8 ?_;refine aK (i+1,v) ?_ ?_
   · exact⟨by omega,by rw [hv] at h3 h4 ⊢;exact(if_neg (fun q=>by rcases q.2 with q2|q2;exact h3 q2;exact h4 q2)).symm⟩
   · (dsimp only;omega)
  refine J2 ?_;refine LD.c9 rfl rfl ⟨19,_,rfl,rfl,rfl⟩ ?_;refine J30 ?_;refine aK (i+1,v) ?_ ?_
  · exact⟨by omega,by rw [hv];exact(if_neg (fun q=>by rw [h2] at q;cases q.1)).symm⟩
  · (dsimp only;omega)
 refine cK ?_;refine qL Tryz.results144 rfl fun w' aq ab aI=>?_;have fp:i=n:=om;refine ⟨?_,ab⟩;show Value.int .i64 v=_;rw [hv,fp,hn]
theorem Di {n0 b:Nat} {x:mV} {m:aa} (s:BitVec 64) (w:World) (h:wH n0 b x m) (hM:Mem w m):aJ Tryz.prog 113 #[.pointer (some ⟨b,0,none⟩),U s] w (eI m (fun u m'=>wH n0 b (mC x s) m') w):=by
 obtain ⟨hB,ad,n,cap,ms,rfl,hn,hs,hb⟩:=h;have Pr:=hB.1;refine aJ.au Tryz.func113 rfl Tryz.ntmps113 rfl (jb b ad n cap x.sl x.cr x.fl::(ms++ [])) ((fS (jb b ad n cap x.sl x.cr x.fl::ms))) aM ?_;refine xW ?_;refine af.aS (α:=Nat×BitVec 64×Bool×aa) (fun ⟨k,ls,mt,jZ⟩=>[(4,U ls),(5,.bool mt),(6,.int .i64 (k:Nat))]) [(0,_),(1,_)] (fun ⟨k,ls,mt,jZ⟩=>jb b ad n cap x.sl x.cr x.fl::(jZ++ [])) (fun ⟨k,ls,mt,jZ⟩=>k≤n∧Sl SB 143 4 n0 (tw x s k) (.slice ad n cap) jZ∧cZ ms w.heap.size jZ∧ls=yD (nk x s) s k∧mt=decide (0≤ec (nk x s) s k)) (fun ⟨k,ls,mt,jZ⟩=>n-k) ((0,0#64,false,ms)) ⟨(by first|rfl|exact lk rfl (by rw [HY])),ka,ka,rfl,rfl,trivial⟩ aX ⟨by omega,by rw [I3];exact hs,ay _ _,rfl,rfl⟩ ?_;rintro ⟨k,ls,mt,jZ⟩ ⟨hk,rS,zz,um,CM⟩;change af _ _ _ _ _ _ _ (jb b ad n cap x.sl x.cr x.fl::(jZ++ [])) _ _ _;have gh:=ij x s k;refine cK ?_;refine af.aj rfl (fun h1=>?_) (fun h1=>?_)
 ·have D0:k<x.l.length:=om;have hq:(tw x s k).getD k default=gP x.l k:=Nu D0;refine J8 ?_;refine cE Tryz.func108 rfl (fun w hm hc hg=>(eH (s:=s) (i:=k))▸fM s (k:Nat) w) ?_;refine J8 ?_;refine LM.bu (t:=21) rfl (fun h2=>?_) (fun h2=>?_)
  ·refine J6 ?_;refine LM.sp 21 rfl rfl rfl ?_;refine J3 ?_;refine LM.rd (aH (j:=3) aA ir Tryz.isAgg4 rfl rfl cR rfl (by rfl)) ?_;refine J4 ?_;refine af.bH (α:=List mZ×aa) (fun ⟨l3,p9⟩=>[]) [(0,_),(1,_),(4,_),(5,_),(6,_),(7,_)] (fun ⟨l3,p9⟩=>jb b ad n cap x.sl x.cr x.fl::(p9++ [])) (fun ⟨l3,p9⟩=>Sl SB 143 4 n0 l3 (.slice ad n cap) p9∧cZ ms w.heap.size p9∧l3=(tw x s k).set k (vP (gP x.l k) (if s.getLsbD k=true∧(gP x.l k).a=false then eG (gP x.l k).v x.fl (lD (gP x.l k).w x.sl x.cr) else (gP x.l k).v))) cm ?_ ?_
   ·refine af.aW rfl (fun h3=>?_) (fun h3=>?_)
    ·refine af.draw [(0,0),(1,0),(2,0),(3,1),(4,0),(5,0),(6,0),(7,0),(8,1),(9,0),(10,0),(11,0),(12,1),(13,0),(14,0),(15,0),(16,1),(17,0),(18,0),(19,0),(20,1),(21,0),(22,0),(23,0),(24,1),(25,0),(26,0),(27,0),(28,1),(29,0),(30,0),(31,0),(32,1),(33,2),(34,2),(35,0),(36,0),(37,3)] kr kr ?_;refine cK ?_;refine LD.rd rfl rfl (aH (j:=1) aA ir Tryz.isAgg41 rfl rfl cR rfl (by rfl)) ?_;refine dB ?_;refine LD.rd rfl rfl (aH (j:=0) aA ir Tryz.isAgg3 rfl rfl cR rfl (by rfl)) ?_;refine J8 ?_;refine dE rfl rfl Tryz.func151 rfl (fun w hm hc hg=>A2 _ _ _ w) ?_;rw [hq];refine dE rfl rfl Tryz.func111 rfl (fun w hm hc hg=>m8 _ _ _ w) ?_;refine J2 ?_;refine LD.tail rfl rfl ?_;refine LM.iF (a:=gP x.l k) (vP (gP x.l k) (eG (gP x.l k).v x.fl (lD (gP x.l k).w x.sl x.cr))) (j:=1) rS ir Tryz.sizeOf41 rfl rfl rfl (by rw [←hq];exact aQ default om) rfl (by decide) (by rfl) rfl (fun p hp bB=>by rcases zz p hp with q|⟨q,hq,e⟩;exact absurd bB om;exact⟨q,List.mem_cons_of_mem _ hq,e⟩) (fun ly dc dK=>?_);refine J1 ?_;refine QM.qn ?_;refine mK ((tw x s k).set k (vP (gP x.l k) (eG (gP x.l k).v x.fl (lD (gP x.l k).w x.sl x.cr))),ly) ?_
     · have h3b:(gP x.l k).a=false:=(by rw [←hq];simpa using h3);exact⟨dc,fun p hp=>by obtain ⟨q,l7,e⟩:=dK p hp;rw [←e];exact zz q l7,by rw [if_pos ⟨h2,h3b⟩]⟩
    refine J1 ?_;refine mK (tw x s k,jZ) ?_
    · have h3b:¬(gP x.l k).a=false:=(by rw [←hq];simpa using h3);exact⟨rS,zz,by rw [if_neg (fun q=>h3b q.2),show vP (gP x.l k) (gP x.l k).v=gP (tw x s k) k from hq.symm,u6 om]⟩
   rintro ⟨l3,p9⟩ ⟨Mx,Km,RD⟩;change QM _ _ _ _ _ (jb b ad n cap x.sl x.cr x.fl::(p9++ [])) _ _ _;refine dB ?_;refine LM.iF (a:=vP (gP x.l k) (if s.getLsbD k=true∧(gP x.l k).a=false then eG (gP x.l k).v x.fl (lD (gP x.l k).w x.sl x.cr) else (gP x.l k).v)) (IC x (s.getLsbD k) (gP x.l k)) (j:=3) Mx ir Tryz.sizeOf4 rfl rfl rfl (by rw [RD];exact List.getElem?_set_self om) rfl (by decide) (by rfl) rfl (fun p hp bB=>by rcases Km p hp with q|⟨q,hq,e⟩;exact absurd bB om;exact⟨q,List.mem_cons_of_mem _ hq,e⟩) (fun xL ma wb=>?_);rw [RD,List.set_set,←Bm D0] at ma;have GQ:cZ ms w.heap.size xL:=(fun p hp=>by obtain ⟨q,l7,e⟩:=wb p hp;rw [←e];exact Km q l7);have RR:=ij x s (k+1);have HY:(tw x s (k+1)).getD k default=gP (nk x s) k:=LR D0;refine J6 ?_;refine LM.bu (t:=78) rfl (fun h4=>?_) (fun h4=>?_)
   ·refine J3 ?_;refine LM.bu (t:=81) rfl (fun h5=>?_) (fun h5=>?_)
    ·refine J24 ?_;refine LM.rd (aH (j:=1) aA ir Tryz.isAgg41 rfl rfl cR rfl (by rfl)) ?_;refine gw ?_;refine QM.cT (k+1,(gP (nk x s) k).v,true,xL) ⟨(by first|rfl|exact lk rfl (by rw [HY])),ka,ka,rfl,rfl,trivial⟩ aX (fun _ h=>h) ?_ ?_
     · have hy:=Fx um CM h2 (.inl (by simpa using h5));exact⟨by omega,ma,GQ,hy.1,hy.2⟩
     · (dsimp only;omega)
    refine J6 ?_;refine LM.sp 81 rfl rfl rfl ?_;refine J3 ?_;refine LM.rd (aH (j:=1) aA ir Tryz.isAgg41 rfl rfl cR rfl (by rfl)) ?_;refine LM.sp 81 rfl rfl rfl ?_;rw [HY];refine J1 ?_;refine LM.sp 81 rfl rfl rfl ?_;refine LM.val (ia rfl rfl) ?_;refine J4 ?_;refine af.aj rfl (fun h6=>?_) (fun h6=>?_)
    ·refine J9 ?_;refine LM.rd (aH (j:=1) aA ir Tryz.isAgg41 rfl rfl cR rfl (by rfl)) ?_;refine gw ?_;refine QM.cT (k+1,(gP (nk x s) k).v,true,xL) ⟨(by first|rfl|exact lk rfl (by rw [HY])),ka,ka,rfl,rfl,trivial⟩ aX (fun _ h=>h) ?_ ?_
     · have hy:=Fx um CM h2 (.inr h6);exact⟨by omega,ma,GQ,hy.1,hy.2⟩
     · (dsimp only;omega)
    refine J8 ?_;refine QM.cT (k+1,ls,mt,xL) ⟨(by first|rfl|exact lk rfl (by rw [HY])),ka,ka,rfl,rfl,trivial⟩ aX (fun _ h=>h) ?_ ?_
    · have hy:=L0 um CM (fun _=>⟨by simpa using h5,h6⟩);exact⟨by omega,ma,GQ,hy.1,hy.2⟩
    · (dsimp only;omega)
   rw [h2] at h4;cases h4
  refine cK ?_;refine af.bH (α:=List mZ×aa) (fun ⟨l3,p9⟩=>[]) [(0,_),(1,_),(4,_),(5,_),(6,_),(7,_)] (fun ⟨l3,p9⟩=>jb b ad n cap x.sl x.cr x.fl::(p9++ [])) (fun ⟨l3,p9⟩=>Sl SB 143 4 n0 l3 (.slice ad n cap) p9∧cZ ms w.heap.size p9∧l3=(tw x s k).set k (vP (gP x.l k) (if s.getLsbD k=true∧(gP x.l k).a=false then eG (gP x.l k).v x.fl (lD (gP x.l k).w x.sl x.cr) else (gP x.l k).v))) cm ?_ ?_
  ·refine J2 ?_;refine mK (tw x s k,jZ) ?_
   · exact⟨rS,zz,by rw [if_neg (fun q=>by rw [h2] at q;cases q.1),show vP (gP x.l k) (gP x.l k).v=gP (tw x s k) k from hq.symm,u6 om]⟩
  rintro ⟨l3,p9⟩ ⟨Mx,Km,RD⟩;change QM _ _ _ _ _ (jb b ad n cap x.sl x.cr x.fl::(p9++ [])) _ _ _;refine dB ?_;refine LM.iF (a:=vP (gP x.l k) (if s.getLsbD k=true∧(gP x.l k).a=false then eG (gP x.l k).v x.fl (lD (gP x.l k).w x.sl x.cr) else (gP x.l k).v)) (IC x (s.getLsbD k) (gP x.l k)) (j:=3) Mx ir Tryz.sizeOf4 rfl rfl rfl (by rw [RD];exact List.getElem?_set_self om) rfl (by decide) (by rfl) rfl (fun p hp bB=>by rcases Km p hp with q|⟨q,hq,e⟩;exact absurd bB om;exact⟨q,List.mem_cons_of_mem _ hq,e⟩) (fun xL ma wb=>?_);rw [RD,List.set_set,←Bm D0] at ma;have GQ:cZ ms w.heap.size xL:=(fun p hp=>by obtain ⟨q,l7,e⟩:=wb p hp;rw [←e];exact Km q l7);have RR:=ij x s (k+1);have HY:(tw x s (k+1)).getD k default=gP (nk x s) k:=LR D0;refine J6 ?_;refine LM.bu (t:=78) rfl (fun h7=>?_) (fun h7=>?_)
  ·rw [h2] at h7;cases h7
  refine J2 ?_;refine LM.c9 (t:=78) rfl rfl rfl ?_;refine XC ?_;refine QM.cT (k+1,ls,mt,xL) ⟨(by first|rfl|exact lk rfl (by rw [HY])),ka,ka,rfl,rfl,trivial⟩ aX (fun _ h=>h) ?_ ?_
  · have hy:=L0 um CM (fun q=>by rw [h2] at q;cases q);exact⟨by omega,ma,GQ,hy.1,hy.2⟩
  · (dsimp only;omega)
 refine J9 ?_;refine LM.bu (t:=103) rfl (fun h8=>?_) (fun h8=>?_)
 ·refine J6 ?_;refine LM.sp 103 rfl rfl rfl ?_;refine LM.val (lr rfl rfl) ?_;refine J3 ?_;refine af.aj rfl (fun h9=>?_) (fun h9=>?_)
  ·refine J5 ?_;refine LM.st Tryz.sizeOf41 rfl rfl rfl eA rfl tC ?_;refine J1 ?_;refine QM.leave (.inr rfl) [] Tryz.results113 rfl ?_;intro w' aq ab aI;have D0:k=x.l.length:=om;subst D0;have Gs:=tH x s;rw [show tw x s x.l.length=nk x s from rfl] at rS;have hle:¬ec (nk x s) s x.l.length<0:=(by subst CM;simp at h8;omega);have hlv:ls=(gP (nk x s) (ec (nk x s) s x.l.length).toNat).v:=um.trans (if_neg hle);have hx:mC x s= {x with l:=nk x s,fl:=ls} :=(by unfold mC;rw [if_neg hle,←hlv];unfold T8;rw [if_pos h9]);rw [hx];exact eI.imp (kC (u0:=bA []) (x':= {x with l:=nk x s,fl:=ls}) ⟨by show (nk x s).length≤8;omega,hB.2⟩ (by show n=(nk x s).length;omega) rS hb aq aX ab zz) (fun u m' h=>h.2)
  refine J1 ?_;refine QM.leave (.inr rfl) [] Tryz.results113 rfl ?_;intro w' aq ab aI;have D0:k=x.l.length:=om;subst D0;have Gs:=tH x s;rw [show tw x s x.l.length=nk x s from rfl] at rS;have hle:¬ec (nk x s) s x.l.length<0:=(by subst CM;simp at h8;omega);have hlv:ls=(gP (nk x s) (ec (nk x s) s x.l.length).toNat).v:=um.trans (if_neg hle);have hx:mC x s= {x with l:=nk x s} :=(by unfold mC;rw [if_neg hle,←hlv];unfold T8;rw [if_neg h9]);rw [hx];exact eI.imp (kC (u0:=bA []) (x':= {x with l:=nk x s}) ⟨by show (nk x s).length≤8;omega,hB.2⟩ (by show n=(nk x s).length;omega) rS hb aq aX ab zz) (fun u m' h=>h.2)
 refine dB ?_;refine QM.leave (.inr rfl) [] Tryz.results113 rfl ?_;intro w' aq ab aI;have D0:k=x.l.length:=om;subst D0;have Gs:=tH x s;rw [show tw x s x.l.length=nk x s from rfl] at rS;have hle:ec (nk x s) s x.l.length<0:=(by subst CM;simp at h8;omega);have hx:mC x s= {x with l:=nk x s} :=(by unfold mC;rw [if_pos hle]);rw [hx];exact eI.imp (kC (u0:=bA []) (x':= {x with l:=nk x s}) ⟨by show (nk x s).length≤8;omega,hB.2⟩ (by show n=(nk x s).length;omega) rS hb aq aX ab zz) (fun u m' h=>h.2)
def XU (ws:List Int) (s c:Int) (n0:Nat) (v:Value) (m:aa):Prop:=∃b,v= .pointer (some ⟨b,0,none⟩)∧wH n0 b (kU ws s c) m
theorem XU.mono {ws:List Int} {s c:Int} :∀(n n':Nat) (v:Value) (m:aa),n'≤n→XU ws s c n v m→XU ws s c n' v m:=fun n n' v m hn ⟨b,h1,h⟩=>⟨b,h1,h.mono hn⟩
theorem p7 (t:vW) (sl p:Int) (w:World):aJ Tryz.prog 171 #[RT t,.int .i64 sl,.int .i64 p] w (fun v w'=>v= .bool (yc t sl p)∧Ext w w'):=by
 refine aJ.au Tryz.func171 rfl Tryz.ntmps171 rfl ([]) (no) (Mem.nil w) ?_;refine J2 ?_;refine LM.box rfl rfl (fun b3 Mm=>?_);refine J4 ?_;refine af.draw [(0,0),(1,0),(2,0),(3,0),(4,1),(5,0),(6,0),(7,0),(8,0),(9,0),(10,1),(11,0),(12,2),(13,0),(14,0),(15,0)] kr kr ?_;refine J3 ?_;refine LD.ar (t:=9) rfl (fun h1=>?_) (fun h1=>?_)
 ·refine J6 ?_;refine LD.ar (t:=15) rfl (fun h2=>?_) (fun h2=>?_)
  ·refine J3 ?_;refine dE rfl ⟨15,_,rfl,rfl,rfl⟩ Tryz.func50 rfl (fun w hm hc hg=>bN _ 1 16 w) ?_;refine J6 ?_;refine qL Tryz.results171 rfl fun w' aq ab aI=>?_;refine ⟨?_,ab⟩;simp only [bA,yc,h1,h2,decide_true,decide_false,Bool.true_and,Bool.false_and,Bool.and_true,Bool.and_false,Bool.not_true,Bool.not_false,Bool.true_or,Bool.false_or,Bool.or_true,Bool.or_false,ne_eq,not_true_eq_false,not_false_eq_true,Bool.and_self]
  refine cf ?_;refine qL Tryz.results171 rfl fun w' aq ab aI=>?_;refine ⟨?_,ab⟩;simp only [bA,yc,h1,h2,decide_true,decide_false,Bool.true_and,Bool.false_and,Bool.and_true,Bool.and_false,Bool.not_true,Bool.not_false,Bool.true_or,Bool.false_or,Bool.or_true,Bool.or_false,ne_eq,not_true_eq_false,not_false_eq_true,Bool.and_self]
 refine Fw ?_;refine qL Tryz.results171 rfl fun w' aq ab aI=>?_;refine ⟨?_,ab⟩;simp only [bA,yc,h1,decide_true,decide_false,Bool.true_and,Bool.false_and,Bool.and_true,Bool.and_false,Bool.not_true,Bool.not_false,Bool.true_or,Bool.false_or,Bool.or_true,Bool.or_false,ne_eq,not_true_eq_false,not_false_eq_true,Bool.and_self]
theorem BH (t:vW) (sl:Int) (s:BitVec 64) (le:Int) (w:World):aJ Tryz.prog 143 #[RT t,.int .i64 sl,U s,.int .i64 le] w (fun v w'=>v=RT (pj t sl s le)∧Ext w w'):=by
 refine aJ.au Tryz.func143 rfl Tryz.ntmps143 rfl ([]) (no) (Mem.nil w) ?_;refine J2 ?_;refine LM.box rfl rfl (fun b4 CO=>?_);refine LM.alloc Tryz.zeroValue58 rfl (fun b8 J0=>?_);refine J6 ?_;refine LM.val (qF (b:=0#64) rfl rfl) ?_;refine J1 ?_;refine LM.ar (t:=11) rfl (fun h1=>?_) (fun h1=>?_)
 ·refine J4 ?_;refine LM.c9 (t:=11) rfl rfl rfl ?_;refine cK ?_;refine LM.rd (bo Tryz.isAgg58 Tryz.sizeOf58 rfl rfl) ?_;refine LM.dC Tryz.sizeOf58 rfl rfl rfl rfl dF cn ?_;refine J4 ?_;refine QM.aV (ds:=([])) (.inl rfl) [.cell 8 58] Tryz.results143 bj (cM rfl Tryz.isAgg58 Tryz.sizeOf58 rfl bn) ?_;intro w' aq ab;refine ⟨?_,ab⟩;rw [show pj t sl s le=t from if_pos (.inl h1)];rfl
 refine J5 ?_;refine cE Tryz.func108 rfl (fun w hm hc hg=>fM _ _ w) ?_;refine J1 ?_;refine LM.bu (t:=16) rfl (fun h2=>?_) (fun h2=>?_)
 ·refine J1 ?_;refine LM.rd (bo Tryz.isAgg58 Tryz.sizeOf58 rfl rfl) ?_;refine J5 ?_;refine cE Tryz.func171 rfl (fun w hm hc hg=>p7 t _ _ w) ?_;refine J4 ?_;refine af.aW rfl (fun h3=>?_) (fun h3=>?_)
  ·refine J2 ?_;refine LM.rd (bo Tryz.isAgg58 Tryz.sizeOf58 rfl rfl) ?_;refine LM.dC Tryz.sizeOf58 rfl rfl rfl rfl dF cn ?_;refine J4 ?_;refine QM.aV (ds:=([])) (.inl rfl) [.cell 8 58] Tryz.results143 bj (cM rfl Tryz.isAgg58 Tryz.sizeOf58 rfl bn) ?_;intro w' aq ab;refine ⟨?_,ab⟩;rw [show pj t sl s le=t from if_pos (.inr ⟨h2,h3⟩)];rfl
  refine J5 ?_;refine LM.val (aD (cs:=#[_,_]) rfl (by first|rfl|kernel_rfl)) ?_;refine LM.dC Tryz.sizeOf58 rfl rfl rfl rfl dF cn ?_;refine J3 ?_;refine QM.aV (ds:=([])) (.inl rfl) [.cell 8 58] Tryz.results143 bj (cM rfl Tryz.isAgg58 Tryz.sizeOf58 rfl bn) ?_;intro w' aq ab;refine ⟨?_,ab⟩;rw [show pj t sl s le=⟨le,0⟩ from if_neg (fun q=>by rcases q with q|q;exact h1 q;rw [h3] at q;cases q.2)];rfl
 refine ud ?_;refine LM.val (aD (cs:=#[_,_]) rfl (by first|rfl|kernel_rfl)) ?_;refine LM.dC Tryz.sizeOf58 rfl rfl rfl rfl dF cn ?_;refine J3 ?_;refine QM.aV (ds:=([])) (.inl rfl) [.cell 8 58] Tryz.results143 bj (cM rfl Tryz.isAgg58 Tryz.sizeOf58 rfl bn) ?_;intro w' aq ab;refine ⟨?_,ab⟩;rw [show pj t sl s le=⟨le,0⟩ from if_neg (fun q=>by rcases q with q|q;exact h1 q;rw [h2] at q;cases q.1)];rfl
theorem yr (t:vW) (w:World) (hu: -1000000≤t.u):aJ Tryz.prog 168 #[RT t] w (fun v w'=>v=RT (iH t)∧Ext w w'):=by
 refine aJ.au Tryz.func168 rfl Tryz.ntmps168 rfl ([]) (no) (Mem.nil w) ?_;refine J2 ?_;refine LM.box rfl rfl (fun b1 CJ=>?_);refine LM.alloc Tryz.zeroValue58 rfl (fun b2 tf=>?_);refine cf ?_;refine af.aj rfl (fun h1=>?_) (fun h1=>?_)
 ·refine J5 ?_;refine LM.st Tryz.sizeOf3 rfl rfl rfl eA rfl cn ?_;refine J4 ?_;refine LM.rd (bo Tryz.isAgg58 Tryz.sizeOf58 rfl rfl) ?_;refine LM.dC Tryz.sizeOf58 rfl rfl rfl rfl dF cn ?_;refine J3 ?_;refine QM.aV (ds:=([])) (.inl rfl) [.cell 2 58] Tryz.results168 bj (cM rfl Tryz.isAgg58 Tryz.sizeOf58 rfl bn) ?_;intro w' aq ab;refine ⟨?_,ab⟩;rw [show iH t=⟨t.p,t.u+1⟩ from if_pos h1];rfl
 refine J4 ?_;refine LM.rd (bo Tryz.isAgg58 Tryz.sizeOf58 rfl rfl) ?_;refine LM.dC Tryz.sizeOf58 rfl rfl rfl rfl dF cn ?_;refine J3 ?_;refine QM.aV (ds:=([])) (.inl rfl) [.cell 2 58] Tryz.results168 bj (cM rfl Tryz.isAgg58 Tryz.sizeOf58 rfl bn) ?_;intro w' aq ab;refine ⟨?_,ab⟩;rw [show iH t=t from if_neg h1];rfl
theorem Dk (t:vW) (sl:Int) (w:World):aJ Tryz.prog 75 #[RT t,.int .i64 sl] w (fun v w'=>v=RT (wZ t sl)∧Ext w w'):=by
 refine aJ.au Tryz.func75 rfl Tryz.ntmps75 rfl ([]) (no) (Mem.nil w) ?_;refine J2 ?_;refine LM.box rfl rfl (fun b2 tf=>?_);refine LM.alloc Tryz.zeroValue58 rfl (fun b4 CO=>?_);refine J5 ?_;refine cE Tryz.func50 rfl (fun w hm hc hg=>bN _ 1 16 w) ?_;refine cK ?_;refine af.aj rfl (fun h1=>?_) (fun h1=>?_)
 ·refine J3 ?_;refine LM.st Tryz.sizeOf3 rfl rfl rfl eA rfl cn ?_;refine J4 ?_;refine LM.rd (bo Tryz.isAgg58 Tryz.sizeOf58 rfl rfl) ?_;refine LM.dC Tryz.sizeOf58 rfl rfl rfl rfl dF cn ?_;refine J3 ?_;refine QM.aV (ds:=([])) (.inl rfl) [.cell 4 58] Tryz.results75 bj (cM rfl Tryz.isAgg58 Tryz.sizeOf58 rfl bn) ?_;intro w' aq ab;refine ⟨?_,ab⟩;rw [show wZ t sl=⟨t.p,aB sl 1 16⟩ from if_pos h1];rfl
 refine J4 ?_;refine LM.rd (bo Tryz.isAgg58 Tryz.sizeOf58 rfl rfl) ?_;refine LM.dC Tryz.sizeOf58 rfl rfl rfl rfl dF cn ?_;refine J3 ?_;refine QM.aV (ds:=([])) (.inl rfl) [.cell 4 58] Tryz.results75 bj (cM rfl Tryz.isAgg58 Tryz.sizeOf58 rfl bn) ?_;intro w' aq ab;refine ⟨?_,ab⟩;rw [show wZ t sl=t from if_neg om];rfl
theorem Eu {ws:List Int} {ad:Option Addr} {n cap:Nat} (s c:Int) (w:World) (hn:n=ws.length) (hl:Sr fI 1 ws (.slice ad n cap) w):aJ Tryz.prog 52 #[.slice ad n cap,.int .i64 s,.int .i64 c] w (fun v w'=>Ext w w'∧∃m,XU ws s c w.heap.size v m∧Mem w' m∧∀p∈m,w.heap.size≤p.1):=by
 refine aJ.au Tryz.func52 rfl Tryz.ntmps52 rfl ([]) (no) (Mem.nil w) ?_;refine J8 ?_;refine cE Tryz.func50 rfl (fun w hm hc hg=>bN _ 1 32 w) ?_;refine J1 ?_;refine cE Tryz.func50 rfl (fun w hm hc hg=>bN _ 1 32 w) ?_;refine LM.val (aD (cs:=#[_,_,_,_]) rfl (by first|rfl|kernel_rfl)) ?_;refine LM.box rfl rfl (fun RK PM=>?_);refine cf ?_;refine af.aS (α:=Nat×Option Addr×Nat×Nat×aa) (fun ⟨i,rj,n2,gy,ms⟩=>[(8,.int .i64 (i:Nat))]) [(0,_),(7,_)] (fun ⟨i,rj,n2,gy,ms⟩=>jb RK rj n2 gy (aB s 1 32) (aB c 1 32) 0#64::(ms++ [])) (fun ⟨i,rj,n2,gy,ms⟩=>i≤n∧i≤8∧n2=i∧Sl SB 143 4 w.heap.size (R7 ws i) (.slice rj n2 gy) ms) (fun ⟨i,rj,n2,gy,ms⟩=>n-i) ((0,none,0,0,[])) cm aX ⟨Nat.zero_le _,Nat.zero_le _,rfl,.nil _ _ _ _⟩ ?_;rintro ⟨i,rj,n2,gy,ms⟩ ⟨hi,hi8,H3,hs⟩;change af _ _ _ _ _ _ _ (jb RK rj n2 gy (aB s 1 32) (aB c 1 32) 0#64::(ms++ [])) _ _ _;have MF:=Nv (ws:=ws) (i:=i) om;refine J8 ?_;refine LM.ar (t:=19) rfl (fun h1=>?_) (fun h1=>?_)
 ·refine J5 ?_;refine af.aj rfl (fun h2=>?_) (fun h2=>?_)
  ·refine J4 ?_;refine af.keep (jb RK rj n2 gy (aB s 1 32) (aB c 1 32) 0#64:: []) (fun _=>True) (.one 0 0 (.one 1 0 (.one 2 0 (.one 3 0 (.one 4 1 (.one 5 0 (.one 6 0 (.one 7 0 (.one 8 1 (.one 9 2 (.one 10 0 (.one 11 2 (.one 12 2 (.one 13 0 (.one 14 0 (.last 15)))))))))))))))) kr kr aX (fun _ _=>trivial) ?_;refine J8 ?_;refine KD.eT rfl rfl (ry aA Tryz.isAgg3 rfl rfl (by exact aQ 0 cL) (by rfl) id) ?_;refine J1 ?_;refine cE Tryz.func50 rfl (fun w hm hc hg=>bN _ 1 16 w) ?_;refine J2 ?_;refine KD.val rfl rfl (aD (cs:=#[_,_,_,_]) rfl (by first|rfl|kernel_rfl)) ?_;refine J1 ?_;refine LM.single Tryz.underlying144 Tryz.sizeOf143 Tryz.zeroValue143 rfl rfl rfl rfl rfl (fun Vc aaW=>?_);refine J3 ?_;refine LM.app (a:=ptN (ws.getD i 0)) Tryz.underlying144 Tryz.typeInfo143 rfl rfl rfl rfl rfl rfl rfl aA (by rfl) ir (by intro _ u hu;simp [SB] at hu;(repeat (first|(rcases hu with rfl|hu)|subst hu|rfl))) (by first|exact Nat.le_refl _|omega) jh (by first|omega|(unfold maxLen;omega)) (by simp only [Tryz.t143];omega) (fun Mf Ut Ai OX YS pO vy=>?_);refine J4 ?_;refine KD.last rfl ?_;refine LM.st Tryz.sizeOf144 rfl rfl rfl eA rfl cn ?_;refine J1 ?_;refine QM.qn ?_;refine J7 ?_;refine aK (i+1,Mf,Ut,Ai,OX) ?_ ?_
   · exact⟨by omega,by omega,by omega,by rw [LH om];exact pO⟩
   · (dsimp only;omega)
  refine cK ?_;refine qL Tryz.results52 rfl fun w' aq ab aI=>?_;rw [F7 s c om] at hs;exact⟨ab,jb RK rj n2 gy (aB s 1 32) (aB c 1 32) 0#64::ms,⟨RK,rfl,E5 ws s c,rj,n2,gy,ms,rfl,by rw [kJ];omega,hs,PM⟩,(aT.mem (by(repeat' (first|exact aT.all _|refine aT.cons rfl ?_|exact aT.nil _|(rw [List.append_nil];exact aT.all _))))) w' aq,fun p hp=>by rcases List.mem_cons.1 hp with rfl|hp;exact PM;exact hs.ge p hp⟩
 refine Fj ?_;refine qL Tryz.results52 rfl fun w' aq ab aI=>?_;rw [F7 s c om] at hs;exact⟨ab,jb RK rj n2 gy (aB s 1 32) (aB c 1 32) 0#64::ms,⟨RK,rfl,E5 ws s c,rj,n2,gy,ms,rfl,by rw [kJ];omega,hs,PM⟩,(aT.mem (by(repeat' (first|exact aT.all _|refine aT.cons rfl ?_|exact aT.nil _|(rw [List.append_nil];exact aT.all _))))) w' aq,fun p hp=>by rcases List.mem_cons.1 hp with rfl|hp;exact PM;exact hs.ge p hp⟩
abbrev dA (b:Nat) (sh:Bool) (sl:Int) (bI:Option Addr) (nh aG:Nat) (bR:Option Addr) (nw aO:Nat) (tr:vW) (bl:Nat) (di:Bool):Nat×Obj:=(b,.cells #[.bool sh,.int .i64 sl,.slice bI nh aG,.slice bR nw aO,.int .i64 tr.p,.int .i64 tr.u,.pointer (some ⟨bl,0,none⟩),.bool di] 61 (0,0))
abbrev c7 (b:Nat) (x:aY) (bI:Option Addr) (nh aG:Nat) (bR:Option Addr) (nw aO bl:Nat) (mh mw ml:aa):aa:=dA b x.sh x.sl bI nh aG bR nw aO x.tr bl x.di::(mh++(mw++ml))
def gE (n0 b:Nat) (x:aY) (wa:List Hd) (m:aa):Prop:=∃(bI:Option Addr) (nh aG:Nat) (bR:Option Addr) (nw aO bl:Nat) (mh mw ml:aa),m=c7 b x bI nh aG bR nw aO bl mh mw ml∧nh=x.ho.length∧nw=wa.length∧Sl td 68 3 n0 x.ho (.slice bI nh aG) mh∧Sl td 68 3 n0 wa (.slice bR nw aO) mw∧wH n0 bl x.ld ml∧n0≤b
def eD (w:Wt):Hd:=⟨w.who,w.key,false⟩
theorem gE.ge {n0 b:Nat} {x:aY} {wa:List Hd} {m:aa} (h:gE n0 b x wa m):∀p∈m,n0≤p.1:=by
  obtain ⟨bI,nh,aG,bR,nw,aO,bl,mh,mw,ml,rfl,iL,jP,eX,gk,kn,hb⟩:=h;intro p hp;rcases List.mem_cons.1 hp with rfl|hp
  · exact hb
  · rcases List.mem_append.1 hp with hp|hp
    · exact eX.ge p hp
    · rcases List.mem_append.1 hp with hp|hp
      · exact gk.ge p hp
      · exact kn.ge p hp
theorem gE.bW {n0 b:Nat} {x:aY} {wa:List Hd} {m:aa} (h:gE n0 b x wa m):∀p∈m,bW p.2=false:=by
  obtain ⟨bI,nh,aG,bR,nw,aO,bl,mh,mw,ml,rfl,iL,jP,eX,gk,kn,hb⟩:=h
  exact fun p hp=>by
    rcases List.mem_cons.1 hp with rfl|hp
    · rfl
    · rcases List.mem_append.1 hp with hp|hp
      · exact eX.bW p hp
      · rcases List.mem_append.1 hp with hp|hp
        · exact gk.bW p hp
        · exact kn.bW p hp
theorem gE.mono {n0 n1 b:Nat} {x:aY} {wa:List Hd} {m:aa} (h:gE n0 b x wa m) (hn:n1≤n0):gE n1 b x wa m:=by
  obtain ⟨bI,nh,aG,bR,nw,aO,bl,mh,mw,ml,rfl,iL,jP,eX,gk,kn,hb⟩:=h;exact⟨bI,nh,aG,bR,nw,aO,bl,mh,mw,ml,rfl,iL,jP,eX.mono hn,gk.mono hn,kn.mono hn,Nat.le_trans hn hb⟩
theorem KT {l:List Hd} {t:Int} {i:Nat} (ha:(l.take i).any (fun h=>decide (h.t=t))=false) (hi:i<l.length) (he:(l.getD i default).t=t):mP l t=(i:Nat):=by
  unfold mP;rw [ED default ha hi (decide_eq_true he)]
theorem kx {xs:List Hd} {ad:Option Addr} {n cap:Nat} (task:Int) (w:World) (hn:n=xs.length) (hl:Sr td 3 xs (.slice ad n cap) w) (hx:xs.length≤maxLen):aJ Tryz.prog 39 #[.slice ad n cap,.int .i64 task] w (fun v w'=>v= .int .i64 (mP xs task)∧Ext w w'):=by
 have zu:maxLen=9223372036854775807:=(by unfold maxLen;rfl)
 refine aJ.au Tryz.func39 rfl Tryz.ntmps39 rfl ([]) (no) (Mem.nil w) ?_;refine cK ?_;refine af.aS (α:=Nat) (fun i=>[(5,.int .i64 (i:Nat))]) [(0,_),(1,_)] (fun i=>[]) (fun i=>i≤xs.length∧(xs.take i).any (fun h=>decide (h.t=task))=false) (fun i=>xs.length-i) (0) cm aX ⟨Nat.zero_le _,rfl⟩ ?_;rintro i ⟨hi,ha⟩;change af _ _ _ _ _ _ _ ([]) _ _ _;refine J9 ?_;refine af.aj rfl (fun h1=>?_) (fun h1=>?_)
 ·refine cf ?_;refine LM.eT (dy (j:=0) aA Tryz.isAgg3 rfl rfl cR (by rfl) (by rfl) id) ?_;refine J4 ?_;refine af.aj rfl (fun h2=>?_) (fun h2=>?_)
  ·refine cK ?_;refine qL Tryz.results39 rfl fun w' aq ab aI=>?_;exact⟨by show Value.int .i64 _=_;rw [KT ha om h2],ab⟩
  refine J8 ?_;refine aK (i+1) ?_ ?_
  · exact⟨by omega,by rw [fX default om,ha,Bool.false_or];exact decide_eq_false h2⟩
  · omega
 refine dB ?_;refine qL Tryz.results39 rfl fun w' aq ab aI=>?_;have fp:i=xs.length:=om;subst fp;rw [List.take_length] at ha;exact⟨by show Value.int .i64 _=_;unfold mP;rw [qw ha],ab⟩
theorem lJ {xs:List Hd} {ad:Option Addr} {n cap:Nat} (p:Int) (w:World) (hn:n=xs.length) (hl:Sr td 3 xs (.slice ad n cap) w) (hx:xs.length≤maxLen):aJ Tryz.prog 146 #[.slice ad n cap,.int .i64 p] w (fun v w'=>v= .bool (xs.any (fun h=>decide (h.p=p)))∧Ext w w'):=by
 have zu:maxLen=9223372036854775807:=(by unfold maxLen;rfl)
 refine aJ.au Tryz.func146 rfl Tryz.ntmps146 rfl ([]) (no) (Mem.nil w) ?_;refine cK ?_;refine af.aS (α:=Nat) (fun i=>[(5,.int .i64 (i:Nat))]) [(0,_),(1,_)] (fun i=>[]) (fun i=>i≤xs.length∧(xs.take i).any (fun h=>decide (h.p=p))=false) (fun i=>xs.length-i) (0) cm aX ⟨Nat.zero_le _,rfl⟩ ?_;rintro i ⟨hi,ha⟩;change af _ _ _ _ _ _ _ ([]) _ _ _;refine J9 ?_;refine af.aj rfl (fun h1=>?_) (fun h1=>?_)
 ·refine cf ?_;refine LM.eT (dy (j:=1) aA Tryz.isAgg3 rfl rfl cR (by rfl) (by rfl) id) ?_;refine J4 ?_;refine af.aj rfl (fun h2=>?_) (fun h2=>?_)
  ·refine dB ?_;refine qL Tryz.results146 rfl fun w' aq ab aI=>?_;refine ⟨?_,ab⟩;show Value.bool true=_;congr 1;symm;rw [List.any_eq_true];exact⟨xs.getD i default,by rw [List.getD_eq_getElem?_getD,List.getElem?_eq_getElem om];exact List.getElem_mem _,decide_eq_true h2⟩
  refine J8 ?_;refine aK (i+1) ?_ ?_
  · exact⟨by omega,by rw [fX default om,ha,Bool.false_or];exact decide_eq_false h2⟩
  · omega
 refine dB ?_;refine qL Tryz.results146 rfl fun w' aq ab aI=>?_;have fp:i=xs.length:=om;subst fp;rw [List.take_length] at ha;exact⟨by rw [ha];rfl,ab⟩
theorem rF {xs:List Hd} {ad:Option Addr} {n cap:Nat} (s:BitVec 64) (w:World) (hn:n=xs.length) (hl:Sr td 3 xs (.slice ad n cap) w) (hx:xs.length≤maxLen):aJ Tryz.prog 114 #[U s,.slice ad n cap] w (fun v w'=>v=U ((xs.map (·.p)).foldl da s)∧Ext w w'):=by
 have zu:maxLen=9223372036854775807:=(by unfold maxLen;rfl)
 refine aJ.au Tryz.func114 rfl Tryz.ntmps114 rfl ([]) (no) (Mem.nil w) ?_;refine cK ?_;refine af.aS (α:=Nat) (fun i=>[(0,U (((xs.take i).map (·.p)).foldl da s)),(5,.int .i64 (i:Nat))]) [(1,_)] (fun i=>[]) (fun i=>i≤xs.length) (fun i=>xs.length-i) (0) ⟨(by first|exact lk rfl (by rw [List.take_zero];rfl)|exact lk rfl (by rw [g9 default om,List.foldl_append];rfl)),ka,rfl,trivial⟩ aX (Nat.zero_le _) ?_;rintro i hi;change af _ _ _ _ _ _ _ ([]) _ _ _;refine J9 ?_;refine af.aj rfl (fun h1=>?_) (fun h1=>?_)
 ·refine cf ?_;refine LM.eT (dy (j:=1) aA Tryz.isAgg3 rfl rfl cR (by rfl) (by rfl) id) ?_;refine cE Tryz.func149 rfl (fun w hm hc hg=>pN _ _ w) ?_;refine J9 ?_;refine QM.cT (i+1) ⟨(by first|exact lk rfl (by rw [List.take_zero];rfl)|exact lk rfl (by rw [g9 default om,List.foldl_append];rfl)),ka,rfl,trivial⟩ aX (fun _ h=>h) ?_ ?_
  · omega
  · omega
 refine cK ?_;refine qL Tryz.results114 rfl fun w' aq ab aI=>?_;have fp:i=xs.length:=om;subst fp;rw [List.take_length];exact⟨rfl,ab⟩
theorem pU {xs:List Hd} {ad:Option Addr} {n cap:Nat} (i:Nat) (w:World) (hn:n=xs.length) (hl:Sr td 3 xs (.slice ad n cap) w) (hi:i<xs.length) (hx:xs.length≤1000000):aJ Tryz.prog 99 #[.slice ad n cap,.int .i64 (i:Nat)] w (New td 68 3 (xs.eraseIdx i) w):=by
 have ks:=hl.open.2.1;refine aJ.au Tryz.func99 rfl Tryz.ntmps99 rfl ([]) (no) (Mem.nil w) ?_;refine J6 ?_;refine af.draw [(1,0),(2,0),(3,0),(5,0),(6,0),(7,0),(8,0),(0,3),(4,3),(9,3),(10,3)] kr kr ?_;refine J2 ?_;refine LD.val rfl rfl (jv Tryz.underlying56 Tryz.sizeOf68 rfl rfl om om) ?_;refine J2 ?_;refine LD.val rfl rfl (nf rfl rfl om) ?_;refine LD.val rfl rfl (nY (i+1) Tryz.underlying56 Tryz.sizeOf68 rfl rfl om om) ?_;refine LD.tail rfl rfl ?_;refine LM.K7 Tryz.underlying56 Tryz.sizeOf68 rfl (fun b5 KU=>?_);have FD:Sl td 68 3 w.heap.size ([] :List Hd) (.slice (some ⟨b5,0,none⟩) 0 0) [(b5,.cells (([] :List Value).toArray) 68 (0,0))] := .void KU (Nat.zero_le _) rfl;refine LM.rD (ys:=xs.take i) (m:=[(b5,.cells (([] :List Value).toArray) 68 (0,0))]) Tryz.underlying56 Tryz.typeInfo68 rfl rfl rfl rfl rfl rfl rfl FD (fun w hm hc hg=>(hl.take (k:=i) om).ext hc) ir (by intro _ u hu;simp [td] at hu;(repeat (first|(rcases hu with rfl|hu)|subst hu|rfl))) (Nat.le_refl _) (fun p hp bB=>absurd bB (Nat.not_lt_of_le (Sl.ge FD p hp))) (by unfold maxLen;rw [List.length_take];simp only [List.length_nil];omega) (by rw [List.length_take];simp only [Tryz.t68,List.length_nil];omega) (fun JH n9 vH m9 Z0 UL GQ=>?_);refine LM.rD (ys:=xs.drop (i+1)) (m:=m9) Tryz.underlying56 Tryz.typeInfo68 rfl rfl rfl rfl rfl rfl rfl UL (fun w hm hc hg=>(hl.drop (l:=i+1) om).ext hc) ir (by intro _ u hu;simp [td] at hu;(repeat (first|(rcases hu with rfl|hu)|subst hu|rfl))) (Nat.le_refl _) (fun p hp bB=>absurd bB (Nat.not_lt_of_le (Sl.ge UL p hp))) (by unfold maxLen;simp only [List.length_nil,List.length_append,List.length_take,List.length_drop];omega) (by simp only [Tryz.t68,List.length_nil,List.length_append,List.length_take,List.length_drop];omega) (fun akq n14 afI Va alc ac9 afj=>?_);refine J2 ?_;refine QM.qn ?_;refine J2 ?_;refine qL Tryz.results99 rfl fun w' aq ab aI=>?_;refine ⟨ab,Va,?_,aq.pick _⟩;rw [List.eraseIdx_eq_take_drop_succ];exact ac9
theorem iW {n0 b:Nat} {x:aY} {wa:List Hd} {m:aa} (task:Int) (w:World) (h:gE n0 b x wa m) (hM:Mem w m):aJ Tryz.prog 12 #[.pointer (some ⟨b,0,none⟩),.int .i64 task] w (fun u w'=>u= .bool ((x.ho).any (fun h=>decide (h.t=task)))∧Ext w w'):=by
 obtain ⟨bI,nh,aG,bR,nw,aO,bl,mh,mw,ml,rfl,iL,jP,eX,gk,kn,hb⟩:=h;refine aJ.au Tryz.func12 rfl Tryz.ntmps12 rfl (dA b x.sh x.sl bI nh aG bR nw aO x.tr bl x.di::(mh++(mw++(ml++ [])))) (no) aM ?_;refine cK ?_;refine cE Tryz.func39 rfl (fun w hm hc hg=>kx task w iL (eX.k8 ir hm) eX.len.2.1) ?_;refine J5 ?_;refine qL Tryz.results12 rfl fun w' aq ab aI=>?_;exact⟨by show Value.bool (decide (0≤mP (x.ho) task))=_;congr 1;unfold mP jL;cases (x.ho).any (fun h=>decide (h.t=task))<;>simp,ab⟩
theorem lF {n0 b:Nat} {x:aY} {wa:List Hd} {m:aa} (task:Int) (w:World) (h:gE n0 b x wa m) (hM:Mem w m):aJ Tryz.prog 13 #[.pointer (some ⟨b,0,none⟩),.int .i64 task] w (fun u w'=>u= .bool ((wa).any (fun h=>decide (h.t=task)))∧Ext w w'):=by
 obtain ⟨bI,nh,aG,bR,nw,aO,bl,mh,mw,ml,rfl,iL,jP,eX,gk,kn,hb⟩:=h;refine aJ.au Tryz.func13 rfl Tryz.ntmps13 rfl (dA b x.sh x.sl bI nh aG bR nw aO x.tr bl x.di::(mh++(mw++(ml++ [])))) (no) aM ?_;refine cK ?_;refine cE Tryz.func39 rfl (fun w hm hc hg=>kx task w jP (gk.k8 ir hm) gk.len.2.1) ?_;refine J5 ?_;refine qL Tryz.results13 rfl fun w' aq ab aI=>?_;exact⟨by show Value.bool (decide (0≤mP (wa) task))=_;congr 1;unfold mP jL;cases (wa).any (fun h=>decide (h.t=task))<;>simp,ab⟩
theorem ye {n0 b:Nat} {x:aY} {wa:List Hd} {m:aa} (g:Int) (r:Bool) (w:World) (h:gE n0 b x wa m) (hM:Mem w m):aJ Tryz.prog 137 #[.pointer (some ⟨b,0,none⟩),.int .i64 g,.bool r] w (fun u w'=>u= .int .i64 (yG x g r)∧Ext w w'):=by
 obtain ⟨bI,nh,aG,bR,nw,aO,bl,mh,mw,ml,rfl,iL,jP,eX,gk,kn,hb⟩:=h;refine aJ.au Tryz.func137 rfl Tryz.ntmps137 rfl (dA b x.sh x.sl bI nh aG bR nw aO x.tr bl x.di::(mh++(mw++(ml++ [])))) (no) aM ?_;refine lg ?_;refine af.aW rfl (fun h1=>?_) (fun h1=>?_)
 ·refine J6 ?_;refine af.aW rfl (fun h2=>?_) (fun h2=>?_)
  ·refine J8 ?_;refine qL Tryz.results137 rfl fun w' aq ab aI=>?_;refine ⟨?_,ab⟩;unfold yG;simp_all [bA]
  refine J9 ?_;refine qL Tryz.results137 rfl fun w' aq ab aI=>?_;refine ⟨?_,ab⟩;unfold yG;simp_all [bA]
 refine J7 ?_;refine LM.bu (t:=13) rfl (fun h3=>?_) (fun h3=>?_)
 ·refine Fj ?_;refine qL Tryz.results137 rfl fun w' aq ab aI=>?_;refine ⟨?_,ab⟩;unfold yG;simp_all [bA]
 refine J7 ?_;refine cE Tryz.func73 rfl (fun w hm hc hg=>ja g w kn (hm.pick ml)) ?_;refine J4 ?_;refine af.aW rfl (fun h4=>?_) (fun h4=>?_)
 ·refine J7 ?_;refine qL Tryz.results137 rfl fun w' aq ab aI=>?_;refine ⟨?_,ab⟩;unfold yG;simp_all [bA]
 refine J9 ?_;refine qL Tryz.results137 rfl fun w' aq ab aI=>?_;refine ⟨?_,ab⟩;unfold yG;simp_all [bA]
theorem zc {n0 b:Nat} {x:aY} {wa:List Hd} {m:aa} (p:Int) (w:World) (h:gE n0 b x wa m) (hM:Mem w m):aJ Tryz.prog 170 #[.pointer (some ⟨b,0,none⟩),.int .i64 p] w (fun u w'=>u= .bool (oT x.ld p&&(decide (x.ho.length=0)||(x.sh&&decide (p=0)&& !(x.ho.any (fun h=>decide (h.p=1)))&&(!(wa.any (fun h=>decide (h.p=1)))||yc x.tr x.sl 0))))∧Ext w w'):=by
 obtain ⟨bI,nh,aG,bR,nw,aO,bl,mh,mw,ml,rfl,iL,jP,eX,gk,kn,hb⟩:=h;refine aJ.au Tryz.func170 rfl Tryz.ntmps170 rfl (dA b x.sh x.sl bI nh aG bR nw aO x.tr bl x.di::(mh++(mw++(ml++ [])))) (no) aM ?_;refine gw ?_;refine cE Tryz.func73 rfl (fun w hm hc hg=>ja p w kn (hm.pick ml)) ?_;refine J3 ?_;refine af.aW rfl (fun h1=>?_) (fun h1=>?_)
 ·refine J7 ?_;refine qL Tryz.results170 rfl fun w' aq ab aI=>?_;refine ⟨?_,ab⟩;have hz:decide (x.ho.length=0)=decide ((nh:Int)=0):=decide_eq_decide.2 om;simp only [bA,hz,h1,decide_true,decide_false,Bool.true_and,Bool.false_and,Bool.and_true,Bool.and_false,Bool.not_true,Bool.not_false,Bool.true_or,Bool.false_or,Bool.or_true,Bool.or_false,ne_eq,not_true_eq_false,not_false_eq_true,Bool.and_self];first|done|(simp_all;done)|(simp_all;omega)
 refine gw ?_;refine af.aj rfl (fun h2=>?_) (fun h2=>?_)
 ·refine J7 ?_;refine qL Tryz.results170 rfl fun w' aq ab aI=>?_;refine ⟨?_,ab⟩;have hz:decide (x.ho.length=0)=decide ((nh:Int)=0):=decide_eq_decide.2 om;simp only [bA,hz,h1,h2,decide_true,decide_false,Bool.true_and,Bool.false_and,Bool.and_true,Bool.and_false,Bool.not_true,Bool.not_false,Bool.true_or,Bool.false_or,Bool.or_true,Bool.or_false,ne_eq,not_true_eq_false,not_false_eq_true,Bool.and_self];first|done|(simp_all;done)|(simp_all;omega)
 refine J3 ?_;refine af.draw [(0,0),(1,0),(2,0),(3,1),(4,0),(5,0),(6,0),(7,0),(8,0),(9,0),(10,0),(11,0),(12,1),(13,2),(14,0),(15,0),(16,0),(17,0),(18,0),(19,0),(20,1),(21,2),(22,0),(23,0),(24,0),(25,0),(26,0),(27,1),(28,0),(29,0),(30,0),(31,1),(32,2),(33,0),(34,0),(35,0)] kr kr ?_;refine J5 ?_;refine LD.bu (t:=22) rfl (fun h3=>?_) (fun h3=>?_)
 ·refine J4 ?_;refine LD.ar (t:=26) rfl (fun h4=>?_) (fun h4=>?_)
  ·refine J4 ?_;refine dE rfl ⟨26,_,rfl,rfl,rfl⟩ Tryz.func146 rfl (fun w hm hc hg=>lJ 1 w iL (eX.k8 ir hm) eX.len.2.1) ?_;refine J3 ?_;refine LD.bu (t:=34) rfl (fun h5=>?_) (fun h5=>?_)
   ·refine J4 ?_;refine dE rfl ⟨34,_,rfl,rfl,rfl⟩ Tryz.func146 rfl (fun w hm hc hg=>lJ 1 w jP (gk.k8 ir hm) gk.len.2.1) ?_;refine J2 ?_;refine LD.bu (t:=41) rfl (fun h6=>?_) (fun h6=>?_)
    ·refine ud ?_;refine qL Tryz.results170 rfl fun w' aq ab aI=>?_;refine ⟨?_,ab⟩;have hz:decide (x.ho.length=0)=decide ((nh:Int)=0):=decide_eq_decide.2 om;simp only [bA,hz,h1,h2,h3,h4,h5,h6,decide_true,decide_false,Bool.true_and,Bool.false_and,Bool.and_true,Bool.and_false,Bool.not_true,Bool.not_false,Bool.true_or,Bool.false_or,Bool.or_true,Bool.or_false,ne_eq,not_true_eq_false,not_false_eq_true,Bool.and_self];first|done|(simp_all;done)|(simp_all;omega)
    refine J3 ?_;refine LD.rd rfl ⟨41,_,rfl,rfl,rfl⟩ (pT Tryz.isAgg58 Tryz.sizeOf58 rfl (vs:=[_,_]) rfl ⟨rfl,rfl,trivial⟩) ?_;refine J4 ?_;refine dE rfl ⟨41,_,rfl,rfl,rfl⟩ Tryz.func171 rfl (fun w hm hc hg=>p7 x.tr _ _ w) ?_;refine J6 ?_;refine qL Tryz.results170 rfl fun w' aq ab aI=>?_;refine ⟨?_,ab⟩;have hz:decide (x.ho.length=0)=decide ((nh:Int)=0):=decide_eq_decide.2 om;simp only [bA,hz,h1,h2,h3,h4,h5,h6,decide_true,decide_false,Bool.true_and,Bool.false_and,Bool.and_true,Bool.and_false,Bool.not_true,Bool.not_false,Bool.true_or,Bool.false_or,Bool.or_true,Bool.or_false,ne_eq,not_true_eq_false,not_false_eq_true,Bool.and_self];first|done|(simp_all;done)|(simp_all;omega)
   refine J6 ?_;refine LD.c9 rfl rfl ⟨34,_,rfl,rfl,rfl⟩ ?_;refine J8 ?_;refine LD.Lr rfl rfl rfl ?_;refine J6 ?_;refine qL Tryz.results170 rfl fun w' aq ab aI=>?_;refine ⟨?_,ab⟩;have hz:decide (x.ho.length=0)=decide ((nh:Int)=0):=decide_eq_decide.2 om;simp only [bA,hz,h1,h2,h3,h4,h5,decide_true,decide_false,Bool.true_and,Bool.false_and,Bool.and_true,Bool.and_false,Bool.not_true,Bool.not_false,Bool.true_or,Bool.false_or,Bool.or_true,Bool.or_false,ne_eq,not_true_eq_false,not_false_eq_true,Bool.and_self];first|done|(simp_all;done)|(simp_all;omega)
  refine lg ?_;refine LD.c9 rfl rfl ⟨34,_,rfl,rfl,rfl⟩ ?_;refine J8 ?_;refine LD.Lr rfl rfl rfl ?_;refine J6 ?_;refine qL Tryz.results170 rfl fun w' aq ab aI=>?_;refine ⟨?_,ab⟩;have hz:decide (x.ho.length=0)=decide ((nh:Int)=0):=decide_eq_decide.2 om;simp only [bA,hz,h1,h2,h3,h4,decide_true,decide_false,Bool.true_and,Bool.false_and,Bool.and_true,Bool.and_false,Bool.not_true,Bool.not_false,Bool.true_or,Bool.false_or,Bool.or_true,Bool.or_false,ne_eq,not_true_eq_false,not_false_eq_true,Bool.and_self];first|done|(simp_all;done)|(simp_all;omega)
 refine Fj ?_;refine LD.c9 rfl rfl ⟨34,_,rfl,rfl,rfl⟩ ?_;refine J8 ?_;refine LD.Lr rfl rfl rfl ?_;refine J6 ?_;refine qL Tryz.results170 rfl fun w' aq ab aI=>?_;refine ⟨?_,ab⟩;have hz:decide (x.ho.length=0)=decide ((nh:Int)=0):=decide_eq_decide.2 om;simp only [bA,hz,h1,h2,h3,decide_true,decide_false,Bool.true_and,Bool.false_and,Bool.and_true,Bool.and_false,Bool.not_true,Bool.not_false,Bool.true_or,Bool.false_or,Bool.or_true,Bool.or_false,ne_eq,not_true_eq_false,not_false_eq_true,Bool.and_self];first|done|(simp_all;done)|(simp_all;omega)
theorem Au {n0 b nh aG nw aO bl:Nat} {bI bR:Option Addr} {x:aY} {wa:List Hd} {m mh mw ml M:aa} {u0:Value} {w w':World} (iL:nh=x.ho.length) (jP:nw=wa.length) (eX:Sl td 68 3 n0 x.ho (.slice bI nh aG) mh) (gk:Sl td 68 3 n0 wa (.slice bR nw aO) mw) (kn:wH n0 bl x.ld ml) (hb:n0≤b) (hm:Mem w' M)
    (hs:aT M (dA b x.sh x.sl bI nh aG bR nw aO x.tr bl x.di::(mh++(mw++(ml++ []))))) (hc:cX (fS m) w w') (hbm:fS m b) (h1:cZ m w.heap.size mh) (h2:cZ m w.heap.size mw) (h3:cZ m w.heap.size ml):
    eI m (fun u m'=>u=u0∧gE n0 b x wa m') w u0 w':=by
  rw [List.append_nil] at hs;exact⟨hc,_,⟨rfl,bI,nh,aG,bR,nw,aO,bl,mh,mw,ml,rfl,iL,jP,eX,gk,kn,hb⟩,hs.mem w' hm,gj hbm (bZ h1 (bZ h2 h3))⟩
theorem Rk {x:aY} {wa:List Hd} (h:wa.map (·.p)=x.wt.map (·.key)):(wa.map (·.p)).foldl da ((x.ho.map (·.p)).foldl da 0#64)=G1 x:=by
  have e:=Hk (x.ho.map (·.p)) (x.wt.map (·.key))
  unfold G1
  rw [←List.foldl_append,h,←e]
  unfold jM
  with_reducible rfl
theorem o6 {n0 b:Nat} {x:aY} {wa:List Hd} {m:aa} (task:Int) (w:World) (h:gE n0 b x wa m) (hM:Mem w m):
    aJ Tryz.prog 12 #[.pointer (some ⟨b,0,none⟩),.int .i64 task] w (fun u w'=>u= .bool (bd x task)∧Ext w w'):=iW task w h hM
theorem eE {n0 b:Nat} {x:aY} {wa:List Hd} {m:aa} (w:World) (h:gE n0 b x wa m) (hwa:wa.map (·.p)=x.wt.map (·.key)) (hM:Mem w m):aJ Tryz.prog 76 #[.pointer (some ⟨b,0,none⟩)] w (eI m (fun u m'=>gE n0 b (cB x) wa m') w):=by
 obtain ⟨bI,nh,aG,bR,nw,aO,bl,mh,mw,ml,rfl,iL,jP,eX,gk,kn,hb⟩:=h;refine aJ.au Tryz.func76 rfl Tryz.ntmps76 rfl (dA b x.sh x.sl bI nh aG bR nw aO x.tr bl x.di::(mh++(mw++(ml++ [])))) ((fS (c7 b x bI nh aG bR nw aO bl mh mw ml))) aM ?_;refine af.draw [(0,0),(1,0),(2,0),(3,1),(4,0),(5,0),(6,0),(7,1),(9,0),(10,0),(11,0),(12,1),(8,2),(13,2),(14,3)] kr kr ?_;refine cK ?_;refine dE rfl rfl Tryz.func114 rfl (fun w hm hc hg=>rF 0#64 w iL (eX.k8 ir hm) eX.len.2.1) ?_
 generalize FA:List.foldl da 0#64 (List.map (fun h=>h.p) x.ho)=s1
 refine dE rfl rfl Tryz.func114 rfl (fun w hm hc hg=>rF s1 w jP (gk.k8 ir hm) gk.len.2.1) ?_
 generalize rS:List.foldl da s1 (List.map (fun h=>h.p) wa)=s2;have Mx:s2=G1 x:=(by rw [←rS,←FA];exact Rk hwa);subst Mx
 refine LD.tail rfl rfl ?_;refine cU Tryz.func113 rfl (fun w hm hc hg=>Di (G1 x) w kn (hm.pick ml)) kn.bW (fun p hp _=>⟨p,by simp [hp],rfl⟩) ?_;rintro u16 m16 tB Wh;refine J1 ?_;refine QM.qn ?_;refine QM.leave (.inr rfl) [] Tryz.results76 rfl ?_;intro w' aq ab aI;exact eI.imp (Au (u0:=bA []) (x:=cB x) iL jP eX gk tB hb aq aX ab ee yC yC (rr Wh (fun p hp=>by simp [hp]))) (fun u m' h=>h.2)
theorem uT {n0 b:Nat} {x:aY} {wa:List Hd} {m:aa} (t p:Int) (w:World) (h:gE n0 b x wa m) (hwt:wa.any (fun h=>decide (h.t=t))=bY x t) (hM:Mem w m):aJ Tryz.prog 169 #[.pointer (some ⟨b,0,none⟩),.int .i64 t,.int .i64 p] w (fun u w'=>u= .int .i64 (cD x t p)∧Ext w w'):=by
 have og:=h;obtain ⟨bI,nh,aG,bR,nw,aO,bl,mh,mw,ml,rfl,iL,jP,eX,gk,kn,hb⟩:=h;refine aJ.au Tryz.func169 rfl Tryz.ntmps169 rfl (dA b x.sh x.sl bI nh aG bR nw aO x.tr bl x.di::(mh++(mw++(ml++ [])))) (no) aM ?_;refine dB ?_;refine LM.ar (t:=9) rfl (fun h1=>?_) (fun h1=>?_)
 ·refine Fj ?_;refine qL Tryz.results169 rfl fun w' aq ab aI=>?_;refine ⟨?_,ab⟩;unfold cD;simp_all [bA];try (intros;omega)
 refine J7 ?_;refine cE Tryz.func73 rfl (fun w hm hc hg=>ja p w kn (hm.pick ml)) ?_;refine J4 ?_;refine af.aW rfl (fun h2=>?_) (fun h2=>?_)
 ·refine J7 ?_;refine qL Tryz.results169 rfl fun w' aq ab aI=>?_;refine ⟨?_,ab⟩;unfold cD;simp_all [bA];try (intros;omega)
 refine J7 ?_;refine cE Tryz.func12 rfl (fun w hm hc hg=>o6 t w og (hm.pick (c7 b x bI nh aG bR nw aO bl mh mw ml))) ?_;refine J2 ?_;refine af.aW rfl (fun h3=>?_) (fun h3=>?_)
 ·refine J7 ?_;refine qL Tryz.results169 rfl fun w' aq ab aI=>?_;refine ⟨?_,ab⟩;unfold cD;simp_all [bA];try (intros;omega)
 refine J7 ?_;refine cE Tryz.func13 rfl (fun w hm hc hg=>hwt▸lF t w og (hm.pick (c7 b x bI nh aG bR nw aO bl mh mw ml))) ?_;refine J2 ?_;refine af.aW rfl (fun h4=>?_) (fun h4=>?_)
 ·refine J7 ?_;refine qL Tryz.results169 rfl fun w' aq ab aI=>?_;refine ⟨?_,ab⟩;unfold cD;simp_all [bA];try (intros;omega)
 refine J8 ?_;refine qL Tryz.results169 rfl fun w' aq ab aI=>?_;refine ⟨?_,ab⟩;unfold cD;simp_all [bA];try (intros;omega)
theorem oH {n0 b:Nat} {x:aY} {wa:List Hd} {m:aa} (i:Nat) (w:World) (h:gE n0 b x wa m) (hi:i<wa.length) (cb:n0≤w.heap.size) (hx:x.ho.length≤1000) (hw9:wa.length≤1000) (hM:Mem w m):aJ Tryz.prog 172 #[.pointer (some ⟨b,0,none⟩),.int .i64 (i:Nat)] w (eI m (fun u m'=>u= .int .i64 (wa.getD i default).t∧gE n0 b (mI x (wa.getD i default).t (wa.getD i default).p) (wa.eraseIdx i) m') w):=by
 obtain ⟨bI,nh,aG,bR,nw,aO,bl,mh,mw,ml,rfl,iL,jP,eX,gk,kn,hb⟩:=h;have Zq:=eX.len.2.1;have Pc:=gk.len;refine aJ.au Tryz.func172 rfl Tryz.ntmps172 rfl (dA b x.sh x.sl bI nh aG bR nw aO x.tr bl x.di::(mh++(mw++(ml++ [])))) ((fS (c7 b x bI nh aG bR nw aO bl mh mw ml))) aM ?_;refine gw ?_;refine LM.rd (jm gk ir Tryz.isAgg68 Tryz.sizeOf68 rfl (by exact aQ default hi)) ?_;refine LM.alloc Tryz.zeroValue68 rfl (fun b5 KU=>?_);refine LM.dC Tryz.sizeOf68 rfl rfl rfl rfl dF tC ?_;refine LM.mem (aT.mem (M':=(b5,.cells #[.int .i64 (wa.getD i default).t,.int .i64 (wa.getD i default).p,.bool (wa.getD i default).d] 68 (0,0))::dA b x.sh x.sl bI nh aG bR nw aO x.tr bl x.di::(mh++(mw++(ml++ [])))) aX) ?_;refine cf ?_;refine LM.cS (oC Tryz.func99) (fun w hm hc hg=>pU i w jP (gk.k8 ir hm) hi om) (fun O7 n19 E2 Xu ae2 Xz=>?_);refine J2 ?_;refine LM.st Tryz.sizeOf56 rfl rfl rfl eA rfl tC ?_;refine LM.mem (aT.mem (M':=(b5,.cells #[.int .i64 (wa.getD i default).t,.int .i64 (wa.getD i default).p,.bool (wa.getD i default).d] 68 (0,0))::dA b x.sh x.sl bI nh aG O7 n19 E2 x.tr bl x.di::(mh++(Xu++(ml++ [])))) aX) ?_;refine J9 ?_;refine LM.st Tryz.sizeOf4 rfl rfl rfl eA rfl tC ?_;refine LM.mem (aT.mem (M':=(b5,.cells #[.int .i64 (wa.getD i default).t,.int .i64 (wa.getD i default).p,.bool x.di] 68 (0,0))::dA b x.sh x.sl bI nh aG O7 n19 E2 x.tr bl x.di::(mh++(Xu++(ml++ [])))) aX) ?_;refine J7 ?_;refine LM.st Tryz.sizeOf4 rfl rfl rfl eA rfl tC ?_;refine LM.mem (aT.mem (M':=(b5,.cells #[.int .i64 (wa.getD i default).t,.int .i64 (wa.getD i default).p,.bool x.di] 68 (0,0))::dA b x.sh x.sl bI nh aG O7 n19 E2 x.tr bl false::(mh++(Xu++(ml++ [])))) aX) ?_;refine J3 ?_;refine af.keep ((b5,.cells #[.int .i64 (wa.getD i default).t,.int .i64 (wa.getD i default).p,.bool x.di] 68 (0,0))::dA b x.sh x.sl bI nh aG O7 n19 E2 x.tr bl false:: []) (fun _=>True) (.one 0 0 (.one 1 0 (.one 2 0 (.one 3 0 (.one 4 1 (.one 5 1 (.one 6 2 (.one 7 2 (.one 8 0 (.one 9 0 (.last 10))))))))))) kr kr aX (fun _ _=>trivial) ?_;refine J5 ?_;refine KD.rd rfl rfl (bo Tryz.isAgg68 Tryz.sizeOf68 rfl rfl) ?_;refine J1 ?_;refine LM.single Tryz.underlying56 Tryz.sizeOf68 Tryz.zeroValue68 rfl rfl rfl rfl rfl (fun Vc aaW=>?_);refine J3 ?_;refine LM.app (a:=(⟨(wa.getD i default).t,(wa.getD i default).p,x.di⟩:Hd)) Tryz.underlying56 Tryz.typeInfo68 rfl rfl rfl rfl rfl rfl rfl aA (by rfl) ir (by intro _ u hu;simp [td] at hu;(repeat (first|(rcases hu with rfl|hu)|subst hu|rfl))) (by first|exact Nat.le_refl _|omega) (fun p hp _=>⟨p,by simp [hp],rfl⟩) (by first|omega|(unfold maxLen;omega)) (by simp only [Tryz.t68];omega) (fun Mf Ut Ai OX YS pO vy=>?_);refine J4 ?_;refine KD.last rfl ?_;refine LM.st Tryz.sizeOf56 rfl rfl rfl eA rfl tC ?_;refine J1 ?_;refine QM.qn ?_;refine J9 ?_;refine qL Tryz.results172 rfl fun w' aq ab aI=>?_;exact Au (x:=mI x (wa.getD i default).t (wa.getD i default).p) (by show Ut=(_++_:List Hd).length;rw [List.length_append];omega) ae2 pO (Xz.mono cb) kn hb aq aX ab ee (rr vy (fun p hp=>by simp [hp])) (fun p hp=> .inl (Xz.ge p hp)) yC
def Cv (p:Int) (x:aY) (os:List Int):aY:=os.foldl (fun x t=>mI x t p) x
theorem Ae (p:Int) (x:aY) (os:List Int) (t:Int):Cv p x (os++ [t])=mI (Cv p x os) t p:=by unfold Cv;rw [List.foldl_append];rfl
theorem Pp (p:Int) (x:aY) (os:List Int):(Cv p x os).ho.length=x.ho.length+os.length:=by
  unfold Cv;rw [lO];show (x.ho++_).length=_;rw [List.length_append,rf]
theorem Lo {l:List Wt} {i:Nat} (hi:i<l.length):(l.map eD).getD i default=eD (l.getD i default):=by
  rw [List.getD_eq_getElem?_getD,List.getD_eq_getElem?_getD,List.getElem?_map,List.getElem?_eq_getElem hi];rfl
structure HW (x:aY) (p:Int) (n:Nat) (al:Bool) (dn rs:List Wt) (os:List Int):Prop where
  a:dn++qU p (n-os.length) rs=zZ x.wt (cQ x p n)
  b:os++((LF rs p).take (n-os.length)).map (·.who)=cQ x p n
  c:al=true→os.length+rs.length≤8
  d:dn.length+rs.length+os.length=x.wt.length
theorem HW.init {x:aY} {p:Int} {n:Nat} {al:Bool} (hw:wA x.wt) (h8:x.wt.length≤8):HW x p n al [] x.wt [] :=
  ⟨by rw [List.nil_append,tZ _ _ _ hw];rfl,by rw [List.nil_append];rfl,fun _=>by simpa using h8,by simp⟩
theorem HW.fin {x:aY} {p:Int} {n:Nat} {al:Bool} {dn:List Wt} {os:List Int} (h:HW x p n al dn [] os):dn=zZ x.wt (cQ x p n)∧os=cQ x p n:=by
  have ha:=h.a;have hb:=h.b;rw [show qU p (n-os.length) [] =[] by cases (n-os.length)<;>rfl,List.append_nil] at ha;rw [show LF [] p=[] from rfl,List.take_nil] at hb;exact⟨ha,by simpa using hb⟩
theorem HW.skip {x:aY} {p:Int} {n:Nat} {al:Bool} {dn rs:List Wt} {os:List Int} {w:Wt} (h:HW x p n al dn (w::rs) os) (hs:w.key≠p∨n-os.length=0):HW x p n al (dn++ [w]) rs os:=by
  refine ⟨?_,?_,fun q=>?_,?_⟩
  · rw [←h.a,xz hs];simp
  · rw [←h.b]
    rcases hs with hs|hs
    · rw [oe hs]
    · rw [hs,List.take_zero,List.take_zero]
  · have:=h.c q;simp at this;omega
  · have:=h.d;simp at this ⊢;omega
theorem HW.BR {x:aY} {p:Int} {n:Nat} {al:Bool} {dn rs:List Wt} {os:List Int} {w:Wt} (h:HW x p n al dn (w::rs) os) (hk:w.key=p) (hn:0<n-os.length):HW x p n al dn rs (os++ [w.who]):=by
  have e:n-(os++ [w.who]).length=n-os.length-1:=by rw [List.length_append];simp;omega
  refine ⟨?_,?_,fun q=>?_,?_⟩
  · rw [←h.a,Bp hk hn,e]
  · rw [←h.b,nj hk,e]
    obtain ⟨m,hm⟩:∃m,n-os.length=m+1:=⟨n-os.length-1,by omega⟩
    rw [hm,List.take_succ_cons];simp
  · have:=h.c q;simp at this ⊢;omega
  · have:=h.d;simp at this ⊢;omega
def RdT (n0 b k:Nat) (l:List Int) (x:aY) (u:Value) (m:aa):Prop:=∃mr mx,Sl fI 3 1 k l u mr∧m=mr++mx∧gE n0 b x (x.wt.map eD) mx
theorem pW {n0 b k:Nat} {x:aY} {m:aa} (p:Int) (al:Bool) (w:World) (h:gE n0 b x (x.wt.map eD) m) (hwd:wA x.wt) (h8:x.wt.length≤8) (cb:n0≤w.heap.size) (hx:x.ho.length≤900) (hk:k≤w.heap.size) (hM:Mem w m):aJ Tryz.prog 145 #[.pointer (some ⟨b,0,none⟩),.int .i64 p,.bool al] w (eI m (RdT n0 b k (cQ x p (if al then 8 else 1)) (l9 x p (if al then 8 else 1))) w):=by
 refine aJ.au Tryz.func145 rfl Tryz.ntmps145 rfl (m++ []) ((fS m)) aM ?_;refine xW ?_;refine af.aS (α:=List Wt×List Wt×List Int×Option Addr×Nat×Nat×aa×aa) (fun ⟨dn,rs,os,ad,n,cap,mo,mx⟩=>[(7,.slice ad n cap),(8,.int .i64 (dn.length:Nat))]) [(0,_),(1,_),(2,_)] (fun ⟨dn,rs,os,ad,n,cap,mo,mx⟩=>mo++(mx++ [])) (fun ⟨dn,rs,os,ad,n,cap,mo,mx⟩=>HW x p (if al then 8 else 1) al dn rs os∧n=os.length∧Sl fI 3 1 w.heap.size os (.slice ad n cap) mo∧gE n0 b (Cv p x os) ((dn++rs).map eD) mx∧cZ m w.heap.size mx) (fun ⟨dn,rs,os,ad,n,cap,mo,mx⟩=>rs.length) (([],x.wt,[],none,0,0,[],m)) cm aX ⟨HW.init hwd h8,rfl,.nil _ _ _ _,h,ay _ _⟩ ?_;rintro ⟨dn,rs,os,ad,n,cap,mo,mx⟩ ⟨hG,hn,hO,hL,vh⟩;change af _ _ _ _ _ _ _ (mo++(mx++ [])) _ _ _;have Mw:=hL;obtain ⟨bI,nh,aG,bR,nw,aO,bl,mh,mw,ml,rfl,iL,jP,eX,gk,kn,hb⟩:=hL;refine af.mem (aT.mem (M':=mo++(dA b (Cv p x os).sh (Cv p x os).sl bI nh aG bR nw aO (Cv p x os).tr bl (Cv p x os).di::(mh++(mw++(ml++ []))))) (by rw [List.cons_append,List.append_assoc,List.append_assoc];(repeat' (first|exact aT.nil _|refine aT.cons rfl ?_|refine aT.app ?_)))) ?_;have hdl:((dn++rs).map eD).length=dn.length+rs.length:=(by rw [List.length_map,List.length_append]);have hGd:=hG.d;have fp:=Pp p x os;refine cK ?_;refine af.aj rfl (fun h1=>?_) (fun h1=>?_)
 ·obtain ⟨v,OG,rfl⟩:∃v l,rs=v::l:=(by cases rs with|nil=>exfalso;have e0:([] :List Wt).length=0:=rfl;omega|cons v l=>exact⟨v,l,rfl⟩);have U8:(List.map eD (dn++v::OG)).getD dn.length default=eD v:=(by rw [Lo (by simp),List.getD_eq_getElem?_getD,List.getElem?_append_right (Nat.le_refl _),Nat.sub_self];rfl);have z4:(List.map eD (dn++v::OG)).eraseIdx dn.length=List.map eD (dn++OG):=(by rw [List.map_append,List.eraseIdx_append_of_length_le (by rw [List.length_map];exact Nat.le_refl _),List.length_map,Nat.sub_self,List.map_append];rfl);rw [List.length_cons] at hdl hGd;have XN:(v::OG).length=OG.length+1:=List.length_cons ..;refine gw ?_;refine LM.rd (aH (j:=1) aA ir Tryz.isAgg3 rfl rfl cR rfl (by rfl)) ?_;refine J3 ?_;refine LM.ar (t:=26) rfl (fun h2=>?_) (fun h2=>?_)
  ·rw [U8] at h2;refine J3 ?_;refine LM.c9 (t:=26) rfl rfl rfl ?_;refine xW ?_;refine aK (dn++ [v],OG,os,ad,n,cap,mo,c7 b (Cv p x os) bI nh aG bR nw aO bl mh mw ml) ?_ ?_
   · exact⟨hG.skip (.inl h2),hn,hO,by rw [List.append_assoc];exact Mw,vh⟩
   · (dsimp only;omega)
  rw [U8] at h2;have RU:v.key=p:=(by simpa [eD] using h2)
  refine J4 ?_;refine LM.ar (t:=30) rfl (fun h3=>?_) (fun h3=>?_)
  ·refine J6 ?_;refine af.aW rfl (fun h4=>?_) (fun h4=>?_)
   ·refine cf ?_;refine aK (dn++ [v],OG,os,ad,n,cap,mo,c7 b (Cv p x os) bI nh aG bR nw aO bl mh mw ml) ?_ ?_
    · have H8:al=false:=(by simpa using h4);exact⟨hG.skip (.inr (by rw [H8,if_neg (by decide)];omega)),hn,hO,by rw [List.append_assoc];exact Mw,vh⟩
    · (dsimp only;omega)
   refine J6 ?_;refine cU Tryz.func172 rfl (fun w hm hc hg=>oH dn.length w Mw om (Nat.le_trans cb hc.size) om om (hm.pick (c7 b (Cv p x os) bI nh aG bR nw aO bl mh mw ml))) Mw.bW (ao vh) ?_;rintro u40 XA ⟨rfl,Cq⟩ pf;rw [U8,z4] at Cq;rw [U8];rw [show (eD v).p=p from RU] at Cq;refine LM.single Tryz.underlying26 Tryz.sizeOf3 Tryz.zeroValue3 rfl rfl rfl rfl rfl (fun b41 ab5=>?_);refine LM.app (a:=v.who) Tryz.underlying26 Tryz.typeInfo3 rfl rfl rfl rfl rfl rfl rfl aA (by rfl) ir (by intro _ u hu;simp [fI] at hu;(repeat (first|(rcases hu with rfl|hu)|subst hu|rfl))) (by first|exact Nat.le_refl _|omega) (fun p hp bB=>absurd bB (Nat.not_lt_of_le (hO.ge p hp))) (by first|omega|(unfold maxLen;omega)) (by simp only [Tryz.t3];omega) (fun SX n42 IS OD aei To sH=>?_);refine J3 ?_;refine aK (dn,OG,os++ [v.who],SX,n42,IS,OD,XA) ?_ ?_
   · have H8:al=true:=(by simpa using h4);have hc8:=hG.c H8;rw [List.length_cons] at hc8;exact⟨hG.BR RU (by rw [H8,if_pos rfl];omega),by rw [List.length_append,List.length_singleton];omega,To,by rw [Ae];exact Cq,ak vh pf⟩
   · (dsimp only;omega)
  refine gw ?_;refine cU Tryz.func172 rfl (fun w hm hc hg=>oH dn.length w Mw om (Nat.le_trans cb hc.size) om om (hm.pick (c7 b (Cv p x os) bI nh aG bR nw aO bl mh mw ml))) Mw.bW (ao vh) ?_;rintro u40 XA ⟨rfl,Cq⟩ pf;rw [U8,z4] at Cq;rw [U8];rw [show (eD v).p=p from RU] at Cq;refine LM.single Tryz.underlying26 Tryz.sizeOf3 Tryz.zeroValue3 rfl rfl rfl rfl rfl (fun b41 ab5=>?_);refine LM.app (a:=v.who) Tryz.underlying26 Tryz.typeInfo3 rfl rfl rfl rfl rfl rfl rfl aA (by rfl) ir (by intro _ u hu;simp [fI] at hu;(repeat (first|(rcases hu with rfl|hu)|subst hu|rfl))) (by first|exact Nat.le_refl _|omega) (fun p hp bB=>absurd bB (Nat.not_lt_of_le (hO.ge p hp))) (by first|omega|(unfold maxLen;omega)) (by simp only [Tryz.t3];omega) (fun SX n42 IS OD aei To sH=>?_);refine J3 ?_;refine aK (dn,OG,os++ [v.who],SX,n42,IS,OD,XA) ?_ ?_
  · exact⟨hG.BR RU (by have:os.length=0:=om;rw [this];cases al<;>decide),by rw [List.length_append,List.length_singleton];omega,To,by rw [Ae];exact Cq,ak vh pf⟩
  · (dsimp only;omega)
 refine cK ?_;refine qL Tryz.results145 rfl fun w' aq ab aI=>?_;have hrs:rs=[] :=(by apply List.eq_nil_of_length_eq_zero;omega);subst hrs;obtain ⟨hf1,hf2⟩:=hG.fin;subst hf2;refine aZ (m':=mo++c7 b (Cv p x (cQ x p (if al then 8 else 1))) bI nh aG bR nw aO bl mh mw ml) ⟨mo,_,hO.mono hk,rfl,?_⟩ aq aX ab (bZ (fun p hp=> .inl (hO.ge p hp)) vh);rw [PL,←hf1,eQ];rw [List.append_nil] at Mw;unfold Cv at Mw ⊢;rw [lO] at Mw ⊢;exact Mw
theorem Sl.Xn {α:Type} {f:α→List Value} {E s n0 b:Nat} (a:α) (hb:n0≤b) (hf:(f a).length=s):Sl f E s n0 [a] (.slice (some ⟨b,0,none⟩) 1 1) [(b,.cells (f a).toArray E (0,0))] :=
  .inr ⟨b,1,[],hb,rfl,by simp [arr],Nat.le_refl _,by decide,by rw [List.length_singleton,Nat.one_mul];rfl⟩
theorem lu (L:List Wt):(L.map eD).map (·.p)=L.map (·.key):=by rw [List.map_map];rfl
theorem ru (L:List Wt) (t:Int):(L.map eD).any (fun h=>decide (h.t=t))=L.any (fun w=>decide (w.who=t)):=by rw [List.any_map];rfl
theorem D3 (L:List Wt) (p:Int):(L.map eD).any (fun h=>decide (h.p=p))=L.any (fun w=>decide (w.key=p)):=by rw [List.any_map];rfl
theorem EP (L:List Wt) (p:Int):decide (wj L p=0)= !(L.any (fun w=>decide (w.key=p))):=by
  by_cases c:wj L p=0
  · rw [decide_eq_true c]
    have:LF L p=[] :=List.eq_nil_of_length_eq_zero c
    have h2:L.any (fun w=>decide (w.key=p))=false:=by
      rw [List.any_eq_false];intro w hw q;have:=vU.2 ⟨hw,of_decide_eq_true q⟩;rw [‹LF L p=[]›] at this;cases this
    rw [h2];rfl
  · rw [decide_eq_false c]
    have h2:L.any (fun w=>decide (w.key=p))=true:=by
      rw [List.any_eq_true];cases hl:LF L p with
      |nil=>exfalso;apply c;unfold wj;rw [hl];rfl
      |cons w l=>
        have:w∈LF L p:=by rw [hl];exact List.mem_cons_self ..
        have:=vU.1 this;exact⟨w,this.1,decide_eq_true this.2⟩
    rw [h2];rfl
theorem Am {x:aY} (h:pg x) (hs:x.sh=true) (h0:0<x.ho.length):(!(x.ho.any (fun g=>decide (g.p=1))))=decide ((x.ho.getD 0 default).p=0):=by
  have jC:∀g∈x.ho,g.p=0∨g.p=1:=fun g hg=>by
    obtain ⟨i,hi,fp⟩:=uX (h.hk g hg);rw [h.l2 hs] at fp;omega
  cases hx:x.ho with
  |nil=>rw [hx] at h0;cases h0
  |cons a l=>
    show _=decide (a.p=0)
    have ha:a∈x.ho:=by rw [hx];exact List.mem_cons_self ..
    by_cases c:a.p=0
    · rw [decide_eq_true c]
      have:(a::l).any (fun g=>decide (g.p=1))=false:=by
        rw [List.any_eq_false];intro g hg q;have q2:=of_decide_eq_true q;rcases h.rd hs with r|r
        · have:=r g (by rw [hx];exact hg);omega
        · rw [hx] at r;have hl:l=[] :=List.eq_nil_of_length_eq_zero (by simp at r;simp [r])
          subst hl;rcases List.mem_singleton.1 hg with rfl;omega
      rw [this];rfl
    · rw [decide_eq_false c]
      have:a.p=1:=by rcases jC a ha with q|q;exact absurd q c;exact q
      rw [List.any_cons,decide_eq_true this];rfl
theorem Oi {x:aY} (h:pg x) (p:Int):(oT x.ld p&&(decide (x.ho.length=0)||(x.sh&&decide (p=0)&& !(x.ho.any (fun h=>decide (h.p=1)))&&(!((x.wt.map eD).any (fun h=>decide (h.p=1)))||yc x.tr x.sl 0))))=gg x p:=by
  unfold gg kO
  rw [D3,EP]
  by_cases c0:x.ho.length=0
  · rw [decide_eq_true c0];simp
  · rw [decide_eq_false c0,decide_eq_true (show 0<x.ho.length by omega)]
    cases hs:x.sh with
    |false=>simp
    |true=>
      rw [Am h hs om];cases oT x.ld p<;>cases decide (p=0)<;>cases decide ((x.ho.getD 0 default).p=0)<;>simp
theorem sI {n0 b:Nat} {x:aY} {m:aa} (p:Int) (w:World) (hv:pg x) (h:gE n0 b x (x.wt.map eD) m) (hM:Mem w m):
    aJ Tryz.prog 170 #[.pointer (some ⟨b,0,none⟩),.int .i64 p] w (fun u w'=>u= .bool (gg x p)∧Ext w w'):=by
  have h1:=zc p w h hM;rw [Oi hv] at h1;exact h1
def FJ (x:aY):Bool:=x.sh&& !(x.ho.any (fun g=>decide (g.p=1)))&& !(x.wt.any (fun w=>decide (w.key=1)))
def xC (x:aY):List Int:=if x.wt.length=0 then [] else if x.ho.length=0 then iJ x else if FJ x=true then cQ x 0 8 else []
def u5 (x:aY):aY:=if x.wt.length=0 then x else if x.ho.length=0 then jV x else if FJ x=true then l9 x 0 8 else x
theorem tO {x:aY} (h:¬x.wt.length=0):iJ x=cQ (dp x) (dp x).tr.p (mB x)∧jV x=l9 (dp x) (dp x).tr.p (mB x):=⟨if_neg h,if_neg h⟩
theorem Af (x:aY):mB x=if (x.sh&&decide ((dp x).tr.p=0))=true then 8 else 1:=by
  unfold mB;congr 1;simp
theorem xt {n0 b k:Nat} {x:aY} {m:aa} (w:World) (hv:pg x) (h:gE n0 b x (x.wt.map eD) m) (cb:n0≤w.heap.size) (hx:x.ho.length≤900) (hk:k≤w.heap.size) (hM:Mem w m):aJ Tryz.prog 100 #[.pointer (some ⟨b,0,none⟩)] w (eI m (RdT n0 b k (xC x) (u5 x)) w):=by
 have og:=h;obtain ⟨bI,nh,aG,bR,nw,aO,bl,mh,mw,ml,rfl,iL,jP,eX,gk,kn,hb⟩:=h;have Pc:(x.wt.map eD).length=x.wt.length:=List.length_map ..;refine aJ.au Tryz.func100 rfl Tryz.ntmps100 rfl (dA b x.sh x.sl bI nh aG bR nw aO x.tr bl x.di::(mh++(mw++(ml++ [])))) ((fS (c7 b x bI nh aG bR nw aO bl mh mw ml))) aM ?_;refine Fw ?_;refine af.aj rfl (fun h1=>?_) (fun h1=>?_)
 ·refine J7 ?_;refine qL Tryz.results100 rfl fun w' aq ab aI=>?_;have hz:x.wt.length=0:=om;rw [show xC x=[] from if_pos hz,show u5 x=x from if_pos hz];exact aZ (m':=c7 b x bI nh aG bR nw aO bl mh mw ml) ⟨[],_,Sl.nil _ _ _ _,rfl,og⟩ aq aX ab (ay _ _)
 refine gw ?_;refine af.aj rfl (fun h2=>?_) (fun h2=>?_)
 ·refine J6 ?_;refine cE Tryz.func114 rfl (fun w hm hc hg=>rF 0#64 w jP (gk.k8 ir hm) gk.len.2.1) ?_
  generalize FA:List.foldl da 0#64 (List.map (fun h=>h.p) (List.map eD x.wt))=s1;have rS:s1=gb x:=(by rw [←FA];unfold gb jM;rw [←lu]);subst rS
  refine J4 ?_;refine af.draw [(0,0),(1,0),(2,0),(3,0),(4,1),(5,0),(6,0),(7,0),(8,1),(9,0),(10,0),(11,0),(12,0),(13,1),(14,0),(15,2),(16,2),(17,0),(18,0),(19,3)] kr kr ?_;refine J4 ?_;refine LD.rd rfl rfl (pT Tryz.isAgg58 Tryz.sizeOf58 rfl (vs:=[_,_]) rfl ⟨rfl,rfl,trivial⟩) ?_;refine cf ?_;refine dE rfl rfl Tryz.func144 rfl (fun w hm hc hg=>DJ _ w kn (hm.pick ml)) ?_;refine dE rfl rfl Tryz.func143 rfl (fun w hm hc hg=>BH x.tr _ _ _ w) ?_;refine J2 ?_;refine LD.tail rfl rfl ?_;refine LM.st Tryz.sizeOf58 rfl rfl rfl eA rfl tC ?_;refine LM.mem (aT.mem (M':=dA b x.sh x.sl bI nh aG bR nw aO (dp x).tr bl x.di::(mh++(mw++(ml++ [])))) aX) ?_;refine J1 ?_;refine QM.qn ?_;refine J2 ?_;refine af.draw [(0,0),(1,0),(2,0),(3,0),(4,0),(5,1),(6,0),(7,0),(8,0),(9,1),(10,0),(11,0),(12,0),(13,0),(14,0),(15,1),(16,0),(17,0),(18,3),(19,3)] kr kr ?_;refine dB ?_;refine LD.bu (t:=50) rfl (fun h3=>?_) (fun h3=>?_)
  ·refine J7 ?_;refine LD.tail rfl rfl ?_;have hF:gE n0 b (dp x) ((dp x).wt.map eD) (dA b x.sh x.sl bI nh aG bR nw aO (dp x).tr bl x.di::(mh++(mw++ml))):=⟨bI,nh,aG,bR,nw,aO,bl,mh,mw,ml,rfl,iL,jP,eX,gk,kn,hb⟩
   refine cU Tryz.func145 rfl (fun w hm hc hg=>pW (k:=k) _ _ w hF hv.wd hv.w8 (Nat.le_trans cb hc.size) hx (Nat.le_trans hk hc.size) (hm.pick (dA b x.sh x.sl bI nh aG bR nw aO (dp x).tr bl x.di::(mh++(mw++ml))))) hF.bW (fun q hq _=>Dh q hq rfl) ?_;rintro u58 Uy ⟨JI,Bd,Ra,rfl,TP⟩ ql;refine J2 ?_;refine QM.qn ?_;refine J3 ?_;refine qL Tryz.results100 rfl fun w' aq ab aI=>?_;have hz:¬x.wt.length=0:=om;have h0:x.ho.length=0:=om;have e1:xC x=iJ x:=(by unfold xC;rw [if_neg hz,if_pos h0]);have e2:u5 x=jV x:=(by unfold u5;rw [if_neg hz,if_pos h0]);rw [e1,e2,(tO hz).1,(tO hz).2,Af,h3,Bool.true_and];exact aZ (m':=JI++Bd) ⟨JI,Bd,Ra,rfl,TP⟩ aq aX ab (LQ ql rfl)
  refine J7 ?_;refine LD.tail rfl rfl ?_;have hF:gE n0 b (dp x) ((dp x).wt.map eD) (dA b x.sh x.sl bI nh aG bR nw aO (dp x).tr bl x.di::(mh++(mw++ml))):=⟨bI,nh,aG,bR,nw,aO,bl,mh,mw,ml,rfl,iL,jP,eX,gk,kn,hb⟩
  refine cU Tryz.func145 rfl (fun w hm hc hg=>pW (k:=k) _ _ w hF hv.wd hv.w8 (Nat.le_trans cb hc.size) hx (Nat.le_trans hk hc.size) (hm.pick (dA b x.sh x.sl bI nh aG bR nw aO (dp x).tr bl x.di::(mh++(mw++ml))))) hF.bW (fun q hq _=>Dh q hq rfl) ?_;rintro u58 Uy ⟨JI,Bd,Ra,rfl,TP⟩ ql;refine J2 ?_;refine QM.qn ?_;refine J3 ?_;refine qL Tryz.results100 rfl fun w' aq ab aI=>?_;have hz:¬x.wt.length=0:=om;have h0:x.ho.length=0:=om;have e1:xC x=iJ x:=(by unfold xC;rw [if_neg hz,if_pos h0]);have e2:u5 x=jV x:=(by unfold u5;rw [if_neg hz,if_pos h0]);rw [e1,e2,(tO hz).1,(tO hz).2,Af,h3,Bool.false_and];exact aZ (m':=JI++Bd) ⟨JI,Bd,Ra,rfl,TP⟩ aq aX ab (LQ ql rfl)
 refine cf ?_;refine LM.bu (t:=63) rfl (fun h4=>?_) (fun h4=>?_)
 ·refine J6 ?_;refine cE Tryz.func146 rfl (fun w hm hc hg=>lJ 1 w iL (eX.k8 ir hm) eX.len.2.1) ?_;refine J3 ?_;refine LM.bu (t:=71) rfl (fun h5=>?_) (fun h5=>?_)
  ·refine J6 ?_;refine cE Tryz.func146 rfl (fun w hm hc hg=>lJ 1 w jP (gk.k8 ir hm) gk.len.2.1) ?_;refine J4 ?_;refine af.aW rfl (fun h6=>?_) (fun h6=>?_)
   ·refine J3 ?_;refine cU Tryz.func145 rfl (fun w hm hc hg=>pW (k:=k) 0 true w og hv.wd hv.w8 (Nat.le_trans cb hc.size) hx (Nat.le_trans hk hc.size) (hm.pick (c7 b x bI nh aG bR nw aO bl mh mw ml))) og.bW (fun q hq _=>⟨q,hq,rfl⟩) ?_;rintro u80 m80 ⟨Vo,V5,acr,rfl,h80⟩ Qa;refine J5 ?_;refine qL Tryz.results100 rfl fun w' aq ab aI=>?_;have hn:FJ x=true:=(by unfold FJ;rw [←D3,h4,h5,h6];rfl);have hz:¬x.wt.length=0:=om;have h0:¬x.ho.length=0:=om;have e1:xC x=cQ x 0 8:=(by unfold xC;rw [if_neg hz,if_neg h0,if_pos hn]);have e2:u5 x=l9 x 0 8:=(by unfold u5;rw [if_neg hz,if_neg h0,if_pos hn]);rw [e1,e2];exact aZ (m':=Vo++V5) ⟨Vo,V5,acr,rfl,h80⟩ aq aX ab Qa
   refine J8 ?_;refine qL Tryz.results100 rfl fun w' aq ab aI=>?_;have hn:FJ x=false:=(by unfold FJ;rw [←D3,h6];simp);have hz:¬x.wt.length=0:=om;have h0:¬x.ho.length=0:=om;have e1:xC x=[] :=(by unfold xC;rw [if_neg hz,if_neg h0,if_neg (by rw [hn];simp)]);have e2:u5 x=x:=(by unfold u5;rw [if_neg hz,if_neg h0,if_neg (by rw [hn];simp)]);rw [e1,e2];exact aZ (m':=c7 b x bI nh aG bR nw aO bl mh mw ml) ⟨[],_,Sl.nil _ _ _ _,rfl,og⟩ aq aX ab (ay _ _)
  refine Fj ?_;refine qL Tryz.results100 rfl fun w' aq ab aI=>?_;have hn:FJ x=false:=(by unfold FJ;rw [h5];simp);have hz:¬x.wt.length=0:=om;have h0:¬x.ho.length=0:=om;have e1:xC x=[] :=(by unfold xC;rw [if_neg hz,if_neg h0,if_neg (by rw [hn];simp)]);have e2:u5 x=x:=(by unfold u5;rw [if_neg hz,if_neg h0,if_neg (by rw [hn];simp)]);rw [e1,e2];exact aZ (m':=c7 b x bI nh aG bR nw aO bl mh mw ml) ⟨[],_,Sl.nil _ _ _ _,rfl,og⟩ aq aX ab (ay _ _)
 refine Uz ?_;refine qL Tryz.results100 rfl fun w' aq ab aI=>?_;have hn:FJ x=false:=(by unfold FJ;rw [h4];simp);have hz:¬x.wt.length=0:=om;have h0:¬x.ho.length=0:=om;have e1:xC x=[] :=(by unfold xC;rw [if_neg hz,if_neg h0,if_neg (by rw [hn];simp)]);have e2:u5 x=x:=(by unfold u5;rw [if_neg hz,if_neg h0,if_neg (by rw [hn];simp)]);rw [e1,e2];exact aZ (m':=c7 b x bI nh aG bR nw aO bl mh mw ml) ⟨[],_,Sl.nil _ _ _ _,rfl,og⟩ aq aX ab (ay _ _)
theorem F4 (x:aY) (t p:Int):(cu x t p).wt=x.wt:=by
  unfold cu;split
  · rfl
  · show (bT x p).wt=x.wt;exact(eK x p).2.2.1
theorem Aj {n0 b:Nat} {x:aY} {m:aa} (t p:Int) (w:World) (hv:pg x) (h:gE n0 b x (x.wt.map eD) m) (cb:n0≤w.heap.size) (hx:x.ho.length≤900) (hM:Mem w m):aJ Tryz.prog 138 #[.pointer (some ⟨b,0,none⟩),.int .i64 t,.int .i64 p] w (eI m (fun u m'=>u= .int .i64 (c6 x t p)∧gE n0 b (cu x t p) ((cu x t p).wt.map eD) m') w):=by
 have og:=h;obtain ⟨bI,nh,aG,bR,nw,aO,bl,mh,mw,ml,rfl,iL,jP,eX,gk,kn,hb⟩:=h;have Pc:(x.wt.map eD).length=x.wt.length:=List.length_map ..;have hw8:=hv.w8;refine aJ.au Tryz.func138 rfl Tryz.ntmps138 rfl (dA b x.sh x.sl bI nh aG bR nw aO x.tr bl x.di::(mh++(mw++(ml++ [])))) ((fS (c7 b x bI nh aG bR nw aO bl mh mw ml))) aM ?_;refine cf ?_;refine cE Tryz.func169 rfl (fun w hm hc hg=>uT t p w og (ru _ _) (hm.pick (c7 b x bI nh aG bR nw aO bl mh mw ml))) ?_;refine cf ?_;refine af.aj rfl (fun h1=>?_) (fun h1=>?_)
 ·refine J8 ?_;refine qL Tryz.results138 rfl fun w' aq ab aI=>?_;have e1:c6 x t p=cD x t p:=if_pos (by simpa using h1);have e2:cu x t p=x:=if_pos (by rw [e1];simpa using h1);rw [e1,e2];exact aZ (m':=c7 b x bI nh aG bR nw aO bl mh mw ml) ⟨rfl,og⟩ aq aX ab (ay _ _)
 refine J7 ?_;refine cE Tryz.func170 rfl (fun w hm hc hg=>sI p w hv og (hm.pick (c7 b x bI nh aG bR nw aO bl mh mw ml))) ?_;refine J3 ?_;refine af.aW rfl (fun h2=>?_) (fun h2=>?_)
 ·refine J7 ?_;refine qL Tryz.results138 rfl fun w' aq ab aI=>?_;have k1:cD x t p=0:=(by simpa using h1);have k2:¬gg x p=true:=(by simpa using h2);have e1:c6 x t p=8:=(by unfold c6;rw [if_neg (by rw [k1];simp),if_neg k2]);have e2:cu x t p=x:=if_pos (by rw [e1];decide);rw [e1,e2];exact aZ (m':=c7 b x bI nh aG bR nw aO bl mh mw ml) ⟨rfl,og⟩ aq aX ab (ay _ _)
 refine J4 ?_;refine af.draw [(0,0),(1,0),(2,0),(3,1),(4,0),(5,0),(6,0),(7,0),(8,0),(9,0),(10,1),(11,0),(12,0),(13,0),(14,1),(15,0),(16,2),(17,0),(18,0)] kr kr ?_;refine J7 ?_;refine LD.ar (t:=25) rfl (fun h3=>?_) (fun h3=>?_)
 ·refine J3 ?_;refine LD.rd rfl ⟨25,_,rfl,rfl,rfl⟩ (pT Tryz.isAgg58 Tryz.sizeOf58 rfl (vs:=[_,_]) rfl ⟨rfl,rfl,trivial⟩) ?_;refine J5 ?_;refine dE rfl ⟨25,_,rfl,rfl,rfl⟩ Tryz.func171 rfl (fun w hm hc hg=>p7 x.tr _ _ w) ?_;refine J4 ?_;refine af.bH (α:=vW) (fun tr=>[]) [(0,_),(1,_),(2,_)] (fun tr=>dA b x.sh x.sl bI nh aG bR nw aO tr bl x.di::(mh++(mw++(ml++ [])))) (fun tr=> {x with tr:=tr} =bT x p) cm ?_ ?_
  ·refine af.aW rfl (fun h4=>?_) (fun h4=>?_)
   ·refine J3 ?_;refine LM.val (aD (cs:=#[.int .i64 p,.int .i64 0]) rfl kr) ?_;refine J2 ?_;refine LM.st Tryz.sizeOf58 rfl rfl rfl eA rfl tC ?_;refine J1 ?_;refine mK ((⟨p,0⟩:vW)) ?_
    · exact(if_pos ⟨by omega,by simpa using h4⟩).symm
   refine J1 ?_;refine mK (x.tr) ?_
   · exact(if_neg (fun q=>by rw [q.2] at h4;cases h4)).symm
  rintro tr Pz;change QM _ _ _ _ _ (dA b x.sh x.sl bI nh aG bR nw aO tr bl x.di::(mh++(mw++(ml++ [])))) _ _ _;refine J6 ?_;refine LM.val (aD (cs:=#[.int .i64 t,.int .i64 p,.bool false]) rfl kr) ?_;refine LM.single Tryz.underlying56 Tryz.sizeOf68 Tryz.zeroValue68 rfl rfl rfl rfl rfl (fun Nc Sj=>?_);refine LM.mem (aT.mem (M':=(Nc,.cells (td (⟨t,p,false⟩:Hd)).toArray 68 (0,0))::dA b x.sh x.sl bI nh aG bR nw aO tr bl x.di::(mh++(mw++(ml++ [])))) aX) ?_;have Iw:Sl td 68 3 w.heap.size [(⟨t,p,false⟩:Hd)] (.slice (some ⟨Nc,0,none⟩) 1 1) [(Nc,.cells (td (⟨t,p,false⟩:Hd)).toArray 68 (0,0))] :=Sl.Xn _ Sj rfl;refine J4 ?_;refine LM.rD (ys:=x.wt.map eD) (m:=[(Nc,.cells (td (⟨t,p,false⟩:Hd)).toArray 68 (0,0))]) Tryz.underlying56 Tryz.typeInfo68 rfl rfl rfl rfl rfl rfl rfl Iw (fun w hm hc hg=>gk.k8 ir hm) ir (by intro _ u hu;simp [td] at hu;(repeat (first|(rcases hu with rfl|hu)|subst hu|rfl))) (Nat.le_refl _) (fun p hp bB=>absurd bB (Nat.not_lt_of_le (Sl.ge Iw p hp))) (by unfold maxLen;simp only [List.length_singleton];omega) (by simp only [Tryz.t68,List.length_singleton];omega) (fun qM Ew j1 CL Ln DP EC=>?_);refine J2 ?_;refine LM.st Tryz.sizeOf56 rfl rfl rfl eA rfl tC ?_;refine LM.mem (aT.mem (M':=dA b x.sh x.sl bI nh aG qM Ew j1 tr bl x.di::(mh++(CL++(ml++ [])))) aX) ?_;refine J4 ?_;have hF:gE n0 b (bT x p) (⟨t,p,false⟩::x.wt.map eD) (dA b x.sh x.sl bI nh aG qM Ew j1 tr bl x.di::(mh++(CL++ml))):=(by rw [←Pz];exact⟨bI,nh,aG,qM,Ew,j1,bl,mh,CL,ml,rfl,iL,by rw [Ln];simp only [List.length_cons,List.length_nil];omega,eX,DP.mono cb,kn,hb⟩);have gB:cZ (c7 b x bI nh aG bR nw aO bl mh mw ml) w.heap.size (dA b x.sh x.sl bI nh aG qM Ew j1 tr bl x.di::(mh++(CL++ml))):=gj ee (bZ yC (bZ (fun p hp=> .inl (DP.ge p hp)) yC));refine J1 ?_;refine cU Tryz.func172 rfl (fun w hm hc hg=>oH 0 w hF (by rw [List.length_cons];omega) (Nat.le_trans cb hc.size) (by rw [(eK x p).2.1];omega) (by rw [List.length_cons];omega) (hm.pick (dA b x.sh x.sl bI nh aG qM Ew j1 tr bl x.di::(mh++(CL++ml))))) hF.bW (ao gB) ?_;rintro u56 wK ⟨-,YV⟩ vZ;have RZ:gE n0 b (mI (bT x p) t p) (x.wt.map eD) wK:=YV;refine J5 ?_;refine cU Tryz.func76 rfl (fun w hm hc hg=>eE w RZ (by show _=(bT x p).wt.map _;rw [vx,lu]) (hm.pick wK)) YV.bW (ao (ak gB vZ)) ?_;rintro u58 Uy TP ql;refine J8 ?_;refine qL Tryz.results138 rfl fun w' aq ab aI=>?_;have k1:cD x t p=0:=(by simpa using h1);have k2:gg x p=true:=(by simpa using h2);have e1:c6 x t p=0:=(by unfold c6;rw [if_neg (by rw [k1];simp),if_pos k2]);have e2:cu x t p=cB (mI (bT x p) t p):=if_neg (by rw [e1];simp);rw [F4,e1,e2];exact aZ (m':=Uy) ⟨rfl,TP⟩ aq aX ab (ak (ak gB vZ) ql)
 refine lg ?_;refine af.bH (α:=vW) (fun tr=>[]) [(0,_),(1,_),(2,_)] (fun tr=>dA b x.sh x.sl bI nh aG bR nw aO tr bl x.di::(mh++(mw++(ml++ [])))) (fun tr=> {x with tr:=tr} =bT x p) cm ?_ ?_
 ·refine J2 ?_;refine mK (x.tr) ?_
  · exact(if_neg (fun q=>by omega)).symm
 rintro tr Pz;change QM _ _ _ _ _ (dA b x.sh x.sl bI nh aG bR nw aO tr bl x.di::(mh++(mw++(ml++ [])))) _ _ _;refine J6 ?_;refine LM.val (aD (cs:=#[.int .i64 t,.int .i64 p,.bool false]) rfl kr) ?_;refine LM.single Tryz.underlying56 Tryz.sizeOf68 Tryz.zeroValue68 rfl rfl rfl rfl rfl (fun Nc Sj=>?_);refine LM.mem (aT.mem (M':=(Nc,.cells (td (⟨t,p,false⟩:Hd)).toArray 68 (0,0))::dA b x.sh x.sl bI nh aG bR nw aO tr bl x.di::(mh++(mw++(ml++ [])))) aX) ?_;have Iw:Sl td 68 3 w.heap.size [(⟨t,p,false⟩:Hd)] (.slice (some ⟨Nc,0,none⟩) 1 1) [(Nc,.cells (td (⟨t,p,false⟩:Hd)).toArray 68 (0,0))] :=Sl.Xn _ Sj rfl;refine J4 ?_;refine LM.rD (ys:=x.wt.map eD) (m:=[(Nc,.cells (td (⟨t,p,false⟩:Hd)).toArray 68 (0,0))]) Tryz.underlying56 Tryz.typeInfo68 rfl rfl rfl rfl rfl rfl rfl Iw (fun w hm hc hg=>gk.k8 ir hm) ir (by intro _ u hu;simp [td] at hu;(repeat (first|(rcases hu with rfl|hu)|subst hu|rfl))) (Nat.le_refl _) (fun p hp bB=>absurd bB (Nat.not_lt_of_le (Sl.ge Iw p hp))) (by unfold maxLen;simp only [List.length_singleton];omega) (by simp only [Tryz.t68,List.length_singleton];omega) (fun qM Ew j1 CL Ln DP EC=>?_);refine J2 ?_;refine LM.st Tryz.sizeOf56 rfl rfl rfl eA rfl tC ?_;refine LM.mem (aT.mem (M':=dA b x.sh x.sl bI nh aG qM Ew j1 tr bl x.di::(mh++(CL++(ml++ [])))) aX) ?_;refine J4 ?_;have hF:gE n0 b (bT x p) (⟨t,p,false⟩::x.wt.map eD) (dA b x.sh x.sl bI nh aG qM Ew j1 tr bl x.di::(mh++(CL++ml))):=(by rw [←Pz];exact⟨bI,nh,aG,qM,Ew,j1,bl,mh,CL,ml,rfl,iL,by rw [Ln];simp only [List.length_cons,List.length_nil];omega,eX,DP.mono cb,kn,hb⟩);have gB:cZ (c7 b x bI nh aG bR nw aO bl mh mw ml) w.heap.size (dA b x.sh x.sl bI nh aG qM Ew j1 tr bl x.di::(mh++(CL++ml))):=gj ee (bZ yC (bZ (fun p hp=> .inl (DP.ge p hp)) yC));refine J1 ?_;refine cU Tryz.func172 rfl (fun w hm hc hg=>oH 0 w hF (by rw [List.length_cons];omega) (Nat.le_trans cb hc.size) (by rw [(eK x p).2.1];omega) (by rw [List.length_cons];omega) (hm.pick (dA b x.sh x.sl bI nh aG qM Ew j1 tr bl x.di::(mh++(CL++ml))))) hF.bW (ao gB) ?_;rintro u56 wK ⟨-,YV⟩ vZ;have RZ:gE n0 b (mI (bT x p) t p) (x.wt.map eD) wK:=YV;refine J5 ?_;refine cU Tryz.func76 rfl (fun w hm hc hg=>eE w RZ (by show _=(bT x p).wt.map _;rw [vx,lu]) (hm.pick wK)) YV.bW (ao (ak gB vZ)) ?_;rintro u58 Uy TP ql;refine J8 ?_;refine qL Tryz.results138 rfl fun w' aq ab aI=>?_;have k1:cD x t p=0:=(by simpa using h1);have k2:gg x p=true:=(by simpa using h2);have e1:c6 x t p=0:=(by unfold c6;rw [if_neg (by rw [k1];simp),if_pos k2]);have e2:cu x t p=cB (mI (bT x p) t p):=if_neg (by rw [e1];simp);rw [F4,e1,e2];exact aZ (m':=Uy) ⟨rfl,TP⟩ aq aX ab (ak (ak gB vZ) ql)
theorem BE {n0 b:Nat} {x:aY} {m:aa} (t p:Int) (w:World) (hv:pg x) (h:gE n0 b x (x.wt.map eD) m) (cb:n0≤w.heap.size) (hM:Mem w m):aJ Tryz.prog 141 #[.pointer (some ⟨b,0,none⟩),.int .i64 t,.int .i64 p] w (eI m (fun u m'=>u= .int .i64 (js x t p)∧gE n0 b (dv x t p) ((dv x t p).wt.map eD) m') w):=by
 have og:=h;obtain ⟨bI,nh,aG,bR,nw,aO,bl,mh,mw,ml,rfl,iL,jP,eX,gk,kn,hb⟩:=h;have Pc:(x.wt.map eD).length=x.wt.length:=List.length_map ..;have hw8:=hv.w8;refine aJ.au Tryz.func141 rfl Tryz.ntmps141 rfl (dA b x.sh x.sl bI nh aG bR nw aO x.tr bl x.di::(mh++(mw++(ml++ [])))) ((fS (c7 b x bI nh aG bR nw aO bl mh mw ml))) aM ?_;refine cf ?_;refine cE Tryz.func169 rfl (fun w hm hc hg=>uT t p w og (ru _ _) (hm.pick (c7 b x bI nh aG bR nw aO bl mh mw ml))) ?_;refine cf ?_;refine af.aj rfl (fun h1=>?_) (fun h1=>?_)
 ·refine J8 ?_;refine qL Tryz.results141 rfl fun w' aq ab aI=>?_;have e1:js x t p=cD x t p:=if_pos (by simpa using h1);have e2:dv x t p=x:=if_pos (by rw [e1];simpa using h1);rw [e1,e2];exact aZ (m':=c7 b x bI nh aG bR nw aO bl mh mw ml) ⟨rfl,og⟩ aq aX ab (ay _ _)
 refine J7 ?_;refine cE Tryz.func170 rfl (fun w hm hc hg=>sI p w hv og (hm.pick (c7 b x bI nh aG bR nw aO bl mh mw ml))) ?_;refine J2 ?_;refine af.aW rfl (fun h2=>?_) (fun h2=>?_)
 ·refine J7 ?_;refine qL Tryz.results141 rfl fun w' aq ab aI=>?_;have k1:cD x t p=0:=(by simpa using h1);have e1:js x t p=4:=(by unfold js;rw [if_neg (by rw [k1];simp),if_pos h2]);have e2:dv x t p=x:=if_pos (by rw [e1];decide);rw [e1,e2];exact aZ (m':=c7 b x bI nh aG bR nw aO bl mh mw ml) ⟨rfl,og⟩ aq aX ab (ay _ _)
 refine gw ?_;refine af.aj rfl (fun h3=>?_) (fun h3=>?_)
 ·refine J7 ?_;refine qL Tryz.results141 rfl fun w' aq ab aI=>?_;have k1:cD x t p=0:=(by simpa using h1);have h8:8≤x.wt.length:=om;have e1:js x t p=3:=(by unfold js;rw [if_neg (by rw [k1];simp),if_neg (by rw [h2];simp),if_pos h8]);have e2:dv x t p=x:=if_pos (by rw [e1];decide);rw [e1,e2];exact aZ (m':=c7 b x bI nh aG bR nw aO bl mh mw ml) ⟨rfl,og⟩ aq aX ab (ay _ _)
 refine dB ?_;refine LM.val (aD (cs:=#[.int .i64 t,.int .i64 p,.bool false]) rfl kr) ?_;refine LM.single Tryz.underlying56 Tryz.sizeOf68 Tryz.zeroValue68 rfl rfl rfl rfl rfl (fun b32 aio=>?_);refine LM.app (a:=(⟨t,p,false⟩:Hd)) Tryz.underlying56 Tryz.typeInfo68 rfl rfl rfl rfl rfl rfl rfl aA (by rfl) ir (by intro _ u hu;simp [td] at hu;(repeat (first|(rcases hu with rfl|hu)|subst hu|rfl))) (by first|exact Nat.le_refl _|omega) (fun p hp _=>⟨p,by simp [hp],rfl⟩) (by first|omega|(unfold maxLen;omega)) (by simp only [Tryz.t68];omega) (fun Lh Wq BY QK ajN aey Vu=>?_);refine J2 ?_;refine LM.st Tryz.sizeOf56 rfl rfl rfl eA rfl tC ?_;refine LM.mem (aT.mem (M':=dA b x.sh x.sl bI nh aG Lh Wq BY x.tr bl x.di::(mh++(QK++(ml++ [])))) aX) ?_;refine J4 ?_;have Cq:gE n0 b {x with wt:=x.wt++ [⟨t,p,0#64⟩] } ((x.wt++ [(⟨t,p,0#64⟩:Wt)]).map eD) (dA b x.sh x.sl bI nh aG Lh Wq BY x.tr bl x.di::(mh++(QK++ml))):=⟨bI,nh,aG,Lh,Wq,BY,bl,mh,QK,ml,rfl,iL,by rw [List.length_map,List.length_append,List.length_singleton];omega,eX,by rw [List.map_append];exact aey,kn,hb⟩;have pf:cZ (c7 b x bI nh aG bR nw aO bl mh mw ml) w.heap.size (dA b x.sh x.sl bI nh aG Lh Wq BY x.tr bl x.di::(mh++(QK++ml))):=gj ee (bZ yC (bZ (rr Vu (fun p hp=>by simp [hp])) yC));refine J1 ?_;refine cU Tryz.func76 rfl (fun w hm hc hg=>eE w Cq (lu _) (hm.pick (dA b x.sh x.sl bI nh aG Lh Wq BY x.tr bl x.di::(mh++(QK++ml))))) Cq.bW (ao pf) ?_;rintro u37 OX h37 vy;refine J8 ?_;refine qL Tryz.results141 rfl fun w' aq ab aI=>?_;have k1:cD x t p=0:=(by simpa using h1);have h8:¬8≤x.wt.length:=om;have e1:js x t p=0:=(by unfold js;rw [if_neg (by rw [k1];simp),if_neg (by rw [h2];simp),if_neg h8]);have e2:dv x t p=cB {x with wt:=x.wt++ [⟨t,p,0#64⟩] } :=if_neg (by rw [e1];simp);rw [e1,e2];exact aZ (m':=OX) ⟨rfl,h37⟩ aq aX ab (ak pf vy)
def ZW (n0 b k:Nat) (l:List Int) (y:Value) (x:aY) (u:Value) (m:aa):Prop:=∃v mr mx,u= .tuple #[v,y]∧Sl fI 3 1 k l v mr∧m=mr++mx∧gE n0 b x (x.wt.map eD) mx
theorem BA {y:aY} (h:y.ho.length=0):xC y=iJ y∧u5 y=jV y:=by
  unfold xC u5
  by_cases c:y.wt.length=0
  · rw [if_pos c,if_pos c];exact⟨(if_pos c).symm,(if_pos c).symm⟩
  · rw [if_neg c,if_neg c,if_pos h,if_pos h]
    exact⟨rfl,rfl⟩
theorem K9 {y:aY} (h:y.wt.length=0) (p:Int) (n:Nat):cQ y p n=[]∧l9 y p n=y:=by
  have hw:=List.eq_nil_of_length_eq_zero h;have e:cQ y p n=[] :=by unfold cQ;rw [hw];show (List.take n []).map _=[];rw [List.take_nil];rfl
  refine ⟨e,?_⟩
  unfold l9;rw [e];rfl
theorem Y4 {x:aY} {t:Int} (h:k9 x) (hw:bY x t=true):o9 x t=xC (cV x t)∧fw x t=cB (u5 (cV x t)):=by
  have eb:x.ho.length≠0:=fun q=>by
    have:=h.em q
    unfold bY at hw
    rw [List.eq_nil_of_length_eq_zero this] at hw;cases hw
  have fH:FJ (cV x t)=(kO x&&decide (wj (cV x t).wt 1=0)):=by
    rw [EP];unfold FJ kO
    show (x.sh&&_&&_)=_
    cases hs:x.sh with
    |false=>rfl
    |true=>
      have:=Am h.topg hs om;rw [decide_eq_true (show 0<x.ho.length by omega)]
      show (true&& !(x.ho.any _)&&_)=_
      rw [this];rfl
  by_cases c:kO x=true∧wj (cV x t).wt 1=0
  · obtain ⟨e1,e2⟩:=Vt hw c
    rw [e1,e2]
    by_cases cw:(cV x t).wt.length=0
    · obtain ⟨a1,a2⟩:=K9 cw 0 8
      rw [a1,a2];unfold xC u5;rw [if_pos cw,if_pos cw];exact⟨rfl,rfl⟩
    · have hn:FJ (cV x t)=true:=by rw [fH,c.1,decide_eq_true c.2];rfl
      unfold xC u5
      rw [if_neg cw,if_neg cw,if_neg (show¬(cV x t).ho.length=0 from eb),if_neg (show¬(cV x t).ho.length=0 from eb),if_pos hn,if_pos hn];exact⟨rfl,rfl⟩
  · obtain ⟨e1,e2⟩:=SH hw c
    rw [e1,e2]
    have hn:¬FJ (cV x t)=true:=by
      rw [fH];intro q;simp only [Bool.and_eq_true,decide_eq_true_eq] at q;exact c q
    unfold xC u5
    by_cases cw:(cV x t).wt.length=0
    · rw [if_pos cw,if_pos cw];exact⟨rfl,rfl⟩
    · rw [if_neg cw,if_neg cw,if_neg (show¬(cV x t).ho.length=0 from eb),if_neg (show¬(cV x t).ho.length=0 from eb),if_neg hn,if_neg hn];exact⟨rfl,rfl⟩
theorem Rj (x:aY) (t:Int) (h:bd x t=true):ej x t=cB (if (fa x t).ho.length=0 then u5 (fa x t) else fa x t):=by
  unfold ej;rw [if_pos h]
  by_cases c:(fa x t).ho.length=0
  · rw [if_pos c,if_pos c,(BA c).2]
  · rw [if_neg c,if_neg c]
theorem Q9 {L:List Wt} {t:Int} (h:mP (L.map eD) t<0):L.any (fun w=>decide (w.who=t))=false:=by
  unfold mP jL at h
  rw [←ru];cases c:(L.map eD).any (fun h=>decide (h.t=t)) with
  |false=>rfl
  |true=>rw [c] at h;simp at h;omega
theorem N6 {L:List Wt} {t:Int} (hw:wA L) (h:¬mP (L.map eD) t<0):L.any (fun w=>decide (w.who=t))=true∧∃i:Nat,mP (L.map eD) t=(i:Int)∧i<L.length∧L.eraseIdx i=CC L t:=by
  have hc:(L.map eD).any (fun h=>decide (h.t=t))=true:=by
    cases c:(L.map eD).any (fun h=>decide (h.t=t)) with
    |true=>rfl
    |false=>exfalso;apply h;unfold mP jL;rw [c];simp
  have h1:(L.map eD).findIdx (fun h=>decide (h.t=t))<(L.map eD).length:=List.findIdx_lt_length.2 (by rw [List.any_eq_true] at hc;exact hc);have h2:=List.findIdx_getElem (w:=h1);have h0:mP (L.map eD) t=((L.map eD).findIdx (fun h=>decide (h.t=t)):Nat):=by unfold mP jL;exact if_pos hc
  have h3:(L.map eD).findIdx (fun h=>decide (h.t=t))<L.length:=by rw [List.length_map] at h1;exact h1
  refine ⟨by rw [←ru];exact hc,_,h0,h3,?_⟩;rw [List.getElem_map] at h2;have h4:(L[(L.map eD).findIdx (fun h=>decide (h.t=t))]).who=t:=of_decide_eq_true h2;have h5:=BG hw (List.getElem?_eq_getElem h3);rw [h4] at h5;exact h5.symm
theorem xH {α β:Type} (f:α→β):∀(l:List α) (i:Nat),(l.map f).eraseIdx i=(l.eraseIdx i).map f
  | [],i=>rfl
  |a::l,0=>rfl
  |a::l,i+1=>by show f a::(l.map f).eraseIdx i=f a::(l.eraseIdx i).map f;rw [xH f l i]
theorem vD {n0 b k:Nat} {x:aY} {m:aa} (t:Int) (w:World) (hv:pg x) (h:gE n0 b x (x.wt.map eD) m) (cb:n0≤w.heap.size) (hx:x.ho.length≤900) (hk:k≤w.heap.size) (hM:Mem w m):aJ Tryz.prog 98 #[.pointer (some ⟨b,0,none⟩),.int .i64 t] w (eI m (ZW n0 b k (dZ x t) (.int .i64 (mM x t)) (ej x t)) w):=by
 have og:=h;obtain ⟨bI,nh,aG,bR,nw,aO,bl,mh,mw,ml,rfl,iL,jP,eX,gk,kn,hb⟩:=h;refine aJ.au Tryz.func98 rfl Tryz.ntmps98 rfl (dA b x.sh x.sl bI nh aG bR nw aO x.tr bl x.di::(mh++(mw++(ml++ [])))) ((fS (c7 b x bI nh aG bR nw aO bl mh mw ml))) aM ?_;refine gw ?_;refine cE Tryz.func39 rfl (fun w hm hc hg=>kx t w iL (eX.k8 ir hm) eX.len.2.1) ?_;refine cf ?_;refine af.aj rfl (fun h1=>?_) (fun h1=>?_)
 ·have xa:bd x t=false:=(by rw [←ox];exact decide_eq_false om)
  refine J8 ?_;refine QM.leave (.inl rfl) [.tmp 4,.tmp 5] Tryz.results98 rfl ?_;intro w' aq ab aI;have e1:dZ x t=[] :=if_neg (fun q=>by rw [xa] at q;cases q.1);have e2:ej x t=x:=if_neg (by rw [xa];simp);have e3:mM x t=7:=if_neg (by rw [xa];simp);rw [e1,e2,e3];exact aZ (m':=c7 b x bI nh aG bR nw aO bl mh mw ml) ⟨_,[],_,rfl,Sl.nil _ _ _ _,rfl,og⟩ aq aX ab (ay _ _)
 have xa:bd x t=true:=(by rw [←ox];exact decide_eq_true om);have S0:=(pD xa).1;have Et:=(pD xa).2.1;rw [S0];have Ou:=Kq xa;refine cf ?_;refine LM.cS (oC Tryz.func99) (fun w hm hc hg=>pU (ff x.ho t) w iL (eX.k8 ir hm) Et om) (fun th GR mE HP IY yY=>?_);refine J2 ?_;refine LM.st Tryz.sizeOf56 rfl rfl rfl eA rfl tC ?_;refine LM.mem (aT.mem (M':=dA b x.sh x.sl th GR mE bR nw aO x.tr bl x.di::(HP++(mw++(ml++ [])))) aX) ?_;refine cf ?_;have hF:gE n0 b (fa x t) ((fa x t).wt.map eD) (dA b x.sh x.sl th GR mE bR nw aO x.tr bl x.di::(HP++(mw++ml))):=⟨th,GR,mE,bR,nw,aO,bl,HP,mw,ml,rfl,IY,jP,yY.mono cb,gk,kn,hb⟩;have gB:cZ (c7 b x bI nh aG bR nw aO bl mh mw ml) w.heap.size (dA b x.sh x.sl th GR mE bR nw aO x.tr bl x.di::(HP++(mw++ml))):=gj ee (bZ (fun p hp=> .inl (yY.ge p hp)) (bZ yC yC));have ag0:GR=(fa x t).ho.length:=IY;refine J8 ?_;refine af.bH (α:=Value×aa×aa×aY) (fun ⟨v,mr,mx,y⟩=>[(7,v)]) [(0,_)] (fun ⟨v,mr,mx,y⟩=>mr++(mx++ [])) (fun ⟨v,mr,mx,y⟩=>Sl fI 3 1 k (dZ x t) v mr∧gE n0 b y (y.wt.map eD) mx∧cZ (c7 b x bI nh aG bR nw aO bl mh mw ml) w.heap.size (mr++mx)∧y=if (fa x t).ho.length=0 then u5 (fa x t) else fa x t) cm ?_ ?_
 ·refine af.aj rfl (fun h2=>?_) (fun h2=>?_)
  ·refine J2 ?_;refine cU Tryz.func100 rfl (fun w hm hc hg=>xt (k:=k) w (hv.out t) hF (Nat.le_trans cb hc.size) om (Nat.le_trans hk hc.size) (hm.pick (dA b x.sh x.sl th GR mE bR nw aO x.tr bl x.di::(HP++(mw++ml))))) hF.bW (ao gB) ?_;rintro u32 m32 ⟨aeJ,acj,aed,rfl,h32⟩ Yf;refine J2 ?_;refine mK (u32,aeJ,acj,u5 (fa x t)) ?_
   · have hz:(fa x t).ho.length=0:=om;exact⟨by rw [NJ xa hz,←(BA hz).1];exact aed,h32,ak gB Yf,(if_pos hz).symm⟩
  refine J1 ?_;refine mK (.slice none 0 0,[],dA b x.sh x.sl th GR mE bR nw aO x.tr bl x.di::(HP++(mw++ml)),fa x t) ?_
  · have hz:¬(fa x t).ho.length=0:=om;exact⟨by rw [Ta hz];exact Sl.nil _ _ _ _,hF,gB,(if_neg hz).symm⟩
 rintro ⟨v,mr,mx,y⟩ ⟨Xd,hL,vh,hy⟩;change QM _ _ _ _ _ (mr++(mx++ [])) _ _ _;refine J4 ?_;refine cU Tryz.func76 rfl (fun w hm hc hg=>eE w hL (lu _) (hm.pick mx)) hL.bW (ao (fun p hp=>vh p (List.mem_append_right _ hp))) ?_;rintro u34 Mq PX It;refine cf ?_;refine QM.leave (.inl rfl) [.tmp 4,.tmp 5] Tryz.results98 rfl ?_;intro w' aq ab aI;have e2:ej x t=cB y:=(by rw [Rj _ _ xa,←hy]);have e3:mM x t=0:=if_pos xa;rw [e2,e3];exact aZ (m':=mr++Mq) ⟨_,mr,Mq,rfl,Xd,rfl,PX⟩ aq aX ab (bZ (fun p hp=>vh p (List.mem_append_left _ hp)) (ak (fun p hp=>vh p (List.mem_append_right _ hp)) It))
theorem rG {n0 b k:Nat} {x:aY} {m:aa} (t:Int) (w:World) (hw:k9 x) (h:gE n0 b x (x.wt.map eD) m) (cb:n0≤w.heap.size) (hx:x.ho.length≤900) (hk:k≤w.heap.size) (hM:Mem w m):aJ Tryz.prog 61 #[.pointer (some ⟨b,0,none⟩),.int .i64 t] w (eI m (ZW n0 b k (o9 x t) (.bool (bY x t)) (fw x t)) w):=by
 have og:=h;obtain ⟨bI,nh,aG,bR,nw,aO,bl,mh,mw,ml,rfl,iL,jP,eX,gk,kn,hb⟩:=h;have hv:=hw.topg;have hw8:=hv.w8;have Pc:(x.wt.map eD).length=x.wt.length:=List.length_map ..;refine aJ.au Tryz.func61 rfl Tryz.ntmps61 rfl (dA b x.sh x.sl bI nh aG bR nw aO x.tr bl x.di::(mh++(mw++(ml++ [])))) ((fS (c7 b x bI nh aG bR nw aO bl mh mw ml))) aM ?_;refine gw ?_;refine cE Tryz.func39 rfl (fun w hm hc hg=>kx t w jP (gk.k8 ir hm) gk.len.2.1) ?_;refine cf ?_;refine af.aj rfl (fun h1=>?_) (fun h1=>?_)
 ·have Cr:bY x t=false:=Q9 h1;refine J8 ?_;refine QM.leave (.inl rfl) [.tmp 4,.tmp 5] Tryz.results61 rfl ?_;intro w' aq ab aI;have e:=X7 Cr;rw [e.1,e.2,Cr];exact aZ (m':=c7 b x bI nh aG bR nw aO bl mh mw ml) ⟨_,[],_,rfl,Sl.nil _ _ _ _,rfl,og⟩ aq aX ab (ay _ _)
 obtain ⟨adf,i,hi,fp,hie⟩:=N6 hv.wd h1;have Cr:bY x t=true:=adf;rw [hi];refine cf ?_;refine LM.cS (oC Tryz.func99) (fun w hm hc hg=>pU i w jP (gk.k8 ir hm) om om) (fun th GR mE HP IY yY=>?_);refine J2 ?_;refine LM.st Tryz.sizeOf56 rfl rfl rfl eA rfl tC ?_;refine LM.mem (aT.mem (M':=dA b x.sh x.sl bI nh aG th GR mE x.tr bl x.di::(mh++(HP++(ml++ [])))) aX) ?_;refine J4 ?_;have adI:(x.wt.map eD).eraseIdx i=(cV x t).wt.map eD:=(by show _=(CC x.wt t).map eD;rw [←hie,xH]);rw [adI] at yY IY;have hF:gE n0 b (cV x t) ((cV x t).wt.map eD) (dA b x.sh x.sl bI nh aG th GR mE x.tr bl x.di::(mh++(HP++ml))):=⟨bI,nh,aG,th,GR,mE,bl,mh,HP,ml,rfl,iL,IY,eX,yY.mono cb,kn,hb⟩;have gB:cZ (c7 b x bI nh aG bR nw aO bl mh mw ml) w.heap.size (dA b x.sh x.sl bI nh aG th GR mE x.tr bl x.di::(mh++(HP++ml))):=gj ee (bZ yC (bZ (fun p hp=> .inl (yY.ge p hp)) yC));refine J1 ?_;refine cU Tryz.func100 rfl (fun w hm hc hg=>xt (k:=k) w (hv.gone t) hF (Nat.le_trans cb hc.size) hx (Nat.le_trans hk hc.size) (hm.pick (dA b x.sh x.sl bI nh aG th GR mE x.tr bl x.di::(mh++(HP++ml))))) hF.bW (ao gB) ?_;rintro u26 z5 ⟨Ma,Ob,Q3,rfl,P8⟩ uy;refine LM.assoc ?_;refine J6 ?_;refine cU Tryz.func76 rfl (fun w hm hc hg=>eE w P8 (lu _) (hm.pick Ob)) P8.bW (ao (ak gB (fun p hp=>uy p (List.mem_append_right _ hp)))) ?_;rintro u28 Vj h28 Qd;refine cf ?_;refine QM.leave (.inl rfl) [.tmp 4,.tmp 5] Tryz.results61 rfl ?_;intro w' aq ab aI;have e:=Y4 hw Cr;rw [e.1,e.2,Cr];exact aZ (m':=Ma++Vj) ⟨_,Ma,Vj,rfl,Q3,rfl,h28⟩ aq aX ab (bZ (fun p hp=>ak gB uy p (List.mem_append_left _ hp)) (ak (fun p hp=>ak gB uy p (List.mem_append_right _ hp)) Qd))
theorem Ei {n0 b k:Nat} {x:aY} {m:aa} (t:Int) (w:World) (hw:k9 x) (h:gE n0 b x (x.wt.map eD) m) (cb:n0≤w.heap.size) (hx:x.ho.length≤900) (hk:k≤w.heap.size) (hM:Mem w m):aJ Tryz.prog 71 #[.pointer (some ⟨b,0,none⟩),.int .i64 t] w (eI m (ZW n0 b k (ua x t) (.bool (Ro x t)) (rk x t)) w):=by
 have og:=h;obtain ⟨bI,nh,aG,bR,nw,aO,bl,mh,mw,ml,rfl,iL,jP,eX,gk,kn,hb⟩:=h;have hv:=hw.topg;refine aJ.au Tryz.func71 rfl Tryz.ntmps71 rfl (dA b x.sh x.sl bI nh aG bR nw aO x.tr bl x.di::(mh++(mw++(ml++ [])))) ((fS (c7 b x bI nh aG bR nw aO bl mh mw ml))) aM ?_;refine dB ?_;refine cE Tryz.func13 rfl (fun w hm hc hg=>ru x.wt t▸lF t w og (hm.pick (c7 b x bI nh aG bR nw aO bl mh mw ml))) ?_;refine J2 ?_;refine af.aW rfl (fun h1=>?_) (fun h1=>?_)
 ·refine J4 ?_;refine cU Tryz.func61 rfl (fun w hm hc hg=>rG (k:=k) t w hw og (Nat.le_trans cb hc.size) hx (Nat.le_trans hk hc.size) (hm.pick (c7 b x bI nh aG bR nw aO bl mh mw ml))) og.bW (fun q hq _=>⟨q,hq,rfl⟩) ?_;rintro u13 m13 ⟨v13,V3,Xw,rfl,acF,rfl,oq⟩ WV;refine J8 ?_;refine QM.leave (.inl rfl) [.tmp 4,.tmp 5] Tryz.results71 rfl ?_;intro w' aq ab aI;have Cr:bY x t=true:=h1;have e1:ua x t=o9 x t:=if_pos Cr;have e2:rk x t=fw x t:=if_pos Cr;have e3:Ro x t=true:=(by unfold Ro;rw [Cr];rfl);rw [e1,e2,e3];exact aZ (m':=V3++Xw) ⟨_,V3,Xw,(by show Value.tuple #[v13,.bool (bY x t)] =_;rw [Cr]),acF,rfl,oq⟩ aq aX ab WV
 refine J7 ?_;refine cE Tryz.func12 rfl (fun w hm hc hg=>o6 t w og (hm.pick (c7 b x bI nh aG bR nw aO bl mh mw ml))) ?_;refine J3 ?_;refine af.aW rfl (fun h2=>?_) (fun h2=>?_)
 ·refine J8 ?_;refine QM.leave (.inl rfl) [.tmp 4,.tmp 5] Tryz.results71 rfl ?_;intro w' aq ab aI;have h1:bY x t=false:=h1;have e4:bd x t=false:=(by simpa using h2);have e1:ua x t=[] :=(by unfold ua;rw [if_neg (by rw [h1];simp)];exact if_neg (fun q=>by rw [show bd {x with di:=true} t=bd x t from rfl,e4] at q;cases q.1));have e2:rk x t=x:=(by unfold rk;rw [if_neg (by rw [h1];simp),if_neg (by rw [e4];simp)]);have e3:Ro x t=false:=(by unfold Ro;rw [h1,e4];rfl);rw [e1,e2,e3];exact aZ (m':=c7 b x bI nh aG bR nw aO bl mh mw ml) ⟨_,[],_,rfl,Sl.nil _ _ _ _,rfl,og⟩ aq aX ab (ay _ _)
 refine J7 ?_;refine LM.st Tryz.sizeOf4 rfl rfl rfl eA rfl tC ?_;refine LM.mem (aT.mem (M':=dA b x.sh x.sl bI nh aG bR nw aO x.tr bl true::(mh++(mw++(ml++ [])))) aX) ?_;refine J4 ?_;have hF:gE n0 b {x with di:=true} (x.wt.map eD) (dA b x.sh x.sl bI nh aG bR nw aO x.tr bl true::(mh++(mw++ml))):=⟨bI,nh,aG,bR,nw,aO,bl,mh,mw,ml,rfl,iL,jP,eX,gk,kn,hb⟩;have gB:cZ (c7 b x bI nh aG bR nw aO bl mh mw ml) w.heap.size (dA b x.sh x.sl bI nh aG bR nw aO x.tr bl true::(mh++(mw++ml))):=M6 (ay _ _) rfl;refine J2 ?_;refine cU Tryz.func98 rfl (fun w hm hc hg=>vD (k:=k) (x:= {x with di:=true}) t w (hv.core rfl rfl rfl rfl) hF (Nat.le_trans cb hc.size) hx (Nat.le_trans hk hc.size) (hm.pick (dA b x.sh x.sl bI nh aG bR nw aO x.tr bl true::(mh++(mw++ml))))) hF.bW (ao gB) ?_;rintro u26 z5 ⟨v26,Ma,Ob,rfl,Q3,rfl,P8⟩ uy;refine ud ?_;refine QM.leave (.inl rfl) [.tmp 4,.tmp 5] Tryz.results71 rfl ?_;intro w' aq ab aI;have h1:bY x t=false:=h1;have e4:bd x t=true:=(by simpa using h2);have e1:ua x t=dZ {x with di:=true} t:=(by unfold ua;rw [if_neg (by rw [h1];simp)]);have e2:rk x t=ej {x with di:=true} t:=(by unfold rk;rw [if_neg (by rw [h1];simp),if_pos e4]);have e3:Ro x t=true:=(by unfold Ro;rw [h1,e4];rfl);rw [e1,e2,e3];exact aZ (m':=Ma++Ob) ⟨_,Ma,Ob,rfl,Q3,rfl,P8⟩ aq aX ab (ak gB uy)
def AI (d:ME) (gs:List Int) (n0:Nat) (v:Value) (m:aa):Prop:=∃b,v= .pointer (some ⟨b,0,none⟩)∧gE n0 b (nJ d gs) [] m
theorem AI.mono {d:ME} {gs:List Int} :∀(n n':Nat) (v:Value) (m:aa),n'≤n→AI d gs n v m→AI d gs n' v m:=fun n n' v m hn ⟨b,h1,h⟩=>⟨b,h1,h.mono hn⟩
theorem JU (ws:List Int) (s c:Int):kU ws s (aB c 1 32)=kU ws s c:=by unfold kU;rw [Em (by decide)]
theorem D6 {n0 b:Nat} {x:aY} {m:aa} (t:Int) (w:World) (h:gE n0 b x (x.wt.map eD) m) (hhk:∀h∈x.ho,oT x.ld h.p=true) (hhh:∀p,p<x.ld.l.length→0≤(gP x.ld.l p).h∧(gP x.ld.l p).h≤1000000000000) (UR: -1000000≤x.tr.u) (hM:Mem w m):aJ Tryz.prog 136 #[.pointer (some ⟨b,0,none⟩),.int .i64 t] w (eI m (fun u m'=>u= .bool (bd x t)∧gE n0 b (iR x t) ((iR x t).wt.map eD) m') w):=by
 have og:=h;obtain ⟨bI,nh,aG,bR,nw,aO,bl,mh,mw,ml,rfl,iL,jP,eX,gk,kn,hb⟩:=h;have hSw:=And.intro gk trivial;clear gk;have Zq:=eX.len.2.1;refine aJ.au Tryz.func136 rfl Tryz.ntmps136 rfl (dA b x.sh x.sl bI nh aG bR nw aO x.tr bl x.di::(mh++(mw++(ml++ [])))) ((fS (c7 b x bI nh aG bR nw aO bl mh mw ml))) aM ?_;refine cK ?_;refine cE Tryz.func39 rfl (fun w hm hc hg=>kx t w iL (eX.k8 ir hm) eX.len.2.1) ?_;refine cf ?_;refine af.aj rfl (fun h1=>?_) (fun h1=>?_)
 ·have xa:bd x t=false:=(by rw [←ox];exact decide_eq_false om)
  refine J7 ?_;refine qL Tryz.results136 rfl fun w' aq ab aI=>?_;rw [xa,KC xa];exact aZ (m':=c7 b x bI nh aG bR nw aO bl mh mw ml) ⟨rfl,og⟩ aq aX ab (ay _ _)
 have xa:bd x t=true:=(by rw [←ox];exact decide_eq_true om);have S0:=(pD xa).1;have Et:=(pD xa).2.1;rw [S0];obtain ⟨pp,P4,MF⟩:=uX (hhk _ (PF xa));have Cp:(x.ho.getD (ff x.ho t) default).p.toNat=pp:=(by rw [P4];rfl)
 refine J3 ?_;refine af.draw [(0,0),(1,0),(2,0),(3,1),(4,0),(5,0),(6,0),(7,1),(8,0),(9,0),(10,0),(11,1),(12,3)] kr kr ?_;refine dB ?_;refine LD.rd rfl rfl (aH (j:=1) aA ir Tryz.isAgg3 rfl rfl cR rfl (by rfl)) ?_;refine LD.tail rfl rfl ?_;rw [P4];refine cU Tryz.func167 rfl (fun w hm hc hg=>DX pp w kn MF (hhh pp MF) (hm.pick ml)) kn.bW (fun q hq _=>⟨q,by simp [hq],rfl⟩) ?_;rintro u26 z5 ⟨rfl,P8⟩ uy;refine J1 ?_;refine QM.qn ?_;refine J7 ?_;refine LM.rd (pT Tryz.isAgg58 Tryz.sizeOf58 rfl (vs:=[_,_]) rfl ⟨rfl,rfl,trivial⟩) ?_;refine cE Tryz.func168 rfl (fun w hm hc hg=>yr x.tr w UR) ?_;refine J2 ?_;refine LM.st Tryz.sizeOf58 rfl rfl rfl eA rfl tC ?_;refine LM.mem (aT.mem (M':=dA b x.sh x.sl bI nh aG bR nw aO (iH x.tr) bl x.di::(mh++(mw++(z5++ [])))) aX) ?_;refine J4 ?_;have hF:gE n0 b {x with ld:=AT x.ld pp,tr:=iH x.tr} (x.wt.map eD) (dA b x.sh x.sl bI nh aG bR nw aO (iH x.tr) bl x.di::(mh++(mw++z5))):=⟨bI,nh,aG,bR,nw,aO,bl,mh,mw,z5,rfl,iL,jP,eX,hSw.1,P8,hb⟩;have gB:cZ (c7 b x bI nh aG bR nw aO bl mh mw ml) w.heap.size (dA b x.sh x.sl bI nh aG bR nw aO (iH x.tr) bl x.di::(mh++(mw++z5))):=gj ee (bZ yC (bZ yC (rr uy (fun p hp=>by simp [hp]))));refine J1 ?_;refine cU Tryz.func76 rfl (fun w hm hc hg=>eE w hF (lu _) (hm.pick (dA b x.sh x.sl bI nh aG bR nw aO (iH x.tr) bl x.di::(mh++(mw++z5))))) hF.bW (ao gB) ?_;rintro u36 UO U4 Ic;refine J8 ?_;refine qL Tryz.results136 rfl fun w' aq ab aI=>?_;rw [xa,O1 xa,Cp];exact aZ (m':=UO) ⟨rfl,U4⟩ aq aX ab (ak gB Ic)
theorem Dx {n0 b:Nat} {x:aY} {m:aa} (g wt:Int) (w:World) (h:gE n0 b x (x.wt.map eD) m) (hM:Mem w m):aJ Tryz.prog 33 #[.pointer (some ⟨b,0,none⟩),.int .i64 g,.int .i64 wt] w (eI m (fun u m'=>u= .bool (wF x g)∧gE n0 b (iz x g wt) ((iz x g wt).wt.map eD) m') w):=by
 have og:=h;obtain ⟨bI,nh,aG,bR,nw,aO,bl,mh,mw,ml,rfl,iL,jP,eX,gk,kn,hb⟩:=h;have hSh:=And.intro eX gk;clear eX gk;have Rw:=kn;obtain ⟨hB9,JH,n9,vH,xL,rfl,Z0,UL,hb9⟩:=kn;refine aJ.au Tryz.func33 rfl Tryz.ntmps33 rfl (dA b x.sh x.sl bI nh aG bR nw aO x.tr bl x.di::(mh++(mw++(jb bl JH n9 vH x.ld.sl x.ld.cr x.ld.fl::(xL++ []))))) ((fS (c7 b x bI nh aG bR nw aO bl mh mw (jb bl JH n9 vH x.ld.sl x.ld.cr x.ld.fl::xL)))) aM ?_;refine gw ?_;refine LM.bu (t:=12) rfl (fun h1=>?_) (fun h1=>?_)
 ·have CB:wF x g=false:=(by unfold wF;rw [h1];rfl)
  refine Fj ?_;refine qL Tryz.results33 rfl fun w' aq ab aI=>?_;rw [CB,Iu CB];exact aZ (m':=c7 b x bI nh aG bR nw aO bl mh mw (jb bl JH n9 vH x.ld.sl x.ld.cr x.ld.fl::xL)) ⟨rfl,og⟩ aq aX ab (ay _ _)
 skip
 refine J7 ?_;refine cE Tryz.func73 rfl (fun w hm hc hg=>ja g w Rw (hm.pick (jb bl JH n9 vH x.ld.sl x.ld.cr x.ld.fl::xL))) ?_;refine J4 ?_;refine af.aW rfl (fun h2=>?_) (fun h2=>?_)
 ·have CB:wF x g=false:=(by unfold wF;rw [show oT x.ld g=false by simpa using h2];simp)
  refine J7 ?_;refine qL Tryz.results33 rfl fun w' aq ab aI=>?_;rw [CB,Iu CB];exact aZ (m':=c7 b x bI nh aG bR nw aO bl mh mw (jb bl JH n9 vH x.ld.sl x.ld.cr x.ld.fl::xL)) ⟨rfl,og⟩ aq aX ab (ay _ _)
 have SF:oT x.ld g=true:=(by simpa using h2);have CB:wF x g=true:=(by unfold wF;rw [h1,SF];rfl);obtain ⟨p,rfl,MF⟩:=uX SF;refine lg ?_;refine LM.rd (aH (j:=0) aA ir Tryz.isAgg3 rfl rfl cR rfl (by rfl)) ?_;refine dB ?_;refine cU Tryz.func74 rfl (fun w hm hc hg=>C7 p wt w Rw MF (hm.pick (jb bl JH n9 vH x.ld.sl x.ld.cr x.ld.fl::xL))) Rw.bW (fun q hq _=>⟨q,List.mem_cons_of_mem _ (List.mem_append_right _ (List.mem_append_right _ hq)),rfl⟩) ?_;rintro u38 TN ⟨rfl,h38⟩ ta;have ahP:p<(cc x.ld p wt).l.length:=(by show p<(x.ld.l.set _ _).length;rw [List.length_set];exact MF);have YI:=h38;obtain ⟨hB8,Jr,n8,u9,IA,rfl,hn8,hs8,J0⟩:=h38;refine LM.mem (aT.mem (M':=dA b x.sh x.sl bI nh aG bR nw aO x.tr bl x.di::(mh++(mw++(jb bl Jr n8 u9 (cc x.ld p wt).sl (cc x.ld p wt).cr (cc x.ld p wt).fl::(IA++ []))))) (by rw [List.cons_append];(repeat' (first|exact aT.nil _|refine aT.cons rfl ?_|refine aT.app ?_)))) ?_;refine gw ?_;refine LM.ar (t:=46) rfl (fun h3=>?_) (fun h3=>?_)
 ·refine cf ?_;refine LM.sp 46 rfl rfl rfl ?_;refine J3 ?_;refine LM.rd (aH (j:=0) aA ir Tryz.isAgg3 rfl rfl cR rfl (by rfl)) ?_;refine J5 ?_;refine af.bH (α:=vW) (fun tr=>[]) [(0,_)] (fun tr=>dA b x.sh x.sl bI nh aG bR nw aO tr bl x.di::(mh++(mw++(jb bl Jr n8 u9 (cc x.ld p wt).sl (cc x.ld p wt).cr (cc x.ld p wt).fl::(IA++ []))))) (fun tr=>tr=if x.tr.p=(p:Int)∧(gP (cc x.ld p wt).l p).w≠(gP x.ld.l p).w then wZ x.tr x.sl else x.tr) cm ?_ ?_
  ·refine af.aj rfl (fun h4=>?_) (fun h4=>?_)
   ·refine af.draw [(0,0),(1,0),(2,0),(3,0),(4,1),(5,0),(6,0),(7,0),(8,1),(9,2),(10,0),(11,0),(12,3)] kr kr ?_;refine J4 ?_;refine LD.rd rfl rfl (pT Tryz.isAgg58 Tryz.sizeOf58 rfl (vs:=[_,_]) rfl ⟨rfl,rfl,trivial⟩) ?_;refine J4 ?_;refine dE rfl rfl Tryz.func75 rfl (fun w hm hc hg=>Dk x.tr _ w) ?_;refine J2 ?_;refine LD.tail rfl rfl ?_;refine LM.st Tryz.sizeOf58 rfl rfl rfl eA rfl tC ?_;refine J1 ?_;refine QM.qn ?_;refine mK (wZ x.tr x.sl) ?_
    · exact(if_pos ⟨h3,by simpa using h4⟩).symm
   refine J1 ?_;refine mK (x.tr) ?_
   · exact(if_neg (fun q=>by have:=q.2;simp at h4;exact this h4)).symm
  rintro tr Pz;change QM _ _ _ _ _ (dA b x.sh x.sl bI nh aG bR nw aO tr bl x.di::(mh++(mw++(jb bl Jr n8 u9 (cc x.ld p wt).sl (cc x.ld p wt).cr (cc x.ld p wt).fl::(IA++ []))))) _ _ _;refine J3 ?_;have hF:gE n0 b {x with ld:=cc x.ld p wt,tr:=tr} (x.wt.map eD) (dA b x.sh x.sl bI nh aG bR nw aO tr bl x.di::(mh++(mw++(jb bl Jr n8 u9 (cc x.ld p wt).sl (cc x.ld p wt).cr (cc x.ld p wt).fl::IA)))):=⟨bI,nh,aG,bR,nw,aO,bl,mh,mw,_,rfl,iL,jP,hSh.1,hSh.2,YI,hb⟩;have gB:cZ (c7 b x bI nh aG bR nw aO bl mh mw (jb bl JH n9 vH x.ld.sl x.ld.cr x.ld.fl::xL)) w.heap.size (dA b x.sh x.sl bI nh aG bR nw aO tr bl x.di::(mh++(mw++(jb bl Jr n8 u9 (cc x.ld p wt).sl (cc x.ld p wt).cr (cc x.ld p wt).fl::IA)))):=gj ee (bZ yC (bZ yC (rr ta (fun p hp=>List.mem_cons_of_mem _ (List.mem_append_right _ (List.mem_append_right _ hp))))));refine J1 ?_;refine cU Tryz.func76 rfl (fun w hm hc hg=>eE w hF (lu _) (hm.pick (dA b x.sh x.sl bI nh aG bR nw aO tr bl x.di::(mh++(mw++(jb bl Jr n8 u9 (cc x.ld p wt).sl (cc x.ld p wt).cr (cc x.ld p wt).fl::IA)))))) hF.bW (ao gB) ?_;rintro u74 m74 h74 I6;refine J8 ?_;refine qL Tryz.results33 rfl fun w' aq ab aI=>?_;rw [CB,FP CB,←Pz];exact aZ (m':=m74) ⟨rfl,h74⟩ aq aX ab (ak gB I6)
 refine Fw ?_;refine af.bH (α:=vW) (fun tr=>[]) [(0,_)] (fun tr=>dA b x.sh x.sl bI nh aG bR nw aO tr bl x.di::(mh++(mw++(jb bl Jr n8 u9 (cc x.ld p wt).sl (cc x.ld p wt).cr (cc x.ld p wt).fl::(IA++ []))))) (fun tr=>tr=if x.tr.p=(p:Int)∧(gP (cc x.ld p wt).l p).w≠(gP x.ld.l p).w then wZ x.tr x.sl else x.tr) cm ?_ ?_
 ·refine J2 ?_;refine mK (x.tr) ?_
  · exact(if_neg (fun q=>h3 q.1)).symm
 rintro tr Pz;change QM _ _ _ _ _ (dA b x.sh x.sl bI nh aG bR nw aO tr bl x.di::(mh++(mw++(jb bl Jr n8 u9 (cc x.ld p wt).sl (cc x.ld p wt).cr (cc x.ld p wt).fl::(IA++ []))))) _ _ _;refine J3 ?_;have hF:gE n0 b {x with ld:=cc x.ld p wt,tr:=tr} (x.wt.map eD) (dA b x.sh x.sl bI nh aG bR nw aO tr bl x.di::(mh++(mw++(jb bl Jr n8 u9 (cc x.ld p wt).sl (cc x.ld p wt).cr (cc x.ld p wt).fl::IA)))):=⟨bI,nh,aG,bR,nw,aO,bl,mh,mw,_,rfl,iL,jP,hSh.1,hSh.2,YI,hb⟩;have gB:cZ (c7 b x bI nh aG bR nw aO bl mh mw (jb bl JH n9 vH x.ld.sl x.ld.cr x.ld.fl::xL)) w.heap.size (dA b x.sh x.sl bI nh aG bR nw aO tr bl x.di::(mh++(mw++(jb bl Jr n8 u9 (cc x.ld p wt).sl (cc x.ld p wt).cr (cc x.ld p wt).fl::IA)))):=gj ee (bZ yC (bZ yC (rr ta (fun p hp=>List.mem_cons_of_mem _ (List.mem_append_right _ (List.mem_append_right _ hp))))));refine J1 ?_;refine cU Tryz.func76 rfl (fun w hm hc hg=>eE w hF (lu _) (hm.pick (dA b x.sh x.sl bI nh aG bR nw aO tr bl x.di::(mh++(mw++(jb bl Jr n8 u9 (cc x.ld p wt).sl (cc x.ld p wt).cr (cc x.ld p wt).fl::IA)))))) hF.bW (ao gB) ?_;rintro u74 m74 h74 I6;refine J8 ?_;refine qL Tryz.results33 rfl fun w' aq ab aI=>?_;rw [CB,FP CB,←Pz];exact aZ (m':=m74) ⟨rfl,h74⟩ aq aX ab (ak gB I6)
theorem DZ {gs:List Int} {ad:Option Addr} {n cap:Nat} (d:ME) (w:World) (hn:n=gs.length) (hl:Sr fI 1 gs (.slice ad n cap) w):aJ Tryz.prog 24 #[.agg (So d).toArray,.slice ad n cap] w (fun v w'=>Ext w w'∧∃m,AI d gs w.heap.size v m∧Mem w' m∧∀p∈m,w.heap.size≤p.1):=by
 have ks:=hl.open.2.1;refine aJ.au Tryz.func24 rfl Tryz.ntmps24 rfl ([]) (no) (Mem.nil w) ?_;refine J2 ?_;refine LM.box rfl rfl (fun b2 tf=>?_);refine xW ?_;refine af.bH (α:=Nat) (fun k=>[(5,.slice ad k cap)]) [(2,_)] (fun k=>(b2,.cells (Value.agg (So d).toArray).cells 83 (0,0)):: []) (fun k=>k=min n 4) cm ?_ ?_
 ·refine af.aj rfl (fun h1=>?_) (fun h1=>?_)
  ·refine J2 ?_;refine LM.val (jv Tryz.underlying26 Tryz.sizeOf3 rfl rfl om om) ?_;refine J2 ?_;refine mK (4) ?_
   · omega
  refine J1 ?_;refine mK (n) ?_
  · omega
 rintro k hk;change QM _ _ _ _ _ ((b2,.cells (Value.agg (So d).toArray).cells 83 (0,0)):: []) _ _ _;have hsk:=Sr.take (k:=k) hl om;have CQ:(gs.take k).length=k:=(by rw [List.length_take];omega);have UN:gs.take 4=gs.take k:=(by rcases Nat.le_total gs.length 4 with q|q;rw [List.take_of_length_le q,List.take_of_length_le om];rw [show k=4 by omega])
 refine J9 ?_;refine af.bH (α:=Option Addr×Nat×Nat×aa) (fun ⟨wG,n5,ke,m5⟩=>[(5,.slice wG n5 ke)]) [(2,_)] (fun ⟨wG,n5,ke,m5⟩=>(b2,.cells (Value.agg (So d).toArray).cells 83 (0,0))::(m5++ [])) (fun ⟨wG,n5,ke,m5⟩=>RdS (QA gs) wG n5 ke m5 w) cm ?_ ?_
 ·refine af.aj rfl (fun h2=>?_) (fun h2=>?_)
  ·refine J1 ?_;refine LM.single Tryz.underlying26 Tryz.sizeOf3 Tryz.zeroValue3 rfl rfl rfl rfl rfl (fun b16 aj5=>?_);refine J2 ?_;refine mK (some ⟨b16,0,none⟩,1,1,(b16,.cells #[.int .i64 1] 3 (0,0)):: []) ?_
   · have e:QA gs=[1] :=if_pos (by rw [UN,CQ];omega);rw [e];exact⟨rfl,fun w' hm _=>Sr.row (hm.at b16) rfl rfl (by decide) ir⟩
  refine J1 ?_;refine mK (ad,k,cap,[]) ?_
  · have e:QA gs=gs.take k:=(by unfold QA;rw [UN,if_neg (by rw [CQ];omega)]);rw [e];exact⟨CQ.symm,fun w' _ hx=>hsk.ext hx⟩
 rintro ⟨wG,n5,ke,m5⟩ hR;change QM _ _ _ _ _ ((b2,.cells (Value.agg (So d).toArray).cells 83 (0,0))::(m5++ [])) _ _ _;refine J8 ?_;refine af.bH (α:=Option Addr×Nat×Nat×aa) (fun ⟨Yz,n6,KZ,m6⟩=>[(5,.slice Yz n6 KZ)]) [(2,_)] (fun ⟨Yz,n6,KZ,m6⟩=>(b2,.cells (Value.agg (So d).toArray).cells 83 (0,0))::(m6++ [])) (fun ⟨Yz,n6,KZ,m6⟩=>RdS (rU d gs) Yz n6 KZ m6 w) cm ?_ ?_
 ·refine af.aW rfl (fun h3=>?_) (fun h3=>?_)
  ·refine J5 ?_;refine LM.row (vs:=[_,_]) Tryz.underlying26 Tryz.sizeOf3 Tryz.zeroValue3 rfl rfl rfl rfl rfl rfl (fun b23 ajT=>?_);refine J2 ?_;refine mK (some ⟨b23,0,none⟩,2,2,(b23,.cells #[.int .i64 d.rd,.int .i64 d.wr] 3 (0,0)):: []) ?_
   · have e:rU d gs=[d.rd,d.wr] :=if_pos h3;rw [e];exact⟨rfl,fun w' hm _=>Sr.row (hm.at b23) rfl rfl (by simp) ir⟩
  refine J1 ?_;refine mK (wG,n5,ke,m5) ?_
  · have e:rU d gs=QA gs:=if_neg (by simpa using h3);rw [e];exact hR
 rintro ⟨Yz,n6,KZ,m6⟩ hR6;change QM _ _ _ _ _ ((b2,.cells (Value.agg (So d).toArray).cells 83 (0,0))::(m6++ [])) _ _ _;refine J5 ?_;refine cE Tryz.func50 rfl (fun w hm hc hg=>bN _ 1 16 w) ?_;refine J4 ?_;refine af.draw [(0,0),(1,1),(2,0),(3,0),(4,0),(5,0),(6,0),(7,1),(8,2),(9,2),(10,0),(11,2),(12,0)] kr kr ?_;refine J3 ?_;refine LD.val rfl rfl (aD (cs:=#[.int .i64 (-1),.int .i64 0]) rfl kr) ?_;refine J4 ?_;refine dE rfl rfl Tryz.func50 rfl (fun w hm hc hg=>bN _ 1 32 w) ?_;refine LD.iO rfl rfl (oC Tryz.func52) XU.mono (fun w hm hc hg=>Eu (aB d.sl 1 16) (aB d.cr 1 32) w hR6.1 (hR6.2 w (hm.pick m6) hc)) ?_;rintro u36 UO ⟨Vc,rfl,U4⟩ aft;refine LD.val rfl rfl (aD (cs:=#[.bool d.sh,.int .i64 (aB d.sl 1 16),.slice none 0 0,.slice none 0 0,.int .i64 (-1),.int .i64 0,.pointer (some ⟨Vc,0,none⟩),.bool false]) rfl kr) ?_;refine LD.box rfl rfl rfl rfl (fun b38 adv=>?_);refine J4 ?_;refine qL Tryz.results24 rfl fun w' aq ab aI=>?_;rw [JU] at U4;have hL:gE w.heap.size b38 (nJ d gs) [] (dA b38 d.sh (aB d.sl 1 16) none 0 0 none 0 0 ⟨-1,0⟩ Vc false::([] ++([] ++UO))):=⟨none,0,0,none,0,0,Vc,[],[],UO,rfl,rfl,rfl,Sl.nil _ _ _ _,Sl.nil _ _ _ _,U4,adv⟩;exact⟨ab,_,⟨b38,rfl,hL⟩,(by have h9:=aT.mem (M':=dA b38 d.sh (aB d.sl 1 16) none 0 0 none 0 0 ⟨-1,0⟩ Vc false::(UO++ [])) aX w' aq;rw [List.append_nil] at h9;exact h9),hL.ge⟩
abbrev gR (b:Nat) (ad:Option Addr) (n cap:Nat):Nat×Obj:=(b,.cells #[.slice ad n cap] 125 (0,0))
def u3 (n0:Nat) (v:Value) (mm:aa):Prop:=∃b ad n cap m,v= .pointer (some ⟨b,0,none⟩)∧mm=gR b ad n cap::m∧n0≤b∧n=64∧Sl fU 41 1 n0 po (.slice ad n cap) m
theorem u3.mono:∀(k k':Nat) u m,k'≤k→u3 k u m→u3 k' u m:=fun k k' u m h ⟨b,ad,n,cap,m',h1,h2,h3,h4,h5⟩=>⟨b,ad,n,cap,m',h1,h2,by omega,h4,h5.mono h⟩
def WaT (n0:Nat) (G:Gr) (who:Int) (s:BitVec 64) (ad:Option Addr) (n cap:Nat) (u:Value) (m':aa):Prop:=u= .int .i64 (LJ G who s)∧Sl fU 41 1 n0 (Co G who s) (.slice ad n cap) m'
theorem XO {G:Gr} {i:Nat} {who:Int} (h:F6 who=false):false=aN (qk G (ot G i)) who:=by
  cases hb:aN (qk G (ot G i)) who
  · rfl
  · have:=gm hb;rw [kb.2 this] at h;cases h
theorem Vh {G:Gr} {i:Nat} {who:Int} (h:¬ot G i≠0#64):false=aN (qk G (ot G i)) who:=by
  rw [Classical.not_not] at h;rw [h,Mk];exact(cF _).symm
theorem Xa {G:Gr} {i:Nat} {who:Int} (h:i<64):aN (Kn G (i:Nat)) who=aN (qk G (ot G i)) who:=by
  unfold Kn;rw [if_pos (kb.2 ⟨by omega,by omega⟩),Int.toNat_natCast]
theorem qy {G:Gr} (h:G.length=64) {who:Int} (jC:0≤who∧who<64) (s:BitVec 64):aN (qk (G.set who.toNat 0#64) s) who=aN (qk G s) who:=by
  have:=BB h (w:=who.toNat) om s;rwa [show ((who.toNat:Nat):Int)=who by omega] at this
theorem GJ {G:Gr} (i:Nat) (h:i<G.length):G.set i (G.getD i 0#64)=G:=by
  apply List.ext_getElem (by simp)
  intro j h1 h2;rw [List.getElem_set];split
  · subst_vars;simp [List.getD_eq_getElem?_getD,List.getElem?_eq_getElem h]
  · rfl
theorem rT (w:World):aJ Tryz.prog 23 #[] w (fun v w'=>Ext w w'∧∃m,u3 w.heap.size v m∧Mem w' m∧∀p∈m,w.heap.size≤p.1):=by
 refine aJ.au Tryz.func23 rfl Tryz.ntmps23 rfl ([]) (no) (Mem.nil w) ?_;refine J7 ?_;refine LM.make (f:=fU) (a0:=0#64) Tryz.underlying46 Tryz.typeInfo41 rfl rfl rfl rfl zo rfl rfl rfl om (by simp only [Tryz.t41];omega) om (fun b1 CJ=>?_);refine LM.val (aD (cs:=#[_]) rfl (by first|rfl|kernel_rfl)) ?_;refine LM.box rfl rfl (fun b3 Mm=>?_);refine J4 ?_;refine qL Tryz.results23 rfl fun w' aq ab aI=>?_;exact⟨ab,[gR b3 (some ⟨b1,0,none⟩) 64 64,(b1,.cells (arr fU po []) 41 (0,0))],⟨b3,some ⟨b1,0,none⟩,64,64,[(b1,.cells (arr fU po []) 41 (0,0))],rfl,rfl,Mm,rfl,.inr ⟨b1,64,[],CJ,rfl,rfl,by decide,by decide,by decide⟩⟩,aT.mem (by(repeat' (first|exact aT.nil _|refine aT.cons kr ?_|refine aT.app ?_))) _ aq,fun p hp=>by simp only [List.mem_cons,List.not_mem_nil,or_false] at hp;rcases hp with rfl|rfl<;>assumption⟩
theorem oA (who:Int) (w:World):aJ Tryz.prog 147 #[.int .i64 who] w (fun v w'=>v= .bool (F6 who)∧Ext w w'):=by
 refine aJ.au Tryz.func147 rfl Tryz.ntmps147 rfl ([]) (no) (Mem.nil w) ?_;refine cf ?_;refine LM.ar (t:=5) rfl (fun h1=>?_) (fun h1=>?_)
 ·refine J7 ?_;refine qL Tryz.results147 rfl fun w' aq ab aI=>?_;refine ⟨?_,ab⟩;simp only [bA,F6,h1,decide_true,decide_false,Bool.true_and,Bool.false_and,Bool.and_true,Bool.and_false,Bool.not_true,Bool.not_false,Bool.true_or,Bool.false_or,Bool.or_true,Bool.or_false,ne_eq,not_true_eq_false,not_false_eq_true,Bool.and_self]
 refine J7 ?_;refine qL Tryz.results147 rfl fun w' aq ab aI=>?_;refine ⟨?_,ab⟩;simp only [bA,F6,h1,decide_true,decide_false,Bool.true_and,Bool.false_and,Bool.and_true,Bool.and_false,Bool.not_true,Bool.not_false,Bool.true_or,Bool.false_or,Bool.or_true,Bool.or_false,ne_eq,not_true_eq_false,not_false_eq_true,Bool.and_self]
theorem vI {n0:Nat} {G:Gr} {ad:Option Addr} {n cap:Nat} {m:aa} (b:Nat) (s:BitVec 64) (w:World) (hG:G.length=64) (hn:n=64) (gh:Sl fU 41 1 n0 G (.slice ad n cap) m) (hM:Mem w (gR b ad n cap::(m++ []))):aJ Tryz.prog 173 #[.pointer (some ⟨b,0,none⟩),U s] w (fun v w'=>v=U (qk G s)∧Ext w w'):=by
 refine aJ.au Tryz.func173 rfl Tryz.ntmps173 rfl (gR b ad n cap::(m++ [])) (no) hM ?_;refine cK ?_;refine af.aS (α:=BitVec 64×Bool) (fun ⟨X,fr⟩=>[(1,U X),(5,.bool fr)]) [(0,_)] (fun ⟨X,fr⟩=>gR b ad n cap::(m++ [])) (fun ⟨X,fr⟩=>MH G s X∧(fr=false→GH G X 64)) (fun ⟨X,fr⟩=>2*(64-xd X)+fr.toNat) ((s,true)) cm aX ⟨MH.init G s,fun h=>by cases h⟩ ?_;rintro ⟨X,fr⟩ ⟨hX,hd⟩;change af _ _ _ _ _ _ _ (gR b ad n cap::(m++ [])) _ _ _;refine J6 ?_;refine af.aW rfl (fun h1=>?_) (fun h1=>?_)
 ·refine lg ?_;refine af.aS (α:=Nat×BitVec 64×Bool) (fun ⟨i,Y,K8⟩=>[(1,U Y),(5,.bool K8),(6,.int .i64 (i:Nat))]) [(0,_)] (fun ⟨i,Y,K8⟩=>gR b ad n cap::(m++ [])) (fun ⟨i,Y,K8⟩=>i≤64∧MH G s Y∧(K8=true→xd X<xd Y)∧(K8=false→Y=X∧GH G X i)) (fun ⟨i,Y,K8⟩=>64-i) ((0,X,false)) cm aX ⟨Nat.zero_le _,hX,(fun h=>by cases h),(fun _=>⟨rfl,fun j hj=>by omega⟩)⟩ ?_;rintro ⟨i,Y,K8⟩ ⟨hi,hY,ht,hf⟩;change af _ _ _ _ _ _ _ (gR b ad n cap::(m++ [])) _ _ _;refine J7 ?_;refine af.aj rfl (fun h2=>?_) (fun h2=>?_)
  ·refine J5 ?_;refine af.bH (α:=Bool) (fun bb=>[(26,.bool bb)]) [(0,_),(1,_),(5,_),(6,_)] (fun bb=>gR b ad n cap::(m++ [])) (fun bb=>bb=(aN Y (i:Nat)&&decide (ot G i&&& ~~~Y≠0#64))) cm ?_ ?_
   ·refine J3 ?_;refine cE Tryz.func108 rfl (fun w hm hc hg=>fM _ _ w) ?_;refine J1 ?_;refine LM.bu (t:=15) rfl (fun h3=>?_) (fun h3=>?_)
    ·refine J6 ?_;refine LM.sp 15 rfl rfl rfl ?_;refine J2 ?_;refine LM.rd (bw aA ir Tryz.isAgg41 rfl rfl (by exact aQ 0#64 cL) (by rfl)) ?_;refine J1 ?_;refine LM.sp 15 rfl rfl rfl ?_;refine LM.val (Ee rfl rfl) ?_;refine LM.sp 15 rfl rfl rfl ?_;refine LM.val (ET (b:=0#64) rfl rfl) ?_;refine J2 ?_;refine mK (_) ?_
     · (simp only [h1,h2,h3,decide_true,decide_false,Bool.true_and,Bool.false_and,Bool.and_true,Bool.and_false,Bool.not_true,Bool.not_false,Bool.true_or,Bool.false_or,Bool.or_true,Bool.or_false,ne_eq,not_true_eq_false,not_false_eq_true,Bool.and_self];rfl)
    refine cK ?_;refine mK (_) ?_
    · (simp only [h1,h2,h3,decide_true,decide_false,Bool.true_and,Bool.false_and,Bool.and_true,Bool.and_false,Bool.not_true,Bool.not_false,Bool.true_or,Bool.false_or,Bool.or_true,Bool.or_false,ne_eq,not_true_eq_false,not_false_eq_true,Bool.and_self];done)
   rintro bb adZ;change QM _ _ _ _ _ (gR b ad n cap::(m++ [])) _ _ _;subst adZ;refine J1 ?_;refine af.aW rfl (fun h4=>?_) (fun h4=>?_)
   ·refine J9 ?_;refine LM.rd (bw aA ir Tryz.isAgg41 rfl rfl (by exact aQ 0#64 cL) (by rfl)) ?_;refine LM.val (Re rfl rfl) ?_;refine gw ?_;refine aK (i+1,Y|||ot G i,true) ?_ ?_
    · obtain ⟨PV,xK⟩:=hY.put h4;exact⟨by omega,PV,fun _=>by cases K8 with|false=>(have e:=(hf rfl).1;rw [←e];exact xK)|true=>(have:=ht rfl;omega),fun h=>by cases h⟩
    · (dsimp only;omega)
   refine J8 ?_;refine aK (i+1,Y,K8) ?_ ?_
   · exact⟨by omega,hY,ht,fun hg=>by obtain ⟨e,hd2⟩:=hf hg;subst e;exact⟨rfl,hd2.step h4⟩⟩
   · (dsimp only;omega)
  refine J5 ?_;refine aK (Y,K8) ?_ ?_
  · exact⟨hY,fun hg=>by obtain ⟨e,hd2⟩:=hf hg;have Tg:i=64:=om;subst Tg;rw [e];exact hd2⟩
  · dsimp only;have:=zS X;have:=zS Y;cases K8 with|false=>(obtain ⟨e,_⟩:=hf rfl;subst e;rw [h1];simp)|true=>(have:=ht rfl;rw [h1];simp;omega)
 refine cK ?_;refine qL Tryz.results173 rfl fun w' aq ab aI=>?_;refine ⟨?_,ab⟩;simp only [bA];exact congrArg U (hX.end (hd (by simpa using h1)))
theorem zl {n0:Nat} {G:Gr} {ad:Option Addr} {n cap:Nat} {m:aa} (b:Nat) (who:Int) (w:World) (hG:G.length=64) (hn:n=64) (gh:Sl fU 41 1 n0 G (.slice ad n cap) m) (hM:Mem w (gR b ad n cap::(m++ []))):aJ Tryz.prog 148 #[.pointer (some ⟨b,0,none⟩),.int .i64 who] w (fun v w'=>v=U (Kn G who)∧Ext w w'):=by
 refine aJ.au Tryz.func148 rfl Tryz.ntmps148 rfl (gR b ad n cap::(m++ [])) (no) hM ?_;refine J9 ?_;refine cE Tryz.func147 rfl (fun w hm hc hg=>oA _ w) ?_;refine J3 ?_;refine af.aW rfl (fun h1=>?_) (fun h1=>?_)
 ·refine J7 ?_;refine qL Tryz.results148 rfl fun w' aq ab aI=>?_;refine ⟨?_,ab⟩;simp only [bA,Kn];rw [if_neg (by simpa using h1)];rfl
 have jC:=kb.1 (show F6 who=true by simpa using h1);refine cf ?_;refine LM.val (cP o5 Tryz.underlying46 Tryz.sizeOf41 rfl rfl om) ?_;refine LM.rd (bw aA ir Tryz.isAgg41 rfl rfl (by exact aQ 0#64 cL) (by rfl)) ?_;refine cE Tryz.func173 rfl (fun w hm hc hg=>vI b _ w hG hn gh hm) ?_;refine J4 ?_;refine qL Tryz.results148 rfl fun w' aq ab aI=>?_;refine ⟨?_,ab⟩;simp only [bA,Kn];rw [if_pos (by simpa using h1)];rfl
theorem zO {n0:Nat} {G:Gr} {ad:Option Addr} {n cap:Nat} {m:aa} (b:Nat) (who:Int) (w:World) (hG:G.length=64) (hn:n=64) (gh:Sl fU 41 1 n0 G (.slice ad n cap) m) (hM:Mem w (gR b ad n cap::(m++ []))):aJ Tryz.prog 107 #[.pointer (some ⟨b,0,none⟩),.int .i64 who] w (fun v w'=>v=U (uE G who)∧Ext w w'):=by
 refine aJ.au Tryz.func107 rfl Tryz.ntmps107 rfl (gR b ad n cap::(m++ [])) (no) hM ?_;refine xW ?_;refine af.aS (α:=Nat) (fun i=>[(5,U (QW G who i)),(6,.int .i64 (i:Nat))]) [(0,_),(1,_)] (fun i=>gR b ad n cap::(m++ [])) (fun i=>i≤64) (fun i=>64-i) (0) ⟨(by first|rfl|exact lk rfl (by rw [qi];first|rw [if_pos h4] |rw [if_neg (by rw [h4];simp)])),ka,rfl,rfl,trivial⟩ aX (Nat.zero_le _) ?_;rintro i hi;change af _ _ _ _ _ _ _ (gR b ad n cap::(m++ [])) _ _ _;refine J7 ?_;refine af.aj rfl (fun h1=>?_) (fun h1=>?_)
 ·refine J5 ?_;refine af.bH (α:=Bool) (fun bb=>[(29,.bool bb)]) [(0,_),(1,_),(5,_),(6,_)] (fun bb=>gR b ad n cap::(m++ [])) (fun bb=>bb=aN (qk G (ot G i)) who) cm ?_ ?_
  ·refine J2 ?_;refine cE Tryz.func147 rfl (fun w hm hc hg=>oA _ w) ?_;refine J1 ?_;refine LM.bu (t:=13) rfl (fun h2=>?_) (fun h2=>?_)
   ·refine J6 ?_;refine LM.sp 13 rfl rfl rfl ?_;refine J2 ?_;refine LM.rd (bw aA ir Tryz.isAgg41 rfl rfl (by exact aQ 0#64 cL) (by rfl)) ?_;refine LM.sp 13 rfl rfl rfl ?_;refine LM.val (ET (b:=0#64) rfl rfl) ?_;refine J2 ?_;refine LM.ar (t:=23) rfl (fun h3=>?_) (fun h3=>?_)
    ·refine J3 ?_;refine cE Tryz.func148 rfl (fun w hm hc hg=>zl b _ w hG hn gh hm) ?_;refine J2 ?_;refine cE Tryz.func108 rfl (fun w hm hc hg=>fM _ _ w) ?_;refine J2 ?_;refine mK (_) ?_
     · exact Xa om
    refine J7 ?_;refine mK (_) ?_
    · exact Vh aA
   refine xW ?_;refine mK (_) ?_
   · exact XO aA
  rintro bb WG;change QM _ _ _ _ _ (gR b ad n cap::(m++ [])) _ _ _;subst WG;refine J1 ?_;refine af.aW rfl (fun h4=>?_) (fun h4=>?_)
  ·refine J3 ?_;refine cE Tryz.func149 rfl (fun w hm hc hg=>pN _ _ w) ?_;refine J9 ?_;refine QM.cT (i+1) ⟨(by first|rfl|exact lk rfl (by rw [qi];first|rw [if_pos h4] |rw [if_neg (by rw [h4];simp)])),ka,rfl,rfl,trivial⟩ aX (fun _ h=>h) ?_ ?_
   · omega
   · omega
  refine J8 ?_;refine QM.cT (i+1) ⟨(by first|rfl|exact lk rfl (by rw [qi];first|rw [if_pos h4] |rw [if_neg (by rw [h4];simp)])),ka,rfl,rfl,trivial⟩ aX (fun _ h=>h) ?_ ?_
  · omega
  · omega
 refine cK ?_;refine qL Tryz.results107 rfl fun w' aq ab aI=>?_;have Tg:i=64:=om;subst Tg;exact⟨by simp only [bA];rw [O4],ab⟩
theorem qu {n0:Nat} {G:Gr} {ad:Option Addr} {n cap:Nat} {m:aa} (b:Nat) (who:Int) (s:BitVec 64) (w:World) (hG:G.length=64) (hn:n=64) (gh:Sl fU 41 1 n0 G (.slice ad n cap) m) (hM:Mem w (gR b ad n cap::(m++ []))):aJ Tryz.prog 139 #[.pointer (some ⟨b,0,none⟩),.int .i64 who,U s] w (fun v w'=>v= .bool (aN (qk G s) who)∧Ext w w'):=by
 refine aJ.au Tryz.func139 rfl Tryz.ntmps139 rfl (gR b ad n cap::(m++ [])) (no) hM ?_;refine J8 ?_;refine cE Tryz.func147 rfl (fun w hm hc hg=>oA _ w) ?_;refine J1 ?_;refine LM.bu (t:=9) rfl (fun h1=>?_) (fun h1=>?_)
 ·refine J3 ?_;refine cE Tryz.func173 rfl (fun w hm hc hg=>vI b _ w hG hn gh hm) ?_;refine J2 ?_;refine cE Tryz.func108 rfl (fun w hm hc hg=>fM _ _ w) ?_;refine J5 ?_;refine qL Tryz.results139 rfl fun w' aq ab aI=>?_;exact⟨rfl,ab⟩
 refine cf ?_;refine qL Tryz.results139 rfl fun w' aq ab aI=>?_;refine ⟨?_,ab⟩;simp only [bA];congr 1;cases hh:aN (qk G s) who;rfl;(have:=gm hh;simp [F6,this.1,this.2] at h1)
theorem vd {n0:Nat} {G:Gr} {ad:Option Addr} {n cap:Nat} {m:aa} (b:Nat) (who:Int) (s:BitVec 64) (w:World) (hG:G.length=64) (hn:n=64) (gh:Sl fU 41 1 n0 G (.slice ad n cap) m) (hM:Mem w (gR b ad n cap::(m++ []))):aJ Tryz.prog 142 #[.pointer (some ⟨b,0,none⟩),.int .i64 who,U s] w (eI m (WaT n0 G who s ad n cap) w):=by
 refine aJ.au Tryz.func142 rfl Tryz.ntmps142 rfl (gR b ad n cap::(m++ [])) ((fun x=>∃q∈m,q.1=x)) hM ?_;refine J9 ?_;refine cE Tryz.func147 rfl (fun w hm hc hg=>oA _ w) ?_;refine J3 ?_;refine af.aW rfl (fun h1=>?_) (fun h1=>?_)
 ·refine J7 ?_;refine qL Tryz.results142 rfl fun w' aq ab aI=>?_;have he:LJ G who s=1:=(by unfold LJ;rw [if_neg (by simpa using h1)]);refine ⟨ab,m,⟨by rw [he];rfl,by unfold Co;rw [if_neg om];exact gh⟩,aq.pick m,fun p hp=> .inr ⟨p,hp,rfl⟩⟩
 have jC:=kb.1 (show F6 who=true by simpa using h1);refine J9 ?_;refine LM.val (cP o5 Tryz.underlying46 Tryz.sizeOf41 rfl rfl om) ?_;refine LM.rd (bw aA ir Tryz.isAgg41 rfl rfl (by exact aQ 0#64 cL) (by rfl)) ?_;refine cf ?_;refine LM.val (cP o5 Tryz.underlying46 Tryz.sizeOf41 rfl rfl om) ?_;refine LM.iF 0#64 (j:=0) aA ir Tryz.sizeOf41 rfl rfl rfl (by exact aQ 0#64 cL) rfl (by decide) (by rfl) rfl (fun p hp _=>by first|exact⟨p,hp,rfl⟩|exact CS p hp) (fun ms Gk CS=>?_);refine J8 ?_;refine cE Tryz.func139 rfl (fun w hm hc hg=>qu b _ _ w (by rw [List.length_set];exact hG) hn Gk (sm hm)) ?_;refine J2 ?_;refine af.aW rfl (fun h2=>?_) (fun h2=>?_)
 ·have S8:=CS;have ac7:=Gk;refine J8 ?_;refine LM.val (cP o5 Tryz.underlying46 Tryz.sizeOf41 rfl rfl om) ?_;refine LM.iF _ (j:=0) aA ir Tryz.sizeOf41 rfl rfl rfl (by exact aQ 0#64 cL) rfl (by decide) (by rfl) rfl (fun p hp _=>by first|exact⟨p,hp,rfl⟩|exact CS p hp) (fun ms Gk CS=>?_);refine J9 ?_;refine qL Tryz.results142 rfl fun w' aq ab aI=>?_;have he:LJ G who s=9:=(by rw [qy hG jC] at h2;unfold LJ;rw [if_pos (by simpa using h1),if_pos h2]);rw [List.set_set,GJ _ om] at Gk;refine ⟨ab,ms,⟨by rw [he];rfl,by unfold Co;rw [if_neg om];exact Gk⟩,aq.pick ms,fun p hp=> .inr (by obtain ⟨q,hq,e⟩:=CS p hp;obtain ⟨r,hr,e2⟩:=S8 q hq;exact⟨r,hr,e2.trans e⟩)⟩
 have S8:=CS;have ac7:=Gk;refine cf ?_;refine LM.val (cP o5 Tryz.underlying46 Tryz.sizeOf41 rfl rfl om) ?_;refine LM.iF _ (j:=0) aA ir Tryz.sizeOf41 rfl rfl rfl (by exact aQ 0#64 cL) rfl (by decide) (by rfl) rfl (fun p hp _=>by first|exact⟨p,hp,rfl⟩|exact CS p hp) (fun ms Gk CS=>?_);refine J8 ?_;refine qL Tryz.results142 rfl fun w' aq ab aI=>?_;have he:LJ G who s=0:=(by rw [qy hG jC] at h2;unfold LJ;rw [if_pos (by simpa using h1),if_neg (by rw [h2];simp)]);rw [List.set_set] at Gk;refine ⟨ab,ms,⟨by rw [he];rfl,by unfold Co;rw [if_pos he];exact Gk⟩,aq.pick ms,fun p hp=> .inr (by obtain ⟨q,hq,e⟩:=CS p hp;obtain ⟨r,hr,e2⟩:=S8 q hq;exact⟨r,hr,e2.trans e⟩)⟩
theorem Yl {own:List Int} {i:Nat} (h:i<min own.length 64):min (max (own.getD i 0) 0) 16=wt own i:=by unfold wt;rw [if_pos h]
theorem Bw {own:List Int} {i:Nat} (h:i<min own.length 64) (w:World):aJ Tryz.prog 50 #[.int .i64 (own.getD i 0),.int .i64 0,.int .i64 16] w (fun v w'=>v= .int .i64 (wt own i)∧Ext w w'):=Yl h▸(by have k:=bN (own.getD i 0) 0 16 w;rw [show aB (own.getD i 0) 0 16=min (max (own.getD i 0) 0) 16 by unfold aB;split<;>(try split)<;>omega] at k;exact k)
theorem F5 {own:List Int} {G:Gr} {i:Nat} :wt own i+jO own (uE G (i:Nat)) (min own.length 64)=U1 own G i:=by unfold U1;rw [←BT own _ 64 om]
theorem wo {own:List Int} {B:BitVec 64} {k:Nat} (h:aN B (k:Nat)=true):jO own B (k+1)=jO own B k+wt own k:=by rw [jO,if_pos h]
theorem x7 {own:List Int} {B:BitVec 64} {k:Nat} (h:aN B (k:Nat)=false):jO own B (k+1)=jO own B k:=by rw [jO,if_neg (by rw [h];simp)];omega
theorem Gw {own:List Int} {ad:Option Addr} {n cap n0:Nat} {G:Gr} {k6:Option Addr} {ng C4:Nat} {mg:aa} (br:Nat) (w:World) (hG:G.length=64) (hA:QS G) (Ef:ng=64) (As:Sl fU 41 1 n0 G (.slice k6 ng C4) mg) (hn:n=own.length) (hl:Sr fI 1 own (.slice ad n cap) w) (hx:own.length≤1000000000000) (hM:Mem w (gR br k6 ng C4::(mg++ []))):aJ Tryz.prog 67 #[.slice ad n cap,.pointer (some ⟨br,0,none⟩)] w (New fI 3 1 (zk own G) w):=by
 refine aJ.au Tryz.func67 rfl Tryz.ntmps67 rfl (gR br k6 ng C4::(mg++ [])) (no) hM ?_;refine xW ?_;refine af.aS (α:=Nat×Option Addr×Nat×Nat×aa) (fun ⟨i,dH,no,bL,mo⟩=>[(5,.slice dH no bL),(6,.int .i64 (i:Nat))]) [(0,_),(1,_)] (fun ⟨i,dH,no,bL,mo⟩=>mo++(gR br k6 ng C4::(mg++ []))) (fun ⟨i,dH,no,bL,mo⟩=>i≤min own.length 64∧no=i∧Sl fI 3 1 w.heap.size (BQ own G i) (.slice dH no bL) mo) (fun ⟨i,dH,no,bL,mo⟩=>min own.length 64-i) ((0,none,0,0,[])) cm aX ⟨Nat.zero_le _,rfl,.nil _ _ _ _⟩ ?_;rintro ⟨i,dH,no,bL,mo⟩ ⟨hi,fH,jS⟩;change af _ _ _ _ _ _ _ (mo++(gR br k6 ng C4::(mg++ []))) _ _ _;have hel:=JS own G i;refine J8 ?_;refine LM.ar (t:=14) rfl (fun h1=>?_) (fun h1=>?_)
 ·refine J5 ?_;refine af.aj rfl (fun h2=>?_) (fun h2=>?_)
  ·refine J9 ?_;refine LM.eT (ry aA Tryz.isAgg3 rfl rfl (by exact aQ 0 cL) (by rfl) id) ?_;refine cE Tryz.func50 rfl (fun w hm hc hg=>Bw om w) ?_;refine J7 ?_;refine cE Tryz.func107 rfl (fun w hm hc hg=>zO br _ w hG Ef As (sm hm)) ?_;refine cf ?_;refine af.aS (α:=Nat) (fun k=>[(7,.int .i64 (wt own i+jO own (uE G (i:Nat)) k)),(9,.int .i64 (k:Nat))]) [(0,_),(1,_),(5,_),(6,_),(8,_)] (fun k=>mo++(gR br k6 ng C4::(mg++ []))) (fun k=>k≤min own.length 64) (fun k=>min own.length 64-k) (0) ⟨(by first|rfl|exact lk rfl (by simp only [jO];congr 1;omega)|exact lk rfl (by rw [wo aA,Int.add_assoc])|exact lk rfl (by rw [x7 aA])),ka,rfl,rfl,rfl,rfl,rfl,trivial⟩ aX (Nat.zero_le _) ?_;rintro k hk;change af _ _ _ _ _ _ _ (mo++(gR br k6 ng C4::(mg++ []))) _ _ _;have CB:=Du own i;have Hg:=Bi own (uE G (i:Nat)) k;have hw3:=Du own k;refine J8 ?_;refine LM.ar (t:=32) rfl (fun h3=>?_) (fun h3=>?_)
   ·refine J5 ?_;refine af.aj rfl (fun h4=>?_) (fun h4=>?_)
    ·refine J8 ?_;refine cE Tryz.func108 rfl (fun w hm hc hg=>fM _ _ w) ?_;refine J1 ?_;refine LM.bu (t:=41) rfl (fun h5=>?_) (fun h5=>?_)
     ·refine J6 ?_;refine af.aj rfl (fun h6=>?_) (fun h6=>?_)
      ·refine J5 ?_;refine LM.eT (ry aA Tryz.isAgg3 rfl rfl (by exact aQ 0 cL) (by rfl) id) ?_;refine cE Tryz.func50 rfl (fun w hm hc hg=>Bw om w) ?_;refine cf ?_;refine QM.cT (k+1) ⟨(by first|rfl|exact lk rfl (by simp only [jO];congr 1;omega)|exact lk rfl (by rw [wo aA,Int.add_assoc])|exact lk rfl (by rw [x7 aA])),ka,rfl,rfl,rfl,rfl,rfl,trivial⟩ aX (fun _ h=>h) ?_ ?_
       · omega
       · omega
      have e:k=i:=om;subst e;rw [Lt hA om] at h5;cases h5
     refine ud ?_;refine QM.cT (k+1) ⟨(by first|rfl|exact lk rfl (by simp only [jO];congr 1;omega)|exact lk rfl (by rw [wo aA,Int.add_assoc])|exact lk rfl (by rw [x7 aA])),ka,rfl,rfl,rfl,rfl,rfl,trivial⟩ aX (fun _ h=>h) ?_ ?_
     · omega
     · omega
    have Z6:k=min own.length 64:=om;have MY:wt own i+jO own (uE G (i:Nat)) k=U1 own G i:=(by rw [Z6];exact F5)
    refine J8 ?_;refine LM.single Tryz.underlying26 Tryz.sizeOf3 Tryz.zeroValue3 rfl rfl rfl rfl rfl (fun b55 acM=>?_);refine LM.app Tryz.underlying26 Tryz.typeInfo3 rfl rfl rfl rfl rfl rfl rfl aA (by rfl) ir (by intro _ u hu;simp [fI] at hu;(repeat (first|(rcases hu with rfl|hu)|subst hu|rfl))) (by first|exact Nat.le_refl _|omega) jh (by first|omega|(unfold maxLen;omega)) (by simp only [Tryz.t3];omega) (fun OQ n56 Fq wK VJ NI vZ=>?_);refine J9 ?_;refine aK (i+1,OQ,n56,Fq,wK) ?_ ?_
    · exact⟨by omega,by omega,by rw [xT,←MY];exact NI⟩
    · (dsimp only;omega)
   have Z6:k=min own.length 64:=om;have MY:wt own i+jO own (uE G (i:Nat)) k=U1 own G i:=(by rw [Z6];exact F5)
   refine lg ?_;refine LM.single Tryz.underlying26 Tryz.sizeOf3 Tryz.zeroValue3 rfl rfl rfl rfl rfl (fun b55 acM=>?_);refine LM.app Tryz.underlying26 Tryz.typeInfo3 rfl rfl rfl rfl rfl rfl rfl aA (by rfl) ir (by intro _ u hu;simp [fI] at hu;(repeat (first|(rcases hu with rfl|hu)|subst hu|rfl))) (by first|exact Nat.le_refl _|omega) jh (by first|omega|(unfold maxLen;omega)) (by simp only [Tryz.t3];omega) (fun OQ n56 Fq wK VJ NI vZ=>?_);refine J9 ?_;refine aK (i+1,OQ,n56,Fq,wK) ?_ ?_
   · exact⟨by omega,by omega,by rw [xT,←MY];exact NI⟩
   · (dsimp only;omega)
  refine cK ?_;refine qL Tryz.results67 rfl fun w' aq ab aI=>?_;have him:i=min own.length 64:=om;subst him;exact⟨ab,mo,jS,aq.pick mo⟩
 refine Fj ?_;refine qL Tryz.results67 rfl fun w' aq ab aI=>?_;have him:i=min own.length 64:=om;subst him;exact⟨ab,mo,jS,aq.pick mo⟩
structure Dw where
  who:Int
  set:BitVec 64
deriving Inhabited
end Go.Eng
namespace Go.Eng
open Go Go.RowKit
theorem Ts {α:Type} {p:α→Bool} {xs:List α} (d:α) (h:0≤jL p xs):(jL p xs).toNat<xs.length∧p (xs.getD (jL p xs).toNat d)=true:=by
  unfold jL at h ⊢
  split at h
  · rename_i q
    rw [if_pos q,Int.toNat_natCast]
    have bB:xs.findIdx p<xs.length:=by
      obtain ⟨x,hx,hp⟩:=List.any_eq_true.1 q;exact List.findIdx_lt_length_of_exists ⟨x,hx,hp⟩
    refine ⟨bB,?_⟩;have e:=aQ d bB;rw [List.getElem?_eq_getElem bB] at e;rw [←Option.some.inj e];exact List.findIdx_getElem (w:=bB)
  · omega
theorem Rp {α:Type} {p:α→Bool} {xs:List α} (h:¬0≤jL p xs):xs.any p=false:=by
  unfold jL at h
  cases q:xs.any p with
  |false=>rfl
  |true=>rw [if_pos q] at h;omega
/-! what is parsed may be -/
theorem rX {ws:List bC} {i:Nat} {e k:Int} {t:List UInt8} (h:(eV ws i e k t).2=0):e=0:=by
  unfold eV at h;split at h
  · exact h
  · split at h
    · cases h
    · exact h
theorem EM {ws:List bC} {i:Nat} {e m:Int} (h:(rO ws i e 1 m).2.1=0):e=0∧cG (rO ws i e 1 m).2.2 m=true:=by
  unfold rO mz at h ⊢
  split at h
  · rename_i q;exact absurd h q
  rename_i q
  rw [if_neg q,if_neg (by decide)];rw [if_neg (by decide)] at h;refine ⟨Classical.not_not.1 q,?_⟩
  split at h
  · cases h
  rename_i q2
  rw [if_neg q2]
  split at h
  · rename_i q3
    rw [if_pos q3]
    unfold hasB at q3;rw [if_neg (by decide)] at q3;exact q3
  · cases h
theorem lI {ws:List bC} {i:Nat} {e m:Int} {nm:List UInt8} (h:(dq ws i e nm m).2.1=0):e=0∧cG (dq ws i e nm m).2.2 m=true:=
  ⟨rX (EM h).1,(EM h).2⟩
theorem qt {ws:List bC} {i:Nat} {e m:Int} {nm:List UInt8} (h:(iu ws i e nm m).2.1=0):e=0∧cG (iu ws i e nm m).2.2 m=true:=
  lI (rX h)
theorem v3 {ws:List bC} :∀(f i:Nat) (e:Int) (gs:List Int),(FO ws f i e gs).2.2=0→e=0
  |0,i,e,gs,h=>by
    unfold FO at h;split at h
    · rename_i q;exact(nK q).2
    · exact h
  |f+1,i,e,gs,h=>by
    unfold FO at h;split at h
    · rename_i q;exact(nK q).2
    · exact h
theorem E6 {ws:List bC} :∀(f i:Nat) (e:Int) (gs:List Int),(FO ws f i e gs).2.2=0→(e=0→gs.all (fun n=>cG n 16)=true)→1≤gs.length→gs.length+f≤4→
    (FO ws f i e gs).1.all (fun n=>cG n 16)=true∧1≤(FO ws f i e gs).1.length∧(FO ws f i e gs).1.length≤4
  |0,i,e,gs,h,ha,h1,h2=>by
    have he:=v3 0 i e gs h
    unfold FO;split<;>exact⟨ha he,h1,h2⟩
  |f+1,i,e,gs,h,ha,h1,h2=>by
    have he:=v3 (f+1) i e gs h
    unfold FO at h ⊢;split
    · rename_i q
      rw [if_pos q] at h;refine E6 f _ _ _ h (fun h3=>?_) (by simp) (by simp;omega);rw [List.all_append,ha he,Bool.true_and];simp [(qt h3).2]
    · exact⟨ha he,h1,by show gs.length≤4;omega⟩
theorem Ni {ws:List bC} {i:Nat} {e:Int} {sh:Bool} (h:(jN ws sh i e).2.1=0):e=0∧wQ (jN ws sh i e).2.2=true:=by
  have hD:(HV ws sh i e).2.1=0:=rX h;cases sh with
  |true=>
    have d:=lI (show (dq ws (Gj ws true i e).1 (Gj ws true i e).2.1 x8 16).2.1=0 from hD);have c:=lI (show (dq ws (H7 ws i e).1 (H7 ws i e).2.1 EB 16).2.1=0 from d.1);have b:=lI (show (dq ws (CD ws i e).1 (CD ws i e).2.1 vj 32).2.1=0 from c.1);have a:=lI (show (dq ws i e pZ 16).2.1=0 from b.1);refine ⟨a.1,?_⟩
    show ((if true=true then cG (dq ws (H7 ws i e).1 (H7 ws i e).2.1 EB 16).2.2 16&&cG (dq ws (Gj ws true i e).1 (Gj ws true i e).2.1 x8 16).2.2 16 else _)&&cG (dq ws i e pZ 16).2.2 16&&cG (dq ws (CD ws i e).1 (CD ws i e).2.1 vj 32).2.2 32)=true
    rw [if_pos rfl,a.2,b.2,c.2,d.2];rfl
  |false=>
    have b:=lI (show (dq ws (CD ws i e).1 (CD ws i e).2.1 vj 32).2.1=0 from hD);have a:=lI (show (dq ws i e pZ 16).2.1=0 from b.1);refine ⟨a.1,?_⟩
    show (true&&cG (dq ws i e pZ 16).2.2 16&&cG (dq ws (CD ws i e).1 (CD ws i e).2.1 vj 32).2.2 32)=true
    rw [a.2,b.2];rfl
theorem yM {ws:List bC} {i:Nat} {e:Int} (h:Il ws i e=true):i<ws.length∧e=0:=by
  unfold Il at h;rw [Bool.or_eq_true] at h
  rcases h with h|h<;>exact nK h
theorem qC {ws:List bC} :∀(f i:Nat) (e:Int) (ls:List km),(Gx ws f i e ls).2.2=0→e=0
  |0,i,e,ls,h=>by
    unfold Gx at h;split at h
    · rename_i q;exact(yM q).2
    · exact h
  |f+1,i,e,ls,h=>by
    unfold Gx at h;split at h
    · rename_i q;exact(yM q).2
    · exact h
theorem Fy {ws:List bC} :∀(f i:Nat) (e:Int) (ls:List km),(Gx ws f i e ls).2.2=0→(e=0→ls.all wQ=true)→ls.length+f≤8→
    (Gx ws f i e ls).1.all wQ=true∧(Gx ws f i e ls).1.length≤8
  |0,i,e,ls,h,ha,h2=>by
    have he:=qC 0 i e ls h
    unfold Gx;split<;>exact⟨ha he,h2⟩
  |f+1,i,e,ls,h,ha,h2=>by
    have he:=qC (f+1) i e ls h
    unfold Gx at h ⊢;split
    · rename_i q
      rw [if_pos q] at h;refine Fy f _ _ _ h (fun h3=>?_) (by simp;omega);rw [List.all_append,ha he,Bool.true_and];simp [(Ni h3).2]
    · exact⟨ha he,by show ls.length≤8;omega⟩
theorem vX {ws:List bC} {i:Nat} {e:Int} {ps:List pS} (h:H9 ws i e ps=true):e=0:=by
  unfold H9 at h;simp only [Bool.and_eq_true,decide_eq_true_eq] at h;exact h.1
theorem qQ {ws:List bC} :∀(f i:Nat) (e:Int) (ps:List pS) (pl:List Int),(CA ws f i e ps pl).2.2.2=0→e=0
  |0,i,e,ps,pl,h=>by
    unfold CA at h;split at h
    · rename_i q;exact vX q
    · exact h
  |f+1,i,e,ps,pl,h=>by
    unfold CA at h;split at h
    · rename_i q;exact vX q
    · exact h
theorem Fv {ws:List bC} :∀(f i:Nat) (e:Int) (ps:List pS) (pl:List Int),(CA ws f i e ps pl).2.2.2=0→ps.length+f≤8→
    1≤(CA ws f i e ps pl).1.length∧(CA ws f i e ps pl).1.length≤8
  |0,i,e,ps,pl,h,h2=>by
    have he:=qQ 0 i e ps pl h;subst he
    unfold CA at h ⊢;split
    · rename_i q;rw [if_pos q] at h;cases h
    · rename_i q
      unfold H9 at q;simp only [decide_true,Bool.true_and,Bool.or_eq_true,decide_eq_true_eq,not_or] at q
      exact⟨by show 1≤ps.length;omega,h2⟩
  |f+1,i,e,ps,pl,h,h2=>by
    have he:=qQ (f+1) i e ps pl h;subst he
    unfold CA at h ⊢;split
    · rename_i q
      rw [if_pos q] at h;exact Fv f _ _ _ _ h (by simp;omega)
    · rename_i q
      unfold H9 at q;simp only [decide_true,Bool.true_and,Bool.or_eq_true,decide_eq_true_eq,not_or] at q
      exact⟨by show 1≤ps.length;omega,by show ps.length≤8;omega⟩
theorem Nr {ls:List km} {ps:List pS} (h:0≤zE ls ps):PJ ls ps (zE ls ps)≠0:=by
  have:mR ls ps.length (ps.getD (zE ls ps).toNat default)=true:=(Ts default h).2
  unfold PJ;rw [if_neg om]
  simpa [mR] using this
theorem TB (n:Nat) (m:Int):cG (n:Int) m=true↔1≤n∧(n:Int)≤m:=by
  unfold cG;simp only [Bool.and_eq_true,decide_eq_true_eq];omega
theorem JG {ws:List bC} {i:Nat} (h:(tg ws i).2.2=0):fC (tg ws i).1=true:=by
  unfold tg at h ⊢
  split at h
  · rename_i q;exact absurd h q
  rename_i q
  rw [if_neg q]
  split at h
  · rename_i q2;exact absurd h (Nr q2)
  rename_i q2
  rw [if_neg q2];have hP:=Classical.not_not.1 q;have p0:=qQ _ _ _ _ _ hP;have p1:=Fv _ _ _ _ _ hP (by simp);have l0:=qC _ _ _ _ p0;have l1:=Fy _ _ _ _ p0 (fun _=>rfl) (by simp);have g0:=v3 _ _ _ _ l0;have g1:=E6 _ _ _ _ l0 (fun h3=>by simp [(qt h3).2]) (by simp) (by simp);have b0:=qt g0;have b1:=qt b0.1;have a0:=qt b1.1
  unfold fC
  simp only [Bool.and_eq_true,decide_eq_true_eq,Bool.not_eq_true'];exact⟨⟨⟨⟨⟨a0.2,b1.2⟩,⟨(TB _ _).2 ⟨g1.2.1,by have:(sG ws i).1.length≤4:=g1.2.2;omega⟩,g1.1⟩⟩,⟨l1.2,l1.1⟩⟩,(TB _ _).2 ⟨p1.1,by have:(sP ws i).1.length≤8:=p1.2;omega⟩⟩,Rp q2⟩
theorem NC {ws:List bC} {p:Int} (h:(kz ws p).2.2=0):fC (kz ws p).1=true:=by
  unfold kz at h ⊢
  split at h
  · cases h
  · rename_i q;rw [if_neg q];exact JG h
/-! words are parsed again -/
/-! how many words -/
end Go.Eng
namespace Go.Eng
open Go Go.Proofs Go.RowKit
theorem sS (o:db) (w:World):aJ Tryz.prog 91 #[.agg (fO o).toArray] w (fun v w'=>v= .bool (nM o.k)∧Ext w w'):=by
 refine aJ.au Tryz.func91 rfl Tryz.ntmps91 rfl ([]) (no) (Mem.nil w) ?_;refine J2 ?_;refine LM.box rfl rfl (fun b1 CJ=>?_);refine J9 ?_;refine LM.ar (t:=6) rfl (fun h1=>?_) (fun h1=>?_)
 ·refine J9 ?_;refine qL Tryz.results91 rfl fun w' aq ab aI=>?_;refine ⟨?_,ab⟩;simp only [bA,nM];congr 1;first|(rw [decide_eq_false (show¬2≤o.k by omega)];rfl)|(rw [decide_eq_true (show 2≤o.k by omega)];rfl)
 refine J8 ?_;refine qL Tryz.results91 rfl fun w' aq ab aI=>?_;refine ⟨?_,ab⟩;simp only [bA,nM];congr 1;first|(rw [decide_eq_false (show¬2≤o.k by omega)];rfl)|(rw [decide_eq_true (show 2≤o.k by omega)];rfl)
theorem nG.drop {xs:List db} (h:nG xs) (k:Nat):nG (xs.drop k):=⟨by rw [List.length_drop];have:=h.1;omega,fun o ho=>h.2 o (List.mem_of_mem_drop ho)⟩
theorem HM {xs:List db} {i j:Nat} :(xs.drop i).getD j default=xs.getD (i+j) default:=by rw [List.getD_eq_getElem?_getD,List.getElem?_drop,←List.getD_eq_getElem?_getD]
abbrev sV (i to lock ticks:Int):Value:= .agg #[.int .i64 i,.int .i64 to,.int .i64 lock,.int .i64 ticks]
abbrev ZS (b:Nat) (i to lock ticks:Int):Nat×Obj:=(b,.cells #[.int .i64 i,.int .i64 to,.int .i64 lock,.int .i64 ticks] 171 (0,0))
abbrev oB (b:Nat) (o:db):Nat×Obj:=(b,.cells (fO o).toArray 168 (0,0))
theorem tP {lock:Int} {o:db} (h1:¬o.k=11) (h2:¬(o.k=6∧o.a=lock)):nN lock o=false:=by
  unfold nN;rw [decide_eq_false h1]
  by_cases h:o.k=6
  · rw [decide_eq_false (fun q=>h2 ⟨h,q⟩)];simp
  · rw [decide_eq_false h];rfl
theorem M5 {lock:Int} {o:db} (h1:o.k=11):nN lock o=true:=by unfold nN;rw [decide_eq_true h1];rfl
theorem QY {lock:Int} {o:db} (h1:o.k=6) (h2:o.a=lock):nN lock o=true:=by unfold nN;rw [decide_eq_true h1,decide_eq_true h2];simp
def v5 (lock:Int) (ys:List db) (j:Nat) (acc:Int):Prop:=
  j≤ys.length∧(nP lock ys).1=j+(nP lock (ys.drop j)).1∧(nP lock ys).2=acc+(nP lock (ys.drop j)).2∧-((j:Int)*1125899906842624)≤acc∧acc≤(j:Int)*1125899906842624
theorem v5.zero (lock:Int) (ys:List db):v5 lock ys 0 0:=⟨Nat.zero_le _,by simp,by simp,by simp,by simp⟩
theorem v5.step {lock:Int} {ys:List db} {j:Nat} {acc WW:Int} (h:v5 lock ys j acc) (hs:nG ys) (hj:j<ys.length) (hn:nN lock (ys.getD j default)=false) (ha:WW=acc+if (ys.getD j default).k=1 then (ys.getD j default).a else 0):v5 lock ys (j+1) WW:=by
  obtain ⟨h1,h2,h3,h4,h5⟩:=h;have e:=Ir hj hn;have hb:=hs.at j;rw [e] at h2 h3
  dsimp only at h2 h3
  have:((j+1:Nat):Int)*1125899906842624=(j:Int)*1125899906842624+1125899906842624:=by push_cast;omega
  refine ⟨by omega,by omega,by rw [ha];omega,?_,?_⟩<;>rw [this,ha] <;>split<;>omega
theorem v5.stop {lock:Int} {ys:List db} {j:Nat} {acc:Int} (h:v5 lock ys j acc) (hj:j<ys.length) (hn:nN lock (ys.getD j default)=true):nP lock ys=(j,acc):=by
  obtain ⟨h1,h2,h3,h4,h5⟩:=h;rw [IP hj hn] at h2 h3;exact Prod.ext (by simpa using h2) (by simpa using h3)
theorem v5.fin {lock:Int} {ys:List db} {j:Nat} {acc:Int} (h:v5 lock ys j acc) (hj:ys.length≤j):nP lock ys=(ys.length,acc):=by
  obtain ⟨h1,h2,h3,h4,h5⟩:=h;rw [Pn hj] at h2 h3;exact Prod.ext (by dsimp only at h2 ⊢;omega) (by simpa using h3)
theorem wD {xs:List db} {fv:Bool} {ad:Option Addr} {n cap:Nat} (i:Nat) (w:World) (hn:n=xs.length) (hl:Sr fO 3 xs (.slice ad n cap) w) (hs:nG xs) (hi:i<xs.length):aJ Tryz.prog 92 #[pV fv ad n cap,.int .i64 (i:Nat)] w (fun v w'=>v=W0 xs i∧Ext w w'):=by
 have aef:=hs.1;have Nf:=hs.drop (i+1);obtain ⟨ys,qa⟩:∃ys,xs.drop (i+1)=ys:=⟨_,rfl⟩;have WR:ys.length=xs.length-(i+1):=(by rw [←qa,List.length_drop]);have aaO:wY xs i=nP (xs.getD i default).a ys:=(by unfold wY;rw [qa]);have hyx:∀j,ys.getD j default=xs.getD (i+1+j) default:=(fun j=>by rw [←qa,HM]);rw [qa] at Nf;simp only [W0,aaO];refine aJ.au Tryz.func92 rfl Tryz.ntmps92 rfl ([]) (no) (Mem.nil w) ?_;refine J2 ?_;refine LM.box rfl rfl (fun b2 tf=>?_);refine LM.alloc Tryz.zeroValue171 rfl (fun b4 CO=>?_);refine cK ?_;refine LM.eT (dy (j:=1) aA Tryz.isAgg3 rfl rfl cR (by rfl) (by rfl) id) ?_;refine LM.val (aD (cs:=#[_,_,_,_]) rfl (by first|rfl|kernel_rfl)) ?_;refine LM.alloc Tryz.zeroValue171 rfl (fun b5 KU=>?_);refine LM.dC Tryz.sizeOf171 rfl rfl rfl rfl dF cn ?_;refine J4 ?_;refine af.aS (α:=Nat×Int×Int) (fun ⟨j,to,acc⟩=>[]) [(2,_),(4,_),(5,_)] (fun ⟨j,to,acc⟩=>ZS b5 (i:Nat) to (xs.getD i default).a acc::ZS b4 0 0 0 0::pB b2 fv ad n cap:: []) (fun ⟨j,to,acc⟩=>v5 (xs.getD i default).a ys j acc∧to=(i:Int)+1+(j:Nat)) (fun ⟨j,to,acc⟩=>ys.length-j) ((0,(i:Int)+1,0)) cm aX ⟨v5.zero _ ys,by simp⟩ ?_;rintro ⟨j,to,acc⟩ ⟨hI,hto⟩;change af _ _ _ _ _ _ _ (ZS b5 (i:Nat) to (xs.getD i default).a acc::ZS b4 0 0 0 0::pB b2 fv ad n cap:: []) _ _ _;have hj:=hI.1;have htn:to.toNat=i+1+j:=om;have ri:ys.getD j default=xs.getD to.toNat default:=(by rw [hyx,htn]);have hb:=Nf.at j;rw [ri] at hb;obtain ⟨-,-,-,CJ,tf⟩:=id hI;refine dB ?_;refine af.aj rfl (fun h1=>?_) (fun h1=>?_)
 ·refine J9 ?_;refine LM.val (cP o5 Tryz.underlying115 Tryz.sizeOf168 rfl rfl om) ?_;refine LM.eT (dX aA ir Tryz.isAgg168 Tryz.sizeOf168 rfl cR id) ?_;refine LM.alloc Tryz.zeroValue168 rfl (fun b6 QI=>?_);refine LM.dC Tryz.sizeOf168 rfl rfl rfl rfl dF cn ?_;refine J9 ?_;refine LM.ar (t:=32) rfl (fun h2=>?_) (fun h2=>?_)
  ·refine J3 ?_;refine LM.c9 (t:=32) rfl rfl rfl ?_;refine cK ?_;refine LM.rd (bo Tryz.isAgg171 Tryz.sizeOf171 rfl rfl) ?_;refine LM.dC Tryz.sizeOf171 rfl rfl rfl rfl dF cn ?_;refine J8 ?_;refine QM.aV (ds:=([])) (.inl rfl) [.cell 4 171] Tryz.results92 bj (cM rfl Tryz.isAgg171 Tryz.sizeOf171 rfl bn) ?_;intro w' aq ab;have hq:=hI.stop om (by rw [ri];exact M5 h2);refine ⟨?_,ab⟩;rw [hq];show sV _ _ _ _=_;congr 5
  refine J5 ?_;refine LM.ar (t:=36) rfl (fun h3=>?_) (fun h3=>?_)
  ·refine dB ?_;refine af.aj rfl (fun h4=>?_) (fun h4=>?_)
   ·refine J2 ?_;refine LM.rd (bo Tryz.isAgg171 Tryz.sizeOf171 rfl rfl) ?_;refine LM.dC Tryz.sizeOf171 rfl rfl rfl rfl dF cn ?_;refine J8 ?_;refine QM.aV (ds:=([])) (.inl rfl) [.cell 4 171] Tryz.results92 bj (cM rfl Tryz.isAgg171 Tryz.sizeOf171 rfl bn) ?_;intro w' aq ab;have hq:=hI.stop om (by rw [ri];exact QY h3 h4);refine ⟨?_,ab⟩;rw [hq];show sV _ _ _ _=_;congr 5
   refine cf ?_;refine af.aj rfl (fun h5=>?_) (fun h5=>?_)
   ·refine J7 ?_;refine LM.st Tryz.sizeOf3 rfl rfl rfl eA rfl cn ?_;refine J7 ?_;refine LM.st Tryz.sizeOf3 rfl rfl rfl eA rfl cn ?_;refine J2 ?_;refine aK ((j+1,to+1,acc+(xs.getD to.toNat default).a)) ?_ ?_
    · exact⟨hI.step Nf om (by rw [ri];exact tP h2 (fun q=>by first|exact h4 q.2|exact h3 q.1)) (by rw [ri,if_pos h5]),by push_cast;omega⟩
    · omega
   refine J7 ?_;refine LM.st Tryz.sizeOf3 rfl rfl rfl eA rfl cn ?_;refine J2 ?_;refine aK ((j+1,to+1,acc)) ?_ ?_
   · exact⟨hI.step Nf om (by rw [ri];exact tP h2 (fun q=>by first|exact h4 q.2|exact h3 q.1)) (by rw [ri,if_neg h5];omega),by push_cast;omega⟩
   · (dsimp only;omega)
  refine US ?_;refine af.aj rfl (fun h6=>?_) (fun h6=>?_)
  ·refine J7 ?_;refine LM.st Tryz.sizeOf3 rfl rfl rfl eA rfl cn ?_;refine J7 ?_;refine LM.st Tryz.sizeOf3 rfl rfl rfl eA rfl cn ?_;refine J2 ?_;refine aK ((j+1,to+1,acc+(xs.getD to.toNat default).a)) ?_ ?_
   · exact⟨hI.step Nf om (by rw [ri];exact tP h2 (fun q=>by first|exact h4 q.2|exact h3 q.1)) (by rw [ri,if_pos h6]),by push_cast;omega⟩
   · (dsimp only;omega)
  refine J7 ?_;refine LM.st Tryz.sizeOf3 rfl rfl rfl eA rfl cn ?_;refine J2 ?_;refine aK ((j+1,to+1,acc)) ?_ ?_
  · exact⟨hI.step Nf om (by rw [ri];exact tP h2 (fun q=>by first|exact h4 q.2|exact h3 q.1)) (by rw [ri,if_neg h6];omega),by push_cast;omega⟩
  · (dsimp only;omega)
 refine J7 ?_;refine LM.rd (bo Tryz.isAgg171 Tryz.sizeOf171 rfl rfl) ?_;refine LM.dC Tryz.sizeOf171 rfl rfl rfl rfl dF cn ?_;refine J3 ?_;refine QM.aV (ds:=([])) (.inl rfl) [.cell 4 171] Tryz.results92 bj (cM rfl Tryz.isAgg171 Tryz.sizeOf171 rfl bn) ?_;intro w' aq ab;have hq:=hI.fin om;refine ⟨?_,ab⟩;rw [hq];show sV _ _ _ _=_;congr 5;omega
end Go.Eng
namespace Go.Eng
open Go Go.Proofs Go.RowKit
def Rn (fv:Bool) (xs:List db) (ls:List km) (cO:Int):Value:= .tuple #[.int .i64 (Cy fv xs ls cO).1,.int .i64 (Cy fv xs ls cO).2]
theorem BU {T K r:Bool} {q:Bool} {a:Int} {n:Nat} (hq:q=((T||K)&&decide (a ≥ n)||r)) (h:q=false) (ht:T=true):a<n:=by
  rw [h,ht,Bool.true_or,Bool.true_and] at hq;have:=(Bool.or_eq_false_iff.1 hq.symm).1;have:=of_decide_eq_false this;omega
theorem CY {fv:Bool} {xs:List db} {ls:List km} {cO e:Int} {i:Nat} (h:kW xs=true) (h0:∀j,j<i→gG fv xs ls cO j=0) (hi:i<xs.length) (hf:gG fv xs ls cO i=e) (he:e≠0):Rn fv xs ls cO= .tuple #[.int .i64 (i:Nat),.int .i64 e] :=by
  unfold Rn;rw [XG h h0 hi (by rw [hf];exact he),hf]
theorem x5 {fv:Bool} {xs:List db} {ls:List km} {cO:Int} {b:Bool} (h:kW xs=true) (h0:∀j,j<xs.length→gG fv xs ls cO j=0) (hb:(fv&& !xs.any (fun o=>gq o.k))=b):Rn fv xs ls cO= .tuple #[.int .i64 0,.int .i64 (if b then 1 else 0)] :=by
  unfold Rn;rw [TM h h0,hb];cases b<;>rfl
theorem KN {fv:Bool} {xs:List db} {ls:List km} {cO:Int} (h:kW xs=false):Rn fv xs ls cO= .tuple #[.int .i64 0,.int .i64 1] :=by
  unfold Rn;rw [OO h]
set_option maxHeartbeats 1000000 in
theorem sT {xs:List db} {ls:List km} {fv:Bool} {ad rj:Option Addr} {n cap n2 gy:Nat} (cO:Int) (w:World) (hn:n=xs.length) (hl:Sr fO 3 xs (.slice ad n cap) w) (H3:n2=ls.length) (nu:Sr fL 5 ls (.slice rj n2 gy) w):aJ Tryz.prog 49 #[pV fv ad n cap,.slice rj n2 gy,.int .i64 cO] w (fun v w'=>v=Rn fv xs ls cO∧Ext w w'):=by
 refine aJ.au Tryz.func49 rfl Tryz.ntmps49 rfl ([]) (no) (Mem.nil w) ?_;refine J2 ?_;refine LM.box rfl rfl (fun b3 Mm=>?_);refine J7 ?_;refine LM.rd (bo Tryz.isAgg117 Tryz.sizeOf117 rfl rfl) ?_;refine cE Tryz.func90 rfl (fun w hm hc hg=>G6 w hn (hl.ext hc)) ?_;refine J3 ?_;refine af.aW rfl (fun h1=>?_) (fun h1=>?_)
 ·refine J8 ?_;refine QM.leave (.inl rfl) [.tmp 6,.tmp 7] Tryz.results49 rfl ?_;intro w' aq ab aI;exact⟨(KN (by simpa using h1)).symm,ab⟩
 have ML:kW xs=true:=(by simpa using h1);have U6:=xE ML;have aef:=U6.1;refine lg ?_;refine af.aS (α:=Nat) (fun i=>[(8,.bool ((xs.take i).any (fun o=>gq o.k))),(9,.int .i64 (i:Nat))]) [(1,_),(2,_),(3,_)] (fun i=>pB b3 fv ad n cap:: []) (fun i=>i≤xs.length∧∀j,j<i→gG fv xs ls cO j=0) (fun i=>xs.length-i) (0) cm aX ⟨Nat.zero_le _,fun j hj=>absurd hj (Nat.not_lt_zero _)⟩ ?_;rintro i ⟨hi,h0⟩;change af _ _ _ _ _ _ _ (pB b3 fv ad n cap:: []) _ _ _;refine cf ?_;refine af.aj rfl (fun h2=>?_) (fun h2=>?_)
 ·refine cf ?_;refine LM.eT (dX aA ir Tryz.isAgg168 Tryz.sizeOf168 rfl cR id) ?_;refine LM.alloc Tryz.zeroValue168 rfl (fun sN Lb=>?_);refine LM.dC Tryz.sizeOf168 rfl rfl rfl rfl dF cn ?_;refine J3 ?_;refine af.bH (α:=Bool) (fun t=>[(8,.bool t)]) [(1,_),(2,_),(3,_),(9,_),(10,_)] (fun t=>oB sN (xs.getD i default)::pB b3 fv ad n cap:: []) (fun t=>t=(xs.take (i+1)).any (fun o=>gq o.k)) cm ?_ ?_
  ·refine J3 ?_;refine LM.bu (t:=28) rfl (fun h3=>?_) (fun h3=>?_)
   ·refine J21 ?_;refine mK (_) ?_
    · rw [fX default om,gq];simp only [h1,h2,h3,decide_true,decide_false,Bool.true_and,Bool.false_and,Bool.and_true,Bool.and_false,Bool.not_true,Bool.not_false,Bool.true_or,Bool.false_or,Bool.or_true,Bool.or_false,ne_eq,not_true_eq_false,not_false_eq_true,Bool.and_self]
   refine J6 ?_;refine LM.ar (t:=33) rfl (fun h4=>?_) (fun h4=>?_)
   ·refine Fw ?_;refine mK (_) ?_
    · rw [fX default om,gq];simp only [h1,h2,h3,h4,decide_true,decide_false,Bool.true_and,Bool.false_and,Bool.and_true,Bool.and_false,Bool.not_true,Bool.not_false,Bool.true_or,Bool.false_or,Bool.or_true,Bool.or_false,ne_eq,not_true_eq_false,not_false_eq_true,Bool.and_self]
   refine J6 ?_;refine LM.ar (t:=38) rfl (fun h5=>?_) (fun h5=>?_)
   ·refine dB ?_;refine mK (_) ?_
    · rw [fX default om,gq];simp only [h1,h2,h3,h4,h5,decide_true,decide_false,Bool.true_and,Bool.false_and,Bool.and_true,Bool.and_false,Bool.not_true,Bool.not_false,Bool.true_or,Bool.false_or,Bool.or_true,Bool.or_false,ne_eq,not_true_eq_false,not_false_eq_true,Bool.and_self]
   refine J6 ?_;refine LM.ar (t:=43) rfl (fun h6=>?_) (fun h6=>?_)
   ·refine J6 ?_;refine mK (_) ?_
    · rw [fX default om,gq];simp only [h1,h2,h3,h4,h5,h6,decide_true,decide_false,Bool.true_and,Bool.false_and,Bool.and_true,Bool.and_false,Bool.not_true,Bool.not_false,Bool.true_or,Bool.false_or,Bool.or_true,Bool.or_false,ne_eq,not_true_eq_false,not_false_eq_true,Bool.and_self]
   refine J7 ?_;refine mK (_) ?_
   · rw [fX default om,gq];simp only [h1,h2,h3,h4,h5,h6,decide_true,decide_false,Bool.true_and,Bool.false_and,Bool.and_true,Bool.and_false,Bool.not_true,Bool.not_false,Bool.true_or,Bool.false_or,Bool.or_true,Bool.or_false,ne_eq,not_true_eq_false,not_false_eq_true,Bool.and_self]
  rintro t rfl;change QM _ _ _ _ _ (oB sN (xs.getD i default)::pB b3 fv ad n cap:: []) _ _ _;have hr:=y7 (yV ML (show i<xs.length by omega));refine J3 ?_;refine af.bH (α:=Bool) (fun q=>[(72,.bool q)]) [(1,_),(2,_),(3,_),(8,_),(9,_),(10,_)] (fun q=>oB sN (xs.getD i default)::pB b3 fv ad n cap:: []) (fun q=>q=((nM (xs.getD i default).k||decide ((xs.getD i default).k=6))&&decide ((xs.getD i default).a ≥ n2)||decide ((xs.getD i default).k=9)&&decide ((xs.getD i default).a ≥ cO))) cm ?_ ?_
  ·refine J1 ?_;refine LM.rd (bo Tryz.isAgg168 Tryz.sizeOf168 rfl rfl) ?_;refine cE Tryz.func91 rfl (fun w hm hc hg=>sS _ w) ?_;refine J1 ?_;refine LM.bu (t:=50) rfl (fun h7=>?_) (fun h7=>?_)
   ·refine gw ?_;refine LM.ar (t:=62) rfl (fun h8=>?_) (fun h8=>?_)
    ·refine J3 ?_;refine LM.c9 (t:=62) rfl rfl rfl ?_;refine J7 ?_;refine mK (_) ?_
     · (simp only [h1,h2,h7,h8,decide_true,decide_false,Bool.true_and,Bool.false_and,Bool.and_true,Bool.and_false,Bool.not_true,Bool.not_false,Bool.true_or,Bool.false_or,Bool.or_true,Bool.or_false,ne_eq,not_true_eq_false,not_false_eq_true,Bool.and_self];done)
    refine J5 ?_;refine LM.ar (t:=66) rfl (fun h9=>?_) (fun h9=>?_)
    ·refine J8 ?_;refine mK (_) ?_
     · (simp only [h1,h2,h7,h8,h9,decide_true,decide_false,Bool.true_and,Bool.false_and,Bool.and_true,Bool.and_false,Bool.not_true,Bool.not_false,Bool.true_or,Bool.false_or,Bool.or_true,Bool.or_false,ne_eq,not_true_eq_false,not_false_eq_true,Bool.and_self];done)
    refine J7 ?_;refine mK (_) ?_
    · (simp only [h1,h2,h7,h8,h9,decide_true,decide_false,Bool.true_and,Bool.false_and,Bool.and_true,Bool.and_false,Bool.not_true,Bool.not_false,Bool.true_or,Bool.false_or,Bool.or_true,Bool.or_false,ne_eq,not_true_eq_false,not_false_eq_true,Bool.and_self];done)
   refine J6 ?_;refine LM.ar (t:=55) rfl (fun iV=>?_) (fun iV=>?_)
   ·refine J8 ?_;refine LM.ar (t:=62) rfl (fun kg=>?_) (fun kg=>?_)
    ·refine J3 ?_;refine LM.c9 (t:=62) rfl rfl rfl ?_;refine J7 ?_;refine mK (_) ?_
     · (simp only [h1,h2,h7,iV,kg,decide_true,decide_false,Bool.true_and,Bool.false_and,Bool.and_true,Bool.and_false,Bool.not_true,Bool.not_false,Bool.true_or,Bool.false_or,Bool.or_true,Bool.or_false,ne_eq,not_true_eq_false,not_false_eq_true,Bool.and_self];done)
    refine J5 ?_;refine LM.ar (t:=66) rfl (fun gH=>?_) (fun gH=>?_)
    ·refine J8 ?_;refine mK (_) ?_
     · (exfalso;omega)
    refine J7 ?_;refine mK (_) ?_
    · (simp only [h1,h2,h7,iV,kg,gH,decide_true,decide_false,Bool.true_and,Bool.false_and,Bool.and_true,Bool.and_false,Bool.not_true,Bool.not_false,Bool.true_or,Bool.false_or,Bool.or_true,Bool.or_false,ne_eq,not_true_eq_false,not_false_eq_true,Bool.and_self];rfl)
   refine cK ?_;refine LM.ar (t:=66) rfl (fun oq=>?_) (fun oq=>?_)
   ·refine J8 ?_;refine mK (_) ?_
    · (simp only [h1,h2,h7,iV,oq,decide_true,decide_false,Bool.true_and,Bool.false_and,Bool.and_true,Bool.and_false,Bool.not_true,Bool.not_false,Bool.true_or,Bool.false_or,Bool.or_true,Bool.or_false,ne_eq,not_true_eq_false,not_false_eq_true,Bool.and_self];rfl)
   refine J7 ?_;refine mK (_) ?_
   · (simp only [h1,h2,h7,iV,oq,decide_true,decide_false,Bool.true_and,Bool.false_and,Bool.and_true,Bool.and_false,Bool.not_true,Bool.not_false,Bool.true_or,Bool.false_or,Bool.or_true,Bool.or_false,ne_eq,not_true_eq_false,not_false_eq_true,Bool.and_self];done)
  rintro q hq;change QM _ _ _ _ _ (oB sN (xs.getD i default)::pB b3 fv ad n cap:: []) _ _ _;refine J1 ?_;refine af.aW rfl (fun jw=>?_) (fun jw=>?_)
  ·refine lg ?_;refine QM.leave (.inl rfl) [.tmp 6,.tmp 7] Tryz.results49 rfl ?_;intro w' aq ab aI;exact⟨(CY (e:=4) ML h0 om (by simp only [gG,←hn,←H3,←hq];simp only [h1,h2,jw,decide_true,decide_false,Bool.true_and,Bool.false_and,Bool.and_true,Bool.and_false,Bool.not_true,Bool.not_false,Bool.true_or,Bool.false_or,Bool.or_true,Bool.or_false,ne_eq,not_true_eq_false,not_false_eq_true,Bool.and_self,if_true]) (by decide)).symm,ab⟩
  refine J4 ?_;refine af.bH (α:=Bool) (fun q3=>[(85,.bool q3)]) [(1,_),(2,_),(3,_),(8,_),(9,_),(10,_)] (fun q3=>oB sN (xs.getD i default)::pB b3 fv ad n cap:: []) (fun q3=>q3=(decide ((xs.getD i default).k=3)&& !(ls.getD (xs.getD i default).a.toNat default).sh)) cm ?_ ?_
  ·refine J5 ?_;refine LM.ar (t:=77) rfl (fun wW=>?_) (fun wW=>?_)
   ·have bB:=BU hq jw (by rw [wW];rfl);refine J4 ?_;refine LM.sp 77 rfl rfl rfl ?_;refine LM.val (cP o5 Tryz.underlying27 Tryz.sizeOf83 rfl rfl om) ?_;refine J2 ?_;refine LM.eT (dy (j:=0) aA Tryz.isAgg4 rfl rfl cR (by rfl) (by rfl) id) ?_;refine J3 ?_;refine mK (_) ?_
    · simp only [h1,h2,jw,wW,decide_true,decide_false,Bool.true_and,Bool.false_and,Bool.and_true,Bool.and_false,Bool.not_true,Bool.not_false,Bool.true_or,Bool.false_or,Bool.or_true,Bool.or_false,ne_eq,not_true_eq_false,not_false_eq_true,Bool.and_self]
   refine J9 ?_;refine mK (_) ?_
   · simp only [h1,h2,jw,wW,decide_true,decide_false,Bool.true_and,Bool.false_and,Bool.and_true,Bool.and_false,Bool.not_true,Bool.not_false,Bool.true_or,Bool.false_or,Bool.or_true,Bool.or_false,ne_eq,not_true_eq_false,not_false_eq_true,Bool.and_self]
  rintro q3 CG;change QM _ _ _ _ _ (oB sN (xs.getD i default)::pB b3 fv ad n cap:: []) _ _ _;refine J1 ?_;refine af.aW rfl (fun tB=>?_) (fun tB=>?_)
  ·refine lg ?_;refine QM.leave (.inl rfl) [.tmp 6,.tmp 7] Tryz.results49 rfl ?_;intro w' aq ab aI;exact⟨(CY (e:=1) ML h0 om (by simp only [gG,←hn,←H3,←hq,←CG];simp only [h1,h2,jw,tB,decide_true,decide_false,Bool.true_and,Bool.false_and,Bool.and_true,Bool.and_false,Bool.not_true,Bool.not_false,Bool.true_or,Bool.false_or,Bool.or_true,Bool.or_false,ne_eq,not_true_eq_false,not_false_eq_true,Bool.and_self,if_true,if_false,Bool.false_eq_true]) (by decide)).symm,ab⟩
  refine J4 ?_;refine LM.rd (bo Tryz.isAgg168 Tryz.sizeOf168 rfl rfl) ?_;refine cE Tryz.func91 rfl (fun w hm hc hg=>sS _ w) ?_;refine J2 ?_;refine af.aW rfl (fun pC=>?_) (fun pC=>?_)
  ·have bB:=BU hq jw pC;refine J2 ?_;refine LM.rd (bo Tryz.isAgg117 Tryz.sizeOf117 rfl rfl) ?_;refine J1 ?_;refine cE Tryz.func92 rfl (fun w hm hc hg=>wD i w hn (hl.ext hc) U6 om) ?_;refine LM.alloc Tryz.zeroValue171 rfl (fun b11 aes=>?_);refine LM.dC Tryz.sizeOf171 rfl rfl rfl rfl dF cn ?_;refine J3 ?_;refine af.bH (α:=Bool) (fun q4=>[(117,.bool q4)]) [(1,_),(2,_),(3,_),(8,_),(9,_)] (fun q4=>pB b3 fv ad n cap:: []) (fun q4=>q4=(decide ((wY xs i).2<1)||decide ((wY xs i).2 > (ls.getD (xs.getD i default).a.toNat default).cr)||fv&&decide (((i+1+(wY xs i).1:Nat):Int)=n))) cm ?_ ?_
   ·refine af.draw [(0,0),(1,1),(2,0),(3,0),(4,0),(5,1),(6,0),(7,0),(8,1),(9,0),(10,0),(11,1),(12,0),(13,0),(14,0),(15,0),(16,1),(17,0),(18,0),(19,1),(20,0),(21,1),(22,0),(23,0),(24,0),(25,0)] kr kr ?_;refine J4 ?_;refine LD.ar (t:=95) rfl (fun sX=>?_) (fun sX=>?_)
    ·refine gw ?_;refine LD.c9 rfl rfl ⟨106,_,rfl,rfl,rfl⟩ ?_;refine J9 ?_;refine mK (_) ?_
     · simp only [h1,h2,jw,tB,pC,sX,decide_true,decide_false,Bool.true_and,Bool.false_and,Bool.and_true,Bool.and_false,Bool.not_true,Bool.not_false,Bool.true_or,Bool.false_or,Bool.or_true,Bool.or_false,ne_eq,not_true_eq_false,not_false_eq_true,Bool.and_self]
    refine J5 ?_;refine LD.val rfl ⟨95,_,rfl,rfl,rfl⟩ (cP o5 Tryz.underlying27 Tryz.sizeOf83 rfl rfl om) ?_;refine J1 ?_;refine LD.eT rfl ⟨95,_,rfl,rfl,rfl⟩ (dy (j:=2) aA Tryz.isAgg3 rfl rfl cR (by rfl) (by rfl) id) ?_;refine J3 ?_;refine LD.ar (t:=106) rfl (fun Cw=>?_) (fun Cw=>?_)
    ·refine J2 ?_;refine LD.c9 rfl rfl ⟨106,_,rfl,rfl,rfl⟩ ?_;refine J9 ?_;refine mK (_) ?_
     · simp only [h1,h2,jw,tB,pC,sX,Cw,decide_true,decide_false,Bool.true_and,Bool.false_and,Bool.and_true,Bool.and_false,Bool.not_true,Bool.not_false,Bool.true_or,Bool.false_or,Bool.or_true,Bool.or_false,ne_eq,not_true_eq_false,not_false_eq_true,Bool.and_self]
    refine J3 ?_;refine LD.bu (t:=109) rfl (fun wV=>?_) (fun wV=>?_)
    ·refine J9 ?_;refine mK (_) ?_
     · simp only [h1,h2,jw,tB,pC,sX,Cw,wV,decide_true,decide_false,Bool.true_and,Bool.false_and,Bool.and_true,Bool.and_false,Bool.not_true,Bool.not_false,Bool.true_or,Bool.false_or,Bool.or_true,Bool.or_false,ne_eq,not_true_eq_false,not_false_eq_true,Bool.and_self]
    refine J9 ?_;refine mK (_) ?_
    · simp only [h1,h2,jw,tB,pC,sX,Cw,wV,decide_true,decide_false,Bool.true_and,Bool.false_and,Bool.and_true,Bool.and_false,Bool.not_true,Bool.not_false,Bool.true_or,Bool.false_or,Bool.or_true,Bool.or_false,ne_eq,not_true_eq_false,not_false_eq_true,Bool.and_self]
   rintro q4 Ua;change QM _ _ _ _ _ (pB b3 fv ad n cap:: []) _ _ _;refine J1 ?_;refine af.aW rfl (fun H4=>?_) (fun H4=>?_)
   ·refine gw ?_;refine QM.leave (.inl rfl) [.tmp 6,.tmp 7] Tryz.results49 rfl ?_;intro w' aq ab aI;exact⟨(CY (e:=13) ML h0 om (by simp only [gG,←hn,←H3,←hq,←CG,←Ua];simp only [h1,h2,jw,tB,pC,H4,decide_true,decide_false,Bool.true_and,Bool.false_and,Bool.and_true,Bool.and_false,Bool.not_true,Bool.not_false,Bool.true_or,Bool.false_or,Bool.or_true,Bool.or_false,ne_eq,not_true_eq_false,not_false_eq_true,Bool.and_self,if_true,if_false,Bool.false_eq_true]) (by decide)).symm,ab⟩
   refine J8 ?_;refine aK (i+1) ?_ ?_
   · exact⟨by omega,s8 h0 (by simp only [gG,←hn,←H3,←hq,←CG,←Ua];simp only [h1,h2,jw,tB,pC,H4,decide_true,decide_false,Bool.true_and,Bool.false_and,Bool.and_true,Bool.and_false,Bool.not_true,Bool.not_false,Bool.true_or,Bool.false_or,Bool.or_true,Bool.or_false,ne_eq,not_true_eq_false,not_false_eq_true,Bool.and_self,if_true,if_false,ite_true,Bool.false_eq_true])⟩
   · omega
  refine J8 ?_;refine aK (i+1) ?_ ?_
  · exact⟨by omega,s8 h0 (by simp only [gG,←hn,←H3,←hq,←CG];simp only [h1,h2,jw,tB,pC,decide_true,decide_false,Bool.true_and,Bool.false_and,Bool.and_true,Bool.and_false,Bool.not_true,Bool.not_false,Bool.true_or,Bool.false_or,Bool.or_true,Bool.or_false,ne_eq,not_true_eq_false,not_false_eq_true,Bool.and_self,if_true,if_false,ite_true,Bool.false_eq_true])⟩
  · omega
 refine dB ?_;refine LM.bu (t:=121) rfl (fun JY=>?_) (fun JY=>?_)
 ·refine J5 ?_;refine af.aW rfl (fun HU=>?_) (fun HU=>?_)
  ·refine J8 ?_;refine QM.leave (.inl rfl) [.tmp 6,.tmp 7] Tryz.results49 rfl ?_;intro w' aq ab aI;have fp:i=xs.length:=om;subst fp;rw [List.take_length] at HU;exact⟨(x5 (b:=true) ML h0 (by rw [JY,HU];rfl)).symm,ab⟩
  refine J9 ?_;refine QM.leave (.inl rfl) [.tmp 6,.tmp 7] Tryz.results49 rfl ?_;intro w' aq ab aI;have fp:i=xs.length:=om;subst fp;rw [List.take_length] at HU;exact⟨(x5 (b:=false) ML h0 (by rw [JY,HU];rfl)).symm,ab⟩
 refine ud ?_;refine QM.leave (.inl rfl) [.tmp 6,.tmp 7] Tryz.results49 rfl ?_;intro w' aq ab aI;have fp:i=xs.length:=om;subst fp;exact⟨(x5 (b:=false) ML h0 (by rw [JY];rfl)).symm,ab⟩
structure mJ where
  c:pS
  ad:Option Addr
  n:Nat
  cap:Nat
instance:Inhabited mJ:=⟨⟨default,none,0,0⟩⟩
def XQ (p:mJ):List Value:=[.bool p.c.fv,.slice p.ad p.n p.cap]
def mJ.In (p:mJ) (w:World):Prop:=p.n=p.c.xs.length∧Sr fO 3 p.c.xs (.slice p.ad p.n p.cap) w
theorem mJ.In.ext {p:mJ} {w w':World} (h:p.In w) (k:Ext w w'):p.In w':=⟨h.1,h.2.ext k⟩
def sK (ps:List mJ) (w:World):Prop:=∀p∈ps,p.In w
theorem sK.ext {ps:List mJ} {w w':World} (h:sK ps w) (k:Ext w w'):sK ps w':=fun p hp=>(h p hp).ext k
structure eL where
  cr:Int
  gr:Int
  gs:List Int
  ga:Option Addr
  gn:Nat
  gc:Nat
  ls:List km
  la:Option Addr
  ln:Nat
  lc:Nat
  ps:List mJ
  pa:Option Addr
  pn:Nat
  pc:Nat
instance:Inhabited eL:=⟨⟨0,0,[],none,0,0,[],none,0,0,[],none,0,0⟩⟩
def eL.cs (s:eL):List Value:=[.int .i64 s.cr,.int .i64 s.gr,.slice s.ga s.gn s.gc,.slice s.la s.ln s.lc,.slice s.pa s.pn s.pc]
abbrev eL.val (s:eL):Value:= .agg #[.int .i64 s.cr,.int .i64 s.gr,.slice s.ga s.gn s.gc,.slice s.la s.ln s.lc,.slice s.pa s.pn s.pc]
def eL.C (s:eL):kh:=⟨s.cr,s.gr,s.gs,s.ls,s.ps.map mJ.c⟩
structure eL.In (s:eL) (w:World):Prop where
  Mz:s.gn=s.gs.length
  hg:Sr fI 1 s.gs (.slice s.ga s.gn s.gc) w
  A1:s.ln=s.ls.length
  hl:Sr fL 5 s.ls (.slice s.la s.ln s.lc) w
  Cp:s.pn=s.ps.length
  hp:Sr XQ 2 s.ps (.slice s.pa s.pn s.pc) w
  ops:sK s.ps w
theorem eL.In.ext {s:eL} {w w':World} (h:s.In w) (k:Ext w w'):s.In w':=⟨h.Mz,h.hg.ext k,h.A1,h.hl.ext k,h.Cp,h.hp.ext k,h.ops.ext k⟩
theorem ku {ps:List mJ} {i:Nat} :(ps.map mJ.c).getD i default=(ps.getD i default).c:=by
  rw [List.getD_eq_getElem?_getD,List.getD_eq_getElem?_getD,List.getElem?_map];cases ps[i]? <;>rfl
abbrev qO (ad:Option Addr) (n cap:Nat) (i:Nat) (e:Int):Obj:= .cells #[.slice ad n cap,.int .i64 (i:Nat),.int .i64 e] 157 (0,0)
abbrev qB (b:Nat) (ad:Option Addr) (n cap:Nat) (i:Nat) (e:Int):Nat×Obj:=(b,qO ad n cap i e)
set_option maxHeartbeats 1000000 in
theorem jg {ws:List bC} (b:Nat) {ad:Option Addr} {n cap:Nat} (i:Nat) (e k:Int) (t:List UInt8) (w:World) (hn:n=ws.length) (hl:Sr fW 4 ws (.slice ad n cap) w) (hM:Mem w [qB b ad n cap i e]):aJ Tryz.prog 83 #[.pointer (some ⟨b,0,none⟩),.int .i64 k,vS t] w (fun v w'=>v= .bool (mQ ws i e k t)∧Ext w w'):=by
 refine aJ.au Tryz.func83 rfl Tryz.ntmps83 rfl ([qB b ad n cap i e]) (no) hM ?_;refine J6 ?_;refine af.draw [(0,0),(1,0),(2,0),(3,1),(4,0),(5,0),(6,0),(7,0),(8,0),(9,1),(10,0),(11,0),(12,0),(13,1),(14,0),(15,0),(16,0),(17,0),(18,0),(19,0),(20,0),(21,1),(22,0),(23,0),(24,0),(25,1),(26,0),(27,0),(28,1),(29,0),(30,0),(31,0),(32,0),(33,0),(34,0),(35,0),(36,1),(37,0),(38,0),(39,0),(40,1),(41,0),(42,0),(43,1),(44,0),(45,0),(46,0),(47,0)] kr kr ?_;refine J6 ?_;refine LD.ar (t:=12) rfl (fun h1=>?_) (fun h1=>?_)
 ·refine cK ?_;refine LD.ar (t:=24) rfl (fun h2=>?_) (fun h2=>?_)
  ·refine cf ?_;refine LD.eT rfl ⟨24,_,rfl,rfl,rfl⟩ (dy (j:=0) aA Tryz.isAgg3 rfl rfl cR (by rfl) (by rfl) id) ?_;refine J4 ?_;refine LD.ar (t:=39) rfl (fun h3=>?_) (fun h3=>?_)
   ·refine cf ?_;refine LD.eT rfl ⟨39,_,rfl,rfl,rfl⟩ (dy (j:=1) aA Tryz.isAgg9 rfl rfl cR (by rfl) (by rfl) id) ?_;refine J1 ?_;refine LD.val rfl ⟨39,_,rfl,rfl,rfl⟩ (qe rfl rfl) ?_;refine J5 ?_;refine qL Tryz.results83 rfl fun w' aq ab aI=>?_;refine ⟨?_,ab⟩;simp only [bA,mQ];rw [decide_eq_true h1,decide_eq_true (show i<ws.length by omega),decide_eq_true h3];simp only [Bool.true_and]
   refine Fj ?_;refine qL Tryz.results83 rfl fun w' aq ab aI=>?_;refine ⟨?_,ab⟩;simp only [bA,mQ];rw [decide_eq_false h3];simp only [Bool.and_false,Bool.false_and]
  refine J33 ?_;refine qL Tryz.results83 rfl fun w' aq ab aI=>?_;refine ⟨?_,ab⟩;simp only [bA,mQ];rw [decide_eq_false (show¬i<ws.length by omega)];simp only [Bool.and_false,Bool.false_and]
 refine J45 ?_;refine qL Tryz.results83 rfl fun w' aq ab aI=>?_;refine ⟨?_,ab⟩;simp only [bA,mQ];rw [decide_eq_false h1];simp only [Bool.and_false,Bool.false_and]
theorem fx {ws:List bC} (b:Nat) {ad:Option Addr} {n cap:Nat} (i:Nat) (e k:Int) (t:List UInt8) (w:World) (hn:n=ws.length) (hx:ws.length≤1000000000) (hl:Sr fW 4 ws (.slice ad n cap) w) (jR:0<ws.length→iM ad≠b) (hM:Mem w [qB b ad n cap i e]):aJ Tryz.prog 82 #[.pointer (some ⟨b,0,none⟩),.int .i64 k,vS t] w (RP b (.tuple #[]) (qO ad n cap (eV ws i e k t).1 (eV ws i e k t).2) w):=by
 refine aJ.au Tryz.func82 rfl Tryz.ntmps82 rfl ([qB b ad n cap i e]) ((fun x=>x=b)) hM ?_;refine J5 ?_;refine cE Tryz.func83 rfl (fun w hm hc hg=>jg b i e k t w hn (hl.kp hc jR) (hm.pick _)) ?_;refine J2 ?_;refine af.aW rfl (fun h1=>?_) (fun h1=>?_)
 ·have bB:=(nK h1).1;refine J8 ?_;refine LM.st Tryz.sizeOf3 rfl rfl rfl eA rfl (fun _=>rfl) ?_;refine J1 ?_;refine QM.leave (.inr rfl) [] Tryz.results82 rfl ?_;intro w' aq ab aI;refine ⟨rfl,ab,?_⟩;have h3:=aq.at b;unfold eV;rw [if_pos h1];exact h3
 refine J9 ?_;refine af.aj rfl (fun h2=>?_) (fun h2=>?_)
 ·refine J4 ?_;refine LM.st Tryz.sizeOf3 rfl rfl rfl eA rfl (fun _=>rfl) ?_;refine J1 ?_;refine QM.leave (.inr rfl) [] Tryz.results82 rfl ?_;intro w' aq ab aI;refine ⟨rfl,ab,?_⟩;have h3:=aq.at b;unfold eV;rw [if_neg (by rw [h1];simp),if_pos h2];exact h3
 refine J1 ?_;refine QM.leave (.inr rfl) [] Tryz.results82 rfl ?_;intro w' aq ab aI;refine ⟨rfl,ab,?_⟩;have h3:=aq.at b;unfold eV;rw [if_neg (by rw [h1];simp),if_neg h2];exact h3
set_option maxHeartbeats 1000000 in
theorem df {ws:List bC} (b:Nat) {ad:Option Addr} {n cap:Nat} (i:Nat) (e gA:Int) (nm:List UInt8) (w:World) (hn:n=ws.length) (hx:ws.length≤1000000000) (hl:Sr fW 4 ws (.slice ad n cap) w) (jR:0<ws.length→iM ad≠b) (hM:Mem w [qB b ad n cap i e]):aJ Tryz.prog 81 #[.pointer (some ⟨b,0,none⟩),vS nm,.int .i64 gA] w (RP b (.int .i64 (dq ws i e nm gA).2.2) (qO ad n cap (dq ws i e nm gA).1 (dq ws i e nm gA).2.1) w):=by
 refine aJ.au Tryz.func81 rfl Tryz.ntmps81 rfl ([qB b ad n cap i e]) ((fun x=>x=b)) hM ?_;refine J9 ?_;refine LM.cW (oC Tryz.func82) (fun w hm hc hg=>fx b i e 1 nm w hn hx (hl.kp hc jR) jR (hm.pick _)) rfl (fun _=>rfl) ?_;refine cK ?_;refine af.aj rfl (fun h1=>?_) (fun h1=>?_)
 ·refine J7 ?_;refine qL Tryz.results81 rfl fun w' aq ab aI=>?_
  unfold dq;rw [Qo h1];exact⟨rfl,ab,aq.at b⟩
 have DU:(eV ws i e 1 nm).2=0:=Classical.not_not.1 h1;refine J4 ?_;refine af.draw [(0,0),(1,0),(2,0),(3,1),(4,0),(5,0),(6,0),(7,1),(8,0),(9,0),(10,0),(11,0),(12,0),(13,0),(14,1),(15,0),(16,0),(17,0),(18,1),(19,0),(20,0),(21,1),(22,0),(23,0)] kr kr ?_;refine dB ?_;refine LD.ar (t:=26) rfl (fun h2=>?_) (fun h2=>?_)
 ·refine J21 ?_;refine LM.st Tryz.sizeOf3 rfl rfl rfl eA rfl (fun _=>rfl) ?_;refine J9 ?_;refine qL Tryz.results81 rfl fun w' aq ab aI=>?_
  unfold dq;rw [DU,P7 (by decide) (.inl om)];exact⟨rfl,ab,aq.at b⟩
 refine cf ?_;refine LD.eT rfl ⟨26,_,rfl,rfl,rfl⟩ (dy (j:=0) aA Tryz.isAgg3 rfl rfl cR (by rfl) (by rfl) (by exact jR om)) ?_;refine J4 ?_;refine af.aj rfl (fun h3=>?_) (fun h3=>?_)
 ·refine J5 ?_;refine LM.st Tryz.sizeOf3 rfl rfl rfl eA rfl (fun _=>rfl) ?_;refine J9 ?_;refine qL Tryz.results81 rfl fun w' aq ab aI=>?_
  unfold dq;rw [DU,P7 (by decide) (.inr h3)];exact⟨rfl,ab,aq.at b⟩
 refine J3 ?_;refine af.draw [(0,0),(1,0),(2,0),(3,1),(4,0),(5,0),(6,0),(7,1),(8,0),(9,0),(10,1),(11,0)] kr kr ?_;refine cf ?_;refine LD.eT rfl rfl (dy (j:=2) aA Tryz.isAgg3 rfl rfl cR (by rfl) (by rfl) (by exact jR om)) ?_;refine J9 ?_;refine LM.ar (t:=56) rfl (fun h4=>?_) (fun h4=>?_)
 ·refine cK ?_;refine LM.st Tryz.sizeOf3 rfl rfl rfl eA rfl (fun _=>rfl) ?_;refine J9 ?_;refine qL Tryz.results81 rfl fun w' aq ab aI=>?_
  unfold dq;rw [DU,PS (by decide) om (Classical.not_not.1 h3) (by unfold hasB;rw [if_neg (by decide),decide_eq_false om];rfl)];exact⟨rfl,ab,aq.at b⟩
 refine J6 ?_;refine af.aj rfl (fun h5=>?_) (fun h5=>?_)
 ·refine J5 ?_;refine LM.st Tryz.sizeOf3 rfl rfl rfl eA rfl (fun _=>rfl) ?_;refine J9 ?_;refine qL Tryz.results81 rfl fun w' aq ab aI=>?_
  unfold dq;rw [DU,PS (by decide) om (Classical.not_not.1 h3) (by unfold hasB;rw [if_neg (by decide),decide_eq_true om,decide_eq_false om];rfl)];exact⟨rfl,ab,aq.at b⟩
 refine dB ?_;refine LM.st Tryz.sizeOf3 rfl rfl rfl eA rfl (fun _=>rfl) ?_;refine J9 ?_;refine qL Tryz.results81 rfl fun w' aq ab aI=>?_
 unfold dq;rw [DU,W9 (by decide) om (Classical.not_not.1 h3) (by unfold hasB;rw [if_neg (by decide),decide_eq_true om,decide_eq_true om];rfl)];exact⟨rfl,ab,by have:=aq.at b;rw [DU] at this;exact this⟩
theorem pG {ws:List bC} (b:Nat) {ad:Option Addr} {n cap:Nat} (i:Nat) (e k gA:Int) (w:World) (hM:Mem w [qB b ad n cap i e]):aJ Tryz.prog 84 #[.pointer (some ⟨b,0,none⟩),.int .i64 k,.int .i64 gA] w (RP b (.bool (decide (e≠0)||decide (gA≤k))) (qO ad n cap i (if e=0∧gA≤k then 6 else e)) w):=by
 refine aJ.au Tryz.func84 rfl Tryz.ntmps84 rfl ([qB b ad n cap i e]) ((fun x=>x=b)) hM ?_;refine lg ?_;refine LM.ar (t:=12) rfl (fun h1=>?_) (fun h1=>?_)
 ·refine J6 ?_;refine af.aj rfl (fun h2=>?_) (fun h2=>?_)
  ·refine J4 ?_;refine LM.st Tryz.sizeOf3 rfl rfl rfl eA rfl (fun _=>rfl) ?_;refine gw ?_;refine qL Tryz.results84 rfl fun w' aq ab aI=>?_;refine ⟨?_,ab,?_⟩;(rw [decide_eq_true (show gA≤k from h2),Bool.or_true];rfl);(rw [if_pos ⟨h1,h2⟩];exact aq.at b)
  refine gw ?_;refine qL Tryz.results84 rfl fun w' aq ab aI=>?_;refine ⟨?_,ab,?_⟩;(rw [decide_eq_false (show¬gA≤k from h2),Bool.or_false];rfl);(rw [if_neg (fun q=>h2 q.2)];exact aq.at b)
 refine US ?_;refine qL Tryz.results84 rfl fun w' aq ab aI=>?_;refine ⟨?_,ab,?_⟩;(rw [decide_eq_true (show e≠0 from h1)];rfl);(rw [if_neg (fun q=>h1 q.1)];exact aq.at b)
set_option maxHeartbeats 1000000 in
theorem Bu {ws:List bC} (b:Nat) {ad:Option Addr} {n cap:Nat} (i:Nat) (e:Int) (w:World) (hn:n=ws.length) (hx:ws.length≤1000000000) (hl:Sr fW 4 ws (.slice ad n cap) w) (jR:0<ws.length→iM ad≠b) (hM:Mem w [qB b ad n cap i e]):aJ Tryz.prog 85 #[.pointer (some ⟨b,0,none⟩),.bool true] w (RP b (.agg (fL (jN ws true i e).2.2).toArray) (qO ad n cap (jN ws true i e).1 (jN ws true i e).2.1) w):=by
 refine aJ.au Tryz.func85 rfl Tryz.ntmps85 rfl ([qB b ad n cap i e]) ((fun x=>x=b)) hM ?_;refine J2 ?_;refine LM.alloc Tryz.zeroValue83 rfl (fun b4 CO=>?_);refine J5 ?_;refine LM.val (aD (cs:=#[_,_,_,_,_]) rfl (by first|rfl|kernel_rfl)) ?_;refine LM.alloc Tryz.zeroValue83 rfl (fun b5 KU=>?_);refine LM.dC Tryz.sizeOf83 rfl rfl rfl rfl dF (fun bB=>by first|exact rfl|exact absurd bB om) ?_;refine J5 ?_;refine LM.cW (oC Tryz.func81) (fun w hm hc hg=>df b i e 16 pZ w hn hx (hl.kp hc jR) jR (sm hm)) rfl (fun bB=>by first|exact rfl|exact absurd bB om) ?_;refine J1 ?_;refine LM.st Tryz.sizeOf3 rfl rfl rfl eA rfl (fun bB=>by first|exact rfl|exact absurd bB om) ?_;refine J5 ?_;refine LM.cW (oC Tryz.func81) (fun w hm hc hg=>df b (CD ws i e).1 (CD ws i e).2.1 32 vj w hn hx (hl.kp hc jR) jR (sm hm)) rfl (fun bB=>by first|exact rfl|exact absurd bB om) ?_;refine J1 ?_;refine LM.st Tryz.sizeOf3 rfl rfl rfl eA rfl (fun bB=>by first|exact rfl|exact absurd bB om) ?_;refine J8 ?_;refine af.aW rfl (fun h1=>?_) (fun h1=>?_)
 ·refine J3 ?_;refine LM.cW (oC Tryz.func81) (fun w hm hc hg=>df b (H7 ws i e).1 (H7 ws i e).2.1 16 EB w hn hx (hl.kp hc jR) jR (sm hm)) rfl (fun bB=>by first|exact rfl|exact absurd bB om) ?_;refine J1 ?_;refine LM.st Tryz.sizeOf3 rfl rfl rfl eA rfl (fun bB=>by first|exact rfl|exact absurd bB om) ?_;refine J4 ?_;refine LM.cW (oC Tryz.func81) (fun w hm hc hg=>df b (Gj ws true i e).1 (Gj ws true i e).2.1 16 x8 w hn hx (hl.kp hc jR) jR (sm hm)) rfl (fun bB=>by first|exact rfl|exact absurd bB om) ?_;refine J1 ?_;refine LM.st Tryz.sizeOf3 rfl rfl rfl eA rfl (fun bB=>by first|exact rfl|exact absurd bB om) ?_;refine J5 ?_;refine LM.cW (oC Tryz.func82) (fun w hm hc hg=>fx b (HV ws true i e).1 (HV ws true i e).2.1 3 [59] w hn hx (hl.kp hc jR) jR (sm hm)) rfl (fun bB=>by first|exact rfl|exact absurd bB om) ?_;refine J4 ?_;refine LM.rd (bo Tryz.isAgg83 Tryz.sizeOf83 rfl rfl) ?_;refine LM.dC Tryz.sizeOf83 rfl rfl rfl rfl dF (fun bB=>by first|exact rfl|exact absurd bB om) ?_;refine J3 ?_;refine QM.aV (ds:=([])) (.inl rfl) [.cell 4 83] Tryz.results85 bj (cM rfl Tryz.isAgg83 Tryz.sizeOf83 rfl bn) ?_;intro w' aq ab;exact⟨rfl,ab,aq.at b⟩
 cases h1
set_option maxHeartbeats 1000000 in
theorem Cb {ws:List bC} (b:Nat) {ad:Option Addr} {n cap:Nat} (i:Nat) (e:Int) (w:World) (hn:n=ws.length) (hx:ws.length≤1000000000) (hl:Sr fW 4 ws (.slice ad n cap) w) (jR:0<ws.length→iM ad≠b) (hM:Mem w [qB b ad n cap i e]):aJ Tryz.prog 85 #[.pointer (some ⟨b,0,none⟩),.bool false] w (RP b (.agg (fL (jN ws false i e).2.2).toArray) (qO ad n cap (jN ws false i e).1 (jN ws false i e).2.1) w):=by
 refine aJ.au Tryz.func85 rfl Tryz.ntmps85 rfl ([qB b ad n cap i e]) ((fun x=>x=b)) hM ?_;refine J2 ?_;refine LM.alloc Tryz.zeroValue83 rfl (fun b4 CO=>?_);refine J5 ?_;refine LM.val (aD (cs:=#[_,_,_,_,_]) rfl (by first|rfl|kernel_rfl)) ?_;refine LM.alloc Tryz.zeroValue83 rfl (fun b5 KU=>?_);refine LM.dC Tryz.sizeOf83 rfl rfl rfl rfl dF (fun bB=>by first|exact rfl|exact absurd bB om) ?_;refine J5 ?_;refine LM.cW (oC Tryz.func81) (fun w hm hc hg=>df b i e 16 pZ w hn hx (hl.kp hc jR) jR (sm hm)) rfl (fun bB=>by first|exact rfl|exact absurd bB om) ?_;refine J1 ?_;refine LM.st Tryz.sizeOf3 rfl rfl rfl eA rfl (fun bB=>by first|exact rfl|exact absurd bB om) ?_;refine J5 ?_;refine LM.cW (oC Tryz.func81) (fun w hm hc hg=>df b (CD ws i e).1 (CD ws i e).2.1 32 vj w hn hx (hl.kp hc jR) jR (sm hm)) rfl (fun bB=>by first|exact rfl|exact absurd bB om) ?_;refine J1 ?_;refine LM.st Tryz.sizeOf3 rfl rfl rfl eA rfl (fun bB=>by first|exact rfl|exact absurd bB om) ?_;refine J8 ?_;refine af.aW rfl (fun h1=>?_) (fun h1=>?_)
 ·cases h1
 refine J5 ?_;refine LM.cW (oC Tryz.func82) (fun w hm hc hg=>fx b (HV ws false i e).1 (HV ws false i e).2.1 3 [59] w hn hx (hl.kp hc jR) jR (sm hm)) rfl (fun bB=>by first|exact rfl|exact absurd bB om) ?_;refine J4 ?_;refine LM.rd (bo Tryz.isAgg83 Tryz.sizeOf83 rfl rfl) ?_;refine LM.dC Tryz.sizeOf83 rfl rfl rfl rfl dF (fun bB=>by first|exact rfl|exact absurd bB om) ?_;refine J3 ?_;refine QM.aV (ds:=([])) (.inl rfl) [.cell 4 83] Tryz.results85 bj (cM rfl Tryz.isAgg83 Tryz.sizeOf83 rfl bn) ?_;intro w' aq ab;exact⟨rfl,ab,aq.at b⟩
theorem D7 {ws:List bC} (sh:Bool) (b:Nat) {ad:Option Addr} {n cap:Nat} (i:Nat) (e:Int) (w:World) (hn:n=ws.length) (hx:ws.length≤1000000000) (hl:Sr fW 4 ws (.slice ad n cap) w) (jR:0<ws.length→iM ad≠b) (hM:Mem w [qB b ad n cap i e]):
    aJ Tryz.prog 85 #[.pointer (some ⟨b,0,none⟩),.bool sh] w (RP b (.agg (fL (jN ws sh i e).2.2).toArray) (qO ad n cap (jN ws sh i e).1 (jN ws sh i e).2.1) w):=by
  cases sh
  · exact Cb b i e w hn hx hl jR hM
  · exact Bu b i e w hn hx hl jR hM
end Go.Eng
