/- The walks of the document's cores. No condition. -/
import Derived.Test.YtdimfmnimobmfaaGreatK2
import Derived.Test.YtdimfmnimobmfaaGreatK3
import Derived.Test.YtdimfmnimobmfaaGreatRows
set_option linter.unusedVariables false
set_option linter.unusedSimpArgs false
set_option maxRecDepth 100000
set_option maxHeartbeats 4000000
attribute [local irreducible] Go.Eng.LM Go.Eng.LD Go.Eng.KD Go.Eng.af Go.Eng.QM
namespace Go.Eng
open Go Go.Proofs Go.RowKit
theorem Io:QKd iA:=⟨iA.ge,iA.bE,iA.mono⟩
abbrev gO (b:Nat) (ad:Option Addr) (n cap:Nat):Nat×Obj:=(b,.cells #[.slice ad n cap] 120 (0,0))
def RcM (n0 b:Nat) (qs:List Qm) (m:ab):Prop:=su qs∧∃(ad:Option Addr) (n cap:Nat) (ms mm:ab) (bs:List Nat),
  m=gO b ad n cap::(ms++mm)∧n=qs.length∧Sl fP 122 1 n0 bs (.slice ad n cap) ms∧km iA n0 bs qs mm∧n0≤b
theorem RcM.ge {n0 b:Nat} {qs:List Qm} {m:ab} (h:RcM n0 b qs m):∀p∈m,n0≤p.1:=by
  obtain ⟨hw,ad,n,cap,ms,mm,bs,rfl,hn,hs,hq,hb⟩:=h;intro p hp;simp only [List.mem_cons,List.mem_append] at hp;rcases hp with rfl|hp|hp
  · exact hb
  · exact hs.ge p hp
  · exact hq.ge Io p hp
theorem RcM.bE {n0 b:Nat} {qs:List Qm} {m:ab} (h:RcM n0 b qs m):∀p∈m,bE p.2=false:=by
  obtain ⟨hw,ad,n,cap,ms,mm,bs,rfl,hn,hs,hq,hb⟩:=h;intro p hp;simp only [List.mem_cons,List.mem_append] at hp;rcases hp with rfl|hp|hp
  · rfl
  · exact hs.bE p hp
  · exact hq.bE Io p hp
theorem RcM.mono {n0 n1 b:Nat} {qs:List Qm} {m:ab} (h:RcM n0 b qs m) (O5:n1≤n0):RcM n1 b qs m:=by
  obtain ⟨hw,ad,n,cap,ms,mm,bs,rfl,hn,hs,hq,hb⟩:=h;exact⟨hw,ad,n,cap,ms,mm,bs,rfl,hn,hs.mono O5,hq.mono Io O5,Nat.le_trans O5 hb⟩
def Uh (k g:Int) (n0:Nat) (v:Value) (m:ab):Prop:=∃b,v= .pointer (some ⟨b,0,none⟩)∧RcM n0 b (fG k g) m
theorem Uh.mono {k g:Int} :∀(n n':Nat) (v:Value) (m:ab),n'≤n→Uh k g n v m→Uh k g n' v m:=fun n n' v m hn ⟨b,h1,h⟩=>⟨b,h1,h.mono hn⟩
theorem z9 {a:Nat×Obj} {ms mm:ab} :∀p∈mm,eO (a::(ms++mm)) p.1:=fun p hp=>⟨p,List.mem_cons_of_mem _ (List.mem_append_right _ hp),rfl⟩
theorem dI {n0 b n cap:Nat} {ad:Option Addr} {ms mm mm' M:ab} {bs:List Nat} {qs':List Qm} {u0:Value} {w w':World} (QY:su qs') (hn:n=qs'.length) (hs:Sl fP 122 1 n0 bs (.slice ad n cap) ms) (G8:km iA n0 bs qs' mm') (hb:n0≤b)
    (hm:Mem w' M) (mM:aV M (gO b ad n cap::(ms++(mm'++ [])))) (hc:cM (eO (gO b ad n cap::(ms++mm))) w w') (gI:de mm w.heap.size mm'):
    ec (gO b ad n cap::(ms++mm)) (fun u m'=>u=u0∧RcM n0 b qs' m') w u0 w':=by
  rw [List.append_nil] at mM;refine ⟨hc,_,⟨rfl,QY,ad,n,cap,ms,mm',bs,rfl,hn,hs,G8,hb⟩,mM.mem w' hm,fun p hp=>?_⟩;simp only [List.mem_cons,List.mem_append] at hp;rcases hp with rfl|hp|hp
  · exact .inr ⟨_,by simp only [List.mem_cons,true_or],rfl⟩
  · exact .inr ⟨p,by simp only [List.mem_cons,List.mem_append,hp,true_or,or_true],rfl⟩
  · rcases gI p hp with q|⟨q,hq,e⟩
    · exact .inl q
    · exact .inr ⟨q,by simp only [List.mem_cons,List.mem_append,hq,or_true],e⟩
theorem Mz {k g:Int} {b n cap:Nat} {ad:Option Addr} {ms mm M:ab} {bs:List Nat} {w w':World} (hn:n=(fG k g).length) (hs:Sl fP 122 1 w.heap.size bs (.slice ad n cap) ms) (hq:km iA w.heap.size bs (fG k g) mm) (hb:w.heap.size≤b)
    (hm:Mem w' M) (mM:aV M (gO b ad n cap::(ms++(mm++ [])))) (hc:Ext w w'):Ext w w'∧∃m,Uh k g w.heap.size (.pointer (some ⟨b,0,none⟩)) m∧Mem w' m∧∀p∈m,w.heap.size≤p.1:=by
  rw [List.append_nil] at mM;have h:RcM w.heap.size b (fG k g) (gO b ad n cap::(ms++mm)):=⟨BW k g,ad,n,cap,ms,mm,bs,rfl,hn,hs,hq,hb⟩
  exact⟨hc,_,⟨b,rfl,h⟩,mM.mem w' hm,h.ge⟩
theorem km.CH {n0:Nat} {bs:List Nat} {qs:List Qm} {mm:ab} (h:km iA n0 bs qs mm) {i:Nat} (hi:i<qs.length):∃(ad:Option Addr) (n cap:Nat) (sB:ab),n=(qg qs i).l.length∧mT (qg qs i)∧Sl x7 137 3 n0 (qg qs i).l (.slice ad n cap) sB∧∀w,Mem w mm→Mem w (eb (bs.getD i default) (qg qs i).g (qg qs i).fl ad n cap (qg qs i).cur (qg qs i).c4::sB):=by
  obtain ⟨M,rfl,h1,h2,h3⟩:=h;have hi2:i<M.length:=by omega
  obtain ⟨hw,ad,n,cap,sB,e,hn,hs,hb⟩:=h3 i hi;exact⟨ad,n,cap,sB,hn,hw,hs,fun w hm=>by rw [←e];exact E3 hi2 hm⟩
theorem BA {qs:List Qm} {i:Nat} (h:i<qs.length):((eZ (qs.take i):Nat):Int)+((qg qs i).l.length:Nat)=((eZ (qs.take (i+1)):Nat):Int):=by
  rw [bR default h]
  unfold eZ qg
  rw [List.map_append,List.sum_append]
  show _+_=((_+((qs.getD i default).l.length+0):Nat):Int)
  omega
theorem Vl (qs:List Qm) (i:Nat):eZ (qs.take i)≤eZ qs:=by
  have e:eZ qs=eZ (qs.take i)+eZ (qs.drop i):=by
    unfold eZ;rw [←List.sum_append,←List.map_append,List.take_append_drop]
  omega
theorem T3 {l:List Kv} {a:Int} (h:0≤UL l a):ej l a<l.length:=Classical.byContradiction fun q=>by rw [DJ q] at h;omega
theorem SE {l:List Kv} {a:Int} (h:¬0≤UL l a):¬ej l a<l.length:=fun q=>by rw [jr q] at h;omega
theorem vz (k g:Int) (w:World):aD Tryz.prog 22 #[.int .i64 k,.int .i64 g] w (fun v w'=>Ext w w'∧∃m,Uh k g w.heap.size v m∧Mem w' m∧∀p∈m,w.heap.size≤p.1):=by
 have Zk:=ek (n:=k) (lo:=1) (hi:=4) (by decide);have xz:=eN k g;refine aD.ao Tryz.func22 rfl Tryz.ntmps22 rfl ([]) (no) (Mem.nil w) ?_;refine J7 ?_;refine LM.val (aC (cs:=#[_]) rfl (by first|rfl|kernel_rfl)) ?_;refine LM.box rfl rfl (fun b8 O9=>?_);refine cj ?_;refine af.aP (α:=Nat×Option Addr×Nat×Nat×List Nat×ab×ab) (fun ⟨i,fp,no,cH,bs,ms,mm⟩=>[(6,.int .i64 (i:Nat))]) [(0,_),(1,_),(5,_)] (fun ⟨i,fp,no,cH,bs,ms,mm⟩=>gO b8 fp no cH::(ms++(mm++ []))) (fun ⟨i,fp,no,cH,bs,ms,mm⟩=>i≤(aF k 1 4).toNat∧no=i∧Sl fP 122 1 w.heap.size bs (.slice fp no cH) ms∧km iA w.heap.size bs (List.replicate i (vA g)) mm∧bs.length=i) (fun ⟨i,fp,no,cH,bs,ms,mm⟩=>(aF k 1 4).toNat-i) ((0,none,0,0,[],[],[])) cF aN ⟨Nat.zero_le _,rfl,.nil _ _ _ _,km.nil,rfl⟩ ?_;rintro ⟨i,fp,no,cH,bs,ms,mm⟩ ⟨hi,gZ,hs,hq,tU⟩;change af _ _ _ _ _ _ _ (gO b8 fp no cH::(ms++(mm++ []))) _ _ _;refine J5 ?_;refine cE Tryz.func50 rfl (fun w hm hc hg=>bQ _ 1 4 w) ?_;refine J3 ?_;refine af.ak rfl (fun h1=>?_) (fun h1=>?_)
 ·refine J4 ?_;refine af.keep (gO b8 fp no cH:: []) (fun _=>True) (.one 0 0 (.one 1 0 (.one 2 0 (.one 3 0 (.one 4 1 (.one 5 0 (.one 6 2 (.one 7 2 (.one 8 2 (.one 9 0 (.one 10 0 (.last 11)))))))))))) kr kr aN (fun _ _=>trivial) ?_;refine J7 ?_;refine LM.fm (oC Tryz.func51) RfN.mono (fun w hm hc hg=>DW g w) ?_;rintro u21 NN ⟨bq,rfl,xv⟩ ai6;refine J3 ?_;refine LM.single Tryz.underlying118 Tryz.sizeOf122 Tryz.zeroValue122 rfl rfl rfl rfl rfl (fun b22 WV=>?_);refine J3 ?_;refine LM.app (a:=bq) Tryz.underlying118 Tryz.typeInfo122 rfl rfl rfl rfl rfl rfl rfl aB (by rfl) ir (by intro _ u hu;simp [fP] at hu;(repeat (first|(rcases hu with rfl|hu)|subst hu|rfl))) (by first|exact Nat.le_refl _|omega) pH (by first|omega|(unfold maxLen;omega)) (by simp only [Tryz.t122];omega) (fun aah n23 Rf m23 aku acV Re=>?_);refine J4 ?_;refine KD.last rfl ?_;refine LM.st Tryz.sizeOf118 rfl rfl rfl dW rfl sC ?_;refine LM.mem (aV.mem (M':=gO b8 aah n23 Rf::(m23++((mm++NN)++ []))) aN) ?_;refine J1 ?_;refine QM.qn ?_;refine J7 ?_;refine aK (i+1,aah,n23,Rf,bs++ [bq],m23,mm++NN) ?_ ?_
  · exact⟨by omega,by omega,acV,(by rw [←Lh];exact hq.snoc xv),by simp [tU]⟩
  · (dsimp only;omega)
 refine cN ?_;refine qL Tryz.results22 rfl fun w' aj aa az=>?_;have hik:no=(fG k g).length:=om;exact Mz hik hs (by rw [fG,←eN k g,←hik,gZ];exact hq) O9 aj (by(repeat' (first|exact aV.nil _|refine aV.cons (by rfl) ?_|refine aV.app ?_))) aa
theorem k6 {n0 b:Nat} {qs:List Qm} {m:ab} (a:Int) (w:World) (h:RcM n0 b qs m) (hM:Mem w m):aD Tryz.prog 68 #[.pointer (some ⟨b,0,none⟩),.int .i64 a] w (fun u w'=>u= .int .i64 (Pm qs a)∧Ext w w'):=by
 obtain ⟨hw,ad,n,cap,ms,mm,bs,rfl,hn,hs,hq,hb⟩:=h;have tU:=hq.len;have hlen:=hw.len;refine aD.ao Tryz.func68 rfl Tryz.ntmps68 rfl (gO b ad n cap::(ms++(mm++ []))) (no) aM ?_;refine cN ?_;refine af.aP (α:=Nat) (fun i=>[(5,.int .i64 (i:Nat))]) [(0,_),(1,_)] (fun i=>gO b ad n cap::(ms++(mm++ []))) (fun i=>i≤qs.length∧∀j,j<i→¬cA (qg qs j) a) (fun i=>qs.length-i) (0) cF aN ⟨Nat.zero_le _,fun j hj=>by omega⟩ ?_;rintro i ⟨hi,gZ⟩;change af _ _ _ _ _ _ _ (gO b ad n cap::(ms++(mm++ []))) _ _ _;refine cN ?_;refine af.ak rfl (fun h1=>?_) (fun h1=>?_)
 ·refine cN ?_;refine LM.rd (bd aB ir Tryz.isAgg122 rfl rfl cJ (by rfl)) ?_;refine J1 ?_;refine cE Tryz.func93 rfl (fun w hm hc hg=>hq.read om (hm.pick mm) (fun m hr hM=>gj a w hr hM)) ?_;refine J3 ?_;refine af.ak rfl (fun h2=>?_) (fun h2=>?_)
  ·refine cN ?_;refine qL Tryz.results68 rfl fun w' aj aa az=>?_;have mL:=hw.at (i:=i) om (T3 h2);refine ⟨?_,aa⟩;rw [rI om,mL];rfl
  refine J8 ?_;refine aK (i+1) ?_ ?_
  · exact⟨by omega,fun j hj=>by rcases Nat.lt_or_ge j i with q|q;exact gZ j q;rw [show j=i by omega];exact SE h2⟩
  · omega
 refine c9 ?_;refine qL Tryz.results68 rfl fun w' aj aa az=>?_;refine ⟨?_,aa⟩;rw [Sz (F9 (fun j hj=>gZ j om))];rfl
theorem DQ {n0 b:Nat} {qs:List Qm} {m:ab} (w:World) (h:RcM n0 b qs m) (hM:Mem w m):aD Tryz.prog 106 #[.pointer (some ⟨b,0,none⟩)] w (fun u w'=>u= .int .i64 (eZ qs:Nat)∧Ext w w'):=by
 obtain ⟨hw,ad,n,cap,ms,mm,bs,rfl,hn,hs,hq,hb⟩:=h;have tU:=hq.len;have hlen:=hw.len;have uy:=hw.all;refine aD.ao Tryz.func106 rfl Tryz.ntmps106 rfl (gO b ad n cap::(ms++(mm++ []))) (no) aM ?_;refine yi ?_;refine af.aP (α:=Nat) (fun i=>[(3,.int .i64 (eZ (qs.take i):Nat)),(4,.int .i64 (i:Nat))]) [(0,_)] (fun i=>gO b ad n cap::(ms++(mm++ []))) (fun i=>i≤qs.length) (fun i=>qs.length-i) (0) ⟨(by first|rfl|exact lk rfl (congrArg (Value.int .i64) (BA om))),kO,rfl,trivial⟩ aN (Nat.zero_le _) ?_;rintro i hi;change af _ _ _ _ _ _ _ (gO b ad n cap::(ms++(mm++ []))) _ _ _;have IU:=Vl qs i;refine cN ?_;refine af.ak rfl (fun h1=>?_) (fun h1=>?_)
 ·obtain ⟨nu,nq,jV,sB,Cd,hwq,Co,EM⟩:=hq.CH (i:=i) om;subst Cd;have akL:=DL (qs:=qs) (i:=i) om;refine cN ?_;refine LM.rd (bd aB ir Tryz.isAgg122 rfl rfl cJ (by rfl)) ?_;refine J2 ?_;refine LM.eh (fun w hm hc hg=>gw (M:=eb (bs.getD i default) (qg qs i).g (qg qs i).fl nu (qg qs i).l.length jV (qg qs i).cur (qg qs i).c4::sB) Tryz.isAgg128 rfl rfl w (EM w (hm.pick mm))) ?_;refine c9 ?_;refine QM.dq (i+1) ⟨(by first|rfl|exact lk rfl (congrArg (Value.int .i64) (BA om))),kO,rfl,trivial⟩ aN (fun _ h=>h) ?_ ?_
  · omega
  · omega
 refine cN ?_;refine qL Tryz.results106 rfl fun w' aj aa az=>?_;have er:i=qs.length:=om;subst er;refine ⟨?_,aa⟩;show Value.int .i64 ((eZ (qs.take qs.length):Nat):Int)=_;rw [List.take_length]
theorem wQ {n0 b:Nat} {qs:List Qm} {m:ab} (core a:Int) (v:BitVec 64) (wt:Int) (w:World) (h:RcM n0 b qs m) (cm:n0≤w.heap.size) (hM:Mem w m):aD Tryz.prog 66 #[.pointer (some ⟨b,0,none⟩),.int .i64 core,.int .i64 a,U v,.int .i64 wt] w (ec m (fun u m'=>u= .tuple #[U (xt qs core a v wt),.int .i64 (iP qs core a)]∧RcM n0 b (dS qs core a v wt) m') w):=by
 have hC:=h;obtain ⟨hw,ad,n,cap,ms,mm,bs,rfl,hn,hs,hq,hb⟩:=h;have tU:=hq.len;refine aD.ao Tryz.func66 rfl Tryz.ntmps66 rfl (gO b ad n cap::(ms++(mm++ []))) ((eO (gO b ad n cap::(ms++mm)))) aM ?_;refine cN ?_;refine LM.aq (t:=14) rfl (fun h1=>?_) (fun h1=>?_)
 ·refine Wo ?_;refine QM.leave (.inl rfl) [.tmp 10,.tmp 11] Tryz.results66 rfl ?_;intro w' aj aa az;have hE:iP qs core a=1:=if_pos om;rw [show xt qs core a v wt=0#64 from if_neg (by rw [hE];decide),hE,show dS qs core a v wt=qs from if_neg (by rw [hE];decide)];exact dI hw hn hs hq hb aj (by(repeat' (first|exact aV.nil _|refine aV.cons (by rfl) ?_|refine aV.app ?_))) aa (ay _ _)
 refine cj ?_;refine LM.aq (t:=23) rfl (fun h2=>?_) (fun h2=>?_)
 ·refine kk ?_;refine QM.leave (.inl rfl) [.tmp 10,.tmp 11] Tryz.results66 rfl ?_;intro w' aj aa az;have hE:iP qs core a=1:=if_pos om;rw [show xt qs core a v wt=0#64 from if_neg (by rw [hE];decide),hE,show dS qs core a v wt=qs from if_neg (by rw [hE];decide)];exact dI hw hn hs hq hb aj (by(repeat' (first|exact aV.nil _|refine aV.cons (by rfl) ?_|refine aV.app ?_))) aa (ay _ _)
 obtain ⟨i,rfl⟩:∃i:Nat,core=i:=⟨core.toNat,by omega⟩;have hi:i<qs.length:=om;have am5:¬((i:Int)<0∨(qs.length:Int)≤i):=by omega
 refine J5 ?_;refine af.ak rfl (fun h3=>?_) (fun h3=>?_)
 ·refine J8 ?_;refine QM.leave (.inl rfl) [.tmp 10,.tmp 11] Tryz.results66 rfl ?_;intro w' aj aa az;have hE:iP qs i a=1:=if_pos om;rw [show xt qs i a v wt=0#64 from if_neg (by rw [hE];decide),hE,show dS qs i a v wt=qs from if_neg (by rw [hE];decide)];exact dI hw hn hs hq hb aj (by(repeat' (first|exact aV.nil _|refine aV.cons (by rfl) ?_|refine aV.app ?_))) aa (ay _ _)
 refine J7 ?_;refine cE Tryz.func68 rfl (fun w hm hc hg=>k6 a w hC (by have h9:=hm.pick (gO b ad n cap::(ms++(mm++ [])));rw [List.append_nil] at h9;exact h9)) ?_;refine J3 ?_;refine af.ak rfl (fun h4=>?_) (fun h4=>?_)
 ·have mL:bS qs a<qs.length:=(by unfold Pm at h4;split at h4<;>omega);have hE:iP qs i a=12:=(by unfold iP;rw [if_neg om,if_pos mL])
  refine J8 ?_;refine QM.leave (.inl rfl) [.tmp 10,.tmp 11] Tryz.results66 rfl ?_;intro w' aj aa az;rw [show xt qs i a v wt=0#64 from if_neg (by rw [hE];decide),hE,show dS qs i a v wt=qs from if_neg (by rw [hE];decide)];exact dI hw hn hs hq hb aj (by(repeat' (first|exact aV.nil _|refine aV.cons (by rfl) ?_|refine aV.app ?_))) aa (ay _ _)
 have mL:¬bS qs a<qs.length:=(by unfold Pm at h4;split at h4<;>omega)
 refine J6 ?_;refine cE Tryz.func106 rfl (fun w hm hc hg=>DQ w hC (by have h9:=hm.pick (gO b ad n cap::(ms++(mm++ [])));rw [List.append_nil] at h9;exact h9)) ?_;refine J3 ?_;refine af.ak rfl (fun h5=>?_) (fun h5=>?_)
 ·have hE:iP qs i a=3:=(by unfold iP;rw [if_neg om,if_neg mL,if_pos om])
  refine J8 ?_;refine QM.leave (.inl rfl) [.tmp 10,.tmp 11] Tryz.results66 rfl ?_;intro w' aj aa az;rw [show xt qs i a v wt=0#64 from if_neg (by rw [hE];decide),hE,show dS qs i a v wt=qs from if_neg (by rw [hE];decide)];exact dI hw hn hs hq hb aj (by(repeat' (first|exact aV.nil _|refine aV.cons (by rfl) ?_|refine aV.app ?_))) aa (ay _ _)
 have hE:iP qs i a=0:=(by unfold iP;rw [if_neg om,if_neg mL,if_neg om]);have RQ:=Fe hw hi om mL om;obtain ⟨qq,js⟩:=Rc RQ v wt;refine cj ?_;refine LM.rd (bd aB ir Tryz.isAgg122 rfl rfl cJ (by rfl)) ?_;refine J3 ?_;refine cU Tryz.func105 rfl (fun w hm hc hg=>hq.Bp Io hi (hm.pick mm) (fun m hr hM=>v7 a v wt w hr (Nat.le_trans cm hc.size) hM)) (hq.bE Io) (fun p hp _=>z9 p hp) ?_;rintro u44 m44 ⟨rfl,Xd⟩ aan;rw [qq] at Xd;rw [js,RQ];refine J7 ?_;refine QM.leave (.inl rfl) [.tmp 10,.tmp 11] Tryz.results66 rfl ?_;intro w' aj aa az;rw [show xt qs i a v wt=tc (qg qs i) v (aF wt 1 4096) from if_pos hE,hE,show dS qs i a v wt=qs.set i (rO (qg qs i) a v wt) from if_pos hE];exact dI (yS hw hi om mL om v wt) (by rw [List.length_set];exact hn) hs Xd hb aj (by(repeat' (first|exact aV.nil _|refine aV.cons (by rfl) ?_|refine aV.app ?_))) aa aan
theorem ly {qs:List Qm} {i:Nat} (h2:ez (qg qs (jc qs i)).l<ez (qg qs i).l):((i:Nat):Int)=((jc qs (i+1):Nat):Int):=by rw [yE,if_pos h2]
theorem k4 {qs:List Qm} {i:Nat} (h2:¬ez (qg qs (jc qs i)).l<ez (qg qs i).l):((jc qs i:Nat):Int)=((jc qs (i+1):Nat):Int):=by rw [yE,if_neg h2]
theorem jH {qs:List Qm} {i:Nat} (h2:ez (qg qs i).l<ez (qg qs (fD qs i)).l):((i:Nat):Int)=((fD qs (i+1):Nat):Int):=by rw [wN,if_pos h2]
theorem jM {qs:List Qm} {i:Nat} (h2:¬ez (qg qs i).l<ez (qg qs (fD qs i)).l):((fD qs i:Nat):Int)=((fD qs (i+1):Nat):Int):=by rw [wN,if_neg h2]
theorem Ew {n0 b:Nat} {qs:List Qm} {m:ab} (a:Int) (w:World) (h:RcM n0 b qs m) (cm:n0≤w.heap.size) (hM:Mem w m):aD Tryz.prog 110 #[.pointer (some ⟨b,0,none⟩),.int .i64 a] w (ec m (fun u m'=>u= .tuple #[U (wY qs a),.bool (decide (bS qs a<qs.length))]∧RcM n0 b (gS qs a) m') w):=by
 have hC:=h;obtain ⟨hw,ad,n,cap,ms,mm,bs,rfl,hn,hs,hq,hb⟩:=h;have tU:=hq.len;refine aD.ao Tryz.func110 rfl Tryz.ntmps110 rfl (gO b ad n cap::(ms++(mm++ []))) ((eO (gO b ad n cap::(ms++mm)))) aM ?_;refine cj ?_;refine cE Tryz.func68 rfl (fun w hm hc hg=>k6 a w hC (by have h9:=hm.pick (gO b ad n cap::(ms++(mm++ [])));rw [List.append_nil] at h9;exact h9)) ?_;refine cj ?_;refine af.ak rfl (fun h1=>?_) (fun h1=>?_)
 ·have mL:=zb h1;refine J8 ?_;refine QM.leave (.inl rfl) [.tmp 4,.tmp 5] Tryz.results110 rfl ?_;intro w' aj aa az;rw [show wY qs a=0#64 from if_neg mL,decide_eq_false mL,show gS qs a=qs from if_neg mL];exact dI hw hn hs hq hb aj (by(repeat' (first|exact aV.nil _|refine aV.cons (by rfl) ?_|refine aV.app ?_))) aa (ay _ _)
 have mL:=zQ h1;rw [rI mL];have Zu:Il (qg qs (bS qs a)) a=iN (qg qs (bS qs a)) a:=if_pos (dz mL);refine cj ?_;refine LM.rd (bd aB ir Tryz.isAgg122 rfl rfl cJ (by rfl)) ?_;refine J1 ?_;refine cU Tryz.func104 rfl (fun w hm hc hg=>hq.Bp Io mL (hm.pick mm) (fun m hr hM=>vt a w hr (Nat.le_trans cm hc.size) hM)) (hq.bE Io) (fun p hp _=>z9 p hp) ?_;rintro u20 m20 ⟨rfl,Yg⟩ aaK;rw [Zu] at Yg;rw [decide_eq_true (dz mL)];refine J7 ?_;refine QM.leave (.inl rfl) [.tmp 4,.tmp 5] Tryz.results110 rfl ?_;intro w' aj aa az;rw [show wY qs a=(gQ (qg qs (bS qs a)).l a).V from if_pos mL,decide_eq_true mL,show gS qs a=qs.set (bS qs a) (iN (qg qs (bS qs a)) a) from if_pos mL];exact dI (zk hw mL) (by rw [Dq];exact hn) hs Yg hb aj (by(repeat' (first|exact aV.nil _|refine aV.cons (by rfl) ?_|refine aV.app ?_))) aa aaK
theorem tX {n0 b:Nat} {qs:List Qm} {m:ab} (a:Int) (to:Nat) (w:World) (h:RcM n0 b qs m) (ha:bS qs a<qs.length) (ht:to<qs.length) (fi:to≠bS qs a) (cm:n0≤w.heap.size) (hM:Mem w m):aD Tryz.prog 65 #[.pointer (some ⟨b,0,none⟩),.int .i64 a,.int .i64 (to:Nat)] w (ec m (fun u m'=>u= .tuple #[]∧RcM n0 b (gH qs a to) m') w):=by
 have hC:=h;obtain ⟨hw,ad,n,cap,ms,mm,bs,rfl,hn,hs,hq,hb⟩:=h;have tU:=hq.len;have hE:=aaA hw ha ht fi;have hx:=(hw.wf _ ha).wt _ (eE (dz ha)).1;have Zu:Il (qg qs (bS qs a)) a=iN (qg qs (bS qs a)) a:=if_pos (dz ha);have yz:(eV qs a).length=qs.length:=Dq _ _ _;have WD:=At hw ha ht fi;obtain ⟨qq,js⟩:=Rc hE (Hx qs a to) (gQ (qg qs (bS qs a)).l a).x;obtain ⟨nu,nq,jV,sB,Cd,hwq,Co,EM⟩:=hq.CH (i:=bS qs a) ha;subst Cd;have gk:=dz ha;have D4:ej (qg qs (bS qs a)).l a<(qg qs (bS qs a)).l.length:=gk;refine aD.ao Tryz.func65 rfl Tryz.ntmps65 rfl (gO b ad n cap::(ms++(mm++ []))) ((eO (gO b ad n cap::(ms++mm)))) aM ?_;refine J1 ?_;refine af.draw [(0,0),(1,0),(2,0),(3,1),(4,0),(5,0),(6,2),(7,0),(8,1),(9,0)] kr kr ?_;refine J6 ?_;refine dE rfl rfl Tryz.func68 rfl (fun w hm hc hg=>(by have k:=k6 a w hC (by have h9:=hm.pick (gO b ad n cap::(ms++(mm++ [])));rw [List.append_nil] at h9;exact h9);rw [rI ha] at k;exact k)) ?_;refine J1 ?_;refine LD.rd rfl rfl (bd aB ir Tryz.isAgg122 rfl rfl cJ (by rfl)) ?_;refine J4 ?_;refine af.bC (α:=Nat) (fun b7=>[(7,.pointer (some ⟨b7,0,none⟩))]) [(0,_),(1,_),(2,_),(6,_)] (fun b7=>(b7,.cells (x7 (gQ (qg qs (bS qs a)).l a)).toArray 137 (0,0))::gO b ad n cap::(ms++(mm++ []))) (fun b7=>w.heap.size≤b7) cF ?_ ?_
 ·refine af.keep (gO b ad n cap::(ms++(mm++ []))) (fun _=>True) (.one 0 0 (.one 1 0 (.one 2 0 (.one 3 1 (.one 4 0 (.one 5 0 (.fork 6 (.one 7 0 (.one 8 1 (.one 9 2 (.one 10 2 .nil)))) 9 (.one 6 2 (.one 7 0 (.one 8 1 (.one 10 2 .nil))))))))))) kr kr aN (fun _ _=>trivial) ?_;refine J3 ?_;refine KD.eh rfl rfl (fun w hm hc hg=>gw (M:=eb (bs.getD (bS qs a) default) (qg qs (bS qs a)).g (qg qs (bS qs a)).fl nu (qg qs (bS qs a)).l.length jV (qg qs (bS qs a)).cur (qg qs (bS qs a)).c4::sB) Tryz.isAgg128 rfl rfl w (EM w (hm.pick mm))) ?_;refine J2 ?_;refine KD.fork rfl rfl ?_ ?_
  ·refine cE Tryz.func93 rfl (fun w hm hc hg=>hq.read ha (hm.pick mm) (fun m hr hM=>(by have k:=gj a w hr hM;rw [jr D4] at k;exact k))) ?_;refine J3 ?_;refine KD.eh rfl rfl (fun w hm hc hg=>kK (M:=eb (bs.getD (bS qs a) default) (qg qs (bS qs a)).g (qg qs (bS qs a)).fl nu (qg qs (bS qs a)).l.length jV (qg qs (bS qs a)).cur (qg qs (bS qs a)).c4::sB) Co ir Tryz.isAgg137 Tryz.sizeOf137 rfl (by exact aO default D4) w (EM w (hm.pick mm))) ?_;refine J1 ?_;refine LM.alloc Tryz.zeroValue137 rfl (fun b7 KF=>?_);refine J3 ?_;refine LM.dh Tryz.sizeOf137 rfl rfl rfl rfl df sC ?_;refine J3 ?_;refine mK (b7) ?_
   · assumption
  refine LM.alloc Tryz.zeroValue137 rfl (fun b7 KF=>?_);refine J3 ?_;refine cE Tryz.func93 rfl (fun w hm hc hg=>hq.read ha (hm.pick mm) (fun m hr hM=>(by have k:=gj a w hr hM;rw [jr D4] at k;exact k))) ?_;refine J3 ?_;refine KD.eh rfl rfl (fun w hm hc hg=>kK (M:=eb (bs.getD (bS qs a) default) (qg qs (bS qs a)).g (qg qs (bS qs a)).fl nu (qg qs (bS qs a)).l.length jV (qg qs (bS qs a)).cur (qg qs (bS qs a)).c4::sB) Co ir Tryz.isAgg137 Tryz.sizeOf137 rfl (by exact aO default D4) w (EM w (hm.pick mm))) ?_;refine J1 ?_;refine LM.dh Tryz.sizeOf137 rfl rfl rfl rfl df sC ?_;refine J3 ?_;refine mK (b7) ?_
  · assumption
 rintro b7 KF;change QM _ _ _ _ _ ((b7,.cells (x7 (gQ (qg qs (bS qs a)).l a)).toArray 137 (0,0))::gO b ad n cap::(ms++(mm++ []))) _ _ _;refine J2 ?_;refine af.draw [(0,0),(1,1),(2,0),(3,0),(4,0),(5,1),(6,2),(7,0),(8,0),(9,0),(10,0),(11,0)] kr kr ?_;refine J5 ?_;refine LD.eh rfl rfl (fun w hm hc hg=>gw (M:=eb (bs.getD (bS qs a) default) (qg qs (bS qs a)).g (qg qs (bS qs a)).fl nu (qg qs (bS qs a)).l.length jV (qg qs (bS qs a)).cur (qg qs (bS qs a)).c4::sB) Tryz.isAgg41 rfl rfl w (EM w (hm.pick mm))) ?_;refine dE rfl rfl Tryz.func103 rfl (fun w hm hc hg=>Iw _ _ w) ?_;refine c9 ?_;refine cU Tryz.func104 rfl (fun w hm hc hg=>hq.Bp Io ha (hm.pick mm) (fun m hr hM=>vt a w hr (Nat.le_trans cm hc.size) hM)) (hq.bE Io) (fun p hp _=>z9 p hp) ?_;rintro u42 NV ⟨rfl,DG⟩ qh;rw [Zu] at DG;change km iA n0 bs (eV qs a) NV at DG;obtain ⟨nJ,n2,eP,j5,xP,X8,tF,xy⟩:=DG.CH (i:=to) om;rw [WD] at xP X8 tF xy;refine cj ?_;refine LM.rd (bd aB ir Tryz.isAgg122 rfl rfl cJ (by rfl)) ?_;refine J2 ?_;refine LM.eh (fun w hm hc hg=>gw (M:=eb (bs.getD to default) (qg qs to).g (qg qs to).fl nJ n2 eP (qg qs to).cur (qg qs to).c4::j5) Tryz.isAgg41 rfl rfl w (xy w (hm.pick NV))) ?_;refine J1 ?_;refine cE Tryz.func94 rfl (fun w hm hc hg=>pz _ _ w) ?_;refine J7 ?_;refine af.draw [(0,0),(1,0),(2,0),(3,1),(4,0),(5,0),(6,1),(7,0),(8,0),(9,0),(10,1),(11,3)] kr kr ?_;refine J6 ?_;refine LD.rd rfl rfl (bd aB ir Tryz.isAgg122 rfl rfl cJ (by rfl)) ?_;refine J4 ?_;refine LD.tail rfl rfl ?_;refine cU Tryz.func105 rfl (fun w hm hc hg=>DG.Bp Io (i:=to) om (hm.pick NV) (fun m hr hM=>(show aD _ _ _ _ (ec m (fun u m'=>u= .tuple #[U (Nb (qg qs to) a (Hx qs a to) (gQ (qg qs (bS qs a)).l a).x),.int .i64 (nL (qg qs to) a)]∧iA n0 (bs.getD to default) (Kj (qg qs to) a (Hx qs a to) (gQ (qg qs (bS qs a)).l a).x) m') _) from by have k:=v7 a (Hx qs a to) (gQ (qg qs (bS qs a)).l a).x w hr (Nat.le_trans cm hc.size) hM;rw [WD] at k;exact k))) (DG.bE Io) (aaM qh z9) ?_;rintro u69 m69 ⟨rfl,TC⟩ aaJ;rw [qq] at TC;change km iA n0 bs (gH qs a to) m69 at TC;refine J1 ?_;refine QM.qn ?_;refine QM.leave (.inr rfl) [] Tryz.results65 rfl ?_;intro w' aj aa az;exact dI (S6 hw ha ht fi) (by rw [gH,Dq,yz];exact hn) hs TC hb aj (by(repeat' (first|exact aV.nil _|refine aV.cons (by rfl) ?_|refine aV.app ?_))) aa (ar qh aaJ)
theorem D2 {n0 b:Nat} {qs:List Qm} {m:ab} (a core:Int) (w:World) (h:RcM n0 b qs m) (cm:n0≤w.heap.size) (hM:Mem w m):aD Tryz.prog 34 #[.pointer (some ⟨b,0,none⟩),.int .i64 a,.int .i64 core] w (ec m (fun u m'=>u= .int .i64 (fc qs core a)∧RcM n0 b (jW qs core a) m') w):=by
 have hC:=h;obtain ⟨hw,ad,n,cap,ms,mm,bs,rfl,hn,hs,hq,hb⟩:=h;have tU:=hq.len;refine aD.ao Tryz.func34 rfl Tryz.ntmps34 rfl (gO b ad n cap::(ms++(mm++ []))) ((eO (gO b ad n cap::(ms++mm)))) aM ?_;refine J9 ?_;refine cE Tryz.func68 rfl (fun w hm hc hg=>k6 a w hC (by have h9:=hm.pick (gO b ad n cap::(ms++(mm++ [])));rw [List.append_nil] at h9;exact h9)) ?_;refine cj ?_;refine af.ak rfl (fun h1=>?_) (fun h1=>?_)
 ·have hE:fc qs core a=4:=if_pos (zb h1);refine J7 ?_;refine qL Tryz.results34 rfl fun w' aj aa az=>?_;rw [hE,k7 (by rw [hE];decide)];exact dI hw hn hs hq hb aj (by(repeat' (first|exact aV.nil _|refine aV.cons (by rfl) ?_|refine aV.app ?_))) aa (ay _ _)
 have mL:=zQ h1;have Bg:¬¬bS qs a<qs.length:=fun q=>q mL;rw [rI mL];obtain ⟨nu,nq,jV,sB,Cd,hwq,Co,EM⟩:=hq.CH (i:=bS qs a) mL;refine J8 ?_;refine LM.aq (t:=15) rfl (fun h2=>?_) (fun h2=>?_)
 ·have hE:fc qs core a=1:=(by unfold fc;rw [if_neg Bg,if_pos om])
  refine yx ?_;refine qL Tryz.results34 rfl fun w' aj aa az=>?_;rw [hE,k7 (by rw [hE];decide)];exact dI hw hn hs hq hb aj (by(repeat' (first|exact aV.nil _|refine aV.cons (by rfl) ?_|refine aV.app ?_))) aa (ay _ _)
 refine c9 ?_;refine af.ak rfl (fun h3=>?_) (fun h3=>?_)
 ·have hE:fc qs core a=1:=(by unfold fc;rw [if_neg Bg,if_pos om])
  refine J7 ?_;refine qL Tryz.results34 rfl fun w' aj aa az=>?_;rw [hE,k7 (by rw [hE];decide)];exact dI hw hn hs hq hb aj (by(repeat' (first|exact aV.nil _|refine aV.cons (by rfl) ?_|refine aV.app ?_))) aa (ay _ _)
 obtain ⟨i,rfl⟩:∃i:Nat,core=i:=⟨core.toNat,by omega⟩;have hi:i<qs.length:=om;have th:¬((i:Int)<0∨(qs.length:Int)≤i):=by omega
 refine cj ?_;refine af.ak rfl (fun h4=>?_) (fun h4=>?_)
 ·have hE:fc qs i a=12:=(by unfold fc;rw [if_neg Bg,if_neg th,if_pos (by first|exact h4|omega)])
  refine J7 ?_;refine qL Tryz.results34 rfl fun w' aj aa az=>?_;rw [hE,k7 (by rw [hE];decide)];exact dI hw hn hs hq hb aj (by(repeat' (first|exact aV.nil _|refine aV.cons (by rfl) ?_|refine aV.app ?_))) aa (ay _ _)
 refine c9 ?_;refine LM.rd (bd aB ir Tryz.isAgg122 rfl rfl cJ (by rfl)) ?_;refine J2 ?_;refine LM.eh (fun w hm hc hg=>gw (M:=eb (bs.getD (bS qs a) default) (qg qs (bS qs a)).g (qg qs (bS qs a)).fl nu nq jV (qg qs (bS qs a)).cur (qg qs (bS qs a)).c4::sB) Tryz.isAgg3 rfl rfl w (EM w (hm.pick mm))) ?_;refine J4 ?_;refine af.ak rfl (fun h5=>?_) (fun h5=>?_)
 ·have hE:fc qs i a=8:=(by unfold fc;rw [if_neg Bg,if_neg th,if_neg om,if_pos h5])
  refine J7 ?_;refine qL Tryz.results34 rfl fun w' aj aa az=>?_;rw [hE,k7 (by rw [hE];decide)];exact dI hw hn hs hq hb aj (by(repeat' (first|exact aV.nil _|refine aV.cons (by rfl) ?_|refine aV.app ?_))) aa (ay _ _)
 have hE:fc qs i a=0:=(by unfold fc;rw [if_neg Bg,if_neg th,if_neg om,if_neg h5])
 refine J7 ?_;refine cU Tryz.func65 rfl (fun w hm hc hg=>tX a i w hC mL hi om (Nat.le_trans cm hc.size) (by have h9:=hm.pick (gO b ad n cap::(ms++(mm++ [])));rw [List.append_nil] at h9;exact h9)) hC.bE (fun p hp _=>⟨p,hp,rfl⟩) ?_;rintro u42 NV ⟨rfl,DG⟩ qh;refine J8 ?_;refine qL Tryz.results34 rfl fun w' aj aa az=>?_;rw [hE,show jW qs i a=gH qs a i from if_pos hE];exact aY ⟨rfl,DG⟩ aj (by(repeat' (first|exact aV.nil _|refine aV.cons (by rfl) ?_|refine aV.app ?_))) aa qh
theorem Fc {n0 b:Nat} {qs:List Qm} {m:ab} (w:World) (h:RcM n0 b qs m) (cm:n0≤w.heap.size) (hM:Mem w m):aD Tryz.prog 27 #[.pointer (some ⟨b,0,none⟩)] w (ec m (fun u m'=>u= .tuple #[.int .i64 (ja qs),.int .i64 (Mu qs),.int .i64 (uw qs)]∧RcM n0 b (jY qs) m') w):=by
 have hC:=h;obtain ⟨hw,ad,n,cap,ms,mm,bs,rfl,hn,hs,hq,hb⟩:=h;have tU:=hq.len;have hlen:=hw.len;have Kc:mo qs<qs.length:=u5 hw.len.1 qs.length (Nat.le_refl _);have hle:le qs<qs.length:=rm hw.len.1 qs.length (Nat.le_refl _);have yz:=(hw.wf _ Kc).load;have kN:=(hw.wf _ hle).load;have ag6:=Gj (hw.wf _ Kc).nd;have ah1:=(hw.wf _ Kc).len;refine aD.ao Tryz.func27 rfl Tryz.ntmps27 rfl (gO b ad n cap::(ms++(mm++ []))) ((eO (gO b ad n cap::(ms++mm)))) aM ?_;refine J24 ?_;refine af.aP (α:=Nat) (fun i=>[(5,.int .i64 (jc qs i:Nat)),(6,.int .i64 (fD qs i:Nat)),(7,.int .i64 (i:Nat))]) [(0,_)] (fun i=>gO b ad n cap::(ms++(mm++ []))) (fun i=>i≤qs.length) (fun i=>qs.length-i) (0) ⟨(by first|exact lk rfl (by rw [lp];rfl)|exact lk rfl (congrArg (Value.int .i64) (ly aB))|exact lk rfl (congrArg (Value.int .i64) (k4 aB))|rfl),(by first|exact lk rfl (by rw [jE];rfl)|exact lk rfl (congrArg (Value.int .i64) (jH aB))|exact lk rfl (congrArg (Value.int .i64) (jM aB))|rfl),kO,rfl,trivial⟩ aN (Nat.zero_le _) ?_;rintro i hi;change af _ _ _ _ _ _ _ (gO b ad n cap::(ms++(mm++ []))) _ _ _;have hmi:=u5 hlen.1 i hi;have Nz:=rm hlen.1 i hi;refine cN ?_;refine af.ak rfl (fun h1=>?_) (fun h1=>?_)
 ·refine J6 ?_;refine af.draw [(0,0),(1,0),(2,0),(3,1),(4,0),(5,0),(6,1),(8,0),(9,0),(10,0),(11,1),(12,0),(13,0),(14,1),(7,2),(15,2),(16,0)] kr kr ?_;refine J6 ?_;refine LD.rd rfl rfl (bd aB ir Tryz.isAgg122 rfl rfl cJ (by rfl)) ?_;refine J6 ?_;refine LD.rd rfl rfl (bd aB ir Tryz.isAgg122 rfl rfl cJ (by rfl)) ?_;refine dE rfl rfl Tryz.func63 rfl (fun w hm hc hg=>hq.read (i:=i) om (hm.pick mm) (fun m hr hM=>eB w hr hM)) ?_;refine dE rfl rfl Tryz.func63 rfl (fun w hm hc hg=>hq.read hmi (hm.pick mm) (fun m hr hM=>eB w hr hM)) ?_;refine J3 ?_;refine af.ak rfl (fun h2=>?_) (fun h2=>?_)
  ·refine J6 ?_;refine af.draw [(0,0),(1,0),(2,0),(3,1),(4,0),(5,0),(6,1),(8,0),(9,0),(10,0),(11,1),(12,0),(13,0),(14,1),(7,2),(15,2),(16,0)] kr kr ?_;refine J6 ?_;refine LD.rd rfl rfl (bd aB ir Tryz.isAgg122 rfl rfl cJ (by rfl)) ?_;refine J6 ?_;refine LD.rd rfl rfl (bd aB ir Tryz.isAgg122 rfl rfl cJ (by rfl)) ?_;refine dE rfl rfl Tryz.func63 rfl (fun w hm hc hg=>hq.read (i:=i) om (hm.pick mm) (fun m hr hM=>eB w hr hM)) ?_;refine dE rfl rfl Tryz.func63 rfl (fun w hm hc hg=>hq.read Nz (hm.pick mm) (fun m hr hM=>eB w hr hM)) ?_;refine J3 ?_;refine af.ak rfl (fun h3=>?_) (fun h3=>?_)
   ·refine c9 ?_;refine QM.dq (i+1) ⟨(by first|exact lk rfl (by rw [lp];rfl)|exact lk rfl (congrArg (Value.int .i64) (ly aB))|exact lk rfl (congrArg (Value.int .i64) (k4 aB))|rfl),(by first|exact lk rfl (by rw [jE];rfl)|exact lk rfl (congrArg (Value.int .i64) (jH aB))|exact lk rfl (congrArg (Value.int .i64) (jM aB))|rfl),kO,rfl,trivial⟩ aN (fun _ h=>h) ?_ ?_
    · omega
    · omega
   refine J8 ?_;refine QM.dq (i+1) ⟨(by first|exact lk rfl (by rw [lp];rfl)|exact lk rfl (congrArg (Value.int .i64) (ly aB))|exact lk rfl (congrArg (Value.int .i64) (k4 aB))|rfl),(by first|exact lk rfl (by rw [jE];rfl)|exact lk rfl (congrArg (Value.int .i64) (jH aB))|exact lk rfl (congrArg (Value.int .i64) (jM aB))|rfl),kO,rfl,trivial⟩ aN (fun _ h=>h) ?_ ?_
   · omega
   · omega
  refine J3 ?_;refine af.draw [(0,0),(1,0),(2,0),(3,1),(4,0),(5,0),(6,1),(8,0),(9,0),(10,0),(11,1),(12,0),(13,0),(14,1),(7,2),(15,2),(16,0)] kr kr ?_;refine J6 ?_;refine LD.rd rfl rfl (bd aB ir Tryz.isAgg122 rfl rfl cJ (by rfl)) ?_;refine J6 ?_;refine LD.rd rfl rfl (bd aB ir Tryz.isAgg122 rfl rfl cJ (by rfl)) ?_;refine dE rfl rfl Tryz.func63 rfl (fun w hm hc hg=>hq.read (i:=i) om (hm.pick mm) (fun m hr hM=>eB w hr hM)) ?_;refine dE rfl rfl Tryz.func63 rfl (fun w hm hc hg=>hq.read Nz (hm.pick mm) (fun m hr hM=>eB w hr hM)) ?_;refine J3 ?_;refine af.ak rfl (fun h4=>?_) (fun h4=>?_)
  ·refine c9 ?_;refine QM.dq (i+1) ⟨(by first|exact lk rfl (by rw [lp];rfl)|exact lk rfl (congrArg (Value.int .i64) (ly aB))|exact lk rfl (congrArg (Value.int .i64) (k4 aB))|rfl),(by first|exact lk rfl (by rw [jE];rfl)|exact lk rfl (congrArg (Value.int .i64) (jH aB))|exact lk rfl (congrArg (Value.int .i64) (jM aB))|rfl),kO,rfl,trivial⟩ aN (fun _ h=>h) ?_ ?_
   · omega
   · omega
  refine J8 ?_;refine QM.dq (i+1) ⟨(by first|exact lk rfl (by rw [lp];rfl)|exact lk rfl (congrArg (Value.int .i64) (ly aB))|exact lk rfl (congrArg (Value.int .i64) (k4 aB))|rfl),(by first|exact lk rfl (by rw [jE];rfl)|exact lk rfl (congrArg (Value.int .i64) (jH aB))|exact lk rfl (congrArg (Value.int .i64) (jM aB))|rfl),kO,rfl,trivial⟩ aN (fun _ h=>h) ?_ ?_
  · omega
  · omega
 have er:i=qs.length:=om;subst er;refine gy ?_;refine LM.rd (bd aB ir Tryz.isAgg122 rfl rfl cJ (by rfl)) ?_;refine LM.cS (oC Tryz.func64) (fun w hm hc hg=>hq.read Kc (hm.pick mm) (fun m hr hM=>mV w hr hM)) (fun ak6 n62 aiL m62 alM amm=>?_);refine cj ?_;refine af.aP (α:=Nat) (fun j=>[(9,.int .i64 (j:Nat))]) [(0,_),(5,_),(6,_),(8,_)] (fun j=>gO b ad n cap::(ms++(mm++(m62++ [])))) (fun j=>j≤(eD (qg qs (mo qs))).length∧∀k,k<j→¬((eD (qg qs (mo qs))).getD k default).x<EF qs) (fun j=>(eD (qg qs (mo qs))).length-j) (0) cF aN ⟨Nat.zero_le _,fun k hk=>absurd hk (Nat.not_lt_zero k)⟩ ?_;rintro j ⟨hj,hnb⟩;change af _ _ _ _ _ _ _ (gO b ad n cap::(ms++(mm++(m62++ [])))) _ _ _;refine J9 ?_;refine af.ak rfl (fun h5=>?_) (fun h5=>?_)
 ·refine J5 ?_;refine af.draw [(0,0),(1,0),(2,0),(3,0),(4,1),(5,0),(6,0),(7,0),(8,1),(9,0),(10,0),(11,1),(13,0),(14,0),(15,0),(16,1),(17,0),(18,0),(19,1),(12,2),(20,2),(21,0),(22,0)] kr kr ?_;refine J4 ?_;refine LD.rd rfl rfl (aE (j:=2) aB ir Tryz.isAgg3 rfl rfl cJ rfl (by rfl)) ?_;refine J6 ?_;refine LD.rd rfl rfl (bd aB ir Tryz.isAgg122 rfl rfl cJ (by rfl)) ?_;refine J6 ?_;refine LD.rd rfl rfl (bd aB ir Tryz.isAgg122 rfl rfl cJ (by rfl)) ?_;refine dE rfl rfl Tryz.func63 rfl (fun w hm hc hg=>hq.read Kc (hm.pick mm) (fun m hr hM=>eB w hr hM)) ?_;refine dE rfl rfl Tryz.func63 rfl (fun w hm hc hg=>hq.read hle (hm.pick mm) (fun m hr hM=>eB w hr hM)) ?_;refine LD.val rfl rfl (B0 rfl rfl om) ?_;refine J3 ?_;refine af.ak rfl (fun h6=>?_) (fun h6=>?_)
  ·have NT:=VF hnb om h6;obtain ⟨jq,xr,xu,xw,AA,Rs,KF⟩:=lg hw NT;refine J7 ?_;refine LM.rd (aE (j:=0) aB ir Tryz.isAgg3 rfl rfl cJ rfl (by rfl)) ?_;refine J1 ?_;refine cU Tryz.func65 rfl (fun w hm hc hg=>tX _ (le qs) w hC (by rw [xw];exact AA) Rs KF (Nat.le_trans cm hc.size) (by have h9:=hm.pick (gO b ad n cap::(ms++(mm++ [])));rw [List.append_nil] at h9;exact h9)) hC.bE (fun p hp _=>⟨p,hp,rfl⟩) ?_;rintro u99 m99 ⟨rfl,acY⟩ XX;refine J8 ?_;refine LM.rd (aE (j:=0) aB ir Tryz.isAgg3 rfl rfl cJ rfl (by rfl)) ?_;refine gy ?_;refine QM.leave (.inl rfl) [.tmp 2,.tmp 3,.tmp 4] Tryz.results27 rfl ?_;intro w' aj aa az;rw [show ja qs=((eD (qg qs (mo qs))).getD j default).id by unfold ja;rw [NT],show Mu qs=(mo qs:Nat) by unfold Mu;rw [NT],show uw qs=(le qs:Nat) by unfold uw;rw [NT],show jY qs=gH qs ((eD (qg qs (mo qs))).getD j default).id (le qs) by unfold jY;rw [NT]];exact aY ⟨rfl,acY⟩ aj (by(repeat' (first|exact aV.nil _|refine aV.cons (by rfl) ?_|refine aV.app ?_))) aa XX
  refine J8 ?_;refine aK (j+1) ?_ ?_
  · exact⟨by omega,fun k hk=>by rcases Nat.lt_or_ge k j with q|q;exact hnb k q;rw [show k=j by omega];exact h6⟩
  · omega
 have NT:w5 qs=none:=VE (fun k hk=>hnb k om);refine gy ?_;refine QM.leave (.inl rfl) [.tmp 2,.tmp 3,.tmp 4] Tryz.results27 rfl ?_;intro w' aj aa az;rw [show ja qs= -1 by unfold ja;rw [NT],show Mu qs= -1 by unfold Mu;rw [NT],show uw qs= -1 by unfold uw;rw [NT],show jY qs=qs by unfold jY;rw [NT]];exact dI hw hn hs hq hb aj (by(repeat' (first|exact aV.nil _|refine aV.cons (by rfl) ?_|refine aV.app ?_))) aa (ay _ _)
theorem xj (i:Int) (w:World):aD Tryz.prog 125 #[.int .i64 i] w (fun v w'=>v=U (nH i)∧Ext w w'):=by
 refine aD.ao Tryz.func125 rfl Tryz.ntmps125 rfl ([]) (no) (Mem.nil w) ?_;refine c9 ?_;refine LM.aq (t:=5) rfl (fun h1=>?_) (fun h1=>?_)
 ·refine gy ?_;refine qL Tryz.results125 rfl fun w' aj aa az=>?_;refine ⟨?_,aa⟩;simp only [ba,nH];first|(rw [if_pos om];done)|(rw [if_neg om];done)|(rw [if_pos om];rfl)
 refine J5 ?_;refine af.ak rfl (fun h2=>?_) (fun h2=>?_)
 ·refine J7 ?_;refine qL Tryz.results125 rfl fun w' aj aa az=>?_;refine ⟨?_,aa⟩;simp only [ba,nH];first|(rw [if_pos om];done)|(rw [if_neg om];done)|(rw [if_pos om];rfl)
 refine J5 ?_;refine LM.val (rk (a:=1#64) rfl rfl om) ?_;refine J4 ?_;refine qL Tryz.results125 rfl fun w' aj aa az=>?_;refine ⟨?_,aa⟩;simp only [ba,nH];first|(rw [if_pos om];done)|(rw [if_neg om];done)|(rw [if_pos om];rfl)
theorem yv (s:BitVec 64) (i:Int) (w:World):aD Tryz.prog 184 #[U s,.int .i64 i] w (fun v w'=>v= .bool (aR s i)∧Ext w w'):=by
 refine aD.ao Tryz.func184 rfl Tryz.ntmps184 rfl ([]) (no) (Mem.nil w) ?_;refine J9 ?_;refine cE Tryz.func125 rfl (fun w hm hc hg=>xj _ w) ?_;refine LM.val (OF rfl rfl) ?_;refine LM.val (fQ (b:=0#64) rfl rfl) ?_;refine J4 ?_;refine qL Tryz.results184 rfl fun w' aj aa az=>?_;exact⟨by simp only [ba];rw [Fy],aa⟩
theorem o9 (s:BitVec 64) (i:Int) (w:World):aD Tryz.prog 79 #[U s,.int .i64 i] w (fun v w'=>v=U (bZ s i)∧Ext w w'):=by
 refine aD.ao Tryz.func79 rfl Tryz.ntmps79 rfl ([]) (no) (Mem.nil w) ?_;refine J9 ?_;refine cE Tryz.func125 rfl (fun w hm hc hg=>xj _ w) ?_;refine LM.val (og rfl rfl) ?_;refine J4 ?_;refine qL Tryz.results79 rfl fun w' aj aa az=>?_;exact⟨rfl,aa⟩
theorem rJ (s:BitVec 64) (i:Int) (w:World):aD Tryz.prog 194 #[U s,.int .i64 i] w (fun v w'=>v=U (vY s i)∧Ext w w'):=by
 refine aD.ao Tryz.func194 rfl Tryz.ntmps194 rfl ([]) (no) (Mem.nil w) ?_;refine J9 ?_;refine cE Tryz.func125 rfl (fun w hm hc hg=>xj _ w) ?_;refine LM.val (xg rfl rfl) ?_;refine J4 ?_;refine qL Tryz.results194 rfl fun w' aj aa az=>?_;exact⟨rfl,aa⟩
theorem gu (s:BitVec 64) (i:Int) (w:World):aD Tryz.prog 108 #[U s,.int .i64 i] w (fun v w'=>v= .bool (aR s i)∧Ext w w'):=by
 refine aD.ao Tryz.func108 rfl Tryz.ntmps108 rfl ([]) (no) (Mem.nil w) ?_;refine cj ?_;refine LM.aq (t:=7) rfl (fun h1=>?_) (fun h1=>?_)
 ·refine J4 ?_;refine LM.aq (t:=11) rfl (fun h2=>?_) (fun h2=>?_)
  ·refine J2 ?_;refine LM.sp 11 rfl rfl rfl ?_;refine LM.val (PB rfl rfl om) ?_;refine LM.sp 11 rfl rfl rfl ?_;refine LM.val (rT (b:=2#64) rfl rfl (by first|decide|assumption)) ?_;refine LM.sp 11 rfl rfl rfl ?_;refine LM.val (ki (b:=1#64) rfl rfl) ?_;refine J5 ?_;refine qL Tryz.results108 rfl fun w' aj aa az=>?_;refine ⟨?_,aa⟩;simp only [ba,aR,h1,h2,decide_true,decide_false,Bool.true_and,Bool.false_and,Bool.and_true,Bool.and_false,Bool.not_true,Bool.not_false,Bool.true_or,Bool.false_or,Bool.or_true,Bool.or_false,ne_eq,not_true_eq_false,not_false_eq_true,Bool.and_self];rw [NW]
  refine cj ?_;refine qL Tryz.results108 rfl fun w' aj aa az=>?_;refine ⟨?_,aa⟩;simp only [ba,aR,h1,h2,decide_true,decide_false,Bool.true_and,Bool.false_and,Bool.and_true,Bool.and_false,Bool.not_true,Bool.not_false,Bool.true_or,Bool.false_or,Bool.or_true,Bool.or_false,ne_eq,not_true_eq_false,not_false_eq_true,Bool.and_self]
 refine kk ?_;refine qL Tryz.results108 rfl fun w' aj aa az=>?_;refine ⟨?_,aa⟩;simp only [ba,aR,h1,decide_true,decide_false,Bool.true_and,Bool.false_and,Bool.and_true,Bool.and_false,Bool.not_true,Bool.not_false,Bool.true_or,Bool.false_or,Bool.or_true,Bool.or_false,ne_eq,not_true_eq_false,not_false_eq_true,Bool.and_self]
theorem qC (s:BitVec 64) (i:Int) (w:World):aD Tryz.prog 149 #[U s,.int .i64 i] w (fun v w'=>v=U (bZ s i)∧Ext w w'):=by
 refine aD.ao Tryz.func149 rfl Tryz.ntmps149 rfl ([]) (no) (Mem.nil w) ?_;refine c9 ?_;refine LM.aq (t:=7) rfl (fun h1=>?_) (fun h1=>?_)
 ·refine O2 ?_;refine qL Tryz.results149 rfl fun w' aj aa az=>?_;refine ⟨?_,aa⟩;simp only [ba];first|exact congrArg U (rH om).symm|exact congrArg U (rr aB).symm|exact congrArg U (u3 om aB)
 refine J4 ?_;refine LM.aq (t:=11) rfl (fun h2=>?_) (fun h2=>?_)
 ·refine py ?_;refine qL Tryz.results149 rfl fun w' aj aa az=>?_;refine ⟨?_,aa⟩;simp only [ba];first|exact congrArg U (rH om).symm|exact congrArg U (rr aB).symm|exact congrArg U (u3 om aB)
 refine J3 ?_;refine cE Tryz.func108 rfl (fun w hm hc hg=>gu _ _ w) ?_;refine J3 ?_;refine af.aJ rfl (fun h3=>?_) (fun h3=>?_)
 ·refine J8 ?_;refine qL Tryz.results149 rfl fun w' aj aa az=>?_;refine ⟨?_,aa⟩;simp only [ba];first|exact congrArg U (rH om).symm|exact congrArg U (rr aB).symm|exact congrArg U (u3 om aB)
 refine J6 ?_;refine LM.val (rk (a:=1#64) rfl rfl om) ?_;refine LM.val (iD rfl rfl) ?_;refine J4 ?_;refine qL Tryz.results149 rfl fun w' aj aa az=>?_;refine ⟨?_,aa⟩;simp only [ba];first|exact congrArg U (rH om).symm|exact congrArg U (rr aB).symm|exact congrArg U (u3 om aB)
end Go.Eng
namespace Go.Eng
open Go Go.Proofs Go.RowKit
def R9 (q:nU):List Value:=[.int .i64 q.w,U q.v,.int .i64 q.h,.bool q.a]
abbrev jw (b:Nat) (ad:Option Addr) (n cap:Nat) (sl cr:Int) (fl:BitVec 64):Nat×Obj:=(b,.cells #[.slice ad n cap,.int .i64 sl,.int .i64 cr,U fl] 146 (0,0))
def yc (n0 b:Nat) (x:nI) (m:ab):Prop:=LdB x∧∃(ad:Option Addr) (n cap:Nat) (ms:ab),m=jw b ad n cap x.sl x.cr x.fl::ms∧n=x.l.length∧Sl R9 143 4 n0 x.l (.slice ad n cap) ms∧n0≤b
theorem yc.ge {n0 b:Nat} {x:nI} {m:ab} (h:yc n0 b x m):∀p∈m,n0≤p.1:=by
  obtain ⟨hB,ad,n,cap,ms,rfl,hn,hs,hb⟩:=h;intro p hp;rcases List.mem_cons.1 hp with rfl|hp
  · exact hb
  · exact hs.ge p hp
theorem yc.bE {n0 b:Nat} {x:nI} {m:ab} (h:yc n0 b x m):∀p∈m,bE p.2=false:=by
  obtain ⟨hB,ad,n,cap,ms,rfl,hn,hs,hb⟩:=h;intro p hp;rcases List.mem_cons.1 hp with rfl|hp
  · rfl
  · exact hs.bE p hp
theorem yc.mono {n0 n1 b:Nat} {x:nI} {m:ab} (h:yc n0 b x m) (hn:n1≤n0):yc n1 b x m:=by
  obtain ⟨hB,ad,n,cap,ms,rfl,Pa,hs,hb⟩:=h;exact⟨hB,ad,n,cap,ms,rfl,Pa,hs.mono hn,Nat.le_trans hn hb⟩
theorem kW {n0 b n n' cap mG:Nat} {ad AB:Option Addr} {x':nI} {sl cr:Int} {fl:BitVec 64} {ms Qy M:ab} {u0:Value} {w w':World} (hq:LdB x') (Pa:n'=x'.l.length) (VO:Sl R9 143 4 n0 x'.l (.slice AB n' mG) Qy) (hb:n0≤b) (hm:Mem w' M)
    (hs:aV M (jw b AB n' mG x'.sl x'.cr x'.fl::(Qy++ []))) (hc:cM (eO (jw b ad n cap sl cr fl::ms)) w w') (gI:de ms w.heap.size Qy):
    ec (jw b ad n cap sl cr fl::ms) (fun u m'=>u=u0∧yc n0 b x' m') w u0 w':=by
  rw [List.append_nil] at hs;refine ⟨hc,_,⟨rfl,hq,AB,n',mG,Qy,rfl,Pa,VO,hb⟩,hs.mem w' hm,fun p hp=>?_⟩;rcases List.mem_cons.1 hp with rfl|hp
  · exact .inr ⟨_,List.mem_cons_self ..,rfl⟩
  · rcases gI p hp with q|⟨q,hq,e⟩
    · exact .inl q
    · exact .inr ⟨q,List.mem_cons_of_mem _ hq,e⟩
theorem jD {n0 b:Nat} {x:nI} {m:ab} (p:Int) (w:World) (h:yc n0 b x m) (hM:Mem w m):aD Tryz.prog 73 #[.pointer (some ⟨b,0,none⟩),.int .i64 p] w (fun u w'=>u= .bool (pF x p)∧Ext w w'):=by
 obtain ⟨hB,ad,n,cap,ms,rfl,hn,hs,hb⟩:=h;refine aD.ao Tryz.func73 rfl Tryz.ntmps73 rfl (jw b ad n cap x.sl x.cr x.fl::(ms++ [])) (no) aM ?_;refine cj ?_;refine LM.aq (t:=7) rfl (fun h1=>?_) (fun h1=>?_)
 ·refine gy ?_;refine qL Tryz.results73 rfl fun w' aj aa az=>?_;refine ⟨?_,aa⟩;simp only [ba,pF,hn,h1,decide_true,decide_false,Bool.true_and,Bool.false_and,Bool.and_true,Bool.and_false,Bool.not_true,Bool.not_false,Bool.true_or,Bool.false_or,Bool.or_true,Bool.or_false,ne_eq,not_true_eq_false,not_false_eq_true,Bool.and_self]
 refine cN ?_;refine qL Tryz.results73 rfl fun w' aj aa az=>?_;refine ⟨?_,aa⟩;simp only [ba,pF,hn,h1,decide_true,decide_false,Bool.true_and,Bool.false_and,Bool.and_true,Bool.and_false,Bool.not_true,Bool.not_false,Bool.true_or,Bool.false_or,Bool.or_true,Bool.or_false,ne_eq,not_true_eq_false,not_false_eq_true,Bool.and_self]
theorem EZ {n0 b:Nat} {x:nI} {m:ab} (p:Nat) (w:World) (h:yc n0 b x m) (hp:p<x.l.length) (hh:0≤(gP x.l p).h∧(gP x.l p).h≤1000000000000) (hM:Mem w m):aD Tryz.prog 167 #[.pointer (some ⟨b,0,none⟩),.int .i64 (p:Nat)] w (ec m (fun u m'=>u= .bool true∧yc n0 b (Bc x p) m') w):=by
 obtain ⟨hB,ad,n,cap,ms,rfl,hn,hs,hb⟩:=h;have h0:yc n0 b x (jw b ad n cap x.sl x.cr x.fl::ms):=⟨hB,ad,n,cap,ms,rfl,hn,hs,hb⟩;have WE:=gPs (y:=vP (gP x.l p) (pN (gP x.l p).v (qi (gP x.l p).w))) hp;have hip:=Ng hp;have hg9:(vP (gP x.l p) (pN (gP x.l p).v (qi (gP x.l p).w))).h=(gP x.l p).h:=rfl;refine aD.ao Tryz.func167 rfl Tryz.ntmps167 rfl (jw b ad n cap x.sl x.cr x.fl::(ms++ [])) ((eO (jw b ad n cap x.sl x.cr x.fl::ms))) aM ?_;refine cj ?_;refine cE Tryz.func73 rfl (fun w hm hc hg=>hip▸jD p w h0 (hm.pick (jw b ad n cap x.sl x.cr x.fl::ms))) ?_;refine J3 ?_;refine af.aJ rfl (fun h1=>?_) (fun h1=>?_)
 ·cases h1
 refine J3 ?_;refine af.draw [(0,0),(1,0),(2,0),(3,1),(4,0),(5,0),(6,0),(7,0),(8,1),(9,0),(10,0),(11,0),(12,1),(13,0),(14,0),(15,0),(16,1),(17,0),(18,0),(19,0),(20,1),(21,2),(22,2),(23,0),(24,0),(25,0),(26,0),(27,0),(28,3)] kr kr ?_;refine cN ?_;refine LD.rd rfl rfl (aE (j:=1) aB ir Tryz.isAgg41 rfl rfl cJ rfl (by rfl)) ?_;refine J7 ?_;refine LD.rd rfl rfl (aE (j:=0) aB ir Tryz.isAgg3 rfl rfl cJ rfl (by rfl)) ?_;refine dE rfl rfl Tryz.func112 rfl (fun w hm hc hg=>qX _ w) ?_;refine dE rfl rfl Tryz.func94 rfl (fun w hm hc hg=>pz _ _ w) ?_;refine J5 ?_;refine LD.tail rfl rfl ?_;refine LM.fR ((vP (gP x.l p) (pN (gP x.l p).v (qi (gP x.l p).w)))) (j:=1) (i:=p) aB ir Tryz.sizeOf41 rfl rfl rfl cJ rfl (by decide) (by rfl) rfl (fun p hp _=>⟨p,List.mem_cons_of_mem _ hp,rfl⟩) (fun jh cG cY=>?_);refine J1 ?_;refine QM.qn ?_;refine cj ?_;refine LM.rd (aE (j:=2) aB ir Tryz.isAgg3 rfl rfl cJ rfl (by rfl)) ?_;rw [WE];refine J3 ?_;refine LM.fR (a:=vP (gP x.l p) (pN (gP x.l p).v (qi (gP x.l p).w))) (KR (gP x.l p)) (j:=2) cG ir Tryz.sizeOf3 rfl rfl rfl (List.getElem?_set_self hp) rfl (by decide) (by rfl) rfl (fun p hp _=>by obtain ⟨q,qq,e⟩:=cY p hp;exact⟨q,List.mem_cons_of_mem _ qq,e⟩) (fun yl mS vf=>?_);refine J8 ?_;refine qL Tryz.results167 rfl fun w' aj aa az=>?_;rw [List.set_set] at mS;exact kW (x':=Bc x p) ⟨by show (x.l.set _ _).length≤8;rw [List.length_set];exact hB.1,hB.2⟩ (by show _=(x.l.set _ _).length;rw [List.length_set];exact hn) mS hb aj aN aa (fun p hp=> .inr (by obtain ⟨q,qq,e⟩:=vf p hp;obtain ⟨q2,js,e2⟩:=cY q qq;exact⟨q2,js,e2.trans e⟩))
theorem Dn {n0 b:Nat} {x:nI} {m:ab} (p:Nat) (wt:Int) (w:World) (h:yc n0 b x m) (hp:p<x.l.length) (hM:Mem w m):aD Tryz.prog 74 #[.pointer (some ⟨b,0,none⟩),.int .i64 (p:Nat),.int .i64 wt] w (ec m (fun u m'=>u= .bool true∧yc n0 b (cB x p wt) m') w):=by
 obtain ⟨hB,ad,n,cap,ms,rfl,hn,hs,hb⟩:=h;have h0:yc n0 b x (jw b ad n cap x.sl x.cr x.fl::ms):=⟨hB,ad,n,cap,ms,rfl,hn,hs,hb⟩;have WE:=gPs (y:=wP (gP x.l p) (aF wt 1 16)) hp;have hip:=Ng hp;refine aD.ao Tryz.func74 rfl Tryz.ntmps74 rfl (jw b ad n cap x.sl x.cr x.fl::(ms++ [])) ((eO (jw b ad n cap x.sl x.cr x.fl::ms))) aM ?_;refine cj ?_;refine cE Tryz.func73 rfl (fun w hm hc hg=>hip▸jD p w h0 (hm.pick (jw b ad n cap x.sl x.cr x.fl::ms))) ?_;refine J3 ?_;refine af.aJ rfl (fun h1=>?_) (fun h1=>?_)
 ·cases h1
 refine J5 ?_;refine cE Tryz.func50 rfl (fun w hm hc hg=>bQ _ 1 16 w) ?_;refine kk ?_;refine LM.rd (aE (j:=0) aB ir Tryz.isAgg3 rfl rfl cJ rfl (by rfl)) ?_;refine J3 ?_;refine af.ak rfl (fun h2=>?_) (fun h2=>?_)
 ·refine cj ?_;refine LM.fR ((wP (gP x.l p) (aF wt 1 16))) (j:=0) (i:=p) aB ir Tryz.sizeOf3 rfl rfl rfl cJ rfl (by decide) (by rfl) rfl (fun p hp _=>⟨p,List.mem_cons_of_mem _ hp,rfl⟩) (fun jh cG cY=>?_);refine J2 ?_;refine af.draw [(0,0),(1,0),(2,0),(3,1),(4,0),(5,0),(6,0),(7,0),(8,1),(9,0),(10,0),(11,0),(12,1),(13,0),(14,0),(15,0),(16,1),(17,0),(19,0),(20,0),(21,0),(22,1),(23,0),(18,2),(24,0),(25,2),(26,0),(27,0),(28,3)] kr kr ?_;refine cN ?_;refine LD.rd rfl rfl (aE (j:=1) aB ir Tryz.isAgg41 rfl rfl cJ rfl (by rfl)) ?_;rw [WE];refine J9 ?_;refine LD.val rfl rfl (n4 Tryz.underlying3 Tryz.underlying41 rfl) ?_;refine dE rfl rfl Tryz.func112 rfl (fun w hm hc hg=>qX _ w) ?_;refine LD.val rfl rfl (px rfl rfl) ?_;refine dE rfl rfl Tryz.func111 rfl (fun w hm hc hg=>oJ _ _ _ w) ?_;refine J2 ?_;refine LD.tail rfl rfl ?_;refine LM.fR (a:=wP (gP x.l p) (aF wt 1 16)) ({gP x.l p with w:=aF wt 1 16,v:=fe (gP x.l p).v x.fl (qi (aF wt 1 16)*BitVec.ofInt 64 x.sl)} :nU) (j:=1) cG ir Tryz.sizeOf41 rfl rfl rfl (List.getElem?_set_self hp) rfl (by decide) (by rfl) rfl (fun p hp _=>by obtain ⟨q,qq,e⟩:=cY p hp;exact⟨q,List.mem_cons_of_mem _ qq,e⟩) (fun yl mS vf=>?_);refine J1 ?_;refine QM.qn ?_;refine J7 ?_;refine qL Tryz.results74 rfl fun w' aj aa az=>?_;rw [List.set_set] at mS;have hw:cB x p wt= {x with l:=x.l.set p {gP x.l p with w:=aF wt 1 16,v:=fe (gP x.l p).v x.fl (qi (aF wt 1 16)*BitVec.ofInt 64 x.sl)} } :=(by unfold cB ED;rw [if_neg h2]);rw [hw];exact kW (x':= {x with l:=_}) ⟨by show (x.l.set _ _).length≤8;rw [List.length_set];exact hB.1,hB.2⟩ (by show _=(x.l.set _ _).length;rw [List.length_set];exact hn) mS hb aj aN aa (fun p hp=> .inr (by obtain ⟨q,qq,e⟩:=vf p hp;obtain ⟨q2,js,e2⟩:=cY q qq;exact⟨q2,js,e2.trans e⟩))
 refine J8 ?_;refine qL Tryz.results74 rfl fun w' aj aa az=>?_;have hw:cB x p wt=x:=(by unfold cB ED;rw [if_pos (by simpa using h2),vk hp]);rw [hw];exact kW hB hn hs hb aj aN aa (ay _ _)
theorem EO {n0 b:Nat} {x:nI} {m:ab} (s:BitVec 64) (w:World) (h:yc n0 b x m) (hM:Mem w m):aD Tryz.prog 144 #[.pointer (some ⟨b,0,none⟩),U s] w (fun u w'=>u= .int .i64 (eI x.l s x.l.length)∧Ext w w'):=by
 obtain ⟨hB,ad,n,cap,ms,rfl,hn,hs,hb⟩:=h;have NB:=hB.1;refine aD.ao Tryz.func144 rfl Tryz.ntmps144 rfl (jw b ad n cap x.sl x.cr x.fl::(ms++ [])) (no) aM ?_;refine yi ?_;refine af.aP (α:=Nat×Int) (fun ⟨i,v⟩=>[(5,.int .i64 v),(6,.int .i64 (i:Nat))]) [(0,_),(1,_)] (fun ⟨i,v⟩=>jw b ad n cap x.sl x.cr x.fl::(ms++ [])) (fun ⟨i,v⟩=>i≤n∧v=eI x.l s i) (fun ⟨i,v⟩=>n-i) ((0,-1)) cF aN ⟨Nat.zero_le _,rfl⟩ ?_;rintro ⟨i,v⟩ ⟨hi,hv⟩;change af _ _ _ _ _ _ _ (jw b ad n cap x.sl x.cr x.fl::(ms++ [])) _ _ _;have gI:=wo x.l s i;refine cN ?_;refine af.ak rfl (fun h1=>?_) (fun h1=>?_)
 ·refine J5 ?_;refine af.draw [(0,0),(1,0),(2,2),(3,0),(4,0),(5,0),(6,0),(7,0),(8,0),(9,0),(10,1),(11,0),(12,0),(13,0),(14,1),(15,0),(16,0),(17,0),(18,1),(19,0),(20,0),(21,0),(22,1),(23,0),(24,0),(25,0)] kr kr ?_;refine J2 ?_;refine dE rfl rfl Tryz.func108 rfl (fun w hm hc hg=>(fg (s:=s) (i:=i))▸gu s (i:Nat) w) ?_;refine J1 ?_;refine LD.bj (t:=19) rfl (fun h2=>?_) (fun h2=>?_)
  ·refine J3 ?_;refine LD.aq (t:=22) rfl (fun h3=>?_) (fun h3=>?_)
   ·refine J33 ?_;refine aK (i+1,(i:Int)) ?_ ?_
    · exact⟨by omega,by rw [hv] at h3;exact(if_pos ⟨h2,.inl h3⟩).symm⟩
    · (dsimp only;omega)
   refine J7 ?_;refine LD.rd rfl ⟨22,_,rfl,rfl,rfl⟩ (aE (j:=1) aB ir Tryz.isAgg41 rfl rfl cJ rfl (by rfl)) ?_;refine J5 ?_;refine LD.val rfl ⟨22,_,rfl,rfl,rfl⟩ (bF j3 Tryz.underlying144 Tryz.sizeOf143 rfl rfl om) ?_;refine J1 ?_;refine LD.rd rfl ⟨22,_,rfl,rfl,rfl⟩ (aE (j:=1) aB ir Tryz.isAgg41 rfl rfl cJ rfl (by rfl)) ?_;refine LD.val rfl ⟨22,_,rfl,rfl,rfl⟩ (lZ rfl rfl) ?_;refine J4 ?_;refine af.ak rfl (fun h4=>?_) (fun h4=>?_)
   ·refine c9 ?_;refine aK (i+1,(i:Int)) ?_ ?_
    · exact⟨by omega,by rw [hv] at h4;exact(if_pos ⟨h2,.inr h4⟩).symm⟩
    · (dsimp only;omega)
   refine J8 ?_;refine aK (i+1,v) ?_ ?_
   · exact⟨by omega,by rw [hv] at h3 h4 ⊢;exact(if_neg (fun q=>by rcases q.2 with q2|q2;exact h3 q2;exact h4 q2)).symm⟩
   · (dsimp only;omega)
  refine J2 ?_;refine LD.dp rfl rfl ⟨19,_,rfl,rfl,rfl⟩ ?_;refine J30 ?_;refine aK (i+1,v) ?_ ?_
  · exact⟨by omega,by rw [hv];exact(if_neg (fun q=>by rw [h2] at q;cases q.1)).symm⟩
  · (dsimp only;omega)
 refine cN ?_;refine qL Tryz.results144 rfl fun w' aj aa az=>?_;have er:i=n:=om;refine ⟨?_,aa⟩;show Value.int .i64 v=_;rw [hv,er,hn]
theorem Eg {n0 b:Nat} {x:nI} {m:ab} (s:BitVec 64) (w:World) (h:yc n0 b x m) (hM:Mem w m):aD Tryz.prog 113 #[.pointer (some ⟨b,0,none⟩),U s] w (ec m (fun u m'=>yc n0 b (nr x s) m') w):=by
 obtain ⟨hB,ad,n,cap,ms,rfl,hn,hs,hb⟩:=h;have NB:=hB.1;refine aD.ao Tryz.func113 rfl Tryz.ntmps113 rfl (jw b ad n cap x.sl x.cr x.fl::(ms++ [])) ((eO (jw b ad n cap x.sl x.cr x.fl::ms))) aM ?_;refine yi ?_;refine af.aP (α:=Nat×BitVec 64×Bool×ab) (fun ⟨k,ls,mt,j5⟩=>[(4,U ls),(5,.bool mt),(6,.int .i64 (k:Nat))]) [(0,_),(1,_)] (fun ⟨k,ls,mt,j5⟩=>jw b ad n cap x.sl x.cr x.fl::(j5++ [])) (fun ⟨k,ls,mt,j5⟩=>k≤n∧Sl R9 143 4 n0 (ud x s k) (.slice ad n cap) j5∧de ms w.heap.size j5∧ls=zz (oh x s) s k∧mt=decide (0≤eI (oh x s) s k)) (fun ⟨k,ls,mt,j5⟩=>n-k) ((0,0#64,false,ms)) ⟨(by first|rfl|exact lk rfl (by rw [IE])),kO,kO,rfl,rfl,trivial⟩ aN ⟨by omega,by rw [LQ];exact hs,ay _ _,rfl,rfl⟩ ?_;rintro ⟨k,ls,mt,j5⟩ ⟨hk,tF,zK,sy,Db⟩;change af _ _ _ _ _ _ _ (jw b ad n cap x.sl x.cr x.fl::(j5++ [])) _ _ _;have jt:=iG x s k;refine cN ?_;refine af.ak rfl (fun h1=>?_) (fun h1=>?_)
 ·have C4:k<x.l.length:=om;have hq:(ud x s k).getD k default=gP x.l k:=OZ C4;refine J8 ?_;refine cE Tryz.func108 rfl (fun w hm hc hg=>(fg (s:=s) (i:=k))▸gu s (k:Nat) w) ?_;refine J8 ?_;refine LM.bj (t:=21) rfl (fun h2=>?_) (fun h2=>?_)
  ·refine J6 ?_;refine LM.sp 21 rfl rfl rfl ?_;refine J3 ?_;refine LM.rd (aE (j:=3) aB ir Tryz.isAgg4 rfl rfl cJ rfl (by rfl)) ?_;refine J4 ?_;refine af.bC (α:=List nU×ab) (fun ⟨l3,tN⟩=>[]) [(0,_),(1,_),(4,_),(5,_),(6,_),(7,_)] (fun ⟨l3,tN⟩=>jw b ad n cap x.sl x.cr x.fl::(tN++ [])) (fun ⟨l3,tN⟩=>Sl R9 143 4 n0 l3 (.slice ad n cap) tN∧de ms w.heap.size tN∧l3=(ud x s k).set k (vP (gP x.l k) (if s.getLsbD k=true∧(gP x.l k).a=false then fe (gP x.l k).v x.fl (mQ (gP x.l k).w x.sl x.cr) else (gP x.l k).v))) cF ?_ ?_
   ·refine af.aJ rfl (fun h3=>?_) (fun h3=>?_)
    ·refine af.draw [(0,0),(1,0),(2,0),(3,1),(4,0),(5,0),(6,0),(7,0),(8,1),(9,0),(10,0),(11,0),(12,1),(13,0),(14,0),(15,0),(16,1),(17,0),(18,0),(19,0),(20,1),(21,0),(22,0),(23,0),(24,1),(25,0),(26,0),(27,0),(28,1),(29,0),(30,0),(31,0),(32,1),(33,2),(34,2),(35,0),(36,0),(37,3)] kr kr ?_;refine cN ?_;refine LD.rd rfl rfl (aE (j:=1) aB ir Tryz.isAgg41 rfl rfl cJ rfl (by rfl)) ?_;refine c9 ?_;refine LD.rd rfl rfl (aE (j:=0) aB ir Tryz.isAgg3 rfl rfl cJ rfl (by rfl)) ?_;refine J8 ?_;refine dE rfl rfl Tryz.func151 rfl (fun w hm hc hg=>BG _ _ _ w) ?_;rw [hq];refine dE rfl rfl Tryz.func111 rfl (fun w hm hc hg=>oJ _ _ _ w) ?_;refine J2 ?_;refine LD.tail rfl rfl ?_;refine LM.fR (a:=gP x.l k) (vP (gP x.l k) (fe (gP x.l k).v x.fl (mQ (gP x.l k).w x.sl x.cr))) (j:=1) tF ir Tryz.sizeOf41 rfl rfl rfl (by rw [←hq];exact aO default om) rfl (by decide) (by rfl) rfl (fun p hp bD=>by rcases zK p hp with q|⟨q,hq,e⟩;exact absurd bD om;exact⟨q,List.mem_cons_of_mem _ hq,e⟩) (fun jh cG cY=>?_);refine J1 ?_;refine QM.qn ?_;refine mK ((ud x s k).set k (vP (gP x.l k) (fe (gP x.l k).v x.fl (mQ (gP x.l k).w x.sl x.cr))),jh) ?_
     · have h3b:(gP x.l k).a=false:=(by rw [←hq];simpa using h3);exact⟨cG,fun p hp=>by obtain ⟨q,qq,e⟩:=cY p hp;rw [←e];exact zK q qq,by rw [if_pos ⟨h2,h3b⟩]⟩
    refine J1 ?_;refine mK (ud x s k,j5) ?_
    · have h3b:¬(gP x.l k).a=false:=(by rw [←hq];simpa using h3);exact⟨tF,zK,by rw [if_neg (fun q=>h3b q.2),show vP (gP x.l k) (gP x.l k).v=gP (ud x s k) k from hq.symm,vk om]⟩
   rintro ⟨l3,tN⟩ ⟨VL,Kb,UM⟩;change QM _ _ _ _ _ (jw b ad n cap x.sl x.cr x.fl::(tN++ [])) _ _ _;refine c9 ?_;refine LM.fR (a:=vP (gP x.l k) (if s.getLsbD k=true∧(gP x.l k).a=false then fe (gP x.l k).v x.fl (mQ (gP x.l k).w x.sl x.cr) else (gP x.l k).v)) (Nv x (s.getLsbD k) (gP x.l k)) (j:=3) VL ir Tryz.sizeOf4 rfl rfl rfl (by rw [UM];exact List.getElem?_set_self om) rfl (by decide) (by rfl) rfl (fun p hp bD=>by rcases Kb p hp with q|⟨q,hq,e⟩;exact absurd bD om;exact⟨q,List.mem_cons_of_mem _ hq,e⟩) (fun yl mS vf=>?_);rw [UM,List.set_set,←CV C4] at mS;have Hr:de ms w.heap.size yl:=(fun p hp=>by obtain ⟨q,qq,e⟩:=vf p hp;rw [←e];exact Kb q qq);have UX:=iG x s (k+1);have IE:(ud x s (k+1)).getD k default=gP (oh x s) k:=Mb C4;refine J6 ?_;refine LM.bj (t:=78) rfl (fun h4=>?_) (fun h4=>?_)
   ·refine J3 ?_;refine LM.bj (t:=81) rfl (fun h5=>?_) (fun h5=>?_)
    ·refine J24 ?_;refine LM.rd (aE (j:=1) aB ir Tryz.isAgg41 rfl rfl cJ rfl (by rfl)) ?_;refine gy ?_;refine QM.dq (k+1,(gP (oh x s) k).v,true,yl) ⟨(by first|rfl|exact lk rfl (by rw [IE])),kO,kO,rfl,rfl,trivial⟩ aN (fun _ h=>h) ?_ ?_
     · have hy:=Fk sy Db h2 (.inl (by simpa using h5));exact⟨by omega,mS,Hr,hy.1,hy.2⟩
     · (dsimp only;omega)
    refine J6 ?_;refine LM.sp 81 rfl rfl rfl ?_;refine J3 ?_;refine LM.rd (aE (j:=1) aB ir Tryz.isAgg41 rfl rfl cJ rfl (by rfl)) ?_;refine LM.sp 81 rfl rfl rfl ?_;rw [IE];refine J1 ?_;refine LM.sp 81 rfl rfl rfl ?_;refine LM.val (lZ rfl rfl) ?_;refine J4 ?_;refine af.ak rfl (fun h6=>?_) (fun h6=>?_)
    ·refine J9 ?_;refine LM.rd (aE (j:=1) aB ir Tryz.isAgg41 rfl rfl cJ rfl (by rfl)) ?_;refine gy ?_;refine QM.dq (k+1,(gP (oh x s) k).v,true,yl) ⟨(by first|rfl|exact lk rfl (by rw [IE])),kO,kO,rfl,rfl,trivial⟩ aN (fun _ h=>h) ?_ ?_
     · have hy:=Fk sy Db h2 (.inr h6);exact⟨by omega,mS,Hr,hy.1,hy.2⟩
     · (dsimp only;omega)
    refine J8 ?_;refine QM.dq (k+1,ls,mt,yl) ⟨(by first|rfl|exact lk rfl (by rw [IE])),kO,kO,rfl,rfl,trivial⟩ aN (fun _ h=>h) ?_ ?_
    · have hy:=I8 sy Db (fun _=>⟨by simpa using h5,h6⟩);exact⟨by omega,mS,Hr,hy.1,hy.2⟩
    · (dsimp only;omega)
   rw [h2] at h4;cases h4
  refine cN ?_;refine af.bC (α:=List nU×ab) (fun ⟨l3,tN⟩=>[]) [(0,_),(1,_),(4,_),(5,_),(6,_),(7,_)] (fun ⟨l3,tN⟩=>jw b ad n cap x.sl x.cr x.fl::(tN++ [])) (fun ⟨l3,tN⟩=>Sl R9 143 4 n0 l3 (.slice ad n cap) tN∧de ms w.heap.size tN∧l3=(ud x s k).set k (vP (gP x.l k) (if s.getLsbD k=true∧(gP x.l k).a=false then fe (gP x.l k).v x.fl (mQ (gP x.l k).w x.sl x.cr) else (gP x.l k).v))) cF ?_ ?_
  ·refine J2 ?_;refine mK (ud x s k,j5) ?_
   · exact⟨tF,zK,by rw [if_neg (fun q=>by rw [h2] at q;cases q.1),show vP (gP x.l k) (gP x.l k).v=gP (ud x s k) k from hq.symm,vk om]⟩
  rintro ⟨l3,tN⟩ ⟨VL,Kb,UM⟩;change QM _ _ _ _ _ (jw b ad n cap x.sl x.cr x.fl::(tN++ [])) _ _ _;refine c9 ?_;refine LM.fR (a:=vP (gP x.l k) (if s.getLsbD k=true∧(gP x.l k).a=false then fe (gP x.l k).v x.fl (mQ (gP x.l k).w x.sl x.cr) else (gP x.l k).v)) (Nv x (s.getLsbD k) (gP x.l k)) (j:=3) VL ir Tryz.sizeOf4 rfl rfl rfl (by rw [UM];exact List.getElem?_set_self om) rfl (by decide) (by rfl) rfl (fun p hp bD=>by rcases Kb p hp with q|⟨q,hq,e⟩;exact absurd bD om;exact⟨q,List.mem_cons_of_mem _ hq,e⟩) (fun yl mS vf=>?_);rw [UM,List.set_set,←CV C4] at mS;have Hr:de ms w.heap.size yl:=(fun p hp=>by obtain ⟨q,qq,e⟩:=vf p hp;rw [←e];exact Kb q qq);have UX:=iG x s (k+1);have IE:(ud x s (k+1)).getD k default=gP (oh x s) k:=Mb C4;refine J6 ?_;refine LM.bj (t:=78) rfl (fun h7=>?_) (fun h7=>?_)
  ·rw [h2] at h7;cases h7
  refine J2 ?_;refine LM.dp (t:=78) rfl rfl rfl ?_;refine Wo ?_;refine QM.dq (k+1,ls,mt,yl) ⟨(by first|rfl|exact lk rfl (by rw [IE])),kO,kO,rfl,rfl,trivial⟩ aN (fun _ h=>h) ?_ ?_
  · have hy:=I8 sy Db (fun q=>by rw [h2] at q;cases q);exact⟨by omega,mS,Hr,hy.1,hy.2⟩
  · (dsimp only;omega)
 refine J9 ?_;refine LM.bj (t:=103) rfl (fun h8=>?_) (fun h8=>?_)
 ·refine J6 ?_;refine LM.sp 103 rfl rfl rfl ?_;refine LM.val (pj rfl rfl) ?_;refine J3 ?_;refine af.ak rfl (fun h9=>?_) (fun h9=>?_)
  ·refine J5 ?_;refine LM.st Tryz.sizeOf41 rfl rfl rfl dW rfl sC ?_;refine J1 ?_;refine QM.leave (.inr rfl) [] Tryz.results113 rfl ?_;intro w' aj aa az;have C4:k=x.l.length:=om;subst C4;have Ic:=u2 x s;rw [show ud x s x.l.length=oh x s from rfl] at tF;have hle:¬eI (oh x s) s x.l.length<0:=(by subst Db;simp at h8;omega);have hlv:ls=(gP (oh x s) (eI (oh x s) s x.l.length).toNat).v:=sy.trans (if_neg hle);have hx:nr x s= {x with l:=oh x s,fl:=ls} :=(by unfold nr;rw [if_neg hle,←hlv];unfold TB;rw [if_pos h9]);rw [hx];exact ec.imp (kW (u0:=ba []) (x':= {x with l:=oh x s,fl:=ls}) ⟨by show (oh x s).length≤8;omega,hB.2⟩ (by show n=(oh x s).length;omega) tF hb aj aN aa zK) (fun u m' h=>h.2)
  refine J1 ?_;refine QM.leave (.inr rfl) [] Tryz.results113 rfl ?_;intro w' aj aa az;have C4:k=x.l.length:=om;subst C4;have Ic:=u2 x s;rw [show ud x s x.l.length=oh x s from rfl] at tF;have hle:¬eI (oh x s) s x.l.length<0:=(by subst Db;simp at h8;omega);have hlv:ls=(gP (oh x s) (eI (oh x s) s x.l.length).toNat).v:=sy.trans (if_neg hle);have hx:nr x s= {x with l:=oh x s} :=(by unfold nr;rw [if_neg hle,←hlv];unfold TB;rw [if_neg h9]);rw [hx];exact ec.imp (kW (u0:=ba []) (x':= {x with l:=oh x s}) ⟨by show (oh x s).length≤8;omega,hB.2⟩ (by show n=(oh x s).length;omega) tF hb aj aN aa zK) (fun u m' h=>h.2)
 refine c9 ?_;refine QM.leave (.inr rfl) [] Tryz.results113 rfl ?_;intro w' aj aa az;have C4:k=x.l.length:=om;subst C4;have Ic:=u2 x s;rw [show ud x s x.l.length=oh x s from rfl] at tF;have hle:eI (oh x s) s x.l.length<0:=(by subst Db;simp at h8;omega);have hx:nr x s= {x with l:=oh x s} :=(by unfold nr;rw [if_pos hle]);rw [hx];exact ec.imp (kW (u0:=ba []) (x':= {x with l:=oh x s}) ⟨by show (oh x s).length≤8;omega,hB.2⟩ (by show n=(oh x s).length;omega) tF hb aj aN aa zK) (fun u m' h=>h.2)
def Yq (ws:List Int) (s c:Int) (n0:Nat) (v:Value) (m:ab):Prop:=∃b,v= .pointer (some ⟨b,0,none⟩)∧yc n0 b (lC ws s c) m
theorem Yq.mono {ws:List Int} {s c:Int} :∀(n n':Nat) (v:Value) (m:ab),n'≤n→Yq ws s c n v m→Yq ws s c n' v m:=fun n n' v m hn ⟨b,h1,h⟩=>⟨b,h1,h.mono hn⟩
theorem qJ (t:vT) (sl p:Int) (w:World):aD Tryz.prog 171 #[VG t,.int .i64 sl,.int .i64 p] w (fun v w'=>v= .bool (z8 t sl p)∧Ext w w'):=by
 refine aD.ao Tryz.func171 rfl Tryz.ntmps171 rfl ([]) (no) (Mem.nil w) ?_;refine J2 ?_;refine LM.box rfl rfl (fun b3 xu=>?_);refine J4 ?_;refine af.draw [(0,0),(1,0),(2,0),(3,0),(4,1),(5,0),(6,0),(7,0),(8,0),(9,0),(10,1),(11,0),(12,2),(13,0),(14,0),(15,0)] kr kr ?_;refine J3 ?_;refine LD.aq (t:=9) rfl (fun h1=>?_) (fun h1=>?_)
 ·refine J6 ?_;refine LD.aq (t:=15) rfl (fun h2=>?_) (fun h2=>?_)
  ·refine J3 ?_;refine dE rfl ⟨15,_,rfl,rfl,rfl⟩ Tryz.func50 rfl (fun w hm hc hg=>bQ _ 1 16 w) ?_;refine J6 ?_;refine qL Tryz.results171 rfl fun w' aj aa az=>?_;refine ⟨?_,aa⟩;simp only [ba,z8,h1,h2,decide_true,decide_false,Bool.true_and,Bool.false_and,Bool.and_true,Bool.and_false,Bool.not_true,Bool.not_false,Bool.true_or,Bool.false_or,Bool.or_true,Bool.or_false,ne_eq,not_true_eq_false,not_false_eq_true,Bool.and_self]
  refine cj ?_;refine qL Tryz.results171 rfl fun w' aj aa az=>?_;refine ⟨?_,aa⟩;simp only [ba,z8,h1,h2,decide_true,decide_false,Bool.true_and,Bool.false_and,Bool.and_true,Bool.and_false,Bool.not_true,Bool.not_false,Bool.true_or,Bool.false_or,Bool.or_true,Bool.or_false,ne_eq,not_true_eq_false,not_false_eq_true,Bool.and_self]
 refine pQ ?_;refine qL Tryz.results171 rfl fun w' aj aa az=>?_;refine ⟨?_,aa⟩;simp only [ba,z8,h1,decide_true,decide_false,Bool.true_and,Bool.false_and,Bool.and_true,Bool.and_false,Bool.not_true,Bool.not_false,Bool.true_or,Bool.false_or,Bool.or_true,Bool.or_false,ne_eq,not_true_eq_false,not_false_eq_true,Bool.and_self]
theorem Bu (t:vT) (sl:Int) (s:BitVec 64) (le:Int) (w:World):aD Tryz.prog 143 #[VG t,.int .i64 sl,U s,.int .i64 le] w (fun v w'=>v=VG (pY t sl s le)∧Ext w w'):=by
 refine aD.ao Tryz.func143 rfl Tryz.ntmps143 rfl ([]) (no) (Mem.nil w) ?_;refine J2 ?_;refine LM.box rfl rfl (fun b4 xw=>?_);refine LM.alloc Tryz.zeroValue58 rfl (fun b8 O9=>?_);refine J6 ?_;refine LM.val (ki (b:=0#64) rfl rfl) ?_;refine J1 ?_;refine LM.aq (t:=11) rfl (fun h1=>?_) (fun h1=>?_)
 ·refine J4 ?_;refine LM.dp (t:=11) rfl rfl rfl ?_;refine cN ?_;refine LM.rd (aL Tryz.isAgg58 Tryz.sizeOf58 rfl rfl) ?_;refine LM.dh Tryz.sizeOf58 rfl rfl rfl rfl df bV ?_;refine J4 ?_;refine QM.aH (ds:=([])) (.inl rfl) [.cell 8 58] Tryz.results143 aX (bY rfl Tryz.isAgg58 Tryz.sizeOf58 rfl aW) ?_;intro w' aj aa;refine ⟨?_,aa⟩;rw [show pY t sl s le=t from if_pos (.inl h1)];rfl
 refine J5 ?_;refine cE Tryz.func108 rfl (fun w hm hc hg=>gu _ _ w) ?_;refine J1 ?_;refine LM.bj (t:=16) rfl (fun h2=>?_) (fun h2=>?_)
 ·refine J1 ?_;refine LM.rd (aL Tryz.isAgg58 Tryz.sizeOf58 rfl rfl) ?_;refine J5 ?_;refine cE Tryz.func171 rfl (fun w hm hc hg=>qJ t _ _ w) ?_;refine J4 ?_;refine af.aJ rfl (fun h3=>?_) (fun h3=>?_)
  ·refine J2 ?_;refine LM.rd (aL Tryz.isAgg58 Tryz.sizeOf58 rfl rfl) ?_;refine LM.dh Tryz.sizeOf58 rfl rfl rfl rfl df bV ?_;refine J4 ?_;refine QM.aH (ds:=([])) (.inl rfl) [.cell 8 58] Tryz.results143 aX (bY rfl Tryz.isAgg58 Tryz.sizeOf58 rfl aW) ?_;intro w' aj aa;refine ⟨?_,aa⟩;rw [show pY t sl s le=t from if_pos (.inr ⟨h2,h3⟩)];rfl
  refine J5 ?_;refine LM.val (aC (cs:=#[_,_]) rfl (by first|rfl|kernel_rfl)) ?_;refine LM.dh Tryz.sizeOf58 rfl rfl rfl rfl df bV ?_;refine J3 ?_;refine QM.aH (ds:=([])) (.inl rfl) [.cell 8 58] Tryz.results143 aX (bY rfl Tryz.isAgg58 Tryz.sizeOf58 rfl aW) ?_;intro w' aj aa;refine ⟨?_,aa⟩;rw [show pY t sl s le=⟨le,0⟩ from if_neg (fun q=>by rcases q with q|q;exact h1 q;rw [h3] at q;cases q.2)];rfl
 refine py ?_;refine LM.val (aC (cs:=#[_,_]) rfl (by first|rfl|kernel_rfl)) ?_;refine LM.dh Tryz.sizeOf58 rfl rfl rfl rfl df bV ?_;refine J3 ?_;refine QM.aH (ds:=([])) (.inl rfl) [.cell 8 58] Tryz.results143 aX (bY rfl Tryz.isAgg58 Tryz.sizeOf58 rfl aW) ?_;intro w' aj aa;refine ⟨?_,aa⟩;rw [show pY t sl s le=⟨le,0⟩ from if_neg (fun q=>by rcases q with q|q;exact h1 q;rw [h2] at q;cases q.1)];rfl
theorem Al (t:vT) (w:World) (hu: -1000000≤t.u):aD Tryz.prog 168 #[VG t] w (fun v w'=>v=VG (iZ t)∧Ext w w'):=by
 refine aD.ao Tryz.func168 rfl Tryz.ntmps168 rfl ([]) (no) (Mem.nil w) ?_;refine J2 ?_;refine LM.box rfl rfl (fun b1 jq=>?_);refine LM.alloc Tryz.zeroValue58 rfl (fun b2 xr=>?_);refine cj ?_;refine af.ak rfl (fun h1=>?_) (fun h1=>?_)
 ·refine J5 ?_;refine LM.st Tryz.sizeOf3 rfl rfl rfl dW rfl bV ?_;refine J4 ?_;refine LM.rd (aL Tryz.isAgg58 Tryz.sizeOf58 rfl rfl) ?_;refine LM.dh Tryz.sizeOf58 rfl rfl rfl rfl df bV ?_;refine J3 ?_;refine QM.aH (ds:=([])) (.inl rfl) [.cell 2 58] Tryz.results168 aX (bY rfl Tryz.isAgg58 Tryz.sizeOf58 rfl aW) ?_;intro w' aj aa;refine ⟨?_,aa⟩;rw [show iZ t=⟨t.p,t.u+1⟩ from if_pos h1];rfl
 refine J4 ?_;refine LM.rd (aL Tryz.isAgg58 Tryz.sizeOf58 rfl rfl) ?_;refine LM.dh Tryz.sizeOf58 rfl rfl rfl rfl df bV ?_;refine J3 ?_;refine QM.aH (ds:=([])) (.inl rfl) [.cell 2 58] Tryz.results168 aX (bY rfl Tryz.isAgg58 Tryz.sizeOf58 rfl aW) ?_;intro w' aj aa;refine ⟨?_,aa⟩;rw [show iZ t=t from if_neg h1];rfl
theorem Em (t:vT) (sl:Int) (w:World):aD Tryz.prog 75 #[VG t,.int .i64 sl] w (fun v w'=>v=VG (xX t sl)∧Ext w w'):=by
 refine aD.ao Tryz.func75 rfl Tryz.ntmps75 rfl ([]) (no) (Mem.nil w) ?_;refine J2 ?_;refine LM.box rfl rfl (fun b2 xr=>?_);refine LM.alloc Tryz.zeroValue58 rfl (fun b4 xw=>?_);refine J5 ?_;refine cE Tryz.func50 rfl (fun w hm hc hg=>bQ _ 1 16 w) ?_;refine cN ?_;refine af.ak rfl (fun h1=>?_) (fun h1=>?_)
 ·refine J3 ?_;refine LM.st Tryz.sizeOf3 rfl rfl rfl dW rfl bV ?_;refine J4 ?_;refine LM.rd (aL Tryz.isAgg58 Tryz.sizeOf58 rfl rfl) ?_;refine LM.dh Tryz.sizeOf58 rfl rfl rfl rfl df bV ?_;refine J3 ?_;refine QM.aH (ds:=([])) (.inl rfl) [.cell 4 58] Tryz.results75 aX (bY rfl Tryz.isAgg58 Tryz.sizeOf58 rfl aW) ?_;intro w' aj aa;refine ⟨?_,aa⟩;rw [show xX t sl=⟨t.p,aF sl 1 16⟩ from if_pos h1];rfl
 refine J4 ?_;refine LM.rd (aL Tryz.isAgg58 Tryz.sizeOf58 rfl rfl) ?_;refine LM.dh Tryz.sizeOf58 rfl rfl rfl rfl df bV ?_;refine J3 ?_;refine QM.aH (ds:=([])) (.inl rfl) [.cell 4 58] Tryz.results75 aX (bY rfl Tryz.isAgg58 Tryz.sizeOf58 rfl aW) ?_;intro w' aj aa;refine ⟨?_,aa⟩;rw [show xX t sl=t from if_neg om];rfl
theorem ER {ws:List Int} {ad:Option Addr} {n cap:Nat} (s c:Int) (w:World) (hn:n=ws.length) (hl:Sr fI 1 ws (.slice ad n cap) w):aD Tryz.prog 52 #[.slice ad n cap,.int .i64 s,.int .i64 c] w (fun v w'=>Ext w w'∧∃m,Yq ws s c w.heap.size v m∧Mem w' m∧∀p∈m,w.heap.size≤p.1):=by
 refine aD.ao Tryz.func52 rfl Tryz.ntmps52 rfl ([]) (no) (Mem.nil w) ?_;refine J8 ?_;refine cE Tryz.func50 rfl (fun w hm hc hg=>bQ _ 1 32 w) ?_;refine J1 ?_;refine cE Tryz.func50 rfl (fun w hm hc hg=>bQ _ 1 32 w) ?_;refine LM.val (aC (cs:=#[_,_,_,_]) rfl (by first|rfl|kernel_rfl)) ?_;refine LM.box rfl rfl (fun Tf QU=>?_);refine cj ?_;refine af.aP (α:=Nat×Option Addr×Nat×Nat×ab) (fun ⟨i,nJ,n2,eP,ms⟩=>[(8,.int .i64 (i:Nat))]) [(0,_),(7,_)] (fun ⟨i,nJ,n2,eP,ms⟩=>jw Tf nJ n2 eP (aF s 1 32) (aF c 1 32) 0#64::(ms++ [])) (fun ⟨i,nJ,n2,eP,ms⟩=>i≤n∧i≤8∧n2=i∧Sl R9 143 4 w.heap.size (T4 ws i) (.slice nJ n2 eP) ms) (fun ⟨i,nJ,n2,eP,ms⟩=>n-i) ((0,none,0,0,[])) cF aN ⟨Nat.zero_le _,Nat.zero_le _,rfl,.nil _ _ _ _⟩ ?_;rintro ⟨i,nJ,n2,eP,ms⟩ ⟨hi,hi8,xP,hs⟩;change af _ _ _ _ _ _ _ (jw Tf nJ n2 eP (aF s 1 32) (aF c 1 32) 0#64::(ms++ [])) _ _ _;have Q2:=O6 (ws:=ws) (i:=i) om;refine J8 ?_;refine LM.aq (t:=19) rfl (fun h1=>?_) (fun h1=>?_)
 ·refine J5 ?_;refine af.ak rfl (fun h2=>?_) (fun h2=>?_)
  ·refine J4 ?_;refine af.keep (jw Tf nJ n2 eP (aF s 1 32) (aF c 1 32) 0#64:: []) (fun _=>True) (.one 0 0 (.one 1 0 (.one 2 0 (.one 3 0 (.one 4 1 (.one 5 0 (.one 6 0 (.one 7 0 (.one 8 1 (.one 9 2 (.one 10 0 (.one 11 2 (.one 12 2 (.one 13 0 (.one 14 0 (.last 15)))))))))))))))) kr kr aN (fun _ _=>trivial) ?_;refine J8 ?_;refine KD.eh rfl rfl (lV aB Tryz.isAgg3 rfl rfl (by exact aO 0 cK) (by rfl) id) ?_;refine J1 ?_;refine cE Tryz.func50 rfl (fun w hm hc hg=>bQ _ 1 16 w) ?_;refine J2 ?_;refine KD.val rfl rfl (aC (cs:=#[_,_,_,_]) rfl (by first|rfl|kernel_rfl)) ?_;refine J1 ?_;refine LM.single Tryz.underlying144 Tryz.sizeOf143 Tryz.zeroValue143 rfl rfl rfl rfl rfl (fun VU afZ=>?_);refine J3 ?_;refine LM.app (a:=ptN (ws.getD i 0)) Tryz.underlying144 Tryz.typeInfo143 rfl rfl rfl rfl rfl rfl rfl aB (by rfl) ir (by intro _ u hu;simp [R9] at hu;(repeat (first|(rcases hu with rfl|hu)|subst hu|rfl))) (by first|exact Nat.le_refl _|omega) pH (by first|omega|(unfold maxLen;omega)) (by simp only [Tryz.t143];omega) (fun Lw Wh AX N6 aaH qM wZ=>?_);refine J4 ?_;refine KD.last rfl ?_;refine LM.st Tryz.sizeOf144 rfl rfl rfl dW rfl bV ?_;refine J1 ?_;refine QM.qn ?_;refine J7 ?_;refine aK (i+1,Lw,Wh,AX,N6) ?_ ?_
   · exact⟨by omega,by omega,by omega,by rw [MF om];exact qM⟩
   · (dsimp only;omega)
  refine cN ?_;refine qL Tryz.results52 rfl fun w' aj aa az=>?_;rw [Ft s c om] at hs;exact⟨aa,jw Tf nJ n2 eP (aF s 1 32) (aF c 1 32) 0#64::ms,⟨Tf,rfl,FH ws s c,nJ,n2,eP,ms,rfl,by rw [lG];omega,hs,QU⟩,(aV.mem (by(repeat' (first|exact aV.all _|refine aV.cons rfl ?_|exact aV.nil _|(rw [List.append_nil];exact aV.all _))))) w' aj,fun p hp=>by rcases List.mem_cons.1 hp with rfl|hp;exact QU;exact hs.ge p hp⟩
 refine yx ?_;refine qL Tryz.results52 rfl fun w' aj aa az=>?_;rw [Ft s c om] at hs;exact⟨aa,jw Tf nJ n2 eP (aF s 1 32) (aF c 1 32) 0#64::ms,⟨Tf,rfl,FH ws s c,nJ,n2,eP,ms,rfl,by rw [lG];omega,hs,QU⟩,(aV.mem (by(repeat' (first|exact aV.all _|refine aV.cons rfl ?_|exact aV.nil _|(rw [List.append_nil];exact aV.all _))))) w' aj,fun p hp=>by rcases List.mem_cons.1 hp with rfl|hp;exact QU;exact hs.ge p hp⟩
abbrev dU (b:Nat) (sh:Bool) (sl:Int) (bM:Option Addr) (nh aI:Nat) (bh:Option Addr) (nw aS:Nat) (tr:vT) (bl:Nat) (di:Bool):Nat×Obj:=(b,.cells #[.bool sh,.int .i64 sl,.slice bM nh aI,.slice bh nw aS,.int .i64 tr.p,.int .i64 tr.u,.pointer (some ⟨bl,0,none⟩),.bool di] 61 (0,0))
abbrev dy (b:Nat) (x:bf) (bM:Option Addr) (nh aI:Nat) (bh:Option Addr) (nw aS bl:Nat) (mh mw ml:ab):ab:=dU b x.sh x.sl bM nh aI bh nw aS x.tr bl x.di::(mh++(mw++ml))
def gV (n0 b:Nat) (x:bf) (wa:List Hd) (m:ab):Prop:=∃(bM:Option Addr) (nh aI:Nat) (bh:Option Addr) (nw aS bl:Nat) (mh mw ml:ab),m=dy b x bM nh aI bh nw aS bl mh mw ml∧nh=x.ho.length∧nw=wa.length∧Sl tQ 68 3 n0 x.ho (.slice bM nh aI) mh∧Sl tQ 68 3 n0 wa (.slice bh nw aS) mw∧yc n0 bl x.ld ml∧n0≤b
def eW (w:Wt):Hd:=⟨w.who,w.key,false⟩
theorem gV.ge {n0 b:Nat} {x:bf} {wa:List Hd} {m:ab} (h:gV n0 b x wa m):∀p∈m,n0≤p.1:=by
  obtain ⟨bM,nh,aI,bh,nw,aS,bl,mh,mw,ml,rfl,jx,kR,fC,cO,kU,hb⟩:=h;intro p hp;rcases List.mem_cons.1 hp with rfl|hp
  · exact hb
  · rcases List.mem_append.1 hp with hp|hp
    · exact fC.ge p hp
    · rcases List.mem_append.1 hp with hp|hp
      · exact cO.ge p hp
      · exact kU.ge p hp
theorem gV.bE {n0 b:Nat} {x:bf} {wa:List Hd} {m:ab} (h:gV n0 b x wa m):∀p∈m,bE p.2=false:=by
  obtain ⟨bM,nh,aI,bh,nw,aS,bl,mh,mw,ml,rfl,jx,kR,fC,cO,kU,hb⟩:=h
  exact fun p hp=>by
    rcases List.mem_cons.1 hp with rfl|hp
    · rfl
    · rcases List.mem_append.1 hp with hp|hp
      · exact fC.bE p hp
      · rcases List.mem_append.1 hp with hp|hp
        · exact cO.bE p hp
        · exact kU.bE p hp
theorem gV.mono {n0 n1 b:Nat} {x:bf} {wa:List Hd} {m:ab} (h:gV n0 b x wa m) (hn:n1≤n0):gV n1 b x wa m:=by
  obtain ⟨bM,nh,aI,bh,nw,aS,bl,mh,mw,ml,rfl,jx,kR,fC,cO,kU,hb⟩:=h;exact⟨bM,nh,aI,bh,nw,aS,bl,mh,mw,ml,rfl,jx,kR,fC.mono hn,cO.mono hn,kU.mono hn,Nat.le_trans hn hb⟩
theorem Mk {l:List Hd} {t:Int} {i:Nat} (ha:(l.take i).any (fun h=>decide (h.t=t))=false) (hi:i<l.length) (he:(l.getD i default).t=t):nR l t=(i:Nat):=by
  unfold nR;rw [iC default ha hi (decide_eq_true he)]
theorem lD {xs:List Hd} {ad:Option Addr} {n cap:Nat} (task:Int) (w:World) (hn:n=xs.length) (hl:Sr tQ 3 xs (.slice ad n cap) w) (hx:xs.length≤maxLen):aD Tryz.prog 39 #[.slice ad n cap,.int .i64 task] w (fun v w'=>v= .int .i64 (nR xs task)∧Ext w w'):=by
 have Wq:maxLen=9223372036854775807:=(by unfold maxLen;rfl)
 refine aD.ao Tryz.func39 rfl Tryz.ntmps39 rfl ([]) (no) (Mem.nil w) ?_;refine cN ?_;refine af.aP (α:=Nat) (fun i=>[(5,.int .i64 (i:Nat))]) [(0,_),(1,_)] (fun i=>[]) (fun i=>i≤xs.length∧(xs.take i).any (fun h=>decide (h.t=task))=false) (fun i=>xs.length-i) (0) cF aN ⟨Nat.zero_le _,rfl⟩ ?_;rintro i ⟨hi,ha⟩;change af _ _ _ _ _ _ _ ([]) _ _ _;refine J9 ?_;refine af.ak rfl (fun h1=>?_) (fun h1=>?_)
 ·refine cj ?_;refine LM.eh (da (j:=0) aB Tryz.isAgg3 rfl rfl cJ (by rfl) (by rfl) id) ?_;refine J4 ?_;refine af.ak rfl (fun h2=>?_) (fun h2=>?_)
  ·refine cN ?_;refine qL Tryz.results39 rfl fun w' aj aa az=>?_;exact⟨by show Value.int .i64 _=_;rw [Mk ha om h2],aa⟩
  refine J8 ?_;refine aK (i+1) ?_ ?_
  · exact⟨by omega,by rw [dv default om,ha,Bool.false_or];exact decide_eq_false h2⟩
  · omega
 refine c9 ?_;refine qL Tryz.results39 rfl fun w' aj aa az=>?_;have er:i=xs.length:=om;subst er;rw [List.take_length] at ha;exact⟨by show Value.int .i64 _=_;unfold nR;rw [eK ha],aa⟩
theorem md {xs:List Hd} {ad:Option Addr} {n cap:Nat} (p:Int) (w:World) (hn:n=xs.length) (hl:Sr tQ 3 xs (.slice ad n cap) w) (hx:xs.length≤maxLen):aD Tryz.prog 146 #[.slice ad n cap,.int .i64 p] w (fun v w'=>v= .bool (xs.any (fun h=>decide (h.p=p)))∧Ext w w'):=by
 have Wq:maxLen=9223372036854775807:=(by unfold maxLen;rfl)
 refine aD.ao Tryz.func146 rfl Tryz.ntmps146 rfl ([]) (no) (Mem.nil w) ?_;refine cN ?_;refine af.aP (α:=Nat) (fun i=>[(5,.int .i64 (i:Nat))]) [(0,_),(1,_)] (fun i=>[]) (fun i=>i≤xs.length∧(xs.take i).any (fun h=>decide (h.p=p))=false) (fun i=>xs.length-i) (0) cF aN ⟨Nat.zero_le _,rfl⟩ ?_;rintro i ⟨hi,ha⟩;change af _ _ _ _ _ _ _ ([]) _ _ _;refine J9 ?_;refine af.ak rfl (fun h1=>?_) (fun h1=>?_)
 ·refine cj ?_;refine LM.eh (da (j:=1) aB Tryz.isAgg3 rfl rfl cJ (by rfl) (by rfl) id) ?_;refine J4 ?_;refine af.ak rfl (fun h2=>?_) (fun h2=>?_)
  ·refine c9 ?_;refine qL Tryz.results146 rfl fun w' aj aa az=>?_;refine ⟨?_,aa⟩;show Value.bool true=_;congr 1;symm;rw [List.any_eq_true];exact⟨xs.getD i default,by rw [List.getD_eq_getElem?_getD,List.getElem?_eq_getElem om];exact List.getElem_mem _,decide_eq_true h2⟩
  refine J8 ?_;refine aK (i+1) ?_ ?_
  · exact⟨by omega,by rw [dv default om,ha,Bool.false_or];exact decide_eq_false h2⟩
  · omega
 refine c9 ?_;refine qL Tryz.results146 rfl fun w' aj aa az=>?_;have er:i=xs.length:=om;subst er;rw [List.take_length] at ha;exact⟨by rw [ha];rfl,aa⟩
theorem sD {xs:List Hd} {ad:Option Addr} {n cap:Nat} (s:BitVec 64) (w:World) (hn:n=xs.length) (hl:Sr tQ 3 xs (.slice ad n cap) w) (hx:xs.length≤maxLen):aD Tryz.prog 114 #[U s,.slice ad n cap] w (fun v w'=>v=U ((xs.map (·.p)).foldl bZ s)∧Ext w w'):=by
 have Wq:maxLen=9223372036854775807:=(by unfold maxLen;rfl)
 refine aD.ao Tryz.func114 rfl Tryz.ntmps114 rfl ([]) (no) (Mem.nil w) ?_;refine cN ?_;refine af.aP (α:=Nat) (fun i=>[(0,U (((xs.take i).map (·.p)).foldl bZ s)),(5,.int .i64 (i:Nat))]) [(1,_)] (fun i=>[]) (fun i=>i≤xs.length) (fun i=>xs.length-i) (0) ⟨(by first|exact lk rfl (by rw [List.take_zero];rfl)|exact lk rfl (by rw [iE default om,List.foldl_append];rfl)),kO,rfl,trivial⟩ aN (Nat.zero_le _) ?_;rintro i hi;change af _ _ _ _ _ _ _ ([]) _ _ _;refine J9 ?_;refine af.ak rfl (fun h1=>?_) (fun h1=>?_)
 ·refine cj ?_;refine LM.eh (da (j:=1) aB Tryz.isAgg3 rfl rfl cJ (by rfl) (by rfl) id) ?_;refine cE Tryz.func149 rfl (fun w hm hc hg=>qC _ _ w) ?_;refine J9 ?_;refine QM.dq (i+1) ⟨(by first|exact lk rfl (by rw [List.take_zero];rfl)|exact lk rfl (by rw [iE default om,List.foldl_append];rfl)),kO,rfl,trivial⟩ aN (fun _ h=>h) ?_ ?_
  · omega
  · omega
 refine cN ?_;refine qL Tryz.results114 rfl fun w' aj aa az=>?_;have er:i=xs.length:=om;subst er;rw [List.take_length];exact⟨rfl,aa⟩
theorem qP {xs:List Hd} {ad:Option Addr} {n cap:Nat} (i:Nat) (w:World) (hn:n=xs.length) (hl:Sr tQ 3 xs (.slice ad n cap) w) (hi:i<xs.length) (hx:xs.length≤1000000):aD Tryz.prog 99 #[.slice ad n cap,.int .i64 (i:Nat)] w (New tQ 68 3 (xs.eraseIdx i) w):=by
 have jg:=hl.open.2.1;refine aD.ao Tryz.func99 rfl Tryz.ntmps99 rfl ([]) (no) (Mem.nil w) ?_;refine J6 ?_;refine af.draw [(1,0),(2,0),(3,0),(5,0),(6,0),(7,0),(8,0),(0,3),(4,3),(9,3),(10,3)] kr kr ?_;refine J2 ?_;refine LD.val rfl rfl (iH Tryz.underlying56 Tryz.sizeOf68 rfl rfl om om) ?_;refine J2 ?_;refine LD.val rfl rfl (oc rfl rfl om) ?_;refine LD.val rfl rfl (lu (i+1) Tryz.underlying56 Tryz.sizeOf68 rfl rfl om om) ?_;refine LD.tail rfl rfl ?_;refine LM.KL Tryz.underlying56 Tryz.sizeOf68 rfl (fun b5 AA=>?_);have NM:Sl tQ 68 3 w.heap.size ([] :List Hd) (.slice (some ⟨b5,0,none⟩) 0 0) [(b5,.cells (([] :List Value).toArray) 68 (0,0))] := .void AA (Nat.zero_le _) rfl;refine LM.sF (ys:=xs.take i) (m:=[(b5,.cells (([] :List Value).toArray) 68 (0,0))]) Tryz.underlying56 Tryz.typeInfo68 rfl rfl rfl rfl rfl rfl rfl NM (fun w hm hc hg=>(hl.take (k:=i) om).ext hc) ir (by intro _ u hu;simp [tQ] at hu;(repeat (first|(rcases hu with rfl|hu)|subst hu|rfl))) (Nat.le_refl _) (fun p hp bD=>absurd bD (Nat.not_lt_of_le (Sl.ge NM p hp))) (by unfold maxLen;rw [List.length_take];simp only [List.length_nil];omega) (by rw [List.length_take];simp only [Tryz.t68,List.length_nil];omega) (fun Lv n9 vm m9 hn9 Wz Hr=>?_);refine LM.sF (ys:=xs.drop (i+1)) (m:=m9) Tryz.underlying56 Tryz.typeInfo68 rfl rfl rfl rfl rfl rfl rfl Wz (fun w hm hc hg=>(hl.drop (l:=i+1) om).ext hc) ir (by intro _ u hu;simp [tQ] at hu;(repeat (first|(rcases hu with rfl|hu)|subst hu|rfl))) (Nat.le_refl _) (fun p hp bD=>absurd bD (Nat.not_lt_of_le (Sl.ge Wz p hp))) (by unfold maxLen;simp only [List.length_nil,List.length_append,List.length_take,List.length_drop];omega) (by simp only [Tryz.t68,List.length_nil,List.length_append,List.length_take,List.length_drop];omega) (fun amW n14 aht TH akp afA ag5=>?_);refine J2 ?_;refine QM.qn ?_;refine J2 ?_;refine qL Tryz.results99 rfl fun w' aj aa az=>?_;refine ⟨aa,TH,?_,aj.pick _⟩;rw [List.eraseIdx_eq_take_drop_succ];exact afA
theorem lR {n0 b:Nat} {x:bf} {wa:List Hd} {m:ab} (task:Int) (w:World) (h:gV n0 b x wa m) (hM:Mem w m):aD Tryz.prog 12 #[.pointer (some ⟨b,0,none⟩),.int .i64 task] w (fun u w'=>u= .bool ((x.ho).any (fun h=>decide (h.t=task)))∧Ext w w'):=by
 obtain ⟨bM,nh,aI,bh,nw,aS,bl,mh,mw,ml,rfl,jx,kR,fC,cO,kU,hb⟩:=h;refine aD.ao Tryz.func12 rfl Tryz.ntmps12 rfl (dU b x.sh x.sl bM nh aI bh nw aS x.tr bl x.di::(mh++(mw++(ml++ [])))) (no) aM ?_;refine cN ?_;refine cE Tryz.func39 rfl (fun w hm hc hg=>lD task w jx (fC.lK ir hm) fC.len.2.1) ?_;refine J5 ?_;refine qL Tryz.results12 rfl fun w' aj aa az=>?_;exact⟨by show Value.bool (decide (0≤nR (x.ho) task))=_;congr 1;unfold nR fS;cases (x.ho).any (fun h=>decide (h.t=task))<;>simp,aa⟩
theorem rL {n0 b:Nat} {x:bf} {wa:List Hd} {m:ab} (task:Int) (w:World) (h:gV n0 b x wa m) (hM:Mem w m):aD Tryz.prog 13 #[.pointer (some ⟨b,0,none⟩),.int .i64 task] w (fun u w'=>u= .bool ((wa).any (fun h=>decide (h.t=task)))∧Ext w w'):=by
 obtain ⟨bM,nh,aI,bh,nw,aS,bl,mh,mw,ml,rfl,jx,kR,fC,cO,kU,hb⟩:=h;refine aD.ao Tryz.func13 rfl Tryz.ntmps13 rfl (dU b x.sh x.sl bM nh aI bh nw aS x.tr bl x.di::(mh++(mw++(ml++ [])))) (no) aM ?_;refine cN ?_;refine cE Tryz.func39 rfl (fun w hm hc hg=>lD task w kR (cO.lK ir hm) cO.len.2.1) ?_;refine J5 ?_;refine qL Tryz.results13 rfl fun w' aj aa az=>?_;exact⟨by show Value.bool (decide (0≤nR (wa) task))=_;congr 1;unfold nR fS;cases (wa).any (fun h=>decide (h.t=task))<;>simp,aa⟩
theorem zN {n0 b:Nat} {x:bf} {wa:List Hd} {m:ab} (g:Int) (r:Bool) (w:World) (h:gV n0 b x wa m) (hM:Mem w m):aD Tryz.prog 137 #[.pointer (some ⟨b,0,none⟩),.int .i64 g,.bool r] w (fun u w'=>u= .int .i64 (yQ x g r)∧Ext w w'):=by
 obtain ⟨bM,nh,aI,bh,nw,aS,bl,mh,mw,ml,rfl,jx,kR,fC,cO,kU,hb⟩:=h;refine aD.ao Tryz.func137 rfl Tryz.ntmps137 rfl (dU b x.sh x.sl bM nh aI bh nw aS x.tr bl x.di::(mh++(mw++(ml++ [])))) (no) aM ?_;refine kk ?_;refine af.aJ rfl (fun h1=>?_) (fun h1=>?_)
 ·refine J6 ?_;refine af.aJ rfl (fun h2=>?_) (fun h2=>?_)
  ·refine J8 ?_;refine qL Tryz.results137 rfl fun w' aj aa az=>?_;refine ⟨?_,aa⟩;unfold yQ;simp_all [ba]
  refine J9 ?_;refine qL Tryz.results137 rfl fun w' aj aa az=>?_;refine ⟨?_,aa⟩;unfold yQ;simp_all [ba]
 refine J7 ?_;refine LM.bj (t:=13) rfl (fun h3=>?_) (fun h3=>?_)
 ·refine yx ?_;refine qL Tryz.results137 rfl fun w' aj aa az=>?_;refine ⟨?_,aa⟩;unfold yQ;simp_all [ba]
 refine J7 ?_;refine cE Tryz.func73 rfl (fun w hm hc hg=>jD g w kU (hm.pick ml)) ?_;refine J4 ?_;refine af.aJ rfl (fun h4=>?_) (fun h4=>?_)
 ·refine J7 ?_;refine qL Tryz.results137 rfl fun w' aj aa az=>?_;refine ⟨?_,aa⟩;unfold yQ;simp_all [ba]
 refine J9 ?_;refine qL Tryz.results137 rfl fun w' aj aa az=>?_;refine ⟨?_,aa⟩;unfold yQ;simp_all [ba]
theorem zl {n0 b:Nat} {x:bf} {wa:List Hd} {m:ab} (p:Int) (w:World) (h:gV n0 b x wa m) (hM:Mem w m):aD Tryz.prog 170 #[.pointer (some ⟨b,0,none⟩),.int .i64 p] w (fun u w'=>u= .bool (pF x.ld p&&(decide (x.ho.length=0)||(x.sh&&decide (p=0)&& !(x.ho.any (fun h=>decide (h.p=1)))&&(!(wa.any (fun h=>decide (h.p=1)))||z8 x.tr x.sl 0))))∧Ext w w'):=by
 obtain ⟨bM,nh,aI,bh,nw,aS,bl,mh,mw,ml,rfl,jx,kR,fC,cO,kU,hb⟩:=h;refine aD.ao Tryz.func170 rfl Tryz.ntmps170 rfl (dU b x.sh x.sl bM nh aI bh nw aS x.tr bl x.di::(mh++(mw++(ml++ [])))) (no) aM ?_;refine gy ?_;refine cE Tryz.func73 rfl (fun w hm hc hg=>jD p w kU (hm.pick ml)) ?_;refine J3 ?_;refine af.aJ rfl (fun h1=>?_) (fun h1=>?_)
 ·refine J7 ?_;refine qL Tryz.results170 rfl fun w' aj aa az=>?_;refine ⟨?_,aa⟩;have hz:decide (x.ho.length=0)=decide ((nh:Int)=0):=decide_eq_decide.2 om;simp only [ba,hz,h1,decide_true,decide_false,Bool.true_and,Bool.false_and,Bool.and_true,Bool.and_false,Bool.not_true,Bool.not_false,Bool.true_or,Bool.false_or,Bool.or_true,Bool.or_false,ne_eq,not_true_eq_false,not_false_eq_true,Bool.and_self];first|done|(simp_all;done)|(simp_all;omega)
 refine gy ?_;refine af.ak rfl (fun h2=>?_) (fun h2=>?_)
 ·refine J7 ?_;refine qL Tryz.results170 rfl fun w' aj aa az=>?_;refine ⟨?_,aa⟩;have hz:decide (x.ho.length=0)=decide ((nh:Int)=0):=decide_eq_decide.2 om;simp only [ba,hz,h1,h2,decide_true,decide_false,Bool.true_and,Bool.false_and,Bool.and_true,Bool.and_false,Bool.not_true,Bool.not_false,Bool.true_or,Bool.false_or,Bool.or_true,Bool.or_false,ne_eq,not_true_eq_false,not_false_eq_true,Bool.and_self];first|done|(simp_all;done)|(simp_all;omega)
 refine J3 ?_;refine af.draw [(0,0),(1,0),(2,0),(3,1),(4,0),(5,0),(6,0),(7,0),(8,0),(9,0),(10,0),(11,0),(12,1),(13,2),(14,0),(15,0),(16,0),(17,0),(18,0),(19,0),(20,1),(21,2),(22,0),(23,0),(24,0),(25,0),(26,0),(27,1),(28,0),(29,0),(30,0),(31,1),(32,2),(33,0),(34,0),(35,0)] kr kr ?_;refine J5 ?_;refine LD.bj (t:=22) rfl (fun h3=>?_) (fun h3=>?_)
 ·refine J4 ?_;refine LD.aq (t:=26) rfl (fun h4=>?_) (fun h4=>?_)
  ·refine J4 ?_;refine dE rfl ⟨26,_,rfl,rfl,rfl⟩ Tryz.func146 rfl (fun w hm hc hg=>md 1 w jx (fC.lK ir hm) fC.len.2.1) ?_;refine J3 ?_;refine LD.bj (t:=34) rfl (fun h5=>?_) (fun h5=>?_)
   ·refine J4 ?_;refine dE rfl ⟨34,_,rfl,rfl,rfl⟩ Tryz.func146 rfl (fun w hm hc hg=>md 1 w kR (cO.lK ir hm) cO.len.2.1) ?_;refine J2 ?_;refine LD.bj (t:=41) rfl (fun h6=>?_) (fun h6=>?_)
    ·refine py ?_;refine qL Tryz.results170 rfl fun w' aj aa az=>?_;refine ⟨?_,aa⟩;have hz:decide (x.ho.length=0)=decide ((nh:Int)=0):=decide_eq_decide.2 om;simp only [ba,hz,h1,h2,h3,h4,h5,h6,decide_true,decide_false,Bool.true_and,Bool.false_and,Bool.and_true,Bool.and_false,Bool.not_true,Bool.not_false,Bool.true_or,Bool.false_or,Bool.or_true,Bool.or_false,ne_eq,not_true_eq_false,not_false_eq_true,Bool.and_self];first|done|(simp_all;done)|(simp_all;omega)
    refine J3 ?_;refine LD.rd rfl ⟨41,_,rfl,rfl,rfl⟩ (kP Tryz.isAgg58 Tryz.sizeOf58 rfl (vs:=[_,_]) rfl ⟨rfl,rfl,trivial⟩) ?_;refine J4 ?_;refine dE rfl ⟨41,_,rfl,rfl,rfl⟩ Tryz.func171 rfl (fun w hm hc hg=>qJ x.tr _ _ w) ?_;refine J6 ?_;refine qL Tryz.results170 rfl fun w' aj aa az=>?_;refine ⟨?_,aa⟩;have hz:decide (x.ho.length=0)=decide ((nh:Int)=0):=decide_eq_decide.2 om;simp only [ba,hz,h1,h2,h3,h4,h5,h6,decide_true,decide_false,Bool.true_and,Bool.false_and,Bool.and_true,Bool.and_false,Bool.not_true,Bool.not_false,Bool.true_or,Bool.false_or,Bool.or_true,Bool.or_false,ne_eq,not_true_eq_false,not_false_eq_true,Bool.and_self];first|done|(simp_all;done)|(simp_all;omega)
   refine J6 ?_;refine LD.dp rfl rfl ⟨34,_,rfl,rfl,rfl⟩ ?_;refine J8 ?_;refine LD.AY rfl rfl rfl ?_;refine J6 ?_;refine qL Tryz.results170 rfl fun w' aj aa az=>?_;refine ⟨?_,aa⟩;have hz:decide (x.ho.length=0)=decide ((nh:Int)=0):=decide_eq_decide.2 om;simp only [ba,hz,h1,h2,h3,h4,h5,decide_true,decide_false,Bool.true_and,Bool.false_and,Bool.and_true,Bool.and_false,Bool.not_true,Bool.not_false,Bool.true_or,Bool.false_or,Bool.or_true,Bool.or_false,ne_eq,not_true_eq_false,not_false_eq_true,Bool.and_self];first|done|(simp_all;done)|(simp_all;omega)
  refine kk ?_;refine LD.dp rfl rfl ⟨34,_,rfl,rfl,rfl⟩ ?_;refine J8 ?_;refine LD.AY rfl rfl rfl ?_;refine J6 ?_;refine qL Tryz.results170 rfl fun w' aj aa az=>?_;refine ⟨?_,aa⟩;have hz:decide (x.ho.length=0)=decide ((nh:Int)=0):=decide_eq_decide.2 om;simp only [ba,hz,h1,h2,h3,h4,decide_true,decide_false,Bool.true_and,Bool.false_and,Bool.and_true,Bool.and_false,Bool.not_true,Bool.not_false,Bool.true_or,Bool.false_or,Bool.or_true,Bool.or_false,ne_eq,not_true_eq_false,not_false_eq_true,Bool.and_self];first|done|(simp_all;done)|(simp_all;omega)
 refine yx ?_;refine LD.dp rfl rfl ⟨34,_,rfl,rfl,rfl⟩ ?_;refine J8 ?_;refine LD.AY rfl rfl rfl ?_;refine J6 ?_;refine qL Tryz.results170 rfl fun w' aj aa az=>?_;refine ⟨?_,aa⟩;have hz:decide (x.ho.length=0)=decide ((nh:Int)=0):=decide_eq_decide.2 om;simp only [ba,hz,h1,h2,h3,decide_true,decide_false,Bool.true_and,Bool.false_and,Bool.and_true,Bool.and_false,Bool.not_true,Bool.not_false,Bool.true_or,Bool.false_or,Bool.or_true,Bool.or_false,ne_eq,not_true_eq_false,not_false_eq_true,Bool.and_self];first|done|(simp_all;done)|(simp_all;omega)
theorem Be {n0 b nh aI nw aS bl:Nat} {bM bh:Option Addr} {x:bf} {wa:List Hd} {m mh mw ml M:ab} {u0:Value} {w w':World} (jx:nh=x.ho.length) (kR:nw=wa.length) (fC:Sl tQ 68 3 n0 x.ho (.slice bM nh aI) mh) (cO:Sl tQ 68 3 n0 wa (.slice bh nw aS) mw) (kU:yc n0 bl x.ld ml) (hb:n0≤b) (hm:Mem w' M)
    (hs:aV M (dU b x.sh x.sl bM nh aI bh nw aS x.tr bl x.di::(mh++(mw++(ml++ []))))) (hc:cM (eO m) w w') (hbm:eO m b) (h1:de m w.heap.size mh) (h2:de m w.heap.size mw) (h3:de m w.heap.size ml):
    ec m (fun u m'=>u=u0∧gV n0 b x wa m') w u0 w':=by
  rw [List.append_nil] at hs;exact⟨hc,_,⟨rfl,bM,nh,aI,bh,nw,aS,bl,mh,mw,ml,rfl,jx,kR,fC,cO,kU,hb⟩,hs.mem w' hm,fE hbm (bW h1 (bW h2 h3))⟩
theorem Sa {x:bf} {wa:List Hd} (h:wa.map (·.p)=x.wt.map (·.key)):(wa.map (·.p)).foldl bZ ((x.ho.map (·.p)).foldl bZ 0#64)=HH x:=by
  have e:=Iz (x.ho.map (·.p)) (x.wt.map (·.key))
  unfold HH
  rw [←List.foldl_append,h,←e]
  unfold kf
  with_reducible rfl
theorem qc {n0 b:Nat} {x:bf} {wa:List Hd} {m:ab} (task:Int) (w:World) (h:gV n0 b x wa m) (hM:Mem w m):
    aD Tryz.prog 12 #[.pointer (some ⟨b,0,none⟩),.int .i64 task] w (fun u w'=>u= .bool (bu x task)∧Ext w w'):=lR task w h hM
theorem fb {n0 b:Nat} {x:bf} {wa:List Hd} {m:ab} (w:World) (h:gV n0 b x wa m) (hwa:wa.map (·.p)=x.wt.map (·.key)) (hM:Mem w m):aD Tryz.prog 76 #[.pointer (some ⟨b,0,none⟩)] w (ec m (fun u m'=>gV n0 b (cX x) wa m') w):=by
 obtain ⟨bM,nh,aI,bh,nw,aS,bl,mh,mw,ml,rfl,jx,kR,fC,cO,kU,hb⟩:=h;refine aD.ao Tryz.func76 rfl Tryz.ntmps76 rfl (dU b x.sh x.sl bM nh aI bh nw aS x.tr bl x.di::(mh++(mw++(ml++ [])))) ((eO (dy b x bM nh aI bh nw aS bl mh mw ml))) aM ?_;refine af.draw [(0,0),(1,0),(2,0),(3,1),(4,0),(5,0),(6,0),(7,1),(9,0),(10,0),(11,0),(12,1),(8,2),(13,2),(14,3)] kr kr ?_;refine cN ?_;refine dE rfl rfl Tryz.func114 rfl (fun w hm hc hg=>sD 0#64 w jx (fC.lK ir hm) fC.len.2.1) ?_
 generalize HJ:List.foldl bZ 0#64 (List.map (fun h=>h.p) x.ho)=s1
 refine dE rfl rfl Tryz.func114 rfl (fun w hm hc hg=>sD s1 w kR (cO.lK ir hm) cO.len.2.1) ?_
 generalize tF:List.foldl bZ s1 (List.map (fun h=>h.p) wa)=s2;have VL:s2=HH x:=(by rw [←tF,←HJ];exact Sa hwa);subst VL
 refine LD.tail rfl rfl ?_;refine cU Tryz.func113 rfl (fun w hm hc hg=>Eg (HH x) w kU (hm.pick ml)) kU.bE (fun p hp _=>⟨p,by simp [hp],rfl⟩) ?_;rintro u16 m16 r7 Ks;refine J1 ?_;refine QM.qn ?_;refine QM.leave (.inr rfl) [] Tryz.results76 rfl ?_;intro w' aj aa az;exact ec.imp (Be (u0:=ba []) (x:=cX x) jx kR fC cO r7 hb aj aN aa bK c7 c7 (dc Ks (fun p hp=>by simp [hp]))) (fun u m' h=>h.2)
theorem v3 {n0 b:Nat} {x:bf} {wa:List Hd} {m:ab} (t p:Int) (w:World) (h:gV n0 b x wa m) (hwt:wa.any (fun h=>decide (h.t=t))=cC x t) (hM:Mem w m):aD Tryz.prog 169 #[.pointer (some ⟨b,0,none⟩),.int .i64 t,.int .i64 p] w (fun u w'=>u= .int .i64 (cV x t p)∧Ext w w'):=by
 have oI:=h;obtain ⟨bM,nh,aI,bh,nw,aS,bl,mh,mw,ml,rfl,jx,kR,fC,cO,kU,hb⟩:=h;refine aD.ao Tryz.func169 rfl Tryz.ntmps169 rfl (dU b x.sh x.sl bM nh aI bh nw aS x.tr bl x.di::(mh++(mw++(ml++ [])))) (no) aM ?_;refine c9 ?_;refine LM.aq (t:=9) rfl (fun h1=>?_) (fun h1=>?_)
 ·refine yx ?_;refine qL Tryz.results169 rfl fun w' aj aa az=>?_;refine ⟨?_,aa⟩;unfold cV;simp_all [ba];try (intros;omega)
 refine J7 ?_;refine cE Tryz.func73 rfl (fun w hm hc hg=>jD p w kU (hm.pick ml)) ?_;refine J4 ?_;refine af.aJ rfl (fun h2=>?_) (fun h2=>?_)
 ·refine J7 ?_;refine qL Tryz.results169 rfl fun w' aj aa az=>?_;refine ⟨?_,aa⟩;unfold cV;simp_all [ba];try (intros;omega)
 refine J7 ?_;refine cE Tryz.func12 rfl (fun w hm hc hg=>qc t w oI (hm.pick (dy b x bM nh aI bh nw aS bl mh mw ml))) ?_;refine J2 ?_;refine af.aJ rfl (fun h3=>?_) (fun h3=>?_)
 ·refine J7 ?_;refine qL Tryz.results169 rfl fun w' aj aa az=>?_;refine ⟨?_,aa⟩;unfold cV;simp_all [ba];try (intros;omega)
 refine J7 ?_;refine cE Tryz.func13 rfl (fun w hm hc hg=>hwt▸rL t w oI (hm.pick (dy b x bM nh aI bh nw aS bl mh mw ml))) ?_;refine J2 ?_;refine af.aJ rfl (fun h4=>?_) (fun h4=>?_)
 ·refine J7 ?_;refine qL Tryz.results169 rfl fun w' aj aa az=>?_;refine ⟨?_,aa⟩;unfold cV;simp_all [ba];try (intros;omega)
 refine J8 ?_;refine qL Tryz.results169 rfl fun w' aj aa az=>?_;refine ⟨?_,aa⟩;unfold cV;simp_all [ba];try (intros;omega)
theorem pE {n0 b:Nat} {x:bf} {wa:List Hd} {m:ab} (i:Nat) (w:World) (h:gV n0 b x wa m) (hi:i<wa.length) (cm:n0≤w.heap.size) (hx:x.ho.length≤1000) (hw9:wa.length≤1000) (hM:Mem w m):aD Tryz.prog 172 #[.pointer (some ⟨b,0,none⟩),.int .i64 (i:Nat)] w (ec m (fun u m'=>u= .int .i64 (wa.getD i default).t∧gV n0 b (nb x (wa.getD i default).t (wa.getD i default).p) (wa.eraseIdx i) m') w):=by
 obtain ⟨bM,nh,aI,bh,nw,aS,bl,mh,mw,ml,rfl,jx,kR,fC,cO,kU,hb⟩:=h;have WB:=fC.len.2.1;have OH:=cO.len;refine aD.ao Tryz.func172 rfl Tryz.ntmps172 rfl (dU b x.sh x.sl bM nh aI bh nw aS x.tr bl x.di::(mh++(mw++(ml++ [])))) ((eO (dy b x bM nh aI bh nw aS bl mh mw ml))) aM ?_;refine gy ?_;refine LM.rd (kK cO ir Tryz.isAgg68 Tryz.sizeOf68 rfl (by exact aO default hi)) ?_;refine LM.alloc Tryz.zeroValue68 rfl (fun b5 AA=>?_);refine LM.dh Tryz.sizeOf68 rfl rfl rfl rfl df sC ?_;refine LM.mem (aV.mem (M':=(b5,.cells #[.int .i64 (wa.getD i default).t,.int .i64 (wa.getD i default).p,.bool (wa.getD i default).d] 68 (0,0))::dU b x.sh x.sl bM nh aI bh nw aS x.tr bl x.di::(mh++(mw++(ml++ [])))) aN) ?_;refine cj ?_;refine LM.cS (oC Tryz.func99) (fun w hm hc hg=>qP i w kR (cO.lK ir hm) hi om) (fun P5 n19 Gf ZT aex W0=>?_);refine J2 ?_;refine LM.st Tryz.sizeOf56 rfl rfl rfl dW rfl sC ?_;refine LM.mem (aV.mem (M':=(b5,.cells #[.int .i64 (wa.getD i default).t,.int .i64 (wa.getD i default).p,.bool (wa.getD i default).d] 68 (0,0))::dU b x.sh x.sl bM nh aI P5 n19 Gf x.tr bl x.di::(mh++(ZT++(ml++ [])))) aN) ?_;refine J9 ?_;refine LM.st Tryz.sizeOf4 rfl rfl rfl dW rfl sC ?_;refine LM.mem (aV.mem (M':=(b5,.cells #[.int .i64 (wa.getD i default).t,.int .i64 (wa.getD i default).p,.bool x.di] 68 (0,0))::dU b x.sh x.sl bM nh aI P5 n19 Gf x.tr bl x.di::(mh++(ZT++(ml++ [])))) aN) ?_;refine J7 ?_;refine LM.st Tryz.sizeOf4 rfl rfl rfl dW rfl sC ?_;refine LM.mem (aV.mem (M':=(b5,.cells #[.int .i64 (wa.getD i default).t,.int .i64 (wa.getD i default).p,.bool x.di] 68 (0,0))::dU b x.sh x.sl bM nh aI P5 n19 Gf x.tr bl false::(mh++(ZT++(ml++ [])))) aN) ?_;refine J3 ?_;refine af.keep ((b5,.cells #[.int .i64 (wa.getD i default).t,.int .i64 (wa.getD i default).p,.bool x.di] 68 (0,0))::dU b x.sh x.sl bM nh aI P5 n19 Gf x.tr bl false:: []) (fun _=>True) (.one 0 0 (.one 1 0 (.one 2 0 (.one 3 0 (.one 4 1 (.one 5 1 (.one 6 2 (.one 7 2 (.one 8 0 (.one 9 0 (.last 10))))))))))) kr kr aN (fun _ _=>trivial) ?_;refine J5 ?_;refine KD.rd rfl rfl (aL Tryz.isAgg68 Tryz.sizeOf68 rfl rfl) ?_;refine J1 ?_;refine LM.single Tryz.underlying56 Tryz.sizeOf68 Tryz.zeroValue68 rfl rfl rfl rfl rfl (fun VU afZ=>?_);refine J3 ?_;refine LM.app (a:=(⟨(wa.getD i default).t,(wa.getD i default).p,x.di⟩:Hd)) Tryz.underlying56 Tryz.typeInfo68 rfl rfl rfl rfl rfl rfl rfl aB (by rfl) ir (by intro _ u hu;simp [tQ] at hu;(repeat (first|(rcases hu with rfl|hu)|subst hu|rfl))) (by first|exact Nat.le_refl _|omega) (fun p hp _=>⟨p,by simp [hp],rfl⟩) (by first|omega|(unfold maxLen;omega)) (by simp only [Tryz.t68];omega) (fun Lw Wh AX N6 aaH qM wZ=>?_);refine J4 ?_;refine KD.last rfl ?_;refine LM.st Tryz.sizeOf56 rfl rfl rfl dW rfl sC ?_;refine J1 ?_;refine QM.qn ?_;refine J9 ?_;refine qL Tryz.results172 rfl fun w' aj aa az=>?_;exact Be (x:=nb x (wa.getD i default).t (wa.getD i default).p) (by show Wh=(_++_:List Hd).length;rw [List.length_append];omega) aex qM (W0.mono cm) kU hb aj aN aa bK (dc wZ (fun p hp=>by simp [hp])) (fun p hp=> .inl (W0.ge p hp)) c7
def C5 (p:Int) (x:bf) (os:List Int):bf:=os.foldl (fun x t=>nb x t p) x
theorem Ch (p:Int) (x:bf) (os:List Int) (t:Int):C5 p x (os++ [t])=nb (C5 p x os) t p:=by unfold C5;rw [List.foldl_append];rfl
theorem OX (p:Int) (x:bf) (os:List Int):(C5 p x os).ho.length=x.ho.length+os.length:=by
  unfold C5;rw [mN];show (x.ho++_).length=_;rw [List.length_append,rb]
theorem JK {l:List Wt} {i:Nat} (hi:i<l.length):(l.map eW).getD i default=eW (l.getD i default):=by
  rw [List.getD_eq_getElem?_getD,List.getD_eq_getElem?_getD,List.getElem?_map,List.getElem?_eq_getElem hi];rfl
structure IH (x:bf) (p:Int) (n:Nat) (al:Bool) (dn rs:List Wt) (os:List Int):Prop where
  a:dn++rZ p (n-os.length) rs=AD x.wt (dk x p n)
  b:os++((LF rs p).take (n-os.length)).map (·.who)=dk x p n
  c:al=true→os.length+rs.length≤8
  d:dn.length+rs.length+os.length=x.wt.length
theorem IH.init {x:bf} {p:Int} {n:Nat} {al:Bool} (hw:xx x.wt) (h8:x.wt.length≤8):IH x p n al [] x.wt [] :=
  ⟨by rw [List.nil_append,uK _ _ _ hw];rfl,by rw [List.nil_append];rfl,fun _=>by simpa using h8,by simp⟩
theorem IH.fin {x:bf} {p:Int} {n:Nat} {al:Bool} {dn:List Wt} {os:List Int} (h:IH x p n al dn [] os):dn=AD x.wt (dk x p n)∧os=dk x p n:=by
  have ha:=h.a;have hb:=h.b;rw [show rZ p (n-os.length) [] =[] by cases (n-os.length)<;>rfl,List.append_nil] at ha;rw [show LF [] p=[] from rfl,List.take_nil] at hb;exact⟨ha,by simpa using hb⟩
theorem IH.skip {x:bf} {p:Int} {n:Nat} {al:Bool} {dn rs:List Wt} {os:List Int} {w:Wt} (h:IH x p n al dn (w::rs) os) (hs:w.key≠p∨n-os.length=0):IH x p n al (dn++ [w]) rs os:=by
  refine ⟨?_,?_,fun q=>?_,?_⟩
  · rw [←h.a,yJ hs];simp
  · rw [←h.b]
    rcases hs with hs|hs
    · rw [ox hs]
    · rw [hs,List.take_zero,List.take_zero]
  · have:=h.c q;simp at this;omega
  · have:=h.d;simp at this ⊢;omega
theorem IH.Ck {x:bf} {p:Int} {n:Nat} {al:Bool} {dn rs:List Wt} {os:List Int} {w:Wt} (h:IH x p n al dn (w::rs) os) (hk:w.key=p) (hn:0<n-os.length):IH x p n al dn rs (os++ [w.who]):=by
  have e:n-(os++ [w.who]).length=n-os.length-1:=by rw [List.length_append];simp;omega
  refine ⟨?_,?_,fun q=>?_,?_⟩
  · rw [←h.a,Bd hk hn,e]
  · rw [←h.b,oH hk,e]
    obtain ⟨m,hm⟩:∃m,n-os.length=m+1:=⟨n-os.length-1,by omega⟩
    rw [hm,List.take_succ_cons];simp
  · have:=h.c q;simp at this ⊢;omega
  · have:=h.d;simp at this ⊢;omega
def RdT (n0 b k:Nat) (l:List Int) (x:bf) (u:Value) (m:ab):Prop:=∃mr mx,Sl fI 3 1 k l u mr∧m=mr++mx∧gV n0 b x (x.wt.map eW) mx
theorem qv {n0 b k:Nat} {x:bf} {m:ab} (p:Int) (al:Bool) (w:World) (h:gV n0 b x (x.wt.map eW) m) (hwd:xx x.wt) (h8:x.wt.length≤8) (cm:n0≤w.heap.size) (hx:x.ho.length≤900) (hk:k≤w.heap.size) (hM:Mem w m):aD Tryz.prog 145 #[.pointer (some ⟨b,0,none⟩),.int .i64 p,.bool al] w (ec m (RdT n0 b k (dk x p (if al then 8 else 1)) (lS x p (if al then 8 else 1))) w):=by
 refine aD.ao Tryz.func145 rfl Tryz.ntmps145 rfl (m++ []) ((eO m)) aM ?_;refine yi ?_;refine af.aP (α:=List Wt×List Wt×List Int×Option Addr×Nat×Nat×ab×ab) (fun ⟨dn,rs,os,ad,n,cap,mo,mx⟩=>[(7,.slice ad n cap),(8,.int .i64 (dn.length:Nat))]) [(0,_),(1,_),(2,_)] (fun ⟨dn,rs,os,ad,n,cap,mo,mx⟩=>mo++(mx++ [])) (fun ⟨dn,rs,os,ad,n,cap,mo,mx⟩=>IH x p (if al then 8 else 1) al dn rs os∧n=os.length∧Sl fI 3 1 w.heap.size os (.slice ad n cap) mo∧gV n0 b (C5 p x os) ((dn++rs).map eW) mx∧de m w.heap.size mx) (fun ⟨dn,rs,os,ad,n,cap,mo,mx⟩=>rs.length) (([],x.wt,[],none,0,0,[],m)) cF aN ⟨IH.init hwd h8,rfl,.nil _ _ _ _,h,ay _ _⟩ ?_;rintro ⟨dn,rs,os,ad,n,cap,mo,mx⟩ ⟨hG,hn,hO,hL,vJ⟩;change af _ _ _ _ _ _ _ (mo++(mx++ [])) _ _ _;have NU:=hL;obtain ⟨bM,nh,aI,bh,nw,aS,bl,mh,mw,ml,rfl,jx,kR,fC,cO,kU,hb⟩:=hL;refine af.mem (aV.mem (M':=mo++(dU b (C5 p x os).sh (C5 p x os).sl bM nh aI bh nw aS (C5 p x os).tr bl (C5 p x os).di::(mh++(mw++(ml++ []))))) (by rw [List.cons_append,List.append_assoc,List.append_assoc];(repeat' (first|exact aV.nil _|refine aV.cons rfl ?_|refine aV.app ?_)))) ?_;have hdl:((dn++rs).map eW).length=dn.length+rs.length:=(by rw [List.length_map,List.length_append]);have hGd:=hG.d;have er:=OX p x os;refine cN ?_;refine af.ak rfl (fun h1=>?_) (fun h1=>?_)
 ·obtain ⟨v,Ox,rfl⟩:∃v l,rs=v::l:=(by cases rs with|nil=>exfalso;have e0:([] :List Wt).length=0:=rfl;omega|cons v l=>exact⟨v,l,rfl⟩);have Wi:(List.map eW (dn++v::Ox)).getD dn.length default=eW v:=(by rw [JK (by simp),List.getD_eq_getElem?_getD,List.getElem?_append_right (Nat.le_refl _),Nat.sub_self];rfl);have AF:(List.map eW (dn++v::Ox)).eraseIdx dn.length=List.map eW (dn++Ox):=(by rw [List.map_append,List.eraseIdx_append_of_length_le (by rw [List.length_map];exact Nat.le_refl _),List.length_map,Nat.sub_self,List.map_append];rfl);rw [List.length_cons] at hdl hGd;have Qg:(v::Ox).length=Ox.length+1:=List.length_cons ..;refine gy ?_;refine LM.rd (aE (j:=1) aB ir Tryz.isAgg3 rfl rfl cJ rfl (by rfl)) ?_;refine J3 ?_;refine LM.aq (t:=26) rfl (fun h2=>?_) (fun h2=>?_)
  ·rw [Wi] at h2;refine J3 ?_;refine LM.dp (t:=26) rfl rfl rfl ?_;refine yi ?_;refine aK (dn++ [v],Ox,os,ad,n,cap,mo,dy b (C5 p x os) bM nh aI bh nw aS bl mh mw ml) ?_ ?_
   · exact⟨hG.skip (.inl h2),hn,hO,by rw [List.append_assoc];exact NU,vJ⟩
   · (dsimp only;omega)
  rw [Wi] at h2;have Pf:v.key=p:=(by simpa [eW] using h2)
  refine J4 ?_;refine LM.aq (t:=30) rfl (fun h3=>?_) (fun h3=>?_)
  ·refine J6 ?_;refine af.aJ rfl (fun h4=>?_) (fun h4=>?_)
   ·refine cj ?_;refine aK (dn++ [v],Ox,os,ad,n,cap,mo,dy b (C5 p x os) bM nh aI bh nw aS bl mh mw ml) ?_ ?_
    · have IU:al=false:=(by simpa using h4);exact⟨hG.skip (.inr (by rw [IU,if_neg (by decide)];omega)),hn,hO,by rw [List.append_assoc];exact NU,vJ⟩
    · (dsimp only;omega)
   refine J6 ?_;refine cU Tryz.func172 rfl (fun w hm hc hg=>pE dn.length w NU om (Nat.le_trans cm hc.size) om om (hm.pick (dy b (C5 p x os) bM nh aI bh nw aS bl mh mw ml))) NU.bE (au vJ) ?_;rintro u40 Z6 ⟨rfl,C6⟩ p6;rw [Wi,AF] at C6;rw [Wi];rw [show (eW v).p=p from Pf] at C6;refine LM.single Tryz.underlying26 Tryz.sizeOf3 Tryz.zeroValue3 rfl rfl rfl rfl rfl (fun b41 aaG=>?_);refine LM.app (a:=v.who) Tryz.underlying26 Tryz.typeInfo3 rfl rfl rfl rfl rfl rfl rfl aB (by rfl) ir (by intro _ u hu;simp [fI] at hu;(repeat (first|(rcases hu with rfl|hu)|subst hu|rfl))) (by first|exact Nat.le_refl _|omega) (fun p hp bD=>absurd bD (Nat.not_lt_of_le (hO.ge p hp))) (by first|omega|(unfold maxLen;omega)) (by simp only [Tryz.t3];omega) (fun Ph Xw FY NV Zr MH qh=>?_);refine J3 ?_;refine aK (dn,Ox,os++ [v.who],Ph,Xw,FY,NV,Z6) ?_ ?_
   · have IU:al=true:=(by simpa using h4);have hc8:=hG.c IU;rw [List.length_cons] at hc8;exact⟨hG.Ck Pf (by rw [IU,if_pos rfl];omega),by rw [List.length_append,List.length_singleton];omega,MH,by rw [Ch];exact C6,ar vJ p6⟩
   · (dsimp only;omega)
  refine gy ?_;refine cU Tryz.func172 rfl (fun w hm hc hg=>pE dn.length w NU om (Nat.le_trans cm hc.size) om om (hm.pick (dy b (C5 p x os) bM nh aI bh nw aS bl mh mw ml))) NU.bE (au vJ) ?_;rintro u40 Z6 ⟨rfl,C6⟩ p6;rw [Wi,AF] at C6;rw [Wi];rw [show (eW v).p=p from Pf] at C6;refine LM.single Tryz.underlying26 Tryz.sizeOf3 Tryz.zeroValue3 rfl rfl rfl rfl rfl (fun b41 aaG=>?_);refine LM.app (a:=v.who) Tryz.underlying26 Tryz.typeInfo3 rfl rfl rfl rfl rfl rfl rfl aB (by rfl) ir (by intro _ u hu;simp [fI] at hu;(repeat (first|(rcases hu with rfl|hu)|subst hu|rfl))) (by first|exact Nat.le_refl _|omega) (fun p hp bD=>absurd bD (Nat.not_lt_of_le (hO.ge p hp))) (by first|omega|(unfold maxLen;omega)) (by simp only [Tryz.t3];omega) (fun Ph Xw FY NV Zr MH qh=>?_);refine J3 ?_;refine aK (dn,Ox,os++ [v.who],Ph,Xw,FY,NV,Z6) ?_ ?_
  · exact⟨hG.Ck Pf (by have:os.length=0:=om;rw [this];cases al<;>decide),by rw [List.length_append,List.length_singleton];omega,MH,by rw [Ch];exact C6,ar vJ p6⟩
  · (dsimp only;omega)
 refine cN ?_;refine qL Tryz.results145 rfl fun w' aj aa az=>?_;have hrs:rs=[] :=(by apply List.eq_nil_of_length_eq_zero;omega);subst hrs;obtain ⟨hf1,hf2⟩:=hG.fin;subst hf2;refine aY (m':=mo++dy b (C5 p x (dk x p (if al then 8 else 1))) bM nh aI bh nw aS bl mh mw ml) ⟨mo,_,hO.mono hk,rfl,?_⟩ aj aN aa (bW (fun p hp=> .inl (hO.ge p hp)) vJ);rw [Qk,←hf1,fj];rw [List.append_nil] at NU;unfold C5 at NU ⊢;rw [mN] at NU ⊢;exact NU
theorem Sl.aaN {α:Type} {f:α→List Value} {E s n0 b:Nat} (a:α) (hb:n0≤b) (hf:(f a).length=s):Sl f E s n0 [a] (.slice (some ⟨b,0,none⟩) 1 1) [(b,.cells (f a).toArray E (0,0))] :=
  .inr ⟨b,1,[],hb,rfl,by simp [arr],Nat.le_refl _,by decide,by rw [List.length_singleton,Nat.one_mul];rfl⟩
theorem l9 (L:List Wt):(L.map eW).map (·.p)=L.map (·.key):=by rw [List.map_map];rfl
theorem vE (L:List Wt) (t:Int):(L.map eW).any (fun h=>decide (h.t=t))=L.any (fun w=>decide (w.who=t)):=by rw [List.any_map];rfl
theorem Eb (L:List Wt) (p:Int):(L.map eW).any (fun h=>decide (h.p=p))=L.any (fun w=>decide (w.key=p)):=by rw [List.any_map];rfl
theorem F5 (L:List Wt) (p:Int):decide (wU L p=0)= !(L.any (fun w=>decide (w.key=p))):=by
  by_cases c:wU L p=0
  · rw [decide_eq_true c]
    have:LF L p=[] :=List.eq_nil_of_length_eq_zero c
    have h2:L.any (fun w=>decide (w.key=p))=false:=by
      rw [List.any_eq_false];intro w hw q;have:=vO.2 ⟨hw,of_decide_eq_true q⟩;rw [‹LF L p=[]›] at this;cases this
    rw [h2];rfl
  · rw [decide_eq_false c]
    have h2:L.any (fun w=>decide (w.key=p))=true:=by
      rw [List.any_eq_true];cases hl:LF L p with
      |nil=>exfalso;apply c;unfold wU;rw [hl];rfl
      |cons w l=>
        have:w∈LF L p:=by rw [hl];exact List.mem_cons_self ..
        have:=vO.1 this;exact⟨w,this.1,decide_eq_true this.2⟩
    rw [h2];rfl
theorem B6 {x:bf} (h:p8 x) (hs:x.sh=true) (h0:0<x.ho.length):(!(x.ho.any (fun g=>decide (g.p=1))))=decide ((x.ho.getD 0 default).p=0):=by
  have gI:∀g∈x.ho,g.p=0∨g.p=1:=fun g hg=>by
    obtain ⟨i,hi,er⟩:=wM (h.hk g hg);rw [h.l2 hs] at er;omega
  cases hx:x.ho with
  |nil=>rw [hx] at h0;cases h0
  |cons a l=>
    show _=decide (a.p=0)
    have ha:a∈x.ho:=by rw [hx];exact List.mem_cons_self ..
    by_cases c:a.p=0
    · rw [decide_eq_true c]
      have:(a::l).any (fun g=>decide (g.p=1))=false:=by
        rw [List.any_eq_false];intro g hg q;have q2:=of_decide_eq_true q;rcases h.rd hs with r|r
        · have:=r g (by rw [hx];exact hg);omega
        · rw [hx] at r;have hl:l=[] :=List.eq_nil_of_length_eq_zero (by simp at r;simp [r])
          subst hl;rcases List.mem_singleton.1 hg with rfl;omega
      rw [this];rfl
    · rw [decide_eq_false c]
      have:a.p=1:=by rcases gI a ha with q|q;exact absurd q c;exact q
      rw [List.any_cons,decide_eq_true this];rfl
theorem Og {x:bf} (h:p8 x) (p:Int):(pF x.ld p&&(decide (x.ho.length=0)||(x.sh&&decide (p=0)&& !(x.ho.any (fun h=>decide (h.p=1)))&&(!((x.wt.map eW).any (fun h=>decide (h.p=1)))||z8 x.tr x.sl 0))))=gE x p:=by
  unfold gE lr
  rw [Eb,F5]
  by_cases c0:x.ho.length=0
  · rw [decide_eq_true c0];simp
  · rw [decide_eq_false c0,decide_eq_true (show 0<x.ho.length by omega)]
    cases hs:x.sh with
    |false=>simp
    |true=>
      rw [B6 h hs om];cases pF x.ld p<;>cases decide (p=0)<;>cases decide ((x.ho.getD 0 default).p=0)<;>simp
theorem tT {n0 b:Nat} {x:bf} {m:ab} (p:Int) (w:World) (hv:p8 x) (h:gV n0 b x (x.wt.map eW) m) (hM:Mem w m):
    aD Tryz.prog 170 #[.pointer (some ⟨b,0,none⟩),.int .i64 p] w (fun u w'=>u= .bool (gE x p)∧Ext w w'):=by
  have h1:=zl p w h hM;rw [Og hv] at h1;exact h1
def FI (x:bf):Bool:=x.sh&& !(x.ho.any (fun g=>decide (g.p=1)))&& !(x.wt.any (fun w=>decide (w.key=1)))
def yF (x:bf):List Int:=if x.wt.length=0 then [] else if x.ho.length=0 then jd x else if FI x=true then dk x 0 8 else []
def wD (x:bf):bf:=if x.wt.length=0 then x else if x.ho.length=0 then kl x else if FI x=true then lS x 0 8 else x
theorem uV {x:bf} (h:¬x.wt.length=0):jd x=dk (dJ x) (dJ x).tr.p (mZ x)∧kl x=lS (dJ x) (dJ x).tr.p (mZ x):=⟨if_neg h,if_neg h⟩
theorem AK (x:bf):mZ x=if (x.sh&&decide ((dJ x).tr.p=0))=true then 8 else 1:=by
  unfold mZ;congr 1;simp
theorem yH {n0 b k:Nat} {x:bf} {m:ab} (w:World) (hv:p8 x) (h:gV n0 b x (x.wt.map eW) m) (cm:n0≤w.heap.size) (hx:x.ho.length≤900) (hk:k≤w.heap.size) (hM:Mem w m):aD Tryz.prog 100 #[.pointer (some ⟨b,0,none⟩)] w (ec m (RdT n0 b k (yF x) (wD x)) w):=by
 have oI:=h;obtain ⟨bM,nh,aI,bh,nw,aS,bl,mh,mw,ml,rfl,jx,kR,fC,cO,kU,hb⟩:=h;have OH:(x.wt.map eW).length=x.wt.length:=List.length_map ..;refine aD.ao Tryz.func100 rfl Tryz.ntmps100 rfl (dU b x.sh x.sl bM nh aI bh nw aS x.tr bl x.di::(mh++(mw++(ml++ [])))) ((eO (dy b x bM nh aI bh nw aS bl mh mw ml))) aM ?_;refine pQ ?_;refine af.ak rfl (fun h1=>?_) (fun h1=>?_)
 ·refine J7 ?_;refine qL Tryz.results100 rfl fun w' aj aa az=>?_;have hz:x.wt.length=0:=om;rw [show yF x=[] from if_pos hz,show wD x=x from if_pos hz];exact aY (m':=dy b x bM nh aI bh nw aS bl mh mw ml) ⟨[],_,Sl.nil _ _ _ _,rfl,oI⟩ aj aN aa (ay _ _)
 refine gy ?_;refine af.ak rfl (fun h2=>?_) (fun h2=>?_)
 ·refine J6 ?_;refine cE Tryz.func114 rfl (fun w hm hc hg=>sD 0#64 w kR (cO.lK ir hm) cO.len.2.1) ?_
  generalize HJ:List.foldl bZ 0#64 (List.map (fun h=>h.p) (List.map eW x.wt))=s1;have tF:s1=gG x:=(by rw [←HJ];unfold gG kf;rw [←l9]);subst tF
  refine J4 ?_;refine af.draw [(0,0),(1,0),(2,0),(3,0),(4,1),(5,0),(6,0),(7,0),(8,1),(9,0),(10,0),(11,0),(12,0),(13,1),(14,0),(15,2),(16,2),(17,0),(18,0),(19,3)] kr kr ?_;refine J4 ?_;refine LD.rd rfl rfl (kP Tryz.isAgg58 Tryz.sizeOf58 rfl (vs:=[_,_]) rfl ⟨rfl,rfl,trivial⟩) ?_;refine cj ?_;refine dE rfl rfl Tryz.func144 rfl (fun w hm hc hg=>EO _ w kU (hm.pick ml)) ?_;refine dE rfl rfl Tryz.func143 rfl (fun w hm hc hg=>Bu x.tr _ _ _ w) ?_;refine J2 ?_;refine LD.tail rfl rfl ?_;refine LM.st Tryz.sizeOf58 rfl rfl rfl dW rfl sC ?_;refine LM.mem (aV.mem (M':=dU b x.sh x.sl bM nh aI bh nw aS (dJ x).tr bl x.di::(mh++(mw++(ml++ [])))) aN) ?_;refine J1 ?_;refine QM.qn ?_;refine J2 ?_;refine af.draw [(0,0),(1,0),(2,0),(3,0),(4,0),(5,1),(6,0),(7,0),(8,0),(9,1),(10,0),(11,0),(12,0),(13,0),(14,0),(15,1),(16,0),(17,0),(18,3),(19,3)] kr kr ?_;refine c9 ?_;refine LD.bj (t:=50) rfl (fun h3=>?_) (fun h3=>?_)
  ·refine J7 ?_;refine LD.tail rfl rfl ?_;have hF:gV n0 b (dJ x) ((dJ x).wt.map eW) (dU b x.sh x.sl bM nh aI bh nw aS (dJ x).tr bl x.di::(mh++(mw++ml))):=⟨bM,nh,aI,bh,nw,aS,bl,mh,mw,ml,rfl,jx,kR,fC,cO,kU,hb⟩
   refine cU Tryz.func145 rfl (fun w hm hc hg=>qv (k:=k) _ _ w hF hv.wd hv.w8 (Nat.le_trans cm hc.size) hx (Nat.le_trans hk hc.size) (hm.pick (dU b x.sh x.sl bM nh aI bh nw aS (dJ x).tr bl x.di::(mh++(mw++ml))))) hF.bE (fun q hq _=>ET q hq rfl) ?_;rintro u58 WA ⟨JD,B9,U2,rfl,UJ⟩ rq;refine J2 ?_;refine QM.qn ?_;refine J3 ?_;refine qL Tryz.results100 rfl fun w' aj aa az=>?_;have hz:¬x.wt.length=0:=om;have h0:x.ho.length=0:=om;have e1:yF x=jd x:=(by unfold yF;rw [if_neg hz,if_pos h0]);have e2:wD x=kl x:=(by unfold wD;rw [if_neg hz,if_pos h0]);rw [e1,e2,(uV hz).1,(uV hz).2,AK,h3,Bool.true_and];exact aY (m':=JD++B9) ⟨JD,B9,U2,rfl,UJ⟩ aj aN aa (JT rq rfl)
  refine J7 ?_;refine LD.tail rfl rfl ?_;have hF:gV n0 b (dJ x) ((dJ x).wt.map eW) (dU b x.sh x.sl bM nh aI bh nw aS (dJ x).tr bl x.di::(mh++(mw++ml))):=⟨bM,nh,aI,bh,nw,aS,bl,mh,mw,ml,rfl,jx,kR,fC,cO,kU,hb⟩
  refine cU Tryz.func145 rfl (fun w hm hc hg=>qv (k:=k) _ _ w hF hv.wd hv.w8 (Nat.le_trans cm hc.size) hx (Nat.le_trans hk hc.size) (hm.pick (dU b x.sh x.sl bM nh aI bh nw aS (dJ x).tr bl x.di::(mh++(mw++ml))))) hF.bE (fun q hq _=>ET q hq rfl) ?_;rintro u58 WA ⟨JD,B9,U2,rfl,UJ⟩ rq;refine J2 ?_;refine QM.qn ?_;refine J3 ?_;refine qL Tryz.results100 rfl fun w' aj aa az=>?_;have hz:¬x.wt.length=0:=om;have h0:x.ho.length=0:=om;have e1:yF x=jd x:=(by unfold yF;rw [if_neg hz,if_pos h0]);have e2:wD x=kl x:=(by unfold wD;rw [if_neg hz,if_pos h0]);rw [e1,e2,(uV hz).1,(uV hz).2,AK,h3,Bool.false_and];exact aY (m':=JD++B9) ⟨JD,B9,U2,rfl,UJ⟩ aj aN aa (JT rq rfl)
 refine cj ?_;refine LM.bj (t:=63) rfl (fun h4=>?_) (fun h4=>?_)
 ·refine J6 ?_;refine cE Tryz.func146 rfl (fun w hm hc hg=>md 1 w jx (fC.lK ir hm) fC.len.2.1) ?_;refine J3 ?_;refine LM.bj (t:=71) rfl (fun h5=>?_) (fun h5=>?_)
  ·refine J6 ?_;refine cE Tryz.func146 rfl (fun w hm hc hg=>md 1 w kR (cO.lK ir hm) cO.len.2.1) ?_;refine J4 ?_;refine af.aJ rfl (fun h6=>?_) (fun h6=>?_)
   ·refine J3 ?_;refine cU Tryz.func145 rfl (fun w hm hc hg=>qv (k:=k) 0 true w oI hv.wd hv.w8 (Nat.le_trans cm hc.size) hx (Nat.le_trans hk hc.size) (hm.pick (dy b x bM nh aI bh nw aS bl mh mw ml))) oI.bE (fun q hq _=>⟨q,hq,rfl⟩) ?_;rintro u80 m80 ⟨Yw,aam,adz,rfl,h80⟩ RA;refine J5 ?_;refine qL Tryz.results100 rfl fun w' aj aa az=>?_;have hn:FI x=true:=(by unfold FI;rw [←Eb,h4,h5,h6];rfl);have hz:¬x.wt.length=0:=om;have h0:¬x.ho.length=0:=om;have e1:yF x=dk x 0 8:=(by unfold yF;rw [if_neg hz,if_neg h0,if_pos hn]);have e2:wD x=lS x 0 8:=(by unfold wD;rw [if_neg hz,if_neg h0,if_pos hn]);rw [e1,e2];exact aY (m':=Yw++aam) ⟨Yw,aam,adz,rfl,h80⟩ aj aN aa RA
   refine J8 ?_;refine qL Tryz.results100 rfl fun w' aj aa az=>?_;have hn:FI x=false:=(by unfold FI;rw [←Eb,h6];simp);have hz:¬x.wt.length=0:=om;have h0:¬x.ho.length=0:=om;have e1:yF x=[] :=(by unfold yF;rw [if_neg hz,if_neg h0,if_neg (by rw [hn];simp)]);have e2:wD x=x:=(by unfold wD;rw [if_neg hz,if_neg h0,if_neg (by rw [hn];simp)]);rw [e1,e2];exact aY (m':=dy b x bM nh aI bh nw aS bl mh mw ml) ⟨[],_,Sl.nil _ _ _ _,rfl,oI⟩ aj aN aa (ay _ _)
  refine yx ?_;refine qL Tryz.results100 rfl fun w' aj aa az=>?_;have hn:FI x=false:=(by unfold FI;rw [h5];simp);have hz:¬x.wt.length=0:=om;have h0:¬x.ho.length=0:=om;have e1:yF x=[] :=(by unfold yF;rw [if_neg hz,if_neg h0,if_neg (by rw [hn];simp)]);have e2:wD x=x:=(by unfold wD;rw [if_neg hz,if_neg h0,if_neg (by rw [hn];simp)]);rw [e1,e2];exact aY (m':=dy b x bM nh aI bh nw aS bl mh mw ml) ⟨[],_,Sl.nil _ _ _ _,rfl,oI⟩ aj aN aa (ay _ _)
 refine J26 ?_;refine qL Tryz.results100 rfl fun w' aj aa az=>?_;have hn:FI x=false:=(by unfold FI;rw [h4];simp);have hz:¬x.wt.length=0:=om;have h0:¬x.ho.length=0:=om;have e1:yF x=[] :=(by unfold yF;rw [if_neg hz,if_neg h0,if_neg (by rw [hn];simp)]);have e2:wD x=x:=(by unfold wD;rw [if_neg hz,if_neg h0,if_neg (by rw [hn];simp)]);rw [e1,e2];exact aY (m':=dy b x bM nh aI bh nw aS bl mh mw ml) ⟨[],_,Sl.nil _ _ _ _,rfl,oI⟩ aj aN aa (ay _ _)
theorem Gw (x:bf) (t p:Int):(cR x t p).wt=x.wt:=by
  unfold cR;split
  · rfl
  · show (ca x p).wt=x.wt;exact(ff x p).2.2.1
theorem A5 {n0 b:Nat} {x:bf} {m:ab} (t p:Int) (w:World) (hv:p8 x) (h:gV n0 b x (x.wt.map eW) m) (cm:n0≤w.heap.size) (hx:x.ho.length≤900) (hM:Mem w m):aD Tryz.prog 138 #[.pointer (some ⟨b,0,none⟩),.int .i64 t,.int .i64 p] w (ec m (fun u m'=>u= .int .i64 (dx x t p)∧gV n0 b (cR x t p) ((cR x t p).wt.map eW) m') w):=by
 have oI:=h;obtain ⟨bM,nh,aI,bh,nw,aS,bl,mh,mw,ml,rfl,jx,kR,fC,cO,kU,hb⟩:=h;have OH:(x.wt.map eW).length=x.wt.length:=List.length_map ..;have hw8:=hv.w8;refine aD.ao Tryz.func138 rfl Tryz.ntmps138 rfl (dU b x.sh x.sl bM nh aI bh nw aS x.tr bl x.di::(mh++(mw++(ml++ [])))) ((eO (dy b x bM nh aI bh nw aS bl mh mw ml))) aM ?_;refine cj ?_;refine cE Tryz.func169 rfl (fun w hm hc hg=>v3 t p w oI (vE _ _) (hm.pick (dy b x bM nh aI bh nw aS bl mh mw ml))) ?_;refine cj ?_;refine af.ak rfl (fun h1=>?_) (fun h1=>?_)
 ·refine J8 ?_;refine qL Tryz.results138 rfl fun w' aj aa az=>?_;have e1:dx x t p=cV x t p:=if_pos (by simpa using h1);have e2:cR x t p=x:=if_pos (by rw [e1];simpa using h1);rw [e1,e2];exact aY (m':=dy b x bM nh aI bh nw aS bl mh mw ml) ⟨rfl,oI⟩ aj aN aa (ay _ _)
 refine J7 ?_;refine cE Tryz.func170 rfl (fun w hm hc hg=>tT p w hv oI (hm.pick (dy b x bM nh aI bh nw aS bl mh mw ml))) ?_;refine J3 ?_;refine af.aJ rfl (fun h2=>?_) (fun h2=>?_)
 ·refine J7 ?_;refine qL Tryz.results138 rfl fun w' aj aa az=>?_;have k1:cV x t p=0:=(by simpa using h1);have k2:¬gE x p=true:=(by simpa using h2);have e1:dx x t p=8:=(by unfold dx;rw [if_neg (by rw [k1];simp),if_neg k2]);have e2:cR x t p=x:=if_pos (by rw [e1];decide);rw [e1,e2];exact aY (m':=dy b x bM nh aI bh nw aS bl mh mw ml) ⟨rfl,oI⟩ aj aN aa (ay _ _)
 refine J4 ?_;refine af.draw [(0,0),(1,0),(2,0),(3,1),(4,0),(5,0),(6,0),(7,0),(8,0),(9,0),(10,1),(11,0),(12,0),(13,0),(14,1),(15,0),(16,2),(17,0),(18,0)] kr kr ?_;refine J7 ?_;refine LD.aq (t:=25) rfl (fun h3=>?_) (fun h3=>?_)
 ·refine J3 ?_;refine LD.rd rfl ⟨25,_,rfl,rfl,rfl⟩ (kP Tryz.isAgg58 Tryz.sizeOf58 rfl (vs:=[_,_]) rfl ⟨rfl,rfl,trivial⟩) ?_;refine J5 ?_;refine dE rfl ⟨25,_,rfl,rfl,rfl⟩ Tryz.func171 rfl (fun w hm hc hg=>qJ x.tr _ _ w) ?_;refine J4 ?_;refine af.bC (α:=vT) (fun tr=>[]) [(0,_),(1,_),(2,_)] (fun tr=>dU b x.sh x.sl bM nh aI bh nw aS tr bl x.di::(mh++(mw++(ml++ [])))) (fun tr=> {x with tr:=tr} =ca x p) cF ?_ ?_
  ·refine af.aJ rfl (fun h4=>?_) (fun h4=>?_)
   ·refine J3 ?_;refine LM.val (aC (cs:=#[.int .i64 p,.int .i64 0]) rfl kr) ?_;refine J2 ?_;refine LM.st Tryz.sizeOf58 rfl rfl rfl dW rfl sC ?_;refine J1 ?_;refine mK ((⟨p,0⟩:vT)) ?_
    · exact(if_pos ⟨by omega,by simpa using h4⟩).symm
   refine J1 ?_;refine mK (x.tr) ?_
   · exact(if_neg (fun q=>by rw [q.2] at h4;cases h4)).symm
  rintro tr Ql;change QM _ _ _ _ _ (dU b x.sh x.sl bM nh aI bh nw aS tr bl x.di::(mh++(mw++(ml++ [])))) _ _ _;refine J6 ?_;refine LM.val (aC (cs:=#[.int .i64 t,.int .i64 p,.bool false]) rfl kr) ?_;refine LM.single Tryz.underlying56 Tryz.sizeOf68 Tryz.zeroValue68 rfl rfl rfl rfl rfl (fun O7 TG=>?_);refine LM.mem (aV.mem (M':=(O7,.cells (tQ (⟨t,p,false⟩:Hd)).toArray 68 (0,0))::dU b x.sh x.sl bM nh aI bh nw aS tr bl x.di::(mh++(mw++(ml++ [])))) aN) ?_;have Mv:Sl tQ 68 3 w.heap.size [(⟨t,p,false⟩:Hd)] (.slice (some ⟨O7,0,none⟩) 1 1) [(O7,.cells (tQ (⟨t,p,false⟩:Hd)).toArray 68 (0,0))] :=Sl.aaN _ TG rfl;refine J4 ?_;refine LM.sF (ys:=x.wt.map eW) (m:=[(O7,.cells (tQ (⟨t,p,false⟩:Hd)).toArray 68 (0,0))]) Tryz.underlying56 Tryz.typeInfo68 rfl rfl rfl rfl rfl rfl rfl Mv (fun w hm hc hg=>cO.lK ir hm) ir (by intro _ u hu;simp [tQ] at hu;(repeat (first|(rcases hu with rfl|hu)|subst hu|rfl))) (Nat.le_refl _) (fun p hp bD=>absurd bD (Nat.not_lt_of_le (Sl.ge Mv p hp))) (by unfold maxLen;simp only [List.length_singleton];omega) (by simp only [Tryz.t68,List.length_singleton];omega) (fun so DH kF C3 Mw Dy FW=>?_);refine J2 ?_;refine LM.st Tryz.sizeOf56 rfl rfl rfl dW rfl sC ?_;refine LM.mem (aV.mem (M':=dU b x.sh x.sl bM nh aI so DH kF tr bl x.di::(mh++(C3++(ml++ [])))) aN) ?_;refine J4 ?_;have hF:gV n0 b (ca x p) (⟨t,p,false⟩::x.wt.map eW) (dU b x.sh x.sl bM nh aI so DH kF tr bl x.di::(mh++(C3++ml))):=(by rw [←Ql];exact⟨bM,nh,aI,so,DH,kF,bl,mh,C3,ml,rfl,jx,by rw [Mw];simp only [List.length_cons,List.length_nil];omega,fC,Dy.mono cm,kU,hb⟩);have gK:de (dy b x bM nh aI bh nw aS bl mh mw ml) w.heap.size (dU b x.sh x.sl bM nh aI so DH kF tr bl x.di::(mh++(C3++ml))):=fE bK (bW c7 (bW (fun p hp=> .inl (Dy.ge p hp)) c7));refine J1 ?_;refine cU Tryz.func172 rfl (fun w hm hc hg=>pE 0 w hF (by rw [List.length_cons];omega) (Nat.le_trans cm hc.size) (by rw [(ff x p).2.1];omega) (by rw [List.length_cons];omega) (hm.pick (dU b x.sh x.sl bM nh aI so DH kF tr bl x.di::(mh++(C3++ml))))) hF.bE (au gK) ?_;rintro u56 GH ⟨-,h56⟩ xa;have Sg:gV n0 b (nb (ca x p) t p) (x.wt.map eW) GH:=h56;refine J5 ?_;refine cU Tryz.func76 rfl (fun w hm hc hg=>fb w Sg (by show _=(ca x p).wt.map _;rw [vq,l9]) (hm.pick GH)) h56.bE (au (ar gK xa)) ?_;rintro u58 WA UJ rq;refine J8 ?_;refine qL Tryz.results138 rfl fun w' aj aa az=>?_;have k1:cV x t p=0:=(by simpa using h1);have k2:gE x p=true:=(by simpa using h2);have e1:dx x t p=0:=(by unfold dx;rw [if_neg (by rw [k1];simp),if_pos k2]);have e2:cR x t p=cX (nb (ca x p) t p):=if_neg (by rw [e1];simp);rw [Gw,e1,e2];exact aY (m':=WA) ⟨rfl,UJ⟩ aj aN aa (ar (ar gK xa) rq)
 refine kk ?_;refine af.bC (α:=vT) (fun tr=>[]) [(0,_),(1,_),(2,_)] (fun tr=>dU b x.sh x.sl bM nh aI bh nw aS tr bl x.di::(mh++(mw++(ml++ [])))) (fun tr=> {x with tr:=tr} =ca x p) cF ?_ ?_
 ·refine J2 ?_;refine mK (x.tr) ?_
  · exact(if_neg (fun q=>by omega)).symm
 rintro tr Ql;change QM _ _ _ _ _ (dU b x.sh x.sl bM nh aI bh nw aS tr bl x.di::(mh++(mw++(ml++ [])))) _ _ _;refine J6 ?_;refine LM.val (aC (cs:=#[.int .i64 t,.int .i64 p,.bool false]) rfl kr) ?_;refine LM.single Tryz.underlying56 Tryz.sizeOf68 Tryz.zeroValue68 rfl rfl rfl rfl rfl (fun O7 TG=>?_);refine LM.mem (aV.mem (M':=(O7,.cells (tQ (⟨t,p,false⟩:Hd)).toArray 68 (0,0))::dU b x.sh x.sl bM nh aI bh nw aS tr bl x.di::(mh++(mw++(ml++ [])))) aN) ?_;have Mv:Sl tQ 68 3 w.heap.size [(⟨t,p,false⟩:Hd)] (.slice (some ⟨O7,0,none⟩) 1 1) [(O7,.cells (tQ (⟨t,p,false⟩:Hd)).toArray 68 (0,0))] :=Sl.aaN _ TG rfl;refine J4 ?_;refine LM.sF (ys:=x.wt.map eW) (m:=[(O7,.cells (tQ (⟨t,p,false⟩:Hd)).toArray 68 (0,0))]) Tryz.underlying56 Tryz.typeInfo68 rfl rfl rfl rfl rfl rfl rfl Mv (fun w hm hc hg=>cO.lK ir hm) ir (by intro _ u hu;simp [tQ] at hu;(repeat (first|(rcases hu with rfl|hu)|subst hu|rfl))) (Nat.le_refl _) (fun p hp bD=>absurd bD (Nat.not_lt_of_le (Sl.ge Mv p hp))) (by unfold maxLen;simp only [List.length_singleton];omega) (by simp only [Tryz.t68,List.length_singleton];omega) (fun so DH kF C3 Mw Dy FW=>?_);refine J2 ?_;refine LM.st Tryz.sizeOf56 rfl rfl rfl dW rfl sC ?_;refine LM.mem (aV.mem (M':=dU b x.sh x.sl bM nh aI so DH kF tr bl x.di::(mh++(C3++(ml++ [])))) aN) ?_;refine J4 ?_;have hF:gV n0 b (ca x p) (⟨t,p,false⟩::x.wt.map eW) (dU b x.sh x.sl bM nh aI so DH kF tr bl x.di::(mh++(C3++ml))):=(by rw [←Ql];exact⟨bM,nh,aI,so,DH,kF,bl,mh,C3,ml,rfl,jx,by rw [Mw];simp only [List.length_cons,List.length_nil];omega,fC,Dy.mono cm,kU,hb⟩);have gK:de (dy b x bM nh aI bh nw aS bl mh mw ml) w.heap.size (dU b x.sh x.sl bM nh aI so DH kF tr bl x.di::(mh++(C3++ml))):=fE bK (bW c7 (bW (fun p hp=> .inl (Dy.ge p hp)) c7));refine J1 ?_;refine cU Tryz.func172 rfl (fun w hm hc hg=>pE 0 w hF (by rw [List.length_cons];omega) (Nat.le_trans cm hc.size) (by rw [(ff x p).2.1];omega) (by rw [List.length_cons];omega) (hm.pick (dU b x.sh x.sl bM nh aI so DH kF tr bl x.di::(mh++(C3++ml))))) hF.bE (au gK) ?_;rintro u56 GH ⟨-,h56⟩ xa;have Sg:gV n0 b (nb (ca x p) t p) (x.wt.map eW) GH:=h56;refine J5 ?_;refine cU Tryz.func76 rfl (fun w hm hc hg=>fb w Sg (by show _=(ca x p).wt.map _;rw [vq,l9]) (hm.pick GH)) h56.bE (au (ar gK xa)) ?_;rintro u58 WA UJ rq;refine J8 ?_;refine qL Tryz.results138 rfl fun w' aj aa az=>?_;have k1:cV x t p=0:=(by simpa using h1);have k2:gE x p=true:=(by simpa using h2);have e1:dx x t p=0:=(by unfold dx;rw [if_neg (by rw [k1];simp),if_pos k2]);have e2:cR x t p=cX (nb (ca x p) t p):=if_neg (by rw [e1];simp);rw [Gw,e1,e2];exact aY (m':=WA) ⟨rfl,UJ⟩ aj aN aa (ar (ar gK xa) rq)
theorem BF {n0 b:Nat} {x:bf} {m:ab} (t p:Int) (w:World) (hv:p8 x) (h:gV n0 b x (x.wt.map eW) m) (cm:n0≤w.heap.size) (hM:Mem w m):aD Tryz.prog 141 #[.pointer (some ⟨b,0,none⟩),.int .i64 t,.int .i64 p] w (ec m (fun u m'=>u= .int .i64 (jT x t p)∧gV n0 b (dQ x t p) ((dQ x t p).wt.map eW) m') w):=by
 have oI:=h;obtain ⟨bM,nh,aI,bh,nw,aS,bl,mh,mw,ml,rfl,jx,kR,fC,cO,kU,hb⟩:=h;have OH:(x.wt.map eW).length=x.wt.length:=List.length_map ..;have hw8:=hv.w8;refine aD.ao Tryz.func141 rfl Tryz.ntmps141 rfl (dU b x.sh x.sl bM nh aI bh nw aS x.tr bl x.di::(mh++(mw++(ml++ [])))) ((eO (dy b x bM nh aI bh nw aS bl mh mw ml))) aM ?_;refine cj ?_;refine cE Tryz.func169 rfl (fun w hm hc hg=>v3 t p w oI (vE _ _) (hm.pick (dy b x bM nh aI bh nw aS bl mh mw ml))) ?_;refine cj ?_;refine af.ak rfl (fun h1=>?_) (fun h1=>?_)
 ·refine J8 ?_;refine qL Tryz.results141 rfl fun w' aj aa az=>?_;have e1:jT x t p=cV x t p:=if_pos (by simpa using h1);have e2:dQ x t p=x:=if_pos (by rw [e1];simpa using h1);rw [e1,e2];exact aY (m':=dy b x bM nh aI bh nw aS bl mh mw ml) ⟨rfl,oI⟩ aj aN aa (ay _ _)
 refine J7 ?_;refine cE Tryz.func170 rfl (fun w hm hc hg=>tT p w hv oI (hm.pick (dy b x bM nh aI bh nw aS bl mh mw ml))) ?_;refine J2 ?_;refine af.aJ rfl (fun h2=>?_) (fun h2=>?_)
 ·refine J7 ?_;refine qL Tryz.results141 rfl fun w' aj aa az=>?_;have k1:cV x t p=0:=(by simpa using h1);have e1:jT x t p=4:=(by unfold jT;rw [if_neg (by rw [k1];simp),if_pos h2]);have e2:dQ x t p=x:=if_pos (by rw [e1];decide);rw [e1,e2];exact aY (m':=dy b x bM nh aI bh nw aS bl mh mw ml) ⟨rfl,oI⟩ aj aN aa (ay _ _)
 refine gy ?_;refine af.ak rfl (fun h3=>?_) (fun h3=>?_)
 ·refine J7 ?_;refine qL Tryz.results141 rfl fun w' aj aa az=>?_;have k1:cV x t p=0:=(by simpa using h1);have h8:8≤x.wt.length:=om;have e1:jT x t p=3:=(by unfold jT;rw [if_neg (by rw [k1];simp),if_neg (by rw [h2];simp),if_pos h8]);have e2:dQ x t p=x:=if_pos (by rw [e1];decide);rw [e1,e2];exact aY (m':=dy b x bM nh aI bh nw aS bl mh mw ml) ⟨rfl,oI⟩ aj aN aa (ay _ _)
 refine c9 ?_;refine LM.val (aC (cs:=#[.int .i64 t,.int .i64 p,.bool false]) rfl kr) ?_;refine LM.single Tryz.underlying56 Tryz.sizeOf68 Tryz.zeroValue68 rfl rfl rfl rfl rfl (fun b32 akz=>?_);refine LM.app (a:=(⟨t,p,false⟩:Hd)) Tryz.underlying56 Tryz.typeInfo68 rfl rfl rfl rfl rfl rfl rfl aB (by rfl) ir (by intro _ u hu;simp [tQ] at hu;(repeat (first|(rcases hu with rfl|hu)|subst hu|rfl))) (by first|exact Nat.le_refl _|omega) (fun p hp _=>⟨p,by simp [hp],rfl⟩) (by first|omega|(unfold maxLen;omega)) (by simp only [Tryz.t68];omega) (fun Kg Zf Cy II amF afC Rr=>?_);refine J2 ?_;refine LM.st Tryz.sizeOf56 rfl rfl rfl dW rfl sC ?_;refine LM.mem (aV.mem (M':=dU b x.sh x.sl bM nh aI Kg Zf Cy x.tr bl x.di::(mh++(II++(ml++ [])))) aN) ?_;refine J4 ?_;have C6:gV n0 b {x with wt:=x.wt++ [⟨t,p,0#64⟩] } ((x.wt++ [(⟨t,p,0#64⟩:Wt)]).map eW) (dU b x.sh x.sl bM nh aI Kg Zf Cy x.tr bl x.di::(mh++(II++ml))):=⟨bM,nh,aI,Kg,Zf,Cy,bl,mh,II,ml,rfl,jx,by rw [List.length_map,List.length_append,List.length_singleton];omega,fC,by rw [List.map_append];exact afC,kU,hb⟩;have p6:de (dy b x bM nh aI bh nw aS bl mh mw ml) w.heap.size (dU b x.sh x.sl bM nh aI Kg Zf Cy x.tr bl x.di::(mh++(II++ml))):=fE bK (bW c7 (bW (dc Rr (fun p hp=>by simp [hp])) c7));refine J1 ?_;refine cU Tryz.func76 rfl (fun w hm hc hg=>fb w C6 (l9 _) (hm.pick (dU b x.sh x.sl bM nh aI Kg Zf Cy x.tr bl x.di::(mh++(II++ml))))) C6.bE (au p6) ?_;rintro u37 N6 h37 wZ;refine J8 ?_;refine qL Tryz.results141 rfl fun w' aj aa az=>?_;have k1:cV x t p=0:=(by simpa using h1);have h8:¬8≤x.wt.length:=om;have e1:jT x t p=0:=(by unfold jT;rw [if_neg (by rw [k1];simp),if_neg (by rw [h2];simp),if_neg h8]);have e2:dQ x t p=cX {x with wt:=x.wt++ [⟨t,p,0#64⟩] } :=if_neg (by rw [e1];simp);rw [e1,e2];exact aY (m':=N6) ⟨rfl,h37⟩ aj aN aa (ar p6 wZ)
def UnD (n0 b k:Nat) (l:List Int) (y:Value) (x:bf) (u:Value) (m:ab):Prop:=∃v mr mx,u= .tuple #[v,y]∧Sl fI 3 1 k l v mr∧m=mr++mx∧gV n0 b x (x.wt.map eW) mx
theorem CA {y:bf} (h:y.ho.length=0):yF y=jd y∧wD y=kl y:=by
  unfold yF wD
  by_cases c:y.wt.length=0
  · rw [if_pos c,if_pos c];exact⟨(if_pos c).symm,(if_pos c).symm⟩
  · rw [if_neg c,if_neg c,if_pos h,if_pos h]
    exact⟨rfl,rfl⟩
theorem MC {y:bf} (h:y.wt.length=0) (p:Int) (n:Nat):dk y p n=[]∧lS y p n=y:=by
  have hw:=List.eq_nil_of_length_eq_zero h;have e:dk y p n=[] :=by unfold dk;rw [hw];show (List.take n []).map _=[];rw [List.take_nil];rfl
  refine ⟨e,?_⟩
  unfold lS;rw [e];rfl
theorem aal {x:bf} {t:Int} (h:lM x) (hw:cC x t=true):qk x t=yF (du x t)∧fY x t=cX (wD (du x t)):=by
  have fi:x.ho.length≠0:=fun q=>by
    have:=h.em q
    unfold cC at hw
    rw [List.eq_nil_of_length_eq_zero this] at hw;cases hw
  have gZ:FI (du x t)=(lr x&&decide (wU (du x t).wt 1=0)):=by
    rw [F5];unfold FI lr
    show (x.sh&&_&&_)=_
    cases hs:x.sh with
    |false=>rfl
    |true=>
      have:=B6 h.top8 hs om;rw [decide_eq_true (show 0<x.ho.length by omega)]
      show (true&& !(x.ho.any _)&&_)=_
      rw [this];rfl
  by_cases c:lr x=true∧wU (du x t).wt 1=0
  · obtain ⟨e1,e2⟩:=Za hw c
    rw [e1,e2]
    by_cases cw:(du x t).wt.length=0
    · obtain ⟨a1,a2⟩:=MC cw 0 8
      rw [a1,a2];unfold yF wD;rw [if_pos cw,if_pos cw];exact⟨rfl,rfl⟩
    · have hn:FI (du x t)=true:=by rw [gZ,c.1,decide_eq_true c.2];rfl
      unfold yF wD
      rw [if_neg cw,if_neg cw,if_neg (show¬(du x t).ho.length=0 from fi),if_neg (show¬(du x t).ho.length=0 from fi),if_pos hn,if_pos hn];exact⟨rfl,rfl⟩
  · obtain ⟨e1,e2⟩:=Sq hw c
    rw [e1,e2]
    have hn:¬FI (du x t)=true:=by
      rw [gZ];intro q;simp only [Bool.and_eq_true,decide_eq_true_eq] at q;exact c q
    unfold yF wD
    by_cases cw:(du x t).wt.length=0
    · rw [if_pos cw,if_pos cw];exact⟨rfl,rfl⟩
    · rw [if_neg cw,if_neg cw,if_neg (show¬(du x t).ho.length=0 from fi),if_neg (show¬(du x t).ho.length=0 from fi),if_neg hn,if_neg hn];exact⟨rfl,rfl⟩
theorem SB (x:bf) (t:Int) (h:bu x t=true):eQ x t=cX (if (fu x t).ho.length=0 then wD (fu x t) else fu x t):=by
  unfold eQ;rw [if_pos h]
  by_cases c:(fu x t).ho.length=0
  · rw [if_pos c,if_pos c,(CA c).2]
  · rw [if_neg c,if_neg c]
theorem UD {L:List Wt} {t:Int} (h:nR (L.map eW) t<0):L.any (fun w=>decide (w.who=t))=false:=by
  unfold nR fS at h
  rw [←vE];cases c:(L.map eW).any (fun h=>decide (h.t=t)) with
  |false=>rfl
  |true=>rw [c] at h;simp at h;omega
theorem OM {L:List Wt} {t:Int} (hw:xx L) (h:¬nR (L.map eW) t<0):L.any (fun w=>decide (w.who=t))=true∧∃i:Nat,nR (L.map eW) t=(i:Int)∧i<L.length∧L.eraseIdx i=Df L t:=by
  have hc:(L.map eW).any (fun h=>decide (h.t=t))=true:=by
    cases c:(L.map eW).any (fun h=>decide (h.t=t)) with
    |true=>rfl
    |false=>exfalso;apply h;unfold nR fS;rw [c];simp
  have h1:(L.map eW).findIdx (fun h=>decide (h.t=t))<(L.map eW).length:=List.findIdx_lt_length.2 (by rw [List.any_eq_true] at hc;exact hc);have h2:=List.findIdx_getElem (w:=h1);have h0:nR (L.map eW) t=((L.map eW).findIdx (fun h=>decide (h.t=t)):Nat):=by unfold nR fS;exact if_pos hc
  have h3:(L.map eW).findIdx (fun h=>decide (h.t=t))<L.length:=by rw [List.length_map] at h1;exact h1
  refine ⟨by rw [←vE];exact hc,_,h0,h3,?_⟩;rw [List.getElem_map] at h2;have h4:(L[(L.map eW).findIdx (fun h=>decide (h.t=t))]).who=t:=of_decide_eq_true h2;have h5:=Bw hw (List.getElem?_eq_getElem h3);rw [h4] at h5;exact h5.symm
theorem yN {α β:Type} (f:α→β):∀(l:List α) (i:Nat),(l.map f).eraseIdx i=(l.eraseIdx i).map f
  | [],i=>rfl
  |a::l,0=>rfl
  |a::l,i+1=>by show f a::(l.map f).eraseIdx i=f a::(l.eraseIdx i).map f;rw [yN f l i]
theorem xh {n0 b k:Nat} {x:bf} {m:ab} (t:Int) (w:World) (hv:p8 x) (h:gV n0 b x (x.wt.map eW) m) (cm:n0≤w.heap.size) (hx:x.ho.length≤900) (hk:k≤w.heap.size) (hM:Mem w m):aD Tryz.prog 98 #[.pointer (some ⟨b,0,none⟩),.int .i64 t] w (ec m (UnD n0 b k (eC x t) (.int .i64 (nF x t)) (eQ x t)) w):=by
 have oI:=h;obtain ⟨bM,nh,aI,bh,nw,aS,bl,mh,mw,ml,rfl,jx,kR,fC,cO,kU,hb⟩:=h;refine aD.ao Tryz.func98 rfl Tryz.ntmps98 rfl (dU b x.sh x.sl bM nh aI bh nw aS x.tr bl x.di::(mh++(mw++(ml++ [])))) ((eO (dy b x bM nh aI bh nw aS bl mh mw ml))) aM ?_;refine gy ?_;refine cE Tryz.func39 rfl (fun w hm hc hg=>lD t w jx (fC.lK ir hm) fC.len.2.1) ?_;refine cj ?_;refine af.ak rfl (fun h1=>?_) (fun h1=>?_)
 ·have x8:bu x t=false:=(by rw [←oZ];exact decide_eq_false om)
  refine J8 ?_;refine QM.leave (.inl rfl) [.tmp 4,.tmp 5] Tryz.results98 rfl ?_;intro w' aj aa az;have e1:eC x t=[] :=if_neg (fun q=>by rw [x8] at q;cases q.1);have e2:eQ x t=x:=if_neg (by rw [x8];simp);have e3:nF x t=7:=if_neg (by rw [x8];simp);rw [e1,e2,e3];exact aY (m':=dy b x bM nh aI bh nw aS bl mh mw ml) ⟨_,[],_,rfl,Sl.nil _ _ _ _,rfl,oI⟩ aj aN aa (ay _ _)
 have x8:bu x t=true:=(by rw [←oZ];exact decide_eq_true om);have TA:=(qK x8).1;have D4:=(qK x8).2.1;rw [TA];have ZR:=My x8;refine cj ?_;refine LM.cS (oC Tryz.func99) (fun w hm hc hg=>qP (gk x.ho t) w jx (fC.lK ir hm) D4 om) (fun uj HZ nj IL Nx zI=>?_);refine J2 ?_;refine LM.st Tryz.sizeOf56 rfl rfl rfl dW rfl sC ?_;refine LM.mem (aV.mem (M':=dU b x.sh x.sl uj HZ nj bh nw aS x.tr bl x.di::(IL++(mw++(ml++ [])))) aN) ?_;refine cj ?_;have hF:gV n0 b (fu x t) ((fu x t).wt.map eW) (dU b x.sh x.sl uj HZ nj bh nw aS x.tr bl x.di::(IL++(mw++ml))):=⟨uj,HZ,nj,bh,nw,aS,bl,IL,mw,ml,rfl,Nx,kR,zI.mono cm,cO,kU,hb⟩;have gK:de (dy b x bM nh aI bh nw aS bl mh mw ml) w.heap.size (dU b x.sh x.sl uj HZ nj bh nw aS x.tr bl x.di::(IL++(mw++ml))):=fE bK (bW (fun p hp=> .inl (zI.ge p hp)) (bW c7 c7));have agW:HZ=(fu x t).ho.length:=Nx;refine J8 ?_;refine af.bC (α:=Value×ab×ab×bf) (fun ⟨v,mr,mx,y⟩=>[(7,v)]) [(0,_)] (fun ⟨v,mr,mx,y⟩=>mr++(mx++ [])) (fun ⟨v,mr,mx,y⟩=>Sl fI 3 1 k (eC x t) v mr∧gV n0 b y (y.wt.map eW) mx∧de (dy b x bM nh aI bh nw aS bl mh mw ml) w.heap.size (mr++mx)∧y=if (fu x t).ho.length=0 then wD (fu x t) else fu x t) cF ?_ ?_
 ·refine af.ak rfl (fun h2=>?_) (fun h2=>?_)
  ·refine J2 ?_;refine cU Tryz.func100 rfl (fun w hm hc hg=>yH (k:=k) w (hv.out t) hF (Nat.le_trans cm hc.size) om (Nat.le_trans hk hc.size) (hm.pick (dU b x.sh x.sl uj HZ nj bh nw aS x.tr bl x.di::(IL++(mw++ml))))) hF.bE (au gK) ?_;rintro u32 m32 ⟨acU,aeX,agh,rfl,h32⟩ YB;refine J2 ?_;refine mK (u32,acU,aeX,wD (fu x t)) ?_
   · have hz:(fu x t).ho.length=0:=om;exact⟨by rw [Qz x8 hz,←(CA hz).1];exact agh,h32,ar gK YB,(if_pos hz).symm⟩
  refine J1 ?_;refine mK (.slice none 0 0,[],dU b x.sh x.sl uj HZ nj bh nw aS x.tr bl x.di::(IL++(mw++ml)),fu x t) ?_
  · have hz:¬(fu x t).ho.length=0:=om;exact⟨by rw [TN hz];exact Sl.nil _ _ _ _,hF,gK,(if_neg hz).symm⟩
 rintro ⟨v,mr,mx,y⟩ ⟨W3,hL,vJ,hy⟩;change QM _ _ _ _ _ (mr++(mx++ [])) _ _ _;refine J4 ?_;refine cU Tryz.func76 rfl (fun w hm hc hg=>fb w hL (l9 _) (hm.pick mx)) hL.bE (au (fun p hp=>vJ p (List.mem_append_right _ hp))) ?_;rintro u34 LX Q1 Mt;refine cj ?_;refine QM.leave (.inl rfl) [.tmp 4,.tmp 5] Tryz.results98 rfl ?_;intro w' aj aa az;have e2:eQ x t=cX y:=(by rw [SB _ _ x8,←hy]);have e3:nF x t=0:=if_pos x8;rw [e2,e3];exact aY (m':=mr++LX) ⟨_,mr,LX,rfl,W3,rfl,Q1⟩ aj aN aa (bW (fun p hp=>vJ p (List.mem_append_left _ hp)) (ar (fun p hp=>vJ p (List.mem_append_right _ hp)) Mt))
theorem sK {n0 b k:Nat} {x:bf} {m:ab} (t:Int) (w:World) (hw:lM x) (h:gV n0 b x (x.wt.map eW) m) (cm:n0≤w.heap.size) (hx:x.ho.length≤900) (hk:k≤w.heap.size) (hM:Mem w m):aD Tryz.prog 61 #[.pointer (some ⟨b,0,none⟩),.int .i64 t] w (ec m (UnD n0 b k (qk x t) (.bool (cC x t)) (fY x t)) w):=by
 have oI:=h;obtain ⟨bM,nh,aI,bh,nw,aS,bl,mh,mw,ml,rfl,jx,kR,fC,cO,kU,hb⟩:=h;have hv:=hw.top8;have hw8:=hv.w8;have OH:(x.wt.map eW).length=x.wt.length:=List.length_map ..;refine aD.ao Tryz.func61 rfl Tryz.ntmps61 rfl (dU b x.sh x.sl bM nh aI bh nw aS x.tr bl x.di::(mh++(mw++(ml++ [])))) ((eO (dy b x bM nh aI bh nw aS bl mh mw ml))) aM ?_;refine gy ?_;refine cE Tryz.func39 rfl (fun w hm hc hg=>lD t w kR (cO.lK ir hm) cO.len.2.1) ?_;refine cj ?_;refine af.ak rfl (fun h1=>?_) (fun h1=>?_)
 ·have C7:cC x t=false:=UD h1;refine J8 ?_;refine QM.leave (.inl rfl) [.tmp 4,.tmp 5] Tryz.results61 rfl ?_;intro w' aj aa az;have e:=Zs C7;rw [e.1,e.2,C7];exact aY (m':=dy b x bM nh aI bh nw aS bl mh mw ml) ⟨_,[],_,rfl,Sl.nil _ _ _ _,rfl,oI⟩ aj aN aa (ay _ _)
 obtain ⟨acB,i,hi,er,hie⟩:=OM hv.wd h1;have C7:cC x t=true:=acB;rw [hi];refine cj ?_;refine LM.cS (oC Tryz.func99) (fun w hm hc hg=>qP i w kR (cO.lK ir hm) om om) (fun uj HZ nj IL Nx zI=>?_);refine J2 ?_;refine LM.st Tryz.sizeOf56 rfl rfl rfl dW rfl sC ?_;refine LM.mem (aV.mem (M':=dU b x.sh x.sl bM nh aI uj HZ nj x.tr bl x.di::(mh++(IL++(ml++ [])))) aN) ?_;refine J4 ?_;have agJ:(x.wt.map eW).eraseIdx i=(du x t).wt.map eW:=(by show _=(Df x.wt t).map eW;rw [←hie,yN]);rw [agJ] at zI Nx;have hF:gV n0 b (du x t) ((du x t).wt.map eW) (dU b x.sh x.sl bM nh aI uj HZ nj x.tr bl x.di::(mh++(IL++ml))):=⟨bM,nh,aI,uj,HZ,nj,bl,mh,IL,ml,rfl,jx,Nx,fC,zI.mono cm,kU,hb⟩;have gK:de (dy b x bM nh aI bh nw aS bl mh mw ml) w.heap.size (dU b x.sh x.sl bM nh aI uj HZ nj x.tr bl x.di::(mh++(IL++ml))):=fE bK (bW c7 (bW (fun p hp=> .inl (zI.ge p hp)) c7));refine J1 ?_;refine cU Tryz.func100 rfl (fun w hm hc hg=>yH (k:=k) w (hv.gone t) hF (Nat.le_trans cm hc.size) hx (Nat.le_trans hk hc.size) (hm.pick (dU b x.sh x.sl bM nh aI uj HZ nj x.tr bl x.di::(mh++(IL++ml))))) hF.bE (au gK) ?_;rintro u26 uF ⟨Ka,PX,S4,rfl,IP⟩ wu;refine LM.assoc ?_;refine J6 ?_;refine cU Tryz.func76 rfl (fun w hm hc hg=>fb w IP (l9 _) (hm.pick PX)) IP.bE (au (ar gK (fun p hp=>wu p (List.mem_append_right _ hp)))) ?_;rintro u28 Z5 h28 Rk;refine cj ?_;refine QM.leave (.inl rfl) [.tmp 4,.tmp 5] Tryz.results61 rfl ?_;intro w' aj aa az;have e:=aal hw C7;rw [e.1,e.2,C7];exact aY (m':=Ka++Z5) ⟨_,Ka,Z5,rfl,S4,rfl,h28⟩ aj aN aa (bW (fun p hp=>ar gK wu p (List.mem_append_left _ hp)) (ar (fun p hp=>ar gK wu p (List.mem_append_right _ hp)) Rk))
theorem DP {n0 b k:Nat} {x:bf} {m:ab} (t:Int) (w:World) (hw:lM x) (h:gV n0 b x (x.wt.map eW) m) (cm:n0≤w.heap.size) (hx:x.ho.length≤900) (hk:k≤w.heap.size) (hM:Mem w m):aD Tryz.prog 71 #[.pointer (some ⟨b,0,none⟩),.int .i64 t] w (ec m (UnD n0 b k (uN x t) (.bool (TK x t)) (sw x t)) w):=by
 have oI:=h;obtain ⟨bM,nh,aI,bh,nw,aS,bl,mh,mw,ml,rfl,jx,kR,fC,cO,kU,hb⟩:=h;have hv:=hw.top8;refine aD.ao Tryz.func71 rfl Tryz.ntmps71 rfl (dU b x.sh x.sl bM nh aI bh nw aS x.tr bl x.di::(mh++(mw++(ml++ [])))) ((eO (dy b x bM nh aI bh nw aS bl mh mw ml))) aM ?_;refine c9 ?_;refine cE Tryz.func13 rfl (fun w hm hc hg=>vE x.wt t▸rL t w oI (hm.pick (dy b x bM nh aI bh nw aS bl mh mw ml))) ?_;refine J2 ?_;refine af.aJ rfl (fun h1=>?_) (fun h1=>?_)
 ·refine J4 ?_;refine cU Tryz.func61 rfl (fun w hm hc hg=>sK (k:=k) t w hw oI (Nat.le_trans cm hc.size) hx (Nat.le_trans hk hc.size) (hm.pick (dy b x bM nh aI bh nw aS bl mh mw ml))) oI.bE (fun q hq _=>⟨q,hq,rfl⟩) ?_;rintro u13 m13 ⟨v13,ZB,Yi,rfl,adA,rfl,oK⟩ Xz;refine J8 ?_;refine QM.leave (.inl rfl) [.tmp 4,.tmp 5] Tryz.results71 rfl ?_;intro w' aj aa az;have C7:cC x t=true:=h1;have e1:uN x t=qk x t:=if_pos C7;have e2:sw x t=fY x t:=if_pos C7;have e3:TK x t=true:=(by unfold TK;rw [C7];rfl);rw [e1,e2,e3];exact aY (m':=ZB++Yi) ⟨_,ZB,Yi,(by show Value.tuple #[v13,.bool (cC x t)] =_;rw [C7]),adA,rfl,oK⟩ aj aN aa Xz
 refine J7 ?_;refine cE Tryz.func12 rfl (fun w hm hc hg=>qc t w oI (hm.pick (dy b x bM nh aI bh nw aS bl mh mw ml))) ?_;refine J3 ?_;refine af.aJ rfl (fun h2=>?_) (fun h2=>?_)
 ·refine J8 ?_;refine QM.leave (.inl rfl) [.tmp 4,.tmp 5] Tryz.results71 rfl ?_;intro w' aj aa az;have h1:cC x t=false:=h1;have e4:bu x t=false:=(by simpa using h2);have e1:uN x t=[] :=(by unfold uN;rw [if_neg (by rw [h1];simp)];exact if_neg (fun q=>by rw [show bu {x with di:=true} t=bu x t from rfl,e4] at q;cases q.1));have e2:sw x t=x:=(by unfold sw;rw [if_neg (by rw [h1];simp),if_neg (by rw [e4];simp)]);have e3:TK x t=false:=(by unfold TK;rw [h1,e4];rfl);rw [e1,e2,e3];exact aY (m':=dy b x bM nh aI bh nw aS bl mh mw ml) ⟨_,[],_,rfl,Sl.nil _ _ _ _,rfl,oI⟩ aj aN aa (ay _ _)
 refine J7 ?_;refine LM.st Tryz.sizeOf4 rfl rfl rfl dW rfl sC ?_;refine LM.mem (aV.mem (M':=dU b x.sh x.sl bM nh aI bh nw aS x.tr bl true::(mh++(mw++(ml++ [])))) aN) ?_;refine J4 ?_;have hF:gV n0 b {x with di:=true} (x.wt.map eW) (dU b x.sh x.sl bM nh aI bh nw aS x.tr bl true::(mh++(mw++ml))):=⟨bM,nh,aI,bh,nw,aS,bl,mh,mw,ml,rfl,jx,kR,fC,cO,kU,hb⟩;have gK:de (dy b x bM nh aI bh nw aS bl mh mw ml) w.heap.size (dU b x.sh x.sl bM nh aI bh nw aS x.tr bl true::(mh++(mw++ml))):=Gz (ay _ _) rfl;refine J2 ?_;refine cU Tryz.func98 rfl (fun w hm hc hg=>xh (k:=k) (x:= {x with di:=true}) t w (hv.core rfl rfl rfl rfl) hF (Nat.le_trans cm hc.size) hx (Nat.le_trans hk hc.size) (hm.pick (dU b x.sh x.sl bM nh aI bh nw aS x.tr bl true::(mh++(mw++ml))))) hF.bE (au gK) ?_;rintro u26 uF ⟨v26,Ka,PX,rfl,S4,rfl,IP⟩ wu;refine py ?_;refine QM.leave (.inl rfl) [.tmp 4,.tmp 5] Tryz.results71 rfl ?_;intro w' aj aa az;have h1:cC x t=false:=h1;have e4:bu x t=true:=(by simpa using h2);have e1:uN x t=eC {x with di:=true} t:=(by unfold uN;rw [if_neg (by rw [h1];simp)]);have e2:sw x t=eQ {x with di:=true} t:=(by unfold sw;rw [if_neg (by rw [h1];simp),if_pos e4]);have e3:TK x t=true:=(by unfold TK;rw [h1,e4];rfl);rw [e1,e2,e3];exact aY (m':=Ka++PX) ⟨_,Ka,PX,rfl,S4,rfl,IP⟩ aj aN aa (ar gK wu)
def BV (d:NJ) (gs:List Int) (n0:Nat) (v:Value) (m:ab):Prop:=∃b,v= .pointer (some ⟨b,0,none⟩)∧gV n0 b (nY d gs) [] m
theorem BV.mono {d:NJ} {gs:List Int} :∀(n n':Nat) (v:Value) (m:ab),n'≤n→BV d gs n v m→BV d gs n' v m:=fun n n' v m hn ⟨b,h1,h⟩=>⟨b,h1,h.mono hn⟩
theorem Jy (ws:List Int) (s c:Int):lC ws s (aF c 1 32)=lC ws s c:=by unfold lC;rw [Ez (by decide)]
theorem E1 {n0 b:Nat} {x:bf} {m:ab} (t:Int) (w:World) (h:gV n0 b x (x.wt.map eW) m) (hhk:∀h∈x.ho,pF x.ld h.p=true) (hhh:∀p,p<x.ld.l.length→0≤(gP x.ld.l p).h∧(gP x.ld.l p).h≤1000000000000) (V7: -1000000≤x.tr.u) (hM:Mem w m):aD Tryz.prog 136 #[.pointer (some ⟨b,0,none⟩),.int .i64 t] w (ec m (fun u m'=>u= .bool (bu x t)∧gV n0 b (jk x t) ((jk x t).wt.map eW) m') w):=by
 have oI:=h;obtain ⟨bM,nh,aI,bh,nw,aS,bl,mh,mw,ml,rfl,jx,kR,fC,cO,kU,hb⟩:=h;have hSw:=And.intro cO trivial;clear cO;have WB:=fC.len.2.1;refine aD.ao Tryz.func136 rfl Tryz.ntmps136 rfl (dU b x.sh x.sl bM nh aI bh nw aS x.tr bl x.di::(mh++(mw++(ml++ [])))) ((eO (dy b x bM nh aI bh nw aS bl mh mw ml))) aM ?_;refine cN ?_;refine cE Tryz.func39 rfl (fun w hm hc hg=>lD t w jx (fC.lK ir hm) fC.len.2.1) ?_;refine cj ?_;refine af.ak rfl (fun h1=>?_) (fun h1=>?_)
 ·have x8:bu x t=false:=(by rw [←oZ];exact decide_eq_false om)
  refine J7 ?_;refine qL Tryz.results136 rfl fun w' aj aa az=>?_;rw [x8,K6 x8];exact aY (m':=dy b x bM nh aI bh nw aS bl mh mw ml) ⟨rfl,oI⟩ aj aN aa (ay _ _)
 have x8:bu x t=true:=(by rw [←oZ];exact decide_eq_true om);have TA:=(qK x8).1;have D4:=(qK x8).2.1;rw [TA];obtain ⟨pp,R0,Q2⟩:=wM (hhk _ (Ow x8));have q9:(x.ho.getD (gk x.ho t) default).p.toNat=pp:=(by rw [R0];rfl)
 refine J3 ?_;refine af.draw [(0,0),(1,0),(2,0),(3,1),(4,0),(5,0),(6,0),(7,1),(8,0),(9,0),(10,0),(11,1),(12,3)] kr kr ?_;refine c9 ?_;refine LD.rd rfl rfl (aE (j:=1) aB ir Tryz.isAgg3 rfl rfl cJ rfl (by rfl)) ?_;refine LD.tail rfl rfl ?_;rw [R0];refine cU Tryz.func167 rfl (fun w hm hc hg=>EZ pp w kU Q2 (hhh pp Q2) (hm.pick ml)) kU.bE (fun q hq _=>⟨q,by simp [hq],rfl⟩) ?_;rintro u26 uF ⟨rfl,IP⟩ wu;refine J1 ?_;refine QM.qn ?_;refine J7 ?_;refine LM.rd (kP Tryz.isAgg58 Tryz.sizeOf58 rfl (vs:=[_,_]) rfl ⟨rfl,rfl,trivial⟩) ?_;refine cE Tryz.func168 rfl (fun w hm hc hg=>Al x.tr w V7) ?_;refine J2 ?_;refine LM.st Tryz.sizeOf58 rfl rfl rfl dW rfl sC ?_;refine LM.mem (aV.mem (M':=dU b x.sh x.sl bM nh aI bh nw aS (iZ x.tr) bl x.di::(mh++(mw++(uF++ [])))) aN) ?_;refine J4 ?_;have hF:gV n0 b {x with ld:=Bc x.ld pp,tr:=iZ x.tr} (x.wt.map eW) (dU b x.sh x.sl bM nh aI bh nw aS (iZ x.tr) bl x.di::(mh++(mw++uF))):=⟨bM,nh,aI,bh,nw,aS,bl,mh,mw,uF,rfl,jx,kR,fC,hSw.1,IP,hb⟩;have gK:de (dy b x bM nh aI bh nw aS bl mh mw ml) w.heap.size (dU b x.sh x.sl bM nh aI bh nw aS (iZ x.tr) bl x.di::(mh++(mw++uF))):=fE bK (bW c7 (bW c7 (dc wu (fun p hp=>by simp [hp]))));refine J1 ?_;refine cU Tryz.func76 rfl (fun w hm hc hg=>fb w hF (l9 _) (hm.pick (dU b x.sh x.sl bM nh aI bh nw aS (iZ x.tr) bl x.di::(mh++(mw++uF))))) hF.bE (au gK) ?_;rintro u36 VZ Wr La;refine J8 ?_;refine qL Tryz.results136 rfl fun w' aj aa az=>?_;rw [x8,Qt x8,q9];exact aY (m':=VZ) ⟨rfl,Wr⟩ aj aN aa (ar gK La)
theorem EK {n0 b:Nat} {x:bf} {m:ab} (g wt:Int) (w:World) (h:gV n0 b x (x.wt.map eW) m) (hM:Mem w m):aD Tryz.prog 33 #[.pointer (some ⟨b,0,none⟩),.int .i64 g,.int .i64 wt] w (ec m (fun u m'=>u= .bool (yb x g)∧gV n0 b (iL x g wt) ((iL x g wt).wt.map eW) m') w):=by
 have oI:=h;obtain ⟨bM,nh,aI,bh,nw,aS,bl,mh,mw,ml,rfl,jx,kR,fC,cO,kU,hb⟩:=h;have hSh:=And.intro fC cO;clear fC cO;have Sh:=kU;obtain ⟨hB9,Lv,n9,vm,yl,rfl,hn9,Wz,hb9⟩:=kU;refine aD.ao Tryz.func33 rfl Tryz.ntmps33 rfl (dU b x.sh x.sl bM nh aI bh nw aS x.tr bl x.di::(mh++(mw++(jw bl Lv n9 vm x.ld.sl x.ld.cr x.ld.fl::(yl++ []))))) ((eO (dy b x bM nh aI bh nw aS bl mh mw (jw bl Lv n9 vm x.ld.sl x.ld.cr x.ld.fl::yl)))) aM ?_;refine gy ?_;refine LM.bj (t:=12) rfl (fun h1=>?_) (fun h1=>?_)
 ·have JE:yb x g=false:=(by unfold yb;rw [h1];rfl)
  refine yx ?_;refine qL Tryz.results33 rfl fun w' aj aa az=>?_;rw [JE,K7 JE];exact aY (m':=dy b x bM nh aI bh nw aS bl mh mw (jw bl Lv n9 vm x.ld.sl x.ld.cr x.ld.fl::yl)) ⟨rfl,oI⟩ aj aN aa (ay _ _)
 skip
 refine J7 ?_;refine cE Tryz.func73 rfl (fun w hm hc hg=>jD g w Sh (hm.pick (jw bl Lv n9 vm x.ld.sl x.ld.cr x.ld.fl::yl))) ?_;refine J4 ?_;refine af.aJ rfl (fun h2=>?_) (fun h2=>?_)
 ·have JE:yb x g=false:=(by unfold yb;rw [show pF x.ld g=false by simpa using h2];simp)
  refine J7 ?_;refine qL Tryz.results33 rfl fun w' aj aa az=>?_;rw [JE,K7 JE];exact aY (m':=dy b x bM nh aI bh nw aS bl mh mw (jw bl Lv n9 vm x.ld.sl x.ld.cr x.ld.fl::yl)) ⟨rfl,oI⟩ aj aN aa (ay _ _)
 have Ua:pF x.ld g=true:=(by simpa using h2);have JE:yb x g=true:=(by unfold yb;rw [h1,Ua];rfl);obtain ⟨p,rfl,Q2⟩:=wM Ua;refine kk ?_;refine LM.rd (aE (j:=0) aB ir Tryz.isAgg3 rfl rfl cJ rfl (by rfl)) ?_;refine c9 ?_;refine cU Tryz.func74 rfl (fun w hm hc hg=>Dn p wt w Sh Q2 (hm.pick (jw bl Lv n9 vm x.ld.sl x.ld.cr x.ld.fl::yl))) Sh.bE (fun q hq _=>⟨q,List.mem_cons_of_mem _ (List.mem_append_right _ (List.mem_append_right _ hq)),rfl⟩) ?_;rintro u38 VJ ⟨rfl,h38⟩ tD;have akk:p<(cB x.ld p wt).l.length:=(by show p<(x.ld.l.set _ _).length;rw [List.length_set];exact Q2);have YH:=h38;obtain ⟨hB8,K0,n8,vj,Ja,rfl,hn8,hs8,O9⟩:=h38;refine LM.mem (aV.mem (M':=dU b x.sh x.sl bM nh aI bh nw aS x.tr bl x.di::(mh++(mw++(jw bl K0 n8 vj (cB x.ld p wt).sl (cB x.ld p wt).cr (cB x.ld p wt).fl::(Ja++ []))))) (by rw [List.cons_append];(repeat' (first|exact aV.nil _|refine aV.cons rfl ?_|refine aV.app ?_)))) ?_;refine gy ?_;refine LM.aq (t:=46) rfl (fun h3=>?_) (fun h3=>?_)
 ·refine cj ?_;refine LM.sp 46 rfl rfl rfl ?_;refine J3 ?_;refine LM.rd (aE (j:=0) aB ir Tryz.isAgg3 rfl rfl cJ rfl (by rfl)) ?_;refine J5 ?_;refine af.bC (α:=vT) (fun tr=>[]) [(0,_)] (fun tr=>dU b x.sh x.sl bM nh aI bh nw aS tr bl x.di::(mh++(mw++(jw bl K0 n8 vj (cB x.ld p wt).sl (cB x.ld p wt).cr (cB x.ld p wt).fl::(Ja++ []))))) (fun tr=>tr=if x.tr.p=(p:Int)∧(gP (cB x.ld p wt).l p).w≠(gP x.ld.l p).w then xX x.tr x.sl else x.tr) cF ?_ ?_
  ·refine af.ak rfl (fun h4=>?_) (fun h4=>?_)
   ·refine af.draw [(0,0),(1,0),(2,0),(3,0),(4,1),(5,0),(6,0),(7,0),(8,1),(9,2),(10,0),(11,0),(12,3)] kr kr ?_;refine J4 ?_;refine LD.rd rfl rfl (kP Tryz.isAgg58 Tryz.sizeOf58 rfl (vs:=[_,_]) rfl ⟨rfl,rfl,trivial⟩) ?_;refine J4 ?_;refine dE rfl rfl Tryz.func75 rfl (fun w hm hc hg=>Em x.tr _ w) ?_;refine J2 ?_;refine LD.tail rfl rfl ?_;refine LM.st Tryz.sizeOf58 rfl rfl rfl dW rfl sC ?_;refine J1 ?_;refine QM.qn ?_;refine mK (xX x.tr x.sl) ?_
    · exact(if_pos ⟨h3,by simpa using h4⟩).symm
   refine J1 ?_;refine mK (x.tr) ?_
   · exact(if_neg (fun q=>by have:=q.2;simp at h4;exact this h4)).symm
  rintro tr Ql;change QM _ _ _ _ _ (dU b x.sh x.sl bM nh aI bh nw aS tr bl x.di::(mh++(mw++(jw bl K0 n8 vj (cB x.ld p wt).sl (cB x.ld p wt).cr (cB x.ld p wt).fl::(Ja++ []))))) _ _ _;refine J3 ?_;have hF:gV n0 b {x with ld:=cB x.ld p wt,tr:=tr} (x.wt.map eW) (dU b x.sh x.sl bM nh aI bh nw aS tr bl x.di::(mh++(mw++(jw bl K0 n8 vj (cB x.ld p wt).sl (cB x.ld p wt).cr (cB x.ld p wt).fl::Ja)))):=⟨bM,nh,aI,bh,nw,aS,bl,mh,mw,_,rfl,jx,kR,hSh.1,hSh.2,YH,hb⟩;have gK:de (dy b x bM nh aI bh nw aS bl mh mw (jw bl Lv n9 vm x.ld.sl x.ld.cr x.ld.fl::yl)) w.heap.size (dU b x.sh x.sl bM nh aI bh nw aS tr bl x.di::(mh++(mw++(jw bl K0 n8 vj (cB x.ld p wt).sl (cB x.ld p wt).cr (cB x.ld p wt).fl::Ja)))):=fE bK (bW c7 (bW c7 (dc tD (fun p hp=>List.mem_cons_of_mem _ (List.mem_append_right _ (List.mem_append_right _ hp))))));refine J1 ?_;refine cU Tryz.func76 rfl (fun w hm hc hg=>fb w hF (l9 _) (hm.pick (dU b x.sh x.sl bM nh aI bh nw aS tr bl x.di::(mh++(mw++(jw bl K0 n8 vj (cB x.ld p wt).sl (cB x.ld p wt).cr (cB x.ld p wt).fl::Ja)))))) hF.bE (au gK) ?_;rintro u74 m74 h74 JV;refine J8 ?_;refine qL Tryz.results33 rfl fun w' aj aa az=>?_;rw [JE,Gd JE,←Ql];exact aY (m':=m74) ⟨rfl,h74⟩ aj aN aa (ar gK JV)
 refine pQ ?_;refine af.bC (α:=vT) (fun tr=>[]) [(0,_)] (fun tr=>dU b x.sh x.sl bM nh aI bh nw aS tr bl x.di::(mh++(mw++(jw bl K0 n8 vj (cB x.ld p wt).sl (cB x.ld p wt).cr (cB x.ld p wt).fl::(Ja++ []))))) (fun tr=>tr=if x.tr.p=(p:Int)∧(gP (cB x.ld p wt).l p).w≠(gP x.ld.l p).w then xX x.tr x.sl else x.tr) cF ?_ ?_
 ·refine J2 ?_;refine mK (x.tr) ?_
  · exact(if_neg (fun q=>h3 q.1)).symm
 rintro tr Ql;change QM _ _ _ _ _ (dU b x.sh x.sl bM nh aI bh nw aS tr bl x.di::(mh++(mw++(jw bl K0 n8 vj (cB x.ld p wt).sl (cB x.ld p wt).cr (cB x.ld p wt).fl::(Ja++ []))))) _ _ _;refine J3 ?_;have hF:gV n0 b {x with ld:=cB x.ld p wt,tr:=tr} (x.wt.map eW) (dU b x.sh x.sl bM nh aI bh nw aS tr bl x.di::(mh++(mw++(jw bl K0 n8 vj (cB x.ld p wt).sl (cB x.ld p wt).cr (cB x.ld p wt).fl::Ja)))):=⟨bM,nh,aI,bh,nw,aS,bl,mh,mw,_,rfl,jx,kR,hSh.1,hSh.2,YH,hb⟩;have gK:de (dy b x bM nh aI bh nw aS bl mh mw (jw bl Lv n9 vm x.ld.sl x.ld.cr x.ld.fl::yl)) w.heap.size (dU b x.sh x.sl bM nh aI bh nw aS tr bl x.di::(mh++(mw++(jw bl K0 n8 vj (cB x.ld p wt).sl (cB x.ld p wt).cr (cB x.ld p wt).fl::Ja)))):=fE bK (bW c7 (bW c7 (dc tD (fun p hp=>List.mem_cons_of_mem _ (List.mem_append_right _ (List.mem_append_right _ hp))))));refine J1 ?_;refine cU Tryz.func76 rfl (fun w hm hc hg=>fb w hF (l9 _) (hm.pick (dU b x.sh x.sl bM nh aI bh nw aS tr bl x.di::(mh++(mw++(jw bl K0 n8 vj (cB x.ld p wt).sl (cB x.ld p wt).cr (cB x.ld p wt).fl::Ja)))))) hF.bE (au gK) ?_;rintro u74 m74 h74 JV;refine J8 ?_;refine qL Tryz.results33 rfl fun w' aj aa az=>?_;rw [JE,Gd JE,←Ql];exact aY (m':=m74) ⟨rfl,h74⟩ aj aN aa (ar gK JV)
theorem EN {gs:List Int} {ad:Option Addr} {n cap:Nat} (d:NJ) (w:World) (hn:n=gs.length) (hl:Sr fI 1 gs (.slice ad n cap) w):aD Tryz.prog 24 #[.agg (So d).toArray,.slice ad n cap] w (fun v w'=>Ext w w'∧∃m,BV d gs w.heap.size v m∧Mem w' m∧∀p∈m,w.heap.size≤p.1):=by
 have jg:=hl.open.2.1;refine aD.ao Tryz.func24 rfl Tryz.ntmps24 rfl ([]) (no) (Mem.nil w) ?_;refine J2 ?_;refine LM.box rfl rfl (fun b2 xr=>?_);refine yi ?_;refine af.bC (α:=Nat) (fun k=>[(5,.slice ad k cap)]) [(2,_)] (fun k=>(b2,.cells (Value.agg (So d).toArray).cells 83 (0,0)):: []) (fun k=>k=min n 4) cF ?_ ?_
 ·refine af.ak rfl (fun h1=>?_) (fun h1=>?_)
  ·refine J2 ?_;refine LM.val (iH Tryz.underlying26 Tryz.sizeOf3 rfl rfl om om) ?_;refine J2 ?_;refine mK (4) ?_
   · omega
  refine J1 ?_;refine mK (n) ?_
  · omega
 rintro k hk;change QM _ _ _ _ _ ((b2,.cells (Value.agg (So d).toArray).cells 83 (0,0)):: []) _ _ _;have hsk:=Sr.take (k:=k) hl om;have QD:(gs.take k).length=k:=(by rw [List.length_take];omega);have V4:gs.take 4=gs.take k:=(by rcases Nat.le_total gs.length 4 with q|q;rw [List.take_of_length_le q,List.take_of_length_le om];rw [show k=4 by omega])
 refine J9 ?_;refine af.bC (α:=Option Addr×Nat×Nat×ab) (fun ⟨zR,n5,lX,m5⟩=>[(5,.slice zR n5 lX)]) [(2,_)] (fun ⟨zR,n5,lX,m5⟩=>(b2,.cells (Value.agg (So d).toArray).cells 83 (0,0))::(m5++ [])) (fun ⟨zR,n5,lX,m5⟩=>RdS (RM gs) zR n5 lX m5 w) cF ?_ ?_
 ·refine af.ak rfl (fun h2=>?_) (fun h2=>?_)
  ·refine J1 ?_;refine LM.single Tryz.underlying26 Tryz.sizeOf3 Tryz.zeroValue3 rfl rfl rfl rfl rfl (fun Rv aef=>?_);refine J2 ?_;refine mK (some ⟨Rv,0,none⟩,1,1,(Rv,.cells #[.int .i64 1] 3 (0,0)):: []) ?_
   · have e:RM gs=[1] :=if_pos (by rw [V4,QD];omega);rw [e];exact⟨rfl,fun w' hm _=>Sr.row (hm.at Rv) rfl rfl (by decide) ir⟩
  refine J1 ?_;refine mK (ad,k,cap,[]) ?_
  · have e:RM gs=gs.take k:=(by unfold RM;rw [V4,if_neg (by rw [QD];omega)]);rw [e];exact⟨QD.symm,fun w' _ hx=>hsk.ext hx⟩
 rintro ⟨zR,n5,lX,m5⟩ hR;change QM _ _ _ _ _ ((b2,.cells (Value.agg (So d).toArray).cells 83 (0,0))::(m5++ [])) _ _ _;refine J8 ?_;refine af.bC (α:=Option Addr×Nat×Nat×ab) (fun ⟨W2,n6,KK,m6⟩=>[(5,.slice W2 n6 KK)]) [(2,_)] (fun ⟨W2,n6,KK,m6⟩=>(b2,.cells (Value.agg (So d).toArray).cells 83 (0,0))::(m6++ [])) (fun ⟨W2,n6,KK,m6⟩=>RdS (td d gs) W2 n6 KK m6 w) cF ?_ ?_
 ·refine af.aJ rfl (fun h3=>?_) (fun h3=>?_)
  ·refine J5 ?_;refine LM.row (vs:=[_,_]) Tryz.underlying26 Tryz.sizeOf3 Tryz.zeroValue3 rfl rfl rfl rfl rfl rfl (fun OV PJ=>?_);refine J2 ?_;refine mK (some ⟨OV,0,none⟩,2,2,(OV,.cells #[.int .i64 d.rd,.int .i64 d.wr] 3 (0,0)):: []) ?_
   · have e:td d gs=[d.rd,d.wr] :=if_pos h3;rw [e];exact⟨rfl,fun w' hm _=>Sr.row (hm.at OV) rfl rfl (by simp) ir⟩
  refine J1 ?_;refine mK (zR,n5,lX,m5) ?_
  · have e:td d gs=RM gs:=if_neg (by simpa using h3);rw [e];exact hR
 rintro ⟨W2,n6,KK,m6⟩ hR6;change QM _ _ _ _ _ ((b2,.cells (Value.agg (So d).toArray).cells 83 (0,0))::(m6++ [])) _ _ _;refine J5 ?_;refine cE Tryz.func50 rfl (fun w hm hc hg=>bQ _ 1 16 w) ?_;refine J4 ?_;refine af.draw [(0,0),(1,1),(2,0),(3,0),(4,0),(5,0),(6,0),(7,1),(8,2),(9,2),(10,0),(11,2),(12,0)] kr kr ?_;refine J3 ?_;refine LD.val rfl rfl (aC (cs:=#[.int .i64 (-1),.int .i64 0]) rfl kr) ?_;refine J4 ?_;refine dE rfl rfl Tryz.func50 rfl (fun w hm hc hg=>bQ _ 1 32 w) ?_;refine LD.fm rfl rfl (oC Tryz.func52) Yq.mono (fun w hm hc hg=>ER (aF d.sl 1 16) (aF d.cr 1 32) w hR6.1 (hR6.2 w (hm.pick m6) hc)) ?_;rintro u36 VZ ⟨VU,rfl,Wr⟩ ahA;refine LD.val rfl rfl (aC (cs:=#[.bool d.sh,.int .i64 (aF d.sl 1 16),.slice none 0 0,.slice none 0 0,.int .i64 (-1),.int .i64 0,.pointer (some ⟨VU,0,none⟩),.bool false]) rfl kr) ?_;refine LD.box rfl rfl rfl rfl (fun b38 acE=>?_);refine J4 ?_;refine qL Tryz.results24 rfl fun w' aj aa az=>?_;rw [Jy] at Wr;have hL:gV w.heap.size b38 (nY d gs) [] (dU b38 d.sh (aF d.sl 1 16) none 0 0 none 0 0 ⟨-1,0⟩ VU false::([] ++([] ++VZ))):=⟨none,0,0,none,0,0,VU,[],[],VZ,rfl,rfl,rfl,Sl.nil _ _ _ _,Sl.nil _ _ _ _,Wr,acE⟩;exact⟨aa,_,⟨b38,rfl,hL⟩,(by have h9:=aV.mem (M':=dU b38 d.sh (aF d.sl 1 16) none 0 0 none 0 0 ⟨-1,0⟩ VU false::(VZ++ [])) aN w' aj;rw [List.append_nil] at h9;exact h9),hL.ge⟩
abbrev gR (b:Nat) (ad:Option Addr) (n cap:Nat):Nat×Obj:=(b,.cells #[.slice ad n cap] 125 (0,0))
def vc (n0:Nat) (v:Value) (mm:ab):Prop:=∃b ad n cap m,v= .pointer (some ⟨b,0,none⟩)∧mm=gR b ad n cap::m∧n0≤b∧n=64∧Sl fU 41 1 n0 pX (.slice ad n cap) m
theorem vc.mono:∀(k k':Nat) u m,k'≤k→vc k u m→vc k' u m:=fun k k' u m h ⟨b,ad,n,cap,m',h1,h2,h3,h4,h5⟩=>⟨b,ad,n,cap,m',h1,h2,by omega,h4,h5.mono h⟩
def WaT (n0:Nat) (G:Gr) (who:Int) (s:BitVec 64) (ad:Option Addr) (n cap:Nat) (u:Value) (m':ab):Prop:=u= .int .i64 (Nq G who s)∧Sl fU 41 1 n0 (CZ G who s) (.slice ad n cap) m'
theorem aaz {G:Gr} {i:Nat} {who:Int} (h:Gt who=false):false=aR (rY G (ot G i)) who:=by
  cases hb:aR (rY G (ot G i)) who
  · rfl
  · have:=gA hb;rw [ky.2 this] at h;cases h
theorem XQ {G:Gr} {i:Nat} {who:Int} (h:¬ot G i≠0#64):false=aR (rY G (ot G i)) who:=by
  rw [Classical.not_not] at h;rw [h,L2];exact(dd _).symm
theorem ZS {G:Gr} {i:Nat} {who:Int} (h:i<64):aR (Ju G (i:Nat)) who=aR (rY G (ot G i)) who:=by
  unfold Ju;rw [if_pos (ky.2 ⟨by omega,by omega⟩),Int.toNat_natCast]
theorem rM {G:Gr} (h:G.length=64) {who:Int} (gI:0≤who∧who<64) (s:BitVec 64):aR (rY (G.set who.toNat 0#64) s) who=aR (rY G s) who:=by
  have:=BY h (w:=who.toNat) om s;rwa [show ((who.toNat:Nat):Int)=who by omega] at this
theorem GR {G:Gr} (i:Nat) (h:i<G.length):G.set i (G.getD i 0#64)=G:=by
  apply List.ext_getElem (by simp)
  intro j h1 h2;rw [List.getElem_set];split
  · subst_vars;simp [List.getD_eq_getElem?_getD,List.getElem?_eq_getElem h]
  · rfl
theorem sN (w:World):aD Tryz.prog 23 #[] w (fun v w'=>Ext w w'∧∃m,vc w.heap.size v m∧Mem w' m∧∀p∈m,w.heap.size≤p.1):=by
 refine aD.ao Tryz.func23 rfl Tryz.ntmps23 rfl ([]) (no) (Mem.nil w) ?_;refine J7 ?_;refine LM.make (f:=fU) (a0:=0#64) Tryz.underlying46 Tryz.typeInfo41 rfl rfl rfl rfl Au rfl rfl rfl om (by simp only [Tryz.t41];omega) om (fun b1 jq=>?_);refine LM.val (aC (cs:=#[_]) rfl (by first|rfl|kernel_rfl)) ?_;refine LM.box rfl rfl (fun b3 xu=>?_);refine J4 ?_;refine qL Tryz.results23 rfl fun w' aj aa az=>?_;exact⟨aa,[gR b3 (some ⟨b1,0,none⟩) 64 64,(b1,.cells (arr fU pX []) 41 (0,0))],⟨b3,some ⟨b1,0,none⟩,64,64,[(b1,.cells (arr fU pX []) 41 (0,0))],rfl,rfl,xu,rfl,.inr ⟨b1,64,[],jq,rfl,rfl,by decide,by decide,by decide⟩⟩,aV.mem (by(repeat' (first|exact aV.nil _|refine aV.cons kr ?_|refine aV.app ?_))) _ aj,fun p hp=>by simp only [List.mem_cons,List.not_mem_nil,or_false] at hp;rcases hp with rfl|rfl<;>assumption⟩
theorem oY (who:Int) (w:World):aD Tryz.prog 147 #[.int .i64 who] w (fun v w'=>v= .bool (Gt who)∧Ext w w'):=by
 refine aD.ao Tryz.func147 rfl Tryz.ntmps147 rfl ([]) (no) (Mem.nil w) ?_;refine cj ?_;refine LM.aq (t:=5) rfl (fun h1=>?_) (fun h1=>?_)
 ·refine J7 ?_;refine qL Tryz.results147 rfl fun w' aj aa az=>?_;refine ⟨?_,aa⟩;simp only [ba,Gt,h1,decide_true,decide_false,Bool.true_and,Bool.false_and,Bool.and_true,Bool.and_false,Bool.not_true,Bool.not_false,Bool.true_or,Bool.false_or,Bool.or_true,Bool.or_false,ne_eq,not_true_eq_false,not_false_eq_true,Bool.and_self]
 refine J7 ?_;refine qL Tryz.results147 rfl fun w' aj aa az=>?_;refine ⟨?_,aa⟩;simp only [ba,Gt,h1,decide_true,decide_false,Bool.true_and,Bool.false_and,Bool.and_true,Bool.and_false,Bool.not_true,Bool.not_false,Bool.true_or,Bool.false_or,Bool.or_true,Bool.or_false,ne_eq,not_true_eq_false,not_false_eq_true,Bool.and_self]
theorem vw {n0:Nat} {G:Gr} {ad:Option Addr} {n cap:Nat} {m:ab} (b:Nat) (s:BitVec 64) (w:World) (hG:G.length=64) (hn:n=64) (jt:Sl fU 41 1 n0 G (.slice ad n cap) m) (hM:Mem w (gR b ad n cap::(m++ []))):aD Tryz.prog 173 #[.pointer (some ⟨b,0,none⟩),U s] w (fun v w'=>v=U (rY G s)∧Ext w w'):=by
 refine aD.ao Tryz.func173 rfl Tryz.ntmps173 rfl (gR b ad n cap::(m++ [])) (no) hM ?_;refine cN ?_;refine af.aP (α:=BitVec 64×Bool) (fun ⟨X,fr⟩=>[(1,U X),(5,.bool fr)]) [(0,_)] (fun ⟨X,fr⟩=>gR b ad n cap::(m++ [])) (fun ⟨X,fr⟩=>Ny G s X∧(fr=false→HR G X 64)) (fun ⟨X,fr⟩=>2*(64-xO X)+fr.toNat) ((s,true)) cF aN ⟨Ny.init G s,fun h=>by cases h⟩ ?_;rintro ⟨X,fr⟩ ⟨hX,hd⟩;change af _ _ _ _ _ _ _ (gR b ad n cap::(m++ [])) _ _ _;refine J6 ?_;refine af.aJ rfl (fun h1=>?_) (fun h1=>?_)
 ·refine kk ?_;refine af.aP (α:=Nat×BitVec 64×Bool) (fun ⟨i,Y,Ls⟩=>[(1,U Y),(5,.bool Ls),(6,.int .i64 (i:Nat))]) [(0,_)] (fun ⟨i,Y,Ls⟩=>gR b ad n cap::(m++ [])) (fun ⟨i,Y,Ls⟩=>i≤64∧Ny G s Y∧(Ls=true→xO X<xO Y)∧(Ls=false→Y=X∧HR G X i)) (fun ⟨i,Y,Ls⟩=>64-i) ((0,X,false)) cF aN ⟨Nat.zero_le _,hX,(fun h=>by cases h),(fun _=>⟨rfl,fun j hj=>by omega⟩)⟩ ?_;rintro ⟨i,Y,Ls⟩ ⟨hi,hY,ht,hf⟩;change af _ _ _ _ _ _ _ (gR b ad n cap::(m++ [])) _ _ _;refine J7 ?_;refine af.ak rfl (fun h2=>?_) (fun h2=>?_)
  ·refine J5 ?_;refine af.bC (α:=Bool) (fun bb=>[(26,.bool bb)]) [(0,_),(1,_),(5,_),(6,_)] (fun bb=>gR b ad n cap::(m++ [])) (fun bb=>bb=(aR Y (i:Nat)&&decide (ot G i&&& ~~~Y≠0#64))) cF ?_ ?_
   ·refine J3 ?_;refine cE Tryz.func108 rfl (fun w hm hc hg=>gu _ _ w) ?_;refine J1 ?_;refine LM.bj (t:=15) rfl (fun h3=>?_) (fun h3=>?_)
    ·refine J6 ?_;refine LM.sp 15 rfl rfl rfl ?_;refine J2 ?_;refine LM.rd (bd aB ir Tryz.isAgg41 rfl rfl (by exact aO 0#64 cK) (by rfl)) ?_;refine J1 ?_;refine LM.sp 15 rfl rfl rfl ?_;refine LM.val (xg rfl rfl) ?_;refine LM.sp 15 rfl rfl rfl ?_;refine LM.val (fQ (b:=0#64) rfl rfl) ?_;refine J2 ?_;refine mK (_) ?_
     · (simp only [h1,h2,h3,decide_true,decide_false,Bool.true_and,Bool.false_and,Bool.and_true,Bool.and_false,Bool.not_true,Bool.not_false,Bool.true_or,Bool.false_or,Bool.or_true,Bool.or_false,ne_eq,not_true_eq_false,not_false_eq_true,Bool.and_self];rfl)
    refine cN ?_;refine mK (_) ?_
    · (simp only [h1,h2,h3,decide_true,decide_false,Bool.true_and,Bool.false_and,Bool.and_true,Bool.and_false,Bool.not_true,Bool.not_false,Bool.true_or,Bool.false_or,Bool.or_true,Bool.or_false,ne_eq,not_true_eq_false,not_false_eq_true,Bool.and_self];done)
   rintro bb acr;change QM _ _ _ _ _ (gR b ad n cap::(m++ [])) _ _ _;subst acr;refine J1 ?_;refine af.aJ rfl (fun h4=>?_) (fun h4=>?_)
   ·refine J9 ?_;refine LM.rd (bd aB ir Tryz.isAgg41 rfl rfl (by exact aO 0#64 cK) (by rfl)) ?_;refine LM.val (og rfl rfl) ?_;refine gy ?_;refine aK (i+1,Y|||ot G i,true) ?_ ?_
    · obtain ⟨Rm,yg⟩:=hY.put h4;exact⟨by omega,Rm,fun _=>by cases Ls with|false=>(have e:=(hf rfl).1;rw [←e];exact yg)|true=>(have:=ht rfl;omega),fun h=>by cases h⟩
    · (dsimp only;omega)
   refine J8 ?_;refine aK (i+1,Y,Ls) ?_ ?_
   · exact⟨by omega,hY,ht,fun hg=>by obtain ⟨e,hd2⟩:=hf hg;subst e;exact⟨rfl,hd2.step h4⟩⟩
   · (dsimp only;omega)
  refine J5 ?_;refine aK (Y,Ls) ?_ ?_
  · exact⟨hY,fun hg=>by obtain ⟨e,hd2⟩:=hf hg;have TZ:i=64:=om;subst TZ;rw [e];exact hd2⟩
  · dsimp only;have:=zo X;have:=zo Y;cases Ls with|false=>(obtain ⟨e,_⟩:=hf rfl;subst e;rw [h1];simp)|true=>(have:=ht rfl;rw [h1];simp;omega)
 refine cN ?_;refine qL Tryz.results173 rfl fun w' aj aa az=>?_;refine ⟨?_,aa⟩;simp only [ba];exact congrArg U (hX.end (hd (by simpa using h1)))
theorem zJ {n0:Nat} {G:Gr} {ad:Option Addr} {n cap:Nat} {m:ab} (b:Nat) (who:Int) (w:World) (hG:G.length=64) (hn:n=64) (jt:Sl fU 41 1 n0 G (.slice ad n cap) m) (hM:Mem w (gR b ad n cap::(m++ []))):aD Tryz.prog 148 #[.pointer (some ⟨b,0,none⟩),.int .i64 who] w (fun v w'=>v=U (Ju G who)∧Ext w w'):=by
 refine aD.ao Tryz.func148 rfl Tryz.ntmps148 rfl (gR b ad n cap::(m++ [])) (no) hM ?_;refine J9 ?_;refine cE Tryz.func147 rfl (fun w hm hc hg=>oY _ w) ?_;refine J3 ?_;refine af.aJ rfl (fun h1=>?_) (fun h1=>?_)
 ·refine J7 ?_;refine qL Tryz.results148 rfl fun w' aj aa az=>?_;refine ⟨?_,aa⟩;simp only [ba,Ju];rw [if_neg (by simpa using h1)];rfl
 have gI:=ky.1 (show Gt who=true by simpa using h1);refine cj ?_;refine LM.val (bF j3 Tryz.underlying46 Tryz.sizeOf41 rfl rfl om) ?_;refine LM.rd (bd aB ir Tryz.isAgg41 rfl rfl (by exact aO 0#64 cK) (by rfl)) ?_;refine cE Tryz.func173 rfl (fun w hm hc hg=>vw b _ w hG hn jt hm) ?_;refine J4 ?_;refine qL Tryz.results148 rfl fun w' aj aa az=>?_;refine ⟨?_,aa⟩;simp only [ba,Ju];rw [if_pos (by simpa using h1)];rfl
theorem Az {n0:Nat} {G:Gr} {ad:Option Addr} {n cap:Nat} {m:ab} (b:Nat) (who:Int) (w:World) (hG:G.length=64) (hn:n=64) (jt:Sl fU 41 1 n0 G (.slice ad n cap) m) (hM:Mem w (gR b ad n cap::(m++ []))):aD Tryz.prog 107 #[.pointer (some ⟨b,0,none⟩),.int .i64 who] w (fun v w'=>v=U (vZ G who)∧Ext w w'):=by
 refine aD.ao Tryz.func107 rfl Tryz.ntmps107 rfl (gR b ad n cap::(m++ [])) (no) hM ?_;refine yi ?_;refine af.aP (α:=Nat) (fun i=>[(5,U (Q7 G who i)),(6,.int .i64 (i:Nat))]) [(0,_),(1,_)] (fun i=>gR b ad n cap::(m++ [])) (fun i=>i≤64) (fun i=>64-i) (0) ⟨(by first|rfl|exact lk rfl (by rw [rG];first|rw [if_pos h4] |rw [if_neg (by rw [h4];simp)])),kO,rfl,rfl,trivial⟩ aN (Nat.zero_le _) ?_;rintro i hi;change af _ _ _ _ _ _ _ (gR b ad n cap::(m++ [])) _ _ _;refine J7 ?_;refine af.ak rfl (fun h1=>?_) (fun h1=>?_)
 ·refine J5 ?_;refine af.bC (α:=Bool) (fun bb=>[(29,.bool bb)]) [(0,_),(1,_),(5,_),(6,_)] (fun bb=>gR b ad n cap::(m++ [])) (fun bb=>bb=aR (rY G (ot G i)) who) cF ?_ ?_
  ·refine J2 ?_;refine cE Tryz.func147 rfl (fun w hm hc hg=>oY _ w) ?_;refine J1 ?_;refine LM.bj (t:=13) rfl (fun h2=>?_) (fun h2=>?_)
   ·refine J6 ?_;refine LM.sp 13 rfl rfl rfl ?_;refine J2 ?_;refine LM.rd (bd aB ir Tryz.isAgg41 rfl rfl (by exact aO 0#64 cK) (by rfl)) ?_;refine LM.sp 13 rfl rfl rfl ?_;refine LM.val (fQ (b:=0#64) rfl rfl) ?_;refine J2 ?_;refine LM.aq (t:=23) rfl (fun h3=>?_) (fun h3=>?_)
    ·refine J3 ?_;refine cE Tryz.func148 rfl (fun w hm hc hg=>zJ b _ w hG hn jt hm) ?_;refine J2 ?_;refine cE Tryz.func108 rfl (fun w hm hc hg=>gu _ _ w) ?_;refine J2 ?_;refine mK (_) ?_
     · exact ZS om
    refine J7 ?_;refine mK (_) ?_
    · exact XQ aB
   refine yi ?_;refine mK (_) ?_
   · exact aaz aB
  rintro bb aau;change QM _ _ _ _ _ (gR b ad n cap::(m++ [])) _ _ _;subst aau;refine J1 ?_;refine af.aJ rfl (fun h4=>?_) (fun h4=>?_)
  ·refine J3 ?_;refine cE Tryz.func149 rfl (fun w hm hc hg=>qC _ _ w) ?_;refine J9 ?_;refine QM.dq (i+1) ⟨(by first|rfl|exact lk rfl (by rw [rG];first|rw [if_pos h4] |rw [if_neg (by rw [h4];simp)])),kO,rfl,rfl,trivial⟩ aN (fun _ h=>h) ?_ ?_
   · omega
   · omega
  refine J8 ?_;refine QM.dq (i+1) ⟨(by first|rfl|exact lk rfl (by rw [rG];first|rw [if_pos h4] |rw [if_neg (by rw [h4];simp)])),kO,rfl,rfl,trivial⟩ aN (fun _ h=>h) ?_ ?_
  · omega
  · omega
 refine cN ?_;refine qL Tryz.results107 rfl fun w' aj aa az=>?_;have TZ:i=64:=om;subst TZ;exact⟨by simp only [ba];rw [OL],aa⟩
theorem sd {n0:Nat} {G:Gr} {ad:Option Addr} {n cap:Nat} {m:ab} (b:Nat) (who:Int) (s:BitVec 64) (w:World) (hG:G.length=64) (hn:n=64) (jt:Sl fU 41 1 n0 G (.slice ad n cap) m) (hM:Mem w (gR b ad n cap::(m++ []))):aD Tryz.prog 139 #[.pointer (some ⟨b,0,none⟩),.int .i64 who,U s] w (fun v w'=>v= .bool (aR (rY G s) who)∧Ext w w'):=by
 refine aD.ao Tryz.func139 rfl Tryz.ntmps139 rfl (gR b ad n cap::(m++ [])) (no) hM ?_;refine J8 ?_;refine cE Tryz.func147 rfl (fun w hm hc hg=>oY _ w) ?_;refine J1 ?_;refine LM.bj (t:=9) rfl (fun h1=>?_) (fun h1=>?_)
 ·refine J3 ?_;refine cE Tryz.func173 rfl (fun w hm hc hg=>vw b _ w hG hn jt hm) ?_;refine J2 ?_;refine cE Tryz.func108 rfl (fun w hm hc hg=>gu _ _ w) ?_;refine J5 ?_;refine qL Tryz.results139 rfl fun w' aj aa az=>?_;exact⟨rfl,aa⟩
 refine cj ?_;refine qL Tryz.results139 rfl fun w' aj aa az=>?_;refine ⟨?_,aa⟩;simp only [ba];congr 1;cases hh:aR (rY G s) who;rfl;(have:=gA hh;simp [Gt,this.1,this.2] at h1)
theorem wi {n0:Nat} {G:Gr} {ad:Option Addr} {n cap:Nat} {m:ab} (b:Nat) (who:Int) (s:BitVec 64) (w:World) (hG:G.length=64) (hn:n=64) (jt:Sl fU 41 1 n0 G (.slice ad n cap) m) (hM:Mem w (gR b ad n cap::(m++ []))):aD Tryz.prog 142 #[.pointer (some ⟨b,0,none⟩),.int .i64 who,U s] w (ec m (WaT n0 G who s ad n cap) w):=by
 refine aD.ao Tryz.func142 rfl Tryz.ntmps142 rfl (gR b ad n cap::(m++ [])) ((fun x=>∃q∈m,q.1=x)) hM ?_;refine J9 ?_;refine cE Tryz.func147 rfl (fun w hm hc hg=>oY _ w) ?_;refine J3 ?_;refine af.aJ rfl (fun h1=>?_) (fun h1=>?_)
 ·refine J7 ?_;refine qL Tryz.results142 rfl fun w' aj aa az=>?_;have he:Nq G who s=1:=(by unfold Nq;rw [if_neg (by simpa using h1)]);refine ⟨aa,m,⟨by rw [he];rfl,by unfold CZ;rw [if_neg om];exact jt⟩,aj.pick m,fun p hp=> .inr ⟨p,hp,rfl⟩⟩
 have gI:=ky.1 (show Gt who=true by simpa using h1);refine J9 ?_;refine LM.val (bF j3 Tryz.underlying46 Tryz.sizeOf41 rfl rfl om) ?_;refine LM.rd (bd aB ir Tryz.isAgg41 rfl rfl (by exact aO 0#64 cK) (by rfl)) ?_;refine cj ?_;refine LM.val (bF j3 Tryz.underlying46 Tryz.sizeOf41 rfl rfl om) ?_;refine LM.fR 0#64 (j:=0) aB ir Tryz.sizeOf41 rfl rfl rfl (by exact aO 0#64 cK) rfl (by decide) (by rfl) rfl (fun p hp _=>by first|exact⟨p,hp,rfl⟩|exact N9 p hp) (fun ms Hu N9=>?_);refine J8 ?_;refine cE Tryz.func139 rfl (fun w hm hc hg=>sd b _ _ w (by rw [List.length_set];exact hG) hn Hu (sm hm)) ?_;refine J2 ?_;refine af.aJ rfl (fun h2=>?_) (fun h2=>?_)
 ·have U3:=N9;have aeF:=Hu;refine J8 ?_;refine LM.val (bF j3 Tryz.underlying46 Tryz.sizeOf41 rfl rfl om) ?_;refine LM.fR _ (j:=0) aB ir Tryz.sizeOf41 rfl rfl rfl (by exact aO 0#64 cK) rfl (by decide) (by rfl) rfl (fun p hp _=>by first|exact⟨p,hp,rfl⟩|exact N9 p hp) (fun ms Hu N9=>?_);refine J9 ?_;refine qL Tryz.results142 rfl fun w' aj aa az=>?_;have he:Nq G who s=9:=(by rw [rM hG gI] at h2;unfold Nq;rw [if_pos (by simpa using h1),if_pos h2]);rw [List.set_set,GR _ om] at Hu;refine ⟨aa,ms,⟨by rw [he];rfl,by unfold CZ;rw [if_neg om];exact Hu⟩,aj.pick ms,fun p hp=> .inr (by obtain ⟨q,hq,e⟩:=N9 p hp;obtain ⟨r,hr,e2⟩:=U3 q hq;exact⟨r,hr,e2.trans e⟩)⟩
 have U3:=N9;have aeF:=Hu;refine cj ?_;refine LM.val (bF j3 Tryz.underlying46 Tryz.sizeOf41 rfl rfl om) ?_;refine LM.fR _ (j:=0) aB ir Tryz.sizeOf41 rfl rfl rfl (by exact aO 0#64 cK) rfl (by decide) (by rfl) rfl (fun p hp _=>by first|exact⟨p,hp,rfl⟩|exact N9 p hp) (fun ms Hu N9=>?_);refine J8 ?_;refine qL Tryz.results142 rfl fun w' aj aa az=>?_;have he:Nq G who s=0:=(by rw [rM hG gI] at h2;unfold Nq;rw [if_pos (by simpa using h1),if_neg (by rw [h2];simp)]);rw [List.set_set] at Hu;refine ⟨aa,ms,⟨by rw [he];rfl,by unfold CZ;rw [if_pos he];exact Hu⟩,aj.pick ms,fun p hp=> .inr (by obtain ⟨q,hq,e⟩:=N9 p hp;obtain ⟨r,hr,e2⟩:=U3 q hq;exact⟨r,hr,e2.trans e⟩)⟩
theorem X4 {own:List Int} {i:Nat} (h:i<min own.length 64):min (max (own.getD i 0) 0) 16=wt own i:=by unfold wt;rw [if_pos h]
theorem Ci {own:List Int} {i:Nat} (h:i<min own.length 64) (w:World):aD Tryz.prog 50 #[.int .i64 (own.getD i 0),.int .i64 0,.int .i64 16] w (fun v w'=>v= .int .i64 (wt own i)∧Ext w w'):=X4 h▸(by have k:=bQ (own.getD i 0) 0 16 w;rw [show aF (own.getD i 0) 0 16=min (max (own.getD i 0) 0) 16 by unfold aF;split<;>(try split)<;>omega] at k;exact k)
theorem F0 {own:List Int} {G:Gr} {i:Nat} :wt own i+kg own (vZ G (i:Nat)) (min own.length 64)=VQ own G i:=by unfold VQ;rw [←Bb own _ 64 om]
theorem wL {own:List Int} {B:BitVec 64} {k:Nat} (h:aR B (k:Nat)=true):kg own B (k+1)=kg own B k+wt own k:=by rw [kg,if_pos h]
theorem zp {own:List Int} {B:BitVec 64} {k:Nat} (h:aR B (k:Nat)=false):kg own B (k+1)=kg own B k:=by rw [kg,if_neg (by rw [h];simp)];omega
theorem G0 {own:List Int} {ad:Option Addr} {n cap n0:Nat} {G:Gr} {lB:Option Addr} {ng D7:Nat} {mg:ab} (br:Nat) (w:World) (hG:G.length=64) (hA:Ri G) (E5:ng=64) (CK:Sl fU 41 1 n0 G (.slice lB ng D7) mg) (hn:n=own.length) (hl:Sr fI 1 own (.slice ad n cap) w) (hx:own.length≤1000000000000) (hM:Mem w (gR br lB ng D7::(mg++ []))):aD Tryz.prog 67 #[.slice ad n cap,.pointer (some ⟨br,0,none⟩)] w (New fI 3 1 (zq own G) w):=by
 refine aD.ao Tryz.func67 rfl Tryz.ntmps67 rfl (gR br lB ng D7::(mg++ [])) (no) hM ?_;refine yi ?_;refine af.aP (α:=Nat×Option Addr×Nat×Nat×ab) (fun ⟨i,fp,no,cH,mo⟩=>[(5,.slice fp no cH),(6,.int .i64 (i:Nat))]) [(0,_),(1,_)] (fun ⟨i,fp,no,cH,mo⟩=>mo++(gR br lB ng D7::(mg++ []))) (fun ⟨i,fp,no,cH,mo⟩=>i≤min own.length 64∧no=i∧Sl fI 3 1 w.heap.size (Cf own G i) (.slice fp no cH) mo) (fun ⟨i,fp,no,cH,mo⟩=>min own.length 64-i) ((0,none,0,0,[])) cF aN ⟨Nat.zero_le _,rfl,.nil _ _ _ _⟩ ?_;rintro ⟨i,fp,no,cH,mo⟩ ⟨hi,gZ,mj⟩;change af _ _ _ _ _ _ _ (mo++(gR br lB ng D7::(mg++ []))) _ _ _;have hel:=MO own G i;refine J8 ?_;refine LM.aq (t:=14) rfl (fun h1=>?_) (fun h1=>?_)
 ·refine J5 ?_;refine af.ak rfl (fun h2=>?_) (fun h2=>?_)
  ·refine J9 ?_;refine LM.eh (lV aB Tryz.isAgg3 rfl rfl (by exact aO 0 cK) (by rfl) id) ?_;refine cE Tryz.func50 rfl (fun w hm hc hg=>Ci om w) ?_;refine J7 ?_;refine cE Tryz.func107 rfl (fun w hm hc hg=>Az br _ w hG E5 CK (sm hm)) ?_;refine cj ?_;refine af.aP (α:=Nat) (fun k=>[(7,.int .i64 (wt own i+kg own (vZ G (i:Nat)) k)),(9,.int .i64 (k:Nat))]) [(0,_),(1,_),(5,_),(6,_),(8,_)] (fun k=>mo++(gR br lB ng D7::(mg++ []))) (fun k=>k≤min own.length 64) (fun k=>min own.length 64-k) (0) ⟨(by first|rfl|exact lk rfl (by simp only [kg];congr 1;omega)|exact lk rfl (by rw [wL aB,Int.add_assoc])|exact lk rfl (by rw [zp aB])),kO,rfl,rfl,rfl,rfl,rfl,trivial⟩ aN (Nat.zero_le _) ?_;rintro k hk;change af _ _ _ _ _ _ _ (mo++(gR br lB ng D7::(mg++ []))) _ _ _;have JE:=D8 own i;have X8:=CQ own (vZ G (i:Nat)) k;have hw3:=D8 own k;refine J8 ?_;refine LM.aq (t:=32) rfl (fun h3=>?_) (fun h3=>?_)
   ·refine J5 ?_;refine af.ak rfl (fun h4=>?_) (fun h4=>?_)
    ·refine J8 ?_;refine cE Tryz.func108 rfl (fun w hm hc hg=>gu _ _ w) ?_;refine J1 ?_;refine LM.bj (t:=41) rfl (fun h5=>?_) (fun h5=>?_)
     ·refine J6 ?_;refine af.ak rfl (fun h6=>?_) (fun h6=>?_)
      ·refine J5 ?_;refine LM.eh (lV aB Tryz.isAgg3 rfl rfl (by exact aO 0 cK) (by rfl) id) ?_;refine cE Tryz.func50 rfl (fun w hm hc hg=>Ci om w) ?_;refine cj ?_;refine QM.dq (k+1) ⟨(by first|rfl|exact lk rfl (by simp only [kg];congr 1;omega)|exact lk rfl (by rw [wL aB,Int.add_assoc])|exact lk rfl (by rw [zp aB])),kO,rfl,rfl,rfl,rfl,rfl,trivial⟩ aN (fun _ h=>h) ?_ ?_
       · omega
       · omega
      have e:k=i:=om;subst e;rw [MV hA om] at h5;cases h5
     refine py ?_;refine QM.dq (k+1) ⟨(by first|rfl|exact lk rfl (by simp only [kg];congr 1;omega)|exact lk rfl (by rw [wL aB,Int.add_assoc])|exact lk rfl (by rw [zp aB])),kO,rfl,rfl,rfl,rfl,rfl,trivial⟩ aN (fun _ h=>h) ?_ ?_
     · omega
     · omega
    have hkm:k=min own.length 64:=om;have P9:wt own i+kg own (vZ G (i:Nat)) k=VQ own G i:=(by rw [hkm];exact F0)
    refine J8 ?_;refine LM.single Tryz.underlying26 Tryz.sizeOf3 Tryz.zeroValue3 rfl rfl rfl rfl rfl (fun b55 acK=>?_);refine LM.app Tryz.underlying26 Tryz.typeInfo3 rfl rfl rfl rfl rfl rfl rfl aB (by rfl) ir (by intro _ u hu;simp [fI] at hu;(repeat (first|(rcases hu with rfl|hu)|subst hu|rfl))) (by first|exact Nat.le_refl _|omega) pH (by first|omega|(unfold maxLen;omega)) (by simp only [Tryz.t3];omega) (fun TS n56 Kz GH afP Sn xa=>?_);refine J9 ?_;refine aK (i+1,TS,n56,Kz,GH) ?_ ?_
    · exact⟨by omega,by omega,by rw [ym,←P9];exact Sn⟩
    · (dsimp only;omega)
   have hkm:k=min own.length 64:=om;have P9:wt own i+kg own (vZ G (i:Nat)) k=VQ own G i:=(by rw [hkm];exact F0)
   refine kk ?_;refine LM.single Tryz.underlying26 Tryz.sizeOf3 Tryz.zeroValue3 rfl rfl rfl rfl rfl (fun b55 acK=>?_);refine LM.app Tryz.underlying26 Tryz.typeInfo3 rfl rfl rfl rfl rfl rfl rfl aB (by rfl) ir (by intro _ u hu;simp [fI] at hu;(repeat (first|(rcases hu with rfl|hu)|subst hu|rfl))) (by first|exact Nat.le_refl _|omega) pH (by first|omega|(unfold maxLen;omega)) (by simp only [Tryz.t3];omega) (fun TS n56 Kz GH afP Sn xa=>?_);refine J9 ?_;refine aK (i+1,TS,n56,Kz,GH) ?_ ?_
   · exact⟨by omega,by omega,by rw [ym,←P9];exact Sn⟩
   · (dsimp only;omega)
  refine cN ?_;refine qL Tryz.results67 rfl fun w' aj aa az=>?_;have him:i=min own.length 64:=om;subst him;exact⟨aa,mo,mj,aj.pick mo⟩
 refine yx ?_;refine qL Tryz.results67 rfl fun w' aj aa az=>?_;have him:i=min own.length 64:=om;subst him;exact⟨aa,mo,mj,aj.pick mo⟩
structure Dw where
  who:Int
  set:BitVec 64
deriving Inhabited
end Go.Eng
namespace Go.Eng
open Go Go.RowKit
theorem U0 {α:Type} {p:α→Bool} {xs:List α} (d:α) (h:0≤fS p xs):(fS p xs).toNat<xs.length∧p (xs.getD (fS p xs).toNat d)=true:=by
  unfold fS at h ⊢
  split at h
  · rename_i q
    rw [if_pos q,Int.toNat_natCast]
    have bD:xs.findIdx p<xs.length:=by
      obtain ⟨x,hx,hp⟩:=List.any_eq_true.1 q;exact List.findIdx_lt_length_of_exists ⟨x,hx,hp⟩
    refine ⟨bD,?_⟩;have e:=aO d bD;rw [List.getElem?_eq_getElem bD] at e;rw [←Option.some.inj e];exact List.findIdx_getElem (w:=bD)
  · omega
theorem UQ {α:Type} {p:α→Bool} {xs:List α} (h:¬0≤fS p xs):xs.any p=false:=by
  unfold fS at h
  cases q:xs.any p with
  |false=>rfl
  |true=>rw [if_pos q] at h;omega
/-! what is parsed may be -/
theorem tp {ws:List bG} {i:Nat} {e k:Int} {t:List UInt8} (h:(fo ws i e k t).2=0):e=0:=by
  unfold fo at h;split at h
  · exact h
  · split at h
    · cases h
    · exact h
theorem Fi {ws:List bG} {i:Nat} {e m:Int} (h:(sH ws i e 1 m).2.1=0):e=0∧cD (sH ws i e 1 m).2.2 m=true:=by
  unfold sH mn at h ⊢
  split at h
  · rename_i q;exact absurd h q
  rename_i q
  rw [if_neg q,if_neg (by decide)];rw [if_neg (by decide)] at h;refine ⟨Classical.not_not.1 q,?_⟩
  split at h
  · cases h
  rename_i q2
  rw [if_neg q2]
  split at h
  · rename_i q3
    rw [if_pos q3]
    unfold hasB at q3;rw [if_neg (by decide)] at q3;exact q3
  · cases h
theorem mb {ws:List bG} {i:Nat} {e m:Int} {nm:List UInt8} (h:(dL ws i e nm m).2.1=0):e=0∧cD (dL ws i e nm m).2.2 m=true:=
  ⟨tp (Fi h).1,(Fi h).2⟩
theorem r4 {ws:List bG} {i:Nat} {e m:Int} {nm:List UInt8} (h:(iI ws i e nm m).2.1=0):e=0∧cD (iI ws i e nm m).2.2 m=true:=
  mb (tp h)
theorem xb {ws:List bG} :∀(f i:Nat) (e:Int) (gs:List Int),(Ff ws f i e gs).2.2=0→e=0
  |0,i,e,gs,h=>by
    unfold Ff at h;split at h
    · rename_i q;exact(oF q).2
    · exact h
  |f+1,i,e,gs,h=>by
    unfold Ff at h;split at h
    · rename_i q;exact(oF q).2
    · exact h
theorem FM {ws:List bG} :∀(f i:Nat) (e:Int) (gs:List Int),(Ff ws f i e gs).2.2=0→(e=0→gs.all (fun n=>cD n 16)=true)→1≤gs.length→gs.length+f≤4→
    (Ff ws f i e gs).1.all (fun n=>cD n 16)=true∧1≤(Ff ws f i e gs).1.length∧(Ff ws f i e gs).1.length≤4
  |0,i,e,gs,h,ha,h1,h2=>by
    have he:=xb 0 i e gs h
    unfold Ff;split<;>exact⟨ha he,h1,h2⟩
  |f+1,i,e,gs,h,ha,h1,h2=>by
    have he:=xb (f+1) i e gs h
    unfold Ff at h ⊢;split
    · rename_i q
      rw [if_pos q] at h;refine FM f _ _ _ h (fun h3=>?_) (by simp) (by simp;omega);rw [List.all_append,ha he,Bool.true_and];simp [(r4 h3).2]
    · exact⟨ha he,h1,by show gs.length≤4;omega⟩
theorem O1 {ws:List bG} {i:Nat} {e:Int} {sh:Bool} (h:(ke ws sh i e).2.1=0):e=0∧k8 (ke ws sh i e).2.2=true:=by
  have hD:(ID ws sh i e).2.1=0:=tp h;cases sh with
  |true=>
    have d:=mb (show (dL ws (HS ws true i e).1 (HS ws true i e).2.1 yV 16).2.1=0 from hD);have c:=mb (show (dL ws (IQ ws i e).1 (IQ ws i e).2.1 Gu 16).2.1=0 from d.1);have b:=mb (show (dL ws (Da ws i e).1 (Da ws i e).2.1 vR 32).2.1=0 from c.1);have a:=mb (show (dL ws i e qV 16).2.1=0 from b.1);refine ⟨a.1,?_⟩
    show ((if true=true then cD (dL ws (IQ ws i e).1 (IQ ws i e).2.1 Gu 16).2.2 16&&cD (dL ws (HS ws true i e).1 (HS ws true i e).2.1 yV 16).2.2 16 else _)&&cD (dL ws i e qV 16).2.2 16&&cD (dL ws (Da ws i e).1 (Da ws i e).2.1 vR 32).2.2 32)=true
    rw [if_pos rfl,a.2,b.2,c.2,d.2];rfl
  |false=>
    have b:=mb (show (dL ws (Da ws i e).1 (Da ws i e).2.1 vR 32).2.1=0 from hD);have a:=mb (show (dL ws i e qV 16).2.1=0 from b.1);refine ⟨a.1,?_⟩
    show (true&&cD (dL ws i e qV 16).2.2 16&&cD (dL ws (Da ws i e).1 (Da ws i e).2.1 vR 32).2.2 32)=true
    rw [a.2,b.2];rfl
theorem zO {ws:List bG} {i:Nat} {e:Int} (h:Lu ws i e=true):i<ws.length∧e=0:=by
  unfold Lu at h;rw [Bool.or_eq_true] at h
  rcases h with h|h<;>exact oF h
theorem rp {ws:List bG} :∀(f i:Nat) (e:Int) (ls:List jv),(G9 ws f i e ls).2.2=0→e=0
  |0,i,e,ls,h=>by
    unfold G9 at h;split at h
    · rename_i q;exact(zO q).2
    · exact h
  |f+1,i,e,ls,h=>by
    unfold G9 at h;split at h
    · rename_i q;exact(zO q).2
    · exact h
theorem FQ {ws:List bG} :∀(f i:Nat) (e:Int) (ls:List jv),(G9 ws f i e ls).2.2=0→(e=0→ls.all k8=true)→ls.length+f≤8→
    (G9 ws f i e ls).1.all k8=true∧(G9 ws f i e ls).1.length≤8
  |0,i,e,ls,h,ha,h2=>by
    have he:=rp 0 i e ls h
    unfold G9;split<;>exact⟨ha he,h2⟩
  |f+1,i,e,ls,h,ha,h2=>by
    have he:=rp (f+1) i e ls h
    unfold G9 at h ⊢;split
    · rename_i q
      rw [if_pos q] at h;refine FQ f _ _ _ h (fun h3=>?_) (by simp;omega);rw [List.all_append,ha he,Bool.true_and];simp [(O1 h3).2]
    · exact⟨ha he,by show ls.length≤8;omega⟩
theorem xc {ws:List bG} {i:Nat} {e:Int} {ps:List qx} (h:IM ws i e ps=true):e=0:=by
  unfold IM at h;simp only [Bool.and_eq_true,decide_eq_true_eq] at h;exact h.1
theorem r8 {ws:List bG} :∀(f i:Nat) (e:Int) (ps:List qx) (pl:List Int),(De ws f i e ps pl).2.2.2=0→e=0
  |0,i,e,ps,pl,h=>by
    unfold De at h;split at h
    · rename_i q;exact xc q
    · exact h
  |f+1,i,e,ps,pl,h=>by
    unfold De at h;split at h
    · rename_i q;exact xc q
    · exact h
theorem Fj {ws:List bG} :∀(f i:Nat) (e:Int) (ps:List qx) (pl:List Int),(De ws f i e ps pl).2.2.2=0→ps.length+f≤8→
    1≤(De ws f i e ps pl).1.length∧(De ws f i e ps pl).1.length≤8
  |0,i,e,ps,pl,h,h2=>by
    have he:=r8 0 i e ps pl h;subst he
    unfold De at h ⊢;split
    · rename_i q;rw [if_pos q] at h;cases h
    · rename_i q
      unfold IM at q;simp only [decide_true,Bool.true_and,Bool.or_eq_true,decide_eq_true_eq,not_or] at q
      exact⟨by show 1≤ps.length;omega,h2⟩
  |f+1,i,e,ps,pl,h,h2=>by
    have he:=r8 (f+1) i e ps pl h;subst he
    unfold De at h ⊢;split
    · rename_i q
      rw [if_pos q] at h;exact Fj f _ _ _ _ h (by simp;omega)
    · rename_i q
      unfold IM at q;simp only [decide_true,Bool.true_and,Bool.or_eq_true,decide_eq_true_eq,not_or] at q
      exact⟨by show 1≤ps.length;omega,by show ps.length≤8;omega⟩
theorem OC {ls:List jv} {ps:List qx} (h:0≤pO ls ps):Hh ls ps (pO ls ps)≠0:=by
  have:j1 ls ps.length (ps.getD (pO ls ps).toNat default)=true:=(U0 default h).2
  unfold Hh;rw [if_neg om]
  simpa [j1] using this
theorem Ld (n:Nat) (m:Int):cD (n:Int) m=true↔1≤n∧(n:Int)≤m:=by
  unfold cD;simp only [Bool.and_eq_true,decide_eq_true_eq];omega
theorem Ki {ws:List bG} {i:Nat} (h:(ux ws i).2.2=0):eu (ux ws i).1=true:=by
  unfold ux at h ⊢
  split at h
  · rename_i q;exact absurd h q
  rename_i q
  rw [if_neg q]
  split at h
  · rename_i q2;exact absurd h (OC q2)
  rename_i q2
  rw [if_neg q2];have hP:=Classical.not_not.1 q;have p0:=r8 _ _ _ _ _ hP;have p1:=Fj _ _ _ _ _ hP (by simp);have l0:=rp _ _ _ _ p0;have l1:=FQ _ _ _ _ p0 (fun _=>rfl) (by simp);have g0:=xb _ _ _ _ l0;have g1:=FM _ _ _ _ l0 (fun h3=>by simp [(r4 h3).2]) (by simp) (by simp);have b0:=r4 g0;have b1:=r4 b0.1;have a0:=r4 b1.1
  unfold eu
  simp only [Bool.and_eq_true,decide_eq_true_eq,Bool.not_eq_true'];exact⟨⟨⟨⟨⟨a0.2,b1.2⟩,⟨(Ld _ _).2 ⟨g1.2.1,by have:(sG ws i).1.length≤4:=g1.2.2;omega⟩,g1.1⟩⟩,⟨l1.2,l1.1⟩⟩,(Ld _ _).2 ⟨p1.1,by have:(sP ws i).1.length≤8:=p1.2;omega⟩⟩,UQ q2⟩
theorem O3 {ws:List bG} {p:Int} (h:(lq ws p).2.2=0):eu (lq ws p).1=true:=by
  unfold lq at h ⊢
  split at h
  · cases h
  · rename_i q;rw [if_neg q];exact Ki h
/-! words are parsed again -/
/-! how many words -/
end Go.Eng
namespace Go.Eng
open Go Go.Proofs Go.RowKit
theorem wB {α:Type} {f:α→List Value} {s:Nat} {xs:List α} {b:Nat} {cs:Array Value} {E:TypeId} {fz:Nat×Nat} {w:World} (n:Nat) (h:w.heap[b]? =some (.cells cs E fz)) (hn:n=xs.length) (uT:cs=arr f xs []) (hf:∀a,(f a).length=s):Sr f s xs (.slice (some ⟨b,0,none⟩) n n) w:=by
  subst hn;exact Sr.row h uT rfl (Nat.le_refl _) hf
theorem HD {xs:List Int} {ad:Option Addr} {n cap:Nat} (x:Int) (w:World) (hn:n=xs.length) (hl:Sr fI 1 xs (.slice ad n cap) w) (hx:xs.length≤1000):aD Tryz.prog 192 #[.slice ad n cap,.int .i64 x] w (fun v w'=>v= .int .i64 (fS (fun y=>decide (x=y)) xs)∧Ext w w'):=by
 refine aD.ao Tryz.func192 rfl Tryz.ntmps192 rfl ([]) (no) (Mem.nil w) ?_;refine kk ?_;refine af.aP (α:=Nat) (fun i=>[(8,.int .i64 (i:Nat))]) [(0,_),(1,_),(7,_)] (fun i=>[]) (fun i=>i≤xs.length∧(xs.take i).any (fun y=>decide (x=y))=false) (fun i=>xs.length-i) (0) cF aN ⟨Nat.zero_le _,rfl⟩ ?_;rintro i ⟨hi,ha⟩;change af _ _ _ _ _ _ _ ([]) _ _ _;refine J6 ?_;refine af.ak rfl (fun h1=>?_) (fun h1=>?_)
 ·refine pQ ?_;refine LM.eh (lV aB Tryz.isAgg3 rfl rfl (by exact aO 0 cK) (by rfl) id) ?_;refine J3 ?_;refine af.ak rfl (fun h2=>?_) (fun h2=>?_)
  ·refine cN ?_;refine qL Tryz.results192 rfl fun w' aj aa az=>?_;exact⟨by show Value.int .i64 _=_;rw [iC 0 ha om (decide_eq_true h2)],aa⟩
  refine J7 ?_;refine aK (i+1) ?_ ?_
  · exact⟨by omega,by rw [dv 0 om,ha,Bool.false_or];exact decide_eq_false h2⟩
  · omega
 refine c9 ?_;refine qL Tryz.results192 rfl fun w' aj aa az=>?_;have er:i=xs.length:=om;subst er;rw [List.take_length] at ha;exact⟨by show Value.int .i64 _=_;rw [eK ha],aa⟩
theorem ji {xs:List Int} {ad:Option Addr} {n cap:Nat} (x:Int) (w:World) (hn:n=xs.length) (hl:Sr fI 1 xs (.slice ad n cap) w) (hx:xs.length≤1000):aD Tryz.prog 179 #[.slice ad n cap,.int .i64 x] w (fun v w'=>v= .bool (xs.any (fun y=>decide (x=y)))∧Ext w w'):=by
 refine aD.ao Tryz.func179 rfl Tryz.ntmps179 rfl ([]) (no) (Mem.nil w) ?_;refine J9 ?_;refine cE Tryz.func192 rfl (fun w hm hc hg=>HD x w hn (hl.ext hc) hx) ?_;refine J5 ?_;refine qL Tryz.results179 rfl fun w' aj aa az=>?_;exact⟨by show Value.bool _=_;rw [←kx],aa⟩
theorem E7 (k:Int) (w:World):aD Tryz.prog 189 #[.int .i64 k] w (fun v w'=>v= .bool (iU k)∧Ext w w'):=by
 refine aD.ao Tryz.func189 rfl Tryz.ntmps189 rfl ([]) (no) (Mem.nil w) ?_;refine J7 ?_;refine LM.row (vs:=[_,_,_,_]) Tryz.underlying26 Tryz.sizeOf3 Tryz.zeroValue3 rfl rfl rfl rfl rfl rfl (fun b3 xu=>?_);refine J1 ?_;refine cE Tryz.func179 rfl (fun w hm hc hg=>ji (xs:=[2,3,4,5]) k w rfl (wB 4 (hm.at b3) rfl rfl (fun _=>rfl)) (by decide)) ?_;refine J4 ?_;refine qL Tryz.results189 rfl fun w' aj aa az=>?_;exact⟨by show Value.bool _=_;rw [Hj],aa⟩
theorem AL (o:cZ) (w:World):aD Tryz.prog 178 #[.agg (fO o).toArray] w (fun v w'=>v= .bool (eJ o.k)∧Ext w w'):=by
 refine aD.ao Tryz.func178 rfl Tryz.ntmps178 rfl ([]) (no) (Mem.nil w) ?_;refine J2 ?_;refine LM.box rfl rfl (fun b1 jq=>?_);refine J5 ?_;refine LM.row (vs:=[_,_,_,_]) Tryz.underlying26 Tryz.sizeOf3 Tryz.zeroValue3 rfl rfl rfl rfl rfl rfl (fun b3 xu=>?_);refine J2 ?_;refine cE Tryz.func179 rfl (fun w hm hc hg=>ji (xs:=[1,7,8,11]) o.k w rfl (wB 4 (hm.at b3) rfl rfl (fun _=>rfl)) (by decide)) ?_;refine J4 ?_;refine qL Tryz.results178 rfl fun w' aj aa az=>?_;exact⟨by show Value.bool _=_;rw [Mr],aa⟩
theorem KM {xs:List cZ} {ad:Option Addr} {n cap:Nat} (w:World) (hn:n=xs.length) (hl:Sr fO 3 xs (.slice ad n cap) w) (hx:xs.length≤1000000):aD Tryz.prog 191 #[.slice ad n cap,.func (.func 178) #[] #[]] w (fun v w'=>v= .int .i64 (fS (fun o=>eJ o.k) xs)∧Ext w w'):=by
 refine aD.ao Tryz.func191 rfl Tryz.ntmps191 rfl ([]) (no) (Mem.nil w) ?_;refine kk ?_;refine af.aP (α:=Nat) (fun i=>[(8,.int .i64 (i:Nat))]) [(0,_),(1,_),(7,_)] (fun i=>[]) (fun i=>i≤xs.length∧(xs.take i).any (fun o=>eJ o.k)=false) (fun i=>xs.length-i) (0) cF aN ⟨Nat.zero_le _,rfl⟩ ?_;rintro i ⟨hi,ha⟩;change af _ _ _ _ _ _ _ ([]) _ _ _;refine J6 ?_;refine af.ak rfl (fun h1=>?_) (fun h1=>?_)
 ·refine pQ ?_;refine LM.eh (dB aB ir Tryz.isAgg168 Tryz.sizeOf168 rfl cJ id) ?_;refine LM.p9 (jO rfl (dV Tryz.func178 kr rfl) rfl) (fun w hm hc hg=>AL _ w) ?_;refine J2 ?_;refine af.aJ rfl (fun h2=>?_) (fun h2=>?_)
  ·refine cN ?_;refine qL Tryz.results191 rfl fun w' aj aa az=>?_;exact⟨by show Value.int .i64 _=_;rw [iC default ha om (by simpa using h2)],aa⟩
  refine J7 ?_;refine aK (i+1) ?_ ?_
  · exact⟨by omega,by rw [dv default om,ha,Bool.false_or];simpa using h2⟩
  · omega
 refine c9 ?_;refine qL Tryz.results191 rfl fun w' aj aa az=>?_;have er:i=xs.length:=om;subst er;rw [List.take_length] at ha;exact⟨by show Value.int .i64 _=_;rw [eK ha],aa⟩
theorem LV {xs:List cZ} {ad:Option Addr} {n cap:Nat} (w:World) (hn:n=xs.length) (hl:Sr fO 3 xs (.slice ad n cap) w) (hx:xs.length≤1000000):aD Tryz.prog 177 #[.slice ad n cap,.func (.func 178) #[] #[]] w (fun v w'=>v= .bool (xs.any (fun o=>eJ o.k))∧Ext w w'):=by
 refine aD.ao Tryz.func177 rfl Tryz.ntmps177 rfl ([]) (no) (Mem.nil w) ?_;refine J9 ?_;refine cE Tryz.func191 rfl (fun w hm hc hg=>KM w hn (hl.ext hc) hx) ?_;refine J5 ?_;refine qL Tryz.results177 rfl fun w' aj aa az=>?_;exact⟨by show Value.bool _=_;rw [←kx],aa⟩
theorem tZ (o:cZ) (w:World):aD Tryz.prog 91 #[.agg (fO o).toArray] w (fun v w'=>v= .bool (iU o.k)∧Ext w w'):=by
 refine aD.ao Tryz.func91 rfl Tryz.ntmps91 rfl ([]) (no) (Mem.nil w) ?_;refine J2 ?_;refine LM.box rfl rfl (fun b1 jq=>?_);refine J9 ?_;refine LM.aq (t:=6) rfl (fun h1=>?_) (fun h1=>?_)
 ·refine J9 ?_;refine qL Tryz.results91 rfl fun w' aj aa az=>?_;refine ⟨?_,aa⟩;simp only [ba,iU];congr 1;first|(rw [decide_eq_false (show¬2≤o.k by omega)];rfl)|(rw [decide_eq_true (show 2≤o.k by omega)];rfl)
 refine J8 ?_;refine qL Tryz.results91 rfl fun w' aj aa az=>?_;refine ⟨?_,aa⟩;simp only [ba,iU];congr 1;first|(rw [decide_eq_false (show¬2≤o.k by omega)];rfl)|(rw [decide_eq_true (show 2≤o.k by omega)];rfl)
theorem mD.drop {xs:List cZ} (h:mD xs) (k:Nat):mD (xs.drop k):=⟨by rw [List.length_drop];have:=h.1;omega,fun o ho=>h.2 o (List.mem_of_mem_drop ho)⟩
theorem Hy {xs:List cZ} {i j:Nat} :(xs.drop i).getD j default=xs.getD (i+j) default:=by rw [List.getD_eq_getElem?_getD,List.getElem?_drop,←List.getD_eq_getElem?_getD]
abbrev sV (i to lock ticks:Int):Value:= .agg #[.int .i64 i,.int .i64 to,.int .i64 lock,.int .i64 ticks]
abbrev Rj (b:Nat) (i to lock ticks:Int):Nat×Obj:=(b,.cells #[.int .i64 i,.int .i64 to,.int .i64 lock,.int .i64 ticks] 171 (0,0))
abbrev oB (b:Nat) (o:cZ):Nat×Obj:=(b,.cells (fO o).toArray 168 (0,0))
theorem kB {lock:Int} {o:cZ} (h1:¬o.k=11) (h2:¬(o.k=6∧o.a=lock)):oS lock o=false:=by
  unfold oS;rw [decide_eq_false h1]
  by_cases h:o.k=6
  · rw [decide_eq_false (fun q=>h2 ⟨h,q⟩)];simp
  · rw [decide_eq_false h];rfl
theorem Gs {lock:Int} {o:cZ} (h1:o.k=11):oS lock o=true:=by unfold oS;rw [decide_eq_true h1];rfl
theorem JR {lock:Int} {o:cZ} (h1:o.k=6) (h2:o.a=lock):oS lock o=true:=by unfold oS;rw [decide_eq_true h1,decide_eq_true h2];simp
def te (lock:Int) (ys:List cZ) (j:Nat) (acc:Int):Prop:=
  j≤ys.length∧(nN lock ys).1=j+(nN lock (ys.drop j)).1∧(nN lock ys).2=acc+(nN lock (ys.drop j)).2∧-((j:Int)*1125899906842624)≤acc∧acc≤(j:Int)*1125899906842624
theorem te.zero (lock:Int) (ys:List cZ):te lock ys 0 0:=⟨Nat.zero_le _,by simp,by simp,by simp,by simp⟩
theorem te.step {lock:Int} {ys:List cZ} {j:Nat} {acc Z1:Int} (h:te lock ys j acc) (hs:mD ys) (hj:j<ys.length) (hn:oS lock (ys.getD j default)=false) (ha:Z1=acc+if (ys.getD j default).k=1 then (ys.getD j default).a else 0):te lock ys (j+1) Z1:=by
  obtain ⟨h1,h2,h3,h4,h5⟩:=h;have e:=Nj hj hn;have hb:=hs.at j;rw [e] at h2 h3
  dsimp only at h2 h3
  have:((j+1:Nat):Int)*1125899906842624=(j:Int)*1125899906842624+1125899906842624:=by push_cast;omega
  refine ⟨by omega,by omega,by rw [ha];omega,?_,?_⟩<;>rw [this,ha] <;>split<;>omega
theorem te.stop {lock:Int} {ys:List cZ} {j:Nat} {acc:Int} (h:te lock ys j acc) (hj:j<ys.length) (hn:oS lock (ys.getD j default)=true):nN lock ys=(j,acc):=by
  obtain ⟨h1,h2,h3,h4,h5⟩:=h;rw [Lk hj hn] at h2 h3;exact Prod.ext (by simpa using h2) (by simpa using h3)
theorem te.fin {lock:Int} {ys:List cZ} {j:Nat} {acc:Int} (h:te lock ys j acc) (hj:ys.length≤j):nN lock ys=(ys.length,acc):=by
  obtain ⟨h1,h2,h3,h4,h5⟩:=h;rw [Oj hj] at h2 h3;exact Prod.ext (by dsimp only at h2 ⊢;omega) (by simpa using h3)
theorem zW {xs:List cZ} {fv:Bool} {ad:Option Addr} {n cap:Nat} (i:Nat) (w:World) (hn:n=xs.length) (hl:Sr fO 3 xs (.slice ad n cap) w) (hs:mD xs) (hi:i<xs.length):aD Tryz.prog 190 #[pV fv ad n cap,.int .i64 (i:Nat)] w (fun v w'=>v=PZ xs i∧Ext w w'):=by
 have S5:=hs.1;have RG:=hl.drop (l:=i+1) om;have Dc:=hs.drop (i+1);obtain ⟨ys,o8⟩:∃ys,xs.drop (i+1)=ys:=⟨_,rfl⟩;have VY:ys.length=xs.length-(i+1):=(by rw [←o8,List.length_drop]);have Uw:qI xs i=nN (xs.getD i default).a ys:=(by unfold qI;rw [o8]);rw [o8] at RG Dc;simp only [PZ,Uw];refine aD.ao Tryz.func190 rfl Tryz.ntmps190 rfl ([]) (no) (Mem.nil w) ?_;refine J2 ?_;refine LM.box rfl rfl (fun b2 xr=>?_);refine LM.alloc Tryz.zeroValue171 rfl (fun b4 xw=>?_);refine J3 ?_;refine af.draw [(0,0),(1,0),(2,1),(3,0),(4,0),(5,1),(6,0),(7,0),(8,0),(9,1),(10,0),(11,2),(12,3)] kr kr ?_;refine J9 ?_;refine LD.eh rfl rfl (da (j:=1) aB Tryz.isAgg3 rfl rfl cJ (by rfl) (by rfl) id) ?_;refine LD.val rfl rfl (aC (cs:=#[_,_,_,_]) rfl (by first|rfl|kernel_rfl)) ?_;refine LD.alloc rfl rfl Tryz.zeroValue171 rfl (fun b5 AA=>?_);refine LD.tail rfl rfl ?_;refine LM.dh Tryz.sizeOf171 rfl rfl rfl rfl df bV ?_;refine J1 ?_;refine QM.qn ?_;refine J8 ?_;refine LM.val (lu (i+1) Tryz.underlying115 Tryz.sizeOf168 rfl rfl om om) ?_;refine J5 ?_;refine af.aP (α:=Nat×Int) (fun ⟨j,acc⟩=>[(25,.int .i64 (j:Nat))]) [(1,_),(4,_),(5,_),(23,_),(24,_)] (fun ⟨j,acc⟩=>Rj b5 (i:Nat) n (xs.getD i default).a acc::Rj b4 0 0 0 0::pB b2 fv ad n cap:: []) (fun ⟨j,acc⟩=>te (xs.getD i default).a ys j acc) (fun ⟨j,acc⟩=>ys.length-j) ((0,0)) cF aN (te.zero _ ys) ?_;rintro ⟨j,acc⟩ hI;change af _ _ _ _ _ _ _ (Rj b5 (i:Nat) n (xs.getD i default).a acc::Rj b4 0 0 0 0::pB b2 fv ad n cap:: []) _ _ _;have hj:=hI.1;have hb:=Dc.at j;obtain ⟨-,-,-,jq,xr⟩:=id hI;refine J6 ?_;refine af.ak rfl (fun h1=>?_) (fun h1=>?_)
 ·refine J8 ?_;refine LM.eh (dB aB ir Tryz.isAgg168 Tryz.sizeOf168 rfl cJ id) ?_;refine LM.alloc Tryz.zeroValue168 rfl (fun b7 KF=>?_);refine J1 ?_;refine LM.dh Tryz.sizeOf168 rfl rfl rfl rfl df bV ?_;refine cN ?_;refine af.im (t:=30) rfl (fun h2=>?_) (fun h2=>?_)
  ·refine cj ?_;refine LM.st Tryz.sizeOf3 rfl rfl rfl dW rfl bV ?_;refine J4 ?_;refine LM.rd (aL Tryz.isAgg171 Tryz.sizeOf171 rfl rfl) ?_;refine LM.dh Tryz.sizeOf171 rfl rfl rfl rfl df bV ?_;refine J9 ?_;refine QM.aH (ds:=([])) (.inl rfl) [.cell 4 171] Tryz.results190 aX (bY rfl Tryz.isAgg171 Tryz.sizeOf171 rfl aW) ?_;intro w' aj aa;have hq:=hI.stop om (Gs h2);refine ⟨?_,aa⟩;rw [hq];show sV _ _ _ _=_;congr 5
  refine J5 ?_;refine LM.aq (t:=37) rfl (fun h3=>?_) (fun h3=>?_)
  ·refine c9 ?_;refine af.ak rfl (fun h4=>?_) (fun h4=>?_)
   ·refine J7 ?_;refine LM.st Tryz.sizeOf3 rfl rfl rfl dW rfl bV ?_;refine J4 ?_;refine LM.rd (aL Tryz.isAgg171 Tryz.sizeOf171 rfl rfl) ?_;refine LM.dh Tryz.sizeOf171 rfl rfl rfl rfl df bV ?_;refine J9 ?_;refine QM.aH (ds:=([])) (.inl rfl) [.cell 4 171] Tryz.results190 aX (bY rfl Tryz.isAgg171 Tryz.sizeOf171 rfl aW) ?_;intro w' aj aa;have hq:=hI.stop om (JR h3 h4);refine ⟨?_,aa⟩;rw [hq];show sV _ _ _ _=_;congr 5
   refine J8 ?_;refine af.ak rfl (fun h5=>?_) (fun h5=>?_)
   ·refine J7 ?_;refine LM.st Tryz.sizeOf3 rfl rfl rfl dW rfl bV ?_;refine J8 ?_;refine aK ((j+1,acc+(ys.getD j default).a)) ?_ ?_
    · exact hI.step Dc om (kB h2 (fun q=>by first|exact h4 q.2|exact h3 q.1)) (by rw [if_pos h5])
    · omega
   refine J8 ?_;refine aK ((j+1,acc)) ?_ ?_
   · exact hI.step Dc om (kB h2 (fun q=>by first|exact h4 q.2|exact h3 q.1)) (by rw [if_neg h5];omega)
   · (dsimp only;omega)
  refine yx ?_;refine af.ak rfl (fun h6=>?_) (fun h6=>?_)
  ·refine J7 ?_;refine LM.st Tryz.sizeOf3 rfl rfl rfl dW rfl bV ?_;refine J8 ?_;refine aK ((j+1,acc+(ys.getD j default).a)) ?_ ?_
   · exact hI.step Dc om (kB h2 (fun q=>by first|exact h4 q.2|exact h3 q.1)) (by rw [if_pos h6])
   · (dsimp only;omega)
  refine J8 ?_;refine aK ((j+1,acc)) ?_ ?_
  · exact hI.step Dc om (kB h2 (fun q=>by first|exact h4 q.2|exact h3 q.1)) (by rw [if_neg h6];omega)
  · (dsimp only;omega)
 refine J7 ?_;refine LM.rd (aL Tryz.isAgg171 Tryz.sizeOf171 rfl rfl) ?_;refine LM.dh Tryz.sizeOf171 rfl rfl rfl rfl df bV ?_;refine J3 ?_;refine QM.aH (ds:=([])) (.inl rfl) [.cell 4 171] Tryz.results190 aX (bY rfl Tryz.isAgg171 Tryz.sizeOf171 rfl aW) ?_;intro w' aj aa;have hq:=hI.fin om;refine ⟨?_,aa⟩;rw [hq];show sV _ _ _ _=_;congr 5;omega
theorem xN {xs:List cZ} {fv:Bool} {ad:Option Addr} {n cap:Nat} (i:Nat) (w:World) (hn:n=xs.length) (hl:Sr fO 3 xs (.slice ad n cap) w) (hs:mD xs) (hi:i<xs.length):aD Tryz.prog 92 #[pV fv ad n cap,.int .i64 (i:Nat)] w (fun v w'=>v=PZ xs i∧Ext w w'):=by
 have S5:=hs.1;have Dc:=hs.drop (i+1);obtain ⟨ys,o8⟩:∃ys,xs.drop (i+1)=ys:=⟨_,rfl⟩;have VY:ys.length=xs.length-(i+1):=(by rw [←o8,List.length_drop]);have Uw:qI xs i=nN (xs.getD i default).a ys:=(by unfold qI;rw [o8]);have hyx:∀j,ys.getD j default=xs.getD (i+1+j) default:=(fun j=>by rw [←o8,Hy]);rw [o8] at Dc;simp only [PZ,Uw];refine aD.ao Tryz.func92 rfl Tryz.ntmps92 rfl ([]) (no) (Mem.nil w) ?_;refine J2 ?_;refine LM.box rfl rfl (fun b2 xr=>?_);refine LM.alloc Tryz.zeroValue171 rfl (fun b4 xw=>?_);refine cN ?_;refine LM.eh (da (j:=1) aB Tryz.isAgg3 rfl rfl cJ (by rfl) (by rfl) id) ?_;refine LM.val (aC (cs:=#[_,_,_,_]) rfl (by first|rfl|kernel_rfl)) ?_;refine LM.alloc Tryz.zeroValue171 rfl (fun b5 AA=>?_);refine LM.dh Tryz.sizeOf171 rfl rfl rfl rfl df bV ?_;refine J4 ?_;refine af.aP (α:=Nat×Int×Int) (fun ⟨j,to,acc⟩=>[]) [(2,_),(4,_),(5,_)] (fun ⟨j,to,acc⟩=>Rj b5 (i:Nat) to (xs.getD i default).a acc::Rj b4 0 0 0 0::pB b2 fv ad n cap:: []) (fun ⟨j,to,acc⟩=>te (xs.getD i default).a ys j acc∧to=(i:Int)+1+(j:Nat)) (fun ⟨j,to,acc⟩=>ys.length-j) ((0,(i:Int)+1,0)) cF aN ⟨te.zero _ ys,by simp⟩ ?_;rintro ⟨j,to,acc⟩ ⟨hI,hto⟩;change af _ _ _ _ _ _ _ (Rj b5 (i:Nat) to (xs.getD i default).a acc::Rj b4 0 0 0 0::pB b2 fv ad n cap:: []) _ _ _;have hj:=hI.1;have htn:to.toNat=i+1+j:=om;have ss:ys.getD j default=xs.getD to.toNat default:=(by rw [hyx,htn]);have hb:=Dc.at j;rw [ss] at hb;obtain ⟨-,-,-,jq,xr⟩:=id hI;refine c9 ?_;refine af.ak rfl (fun h1=>?_) (fun h1=>?_)
 ·refine J9 ?_;refine LM.val (bF j3 Tryz.underlying115 Tryz.sizeOf168 rfl rfl om) ?_;refine LM.eh (dB aB ir Tryz.isAgg168 Tryz.sizeOf168 rfl cJ id) ?_;refine LM.alloc Tryz.zeroValue168 rfl (fun b6 Rs=>?_);refine LM.dh Tryz.sizeOf168 rfl rfl rfl rfl df bV ?_;refine J9 ?_;refine LM.aq (t:=32) rfl (fun h2=>?_) (fun h2=>?_)
  ·refine J3 ?_;refine LM.dp (t:=32) rfl rfl rfl ?_;refine cN ?_;refine LM.rd (aL Tryz.isAgg171 Tryz.sizeOf171 rfl rfl) ?_;refine LM.dh Tryz.sizeOf171 rfl rfl rfl rfl df bV ?_;refine J8 ?_;refine QM.aH (ds:=([])) (.inl rfl) [.cell 4 171] Tryz.results92 aX (bY rfl Tryz.isAgg171 Tryz.sizeOf171 rfl aW) ?_;intro w' aj aa;have hq:=hI.stop om (by rw [ss];exact Gs h2);refine ⟨?_,aa⟩;rw [hq];show sV _ _ _ _=_;congr 5
  refine J5 ?_;refine LM.aq (t:=36) rfl (fun h3=>?_) (fun h3=>?_)
  ·refine c9 ?_;refine af.ak rfl (fun h4=>?_) (fun h4=>?_)
   ·refine J2 ?_;refine LM.rd (aL Tryz.isAgg171 Tryz.sizeOf171 rfl rfl) ?_;refine LM.dh Tryz.sizeOf171 rfl rfl rfl rfl df bV ?_;refine J8 ?_;refine QM.aH (ds:=([])) (.inl rfl) [.cell 4 171] Tryz.results92 aX (bY rfl Tryz.isAgg171 Tryz.sizeOf171 rfl aW) ?_;intro w' aj aa;have hq:=hI.stop om (by rw [ss];exact JR h3 h4);refine ⟨?_,aa⟩;rw [hq];show sV _ _ _ _=_;congr 5
   refine cj ?_;refine af.ak rfl (fun h5=>?_) (fun h5=>?_)
   ·refine J7 ?_;refine LM.st Tryz.sizeOf3 rfl rfl rfl dW rfl bV ?_;refine J7 ?_;refine LM.st Tryz.sizeOf3 rfl rfl rfl dW rfl bV ?_;refine J2 ?_;refine aK ((j+1,to+1,acc+(xs.getD to.toNat default).a)) ?_ ?_
    · exact⟨hI.step Dc om (by rw [ss];exact kB h2 (fun q=>by first|exact h4 q.2|exact h3 q.1)) (by rw [ss,if_pos h5]),by push_cast;omega⟩
    · omega
   refine J7 ?_;refine LM.st Tryz.sizeOf3 rfl rfl rfl dW rfl bV ?_;refine J2 ?_;refine aK ((j+1,to+1,acc)) ?_ ?_
   · exact⟨hI.step Dc om (by rw [ss];exact kB h2 (fun q=>by first|exact h4 q.2|exact h3 q.1)) (by rw [ss,if_neg h5];omega),by push_cast;omega⟩
   · (dsimp only;omega)
  refine Rt ?_;refine af.ak rfl (fun h6=>?_) (fun h6=>?_)
  ·refine J7 ?_;refine LM.st Tryz.sizeOf3 rfl rfl rfl dW rfl bV ?_;refine J7 ?_;refine LM.st Tryz.sizeOf3 rfl rfl rfl dW rfl bV ?_;refine J2 ?_;refine aK ((j+1,to+1,acc+(xs.getD to.toNat default).a)) ?_ ?_
   · exact⟨hI.step Dc om (by rw [ss];exact kB h2 (fun q=>by first|exact h4 q.2|exact h3 q.1)) (by rw [ss,if_pos h6]),by push_cast;omega⟩
   · (dsimp only;omega)
  refine J7 ?_;refine LM.st Tryz.sizeOf3 rfl rfl rfl dW rfl bV ?_;refine J2 ?_;refine aK ((j+1,to+1,acc)) ?_ ?_
  · exact⟨hI.step Dc om (by rw [ss];exact kB h2 (fun q=>by first|exact h4 q.2|exact h3 q.1)) (by rw [ss,if_neg h6];omega),by push_cast;omega⟩
  · (dsimp only;omega)
 refine J7 ?_;refine LM.rd (aL Tryz.isAgg171 Tryz.sizeOf171 rfl rfl) ?_;refine LM.dh Tryz.sizeOf171 rfl rfl rfl rfl df bV ?_;refine J3 ?_;refine QM.aH (ds:=([])) (.inl rfl) [.cell 4 171] Tryz.results92 aX (bY rfl Tryz.isAgg171 Tryz.sizeOf171 rfl aW) ?_;intro w' aj aa;have hq:=hI.fin om;refine ⟨?_,aa⟩;rw [hq];show sV _ _ _ _=_;congr 5;omega
end Go.Eng
