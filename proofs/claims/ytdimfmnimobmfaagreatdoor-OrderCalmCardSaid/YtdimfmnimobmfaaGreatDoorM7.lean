/- The walk of the document's parser of scripts. No condition. -/
import Derived.Test.YtdimfmnimobmfaaGreatDoorM2
import Derived.Test.YtdimfmnimobmfaaGreatDoorM5
import Derived.Test.YtdimfmnimobmfaaGreatDoorM6
import Derived.Test.YtdimfmnimobmfaaGreatDoorM3
import Derived.Test.YtdimfmnimobmfaaGreatDoorM1
import Derived.Test.YtdimfmnimobmfaaGreatDoorRows
set_option linter.unusedVariables false
set_option linter.unusedSectionVars false
set_option linter.unusedSimpArgs false
set_option maxRecDepth 100000
set_option maxHeartbeats 4000000
attribute [local irreducible] Go.Eng.LM Go.Eng.LD Go.Eng.KD Go.Eng.af Go.Eng.QM
namespace Go.Eng
open Go Go.Proofs Go.RowKit
variable {left s:BitVec 64} {G:Gr} {a co:Int} {cI told:List Hd} {to:List Int} {xs:List bO} {c i k l n pc t:Nat} {x:aB} {L:bf} {w w0:cR}
def tV (s:List UInt8) (ws:List bA) (p:Int):Int:=if p<ws.length then (ws.getD p.toNat default).p else s.length
def jK (s:List UInt8):ee×List Act×Int×Int:=
  if (eG s).2.2≠0 then (default,[],(eG s).2.1,(eG s).2.2)
  else if (ly (eG s).1 0).2.2≠0 then (default,[],tV s (eG s).1 (ly (eG s).1 0).2.1,(ly (eG s).1 0).2.2)
  else if (k5 (eG s).1 (ly (eG s).1 0).2.1).2.2≠0 then (default,[],tV s (eG s).1 (k5 (eG s).1 (ly (eG s).1 0).2.1).2.1,(k5 (eG s).1 (ly (eG s).1 0).2.1).2.2)
  else ((ly (eG s).1 0).1,(k5 (eG s).1 (ly (eG s).1 0).2.1).1,0,0)
theorem M8 {ws:List bA} :∀(f i:Nat) (e:Int) (ps:List mX) (pl:List Int),(∀x∈pl,0<=x)->∀x∈(EF ws f i e ps pl).2.1,0<=x
  |0,i,e,ps,pl,h=>by unfold EF;split<;>exact h
  |f+1,i,e,ps,pl,h=>by
    unfold EF;split
    · refine M8 f _ _ _ _ (fun x hx=>?_)
      rcases List.mem_append.1 hx with hx|hx
      ·exact h x hx
      ·rw [List.mem_singleton] at hx;omega
    ·exact h
theorem Ro (ws:List bA) (p:Int):0<=(ly ws p).2.1:=by
  unfold ly vq
  split
  ·exact Int.le_refl _
  split
  ·show (0:Int)<=((sP ws p.toNat).2.2.1:Int);omega
  split
  · show (0:Int)<=(sP ws p.toNat).2.1.getD _ 0
    rw [List.getD_eq_getElem?_getD];cases h:(sP ws p.toNat).2.1[(ql (sL ws p.toNat).1 (sP ws p.toNat).1).toNat]? with
    |none=>exact Int.le_refl _
    |some x=>exact M8 _ _ _ _ _ (fun x hx=>by cases hx) x (List.mem_of_getElem? h)
  ·show (0:Int)<=((sP ws p.toNat).2.2.1:Int);omega
theorem M3 (ws:List bA) (p:Int):0<=(k5 ws p).2.1:=by
  have key:∀(f i:Nat) (out:List Act),0<=(jz f ws i out).2.1:=by
    intro f
    induction f with
    |zero=>intro i out;show (0:Int)<=(i:Int);omega
    |succ f ih=>
      intro i out
      unfold jz
      split
      ·show (0:Int)<=(i:Int);omega
      split
      ·show (0:Int)<=(i:Int);omega
      split
      ·show (0:Int)<=(i:Int);omega
      split
      ·show (0:Int)<=((j2 ws i).2.1:Int);omega
      ·exact ih _ _
  unfold k5;split
  ·exact Int.le_refl _
  ·exact key _ _ _
structure Zw where
  sv:dU
  xs:List Act
  ad:Option Addr
  n:Nat
  cap:Nat
abbrev Zw.val (x:Zw):Value:= .agg #[.int .i64 x.sv.cr,.int .i64 x.sv.gr,.slice x.sv.ga x.sv.gn x.sv.gc,.slice x.sv.la x.sv.ln x.sv.lc,.slice x.sv.pa x.sv.pn x.sv.pc,.slice x.ad x.n x.cap]
structure Zw.In (x:Zw) (w:World):Prop where
  st:x.sv.In w
  hn:x.n=x.xs.length
  hx:Sr fA 5 x.xs (.slice x.ad x.n x.cap) w
def O6 (r:ee×List Act×Int×Int) (n0:Nat) (v:Value) (m:ab):Prop:=∃x:Zw,v= .tuple #[x.val,.int .i64 r.2.2.1,.int .i64 r.2.2.2]/\x.sv.C=r.1/\x.xs=r.2.1/\∀w,Mem w m->x.In w
theorem O6.mono {r:ee×List Act×Int×Int}:∀(k k':Nat) u m,k'<=k->O6 r k u m->O6 r k' u m:=fun k k' u m h q=>q
theorem O6.Yo {p e:Int} {n0:Nat}:O6 (default,[],p,e) n0 (.tuple #[.agg #[.int .i64 0,.int .i64 0,.slice none 0 0,.slice none 0 0,.slice none 0 0,.slice none 0 0],.int .i64 p,.int .i64 e]) [] :=
  ⟨⟨default,[],Option.none,0,0⟩,rfl,rfl,rfl,fun w _=>⟨⟨rfl,.nil _ _ _,rfl,.nil _ _ _,rfl,.nil _ _ _,fun p hp=>by cases hp⟩,rfl,.nil _ _ _⟩⟩
theorem Aj {ws:List bA} {ad:Option Addr} {cap:Nat} (s:List UInt8) (j:Nat) (w:World) (hn:n=ws.length) (hl:Sr fW 4 ws (.slice ad n cap) w):aD Tryz.prog 33 #[vS s,.slice ad n cap,.int .i64 (j:Nat)] w (fun v w'=>v= .int .i64 (tV s ws (j:Nat))/\Ext w w'):=by
 refine aD.ak Tryz.func33 rfl Tryz.ntmps33 rfl ([]) (no) (Mem.nil w) ?_;refine kR ?_;refine af.aj rfl (fun h1=>?_) (fun h1=>?_)
 ·refine J6 ?_;refine LM.dV (db (j:=3) aC Tryz.isAgg3 rfl rfl c7 (by rfl) (by rfl) id) ?_;refine J5 ?_;refine qL Tryz.results33 rfl fun w' ao aa aA=>?_;refine ⟨?_,aa⟩;unfold tV;rw [if_pos om,Int.toNat_natCast];rfl
 refine J5 ?_;refine LM.val (j0 Tryz.underlying9 rfl) ?_;refine J4 ?_;refine qL Tryz.results33 rfl fun w' ao aa aA=>?_;refine ⟨?_,aa⟩;unfold tV;rw [if_neg om];rfl
theorem vc {ws:List bA} {ad:Option Addr} {cap:Nat} (s:List UInt8) (p:Int) (w:World) (hn:n=ws.length) (hl:Sr fW 4 ws (.slice ad n cap) w) (hp0:0<=p):
    aD Tryz.prog 33 #[vS s,.slice ad n cap,.int .i64 p] w (fun v w'=>v= .int .i64 (tV s ws p)/\Ext w w'):=by
  obtain ⟨j,rfl⟩:∃j:Nat,p=(j:Int):=⟨p.toNat,by omega⟩
  exact Aj s j w hn hl
theorem r4 (s:List UInt8) (w:World) (hs:s.length<=1000000000):aD Tryz.prog 9 #[vS s] w (fun v w'=>Ext w w'/\∃m,O6 (jK s) w.heap.size v m/\Mem w' m/\∀p∈m,w.heap.size<=p.1):=by
 refine aD.ak Tryz.func9 rfl Tryz.ntmps9 rfl ([]) (no) (Mem.nil w) ?_;refine J2 ?_;refine LM.alloc Tryz.zeroValue54 rfl (fun b2 wi=>?_);refine J7 ?_;refine LM.dS (oC Tryz.func31) ScT.mono (fun w hm hc hg=>IN w om) ?_;rintro u13 m13 ⟨apP,n13,alA,rfl,Q3,Th⟩-;have W7:=PY s;refine Ai ?_;refine af.aj rfl (fun h1=>?_) (fun h1=>?_)
 ·refine J2 ?_;refine LM.val (aE (cs:=#[_,_,_,_,_,_]) rfl (by first|rfl|kernel_rfl)) ?_;refine J2 ?_;refine LM.c6 Tryz.sizeOf54 rfl rfl rfl rfl cZ bF ?_;refine J6 ?_;refine QM.aG (ds:=([])) (.inl rfl) [.cell 2 54,.tmp 3,.tmp 4] Tryz.results9 aV (bU rfl Tryz.isAgg54 Tryz.sizeOf54 rfl (aZ rfl (aZ rfl aU))) ?_;intro w' ao aa
  unfold jK;rw [if_pos h1];exact⟨aa,[],O6.Yo,Mem.nil _,fun p hp=>by cases hp⟩
 refine J5 ?_;refine LM.dS (oC Tryz.func32) M9.mono (fun w hm hc hg=>Cm 0 w Q3 om (Th.l7 ir hm)) ?_;rintro u24 m24 ⟨sv,rfl,hsv,eK⟩ Uu;refine J4 ?_;refine LM.alloc Tryz.zeroValue30 rfl (fun b8 RV=>?_);refine LM.c6 Tryz.sizeOf30 rfl rfl rfl rfl cZ bF ?_;refine dc ?_;refine af.aj rfl (fun h2=>?_) (fun h2=>?_)
 ·refine J2 ?_;refine LM.val (aE (cs:=#[_,_,_,_,_,_]) rfl (by first|rfl|kernel_rfl)) ?_;refine J3 ?_;refine cE Tryz.func33 rfl (fun w hm hc hg=>vc s _ w Q3 (Th.l7 ir hm) (Ro _ _)) ?_;refine J1 ?_;refine LM.c6 Tryz.sizeOf54 rfl rfl rfl rfl cZ bF ?_;refine J6 ?_;refine QM.aG (ds:=([])) (.inl rfl) [.cell 2 54,.tmp 3,.tmp 4] Tryz.results9 aV (bU rfl Tryz.isAgg54 Tryz.sizeOf54 rfl (aZ rfl (aZ rfl aU))) ?_;intro w' ao aa
  unfold jK;rw [if_neg h1,if_pos h2];exact⟨aa,[],O6.Yo,Mem.nil _,fun p hp=>by cases hp⟩
 refine J6 ?_;refine LM.dS (oC Tryz.func34) AcT.mono (fun w hm hc hg=>A4 _ w Q3 om (Th.l7 ir hm)) ?_;rintro u39 m39 ⟨agE,n39,ach,rfl,agy,ahy⟩ acX;refine Ai ?_;refine af.aj rfl (fun h3=>?_) (fun h3=>?_)
 ·refine J2 ?_;refine LM.val (aE (cs:=#[_,_,_,_,_,_]) rfl (by first|rfl|kernel_rfl)) ?_;refine J3 ?_;refine cE Tryz.func33 rfl (fun w hm hc hg=>vc s _ w Q3 (Th.l7 ir hm) (M3 _ _)) ?_;refine J1 ?_;refine LM.c6 Tryz.sizeOf54 rfl rfl rfl rfl cZ bF ?_;refine J6 ?_;refine QM.aG (ds:=([])) (.inl rfl) [.cell 2 54,.tmp 3,.tmp 4] Tryz.results9 aV (bU rfl Tryz.isAgg54 Tryz.sizeOf54 rfl (aZ rfl (aZ rfl aU))) ?_;intro w' ao aa
  unfold jK;rw [if_neg h1,if_neg h2,if_pos h3];exact⟨aa,[],O6.Yo,Mem.nil _,fun p hp=>by cases hp⟩
 refine J4 ?_;refine LM.rd (aR Tryz.isAgg30 Tryz.sizeOf30 rfl rfl) ?_;refine J1 ?_;refine LM.val (aE (cs:=#[_,_,_,_,_,_]) rfl (by first|rfl|kernel_rfl)) ?_;refine LM.c6 Tryz.sizeOf54 rfl rfl rfl rfl cZ bF ?_;refine J5 ?_;refine QM.aG (ds:=([])) (.inl rfl) [.cell 2 54,.tmp 3,.tmp 4] Tryz.results9 aV (bU rfl Tryz.isAgg54 Tryz.sizeOf54 rfl (aZ rfl (aZ rfl aU))) ?_;intro w' ao aa
 unfold jK;rw [if_neg h1,if_neg h2,if_neg h3];refine ⟨aa,m39++(m24++ []),⟨⟨sv,_,agE,n39,ach⟩,rfl,hsv,rfl,fun w hm=>⟨eK w (hm.pick m24),agy,ahy.l7 ir hm⟩⟩,aJ.mem (by(repeat' (first|exact aJ.nil _|refine aJ.app ?_))) w' ao,?_⟩;intro p hp;simp only [List.mem_append,List.not_mem_nil,or_false] at hp;rcases hp with hp|hp;exact acX p hp;exact Uu p hp
theorem GK {s:List UInt8} (h:(jK s).2.2.2=0):dt (jK s).1=true:=by
  unfold jK at h ⊢
  split at h
  ·next e=>exact absurd h e
  next e1=>
  rw [if_neg e1]
  split at h
  ·next e=>exact absurd h e
  next e2=>
  rw [if_neg e2]
  split at h
  ·next e=>exact absurd h e
  next e3=>
  rw [if_neg e3];exact RE (Classical.not_not.1 e2)
def QD (n:Nat) (k:Int) (k0:Nat) (v:Value) (m:ab):Prop:=∃(x:dU) (ok:Bool),v= .tuple #[x.val,.bool ok]/\(ok=true->dt x.C=true/\(n:Int)<=k)/\∀w,Mem w m->x.In w
theorem QD.mono {k:Int}:∀(a b:Nat) u m,b<=a->QD n k a u m->QD n k b u m:=fun a b u m h q=>q
abbrev Za (b:Nat) (t:List UInt8) (Kc:Option Addr) (na uw:Nat):Nat×Obj:=(b,.cells #[vS t,.slice Kc na uw] 24 (0,0))
abbrev seZ (b:Nat):Nat×Obj:=(b,.cells #[.int .i64 0,.int .i64 0,.slice none 0 0,.slice none 0 0,.slice none 0 0] 30 (0,0))
abbrev scB (b:Nat) (x:Zw):Nat×Obj:=(b,.cells #[.int .i64 x.sv.cr,.int .i64 x.sv.gr,.slice x.sv.ga x.sv.gn x.sv.gc,.slice x.sv.la x.sv.ln x.sv.lc,.slice x.sv.pa x.sv.pn x.sv.pc,.slice x.ad x.n x.cap] 54 (0,0))
theorem QD.nil {n:Nat} {k:Int} {k0:Nat} {w:World} {w':World} (hc:Ext w w'):Ext w w'/\∃m,QD n k w.heap.size (.tuple #[.agg #[.int .i64 0,.int .i64 0,.slice none 0 0,.slice none 0 0,.slice none 0 0],.bool false]) m/\Mem w' m/\∀p∈m,w.heap.size<=p.1:=
  ⟨hc,[],⟨default,false,rfl,fun q=>(by cases q),fun w _=>⟨rfl,.nil _ _ _,rfl,.nil _ _ _,rfl,.nil _ _ _,fun p hp=>by cases hp⟩⟩,Mem.nil _,fun p hp=>by cases hp⟩
set_option maxHeartbeats 1000000 in
theorem Ez (t:List UInt8) {xs:List Act} {Kc:Option Addr} {na uw:Nat} (k r:Int) (w:World) (K3:na=xs.length) (hl:Sr fA 5 xs (.slice Kc na uw) w) (hr:0<=r/\r<=1000000) (hk:k<=1000000):aD Tryz.prog 5 #[.agg #[vS t,.slice Kc na uw],.int .i64 k,.int .i64 r] w (fun v w'=>Ext w w'/\∃m,QD xs.length k w.heap.size v m/\Mem w' m/\∀p∈m,w.heap.size<=p.1):=by
 refine aD.ak Tryz.func5 rfl Tryz.ntmps5 rfl ([]) (no) (Mem.nil w) ?_;refine J2 ?_;refine LM.box rfl rfl (fun b3 FM=>?_);refine LM.alloc Tryz.zeroValue30 rfl (fun b6 Qo=>?_);refine J8 ?_;refine LM.val (j0 Tryz.underlying9 rfl) ?_;refine J2 ?_;refine LM.aw (t:=17) rfl (fun h1=>?_) (fun h1=>?_)
 ·refine dc ?_;refine LM.val (aE (cs:=#[_,_,_,_,_]) rfl (by first|rfl|kernel_rfl)) ?_;refine LM.c6 Tryz.sizeOf30 rfl rfl rfl rfl cZ bF ?_;refine J5 ?_;refine QM.aG (ds:=([])) (.inl rfl) [.cell 6 30,.tmp 7] Tryz.results5 aV (bU rfl Tryz.isAgg30 Tryz.sizeOf30 rfl (aZ rfl aU)) ?_;intro w' ao aa;exact QD.nil (k0:=0) aa
 refine J9 ?_;refine af.aj rfl (fun h2=>?_) (fun h2=>?_)
 ·refine J2 ?_;refine LM.val (aE (cs:=#[_,_,_,_,_]) rfl (by first|rfl|kernel_rfl)) ?_;refine LM.c6 Tryz.sizeOf30 rfl rfl rfl rfl cZ bF ?_;refine J5 ?_;refine QM.aG (ds:=([])) (.inl rfl) [.cell 6 30,.tmp 7] Tryz.results5 aV (bU rfl Tryz.isAgg30 Tryz.sizeOf30 rfl (aZ rfl aU)) ?_;intro w' ao aa;exact QD.nil (k0:=0) aa
 refine cM ?_;refine af.aO (α:=Nat×Int) (fun ⟨i,q⟩=>[(2,.int .i64 q),(28,.int .i64 (i:Nat))]) [(3,_),(6,_),(26,_),(27,_)] (fun ⟨i,q⟩=>Za b3 t Kc na uw::seZ b6:: []) (fun ⟨i,q⟩=>i<=na/\0<=q/\q<=r) (fun ⟨i,q⟩=>na-i) ((0,r)) cA aX ⟨Nat.zero_le _,hr.1,Int.le_refl _⟩ ?_;rintro ⟨i,q⟩ ⟨hi,Un,hqr⟩;change af _ _ _ _ _ _ _ (Za b3 t Kc na uw::seZ b6:: []) _ _ _;refine J6 ?_;refine af.aj rfl (fun h3=>?_) (fun h3=>?_)
 ·refine J7 ?_;refine LM.dV (de aC ir Tryz.isAgg39 Tryz.sizeOf39 rfl c7 id) ?_;refine LM.alloc Tryz.zeroValue39 rfl (fun b9 hb9=>?_);refine LM.c6 Tryz.sizeOf39 rfl rfl rfl rfl cZ bF ?_;refine J9 ?_;refine LM.aw (t:=35) rfl (fun h4=>?_) (fun h4=>?_)
  ·refine Zg ?_;refine aK ((i+1,q)) ?_ ?_
   ·exact⟨by omega,Un,hqr⟩
   ·(dsimp only;omega)
  refine J6 ?_;refine LM.aw (t:=40) rfl (fun h5=>?_) (fun h5=>?_)
  ·refine rA ?_;refine aK ((i+1,q)) ?_ ?_
   ·exact⟨by omega,Un,hqr⟩
   ·(dsimp only;omega)
  refine J7 ?_;refine af.aj rfl (fun h6=>?_) (fun h6=>?_)
  ·refine J8 ?_;refine aK ((i+1,q)) ?_ ?_
   ·exact⟨by omega,Un,hqr⟩
   ·(dsimp only;omega)
  refine yA ?_;refine af.aj rfl (fun h7=>?_) (fun h7=>?_)
  ·refine J2 ?_;refine LM.val (aE (cs:=#[_,_,_,_,_]) rfl (by first|rfl|kernel_rfl)) ?_;refine LM.c6 Tryz.sizeOf30 rfl rfl rfl rfl cZ bF ?_;refine J9 ?_;refine QM.aG (ds:=([])) (.inl rfl) [.cell 6 30,.tmp 7] Tryz.results5 aV (bU rfl Tryz.isAgg30 Tryz.sizeOf30 rfl (aZ rfl aU)) ?_;intro w' ao aa;exact QD.nil (k0:=0) aa
  refine J7 ?_;refine aK ((i+1,q-(xs.getD i default).a)) ?_ ?_
  ·exact⟨by omega,by omega,by omega⟩
  ·(dsimp only;omega)
 refine J9 ?_;refine LM.dS (oC Tryz.func9) O6.mono (fun w hm hc hg=>r4 t w om) ?_;rintro u56 HR ⟨x,rfl,JP,hxa,eK⟩ Um;refine J4 ?_;refine LM.alloc Tryz.zeroValue54 rfl (fun vp Md=>?_);refine LM.c6 Tryz.sizeOf54 rfl rfl rfl rfl cZ bF ?_;refine J5 ?_;refine af.keep (scB vp x:: []) (fun _=>True) (.one 0 0 (.one 1 1 (.one 2 0 (.one 3 0 (.one 4 0 (.one 5 0 (.one 6 1 (.one 7 0 (.one 8 0 (.one 9 0 (.one 10 2 (.one 11 0 .nil)))))))))))) kr kr aX (fun _ _=>trivial) ?_;refine J1 ?_;refine KD.rd rfl rfl (ke Tryz.isAgg30 Tryz.sizeOf30 rfl (vs:=[_,_,_,_,_]) rfl ⟨rfl,rfl,rfl,rfl,rfl,trivial⟩) ?_;refine J3 ?_;refine KD.aw (t:=64) rfl (fun h8=>?_) (fun h8=>?_)
 ·refine J6 ?_;refine LM.c6 Tryz.sizeOf30 rfl rfl rfl rfl cZ bF ?_;refine J6 ?_;refine QM.aG (ds:=([])) (.inl rfl) [.cell 6 30,.tmp 7] Tryz.results5 aV (bU rfl Tryz.isAgg30 Tryz.sizeOf30 rfl (aZ rfl aU)) ?_;intro w' ao aa;exact⟨aa,HR,⟨x.sv,_,rfl,fun _=>⟨by rw [JP];exact GK h8,by omega⟩,fun w hm=>(eK w hm).st⟩,ao.pick HR,Um⟩
 refine J6 ?_;refine LM.c6 Tryz.sizeOf30 rfl rfl rfl rfl cZ bF ?_;refine J6 ?_;refine QM.aG (ds:=([])) (.inl rfl) [.cell 6 30,.tmp 7] Tryz.results5 aV (bU rfl Tryz.isAgg30 Tryz.sizeOf30 rfl (aZ rfl aU)) ?_;intro w' ao aa;exact⟨aa,HR,⟨x.sv,_,rfl,fun q=>(by cases q),fun w hm=>(eK w hm).st⟩,ao.pick HR,Um⟩
def PG (s:dU) (k:Nat) (v:Value) (m:ab):Prop:=∃n0,k<=n0/\s.Old n0/\McN s n0 v m
theorem PG.mono {s:dU}:∀(a b:Nat) u m,b<=a->PG s a u m->PG s b u m:=fun a b u m h ⟨n0,h1,h2⟩=>⟨n0,Nat.le_trans h h1,h2⟩
theorem Sr.lt {α:Type} {f:α->List Value} {s:Nat} {xs:List α} {ad:Option Addr} {w:World} (h:Sr f s xs (.slice ad n c) w) (hx:0<xs.length):ox ad<w.heap.size:=by
  obtain ⟨b,off,cs,E,fz,h1,h2,-⟩:=h.open.2.2 hx;rw [h1];exact(Array.getElem?_eq_some_iff.1 h2).1
theorem dU.In.oQ {s:dU} {w:World} (h:s.In w):s.Old w.heap.size:=⟨h.hg.lt,h.hl.lt,h.hp.lt,fun p hp=>(h.ops p hp).2.lt⟩
theorem CT {s:dU} (w:World) (hI:s.In w):aD Tryz.prog 7 #[s.val] w (fun v w'=>Ext w w'/\∃m,PG s w.heap.size v m/\Mem w' m/\∀p∈m,w.heap.size<=p.1):=
  (Fk w hI).mono (fun v w' ⟨h1,m,h2,h3⟩=>⟨h1,m,⟨_,Nat.le_refl _,hI.oQ,h2⟩,h3⟩)
theorem eQ.le {n0 b:Nat} {s:dU} {m:ab} {w:World} (h:eQ n0 b s x m) (hm:Mem w m):n0<=w.heap.size:=by
  obtain ⟨P,rfl,h⟩:=h;have:=h.hb;have h2:=(hm.at b)
  exact Nat.le_of_lt (Nat.lt_of_le_of_lt this (Array.getElem?_eq_some_iff.1 h2).1)
end Go.Eng
namespace Go.Eng
open Go Go.RowKit
variable {left s:BitVec 64} {G:Gr} {a co:Int} {cI told:List Hd} {to:List Int} {xs:List bO} {c i k l n pc t:Nat} {x:aB} {L:bf} {w w0:cR}
structure Vw where
  n:Nat
  nl:Nat
  cr:Int
  sh:Nat->Bool
  hw:Nat->Int
  lo:Nat->Int
  co:Nat->Int
  hs:Nat->List Hd
def yo (sh:Bool) (h:Hd):Bool:=sh&&decide (h.p=0)
structure qU (v:Vw) (w:cR):Prop where
  n:w.ts.length=v.n
  Uq:v.n<=64
  hw:∀t,t<v.n->(dN w t).how=v.hw t
  co:∀t,t<v.n->(dN w t).core=v.co t
  lo:∀t,t<v.n->v.hw t=4->(dN w t).lock=v.lo t
  sl:w.sh.length=v.nl
  rl:w.rd.length=v.nl
  wl:w.wr.length=v.nl
  sh:∀l,l<v.nl->w.sh.getD l false=v.sh l
  cr:w.cores=v.cr
  hr:∀l,l<v.nl->∀h∈v.hs l,0<=h.t/\h.t<(v.n:Int)
  rd:∀l,l<v.nl->∀q:Int,aq (xf w l) q=true↔∃h∈v.hs l,yo (v.sh l) h=true/\h.t=q
  wr:∀l,l<v.nl->∀q:Int,aq (xu w l) q=true↔∃h∈v.hs l,yo (v.sh l) h=false/\h.t=q
structure TV (v u:Vw):Prop where
  n:v.n=u.n
  nl:v.nl=u.nl
  cr:v.cr=u.cr
  sh:∀l,l<v.nl->v.sh l=u.sh l
  hw:∀t,t<v.n->v.hw t=u.hw t
  lo:∀t,t<v.n->v.hw t=4->v.lo t=u.lo t
  co:∀t,t<v.n->v.co t=u.co t
  hs:∀l,l<v.nl->∀h,h∈v.hs l↔h∈u.hs l
theorem qU.eqv {v u:Vw} (h:qU v w) (e:TV v u):qU u w:=by
  refine ⟨e.n▸h.n,e.n▸h.Uq,fun t ht=>?_,fun t ht=>?_,fun t ht h4=>?_,e.nl▸h.sl,e.nl▸h.rl,e.nl▸h.wl,fun l hl=>?_,e.cr▸h.cr,fun l hl g hg=>?_,fun l hl q=>?_,fun l hl q=>?_⟩
  ·rw [<-e.n] at ht;rw [h.hw t ht,e.hw t ht]
  ·rw [<-e.n] at ht;rw [h.co t ht,e.co t ht]
  ·rw [<-e.n] at ht;rw [<-e.hw t ht] at h4;rw [h.lo t ht h4,e.lo t ht h4]
  ·rw [<-e.nl] at hl;rw [h.sh l hl,e.sh l hl]
  ·rw [<-e.nl] at hl;rw [<-e.n];exact h.hr l hl g ((e.hs l hl g).2 hg)
  · rw [<-e.nl] at hl;rw [h.rd l hl q,e.sh l hl]
    exact⟨fun ⟨g,a,b⟩=>⟨g,(e.hs l hl g).1 a,b⟩,fun ⟨g,a,b⟩=>⟨g,(e.hs l hl g).2 a,b⟩⟩
  · rw [<-e.nl] at hl;rw [h.wr l hl q,e.sh l hl]
    exact⟨fun ⟨g,a,b⟩=>⟨g,(e.hs l hl g).1 a,b⟩,fun ⟨g,a,b⟩=>⟨g,(e.hs l hl g).2 a,b⟩⟩
def aQ {α:Type} (f:Nat->α) (i:Nat) (a:α):Nat->α:=fun j=>if i=j then a else f j
theorem bD {α:Type} (f:Nat->α) (i:Nat) (a:α):aQ f i a i=a:=if_pos rfl
theorem bu {α:Type} (f:Nat->α) {j:Nat} (a:α) (h:i≠j):aQ f i a j=f j:=if_neg h
theorem aS {α:Type} (f:Nat->α) (i j:Nat):aQ f i (f i) j=f j:=by
  by_cases e:i=j
  ·rw [e];exact if_pos rfl
  ·exact if_neg e
def Vw.put (v:Vw) (t:Nat) (hw lo co:Int):Vw:= {v with hw:=aQ v.hw t hw,lo:=aQ v.lo t lo,co:=aQ v.co t co}
def Vw.hd (v:Vw) (l:Nat) (hs:List Hd):Vw:= {v with hs:=aQ v.hs l hs}
theorem A3 (ht:t<w.ts.length) (T:zm) (j:Nat):dN (w.put t T) j=if t=j then T else dN w j:=by
  show (w.ts.set t T).getD j default=_
  rw [List.getD_eq_getElem?_getD,List.getElem?_set]
  by_cases e:t=j
  ·rw [if_pos e,if_pos e,if_pos ht];rfl
  ·rw [if_neg e,if_neg e];unfold dN;rw [List.getD_eq_getElem?_getD]
theorem qU.put {v:Vw} {w:cR} (h:qU v w) {t:Nat} (ht:t<v.n) (T:zm):qU (v.put t T.how T.lock T.core) (w.put t T):=by
  have hl:t<w.ts.length:=by rw [h.n];exact ht
  refine ⟨by show (w.ts.set t T).length=_;rw [List.length_set];exact h.n,h.Uq,fun j hj=>?_,fun j hj=>?_,fun j hj h4=>?_,h.sl,h.rl,h.wl,h.sh,h.cr,h.hr,h.rd,h.wr⟩
  ·rw [A3 hl];show _=aQ v.hw t _ j;unfold aQ;split;rfl;exact h.hw j hj
  ·rw [A3 hl];show _=aQ v.co t _ j;unfold aQ;split;rfl;exact h.co j hj
  · rw [A3 hl];show _=aQ v.lo t _ j;unfold aQ
    have h4:aQ v.hw t T.how j=4:=h4
    unfold aQ at h4
    split
    ·rfl
    ·next e=>rw [if_neg e] at h4;exact h.lo j hj h4
theorem qU.at {v:Vw} (h:qU v w) (tm:BitVec 64):qU v {w with now:=tm} :=⟨h.n,h.Uq,h.hw,h.co,h.lo,h.sl,h.rl,h.wl,h.sh,h.cr,h.hr,h.rd,h.wr⟩
theorem ab8 {e:kz} (hf:vw w e=true) (hk:e.k≠1) (he:e.t=(t:Int)) (ht:t<w.ts.length) (hb:La {w with now:=e.tm} t e=true):
    SW w e=true/\Kk w e=ofM {w with now:=e.tm} t e:=by
  have e1:e.t.toNat=t:=by omega
  constructor
  ·unfold SW;rw [hf,if_neg hk,e1,hb,decide_eq_true (show (0:Int)<=e.t by omega),decide_eq_true (show e.t<(w.ts.length:Int) by omega)];rfl
  ·unfold Kk;rw [hf,if_neg (by decide),if_neg hk,if_neg om,e1]
theorem CA {e:kz} (ht:w.now.toNat<=e.tm.toNat) (hk:WH e.k=false) (hl:e.l= -1) (hn:e.n=0\/XQ e.k=false):vw w e=true:=by
  unfold vw;rw [decide_eq_true ht,hk,if_neg (by decide),decide_eq_true hl]
  rcases hn with q|q
  ·rw [decide_eq_true q];rfl
  ·rw [q];simp
theorem JQ {e:kz} (ht:w.now.toNat<=e.tm.toNat) (hk:WH e.k=true) (h0:0<=e.l) (hl:e.l<w.sh.length) (hn:e.n=0\/XQ e.k=false):vw w e=true:=by
  unfold vw;rw [decide_eq_true ht,hk,if_pos rfl,decide_eq_true h0,decide_eq_true hl]
  rcases hn with q|q
  ·rw [decide_eq_true q];rfl
  ·rw [q];simp
inductive Run (w0:cR):List kz->cR->Prop
  |nil:Run w0 [] w0
  |snoc {l:List kz} {w:cR} {e:kz} :Run w0 l w->SW w e=true->Run w0 (l++ [e]) (Kk w e)
theorem Ih (w:cR) (e:kz) (b:Bool):(Ew w e b).now=w.now:=by unfold Ew;split<;>rfl
theorem Rr (w:cR) (i:Nat) (e:kz):(F6 w i e).now=w.now:=by
  have h:(Df w e).now=w.now:=by unfold Df;split<;>rfl
  unfold F6;split
  · split
    ·exact h
    ·exact h
  ·rfl
theorem SV (w:cR) (i:Nat) (e:kz):(L2 w i e).now=w.now:=by unfold L2;split<;>rfl
theorem ff {c:Prop} [Decidable c] {a b:cR} {t:BitVec 64} (h1:a.now=t) (h2:b.now=t):(if c then a else b).now=t:=by split;exact h1;exact h2
theorem R5 (w:cR) (i:Nat) (e:kz):(ofM w i e).now=w.now:=by
  unfold ofM
  exact ff rfl (ff rfl (ff (Rr ..) (ff (Ih ..) (ff (Ih ..) (ff (SV ..) (ff rfl (ff rfl (ff rfl (ff rfl (ff (ff rfl rfl) (ff (ff rfl rfl) rfl)))))))))))
def AV (w0:cR) (ev:List kz) (now:BitVec 64) (v:Vw):Prop:=∃w,Run w0 ev w/\w.now.toNat<=now.toNat/\qU v w
theorem AV.eqv {w0:cR} {ev:List kz} {now:BitVec 64} {v u:Vw} (h:AV w0 ev now v) (e:TV v u):AV w0 ev now u:=by
  obtain ⟨w,h1,h2,h3⟩:=h;exact⟨w,h1,h2,h3.eqv e⟩
theorem AV.of {ev:List kz} {now:BitVec 64} {v u:Vw} {e:kz} (h:AV w0 ev now v) (he:e.tm=now) (hk:e.k≠1) (hte:e.t=(t:Int)) (ht:t<v.n)
    (hf:∀w,w.now.toNat<=now.toNat->qU v w->vw w e=true) (hm:∀w,qU v w->La w t e=true/\qU u (ofM w t e)):AV w0 (ev++ [e]) now u:=by
  obtain ⟨w,h1,h2,h3⟩:=h;have q:=hm {w with now:=e.tm} (h3.at _);obtain ⟨e1,e2⟩:=ab8 (hf w h2 h3) hk hte (by rw [h3.n];exact ht) q.1;refine ⟨Kk w e,.snoc h1 e1,?_,by rw [e2];exact q.2⟩;rw [e2,R5,<-he];exact Nat.le_refl _
section
variable {w0:cR} {ev:List kz} {now:BitVec 64} {v:Vw} (h:AV w0 ev now v)
include h
theorem AV.spawn (vZ:v.n<64) (hc:0<=co/\co<v.cr):AV w0 (ev++ [⟨now,1,(v.n:Nat),-1,co⟩]) now {v with n:=v.n+1,hw:=aQ v.hw v.n 1,co:=aQ v.co v.n co} :=by
  obtain ⟨w,h1,h2,h3⟩:=h;have hf:vw w ⟨now,1,(v.n:Nat),-1,co⟩=true:=CA h2 rfl rfl (.inr rfl)
  have hs:Px {w with now:=now} ⟨now,1,(v.n:Nat),-1,co⟩=true:=by
    unfold Px
    have e1:=h3.n;have e2:=h3.cr;simp only [Bool.and_eq_true,decide_eq_true_eq];exact⟨by omega,by omega,hc.1,by omega⟩
  have hM:Kk w ⟨now,1,(v.n:Nat),-1,co⟩= {w with now:=now,ts:=w.ts++ [⟨co,1,0⟩] } :=by
    unfold Kk;rw [hf,if_neg (by decide),if_pos rfl];unfold abk;rw [if_pos hs]
  have qx:Px w ⟨now,1,(v.n:Nat),-1,co⟩=true:=hs;refine ⟨_,.snoc h1 (by unfold SW;rw [hf,if_pos rfl,qx];rfl),?_⟩;rw [hM]
  have hg:∀t,dN {w with now:=now,ts:=w.ts++ [⟨co,1,0⟩] } t=if v.n=t then ⟨co,1,0⟩ else dN w t:=fun t=>by
    show (w.ts++ [_]).getD t default=_
    rw [List.getD_eq_getElem?_getD];have e1:=h3.n;rcases Nat.lt_trichotomy t w.ts.length with q|q|q
    ·rw [List.getElem?_append_left q,if_neg om,<-List.getD_eq_getElem?_getD]
    ·rw [List.getElem?_append_right om,if_pos om,q,Nat.sub_self];rfl
    · rw [if_neg om,List.getElem?_eq_none (by rw [List.length_append,List.length_singleton];omega)]
      unfold dN;rw [List.getD_eq_getElem?_getD,List.getElem?_eq_none om]
  refine ⟨Nat.le_refl _,by show (w.ts++ [_]).length=_;rw [List.length_append,List.length_singleton,h3.n],by show v.n+1<=64;omega,fun t ht=>?_,fun t ht=>?_,fun t ht h4=>?_,h3.sl,h3.rl,h3.wl,h3.sh,h3.cr,fun l hl g hg=>?_,h3.rd,h3.wr⟩
  ·rw [hg];show _=aQ v.hw v.n 1 t;unfold aQ;split;rfl;exact h3.hw t (by have:t<v.n+1:=ht;omega)
  ·rw [hg];show _=aQ v.co v.n co t;unfold aQ;split;rfl;exact h3.co t (by have:t<v.n+1:=ht;omega)
  · rw [hg]
    have h4:aQ v.hw v.n 1 t=4:=h4
    unfold aQ at h4
    split
    ·next e=>rw [if_pos e] at h4;cases h4
    ·next e=>rw [if_neg e] at h4;exact h3.lo t (by have:t<v.n+1:=ht;omega) h4
  ·have:=h3.hr l hl g hg;show 0<=g.t/\g.t<((v.n+1:Nat):Int);omega
section
variable {t:Nat} (ht:t<v.n)
include ht
theorem AV.y8 {k l n:Int} (hk:k≠1) (hf:∀w,w.now.toNat<=now.toNat->qU v w->vw w ⟨now,k,t,l,n⟩=true) {T:zm->zm} {hw lo:Int}
    (hm:∀w,qU v w->La w t ⟨now,k,t,l,n⟩=true/\ofM w t ⟨now,k,t,l,n⟩=w.put t (T (dN w t))/\(T (dN w t)).how=hw/\(T (dN w t)).core=co/\(hw=4->(T (dN w t)).lock=lo)):
    AV w0 (ev++ [⟨now,k,t,l,n⟩]) now (v.put t hw lo co):=by
  refine h.of rfl hk rfl ht hf (fun w T7=>?_);obtain ⟨h1,h2,h3,h4,h5⟩:=hm w T7;refine ⟨h1,?_⟩;rw [h2];refine (T7.put ht (T (dN w t))).eqv ⟨rfl,rfl,rfl,fun _ _=>rfl,fun j hj=>?_,fun j hj jQ=>?_,fun j hj=>?_,fun _ _ _=>Iff.rfl⟩
  ·show aQ v.hw t _ j=aQ v.hw t _ j;rw [h3]
  · have jQ:aQ v.hw t (T (dN w t)).how j=4:=jQ
    show aQ v.lo t _ j=aQ v.lo t _ j
    unfold aQ at jQ ⊢
    split
    ·next e=>rw [if_pos e,h3] at jQ;exact h5 jQ
    ·rfl
  ·show aQ v.co t _ j=aQ v.co t _ j;rw [h4]
theorem AV.aiQ (h1:v.hw t=1) (hn:∀j,j<v.n->v.hw j=2->v.co j≠v.co t):AV w0 (ev++ [⟨now,2,t,-1,v.co t⟩]) now (v.put t 2 (v.lo t) (v.co t)):=by
  refine h.y8 ht (by decide) (fun w hw _=>CA hw rfl rfl (.inr rfl)) (T:=fun T=> {T with how:=2}) (fun w hw=>?_);have e1:=(hw.hw t ht).trans h1;have e2:=hw.co t ht
  have hi:Nr w (dN w t).core=true:=by
    unfold Nr
    rw [Bool.not_eq_true',List.any_eq_false];intro T hT q;simp only [Bool.and_eq_true,decide_eq_true_eq] at q;obtain ⟨j,hj,rfl⟩:=List.getElem_of_mem hT;have hg:dN w j=w.ts[j] :=by unfold dN;rw [List.getD_eq_getElem?_getD,List.getElem?_eq_getElem hj];rfl
    rw [<-hg] at q;have T2:j<v.n:=by rw [<-hw.n];exact hj
    exact hn j T2 (by rw [<-hw.hw j T2];exact q.1) (by rw [<-hw.co j T2,q.2,e2])
  have hb:j1 (dN w t) 1 (decide (v.co t=(dN w t).core)&&Nr w (dN w t).core)=true:=by
    unfold j1;rw [decide_eq_true e1,decide_eq_true e2.symm,hi];rfl
  refine ⟨hb,?_,rfl,e2,fun q=>by cases q⟩
  show w.put t (qR _ _ _ _)=_
  unfold qR;rw [if_pos hb]
theorem AV.leave (k:Int) (hk:k=3\/k=10) (h2:v.hw t=2):AV w0 (ev++ [⟨now,k,t,-1,v.co t⟩]) now (v.put t 1 (v.lo t) (v.co t)):=by
  refine h.y8 ht om (fun w hw _=>CA hw (by rcases hk with rfl|rfl<;>rfl) rfl (.inr (by rcases hk with rfl|rfl<;>rfl))) (T:=fun T=> {T with how:=1}) (fun w hw=>?_);have e1:=(hw.hw t ht).trans h2;have e2:=hw.co t ht;have hb:j1 (dN w t) 2 (decide (v.co t=(dN w t).core))=true:=by unfold j1;rw [decide_eq_true e1,decide_eq_true e2.symm];rfl
  have e3:La w t ⟨now,k,t,-1,v.co t⟩=j1 (dN w t) 2 (decide (v.co t=(dN w t).core)):=by
    unfold La;rw [if_neg (show¬(k=2) by omega),if_pos (show k=3\/k=10 from hk)]
  have e4:ofM w t ⟨now,k,t,-1,v.co t⟩=w.put t (qR (dN w t) 2 1 (decide (v.co t=(dN w t).core))):=by
    unfold ofM;rw [if_neg (show¬(k=2) by omega),if_pos (show k=3\/k=10 from hk)]
  refine ⟨by rw [e3];exact hb,?_,rfl,e2,fun q=>by cases q⟩;rw [e4];unfold qR;rw [if_pos hb]
theorem AV.ac9 (hh:v.hw t=3\/v.hw t=6\/v.hw t=7):AV w0 (ev++ [⟨now,7,t,-1,v.co t⟩]) now (v.put t 1 (v.lo t) (v.co t)):=by
  refine h.y8 ht (by decide) (fun w hw _=>CA hw rfl rfl (.inr rfl)) (T:=fun T=> {T with how:=1}) (fun w hw=>?_);have e1:=hw.hw t ht;have e2:=hw.co t ht
  have hb:RC (dN w t) (decide (v.co t=(dN w t).core))=true:=by
    unfold RC;rw [e1,decide_eq_true e2.symm];rcases hh with q|q|q<;>rw [q] <;>rfl
  refine ⟨hb,?_,rfl,e2,fun q=>by cases q⟩
  show w.put t (W9 _ _)=_
  unfold W9;rw [if_pos hb]
theorem AV.sleep {n:Int} (h2:v.hw t=2) (hn:1<=n/\n<=64):AV w0 (ev++ [⟨now,9,t,-1,n⟩]) now (v.put t 3 (v.lo t) (v.co t)):=by
  refine h.y8 ht (by decide) (fun w hw _=>CA hw rfl rfl (.inr rfl)) (T:=fun T=> {T with how:=3}) (fun w hw=>?_);have e1:=(hw.hw t ht).trans h2;have e2:=hw.co t ht;have hb:j1 (dN w t) 2 (decide (1<=n)&&decide (n<=64))=true:=by unfold j1;rw [decide_eq_true e1,decide_eq_true hn.1,decide_eq_true hn.2];rfl
  refine ⟨hb,?_,rfl,e2,fun q=>by cases q⟩
  show w.put t (qR _ _ _ _)=_
  unfold qR;rw [if_pos hb]
theorem AV.weight {n:Int} (h2:v.hw t=2) (hn:1<=n/\n<=16):AV w0 (ev++ [⟨now,14,t,-1,n⟩]) now (v.put t 2 (v.lo t) (v.co t)):=by
  refine h.y8 ht (by decide) (fun w hw _=>CA hw rfl rfl (.inr rfl)) (T:=fun T=> {T with how:=2}) (fun w hw=>?_);have e1:=(hw.hw t ht).trans h2;have e2:=hw.co t ht;have hb:j1 (dN w t) 2 (decide (1<=n)&&decide (n<=16))=true:=by unfold j1;rw [decide_eq_true e1,decide_eq_true hn.1,decide_eq_true hn.2];rfl
  refine ⟨hb,?_,rfl,e2,fun q=>by cases q⟩
  show w.put t (qR _ _ _ _)=_
  unfold qR;rw [if_pos hb]
theorem AV.ago {n:Int} (h1:v.hw t=1) (ec:n≠v.co t) (hn:0<=n/\n<v.cr):AV w0 (ev++ [⟨now,13,t,-1,n⟩]) now (v.put t 1 (v.lo t) n):=by
  refine h.y8 ht (by decide) (fun w hw _=>CA hw rfl rfl (.inr rfl)) (T:=fun T=> {T with core:=n}) (fun w hw=>?_);have e1:=(hw.hw t ht).trans h1;have e2:=hw.co t ht;have e3:=hw.cr
  have hb:j1 (dN w t) 1 (decide (n≠(dN w t).core)&&(decide (0<=n)&&decide (n<w.cores)))=true:=by
    unfold j1;rw [decide_eq_true e1,decide_eq_true (show n≠(dN w t).core by rw [e2];exact ec),decide_eq_true hn.1,decide_eq_true (show n<w.cores by omega)];rfl
  have wi:La w t ⟨now,13,t,-1,n⟩=true:=hb;refine ⟨wi,?_,e1,rfl,fun q=>by cases q⟩
  show (if La w t ⟨now,13,t,-1,n⟩=true then w.put t {dN w t with core:=n} else w)=_
  rw [if_pos wi]
theorem AV.err {l n:Int} (h2:v.hw t=2) (hl:(0<=l/\l<(v.nl:Int))\/(l= -1/\n=3)) (hn:n=3\/n=7\/n=8\/n=9):AV w0 (ev++ [⟨now,8,t,l,n⟩]) now v:=by
  have q:AV w0 (ev++ [⟨now,8,t,l,n⟩]) now (v.put t (v.hw t) (v.lo t) (v.co t)):=by
    refine h.y8 ht (by decide) (fun w hw hm=>?_) (T:=fun T=>T) (fun w hw=>?_)
    · rcases hl with q|q
      ·exact JQ hw rfl q.1 (by rw [hm.sl];exact q.2) (.inr rfl)
      · unfold vw;rw [decide_eq_true hw]
        show (true&&(decide (0<=l)&&decide (l<(w.sh.length:Int))||decide (l= -1)&&(true&&decide (n=3)))&&(decide (n=0)||true))=true
        rw [decide_eq_true q.1,decide_eq_true q.2];simp
    have e1:=hw.hw t ht
    have hb:(decide ((dN w t).how=2)&&DG n)=true:=by
      rw [decide_eq_true (e1.trans h2)];unfold DG;rcases hn with r|r|r|r<;>rw [r] <;>rfl
    refine ⟨?_,?_,e1,hw.co t ht,fun r=>by rw [h2] at r;cases r⟩
    · show Qa (dN w t) ⟨now,8,t,l,n⟩=true
      unfold Qa;show (_&&DG n||_)=true;rw [hb];rfl
    · show w.put t (ND (dN w t) ⟨now,8,t,l,n⟩)=_
      unfold ND;show w.put t (if (_&&DG n)=true then _ else _)=_;rw [if_pos hb]
  refine q.eqv ⟨rfl,rfl,rfl,fun _ _=>rfl,fun j hj=>?_,fun j hj _=>?_,fun j hj=>?_,fun _ _ _=>Iff.rfl⟩
  ·show aQ v.hw t (v.hw t) j=v.hw j;exact aS _ _ _
  ·show aQ v.lo t (v.lo t) j=v.lo j;exact aS _ _ _
  ·show aQ v.co t (v.co t) j=v.co j;exact aS _ _ _
theorem AV.late (h4:v.hw t=4) (vf:v.lo t=(l:Int)) (hl:l<v.nl):AV w0 (ev++ [⟨now,8,t,l,10⟩]) now (v.put t 7 (v.lo t) (v.co t)):=by
  refine h.y8 ht (by decide) (fun w hw hm=>JQ hw rfl (Int.natCast_nonneg l) (by rw [hm.sl];exact Int.ofNat_lt.2 hl) (.inr rfl)) (T:=fun T=> {T with how:=7}) (fun w hw=>?_);have e1:=(hw.hw t ht).trans h4;have e2:=(hw.lo t ht h4).trans vf;have h2:(decide ((dN w t).how=2)&&DG 10)=false:=by rw [decide_eq_false om];rfl
  have hb:j1 (dN w t) 4 (decide ((dN w t).lock=(l:Int))&&decide ((10:Int)=10))=true:=by unfold j1;rw [decide_eq_true e1,decide_eq_true e2];rfl
  refine ⟨?_,?_,rfl,hw.co t ht,fun q=>by cases q⟩
  · show Qa (dN w t) ⟨now,8,t,l,10⟩=true
    unfold Qa;show (_||j1 _ _ _)=true;rw [hb];exact Bool.or_true _
  · show w.put t (ND (dN w t) ⟨now,8,t,l,10⟩)=_
    unfold ND;show w.put t (if (_&&DG 10)=true then _ else qR _ _ _ _)=_
    rw [if_neg (by rw [h2];decide)];unfold qR;rw [if_pos hb]
theorem AV.block (h2:v.hw t=2) (hl:l<v.nl) (ec:v.hs l≠ []) (gK:∀h∈v.hs l,h.t≠(t:Int)):AV w0 (ev++ [⟨now,6,t,l,0⟩]) now (v.put t 4 l (v.co t)):=by
  refine h.y8 ht (by decide) (fun w hw hm=>JQ hw rfl (Int.natCast_nonneg l) (by rw [hm.sl];exact Int.ofNat_lt.2 hl) (.inl rfl)) (T:=fun T=> {T with how:=4,lock:=l}) (fun w hw=>?_);have e1:=(hw.hw t ht).trans h2
  have hor:∀q:Int,aq (xf w l|||xu w l) q=true↔∃h∈v.hs l,h.t=q:=fun q=>by
    rw [cO,Bool.or_eq_true,hw.rd l hl q,hw.wr l hl q]
    constructor
    ·rintro (⟨g,a,b,c⟩|⟨g,a,b,c⟩)<;>exact⟨g,a,c⟩
    · rintro ⟨g,a,c⟩
      cases b:yo (v.sh l) g
      ·exact .inr ⟨g,a,b,c⟩
      ·exact .inl ⟨g,a,b,c⟩
  have hz:xf w l|||xu w l≠0#64:=fun q=>by
    cases e:v.hs l with
    |nil=>exact ec e
    |cons g r=>
      have:=(hor g.t).2 ⟨g,by rw [e];exact List.mem_cons_self ..,rfl⟩;rw [q,bC] at this;cases this
  have hb:Tx w (dN w t) ⟨now,6,t,l,0⟩=true:=by
    unfold Tx j1 aas
    show (_&&(decide (xf w (l:Int).toNat|||xu w (l:Int).toNat≠0#64)&& !aq (xf w (l:Int).toNat|||xu w (l:Int).toNat) t))=true
    rw [Int.toNat_natCast,decide_eq_true e1,decide_eq_true hz]
    have:aq (xf w l|||xu w l) t=false:=by
      cases q:aq (xf w l|||xu w l) t with
      |false=>rfl
      |true=>obtain ⟨g,a,b⟩:=(hor t).1 q;exact absurd b (gK g a)
    rw [this];rfl
  refine ⟨hb,?_,rfl,hw.co t ht,fun _=>rfl⟩
  show L2 w t _=_
  unfold L2;rw [if_pos hb]
theorem AV.exit (h5:v.hw t≠5) (gK:∀l,l<v.nl->∀h∈v.hs l,h.t≠(t:Int)):AV w0 (ev++ [⟨now,11,t,-1,0⟩]) now (v.put t 5 (v.lo t) (v.co t)):=by
  refine h.y8 ht (by decide) (fun w hw hm=>CA hw rfl rfl (.inl rfl)) (T:=fun T=> {T with how:=5}) (fun w hw=>?_);have e1:=hw.hw t ht
  have hf:Tz w t=true:=by
    unfold Tz;rw [List.all_eq_true]
    intro l hl;have mL:l<v.nl:=by rw [<-hw.sl];exact List.mem_range.1 hl
    unfold vn;rw [cO]
    have a1:aq (xf w l) t=false:=by
      cases q:aq (xf w l) t with
      |false=>rfl
      |true=>obtain ⟨g,a,b,c⟩:=(hw.rd l mL t).1 q;exact absurd c (gK l mL g a)
    have a2:aq (xu w l) t=false:=by
      cases q:aq (xu w l) t with
      |false=>rfl
      |true=>obtain ⟨g,a,b,c⟩:=(hw.wr l mL t).1 q;exact absurd c (gK l mL g a)
    rw [a1,a2];rfl
  have hb:La w t ⟨now,11,t,-1,0⟩=true:=by
    show (decide ((dN w t).how≠5)&&Tz w t)=true
    rw [hf,decide_eq_true (by rw [e1];exact h5)];rfl
  refine ⟨hb,?_,rfl,hw.co t ht,fun q=>by cases q⟩
  show (if La w t ⟨now,11,t,-1,0⟩=true then w.put t {dN w t with how:=5} else w)=_
  rw [if_pos hb]
end
end
def nO (sh:Bool) (g:Hd):Int:=(if g.d=true then 1 else 0)+(if sh=true/\g.p=0 then 2 else 0)
theorem L0 (sh:Bool) (g:Hd):(2<=nO sh g↔yo sh g=true)/\0<=nO sh g/\nO sh g<=3:=by
  unfold nO yo
  rw [Bool.and_eq_true,decide_eq_true_eq]
  by_cases e:sh=true/\g.p=0
  ·rw [if_pos e];refine ⟨⟨fun _=>e,fun _=>?_⟩,?_,?_⟩<;>split<;>omega
  · rw [if_neg e];refine ⟨⟨fun q=>?_,fun q=>absurd q e⟩,?_,?_⟩
    ·split at q<;>omega
    ·split<;>omega
    ·split<;>omega
theorem Hb (hl:l<w.rd.length) (s:BitVec 64) (j:Nat):(w.rd.set l s).getD j 0#64=if l=j then s else xf w j:=by
  rw [List.getD_eq_getElem?_getD,List.getElem?_set]
  by_cases e:l=j
  ·rw [if_pos e,if_pos e,if_pos hl];rfl
  ·rw [if_neg e,if_neg e];unfold xf;rw [List.getD_eq_getElem?_getD]
theorem HV (hl:l<w.wr.length) (s:BitVec 64) (j:Nat):(w.wr.set l s).getD j 0#64=if l=j then s else xu w j:=by
  rw [List.getD_eq_getElem?_getD,List.getElem?_set]
  by_cases e:l=j
  ·rw [if_pos e,if_pos e,if_pos hl];rfl
  ·rw [if_neg e,if_neg e];unfold xu;rw [List.getD_eq_getElem?_getD]
theorem qU.drop {v:Vw} (h:qU v w) (hl:l<v.nl):qU (v.hd l ((v.hs l).filter (fun g=>decide (g.t≠(t:Int))))) (RU w t l):=by
  have e1:=h.rl;have e2:=h.wl;refine ⟨h.n,h.Uq,h.hw,h.co,h.lo,h.sl,by show (w.rd.set l _).length=_;rw [List.length_set];exact e1,by show (w.wr.set l _).length=_;rw [List.length_set];exact e2,h.sh,h.cr,fun j hj g hg=>?_,fun j hj q=>?_,fun j hj q=>?_⟩
  · have hg:g∈aQ v.hs l ((v.hs l).filter _) j:=hg
    unfold aQ at hg;split at hg
    ·exact h.hr l hl g (List.mem_filter.1 hg).1
    ·exact h.hr j hj g hg
  · show aq ((w.rd.set l _).getD j 0#64) q=true↔∃g∈aQ v.hs l _ j,_
    rw [Hb om];unfold aQ
    by_cases e:l=j
    · subst e
      rw [if_pos rfl,if_pos rfl,eR,Bool.and_eq_true,h.rd l hl q,Bool.not_eq_true',decide_eq_false_iff_not]
      constructor
      ·rintro ⟨⟨g,a,b,c⟩,d⟩;exact⟨g,List.mem_filter.2 ⟨a,decide_eq_true (by rw [c];exact d)⟩,b,c⟩
      ·rintro ⟨g,a,b,c⟩;have a:=List.mem_filter.1 a;exact⟨⟨g,a.1,b,c⟩,by rw [<-c];exact of_decide_eq_true a.2⟩
    ·rw [if_neg e,if_neg e];exact h.rd j hj q
  · show aq ((w.wr.set l _).getD j 0#64) q=true↔∃g∈aQ v.hs l _ j,_
    rw [HV om];unfold aQ
    by_cases e:l=j
    · subst e
      rw [if_pos rfl,if_pos rfl,eR,Bool.and_eq_true,h.wr l hl q,Bool.not_eq_true',decide_eq_false_iff_not]
      constructor
      ·rintro ⟨⟨g,a,b,c⟩,d⟩;exact⟨g,List.mem_filter.2 ⟨a,decide_eq_true (by rw [c];exact d)⟩,b,c⟩
      ·rintro ⟨g,a,b,c⟩;have a:=List.mem_filter.1 a;exact⟨⟨g,a.1,b,c⟩,by rw [<-c];exact of_decide_eq_true a.2⟩
    ·rw [if_neg e,if_neg e];exact h.wr j hj q
theorem qU.Ta {v:Vw} (h:qU v w) (hl:l<v.nl) (q:Int):vn w q l=true↔∃g∈v.hs l,g.t=q:=by
  unfold vn
  rw [cO,Bool.or_eq_true,h.rd l hl q,h.wr l hl q]
  constructor
  ·rintro (⟨g,a,b,c⟩|⟨g,a,b,c⟩)<;>exact⟨g,a,c⟩
  · rintro ⟨g,a,c⟩
    cases b:yo (v.sh l) g
    ·exact .inr ⟨g,a,b,c⟩
    ·exact .inl ⟨g,a,b,c⟩
theorem qU.take {v:Vw} (h:qU v w) (ht:t<v.n) (hl:l<v.nl) (g:Hd) (hg:g.t=(t:Int)) (e:kz) (e1:e.t=(t:Int)) (e2:e.l=(l:Int)) (e3:e.n=nO (v.sh l) g):qU (v.hd l (v.hs l++ [g])) (Df w e):=by
  have r1:=h.rl;have r2:=h.wl;have Uq:=h.Uq
  have hr:∀j,j<v.nl->∀k∈aQ v.hs l (v.hs l++ [g]) j,0<=k.t/\k.t<(v.n:Int):=fun j hj k hk=>by
    unfold aQ at hk;split at hk
    · rcases List.mem_append.1 hk with q|q
      ·exact h.hr l hl k q
      ·rw [List.mem_singleton.1 q,hg];omega
    ·exact h.hr j hj k hk
  have el:e.l.toNat=l:=by omega
  have hn:=L0 (v.sh l) g;have hq:∀q:Int,(q=(t:Int)/\0<=q/\q<64)↔q=(t:Int):=fun q=>⟨fun a=>a.1,fun a=>⟨a,by omega⟩⟩
  have oQ:∀(b:Bool) (q:Int),yo (v.sh l) g= !b->((∃k∈v.hs l++ [g],yo (v.sh l) k=b/\k.t=q)↔∃k∈v.hs l,yo (v.sh l) k=b/\k.t=q):=fun b q hb=>by
    constructor
    · rintro ⟨k,a,c,d⟩
      rcases List.mem_append.1 a with a|a
      ·exact⟨k,a,c,d⟩
      ·rw [List.mem_singleton.1 a,hb] at c;cases b<;>cases c
    ·rintro ⟨k,a,c⟩;exact⟨k,List.mem_append_left _ a,c⟩
  have new:∀(b:Bool) (q:Int),yo (v.sh l) g=b->((∃k∈v.hs l++ [g],yo (v.sh l) k=b/\k.t=q)↔((∃k∈v.hs l,yo (v.sh l) k=b/\k.t=q)\/q=(t:Int))):=fun b q hb=>by
    constructor
    · rintro ⟨k,a,c,d⟩
      rcases List.mem_append.1 a with a|a
      ·exact .inl ⟨k,a,c,d⟩
      ·rw [List.mem_singleton.1 a,hg] at d;exact .inr d.symm
    · rintro (⟨k,a,c⟩|rfl)
      ·exact⟨k,List.mem_append_left _ a,c⟩
      ·exact⟨g,List.mem_append_right _ (List.mem_singleton.2 rfl),hb,hg⟩
  unfold Df
  rw [e3,el,e1]
  by_cases c:yo (v.sh l) g=true
  · rw [if_pos (hn.1.2 c)]
    refine ⟨h.n,h.Uq,h.hw,h.co,h.lo,h.sl,by show (w.rd.set l _).length=_;rw [List.length_set];exact r1,r2,h.sh,h.cr,hr,fun j hj q=>?_,fun j hj q=>?_⟩
    · show aq ((w.rd.set l _).getD j 0#64) q=true↔∃k∈aQ v.hs l _ j,_
      rw [Hb om];unfold aQ
      by_cases e:l=j
      · subst e
        rw [if_pos rfl,if_pos rfl,dZ,Bool.or_eq_true,h.rd l hl q,Bool.and_eq_true,Bool.and_eq_true,decide_eq_true_eq,decide_eq_true_eq,decide_eq_true_eq,hq];exact(new true q c).symm
      ·rw [if_neg e,if_neg e];exact h.rd j hj q
    · show aq (xu w j) q=true↔∃k∈aQ v.hs l _ j,_
      unfold aQ
      by_cases e:l=j
      ·subst e;rw [if_pos rfl,h.wr l hl q];exact(oQ false q c).symm
      ·rw [if_neg e];exact h.wr j hj q
  · have c:yo (v.sh l) g=false:=by simpa using c
    rw [if_neg (fun q=>by have:=hn.1.1 q;rw [c] at this;cases this)];refine ⟨h.n,h.Uq,h.hw,h.co,h.lo,h.sl,r1,by show (w.wr.set l _).length=_;rw [List.length_set];exact r2,h.sh,h.cr,hr,fun j hj q=>?_,fun j hj q=>?_⟩
    · show aq (xf w j) q=true↔∃k∈aQ v.hs l _ j,_
      unfold aQ
      by_cases e:l=j
      ·subst e;rw [if_pos rfl,h.rd l hl q];exact(oQ true q c).symm
      ·rw [if_neg e];exact h.rd j hj q
    · show aq ((w.wr.set l _).getD j 0#64) q=true↔∃k∈aQ v.hs l _ j,_
      rw [HV om];unfold aQ
      by_cases e:l=j
      · subst e
        rw [if_pos rfl,if_pos rfl,dZ,Bool.or_eq_true,h.wr l hl q,Bool.and_eq_true,Bool.and_eq_true,decide_eq_true_eq,decide_eq_true_eq,decide_eq_true_eq,hq];exact(new false q c).symm
      ·rw [if_neg e,if_neg e];exact h.wr j hj q
theorem CN (h:∀q:Int,aq s q=false):s=0#64:=ss (fun i _=>by rw [h,bC])
theorem Mm {v:Vw} (h:qU v w) (ht:t<v.n) (hl:l<v.nl) (g:Hd) (hg:g.t=(t:Int)) (now:BitVec 64) (hh:v.hw t=2\/(v.hw t=4/\v.lo t=(l:Int))) (gK:∀k∈v.hs l,k.t≠(t:Int)) (hc:(yo (v.sh l) g=true/\∀k∈v.hs l,yo (v.sh l) k=true)\/v.hs l=[]):
    Sk w (dN w t) ⟨now,4,t,l,nO (v.sh l) g⟩=true/\LX (dN w t) ⟨now,4,t,l,nO (v.sh l) g⟩=decide (v.hw t=4):=by
  have e1:=h.hw t ht;have hn:=L0 (v.sh l) g
  have hw:LX (dN w t) ⟨now,4,t,l,nO (v.sh l) g⟩=decide (v.hw t=4):=by
    unfold LX;rw [e1]
    rcases hh with q|⟨q1,q2⟩
    ·rw [q];rfl
    ·rw [h.lo t ht q1,q1,q2];simp
  refine ⟨?_,hw⟩
  have hf:vn w t l=false:=by
    cases q:vn w t l with
    |false=>rfl
    |true=>obtain ⟨k,a,b⟩:=(h.Ta hl t).1 q;exact absurd b (gK k a)
  have hW:xu w l=0#64:=CN (fun q=>by
    cases e:aq (xu w l) q with
    |false=>rfl
    |true=>
      obtain ⟨k,a,b,c⟩:=(h.wr l hl q).1 e;rcases hc with ⟨_,r⟩|r
      ·rw [r k a] at b;cases b
      ·rw [r] at a;cases a)
  have hR:¬2<=nO (v.sh l) g->xf w l=0#64:=fun z=>CN (fun q=>by
    cases e:aq (xf w l) q with
    |false=>rfl
    |true=>
      obtain ⟨k,a,b,c⟩:=(h.rd l hl q).1 e;rcases hc with ⟨r,_⟩|r
      ·exact absurd (hn.1.2 r) z
      ·rw [r] at a;cases a)
  unfold Sk
  rw [hw]
  show ((decide ((dN w t).how=2)||_)&&(!vn w t (l:Int).toNat&&(decide (0<=nO _ g)&&(decide (nO _ g<=3)&&(decide (xu w (l:Int).toNat=0#64)&&(if 2<=nO (v.sh l) g then w.sh.getD (l:Int).toNat false else decide (xf w (l:Int).toNat=0#64)))))))=true
  rw [Int.toNat_natCast,hf,hW,decide_eq_true hn.2.1,decide_eq_true hn.2.2,e1];have a1:(decide (v.hw t=2)||decide (v.hw t=4))=true:=by rcases hh with q|⟨q,_⟩<;>rw [q] <;>rfl
  rw [a1]
  by_cases z:2<=nO (v.sh l) g
  · rw [if_pos z,h.sh l hl]
    have:=hn.1.1 z
    unfold yo at this;rw [Bool.and_eq_true] at this
    rw [this.1];rfl
  ·rw [if_neg z,hR z];rfl
section
variable {w0:cR} {ev:List kz} {now:BitVec 64} {v:Vw} (h:AV w0 ev now v) {t l:Nat} (ht:t<v.n) (hl:l<v.nl)
include h ht hl
theorem AV.lets {k:Int} (hk:(k=5/\v.hw t=2)\/(k=12/\v.hw t≠5)) (hh:∃g∈v.hs l,g.t=(t:Int)):AV w0 (ev++ [⟨now,k,t,l,0⟩]) now (v.hd l ((v.hs l).filter (fun g=>decide (g.t≠(t:Int))))):=by
  have hf:∀w,w.now.toNat<=now.toNat->qU v w->vw w ⟨now,k,t,l,0⟩=true:=fun w hw hm=>by
    refine JQ hw ?_ (Int.natCast_nonneg l) (by rw [hm.sl];exact Int.ofNat_lt.2 hl) (.inl rfl);rcases hk with ⟨rfl,_⟩|⟨rfl,_⟩<;>rfl
  refine h.of rfl (by show¬k=1;omega) rfl ht hf (fun w hw=>?_);have e1:=hw.hw t ht;have hhl:=(hw.Ta hl t).2 hh;rcases hk with ⟨rfl,q⟩|⟨rfl,q⟩
  · have hb:Gx w ⟨now,5,t,l,0⟩ (decide ((dN w t).how=2))=true:=by
      unfold Gx;rw [decide_eq_true (e1.trans q)];show vn w t (l:Int).toNat=true;rw [Int.toNat_natCast];exact hhl
    refine ⟨hb,?_⟩
    show qU _ (Ew w ⟨now,5,t,l,0⟩ _)
    unfold Ew;rw [if_pos hb];show qU _ (RU w t (l:Int).toNat);rw [Int.toNat_natCast];exact hw.drop hl
  · have hb:Gx w ⟨now,12,t,l,0⟩ (decide ((dN w t).how≠5))=true:=by
      unfold Gx;rw [decide_eq_true (by rw [e1];exact q)];show vn w t (l:Int).toNat=true;rw [Int.toNat_natCast];exact hhl
    refine ⟨hb,?_⟩
    show qU _ (Ew w ⟨now,12,t,l,0⟩ _)
    unfold Ew;rw [if_pos hb];show qU _ (RU w t (l:Int).toNat);rw [Int.toNat_natCast];exact hw.drop hl
section
variable {g:Hd} (hg:g.t=(t:Int)) (gK:∀k∈v.hs l,k.t≠(t:Int)) (hc:(yo (v.sh l) g=true/\∀k∈v.hs l,yo (v.sh l) k=true)\/v.hs l=[])
include hg gK hc
theorem AV.agX (h2:v.hw t=2):AV w0 (ev++ [⟨now,4,t,l,nO (v.sh l) g⟩]) now (v.hd l (v.hs l++ [g])):=by
  refine h.of rfl (by show¬(4:Int)=1;decide) rfl ht (fun w hw hm=>JQ hw rfl (Int.natCast_nonneg l) (by rw [hm.sl];exact Int.ofNat_lt.2 hl) (.inr rfl)) (fun w hw=>?_);obtain ⟨a,b⟩:=Mm hw ht hl g hg now (.inl h2) gK hc;refine ⟨a,?_⟩
  show qU _ (F6 w t _)
  unfold F6;rw [if_pos a,b,h2,if_neg (by decide)]
  exact hw.take ht hl g hg _ rfl rfl rfl
theorem AV.Df (h4:v.hw t=4) (vf:v.lo t=(l:Int)):AV w0 (ev++ [⟨now,4,t,l,nO (v.sh l) g⟩]) now ((v.hd l (v.hs l++ [g])).put t 6 (v.lo t) (v.co t)):=by
  refine h.of rfl (by show¬(4:Int)=1;decide) rfl ht (fun w hw hm=>JQ hw rfl (Int.natCast_nonneg l) (by rw [hm.sl];exact Int.ofNat_lt.2 hl) (.inr rfl)) (fun w hw=>?_);obtain ⟨a,b⟩:=Mm hw ht hl g hg now (.inr ⟨h4,vf⟩) gK hc;refine ⟨a,?_⟩
  show qU _ (F6 w t _)
  unfold F6;rw [if_pos a,b,h4,if_pos (by decide)]
  have q:=(hw.take ht hl g hg ⟨now,4,t,l,nO (v.sh l) g⟩ rfl rfl rfl).put (t:=t) ht {dN w t with how:=6};rw [show (dN w t).lock=v.lo t from hw.lo t ht h4,show (dN w t).core=v.co t from hw.co t ht] at q;exact q
end
end
theorem Ce {cs:List Qm} {v:BitVec 64} {w:Int} {b:Int} (h:cB (qg (dT cs co a v w) c) b):cB (qg cs c) b\/(b=a/\co=(c:Int)/\c<cs.length):=by
  unfold dT at h;split at h
  · next e=>
    have tZ:co.toNat<cs.length/\0<=co:=by unfold jm at e;split at e;cases e;omega
    rw [bG tZ.1] at h
    by_cases q:co.toNat=c
    · rw [if_pos q,has_add] at h;rw [<-q]
      rcases h with h|h
      ·exact .inl h
      ·exact .inr ⟨h,by omega,tZ.1⟩
    ·rw [if_neg q] at h;exact .inl h
  ·exact .inl h
theorem sT (cs:List Qm) (co a:Int) (v:BitVec 64) (w:Int) (c:Nat):(qg (dT cs co a v w) c).cur=(qg cs c).cur:=by
  unfold dT;split
  · next e=>
    have tZ:co.toNat<cs.length:=by unfold jm at e;split at e;cases e;omega
    rw [bG tZ];split
    ·next q=>rw [<-q];rfl
    ·rfl
  ·rfl
structure QC (n:Nat) (cs:List Qm) (st co:Nat->Int):Prop where
  has:∀c,c<cs.length->∀a,cB (qg cs c) a->co a.toNat=(c:Int)/\(st a.toNat=1\/st a.toNat=2)
  cur:∀c,c<cs.length->0<=(qg cs c).cur->st (qg cs c).cur.toNat=2
  run:∀t,t<n->st t=2->∃c,c<cs.length/\(qg cs c).cur=(t:Int)
section
variable {n k:Nat} {cs:List Qm} {st co:Nat->Int} (h:QC n cs st co) (hc:CI n k cs)
include h
theorem QC.ext {st' co':Nat->Int} (hc:CI n k cs) (h1:∀t,t<n->st' t=st t) (h2:∀t,t<n->co' t=co t):QC n cs st' co':=by
  have hid:∀c,c<cs.length->∀a,cB (qg cs c) a->a.toNat<n:=fun c aa a ha=>by
    have h1:=hc.id c aa a ha;have h0:=(hc.wf.wf c aa).pos _ (eP ha).1;rw [(eP ha).2] at h0;omega
  refine ⟨fun c aa a ha=>?_,fun c aa h0=>?_,fun t ht Qz=>?_⟩
  ·rw [h1 _ (hid c aa a ha),h2 _ (hid c aa a ha)];exact h.has c aa a ha
  ·rw [h1 _ (hid c aa _ ((hc.wf.wf c aa).ix h0))];exact h.cur c aa h0
  ·exact h.run t ht (by rw [<-h1 t ht];exact Qz)
theorem QC.same {E6:List Qm} (hl:E6.length=cs.length) (hk:∀c,c<cs.length->∀a,cB (qg E6 c) a->cB (qg cs c) a) (hq:∀c,c<cs.length->(qg E6 c).cur=(qg cs c).cur):QC n E6 st co:=
  ⟨fun c aa a ha=>h.has c (hl▸aa) a (hk c (hl▸aa) a ha),fun c aa h0=>by rw [hq c (hl▸aa)] at h0 ⊢;exact h.cur c (hl▸aa) h0,fun t ht h2=>by
    obtain ⟨c,h1,h2⟩:=h.run t ht h2;exact⟨c,hl▸h1,by rw [hq c h1];exact h2⟩⟩
theorem QC.add (hc:CI n k cs) (ht:st t≠1/\st t≠2) (v:BitVec 64) (w:Int):QC n (dT cs (co t) t v w) (aQ st t 1) co:=by
  have gK:∀c,c<cs.length->∀a,cB (qg cs c) a->a.toNat≠t:=fun c aa a ha e=>by
    have:=(h.has c aa a ha).2;rw [e] at this;omega
  refine ⟨fun c aa a ha=>?_,fun c aa h0=>?_,fun j hj h2=>?_⟩
  · rw [gX] at aa
    rcases Ce ha with q|⟨rfl,q,_⟩
    ·rw [bu st 1 (Ne.symm (gK c aa a q))];exact h.has c aa a q
    ·rw [Int.toNat_natCast,bD];exact⟨q,.inl rfl⟩
  · rw [gX] at aa;rw [sT] at h0 ⊢
    have q:=h.cur c aa h0;rw [bu st 1 (fun e=>by rw [<-e] at q;exact ht.2 q)];exact q
  · by_cases e:t=j
    ·rw [<-e,bD] at h2;cases h2
    · rw [bu st 1 e] at h2
      obtain ⟨c,h1,h2⟩:=h.run j hj h2;exact⟨c,by rw [gX];exact h1,by rw [sT];exact h2⟩
theorem QC.rem (hc:CI n k cs) {s:Int} (hs:s≠2):QC n (iM cs t) (aQ st t s) co:=by
  have Mp:∀c,c<cs.length->(qg cs c).cur≠(t:Int)->(qg (iM cs t) c).cur=(qg cs c).cur:=fun c aa e=>by
    unfold iM;split
    · next q=>
      rw [bG q];split
      ·next r=>rw [r];unfold jq;rw [if_neg e]
      ·rfl
    ·rfl
  have ajq:∀c,c<cs.length->0<=(qg (iM cs t) c).cur->(qg cs c).cur≠(t:Int):=fun c aa h0 e=>by
    have hk:=(hc.wf.wf c aa).ix (show 0<=(qg cs c).cur by omega);rw [e] at hk;have kK:bN cs t=c:=hc.wf.at aa hk
    unfold iM at h0
    rw [if_pos (by rw [kK];exact aa),kK,bG aa,if_pos rfl] at h0
    unfold jq at h0;rw [if_pos e] at h0;have h0:(0:Int)<=-1:=h0;omega
  refine ⟨fun c aa a ha=>?_,fun c aa h0=>?_,fun j hj h2=>?_⟩
  · rw [pY] at aa
    obtain ⟨q1,q2⟩:=su hc.wf aa ha;have h0:=(hc.wf.wf c aa).pos _ (eP q1).1;rw [(eP q1).2] at h0;rw [bu st s (show t≠a.toNat by omega)];exact h.has c aa a q1
  · rw [pY] at aa
    have e:=ajq c aa h0;rw [Mp c aa e] at h0 ⊢;rw [bu st s (show t≠(qg cs c).cur.toNat by omega)];exact h.cur c aa h0
  · by_cases e:t=j
    ·rw [<-e,bD] at h2;exact absurd h2 hs
    · rw [bu st s e] at h2
      obtain ⟨c,h1,h2⟩:=h.run j hj h2;exact⟨c,by rw [pY];exact h1,by rw [Mp c h1 om];exact h2⟩
theorem QC.back (aa:c<cs.length) (hc:CI n k cs) (h0:0<=(qg cs c).cur):QC n (cs.set c (fM (qg cs c))) (aQ st (qg cs c).cur.toNat 1) co:=by
  have JW:=(hc.wf.wf c aa).ix h0
  have ec:∀d,d<cs.length->c≠d->0<=(qg cs d).cur->(qg cs c).cur.toNat≠(qg cs d).cur.toNat:=fun d hd e q r=>by
    have h2:=(hc.wf.wf d hd).ix q;rw [show (qg cs d).cur=(qg cs c).cur by omega] at h2;exact e (hc.wf.one c d _ aa hd JW h2)
  refine ⟨fun d hd a ha=>?_,fun d hd q=>?_,fun j hj h2=>?_⟩
  · rw [List.length_set] at hd
    have h1:=jr aa (q:=fM (qg cs c)) rfl ha;obtain ⟨e1,e2⟩:=h.has d hd a h1;refine ⟨e1,?_⟩
    unfold aQ;split
    ·exact .inl rfl
    ·exact e2
  · rw [List.length_set] at hd
    rw [bG aa] at q ⊢
    by_cases e:c=d
    ·rw [if_pos e] at q;exact absurd q (by show¬(0:Int)<=-1;decide)
    ·rw [if_neg e] at q ⊢;rw [bu st 1 (ec d hd e q)];exact h.cur d hd q
  · by_cases e:(qg cs c).cur.toNat=j
    ·rw [<-e,bD] at h2;cases h2
    · rw [bu st 1 e] at h2
      obtain ⟨d,h1,h2⟩:=h.run j hj h2;refine ⟨d,by rw [List.length_set];exact h1,?_⟩;rw [bG aa,if_neg (fun r=>by rw [<-r] at h2;omega)];exact h2
theorem QC.pik (aa:c<cs.length) (hc:CI n k cs) (h0:(qg cs c).cur<0) (ha:cB (qg cs c) a) (ha0:0<=a):QC n (cs.set c (nP (qg cs c) a)) (aQ st a.toNat 2) co:=by
  refine ⟨fun d hd b hb=>?_,fun d hd q=>?_,fun j hj h2=>?_⟩
  · rw [List.length_set] at hd
    have h1:=jr aa (q:=nP (qg cs c) a) rfl hb;obtain ⟨e1,e2⟩:=h.has d hd b h1;refine ⟨e1,?_⟩
    unfold aQ;split
    ·exact .inr rfl
    ·exact e2
  · rw [List.length_set] at hd
    rw [bG aa] at q ⊢
    by_cases e:c=d
    ·rw [if_pos e];exact bD ..
    · rw [if_neg e] at q ⊢
      unfold aQ;split
      ·rfl
      ·exact h.cur d hd q
  · by_cases e:a.toNat=j
    ·exact⟨c,by rw [List.length_set];exact aa,by rw [bG aa,if_pos rfl];show a=_;omega⟩
    · rw [bu st 2 e] at h2
      obtain ⟨d,h1,h2⟩:=h.run j hj h2;refine ⟨d,by rw [List.length_set];exact h1,?_⟩;rw [bG aa,if_neg (fun r=>by rw [<-r] at h2;omega)];exact h2
theorem QC.car {to:Nat} (hc:CI n k cs) (ha:bN cs a<cs.length) (ht:to<cs.length) (ec:to≠bN cs a) (mO:(qg cs (bN cs a)).cur≠a):QC n (ia cs a to) st (aQ co a.toNat to):=by
  have hh:=dm ha;have ha0:0<=a:=hc.wf.pos ha
  have Mp:∀d,(qg (ia cs a to) d).cur=(qg cs d).cur:=fun d=>by
    rw [x9 hc.wf ha ht ec,bG (by unfold fh;rw [List.length_set];exact ht)]
    have e1:∀e,(qg (fh cs a) e).cur=(qg cs e).cur:=fun e=>by
      unfold fh;rw [bG ha];split
      ·next r=>rw [<-r];unfold jq;rw [if_neg mO]
      ·rfl
    split
    ·next r=>rw [<-r];exact e1 to
    ·exact e1 d
  have agA:∀d,d<cs.length->∀b,cB (qg (ia cs a to) d) b->(b≠a/\cB (qg cs d) b)\/(b=a/\d=to):=fun d hd b hb=>by
    rw [x9 hc.wf ha ht ec,bG (by unfold fh;rw [List.length_set];exact ht)] at hb
    have key:∀e,e<cs.length->cB (qg (fh cs a) e) b->b≠a/\cB (qg cs e) b:=fun e he q=>by
      unfold fh at q;rw [bG ha] at q
      by_cases z:bN cs a=e
      ·rw [if_pos z,pS (hc.wf.wf _ ha) hh,z] at q;exact⟨q.2,q.1⟩
      ·rw [if_neg z] at q;exact⟨fun r=>z (hc.wf.at he (r▸q)),q⟩
    by_cases e:to=d
    · rw [if_pos e,has_add] at hb
      rcases hb with q|q
      ·exact .inl (e▸key to ht q)
      ·exact .inr ⟨q,e.symm⟩
    ·rw [if_neg e] at hb;exact .inl (key d hd hb)
  refine ⟨fun d hd b hb=>?_,fun d hd q=>?_,fun j hj h2=>?_⟩
  · rw [sM] at hd
    rcases agA d hd b hb with ⟨q1,q2⟩|⟨rfl,rfl⟩
    · have h0:=(hc.wf.wf d hd).pos _ (eP q2).1
      rw [(eP q2).2] at h0;rw [bu co _ (show a.toNat≠b.toNat by omega)];exact h.has d hd b q2
    ·rw [bD];exact⟨rfl,(h.has _ ha b hh).2⟩
  ·rw [sM] at hd;rw [Mp] at q ⊢;exact h.cur d hd q
  ·obtain ⟨d,h1,h2⟩:=h.run j hj h2;exact⟨d,by rw [sM];exact h1,by rw [Mp];exact h2⟩
theorem QC.new (hc:CI n k cs) {co0:Int} (v:BitVec 64) (w:Int):QC (n+1) (dT cs co0 n v w) (aQ st n 1) (aQ co n co0):=by
  have gK:∀c,c<cs.length->∀a,cB (qg cs c) a->n≠a.toNat:=fun c aa a ha=>by
    have h1:=hc.id c aa a ha;have h0:=(hc.wf.wf c aa).pos _ (eP ha).1;rw [(eP ha).2] at h0;omega
  refine ⟨fun c aa a ha=>?_,fun c aa h0=>?_,fun j hj h2=>?_⟩
  · rw [gX] at aa
    rcases Ce ha with q|⟨rfl,q,_⟩
    ·rw [bu st 1 (gK c aa a q),bu co _ (gK c aa a q)];exact h.has c aa a q
    ·rw [Int.toNat_natCast,bD,bD];exact⟨q,.inl rfl⟩
  · rw [gX] at aa;rw [sT] at h0 ⊢
    rw [bu st 1 (gK c aa _ ((hc.wf.wf c aa).ix h0))];exact h.cur c aa h0
  · by_cases e:n=j
    ·rw [<-e,bD] at h2;cases h2
    · rw [bu st 1 e] at h2
      obtain ⟨c,h1,h2⟩:=h.run j om h2;exact⟨c,by rw [gX];exact h1,by rw [sT];exact h2⟩
end
/-! ### locks -/
structure LC (n:Nat) (ls:List bf) (st lk:Nat->Int) (E:Nat->Prop):Prop where
  wt:∀l,l<ls.length->∀y∈(qg ls l).wt,st y.who.toNat=4/\lk y.who.toNat=(l:Int)
  s4:∀t,t<n->st t=4->¬E t->∃y∈(qg ls (lk t).toNat).wt,y.who=(t:Int)
  h5:∀l,l<ls.length->∀g∈(qg ls l).ho,st g.t.toNat≠5
section
variable {n:Nat} {ls:List bf} {st lk:Nat->Int} {E:Nat->Prop} (h:LC n ls st lk E)
include h
theorem LC.mono {E':Nat->Prop} (he:∀t,t<n->st t=4->E t->E' t):LC n ls st lk E':=⟨h.wt,fun t ht h4 hE=>h.s4 t ht h4 (fun e=>hE (he t ht h4 e)),h.h5⟩
theorem LC.ext {st' lk':Nat->Int} (hi:∀l,l<ls.length->iR (iz n) (qg ls l)) (h1:∀t,t<n->st' t=st t) (h2:∀t,t<n->lk' t=lk t):LC n ls st' lk' E:=by
  refine ⟨fun l hl y hy=>?_,fun t ht h4 hE=>?_,fun l hl g hg=>?_⟩
  · have:=(hi l hl).wt y hy;unfold iz at this
    rw [h1 _ om,h2 _ om];exact h.wt l hl y hy
  ·rw [h2 t ht];exact h.s4 t ht (by rw [<-h1 t ht];exact h4) hE
  · have:=(hi l hl).ho g hg;unfold iz at this
    rw [h1 _ om];exact h.h5 l hl g hg
theorem LC.put (hl:l<ls.length) {E':Nat->Prop} (hw:∀y∈L.wt,y∈(qg ls l).wt) (hE:∀t,E t->E' t) (hn:∀y∈(qg ls l).wt,(∃z∈L.wt,z.who=y.who)\/E' y.who.toNat) (hh:∀g∈L.ho,st g.t.toNat≠5):LC n (ls.set l L) st lk E':=by
  refine ⟨fun j hj y hy=>?_,fun t ht h4 ec=>?_,fun j hj g hg=>?_⟩
  · rw [List.length_set] at hj;rw [bG hl] at hy
    by_cases e:l=j
    ·rw [if_pos e] at hy;rw [<-e];exact h.wt l hl y (hw y hy)
    ·rw [if_neg e] at hy;exact h.wt j hj y hy
  · obtain ⟨y,hy,e⟩:=h.s4 t ht h4 (fun q=>ec (hE t q))
    rw [bG hl]
    by_cases q:l=(lk t).toNat
    · rw [if_pos q];rw [<-q] at hy
      rcases hn y hy with ⟨z,a,b⟩|b
      ·exact⟨z,a,b.trans e⟩
      ·rw [e,Int.toNat_natCast] at b;exact absurd b ec
    ·rw [if_neg q];exact⟨y,hy,e⟩
  · rw [List.length_set] at hj;rw [bG hl] at hg
    by_cases e:l=j
    ·rw [if_pos e] at hg;exact hh g hg
    ·rw [if_neg e] at hg;exact h.h5 j hj g hg
theorem LC.TX {s:Int} (hs:s≠4) (hw:∀l,l<ls.length->∀y∈(qg ls l).wt,y.who.toNat≠t) (h5:s=5->∀l,l<ls.length->∀g∈(qg ls l).ho,g.t.toNat≠t) (lk0:Int):LC n ls (aQ st t s) (aQ lk t lk0) (fun j=>E j/\j≠t):=by
  refine ⟨fun l hl y hy=>?_,fun j hj h4 hE=>?_,fun l hl g hg=>?_⟩
  ·rw [bu st s (Ne.symm (hw l hl y hy)),bu lk lk0 (Ne.symm (hw l hl y hy))];exact h.wt l hl y hy
  · by_cases e:t=j
    ·rw [<-e,bD] at h4;exact absurd h4 hs
    ·rw [bu st s e] at h4;rw [bu lk lk0 e];exact h.s4 j hj h4 (fun q=>hE ⟨q,Ne.symm e⟩)
  · unfold aQ;split
    ·next e=>exact fun q=>h5 q l hl g hg e.symm
    ·exact h.h5 l hl g hg
end
abbrev bY (x:aB):Nat->Int:=fun t=>(gT x t).st
abbrev fg (x:aB):Nat->Int:=fun t=>(gT x t).co
abbrev cJ (x:aB):Nat->Int:=fun t=>(gT x t).lk
def UL (x:aB) (hs:Nat->List Hd):Vw:=⟨x.ts.length,x.lk.length,x.s.cr,fun l=>(gL x l).sh,bY x,cJ x,fg x,hs⟩
abbrev ks (x:aB):Vw:=UL x (fun l=>(gL x l).ho)
/-! a lock's holders -/
theorem WL {l:List Hd} (h:(l.map (·.t)).Nodup) {g k:Hd} (hg:g∈l) (hk:k∈l) (e:g.t=k.t):g=k:=by
  induction l with
  |nil=>cases hg
  |cons a r ih=>
    rw [List.map_cons,List.nodup_cons] at h;rcases List.mem_cons.1 hg with rfl|aA<;>rcases List.mem_cons.1 hk with rfl|Y0
    ·rfl
    ·exact absurd (List.mem_map.2 ⟨k,Y0,e.symm⟩) h.1
    ·exact absurd (List.mem_map.2 ⟨g,aA,e⟩) h.1
    ·exact ih h.2 aA Y0
theorem pM {l:List Hd} (h:(l.map (·.t)).Nodup) {t:Int} (ht:l.any (fun g=>decide (g.t=t))=true) (g:Hd):g∈l.eraseIdx (gE l t)↔g∈l.filter (fun g=>decide (g.t≠t)):=by
  induction l with
  |nil=>simp at ht
  |cons a r ih=>
    rw [List.map_cons,List.nodup_cons] at h
    by_cases e:a.t=t
    · have:gE (a::r) t=0:=by unfold gE;rw [List.findIdx_cons,decide_eq_true e];rfl
      rw [this,List.eraseIdx_zero,List.filter_cons_of_neg (by simpa using e)]
      show g∈r↔_
      rw [List.mem_filter];exact⟨fun q=>⟨q,decide_eq_true (fun z=>h.1 (List.mem_map.2 ⟨g,q,z.trans e.symm⟩))⟩,fun q=>q.1⟩
    · have:gE (a::r) t=gE r t+1:=by unfold gE;rw [List.findIdx_cons,decide_eq_false e];rfl
      rw [List.any_cons,decide_eq_false e,Bool.false_or] at ht;rw [this,List.eraseIdx_cons_succ,List.filter_cons_of_pos (by simpa using e),List.mem_cons,List.mem_cons,ih h.2 ht]
theorem PX (h:(L.ho.map (·.t)).Nodup) {g:Hd} (hg:g∈L.ho):dD L g.t=nO L.sh g:=by
  have hh:bj L g.t=true:=List.any_eq_true.2 ⟨g,hg,decide_eq_true rfl⟩;obtain ⟨_,h1,h2⟩:=qX hh;have h3:L.ho.getD (gE L.ho g.t) default=g:=WL h (by rw [List.getD_eq_getElem?_getD,List.getElem?_eq_getElem h1];exact List.getElem_mem h1) hg h2
  unfold dD nO;rw [if_pos hh,h3]
structure oe (L M:bf) (told:List Hd) (to:List Int) (cI:List Hd):Prop where
  ho:M.ho=told++cI
  tq:cI.map (·.t)=to
  w1:∀y∈M.wt,y∈L.wt
  w2:∀y∈L.wt,y∈M.wt\/y.who∈to
  ti:∀t∈to,∃y∈L.wt,y.who=t
  sh:M.sh=L.sh
  ln:M.ld.l.length=L.ld.l.length
theorem oe.none {M:bf} (h1:M.wt=L.wt) (h2:M.sh=L.sh) (h3:M.ld.l.length=L.ld.l.length):oe L M M.ho [] [] :=⟨(List.append_nil _).symm,rfl,fun y hy=>h1▸hy,fun y hy=> .inl (h1▸hy),fun t ht=>(by cases ht),h2,h3⟩
theorem oe.MB (p:Int) (n:Nat):oe L (l9 L p n) L.ho (c8 L p n) (CY p L.di (c8 L p n)):=by
  rw [fG];refine ⟨rfl,Cu ..,fun y hy=>(pL.1 hy).1,fun y hy=>?_,fun t ht=>?_,rfl,rfl⟩
  · by_cases c:y.who∈c8 L p n
    ·exact .inr c
    ·exact .inl (pL.2 ⟨hy,c⟩)
  ·obtain ⟨w,hw,e,_⟩:=rG ht;exact⟨w,hw,e⟩
theorem oe.settle {M:bf} (h:oe L M told to cI):oe L (cN M) told to cI:=⟨h.ho,h.tq,h.w1,h.w2,h.ti,h.sh,(iQ ..).trans h.ln⟩
theorem oe.pass (L:bf):∃cI,oe L (kO L) L.ho (jH L) cI:=by
  unfold kO jH
  by_cases c:L.wt.length=0
  ·rw [if_pos c,if_pos c];exact⟨[],oe.none rfl rfl rfl⟩
  · rw [if_neg c,if_neg c]
    have h:=oe.MB (L:=dK L) (dK L).tr.p (nT L);exact⟨_,h.ho,h.tq,h.w1,h.w2,h.ti,h.sh,h.ln⟩
theorem oe.yF {t:Int} (ht:bj L t=true):∃cI,oe L (dP L t) (L.ho.eraseIdx (gE L.ho t)) (dI L t) cI:=by
  unfold dP dI
  rw [if_pos ht]
  by_cases c:(fY L t).ho.length=0
  · rw [if_pos c,if_pos ⟨ht,c⟩]
    obtain ⟨p,h⟩:=oe.pass (fY L t);have h2:=h.settle;exact⟨p,h2.ho,h2.tq,h2.w1,h2.w2,h2.ti,h2.sh,h2.ln⟩
  · rw [if_neg c,if_neg (fun q=>c q.2)]
    have h:oe L (fY L t) (fY L t).ho [] [] :=oe.none rfl rfl rfl;exact⟨[],h.settle⟩
theorem oe.die {t:Int} (hw:bT L t=false) (ht:bj L t=true):∃cI,oe L (tx L t) (L.ho.eraseIdx (gE L.ho t)) (v9 L t) cI:=by
  obtain ⟨p,h⟩:=oe.yF (L:= {L with di:=true}) (t:=t) ht;refine ⟨p,?_⟩;have e1:tx L t=dP {L with di:=true} t:=by unfold tx;rw [if_neg (by rw [hw];decide),if_pos ht]
  have e2:v9 L t=dI {L with di:=true} t:=by unfold v9;rw [if_neg (by rw [hw];decide)]
  rw [e1,e2];exact⟨h.ho,h.tq,h.w1,h.w2,h.ti,h.sh,h.ln⟩
theorem oe.lv {t:Int} (ht:bT L t=true):∃cI,(fR L t).ho=L.ho++cI/\cI.map (·.t)=oc L t/\(∀y∈(fR L t).wt,y∈L.wt/\y.who≠t)/\(∀y∈L.wt,y∈(fR L t).wt\/y.who∈oc L t\/y.who=t)/\(∀u∈oc L t,u≠t/\∃y∈L.wt,y.who=u)/\(fR L t).sh=L.sh/\(fR L t).ld.l.length=L.ld.l.length:=by
  have hg:∀{M:bf} {cI:List Hd} {to:List Int},oe (da L t) M L.ho to cI->M.ho=L.ho++cI/\cI.map (·.t)=to/\(∀y∈M.wt,y∈L.wt/\y.who≠t)/\(∀y∈L.wt,y∈M.wt\/y.who∈to\/y.who=t)/\(∀u∈to,u≠t/\∃y∈L.wt,y.who=u)/\M.sh=L.sh/\M.ld.l.length=L.ld.l.length:=fun {M cI to} h=>by
    refine ⟨h.ho,h.tq,fun y hy=>rq.1 (h.w1 y hy),fun y hy=>?_,fun u hu=>?_,h.sh,h.ln⟩
    · by_cases c:y.who=t
      ·exact .inr (.inr c)
      · rcases h.w2 y (rq.2 ⟨hy,c⟩) with q|q
        ·exact .inl q
        ·exact .inr (.inl q)
    · obtain ⟨y,hy,rfl⟩:=h.ti u hu
      have:=rq.1 hy;exact⟨this.2,y,this.1,rfl⟩
  unfold fR oc
  rw [if_pos ht]
  by_cases c:k8 L=true/\yb (da L t).wt 1=0
  ·rw [if_pos c,if_pos ⟨ht,c⟩];exact⟨_,hg (oe.MB (L:=da L t) 0 8).settle⟩
  ·rw [if_neg c,if_neg (fun q=>c q.2)];exact⟨_,hg (oe.none (L:=da L t) (M:=da L t) rfl rfl rfl).settle⟩
/-! tasks -/
theorem gq (ht:t<x.ts.length) (y:iy) (j:Nat):bY (bR x t y) j=aQ (bY x) t y.st j:=by
  show (gT (bR x t y) j).st=_;rw [dB ht];unfold aQ;split<;>rfl
theorem ka (ht:t<x.ts.length) (y:iy) (j:Nat):fg (bR x t y) j=aQ (fg x) t y.co j:=by
  show (gT (bR x t y) j).co=_;rw [dB ht];unfold aQ;split<;>rfl
theorem j6 (ht:t<x.ts.length) (y:iy) (j:Nat):cJ (bR x t y) j=aQ (cJ x) t y.lk j:=by
  show (gT (bR x t y) j).lk=_;rw [dB ht];unfold aQ;split<;>rfl
structure MQ (E:Nat->Prop) (x:aB):Prop where
  q:QC x.ts.length x.cs (bY x) (fg x)
  l:LC x.ts.length x.lk (bY x) (cJ x) E
theorem MI.Te (h:MI k x):∀l,l<x.lk.length->iR (iz x.ts.length) (qg x.lk l):=fun l hl=>(h.li l hl).i
section
variable {k:Nat} {x:aB} {E:Nat->Prop} (hI:MI k x) (h:MQ E x)
include h
theorem MQ.mono {E':Nat->Prop} (he:∀t,t<x.ts.length->bY x t=4->E t->E' t):MQ E' x:=⟨h.q,h.l.mono he⟩
theorem MQ.fX (a t l n:Int):MQ E (ba x a t l n):=⟨h.q,h.l⟩
theorem MQ.cut (t:Nat):MQ E (cC x t):=⟨h.q,h.l⟩
theorem MQ.gr (g:Gr):MQ E {x with g:=g} :=⟨h.q,h.l⟩
include hI
theorem MQ.up (ht:t<x.ts.length) {y:iy} (h1:y.st=(gT x t).st) (h2:y.co=(gT x t).co) (h3:y.lk=(gT x t).lk):MQ E (bR x t y):=by
  have e1:∀j,bY (bR x t y) j=bY x j:=fun j=>by rw [gq ht,h1];exact aS _ _ _
  have e2:∀j,fg (bR x t y) j=fg x j:=fun j=>by rw [ka ht,h2];exact aS _ _ _
  have e3:∀j,cJ (bR x t y) j=cJ x j:=fun j=>by rw [j6 ht,h3];exact aS _ _ _
  refine ⟨?_,?_⟩
  ·rw [aW];exact h.q.ext hI.ci (fun j _=>e1 j) (fun j _=>e2 j)
  ·rw [aW];exact h.l.ext hI.Te (fun j _=>e1 j) (fun j _=>e3 j)
theorem MQ.inc (ht:t<x.ts.length):MQ E (bh x t):=h.up hI ht rfl rfl rfl
theorem MQ.EJ {t:Nat} (ht:t<x.ts.length) (hs:bY x t≠1/\bY x t≠2) (hw:∀l,l<x.lk.length->∀y∈(gL x l).wt,y.who.toNat≠t):MQ (fun j=>E j/\j≠t) (dH x t):=by
  have kq:=(hI.EJ ht).ci;have hl:(dH x t).ts.length=x.ts.length:=aW ..;rw [hl] at kq;refine ⟨?_,?_⟩
  · rw [hl]
    exact(h.q.add hI.ci hs _ _).ext kq (fun j _=>gq ht _ j) (fun j _=>(ka ht (C9 (gT x t)) j).trans (aS _ _ _))
  · rw [hl]
    have hi:=(hI.EJ ht).Te;rw [hl] at hi;exact(h.l.TX (s:=1) (by decide) hw (fun q=>by cases q) (-1)).ext hi (fun j _=>gq ht _ j) (fun j _=>j6 ht _ j)
end
theorem SR (ht:t<x.ts.length) {v:Vw} {hs:Nat->List Hd} (hv:TV v ((UL x hs).put t (v.hw t) (v.lo t) (fg x t))) (lo:Int):TV (v.put t 1 lo (v.co t)) (UL (dH x t) hs):=by
  have hn:v.n=x.ts.length:=hv.n;refine ⟨hv.n.trans (aW ..).symm,hv.nl,hv.cr,hv.sh,fun j hj=>?_,fun j hj h4=>?_,fun j hj=>?_,hv.hs⟩
  · show aQ v.hw t 1 j=bY (dH x t) j
    rw [show bY (dH x t) j=aQ (bY x) t 1 j from gq ht _ j]
    by_cases e:t=j
    ·rw [<-e,bD,bD]
    ·rw [bu v.hw _ e,bu (bY x) _ e,hv.hw j hj];exact bu _ _ e
  · have h4:aQ v.hw t 1 j=4:=h4
    show aQ v.lo t lo j=cJ (dH x t) j
    rw [show cJ (dH x t) j=aQ (cJ x) t (-1) j from j6 ht _ j]
    by_cases e:t=j
    ·rw [<-e,bD] at h4;cases h4
    · rw [bu v.hw _ e] at h4
      rw [bu v.lo _ e,bu (cJ x) _ e,hv.lo j hj h4];exact bu _ _ e
  · show aQ v.co t (v.co t) j=fg (dH x t) j
    rw [show fg (dH x t) j=aQ (fg x) t (fg x t) j from ka ht _ j,aS,aS,hv.co j hj]
    show aQ (fg x) t (fg x t) j=_;exact aS _ _ _
theorem Pw (ht:t<x.ts.length) {v:Vw} {hs:Nat->List Hd} (h:AV w0 x.ev x.now v) (hv:TV v ((UL x hs).put t (v.hw t) (v.lo t) (fg x t))) (hh:v.hw t=3\/v.hw t=6\/v.hw t=7):AV w0 (dH x t).ev (dH x t).now (UL (dH x t) hs):=by
  have hn:v.n=x.ts.length:=hv.n;have hc:v.co t=fg x t:=(hv.co t om).trans (bD ..);have q:=(h.ac9 (t:=t) om hh).eqv (SR (hs:=hs) ht hv _);rw [hc] at q;exact q
/-! a lock is given -/
theorem HF (ht:t<x.ts.length) (j:Nat):bY (bh x t) j=bY x j/\fg (bh x t) j=fg x j/\cJ (bh x t) j=cJ x j:=
  ⟨(gq ht _ j).trans (aS _ _ _),(ka ht _ j).trans (aS _ _ _),(j6 ht _ j).trans (aS _ _ _)⟩
theorem TS (h:qH L) {g:Hd} (e:L.ho=told++g::cI):(∀k∈told,k.t≠g.t)/\((yo L.sh g=true/\∀k∈told,yo L.sh k=true)\/told=[]):=by
  have hd:=h.hd;rw [e,List.map_append,List.nodup_append] at hd;refine ⟨fun k hk q=>hd.2.2 k.t (List.mem_map_of_mem hk) g.t (List.mem_map.2 ⟨g,List.mem_cons_self ..,rfl⟩) q,?_⟩;cases hs:L.sh with
  |false=>
    have:=h.ex hs;rw [e,List.length_append,List.length_cons] at this;exact .inr (List.eq_nil_of_length_eq_zero om)
  |true=>
    rcases h.rd hs with q|q
    · rw [e] at q
      exact .inl ⟨by unfold yo;rw [decide_eq_true (q g (by simp))];rfl,fun k hk=>by unfold yo;rw [decide_eq_true (q k (by simp [hk]))];rfl⟩
    · rw [e,List.length_append,List.length_cons] at q
      exact .inr (List.eq_nil_of_length_eq_zero om)
theorem s9 (l:Nat) (x:aB) (t:Nat):oJ l x (t:Int)=dH (cC (bh (ba x 4 t l (dD (gL x l) t)) t) t) t:=by unfold oJ;rw [Int.toNat_natCast]
theorem Yb {E:Nat->Prop} (hI:MI k x) (h:MQ E x) (hl:l<x.lk.length) {g:Hd} (e:(gL x l).ho=told++g::cI) (h4:bY x g.t.toNat=4/\cJ x g.t.toNat=(l:Int)) (hA:AV w0 x.ev x.now ((ks x).hd l told)):
    MQ (fun j=>E j/\j≠g.t.toNat) (oJ l x g.t)/\AV w0 (oJ l x g.t).ev (oJ l x g.t).now ((ks (oJ l x g.t)).hd l (told++ [g])):=by
  have hL:=hI.li l hl;have Xc:g∈(gL x l).ho:=by rw [e];simp
  have eK:=hL.i.ho g Xc
  unfold iz at eK
  obtain ⟨t,htg⟩:∃t:Nat,g.t=(t:Int):=⟨g.t.toNat,by omega⟩
  have ht:t<x.ts.length:=by omega
  rw [htg,Int.toNat_natCast] at h4;rw [htg];obtain ⟨gK,hc⟩:=TS hL.w.toqH e
  have Y7:∀j,j<x.lk.length->∀y∈(gL x j).wt,y.who.toNat≠t:=fun j hj y hy q=>by
    have h1:=h.l.wt j hj y hy;rw [q] at h1;have h0:=(hI.li j hj).i.wt y hy;unfold iz at h0;have:j=l:=by have:=h1.2.symm.trans h4.2;omega
    subst this;exact hL.w.dj y hy g Xc om
  have hH:dD (gL x l) t=nO (gL x l).sh g:=by rw [<-htg];exact PX hL.w.hd Xc
  have Ra:=hA.Df (t:=t) (l:=l) (g:=g) ht hl htg (by rw [show ((ks x).hd l told).hs l=told from bD ..];exact fun k hk=>by rw [<-htg];exact gK k hk) (by rw [show ((ks x).hd l told).hs l=told from bD ..];exact hc) h4.1 h4.2;rw [show ((ks x).hd l told).hs l=told from bD ..] at Ra
  -- the task goes back
  have iC:=(hI.fX 4 t l (dD (gL x l) t)).inc (t:=t) ht;have kq:=iC.cut (t:=t) (by rw [show (bh (ba x 4 t l (dD (gL x l) t)) t).ts.length=x.ts.length from aW ..];exact ht);have hQ2:=((h.fX 4 t l (dD (gL x l) t)).inc (hI.fX 4 t l (dD (gL x l) t)) (t:=t) ht).cut t;have hlen:(cC (bh (ba x 4 t l (dD (gL x l) t)) t) t).ts.length=x.ts.length:=aW ..;have hF:=fun j=>HF (x:=ba x 4 t l (dD (gL x l) t)) ht j
  have agW:∀j,bY (oJ l x t) j=aQ (bY x) t 1 j:=fun j=>by
    rw [s9,show bY (dH (cC (bh (ba x 4 t l (dD (gL x l) t)) t) t) t) j=aQ (bY (bh (ba x 4 t l (dD (gL x l) t)) t)) t 1 j from gq (x:=cC (bh (ba x 4 t l (dD (gL x l) t)) t) t) (by rw [hlen];exact ht) _ j]
    unfold aQ;split;rfl;exact(hF j).1
  have ajc:∀j,cJ (oJ l x t) j=aQ (cJ x) t (-1) j:=fun j=>by
    rw [s9,show cJ (dH (cC (bh (ba x 4 t l (dD (gL x l) t)) t) t) t) j=aQ (cJ (bh (ba x 4 t l (dD (gL x l) t)) t)) t (-1) j from j6 (x:=cC (bh (ba x 4 t l (dD (gL x l) t)) t) t) (by rw [hlen];exact ht) _ j]
    unfold aQ;split;rfl;exact(hF j).2.2
  have ajC:∀j,fg (oJ l x t) j=fg x j:=fun j=>by
    rw [s9,show fg (dH (cC (bh (ba x 4 t l (dD (gL x l) t)) t) t) t) j=aQ (fg (bh (ba x 4 t l (dD (gL x l) t)) t)) t (fg (bh (ba x 4 t l (dD (gL x l) t)) t) t) j from ka (x:=cC (bh (ba x 4 t l (dD (gL x l) t)) t) t) (by rw [hlen];exact ht) _ j,aS];exact(hF j).2.1
  refine ⟨?_,?_⟩
  ·rw [s9,Int.toNat_natCast];exact hQ2.EJ kq (by rw [hlen];exact ht) (by rw [show bY (cC (bh (ba x 4 t l (dD (gL x l) t)) t) t) t=bY x t from (hF t).1,h4.1];decide) Y7
  · have hA2:=(Ra.ac9 (t:=t) ht (.inr (.inl (bD ..)))).eqv (u:=((ks (oJ l x t)).hd l (told++ [g]))) ?_
    · have e1:((((ks x).hd l told).hd l (told++ [g])).put t 6 (((ks x).hd l told).lo t) (((ks x).hd l told).co t)).co t=fg x t:=bD ..
      rw [e1] at hA2;have e2:(gT (cC (bh (ba x 4 t l (dD (gL x l) t)) t) t) t).co=fg x t:=(hF t).2.1
      have e3:(oJ l x t).ev=x.ev++ [⟨x.now,4,t,l,nO (gL x l).sh g⟩] ++ [⟨x.now,7,t,-1,fg x t⟩] :=by
        rw [s9]
        show (x.ev++ [(⟨x.now,4,t,l,dD (gL x l) t⟩:kz)])++ [(⟨x.now,7,t,-1,(gT (cC (bh (ba x 4 t l (dD (gL x l) t)) t) t) t).co⟩:kz)] =_
        rw [hH,<-hH,e2]
      rw [e3];exact hA2
    · refine ⟨(Au l x t).symm,rfl,rfl,fun _ _=>rfl,fun j hj=>?_,fun j hj q4=>?_,fun j hj=>?_,fun j hj m=>?_⟩
      · show aQ (aQ (bY x) t 6) t 1 j=bY (oJ l x t) j
        rw [agW];unfold aQ;split<;>rfl
      · have q4:aQ (aQ (bY x) t 6) t 1 j=4:=q4
        show aQ (aQ (cJ x) t _) t _ j=cJ (oJ l x t) j
        rw [ajc]
        by_cases c:t=j
        ·rw [<-c,bD] at q4;cases q4
        ·rw [bu _ _ c,bu _ _ c,bu _ _ c]
      · show aQ (aQ (fg x) t (fg x t)) t _ j=fg (oJ l x t) j
        rw [ajC]
        by_cases c:t=j
        ·rw [<-c,bD];exact bD ..
        ·rw [bu _ _ c,bu _ _ c]
      · show m∈aQ (aQ (fun l=>(gL x l).ho) l told) l (told++ [g]) j↔m∈aQ (fun l=>(gL x l).ho) l (told++ [g]) j
        unfold aQ;split<;>exact Iff.rfl
theorem NN {w0:cR} {l:Nat} :∀(cI told:List Hd) {E:Nat->Prop} {k:Nat} {x:aB},MI k x->MQ (fun j=>E j\/(j:Int)∈cI.map (·.t)) x->l<x.lk.length->(gL x l).ho=told++cI->(∀g∈cI,bY x g.t.toNat=4/\cJ x g.t.toNat=(l:Int))->AV w0 x.ev x.now ((ks x).hd l told)->
    MQ E (n4 l x (cI.map (·.t)))/\AV w0 (n4 l x (cI.map (·.t))).ev (n4 l x (cI.map (·.t))).now (ks (n4 l x (cI.map (·.t))))
  | [],told,E,k,x,hI,hQ,hl,e,h4,hA=>by
    refine ⟨hQ.mono (fun t _ _ q=>q.resolve_right (by simp)),hA.eqv ⟨rfl,rfl,rfl,fun _ _=>rfl,fun _ _=>rfl,fun _ _ _=>rfl,fun _ _=>rfl,fun j hj m=>?_⟩⟩
    show m∈aQ (fun l=>(gL x l).ho) l told j↔m∈(gL x j).ho
    unfold aQ;split
    ·next c=>rw [<-c,e,List.append_nil]
    ·exact Iff.rfl
  |g::cI,told,E,k,x,hI,hQ,hl,e,h4,hA=>by
    have hL:=hI.li l hl;have Xc:g∈(gL x l).ho:=by rw [e];simp
    have eK:=hL.i.ho g Xc;obtain ⟨q1,q2⟩:=Yb hI hQ hl e (h4 g (List.mem_cons_self ..)) hA;have iC:=hI.oJ l eK;have hd:=hL.w.hd;rw [e,List.map_append,List.nodup_append,List.map_cons,List.nodup_cons] at hd;have ec:∀m∈cI,g.t≠m.t:=fun m hm q=>hd.2.1.1 (List.mem_map.2 ⟨m,hm,q.symm⟩)
    unfold iz at eK
    have gS:∀m∈cI,bY (oJ l x g.t) m.t.toNat=4/\cJ (oJ l x g.t) m.t.toNat=(l:Int):=fun m hm=>by
      have vA:=hL.i.ho m (by rw [e];simp [hm]);unfold iz at vA;have:=N2 l x (u:=g.t) (t:=m.t.toNat) (by have:=ec m hm;omega)
      show (gT _ _).st=4/\(gT _ _).lk=_
      rw [this];exact h4 m (List.mem_cons_of_mem _ hm)
    refine NN cI (told++ [g]) iC (q1.mono (fun t ht _ q=>?_)) hl (by rw [List.append_assoc];exact e) gS q2;rcases q.1 with r|r
    ·exact .inl r
    · rw [List.map_cons,List.mem_cons] at r
      rcases r with r|r
      ·exact absurd (by rw [<-r,Int.toNat_natCast]) q.2
      ·exact .inr r
theorem Ao {E:Nat->Prop} (hI:MI k x) (hQ:MQ (fun j=>E j\/(j:Int)∈to) x) (hl:l<x.lk.length) (e:(gL x l).ho=told++cI) (et:cI.map (·.t)=to) (h4:∀t∈to,bY x t.toNat=4/\cJ x t.toNat=(l:Int)) (hA:AV w0 x.ev x.now ((ks x).hd l told)):
    MQ E (cT x l to)/\AV w0 (cT x l to).ev (cT x l to).now (ks (cT x l to)):=by
  subst et;obtain ⟨q1,q2⟩:=NN cI told hI hQ hl e (fun g hg=>h4 g.t (List.mem_map_of_mem hg)) hA;exact⟨q1.gr _,q2⟩
def fw:Nat->Prop:=fun _=>False
def Wl (x:aB) (t:Nat):Prop:=∀l,l<x.lk.length->∀y∈(gL x l).wt,y.who.toNat≠t
theorem MQ.X6 {E:Nat->Prop} (h:MQ E x) (ht:bY x t≠4):Wl x t:=fun l hl y hy e=>ht (by rw [<-e];exact(h.l.wt l hl y hy).1)
theorem fc (hl:l<x.lk.length) (M:bf) (j:Nat):gL (aY x l M) j=if l=j then M else gL x j:=bG (qs:=x.lk) hl M j
theorem Q8 (x:aB) (l:Nat):TV (ks x) ((ks x).hd l (gL x l).ho):=⟨rfl,rfl,rfl,fun _ _=>rfl,fun _ _=>rfl,fun _ _ _=>rfl,fun _ _=>rfl,fun j _ g=>by
  show g∈(gL x j).ho↔g∈aQ (fun l=>(gL x l).ho) l (gL x l).ho j
  rw [show aQ (fun l=>(gL x l).ho) l (gL x l).ho j=(gL x j).ho from aS (fun l=>(gL x l).ho) l j]⟩
theorem Ad (hl:l<x.lk.length) {M:bf} (hs:M.sh=(gL x l).sh) {f:List Hd} (hf:∀g,g∈f↔g∈told):TV ((ks x).hd l f) ((ks (aY x l M)).hd l told):=by
  refine ⟨rfl,(cj x l M).symm,rfl,fun j hj=>?_,fun _ _=>rfl,fun _ _ _=>rfl,fun _ _=>rfl,fun j hj g=>?_⟩
  · show (gL x j).sh=(gL (aY x l M) j).sh
    rw [fc hl];split
    ·next e=>rw [hs,e]
    ·rfl
  · show g∈aQ (fun i=>(gL x i).ho) l f j↔g∈aQ (fun i=>(gL (aY x l M) i).ho) l told j
    unfold aQ;split
    ·exact hf g
    ·next e=>show g∈(gL x j).ho↔g∈(gL (aY x l M) j).ho;rw [fc hl,if_neg e]
section
variable {x:aB} {E:Nat->Prop} (h:MQ E x)
include h
theorem MQ.put {l:Nat} (hl:l<x.lk.length) {M:bf} {E':Nat->Prop} {told cI:List Hd} (hw:∀y∈M.wt,y∈(gL x l).wt) (hE:∀t,E t->E' t) (hn:∀y∈(gL x l).wt,y∈M.wt\/E' y.who.toNat) (ho:M.ho=told++cI) (ht:∀g∈told,g∈(gL x l).ho) (hp:∀g∈cI,∃y∈(gL x l).wt,y.who=g.t):MQ E' (aY x l M):=by
  refine ⟨h.q,h.l.put hl hw hE (fun y hy=>?_) (fun g hg=>?_)⟩
  · rcases hn y hy with q|q
    ·exact .inl ⟨y,q,rfl⟩
    ·exact .inr q
  · rw [ho] at hg
    rcases List.mem_append.1 hg with q|q
    ·exact h.l.h5 l hl g (ht g q)
    · obtain ⟨y,hy,e⟩:=hp g q
      have:=(h.l.wt l hl y hy).1;rw [e] at this;rw [this];decide
end
theorem Ix {E:Nat->Prop} {M:bf} (hI:MI k x) (h:MQ E x) (hl:l<x.lk.length) (hM:LI x.ts.length k M) (ht:t<x.ts.length) (hh:bj (gL x l) t=true) (hA:AV w0 x.ev x.now (ks x)) (hT:oe (gL x l) M ((gL x l).ho.eraseIdx (gE (gL x l).ho t)) to cI) {kd:Int} (hk:(kd=5/\bY x t=2)\/(kd=12/\bY x t≠5)):
    MQ E (cT (aY (ba x kd t l 0) l M) l to)/\AV w0 (cT (aY (ba x kd t l 0) l M) l to).ev (cT (aY (ba x kd t l 0) l M) l to).now (ks (cT (aY (ba x kd t l 0) l M) l to)):=by
  have hL:=hI.li l hl;have hd:=hL.w.hd;have iG:∀g∈(gL x l).ho.eraseIdx (gE (gL x l).ho t),g∈(gL x l).ho:=fun g hg=>List.mem_of_mem_eraseIdx hg;have hE:=fun g=>pM hd (t:=(t:Int)) hh g
  have Ra:=hA.lets (t:=t) (l:=l) ht hl hk (by
    obtain ⟨g,hg,e⟩:=List.any_eq_true.1 hh;exact⟨g,hg,of_decide_eq_true e⟩)
  have iC:=(hI.fX kd t l 0).aY (l:=l) (hM.mono (Nat.le_refl _) (Nat.le_succ k));have hpd:∀u∈to,∃y∈(gL x l).wt,y.who=u:=hT.ti
  have hQ1:MQ (fun j=>E j\/(j:Int)∈to) (aY (ba x kd t l 0) l M):=MQ.put (h.fX kd t l 0) hl hT.w1 (fun _ q=> .inl q) (fun y hy=>by
    rcases hT.w2 y hy with q|q
    ·exact .inl q
    · have h0:=hL.i.wt y hy;unfold iz at h0
      exact .inr (.inr (by rw [show ((y.who.toNat:Nat):Int)=y.who by omega];exact q))) hT.ho iG (fun g hg=>hpd g.t (by rw [<-hT.tq];exact List.mem_map_of_mem hg))
  have eE:l<(aY (ba x kd t l 0) l M).lk.length:=by rw [show (aY (ba x kd t l 0) l M).lk.length=x.lk.length from cj ..];exact hl
  refine Ao iC hQ1 eE (told:=(gL x l).ho.eraseIdx (gE (gL x l).ho t)) (cI:=cI) (by rw [show gL (aY (ba x kd t l 0) l M) l=M from (fc (x:=ba x kd t l 0) hl M l).trans (if_pos rfl)];exact hT.ho) hT.tq (fun u hu=>?_) ?_
  ·obtain ⟨y,hy,rfl⟩:=hpd u hu;exact h.l.wt l hl y hy
  ·exact(Ra.eqv (Ad (x:=x) hl hT.sh (fun g=>(hE g).symm)):_)
theorem Hx {E:Nat->Prop} (hI:MI k x) (h:MQ E x) (hl:l<x.lk.length) (hw:bT (gL x l) t=true):MQ (fun j=>(E j\/j=t)\/(j:Int)∈oc (gL x l) t) (aY x l (fR (gL x l) t)):=by
  obtain ⟨cI,e1,e2,e3,e4,e5,e6,e7⟩:=oe.lv hw;have hL:=hI.li l hl;refine MQ.put h hl (told:=(gL x l).ho) (cI:=cI) (fun y hy=>(e3 y hy).1) (fun _ q=> .inl (.inl q)) (fun y hy=>?_) e1 (fun _ q=>q) (fun g hg=>(e5 g.t (by rw [<-e2];exact List.mem_map_of_mem hg)).2);have h0:=hL.i.wt y hy;unfold iz at h0;rcases e4 y hy with q|q|q
  ·exact .inl q
  ·exact .inr (.inr (by rw [show ((y.who.toNat:Nat):Int)=y.who by omega];exact q))
  ·exact .inr (.inl (.inr om))
theorem sZ {t:Int} (h:∃y∈L.wt,y.who=t):bT L t=true:=by
  obtain ⟨y,hy,e⟩:=h;exact List.any_eq_true.2 ⟨y,hy,decide_eq_true e⟩
theorem FZ (hI:MI k x) (h:MQ fw x) (ht:t<x.ts.length) (hA:AV w0 x.ev x.now (ks x)):
    MQ (fun j=>j=t) (oy x t)/\AV w0 (oy x t).ev (oy x t).now (ks (oy x t))/\Wl (oy x t) t/\bY (oy x t) t=bY x t:=by
  unfold oy
  split
  · next e=>
    have T1:=(hI.tb t ht).l4 e;obtain ⟨l,hle⟩:∃l:Nat,(gT x t).lk=(l:Int):=⟨(gT x t).lk.toNat,by omega⟩
    have hl:l<x.lk.length:=by rw [hI.ll];omega
    rw [hle,Int.toNat_natCast];have hL:=hI.li l hl;obtain ⟨y,hy,ey⟩:=h.l.s4 t ht e (fun q=>q);have hy:y∈(gL x l).wt:=by rw [show (cJ x t).toNat=l by show (gT x t).lk.toNat=l;omega] at hy;exact hy
    have hw:bT (gL x l) t=true:=sZ ⟨y,hy,ey⟩;obtain ⟨cI,e1,e2,e3,e4,e5,e6,e7⟩:=oe.lv hw;have iC:=hI.aY (l:=l) (hL.lv t);have hQ1:=(Hx hI h hl hw).mono (E':=fun j=>j=t\/(j:Int)∈oc (gL x l) t) (fun j _ _ q=>by rcases q with (q|q)|q;exact q.elim;exact .inl q;exact .inr q);have eE:l<(aY x l (fR (gL x l) t)).lk.length:=by rw [cj];exact hl
    have hg:gL (aY x l (fR (gL x l) t)) l=fR (gL x l) t:=(fc hl _ l).trans (if_pos rfl);have Ra:=(hA.eqv (Q8 x l)).eqv (Ad hl e6 (told:=(gL x l).ho) (fun g=>Iff.rfl))
    have q:=Ao iC hQ1 eE (told:=(gL x l).ho) (cI:=cI) (by rw [hg];exact e1) e2 (fun u hu=>by
      obtain ⟨_,z,hz,rfl⟩:=e5 u hu;exact h.l.wt l hl z hz) Ra
    refine ⟨q.1,q.2,fun j hj z hz=>?_,?_⟩
    · rw [(cQ l (aY x l (fR (gL x l) t)) (oc (gL x l) t)).2.1,cj] at hj
      have hz:z∈(gL (aY x l (fR (gL x l) t)) j).wt:=by
        have:=(cQ l (aY x l (fR (gL x l) t)) (oc (gL x l) t)).2.1
        unfold gL at hz ⊢;rw [this] at hz;exact hz
      rw [fc hl] at hz
      by_cases c:l=j
      · rw [if_pos c] at hz
        have h0:=hL.i.wt z (e3 z hz).1;unfold iz at h0;have:=(e3 z hz).2;omega
      · rw [if_neg c] at hz
        intro q;have:=(h.l.wt j hj z hz).2;rw [q] at this;exact c (by have:(gT x t).lk=(j:Int):=this;omega)
    · show (gT (n4 _ _ _) t).st=_
      rw [qY l _ _ (fun u hu=>by
        obtain ⟨h1,z,hz,rfl⟩:=e5 u hu;have h0:=hL.i.wt z hz;unfold iz at h0;omega)];rfl
  · next e=>
    exact⟨h.mono (fun _ _ _ q=>q.elim),hA,h.X6 e,rfl⟩
theorem N8 (hI:MI k x) (h:MQ (fun j=>j=t) x) (ht:t<x.ts.length) (hl:l<x.lk.length) (hw:Wl x t) (h5:bY x t≠5) (hA:AV w0 x.ev x.now (ks x)):
    MQ (fun j=>j=t) (tt t x l)/\AV w0 (tt t x l).ev (tt t x l).now (ks (tt t x l))/\Wl (tt t x l) t/\bY (tt t x l) t=bY x t/\(∀j,j<x.lk.length->(j=l\/∀g∈(gL x j).ho,g.t≠(t:Int))->∀g∈(gL (tt t x l) j).ho,g.t≠(t:Int)):=by
  unfold tt
  split
  · next e=>
    have hL:=hI.li l hl
    have Qk:bT (gL x l) t=false:=by
      cases c:bT (gL x l) t with
      |false=>rfl
      |true=>
        obtain ⟨y,hy,q⟩:=List.any_eq_true.1 c;exact absurd (by rw [of_decide_eq_true q];rfl) (hw l hl y hy)
    obtain ⟨cI,hT⟩:=oe.die Qk e;obtain ⟨q1,q2⟩:=Ix hI h hl (hL.die t) ht e hA hT (kd:=12) (.inr ⟨rfl,h5⟩)
    have tF:∀j,gL (cT (aY (ba x 12 t l 0) l (tx (gL x l) t)) l (v9 (gL x l) t)) j=if l=j then tx (gL x l) t else gL x j:=fun j=>by
      have:=(cQ l (aY (ba x 12 t l 0) l (tx (gL x l) t)) (v9 (gL x l) t)).2.1
      unfold gL;rw [this];exact fc (x:=ba x 12 t l 0) hl _ j
    have qV:(cT (aY (ba x 12 t l 0) l (tx (gL x l) t)) l (v9 (gL x l) t)).lk.length=x.lk.length:=by
      rw [(cQ l (aY (ba x 12 t l 0) l (tx (gL x l) t)) (v9 (gL x l) t)).2.1];exact cj ..
    have qE:∀u∈v9 (gL x l) t,u.toNat≠t:=fun u hu=>by
      obtain ⟨y,hy,rfl⟩:=hT.ti u hu;exact hw l hl y hy
    refine ⟨q1,q2,fun j hj z hz=>?_,?_,fun j hj hc g hg=>?_⟩
    · rw [qV] at hj;rw [tF] at hz
      by_cases c:l=j
      ·rw [if_pos c] at hz;exact hw l hl z (hT.w1 z hz)
      ·rw [if_neg c] at hz;exact hw j hj z hz
    · show (gT (n4 _ _ _) t).st=_
      rw [qY l _ _ qE];rfl
    · rw [tF] at hg
      by_cases c:l=j
      · rw [if_pos c,hT.ho] at hg
        rcases List.mem_append.1 hg with q|q
        · have:=(pM hL.w.hd e g).1 q
          exact of_decide_eq_true (List.mem_filter.1 this).2
        · have:=qE g.t (by rw [<-hT.tq];exact List.mem_map_of_mem q)
          intro r;rw [r] at this;exact this rfl
      · rw [if_neg c] at hg
        exact hc.resolve_left (fun q=>c q.symm) g hg
  · next e=>
    refine ⟨h,hA,hw,rfl,fun j hj hc g hg=>?_⟩;rcases hc with rfl|hc
    ·exact rU (by simpa using e) g hg
    ·exact hc g hg
theorem E8 {w0:cR} {k:Nat} {x:aB} {t:Nat} (hI:MI k x) (h:MQ (fun j=>j=t) x) (ht:t<x.ts.length) (hw:Wl x t) (h5:bY x t≠5) (hA:AV w0 x.ev x.now (ks x)):∀{n:Nat},n<=x.lk.length->
    MQ (fun j=>j=t) (lS t x n)/\AV w0 (lS t x n).ev (lS t x n).now (ks (lS t x n))/\Wl (lS t x n) t/\bY (lS t x n) t=bY x t/\(∀j,j<n->∀g∈(gL (lS t x n) j).ho,g.t≠(t:Int))
  |0,_=>⟨h,hA,hw,rfl,fun j hj=>absurd hj (Nat.not_lt_zero j)⟩
  |n+1,hn=>by
    obtain ⟨a1,a2,a3,a4,a5⟩:=E8 hI h ht hw h5 hA (n:=n) om;have hs:=jo t x n;rw [kn];obtain ⟨b1,b2,b3,b4,b5⟩:=N8 (hI.lS t (n:=n) om) a1 (by rw [hs.1];exact ht) (l:=n) (by rw [hs.2.1];omega) a3 (by rw [a4];exact h5) a2
    exact⟨b1,b2,b3,b4.trans a4,fun j hj=>b5 j (by rw [hs.2.1];omega) (by
      by_cases c:j=n
      ·exact .inl c
      ·exact .inr (a5 j om))⟩
theorem Ym (hI:MI k x) (h:MQ fw x) (ht:t<x.ts.length) (h5:bY x t≠5) (hA:AV w0 x.ev x.now (ks x)):
    MQ fw (ku x t)/\AV w0 (ku x t).ev (ku x t).now (ks (ku x t)):=by
  obtain ⟨a1,a2,a3,a4⟩:=FZ hI h ht hA;have Bf:=oY x t;have iC:=hI.uC ht;obtain ⟨b1,b2,b3,b4,b5⟩:=E8 (x:=uC x t) iC (a1.cut t) (by rw [Bf.1];exact ht) a3 (by show bY (oy x t) t≠5;rw [a4];exact h5) a2 (n:=x.lk.length) (by rw [Bf.2.1];exact Nat.le_refl _);have kq:=iC.lS t (n:=x.lk.length) (by rw [Bf.2.1];exact Nat.le_refl _);have qx:=jo t (uC x t) x.lk.length;rw [xz,show EN x t=eM (lS t (uC x t) x.lk.length) t from rfl]
  generalize hz:lS t (uC x t) x.lk.length=z at*
  have Di:t<z.ts.length:=by rw [qx.1,Bf.1];exact ht
  have hlz:z.lk.length=x.lk.length:=qx.2.1.trans Bf.2.1;have h5z:bY z t≠5:=by rw [b4];show bY (oy x t) t≠5;rw [a4];exact h5
  have jJ:∀l,l<z.lk.length->∀g∈(gL z l).ho,g.t≠(t:Int):=fun l hl=>b5 l om;have hIq:MI _ (eM z t):=kq.qut t;have hIf:=(hIq.up (t:=t) Di (hIq.tb t Di).ded).fX 11 t (-1) 0;have hlen:(ba (bR (eM z t) t (tM (gT (eM z t) t))) 11 t (-1) 0).ts.length=z.ts.length:=aW ..;refine ⟨⟨?_,?_⟩,?_⟩
  · rw [hlen]
    have hc:=hIf.ci;rw [hlen] at hc;exact(b1.q.rem kq.ci (t:=t) (s:=5) (by decide)).ext hc (fun j _=>gq (x:=eM z t) Di _ j) (fun j _=>(ka (x:=eM z t) Di (tM (gT (eM z t) t)) j).trans (aS _ _ _))
  · rw [hlen]
    have hi:=hIf.Te;rw [hlen] at hi;refine ((b1.l.TX (t:=t) (s:=5) (by decide) b3 (fun _ l hl g hg e=>?_) (-1)).ext hi (fun j _=>gq (x:=eM z t) Di _ j) (fun j _=>j6 (x:=eM z t) Di _ j)).mono (fun j _ _ q=>absurd q.1 q.2);have h0:=(kq.li l hl).i.ho g hg;unfold iz at h0;exact jJ l hl g hg om
  · have q:=(b2.exit (t:=t) Di h5z jJ).eqv (u:=ks (ba (bR (eM z t) t (tM (gT (eM z t) t))) 11 t (-1) 0)) ?_
    ·exact q
    · refine ⟨hlen.symm,rfl,rfl,fun _ _=>rfl,fun j _=>(gq (x:=eM z t) Di (tM (gT (eM z t) t)) j).symm,fun j _ q4=>?_,fun j _=>?_,fun _ _ _=>Iff.rfl⟩
      · have q4:aQ (bY z) t 5 j=4:=q4
        show aQ (cJ z) t _ j=cJ (bR (eM z t) t (tM (gT (eM z t) t))) j
        rw [j6 (x:=eM z t) Di]
        by_cases c:t=j
        ·rw [<-c,bD] at q4;cases q4
        ·rw [bu _ _ c,bu _ _ c];rfl
      · show aQ (fg z) t _ j=fg (bR (eM z t) t (tM (gT (eM z t) t))) j
        rw [ka (x:=eM z t) Di];rfl
theorem Mz (hI:MI k x) (h:MQ fw x) (ht:t<x.ts.length) (hA:AV w0 x.ev x.now (ks x)):
    MQ fw (oo x t)/\AV w0 (oo x t).ev (oo x t).now (ks (oo x t)):=by
  unfold oo
  split
  ·exact⟨h,hA⟩
  next e0=>
  split
  · next e3=>
    refine ⟨(h.EJ hI ht (by rw [show bY x t=3 from e3];decide) (h.X6 (by rw [show bY x t=3 from e3];decide))).mono (fun _ _ _ q=>q.1),Pw ht hA ?_ (.inl e3)⟩;refine ⟨rfl,rfl,rfl,fun _ _=>rfl,fun j _=>(aS _ _ _).symm,fun j _ _=>(aS _ _ _).symm,fun j _=>(aS _ _ _).symm,fun _ _ _=>Iff.rfl⟩
  next e3=>
  have e4:bY x t=4:=((hI.tb t ht).un e0).resolve_left e3;have T1:=(hI.tb t ht).l4 e4;obtain ⟨l,hle⟩:∃l:Nat,(gT x t).lk=(l:Int):=⟨(gT x t).lk.toNat,by omega⟩
  have hl:l<x.lk.length:=by rw [hI.ll];omega
  rw [hle,Int.toNat_natCast];have hL:=hI.li l hl;obtain ⟨y,hy,ey⟩:=h.l.s4 t ht e4 (fun q=>q);have hy:y∈(gL x l).wt:=by rw [show (cJ x t).toNat=l by show (gT x t).lk.toNat=l;omega] at hy;exact hy
  have hw:bT (gL x l) t=true:=sZ ⟨y,hy,ey⟩;obtain ⟨cI,e1,e2,e3',e4',e5,e6,e7⟩:=oe.lv hw;have hQ0:=(Hx hI h hl hw).mono (E':=fun j=>j=t\/(j:Int)∈oc (gL x l) t) (fun j _ _ q=>by rcases q with (q|q)|q;exact q.elim;exact .inl q;exact .inr q);have Hr:=hI.aY (l:=l) (hL.lv t);have iC:=Hr.fX 8 t l 10;have hQ1:=hQ0.fX 8 t l 10;have Ra:=((hA.late (t:=t) (l:=l) ht e4 hle hl).eqv (u:=(UL (aY x l (fR (gL x l) t)) (aQ (fun j=>(gL (aY x l (fR (gL x l) t)) j).ho) l (gL x l).ho)).put t 7 (cJ x t) (fg x t)) ?_)
  · generalize hz:ba (aY x l (fR (gL x l) t)) 8 t l 10=z at*
    have hzt:z.ts=x.ts:=by rw [<-hz];rfl
    have hzl:z.lk=(aY x l (fR (gL x l) t)).lk:=by rw [<-hz];rfl
    have hze:z.ev=x.ev++ [⟨x.now,8,t,l,10⟩] :=by rw [<-hz];rfl
    have hzn:z.now=x.now:=by rw [<-hz];rfl
    have Ll:z.s=x.s:=by rw [<-hz];rfl
    have Di:t<z.ts.length:=by rw [hzt];exact ht
    have kq:=(iC.inc Di).cut (t:=t) (by rw [show (bh z t).ts.length=z.ts.length from aW ..];exact Di);have hQ2:=(hQ1.inc iC Di).cut t;have hF:=fun j=>HF Di j;have Pd:∀j,gT z j=gT x j:=fun j=>by unfold gT;rw [hzt]
    have htc:t<(cC (bh z t) t).ts.length:=by rw [show (cC (bh z t) t).ts.length=z.ts.length from aW ..];exact Di
    have abG:bY (cC (bh z t) t) t=4:=(hF t).1.trans (by show (gT z t).st=4;rw [Pd];exact e4);have hlz:(cC (bh z t) t).lk.length=x.lk.length:=by show z.lk.length=_;rw [hzl];exact cj ..
    have sI:∀j,gL (cC (bh z t) t) j=if l=j then fR (gL x l) t else gL x j:=fun j=>by
      show z.lk.getD j default=_;rw [hzl];exact fc hl _ j
    have Y7:∀j,j<(cC (bh z t) t).lk.length->∀y∈(gL (cC (bh z t) t) j).wt,y.who.toNat≠t:=fun j hj z' RW=>by
      rw [hlz] at hj;rw [sI] at RW
      by_cases c:l=j
      · rw [if_pos c] at RW
        have h0:=hL.i.wt z' (e3' z' RW).1;unfold iz at h0;have:=(e3' z' RW).2;omega
      · rw [if_neg c] at RW
        intro q;have:=(h.l.wt j hj z' RW).2;rw [q] at this;exact c (by have:(gT x t).lk=(j:Int):=this;omega)
    have hQ3:=hQ2.EJ kq htc (by rw [abG];decide) Y7;have hA3:=Pw (x:=cC (bh z t) t) htc (v:=(UL (aY x l (fR (gL x l) t)) (aQ (fun j=>(gL (aY x l (fR (gL x l) t)) j).ho) l (gL x l).ho)).put t 7 (cJ x t) (fg x t)) (hs:=aQ (fun j=>(gL (aY x l (fR (gL x l) t)) j).ho) l (gL x l).ho) (by rw [hze.symm,hzn.symm] at Ra;exact Ra) ?_ (.inr (.inr (bD ..)))
    · have hlen:(dH (cC (bh z t) t) t).ts.length=x.ts.length:=by
        rw [show (dH (cC (bh z t) t) t).ts.length=(cC (bh z t) t).ts.length from aW ..,show (cC (bh z t) t).ts.length=z.ts.length from aW ..,hzt]
      have afn:gL (dH (cC (bh z t) t) t) l=fR (gL x l) t:=(sI l).trans (if_pos rfl);refine Ao (kq.EJ htc) (hQ3.mono (fun j _ _ q=>?_)) (by show l<(cC (bh z t) t).lk.length;rw [hlz];exact hl) (told:=(gL x l).ho) (cI:=cI) (by rw [afn];exact e1) e2 (fun u hu=>?_) (hA3.eqv ?_)
      ·exact .inr (q.1.resolve_left q.2)
      · obtain ⟨h1,z',RW,rfl⟩:=e5 u hu
        have h0:=hL.i.wt z' RW;unfold iz at h0;have ec:t≠z'.who.toNat:=by omega
        have a1:bY (dH (cC (bh z t) t) t) z'.who.toNat=bY x z'.who.toNat:=(gq htc _ _).trans ((bu _ _ ec).trans ((hF _).1.trans (by show (gT z _).st=_;rw [Pd])));have a2:cJ (dH (cC (bh z t) t) t) z'.who.toNat=cJ x z'.who.toNat:=(j6 htc _ _).trans ((bu _ _ ec).trans ((hF _).2.2.trans (by show (gT z _).lk=_;rw [Pd])));rw [a1,a2];exact h.l.wt l hl z' RW
      · refine ⟨rfl,rfl,rfl,fun _ _=>rfl,fun _ _=>rfl,fun _ _ _=>rfl,fun _ _=>rfl,fun j _ g=>?_⟩
        show g∈aQ (fun j=>(gL (aY x l (fR (gL x l) t)) j).ho) l (gL x l).ho j↔g∈aQ (fun j=>(gL (dH (cC (bh z t) t) t) j).ho) l (gL x l).ho j
        unfold aQ;split
        ·exact Iff.rfl
        ·next c=>show g∈(gL (aY x l (fR (gL x l) t)) j).ho↔g∈(gL (cC (bh z t) t) j).ho;rw [sI,if_neg c,fc hl,if_neg c]
    · have hn:((UL (aY x l (fR (gL x l) t)) (aQ (fun j=>(gL (aY x l (fR (gL x l) t)) j).ho) l (gL x l).ho)).put t 7 (cJ x t) (fg x t)).hw t=7:=bD ..
      refine ⟨by show x.ts.length=(cC (bh z t) t).ts.length;rw [show (cC (bh z t) t).ts.length=z.ts.length from aW ..,hzt],(cj ..).trans hlz.symm,by show x.s.cr=z.s.cr;rw [Ll],fun j _=>by show (gL (aY x l (fR (gL x l) t)) j).sh=(gL (cC (bh z t) t) j).sh;rw [sI,fc hl],fun j _=>?_,fun j _ _=>?_,fun j _=>?_,fun _ _ _=>Iff.rfl⟩
      · show aQ (bY x) t 7 j=aQ (bY (bh z t)) t _ j
        rw [hn];unfold aQ;split;rfl;rw [(hF j).1];show _=(gT z j).st;rw [Pd]
      · show aQ (cJ x) t (cJ x t) j=aQ (cJ (bh z t)) t (aQ (cJ x) t (cJ x t) t) j
        rw [bD];unfold aQ;split;rfl;rw [(hF j).2.2];show _=(gT z j).lk;rw [Pd]
      · show aQ (fg x) t (fg x t) j=aQ (fg (bh z t)) t (fg (bh z t) t) j
        rw [aS,aS,(hF j).2.1];show _=(gT z j).co;rw [Pd]
  · refine ⟨rfl,(cj x l _).symm,rfl,fun j _=>?_,fun _ _=>rfl,fun _ _ _=>rfl,fun _ _=>rfl,fun j _ g=>?_⟩
    · show (gL x j).sh=(gL (aY x l (fR (gL x l) t)) j).sh
      rw [fc hl];split
      ·next c=>rw [e6,c]
      ·rfl
    · show g∈(gL x j).ho↔g∈aQ (fun j=>(gL (aY x l (fR (gL x l) t)) j).ho) l (gL x l).ho j
      unfold aQ;split
      ·next c=>rw [c]
      ·next c=>show _↔g∈(gL (aY x l (fR (gL x l) t)) j).ho;rw [fc hl,if_neg c]
/-! parties, and which locks are shared -/
structure PI (ts:List iy) (lk:List bf) (ng:Nat) (ls:List jD):Prop where
  gr:∀t,t<ts.length->0<=(ts.getD t default).gr/\(ts.getD t default).gr<(ng:Int)
  ln:∀l,l<lk.length->(lk.getD l default).sh=false->ng<=(lk.getD l default).ld.l.length
  sh:∀l,l<lk.length->(lk.getD l default).sh=(ls.getD l default).sh
  id:∀t,t<ts.length->(ts.getD t default).id=(t:Int)
section
variable {ts:List iy} {lk:List bf} {ng:Nat} {ls:List jD} (h:PI ts lk ng ls)
include h
theorem PI.set (t:Nat) (y:iy) (hy:(y.gr,y.id)=((ts.getD t default).gr,(ts.getD t default).id)):PI (ts.set t y) lk ng ls:=by
  obtain ⟨hy,hy2⟩:=Prod.mk.inj hy;refine ⟨fun j hj=>?_,h.ln,h.sh,fun j hj=>?_⟩<;>rw [List.length_set] at hj<;>rw [List.getD_eq_getElem?_getD,List.getElem?_set] <;>by_cases e:t=j
  ·rw [if_pos e,if_pos (e▸hj)];show 0<=y.gr/\y.gr<_;rw [hy,e];exact h.gr j hj
  ·rw [if_neg e,<-List.getD_eq_getElem?_getD];exact h.gr j hj
  ·rw [if_pos e,if_pos (e▸hj)];show y.id=_;rw [hy2,e];exact h.id j hj
  ·rw [if_neg e,<-List.getD_eq_getElem?_getD];exact h.id j hj
theorem PI.put (l:Nat) (M:bf) (h1:M.sh=(lk.getD l default).sh) (h2:M.ld.l.length=(lk.getD l default).ld.l.length):PI ts (lk.set l M) ng ls:=by
  have hg:∀j,j<lk.length->(lk.set l M).getD j default=if l=j then M else lk.getD j default:=fun j hj=>by
    rw [List.getD_eq_getElem?_getD,List.getElem?_set]
    by_cases e:l=j
    ·rw [if_pos e,if_pos e,if_pos (e▸hj)];rfl
    ·rw [if_neg e,if_neg e,<-List.getD_eq_getElem?_getD]
  refine ⟨h.gr,fun j hj q=>?_,fun j hj=>?_,h.id⟩
  · rw [List.length_set] at hj;rw [hg j hj] at q ⊢
    by_cases e:l=j
    ·rw [if_pos e] at q ⊢;rw [h2,e];exact h.ln j hj (by rw [<-e,<-h1];exact q)
    ·rw [if_neg e] at q ⊢;exact h.ln j hj q
  · rw [List.length_set] at hj;rw [hg j hj]
    by_cases e:l=j
    ·rw [if_pos e,h1,e];exact h.sh j hj
    ·rw [if_neg e];exact h.sh j hj
theorem PI.map (f:bf->bf) (hf:∀L,(f L).sh=L.sh/\(f L).ld.l.length=L.ld.l.length):PI ts (lk.map f) ng ls:=by
  have hg:∀j,j<lk.length->(lk.map f).getD j default=f (lk.getD j default):=fun j hj=>by
    rw [List.getD_eq_getElem?_getD,List.getElem?_map,List.getElem?_eq_getElem hj,List.getD_eq_getElem?_getD,List.getElem?_eq_getElem hj];rfl
  refine ⟨h.gr,fun j hj q=>?_,fun j hj=>?_,h.id⟩
  ·rw [List.length_map] at hj;rw [hg j hj] at q ⊢;rw [(hf _).2];exact h.ln j hj (by rw [<-(hf _).1];exact q)
  ·rw [List.length_map] at hj;rw [hg j hj,(hf _).1];exact h.sh j hj
theorem PI.snoc (y:iy) (hy:0<=y.gr/\y.gr<(ng:Int)) (hi:y.id=(ts.length:Int)):PI (ts++ [y]) lk ng ls:=by
  refine ⟨fun j hj=>?_,h.ln,h.sh,fun j hj=>?_⟩<;>rw [List.length_append,List.length_singleton] at hj<;>rcases Nat.lt_or_ge j ts.length with q|q
  ·rw [List.getD_eq_getElem?_getD,List.getElem?_append_left q,<-List.getD_eq_getElem?_getD];exact h.gr j q
  ·rw [show j=ts.length by omega,List.getD_eq_getElem?_getD,List.getElem?_append_right (Nat.le_refl _),Nat.sub_self];exact hy
  ·rw [List.getD_eq_getElem?_getD,List.getElem?_append_left q,<-List.getD_eq_getElem?_getD];exact h.id j q
  ·rw [show j=ts.length by omega,List.getD_eq_getElem?_getD,List.getElem?_append_right (Nat.le_refl _),Nat.sub_self];exact hi
end
theorem Sv (L:bf) (t p:Int):(cf L t p).sh=L.sh/\(cf L t p).ld.l.length=L.ld.l.length:=by
  unfold cf;split
  ·exact⟨rfl,rfl⟩
  · have e:=eL L p
    exact⟨e.1,(iQ ..).trans (by show (bS L p).ld.l.length=_;rw [e.2.2.2.1])⟩
theorem Q6 (L:bf) (t p:Int):(du L t p).sh=L.sh/\(du L t p).ld.l.length=L.ld.l.length:=by
  unfold du;split
  ·exact⟨rfl,rfl⟩
  ·exact⟨rfl,iQ ..⟩
theorem W2 (L:bf) (t:Int):(dP L t).sh=L.sh/\(dP L t).ld.l.length=L.ld.l.length:=by
  by_cases e:bj L t=true
  ·obtain ⟨p,h⟩:=oe.yF e;exact⟨h.sh,h.ln⟩
  ·unfold dP;rw [if_neg e];exact⟨rfl,rfl⟩
theorem Pm (L:bf) (t:Int):(fR L t).sh=L.sh/\(fR L t).ld.l.length=L.ld.l.length:=by
  by_cases e:bT L t=true
  ·obtain ⟨p,h⟩:=oe.lv e;exact⟨h.2.2.2.2.2.1,h.2.2.2.2.2.2⟩
  ·unfold fR;rw [if_neg e];exact⟨rfl,rfl⟩
theorem XL (L:bf) (t:Int):(tx L t).sh=L.sh/\(tx L t).ld.l.length=L.ld.l.length:=by
  unfold tx;split
  ·exact Pm L t
  · split
    ·exact W2 {L with di:=true} t
    ·exact⟨rfl,rfl⟩
theorem W4 (L:bf) (t:Int):(jt L t).sh=L.sh/\(jt L t).ld.l.length=L.ld.l.length:=by
  unfold jt;split
  ·exact⟨rfl,(iQ ..).trans (by show (L.ld.l.set _ _).length=_;rw [List.length_set])⟩
  ·exact⟨rfl,rfl⟩
theorem GV (L:bf) (g w:Int):(iU L g w).sh=L.sh/\(iU L g w).ld.l.length=L.ld.l.length:=by
  unfold iU;split
  ·exact⟨rfl,(iQ ..).trans (by show (L.ld.l.set _ _).length=_;rw [List.length_set])⟩
  ·exact⟨rfl,rfl⟩
abbrev yK (x:aB):Prop:=PI x.ts x.lk x.s.gs.length x.s.ls
section
variable {x:aB} (h:yK x)
include h
theorem PI.inc (t:Nat):yK (bh x t):=PI.set h t _ rfl
theorem PI.EJ (t:Nat):yK (dH x t):=PI.set h t _ rfl
theorem PI.pt (l:Nat) {M:bf} (hM:M.sh=(gL x l).sh/\M.ld.l.length=(gL x l).ld.l.length):yK (aY x l M):=PI.put h l M hM.1 hM.2
theorem PI.oJ (l:Nat) (t:Int):yK (oJ l x t):=PI.EJ (x:=cC (bh (ba x 4 t l (dD (gL x l) t)) t.toNat) t.toNat) (PI.inc (x:=ba x 4 t l (dD (gL x l) t)) h t.toNat) t.toNat
end
theorem PI.n4 {l:Nat} :∀(to:List Int) {x:aB},yK x->yK (n4 l x to)
  | [],x,h=>h
  |t::to,x,h=>PI.n4 to (PI.oJ h l t)
theorem PI.lV (h:yK x):yK (cT x l to):=PI.n4 to h
theorem PI.oy {x:aB} (h:yK x) (t:Nat):yK (oy x t):=by
  unfold Go.Eng.oy;split
  ·exact PI.lV (PI.pt h _ (Pm _ _))
  ·exact h
theorem PI.tt {x:aB} (h:yK x) (t l:Nat):yK (tt t x l):=by
  unfold Go.Eng.tt;split
  ·exact PI.lV (PI.pt (x:=ba x 12 t l 0) h _ (XL _ _))
  ·exact h
theorem PI.lS {x:aB} (h:yK x) (t:Nat):∀n,yK (lS t x n)
  |0=>h
  |n+1=>by rw [kn];exact PI.tt (PI.lS h t n) t n
theorem PI.die (h:yK x) (t:Nat):yK (ku x t):=by
  have h1:yK (EN x t):=PI.lS (x:=uC x t) (PI.oy h t) t x.lk.length;rw [xz];exact PI.set h1 t _ rfl
theorem PI.oo {x:aB} (h:yK x) (t:Nat):yK (oo x t):=by
  unfold Go.Eng.oo;split
  ·exact h
  · split
    ·exact PI.EJ h t
    · refine PI.lV ?_
      exact PI.EJ (x:=cC (bh (ba (aY x (gT x t).lk.toNat (fR (gL x (gT x t).lk.toNat) t)) 8 t (gT x t).lk 10) t) t) (PI.inc (x:=ba (aY x (gT x t).lk.toNat (fR (gL x (gT x t).lk.toNat) t)) 8 t (gT x t).lk 10) (PI.pt h _ (Pm _ _)) t) t
/-! ops that may be -/
structure OpQ (s:ee) (o:bO):Prop where
  r:o.k=3->(s.ls.getD o.a.toNat default).sh=true
  s:o.k=7->1<=o.a/\o.a<=64
  w:o.k=10->1<=o.a/\o.a<=16
theorem M6 {s:ee} (h:dt s=true) {p:mX} (hp:p∈s.ps) (hi:i<p.xs.length):OpQ s (p.xs.getD i default):=by
  obtain ⟨h1,h2,h3⟩:=gu h;obtain ⟨hm,hf⟩:=lp (h3 p hp);have hr:=tL hm hi;have hf:=hf i hi
  unfold dC at hf
  generalize p.xs.getD i default=o at hr hf
  unfold ew at hr
  simp only [Bool.and_eq_true] at hr;have h5:=hr.1.2;refine ⟨fun e=>?_,fun e=>?_,fun e=>?_⟩
  · split at hf
    ·cases hf
    · split at hf
      ·cases hf
      · next q=>
        rw [decide_eq_true e] at q;cases c:(s.ls.getD o.a.toNat default).sh with
        |true=>rfl
        |false=>rw [c] at q;exact absurd rfl q
  ·rw [e] at h5;simp [hasB,n3,qM] at h5;exact h5
  ·rw [e] at h5;simp [hasB,n3,qM] at h5;exact h5
structure MT (w0:cR) (x:aB):Prop where
  q:MQ fw x
  p:yK x
  a:AV w0 x.ev x.now (ks x)
theorem MT.die {w0:cR} {k:Nat} {x:aB} {t:Nat} (hI:MI k x) (h:MT w0 x) (ht:t<x.ts.length) (h5:bY x t≠5):MT w0 (ku x t):=by
  have q:=Ym hI h.q ht h5 h.a;exact⟨q.1,PI.die h.p t,q.2⟩
theorem MT.oo {w0:cR} {k:Nat} {x:aB} {t:Nat} (hI:MI k x) (h:MT w0 x) (ht:t<x.ts.length):MT w0 (oo x t):=by
  have q:=Mz hI h.q ht h.a;exact⟨q.1,PI.oo h.p t,q.2⟩
theorem aaC (ht:t<x.ts.length) {y:iy} (h1:y.st=(gT x t).st) (h2:y.co=(gT x t).co) (h3:y.lk=(gT x t).lk):TV (ks x) (ks (bR x t y)):=
  ⟨(aW ..).symm,rfl,rfl,fun _ _=>rfl,fun j _=>((gq ht y j).trans (by rw [h1];exact aS _ _ _)).symm,fun j _ _=>((j6 ht y j).trans (by rw [h3];exact aS _ _ _)).symm,fun j _=>((ka ht y j).trans (by rw [h2];exact aS _ _ _)).symm,fun _ _ _=>Iff.rfl⟩
theorem Xn {t p:Int} (h:cK L t p≠0):cV L t p=cK L t p:=if_pos h
theorem Rl {t p:Int} (h:cK L t p=0):cV L t p=if ij L p=true then 0 else 8:=if_neg (by rw [h];decide)
theorem S8 {t p:Int} (h:cK L t p=0):jF L t p=if ij L p=true then 4 else if 8<=L.wt.length then 3 else 0:=if_neg (by rw [h];decide)
theorem MT.err {w0:cR} {x:aB} (h:MT w0 x) {t:Nat} (ht:t<x.ts.length) (h2:bY x t=2) {l n:Int} (hl:(0<=l/\l<(x.lk.length:Int))\/(l= -1/\n=3)) (hn:n=3\/n=7\/n=8\/n=9):MT w0 (ba x 8 t l n):=
  ⟨h.q.fX ..,h.p,h.a.err (t:=t) ht h2 hl hn⟩
theorem MT.core (hI:MI k x) (h:MT w0 x) (hc:c<x.cs.length) (mO:(qg x.cs c).cur=(t:Int)):fg x t=(c:Int):=by
  have hk:=(hI.ci.wf.wf c hc).ix (show 0<=(qg x.cs c).cur by omega);have:=(h.q.q.has c hc _ hk).1;rw [mO] at this;exact this
section
variable {w0:cR} {k:Nat} {x:aB} (hI:MI k x) (h:MT w0 x) {t:Nat} (ht:t<x.ts.length)
include hI h ht
theorem MT.up {y:iy} (h1:y.st=(gT x t).st) (h2:y.co=(gT x t).co) (h3:y.lk=(gT x t).lk) (h4:(y.gr,y.id)=((gT x t).gr,(gT x t).id)):MT w0 (bR x t y):=
  ⟨h.q.up hI ht h1 h2 h3,PI.set h.p t y h4,h.a.eqv (aaC ht h1 h2 h3)⟩
theorem MT.inc:MT w0 (bh x t):=MT.up hI h ht rfl rfl rfl rfl
theorem MT.UF (h2:bY x t=2) {o:bO} (ho:Lb x.s o) (hp:OpQ x.s o) (hk:2<=o.k/\o.k<=5):MT w0 (mb x t o).1:=by
  have T1:=ho.l ⟨hk.1,by omega⟩;obtain ⟨l,ft⟩:∃l:Nat,o.a=(l:Nat):=⟨o.a.toNat,(Int.toNat_of_nonneg T1.1).symm⟩
  have hl:l<x.lk.length:=by rw [hI.ll];omega
  have hL:=hI.li l hl;have Ck:iz x.ts.length (t:Int):=⟨by omega,by omega⟩
  have Y7:=h.q.X6 (t:=t) (by rw [h2];decide)
  have EW:bT (gL x l) t=false:=by
    cases c:bT (gL x l) t with
    |false=>rfl
    |true=>
      obtain ⟨y,hy,e⟩:=List.any_eq_true.1 c;exact absurd (by rw [of_decide_eq_true e];rfl) (Y7 l hl y hy)
  have hgr:=h.p.gr t ht
  have aaP:qz (gL x l).ld (tq x t l o)=true:=by
    unfold tq Ah qz
    cases hs:(gL x l).sh with
    |true=>
      have h8:=hL.w.l2 hs;rw [if_pos rfl,h8];split<;>rfl
    |false=>
      have qV:=h.p.ln l hl hs;have iI:=h.p.sh l hl
      have ajo:¬o.k=3:=fun e=>by
        have:=hp.r e;rw [ft,Int.toNat_natCast,<-iI] at this;have q2:(gL x l).sh=true:=this;rw [hs] at q2;cases q2
      have hg:qz (gL x l).ld (gT x t).gr=true:=by
        unfold qz
        rw [decide_eq_true hgr.1,decide_eq_true (show (gT x t).gr<((gL x l).ld.l.length:Int) by have h1:(gT x t).gr<(x.s.gs.length:Int):=hgr.2;have h3:x.s.gs.length<=(gL x l).ld.l.length:=qV;omega)];rfl
      rw [if_neg (by decide),if_neg (fun q=>by
        rcases q with q|q
        ·exact ajo (of_decide_eq_true q)
        ·have ZY:=hg;unfold qz at ZY;rw [ZY] at q;cases q)]
      unfold qz at hg;exact hg
  have Lv:cK (gL x l) t (tq x t l o)=if bj (gL x l) t=true then 9 else 0:=by
    unfold cK;rw [if_neg (by rintro (q|q);rw [aaP] at q;cases q;omega),EW];rfl
  by_cases he:cV (gL x l) t (tq x t l o)=0
  · rw [KM ft he]
    have ED:cK (gL x l) t (tq x t l o)=0:=by
      refine Classical.byContradiction fun n=>?_
      unfold cV at he;rw [if_pos n] at he;exact n he
    have vO:bj (gL x l) t=false:=(oX ED).2.2.1
    generalize hP:tq x t l o=p at*
    have hM:=hL.take t p Ck;have hf:=eL (gL x l) p
    have e1:(cf (gL x l) t p).ho=(gL x l).ho++ [⟨t,p,(gL x l).di⟩] :=by
      unfold cf;rw [if_neg (by simpa using he)]
      show (bS (gL x l) p).ho++ [⟨t,p,(bS (gL x l) p).di⟩] =_
      rw [hf.2.1,hf.2.2.2.2.2]
    have e2:(cf (gL x l) t p).wt=(gL x l).wt:=by
      unfold cf;rw [if_neg (by simpa using he)];exact hf.2.2.1
    have e3:=Sv (gL x l) t p;have sI:gL (aY x l (cf (gL x l) t p)) l=cf (gL x l) t p:=(fc hl _ l).trans (if_pos rfl);rw [sI];have Xc:(⟨t,p,(gL x l).di⟩:Hd)∈(cf (gL x l) t p).ho:=by rw [e1];simp
    have hH:dD (cf (gL x l) t p) t=nO (gL x l).sh ⟨t,p,(gL x l).di⟩:=by rw [<-e3.1];exact PX (g:=⟨t,p,(gL x l).di⟩) hM.w.hd Xc
    obtain ⟨k1,k2⟩:=TS hM.w.toqH e1;rw [e3.1] at k2;have hA:=h.a.agX (t:=t) (l:=l) (g:=⟨t,p,(gL x l).di⟩) ht hl rfl k1 k2 h2;have hA2:=hA.eqv (Ad hl (M:=cf (gL x l) t p) e3.1 (told:=(gL x l).ho++ [⟨t,p,(gL x l).di⟩]) (fun g=>Iff.rfl))
    have hA3:=hA2.eqv (u:=ks (aY x l (cf (gL x l) t p))) ⟨rfl,rfl,rfl,fun _ _=>rfl,fun _ _=>rfl,fun _ _ _=>rfl,fun _ _=>rfl,fun j _ g=>by
      show g∈aQ (fun i=>(gL (aY x l (cf (gL x l) t p)) i).ho) l ((gL x l).ho++ [⟨t,p,(gL x l).di⟩]) j↔g∈(gL (aY x l (cf (gL x l) t p)) j).ho
      unfold aQ;split
      ·next q=>rw [<-q,sI,e1]
      ·exact Iff.rfl⟩
    have hQ:MQ fw (aY x l (cf (gL x l) t p)):=by
      refine ⟨h.q.q,h.q.l.put hl (fun y hy=>by rw [e2] at hy;exact hy) (fun _ q=>q) (fun y hy=> .inl ⟨y,by rw [e2];exact hy,rfl⟩) (fun g hg=>?_)⟩;rw [e1] at hg;rcases List.mem_append.1 hg with q|q
      ·exact h.q.l.h5 l hl g q
      ·rw [List.mem_singleton.1 q];show bY x (t:Int).toNat≠5;rw [Int.toNat_natCast,h2];decide
    have iC:=((hI.mono (Nat.le_succ k)).aY (l:=l) hM).fX 4 t l (nO (gL x l).sh ⟨t,p,(gL x l).di⟩);rw [hH];have hT:MT w0 (ba (aY x l (cf (gL x l) t p)) 4 t l (nO (gL x l).sh ⟨t,p,(gL x l).di⟩)):=⟨hQ.fX ..,PI.pt h.p l e3,hA3⟩
    exact MT.inc (x:=zc _ l) (iC.UG l) ⟨hT.q.gr _,hT.p,hT.a⟩ ht
  · have vH:(bj (gL x l) t=true/\cV (gL x l) t (tq x t l o)=9)\/(bj (gL x l) t=false/\ij (gL x l) (tq x t l o)=false/\cV (gL x l) t (tq x t l o)=8):=by
      cases hh:bj (gL x l) t with
      |true=>
        rw [hh,if_pos rfl] at Lv;exact .inl ⟨rfl,(Xn (by rw [Lv];decide)).trans Lv⟩
      |false=>
        rw [hh,if_neg (by decide)] at Lv;have e:=Rl Lv;cases hf:ij (gL x l) (tq x t l o) with
        |true=>rw [hf,if_pos rfl] at e;exact absurd e he
        |false=>rw [hf,if_neg (by decide)] at e;exact .inr ⟨rfl,rfl,e⟩
    have hW:cV (gL x l) t (tq x t l o)=8->bj (gL x l) t=false/\ij (gL x l) (tq x t l o)=false:=fun q=>by
      rcases vH with ⟨_,r⟩|⟨r1,r2,_⟩
      ·rw [q] at r;cases r
      ·exact⟨r1,r2⟩
    have hE:cV (gL x l) t (tq x t l o)=9\/cV (gL x l) t (tq x t l o)=8:=by
      rcases vH with ⟨_,r⟩|⟨_,_,r⟩
      ·exact .inl r
      ·exact .inr r
    by_cases Qz:lG x t o≠0
    · rw [Ko ft he Qz]
      refine MT.inc (hI.fX ..) (MT.err h ht h2 (.inl ⟨Int.natCast_nonneg l,by omega⟩) ?_) ht
      by_cases h8:cV (gL x l) t (tq x t l o)=8/\o.k≠4
      · obtain ⟨w1,w2⟩:=hW h8.1
        rw [w1,if_neg (by decide)] at Lv;have e:=S8 Lv;rw [w2,if_neg (by decide)] at e;rw [ta ft h8.1 h8.2] at Qz ⊢
        by_cases q:aq (iH x.g (gV (gL x l))) t=true
        ·rw [if_pos q];exact .inr (.inr (.inr rfl))
        · rw [if_neg q,e] at Qz ⊢
          by_cases r:8<=(gL x l).wt.length
          ·rw [if_pos r];exact .inl rfl
          ·rw [if_neg r] at Qz;exact absurd rfl Qz
      · rw [wc ft h8]
        rcases hE with q|q
        ·exact .inr (.inr (.inr q))
        ·exact .inr (.inr (.inl q))
    · have yy:lG x t o=0:=by simpa using Qz
      have h8:cV (gL x l) t (tq x t l o)=8/\o.k≠4:=by
        refine Classical.byContradiction fun n=>?_;rw [wc ft n] at yy;exact he yy
      obtain ⟨w1,w2⟩:=hW h8.1
      have hwE:jF (gL x l) t (tq x t l o)=0:=by
        rw [ta ft h8.1 h8.2] at yy
        split at yy
        ·cases yy
        ·exact yy
      rw [Fy ft he Qz,ya ft]
      generalize hP:tq x t l o=p at*
      have e1:(du (gL x l) t p).ho=(gL x l).ho:=by unfold du;rw [if_neg (by simpa using hwE)];rfl
      have e2:(du (gL x l) t p).wt=(gL x l).wt++ [⟨t,p,0#64⟩] :=by unfold du;rw [if_neg (by simpa using hwE)];rfl
      have e3:=Q6 (gL x l) t p
      have ec:(gL x l).ho≠ [] :=fun q=>by
        unfold ij at w2;rw [aaP,q] at w2;cases w2
      have hY:kV x t l o=eM (ba (aY x l (du (gL x l) t p)) 6 t l 0) t:=by unfold kV;rw [hP]
      have hA:=h.a.block (t:=t) (l:=l) ht h2 hl ec (rU w1);have iC:=hI.UF ht (o:=o) ⟨T1.1,by omega⟩;rw [Fy ft (by rw [hP];exact he) Qz,ya ft] at iC;have hts:(kV x t l o).ts=x.ts:=by rw [hY];rfl
      have yL:t<(kV x t l o).ts.length:=by rw [hts];exact ht
      have FD:∀j,gT (kV x t l o) j=gT x j:=fun j=>by unfold gT;rw [hts]
      have RO:(kV x t l o).lk=(aY x l (du (gL x l) t p)).lk:=by rw [hY];rfl
      have agJ:(kV x t l o).cs=iM x.cs t:=by rw [hY];rfl
      have Yi:(kV x t l o).ev=x.ev++ [⟨x.now,6,t,l,0⟩] :=by rw [hY];rfl
      have aa9:(kV x t l o).now=x.now:=by rw [hY];rfl
      have EU:(kV x t l o).s=x.s:=by rw [hY];rfl
      have sI:∀j,gL (kV x t l o) j=if l=j then du (gL x l) t p else gL x j:=fun j=>by
        unfold gL;rw [RO];exact fc hl _ j
      generalize aA:qt x.g t (gV (gL (kV x t l o) l))=g' at*
      have gS:∀j,bY {bR (kV x t l o) t (wg (gT x t) o x.now) with g:=g'} j=aQ (bY x) t 4 j:=fun j=>by
        show bY (bR (kV x t l o) t (wg (gT x t) o x.now)) j=_
        rw [gq yL];unfold aQ;split;rfl;show (gT _ j).st=_;rw [FD]
      have tZ:∀j,fg {bR (kV x t l o) t (wg (gT x t) o x.now) with g:=g'} j=fg x j:=fun j=>by
        show fg (bR (kV x t l o) t (wg (gT x t) o x.now)) j=_
        rw [ka yL];unfold aQ;split
        ·next q=>rw [<-q];rfl
        ·show (gT _ j).co=_;rw [FD]
      have vf:∀j,cJ {bR (kV x t l o) t (wg (gT x t) o x.now) with g:=g'} j=aQ (cJ x) t l j:=fun j=>by
        show cJ (bR (kV x t l o) t (wg (gT x t) o x.now)) j=_
        rw [j6 yL];unfold aQ;split;exact ft;show (gT _ j).lk=_;rw [FD]
      have hlen:({bR (kV x t l o) t (wg (gT x t) o x.now) with g:=g'} :aB).ts.length=x.ts.length:=by
        show (bR (kV x t l o) t (wg (gT x t) o x.now)).ts.length=_;rw [aW,hts]
      refine ⟨⟨?_,?_⟩,?_,?_⟩
      · rw [hlen]
        have hc:=iC.ci;rw [hlen] at hc;rw [show ({bR (kV x t l o) t (wg (gT x t) o x.now) with g:=g'} :aB).cs=iM x.cs t from agJ] at hc ⊢;exact(h.q.q.rem hI.ci (t:=t) (s:=4) (by decide)).ext hc (fun j _=>gS j) (fun j _=>tZ j)
      · rw [hlen]
        have hi:=iC.Te;rw [hlen] at hi;rw [show ({bR (kV x t l o) t (wg (gT x t) o x.now) with g:=g'} :aB).lk=x.lk.set l (du (gL x l) t p) from RO] at hi ⊢;refine LC.ext (st:=aQ (bY x) t 4) (lk:=aQ (cJ x) t l) ?_ hi (fun j _=>gS j) (fun j _=>vf j);refine ⟨fun j hj y hy=>?_,fun j hj h4 _=>?_,fun j hj g hg=>?_⟩
        · rw [List.length_set] at hj;rw [bG hl] at hy
          have oQ:∀i,i<x.lk.length->∀y∈(qg x.lk i).wt,aQ (bY x) t 4 y.who.toNat=4/\aQ (cJ x) t l y.who.toNat=(i:Int):=fun i hi y hy=>by
            have:=Y7 i hi y hy;rw [bu _ _ (Ne.symm this),bu _ _ (Ne.symm this)];exact h.q.l.wt i hi y hy
          by_cases c:l=j
          · rw [if_pos c,e2] at hy
            rcases List.mem_append.1 hy with q|q
            ·rw [<-c];exact oQ l hl y q
            · rw [List.mem_singleton.1 q];show aQ (bY x) t 4 (t:Int).toNat=4/\aQ (cJ x) t l (t:Int).toNat=_
              rw [Int.toNat_natCast,bD,bD,c];exact⟨rfl,rfl⟩
          ·rw [if_neg c] at hy;exact oQ j hj y hy
        · by_cases c:t=j
          · subst c
            refine ⟨⟨t,p,0#64⟩,?_,rfl⟩;rw [bD,Int.toNat_natCast,bG hl,if_pos rfl,e2];simp
          · rw [bu _ _ c] at h4 ⊢
            obtain ⟨y,hy,q⟩:=h.q.l.s4 j hj h4 (fun q=>q);refine ⟨y,?_,q⟩;rw [bG hl];split
            ·next r=>rw [e2,r];exact List.mem_append_left _ hy
            ·exact hy
        · rw [List.length_set] at hj;rw [bG hl] at hg
          have:g∈(qg x.lk j).ho:=by
            split at hg
            ·next r=>rw [e1] at hg;rw [<-r];exact hg
            ·exact hg
          unfold aQ;split
          ·decide
          ·exact h.q.l.h5 j hj g this
      · have q:=PI.set (PI.pt h.p l e3) t (wg (gT x t) o x.now) rfl
        show PI ((kV x t l o).ts.set t _) (kV x t l o).lk (kV x t l o).s.gs.length (kV x t l o).s.ls
        rw [hts,RO,EU];exact q
      · have q:=hA.eqv (u:=ks {bR (kV x t l o) t (wg (gT x t) o x.now) with g:=g'}) ⟨hlen.symm,by show x.lk.length=(kV x t l o).lk.length;rw [RO];exact(cj ..).symm,by show x.s.cr=(kV x t l o).s.cr;rw [EU],fun j _=>?_,fun j _=>(gS j).symm,fun j _ _=>(vf j).symm,fun j _=>?_,fun j _ g=>?_⟩
        ·rw [show ({bR (kV x t l o) t (wg (gT x t) o x.now) with g:=g'} :aB).ev=_ from Yi,show ({bR (kV x t l o) t (wg (gT x t) o x.now) with g:=g'} :aB).now=_ from aa9];exact q
        · show (gL x j).sh=(gL (kV x t l o) j).sh
          rw [sI];split
          ·next r=>rw [e3.1,r]
          ·rfl
        ·exact(aS (fg x) t j).trans (tZ j).symm
        · show g∈(gL x j).ho↔g∈(gL (kV x t l o) j).ho
          rw [sI];split
          ·next r=>rw [e1,r]
          ·exact Iff.rfl
end
theorem Ek {cs:List Qm} (hc:c<cs.length) {q:Qm} (he:q.l.map (·.id)=(qg cs c).l.map (·.id)) (hu:q.cur=(qg cs c).cur) {st co:Nat->Int} (h:QC n cs st co):QC n (cs.set c q) st co:=by
  refine h.same (List.length_set ..) (fun d hd a ha=>jr hc he ha) (fun d hd=>?_);rw [bG hc];split
  ·next r=>rw [hu,r]
  ·rfl
theorem Q0 (cs:List Qm) (a w:Int) (c:Nat):(qg (kG cs a w) c).cur=(qg cs c).cur:=by
  unfold kG;split
  · next ha=>
    rw [show nk (qg cs (bN cs a)) a w=iW (qg cs (bN cs a)) a w from if_pos (dm ha),bG ha]
    split
    ·next r=>rw [<-r];rfl
    ·rfl
  ·rfl
section
variable {w0:cR} {k:Nat} {x:aB} (hI:MI k x) (h:MT w0 x)
include h
theorem MT.cs {cs:List Qm} (hl:cs.length=x.cs.length) (hk:∀c,c<x.cs.length->∀a,cB (qg cs c) a->cB (qg x.cs c) a) (hq:∀c,c<x.cs.length->(qg cs c).cur=(qg x.cs c).cur):MT w0 {x with cs:=cs} :=
  ⟨⟨h.q.q.same hl hk hq,h.q.l⟩,h.p,h.a⟩
include hI
theorem MT.lV (l:Nat) {M:bf} {t:Nat} (hl:l<x.lk.length) (ht:t<x.ts.length) (hM:LI x.ts.length k M) (hh:bj (gL x l) t=true) {to:List Int} (hT:∃cI,oe (gL x l) M ((gL x l).ho.eraseIdx (gE (gL x l).ho t)) to cI) (h2:bY x t=2):MT w0 (cT (aY (ba x 5 t l 0) l M) l to):=by
  obtain ⟨cI,hT⟩:=hT;have q:=Ix hI h.q hl hM ht hh h.a hT (kd:=5) (.inl ⟨rfl,h2⟩);exact⟨q.1,PI.lV (PI.pt (x:=ba x 5 t l 0) h.p l ⟨hT.sh,hT.ln⟩),q.2⟩
theorem MT.tp (fC:List Int) {i:Nat} (hi:i<x.ts.length):MT w0 (tp fC x i):=by
  unfold Go.Eng.tp;split
  ·exact h
  ·exact(MT.up hI h hi (y:= {gT x i with ef:=fC.getD i 0}) rfl rfl rfl rfl).cs (HU ..) (fun c _ a ha=>DT ha) (fun c _=>Q0 ..)
end
theorem MT.tw {w0:cR} {k:Nat} {x:aB} (hI:MI k x) (h:MT w0 x) (fC:List Int):∀{n:Nat},n<=x.ts.length->MT w0 (tw fC x n)
  |0,_=>h
  |n+1,hn=>by
    rw [jk];exact(h.tw hI fC (n:=n) om).tp (hI.tw fC (n:=n) om) fC (by rw [(lY fC x n).1];omega)
theorem MT.C0 (hI:MI k x) (h:MT w0 x):MT w0 (ki x):=by
  have h1:=h.tw hI (y7 (rP x) x.g) (n:=x.ts.length) (Nat.le_refl _);exact h1.cs (nI _) (fun c hc a ha=>D5 hc ha) (fun c hc=>by rw [xP hc];exact(eY _).2.1)
/-! an op -/
theorem MI.zx {k:Nat} {x:aB} (h:MI k x) {t:Nat} (ht:t<x.ts.length) {a:Int} (ha:1<=a/\a<=64):MI (k+1) (zx x t a):=by
  have q:=h.tb t ht;have hl:=q.lf;have hq:yz x.s k (Gz (gT x t) a):=⟨q.pr,q.pc,by show 0<=Fs (gT x t) a-1/\Fs (gT x t) a-1<=64;unfold Fs;split<;>omega,q.ti,q.l4,q.un⟩
  have h':=(h.up ht hq).mono (Nat.le_succ k)
  exact {h' with
    ll:=by show (x.lk.map _).length=_;rw [List.length_map];exact h.ll
    li:=fun l hl=>by have:=LI.aaw h.li t l hl;rw [show (Go.Eng.zx x t a).ts.length=x.ts.length from aW ..];exact this}
theorem CG (L:bf) (t:Int):(jt L t).ho=L.ho/\(jt L t).wt=L.wt:=by unfold jt;split;exact⟨rfl,rfl⟩;exact⟨rfl,rfl⟩
theorem rS (L:bf) (g w:Int):(iU L g w).ho=L.ho/\(iU L g w).wt=L.wt:=by unfold iU;split;exact⟨rfl,rfl⟩;exact⟨rfl,rfl⟩
theorem MT.WT (h:MT w0 x) (f:bf->bf) (hf:∀L,(f L).ho=L.ho/\(f L).wt=L.wt) (hd:∀L,(f L).sh=L.sh/\(f L).ld.l.length=L.ld.l.length):MT w0 {x with lk:=x.lk.map f} :=by
  have hg:∀l,l<x.lk.length->qg (x.lk.map f) l=f (qg x.lk l):=fun l hl=>by
    unfold qg;rw [List.getD_eq_getElem?_getD,List.getElem?_map,List.getElem?_eq_getElem hl,List.getD_eq_getElem?_getD,List.getElem?_eq_getElem hl];rfl
  have hs4:∀t,t<x.ts.length->bY x t=4->∃y∈(qg (x.lk.map f) (cJ x t).toNat).wt,y.who=(t:Int):=fun t ht h4=>by
    obtain ⟨y,hy,e⟩:=h.q.l.s4 t ht h4 (fun q=>q)
    by_cases c:(cJ x t).toNat<x.lk.length
    ·exact⟨y,by rw [hg _ c,(hf _).2];exact hy,e⟩
    ·unfold qg at hy;rw [List.getD_eq_getElem?_getD,List.getElem?_eq_none om] at hy;cases hy
  refine ⟨⟨h.q.q,⟨fun l hl y hy=>?_,fun t ht h4 _=>hs4 t ht h4,fun l hl g aA=>?_⟩⟩,PI.map h.p f hd,?_⟩
  · rw [show ({x with lk:=x.lk.map f} :aB).lk.length=x.lk.length from List.length_map ..] at hl
    rw [show qg ({x with lk:=x.lk.map f} :aB).lk l=f (qg x.lk l) from hg l hl,(hf _).2] at hy;exact h.q.l.wt l hl y hy
  · rw [show ({x with lk:=x.lk.map f} :aB).lk.length=x.lk.length from List.length_map ..] at hl
    rw [show qg ({x with lk:=x.lk.map f} :aB).lk l=f (qg x.lk l) from hg l hl,(hf _).1] at aA;exact h.q.l.h5 l hl g aA
  · refine h.a.eqv ⟨rfl,(List.length_map ..).symm,rfl,fun l hl=>?_,fun _ _=>rfl,fun _ _ _=>rfl,fun _ _=>rfl,fun l hl g=>?_⟩
    ·show (qg x.lk l).sh=(qg (x.lk.map f) l).sh;rw [hg l hl,(hd _).1]
    ·show g∈(qg x.lk l).ho↔g∈(qg (x.lk.map f) l).ho;rw [hg l hl,(hf _).1]
theorem MT.out {k':Nat} (hI:MI k x) (h:MT w0 x) (ht:t<x.ts.length) (h2:bY x t=2) {ev:List kz} {y:iy} {z:aB} (hz:z=bR {(eM x t) with ev:=ev} t y) (rR:MI k' z) (hy:y.st≠2/\y.st≠4/\y.st≠5) (hc:y.co=(gT x t).co) (hg:(y.gr,y.id)=((gT x t).gr,(gT x t).id)) (hA:AV w0 ev x.now ((ks x).put t y.st (cJ x t) (fg x t))):MT w0 z:=by
  have hlen:z.ts.length=x.ts.length:=by rw [hz];exact aW ..
  have gS:∀j,bY z j=aQ (bY x) t y.st j:=fun j=>by rw [hz];exact gq (x:= {(eM x t) with ev:=ev}) ht y j
  have tZ:∀j,fg z j=fg x j:=fun j=>by rw [hz,ka (x:= {(eM x t) with ev:=ev}) ht y j,hc];exact aS (fg x) t j
  have vf:∀j,cJ z j=aQ (cJ x) t y.lk j:=fun j=>by rw [hz];exact j6 (x:= {(eM x t) with ev:=ev}) ht y j
  have e1:z.cs=iM x.cs t:=by rw [hz];rfl
  have e2:z.lk=x.lk:=by rw [hz];rfl
  have e3:z.ev=ev:=by rw [hz];rfl
  have e4:z.now=x.now:=by rw [hz];rfl
  have e5:z.s=x.s:=by rw [hz];rfl
  have PU:=rR.ci;rw [hlen,e1] at PU;have hi:=rR.Te;rw [hlen,e2] at hi;refine ⟨⟨?_,?_⟩,?_,?_⟩
  ·rw [hlen,e1];exact(h.q.q.rem hI.ci (t:=t) hy.1).ext PU (fun j _=>gS j) (fun j _=>tZ j)
  · rw [hlen,e2]
    exact((h.q.l.TX (t:=t) hy.2.1 (h.q.X6 (by rw [h2];decide)) (fun q=>absurd q hy.2.2) y.lk).ext hi (fun j _=>gS j) (fun j _=>vf j)).mono (fun j _ _ q=>q.1)
  · show PI z.ts z.lk z.s.gs.length z.s.ls
    rw [e2,e5,hz];exact PI.set h.p t y hg
  · rw [e3,e4]
    refine hA.eqv ⟨hlen.symm,by show x.lk.length=z.lk.length;rw [e2],by show x.s.cr=z.s.cr;rw [e5],fun j _=>by show (gL x j).sh=(gL z j).sh;unfold gL;rw [e2],fun j _=>(gS j).symm,fun j _ q4=>?_,fun j _=>(aS (fg x) t j).trans (tZ j).symm,fun j _ g=>by show g∈(gL x j).ho↔g∈(gL z j).ho;unfold gL;rw [e2]⟩;have q4:aQ (bY x) t y.st j=4:=q4
    show aQ (cJ x) t (cJ x t) j=cJ z j
    rw [vf]
    by_cases c:t=j
    ·rw [<-c,bD] at q4;exact absurd q4 hy.2.1
    ·rw [bu _ _ c,bu _ _ c]
theorem MT.bak (hI:MI k x) (h:MT w0 x) (ht:t<x.ts.length) (hc:c<x.cs.length) (mO:(qg x.cs c).cur=(t:Int)) (h2:bY x t=2) {kd:Int} (Sn:kd=3\/kd=10) {y:iy} (hy:y.st=1) (ai0:y.co=(gT x t).co) (hg:(y.gr,y.id)=((gT x t).gr,(gT x t).id)) (hu:y.un=(gT x t).un) (hb:yz x.s (k+1) y):
    MT w0 {bR (fZ x c (fM (qg x.cs c))) t y with ev:=x.ev++ [⟨x.now,kd,t,-1,c⟩] } :=by
  have G4:=MT.core hI h hc mO;have hA:=h.a.leave (t:=t) ht kd Sn h2;rw [show (ks x).co t=(c:Int) from G4] at hA
  generalize hz:({bR (fZ x c (fM (qg x.cs c))) t y with ev:=x.ev++ [⟨x.now,kd,t,-1,c⟩] } :aB)=z
  have hlen:z.ts.length=x.ts.length:=by rw [<-hz];exact aW ..
  have gS:∀j,bY z j=aQ (bY x) t 1 j:=fun j=>by rw [<-hy,<-hz];exact gq (x:=fZ x c (fM (qg x.cs c))) ht y j
  have tZ:∀j,fg z j=fg x j:=fun j=>by rw [<-hz];exact(ka (x:=fZ x c (fM (qg x.cs c))) ht y j).trans (by rw [ai0];exact aS (fg x) t j)
  have vf:∀j,cJ z j=aQ (cJ x) t y.lk j:=fun j=>by rw [<-hz];exact j6 (x:=fZ x c (fM (qg x.cs c))) ht y j
  have e1:z.cs=x.cs.set c (fM (qg x.cs c)):=by rw [<-hz];rfl
  have e2:z.lk=x.lk:=by rw [<-hz];rfl
  have e3:z.ev=x.ev++ [⟨x.now,kd,t,-1,c⟩] :=by rw [<-hz]
  have e4:z.now=x.now:=by rw [<-hz];rfl
  have e5:z.s=x.s:=by rw [<-hz];rfl
  refine ⟨⟨?_,?_⟩,?_,?_⟩
  · rw [hlen,e1]
    have q:=h.q.q.back hc hI.ci om;rw [show (qg x.cs c).cur.toNat=t by omega] at q;exact q.ext (hI.ci.back hc) (fun j _=>gS j) (fun j _=>tZ j)
  · rw [hlen,e2]
    exact((h.q.l.TX (t:=t) (s:=1) (by decide) (h.q.X6 (by rw [h2];decide)) (fun q=>by cases q) y.lk).ext hI.Te (fun j _=>gS j) (fun j _=>vf j)).mono (fun j _ _ q=>q.1)
  · show PI z.ts z.lk z.s.gs.length z.s.ls
    rw [e2,e5,<-hz];exact PI.set h.p t y hg
  · rw [e3,e4]
    refine hA.eqv ⟨hlen.symm,by show x.lk.length=z.lk.length;rw [e2],by show x.s.cr=z.s.cr;rw [e5],fun j _=>by show (gL x j).sh=(gL z j).sh;unfold gL;rw [e2],fun j _=>(gS j).symm,fun j _ q4=>?_,fun j _=>?_,fun j _ g=>by show g∈(gL x j).ho↔g∈(gL z j).ho;unfold gL;rw [e2]⟩
    · have q4:aQ (bY x) t 1 j=4:=q4
      show aQ (cJ x) t (cJ x t) j=cJ z j
      rw [vf]
      by_cases q:t=j
      ·rw [<-q,bD] at q4;cases q4
      ·rw [bu _ _ q,bu _ _ q]
    · show aQ (fg x) t (c:Int) j=fg z j
      rw [tZ,<-G4];exact aS (fg x) t j
section
variable {w0:cR} {k:Nat} {x:aB} (hI:MI k x) (h:MT w0 x)
include hI h
theorem MT.QJ {pr gr we co:Int} (hp:0<=pr/\pr<(x.s.ps.length:Int)) (hg:0<=gr/\gr<(x.s.gs.length:Int)) (hc:0<=co/\co<x.s.cr) (vZ:x.ts.length<64):MT w0 (pk x pr gr we co):=by
  have rR:=hI.QJ pr gr we co hp vZ
  have FD:∀j,gT (pk x pr gr we co) j=if x.ts.length=j then AK x.ts.length pr gr we co else gT x j:=fun j=>by
    show (x.ts++ [_]).getD j default=_
    rw [List.getD_eq_getElem?_getD];rcases Nat.lt_trichotomy j x.ts.length with q|q|q
    ·rw [List.getElem?_append_left q,if_neg om,<-List.getD_eq_getElem?_getD]
    ·rw [List.getElem?_append_right om,if_pos q.symm,q,Nat.sub_self];rfl
    · rw [if_neg om,List.getElem?_eq_none (by rw [List.length_append,List.length_singleton];omega)]
      unfold gT;rw [List.getD_eq_getElem?_getD,List.getElem?_eq_none om]
  have gS:∀j,bY (pk x pr gr we co) j=aQ (bY x) x.ts.length 1 j:=fun j=>by show (gT _ j).st=_;rw [FD];unfold aQ;split<;>rfl
  have tZ:∀j,fg (pk x pr gr we co) j=aQ (fg x) x.ts.length co j:=fun j=>by show (gT _ j).co=_;rw [FD];unfold aQ;split<;>rfl
  have vf:∀j,j<x.ts.length->cJ (pk x pr gr we co) j=cJ x j:=fun j hj=>by show (gT _ j).lk=_;rw [FD,if_neg om]
  have hlen:(pk x pr gr we co).ts.length=x.ts.length+1:=by show (x.ts++ [_]).length=_;rw [List.length_append];rfl
  have PU:=rR.ci;rw [hlen] at PU;have eK:∀l,l<x.lk.length->iR (iz x.ts.length) (qg x.lk l):=hI.Te;refine ⟨⟨?_,?_⟩,PI.snoc h.p _ hg rfl,?_⟩
  ·rw [hlen];exact(h.q.q.new hI.ci (co0:=co) 0#64 we).ext PU (fun j _=>gS j) (fun j _=>tZ j)
  · rw [hlen]
    refine ⟨fun l hl y hy=>?_,fun t ht h4 _=>?_,fun l hl g hg=>?_⟩
    · have:=(eK l hl).wt y hy;unfold iz at this
      rw [gS,vf _ om,bu _ _ om];exact h.q.l.wt l hl y hy
    · rw [gS] at h4
      by_cases e:x.ts.length=t
      ·rw [<-e,bD] at h4;cases h4
      ·rw [bu _ _ e] at h4;rw [vf t om];exact h.q.l.s4 t om h4 (fun q=>q)
    · have:=(eK l hl).ho g hg;unfold iz at this
      rw [gS,bu _ _ om];exact h.q.l.h5 l hl g hg
  · have hA:=h.a.spawn (co:=co) (by exact vZ) hc
    refine hA.eqv ⟨hlen.symm,rfl,rfl,fun _ _=>rfl,fun j _=>(gS j).symm,fun j hj q4=>?_,fun j _=>(tZ j).symm,fun _ _ _=>Iff.rfl⟩;have q4:aQ (bY x) x.ts.length 1 j=4:=q4;have hj:j<x.ts.length+1:=hj
    by_cases e:x.ts.length=j
    ·rw [<-e,bD] at q4;cases q4
    ·exact(vf j om).symm
theorem MT.eF {t c:Nat} (ht:t<x.ts.length) (hc:c<x.cs.length) (mO:(qg x.cs c).cur=(t:Int)) (h2:bY x t=2) {o:bO} (ho:Lb x.s o) (hp:OpQ x.s o):MT w0 (eF x t c o).1:=by
  have G4:=MT.core hI h hc mO;have kK:bN x.cs t=c:=hI.ci.wf.at hc (by have q:=(hI.ci.wf.wf c hc).ix (show 0<=(qg x.cs c).cur by omega);rw [mO] at q;exact q);have B6:bN x.cs t<x.cs.length:=by rw [kK];exact hc
  have hI':=hI.eF (t:=t) (c:=c) ht hc B6 ho;have tF:=hI.ll
  by_cases h1:o.k=1
  · rw [Zm h1]
    have hq:=hI.cmp ht (ho.c h1);have re:MT w0 (bR x t (Gz (gT x t) o.a)):=MT.up hI h ht rfl rfl rfl rfl;have jY:MT w0 (zx x t o.a):=re.WT (fun L=>jt L t) (fun L=>CG L t) (fun L=>W4 L t);have hl:t<(zx x t o.a).ts.length:=by rw [show (zx x t o.a).ts.length=x.ts.length from aW ..];exact ht
    show MT w0 (oW x t o.a)
    unfold oW;split
    ·exact MT.inc (hI.zx ht (ho.c h1)) jY hl
    ·exact jY
  by_cases uB:2<=o.k/\o.k<=5
  ·rw [AE uB];exact MT.UF hI h ht h2 ho hp uB
  by_cases h6:o.k=6
  · have hl:=ho.l om
    obtain ⟨l,ft⟩:∃l:Nat,o.a=(l:Nat):=⟨o.a.toNat,(Int.toNat_of_nonneg hl.1).symm⟩
    have eE:l<x.lk.length:=by omega
    have hL:=hI.li l eE;have e1:o.a.toNat=l:=by omega
    by_cases he:kb (gL x o.a.toNat) t≠0
    · rw [Ks h6 he]
      have e7:kb (gL x o.a.toNat) t=7:=by
        unfold kb at he ⊢;split
        ·next q=>rw [if_pos q] at he;exact absurd rfl he
        ·rfl
      exact MT.inc (hI.fX ..) (MT.err h ht h2 (.inl ⟨hl.1,by omega⟩) (.inr (.inl e7))) ht
    · rw [KI h6 he,e1,ft]
      have hh:bj (gL x l) t=true:=by
        rw [e1] at he;unfold kb at he;cases c:bj (gL x l) t with
        |true=>rfl
        |false=>rw [c] at he;exact absurd (by decide) he
      have hs:=cQ l (aY (ba x 5 t l 0) l (dP (gL x l) t)) (dI (gL x l) t);have kq:=((hI.fX 5 t l 0).aY (l:=l) ((hL.yF t).mono (Nat.le_refl _) (Nat.le_succ k))).lV l (hL.i.dI t) (Nat.le_trans (k4 ..) hL.w.w8);have gW:aY (ba x 5 t l 0) l (dP (gL x l) t)=ba (aY x l (dP (gL x l) t)) 5 t l 0:=rfl;rw [<-gW];exact MT.inc kq (MT.lV hI h l eE ht (hL.yF t) hh (oe.yF hh) h2) (by rw [hs.1];exact ht)
  by_cases h7:o.k=7
  · rw [VP h7]
    rw [VP h7] at hI';exact MT.out hI h ht h2 (y:= {gT x t with st:=3,un:=x.now+BitVec.ofInt 64 o.a,pc:=(gT x t).pc+1}) (ev:=x.ev++ [⟨x.now,9,t,-1,o.a⟩]) rfl hI' ⟨show (3:Int)≠2 by decide,show (3:Int)≠4 by decide,show (3:Int)≠5 by decide⟩ rfl rfl (h.a.sleep (t:=t) ht h2 (hp.s h7))
  by_cases h8:o.k=8
  · rw [Y9 h8]
    have q:=hI.tb t ht;exact MT.bak hI h ht hc mO h2 (kd:=10) (.inr rfl) (y:= {gT x t with st:=1,pc:=(gT x t).pc+1}) rfl rfl rfl rfl ⟨q.pr,by have:=q.pc;show 0<=(gT x t).pc+1/\(gT x t).pc+1<=_;omega,q.lf,by have:=q.ti;show 0<=(gT x t).ti/\(gT x t).ti<=_;omega,fun e=>(by cases e),fun e=>absurd (hI.iq c hc t (by rw [<-kK];exact dm B6)) e⟩
  by_cases h9:o.k=9
  · rw [VX h9]
    have h4:=hI.len
    split
    · next e=>
      unfold jE at e;simp only [Bool.and_eq_true,decide_eq_true_eq] at e
      have hg:=h.p.gr t ht;have hce:=hI.ce;exact MT.inc (hI.QJ _ _ _ _ (ho.p h9) e.2) (MT.QJ hI h (ho.p h9) hg ⟨by omega,by omega⟩ e.2) (by show t<(x.ts++ [_]).length;rw [List.length_append];omega)
    ·exact MT.inc (hI.fX ..) (MT.err h ht h2 (.inr ⟨rfl,rfl⟩) (.inl rfl)) ht
  by_cases je:o.k=10
  · rw [I0 je]
    have hT:=MT.up hI h ht (y:= {gT x t with we:=o.a}) rfl rfl rfl rfl;have q:=hI.tb t ht;have hIu:=hI.up ht (y:= {gT x t with we:=o.a}) ⟨q.pr,q.pc,q.lf,q.ti,q.l4,q.un⟩;have Zb:t<(bR x t {gT x t with we:=o.a}).ts.length:=by rw [aW];exact ht
    have h2u:bY (bR x t {gT x t with we:=o.a}) t=2:=by rw [gq ht];exact(bD ..).trans h2
    have hA:=(hT.a.weight (t:=t) Zb h2u (hp.w je)).eqv (u:=ks (bR x t {gT x t with we:=o.a})) ⟨rfl,rfl,rfl,fun _ _=>rfl,fun j _=>?_,fun j _ _=>aS _ _ _,fun j _=>aS _ _ _,fun _ _ _=>Iff.rfl⟩
    ·exact MT.inc (hIu.fX 14 t (-1) o.a) ⟨hT.q.fX ..,hT.p,hA⟩ Zb
    · show aQ (bY (bR x t {gT x t with we:=o.a})) t 2 j=_
      rw [<-h2u];exact aS (bY (bR x t {gT x t with we:=o.a})) t j
  · have hk:=ho.k
    rw [JF om];exact MT.die hI h ht (by rw [h2];decide)
end
def ZE (s:ee):cR:=⟨0#64,[],List.replicate s.ls.length 0#64,List.replicate s.ls.length 0#64,s.ls.map (·.sh),s.cr⟩
theorem Ua (ht:t<x.ts.length) (j:Nat):bY (iP x t) j=bY x j/\fg (iP x t) j=fg x j/\cJ (iP x t) j=cJ x j:=by
  unfold iP;split
  ·exact⟨(gq ht _ j).trans (aS _ _ _),(ka ht _ j).trans (aS _ _ _),(j6 ht _ j).trans (aS _ _ _)⟩
  ·exact⟨rfl,rfl,rfl⟩
theorem MT.pcr (hI:MI k x) (h:MT w0 x) (ht:t<x.ts.length):MT w0 (Go.Eng.iP x t):=by
  unfold Go.Eng.iP;split
  ·exact MT.up hI h ht rfl rfl rfl rfl
  ·exact h
theorem KY (h:MI k x) (ht:t<x.ts.length) {o:bO} (ho:Lb x.s o) (hf:(eF x t c o).2=false):bY (eF x t c o).1 t=bY x t/\fg (eF x t c o).1 t=fg x t:=by
  have hk:=ho.k
  have hp:¬(o.k=1\/o.k=7\/o.k=8\/o.k=11):=fun q=>by
    rcases q with e|e|e|e
    ·rw [Zm e] at hf;cases hf
    ·rw [VP e] at hf;cases hf
    ·rw [Y9 e] at hf;cases hf
    ·rw [JF e] at hf;cases hf
  have inc:∀v:aB,t<v.ts.length->gT v t=gT x t->bY (bh v t) t=bY x t/\fg (bh v t) t=fg x t:=fun v hv e=>by
    have q:=HF hv t;exact⟨q.1.trans (by show (gT v t).st=_;rw [e]),q.2.1.trans (by show (gT v t).co=_;rw [e])⟩
  by_cases uB:2<=o.k/\o.k<=5
  · have hl:=ho.l ⟨uB.1,by omega⟩
    obtain ⟨l,ft⟩:∃l:Nat,o.a=(l:Nat):=⟨o.a.toNat,(Int.toNat_of_nonneg hl.1).symm⟩
    rw [AE uB] at hf ⊢
    by_cases he:cV (gL x l) t (tq x t l o)=0
    ·rw [KM ft he];exact inc _ ht rfl
    · by_cases h2:lG x t o≠0
      ·rw [Ko ft he h2];exact inc _ ht rfl
      ·rw [Fy ft he h2] at hf;cases hf
  by_cases h6:o.k=6
  · have hl:=ho.l om
    by_cases he:kb (gL x o.a.toNat) t≠0
    ·rw [Ks h6 he];exact inc _ ht rfl
    · have hL:=h.li o.a.toNat (by have:=h.ll;omega)
      have ec:∀u∈dI (gL x o.a.toNat) t,u.toNat≠t:=fun u hu q=>by
        have h1:=AP hL.w.toqH hu;have h2:=hL.i.dI t u hu
        unfold iz at h2;omega
      have hg:=qY o.a.toNat (dI (gL x o.a.toNat) t) (ba (aY x o.a.toNat (dP (gL x o.a.toNat) t)) 5 t o.a 0) ec;have hs:=cQ o.a.toNat (ba (aY x o.a.toNat (dP (gL x o.a.toNat) t)) 5 t o.a 0) (dI (gL x o.a.toNat) t);rw [KI h6 he];exact inc _ (by rw [hs.1];exact ht) hg
  by_cases h9:o.k=9
  · rw [VX h9]
    show bY (bh _ t) t=_/\fg (bh _ t) t=_
    split
    ·exact inc _ (by show _<(x.ts++ [_]).length;rw [List.length_append];omega) (by
        show (x.ts++ [_]).getD t default=_
        rw [List.getD_eq_getElem?_getD,List.getElem?_append_left ht,<-List.getD_eq_getElem?_getD])
    ·exact inc _ ht rfl
  have je:o.k=10:=by omega
  rw [I0 je];have Zb:t<(bR x t {gT x t with we:=o.a}).ts.length:=by rw [aW];exact ht
  have q:=HF (x:=ba (bR x t {gT x t with we:=o.a}) 14 t (-1) o.a) Zb t;exact⟨q.1.trans ((gq ht _ t).trans (bD ..)),q.2.1.trans ((ka ht _ t).trans (bD ..))⟩
section
variable {w0:cR} {k:Nat} {x:aB} (hI:MI k x) (h:MT w0 x) {t c:Nat} (ht:t<x.ts.length) (hc:c<x.cs.length) (mO:(qg x.cs c).cur=(t:Int)) (h2:bY x t=2)
include hI h ht hc mO h2
theorem MT.Rn:MT w0 (fb x t c).1/\((fb x t c).2=false->bY (fb x t c).1 t=2/\fg (fb x t c).1 t=(c:Int)):=by
  by_cases hd:((iu x t).xs.length:Int)<=(gT x t).pc/\(iu x t).fv=false
  ·rw [rL hd.1 hd.2];exact⟨MT.die hI h ht (by rw [h2];decide),fun q=>by cases q⟩
  have e:fb x t c=Go.Eng.eF (Go.Eng.iP x t) t c ((iu x t).xs.getD (gT (Go.Eng.iP x t) t).pc.toNat default):=if_neg hd;have zr:=C5 hI ht;have pO:=hI.op ht zr.1;have Ys:=M6 hI.ms (p:=iu x t) (List.mem_of_getElem? (aH default (show (gT x t).pr.toNat<x.s.ps.length by have:=(hI.tb t ht).pr;omega))) zr.1;have hs:=vG (x:=x) (t:=t);have hF:=Ua ht t;have htp:t<(Go.Eng.iP x t).ts.length:=by rw [hs.1];exact ht
  have Tf:Lb (Go.Eng.iP x t).s ((iu x t).xs.getD (gT (Go.Eng.iP x t) t).pc.toNat default):=by rw [hs.2.2.1];exact pO
  rw [e];refine ⟨MT.eF (hI.iP ht) (MT.pcr hI h ht) htp (by rw [hs.2.2.2.2.2.2];exact hc) (by rw [hs.2.2.2.2.2.2];exact mO) (hF.1.trans h2) Tf (by rw [hs.2.2.1];exact Ys),fun q=>?_⟩;have q2:=KY (hI.iP ht) htp Tf q;exact⟨q2.1.trans (hF.1.trans h2),q2.2.trans (hF.2.1.trans (MT.core hI h hc mO))⟩
end
theorem MT.cur {w0:cR} {k:Nat} {x:aB} (hI:MI k x) (h:MT w0 x) {t c:Nat} (ht:t<x.ts.length) (h2:bY x t=2) (tZ:fg x t=(c:Int)):(qg x.cs c).cur=(t:Int):=by
  obtain ⟨d,hd,e⟩:=h.q.q.run t ht h2;have:=MT.core hI h hd e;rw [show c=d by omega];exact e
theorem MT.run {w0:cR} {t c:Nat} :∀{f k:Nat} {x:aB},MI k x->MT w0 x->t<x.ts.length->c<x.cs.length->(qg x.cs c).cur=(t:Int)->bY x t=2->MT w0 (oA t c f x)
  |0,k,x,_,h,_,_,_,_=>h
  |f+1,k,x,hI,h,ht,hc,mO,h2=>by
    have kK:bN x.cs t<x.cs.length:=by
      have:=hI.ci.wf.at (a:=(t:Int)) hc (by have q:=(hI.ci.wf.wf c hc).ix (show 0<=(qg x.cs c).cur by omega);rw [mO] at q;exact q);omega
    obtain ⟨q1,q2⟩:=MT.Rn hI h ht hc mO h2
    unfold oA
    split
    ·exact q1
    · next e=>
      have e:(fb x t c).2=false:=by simpa using e
      obtain ⟨e1,e2,e3,e4⟩:=qi hI ht kK (c:=c) e;obtain ⟨r1,r2⟩:=q2 e;have kq:=hI.Rn ht hc kK;have wT:c<(fb x t c).1.cs.length:=by have a1:=kq.ce;have a2:=hI.ce;rw [e4] at a1;omega
      exact MT.run kq q1 e2 wT (MT.cur kq q1 e2 r1 r2) r1
/-! a tick -/
theorem AV.now {w0:cR} {ev:List kz} {now acy:BitVec 64} {v:Vw} (h:AV w0 ev now v) (hn:now.toNat<=acy.toNat):AV w0 ev acy v:=by
  obtain ⟨w,h1,h2,h3⟩:=h;exact⟨w,h1,Nat.le_trans h2 hn,h3⟩
section
variable {w0:cR} {k:Nat} {x:aB} (hI:MI k x) (h:MT w0 x) {c:Nat} (hc:c<x.cs.length)
include hI h hc
theorem MT.th:MT w0 (th x c):=by
  unfold Go.Eng.th;split
  · next e=>
    obtain ⟨h1,h2,h3⟩:=hI.cur hc (pX e)
    generalize (qg x.cs c).cur.toNat=t at*
    have q:=hI.tb t h2
    have hs:bY x t=2:=by
      have:=h.q.q.cur c hc (pX e);rw [<-h3,Int.toNat_natCast] at this;exact this
    have hu:(gT x t).un=0#64:=by
      have:=hI.iq c hc _ h1;rw [<-h3,Int.toNat_natCast] at this;exact this
    have r:=MT.bak hI h h2 hc h3.symm hs (kd:=3) (.inl rfl) (y:= {gT x t with st:=1}) rfl rfl rfl rfl ⟨q.pr,by have:=q.pc;show 0<=(gT x t).pc/\(gT x t).pc<=_;omega,q.lf,by have:=q.ti;show 0<=(gT x t).ti/\(gT x t).ti<=_;omega,fun e=>(by cases e),fun e=>absurd hu e⟩;rw [<-h3];exact r
  ·exact h
theorem MT.rV:MT w0 (rV x c):=by
  have rR:=hI.rV hc
  unfold Go.Eng.rV at rR ⊢;split
  · next e=>
    rw [if_pos e] at rR;obtain ⟨h0,h1,h2⟩:=v3 (hI.ci.wf.wf c hc) e.1 e.2;have hid:=hI.ci.id c hc _ h1;obtain ⟨t,OU⟩:∃t:Nat,fN (qg x.cs c)=(t:Int):=⟨(fN (qg x.cs c)).toNat,by omega⟩
    rw [h2] at rR ⊢;rw [OU] at h1 hid rR ⊢;rw [Int.toNat_natCast] at rR ⊢;have ht:t<x.ts.length:=by omega
    obtain ⟨g1,g2⟩:=h.q.q.has c hc _ h1;rw [Int.toNat_natCast] at g1 g2
    have hn:∀j,j<x.ts.length->bY x j=2->fg x j≠fg x t:=fun j hj hs q=>by
      have:=MT.cur hI h hj hs (q.trans g1);omega
    have hs:bY x t=1:=g2.resolve_right (fun q=>hn t ht q rfl);have hA:=h.a.aiQ (t:=t) ht hs hn;rw [show (ks x).co t=(c:Int) from g1] at hA
    generalize hz:ba (bR (fZ x c (nP (qg x.cs c) t)) t {gT x t with st:=2}) 2 t (-1) c=z at*
    have hlen:z.ts.length=x.ts.length:=by rw [<-hz];exact aW ..
    have gS:∀j,bY z j=aQ (bY x) t 2 j:=fun j=>by rw [<-hz];exact gq (x:=fZ x c (nP (qg x.cs c) t)) ht {gT x t with st:=2} j
    have tZ:∀j,fg z j=fg x j:=fun j=>by rw [<-hz];exact(ka (x:=fZ x c (nP (qg x.cs c) t)) ht {gT x t with st:=2} j).trans (aS (fg x) t j)
    have vf:∀j,cJ z j=cJ x j:=fun j=>by rw [<-hz];exact(j6 (x:=fZ x c (nP (qg x.cs c) t)) ht {gT x t with st:=2} j).trans (aS (cJ x) t j)
    have e1:z.cs=x.cs.set c (nP (qg x.cs c) t):=by rw [<-hz];rfl
    have e2:z.lk=x.lk:=by rw [<-hz];rfl
    have e3:z.ev=x.ev++ [⟨x.now,2,t,-1,c⟩] :=by rw [<-hz];rfl
    have e4:z.now=x.now:=by rw [<-hz];rfl
    have e5:z.s=x.s:=by rw [<-hz];rfl
    have PU:=rR.ci;rw [hlen,e1] at PU;have hi:=rR.Te;rw [hlen,e2] at hi;refine ⟨⟨?_,?_⟩,?_,?_⟩
    · rw [hlen,e1]
      have q:=h.q.q.pik hc hI.ci e.1 h1 om;rw [Int.toNat_natCast] at q;exact q.ext PU (fun j _=>gS j) (fun j _=>tZ j)
    · rw [hlen,e2]
      exact((h.q.l.TX (t:=t) (s:=2) (by decide) (h.q.X6 (by rw [hs];decide)) (fun q=>by cases q) (cJ x t)).ext hi (fun j _=>gS j) (fun j _=>(vf j).trans (aS (cJ x) t j).symm)).mono (fun j _ _ q=>q.1)
    · show PI z.ts z.lk z.s.gs.length z.s.ls
      rw [e2,e5,<-hz];exact PI.set h.p t _ rfl
    · rw [e3,e4]
      refine hA.eqv ⟨hlen.symm,by show x.lk.length=z.lk.length;rw [e2],by show x.s.cr=z.s.cr;rw [e5],fun j _=>by show (gL x j).sh=(gL z j).sh;unfold gL;rw [e2],fun j _=>(gS j).symm,fun j _ _=>(aS (cJ x) t j).trans (vf j).symm,fun j _=>?_,fun j _ g=>by show g∈(gL x j).ho↔g∈(gL z j).ho;unfold gL;rw [e2]⟩
      show aQ (fg x) t (c:Int) j=fg z j
      rw [tZ,<-g1];exact aS (fg x) t j
  ·exact h
theorem MT.tA:MT w0 (tA x c):=by
  unfold Go.Eng.tA;split
  ·exact⟨⟨h.q.q,h.q.l⟩,h.p,h.a⟩
  · next e=>
    have h0:0<=(qg x.cs c).cur:=by omega
    obtain ⟨h1,h2,h3⟩:=hI.cur hc h0;obtain ⟨Zn,W0,hU3⟩:=hI.zX hc h0
    have hid:(dW (qg x.cs c)).l.map (·.id)=(qg x.cs c).l.map (·.id):=by
      unfold dW;rw [if_pos h0];exact gC h1 (iZ h1).1
    have mO:(dW (qg x.cs c)).cur=(qg x.cs c).cur:=by unfold dW;rw [if_pos h0]
    have hs:bY x (qg x.cs c).cur.toNat=2:=h.q.q.cur c hc h0;have Zt:MT w0 (fZ x c (dW (qg x.cs c))):=⟨⟨Ek hc hid mO h.q.q,h.q.l⟩,h.p,h.a⟩
    have iC:MI (k+1) (fZ x c (dW (qg x.cs c))):=(hI.mono (Nat.le_succ k)).E6 (hI.ci.tick hc) (List.length_set ..) (fun d hd b hb=> .inl ⟨d,hd,jr hc hid hb⟩);have hT2:MT w0 (zX x c):=MT.up iC Zt (t:=(qg x.cs c).cur.toNat) h2 rfl rfl rfl rfl;have iT:c<(zX x c).cs.length:=by show c<(x.cs.set _ _).length;rw [List.length_set];exact hc
    exact MT.run Zn hT2 W0 iT (by show (qg (x.cs.set c _) c).cur=_;rw [bG hc,if_pos rfl,mO];exact h3.symm) ((gq (x:=fZ x c (dW (qg x.cs c))) h2 _ _).trans ((bD ..).trans hs))
end
theorem MT.TC (hI:MI k x) (h:MT w0 x) (hc:c<x.cs.length) (hn:x.now.toNat<18446744073709551615):MT w0 (uy x c):=by
  have Hr:MI k {x with now:=x.now+1#64} := {hI with}
  have h0:MT w0 {x with now:=x.now+1#64} :=⟨⟨h.q.q,h.q.l⟩,h.p,AV.now (show AV w0 x.ev x.now (ks x) from h.a) (by show x.now.toNat<=(x.now+1#64).toNat;rw [BitVec.toNat_add];show _<=(x.now.toNat+1) % _;omega)⟩
  have hl:∀y:aB,∀j,MI j y->y.s=x.s->c<y.cs.length:=fun y j hy e=>by have h1:=hy.ce;have h2:=hI.ce;rw [e] at h1;omega
  have iC:=Hr.th hc;have HY:=hl _ _ iC (qJ ..);have kq:=iC.rV (c:=c) HY;have wT:=hl _ _ kq ((z5 ..).trans (qJ ..));have Vn:=kq.tA (c:=c) wT;exact MT.C0 Vn (MT.tA kq (MT.rV iC (MT.th Hr h0 hc) HY) wT)
theorem R2 (x:aB) (c:Nat):(th x c).now=x.now:=by unfold th;split<;>rfl
theorem Rw (x:aB) (c:Nat):(rV x c).now=x.now:=by unfold rV;split<;>rfl
theorem H4 (t c:Nat):∀(f:Nat) (x:aB),(oA t c f x).now=x.now
  |0,x=>rfl
  |f+1,x=>by unfold oA;split;exact v8 x t c;exact(H4 t c f _).trans (v8 x t c)
theorem Re (x:aB) (c:Nat):(tA x c).now=x.now:=by
  unfold tA;split
  ·rfl
  ·exact H4 ..
theorem S0 (x:aB) (c:Nat):(uy x c).now=x.now+1#64:=((j5 _).2.2.2.1).trans ((Re ..).trans ((Rw ..).trans (R2 ..)))
theorem C8 (hn:x.now.toNat<18446744073709551615):(uy x c).now.toNat=x.now.toNat+1:=by
  rw [S0,BitVec.toNat_add];show (x.now.toNat+1) % _=_;omega
theorem MT.Fw {w0:cR} {k:Nat} {x:aB} (hI:MI k x) (h:MT w0 x) (hn:x.now.toNat<=1048576):∀{n:Nat},n<=x.s.cr.toNat->MT w0 (xh x n)/\(xh x n).now.toNat=x.now.toNat+n
  |0,_=>⟨h,rfl⟩
  |n+1,hle=>by
    obtain ⟨h1,h2⟩:=MT.Fw hI h hn (n:=n) om;have iC:=hI.Fw (n:=n) om;have h4:=hI.len;rw [oT];exact⟨MT.TC iC h1 (by rw [iC.len.1,uK];omega) om,by rw [C8 om];omega⟩
theorem MT.vX {w0:cR} :∀{l:List Nat} {k:Nat} {x:aB},MI k x->MT w0 x->(∀t∈l,t<x.ts.length)->MT w0 (vX x l)
  | [],k,x,_,h,_=>h
  |t::l,k,x,hI,h,ht=>MT.vX (l:=l) (hI.oo (ht t (List.mem_cons_self ..))) (MT.oo hI h (ht t (List.mem_cons_self ..))) (fun u hu=>by rw [(pC x t).1];exact ht u (List.mem_cons_of_mem _ hu))
theorem MT.Ug (hI:MI k x) (h:MT w0 x):MT w0 (vh x):=
  MT.C0 (hI.vX (l:=pq x) (fun t ht=>jf x _ t ht)) (MT.vX hI h (fun t ht=>jf x _ t ht))
theorem Ha (x:aB):(vh x).now=x.now:=((j5 _).2.2.2.1).trans (rI ..).2.2.2
theorem MT.rou (hI:MI k x) (h:MT w0 x) (hn:x.now.toNat<=1048576):MT w0 (AM x)/\(AM x).now.toNat=x.now.toNat+x.s.cr.toNat:=by
  obtain ⟨h1,h2⟩:=MT.Fw hI h hn (Nat.le_refl _);exact⟨MT.Ug (hI.Fw (Nat.le_refl _)) h1,by rw [show (AM x).now=(xh x x.s.cr.toNat).now from Ha _];exact h2⟩
theorem MT.ug {w0:cR} {k:Nat} {x:aB} (hI:MI k x) (h:MT w0 x):∀{n:Nat},x.now.toNat+n*x.s.cr.toNat<=1048576->MT w0 (yk x n)/\(yk x n).now.toNat=x.now.toNat+n*x.s.cr.toNat
  |0,_=>⟨h,by rw [Nat.zero_mul];rfl⟩
  |n+1,hn=>by
    rw [Nat.succ_mul] at hn ⊢;obtain ⟨h1,h2⟩:=MT.ug hI h (n:=n) om;obtain ⟨h3,h4⟩:=MT.rou (hI.ug n) h1 om;exact⟨h3,by rw [show yk x (n+1)=AM (yk x n) from rfl,h4,xn];omega⟩
/-! deeds -/
theorem MT.mig {k':Nat} (hI:MI k x) (h:MT w0 x) {to:Nat} (ha:bN x.cs a<x.cs.length) (ht:to<x.cs.length) (ec:to≠bN x.cs a) (mO:(qg x.cs (bN x.cs a)).cur≠a) (XX:MI k' {x with cs:=ia x.cs a to}):MT w0 (qq {x with cs:=ia x.cs a to} a.toNat to):=by
  obtain ⟨g0,g1⟩:=hI.ids ha;obtain ⟨t,OU⟩:∃t:Nat,a=(t:Int):=⟨a.toNat,by omega⟩
  have zl:t<x.ts.length:=by omega
  obtain ⟨q1,q2⟩:=h.q.q.has _ ha _ (dm ha);have e0:a.toNat=t:=by omega
  rw [e0] at q1 q2 ⊢;have hs:bY x t=1:=q2.resolve_right (fun q=>mO (by rw [OU] at q1 ⊢;exact MT.cur hI h zl q q1));have hce:=hI.ce;have hA:=h.a.ago (t:=t) zl hs (n:=(to:Int)) (by rw [show (ks x).co t=_ from q1];omega) ⟨by omega,by show (to:Int)<x.s.cr;omega⟩;have ads:=h.q.q.car hI.ci ha ht ec mO;rw [e0] at ads
  unfold qq
  have qb:=XX.tb t zl;have rR:=(XX.up (t:=t) zl (y:= {gT ({x with cs:=ia x.cs a to} :aB) t with co:=(to:Int)}) ⟨qb.pr,qb.pc,qb.lf,qb.ti,qb.l4,qb.un⟩).fX 13 t (-1) to;refine MT.C0 rR ?_
  generalize hz:ba (bR {x with cs:=ia x.cs a to} t {gT ({x with cs:=ia x.cs a to} :aB) t with co:=(to:Int)}) 13 t (-1) to=z at*
  have hlen:z.ts.length=x.ts.length:=by rw [<-hz];exact aW ..
  have gS:∀j,bY z j=bY x j:=fun j=>by rw [<-hz];exact(gq (x:= {x with cs:=ia x.cs a to}) zl _ j).trans (aS (bY x) t j)
  have tZ:∀j,fg z j=aQ (fg x) t to j:=fun j=>by rw [<-hz];exact ka (x:= {x with cs:=ia x.cs a to}) zl _ j
  have vf:∀j,cJ z j=cJ x j:=fun j=>by rw [<-hz];exact(j6 (x:= {x with cs:=ia x.cs a to}) zl _ j).trans (aS (cJ x) t j)
  have e1:z.cs=ia x.cs a to:=by rw [<-hz];rfl
  have e2:z.lk=x.lk:=by rw [<-hz];rfl
  have e3:z.ev=x.ev++ [⟨x.now,13,t,-1,to⟩] :=by rw [<-hz];rfl
  have e4:z.now=x.now:=by rw [<-hz];rfl
  have e5:z.s=x.s:=by rw [<-hz];rfl
  have PU:=rR.ci;rw [hlen,e1] at PU;have hi:=rR.Te;rw [hlen,e2] at hi;refine ⟨⟨?_,?_⟩,?_,?_⟩
  ·rw [hlen,e1];exact ads.ext PU (fun j _=>gS j) (fun j _=>tZ j)
  ·rw [hlen,e2];exact h.q.l.ext hi (fun j _=>gS j) (fun j _=>vf j)
  · show PI z.ts z.lk z.s.gs.length z.s.ls
    rw [e2,e5,<-hz];exact PI.set h.p t _ rfl
  · rw [e3,e4]
    exact hA.eqv ⟨hlen.symm,by show x.lk.length=z.lk.length;rw [e2],by show x.s.cr=z.s.cr;rw [e5],fun j _=>by show (gL x j).sh=(gL z j).sh;unfold gL;rw [e2],fun j _=>(by rw [<-hs];exact aS (bY x) t j:aQ (bY x) t 1 j=bY x j).trans (gS j).symm,fun j _ _=>(aS (cJ x) t j).trans (vf j).symm,fun j _=>(tZ j).symm,fun j _ g=>by show g∈(gL x j).ho↔g∈(gL z j).ho;unfold gL;rw [e2]⟩
theorem MT.ajn (hI:MI k x) (h:MT w0 x) (he:fy x.cs co a=0):MT w0 (qq {x with cs:=jB x.cs co a} a.toNat co):=by
  obtain ⟨h1,h2,h3,h4,h5⟩:=Du he
  have mO:(qg x.cs (bN x.cs a)).cur≠a:=fun q=>by
    unfold fy at he
    rw [if_neg om,if_neg om,if_neg om,if_pos q] at he;cases he
  have hX:jB x.cs co a=ia x.cs a co.toNat:=if_pos he;have XX:=hI.Z8 co a;rw [hX] at XX ⊢;have:=MT.mig hI h h1 h2 h4 mO XX;rw [h5] at this;exact this
theorem MT.aff (hI:MI k x) (h:MT w0 x) (hb:¬gj x.cs<0):MT w0 (qq {x with cs:=jI x.cs} (gj x.cs).toNat (uc x.cs)):=by
  have Zo:=hI.ZR
  have key:∀t,vk x.cs=some t->MT w0 (qq {x with cs:=ia x.cs t.id (le x.cs)} t.id.toNat (le x.cs:Nat)):=fun t e=>by
    obtain ⟨h1,h2,h3,h4,h5,h6,h7⟩:=jX hI.ci.wf e;have hX:jI x.cs=ia x.cs t.id (le x.cs):=by unfold jI;rw [e]
    rw [hX] at Zo;exact MT.mig hI h (by rw [h4];exact h5) h6 h7 (by rw [h4];exact fun q=>h2 q.symm) Zo
  cases e:vk x.cs with
  |none=>exact absurd (by unfold gj;rw [e];decide) hb
  |some t=>
    have:=key t e;rw [show jI x.cs=ia x.cs t.id (le x.cs) by unfold jI;rw [e],show gj x.cs=t.id by unfold gj;rw [e],show uc x.cs=(le x.cs:Nat) by unfold uc;rw [e]];exact this
theorem zo (hc:1<=x.s.cr/\x.s.cr<=4) (g1:¬(a<0\/200<a)) (g2:¬1048576<(x.now+BitVec.ofInt 64 (a*x.s.cr)).toNat) (hn:x.now.toNat<=1048576):x.now.toNat+a.toNat*x.s.cr.toNat<=1048576:=by
  obtain ⟨n,K3⟩:∃n:Nat,a=(n:Int):=⟨a.toNat,by omega⟩
  obtain ⟨c,hcc⟩:∃c:Nat,x.s.cr=(c:Int):=⟨x.s.cr.toNat,by omega⟩
  rw [K3,hcc] at g2 ⊢;rw [Int.toNat_natCast,Int.toNat_natCast];have hb:n*c<=800:=Nat.le_trans (Nat.mul_le_mul (show n<=200 by omega) (show c<=4 by omega)) (by decide);rw [<-Int.natCast_mul,BitVec.ofInt_natCast,BitVec.toNat_add,BitVec.toNat_ofNat] at g2
  generalize n*c=m at*
  have e1:m % 2 ^ 64=m:=Nat.mod_eq_of_lt (Nat.lt_of_le_of_lt hb (by decide));rw [e1] at g2;have e2:(x.now.toNat+m) % 2 ^ 64=x.now.toNat+m:=Nat.mod_eq_of_lt (Nat.lt_of_le_of_lt (Nat.add_le_add hn hb) (by decide));rw [e2] at g2;omega
theorem MF {s:ee} {d:Qy} (h:dt s=true) (hs:(oU d s.gs).sh=false):s.gs.length<=(oU d s.gs).ld.l.length:=by
  show _<=(lU (tQ d s.gs) _ _).l.length
  have hs:d.sh=false:=hs;have hg:=IG h;rw [k9];unfold tQ;rw [hs,if_neg (by decide)];unfold TG;rw [if_neg (by rw [List.length_take];omega),List.length_take];omega
structure MW (w0:cR) (k:Nat) (x:aB):Prop where
  i:MI k x
  t:MT w0 x
  n:x.now.toNat<=1048576
theorem Cr (n l:Nat):(List.replicate n 0#64).getD l 0#64=0#64:=by
  rw [List.getD_eq_getElem?_getD,List.getElem?_replicate];split<;>rfl
theorem MW.new {s:ee} (h:dt s=true):MW (ZE s) 0 (fH s):=by
  have hI:=MI.new h;have eE:(fH s).lk.length=s.ls.length:=hI.ll
  have tF:∀l,l<s.ls.length->gL (fH s) l=oU ⟨(s.ls.getD l default).sh,(s.ls.getD l default).sl,(s.ls.getD l default).cr,(s.ls.getD l default).rd,(s.ls.getD l default).wr⟩ s.gs:=fun l hl=>by
    show (s.ls.map _).getD l default=_
    rw [List.getD_eq_getElem?_getD,List.getElem?_map,List.getElem?_eq_getElem hl,List.getD_eq_getElem?_getD,List.getElem?_eq_getElem hl];rfl
  have iT:∀c,c<(fH s).cs.length->qg (fH s).cs c=xY s.gr:=fun c hc=>by
    have wT:c<(aF s.cr 1 4).toNat:=by rw [<-e9 s.cr s.gr];exact hc
    exact ud wT
  refine ⟨hI,⟨⟨⟨fun c hc a ha=>?_,fun c hc h0=>?_,fun t ht _=>absurd ht (Nat.not_lt_zero t)⟩,⟨fun l hl y hy=>?_,fun t ht _ _=>absurd ht (Nat.not_lt_zero t),fun l hl g hg=>?_⟩⟩,⟨fun t ht=>absurd ht (Nat.not_lt_zero t),fun l hl hs=>?_,fun l hl=>?_,fun t ht=>absurd ht (Nat.not_lt_zero t)⟩,?_⟩,by show (0#64).toNat<=_;decide⟩
  ·rw [iT c hc] at ha;exact absurd ha (wb _ _)
  ·rw [iT c hc] at h0;exact absurd h0 (by show¬(0:Int)<=-1;decide)
  ·rw [eE] at hl;rw [show qg (fH s).lk l=gL (fH s) l from rfl,tF l hl] at hy;cases hy
  ·rw [eE] at hl;rw [show qg (fH s).lk l=gL (fH s) l from rfl,tF l hl] at hg;cases hg
  · rw [eE] at hl
    show s.gs.length<=(gL (fH s) l).ld.l.length
    have hs:(gL (fH s) l).sh=false:=hs;rw [tF l hl] at hs ⊢;exact MF h hs
  · rw [eE] at hl
    show (gL (fH s) l).sh=_
    rw [tF l hl];rfl
  · refine ⟨ZE s,.nil,Nat.le_refl _,rfl,Nat.zero_le _,fun t ht=>absurd ht (Nat.not_lt_zero t),fun t ht=>absurd ht (Nat.not_lt_zero t),fun t ht _=>absurd ht (Nat.not_lt_zero t),?_,?_,?_,fun l hl=>?_,rfl,fun l hl g hg=>?_,fun l hl q=>?_,fun l hl q=>?_⟩
    ·show (s.ls.map _).length=(fH s).lk.length;rw [List.length_map,eE]
    ·show (List.replicate _ _).length=(fH s).lk.length;rw [List.length_replicate,eE]
    ·show (List.replicate _ _).length=(fH s).lk.length;rw [List.length_replicate,eE]
    · have mL:l<s.ls.length:=by rw [<-eE];exact hl
      show (s.ls.map (·.sh)).getD l false=(gL (fH s) l).sh
      rw [tF l mL,List.getD_eq_getElem?_getD,List.getElem?_map,List.getElem?_eq_getElem mL,List.getD_eq_getElem?_getD,List.getElem?_eq_getElem mL];rfl
    · have mL:l<s.ls.length:=by rw [<-eE];exact hl
      rw [show (ks (fH s)).hs l=(gL (fH s) l).ho from rfl,tF l mL] at hg;cases hg
    · have mL:l<s.ls.length:=by rw [<-eE];exact hl
      rw [show (ks (fH s)).hs l=(gL (fH s) l).ho from rfl,tF l mL,show xf (ZE s) l=0#64 from Cr _ _,bC];exact⟨fun q=>(by cases q),fun ⟨g,hg,_⟩=>(by cases hg)⟩
    · have mL:l<s.ls.length:=by rw [<-eE];exact hl
      rw [show (ks (fH s)).hs l=(gL (fH s) l).ho from rfl,tF l mL,show xu (ZE s) l=0#64 from Cr _ _,bC];exact⟨fun q=>(by cases q),fun ⟨g,hg,_⟩=>(by cases hg)⟩
theorem MW.mdo {w0:cR} {k:Nat} {x:aB} (h:MW w0 k x) (a:Act):MW w0 (k+30000000) (ji x a):=by
  have hI:=h.i;have hT:=h.t;have hn:=h.n;refine ⟨hI.mdo a,?_,?_⟩<;>clear h
  all_goals
    by_cases he:dd x a≠0
    ·rw [eO he];assumption
    have he:dd x a=0:=Classical.byContradiction he;have hv:¬50000<=x.ev.length:=fun q=>by unfold dd at he;rw [if_pos q] at he;cases he
    by_cases e1:a.k=1
    · rw [Wg hv e1] at he
      have g1:¬(a.a<0\/x.s.cr<=a.a):=fun q=>by rw [if_pos q] at he;cases he
      rw [if_neg g1] at he;have g2:¬1048576<=x.now.toNat:=fun q=>by rw [if_pos q] at he;cases he
      rw [if_neg g2] at he;rw [dx1 (by rw [Wg hv e1,if_neg g1,if_neg g2]) e1]
      first
      |exact MT.TC hI hT (by have:=hI.ce;omega) om
      |(rw [C8 om];omega)
    by_cases e2:a.k=2
    · rw [dx2 he e2]
      first
      |exact MT.Ug hI hT
      |(rw [Ha];exact hn)
    by_cases e3:a.k=3
    · rw [dx3 he e3]
      rw [do3 hv e3] at he;have g1:¬gj x.cs<0:=fun q=>by rw [if_pos q] at he;cases he
      first
      |exact MT.aff hI hT g1
      |(rw [show (qq {x with cs:=jI x.cs} (gj x.cs).toNat (uc x.cs)).now=x.now from (j5 _).2.2.2.1];exact hn)
    by_cases e4:a.k=4
    · rw [dx4 he e4]
      rw [do4 hv e4] at he;have g1:¬(a.a<0\/(x.s.ps.length:Int)<=a.a\/a.b<0\/(x.gp.length:Int)<=a.b\/a.c<1\/16<a.c\/a.d<0\/x.s.cr<=a.d):=fun q=>by rw [if_pos q] at he;cases he
      rw [if_neg g1] at he
      have g2:jE x=true:=by
        cases q:jE x with
        |true=>rfl
        |false=>rw [q] at he;cases he
      unfold jE at g2;simp only [Bool.and_eq_true,decide_eq_true_eq] at g2
      have yD:=hI.gn
      first
      |exact MT.C0 (hI.QJ _ _ _ _ om g2.2) (MT.QJ hI hT om om om g2.2)
      |(rw [show (ki (pk x a.a a.b a.c a.d)).now=x.now from (j5 _).2.2.2.1];exact hn)
    by_cases e5:a.k=5
    · rw [dx5 he e5]
      rw [do5 hv e5] at he;have g1:¬(a.a<0\/(x.ts.length:Int)<=a.a):=fun q=>by rw [if_pos q] at he;cases he
      rw [if_neg g1] at he;have g2:¬(gT x a.a.toNat).st=5:=fun q=>by rw [if_pos q] at he;cases he
      have ht:a.a.toNat<x.ts.length:=by omega
      first
      |exact MT.C0 (hI.die ht) (MT.die hI hT ht g2)
      |(rw [show (ki (ku x a.a.toNat)).now=x.now from (j5 _).2.2.2.1.trans (k6 _ _).2.2.2];exact hn)
    by_cases e6:a.k=6
    · rw [dx6 he e6]
      first
      |exact hn
      |exact⟨(hT.WT (fun L=>iU L a.a a.b) (fun L=>rS L _ _) (fun L=>GV L _ _)).q |> fun q=>⟨q.q,q.l⟩,(hT.WT (fun L=>iU L a.a a.b) (fun L=>rS L _ _) (fun L=>GV L _ _)).p,(hT.WT (fun L=>iU L a.a a.b) (fun L=>rS L _ _) (fun L=>GV L _ _)).a⟩
    by_cases e7:a.k=7
    · rw [dx7 he e7]
      rw [do7 hv e7] at he
      first
      |exact MT.ajn hI hT he
      |(rw [show (qq {x with cs:=jB x.cs a.b a.a} a.a.toNat a.b).now=x.now from (j5 _).2.2.2.1];exact hn)
    by_cases e8:a.k=8
    · rw [dx8 he e8]
      rw [do8 hv e8] at he;have g1:¬(a.a<0\/200<a.a):=fun q=>by rw [if_pos q] at he;cases he
      rw [if_neg g1] at he;have g2:¬1048576<(x.now+BitVec.ofInt 64 (a.a*x.s.cr)).toNat:=fun q=>by rw [if_pos q] at he;cases he
      have YT:=te hI.ms;have hb:=zo (x:=x) YT g1 g2 hn
      first
      |exact(MT.ug hI hT hb).1
      |(rw [(MT.ug hI hT hb).2];exact hb)
    ·rw [do0 hv om] at he;cases he
structure Ev where
  time:BitVec 64
  kind:Int
  task:Int
  lock:Int
  n:Int
structure St where
  task:Int
  lock:Int
  ZJ:BitVec 64
  to:BitVec 64
  fin:Int
  read:Bool
deriving DecidableEq
end Go.Eng
namespace Go.Eng
open Go Go.RowKit
variable {left s:BitVec 64} {G:Gr} {a co:Int} {cI told:List Hd} {to:List Int} {xs:List bO} {c i k l n pc t:Nat} {x:aB} {L:bf} {w w0:cR}
instance:Inhabited St:=⟨⟨0,0,0#64,0#64,0,false⟩⟩
instance:Inhabited Ev:=⟨⟨0#64,0,0,0,0⟩⟩
/-! ### A map of own slices -/
def ady (E n0:Nat) (K:Int->List Int):List (Int×Value)->ab->Prop
  | [],m=>m=[]
  |(t,v)::l,m=>∃m1 m2,m=m1++m2/\Sl fI E 1 n0 (K t) v m1/\ady E n0 K l m2
structure Own (E n0:Nat) (K:Int->List Int) (l:List (Int×Value)) (m:ab):Prop where
  nd:(l.map (·.1)).Nodup
  own:ady E n0 K l m
  non:∀t,ahq l t=none->K t=[]
end Go.Eng
namespace Go.Eng
open Go Go.RowKit
variable {left s:BitVec 64} {G:Gr} {a co:Int} {cI told:List Hd} {to:List Int} {xs:List bO} {c i k l n pc t:Nat} {x:aB} {L:bf} {w w0:cR}
/-! what an event that may come does -/
structure amj (w u:cR):Prop where
  rd:u.rd=w.rd
  wr:u.wr=w.wr
  sh:u.sh=w.sh
structure WK (w:cR):Prop where
  n:w.ts.length<=64
  rl:w.rd.length=w.sh.length
  wl:w.wr.length=w.sh.length
/-! holds -/
def hR (a b:St):Prop:=(a.lock=b.lock->a.task≠b.task->(a.read&&b.read)=false->a.fin≠0/\a.to.toNat<=b.ZJ.toNat)/\(a.fin=0->b.fin=0->¬(a.task=b.task/\a.lock=b.lock))
structure HI (w:cR) (out:List St):Prop where
  k:WK w
  op:∀s∈out,s.fin=0->0<=s.task/\s.task<64/\0<=s.lock/\s.lock<(w.sh.length:Int)/\(if s.read=true then aq (xf w s.lock.toNat) s.task=true else aq (xu w s.lock.toNat) s.task=true)
  al:∀(l:Nat) (t:Int),l<w.sh.length->vn w t l=true->∃s∈out,s.fin=0/\s.task=t/\s.lock=(l:Int)
  tm:∀s∈out,s.ZJ.toNat<=w.now.toNat/\(s.fin≠0->s.ZJ.toNat<=s.to.toNat/\s.to.toNat<=w.now.toNat)
  pw:out.Pairwise hR
structure Bec (T T':zm) (e:kz):Prop where
  a:T.how=4->((e.k=4\/e.k=8)/\e.l=T.lock/\T'.how≠4)\/(e.k=11/\T'.how≠4)\/(e.k=12/\T'=T)
  b:T.how≠4->(e.k=6/\T'.how=4/\T'.lock=e.l)\/(e.k≠6/\T'.how≠4)
/-! waits -/
def wtR (a b:St):Prop:=a.fin=0->b.fin=0->a.task≠b.task
structure WI (w:cR) (out:List St):Prop where
  op:∀s∈out,s.fin=0->0<=s.task/\s.task.toNat<w.ts.length/\(dN w s.task.toNat).how=4/\(dN w s.task.toNat).lock=s.lock/\0<=s.lock/\s.lock<(w.sh.length:Int)
  al:∀t:Nat,t<w.ts.length->(dN w t).how=4->∃s∈out,s.fin=0/\s.task=(t:Int)
  tm:∀s∈out,s.ZJ.toNat<=w.now.toNat/\(s.fin≠0->s.ZJ.toNat<=s.to.toNat/\s.to.toNat<=w.now.toNat)
  pw:out.Pairwise wtR
/-! counting -/
def abS (f:Nat->Nat):Nat->Nat
  |0=>0
  |n+1=>abS f n+f n
def opN (l:List St):Nat:=(l.filter (fun s=>decide (s.fin=0))).length
structure Sfe (x:aB) (on:bf->Int->Bool) (f:Nat->List Int) (l:List St):Prop where
  op:∀s∈l,s.fin=0->0<=s.lock/\s.lock<(x.lk.length:Int)/\on (gL x s.lock.toNat) s.task=true
  tm:∀s∈l,s.fin≠0->s.ZJ.toNat<=s.to.toNat
  n:opN l=abS (fun j=>(f j).length) x.lk.length
section
variable {k:Nat} {s:ee} {x:aB} (h:MW (ZE s) k x)
include h
end
/-! deeds one behind the other -/
def IL (x:aB) (l:List Act) (i:Nat):aB:=(l.take i).foldl ji x
theorem DO {l:List Act} (h:i<l.length):IL x l (i+1)=ji (IL x l i) (l.getD i default):=by
  unfold IL;rw [bQ default h,List.foldl_append];rfl
end Go.Eng
namespace Go.Eng
open Go Go.Proofs Go.RowKit Go.ChangeShapes Go.WideShapes
variable {left s:BitVec 64} {G:Gr} {a co:Int} {cI told:List Hd} {to:List Int} {xs:List bO} {c i k l n pc t:Nat} {x:aB} {L:bf} {w w0:cR}
theorem DC:Rdb Tryz.prog 39 fA (fun a=>(-9223372036854775808<=a.k/\a.k<=9223372036854775807)/\(-9223372036854775808<=a.a/\a.a<=9223372036854775807)/\(-9223372036854775808<=a.b/\a.b<=9223372036854775807)/\(-9223372036854775808<=a.c/\a.c<=9223372036854775807)/\(-9223372036854775808<=a.d/\a.d<=9223372036854775807)):=fun {H enc w base sp held fuel cs x} h=>by
  obtain ⟨h1,h2⟩:=u7 Tryz.underlying39 h;rw [show Tryz.prog.cellsOf 39=5 by kernel_rfl] at h1;have c3:Tryz.prog.cellsOf 3=1:=by kernel_rfl
  match cs,h1 with
  | [a0,a1,a2,a3,a4],_=>
    simp only [List.forall_mem_cons,c3,List.drop_succ_cons,List.drop_zero,List.take_succ_cons,List.take_zero] at h2;obtain ⟨⟨_,_,f0⟩,⟨_,_,f1⟩,⟨_,_,f2⟩,⟨_,_,f3⟩,⟨_,_,f4⟩,_⟩:=h2;obtain ⟨m0,e0,_,w0⟩:=DataW.trod_int Tryz.underlying3 f0;obtain ⟨m1,e1,_,w1⟩:=DataW.trod_int Tryz.underlying3 f1;obtain ⟨m2,e2,_,w2⟩:=DataW.trod_int Tryz.underlying3 f2;obtain ⟨m3,e3,_,w3⟩:=DataW.trod_int Tryz.underlying3 f3;obtain ⟨m4,e4,_,w4⟩:=DataW.trod_int Tryz.underlying3 f4;simp only [List.cons.injEq,and_true] at e0 e1 e2 e3 e4;subst e0;subst e1;subst e2;subst e3;subst e4;exact⟨⟨m0,m1,m2,m3,m4⟩,rfl,⟨bounds_i64 w0,bounds_i64 w1,bounds_i64 w2,bounds_i64 w3,bounds_i64 w4⟩⟩
theorem Kx {H:Type} {enc:TypeId×Value->H} {w:World} {base:Nat} {sp:Nat->Bool} {held:Bool} {r:Reach} {b0:Nat} {v:Value} {d:DataW H} {ps:List MemPlace}
    (FU:Value.okWide Tryz.prog w r b0 24 v) (h:DataW.Trod enc Tryz.prog w base sp held 24 v d ps):
    ∃(t:List UInt8) (xs:List Act) (ad:Option Addr) (cap:Nat),v= .agg #[vS t,.slice ad xs.length cap]/\Sr fA 5 xs (.slice ad xs.length cap) w:=by
  obtain ⟨fuel,h⟩:=h
  obtain ⟨cs,rfl⟩:∃cs,v= .agg cs:=by
    simp only [Value.okWide,Tryz.underlying24] at FU;obtain ⟨cs,h1,_⟩:=FU;exact⟨cs,h1⟩
  obtain ⟨h1,h2⟩:=u7 Tryz.underlying24 h;rw [show Tryz.prog.cellsOf 24=2 by kernel_rfl] at h1;have c0:Tryz.prog.cellsOf 9=1:=by kernel_rfl
  have c1:Tryz.prog.cellsOf 22=1:=by kernel_rfl
  have vH:(Value.agg cs).cells.toList=cs.toList:=rfl;rw [vH] at h1 h2;obtain ⟨l⟩:=cs
  match l,h1 with
  | [a0,a1],_=>
    simp only [List.forall_mem_cons,c0,c1,List.drop_succ_cons,List.drop_zero,List.take_succ_cons,List.take_zero] at h2;obtain ⟨⟨_,_,f0⟩,⟨n1,y1,f1⟩,_⟩:=h2;obtain ⟨m0,e0,_⟩:=DataW.trod_string Tryz.underlying9 f0;simp only [List.cons.injEq,and_true] at e0;subst e0
    obtain ⟨ad,len,cap,rfl⟩:∃ad len cap,a1= .slice ad len cap:=by
      rcases DataW.trod_slice Tryz.underlying22 f1 with ⟨h0,_⟩|⟨a,l,c,elems,rest,n,_,h0,_⟩
      ·simp at h0;exact⟨_,_,_,h0⟩
      ·simp at h0;exact⟨_,_,_,h0⟩
    obtain ⟨d1,p1⟩:=y1;obtain ⟨xs,rfl,h3,_,h4⟩:=S3 (s:=5) (H:=H) (enc:=enc) (ad:=ad) (len:=len) (cap:=cap) (d:=d1) (ps:=p1) Tryz.underlying22 DC kr (by decide) (fun _=>rfl) ⟨n1,f1⟩;obtain ⟨t,rfl⟩:∃x:List UInt8,m0=bs x:=⟨_,aan m0⟩
    exact⟨t,xs,ad,cap,rfl,h3⟩
end Go.Eng
namespace Go.Eng
open Go Go.RowKit
variable {left s:BitVec 64} {G:Gr} {a co:Int} {cI told:List Hd} {to:List Int} {xs:List bO} {c i k l n pc t:Nat} {x:aB} {L:bf} {w w0:cR}
def TP (G:Gr):Prop:=∀i k:Nat,aq (ot G i) k=true->k<G.length
theorem TP.rch (h:TP G) (hr:iD G (ot G i) k):k<G.length:=by
  cases hr with
  |base hb=>exact h _ _ hb
  |step _ hb=>exact h _ _ hb
theorem Wv (h:G.length<=i):ot G i=0#64:=by
  unfold ot;rw [List.getD_eq_getElem?_getD,List.getElem?_eq_none h];rfl
theorem Hi (h:aq (ot G i) k=true):i<G.length:=by
  apply Classical.byContradiction;intro hn
  rw [Wv om,bC] at h;cases h
theorem Ae (hr:iD G (ot G i) k):i<G.length:=by
  induction hr with
  |base hb=>exact Hi hb
  |step _ _ ih=>exact ih
def wx (G:Gr):Bool:=(List.range G.length).all (fun (i:Nat)=> !aq (iH G (ot G i)) (i:Nat))
theorem lJ (G:Gr):wx G=true↔jT G:=by
  unfold wx jT
  rw [List.all_eq_true]
  constructor
  · intro h i hr
    have:=h i (List.mem_range.2 (Ae hr));rw [(eg G _ i).2 hr] at this;cases this
  · intro h i _
    cases hb:aq (iH G (ot G i)) (i:Nat)
    ·rfl
    ·exact absurd ((eg G _ i).1 hb) (h i)
theorem Rz (h:¬jT G):wx G=false:=by
  cases hb:wx G
  ·rfl
  ·exact absurd ((lJ G).1 hb) h
/-! put one by one into a graph -/
def yH (G:Gr) (k:Nat):Gr:=(List.range k).foldl (fun H (i:Nat)=>qt H (i:Nat) (ot G i)) kk
theorem pP (G:Gr) (k:Nat):yH G (k+1)=qt (yH G k) (k:Nat) (ot G k):=by
  unfold yH;rw [List.range_succ,List.foldl_append];rfl
theorem w5 (G:Gr) (k:Nat):(yH G k).length=64:=by
  induction k with
  |zero=>exact zS
  |succ k ih=>rw [pP];exact sw ih _ _
theorem P3 (G:Gr) (k:Nat):jT (yH G k):=by
  induction k with
  |zero=>exact B5
  |succ k ih=>rw [pP];exact HQ (w5 G k) ih _ _
def Tc (G:Gr) (k:Nat):Prop:=∀j,j<k->vY (yH G j) (j:Nat) (ot G j)=0
theorem Tc.get (h:Tc G k) (hk:k<=64) (j:Nat):ot (yH G k) j=if j<k then ot G j else 0#64:=by
  induction k with
  |zero=>rw [if_neg om];exact sJ j
  |succ k ih=>
    have he:=h k om;rw [pP];unfold qt;rw [if_pos he,Int.toNat_natCast,jA (w5 G k) om]
    by_cases e:j=k
    ·subst e;rw [if_pos rfl,if_pos om]
    · rw [if_neg e,ih (fun j hj=>h j om) om]
      by_cases e2:j<k
      ·rw [if_pos e2,if_pos om]
      ·rw [if_neg e2,if_neg om]
theorem Tc.le (h:Tc G k) (hk:k<=64):GLe (yH G k) G:=fun j i hb=>by
  rw [h.get hk] at hb
  split at hb
  ·exact hb
  ·rw [bC] at hb;cases hb
theorem Tc.bad (h:Tc G k) (hk:k<64) (hb:vY (yH G k) (k:Nat) (ot G k)≠0):¬jT G:=by
  intro hA
  unfold vY at hb
  rw [if_pos (g8.2 ⟨by omega,by omega⟩)] at hb
  split at hb
  · rename_i hq
    have hr:=(eg _ _ _).1 hq;exact hA k (hr.mono (h.le om) (fun _ h=>h))
  ·exact hb rfl
theorem Tc.aii (h:Tc G G.length) (hk:G.length<=64):jT G:=by
  have hA:=P3 G G.length;intro i hr;refine hA i (?_:iD _ _ _);have e:=h.get hk i;rw [if_pos (Ae hr)] at e;rw [e];exact hr.mono (fun j k hb=>by rw [h.get hk,if_pos (Hi hb)];exact hb) (fun _ h=>h)
/-! all that is come to: the worklist -/
structure RX (G:Gr) (s met todo:BitVec 64):Prop where
  sup:∀i:Nat,aq s i=true->aq met i=true\/aq todo i=true
  sound:∀i:Nat,aq met i=true\/aq todo i=true->iD G s i
  apart:∀i:Nat,aq todo i=true->aq met i=false
  done:∀j:Nat,aq met j=true->∀i:Nat,aq (ot G j) i=true->aq met i=true\/aq todo i=true
theorem RX.init (G:Gr) (s:BitVec 64):RX G s 0#64 s:=⟨fun _ h=> .inr h,fun i h=>by
  rcases h with h|h
  ·rw [bC] at h;cases h
  ·exact .base h,fun i _=>bC _,fun j h=>by rw [bC] at h;cases h⟩
theorem RX.step {G:Gr} {s met todo:BitVec 64} (h:RX G s met todo) (h0:todo≠0#64):
    RX G s (bL met (fj todo:Nat)) ((todo|||ot G (fj todo))&&& ~~~(bL met (fj todo:Nat)))/\ep met<ep (bL met (fj todo:Nat)):=by
  obtain ⟨hl,hb,_⟩:=eU h0;have hb':aq todo (fj todo:Nat)=true:=by rw [bz];exact hb
  have hr:=h.sound _ (.inr hb')
  have hm:∀i:Nat,i<64->(aq (bL met (fj todo:Nat)) i=true↔aq met i=true\/i=fj todo):=fun i hi=>by
    rw [dZ,Bool.or_eq_true];simp only [Bool.and_eq_true,decide_eq_true_eq]
    constructor
    · rintro (h|⟨h,_⟩)
      ·exact .inl h
      ·exact .inr om
    · rintro (h|h)
      ·exact .inl h
      ·exact .inr ⟨by omega,by omega,by omega⟩
  have ht:∀i:Nat,aq ((todo|||ot G (fj todo))&&& ~~~(bL met (fj todo:Nat))) i=true↔(aq todo i=true\/aq (ot G (fj todo)) i=true)/\¬(aq met i=true\/i=fj todo):=fun i=>by
    constructor
    · intro hk
      have bo:=cL hk;rw [eZ _ _ _ bo,Bool.and_eq_true,Bool.not_eq_true',cO,Bool.or_eq_true] at hk;refine ⟨hk.1,fun hq=>?_⟩;rw [(hm i bo).2 hq] at hk;cases hk.2
    · rintro ⟨h1,h2⟩
      have bo:i<64:=by rcases h1 with h1|h1<;>exact cL h1
      rw [eZ _ _ _ bo,Bool.and_eq_true,Bool.not_eq_true',cO,Bool.or_eq_true];refine ⟨h1,?_⟩;cases hq:aq (bL met (fj todo:Nat)) i
      ·rfl
      ·exact absurd ((hm i bo).1 hq) h2
  have all:∀i:Nat,(aq met i=true\/aq todo i=true)\/aq (ot G (fj todo)) i=true->aq (bL met (fj todo:Nat)) i=true\/aq ((todo|||ot G (fj todo))&&& ~~~(bL met (fj todo:Nat))) i=true:=fun i hi=>by
    have bo:i<64:=by rcases hi with (hi|hi)|hi<;>exact cL hi
    by_cases hq:aq met i=true\/i=fj todo
    ·exact .inl ((hm i bo).2 hq)
    · refine .inr ((ht i).2 ⟨?_,hq⟩)
      rcases hi with (hi|hi)|hi
      ·exact absurd (.inl hi) hq
      ·exact .inl hi
      ·exact .inr hi
  refine ⟨⟨fun i hi=>all i (.inl (h.sup i hi)),fun i hi=>?_,fun i hi=>?_,fun j hj i hi=>?_⟩,?_⟩
  · rcases hi with hi|hi
    · rcases (hm i (cL hi)).1 hi with hi|hi
      ·exact h.sound i (.inl hi)
      ·subst hi;exact hr
    · rcases ((ht i).1 hi).1 with hi|hi
      ·exact h.sound i (.inr hi)
      ·exact .step hr hi
  · have:=((ht i).1 hi).2
    cases hq:aq (bL met (fj todo:Nat)) i
    ·rfl
    ·exact absurd ((hm i (cL hi)).1 hq) this
  · rcases (hm j (cL hj)).1 hj with hj|hj
    ·exact all i (.inl (h.done j hj i hi))
    ·subst hj;exact all i (.inr hi)
  ·exact pK om om (h.apart _ hb')
theorem RX.end {met:BitVec 64} (h:RX G s met 0#64):met=iH G s:=by
  refine Gj ⟨fun i hi=>?_,fun i hi=>h.sound i (.inl hi),fun j i hj hi=>?_⟩
  · rcases h.sup i hi with h|h
    ·exact h
    ·rw [bC] at h;cases h
  · rcases h.done j hj i hi with h|h
    ·exact h
    ·rw [bC] at h;cases h
/-! ... and the rounds -/
/-! one less -/
theorem filter_one {p q:Nat->Bool} {i:Nat} :∀(l:List Nat),l.Nodup->i∈l->q i=true->p i=false->(∀j∈l,j≠i->p j=q j)->(l.filter p).length+1=(l.filter q).length
  | [],_,h,_,_,_=>by cases h
  |a::l,hn,hi,hq,hp,hj=>by
    rw [List.nodup_cons] at hn;simp only [List.filter_cons]
    by_cases e:a=i
    · subst e
      rw [hq,hp];have:l.filter p=l.filter q:=List.filter_congr (fun j h=>hj j (List.mem_cons_of_mem _ h) (fun e=>by subst e;exact hn.1 h));simp [this]
    · have Y3:i∈l:=by
        rcases List.mem_cons.1 hi with h|h
        ·exact absurd h.symm e
        ·exact h
      have ih:=filter_one l hn.2 Y3 hq hp (fun j h=>hj j (List.mem_cons_of_mem _ h));rw [hj a (List.mem_cons_self ..) e]
      split
      ·simp only [List.length_cons];omega
      ·exact ih
theorem kj (h:aq s i=true):ep (gb s (i:Nat))+1=ep s:=by
  have bo:=cL h;refine filter_one (i:=i) _ List.nodup_range (List.mem_range.2 bo) (by rw [<-bz];exact h) ?_ (fun j _ hj=>?_)
  ·rw [<-bz,eR];simp
  ·rw [<-bz,<-bz,eR,decide_eq_false (show¬(j:Int)=i by omega)];simp
theorem zN (h:ep s=0):s=0#64:=Py (List.length_eq_zero_iff.1 h)
/-! orders -/
def yS (n:Nat):BitVec 64:=1#64<<<n-1#64
theorem oV (hn:n<=12) (k:Nat):aq (yS n) k=decide (k<n):=by
  rw [bz];have key:∀n,n<13->∀k,k<64->(yS n).getLsbD k=decide (k<n):=by decide+kernel
  by_cases hk:k<64
  ·exact key n om k hk
  ·rw [BitVec.getLsbD_of_ge _ _ om,decide_eq_false om]
theorem Je (hn:n<=12):ep (yS n)=n:=by
  have key:∀n,n<13->ep (yS n)=n:=by decide+kernel
  exact key n om
def inW (G:Gr) (left:BitVec 64):BitVec 64:=(ek left).foldl (fun a i=>a|||ot G i) 0#64
theorem Io (G:Gr):∀(l:List Nat) (a:BitVec 64) (k:Nat),aq (l.foldl (fun a i=>a|||ot G i) a) k=true↔aq a k=true\/∃i∈l,aq (ot G i) k=true
  | [],a,k=>by simp
  |i::l,a,k=>by
    rw [List.foldl_cons,Io G l,cO,Bool.or_eq_true]
    constructor
    · rintro ((h|h)|⟨j,hj,h⟩)
      ·exact .inl h
      ·exact .inr ⟨i,List.mem_cons_self ..,h⟩
      ·exact .inr ⟨j,List.mem_cons_of_mem _ hj,h⟩
    · rintro (h|⟨j,hj,h⟩)
      ·exact .inl (.inl h)
      · rcases List.mem_cons.1 hj with rfl|hj
        ·exact .inl (.inr h)
        ·exact .inr ⟨j,hj,h⟩
theorem Hu (G:Gr) (left:BitVec 64) (k:Nat):aq (inW G left) k=true↔∃i:Nat,aq left i=true/\aq (ot G i) k=true:=by
  unfold inW;rw [Io,bC]
  constructor
  · rintro (h|⟨i,hi,h⟩)
    ·cases h
    ·exact⟨i,by rw [bz];exact gv.1 hi,h⟩
  ·rintro ⟨i,hi,h⟩;exact .inr ⟨i,gv.2 (by rw [<-bz];exact hi),h⟩
def O4 (G:Gr) (left:BitVec 64) (i:Nat):Prop:=aq left i=true/\∀j:Nat,aq left j=true->aq (ot G j) i=false
def G8 (G:Gr) (left:BitVec 64):BitVec 64:=left&&& ~~~(inW G left)
theorem wy (G:Gr) (left:BitVec 64) (i:Nat):aq (G8 G left) i=true↔O4 G left i:=by
  constructor
  · intro h
    have bo:=cL h
    unfold G8 at h
    rw [eZ _ _ _ bo,Bool.and_eq_true,Bool.not_eq_true'] at h;refine ⟨h.1,fun j hj=>?_⟩;cases hb:aq (ot G j) i
    ·rfl
    ·rw [(Hu G left i).2 ⟨j,hj,hb⟩] at h;cases h.2
  · rintro ⟨h1,h2⟩
    have bo:=cL h1
    unfold G8
    rw [eZ _ _ _ bo,h1,Bool.true_and,Bool.not_eq_true'];cases hb:aq (inW G left) i
    ·rfl
    · obtain ⟨j,hj,hk⟩:=(Hu G left i).1 hb
      rw [h2 j hj] at hk;cases hk
def xX (G:Gr) (left:BitVec 64):Int:=oG (G8 G left)
theorem x8 (hA:jT G) {j:Nat} (h:aq (ot G j) i=true):ep (iH G (ot G i))<ep (iH G (ot G j)):=by
  refine s8 (i:=i) (fun k hk=>?_) ((eg _ _ _).2 (.base h)) ?_
  ·rw [eg] at hk ⊢;exact iD.trans (.base h) hk
  · cases hb:aq (iH G (ot G i)) i
    ·rfl
    ·exact absurd ((eg _ _ _).1 hb) (hA i)
theorem HT {G:Gr} (hA:jT G) {left:BitVec 64} :∀(m i:Nat),aq left i=true->64-ep (iH G (ot G i))<=m->∃k,O4 G left k
  |0,i,hi,hm=>by
    refine ⟨i,hi,fun j hj=>?_⟩;cases hb:aq (ot G j) i
    ·rfl
    ·have:=x8 hA hb;have:=dO (iH G (ot G j));omega
  |m+1,i,hi,hm=>by
    by_cases h:∃j:Nat,aq left j=true/\aq (ot G j) i=true
    · obtain ⟨j,hj,hb⟩:=h
      have:=x8 hA hb;have:=dO (iH G (ot G j));exact HT hA m j hj om
    · refine ⟨i,hi,fun j hj=>?_⟩
      cases hb:aq (ot G j) i
      ·rfl
      ·exact absurd ⟨j,hj,hb⟩ h
theorem nb (hA:jT G) (h:left≠0#64):G8 G left≠0#64:=by
  obtain ⟨hl,hb,_⟩:=eU h;obtain ⟨k,hk⟩:=HT hA (left:=left) 64 (fj left) (by rw [bz];exact hb) om;intro e;have:=(wy G left k).2 hk;rw [e,bC] at this;cases this
theorem nF (h:G8 G left≠0#64):∃i:Nat,xX G left=(i:Nat)/\i<64/\O4 G left i/\∀j,j<i->¬O4 G left j:=by
  obtain ⟨hl,hb,bo⟩:=eU h;refine ⟨fj (G8 G left),by unfold xX oG;rw [if_neg h],hl,(wy _ _ _).1 (by rw [bz];exact hb),fun j hj hf=>?_⟩;have:=(wy G left j).2 hf;rw [bz,bo j hj] at this;cases this
def tT (G:Gr):Nat->BitVec 64->List Int
  |0,_=>[]
  |f+1,left=>if left=0#64 then [] else xX G left::tT G f (gb left (xX G left))
theorem zI {G:Gr} (hA:jT G):∀(f g:Nat) (left:BitVec 64),ep left<=f->ep left<=g->tT G f left=tT G g left
  |0,0,_,_,_=>rfl
  |0,g+1,left,h1,_=>by rw [tT,tT,if_pos (zN om)]
  |f+1,0,left,_,h2=>by rw [tT,tT,if_pos (zN om)]
  |f+1,g+1,left,h1,h2=>by
    rw [tT,tT]
    by_cases e:left=0#64
    ·rw [if_pos e,if_pos e]
    · rw [if_neg e,if_neg e]
      obtain ⟨i,hi,_,hf,_⟩:=nF (nb hA e);rw [hi];have:=kj hf.1;rw [zI hA f g _ om om]
def uh (G:Gr) (left:BitVec 64):List Int:=tT G 64 left
theorem lL (G:Gr):uh G 0#64=[] :=rfl
theorem lX (hA:jT G) (h:left≠0#64):uh G left=xX G left::uh G (gb left (xX G left)):=by
  obtain ⟨i,hi,_,hf,_⟩:=nF (nb hA h);have hc:=kj hf.1;have:=dO left
  unfold uh
  rw [hi];rw [show tT G 64 left=xX G left::tT G 63 (gb left (xX G left)) by rw [tT,if_neg h],hi,zI hA 63 64 _ om om]
def kP (G:Gr):List Int:=uh G (yS G.length)
def QG (G:Gr) (left:BitVec 64):Prop:=∀j k:Nat,aq left j=true->aq (ot G j) k=true->aq left k=true
theorem QG.all (h:TP G) (hn:G.length<=12):QG G (yS G.length):=fun j k _ hk=>by
  rw [oV hn];exact decide_eq_true (h _ _ hk)
theorem uE:aq (gb s (i:Nat)) k=true↔aq s k=true/\k≠i:=by
  rw [eR,Bool.and_eq_true,Bool.not_eq_true',decide_eq_false_iff_not]
  constructor
  ·rintro ⟨h1,h2⟩;exact⟨h1,by omega⟩
  ·rintro ⟨h1,h2⟩;exact⟨h1,by omega⟩
theorem QG.step {G:Gr} {left:BitVec 64} (h:QG G left) {i:Nat} (hf:O4 G left i):QG G (gb left (i:Nat)):=fun j k hj hk=>by
  rw [uE] at hj ⊢;refine ⟨h j k hj.1 hk,fun e=>?_⟩;subst e;rw [hf.2 j hj.1] at hk;cases hk
theorem pF {G:Gr} (hA:jT G):∀(m:Nat) (left:BitVec 64),ep left<=m->∀x:Int,x∈uh G left↔∃k:Nat,x=k/\aq left k=true
  |m,left,hm,x=>by
    by_cases e:left=0#64
    · subst e;rw [lL]
      constructor
      ·intro h;cases h
      ·rintro ⟨k,_,h⟩;rw [bC] at h;cases h
    · obtain ⟨i,hi,_,hf,_⟩:=nF (nb hA e)
      have hc:=kj hf.1;rw [lX hA e,hi,List.mem_cons]
      match m,hm with
      |0,hm=>omega
      |m+1,hm=>
        rw [pF hA m _ om x]
        constructor
        · rintro (h|⟨k,h1,h2⟩)
          ·exact⟨i,h,hf.1⟩
          ·exact⟨k,h1,(uE.1 h2).1⟩
        · rintro ⟨k,h1,h2⟩
          by_cases q:k=i
          ·subst q;exact .inl h1
          ·exact .inr ⟨k,h1,uE.2 ⟨h2,q⟩⟩
theorem CL {G:Gr} (hA:jT G):∀(m:Nat) (left:BitVec 64),ep left<=m->(uh G left).length=ep left
  |m,left,hm=>by
    by_cases e:left=0#64
    ·subst e;rw [lL];decide
    · obtain ⟨i,hi,_,hf,_⟩:=nF (nb hA e)
      have hc:=kj hf.1;rw [lX hA e,hi,List.length_cons]
      match m,hm with
      |0,hm=>omega
      |m+1,hm=>rw [CL hA m _ om];omega
theorem ze {G:Gr} (hA:jT G):∀(p:Nat) (left:BitVec 64),QG G left->∃l2:BitVec 64,(uh G left).drop p=uh G l2/\QG G l2/\(∀k:Nat,aq l2 k=true->aq left k=true)
  |0,left,h=>⟨left,rfl,h,fun _ h=>h⟩
  |p+1,left,h=>by
    by_cases e:left=0#64
    ·subst e;exact⟨0#64,by rw [lL,List.drop_nil],h,fun _ h=>h⟩
    · obtain ⟨i,hi,_,hf,_⟩:=nF (nb hA e)
      obtain ⟨l2,h1,h2,h3⟩:=ze hA p (gb left (i:Nat)) (h.step hf);exact⟨l2,by rw [lX hA e,hi,List.drop_succ_cons];exact h1,h2,fun k hk=>(uE.1 (h3 k hk)).1⟩
theorem RT (hA:jT G) (hL:TP G) (hn:G.length<=12) {p:Nat} (hp:p<(kP G).length):
    ∃(i:Nat) (l2:BitVec 64),(kP G).getD p 0=(i:Nat)/\i<G.length/\aq l2 i=true/\(kP G).drop p=uh G l2/\(kP G).drop (p+1)=uh G (gb l2 (i:Nat))/\(∀k:Nat,aq (ot G i) k=true->aq (gb l2 (i:Nat)) k=true)/\(∀k:Nat,aq l2 k=true->k<G.length):=by
  obtain ⟨l2,h1,h2,h3⟩:=ze hA p (yS G.length) (QG.all hL hn)
  have ec:l2≠0#64:=by
    intro e;subst e;rw [lL] at h1;have:=congrArg List.length h1;rw [List.length_drop,List.length_nil] at this
    unfold kP at hp;omega
  obtain ⟨i,hi,_,hf,_⟩:=nF (nb hA ec)
  have bo:∀k:Nat,aq l2 k=true->k<G.length:=fun k hk=>by
    have:=h3 k hk;rw [oV hn] at this;exact of_decide_eq_true this
  have hc:=lX hA ec;have e1:(kP G).drop p=xX G l2::uh G (gb l2 (xX G l2)):=by rw [<-hc];exact h1
  refine ⟨i,l2,?_,bo i hf.1,hf.1,h1,?_,fun k hk=>uE.2 ⟨h2 i k hf.1 hk,fun e=>?_⟩,bo⟩
  · have:=congrArg (fun l=>l.getD 0 0) e1
    simp only [List.getD_cons_zero] at this;rw [<-hi,<-this,List.getD_eq_getElem?_getD,List.getD_eq_getElem?_getD,List.getElem?_drop,Nat.add_zero]
  · have:=congrArg List.tail e1
    rw [List.tail_drop,List.tail_cons,hi] at this;exact this
  ·subst e;exact hA k (.base hk)
theorem DX (hA:jT G) (hn:G.length<=12):(kP G).length=G.length:=by
  unfold kP;rw [CL hA 64 _ (dO _),Je hn]
/-! depths -/
def tD (g:Nat->Nat) (l:List Nat):Nat:=l.foldl (fun b i=>max b (g i)) 0
theorem Bl (g:Nat->Nat):∀(l:List Nat) (b:Nat),l.foldl (fun b i=>max b (g i)) b=max b (tD g l)
  | [],b=>by unfold tD;simp
  |i::l,b=>by unfold tD;rw [List.foldl_cons,List.foldl_cons,Bl g l,Bl g l (max 0 (g i))];omega
theorem sB (g:Nat->Nat) (i:Nat) (l:List Nat):tD g (i::l)=max (g i) (tD g l):=by
  rw [show tD g (i::l)=l.foldl (fun b i=>max b (g i)) (max 0 (g i)) from rfl,Bl];omega
theorem L5 (g:Nat->Nat) (i:Nat) (l:List Nat):tD g (l++ [i])=max (tD g l) (g i):=by
  unfold tD;rw [List.foldl_append];rfl
theorem uv {g:Nat->Nat} {l:List Nat}:tD g l<=n↔∀i∈l,g i<=n:=by
  induction l with
  |nil=>simp [tD]
  |cons i l ih=>rw [sB,Nat.max_le,ih];simp
theorem PB {g:Nat->Nat} {l m:List Nat} (h:∀i,i∈l↔i∈m):tD g l=tD g m:=by
  apply Nat.le_antisymm
  ·exact uv.2 (fun i hi=>uv.1 (Nat.le_refl (tD g m)) i ((h i).1 hi))
  ·exact uv.2 (fun i hi=>uv.1 (Nat.le_refl (tD g l)) i ((h i).2 hi))
theorem zY {g h:Nat->Nat} {l:List Nat} (e:∀i∈l,g i=h i):tD g l=tD h l:=by
  induction l with
  |nil=>rfl
  |cons i l ih=>rw [sB,sB,e i (List.mem_cons_self ..),ih (fun j hj=>e j (List.mem_cons_of_mem _ hj))]
def ua (G:Gr):Nat->Nat->Nat
  |0,_=>0
  |f+1,i=>1+tD (ua G f) (ek (ot G i))
theorem Jn (G:Gr) (f i:Nat):ua G (f+1) i=1+tD (ua G f) (ek (ot G i)):=by rw [ua]
theorem lq:i∈ek s↔aq s i=true:=by rw [gv,bz]
theorem zn {G:Gr} (hA:jT G):∀(f g i:Nat),ep (iH G (ot G i))<f->ep (iH G (ot G i))<g->ua G f i=ua G g i
  |0,_,_,h,_=>by omega
  |_+1,0,_,_,h=>by omega
  |f+1,g+1,i,h1,h2=>by
    rw [ua,ua]
    congr 1
    exact zY (fun k hk=>by
      have:=x8 hA (lq.1 hk);exact zn hA f g k om om)
def dep (G:Gr) (i:Nat):Nat:=ua G 66 i
theorem VV (hA:jT G) (i:Nat):dep G i=1+tD (dep G) (ek (ot G i)):=by
  have key:∀k∈ek (ot G i),ua G 65 k=dep G k:=fun k _=>by
    have hc:=dO (iH G (ot G k));exact zn hA 65 66 k om om
  rw [<-zY key];exact Jn G 65 i
theorem Im (G:Gr):∀(f i:Nat),ua G f i<=f
  |0,_=>Nat.le_refl _
  |f+1,i=>by rw [ua];have:tD (ua G f) (ek (ot G i))<=f:=uv.2 (fun k _=>Im G f k);omega
theorem Fi (G:Gr) (i:Nat):dep G i<=66:=Im G 66 i
def dpt (G:Gr):Nat:=tD (dep G) (List.range G.length)
theorem W8 (hA:jT G) (hn:G.length<=12):tD (dep G) ((kP G).map Int.toNat)=dpt G:=by
  refine PB (fun i=>?_);rw [List.mem_map,List.mem_range]
  constructor
  · rintro ⟨x,hx,rfl⟩
    obtain ⟨k,rfl,hk⟩:=(pF hA 64 _ (dO _) x).1 hx;rw [oV hn] at hk;rw [Int.toNat_natCast];exact of_decide_eq_true hk
  · intro h
    exact⟨(i:Nat),(pF hA 64 _ (dO _) _).2 ⟨i,rfl,by rw [oV hn];exact decide_eq_true h⟩,Int.toNat_natCast _⟩
/-! rings -/
def lE (G:Gr):Nat:=((List.range G.length).find? (fun (i:Nat)=>aq (iH G (ot G i)) (i:Nat))).getD 0
theorem U0 (h:¬jT G):∃i,i<G.length/\aq (iH G (ot G i)) (i:Nat)=true:=by
  apply Classical.byContradiction;intro hn
  apply h;intro i hr
  exact hn ⟨i,Ae hr,(eg _ _ _).2 hr⟩
theorem find_range {p:Nat->Bool} (h:∃i,i<n/\p i=true):∃i,(List.range n).find? p=some i/\i<n/\p i=true/\∀j,j<i->p j=false:=by
  cases hf:(List.range n).find? p with
  |none=>
    obtain ⟨i,hi,hp⟩:=h;have:=List.find?_eq_none.1 hf i (List.mem_range.2 hi);exact absurd hp this
  |some i=>
    have h1:=List.find?_range_eq_some.1 hf;refine ⟨i,rfl,List.mem_range.1 h1.2.1,h1.1,fun j hj=>?_⟩;have:=h1.2.2 j hj;simpa using this
theorem zT (h:¬jT G):lE G<G.length/\aq (iH G (ot G (lE G))) (lE G:Nat)=true/\∀j,j<lE G->aq (iH G (ot G j)) (j:Nat)=false:=by
  obtain ⟨i,h1,h2,h3,h4⟩:=find_range (U0 h)
  unfold lE;rw [h1];exact⟨h2,h3,h4⟩
theorem Kg (h:¬jT G) (h1:aq (iH G (ot G i)) (i:Nat)=true) (h2:∀j,j<i->aq (iH G (ot G j)) (j:Nat)=false):i=lE G:=by
  obtain ⟨k1,k2,k3⟩:=zT h;have a1:¬i<lE G:=fun q=>by rw [k3 i q] at h1;cases h1
  have a2:¬lE G<i:=fun q=>by rw [h2 _ q] at k2;cases k2
  omega
def vx (G:Gr) (t i:Nat):Bool:=decide (i=t)||aq (iH G (ot G i)) (t:Nat)
def sF (G:Gr) (a t:Nat):Nat:=((ek (ot G a)).find? (vx G t)).getD t
theorem XO {a:Nat} (h:iD G (ot G a) t):∃i:Nat,aq (ot G a) i=true/\vx G t i=true:=by
  have key:∀{s:BitVec 64} {k:Nat},iD G s k->∃i:Nat,aq s i=true/\(i=k\/iD G (ot G i) k):=by
    intro s k hr
    induction hr with
    |base hb=>exact⟨_,hb,.inl rfl⟩
    |step _ hb ih=>
      obtain ⟨i,h1,h2⟩:=ih;refine ⟨i,h1,.inr ?_⟩;rcases h2 with h2|h2
      ·subst h2;exact .base hb
      ·exact .step h2 hb
  obtain ⟨i,h1,h2⟩:=key h;refine ⟨i,h1,?_⟩
  unfold vx
  rcases h2 with h2|h2
  ·rw [decide_eq_true h2];rfl
  ·rw [(eg _ _ _).2 h2,Bool.or_true]
theorem IP {a:Nat} (h:iD G (ot G a) t) (ht:iD G (ot G t) t):aq (ot G a) (sF G a t)=true/\iD G (ot G (sF G a t)) t:=by
  obtain ⟨i,h1,h2⟩:=XO h
  unfold sF
  cases hf:(ek (ot G a)).find? (vx G t) with
  |none=>exact absurd h2 (by have:=List.find?_eq_none.1 hf i (lq.2 h1);exact this)
  |some k=>
    have m1:=List.mem_of_find?_eq_some hf;have m2:=List.find?_some hf;refine ⟨lq.1 m1,?_⟩
    unfold vx at m2
    rw [Bool.or_eq_true] at m2;rcases m2 with m2|m2
    ·have:=of_decide_eq_true m2;show iD G (ot G k) t;rw [this];exact ht
    ·exact(eg _ _ _).1 m2
def vo (G:Gr) (t:Nat):Nat->BitVec 64->Nat->List Int
  |0,_,_=>[]
  |f+1,met,a=>if aq met (a:Nat)=true then [] else (a:Int)::vo G t f (bL met (a:Nat)) (sF G a t)
theorem zG (G:Gr) (t:Nat):∀(f g:Nat) (met:BitVec 64) (a:Nat),64-ep met<f->64-ep met<g->a<64->(∀a,a<64->sF G a t<64)->vo G t f met a=vo G t g met a
  |0,_,_,_,h,_,_,_=>by omega
  |_+1,0,_,_,_,h,_,_=>by omega
  |f+1,g+1,met,a,h1,h2,ha,hx=>by
    rw [vo,vo]
    by_cases e:aq met (a:Nat)=true
    ·rw [if_pos e,if_pos e]
    · rw [if_neg e,if_neg e]
      have hc:=pK (V:=met) (w:=(a:Nat)) om om (by simpa using e);have:=dO (bL met (a:Nat));rw [zG G t f g _ _ om om (hx a ha) hx]
def F5 (G:Gr) (t:Nat) (met:BitVec 64) (a:Nat):List Int:=vo G t 65 met a
theorem ON (ht:t<64) (a:Nat) (_:a<64):sF G a t<64:=by
  unfold sF
  cases hf:(ek (ot G a)).find? (vx G t) with
  |none=>exact ht
  |some k=>have:=List.mem_of_find?_eq_some hf;exact cL (lq.1 this)
theorem Kb {a:Nat} {met:BitVec 64} (h:aq met (a:Nat)=true):F5 G t met a=[] :=by
  unfold F5;rw [vo,if_pos h]
theorem IM {a:Nat} {met:BitVec 64} (ht:t<64) (ha:a<64) (h:aq met (a:Nat)=false):F5 G t met a=(a:Int)::F5 G t (bL met (a:Nat)) (sF G a t):=by
  unfold F5
  rw [show vo G t 65 met a=(a:Int)::vo G t 64 (bL met (a:Nat)) (sF G a t) by rw [vo,if_neg (by rw [h];simp)]];have hc:=pK (V:=met) (w:=(a:Nat)) om om h;have:=dO (bL met (a:Nat));rw [zG G t 64 65 _ _ om om (ON ht a ha) (ON ht)]
def SH (G:Gr):List Int:=F5 G (lE G) 0#64 (lE G)
theorem C3 (G:Gr) (t:Nat):∀(f:Nat) (met:BitVec 64) (a:Nat),(vo G t f met a).length<=f
  |0,_,_=>Nat.le_refl _
  |f+1,met,a=>by
    rw [vo];split
    ·exact Nat.zero_le _
    ·rw [List.length_cons];have:=C3 G t f (bL met (a:Nat)) (sF G a t);omega
def B0 (xs:List bO) (lo n:Nat) (s:BitVec 64):BitVec 64:=((xs.drop lo).take n).foldl (fun s o=>if cD o.k=true then bL s o.a else s) s
def rF (xs:List bO) (lock:Int) (s:BitVec 64) (i:Nat):BitVec 64:=if (xs.getD i default).a=lock then B0 xs (i+1) (ez xs i).1 s else s
def Kp (xs:List bO) (lock:Int) (k:Nat):BitVec 64:=((nD (JI xs) xs.length).take k).foldl (rF xs lock) 0#64
def pb (xs:List bO) (lock:Int):BitVec 64:=(nD (JI xs) xs.length).foldl (rF xs lock) 0#64
theorem zp {lock:Int} {p:Nat} (h:(nD (JI xs) xs.length)[k]? =some p):Kp xs lock (k+1)=rF xs lock (Kp xs lock k) p:=by
  unfold Kp
  rw [List.take_add_one,h,List.foldl_append];rfl
theorem OW (xs:List bO) (lock:Int):Kp xs lock (nD (JI xs) xs.length).length=pb xs lock:=by
  unfold Kp;rw [List.take_length];rfl
theorem tI {lo:Nat} (s:BitVec 64) (h:lo+n<xs.length):B0 xs lo (n+1) s=if cD (xs.getD (lo+n) default).k=true then bL (B0 xs lo n s) (xs.getD (lo+n) default).a else B0 xs lo n s:=by
  unfold B0
  have e:(xs.drop lo)[n]? =some (xs.getD (lo+n) default):=by
    rw [List.getElem?_drop,List.getD_eq_getElem?_getD,List.getElem?_eq_getElem h];rfl
  rw [List.take_add_one,e,List.foldl_append];rfl
theorem PO {lo:Nat} {k:Int} (h:aq (B0 xs lo n s) k=true):aq s k=true\/∃o∈xs,cD o.k=true/\o.a=k:=by
  unfold B0 at h
  have iG:∀o∈(xs.drop lo).take n,o∈xs:=fun o ho=>List.mem_of_mem_drop (List.mem_of_mem_take ho)
  generalize (xs.drop lo).take n=l at h iG
  induction l generalizing s with
  |nil=>exact .inl h
  |cons o l ih=>
    rw [List.foldl_cons] at h;rcases ih h (fun o ho=>iG o (List.mem_cons_of_mem _ ho)) with q|q
    · split at q
      · rename_i c
        rw [dZ,Bool.or_eq_true] at q;rcases q with q|q
        ·exact .inl q
        · rw [Bool.and_eq_true] at q
          exact .inr ⟨o,iG o (List.mem_cons_self ..),c,(of_decide_eq_true q.1).symm⟩
      ·exact .inl q
    ·exact .inr q
theorem NK {lock k:Int} (h:aq (pb xs lock) k=true):∃o∈xs,cD o.k=true/\o.a=k:=by
  unfold pb at h
  have key:∀(l:List Nat) (s:BitVec 64),aq (l.foldl (rF xs lock) s) k=true->aq s k=true\/∃o∈xs,cD o.k=true/\o.a=k:=by
    intro l
    induction l with
    |nil=>exact fun s h=> .inl h
    |cons i l ih=>
      intro s h;rw [List.foldl_cons] at h;rcases ih _ h with q|q
      · unfold rF at q
        split at q
        ·exact PO q
        ·exact .inl q
      ·exact .inr q
  rcases key _ _ h with q|q
  ·rw [bC] at q;cases q
  ·exact q
def sQ (s:ee) (i k:Nat):BitVec 64:=(s.ps.take k).foldl (fun g p=>g|||pb p.xs (i:Nat)) 0#64
def im (s:ee):Gr:=(List.range s.ls.length).map (fun i=>sQ s i s.ps.length)
theorem Jk {s:ee} (h:k<s.ps.length):sQ s i (k+1)=sQ s i k|||pb (s.ps.getD k default).xs (i:Nat):=by
  unfold sQ
  have e:s.ps[k]? =some (s.ps.getD k default):=by rw [List.getD_eq_getElem?_getD,List.getElem?_eq_getElem h];rfl
  rw [List.take_add_one,e,List.foldl_append];rfl
theorem oO (s:ee):(im s).length=s.ls.length:=by unfold im;rw [List.length_map,List.length_range]
def jG (xs:List bO) (l:Int) (pc:Nat):Prop:=∃p,p<pc/\p<xs.length/\cD (xs.getD p default).k=true/\(xs.getD p default).a=l/\∀j,p<j->j<pc->j<xs.length->eH l (xs.getD j default)=false
theorem jG.take (h:pc<xs.length) (hk:cD (xs.getD pc default).k=true):jG xs (xs.getD pc default).a (pc+1):=⟨pc,by omega,h,hk,rfl,fun j h1 h2=>by omega⟩
theorem jG.next {l:Int} (h:jG xs l pc) (hs:pc<xs.length->eH l (xs.getD pc default)=false):jG xs l (pc+1):=by
  obtain ⟨p,h1,h2,h3,h4,h5⟩:=h;refine ⟨p,by omega,h2,h3,h4,fun j a b c=>?_⟩;rcases Nat.lt_or_ge j pc with q|q
  ·exact h5 j a q c
  ·rw [show j=pc by omega] at c ⊢;exact hs c
theorem fD {l:Int} {o:bO} (lK:o.k≠11) (h6:o.k=6->o.a≠l):eH l o=false:=by
  unfold eH
  rw [decide_eq_false lK,Bool.false_or]
  by_cases h:o.k=6
  ·rw [decide_eq_false (h6 h),Bool.and_false]
  ·rw [decide_eq_false h];rfl
theorem Ig {k:Int} (h:cD k=true):2<=k/\k<=5:=by
  unfold cD at h;rw [Bool.and_eq_true,decide_eq_true_eq,decide_eq_true_eq] at h;exact h
theorem Ax {l:Int} {xs:List bO} :∀(n i:Nat),i+n<=xs.length->(∀j,i<=j->j<i+n->eH l (xs.getD j default)=false)->n<=(iA l (xs.drop i)).1
  |0,_,_,_=>Nat.zero_le _
  |n+1,i,h,hs=>by
    rw [D4 om (hs i (Nat.le_refl _) om)];have:=Ax n (i+1) om (fun j a b=>hs j om om);exact Nat.succ_le_succ this
theorem H5 (l:Int):∀(xs:List bO),(iA l xs).1<=xs.length
  | [] =>Nat.le_refl _
  |o::r=>by
    unfold iA;split
    ·exact Nat.zero_le _
    ·exact Nat.succ_le_succ (H5 l r)
theorem jG.wrap {ls:List jD} {bV l:Int} (hf:∀i,i<xs.length->dC true xs ls bV i=0) (BS:xs.length<=pc) (h:jG xs l pc):False:=by
  obtain ⟨p,h1,h2,h3,h4,h5⟩:=h;have hg:=Ax (l:=l) (xs:=xs) (xs.length-(p+1)) (p+1) om (fun j a b=>h5 j om om om);have hl:=H5 l (xs.drop (p+1));rw [List.length_drop] at hl;have e:(ez xs p).1=xs.length-(p+1):=by unfold ez;rw [h4];omega
  have q:=hf p h2
  unfold dC at q
  rw [h3,decide_eq_true (show ((p+1+(ez xs p).1:Nat):Int)=xs.length by omega)] at q
  split at q
  ·cases q
  · split at q
    ·cases q
    ·simp at q
/-! what is taken within a lock -/
theorem z6 {l:List bO} {k:Int}:∀{s:BitVec 64},aq s k=true->aq (l.foldl (fun s o=>if cD o.k=true then bL s o.a else s) s) k=true:=by
  induction l with
  |nil=>exact fun h=>h
  |cons o r ih=>
    intro s h;rw [List.foldl_cons];refine ih ?_
    split
    ·rw [dZ,h];rfl
    ·exact h
theorem O5 {l:List bO} {o:bO} (ho:o∈l) (hk:cD o.k=true) (ha:0<=o.a/\o.a<64):∀{s:BitVec 64},aq (l.foldl (fun s o=>if cD o.k=true then bL s o.a else s) s) o.a=true:=by
  induction l with
  |nil=>cases ho
  |cons x r ih=>
    intro s;rw [List.foldl_cons];rcases List.mem_cons.1 ho with rfl|q
    · refine z6 ?_
      rw [if_pos hk,dZ,decide_eq_true rfl,decide_eq_true ha.1,decide_eq_true ha.2];simp
    ·exact ih q
theorem IY {l k:Int} (h:aq s k=true):aq (rF xs l s i) k=true:=by
  unfold rF;split
  ·exact z6 h
  ·exact h
theorem Eu {xs:List bO} {l k:Int} :∀(ps:List Nat) {s:BitVec 64},aq s k=true->aq (ps.foldl (rF xs l) s) k=true
  | [],_,h=>h
  |p::r,s,h=>Eu r (s:=rF xs l s p) (IY h)
theorem LA {xs:List bO} {l k:Int} {p:Nat} (hs:∀s,aq (rF xs l s p) k=true):∀(ps:List Nat),p∈ps->∀s,aq (ps.foldl (rF xs l) s) k=true
  | [],h,_=>by cases h
  |q::r,h,s=>by
    rw [List.foldl_cons];rcases List.mem_cons.1 h with rfl|h
    ·exact Eu r (hs s)
    ·exact LA hs r h _
theorem jG.edge {l:Int} (h:jG xs l pc) (BS:pc<xs.length) (hk:cD (xs.getD pc default).k=true) (ha:0<=(xs.getD pc default).a/\(xs.getD pc default).a<64):aq (pb xs l) (xs.getD pc default).a=true:=by
  obtain ⟨p,h1,h2,h3,h4,h5⟩:=h;have hn:eH l (xs.getD pc default)=false:=by have:=Ig hk;exact fD om om
  have hg:=Ax (l:=l) (xs:=xs) (pc-p) (p+1) om (fun j a b=>by
    rcases Nat.lt_or_ge j pc with q|q
    ·exact h5 j om q om
    ·rw [show j=pc by omega];exact hn)
  refine LA (p:=p) (fun s=>?_) _ (yj.2 ⟨h2,h3⟩) 0#64
  unfold rF
  rw [if_pos h4];refine O5 (List.mem_of_getElem? (i:=pc-(p+1)) ?_) hk ha;have e:(ez xs p).1=(iA l (xs.drop (p+1))).1:=by unfold ez;rw [h4]
  rw [List.getElem?_take,if_pos om,List.getElem?_drop,show p+1+(pc-(p+1))=pc by omega];exact aH default BS
theorem Dz {i:Nat} {k:Int} :∀(ps:List mX) {g:BitVec 64},aq g k=true->aq (ps.foldl (fun g p=>g|||pb p.xs (i:Nat)) g) k=true
  | [],_,h=>h
  |p::r,g,h=>Dz r (by rw [cO,h];rfl)
theorem N9 {i:Nat} {k:Int} {p:mX} (hp:aq (pb p.xs (i:Nat)) k=true):∀(ps:List mX),p∈ps->∀(g:BitVec 64),aq (ps.foldl (fun g p=>g|||pb p.xs (i:Nat)) g) k=true
  | [],h,_=>by cases h
  |q::r,h,g=>by
    rw [List.foldl_cons];rcases List.mem_cons.1 h with rfl|h
    ·exact Dz r (by rw [cO,hp,Bool.or_true])
    ·exact N9 hp r h _
theorem PC {s:ee} (hi:i<s.ls.length) {p:mX} (hp:p∈s.ps) {k:Int} (h:aq (pb p.xs (i:Nat)) k=true):aq (ot (im s) i) k=true:=by
  have e:ot (im s) i=sQ s i s.ps.length:=by
    unfold ot im;rw [List.getD_eq_getElem?_getD,List.getElem?_map,List.getElem?_range hi];rfl
  rw [e];unfold sQ;rw [List.take_length];exact N9 h _ hp _
/-! no ring -/
theorem Tt {W:Gr} (hA:jT G) {hold:Nat->Nat->Prop} {wt:Nat->Nat->Prop} {free:Nat->Prop}
    (hed:∀v u:Nat,aq (ot W v) u=true->∃l,wt v l/\(hold u l\/free u)) (hor:∀v i l,hold v i->wt v l->aq (ot G i) (l:Nat)=true) (I1:∀v u:Nat,free v->aq (ot W v) u=false)
    {S:BitVec 64} {a t:Nat} (hS:∀u:Nat,aq S u=true->hold u a\/free u) (ht:∀i,hold t i->aq (ot G i) (a:Nat)=true) (QA:¬free t):¬iD W S t:=by
  have key:∀v,iD W S v->(∃i,hold v i/\(i=a\/iD G (ot G a) i))\/free v:=by
    intro v hv
    induction hv with
    |base h=>exact(hS _ h).imp (fun q=>⟨a,q,.inl rfl⟩) (fun q=>q)
    | @step j i hj he ih=>
      obtain ⟨l,hw,hl⟩:=hed j i he;rcases ih with ⟨i0,h1,h2⟩|hf
      · refine hl.imp (fun q=>⟨l,q,.inr ?_⟩) (fun q=>q)
        have e:=hor j i0 l h1 hw;rcases h2 with rfl|h2
        ·exact .base e
        ·exact .step h2 e
      ·rw [I1 j i hf] at he;cases he
  intro hr;rcases key t hr with ⟨i,h1,h2⟩|hf
  · have e:=ht i h1
    rcases h2 with rfl|h2
    ·exact hA i (.base e)
    ·exact hA a (.step h2 e)
  ·exact QA hf
end Go.Eng
