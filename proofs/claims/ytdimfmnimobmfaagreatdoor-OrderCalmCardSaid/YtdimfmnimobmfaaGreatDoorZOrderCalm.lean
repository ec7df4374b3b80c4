/- The statement OrderCalmSaid: the law returns true for every input, and nothing that was there has been changed. No condition. -/
import Derived.Test.YtdimfmnimobmfaaGreatDoorM2
import Derived.Test.YtdimfmnimobmfaaGreatDoorM8
import Derived.ProofKit
import Derived.OpenShut
import Derived.ShutString
import Derived.ChangeOld
import Derived.Below
import Derived.Test.YtdimfmnimobmfaaGreatDoorTie
import Derived.Test.YtdimfmnimobmfaaGreatDoorCards
import Derived.SevenTiedAt
import Derived.Lib.LaidTab
import Derived.Deep.DeepHandedRow
import Derived.WalkKit
import Derived.Stop.LaidErr
import Derived.Deep.DeepLaidRun
namespace Go.Proofs.YtdimfmnimobmfaaGreatDoor.orderCalm
open Go.ChangeShapes Go.WideShapes Go.ChangeAt Go.RowKit Go.Eng
open Go.ChangeMaps (open_string shut_string)

theorem own:ownKnob Tryz.prog.godebug=none:=by kernel_rfl
theorem laidOut:laidOutB Tryz.prog=true:=by kernel_rfl

theorem acZ:Tryz.prog.globalNamed "math/bits.deBruijn64tab" =some 0:=by kernel_rfl
theorem Oa:(Tryz.prog.globals[0]?).map (·.type)=some 191:=by kernel_rfl
theorem Vk:Tryz.prog.cellsOf 191=64:=by kernel_rfl
theorem Xa:Tryz.prog.cellsOf 5=1:=by kernel_rfl
theorem table {W:World} (h:laidMetH Tryz.prog Rows.orderCalmRow.laid W):Lib.TabIs Tryz.prog W "math/bits.deBruijn64tab" .u8 IQ:=
  Lib.tabIs_of_head (rest:=[]) acZ Oa Tryz.underlying191 Tryz.underlying5 Xa Vk h
theorem tab {W:World} (h:laidMetH Tryz.prog Rows.orderCalmRow.laid W):sb W:=Af (fun i hi=>(table h).cell acZ i hi)
set_option maxRecDepth 100000 in
theorem contract (H:Type) (enc:TypeId×Value->H) (W:World) (base:Nat) (args:Array Value) (ds gs:List (DataW H)) (before:List MemPlace)
    (Uf:∀(j:Nat) t v,Tryz.f3.params[j]? =some t->args[j]? =some v->Value.okWide Tryz.prog W .any base t v)
    (hW:DataW.Whole enc Tryz.prog Tryz.f3.params.toList Rows.orderCalmSpec.vars false W args.toList ds gs before) (hL:laidMetH Tryz.prog Rows.orderCalmRow.laid W):
    Calls Tryz.prog 3 args W fun e W'=>∃v,e= .returned v/\Rows.orderCalmSpec.post enc Tryz.prog Tryz.f3 false true false false W args v W':=by
  have hT:sb W:=tab hL
  have FU:∀(j:Nat) t v,Tryz.f3.params[j]? =some t->args[j]? =some v->Value.okWide Tryz.prog W .any base t v:=Uf
  have hW':=hW
  obtain ⟨p,q,hA0,hV,rfl,hfz,dX⟩:=hW
  have hA:DataW.TrodAll enc Tryz.prog W 0 (fun _=>true) true Tryz.f3.params.toList args.toList ds p:=hA0
  rw [Tryz.params3] at hA FU
  obtain ⟨v0,vs0,d0,ds0,p0,q0,ajR,rfl,rfl,h0,r0⟩:=trodAll_cons hA
  obtain ⟨rfl,rfl,rfl⟩:=trodAll_nil r0
  obtain rfl:args=#[v0] :=by cases args;simp_all
  obtain ⟨rfl,rfl⟩:=trodVars_none hV
  have k0:=h0
  have lt0:∀x∈p0,x.block<W.heap.size:=by obtain ⟨m,hm⟩:=k0;exact DataW.trod_lt m _ _ _ hm
  obtain ⟨t0,z0,ad0,aq3,rfl,s0⟩:=Kx (FU 0 24 v0 rfl rfl) h0
  clear hA0 Uf
  refine Calls.mono (orderCalm t0 W hT rfl s0) (fun e W' ⟨v,he,hv,afY⟩=>?_)
  subst hv;subst he
  have bel:=afY.below
  exact⟨_,rfl,_,_,_,[],_,[],hW',trodAll_mk1 (shut_bool Tryz.underlying4 _),(trodAll_cons_mk (Below.trod laidOut (by kernel_rfl) (of_decide_eq_true (by kernel_rfl)) k0 bel lt0) trodAll_mk0),rfl,bel.frame _,fun h=>by cases h⟩

noncomputable def tE (os:Os):World:=
  {World.holding Tryz.prog os ⟨#[],#[],[]⟩ with heap:=(World.holding Tryz.prog os ⟨#[],#[],[]⟩).heap.modify 0 fun
      | .cells _ t frozen=> .cells #[.int .u8 0,.int .u8 1,.int .u8 56,.int .u8 2,.int .u8 57,.int .u8 49,.int .u8 28,.int .u8 3,.int .u8 61,.int .u8 58,.int .u8 42,.int .u8 50,.int .u8 38,.int .u8 29,.int .u8 17,.int .u8 4,.int .u8 62,.int .u8 47,.int .u8 59,.int .u8 36,.int .u8 45,.int .u8 43,.int .u8 51,.int .u8 22,.int .u8 53,.int .u8 39,.int .u8 33,.int .u8 30,.int .u8 24,.int .u8 18,.int .u8 12,.int .u8 5,.int .u8 63,.int .u8 55,.int .u8 48,.int .u8 27,.int .u8 60,.int .u8 41,.int .u8 37,.int .u8 16,.int .u8 46,.int .u8 35,.int .u8 44,.int .u8 21,.int .u8 52,.int .u8 32,.int .u8 23,.int .u8 11,.int .u8 54,.int .u8 26,.int .u8 40,.int .u8 15,.int .u8 34,.int .u8 20,.int .u8 31,.int .u8 10,.int .u8 25,.int .u8 14,.int .u8 19,.int .u8 9,.int .u8 13,.int .u8 8,.int .u8 7,.int .u8 6] t frozen
      |o=>o}
theorem N7 (os:Os):laidMet Tryz.prog Rows.orderCalmRow.laid ((tE os).forCall (fun _ _=>0) ⟨#[],#[.agg #[.string ⟨#[]⟩,.slice none 0 0]],[]⟩).memory:=
  laidMet_of_run' 8 (by kernel_rfl) (by kernel_rfl)
theorem reads (os:Os) {H:Type} (enc:TypeId×Value->H):∃places,DataW.whole enc Tryz.prog ((tE os).forCall (fun _ _=>0) ⟨#[],#[.agg #[.string ⟨#[]⟩,.slice none 0 0]],[]⟩).memory Tryz.f3.params.toList Rows.orderCalmSpec.vars false (#[.agg #[.string ⟨#[]⟩,.slice none 0 0]] :Array Value).toList 8=some ([.agg [.lit (.string []),.nil]],[],places):=
  ⟨[],by kernel_rfl⟩
set_option maxRecDepth 100000 in
theorem lifted (os:Os) (started:os.Started) (H:Type) (enc:TypeId×Value->H) (F:Stop.Interp):
    ReturnsInHanded {} Tryz.checked os 3 .any ((OpenSpec.ofChange Rows.orderCalmSpec).preRow enc Tryz.prog Tryz.f3 Rows.orderCalmRow.domain false Rows.orderCalmRow.laid) (((OpenSpec.ofChange Rows.orderCalmSpec).at F).post enc Tryz.prog Tryz.f3 false true false false):=by
  obtain ⟨places,hx⟩:=reads os enc
  refine returnsInHanded_of_row (C:=Tryz.checked) (s:=OpenSpec.ofChange Rows.orderCalmSpec) own started (by kernel_rfl) Tryz.func3
    (witness_row_at (enc:=enc) (C:=Tryz.checked) false (tE os) #[.agg #[.string ⟨#[]⟩,.slice none 0 0]] rfl (by kernel_rfl) (by kernel_rfl) (by kernel_rfl)
      (OpenSpec.preRow_of_cond 8 hx (by kernel_rfl) (fun k hk=>by cases hk) (by kernel_rfl) (N7 os))) ?_
  intro W base args ds gs before FU hW _ _ _ hL _ _
  exact contract H enc W base args ds gs before FU hW hL
theorem said:Rows.OrderCalmSaid:=
  OpenClaim.holds_of_cond 3 Tryz.f3 rfl rfl rfl rfl rfl rfl rfl ⟨rfl,rfl,rfl,rfl,rfl⟩ rfl rfl rfl rfl rfl (by kernel_rfl) Tryz.func3 (by kernel_rfl)
    (of_decide_eq_true (by kernel_rfl)) (by unfold Func.isWrapper;first|(rw [if_pos (by decide+kernel)];kernel_rfl)|(rw [if_neg (by decide+kernel)];exact⟨rfl,rfl⟩))
    (fun os started H enc _ F=>by rw [OpenClaim.pre_eq_preRow];exact lifted os started H enc F)
theorem plain (f:FuncId) (fn:Func) (hf:Tryz.pinned.checked.prog.funcNamed "forelock/forelocklaw41.OrderCalm" =some f) (hfn:Tryz.pinned.checked.prog.funcs[f]? =some fn):
    false=Tryz.pinned.checked.prog.looks []/\∀(j:Nat) t,fn.params[j]? =some t->Tryz.pinned.checked.prog.wantsStandIn t=false:=by
  obtain rfl:f=3:=Option.some.inj ((show Tryz.prog.funcNamed "forelock/forelocklaw41.OrderCalm" =some 3 by kernel_rfl).symm.trans hf) |>.symm
  obtain rfl:fn=Tryz.f3:=(Option.some.inj (Tryz.func3.symm.trans hfn)).symm
  refine ⟨by kernel_rfl,fun j t ht=>?_⟩
  rw [Tryz.params3] at ht
  have hm:t∈ [24] :=by have:=Array.mem_of_getElem? ht;simpa using this
  have rJ:([24].all fun t=> !(Tryz.prog.wantsStandIn t))=true:=by kernel_rfl
  have h1:=List.all_eq_true.1 rJ t hm
  have h2:Tryz.prog.wantsStandIn t=false:=by simpa using h1
  exact h2
theorem proved:Rows.OrderCalmCardSaid:=
  Claim7.holds_tied_plain_at .later [] _ _ _ _ said (fun _ h=>by cases h) (by kernel_rfl) (fun _ h=>by cases h) orderCalm_row_tie rfl ⟨rfl,rfl⟩ (by kernel_rfl) rfl plain (by kernel_rfl)
#print axioms proved
end Go.Proofs.YtdimfmnimobmfaaGreatDoor.orderCalm
