/- The statement AuditSafeSaid: the law returns true for every input, and nothing that was there has been changed. No condition. -/
import Derived.Test.YtdimfmnimobmfaaGreatM2
import Derived.Test.YtdimfmnimobmfaaGreatM7
import Derived.ProofKit
import Derived.OpenShut
import Derived.ShutString
import Derived.ChangeOld
import Derived.Below
namespace Go.Proofs.YtdimfmnimobmfaaGreat.auditSafe
open Go.ChangeShapes Go.WideShapes Go.ChangeAt Go.RowKit Go.Eng
open Go.ChangeMaps (open_string shut_string)

theorem own:ownKnob Tryz.prog.godebug=none:=by kernel_rfl
theorem laidOut:laidOutB Tryz.prog=true:=by kernel_rfl

set_option maxRecDepth 100000 in
theorem lifted (os:Os) (started:os.Started) (H:Type) (enc:TypeId×Value→H):
    ReturnsInHanded {} Tryz.checked os 3 .any (Rows.auditSafeSpec.pre6 enc Tryz.prog Tryz.f3 Rows.auditSafeRow.domain false) (Rows.auditSafeSpec.post enc Tryz.prog Tryz.f3 false true false false):=by
  refine returnsInHanded_of_change (C:=Tryz.checked) own started (by kernel_rfl) Tryz.func3
    (ChangeSpec.witness6 (enc:=enc) (C:=Tryz.checked) false ⟨#[],#[.agg #[.string ⟨#[]⟩,.slice none 0 0]],[]⟩ 8 (by kernel_rfl) (by kernel_rfl) (by kernel_rfl) (by kernel_rfl)) ?_
  intro W base args ds gs before P5 hW _ Mu
  have Jw:∀(j:Nat) t v,Tryz.f3.params[j]? =some t→args[j]? =some v→Value.okWide Tryz.prog W .any base t v:=P5
  have hW':=hW
  obtain ⟨p,q,hA0,hV,rfl,hfz,dt⟩:=hW
  have hA:DataW.TrodAll enc Tryz.prog W 0 (fun _=>true) true Tryz.f3.params.toList args.toList ds p:=hA0
  rw [Tryz.params3] at hA Jw
  obtain ⟨v0,vs0,d0,ds0,p0,q0,agV,rfl,rfl,h0,r0⟩:=trodAll_cons hA
  obtain ⟨rfl,rfl,rfl⟩:=trodAll_nil r0
  obtain rfl:args=#[v0] :=by cases args;simp_all
  obtain ⟨rfl,rfl⟩:=trodVars_none hV
  have k0:=h0
  have lt0:∀x∈p0,x.block<W.heap.size:=by obtain ⟨m,hm⟩:=k0;exact DataW.trod_lt m _ _ _ hm
  obtain ⟨t0,z0,ad0,aiU,rfl,s0⟩:=Hj (Jw 0 24 v0 rfl rfl) h0
  clear hA0 P5
  refine Calls.mono (auditSafe t0 W rfl s0) (fun e W' ⟨v,he,hv,ac2⟩=>?_)
  subst hv;subst he
  have bel:=ac2.below
  exact⟨_,rfl,_,_,_,[],_,[],hW',trodAll_mk1 (shut_bool Tryz.underlying4 _),(trodAll_cons_mk (Below.trod laidOut (by kernel_rfl) (of_decide_eq_true (by kernel_rfl)) k0 bel lt0) trodAll_mk0),rfl,bel.frame _,fun h=>by cases h⟩

theorem over:Rows.auditSafeRow.holds Tryz.pinned (OpenSpec.ofChange Rows.auditSafeSpec):=
  OpenClaim.holds_of_wide 3 Tryz.f3 rfl rfl rfl rfl rfl rfl rfl ⟨rfl,rfl,rfl,rfl,rfl⟩ rfl rfl rfl rfl rfl (by kernel_rfl) Tryz.func3 (by kernel_rfl)
    (of_decide_eq_true (by kernel_rfl)) (by unfold Func.isWrapper;rw [if_neg (of_decide_eq_false (by kernel_rfl))];exact⟨rfl,rfl⟩)
    (fun os started H enc _=>lifted os started H enc)
theorem proved:Rows.AuditSafeSaid:=over
#print axioms proved
end Go.Proofs.YtdimfmnimobmfaaGreat.auditSafe
