/- The walks of an audit: how stays end, which meet. No condition. -/
import Derived.Test.YtpemcncnehhgfaaAudLaw
import Derived.Test.YtpemcncnehhgfaaRows
set_option linter.unusedVariables false
set_option linter.unusedSimpArgs false
namespace Go.Eng
open Go Go.Proofs Go.RowKit

set_option maxRecDepth 100000 in
theorem waitEnd_spec (s : St) (e : Ev) (w : World) : Ret Try.prog 63 #[.agg (fT s).toArray, .agg (fE e).toArray] w (fun v w' => v = .int .i64 (waitEnd s e) ∧ Ext w w') := by
  refine Ret.enterM (l := [.agg (fT s).toArray, .agg (fE e).toArray]) Try.func63 rfl Try.ntmps63 rfl ([]) (no) (Mem.nil w) ?_
  refine wpM.seq ?_
  refine wpM.region ?_
  refine LM.box rfl rfl (fun b2 hb2 => ?_)
  refine LM.box rfl rfl (fun b3 hb3 => ?_)
  refine LM.val (ov_assign rfl) ?_
  refine LM.nil ?_
  refine QM.sub (e' := [(2, _), (3, _)]) ⟨rfl, rfl, trivial⟩ ?_
  refine QM.then ?_
  refine wpM.seq ?_
  refine wpM.block ?_
  refine wpM.seq ?_
  refine wpM.region ?_
  refine LM.val (ov_field Try.underlying97 rfl Try.sizeOf3 rfl (k := 1) rfl rfl) ?_
  first | refine LM.rd (om_load 0 Try.isAgg3 rfl rfl rfl) ?_ | refine LM.rd (om_load 1 Try.isAgg3 rfl rfl rfl) ?_ | refine LM.rd (om_load 2 Try.isAgg3 rfl rfl rfl) ?_ | refine LM.rd (om_load 3 Try.isAgg3 rfl rfl rfl) ?_ | refine LM.rd (om_load 4 Try.isAgg3 rfl rfl rfl) ?_ | refine LM.rd (om_load 5 Try.isAgg3 rfl rfl rfl) ?_ | refine LM.rd (om_load 6 Try.isAgg3 rfl rfl rfl) ?_ | refine LM.rd (om_load 7 Try.isAgg3 rfl rfl rfl) ?_ | refine LM.rd (om_load 8 Try.isAgg3 rfl rfl rfl) ?_
  refine LM.val (ov_eql rfl rfl) ?_
  refine LM.val (ov_assign rfl) ?_
  refine LM.nil ?_
  refine QM.sub (e' := [(2, _), (3, _), (5, _)]) ⟨rfl, rfl, rfl, trivial⟩ ?_
  refine QM.then ?_
  first | refine wpM.condD rfl (fun h1 => ?_) (fun h1 => ?_) | refine wpM.condB rfl (fun h1 => ?_) (fun h1 => ?_)
  ·
    refine wpM.seq ?_
    refine wpM.region ?_
    refine LM.val (ov_assign rfl) ?_
    refine LM.nil ?_
    refine QM.sub (e' := [(4, _)]) ⟨rfl, trivial⟩ ?_
    refine QM.then ?_
    refine wpM.ret ?_
    refine QM.block_ret ?_
    refine QM.then_ret ?_
    refine QM.leave (.inl rfl) [.tmp 4] Try.results63 rfl ?_
    intro w' hm' hc' hg'
    -- leaf 1: h1+
    refine ⟨?_, hc'⟩; simp only [resV, waitEnd]; congr 1; (repeat' split) <;> first | rfl | omega
  ·
    refine wpM.seq ?_
    refine wpM.region ?_
    refine LM.val (ov_field Try.underlying97 rfl Try.sizeOf3 rfl (k := 3) rfl rfl) ?_
    first | refine LM.rd (om_load 0 Try.isAgg3 rfl rfl rfl) ?_ | refine LM.rd (om_load 1 Try.isAgg3 rfl rfl rfl) ?_ | refine LM.rd (om_load 2 Try.isAgg3 rfl rfl rfl) ?_ | refine LM.rd (om_load 3 Try.isAgg3 rfl rfl rfl) ?_ | refine LM.rd (om_load 4 Try.isAgg3 rfl rfl rfl) ?_ | refine LM.rd (om_load 5 Try.isAgg3 rfl rfl rfl) ?_ | refine LM.rd (om_load 6 Try.isAgg3 rfl rfl rfl) ?_ | refine LM.rd (om_load 7 Try.isAgg3 rfl rfl rfl) ?_ | refine LM.rd (om_load 8 Try.isAgg3 rfl rfl rfl) ?_
    refine LM.val (ov_field Try.underlying72 rfl Try.sizeOf3 rfl (k := 1) rfl rfl) ?_
    first | refine LM.rd (om_load 0 Try.isAgg3 rfl rfl rfl) ?_ | refine LM.rd (om_load 1 Try.isAgg3 rfl rfl rfl) ?_ | refine LM.rd (om_load 2 Try.isAgg3 rfl rfl rfl) ?_ | refine LM.rd (om_load 3 Try.isAgg3 rfl rfl rfl) ?_ | refine LM.rd (om_load 4 Try.isAgg3 rfl rfl rfl) ?_ | refine LM.rd (om_load 5 Try.isAgg3 rfl rfl rfl) ?_ | refine LM.rd (om_load 6 Try.isAgg3 rfl rfl rfl) ?_ | refine LM.rd (om_load 7 Try.isAgg3 rfl rfl rfl) ?_ | refine LM.rd (om_load 8 Try.isAgg3 rfl rfl rfl) ?_
    refine LM.val (ov_neq rfl rfl) ?_
    refine LM.val (ov_assign rfl) ?_
    refine LM.nil ?_
    refine QM.sub (e' := [(3, _), (9, _)]) ⟨rfl, rfl, trivial⟩ ?_
    refine QM.then ?_
    first | refine wpM.condD rfl (fun h2 => ?_) (fun h2 => ?_) | refine wpM.condB rfl (fun h2 => ?_) (fun h2 => ?_)
    ·
      refine wpM.seq ?_
      refine wpM.region ?_
      refine LM.val (ov_assign rfl) ?_
      refine LM.nil ?_
      refine QM.sub (e' := [(4, _)]) ⟨rfl, trivial⟩ ?_
      refine QM.then ?_
      refine wpM.ret ?_
      refine QM.block_ret ?_
      refine QM.then_ret ?_
      refine QM.leave (.inl rfl) [.tmp 4] Try.results63 rfl ?_
      intro w' hm' hc' hg'
      -- leaf 2: h1- h2+
      refine ⟨?_, hc'⟩; simp only [resV, waitEnd]; congr 1; (repeat' split) <;> first | rfl | omega
    ·
      refine wpM.seq ?_
      refine wpM.region ?_
      refine LM.val (ov_field Try.underlying97 rfl Try.sizeOf3 rfl (k := 1) rfl rfl) ?_
      first | refine LM.rd (om_load 0 Try.isAgg3 rfl rfl rfl) ?_ | refine LM.rd (om_load 1 Try.isAgg3 rfl rfl rfl) ?_ | refine LM.rd (om_load 2 Try.isAgg3 rfl rfl rfl) ?_ | refine LM.rd (om_load 3 Try.isAgg3 rfl rfl rfl) ?_ | refine LM.rd (om_load 4 Try.isAgg3 rfl rfl rfl) ?_ | refine LM.rd (om_load 5 Try.isAgg3 rfl rfl rfl) ?_ | refine LM.rd (om_load 6 Try.isAgg3 rfl rfl rfl) ?_ | refine LM.rd (om_load 7 Try.isAgg3 rfl rfl rfl) ?_ | refine LM.rd (om_load 8 Try.isAgg3 rfl rfl rfl) ?_
      refine LM.val (ov_eql rfl rfl) ?_
      refine LM.val (ov_assign rfl) ?_
      refine LM.nil ?_
      refine QM.sub (e' := [(3, _), (15, _)]) ⟨rfl, rfl, trivial⟩ ?_
      refine QM.then ?_
      first | refine wpM.condD rfl (fun h3 => ?_) (fun h3 => ?_) | refine wpM.condB rfl (fun h3 => ?_) (fun h3 => ?_)
      ·
        refine wpM.seq ?_
        refine wpM.region ?_
        refine LM.val (ov_assign rfl) ?_
        refine LM.nil ?_
        refine QM.sub (e' := [(4, _)]) ⟨rfl, trivial⟩ ?_
        refine QM.then ?_
        refine wpM.ret ?_
        refine QM.block_ret ?_
        refine QM.then_ret ?_
        refine QM.leave (.inl rfl) [.tmp 4] Try.results63 rfl ?_
        intro w' hm' hc' hg'
        -- leaf 3: h1- h2- h3+
        refine ⟨?_, hc'⟩; simp only [resV, waitEnd]; congr 1; (repeat' split) <;> first | rfl | omega
      ·
        refine wpM.seq ?_
        refine wpM.region ?_
        refine LM.val (ov_field Try.underlying97 rfl Try.sizeOf3 rfl (k := 1) rfl rfl) ?_
        first | refine LM.rd (om_load 0 Try.isAgg3 rfl rfl rfl) ?_ | refine LM.rd (om_load 1 Try.isAgg3 rfl rfl rfl) ?_ | refine LM.rd (om_load 2 Try.isAgg3 rfl rfl rfl) ?_ | refine LM.rd (om_load 3 Try.isAgg3 rfl rfl rfl) ?_ | refine LM.rd (om_load 4 Try.isAgg3 rfl rfl rfl) ?_ | refine LM.rd (om_load 5 Try.isAgg3 rfl rfl rfl) ?_ | refine LM.rd (om_load 6 Try.isAgg3 rfl rfl rfl) ?_ | refine LM.rd (om_load 7 Try.isAgg3 rfl rfl rfl) ?_ | refine LM.rd (om_load 8 Try.isAgg3 rfl rfl rfl) ?_
        refine LM.val (ov_eql rfl rfl) ?_
        refine LM.val (ov_assign rfl) ?_
        refine LM.nil ?_
        refine QM.sub (e' := [(19, _)]) ⟨rfl, trivial⟩ ?_
        refine QM.then ?_
        first | refine wpM.condD rfl (fun h4 => ?_) (fun h4 => ?_) | refine wpM.condB rfl (fun h4 => ?_) (fun h4 => ?_)
        ·
          refine wpM.seq ?_
          refine wpM.region ?_
          refine LM.val (ov_assign rfl) ?_
          refine LM.nil ?_
          refine QM.sub (e' := [(4, _)]) ⟨rfl, trivial⟩ ?_
          refine QM.then ?_
          refine wpM.ret ?_
          refine QM.block_ret ?_
          refine QM.then_ret ?_
          refine QM.leave (.inl rfl) [.tmp 4] Try.results63 rfl ?_
          intro w' hm' hc' hg'
          -- leaf 4: h1- h2- h3- h4+
          refine ⟨?_, hc'⟩; simp only [resV, waitEnd]; congr 1; (repeat' split) <;> first | rfl | omega
        ·
          refine wpM.skip ?_
          refine QM.block_normal ?_
          refine QM.then ?_
          refine wpM.seq ?_
          refine wpM.region ?_
          refine LM.val (ov_assign rfl) ?_
          refine LM.nil ?_
          refine QM.sub (e' := [(4, _)]) ⟨rfl, trivial⟩ ?_
          refine QM.then ?_
          refine wpM.ret ?_
          refine QM.leave (.inl rfl) [.tmp 4] Try.results63 rfl ?_
          intro w' hm' hc' hg'
          -- leaf 5: h1- h2- h3- h4-
          refine ⟨?_, hc'⟩; simp only [resV, waitEnd]; congr 1; (repeat' split) <;> first | rfl | omega

set_option maxRecDepth 100000 in
theorem holdEnd_spec (s : St) (e : Ev) (w : World) : Ret Try.prog 65 #[.agg (fT s).toArray, .agg (fE e).toArray] w (fun v w' => v = .int .i64 (holdEnd s e) ∧ Ext w w') := by
  refine Ret.enterM (l := [.agg (fT s).toArray, .agg (fE e).toArray]) Try.func65 rfl Try.ntmps65 rfl ([]) (no) (Mem.nil w) ?_
  refine wpM.seq ?_
  refine wpM.region ?_
  refine LM.box rfl rfl (fun b2 hb2 => ?_)
  refine LM.box rfl rfl (fun b3 hb3 => ?_)
  refine LM.val (ov_assign rfl) ?_
  refine LM.nil ?_
  refine QM.sub (e' := [(2, _), (3, _)]) ⟨rfl, rfl, trivial⟩ ?_
  refine QM.then ?_
  refine wpM.seq ?_
  refine wpM.block ?_
  refine wpM.seq ?_
  refine wpM.region ?_
  refine LM.val (ov_field Try.underlying97 rfl Try.sizeOf3 rfl (k := 3) rfl rfl) ?_
  first | refine LM.rd (om_load 0 Try.isAgg3 rfl rfl rfl) ?_ | refine LM.rd (om_load 1 Try.isAgg3 rfl rfl rfl) ?_ | refine LM.rd (om_load 2 Try.isAgg3 rfl rfl rfl) ?_ | refine LM.rd (om_load 3 Try.isAgg3 rfl rfl rfl) ?_ | refine LM.rd (om_load 4 Try.isAgg3 rfl rfl rfl) ?_ | refine LM.rd (om_load 5 Try.isAgg3 rfl rfl rfl) ?_ | refine LM.rd (om_load 6 Try.isAgg3 rfl rfl rfl) ?_ | refine LM.rd (om_load 7 Try.isAgg3 rfl rfl rfl) ?_ | refine LM.rd (om_load 8 Try.isAgg3 rfl rfl rfl) ?_
  refine LM.val (ov_field Try.underlying72 rfl Try.sizeOf3 rfl (k := 1) rfl rfl) ?_
  first | refine LM.rd (om_load 0 Try.isAgg3 rfl rfl rfl) ?_ | refine LM.rd (om_load 1 Try.isAgg3 rfl rfl rfl) ?_ | refine LM.rd (om_load 2 Try.isAgg3 rfl rfl rfl) ?_ | refine LM.rd (om_load 3 Try.isAgg3 rfl rfl rfl) ?_ | refine LM.rd (om_load 4 Try.isAgg3 rfl rfl rfl) ?_ | refine LM.rd (om_load 5 Try.isAgg3 rfl rfl rfl) ?_ | refine LM.rd (om_load 6 Try.isAgg3 rfl rfl rfl) ?_ | refine LM.rd (om_load 7 Try.isAgg3 rfl rfl rfl) ?_ | refine LM.rd (om_load 8 Try.isAgg3 rfl rfl rfl) ?_
  refine LM.val (ov_neq rfl rfl) ?_
  refine LM.val (ov_assign rfl) ?_
  refine LM.nil ?_
  refine QM.sub (e' := [(3, _), (5, _)]) ⟨rfl, rfl, trivial⟩ ?_
  refine QM.then ?_
  first | refine wpM.condD rfl (fun h1 => ?_) (fun h1 => ?_) | refine wpM.condB rfl (fun h1 => ?_) (fun h1 => ?_)
  ·
    refine wpM.seq ?_
    refine wpM.region ?_
    refine LM.val (ov_assign rfl) ?_
    refine LM.nil ?_
    refine QM.sub (e' := [(4, _)]) ⟨rfl, trivial⟩ ?_
    refine QM.then ?_
    refine wpM.ret ?_
    refine QM.block_ret ?_
    refine QM.then_ret ?_
    refine QM.leave (.inl rfl) [.tmp 4] Try.results65 rfl ?_
    intro w' hm' hc' hg'
    -- leaf 1: h1+
    refine ⟨?_, hc'⟩; simp only [resV, holdEnd]; congr 1; (repeat' split) <;> first | rfl | omega
  ·
    refine wpM.seq ?_
    refine wpM.region ?_
    refine LM.val (ov_field Try.underlying97 rfl Try.sizeOf3 rfl (k := 1) rfl rfl) ?_
    first | refine LM.rd (om_load 0 Try.isAgg3 rfl rfl rfl) ?_ | refine LM.rd (om_load 1 Try.isAgg3 rfl rfl rfl) ?_ | refine LM.rd (om_load 2 Try.isAgg3 rfl rfl rfl) ?_ | refine LM.rd (om_load 3 Try.isAgg3 rfl rfl rfl) ?_ | refine LM.rd (om_load 4 Try.isAgg3 rfl rfl rfl) ?_ | refine LM.rd (om_load 5 Try.isAgg3 rfl rfl rfl) ?_ | refine LM.rd (om_load 6 Try.isAgg3 rfl rfl rfl) ?_ | refine LM.rd (om_load 7 Try.isAgg3 rfl rfl rfl) ?_ | refine LM.rd (om_load 8 Try.isAgg3 rfl rfl rfl) ?_
    refine LM.val (ov_eql rfl rfl) ?_
    refine LM.val (ov_assign rfl) ?_
    refine LM.nil ?_
    refine QM.sub (e' := [(3, _), (11, _)]) ⟨rfl, rfl, trivial⟩ ?_
    refine QM.then ?_
    first | refine wpM.condD rfl (fun h2 => ?_) (fun h2 => ?_) | refine wpM.condB rfl (fun h2 => ?_) (fun h2 => ?_)
    ·
      refine wpM.seq ?_
      refine wpM.region ?_
      refine LM.val (ov_assign rfl) ?_
      refine LM.nil ?_
      refine QM.sub (e' := [(4, _)]) ⟨rfl, trivial⟩ ?_
      refine QM.then ?_
      refine wpM.ret ?_
      refine QM.block_ret ?_
      refine QM.then_ret ?_
      refine QM.leave (.inl rfl) [.tmp 4] Try.results65 rfl ?_
      intro w' hm' hc' hg'
      -- leaf 2: h1- h2+
      refine ⟨?_, hc'⟩; simp only [resV, holdEnd]; congr 1; (repeat' split) <;> first | rfl | omega
    ·
      refine wpM.seq ?_
      refine wpM.region ?_
      refine LM.val (ov_field Try.underlying97 rfl Try.sizeOf3 rfl (k := 1) rfl rfl) ?_
      first | refine LM.rd (om_load 0 Try.isAgg3 rfl rfl rfl) ?_ | refine LM.rd (om_load 1 Try.isAgg3 rfl rfl rfl) ?_ | refine LM.rd (om_load 2 Try.isAgg3 rfl rfl rfl) ?_ | refine LM.rd (om_load 3 Try.isAgg3 rfl rfl rfl) ?_ | refine LM.rd (om_load 4 Try.isAgg3 rfl rfl rfl) ?_ | refine LM.rd (om_load 5 Try.isAgg3 rfl rfl rfl) ?_ | refine LM.rd (om_load 6 Try.isAgg3 rfl rfl rfl) ?_ | refine LM.rd (om_load 7 Try.isAgg3 rfl rfl rfl) ?_ | refine LM.rd (om_load 8 Try.isAgg3 rfl rfl rfl) ?_
      refine LM.val (ov_eql rfl rfl) ?_
      refine LM.val (ov_assign rfl) ?_
      refine LM.nil ?_
      refine QM.sub (e' := [(15, _)]) ⟨rfl, trivial⟩ ?_
      refine QM.then ?_
      first | refine wpM.condD rfl (fun h3 => ?_) (fun h3 => ?_) | refine wpM.condB rfl (fun h3 => ?_) (fun h3 => ?_)
      ·
        refine wpM.seq ?_
        refine wpM.region ?_
        refine LM.val (ov_assign rfl) ?_
        refine LM.nil ?_
        refine QM.sub (e' := [(4, _)]) ⟨rfl, trivial⟩ ?_
        refine QM.then ?_
        refine wpM.ret ?_
        refine QM.block_ret ?_
        refine QM.then_ret ?_
        refine QM.leave (.inl rfl) [.tmp 4] Try.results65 rfl ?_
        intro w' hm' hc' hg'
        -- leaf 3: h1- h2- h3+
        refine ⟨?_, hc'⟩; simp only [resV, holdEnd]; congr 1; (repeat' split) <;> first | rfl | omega
      ·
        refine wpM.skip ?_
        refine QM.block_normal ?_
        refine QM.then ?_
        refine wpM.seq ?_
        refine wpM.region ?_
        refine LM.val (ov_assign rfl) ?_
        refine LM.nil ?_
        refine QM.sub (e' := [(4, _)]) ⟨rfl, trivial⟩ ?_
        refine QM.then ?_
        refine wpM.ret ?_
        refine QM.leave (.inl rfl) [.tmp 4] Try.results65 rfl ?_
        intro w' hm' hc' hg'
        -- leaf 4: h1- h2- h3-
        refine ⟨?_, hc'⟩; simp only [resV, holdEnd]; congr 1; (repeat' split) <;> first | rfl | omega

set_option maxRecDepth 100000 in
theorem meets_spec (a b : St) (w : World) : Ret Try.prog 66 #[.agg (fT a).toArray, .agg (fT b).toArray] w (fun v w' => v = .bool (meetsB a b) ∧ Ext w w') := by
  refine Ret.enterM (l := [.agg (fT a).toArray, .agg (fT b).toArray]) Try.func66 rfl Try.ntmps66 rfl ([]) (no) (Mem.nil w) ?_
  refine wpM.seq ?_
  refine wpM.region ?_
  refine LM.box rfl rfl (fun b2 hb2 => ?_)
  refine LM.box rfl rfl (fun b3 hb3 => ?_)
  refine LM.val (ov_assign rfl) ?_
  refine LM.nil ?_
  refine QM.sub (e' := [(2, _), (3, _)]) ⟨rfl, rfl, trivial⟩ ?_
  refine QM.then ?_
  refine wpM.seq ?_
  refine wpM.region ?_
  refine LM.val (ov_field Try.underlying72 rfl Try.sizeOf3 rfl (k := 4) rfl rfl) ?_
  first | refine LM.rd (om_load 0 Try.isAgg3 rfl rfl rfl) ?_ | refine LM.rd (om_load 1 Try.isAgg3 rfl rfl rfl) ?_ | refine LM.rd (om_load 2 Try.isAgg3 rfl rfl rfl) ?_ | refine LM.rd (om_load 3 Try.isAgg3 rfl rfl rfl) ?_ | refine LM.rd (om_load 4 Try.isAgg3 rfl rfl rfl) ?_ | refine LM.rd (om_load 5 Try.isAgg3 rfl rfl rfl) ?_ | refine LM.rd (om_load 6 Try.isAgg3 rfl rfl rfl) ?_ | refine LM.rd (om_load 7 Try.isAgg3 rfl rfl rfl) ?_ | refine LM.rd (om_load 8 Try.isAgg3 rfl rfl rfl) ?_
  refine LM.val (ov_eql rfl rfl) ?_
  refine LM.val (ov_move rfl) ?_
  first | refine LM.splitD (t := 8) rfl (fun h1 => ?_) (fun h1 => ?_) | refine LM.splitB (t := 8) rfl (fun h1 => ?_) (fun h1 => ?_)
  ·
    refine LM.drop (t := 8) rfl rfl rfl ?_
    refine LM.drop (t := 8) rfl rfl rfl ?_
    refine LM.drop (t := 8) rfl rfl rfl ?_
    refine LM.drop (t := 8) rfl rfl rfl ?_
    refine LM.drop (t := 8) rfl rfl rfl ?_
    refine LM.val (ov_pickT rfl rfl) ?_
    refine LM.val (ov_assign rfl) ?_
    refine LM.nil ?_
    refine QM.sub (e' := [(4, _)]) ⟨rfl, trivial⟩ ?_
    refine QM.then ?_
    refine wpM.ret ?_
    refine QM.leave (.inl rfl) [.tmp 4] Try.results66 rfl ?_
    intro w' hm' hc' hg'
    -- leaf 1: h1+
    refine ⟨?_, hc'⟩; simp only [resV, meetsB]; congr 1; simp_all
  ·
    refine LM.strip (t := 8) rfl rfl rfl ?_
    refine LM.val (ov_field Try.underlying72 rfl Try.sizeOf22 rfl (k := 2) rfl rfl) ?_
    refine LM.strip (t := 8) rfl rfl rfl ?_
    first | refine LM.rd (om_load 0 Try.isAgg22 rfl rfl rfl) ?_ | refine LM.rd (om_load 1 Try.isAgg22 rfl rfl rfl) ?_ | refine LM.rd (om_load 2 Try.isAgg22 rfl rfl rfl) ?_ | refine LM.rd (om_load 3 Try.isAgg22 rfl rfl rfl) ?_ | refine LM.rd (om_load 4 Try.isAgg22 rfl rfl rfl) ?_ | refine LM.rd (om_load 5 Try.isAgg22 rfl rfl rfl) ?_ | refine LM.rd (om_load 6 Try.isAgg22 rfl rfl rfl) ?_ | refine LM.rd (om_load 7 Try.isAgg22 rfl rfl rfl) ?_ | refine LM.rd (om_load 8 Try.isAgg22 rfl rfl rfl) ?_
    refine LM.strip (t := 8) rfl rfl rfl ?_
    refine LM.val (ov_field Try.underlying72 rfl Try.sizeOf22 rfl (k := 3) rfl rfl) ?_
    refine LM.strip (t := 8) rfl rfl rfl ?_
    first | refine LM.rd (om_load 0 Try.isAgg22 rfl rfl rfl) ?_ | refine LM.rd (om_load 1 Try.isAgg22 rfl rfl rfl) ?_ | refine LM.rd (om_load 2 Try.isAgg22 rfl rfl rfl) ?_ | refine LM.rd (om_load 3 Try.isAgg22 rfl rfl rfl) ?_ | refine LM.rd (om_load 4 Try.isAgg22 rfl rfl rfl) ?_ | refine LM.rd (om_load 5 Try.isAgg22 rfl rfl rfl) ?_ | refine LM.rd (om_load 6 Try.isAgg22 rfl rfl rfl) ?_ | refine LM.rd (om_load 7 Try.isAgg22 rfl rfl rfl) ?_ | refine LM.rd (om_load 8 Try.isAgg22 rfl rfl rfl) ?_
    refine LM.strip (t := 8) rfl rfl rfl ?_
    refine LM.val (ov_ulss rfl rfl) ?_
    refine LM.val (ov_pickF rfl rfl) ?_
    refine LM.val (ov_assign rfl) ?_
    refine LM.nil ?_
    refine QM.sub (e' := [(4, _)]) ⟨rfl, trivial⟩ ?_
    refine QM.then ?_
    refine wpM.ret ?_
    refine QM.leave (.inl rfl) [.tmp 4] Try.results66 rfl ?_
    intro w' hm' hc' hg'
    -- leaf 2: h1-
    refine ⟨?_, hc'⟩; simp only [resV, meetsB]; congr 1; simp_all

set_option maxRecDepth 100000 in
theorem ends_spec (b e : Ev) (w : World) : Ret Try.prog 64 #[.agg (fE b).toArray, .agg (fE e).toArray] w (fun v w' => v = .int .i64 (endsF b e) ∧ Ext w w') := by
  refine Ret.enterM (l := [.agg (fE b).toArray, .agg (fE e).toArray]) Try.func64 rfl Try.ntmps64 rfl ([]) (no) (Mem.nil w) ?_
  refine wpM.seq ?_
  refine wpM.region ?_
  refine LM.box rfl rfl (fun b2 hb2 => ?_)
  refine LM.box rfl rfl (fun b3 hb3 => ?_)
  refine LM.val (ov_assign rfl) ?_
  refine LM.nil ?_
  refine QM.sub (e' := [(2, _), (3, _)]) ⟨rfl, rfl, trivial⟩ ?_
  refine QM.then ?_
  refine wpM.seq ?_
  refine wpM.seq ?_
  refine wpM.region ?_
  refine LM.val (ov_field Try.underlying97 rfl Try.sizeOf3 rfl (k := 2) rfl rfl) ?_
  first | refine LM.rd (om_load 0 Try.isAgg3 rfl rfl rfl) ?_ | refine LM.rd (om_load 1 Try.isAgg3 rfl rfl rfl) ?_ | refine LM.rd (om_load 2 Try.isAgg3 rfl rfl rfl) ?_ | refine LM.rd (om_load 3 Try.isAgg3 rfl rfl rfl) ?_ | refine LM.rd (om_load 4 Try.isAgg3 rfl rfl rfl) ?_ | refine LM.rd (om_load 5 Try.isAgg3 rfl rfl rfl) ?_ | refine LM.rd (om_load 6 Try.isAgg3 rfl rfl rfl) ?_ | refine LM.rd (om_load 7 Try.isAgg3 rfl rfl rfl) ?_ | refine LM.rd (om_load 8 Try.isAgg3 rfl rfl rfl) ?_
  refine LM.val (ov_field Try.underlying97 rfl Try.sizeOf3 rfl (k := 2) rfl rfl) ?_
  first | refine LM.rd (om_load 0 Try.isAgg3 rfl rfl rfl) ?_ | refine LM.rd (om_load 1 Try.isAgg3 rfl rfl rfl) ?_ | refine LM.rd (om_load 2 Try.isAgg3 rfl rfl rfl) ?_ | refine LM.rd (om_load 3 Try.isAgg3 rfl rfl rfl) ?_ | refine LM.rd (om_load 4 Try.isAgg3 rfl rfl rfl) ?_ | refine LM.rd (om_load 5 Try.isAgg3 rfl rfl rfl) ?_ | refine LM.rd (om_load 6 Try.isAgg3 rfl rfl rfl) ?_ | refine LM.rd (om_load 7 Try.isAgg3 rfl rfl rfl) ?_ | refine LM.rd (om_load 8 Try.isAgg3 rfl rfl rfl) ?_
  refine LM.val (ov_neq rfl rfl) ?_
  refine LM.nil ?_
  refine QM.sub (e' := [(2, _), (3, _), (9, _)]) ⟨rfl, rfl, rfl, trivial⟩ ?_
  refine QM.then ?_
  first | refine wpM.condD rfl (fun h1 => ?_) (fun h1 => ?_) | refine wpM.condB rfl (fun h1 => ?_) (fun h1 => ?_)
  ·
    refine wpM.seq ?_
    refine wpM.region ?_
    refine LM.val (ov_assign rfl) ?_
    refine LM.nil ?_
    refine QM.sub (e' := [(4, _)]) ⟨rfl, trivial⟩ ?_
    refine QM.then ?_
    refine wpM.ret ?_
    refine QM.then_ret ?_
    refine QM.leave (.inl rfl) [.tmp 4] Try.results64 rfl ?_
    intro w' hm' hc' hg'
    -- leaf 1: h1+
    refine ⟨?_, hc'⟩; simp only [resV, endsF]; congr 1; (repeat' split) <;> first | rfl | omega
  ·
    refine wpM.skip ?_
    refine QM.then ?_
    refine wpM.seq ?_
    refine wpM.seq ?_
    refine wpM.region ?_
    refine LM.val (ov_field Try.underlying97 rfl Try.sizeOf3 rfl (k := 1) rfl rfl) ?_
    first | refine LM.rd (om_load 0 Try.isAgg3 rfl rfl rfl) ?_ | refine LM.rd (om_load 1 Try.isAgg3 rfl rfl rfl) ?_ | refine LM.rd (om_load 2 Try.isAgg3 rfl rfl rfl) ?_ | refine LM.rd (om_load 3 Try.isAgg3 rfl rfl rfl) ?_ | refine LM.rd (om_load 4 Try.isAgg3 rfl rfl rfl) ?_ | refine LM.rd (om_load 5 Try.isAgg3 rfl rfl rfl) ?_ | refine LM.rd (om_load 6 Try.isAgg3 rfl rfl rfl) ?_ | refine LM.rd (om_load 7 Try.isAgg3 rfl rfl rfl) ?_ | refine LM.rd (om_load 8 Try.isAgg3 rfl rfl rfl) ?_
    refine LM.val (ov_eql rfl rfl) ?_
    refine LM.nil ?_
    refine QM.sub (e' := [(2, _), (3, _), (12, _)]) ⟨rfl, rfl, rfl, trivial⟩ ?_
    refine QM.then ?_
    first | refine wpM.condD rfl (fun h2 => ?_) (fun h2 => ?_) | refine wpM.condB rfl (fun h2 => ?_) (fun h2 => ?_)
    ·
      refine wpM.seq ?_
      refine wpM.seq ?_
      refine wpM.region ?_
      refine LM.val (ov_field Try.underlying97 rfl Try.sizeOf3 rfl (k := 1) rfl rfl) ?_
      first | refine LM.rd (om_load 0 Try.isAgg3 rfl rfl rfl) ?_ | refine LM.rd (om_load 1 Try.isAgg3 rfl rfl rfl) ?_ | refine LM.rd (om_load 2 Try.isAgg3 rfl rfl rfl) ?_ | refine LM.rd (om_load 3 Try.isAgg3 rfl rfl rfl) ?_ | refine LM.rd (om_load 4 Try.isAgg3 rfl rfl rfl) ?_ | refine LM.rd (om_load 5 Try.isAgg3 rfl rfl rfl) ?_ | refine LM.rd (om_load 6 Try.isAgg3 rfl rfl rfl) ?_ | refine LM.rd (om_load 7 Try.isAgg3 rfl rfl rfl) ?_ | refine LM.rd (om_load 8 Try.isAgg3 rfl rfl rfl) ?_
      refine LM.val (ov_eql rfl rfl) ?_
      refine LM.val (ov_move rfl) ?_
      first | refine LM.splitD (t := 16) rfl (fun h3 => ?_) (fun h3 => ?_) | refine LM.splitB (t := 16) rfl (fun h3 => ?_) (fun h3 => ?_)
      ·
        refine LM.strip (t := 16) rfl rfl rfl ?_
        refine LM.val (ov_field Try.underlying97 rfl Try.sizeOf3 rfl (k := 3) rfl rfl) ?_
        refine LM.strip (t := 16) rfl rfl rfl ?_
        first | refine LM.rd (om_load 0 Try.isAgg3 rfl rfl rfl) ?_ | refine LM.rd (om_load 1 Try.isAgg3 rfl rfl rfl) ?_ | refine LM.rd (om_load 2 Try.isAgg3 rfl rfl rfl) ?_ | refine LM.rd (om_load 3 Try.isAgg3 rfl rfl rfl) ?_ | refine LM.rd (om_load 4 Try.isAgg3 rfl rfl rfl) ?_ | refine LM.rd (om_load 5 Try.isAgg3 rfl rfl rfl) ?_ | refine LM.rd (om_load 6 Try.isAgg3 rfl rfl rfl) ?_ | refine LM.rd (om_load 7 Try.isAgg3 rfl rfl rfl) ?_ | refine LM.rd (om_load 8 Try.isAgg3 rfl rfl rfl) ?_
        refine LM.strip (t := 16) rfl rfl rfl ?_
        refine LM.val (ov_field Try.underlying97 rfl Try.sizeOf3 rfl (k := 3) rfl rfl) ?_
        refine LM.strip (t := 16) rfl rfl rfl ?_
        first | refine LM.rd (om_load 0 Try.isAgg3 rfl rfl rfl) ?_ | refine LM.rd (om_load 1 Try.isAgg3 rfl rfl rfl) ?_ | refine LM.rd (om_load 2 Try.isAgg3 rfl rfl rfl) ?_ | refine LM.rd (om_load 3 Try.isAgg3 rfl rfl rfl) ?_ | refine LM.rd (om_load 4 Try.isAgg3 rfl rfl rfl) ?_ | refine LM.rd (om_load 5 Try.isAgg3 rfl rfl rfl) ?_ | refine LM.rd (om_load 6 Try.isAgg3 rfl rfl rfl) ?_ | refine LM.rd (om_load 7 Try.isAgg3 rfl rfl rfl) ?_ | refine LM.rd (om_load 8 Try.isAgg3 rfl rfl rfl) ?_
        refine LM.strip (t := 16) rfl rfl rfl ?_
        refine LM.val (ov_eql rfl rfl) ?_
        refine LM.val (ov_pickT rfl rfl) ?_
        refine LM.nil ?_
        refine QM.sub (e' := [(2, _), (3, _), (22, _)]) ⟨rfl, rfl, rfl, trivial⟩ ?_
        refine QM.then ?_
        first | refine wpM.condD rfl (fun h4 => ?_) (fun h4 => ?_) | refine wpM.condB rfl (fun h4 => ?_) (fun h4 => ?_)
        ·
          refine wpM.seq ?_
          refine wpM.region ?_
          refine LM.val (ov_assign rfl) ?_
          refine LM.nil ?_
          refine QM.sub (e' := [(4, _)]) ⟨rfl, trivial⟩ ?_
          refine QM.then ?_
          refine wpM.ret ?_
          refine QM.then_ret ?_
          refine QM.then_ret ?_
          refine QM.leave (.inl rfl) [.tmp 4] Try.results64 rfl ?_
          intro w' hm' hc' hg'
          -- leaf 2: h1- h2+ h3+ h4+
          refine ⟨?_, hc'⟩; simp only [resV, endsF]; congr 1; (repeat' split) <;> first | rfl | omega
        ·
          refine wpM.skip ?_
          refine QM.then ?_
          refine wpM.seq ?_
          refine wpM.seq ?_
          refine wpM.region ?_
          refine LM.val (ov_field Try.underlying97 rfl Try.sizeOf3 rfl (k := 1) rfl rfl) ?_
          first | refine LM.rd (om_load 0 Try.isAgg3 rfl rfl rfl) ?_ | refine LM.rd (om_load 1 Try.isAgg3 rfl rfl rfl) ?_ | refine LM.rd (om_load 2 Try.isAgg3 rfl rfl rfl) ?_ | refine LM.rd (om_load 3 Try.isAgg3 rfl rfl rfl) ?_ | refine LM.rd (om_load 4 Try.isAgg3 rfl rfl rfl) ?_ | refine LM.rd (om_load 5 Try.isAgg3 rfl rfl rfl) ?_ | refine LM.rd (om_load 6 Try.isAgg3 rfl rfl rfl) ?_ | refine LM.rd (om_load 7 Try.isAgg3 rfl rfl rfl) ?_ | refine LM.rd (om_load 8 Try.isAgg3 rfl rfl rfl) ?_
          refine LM.val (ov_eql rfl rfl) ?_
          refine LM.val (ov_move rfl) ?_
          first | refine LM.splitD (t := 26) rfl (fun h5 => ?_) (fun h5 => ?_) | refine LM.splitB (t := 26) rfl (fun h5 => ?_) (fun h5 => ?_)
          ·
            refine LM.strip (t := 26) rfl rfl rfl ?_
            refine LM.val (ov_field Try.underlying97 rfl Try.sizeOf3 rfl (k := 3) rfl rfl) ?_
            refine LM.strip (t := 26) rfl rfl rfl ?_
            first | refine LM.rd (om_load 0 Try.isAgg3 rfl rfl rfl) ?_ | refine LM.rd (om_load 1 Try.isAgg3 rfl rfl rfl) ?_ | refine LM.rd (om_load 2 Try.isAgg3 rfl rfl rfl) ?_ | refine LM.rd (om_load 3 Try.isAgg3 rfl rfl rfl) ?_ | refine LM.rd (om_load 4 Try.isAgg3 rfl rfl rfl) ?_ | refine LM.rd (om_load 5 Try.isAgg3 rfl rfl rfl) ?_ | refine LM.rd (om_load 6 Try.isAgg3 rfl rfl rfl) ?_ | refine LM.rd (om_load 7 Try.isAgg3 rfl rfl rfl) ?_ | refine LM.rd (om_load 8 Try.isAgg3 rfl rfl rfl) ?_
            refine LM.strip (t := 26) rfl rfl rfl ?_
            refine LM.val (ov_field Try.underlying97 rfl Try.sizeOf3 rfl (k := 3) rfl rfl) ?_
            refine LM.strip (t := 26) rfl rfl rfl ?_
            first | refine LM.rd (om_load 0 Try.isAgg3 rfl rfl rfl) ?_ | refine LM.rd (om_load 1 Try.isAgg3 rfl rfl rfl) ?_ | refine LM.rd (om_load 2 Try.isAgg3 rfl rfl rfl) ?_ | refine LM.rd (om_load 3 Try.isAgg3 rfl rfl rfl) ?_ | refine LM.rd (om_load 4 Try.isAgg3 rfl rfl rfl) ?_ | refine LM.rd (om_load 5 Try.isAgg3 rfl rfl rfl) ?_ | refine LM.rd (om_load 6 Try.isAgg3 rfl rfl rfl) ?_ | refine LM.rd (om_load 7 Try.isAgg3 rfl rfl rfl) ?_ | refine LM.rd (om_load 8 Try.isAgg3 rfl rfl rfl) ?_
            refine LM.strip (t := 26) rfl rfl rfl ?_
            refine LM.val (ov_eql rfl rfl) ?_
            refine LM.val (ov_pickT rfl rfl) ?_
            refine LM.nil ?_
            refine QM.sub (e' := [(3, _), (32, _)]) ⟨rfl, rfl, trivial⟩ ?_
            refine QM.then ?_
            first | refine wpM.condD rfl (fun h6 => ?_) (fun h6 => ?_) | refine wpM.condB rfl (fun h6 => ?_) (fun h6 => ?_)
            ·
              refine wpM.seq ?_
              refine wpM.region ?_
              refine LM.val (ov_assign rfl) ?_
              refine LM.nil ?_
              refine QM.sub (e' := [(4, _)]) ⟨rfl, trivial⟩ ?_
              refine QM.then ?_
              refine wpM.ret ?_
              refine QM.then_ret ?_
              refine QM.then_ret ?_
              refine QM.leave (.inl rfl) [.tmp 4] Try.results64 rfl ?_
              intro w' hm' hc' hg'
              -- leaf 3: h1- h2+ h3+ h4- h5+ h6+
              refine ⟨?_, hc'⟩; simp only [resV, endsF]; congr 1; (repeat' split) <;> first | rfl | omega
            ·
              refine wpM.skip ?_
              refine QM.then ?_
              refine wpM.seq ?_
              refine wpM.seq ?_
              refine wpM.region ?_
              refine LM.val (ov_field Try.underlying97 rfl Try.sizeOf3 rfl (k := 1) rfl rfl) ?_
              first | refine LM.rd (om_load 0 Try.isAgg3 rfl rfl rfl) ?_ | refine LM.rd (om_load 1 Try.isAgg3 rfl rfl rfl) ?_ | refine LM.rd (om_load 2 Try.isAgg3 rfl rfl rfl) ?_ | refine LM.rd (om_load 3 Try.isAgg3 rfl rfl rfl) ?_ | refine LM.rd (om_load 4 Try.isAgg3 rfl rfl rfl) ?_ | refine LM.rd (om_load 5 Try.isAgg3 rfl rfl rfl) ?_ | refine LM.rd (om_load 6 Try.isAgg3 rfl rfl rfl) ?_ | refine LM.rd (om_load 7 Try.isAgg3 rfl rfl rfl) ?_ | refine LM.rd (om_load 8 Try.isAgg3 rfl rfl rfl) ?_
              refine LM.val (ov_eql rfl rfl) ?_
              refine LM.nil ?_
              refine QM.sub (e' := [(35, _)]) ⟨rfl, trivial⟩ ?_
              refine QM.then ?_
              first | refine wpM.condD rfl (fun h7 => ?_) (fun h7 => ?_) | refine wpM.condB rfl (fun h7 => ?_) (fun h7 => ?_)
              ·
                refine wpM.seq ?_
                refine wpM.region ?_
                refine LM.val (ov_assign rfl) ?_
                refine LM.nil ?_
                refine QM.sub (e' := [(4, _)]) ⟨rfl, trivial⟩ ?_
                refine QM.then ?_
                refine wpM.ret ?_
                refine QM.then_ret ?_
                refine QM.then_ret ?_
                refine QM.leave (.inl rfl) [.tmp 4] Try.results64 rfl ?_
                intro w' hm' hc' hg'
                -- leaf 4: h1- h2+ h3+ h4- h5+ h6- h7+
                refine ⟨?_, hc'⟩; simp only [resV, endsF]; congr 1; (repeat' split) <;> first | rfl | omega
              ·
                refine wpM.skip ?_
                refine QM.then ?_
                refine wpM.seq ?_
                refine wpM.region ?_
                refine LM.val (ov_assign rfl) ?_
                refine LM.nil ?_
                refine QM.sub (e' := [(4, _)]) ⟨rfl, trivial⟩ ?_
                refine QM.then ?_
                refine wpM.ret ?_
                refine QM.then_ret ?_
                refine QM.leave (.inl rfl) [.tmp 4] Try.results64 rfl ?_
                intro w' hm' hc' hg'
                -- leaf 5: h1- h2+ h3+ h4- h5+ h6- h7-
                refine ⟨?_, hc'⟩; simp only [resV, endsF]; congr 1; (repeat' split) <;> first | rfl | omega
          ·
            refine LM.drop (t := 26) rfl rfl rfl ?_
            refine LM.drop (t := 26) rfl rfl rfl ?_
            refine LM.drop (t := 26) rfl rfl rfl ?_
            refine LM.drop (t := 26) rfl rfl rfl ?_
            refine LM.drop (t := 26) rfl rfl rfl ?_
            refine LM.val (ov_pickF rfl rfl) ?_
            refine LM.nil ?_
            refine QM.sub (e' := [(3, _), (32, _)]) ⟨rfl, rfl, trivial⟩ ?_
            refine QM.then ?_
            refine wpM.condF rfl ?_
            refine wpM.skip ?_
            refine QM.then ?_
            refine wpM.seq ?_
            refine wpM.seq ?_
            refine wpM.region ?_
            refine LM.val (ov_field Try.underlying97 rfl Try.sizeOf3 rfl (k := 1) rfl rfl) ?_
            first | refine LM.rd (om_load 0 Try.isAgg3 rfl rfl rfl) ?_ | refine LM.rd (om_load 1 Try.isAgg3 rfl rfl rfl) ?_ | refine LM.rd (om_load 2 Try.isAgg3 rfl rfl rfl) ?_ | refine LM.rd (om_load 3 Try.isAgg3 rfl rfl rfl) ?_ | refine LM.rd (om_load 4 Try.isAgg3 rfl rfl rfl) ?_ | refine LM.rd (om_load 5 Try.isAgg3 rfl rfl rfl) ?_ | refine LM.rd (om_load 6 Try.isAgg3 rfl rfl rfl) ?_ | refine LM.rd (om_load 7 Try.isAgg3 rfl rfl rfl) ?_ | refine LM.rd (om_load 8 Try.isAgg3 rfl rfl rfl) ?_
            refine LM.val (ov_eql rfl rfl) ?_
            refine LM.nil ?_
            refine QM.sub (e' := [(35, _)]) ⟨rfl, trivial⟩ ?_
            refine QM.then ?_
            first | refine wpM.condD rfl (fun h8 => ?_) (fun h8 => ?_) | refine wpM.condB rfl (fun h8 => ?_) (fun h8 => ?_)
            ·
              refine wpM.seq ?_
              refine wpM.region ?_
              refine LM.val (ov_assign rfl) ?_
              refine LM.nil ?_
              refine QM.sub (e' := [(4, _)]) ⟨rfl, trivial⟩ ?_
              refine QM.then ?_
              refine wpM.ret ?_
              refine QM.then_ret ?_
              refine QM.then_ret ?_
              refine QM.leave (.inl rfl) [.tmp 4] Try.results64 rfl ?_
              intro w' hm' hc' hg'
              -- leaf 6: h1- h2+ h3+ h4- h5- h8+
              refine ⟨?_, hc'⟩; simp only [resV, endsF]; congr 1; (repeat' split) <;> first | rfl | omega
            ·
              refine wpM.skip ?_
              refine QM.then ?_
              refine wpM.seq ?_
              refine wpM.region ?_
              refine LM.val (ov_assign rfl) ?_
              refine LM.nil ?_
              refine QM.sub (e' := [(4, _)]) ⟨rfl, trivial⟩ ?_
              refine QM.then ?_
              refine wpM.ret ?_
              refine QM.then_ret ?_
              refine QM.leave (.inl rfl) [.tmp 4] Try.results64 rfl ?_
              intro w' hm' hc' hg'
              -- leaf 7: h1- h2+ h3+ h4- h5- h8-
              refine ⟨?_, hc'⟩; simp only [resV, endsF]; congr 1; (repeat' split) <;> first | rfl | omega
      ·
        refine LM.drop (t := 16) rfl rfl rfl ?_
        refine LM.drop (t := 16) rfl rfl rfl ?_
        refine LM.drop (t := 16) rfl rfl rfl ?_
        refine LM.drop (t := 16) rfl rfl rfl ?_
        refine LM.drop (t := 16) rfl rfl rfl ?_
        refine LM.val (ov_pickF rfl rfl) ?_
        refine LM.nil ?_
        refine QM.sub (e' := [(2, _), (3, _), (22, _)]) ⟨rfl, rfl, rfl, trivial⟩ ?_
        refine QM.then ?_
        refine wpM.condF rfl ?_
        refine wpM.skip ?_
        refine QM.then ?_
        refine wpM.seq ?_
        refine wpM.seq ?_
        refine wpM.region ?_
        refine LM.val (ov_field Try.underlying97 rfl Try.sizeOf3 rfl (k := 1) rfl rfl) ?_
        first | refine LM.rd (om_load 0 Try.isAgg3 rfl rfl rfl) ?_ | refine LM.rd (om_load 1 Try.isAgg3 rfl rfl rfl) ?_ | refine LM.rd (om_load 2 Try.isAgg3 rfl rfl rfl) ?_ | refine LM.rd (om_load 3 Try.isAgg3 rfl rfl rfl) ?_ | refine LM.rd (om_load 4 Try.isAgg3 rfl rfl rfl) ?_ | refine LM.rd (om_load 5 Try.isAgg3 rfl rfl rfl) ?_ | refine LM.rd (om_load 6 Try.isAgg3 rfl rfl rfl) ?_ | refine LM.rd (om_load 7 Try.isAgg3 rfl rfl rfl) ?_ | refine LM.rd (om_load 8 Try.isAgg3 rfl rfl rfl) ?_
        refine LM.val (ov_eql rfl rfl) ?_
        refine LM.val (ov_move rfl) ?_
        first | refine LM.splitD (t := 26) rfl (fun h9 => ?_) (fun h9 => ?_) | refine LM.splitB (t := 26) rfl (fun h9 => ?_) (fun h9 => ?_)
        ·
          refine LM.strip (t := 26) rfl rfl rfl ?_
          refine LM.val (ov_field Try.underlying97 rfl Try.sizeOf3 rfl (k := 3) rfl rfl) ?_
          refine LM.strip (t := 26) rfl rfl rfl ?_
          first | refine LM.rd (om_load 0 Try.isAgg3 rfl rfl rfl) ?_ | refine LM.rd (om_load 1 Try.isAgg3 rfl rfl rfl) ?_ | refine LM.rd (om_load 2 Try.isAgg3 rfl rfl rfl) ?_ | refine LM.rd (om_load 3 Try.isAgg3 rfl rfl rfl) ?_ | refine LM.rd (om_load 4 Try.isAgg3 rfl rfl rfl) ?_ | refine LM.rd (om_load 5 Try.isAgg3 rfl rfl rfl) ?_ | refine LM.rd (om_load 6 Try.isAgg3 rfl rfl rfl) ?_ | refine LM.rd (om_load 7 Try.isAgg3 rfl rfl rfl) ?_ | refine LM.rd (om_load 8 Try.isAgg3 rfl rfl rfl) ?_
          refine LM.strip (t := 26) rfl rfl rfl ?_
          refine LM.val (ov_field Try.underlying97 rfl Try.sizeOf3 rfl (k := 3) rfl rfl) ?_
          refine LM.strip (t := 26) rfl rfl rfl ?_
          first | refine LM.rd (om_load 0 Try.isAgg3 rfl rfl rfl) ?_ | refine LM.rd (om_load 1 Try.isAgg3 rfl rfl rfl) ?_ | refine LM.rd (om_load 2 Try.isAgg3 rfl rfl rfl) ?_ | refine LM.rd (om_load 3 Try.isAgg3 rfl rfl rfl) ?_ | refine LM.rd (om_load 4 Try.isAgg3 rfl rfl rfl) ?_ | refine LM.rd (om_load 5 Try.isAgg3 rfl rfl rfl) ?_ | refine LM.rd (om_load 6 Try.isAgg3 rfl rfl rfl) ?_ | refine LM.rd (om_load 7 Try.isAgg3 rfl rfl rfl) ?_ | refine LM.rd (om_load 8 Try.isAgg3 rfl rfl rfl) ?_
          refine LM.strip (t := 26) rfl rfl rfl ?_
          refine LM.val (ov_eql rfl rfl) ?_
          refine LM.val (ov_pickT rfl rfl) ?_
          refine LM.nil ?_
          refine QM.sub (e' := [(3, _), (32, _)]) ⟨rfl, rfl, trivial⟩ ?_
          refine QM.then ?_
          first | refine wpM.condD rfl (fun h10 => ?_) (fun h10 => ?_) | refine wpM.condB rfl (fun h10 => ?_) (fun h10 => ?_)
          ·
            refine wpM.seq ?_
            refine wpM.region ?_
            refine LM.val (ov_assign rfl) ?_
            refine LM.nil ?_
            refine QM.sub (e' := [(4, _)]) ⟨rfl, trivial⟩ ?_
            refine QM.then ?_
            refine wpM.ret ?_
            refine QM.then_ret ?_
            refine QM.then_ret ?_
            refine QM.leave (.inl rfl) [.tmp 4] Try.results64 rfl ?_
            intro w' hm' hc' hg'
            -- leaf 8: h1- h2+ h3- h9+ h10+
            refine ⟨?_, hc'⟩; simp only [resV, endsF]; congr 1; (repeat' split) <;> first | rfl | omega
          ·
            refine wpM.skip ?_
            refine QM.then ?_
            refine wpM.seq ?_
            refine wpM.seq ?_
            refine wpM.region ?_
            refine LM.val (ov_field Try.underlying97 rfl Try.sizeOf3 rfl (k := 1) rfl rfl) ?_
            first | refine LM.rd (om_load 0 Try.isAgg3 rfl rfl rfl) ?_ | refine LM.rd (om_load 1 Try.isAgg3 rfl rfl rfl) ?_ | refine LM.rd (om_load 2 Try.isAgg3 rfl rfl rfl) ?_ | refine LM.rd (om_load 3 Try.isAgg3 rfl rfl rfl) ?_ | refine LM.rd (om_load 4 Try.isAgg3 rfl rfl rfl) ?_ | refine LM.rd (om_load 5 Try.isAgg3 rfl rfl rfl) ?_ | refine LM.rd (om_load 6 Try.isAgg3 rfl rfl rfl) ?_ | refine LM.rd (om_load 7 Try.isAgg3 rfl rfl rfl) ?_ | refine LM.rd (om_load 8 Try.isAgg3 rfl rfl rfl) ?_
            refine LM.val (ov_eql rfl rfl) ?_
            refine LM.nil ?_
            refine QM.sub (e' := [(35, _)]) ⟨rfl, trivial⟩ ?_
            refine QM.then ?_
            first | refine wpM.condD rfl (fun h11 => ?_) (fun h11 => ?_) | refine wpM.condB rfl (fun h11 => ?_) (fun h11 => ?_)
            ·
              refine wpM.seq ?_
              refine wpM.region ?_
              refine LM.val (ov_assign rfl) ?_
              refine LM.nil ?_
              refine QM.sub (e' := [(4, _)]) ⟨rfl, trivial⟩ ?_
              refine QM.then ?_
              refine wpM.ret ?_
              refine QM.then_ret ?_
              refine QM.then_ret ?_
              refine QM.leave (.inl rfl) [.tmp 4] Try.results64 rfl ?_
              intro w' hm' hc' hg'
              -- leaf 9: h1- h2+ h3- h9+ h10- h11+
              refine ⟨?_, hc'⟩; simp only [resV, endsF]; congr 1; (repeat' split) <;> first | rfl | omega
            ·
              refine wpM.skip ?_
              refine QM.then ?_
              refine wpM.seq ?_
              refine wpM.region ?_
              refine LM.val (ov_assign rfl) ?_
              refine LM.nil ?_
              refine QM.sub (e' := [(4, _)]) ⟨rfl, trivial⟩ ?_
              refine QM.then ?_
              refine wpM.ret ?_
              refine QM.then_ret ?_
              refine QM.leave (.inl rfl) [.tmp 4] Try.results64 rfl ?_
              intro w' hm' hc' hg'
              -- leaf 10: h1- h2+ h3- h9+ h10- h11-
              refine ⟨?_, hc'⟩; simp only [resV, endsF]; congr 1; (repeat' split) <;> first | rfl | omega
        ·
          refine LM.drop (t := 26) rfl rfl rfl ?_
          refine LM.drop (t := 26) rfl rfl rfl ?_
          refine LM.drop (t := 26) rfl rfl rfl ?_
          refine LM.drop (t := 26) rfl rfl rfl ?_
          refine LM.drop (t := 26) rfl rfl rfl ?_
          refine LM.val (ov_pickF rfl rfl) ?_
          refine LM.nil ?_
          refine QM.sub (e' := [(3, _), (32, _)]) ⟨rfl, rfl, trivial⟩ ?_
          refine QM.then ?_
          refine wpM.condF rfl ?_
          refine wpM.skip ?_
          refine QM.then ?_
          refine wpM.seq ?_
          refine wpM.seq ?_
          refine wpM.region ?_
          refine LM.val (ov_field Try.underlying97 rfl Try.sizeOf3 rfl (k := 1) rfl rfl) ?_
          first | refine LM.rd (om_load 0 Try.isAgg3 rfl rfl rfl) ?_ | refine LM.rd (om_load 1 Try.isAgg3 rfl rfl rfl) ?_ | refine LM.rd (om_load 2 Try.isAgg3 rfl rfl rfl) ?_ | refine LM.rd (om_load 3 Try.isAgg3 rfl rfl rfl) ?_ | refine LM.rd (om_load 4 Try.isAgg3 rfl rfl rfl) ?_ | refine LM.rd (om_load 5 Try.isAgg3 rfl rfl rfl) ?_ | refine LM.rd (om_load 6 Try.isAgg3 rfl rfl rfl) ?_ | refine LM.rd (om_load 7 Try.isAgg3 rfl rfl rfl) ?_ | refine LM.rd (om_load 8 Try.isAgg3 rfl rfl rfl) ?_
          refine LM.val (ov_eql rfl rfl) ?_
          refine LM.nil ?_
          refine QM.sub (e' := [(35, _)]) ⟨rfl, trivial⟩ ?_
          refine QM.then ?_
          first | refine wpM.condD rfl (fun h12 => ?_) (fun h12 => ?_) | refine wpM.condB rfl (fun h12 => ?_) (fun h12 => ?_)
          ·
            refine wpM.seq ?_
            refine wpM.region ?_
            refine LM.val (ov_assign rfl) ?_
            refine LM.nil ?_
            refine QM.sub (e' := [(4, _)]) ⟨rfl, trivial⟩ ?_
            refine QM.then ?_
            refine wpM.ret ?_
            refine QM.then_ret ?_
            refine QM.then_ret ?_
            refine QM.leave (.inl rfl) [.tmp 4] Try.results64 rfl ?_
            intro w' hm' hc' hg'
            -- leaf 11: h1- h2+ h3- h9- h12+
            refine ⟨?_, hc'⟩; simp only [resV, endsF]; congr 1; (repeat' split) <;> first | rfl | omega
          ·
            refine wpM.skip ?_
            refine QM.then ?_
            refine wpM.seq ?_
            refine wpM.region ?_
            refine LM.val (ov_assign rfl) ?_
            refine LM.nil ?_
            refine QM.sub (e' := [(4, _)]) ⟨rfl, trivial⟩ ?_
            refine QM.then ?_
            refine wpM.ret ?_
            refine QM.then_ret ?_
            refine QM.leave (.inl rfl) [.tmp 4] Try.results64 rfl ?_
            intro w' hm' hc' hg'
            -- leaf 12: h1- h2+ h3- h9- h12-
            refine ⟨?_, hc'⟩; simp only [resV, endsF]; congr 1; (repeat' split) <;> first | rfl | omega
    ·
      refine wpM.skip ?_
      refine QM.then ?_
      refine wpM.seq ?_
      refine wpM.seq ?_
      refine wpM.region ?_
      refine LM.val (ov_field Try.underlying97 rfl Try.sizeOf3 rfl (k := 1) rfl rfl) ?_
      first | refine LM.rd (om_load 0 Try.isAgg3 rfl rfl rfl) ?_ | refine LM.rd (om_load 1 Try.isAgg3 rfl rfl rfl) ?_ | refine LM.rd (om_load 2 Try.isAgg3 rfl rfl rfl) ?_ | refine LM.rd (om_load 3 Try.isAgg3 rfl rfl rfl) ?_ | refine LM.rd (om_load 4 Try.isAgg3 rfl rfl rfl) ?_ | refine LM.rd (om_load 5 Try.isAgg3 rfl rfl rfl) ?_ | refine LM.rd (om_load 6 Try.isAgg3 rfl rfl rfl) ?_ | refine LM.rd (om_load 7 Try.isAgg3 rfl rfl rfl) ?_ | refine LM.rd (om_load 8 Try.isAgg3 rfl rfl rfl) ?_
      refine LM.val (ov_eql rfl rfl) ?_
      refine LM.val (ov_move rfl) ?_
      first | refine LM.splitD (t := 39) rfl (fun h13 => ?_) (fun h13 => ?_) | refine LM.splitB (t := 39) rfl (fun h13 => ?_) (fun h13 => ?_)
      ·
        refine LM.strip (t := 39) rfl rfl rfl ?_
        refine LM.val (ov_field Try.underlying97 rfl Try.sizeOf3 rfl (k := 3) rfl rfl) ?_
        refine LM.strip (t := 39) rfl rfl rfl ?_
        first | refine LM.rd (om_load 0 Try.isAgg3 rfl rfl rfl) ?_ | refine LM.rd (om_load 1 Try.isAgg3 rfl rfl rfl) ?_ | refine LM.rd (om_load 2 Try.isAgg3 rfl rfl rfl) ?_ | refine LM.rd (om_load 3 Try.isAgg3 rfl rfl rfl) ?_ | refine LM.rd (om_load 4 Try.isAgg3 rfl rfl rfl) ?_ | refine LM.rd (om_load 5 Try.isAgg3 rfl rfl rfl) ?_ | refine LM.rd (om_load 6 Try.isAgg3 rfl rfl rfl) ?_ | refine LM.rd (om_load 7 Try.isAgg3 rfl rfl rfl) ?_ | refine LM.rd (om_load 8 Try.isAgg3 rfl rfl rfl) ?_
        refine LM.strip (t := 39) rfl rfl rfl ?_
        refine LM.val (ov_field Try.underlying97 rfl Try.sizeOf3 rfl (k := 3) rfl rfl) ?_
        refine LM.strip (t := 39) rfl rfl rfl ?_
        first | refine LM.rd (om_load 0 Try.isAgg3 rfl rfl rfl) ?_ | refine LM.rd (om_load 1 Try.isAgg3 rfl rfl rfl) ?_ | refine LM.rd (om_load 2 Try.isAgg3 rfl rfl rfl) ?_ | refine LM.rd (om_load 3 Try.isAgg3 rfl rfl rfl) ?_ | refine LM.rd (om_load 4 Try.isAgg3 rfl rfl rfl) ?_ | refine LM.rd (om_load 5 Try.isAgg3 rfl rfl rfl) ?_ | refine LM.rd (om_load 6 Try.isAgg3 rfl rfl rfl) ?_ | refine LM.rd (om_load 7 Try.isAgg3 rfl rfl rfl) ?_ | refine LM.rd (om_load 8 Try.isAgg3 rfl rfl rfl) ?_
        refine LM.strip (t := 39) rfl rfl rfl ?_
        refine LM.val (ov_eql rfl rfl) ?_
        refine LM.val (ov_pickT rfl rfl) ?_
        refine LM.nil ?_
        refine QM.sub (e' := [(2, _), (3, _), (45, _)]) ⟨rfl, rfl, rfl, trivial⟩ ?_
        refine QM.then ?_
        first | refine wpM.condD rfl (fun h14 => ?_) (fun h14 => ?_) | refine wpM.condB rfl (fun h14 => ?_) (fun h14 => ?_)
        ·
          refine wpM.seq ?_
          refine wpM.region ?_
          refine LM.val (ov_assign rfl) ?_
          refine LM.nil ?_
          refine QM.sub (e' := [(4, _)]) ⟨rfl, trivial⟩ ?_
          refine QM.then ?_
          refine wpM.ret ?_
          refine QM.then_ret ?_
          refine QM.leave (.inl rfl) [.tmp 4] Try.results64 rfl ?_
          intro w' hm' hc' hg'
          -- leaf 13: h1- h2- h13+ h14+
          refine ⟨?_, hc'⟩; simp only [resV, endsF]; congr 1; (repeat' split) <;> first | rfl | omega
        ·
          refine wpM.skip ?_
          refine QM.then ?_
          refine wpM.seq ?_
          refine wpM.seq ?_
          refine wpM.region ?_
          refine LM.val (ov_field Try.underlying97 rfl Try.sizeOf3 rfl (k := 1) rfl rfl) ?_
          first | refine LM.rd (om_load 0 Try.isAgg3 rfl rfl rfl) ?_ | refine LM.rd (om_load 1 Try.isAgg3 rfl rfl rfl) ?_ | refine LM.rd (om_load 2 Try.isAgg3 rfl rfl rfl) ?_ | refine LM.rd (om_load 3 Try.isAgg3 rfl rfl rfl) ?_ | refine LM.rd (om_load 4 Try.isAgg3 rfl rfl rfl) ?_ | refine LM.rd (om_load 5 Try.isAgg3 rfl rfl rfl) ?_ | refine LM.rd (om_load 6 Try.isAgg3 rfl rfl rfl) ?_ | refine LM.rd (om_load 7 Try.isAgg3 rfl rfl rfl) ?_ | refine LM.rd (om_load 8 Try.isAgg3 rfl rfl rfl) ?_
          refine LM.val (ov_eql rfl rfl) ?_
          refine LM.val (ov_move rfl) ?_
          first | refine LM.splitD (t := 49) rfl (fun h15 => ?_) (fun h15 => ?_) | refine LM.splitB (t := 49) rfl (fun h15 => ?_) (fun h15 => ?_)
          ·
            refine LM.strip (t := 49) rfl rfl rfl ?_
            refine LM.val (ov_field Try.underlying97 rfl Try.sizeOf3 rfl (k := 3) rfl rfl) ?_
            refine LM.strip (t := 49) rfl rfl rfl ?_
            first | refine LM.rd (om_load 0 Try.isAgg3 rfl rfl rfl) ?_ | refine LM.rd (om_load 1 Try.isAgg3 rfl rfl rfl) ?_ | refine LM.rd (om_load 2 Try.isAgg3 rfl rfl rfl) ?_ | refine LM.rd (om_load 3 Try.isAgg3 rfl rfl rfl) ?_ | refine LM.rd (om_load 4 Try.isAgg3 rfl rfl rfl) ?_ | refine LM.rd (om_load 5 Try.isAgg3 rfl rfl rfl) ?_ | refine LM.rd (om_load 6 Try.isAgg3 rfl rfl rfl) ?_ | refine LM.rd (om_load 7 Try.isAgg3 rfl rfl rfl) ?_ | refine LM.rd (om_load 8 Try.isAgg3 rfl rfl rfl) ?_
            refine LM.strip (t := 49) rfl rfl rfl ?_
            refine LM.val (ov_field Try.underlying97 rfl Try.sizeOf3 rfl (k := 3) rfl rfl) ?_
            refine LM.strip (t := 49) rfl rfl rfl ?_
            first | refine LM.rd (om_load 0 Try.isAgg3 rfl rfl rfl) ?_ | refine LM.rd (om_load 1 Try.isAgg3 rfl rfl rfl) ?_ | refine LM.rd (om_load 2 Try.isAgg3 rfl rfl rfl) ?_ | refine LM.rd (om_load 3 Try.isAgg3 rfl rfl rfl) ?_ | refine LM.rd (om_load 4 Try.isAgg3 rfl rfl rfl) ?_ | refine LM.rd (om_load 5 Try.isAgg3 rfl rfl rfl) ?_ | refine LM.rd (om_load 6 Try.isAgg3 rfl rfl rfl) ?_ | refine LM.rd (om_load 7 Try.isAgg3 rfl rfl rfl) ?_ | refine LM.rd (om_load 8 Try.isAgg3 rfl rfl rfl) ?_
            refine LM.strip (t := 49) rfl rfl rfl ?_
            refine LM.val (ov_eql rfl rfl) ?_
            refine LM.val (ov_pickT rfl rfl) ?_
            refine LM.nil ?_
            refine QM.sub (e' := [(55, _)]) ⟨rfl, trivial⟩ ?_
            refine QM.then ?_
            first | refine wpM.condD rfl (fun h16 => ?_) (fun h16 => ?_) | refine wpM.condB rfl (fun h16 => ?_) (fun h16 => ?_)
            ·
              refine wpM.seq ?_
              refine wpM.region ?_
              refine LM.val (ov_assign rfl) ?_
              refine LM.nil ?_
              refine QM.sub (e' := [(4, _)]) ⟨rfl, trivial⟩ ?_
              refine QM.then ?_
              refine wpM.ret ?_
              refine QM.then_ret ?_
              refine QM.leave (.inl rfl) [.tmp 4] Try.results64 rfl ?_
              intro w' hm' hc' hg'
              -- leaf 14: h1- h2- h13+ h14- h15+ h16+
              refine ⟨?_, hc'⟩; simp only [resV, endsF]; congr 1; (repeat' split) <;> first | rfl | omega
            ·
              refine wpM.skip ?_
              refine QM.then ?_
              refine wpM.seq ?_
              refine wpM.region ?_
              refine LM.val (ov_assign rfl) ?_
              refine LM.nil ?_
              refine QM.sub (e' := [(4, _)]) ⟨rfl, trivial⟩ ?_
              refine QM.then ?_
              refine wpM.ret ?_
              refine QM.leave (.inl rfl) [.tmp 4] Try.results64 rfl ?_
              intro w' hm' hc' hg'
              -- leaf 15: h1- h2- h13+ h14- h15+ h16-
              refine ⟨?_, hc'⟩; simp only [resV, endsF]; congr 1; (repeat' split) <;> first | rfl | omega
          ·
            refine LM.drop (t := 49) rfl rfl rfl ?_
            refine LM.drop (t := 49) rfl rfl rfl ?_
            refine LM.drop (t := 49) rfl rfl rfl ?_
            refine LM.drop (t := 49) rfl rfl rfl ?_
            refine LM.drop (t := 49) rfl rfl rfl ?_
            refine LM.val (ov_pickF rfl rfl) ?_
            refine LM.nil ?_
            refine QM.sub (e' := [(55, _)]) ⟨rfl, trivial⟩ ?_
            refine QM.then ?_
            refine wpM.condF rfl ?_
            refine wpM.skip ?_
            refine QM.then ?_
            refine wpM.seq ?_
            refine wpM.region ?_
            refine LM.val (ov_assign rfl) ?_
            refine LM.nil ?_
            refine QM.sub (e' := [(4, _)]) ⟨rfl, trivial⟩ ?_
            refine QM.then ?_
            refine wpM.ret ?_
            refine QM.leave (.inl rfl) [.tmp 4] Try.results64 rfl ?_
            intro w' hm' hc' hg'
            -- leaf 16: h1- h2- h13+ h14- h15-
            refine ⟨?_, hc'⟩; simp only [resV, endsF]; congr 1; (repeat' split) <;> first | rfl | omega
      ·
        refine LM.drop (t := 39) rfl rfl rfl ?_
        refine LM.drop (t := 39) rfl rfl rfl ?_
        refine LM.drop (t := 39) rfl rfl rfl ?_
        refine LM.drop (t := 39) rfl rfl rfl ?_
        refine LM.drop (t := 39) rfl rfl rfl ?_
        refine LM.val (ov_pickF rfl rfl) ?_
        refine LM.nil ?_
        refine QM.sub (e' := [(2, _), (3, _), (45, _)]) ⟨rfl, rfl, rfl, trivial⟩ ?_
        refine QM.then ?_
        refine wpM.condF rfl ?_
        refine wpM.skip ?_
        refine QM.then ?_
        refine wpM.seq ?_
        refine wpM.seq ?_
        refine wpM.region ?_
        refine LM.val (ov_field Try.underlying97 rfl Try.sizeOf3 rfl (k := 1) rfl rfl) ?_
        first | refine LM.rd (om_load 0 Try.isAgg3 rfl rfl rfl) ?_ | refine LM.rd (om_load 1 Try.isAgg3 rfl rfl rfl) ?_ | refine LM.rd (om_load 2 Try.isAgg3 rfl rfl rfl) ?_ | refine LM.rd (om_load 3 Try.isAgg3 rfl rfl rfl) ?_ | refine LM.rd (om_load 4 Try.isAgg3 rfl rfl rfl) ?_ | refine LM.rd (om_load 5 Try.isAgg3 rfl rfl rfl) ?_ | refine LM.rd (om_load 6 Try.isAgg3 rfl rfl rfl) ?_ | refine LM.rd (om_load 7 Try.isAgg3 rfl rfl rfl) ?_ | refine LM.rd (om_load 8 Try.isAgg3 rfl rfl rfl) ?_
        refine LM.val (ov_eql rfl rfl) ?_
        refine LM.val (ov_move rfl) ?_
        first | refine LM.splitD (t := 49) rfl (fun h17 => ?_) (fun h17 => ?_) | refine LM.splitB (t := 49) rfl (fun h17 => ?_) (fun h17 => ?_)
        ·
          refine LM.strip (t := 49) rfl rfl rfl ?_
          refine LM.val (ov_field Try.underlying97 rfl Try.sizeOf3 rfl (k := 3) rfl rfl) ?_
          refine LM.strip (t := 49) rfl rfl rfl ?_
          first | refine LM.rd (om_load 0 Try.isAgg3 rfl rfl rfl) ?_ | refine LM.rd (om_load 1 Try.isAgg3 rfl rfl rfl) ?_ | refine LM.rd (om_load 2 Try.isAgg3 rfl rfl rfl) ?_ | refine LM.rd (om_load 3 Try.isAgg3 rfl rfl rfl) ?_ | refine LM.rd (om_load 4 Try.isAgg3 rfl rfl rfl) ?_ | refine LM.rd (om_load 5 Try.isAgg3 rfl rfl rfl) ?_ | refine LM.rd (om_load 6 Try.isAgg3 rfl rfl rfl) ?_ | refine LM.rd (om_load 7 Try.isAgg3 rfl rfl rfl) ?_ | refine LM.rd (om_load 8 Try.isAgg3 rfl rfl rfl) ?_
          refine LM.strip (t := 49) rfl rfl rfl ?_
          refine LM.val (ov_field Try.underlying97 rfl Try.sizeOf3 rfl (k := 3) rfl rfl) ?_
          refine LM.strip (t := 49) rfl rfl rfl ?_
          first | refine LM.rd (om_load 0 Try.isAgg3 rfl rfl rfl) ?_ | refine LM.rd (om_load 1 Try.isAgg3 rfl rfl rfl) ?_ | refine LM.rd (om_load 2 Try.isAgg3 rfl rfl rfl) ?_ | refine LM.rd (om_load 3 Try.isAgg3 rfl rfl rfl) ?_ | refine LM.rd (om_load 4 Try.isAgg3 rfl rfl rfl) ?_ | refine LM.rd (om_load 5 Try.isAgg3 rfl rfl rfl) ?_ | refine LM.rd (om_load 6 Try.isAgg3 rfl rfl rfl) ?_ | refine LM.rd (om_load 7 Try.isAgg3 rfl rfl rfl) ?_ | refine LM.rd (om_load 8 Try.isAgg3 rfl rfl rfl) ?_
          refine LM.strip (t := 49) rfl rfl rfl ?_
          refine LM.val (ov_eql rfl rfl) ?_
          refine LM.val (ov_pickT rfl rfl) ?_
          refine LM.nil ?_
          refine QM.sub (e' := [(55, _)]) ⟨rfl, trivial⟩ ?_
          refine QM.then ?_
          first | refine wpM.condD rfl (fun h18 => ?_) (fun h18 => ?_) | refine wpM.condB rfl (fun h18 => ?_) (fun h18 => ?_)
          ·
            refine wpM.seq ?_
            refine wpM.region ?_
            refine LM.val (ov_assign rfl) ?_
            refine LM.nil ?_
            refine QM.sub (e' := [(4, _)]) ⟨rfl, trivial⟩ ?_
            refine QM.then ?_
            refine wpM.ret ?_
            refine QM.then_ret ?_
            refine QM.leave (.inl rfl) [.tmp 4] Try.results64 rfl ?_
            intro w' hm' hc' hg'
            -- leaf 17: h1- h2- h13- h17+ h18+
            refine ⟨?_, hc'⟩; simp only [resV, endsF]; congr 1; (repeat' split) <;> first | rfl | omega
          ·
            refine wpM.skip ?_
            refine QM.then ?_
            refine wpM.seq ?_
            refine wpM.region ?_
            refine LM.val (ov_assign rfl) ?_
            refine LM.nil ?_
            refine QM.sub (e' := [(4, _)]) ⟨rfl, trivial⟩ ?_
            refine QM.then ?_
            refine wpM.ret ?_
            refine QM.leave (.inl rfl) [.tmp 4] Try.results64 rfl ?_
            intro w' hm' hc' hg'
            -- leaf 18: h1- h2- h13- h17+ h18-
            refine ⟨?_, hc'⟩; simp only [resV, endsF]; congr 1; (repeat' split) <;> first | rfl | omega
        ·
          refine LM.drop (t := 49) rfl rfl rfl ?_
          refine LM.drop (t := 49) rfl rfl rfl ?_
          refine LM.drop (t := 49) rfl rfl rfl ?_
          refine LM.drop (t := 49) rfl rfl rfl ?_
          refine LM.drop (t := 49) rfl rfl rfl ?_
          refine LM.val (ov_pickF rfl rfl) ?_
          refine LM.nil ?_
          refine QM.sub (e' := [(55, _)]) ⟨rfl, trivial⟩ ?_
          refine QM.then ?_
          refine wpM.condF rfl ?_
          refine wpM.skip ?_
          refine QM.then ?_
          refine wpM.seq ?_
          refine wpM.region ?_
          refine LM.val (ov_assign rfl) ?_
          refine LM.nil ?_
          refine QM.sub (e' := [(4, _)]) ⟨rfl, trivial⟩ ?_
          refine QM.then ?_
          refine wpM.ret ?_
          refine QM.leave (.inl rfl) [.tmp 4] Try.results64 rfl ?_
          intro w' hm' hc' hg'
          -- leaf 19: h1- h2- h13- h17-
          refine ⟨?_, hc'⟩; simp only [resV, endsF]; congr 1; (repeat' split) <;> first | rfl | omega

set_option maxRecDepth 100000 in
theorem overlap_spec (a b : St) (w : World) : Ret Try.prog 67 #[.agg (fT a).toArray, .agg (fT b).toArray] w (fun v w' => v = .bool (overlapB a b) ∧ Ext w w') := by
  refine Ret.enterM (l := [.agg (fT a).toArray, .agg (fT b).toArray]) Try.func67 rfl Try.ntmps67 rfl ([]) (no) (Mem.nil w) ?_
  refine wpM.seq ?_
  refine wpM.region ?_
  refine LM.box rfl rfl (fun b2 hb2 => ?_)
  refine LM.box rfl rfl (fun b3 hb3 => ?_)
  refine LM.val (ov_assign rfl) ?_
  refine LM.nil ?_
  refine QM.sub (e' := [(2, _), (3, _)]) ⟨rfl, rfl, trivial⟩ ?_
  refine QM.then ?_
  refine wpM.seq ?_
  refine wpM.region ?_
  refine LM.val (ov_field Try.underlying72 rfl Try.sizeOf22 rfl (k := 2) rfl rfl) ?_
  first | refine LM.rd (om_load 0 Try.isAgg22 rfl rfl rfl) ?_ | refine LM.rd (om_load 1 Try.isAgg22 rfl rfl rfl) ?_ | refine LM.rd (om_load 2 Try.isAgg22 rfl rfl rfl) ?_ | refine LM.rd (om_load 3 Try.isAgg22 rfl rfl rfl) ?_ | refine LM.rd (om_load 4 Try.isAgg22 rfl rfl rfl) ?_ | refine LM.rd (om_load 5 Try.isAgg22 rfl rfl rfl) ?_ | refine LM.rd (om_load 6 Try.isAgg22 rfl rfl rfl) ?_ | refine LM.rd (om_load 7 Try.isAgg22 rfl rfl rfl) ?_ | refine LM.rd (om_load 8 Try.isAgg22 rfl rfl rfl) ?_
  refine LM.val (ov_field Try.underlying72 rfl Try.sizeOf22 rfl (k := 3) rfl rfl) ?_
  first | refine LM.rd (om_load 0 Try.isAgg22 rfl rfl rfl) ?_ | refine LM.rd (om_load 1 Try.isAgg22 rfl rfl rfl) ?_ | refine LM.rd (om_load 2 Try.isAgg22 rfl rfl rfl) ?_ | refine LM.rd (om_load 3 Try.isAgg22 rfl rfl rfl) ?_ | refine LM.rd (om_load 4 Try.isAgg22 rfl rfl rfl) ?_ | refine LM.rd (om_load 5 Try.isAgg22 rfl rfl rfl) ?_ | refine LM.rd (om_load 6 Try.isAgg22 rfl rfl rfl) ?_ | refine LM.rd (om_load 7 Try.isAgg22 rfl rfl rfl) ?_ | refine LM.rd (om_load 8 Try.isAgg22 rfl rfl rfl) ?_
  refine LM.val (ov_ulss rfl rfl) ?_
  refine LM.val (ov_move rfl) ?_
  first | refine LM.splitD (t := 10) rfl (fun h1 => ?_) (fun h1 => ?_) | refine LM.splitB (t := 10) rfl (fun h1 => ?_) (fun h1 => ?_)
  ·
    refine LM.drop (t := 10) rfl rfl rfl ?_
    refine LM.drop (t := 10) rfl rfl rfl ?_
    refine LM.drop (t := 10) rfl rfl rfl ?_
    refine LM.val (ov_pickT rfl rfl) ?_
    refine LM.val (ov_move rfl) ?_
    refine LM.strip (t := 15) rfl rfl rfl ?_
    refine LM.val (ov_field Try.underlying72 rfl Try.sizeOf22 rfl (k := 2) rfl rfl) ?_
    refine LM.strip (t := 15) rfl rfl rfl ?_
    first | refine LM.rd (om_load 0 Try.isAgg22 rfl rfl rfl) ?_ | refine LM.rd (om_load 1 Try.isAgg22 rfl rfl rfl) ?_ | refine LM.rd (om_load 2 Try.isAgg22 rfl rfl rfl) ?_ | refine LM.rd (om_load 3 Try.isAgg22 rfl rfl rfl) ?_ | refine LM.rd (om_load 4 Try.isAgg22 rfl rfl rfl) ?_ | refine LM.rd (om_load 5 Try.isAgg22 rfl rfl rfl) ?_ | refine LM.rd (om_load 6 Try.isAgg22 rfl rfl rfl) ?_ | refine LM.rd (om_load 7 Try.isAgg22 rfl rfl rfl) ?_ | refine LM.rd (om_load 8 Try.isAgg22 rfl rfl rfl) ?_
    refine LM.strip (t := 15) rfl rfl rfl ?_
    refine LM.val (ov_field Try.underlying72 rfl Try.sizeOf22 rfl (k := 3) rfl rfl) ?_
    refine LM.strip (t := 15) rfl rfl rfl ?_
    first | refine LM.rd (om_load 0 Try.isAgg22 rfl rfl rfl) ?_ | refine LM.rd (om_load 1 Try.isAgg22 rfl rfl rfl) ?_ | refine LM.rd (om_load 2 Try.isAgg22 rfl rfl rfl) ?_ | refine LM.rd (om_load 3 Try.isAgg22 rfl rfl rfl) ?_ | refine LM.rd (om_load 4 Try.isAgg22 rfl rfl rfl) ?_ | refine LM.rd (om_load 5 Try.isAgg22 rfl rfl rfl) ?_ | refine LM.rd (om_load 6 Try.isAgg22 rfl rfl rfl) ?_ | refine LM.rd (om_load 7 Try.isAgg22 rfl rfl rfl) ?_ | refine LM.rd (om_load 8 Try.isAgg22 rfl rfl rfl) ?_
    refine LM.strip (t := 15) rfl rfl rfl ?_
    refine LM.val (ov_ulss rfl rfl) ?_
    refine LM.strip (t := 15) rfl rfl rfl ?_
    refine LM.val (ov_move rfl) ?_
    first | refine LM.splitD (t := 21) rfl (fun h2 => ?_) (fun h2 => ?_) | refine LM.splitB (t := 21) rfl (fun h2 => ?_) (fun h2 => ?_)
    ·
      refine LM.drop (t := 21) rfl rfl rfl ?_
      refine LM.drop (t := 21) rfl rfl rfl ?_
      refine LM.drop (t := 21) rfl rfl rfl ?_
      refine LM.strip (t := 15) rfl rfl rfl ?_
      refine LM.val (ov_pickT rfl rfl) ?_
      refine LM.val (ov_pickT rfl rfl) ?_
      refine LM.val (ov_assign rfl) ?_
      refine LM.nil ?_
      refine QM.sub (e' := [(4, _)]) ⟨rfl, trivial⟩ ?_
      refine QM.then ?_
      refine wpM.ret ?_
      refine QM.leave (.inl rfl) [.tmp 4] Try.results67 rfl ?_
      intro w' hm' hc' hg'
      -- leaf 1: h1+ h2+
      refine ⟨?_, hc'⟩; simp only [resV, overlapB, meetsB]; congr 1; simp_all <;> (intros; omega)
    ·
      refine LM.strip (t := 21) rfl rfl rfl ?_
      refine LM.val (ov_field Try.underlying72 rfl Try.sizeOf3 rfl (k := 4) rfl rfl) ?_
      refine LM.strip (t := 21) rfl rfl rfl ?_
      first | refine LM.rd (om_load 0 Try.isAgg3 rfl rfl rfl) ?_ | refine LM.rd (om_load 1 Try.isAgg3 rfl rfl rfl) ?_ | refine LM.rd (om_load 2 Try.isAgg3 rfl rfl rfl) ?_ | refine LM.rd (om_load 3 Try.isAgg3 rfl rfl rfl) ?_ | refine LM.rd (om_load 4 Try.isAgg3 rfl rfl rfl) ?_ | refine LM.rd (om_load 5 Try.isAgg3 rfl rfl rfl) ?_ | refine LM.rd (om_load 6 Try.isAgg3 rfl rfl rfl) ?_ | refine LM.rd (om_load 7 Try.isAgg3 rfl rfl rfl) ?_ | refine LM.rd (om_load 8 Try.isAgg3 rfl rfl rfl) ?_
      refine LM.strip (t := 21) rfl rfl rfl ?_
      refine LM.val (ov_eql rfl rfl) ?_
      refine LM.strip (t := 15) rfl rfl rfl ?_
      refine LM.val (ov_pickF rfl rfl) ?_
      refine LM.val (ov_pickT rfl rfl) ?_
      refine LM.val (ov_assign rfl) ?_
      refine LM.nil ?_
      refine QM.sub (e' := [(4, _)]) ⟨rfl, trivial⟩ ?_
      refine QM.then ?_
      refine wpM.ret ?_
      refine QM.leave (.inl rfl) [.tmp 4] Try.results67 rfl ?_
      intro w' hm' hc' hg'
      -- leaf 2: h1+ h2-
      refine ⟨?_, hc'⟩; simp only [resV, overlapB, meetsB]; congr 1; simp_all <;> (intros; omega)
  ·
    refine LM.strip (t := 10) rfl rfl rfl ?_
    refine LM.val (ov_field Try.underlying72 rfl Try.sizeOf3 rfl (k := 4) rfl rfl) ?_
    refine LM.strip (t := 10) rfl rfl rfl ?_
    first | refine LM.rd (om_load 0 Try.isAgg3 rfl rfl rfl) ?_ | refine LM.rd (om_load 1 Try.isAgg3 rfl rfl rfl) ?_ | refine LM.rd (om_load 2 Try.isAgg3 rfl rfl rfl) ?_ | refine LM.rd (om_load 3 Try.isAgg3 rfl rfl rfl) ?_ | refine LM.rd (om_load 4 Try.isAgg3 rfl rfl rfl) ?_ | refine LM.rd (om_load 5 Try.isAgg3 rfl rfl rfl) ?_ | refine LM.rd (om_load 6 Try.isAgg3 rfl rfl rfl) ?_ | refine LM.rd (om_load 7 Try.isAgg3 rfl rfl rfl) ?_ | refine LM.rd (om_load 8 Try.isAgg3 rfl rfl rfl) ?_
    refine LM.strip (t := 10) rfl rfl rfl ?_
    refine LM.val (ov_eql rfl rfl) ?_
    refine LM.val (ov_pickF rfl rfl) ?_
    refine LM.val (ov_move rfl) ?_
    first | refine LM.splitD (t := 15) rfl (fun h3 => ?_) (fun h3 => ?_) | refine LM.splitB (t := 15) rfl (fun h3 => ?_) (fun h3 => ?_)
    ·
      refine LM.strip (t := 15) rfl rfl rfl ?_
      refine LM.val (ov_field Try.underlying72 rfl Try.sizeOf22 rfl (k := 2) rfl rfl) ?_
      refine LM.strip (t := 15) rfl rfl rfl ?_
      first | refine LM.rd (om_load 0 Try.isAgg22 rfl rfl rfl) ?_ | refine LM.rd (om_load 1 Try.isAgg22 rfl rfl rfl) ?_ | refine LM.rd (om_load 2 Try.isAgg22 rfl rfl rfl) ?_ | refine LM.rd (om_load 3 Try.isAgg22 rfl rfl rfl) ?_ | refine LM.rd (om_load 4 Try.isAgg22 rfl rfl rfl) ?_ | refine LM.rd (om_load 5 Try.isAgg22 rfl rfl rfl) ?_ | refine LM.rd (om_load 6 Try.isAgg22 rfl rfl rfl) ?_ | refine LM.rd (om_load 7 Try.isAgg22 rfl rfl rfl) ?_ | refine LM.rd (om_load 8 Try.isAgg22 rfl rfl rfl) ?_
      refine LM.strip (t := 15) rfl rfl rfl ?_
      refine LM.val (ov_field Try.underlying72 rfl Try.sizeOf22 rfl (k := 3) rfl rfl) ?_
      refine LM.strip (t := 15) rfl rfl rfl ?_
      first | refine LM.rd (om_load 0 Try.isAgg22 rfl rfl rfl) ?_ | refine LM.rd (om_load 1 Try.isAgg22 rfl rfl rfl) ?_ | refine LM.rd (om_load 2 Try.isAgg22 rfl rfl rfl) ?_ | refine LM.rd (om_load 3 Try.isAgg22 rfl rfl rfl) ?_ | refine LM.rd (om_load 4 Try.isAgg22 rfl rfl rfl) ?_ | refine LM.rd (om_load 5 Try.isAgg22 rfl rfl rfl) ?_ | refine LM.rd (om_load 6 Try.isAgg22 rfl rfl rfl) ?_ | refine LM.rd (om_load 7 Try.isAgg22 rfl rfl rfl) ?_ | refine LM.rd (om_load 8 Try.isAgg22 rfl rfl rfl) ?_
      refine LM.strip (t := 15) rfl rfl rfl ?_
      refine LM.val (ov_ulss rfl rfl) ?_
      refine LM.strip (t := 15) rfl rfl rfl ?_
      refine LM.val (ov_move rfl) ?_
      first | refine LM.splitD (t := 21) rfl (fun h4 => ?_) (fun h4 => ?_) | refine LM.splitB (t := 21) rfl (fun h4 => ?_) (fun h4 => ?_)
      ·
        refine LM.drop (t := 21) rfl rfl rfl ?_
        refine LM.drop (t := 21) rfl rfl rfl ?_
        refine LM.drop (t := 21) rfl rfl rfl ?_
        refine LM.strip (t := 15) rfl rfl rfl ?_
        refine LM.val (ov_pickT rfl rfl) ?_
        refine LM.val (ov_pickT rfl rfl) ?_
        refine LM.val (ov_assign rfl) ?_
        refine LM.nil ?_
        refine QM.sub (e' := [(4, _)]) ⟨rfl, trivial⟩ ?_
        refine QM.then ?_
        refine wpM.ret ?_
        refine QM.leave (.inl rfl) [.tmp 4] Try.results67 rfl ?_
        intro w' hm' hc' hg'
        -- leaf 3: h1- h3+ h4+
        refine ⟨?_, hc'⟩; simp only [resV, overlapB, meetsB]; congr 1; simp_all <;> (intros; omega)
      ·
        refine LM.strip (t := 21) rfl rfl rfl ?_
        refine LM.val (ov_field Try.underlying72 rfl Try.sizeOf3 rfl (k := 4) rfl rfl) ?_
        refine LM.strip (t := 21) rfl rfl rfl ?_
        first | refine LM.rd (om_load 0 Try.isAgg3 rfl rfl rfl) ?_ | refine LM.rd (om_load 1 Try.isAgg3 rfl rfl rfl) ?_ | refine LM.rd (om_load 2 Try.isAgg3 rfl rfl rfl) ?_ | refine LM.rd (om_load 3 Try.isAgg3 rfl rfl rfl) ?_ | refine LM.rd (om_load 4 Try.isAgg3 rfl rfl rfl) ?_ | refine LM.rd (om_load 5 Try.isAgg3 rfl rfl rfl) ?_ | refine LM.rd (om_load 6 Try.isAgg3 rfl rfl rfl) ?_ | refine LM.rd (om_load 7 Try.isAgg3 rfl rfl rfl) ?_ | refine LM.rd (om_load 8 Try.isAgg3 rfl rfl rfl) ?_
        refine LM.strip (t := 21) rfl rfl rfl ?_
        refine LM.val (ov_eql rfl rfl) ?_
        refine LM.strip (t := 15) rfl rfl rfl ?_
        refine LM.val (ov_pickF rfl rfl) ?_
        refine LM.val (ov_pickT rfl rfl) ?_
        refine LM.val (ov_assign rfl) ?_
        refine LM.nil ?_
        refine QM.sub (e' := [(4, _)]) ⟨rfl, trivial⟩ ?_
        refine QM.then ?_
        refine wpM.ret ?_
        refine QM.leave (.inl rfl) [.tmp 4] Try.results67 rfl ?_
        intro w' hm' hc' hg'
        -- leaf 4: h1- h3+ h4-
        refine ⟨?_, hc'⟩; simp only [resV, overlapB, meetsB]; congr 1; simp_all <;> (intros; omega)
    ·
      refine LM.drop (t := 15) rfl rfl rfl ?_
      refine LM.drop (t := 15) rfl rfl rfl ?_
      refine LM.drop (t := 15) rfl rfl rfl ?_
      refine LM.drop (t := 15) rfl rfl rfl ?_
      refine LM.drop (t := 15) rfl rfl rfl ?_
      refine LM.dropU (t := 15) rfl rfl rfl ?_
      refine LM.dropX (t := 21) rfl rfl ?_
      refine LM.dropX (t := 21) rfl rfl ?_
      refine LM.dropX (t := 21) rfl rfl ?_
      refine LM.drop (t := 15) rfl rfl rfl ?_
      refine LM.val (ov_pickF rfl rfl) ?_
      refine LM.val (ov_assign rfl) ?_
      refine LM.nil ?_
      refine QM.sub (e' := [(4, _)]) ⟨rfl, trivial⟩ ?_
      refine QM.then ?_
      refine wpM.ret ?_
      refine QM.leave (.inl rfl) [.tmp 4] Try.results67 rfl ?_
      intro w' hm' hc' hg'
      -- leaf 5: h1- h3-
      refine ⟨?_, hc'⟩; simp only [resV, overlapB, meetsB]; congr 1; simp_all <;> (intros; omega)

end Go.Eng

