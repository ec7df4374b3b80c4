/- The walks of who waits for whom. No condition. -/
import Derived.Test.YtpemcncnehhgfaaDoorIdsW
import Derived.Test.YtpemcncnehhgfaaDoorGraphLaw
import Derived.Test.YtpemcncnehhgfaaDoorOpen
set_option linter.unusedVariables false
set_option linter.unusedSimpArgs false
namespace Go.Eng
open Go Go.Proofs Go.RowKit

abbrev gB (b : Nat) (G : Gr) : Nat × Obj := (b, .cells (arr fU G []) 85 (0, 0))
abbrev gO (G : Gr) : Obj := .cells (arr fU G []) 85 (0, 0)
def NewGT (n0 : Nat) (v : Value) (m : Mem0) : Prop := ∃ b, v = .pointer (some ⟨b, 0, none⟩) ∧ m = [gB b zeroG] ∧ n0 ≤ b
theorem NewGT.mono : ∀ (k k' : Nat) u m, k' ≤ k → NewGT k u m → NewGT k' u m := fun k k' u m h ⟨b, h1, h2, h3⟩ => ⟨b, h1, h2, by omega⟩
set_option maxRecDepth 100000 in
theorem gnew_spec (w : World) : Ret Tryd.prog 27 #[] w (fun v w' => Ext w w' ∧ ∃ m, NewGT w.heap.size v m ∧ Mem w' m ∧ ∀ p ∈ m, w.heap.size ≤ p.1) := by
  refine Ret.enterM (l := []) Tryd.func27 rfl Tryd.ntmps27 rfl ([]) (no) (Mem.nil w) ?_
  refine wpM.seq ?_
  refine wpM.region ?_
  refine LM.val (ov_assign rfl) ?_
  refine LM.nil ?_
  refine QM.sub (e' := []) trivial ?_
  refine QM.then ?_
  refine wpM.seq ?_
  refine wpM.region ?_
  refine LM.val (ov_build (cs := #[_, _, _, _, _, _, _, _, _, _, _, _, _, _, _, _, _, _, _, _, _, _, _, _, _, _, _, _, _, _, _, _, _, _, _, _, _, _, _, _, _, _, _, _, _, _, _, _, _, _, _, _, _, _, _, _, _, _, _, _, _, _, _, _]) rfl (by first | rfl | kernel_rfl)) ?_
  refine LM.box rfl rfl (fun b2 hb2 => ?_)
  refine LM.val (ov_assign rfl) ?_
  refine LM.nil ?_
  refine QM.sub (e' := [(0, _)]) ⟨rfl, trivial⟩ ?_
  refine QM.then ?_
  refine wpM.ret ?_
  refine QM.leave (.inl rfl) [.tmp 0] Tryd.results27 rfl ?_
  intro w' hm' hc' hg'
  -- leaf 1: 
  exact ⟨hc', [gB b2 zeroG], ⟨b2, rfl, rfl, hb2⟩, SubM.mem (by (repeat' (first | exact SubM.nil _ | refine SubM.cons (by kernel_rfl) ?_ | refine SubM.app ?_))) _ hm', fun p hp => by simp only [List.mem_cons, List.not_mem_nil, or_false] at hp; subst hp; assumption⟩

set_option maxRecDepth 100000 in
theorem is_spec (b : Nat) (who : Int) (w : World) : Ret Tryd.prog 59 #[.pointer (some ⟨b, 0, none⟩), .int .i64 who] w (fun v w' => v = .bool (inG who) ∧ Ext w w') := by
  refine Ret.enterM (l := [.pointer (some ⟨b, 0, none⟩), .int .i64 who]) Tryd.func59 rfl Tryd.ntmps59 rfl ([]) (no) (Mem.nil w) ?_
  refine wpM.seq ?_
  refine wpM.region ?_
  refine LM.val (ov_assign rfl) ?_
  refine LM.nil ?_
  refine QM.sub (e' := [(0, _), (1, _)]) ⟨rfl, rfl, trivial⟩ ?_
  refine QM.then ?_
  refine wpM.seq ?_
  refine wpM.region ?_
  refine LM.val (ov_move rfl) ?_
  refine LM.val (ov_pneq (by kernel_rfl) rfl rfl) ?_
  refine LM.val (ov_move rfl) ?_
  refine LM.strip (t := 7) rfl rfl rfl ?_
  refine LM.val (ov_move rfl) ?_
  refine LM.strip (t := 7) rfl rfl rfl ?_
  refine LM.val (ov_geq rfl rfl) ?_
  refine LM.val (ov_pickT rfl rfl) ?_
  refine LM.val (ov_move rfl) ?_
  first | refine LM.splitD (t := 11) rfl (fun h1 => ?_) (fun h1 => ?_) | refine LM.splitB (t := 11) rfl (fun h1 => ?_) (fun h1 => ?_)
  ·
    refine LM.strip (t := 11) rfl rfl rfl ?_
    refine LM.val (ov_move rfl) ?_
    refine LM.strip (t := 11) rfl rfl rfl ?_
    refine LM.val (ov_lss rfl rfl) ?_
    refine LM.val (ov_pickT rfl rfl) ?_
    refine LM.val (ov_assign rfl) ?_
    refine LM.nil ?_
    refine QM.sub (e' := [(4, _)]) ⟨rfl, trivial⟩ ?_
    refine QM.then ?_
    refine wpM.ret ?_
    refine QM.leave (.inl rfl) [.tmp 4] Tryd.results59 rfl ?_
    intro w' hm' hc' hg'
    -- leaf 1: h1+
    refine ⟨?_, hc'⟩; simp only [resV, inG, h1, decide_true, decide_false, Bool.true_and, Bool.false_and, Bool.and_true, Bool.and_false, Bool.not_true, Bool.not_false, Bool.true_or, Bool.false_or, Bool.or_true, Bool.or_false, ne_eq, not_true_eq_false, not_false_eq_true, Bool.and_self]
  ·
    refine LM.drop (t := 11) rfl rfl rfl ?_
    refine LM.drop (t := 11) rfl rfl rfl ?_
    refine LM.val (ov_pickF rfl rfl) ?_
    refine LM.val (ov_assign rfl) ?_
    refine LM.nil ?_
    refine QM.sub (e' := [(4, _)]) ⟨rfl, trivial⟩ ?_
    refine QM.then ?_
    refine wpM.ret ?_
    refine QM.leave (.inl rfl) [.tmp 4] Tryd.results59 rfl ?_
    intro w' hm' hc' hg'
    -- leaf 2: h1-
    refine ⟨?_, hc'⟩; simp only [resV, inG, h1, decide_true, decide_false, Bool.true_and, Bool.false_and, Bool.and_true, Bool.and_false, Bool.not_true, Bool.not_false, Bool.true_or, Bool.false_or, Bool.or_true, Bool.or_false, ne_eq, not_true_eq_false, not_false_eq_true, Bool.and_self]

set_option maxRecDepth 100000 in
theorem is_nil (who : Int) (w : World) : Ret Tryd.prog 59 #[.pointer none, .int .i64 who] w (fun v w' => v = .bool false ∧ Ext w w') := by
  refine Ret.enterM (l := [.pointer none, .int .i64 who]) Tryd.func59 rfl Tryd.ntmps59 rfl ([]) (no) (Mem.nil w) ?_
  refine wpM.seq ?_
  refine wpM.region ?_
  refine LM.val (ov_assign rfl) ?_
  refine LM.nil ?_
  refine QM.sub (e' := [(0, _), (1, _)]) ⟨rfl, rfl, trivial⟩ ?_
  refine QM.then ?_
  refine wpM.seq ?_
  refine wpM.region ?_
  refine LM.val (ov_move rfl) ?_
  refine LM.val (ov_pneq (by kernel_rfl) rfl rfl) ?_
  refine LM.val (ov_move rfl) ?_
  first | refine LM.splitD (t := 7) rfl (fun h1 => ?_) (fun h1 => ?_) | refine LM.splitB (t := 7) rfl (fun h1 => ?_) (fun h1 => ?_)
  ·
    refine LM.strip (t := 7) rfl rfl rfl ?_
    refine LM.val (ov_move rfl) ?_
    refine LM.strip (t := 7) rfl rfl rfl ?_
    refine LM.val (ov_geq rfl rfl) ?_
    refine LM.val (ov_pickT rfl rfl) ?_
    refine LM.val (ov_move rfl) ?_
    first | refine LM.splitD (t := 11) rfl (fun h2 => ?_) (fun h2 => ?_) | refine LM.splitB (t := 11) rfl (fun h2 => ?_) (fun h2 => ?_)
    ·
      refine LM.strip (t := 11) rfl rfl rfl ?_
      refine LM.val (ov_move rfl) ?_
      refine LM.strip (t := 11) rfl rfl rfl ?_
      refine LM.val (ov_lss rfl rfl) ?_
      refine LM.val (ov_pickT rfl rfl) ?_
      refine LM.val (ov_assign rfl) ?_
      refine LM.nil ?_
      refine QM.sub (e' := [(4, _)]) ⟨rfl, trivial⟩ ?_
      refine QM.then ?_
      refine wpM.ret ?_
      refine QM.leave (.inl rfl) [.tmp 4] Tryd.results59 rfl ?_
      intro w' hm' hc' hg'
      -- leaf 1: h1+ h2+
      first | exact ⟨rfl, hc'⟩ | (exfalso; simp at *; done)
    ·
      refine LM.drop (t := 11) rfl rfl rfl ?_
      refine LM.drop (t := 11) rfl rfl rfl ?_
      refine LM.val (ov_pickF rfl rfl) ?_
      refine LM.val (ov_assign rfl) ?_
      refine LM.nil ?_
      refine QM.sub (e' := [(4, _)]) ⟨rfl, trivial⟩ ?_
      refine QM.then ?_
      refine wpM.ret ?_
      refine QM.leave (.inl rfl) [.tmp 4] Tryd.results59 rfl ?_
      intro w' hm' hc' hg'
      -- leaf 2: h1+ h2-
      first | exact ⟨rfl, hc'⟩ | (exfalso; simp at *; done)
  ·
    refine LM.drop (t := 7) rfl rfl rfl ?_
    refine LM.drop (t := 7) rfl rfl rfl ?_
    refine LM.val (ov_pickF rfl rfl) ?_
    refine LM.val (ov_move rfl) ?_
    refine LM.drop (t := 11) rfl rfl rfl ?_
    refine LM.drop (t := 11) rfl rfl rfl ?_
    refine LM.val (ov_pickF rfl rfl) ?_
    refine LM.val (ov_assign rfl) ?_
    refine LM.nil ?_
    refine QM.sub (e' := [(4, _)]) ⟨rfl, trivial⟩ ?_
    refine QM.then ?_
    refine wpM.ret ?_
    refine QM.leave (.inl rfl) [.tmp 4] Tryd.results59 rfl ?_
    intro w' hm' hc' hg'
    -- leaf 3: h1-
    first | exact ⟨rfl, hc'⟩ | (exfalso; simp at *; done)

set_option maxRecDepth 100000 in
theorem over_spec (b : Nat) (G : Gr) (s : BitVec 64) (w : World) (hG : G.length = 64) (hT : Tab w) (hM : Mem w [gB b G]) : Ret Tryd.prog 60 #[.pointer (some ⟨b, 0, none⟩), U s] w (fun v w' => v = U (ovr G s) ∧ Ext w w') := by
  refine Ret.enterM (l := [.pointer (some ⟨b, 0, none⟩), U s]) Tryd.func60 rfl Tryd.ntmps60 rfl ([gB b G]) (no) hM ?_
  refine wpM.seq ?_
  refine wpM.region ?_
  refine LM.val (ov_assign rfl) ?_
  refine LM.nil ?_
  refine QM.sub (e' := [(0, _), (1, _)]) ⟨rfl, rfl, trivial⟩ ?_
  refine QM.then ?_
  refine wpM.seq ?_
  refine wpM.region ?_
  refine LM.val (ov_move rfl) ?_
  refine LM.val (ov_assign rfl) ?_
  refine LM.nil ?_
  refine QM.sub (e' := [(0, _), (1, _), (5, _)]) ⟨rfl, rfl, rfl, trivial⟩ ?_
  refine QM.then ?_
  refine wpM.seq ?_
  refine wpM.seq ?_
  refine wpM.region ?_
  refine LM.val (ov_move rfl) ?_
  refine LM.val (ov_assign rfl) ?_
  refine LM.nil ?_
  refine QM.sub (e' := [(0, _), (5, _), (6, _)]) ⟨rfl, rfl, rfl, trivial⟩ ?_
  refine QM.then ?_
  refine wpM.block ?_
  refine wpM.loopK0 (α := BitVec 64 × BitVec 64) (fun ⟨met, todo⟩ => [(5, U met), (6, U todo)]) [(0, _)] (fun ⟨met, todo⟩ => [gB b G]) (fun ⟨met, todo⟩ => OvI G s met todo) (fun ⟨met, todo⟩ => 64 - card (met &&& ~~~todo)) ((s, s)) ⟨(by first | rfl | exact lk rfl (by congr 1; omega) | exact lk rfl (by simp)), (by first | rfl | exact lk rfl (by congr 1; omega) | exact lk rfl (by simp)), rfl, trivial⟩ (by (repeat' (first | exact SubM.nil _ | refine SubM.cons rfl ?_ | refine SubM.app ?_))) (OvI.init G s) ?_
  rintro ⟨met, todo⟩ hi
  change wpM _ _ _ _ _ _ _ ([gB b G]) _ _ _
  refine wpM.seq ?_
  refine wpM.seq ?_
  refine wpM.region ?_
  refine LM.val (ov_move rfl) ?_
  refine LM.val (ov_uneq (b := 0#64) rfl rfl) ?_
  refine LM.nil ?_
  refine QM.sub (e' := [(0, _), (5, _), (6, _), (12, _)]) ⟨rfl, rfl, rfl, rfl, trivial⟩ ?_
  refine QM.then ?_
  first | refine wpM.condD rfl (fun h1 => ?_) (fun h1 => ?_) | refine wpM.condB rfl (fun h1 => ?_) (fun h1 => ?_)
  ·
    refine wpM.skip ?_
    refine QM.then ?_
    refine wpM.block ?_
    refine wpM.seq ?_
    refine wpM.region ?_
    refine LM.val (ov_move rfl) ?_
    refine LM.callE (oc_call (enters_fn Tryd.func25 (by kernel_rfl) rfl) rfl) (fun w hm hc hg => first_at (n := (lsb todo : Nat)) (by unfold firstI; rw [if_neg h1]) w (hT.ext hc)) ?_
    refine LM.val (ov_assign rfl) ?_
    refine LM.nil ?_
    refine QM.sub (e' := [(0, _), (5, _), (6, _), (7, _)]) ⟨rfl, rfl, rfl, rfl, trivial⟩ ?_
    refine QM.then ?_
    refine wpM.seq ?_
    refine wpM.region ?_
    refine LM.val (ov_move rfl) ?_
    refine LM.val (ov_move rfl) ?_
    refine LM.callE (oc_call (enters_fn Tryd.func22 (by kernel_rfl) rfl) rfl) (fun w hm hc hg => without_spec _ _ w) ?_
    refine LM.val (ov_assign rfl) ?_
    refine LM.nil ?_
    refine QM.sub (e' := [(0, _), (5, _), (6, _), (7, _)]) ⟨rfl, rfl, rfl, rfl, trivial⟩ ?_
    refine QM.then ?_
    refine wpM.seq ?_
    refine wpM.region ?_
    have hlt := (lsb_spec h1).1
    refine LM.val (ov_move rfl) ?_
    refine LM.val (ov_move rfl) ?_
    refine LM.val (ov_nilCheck rfl) ?_
    refine LM.val (ov_field Tryd.underlying85 rfl Tryd.sizeOf83 rfl (k := 0) rfl rfl) ?_
    first | refine LM.val (ov_idxAN Tryd.underlying83 Tryd.sizeOf23 rfl rfl (by omega)) ?_ | refine LM.val (ov_idxA Tryd.underlying83 Tryd.sizeOf23 rfl rfl (by omega)) ?_
    first | refine LM.rd (om_ldE1 (by intro _; rfl) Tryd.isAgg23 rfl rfl rfl (getq 0#64 (by omega)) (by rfl)) ?_ | refine LM.rd (om_ld Tryd.isAgg23 rfl rfl) ?_
    refine LM.val (ov_move rfl) ?_
    refine LM.val (ov_uandNot rfl rfl) ?_
    refine LM.val (ov_assign rfl) ?_
    refine LM.nil ?_
    refine QM.sub (e' := [(0, _), (5, _), (6, _), (8, _)]) ⟨rfl, rfl, rfl, rfl, trivial⟩ ?_
    refine QM.then ?_
    refine wpM.seq ?_
    refine wpM.region ?_
    refine LM.val (ov_move rfl) ?_
    refine LM.val (ov_move rfl) ?_
    refine LM.val (ov_uor rfl rfl) ?_
    refine LM.val (ov_assign rfl) ?_
    refine LM.nil ?_
    refine QM.sub (e' := [(0, _), (5, _), (6, _), (8, _)]) ⟨rfl, rfl, rfl, rfl, trivial⟩ ?_
    refine QM.then ?_
    refine wpM.region ?_
    refine LM.val (ov_move rfl) ?_
    refine LM.val (ov_move rfl) ?_
    refine LM.val (ov_uor rfl rfl) ?_
    refine LM.val (ov_assign rfl) ?_
    refine LM.nil ?_
    refine QM.sub (e' := [(0, _), (5, _), (6, _)]) ⟨rfl, rfl, rfl, trivial⟩ ?_
    refine QM.block_normal ?_
    -- again1: h1+
    refine QM.againK (met ||| frs G met (lsb todo), witho todo (lsb todo : Nat) ||| frs G met (lsb todo)) ⟨(by first | rfl | exact lk rfl (by congr 1; omega) | exact lk rfl (by simp)), (by first | rfl | exact lk rfl (by congr 1; omega) | exact lk rfl (by simp)), rfl, trivial⟩ (by (repeat' (first | exact SubM.nil _ | refine SubM.cons rfl ?_ | refine SubM.app ?_))) (fun _ h => h) ?_ ?_
    · exact (hi.step h1).1
    · exact (hi.step h1).2
  ·
    refine wpM.exit ?_
    refine QM.then_exit ?_
    refine QM.then_exit ?_
    refine QM.block_hit ?_
    refine QM.then ?_
    refine wpM.seq ?_
    refine wpM.region ?_
    refine LM.val (ov_move rfl) ?_
    refine LM.val (ov_assign rfl) ?_
    refine LM.nil ?_
    refine QM.sub (e' := [(4, _)]) ⟨rfl, trivial⟩ ?_
    refine QM.then ?_
    refine wpM.ret ?_
    refine QM.leave (.inl rfl) [.tmp 4] Tryd.results60 rfl ?_
    intro w' hm' hc' hg'
    -- leaf 1: h1-
    have h0 : todo = 0#64 := (by simpa using h1); subst h0; exact ⟨by simp only [resV]; rw [hi.end], hc'⟩

set_option maxRecDepth 100000 in
theorem gof_spec (b : Nat) (G : Gr) (who : Int) (w : World) (hG : G.length = 64) (hM : Mem w [gB b G]) : Ret Tryd.prog 31 #[.pointer (some ⟨b, 0, none⟩), .int .i64 who] w (fun v w' => v = U (ofG G who) ∧ Ext w w') := by
  refine Ret.enterM (l := [.pointer (some ⟨b, 0, none⟩), .int .i64 who]) Tryd.func31 rfl Tryd.ntmps31 rfl ([gB b G]) (no) hM ?_
  refine wpM.seq ?_
  refine wpM.region ?_
  refine LM.val (ov_assign rfl) ?_
  refine LM.nil ?_
  refine QM.sub (e' := [(0, _), (1, _)]) ⟨rfl, rfl, trivial⟩ ?_
  refine QM.then ?_
  refine wpM.seq ?_
  refine wpM.seq ?_
  refine wpM.region ?_
  refine LM.val (ov_move rfl) ?_
  refine LM.val (ov_move rfl) ?_
  refine LM.callE (oc_call (enters_fn Tryd.func59 (by kernel_rfl) rfl) rfl) (fun w hm hc hg => is_spec _ _ w) ?_
  first | refine LM.val (ov_notD rfl) ?_ | refine LM.val (ov_not rfl) ?_
  refine LM.nil ?_
  refine QM.sub (e' := [(0, _), (1, _), (8, _)]) ⟨rfl, rfl, rfl, trivial⟩ ?_
  refine QM.then ?_
  first | refine wpM.condD rfl (fun h1 => ?_) (fun h1 => ?_) | refine wpM.condB rfl (fun h1 => ?_) (fun h1 => ?_)
  ·
    refine wpM.seq ?_
    refine wpM.region ?_
    refine LM.val (ov_assign rfl) ?_
    refine LM.nil ?_
    refine QM.sub (e' := [(4, _)]) ⟨rfl, trivial⟩ ?_
    refine QM.then ?_
    refine wpM.ret ?_
    refine QM.then_ret ?_
    refine QM.leave (.inl rfl) [.tmp 4] Tryd.results31 rfl ?_
    intro w' hm' hc' hg'
    -- leaf 1: h1+
    refine ⟨?_, hc'⟩; simp only [resV, ofG]; rw [if_neg (by simpa using h1)]; rfl
  ·
    have hin := inG_iff.1 (show inG who = true by simpa using h1)
    refine wpM.skip ?_
    refine QM.then ?_
    refine wpM.seq ?_
    refine wpM.region ?_
    refine LM.val (ov_move rfl) ?_
    refine LM.val (ov_move rfl) ?_
    refine LM.val (ov_nilCheck rfl) ?_
    refine LM.val (ov_field Tryd.underlying85 rfl Tryd.sizeOf83 rfl (k := 0) rfl rfl) ?_
    first | refine LM.val (ov_idxAN Tryd.underlying83 Tryd.sizeOf23 rfl rfl (by omega)) ?_ | refine LM.val (ov_idxA Tryd.underlying83 Tryd.sizeOf23 rfl rfl (by omega)) ?_
    first | refine LM.rd (om_ldE1 (by intro _; rfl) Tryd.isAgg23 rfl rfl rfl (getq 0#64 (by omega)) (by rfl)) ?_ | refine LM.rd (om_ld Tryd.isAgg23 rfl rfl) ?_
    refine LM.val (ov_assign rfl) ?_
    refine LM.nil ?_
    refine QM.sub (e' := [(4, _)]) ⟨rfl, trivial⟩ ?_
    refine QM.then ?_
    refine wpM.ret ?_
    refine QM.leave (.inl rfl) [.tmp 4] Tryd.results31 rfl ?_
    intro w' hm' hc' hg'
    -- leaf 2: h1-
    refine ⟨?_, hc'⟩; simp only [resV, ofG]; rw [if_pos (by simpa using h1)]; rfl

set_option maxRecDepth 100000 in
theorem greach_spec (b : Nat) (G : Gr) (who : Int) (w : World) (hG : G.length = 64) (hT : Tab w) (hM : Mem w [gB b G]) : Ret Tryd.prog 29 #[.pointer (some ⟨b, 0, none⟩), .int .i64 who] w (fun v w' => v = U (rchG G who) ∧ Ext w w') := by
  refine Ret.enterM (l := [.pointer (some ⟨b, 0, none⟩), .int .i64 who]) Tryd.func29 rfl Tryd.ntmps29 rfl ([gB b G]) (no) hM ?_
  refine wpM.seq ?_
  refine wpM.region ?_
  refine LM.val (ov_assign rfl) ?_
  refine LM.nil ?_
  refine QM.sub (e' := [(0, _), (1, _)]) ⟨rfl, rfl, trivial⟩ ?_
  refine QM.then ?_
  refine wpM.seq ?_
  refine wpM.seq ?_
  refine wpM.region ?_
  refine LM.val (ov_move rfl) ?_
  refine LM.val (ov_move rfl) ?_
  refine LM.callE (oc_call (enters_fn Tryd.func59 (by kernel_rfl) rfl) rfl) (fun w hm hc hg => is_spec _ _ w) ?_
  first | refine LM.val (ov_notD rfl) ?_ | refine LM.val (ov_not rfl) ?_
  refine LM.nil ?_
  refine QM.sub (e' := [(0, _), (1, _), (8, _)]) ⟨rfl, rfl, rfl, trivial⟩ ?_
  refine QM.then ?_
  first | refine wpM.condD rfl (fun h1 => ?_) (fun h1 => ?_) | refine wpM.condB rfl (fun h1 => ?_) (fun h1 => ?_)
  ·
    refine wpM.seq ?_
    refine wpM.region ?_
    refine LM.val (ov_assign rfl) ?_
    refine LM.nil ?_
    refine QM.sub (e' := [(4, _)]) ⟨rfl, trivial⟩ ?_
    refine QM.then ?_
    refine wpM.ret ?_
    refine QM.then_ret ?_
    refine QM.leave (.inl rfl) [.tmp 4] Tryd.results29 rfl ?_
    intro w' hm' hc' hg'
    -- leaf 1: h1+
    refine ⟨?_, hc'⟩; simp only [resV, rchG]; rw [if_neg (by simpa using h1)]; rfl
  ·
    have hin := inG_iff.1 (show inG who = true by simpa using h1)
    refine wpM.skip ?_
    refine QM.then ?_
    refine wpM.seq ?_
    refine wpM.region ?_
    refine LM.val (ov_move rfl) ?_
    refine LM.val (ov_move rfl) ?_
    refine LM.val (ov_move rfl) ?_
    refine LM.val (ov_nilCheck rfl) ?_
    refine LM.val (ov_field Tryd.underlying85 rfl Tryd.sizeOf83 rfl (k := 0) rfl rfl) ?_
    first | refine LM.val (ov_idxAN Tryd.underlying83 Tryd.sizeOf23 rfl rfl (by omega)) ?_ | refine LM.val (ov_idxA Tryd.underlying83 Tryd.sizeOf23 rfl rfl (by omega)) ?_
    first | refine LM.rd (om_ldE1 (by intro _; rfl) Tryd.isAgg23 rfl rfl rfl (getq 0#64 (by omega)) (by rfl)) ?_ | refine LM.rd (om_ld Tryd.isAgg23 rfl rfl) ?_
    refine LM.callE (oc_call (enters_fn Tryd.func60 (by kernel_rfl) rfl) rfl) (fun w hm hc hg => over_spec b G _ w hG (hT.ext hc) (hm.pick _)) ?_
    refine LM.val (ov_assign rfl) ?_
    refine LM.nil ?_
    refine QM.sub (e' := [(4, _)]) ⟨rfl, trivial⟩ ?_
    refine QM.then ?_
    refine wpM.ret ?_
    refine QM.leave (.inl rfl) [.tmp 4] Tryd.results29 rfl ?_
    intro w' hm' hc' hg'
    -- leaf 2: h1-
    refine ⟨?_, hc'⟩; simp only [resV, rchG]; rw [if_pos (by simpa using h1)]; rfl

set_option maxRecDepth 100000 in
theorem closes_spec (b : Nat) (G : Gr) (who : Int) (s : BitVec 64) (w : World) (hG : G.length = 64) (hT : Tab w) (hM : Mem w [gB b G]) : Ret Tryd.prog 45 #[.pointer (some ⟨b, 0, none⟩), .int .i64 who, U s] w (fun v w' => v = .bool (hasB (ovr G s) who) ∧ Ext w w') := by
  refine Ret.enterM (l := [.pointer (some ⟨b, 0, none⟩), .int .i64 who, U s]) Tryd.func45 rfl Tryd.ntmps45 rfl ([gB b G]) (no) hM ?_
  refine wpM.seq ?_
  refine wpM.region ?_
  refine LM.val (ov_assign rfl) ?_
  refine LM.nil ?_
  refine QM.sub (e' := [(0, _), (1, _), (2, _)]) ⟨rfl, rfl, rfl, trivial⟩ ?_
  refine QM.then ?_
  refine wpM.seq ?_
  refine wpM.region ?_
  refine LM.val (ov_move rfl) ?_
  refine LM.val (ov_move rfl) ?_
  refine LM.callE (oc_call (enters_fn Tryd.func59 (by kernel_rfl) rfl) rfl) (fun w hm hc hg => is_spec _ _ w) ?_
  refine LM.val (ov_move rfl) ?_
  first | refine LM.splitD (t := 10) rfl (fun h1 => ?_) (fun h1 => ?_) | refine LM.splitB (t := 10) rfl (fun h1 => ?_) (fun h1 => ?_)
  ·
    refine LM.strip (t := 10) rfl rfl rfl ?_
    refine LM.val (ov_move rfl) ?_
    refine LM.strip (t := 10) rfl rfl rfl ?_
    refine LM.val (ov_move rfl) ?_
    refine LM.strip (t := 10) rfl rfl rfl ?_
    refine LM.callE (oc_call (enters_fn Tryd.func60 (by kernel_rfl) rfl) rfl) (fun w hm hc hg => over_spec b G _ w hG (hT.ext hc) (hm.pick _)) ?_
    refine LM.strip (t := 10) rfl rfl rfl ?_
    refine LM.val (ov_move rfl) ?_
    refine LM.strip (t := 10) rfl rfl rfl ?_
    refine LM.callE (oc_call (enters_fn Tryd.func19 (by kernel_rfl) rfl) rfl) (fun w hm hc hg => has_spec _ _ w) ?_
    refine LM.val (ov_pickT rfl rfl) ?_
    refine LM.val (ov_assign rfl) ?_
    refine LM.nil ?_
    refine QM.sub (e' := [(6, _)]) ⟨rfl, trivial⟩ ?_
    refine QM.then ?_
    refine wpM.ret ?_
    refine QM.leave (.inl rfl) [.tmp 6] Tryd.results45 rfl ?_
    intro w' hm' hc' hg'
    -- leaf 1: h1+
    exact ⟨rfl, hc'⟩
  ·
    refine LM.drop (t := 10) rfl rfl rfl ?_
    refine LM.drop (t := 10) rfl rfl rfl ?_
    refine LM.drop (t := 10) rfl rfl rfl ?_
    refine LM.drop (t := 10) rfl rfl rfl ?_
    refine LM.drop (t := 10) rfl rfl rfl ?_
    refine LM.val (ov_pickF rfl rfl) ?_
    refine LM.val (ov_assign rfl) ?_
    refine LM.nil ?_
    refine QM.sub (e' := [(6, _)]) ⟨rfl, trivial⟩ ?_
    refine QM.then ?_
    refine wpM.ret ?_
    refine QM.leave (.inl rfl) [.tmp 6] Tryd.results45 rfl ?_
    intro w' hm' hc' hg'
    -- leaf 2: h1-
    refine ⟨?_, hc'⟩; simp only [resV]; congr 1; cases hh : hasB (ovr G s) who; rfl; (have := hasB_rng hh; simp [inG, this.1, this.2] at h1)

set_option maxRecDepth 100000 in
theorem wait_spec (b : Nat) (G : Gr) (who : Int) (s : BitVec 64) (w : World) (hG : G.length = 64) (hT : Tab w) (hb0 : 0 < b) (hM : Mem w [gB b G]) : Ret Tryd.prog 28 #[.pointer (some ⟨b, 0, none⟩), .int .i64 who, U s] w (WrP b (.int .i64 (wtE G who s)) (gO (wtG G who s)) w) := by
  refine Ret.enterM (l := [.pointer (some ⟨b, 0, none⟩), .int .i64 who, U s]) Tryd.func28 rfl Tryd.ntmps28 rfl ([gB b G]) ((fun x => x = b)) hM ?_
  refine wpM.seq ?_
  refine wpM.region ?_
  refine LM.val (ov_assign rfl) ?_
  refine LM.nil ?_
  refine QM.sub (e' := [(0, _), (1, _), (2, _)]) ⟨rfl, rfl, rfl, trivial⟩ ?_
  refine QM.then ?_
  refine wpM.seq ?_
  refine wpM.block ?_
  refine wpM.seq ?_
  refine wpM.region ?_
  refine LM.val (ov_move rfl) ?_
  refine LM.val (ov_move rfl) ?_
  refine LM.callE (oc_call (enters_fn Tryd.func59 (by kernel_rfl) rfl) rfl) (fun w hm hc hg => is_spec _ _ w) ?_
  first | refine LM.val (ov_notD rfl) ?_ | refine LM.val (ov_not rfl) ?_
  refine LM.val (ov_assign rfl) ?_
  refine LM.nil ?_
  refine QM.sub (e' := [(0, _), (1, _), (2, _), (7, _)]) ⟨rfl, rfl, rfl, rfl, trivial⟩ ?_
  refine QM.then ?_
  first | refine wpM.condD rfl (fun h1 => ?_) (fun h1 => ?_) | refine wpM.condB rfl (fun h1 => ?_) (fun h1 => ?_)
  ·
    refine wpM.seq ?_
    refine wpM.region ?_
    refine LM.val (ov_assign rfl) ?_
    refine LM.nil ?_
    refine QM.sub (e' := [(6, _)]) ⟨rfl, trivial⟩ ?_
    refine QM.then ?_
    refine wpM.ret ?_
    refine QM.block_ret ?_
    refine QM.then_ret ?_
    refine QM.leave (.inl rfl) [.tmp 6] Tryd.results28 rfl ?_
    intro w' hm' hc' hg'
    -- leaf 1: h1+
    have he : wtE G who s = 1 := (by unfold wtE; rw [if_neg (by simpa using h1)]); refine ⟨by rw [he]; rfl, hc', ?_⟩; unfold wtG; rw [if_neg (by omega)]; exact hm'.at b
  ·
    have hin := inG_iff.1 (show inG who = true by simpa using h1)
    refine wpM.seq ?_
    refine wpM.region ?_
    refine LM.val (ov_move rfl) ?_
    refine LM.val (ov_move rfl) ?_
    refine LM.val (ov_move rfl) ?_
    refine LM.callE (oc_call (enters_fn Tryd.func45 (by kernel_rfl) rfl) rfl) (fun w hm hc hg => closes_spec b G _ _ w hG (hT.keep hc (fun h => by omega)) (hm.pick _)) ?_
    refine LM.val (ov_assign rfl) ?_
    refine LM.nil ?_
    refine QM.sub (e' := [(0, _), (1, _), (2, _), (12, _)]) ⟨rfl, rfl, rfl, rfl, trivial⟩ ?_
    refine QM.then ?_
    first | refine wpM.condD rfl (fun h2 => ?_) (fun h2 => ?_) | refine wpM.condB rfl (fun h2 => ?_) (fun h2 => ?_)
    ·
      refine wpM.seq ?_
      refine wpM.region ?_
      refine LM.val (ov_assign rfl) ?_
      refine LM.nil ?_
      refine QM.sub (e' := [(6, _)]) ⟨rfl, trivial⟩ ?_
      refine QM.then ?_
      refine wpM.ret ?_
      refine QM.block_ret ?_
      refine QM.then_ret ?_
      refine QM.leave (.inl rfl) [.tmp 6] Tryd.results28 rfl ?_
      intro w' hm' hc' hg'
      -- leaf 2: h1- h2+
      have he : wtE G who s = 9 := (by unfold wtE; rw [if_pos (by simpa using h1), if_pos h2]); refine ⟨by rw [he]; rfl, hc', ?_⟩; unfold wtG; rw [if_neg (by omega)]; exact hm'.at b
    ·
      refine wpM.skip ?_
      refine QM.block_normal ?_
      refine QM.then ?_
      refine wpM.seq ?_
      refine wpM.region ?_
      refine LM.val (ov_move rfl) ?_
      refine LM.val (ov_move rfl) ?_
      refine LM.val (ov_move rfl) ?_
      refine LM.val (ov_nilCheck rfl) ?_
      refine LM.val (ov_field Tryd.underlying85 rfl Tryd.sizeOf83 rfl (k := 0) rfl rfl) ?_
      first | refine LM.val (ov_idxAN Tryd.underlying83 Tryd.sizeOf23 rfl rfl (by omega)) ?_ | refine LM.val (ov_idxA Tryd.underlying83 Tryd.sizeOf23 rfl rfl (by omega)) ?_
      refine LM.stE1 _ (by intro _; rfl) Tryd.sizeOf23 rfl rfl rfl rfl (getq 0#64 (by omega)) rfl rfl rfl (fun _ => rfl) ?_
      refine LM.nil ?_
      refine QM.sub (e' := []) trivial ?_
      refine QM.then ?_
      refine wpM.seq ?_
      refine wpM.region ?_
      refine LM.val (ov_assign rfl) ?_
      refine LM.nil ?_
      refine QM.sub (e' := [(6, _)]) ⟨rfl, trivial⟩ ?_
      refine QM.then ?_
      refine wpM.ret ?_
      refine QM.leave (.inl rfl) [.tmp 6] Tryd.results28 rfl ?_
      intro w' hm' hc' hg'
      -- leaf 3: h1- h2-
      have he : wtE G who s = 0 := (by unfold wtE; rw [if_pos (by simpa using h1), if_neg (by rw [h2]; simp)]); refine ⟨by rw [he]; rfl, hc', ?_⟩; unfold wtG; rw [if_pos he]; exact hm'.at b

end Go.Eng

