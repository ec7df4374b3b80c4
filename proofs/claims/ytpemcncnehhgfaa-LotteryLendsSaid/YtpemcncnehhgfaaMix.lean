/- The walks of mix and of its reference: numbers. No condition. -/
import Derived.Test.YtpemcncnehhgfaaEng5
import Derived.Test.YtpemcncnehhgfaaMixLaw
import Derived.Test.YtpemcncnehhgfaaRows
namespace Go.Eng
open Go Go.Proofs Go.RowKit


set_option maxRecDepth 100000 in
theorem mix_spec (x : BitVec 64) (w : World) : Ret Try.prog 12 #[U x] w (fun v w' => v = U (mixF x) ∧ Ext w w') := by
  refine Ret.enterM (l := [U x]) Try.func12 rfl Try.ntmps12 rfl ([]) (no) (Mem.nil w) ?_
  refine wpM.seq ?_
  refine wpM.region ?_
  refine LM.val (ov_assign rfl) ?_
  refine LM.nil ?_
  refine QM.sub (e' := [(0, _)]) ⟨rfl, trivial⟩ ?_
  refine QM.then ?_
  refine wpM.seq ?_
  refine wpM.region ?_
  refine LM.val (ov_move rfl) ?_
  refine LM.val (ov_uadd (b := 11400714819323198485#64) rfl rfl) ?_
  refine LM.val (ov_assign rfl) ?_
  refine LM.nil ?_
  refine QM.sub (e' := [(0, _)]) ⟨rfl, trivial⟩ ?_
  refine QM.then ?_
  refine wpM.seq ?_
  refine wpM.region ?_
  refine LM.val (ov_move rfl) ?_
  refine LM.val (ov_move rfl) ?_
  refine LM.val (ov_ushr rfl rfl (by omega)) ?_
  refine LM.val (ov_uxor rfl rfl) ?_
  refine LM.val (ov_umul (b := 13787848793156543929#64) rfl rfl) ?_
  refine LM.val (ov_assign rfl) ?_
  refine LM.nil ?_
  refine QM.sub (e' := [(0, _)]) ⟨rfl, trivial⟩ ?_
  refine QM.then ?_
  refine wpM.seq ?_
  refine wpM.region ?_
  refine LM.val (ov_move rfl) ?_
  refine LM.val (ov_move rfl) ?_
  refine LM.val (ov_ushr rfl rfl (by omega)) ?_
  refine LM.val (ov_uxor rfl rfl) ?_
  refine LM.val (ov_umul (b := 10723151780598845931#64) rfl rfl) ?_
  refine LM.val (ov_assign rfl) ?_
  refine LM.nil ?_
  refine QM.sub (e' := [(0, _)]) ⟨rfl, trivial⟩ ?_
  refine QM.then ?_
  refine wpM.seq ?_
  refine wpM.region ?_
  refine LM.val (ov_move rfl) ?_
  refine LM.val (ov_move rfl) ?_
  refine LM.val (ov_ushr rfl rfl (by omega)) ?_
  refine LM.val (ov_uxor rfl rfl) ?_
  refine LM.val (ov_assign rfl) ?_
  refine LM.nil ?_
  refine QM.sub (e' := [(2, _)]) ⟨rfl, trivial⟩ ?_
  refine QM.then ?_
  refine wpM.ret ?_
  refine QM.leave (.inl rfl) [.tmp 2] Try.results12 rfl ?_
  intro w' hm' hc' hg'
  -- leaf 1: 
  first | exact ⟨rfl, hc'⟩ | (exfalso; first | omega | (simp at *; done) | (simp_all; done))

set_option maxRecDepth 100000 in
theorem bucket_spec (key n : Int) (w : World) (hn : n ≤ 9223372036854775807) : Ret Try.prog 14 #[.int .i64 key, .int .i64 n] w (fun v w' => v = .int .i64 (bucketF key n) ∧ Ext w w') := by
  refine Ret.enterM (l := [.int .i64 key, .int .i64 n]) Try.func14 rfl Try.ntmps14 rfl ([]) (no) (Mem.nil w) ?_
  refine wpM.seq ?_
  refine wpM.region ?_
  refine LM.val (ov_assign rfl) ?_
  refine LM.nil ?_
  refine QM.sub (e' := [(0, _), (1, _)]) ⟨rfl, rfl, trivial⟩ ?_
  refine QM.then ?_
  refine wpM.seq ?_
  refine wpM.seq ?_
  refine wpM.region ?_
  refine LM.val (ov_move rfl) ?_
  refine LM.val (ov_lss rfl rfl) ?_
  refine LM.nil ?_
  refine QM.sub (e' := [(0, _), (1, _), (6, _)]) ⟨rfl, rfl, rfl, trivial⟩ ?_
  refine QM.then ?_
  first | refine wpM.condD rfl (fun h1 => ?_) (fun h1 => ?_) | refine wpM.condB rfl (fun h1 => ?_) (fun h1 => ?_)
  ·
    refine wpM.seq ?_
    refine wpM.region ?_
    refine LM.val (ov_assign rfl) ?_
    refine LM.nil ?_
    refine QM.sub (e' := [(4, _)]) ⟨rfl, trivial⟩ ?_
    refine QM.then ?_
    refine wpM.ret ?_
    refine QM.then_ret ?_
    refine QM.leave (.inl rfl) [.tmp 4] Try.results14 rfl ?_
    intro w' hm' hc' hg'
    -- leaf 1: h1+
    exact ⟨by simp only [resV, bucketF]; rw [if_pos h1], hc'⟩
  ·
    refine wpM.skip ?_
    refine QM.then ?_
    refine wpM.seq ?_
    refine wpM.region ?_
    refine LM.val (ov_move rfl) ?_
    refine LM.val (ov_toU Try.underlying3 Try.underlying22 rfl) ?_
    refine LM.callE (oc_call (enters_fn Try.func12 (by kernel_rfl) rfl) rfl) (fun w hm hc hg => mix_spec _ w) ?_
    refine LM.val (ov_move rfl) ?_
    refine LM.val (ov_toU Try.underlying3 Try.underlying22 rfl) ?_
    have hb := ofInt_ne0 (n := n) (by omega) (by omega)
    refine LM.val (ov_urem rfl rfl (by first | decide | assumption)) ?_
    refine LM.val (ov_ofU Try.underlying22 Try.underlying3 rfl) ?_
    refine LM.val (ov_assign rfl) ?_
    refine LM.nil ?_
    refine QM.sub (e' := [(4, _)]) ⟨rfl, trivial⟩ ?_
    refine QM.then ?_
    refine wpM.ret ?_
    refine QM.leave (.inl rfl) [.tmp 4] Try.results14 rfl ?_
    intro w' hm' hc' hg'
    -- leaf 2: h1-
    exact ⟨by simp only [resV, bucketF]; rw [if_neg h1], hc'⟩

set_option maxRecDepth 100000 in
theorem rxor_spec (a b : BitVec 64) (w : World) : Ret Try.prog 48 #[U a, U b] w (fun v w' => v = U (a ^^^ b) ∧ Ext w w') := by
  refine Ret.enterM (l := [U a, U b]) Try.func48 rfl Try.ntmps48 rfl ([]) (no) (Mem.nil w) ?_
  refine wpM.seq ?_
  refine wpM.region ?_
  refine LM.val (ov_assign rfl) ?_
  refine LM.nil ?_
  refine QM.sub (e' := [(0, _), (1, _)]) ⟨rfl, rfl, trivial⟩ ?_
  refine QM.then ?_
  refine wpM.seq ?_
  refine wpM.region ?_
  refine LM.val (ov_assign rfl) ?_
  refine LM.nil ?_
  refine QM.sub (e' := [(0, _), (1, _), (5, _)]) ⟨rfl, rfl, rfl, trivial⟩ ?_
  refine QM.then ?_
  refine wpM.seq ?_
  refine wpM.seq ?_
  refine wpM.region ?_
  refine LM.val (ov_assign rfl) ?_
  refine LM.nil ?_
  refine QM.sub (e' := [(0, _), (1, _), (5, _), (6, _)]) ⟨rfl, rfl, rfl, rfl, trivial⟩ ?_
  refine QM.then ?_
  refine wpM.block ?_
  refine wpM.loop (α := Int) (fun k => [(0, U a), (1, U b), (5, U (lo (a ^^^ b) k.toNat)), (6, .int .i64 k)]) (fun k => []) (fun k => 0 ≤ k ∧ k ≤ 64) (fun k => (64 - k).toNat) 0 ⟨rfl, rfl, lk rfl (by rw [Int.toNat_zero, lo_zero]; rfl), rfl, trivial⟩ (fun _ hm => hm) ⟨by omega, by omega⟩ ?_
  rintro k ⟨hk0, hk1⟩
  refine wpM.seq ?_
  refine wpM.seq ?_
  refine wpM.region ?_
  refine LM.val (ov_move rfl) ?_
  refine LM.val (ov_lss rfl rfl) ?_
  refine LM.nil ?_
  refine QM.sub (e' := [(0, _), (1, _), (5, _), (6, _), (8, _)]) ⟨rfl, rfl, rfl, rfl, rfl, trivial⟩ ?_
  refine QM.then ?_
  first | refine wpM.condD rfl (fun h1 => ?_) (fun h1 => ?_) | refine wpM.condB rfl (fun h1 => ?_) (fun h1 => ?_)
  ·
    refine wpM.skip ?_
    refine QM.then ?_
    refine wpM.seq ?_
    refine wpM.block ?_
    refine wpM.seq ?_
    refine wpM.draw [(0, 0), (1, 0), (2, 0), (3, 0), (4, 0), (5, 0), (6, 0), (7, 0), (8, 0)] (by kernel_rfl) (by kernel_rfl) ?_
    refine LD.val rfl rfl (ov_move rfl) ?_
    refine LD.val rfl rfl (ov_move rfl) ?_
    refine LD.val rfl rfl (ov_ushr rfl rfl (by omega)) ?_
    refine LD.val rfl rfl (ov_urem (b := 2#64) rfl rfl (by first | decide | assumption)) ?_
    refine LD.val rfl rfl (ov_move rfl) ?_
    refine LD.val rfl rfl (ov_move rfl) ?_
    refine LD.val rfl rfl (ov_ushr rfl rfl (by omega)) ?_
    refine LD.val rfl rfl (ov_urem (b := 2#64) rfl rfl (by first | decide | assumption)) ?_
    refine LD.val rfl rfl (ov_uneq rfl rfl) ?_
    refine LD.nil ?_
    refine QM.sub (e' := [(0, _), (1, _), (5, _), (6, _), (19, _)]) ⟨rfl, rfl, rfl, rfl, rfl, trivial⟩ ?_
    refine QM.then ?_
    first | refine wpM.condD rfl (fun h2 => ?_) (fun h2 => ?_) | refine wpM.condB rfl (fun h2 => ?_) (fun h2 => ?_)
    ·
      refine wpM.region ?_
      refine LM.val (ov_move rfl) ?_
      refine LM.val (ov_move rfl) ?_
      refine LM.val (ov_ushl (a := 1#64) rfl rfl (by omega)) ?_
      refine LM.val (ov_uadd rfl rfl) ?_
      refine LM.val (ov_assign rfl) ?_
      refine LM.nil ?_
      refine QM.sub (e' := [(0, _), (1, _), (5, _), (6, _)]) ⟨rfl, rfl, rfl, rfl, trivial⟩ ?_
      refine QM.block_normal ?_
      refine QM.then ?_
      refine wpM.region ?_
      refine LM.val (ov_move rfl) ?_
      refine LM.val (ov_add64 rfl rfl (by omega)) ?_
      refine LM.val (ov_assign rfl) ?_
      refine LM.nil ?_
      refine QM.sub (e' := [(0, _), (1, _), (5, _), (6, _)]) ⟨rfl, rfl, rfl, rfl, trivial⟩ ?_
      exact QM.again (k + 1) ⟨rfl, rfl, lk rfl (congrArg U (by rw [show (k + 1).toNat = k.toNat + 1 by omega]; exact xor_step_t (by omega) h2)), rfl, trivial⟩ (fun _ hm => hm) ⟨by omega, by omega⟩ (by omega)
    ·
      refine wpM.skip ?_
      refine QM.block_normal ?_
      refine QM.then ?_
      refine wpM.region ?_
      refine LM.val (ov_move rfl) ?_
      refine LM.val (ov_add64 rfl rfl (by omega)) ?_
      refine LM.val (ov_assign rfl) ?_
      refine LM.nil ?_
      refine QM.sub (e' := [(0, _), (1, _), (5, _), (6, _)]) ⟨rfl, rfl, rfl, rfl, trivial⟩ ?_
      exact QM.again (k + 1) ⟨rfl, rfl, lk rfl (congrArg U (by rw [show (k + 1).toNat = k.toNat + 1 by omega]; exact xor_step_f h2)), rfl, trivial⟩ (fun _ hm => hm) ⟨by omega, by omega⟩ (by omega)
  ·
    refine wpM.exit ?_
    refine QM.then_exit ?_
    refine QM.then_exit ?_
    refine QM.block_hit ?_
    refine QM.then ?_
    refine wpM.seq ?_
    refine wpM.region ?_
    refine LM.val (ov_move rfl) ?_
    refine LM.val (ov_assign rfl) ?_
    refine LM.nil ?_
    refine QM.sub (e' := [(4, _)]) ⟨rfl, trivial⟩ ?_
    refine QM.then ?_
    refine wpM.ret ?_
    refine QM.leave (.inl rfl) [.tmp 4] Try.results48 rfl ?_
    intro w' hm' hc' hg'
    -- leaf 1: h1-
    exact ⟨by simp only [resV]; rw [show k.toNat = 64 by omega, lo_all], hc'⟩

set_option maxRecDepth 100000 in
theorem rmix_spec (x : BitVec 64) (w : World) : Ret Try.prog 13 #[U x] w (fun v w' => v = U (mixF x) ∧ Ext w w') := by
  refine Ret.enterM (l := [U x]) Try.func13 rfl Try.ntmps13 rfl ([]) (no) (Mem.nil w) ?_
  refine wpM.seq ?_
  refine wpM.region ?_
  refine LM.val (ov_assign rfl) ?_
  refine LM.nil ?_
  refine QM.sub (e' := [(0, _)]) ⟨rfl, trivial⟩ ?_
  refine QM.then ?_
  refine wpM.seq ?_
  refine wpM.region ?_
  refine LM.val (ov_move rfl) ?_
  refine LM.val (ov_uadd (b := 11400714819323198485#64) rfl rfl) ?_
  refine LM.val (ov_assign rfl) ?_
  refine LM.nil ?_
  refine QM.sub (e' := [(0, _)]) ⟨rfl, trivial⟩ ?_
  refine QM.then ?_
  refine wpM.seq ?_
  refine wpM.region ?_
  refine LM.val (ov_move rfl) ?_
  refine LM.val (ov_move rfl) ?_
  refine LM.val (ov_ushr rfl rfl (by omega)) ?_
  refine LM.callE (oc_call (enters_fn Try.func48 (by kernel_rfl) rfl) rfl) (fun w hm hc hg => rxor_spec _ _ w) ?_
  refine LM.val (ov_umul (b := 13787848793156543929#64) rfl rfl) ?_
  refine LM.val (ov_assign rfl) ?_
  refine LM.nil ?_
  refine QM.sub (e' := [(0, _)]) ⟨rfl, trivial⟩ ?_
  refine QM.then ?_
  refine wpM.seq ?_
  refine wpM.region ?_
  refine LM.val (ov_move rfl) ?_
  refine LM.val (ov_move rfl) ?_
  refine LM.val (ov_ushr rfl rfl (by omega)) ?_
  refine LM.callE (oc_call (enters_fn Try.func48 (by kernel_rfl) rfl) rfl) (fun w hm hc hg => rxor_spec _ _ w) ?_
  refine LM.val (ov_umul (b := 10723151780598845931#64) rfl rfl) ?_
  refine LM.val (ov_assign rfl) ?_
  refine LM.nil ?_
  refine QM.sub (e' := [(0, _)]) ⟨rfl, trivial⟩ ?_
  refine QM.then ?_
  refine wpM.seq ?_
  refine wpM.region ?_
  refine LM.val (ov_move rfl) ?_
  refine LM.val (ov_move rfl) ?_
  refine LM.val (ov_ushr rfl rfl (by omega)) ?_
  refine LM.callE (oc_call (enters_fn Try.func48 (by kernel_rfl) rfl) rfl) (fun w hm hc hg => rxor_spec _ _ w) ?_
  refine LM.val (ov_assign rfl) ?_
  refine LM.nil ?_
  refine QM.sub (e' := [(2, _)]) ⟨rfl, trivial⟩ ?_
  refine QM.then ?_
  refine wpM.ret ?_
  refine QM.leave (.inl rfl) [.tmp 2] Try.results13 rfl ?_
  intro w' hm' hc' hg'
  -- leaf 1: 
  first | exact ⟨rfl, hc'⟩ | (exfalso; first | omega | (simp at *; done) | (simp_all; done))

set_option maxRecDepth 100000 in
theorem rbucket_spec (key n : Int) (w : World) (hn : n ≤ 9223372036854775807) : Ret Try.prog 15 #[.int .i64 key, .int .i64 n] w (fun v w' => v = .int .i64 (bucketF key n) ∧ Ext w w') := by
  refine Ret.enterM (l := [.int .i64 key, .int .i64 n]) Try.func15 rfl Try.ntmps15 rfl ([]) (no) (Mem.nil w) ?_
  refine wpM.seq ?_
  refine wpM.region ?_
  refine LM.val (ov_assign rfl) ?_
  refine LM.nil ?_
  refine QM.sub (e' := [(0, _), (1, _)]) ⟨rfl, rfl, trivial⟩ ?_
  refine QM.then ?_
  refine wpM.seq ?_
  refine wpM.seq ?_
  refine wpM.region ?_
  refine LM.val (ov_move rfl) ?_
  refine LM.val (ov_lss rfl rfl) ?_
  refine LM.nil ?_
  refine QM.sub (e' := [(0, _), (1, _), (6, _)]) ⟨rfl, rfl, rfl, trivial⟩ ?_
  refine QM.then ?_
  first | refine wpM.condD rfl (fun h1 => ?_) (fun h1 => ?_) | refine wpM.condB rfl (fun h1 => ?_) (fun h1 => ?_)
  ·
    refine wpM.seq ?_
    refine wpM.region ?_
    refine LM.val (ov_assign rfl) ?_
    refine LM.nil ?_
    refine QM.sub (e' := [(4, _)]) ⟨rfl, trivial⟩ ?_
    refine QM.then ?_
    refine wpM.ret ?_
    refine QM.then_ret ?_
    refine QM.leave (.inl rfl) [.tmp 4] Try.results15 rfl ?_
    intro w' hm' hc' hg'
    -- leaf 1: h1+
    exact ⟨by simp only [resV, bucketF]; rw [if_pos h1], hc'⟩
  ·
    refine wpM.skip ?_
    refine QM.then ?_
    refine wpM.seq ?_
    refine wpM.region ?_
    refine LM.val (ov_move rfl) ?_
    refine LM.val (ov_toU Try.underlying3 Try.underlying22 rfl) ?_
    refine LM.callE (oc_call (enters_fn Try.func13 (by kernel_rfl) rfl) rfl) (fun w hm hc hg => rmix_spec _ w) ?_
    refine LM.val (ov_move rfl) ?_
    refine LM.val (ov_toU Try.underlying3 Try.underlying22 rfl) ?_
    have hb := ofInt_ne0 (n := n) (by omega) (by omega)
    refine LM.val (ov_urem rfl rfl (by first | decide | assumption)) ?_
    refine LM.val (ov_ofU Try.underlying22 Try.underlying3 rfl) ?_
    refine LM.val (ov_assign rfl) ?_
    refine LM.nil ?_
    refine QM.sub (e' := [(4, _)]) ⟨rfl, trivial⟩ ?_
    refine QM.then ?_
    refine wpM.ret ?_
    refine QM.leave (.inl rfl) [.tmp 4] Try.results15 rfl ?_
    intro w' hm' hc' hg'
    -- leaf 2: h1-
    exact ⟨by simp only [resV, bucketF]; rw [if_neg h1], hc'⟩

end Go.Eng

