/- The walks of the two laws of mixes. No condition. -/
import Derived.Test.YtpemcncnehhgfaaOrder
namespace Go.Eng
open Go Go.Proofs Go.RowKit

set_option maxRecDepth 100000 in
theorem awake07 (w : World) : Ret Try.prog 11 #[] w (fun v w' => v = .bool true ∧ Ext w w') := by
  refine Ret.enterM (l := []) Try.func11 rfl Try.ntmps11 rfl ([]) (no) (Mem.nil w) ?_
  refine wpM.seq ?_
  refine wpM.region ?_
  refine LM.val (ov_assign rfl) ?_
  refine LM.nil ?_
  refine QM.sub (e' := []) trivial ?_
  refine QM.then ?_
  refine wpM.seq ?_
  refine wpM.region ?_
  refine LM.callE (oc_call (enters_fn Try.func12 (by kernel_rfl) rfl) rfl) (fun w hm => mix_spec 0#64 w) ?_
  refine LM.callE (oc_call (enters_fn Try.func13 (by kernel_rfl) rfl) rfl) (fun w hm => rmix_spec 0#64 w) ?_
  refine LM.val (ov_ueql rfl rfl) ?_
  refine LM.val (ov_move rfl) ?_
  first | refine LM.splitD (t := 4) rfl (fun h1 => ?_) (fun h1 => ?_) | refine LM.splitB (t := 4) rfl (fun h1 => ?_) (fun h1 => ?_)
  ·
    refine LM.strip (t := 4) rfl rfl rfl ?_
    refine LM.callE (oc_call (enters_fn Try.func12 (by kernel_rfl) rfl) rfl) (fun w hm => mix_spec 0#64 w) ?_
    refine LM.strip (t := 4) rfl rfl rfl ?_
    refine LM.val (ov_uneq (b := 0#64) rfl rfl) ?_
    refine LM.val (ov_pickT rfl rfl) ?_
    refine LM.val (ov_move rfl) ?_
    first | refine LM.splitD (t := 8) rfl (fun h2 => ?_) (fun h2 => ?_) | refine LM.splitB (t := 8) rfl (fun h2 => ?_) (fun h2 => ?_)
    ·
      refine LM.strip (t := 8) rfl rfl rfl ?_
      refine LM.callE (oc_call (enters_fn Try.func14 (by kernel_rfl) rfl) rfl) (fun w hm => bucket_spec 5 1 w (by omega)) ?_
      refine LM.strip (t := 8) rfl rfl rfl ?_
      refine LM.val (ov_eql rfl rfl) ?_
      refine LM.val (ov_pickT rfl rfl) ?_
      refine LM.val (ov_move rfl) ?_
      first | refine LM.splitD (t := 12) rfl (fun h3 => ?_) (fun h3 => ?_) | refine LM.splitB (t := 12) rfl (fun h3 => ?_) (fun h3 => ?_)
      ·
        refine LM.strip (t := 12) rfl rfl rfl ?_
        refine LM.callS (oc_call (enters_fn Try.func16 (by kernel_rfl) rfl) rfl) (fun w hm => order_spec 3#64 4 w) (fun u13 m13 hs13 => ?_)
        refine LM.strip (t := 12) rfl rfl rfl ?_
        obtain ⟨ad, cap, rfl⟩ := hs13.form
        refine LM.val (ov_len Try.underlying26 rfl) ?_
        refine LM.strip (t := 12) rfl rfl rfl ?_
        refine LM.val (ov_eql rfl rfl) ?_
        refine LM.val (ov_pickT rfl rfl) ?_
        refine LM.val (ov_assign rfl) ?_
        refine LM.nil ?_
        refine QM.sub (e' := [(0, _)]) ⟨rfl, trivial⟩ ?_
        refine QM.then ?_
        refine wpM.ret ?_
        refine QM.leave (.inl rfl) [.tmp 0] Try.results11 rfl ?_
        intro w' hm' hc'
        -- leaf 1: h1+ h2+ h3+
        exact ⟨by simp only [resV]; rw [orderF_len]; rfl, hc'⟩
      ·
        exact absurd (by decide) h3
    ·
      exact absurd (by decide) h2
  ·
    exact absurd rfl h1

set_option maxRecDepth 100000 in
theorem mixCalls (x : BitVec 64) (key n : Int) (w : World) (hn : n ≤ 9223372036854775807) : Ret Try.prog 3 #[U x, .int .i64 key, .int .i64 n] w (fun v w' => v = .bool true ∧ Ext w w') := by
  have hL := ordLen_le n; have hol := orderF_len x n
  refine Ret.enterM (l := [U x, .int .i64 key, .int .i64 n]) Try.func3 rfl Try.ntmps3 rfl ([]) (no) (Mem.nil w) ?_
  refine wpM.seq ?_
  refine wpM.region ?_
  refine LM.val (ov_assign rfl) ?_
  refine LM.nil ?_
  refine QM.sub (e' := [(0, _), (1, _), (2, _)]) ⟨rfl, rfl, rfl, trivial⟩ ?_
  refine QM.then ?_
  refine wpM.seq ?_
  refine wpM.seq ?_
  refine wpM.region ?_
  refine LM.callE (oc_call (enters_fn Try.func11 (by kernel_rfl) rfl) rfl) (fun w hm => awake07 w) ?_
  first | refine LM.val (ov_notD rfl) ?_ | refine LM.val (ov_not rfl) ?_
  refine LM.nil ?_
  refine QM.sub (e' := [(0, _), (1, _), (2, _), (13, _)]) ⟨rfl, rfl, rfl, rfl, trivial⟩ ?_
  refine QM.then ?_
  first | refine wpM.condD rfl (fun h1 => ?_) (fun h1 => ?_) | refine wpM.condB rfl (fun h1 => ?_) (fun h1 => ?_)
  ·
    refine wpM.seq ?_
    refine wpM.region ?_
    refine LM.val (ov_assign rfl) ?_
    refine LM.nil ?_
    refine QM.sub (e' := [(6, _)]) ⟨rfl, trivial⟩ ?_
    refine QM.then ?_
    refine wpM.ret ?_
    refine QM.then_ret ?_
    refine QM.leave (.inl rfl) [.tmp 6] Try.results3 rfl ?_
    intro w' hm' hc'
    -- leaf 1: h1+
    first | exact ⟨rfl, hc'⟩ | (exfalso; first | omega | (simp at *; done) | (simp_all; done))
  ·
    refine wpM.skip ?_
    refine QM.then ?_
    refine wpM.seq ?_
    refine wpM.seq ?_
    refine wpM.region ?_
    refine LM.val (ov_move rfl) ?_
    refine LM.callE (oc_call (enters_fn Try.func12 (by kernel_rfl) rfl) rfl) (fun w hm => mix_spec _ w) ?_
    refine LM.val (ov_move rfl) ?_
    refine LM.callE (oc_call (enters_fn Try.func13 (by kernel_rfl) rfl) rfl) (fun w hm => rmix_spec _ w) ?_
    refine LM.val (ov_uneq rfl rfl) ?_
    refine LM.val (ov_move rfl) ?_
    first | refine LM.splitD (t := 19) rfl (fun h2 => ?_) (fun h2 => ?_) | refine LM.splitB (t := 19) rfl (fun h2 => ?_) (fun h2 => ?_)
    ·
      refine LM.drop (t := 19) rfl rfl rfl ?_
      refine LM.drop (t := 19) rfl rfl rfl ?_
      refine LM.drop (t := 19) rfl rfl rfl ?_
      refine LM.drop (t := 19) rfl rfl rfl ?_
      refine LM.drop (t := 19) rfl rfl rfl ?_
      refine LM.drop (t := 19) rfl rfl rfl ?_
      refine LM.drop (t := 19) rfl rfl rfl ?_
      refine LM.val (ov_pickT rfl rfl) ?_
      refine LM.nil ?_
      refine QM.sub (e' := [(0, _), (2, _), (27, _)]) ⟨rfl, rfl, rfl, trivial⟩ ?_
      refine QM.then ?_
      refine wpM.condT rfl ?_
      refine wpM.seq ?_
      refine wpM.region ?_
      refine LM.val (ov_assign rfl) ?_
      refine LM.nil ?_
      refine QM.sub (e' := [(6, _)]) ⟨rfl, trivial⟩ ?_
      refine QM.then ?_
      refine wpM.ret ?_
      refine QM.then_ret ?_
      refine QM.leave (.inl rfl) [.tmp 6] Try.results3 rfl ?_
      intro w' hm' hc'
      -- leaf 2: h1- h2+
      first | exact ⟨rfl, hc'⟩ | (exfalso; first | omega | (simp at *; done) | (simp_all; done))
    ·
      refine LM.strip (t := 19) rfl rfl rfl ?_
      refine LM.val (ov_move rfl) ?_
      refine LM.strip (t := 19) rfl rfl rfl ?_
      refine LM.val (ov_move rfl) ?_
      refine LM.strip (t := 19) rfl rfl rfl ?_
      refine LM.callE (oc_call (enters_fn Try.func14 (by kernel_rfl) rfl) rfl) (fun w hm => bucket_spec _ _ w hn) ?_
      refine LM.strip (t := 19) rfl rfl rfl ?_
      refine LM.val (ov_move rfl) ?_
      refine LM.strip (t := 19) rfl rfl rfl ?_
      refine LM.val (ov_move rfl) ?_
      refine LM.strip (t := 19) rfl rfl rfl ?_
      refine LM.callE (oc_call (enters_fn Try.func15 (by kernel_rfl) rfl) rfl) (fun w hm => rbucket_spec _ _ w hn) ?_
      refine LM.strip (t := 19) rfl rfl rfl ?_
      refine LM.val (ov_neq rfl rfl) ?_
      refine LM.val (ov_pickF rfl rfl) ?_
      refine LM.nil ?_
      refine QM.sub (e' := [(0, _), (2, _), (27, _)]) ⟨rfl, rfl, rfl, trivial⟩ ?_
      refine QM.then ?_
      first | refine wpM.condD rfl (fun h3 => ?_) (fun h3 => ?_) | refine wpM.condB rfl (fun h3 => ?_) (fun h3 => ?_)
      ·
        refine wpM.seq ?_
        refine wpM.region ?_
        refine LM.val (ov_assign rfl) ?_
        refine LM.nil ?_
        refine QM.sub (e' := [(6, _)]) ⟨rfl, trivial⟩ ?_
        refine QM.then ?_
        refine wpM.ret ?_
        refine QM.then_ret ?_
        refine QM.leave (.inl rfl) [.tmp 6] Try.results3 rfl ?_
        intro w' hm' hc'
        -- leaf 3: h1- h2- h3+
        first | exact ⟨rfl, hc'⟩ | (exfalso; first | omega | (simp at *; done) | (simp_all; done))
      ·
        refine wpM.skip ?_
        refine QM.then ?_
        refine wpM.seq ?_
        refine wpM.region ?_
        refine LM.val (ov_move rfl) ?_
        refine LM.val (ov_move rfl) ?_
        refine LM.callS (oc_call (enters_fn Try.func16 (by kernel_rfl) rfl) rfl) (fun w hm => order_spec _ _ w) (fun u30 m30 hs30 => ?_)
        refine LM.val (ov_move rfl) ?_
        refine LM.val (ov_move rfl) ?_
        refine LM.callS (oc_call (enters_fn Try.func17 (by kernel_rfl) rfl) rfl) (fun w hm => rorder_spec _ _ w) (fun u33 m33 hs33 => ?_)
        refine LM.val (ov_assign rfl) ?_
        refine LM.val (ov_assign rfl) ?_
        refine LM.nil ?_
        refine QM.sub (e' := [(7, _), (8, _)]) ⟨rfl, rfl, trivial⟩ ?_
        refine QM.then ?_
        refine wpM.seq ?_
        refine wpM.seq ?_
        refine wpM.region ?_
        obtain ⟨ad, cap, rfl⟩ := hs30.form; obtain ⟨ad2, cap2, rfl⟩ := hs33.form
        refine LM.val (ov_move rfl) ?_
        refine LM.val (ov_len Try.underlying26 rfl) ?_
        refine LM.val (ov_move rfl) ?_
        refine LM.val (ov_len Try.underlying26 rfl) ?_
        refine LM.val (ov_neq rfl rfl) ?_
        refine LM.nil ?_
        refine QM.sub (e' := [(7, _), (8, _), (38, _)]) ⟨rfl, rfl, rfl, trivial⟩ ?_
        refine QM.then ?_
        first | refine wpM.condD rfl (fun h4 => ?_) (fun h4 => ?_) | refine wpM.condB rfl (fun h4 => ?_) (fun h4 => ?_)
        ·
          refine wpM.seq ?_
          refine wpM.region ?_
          refine LM.val (ov_assign rfl) ?_
          refine LM.nil ?_
          refine QM.sub (e' := [(6, _)]) ⟨rfl, trivial⟩ ?_
          refine QM.then ?_
          refine wpM.ret ?_
          refine QM.then_ret ?_
          refine QM.leave (.inl rfl) [.tmp 6] Try.results3 rfl ?_
          intro w' hm' hc'
          -- leaf 4: h1- h2- h3- h4+
          first | exact ⟨rfl, hc'⟩ | (exfalso; first | omega | (simp at *; done) | (simp_all; done))
        ·
          refine wpM.skip ?_
          refine QM.then ?_
          refine wpM.seq ?_
          refine wpM.region ?_
          refine LM.val (ov_assign rfl) ?_
          refine LM.nil ?_
          refine QM.sub (e' := [(7, _), (8, _), (9, _)]) ⟨rfl, rfl, rfl, trivial⟩ ?_
          refine QM.then ?_
          refine wpM.seq ?_
          refine wpM.seq ?_
          refine wpM.region ?_
          refine LM.val (ov_move rfl) ?_
          refine LM.val (ov_len Try.underlying26 rfl) ?_
          refine LM.val (ov_move rfl) ?_
          refine LM.nil ?_
          refine QM.sub (e' := [(7, _), (8, _), (9, _), (39, _), (40, _), (41, _)]) ⟨rfl, rfl, rfl, rfl, rfl, rfl, trivial⟩ ?_
          refine QM.then ?_
          refine wpM.block ?_
          refine wpM.loop (α := Int) (fun i => [(7, .slice ad (orderF x n).length cap), (8, .slice ad2 (orderF x n).length cap2), (9, U (bitsF ((orderF x n).take i.toNat))), (39, .slice ad (orderF x n).length cap), (40, .int .i64 ((orderF x n).length : Nat)), (41, .int .i64 i)]) (fun i => m33 ++ (m30 ++ [])) (fun i => 0 ≤ i ∧ i ≤ ((orderF x n).length : Nat)) (fun i => ((orderF x n).length - i).toNat) 0 ⟨rfl, rfl, lk rfl (by rfl), rfl, rfl, rfl, trivial⟩ (fun _ hm => hm) ⟨by omega, by omega⟩ ?_
          rintro i ⟨hi0, hi1⟩
          refine wpM.seq ?_
          refine wpM.region ?_
          refine LM.val (ov_lss rfl rfl) ?_
          refine LM.nil ?_
          refine QM.sub (e' := [(7, _), (8, _), (9, _), (39, _), (40, _), (41, _), (42, _)]) ⟨rfl, rfl, rfl, rfl, rfl, rfl, rfl, trivial⟩ ?_
          refine QM.then ?_
          refine wpM.seq ?_
          first | refine wpM.condD rfl (fun h5 => ?_) (fun h5 => ?_) | refine wpM.condB rfl (fun h5 => ?_) (fun h5 => ?_)
          ·
            refine wpM.skip ?_
            refine QM.then ?_
            refine wpM.seq ?_
            refine wpM.block ?_
            refine wpM.seq ?_
            refine wpM.region ?_
            obtain ⟨b, cap', junk, hb, he, rfl, hcap, hmx, hsz⟩ := hs30.ne (by omega); obtain ⟨b2, cap2', junk2, hb2, he2, rfl, hcap2, hmx2, hsz2⟩ := hs33.ne (by omega); simp only [Value.slice.injEq] at he he2; obtain ⟨rfl, -, rfl⟩ := he; obtain ⟨rfl, -, rfl⟩ := he2; have hv := orderF_rng x n i.toNat (by omega)
            refine LM.val (ov_move rfl) ?_
            first | refine LM.val (ov_idx10 Try.underlying26 Try.sizeOf3 rfl rfl (by omega)) ?_ | refine LM.val (ov_idx1 Try.underlying26 Try.sizeOf3 rfl rfl (by omega)) ?_
            refine LM.rd (om_load 1 Try.isAgg3 rfl rfl (getD_arr (by omega))) ?_
            refine LM.val (ov_assign rfl) ?_
            refine LM.val (ov_assign rfl) ?_
            refine LM.nil ?_
            refine QM.sub (e' := [(7, _), (8, _), (9, _), (10, _), (11, _), (39, _), (40, _), (41, _)]) ⟨rfl, rfl, rfl, rfl, rfl, rfl, rfl, rfl, trivial⟩ ?_
            refine QM.then ?_
            refine wpM.seq ?_
            refine wpM.seq ?_
            refine wpM.region ?_
            refine LM.val (ov_move rfl) ?_
            refine LM.val (ov_move rfl) ?_
            refine LM.val (ov_move rfl) ?_
            first | refine LM.val (ov_idx10 Try.underlying26 Try.sizeOf3 rfl rfl (by omega)) ?_ | refine LM.val (ov_idx1 Try.underlying26 Try.sizeOf3 rfl rfl (by omega)) ?_
            refine LM.rd (om_load 0 Try.isAgg3 rfl rfl (getD_arr (by omega))) ?_
            refine LM.val (ov_neq rfl rfl) ?_
            refine LM.val (ov_move rfl) ?_
            first | refine LM.splitD (t := 52) rfl (fun h6 => ?_) (fun h6 => ?_) | refine LM.splitB (t := 52) rfl (fun h6 => ?_) (fun h6 => ?_)
            ·
              refine LM.drop (t := 52) rfl rfl rfl ?_
              refine LM.drop (t := 52) rfl rfl rfl ?_
              refine LM.val (ov_pickT rfl rfl) ?_
              refine LM.val (ov_move rfl) ?_
              refine LM.drop (t := 56) rfl rfl rfl ?_
              refine LM.drop (t := 56) rfl rfl rfl ?_
              refine LM.val (ov_pickT rfl rfl) ?_
              refine LM.nil ?_
              refine QM.sub (e' := [(7, _), (8, _), (9, _), (11, _), (39, _), (40, _), (41, _), (59, _)]) ⟨rfl, rfl, rfl, rfl, rfl, rfl, rfl, rfl, trivial⟩ ?_
              refine QM.then ?_
              refine wpM.condT rfl ?_
              refine wpM.seq ?_
              refine wpM.region ?_
              refine LM.val (ov_assign rfl) ?_
              refine LM.nil ?_
              refine QM.sub (e' := [(6, _)]) ⟨rfl, trivial⟩ ?_
              refine QM.then ?_
              refine wpM.ret ?_
              refine QM.then_ret ?_
              refine QM.block_ret ?_
              refine QM.then_ret ?_
              refine QM.then_ret ?_
              refine QM.block_ret ?_
              refine QM.then_ret ?_
              refine QM.leave (.inl rfl) [.tmp 6] Try.results3 rfl ?_
              intro w' hm' hc'
              -- leaf 5: h1- h2- h3- h4- h5+ h6+
              first | exact ⟨rfl, hc'⟩ | (exfalso; first | omega | (simp at *; done) | (simp_all; done))
            ·
              refine LM.strip (t := 52) rfl rfl rfl ?_
              refine LM.val (ov_move rfl) ?_
              refine LM.strip (t := 52) rfl rfl rfl ?_
              refine LM.val (ov_lss rfl rfl) ?_
              refine LM.val (ov_pickF rfl rfl) ?_
              refine LM.val (ov_move rfl) ?_
              first | refine LM.splitD (t := 56) rfl (fun h7 => ?_) (fun h7 => ?_) | refine LM.splitB (t := 56) rfl (fun h7 => ?_) (fun h7 => ?_)
              ·
                refine LM.drop (t := 56) rfl rfl rfl ?_
                refine LM.drop (t := 56) rfl rfl rfl ?_
                refine LM.val (ov_pickT rfl rfl) ?_
                refine LM.nil ?_
                refine QM.sub (e' := [(7, _), (8, _), (9, _), (11, _), (39, _), (40, _), (41, _), (59, _)]) ⟨rfl, rfl, rfl, rfl, rfl, rfl, rfl, rfl, trivial⟩ ?_
                refine QM.then ?_
                refine wpM.condT rfl ?_
                refine wpM.seq ?_
                refine wpM.region ?_
                refine LM.val (ov_assign rfl) ?_
                refine LM.nil ?_
                refine QM.sub (e' := [(6, _)]) ⟨rfl, trivial⟩ ?_
                refine QM.then ?_
                refine wpM.ret ?_
                refine QM.then_ret ?_
                refine QM.block_ret ?_
                refine QM.then_ret ?_
                refine QM.then_ret ?_
                refine QM.block_ret ?_
                refine QM.then_ret ?_
                refine QM.leave (.inl rfl) [.tmp 6] Try.results3 rfl ?_
                intro w' hm' hc'
                -- leaf 6: h1- h2- h3- h4- h5+ h6- h7+
                first | exact ⟨rfl, hc'⟩ | (exfalso; first | omega | (simp at *; done) | (simp_all; done))
              ·
                refine LM.strip (t := 56) rfl rfl rfl ?_
                refine LM.val (ov_move rfl) ?_
                refine LM.strip (t := 56) rfl rfl rfl ?_
                refine LM.val (ov_gtr rfl rfl) ?_
                refine LM.val (ov_pickF rfl rfl) ?_
                refine LM.nil ?_
                refine QM.sub (e' := [(7, _), (8, _), (9, _), (11, _), (39, _), (40, _), (41, _), (59, _)]) ⟨rfl, rfl, rfl, rfl, rfl, rfl, rfl, rfl, trivial⟩ ?_
                refine QM.then ?_
                first | refine wpM.condD rfl (fun h8 => ?_) (fun h8 => ?_) | refine wpM.condB rfl (fun h8 => ?_) (fun h8 => ?_)
                ·
                  refine wpM.seq ?_
                  refine wpM.region ?_
                  refine LM.val (ov_assign rfl) ?_
                  refine LM.nil ?_
                  refine QM.sub (e' := [(6, _)]) ⟨rfl, trivial⟩ ?_
                  refine QM.then ?_
                  refine wpM.ret ?_
                  refine QM.then_ret ?_
                  refine QM.block_ret ?_
                  refine QM.then_ret ?_
                  refine QM.then_ret ?_
                  refine QM.block_ret ?_
                  refine QM.then_ret ?_
                  refine QM.leave (.inl rfl) [.tmp 6] Try.results3 rfl ?_
                  intro w' hm' hc'
                  -- leaf 7: h1- h2- h3- h4- h5+ h6- h7- h8+
                  first | exact ⟨rfl, hc'⟩ | (exfalso; first | omega | (simp at *; done) | (simp_all; done))
                ·
                  refine wpM.skip ?_
                  refine QM.then ?_
                  refine wpM.region ?_
                  refine LM.val (ov_move rfl) ?_
                  refine LM.val (ov_move rfl) ?_
                  refine LM.val (ov_ushl (a := 1#64) rfl rfl (by omega)) ?_
                  refine LM.val (ov_uor rfl rfl) ?_
                  refine LM.val (ov_assign rfl) ?_
                  refine LM.nil ?_
                  refine QM.sub (e' := [(7, _), (8, _), (9, _), (39, _), (40, _), (41, _)]) ⟨rfl, rfl, rfl, rfl, rfl, rfl, trivial⟩ ?_
                  refine QM.block_normal ?_
                  refine QM.then ?_
                  refine wpM.region ?_
                  refine LM.val (ov_add64 rfl rfl (by omega)) ?_
                  refine LM.val (ov_move rfl) ?_
                  refine LM.nil ?_
                  refine QM.sub (e' := [(7, _), (8, _), (9, _), (39, _), (40, _), (41, _)]) ⟨rfl, rfl, rfl, rfl, rfl, rfl, trivial⟩ ?_
                  exact QM.again (i + 1) ⟨rfl, rfl, lk rfl (congrArg U (by rw [show (i + 1).toNat = i.toNat + 1 by omega]; exact (bits_take _ _ (by omega)).symm)), rfl, rfl, rfl, trivial⟩ (fun _ hm => hm) ⟨by omega, by omega⟩ (by omega)
          ·
            refine wpM.exit ?_
            refine QM.then_exit ?_
            refine QM.then_exit ?_
            refine QM.block_hit ?_
            refine QM.then ?_
            refine wpM.seq ?_
            refine wpM.region ?_
            refine LM.val (ov_move rfl) ?_
            refine LM.val (ov_len Try.underlying26 rfl) ?_
            refine LM.val (ov_eql rfl rfl) ?_
            refine LM.val (ov_move rfl) ?_
            first | refine LM.splitD (t := 68) rfl (fun h9 => ?_) (fun h9 => ?_) | refine LM.splitB (t := 68) rfl (fun h9 => ?_) (fun h9 => ?_)
            ·
              refine LM.drop (t := 68) rfl rfl rfl ?_
              refine LM.drop (t := 68) rfl rfl rfl ?_
              refine LM.drop (t := 68) rfl rfl rfl ?_
              refine LM.drop (t := 68) rfl rfl rfl ?_
              refine LM.drop (t := 68) rfl rfl rfl ?_
              refine LM.drop (t := 68) rfl rfl rfl ?_
              refine LM.val (ov_pickT rfl rfl) ?_
              refine LM.val (ov_assign rfl) ?_
              refine LM.nil ?_
              refine QM.sub (e' := [(6, _)]) ⟨rfl, trivial⟩ ?_
              refine QM.then ?_
              refine wpM.ret ?_
              refine QM.leave (.inl rfl) [.tmp 6] Try.results3 rfl ?_
              intro w' hm' hc'
              -- leaf 8: h1- h2- h3- h4- h5- h9+
              first | exact ⟨rfl, hc'⟩ | (exfalso; first | omega | (simp at *; done) | (simp_all; done))
            ·
              refine LM.strip (t := 68) rfl rfl rfl ?_
              refine LM.val (ov_move rfl) ?_
              refine LM.strip (t := 68) rfl rfl rfl ?_
              refine LM.val (ov_move rfl) ?_
              refine LM.strip (t := 68) rfl rfl rfl ?_
              refine LM.val (ov_len Try.underlying26 rfl) ?_
              refine LM.strip (t := 68) rfl rfl rfl ?_
              refine LM.val (ov_ushl (a := 1#64) rfl rfl (by omega)) ?_
              refine LM.strip (t := 68) rfl rfl rfl ?_
              refine LM.val (ov_usub (b := 1#64) rfl rfl) ?_
              refine LM.strip (t := 68) rfl rfl rfl ?_
              refine LM.val (ov_ueql rfl rfl) ?_
              refine LM.val (ov_pickF rfl rfl) ?_
              refine LM.val (ov_assign rfl) ?_
              refine LM.nil ?_
              refine QM.sub (e' := [(6, _)]) ⟨rfl, trivial⟩ ?_
              refine QM.then ?_
              refine wpM.ret ?_
              refine QM.leave (.inl rfl) [.tmp 6] Try.results3 rfl ?_
              intro w' hm' hc'
              -- leaf 9: h1- h2- h3- h4- h5- h9-
              refine ⟨?_, hc'⟩; simp only [resV]; rw [List.take_of_length_le (by omega), bits_order _ _ (by omega), ← hol]; simp

set_option maxRecDepth 100000 in
theorem mixApart (x y : BitVec 64) (n : Int) (w : World) (hn0 : 0 ≤ n) (hn1 : n ≤ 65535) : Ret Try.prog 4 #[U x, U y, .int .u16 n] w (fun v w' => v = .bool true ∧ Ext w w') := by
  refine Ret.enterM (l := [U x, U y, .int .u16 n]) Try.func4 rfl Try.ntmps4 rfl ([]) (no) (Mem.nil w) ?_
  refine wpM.seq ?_
  refine wpM.region ?_
  refine LM.val (ov_assign rfl) ?_
  refine LM.nil ?_
  refine QM.sub (e' := [(0, _), (1, _), (2, _)]) ⟨rfl, rfl, rfl, trivial⟩ ?_
  refine QM.then ?_
  refine wpM.seq ?_
  refine wpM.seq ?_
  refine wpM.region ?_
  refine LM.callE (oc_call (enters_fn Try.func11 (by kernel_rfl) rfl) rfl) (fun w hm => awake07 w) ?_
  first | refine LM.val (ov_notD rfl) ?_ | refine LM.val (ov_not rfl) ?_
  refine LM.nil ?_
  refine QM.sub (e' := [(0, _), (1, _), (2, _), (9, _)]) ⟨rfl, rfl, rfl, rfl, trivial⟩ ?_
  refine QM.then ?_
  first | refine wpM.condD rfl (fun h1 => ?_) (fun h1 => ?_) | refine wpM.condB rfl (fun h1 => ?_) (fun h1 => ?_)
  ·
    refine wpM.seq ?_
    refine wpM.region ?_
    refine LM.val (ov_assign rfl) ?_
    refine LM.nil ?_
    refine QM.sub (e' := [(6, _)]) ⟨rfl, trivial⟩ ?_
    refine QM.then ?_
    refine wpM.ret ?_
    refine QM.then_ret ?_
    refine QM.leave (.inl rfl) [.tmp 6] Try.results4 rfl ?_
    intro w' hm' hc'
    -- leaf 1: h1+
    first | exact ⟨rfl, hc'⟩ | (exfalso; first | omega | (have q0 := hr.1; have q1 := hr.2.1; have q2 := hr.2.2; omega) | (apply h2; rw [Bool.eq_iff_iff]; simp only [decide_eq_true_eq]; exact ⟨mixF_inj, fun h => by rw [h]⟩) | (refine absurd h2 ?_; rw [Bool.not_eq_false, beq_iff_eq, Bool.eq_iff_iff]; simp only [decide_eq_true_eq]; exact ⟨mixF_inj, fun h => by rw [h]⟩) | (simp at *; done))
  ·
    refine wpM.skip ?_
    refine QM.then ?_
    refine wpM.seq ?_
    refine wpM.region ?_
    refine LM.val (ov_move rfl) ?_
    refine LM.val (ov_ofU Try.underlying22 Try.underlying3 rfl) ?_
    refine LM.val (ov_move rfl) ?_
    refine LM.val (ov_to64 Try.underlying29 Try.underlying3 rfl (by omega)) ?_
    refine LM.callE (oc_call (enters_fn Try.func14 (by kernel_rfl) rfl) rfl) (fun w hm => bucket_spec _ _ w (by omega)) ?_
    refine LM.val (ov_assign rfl) ?_
    refine LM.nil ?_
    refine QM.sub (e' := [(0, _), (1, _), (2, _), (7, _)]) ⟨rfl, rfl, rfl, rfl, trivial⟩ ?_
    refine QM.then ?_
    refine wpM.seq ?_
    refine wpM.region ?_
    have hr := bucket_rng x.toInt n (by omega)
    refine LM.val (ov_move rfl) ?_
    refine LM.callE (oc_call (enters_fn Try.func12 (by kernel_rfl) rfl) rfl) (fun w hm => mix_spec _ w) ?_
    refine LM.val (ov_move rfl) ?_
    refine LM.callE (oc_call (enters_fn Try.func12 (by kernel_rfl) rfl) rfl) (fun w hm => mix_spec _ w) ?_
    refine LM.val (ov_ueql rfl rfl) ?_
    refine LM.val (ov_move rfl) ?_
    refine LM.val (ov_move rfl) ?_
    refine LM.val (ov_ueql rfl rfl) ?_
    refine LM.val (ov_beql Try.underlying4 rfl rfl) ?_
    refine LM.val (ov_move rfl) ?_
    first | refine LM.splitD (t := 24) rfl (fun h2 => ?_) (fun h2 => ?_) | refine LM.splitB (t := 24) rfl (fun h2 => ?_) (fun h2 => ?_)
    ·
      refine LM.strip (t := 24) rfl rfl rfl ?_
      refine LM.val (ov_move rfl) ?_
      refine LM.strip (t := 24) rfl rfl rfl ?_
      refine LM.val (ov_geq rfl rfl) ?_
      refine LM.val (ov_pickT rfl rfl) ?_
      refine LM.val (ov_move rfl) ?_
      first | refine LM.splitD (t := 28) rfl (fun h3 => ?_) (fun h3 => ?_) | refine LM.splitB (t := 28) rfl (fun h3 => ?_) (fun h3 => ?_)
      ·
        refine LM.strip (t := 28) rfl rfl rfl ?_
        refine LM.val (ov_move rfl) ?_
        refine LM.strip (t := 28) rfl rfl rfl ?_
        refine LM.val (ov_move rfl) ?_
        refine LM.strip (t := 28) rfl rfl rfl ?_
        refine LM.val (ov_to64 Try.underlying29 Try.underlying3 rfl (by omega)) ?_
        refine LM.strip (t := 28) rfl rfl rfl ?_
        refine LM.val (ov_lss rfl rfl) ?_
        refine LM.strip (t := 28) rfl rfl rfl ?_
        refine LM.val (ov_move rfl) ?_
        first | refine LM.splitD (t := 33) rfl (fun h4 => ?_) (fun h4 => ?_) | refine LM.splitB (t := 33) rfl (fun h4 => ?_) (fun h4 => ?_)
        ·
          refine LM.drop (t := 33) rfl rfl rfl ?_
          refine LM.drop (t := 33) rfl rfl rfl ?_
          refine LM.dropU (t := 33) rfl rfl rfl ?_
          refine LM.dropX (t := 36) rfl rfl ?_
          refine LM.dropX (t := 36) rfl rfl ?_
          refine LM.drop (t := 33) rfl rfl rfl ?_
          refine LM.strip (t := 28) rfl rfl rfl ?_
          refine LM.val (ov_pickT rfl rfl) ?_
          refine LM.val (ov_pickT rfl rfl) ?_
          refine LM.val (ov_assign rfl) ?_
          refine LM.nil ?_
          refine QM.sub (e' := [(6, _)]) ⟨rfl, trivial⟩ ?_
          refine QM.then ?_
          refine wpM.ret ?_
          refine QM.leave (.inl rfl) [.tmp 6] Try.results4 rfl ?_
          intro w' hm' hc'
          -- leaf 2: h1- h2+ h3+ h4+
          first | exact ⟨rfl, hc'⟩ | (exfalso; first | omega | (have q0 := hr.1; have q1 := hr.2.1; have q2 := hr.2.2; omega) | (apply h2; rw [Bool.eq_iff_iff]; simp only [decide_eq_true_eq]; exact ⟨mixF_inj, fun h => by rw [h]⟩) | (refine absurd h2 ?_; rw [Bool.not_eq_false, beq_iff_eq, Bool.eq_iff_iff]; simp only [decide_eq_true_eq]; exact ⟨mixF_inj, fun h => by rw [h]⟩) | (simp at *; done))
        ·
          refine LM.strip (t := 33) rfl rfl rfl ?_
          refine LM.val (ov_move rfl) ?_
          refine LM.strip (t := 33) rfl rfl rfl ?_
          refine LM.val (ov_eql rfl rfl) ?_
          refine LM.strip (t := 33) rfl rfl rfl ?_
          refine LM.val (ov_move rfl) ?_
          first | refine LM.splitD (t := 36) rfl (fun h5 => ?_) (fun h5 => ?_) | refine LM.splitB (t := 36) rfl (fun h5 => ?_) (fun h5 => ?_)
          ·
            refine LM.strip (t := 36) rfl rfl rfl ?_
            refine LM.val (ov_move rfl) ?_
            refine LM.strip (t := 36) rfl rfl rfl ?_
            refine LM.val (ov_eql rfl rfl) ?_
            refine LM.strip (t := 33) rfl rfl rfl ?_
            refine LM.val (ov_pickT rfl rfl) ?_
            refine LM.strip (t := 28) rfl rfl rfl ?_
            refine LM.val (ov_pickF rfl rfl) ?_
            refine LM.val (ov_pickT rfl rfl) ?_
            refine LM.val (ov_assign rfl) ?_
            refine LM.nil ?_
            refine QM.sub (e' := [(6, _)]) ⟨rfl, trivial⟩ ?_
            refine QM.then ?_
            refine wpM.ret ?_
            refine QM.leave (.inl rfl) [.tmp 6] Try.results4 rfl ?_
            intro w' hm' hc'
            -- leaf 3: h1- h2+ h3+ h4- h5+
            exact ⟨by simp only [resV]; rw [decide_eq_true (hr.2.2 (by omega))], hc'⟩
          ·
            refine LM.drop (t := 36) rfl rfl rfl ?_
            refine LM.drop (t := 36) rfl rfl rfl ?_
            refine LM.strip (t := 33) rfl rfl rfl ?_
            refine LM.val (ov_pickF rfl rfl) ?_
            refine LM.strip (t := 28) rfl rfl rfl ?_
            refine LM.val (ov_pickF rfl rfl) ?_
            refine LM.val (ov_pickT rfl rfl) ?_
            refine LM.val (ov_assign rfl) ?_
            refine LM.nil ?_
            refine QM.sub (e' := [(6, _)]) ⟨rfl, trivial⟩ ?_
            refine QM.then ?_
            refine wpM.ret ?_
            refine QM.leave (.inl rfl) [.tmp 6] Try.results4 rfl ?_
            intro w' hm' hc'
            -- leaf 4: h1- h2+ h3+ h4- h5-
            first | exact ⟨rfl, hc'⟩ | (exfalso; first | omega | (have q0 := hr.1; have q1 := hr.2.1; have q2 := hr.2.2; omega) | (apply h2; rw [Bool.eq_iff_iff]; simp only [decide_eq_true_eq]; exact ⟨mixF_inj, fun h => by rw [h]⟩) | (refine absurd h2 ?_; rw [Bool.not_eq_false, beq_iff_eq, Bool.eq_iff_iff]; simp only [decide_eq_true_eq]; exact ⟨mixF_inj, fun h => by rw [h]⟩) | (simp at *; done))
      ·
        refine LM.drop (t := 28) rfl rfl rfl ?_
        refine LM.drop (t := 28) rfl rfl rfl ?_
        refine LM.drop (t := 28) rfl rfl rfl ?_
        refine LM.drop (t := 28) rfl rfl rfl ?_
        refine LM.dropU (t := 28) rfl rfl rfl ?_
        refine LM.dropX (t := 33) rfl rfl ?_
        refine LM.dropX (t := 33) rfl rfl ?_
        refine LM.dropX (t := 33) rfl rfl ?_
        refine LM.dropX (t := 36) rfl rfl ?_
        refine LM.dropX (t := 36) rfl rfl ?_
        refine LM.dropX (t := 33) rfl rfl ?_
        refine LM.drop (t := 28) rfl rfl rfl ?_
        refine LM.val (ov_pickF rfl rfl) ?_
        refine LM.val (ov_assign rfl) ?_
        refine LM.nil ?_
        refine QM.sub (e' := [(6, _)]) ⟨rfl, trivial⟩ ?_
        refine QM.then ?_
        refine wpM.ret ?_
        refine QM.leave (.inl rfl) [.tmp 6] Try.results4 rfl ?_
        intro w' hm' hc'
        -- leaf 5: h1- h2+ h3-
        first | exact ⟨rfl, hc'⟩ | (exfalso; first | omega | (have q0 := hr.1; have q1 := hr.2.1; have q2 := hr.2.2; omega) | (apply h2; rw [Bool.eq_iff_iff]; simp only [decide_eq_true_eq]; exact ⟨mixF_inj, fun h => by rw [h]⟩) | (refine absurd h2 ?_; rw [Bool.not_eq_false, beq_iff_eq, Bool.eq_iff_iff]; simp only [decide_eq_true_eq]; exact ⟨mixF_inj, fun h => by rw [h]⟩) | (simp at *; done))
    ·
      refine LM.drop (t := 24) rfl rfl rfl ?_
      refine LM.drop (t := 24) rfl rfl rfl ?_
      refine LM.val (ov_pickF rfl rfl) ?_
      refine LM.val (ov_move rfl) ?_
      refine LM.drop (t := 28) rfl rfl rfl ?_
      refine LM.drop (t := 28) rfl rfl rfl ?_
      refine LM.drop (t := 28) rfl rfl rfl ?_
      refine LM.drop (t := 28) rfl rfl rfl ?_
      refine LM.dropU (t := 28) rfl rfl rfl ?_
      refine LM.dropX (t := 33) rfl rfl ?_
      refine LM.dropX (t := 33) rfl rfl ?_
      refine LM.dropX (t := 33) rfl rfl ?_
      refine LM.dropX (t := 36) rfl rfl ?_
      refine LM.dropX (t := 36) rfl rfl ?_
      refine LM.dropX (t := 33) rfl rfl ?_
      refine LM.drop (t := 28) rfl rfl rfl ?_
      refine LM.val (ov_pickF rfl rfl) ?_
      refine LM.val (ov_assign rfl) ?_
      refine LM.nil ?_
      refine QM.sub (e' := [(6, _)]) ⟨rfl, trivial⟩ ?_
      refine QM.then ?_
      refine wpM.ret ?_
      refine QM.leave (.inl rfl) [.tmp 6] Try.results4 rfl ?_
      intro w' hm' hc'
      -- leaf 6: h1- h2-
      first | exact ⟨rfl, hc'⟩ | (exfalso; first | omega | (have q0 := hr.1; have q1 := hr.2.1; have q2 := hr.2.2; omega) | (apply h2; rw [Bool.eq_iff_iff]; simp only [decide_eq_true_eq]; exact ⟨mixF_inj, fun h => by rw [h]⟩) | (refine absurd h2 ?_; rw [Bool.not_eq_false, beq_iff_eq, Bool.eq_iff_iff]; simp only [decide_eq_true_eq]; exact ⟨mixF_inj, fun h => by rw [h]⟩) | (simp at *; done))

end Go.Eng
