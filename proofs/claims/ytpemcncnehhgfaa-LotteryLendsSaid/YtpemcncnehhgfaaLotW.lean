/- The walks of a lottery's laws. No condition. -/
import Derived.Test.YtpemcncnehhgfaaLotL
set_option linter.unusedVariables false
set_option linter.unusedSimpArgs false
namespace Go.Eng
open Go Go.Proofs Go.RowKit

theorem sr_own {xs : List Int} {b cap : Nat} {E : TypeId} {fz : Nat × Nat} {w : World} (h : w.heap[b]? = some (.cells (arr fI xs []) E fz)) (hc : xs.length ≤ cap) : Sr fI 1 xs (.slice (some ⟨b, 0, none⟩) xs.length cap) w :=
  ⟨_, _, rfl, hc, fun _ => ⟨b, 0, _, _, _, rfl, h, fun i a ha j hj => by rw [Nat.zero_add]; exact arr_get fI_len ha hj⟩⟩
theorem win05 : winI [0, 5] 9#64 = 1 := by decide
theorem win05n : winI [0, -5] 9#64 = -1 := by decide
theorem cnt05 : countL [0, 5] 3#64 (cntN 7) = [0, 7] := by decide
theorem lend05 : lendL (bringL [0, 5]) 1 0 2 = [2, 3] := by decide
theorem lende05 : lendErr (bringL [0, 5]) 1 0 2 = 0 := by decide

set_option maxRecDepth 100000 in
theorem awake45 (w : World) : Ret Try.prog 28 #[] w (fun v w' => v = .bool true ∧ Ext w w') := by
  refine Ret.enterM (l := []) Try.func28 rfl Try.ntmps28 rfl ([]) (no) (Mem.nil w) ?_
  refine wpM.seq ?_
  refine wpM.region ?_
  refine LM.val (ov_assign rfl) ?_
  refine LM.nil ?_
  refine QM.sub (e' := []) trivial ?_
  refine QM.then ?_
  refine wpM.seq ?_
  refine wpM.region ?_
  refine LM.row (vs := [_, _]) Try.underlying26 Try.sizeOf3 Try.zeroValue3 rfl rfl rfl rfl rfl rfl (fun b9 hb9 => ?_)
  refine LM.callE (oc_call (enters_fn Try.func29 (by kernel_rfl) rfl) rfl) (fun w hm hc hg => winner_spec (xs := [0, 5]) 9#64 w (sr_own (hm.get (i := 0) rfl) (by decide))) ?_
  refine LM.val (ov_move rfl) ?_
  refine LM.val (ov_extract rfl rfl) ?_
  refine LM.val (ov_extract rfl rfl) ?_
  refine LM.val (ov_assign rfl) ?_
  refine LM.val (ov_assign rfl) ?_
  refine LM.nil ?_
  refine QM.sub (e' := [(1, _), (2, _)]) ⟨rfl, rfl, trivial⟩ ?_
  refine QM.then ?_
  refine wpM.seq ?_
  refine wpM.region ?_
  refine LM.row (vs := [_, _]) Try.underlying26 Try.sizeOf3 Try.zeroValue3 rfl rfl rfl rfl rfl rfl (fun b14 hb14 => ?_)
  refine LM.callE (oc_call (enters_fn Try.func29 (by kernel_rfl) rfl) rfl) (fun w hm hc hg => winner_spec (xs := [0, -5]) 9#64 w (sr_own (hm.get (i := 0) rfl) (by decide))) ?_
  refine LM.val (ov_move rfl) ?_
  refine LM.val (ov_extract rfl rfl) ?_
  refine LM.val (ov_extract rfl rfl) ?_
  refine LM.val (ov_assign rfl) ?_
  refine LM.val (ov_assign rfl) ?_
  refine LM.nil ?_
  refine QM.sub (e' := [(1, _), (2, _), (4, _)]) ⟨rfl, rfl, rfl, trivial⟩ ?_
  refine QM.then ?_
  refine wpM.seq ?_
  refine wpM.region ?_
  refine LM.row (vs := [_, _]) Try.underlying26 Try.sizeOf3 Try.zeroValue3 rfl rfl rfl rfl rfl rfl (fun b18 hb18 => ?_)
  refine LM.callS (oc_call (enters_fn Try.func34 (by kernel_rfl) rfl) rfl) (fun w hm hc hg => count_spec (xs := [0, 5]) 3#64 7 w (sr_own (hm.get (i := 0) rfl) (by decide))) (fun u19 m19 hs19 => ?_)
  rw [cnt05] at hs19; obtain ⟨b19, cap19, junk19, hb19, rfl, rfl, hcap19, hmx19, hsz19⟩ := hs19.ne (by decide)
  refine LM.val (ov_assign rfl) ?_
  refine LM.nil ?_
  refine QM.sub (e' := [(1, _), (2, _), (4, _), (5, _)]) ⟨rfl, rfl, rfl, rfl, trivial⟩ ?_
  refine QM.then ?_
  refine wpM.seq ?_
  refine wpM.region ?_
  refine LM.row (vs := [_, _]) Try.underlying26 Try.sizeOf3 Try.zeroValue3 rfl rfl rfl rfl rfl rfl (fun b21 hb21 => ?_)
  refine LM.callT (oc_call (enters_fn Try.func31 (by kernel_rfl) rfl) rfl) LendT.mono (fun w hm hc hg => lend_spec (xs := [0, 5]) 1 0 2 w (sr_own (hm.get (i := 0) rfl) (by decide)) (by decide) (by decide)) ?_
  rintro u22 m22 ⟨v22, rfl, hsl⟩ -; rw [lend05] at hsl; obtain ⟨b22, cap22, junk22, hb22, rfl, rfl, hcap22, hmx22, hsz22⟩ := hsl.ne (by decide)
  refine LM.val (ov_move rfl) ?_
  refine LM.val (ov_extract rfl rfl) ?_
  refine LM.val (ov_extract rfl rfl) ?_
  refine LM.val (ov_assign rfl) ?_
  refine LM.val (ov_assign rfl) ?_
  refine LM.nil ?_
  refine QM.sub (e' := [(1, _), (2, _), (4, _), (5, _), (6, _), (7, _)]) ⟨rfl, rfl, rfl, rfl, rfl, rfl, trivial⟩ ?_
  refine QM.then ?_
  refine wpM.seq ?_
  refine wpM.region ?_
  refine LM.val (ov_move rfl) ?_
  refine LM.val (ov_eql rfl rfl) ?_
  refine LM.val (ov_move rfl) ?_
  first | refine LM.splitD (t := 27) rfl (fun h1 => ?_) (fun h1 => ?_) | refine LM.splitB (t := 27) rfl (fun h1 => ?_) (fun h1 => ?_)
  ·
    refine LM.strip (t := 27) rfl rfl rfl ?_
    refine LM.val (ov_move rfl) ?_
    refine LM.val (ov_pickT rfl rfl) ?_
    refine LM.val (ov_move rfl) ?_
    first | refine LM.splitD (t := 30) rfl (fun h2 => ?_) (fun h2 => ?_) | refine LM.splitB (t := 30) rfl (fun h2 => ?_) (fun h2 => ?_)
    ·
      refine LM.strip (t := 30) rfl rfl rfl ?_
      refine LM.val (ov_move rfl) ?_
      refine LM.strip (t := 30) rfl rfl rfl ?_
      first | refine LM.val (ov_notD rfl) ?_ | refine LM.val (ov_not rfl) ?_
      refine LM.val (ov_pickT rfl rfl) ?_
      refine LM.val (ov_move rfl) ?_
      first | refine LM.splitD (t := 34) rfl (fun h3 => ?_) (fun h3 => ?_) | refine LM.splitB (t := 34) rfl (fun h3 => ?_) (fun h3 => ?_)
      ·
        refine LM.strip (t := 34) rfl rfl rfl ?_
        refine LM.val (ov_move rfl) ?_
        refine LM.strip (t := 34) rfl rfl rfl ?_
        refine LM.val (ov_len Try.underlying26 rfl) ?_
        refine LM.strip (t := 34) rfl rfl rfl ?_
        refine LM.val (ov_eql rfl rfl) ?_
        refine LM.val (ov_pickT rfl rfl) ?_
        refine LM.val (ov_move rfl) ?_
        first | refine LM.splitD (t := 39) rfl (fun h4 => ?_) (fun h4 => ?_) | refine LM.splitB (t := 39) rfl (fun h4 => ?_) (fun h4 => ?_)
        ·
          refine LM.strip (t := 39) rfl rfl rfl ?_
          refine LM.val (ov_move rfl) ?_
          refine LM.strip (t := 39) rfl rfl rfl ?_
          first | refine LM.val (ov_idx10 Try.underlying26 Try.sizeOf3 rfl rfl (by omega)) ?_ | refine LM.val (ov_idx1 Try.underlying26 Try.sizeOf3 rfl rfl (by omega)) ?_
          refine LM.strip (t := 39) rfl rfl rfl ?_
          refine LM.rd (om_load 2 Try.isAgg3 rfl rfl (arr_getI (by decide))) ?_
          refine LM.strip (t := 39) rfl rfl rfl ?_
          refine LM.val (ov_eql rfl rfl) ?_
          refine LM.val (ov_pickT rfl rfl) ?_
          refine LM.val (ov_move rfl) ?_
          first | refine LM.splitD (t := 45) rfl (fun h5 => ?_) (fun h5 => ?_) | refine LM.splitB (t := 45) rfl (fun h5 => ?_) (fun h5 => ?_)
          ·
            refine LM.strip (t := 45) rfl rfl rfl ?_
            refine LM.val (ov_move rfl) ?_
            refine LM.strip (t := 45) rfl rfl rfl ?_
            refine LM.val (ov_eql rfl rfl) ?_
            refine LM.val (ov_pickT rfl rfl) ?_
            refine LM.val (ov_move rfl) ?_
            first | refine LM.splitD (t := 49) rfl (fun h6 => ?_) (fun h6 => ?_) | refine LM.splitB (t := 49) rfl (fun h6 => ?_) (fun h6 => ?_)
            ·
              refine LM.strip (t := 49) rfl rfl rfl ?_
              refine LM.val (ov_move rfl) ?_
              refine LM.strip (t := 49) rfl rfl rfl ?_
              refine LM.val (ov_len Try.underlying26 rfl) ?_
              refine LM.strip (t := 49) rfl rfl rfl ?_
              refine LM.val (ov_eql rfl rfl) ?_
              refine LM.val (ov_pickT rfl rfl) ?_
              refine LM.val (ov_move rfl) ?_
              first | refine LM.splitD (t := 54) rfl (fun h7 => ?_) (fun h7 => ?_) | refine LM.splitB (t := 54) rfl (fun h7 => ?_) (fun h7 => ?_)
              ·
                refine LM.strip (t := 54) rfl rfl rfl ?_
                refine LM.val (ov_move rfl) ?_
                refine LM.strip (t := 54) rfl rfl rfl ?_
                first | refine LM.val (ov_idx10 Try.underlying26 Try.sizeOf3 rfl rfl (by omega)) ?_ | refine LM.val (ov_idx1 Try.underlying26 Try.sizeOf3 rfl rfl (by omega)) ?_
                refine LM.strip (t := 54) rfl rfl rfl ?_
                refine LM.rd (om_load 0 Try.isAgg3 rfl rfl (arr_getI (by decide))) ?_
                refine LM.strip (t := 54) rfl rfl rfl ?_
                refine LM.val (ov_eql rfl rfl) ?_
                refine LM.val (ov_pickT rfl rfl) ?_
                refine LM.val (ov_move rfl) ?_
                first | refine LM.splitD (t := 60) rfl (fun h8 => ?_) (fun h8 => ?_) | refine LM.splitB (t := 60) rfl (fun h8 => ?_) (fun h8 => ?_)
                ·
                  refine LM.strip (t := 60) rfl rfl rfl ?_
                  refine LM.val (ov_move rfl) ?_
                  refine LM.strip (t := 60) rfl rfl rfl ?_
                  first | refine LM.val (ov_idx10 Try.underlying26 Try.sizeOf3 rfl rfl (by omega)) ?_ | refine LM.val (ov_idx1 Try.underlying26 Try.sizeOf3 rfl rfl (by omega)) ?_
                  refine LM.strip (t := 60) rfl rfl rfl ?_
                  refine LM.rd (om_load 0 Try.isAgg3 rfl rfl (arr_getI (by decide))) ?_
                  refine LM.strip (t := 60) rfl rfl rfl ?_
                  refine LM.val (ov_eql rfl rfl) ?_
                  refine LM.val (ov_pickT rfl rfl) ?_
                  refine LM.val (ov_assign rfl) ?_
                  refine LM.nil ?_
                  refine QM.sub (e' := [(0, _)]) ⟨rfl, trivial⟩ ?_
                  refine QM.then ?_
                  refine wpM.ret ?_
                  refine QM.leave (.inl rfl) [.tmp 0] Try.results28 rfl ?_
                  intro w' hm' hc' hg'
                  -- leaf 1: h1+ h2+ h3+ h4+ h5+ h6+ h7+ h8+
                  first | exact ⟨rfl, hc'⟩ | (exfalso; first | (exact absurd (by decide) h4) | (exact absurd (by decide) h5) | (exact absurd (by decide) h7) | (exact absurd (by decide) h8) | (exact absurd (by decide) h9))
                ·
                  refine LM.drop (t := 60) rfl rfl rfl ?_
                  refine LM.drop (t := 60) rfl rfl rfl ?_
                  refine LM.drop (t := 60) rfl rfl rfl ?_
                  refine LM.drop (t := 60) rfl rfl rfl ?_
                  refine LM.val (ov_pickF rfl rfl) ?_
                  refine LM.val (ov_assign rfl) ?_
                  refine LM.nil ?_
                  refine QM.sub (e' := [(0, _)]) ⟨rfl, trivial⟩ ?_
                  refine QM.then ?_
                  refine wpM.ret ?_
                  refine QM.leave (.inl rfl) [.tmp 0] Try.results28 rfl ?_
                  intro w' hm' hc' hg'
                  -- leaf 2: h1+ h2+ h3+ h4+ h5+ h6+ h7+ h8-
                  first | exact ⟨rfl, hc'⟩ | (exfalso; first | (exact absurd (by decide) h4) | (exact absurd (by decide) h5) | (exact absurd (by decide) h7) | (exact absurd (by decide) h8) | (exact absurd (by decide) h9))
              ·
                refine LM.drop (t := 54) rfl rfl rfl ?_
                refine LM.drop (t := 54) rfl rfl rfl ?_
                refine LM.drop (t := 54) rfl rfl rfl ?_
                refine LM.drop (t := 54) rfl rfl rfl ?_
                refine LM.val (ov_pickF rfl rfl) ?_
                refine LM.val (ov_move rfl) ?_
                refine LM.drop (t := 60) rfl rfl rfl ?_
                refine LM.drop (t := 60) rfl rfl rfl ?_
                refine LM.drop (t := 60) rfl rfl rfl ?_
                refine LM.drop (t := 60) rfl rfl rfl ?_
                refine LM.val (ov_pickF rfl rfl) ?_
                refine LM.val (ov_assign rfl) ?_
                refine LM.nil ?_
                refine QM.sub (e' := [(0, _)]) ⟨rfl, trivial⟩ ?_
                refine QM.then ?_
                refine wpM.ret ?_
                refine QM.leave (.inl rfl) [.tmp 0] Try.results28 rfl ?_
                intro w' hm' hc' hg'
                -- leaf 3: h1+ h2+ h3+ h4+ h5+ h6+ h7-
                first | exact ⟨rfl, hc'⟩ | (exfalso; first | (exact absurd (by decide) h4) | (exact absurd (by decide) h5) | (exact absurd (by decide) h7) | (exact absurd (by decide) h8) | (exact absurd (by decide) h9))
            ·
              exact absurd lende05 h6
          ·
            refine LM.drop (t := 45) rfl rfl rfl ?_
            refine LM.drop (t := 45) rfl rfl rfl ?_
            refine LM.val (ov_pickF rfl rfl) ?_
            refine LM.val (ov_move rfl) ?_
            refine LM.drop (t := 49) rfl rfl rfl ?_
            refine LM.drop (t := 49) rfl rfl rfl ?_
            refine LM.drop (t := 49) rfl rfl rfl ?_
            refine LM.val (ov_pickF rfl rfl) ?_
            refine LM.val (ov_move rfl) ?_
            refine LM.drop (t := 54) rfl rfl rfl ?_
            refine LM.drop (t := 54) rfl rfl rfl ?_
            refine LM.drop (t := 54) rfl rfl rfl ?_
            refine LM.drop (t := 54) rfl rfl rfl ?_
            refine LM.val (ov_pickF rfl rfl) ?_
            refine LM.val (ov_move rfl) ?_
            refine LM.drop (t := 60) rfl rfl rfl ?_
            refine LM.drop (t := 60) rfl rfl rfl ?_
            refine LM.drop (t := 60) rfl rfl rfl ?_
            refine LM.drop (t := 60) rfl rfl rfl ?_
            refine LM.val (ov_pickF rfl rfl) ?_
            refine LM.val (ov_assign rfl) ?_
            refine LM.nil ?_
            refine QM.sub (e' := [(0, _)]) ⟨rfl, trivial⟩ ?_
            refine QM.then ?_
            refine wpM.ret ?_
            refine QM.leave (.inl rfl) [.tmp 0] Try.results28 rfl ?_
            intro w' hm' hc' hg'
            -- leaf 4: h1+ h2+ h3+ h4+ h5-
            first | exact ⟨rfl, hc'⟩ | (exfalso; first | (exact absurd (by decide) h4) | (exact absurd (by decide) h5) | (exact absurd (by decide) h7) | (exact absurd (by decide) h8) | (exact absurd (by decide) h9))
        ·
          refine LM.drop (t := 39) rfl rfl rfl ?_
          refine LM.drop (t := 39) rfl rfl rfl ?_
          refine LM.drop (t := 39) rfl rfl rfl ?_
          refine LM.drop (t := 39) rfl rfl rfl ?_
          refine LM.val (ov_pickF rfl rfl) ?_
          refine LM.val (ov_move rfl) ?_
          refine LM.drop (t := 45) rfl rfl rfl ?_
          refine LM.drop (t := 45) rfl rfl rfl ?_
          refine LM.val (ov_pickF rfl rfl) ?_
          refine LM.val (ov_move rfl) ?_
          refine LM.drop (t := 49) rfl rfl rfl ?_
          refine LM.drop (t := 49) rfl rfl rfl ?_
          refine LM.drop (t := 49) rfl rfl rfl ?_
          refine LM.val (ov_pickF rfl rfl) ?_
          refine LM.val (ov_move rfl) ?_
          refine LM.drop (t := 54) rfl rfl rfl ?_
          refine LM.drop (t := 54) rfl rfl rfl ?_
          refine LM.drop (t := 54) rfl rfl rfl ?_
          refine LM.drop (t := 54) rfl rfl rfl ?_
          refine LM.val (ov_pickF rfl rfl) ?_
          refine LM.val (ov_move rfl) ?_
          refine LM.drop (t := 60) rfl rfl rfl ?_
          refine LM.drop (t := 60) rfl rfl rfl ?_
          refine LM.drop (t := 60) rfl rfl rfl ?_
          refine LM.drop (t := 60) rfl rfl rfl ?_
          refine LM.val (ov_pickF rfl rfl) ?_
          refine LM.val (ov_assign rfl) ?_
          refine LM.nil ?_
          refine QM.sub (e' := [(0, _)]) ⟨rfl, trivial⟩ ?_
          refine QM.then ?_
          refine wpM.ret ?_
          refine QM.leave (.inl rfl) [.tmp 0] Try.results28 rfl ?_
          intro w' hm' hc' hg'
          -- leaf 5: h1+ h2+ h3+ h4-
          first | exact ⟨rfl, hc'⟩ | (exfalso; first | (exact absurd (by decide) h4) | (exact absurd (by decide) h5) | (exact absurd (by decide) h7) | (exact absurd (by decide) h8) | (exact absurd (by decide) h9))
      ·
        exact absurd (show ¬ (0 : Int) ≤ winI [0, -5] 9#64 by rw [win05n]; decide) h3
    ·
      exact absurd (show (0 : Int) ≤ winI [0, 5] 9#64 by rw [win05]; decide) h2
  ·
    exact absurd win05 h1

set_option maxRecDepth 100000 in
theorem lotteryTells {xs : List Int} {ad : Option Addr} {cap : Nat} (seed : BitVec 64) (n0 n1 n2 : Int) (w : World) (hl : Sr fI 1 xs (.slice ad xs.length cap) w) (hn0 : -9223372036854775808 ≤ n0 ∧ n0 ≤ 9223372036854775807) : Ret Try.prog 6 #[.slice ad xs.length cap, U seed, .agg #[.int .i64 n0, .int .i64 n1, .int .i64 n2]] w (fun v w' => v = .bool true ∧ Ext w w') := by
  have hbl := bringL_len xs
  refine Ret.enterM (l := [.slice ad xs.length cap, U seed, .agg #[.int .i64 n0, .int .i64 n1, .int .i64 n2]]) Try.func6 rfl Try.ntmps6 rfl ([]) (no) (Mem.nil w) ?_
  refine wpM.seq ?_
  refine wpM.region ?_
  refine LM.box rfl rfl (fun b5 hb5 => ?_)
  refine LM.val (ov_assign rfl) ?_
  refine LM.nil ?_
  refine QM.sub (e' := [(0, _), (1, _), (5, _)]) ⟨rfl, rfl, rfl, trivial⟩ ?_
  refine QM.then ?_
  refine wpM.seq ?_
  refine wpM.seq ?_
  refine wpM.region ?_
  refine LM.callE (oc_call (enters_fn Try.func28 (by kernel_rfl) rfl) rfl) (fun w hm hc hg => awake45 w) ?_
  first | refine LM.val (ov_notD rfl) ?_ | refine LM.val (ov_not rfl) ?_
  refine LM.nil ?_
  refine QM.sub (e' := [(0, _), (1, _), (5, _), (15, _)]) ⟨rfl, rfl, rfl, rfl, trivial⟩ ?_
  refine QM.then ?_
  first | refine wpM.condD rfl (fun h1 => ?_) (fun h1 => ?_) | refine wpM.condB rfl (fun h1 => ?_) (fun h1 => ?_)
  ·
    refine wpM.seq ?_
    refine wpM.region ?_
    refine LM.val (ov_assign rfl) ?_
    refine LM.nil ?_
    refine QM.sub (e' := [(6, _)]) ⟨rfl, trivial⟩ ?_
    refine QM.then ?_
    refine wpM.ret ?_
    refine QM.then_ret ?_
    refine QM.leave (.inl rfl) [.tmp 6] Try.results6 rfl ?_
    intro w' hm' hc' hg'
    -- leaf 1: h1+
    first | exact ⟨rfl, hc'⟩ | (refine ⟨?_, hc'⟩; simp [resV]; done) | (exfalso; first | omega | (simp at *; done))
  ·
    refine wpM.skip ?_
    refine QM.then ?_
    refine wpM.seq ?_
    refine wpM.seq ?_
    refine wpM.region ?_
    refine LM.val (ov_move rfl) ?_
    refine LM.val (ov_len Try.underlying26 rfl) ?_
    refine LM.val (ov_gtr rfl rfl) ?_
    refine LM.val (ov_move rfl) ?_
    first | refine LM.splitD (t := 19) rfl (fun h2 => ?_) (fun h2 => ?_) | refine LM.splitB (t := 19) rfl (fun h2 => ?_) (fun h2 => ?_)
    ·
      refine LM.drop (t := 19) rfl rfl rfl ?_
      refine LM.drop (t := 19) rfl rfl rfl ?_
      refine LM.drop (t := 19) rfl rfl rfl ?_
      refine LM.val (ov_pickT rfl rfl) ?_
      refine LM.nil ?_
      refine QM.sub (e' := [(0, _), (1, _), (5, _), (23, _)]) ⟨rfl, rfl, rfl, rfl, trivial⟩ ?_
      refine QM.then ?_
      refine wpM.condT rfl ?_
      refine wpM.seq ?_
      refine wpM.region ?_
      refine LM.val (ov_assign rfl) ?_
      refine LM.nil ?_
      refine QM.sub (e' := [(6, _)]) ⟨rfl, trivial⟩ ?_
      refine QM.then ?_
      refine wpM.ret ?_
      refine QM.then_ret ?_
      refine QM.leave (.inl rfl) [.tmp 6] Try.results6 rfl ?_
      intro w' hm' hc' hg'
      -- leaf 2: h1- h2+
      first | exact ⟨rfl, hc'⟩ | (refine ⟨?_, hc'⟩; simp [resV]; done) | (exfalso; first | omega | (simp at *; done))
    ·
      refine LM.strip (t := 19) rfl rfl rfl ?_
      first | refine LM.val (ov_idxA10 Try.underlying41 Try.sizeOf3 rfl rfl (by omega)) ?_ | refine LM.val (ov_idxA1 Try.underlying41 Try.sizeOf3 rfl rfl (by omega)) ?_
      refine LM.strip (t := 19) rfl rfl rfl ?_
      first | refine LM.rd (om_load 0 Try.isAgg3 rfl rfl rfl) ?_ | refine LM.rd (om_load 1 Try.isAgg3 rfl rfl rfl) ?_ | refine LM.rd (om_load 2 Try.isAgg3 rfl rfl rfl) ?_ | refine LM.rd (om_load 3 Try.isAgg3 rfl rfl rfl) ?_ | refine LM.rd (om_load 4 Try.isAgg3 rfl rfl rfl) ?_ | refine LM.rd (om_load 5 Try.isAgg3 rfl rfl rfl) ?_ | refine LM.rd (om_load 6 Try.isAgg3 rfl rfl rfl) ?_ | refine LM.rd (om_load 7 Try.isAgg3 rfl rfl rfl) ?_ | refine LM.rd (om_load 8 Try.isAgg3 rfl rfl rfl) ?_
      refine LM.strip (t := 19) rfl rfl rfl ?_
      refine LM.val (ov_gtr rfl rfl) ?_
      refine LM.val (ov_pickF rfl rfl) ?_
      refine LM.nil ?_
      refine QM.sub (e' := [(0, _), (1, _), (5, _), (23, _)]) ⟨rfl, rfl, rfl, rfl, trivial⟩ ?_
      refine QM.then ?_
      first | refine wpM.condD rfl (fun h3 => ?_) (fun h3 => ?_) | refine wpM.condB rfl (fun h3 => ?_) (fun h3 => ?_)
      ·
        refine wpM.seq ?_
        refine wpM.region ?_
        refine LM.val (ov_assign rfl) ?_
        refine LM.nil ?_
        refine QM.sub (e' := [(6, _)]) ⟨rfl, trivial⟩ ?_
        refine QM.then ?_
        refine wpM.ret ?_
        refine QM.then_ret ?_
        refine QM.leave (.inl rfl) [.tmp 6] Try.results6 rfl ?_
        intro w' hm' hc' hg'
        -- leaf 3: h1- h2- h3+
        first | exact ⟨rfl, hc'⟩ | (refine ⟨?_, hc'⟩; simp [resV]; done) | (exfalso; first | omega | (simp at *; done))
      ·
        refine wpM.skip ?_
        refine QM.then ?_
        refine wpM.seq ?_
        refine wpM.region ?_
        refine LM.val (ov_move rfl) ?_
        refine LM.val (ov_move rfl) ?_
        refine LM.callE (oc_call (enters_fn Try.func29 (by kernel_rfl) rfl) rfl) (fun w hm hc hg => winner_spec seed w (hl.ext hc)) ?_
        refine LM.val (ov_move rfl) ?_
        refine LM.val (ov_extract rfl rfl) ?_
        refine LM.val (ov_extract rfl rfl) ?_
        refine LM.val (ov_assign rfl) ?_
        refine LM.val (ov_assign rfl) ?_
        refine LM.nil ?_
        refine QM.sub (e' := [(0, _), (1, _), (5, _), (7, _), (8, _)]) ⟨rfl, rfl, rfl, rfl, rfl, trivial⟩ ?_
        refine QM.then ?_
        refine wpM.seq ?_
        refine wpM.region ?_
        refine LM.val (ov_move rfl) ?_
        refine LM.val (ov_move rfl) ?_
        refine LM.callE (oc_call (enters_fn Try.func30 (by kernel_rfl) rfl) rfl) (fun w hm hc hg => rwinner_spec seed w (hl.ext hc) (by omega)) ?_
        refine LM.val (ov_assign rfl) ?_
        refine LM.nil ?_
        refine QM.sub (e' := [(0, _), (1, _), (5, _), (7, _), (8, _), (9, _)]) ⟨rfl, rfl, rfl, rfl, rfl, rfl, trivial⟩ ?_
        refine QM.then ?_
        refine wpM.seq ?_
        refine wpM.region ?_
        refine LM.val (ov_move rfl) ?_
        first | refine LM.val (ov_idxA10 Try.underlying41 Try.sizeOf3 rfl rfl (by omega)) ?_ | refine LM.val (ov_idxA1 Try.underlying41 Try.sizeOf3 rfl rfl (by omega)) ?_
        first | refine LM.rd (om_load 0 Try.isAgg3 rfl rfl rfl) ?_ | refine LM.rd (om_load 1 Try.isAgg3 rfl rfl rfl) ?_ | refine LM.rd (om_load 2 Try.isAgg3 rfl rfl rfl) ?_ | refine LM.rd (om_load 3 Try.isAgg3 rfl rfl rfl) ?_ | refine LM.rd (om_load 4 Try.isAgg3 rfl rfl rfl) ?_ | refine LM.rd (om_load 5 Try.isAgg3 rfl rfl rfl) ?_ | refine LM.rd (om_load 6 Try.isAgg3 rfl rfl rfl) ?_ | refine LM.rd (om_load 7 Try.isAgg3 rfl rfl rfl) ?_ | refine LM.rd (om_load 8 Try.isAgg3 rfl rfl rfl) ?_
        first | refine LM.val (ov_idxA10 Try.underlying41 Try.sizeOf3 rfl rfl (by omega)) ?_ | refine LM.val (ov_idxA1 Try.underlying41 Try.sizeOf3 rfl rfl (by omega)) ?_
        first | refine LM.rd (om_load 0 Try.isAgg3 rfl rfl rfl) ?_ | refine LM.rd (om_load 1 Try.isAgg3 rfl rfl rfl) ?_ | refine LM.rd (om_load 2 Try.isAgg3 rfl rfl rfl) ?_ | refine LM.rd (om_load 3 Try.isAgg3 rfl rfl rfl) ?_ | refine LM.rd (om_load 4 Try.isAgg3 rfl rfl rfl) ?_ | refine LM.rd (om_load 5 Try.isAgg3 rfl rfl rfl) ?_ | refine LM.rd (om_load 6 Try.isAgg3 rfl rfl rfl) ?_ | refine LM.rd (om_load 7 Try.isAgg3 rfl rfl rfl) ?_ | refine LM.rd (om_load 8 Try.isAgg3 rfl rfl rfl) ?_
        first | refine LM.val (ov_idxA10 Try.underlying41 Try.sizeOf3 rfl rfl (by omega)) ?_ | refine LM.val (ov_idxA1 Try.underlying41 Try.sizeOf3 rfl rfl (by omega)) ?_
        first | refine LM.rd (om_load 0 Try.isAgg3 rfl rfl rfl) ?_ | refine LM.rd (om_load 1 Try.isAgg3 rfl rfl rfl) ?_ | refine LM.rd (om_load 2 Try.isAgg3 rfl rfl rfl) ?_ | refine LM.rd (om_load 3 Try.isAgg3 rfl rfl rfl) ?_ | refine LM.rd (om_load 4 Try.isAgg3 rfl rfl rfl) ?_ | refine LM.rd (om_load 5 Try.isAgg3 rfl rfl rfl) ?_ | refine LM.rd (om_load 6 Try.isAgg3 rfl rfl rfl) ?_ | refine LM.rd (om_load 7 Try.isAgg3 rfl rfl rfl) ?_ | refine LM.rd (om_load 8 Try.isAgg3 rfl rfl rfl) ?_
        refine LM.callT (oc_call (enters_fn Try.func31 (by kernel_rfl) rfl) rfl) LendT.mono (fun w hm hc hg => lend_spec n1 n2 n0 w (hl.ext hc) (by omega) hn0) ?_
        rintro u41 m41 ⟨v41, rfl, hs41⟩ -; obtain ⟨ad41, cap41, rfl⟩ := hs41.form; refine LM.mem (M' := (b5, _) :: m41) (fun w hm => hm.perm (List.perm_append_singleton _ _)) ?_
        refine LM.val (ov_move rfl) ?_
        refine LM.val (ov_extract rfl rfl) ?_
        refine LM.val (ov_extract rfl rfl) ?_
        refine LM.val (ov_assign rfl) ?_
        refine LM.val (ov_assign rfl) ?_
        refine LM.nil ?_
        refine QM.sub (e' := [(0, _), (1, _), (5, _), (7, _), (8, _), (9, _), (10, _), (11, _)]) ⟨rfl, rfl, rfl, rfl, rfl, rfl, rfl, rfl, trivial⟩ ?_
        refine QM.then ?_
        refine wpM.seq ?_
        refine wpM.region ?_
        refine LM.val (ov_move rfl) ?_
        first | refine LM.val (ov_idxA10 Try.underlying41 Try.sizeOf3 rfl rfl (by omega)) ?_ | refine LM.val (ov_idxA1 Try.underlying41 Try.sizeOf3 rfl rfl (by omega)) ?_
        first | refine LM.rd (om_load 0 Try.isAgg3 rfl rfl rfl) ?_ | refine LM.rd (om_load 1 Try.isAgg3 rfl rfl rfl) ?_ | refine LM.rd (om_load 2 Try.isAgg3 rfl rfl rfl) ?_ | refine LM.rd (om_load 3 Try.isAgg3 rfl rfl rfl) ?_ | refine LM.rd (om_load 4 Try.isAgg3 rfl rfl rfl) ?_ | refine LM.rd (om_load 5 Try.isAgg3 rfl rfl rfl) ?_ | refine LM.rd (om_load 6 Try.isAgg3 rfl rfl rfl) ?_ | refine LM.rd (om_load 7 Try.isAgg3 rfl rfl rfl) ?_ | refine LM.rd (om_load 8 Try.isAgg3 rfl rfl rfl) ?_
        first | refine LM.val (ov_idxA10 Try.underlying41 Try.sizeOf3 rfl rfl (by omega)) ?_ | refine LM.val (ov_idxA1 Try.underlying41 Try.sizeOf3 rfl rfl (by omega)) ?_
        first | refine LM.rd (om_load 0 Try.isAgg3 rfl rfl rfl) ?_ | refine LM.rd (om_load 1 Try.isAgg3 rfl rfl rfl) ?_ | refine LM.rd (om_load 2 Try.isAgg3 rfl rfl rfl) ?_ | refine LM.rd (om_load 3 Try.isAgg3 rfl rfl rfl) ?_ | refine LM.rd (om_load 4 Try.isAgg3 rfl rfl rfl) ?_ | refine LM.rd (om_load 5 Try.isAgg3 rfl rfl rfl) ?_ | refine LM.rd (om_load 6 Try.isAgg3 rfl rfl rfl) ?_ | refine LM.rd (om_load 7 Try.isAgg3 rfl rfl rfl) ?_ | refine LM.rd (om_load 8 Try.isAgg3 rfl rfl rfl) ?_
        first | refine LM.val (ov_idxA10 Try.underlying41 Try.sizeOf3 rfl rfl (by omega)) ?_ | refine LM.val (ov_idxA1 Try.underlying41 Try.sizeOf3 rfl rfl (by omega)) ?_
        first | refine LM.rd (om_load 0 Try.isAgg3 rfl rfl rfl) ?_ | refine LM.rd (om_load 1 Try.isAgg3 rfl rfl rfl) ?_ | refine LM.rd (om_load 2 Try.isAgg3 rfl rfl rfl) ?_ | refine LM.rd (om_load 3 Try.isAgg3 rfl rfl rfl) ?_ | refine LM.rd (om_load 4 Try.isAgg3 rfl rfl rfl) ?_ | refine LM.rd (om_load 5 Try.isAgg3 rfl rfl rfl) ?_ | refine LM.rd (om_load 6 Try.isAgg3 rfl rfl rfl) ?_ | refine LM.rd (om_load 7 Try.isAgg3 rfl rfl rfl) ?_ | refine LM.rd (om_load 8 Try.isAgg3 rfl rfl rfl) ?_
        refine LM.callT (oc_call (enters_fn Try.func32 (by kernel_rfl) rfl) rfl) LendT.mono (fun w hm hc hg => rlend_spec n1 n2 n0 w (hl.ext hc) (by omega) hn0) ?_
        rintro u52 m52 ⟨v52, rfl, hs52⟩ -; obtain ⟨ad52, cap52, rfl⟩ := hs52.form; refine LM.mem (M' := (b5, _) :: (m52 ++ m41)) (fun w hm => hm.perm List.perm_middle) ?_
        refine LM.val (ov_move rfl) ?_
        refine LM.val (ov_extract rfl rfl) ?_
        refine LM.val (ov_extract rfl rfl) ?_
        refine LM.val (ov_assign rfl) ?_
        refine LM.val (ov_assign rfl) ?_
        refine LM.nil ?_
        refine QM.sub (e' := [(0, _), (1, _), (5, _), (7, _), (8, _), (9, _), (10, _), (11, _), (12, _), (13, _)]) ⟨rfl, rfl, rfl, rfl, rfl, rfl, rfl, rfl, rfl, rfl, trivial⟩ ?_
        refine QM.then ?_
        refine wpM.seq ?_
        refine wpM.draw [(0, 0), (1, 0), (2, 0), (3, 0), (4, 0), (5, 0), (6, 0), (7, 0), (8, 0), (9, 0), (10, 0), (11, 0), (12, 0), (13, 1), (15, 0), (16, 0), (17, 0), (18, 1), (14, 2), (19, 2), (20, 2), (21, 0), (22, 0), (23, 0), (24, 0), (25, 2), (26, 0), (27, 0), (28, 0), (29, 0), (30, 0), (31, 0), (32, 0)] (by kernel_rfl) (by kernel_rfl) ?_
        refine LD.val rfl rfl (ov_move rfl) ?_
        refine LD.val rfl rfl (ov_move rfl) ?_
        refine LD.val rfl rfl (ov_eql rfl rfl) ?_
        refine LD.val rfl rfl (ov_move rfl) ?_
        first | refine LD.splitD (t := 58) rfl (fun h4 => ?_) (fun h4 => ?_) | refine LD.splitB (t := 58) rfl (fun h4 => ?_) (fun h4 => ?_)
        ·
          refine LD.val rfl ⟨58, _, rfl, rfl, rfl⟩ (ov_move rfl) ?_
          refine LD.val rfl ⟨58, _, rfl, rfl, rfl⟩ (ov_move rfl) ?_
          refine LD.val rfl ⟨58, _, rfl, rfl, rfl⟩ (ov_geq rfl rfl) ?_
          refine LD.val rfl ⟨58, _, rfl, rfl, rfl⟩ (ov_beql Try.underlying4 rfl rfl) ?_
          refine LD.val rfl rfl (ov_pickT rfl rfl) ?_
          refine LD.val rfl rfl (ov_move rfl) ?_
          first | refine LD.splitD (t := 64) rfl (fun h5 => ?_) (fun h5 => ?_) | refine LD.splitB (t := 64) rfl (fun h5 => ?_) (fun h5 => ?_)
          ·
            refine LD.val rfl ⟨64, _, rfl, rfl, rfl⟩ (ov_move rfl) ?_
            refine LD.val rfl ⟨64, _, rfl, rfl, rfl⟩ (ov_move rfl) ?_
            first | refine LD.val rfl ⟨64, _, rfl, rfl, rfl⟩ (ov_idxA10 Try.underlying41 Try.sizeOf3 rfl rfl (by omega)) ?_ | refine LD.val rfl ⟨64, _, rfl, rfl, rfl⟩ (ov_idxA1 Try.underlying41 Try.sizeOf3 rfl rfl (by omega)) ?_
            first | refine LD.rd rfl ⟨64, _, rfl, rfl, rfl⟩ (om_load 0 Try.isAgg3 rfl rfl rfl) ?_ | refine LD.rd rfl ⟨64, _, rfl, rfl, rfl⟩ (om_load 1 Try.isAgg3 rfl rfl rfl) ?_ | refine LD.rd rfl ⟨64, _, rfl, rfl, rfl⟩ (om_load 2 Try.isAgg3 rfl rfl rfl) ?_ | refine LD.rd rfl ⟨64, _, rfl, rfl, rfl⟩ (om_load 3 Try.isAgg3 rfl rfl rfl) ?_ | refine LD.rd rfl ⟨64, _, rfl, rfl, rfl⟩ (om_load 4 Try.isAgg3 rfl rfl rfl) ?_ | refine LD.rd rfl ⟨64, _, rfl, rfl, rfl⟩ (om_load 5 Try.isAgg3 rfl rfl rfl) ?_ | refine LD.rd rfl ⟨64, _, rfl, rfl, rfl⟩ (om_load 6 Try.isAgg3 rfl rfl rfl) ?_ | refine LD.rd rfl ⟨64, _, rfl, rfl, rfl⟩ (om_load 7 Try.isAgg3 rfl rfl rfl) ?_ | refine LD.rd rfl ⟨64, _, rfl, rfl, rfl⟩ (om_load 8 Try.isAgg3 rfl rfl rfl) ?_
            refine LD.val rfl ⟨64, _, rfl, rfl, rfl⟩ (ov_move rfl) ?_
            refine LD.val rfl ⟨64, _, rfl, rfl, rfl⟩ (ov_move rfl) ?_
            first | refine LD.val rfl ⟨64, _, rfl, rfl, rfl⟩ (ov_idxA10 Try.underlying41 Try.sizeOf3 rfl rfl (by omega)) ?_ | refine LD.val rfl ⟨64, _, rfl, rfl, rfl⟩ (ov_idxA1 Try.underlying41 Try.sizeOf3 rfl rfl (by omega)) ?_
            first | refine LD.rd rfl ⟨64, _, rfl, rfl, rfl⟩ (om_load 0 Try.isAgg3 rfl rfl rfl) ?_ | refine LD.rd rfl ⟨64, _, rfl, rfl, rfl⟩ (om_load 1 Try.isAgg3 rfl rfl rfl) ?_ | refine LD.rd rfl ⟨64, _, rfl, rfl, rfl⟩ (om_load 2 Try.isAgg3 rfl rfl rfl) ?_ | refine LD.rd rfl ⟨64, _, rfl, rfl, rfl⟩ (om_load 3 Try.isAgg3 rfl rfl rfl) ?_ | refine LD.rd rfl ⟨64, _, rfl, rfl, rfl⟩ (om_load 4 Try.isAgg3 rfl rfl rfl) ?_ | refine LD.rd rfl ⟨64, _, rfl, rfl, rfl⟩ (om_load 5 Try.isAgg3 rfl rfl rfl) ?_ | refine LD.rd rfl ⟨64, _, rfl, rfl, rfl⟩ (om_load 6 Try.isAgg3 rfl rfl rfl) ?_ | refine LD.rd rfl ⟨64, _, rfl, rfl, rfl⟩ (om_load 7 Try.isAgg3 rfl rfl rfl) ?_ | refine LD.rd rfl ⟨64, _, rfl, rfl, rfl⟩ (om_load 8 Try.isAgg3 rfl rfl rfl) ?_
            refine LD.callS rfl ⟨64, _, rfl, rfl, rfl⟩ (oc_call (enters_fn Try.func34 (by kernel_rfl) rfl) rfl) (fun w hm hc hg => count_spec seed n0 w (hl.ext hc)) (fun u69 m69 hs69 => ?_)
            obtain ⟨ad69, cap69, rfl⟩ := hs69.form
            refine LD.callS rfl ⟨64, _, rfl, rfl, rfl⟩ (oc_call (enters_fn Try.func35 (by kernel_rfl) rfl) rfl) (fun w hm hc hg => rcount_spec seed n0 w (hl.ext hc) (by omega)) (fun u74 m74 hs74 => ?_)
            obtain ⟨ad74, cap74, rfl⟩ := hs74.form
            refine LD.callE rfl ⟨64, _, rfl, rfl, rfl⟩ (oc_call (enters_fn Try.func33 (by kernel_rfl) rfl) rfl) (fun w hm hc hg => ints_spec w (hs69.sr fI_len (fun p hp => hm.2 p (by simp [hp]))) (hs74.sr fI_len (fun p hp => hm.2 p (by simp [hp]))) (by rw [countL_len]; omega)) ?_
            refine LD.val rfl rfl (ov_pickT rfl rfl) ?_
            refine LD.val rfl rfl (ov_move rfl) ?_
            first | refine LD.splitD (t := 77) rfl (fun h6 => ?_) (fun h6 => ?_) | refine LD.splitB (t := 77) rfl (fun h6 => ?_) (fun h6 => ?_)
            ·
              refine LD.val rfl ⟨77, _, rfl, rfl, rfl⟩ (ov_move rfl) ?_
              refine LD.val rfl ⟨77, _, rfl, rfl, rfl⟩ (ov_move rfl) ?_
              refine LD.callE rfl ⟨77, _, rfl, rfl, rfl⟩ (oc_call (enters_fn Try.func33 (by kernel_rfl) rfl) rfl) (fun w hm hc hg => ints_spec w (hs41.sr fI_len (fun p hp => hm.2 p (by simp [hp]))) (hs52.sr fI_len (fun p hp => hm.2 p (by simp [hp]))) (by have := lendL_len (bringL xs) n1 n2 n0; omega)) ?_
              refine LD.val rfl rfl (ov_pickT rfl rfl) ?_
              refine LD.val rfl rfl (ov_move rfl) ?_
              first | refine LD.splitD (t := 82) rfl (fun h7 => ?_) (fun h7 => ?_) | refine LD.splitB (t := 82) rfl (fun h7 => ?_) (fun h7 => ?_)
              ·
                refine LD.val rfl ⟨82, _, rfl, rfl, rfl⟩ (ov_move rfl) ?_
                refine LD.val rfl ⟨82, _, rfl, rfl, rfl⟩ (ov_move rfl) ?_
                refine LD.val rfl ⟨82, _, rfl, rfl, rfl⟩ (ov_eql rfl rfl) ?_
                refine LD.val rfl rfl (ov_pickT rfl rfl) ?_
                refine LD.val rfl rfl (ov_assign rfl) ?_
                refine LD.nil ?_
                refine QM.sub (e' := [(6, _)]) ⟨rfl, trivial⟩ ?_
                refine QM.then ?_
                refine wpM.ret ?_
                refine QM.leave (.inl rfl) [.tmp 6] Try.results6 rfl ?_
                intro w' hm' hc' hg'
                -- leaf 4: h1- h2- h3- h4+ h5+ h6+ h7+
                first | exact ⟨rfl, hc'⟩ | (refine ⟨?_, hc'⟩; simp [resV]; done) | (exfalso; first | omega | (simp at *; done))
              ·
                refine LD.drop rfl rfl ⟨82, _, rfl, rfl, rfl⟩ ?_
                refine LD.drop rfl rfl ⟨82, _, rfl, rfl, rfl⟩ ?_
                refine LD.drop rfl rfl ⟨82, _, rfl, rfl, rfl⟩ ?_
                refine LD.val rfl rfl (ov_pickF rfl rfl) ?_
                refine LD.val rfl rfl (ov_assign rfl) ?_
                refine LD.nil ?_
                refine QM.sub (e' := [(6, _)]) ⟨rfl, trivial⟩ ?_
                refine QM.then ?_
                refine wpM.ret ?_
                refine QM.leave (.inl rfl) [.tmp 6] Try.results6 rfl ?_
                intro w' hm' hc' hg'
                -- leaf 5: h1- h2- h3- h4+ h5+ h6+ h7-
                first | exact ⟨rfl, hc'⟩ | (refine ⟨?_, hc'⟩; simp [resV]; done) | (exfalso; first | omega | (simp at *; done))
            ·
              refine LD.drop rfl rfl ⟨77, _, rfl, rfl, rfl⟩ ?_
              refine LD.drop rfl rfl ⟨77, _, rfl, rfl, rfl⟩ ?_
              refine LD.drop rfl rfl ⟨77, _, rfl, rfl, rfl⟩ ?_
              refine LD.val rfl rfl (ov_pickF rfl rfl) ?_
              refine LD.val rfl rfl (ov_move rfl) ?_
              refine LD.drop rfl rfl ⟨82, _, rfl, rfl, rfl⟩ ?_
              refine LD.drop rfl rfl ⟨82, _, rfl, rfl, rfl⟩ ?_
              refine LD.drop rfl rfl ⟨82, _, rfl, rfl, rfl⟩ ?_
              refine LD.val rfl rfl (ov_pickF rfl rfl) ?_
              refine LD.val rfl rfl (ov_assign rfl) ?_
              refine LD.nil ?_
              refine QM.sub (e' := [(6, _)]) ⟨rfl, trivial⟩ ?_
              refine QM.then ?_
              refine wpM.ret ?_
              refine QM.leave (.inl rfl) [.tmp 6] Try.results6 rfl ?_
              intro w' hm' hc' hg'
              -- leaf 6: h1- h2- h3- h4+ h5+ h6-
              first | exact ⟨rfl, hc'⟩ | (refine ⟨?_, hc'⟩; simp [resV]; done) | (exfalso; first | omega | (simp at *; done))
          ·
            refine LD.drop rfl rfl ⟨64, _, rfl, rfl, rfl⟩ ?_
            refine LD.drop rfl rfl ⟨64, _, rfl, rfl, rfl⟩ ?_
            refine LD.drop rfl rfl ⟨64, _, rfl, rfl, rfl⟩ ?_
            refine LD.drop rfl rfl ⟨64, _, rfl, rfl, rfl⟩ ?_
            refine LD.drop rfl rfl ⟨64, _, rfl, rfl, rfl⟩ ?_
            refine LD.drop rfl rfl ⟨64, _, rfl, rfl, rfl⟩ ?_
            refine LD.drop rfl rfl ⟨64, _, rfl, rfl, rfl⟩ ?_
            refine LD.drop rfl rfl ⟨64, _, rfl, rfl, rfl⟩ ?_
            refine LD.drop rfl rfl ⟨64, _, rfl, rfl, rfl⟩ ?_
            refine LD.drop rfl rfl ⟨64, _, rfl, rfl, rfl⟩ ?_
            refine LD.drop rfl rfl ⟨64, _, rfl, rfl, rfl⟩ ?_
            refine LD.val rfl rfl (ov_pickF rfl rfl) ?_
            refine LD.val rfl rfl (ov_move rfl) ?_
            refine LD.drop rfl rfl ⟨77, _, rfl, rfl, rfl⟩ ?_
            refine LD.drop rfl rfl ⟨77, _, rfl, rfl, rfl⟩ ?_
            refine LD.drop rfl rfl ⟨77, _, rfl, rfl, rfl⟩ ?_
            refine LD.val rfl rfl (ov_pickF rfl rfl) ?_
            refine LD.val rfl rfl (ov_move rfl) ?_
            refine LD.drop rfl rfl ⟨82, _, rfl, rfl, rfl⟩ ?_
            refine LD.drop rfl rfl ⟨82, _, rfl, rfl, rfl⟩ ?_
            refine LD.drop rfl rfl ⟨82, _, rfl, rfl, rfl⟩ ?_
            refine LD.val rfl rfl (ov_pickF rfl rfl) ?_
            refine LD.val rfl rfl (ov_assign rfl) ?_
            refine LD.nil ?_
            refine QM.sub (e' := [(6, _)]) ⟨rfl, trivial⟩ ?_
            refine QM.then ?_
            refine wpM.ret ?_
            refine QM.leave (.inl rfl) [.tmp 6] Try.results6 rfl ?_
            intro w' hm' hc' hg'
            -- leaf 7: h1- h2- h3- h4+ h5-
            first | exact ⟨rfl, hc'⟩ | (refine ⟨?_, hc'⟩; simp [resV]; done) | (exfalso; first | omega | (simp at *; done))
        ·
          refine LD.drop rfl rfl ⟨58, _, rfl, rfl, rfl⟩ ?_
          refine LD.drop rfl rfl ⟨58, _, rfl, rfl, rfl⟩ ?_
          refine LD.drop rfl rfl ⟨58, _, rfl, rfl, rfl⟩ ?_
          refine LD.drop rfl rfl ⟨58, _, rfl, rfl, rfl⟩ ?_
          refine LD.val rfl rfl (ov_pickF rfl rfl) ?_
          refine LD.val rfl rfl (ov_move rfl) ?_
          refine LD.drop rfl rfl ⟨64, _, rfl, rfl, rfl⟩ ?_
          refine LD.drop rfl rfl ⟨64, _, rfl, rfl, rfl⟩ ?_
          refine LD.drop rfl rfl ⟨64, _, rfl, rfl, rfl⟩ ?_
          refine LD.drop rfl rfl ⟨64, _, rfl, rfl, rfl⟩ ?_
          refine LD.drop rfl rfl ⟨64, _, rfl, rfl, rfl⟩ ?_
          refine LD.drop rfl rfl ⟨64, _, rfl, rfl, rfl⟩ ?_
          refine LD.drop rfl rfl ⟨64, _, rfl, rfl, rfl⟩ ?_
          refine LD.drop rfl rfl ⟨64, _, rfl, rfl, rfl⟩ ?_
          refine LD.drop rfl rfl ⟨64, _, rfl, rfl, rfl⟩ ?_
          refine LD.drop rfl rfl ⟨64, _, rfl, rfl, rfl⟩ ?_
          refine LD.drop rfl rfl ⟨64, _, rfl, rfl, rfl⟩ ?_
          refine LD.val rfl rfl (ov_pickF rfl rfl) ?_
          refine LD.val rfl rfl (ov_move rfl) ?_
          refine LD.drop rfl rfl ⟨77, _, rfl, rfl, rfl⟩ ?_
          refine LD.drop rfl rfl ⟨77, _, rfl, rfl, rfl⟩ ?_
          refine LD.drop rfl rfl ⟨77, _, rfl, rfl, rfl⟩ ?_
          refine LD.val rfl rfl (ov_pickF rfl rfl) ?_
          refine LD.val rfl rfl (ov_move rfl) ?_
          refine LD.drop rfl rfl ⟨82, _, rfl, rfl, rfl⟩ ?_
          refine LD.drop rfl rfl ⟨82, _, rfl, rfl, rfl⟩ ?_
          refine LD.drop rfl rfl ⟨82, _, rfl, rfl, rfl⟩ ?_
          refine LD.val rfl rfl (ov_pickF rfl rfl) ?_
          refine LD.val rfl rfl (ov_assign rfl) ?_
          refine LD.nil ?_
          refine QM.sub (e' := [(6, _)]) ⟨rfl, trivial⟩ ?_
          refine QM.then ?_
          refine wpM.ret ?_
          refine QM.leave (.inl rfl) [.tmp 6] Try.results6 rfl ?_
          intro w' hm' hc' hg'
          -- leaf 8: h1- h2- h3- h4-
          first | exact ⟨rfl, hc'⟩ | (refine ⟨?_, hc'⟩; simp [resV]; done) | (exfalso; first | omega | (simp at *; done))

end Go.Eng

