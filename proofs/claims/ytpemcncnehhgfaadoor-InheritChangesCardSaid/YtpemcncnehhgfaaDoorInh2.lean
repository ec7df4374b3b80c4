/- The walks of the document's weights. No condition. -/
import Derived.Test.YtpemcncnehhgfaaDoorInh
set_option linter.unusedVariables false
set_option linter.unusedSimpArgs false
namespace Go.Eng
open Go Go.Proofs Go.RowKit

theorem wt_in {own : List Int} {i : Nat} (h : i < min own.length 64) : min (max (own.getD i 0) 0) 16 = wt own i := by unfold wt; rw [if_pos h]
theorem bring_wt {own : List Int} {i : Nat} (h : i < min own.length 64) (w : World) : Ret Tryd.prog 63 #[.int .i64 (own.getD i 0), .int .i64 0, .int .i64 16] w (fun v w' => v = .int .i64 (wt own i) ∧ Ext w w') := wt_in h ▸ bring15 _ 0 16 w (by omega)
theorem ofW_min {own : List Int} {G : Gr} {i : Nat} : wt own i + sumN own (bhdG G (i : Nat)) (min own.length 64) = ofW own G i := by unfold ofW; rw [← sumN_top own _ 64 (by omega)]
theorem sumN_yes {own : List Int} {B : BitVec 64} {k : Nat} (h : hasB B (k : Nat) = true) : sumN own B (k + 1) = sumN own B k + wt own k := by rw [sumN, if_pos h]
theorem sumN_no {own : List Int} {B : BitVec 64} {k : Nat} (h : hasB B (k : Nat) = false) : sumN own B (k + 1) = sumN own B k := by rw [sumN, if_neg (by rw [h]; simp)]; omega
set_option maxRecDepth 100000 in
theorem reff_spec {own : List Int} {ad : Option Addr} {n cap n0 : Nat} {G : Gr} {adg : Option Addr} {ng capg : Nat} {mg : Mem0} (br : Nat) (w : World) (hG : G.length = 64) (hA : Acy G) (hng : ng = 64) (hsg : Sl fU 23 1 n0 G (.slice adg ng capg) mg) (hn : n = own.length) (hl : Sr fI 1 own (.slice ad n cap) w) (hx : own.length ≤ 1000000000000) (hM : Mem w (rB br adg ng capg :: (mg ++ []))) : Ret Tryd.prog 40 #[.slice ad n cap, .pointer (some ⟨br, 0, none⟩)] w (New fI 3 1 (effW own G) w) := by
  refine Ret.enterM (l := [.slice ad n cap, .pointer (some ⟨br, 0, none⟩)]) Tryd.func40 rfl Tryd.ntmps40 rfl (rB br adg ng capg :: (mg ++ [])) (no) hM ?_
  refine wpM.seq ?_
  refine wpM.region ?_
  refine LM.val (ov_assign rfl) ?_
  refine LM.nil ?_
  refine QM.sub (e' := [(0, _), (1, _)]) ⟨rfl, rfl, trivial⟩ ?_
  refine QM.then ?_
  refine wpM.seq ?_
  refine wpM.region ?_
  refine LM.val (ov_assign rfl) ?_
  refine LM.nil ?_
  refine QM.sub (e' := [(0, _), (1, _), (5, _)]) ⟨rfl, rfl, rfl, trivial⟩ ?_
  refine QM.then ?_
  refine wpM.seq ?_
  refine wpM.seq ?_
  refine wpM.region ?_
  refine LM.val (ov_assign rfl) ?_
  refine LM.nil ?_
  refine QM.sub (e' := [(0, _), (1, _), (5, _), (6, _)]) ⟨rfl, rfl, rfl, rfl, trivial⟩ ?_
  refine QM.then ?_
  refine wpM.block ?_
  refine wpM.loopK0 (α := Nat × Option Addr × Nat × Nat × Mem0) (fun ⟨i, ado, no, capo, mo⟩ => [(5, .slice ado no capo), (6, .int .i64 (i : Nat))]) [(0, _), (1, _)] (fun ⟨i, ado, no, capo, mo⟩ => mo ++ (rB br adg ng capg :: (mg ++ []))) (fun ⟨i, ado, no, capo, mo⟩ => i ≤ min own.length 64 ∧ no = i ∧ Sl fI 3 1 w.heap.size (effN own G i) (.slice ado no capo) mo) (fun ⟨i, ado, no, capo, mo⟩ => min own.length 64 - i) ((0, none, 0, 0, [])) ⟨(by first | rfl | exact lk rfl (by congr 1; omega) | exact lk rfl (by simp)), (by first | rfl | exact lk rfl (by congr 1; omega) | exact lk rfl (by simp)), rfl, rfl, trivial⟩ (by (repeat' (first | exact SubM.nil _ | refine SubM.cons rfl ?_ | refine SubM.app ?_))) ⟨Nat.zero_le _, rfl, .nil _ _ _ _⟩ ?_
  rintro ⟨i, ado, no, capo, mo⟩ ⟨hi, hno, hso⟩
  change wpM _ _ _ _ _ _ _ (mo ++ (rB br adg ng capg :: (mg ++ []))) _ _ _
  have hel := effN_len own G i
  refine wpM.seq ?_
  refine wpM.seq ?_
  refine wpM.region ?_
  refine LM.val (ov_move rfl) ?_
  refine LM.val (ov_move rfl) ?_
  refine LM.val (ov_len Tryd.underlying22 rfl) ?_
  refine LM.val (ov_lss rfl rfl) ?_
  refine LM.val (ov_move rfl) ?_
  first | refine LM.splitD (t := 14) rfl (fun h1 => ?_) (fun h1 => ?_) | refine LM.splitB (t := 14) rfl (fun h1 => ?_) (fun h1 => ?_)
  ·
    refine LM.strip (t := 14) rfl rfl rfl ?_
    refine LM.val (ov_move rfl) ?_
    refine LM.strip (t := 14) rfl rfl rfl ?_
    refine LM.val (ov_lss rfl rfl) ?_
    refine LM.val (ov_pickT rfl rfl) ?_
    refine LM.nil ?_
    refine QM.sub (e' := [(0, _), (1, _), (5, _), (6, _), (17, _)]) ⟨rfl, rfl, rfl, rfl, rfl, trivial⟩ ?_
    refine QM.then ?_
    first | refine wpM.condD rfl (fun h2 => ?_) (fun h2 => ?_) | refine wpM.condB rfl (fun h2 => ?_) (fun h2 => ?_)
    ·
      refine wpM.skip ?_
      refine QM.then ?_
      refine wpM.seq ?_
      refine wpM.block ?_
      refine wpM.seq ?_
      refine wpM.region ?_
      refine LM.val (ov_move rfl) ?_
      refine LM.val (ov_move rfl) ?_
      first | refine LM.val (ov_idxSN (by first | exact Sr.spt (by assumption) | exact Sl.spt (by assumption)) Tryd.underlying22 Tryd.sizeOf3 rfl rfl (by omega)) ?_ | refine LM.val (ov_idxS (by first | exact Sr.spt (by assumption) | exact Sl.spt (by assumption)) Tryd.underlying22 Tryd.sizeOf3 rfl rfl (by omega)) ?_ | refine LM.val (ov_idx1 Tryd.underlying22 Tryd.sizeOf3 rfl rfl (by omega)) ?_
      first | refine LM.rd (om_sl1 (by assumption) (by intro _; rfl) Tryd.isAgg3 rfl rfl (by exact getq 0 (by first | omega | (simp only [List.length_set, List.length_append, List.length_cons, List.length_nil]; omega))) (by rfl)) ?_ | refine LM.rdC (om_sr1 (by assumption) Tryd.isAgg3 rfl rfl (by exact getq 0 (by first | omega | (simp only [List.length_set, List.length_append, List.length_cons, List.length_nil]; omega))) (by rfl) id) ?_ | refine LM.rd (om_ld Tryd.isAgg3 rfl rfl) ?_
      refine LM.callE (oc_call (enters_fn Tryd.func63 (by kernel_rfl) rfl) rfl) (fun w hm hc hg => bring_wt (by omega) w) ?_
      refine LM.val (ov_assign rfl) ?_
      refine LM.nil ?_
      refine QM.sub (e' := [(0, _), (1, _), (5, _), (6, _), (7, _)]) ⟨rfl, rfl, rfl, rfl, rfl, trivial⟩ ?_
      refine QM.then ?_
      refine wpM.seq ?_
      refine wpM.region ?_
      refine LM.val (ov_move rfl) ?_
      refine LM.val (ov_move rfl) ?_
      refine LM.callE (oc_call (enters_fn Tryd.func50 (by kernel_rfl) rfl) rfl) (fun w hm hc hg => rbehind_spec br _ w hG hng hsg (SubM.mem (by (repeat' (first | exact SubM.nil _ | refine SubM.cons rfl ?_ | refine SubM.app ?_))) w hm)) ?_
      refine LM.val (ov_assign rfl) ?_
      refine LM.nil ?_
      refine QM.sub (e' := [(0, _), (1, _), (5, _), (6, _), (7, _), (8, _)]) ⟨rfl, rfl, rfl, rfl, rfl, rfl, trivial⟩ ?_
      refine QM.then ?_
      refine wpM.seq ?_
      refine wpM.seq ?_
      refine wpM.region ?_
      refine LM.val (ov_assign rfl) ?_
      refine LM.nil ?_
      refine QM.sub (e' := [(0, _), (1, _), (5, _), (6, _), (7, _), (8, _), (9, _)]) ⟨rfl, rfl, rfl, rfl, rfl, rfl, rfl, trivial⟩ ?_
      refine QM.then ?_
      refine wpM.block ?_
      refine wpM.loopK0 (α := Nat) (fun k => [(7, .int .i64 (wt own i + sumN own (bhdG G (i : Nat)) k)), (9, .int .i64 (k : Nat))]) [(0, _), (1, _), (5, _), (6, _), (8, _)] (fun k => mo ++ (rB br adg ng capg :: (mg ++ []))) (fun k => k ≤ min own.length 64) (fun k => min own.length 64 - k) (0) ⟨(by first | rfl | exact lk rfl (by simp only [sumN]; congr 1; omega) | exact lk rfl (by rw [sumN_yes (by assumption), Int.add_assoc]) | exact lk rfl (by rw [sumN_no (by assumption)])), (by first | rfl | exact lk rfl (by congr 1; omega) | exact lk rfl (by simp)), rfl, rfl, rfl, rfl, rfl, trivial⟩ (by (repeat' (first | exact SubM.nil _ | refine SubM.cons rfl ?_ | refine SubM.app ?_))) (Nat.zero_le _) ?_
      rintro k hk
      change wpM _ _ _ _ _ _ _ (mo ++ (rB br adg ng capg :: (mg ++ []))) _ _ _
      have hw1 := wt_rng own i; have hw2 := sumN_rng own (bhdG G (i : Nat)) k; have hw3 := wt_rng own k
      refine wpM.seq ?_
      refine wpM.seq ?_
      refine wpM.region ?_
      refine LM.val (ov_move rfl) ?_
      refine LM.val (ov_move rfl) ?_
      refine LM.val (ov_len Tryd.underlying22 rfl) ?_
      refine LM.val (ov_lss rfl rfl) ?_
      refine LM.val (ov_move rfl) ?_
      first | refine LM.splitD (t := 32) rfl (fun h3 => ?_) (fun h3 => ?_) | refine LM.splitB (t := 32) rfl (fun h3 => ?_) (fun h3 => ?_)
      ·
        refine LM.strip (t := 32) rfl rfl rfl ?_
        refine LM.val (ov_move rfl) ?_
        refine LM.strip (t := 32) rfl rfl rfl ?_
        refine LM.val (ov_lss rfl rfl) ?_
        refine LM.val (ov_pickT rfl rfl) ?_
        refine LM.nil ?_
        refine QM.sub (e' := [(0, _), (1, _), (5, _), (6, _), (7, _), (8, _), (9, _), (35, _)]) ⟨rfl, rfl, rfl, rfl, rfl, rfl, rfl, rfl, trivial⟩ ?_
        refine QM.then ?_
        first | refine wpM.condD rfl (fun h4 => ?_) (fun h4 => ?_) | refine wpM.condB rfl (fun h4 => ?_) (fun h4 => ?_)
        ·
          refine wpM.skip ?_
          refine QM.then ?_
          refine wpM.seq ?_
          refine wpM.block ?_
          refine wpM.seq ?_
          refine wpM.region ?_
          refine LM.val (ov_move rfl) ?_
          refine LM.val (ov_move rfl) ?_
          refine LM.callE (oc_call (enters_fn Tryd.func20 (by kernel_rfl) rfl) rfl) (fun w hm hc hg => rhas_spec _ _ w) ?_
          refine LM.val (ov_move rfl) ?_
          first | refine LM.splitD (t := 41) rfl (fun h5 => ?_) (fun h5 => ?_) | refine LM.splitB (t := 41) rfl (fun h5 => ?_) (fun h5 => ?_)
          ·
            refine LM.strip (t := 41) rfl rfl rfl ?_
            refine LM.val (ov_move rfl) ?_
            refine LM.strip (t := 41) rfl rfl rfl ?_
            refine LM.val (ov_move rfl) ?_
            refine LM.strip (t := 41) rfl rfl rfl ?_
            refine LM.val (ov_neq rfl rfl) ?_
            refine LM.val (ov_pickT rfl rfl) ?_
            refine LM.nil ?_
            refine QM.sub (e' := [(0, _), (1, _), (5, _), (6, _), (7, _), (8, _), (9, _), (45, _)]) ⟨rfl, rfl, rfl, rfl, rfl, rfl, rfl, rfl, trivial⟩ ?_
            refine QM.then ?_
            first | refine wpM.condD rfl (fun h6 => ?_) (fun h6 => ?_) | refine wpM.condB rfl (fun h6 => ?_) (fun h6 => ?_)
            ·
              refine wpM.region ?_
              refine LM.val (ov_move rfl) ?_
              refine LM.val (ov_move rfl) ?_
              refine LM.val (ov_move rfl) ?_
              first | refine LM.val (ov_idxSN (by first | exact Sr.spt (by assumption) | exact Sl.spt (by assumption)) Tryd.underlying22 Tryd.sizeOf3 rfl rfl (by omega)) ?_ | refine LM.val (ov_idxS (by first | exact Sr.spt (by assumption) | exact Sl.spt (by assumption)) Tryd.underlying22 Tryd.sizeOf3 rfl rfl (by omega)) ?_ | refine LM.val (ov_idx1 Tryd.underlying22 Tryd.sizeOf3 rfl rfl (by omega)) ?_
              first | refine LM.rd (om_sl1 (by assumption) (by intro _; rfl) Tryd.isAgg3 rfl rfl (by exact getq 0 (by first | omega | (simp only [List.length_set, List.length_append, List.length_cons, List.length_nil]; omega))) (by rfl)) ?_ | refine LM.rdC (om_sr1 (by assumption) Tryd.isAgg3 rfl rfl (by exact getq 0 (by first | omega | (simp only [List.length_set, List.length_append, List.length_cons, List.length_nil]; omega))) (by rfl) id) ?_ | refine LM.rd (om_ld Tryd.isAgg3 rfl rfl) ?_
              refine LM.callE (oc_call (enters_fn Tryd.func63 (by kernel_rfl) rfl) rfl) (fun w hm hc hg => bring_wt (by omega) w) ?_
              refine LM.val (ov_add64 rfl rfl (by omega)) ?_
              refine LM.val (ov_assign rfl) ?_
              refine LM.nil ?_
              refine QM.sub (e' := [(0, _), (1, _), (5, _), (6, _), (7, _), (8, _), (9, _)]) ⟨rfl, rfl, rfl, rfl, rfl, rfl, rfl, trivial⟩ ?_
              refine QM.block_normal ?_
              refine QM.then ?_
              refine wpM.region ?_
              refine LM.val (ov_move rfl) ?_
              refine LM.val (ov_add64 rfl rfl (by omega)) ?_
              refine LM.val (ov_assign rfl) ?_
              refine LM.nil ?_
              refine QM.sub (e' := [(0, _), (1, _), (5, _), (6, _), (7, _), (8, _), (9, _)]) ⟨rfl, rfl, rfl, rfl, rfl, rfl, rfl, trivial⟩ ?_
              -- again1: h1+ h2+ h3+ h4+ h5+ h6+
              refine QM.againK (k + 1) ⟨(by first | rfl | exact lk rfl (by simp only [sumN]; congr 1; omega) | exact lk rfl (by rw [sumN_yes (by assumption), Int.add_assoc]) | exact lk rfl (by rw [sumN_no (by assumption)])), (by first | rfl | exact lk rfl (by congr 1; omega) | exact lk rfl (by simp)), rfl, rfl, rfl, rfl, rfl, trivial⟩ (by (repeat' (first | exact SubM.nil _ | refine SubM.cons rfl ?_ | refine SubM.app ?_))) (fun _ h => h) ?_ ?_
              · omega
              · first | omega | (dsimp only; omega)
            ·
              have e : k = i := (by omega); subst e; rw [bhd_self hA (by omega)] at h5; cases h5
          ·
            refine LM.drop (t := 41) rfl rfl rfl ?_
            refine LM.drop (t := 41) rfl rfl rfl ?_
            refine LM.drop (t := 41) rfl rfl rfl ?_
            refine LM.val (ov_pickF rfl rfl) ?_
            refine LM.nil ?_
            refine QM.sub (e' := [(0, _), (1, _), (5, _), (6, _), (7, _), (8, _), (9, _), (45, _)]) ⟨rfl, rfl, rfl, rfl, rfl, rfl, rfl, rfl, trivial⟩ ?_
            refine QM.then ?_
            refine wpM.condF rfl ?_
            refine wpM.skip ?_
            refine QM.block_normal ?_
            refine QM.then ?_
            refine wpM.region ?_
            refine LM.val (ov_move rfl) ?_
            refine LM.val (ov_add64 rfl rfl (by omega)) ?_
            refine LM.val (ov_assign rfl) ?_
            refine LM.nil ?_
            refine QM.sub (e' := [(0, _), (1, _), (5, _), (6, _), (7, _), (8, _), (9, _)]) ⟨rfl, rfl, rfl, rfl, rfl, rfl, rfl, trivial⟩ ?_
            -- again2: h1+ h2+ h3+ h4+ h5-
            refine QM.againK (k + 1) ⟨(by first | rfl | exact lk rfl (by simp only [sumN]; congr 1; omega) | exact lk rfl (by rw [sumN_yes (by assumption), Int.add_assoc]) | exact lk rfl (by rw [sumN_no (by assumption)])), (by first | rfl | exact lk rfl (by congr 1; omega) | exact lk rfl (by simp)), rfl, rfl, rfl, rfl, rfl, trivial⟩ (by (repeat' (first | exact SubM.nil _ | refine SubM.cons rfl ?_ | refine SubM.app ?_))) (fun _ h => h) ?_ ?_
            · omega
            · first | omega | (dsimp only; omega)
        ·
          have hkm : k = min own.length 64 := (by omega); have hsum : wt own i + sumN own (bhdG G (i : Nat)) k = ofW own G i := (by rw [hkm]; exact ofW_min)
          refine wpM.exit ?_
          refine QM.then_exit ?_
          refine QM.then_exit ?_
          refine QM.block_hit ?_
          refine QM.then ?_
          refine wpM.region ?_
          refine LM.val (ov_move rfl) ?_
          refine LM.val (ov_move rfl) ?_
          refine LM.single Tryd.underlying22 Tryd.sizeOf3 Tryd.zeroValue3 rfl rfl rfl rfl rfl (fun b55 hb55 => ?_)
          refine LM.app Tryd.underlying22 Tryd.typeInfo3 rfl rfl rfl rfl rfl rfl rfl (by assumption) (by rfl) (by intro _; rfl) (by intro _ u hu; simp [fI] at hu; (repeat (first | (rcases hu with rfl | hu) | subst hu | rfl))) (by first | exact Nat.le_refl _ | omega) (fun p hp hlt => absurd hlt (Nat.not_lt_of_le (Sl.ge (by assumption) p hp))) (by first | omega | (unfold maxLen; omega)) (by simp only [Tryd.t3]; omega) (fun ad56 n56 cap56 m56 hn56 hs56 hin56 => ?_)
          refine LM.val (ov_assign rfl) ?_
          refine LM.nil ?_
          refine QM.sub (e' := [(0, _), (1, _), (5, _), (6, _)]) ⟨rfl, rfl, rfl, rfl, trivial⟩ ?_
          refine QM.block_normal ?_
          refine QM.then ?_
          refine wpM.region ?_
          refine LM.val (ov_move rfl) ?_
          refine LM.val (ov_add64 rfl rfl (by omega)) ?_
          refine LM.val (ov_assign rfl) ?_
          refine LM.nil ?_
          refine QM.sub (e' := [(0, _), (1, _), (5, _), (6, _)]) ⟨rfl, rfl, rfl, rfl, trivial⟩ ?_
          -- again1: h1+ h2+ h3+ h4-
          refine QM.againK (i + 1, ad56, n56, cap56, m56) ⟨(by first | rfl | exact lk rfl (by congr 1; omega) | exact lk rfl (by simp)), (by first | rfl | exact lk rfl (by congr 1; omega) | exact lk rfl (by simp)), rfl, rfl, trivial⟩ (by (repeat' (first | exact SubM.nil _ | refine SubM.cons rfl ?_ | refine SubM.app ?_))) (fun _ h => h) ?_ ?_
          · exact ⟨by omega, by omega, by rw [effN_succ, ← hsum]; exact hs56⟩
          · first | omega | (dsimp only; omega)
      ·
        have hkm : k = min own.length 64 := (by omega); have hsum : wt own i + sumN own (bhdG G (i : Nat)) k = ofW own G i := (by rw [hkm]; exact ofW_min)
        refine LM.drop (t := 32) rfl rfl rfl ?_
        refine LM.drop (t := 32) rfl rfl rfl ?_
        refine LM.val (ov_pickF rfl rfl) ?_
        refine LM.nil ?_
        refine QM.sub (e' := [(0, _), (1, _), (5, _), (6, _), (7, _), (8, _), (9, _), (35, _)]) ⟨rfl, rfl, rfl, rfl, rfl, rfl, rfl, rfl, trivial⟩ ?_
        refine QM.then ?_
        refine wpM.condF rfl ?_
        refine wpM.exit ?_
        refine QM.then_exit ?_
        refine QM.then_exit ?_
        refine QM.block_hit ?_
        refine QM.then ?_
        refine wpM.region ?_
        refine LM.val (ov_move rfl) ?_
        refine LM.val (ov_move rfl) ?_
        refine LM.single Tryd.underlying22 Tryd.sizeOf3 Tryd.zeroValue3 rfl rfl rfl rfl rfl (fun b55 hb55 => ?_)
        refine LM.app Tryd.underlying22 Tryd.typeInfo3 rfl rfl rfl rfl rfl rfl rfl (by assumption) (by rfl) (by intro _; rfl) (by intro _ u hu; simp [fI] at hu; (repeat (first | (rcases hu with rfl | hu) | subst hu | rfl))) (by first | exact Nat.le_refl _ | omega) (fun p hp hlt => absurd hlt (Nat.not_lt_of_le (Sl.ge (by assumption) p hp))) (by first | omega | (unfold maxLen; omega)) (by simp only [Tryd.t3]; omega) (fun ad56 n56 cap56 m56 hn56 hs56 hin56 => ?_)
        refine LM.val (ov_assign rfl) ?_
        refine LM.nil ?_
        refine QM.sub (e' := [(0, _), (1, _), (5, _), (6, _)]) ⟨rfl, rfl, rfl, rfl, trivial⟩ ?_
        refine QM.block_normal ?_
        refine QM.then ?_
        refine wpM.region ?_
        refine LM.val (ov_move rfl) ?_
        refine LM.val (ov_add64 rfl rfl (by omega)) ?_
        refine LM.val (ov_assign rfl) ?_
        refine LM.nil ?_
        refine QM.sub (e' := [(0, _), (1, _), (5, _), (6, _)]) ⟨rfl, rfl, rfl, rfl, trivial⟩ ?_
        -- again2: h1+ h2+ h3-
        refine QM.againK (i + 1, ad56, n56, cap56, m56) ⟨(by first | rfl | exact lk rfl (by congr 1; omega) | exact lk rfl (by simp)), (by first | rfl | exact lk rfl (by congr 1; omega) | exact lk rfl (by simp)), rfl, rfl, trivial⟩ (by (repeat' (first | exact SubM.nil _ | refine SubM.cons rfl ?_ | refine SubM.app ?_))) (fun _ h => h) ?_ ?_
        · exact ⟨by omega, by omega, by rw [effN_succ, ← hsum]; exact hs56⟩
        · first | omega | (dsimp only; omega)
    ·
      refine wpM.exit ?_
      refine QM.then_exit ?_
      refine QM.then_exit ?_
      refine QM.block_hit ?_
      refine QM.then ?_
      refine wpM.seq ?_
      refine wpM.region ?_
      refine LM.val (ov_move rfl) ?_
      refine LM.val (ov_assign rfl) ?_
      refine LM.nil ?_
      refine QM.sub (e' := [(4, _)]) ⟨rfl, trivial⟩ ?_
      refine QM.then ?_
      refine wpM.ret ?_
      refine QM.leave (.inl rfl) [.tmp 4] Tryd.results40 rfl ?_
      intro w' hm' hc' hg'
      -- leaf 1: h1+ h2-
      have him : i = min own.length 64 := (by omega); subst him; exact ⟨hc', mo, hso, hm'.pick mo⟩
  ·
    refine LM.drop (t := 14) rfl rfl rfl ?_
    refine LM.drop (t := 14) rfl rfl rfl ?_
    refine LM.val (ov_pickF rfl rfl) ?_
    refine LM.nil ?_
    refine QM.sub (e' := [(0, _), (1, _), (5, _), (6, _), (17, _)]) ⟨rfl, rfl, rfl, rfl, rfl, trivial⟩ ?_
    refine QM.then ?_
    refine wpM.condF rfl ?_
    refine wpM.exit ?_
    refine QM.then_exit ?_
    refine QM.then_exit ?_
    refine QM.block_hit ?_
    refine QM.then ?_
    refine wpM.seq ?_
    refine wpM.region ?_
    refine LM.val (ov_move rfl) ?_
    refine LM.val (ov_assign rfl) ?_
    refine LM.nil ?_
    refine QM.sub (e' := [(4, _)]) ⟨rfl, trivial⟩ ?_
    refine QM.then ?_
    refine wpM.ret ?_
    refine QM.leave (.inl rfl) [.tmp 4] Tryd.results40 rfl ?_
    intro w' hm' hc' hg'
    -- leaf 2: h1-
    have him : i = min own.length 64 := (by omega); subst him; exact ⟨hc', mo, hso, hm'.pick mo⟩

structure Dw where
  who : Int
  set : BitVec 64
deriving Inhabited
def fDw (d : Dw) : List Value := [.int .i64 d.who, U d.set]
def wAll (l : List Dw) : Gr := l.foldl (fun G d => wtG G d.who d.set) zeroG
theorem wAll_inv (l : List Dw) : (wAll l).length = 64 ∧ Acy (wAll l) := by
  have : ∀ (l : List Dw) (G : Gr), G.length = 64 → Acy G → (l.foldl (fun G d => wtG G d.who d.set) G).length = 64 ∧ Acy (l.foldl (fun G d => wtG G d.who d.set) G) := by
    intro l
    induction l with
    | nil => intro G h1 h2; exact ⟨h1, h2⟩
    | cons d l ih => intro G h1 h2; exact ih _ (wtG_len h1 _ _) (wtG_acy h1 h2 _ _)
  exact this l _ zeroG_len acy_zero
def BothT (n0 : Nat) (v : Value) (mm : Mem0) : Prop := ∃ G b br ad n cap m, v = .tuple #[.pointer (some ⟨b, 0, none⟩), .pointer (some ⟨br, 0, none⟩)] ∧ mm = gB b G :: rB br ad n cap :: m ∧ n0 ≤ b ∧ n0 ≤ br ∧ n = 64 ∧ Sl fU 23 1 n0 G (.slice ad n cap) m ∧ G.length = 64 ∧ Acy G
theorem BothT.mono : ∀ (k k' : Nat) u m, k' ≤ k → BothT k u m → BothT k' u m := fun k k' u m h ⟨G, b, br, ad, n, cap, m', h1, h2, h3, h4, h5, h6, h7⟩ => ⟨G, b, br, ad, n, cap, m', h1, h2, by omega, by omega, h5, h6.mono h, h7⟩
set_option maxRecDepth 100000 in
theorem both_spec {l : List Dw} {ad : Option Addr} {n cap : Nat} (w : World) (hT : Tab w) (hn : n = l.length) (hl : Sr fDw 2 l (.slice ad n cap) w) (hx : l.length ≤ 1000000000000) : Ret Tryd.prog 34 #[.slice ad n cap] w (fun v w' => Ext w w' ∧ ∃ m, BothT w.heap.size v m ∧ Mem w' m ∧ ∀ p ∈ m, w.heap.size ≤ p.1) := by
  have hpos := hT.pos
  refine Ret.enterM (l := [.slice ad n cap]) Tryd.func34 rfl Tryd.ntmps34 rfl ([]) (no) (Mem.nil w) ?_
  refine wpM.seq ?_
  refine wpM.region ?_
  refine LM.val (ov_assign rfl) ?_
  refine LM.val (ov_assign rfl) ?_
  refine LM.nil ?_
  refine QM.sub (e' := [(0, _)]) ⟨rfl, trivial⟩ ?_
  refine QM.then ?_
  refine wpM.seq ?_
  refine wpM.region ?_
  refine LM.callT (oc_call (enters_fn Tryd.func27 (by kernel_rfl) rfl) rfl) NewGT.mono (fun w hm hc hg => gnew_spec w) ?_
  rintro u17 m17 ⟨bg, rfl, rfl, hbg⟩ -
  refine LM.callT (oc_call (enters_fn Tryd.func44 (by kernel_rfl) rfl) rfl) NewRT.mono (fun w hm hc hg => rnew_spec w) ?_
  rintro u18 m18 ⟨br, adg, ng, capg, mg, rfl, rfl, hbr, hng, hsg⟩ -
  refine LM.val (ov_assign rfl) ?_
  refine LM.val (ov_assign rfl) ?_
  refine LM.nil ?_
  refine QM.sub (e' := [(0, _), (4, _), (5, _)]) ⟨rfl, rfl, rfl, trivial⟩ ?_
  refine QM.then ?_
  refine wpM.seq ?_
  refine wpM.seq ?_
  refine wpM.region ?_
  refine LM.val (ov_move rfl) ?_
  refine LM.val (ov_len Tryd.underlying48 rfl) ?_
  refine LM.val (ov_move rfl) ?_
  refine LM.nil ?_
  refine QM.sub (e' := [(4, _), (5, _), (10, _), (11, _), (12, _)]) ⟨rfl, rfl, rfl, rfl, rfl, trivial⟩ ?_
  refine QM.then ?_
  refine wpM.block ?_
  refine wpM.loopK0 (α := Nat × Gr × Mem0) (fun ⟨i, G, m⟩ => [(12, .int .i64 (i : Nat))]) [(4, _), (5, _), (10, _), (11, _)] (fun ⟨i, G, m⟩ => gB bg G :: rB br adg ng capg :: (m ++ [])) (fun ⟨i, G, m⟩ => i ≤ l.length ∧ G.length = 64 ∧ Acy G ∧ Sl fU 23 1 w.heap.size G (.slice adg ng capg) m) (fun ⟨i, G, m⟩ => l.length - i) ((0, zeroG, mg)) ⟨(by first | rfl | exact lk rfl (by congr 1; omega) | exact lk rfl (by simp)), rfl, rfl, rfl, rfl, trivial⟩ (by (repeat' (first | exact SubM.nil _ | refine SubM.cons rfl ?_ | refine SubM.app ?_))) ⟨Nat.zero_le _, zeroG_len, acy_zero, hsg⟩ ?_
  rintro ⟨i, G, m⟩ ⟨hi, hlen, hA, hsl⟩
  change wpM _ _ _ _ _ _ _ (gB bg G :: rB br adg ng capg :: (m ++ [])) _ _ _
  refine wpM.seq ?_
  refine wpM.region ?_
  refine LM.val (ov_lss rfl rfl) ?_
  refine LM.nil ?_
  refine QM.sub (e' := [(4, _), (5, _), (10, _), (11, _), (12, _), (13, _)]) ⟨rfl, rfl, rfl, rfl, rfl, rfl, trivial⟩ ?_
  refine QM.then ?_
  refine wpM.seq ?_
  first | refine wpM.condD rfl (fun h1 => ?_) (fun h1 => ?_) | refine wpM.condB rfl (fun h1 => ?_) (fun h1 => ?_)
  ·
    refine wpM.skip ?_
    refine QM.then ?_
    refine wpM.seq ?_
    refine wpM.block ?_
    refine wpM.seq ?_
    refine wpM.region ?_
    first | refine LM.val (ov_idxSN (by first | exact Sr.spt (by assumption) | exact Sl.spt (by assumption)) Tryd.underlying48 Tryd.sizeOf62 rfl rfl (by omega)) ?_ | refine LM.val (ov_idxS (by first | exact Sr.spt (by assumption) | exact Sl.spt (by assumption)) Tryd.underlying48 Tryd.sizeOf62 rfl rfl (by omega)) ?_ | refine LM.val (ov_idx Tryd.underlying48 Tryd.sizeOf62 rfl rfl (by omega)) ?_
    first | refine LM.rd (om_slA (by assumption) (by intro _; rfl) Tryd.isAgg62 Tryd.sizeOf62 rfl (by exact getq default (by first | omega | (simp only [List.length_set, List.length_append, List.length_cons, List.length_nil]; omega)))) ?_ | refine LM.rdC (om_srEA (by assumption) (by intro _; rfl) Tryd.isAgg62 Tryd.sizeOf62 rfl (by exact getq default (by first | omega | (simp only [List.length_set, List.length_append, List.length_cons, List.length_nil]; omega))) id) ?_ | refine LM.rd (om_ldW Tryd.isAgg62 Tryd.sizeOf62 rfl rfl) ?_ | refine LM.rd (om_ldA Tryd.isAgg62 Tryd.sizeOf62 rfl (vs := [_, _]) rfl ⟨rfl, rfl, trivial⟩) ?_
    refine LM.alloc Tryd.zeroValue62 rfl (fun b7 hb7 => ?_)
    first | refine LM.stW Tryd.sizeOf62 rfl rfl rfl rfl (by first | rfl | decide | (simp; done)) (fun hlt => absurd hlt (by omega)) ?_ | refine LM.st Tryd.sizeOf62 rfl rfl rfl (by first | decide | exact Nat.le_of_ble_eq_true rfl | (simp; done) | (simp; omega)) rfl (fun hlt => absurd hlt (by omega)) ?_
    refine LM.nil ?_
    refine QM.sub (e' := [(4, _), (5, _), (7, _), (10, _), (11, _), (12, _)]) ⟨rfl, rfl, rfl, rfl, rfl, rfl, trivial⟩ ?_
    refine QM.then ?_
    refine wpM.seq ?_
    refine wpM.region ?_
    refine LM.val (ov_move rfl) ?_
    refine LM.val (ov_field Tryd.underlying62 rfl Tryd.sizeOf3 rfl (k := 0) rfl rfl) ?_
    first | refine LM.rd (om_ld Tryd.isAgg3 rfl rfl) ?_
    refine LM.val (ov_field Tryd.underlying62 rfl Tryd.sizeOf23 rfl (k := 1) rfl rfl) ?_
    first | refine LM.rd (om_ld Tryd.isAgg23 rfl rfl) ?_
    refine LM.cW (oc_call (enters_fn Tryd.func28 (by kernel_rfl) rfl) rfl) (fun w hm hc hg => wait_spec bg G _ _ w hlen (hT.ext hc) (by omega) (hm.pick _)) rfl (fun hlt => absurd hlt (by omega)) ?_
    refine LM.nil ?_
    refine QM.sub (e' := [(4, _), (5, _), (7, _), (10, _), (11, _), (12, _)]) ⟨rfl, rfl, rfl, rfl, rfl, rfl, trivial⟩ ?_
    refine QM.then ?_
    refine wpM.region ?_
    refine LM.val (ov_move rfl) ?_
    refine LM.val (ov_field Tryd.underlying62 rfl Tryd.sizeOf3 rfl (k := 0) rfl rfl) ?_
    first | refine LM.rd (om_ld Tryd.isAgg3 rfl rfl) ?_
    refine LM.val (ov_field Tryd.underlying62 rfl Tryd.sizeOf23 rfl (k := 1) rfl rfl) ?_
    first | refine LM.rd (om_ld Tryd.isAgg23 rfl rfl) ?_
    refine LM.cU (oc_call (enters_fn Tryd.func43 (by kernel_rfl) rfl) rfl) (fun w hm hc hg => rwait_spec br _ _ w hlen hng hsl (SubM.mem (by (repeat' (first | exact SubM.nil _ | refine SubM.cons rfl ?_ | refine SubM.app ?_))) w hm)) hsl.wlk (fun p hp hlt => absurd hlt (Nat.not_lt_of_le (hsl.ge p hp))) ?_
    rintro u27 m27 ⟨rfl, hs27⟩ hin27
    refine LM.nil ?_
    refine QM.sub (e' := [(4, _), (5, _), (10, _), (11, _), (12, _)]) ⟨rfl, rfl, rfl, rfl, rfl, trivial⟩ ?_
    refine QM.block_normal ?_
    refine QM.then ?_
    refine wpM.region ?_
    refine LM.val (ov_add64 rfl rfl (by omega)) ?_
    refine LM.val (ov_move rfl) ?_
    refine LM.nil ?_
    refine QM.sub (e' := [(4, _), (5, _), (10, _), (11, _), (12, _)]) ⟨rfl, rfl, rfl, rfl, rfl, trivial⟩ ?_
    -- again1: h1+
    refine QM.againK (i + 1, wtG G (l.getD i default).who (l.getD i default).set, m27) ⟨(by first | rfl | exact lk rfl (by congr 1; omega) | exact lk rfl (by simp)), rfl, rfl, rfl, rfl, trivial⟩ (by (repeat' (first | exact SubM.nil _ | refine SubM.cons rfl ?_ | refine SubM.app ?_))) (fun _ h => h) ?_ ?_
    · exact ⟨by omega, wtG_len hlen _ _, wtG_acy hlen hA _ _, hs27⟩
    · first | omega | (dsimp only; omega)
  ·
    refine wpM.exit ?_
    refine QM.then_exit ?_
    refine QM.then_exit ?_
    refine QM.block_hit ?_
    refine QM.then ?_
    refine wpM.seq ?_
    refine wpM.region ?_
    refine LM.val (ov_move rfl) ?_
    refine LM.val (ov_move rfl) ?_
    refine LM.val (ov_assign rfl) ?_
    refine LM.val (ov_assign rfl) ?_
    refine LM.nil ?_
    refine QM.sub (e' := [(2, _), (3, _)]) ⟨rfl, rfl, trivial⟩ ?_
    refine QM.then ?_
    refine wpM.ret ?_
    refine QM.leave (.inl rfl) [.tmp 2, .tmp 3] Tryd.results34 rfl ?_
    intro w' hm' hc' hg'
    -- leaf 1: h1-
    exact ⟨hc', gB bg G :: rB br adg ng capg :: m, ⟨G, bg, br, adg, ng, capg, m, rfl, rfl, hbg, hbr, hng, hsl, hlen, hA⟩, by simpa using hm', fun p hp => by simp only [List.mem_cons] at hp; rcases hp with rfl | rfl | hp; exact hbg; exact hbr; exact hsl.ge p hp⟩

end Go.Eng

