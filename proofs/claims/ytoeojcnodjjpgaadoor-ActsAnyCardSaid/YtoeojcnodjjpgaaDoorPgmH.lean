/- prog.Same and ProgSames, walked. No condition. -/
import Derived.Test.YtoeojcnodjjpgaaDoorPgmG
set_option linter.unusedVariables false
set_option linter.unusedSimpArgs false
namespace Go.Eng
open Go Go.Proofs Go.RowKit

set_option maxRecDepth 100000 in
theorem eqo_spec {xs ys : List COp} {ad1 ad2 : Option Addr} {n1 n2 cap1 cap2 : Nat} (w : World) (hn1 : n1 = xs.length) (hl1 : Sr fO 3 xs (.slice ad1 n1 cap1) w) (hn2 : n2 = ys.length) (hl2 : Sr fO 3 ys (.slice ad2 n2 cap2) w) (hx : xs.length ≤ 1000000000) : Ret Tryd.prog 68 #[.slice ad1 n1 cap1, .slice ad2 n2 cap2] w (fun v w' => v = .bool (decide (xs = ys)) ∧ Ext w w') := by
  refine Ret.enterM (l := [.slice ad1 n1 cap1, .slice ad2 n2 cap2]) Tryd.func68 rfl Tryd.ntmps68 rfl ([]) (no) (Mem.nil w) ?_
  refine wpM.seq ?_
  refine wpM.region ?_
  refine LM.val (ov_assign rfl) ?_
  refine LM.nil ?_
  refine QM.sub (e' := [(0, _), (1, _)]) ⟨rfl, rfl, trivial⟩ ?_
  refine QM.then ?_
  refine wpM.seq ?_
  refine wpM.seq ?_
  refine wpM.region ?_
  refine LM.val (ov_move rfl) ?_
  refine LM.val (ov_len Tryd.underlying51 rfl) ?_
  refine LM.val (ov_move rfl) ?_
  refine LM.val (ov_len Tryd.underlying51 rfl) ?_
  refine LM.val (ov_neq rfl rfl) ?_
  refine LM.nil ?_
  refine QM.sub (e' := [(0, _), (1, _), (10, _)]) ⟨rfl, rfl, rfl, trivial⟩ ?_
  refine QM.then ?_
  first | refine wpM.condD rfl (fun h1 => ?_) (fun h1 => ?_) | refine wpM.condB rfl (fun h1 => ?_) (fun h1 => ?_)
  ·
    refine wpM.seq ?_
    refine wpM.region ?_
    refine LM.val (ov_assign rfl) ?_
    refine LM.nil ?_
    refine QM.sub (e' := [(4, _)]) ⟨rfl, trivial⟩ ?_
    refine QM.then ?_
    refine wpM.ret ?_
    refine QM.then_ret ?_
    refine QM.leave (.inl rfl) [.tmp 4] Tryd.results68 rfl ?_
    intro w' hm' hc' hg'
    -- leaf 1: h1+
    refine ⟨?_, hc'⟩; show Value.bool false = _; rw [decide_eq_false (show ¬ xs = ys by intro q; have := congrArg List.length q; omega)]
  ·
    refine wpM.skip ?_
    refine QM.then ?_
    refine wpM.seq ?_
    refine wpM.seq ?_
    refine wpM.region ?_
    refine LM.val (ov_move rfl) ?_
    refine LM.val (ov_len Tryd.underlying51 rfl) ?_
    refine LM.val (ov_move rfl) ?_
    refine LM.nil ?_
    refine QM.sub (e' := [(0, _), (1, _), (12, _), (13, _)]) ⟨rfl, rfl, rfl, rfl, trivial⟩ ?_
    refine QM.then ?_
    refine wpM.block ?_
    refine wpM.loopK0 (α := Nat) (fun i => [(13, .int .i64 (i : Nat))]) [(0, _), (1, _), (12, _)] (fun i => []) (fun i => i ≤ xs.length ∧ xs.take i = ys.take i) (fun i => xs.length - i) (0) ⟨(by first | rfl | exact lk rfl (by congr 1; omega) | exact lk rfl (by simp)), rfl, rfl, rfl, trivial⟩ (by (repeat' (first | exact SubM.nil _ | refine SubM.cons rfl ?_ | refine SubM.app ?_))) ⟨Nat.zero_le _, rfl⟩ ?_
    rintro i ⟨hi, ha⟩
    change wpM _ _ _ _ _ _ _ ([]) _ _ _
    refine wpM.seq ?_
    refine wpM.region ?_
    refine LM.val (ov_lss rfl rfl) ?_
    refine LM.nil ?_
    refine QM.sub (e' := [(0, _), (1, _), (12, _), (13, _), (14, _)]) ⟨rfl, rfl, rfl, rfl, rfl, trivial⟩ ?_
    refine QM.then ?_
    refine wpM.seq ?_
    first | refine wpM.condD rfl (fun h2 => ?_) (fun h2 => ?_) | refine wpM.condB rfl (fun h2 => ?_) (fun h2 => ?_)
    ·
      refine wpM.skip ?_
      refine QM.then ?_
      refine wpM.seq ?_
      refine wpM.block ?_
      refine wpM.seq ?_
      refine wpM.region ?_
      refine LM.val (ov_move rfl) ?_
      refine LM.val (ov_assign rfl) ?_
      refine LM.nil ?_
      refine QM.sub (e' := [(0, _), (1, _), (5, _), (12, _), (13, _)]) ⟨rfl, rfl, rfl, rfl, rfl, trivial⟩ ?_
      refine QM.then ?_
      refine wpM.seq ?_
      refine wpM.draw [(0, 0), (1, 0), (2, 0), (3, 1), (4, 0), (5, 0), (6, 0), (7, 1), (8, 0)] (by kernel_rfl) (by kernel_rfl) ?_
      refine LD.val rfl rfl (ov_move rfl) ?_
      refine LD.val rfl rfl (ov_move rfl) ?_
      first | refine LD.val rfl rfl (ov_idxSN (by first | exact Sr.spt (by assumption) | exact Sl.spt (by assumption)) Tryd.underlying51 Tryd.sizeOf69 rfl rfl (by omega)) ?_ | refine LD.val rfl rfl (ov_idxS (by first | exact Sr.spt (by assumption) | exact Sl.spt (by assumption)) Tryd.underlying51 Tryd.sizeOf69 rfl rfl (by omega)) ?_ | refine LD.val rfl rfl (ov_idx Tryd.underlying51 Tryd.sizeOf69 rfl rfl (by omega)) ?_
      first | refine LD.rd rfl rfl (om_slA (by assumption) (by intro _; rfl) Tryd.isAgg69 Tryd.sizeOf69 rfl (by exact getq default (by first | omega | (simp only [List.length_set, List.length_append, List.length_cons, List.length_nil]; omega)))) ?_ | refine LD.rdC rfl rfl (om_srEA (by assumption) (by intro _; rfl) Tryd.isAgg69 Tryd.sizeOf69 rfl (by exact getq default (by first | omega | (simp only [List.length_set, List.length_append, List.length_cons, List.length_nil]; omega))) id) ?_ | refine LD.rd rfl rfl (om_ldW Tryd.isAgg69 Tryd.sizeOf69 rfl rfl) ?_ | refine LD.rd rfl rfl (om_ldA Tryd.isAgg69 Tryd.sizeOf69 rfl (vs := [_, _, _]) rfl ⟨rfl, rfl, rfl, trivial⟩) ?_
      refine LD.val rfl rfl (ov_move rfl) ?_
      refine LD.val rfl rfl (ov_move rfl) ?_
      first | refine LD.val rfl rfl (ov_idxSN (by first | exact Sr.spt (by assumption) | exact Sl.spt (by assumption)) Tryd.underlying51 Tryd.sizeOf69 rfl rfl (by omega)) ?_ | refine LD.val rfl rfl (ov_idxS (by first | exact Sr.spt (by assumption) | exact Sl.spt (by assumption)) Tryd.underlying51 Tryd.sizeOf69 rfl rfl (by omega)) ?_ | refine LD.val rfl rfl (ov_idx Tryd.underlying51 Tryd.sizeOf69 rfl rfl (by omega)) ?_
      first | refine LD.rd rfl rfl (om_slA (by assumption) (by intro _; rfl) Tryd.isAgg69 Tryd.sizeOf69 rfl (by exact getq default (by first | omega | (simp only [List.length_set, List.length_append, List.length_cons, List.length_nil]; omega)))) ?_ | refine LD.rdC rfl rfl (om_srEA (by assumption) (by intro _; rfl) Tryd.isAgg69 Tryd.sizeOf69 rfl (by exact getq default (by first | omega | (simp only [List.length_set, List.length_append, List.length_cons, List.length_nil]; omega))) id) ?_ | refine LD.rd rfl rfl (om_ldW Tryd.isAgg69 Tryd.sizeOf69 rfl rfl) ?_ | refine LD.rd rfl rfl (om_ldA Tryd.isAgg69 Tryd.sizeOf69 rfl (vs := [_, _, _]) rfl ⟨rfl, rfl, rfl, trivial⟩) ?_
      refine LD.val rfl rfl (ov_aneq Tryd.underlying69 (by kernel_rfl) (by kernel_rfl) (by decide) rfl rfl (by rfl) ⟨(by first | rfl | trivial), (by first | rfl | trivial), (by first | rfl | trivial), trivial⟩) ?_
      refine LD.nil ?_
      refine QM.sub (e' := [(0, _), (1, _), (12, _), (13, _), (24, _)]) ⟨rfl, rfl, rfl, rfl, rfl, trivial⟩ ?_
      refine QM.then ?_
      first | refine wpM.condD rfl (fun h3 => ?_) (fun h3 => ?_) | refine wpM.condB rfl (fun h3 => ?_) (fun h3 => ?_)
      ·
        refine wpM.seq ?_
        refine wpM.region ?_
        refine LM.val (ov_assign rfl) ?_
        refine LM.nil ?_
        refine QM.sub (e' := [(4, _)]) ⟨rfl, trivial⟩ ?_
        refine QM.then ?_
        refine wpM.ret ?_
        refine QM.block_ret ?_
        refine QM.then_ret ?_
        refine QM.then_ret ?_
        refine QM.block_ret ?_
        refine QM.then_ret ?_
        refine QM.leave (.inl rfl) [.tmp 4] Tryd.results68 rfl ?_
        intro w' hm' hc' hg'
        -- leaf 2: h1- h2+ h3+
        refine ⟨?_, hc'⟩; show Value.bool false = _; rw [decide_eq_false (show ¬ xs = ys by intro q; rw [fO_veqs, q] at h3; simp at h3)]
      ·
        refine wpM.skip ?_
        refine QM.block_normal ?_
        refine QM.then ?_
        refine wpM.region ?_
        refine LM.val (ov_add64 rfl rfl (by omega)) ?_
        refine LM.val (ov_move rfl) ?_
        refine LM.nil ?_
        refine QM.sub (e' := [(0, _), (1, _), (12, _), (13, _)]) ⟨rfl, rfl, rfl, rfl, trivial⟩ ?_
        -- again1: h1- h2+ h3-
        refine QM.againK (i + 1) ⟨(by first | rfl | exact lk rfl (by congr 1; omega) | exact lk rfl (by simp)), rfl, rfl, rfl, trivial⟩ (by (repeat' (first | exact SubM.nil _ | refine SubM.cons rfl ?_ | refine SubM.app ?_))) (fun _ h => h) ?_ ?_
        · exact ⟨by omega, eq_at (by omega) (by omega) ha (by rw [fO_veqs] at h3; simpa using h3)⟩
        · first | omega | (dsimp only; omega)
    ·
      refine wpM.exit ?_
      refine QM.then_exit ?_
      refine QM.then_exit ?_
      refine QM.block_hit ?_
      refine QM.then ?_
      refine wpM.seq ?_
      refine wpM.region ?_
      refine LM.val (ov_assign rfl) ?_
      refine LM.nil ?_
      refine QM.sub (e' := [(4, _)]) ⟨rfl, trivial⟩ ?_
      refine QM.then ?_
      refine wpM.ret ?_
      refine QM.leave (.inl rfl) [.tmp 4] Tryd.results68 rfl ?_
      intro w' hm' hc' hg'
      -- leaf 3: h1- h2-
      refine ⟨?_, hc'⟩; show Value.bool true = _; rw [decide_eq_true]; have e1 : xs.take i = xs := List.take_of_length_le (by omega); have e2 : ys.take i = ys := List.take_of_length_le (by omega); rw [← e1, ← e2, ha]

set_option maxRecDepth 100000 in
theorem psame_spec {xs ys : List COp} {f1 f2 : Bool} {ad1 ad2 : Option Addr} {n1 n2 cap1 cap2 : Nat} (w : World) (hn1 : n1 = xs.length) (hl1 : Sr fO 3 xs (.slice ad1 n1 cap1) w) (hn2 : n2 = ys.length) (hl2 : Sr fO 3 ys (.slice ad2 n2 cap2) w) (hx : xs.length ≤ 1000000000) : Ret Tryd.prog 30 #[pV f1 ad1 n1 cap1, pV f2 ad2 n2 cap2] w (fun v w' => v = .bool (decide (f1 = f2) && decide (xs = ys)) ∧ Ext w w') := by
  refine Ret.enterM (l := [pV f1 ad1 n1 cap1, pV f2 ad2 n2 cap2]) Tryd.func30 rfl Tryd.ntmps30 rfl ([]) (no) (Mem.nil w) ?_
  refine wpM.seq ?_
  refine wpM.region ?_
  refine LM.box rfl rfl (fun b2 hb2 => ?_)
  refine LM.box rfl rfl (fun b3 hb3 => ?_)
  refine LM.val (ov_assign rfl) ?_
  refine LM.nil ?_
  refine QM.sub (e' := [(2, _), (3, _)]) ⟨rfl, rfl, trivial⟩ ?_
  refine QM.then ?_
  refine wpM.seq ?_
  refine wpM.region ?_
  refine LM.val (ov_field Tryd.underlying53 rfl Tryd.sizeOf4 rfl (k := 0) rfl rfl) ?_
  first | refine LM.rd (om_ld Tryd.isAgg4 rfl rfl) ?_
  refine LM.val (ov_field Tryd.underlying53 rfl Tryd.sizeOf4 rfl (k := 0) rfl rfl) ?_
  first | refine LM.rd (om_ld Tryd.isAgg4 rfl rfl) ?_
  refine LM.val (ov_beql Tryd.underlying4 rfl rfl) ?_
  refine LM.val (ov_move rfl) ?_
  first | refine LM.splitD (t := 10) rfl (fun h1 => ?_) (fun h1 => ?_) | refine LM.splitB (t := 10) rfl (fun h1 => ?_) (fun h1 => ?_)
  ·
    refine LM.strip (t := 10) rfl rfl rfl ?_
    refine LM.val (ov_field Tryd.underlying53 rfl Tryd.sizeOf51 rfl (k := 1) rfl rfl) ?_
    refine LM.strip (t := 10) rfl rfl rfl ?_
    first | refine LM.rd (om_ld Tryd.isAgg51 rfl rfl) ?_
    refine LM.strip (t := 10) rfl rfl rfl ?_
    refine LM.val (ov_field Tryd.underlying53 rfl Tryd.sizeOf51 rfl (k := 1) rfl rfl) ?_
    refine LM.strip (t := 10) rfl rfl rfl ?_
    first | refine LM.rd (om_ld Tryd.isAgg51 rfl rfl) ?_
    refine LM.strip (t := 10) rfl rfl rfl ?_
    refine LM.callE (oc_call (enters_fn Tryd.func68 (by kernel_rfl) rfl) rfl) (fun w hm hc hg => eqo_spec w hn1 (hl1.ext hc) hn2 (hl2.ext hc) hx) ?_
    refine LM.val (ov_pickT rfl rfl) ?_
    refine LM.val (ov_assign rfl) ?_
    refine LM.nil ?_
    refine QM.sub (e' := [(4, _)]) ⟨rfl, trivial⟩ ?_
    refine QM.then ?_
    refine wpM.ret ?_
    refine QM.leave (.inl rfl) [.tmp 4] Tryd.results30 rfl ?_
    intro w' hm' hc' hg'
    -- leaf 1: h1+
    refine ⟨?_, hc'⟩; show Value.bool (decide (xs = ys)) = _; rw [decide_eq_true (show f1 = f2 by simpa using h1), Bool.true_and]
  ·
    refine LM.drop (t := 10) rfl rfl rfl ?_
    refine LM.drop (t := 10) rfl rfl rfl ?_
    refine LM.drop (t := 10) rfl rfl rfl ?_
    refine LM.drop (t := 10) rfl rfl rfl ?_
    refine LM.drop (t := 10) rfl rfl rfl ?_
    refine LM.val (ov_pickF rfl rfl) ?_
    refine LM.val (ov_assign rfl) ?_
    refine LM.nil ?_
    refine QM.sub (e' := [(4, _)]) ⟨rfl, trivial⟩ ?_
    refine QM.then ?_
    refine wpM.ret ?_
    refine QM.leave (.inl rfl) [.tmp 4] Tryd.results30 rfl ?_
    intro w' hm' hc' hg'
    -- leaf 2: h1-
    refine ⟨?_, hc'⟩; show Value.bool false = _; rw [decide_eq_false (show ¬ f1 = f2 by simpa using h1), Bool.false_and]

set_option maxRecDepth 100000 in
theorem progSames {xs ys : List COp} {f1 f2 : Bool} {ad1 ad2 : Option Addr} {n1 n2 cap1 cap2 : Nat} (k : Int) (w : World) (hT : Tb w) (hn1 : n1 = xs.length) (hl1 : Sr fO 3 xs (.slice ad1 n1 cap1) w) (hn2 : n2 = ys.length) (hl2 : Sr fO 3 ys (.slice ad2 n2 cap2) w) : Ret Tryd.prog 6 #[pV f1 ad1 n1 cap1, pV f2 ad2 n2 cap2, .int .i64 k] w (fun v w' => v = .bool true ∧ Ext w w') := by
  refine Ret.enterM (l := [pV f1 ad1 n1 cap1, pV f2 ad2 n2 cap2, .int .i64 k]) Tryd.func6 rfl Tryd.ntmps6 rfl ([]) (no) (Mem.nil w) ?_
  refine wpM.seq ?_
  refine wpM.region ?_
  refine LM.box rfl rfl (fun b3 hb3 => ?_)
  refine LM.box rfl rfl (fun b4 hb4 => ?_)
  refine LM.val (ov_assign rfl) ?_
  refine LM.nil ?_
  refine QM.sub (e' := [(2, _), (3, _), (4, _)]) ⟨rfl, rfl, rfl, trivial⟩ ?_
  refine QM.then ?_
  refine wpM.seq ?_
  refine wpM.seq ?_
  refine wpM.region ?_
  refine LM.callE (oc_call (enters_fn Tryd.func25 (by kernel_rfl) rfl) rfl) (fun w hm hc hg => awake10_spec w (hT.ext hc)) ?_
  first | refine LM.val (ov_notD rfl) ?_ | refine LM.val (ov_not rfl) ?_
  refine LM.nil ?_
  refine QM.sub (e' := [(2, _), (3, _), (4, _), (8, _)]) ⟨rfl, rfl, rfl, rfl, trivial⟩ ?_
  refine QM.then ?_
  first | refine wpM.condD rfl (fun h1 => ?_) (fun h1 => ?_) | refine wpM.condB rfl (fun h1 => ?_) (fun h1 => ?_)
  ·
    refine wpM.seq ?_
    refine wpM.region ?_
    refine LM.val (ov_assign rfl) ?_
    refine LM.nil ?_
    refine QM.sub (e' := [(6, _)]) ⟨rfl, trivial⟩ ?_
    refine QM.then ?_
    refine wpM.ret ?_
    refine QM.then_ret ?_
    refine QM.leave (.inl rfl) [.tmp 6] Tryd.results6 rfl ?_
    intro w' hm' hc' hg'
    -- leaf 1: h1+
    first | exact ⟨rfl, hc'⟩ | (refine ⟨?_, hc'⟩; show Value.bool _ = _; simp; done) | (exfalso; simp at *; done) | (exfalso; simp_all; done)
  ·
    refine wpM.skip ?_
    refine QM.then ?_
    refine wpM.seq ?_
    refine wpM.seq ?_
    refine wpM.region ?_
    refine LM.val (ov_field Tryd.underlying53 rfl Tryd.sizeOf51 rfl (k := 1) rfl rfl) ?_
    first | refine LM.rd (om_ld Tryd.isAgg51 rfl rfl) ?_
    refine LM.val (ov_len Tryd.underlying51 rfl) ?_
    refine LM.val (ov_gtr rfl rfl) ?_
    refine LM.val (ov_move rfl) ?_
    first | refine LM.splitD (t := 13) rfl (fun h2 => ?_) (fun h2 => ?_) | refine LM.splitB (t := 13) rfl (fun h2 => ?_) (fun h2 => ?_)
    ·
      refine LM.drop (t := 13) rfl rfl rfl ?_
      refine LM.drop (t := 13) rfl rfl rfl ?_
      refine LM.drop (t := 13) rfl rfl rfl ?_
      refine LM.drop (t := 13) rfl rfl rfl ?_
      refine LM.val (ov_pickT rfl rfl) ?_
      refine LM.nil ?_
      refine QM.sub (e' := [(2, _), (3, _), (4, _), (18, _)]) ⟨rfl, rfl, rfl, rfl, trivial⟩ ?_
      refine QM.then ?_
      refine wpM.condT rfl ?_
      refine wpM.seq ?_
      refine wpM.region ?_
      refine LM.val (ov_assign rfl) ?_
      refine LM.nil ?_
      refine QM.sub (e' := [(6, _)]) ⟨rfl, trivial⟩ ?_
      refine QM.then ?_
      refine wpM.ret ?_
      refine QM.then_ret ?_
      refine QM.leave (.inl rfl) [.tmp 6] Tryd.results6 rfl ?_
      intro w' hm' hc' hg'
      -- leaf 2: h1- h2+
      first | exact ⟨rfl, hc'⟩ | (refine ⟨?_, hc'⟩; show Value.bool _ = _; simp; done) | (exfalso; simp at *; done) | (exfalso; simp_all; done)
    ·
      refine LM.strip (t := 13) rfl rfl rfl ?_
      refine LM.val (ov_field Tryd.underlying53 rfl Tryd.sizeOf51 rfl (k := 1) rfl rfl) ?_
      refine LM.strip (t := 13) rfl rfl rfl ?_
      first | refine LM.rd (om_ld Tryd.isAgg51 rfl rfl) ?_
      refine LM.strip (t := 13) rfl rfl rfl ?_
      refine LM.val (ov_len Tryd.underlying51 rfl) ?_
      refine LM.strip (t := 13) rfl rfl rfl ?_
      refine LM.val (ov_gtr rfl rfl) ?_
      refine LM.val (ov_pickF rfl rfl) ?_
      refine LM.nil ?_
      refine QM.sub (e' := [(2, _), (3, _), (4, _), (18, _)]) ⟨rfl, rfl, rfl, rfl, trivial⟩ ?_
      refine QM.then ?_
      first | refine wpM.condD rfl (fun h3 => ?_) (fun h3 => ?_) | refine wpM.condB rfl (fun h3 => ?_) (fun h3 => ?_)
      ·
        refine wpM.seq ?_
        refine wpM.region ?_
        refine LM.val (ov_assign rfl) ?_
        refine LM.nil ?_
        refine QM.sub (e' := [(6, _)]) ⟨rfl, trivial⟩ ?_
        refine QM.then ?_
        refine wpM.ret ?_
        refine QM.then_ret ?_
        refine QM.leave (.inl rfl) [.tmp 6] Tryd.results6 rfl ?_
        intro w' hm' hc' hg'
        -- leaf 3: h1- h2- h3+
        first | exact ⟨rfl, hc'⟩ | (refine ⟨?_, hc'⟩; show Value.bool _ = _; simp; done) | (exfalso; simp at *; done) | (exfalso; simp_all; done)
      ·
        refine wpM.skip ?_
        refine QM.then ?_
        refine wpM.seq ?_
        refine wpM.draw [(0, 1), (1, 1), (3, 1), (4, 1), (2, 2), (5, 2), (6, 0), (7, 0), (8, 1), (9, 1), (10, 2), (11, 0), (12, 0), (13, 0), (15, 0), (14, 2), (16, 2), (17, 0), (18, 0), (19, 0)] (by kernel_rfl) (by kernel_rfl) ?_
        first | refine LD.rd rfl rfl (om_ldW Tryd.isAgg53 Tryd.sizeOf53 rfl rfl) ?_ | refine LD.rd rfl rfl (om_ldA Tryd.isAgg53 Tryd.sizeOf53 rfl (vs := [_, _]) rfl ⟨rfl, rfl, trivial⟩) ?_
        first | refine LD.rd rfl rfl (om_ldW Tryd.isAgg53 Tryd.sizeOf53 rfl rfl) ?_ | refine LD.rd rfl rfl (om_ldA Tryd.isAgg53 Tryd.sizeOf53 rfl (vs := [_, _]) rfl ⟨rfl, rfl, trivial⟩) ?_
        first | refine LD.rd rfl rfl (om_ldW Tryd.isAgg53 Tryd.sizeOf53 rfl rfl) ?_ | refine LD.rd rfl rfl (om_ldA Tryd.isAgg53 Tryd.sizeOf53 rfl (vs := [_, _]) rfl ⟨rfl, rfl, trivial⟩) ?_
        first | refine LD.rd rfl rfl (om_ldW Tryd.isAgg53 Tryd.sizeOf53 rfl rfl) ?_ | refine LD.rd rfl rfl (om_ldA Tryd.isAgg53 Tryd.sizeOf53 rfl (vs := [_, _]) rfl ⟨rfl, rfl, trivial⟩) ?_
        refine LD.callE rfl rfl (oc_call (enters_fn Tryd.func30 (by kernel_rfl) rfl) rfl) (fun w hm hc hg => psame_spec w hn1 (hl1.ext hc) hn2 (hl2.ext hc) (by omega)) ?_
        refine LD.callE rfl rfl (oc_call (enters_fn Tryd.func28 (by kernel_rfl) rfl) rfl) (fun w hm hc hg => rsame_spec w hn1 (hl1.ext hc) hn2 (hl2.ext hc) (by omega)) ?_
        refine LD.val rfl rfl (ov_beql Tryd.underlying4 rfl rfl) ?_
        refine LD.val rfl rfl (ov_move rfl) ?_
        first | refine LD.splitD (t := 26) rfl (fun h4 => ?_) (fun h4 => ?_) | refine LD.splitB (t := 26) rfl (fun h4 => ?_) (fun h4 => ?_)
        ·
          first | refine LD.rd rfl ⟨26, _, rfl, rfl, rfl⟩ (om_ldW Tryd.isAgg53 Tryd.sizeOf53 rfl rfl) ?_ | refine LD.rd rfl ⟨26, _, rfl, rfl, rfl⟩ (om_ldA Tryd.isAgg53 Tryd.sizeOf53 rfl (vs := [_, _]) rfl ⟨rfl, rfl, trivial⟩) ?_
          first | refine LD.rd rfl ⟨26, _, rfl, rfl, rfl⟩ (om_ldW Tryd.isAgg53 Tryd.sizeOf53 rfl rfl) ?_ | refine LD.rd rfl ⟨26, _, rfl, rfl, rfl⟩ (om_ldA Tryd.isAgg53 Tryd.sizeOf53 rfl (vs := [_, _]) rfl ⟨rfl, rfl, trivial⟩) ?_
          refine LD.callE rfl ⟨26, _, rfl, rfl, rfl⟩ (oc_call (enters_fn Tryd.func30 (by kernel_rfl) rfl) rfl) (fun w hm hc hg => psame_spec w hn1 (hl1.ext hc) hn1 (hl1.ext hc) (by omega)) ?_
          refine LD.val rfl rfl (ov_pickT rfl rfl) ?_
          refine LD.val rfl rfl (ov_move rfl) ?_
          first | refine LD.splitD (t := 31) rfl (fun h5 => ?_) (fun h5 => ?_) | refine LD.splitB (t := 31) rfl (fun h5 => ?_) (fun h5 => ?_)
          ·
            refine LD.val rfl ⟨31, _, rfl, rfl, rfl⟩ (ov_move rfl) ?_
            refine LD.val rfl ⟨31, _, rfl, rfl, rfl⟩ (ov_move rfl) ?_
            refine LD.callE rfl ⟨31, _, rfl, rfl, rfl⟩ (oc_call (enters_fn Tryd.func31 (by kernel_rfl) rfl) rfl) (fun w hm hc hg => name_spec k w) ?_
            refine LD.callE rfl ⟨31, _, rfl, rfl, rfl⟩ (oc_call (enters_fn Tryd.func32 (by kernel_rfl) rfl) rfl) (fun w hm hc hg => rname_spec k w) ?_
            refine LD.val rfl ⟨31, _, rfl, rfl, rfl⟩ (ov_seqlL rfl rfl) ?_
            refine LD.val rfl rfl (ov_pickT rfl rfl) ?_
            refine LD.val rfl rfl (ov_assign rfl) ?_
            refine LD.nil ?_
            refine QM.sub (e' := [(6, _)]) ⟨rfl, trivial⟩ ?_
            refine QM.then ?_
            refine wpM.ret ?_
            refine QM.leave (.inl rfl) [.tmp 6] Tryd.results6 rfl ?_
            intro w' hm' hc' hg'
            -- leaf 4: h1- h2- h3- h4+ h5+
            first | exact ⟨rfl, hc'⟩ | (refine ⟨?_, hc'⟩; show Value.bool _ = _; simp; done) | (exfalso; simp at *; done) | (exfalso; simp_all; done)
          ·
            refine LD.drop rfl rfl ⟨31, _, rfl, rfl, rfl⟩ ?_
            refine LD.drop rfl rfl ⟨31, _, rfl, rfl, rfl⟩ ?_
            refine LD.drop rfl rfl ⟨31, _, rfl, rfl, rfl⟩ ?_
            refine LD.drop rfl rfl ⟨31, _, rfl, rfl, rfl⟩ ?_
            refine LD.drop rfl rfl ⟨31, _, rfl, rfl, rfl⟩ ?_
            refine LD.val rfl rfl (ov_pickF rfl rfl) ?_
            refine LD.val rfl rfl (ov_assign rfl) ?_
            refine LD.nil ?_
            refine QM.sub (e' := [(6, _)]) ⟨rfl, trivial⟩ ?_
            refine QM.then ?_
            refine wpM.ret ?_
            refine QM.leave (.inl rfl) [.tmp 6] Tryd.results6 rfl ?_
            intro w' hm' hc' hg'
            -- leaf 5: h1- h2- h3- h4+ h5-
            first | exact ⟨rfl, hc'⟩ | (refine ⟨?_, hc'⟩; show Value.bool _ = _; simp; done) | (exfalso; simp at *; done) | (exfalso; simp_all; done)
        ·
          refine LD.drop rfl rfl ⟨26, _, rfl, rfl, rfl⟩ ?_
          refine LD.drop rfl rfl ⟨26, _, rfl, rfl, rfl⟩ ?_
          refine LD.drop rfl rfl ⟨26, _, rfl, rfl, rfl⟩ ?_
          refine LD.val rfl rfl (ov_pickF rfl rfl) ?_
          refine LD.val rfl rfl (ov_move rfl) ?_
          refine LD.drop rfl rfl ⟨31, _, rfl, rfl, rfl⟩ ?_
          refine LD.drop rfl rfl ⟨31, _, rfl, rfl, rfl⟩ ?_
          refine LD.drop rfl rfl ⟨31, _, rfl, rfl, rfl⟩ ?_
          refine LD.drop rfl rfl ⟨31, _, rfl, rfl, rfl⟩ ?_
          refine LD.drop rfl rfl ⟨31, _, rfl, rfl, rfl⟩ ?_
          refine LD.val rfl rfl (ov_pickF rfl rfl) ?_
          refine LD.val rfl rfl (ov_assign rfl) ?_
          refine LD.nil ?_
          refine QM.sub (e' := [(6, _)]) ⟨rfl, trivial⟩ ?_
          refine QM.then ?_
          refine wpM.ret ?_
          refine QM.leave (.inl rfl) [.tmp 6] Tryd.results6 rfl ?_
          intro w' hm' hc' hg'
          -- leaf 6: h1- h2- h3- h4-
          first | exact ⟨rfl, hc'⟩ | (refine ⟨?_, hc'⟩; show Value.bool _ = _; simp; done) | (exfalso; simp at *; done) | (exfalso; simp_all; done)

end Go.Eng

