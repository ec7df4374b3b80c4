/- The walks of the parser of programs. No condition. -/
import Derived.Test.YtoeojcnodjjpgaaDoorPgmB
set_option linter.unusedVariables false
set_option linter.unusedSimpArgs false
namespace Go.Eng
open Go Go.Proofs Go.RowKit

theorem num2_eq (ws : List Wrd) (a : Nat × Int × Int) (lo hi : Int) : numE ws a.1 a.2.1 lo hi = num2 ws a lo hi := rfl
theorem op_need {ws : List Wrd} {i ahead : Nat} (h1 : kindR ws i ≠ 0) (h2 : ahead < 12) : opR ws i ahead = ((needE ws (opB ws i).1 (opB ws i).2.1 3 [59]).1, (needE ws (opB ws i).1 (opB ws i).2.1 3 [59]).2, ⟨kindR ws i, (opA ws i).2.2, (opB ws i).2.2⟩) := by
  unfold opR needE; rw [if_neg h1, if_neg (by omega), isE_eq]
  by_cases h : (opB ws i).2.1 = 0
  · rw [if_neg (by simp [h]), decide_eq_true h, Bool.true_and]
    split
    · rw [h]
    · rfl
  · rw [if_pos h, decide_eq_false h, Bool.false_and, if_neg (by simp), if_neg h]
theorem op_a {ws : List Wrd} {i ahead : Nat} (h1 : kindR ws i = 0) : opR ws i ahead = (i, 5, ⟨0, 0, 0⟩) := by unfold opR; rw [if_pos h1]
theorem op_b {ws : List Wrd} {i ahead : Nat} (h1 : kindR ws i ≠ 0) (h2 : 12 ≤ ahead) : opR ws i ahead = (i, 6, ⟨0, 0, 0⟩) := by unfold opR; rw [if_neg h1, if_pos h2]
theorem numE_le {ws : List Wrd} {i : Nat} {e lo hi : Int} (h : i ≤ ws.length) : (numE ws i e lo hi).1 ≤ ws.length := by
  unfold numE; split
  · exact h
  · exact (numR_le h).2
set_option maxRecDepth 100000 in
set_option maxHeartbeats 1000000 in
theorem op_spec {ws : List Wrd} (b : Nat) {ad : Option Addr} {n cap : Nat} (i ahead : Nat) (w : World) (hn : n = ws.length) (hx : ws.length ≤ 1000000000) (hl : Sr fW 4 ws (.slice ad n cap) w) (hab : 0 < ws.length → adB ad ≠ b) (hM : Mem w [rB b ad n cap i 0]) : Ret Tryd.prog 61 #[.pointer (some ⟨b, 0, none⟩), .int .i64 (ahead : Nat)] w (WrP b (.agg (fO (opR ws i ahead).2.2).toArray) (rO ad n cap (opR ws i ahead).1 (opR ws i ahead).2.1) w) := by
  refine Ret.enterM (l := [.pointer (some ⟨b, 0, none⟩), .int .i64 (ahead : Nat)]) Tryd.func61 rfl Tryd.ntmps61 rfl ([rB b ad n cap i 0]) ((fun x => x = b)) hM ?_
  refine wpM.seq ?_
  refine wpM.region ?_
  refine LM.alloc Tryd.zeroValue69 rfl (fun b4 hb4 => ?_)
  refine LM.nil ?_
  refine QM.sub (e' := [(0, _), (1, _), (4, _)]) ⟨rfl, rfl, rfl, trivial⟩ ?_
  refine QM.then ?_
  refine wpM.seq ?_
  refine wpM.region ?_
  refine LM.val (ov_assign rfl) ?_
  refine LM.nil ?_
  refine QM.sub (e' := [(0, _), (1, _), (4, _), (5, _)]) ⟨rfl, rfl, rfl, rfl, trivial⟩ ?_
  refine QM.then ?_
  refine wpM.seq ?_
  refine wpM.seq ?_
  refine wpM.joinK (α := Bool) (fun q => [(32, .bool q)]) [(0, _), (1, _), (4, _), (5, _)] (fun q => rB b ad n cap i 0 :: (b4, .cells #[.int .i64 0, .int .i64 0, .int .i64 0] 69 (0, 0)) :: []) (fun q => q = (decide (i < ws.length) && decide ((ws.getD i default).k = 1))) ⟨rfl, rfl, rfl, rfl, trivial⟩ ?_ ?_
  ·
    refine wpM.draw [(0, 0), (1, 0), (2, 0), (3, 1), (4, 0), (5, 0), (6, 0), (7, 1), (8, 0), (9, 0), (10, 0), (11, 0), (12, 0), (13, 0), (14, 1), (15, 0), (16, 0), (17, 0), (18, 1), (19, 0), (20, 0), (21, 1), (22, 0), (23, 0)] (by kernel_rfl) (by kernel_rfl) ?_
    refine LD.val rfl rfl (ov_move rfl) ?_
    refine LD.val rfl rfl (ov_nilCheck rfl) ?_
    refine LD.val rfl rfl (ov_field Tryd.underlying101 rfl Tryd.sizeOf3 rfl (k := 1) rfl rfl) ?_
    first | refine LD.rd rfl rfl (om_ld Tryd.isAgg3 rfl rfl) ?_
    refine LD.val rfl rfl (ov_move rfl) ?_
    refine LD.val rfl rfl (ov_nilCheck rfl) ?_
    refine LD.val rfl rfl (ov_field Tryd.underlying101 rfl Tryd.sizeOf24 rfl (k := 0) rfl rfl) ?_
    first | refine LD.rd rfl rfl (om_ld Tryd.isAgg24 rfl rfl) ?_
    refine LD.val rfl rfl (ov_len Tryd.underlying24 rfl) ?_
    refine LD.val rfl rfl (ov_lss rfl rfl) ?_
    refine LD.val rfl rfl (ov_move rfl) ?_
    first | refine LD.splitD (t := 19) rfl (fun h1 => ?_) (fun h1 => ?_) | refine LD.splitB (t := 19) rfl (fun h1 => ?_) (fun h1 => ?_)
    ·
      refine LD.val rfl ⟨19, _, rfl, rfl, rfl⟩ (ov_move rfl) ?_
      refine LD.val rfl ⟨19, _, rfl, rfl, rfl⟩ (ov_nilCheck rfl) ?_
      refine LD.val rfl ⟨19, _, rfl, rfl, rfl⟩ (ov_field Tryd.underlying101 rfl Tryd.sizeOf24 rfl (k := 0) rfl rfl) ?_
      first | refine LD.rd rfl ⟨19, _, rfl, rfl, rfl⟩ (om_ld Tryd.isAgg24 rfl rfl) ?_
      refine LD.val rfl ⟨19, _, rfl, rfl, rfl⟩ (ov_move rfl) ?_
      refine LD.val rfl ⟨19, _, rfl, rfl, rfl⟩ (ov_nilCheck rfl) ?_
      refine LD.val rfl ⟨19, _, rfl, rfl, rfl⟩ (ov_field Tryd.underlying101 rfl Tryd.sizeOf3 rfl (k := 1) rfl rfl) ?_
      first | refine LD.rd rfl ⟨19, _, rfl, rfl, rfl⟩ (om_ld Tryd.isAgg3 rfl rfl) ?_
      first | refine LD.val rfl ⟨19, _, rfl, rfl, rfl⟩ (ov_idxSN (by first | exact Sr.spt (by assumption) | exact Sl.spt (by assumption)) Tryd.underlying24 Tryd.sizeOf72 rfl rfl (by omega)) ?_ | refine LD.val rfl ⟨19, _, rfl, rfl, rfl⟩ (ov_idxS (by first | exact Sr.spt (by assumption) | exact Sl.spt (by assumption)) Tryd.underlying24 Tryd.sizeOf72 rfl rfl (by omega)) ?_ | refine LD.val rfl ⟨19, _, rfl, rfl, rfl⟩ (ov_idx Tryd.underlying24 Tryd.sizeOf72 rfl rfl (by omega)) ?_
      refine LD.val rfl ⟨19, _, rfl, rfl, rfl⟩ (ov_field Tryd.underlying72 rfl Tryd.sizeOf3 rfl (k := 0) rfl rfl) ?_
      first | refine LD.rd rfl ⟨19, _, rfl, rfl, rfl⟩ (om_slE (j := 0) (by assumption) (by intro _; rfl) Tryd.isAgg3 rfl rfl (by exact getq default (by first | omega | (simp only [List.length_set, List.length_append, List.length_cons, List.length_nil]; omega))) rfl (by rfl)) ?_ | refine LD.rdC rfl ⟨19, _, rfl, rfl, rfl⟩ (om_srE (j := 0) (by assumption) Tryd.isAgg3 rfl rfl (by exact getq default (by first | omega | (simp only [List.length_set, List.length_append, List.length_cons, List.length_nil]; omega))) (by rfl) (by rfl) (by exact hab (by omega))) ?_ | refine LD.rd rfl ⟨19, _, rfl, rfl, rfl⟩ (om_ld Tryd.isAgg3 rfl rfl) ?_
      refine LD.val rfl ⟨19, _, rfl, rfl, rfl⟩ (ov_eql rfl rfl) ?_
      refine LD.val rfl rfl (ov_pickT rfl rfl) ?_
      refine LD.nil ?_
      refine QM.sub (e' := [(0, _), (1, _), (4, _), (5, _), (32, _)]) ⟨rfl, rfl, rfl, rfl, rfl, trivial⟩ ?_
      -- meet1: h1+
      refine QM.meetK (_) ⟨(by first | rfl | exact lk rfl (by congr 1; omega) | exact lk rfl (by simp)), rfl, rfl, rfl, rfl, trivial⟩ (by (repeat' (first | exact SubM.nil _ | refine SubM.cons rfl ?_ | refine SubM.app ?_))) ?_
      · first | (rw [decide_eq_true (show i < ws.length by omega)]; rfl) | (rw [decide_eq_false (show ¬ i < ws.length by omega)]; rfl)
    ·
      refine LD.drop rfl rfl ⟨19, _, rfl, rfl, rfl⟩ ?_
      refine LD.drop rfl rfl ⟨19, _, rfl, rfl, rfl⟩ ?_
      refine LD.drop rfl rfl ⟨19, _, rfl, rfl, rfl⟩ ?_
      refine LD.drop rfl rfl ⟨19, _, rfl, rfl, rfl⟩ ?_
      refine LD.drop rfl rfl ⟨19, _, rfl, rfl, rfl⟩ ?_
      refine LD.drop rfl rfl ⟨19, _, rfl, rfl, rfl⟩ ?_
      refine LD.drop rfl rfl ⟨19, _, rfl, rfl, rfl⟩ ?_
      refine LD.drop rfl rfl ⟨19, _, rfl, rfl, rfl⟩ ?_
      refine LD.drop rfl rfl ⟨19, _, rfl, rfl, rfl⟩ ?_
      refine LD.drop rfl rfl ⟨19, _, rfl, rfl, rfl⟩ ?_
      refine LD.drop rfl rfl ⟨19, _, rfl, rfl, rfl⟩ ?_
      refine LD.drop rfl rfl ⟨19, _, rfl, rfl, rfl⟩ ?_
      refine LD.val rfl rfl (ov_pickF rfl rfl) ?_
      refine LD.nil ?_
      refine QM.sub (e' := [(0, _), (1, _), (4, _), (5, _), (32, _)]) ⟨rfl, rfl, rfl, rfl, rfl, trivial⟩ ?_
      -- meet2: h1-
      refine QM.meetK (_) ⟨(by first | rfl | exact lk rfl (by congr 1; omega) | exact lk rfl (by simp)), rfl, rfl, rfl, rfl, trivial⟩ (by (repeat' (first | exact SubM.nil _ | refine SubM.cons rfl ?_ | refine SubM.app ?_))) ?_
      · first | (rw [decide_eq_true (show i < ws.length by omega)]; rfl) | (rw [decide_eq_false (show ¬ i < ws.length by omega)]; rfl)
  ·
    rintro q hq
    change QM _ _ _ _ _ (rB b ad n cap i 0 :: (b4, .cells #[.int .i64 0, .int .i64 0, .int .i64 0] 69 (0, 0)) :: []) _ _ _
    refine QM.then ?_
    refine wpM.joinK (α := Int) (fun kd => [(5, .int .i64 kd)]) [(0, _), (1, _), (4, _)] (fun kd => rB b ad n cap i 0 :: (b4, .cells #[.int .i64 0, .int .i64 0, .int .i64 0] 69 (0, 0)) :: []) (fun kd => kd = kindR ws i) ⟨rfl, rfl, rfl, trivial⟩ ?_ ?_
    ·
      first | refine wpM.condD rfl (fun h2 => ?_) (fun h2 => ?_) | refine wpM.condB rfl (fun h2 => ?_) (fun h2 => ?_)
      ·
        have hlt : i < ws.length := (by rw [h2] at hq; simp only [Bool.true_eq, Bool.and_eq_true, decide_eq_true_eq] at hq; exact hq.1)
        refine wpM.draw [(1, 0), (2, 0), (3, 0), (4, 1), (5, 0), (6, 0), (7, 0), (8, 1), (9, 0), (10, 0), (11, 1), (0, 2), (12, 2), (13, 0), (14, 0)] (by kernel_rfl) (by kernel_rfl) ?_
        refine LD.val rfl rfl (ov_move rfl) ?_
        refine LD.val rfl rfl (ov_nilCheck rfl) ?_
        refine LD.val rfl rfl (ov_field Tryd.underlying101 rfl Tryd.sizeOf24 rfl (k := 0) rfl rfl) ?_
        first | refine LD.rd rfl rfl (om_ld Tryd.isAgg24 rfl rfl) ?_
        refine LD.val rfl rfl (ov_move rfl) ?_
        refine LD.val rfl rfl (ov_nilCheck rfl) ?_
        refine LD.val rfl rfl (ov_field Tryd.underlying101 rfl Tryd.sizeOf3 rfl (k := 1) rfl rfl) ?_
        first | refine LD.rd rfl rfl (om_ld Tryd.isAgg3 rfl rfl) ?_
        first | refine LD.val rfl rfl (ov_idxSN (by first | exact Sr.spt (by assumption) | exact Sl.spt (by assumption)) Tryd.underlying24 Tryd.sizeOf72 rfl rfl (by omega)) ?_ | refine LD.val rfl rfl (ov_idxS (by first | exact Sr.spt (by assumption) | exact Sl.spt (by assumption)) Tryd.underlying24 Tryd.sizeOf72 rfl rfl (by omega)) ?_ | refine LD.val rfl rfl (ov_idx Tryd.underlying24 Tryd.sizeOf72 rfl rfl (by omega)) ?_
        refine LD.val rfl rfl (ov_field Tryd.underlying72 rfl Tryd.sizeOf9 rfl (k := 1) rfl rfl) ?_
        first | refine LD.rd rfl rfl (om_slE (j := 1) (by assumption) (by intro _; rfl) Tryd.isAgg9 rfl rfl (by exact getq default (by first | omega | (simp only [List.length_set, List.length_append, List.length_cons, List.length_nil]; omega))) rfl (by rfl)) ?_ | refine LD.rdC rfl rfl (om_srE (j := 1) (by assumption) Tryd.isAgg9 rfl rfl (by exact getq default (by first | omega | (simp only [List.length_set, List.length_append, List.length_cons, List.length_nil]; omega))) (by rfl) (by rfl) (by exact hab (by omega))) ?_ | refine LD.rd rfl rfl (om_ld Tryd.isAgg9 rfl rfl) ?_
        refine LD.cS rfl rfl (oc_call (enters_fn Tryd.func69 (by kernel_rfl) rfl) rfl) (fun w hm hc hg => names_spec w) (fun ad33 n33 cap33 m33 hn33 hs33 => ?_)
        refine LD.callE rfl rfl (oc_call (enters_fn Tryd.func85 (by kernel_rfl) rfl) rfl) (fun w hm hc hg => index_str (ws.getD i default).t w hn33 (hs33.srM (fun _ => rfl) hm) (by decide)) ?_
        refine LD.val rfl rfl (ov_max rfl rfl) ?_
        refine LD.val rfl rfl (ov_assign rfl) ?_
        refine LD.nil ?_
        refine QM.sub (e' := [(0, _), (1, _), (4, _), (5, _)]) ⟨rfl, rfl, rfl, rfl, trivial⟩ ?_
        -- meet1: h2+
        refine QM.meetK (_) ⟨(by first | rfl | exact lk rfl (by congr 1; omega) | exact lk rfl (by simp)), rfl, rfl, rfl, trivial⟩ (by (repeat' (first | exact SubM.nil _ | refine SubM.cons rfl ?_ | refine SubM.app ?_))) ?_
        · show mx0 (fixI _ nmW) = kindR ws i; unfold kindR; rw [if_pos (by rw [← hq]; exact h2)]; rfl
      ·
        refine wpM.skip ?_
        -- meet2: h2-
        refine QM.meetK (_) ⟨(by first | rfl | exact lk rfl (by congr 1; omega) | exact lk rfl (by simp)), rfl, rfl, rfl, trivial⟩ (by (repeat' (first | exact SubM.nil _ | refine SubM.cons rfl ?_ | refine SubM.app ?_))) ?_
        · unfold kindR; rw [if_neg (by rw [← hq, h2]; simp)]
    ·
      rintro kd rfl
      change QM _ _ _ _ _ (rB b ad n cap i 0 :: (b4, .cells #[.int .i64 0, .int .i64 0, .int .i64 0] 69 (0, 0)) :: []) _ _ _
      have hkr := kindR_rng ws i
      refine QM.then ?_
      refine wpM.seq ?_
      refine wpM.block ?_
      refine wpM.seq ?_
      refine wpM.region ?_
      refine LM.val (ov_move rfl) ?_
      refine LM.val (ov_eql rfl rfl) ?_
      refine LM.val (ov_assign rfl) ?_
      refine LM.nil ?_
      refine QM.sub (e' := [(0, _), (1, _), (4, _), (5, _), (47, _)]) ⟨rfl, rfl, rfl, rfl, rfl, trivial⟩ ?_
      refine QM.then ?_
      first | refine wpM.condD rfl (fun h3 => ?_) (fun h3 => ?_) | refine wpM.condB rfl (fun h3 => ?_) (fun h3 => ?_)
      ·
        refine wpM.seq ?_
        refine wpM.region ?_
        refine LM.val (ov_move rfl) ?_
        refine LM.cW (oc_call (enters_fn Tryd.func62 (by kernel_rfl) rfl) rfl) (fun w hm hc hg => fail_spec b (ad := ad) (n := n) (cap := cap) i 0 _ w (SubM.mem (by (repeat' (first | exact SubM.nil _ | refine SubM.cons rfl ?_ | refine SubM.app ?_))) w hm)) rfl (fun hlt => by first | exact rfl | exact absurd hlt (by omega)) ?_
        refine LM.nil ?_
        refine QM.sub (e' := [(4, _)]) ⟨rfl, trivial⟩ ?_
        refine QM.then ?_
        refine wpM.seq ?_
        refine wpM.region ?_
        refine LM.val (ov_build (cs := #[_, _, _]) rfl (by first | rfl | kernel_rfl)) ?_
        first | refine LM.stW Tryd.sizeOf69 rfl rfl rfl rfl (by first | rfl | decide | (simp; done)) (fun hlt => by first | exact rfl | exact absurd hlt (by omega)) ?_ | refine LM.st Tryd.sizeOf69 rfl rfl rfl (by first | decide | exact Nat.le_of_ble_eq_true rfl | (simp; done) | (simp; omega)) rfl (fun hlt => by first | exact rfl | exact absurd hlt (by omega)) ?_
        refine LM.nil ?_
        refine QM.sub (e' := [(4, _)]) ⟨rfl, trivial⟩ ?_
        refine QM.then ?_
        refine wpM.ret ?_
        refine QM.block_ret ?_
        refine QM.then_ret ?_
        refine QM.leaveCs (ds := ([])) (.inl rfl) [.cell 4 69] Tryd.results61 hd_nil (rc_w rfl Tryd.isAgg69 Tryd.sizeOf69 rfl rc_nil) ?_
        intro w' hm' hc'
        -- leaf 1: h3+
        rw [op_a h3]; exact ⟨rfl, hc', hm'.at b⟩
      ·
        have hlt2 := kindR_lt h3
        refine wpM.seq ?_
        refine wpM.region ?_
        refine LM.val (ov_move rfl) ?_
        refine LM.val (ov_geq rfl rfl) ?_
        refine LM.val (ov_assign rfl) ?_
        refine LM.nil ?_
        refine QM.sub (e' := [(0, _), (4, _), (5, _), (53, _)]) ⟨rfl, rfl, rfl, rfl, trivial⟩ ?_
        refine QM.then ?_
        first | refine wpM.condD rfl (fun h4 => ?_) (fun h4 => ?_) | refine wpM.condB rfl (fun h4 => ?_) (fun h4 => ?_)
        ·
          refine wpM.seq ?_
          refine wpM.region ?_
          refine LM.val (ov_move rfl) ?_
          refine LM.cW (oc_call (enters_fn Tryd.func62 (by kernel_rfl) rfl) rfl) (fun w hm hc hg => fail_spec b (ad := ad) (n := n) (cap := cap) i 0 _ w (SubM.mem (by (repeat' (first | exact SubM.nil _ | refine SubM.cons rfl ?_ | refine SubM.app ?_))) w hm)) rfl (fun hlt => by first | exact rfl | exact absurd hlt (by omega)) ?_
          refine LM.nil ?_
          refine QM.sub (e' := [(4, _)]) ⟨rfl, trivial⟩ ?_
          refine QM.then ?_
          refine wpM.seq ?_
          refine wpM.region ?_
          refine LM.val (ov_build (cs := #[_, _, _]) rfl (by first | rfl | kernel_rfl)) ?_
          first | refine LM.stW Tryd.sizeOf69 rfl rfl rfl rfl (by first | rfl | decide | (simp; done)) (fun hlt => by first | exact rfl | exact absurd hlt (by omega)) ?_ | refine LM.st Tryd.sizeOf69 rfl rfl rfl (by first | decide | exact Nat.le_of_ble_eq_true rfl | (simp; done) | (simp; omega)) rfl (fun hlt => by first | exact rfl | exact absurd hlt (by omega)) ?_
          refine LM.nil ?_
          refine QM.sub (e' := [(4, _)]) ⟨rfl, trivial⟩ ?_
          refine QM.then ?_
          refine wpM.ret ?_
          refine QM.block_ret ?_
          refine QM.then_ret ?_
          refine QM.leaveCs (ds := ([])) (.inl rfl) [.cell 4 69] Tryd.results61 hd_nil (rc_w rfl Tryd.isAgg69 Tryd.sizeOf69 rfl rc_nil) ?_
          intro w' hm' hc'
          -- leaf 2: h3- h4+
          rw [op_b h3 (by omega)]; exact ⟨rfl, hc', hm'.at b⟩
        ·
          refine wpM.skip ?_
          refine QM.block_normal ?_
          refine QM.then ?_
          refine wpM.seq ?_
          refine wpM.region ?_
          refine LM.val (ov_move rfl) ?_
          refine LM.val (ov_nilCheck rfl) ?_
          refine LM.val (ov_field Tryd.underlying101 rfl Tryd.sizeOf3 rfl (k := 1) rfl rfl) ?_
          first | refine LM.rd (om_ld Tryd.isAgg3 rfl rfl) ?_
          refine LM.val (ov_add64 rfl rfl (by omega)) ?_
          refine LM.val (ov_nilCheck rfl) ?_
          refine LM.val (ov_field Tryd.underlying101 rfl Tryd.sizeOf3 rfl (k := 1) rfl rfl) ?_
          refine LM.st Tryd.sizeOf3 rfl rfl rfl (by first | decide | exact Nat.le_of_ble_eq_true rfl | (simp; done) | (simp; omega)) rfl (fun hlt => by first | exact rfl | exact absurd hlt (by omega)) ?_
          refine LM.nil ?_
          refine QM.sub (e' := [(0, _), (4, _), (5, _)]) ⟨rfl, rfl, rfl, trivial⟩ ?_
          refine QM.then ?_
          refine wpM.seq ?_
          refine wpM.region ?_
          refine LM.val (ov_move rfl) ?_
          refine LM.callE (oc_call (enters_fn Tryd.func72 (by kernel_rfl) rfl) rfl) (fun w hm hc hg => spans_spec (kindR ws i) w) ?_
          refine LM.val (ov_move rfl) ?_
          refine LM.val (ov_extract rfl rfl) ?_
          refine LM.val (ov_extract rfl rfl) ?_
          refine LM.alloc Tryd.zeroValue114 rfl (fun b6 hb6 => ?_)
          refine LM.alloc Tryd.zeroValue114 rfl (fun b7 hb7 => ?_)
          first | refine LM.stW Tryd.sizeOf114 rfl rfl rfl rfl (by first | rfl | decide | (simp; done)) (fun hlt => by first | exact rfl | exact absurd hlt (by omega)) ?_ | refine LM.st Tryd.sizeOf114 rfl rfl rfl (by first | decide | exact Nat.le_of_ble_eq_true rfl | (simp; done) | (simp; omega)) rfl (fun hlt => by first | exact rfl | exact absurd hlt (by omega)) ?_
          first | refine LM.stW Tryd.sizeOf114 rfl rfl rfl rfl (by first | rfl | decide | (simp; done)) (fun hlt => by first | exact rfl | exact absurd hlt (by omega)) ?_ | refine LM.st Tryd.sizeOf114 rfl rfl rfl (by first | decide | exact Nat.le_of_ble_eq_true rfl | (simp; done) | (simp; omega)) rfl (fun hlt => by first | exact rfl | exact absurd hlt (by omega)) ?_
          refine LM.nil ?_
          refine QM.sub (e' := [(0, _), (4, _), (5, _), (6, _), (7, _)]) ⟨rfl, rfl, rfl, rfl, rfl, trivial⟩ ?_
          refine QM.then ?_
          refine wpM.seq ?_
          refine wpM.region ?_
          refine LM.val (ov_move rfl) ?_
          refine LM.val (ov_move rfl) ?_
          first | refine LM.rd (om_ldW Tryd.isAgg114 Tryd.sizeOf114 rfl rfl) ?_ | refine LM.rd (om_ldA Tryd.isAgg114 Tryd.sizeOf114 rfl (vs := [_, _]) rfl ⟨rfl, rfl, trivial⟩) ?_
          refine LM.cW (oc_call (enters_fn Tryd.func89 (by kernel_rfl) rfl) rfl) (fun w hm hc hg => number_spec b (i + 1) 0 (loA (kindR ws i)) (hiA (kindR ws i)) w hn hx (hl.kp hc hab) hab (SubM.mem (by (repeat' (first | exact SubM.nil _ | refine SubM.cons rfl ?_ | refine SubM.app ?_))) w hm)) rfl (fun hlt => by first | exact rfl | exact absurd hlt (by omega)) ?_
          refine LM.val (ov_build (cs := #[_, _, _]) rfl (by first | rfl | kernel_rfl)) ?_
          refine LM.alloc Tryd.zeroValue69 rfl (fun b8 hb8 => ?_)
          first | refine LM.stW Tryd.sizeOf69 rfl rfl rfl rfl (by first | rfl | decide | (simp; done)) (fun hlt => by first | exact rfl | exact absurd hlt (by omega)) ?_ | refine LM.st Tryd.sizeOf69 rfl rfl rfl (by first | decide | exact Nat.le_of_ble_eq_true rfl | (simp; done) | (simp; omega)) rfl (fun hlt => by first | exact rfl | exact absurd hlt (by omega)) ?_
          refine LM.nil ?_
          refine QM.sub (e' := [(0, _), (4, _), (7, _), (8, _)]) ⟨rfl, rfl, rfl, rfl, trivial⟩ ?_
          refine QM.then ?_
          refine wpM.seq ?_
          refine wpM.region ?_
          refine LM.val (ov_move rfl) ?_
          first | refine LM.rd (om_ldW Tryd.isAgg114 Tryd.sizeOf114 rfl rfl) ?_ | refine LM.rd (om_ldA Tryd.isAgg114 Tryd.sizeOf114 rfl (vs := [_, _]) rfl ⟨rfl, rfl, trivial⟩) ?_
          refine LM.cW (oc_call (enters_fn Tryd.func89 (by kernel_rfl) rfl) rfl) (fun w hm hc hg => number_spec b (opA ws i).1 (opA ws i).2.1 (loB (kindR ws i)) (hiB (kindR ws i)) w hn hx (hl.kp hc hab) hab (SubM.mem (by (repeat' (first | exact SubM.nil _ | refine SubM.cons rfl ?_ | refine SubM.app ?_))) w hm)) rfl (fun hlt => by first | exact rfl | exact absurd hlt (by omega)) ?_
          refine LM.val (ov_field Tryd.underlying69 rfl Tryd.sizeOf3 rfl (k := 2) rfl rfl) ?_
          refine LM.st Tryd.sizeOf3 rfl rfl rfl (by first | decide | exact Nat.le_of_ble_eq_true rfl | (simp; done) | (simp; omega)) rfl (fun hlt => by first | exact rfl | exact absurd hlt (by omega)) ?_
          refine LM.nil ?_
          refine QM.sub (e' := [(0, _), (4, _), (8, _)]) ⟨rfl, rfl, rfl, trivial⟩ ?_
          refine QM.then ?_
          refine wpM.seq ?_
          refine wpM.region ?_
          refine LM.val (ov_move rfl) ?_
          refine LM.cW (oc_call (enters_fn Tryd.func58 (by kernel_rfl) rfl) rfl) (fun w hm hc hg => need_spec b (opB ws i).1 (opB ws i).2.1 3 [59] w hn hx (hl.kp hc hab) hab (SubM.mem (by (repeat' (first | exact SubM.nil _ | refine SubM.cons rfl ?_ | refine SubM.app ?_))) w hm)) rfl (fun hlt => by first | exact rfl | exact absurd hlt (by omega)) ?_
          refine LM.nil ?_
          refine QM.sub (e' := [(4, _), (8, _)]) ⟨rfl, rfl, trivial⟩ ?_
          refine QM.then ?_
          refine wpM.seq ?_
          refine wpM.region ?_
          first | refine LM.rd (om_ldW Tryd.isAgg69 Tryd.sizeOf69 rfl rfl) ?_ | refine LM.rd (om_ldA Tryd.isAgg69 Tryd.sizeOf69 rfl (vs := [_, _, _]) rfl ⟨rfl, rfl, rfl, trivial⟩) ?_
          first | refine LM.stW Tryd.sizeOf69 rfl rfl rfl rfl (by first | rfl | decide | (simp; done)) (fun hlt => by first | exact rfl | exact absurd hlt (by omega)) ?_ | refine LM.st Tryd.sizeOf69 rfl rfl rfl (by first | decide | exact Nat.le_of_ble_eq_true rfl | (simp; done) | (simp; omega)) rfl (fun hlt => by first | exact rfl | exact absurd hlt (by omega)) ?_
          refine LM.nil ?_
          refine QM.sub (e' := [(4, _)]) ⟨rfl, trivial⟩ ?_
          refine QM.then ?_
          refine wpM.ret ?_
          refine QM.leaveCs (ds := ([])) (.inl rfl) [.cell 4 69] Tryd.results61 hd_nil (rc_w rfl Tryd.isAgg69 Tryd.sizeOf69 rfl rc_nil) ?_
          intro w' hm' hc'
          -- leaf 3: h3- h4-
          rw [op_need h3 (by omega)]; exact ⟨rfl, hc', hm'.at b⟩

end Go.Eng

