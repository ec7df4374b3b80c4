/- The walks of acts that are parsed. No condition. -/
import Derived.Test.YtoeojcnodjjpgaaDoorActA
set_option linter.unusedVariables false
set_option linter.unusedSimpArgs false
namespace Go.Eng
open Go Go.Proofs Go.RowKit

theorem oneA_0 {ws : List Wrd} {i : Nat} (h : kindA ws i = 0) : oneA ws i = (default, i, 5) := by unfold oneA; rw [if_pos h]
theorem oneA_n {ws : List Wrd} {i j : Nat} {xs : List Int} (h : kindA ws i ≠ 0) (h2 : numK ws i = (j, 5, xs)) : oneA ws i = (default, j, 5) := by unfold oneA; rw [if_neg h, h2, if_pos (show (5 : Int) ≠ 0 by decide)]
theorem oneA_s {ws : List Wrd} {i j : Nat} {xs : List Int} (h : kindA ws i ≠ 0) (h2 : numK ws i = (j, 0, xs)) (h3 : isR ws j 3 [59] = false) : oneA ws i = (default, j, 5) := by unfold oneA; rw [if_neg h, h2, if_neg (fun q => q rfl), if_neg (by rw [h3]; simp)]
theorem oneA_ok {ws : List Wrd} {i j : Nat} {xs : List Int} (h : kindA ws i ≠ 0) (h2 : numK ws i = (j, 0, xs)) (h3 : isR ws j 3 [59] = true) : oneA ws i = (toA (kindA ws i) xs, j + 1, 0) := by unfold oneA; rw [if_neg h, h2, if_neg (fun q => q rfl), if_pos h3]
theorem numG_stop {ws : List Wrd} {f j i : Nat} {xs : List Int} (hf : 0 < f) (h : (decide (ws.length ≤ j) || decide ((ws.getD j default).k ≠ 2)) = true) : numG ws f j i xs = (j, 5, xs) := by
  obtain ⟨g, rfl⟩ : ∃ g, f = g + 1 := ⟨f - 1, by omega⟩
  unfold numG; rw [if_pos h]
theorem numG_next {ws : List Wrd} {f j i : Nat} {xs : List Int} (hf : 0 < f) (h : (decide (ws.length ≤ j) || decide ((ws.getD j default).k ≠ 2)) = false) : numG ws f j i xs = numG ws (f - 1) (j + 1) (i + 1) (xs.set i (ws.getD j default).n) := by
  obtain ⟨g, rfl⟩ : ∃ g, f = g + 1 := ⟨f - 1, by omega⟩
  conv => lhs; unfold numG
  rw [if_neg (by rw [h]; simp), Nat.add_sub_cancel]
theorem kindA_yes {ws : List Wrd} {i : Nat} (hi : i < ws.length) (h : (ws.getD i default).k = 1) : kindA ws i = kindAT (ws.getD i default).t := by unfold kindA; rw [decide_eq_true hi, decide_eq_true h]; rfl
theorem kindA_no {ws : List Wrd} {i : Nat} (h : (ws.getD i default).k ≠ 1) : kindA ws i = 0 := by unfold kindA; rw [decide_eq_false h, Bool.and_false]; rfl
def AcT (r : List Act × Int × Int) (n0 : Nat) (v : Value) (m : Mem0) : Prop := ∃ ad n cap, v = .tuple #[.slice ad n cap, .int .i64 r.2.1, .int .i64 r.2.2] ∧ n = r.1.length ∧ Sl fA 49 5 n0 r.1 (.slice ad n cap) m
theorem AcT.mono {r : List Act × Int × Int} : ∀ (k k' : Nat) u m, k' ≤ k → AcT r k u m → AcT r k' u m := fun k k' u m h ⟨ad, n, cap, h1, h2, h3⟩ => ⟨ad, n, cap, h1, h2, h3.mono h⟩
def fullA (ws : List Wrd) (i : Nat) (out : List Act) : Bool := decide (out.length = 4000) && decide (kindA ws i ≠ 0)
theorem loopA_full {ws : List Wrd} {i : Nat} {out : List Act} (h : i < ws.length) (hq : fullA ws i out = true) : loopA ws i out = ([], (i : Int), 6) := by
  unfold fullA at hq; simp only [Bool.and_eq_true, decide_eq_true_eq] at hq
  rw [loopA_step h, if_neg hq.2, if_pos hq.1]
theorem loopA_bad {ws : List Wrd} {i : Nat} {out : List Act} (h : i < ws.length) (hq : fullA ws i out = false) (he : (oneA ws i).2.2 ≠ 0) : loopA ws i out = ([], ((oneA ws i).2.1 : Int), (oneA ws i).2.2) := by
  unfold fullA at hq; simp only [Bool.and_eq_false_iff, decide_eq_false_iff_not] at hq
  rw [loopA_step h]
  by_cases h0 : kindA ws i = 0
  · rw [if_pos h0, oneA_0 h0]
  · rw [if_neg h0, if_neg (by rcases hq with q | q; exact q; exact absurd h0 q), if_pos he]
theorem loopA_next {ws : List Wrd} {i : Nat} {out : List Act} (h : i < ws.length) (hq : fullA ws i out = false) (he : (oneA ws i).2.2 = 0) : loopA ws i out = loopA ws (oneA ws i).2.1 (out ++ [(oneA ws i).1]) ∧ out.length ≠ 4000 := by
  unfold fullA at hq; simp only [Bool.and_eq_false_iff, decide_eq_false_iff_not] at hq
  have h0 : kindA ws i ≠ 0 := fun q => by rw [oneA_0 q] at he; cases he
  have h1 : out.length ≠ 4000 := by rcases hq with q | q; exact q; exact absurd h0 q
  exact ⟨by rw [loopA_step h, if_neg h0, if_neg h1, if_neg (fun q => q he)], h1⟩
theorem begins_eq {ws : List Wrd} {i : Nat} (hi : i < ws.length) : (decide ((ws.getD i default).k = 1) && decide (kindAT (ws.getD i default).t ≠ 0)) = decide (kindA ws i ≠ 0) := by
  by_cases h : (ws.getD i default).k = 1
  · rw [kindA_yes hi h, decide_eq_true h, Bool.true_and]
  · rw [kindA_no h, decide_eq_false h]; rfl
theorem mx0_pos {a : Int} : decide (a > 0) = decide (mx0 a ≠ 0) := decide_eq_decide.2 (by unfold mx0; constructor <;> intro h <;> (first | omega | (split at h <;> omega) | (split <;> omega)))
set_option maxRecDepth 100000 in
set_option maxHeartbeats 1000000 in
theorem actone_spec {ws : List Wrd} {ad : Option Addr} {n cap : Nat} (i : Nat) (w : World) (hn : n = ws.length) (hx : ws.length ≤ 1000000000) (hl : Sr fW 4 ws (.slice ad n cap) w) (hi : i < ws.length) : Ret Tryd.prog 53 #[.slice ad n cap, .int .i64 (i : Nat)] w (fun v w' => v = .tuple #[.agg (fA (oneA ws i).1).toArray, .int .i64 ((oneA ws i).2.1 : Nat), .int .i64 (oneA ws i).2.2] ∧ Ext w w') := by
  refine Ret.enterM (l := [.slice ad n cap, .int .i64 (i : Nat)]) Tryd.func53 rfl Tryd.ntmps53 rfl ([]) (no) (Mem.nil w) ?_
  refine wpM.seq ?_
  refine wpM.region ?_
  refine LM.alloc Tryd.zeroValue49 rfl (fun b4 hb4 => ?_)
  refine LM.val (ov_assign rfl) ?_
  refine LM.val (ov_assign rfl) ?_
  refine LM.nil ?_
  refine QM.sub (e' := [(0, _), (1, _), (4, _)]) ⟨rfl, rfl, rfl, trivial⟩ ?_
  refine QM.then ?_
  refine wpM.seq ?_
  refine wpM.region ?_
  refine LM.val (ov_assign rfl) ?_
  refine LM.nil ?_
  refine QM.sub (e' := [(0, _), (1, _), (4, _), (7, _)]) ⟨rfl, rfl, rfl, rfl, trivial⟩ ?_
  refine QM.then ?_
  refine wpM.seq ?_
  refine wpM.seq ?_
  refine wpM.region ?_
  refine LM.val (ov_move rfl) ?_
  refine LM.val (ov_move rfl) ?_
  first | refine LM.val (ov_idxSN (by first | exact Sr.spt (by assumption) | exact Sl.spt (by assumption)) Tryd.underlying24 Tryd.sizeOf72 rfl rfl (by omega)) ?_ | refine LM.val (ov_idxS (by first | exact Sr.spt (by assumption) | exact Sl.spt (by assumption)) Tryd.underlying24 Tryd.sizeOf72 rfl rfl (by omega)) ?_ | refine LM.val (ov_idx Tryd.underlying24 Tryd.sizeOf72 rfl rfl (by omega)) ?_
  refine LM.val (ov_field Tryd.underlying72 rfl Tryd.sizeOf3 rfl (k := 0) rfl rfl) ?_
  first | refine LM.rd (om_slE (j := 0) (by assumption) (by intro _; rfl) Tryd.isAgg3 rfl rfl (by exact getq default (by first | omega | (simp only [List.length_set, List.length_append, List.length_cons, List.length_nil]; omega))) rfl (by rfl)) ?_ | refine LM.rdC (om_srE (j := 0) (by assumption) Tryd.isAgg3 rfl rfl (by exact getq default (by first | omega | (simp only [List.length_set, List.length_append, List.length_cons, List.length_nil]; omega))) (by rfl) (by rfl) id) ?_ | refine LM.rd (om_ld Tryd.isAgg3 rfl rfl) ?_
  refine LM.val (ov_eql rfl rfl) ?_
  refine LM.nil ?_
  refine QM.sub (e' := [(0, _), (1, _), (4, _), (7, _), (15, _)]) ⟨rfl, rfl, rfl, rfl, rfl, trivial⟩ ?_
  refine QM.then ?_
  refine wpM.joinK (α := Int) (fun kd => [(7, .int .i64 kd)]) [(0, _), (1, _), (4, _)] (fun kd => (b4, .cells (fA default).toArray 49 (0, 0)) :: []) (fun kd => kd = kindA ws i) ⟨rfl, rfl, rfl, trivial⟩ ?_ ?_
  ·
    first | refine wpM.condD rfl (fun h1 => ?_) (fun h1 => ?_) | refine wpM.condB rfl (fun h1 => ?_) (fun h1 => ?_)
    ·
      refine wpM.draw [(1, 0), (2, 0), (3, 0), (4, 0), (5, 1), (0, 2), (6, 2), (7, 0), (8, 0)] (by kernel_rfl) (by kernel_rfl) ?_
      refine LD.val rfl rfl (ov_move rfl) ?_
      refine LD.val rfl rfl (ov_move rfl) ?_
      first | refine LD.val rfl rfl (ov_idxSN (by first | exact Sr.spt (by assumption) | exact Sl.spt (by assumption)) Tryd.underlying24 Tryd.sizeOf72 rfl rfl (by omega)) ?_ | refine LD.val rfl rfl (ov_idxS (by first | exact Sr.spt (by assumption) | exact Sl.spt (by assumption)) Tryd.underlying24 Tryd.sizeOf72 rfl rfl (by omega)) ?_ | refine LD.val rfl rfl (ov_idx Tryd.underlying24 Tryd.sizeOf72 rfl rfl (by omega)) ?_
      refine LD.val rfl rfl (ov_field Tryd.underlying72 rfl Tryd.sizeOf9 rfl (k := 1) rfl rfl) ?_
      first | refine LD.rd rfl rfl (om_slE (j := 1) (by assumption) (by intro _; rfl) Tryd.isAgg9 rfl rfl (by exact getq default (by first | omega | (simp only [List.length_set, List.length_append, List.length_cons, List.length_nil]; omega))) rfl (by rfl)) ?_ | refine LD.rdC rfl rfl (om_srE (j := 1) (by assumption) Tryd.isAgg9 rfl rfl (by exact getq default (by first | omega | (simp only [List.length_set, List.length_append, List.length_cons, List.length_nil]; omega))) (by rfl) (by rfl) id) ?_ | refine LD.rd rfl rfl (om_ld Tryd.isAgg9 rfl rfl) ?_
      refine LD.cS rfl rfl (oc_call (enters_fn Tryd.func56 (by kernel_rfl) rfl) rfl) (fun w hm hc hg => anames_spec w) (fun ad16 n16 cap16 m16 hn16 hs16 => ?_)
      refine LD.callE rfl rfl (oc_call (enters_fn Tryd.func85 (by kernel_rfl) rfl) rfl) (fun w hm hc hg => index_str _ w hn16 (hs16.srM (by intro _; rfl) hm) (by decide)) ?_
      refine LD.val rfl rfl (ov_max rfl rfl) ?_
      refine LD.val rfl rfl (ov_assign rfl) ?_
      refine LD.nil ?_
      refine QM.sub (e' := [(0, _), (1, _), (4, _), (7, _)]) ⟨rfl, rfl, rfl, rfl, trivial⟩ ?_
      -- meet1: h1+
      refine QM.meetK (_) ⟨(by first | rfl | exact lk rfl (by congr 1; omega) | exact lk rfl (by simp)), rfl, rfl, rfl, trivial⟩ (by (repeat' (first | exact SubM.nil _ | refine SubM.cons rfl ?_ | refine SubM.app ?_))) ?_
      · exact (kindA_yes hi h1).symm
    ·
      refine wpM.skip ?_
      -- meet2: h1-
      refine QM.meetK (_) ⟨(by first | rfl | exact lk rfl (by congr 1; omega) | exact lk rfl (by simp)), rfl, rfl, rfl, trivial⟩ (by (repeat' (first | exact SubM.nil _ | refine SubM.cons rfl ?_ | refine SubM.app ?_))) ?_
      · exact (kindA_no h1).symm
  ·
    rintro kd rfl
    change QM _ _ _ _ _ ((b4, .cells (fA default).toArray 49 (0, 0)) :: []) _ _ _
    refine QM.then ?_
    refine wpM.seq ?_
    refine wpM.seq ?_
    refine wpM.region ?_
    refine LM.val (ov_move rfl) ?_
    refine LM.val (ov_eql rfl rfl) ?_
    refine LM.nil ?_
    refine QM.sub (e' := [(0, _), (1, _), (4, _), (7, _), (25, _)]) ⟨rfl, rfl, rfl, rfl, rfl, trivial⟩ ?_
    refine QM.then ?_
    first | refine wpM.condD rfl (fun h2 => ?_) (fun h2 => ?_) | refine wpM.condB rfl (fun h2 => ?_) (fun h2 => ?_)
    ·
      refine wpM.seq ?_
      refine wpM.region ?_
      refine LM.val (ov_build (cs := #[_, _, _, _, _]) rfl (by first | rfl | kernel_rfl)) ?_
      refine LM.val (ov_move rfl) ?_
      first | refine LM.stW Tryd.sizeOf49 rfl rfl rfl rfl (by first | rfl | decide | (simp; done)) (fun hlt => absurd hlt (by omega)) ?_ | refine LM.st Tryd.sizeOf49 rfl rfl rfl (by first | decide | exact Nat.le_of_ble_eq_true rfl | (simp; done) | (simp; omega)) rfl (fun hlt => absurd hlt (by omega)) ?_
      refine LM.val (ov_assign rfl) ?_
      refine LM.val (ov_assign rfl) ?_
      refine LM.nil ?_
      refine QM.sub (e' := [(4, _), (5, _), (6, _)]) ⟨rfl, rfl, rfl, trivial⟩ ?_
      refine QM.then ?_
      refine wpM.ret ?_
      refine QM.then_ret ?_
      refine QM.leaveCs (ds := ([])) (.inl rfl) [.cell 4 49, .tmp 5, .tmp 6] Tryd.results53 hd_nil (rc_w rfl Tryd.isAgg49 Tryd.sizeOf49 rfl (rc_tmp rfl (rc_tmp rfl rc_nil))) ?_
      intro w' hm' hc'
      -- leaf 1: h2+
      exact ⟨by rw [oneA_0 (by omega)]; rfl, hc'⟩
    ·
      refine wpM.skip ?_
      refine QM.then ?_
      refine wpM.seq ?_
      refine wpM.region ?_
      refine LM.val (ov_move rfl) ?_
      refine LM.val (ov_add64 rfl rfl (by omega)) ?_
      refine LM.val (ov_assign rfl) ?_
      refine LM.nil ?_
      refine QM.sub (e' := [(0, _), (1, _), (4, _), (7, _)]) ⟨rfl, rfl, rfl, rfl, trivial⟩ ?_
      refine QM.then ?_
      refine wpM.seq ?_
      refine wpM.region ?_
      refine LM.alloc Tryd.zeroValue137 rfl (fun b8 hb8 => ?_)
      refine LM.nil ?_
      refine QM.sub (e' := [(0, _), (1, _), (4, _), (7, _), (8, _)]) ⟨rfl, rfl, rfl, rfl, rfl, trivial⟩ ?_
      refine QM.then ?_
      refine wpM.seq ?_
      refine wpM.seq ?_
      refine wpM.region ?_
      refine LM.val (ov_move rfl) ?_
      refine LM.callE (oc_call (enters_fn Tryd.func46 (by kernel_rfl) rfl) rfl) (fun w hm hc hg => many_spec _ w) ?_
      refine LM.val (ov_move rfl) ?_
      refine LM.nil ?_
      refine QM.sub (e' := [(0, _), (1, _), (4, _), (7, _), (8, _), (31, _), (32, _)]) ⟨rfl, rfl, rfl, rfl, rfl, rfl, rfl, trivial⟩ ?_
      refine QM.then ?_
      refine wpM.block ?_
      refine wpM.loopK0 (α := Nat × Nat × List Int) (fun ⟨k, j, xs⟩ => [(1, .int .i64 (j : Nat)), (32, .int .i64 (k : Nat))]) [(0, _), (4, _), (7, _), (8, _), (31, _)] (fun ⟨k, j, xs⟩ => (b8, .cells (arr fI xs []) 137 (0, 0)) :: (b4, .cells (fA default).toArray 49 (0, 0)) :: []) (fun ⟨k, j, xs⟩ => k ≤ manyA (kindA ws i) ∧ j ≤ ws.length ∧ xs.length = 4 ∧ numG ws (manyA (kindA ws i) - k) j k xs = numK ws i) (fun ⟨k, j, xs⟩ => manyA (kindA ws i) - k) ((0, i + 1, zer4)) ⟨(by first | rfl | exact lk rfl (by congr 1; omega) | exact lk rfl (by simp)), (by first | rfl | exact lk rfl (by congr 1; omega) | exact lk rfl (by simp)), rfl, rfl, rfl, rfl, rfl, trivial⟩ (by (repeat' (first | exact SubM.nil _ | refine SubM.cons rfl ?_ | refine SubM.app ?_))) ⟨Nat.zero_le _, by omega, rfl, rfl⟩ ?_
      rintro ⟨k, j, xs⟩ ⟨hkm, hj, hx4, hN⟩
      change wpM _ _ _ _ _ _ _ ((b8, .cells (arr fI xs []) 137 (0, 0)) :: (b4, .cells (fA default).toArray 49 (0, 0)) :: []) _ _ _
      have hm4 := manyA_le (kindA ws i)
      refine wpM.seq ?_
      refine wpM.region ?_
      refine LM.val (ov_lss rfl rfl) ?_
      refine LM.nil ?_
      refine QM.sub (e' := [(0, _), (1, _), (4, _), (7, _), (8, _), (31, _), (32, _), (33, _)]) ⟨rfl, rfl, rfl, rfl, rfl, rfl, rfl, rfl, trivial⟩ ?_
      refine QM.then ?_
      refine wpM.seq ?_
      first | refine wpM.condD rfl (fun h3 => ?_) (fun h3 => ?_) | refine wpM.condB rfl (fun h3 => ?_) (fun h3 => ?_)
      ·
        refine wpM.skip ?_
        refine QM.then ?_
        refine wpM.seq ?_
        refine wpM.block ?_
        refine wpM.seq ?_
        refine wpM.region ?_
        refine LM.val (ov_move rfl) ?_
        refine LM.val (ov_assign rfl) ?_
        refine LM.nil ?_
        refine QM.sub (e' := [(0, _), (1, _), (4, _), (7, _), (8, _), (9, _), (31, _), (32, _)]) ⟨rfl, rfl, rfl, rfl, rfl, rfl, rfl, rfl, trivial⟩ ?_
        refine QM.then ?_
        refine wpM.seq ?_
        refine wpM.seq ?_
        refine wpM.joinK (α := Bool) (fun q => [(46, .bool q)]) [(0, _), (1, _), (4, _), (7, _), (8, _), (9, _), (31, _), (32, _)] (fun q => (b8, .cells (arr fI xs []) 137 (0, 0)) :: (b4, .cells (fA default).toArray 49 (0, 0)) :: []) (fun q => q = (decide (ws.length ≤ j) || decide ((ws.getD j default).k ≠ 2))) ⟨rfl, rfl, rfl, rfl, rfl, rfl, rfl, rfl, trivial⟩ ?_ ?_
        ·
          refine wpM.region ?_
          refine LM.val (ov_move rfl) ?_
          refine LM.val (ov_move rfl) ?_
          refine LM.val (ov_len Tryd.underlying24 rfl) ?_
          refine LM.val (ov_geq rfl rfl) ?_
          refine LM.val (ov_move rfl) ?_
          first | refine LM.splitD (t := 39) rfl (fun h4 => ?_) (fun h4 => ?_) | refine LM.splitB (t := 39) rfl (fun h4 => ?_) (fun h4 => ?_)
          ·
            refine LM.drop (t := 39) rfl rfl rfl ?_
            refine LM.drop (t := 39) rfl rfl rfl ?_
            refine LM.drop (t := 39) rfl rfl rfl ?_
            refine LM.drop (t := 39) rfl rfl rfl ?_
            refine LM.drop (t := 39) rfl rfl rfl ?_
            refine LM.drop (t := 39) rfl rfl rfl ?_
            refine LM.val (ov_pickT rfl rfl) ?_
            refine LM.nil ?_
            refine QM.sub (e' := [(0, _), (1, _), (4, _), (7, _), (8, _), (9, _), (31, _), (32, _), (46, _)]) ⟨rfl, rfl, rfl, rfl, rfl, rfl, rfl, rfl, rfl, trivial⟩ ?_
            -- meet1: h2- h3+ h4+
            refine QM.meetK (_) ⟨(by first | rfl | exact lk rfl (by congr 1; omega) | exact lk rfl (by simp)), rfl, rfl, rfl, rfl, rfl, rfl, rfl, rfl, trivial⟩ (by (repeat' (first | exact SubM.nil _ | refine SubM.cons rfl ?_ | refine SubM.app ?_))) ?_
            · rw [decide_eq_true (show ws.length ≤ j by omega), Bool.true_or]
          ·
            refine LM.strip (t := 39) rfl rfl rfl ?_
            refine LM.val (ov_move rfl) ?_
            refine LM.strip (t := 39) rfl rfl rfl ?_
            refine LM.val (ov_move rfl) ?_
            refine LM.strip (t := 39) rfl rfl rfl ?_
            first | refine LM.val (ov_idxSN (by first | exact Sr.spt (by assumption) | exact Sl.spt (by assumption)) Tryd.underlying24 Tryd.sizeOf72 rfl rfl (by omega)) ?_ | refine LM.val (ov_idxS (by first | exact Sr.spt (by assumption) | exact Sl.spt (by assumption)) Tryd.underlying24 Tryd.sizeOf72 rfl rfl (by omega)) ?_ | refine LM.val (ov_idx Tryd.underlying24 Tryd.sizeOf72 rfl rfl (by omega)) ?_
            refine LM.strip (t := 39) rfl rfl rfl ?_
            refine LM.val (ov_field Tryd.underlying72 rfl Tryd.sizeOf3 rfl (k := 0) rfl rfl) ?_
            refine LM.strip (t := 39) rfl rfl rfl ?_
            first | refine LM.rd (om_slE (j := 0) (by assumption) (by intro _; rfl) Tryd.isAgg3 rfl rfl (by exact getq default (by first | omega | (simp only [List.length_set, List.length_append, List.length_cons, List.length_nil]; omega))) rfl (by rfl)) ?_ | refine LM.rdC (om_srE (j := 0) (by assumption) Tryd.isAgg3 rfl rfl (by exact getq default (by first | omega | (simp only [List.length_set, List.length_append, List.length_cons, List.length_nil]; omega))) (by rfl) (by rfl) id) ?_ | refine LM.rd (om_ld Tryd.isAgg3 rfl rfl) ?_
            refine LM.strip (t := 39) rfl rfl rfl ?_
            refine LM.val (ov_neq rfl rfl) ?_
            refine LM.val (ov_pickF rfl rfl) ?_
            refine LM.nil ?_
            refine QM.sub (e' := [(0, _), (1, _), (4, _), (7, _), (8, _), (9, _), (31, _), (32, _), (46, _)]) ⟨rfl, rfl, rfl, rfl, rfl, rfl, rfl, rfl, rfl, trivial⟩ ?_
            -- meet2: h2- h3+ h4-
            refine QM.meetK (_) ⟨(by first | rfl | exact lk rfl (by congr 1; omega) | exact lk rfl (by simp)), rfl, rfl, rfl, rfl, rfl, rfl, rfl, rfl, trivial⟩ (by (repeat' (first | exact SubM.nil _ | refine SubM.cons rfl ?_ | refine SubM.app ?_))) ?_
            · rw [decide_eq_false (show ¬ ws.length ≤ j by omega), Bool.false_or]
        ·
          rintro q hq
          change QM _ _ _ _ _ ((b8, .cells (arr fI xs []) 137 (0, 0)) :: (b4, .cells (fA default).toArray 49 (0, 0)) :: []) _ _ _
          refine QM.then ?_
          first | refine wpM.condD rfl (fun h5 => ?_) (fun h5 => ?_) | refine wpM.condB rfl (fun h5 => ?_) (fun h5 => ?_)
          ·
            refine wpM.seq ?_
            refine wpM.region ?_
            refine LM.val (ov_build (cs := #[_, _, _, _, _]) rfl (by first | rfl | kernel_rfl)) ?_
            refine LM.val (ov_move rfl) ?_
            first | refine LM.stW Tryd.sizeOf49 rfl rfl rfl rfl (by first | rfl | decide | (simp; done)) (fun hlt => absurd hlt (by omega)) ?_ | refine LM.st Tryd.sizeOf49 rfl rfl rfl (by first | decide | exact Nat.le_of_ble_eq_true rfl | (simp; done) | (simp; omega)) rfl (fun hlt => absurd hlt (by omega)) ?_
            refine LM.val (ov_assign rfl) ?_
            refine LM.val (ov_assign rfl) ?_
            refine LM.nil ?_
            refine QM.sub (e' := [(4, _), (5, _), (6, _)]) ⟨rfl, rfl, rfl, trivial⟩ ?_
            refine QM.then ?_
            refine wpM.ret ?_
            refine QM.then_ret ?_
            refine QM.block_ret ?_
            refine QM.then_ret ?_
            refine QM.then_ret ?_
            refine QM.block_ret ?_
            refine QM.then_ret ?_
            refine QM.leaveCs (ds := ([])) (.inl rfl) [.cell 4 49, .tmp 5, .tmp 6] Tryd.results53 hd_nil (rc_w rfl Tryd.isAgg49 Tryd.sizeOf49 rfl (rc_tmp rfl (rc_tmp rfl rc_nil))) ?_
            intro w' hm' hc'
            -- leaf 2: h2- h3+ h5+
            have hNK : numK ws i = (j, 5, xs) := (by rw [← hN, numG_stop (by omega) (hq.symm.trans h5)]); exact ⟨by rw [oneA_n h2 hNK]; rfl, hc'⟩
          ·
            have hjn : j < ws.length := (by have h := hq.symm.trans h5; simp only [Bool.or_eq_false_iff, decide_eq_false_iff_not] at h; omega)
            refine wpM.skip ?_
            refine QM.then ?_
            refine wpM.seq ?_
            refine wpM.region ?_
            refine LM.val (ov_move rfl) ?_
            refine LM.val (ov_move rfl) ?_
            refine LM.val (ov_move rfl) ?_
            first | refine LM.val (ov_idxSN (by first | exact Sr.spt (by assumption) | exact Sl.spt (by assumption)) Tryd.underlying24 Tryd.sizeOf72 rfl rfl (by omega)) ?_ | refine LM.val (ov_idxS (by first | exact Sr.spt (by assumption) | exact Sl.spt (by assumption)) Tryd.underlying24 Tryd.sizeOf72 rfl rfl (by omega)) ?_ | refine LM.val (ov_idx Tryd.underlying24 Tryd.sizeOf72 rfl rfl (by omega)) ?_
            refine LM.val (ov_field Tryd.underlying72 rfl Tryd.sizeOf3 rfl (k := 2) rfl rfl) ?_
            first | refine LM.rd (om_slE (j := 2) (by assumption) (by intro _; rfl) Tryd.isAgg3 rfl rfl (by exact getq default (by first | omega | (simp only [List.length_set, List.length_append, List.length_cons, List.length_nil]; omega))) rfl (by rfl)) ?_ | refine LM.rdC (om_srE (j := 2) (by assumption) Tryd.isAgg3 rfl rfl (by exact getq default (by first | omega | (simp only [List.length_set, List.length_append, List.length_cons, List.length_nil]; omega))) (by rfl) (by rfl) id) ?_ | refine LM.rd (om_ld Tryd.isAgg3 rfl rfl) ?_
            first | refine LM.val (ov_idxAN Tryd.underlying137 Tryd.sizeOf3 rfl rfl (by omega)) ?_ | refine LM.val (ov_idxA Tryd.underlying137 Tryd.sizeOf3 rfl rfl (by omega)) ?_
            refine LM.stE1 (f := fI) _ (by intro _; rfl) Tryd.sizeOf3 rfl rfl rfl rfl (getq 0 (by omega)) rfl rfl rfl (fun hlt => absurd hlt (by omega)) ?_
            refine LM.nil ?_
            refine QM.sub (e' := [(0, _), (1, _), (4, _), (7, _), (8, _), (31, _), (32, _)]) ⟨rfl, rfl, rfl, rfl, rfl, rfl, rfl, trivial⟩ ?_
            refine QM.then ?_
            refine wpM.region ?_
            refine LM.val (ov_move rfl) ?_
            refine LM.val (ov_add64 rfl rfl (by omega)) ?_
            refine LM.val (ov_assign rfl) ?_
            refine LM.nil ?_
            refine QM.sub (e' := [(0, _), (1, _), (4, _), (7, _), (8, _), (31, _), (32, _)]) ⟨rfl, rfl, rfl, rfl, rfl, rfl, rfl, trivial⟩ ?_
            refine QM.block_normal ?_
            refine QM.then ?_
            refine wpM.region ?_
            refine LM.val (ov_add64 rfl rfl (by omega)) ?_
            refine LM.val (ov_move rfl) ?_
            refine LM.nil ?_
            refine QM.sub (e' := [(0, _), (1, _), (4, _), (7, _), (8, _), (31, _), (32, _)]) ⟨rfl, rfl, rfl, rfl, rfl, rfl, rfl, trivial⟩ ?_
            -- again1: h2- h3+ h5-
            refine QM.againK ((k + 1, j + 1, xs.set k (ws.getD j default).n)) ⟨(by first | rfl | exact lk rfl (by congr 1; omega) | exact lk rfl (by simp)), (by first | rfl | exact lk rfl (by congr 1; omega) | exact lk rfl (by simp)), rfl, rfl, rfl, rfl, rfl, trivial⟩ (by (repeat' (first | exact SubM.nil _ | refine SubM.cons rfl ?_ | refine SubM.app ?_))) (fun _ h => h) ?_ ?_
            · exact ⟨by omega, by omega, by simpa using hx4, by rw [show manyA (kindA ws i) - (k + 1) = manyA (kindA ws i) - k - 1 by omega, ← numG_next (by omega) (hq.symm.trans h5)]; exact hN⟩
            · first | omega | (dsimp only; omega)
      ·
        refine wpM.exit ?_
        refine QM.then_exit ?_
        refine QM.then_exit ?_
        refine QM.block_hit ?_
        refine QM.then ?_
        refine wpM.seq ?_
        refine wpM.seq ?_
        refine wpM.joinK (α := Bool) (fun q => [(78, .bool q)]) [(1, _), (4, _), (7, _), (8, _)] (fun q => (b8, .cells (arr fI xs []) 137 (0, 0)) :: (b4, .cells (fA default).toArray 49 (0, 0)) :: []) (fun q => q = !isR ws j 3 [59]) ⟨rfl, rfl, rfl, rfl, trivial⟩ ?_ ?_
        ·
          refine wpM.region ?_
          refine LM.val (ov_move rfl) ?_
          refine LM.val (ov_move rfl) ?_
          refine LM.val (ov_len Tryd.underlying24 rfl) ?_
          refine LM.val (ov_geq rfl rfl) ?_
          refine LM.val (ov_move rfl) ?_
          first | refine LM.splitD (t := 63) rfl (fun h6 => ?_) (fun h6 => ?_) | refine LM.splitB (t := 63) rfl (fun h6 => ?_) (fun h6 => ?_)
          ·
            refine LM.drop (t := 63) rfl rfl rfl ?_
            refine LM.drop (t := 63) rfl rfl rfl ?_
            refine LM.drop (t := 63) rfl rfl rfl ?_
            refine LM.drop (t := 63) rfl rfl rfl ?_
            refine LM.drop (t := 63) rfl rfl rfl ?_
            refine LM.drop (t := 63) rfl rfl rfl ?_
            refine LM.val (ov_pickT rfl rfl) ?_
            refine LM.val (ov_move rfl) ?_
            refine LM.drop (t := 71) rfl rfl rfl ?_
            refine LM.drop (t := 71) rfl rfl rfl ?_
            refine LM.drop (t := 71) rfl rfl rfl ?_
            refine LM.drop (t := 71) rfl rfl rfl ?_
            refine LM.drop (t := 71) rfl rfl rfl ?_
            refine LM.drop (t := 71) rfl rfl rfl ?_
            refine LM.val (ov_pickT rfl rfl) ?_
            refine LM.nil ?_
            refine QM.sub (e' := [(1, _), (4, _), (7, _), (8, _), (78, _)]) ⟨rfl, rfl, rfl, rfl, rfl, trivial⟩ ?_
            -- meet1: h2- h3- h6+
            refine QM.meetK (_) ⟨(by first | rfl | exact lk rfl (by congr 1; omega) | exact lk rfl (by simp)), rfl, rfl, rfl, rfl, trivial⟩ (by (repeat' (first | exact SubM.nil _ | refine SubM.cons rfl ?_ | refine SubM.app ?_))) ?_
            · unfold isR; rw [decide_eq_false (show ¬ j < ws.length by omega)]; rfl
          ·
            refine LM.strip (t := 63) rfl rfl rfl ?_
            refine LM.val (ov_move rfl) ?_
            refine LM.strip (t := 63) rfl rfl rfl ?_
            refine LM.val (ov_move rfl) ?_
            refine LM.strip (t := 63) rfl rfl rfl ?_
            first | refine LM.val (ov_idxSN (by first | exact Sr.spt (by assumption) | exact Sl.spt (by assumption)) Tryd.underlying24 Tryd.sizeOf72 rfl rfl (by omega)) ?_ | refine LM.val (ov_idxS (by first | exact Sr.spt (by assumption) | exact Sl.spt (by assumption)) Tryd.underlying24 Tryd.sizeOf72 rfl rfl (by omega)) ?_ | refine LM.val (ov_idx Tryd.underlying24 Tryd.sizeOf72 rfl rfl (by omega)) ?_
            refine LM.strip (t := 63) rfl rfl rfl ?_
            refine LM.val (ov_field Tryd.underlying72 rfl Tryd.sizeOf3 rfl (k := 0) rfl rfl) ?_
            refine LM.strip (t := 63) rfl rfl rfl ?_
            first | refine LM.rd (om_slE (j := 0) (by assumption) (by intro _; rfl) Tryd.isAgg3 rfl rfl (by exact getq default (by first | omega | (simp only [List.length_set, List.length_append, List.length_cons, List.length_nil]; omega))) rfl (by rfl)) ?_ | refine LM.rdC (om_srE (j := 0) (by assumption) Tryd.isAgg3 rfl rfl (by exact getq default (by first | omega | (simp only [List.length_set, List.length_append, List.length_cons, List.length_nil]; omega))) (by rfl) (by rfl) id) ?_ | refine LM.rd (om_ld Tryd.isAgg3 rfl rfl) ?_
            refine LM.strip (t := 63) rfl rfl rfl ?_
            refine LM.val (ov_neq rfl rfl) ?_
            refine LM.val (ov_pickF rfl rfl) ?_
            refine LM.val (ov_move rfl) ?_
            first | refine LM.splitD (t := 71) rfl (fun h7 => ?_) (fun h7 => ?_) | refine LM.splitB (t := 71) rfl (fun h7 => ?_) (fun h7 => ?_)
            ·
              refine LM.drop (t := 71) rfl rfl rfl ?_
              refine LM.drop (t := 71) rfl rfl rfl ?_
              refine LM.drop (t := 71) rfl rfl rfl ?_
              refine LM.drop (t := 71) rfl rfl rfl ?_
              refine LM.drop (t := 71) rfl rfl rfl ?_
              refine LM.drop (t := 71) rfl rfl rfl ?_
              refine LM.val (ov_pickT rfl rfl) ?_
              refine LM.nil ?_
              refine QM.sub (e' := [(1, _), (4, _), (7, _), (8, _), (78, _)]) ⟨rfl, rfl, rfl, rfl, rfl, trivial⟩ ?_
              -- meet2: h2- h3- h6- h7+
              refine QM.meetK (_) ⟨(by first | rfl | exact lk rfl (by congr 1; omega) | exact lk rfl (by simp)), rfl, rfl, rfl, rfl, trivial⟩ (by (repeat' (first | exact SubM.nil _ | refine SubM.cons rfl ?_ | refine SubM.app ?_))) ?_
              · unfold isR; rw [decide_eq_true (show j < ws.length by omega), decide_eq_false (show ¬ (ws.getD j default).k = 3 by omega)]; rfl
            ·
              refine LM.strip (t := 71) rfl rfl rfl ?_
              refine LM.val (ov_move rfl) ?_
              refine LM.strip (t := 71) rfl rfl rfl ?_
              refine LM.val (ov_move rfl) ?_
              refine LM.strip (t := 71) rfl rfl rfl ?_
              first | refine LM.val (ov_idxSN (by first | exact Sr.spt (by assumption) | exact Sl.spt (by assumption)) Tryd.underlying24 Tryd.sizeOf72 rfl rfl (by omega)) ?_ | refine LM.val (ov_idxS (by first | exact Sr.spt (by assumption) | exact Sl.spt (by assumption)) Tryd.underlying24 Tryd.sizeOf72 rfl rfl (by omega)) ?_ | refine LM.val (ov_idx Tryd.underlying24 Tryd.sizeOf72 rfl rfl (by omega)) ?_
              refine LM.strip (t := 71) rfl rfl rfl ?_
              refine LM.val (ov_field Tryd.underlying72 rfl Tryd.sizeOf9 rfl (k := 1) rfl rfl) ?_
              refine LM.strip (t := 71) rfl rfl rfl ?_
              first | refine LM.rd (om_slE (j := 1) (by assumption) (by intro _; rfl) Tryd.isAgg9 rfl rfl (by exact getq default (by first | omega | (simp only [List.length_set, List.length_append, List.length_cons, List.length_nil]; omega))) rfl (by rfl)) ?_ | refine LM.rdC (om_srE (j := 1) (by assumption) Tryd.isAgg9 rfl rfl (by exact getq default (by first | omega | (simp only [List.length_set, List.length_append, List.length_cons, List.length_nil]; omega))) (by rfl) (by rfl) id) ?_ | refine LM.rd (om_ld Tryd.isAgg9 rfl rfl) ?_
              refine LM.strip (t := 71) rfl rfl rfl ?_
              refine LM.val (ov_sneqL rfl rfl) ?_
              refine LM.val (ov_pickF rfl rfl) ?_
              refine LM.nil ?_
              refine QM.sub (e' := [(1, _), (4, _), (7, _), (8, _), (78, _)]) ⟨rfl, rfl, rfl, rfl, rfl, trivial⟩ ?_
              -- meet3: h2- h3- h6- h7-
              refine QM.meetK (_) ⟨(by first | rfl | exact lk rfl (by congr 1; omega) | exact lk rfl (by simp)), rfl, rfl, rfl, rfl, trivial⟩ (by (repeat' (first | exact SubM.nil _ | refine SubM.cons rfl ?_ | refine SubM.app ?_))) ?_
              · unfold isR; rw [decide_eq_true (show j < ws.length by omega), decide_eq_true (show (ws.getD j default).k = 3 by omega)]; simp only [Bool.true_and, decide_not]
        ·
          rintro q hq
          change QM _ _ _ _ _ ((b8, .cells (arr fI xs []) 137 (0, 0)) :: (b4, .cells (fA default).toArray 49 (0, 0)) :: []) _ _ _
          refine QM.then ?_
          first | refine wpM.condD rfl (fun h8 => ?_) (fun h8 => ?_) | refine wpM.condB rfl (fun h8 => ?_) (fun h8 => ?_)
          ·
            refine wpM.seq ?_
            refine wpM.region ?_
            refine LM.val (ov_build (cs := #[_, _, _, _, _]) rfl (by first | rfl | kernel_rfl)) ?_
            refine LM.val (ov_move rfl) ?_
            first | refine LM.stW Tryd.sizeOf49 rfl rfl rfl rfl (by first | rfl | decide | (simp; done)) (fun hlt => absurd hlt (by omega)) ?_ | refine LM.st Tryd.sizeOf49 rfl rfl rfl (by first | decide | exact Nat.le_of_ble_eq_true rfl | (simp; done) | (simp; omega)) rfl (fun hlt => absurd hlt (by omega)) ?_
            refine LM.val (ov_assign rfl) ?_
            refine LM.val (ov_assign rfl) ?_
            refine LM.nil ?_
            refine QM.sub (e' := [(4, _), (5, _), (6, _)]) ⟨rfl, rfl, rfl, trivial⟩ ?_
            refine QM.then ?_
            refine wpM.ret ?_
            refine QM.then_ret ?_
            refine QM.leaveCs (ds := ([])) (.inl rfl) [.cell 4 49, .tmp 5, .tmp 6] Tryd.results53 hd_nil (rc_w rfl Tryd.isAgg49 Tryd.sizeOf49 rfl (rc_tmp rfl (rc_tmp rfl rc_nil))) ?_
            intro w' hm' hc'
            -- leaf 3: h2- h3- h8+
            have hNK : numK ws i = (j, 0, xs) := (by rw [← hN, show manyA (kindA ws i) - k = 0 by omega]; rfl); exact ⟨by rw [oneA_s h2 hNK (by simpa using hq.symm.trans h8)]; rfl, hc'⟩
          ·
            refine wpM.skip ?_
            refine QM.then ?_
            refine wpM.seq ?_
            refine wpM.region ?_
            refine LM.val (ov_move rfl) ?_
            first | refine LM.val (ov_idxAN Tryd.underlying137 Tryd.sizeOf3 rfl rfl (by omega)) ?_ | refine LM.val (ov_idxA Tryd.underlying137 Tryd.sizeOf3 rfl rfl (by omega)) ?_
            first | refine LM.rd (om_ldE1 (by intro _; rfl) Tryd.isAgg3 rfl rfl rfl (getq 0 (by omega)) (by rfl)) ?_ | refine LM.rd (om_ld Tryd.isAgg3 rfl rfl) ?_
            first | refine LM.val (ov_idxAN Tryd.underlying137 Tryd.sizeOf3 rfl rfl (by omega)) ?_ | refine LM.val (ov_idxA Tryd.underlying137 Tryd.sizeOf3 rfl rfl (by omega)) ?_
            first | refine LM.rd (om_ldE1 (by intro _; rfl) Tryd.isAgg3 rfl rfl rfl (getq 0 (by omega)) (by rfl)) ?_ | refine LM.rd (om_ld Tryd.isAgg3 rfl rfl) ?_
            first | refine LM.val (ov_idxAN Tryd.underlying137 Tryd.sizeOf3 rfl rfl (by omega)) ?_ | refine LM.val (ov_idxA Tryd.underlying137 Tryd.sizeOf3 rfl rfl (by omega)) ?_
            first | refine LM.rd (om_ldE1 (by intro _; rfl) Tryd.isAgg3 rfl rfl rfl (getq 0 (by omega)) (by rfl)) ?_ | refine LM.rd (om_ld Tryd.isAgg3 rfl rfl) ?_
            first | refine LM.val (ov_idxAN Tryd.underlying137 Tryd.sizeOf3 rfl rfl (by omega)) ?_ | refine LM.val (ov_idxA Tryd.underlying137 Tryd.sizeOf3 rfl rfl (by omega)) ?_
            first | refine LM.rd (om_ldE1 (by intro _; rfl) Tryd.isAgg3 rfl rfl rfl (getq 0 (by omega)) (by rfl)) ?_ | refine LM.rd (om_ld Tryd.isAgg3 rfl rfl) ?_
            refine LM.val (ov_build (cs := #[_, _, _, _, _]) rfl (by first | rfl | kernel_rfl)) ?_
            refine LM.val (ov_move rfl) ?_
            refine LM.val (ov_add64 rfl rfl (by omega)) ?_
            first | refine LM.stW Tryd.sizeOf49 rfl rfl rfl rfl (by first | rfl | decide | (simp; done)) (fun hlt => absurd hlt (by omega)) ?_ | refine LM.st Tryd.sizeOf49 rfl rfl rfl (by first | decide | exact Nat.le_of_ble_eq_true rfl | (simp; done) | (simp; omega)) rfl (fun hlt => absurd hlt (by omega)) ?_
            refine LM.val (ov_assign rfl) ?_
            refine LM.val (ov_assign rfl) ?_
            refine LM.nil ?_
            refine QM.sub (e' := [(4, _), (5, _), (6, _)]) ⟨rfl, rfl, rfl, trivial⟩ ?_
            refine QM.then ?_
            refine wpM.ret ?_
            refine QM.leaveCs (ds := ([])) (.inl rfl) [.cell 4 49, .tmp 5, .tmp 6] Tryd.results53 hd_nil (rc_w rfl Tryd.isAgg49 Tryd.sizeOf49 rfl (rc_tmp rfl (rc_tmp rfl rc_nil))) ?_
            intro w' hm' hc'
            -- leaf 4: h2- h3- h8-
            have hNK : numK ws i = (j, 0, xs) := (by rw [← hN, show manyA (kindA ws i) - k = 0 by omega]; rfl); exact ⟨by rw [oneA_ok h2 hNK (by simpa using hq.symm.trans h8)]; rfl, hc'⟩

set_option maxRecDepth 100000 in
theorem begins_spec (x : Wrd) (w : World) : Ret Tryd.prog 52 #[.agg (fW x).toArray] w (fun v w' => v = .bool (decide (x.k = 1) && decide (kindAT x.t ≠ 0)) ∧ Ext w w') := by
  refine Ret.enterM (l := [.agg (fW x).toArray]) Tryd.func52 rfl Tryd.ntmps52 rfl ([]) (no) (Mem.nil w) ?_
  refine wpM.seq ?_
  refine wpM.region ?_
  refine LM.box rfl rfl (fun b1 hb1 => ?_)
  refine LM.val (ov_assign rfl) ?_
  refine LM.nil ?_
  refine QM.sub (e' := [(1, _)]) ⟨rfl, trivial⟩ ?_
  refine QM.then ?_
  refine wpM.seq ?_
  refine wpM.draw [(0, 0), (1, 1), (2, 0), (3, 0), (5, 0), (6, 1), (4, 2), (7, 2), (8, 0), (9, 0), (10, 0)] (by kernel_rfl) (by kernel_rfl) ?_
  refine LD.val rfl rfl (ov_field Tryd.underlying72 rfl Tryd.sizeOf3 rfl (k := 0) rfl rfl) ?_
  first | refine LD.rd rfl rfl (om_ld Tryd.isAgg3 rfl rfl) ?_
  refine LD.val rfl rfl (ov_eql rfl rfl) ?_
  refine LD.val rfl rfl (ov_move rfl) ?_
  first | refine LD.splitD (t := 6) rfl (fun h1 => ?_) (fun h1 => ?_) | refine LD.splitB (t := 6) rfl (fun h1 => ?_) (fun h1 => ?_)
  ·
    refine LD.val rfl ⟨6, _, rfl, rfl, rfl⟩ (ov_field Tryd.underlying72 rfl Tryd.sizeOf9 rfl (k := 1) rfl rfl) ?_
    first | refine LD.rd rfl ⟨6, _, rfl, rfl, rfl⟩ (om_ld Tryd.isAgg9 rfl rfl) ?_
    refine LD.cS rfl ⟨6, _, rfl, rfl, rfl⟩ (oc_call (enters_fn Tryd.func56 (by kernel_rfl) rfl) rfl) (fun w hm hc hg => anames_spec w) (fun ad7 n7 cap7 m7 hn7 hs7 => ?_)
    refine LD.callE rfl ⟨6, _, rfl, rfl, rfl⟩ (oc_call (enters_fn Tryd.func85 (by kernel_rfl) rfl) rfl) (fun w hm hc hg => index_str _ w hn7 (hs7.srM (by intro _; rfl) hm) (by decide)) ?_
    refine LD.val rfl ⟨6, _, rfl, rfl, rfl⟩ (ov_gtr rfl rfl) ?_
    refine LD.val rfl rfl (ov_pickT rfl rfl) ?_
    refine LD.val rfl rfl (ov_assign rfl) ?_
    refine LD.nil ?_
    refine QM.sub (e' := [(2, _)]) ⟨rfl, trivial⟩ ?_
    refine QM.then ?_
    refine wpM.ret ?_
    refine QM.leave (.inl rfl) [.tmp 2] Tryd.results52 rfl ?_
    intro w' hm' hc' hg'
    -- leaf 1: h1+
    refine ⟨?_, hc'⟩; rw [decide_eq_true h1, Bool.true_and]; show Value.bool (decide (_ > 0)) = _; rw [mx0_pos]; rfl
  ·
    refine LD.drop rfl rfl ⟨6, _, rfl, rfl, rfl⟩ ?_
    refine LD.drop rfl rfl ⟨6, _, rfl, rfl, rfl⟩ ?_
    refine LD.drop rfl rfl ⟨6, _, rfl, rfl, rfl⟩ ?_
    refine LD.drop rfl rfl ⟨6, _, rfl, rfl, rfl⟩ ?_
    refine LD.drop rfl rfl ⟨6, _, rfl, rfl, rfl⟩ ?_
    refine LD.val rfl rfl (ov_pickF rfl rfl) ?_
    refine LD.val rfl rfl (ov_assign rfl) ?_
    refine LD.nil ?_
    refine QM.sub (e' := [(2, _)]) ⟨rfl, trivial⟩ ?_
    refine QM.then ?_
    refine wpM.ret ?_
    refine QM.leave (.inl rfl) [.tmp 2] Tryd.results52 rfl ?_
    intro w' hm' hc' hg'
    -- leaf 2: h1-
    refine ⟨?_, hc'⟩; rw [decide_eq_false h1]; rfl

set_option maxRecDepth 100000 in
set_option maxHeartbeats 1000000 in
theorem aparse_spec {ws : List Wrd} {ad : Option Addr} {n cap : Nat} (p : Int) (w : World) (hn : n = ws.length) (hx : ws.length ≤ 1000000000) (hl : Sr fW 4 ws (.slice ad n cap) w) : Ret Tryd.prog 18 #[.slice ad n cap, .int .i64 p] w (fun v w' => Ext w w' ∧ ∃ m, AcT (actsO ws p) w.heap.size v m ∧ Mem w' m ∧ ∀ p ∈ m, w.heap.size ≤ p.1) := by
  refine Ret.enterM (l := [.slice ad n cap, .int .i64 p]) Tryd.func18 rfl Tryd.ntmps18 rfl ([]) (no) (Mem.nil w) ?_
  refine wpM.seq ?_
  refine wpM.region ?_
  refine LM.val (ov_assign rfl) ?_
  refine LM.val (ov_assign rfl) ?_
  refine LM.val (ov_assign rfl) ?_
  refine LM.nil ?_
  refine QM.sub (e' := [(0, _), (1, _)]) ⟨rfl, rfl, trivial⟩ ?_
  refine QM.then ?_
  refine wpM.seq ?_
  refine wpM.seq ?_
  refine wpM.region ?_
  refine LM.val (ov_move rfl) ?_
  refine LM.val (ov_lss rfl rfl) ?_
  refine LM.val (ov_move rfl) ?_
  first | refine LM.splitD (t := 13) rfl (fun h1 => ?_) (fun h1 => ?_) | refine LM.splitB (t := 13) rfl (fun h1 => ?_) (fun h1 => ?_)
  ·
    refine LM.drop (t := 13) rfl rfl rfl ?_
    refine LM.drop (t := 13) rfl rfl rfl ?_
    refine LM.drop (t := 13) rfl rfl rfl ?_
    refine LM.drop (t := 13) rfl rfl rfl ?_
    refine LM.val (ov_pickT rfl rfl) ?_
    refine LM.nil ?_
    refine QM.sub (e' := [(0, _), (1, _), (18, _)]) ⟨rfl, rfl, rfl, trivial⟩ ?_
    refine QM.then ?_
    refine wpM.condT rfl ?_
    refine wpM.seq ?_
    refine wpM.region ?_
    refine LM.val (ov_assign rfl) ?_
    refine LM.val (ov_assign rfl) ?_
    refine LM.val (ov_assign rfl) ?_
    refine LM.nil ?_
    refine QM.sub (e' := [(4, _), (5, _), (6, _)]) ⟨rfl, rfl, rfl, trivial⟩ ?_
    refine QM.then ?_
    refine wpM.ret ?_
    refine QM.then_ret ?_
    refine QM.leave (.inl rfl) [.tmp 4, .tmp 5, .tmp 6] Tryd.results18 rfl ?_
    intro w' hm' hc' hg'
    -- leaf 1: h1+
    have hpar : actsO ws p = ([], 0, 5) := (by unfold actsO; rw [if_pos (by omega)]); rw [hpar]; exact ⟨hc', [], ⟨none, 0, 0, rfl, rfl, .nil _ _ _ _⟩, Mem.nil _, fun p hp => by cases hp⟩
  ·
    refine LM.strip (t := 13) rfl rfl rfl ?_
    refine LM.val (ov_move rfl) ?_
    refine LM.strip (t := 13) rfl rfl rfl ?_
    refine LM.val (ov_move rfl) ?_
    refine LM.strip (t := 13) rfl rfl rfl ?_
    refine LM.val (ov_len Tryd.underlying24 rfl) ?_
    refine LM.strip (t := 13) rfl rfl rfl ?_
    refine LM.val (ov_gtr rfl rfl) ?_
    refine LM.val (ov_pickF rfl rfl) ?_
    refine LM.nil ?_
    refine QM.sub (e' := [(0, _), (1, _), (18, _)]) ⟨rfl, rfl, rfl, trivial⟩ ?_
    refine QM.then ?_
    first | refine wpM.condD rfl (fun h2 => ?_) (fun h2 => ?_) | refine wpM.condB rfl (fun h2 => ?_) (fun h2 => ?_)
    ·
      refine wpM.seq ?_
      refine wpM.region ?_
      refine LM.val (ov_assign rfl) ?_
      refine LM.val (ov_assign rfl) ?_
      refine LM.val (ov_assign rfl) ?_
      refine LM.nil ?_
      refine QM.sub (e' := [(4, _), (5, _), (6, _)]) ⟨rfl, rfl, rfl, trivial⟩ ?_
      refine QM.then ?_
      refine wpM.ret ?_
      refine QM.then_ret ?_
      refine QM.leave (.inl rfl) [.tmp 4, .tmp 5, .tmp 6] Tryd.results18 rfl ?_
      intro w' hm' hc' hg'
      -- leaf 2: h1- h2+
      have hpar : actsO ws p = ([], 0, 5) := (by unfold actsO; rw [if_pos (by omega)]); rw [hpar]; exact ⟨hc', [], ⟨none, 0, 0, rfl, rfl, .nil _ _ _ _⟩, Mem.nil _, fun p hp => by cases hp⟩
    ·
      obtain ⟨i0, rfl⟩ : ∃ i0 : Nat, p = (i0 : Nat) := ⟨p.toNat, by omega⟩; have hi0 : i0 ≤ ws.length := (by omega)
      refine wpM.skip ?_
      refine QM.then ?_
      refine wpM.seq ?_
      refine wpM.region ?_
      refine LM.val (ov_assign rfl) ?_
      refine LM.nil ?_
      refine QM.sub (e' := [(0, _), (1, _), (7, _)]) ⟨rfl, rfl, rfl, trivial⟩ ?_
      refine QM.then ?_
      refine wpM.seq ?_
      refine wpM.block ?_
      refine wpM.loopK0 (α := Nat × List Act × Option Addr × Nat × Nat × Mem0) (fun ⟨i, out, ado, no, capo, mo⟩ => [(1, .int .i64 (i : Nat)), (7, .slice ado no capo)]) [(0, _)] (fun ⟨i, out, ado, no, capo, mo⟩ => mo ++ []) (fun ⟨i, out, ado, no, capo, mo⟩ => i ≤ ws.length ∧ loopA ws i out = loopA ws i0 [] ∧ no = out.length ∧ Sl fA 49 5 w.heap.size out (.slice ado no capo) mo ∧ out.length ≤ 4000) (fun ⟨i, out, ado, no, capo, mo⟩ => ws.length - i) ((i0, [], none, 0, 0, [])) ⟨(by first | rfl | exact lk rfl (by congr 1; omega) | exact lk rfl (by simp)), (by first | rfl | exact lk rfl (by congr 1; omega) | exact lk rfl (by simp)), rfl, trivial⟩ (by (repeat' (first | exact SubM.nil _ | refine SubM.cons rfl ?_ | refine SubM.app ?_))) ⟨by omega, rfl, rfl, .nil _ _ _ _, by decide⟩ ?_
      rintro ⟨i, out, ado, no, capo, mo⟩ ⟨hi, hL, hno, hso, hol⟩
      change wpM _ _ _ _ _ _ _ (mo ++ []) _ _ _
      refine wpM.seq ?_
      refine wpM.seq ?_
      refine wpM.region ?_
      refine LM.val (ov_move rfl) ?_
      refine LM.val (ov_move rfl) ?_
      refine LM.val (ov_len Tryd.underlying24 rfl) ?_
      refine LM.val (ov_lss rfl rfl) ?_
      refine LM.nil ?_
      refine QM.sub (e' := [(0, _), (1, _), (7, _), (22, _)]) ⟨rfl, rfl, rfl, rfl, trivial⟩ ?_
      refine QM.then ?_
      first | refine wpM.condD rfl (fun h3 => ?_) (fun h3 => ?_) | refine wpM.condB rfl (fun h3 => ?_) (fun h3 => ?_)
      ·
        have hilt : i < ws.length := (by omega)
        refine wpM.skip ?_
        refine QM.then ?_
        refine wpM.block ?_
        refine wpM.seq ?_
        refine wpM.seq ?_
        refine wpM.joinK (α := Bool) (fun q => [(32, .bool q)]) [(0, _), (1, _), (7, _)] (fun q => mo ++ []) (fun q => q = fullA ws i out) ⟨rfl, rfl, rfl, trivial⟩ ?_ ?_
        ·
          refine wpM.region ?_
          refine LM.val (ov_move rfl) ?_
          refine LM.val (ov_len Tryd.underlying22 rfl) ?_
          refine LM.val (ov_eql rfl rfl) ?_
          refine LM.val (ov_move rfl) ?_
          first | refine LM.splitD (t := 26) rfl (fun h4 => ?_) (fun h4 => ?_) | refine LM.splitB (t := 26) rfl (fun h4 => ?_) (fun h4 => ?_)
          ·
            refine LM.strip (t := 26) rfl rfl rfl ?_
            refine LM.val (ov_move rfl) ?_
            refine LM.strip (t := 26) rfl rfl rfl ?_
            refine LM.val (ov_move rfl) ?_
            refine LM.strip (t := 26) rfl rfl rfl ?_
            first | refine LM.val (ov_idxSN (by first | exact Sr.spt (by assumption) | exact Sl.spt (by assumption)) Tryd.underlying24 Tryd.sizeOf72 rfl rfl (by omega)) ?_ | refine LM.val (ov_idxS (by first | exact Sr.spt (by assumption) | exact Sl.spt (by assumption)) Tryd.underlying24 Tryd.sizeOf72 rfl rfl (by omega)) ?_ | refine LM.val (ov_idx Tryd.underlying24 Tryd.sizeOf72 rfl rfl (by omega)) ?_
            refine LM.strip (t := 26) rfl rfl rfl ?_
            first | refine LM.rd (om_slA (by assumption) (by intro _; rfl) Tryd.isAgg72 Tryd.sizeOf72 rfl (by exact getq default (by first | omega | (simp only [List.length_set, List.length_append, List.length_cons, List.length_nil]; omega)))) ?_ | refine LM.rdC (om_srEA (by assumption) (by intro _; rfl) Tryd.isAgg72 Tryd.sizeOf72 rfl (by exact getq default (by first | omega | (simp only [List.length_set, List.length_append, List.length_cons, List.length_nil]; omega))) id) ?_ | refine LM.rd (om_ldW Tryd.isAgg72 Tryd.sizeOf72 rfl rfl) ?_ | refine LM.rd (om_ldA Tryd.isAgg72 Tryd.sizeOf72 rfl (vs := [_, _, _, _]) rfl ⟨rfl, rfl, rfl, rfl, trivial⟩) ?_
            refine LM.strip (t := 26) rfl rfl rfl ?_
            refine LM.callE (oc_call (enters_fn Tryd.func52 (by kernel_rfl) rfl) rfl) (fun w hm hc hg => begins_spec _ w) ?_
            refine LM.val (ov_pickT rfl rfl) ?_
            refine LM.nil ?_
            refine QM.sub (e' := [(0, _), (1, _), (7, _), (32, _)]) ⟨rfl, rfl, rfl, rfl, trivial⟩ ?_
            -- meet1: h1- h2- h3+ h4+
            refine QM.meetK (_) ⟨(by first | rfl | exact lk rfl (by congr 1; omega) | exact lk rfl (by simp)), rfl, rfl, rfl, trivial⟩ (by (repeat' (first | exact SubM.nil _ | refine SubM.cons rfl ?_ | refine SubM.app ?_))) ?_
            · unfold fullA; rw [decide_eq_true (show out.length = 4000 by omega), Bool.true_and]; exact begins_eq hilt
          ·
            refine LM.drop (t := 26) rfl rfl rfl ?_
            refine LM.drop (t := 26) rfl rfl rfl ?_
            refine LM.drop (t := 26) rfl rfl rfl ?_
            refine LM.drop (t := 26) rfl rfl rfl ?_
            refine LM.drop (t := 26) rfl rfl rfl ?_
            refine LM.val (ov_pickF rfl rfl) ?_
            refine LM.nil ?_
            refine QM.sub (e' := [(0, _), (1, _), (7, _), (32, _)]) ⟨rfl, rfl, rfl, rfl, trivial⟩ ?_
            -- meet2: h1- h2- h3+ h4-
            refine QM.meetK (_) ⟨(by first | rfl | exact lk rfl (by congr 1; omega) | exact lk rfl (by simp)), rfl, rfl, rfl, trivial⟩ (by (repeat' (first | exact SubM.nil _ | refine SubM.cons rfl ?_ | refine SubM.app ?_))) ?_
            · unfold fullA; rw [decide_eq_false (show ¬ out.length = 4000 by omega), Bool.false_and]
        ·
          rintro q hq
          change QM _ _ _ _ _ (mo ++ []) _ _ _
          refine QM.then ?_
          first | refine wpM.condD rfl (fun h5 => ?_) (fun h5 => ?_) | refine wpM.condB rfl (fun h5 => ?_) (fun h5 => ?_)
          ·
            refine wpM.seq ?_
            refine wpM.region ?_
            refine LM.val (ov_move rfl) ?_
            refine LM.val (ov_assign rfl) ?_
            refine LM.val (ov_assign rfl) ?_
            refine LM.val (ov_assign rfl) ?_
            refine LM.nil ?_
            refine QM.sub (e' := [(4, _), (5, _), (6, _)]) ⟨rfl, rfl, rfl, trivial⟩ ?_
            refine QM.then ?_
            refine wpM.ret ?_
            refine QM.then_ret ?_
            refine QM.block_ret ?_
            refine QM.then_ret ?_
            refine QM.block_ret ?_
            refine QM.then_ret ?_
            refine QM.leave (.inl rfl) [.tmp 4, .tmp 5, .tmp 6] Tryd.results18 rfl ?_
            intro w' hm' hc' hg'
            -- leaf 3: h1- h2- h3+ h5+
            rw [acts_nat hi0, ← hL, loopA_full hilt (hq.symm.trans h5)]; exact ⟨hc', [], ⟨none, 0, 0, rfl, rfl, .nil _ _ _ _⟩, Mem.nil _, fun p hp => by cases hp⟩
          ·
            refine wpM.skip ?_
            refine QM.then ?_
            refine wpM.seq ?_
            refine wpM.region ?_
            refine LM.val (ov_move rfl) ?_
            refine LM.val (ov_move rfl) ?_
            refine LM.callE (oc_call (enters_fn Tryd.func53 (by kernel_rfl) rfl) rfl) (fun w hm hc hg => actone_spec i w hn hx (hl.ext hc) (by omega)) ?_
            refine LM.val (ov_move rfl) ?_
            refine LM.val (ov_extract rfl rfl) ?_
            refine LM.val (ov_extract rfl rfl) ?_
            refine LM.val (ov_extract rfl rfl) ?_
            refine LM.alloc Tryd.zeroValue49 rfl (fun b8 hb8 => ?_)
            first | refine LM.stW Tryd.sizeOf49 rfl rfl rfl rfl (by first | rfl | decide | (simp; done)) (fun hlt => absurd hlt (by omega)) ?_ | refine LM.st Tryd.sizeOf49 rfl rfl rfl (by first | decide | exact Nat.le_of_ble_eq_true rfl | (simp; done) | (simp; omega)) rfl (fun hlt => absurd hlt (by omega)) ?_
            refine LM.val (ov_assign rfl) ?_
            refine LM.val (ov_assign rfl) ?_
            refine LM.nil ?_
            refine QM.sub (e' := [(0, _), (7, _), (8, _), (9, _), (10, _)]) ⟨rfl, rfl, rfl, rfl, rfl, trivial⟩ ?_
            refine QM.then ?_
            refine wpM.seq ?_
            refine wpM.seq ?_
            refine wpM.region ?_
            refine LM.val (ov_move rfl) ?_
            refine LM.val (ov_neq rfl rfl) ?_
            refine LM.nil ?_
            refine QM.sub (e' := [(0, _), (7, _), (8, _), (9, _), (10, _), (42, _)]) ⟨rfl, rfl, rfl, rfl, rfl, rfl, trivial⟩ ?_
            refine QM.then ?_
            first | refine wpM.condD rfl (fun h6 => ?_) (fun h6 => ?_) | refine wpM.condB rfl (fun h6 => ?_) (fun h6 => ?_)
            ·
              refine wpM.seq ?_
              refine wpM.region ?_
              refine LM.val (ov_move rfl) ?_
              refine LM.val (ov_move rfl) ?_
              refine LM.val (ov_assign rfl) ?_
              refine LM.val (ov_assign rfl) ?_
              refine LM.val (ov_assign rfl) ?_
              refine LM.nil ?_
              refine QM.sub (e' := [(4, _), (5, _), (6, _)]) ⟨rfl, rfl, rfl, trivial⟩ ?_
              refine QM.then ?_
              refine wpM.ret ?_
              refine QM.then_ret ?_
              refine QM.block_ret ?_
              refine QM.then_ret ?_
              refine QM.block_ret ?_
              refine QM.then_ret ?_
              refine QM.leave (.inl rfl) [.tmp 4, .tmp 5, .tmp 6] Tryd.results18 rfl ?_
              intro w' hm' hc' hg'
              -- leaf 4: h1- h2- h3+ h5- h6+
              rw [acts_nat hi0, ← hL, loopA_bad hilt (hq.symm.trans h5) h6]; exact ⟨hc', [], ⟨none, 0, 0, rfl, rfl, .nil _ _ _ _⟩, Mem.nil _, fun p hp => by cases hp⟩
            ·
              refine wpM.skip ?_
              refine QM.then ?_
              refine wpM.seq ?_
              refine wpM.region ?_
              refine LM.val (ov_move rfl) ?_
              first | refine LM.rd (om_ldW Tryd.isAgg49 Tryd.sizeOf49 rfl rfl) ?_ | refine LM.rd (om_ldA Tryd.isAgg49 Tryd.sizeOf49 rfl (vs := [_, _, _, _, _]) rfl ⟨rfl, rfl, rfl, rfl, rfl, trivial⟩) ?_
              refine LM.single Tryd.underlying22 Tryd.sizeOf49 Tryd.zeroValue49 rfl rfl rfl rfl rfl (fun b47 hb47 => ?_)
              refine LM.app (a := (oneA ws i).1) Tryd.underlying22 Tryd.typeInfo49 rfl rfl rfl rfl rfl rfl rfl (by assumption) (by rfl) (by intro _; rfl) (by intro _ u hu; simp [fA] at hu; (repeat (first | (rcases hu with rfl | hu) | subst hu | rfl))) (by first | exact Nat.le_refl _ | omega) (fun p hp hlt => absurd hlt (Nat.not_lt_of_le (Sl.ge (by assumption) p hp))) (by first | omega | (unfold maxLen; omega)) (by simp only [Tryd.t49]; omega) (fun ad48 n48 cap48 m48 hn48 hs48 hin48 => ?_)
              refine LM.val (ov_assign rfl) ?_
              refine LM.nil ?_
              refine QM.sub (e' := [(0, _), (7, _), (9, _)]) ⟨rfl, rfl, rfl, trivial⟩ ?_
              refine QM.then ?_
              refine wpM.region ?_
              refine LM.val (ov_move rfl) ?_
              refine LM.val (ov_assign rfl) ?_
              refine LM.nil ?_
              refine QM.sub (e' := [(0, _), (1, _), (7, _)]) ⟨rfl, rfl, rfl, trivial⟩ ?_
              refine QM.block_normal ?_
              -- again1: h1- h2- h3+ h5- h6-
              have hnx := loopA_next (out := out) hilt (hq.symm.trans h5) (by omega); have hlt := oneA_lt (ws := ws) (i := i) (by omega)
              refine QM.againK (((oneA ws i).2.1, out ++ [(oneA ws i).1], ad48, n48, cap48, m48)) ⟨(by first | rfl | exact lk rfl (by congr 1; omega) | exact lk rfl (by simp)), (by first | rfl | exact lk rfl (by congr 1; omega) | exact lk rfl (by simp)), rfl, trivial⟩ (by (repeat' (first | exact SubM.nil _ | refine SubM.cons rfl ?_ | refine SubM.app ?_))) (fun _ h => h) ?_ ?_
              · exact ⟨hlt.2, hnx.1.symm.trans hL, by rw [hn48]; simp, hs48, by simp; omega⟩
              · first | omega | (dsimp only; omega)
      ·
        refine wpM.exit ?_
        refine QM.then_exit ?_
        refine QM.then_exit ?_
        refine QM.block_hit ?_
        refine QM.then ?_
        refine wpM.seq ?_
        refine wpM.region ?_
        refine LM.val (ov_move rfl) ?_
        refine LM.val (ov_move rfl) ?_
        refine LM.val (ov_assign rfl) ?_
        refine LM.val (ov_assign rfl) ?_
        refine LM.val (ov_assign rfl) ?_
        refine LM.nil ?_
        refine QM.sub (e' := [(4, _), (5, _), (6, _)]) ⟨rfl, rfl, rfl, trivial⟩ ?_
        refine QM.then ?_
        refine wpM.ret ?_
        refine QM.leave (.inl rfl) [.tmp 4, .tmp 5, .tmp 6] Tryd.results18 rfl ?_
        intro w' hm' hc' hg'
        -- leaf 5: h1- h2- h3-
        rw [acts_nat hi0, ← hL, loopA_end (by omega)]; exact ⟨hc', mo, ⟨ado, no, capo, rfl, hno, hso⟩, hm'.pick _, fun p hp => Sl.ge hso p hp⟩

end Go.Eng

