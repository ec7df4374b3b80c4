/- The walk of the document's parser of acts; whether acts are the same; the acts are gone over. No condition. -/
import Derived.Test.YtoeojcnodjjpgaaDoorActB
set_option linter.unusedVariables false
set_option linter.unusedSimpArgs false
namespace Go.Eng
open Go Go.Proofs Go.RowKit

def kaccA (ws : List Wrd) (i : Nat) : Nat → Int
  | 0 => 0
  | m + 1 => if isR ws i 1 (acT ((m + 1 : Nat) : Int)) then ((m + 1 : Nat) : Int) else kaccA ws i m
theorem acT_nat {k : Nat} (h : k < 9) : acT (k : Int) = acW.getD k [] := by unfold acT; rw [if_pos (by omega), Int.toNat_natCast]
theorem kaccA_eq (ws : List Wrd) (i : Nat) : kaccA ws i 8 = kindA ws i := by
  unfold kindA
  cases hc : (decide (i < ws.length) && decide ((ws.getD i default).k = 1)) with
  | false =>
    rw [if_neg (by simp)]
    have : ∀ m, kaccA ws i m = 0 := by
      intro m
      induction m with
      | zero => rfl
      | succ m ih => unfold kaccA isR; rw [hc, Bool.false_and, if_neg (by simp), ih]
    exact this 8
  | true =>
    rw [if_pos rfl, ← refA_eq]
    have : ∀ m, m ≤ 8 → kaccA ws i m = refA (ws.getD i default).t m := by
      intro m
      induction m with
      | zero => intro _; rfl
      | succ m ih =>
        intro hm
        unfold kaccA refA isR; rw [hc, Bool.true_and, ih (by omega), acT_nat (by omega)]
        by_cases q : (ws.getD i default).t = acW.getD (m + 1) []
        · rw [if_pos q, if_pos (decide_eq_true q)]
        · rw [if_neg q, if_neg (by rw [decide_eq_false q]; simp)]
    exact this 8 (Nat.le_refl _)
theorem kaccA_t {ws : List Wrd} {i k : Nat} (h1 : 1 ≤ k) (h : isR ws i 1 (acT (k : Int)) = true) : kaccA ws i k = (k : Int) := by
  obtain ⟨m, rfl⟩ : ∃ m, k = m + 1 := ⟨k - 1, by omega⟩
  unfold kaccA; rw [if_pos h]
theorem kaccA_f {ws : List Wrd} {i k : Nat} (h1 : 1 ≤ k) (h : isR ws i 1 (acT (k : Int)) = false) : kaccA ws i k = kaccA ws i (k - 1) := by
  obtain ⟨m, rfl⟩ : ∃ m, k = m + 1 := ⟨k - 1, by omega⟩
  rw [show m + 1 - 1 = m by omega]
  conv => lhs; unfold kaccA
  rw [if_neg (by rw [h]; simp)]
theorem loopA_0 {ws : List Wrd} {i : Nat} {out : List Act} (h : i < ws.length) (h0 : kindA ws i = 0) : loopA ws i out = ([], (i : Int), 5) := by rw [loopA_step h, if_pos h0]
theorem loopA_6 {ws : List Wrd} {i : Nat} {out : List Act} (h : i < ws.length) (h0 : kindA ws i ≠ 0) (h1 : out.length = 4000) : loopA ws i out = ([], (i : Int), 6) := by rw [loopA_step h, if_neg h0, if_pos h1]
theorem loopA_e {ws : List Wrd} {i j : Nat} {out : List Act} (h : i < ws.length) (h0 : kindA ws i ≠ 0) (h1 : out.length ≠ 4000) (he : oneA ws i = (default, j, 5)) : loopA ws i out = ([], (j : Int), 5) := by rw [loopA_step h, if_neg h0, if_neg h1, if_pos (by rw [he]; exact (show (5 : Int) ≠ 0 by decide)), he]
theorem loopA_g {ws : List Wrd} {i j : Nat} {a : Act} {out : List Act} (h : i < ws.length) (h0 : kindA ws i ≠ 0) (h1 : out.length ≠ 4000) (he : oneA ws i = (a, j, 0)) : loopA ws i out = loopA ws j (out ++ [a]) := by rw [loopA_step h, if_neg h0, if_neg h1, if_neg (by rw [he]; exact fun q => q rfl), he]
set_option maxRecDepth 100000 in
set_option maxHeartbeats 1000000 in
theorem raparse_spec {ws : List Wrd} {ad : Option Addr} {n cap : Nat} (p : Int) (w : World) (hn : n = ws.length) (hx : ws.length ≤ 1000000000) (hl : Sr fW 4 ws (.slice ad n cap) w) : Ret Tryd.prog 21 #[.slice ad n cap, .int .i64 p] w (fun v w' => Ext w w' ∧ ∃ m, AcT (actsO ws p) w.heap.size v m ∧ Mem w' m ∧ ∀ p ∈ m, w.heap.size ≤ p.1) := by
  refine Ret.enterM (l := [.slice ad n cap, .int .i64 p]) Tryd.func21 rfl Tryd.ntmps21 rfl ([]) (no) (Mem.nil w) ?_
  refine wpM.seq ?_
  refine wpM.region ?_
  refine LM.val (ov_assign rfl) ?_
  refine LM.val (ov_assign rfl) ?_
  refine LM.val (ov_assign rfl) ?_
  refine LM.nil ?_
  refine QM.sub (e' := [(0, _), (1, _)]) ⟨rfl, rfl, trivial⟩ ?_
  refine QM.then ?_
  refine wpM.seq ?_
  refine wpM.seq ?_
  refine wpM.region ?_
  refine LM.val (ov_move rfl) ?_
  refine LM.val (ov_lss rfl rfl) ?_
  refine LM.val (ov_move rfl) ?_
  first | refine LM.splitD (t := 14) rfl (fun h1 => ?_) (fun h1 => ?_) | refine LM.splitB (t := 14) rfl (fun h1 => ?_) (fun h1 => ?_)
  ·
    refine LM.drop (t := 14) rfl rfl rfl ?_
    refine LM.drop (t := 14) rfl rfl rfl ?_
    refine LM.drop (t := 14) rfl rfl rfl ?_
    refine LM.drop (t := 14) rfl rfl rfl ?_
    refine LM.val (ov_pickT rfl rfl) ?_
    refine LM.nil ?_
    refine QM.sub (e' := [(0, _), (1, _), (19, _)]) ⟨rfl, rfl, rfl, trivial⟩ ?_
    refine QM.then ?_
    refine wpM.condT rfl ?_
    refine wpM.seq ?_
    refine wpM.region ?_
    refine LM.val (ov_assign rfl) ?_
    refine LM.val (ov_assign rfl) ?_
    refine LM.val (ov_assign rfl) ?_
    refine LM.nil ?_
    refine QM.sub (e' := [(4, _), (5, _), (6, _)]) ⟨rfl, rfl, rfl, trivial⟩ ?_
    refine QM.then ?_
    refine wpM.ret ?_
    refine QM.then_ret ?_
    refine QM.leave (.inl rfl) [.tmp 4, .tmp 5, .tmp 6] Tryd.results21 rfl ?_
    intro w' hm' hc' hg'
    -- leaf 1: h1+
    have hpar : actsO ws p = ([], 0, 5) := (by unfold actsO; rw [if_pos (by omega)]); rw [hpar]; exact ⟨hc', [], ⟨none, 0, 0, rfl, rfl, .nil _ _ _ _⟩, Mem.nil _, fun p hp => by cases hp⟩
  ·
    refine LM.strip (t := 14) rfl rfl rfl ?_
    refine LM.val (ov_move rfl) ?_
    refine LM.strip (t := 14) rfl rfl rfl ?_
    refine LM.val (ov_move rfl) ?_
    refine LM.strip (t := 14) rfl rfl rfl ?_
    refine LM.val (ov_len Tryd.underlying24 rfl) ?_
    refine LM.strip (t := 14) rfl rfl rfl ?_
    refine LM.val (ov_gtr rfl rfl) ?_
    refine LM.val (ov_pickF rfl rfl) ?_
    refine LM.nil ?_
    refine QM.sub (e' := [(0, _), (1, _), (19, _)]) ⟨rfl, rfl, rfl, trivial⟩ ?_
    refine QM.then ?_
    first | refine wpM.condD rfl (fun h2 => ?_) (fun h2 => ?_) | refine wpM.condB rfl (fun h2 => ?_) (fun h2 => ?_)
    ·
      refine wpM.seq ?_
      refine wpM.region ?_
      refine LM.val (ov_assign rfl) ?_
      refine LM.val (ov_assign rfl) ?_
      refine LM.val (ov_assign rfl) ?_
      refine LM.nil ?_
      refine QM.sub (e' := [(4, _), (5, _), (6, _)]) ⟨rfl, rfl, rfl, trivial⟩ ?_
      refine QM.then ?_
      refine wpM.ret ?_
      refine QM.then_ret ?_
      refine QM.leave (.inl rfl) [.tmp 4, .tmp 5, .tmp 6] Tryd.results21 rfl ?_
      intro w' hm' hc' hg'
      -- leaf 2: h1- h2+
      have hpar : actsO ws p = ([], 0, 5) := (by unfold actsO; rw [if_pos (by omega)]); rw [hpar]; exact ⟨hc', [], ⟨none, 0, 0, rfl, rfl, .nil _ _ _ _⟩, Mem.nil _, fun p hp => by cases hp⟩
    ·
      obtain ⟨i0, rfl⟩ : ∃ i0 : Nat, p = (i0 : Nat) := ⟨p.toNat, by omega⟩; have hi0 : i0 ≤ ws.length := (by omega)
      refine wpM.skip ?_
      refine QM.then ?_
      refine wpM.seq ?_
      refine wpM.region ?_
      refine LM.val (ov_assign rfl) ?_
      refine LM.nil ?_
      refine QM.sub (e' := [(0, _), (1, _), (7, _)]) ⟨rfl, rfl, rfl, trivial⟩ ?_
      refine QM.then ?_
      refine wpM.seq ?_
      refine wpM.block ?_
      refine wpM.loopK0 (α := Nat × List Act × Option Addr × Nat × Nat × Mem0) (fun ⟨i, out, ado, no, capo, mo⟩ => [(1, .int .i64 (i : Nat)), (7, .slice ado no capo)]) [(0, _)] (fun ⟨i, out, ado, no, capo, mo⟩ => mo ++ []) (fun ⟨i, out, ado, no, capo, mo⟩ => i ≤ ws.length ∧ loopA ws i out = loopA ws i0 [] ∧ no = out.length ∧ Sl fA 49 5 w.heap.size out (.slice ado no capo) mo ∧ out.length ≤ 4000) (fun ⟨i, out, ado, no, capo, mo⟩ => ws.length - i) ((i0, [], none, 0, 0, [])) ⟨(by first | rfl | exact lk rfl (by congr 1; omega) | exact lk rfl (by simp)), (by first | rfl | exact lk rfl (by congr 1; omega) | exact lk rfl (by simp)), rfl, trivial⟩ (by (repeat' (first | exact SubM.nil _ | refine SubM.cons rfl ?_ | refine SubM.app ?_))) ⟨by omega, rfl, rfl, .nil _ _ _ _, by decide⟩ ?_
      rintro ⟨i, out, ado, no, capo, mo⟩ ⟨hi, hL, hno, hso, hol⟩
      change wpM _ _ _ _ _ _ _ (mo ++ []) _ _ _
      refine wpM.seq ?_
      refine wpM.seq ?_
      refine wpM.region ?_
      refine LM.val (ov_move rfl) ?_
      refine LM.val (ov_move rfl) ?_
      refine LM.val (ov_len Tryd.underlying24 rfl) ?_
      refine LM.val (ov_lss rfl rfl) ?_
      refine LM.nil ?_
      refine QM.sub (e' := [(0, _), (1, _), (7, _), (23, _)]) ⟨rfl, rfl, rfl, rfl, trivial⟩ ?_
      refine QM.then ?_
      first | refine wpM.condD rfl (fun h3 => ?_) (fun h3 => ?_) | refine wpM.condB rfl (fun h3 => ?_) (fun h3 => ?_)
      ·
        have hilt : i < ws.length := (by omega)
        refine wpM.skip ?_
        refine QM.then ?_
        refine wpM.block ?_
        refine wpM.seq ?_
        refine wpM.region ?_
        refine LM.val (ov_assign rfl) ?_
        refine LM.nil ?_
        refine QM.sub (e' := [(0, _), (1, _), (7, _), (8, _)]) ⟨rfl, rfl, rfl, rfl, trivial⟩ ?_
        refine QM.then ?_
        refine wpM.seq ?_
        refine wpM.seq ?_
        refine wpM.region ?_
        refine LM.val (ov_assign rfl) ?_
        refine LM.nil ?_
        refine QM.sub (e' := [(0, _), (1, _), (7, _), (8, _), (9, _)]) ⟨rfl, rfl, rfl, rfl, rfl, trivial⟩ ?_
        refine QM.then ?_
        refine wpM.block ?_
        refine wpM.loopK0 (α := Nat × Int) (fun ⟨k, kd⟩ => [(8, .int .i64 kd), (9, .int .i64 (k : Nat))]) [(0, _), (1, _), (7, _)] (fun ⟨k, kd⟩ => mo ++ []) (fun ⟨k, kd⟩ => 1 ≤ k ∧ k ≤ 9 ∧ kd = kaccA ws i (k - 1)) (fun ⟨k, kd⟩ => 9 - k) ((1, 0)) ⟨(by first | rfl | exact lk rfl (by congr 1; omega) | exact lk rfl (by simp)), (by first | rfl | exact lk rfl (by congr 1; omega) | exact lk rfl (by simp)), rfl, rfl, rfl, trivial⟩ (by (repeat' (first | exact SubM.nil _ | refine SubM.cons rfl ?_ | refine SubM.app ?_))) ⟨by omega, by omega, rfl⟩ ?_
        rintro ⟨k, kd⟩ ⟨hk1, hk2, hkd⟩
        change wpM _ _ _ _ _ _ _ (mo ++ []) _ _ _
        refine wpM.seq ?_
        refine wpM.seq ?_
        refine wpM.region ?_
        refine LM.val (ov_move rfl) ?_
        refine LM.val (ov_leq rfl rfl) ?_
        refine LM.nil ?_
        refine QM.sub (e' := [(0, _), (1, _), (7, _), (8, _), (9, _), (25, _)]) ⟨rfl, rfl, rfl, rfl, rfl, rfl, trivial⟩ ?_
        refine QM.then ?_
        first | refine wpM.condD rfl (fun h4 => ?_) (fun h4 => ?_) | refine wpM.condB rfl (fun h4 => ?_) (fun h4 => ?_)
        ·
          refine wpM.skip ?_
          refine QM.then ?_
          refine wpM.seq ?_
          refine wpM.block ?_
          refine wpM.seq ?_
          refine wpM.joinK (α := Bool) (fun q => [(43, .bool q)]) [(0, _), (1, _), (7, _), (8, _), (9, _)] (fun q => mo ++ []) (fun q => q = isR ws i 1 (acT (k : Int))) ⟨rfl, rfl, rfl, rfl, rfl, trivial⟩ ?_ ?_
          ·
            refine wpM.draw [(0, 0), (1, 0), (2, 0), (3, 0), (4, 1), (5, 0), (6, 0), (7, 0), (8, 0), (9, 0), (10, 0), (11, 1), (12, 0), (13, 2), (14, 0), (15, 0)] (by kernel_rfl) (by kernel_rfl) ?_
            refine LD.val rfl rfl (ov_move rfl) ?_
            refine LD.val rfl rfl (ov_move rfl) ?_
            first | refine LD.val rfl rfl (ov_idxSN (by first | exact Sr.spt (by assumption) | exact Sl.spt (by assumption)) Tryd.underlying24 Tryd.sizeOf72 rfl rfl (by omega)) ?_ | refine LD.val rfl rfl (ov_idxS (by first | exact Sr.spt (by assumption) | exact Sl.spt (by assumption)) Tryd.underlying24 Tryd.sizeOf72 rfl rfl (by omega)) ?_ | refine LD.val rfl rfl (ov_idx Tryd.underlying24 Tryd.sizeOf72 rfl rfl (by omega)) ?_
            refine LD.val rfl rfl (ov_field Tryd.underlying72 rfl Tryd.sizeOf3 rfl (k := 0) rfl rfl) ?_
            first | refine LD.rd rfl rfl (om_slE (j := 0) (by assumption) (by intro _; rfl) Tryd.isAgg3 rfl rfl (by exact getq default (by first | omega | (simp only [List.length_set, List.length_append, List.length_cons, List.length_nil]; omega))) rfl (by rfl)) ?_ | refine LD.rdC rfl rfl (om_srE (j := 0) (by assumption) Tryd.isAgg3 rfl rfl (by exact getq default (by first | omega | (simp only [List.length_set, List.length_append, List.length_cons, List.length_nil]; omega))) (by rfl) (by rfl) id) ?_ | refine LD.rd rfl rfl (om_ld Tryd.isAgg3 rfl rfl) ?_
            refine LD.val rfl rfl (ov_eql rfl rfl) ?_
            refine LD.val rfl rfl (ov_move rfl) ?_
            first | refine LD.splitD (t := 34) rfl (fun h5 => ?_) (fun h5 => ?_) | refine LD.splitB (t := 34) rfl (fun h5 => ?_) (fun h5 => ?_)
            ·
              refine LD.val rfl ⟨34, _, rfl, rfl, rfl⟩ (ov_move rfl) ?_
              refine LD.val rfl ⟨34, _, rfl, rfl, rfl⟩ (ov_move rfl) ?_
              first | refine LD.val rfl ⟨34, _, rfl, rfl, rfl⟩ (ov_idxSN (by first | exact Sr.spt (by assumption) | exact Sl.spt (by assumption)) Tryd.underlying24 Tryd.sizeOf72 rfl rfl (by omega)) ?_ | refine LD.val rfl ⟨34, _, rfl, rfl, rfl⟩ (ov_idxS (by first | exact Sr.spt (by assumption) | exact Sl.spt (by assumption)) Tryd.underlying24 Tryd.sizeOf72 rfl rfl (by omega)) ?_ | refine LD.val rfl ⟨34, _, rfl, rfl, rfl⟩ (ov_idx Tryd.underlying24 Tryd.sizeOf72 rfl rfl (by omega)) ?_
              refine LD.val rfl ⟨34, _, rfl, rfl, rfl⟩ (ov_field Tryd.underlying72 rfl Tryd.sizeOf9 rfl (k := 1) rfl rfl) ?_
              first | refine LD.rd rfl ⟨34, _, rfl, rfl, rfl⟩ (om_slE (j := 1) (by assumption) (by intro _; rfl) Tryd.isAgg9 rfl rfl (by exact getq default (by first | omega | (simp only [List.length_set, List.length_append, List.length_cons, List.length_nil]; omega))) rfl (by rfl)) ?_ | refine LD.rdC rfl ⟨34, _, rfl, rfl, rfl⟩ (om_srE (j := 1) (by assumption) Tryd.isAgg9 rfl rfl (by exact getq default (by first | omega | (simp only [List.length_set, List.length_append, List.length_cons, List.length_nil]; omega))) (by rfl) (by rfl) id) ?_ | refine LD.rd rfl ⟨34, _, rfl, rfl, rfl⟩ (om_ld Tryd.isAgg9 rfl rfl) ?_
              refine LD.val rfl ⟨34, _, rfl, rfl, rfl⟩ (ov_move rfl) ?_
              refine LD.callE rfl ⟨34, _, rfl, rfl, rfl⟩ (oc_call (enters_fn Tryd.func23 (by kernel_rfl) rfl) rfl) (fun w hm hc hg => raname_spec _ w) ?_
              refine LD.val rfl ⟨34, _, rfl, rfl, rfl⟩ (ov_seqlL rfl rfl) ?_
              refine LD.val rfl rfl (ov_pickT rfl rfl) ?_
              refine LD.nil ?_
              refine QM.sub (e' := [(0, _), (1, _), (7, _), (8, _), (9, _), (43, _)]) ⟨rfl, rfl, rfl, rfl, rfl, rfl, trivial⟩ ?_
              -- meet1: h1- h2- h3+ h4+ h5+
              refine QM.meetK (_) ⟨(by first | rfl | exact lk rfl (by congr 1; omega) | exact lk rfl (by simp)), rfl, rfl, rfl, rfl, rfl, trivial⟩ (by (repeat' (first | exact SubM.nil _ | refine SubM.cons rfl ?_ | refine SubM.app ?_))) ?_
              · unfold isR; rw [decide_eq_true hilt, decide_eq_true (show (ws.getD i default).k = 1 by omega)]; rfl
            ·
              refine LD.drop rfl rfl ⟨34, _, rfl, rfl, rfl⟩ ?_
              refine LD.drop rfl rfl ⟨34, _, rfl, rfl, rfl⟩ ?_
              refine LD.drop rfl rfl ⟨34, _, rfl, rfl, rfl⟩ ?_
              refine LD.drop rfl rfl ⟨34, _, rfl, rfl, rfl⟩ ?_
              refine LD.drop rfl rfl ⟨34, _, rfl, rfl, rfl⟩ ?_
              refine LD.drop rfl rfl ⟨34, _, rfl, rfl, rfl⟩ ?_
              refine LD.drop rfl rfl ⟨34, _, rfl, rfl, rfl⟩ ?_
              refine LD.drop rfl rfl ⟨34, _, rfl, rfl, rfl⟩ ?_
              refine LD.val rfl rfl (ov_pickF rfl rfl) ?_
              refine LD.nil ?_
              refine QM.sub (e' := [(0, _), (1, _), (7, _), (8, _), (9, _), (43, _)]) ⟨rfl, rfl, rfl, rfl, rfl, rfl, trivial⟩ ?_
              -- meet2: h1- h2- h3+ h4+ h5-
              refine QM.meetK (_) ⟨(by first | rfl | exact lk rfl (by congr 1; omega) | exact lk rfl (by simp)), rfl, rfl, rfl, rfl, rfl, trivial⟩ (by (repeat' (first | exact SubM.nil _ | refine SubM.cons rfl ?_ | refine SubM.app ?_))) ?_
              · unfold isR; rw [decide_eq_false (show ¬ (ws.getD i default).k = 1 by omega)]; simp
          ·
            rintro q hq
            change QM _ _ _ _ _ (mo ++ []) _ _ _
            refine QM.then ?_
            first | refine wpM.condD rfl (fun h6 => ?_) (fun h6 => ?_) | refine wpM.condB rfl (fun h6 => ?_) (fun h6 => ?_)
            ·
              refine wpM.region ?_
              refine LM.val (ov_move rfl) ?_
              refine LM.val (ov_assign rfl) ?_
              refine LM.nil ?_
              refine QM.sub (e' := [(0, _), (1, _), (7, _), (8, _), (9, _)]) ⟨rfl, rfl, rfl, rfl, rfl, trivial⟩ ?_
              refine QM.block_normal ?_
              refine QM.then ?_
              refine wpM.region ?_
              refine LM.val (ov_move rfl) ?_
              refine LM.val (ov_add64 rfl rfl (by omega)) ?_
              refine LM.val (ov_assign rfl) ?_
              refine LM.nil ?_
              refine QM.sub (e' := [(0, _), (1, _), (7, _), (8, _), (9, _)]) ⟨rfl, rfl, rfl, rfl, rfl, trivial⟩ ?_
              -- again1: h1- h2- h3+ h4+ h6+
              refine QM.againK ((k + 1, (k : Int))) ⟨(by first | rfl | exact lk rfl (by congr 1; omega) | exact lk rfl (by simp)), (by first | rfl | exact lk rfl (by congr 1; omega) | exact lk rfl (by simp)), rfl, rfl, rfl, trivial⟩ (by (repeat' (first | exact SubM.nil _ | refine SubM.cons rfl ?_ | refine SubM.app ?_))) (fun _ h => h) ?_ ?_
              · exact ⟨by omega, by omega, (kaccA_t hk1 (hq.symm.trans h6)).symm⟩
              · first | omega | (dsimp only; omega)
            ·
              refine wpM.skip ?_
              refine QM.block_normal ?_
              refine QM.then ?_
              refine wpM.region ?_
              refine LM.val (ov_move rfl) ?_
              refine LM.val (ov_add64 rfl rfl (by omega)) ?_
              refine LM.val (ov_assign rfl) ?_
              refine LM.nil ?_
              refine QM.sub (e' := [(0, _), (1, _), (7, _), (8, _), (9, _)]) ⟨rfl, rfl, rfl, rfl, rfl, trivial⟩ ?_
              -- again2: h1- h2- h3+ h4+ h6-
              refine QM.againK ((k + 1, kd)) ⟨(by first | rfl | exact lk rfl (by congr 1; omega) | exact lk rfl (by simp)), (by first | rfl | exact lk rfl (by congr 1; omega) | exact lk rfl (by simp)), rfl, rfl, rfl, trivial⟩ (by (repeat' (first | exact SubM.nil _ | refine SubM.cons rfl ?_ | refine SubM.app ?_))) (fun _ h => h) ?_ ?_
              · exact ⟨by omega, by omega, by rw [hkd]; exact (kaccA_f hk1 (hq.symm.trans h6)).symm⟩
              · first | omega | (dsimp only; omega)
        ·
          obtain rfl : k = 9 := (by omega); obtain rfl : kd = kindA ws i := hkd.trans (kaccA_eq ws i); have hkr := kindA_rng ws i
          refine wpM.exit ?_
          refine QM.then_exit ?_
          refine QM.then_exit ?_
          refine QM.block_hit ?_
          refine QM.then ?_
          refine wpM.seq ?_
          refine wpM.seq ?_
          refine wpM.region ?_
          refine LM.val (ov_move rfl) ?_
          refine LM.val (ov_eql rfl rfl) ?_
          refine LM.nil ?_
          refine QM.sub (e' := [(0, _), (1, _), (7, _), (8, _), (46, _)]) ⟨rfl, rfl, rfl, rfl, rfl, trivial⟩ ?_
          refine QM.then ?_
          first | refine wpM.condD rfl (fun h7 => ?_) (fun h7 => ?_) | refine wpM.condB rfl (fun h7 => ?_) (fun h7 => ?_)
          ·
            refine wpM.seq ?_
            refine wpM.region ?_
            refine LM.val (ov_move rfl) ?_
            refine LM.val (ov_assign rfl) ?_
            refine LM.val (ov_assign rfl) ?_
            refine LM.val (ov_assign rfl) ?_
            refine LM.nil ?_
            refine QM.sub (e' := [(4, _), (5, _), (6, _)]) ⟨rfl, rfl, rfl, trivial⟩ ?_
            refine QM.then ?_
            refine wpM.ret ?_
            refine QM.then_ret ?_
            refine QM.block_ret ?_
            refine QM.then_ret ?_
            refine QM.block_ret ?_
            refine QM.then_ret ?_
            refine QM.leave (.inl rfl) [.tmp 4, .tmp 5, .tmp 6] Tryd.results21 rfl ?_
            intro w' hm' hc' hg'
            -- leaf 3: h1- h2- h3+ h4- h7+
            rw [acts_nat hi0, ← hL, loopA_0 hilt (by omega)]; exact ⟨hc', [], ⟨none, 0, 0, rfl, rfl, .nil _ _ _ _⟩, Mem.nil _, fun p hp => by cases hp⟩
          ·
            refine wpM.skip ?_
            refine QM.then ?_
            refine wpM.seq ?_
            refine wpM.seq ?_
            refine wpM.region ?_
            refine LM.val (ov_move rfl) ?_
            refine LM.val (ov_len Tryd.underlying22 rfl) ?_
            refine LM.val (ov_eql rfl rfl) ?_
            refine LM.nil ?_
            refine QM.sub (e' := [(0, _), (1, _), (7, _), (8, _), (50, _)]) ⟨rfl, rfl, rfl, rfl, rfl, trivial⟩ ?_
            refine QM.then ?_
            first | refine wpM.condD rfl (fun h8 => ?_) (fun h8 => ?_) | refine wpM.condB rfl (fun h8 => ?_) (fun h8 => ?_)
            ·
              refine wpM.seq ?_
              refine wpM.region ?_
              refine LM.val (ov_move rfl) ?_
              refine LM.val (ov_assign rfl) ?_
              refine LM.val (ov_assign rfl) ?_
              refine LM.val (ov_assign rfl) ?_
              refine LM.nil ?_
              refine QM.sub (e' := [(4, _), (5, _), (6, _)]) ⟨rfl, rfl, rfl, trivial⟩ ?_
              refine QM.then ?_
              refine wpM.ret ?_
              refine QM.then_ret ?_
              refine QM.block_ret ?_
              refine QM.then_ret ?_
              refine QM.block_ret ?_
              refine QM.then_ret ?_
              refine QM.leave (.inl rfl) [.tmp 4, .tmp 5, .tmp 6] Tryd.results21 rfl ?_
              intro w' hm' hc' hg'
              -- leaf 4: h1- h2- h3+ h4- h7- h8+
              rw [acts_nat hi0, ← hL, loopA_6 hilt h7 (by omega)]; exact ⟨hc', [], ⟨none, 0, 0, rfl, rfl, .nil _ _ _ _⟩, Mem.nil _, fun p hp => by cases hp⟩
            ·
              refine wpM.skip ?_
              refine QM.then ?_
              refine wpM.seq ?_
              refine wpM.region ?_
              refine LM.val (ov_move rfl) ?_
              refine LM.val (ov_add64 rfl rfl (by omega)) ?_
              refine LM.val (ov_assign rfl) ?_
              refine LM.nil ?_
              refine QM.sub (e' := [(0, _), (1, _), (7, _), (8, _)]) ⟨rfl, rfl, rfl, rfl, trivial⟩ ?_
              refine QM.then ?_
              refine wpM.seq ?_
              refine wpM.region ?_
              refine LM.val (ov_move rfl) ?_
              refine LM.val (ov_build (cs := #[_, _, _, _, _]) rfl (by first | rfl | kernel_rfl)) ?_
              refine LM.alloc Tryd.zeroValue49 rfl (fun b10 hb10 => ?_)
              first | refine LM.stW Tryd.sizeOf49 rfl rfl rfl rfl (by first | rfl | decide | (simp; done)) (fun hlt => absurd hlt (by omega)) ?_ | refine LM.st Tryd.sizeOf49 rfl rfl rfl (by first | decide | exact Nat.le_of_ble_eq_true rfl | (simp; done) | (simp; omega)) rfl (fun hlt => absurd hlt (by omega)) ?_
              refine LM.nil ?_
              refine QM.sub (e' := [(0, _), (1, _), (7, _), (8, _), (10, _)]) ⟨rfl, rfl, rfl, rfl, rfl, trivial⟩ ?_
              refine QM.then ?_
              refine wpM.seq ?_
              refine wpM.seq ?_
              refine wpM.region ?_
              refine LM.val (ov_assign rfl) ?_
              refine LM.nil ?_
              refine QM.sub (e' := [(0, _), (1, _), (7, _), (8, _), (10, _), (11, _)]) ⟨rfl, rfl, rfl, rfl, rfl, rfl, trivial⟩ ?_
              refine QM.then ?_
              refine wpM.block ?_
              refine wpM.loopK0 (α := Nat × Nat × List Int) (fun ⟨k, j, xs⟩ => [(1, .int .i64 (j : Nat)), (11, .int .i64 (k : Nat))]) [(0, _), (7, _), (8, _), (10, _)] (fun ⟨k, j, xs⟩ => (b10, .cells (fA (toA (kindA ws i) xs)).toArray 49 (0, 0)) :: (mo ++ [])) (fun ⟨k, j, xs⟩ => k ≤ manyA (kindA ws i) ∧ j ≤ ws.length ∧ xs.length = 4 ∧ numG ws (manyA (kindA ws i) - k) j k xs = numK ws i) (fun ⟨k, j, xs⟩ => manyA (kindA ws i) - k) ((0, i + 1, zer4)) ⟨(by first | rfl | exact lk rfl (by congr 1; omega) | exact lk rfl (by simp)), (by first | rfl | exact lk rfl (by congr 1; omega) | exact lk rfl (by simp)), rfl, rfl, rfl, rfl, trivial⟩ (by (repeat' (first | exact SubM.nil _ | refine SubM.cons rfl ?_ | refine SubM.app ?_))) ⟨Nat.zero_le _, by omega, rfl, rfl⟩ ?_
              rintro ⟨k, j, xs⟩ ⟨hkm, hj, hx4, hN⟩
              change wpM _ _ _ _ _ _ _ ((b10, .cells (fA (toA (kindA ws i) xs)).toArray 49 (0, 0)) :: (mo ++ [])) _ _ _
              have hm4 := manyA_le (kindA ws i)
              refine wpM.seq ?_
              refine wpM.seq ?_
              refine wpM.region ?_
              refine LM.val (ov_move rfl) ?_
              refine LM.val (ov_move rfl) ?_
              refine LM.callE (oc_call (enters_fn Tryd.func48 (by kernel_rfl) rfl) rfl) (fun w hm hc hg => rmany_spec _ w (by omega)) ?_
              refine LM.val (ov_lss rfl rfl) ?_
              refine LM.nil ?_
              refine QM.sub (e' := [(0, _), (1, _), (7, _), (8, _), (10, _), (11, _), (59, _)]) ⟨rfl, rfl, rfl, rfl, rfl, rfl, rfl, trivial⟩ ?_
              refine QM.then ?_
              first | refine wpM.condD rfl (fun h9 => ?_) (fun h9 => ?_) | refine wpM.condB rfl (fun h9 => ?_) (fun h9 => ?_)
              ·
                refine wpM.skip ?_
                refine QM.then ?_
                refine wpM.seq ?_
                refine wpM.block ?_
                refine wpM.seq ?_
                refine wpM.seq ?_
                refine wpM.joinK (α := Bool) (fun q => [(73, .bool q)]) [(0, _), (1, _), (7, _), (8, _), (10, _), (11, _)] (fun q => (b10, .cells (fA (toA (kindA ws i) xs)).toArray 49 (0, 0)) :: (mo ++ [])) (fun q => q = (decide (ws.length ≤ j) || decide ((ws.getD j default).k ≠ 2))) ⟨rfl, rfl, rfl, rfl, rfl, rfl, trivial⟩ ?_ ?_
                ·
                  refine wpM.region ?_
                  refine LM.val (ov_move rfl) ?_
                  refine LM.val (ov_move rfl) ?_
                  refine LM.val (ov_len Tryd.underlying24 rfl) ?_
                  refine LM.val (ov_geq rfl rfl) ?_
                  refine LM.val (ov_move rfl) ?_
                  first | refine LM.splitD (t := 66) rfl (fun h10 => ?_) (fun h10 => ?_) | refine LM.splitB (t := 66) rfl (fun h10 => ?_) (fun h10 => ?_)
                  ·
                    refine LM.drop (t := 66) rfl rfl rfl ?_
                    refine LM.drop (t := 66) rfl rfl rfl ?_
                    refine LM.drop (t := 66) rfl rfl rfl ?_
                    refine LM.drop (t := 66) rfl rfl rfl ?_
                    refine LM.drop (t := 66) rfl rfl rfl ?_
                    refine LM.drop (t := 66) rfl rfl rfl ?_
                    refine LM.val (ov_pickT rfl rfl) ?_
                    refine LM.nil ?_
                    refine QM.sub (e' := [(0, _), (1, _), (7, _), (8, _), (10, _), (11, _), (73, _)]) ⟨rfl, rfl, rfl, rfl, rfl, rfl, rfl, trivial⟩ ?_
                    -- meet1: h1- h2- h3+ h4- h7- h8- h9+ h10+
                    refine QM.meetK (_) ⟨(by first | rfl | exact lk rfl (by congr 1; omega) | exact lk rfl (by simp)), rfl, rfl, rfl, rfl, rfl, rfl, trivial⟩ (by (repeat' (first | exact SubM.nil _ | refine SubM.cons rfl ?_ | refine SubM.app ?_))) ?_
                    · rw [decide_eq_true (show ws.length ≤ j by omega), Bool.true_or]
                  ·
                    refine LM.strip (t := 66) rfl rfl rfl ?_
                    refine LM.val (ov_move rfl) ?_
                    refine LM.strip (t := 66) rfl rfl rfl ?_
                    refine LM.val (ov_move rfl) ?_
                    refine LM.strip (t := 66) rfl rfl rfl ?_
                    first | refine LM.val (ov_idxSN (by first | exact Sr.spt (by assumption) | exact Sl.spt (by assumption)) Tryd.underlying24 Tryd.sizeOf72 rfl rfl (by omega)) ?_ | refine LM.val (ov_idxS (by first | exact Sr.spt (by assumption) | exact Sl.spt (by assumption)) Tryd.underlying24 Tryd.sizeOf72 rfl rfl (by omega)) ?_ | refine LM.val (ov_idx Tryd.underlying24 Tryd.sizeOf72 rfl rfl (by omega)) ?_
                    refine LM.strip (t := 66) rfl rfl rfl ?_
                    refine LM.val (ov_field Tryd.underlying72 rfl Tryd.sizeOf3 rfl (k := 0) rfl rfl) ?_
                    refine LM.strip (t := 66) rfl rfl rfl ?_
                    first | refine LM.rd (om_slE (j := 0) (by assumption) (by intro _; rfl) Tryd.isAgg3 rfl rfl (by exact getq default (by first | omega | (simp only [List.length_set, List.length_append, List.length_cons, List.length_nil]; omega))) rfl (by rfl)) ?_ | refine LM.rdC (om_srE (j := 0) (by assumption) Tryd.isAgg3 rfl rfl (by exact getq default (by first | omega | (simp only [List.length_set, List.length_append, List.length_cons, List.length_nil]; omega))) (by rfl) (by rfl) id) ?_ | refine LM.rd (om_ld Tryd.isAgg3 rfl rfl) ?_
                    refine LM.strip (t := 66) rfl rfl rfl ?_
                    refine LM.val (ov_neq rfl rfl) ?_
                    refine LM.val (ov_pickF rfl rfl) ?_
                    refine LM.nil ?_
                    refine QM.sub (e' := [(0, _), (1, _), (7, _), (8, _), (10, _), (11, _), (73, _)]) ⟨rfl, rfl, rfl, rfl, rfl, rfl, rfl, trivial⟩ ?_
                    -- meet2: h1- h2- h3+ h4- h7- h8- h9+ h10-
                    refine QM.meetK (_) ⟨(by first | rfl | exact lk rfl (by congr 1; omega) | exact lk rfl (by simp)), rfl, rfl, rfl, rfl, rfl, rfl, trivial⟩ (by (repeat' (first | exact SubM.nil _ | refine SubM.cons rfl ?_ | refine SubM.app ?_))) ?_
                    · rw [decide_eq_false (show ¬ ws.length ≤ j by omega), Bool.false_or]
                ·
                  rintro q hq
                  change QM _ _ _ _ _ ((b10, .cells (fA (toA (kindA ws i) xs)).toArray 49 (0, 0)) :: (mo ++ [])) _ _ _
                  refine QM.then ?_
                  first | refine wpM.condD rfl (fun h11 => ?_) (fun h11 => ?_) | refine wpM.condB rfl (fun h11 => ?_) (fun h11 => ?_)
                  ·
                    refine wpM.seq ?_
                    refine wpM.region ?_
                    refine LM.val (ov_move rfl) ?_
                    refine LM.val (ov_assign rfl) ?_
                    refine LM.val (ov_assign rfl) ?_
                    refine LM.val (ov_assign rfl) ?_
                    refine LM.nil ?_
                    refine QM.sub (e' := [(4, _), (5, _), (6, _)]) ⟨rfl, rfl, rfl, trivial⟩ ?_
                    refine QM.then ?_
                    refine wpM.ret ?_
                    refine QM.then_ret ?_
                    refine QM.block_ret ?_
                    refine QM.then_ret ?_
                    refine QM.then_ret ?_
                    refine QM.block_ret ?_
                    refine QM.then_ret ?_
                    refine QM.block_ret ?_
                    refine QM.then_ret ?_
                    refine QM.block_ret ?_
                    refine QM.then_ret ?_
                    refine QM.leave (.inl rfl) [.tmp 4, .tmp 5, .tmp 6] Tryd.results21 rfl ?_
                    intro w' hm' hc' hg'
                    -- leaf 5: h1- h2- h3+ h4- h7- h8- h9+ h11+
                    have hNK : numK ws i = (j, 5, xs) := (by rw [← hN, numG_stop (by omega) (hq.symm.trans h11)]); rw [acts_nat hi0, ← hL, loopA_e hilt h7 (by omega) (oneA_n h7 hNK)]; exact ⟨hc', [], ⟨none, 0, 0, rfl, rfl, .nil _ _ _ _⟩, Mem.nil _, fun p hp => by cases hp⟩
                  ·
                    have hjn : j < ws.length := (by have h := hq.symm.trans h11; simp only [Bool.or_eq_false_iff, decide_eq_false_iff_not] at h; omega)
                    refine wpM.skip ?_
                    refine QM.then ?_
                    refine wpM.seq ?_
                    refine wpM.draw [(0, 1), (1, 0), (2, 0), (3, 0), (4, 0), (5, 0), (6, 1), (7, 2), (8, 3)] (by kernel_rfl) (by kernel_rfl) ?_
                    first | refine LD.rd rfl rfl (om_ldW Tryd.isAgg49 Tryd.sizeOf49 rfl rfl) ?_ | refine LD.rd rfl rfl (om_ldA Tryd.isAgg49 Tryd.sizeOf49 rfl (vs := [_, _, _, _, _]) rfl ⟨rfl, rfl, rfl, rfl, rfl, trivial⟩) ?_
                    refine LD.val rfl rfl (ov_move rfl) ?_
                    refine LD.val rfl rfl (ov_move rfl) ?_
                    refine LD.val rfl rfl (ov_move rfl) ?_
                    first | refine LD.val rfl rfl (ov_idxSN (by first | exact Sr.spt (by assumption) | exact Sl.spt (by assumption)) Tryd.underlying24 Tryd.sizeOf72 rfl rfl (by omega)) ?_ | refine LD.val rfl rfl (ov_idxS (by first | exact Sr.spt (by assumption) | exact Sl.spt (by assumption)) Tryd.underlying24 Tryd.sizeOf72 rfl rfl (by omega)) ?_ | refine LD.val rfl rfl (ov_idx Tryd.underlying24 Tryd.sizeOf72 rfl rfl (by omega)) ?_
                    refine LD.val rfl rfl (ov_field Tryd.underlying72 rfl Tryd.sizeOf3 rfl (k := 2) rfl rfl) ?_
                    first | refine LD.rd rfl rfl (om_slE (j := 2) (by assumption) (by intro _; rfl) Tryd.isAgg3 rfl rfl (by exact getq default (by first | omega | (simp only [List.length_set, List.length_append, List.length_cons, List.length_nil]; omega))) rfl (by rfl)) ?_ | refine LD.rdC rfl rfl (om_srE (j := 2) (by assumption) Tryd.isAgg3 rfl rfl (by exact getq default (by first | omega | (simp only [List.length_set, List.length_append, List.length_cons, List.length_nil]; omega))) (by rfl) (by rfl) id) ?_ | refine LD.rd rfl rfl (om_ld Tryd.isAgg3 rfl rfl) ?_
                    refine LD.callE rfl rfl (oc_call (enters_fn Tryd.func55 (by kernel_rfl) rfl) rfl) (fun w hm hc hg => put_spec k _ w (by omega) hx4) ?_
                    refine LD.tail rfl rfl ?_
                    first | refine LM.stW Tryd.sizeOf49 rfl rfl rfl rfl (by first | rfl | decide | (simp; done)) (fun hlt => absurd hlt (by omega)) ?_ | refine LM.st Tryd.sizeOf49 rfl rfl rfl (by first | decide | exact Nat.le_of_ble_eq_true rfl | (simp; done) | (simp; omega)) rfl (fun hlt => absurd hlt (by omega)) ?_
                    refine LM.nil ?_
                    refine QM.qn ?_
                    refine QM.sub (e' := [(0, _), (1, _), (7, _), (8, _), (10, _), (11, _)]) ⟨rfl, rfl, rfl, rfl, rfl, rfl, trivial⟩ ?_
                    refine QM.then ?_
                    refine wpM.region ?_
                    refine LM.val (ov_move rfl) ?_
                    refine LM.val (ov_add64 rfl rfl (by omega)) ?_
                    refine LM.val (ov_assign rfl) ?_
                    refine LM.nil ?_
                    refine QM.sub (e' := [(0, _), (1, _), (7, _), (8, _), (10, _), (11, _)]) ⟨rfl, rfl, rfl, rfl, rfl, rfl, trivial⟩ ?_
                    refine QM.block_normal ?_
                    refine QM.then ?_
                    refine wpM.region ?_
                    refine LM.val (ov_move rfl) ?_
                    refine LM.val (ov_add64 rfl rfl (by omega)) ?_
                    refine LM.val (ov_assign rfl) ?_
                    refine LM.nil ?_
                    refine QM.sub (e' := [(0, _), (1, _), (7, _), (8, _), (10, _), (11, _)]) ⟨rfl, rfl, rfl, rfl, rfl, rfl, trivial⟩ ?_
                    -- again1: h1- h2- h3+ h4- h7- h8- h9+ h11-
                    refine QM.againK ((k + 1, j + 1, xs.set k (ws.getD j default).n)) ⟨(by first | rfl | exact lk rfl (by congr 1; omega) | exact lk rfl (by simp)), (by first | rfl | exact lk rfl (by congr 1; omega) | exact lk rfl (by simp)), rfl, rfl, rfl, rfl, trivial⟩ (by (repeat' (first | exact SubM.nil _ | refine SubM.cons rfl ?_ | refine SubM.app ?_))) (fun _ h => h) ?_ ?_
                    · exact ⟨by omega, by omega, by simpa using hx4, by rw [show manyA (kindA ws i) - (k + 1) = manyA (kindA ws i) - k - 1 by omega, ← numG_next (by omega) (hq.symm.trans h11)]; exact hN⟩
                    · first | omega | (dsimp only; omega)
              ·
                refine wpM.exit ?_
                refine QM.then_exit ?_
                refine QM.then_exit ?_
                refine QM.block_hit ?_
                refine QM.then ?_
                refine wpM.seq ?_
                refine wpM.seq ?_
                refine wpM.joinK (α := Bool) (fun q => [(104, .bool q)]) [(0, _), (1, _), (7, _), (10, _)] (fun q => (b10, .cells (fA (toA (kindA ws i) xs)).toArray 49 (0, 0)) :: (mo ++ [])) (fun q => q = !isR ws j 3 [59]) ⟨rfl, rfl, rfl, rfl, trivial⟩ ?_ ?_
                ·
                  refine wpM.region ?_
                  refine LM.val (ov_move rfl) ?_
                  refine LM.val (ov_move rfl) ?_
                  refine LM.val (ov_len Tryd.underlying24 rfl) ?_
                  refine LM.val (ov_geq rfl rfl) ?_
                  refine LM.val (ov_move rfl) ?_
                  first | refine LM.splitD (t := 89) rfl (fun h12 => ?_) (fun h12 => ?_) | refine LM.splitB (t := 89) rfl (fun h12 => ?_) (fun h12 => ?_)
                  ·
                    refine LM.drop (t := 89) rfl rfl rfl ?_
                    refine LM.drop (t := 89) rfl rfl rfl ?_
                    refine LM.drop (t := 89) rfl rfl rfl ?_
                    refine LM.drop (t := 89) rfl rfl rfl ?_
                    refine LM.drop (t := 89) rfl rfl rfl ?_
                    refine LM.drop (t := 89) rfl rfl rfl ?_
                    refine LM.val (ov_pickT rfl rfl) ?_
                    refine LM.val (ov_move rfl) ?_
                    refine LM.drop (t := 97) rfl rfl rfl ?_
                    refine LM.drop (t := 97) rfl rfl rfl ?_
                    refine LM.drop (t := 97) rfl rfl rfl ?_
                    refine LM.drop (t := 97) rfl rfl rfl ?_
                    refine LM.drop (t := 97) rfl rfl rfl ?_
                    refine LM.drop (t := 97) rfl rfl rfl ?_
                    refine LM.val (ov_pickT rfl rfl) ?_
                    refine LM.nil ?_
                    refine QM.sub (e' := [(0, _), (1, _), (7, _), (10, _), (104, _)]) ⟨rfl, rfl, rfl, rfl, rfl, trivial⟩ ?_
                    -- meet1: h1- h2- h3+ h4- h7- h8- h9- h12+
                    refine QM.meetK (_) ⟨(by first | rfl | exact lk rfl (by congr 1; omega) | exact lk rfl (by simp)), rfl, rfl, rfl, rfl, trivial⟩ (by (repeat' (first | exact SubM.nil _ | refine SubM.cons rfl ?_ | refine SubM.app ?_))) ?_
                    · unfold isR; rw [decide_eq_false (show ¬ j < ws.length by omega)]; rfl
                  ·
                    refine LM.strip (t := 89) rfl rfl rfl ?_
                    refine LM.val (ov_move rfl) ?_
                    refine LM.strip (t := 89) rfl rfl rfl ?_
                    refine LM.val (ov_move rfl) ?_
                    refine LM.strip (t := 89) rfl rfl rfl ?_
                    first | refine LM.val (ov_idxSN (by first | exact Sr.spt (by assumption) | exact Sl.spt (by assumption)) Tryd.underlying24 Tryd.sizeOf72 rfl rfl (by omega)) ?_ | refine LM.val (ov_idxS (by first | exact Sr.spt (by assumption) | exact Sl.spt (by assumption)) Tryd.underlying24 Tryd.sizeOf72 rfl rfl (by omega)) ?_ | refine LM.val (ov_idx Tryd.underlying24 Tryd.sizeOf72 rfl rfl (by omega)) ?_
                    refine LM.strip (t := 89) rfl rfl rfl ?_
                    refine LM.val (ov_field Tryd.underlying72 rfl Tryd.sizeOf3 rfl (k := 0) rfl rfl) ?_
                    refine LM.strip (t := 89) rfl rfl rfl ?_
                    first | refine LM.rd (om_slE (j := 0) (by assumption) (by intro _; rfl) Tryd.isAgg3 rfl rfl (by exact getq default (by first | omega | (simp only [List.length_set, List.length_append, List.length_cons, List.length_nil]; omega))) rfl (by rfl)) ?_ | refine LM.rdC (om_srE (j := 0) (by assumption) Tryd.isAgg3 rfl rfl (by exact getq default (by first | omega | (simp only [List.length_set, List.length_append, List.length_cons, List.length_nil]; omega))) (by rfl) (by rfl) id) ?_ | refine LM.rd (om_ld Tryd.isAgg3 rfl rfl) ?_
                    refine LM.strip (t := 89) rfl rfl rfl ?_
                    refine LM.val (ov_neq rfl rfl) ?_
                    refine LM.val (ov_pickF rfl rfl) ?_
                    refine LM.val (ov_move rfl) ?_
                    first | refine LM.splitD (t := 97) rfl (fun h13 => ?_) (fun h13 => ?_) | refine LM.splitB (t := 97) rfl (fun h13 => ?_) (fun h13 => ?_)
                    ·
                      refine LM.drop (t := 97) rfl rfl rfl ?_
                      refine LM.drop (t := 97) rfl rfl rfl ?_
                      refine LM.drop (t := 97) rfl rfl rfl ?_
                      refine LM.drop (t := 97) rfl rfl rfl ?_
                      refine LM.drop (t := 97) rfl rfl rfl ?_
                      refine LM.drop (t := 97) rfl rfl rfl ?_
                      refine LM.val (ov_pickT rfl rfl) ?_
                      refine LM.nil ?_
                      refine QM.sub (e' := [(0, _), (1, _), (7, _), (10, _), (104, _)]) ⟨rfl, rfl, rfl, rfl, rfl, trivial⟩ ?_
                      -- meet2: h1- h2- h3+ h4- h7- h8- h9- h12- h13+
                      refine QM.meetK (_) ⟨(by first | rfl | exact lk rfl (by congr 1; omega) | exact lk rfl (by simp)), rfl, rfl, rfl, rfl, trivial⟩ (by (repeat' (first | exact SubM.nil _ | refine SubM.cons rfl ?_ | refine SubM.app ?_))) ?_
                      · unfold isR; rw [decide_eq_true (show j < ws.length by omega), decide_eq_false (show ¬ (ws.getD j default).k = 3 by omega)]; rfl
                    ·
                      refine LM.strip (t := 97) rfl rfl rfl ?_
                      refine LM.val (ov_move rfl) ?_
                      refine LM.strip (t := 97) rfl rfl rfl ?_
                      refine LM.val (ov_move rfl) ?_
                      refine LM.strip (t := 97) rfl rfl rfl ?_
                      first | refine LM.val (ov_idxSN (by first | exact Sr.spt (by assumption) | exact Sl.spt (by assumption)) Tryd.underlying24 Tryd.sizeOf72 rfl rfl (by omega)) ?_ | refine LM.val (ov_idxS (by first | exact Sr.spt (by assumption) | exact Sl.spt (by assumption)) Tryd.underlying24 Tryd.sizeOf72 rfl rfl (by omega)) ?_ | refine LM.val (ov_idx Tryd.underlying24 Tryd.sizeOf72 rfl rfl (by omega)) ?_
                      refine LM.strip (t := 97) rfl rfl rfl ?_
                      refine LM.val (ov_field Tryd.underlying72 rfl Tryd.sizeOf9 rfl (k := 1) rfl rfl) ?_
                      refine LM.strip (t := 97) rfl rfl rfl ?_
                      first | refine LM.rd (om_slE (j := 1) (by assumption) (by intro _; rfl) Tryd.isAgg9 rfl rfl (by exact getq default (by first | omega | (simp only [List.length_set, List.length_append, List.length_cons, List.length_nil]; omega))) rfl (by rfl)) ?_ | refine LM.rdC (om_srE (j := 1) (by assumption) Tryd.isAgg9 rfl rfl (by exact getq default (by first | omega | (simp only [List.length_set, List.length_append, List.length_cons, List.length_nil]; omega))) (by rfl) (by rfl) id) ?_ | refine LM.rd (om_ld Tryd.isAgg9 rfl rfl) ?_
                      refine LM.strip (t := 97) rfl rfl rfl ?_
                      refine LM.val (ov_sneqL rfl rfl) ?_
                      refine LM.val (ov_pickF rfl rfl) ?_
                      refine LM.nil ?_
                      refine QM.sub (e' := [(0, _), (1, _), (7, _), (10, _), (104, _)]) ⟨rfl, rfl, rfl, rfl, rfl, trivial⟩ ?_
                      -- meet3: h1- h2- h3+ h4- h7- h8- h9- h12- h13-
                      refine QM.meetK (_) ⟨(by first | rfl | exact lk rfl (by congr 1; omega) | exact lk rfl (by simp)), rfl, rfl, rfl, rfl, trivial⟩ (by (repeat' (first | exact SubM.nil _ | refine SubM.cons rfl ?_ | refine SubM.app ?_))) ?_
                      · unfold isR; rw [decide_eq_true (show j < ws.length by omega), decide_eq_true (show (ws.getD j default).k = 3 by omega)]; simp only [Bool.true_and, decide_not]
                ·
                  rintro q hq
                  change QM _ _ _ _ _ ((b10, .cells (fA (toA (kindA ws i) xs)).toArray 49 (0, 0)) :: (mo ++ [])) _ _ _
                  refine QM.then ?_
                  first | refine wpM.condD rfl (fun h14 => ?_) (fun h14 => ?_) | refine wpM.condB rfl (fun h14 => ?_) (fun h14 => ?_)
                  ·
                    refine wpM.seq ?_
                    refine wpM.region ?_
                    refine LM.val (ov_move rfl) ?_
                    refine LM.val (ov_assign rfl) ?_
                    refine LM.val (ov_assign rfl) ?_
                    refine LM.val (ov_assign rfl) ?_
                    refine LM.nil ?_
                    refine QM.sub (e' := [(4, _), (5, _), (6, _)]) ⟨rfl, rfl, rfl, trivial⟩ ?_
                    refine QM.then ?_
                    refine wpM.ret ?_
                    refine QM.then_ret ?_
                    refine QM.block_ret ?_
                    refine QM.then_ret ?_
                    refine QM.block_ret ?_
                    refine QM.then_ret ?_
                    refine QM.leave (.inl rfl) [.tmp 4, .tmp 5, .tmp 6] Tryd.results21 rfl ?_
                    intro w' hm' hc' hg'
                    -- leaf 6: h1- h2- h3+ h4- h7- h8- h9- h14+
                    have hNK : numK ws i = (j, 0, xs) := (by rw [← hN, show manyA (kindA ws i) - k = 0 by omega]; rfl); rw [acts_nat hi0, ← hL, loopA_e hilt h7 (by omega) (oneA_s h7 hNK (by simpa using hq.symm.trans h14))]; exact ⟨hc', [], ⟨none, 0, 0, rfl, rfl, .nil _ _ _ _⟩, Mem.nil _, fun p hp => by cases hp⟩
                  ·
                    refine wpM.skip ?_
                    refine QM.then ?_
                    refine wpM.seq ?_
                    refine wpM.region ?_
                    refine LM.val (ov_move rfl) ?_
                    refine LM.val (ov_add64 rfl rfl (by omega)) ?_
                    refine LM.val (ov_assign rfl) ?_
                    refine LM.nil ?_
                    refine QM.sub (e' := [(0, _), (1, _), (7, _), (10, _)]) ⟨rfl, rfl, rfl, rfl, trivial⟩ ?_
                    refine QM.then ?_
                    refine wpM.region ?_
                    refine LM.val (ov_move rfl) ?_
                    first | refine LM.rd (om_ldW Tryd.isAgg49 Tryd.sizeOf49 rfl rfl) ?_ | refine LM.rd (om_ldA Tryd.isAgg49 Tryd.sizeOf49 rfl (vs := [_, _, _, _, _]) rfl ⟨rfl, rfl, rfl, rfl, rfl, trivial⟩) ?_
                    refine LM.single Tryd.underlying22 Tryd.sizeOf49 Tryd.zeroValue49 rfl rfl rfl rfl rfl (fun b110 hb110 => ?_)
                    refine LM.app (a := toA (kindA ws i) xs) Tryd.underlying22 Tryd.typeInfo49 rfl rfl rfl rfl rfl rfl rfl (by assumption) (by rfl) (by intro _; rfl) (by intro _ u hu; simp [fA] at hu; (repeat (first | (rcases hu with rfl | hu) | subst hu | rfl))) (by first | exact Nat.le_refl _ | omega) (fun p hp hlt => absurd hlt (Nat.not_lt_of_le (Sl.ge (by assumption) p hp))) (by first | omega | (unfold maxLen; omega)) (by simp only [Tryd.t49]; omega) (fun ad111 n111 cap111 m111 hn111 hs111 hin111 => ?_)
                    refine LM.val (ov_assign rfl) ?_
                    refine LM.nil ?_
                    refine QM.sub (e' := [(0, _), (1, _), (7, _)]) ⟨rfl, rfl, rfl, trivial⟩ ?_
                    refine QM.block_normal ?_
                    -- again1: h1- h2- h3+ h4- h7- h8- h9- h14-
                    have hNK : numK ws i = (j, 0, xs) := (by rw [← hN, show manyA (kindA ws i) - k = 0 by omega]; rfl); have hjs : isR ws j 3 [59] = true := (by simpa using hq.symm.trans h14); have hone := oneA_ok h7 hNK hjs; have hlt := oneA_lt (ws := ws) (i := i) (by rw [hone]); rw [hone] at hlt; have hlt : i < j + 1 ∧ j + 1 ≤ ws.length := hlt
                    refine QM.againK ((j + 1, out ++ [toA (kindA ws i) xs], ad111, n111, cap111, m111)) ⟨(by first | rfl | exact lk rfl (by congr 1; omega) | exact lk rfl (by simp)), (by first | rfl | exact lk rfl (by congr 1; omega) | exact lk rfl (by simp)), rfl, trivial⟩ (by (repeat' (first | exact SubM.nil _ | refine SubM.cons rfl ?_ | refine SubM.app ?_))) (fun _ h => h) ?_ ?_
                    · exact ⟨hlt.2, (loopA_g hilt h7 (by omega) hone).symm.trans hL, by rw [hn111]; simp, hs111, by simp; omega⟩
                    · first | omega | (dsimp only; omega)
      ·
        refine wpM.exit ?_
        refine QM.then_exit ?_
        refine QM.then_exit ?_
        refine QM.block_hit ?_
        refine QM.then ?_
        refine wpM.seq ?_
        refine wpM.region ?_
        refine LM.val (ov_move rfl) ?_
        refine LM.val (ov_move rfl) ?_
        refine LM.val (ov_assign rfl) ?_
        refine LM.val (ov_assign rfl) ?_
        refine LM.val (ov_assign rfl) ?_
        refine LM.nil ?_
        refine QM.sub (e' := [(4, _), (5, _), (6, _)]) ⟨rfl, rfl, rfl, trivial⟩ ?_
        refine QM.then ?_
        refine wpM.ret ?_
        refine QM.leave (.inl rfl) [.tmp 4, .tmp 5, .tmp 6] Tryd.results21 rfl ?_
        intro w' hm' hc' hg'
        -- leaf 7: h1- h2- h3-
        rw [acts_nat hi0, ← hL, loopA_end (by omega)]; exact ⟨hc', mo, ⟨ado, no, capo, rfl, hno, hso⟩, hm'.pick _, fun p hp => Sl.ge hso p hp⟩

end Go.Eng

