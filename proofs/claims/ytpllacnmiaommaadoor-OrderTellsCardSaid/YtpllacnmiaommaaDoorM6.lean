/- The walks of acts that may be. No condition. -/
import Derived.Test.YtpllacnmiaommaaDoorM2
import Derived.Test.YtpllacnmiaommaaDoorM5
import Derived.Test.YtpllacnmiaommaaDoorM3
import Derived.Test.YtpllacnmiaommaaDoorM4
set_option linter.unusedVariables false
set_option linter.unusedSimpArgs false
set_option maxRecDepth 100000
namespace Go.Eng
open Go Go.Proofs Go.RowKit
theorem raname_spec (k : Int) (w : World) : Ret Tryd.prog 65 #[.int .i64 k] w (fun v w' => v = vS (acT k) ∧ Ext w w') := by
 refine Ret.enterM Tryd.func65 rfl Tryd.ntmps65 rfl ([]) (no) (Mem.nil w) ?_
 refine wR <| LM.as rfl <| nB [(0, _)] ?_
 refine LM.row (vs := [_, _, _, _, _, _, _, _, _]) Tryd.underlying136 Tryd.sizeOf9 Tryd.zeroValue9 rfl rfl rfl rfl rfl rfl (fun b4 hb4 => ?_)
 refine LM.as rfl <| nA [(0, _), (3, _)] <| wpM.seq <| wR <| LM.mv rfl <| LM.val (ov_lss rfl rfl) <| LM.mv rfl ?_
 refine LM.splitD (t := 7) rfl (fun h1 => ?_) (fun h1 => ?_)
 ·
  refine LM.dr 7 rfl rfl rfl <| LM.dr 7 rfl rfl rfl <| LM.val (ov_pickT rfl rfl) <| nA [(0, _), (3, _), (10, _)] ?_
  refine wpM.condT rfl ?_
  refine wR <| LM.as rfl <| nA [(2, _)] <| wpM.ret <| QM.then_ret ?_
  refine qL Tryd.results65 rfl fun w' hm' hc' hg' => ?_
  refine ⟨?_, hc'⟩; show vS _ = _; congr 1; first | (rw [acT, if_neg om]; done) | (rw [acT, if_pos om]; rfl)
 refine LM.sp 7 rfl rfl rfl <| LM.mv rfl <| LM.sp 7 rfl rfl rfl <| LM.val (ov_gtr rfl rfl) <| LM.val (ov_pickF rfl rfl) <| nA [(0, _), (3, _), (10, _)] ?_
 refine wpM.condD rfl (fun h2 => ?_) (fun h2 => ?_)
 ·
  refine wR <| LM.as rfl <| nA [(2, _)] <| wpM.ret <| QM.then_ret ?_
  refine qL Tryd.results65 rfl fun w' hm' hc' hg' => ?_
  refine ⟨?_, hc'⟩; show vS _ = _; congr 1; first | (rw [acT, if_neg om]; done) | (rw [acT, if_pos om]; rfl)
 refine wpM.skip <| tR <| LM.mv rfl <| LM.mv rfl ?_
 change LM _ _ _ _ _ _ _ _ ((b4, Obj.cells (arr fB acW []) 9 (0, 0)) :: _) _ _ _; have hs4 : Sl fB 9 1 w.heap.size acW (.slice (some ⟨b4, 0, none⟩) 9 9) [(b4, .cells (arr fB acW []) 9 (0, 0))] := .inr ⟨b4, 9, [], hb4, rfl, rfl, by decide, by unfold maxLen; decide, rfl⟩; have hl12 : acW.length = 9 := rfl
 refine LM.val (ov_idxS au6 Tryd.underlying136 Tryd.sizeOf9 rfl rfl om) ?_
 refine LM.rd (om_sl1 asm ir Tryd.isAgg9 rfl rfl au3 (by rfl)) ?_
 refine LM.as rfl <| nA [(2, _)] <| wpM.ret ?_
 refine qL Tryd.results65 rfl fun w' hm' hc' hg' => ?_
 refine ⟨?_, hc'⟩; show vS _ = _; congr 1; first | (rw [acT, if_neg om]; done) | (rw [acT, if_pos om]; rfl)
theorem rmany_spec (k : Int) (w : World) (hk : 0 ≤ k ∧ k < 9) : Ret Tryd.prog 66 #[.int .i64 k] w (fun v w' => v = .int .i64 (manyA k : Nat) ∧ Ext w w') := by
 refine Ret.enterM Tryd.func66 rfl Tryd.ntmps66 rfl ([]) (no) (Mem.nil w) ?_
 refine wR <| LM.as rfl <| nB [(0, _)] ?_
 refine LM.row (vs := [_, _, _, _, _, _, _, _, _]) Tryd.underlying22 Tryd.sizeOf3 Tryd.zeroValue3 rfl rfl rfl rfl rfl rfl (fun b4 hb4 => ?_)
 refine LM.as rfl <| nB [(0, _), (3, _)] <| LM.mv rfl <| LM.mv rfl ?_
 change LM _ _ _ _ _ _ _ _ ((b4, Obj.cells (arr fI manyL []) 3 (0, 0)) :: _) _ _ _; have hs4 : Sl fI 3 1 w.heap.size manyL (.slice (some ⟨b4, 0, none⟩) 9 9) [(b4, .cells (arr fI manyL []) 3 (0, 0))] := .inr ⟨b4, 9, [], hb4, rfl, rfl, by decide, by unfold maxLen; decide, rfl⟩; have hl12 : manyL.length = 9 := rfl
 refine LM.val (ov_idxS au6 Tryd.underlying22 Tryd.sizeOf3 rfl rfl om) ?_
 refine LM.rd (om_sl1 asm ir Tryd.isAgg3 rfl rfl (by exact getq 0 au4) (by rfl)) ?_
 refine LM.as rfl <| nA [(2, _)] <| wpM.ret ?_
 refine qL Tryd.results66 rfl fun w' hm' hc' hg' => ?_
 refine ⟨?_, hc'⟩; show Value.int .i64 (manyL.getD k.toNat 0) = _; rw [manyL_get hk]
theorem put_spec {k : Int} {xs : List Int} (i : Nat) (n : Int) (w : World) (hi : i < 4) (hx : xs.length = 4) : Ret Tryd.prog 67 #[.agg (fA (toA k xs)).toArray, .int .i64 (i : Nat), .int .i64 n] w (fun v w' => v = .agg (fA (toA k (xs.set i n))).toArray ∧ Ext w w') := by
 refine Ret.enterM Tryd.func67 rfl Tryd.ntmps67 rfl ([]) (no) (Mem.nil w) ?_
 refine wR ?_
 refine LM.box rfl rfl (fun b3 hb3 => ?_)
 refine LM.alloc Tryd.zeroValue118 rfl (fun b6 hb6 => ?_)
 refine nA [(1, _), (2, _), (3, _), (6, _)] <| wpM.seq <| wR <| LM.mv rfl <| LM.val (ov_eql rfl rfl) <| nA [(1, _), (2, _), (3, _), (6, _), (8, _)] ?_
 refine wpM.condD rfl (fun h1 => ?_) (fun h1 => ?_)
 ·
  refine wpM.region ?_
  refine LM.mv rfl <| LM.val (ovf 3 rfl rfl rfl rfl) ?_
  refine LM.st Tryd.sizeOf3 rfl rfl rfl au5 rfl au8 ?_
  refine nB [(3, _), (6, _)] ?_
  refine LM.rd (om_ldW Tryd.isAgg118 Tryd.sizeOf118 rfl rfl) ?_
  refine LM.stW Tryd.sizeOf118 rfl rfl rfl rfl au7 au8 ?_
  refine nA [(6, _)] <| wpM.ret ?_
  refine QM.leaveCs (ds := ([])) (.inl rfl) [.cell 6 118] Tryd.results67 hd_nil (rc_w rfl Tryd.isAgg118 Tryd.sizeOf118 rfl rc_nil) ?_
  intro w' hm' hc'
  refine ⟨?_, hc'⟩; have hi4 : i = 0 ∨ i = 1 ∨ i = 2 ∨ i = 3 := om; match xs, hx with | [a0, a1, a2, a3], _ => (rcases hi4 with rfl | rfl | rfl | rfl <;> first | rfl | (exfalso; omega))
 refine wR <| LM.mv rfl <| LM.val (ov_eql rfl rfl) <| nA [(1, _), (2, _), (3, _), (6, _), (12, _)] ?_
 refine wpM.condD rfl (fun h2 => ?_) (fun h2 => ?_)
 ·
  refine wpM.region ?_
  refine LM.mv rfl <| LM.val (ovf 3 rfl rfl rfl rfl) ?_
  refine LM.st Tryd.sizeOf3 rfl rfl rfl au5 rfl au8 ?_
  refine nB [(3, _), (6, _)] ?_
  refine LM.rd (om_ldW Tryd.isAgg118 Tryd.sizeOf118 rfl rfl) ?_
  refine LM.stW Tryd.sizeOf118 rfl rfl rfl rfl au7 au8 ?_
  refine nA [(6, _)] <| wpM.ret ?_
  refine QM.leaveCs (ds := ([])) (.inl rfl) [.cell 6 118] Tryd.results67 hd_nil (rc_w rfl Tryd.isAgg118 Tryd.sizeOf118 rfl rc_nil) ?_
  intro w' hm' hc'
  refine ⟨?_, hc'⟩; have hi4 : i = 0 ∨ i = 1 ∨ i = 2 ∨ i = 3 := om; match xs, hx with | [a0, a1, a2, a3], _ => (rcases hi4 with rfl | rfl | rfl | rfl <;> first | rfl | (exfalso; omega))
 refine wR <| LM.mv rfl <| LM.val (ov_eql rfl rfl) <| nA [(2, _), (3, _), (6, _), (16, _)] ?_
 refine wpM.condD rfl (fun h3 => ?_) (fun h3 => ?_)
 ·
  refine wpM.region ?_
  refine LM.mv rfl <| LM.val (ovf 3 rfl rfl rfl rfl) ?_
  refine LM.st Tryd.sizeOf3 rfl rfl rfl au5 rfl au8 ?_
  refine nB [(3, _), (6, _)] ?_
  refine LM.rd (om_ldW Tryd.isAgg118 Tryd.sizeOf118 rfl rfl) ?_
  refine LM.stW Tryd.sizeOf118 rfl rfl rfl rfl au7 au8 ?_
  refine nA [(6, _)] <| wpM.ret ?_
  refine QM.leaveCs (ds := ([])) (.inl rfl) [.cell 6 118] Tryd.results67 hd_nil (rc_w rfl Tryd.isAgg118 Tryd.sizeOf118 rfl rc_nil) ?_
  intro w' hm' hc'
  refine ⟨?_, hc'⟩; have hi4 : i = 0 ∨ i = 1 ∨ i = 2 ∨ i = 3 := om; match xs, hx with | [a0, a1, a2, a3], _ => (rcases hi4 with rfl | rfl | rfl | rfl <;> first | rfl | (exfalso; omega))
 refine wpM.region ?_
 refine LM.mv rfl <| LM.val (ovf 3 rfl rfl rfl rfl) ?_
 refine LM.st Tryd.sizeOf3 rfl rfl rfl au5 rfl au8 ?_
 refine nB [(3, _), (6, _)] ?_
 refine LM.rd (om_ldW Tryd.isAgg118 Tryd.sizeOf118 rfl rfl) ?_
 refine LM.stW Tryd.sizeOf118 rfl rfl rfl rfl au7 au8 ?_
 refine nA [(6, _)] <| wpM.ret ?_
 refine QM.leaveCs (ds := ([])) (.inl rfl) [.cell 6 118] Tryd.results67 hd_nil (rc_w rfl Tryd.isAgg118 Tryd.sizeOf118 rfl rc_nil) ?_
 intro w' hm' hc'
 refine ⟨?_, hc'⟩; have hi4 : i = 0 ∨ i = 1 ∨ i = 2 ∨ i = 3 := om; match xs, hx with | [a0, a1, a2, a3], _ => (rcases hi4 with rfl | rfl | rfl | rfl <;> first | rfl | (exfalso; omega))
theorem oneA_n {ws : List Wrd} {i j : Nat} {xs : List Int} (h : kindA ws i ≠ 0) (h2 : numK ws i = (j, 5, xs)) : oneA ws i = (default, j, 5) := by unfold oneA; rw [if_neg h, h2, if_pos (show (5 : Int) ≠ 0 by decide)]
theorem oneA_s {ws : List Wrd} {i j : Nat} {xs : List Int} (h : kindA ws i ≠ 0) (h2 : numK ws i = (j, 0, xs)) (h3 : isR ws j 3 [59] = false) : oneA ws i = (default, j, 5) := by unfold oneA; rw [if_neg h, h2, if_neg (fun q => q rfl), if_neg (by rw [h3]; simp)]
theorem oneA_ok {ws : List Wrd} {i j : Nat} {xs : List Int} (h : kindA ws i ≠ 0) (h2 : numK ws i = (j, 0, xs)) (h3 : isR ws j 3 [59] = true) : oneA ws i = (toA (kindA ws i) xs, j + 1, 0) := by unfold oneA; rw [if_neg h, h2, if_neg (fun q => q rfl), if_pos h3]
theorem numG_stop {ws : List Wrd} {f j i : Nat} {xs : List Int} (hf : 0 < f) (h : (decide (ws.length ≤ j) || decide ((ws.getD j default).k ≠ 2)) = true) : numG ws f j i xs = (j, 5, xs) := by
  obtain ⟨g, rfl⟩ : ∃ g, f = g + 1 := ⟨f - 1, by omega⟩
  unfold numG; rw [if_pos h]
theorem numG_next {ws : List Wrd} {f j i : Nat} {xs : List Int} (hf : 0 < f) (h : (decide (ws.length ≤ j) || decide ((ws.getD j default).k ≠ 2)) = false) : numG ws f j i xs = numG ws (f - 1) (j + 1) (i + 1) (xs.set i (ws.getD j default).n) := by
  obtain ⟨g, rfl⟩ : ∃ g, f = g + 1 := ⟨f - 1, by omega⟩
  conv => lhs; unfold numG
  rw [if_neg (by rw [h]; simp), Nat.add_sub_cancel]
def AcT (r : List Act × Int × Int) (n0 : Nat) (v : Value) (m : Mem0) : Prop := ∃ ad n cap, v = .tuple #[.slice ad n cap, .int .i64 r.2.1, .int .i64 r.2.2] ∧ n = r.1.length ∧ Sl fA 118 5 n0 r.1 (.slice ad n cap) m
theorem AcT.mono {r : List Act × Int × Int} : ∀ (k k' : Nat) u m, k' ≤ k → AcT r k u m → AcT r k' u m := fun k k' u m h ⟨ad, n, cap, h1, h2, h3⟩ => ⟨ad, n, cap, h1, h2, h3.mono h⟩
def kaccA (ws : List Wrd) (i : Nat) : Nat → Int
  | 0 => 0
  | m + 1 => if isR ws i 1 (acT ((m + 1 : Nat) : Int)) then ((m + 1 : Nat) : Int) else kaccA ws i m
theorem acT_nat {k : Nat} (h : k < 9) : acT (k : Int) = acW.getD k [] := by unfold acT; rw [if_pos om, Int.toNat_natCast]
theorem kaccA_eq (ws : List Wrd) (i : Nat) : kaccA ws i 8 = kindA ws i := by
  unfold kindA
  cases hc : (decide (i < ws.length) && decide ((ws.getD i default).k = 1)) with
  | false =>
    rw [if_neg (by simp)]
    have : ∀ m, kaccA ws i m = 0 := by
      intro m
      induction m with
      | zero => rfl
      | succ m ih => unfold kaccA isR; rw [hc, Bool.false_and, if_neg (by simp), ih]
    exact this 8
  | true =>
    rw [if_pos rfl, ← refA_eq]
    have : ∀ m, m ≤ 8 → kaccA ws i m = refA (ws.getD i default).t m := by
      intro m
      induction m with
      | zero => intro _; rfl
      | succ m ih =>
        intro hm
        unfold kaccA refA isR; rw [hc, Bool.true_and, ih om, acT_nat om]
        by_cases q : (ws.getD i default).t = acW.getD (m + 1) []
        · rw [if_pos q, if_pos (decide_eq_true q)]
        · rw [if_neg q, if_neg (by rw [decide_eq_false q]; simp)]
    exact this 8 (Nat.le_refl _)
theorem kaccA_t {ws : List Wrd} {i k : Nat} (h1 : 1 ≤ k) (h : isR ws i 1 (acT (k : Int)) = true) : kaccA ws i k = (k : Int) := by
  obtain ⟨m, rfl⟩ : ∃ m, k = m + 1 := ⟨k - 1, by omega⟩
  unfold kaccA; rw [if_pos h]
theorem kaccA_f {ws : List Wrd} {i k : Nat} (h1 : 1 ≤ k) (h : isR ws i 1 (acT (k : Int)) = false) : kaccA ws i k = kaccA ws i (k - 1) := by
  obtain ⟨m, rfl⟩ : ∃ m, k = m + 1 := ⟨k - 1, by omega⟩
  rw [show m + 1 - 1 = m by omega]
  conv => lhs; unfold kaccA
  rw [if_neg (by rw [h]; simp)]
theorem loopA_0 {ws : List Wrd} {i : Nat} {out : List Act} (h : i < ws.length) (h0 : kindA ws i = 0) : loopA ws i out = ([], (i : Int), 5) := by rw [loopA_step h, if_pos h0]
theorem loopA_6 {ws : List Wrd} {i : Nat} {out : List Act} (h : i < ws.length) (h0 : kindA ws i ≠ 0) (h1 : out.length = 4000) : loopA ws i out = ([], (i : Int), 6) := by rw [loopA_step h, if_neg h0, if_pos h1]
theorem loopA_e {ws : List Wrd} {i j : Nat} {out : List Act} (h : i < ws.length) (h0 : kindA ws i ≠ 0) (h1 : out.length ≠ 4000) (he : oneA ws i = (default, j, 5)) : loopA ws i out = ([], (j : Int), 5) := by rw [loopA_step h, if_neg h0, if_neg h1, if_pos (by rw [he]; exact (show (5 : Int) ≠ 0 by decide)), he]
theorem loopA_g {ws : List Wrd} {i j : Nat} {a : Act} {out : List Act} (h : i < ws.length) (h0 : kindA ws i ≠ 0) (h1 : out.length ≠ 4000) (he : oneA ws i = (a, j, 0)) : loopA ws i out = loopA ws j (out ++ [a]) := by rw [loopA_step h, if_neg h0, if_neg h1, if_neg (by rw [he]; exact fun q => q rfl), he]
set_option maxHeartbeats 1000000 in
theorem raparse_spec {ws : List Wrd} {ad : Option Addr} {n cap : Nat} (p : Int) (w : World) (hn : n = ws.length) (hx : ws.length ≤ 1000000000) (hl : Sr fW 4 ws (.slice ad n cap) w) : Ret Tryd.prog 43 #[.slice ad n cap, .int .i64 p] w (fun v w' => Ext w w' ∧ ∃ m, AcT (actsO ws p) w.heap.size v m ∧ Mem w' m ∧ ∀ p ∈ m, w.heap.size ≤ p.1) := by
 refine Ret.enterM Tryd.func43 rfl Tryd.ntmps43 rfl ([]) (no) (Mem.nil w) ?_
 refine wR <| LM.as rfl <| LM.as rfl <| LM.as rfl <| nA [(0, _), (1, _)] <| wpM.seq <| wR <| LM.mv rfl <| LM.val (ov_lss rfl rfl) <| LM.mv rfl ?_
 refine LM.splitD (t := 14) rfl (fun h1 => ?_) (fun h1 => ?_)
 ·
  refine LM.dr 14 rfl rfl rfl <| LM.dr 14 rfl rfl rfl <| LM.dr 14 rfl rfl rfl <| LM.dr 14 rfl rfl rfl <| LM.val (ov_pickT rfl rfl) <| nA [(0, _), (1, _), (19, _)] ?_
  refine wpM.condT rfl ?_
  refine wR <| LM.as rfl <| LM.as rfl <| LM.as rfl <| nA [(4, _), (5, _), (6, _)] <| wpM.ret <| QM.then_ret ?_
  refine QM.leave (.inl rfl) [.tmp 4, .tmp 5, .tmp 6] Tryd.results43 rfl ?_
  intro w' hm' hc' hg'
  have hpar : actsO ws p = ([], 0, 5) := (by unfold actsO; rw [if_pos om]); rw [hpar]; exact ⟨hc', [], ⟨none, 0, 0, rfl, rfl, .nil _ _ _ _⟩, Mem.nil _, fun p hp => by cases hp⟩
 refine LM.sp 14 rfl rfl rfl <| LM.mv rfl <| LM.sp 14 rfl rfl rfl <| LM.mv rfl <| LM.sp 14 rfl rfl rfl <| LM.val (ov_len Tryd.underlying85 rfl) <| LM.sp 14 rfl rfl rfl <| LM.val (ov_gtr rfl rfl) <| LM.val (ov_pickF rfl rfl) <| nA [(0, _), (1, _), (19, _)] ?_
 refine wpM.condD rfl (fun h2 => ?_) (fun h2 => ?_)
 ·
  refine wR <| LM.as rfl <| LM.as rfl <| LM.as rfl <| nA [(4, _), (5, _), (6, _)] <| wpM.ret <| QM.then_ret ?_
  refine QM.leave (.inl rfl) [.tmp 4, .tmp 5, .tmp 6] Tryd.results43 rfl ?_
  intro w' hm' hc' hg'
  have hpar : actsO ws p = ([], 0, 5) := (by unfold actsO; rw [if_pos om]); rw [hpar]; exact ⟨hc', [], ⟨none, 0, 0, rfl, rfl, .nil _ _ _ _⟩, Mem.nil _, fun p hp => by cases hp⟩
 obtain ⟨i0, rfl⟩ : ∃ i0 : Nat, p = (i0 : Nat) := ⟨p.toNat, by omega⟩; have hi0 : i0 ≤ ws.length := om
 refine wpM.skip <| tR <| LM.as rfl <| nA [(0, _), (1, _), (7, _)] <| wpM.seq <| wpM.block ?_
 refine wpM.loopK0 (α := Nat × List Act × Option Addr × Nat × Nat × Mem0) (fun ⟨i, out, ado, no, capo, mo⟩ => [(1, .int .i64 (i : Nat)), (7, .slice ado no capo)]) [(0, _)] (fun ⟨i, out, ado, no, capo, mo⟩ => mo ++ []) (fun ⟨i, out, ado, no, capo, mo⟩ => i ≤ ws.length ∧ loopA ws i out = loopA ws i0 [] ∧ no = out.length ∧ Sl fA 118 5 w.heap.size out (.slice ado no capo) mo ∧ out.length ≤ 4000) (fun ⟨i, out, ado, no, capo, mo⟩ => ws.length - i) ((i0, [], none, 0, 0, [])) ⟨au2, au2, rfl, trivial⟩ au1 ⟨by omega, rfl, rfl, .nil _ _ _ _, by decide⟩ ?_
 rintro ⟨i, out, ado, no, capo, mo⟩ ⟨hi, hL, hno, hso, hol⟩
 change wpM _ _ _ _ _ _ _ (mo ++ []) _ _ _
 refine wpM.seq <| wR <| LM.mv rfl <| LM.mv rfl <| LM.val (ov_len Tryd.underlying85 rfl) <| LM.val (ov_lss rfl rfl) <| nA [(0, _), (1, _), (7, _), (23, _)] ?_
 refine wpM.condD rfl (fun h3 => ?_) (fun h3 => ?_)
 ·
  have hilt : i < ws.length := om
  refine wpM.skip <| QM.then <| wpM.block <| wR <| LM.as rfl <| nA [(0, _), (1, _), (7, _), (8, _)] <| wpM.seq <| wR <| LM.as rfl <| nA [(0, _), (1, _), (7, _), (8, _), (9, _)] <| wpM.block ?_
  refine wpM.loopK0 (α := Nat × Int) (fun ⟨k, kd⟩ => [(8, .int .i64 kd), (9, .int .i64 (k : Nat))]) [(0, _), (1, _), (7, _)] (fun ⟨k, kd⟩ => mo ++ []) (fun ⟨k, kd⟩ => 1 ≤ k ∧ k ≤ 9 ∧ kd = kaccA ws i (k - 1)) (fun ⟨k, kd⟩ => 9 - k) ((1, 0)) ⟨au2, au2, rfl, rfl, rfl, trivial⟩ au1 ⟨by omega, by omega, rfl⟩ ?_
  rintro ⟨k, kd⟩ ⟨hk1, hk2, hkd⟩
  change wpM _ _ _ _ _ _ _ (mo ++ []) _ _ _
  refine wpM.seq <| wR <| LM.mv rfl <| LM.val (ov_leq rfl rfl) <| nA [(0, _), (1, _), (7, _), (8, _), (9, _), (25, _)] ?_
  refine wpM.condD rfl (fun h4 => ?_) (fun h4 => ?_)
  ·
   refine wpM.skip <| QM.then <| wpM.seq <| wpM.block <| wpM.seq ?_
   refine wpM.joinK (α := Bool) (fun q => [(43, .bool q)]) [(0, _), (1, _), (7, _), (8, _), (9, _)] (fun q => mo ++ []) (fun q => q = isR ws i 1 (acT (k : Int))) ⟨rfl, rfl, rfl, rfl, rfl, trivial⟩ ?_ ?_
   ·
    refine wpM.draw [(0, 0), (1, 0), (2, 0), (3, 0), (4, 1), (5, 0), (6, 0), (7, 0), (8, 0), (9, 0), (10, 0), (11, 1), (12, 0), (13, 2), (14, 0), (15, 0)] kr kr ?_
    refine LD.val rfl rfl (ov_move rfl) <| LD.val rfl rfl (ov_move rfl) ?_
    refine LD.val rfl rfl (ov_idxSN au6 Tryd.underlying85 Tryd.sizeOf104 rfl rfl om) ?_
    refine LD.val rfl rfl (ovf 3 rfl rfl rfl rfl) ?_
    refine LD.rdC rfl rfl (om_srE (j := 0) asm Tryd.isAgg3 rfl rfl au3 (by rfl) (by rfl) id) ?_
    refine LD.val rfl rfl (ov_eql rfl rfl) ?_
    refine LD.val rfl rfl (ov_move rfl) ?_
    refine LD.splitD (t := 34) rfl (fun h5 => ?_) (fun h5 => ?_)
    ·
     refine LD.val rfl ⟨34, _, rfl, rfl, rfl⟩ (ov_move rfl) <| LD.val rfl ⟨34, _, rfl, rfl, rfl⟩ (ov_move rfl) ?_
     refine LD.val rfl ⟨34, _, rfl, rfl, rfl⟩ (ov_idxSN au6 Tryd.underlying85 Tryd.sizeOf104 rfl rfl om) ?_
     refine LD.val rfl ⟨34, _, rfl, rfl, rfl⟩ (ovf 9 rfl rfl rfl rfl) ?_
     refine LD.rdC rfl ⟨34, _, rfl, rfl, rfl⟩ (om_srE (j := 1) asm Tryd.isAgg9 rfl rfl au3 (by rfl) (by rfl) id) ?_
     refine LD.val rfl ⟨34, _, rfl, rfl, rfl⟩ (ov_move rfl) ?_
     refine dE rfl ⟨34, _, rfl, rfl, rfl⟩ Tryd.func65 rfl (fun w hm hc hg => raname_spec _ w) ?_
     refine LD.val rfl ⟨34, _, rfl, rfl, rfl⟩ (ov_seqlL rfl rfl) ?_
     refine LD.val rfl rfl (ov_pickT rfl rfl) ?_
     refine LD.nil ?_
     refine QM.sub (e' := [(0, _), (1, _), (7, _), (8, _), (9, _), (43, _)]) au9 ?_
     refine QM.meetK (_) ⟨au2, rfl, rfl, rfl, rfl, rfl, trivial⟩ au1 ?_
     · unfold isR; rw [decide_eq_true hilt, decide_eq_true (show (ws.getD i default).k = 1 by omega)]; rfl
    refine LD.drop rfl rfl ⟨34, _, rfl, rfl, rfl⟩ <| LD.drop rfl rfl ⟨34, _, rfl, rfl, rfl⟩ <| LD.drop rfl rfl ⟨34, _, rfl, rfl, rfl⟩ <| LD.drop rfl rfl ⟨34, _, rfl, rfl, rfl⟩ <| LD.drop rfl rfl ⟨34, _, rfl, rfl, rfl⟩ <| LD.drop rfl rfl ⟨34, _, rfl, rfl, rfl⟩ <| LD.drop rfl rfl ⟨34, _, rfl, rfl, rfl⟩ <| LD.drop rfl rfl ⟨34, _, rfl, rfl, rfl⟩ ?_
    refine LD.val rfl rfl (ov_pickF rfl rfl) ?_
    refine LD.nil ?_
    refine QM.sub (e' := [(0, _), (1, _), (7, _), (8, _), (9, _), (43, _)]) au9 ?_
    refine QM.meetK (_) ⟨au2, rfl, rfl, rfl, rfl, rfl, trivial⟩ au1 ?_
    · unfold isR; rw [decide_eq_false (show ¬ (ws.getD i default).k = 1 by omega)]; simp
   rintro q hq
   change QM _ _ _ _ _ (mo ++ []) _ _ _
   refine QM.then ?_
   refine wpM.condB rfl (fun h6 => ?_) (fun h6 => ?_)
   ·
    refine wpM.region ?_
    refine LM.mv rfl <| LM.as rfl <| nC [(0, _), (1, _), (7, _), (8, _), (9, _)] <| QM.block_normal ?_
    refine QM.then (wpM.region ?_)
    refine LM.mv rfl ?_
    refine LM.val (ov_add64 rfl rfl om) ?_
    refine LM.as rfl <| nC [(0, _), (1, _), (7, _), (8, _), (9, _)] ?_
    refine QM.againK ((k + 1, (k : Int))) ⟨au2, au2, rfl, rfl, rfl, trivial⟩ au1 (fun _ h => h) ?_ ?_
    · exact ⟨by omega, by omega, (kaccA_t hk1 (hq.symm.trans h6)).symm⟩
    · (dsimp only; omega)
   refine wpM.skip <| QM.block_normal ?_
   refine QM.then (wpM.region ?_)
   refine LM.mv rfl ?_
   refine LM.val (ov_add64 rfl rfl om) ?_
   refine LM.as rfl <| nC [(0, _), (1, _), (7, _), (8, _), (9, _)] ?_
   refine QM.againK ((k + 1, kd)) ⟨au2, au2, rfl, rfl, rfl, trivial⟩ au1 (fun _ h => h) ?_ ?_
   · exact ⟨by omega, by omega, by rw [hkd]; exact (kaccA_f hk1 (hq.symm.trans h6)).symm⟩
   · (dsimp only; omega)
  obtain rfl : k = 9 := om; obtain rfl : kd = kindA ws i := hkd.trans (kaccA_eq ws i); have hkr := kindA_rng ws i
  refine wpM.exit <| QM.then_exit <| QM.then_exit <| QM.block_hit <| QM.then <| wpM.seq <| wR <| LM.mv rfl <| LM.val (ov_eql rfl rfl) <| nA [(0, _), (1, _), (7, _), (8, _), (46, _)] ?_
  refine wpM.condD rfl (fun h7 => ?_) (fun h7 => ?_)
  ·
   refine wR <| LM.mv rfl <| LM.as rfl <| LM.as rfl <| LM.as rfl <| nA [(4, _), (5, _), (6, _)] <| wpM.ret <| QM.then_ret <| QM.block_ret <| QM.then_ret <| QM.block_ret <| QM.then_ret ?_
   refine QM.leave (.inl rfl) [.tmp 4, .tmp 5, .tmp 6] Tryd.results43 rfl ?_
   intro w' hm' hc' hg'
   rw [acts_nat hi0, ← hL, loopA_0 hilt om]; exact ⟨hc', [], ⟨none, 0, 0, rfl, rfl, .nil _ _ _ _⟩, Mem.nil _, fun p hp => by cases hp⟩
  refine wpM.skip <| QM.then <| wpM.seq <| wR <| LM.mv rfl <| LM.val (ov_len Tryd.underlying46 rfl) <| LM.val (ov_eql rfl rfl) <| nA [(0, _), (1, _), (7, _), (8, _), (50, _)] ?_
  refine wpM.condD rfl (fun h8 => ?_) (fun h8 => ?_)
  ·
   refine wR <| LM.mv rfl <| LM.as rfl <| LM.as rfl <| LM.as rfl <| nA [(4, _), (5, _), (6, _)] <| wpM.ret <| QM.then_ret <| QM.block_ret <| QM.then_ret <| QM.block_ret <| QM.then_ret ?_
   refine QM.leave (.inl rfl) [.tmp 4, .tmp 5, .tmp 6] Tryd.results43 rfl ?_
   intro w' hm' hc' hg'
   rw [acts_nat hi0, ← hL, loopA_6 hilt h7 om]; exact ⟨hc', [], ⟨none, 0, 0, rfl, rfl, .nil _ _ _ _⟩, Mem.nil _, fun p hp => by cases hp⟩
  refine wpM.skip <| tR <| LM.mv rfl ?_
  refine LM.val (ov_add64 rfl rfl om) ?_
  refine LM.as rfl <| nB [(0, _), (1, _), (7, _), (8, _)] <| LM.mv rfl ?_
  refine LM.val (ov_build (cs := #[_, _, _, _, _]) rfl (by first | rfl | kernel_rfl)) ?_
  refine LM.alloc Tryd.zeroValue118 rfl (fun b10 hb10 => ?_)
  refine LM.stW Tryd.sizeOf118 rfl rfl rfl rfl au7 au8 ?_
  refine nA [(0, _), (1, _), (7, _), (8, _), (10, _)] <| wpM.seq <| wR <| LM.as rfl <| nA [(0, _), (1, _), (7, _), (8, _), (10, _), (11, _)] <| wpM.block ?_
  refine wpM.loopK0 (α := Nat × Nat × List Int) (fun ⟨k, j, xs⟩ => [(1, .int .i64 (j : Nat)), (11, .int .i64 (k : Nat))]) [(0, _), (7, _), (8, _), (10, _)] (fun ⟨k, j, xs⟩ => (b10, .cells (fA (toA (kindA ws i) xs)).toArray 118 (0, 0)) :: (mo ++ [])) (fun ⟨k, j, xs⟩ => k ≤ manyA (kindA ws i) ∧ j ≤ ws.length ∧ xs.length = 4 ∧ numG ws (manyA (kindA ws i) - k) j k xs = numK ws i) (fun ⟨k, j, xs⟩ => manyA (kindA ws i) - k) ((0, i + 1, zer4)) ⟨au2, au2, rfl, rfl, rfl, rfl, trivial⟩ au1 ⟨Nat.zero_le _, by omega, rfl, rfl⟩ ?_
  rintro ⟨k, j, xs⟩ ⟨hkm, hj, hx4, hN⟩
  change wpM _ _ _ _ _ _ _ ((b10, .cells (fA (toA (kindA ws i) xs)).toArray 118 (0, 0)) :: (mo ++ [])) _ _ _
  have hm4 := manyA_le (kindA ws i)
  refine wpM.seq <| wR <| LM.mv rfl <| LM.mv rfl ?_
  refine cE Tryd.func66 rfl (fun w hm hc hg => rmany_spec _ w om) ?_
  refine LM.val (ov_lss rfl rfl) <| nA [(0, _), (1, _), (7, _), (8, _), (10, _), (11, _), (59, _)] ?_
  refine wpM.condD rfl (fun h9 => ?_) (fun h9 => ?_)
  ·
   refine wpM.skip <| QM.then <| wpM.seq <| wpM.block <| wpM.seq <| wpM.seq ?_
   refine wpM.joinK (α := Bool) (fun q => [(73, .bool q)]) [(0, _), (1, _), (7, _), (8, _), (10, _), (11, _)] (fun q => (b10, .cells (fA (toA (kindA ws i) xs)).toArray 118 (0, 0)) :: (mo ++ [])) (fun q => q = (decide (ws.length ≤ j) || decide ((ws.getD j default).k ≠ 2))) ⟨rfl, rfl, rfl, rfl, rfl, rfl, trivial⟩ ?_ ?_
   ·
    refine wpM.region ?_
    refine LM.mv rfl <| LM.mv rfl <| LM.val (ov_len Tryd.underlying85 rfl) <| LM.val (ov_geq rfl rfl) <| LM.mv rfl ?_
    refine LM.splitD (t := 66) rfl (fun h10 => ?_) (fun h10 => ?_)
    ·
     refine LM.dr 66 rfl rfl rfl <| LM.dr 66 rfl rfl rfl <| LM.dr 66 rfl rfl rfl <| LM.dr 66 rfl rfl rfl <| LM.dr 66 rfl rfl rfl <| LM.dr 66 rfl rfl rfl <| LM.val (ov_pickT rfl rfl) <| nC [(0, _), (1, _), (7, _), (8, _), (10, _), (11, _), (73, _)] ?_
     refine QM.meetK (_) ⟨au2, rfl, rfl, rfl, rfl, rfl, rfl, trivial⟩ au1 ?_
     · rw [decide_eq_true (show ws.length ≤ j by omega), Bool.true_or]
    refine LM.sp 66 rfl rfl rfl <| LM.mv rfl <| LM.sp 66 rfl rfl rfl <| LM.mv rfl <| LM.sp 66 rfl rfl rfl ?_
    refine LM.val (ov_idxSN au6 Tryd.underlying85 Tryd.sizeOf104 rfl rfl om) ?_
    refine LM.sp 66 rfl rfl rfl <| LM.val (ovf 3 rfl rfl rfl rfl) <| LM.sp 66 rfl rfl rfl ?_
    refine LM.rdC (om_srE (j := 0) asm Tryd.isAgg3 rfl rfl au3 (by rfl) (by rfl) id) ?_
    refine LM.sp 66 rfl rfl rfl <| LM.val (ov_neq rfl rfl) <| LM.val (ov_pickF rfl rfl) <| nC [(0, _), (1, _), (7, _), (8, _), (10, _), (11, _), (73, _)] ?_
    refine QM.meetK (_) ⟨au2, rfl, rfl, rfl, rfl, rfl, rfl, trivial⟩ au1 ?_
    · rw [decide_eq_false (show ¬ ws.length ≤ j by omega), Bool.false_or]
   rintro q hq
   change QM _ _ _ _ _ ((b10, .cells (fA (toA (kindA ws i) xs)).toArray 118 (0, 0)) :: (mo ++ [])) _ _ _
   refine QM.then ?_
   refine wpM.condB rfl (fun h11 => ?_) (fun h11 => ?_)
   ·
    refine wR <| LM.mv rfl <| LM.as rfl <| LM.as rfl <| LM.as rfl <| nA [(4, _), (5, _), (6, _)] <| wpM.ret <| QM.then_ret <| QM.block_ret <| QM.then_ret <| QM.then_ret <| QM.block_ret <| QM.then_ret <| QM.block_ret <| QM.then_ret <| QM.block_ret <| QM.then_ret ?_
    refine QM.leave (.inl rfl) [.tmp 4, .tmp 5, .tmp 6] Tryd.results43 rfl ?_
    intro w' hm' hc' hg'
    have hNK : numK ws i = (j, 5, xs) := (by rw [← hN, numG_stop om (hq.symm.trans h11)]); rw [acts_nat hi0, ← hL, loopA_e hilt h7 om (oneA_n h7 hNK)]; exact ⟨hc', [], ⟨none, 0, 0, rfl, rfl, .nil _ _ _ _⟩, Mem.nil _, fun p hp => by cases hp⟩
   have hjn : j < ws.length := (by have h := hq.symm.trans h11; simp only [Bool.or_eq_false_iff, decide_eq_false_iff_not] at h; omega)
   refine wpM.skip <| QM.then <| wpM.seq ?_
   refine wpM.draw [(0, 1), (1, 0), (2, 0), (3, 0), (4, 0), (5, 0), (6, 1), (7, 2), (8, 3)] kr kr ?_
   refine LD.rd rfl rfl (om_ldW Tryd.isAgg118 Tryd.sizeOf118 rfl rfl) ?_
   refine LD.val rfl rfl (ov_move rfl) <| LD.val rfl rfl (ov_move rfl) <| LD.val rfl rfl (ov_move rfl) ?_
   refine LD.val rfl rfl (ov_idxSN au6 Tryd.underlying85 Tryd.sizeOf104 rfl rfl om) ?_
   refine LD.val rfl rfl (ovf 3 rfl rfl rfl rfl) ?_
   refine LD.rdC rfl rfl (om_srE (j := 2) asm Tryd.isAgg3 rfl rfl au3 (by rfl) (by rfl) id) ?_
   refine dE rfl rfl Tryd.func67 rfl (fun w hm hc hg => put_spec k _ w om hx4) ?_
   refine LD.tail rfl rfl ?_
   refine LM.stW Tryd.sizeOf118 rfl rfl rfl rfl au7 au8 ?_
   refine LM.nil ?_
   refine QM.qn ?_
   refine QM.sub (e' := [(0, _), (1, _), (7, _), (8, _), (10, _), (11, _)]) au9 (QM.then (wpM.region ?_))
   refine LM.mv rfl ?_
   refine LM.val (ov_add64 rfl rfl om) ?_
   refine LM.as rfl <| nC [(0, _), (1, _), (7, _), (8, _), (10, _), (11, _)] <| QM.block_normal ?_
   refine QM.then (wpM.region ?_)
   refine LM.mv rfl ?_
   refine LM.val (ov_add64 rfl rfl om) ?_
   refine LM.as rfl <| nC [(0, _), (1, _), (7, _), (8, _), (10, _), (11, _)] ?_
   refine QM.againK ((k + 1, j + 1, xs.set k (ws.getD j default).n)) ⟨au2, au2, rfl, rfl, rfl, rfl, trivial⟩ au1 (fun _ h => h) ?_ ?_
   · exact ⟨by omega, by omega, by simpa using hx4, by rw [show manyA (kindA ws i) - (k + 1) = manyA (kindA ws i) - k - 1 by omega, ← numG_next om (hq.symm.trans h11)]; exact hN⟩
   · (dsimp only; omega)
  refine wpM.exit <| QM.then_exit <| QM.then_exit <| QM.block_hit <| QM.then <| wpM.seq <| wpM.seq ?_
  refine wpM.joinK (α := Bool) (fun q => [(104, .bool q)]) [(0, _), (1, _), (7, _), (10, _)] (fun q => (b10, .cells (fA (toA (kindA ws i) xs)).toArray 118 (0, 0)) :: (mo ++ [])) (fun q => q = !isR ws j 3 [59]) ⟨rfl, rfl, rfl, rfl, trivial⟩ ?_ ?_
  ·
   refine wpM.region ?_
   refine LM.mv rfl <| LM.mv rfl <| LM.val (ov_len Tryd.underlying85 rfl) <| LM.val (ov_geq rfl rfl) <| LM.mv rfl ?_
   refine LM.splitD (t := 89) rfl (fun h12 => ?_) (fun h12 => ?_)
   ·
    refine LM.dr 89 rfl rfl rfl <| LM.dr 89 rfl rfl rfl <| LM.dr 89 rfl rfl rfl <| LM.dr 89 rfl rfl rfl <| LM.dr 89 rfl rfl rfl <| LM.dr 89 rfl rfl rfl <| LM.val (ov_pickT rfl rfl) <| LM.mv rfl <| LM.dr 97 rfl rfl rfl <| LM.dr 97 rfl rfl rfl <| LM.dr 97 rfl rfl rfl <| LM.dr 97 rfl rfl rfl <| LM.dr 97 rfl rfl rfl <| LM.dr 97 rfl rfl rfl <| LM.val (ov_pickT rfl rfl) <| nC [(0, _), (1, _), (7, _), (10, _), (104, _)] ?_
    refine QM.meetK (_) ⟨au2, rfl, rfl, rfl, rfl, trivial⟩ au1 ?_
    · unfold isR; rw [decide_eq_false (show ¬ j < ws.length by omega)]; rfl
   refine LM.sp 89 rfl rfl rfl <| LM.mv rfl <| LM.sp 89 rfl rfl rfl <| LM.mv rfl <| LM.sp 89 rfl rfl rfl ?_
   refine LM.val (ov_idxSN au6 Tryd.underlying85 Tryd.sizeOf104 rfl rfl om) ?_
   refine LM.sp 89 rfl rfl rfl <| LM.val (ovf 3 rfl rfl rfl rfl) <| LM.sp 89 rfl rfl rfl ?_
   refine LM.rdC (om_srE (j := 0) asm Tryd.isAgg3 rfl rfl au3 (by rfl) (by rfl) id) ?_
   refine LM.sp 89 rfl rfl rfl <| LM.val (ov_neq rfl rfl) <| LM.val (ov_pickF rfl rfl) <| LM.mv rfl ?_
   refine LM.splitD (t := 97) rfl (fun h13 => ?_) (fun h13 => ?_)
   ·
    refine LM.dr 97 rfl rfl rfl <| LM.dr 97 rfl rfl rfl <| LM.dr 97 rfl rfl rfl <| LM.dr 97 rfl rfl rfl <| LM.dr 97 rfl rfl rfl <| LM.dr 97 rfl rfl rfl <| LM.val (ov_pickT rfl rfl) <| nC [(0, _), (1, _), (7, _), (10, _), (104, _)] ?_
    refine QM.meetK (_) ⟨au2, rfl, rfl, rfl, rfl, trivial⟩ au1 ?_
    · unfold isR; rw [decide_eq_true (show j < ws.length by omega), decide_eq_false (show ¬ (ws.getD j default).k = 3 by omega)]; rfl
   refine LM.sp 97 rfl rfl rfl <| LM.mv rfl <| LM.sp 97 rfl rfl rfl <| LM.mv rfl <| LM.sp 97 rfl rfl rfl ?_
   refine LM.val (ov_idxSN au6 Tryd.underlying85 Tryd.sizeOf104 rfl rfl om) ?_
   refine LM.sp 97 rfl rfl rfl <| LM.val (ovf 9 rfl rfl rfl rfl) <| LM.sp 97 rfl rfl rfl ?_
   refine LM.rdC (om_srE (j := 1) asm Tryd.isAgg9 rfl rfl au3 (by rfl) (by rfl) id) ?_
   refine LM.sp 97 rfl rfl rfl ?_
   refine LM.val (ov_sneqL rfl rfl) ?_
   refine LM.val (ov_pickF rfl rfl) <| nC [(0, _), (1, _), (7, _), (10, _), (104, _)] ?_
   refine QM.meetK (_) ⟨au2, rfl, rfl, rfl, rfl, trivial⟩ au1 ?_
   · unfold isR; rw [decide_eq_true (show j < ws.length by omega), decide_eq_true (show (ws.getD j default).k = 3 by omega)]; simp only [Bool.true_and, decide_not]
  rintro q hq
  change QM _ _ _ _ _ ((b10, .cells (fA (toA (kindA ws i) xs)).toArray 118 (0, 0)) :: (mo ++ [])) _ _ _
  refine QM.then ?_
  refine wpM.condB rfl (fun h14 => ?_) (fun h14 => ?_)
  ·
   refine wR <| LM.mv rfl <| LM.as rfl <| LM.as rfl <| LM.as rfl <| nA [(4, _), (5, _), (6, _)] <| wpM.ret <| QM.then_ret <| QM.block_ret <| QM.then_ret <| QM.block_ret <| QM.then_ret ?_
   refine QM.leave (.inl rfl) [.tmp 4, .tmp 5, .tmp 6] Tryd.results43 rfl ?_
   intro w' hm' hc' hg'
   have hNK : numK ws i = (j, 0, xs) := (by rw [← hN, show manyA (kindA ws i) - k = 0 by omega]; rfl); rw [acts_nat hi0, ← hL, loopA_e hilt h7 om (oneA_s h7 hNK (by simpa using hq.symm.trans h14))]; exact ⟨hc', [], ⟨none, 0, 0, rfl, rfl, .nil _ _ _ _⟩, Mem.nil _, fun p hp => by cases hp⟩
  refine wpM.skip <| tR <| LM.mv rfl ?_
  refine LM.val (ov_add64 rfl rfl om) ?_
  refine LM.as rfl ?_
  refine LM.nil (QM.sub (e' := [(0, _), (1, _), (7, _), (10, _)]) au9 (QM.then (wpM.region ?_)))
  refine LM.mv rfl ?_
  refine LM.rd (om_ldW Tryd.isAgg118 Tryd.sizeOf118 rfl rfl) ?_
  refine LM.single Tryd.underlying46 Tryd.sizeOf118 Tryd.zeroValue118 rfl rfl rfl rfl rfl (fun b110 hb110 => ?_)
  refine LM.app (a := toA (kindA ws i) xs) Tryd.underlying46 Tryd.typeInfo118 rfl rfl rfl rfl rfl rfl rfl asm (by rfl) ir (by intro _ u hu; simp [fA] at hu; (repeat (first | (rcases hu with rfl | hu) | subst hu | rfl))) (by first | exact Nat.le_refl _ | omega) au10 (by first | omega | (unfold maxLen; omega)) (by simp only [Tryd.t118]; omega) (fun ad111 n111 cap111 m111 hn111 hs111 hin111 => ?_)
  refine LM.as rfl <| nC [(0, _), (1, _), (7, _)] <| QM.block_normal ?_
  have hNK : numK ws i = (j, 0, xs) := (by rw [← hN, show manyA (kindA ws i) - k = 0 by omega]; rfl); have hjs : isR ws j 3 [59] = true := (by simpa using hq.symm.trans h14); have hone := oneA_ok h7 hNK hjs; have hlt := oneA_lt (ws := ws) (i := i) (by rw [hone]); rw [hone] at hlt; have hlt : i < j + 1 ∧ j + 1 ≤ ws.length := hlt
  refine QM.againK ((j + 1, out ++ [toA (kindA ws i) xs], ad111, n111, cap111, m111)) ⟨au2, au2, rfl, trivial⟩ au1 (fun _ h => h) ?_ ?_
  · exact ⟨hlt.2, (loopA_g hilt h7 om hone).symm.trans hL, by rw [hn111]; simp, hs111, by simp; omega⟩
  · (dsimp only; omega)
 refine wpM.exit <| QM.then_exit <| QM.then_exit <| QM.block_hit <| tR <| LM.mv rfl <| LM.mv rfl <| LM.as rfl <| LM.as rfl <| LM.as rfl <| nA [(4, _), (5, _), (6, _)] <| wpM.ret ?_
 refine QM.leave (.inl rfl) [.tmp 4, .tmp 5, .tmp 6] Tryd.results43 rfl ?_
 intro w' hm' hc' hg'
 rw [acts_nat hi0, ← hL, loopA_end om]; exact ⟨hc', mo, ⟨ado, no, capo, rfl, hno, hso⟩, hm'.pick _, fun p hp => Sl.ge hso p hp⟩
end Go.Eng
namespace Go.Eng
open Go Go.RowKit
theorem scanF_len (s : List UInt8) : ∀ (f i : Nat) (last : Int) (out : List Wrd), (scanF f s i last out).1.length ≤ out.length + f
  | 0, i, last, out => Nat.le_refl _
  | f + 1, i, last, out => by
    rw [scanF]
    split
    · show out.length ≤ _; omega
    split
    · have := scanF_len s f (i + 1) last out; omega
    split
    · have := scanF_len s f (i + runL notNl s i) last out; omega
    split
    · exact Nat.zero_le _
    · have := scanF_len s f (oneO s i).2.1 ((oneO s i).2.1 : Nat) (out ++ [(oneO s i).1]); rw [List.length_append, List.length_singleton] at this; omega
theorem scan_len (s : List UInt8) : (scanO s).1.length ≤ s.length := by
  unfold scanO; split
  · exact Nat.zero_le _
  · have := scanF_len s (s.length - 0) 0 (-1) []; unfold scanR; simp only [List.length_nil] at this; omega
end Go.Eng
namespace Go.Eng
open Go Go.Proofs Go.RowKit
def placeO (s : List UInt8) (ws : List Wrd) (p : Int) : Int := if p < ws.length then (ws.getD p.toNat default).p else s.length
def scriptO (s : List UInt8) : StC × List Act × Int × Int :=
  if (scanO s).2.2 ≠ 0 then (default, [], (scanO s).2.1, (scanO s).2.2)
  else if (setO (scanO s).1 0).2.2 ≠ 0 then (default, [], placeO s (scanO s).1 (setO (scanO s).1 0).2.1, (setO (scanO s).1 0).2.2)
  else if (actsO (scanO s).1 (setO (scanO s).1 0).2.1).2.2 ≠ 0 then (default, [], placeO s (scanO s).1 (actsO (scanO s).1 (setO (scanO s).1 0).2.1).2.1, (actsO (scanO s).1 (setO (scanO s).1 0).2.1).2.2)
  else ((setO (scanO s).1 0).1, (actsO (scanO s).1 (setO (scanO s).1 0).2.1).1, 0, 0)
theorem pgF_pl {ws : List Wrd} : ∀ (f i : Nat) (e : Int) (ps : List PgC) (pl : List Int), (∀ x ∈ pl, 0 ≤ x) → ∀ x ∈ (pgF ws f i e ps pl).2.1, 0 ≤ x
  | 0, i, e, ps, pl, h => by unfold pgF; split <;> exact h
  | f + 1, i, e, ps, pl, h => by
    unfold pgF; split
    · refine pgF_pl f _ _ _ _ (fun x hx => ?_)
      rcases List.mem_append.1 hx with hx | hx
      · exact h x hx
      · rw [List.mem_singleton] at hx; omega
    · exact h
theorem set_pos (ws : List Wrd) (p : Int) : 0 ≤ (setO ws p).2.1 := by
  unfold setO stpR
  split
  · exact Int.le_refl _
  split
  · show (0 : Int) ≤ ((sP ws p.toNat).2.2.1 : Int); omega
  split
  · show (0 : Int) ≤ (sP ws p.toNat).2.1.getD _ 0
    rw [List.getD_eq_getElem?_getD]
    cases h : (sP ws p.toNat).2.1[(misI (sL ws p.toNat).1 (sP ws p.toNat).1).toNat]? with
    | none => exact Int.le_refl _
    | some x => exact pgF_pl _ _ _ _ _ (fun x hx => by cases hx) x (List.mem_of_getElem? h)
  · show (0 : Int) ≤ ((sP ws p.toNat).2.2.1 : Int); omega
theorem acts_pos (ws : List Wrd) (p : Int) : 0 ≤ (actsO ws p).2.1 := by
  have key : ∀ (f i : Nat) (out : List Act), 0 ≤ (loopAF f ws i out).2.1 := by
    intro f
    induction f with
    | zero => intro i out; show (0 : Int) ≤ (i : Int); omega
    | succ f ih =>
      intro i out
      unfold loopAF
      split
      · show (0 : Int) ≤ (i : Int); omega
      split
      · show (0 : Int) ≤ (i : Int); omega
      split
      · show (0 : Int) ≤ (i : Int); omega
      split
      · show (0 : Int) ≤ ((oneA ws i).2.1 : Int); omega
      · exact ih _ _
  unfold actsO; split
  · exact Int.le_refl _
  · exact key _ _ _
structure ScV where
  sv : StV
  xs : List Act
  ad : Option Addr
  n : Nat
  cap : Nat
abbrev ScV.val (x : ScV) : Value := .agg #[.int .i64 x.sv.cr, .int .i64 x.sv.gr, .slice x.sv.ga x.sv.gn x.sv.gc, .slice x.sv.la x.sv.ln x.sv.lc, .slice x.sv.pa x.sv.pn x.sv.pc, .slice x.ad x.n x.cap]
structure ScV.In (x : ScV) (w : World) : Prop where
  st : x.sv.In w
  hn : x.n = x.xs.length
  hx : Sr fA 5 x.xs (.slice x.ad x.n x.cap) w
theorem ScV.In.ext {x : ScV} {w w' : World} (h : x.In w) (k : Ext w w') : x.In w' := ⟨h.st.ext k, h.hn, h.hx.ext k⟩
def SpT (r : StC × List Act × Int × Int) (n0 : Nat) (v : Value) (m : Mem0) : Prop := ∃ x : ScV, v = .tuple #[x.val, .int .i64 r.2.2.1, .int .i64 r.2.2.2] ∧ x.sv.C = r.1 ∧ x.xs = r.2.1 ∧ ∀ w, Mem w m → x.In w
theorem SpT.mono {r : StC × List Act × Int × Int} : ∀ (k k' : Nat) u m, k' ≤ k → SpT r k u m → SpT r k' u m := fun k k' u m h q => q
theorem SpT.nil0 {p e : Int} {n0 : Nat} : SpT (default, [], p, e) n0 (.tuple #[.agg #[.int .i64 0, .int .i64 0, .slice none 0 0, .slice none 0 0, .slice none 0 0, .slice none 0 0], .int .i64 p, .int .i64 e]) [] :=
  ⟨⟨default, [], Option.none, 0, 0⟩, rfl, rfl, rfl, fun w _ => ⟨⟨rfl, .nil _ _ _, rfl, .nil _ _ _, rfl, .nil _ _ _, fun p hp => by cases hp⟩, rfl, .nil _ _ _⟩⟩
theorem rplaceN_spec {ws : List Wrd} {ad : Option Addr} {n cap : Nat} (s : List UInt8) (j : Nat) (w : World) (hn : n = ws.length) (hl : Sr fW 4 ws (.slice ad n cap) w) : Ret Tryd.prog 42 #[vS s, .slice ad n cap, .int .i64 (j : Nat)] w (fun v w' => v = .int .i64 (placeO s ws (j : Nat)) ∧ Ext w w') := by
 refine Ret.enterM Tryd.func42 rfl Tryd.ntmps42 rfl ([]) (no) (Mem.nil w) ?_
 refine wR <| LM.as rfl <| nA [(0, _), (1, _), (2, _)] <| wpM.seq <| wR <| LM.mv rfl <| LM.mv rfl <| LM.val (ov_len Tryd.underlying85 rfl) <| LM.val (ov_lss rfl rfl) <| nA [(0, _), (1, _), (2, _), (10, _)] ?_
 refine wpM.condD rfl (fun h1 => ?_) (fun h1 => ?_)
 ·
  refine wR <| LM.mv rfl <| LM.mv rfl ?_
  refine LM.val (ov_idxSN au6 Tryd.underlying85 Tryd.sizeOf104 rfl rfl om) ?_
  refine LM.val (ovf 3 rfl rfl rfl rfl) ?_
  refine LM.rdC (om_srE (j := 3) asm Tryd.isAgg3 rfl rfl au3 (by rfl) (by rfl) id) ?_
  refine LM.as rfl <| nA [(6, _)] <| wpM.ret <| QM.then_ret ?_
  refine qL Tryd.results42 rfl fun w' hm' hc' hg' => ?_
  refine ⟨?_, hc'⟩; unfold placeO; rw [if_pos om, Int.toNat_natCast]; rfl
 refine wpM.skip <| tR <| LM.mv rfl ?_
 refine LM.val (ov_slenL Tryd.underlying9 rfl) ?_
 refine LM.as rfl <| nA [(6, _)] <| wpM.ret ?_
 refine qL Tryd.results42 rfl fun w' hm' hc' hg' => ?_
 refine ⟨?_, hc'⟩; unfold placeO; rw [if_neg om]; rfl
theorem rplace_spec {ws : List Wrd} {ad : Option Addr} {n cap : Nat} (s : List UInt8) (p : Int) (w : World) (hn : n = ws.length) (hl : Sr fW 4 ws (.slice ad n cap) w) (hp0 : 0 ≤ p) :
    Ret Tryd.prog 42 #[vS s, .slice ad n cap, .int .i64 p] w (fun v w' => v = .int .i64 (placeO s ws p) ∧ Ext w w') := by
  obtain ⟨j, rfl⟩ : ∃ j : Nat, p = (j : Int) := ⟨p.toNat, by omega⟩
  exact rplaceN_spec s j w hn hl
theorem rscript_spec (s : List UInt8) (w : World) (hs : s.length ≤ 1000000000) : Ret Tryd.prog 20 #[vS s] w (fun v w' => Ext w w' ∧ ∃ m, SpT (scriptO s) w.heap.size v m ∧ Mem w' m ∧ ∀ p ∈ m, w.heap.size ≤ p.1) := by
 refine Ret.enterM Tryd.func20 rfl Tryd.ntmps20 rfl ([]) (no) (Mem.nil w) ?_
 refine wR ?_
 refine LM.alloc Tryd.zeroValue48 rfl (fun b2 hb2 => ?_)
 refine LM.as rfl <| LM.as rfl <| nB [(0, _), (2, _)] <| LM.mv rfl ?_
 refine LM.callT (oc_call (enters_fn Tryd.func40 kr rfl) rfl) ScT.mono (fun w hm hc hg => scan_spec w om) ?_
 rintro u13 m13 ⟨ad13, n13, cap13, rfl, hn13, hs13⟩ -; have hl13 := scan_len s
 refine LM.mv rfl <| LM.val (ov_extract rfl rfl) <| LM.val (ov_extract rfl rfl) <| LM.val (ov_extract rfl rfl) <| LM.as rfl <| LM.as rfl <| LM.as rfl <| nA [(0, _), (2, _), (5, _), (6, _), (7, _)] <| wpM.seq <| wR <| LM.mv rfl <| LM.val (ov_neq rfl rfl) <| nA [(0, _), (2, _), (5, _), (6, _), (7, _), (18, _)] ?_
 refine wpM.condD rfl (fun h1 => ?_) (fun h1 => ?_)
 ·
  refine wR ?_
  refine LM.val (ov_build (cs := #[_, _, _, _, _, _]) rfl (by first | rfl | kernel_rfl)) ?_
  refine LM.mv rfl <| LM.mv rfl ?_
  refine LM.stW Tryd.sizeOf48 rfl rfl rfl rfl au7 au8 ?_
  refine LM.as rfl <| LM.as rfl <| nA [(2, _), (3, _), (4, _)] <| wpM.ret <| QM.then_ret ?_
  refine QM.leaveCs (ds := ([])) (.inl rfl) [.cell 2 48, .tmp 3, .tmp 4] Tryd.results20 hd_nil (rc_w rfl Tryd.isAgg48 Tryd.sizeOf48 rfl (rc_tmp rfl (rc_tmp rfl rc_nil))) ?_
  intro w' hm' hc'
  unfold scriptO; rw [if_pos h1]; exact ⟨hc', [], SpT.nil0, Mem.nil _, fun p hp => by cases hp⟩
 refine wpM.skip <| tR <| LM.mv rfl ?_
 refine LM.callT (oc_call (enters_fn Tryd.func41 kr rfl) rfl) StT.mono (fun w hm hc hg => rsetup_spec 0 w hn13 om (hs13.srM ir hm)) ?_
 rintro u24 m24 ⟨sv, rfl, hsv, hin⟩ hge24
 refine LM.mv rfl <| LM.val (ov_extract rfl rfl) <| LM.val (ov_extract rfl rfl) <| LM.val (ov_extract rfl rfl) ?_
 refine LM.alloc Tryd.zeroValue26 rfl (fun b8 hb8 => ?_)
 refine LM.stW Tryd.sizeOf26 rfl rfl rfl rfl au7 au8 ?_
 refine LM.as rfl <| LM.as rfl <| nA [(0, _), (2, _), (5, _), (7, _), (8, _), (9, _)] <| wpM.seq <| wR <| LM.mv rfl <| LM.val (ov_neq rfl rfl) <| nA [(0, _), (2, _), (5, _), (7, _), (8, _), (9, _), (29, _)] ?_
 refine wpM.condD rfl (fun h2 => ?_) (fun h2 => ?_)
 ·
  refine wR ?_
  refine LM.val (ov_build (cs := #[_, _, _, _, _, _]) rfl (by first | rfl | kernel_rfl)) ?_
  refine LM.mv rfl <| LM.mv rfl <| LM.mv rfl ?_
  refine cE Tryd.func42 rfl (fun w hm hc hg => rplace_spec s _ w hn13 (hs13.srM ir hm) (set_pos _ _)) ?_
  refine LM.mv rfl ?_
  refine LM.stW Tryd.sizeOf48 rfl rfl rfl rfl au7 au8 ?_
  refine LM.as rfl <| LM.as rfl <| nA [(2, _), (3, _), (4, _)] <| wpM.ret <| QM.then_ret ?_
  refine QM.leaveCs (ds := ([])) (.inl rfl) [.cell 2 48, .tmp 3, .tmp 4] Tryd.results20 hd_nil (rc_w rfl Tryd.isAgg48 Tryd.sizeOf48 rfl (rc_tmp rfl (rc_tmp rfl rc_nil))) ?_
  intro w' hm' hc'
  unfold scriptO; rw [if_neg h1, if_pos h2]; exact ⟨hc', [], SpT.nil0, Mem.nil _, fun p hp => by cases hp⟩
 refine wpM.skip <| tR <| LM.mv rfl <| LM.mv rfl ?_
 refine LM.callT (oc_call (enters_fn Tryd.func43 kr rfl) rfl) AcT.mono (fun w hm hc hg => raparse_spec _ w hn13 om (hs13.srM ir hm)) ?_
 rintro u39 m39 ⟨ad39, n39, cap39, rfl, hn39, hs39⟩ hge39
 refine LM.mv rfl <| LM.val (ov_extract rfl rfl) <| LM.val (ov_extract rfl rfl) <| LM.val (ov_extract rfl rfl) <| LM.as rfl <| LM.as rfl <| LM.as rfl <| nA [(0, _), (2, _), (5, _), (7, _), (8, _), (9, _), (10, _)] <| wpM.seq <| wR <| LM.mv rfl <| LM.val (ov_neq rfl rfl) <| nA [(0, _), (2, _), (5, _), (7, _), (8, _), (9, _), (10, _), (44, _)] ?_
 refine wpM.condD rfl (fun h3 => ?_) (fun h3 => ?_)
 ·
  refine wR ?_
  refine LM.val (ov_build (cs := #[_, _, _, _, _, _]) rfl (by first | rfl | kernel_rfl)) ?_
  refine LM.mv rfl <| LM.mv rfl <| LM.mv rfl ?_
  refine cE Tryd.func42 rfl (fun w hm hc hg => rplace_spec s _ w hn13 (hs13.srM ir hm) (acts_pos _ _)) ?_
  refine LM.mv rfl ?_
  refine LM.stW Tryd.sizeOf48 rfl rfl rfl rfl au7 au8 ?_
  refine LM.as rfl <| LM.as rfl <| nA [(2, _), (3, _), (4, _)] <| wpM.ret <| QM.then_ret ?_
  refine QM.leaveCs (ds := ([])) (.inl rfl) [.cell 2 48, .tmp 3, .tmp 4] Tryd.results20 hd_nil (rc_w rfl Tryd.isAgg48 Tryd.sizeOf48 rfl (rc_tmp rfl (rc_tmp rfl rc_nil))) ?_
  intro w' hm' hc'
  unfold scriptO; rw [if_neg h1, if_neg h2, if_pos h3]; exact ⟨hc', [], SpT.nil0, Mem.nil _, fun p hp => by cases hp⟩
 refine wpM.skip <| tR ?_
 refine LM.rd (om_ldW Tryd.isAgg26 Tryd.sizeOf26 rfl rfl) ?_
 refine LM.mv rfl ?_
 refine LM.val (ov_build (cs := #[_, _, _, _, _, _]) rfl (by first | rfl | kernel_rfl)) ?_
 refine LM.stW Tryd.sizeOf48 rfl rfl rfl rfl au7 au8 ?_
 refine LM.as rfl <| LM.as rfl <| nA [(2, _), (3, _), (4, _)] <| wpM.ret ?_
 refine QM.leaveCs (ds := ([])) (.inl rfl) [.cell 2 48, .tmp 3, .tmp 4] Tryd.results20 hd_nil (rc_w rfl Tryd.isAgg48 Tryd.sizeOf48 rfl (rc_tmp rfl (rc_tmp rfl rc_nil))) ?_
 intro w' hm' hc'
 unfold scriptO; rw [if_neg h1, if_neg h2, if_neg h3]; refine ⟨hc', m39 ++ (m24 ++ []), ⟨⟨sv, _, ad39, n39, cap39⟩, rfl, hsv, rfl, fun w hm => ⟨hin w (hm.pick m24), hn39, hs39.srM ir hm⟩⟩, SubM.mem (by (repeat' (first | exact SubM.nil _ | refine SubM.app ?_))) w' hm', ?_⟩; intro p hp; simp only [List.mem_append, List.not_mem_nil, or_false] at hp; rcases hp with hp | hp; exact hge39 p hp; exact hge24 p hp
def aw41L : List UInt8 := [99, 111, 114, 101, 115, 32, 49, 59, 32, 103, 114, 97, 105, 110, 32, 49, 59, 32, 103, 114, 111, 117, 112, 32, 49, 59, 32, 108, 111, 99, 107, 32, 115, 108, 105, 99, 101, 32, 49, 32, 99, 114, 105, 116, 32, 57, 59, 32, 108, 111, 99, 107, 32, 115, 108, 105, 99, 101, 32, 49, 32, 99, 114, 105, 116, 32, 57, 59, 32, 112, 114, 111, 103, 32, 123, 32, 108, 111, 99, 107, 32, 48, 59, 32, 99, 111, 109, 112, 117, 116, 101, 32, 49, 59, 32, 108, 111, 99, 107, 32, 49, 59, 32, 99, 111, 109, 112, 117, 116, 101, 32, 49, 59, 32, 117, 110, 108, 111, 99, 107, 32, 49, 59, 32, 117, 110, 108, 111, 99, 107, 32, 48, 59, 32, 125, 32, 112, 114, 111, 103, 32, 123, 32, 108, 111, 99, 107, 32, 49, 59, 32, 99, 111, 109, 112, 117, 116, 101, 32, 49, 59, 32, 108, 111, 99, 107, 32, 48, 59, 32, 99, 111, 109, 112, 117, 116, 101, 32, 49, 59, 32, 117, 110, 108, 111, 99, 107, 32, 48, 59, 32, 117, 110, 108, 111, 99, 107, 32, 49, 59, 32, 125]
def aw41P : PgC := ⟨false, [⟨2, 0, 0⟩, ⟨1, 1, 0⟩, ⟨2, 1, 0⟩, ⟨1, 1, 0⟩, ⟨6, 1, 0⟩, ⟨6, 0, 0⟩]⟩
def aw41Q : PgC := ⟨false, [⟨2, 1, 0⟩, ⟨1, 1, 0⟩, ⟨2, 0, 0⟩, ⟨1, 1, 0⟩, ⟨6, 0, 0⟩, ⟨6, 1, 0⟩]⟩
def aw41S : StC := ⟨1, 1, [1], [⟨false, 1, 9, 0, 0⟩, ⟨false, 1, 9, 0, 0⟩], [aw41P, aw41Q]⟩
def aw41T : StC := ⟨1, 1, [1], [⟨false, 1, 9, 0, 0⟩, ⟨false, 1, 9, 0, 0⟩], [aw41P]⟩
theorem aw41_1 : scriptO aw41L = (aw41S, [], 0, 0) := by decide +kernel
theorem aw41_c : cycW aw41S = [0, 1] := by decide +kernel
theorem aw41_o : okO aw41S = false := by decide +kernel
theorem aw41_p : okO aw41T = true := by decide +kernel
theorem aw41_l : ordW aw41T = [0, 1] := by decide +kernel
theorem aw41_d : depW aw41T = 2 := by decide +kernel
theorem aw41_w : witO aw41P.xs 0 = 2#64 := by decide +kernel
def StV.one (s : StV) : StV := { s with ps := s.ps.take 1, pn := 1 }
theorem StV.one_in {s : StV} {w : World} (h : s.In w) (h1 : 1 ≤ s.ps.length) : s.one.In w :=
  ⟨h.hgn, h.hg, h.hln, h.hl, by show 1 = (s.ps.take 1).length; rw [List.length_take]; omega, h.hp.take h1, fun p hp => h.ops p (List.mem_of_mem_take hp)⟩
theorem StV.one_C {s : StV} (h : s.C = aw41S) : s.one.C = aw41T := by
  have h1 : s.cr = 1 := congrArg StC.cr h
  have h2 : s.gr = 1 := congrArg StC.gr h
  have h3 : s.gs = [1] := congrArg StC.gs h
  have h4 : s.ls = aw41S.ls := congrArg StC.ls h
  have h5 : s.ps.map PgV.c = [aw41P, aw41Q] := congrArg StC.ps h
  show StC.mk s.cr s.gr s.gs s.ls ((s.ps.take 1).map PgV.c) = aw41T
  rw [h1, h2, h3, h4, List.map_take, h5]; rfl
theorem veqs_fEd (a b : Ed) : veqs (fEd a) (fEd b) = decide (a = b) := by
  obtain ⟨a1, a2⟩ := a
  obtain ⟨b1, b2⟩ := b
  simp only [veqs, veq, fEd, Bool.and_true]
  rw [Bool.eq_iff_iff]
  simp only [Bool.and_eq_true, beq_iff_eq, decide_eq_true_eq, Ed.mk.injEq]
theorem edI_at {G : Gr} {i j : Nat} (h : j < (allL (G.getD i 0#64)).length) : (edI G i).getD j default = ⟨(i : Nat), (listI (G.getD i 0#64)).getD j 0⟩ := by
  have h2 : j < (allL (ot G i)).length := h
  have e := getq 0 h
  unfold edI listI
  rw [List.getD_eq_getElem?_getD, List.getD_eq_getElem?_getD, List.getElem?_map, List.getElem?_map, e, show ot G i = G.getD i 0#64 from rfl, e]; rfl
theorem ints41_same {a : List Int} {ad : Option Addr} {n cap : Nat} {ad2 : Option Addr} {n2 cap2 : Nat} (w : World) (hn : n = a.length) (hl : Sr fI 1 a (.slice ad n cap) w) (hn2 : n2 = a.length) (hl2 : Sr fI 1 a (.slice ad2 n2 cap2) w) (hx : a.length ≤ 1000) : Ret Tryd.prog 16 #[.slice ad n cap, .slice ad2 n2 cap2] w (fun v w' => v = .bool true ∧ Ext w w') := by
 refine Ret.enterM Tryd.func16 rfl Tryd.ntmps16 rfl ([]) (no) (Mem.nil w) ?_
 refine wR <| LM.as rfl <| nA [(0, _), (1, _)] <| wpM.seq <| wR <| LM.mv rfl <| LM.val (ov_len Tryd.underlying22 rfl) <| LM.mv rfl <| LM.val (ov_len Tryd.underlying22 rfl) <| LM.val (ov_neq rfl rfl) <| nA [(0, _), (1, _), (10, _)] ?_
 refine wpM.condD rfl (fun h1 => ?_) (fun h1 => ?_)
 ·
  exfalso; omega
 refine wpM.skip <| QM.then <| wpM.seq <| wR <| LM.mv rfl <| LM.val (ov_len Tryd.underlying22 rfl) <| LM.mv rfl <| nA [(0, _), (1, _), (12, _), (13, _)] <| wpM.block ?_
 refine wpM.loopK0 (α := Nat) (fun i => [(13, .int .i64 (i : Nat))]) [(0, _), (1, _), (12, _)] (fun i => []) (fun i => i ≤ n) (fun i => n - i) (0) ⟨au2, rfl, rfl, rfl, trivial⟩ au1 (Nat.zero_le _) ?_
 rintro i hi
 change wpM _ _ _ _ _ _ _ ([]) _ _ _
 refine wR <| LM.val (ov_lss rfl rfl) <| nA [(0, _), (1, _), (12, _), (13, _), (14, _)] <| wpM.seq ?_
 refine wpM.condD rfl (fun h2 => ?_) (fun h2 => ?_)
 ·
  refine wpM.skip <| QM.then <| wpM.seq <| wpM.block <| wR <| LM.mv rfl <| LM.as rfl <| nA [(0, _), (1, _), (5, _), (12, _), (13, _)] <| wpM.seq ?_
  refine wpM.draw [(0, 0), (1, 0), (2, 0), (3, 1), (4, 0), (5, 0), (6, 0), (7, 1), (8, 0)] kr kr ?_
  refine LD.val rfl rfl (ov_move rfl) <| LD.val rfl rfl (ov_move rfl) ?_
  refine LD.val rfl rfl (ov_idxSN au6 Tryd.underlying22 Tryd.sizeOf3 rfl rfl om) ?_
  refine LD.rdC rfl rfl (om_sr1 asm Tryd.isAgg3 rfl rfl (by exact getq 0 au4) (by rfl) id) ?_
  refine LD.val rfl rfl (ov_move rfl) <| LD.val rfl rfl (ov_move rfl) ?_
  refine LD.val rfl rfl (ov_idxSN au6 Tryd.underlying22 Tryd.sizeOf3 rfl rfl om) ?_
  refine LD.rdC rfl rfl (om_sr1 asm Tryd.isAgg3 rfl rfl (by exact getq 0 au4) (by rfl) id) ?_
  refine LD.val rfl rfl (ov_neq rfl rfl) ?_
  refine LD.nil ?_
  refine QM.sub (e' := [(0, _), (1, _), (12, _), (13, _), (24, _)]) au9 (QM.then ?_)
  refine wpM.condD rfl (fun h3 => ?_) (fun h3 => ?_)
  ·
   exact absurd rfl h3
  refine wpM.skip <| QM.block_normal ?_
  refine QM.then (wpM.region ?_)
  refine LM.val (ov_add64 rfl rfl om) ?_
  refine LM.mv rfl <| nC [(0, _), (1, _), (12, _), (13, _)] ?_
  refine QM.againK (i + 1) ⟨au2, rfl, rfl, rfl, trivial⟩ au1 (fun _ h => h) ?_ ?_
  · omega
  · omega
 refine wpM.exit <| QM.then_exit <| QM.then_exit <| QM.block_hit <| tR <| LM.as rfl <| nA [(4, _)] <| wpM.ret ?_
 refine qL Tryd.results16 rfl fun w' hm' hc' hg' => ?_
 exact ⟨rfl, hc'⟩
set_option maxHeartbeats 1000000 in
theorem edges41_same {s : StV} {G : Gr} {ad : Option Addr} {n cap : Nat} (w : World) (hT : Tab w) (hI : s.In w) (hn : n = G.length) (hl : Sr fU 1 G (.slice ad n cap) w) (hG : G = webO s.C) : Ret Tryd.prog 14 #[s.val, .slice ad n cap] w (fun v w' => v = .bool true ∧ Ext w w') := by
 have hlen := webO_len s.C; rw [← hG] at hlen
 refine Ret.enterM Tryd.func14 rfl Tryd.ntmps14 rfl ([]) (no) (Mem.nil w) ?_
 refine wR ?_
 refine LM.box rfl rfl (fun b2 hb2 => ?_)
 refine LM.alloc Tryd.zeroValue4 rfl (fun b4 hb4 => ?_)
 refine nB [(1, _), (2, _), (4, _)] ?_
 refine LM.alloc Tryd.zeroValue76 rfl (fun b5 hb5 => ?_)
 refine nA [(1, _), (2, _), (4, _), (5, _)] <| wpM.seq <| wR <| LM.mv rfl <| LM.val (ov_len Tryd.underlying29 rfl) <| LM.mv rfl <| nA [(2, _), (4, _), (5, _), (12, _), (13, _), (14, _)] <| wpM.block ?_
 refine wpM.loopK0 (α := Nat × List Ed × Option Addr × Nat × Nat × Mem0) (fun ⟨i, es, ade, ne, cape, me⟩ => [(14, .int .i64 (i : Nat))]) [(2, _), (4, _), (5, _), (12, _), (13, _)] (fun ⟨i, es, ade, ne, cape, me⟩ => (b5, .cells #[.slice ade ne cape] 76 (0, 0)) :: (me ++ ((b4, .cells #[.bool false] 4 (0, 0)) :: stB b2 s :: []))) (fun ⟨i, es, ade, ne, cape, me⟩ => i ≤ n ∧ es = edN G i ∧ ne = es.length ∧ Sl fEd 79 2 w.heap.size es (.slice ade ne cape) me) (fun ⟨i, es, ade, ne, cape, me⟩ => n - i) ((0, [], none, 0, 0, [])) ⟨au2, rfl, rfl, rfl, rfl, rfl, trivial⟩ au1 ⟨Nat.zero_le _, rfl, rfl, .nil _ _ _ _⟩ ?_
 rintro ⟨i, es, ade, ne, cape, me⟩ ⟨hi, hes, hne, hse⟩
 change wpM _ _ _ _ _ _ _ ((b5, .cells #[.slice ade ne cape] 76 (0, 0)) :: (me ++ ((b4, .cells #[.bool false] 4 (0, 0)) :: stB b2 s :: []))) _ _ _
 have hel := edN_len G i
 refine wR <| LM.val (ov_lss rfl rfl) <| nA [(2, _), (4, _), (5, _), (12, _), (13, _), (14, _), (15, _)] <| wpM.seq ?_
 refine wpM.condD rfl (fun h1 => ?_) (fun h1 => ?_)
 ·
  refine wpM.skip <| QM.then <| wpM.seq <| wpM.block <| wR <| LM.mv rfl ?_
  refine LM.val (ov_idxSN au6 Tryd.underlying29 Tryd.sizeOf34 rfl rfl om) ?_
  refine LM.rdC (om_sr1 asm Tryd.isAgg34 rfl rfl (by exact getq 0#64 au4) (by rfl) id) ?_
  refine LM.as rfl <| LM.as rfl <| nB [(2, _), (4, _), (5, _), (6, _), (7, _), (12, _), (13, _), (14, _)] <| LM.mv rfl ?_
  refine LM.cS (oc_call (enters_fn Tryd.func35 kr rfl) rfl) (fun w hm hc hg => rlist_spec _ w) (fun ad20 n20 cap20 m20 hn20 hs20 => ?_)
  have hll := listI_len (G.getD i 0#64); have hl64 := allL_len (G.getD i 0#64)
  refine LM.val (ov_len Tryd.underlying22 rfl) <| LM.mv rfl <| nA [(2, _), (4, _), (5, _), (6, _), (12, _), (13, _), (14, _), (20, _), (21, _), (22, _)] <| wpM.block ?_
  refine wpM.loopK0 (α := Nat × List Ed × Option Addr × Nat × Nat × Mem0) (fun ⟨j, es2, ade2, ne2, cape2, me2⟩ => [(22, .int .i64 (j : Nat))]) [(2, _), (4, _), (5, _), (6, _), (12, _), (13, _), (14, _), (20, _), (21, _)] (fun ⟨j, es2, ade2, ne2, cape2, me2⟩ => (b5, .cells #[.slice ade2 ne2 cape2] 76 (0, 0)) :: (me2 ++ (m20 ++ ((b4, .cells #[.bool false] 4 (0, 0)) :: stB b2 s :: [])))) (fun ⟨j, es2, ade2, ne2, cape2, me2⟩ => j ≤ n20 ∧ es2 = edN G i ++ (edI G i).take j ∧ ne2 = es2.length ∧ Sl fEd 79 2 w.heap.size es2 (.slice ade2 ne2 cape2) me2) (fun ⟨j, es2, ade2, ne2, cape2, me2⟩ => n20 - j) ((0, es, ade, ne, cape, me)) ⟨au2, rfl, rfl, rfl, rfl, rfl, rfl, rfl, rfl, rfl, trivial⟩ au1 ⟨Nat.zero_le _, by rw [hes, List.take_zero, List.append_nil], hne, hse⟩ ?_
  rintro ⟨j, es2, ade2, ne2, cape2, me2⟩ ⟨hj, hes2, hne2, hse2⟩
  change wpM _ _ _ _ _ _ _ ((b5, .cells #[.slice ade2 ne2 cape2] 76 (0, 0)) :: (me2 ++ (m20 ++ ((b4, .cells #[.bool false] 4 (0, 0)) :: stB b2 s :: [])))) _ _ _
  have hel2 := congrArg List.length hes2; rw [List.length_append, List.length_take] at hel2; have hei : (edI G i).length = (allL (G.getD i 0#64)).length := (by unfold edI; rw [List.length_map]; rfl)
  refine wR <| LM.val (ov_lss rfl rfl) <| nA [(2, _), (4, _), (5, _), (6, _), (12, _), (13, _), (14, _), (20, _), (21, _), (22, _), (23, _)] <| wpM.seq ?_
  refine wpM.condD rfl (fun h2 => ?_) (fun h2 => ?_)
  ·
   refine wpM.skip <| QM.then <| wpM.seq <| wpM.block <| wR ?_
   refine LM.val (ov_idxSN au6 Tryd.underlying22 Tryd.sizeOf3 rfl rfl om) ?_
   refine LM.rd (om_sl1 asm ir Tryd.isAgg3 rfl rfl (by exact getq 0 au4) (by rfl)) ?_
   refine LM.as rfl ?_
   refine LM.nil (QM.sub (e' := [(2, _), (4, _), (5, _), (6, _), (9, _), (12, _), (13, _), (14, _), (20, _), (21, _), (22, _)]) au9 (QM.then (wpM.region ?_)))
   refine LM.rd (oml rfl rfl rfl) ?_
   refine LM.mv rfl <| LM.mv rfl ?_
   refine LM.val (ov_build (cs := (fEd ⟨(i : Nat), (listI (G.getD i 0#64)).getD j 0⟩).toArray) rfl kr) ?_
   refine LM.single Tryd.underlying76 Tryd.sizeOf79 Tryd.zeroValue79 rfl rfl rfl rfl rfl (fun b30 hb30 => ?_)
   refine LM.app (a := (⟨(i : Nat), (listI (G.getD i 0#64)).getD j 0⟩ : Ed)) Tryd.underlying76 Tryd.typeInfo79 rfl rfl rfl rfl rfl rfl rfl asm (by rfl) ir (by intro _ u hu; simp [fEd] at hu; (repeat (first | (rcases hu with rfl | hu) | subst hu | rfl))) (by first | exact Nat.le_refl _ | omega) au10 (by first | omega | (unfold maxLen; omega)) (by simp only [Tryd.t79]; omega) (fun ad31 n31 cap31 m31 hn31 hs31 hin31 => ?_)
   refine LM.st Tryd.sizeOf76 rfl rfl rfl au5 rfl au8 ?_
   refine nC [(2, _), (4, _), (5, _), (6, _), (12, _), (13, _), (14, _), (20, _), (21, _), (22, _)] <| QM.block_normal ?_
   refine QM.then (wpM.region ?_)
   refine LM.val (ov_add64 rfl rfl om) ?_
   refine LM.mv rfl <| nC [(2, _), (4, _), (5, _), (6, _), (12, _), (13, _), (14, _), (20, _), (21, _), (22, _)] ?_
   refine QM.againK ((j + 1, es2 ++ [⟨(i : Nat), (listI (G.getD i 0#64)).getD j 0⟩], ad31, n31, cap31, m31)) ⟨au2, rfl, rfl, rfl, rfl, rfl, rfl, rfl, rfl, rfl, trivial⟩ au1 (fun _ h => h) ?_ ?_
   · exact ⟨by omega, by rw [hes2, List.append_assoc, take_snoc default om, edI_at om], by rw [List.length_append, List.length_singleton]; omega, hs31⟩
   · (dsimp only; omega)
  refine wpM.exit <| QM.then_exit <| QM.then_exit <| QM.block_hit <| QM.block_normal ?_
  refine QM.then (wpM.region ?_)
  refine LM.val (ov_add64 rfl rfl om) ?_
  refine LM.mv rfl <| nC [(2, _), (4, _), (5, _), (12, _), (13, _), (14, _)] ?_
  refine QM.againK ((i + 1, es2, ade2, ne2, cape2, me2)) ⟨au2, rfl, rfl, rfl, rfl, rfl, trivial⟩ au1 (fun _ h => h) ?_ ?_
  · exact ⟨by omega, by rw [hes2, edN_succ, List.take_of_length_le om], hne2, hse2⟩
  · (dsimp only; omega)
 refine wpM.exit <| QM.then_exit <| QM.then_exit <| QM.block_hit <| tR ?_
 refine LM.alloc Tryd.zeroValue3 rfl (fun b10 hb10 => ?_)
 refine LM.st Tryd.sizeOf3 rfl rfl rfl au5 rfl au8 ?_
 refine nA [(2, _), (4, _), (5, _), (10, _)] <| wpM.seq <| wR ?_
 refine LM.rd (om_ldW Tryd.isAgg26 Tryd.sizeOf26 rfl rfl) ?_
 refine LM.callT (oc_call (enters_fn Tryd.func36 kr rfl) rfl) OEdT.mono (fun w hm hc hg => oedges_spec s w) ?_
 rintro u35 m35 ⟨c1, rfl, rfl, hc1⟩ -
 refine nA [(4, _), (5, _), (10, _), (35, _)] <| wpM.block ?_
 refine wpM.toRange (α := Unit) (fun k ⟨⟩ => (b10, .cells #[.int .i64 (k : Nat)] 3 (0, 0)) :: stB c1 s :: (b5, .cells #[.slice ade ne cape] 76 (0, 0)) :: (me ++ ((b4, .cells #[.bool false] 4 (0, 0)) :: stB b2 s :: []))) (⟨⟩) au1 ?_
 refine wpM.rangeP (α := Unit) (β := Unit) (enters_fn Tryd.func57 kr rfl) rfl (oedges_seq (b1 := c1) (s := s)) (fun k ⟨⟩ Mp => (b10, .cells #[.int .i64 (k : Nat)] 3 (0, 0)) :: stB c1 s :: (b5, .cells #[.slice ade ne cape] 76 (0, 0)) :: (me ++ ((b4, .cells #[.bool false] 4 (0, 0)) :: stB b2 s :: (Mp ++ [])))) (by rintro k ⟨⟩ Mp; first | rfl | simp) (fun _ _ => top) (fun k ⟨⟩ => k ≤ es.length) (fun ⟨⟩ => []) (fun _ => top) (fun c ⟨⟩ => False) ⟨⟩ rfl (fun _ h => h) (Nat.zero_le _) kr (by intro k av hav; have hav2 := hav; unfold edB at hav2; rw [List.getElem?_map, Option.map_eq_some_iff] at hav2; obtain ⟨e, he, rfl⟩ := hav2; have hlt := (List.getElem?_eq_some_iff.1 he).1; rfl) (.inl trivial) (fun k a w hm hc _ _ => ⟨SubM.mem au1 w hm, hI.ext hc, hT.ext hc⟩) (fun _ _ _ _ => gl_top _) (fun _ _ _ => gl_top _) (fun k x h => mm_cons rfl (mm_cons rfl (mm_cons rfl (mm_app hse.wlk (mm_cons rfl (mm_cons rfl mm_nil)))))) (fun c z _ => by ((repeat (refine mm_cons rfl ?_)); exact fun p hp => .inl (by first | exact hp | (simp at hp; done) | (simp [hp]; done) | (simp at hp ⊢; first | exact .inl hp | exact hp | (simp [hp]; done))))) ?_ ?_ ?_ ?_
 ·
  rintro k av ⟨⟩ l D rc n1 W1 Mp hD hll hput hrc hav hk
  change wpM _ _ _ _ _ _ _ ((l, Obj.loop rc) :: ([(D, Obj.deferred (some []))] ++ ((b10, .cells #[.int .i64 (k : Nat)] 3 (0, 0)) :: stB c1 s :: (b5, .cells #[.slice ade ne cape] 76 (0, 0)) :: (me ++ ((b4, .cells #[.bool false] 4 (0, 0)) :: stB b2 s :: (Mp ++ [])))))) _ _ _
  have hav2 := hav; unfold edB at hav2; rw [List.getElem?_map, Option.map_eq_some_iff] at hav2; obtain ⟨e, he, rfl⟩ := hav2; have hlt := (List.getElem?_eq_some_iff.1 he).1
  have hel3 := congrArg List.length hes; have hee : es = edW (webO s.C) := (by rw [hes, ← hG]; unfold edW; rw [show i = G.length by omega]); rw [← hee] at he hlt; have hed : es.getD k default = e := (by rw [List.getD_eq_getElem?_getD, he]; rfl)
  refine wpM.region ?_
  refine LM.alloc Tryd.zeroValue79 rfl (fun b11 hb11 => ?_)
  refine LM.stW Tryd.sizeOf79 rfl rfl rfl rfl au7 au8 ?_
  refine nC [(4, _), (5, _), (10, _), (11, _)] ?_
  refine QM.toBodyF (hput k ⟨⟩) hll ?_
  refine wpM.block <| wpM.seq <| wpM.seq ?_
  refine wpM.draw [(0, 1), (1, 1), (2, 0), (3, 0), (4, 0), (5, 1), (6, 1), (7, 0), (8, 1), (9, 1), (10, 0), (11, 0)] kr kr ?_
  refine LD.rd rfl rfl (oml rfl rfl rfl) ?_
  refine LD.rd rfl rfl (oml rfl rfl rfl) ?_
  refine LD.val rfl rfl (ov_len Tryd.underlying76 rfl) ?_
  refine LD.val rfl rfl (ov_geq rfl rfl) ?_
  refine LD.val rfl rfl (ov_move rfl) ?_
  refine LD.splitD (t := 41) rfl (fun h3 => ?_) (fun h3 => ?_)
  ·
   exfalso; omega
  refine LD.rd rfl ⟨41, _, rfl, rfl, rfl⟩ (oml rfl rfl rfl) ?_
  refine LD.rd rfl ⟨41, _, rfl, rfl, rfl⟩ (oml rfl rfl rfl) ?_
  refine LD.val rfl ⟨41, _, rfl, rfl, rfl⟩ (ov_idxSN au6 Tryd.underlying76 Tryd.sizeOf79 rfl rfl om) ?_
  refine LD.rd rfl ⟨41, _, rfl, rfl, rfl⟩ (om_slA asm ir Tryd.isAgg79 Tryd.sizeOf79 rfl au3) ?_
  refine LD.rd rfl ⟨41, _, rfl, rfl, rfl⟩ (om_ldW Tryd.isAgg79 Tryd.sizeOf79 rfl rfl) ?_
  refine LD.val rfl ⟨41, _, rfl, rfl, rfl⟩ (ov_aneq Tryd.underlying79 kr kr (by decide) rfl rfl (by rfl) ⟨(by first | rfl | trivial), (by first | rfl | trivial), trivial⟩) ?_
  refine LD.val rfl rfl (ov_pickF rfl rfl) ?_
  refine LD.nil ?_
  refine QM.sub (e' := [(4, _), (10, _), (48, _)]) au9 (QM.then ?_)
  refine wpM.condB rfl (fun h4 => ?_) (fun h4 => ?_)
  ·
   exfalso; rw [hed, veqs_fEd, decide_eq_true rfl] at h4; cases h4
  refine wpM.skip ?_
  refine QM.then (wpM.region ?_)
  refine LM.rd (oml rfl rfl rfl) ?_
  refine LM.val (ov_add64 rfl rfl om) ?_
  refine LM.st Tryd.sizeOf3 rfl rfl rfl au5 rfl au8 ?_
  refine LM.nil (QM.sub (e' := []) trivial ?_)
  refine QM.block_normal ?_
  refine QM.next (⟨⟩) (SubM.mem au1) (fun _ h => h) ?_
  · show k + 1 ≤ es.length; omega
 ·
  rintro ⟨⟩ D0 hD0 hk
  have hee : es = edW (webO s.C) := (by rw [hes, ← hG]; unfold edW; rw [show i = G.length by omega]); rw [edB_len, ← hee] at hk
  refine QM.sub (e' := [(4, _), (5, _), (10, _)]) au9 ?_
  refine QM.block_normal <| tR ?_
  refine LM.rd (oml rfl rfl rfl) ?_
  refine LM.rd (oml rfl rfl rfl) ?_
  refine LM.val (ov_len Tryd.underlying76 rfl) <| LM.val (ov_eql rfl rfl) ?_
  refine LM.st Tryd.sizeOf4 rfl rfl rfl au5 rfl au8 ?_
  refine nA [(4, _)] <| wpM.ret ?_
  refine QM.leaveCDF (ds := [D0]) Tryd.results14 rfl (fun D h => by simp only [List.mem_cons, List.not_mem_nil, or_false] at h; omega) Tryd.isAgg4 rfl ?_
  intro w' hm' hc'
  refine ⟨?_, hc'⟩; rw [edB_len, ← hee]; show Value.bool (decide ((es.length : Int) = (ne : Int))) = Value.bool true; rw [decide_eq_true om]
 ·
  rintro ⟨⟩ D0 hD0 hx
  exact hx.elim
 rintro id ⟨⟩ D0 hD0 hx
 exact hx.elim
set_option maxHeartbeats 4000000 in
theorem awake41_spec (w : World) (hT : Tab w) : Ret Tryd.prog 5 #[] w (fun v w' => v = .bool true ∧ Ext w w') := by
 refine Ret.enterM Tryd.func5 rfl Tryd.ntmps5 rfl ([]) (no) (Mem.nil w) ?_
 refine wR <| LM.as rfl ?_
 refine LM.nil (QM.sub (e' := []) trivial (QM.then (wpM.seq (wpM.region ?_))))
 refine LM.callT (oc_call (enters_fn Tryd.func20 kr rfl) rfl) SpT.mono (fun w hm hc hg => rscript_spec aw41L w (by decide)) ?_
 rw [aw41_1]; rintro u10 m10 ⟨x, rfl, hxs, hxa, hin⟩ -
 refine LM.mv rfl <| LM.val (ov_extract rfl rfl) <| LM.val (ov_extract rfl rfl) <| LM.val (ov_extract rfl rfl) ?_
 refine LM.alloc Tryd.zeroValue48 rfl (fun b1 hb1 => ?_)
 refine LM.stW Tryd.sizeOf48 rfl rfl rfl rfl au7 au8 ?_
 refine LM.as rfl <| LM.as rfl <| nB [(1, _), (3, _)] <| LM.val (ovf 26 rfl rfl rfl rfl) ?_
 refine LM.rd (om_ldA Tryd.isAgg26 Tryd.sizeOf26 rfl (vs := [_, _, _, _, _]) rfl ⟨rfl, rfl, rfl, rfl, rfl, trivial⟩) ?_
 refine LM.cS (oc_call (enters_fn Tryd.func10 kr rfl) rfl) (fun w hm hc hg => cycle_spec (s := x.sv) w (hT.ext hc) (hin w (hm.pick m10)).st) (fun ad16 n16 cap16 m16 hn16 hs16 => ?_)
 rw [hxs, aw41_c] at hn16 hs16
 refine LM.as rfl <| nB [(1, _), (3, _), (4, _)] <| LM.val (ovf 26 rfl rfl rfl rfl) ?_
 refine LM.rd (om_ldA Tryd.isAgg26 Tryd.sizeOf26 rfl (vs := [_, _, _, _, _]) rfl ⟨rfl, rfl, rfl, rfl, rfl, trivial⟩) ?_
 refine LM.callT (oc_call (enters_fn Tryd.func9 kr rfl) rfl) OrT.mono (fun w hm hc hg => order_spec (s := x.sv) w (hT.ext hc) (hin w (hm.pick m10)).st) ?_
 rw [hxs]; rintro u20 m20 ⟨ad20, n20, cap20, rfl, hn20, hs20⟩ -; rw [aw41_o]
 refine LM.mv rfl <| LM.val (ov_extract rfl rfl) <| LM.val (ov_extract rfl rfl) <| LM.as rfl <| LM.as rfl <| nB [(1, _), (3, _), (4, _), (6, _)] <| LM.val (ovf 26 rfl rfl rfl rfl) <| LM.val (ovf 24 rfl rfl rfl rfl) ?_
 refine LM.rd (oml rfl rfl rfl) ?_
 refine LM.know (fun w hm _ _ => (hin w (hm.pick m10)).st.hp.open.2.1) (fun hcap => ?_); have hpl : x.sv.ps.length = 2 := (by have h := congrArg (fun s : StC => s.ps.length) hxs; simpa [StV.C, aw41S] using h); refine LM.val (ov_subHi Tryd.underlying24 Tryd.sizeOf37 rfl rfl (by decide) om) ?_
 refine LM.val (ovf 26 rfl rfl rfl rfl) <| LM.val (ovf 24 rfl rfl rfl rfl) ?_
 refine LM.st Tryd.sizeOf24 rfl rfl rfl au5 rfl au8 ?_
 refine nB [(1, _), (3, _), (4, _), (6, _)] <| LM.val (ovf 26 rfl rfl rfl rfl) ?_
 refine LM.rd (om_ldA Tryd.isAgg26 Tryd.sizeOf26 rfl (vs := [_, _, _, _, _]) rfl ⟨rfl, rfl, rfl, rfl, rfl, trivial⟩) ?_
 refine LM.callT (oc_call (enters_fn Tryd.func9 kr rfl) rfl) OrT.mono (fun w hm hc hg => order_spec (s := x.sv.one) w (hT.ext hc) (StV.one_in (hin w (hm.pick m10)).st om)) ?_
 rw [StV.one_C hxs]; rintro u32 m32 ⟨ad32, n32, cap32, rfl, hn32, hs32⟩ -; rw [aw41_p]; rw [aw41_l] at hn32 hs32
 refine LM.mv rfl <| LM.val (ov_extract rfl rfl) <| LM.val (ov_extract rfl rfl) <| LM.as rfl <| LM.as rfl <| nB [(1, _), (3, _), (4, _), (6, _), (7, _), (8, _)] <| LM.mv rfl <| LM.val (ov_eql rfl rfl) <| LM.mv rfl ?_
 refine LM.splitD (t := 37) rfl (fun h1 => ?_) (fun h1 => ?_)
 ·
  refine LM.sp 37 rfl rfl rfl <| LM.mv rfl <| LM.sp 37 rfl rfl rfl ?_
  refine LM.val (ov_not rfl) ?_
  refine LM.val (ov_pickT rfl rfl) <| LM.mv rfl ?_
  refine LM.splitB (t := 41) rfl (fun h2 => ?_) (fun h2 => ?_)
  ·
   refine LM.sp 41 rfl rfl rfl <| LM.mv rfl <| LM.sp 41 rfl rfl rfl <| LM.val (ov_len Tryd.underlying22 rfl) <| LM.sp 41 rfl rfl rfl <| LM.val (ov_eql rfl rfl) <| LM.val (ov_pickT rfl rfl) <| LM.mv rfl ?_
   refine LM.splitD (t := 46) rfl (fun h3 => ?_) (fun h3 => ?_)
   ·
    refine LM.sp 46 rfl rfl rfl <| LM.mv rfl <| LM.sp 46 rfl rfl rfl ?_
    refine LM.val (ov_idxSN (i := 0) au6 Tryd.underlying22 Tryd.sizeOf3 rfl rfl om) ?_
    refine LM.sp 46 rfl rfl rfl ?_
    refine LM.rd (om_sl1 (i := 0) asm ir Tryd.isAgg3 rfl rfl (by exact getq 0 au4) (by rfl)) ?_
    refine LM.sp 46 rfl rfl rfl <| LM.val (ov_eql rfl rfl) <| LM.val (ov_pickT rfl rfl) <| LM.mv rfl ?_
    refine LM.splitD (t := 52) rfl (fun h4 => ?_) (fun h4 => ?_)
    ·
     refine LM.sp 52 rfl rfl rfl <| LM.mv rfl <| LM.sp 52 rfl rfl rfl ?_
     refine LM.val (ov_idxSN (i := 1) au6 Tryd.underlying22 Tryd.sizeOf3 rfl rfl om) ?_
     refine LM.sp 52 rfl rfl rfl ?_
     refine LM.rd (om_sl1 (i := 1) asm ir Tryd.isAgg3 rfl rfl (by exact getq 0 au4) (by rfl)) ?_
     refine LM.sp 52 rfl rfl rfl <| LM.val (ov_eql rfl rfl) <| LM.val (ov_pickT rfl rfl) <| LM.mv rfl ?_
     refine LM.splitD (t := 58) rfl (fun h5 => ?_) (fun h5 => ?_)
     ·
      refine LM.sp 58 rfl rfl rfl <| LM.mv rfl <| LM.val (ov_pickT rfl rfl) <| LM.mv rfl ?_
      refine LM.splitB (t := 61) rfl (fun h6 => ?_) (fun h6 => ?_)
      ·
       refine LM.sp 61 rfl rfl rfl <| LM.mv rfl <| LM.sp 61 rfl rfl rfl <| LM.val (ov_len Tryd.underlying22 rfl) <| LM.sp 61 rfl rfl rfl <| LM.val (ov_eql rfl rfl) <| LM.val (ov_pickT rfl rfl) <| LM.mv rfl ?_
       refine LM.splitD (t := 66) rfl (fun h7 => ?_) (fun h7 => ?_)
       ·
        refine LM.sp 66 rfl rfl rfl <| LM.mv rfl <| LM.sp 66 rfl rfl rfl ?_
        refine LM.val (ov_idxSN (i := 0) au6 Tryd.underlying22 Tryd.sizeOf3 rfl rfl om) ?_
        refine LM.sp 66 rfl rfl rfl ?_
        refine LM.rd (om_sl1 (i := 0) asm ir Tryd.isAgg3 rfl rfl (by exact getq 0 au4) (by rfl)) ?_
        refine LM.sp 66 rfl rfl rfl <| LM.val (ov_eql rfl rfl) <| LM.val (ov_pickT rfl rfl) <| LM.mv rfl ?_
        refine LM.splitD (t := 72) rfl (fun h8 => ?_) (fun h8 => ?_)
        ·
         refine LM.sp 72 rfl rfl rfl <| LM.val (ovf 26 rfl rfl rfl rfl) <| LM.sp 72 rfl rfl rfl ?_
         refine LM.rd (om_ldA Tryd.isAgg26 Tryd.sizeOf26 rfl (vs := [_, _, _, _, _]) rfl ⟨rfl, rfl, rfl, rfl, rfl, trivial⟩) ?_
         refine LM.sp 72 rfl rfl rfl ?_
         refine cE Tryd.func13 rfl (fun w hm hc hg => (show depW x.sv.one.C = 2 by rw [StV.one_C hxs, aw41_d]) ▸ depth_spec (s := x.sv.one) w (hT.ext hc) (StV.one_in (hin w (hm.pick m10)).st om)) ?_
         refine LM.sp 72 rfl rfl rfl <| LM.val (ov_eql rfl rfl) <| LM.val (ov_pickT rfl rfl) <| LM.mv rfl ?_
         refine LM.splitD (t := 78) rfl (fun h9 => ?_) (fun h9 => ?_)
         ·
          refine LM.sp 78 rfl rfl rfl <| LM.val (ovf 26 rfl rfl rfl rfl) <| LM.sp 78 rfl rfl rfl <| LM.val (ovf 24 rfl rfl rfl rfl) <| LM.sp 78 rfl rfl rfl ?_
          refine LM.rd (oml rfl rfl rfl) ?_
          refine LM.sp 78 rfl rfl rfl ?_
          refine LM.know (fun w hm _ _ => (StV.one_in (hin w (hm.pick m10)).st om).hp.spt) (fun hsp => ?_); refine LM.val (ov_idxSN (i := 0) hsp Tryd.underlying24 Tryd.sizeOf37 rfl rfl (by show 0 < 1; omega)) ?_
          refine LM.sp 78 rfl rfl rfl ?_
          refine LM.rdC (fun w hm hc hg => ow_srEA (StV.one_in (hin w (hm.pick m10)).st om).hp ir Tryd.isAgg37 Tryd.sizeOf37 rfl (getq default (by show 0 < (x.sv.ps.take 1).length; rw [List.length_take]; omega))) ?_
          refine LM.sp 78 rfl rfl rfl ?_
          refine cE Tryd.func11 rfl (fun w hm hc hg => (show witO ((x.sv.ps.take 1).getD 0 default).c.xs 0 = 2#64 by rw [← map_getD, List.map_take, show x.sv.ps.map PgV.c = aw41S.ps from congrArg StC.ps hxs]; exact aw41_w) ▸ within_spec 0 w ((StV.one_in (hin w (hm.pick m10)).st om).ops _ (List.mem_of_getElem? (getq default (by show 0 < (x.sv.ps.take 1).length; rw [List.length_take]; omega)))).1 ((StV.one_in (hin w (hm.pick m10)).st om).ops _ (List.mem_of_getElem? (getq default (by show 0 < (x.sv.ps.take 1).length; rw [List.length_take]; omega)))).2 (by show ((x.sv.ps.take 1).getD 0 default).c.xs.length ≤ 20; rw [← map_getD, List.map_take, show x.sv.ps.map PgV.c = aw41S.ps from congrArg StC.ps hxs]; decide)) ?_
          refine LM.sp 78 rfl rfl rfl ?_
          refine LM.val (ov_ueql (b := 2#64) rfl rfl) ?_
          refine LM.val (ov_pickT rfl rfl) <| LM.as rfl <| nA [(0, _)] <| wpM.ret ?_
          refine qL Tryd.results5 rfl fun w' hm' hc' hg' => ?_
          exact ⟨rfl, hc'⟩
         refine LM.dr 78 rfl rfl rfl <| LM.dr 78 rfl rfl rfl <| LM.dr 78 rfl rfl rfl <| LM.dr 78 rfl rfl rfl <| LM.dr 78 rfl rfl rfl <| LM.dr 78 rfl rfl rfl <| LM.dr 78 rfl rfl rfl <| LM.val (ov_pickF rfl rfl) <| LM.as rfl <| nA [(0, _)] <| wpM.ret ?_
         refine qL Tryd.results5 rfl fun w' hm' hc' hg' => ?_
         (exfalso; first | omega | simp_all)
        refine LM.dr 72 rfl rfl rfl <| LM.dr 72 rfl rfl rfl <| LM.dr 72 rfl rfl rfl <| LM.dr 72 rfl rfl rfl <| LM.val (ov_pickF rfl rfl) <| LM.mv rfl <| LM.dr 78 rfl rfl rfl <| LM.dr 78 rfl rfl rfl <| LM.dr 78 rfl rfl rfl <| LM.dr 78 rfl rfl rfl <| LM.dr 78 rfl rfl rfl <| LM.dr 78 rfl rfl rfl <| LM.dr 78 rfl rfl rfl <| LM.val (ov_pickF rfl rfl) <| LM.as rfl <| nA [(0, _)] <| wpM.ret ?_
        refine qL Tryd.results5 rfl fun w' hm' hc' hg' => ?_
        (exfalso; first | omega | simp_all)
       refine LM.dr 66 rfl rfl rfl <| LM.dr 66 rfl rfl rfl <| LM.dr 66 rfl rfl rfl <| LM.dr 66 rfl rfl rfl <| LM.val (ov_pickF rfl rfl) <| LM.mv rfl <| LM.dr 72 rfl rfl rfl <| LM.dr 72 rfl rfl rfl <| LM.dr 72 rfl rfl rfl <| LM.dr 72 rfl rfl rfl <| LM.val (ov_pickF rfl rfl) <| LM.mv rfl <| LM.dr 78 rfl rfl rfl <| LM.dr 78 rfl rfl rfl <| LM.dr 78 rfl rfl rfl <| LM.dr 78 rfl rfl rfl <| LM.dr 78 rfl rfl rfl <| LM.dr 78 rfl rfl rfl <| LM.dr 78 rfl rfl rfl <| LM.val (ov_pickF rfl rfl) <| LM.as rfl <| nA [(0, _)] <| wpM.ret ?_
       refine qL Tryd.results5 rfl fun w' hm' hc' hg' => ?_
       (exfalso; first | omega | simp_all)
      refine LM.dr 61 rfl rfl rfl <| LM.dr 61 rfl rfl rfl <| LM.dr 61 rfl rfl rfl <| LM.val (ov_pickF rfl rfl) <| LM.mv rfl <| LM.dr 66 rfl rfl rfl <| LM.dr 66 rfl rfl rfl <| LM.dr 66 rfl rfl rfl <| LM.dr 66 rfl rfl rfl <| LM.val (ov_pickF rfl rfl) <| LM.mv rfl <| LM.dr 72 rfl rfl rfl <| LM.dr 72 rfl rfl rfl <| LM.dr 72 rfl rfl rfl <| LM.dr 72 rfl rfl rfl <| LM.val (ov_pickF rfl rfl) <| LM.mv rfl <| LM.dr 78 rfl rfl rfl <| LM.dr 78 rfl rfl rfl <| LM.dr 78 rfl rfl rfl <| LM.dr 78 rfl rfl rfl <| LM.dr 78 rfl rfl rfl <| LM.dr 78 rfl rfl rfl <| LM.dr 78 rfl rfl rfl <| LM.val (ov_pickF rfl rfl) <| LM.as rfl <| nA [(0, _)] <| wpM.ret ?_
      refine qL Tryd.results5 rfl fun w' hm' hc' hg' => ?_
      (exfalso; first | omega | simp_all)
     refine LM.dr 58 rfl rfl rfl <| LM.val (ov_pickF rfl rfl) <| LM.mv rfl <| LM.dr 61 rfl rfl rfl <| LM.dr 61 rfl rfl rfl <| LM.dr 61 rfl rfl rfl <| LM.val (ov_pickF rfl rfl) <| LM.mv rfl <| LM.dr 66 rfl rfl rfl <| LM.dr 66 rfl rfl rfl <| LM.dr 66 rfl rfl rfl <| LM.dr 66 rfl rfl rfl <| LM.val (ov_pickF rfl rfl) <| LM.mv rfl <| LM.dr 72 rfl rfl rfl <| LM.dr 72 rfl rfl rfl <| LM.dr 72 rfl rfl rfl <| LM.dr 72 rfl rfl rfl <| LM.val (ov_pickF rfl rfl) <| LM.mv rfl <| LM.dr 78 rfl rfl rfl <| LM.dr 78 rfl rfl rfl <| LM.dr 78 rfl rfl rfl <| LM.dr 78 rfl rfl rfl <| LM.dr 78 rfl rfl rfl <| LM.dr 78 rfl rfl rfl <| LM.dr 78 rfl rfl rfl <| LM.val (ov_pickF rfl rfl) <| LM.as rfl <| nA [(0, _)] <| wpM.ret ?_
     refine qL Tryd.results5 rfl fun w' hm' hc' hg' => ?_
     (exfalso; first | omega | simp_all)
    refine LM.dr 52 rfl rfl rfl <| LM.dr 52 rfl rfl rfl <| LM.dr 52 rfl rfl rfl <| LM.dr 52 rfl rfl rfl <| LM.val (ov_pickF rfl rfl) <| LM.mv rfl <| LM.dr 58 rfl rfl rfl <| LM.val (ov_pickF rfl rfl) <| LM.mv rfl <| LM.dr 61 rfl rfl rfl <| LM.dr 61 rfl rfl rfl <| LM.dr 61 rfl rfl rfl <| LM.val (ov_pickF rfl rfl) <| LM.mv rfl <| LM.dr 66 rfl rfl rfl <| LM.dr 66 rfl rfl rfl <| LM.dr 66 rfl rfl rfl <| LM.dr 66 rfl rfl rfl <| LM.val (ov_pickF rfl rfl) <| LM.mv rfl <| LM.dr 72 rfl rfl rfl <| LM.dr 72 rfl rfl rfl <| LM.dr 72 rfl rfl rfl <| LM.dr 72 rfl rfl rfl <| LM.val (ov_pickF rfl rfl) <| LM.mv rfl <| LM.dr 78 rfl rfl rfl <| LM.dr 78 rfl rfl rfl <| LM.dr 78 rfl rfl rfl <| LM.dr 78 rfl rfl rfl <| LM.dr 78 rfl rfl rfl <| LM.dr 78 rfl rfl rfl <| LM.dr 78 rfl rfl rfl <| LM.val (ov_pickF rfl rfl) <| LM.as rfl <| nA [(0, _)] <| wpM.ret ?_
    refine qL Tryd.results5 rfl fun w' hm' hc' hg' => ?_
    (exfalso; first | omega | simp_all)
   refine LM.dr 46 rfl rfl rfl <| LM.dr 46 rfl rfl rfl <| LM.dr 46 rfl rfl rfl <| LM.dr 46 rfl rfl rfl <| LM.val (ov_pickF rfl rfl) <| LM.mv rfl <| LM.dr 52 rfl rfl rfl <| LM.dr 52 rfl rfl rfl <| LM.dr 52 rfl rfl rfl <| LM.dr 52 rfl rfl rfl <| LM.val (ov_pickF rfl rfl) <| LM.mv rfl <| LM.dr 58 rfl rfl rfl <| LM.val (ov_pickF rfl rfl) <| LM.mv rfl <| LM.dr 61 rfl rfl rfl <| LM.dr 61 rfl rfl rfl <| LM.dr 61 rfl rfl rfl <| LM.val (ov_pickF rfl rfl) <| LM.mv rfl <| LM.dr 66 rfl rfl rfl <| LM.dr 66 rfl rfl rfl <| LM.dr 66 rfl rfl rfl <| LM.dr 66 rfl rfl rfl <| LM.val (ov_pickF rfl rfl) <| LM.mv rfl <| LM.dr 72 rfl rfl rfl <| LM.dr 72 rfl rfl rfl <| LM.dr 72 rfl rfl rfl <| LM.dr 72 rfl rfl rfl <| LM.val (ov_pickF rfl rfl) <| LM.mv rfl <| LM.dr 78 rfl rfl rfl <| LM.dr 78 rfl rfl rfl <| LM.dr 78 rfl rfl rfl <| LM.dr 78 rfl rfl rfl <| LM.dr 78 rfl rfl rfl <| LM.dr 78 rfl rfl rfl <| LM.dr 78 rfl rfl rfl <| LM.val (ov_pickF rfl rfl) ?_
   refine LM.as rfl <| nA [(0, _)] <| wpM.ret ?_
   refine qL Tryd.results5 rfl fun w' hm' hc' hg' => ?_
   (exfalso; first | omega | simp_all)
  refine LM.dr 41 rfl rfl rfl <| LM.dr 41 rfl rfl rfl <| LM.dr 41 rfl rfl rfl <| LM.val (ov_pickF rfl rfl) <| LM.mv rfl <| LM.dr 46 rfl rfl rfl <| LM.dr 46 rfl rfl rfl <| LM.dr 46 rfl rfl rfl <| LM.dr 46 rfl rfl rfl <| LM.val (ov_pickF rfl rfl) <| LM.mv rfl <| LM.dr 52 rfl rfl rfl <| LM.dr 52 rfl rfl rfl <| LM.dr 52 rfl rfl rfl <| LM.dr 52 rfl rfl rfl <| LM.val (ov_pickF rfl rfl) <| LM.mv rfl <| LM.dr 58 rfl rfl rfl <| LM.val (ov_pickF rfl rfl) <| LM.mv rfl <| LM.dr 61 rfl rfl rfl <| LM.dr 61 rfl rfl rfl <| LM.dr 61 rfl rfl rfl <| LM.val (ov_pickF rfl rfl) <| LM.mv rfl <| LM.dr 66 rfl rfl rfl <| LM.dr 66 rfl rfl rfl <| LM.dr 66 rfl rfl rfl <| LM.dr 66 rfl rfl rfl <| LM.val (ov_pickF rfl rfl) <| LM.mv rfl <| LM.dr 72 rfl rfl rfl <| LM.dr 72 rfl rfl rfl <| LM.dr 72 rfl rfl rfl <| LM.dr 72 rfl rfl rfl <| LM.val (ov_pickF rfl rfl) <| LM.mv rfl <| LM.dr 78 rfl rfl rfl <| LM.dr 78 rfl rfl rfl <| LM.dr 78 rfl rfl rfl ?_
  refine LM.dr 78 rfl rfl rfl <| LM.dr 78 rfl rfl rfl <| LM.dr 78 rfl rfl rfl <| LM.dr 78 rfl rfl rfl <| LM.val (ov_pickF rfl rfl) <| LM.as rfl <| nA [(0, _)] <| wpM.ret ?_
  refine qL Tryd.results5 rfl fun w' hm' hc' hg' => ?_
  (exfalso; first | omega | simp_all)
 refine LM.dr 37 rfl rfl rfl <| LM.dr 37 rfl rfl rfl <| LM.val (ov_pickF rfl rfl) <| LM.mv rfl <| LM.dr 41 rfl rfl rfl <| LM.dr 41 rfl rfl rfl <| LM.dr 41 rfl rfl rfl <| LM.val (ov_pickF rfl rfl) <| LM.mv rfl <| LM.dr 46 rfl rfl rfl <| LM.dr 46 rfl rfl rfl <| LM.dr 46 rfl rfl rfl <| LM.dr 46 rfl rfl rfl <| LM.val (ov_pickF rfl rfl) <| LM.mv rfl <| LM.dr 52 rfl rfl rfl <| LM.dr 52 rfl rfl rfl <| LM.dr 52 rfl rfl rfl <| LM.dr 52 rfl rfl rfl <| LM.val (ov_pickF rfl rfl) <| LM.mv rfl <| LM.dr 58 rfl rfl rfl <| LM.val (ov_pickF rfl rfl) <| LM.mv rfl <| LM.dr 61 rfl rfl rfl <| LM.dr 61 rfl rfl rfl <| LM.dr 61 rfl rfl rfl <| LM.val (ov_pickF rfl rfl) <| LM.mv rfl <| LM.dr 66 rfl rfl rfl <| LM.dr 66 rfl rfl rfl <| LM.dr 66 rfl rfl rfl <| LM.dr 66 rfl rfl rfl <| LM.val (ov_pickF rfl rfl) <| LM.mv rfl <| LM.dr 72 rfl rfl rfl <| LM.dr 72 rfl rfl rfl <| LM.dr 72 rfl rfl rfl <| LM.dr 72 rfl rfl rfl <| LM.val (ov_pickF rfl rfl) ?_
 refine LM.mv rfl <| LM.dr 78 rfl rfl rfl <| LM.dr 78 rfl rfl rfl <| LM.dr 78 rfl rfl rfl <| LM.dr 78 rfl rfl rfl <| LM.dr 78 rfl rfl rfl <| LM.dr 78 rfl rfl rfl <| LM.dr 78 rfl rfl rfl <| LM.val (ov_pickF rfl rfl) <| LM.as rfl <| nA [(0, _)] <| wpM.ret ?_
 refine qL Tryd.results5 rfl fun w' hm' hc' hg' => ?_
 (exfalso; first | omega | simp_all)
def SeenI (G : Gr) (p : Nat) (seen : BitVec 64) : Prop := ∀ k : Nat, sHas seen k = true ↔ (k : Int) ∈ (ordO G).drop p
theorem SeenI.end (G : Gr) : SeenI G (ordO G).length 0#64 := fun k => by rw [sHas_zero, List.drop_length]; simp
theorem SeenI.step {G : Gr} {p i : Nat} {seen : BitVec 64} (h : SeenI G (p + 1) seen) (hd : (ordO G).drop p = (i : Int) :: (ordO G).drop (p + 1)) (hi : i < 64) : SeenI G p (seen ||| 1#64 <<< i) := fun k => by
  have e : seen ||| 1#64 <<< i = withS seen (i : Nat) := by unfold withS bitU; rw [if_neg om, Int.toNat_natCast]
  rw [e, sHas_withS, Bool.or_eq_true, h k, hd, List.mem_cons]
  simp only [Bool.and_eq_true, decide_eq_true_eq]
  constructor
  · rintro (h | h)
    · exact .inr h
    · exact .inl h.1
  · rintro (h | h)
    · exact .inr ⟨h, by omega, by omega⟩
    · exact .inl h
set_option maxHeartbeats 2000000 in
theorem orderTells {s : StV} (lock : Int) (w : World) (hT : Tab w) (hI : s.In w) : Ret Tryd.prog 4 #[s.val, .int .i64 lock] w (fun v w' => v = .bool true ∧ Ext w w') := by
 have hpn := hI.hpn; have hp := hI.hp; have hlen := webO_len s.C; have hlow := webO_low s.C
 refine Ret.enterM Tryd.func4 rfl Tryd.ntmps4 rfl ([]) (no) (Mem.nil w) ?_
 refine wR ?_
 refine LM.box rfl rfl (fun b2 hb2 => ?_)
 refine LM.as rfl <| nA [(1, _), (2, _)] <| wpM.seq <| wR ?_
 refine cE Tryd.func5 rfl (fun w hm hc hg => awake41_spec w (hT.ext hc)) ?_
 refine LM.val (ov_not rfl) ?_
 refine nA [(1, _), (2, _), (13, _)] ?_
 refine wpM.condB rfl (fun h1 => ?_) (fun h1 => ?_)
 ·
  cases h1
 refine wpM.skip <| QM.then <| wpM.seq <| wR ?_
 refine LM.rd (om_ldW Tryd.isAgg26 Tryd.sizeOf26 rfl rfl) ?_
 refine cE Tryd.func6 rfl (fun w hm hc hg => small12_spec w (hI.ext hc)) ?_
 refine LM.val (ov_not rfl) ?_
 refine nA [(1, _), (2, _), (16, _)] ?_
 refine wpM.condB rfl (fun h2 => ?_) (fun h2 => ?_)
 ·
  refine wR <| LM.as rfl <| nA [(4, _)] <| wpM.ret <| QM.then_ret ?_
  refine qL Tryd.results4 rfl fun w' hm' hc' hg' => ?_
  exact ⟨rfl, hc'⟩
 have hsm : smallS s.C = true := (by simpa using h2); have hsm2 := hsm; unfold smallS at hsm2; simp only [Bool.and_eq_true, decide_eq_true_eq, List.all_eq_true] at hsm2; have h12 : s.ls.length ≤ 12 := hsm2.1.1.2; have h12p : s.ps.length ≤ 12 := (by have := hsm2.1.2; have e : s.C.ps.length = s.ps.length := List.length_map ..; omega)
 refine wpM.skip <| QM.then <| wpM.seq <| wR <| LM.val (ovf 24 rfl rfl rfl rfl) ?_
 refine LM.rd (oml rfl rfl rfl) ?_
 refine LM.val (ov_len Tryd.underlying24 rfl) <| LM.mv rfl <| nA [(1, _), (2, _), (18, _), (19, _), (20, _)] <| wpM.block ?_
 refine wpM.loopK0 (α := Nat) (fun i => [(20, .int .i64 (i : Nat))]) [(1, _), (2, _), (18, _), (19, _)] (fun i => stB b2 s :: []) (fun i => i ≤ s.pn) (fun i => s.pn - i) (0) ⟨au2, rfl, rfl, rfl, rfl, trivial⟩ au1 (Nat.zero_le _) ?_
 rintro i hi
 change wpM _ _ _ _ _ _ _ (stB b2 s :: []) _ _ _
 refine wR <| LM.val (ov_lss rfl rfl) <| nA [(1, _), (2, _), (18, _), (19, _), (20, _), (21, _)] <| wpM.seq ?_
 refine wpM.condD rfl (fun h3 => ?_) (fun h3 => ?_)
 ·
  have hpm : s.ps.getD i default ∈ s.ps := List.mem_of_getElem? (getq default om); have hpi := hI.ops _ hpm; have hpl : (s.ps.getD i default).c.xs.length ≤ 20 := hsm2.2 _ (List.mem_map_of_mem hpm)
  refine wpM.skip <| QM.then <| wpM.seq <| wpM.block <| wR ?_
  refine LM.val (ov_idxSN au6 Tryd.underlying24 Tryd.sizeOf37 rfl rfl om) ?_
  refine LM.rdC (om_srEA asm ir Tryd.isAgg37 Tryd.sizeOf37 rfl au3 id) ?_
  refine LM.alloc Tryd.zeroValue37 rfl (fun b6 hb6 => ?_)
  refine LM.stW Tryd.sizeOf37 rfl rfl rfl rfl au7 au8 ?_
  refine nA [(1, _), (2, _), (6, _), (18, _), (19, _), (20, _)] <| wpM.seq ?_
  refine wpM.draw [(0, 1), (1, 0), (3, 1), (4, 0), (2, 2), (5, 2), (6, 0)] kr kr ?_
  refine LD.rd rfl rfl (om_ldW Tryd.isAgg37 Tryd.sizeOf37 rfl rfl) ?_
  refine LD.val rfl rfl (ov_move rfl) ?_
  refine LD.rd rfl rfl (om_ldW Tryd.isAgg37 Tryd.sizeOf37 rfl rfl) ?_
  refine LD.val rfl rfl (ov_move rfl) ?_
  refine dE rfl rfl Tryd.func11 rfl (fun w hm hc hg => within_spec _ w hpi.1 (hpi.2.ext hc) hpl) ?_
  refine dE rfl rfl Tryd.func12 rfl (fun w hm hc hg => rwithin_spec41 _ w hpi.1 (hpi.2.ext hc) hpl) ?_
  refine LD.val rfl rfl (ov_uneq rfl rfl) ?_
  refine LD.nil ?_
  refine QM.sub (e' := [(1, _), (2, _), (18, _), (19, _), (20, _), (30, _)]) au9 (QM.then ?_)
  refine wpM.condD rfl (fun h4 => ?_) (fun h4 => ?_)
  ·
   exact absurd rfl h4
  refine wpM.skip <| QM.block_normal ?_
  refine QM.then (wpM.region ?_)
  refine LM.val (ov_add64 rfl rfl om) ?_
  refine LM.mv rfl <| nC [(1, _), (2, _), (18, _), (19, _), (20, _)] ?_
  refine QM.againK (i + 1) ⟨au2, rfl, rfl, rfl, rfl, trivial⟩ au1 (fun _ h => h) ?_ ?_
  · omega
  · omega
 refine wpM.exit <| QM.then_exit <| QM.then_exit <| QM.block_hit <| tR ?_
 refine LM.rd (om_ldW Tryd.isAgg26 Tryd.sizeOf26 rfl rfl) ?_
 refine LM.callT (oc_call (enters_fn Tryd.func9 kr rfl) rfl) OrT.mono (fun w hm hc hg => order_spec w (hT.ext hc) (hI.ext hc)) ?_
 rintro u34 m34 ⟨ad34, n34, cap34, rfl, hn34, hs34⟩ hge34
 refine LM.mv rfl <| LM.val (ov_extract rfl rfl) <| LM.val (ov_extract rfl rfl) <| LM.as rfl <| LM.as rfl <| nB [(2, _), (7, _), (8, _)] ?_
 refine LM.rd (om_ldW Tryd.isAgg26 Tryd.sizeOf26 rfl rfl) ?_
 refine LM.cS (oc_call (enters_fn Tryd.func10 kr rfl) rfl) (fun w hm hc hg => cycle_spec w (hT.ext hc) (hI.ext hc)) (fun ad38 n38 cap38 m38 hn38 hs38 => ?_)
 refine LM.as rfl <| nB [(2, _), (7, _), (8, _), (9, _)] ?_
 refine LM.rd (om_ldW Tryd.isAgg26 Tryd.sizeOf26 rfl rfl) ?_
 refine cE Tryd.func13 rfl (fun w hm hc hg => depth_spec w (hT.ext hc) (hI.ext hc)) ?_
 refine LM.as rfl <| nA [(2, _), (7, _), (8, _), (9, _), (10, _)] <| wpM.seq <| wR ?_
 refine LM.rd (om_ldW Tryd.isAgg26 Tryd.sizeOf26 rfl rfl) ?_
 refine cE Tryd.func7 rfl (fun w hm hc hg => rmayS_spec (s := s) w (hI.ext hc)) ?_
 refine LM.val (ov_not rfl) ?_
 refine nA [(2, _), (7, _), (8, _), (9, _), (10, _), (43, _)] ?_
 refine wpM.condB rfl (fun h5 => ?_) (fun h5 => ?_)
 ·
  have hmay : mayS s.C = false := (by simpa using h5); have hok : okO s.C = false := (by unfold okO; rw [hmay]; rfl); have eor : ordW s.C = [] := if_neg (by rw [hok]; simp); have ecy : cycW s.C = [] := cycW_no (fun q => by rw [q.1] at hmay; cases hmay); have ede := depW_no hok; rw [eor] at hn34; rw [ecy] at hn38
  refine wR <| LM.mv rfl <| LM.val (ov_len Tryd.underlying22 rfl) <| LM.val (ov_eql rfl rfl) <| LM.mv rfl ?_
  refine LM.splitD (t := 47) rfl (fun h6 => ?_) (fun h6 => ?_)
  ·
   refine LM.sp 47 rfl rfl rfl <| LM.mv rfl <| LM.sp 47 rfl rfl rfl ?_
   refine LM.val (ov_not rfl) ?_
   refine LM.val (ov_pickT rfl rfl) <| LM.mv rfl ?_
   refine LM.splitB (t := 51) rfl (fun h7 => ?_) (fun h7 => ?_)
   ·
    refine LM.sp 51 rfl rfl rfl <| LM.mv rfl <| LM.sp 51 rfl rfl rfl <| LM.val (ov_len Tryd.underlying22 rfl) <| LM.sp 51 rfl rfl rfl <| LM.val (ov_eql rfl rfl) <| LM.val (ov_pickT rfl rfl) <| LM.mv rfl ?_
    refine LM.splitD (t := 56) rfl (fun h8 => ?_) (fun h8 => ?_)
    ·
     refine LM.sp 56 rfl rfl rfl <| LM.mv rfl <| LM.sp 56 rfl rfl rfl <| LM.val (ov_eql rfl rfl) <| LM.val (ov_pickT rfl rfl) <| LM.mv rfl ?_
     refine LM.splitD (t := 60) rfl (fun h9 => ?_) (fun h9 => ?_)
     ·
      refine LM.sp 60 rfl rfl rfl ?_
      refine LM.rd (om_ldW Tryd.isAgg26 Tryd.sizeOf26 rfl rfl) ?_
      refine LM.sp 60 rfl rfl rfl ?_
      refine cE Tryd.func14 rfl (fun w hm hc hg => edges41_same (G := []) w (hT.ext hc) (hI.ext hc) rfl (.nil _ _ _) (webO_no hmay).symm) ?_
      refine LM.val (ov_pickT rfl rfl) <| LM.as rfl <| nA [(4, _)] <| wpM.ret <| QM.then_ret ?_
      refine qL Tryd.results4 rfl fun w' hm' hc' hg' => ?_
      exact ⟨rfl, hc'⟩
     exfalso; rw [ede] at h9; exact h9 rfl
    exfalso; simp only [List.length_nil] at hn38; omega
   rw [hok] at h7; cases h7
  exfalso; simp only [List.length_nil] at hn34; omega
 have hmay : mayS s.C = true := (by simpa using h5)
 refine wpM.skip <| tR ?_
 refine LM.rd (om_ldW Tryd.isAgg26 Tryd.sizeOf26 rfl rfl) ?_
 refine LM.cS (oc_call (enters_fn Tryd.func8 kr rfl) rfl) (fun w hm hc hg => rgraph_spec w (hI.ext hc) h12) (fun ad65 n65 cap65 m65 hn65 hs65 => ?_)
 refine LM.as rfl <| nA [(2, _), (7, _), (8, _), (9, _), (10, _), (11, _)] <| wpM.seq <| wR ?_
 refine LM.rd (om_ldW Tryd.isAgg26 Tryd.sizeOf26 rfl rfl) ?_
 refine LM.mv rfl ?_
 refine cE Tryd.func14 rfl (fun w hm hc hg => edges41_same w (hT.ext hc) (hI.ext hc) hn65 (hs65.srM ir hm) rfl) ?_
 refine LM.val (ov_not rfl) ?_
 refine nA [(7, _), (8, _), (9, _), (10, _), (11, _), (69, _)] ?_
 refine wpM.condB rfl (fun h10 => ?_) (fun h10 => ?_)
 ·
  cases h10
 refine wpM.skip <| QM.then <| wpM.seq <| wR <| LM.mv rfl ?_
 refine cE Tryd.func15 rfl (fun w hm hc hg => rordd_spec w hn65 (hs65.srM ir hm) hlow hlen) ?_
 refine LM.val (ov_not rfl) ?_
 refine nA [(7, _), (8, _), (9, _), (10, _), (11, _), (72, _)] ?_
 refine wpM.condB rfl (fun h11 => ?_) (fun h11 => ?_)
 ·
  have hord : ordB (webO s.C) = false := (by simpa using h11); have hA : ¬ Acy (webO s.C) := (fun q => by rw [(ordB_iff _).2 q] at hord; cases hord); have hok : okO s.C = false := (by unfold okO; rw [hord, Bool.and_false]); have eor : ordW s.C = [] := if_neg (by rw [hok]; simp); have ecy : cycW s.C = cycO (webO s.C) := if_pos ⟨hmay, hord⟩; have ede := depW_no hok; rw [eor] at hn34
  refine wR <| LM.mv rfl <| LM.val (ov_len Tryd.underlying22 rfl) <| LM.val (ov_eql rfl rfl) <| LM.mv rfl ?_
  refine LM.splitD (t := 76) rfl (fun h12 => ?_) (fun h12 => ?_)
  ·
   refine LM.sp 76 rfl rfl rfl <| LM.mv rfl <| LM.sp 76 rfl rfl rfl ?_
   refine LM.val (ov_not rfl) ?_
   refine LM.val (ov_pickT rfl rfl) <| LM.mv rfl ?_
   refine LM.splitB (t := 80) rfl (fun h13 => ?_) (fun h13 => ?_)
   ·
    refine LM.sp 80 rfl rfl rfl <| LM.mv rfl <| LM.sp 80 rfl rfl rfl <| LM.val (ov_eql rfl rfl) <| LM.val (ov_pickT rfl rfl) <| LM.mv rfl ?_
    refine LM.splitD (t := 84) rfl (fun h14 => ?_) (fun h14 => ?_)
    ·
     refine LM.sp 84 rfl rfl rfl <| LM.mv rfl <| LM.sp 84 rfl rfl rfl <| LM.mv rfl <| LM.sp 84 rfl rfl rfl ?_
     refine LM.cS (oc_call (enters_fn Tryd.func17 kr rfl) rfl) (fun w hm hc hg => rcycle_spec w hn65 (hs65.srM ir hm) hlow hlen hA) (fun ad87 n87 cap87 m87 hn87 hs87 => ?_)
     refine LM.sp 84 rfl rfl rfl ?_
     refine cE Tryd.func16 rfl (fun w hm hc hg => ints41_same w hn38 (hs38.srM ir hm) (by rw [ecy]; exact hn87) (by rw [ecy]; exact hs87.srM ir hm) (by rw [ecy]; exact Nat.le_trans (cycF_len _ _ _ _ _) om)) ?_
     refine LM.val (ov_pickT rfl rfl) <| LM.as rfl <| nA [(4, _)] <| wpM.ret <| QM.then_ret ?_
     refine qL Tryd.results4 rfl fun w' hm' hc' hg' => ?_
     exact ⟨rfl, hc'⟩
    exfalso; rw [ede] at h14; exact h14 rfl
   rw [hok] at h13; cases h13
  exfalso; simp only [List.length_nil] at hn34; omega
 have hord : ordB (webO s.C) = true := (by simpa using h11); have hA := (ordB_iff _).1 hord; have hok : okO s.C = true := (by unfold okO; rw [hmay, hord]; rfl); have eor : ordW s.C = ordO (webO s.C) := if_pos hok; have ecy : cycW s.C = [] := cycW_no (fun q => by rw [q.2] at hord; cases hord); have ede : depW s.C = dpt (webO s.C) := if_pos hok; rw [ecy] at hn38
 refine wpM.skip <| tR <| LM.mv rfl <| LM.mv rfl ?_
 refine LM.splitB (t := 91) rfl (fun h15 => ?_) (fun h15 => ?_)
 ·
  refine LM.sp 91 rfl rfl rfl <| LM.mv rfl <| LM.sp 91 rfl rfl rfl <| LM.mv rfl <| LM.sp 91 rfl rfl rfl ?_
  refine LM.cS (oc_call (enters_fn Tryd.func18 kr rfl) rfl) (fun w hm hc hg => rorder_spec w hn65 (hs65.srM ir hm) hlow hlen hA) (fun ad94 n94 cap94 m94 hn94 hs94 => ?_)
  refine LM.sp 91 rfl rfl rfl ?_
  refine cE Tryd.func16 rfl (fun w hm hc hg => ints41_same w hn34 (hs34.srM ir hm) (by rw [eor]; exact hn94) (by rw [eor]; exact hs94.srM ir hm) (by rw [eor, ordO_len hA hlen]; omega)) ?_
  refine LM.val (ov_pickT rfl rfl) <| LM.mv rfl ?_
  refine LM.splitB (t := 97) rfl (fun h16 => ?_) (fun h16 => ?_)
  ·
   refine LM.sp 97 rfl rfl rfl <| LM.mv rfl <| LM.sp 97 rfl rfl rfl <| LM.mv rfl <| LM.sp 97 rfl rfl rfl ?_
   refine cE Tryd.func19 rfl (fun w hm hc hg => rdep_spec w hn65 (hs65.srM ir hm) hlow hlen hA) ?_
   refine LM.sp 97 rfl rfl rfl <| LM.val (ov_eql rfl rfl) <| LM.val (ov_pickT rfl rfl) <| LM.mv rfl ?_
   refine LM.splitD (t := 103) rfl (fun h17 => ?_) (fun h17 => ?_)
   ·
    refine LM.sp 103 rfl rfl rfl <| LM.mv rfl <| LM.sp 103 rfl rfl rfl <| LM.val (ov_len Tryd.underlying22 rfl) <| LM.sp 103 rfl rfl rfl <| LM.val (ov_eql rfl rfl) <| LM.val (ov_pickT rfl rfl) <| LM.as rfl <| nA [(4, _)] <| wpM.ret ?_
    refine qL Tryd.results4 rfl fun w' hm' hc' hg' => ?_
    refine ⟨?_, hc'⟩; show Value.bool (decide ((n38 : Int) = 0)) = Value.bool true; rw [hn38]; rfl
   exfalso; rw [ede] at h17; exact h17 rfl
  cases h16
 rw [hok] at h15; cases h15
end Go.Eng
namespace Go.Eng
end Go.Eng
