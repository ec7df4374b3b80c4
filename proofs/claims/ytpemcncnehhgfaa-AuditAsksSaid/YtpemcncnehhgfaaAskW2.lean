/- The walk of an audit's second law. No condition. -/
import Derived.Test.YtpemcncnehhgfaaAskW
set_option linter.unusedVariables false
set_option linter.unusedSimpArgs false
namespace Go.Eng
open Go Go.Proofs Go.RowKit

abbrev tB9 (b : Nat) (x : BitVec 64) (n : Int) : Nat × Obj := (b, .cells #[U x, .int .u8 n] 66 (0, 0))
theorem besV_tuple (o : Option (Nat × Nat)) : besV o = .tuple #[.int .i64 ((o.map (·.1)).getD 0 : Nat), .int .i64 ((o.map (·.2)).getD 0 : Nat), .bool o.isSome] := by cases o <;> rfl
theorem lonV_tuple (o : Option (Nat × BitVec 64)) : lonV o = .tuple #[.int .i64 ((o.map (·.1)).getD 0 : Nat), .bool o.isSome] := by cases o <;> rfl
theorem lonI_pos (o : Option (Nat × BitVec 64)) : decide (0 ≤ lonI o) = o.isSome := by cases o <;> simp [lonI]
theorem lonI_max (o : Option (Nat × BitVec 64)) : (if 0 > lonI o then 0 else lonI o) = ((o.map (·.1)).getD 0 : Nat) := by cases o <;> simp [lonI]; omega
set_option maxRecDepth 100000 in
theorem on28_spec (s : St) (b4 b5 : Nat) (lock : Int) (x : BitVec 64) (n : Int) (w : World) (hM : Mem w [iB9 b4 lock, tB9 b5 x n]) : Ret Try.prog 46 #[.agg (fT s).toArray, .pointer (some ⟨b4, 0, none⟩), .pointer (some ⟨b5, 0, none⟩)] w (fun v w' => v = .bool (onT lock x s) ∧ Ext w w') := by
  refine Ret.enterM (l := [.agg (fT s).toArray, .pointer (some ⟨b4, 0, none⟩), .pointer (some ⟨b5, 0, none⟩)]) Try.func46 rfl Try.ntmps46 rfl ([iB9 b4 lock, tB9 b5 x n]) (no) hM ?_
  refine wpM.seq ?_
  refine wpM.region ?_
  refine LM.box rfl rfl (fun b3 hb3 => ?_)
  refine LM.val (ov_assign rfl) ?_
  refine LM.nil ?_
  refine QM.sub (e' := [(1, _), (2, _), (3, _)]) ⟨rfl, rfl, rfl, trivial⟩ ?_
  refine QM.then ?_
  refine wpM.seq ?_
  refine wpM.region ?_
  refine LM.val (ov_field Try.underlying72 rfl Try.sizeOf3 rfl (k := 1) rfl rfl) ?_
  first | refine LM.rd (om_ld Try.isAgg3 rfl rfl) ?_
  first | refine LM.rd (om_ld Try.isAgg3 rfl rfl) ?_
  refine LM.val (ov_eql rfl rfl) ?_
  refine LM.val (ov_move rfl) ?_
  first | refine LM.splitD (t := 9) rfl (fun h1 => ?_) (fun h1 => ?_) | refine LM.splitB (t := 9) rfl (fun h1 => ?_) (fun h1 => ?_)
  ·
    refine LM.strip (t := 9) rfl rfl rfl ?_
    refine LM.val (ov_field Try.underlying72 rfl Try.sizeOf22 rfl (k := 2) rfl rfl) ?_
    refine LM.strip (t := 9) rfl rfl rfl ?_
    first | refine LM.rd (om_ld Try.isAgg22 rfl rfl) ?_
    refine LM.strip (t := 9) rfl rfl rfl ?_
    refine LM.val (ov_field Try.underlying66 rfl Try.sizeOf22 rfl (k := 0) rfl rfl) ?_
    refine LM.strip (t := 9) rfl rfl rfl ?_
    first | refine LM.rd (om_ld Try.isAgg22 rfl rfl) ?_
    refine LM.strip (t := 9) rfl rfl rfl ?_
    refine LM.val (ov_uleq rfl rfl) ?_
    refine LM.val (ov_pickT rfl rfl) ?_
    refine LM.val (ov_move rfl) ?_
    first | refine LM.splitD (t := 16) rfl (fun h2 => ?_) (fun h2 => ?_) | refine LM.splitB (t := 16) rfl (fun h2 => ?_) (fun h2 => ?_)
    ·
      refine LM.strip (t := 16) rfl rfl rfl ?_
      refine LM.val (ov_field Try.underlying72 rfl Try.sizeOf22 rfl (k := 3) rfl rfl) ?_
      refine LM.strip (t := 16) rfl rfl rfl ?_
      first | refine LM.rd (om_ld Try.isAgg22 rfl rfl) ?_
      refine LM.strip (t := 16) rfl rfl rfl ?_
      refine LM.val (ov_field Try.underlying66 rfl Try.sizeOf22 rfl (k := 0) rfl rfl) ?_
      refine LM.strip (t := 16) rfl rfl rfl ?_
      first | refine LM.rd (om_ld Try.isAgg22 rfl rfl) ?_
      refine LM.strip (t := 16) rfl rfl rfl ?_
      refine LM.val (ov_ugtr rfl rfl) ?_
      refine LM.strip (t := 16) rfl rfl rfl ?_
      refine LM.val (ov_move rfl) ?_
      first | refine LM.splitD (t := 22) rfl (fun h3 => ?_) (fun h3 => ?_) | refine LM.splitB (t := 22) rfl (fun h3 => ?_) (fun h3 => ?_)
      ·
        refine LM.drop (t := 22) rfl rfl rfl ?_
        refine LM.drop (t := 22) rfl rfl rfl ?_
        refine LM.drop (t := 22) rfl rfl rfl ?_
        refine LM.strip (t := 16) rfl rfl rfl ?_
        refine LM.val (ov_pickT rfl rfl) ?_
        refine LM.val (ov_pickT rfl rfl) ?_
        refine LM.val (ov_assign rfl) ?_
        refine LM.nil ?_
        refine QM.sub (e' := [(4, _)]) ⟨rfl, trivial⟩ ?_
        refine QM.then ?_
        refine wpM.ret ?_
        refine QM.leave (.inl rfl) [.tmp 4] Try.results46 rfl ?_
        intro w' hm' hc' hg'
        -- leaf 1: h1+ h2+ h3+
        refine ⟨?_, hc'⟩; first | (simp only [resV, onT, h1, h2, h3, decide_true, decide_false, Bool.true_and, Bool.false_and, Bool.and_true, Bool.and_false, Bool.not_true, Bool.not_false, Bool.true_or, Bool.false_or, Bool.or_true, Bool.or_false, ne_eq, not_true_eq_false, not_false_eq_true, Bool.and_self]; done) | (simp only [resV, onT, h1, h2, h3, decide_true, decide_false, Bool.true_and, Bool.false_and, Bool.and_true, Bool.and_false, Bool.not_true, Bool.not_false, Bool.true_or, Bool.false_or, Bool.or_true, Bool.or_false, ne_eq, not_true_eq_false, not_false_eq_true, Bool.and_self]; rfl)
      ·
        refine LM.strip (t := 22) rfl rfl rfl ?_
        refine LM.val (ov_field Try.underlying72 rfl Try.sizeOf3 rfl (k := 4) rfl rfl) ?_
        refine LM.strip (t := 22) rfl rfl rfl ?_
        first | refine LM.rd (om_ld Try.isAgg3 rfl rfl) ?_
        refine LM.strip (t := 22) rfl rfl rfl ?_
        refine LM.val (ov_eql rfl rfl) ?_
        refine LM.strip (t := 16) rfl rfl rfl ?_
        refine LM.val (ov_pickF rfl rfl) ?_
        refine LM.val (ov_pickT rfl rfl) ?_
        refine LM.val (ov_assign rfl) ?_
        refine LM.nil ?_
        refine QM.sub (e' := [(4, _)]) ⟨rfl, trivial⟩ ?_
        refine QM.then ?_
        refine wpM.ret ?_
        refine QM.leave (.inl rfl) [.tmp 4] Try.results46 rfl ?_
        intro w' hm' hc' hg'
        -- leaf 2: h1+ h2+ h3-
        refine ⟨?_, hc'⟩; first | (simp only [resV, onT, h1, h2, h3, decide_true, decide_false, Bool.true_and, Bool.false_and, Bool.and_true, Bool.and_false, Bool.not_true, Bool.not_false, Bool.true_or, Bool.false_or, Bool.or_true, Bool.or_false, ne_eq, not_true_eq_false, not_false_eq_true, Bool.and_self]; done) | (simp only [resV, onT, h1, h2, h3, decide_true, decide_false, Bool.true_and, Bool.false_and, Bool.and_true, Bool.and_false, Bool.not_true, Bool.not_false, Bool.true_or, Bool.false_or, Bool.or_true, Bool.or_false, ne_eq, not_true_eq_false, not_false_eq_true, Bool.and_self]; rfl)
    ·
      refine LM.drop (t := 16) rfl rfl rfl ?_
      refine LM.drop (t := 16) rfl rfl rfl ?_
      refine LM.drop (t := 16) rfl rfl rfl ?_
      refine LM.drop (t := 16) rfl rfl rfl ?_
      refine LM.drop (t := 16) rfl rfl rfl ?_
      refine LM.dropU (t := 16) rfl rfl rfl ?_
      refine LM.dropX (t := 22) rfl rfl ?_
      refine LM.dropX (t := 22) rfl rfl ?_
      refine LM.dropX (t := 22) rfl rfl ?_
      refine LM.drop (t := 16) rfl rfl rfl ?_
      refine LM.val (ov_pickF rfl rfl) ?_
      refine LM.val (ov_assign rfl) ?_
      refine LM.nil ?_
      refine QM.sub (e' := [(4, _)]) ⟨rfl, trivial⟩ ?_
      refine QM.then ?_
      refine wpM.ret ?_
      refine QM.leave (.inl rfl) [.tmp 4] Try.results46 rfl ?_
      intro w' hm' hc' hg'
      -- leaf 3: h1+ h2-
      refine ⟨?_, hc'⟩; first | (simp only [resV, onT, h1, h2, decide_true, decide_false, Bool.true_and, Bool.false_and, Bool.and_true, Bool.and_false, Bool.not_true, Bool.not_false, Bool.true_or, Bool.false_or, Bool.or_true, Bool.or_false, ne_eq, not_true_eq_false, not_false_eq_true, Bool.and_self]; done) | (simp only [resV, onT, h1, h2, decide_true, decide_false, Bool.true_and, Bool.false_and, Bool.and_true, Bool.and_false, Bool.not_true, Bool.not_false, Bool.true_or, Bool.false_or, Bool.or_true, Bool.or_false, ne_eq, not_true_eq_false, not_false_eq_true, Bool.and_self]; rfl)
  ·
    refine LM.drop (t := 9) rfl rfl rfl ?_
    refine LM.drop (t := 9) rfl rfl rfl ?_
    refine LM.drop (t := 9) rfl rfl rfl ?_
    refine LM.drop (t := 9) rfl rfl rfl ?_
    refine LM.drop (t := 9) rfl rfl rfl ?_
    refine LM.val (ov_pickF rfl rfl) ?_
    refine LM.val (ov_move rfl) ?_
    refine LM.drop (t := 16) rfl rfl rfl ?_
    refine LM.drop (t := 16) rfl rfl rfl ?_
    refine LM.drop (t := 16) rfl rfl rfl ?_
    refine LM.drop (t := 16) rfl rfl rfl ?_
    refine LM.drop (t := 16) rfl rfl rfl ?_
    refine LM.dropU (t := 16) rfl rfl rfl ?_
    refine LM.dropX (t := 22) rfl rfl ?_
    refine LM.dropX (t := 22) rfl rfl ?_
    refine LM.dropX (t := 22) rfl rfl ?_
    refine LM.drop (t := 16) rfl rfl rfl ?_
    refine LM.val (ov_pickF rfl rfl) ?_
    refine LM.val (ov_assign rfl) ?_
    refine LM.nil ?_
    refine QM.sub (e' := [(4, _)]) ⟨rfl, trivial⟩ ?_
    refine QM.then ?_
    refine wpM.ret ?_
    refine QM.leave (.inl rfl) [.tmp 4] Try.results46 rfl ?_
    intro w' hm' hc' hg'
    -- leaf 4: h1-
    refine ⟨?_, hc'⟩; first | (simp only [resV, onT, h1, decide_true, decide_false, Bool.true_and, Bool.false_and, Bool.and_true, Bool.and_false, Bool.not_true, Bool.not_false, Bool.true_or, Bool.false_or, Bool.or_true, Bool.or_false, ne_eq, not_true_eq_false, not_false_eq_true, Bool.and_self]; done) | (simp only [resV, onT, h1, decide_true, decide_false, Bool.true_and, Bool.false_and, Bool.and_true, Bool.and_false, Bool.not_true, Bool.not_false, Bool.true_or, Bool.false_or, Bool.or_true, Bool.or_false, ne_eq, not_true_eq_false, not_false_eq_true, Bool.and_self]; rfl)

set_option maxRecDepth 100000 in
set_option maxHeartbeats 2000000 in
theorem auditAsks {ss : List St} {ad : Option Addr} {n cap : Nat} (lock : Int) (x : BitVec 64) (k0 : Int) (w : World) (hn : n = ss.length) (hl : Sr fT 6 ss (.slice ad n cap) w) (hk0 : 0 ≤ k0 ∧ k0 ≤ 255) : Ret Try.prog 10 #[.slice ad n cap, .int .i64 lock, .agg #[U x, .int .u8 k0]] w (fun v w' => v = .bool true ∧ Ext w w') := by
  refine Ret.enterM (l := [.slice ad n cap, .int .i64 lock, .agg #[U x, .int .u8 k0]]) Try.func10 rfl Try.ntmps10 rfl ([]) (no) (Mem.nil w) ?_
  refine wpM.seq ?_
  refine wpM.region ?_
  refine LM.box rfl rfl (fun b3 hb3 => ?_)
  refine LM.box rfl rfl (fun b4 hb4 => ?_)
  refine LM.box rfl rfl (fun b5 hb5 => ?_)
  refine LM.alloc Try.zeroValue4 rfl (fun b6 hb6 => ?_)
  refine LM.nil ?_
  refine QM.sub (e' := [(3, _), (4, _), (5, _), (6, _)]) ⟨rfl, rfl, rfl, rfl, trivial⟩ ?_
  refine QM.then ?_
  refine wpM.seq ?_
  refine wpM.seq ?_
  refine wpM.region ?_
  refine LM.callE (oc_call (enters_fn Try.func37 (by kernel_rfl) rfl) rfl) (fun w hm hc hg => awake28 w) ?_
  first | refine LM.val (ov_notD rfl) ?_ | refine LM.val (ov_not rfl) ?_
  refine LM.nil ?_
  refine QM.sub (e' := [(3, _), (4, _), (5, _), (6, _), (22, _)]) ⟨rfl, rfl, rfl, rfl, rfl, trivial⟩ ?_
  refine QM.then ?_
  first | refine wpM.condD rfl (fun h1 => ?_) (fun h1 => ?_) | refine wpM.condB rfl (fun h1 => ?_) (fun h1 => ?_)
  ·
    refine wpM.seq ?_
    refine wpM.region ?_
    refine LM.st Try.sizeOf4 rfl rfl rfl (by first | decide | exact Nat.le_of_ble_eq_true rfl | (simp; done) | (simp; omega)) rfl (fun hlt => absurd hlt (by omega)) ?_
    refine LM.nil ?_
    refine QM.sub (e' := [(6, _)]) ⟨rfl, trivial⟩ ?_
    refine QM.then ?_
    refine wpM.ret ?_
    refine QM.then_ret ?_
    refine QM.leaveCF Try.results10 rfl Try.isAgg4 rfl ?_
    intro w' hm' hc' hg'
    -- leaf 1: h1+
    exfalso; simp at h1
  ·
    refine wpM.skip ?_
    refine QM.then ?_
    refine wpM.seq ?_
    refine wpM.seq ?_
    refine wpM.region ?_
    first | refine LM.rd (om_ld Try.isAgg61 rfl rfl) ?_
    refine LM.val (ov_len Try.underlying61 rfl) ?_
    refine LM.val (ov_gtr rfl rfl) ?_
    refine LM.nil ?_
    refine QM.sub (e' := [(3, _), (4, _), (5, _), (6, _), (25, _)]) ⟨rfl, rfl, rfl, rfl, rfl, trivial⟩ ?_
    refine QM.then ?_
    first | refine wpM.condD rfl (fun h2 => ?_) (fun h2 => ?_) | refine wpM.condB rfl (fun h2 => ?_) (fun h2 => ?_)
    ·
      refine wpM.seq ?_
      refine wpM.region ?_
      refine LM.st Try.sizeOf4 rfl rfl rfl (by first | decide | exact Nat.le_of_ble_eq_true rfl | (simp; done) | (simp; omega)) rfl (fun hlt => absurd hlt (by omega)) ?_
      refine LM.nil ?_
      refine QM.sub (e' := [(6, _)]) ⟨rfl, trivial⟩ ?_
      refine QM.then ?_
      refine wpM.ret ?_
      refine QM.then_ret ?_
      refine QM.leaveCF Try.results10 rfl Try.isAgg4 rfl ?_
      intro w' hm' hc' hg'
      -- leaf 2: h1- h2+
      first | exact ⟨rfl, hc'⟩ | (refine ⟨?_, hc'⟩; show Value.bool (decide ((n : Int) ≤ (a : Nat))) = _; rw [decide_eq_true (by omega)]; done) | (exfalso; first | exact h3 rfl | exact h4 rfl | (simp at h5; done) | (rw [lonI_pos] at h6; simp at h6; done) | exact h7 (lonI_max _).symm)
    ·
      refine wpM.skip ?_
      refine QM.then ?_
      refine wpM.seq ?_
      refine wpM.region ?_
      first | refine LM.rd (om_ld Try.isAgg61 rfl rfl) ?_
      refine LM.callE (oc_call (enters_fn Try.func42 (by kernel_rfl) rfl) rfl) (fun w hm hc hg => besV_tuple (bOf ss) ▸ beside_at (l := ss) rfl w hn (hl.ext hc) (by omega)) ?_
      refine LM.val (ov_move rfl) ?_
      refine LM.val (ov_extract rfl rfl) ?_
      refine LM.val (ov_extract rfl rfl) ?_
      refine LM.val (ov_extract rfl rfl) ?_
      refine LM.val (ov_assign rfl) ?_
      refine LM.val (ov_assign rfl) ?_
      refine LM.val (ov_assign rfl) ?_
      refine LM.nil ?_
      refine QM.sub (e' := [(3, _), (4, _), (5, _), (6, _), (7, _), (8, _), (9, _)]) ⟨rfl, rfl, rfl, rfl, rfl, rfl, rfl, trivial⟩ ?_
      refine QM.then ?_
      refine wpM.seq ?_
      refine wpM.region ?_
      first | refine LM.rd (om_ld Try.isAgg61 rfl rfl) ?_
      refine LM.callE (oc_call (enters_fn Try.func43 (by kernel_rfl) rfl) rfl) (fun w hm hc hg => besV_tuple (bOf ss) ▸ rbeside_spec w hn (hl.ext hc) (by omega)) ?_
      refine LM.val (ov_move rfl) ?_
      refine LM.val (ov_extract rfl rfl) ?_
      refine LM.val (ov_extract rfl rfl) ?_
      refine LM.val (ov_extract rfl rfl) ?_
      refine LM.val (ov_assign rfl) ?_
      refine LM.val (ov_assign rfl) ?_
      refine LM.val (ov_assign rfl) ?_
      refine LM.nil ?_
      refine QM.sub (e' := [(3, _), (4, _), (5, _), (6, _), (7, _), (8, _), (9, _), (10, _), (11, _), (12, _)]) ⟨rfl, rfl, rfl, rfl, rfl, rfl, rfl, rfl, rfl, rfl, trivial⟩ ?_
      refine QM.then ?_
      refine wpM.seq ?_
      refine wpM.region ?_
      first | refine LM.rd (om_ld Try.isAgg61 rfl rfl) ?_
      refine LM.callE (oc_call (enters_fn Try.func44 (by kernel_rfl) rfl) rfl) (fun w hm hc hg => lonV_tuple (lonF ss ss.length) ▸ longest_at (l := ss) rfl w hn (hl.ext hc) (by omega)) ?_
      refine LM.val (ov_move rfl) ?_
      refine LM.val (ov_extract rfl rfl) ?_
      refine LM.val (ov_extract rfl rfl) ?_
      refine LM.val (ov_assign rfl) ?_
      refine LM.val (ov_assign rfl) ?_
      refine LM.nil ?_
      refine QM.sub (e' := [(3, _), (4, _), (5, _), (6, _), (7, _), (8, _), (9, _), (10, _), (11, _), (12, _), (13, _), (14, _)]) ⟨rfl, rfl, rfl, rfl, rfl, rfl, rfl, rfl, rfl, rfl, rfl, rfl, trivial⟩ ?_
      refine QM.then ?_
      refine wpM.seq ?_
      refine wpM.region ?_
      first | refine LM.rd (om_ld Try.isAgg61 rfl rfl) ?_
      refine LM.callE (oc_call (enters_fn Try.func45 (by kernel_rfl) rfl) rfl) (fun w hm hc hg => rlongest_spec w hn (hl.ext hc) (by omega)) ?_
      refine LM.val (ov_assign rfl) ?_
      refine LM.nil ?_
      refine QM.sub (e' := [(3, _), (4, _), (5, _), (6, _), (7, _), (8, _), (9, _), (10, _), (11, _), (12, _), (13, _), (14, _), (15, _)]) ⟨rfl, rfl, rfl, rfl, rfl, rfl, rfl, rfl, rfl, rfl, rfl, rfl, rfl, trivial⟩ ?_
      refine QM.then ?_
      refine wpM.seq ?_
      refine wpM.seq ?_
      refine wpM.region ?_
      refine LM.val (ov_move rfl) ?_
      refine LM.val (ov_move rfl) ?_
      refine LM.val (ov_neq rfl rfl) ?_
      refine LM.val (ov_move rfl) ?_
      first | refine LM.splitD (t := 48) rfl (fun h3 => ?_) (fun h3 => ?_) | refine LM.splitB (t := 48) rfl (fun h3 => ?_) (fun h3 => ?_)
      ·
        refine LM.drop (t := 48) rfl rfl rfl ?_
        refine LM.drop (t := 48) rfl rfl rfl ?_
        refine LM.drop (t := 48) rfl rfl rfl ?_
        refine LM.val (ov_pickT rfl rfl) ?_
        refine LM.val (ov_move rfl) ?_
        refine LM.drop (t := 53) rfl rfl rfl ?_
        refine LM.drop (t := 53) rfl rfl rfl ?_
        refine LM.drop (t := 53) rfl rfl rfl ?_
        refine LM.val (ov_pickT rfl rfl) ?_
        refine LM.val (ov_move rfl) ?_
        refine LM.drop (t := 58) rfl rfl rfl ?_
        refine LM.drop (t := 58) rfl rfl rfl ?_
        refine LM.drop (t := 58) rfl rfl rfl ?_
        refine LM.drop (t := 58) rfl rfl rfl ?_
        refine LM.val (ov_pickT rfl rfl) ?_
        refine LM.val (ov_move rfl) ?_
        refine LM.drop (t := 64) rfl rfl rfl ?_
        refine LM.drop (t := 64) rfl rfl rfl ?_
        refine LM.drop (t := 64) rfl rfl rfl ?_
        refine LM.drop (t := 64) rfl rfl rfl ?_
        refine LM.val (ov_pickT rfl rfl) ?_
        refine LM.nil ?_
        refine QM.sub (e' := [(3, _), (4, _), (5, _), (6, _), (69, _)]) ⟨rfl, rfl, rfl, rfl, rfl, trivial⟩ ?_
        refine QM.then ?_
        refine wpM.condT rfl ?_
        refine wpM.seq ?_
        refine wpM.region ?_
        refine LM.st Try.sizeOf4 rfl rfl rfl (by first | decide | exact Nat.le_of_ble_eq_true rfl | (simp; done) | (simp; omega)) rfl (fun hlt => absurd hlt (by omega)) ?_
        refine LM.nil ?_
        refine QM.sub (e' := [(6, _)]) ⟨rfl, trivial⟩ ?_
        refine QM.then ?_
        refine wpM.ret ?_
        refine QM.then_ret ?_
        refine QM.leaveCF Try.results10 rfl Try.isAgg4 rfl ?_
        intro w' hm' hc' hg'
        -- leaf 3: h1- h2- h3+
        first | exact ⟨rfl, hc'⟩ | (refine ⟨?_, hc'⟩; show Value.bool (decide ((n : Int) ≤ (a : Nat))) = _; rw [decide_eq_true (by omega)]; done) | (exfalso; first | exact h3 rfl | exact h4 rfl | (simp at h5; done) | (rw [lonI_pos] at h6; simp at h6; done) | exact h7 (lonI_max _).symm)
      ·
        refine LM.strip (t := 48) rfl rfl rfl ?_
        refine LM.val (ov_move rfl) ?_
        refine LM.strip (t := 48) rfl rfl rfl ?_
        refine LM.val (ov_move rfl) ?_
        refine LM.strip (t := 48) rfl rfl rfl ?_
        refine LM.val (ov_neq rfl rfl) ?_
        refine LM.val (ov_pickF rfl rfl) ?_
        refine LM.val (ov_move rfl) ?_
        first | refine LM.splitD (t := 53) rfl (fun h4 => ?_) (fun h4 => ?_) | refine LM.splitB (t := 53) rfl (fun h4 => ?_) (fun h4 => ?_)
        ·
          refine LM.drop (t := 53) rfl rfl rfl ?_
          refine LM.drop (t := 53) rfl rfl rfl ?_
          refine LM.drop (t := 53) rfl rfl rfl ?_
          refine LM.val (ov_pickT rfl rfl) ?_
          refine LM.val (ov_move rfl) ?_
          refine LM.drop (t := 58) rfl rfl rfl ?_
          refine LM.drop (t := 58) rfl rfl rfl ?_
          refine LM.drop (t := 58) rfl rfl rfl ?_
          refine LM.drop (t := 58) rfl rfl rfl ?_
          refine LM.val (ov_pickT rfl rfl) ?_
          refine LM.val (ov_move rfl) ?_
          refine LM.drop (t := 64) rfl rfl rfl ?_
          refine LM.drop (t := 64) rfl rfl rfl ?_
          refine LM.drop (t := 64) rfl rfl rfl ?_
          refine LM.drop (t := 64) rfl rfl rfl ?_
          refine LM.val (ov_pickT rfl rfl) ?_
          refine LM.nil ?_
          refine QM.sub (e' := [(3, _), (4, _), (5, _), (6, _), (69, _)]) ⟨rfl, rfl, rfl, rfl, rfl, trivial⟩ ?_
          refine QM.then ?_
          refine wpM.condT rfl ?_
          refine wpM.seq ?_
          refine wpM.region ?_
          refine LM.st Try.sizeOf4 rfl rfl rfl (by first | decide | exact Nat.le_of_ble_eq_true rfl | (simp; done) | (simp; omega)) rfl (fun hlt => absurd hlt (by omega)) ?_
          refine LM.nil ?_
          refine QM.sub (e' := [(6, _)]) ⟨rfl, trivial⟩ ?_
          refine QM.then ?_
          refine wpM.ret ?_
          refine QM.then_ret ?_
          refine QM.leaveCF Try.results10 rfl Try.isAgg4 rfl ?_
          intro w' hm' hc' hg'
          -- leaf 4: h1- h2- h3- h4+
          first | exact ⟨rfl, hc'⟩ | (refine ⟨?_, hc'⟩; show Value.bool (decide ((n : Int) ≤ (a : Nat))) = _; rw [decide_eq_true (by omega)]; done) | (exfalso; first | exact h3 rfl | exact h4 rfl | (simp at h5; done) | (rw [lonI_pos] at h6; simp at h6; done) | exact h7 (lonI_max _).symm)
        ·
          refine LM.strip (t := 53) rfl rfl rfl ?_
          refine LM.val (ov_move rfl) ?_
          refine LM.strip (t := 53) rfl rfl rfl ?_
          refine LM.val (ov_move rfl) ?_
          refine LM.strip (t := 53) rfl rfl rfl ?_
          refine LM.val (ov_bneq Try.underlying4 rfl rfl) ?_
          refine LM.val (ov_pickF rfl rfl) ?_
          refine LM.val (ov_move rfl) ?_
          first | refine LM.splitD (t := 58) rfl (fun h5 => ?_) (fun h5 => ?_) | refine LM.splitB (t := 58) rfl (fun h5 => ?_) (fun h5 => ?_)
          ·
            refine LM.drop (t := 58) rfl rfl rfl ?_
            refine LM.drop (t := 58) rfl rfl rfl ?_
            refine LM.drop (t := 58) rfl rfl rfl ?_
            refine LM.drop (t := 58) rfl rfl rfl ?_
            refine LM.val (ov_pickT rfl rfl) ?_
            refine LM.val (ov_move rfl) ?_
            refine LM.drop (t := 64) rfl rfl rfl ?_
            refine LM.drop (t := 64) rfl rfl rfl ?_
            refine LM.drop (t := 64) rfl rfl rfl ?_
            refine LM.drop (t := 64) rfl rfl rfl ?_
            refine LM.val (ov_pickT rfl rfl) ?_
            refine LM.nil ?_
            refine QM.sub (e' := [(3, _), (4, _), (5, _), (6, _), (69, _)]) ⟨rfl, rfl, rfl, rfl, rfl, trivial⟩ ?_
            refine QM.then ?_
            refine wpM.condT rfl ?_
            refine wpM.seq ?_
            refine wpM.region ?_
            refine LM.st Try.sizeOf4 rfl rfl rfl (by first | decide | exact Nat.le_of_ble_eq_true rfl | (simp; done) | (simp; omega)) rfl (fun hlt => absurd hlt (by omega)) ?_
            refine LM.nil ?_
            refine QM.sub (e' := [(6, _)]) ⟨rfl, trivial⟩ ?_
            refine QM.then ?_
            refine wpM.ret ?_
            refine QM.then_ret ?_
            refine QM.leaveCF Try.results10 rfl Try.isAgg4 rfl ?_
            intro w' hm' hc' hg'
            -- leaf 5: h1- h2- h3- h4- h5+
            first | exact ⟨rfl, hc'⟩ | (refine ⟨?_, hc'⟩; show Value.bool (decide ((n : Int) ≤ (a : Nat))) = _; rw [decide_eq_true (by omega)]; done) | (exfalso; first | exact h3 rfl | exact h4 rfl | (simp at h5; done) | (rw [lonI_pos] at h6; simp at h6; done) | exact h7 (lonI_max _).symm)
          ·
            refine LM.strip (t := 58) rfl rfl rfl ?_
            refine LM.val (ov_move rfl) ?_
            refine LM.strip (t := 58) rfl rfl rfl ?_
            refine LM.val (ov_move rfl) ?_
            refine LM.strip (t := 58) rfl rfl rfl ?_
            refine LM.val (ov_geq rfl rfl) ?_
            refine LM.strip (t := 58) rfl rfl rfl ?_
            refine LM.val (ov_bneq Try.underlying4 rfl rfl) ?_
            refine LM.val (ov_pickF rfl rfl) ?_
            refine LM.val (ov_move rfl) ?_
            first | refine LM.splitD (t := 64) rfl (fun h6 => ?_) (fun h6 => ?_) | refine LM.splitB (t := 64) rfl (fun h6 => ?_) (fun h6 => ?_)
            ·
              refine LM.drop (t := 64) rfl rfl rfl ?_
              refine LM.drop (t := 64) rfl rfl rfl ?_
              refine LM.drop (t := 64) rfl rfl rfl ?_
              refine LM.drop (t := 64) rfl rfl rfl ?_
              refine LM.val (ov_pickT rfl rfl) ?_
              refine LM.nil ?_
              refine QM.sub (e' := [(3, _), (4, _), (5, _), (6, _), (69, _)]) ⟨rfl, rfl, rfl, rfl, rfl, trivial⟩ ?_
              refine QM.then ?_
              refine wpM.condT rfl ?_
              refine wpM.seq ?_
              refine wpM.region ?_
              refine LM.st Try.sizeOf4 rfl rfl rfl (by first | decide | exact Nat.le_of_ble_eq_true rfl | (simp; done) | (simp; omega)) rfl (fun hlt => absurd hlt (by omega)) ?_
              refine LM.nil ?_
              refine QM.sub (e' := [(6, _)]) ⟨rfl, trivial⟩ ?_
              refine QM.then ?_
              refine wpM.ret ?_
              refine QM.then_ret ?_
              refine QM.leaveCF Try.results10 rfl Try.isAgg4 rfl ?_
              intro w' hm' hc' hg'
              -- leaf 6: h1- h2- h3- h4- h5- h6+
              first | exact ⟨rfl, hc'⟩ | (refine ⟨?_, hc'⟩; show Value.bool (decide ((n : Int) ≤ (a : Nat))) = _; rw [decide_eq_true (by omega)]; done) | (exfalso; first | exact h3 rfl | exact h4 rfl | (simp at h5; done) | (rw [lonI_pos] at h6; simp at h6; done) | exact h7 (lonI_max _).symm)
            ·
              refine LM.strip (t := 64) rfl rfl rfl ?_
              refine LM.val (ov_move rfl) ?_
              refine LM.strip (t := 64) rfl rfl rfl ?_
              refine LM.val (ov_move rfl) ?_
              refine LM.strip (t := 64) rfl rfl rfl ?_
              refine LM.val (ov_max rfl rfl) ?_
              refine LM.strip (t := 64) rfl rfl rfl ?_
              refine LM.val (ov_neq rfl rfl) ?_
              refine LM.val (ov_pickF rfl rfl) ?_
              refine LM.nil ?_
              refine QM.sub (e' := [(3, _), (4, _), (5, _), (6, _), (69, _)]) ⟨rfl, rfl, rfl, rfl, rfl, trivial⟩ ?_
              refine QM.then ?_
              first | refine wpM.condD rfl (fun h7 => ?_) (fun h7 => ?_) | refine wpM.condB rfl (fun h7 => ?_) (fun h7 => ?_)
              ·
                refine wpM.seq ?_
                refine wpM.region ?_
                refine LM.st Try.sizeOf4 rfl rfl rfl (by first | decide | exact Nat.le_of_ble_eq_true rfl | (simp; done) | (simp; omega)) rfl (fun hlt => absurd hlt (by omega)) ?_
                refine LM.nil ?_
                refine QM.sub (e' := [(6, _)]) ⟨rfl, trivial⟩ ?_
                refine QM.then ?_
                refine wpM.ret ?_
                refine QM.then_ret ?_
                refine QM.leaveCF Try.results10 rfl Try.isAgg4 rfl ?_
                intro w' hm' hc' hg'
                -- leaf 7: h1- h2- h3- h4- h5- h6- h7+
                first | exact ⟨rfl, hc'⟩ | (refine ⟨?_, hc'⟩; show Value.bool (decide ((n : Int) ≤ (a : Nat))) = _; rw [decide_eq_true (by omega)]; done) | (exfalso; first | exact h3 rfl | exact h4 rfl | (simp at h5; done) | (rw [lonI_pos] at h6; simp at h6; done) | exact h7 (lonI_max _).symm)
              ·
                refine wpM.skip ?_
                refine QM.then ?_
                refine wpM.seq ?_
                refine wpM.region ?_
                refine LM.alloc Try.zeroValue3 rfl (fun b16 hb16 => ?_)
                refine LM.alloc Try.zeroValue3 rfl (fun b17 hb17 => ?_)
                refine LM.st Try.sizeOf3 rfl rfl rfl (by first | decide | exact Nat.le_of_ble_eq_true rfl | (simp; done) | (simp; omega)) rfl (fun hlt => absurd hlt (by omega)) ?_
                refine LM.st Try.sizeOf3 rfl rfl rfl (by first | decide | exact Nat.le_of_ble_eq_true rfl | (simp; done) | (simp; omega)) rfl (fun hlt => absurd hlt (by omega)) ?_
                refine LM.nil ?_
                refine QM.sub (e' := [(3, _), (4, _), (5, _), (6, _), (16, _), (17, _)]) ⟨rfl, rfl, rfl, rfl, rfl, rfl, trivial⟩ ?_
                refine QM.then ?_
                refine wpM.seq ?_
                refine wpM.region ?_
                refine LM.val (ov_makeFunc rfl) ?_
                refine LM.alloc Try.zeroValue73 rfl (fun b18 hb18 => ?_)
                refine LM.st Try.sizeOf73 rfl rfl rfl (by first | decide | exact Nat.le_of_ble_eq_true rfl | (simp; done) | (simp; omega)) rfl (fun hlt => absurd hlt (by omega)) ?_
                refine LM.nil ?_
                refine QM.sub (e' := [(3, _), (4, _), (5, _), (6, _), (16, _), (17, _), (18, _)]) ⟨rfl, rfl, rfl, rfl, rfl, rfl, rfl, trivial⟩ ?_
                refine QM.then ?_
                refine wpM.seq ?_
                refine wpM.seq ?_
                refine wpM.region ?_
                first | refine LM.rd (om_ld Try.isAgg61 rfl rfl) ?_
                first | refine LM.rd (om_ld Try.isAgg3 rfl rfl) ?_
                refine LM.val (ov_field Try.underlying66 rfl Try.sizeOf22 rfl (k := 0) rfl rfl) ?_
                first | refine LM.rd (om_ld Try.isAgg22 rfl rfl) ?_
                refine LM.callT (oc_call (enters_fn Try.func47 (by kernel_rfl) rfl) rfl) AtT.mono (fun w hm hc hg => at_spec ad n cap lock x w) ?_
                rintro u75 m75 ⟨c1, c2, c3, rfl, rfl, hc1, hc2, hc3⟩ -
                refine LM.nil ?_
                refine QM.sub (e' := [(3, _), (5, _), (6, _), (16, _), (17, _), (18, _), (75, _)]) ⟨rfl, rfl, rfl, rfl, rfl, rfl, rfl, trivial⟩ ?_
                refine QM.then ?_
                refine wpM.block ?_
                refine wpM.toRange (α := Nat) (fun k a => slT c1 ad n cap :: iB9 c2 lock :: uB9 c3 x :: iB9 b16 (a : Nat) :: iB9 b17 (k : Nat) :: (b18, .cells #[.func (.func 46) #[] #[.pointer (some ⟨b4, 0, none⟩), .pointer (some ⟨b5, 0, none⟩)]] 73 (0, 0)) :: slT b3 ad n cap :: iB9 b4 lock :: tB9 b5 x k0 :: (b6, .cells #[.bool false] 4 (0, 0)) :: []) (0) (by (repeat' (first | exact SubM.nil _ | refine SubM.cons rfl ?_ | refine SubM.app ?_))) ?_
                refine wpM.range (α := Nat) (β := Unit) (enters_fn Try.func68 (by kernel_rfl) rfl) rfl (at_seq (ss := ss) (lock := lock) (x := x) hn (by omega)) (fun k a => slT c1 ad n cap :: iB9 c2 lock :: uB9 c3 x :: iB9 b16 (a : Nat) :: iB9 b17 (k : Nat) :: (b18, .cells #[.func (.func 46) #[] #[.pointer (some ⟨b4, 0, none⟩), .pointer (some ⟨b5, 0, none⟩)]] 73 (0, 0)) :: slT b3 ad n cap :: iB9 b4 lock :: tB9 b5 x k0 :: (b6, .cells #[.bool false] 4 (0, 0)) :: []) (fun _ _ => top) (fun k a => a ≤ ss.length ∧ onN ss lock x a = k) (fun ⟨⟩ => (b6, .cells #[.bool true] 4 (0, 0)) :: []) (fun _ => top) (fun c ⟨⟩ => c = .ret) 0 rfl (fun _ h => h) ⟨Nat.zero_le _, rfl⟩ (by kernel_rfl) (by intro k av hav; obtain ⟨p, hp, hon, hpk, rfl⟩ := onA_inv hav; rfl) (.inl trivial) (fun k a w hm hc _ _ => ⟨SubM.mem (by (repeat' (first | exact SubM.nil _ | refine SubM.cons rfl ?_ | refine SubM.app ?_))) w hm, hl.ext hc⟩) (fun _ _ _ _ => gl_top _) (fun _ _ _ => gl_top _) (fun k x _ => by ((repeat (refine mm_cons rfl ?_)); exact fun p hp => .inl (by first | exact hp | (simp at hp; done) | (simp [hp]; done)))) (fun c z _ => by ((repeat (refine mm_cons rfl ?_)); exact fun p hp => .inl (by first | exact hp | (simp at hp; done) | (simp [hp]; done)))) ?_ ?_ ?_ ?_
                ·
                  rintro k av a l D rc n1 W1 hD hll hput hrc hav ⟨ha, hak⟩
                  change wpM _ _ _ _ _ _ _ ((l, Obj.loop rc) :: ([(D, Obj.deferred (some []))] ++ (slT c1 ad n cap :: iB9 c2 lock :: uB9 c3 x :: iB9 b16 (a : Nat) :: iB9 b17 (k : Nat) :: (b18, .cells #[.func (.func 46) #[] #[.pointer (some ⟨b4, 0, none⟩), .pointer (some ⟨b5, 0, none⟩)]] 73 (0, 0)) :: slT b3 ad n cap :: iB9 b4 lock :: tB9 b5 x k0 :: (b6, .cells #[.bool false] 4 (0, 0)) :: []))) _ _ _
                  obtain ⟨p, hp, hon, hpk, rfl⟩ := onA_inv hav
                  have hkb := onN_le ss lock x a
                  refine wpM.seq ?_
                  refine wpM.region ?_
                  refine LM.val (ov_assign rfl) ?_
                  refine LM.nil ?_
                  refine QM.sub (e' := [(3, _), (5, _), (6, _), (16, _), (17, _), (18, _), (19, _), (77, _)]) ⟨rfl, rfl, rfl, rfl, rfl, rfl, rfl, rfl, trivial⟩ ?_
                  refine QM.then ?_
                  refine wpM.region ?_
                  refine LM.alloc Try.zeroValue72 rfl (fun b20 hb20 => ?_)
                  first | refine LM.stW Try.sizeOf72 rfl rfl rfl rfl (by first | rfl | decide | (simp; done)) (fun hlt => absurd hlt (by omega)) ?_ | refine LM.st Try.sizeOf72 rfl rfl rfl (by first | decide | exact Nat.le_of_ble_eq_true rfl | (simp; done) | (simp; omega)) rfl (fun hlt => absurd hlt (by omega)) ?_
                  refine LM.nil ?_
                  refine QM.sub (e' := [(3, _), (5, _), (6, _), (16, _), (17, _), (18, _), (19, _), (20, _)]) ⟨rfl, rfl, rfl, rfl, rfl, rfl, rfl, rfl, trivial⟩ ?_
                  refine QM.toBodyF (hput k a) hll ?_
                  refine wpM.block ?_
                  refine wpM.seq ?_
                  refine wpM.block ?_
                  refine wpM.loopK0 (α := Nat) (fun a => []) [(3, _), (5, _), (6, _), (16, _), (17, _), (18, _), (19, _), (20, _)] (fun a => (b20, .cells (fT (ss.getD p default)).toArray 72 (0, 0)) :: (l, .loop (busyOf rc)) :: (D, .deferred (some [])) :: slT c1 ad n cap :: iB9 c2 lock :: uB9 c3 x :: iB9 b16 (a : Nat) :: iB9 b17 (k : Nat) :: (b18, .cells #[.func (.func 46) #[] #[.pointer (some ⟨b4, 0, none⟩), .pointer (some ⟨b5, 0, none⟩)]] 73 (0, 0)) :: slT b3 ad n cap :: iB9 b4 lock :: tB9 b5 x k0 :: (b6, .cells #[.bool false] 4 (0, 0)) :: []) (fun a => a ≤ p ∧ onN ss lock x a = k) (fun a => ss.length - a) (a) ⟨rfl, rfl, rfl, rfl, rfl, rfl, rfl, rfl, trivial⟩ (by (repeat' (first | exact SubM.nil _ | refine SubM.cons rfl ?_ | refine SubM.app ?_))) ⟨by apply Nat.le_of_not_lt; intro hlt; have := onN_mono ss lock x (i := p + 1) (j := a) hlt; rw [onN_succ, if_pos hon] at this; omega, hak⟩ ?_
                  rintro a ⟨hap, hak⟩
                  change wpM _ _ _ _ _ _ _ ((b20, .cells (fT (ss.getD p default)).toArray 72 (0, 0)) :: (l, .loop (busyOf rc)) :: (D, .deferred (some [])) :: slT c1 ad n cap :: iB9 c2 lock :: uB9 c3 x :: iB9 b16 (a : Nat) :: iB9 b17 (k : Nat) :: (b18, .cells #[.func (.func 46) #[] #[.pointer (some ⟨b4, 0, none⟩), .pointer (some ⟨b5, 0, none⟩)]] 73 (0, 0)) :: slT b3 ad n cap :: iB9 b4 lock :: tB9 b5 x k0 :: (b6, .cells #[.bool false] 4 (0, 0)) :: []) _ _ _
                  refine wpM.seq ?_
                  refine wpM.seq ?_
                  refine wpM.draw [(0, 1), (1, 1), (2, 0), (3, 0), (4, 0), (5, 1), (6, 1), (7, 1), (8, 0), (9, 1), (10, 2), (11, 0), (12, 0)] (by kernel_rfl) (by kernel_rfl) ?_
                  first | refine LD.rd rfl rfl (om_ld Try.isAgg3 rfl rfl) ?_
                  first | refine LD.rd rfl rfl (om_ld Try.isAgg61 rfl rfl) ?_
                  refine LD.val rfl rfl (ov_len Try.underlying61 rfl) ?_
                  refine LD.val rfl rfl (ov_lss rfl rfl) ?_
                  refine LD.val rfl rfl (ov_move rfl) ?_
                  first | refine LD.splitD (t := 82) rfl (fun h8 => ?_) (fun h8 => ?_) | refine LD.splitB (t := 82) rfl (fun h8 => ?_) (fun h8 => ?_)
                  ·
                    first | refine LD.rd rfl ⟨82, _, rfl, rfl, rfl⟩ (om_ld Try.isAgg73 rfl rfl) ?_
                    first | refine LD.rd rfl ⟨82, _, rfl, rfl, rfl⟩ (om_ld Try.isAgg61 rfl rfl) ?_
                    first | refine LD.rd rfl ⟨82, _, rfl, rfl, rfl⟩ (om_ld Try.isAgg3 rfl rfl) ?_
                    first | refine LD.val rfl ⟨82, _, rfl, rfl, rfl⟩ (ov_idxSN (by first | exact Sr.spt (by assumption) | exact Sl.spt (by assumption)) Try.underlying61 Try.sizeOf72 rfl rfl (by omega)) ?_ | refine LD.val rfl ⟨82, _, rfl, rfl, rfl⟩ (ov_idxS (by first | exact Sr.spt (by assumption) | exact Sl.spt (by assumption)) Try.underlying61 Try.sizeOf72 rfl rfl (by omega)) ?_ | refine LD.val rfl ⟨82, _, rfl, rfl, rfl⟩ (ov_idx Try.underlying61 Try.sizeOf72 rfl rfl (by omega)) ?_
                    first | refine LD.rd rfl ⟨82, _, rfl, rfl, rfl⟩ (om_slA (by assumption) (by intro _; rfl) Try.isAgg72 Try.sizeOf72 rfl (by exact getq default (by first | omega | (simp only [List.length_set, List.length_append, List.length_cons, List.length_nil]; omega)))) ?_ | refine LD.rdC rfl ⟨82, _, rfl, rfl, rfl⟩ (om_srEA (by assumption) (by intro _; rfl) Try.isAgg72 Try.sizeOf72 rfl (by exact getq default (by first | omega | (simp only [List.length_set, List.length_append, List.length_cons, List.length_nil]; omega))) id) ?_ | refine LD.rd rfl ⟨82, _, rfl, rfl, rfl⟩ (om_ldW Try.isAgg72 Try.sizeOf72 rfl rfl) ?_ | refine LD.rd rfl ⟨82, _, rfl, rfl, rfl⟩ (om_ldA Try.isAgg72 Try.sizeOf72 rfl (vs := [_, _, _, _, _, _]) rfl ⟨rfl, rfl, rfl, rfl, rfl, rfl, trivial⟩) ?_
                    refine LD.callE rfl ⟨82, _, rfl, rfl, rfl⟩ (oc_callV rfl (enters_fn Try.func46 (by kernel_rfl) rfl) rfl) (fun w hm hc hg => on28_spec _ b4 b5 lock x k0 w (SubM.mem (by (repeat' (first | exact SubM.nil _ | refine SubM.cons rfl ?_ | refine SubM.app ?_))) w hm)) ?_
                    first | refine LD.val rfl ⟨82, _, rfl, rfl, rfl⟩ (ov_notD rfl) ?_ | refine LD.val rfl ⟨82, _, rfl, rfl, rfl⟩ (ov_not rfl) ?_
                    refine LD.val rfl rfl (ov_pickT rfl rfl) ?_
                    refine LD.nil ?_
                    refine QM.sub (e' := [(3, _), (5, _), (6, _), (16, _), (17, _), (18, _), (19, _), (20, _), (90, _)]) ⟨rfl, rfl, rfl, rfl, rfl, rfl, rfl, rfl, rfl, trivial⟩ ?_
                    refine QM.then ?_
                    first | refine wpM.condD rfl (fun h9 => ?_) (fun h9 => ?_) | refine wpM.condB rfl (fun h9 => ?_) (fun h9 => ?_)
                    ·
                      refine wpM.skip ?_
                      refine QM.then ?_
                      refine wpM.block ?_
                      refine wpM.region ?_
                      first | refine LM.rd (om_ld Try.isAgg3 rfl rfl) ?_
                      refine LM.val (ov_add64 rfl rfl (by omega)) ?_
                      refine LM.st Try.sizeOf3 rfl rfl rfl (by first | decide | exact Nat.le_of_ble_eq_true rfl | (simp; done) | (simp; omega)) rfl (fun hlt => absurd hlt (by omega)) ?_
                      refine LM.nil ?_
                      refine QM.sub (e' := [(3, _), (5, _), (6, _), (16, _), (17, _), (18, _), (19, _), (20, _)]) ⟨rfl, rfl, rfl, rfl, rfl, rfl, rfl, rfl, trivial⟩ ?_
                      refine QM.block_normal ?_
                      -- again1: h1- h2- h3- h4- h5- h6- h7- h8+ h9+
                      refine QM.againK (a + 1) ⟨rfl, rfl, rfl, rfl, rfl, rfl, rfl, rfl, trivial⟩ (by (repeat' (first | exact SubM.nil _ | refine SubM.cons rfl ?_ | refine SubM.app ?_))) (fun _ h => h) ?_ ?_
                      · have hnp : a ≠ p := (fun e => by subst e; rw [hon] at h9; simp at h9); exact ⟨by omega, by rw [onN_succ, if_neg (by intro h; rw [h] at h9; simp at h9), hak]; rfl⟩
                      · first | omega | (dsimp only; omega)
                    ·
                      have hap2 : a = p := (by apply Classical.byContradiction; intro hne; have h1 := onN_mono ss lock x (i := a + 1) (j := p) (by omega); rw [onN_succ, if_pos (by simpa [-List.getD_eq_getElem?_getD] using h9)] at h1; omega); subst hap2
                      refine wpM.exit ?_
                      refine QM.then_exit ?_
                      refine QM.then_exit ?_
                      refine QM.block_hit ?_
                      refine QM.then ?_
                      refine wpM.seq ?_
                      refine wpM.seq ?_
                      refine wpM.draw [(0, 1), (1, 0), (2, 0), (3, 0), (4, 1), (5, 1), (6, 0), (7, 0), (8, 0), (9, 0), (10, 1), (11, 1), (12, 0), (13, 1), (14, 1), (15, 0), (16, 0)] (by kernel_rfl) (by kernel_rfl) ?_
                      first | refine LD.rd rfl rfl (om_ld Try.isAgg3 rfl rfl) ?_
                      refine LD.val rfl rfl (ov_move rfl) ?_
                      refine LD.val rfl rfl (ov_neq rfl rfl) ?_
                      refine LD.val rfl rfl (ov_move rfl) ?_
                      first | refine LD.splitD (t := 96) rfl (fun h10 => ?_) (fun h10 => ?_) | refine LD.splitB (t := 96) rfl (fun h10 => ?_) (fun h10 => ?_)
                      ·
                        exact absurd rfl h10
                      ·
                        first | refine LD.rd rfl ⟨96, _, rfl, rfl, rfl⟩ (om_ld Try.isAgg3 rfl rfl) ?_
                        first | refine LD.rd rfl ⟨96, _, rfl, rfl, rfl⟩ (om_ld Try.isAgg61 rfl rfl) ?_
                        refine LD.val rfl ⟨96, _, rfl, rfl, rfl⟩ (ov_len Try.underlying61 rfl) ?_
                        refine LD.val rfl ⟨96, _, rfl, rfl, rfl⟩ (ov_geq rfl rfl) ?_
                        refine LD.val rfl rfl (ov_pickF rfl rfl) ?_
                        refine LD.val rfl rfl (ov_move rfl) ?_
                        first | refine LD.splitD (t := 102) rfl (fun h11 => ?_) (fun h11 => ?_) | refine LD.splitB (t := 102) rfl (fun h11 => ?_) (fun h11 => ?_)
                        ·
                          exfalso; omega
                        ·
                          first | refine LD.rd rfl ⟨102, _, rfl, rfl, rfl⟩ (om_ld Try.isAgg61 rfl rfl) ?_
                          first | refine LD.rd rfl ⟨102, _, rfl, rfl, rfl⟩ (om_ld Try.isAgg3 rfl rfl) ?_
                          first | refine LD.val rfl ⟨102, _, rfl, rfl, rfl⟩ (ov_idxSN (by first | exact Sr.spt (by assumption) | exact Sl.spt (by assumption)) Try.underlying61 Try.sizeOf72 rfl rfl (by omega)) ?_ | refine LD.val rfl ⟨102, _, rfl, rfl, rfl⟩ (ov_idxS (by first | exact Sr.spt (by assumption) | exact Sl.spt (by assumption)) Try.underlying61 Try.sizeOf72 rfl rfl (by omega)) ?_ | refine LD.val rfl ⟨102, _, rfl, rfl, rfl⟩ (ov_idx Try.underlying61 Try.sizeOf72 rfl rfl (by omega)) ?_
                          first | refine LD.rd rfl ⟨102, _, rfl, rfl, rfl⟩ (om_slA (by assumption) (by intro _; rfl) Try.isAgg72 Try.sizeOf72 rfl (by exact getq default (by first | omega | (simp only [List.length_set, List.length_append, List.length_cons, List.length_nil]; omega)))) ?_ | refine LD.rdC rfl ⟨102, _, rfl, rfl, rfl⟩ (om_srEA (by assumption) (by intro _; rfl) Try.isAgg72 Try.sizeOf72 rfl (by exact getq default (by first | omega | (simp only [List.length_set, List.length_append, List.length_cons, List.length_nil]; omega))) id) ?_ | refine LD.rd rfl ⟨102, _, rfl, rfl, rfl⟩ (om_ldW Try.isAgg72 Try.sizeOf72 rfl rfl) ?_ | refine LD.rd rfl ⟨102, _, rfl, rfl, rfl⟩ (om_ldA Try.isAgg72 Try.sizeOf72 rfl (vs := [_, _, _, _, _, _]) rfl ⟨rfl, rfl, rfl, rfl, rfl, rfl, trivial⟩) ?_
                          first | refine LD.rd rfl ⟨102, _, rfl, rfl, rfl⟩ (om_ldW Try.isAgg72 Try.sizeOf72 rfl rfl) ?_ | refine LD.rd rfl ⟨102, _, rfl, rfl, rfl⟩ (om_ldA Try.isAgg72 Try.sizeOf72 rfl (vs := [_, _, _, _, _, _]) rfl ⟨rfl, rfl, rfl, rfl, rfl, rfl, trivial⟩) ?_
                          refine LD.val rfl ⟨102, _, rfl, rfl, rfl⟩ (ov_aneq Try.underlying72 (by kernel_rfl) (by kernel_rfl) (by decide) rfl rfl (by rfl) ⟨(by first | rfl | trivial), (by first | rfl | trivial), (by first | rfl | trivial), (by first | rfl | trivial), (by first | rfl | trivial), (by first | rfl | trivial), trivial⟩) ?_
                          refine LD.val rfl rfl (ov_pickF rfl rfl) ?_
                          refine LD.nil ?_
                          refine QM.sub (e' := [(5, _), (6, _), (16, _), (17, _), (109, _)]) ⟨rfl, rfl, rfl, rfl, rfl, trivial⟩ ?_
                          refine QM.then ?_
                          first | refine wpM.condD rfl (fun h12 => ?_) (fun h12 => ?_) | refine wpM.condB rfl (fun h12 => ?_) (fun h12 => ?_)
                          ·
                            rw [veqs_fT] at h12; simp at h12
                          ·
                            refine wpM.skip ?_
                            refine QM.then ?_
                            refine wpM.seq ?_
                            refine wpM.region ?_
                            first | refine LM.rd (om_ld Try.isAgg3 rfl rfl) ?_
                            refine LM.val (ov_add64 rfl rfl (by omega)) ?_
                            refine LM.st Try.sizeOf3 rfl rfl rfl (by first | decide | exact Nat.le_of_ble_eq_true rfl | (simp; done) | (simp; omega)) rfl (fun hlt => absurd hlt (by omega)) ?_
                            refine LM.nil ?_
                            refine QM.sub (e' := [(5, _), (6, _), (17, _)]) ⟨rfl, rfl, rfl, trivial⟩ ?_
                            refine QM.then ?_
                            refine wpM.seq ?_
                            refine wpM.region ?_
                            first | refine LM.rd (om_ld Try.isAgg3 rfl rfl) ?_
                            refine LM.val (ov_add64 rfl rfl (by omega)) ?_
                            refine LM.st Try.sizeOf3 rfl rfl rfl (by first | decide | exact Nat.le_of_ble_eq_true rfl | (simp; done) | (simp; omega)) rfl (fun hlt => absurd hlt (by omega)) ?_
                            refine LM.nil ?_
                            refine QM.sub (e' := [(5, _), (6, _), (17, _)]) ⟨rfl, rfl, rfl, trivial⟩ ?_
                            refine QM.then ?_
                            refine wpM.seq ?_
                            refine wpM.region ?_
                            first | refine LM.rd (om_ld Try.isAgg3 rfl rfl) ?_
                            refine LM.val (ov_field Try.underlying66 rfl Try.sizeOf5 rfl (k := 1) rfl rfl) ?_
                            first | refine LM.rd (om_ld Try.isAgg5 rfl rfl) ?_
                            refine LM.val (ov_to64 Try.underlying5 Try.underlying3 rfl (by omega)) ?_
                            refine LM.val (ov_gtr rfl rfl) ?_
                            refine LM.nil ?_
                            refine QM.sub (e' := [(6, _), (118, _)]) ⟨rfl, rfl, trivial⟩ ?_
                            refine QM.then ?_
                            first | refine wpM.condD rfl (fun h13 => ?_) (fun h13 => ?_) | refine wpM.condB rfl (fun h13 => ?_) (fun h13 => ?_)
                            ·
                              refine wpM.seq ?_
                              refine wpM.region ?_
                              refine LM.st Try.sizeOf4 rfl rfl rfl (by first | decide | exact Nat.le_of_ble_eq_true rfl | (simp; done) | (simp; omega)) rfl (fun hlt => absurd hlt (by omega)) ?_
                              refine LM.nil ?_
                              refine QM.sub (e' := [(6, _)]) ⟨rfl, trivial⟩ ?_
                              refine QM.then ?_
                              refine wpM.ret ?_
                              refine QM.block_ret ?_
                              -- ret1: h1- h2- h3- h4- h5- h6- h7- h8+ h9- h10- h11- h12- h13+
                              refine QM.rret (⟨⟩) (SubM.mem (by (repeat' (first | exact SubM.nil _ | refine SubM.cons rfl ?_ | refine SubM.app ?_)))) (fun _ h => h) ?_
                              · rfl
                            ·
                              refine wpM.skip ?_
                              refine QM.block_normal ?_
                              -- next1: h1- h2- h3- h4- h5- h6- h7- h8+ h9- h10- h11- h12- h13-
                              refine QM.next (a + 1) (SubM.mem (by (repeat' (first | exact SubM.nil _ | refine SubM.cons rfl ?_ | refine SubM.app ?_)))) (fun _ h => h) ?_
                              · exact ⟨by omega, by rw [onN_succ, if_pos hon, hak]⟩
                  ·
                    exfalso; omega
                ·
                  rintro a D0 hD0 ⟨ha, hak⟩
                  refine QM.sub (e' := [(3, _), (6, _), (16, _), (18, _)]) ⟨rfl, rfl, rfl, rfl, trivial⟩ ?_
                  refine QM.block_normal ?_
                  refine QM.then ?_
                  refine wpM.seq ?_
                  refine wpM.block ?_
                  refine wpM.loopK0 (α := Nat) (fun a => []) [(3, _), (6, _), (16, _), (18, _)] (fun a => (D0, .deferred (some [])) :: (b16, .cells #[.int .i64 (a : Nat)] 3 (0, 0)) :: (b18, .cells #[.func (.func 46) #[] #[.pointer (some ⟨b4, 0, none⟩), .pointer (some ⟨b5, 0, none⟩)]] 73 (0, 0)) :: slT b3 ad n cap :: iB9 b4 lock :: tB9 b5 x k0 :: (b6, .cells #[.bool false] 4 (0, 0)) :: []) (fun a => a ≤ ss.length ∧ onN ss lock x a = onN ss lock x ss.length) (fun a => ss.length - a) (a) ⟨rfl, rfl, rfl, rfl, trivial⟩ (by (repeat' (first | exact SubM.nil _ | refine SubM.cons rfl ?_ | refine SubM.app ?_))) ⟨ha, by rw [hak, onA_len]⟩ ?_
                  rintro a ⟨hap, hak⟩
                  change wpM _ _ _ _ _ _ _ ((D0, .deferred (some [])) :: (b16, .cells #[.int .i64 (a : Nat)] 3 (0, 0)) :: (b18, .cells #[.func (.func 46) #[] #[.pointer (some ⟨b4, 0, none⟩), .pointer (some ⟨b5, 0, none⟩)]] 73 (0, 0)) :: slT b3 ad n cap :: iB9 b4 lock :: tB9 b5 x k0 :: (b6, .cells #[.bool false] 4 (0, 0)) :: []) _ _ _
                  refine wpM.seq ?_
                  refine wpM.seq ?_
                  refine wpM.draw [(0, 1), (1, 1), (2, 0), (3, 0), (4, 0), (5, 1), (6, 1), (7, 1), (8, 0), (9, 1), (10, 2), (11, 0), (12, 0)] (by kernel_rfl) (by kernel_rfl) ?_
                  first | refine LD.rd rfl rfl (om_ld Try.isAgg3 rfl rfl) ?_
                  first | refine LD.rd rfl rfl (om_ld Try.isAgg61 rfl rfl) ?_
                  refine LD.val rfl rfl (ov_len Try.underlying61 rfl) ?_
                  refine LD.val rfl rfl (ov_lss rfl rfl) ?_
                  refine LD.val rfl rfl (ov_move rfl) ?_
                  first | refine LD.splitD (t := 123) rfl (fun h14 => ?_) (fun h14 => ?_) | refine LD.splitB (t := 123) rfl (fun h14 => ?_) (fun h14 => ?_)
                  ·
                    first | refine LD.rd rfl ⟨123, _, rfl, rfl, rfl⟩ (om_ld Try.isAgg73 rfl rfl) ?_
                    first | refine LD.rd rfl ⟨123, _, rfl, rfl, rfl⟩ (om_ld Try.isAgg61 rfl rfl) ?_
                    first | refine LD.rd rfl ⟨123, _, rfl, rfl, rfl⟩ (om_ld Try.isAgg3 rfl rfl) ?_
                    first | refine LD.val rfl ⟨123, _, rfl, rfl, rfl⟩ (ov_idxSN (by first | exact Sr.spt (by assumption) | exact Sl.spt (by assumption)) Try.underlying61 Try.sizeOf72 rfl rfl (by omega)) ?_ | refine LD.val rfl ⟨123, _, rfl, rfl, rfl⟩ (ov_idxS (by first | exact Sr.spt (by assumption) | exact Sl.spt (by assumption)) Try.underlying61 Try.sizeOf72 rfl rfl (by omega)) ?_ | refine LD.val rfl ⟨123, _, rfl, rfl, rfl⟩ (ov_idx Try.underlying61 Try.sizeOf72 rfl rfl (by omega)) ?_
                    first | refine LD.rd rfl ⟨123, _, rfl, rfl, rfl⟩ (om_slA (by assumption) (by intro _; rfl) Try.isAgg72 Try.sizeOf72 rfl (by exact getq default (by first | omega | (simp only [List.length_set, List.length_append, List.length_cons, List.length_nil]; omega)))) ?_ | refine LD.rdC rfl ⟨123, _, rfl, rfl, rfl⟩ (om_srEA (by assumption) (by intro _; rfl) Try.isAgg72 Try.sizeOf72 rfl (by exact getq default (by first | omega | (simp only [List.length_set, List.length_append, List.length_cons, List.length_nil]; omega))) id) ?_ | refine LD.rd rfl ⟨123, _, rfl, rfl, rfl⟩ (om_ldW Try.isAgg72 Try.sizeOf72 rfl rfl) ?_ | refine LD.rd rfl ⟨123, _, rfl, rfl, rfl⟩ (om_ldA Try.isAgg72 Try.sizeOf72 rfl (vs := [_, _, _, _, _, _]) rfl ⟨rfl, rfl, rfl, rfl, rfl, rfl, trivial⟩) ?_
                    refine LD.callE rfl ⟨123, _, rfl, rfl, rfl⟩ (oc_callV rfl (enters_fn Try.func46 (by kernel_rfl) rfl) rfl) (fun w hm hc hg => on28_spec _ b4 b5 lock x k0 w (SubM.mem (by (repeat' (first | exact SubM.nil _ | refine SubM.cons rfl ?_ | refine SubM.app ?_))) w hm)) ?_
                    first | refine LD.val rfl ⟨123, _, rfl, rfl, rfl⟩ (ov_notD rfl) ?_ | refine LD.val rfl ⟨123, _, rfl, rfl, rfl⟩ (ov_not rfl) ?_
                    refine LD.val rfl rfl (ov_pickT rfl rfl) ?_
                    refine LD.nil ?_
                    refine QM.sub (e' := [(3, _), (6, _), (16, _), (18, _), (131, _)]) ⟨rfl, rfl, rfl, rfl, rfl, trivial⟩ ?_
                    refine QM.then ?_
                    first | refine wpM.condD rfl (fun h15 => ?_) (fun h15 => ?_) | refine wpM.condB rfl (fun h15 => ?_) (fun h15 => ?_)
                    ·
                      refine wpM.skip ?_
                      refine QM.then ?_
                      refine wpM.block ?_
                      refine wpM.region ?_
                      first | refine LM.rd (om_ld Try.isAgg3 rfl rfl) ?_
                      refine LM.val (ov_add64 rfl rfl (by omega)) ?_
                      refine LM.st Try.sizeOf3 rfl rfl rfl (by first | decide | exact Nat.le_of_ble_eq_true rfl | (simp; done) | (simp; omega)) rfl (fun hlt => absurd hlt (by omega)) ?_
                      refine LM.nil ?_
                      refine QM.sub (e' := [(3, _), (6, _), (16, _), (18, _)]) ⟨rfl, rfl, rfl, rfl, trivial⟩ ?_
                      refine QM.block_normal ?_
                      -- again1: h1- h2- h3- h4- h5- h6- h7- h14+ h15+
                      refine QM.againK (a + 1) ⟨rfl, rfl, rfl, rfl, trivial⟩ (by (repeat' (first | exact SubM.nil _ | refine SubM.cons rfl ?_ | refine SubM.app ?_))) (fun _ h => h) ?_ ?_
                      · exact ⟨by omega, by rw [onN_succ, if_neg (by intro h; rw [h] at h15; simp at h15), hak]; rfl⟩
                      · first | omega | (dsimp only; omega)
                    ·
                      exfalso; have h1 := onN_mono ss lock x (i := a + 1) (j := ss.length) (by omega); rw [onN_succ, if_pos (by simpa [-List.getD_eq_getElem?_getD] using h15)] at h1; omega
                  ·
                    refine LD.drop rfl rfl ⟨123, _, rfl, rfl, rfl⟩ ?_
                    refine LD.drop rfl rfl ⟨123, _, rfl, rfl, rfl⟩ ?_
                    refine LD.drop rfl rfl ⟨123, _, rfl, rfl, rfl⟩ ?_
                    refine LD.drop rfl rfl ⟨123, _, rfl, rfl, rfl⟩ ?_
                    refine LD.drop rfl rfl ⟨123, _, rfl, rfl, rfl⟩ ?_
                    refine LD.drop rfl rfl ⟨123, _, rfl, rfl, rfl⟩ ?_
                    refine LD.drop rfl rfl ⟨123, _, rfl, rfl, rfl⟩ ?_
                    refine LD.val rfl rfl (ov_pickF rfl rfl) ?_
                    refine LD.nil ?_
                    refine QM.sub (e' := [(3, _), (6, _), (16, _), (18, _), (131, _)]) ⟨rfl, rfl, rfl, rfl, rfl, trivial⟩ ?_
                    refine QM.then ?_
                    refine wpM.condF rfl ?_
                    refine wpM.exit ?_
                    refine QM.then_exit ?_
                    refine QM.then_exit ?_
                    refine QM.block_hit ?_
                    refine QM.then ?_
                    refine wpM.seq ?_
                    refine wpM.region ?_
                    first | refine LM.rd (om_ld Try.isAgg3 rfl rfl) ?_
                    first | refine LM.rd (om_ld Try.isAgg61 rfl rfl) ?_
                    refine LM.val (ov_len Try.underlying61 rfl) ?_
                    refine LM.val (ov_geq rfl rfl) ?_
                    refine LM.st Try.sizeOf4 rfl rfl rfl (by first | decide | exact Nat.le_of_ble_eq_true rfl | (simp; done) | (simp; omega)) rfl (fun hlt => absurd hlt (by omega)) ?_
                    refine LM.nil ?_
                    refine QM.sub (e' := [(6, _)]) ⟨rfl, trivial⟩ ?_
                    refine QM.then ?_
                    refine wpM.ret ?_
                    refine QM.leaveCDF (ds := [D0]) Try.results10 rfl (fun D h => by simp only [List.mem_cons, List.not_mem_nil, or_false] at h; omega) Try.isAgg4 rfl ?_
                    intro w' hm' hc'
                    -- leaf 8: h1- h2- h3- h4- h5- h6- h7- h14-
                    first | exact ⟨rfl, hc'⟩ | (refine ⟨?_, hc'⟩; show Value.bool (decide ((n : Int) ≤ (a : Nat))) = _; rw [decide_eq_true (by omega)]; done) | (exfalso; first | exact h3 rfl | exact h4 rfl | (simp at h5; done) | (rw [lonI_pos] at h6; simp at h6; done) | exact h7 (lonI_max _).symm)
                ·
                  rintro ⟨⟩ D0 hD0 hx
                  skip
                  refine QM.block_ret ?_
                  refine QM.then_ret ?_
                  refine QM.leaveCDF (ds := [D0]) Try.results10 rfl (fun D h => by simp only [List.mem_cons, List.not_mem_nil, or_false] at h; omega) Try.isAgg4 rfl ?_
                  intro w' hm' hc'
                  -- leaf 9: h1- h2- h3- h4- h5- h6- h7- h14-
                  first | exact ⟨rfl, hc'⟩ | (refine ⟨?_, hc'⟩; show Value.bool (decide ((n : Int) ≤ (a : Nat))) = _; rw [decide_eq_true (by omega)]; done) | (exfalso; first | exact h3 rfl | exact h4 rfl | (simp at h5; done) | (rw [lonI_pos] at h6; simp at h6; done) | exact h7 (lonI_max _).symm)
                ·
                  rintro id ⟨⟩ D0 hD0 hx
                  cases hx

end Go.Eng

