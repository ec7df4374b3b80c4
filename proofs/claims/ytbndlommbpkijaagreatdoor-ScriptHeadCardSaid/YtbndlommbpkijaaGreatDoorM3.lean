/- The walks of the parser of programs. No condition. -/
import Derived.Test.YtbndlommbpkijaaGreatDoorM2
set_option linter.unusedVariables false
set_option linter.unusedSimpArgs false
namespace Go.Eng
open Go Go.Proofs Go.RowKit
theorem op_need {ws : List Wrd} {i ahead : Nat} (h1 : kindR ws i ≠ 0) (h2 : ahead < 12) : opR ws i ahead = ((needE ws (opB ws i).1 (opB ws i).2.1 3 [59]).1, (needE ws (opB ws i).1 (opB ws i).2.1 3 [59]).2, ⟨kindR ws i, (opA ws i).2.2, (opB ws i).2.2⟩) := by
  unfold opR needE; rw [if_neg h1, if_neg (by omega), isE_eq]
  by_cases h : (opB ws i).2.1 = 0
  · rw [if_neg (by simp [h]), decide_eq_true h, Bool.true_and]
    split
    · rw [h]
    · rfl
  · rw [if_pos h, decide_eq_false h, Bool.false_and, if_neg (by simp), if_neg h]
theorem op_a {ws : List Wrd} {i ahead : Nat} (h1 : kindR ws i = 0) : opR ws i ahead = (i, 5, ⟨0, 0, 0⟩) := by unfold opR; rw [if_pos h1]
theorem op_b {ws : List Wrd} {i ahead : Nat} (h1 : kindR ws i ≠ 0) (h2 : 12 ≤ ahead) : opR ws i ahead = (i, 6, ⟨0, 0, 0⟩) := by unfold opR; rw [if_neg h1, if_pos h2]
set_option maxRecDepth 100000 in
set_option maxHeartbeats 1000000 in
theorem op_spec {ws : List Wrd} (b : Nat) {ad : Option Addr} {n cap : Nat} (i ahead : Nat) (w : World) (hn : n = ws.length) (hx : ws.length ≤ 1000000000) (hl : Sr fW 4 ws (.slice ad n cap) w) (hab : 0 < ws.length → adB ad ≠ b) (hM : Mem w [rB b ad n cap i 0]) : Ret Tryz.prog 127 #[.pointer (some ⟨b, 0, none⟩), .int .i64 (ahead : Nat)] w (WrP b (.agg (fO (opR ws i ahead).2.2).toArray) (rO ad n cap (opR ws i ahead).1 (opR ws i ahead).2.1) w) := by
 refine Ret.enterM (l := [.pointer (some ⟨b, 0, none⟩), .int .i64 (ahead : Nat)]) Tryz.func127 rfl Tryz.ntmps127 rfl ([rB b ad n cap i 0]) ((fun x => x = b)) hM ?_
 refine wpM.seq (wpM.region ?_)
 refine LM.alloc Tryz.zeroValue135 rfl (fun b4 hb4 => ?_)
 refine LM.nil (QM.sub (e' := [(0, _), (1, _), (4, _)]) ⟨rfl, rfl, rfl, trivial⟩ (QM.then (wpM.seq (wpM.region ?_))))
 refine LM.as rfl ?_
 refine LM.nil (QM.sub (e' := [(0, _), (1, _), (4, _), (5, _)]) ⟨rfl, rfl, rfl, rfl, trivial⟩ (QM.then ?_))
 refine wpM.seq ?_
 refine wpM.seq ?_
 refine wpM.joinK (α := Bool) (fun q => [(32, .bool q)]) [(0, _), (1, _), (4, _), (5, _)] (fun q => rB b ad n cap i 0 :: (b4, .cells #[.int .i64 0, .int .i64 0, .int .i64 0] 135 (0, 0)) :: []) (fun q => q = (decide (i < ws.length) && decide ((ws.getD i default).k = 1))) ⟨rfl, rfl, rfl, rfl, trivial⟩ ?_ ?_
 ·
  refine wpM.draw [(0, 0), (1, 0), (2, 0), (3, 1), (4, 0), (5, 0), (6, 0), (7, 1), (8, 0), (9, 0), (10, 0), (11, 0), (12, 0), (13, 0), (14, 1), (15, 0), (16, 0), (17, 0), (18, 1), (19, 0), (20, 0), (21, 1), (22, 0), (23, 0)] (by kernel_rfl) (by kernel_rfl) ?_
  refine LD.val rfl rfl (ov_move rfl) ?_
  refine LD.val rfl rfl (ov_nilCheck rfl) ?_
  refine LD.val rfl rfl (ov_field Tryz.underlying181 rfl Tryz.sizeOf3 rfl (k := 1) rfl rfl) ?_
  refine LD.rd rfl rfl (om_ld Tryz.isAgg3 rfl rfl) ?_
  refine LD.val rfl rfl (ov_move rfl) ?_
  refine LD.val rfl rfl (ov_nilCheck rfl) ?_
  refine LD.val rfl rfl (ov_field Tryz.underlying181 rfl Tryz.sizeOf23 rfl (k := 0) rfl rfl) ?_
  refine LD.rd rfl rfl (om_ld Tryz.isAgg23 rfl rfl) ?_
  refine LD.val rfl rfl (ov_len Tryz.underlying23 rfl) ?_
  refine LD.val rfl rfl (ov_lss rfl rfl) ?_
  refine LD.val rfl rfl (ov_move rfl) ?_
  refine LD.splitD (t := 19) rfl (fun h1 => ?_) (fun h1 => ?_)
  ·
   refine LD.val rfl ⟨19, _, rfl, rfl, rfl⟩ (ov_move rfl) ?_
   refine LD.val rfl ⟨19, _, rfl, rfl, rfl⟩ (ov_nilCheck rfl) ?_
   refine LD.val rfl ⟨19, _, rfl, rfl, rfl⟩ (ov_field Tryz.underlying181 rfl Tryz.sizeOf23 rfl (k := 0) rfl rfl) ?_
   refine LD.rd rfl ⟨19, _, rfl, rfl, rfl⟩ (om_ld Tryz.isAgg23 rfl rfl) ?_
   refine LD.val rfl ⟨19, _, rfl, rfl, rfl⟩ (ov_move rfl) ?_
   refine LD.val rfl ⟨19, _, rfl, rfl, rfl⟩ (ov_nilCheck rfl) ?_
   refine LD.val rfl ⟨19, _, rfl, rfl, rfl⟩ (ov_field Tryz.underlying181 rfl Tryz.sizeOf3 rfl (k := 1) rfl rfl) ?_
   refine LD.rd rfl ⟨19, _, rfl, rfl, rfl⟩ (om_ld Tryz.isAgg3 rfl rfl) ?_
   refine LD.val rfl ⟨19, _, rfl, rfl, rfl⟩ (ov_idxSN au6 Tryz.underlying23 Tryz.sizeOf65 rfl rfl (by omega)) ?_
   refine LD.val rfl ⟨19, _, rfl, rfl, rfl⟩ (ov_field Tryz.underlying65 rfl Tryz.sizeOf3 rfl (k := 0) rfl rfl) ?_
   first | refine LD.rd rfl ⟨19, _, rfl, rfl, rfl⟩ (om_slE (j := 0) (by assumption) (by intro _; rfl) Tryz.isAgg3 rfl rfl au3 rfl (by rfl)) ?_ | refine LD.rdC rfl ⟨19, _, rfl, rfl, rfl⟩ (om_srE (j := 0) (by assumption) Tryz.isAgg3 rfl rfl au3 (by rfl) (by rfl) (by exact hab (by omega))) ?_ | refine LD.rd rfl ⟨19, _, rfl, rfl, rfl⟩ (om_ld Tryz.isAgg3 rfl rfl) ?_
   refine LD.val rfl ⟨19, _, rfl, rfl, rfl⟩ (ov_eql rfl rfl) ?_
   refine LD.val rfl rfl (ov_pickT rfl rfl) ?_
   refine LD.nil ?_
   refine QM.sub (e' := [(0, _), (1, _), (4, _), (5, _), (32, _)]) ⟨rfl, rfl, rfl, rfl, rfl, trivial⟩ ?_
   refine QM.meetK (_) ⟨au2, rfl, rfl, rfl, rfl, trivial⟩ au1 ?_
   · (rw [decide_eq_true (show i < ws.length by omega)]; rfl)
  refine LD.drop rfl rfl ⟨19, _, rfl, rfl, rfl⟩ ?_
  refine LD.drop rfl rfl ⟨19, _, rfl, rfl, rfl⟩ ?_
  refine LD.drop rfl rfl ⟨19, _, rfl, rfl, rfl⟩ ?_
  refine LD.drop rfl rfl ⟨19, _, rfl, rfl, rfl⟩ ?_
  refine LD.drop rfl rfl ⟨19, _, rfl, rfl, rfl⟩ ?_
  refine LD.drop rfl rfl ⟨19, _, rfl, rfl, rfl⟩ ?_
  refine LD.drop rfl rfl ⟨19, _, rfl, rfl, rfl⟩ ?_
  refine LD.drop rfl rfl ⟨19, _, rfl, rfl, rfl⟩ ?_
  refine LD.drop rfl rfl ⟨19, _, rfl, rfl, rfl⟩ ?_
  refine LD.drop rfl rfl ⟨19, _, rfl, rfl, rfl⟩ ?_
  refine LD.drop rfl rfl ⟨19, _, rfl, rfl, rfl⟩ ?_
  refine LD.drop rfl rfl ⟨19, _, rfl, rfl, rfl⟩ ?_
  refine LD.val rfl rfl (ov_pickF rfl rfl) ?_
  refine LD.nil ?_
  refine QM.sub (e' := [(0, _), (1, _), (4, _), (5, _), (32, _)]) ⟨rfl, rfl, rfl, rfl, rfl, trivial⟩ ?_
  refine QM.meetK (_) ⟨au2, rfl, rfl, rfl, rfl, trivial⟩ au1 ?_
  · first | (rw [decide_eq_true (show i < ws.length by omega)]; rfl) | (rw [decide_eq_false (show ¬ i < ws.length by omega)]; rfl)
 rintro q hq
 change QM _ _ _ _ _ (rB b ad n cap i 0 :: (b4, .cells #[.int .i64 0, .int .i64 0, .int .i64 0] 135 (0, 0)) :: []) _ _ _
 refine QM.then ?_
 refine wpM.joinK (α := Int) (fun kd => [(5, .int .i64 kd)]) [(0, _), (1, _), (4, _)] (fun kd => rB b ad n cap i 0 :: (b4, .cells #[.int .i64 0, .int .i64 0, .int .i64 0] 135 (0, 0)) :: []) (fun kd => kd = kindR ws i) ⟨rfl, rfl, rfl, trivial⟩ ?_ ?_
 ·
  first | refine wpM.condD rfl (fun h2 => ?_) (fun h2 => ?_) | refine wpM.condB rfl (fun h2 => ?_) (fun h2 => ?_)
  ·
   have hlt : i < ws.length := (by rw [h2] at hq; simp only [Bool.true_eq, Bool.and_eq_true, decide_eq_true_eq] at hq; exact hq.1)
   refine wpM.draw [(1, 0), (2, 0), (3, 0), (4, 1), (5, 0), (6, 0), (7, 0), (8, 1), (9, 0), (10, 0), (11, 1), (0, 2), (12, 2), (13, 0), (14, 0)] (by kernel_rfl) (by kernel_rfl) ?_
   refine LD.val rfl rfl (ov_move rfl) ?_
   refine LD.val rfl rfl (ov_nilCheck rfl) ?_
   refine LD.val rfl rfl (ov_field Tryz.underlying181 rfl Tryz.sizeOf23 rfl (k := 0) rfl rfl) ?_
   refine LD.rd rfl rfl (om_ld Tryz.isAgg23 rfl rfl) ?_
   refine LD.val rfl rfl (ov_move rfl) ?_
   refine LD.val rfl rfl (ov_nilCheck rfl) ?_
   refine LD.val rfl rfl (ov_field Tryz.underlying181 rfl Tryz.sizeOf3 rfl (k := 1) rfl rfl) ?_
   refine LD.rd rfl rfl (om_ld Tryz.isAgg3 rfl rfl) ?_
   refine LD.val rfl rfl (ov_idxSN au6 Tryz.underlying23 Tryz.sizeOf65 rfl rfl (by omega)) ?_
   refine LD.val rfl rfl (ov_field Tryz.underlying65 rfl Tryz.sizeOf9 rfl (k := 1) rfl rfl) ?_
   first | refine LD.rd rfl rfl (om_slE (j := 1) (by assumption) (by intro _; rfl) Tryz.isAgg9 rfl rfl au3 rfl (by rfl)) ?_ | refine LD.rdC rfl rfl (om_srE (j := 1) (by assumption) Tryz.isAgg9 rfl rfl au3 (by rfl) (by rfl) (by exact hab (by omega))) ?_ | refine LD.rd rfl rfl (om_ld Tryz.isAgg9 rfl rfl) ?_
   refine LD.cS rfl rfl (oc_call (enters_fn Tryz.func141 (by kernel_rfl) rfl) rfl) (fun w hm hc hg => names_spec w) (fun ad33 n33 cap33 m33 hn33 hs33 => ?_)
   refine LD.callE rfl rfl (oc_call (enters_fn Tryz.func146 (by kernel_rfl) rfl) rfl) (fun w hm hc hg => index_str (ws.getD i default).t w hn33 (hs33.srM (fun _ => rfl) hm) (by decide)) ?_
   refine LD.val rfl rfl (ov_max rfl rfl) ?_
   refine LD.val rfl rfl (ov_assign rfl) ?_
   refine LD.nil ?_
   refine QM.sub (e' := [(0, _), (1, _), (4, _), (5, _)]) ⟨rfl, rfl, rfl, rfl, trivial⟩ ?_
   refine QM.meetK (_) ⟨au2, rfl, rfl, rfl, trivial⟩ au1 ?_
   · show mx0 (fixI _ nmW) = kindR ws i; unfold kindR; rw [if_pos (by rw [← hq]; exact h2)]; rfl
  refine wpM.skip ?_
  refine QM.meetK (_) ⟨au2, rfl, rfl, rfl, trivial⟩ au1 ?_
  · unfold kindR; rw [if_neg (by rw [← hq, h2]; simp)]
 rintro kd rfl
 change QM _ _ _ _ _ (rB b ad n cap i 0 :: (b4, .cells #[.int .i64 0, .int .i64 0, .int .i64 0] 135 (0, 0)) :: []) _ _ _
 have hkr := kindR_rng ws i
 refine QM.then ?_
 refine wpM.seq ?_
 refine wpM.block ?_
 refine wpM.seq (wpM.region ?_)
 refine LM.mv rfl ?_
 refine LM.val (ov_eql rfl rfl) ?_
 refine LM.as rfl ?_
 refine LM.nil (QM.sub (e' := [(0, _), (1, _), (4, _), (5, _), (47, _)]) ⟨rfl, rfl, rfl, rfl, rfl, trivial⟩ (QM.then ?_))
 refine wpM.condD rfl (fun h3 => ?_) (fun h3 => ?_)
 ·
  refine wpM.seq (wpM.region ?_)
  refine LM.mv rfl ?_
  refine LM.cW (oc_call (enters_fn Tryz.func128 (by kernel_rfl) rfl) rfl) (fun w hm hc hg => fail_spec b (ad := ad) (n := n) (cap := cap) i 0 _ w (SubM.mem au1 w hm)) rfl (fun hlt => by first | exact rfl | exact absurd hlt (by omega)) ?_
  refine LM.nil (QM.sub (e' := [(4, _)]) ⟨rfl, trivial⟩ (QM.then (wpM.seq (wpM.region ?_))))
  refine LM.val (ov_build (cs := #[_, _, _]) rfl (by first | rfl | kernel_rfl)) ?_
  refine LM.stW Tryz.sizeOf135 rfl rfl rfl rfl au7 (fun hlt => by first | exact rfl | exact absurd hlt (by omega)) ?_
  refine LM.nil (QM.sub (e' := [(4, _)]) ⟨rfl, trivial⟩ (QM.then ?_))
  refine wpM.ret ?_
  refine QM.block_ret ?_
  refine QM.then_ret ?_
  refine QM.leaveCs (ds := ([])) (.inl rfl) [.cell 4 135] Tryz.results127 hd_nil (rc_w rfl Tryz.isAgg135 Tryz.sizeOf135 rfl rc_nil) ?_
  intro w' hm' hc'
  rw [op_a h3]; exact ⟨rfl, hc', hm'.at b⟩
 have hlt2 := kindR_lt h3
 refine wpM.seq (wpM.region ?_)
 refine LM.mv rfl ?_
 refine LM.val (ov_geq rfl rfl) ?_
 refine LM.as rfl ?_
 refine LM.nil (QM.sub (e' := [(0, _), (4, _), (5, _), (53, _)]) ⟨rfl, rfl, rfl, rfl, trivial⟩ (QM.then ?_))
 refine wpM.condD rfl (fun h4 => ?_) (fun h4 => ?_)
 ·
  refine wpM.seq (wpM.region ?_)
  refine LM.mv rfl ?_
  refine LM.cW (oc_call (enters_fn Tryz.func128 (by kernel_rfl) rfl) rfl) (fun w hm hc hg => fail_spec b (ad := ad) (n := n) (cap := cap) i 0 _ w (SubM.mem au1 w hm)) rfl (fun hlt => by first | exact rfl | exact absurd hlt (by omega)) ?_
  refine LM.nil (QM.sub (e' := [(4, _)]) ⟨rfl, trivial⟩ (QM.then (wpM.seq (wpM.region ?_))))
  refine LM.val (ov_build (cs := #[_, _, _]) rfl (by first | rfl | kernel_rfl)) ?_
  refine LM.stW Tryz.sizeOf135 rfl rfl rfl rfl au7 (fun hlt => by first | exact rfl | exact absurd hlt (by omega)) ?_
  refine LM.nil (QM.sub (e' := [(4, _)]) ⟨rfl, trivial⟩ (QM.then ?_))
  refine wpM.ret ?_
  refine QM.block_ret ?_
  refine QM.then_ret ?_
  refine QM.leaveCs (ds := ([])) (.inl rfl) [.cell 4 135] Tryz.results127 hd_nil (rc_w rfl Tryz.isAgg135 Tryz.sizeOf135 rfl rc_nil) ?_
  intro w' hm' hc'
  rw [op_b h3 (by omega)]; exact ⟨rfl, hc', hm'.at b⟩
 refine wpM.skip ?_
 refine QM.block_normal ?_
 refine QM.then (wpM.seq (wpM.region ?_))
 refine LM.mv rfl ?_
 refine LM.val (ov_nilCheck rfl) ?_
 refine LM.val (ov_field Tryz.underlying181 rfl Tryz.sizeOf3 rfl (k := 1) rfl rfl) ?_
 refine LM.rd (om_ld Tryz.isAgg3 rfl rfl) ?_
 refine LM.val (ov_add64 rfl rfl (by omega)) ?_
 refine LM.val (ov_nilCheck rfl) ?_
 refine LM.val (ov_field Tryz.underlying181 rfl Tryz.sizeOf3 rfl (k := 1) rfl rfl) ?_
 refine LM.st Tryz.sizeOf3 rfl rfl rfl au5 rfl (fun hlt => by first | exact rfl | exact absurd hlt (by omega)) ?_
 refine LM.nil (QM.sub (e' := [(0, _), (4, _), (5, _)]) ⟨rfl, rfl, rfl, trivial⟩ (QM.then (wpM.seq (wpM.region ?_))))
 refine LM.mv rfl ?_
 refine LM.callE (oc_call (enters_fn Tryz.func106 (by kernel_rfl) rfl) rfl) (fun w hm hc hg => spans_spec (kindR ws i) w) ?_
 refine LM.mv rfl ?_
 refine LM.val (ov_extract rfl rfl) ?_
 refine LM.val (ov_extract rfl rfl) ?_
 refine LM.alloc Tryz.zeroValue159 rfl (fun b6 hb6 => ?_)
 refine LM.alloc Tryz.zeroValue159 rfl (fun b7 hb7 => ?_)
 refine LM.stW Tryz.sizeOf159 rfl rfl rfl rfl au7 (fun hlt => by first | exact rfl | exact absurd hlt (by omega)) ?_
 refine LM.stW Tryz.sizeOf159 rfl rfl rfl rfl au7 (fun hlt => by first | exact rfl | exact absurd hlt (by omega)) ?_
 refine LM.nil (QM.sub (e' := [(0, _), (4, _), (5, _), (6, _), (7, _)]) ⟨rfl, rfl, rfl, rfl, rfl, trivial⟩ (QM.then (wpM.seq (wpM.region ?_))))
 refine LM.mv rfl ?_
 refine LM.mv rfl ?_
 refine LM.rd (om_ldW Tryz.isAgg159 Tryz.sizeOf159 rfl rfl) ?_
 refine LM.cW (oc_call (enters_fn Tryz.func149 (by kernel_rfl) rfl) rfl) (fun w hm hc hg => number_spec b (i + 1) 0 (loA (kindR ws i)) (hiA (kindR ws i)) w hn hx (hl.kp hc hab) hab (SubM.mem au1 w hm)) rfl (fun hlt => by first | exact rfl | exact absurd hlt (by omega)) ?_
 refine LM.val (ov_build (cs := #[_, _, _]) rfl (by first | rfl | kernel_rfl)) ?_
 refine LM.alloc Tryz.zeroValue135 rfl (fun b8 hb8 => ?_)
 refine LM.stW Tryz.sizeOf135 rfl rfl rfl rfl au7 (fun hlt => by first | exact rfl | exact absurd hlt (by omega)) ?_
 refine LM.nil (QM.sub (e' := [(0, _), (4, _), (7, _), (8, _)]) ⟨rfl, rfl, rfl, rfl, trivial⟩ (QM.then (wpM.seq (wpM.region ?_))))
 refine LM.mv rfl ?_
 refine LM.rd (om_ldW Tryz.isAgg159 Tryz.sizeOf159 rfl rfl) ?_
 refine LM.cW (oc_call (enters_fn Tryz.func149 (by kernel_rfl) rfl) rfl) (fun w hm hc hg => number_spec b (opA ws i).1 (opA ws i).2.1 (loB (kindR ws i)) (hiB (kindR ws i)) w hn hx (hl.kp hc hab) hab (SubM.mem au1 w hm)) rfl (fun hlt => by first | exact rfl | exact absurd hlt (by omega)) ?_
 refine LM.val (ov_field Tryz.underlying135 rfl Tryz.sizeOf3 rfl (k := 2) rfl rfl) ?_
 refine LM.st Tryz.sizeOf3 rfl rfl rfl au5 rfl (fun hlt => by first | exact rfl | exact absurd hlt (by omega)) ?_
 refine LM.nil (QM.sub (e' := [(0, _), (4, _), (8, _)]) ⟨rfl, rfl, rfl, trivial⟩ (QM.then (wpM.seq (wpM.region ?_))))
 refine LM.mv rfl ?_
 refine LM.cW (oc_call (enters_fn Tryz.func124 (by kernel_rfl) rfl) rfl) (fun w hm hc hg => need_spec b (opB ws i).1 (opB ws i).2.1 3 [59] w hn hx (hl.kp hc hab) hab (SubM.mem au1 w hm)) rfl (fun hlt => by first | exact rfl | exact absurd hlt (by omega)) ?_
 refine LM.nil (QM.sub (e' := [(4, _), (8, _)]) ⟨rfl, rfl, trivial⟩ (QM.then (wpM.seq (wpM.region ?_))))
 refine LM.rd (om_ldW Tryz.isAgg135 Tryz.sizeOf135 rfl rfl) ?_
 refine LM.stW Tryz.sizeOf135 rfl rfl rfl rfl au7 (fun hlt => by first | exact rfl | exact absurd hlt (by omega)) ?_
 refine LM.nil (QM.sub (e' := [(4, _)]) ⟨rfl, trivial⟩ (QM.then ?_))
 refine wpM.ret ?_
 refine QM.leaveCs (ds := ([])) (.inl rfl) [.cell 4 135] Tryz.results127 hd_nil (rc_w rfl Tryz.isAgg135 Tryz.sizeOf135 rfl rc_nil) ?_
 intro w' hm' hc'
 rw [op_need h3 (by omega)]; exact ⟨rfl, hc', hm'.at b⟩
end Go.Eng
namespace Go.Eng
open Go Go.Proofs Go.RowKit
theorem Sr.adlt {α : Type} {f : α → List Value} {s : Nat} {xs : List α} {ad : Option Addr} {n cap : Nat} {w : World} (h : Sr f s xs (.slice ad n cap) w) (h0 : 0 < xs.length) : adB ad < w.heap.size := by
  obtain ⟨rfl, _, h3⟩ := h.open
  obtain ⟨b, off, cs, E, fz, rfl, hb, _⟩ := h3 h0
  exact (Array.getElem?_eq_some_iff.1 hb).1
def ParT (r : Bool × List COp × Int × Int) (n0 : Nat) (v : Value) (m : Mem0) : Prop := ∃ ad n cap, v = .tuple #[.agg #[.bool r.1, .slice ad n cap], .int .i64 r.2.2.1, .int .i64 r.2.2.2] ∧ n = r.2.1.length ∧ Sl fO 135 3 n0 r.2.1 (.slice ad n cap) m
theorem ParT.mono {r : Bool × List COp × Int × Int} : ∀ (k k' : Nat) u m, k' ≤ k → ParT r k u m → ParT r k' u m := fun k k' u m h ⟨ad, n, cap, h1, h2, h3⟩ => ⟨ad, n, cap, h1, h2, h3.mono h⟩
def pA (ws : List Wrd) (i : Nat) : Nat × Int := needE ws i 0 1 wProg
def pFv (ws : List Wrd) (i : Nat) : Bool := isE ws (pA ws i).1 (pA ws i).2 1 wForever
def pB1 (ws : List Wrd) (i : Nat) : Nat := mayE ws (pA ws i).1 (pA ws i).2 1 wForever
def pC (ws : List Wrd) (i : Nat) : Nat × Int := needE ws (pB1 ws i) (pA ws i).2 3 [123]
def StI (ws : List Wrd) (R : List COp × Int × Int) (i : Nat) (e : Int) (ops : List COp) : Prop := (e = 0 → loopR ws i ops = R) ∧ (e ≠ 0 → R = ([], (i : Int), e)) ∧ i ≤ ws.length
theorem isE_0 {ws : List Wrd} {i : Nat} {k : Int} {t : List UInt8} : isE ws i 0 k t = isR ws i k t := by rw [isE_eq]; rfl
theorem isE_bad {ws : List Wrd} {i : Nat} {e k : Int} {t : List UInt8} (h : e ≠ 0) : isE ws i e k t = false := by rw [isE_eq, decide_eq_false h]; rfl
theorem start_inv {ws : List Wrd} {i : Nat} (hi : i ≤ ws.length) : StI ws (bodyR ws i) (pC ws i).1 (pC ws i).2 [] ∧ ((bodyR ws i).2.2 = 0 → pFv ws i = (headR ws i).1) := by
  unfold StI bodyR
  cases h1 : isR ws i 1 wProg with
  | false =>
    have a : pA ws i = (i, 5) := by unfold pA needE; rw [isE_0, h1, if_neg (by simp), if_pos rfl]
    have b : pB1 ws i = i := by unfold pB1 mayE; rw [a, isE_bad (by simp), if_neg (by simp)]
    have c : pC ws i = (i, 5) := by unfold pC needE; rw [a, b, isE_bad (by simp), if_neg (by simp), if_neg (by simp)]
    rw [c]; simp [hi]
  | true =>
    have hlt := isR_lt h1
    have a : pA ws i = (i + 1, 0) := by unfold pA needE; rw [isE_0, h1, if_pos rfl]
    have f : pFv ws i = (headR ws i).1 := by unfold pFv; rw [a, isE_0]; rfl
    have b : pB1 ws i = (headR ws i).2 := by unfold pB1 mayE headR; rw [a, isE_0]
    have hb : (headR ws i).2 ≤ ws.length := by
      unfold headR; simp only; split
      · rename_i q; have := isR_lt q; omega
      · omega
    rw [if_pos rfl]
    cases h2 : isR ws (headR ws i).2 3 [123] with
    | false =>
      have c : pC ws i = ((headR ws i).2, 5) := by unfold pC needE; rw [a, b, isE_0, h2, if_neg (by simp), if_pos rfl]
      rw [c]; simp [hb]
    | true =>
      have hlt2 := isR_lt h2
      have c : pC ws i = ((headR ws i).2 + 1, 0) := by unfold pC needE; rw [a, b, isE_0, h2, if_pos rfl]
      rw [c, if_pos rfl]; exact ⟨⟨fun _ => rfl, fun h => absurd rfl h, hlt2⟩, fun _ => f⟩
def measP (L i : Nat) (e : Int) : Nat := if e = 0 then L - i + 1 else 0
theorem meas_lt {ws : List Wrd} {i k : Nat} (hi : i ≤ ws.length) : measP ws.length (opR ws i k).1 (opR ws i k).2.1 < measP ws.length i 0 := by
  unfold measP
  rw [if_pos rfl]
  split
  · rename_i h; have := opR_lt h; omega
  · omega
theorem opR_pos {ws : List Wrd} {i k : Nat} (hi : i ≤ ws.length) : (opR ws i k).1 ≤ ws.length := by
  by_cases h1 : kindR ws i = 0
  · rw [op_a h1]; exact hi
  · by_cases h2 : 12 ≤ k
    · rw [op_b h1 h2]; exact hi
    · rw [op_need h1 (by omega)]
      have h3 := opB_le h1
      unfold needE; split
      · rename_i q; have := (isE_lt q).1; simp only; omega
      · split <;> simp only <;> omega
theorem StI.next {ws : List Wrd} {R : List COp × Int × Int} {i : Nat} {ops : List COp} (h : StI ws R i 0 ops) (hn : isR ws i 3 [125] = false) : StI ws R (opR ws i ops.length).1 (opR ws i ops.length).2.1 (ops ++ [(opR ws i ops.length).2.2]) := by
  obtain ⟨h1, _, h3⟩ := h
  have h1 := h1 rfl
  refine ⟨fun q => ?_, fun q => ?_, opR_pos h3⟩
  · rw [← loopR_next hn q]; exact h1
  · rw [← h1, loopR_bad hn q]
theorem parse_nat {ws : List Wrd} {i : Nat} (hi : i ≤ ws.length) : parseO ws (i : Int) = (decide ((bodyR ws i).2.2 = 0) && (headR ws i).1, bodyR ws i) := by
  unfold parseO; rw [if_neg (by omega), Int.toNat_natCast]
theorem fin_bad {ws : List Wrd} {i0 : Nat} {i e : Int} {n0 : Nat} (hi : i0 ≤ ws.length) (h : bodyR ws i0 = ([], i, e)) (he : e ≠ 0) : ParT (parseO ws (i0 : Int)) n0 (.tuple #[.agg #[.bool false, .slice none 0 0], .int .i64 i, .int .i64 e]) [] := by
  rw [parse_nat hi, h, decide_eq_false he]; exact ⟨none, 0, 0, rfl, rfl, .nil _ _ _ _⟩
theorem fin_ok {ws : List Wrd} {i0 : Nat} {i : Int} {n0 : Nat} {ops : List COp} {ad : Option Addr} {n cap : Nat} {m : Mem0} (hi : i0 ≤ ws.length) (h : bodyR ws i0 = (ops, i, 0)) (hn : n = ops.length) (hs : Sl fO 135 3 n0 ops (.slice ad n cap) m) : ParT (parseO ws (i0 : Int)) n0 (.tuple #[.agg #[.bool (pFv ws i0), .slice ad n cap], .int .i64 i, .int .i64 0]) m := by
  have hf := (start_inv hi).2 (by rw [h])
  rw [parse_nat hi, h, hf]; exact ⟨ad, n, cap, rfl, hn, hs⟩
set_option maxRecDepth 100000 in
set_option maxHeartbeats 2000000 in
theorem parse_spec {ws : List Wrd} {ad : Option Addr} {n cap : Nat} (p : Int) (w : World) (hn : n = ws.length) (hx : ws.length ≤ 1000000000) (hl : Sr fW 4 ws (.slice ad n cap) w) : Ret Tryz.prog 85 #[.slice ad n cap, .int .i64 p] w (fun v w' => Ext w w' ∧ ∃ m, ParT (parseO ws p) w.heap.size v m ∧ Mem w' m ∧ ∀ p ∈ m, w.heap.size ≤ p.1) := by
 refine Ret.enterM (l := [.slice ad n cap, .int .i64 p]) Tryz.func85 rfl Tryz.ntmps85 rfl ([]) (no) (Mem.nil w) ?_
 refine wpM.seq (wpM.region ?_)
 refine LM.alloc Tryz.zeroValue87 rfl (fun b4 hb4 => ?_)
 refine LM.as rfl ?_
 refine LM.as rfl ?_
 refine LM.nil (QM.sub (e' := [(0, _), (1, _), (4, _)]) ⟨rfl, rfl, rfl, trivial⟩ (QM.then ?_))
 refine wpM.seq ?_
 refine wpM.seq (wpM.region ?_)
 refine LM.mv rfl ?_
 refine LM.val (ov_lss rfl rfl) ?_
 refine LM.mv rfl ?_
 refine LM.splitD (t := 11) rfl (fun h1 => ?_) (fun h1 => ?_)
 ·
  refine LM.dr 11 rfl rfl rfl ?_
  refine LM.dr 11 rfl rfl rfl ?_
  refine LM.dr 11 rfl rfl rfl ?_
  refine LM.dr 11 rfl rfl rfl ?_
  refine LM.val (ov_pickT rfl rfl) ?_
  refine LM.nil (QM.sub (e' := [(0, _), (1, _), (4, _), (16, _)]) ⟨rfl, rfl, rfl, rfl, trivial⟩ (QM.then ?_))
  refine wpM.condT rfl ?_
  refine wpM.seq (wpM.region ?_)
  refine LM.val (ov_build (cs := #[_, _]) rfl (by first | rfl | kernel_rfl)) ?_
  refine LM.stW Tryz.sizeOf87 rfl rfl rfl rfl au7 au8 ?_
  refine LM.as rfl ?_
  refine LM.as rfl ?_
  refine LM.nil (QM.sub (e' := [(4, _), (5, _), (6, _)]) ⟨rfl, rfl, rfl, trivial⟩ (QM.then ?_))
  refine wpM.ret ?_
  refine QM.then_ret ?_
  refine QM.leaveCs (ds := ([])) (.inl rfl) [.cell 4 87, .tmp 5, .tmp 6] Tryz.results85 hd_nil (rc_w rfl Tryz.isAgg87 Tryz.sizeOf87 rfl (rc_tmp rfl (rc_tmp rfl rc_nil))) ?_
  intro w' hm' hc'
  have hpar : parseO ws p = (false, [], 0, 5) := (by unfold parseO; rw [if_pos (by omega)]); rw [hpar]; exact ⟨hc', [], ⟨none, 0, 0, rfl, rfl, .nil _ _ _ _⟩, Mem.nil _, fun p hp => by cases hp⟩
 refine LM.sp 11 rfl rfl rfl ?_
 refine LM.mv rfl ?_
 refine LM.sp 11 rfl rfl rfl ?_
 refine LM.mv rfl ?_
 refine LM.sp 11 rfl rfl rfl ?_
 refine LM.val (ov_len Tryz.underlying23 rfl) ?_
 refine LM.sp 11 rfl rfl rfl ?_
 refine LM.val (ov_gtr rfl rfl) ?_
 refine LM.val (ov_pickF rfl rfl) ?_
 refine LM.nil (QM.sub (e' := [(0, _), (1, _), (4, _), (16, _)]) ⟨rfl, rfl, rfl, rfl, trivial⟩ (QM.then ?_))
 refine wpM.condD rfl (fun h2 => ?_) (fun h2 => ?_)
 ·
  refine wpM.seq (wpM.region ?_)
  refine LM.val (ov_build (cs := #[_, _]) rfl (by first | rfl | kernel_rfl)) ?_
  refine LM.stW Tryz.sizeOf87 rfl rfl rfl rfl au7 au8 ?_
  refine LM.as rfl ?_
  refine LM.as rfl ?_
  refine LM.nil (QM.sub (e' := [(4, _), (5, _), (6, _)]) ⟨rfl, rfl, rfl, trivial⟩ (QM.then ?_))
  refine wpM.ret ?_
  refine QM.then_ret ?_
  refine QM.leaveCs (ds := ([])) (.inl rfl) [.cell 4 87, .tmp 5, .tmp 6] Tryz.results85 hd_nil (rc_w rfl Tryz.isAgg87 Tryz.sizeOf87 rfl (rc_tmp rfl (rc_tmp rfl rc_nil))) ?_
  intro w' hm' hc'
  have hpar : parseO ws p = (false, [], 0, 5) := (by unfold parseO; rw [if_pos (by omega)]); rw [hpar]; exact ⟨hc', [], ⟨none, 0, 0, rfl, rfl, .nil _ _ _ _⟩, Mem.nil _, fun p hp => by cases hp⟩
 obtain ⟨i0, rfl⟩ : ∃ i0 : Nat, p = (i0 : Nat) := ⟨p.toNat, by omega⟩; have hi0 : i0 ≤ ws.length := (by omega)
 refine wpM.skip ?_
 refine QM.then (wpM.seq (wpM.region ?_))
 refine LM.mv rfl ?_
 refine LM.mv rfl ?_
 refine LM.val (ov_build (cs := #[_, _, _]) rfl (by first | rfl | kernel_rfl)) ?_
 refine LM.box rfl rfl (fun b21 hb21 => ?_)
 refine LM.as rfl ?_
 refine LM.nil (QM.sub (e' := [(4, _), (7, _)]) ⟨rfl, rfl, trivial⟩ (QM.then (wpM.seq (wpM.region ?_))))
 have hab21 : 0 < ws.length → adB ad ≠ b21 := (fun h0 => by have := hl.adlt h0; omega)
 refine LM.mv rfl ?_
 refine LM.cW (oc_call (enters_fn Tryz.func124 (by kernel_rfl) rfl) rfl) (fun w hm hc hg => need_spec b21 i0 0 1 wProg w hn hx (hl.ext hc) hab21 (SubM.mem au1 w hm)) rfl au8 ?_
 refine LM.nil (QM.sub (e' := [(4, _), (7, _)]) ⟨rfl, rfl, trivial⟩ (QM.then (wpM.seq (wpM.region ?_))))
 refine LM.mv rfl ?_
 refine LM.cW (oc_call (enters_fn Tryz.func125 (by kernel_rfl) rfl) rfl) (fun w hm hc hg => maybe_spec b21 (pA ws i0).1 (pA ws i0).2 1 wForever w hn hx (hl.ext hc) hab21 (SubM.mem au1 w hm)) rfl au8 ?_
 refine LM.val (ov_build (cs := #[_, _]) rfl (by first | rfl | kernel_rfl)) ?_
 refine LM.alloc Tryz.zeroValue87 rfl (fun b8 hb8 => ?_)
 refine LM.stW Tryz.sizeOf87 rfl rfl rfl rfl au7 au8 ?_
 refine LM.nil (QM.sub (e' := [(4, _), (7, _), (8, _)]) ⟨rfl, rfl, rfl, trivial⟩ (QM.then (wpM.seq (wpM.region ?_))))
 refine LM.mv rfl ?_
 refine LM.cW (oc_call (enters_fn Tryz.func124 (by kernel_rfl) rfl) rfl) (fun w hm hc hg => need_spec b21 (pB1 ws i0) (pA ws i0).2 3 [123] w hn hx (hl.ext hc) hab21 (SubM.mem au1 w hm)) rfl au8 ?_
 refine LM.nil (QM.sub (e' := [(4, _), (7, _), (8, _)]) ⟨rfl, rfl, rfl, trivial⟩ (QM.then ?_))
 refine wpM.seq ?_
 refine wpM.block ?_
 refine wpM.loopK0 (α := Nat × Int × List COp × Option Addr × Nat × Nat × Mem0) (fun ⟨i, e, ops, ado, no, capo, mo⟩ => []) [(4, _), (7, _), (8, _)] (fun ⟨i, e, ops, ado, no, capo, mo⟩ => mo ++ ((b8, .cells #[.bool (pFv ws i0), .slice ado no capo] 87 (0, 0)) :: rB b21 ad n cap i e :: (b4, .cells #[.bool false, .slice none 0 0] 87 (0, 0)) :: [])) (fun ⟨i, e, ops, ado, no, capo, mo⟩ => StI ws (bodyR ws i0) i e ops ∧ no = ops.length ∧ Sl fO 135 3 w.heap.size ops (.slice ado no capo) mo ∧ (e = 0 → ops.length ≤ i)) (fun ⟨i, e, ops, ado, no, capo, mo⟩ => measP ws.length i e) (((pC ws i0).1, (pC ws i0).2, [], none, 0, 0, [])) ⟨rfl, rfl, rfl, trivial⟩ au1 ⟨(start_inv (by omega)).1, rfl, .nil _ _ _ _, fun _ => Nat.zero_le _⟩ ?_
 rintro ⟨i, e, ops, ado, no, capo, mo⟩ ⟨hI, hno, hso, hol⟩
 change wpM _ _ _ _ _ _ _ (mo ++ ((b8, .cells #[.bool (pFv ws i0), .slice ado no capo] 87 (0, 0)) :: rB b21 ad n cap i e :: (b4, .cells #[.bool false, .slice none 0 0] 87 (0, 0)) :: [])) _ _ _
 have hile := hI.2.2
 refine wpM.seq ?_
 refine wpM.seq (wpM.region ?_)
 refine LM.mv rfl ?_
 refine LM.val (ov_nilCheck rfl) ?_
 refine LM.val (ov_field Tryz.underlying181 rfl Tryz.sizeOf31 rfl (k := 2) rfl rfl) ?_
 refine LM.rd (om_ld Tryz.isAgg31 rfl rfl) ?_
 refine LM.val (ov_eql rfl rfl) ?_
 refine LM.mv rfl ?_
 refine LM.splitD (t := 34) rfl (fun h3 => ?_) (fun h3 => ?_)
 ·
  refine LM.sp 34 rfl rfl rfl ?_
  refine LM.mv rfl ?_
  refine LM.sp 34 rfl rfl rfl ?_
  refine LM.callE (oc_call (enters_fn Tryz.func126 (by kernel_rfl) rfl) rfl) (fun w hm hc hg => is_spec b21 i e 3 [125] w hn (hl.ext hc) (SubM.mem au1 w hm)) ?_
  refine LM.sp 34 rfl rfl rfl ?_
  first | refine LM.val (ov_notD rfl) ?_ | refine LM.val (ov_not rfl) ?_
  refine LM.val (ov_pickT rfl rfl) ?_
  refine LM.nil (QM.sub (e' := [(4, _), (7, _), (8, _), (38, _)]) ⟨rfl, rfl, rfl, rfl, trivial⟩ (QM.then ?_))
  first | refine wpM.condD rfl (fun h4 => ?_) (fun h4 => ?_) | refine wpM.condB rfl (fun h4 => ?_) (fun h4 => ?_)
  ·
   refine wpM.skip ?_
   refine QM.then ?_
   refine wpM.block ?_
   refine wpM.keep ((b8, .cells #[.bool (pFv ws i0), .slice ado no capo] 87 (0, 0)) :: []) (fun _ => True) (.one 0 0 (.one 1 1 (.one 2 0 (.one 3 0 (.one 4 1 (.one 5 0 (.one 6 2 (.one 7 2 (.one 8 2 (.one 9 0 (.last 10))))))))))) (by kernel_rfl) (by kernel_rfl) au1 (fun _ _ => trivial) ?_
   refine KD.val rfl rfl (ov_field Tryz.underlying87 rfl Tryz.sizeOf85 rfl (k := 1) rfl rfl) ?_
   refine KD.rd rfl rfl (om_ld Tryz.isAgg85 rfl rfl) ?_
   refine KD.val rfl rfl (ov_move rfl) ?_
   refine KD.val rfl rfl (ov_field Tryz.underlying87 rfl Tryz.sizeOf85 rfl (k := 1) rfl rfl) ?_
   refine KD.rd rfl rfl (om_ld Tryz.isAgg85 rfl rfl) ?_
   refine KD.val rfl rfl (ov_len Tryz.underlying85 rfl) ?_
   refine KD.one rfl ?_
   rw [h3]
   refine LM.cW (oc_call (enters_fn Tryz.func127 (by kernel_rfl) rfl) rfl) (fun w hm hc hg => op_spec b21 i no w hn hx (hl.ext hc) hab21 (SubM.mem au1 w hm)) rfl au8 ?_
   refine LM.nil ?_
   refine QM.one au1 (fun _ _ => trivial) ?_
   refine KD.one rfl ?_
   refine LM.single Tryz.underlying85 Tryz.sizeOf135 Tryz.zeroValue135 rfl rfl rfl rfl rfl (fun b46 hb46 => ?_)
   refine LM.nil ?_
   refine QM.one au1 (fun _ _ => trivial) ?_
   refine KD.one rfl ?_
   refine LM.app (a := (opR ws i no).2.2) Tryz.underlying85 Tryz.typeInfo135 rfl rfl rfl rfl rfl rfl rfl (by assumption) (by rfl) (by intro _; rfl) (by intro _ u hu; simp [fO] at hu; (repeat (first | (rcases hu with rfl | hu) | subst hu | rfl))) (by first | exact Nat.le_refl _ | omega) au9 (by first | omega | (unfold maxLen; omega)) (by simp only [Tryz.t135]; omega) (fun ad47 n47 cap47 m47 hn47 hs47 hin47 => ?_)
   refine LM.nil ?_
   refine QM.one au1 (fun _ _ => trivial) ?_
   refine KD.val rfl rfl (ov_field Tryz.underlying87 rfl Tryz.sizeOf85 rfl (k := 1) rfl rfl) ?_
   refine KD.last rfl ?_
   refine LM.st Tryz.sizeOf85 rfl rfl rfl au5 rfl au8 ?_
   refine LM.nil ?_
   refine QM.qn ?_
   refine QM.sub (e' := [(4, _), (7, _), (8, _)]) ⟨rfl, rfl, rfl, trivial⟩ ?_
   refine QM.block_normal ?_
   have hn0 : isR ws i 3 [125] = false := (by rw [h3, isE_0] at h4; simpa using h4)
   refine QM.againK (((opR ws i no).1, (opR ws i no).2.1, ops ++ [(opR ws i no).2.2], ad47, n47, cap47, m47)) ⟨rfl, rfl, rfl, trivial⟩ au1 (fun _ h => h) ?_ ?_
   · refine ⟨?_, by rw [hn47]; simp, hs47, fun q => ?_⟩; (rw [hno]; exact StI.next (h3 ▸ hI) hn0); (have h8 := opR_lt q; have h9 := hol h3; simp; omega)
   · show measP _ _ _ < measP _ _ _; first | exact meas_lt hile | (rw [h3]; exact meas_lt hile)
  refine wpM.exit ?_
  refine QM.then_exit ?_
  refine QM.then_exit ?_
  refine QM.block_hit ?_
  refine QM.then ?_
  refine wpM.seq ?_
  refine wpM.seq (wpM.region ?_)
  refine LM.val (ov_field Tryz.underlying87 rfl Tryz.sizeOf85 rfl (k := 1) rfl rfl) ?_
  refine LM.rd (om_ld Tryz.isAgg85 rfl rfl) ?_
  refine LM.val (ov_len Tryz.underlying85 rfl) ?_
  refine LM.val (ov_eql rfl rfl) ?_
  refine LM.nil (QM.sub (e' := [(4, _), (7, _), (8, _), (52, _)]) ⟨rfl, rfl, rfl, rfl, trivial⟩ (QM.then ?_))
  refine wpM.condD rfl (fun h5 => ?_) (fun h5 => ?_)
  ·
   refine wpM.region ?_
   refine LM.mv rfl ?_
   refine LM.cW (oc_call (enters_fn Tryz.func128 (by kernel_rfl) rfl) rfl) (fun w hm hc hg => fail_spec b21 (ad := ad) (n := n) (cap := cap) i e 4 w (SubM.mem au1 w hm)) rfl au8 ?_
   refine LM.nil (QM.sub (e' := [(4, _), (7, _), (8, _)]) ⟨rfl, rfl, rfl, trivial⟩ (QM.then ?_))
   refine wpM.seq ?_
   refine wpM.seq (wpM.region ?_)
   refine LM.mv rfl ?_
   refine LM.val (ov_nilCheck rfl) ?_
   refine LM.val (ov_field Tryz.underlying181 rfl Tryz.sizeOf31 rfl (k := 2) rfl rfl) ?_
   refine LM.rd (om_ld Tryz.isAgg31 rfl rfl) ?_
   refine LM.val (ov_neq rfl rfl) ?_
   refine LM.nil (QM.sub (e' := [(4, _), (7, _), (8, _), (59, _)]) ⟨rfl, rfl, rfl, rfl, trivial⟩ (QM.then ?_))
   refine wpM.condD rfl (fun h6 => ?_) (fun h6 => ?_)
   ·
    refine wpM.seq ?_
    refine wpM.keep ((b21, _) :: []) (fun _ => True) (.one 0 0 (.one 1 0 (.one 2 0 (.one 3 0 (.one 4 1 (.one 5 0 (.one 6 0 (.one 7 0 (.one 8 1 (.one 9 2 (.one 10 0 (.one 11 0 .nil)))))))))))) (by kernel_rfl) (by kernel_rfl) au1 (fun _ _ => trivial) ?_
    refine KD.val rfl rfl (ov_build (cs := #[_, _]) rfl (by first | rfl | kernel_rfl)) ?_
    refine KD.val rfl rfl (ov_move rfl) ?_
    refine KD.val rfl rfl (ov_nilCheck rfl) ?_
    refine KD.val rfl rfl (ov_field Tryz.underlying181 rfl Tryz.sizeOf3 rfl (k := 1) rfl rfl) ?_
    refine KD.rd rfl rfl (om_ld Tryz.isAgg3 rfl rfl) ?_
    refine KD.val rfl rfl (ov_move rfl) ?_
    refine KD.val rfl rfl (ov_nilCheck rfl) ?_
    refine KD.val rfl rfl (ov_field Tryz.underlying181 rfl Tryz.sizeOf31 rfl (k := 2) rfl rfl) ?_
    refine KD.rd rfl rfl (om_ld Tryz.isAgg31 rfl rfl) ?_
    refine KD.one rfl ?_
    refine LM.stW Tryz.sizeOf87 rfl rfl rfl rfl au7 au8 ?_
    refine LM.nil ?_
    refine QM.one au1 (fun _ _ => trivial) ?_
    refine KD.val rfl rfl (ov_assign rfl) ?_
    refine KD.val rfl rfl (ov_assign rfl) ?_
    refine KD.nil ?_
    refine QM.sub (e' := [(4, _), (5, _), (6, _)]) ⟨rfl, rfl, rfl, trivial⟩ (QM.then ?_)
    refine wpM.ret ?_
    refine QM.then_ret ?_
    refine QM.leaveCs (ds := ([])) (.inl rfl) [.cell 4 87, .tmp 5, .tmp 6] Tryz.results85 hd_nil (rc_w rfl Tryz.isAgg87 Tryz.sizeOf87 rfl (rc_tmp rfl (rc_tmp rfl rc_nil))) ?_
    intro w' hm' hc'
    have hn0 : isR ws i 3 [125] = true := (by rw [h3, isE_0] at h4; simpa using h4); have hb := hI.1 h3; rw [loopR_done hn0, if_pos (by omega)] at hb; refine ⟨hc', [], ?_, Mem.nil _, fun p hp => by cases hp⟩; show ParT _ _ (.tuple #[.agg #[.bool false, .slice none 0 0], .int .i64 (i : Nat), .int .i64 (if e = 0 then 4 else e)]) []; rw [if_pos h3]; exact fin_bad hi0 hb.symm (by decide)
   refine wpM.skip ?_
   refine QM.then ?_
   refine wpM.seq ?_
   refine wpM.keep ((b21, _) :: (b8, _) :: []) (fun _ => True) (.one 0 1 (.one 1 0 (.one 2 0 (.one 3 0 (.one 4 1 (.one 5 0 (.one 6 2 (.one 7 0 (.one 8 0 .nil))))))))) (by kernel_rfl) (by kernel_rfl) au1 (fun _ _ => trivial) ?_
   refine KD.rd rfl rfl (om_ldW Tryz.isAgg87 Tryz.sizeOf87 rfl rfl) ?_
   refine KD.val rfl rfl (ov_move rfl) ?_
   refine KD.val rfl rfl (ov_nilCheck rfl) ?_
   refine KD.val rfl rfl (ov_field Tryz.underlying181 rfl Tryz.sizeOf3 rfl (k := 1) rfl rfl) ?_
   refine KD.rd rfl rfl (om_ld Tryz.isAgg3 rfl rfl) ?_
   refine KD.val rfl rfl (ov_add64 rfl rfl (by omega)) ?_
   refine KD.one rfl ?_
   refine LM.stW Tryz.sizeOf87 rfl rfl rfl rfl au7 au8 ?_
   refine LM.nil ?_
   refine QM.one au1 (fun _ _ => trivial) ?_
   refine KD.val rfl rfl (ov_assign rfl) ?_
   refine KD.val rfl rfl (ov_assign rfl) ?_
   refine KD.nil ?_
   refine QM.sub (e' := [(4, _), (5, _), (6, _)]) ⟨rfl, rfl, rfl, trivial⟩ (QM.then ?_)
   refine wpM.ret ?_
   refine QM.leaveCs (ds := ([])) (.inl rfl) [.cell 4 87, .tmp 5, .tmp 6] Tryz.results85 hd_nil (rc_w rfl Tryz.isAgg87 Tryz.sizeOf87 rfl (rc_tmp rfl (rc_tmp rfl rc_nil))) ?_
   intro w' hm' hc'
   exact absurd h6 (by rw [if_pos h3]; decide)
  refine wpM.skip ?_
  refine QM.then ?_
  refine wpM.seq ?_
  refine wpM.seq (wpM.region ?_)
  refine LM.mv rfl ?_
  refine LM.val (ov_nilCheck rfl) ?_
  refine LM.val (ov_field Tryz.underlying181 rfl Tryz.sizeOf31 rfl (k := 2) rfl rfl) ?_
  refine LM.rd (om_ld Tryz.isAgg31 rfl rfl) ?_
  refine LM.val (ov_neq rfl rfl) ?_
  refine LM.nil (QM.sub (e' := [(4, _), (7, _), (8, _), (59, _)]) ⟨rfl, rfl, rfl, rfl, trivial⟩ (QM.then ?_))
  refine wpM.condD rfl (fun h7 => ?_) (fun h7 => ?_)
  ·
   refine wpM.seq ?_
   refine wpM.keep ((b21, _) :: []) (fun _ => True) (.one 0 0 (.one 1 0 (.one 2 0 (.one 3 0 (.one 4 1 (.one 5 0 (.one 6 0 (.one 7 0 (.one 8 1 (.one 9 2 (.one 10 0 (.one 11 0 .nil)))))))))))) (by kernel_rfl) (by kernel_rfl) au1 (fun _ _ => trivial) ?_
   refine KD.val rfl rfl (ov_build (cs := #[_, _]) rfl (by first | rfl | kernel_rfl)) ?_
   refine KD.val rfl rfl (ov_move rfl) ?_
   refine KD.val rfl rfl (ov_nilCheck rfl) ?_
   refine KD.val rfl rfl (ov_field Tryz.underlying181 rfl Tryz.sizeOf3 rfl (k := 1) rfl rfl) ?_
   refine KD.rd rfl rfl (om_ld Tryz.isAgg3 rfl rfl) ?_
   refine KD.val rfl rfl (ov_move rfl) ?_
   refine KD.val rfl rfl (ov_nilCheck rfl) ?_
   refine KD.val rfl rfl (ov_field Tryz.underlying181 rfl Tryz.sizeOf31 rfl (k := 2) rfl rfl) ?_
   refine KD.rd rfl rfl (om_ld Tryz.isAgg31 rfl rfl) ?_
   refine KD.one rfl ?_
   refine LM.stW Tryz.sizeOf87 rfl rfl rfl rfl au7 au8 ?_
   refine LM.nil ?_
   refine QM.one au1 (fun _ _ => trivial) ?_
   refine KD.val rfl rfl (ov_assign rfl) ?_
   refine KD.val rfl rfl (ov_assign rfl) ?_
   refine KD.nil ?_
   refine QM.sub (e' := [(4, _), (5, _), (6, _)]) ⟨rfl, rfl, rfl, trivial⟩ (QM.then ?_)
   refine wpM.ret ?_
   refine QM.then_ret ?_
   refine QM.leaveCs (ds := ([])) (.inl rfl) [.cell 4 87, .tmp 5, .tmp 6] Tryz.results85 hd_nil (rc_w rfl Tryz.isAgg87 Tryz.sizeOf87 rfl (rc_tmp rfl (rc_tmp rfl rc_nil))) ?_
   intro w' hm' hc'
   exact absurd h3 h7
  refine wpM.skip ?_
  refine QM.then ?_
  refine wpM.seq ?_
  refine wpM.keep ((b21, _) :: (b8, _) :: []) (fun _ => True) (.one 0 1 (.one 1 0 (.one 2 0 (.one 3 0 (.one 4 1 (.one 5 0 (.one 6 2 (.one 7 0 (.one 8 0 .nil))))))))) (by kernel_rfl) (by kernel_rfl) au1 (fun _ _ => trivial) ?_
  refine KD.rd rfl rfl (om_ldW Tryz.isAgg87 Tryz.sizeOf87 rfl rfl) ?_
  refine KD.val rfl rfl (ov_move rfl) ?_
  refine KD.val rfl rfl (ov_nilCheck rfl) ?_
  refine KD.val rfl rfl (ov_field Tryz.underlying181 rfl Tryz.sizeOf3 rfl (k := 1) rfl rfl) ?_
  refine KD.rd rfl rfl (om_ld Tryz.isAgg3 rfl rfl) ?_
  refine KD.val rfl rfl (ov_add64 rfl rfl (by omega)) ?_
  refine KD.one rfl ?_
  refine LM.stW Tryz.sizeOf87 rfl rfl rfl rfl au7 au8 ?_
  refine LM.nil ?_
  refine QM.one au1 (fun _ _ => trivial) ?_
  refine KD.val rfl rfl (ov_assign rfl) ?_
  refine KD.val rfl rfl (ov_assign rfl) ?_
  refine KD.nil ?_
  refine QM.sub (e' := [(4, _), (5, _), (6, _)]) ⟨rfl, rfl, rfl, trivial⟩ (QM.then ?_)
  refine wpM.ret ?_
  refine QM.leaveCs (ds := ([])) (.inl rfl) [.cell 4 87, .tmp 5, .tmp 6] Tryz.results85 hd_nil (rc_w rfl Tryz.isAgg87 Tryz.sizeOf87 rfl (rc_tmp rfl (rc_tmp rfl rc_nil))) ?_
  intro w' hm' hc'
  have hn0 : isR ws i 3 [125] = true := (by rw [h3, isE_0] at h4; simpa using h4); have hb := hI.1 h3; rw [loopR_done hn0, if_neg (by omega)] at hb; exact ⟨hc', mo, fin_ok hi0 hb.symm hno hso, hm'.pick mo, fun p hp => Sl.ge hso p hp⟩
 refine LM.dr 34 rfl rfl rfl ?_
 refine LM.dr 34 rfl rfl rfl ?_
 refine LM.dr 34 rfl rfl rfl ?_
 refine LM.val (ov_pickF rfl rfl) ?_
 refine LM.nil (QM.sub (e' := [(4, _), (7, _), (8, _), (38, _)]) ⟨rfl, rfl, rfl, rfl, trivial⟩ (QM.then ?_))
 refine wpM.condF rfl ?_
 refine wpM.exit ?_
 refine QM.then_exit ?_
 refine QM.then_exit ?_
 refine QM.block_hit ?_
 refine QM.then ?_
 refine wpM.seq ?_
 refine wpM.seq (wpM.region ?_)
 refine LM.val (ov_field Tryz.underlying87 rfl Tryz.sizeOf85 rfl (k := 1) rfl rfl) ?_
 refine LM.rd (om_ld Tryz.isAgg85 rfl rfl) ?_
 refine LM.val (ov_len Tryz.underlying85 rfl) ?_
 refine LM.val (ov_eql rfl rfl) ?_
 refine LM.nil (QM.sub (e' := [(4, _), (7, _), (8, _), (52, _)]) ⟨rfl, rfl, rfl, rfl, trivial⟩ (QM.then ?_))
 refine wpM.condD rfl (fun h8 => ?_) (fun h8 => ?_)
 ·
  refine wpM.region ?_
  refine LM.mv rfl ?_
  refine LM.cW (oc_call (enters_fn Tryz.func128 (by kernel_rfl) rfl) rfl) (fun w hm hc hg => fail_spec b21 (ad := ad) (n := n) (cap := cap) i e 4 w (SubM.mem au1 w hm)) rfl au8 ?_
  refine LM.nil (QM.sub (e' := [(4, _), (7, _), (8, _)]) ⟨rfl, rfl, rfl, trivial⟩ (QM.then ?_))
  refine wpM.seq ?_
  refine wpM.seq (wpM.region ?_)
  refine LM.mv rfl ?_
  refine LM.val (ov_nilCheck rfl) ?_
  refine LM.val (ov_field Tryz.underlying181 rfl Tryz.sizeOf31 rfl (k := 2) rfl rfl) ?_
  refine LM.rd (om_ld Tryz.isAgg31 rfl rfl) ?_
  refine LM.val (ov_neq rfl rfl) ?_
  refine LM.nil (QM.sub (e' := [(4, _), (7, _), (8, _), (59, _)]) ⟨rfl, rfl, rfl, rfl, trivial⟩ (QM.then ?_))
  refine wpM.condD rfl (fun h9 => ?_) (fun h9 => ?_)
  ·
   refine wpM.seq ?_
   refine wpM.keep ((b21, _) :: []) (fun _ => True) (.one 0 0 (.one 1 0 (.one 2 0 (.one 3 0 (.one 4 1 (.one 5 0 (.one 6 0 (.one 7 0 (.one 8 1 (.one 9 2 (.one 10 0 (.one 11 0 .nil)))))))))))) (by kernel_rfl) (by kernel_rfl) au1 (fun _ _ => trivial) ?_
   refine KD.val rfl rfl (ov_build (cs := #[_, _]) rfl (by first | rfl | kernel_rfl)) ?_
   refine KD.val rfl rfl (ov_move rfl) ?_
   refine KD.val rfl rfl (ov_nilCheck rfl) ?_
   refine KD.val rfl rfl (ov_field Tryz.underlying181 rfl Tryz.sizeOf3 rfl (k := 1) rfl rfl) ?_
   refine KD.rd rfl rfl (om_ld Tryz.isAgg3 rfl rfl) ?_
   refine KD.val rfl rfl (ov_move rfl) ?_
   refine KD.val rfl rfl (ov_nilCheck rfl) ?_
   refine KD.val rfl rfl (ov_field Tryz.underlying181 rfl Tryz.sizeOf31 rfl (k := 2) rfl rfl) ?_
   refine KD.rd rfl rfl (om_ld Tryz.isAgg31 rfl rfl) ?_
   refine KD.one rfl ?_
   refine LM.stW Tryz.sizeOf87 rfl rfl rfl rfl au7 au8 ?_
   refine LM.nil ?_
   refine QM.one au1 (fun _ _ => trivial) ?_
   refine KD.val rfl rfl (ov_assign rfl) ?_
   refine KD.val rfl rfl (ov_assign rfl) ?_
   refine KD.nil ?_
   refine QM.sub (e' := [(4, _), (5, _), (6, _)]) ⟨rfl, rfl, rfl, trivial⟩ (QM.then ?_)
   refine wpM.ret ?_
   refine QM.then_ret ?_
   refine QM.leaveCs (ds := ([])) (.inl rfl) [.cell 4 87, .tmp 5, .tmp 6] Tryz.results85 hd_nil (rc_w rfl Tryz.isAgg87 Tryz.sizeOf87 rfl (rc_tmp rfl (rc_tmp rfl rc_nil))) ?_
   intro w' hm' hc'
   refine ⟨hc', [], ?_, Mem.nil _, fun p hp => by cases hp⟩; show ParT _ _ (.tuple #[.agg #[.bool false, .slice none 0 0], .int .i64 (i : Nat), .int .i64 (if e = 0 then 4 else e)]) []; rw [if_neg h3]; exact fin_bad hi0 (hI.2.1 h3) h3
  refine wpM.skip ?_
  refine QM.then ?_
  refine wpM.seq ?_
  refine wpM.keep ((b21, _) :: (b8, _) :: []) (fun _ => True) (.one 0 1 (.one 1 0 (.one 2 0 (.one 3 0 (.one 4 1 (.one 5 0 (.one 6 2 (.one 7 0 (.one 8 0 .nil))))))))) (by kernel_rfl) (by kernel_rfl) au1 (fun _ _ => trivial) ?_
  refine KD.rd rfl rfl (om_ldW Tryz.isAgg87 Tryz.sizeOf87 rfl rfl) ?_
  refine KD.val rfl rfl (ov_move rfl) ?_
  refine KD.val rfl rfl (ov_nilCheck rfl) ?_
  refine KD.val rfl rfl (ov_field Tryz.underlying181 rfl Tryz.sizeOf3 rfl (k := 1) rfl rfl) ?_
  refine KD.rd rfl rfl (om_ld Tryz.isAgg3 rfl rfl) ?_
  refine KD.val rfl rfl (ov_add64 rfl rfl (by omega)) ?_
  refine KD.one rfl ?_
  refine LM.stW Tryz.sizeOf87 rfl rfl rfl rfl au7 au8 ?_
  refine LM.nil ?_
  refine QM.one au1 (fun _ _ => trivial) ?_
  refine KD.val rfl rfl (ov_assign rfl) ?_
  refine KD.val rfl rfl (ov_assign rfl) ?_
  refine KD.nil ?_
  refine QM.sub (e' := [(4, _), (5, _), (6, _)]) ⟨rfl, rfl, rfl, trivial⟩ (QM.then ?_)
  refine wpM.ret ?_
  refine QM.leaveCs (ds := ([])) (.inl rfl) [.cell 4 87, .tmp 5, .tmp 6] Tryz.results85 hd_nil (rc_w rfl Tryz.isAgg87 Tryz.sizeOf87 rfl (rc_tmp rfl (rc_tmp rfl rc_nil))) ?_
  intro w' hm' hc'
  exact absurd h9 (by rw [if_neg h3]; exact fun q => q h3)
 refine wpM.skip ?_
 refine QM.then ?_
 refine wpM.seq ?_
 refine wpM.seq (wpM.region ?_)
 refine LM.mv rfl ?_
 refine LM.val (ov_nilCheck rfl) ?_
 refine LM.val (ov_field Tryz.underlying181 rfl Tryz.sizeOf31 rfl (k := 2) rfl rfl) ?_
 refine LM.rd (om_ld Tryz.isAgg31 rfl rfl) ?_
 refine LM.val (ov_neq rfl rfl) ?_
 refine LM.nil (QM.sub (e' := [(4, _), (7, _), (8, _), (59, _)]) ⟨rfl, rfl, rfl, rfl, trivial⟩ (QM.then ?_))
 refine wpM.condD rfl (fun h10 => ?_) (fun h10 => ?_)
 ·
  refine wpM.seq ?_
  refine wpM.keep ((b21, _) :: []) (fun _ => True) (.one 0 0 (.one 1 0 (.one 2 0 (.one 3 0 (.one 4 1 (.one 5 0 (.one 6 0 (.one 7 0 (.one 8 1 (.one 9 2 (.one 10 0 (.one 11 0 .nil)))))))))))) (by kernel_rfl) (by kernel_rfl) au1 (fun _ _ => trivial) ?_
  refine KD.val rfl rfl (ov_build (cs := #[_, _]) rfl (by first | rfl | kernel_rfl)) ?_
  refine KD.val rfl rfl (ov_move rfl) ?_
  refine KD.val rfl rfl (ov_nilCheck rfl) ?_
  refine KD.val rfl rfl (ov_field Tryz.underlying181 rfl Tryz.sizeOf3 rfl (k := 1) rfl rfl) ?_
  refine KD.rd rfl rfl (om_ld Tryz.isAgg3 rfl rfl) ?_
  refine KD.val rfl rfl (ov_move rfl) ?_
  refine KD.val rfl rfl (ov_nilCheck rfl) ?_
  refine KD.val rfl rfl (ov_field Tryz.underlying181 rfl Tryz.sizeOf31 rfl (k := 2) rfl rfl) ?_
  refine KD.rd rfl rfl (om_ld Tryz.isAgg31 rfl rfl) ?_
  refine KD.one rfl ?_
  refine LM.stW Tryz.sizeOf87 rfl rfl rfl rfl au7 au8 ?_
  refine LM.nil ?_
  refine QM.one au1 (fun _ _ => trivial) ?_
  refine KD.val rfl rfl (ov_assign rfl) ?_
  refine KD.val rfl rfl (ov_assign rfl) ?_
  refine KD.nil ?_
  refine QM.sub (e' := [(4, _), (5, _), (6, _)]) ⟨rfl, rfl, rfl, trivial⟩ (QM.then ?_)
  refine wpM.ret ?_
  refine QM.then_ret ?_
  refine QM.leaveCs (ds := ([])) (.inl rfl) [.cell 4 87, .tmp 5, .tmp 6] Tryz.results85 hd_nil (rc_w rfl Tryz.isAgg87 Tryz.sizeOf87 rfl (rc_tmp rfl (rc_tmp rfl rc_nil))) ?_
  intro w' hm' hc'
  exact ⟨hc', [], fin_bad hi0 (hI.2.1 h3) h3, Mem.nil _, fun p hp => by cases hp⟩
 refine wpM.skip ?_
 refine QM.then ?_
 refine wpM.seq ?_
 refine wpM.keep ((b21, _) :: (b8, _) :: []) (fun _ => True) (.one 0 1 (.one 1 0 (.one 2 0 (.one 3 0 (.one 4 1 (.one 5 0 (.one 6 2 (.one 7 0 (.one 8 0 .nil))))))))) (by kernel_rfl) (by kernel_rfl) au1 (fun _ _ => trivial) ?_
 refine KD.rd rfl rfl (om_ldW Tryz.isAgg87 Tryz.sizeOf87 rfl rfl) ?_
 refine KD.val rfl rfl (ov_move rfl) ?_
 refine KD.val rfl rfl (ov_nilCheck rfl) ?_
 refine KD.val rfl rfl (ov_field Tryz.underlying181 rfl Tryz.sizeOf3 rfl (k := 1) rfl rfl) ?_
 refine KD.rd rfl rfl (om_ld Tryz.isAgg3 rfl rfl) ?_
 refine KD.val rfl rfl (ov_add64 rfl rfl (by omega)) ?_
 refine KD.one rfl ?_
 refine LM.stW Tryz.sizeOf87 rfl rfl rfl rfl au7 au8 ?_
 refine LM.nil ?_
 refine QM.one au1 (fun _ _ => trivial) ?_
 refine KD.val rfl rfl (ov_assign rfl) ?_
 refine KD.val rfl rfl (ov_assign rfl) ?_
 refine KD.nil ?_
 refine QM.sub (e' := [(4, _), (5, _), (6, _)]) ⟨rfl, rfl, rfl, trivial⟩ (QM.then ?_)
 refine wpM.ret ?_
 refine QM.leaveCs (ds := ([])) (.inl rfl) [.cell 4 87, .tmp 5, .tmp 6] Tryz.results85 hd_nil (rc_w rfl Tryz.isAgg87 Tryz.sizeOf87 rfl (rc_tmp rfl (rc_tmp rfl rc_nil))) ?_
 intro w' hm' hc'
 exact absurd h3 h10
end Go.Eng
namespace Go.Eng
open Go Go.Proofs Go.RowKit
theorem nR1 {ws : List Wrd} {i : Nat} {lo hi : Int} (h : lo = -1) : numR ws i lo hi = (i, 0, 0) := by unfold numR; rw [if_pos h]
theorem nR2 {ws : List Wrd} {i : Nat} {lo hi : Int} (h : ¬ lo = -1) (h2 : ws.length ≤ i ∨ (ws.getD i default).k ≠ 2) : numR ws i lo hi = (i, 5, 0) := by
  unfold numR; rw [if_neg h, if_pos (by simp only [Bool.or_eq_true, decide_eq_true_eq]; exact h2)]
theorem nR3 {ws : List Wrd} {i : Nat} {lo hi : Int} (h : ¬ lo = -1) (h2 : i < ws.length) (h3 : (ws.getD i default).k = 2) (h4 : (ws.getD i default).n < lo ∨ hi < (ws.getD i default).n) : numR ws i lo hi = (i, 1, 0) := by
  unfold numR hasB; rw [if_neg h, if_neg (by simp only [Bool.or_eq_true, decide_eq_true_eq, not_or]; exact ⟨by omega, fun q => q h3⟩), if_neg h, if_neg (by simp only [Bool.and_eq_true, decide_eq_true_eq]; omega)]
theorem opB_of {ws : List Wrd} {i j : Nat} {a : Int} (h : opA ws i = (j, 0, a)) : opB ws i = numR ws j (loB (kindR ws i)) (hiB (kindR ws i)) := by unfold opB num2; rw [h, if_neg (by simp)]
theorem opR_Ab {ws : List Wrd} {i j ah : Nat} {e a : Int} (h1 : kindR ws i ≠ 0) (h2 : ah < 12) (h : opA ws i = (j, e, a)) (he : e ≠ 0) : (opR ws i ah).1 = j ∧ (opR ws i ah).2.1 = e := by
  have hB : opB ws i = (j, e, 0) := by unfold opB num2; rw [h, if_pos he]
  unfold opR; rw [if_neg h1, if_neg (by omega), hB, if_pos he]; exact ⟨rfl, rfl⟩
theorem opR_Bb {ws : List Wrd} {i j ah : Nat} {e b : Int} (h1 : kindR ws i ≠ 0) (h2 : ah < 12) (h : opB ws i = (j, e, b)) (he : e ≠ 0) : (opR ws i ah).1 = j ∧ (opR ws i ah).2.1 = e := by
  unfold opR; rw [if_neg h1, if_neg (by omega), h, if_pos he]; exact ⟨rfl, rfl⟩
def NumI (ws : List Wrd) (i k j : Nat) (lo hi a b : Int) : Prop :=
  k ≤ 2 ∧ j ≤ ws.length ∧ (k = 0 → j = i + 1 ∧ lo = loA (kindR ws i) ∧ hi = hiA (kindR ws i) ∧ a = 0 ∧ b = 0) ∧ (k = 1 → opA ws i = (j, 0, a) ∧ b = 0) ∧ (k = 2 → (opA ws i).2.2 = a ∧ opB ws i = (j, 0, b))
theorem NumI.skip {ws : List Wrd} {i k j : Nat} {lo hi a b : Int} (h : NumI ws i k j lo hi a b) (hq : (k = 0 ∧ lo < 0) ∨ (k = 1 ∧ kindR ws i ≠ 5)) : NumI ws i (k + 1) j lo hi a b := by
  obtain ⟨h1, h2, h3, h4, h5⟩ := h
  rcases hq with ⟨rfl, hq⟩ | ⟨rfl, hq⟩
  · obtain ⟨e1, e2, e3, e4, e5⟩ := h3 rfl
    subst e1; subst e4; subst e5; subst e2; subst e3
    have := loA_cases (kindR ws i)
    exact ⟨by omega, h2, fun q => by omega, fun _ => ⟨nR1 (by omega), rfl⟩, fun q => by omega⟩
  · obtain ⟨e1, e2⟩ := h4 rfl
    subst e2
    exact ⟨by omega, h2, fun q => by omega, fun q => by omega, fun _ => ⟨by rw [e1], by rw [opB_of e1, nR1 (by unfold loB; rw [if_neg hq])]⟩⟩
theorem NumI.bad {ws : List Wrd} {i k j ah : Nat} {lo hi a b e : Int} (h : NumI ws i k j lo hi a b) (hk : k < 2) (h1 : kindR ws i ≠ 0) (h2 : ah < 12) (hq : ¬ ((k = 0 ∧ lo < 0) ∨ (k = 1 ∧ kindR ws i ≠ 5))) (he : e ≠ 0)
    (h3 : (e = 5 ∧ (ws.length ≤ j ∨ (ws.getD j default).k ≠ 2)) ∨ (e = 1 ∧ j < ws.length ∧ (ws.getD j default).k = 2 ∧ ((k = 0 ∧ ((ws.getD j default).n < lo ∨ hi < (ws.getD j default).n)) ∨ (k = 1 ∧ ((ws.getD j default).n < 1 ∨ 64 < (ws.getD j default).n))))) : (opR ws i ah).1 = j ∧ (opR ws i ah).2.1 = e := by
  obtain ⟨_, _, h5, h6, _⟩ := h
  have : k = 0 ∨ k = 1 := by omega
  rcases this with rfl | rfl
  · obtain ⟨e1, e2, e3, e4, e5⟩ := h5 rfl
    subst e1; subst e2; subst e3
    have hlo : ¬ loA (kindR ws i) = -1 := by omega
    rcases h3 with ⟨rfl, h3⟩ | ⟨rfl, a1, a2, a3⟩
    · exact opR_Ab h1 h2 (nR2 hlo h3) he
    · rcases a3 with ⟨_, a3⟩ | ⟨a3, _⟩
      · exact opR_Ab h1 h2 (nR3 hlo a1 a2 a3) he
      · cases a3
  · obtain ⟨e1, e2⟩ := h6 rfl
    have h5' : kindR ws i = 5 := by omega
    have e3 := opB_of e1
    unfold loB hiB at e3; rw [if_pos h5', if_pos h5'] at e3
    rcases h3 with ⟨rfl, h3⟩ | ⟨rfl, a1, a2, a3⟩
    · exact opR_Bb h1 h2 (e3.trans (nR2 (by decide) h3)) he
    · rcases a3 with ⟨a3, _⟩ | ⟨_, a3⟩
      · cases a3
      · exact opR_Bb h1 h2 (e3.trans (nR3 (by decide) a1 a2 a3)) he
end Go.Eng
namespace Go.Eng
open Go Go.Proofs Go.RowKit
deriving instance DecidableEq for COp
def mk3 (t : List UInt8) : Wrd := ⟨3, t, 0, 0⟩
def opW (o : COp) : List Wrd := ⟨1, nmT o.k, 0, 0⟩ :: ((if loA o.k ≠ -1 then [⟨2, [], o.a, 0⟩] else []) ++ ((if loB o.k ≠ -1 then [⟨2, [], o.b, 0⟩] else []) ++ [mk3 [59]]))
def wordsF (fv : Bool) (xs : List COp) : List Wrd := (⟨1, wProg, 0, 0⟩ :: (if fv then [⟨1, wForever, 0, 0⟩] else [])) ++ [mk3 [123]] ++ xs.flatMap opW ++ [mk3 [125]]
def wordsO (fv : Bool) (xs : List COp) : List Wrd × Int := if mayB xs then (wordsF fv xs, 0) else ([], 1)
def WoT (r : List Wrd × Int) (n0 : Nat) (v : Value) (m : Mem0) : Prop := ∃ ad n cap, v = .tuple #[.slice ad n cap, .int .i64 r.2] ∧ n = r.1.length ∧ Sl fW 65 4 n0 r.1 (.slice ad n cap) m
theorem WoT.mono {r : List Wrd × Int} : ∀ (k k' : Nat) u m, k' ≤ k → WoT r k u m → WoT r k' u m := fun k k' u m h ⟨ad, n, cap, h1, h2, h3⟩ => ⟨ad, n, cap, h1, h2, h3.mono h⟩
theorem nm_len (k : Int) : (nmT k).length ≤ 7 := by
  unfold nmT; split
  · rename_i h
    have : k = 0 ∨ k = 1 ∨ k = 2 ∨ k = 3 ∨ k = 4 ∨ k = 5 ∨ k = 6 ∨ k = 7 ∨ k = 8 ∨ k = 9 ∨ k = 10 ∨ k = 11 := by omega
    rcases this with rfl | rfl | rfl | rfl | rfl | rfl | rfl | rfl | rfl | rfl | rfl | rfl <;> decide
  · decide
theorem opW_len (o : COp) : (opW o).length ≤ 4 := by unfold opW; (repeat' split) <;> simp
theorem opW_text (o : COp) : ∀ x ∈ opW o, x.t.length ≤ 7 := by
  have := nm_len o.k
  intro x hx
  unfold opW mk3 at hx
  simp only [List.mem_cons, List.mem_append, List.not_mem_nil, or_false] at hx
  rcases hx with rfl | hx | hx | rfl
  · exact this
  · split at hx
    · simp at hx; subst hx; simp
    · cases hx
  · split at hx
    · simp at hx; subst hx; simp
    · cases hx
  · simp
theorem flat_len (xs : List COp) : (xs.flatMap opW).length ≤ 4 * xs.length := by
  induction xs with
  | nil => simp
  | cons o xs ih => have := opW_len o; rw [List.flatMap_cons, List.length_append, List.length_cons]; omega
theorem words_len (fv : Bool) (xs : List COp) : (wordsF fv xs).length ≤ 4 * xs.length + 4 := by
  have := flat_len xs
  unfold wordsF; simp only [List.length_append, List.length_cons, List.length_nil]; cases fv <;> simp only [if_true, if_false, Bool.false_eq_true, List.length_cons, List.length_nil] <;> omega
theorem words_text (fv : Bool) (xs : List COp) : ∀ x ∈ wordsF fv xs, x.t.length ≤ 7 := by
  intro x hx
  unfold wordsF mk3 at hx
  simp only [List.mem_cons, List.mem_append, List.not_mem_nil, or_false, List.mem_flatMap] at hx
  rcases hx with (((rfl | hx) | rfl) | ⟨o, _, hx⟩) | rfl
  · simp
  · cases fv
    · simp at hx
    · simp at hx; subst hx; simp
  · simp
  · exact opW_text o x hx
  · simp
theorem flat_snoc {xs : List COp} {i : Nat} (h : i < xs.length) : (xs.take (i + 1)).flatMap opW = (xs.take i).flatMap opW ++ opW (xs.getD i default) := by
  rw [take_snoc default h, List.flatMap_append]; simp
theorem fO_veqs (a b : COp) : veqs (fO a) (fO b) = decide (a = b) := by
  cases a; cases b; simp only [veqs, veq, fO, Bool.and_true, COp.mk.injEq, Bool.decide_and]; rfl
theorem eq_at {xs ys : List COp} {i : Nat} (hl : xs.length = ys.length) (h : i < xs.length) (hp : xs.take i = ys.take i) (e : xs.getD i default = ys.getD i default) : xs.take (i + 1) = ys.take (i + 1) := by
  rw [take_snoc default h, take_snoc default (hl ▸ h), hp, e]
set_option maxRecDepth 100000 in
theorem pmark_spec (t : List UInt8) (w : World) : Ret Tryz.prog 104 #[vS t] w (fun v w' => v = .agg (fW (mk3 t)).toArray ∧ Ext w w') := by
 refine Ret.enterM (l := [vS t]) Tryz.func104 rfl Tryz.ntmps104 rfl ([]) (no) (Mem.nil w) ?_
 refine wpM.seq (wpM.region ?_)
 refine LM.alloc Tryz.zeroValue65 rfl (fun b2 hb2 => ?_)
 refine LM.nil (QM.sub (e' := [(0, _), (2, _)]) ⟨rfl, rfl, trivial⟩ (QM.then (wpM.seq (wpM.region ?_))))
 refine LM.mv rfl ?_
 refine LM.val (ov_build (cs := #[_, _, _, _]) rfl (by first | rfl | kernel_rfl)) ?_
 refine LM.stW Tryz.sizeOf65 rfl rfl rfl rfl au7 au8 ?_
 refine LM.nil (QM.sub (e' := [(2, _)]) ⟨rfl, trivial⟩ (QM.then ?_))
 refine wpM.ret ?_
 refine QM.leaveCs (ds := ([])) (.inl rfl) [.cell 2 65] Tryz.results104 hd_nil (rc_w rfl Tryz.isAgg65 Tryz.sizeOf65 rfl rc_nil) ?_
 intro w' hm' hc'
 exact ⟨rfl, hc'⟩
set_option maxRecDepth 100000 in
set_option maxHeartbeats 1000000 in
theorem words_spec {xs : List COp} {fv : Bool} {ad : Option Addr} {n cap : Nat} (w : World) (hn : n = xs.length) (hl : Sr fO 3 xs (.slice ad n cap) w) : Ret Tryz.prog 58 #[pV fv ad n cap] w (fun v w' => Ext w w' ∧ ∃ m, WoT (wordsO fv xs) w.heap.size v m ∧ Mem w' m ∧ ∀ p ∈ m, w.heap.size ≤ p.1) := by
 refine Ret.enterM (l := [pV fv ad n cap]) Tryz.func58 rfl Tryz.ntmps58 rfl ([]) (no) (Mem.nil w) ?_
 refine wpM.seq (wpM.region ?_)
 refine LM.box rfl rfl (fun b1 hb1 => ?_)
 refine LM.as rfl ?_
 refine LM.as rfl ?_
 refine LM.nil (QM.sub (e' := [(1, _)]) ⟨rfl, trivial⟩ (QM.then ?_))
 refine wpM.seq ?_
 refine wpM.seq (wpM.region ?_)
 refine LM.rd (om_ldW Tryz.isAgg87 Tryz.sizeOf87 rfl rfl) ?_
 refine LM.callE (oc_call (enters_fn Tryz.func103 (by kernel_rfl) rfl) rfl) (fun w hm hc hg => pmay_spec w hn (hl.ext hc)) ?_
 first | refine LM.val (ov_notD rfl) ?_ | refine LM.val (ov_not rfl) ?_
 refine LM.nil (QM.sub (e' := [(1, _), (11, _)]) ⟨rfl, rfl, trivial⟩ (QM.then ?_))
 first | refine wpM.condD rfl (fun h1 => ?_) (fun h1 => ?_) | refine wpM.condB rfl (fun h1 => ?_) (fun h1 => ?_)
 ·
  refine wpM.seq (wpM.region ?_)
  refine LM.as rfl ?_
  refine LM.as rfl ?_
  refine LM.nil (QM.sub (e' := [(2, _), (3, _)]) ⟨rfl, rfl, trivial⟩ (QM.then ?_))
  refine wpM.ret ?_
  refine QM.then_ret ?_
  refine QM.leave (.inl rfl) [.tmp 2, .tmp 3] Tryz.results58 rfl ?_
  intro w' hm' hc' hg'
  have hm : mayB xs = false := (by simpa using h1); have hw : wordsO fv xs = ([], 1) := (by unfold wordsO; rw [if_neg (by rw [hm]; simp)]); rw [hw]; exact ⟨hc', [], ⟨none, 0, 0, rfl, rfl, .nil _ _ _ _⟩, Mem.nil _, fun p hp => by cases hp⟩
 have hxl : xs.length ≤ 12 := (by have hm : mayB xs = true := (by simpa using h1); unfold mayB at hm; simp only [Bool.and_eq_true, decide_eq_true_eq] at hm; omega)
 refine wpM.skip ?_
 refine QM.then (wpM.seq (wpM.region ?_))
 refine LM.val (ov_build (cs := #[_, _, _, _]) rfl (by first | rfl | kernel_rfl)) ?_
 refine LM.single Tryz.underlying23 Tryz.sizeOf65 Tryz.zeroValue65 rfl rfl rfl rfl rfl (fun b13 hb13 => ?_)
 refine LM.as rfl ?_
 refine LM.nil (QM.sub (e' := [(1, _), (4, _)]) ⟨rfl, rfl, trivial⟩ (QM.then ?_))
 refine wpM.seq ?_
 refine wpM.seq (wpM.region ?_)
 have hlen13 : [(⟨1, wProg, 0, 0⟩ : Wrd)].length = 1 := rfl; change LM _ _ _ _ _ _ _ _ ((b13, Obj.cells (arr fW [(⟨1, wProg, 0, 0⟩ : Wrd)] []) 65 (0, 0)) :: _) _ _ _; have hs13 : Sl fW 65 4 w.heap.size [(⟨1, wProg, 0, 0⟩ : Wrd)] (.slice (some ⟨b13, 0, none⟩) 1 1) [(b13, .cells (arr fW [(⟨1, wProg, 0, 0⟩ : Wrd)] []) 65 (0, 0))] := .inr ⟨b13, 1, [], hb13, rfl, rfl, by decide, by unfold maxLen; decide, rfl⟩
 refine LM.val (ov_field Tryz.underlying87 rfl Tryz.sizeOf4 rfl (k := 0) rfl rfl) ?_
 refine LM.rd (om_ld Tryz.isAgg4 rfl rfl) ?_
 refine LM.nil (QM.sub (e' := [(1, _), (4, _), (15, _)]) ⟨rfl, rfl, rfl, trivial⟩ (QM.then ?_))
 refine wpM.joinK (α := List Wrd × Option Addr × Nat × Nat × Mem0) (fun ⟨l0, ad0, n0, cap0, m0⟩ => [(4, .slice ad0 n0 cap0)]) [(1, _)] (fun ⟨l0, ad0, n0, cap0, m0⟩ => m0 ++ (pB b1 fv ad n cap :: [])) (fun ⟨l0, ad0, n0, cap0, m0⟩ => l0.length ≤ 2 ∧ l0 = ⟨1, wProg, 0, 0⟩ :: (if fv then [⟨1, wForever, 0, 0⟩] else []) ∧ n0 = l0.length ∧ Sl fW 65 4 w.heap.size l0 (.slice ad0 n0 cap0) m0) ⟨rfl, trivial⟩ ?_ ?_
 ·
  first | refine wpM.condD rfl (fun h2 => ?_) (fun h2 => ?_) | refine wpM.condB rfl (fun h2 => ?_) (fun h2 => ?_)
  ·
   refine wpM.region ?_
   refine LM.mv rfl ?_
   refine LM.val (ov_build (cs := #[_, _, _, _]) rfl (by first | rfl | kernel_rfl)) ?_
   refine LM.single Tryz.underlying23 Tryz.sizeOf65 Tryz.zeroValue65 rfl rfl rfl rfl rfl (fun b18 hb18 => ?_)
   refine LM.app (a := (⟨1, wForever, 0, 0⟩ : Wrd)) Tryz.underlying23 Tryz.typeInfo65 rfl rfl rfl rfl rfl rfl rfl (by assumption) (by rfl) (by intro _; rfl) (by intro _ u hu; simp [fW] at hu; (repeat (first | (rcases hu with rfl | hu) | subst hu | rfl))) (by first | exact Nat.le_refl _ | omega) au9 (by first | omega | (unfold maxLen; omega)) (by simp only [Tryz.t65]; omega) (fun ad19 n19 cap19 m19 hn19 hs19 hin19 => ?_)
   refine LM.as rfl ?_
   refine LM.nil (QM.sub (e' := [(1, _), (4, _)]) ⟨rfl, rfl, trivial⟩ ?_)
   refine QM.meetK (([(⟨1, wProg, 0, 0⟩ : Wrd)] ++ [⟨1, wForever, 0, 0⟩], ad19, n19, cap19, m19)) ⟨au2, rfl, trivial⟩ au1 ?_
   · exact ⟨by simp, by rw [if_pos h2]; rfl, by rw [hn19]; rfl, hs19⟩
  refine wpM.skip ?_
  refine QM.meetK (([(⟨1, wProg, 0, 0⟩ : Wrd)], some ⟨b13, 0, none⟩, 1, 1, [(b13, .cells (arr fW [(⟨1, wProg, 0, 0⟩ : Wrd)] []) 65 (0, 0))])) ⟨au2, rfl, trivial⟩ au1 ?_
  · exact ⟨by decide, by rw [if_neg (by rw [h2]; simp)], rfl, hs13⟩
 rintro ⟨l0, ad0, n0, cap0, m0⟩ ⟨hz0, hl0, hn0, hs0⟩
 change QM _ _ _ _ _ (m0 ++ (pB b1 fv ad n cap :: [])) _ _ _
 refine QM.then (wpM.seq (wpM.region ?_))
 refine LM.mv rfl ?_
 refine LM.callE (oc_call (enters_fn Tryz.func104 (by kernel_rfl) rfl) rfl) (fun w hm hc hg => pmark_spec [123] w) ?_
 refine LM.single Tryz.underlying23 Tryz.sizeOf65 Tryz.zeroValue65 rfl rfl rfl rfl rfl (fun b22 hb22 => ?_)
 refine LM.app (a := mk3 [123]) Tryz.underlying23 Tryz.typeInfo65 rfl rfl rfl rfl rfl rfl rfl (by assumption) (by rfl) (by intro _; rfl) (by intro _ u hu; simp [fW] at hu; (repeat (first | (rcases hu with rfl | hu) | subst hu | rfl))) (by first | exact Nat.le_refl _ | omega) au9 (by first | omega | (unfold maxLen; omega)) (by simp only [Tryz.t65]; omega) (fun ad23 n23 cap23 m23 hn23 hs23 hin23 => ?_)
 refine LM.as rfl ?_
 refine LM.nil (QM.sub (e' := [(1, _), (4, _)]) ⟨rfl, rfl, trivial⟩ (QM.then ?_))
 refine wpM.seq ?_
 refine wpM.seq (wpM.region ?_)
 refine LM.val (ov_field Tryz.underlying87 rfl Tryz.sizeOf85 rfl (k := 1) rfl rfl) ?_
 refine LM.rd (om_ld Tryz.isAgg85 rfl rfl) ?_
 refine LM.val (ov_len Tryz.underlying85 rfl) ?_
 refine LM.mv rfl ?_
 refine LM.nil (QM.sub (e' := [(4, _), (25, _), (26, _), (27, _)]) ⟨rfl, rfl, rfl, rfl, trivial⟩ (QM.then ?_))
 refine wpM.block ?_
 refine wpM.loopK0 (α := Nat × List Wrd × Option Addr × Nat × Nat × Mem0) (fun ⟨i, l1, ad1, n1, cap1, m1⟩ => [(4, .slice ad1 n1 cap1), (27, .int .i64 (i : Nat))]) [(25, _), (26, _)] (fun ⟨i, l1, ad1, n1, cap1, m1⟩ => m1 ++ (pB b1 fv ad n cap :: [])) (fun ⟨i, l1, ad1, n1, cap1, m1⟩ => i ≤ xs.length ∧ l1.length ≤ 3 + 4 * i ∧ l1 = l0 ++ [mk3 [123]] ++ (xs.take i).flatMap opW ∧ n1 = l1.length ∧ Sl fW 65 4 w.heap.size l1 (.slice ad1 n1 cap1) m1) (fun ⟨i, l1, ad1, n1, cap1, m1⟩ => xs.length - i) ((0, l0 ++ [mk3 [123]], ad23, n23, cap23, m23)) ⟨au2, au2, rfl, rfl, trivial⟩ au1 ⟨Nat.zero_le _, by simp; omega, by simp, by rw [hn23]; simp, hs23⟩ ?_
 rintro ⟨i, l1, ad1, n1, cap1, m1⟩ ⟨hi, hz1, hl1, hn1, hs1⟩
 change wpM _ _ _ _ _ _ _ (m1 ++ (pB b1 fv ad n cap :: [])) _ _ _
 refine wpM.seq (wpM.region ?_)
 refine LM.val (ov_lss rfl rfl) ?_
 refine LM.nil (QM.sub (e' := [(4, _), (25, _), (26, _), (27, _), (28, _)]) ⟨rfl, rfl, rfl, rfl, rfl, trivial⟩ (QM.then ?_))
 refine wpM.seq ?_
 refine wpM.condD rfl (fun h3 => ?_) (fun h3 => ?_)
 ·
  refine wpM.skip ?_
  refine QM.then ?_
  refine wpM.seq ?_
  refine wpM.block ?_
  refine wpM.seq (wpM.region ?_)
  refine LM.val (ov_idxSN au6 Tryz.underlying85 Tryz.sizeOf135 rfl rfl (by omega)) ?_
  first | refine LM.rd (om_slA (by assumption) (by intro _; rfl) Tryz.isAgg135 Tryz.sizeOf135 rfl au3) ?_ | refine LM.rdC (om_srEA (by assumption) (by intro _; rfl) Tryz.isAgg135 Tryz.sizeOf135 rfl au3 id) ?_ | refine LM.rd (om_ldW Tryz.isAgg135 Tryz.sizeOf135 rfl rfl) ?_ | refine LM.rd (om_ldA Tryz.isAgg135 Tryz.sizeOf135 rfl (vs := [_, _, _]) rfl ⟨rfl, rfl, rfl, trivial⟩) ?_
  refine LM.alloc Tryz.zeroValue135 rfl (fun b6 hb6 => ?_)
  refine LM.stW Tryz.sizeOf135 rfl rfl rfl rfl au7 au8 ?_
  refine LM.nil (QM.sub (e' := [(4, _), (6, _), (25, _), (26, _), (27, _)]) ⟨rfl, rfl, rfl, rfl, rfl, trivial⟩ (QM.then (wpM.seq (wpM.region ?_))))
  refine LM.mv rfl ?_
  refine LM.val (ov_field Tryz.underlying135 rfl Tryz.sizeOf3 rfl (k := 0) rfl rfl) ?_
  refine LM.rd (om_ld Tryz.isAgg3 rfl rfl) ?_
  refine LM.callE (oc_call (enters_fn Tryz.func105 (by kernel_rfl) rfl) rfl) (fun w hm hc hg => name_spec _ w) ?_
  refine LM.val (ov_build (cs := #[_, _, _, _]) rfl (by first | rfl | kernel_rfl)) ?_
  refine LM.single Tryz.underlying23 Tryz.sizeOf65 Tryz.zeroValue65 rfl rfl rfl rfl rfl (fun b36 hb36 => ?_)
  refine LM.app (a := (⟨1, nmT (xs.getD i default).k, 0, 0⟩ : Wrd)) Tryz.underlying23 Tryz.typeInfo65 rfl rfl rfl rfl rfl rfl rfl (by assumption) (by rfl) (by intro _; rfl) (by intro _ u hu; simp [fW] at hu; (repeat (first | (rcases hu with rfl | hu) | subst hu | rfl))) (by first | exact Nat.le_refl _ | omega) au9 (by first | omega | (unfold maxLen; omega)) (by simp only [Tryz.t65]; omega) (fun ad37 n37 cap37 m37 hn37 hs37 hin37 => ?_)
  refine LM.as rfl ?_
  refine LM.nil (QM.sub (e' := [(4, _), (6, _), (25, _), (26, _), (27, _)]) ⟨rfl, rfl, rfl, rfl, rfl, trivial⟩ (QM.then (wpM.seq (wpM.region ?_))))
  refine LM.val (ov_field Tryz.underlying135 rfl Tryz.sizeOf3 rfl (k := 0) rfl rfl) ?_
  refine LM.rd (om_ld Tryz.isAgg3 rfl rfl) ?_
  refine LM.callE (oc_call (enters_fn Tryz.func106 (by kernel_rfl) rfl) rfl) (fun w hm hc hg => spans_spec _ w) ?_
  refine LM.mv rfl ?_
  refine LM.val (ov_extract rfl rfl) ?_
  refine LM.val (ov_extract rfl rfl) ?_
  refine LM.alloc Tryz.zeroValue159 rfl (fun b7 hb7 => ?_)
  refine LM.alloc Tryz.zeroValue159 rfl (fun b8 hb8 => ?_)
  refine LM.stW Tryz.sizeOf159 rfl rfl rfl rfl au7 au8 ?_
  refine LM.stW Tryz.sizeOf159 rfl rfl rfl rfl au7 au8 ?_
  refine LM.nil (QM.sub (e' := [(4, _), (6, _), (7, _), (8, _), (25, _), (26, _), (27, _)]) ⟨rfl, rfl, rfl, rfl, rfl, rfl, rfl, trivial⟩ (QM.then ?_))
  refine wpM.seq ?_
  refine wpM.seq (wpM.region ?_)
  refine LM.val (ov_field Tryz.underlying159 rfl Tryz.sizeOf3 rfl (k := 0) rfl rfl) ?_
  refine LM.rd (om_ld Tryz.isAgg3 rfl rfl) ?_
  refine LM.val (ov_neq rfl rfl) ?_
  refine LM.nil (QM.sub (e' := [(4, _), (6, _), (8, _), (25, _), (26, _), (27, _), (46, _)]) ⟨rfl, rfl, rfl, rfl, rfl, rfl, rfl, trivial⟩ (QM.then ?_))
  refine wpM.joinK (α := List Wrd × Option Addr × Nat × Nat × Mem0) (fun ⟨l2, ad2, n2, cap2, m2⟩ => [(4, .slice ad2 n2 cap2)]) [(6, _), (8, _), (25, _), (26, _), (27, _)] (fun ⟨l2, ad2, n2, cap2, m2⟩ => m2 ++ ((b8, .cells #[.int .i64 (loB (xs.getD i default).k), .int .i64 (hiB (xs.getD i default).k)] 159 (0, 0)) :: (b6, .cells (fO (xs.getD i default)).toArray 135 (0, 0)) :: pB b1 fv ad n cap :: [])) (fun ⟨l2, ad2, n2, cap2, m2⟩ => l2.length ≤ 5 + 4 * i ∧ l2 = l1 ++ [⟨1, nmT (xs.getD i default).k, 0, 0⟩] ++ (if loA (xs.getD i default).k ≠ -1 then [⟨2, [], (xs.getD i default).a, 0⟩] else []) ∧ n2 = l2.length ∧ Sl fW 65 4 w.heap.size l2 (.slice ad2 n2 cap2) m2) ⟨rfl, rfl, rfl, rfl, rfl, trivial⟩ ?_ ?_
  ·
   refine wpM.condD rfl (fun h4 => ?_) (fun h4 => ?_)
   ·
    refine wpM.region ?_
    have hlp : (l1 ++ [(⟨1, nmT (xs.getD i default).k, 0, 0⟩ : Wrd)]).length = l1.length + 1 := (by simp)
    refine LM.mv rfl ?_
    refine LM.val (ov_field Tryz.underlying135 rfl Tryz.sizeOf3 rfl (k := 1) rfl rfl) ?_
    refine LM.rd (om_ld Tryz.isAgg3 rfl rfl) ?_
    refine LM.val (ov_build (cs := #[_, _, _, _]) rfl (by first | rfl | kernel_rfl)) ?_
    refine LM.single Tryz.underlying23 Tryz.sizeOf65 Tryz.zeroValue65 rfl rfl rfl rfl rfl (fun b51 hb51 => ?_)
    refine LM.app (a := (⟨2, [], (xs.getD i default).a, 0⟩ : Wrd)) Tryz.underlying23 Tryz.typeInfo65 rfl rfl rfl rfl rfl rfl rfl (by assumption) (by rfl) (by intro _; rfl) (by intro _ u hu; simp [fW] at hu; (repeat (first | (rcases hu with rfl | hu) | subst hu | rfl))) (by first | exact Nat.le_refl _ | omega) au9 (by first | omega | (unfold maxLen; omega)) (by simp only [Tryz.t65]; omega) (fun ad52 n52 cap52 m52 hn52 hs52 hin52 => ?_)
    refine LM.as rfl ?_
    refine LM.nil (QM.sub (e' := [(4, _), (6, _), (8, _), (25, _), (26, _), (27, _)]) ⟨rfl, rfl, rfl, rfl, rfl, rfl, trivial⟩ ?_)
    refine QM.meetK ((l1 ++ [(⟨1, nmT (xs.getD i default).k, 0, 0⟩ : Wrd)] ++ [⟨2, [], (xs.getD i default).a, 0⟩], ad52, n52, cap52, m52)) ⟨au2, rfl, rfl, rfl, rfl, rfl, trivial⟩ au1 ?_
    · exact ⟨by simp; omega, by rw [if_pos h4], by rw [hn52]; simp, hs52⟩
   refine wpM.skip ?_
   refine QM.meetK ((l1 ++ [(⟨1, nmT (xs.getD i default).k, 0, 0⟩ : Wrd)], ad37, n37, cap37, m37)) ⟨au2, rfl, rfl, rfl, rfl, rfl, trivial⟩ au1 ?_
   · exact ⟨by simp; omega, by rw [if_neg h4]; simp, by rw [hn37]; simp, hs37⟩
  rintro ⟨l2, ad2, n2, cap2, m2⟩ ⟨hz2, hl2, hn2, hs2⟩
  change QM _ _ _ _ _ (m2 ++ ((b8, .cells #[.int .i64 (loB (xs.getD i default).k), .int .i64 (hiB (xs.getD i default).k)] 159 (0, 0)) :: (b6, .cells (fO (xs.getD i default)).toArray 135 (0, 0)) :: pB b1 fv ad n cap :: [])) _ _ _
  refine QM.then ?_
  refine wpM.seq ?_
  refine wpM.seq (wpM.region ?_)
  refine LM.val (ov_field Tryz.underlying159 rfl Tryz.sizeOf3 rfl (k := 0) rfl rfl) ?_
  refine LM.rd (om_ld Tryz.isAgg3 rfl rfl) ?_
  refine LM.val (ov_neq rfl rfl) ?_
  refine LM.nil (QM.sub (e' := [(4, _), (6, _), (25, _), (26, _), (27, _), (55, _)]) ⟨rfl, rfl, rfl, rfl, rfl, rfl, trivial⟩ (QM.then ?_))
  refine wpM.joinK (α := List Wrd × Option Addr × Nat × Nat × Mem0) (fun ⟨l3, ad3, n3, cap3, m3⟩ => [(4, .slice ad3 n3 cap3)]) [(25, _), (26, _), (27, _)] (fun ⟨l3, ad3, n3, cap3, m3⟩ => m3 ++ (pB b1 fv ad n cap :: [])) (fun ⟨l3, ad3, n3, cap3, m3⟩ => l3.length ≤ 6 + 4 * i ∧ l3 = l2 ++ (if loB (xs.getD i default).k ≠ -1 then [⟨2, [], (xs.getD i default).b, 0⟩] else []) ∧ n3 = l3.length ∧ Sl fW 65 4 w.heap.size l3 (.slice ad3 n3 cap3) m3) ⟨rfl, rfl, rfl, trivial⟩ ?_ ?_
  ·
   refine wpM.condD rfl (fun h5 => ?_) (fun h5 => ?_)
   ·
    refine wpM.region ?_
    refine LM.mv rfl ?_
    refine LM.val (ov_field Tryz.underlying135 rfl Tryz.sizeOf3 rfl (k := 2) rfl rfl) ?_
    refine LM.rd (om_ld Tryz.isAgg3 rfl rfl) ?_
    refine LM.val (ov_build (cs := #[_, _, _, _]) rfl (by first | rfl | kernel_rfl)) ?_
    refine LM.single Tryz.underlying23 Tryz.sizeOf65 Tryz.zeroValue65 rfl rfl rfl rfl rfl (fun b60 hb60 => ?_)
    refine LM.app (a := (⟨2, [], (xs.getD i default).b, 0⟩ : Wrd)) Tryz.underlying23 Tryz.typeInfo65 rfl rfl rfl rfl rfl rfl rfl (by assumption) (by rfl) (by intro _; rfl) (by intro _ u hu; simp [fW] at hu; (repeat (first | (rcases hu with rfl | hu) | subst hu | rfl))) (by first | exact Nat.le_refl _ | omega) au9 (by first | omega | (unfold maxLen; omega)) (by simp only [Tryz.t65]; omega) (fun ad61 n61 cap61 m61 hn61 hs61 hin61 => ?_)
    refine LM.as rfl ?_
    refine LM.nil (QM.sub (e' := [(4, _), (25, _), (26, _), (27, _)]) ⟨rfl, rfl, rfl, rfl, trivial⟩ ?_)
    refine QM.meetK ((l2 ++ [(⟨2, [], (xs.getD i default).b, 0⟩ : Wrd)], ad61, n61, cap61, m61)) ⟨au2, rfl, rfl, rfl, trivial⟩ au1 ?_
    · exact ⟨by simp; omega, by rw [if_pos h5], by rw [hn61]; simp, hs61⟩
   refine wpM.skip ?_
   refine QM.meetK ((l2, ad2, n2, cap2, m2)) ⟨au2, rfl, rfl, rfl, trivial⟩ au1 ?_
   · exact ⟨by omega, by rw [if_neg h5]; simp, hn2, hs2⟩
  rintro ⟨l3, ad3, n3, cap3, m3⟩ ⟨hz3, hl3, hn3, hs3⟩
  change QM _ _ _ _ _ (m3 ++ (pB b1 fv ad n cap :: [])) _ _ _
  refine QM.then (wpM.region ?_)
  refine LM.mv rfl ?_
  refine LM.callE (oc_call (enters_fn Tryz.func104 (by kernel_rfl) rfl) rfl) (fun w hm hc hg => pmark_spec [59] w) ?_
  refine LM.single Tryz.underlying23 Tryz.sizeOf65 Tryz.zeroValue65 rfl rfl rfl rfl rfl (fun b64 hb64 => ?_)
  refine LM.app (a := mk3 [59]) Tryz.underlying23 Tryz.typeInfo65 rfl rfl rfl rfl rfl rfl rfl (by assumption) (by rfl) (by intro _; rfl) (by intro _ u hu; simp [fW] at hu; (repeat (first | (rcases hu with rfl | hu) | subst hu | rfl))) (by first | exact Nat.le_refl _ | omega) au9 (by first | omega | (unfold maxLen; omega)) (by simp only [Tryz.t65]; omega) (fun ad65 n65 cap65 m65 hn65 hs65 hin65 => ?_)
  refine LM.as rfl ?_
  refine LM.nil (QM.sub (e' := [(4, _), (25, _), (26, _), (27, _)]) ⟨rfl, rfl, rfl, rfl, trivial⟩ ?_)
  refine QM.block_normal ?_
  refine QM.then (wpM.region ?_)
  refine LM.val (ov_add64 rfl rfl (by omega)) ?_
  refine LM.mv rfl ?_
  refine LM.nil (QM.sub (e' := [(4, _), (25, _), (26, _), (27, _)]) ⟨rfl, rfl, rfl, rfl, trivial⟩ ?_)
  refine QM.againK ((i + 1, l3 ++ [mk3 [59]], ad65, n65, cap65, m65)) ⟨au2, au2, rfl, rfl, trivial⟩ au1 (fun _ h => h) ?_ ?_
  · exact ⟨by omega, by simp; omega, by rw [hl3, hl2, hl1, flat_snoc (by omega)]; simp [opW], by rw [hn65]; simp, hs65⟩
  · first | omega | (dsimp only; omega)
 refine wpM.exit ?_
 refine QM.then_exit ?_
 refine QM.then_exit ?_
 refine QM.block_hit ?_
 refine QM.then (wpM.seq (wpM.region ?_))
 refine LM.mv rfl ?_
 refine LM.callE (oc_call (enters_fn Tryz.func104 (by kernel_rfl) rfl) rfl) (fun w hm hc hg => pmark_spec [125] w) ?_
 refine LM.single Tryz.underlying23 Tryz.sizeOf65 Tryz.zeroValue65 rfl rfl rfl rfl rfl (fun b69 hb69 => ?_)
 refine LM.app (a := mk3 [125]) Tryz.underlying23 Tryz.typeInfo65 rfl rfl rfl rfl rfl rfl rfl (by assumption) (by rfl) (by intro _; rfl) (by intro _ u hu; simp [fW] at hu; (repeat (first | (rcases hu with rfl | hu) | subst hu | rfl))) (by first | exact Nat.le_refl _ | omega) au9 (by first | omega | (unfold maxLen; omega)) (by simp only [Tryz.t65]; omega) (fun ad70 n70 cap70 m70 hn70 hs70 hin70 => ?_)
 refine LM.as rfl ?_
 refine LM.as rfl ?_
 refine LM.nil (QM.sub (e' := [(2, _), (3, _)]) ⟨rfl, rfl, trivial⟩ (QM.then ?_))
 refine wpM.ret ?_
 refine QM.leave (.inl rfl) [.tmp 2, .tmp 3] Tryz.results58 rfl ?_
 intro w' hm' hc' hg'
 have hm : mayB xs = true := (by simpa using h1); have hil : i = xs.length := (by omega); subst hil; rw [List.take_length] at hl1; have hw : wordsO fv xs = (l1 ++ [mk3 [125]], 0) := (by unfold wordsO wordsF; rw [if_pos hm, hl1, hl0]); rw [hw]; exact ⟨hc', m70, ⟨ad70, n70, cap70, rfl, by rw [hn70]; simp, hs70⟩, hm'.pick _, fun p hp => Sl.ge hs70 p hp⟩
set_option maxRecDepth 100000 in
theorem rsame_spec {xs ys : List COp} {f1 f2 : Bool} {ad1 ad2 : Option Addr} {n1 n2 cap1 cap2 : Nat} (w : World) (hn1 : n1 = xs.length) (hl1 : Sr fO 3 xs (.slice ad1 n1 cap1) w) (hn2 : n2 = ys.length) (hl2 : Sr fO 3 ys (.slice ad2 n2 cap2) w) (hx : xs.length ≤ 1000000000) : Ret Tryz.prog 47 #[pV f1 ad1 n1 cap1, pV f2 ad2 n2 cap2] w (fun v w' => v = .bool (decide (f1 = f2) && decide (xs = ys)) ∧ Ext w w') := by
 refine Ret.enterM (l := [pV f1 ad1 n1 cap1, pV f2 ad2 n2 cap2]) Tryz.func47 rfl Tryz.ntmps47 rfl ([]) (no) (Mem.nil w) ?_
 refine wpM.seq (wpM.region ?_)
 refine LM.box rfl rfl (fun b2 hb2 => ?_)
 refine LM.box rfl rfl (fun b3 hb3 => ?_)
 refine LM.as rfl ?_
 refine LM.nil (QM.sub (e' := [(2, _), (3, _)]) ⟨rfl, rfl, trivial⟩ (QM.then ?_))
 refine wpM.seq ?_
 refine wpM.seq (wpM.region ?_)
 refine LM.val (ov_field Tryz.underlying87 rfl Tryz.sizeOf4 rfl (k := 0) rfl rfl) ?_
 refine LM.rd (om_ld Tryz.isAgg4 rfl rfl) ?_
 refine LM.val (ov_field Tryz.underlying87 rfl Tryz.sizeOf4 rfl (k := 0) rfl rfl) ?_
 refine LM.rd (om_ld Tryz.isAgg4 rfl rfl) ?_
 refine LM.val (ov_bneq Tryz.underlying4 rfl rfl) ?_
 refine LM.mv rfl ?_
 first | refine LM.splitD (t := 11) rfl (fun h1 => ?_) (fun h1 => ?_) | refine LM.splitB (t := 11) rfl (fun h1 => ?_) (fun h1 => ?_)
 ·
  refine LM.dr 11 rfl rfl rfl ?_
  refine LM.dr 11 rfl rfl rfl ?_
  refine LM.dr 11 rfl rfl rfl ?_
  refine LM.dr 11 rfl rfl rfl ?_
  refine LM.dr 11 rfl rfl rfl ?_
  refine LM.dr 11 rfl rfl rfl ?_
  refine LM.dr 11 rfl rfl rfl ?_
  refine LM.val (ov_pickT rfl rfl) ?_
  refine LM.nil (QM.sub (e' := [(2, _), (3, _), (19, _)]) ⟨rfl, rfl, rfl, trivial⟩ (QM.then ?_))
  refine wpM.condT rfl ?_
  refine wpM.seq (wpM.region ?_)
  refine LM.as rfl ?_
  refine LM.nil (QM.sub (e' := [(4, _)]) ⟨rfl, trivial⟩ (QM.then ?_))
  refine wpM.ret ?_
  refine QM.then_ret ?_
  refine QM.leave (.inl rfl) [.tmp 4] Tryz.results47 rfl ?_
  intro w' hm' hc' hg'
  refine ⟨?_, hc'⟩; show Value.bool false = _; rw [decide_eq_false (show ¬ f1 = f2 by simpa using h1), Bool.false_and]
 refine LM.sp 11 rfl rfl rfl ?_
 refine LM.val (ov_field Tryz.underlying87 rfl Tryz.sizeOf85 rfl (k := 1) rfl rfl) ?_
 refine LM.sp 11 rfl rfl rfl ?_
 refine LM.rd (om_ld Tryz.isAgg85 rfl rfl) ?_
 refine LM.sp 11 rfl rfl rfl ?_
 refine LM.val (ov_len Tryz.underlying85 rfl) ?_
 refine LM.sp 11 rfl rfl rfl ?_
 refine LM.val (ov_field Tryz.underlying87 rfl Tryz.sizeOf85 rfl (k := 1) rfl rfl) ?_
 refine LM.sp 11 rfl rfl rfl ?_
 refine LM.rd (om_ld Tryz.isAgg85 rfl rfl) ?_
 refine LM.sp 11 rfl rfl rfl ?_
 refine LM.val (ov_len Tryz.underlying85 rfl) ?_
 refine LM.sp 11 rfl rfl rfl ?_
 refine LM.val (ov_neq rfl rfl) ?_
 refine LM.val (ov_pickF rfl rfl) ?_
 refine LM.nil (QM.sub (e' := [(2, _), (3, _), (19, _)]) ⟨rfl, rfl, rfl, trivial⟩ (QM.then ?_))
 refine wpM.condD rfl (fun h2 => ?_) (fun h2 => ?_)
 ·
  refine wpM.seq (wpM.region ?_)
  refine LM.as rfl ?_
  refine LM.nil (QM.sub (e' := [(4, _)]) ⟨rfl, trivial⟩ (QM.then ?_))
  refine wpM.ret ?_
  refine QM.then_ret ?_
  refine QM.leave (.inl rfl) [.tmp 4] Tryz.results47 rfl ?_
  intro w' hm' hc' hg'
  refine ⟨?_, hc'⟩; show Value.bool false = _; rw [decide_eq_false (show ¬ xs = ys by intro q; have := congrArg List.length q; omega), Bool.and_false]
 refine wpM.skip ?_
 refine QM.then ?_
 refine wpM.seq ?_
 refine wpM.seq (wpM.region ?_)
 refine LM.as rfl ?_
 refine LM.nil (QM.sub (e' := [(2, _), (3, _), (5, _)]) ⟨rfl, rfl, rfl, trivial⟩ (QM.then ?_))
 refine wpM.block ?_
 refine wpM.loopK0 (α := Nat) (fun i => [(5, .int .i64 (i : Nat))]) [(2, _), (3, _)] (fun i => pB b2 f1 ad1 n1 cap1 :: pB b3 f2 ad2 n2 cap2 :: []) (fun i => i ≤ xs.length ∧ xs.take i = ys.take i) (fun i => xs.length - i) (0) ⟨au2, rfl, rfl, trivial⟩ au1 ⟨Nat.zero_le _, rfl⟩ ?_
 rintro i ⟨hi, ha⟩
 change wpM _ _ _ _ _ _ _ (pB b2 f1 ad1 n1 cap1 :: pB b3 f2 ad2 n2 cap2 :: []) _ _ _
 refine wpM.seq ?_
 refine wpM.seq (wpM.region ?_)
 refine LM.mv rfl ?_
 refine LM.val (ov_field Tryz.underlying87 rfl Tryz.sizeOf85 rfl (k := 1) rfl rfl) ?_
 refine LM.rd (om_ld Tryz.isAgg85 rfl rfl) ?_
 refine LM.val (ov_len Tryz.underlying85 rfl) ?_
 refine LM.val (ov_lss rfl rfl) ?_
 refine LM.nil (QM.sub (e' := [(2, _), (3, _), (5, _), (24, _)]) ⟨rfl, rfl, rfl, rfl, trivial⟩ (QM.then ?_))
 refine wpM.condD rfl (fun h3 => ?_) (fun h3 => ?_)
 ·
  refine wpM.skip ?_
  refine QM.then ?_
  refine wpM.seq ?_
  refine wpM.block ?_
  refine wpM.seq ?_
  refine wpM.draw [(0, 0), (1, 1), (2, 0), (3, 0), (4, 1), (5, 0), (6, 1), (7, 0), (8, 0), (9, 1), (10, 0)] (by kernel_rfl) (by kernel_rfl) ?_
  refine LD.val rfl rfl (ov_field Tryz.underlying87 rfl Tryz.sizeOf85 rfl (k := 1) rfl rfl) ?_
  refine LD.rd rfl rfl (om_ld Tryz.isAgg85 rfl rfl) ?_
  refine LD.val rfl rfl (ov_move rfl) ?_
  refine LD.val rfl rfl (ov_idxSN au6 Tryz.underlying85 Tryz.sizeOf135 rfl rfl (by omega)) ?_
  first | refine LD.rd rfl rfl (om_slA (by assumption) (by intro _; rfl) Tryz.isAgg135 Tryz.sizeOf135 rfl au3) ?_ | refine LD.rdC rfl rfl (om_srEA (by assumption) (by intro _; rfl) Tryz.isAgg135 Tryz.sizeOf135 rfl au3 id) ?_ | refine LD.rd rfl rfl (om_ldW Tryz.isAgg135 Tryz.sizeOf135 rfl rfl) ?_ | refine LD.rd rfl rfl (om_ldA Tryz.isAgg135 Tryz.sizeOf135 rfl (vs := [_, _, _]) rfl ⟨rfl, rfl, rfl, trivial⟩) ?_
  refine LD.val rfl rfl (ov_field Tryz.underlying87 rfl Tryz.sizeOf85 rfl (k := 1) rfl rfl) ?_
  refine LD.rd rfl rfl (om_ld Tryz.isAgg85 rfl rfl) ?_
  refine LD.val rfl rfl (ov_move rfl) ?_
  refine LD.val rfl rfl (ov_idxSN au6 Tryz.underlying85 Tryz.sizeOf135 rfl rfl (by omega)) ?_
  first | refine LD.rd rfl rfl (om_slA (by assumption) (by intro _; rfl) Tryz.isAgg135 Tryz.sizeOf135 rfl au3) ?_ | refine LD.rdC rfl rfl (om_srEA (by assumption) (by intro _; rfl) Tryz.isAgg135 Tryz.sizeOf135 rfl au3 id) ?_ | refine LD.rd rfl rfl (om_ldW Tryz.isAgg135 Tryz.sizeOf135 rfl rfl) ?_ | refine LD.rd rfl rfl (om_ldA Tryz.isAgg135 Tryz.sizeOf135 rfl (vs := [_, _, _]) rfl ⟨rfl, rfl, rfl, trivial⟩) ?_
  refine LD.val rfl rfl (ov_aneq Tryz.underlying135 (by kernel_rfl) (by kernel_rfl) (by decide) rfl rfl (by rfl) ⟨(by first | rfl | trivial), (by first | rfl | trivial), (by first | rfl | trivial), trivial⟩) ?_
  refine LD.nil ?_
  refine QM.sub (e' := [(2, _), (3, _), (5, _), (37, _)]) ⟨rfl, rfl, rfl, rfl, trivial⟩ (QM.then ?_)
  first | refine wpM.condD rfl (fun h4 => ?_) (fun h4 => ?_) | refine wpM.condB rfl (fun h4 => ?_) (fun h4 => ?_)
  ·
   refine wpM.seq (wpM.region ?_)
   refine LM.as rfl ?_
   refine LM.nil (QM.sub (e' := [(4, _)]) ⟨rfl, trivial⟩ (QM.then ?_))
   refine wpM.ret ?_
   refine QM.block_ret ?_
   refine QM.then_ret ?_
   refine QM.then_ret ?_
   refine QM.block_ret ?_
   refine QM.then_ret ?_
   refine QM.leave (.inl rfl) [.tmp 4] Tryz.results47 rfl ?_
   intro w' hm' hc' hg'
   refine ⟨?_, hc'⟩; show Value.bool false = _; rw [decide_eq_false (show ¬ xs = ys by intro q; rw [fO_veqs, q] at h4; simp at h4), Bool.and_false]
  refine wpM.skip ?_
  refine QM.block_normal ?_
  refine QM.then (wpM.region ?_)
  refine LM.mv rfl ?_
  refine LM.val (ov_add64 rfl rfl (by omega)) ?_
  refine LM.as rfl ?_
  refine LM.nil (QM.sub (e' := [(2, _), (3, _), (5, _)]) ⟨rfl, rfl, rfl, trivial⟩ ?_)
  refine QM.againK (i + 1) ⟨au2, rfl, rfl, trivial⟩ au1 (fun _ h => h) ?_ ?_
  · exact ⟨by omega, eq_at (by omega) (by omega) ha (by rw [fO_veqs] at h4; simpa using h4)⟩
  · omega
 refine wpM.exit ?_
 refine QM.then_exit ?_
 refine QM.then_exit ?_
 refine QM.block_hit ?_
 refine QM.then (wpM.seq (wpM.region ?_))
 refine LM.as rfl ?_
 refine LM.nil (QM.sub (e' := [(4, _)]) ⟨rfl, trivial⟩ (QM.then ?_))
 refine wpM.ret ?_
 refine QM.leave (.inl rfl) [.tmp 4] Tryz.results47 rfl ?_
 intro w' hm' hc' hg'
 refine ⟨?_, hc'⟩; show Value.bool true = _; rw [decide_eq_true (show f1 = f2 by simpa using h1), Bool.true_and, decide_eq_true]; have e1 : xs.take i = xs := List.take_of_length_le (by omega); have e2 : ys.take i = ys := List.take_of_length_le (by omega); rw [← e1, ← e2, ha]
end Go.Eng
namespace Go.Eng
open Go Go.Proofs Go.RowKit
theorem mayB_inv {xs : List COp} (h : mayB xs = true) : 0 < xs.length ∧ xs.length ≤ 12 ∧ xs.all rightB = true := by
  unfold mayB at h; simp only [Bool.and_eq_true, decide_eq_true_eq] at h; exact ⟨h.1.1, h.1.2, h.2⟩
/-! a program's text -/
end Go.Eng
namespace Go.Eng
open Go Go.RowKit
deriving instance DecidableEq for CLk
structure PgC where
  fv : Bool
  xs : List COp
deriving DecidableEq
instance : Inhabited PgC := ⟨⟨false, []⟩⟩
structure StC where
  cr : Int
  gr : Int
  gs : List Int
  ls : List CLk
  ps : List PgC
deriving DecidableEq
instance : Inhabited StC := ⟨⟨0, 0, [], [], []⟩⟩
abbrev wCores : List UInt8 := [99, 111, 114, 101, 115]
abbrev wGrain : List UInt8 := [103, 114, 97, 105, 110]
abbrev wGroup : List UInt8 := [103, 114, 111, 117, 112]
abbrev wLock : List UInt8 := [108, 111, 99, 107]
abbrev wShared : List UInt8 := [115, 104, 97, 114, 101, 100]
abbrev wSlice : List UInt8 := [115, 108, 105, 99, 101]
abbrev wCrit : List UInt8 := [99, 114, 105, 116]
abbrev wRead : List UInt8 := [114, 101, 97, 100]
abbrev wWrite : List UInt8 := [119, 114, 105, 116, 101]
def fldE (ws : List Wrd) (i : Nat) (e : Int) (nm : List UInt8) (most : Int) : Nat × Int × Int := numE ws (needE ws i e 1 nm).1 (needE ws i e 1 nm).2 1 most
def linE (ws : List Wrd) (i : Nat) (e : Int) (nm : List UInt8) (most : Int) : Nat × Int × Int := ((needE ws (fldE ws i e nm most).1 (fldE ws i e nm most).2.1 3 [59]).1, (needE ws (fldE ws i e nm most).1 (fldE ws i e nm most).2.1 3 [59]).2, (fldE ws i e nm most).2.2)
def lkA (ws : List Wrd) (i : Nat) (e : Int) : Nat × Int × Int := fldE ws i e wSlice 16
def lkB (ws : List Wrd) (i : Nat) (e : Int) : Nat × Int × Int := fldE ws (lkA ws i e).1 (lkA ws i e).2.1 wCrit 32
def lkC (ws : List Wrd) (sh : Bool) (i : Nat) (e : Int) : Nat × Int × Int := if sh then fldE ws (lkB ws i e).1 (lkB ws i e).2.1 wRead 16 else ((lkB ws i e).1, (lkB ws i e).2.1, 0)
def lkD (ws : List Wrd) (sh : Bool) (i : Nat) (e : Int) : Nat × Int × Int := if sh then fldE ws (lkC ws sh i e).1 (lkC ws sh i e).2.1 wWrite 16 else ((lkC ws sh i e).1, (lkC ws sh i e).2.1, 0)
def lckE (ws : List Wrd) (sh : Bool) (i : Nat) (e : Int) : Nat × Int × CLk :=
  ((needE ws (lkD ws sh i e).1 (lkD ws sh i e).2.1 3 [59]).1, (needE ws (lkD ws sh i e).1 (lkD ws sh i e).2.1 3 [59]).2, ⟨sh, (lkA ws i e).2.2, (lkB ws i e).2.2, (lkC ws sh i e).2.2, (lkD ws sh i e).2.2⟩)
def gpF (ws : List Wrd) : Nat → Nat → Int → List Int → List Int × Nat × Int
  | 0, i, e, gs => if isE ws i e 1 wGroup then (gs, i, 6) else (gs, i, e)
  | f + 1, i, e, gs => if isE ws i e 1 wGroup then gpF ws f (linE ws i e wGroup 16).1 (linE ws i e wGroup 16).2.1 (gs ++ [(linE ws i e wGroup 16).2.2]) else (gs, i, e)
def gpL (ws : List Wrd) (i : Nat) (e : Int) (gs : List Int) : List Int × Nat × Int := gpF ws (4 - gs.length) i e gs
def gpO (ws : List Wrd) (i : Nat) (e : Int) : List Int × Nat × Int := gpL ws (linE ws i e wGroup 16).1 (linE ws i e wGroup 16).2.1 [(linE ws i e wGroup 16).2.2]
def isL (ws : List Wrd) (i : Nat) (e : Int) : Bool := isE ws i e 1 wLock || isE ws i e 1 wShared
def lkF (ws : List Wrd) : Nat → Nat → Int → List CLk → List CLk × Nat × Int
  | 0, i, e, ls => if isL ws i e then (ls, i, 6) else (ls, i, e)
  | f + 1, i, e, ls => if isL ws i e then lkF ws f (lckE ws (isE ws i e 1 wShared) (i + 1) e).1 (lckE ws (isE ws i e 1 wShared) (i + 1) e).2.1 (ls ++ [(lckE ws (isE ws i e 1 wShared) (i + 1) e).2.2]) else (ls, i, e)
def lkL (ws : List Wrd) (i : Nat) (e : Int) (ls : List CLk) : List CLk × Nat × Int := lkF ws (8 - ls.length) i e ls
def isP (ws : List Wrd) (i : Nat) (e : Int) (ps : List PgC) : Bool := decide (e = 0) && (decide (ps.length = 0) || isE ws i e 1 wProg)
def prC (r : Bool × List COp × Int × Int) : PgC := ⟨r.1, r.2.1⟩
def pgF (ws : List Wrd) : Nat → Nat → Int → List PgC → List Int → List PgC × List Int × Nat × Int
  | 0, i, e, ps, pl => if isP ws i e ps then (ps, pl, i, 6) else (ps, pl, i, e)
  | f + 1, i, e, ps, pl => if isP ws i e ps then pgF ws f (parseO ws (i : Int)).2.2.1.toNat (parseO ws (i : Int)).2.2.2 (ps ++ [prC (parseO ws (i : Int))]) (pl ++ [(i : Int)]) else (ps, pl, i, e)
def pgL (ws : List Wrd) (i : Nat) (e : Int) (ps : List PgC) (pl : List Int) : List PgC × List Int × Nat × Int := pgF ws (8 - ps.length) i e ps pl
def misB (ls : List CLk) (n : Nat) (p : PgC) : Bool := decide ((ckO p.fv p.xs ls (n : Int)).2 ≠ 0)
def misI (ls : List CLk) (ps : List PgC) : Int := fixI (misB ls ps.length) ps
def misE (ls : List CLk) (ps : List PgC) (j : Int) : Int := if j < 0 then 0 else (ckO (ps.getD j.toNat default).fv (ps.getD j.toNat default).xs ls (ps.length : Int)).2
def sA (ws : List Wrd) (i : Nat) : Nat × Int × Int := linE ws i 0 wCores 4
def sB2 (ws : List Wrd) (i : Nat) : Nat × Int × Int := linE ws (sA ws i).1 (sA ws i).2.1 wGrain 8
def sG (ws : List Wrd) (i : Nat) : List Int × Nat × Int := gpO ws (sB2 ws i).1 (sB2 ws i).2.1
def sL (ws : List Wrd) (i : Nat) : List CLk × Nat × Int := lkL ws (sG ws i).2.1 (sG ws i).2.2 []
def sP (ws : List Wrd) (i : Nat) : List PgC × List Int × Nat × Int := pgL ws (sL ws i).2.1 (sL ws i).2.2 [] []
def stpR (ws : List Wrd) (i : Nat) : StC × Int × Int :=
  if (sP ws i).2.2.2 ≠ 0 then (default, ((sP ws i).2.2.1 : Int), (sP ws i).2.2.2)
  else if 0 ≤ misI (sL ws i).1 (sP ws i).1 then (default, (sP ws i).2.1.getD (misI (sL ws i).1 (sP ws i).1).toNat 0, misE (sL ws i).1 (sP ws i).1 (misI (sL ws i).1 (sP ws i).1))
  else (⟨(sA ws i).2.2, (sB2 ws i).2.2, (sG ws i).1, (sL ws i).1, (sP ws i).1⟩, ((sP ws i).2.2.1 : Int), 0)
def setO (ws : List Wrd) (p : Int) : StC × Int × Int := if p < 0 ∨ (ws.length : Int) < p then (default, 0, 5) else stpR ws p.toNat
theorem set_nat {ws : List Wrd} {i : Nat} (h : i ≤ ws.length) : setO ws (i : Int) = stpR ws i := by
  unfold setO; rw [if_neg (by omega), Int.toNat_natCast]
/-! where they stand -/
theorem need_le {ws : List Wrd} {i : Nat} {e k : Int} {t : List UInt8} (h : i ≤ ws.length) : (needE ws i e k t).1 ≤ ws.length := by
  unfold needE; split
  · rename_i q; exact (isE_lt q).1
  · split <;> exact h
theorem fld_le {ws : List Wrd} {i : Nat} {e : Int} {nm : List UInt8} {m : Int} (h : i ≤ ws.length) : (fldE ws i e nm m).1 ≤ ws.length := by
  have h1 := need_le (ws := ws) (i := i) (e := e) (k := 1) (t := nm) h
  unfold fldE numE; split
  · exact h1
  · exact (numR_le h1).2
theorem lin_le {ws : List Wrd} {i : Nat} {e : Int} {nm : List UInt8} {m : Int} (h : i ≤ ws.length) : (linE ws i e nm m).1 ≤ ws.length := need_le (fld_le h)
theorem lkA_le {ws : List Wrd} {i : Nat} {e : Int} (h : i ≤ ws.length) : (lkA ws i e).1 ≤ ws.length := fld_le h
theorem lkB_le {ws : List Wrd} {i : Nat} {e : Int} (h : i ≤ ws.length) : (lkB ws i e).1 ≤ ws.length := fld_le (lkA_le h)
theorem lkC_le {ws : List Wrd} {i : Nat} {e : Int} {sh : Bool} (h : i ≤ ws.length) : (lkC ws sh i e).1 ≤ ws.length := by
  unfold lkC; split
  · exact fld_le (lkB_le h)
  · exact lkB_le h
theorem lkD_le {ws : List Wrd} {i : Nat} {e : Int} {sh : Bool} (h : i ≤ ws.length) : (lkD ws sh i e).1 ≤ ws.length := by
  unfold lkD; split
  · exact fld_le (lkC_le h)
  · exact lkC_le h
theorem lck_le {ws : List Wrd} {i : Nat} {e : Int} {sh : Bool} (h : i ≤ ws.length) : (lckE ws sh i e).1 ≤ ws.length := need_le (lkD_le h)
/-! a state with an error stays -/
/-! steps of the loops -/
theorem gpL_stop {ws : List Wrd} {i : Nat} {e : Int} {gs : List Int} (h : isE ws i e 1 wGroup = false) : gpL ws i e gs = (gs, i, e) := by
  unfold gpL; cases 4 - gs.length <;> (unfold gpF; rw [if_neg (by rw [h]; simp)])
theorem gpL_full {ws : List Wrd} {i : Nat} {e : Int} {gs : List Int} (h : isE ws i e 1 wGroup = true) (hl : 4 ≤ gs.length) : gpL ws i e gs = (gs, i, 6) := by
  unfold gpL; rw [show 4 - gs.length = 0 by omega]; unfold gpF; rw [if_pos h]
theorem gpL_next {ws : List Wrd} {i : Nat} {e : Int} {gs : List Int} (h : isE ws i e 1 wGroup = true) (hl : gs.length < 4) : gpL ws i e gs = gpL ws (linE ws i e wGroup 16).1 (linE ws i e wGroup 16).2.1 (gs ++ [(linE ws i e wGroup 16).2.2]) := by
  unfold gpL
  obtain ⟨f, hf⟩ : ∃ f, 4 - gs.length = f + 1 := ⟨4 - gs.length - 1, by omega⟩
  rw [hf, gpF, if_pos h, List.length_append, List.length_singleton, show 4 - (gs.length + 1) = f by omega]
theorem lkL_stop {ws : List Wrd} {i : Nat} {e : Int} {ls : List CLk} (h : isL ws i e = false) : lkL ws i e ls = (ls, i, e) := by
  unfold lkL; cases 8 - ls.length <;> (unfold lkF; rw [if_neg (by rw [h]; simp)])
theorem lkL_full {ws : List Wrd} {i : Nat} {e : Int} {ls : List CLk} (h : isL ws i e = true) (hl : 8 ≤ ls.length) : lkL ws i e ls = (ls, i, 6) := by
  unfold lkL; rw [show 8 - ls.length = 0 by omega]; unfold lkF; rw [if_pos h]
theorem lkL_next {ws : List Wrd} {i : Nat} {e : Int} {ls : List CLk} (h : isL ws i e = true) (hl : ls.length < 8) : lkL ws i e ls = lkL ws (lckE ws (isE ws i e 1 wShared) (i + 1) e).1 (lckE ws (isE ws i e 1 wShared) (i + 1) e).2.1 (ls ++ [(lckE ws (isE ws i e 1 wShared) (i + 1) e).2.2]) := by
  unfold lkL
  obtain ⟨f, hf⟩ : ∃ f, 8 - ls.length = f + 1 := ⟨8 - ls.length - 1, by omega⟩
  rw [hf, lkF, if_pos h, List.length_append, List.length_singleton, show 8 - (ls.length + 1) = f by omega]
theorem pgL_stop {ws : List Wrd} {i : Nat} {e : Int} {ps : List PgC} {pl : List Int} (h : isP ws i e ps = false) : pgL ws i e ps pl = (ps, pl, i, e) := by
  unfold pgL; cases 8 - ps.length <;> (unfold pgF; rw [if_neg (by rw [h]; simp)])
theorem pgL_full {ws : List Wrd} {i : Nat} {e : Int} {ps : List PgC} {pl : List Int} (h : isP ws i e ps = true) (hl : 8 ≤ ps.length) : pgL ws i e ps pl = (ps, pl, i, 6) := by
  unfold pgL; rw [show 8 - ps.length = 0 by omega]; unfold pgF; rw [if_pos h]
theorem pgL_next {ws : List Wrd} {i : Nat} {e : Int} {ps : List PgC} {pl : List Int} (h : isP ws i e ps = true) (hl : ps.length < 8) : pgL ws i e ps pl = pgL ws (parseO ws (i : Int)).2.2.1.toNat (parseO ws (i : Int)).2.2.2 (ps ++ [prC (parseO ws (i : Int))]) (pl ++ [(i : Int)]) := by
  unfold pgL
  obtain ⟨f, hf⟩ : ∃ f, 8 - ps.length = f + 1 := ⟨8 - ps.length - 1, by omega⟩
  rw [hf, pgF, if_pos h, List.length_append, List.length_singleton, show 8 - (ps.length + 1) = f by omega]
/-! which may be -/
def winB (n most : Int) : Bool := decide (1 ≤ n) && decide (n ≤ most)
def lokB (x : CLk) : Bool := (if x.sh then winB x.rd 16 && winB x.wr 16 else decide (x.rd = 0) && decide (x.wr = 0)) && winB x.sl 16 && winB x.cr 32
def mayS (s : StC) : Bool := winB s.cr 4 && winB s.gr 8 && (winB (s.gs.length : Int) 4 && s.gs.all (fun n => winB n 16)) && (decide (s.ls.length ≤ 8) && s.ls.all lokB) && winB (s.ps.length : Int) 8 && !s.ps.any (misB s.ls s.ps.length)
/-! its words -/
def nmE (t : List UInt8) : Wrd := ⟨1, t, 0, 0⟩
def noE (n : Int) : Wrd := ⟨2, [], n, 0⟩
def fldW (t : List UInt8) (n : Int) : List Wrd := [nmE t, noE n]
def linW (t : List UInt8) (n : Int) : List Wrd := fldW t n ++ [mk3 [59]]
def lckW (x : CLk) : List Wrd := nmE (if x.sh then wShared else wLock) :: (fldW wSlice x.sl ++ fldW wCrit x.cr ++ (if x.sh then fldW wRead x.rd ++ fldW wWrite x.wr else []) ++ [mk3 [59]])
def setW (s : StC) : List Wrd := linW wCores s.cr ++ linW wGrain s.gr ++ s.gs.flatMap (linW wGroup) ++ s.ls.flatMap lckW ++ s.ps.flatMap (fun p => wordsF p.fv p.xs)
def wordsS (s : StC) : List Wrd × Int := if mayS s then (setW s, 0) else ([], 1)
end Go.Eng
namespace Go.Eng
open Go Go.RowKit
theorem fix_ge {α : Type} {p : α → Bool} {xs : List α} (d : α) (h : 0 ≤ fixI p xs) : (fixI p xs).toNat < xs.length ∧ p (xs.getD (fixI p xs).toNat d) = true := by
  unfold fixI at h ⊢
  split at h
  · rename_i q
    rw [if_pos q, Int.toNat_natCast]
    have hlt : xs.findIdx p < xs.length := by
      obtain ⟨x, hx, hp⟩ := List.any_eq_true.1 q
      exact List.findIdx_lt_length_of_exists ⟨x, hx, hp⟩
    refine ⟨hlt, ?_⟩
    have e := getq d hlt
    rw [List.getElem?_eq_getElem hlt] at e
    rw [← Option.some.inj e]
    exact List.findIdx_getElem (w := hlt)
  · omega
theorem fix_lt {α : Type} {p : α → Bool} {xs : List α} (h : ¬ 0 ≤ fixI p xs) : xs.any p = false := by
  unfold fixI at h
  cases q : xs.any p with
  | false => rfl
  | true => rw [if_pos q] at h; omega
/-! what is parsed may be -/
theorem isL_lt {ws : List Wrd} {i : Nat} {e : Int} (h : isL ws i e = true) : i < ws.length ∧ e = 0 := by
  unfold isL at h; rw [Bool.or_eq_true] at h
  rcases h with h | h <;> exact isE_lt h
theorem lkF_zero {ws : List Wrd} : ∀ (f i : Nat) (e : Int) (ls : List CLk), (lkF ws f i e ls).2.2 = 0 → e = 0
  | 0, i, e, ls, h => by
    unfold lkF at h; split at h
    · rename_i q; exact (isL_lt q).2
    · exact h
  | f + 1, i, e, ls, h => by
    unfold lkF at h; split at h
    · rename_i q; exact (isL_lt q).2
    · exact h
theorem isP_zero {ws : List Wrd} {i : Nat} {e : Int} {ps : List PgC} (h : isP ws i e ps = true) : e = 0 := by
  unfold isP at h; simp only [Bool.and_eq_true, decide_eq_true_eq] at h; exact h.1
theorem pgF_zero {ws : List Wrd} : ∀ (f i : Nat) (e : Int) (ps : List PgC) (pl : List Int), (pgF ws f i e ps pl).2.2.2 = 0 → e = 0
  | 0, i, e, ps, pl, h => by
    unfold pgF at h; split at h
    · rename_i q; exact isP_zero q
    · exact h
  | f + 1, i, e, ps, pl, h => by
    unfold pgF at h; split at h
    · rename_i q; exact isP_zero q
    · exact h
theorem winL (n : Nat) (m : Int) : winB (n : Int) m = true ↔ 1 ≤ n ∧ (n : Int) ≤ m := by
  unfold winB; simp only [Bool.and_eq_true, decide_eq_true_eq]; omega
/-! words are parsed again -/
theorem lckW_len (x : CLk) : (lckW x).length = 1 + (if x.sh then 9 else 5) := by
  unfold lckW fldW; cases x.sh <;> simp
theorem mayS_inv {s : StC} (h : mayS s = true) : winB s.cr 4 = true ∧ winB s.gr 8 = true ∧ (1 ≤ s.gs.length ∧ s.gs.length ≤ 4) ∧ s.gs.all (fun n => winB n 16) = true ∧ s.ls.length ≤ 8 ∧ s.ls.all lokB = true ∧ (1 ≤ s.ps.length ∧ s.ps.length ≤ 8) ∧ s.ps.any (misB s.ls s.ps.length) = false := by
  unfold mayS at h
  simp only [Bool.and_eq_true, decide_eq_true_eq, Bool.not_eq_true', winL] at h
  obtain ⟨⟨⟨⟨⟨a, b⟩, ⟨c, d⟩⟩, ⟨e, f⟩⟩, g⟩, k⟩ := h
  exact ⟨a, b, ⟨c.1, by omega⟩, d, e, f, ⟨g.1, by omega⟩, k⟩
theorem mayS_progs {s : StC} (h : mayS s = true) : s.ps.all (fun p => mayB p.xs) = true := by
  have h1 := (mayS_inv h).2.2.2.2.2.2.2
  rw [List.all_eq_true]
  intro p hp
  have h2 := List.any_eq_false.1 h1 p hp
  have h3 : (ckO p.fv p.xs s.ls (s.ps.length : Int)).2 = 0 := by
    unfold misB at h2; simpa using h2
  exact (ck_zero h3).1
/-! how many words -/
theorem setW_text (s : StC) : ∀ x ∈ setW s, x.t.length ≤ 7 := by
  have hf : ∀ (t : List UInt8) (n : Int), t.length ≤ 7 → ∀ x ∈ fldW t n, x.t.length ≤ 7 := by
    intro t n ht x hx
    simp only [fldW, List.mem_cons, List.not_mem_nil, or_false] at hx
    rcases hx with rfl | rfl
    · exact ht
    · simp [noE]
  have hl : ∀ (t : List UInt8) (n : Int), t.length ≤ 7 → ∀ x ∈ linW t n, x.t.length ≤ 7 := by
    intro t n ht x hx
    simp only [linW, List.mem_append, List.mem_cons, List.not_mem_nil, or_false] at hx
    rcases hx with hx | rfl
    · exact hf t n ht x hx
    · simp [mk3]
  intro x hx
  simp only [setW, List.mem_append, List.mem_flatMap] at hx
  rcases hx with (((hx | hx) | ⟨g, _, hx⟩) | ⟨l, _, hx⟩) | ⟨p, _, hx⟩
  · exact hl _ _ (by decide) x hx
  · exact hl _ _ (by decide) x hx
  · exact hl _ _ (by decide) x hx
  · simp only [lckW, List.mem_cons, List.mem_append, List.not_mem_nil, or_false] at hx
    rcases hx with rfl | ((hx | hx) | hx) | rfl
    · cases l.sh <;> simp [nmE]
    · exact hf _ _ (by decide) x hx
    · exact hf _ _ (by decide) x hx
    · split at hx
      · rcases List.mem_append.1 hx with hx | hx
        · exact hf _ _ (by decide) x hx
        · exact hf _ _ (by decide) x hx
      · cases hx
    · simp [mk3]
  · exact words_text p.fv p.xs x hx
end Go.Eng
namespace Go.Eng
open Go Go.Proofs Go.RowKit
theorem row_sr {α : Type} {f : α → List Value} {s : Nat} {xs : List α} {b : Nat} {cs : Array Value} {E : TypeId} {fz : Nat × Nat} {w : World} (n : Nat) (h : w.heap[b]? = some (.cells cs E fz)) (hn : n = xs.length) (hcs : cs = arr f xs []) (hf : ∀ a, (f a).length = s) : Sr f s xs (.slice (some ⟨b, 0, none⟩) n n) w := by
  subst hn; exact Sr.row h hcs rfl (Nat.le_refl _) hf
set_option maxRecDepth 100000 in
theorem index_int {xs : List Int} {ad : Option Addr} {n cap : Nat} (x : Int) (w : World) (hn : n = xs.length) (hl : Sr fI 1 xs (.slice ad n cap) w) (hx : xs.length ≤ 1000) : Ret Tryz.prog 170 #[.slice ad n cap, .int .i64 x] w (fun v w' => v = .int .i64 (fixI (fun y => decide (x = y)) xs) ∧ Ext w w') := by
 refine Ret.enterM (l := [.slice ad n cap, .int .i64 x]) Tryz.func170 rfl Tryz.ntmps170 rfl ([]) (no) (Mem.nil w) ?_
 refine wpM.seq (wpM.region ?_)
 refine LM.as rfl ?_
 refine LM.nil (QM.sub (e' := [(0, _), (1, _)]) ⟨rfl, rfl, trivial⟩ (QM.then ?_))
 refine wpM.seq ?_
 refine wpM.seq (wpM.region ?_)
 refine LM.mv rfl ?_
 refine LM.val (ov_len Tryz.underlying26 rfl) ?_
 refine LM.mv rfl ?_
 refine LM.nil (QM.sub (e' := [(0, _), (1, _), (7, _), (8, _)]) ⟨rfl, rfl, rfl, rfl, trivial⟩ (QM.then ?_))
 refine wpM.block ?_
 refine wpM.loopK0 (α := Nat) (fun i => [(8, .int .i64 (i : Nat))]) [(0, _), (1, _), (7, _)] (fun i => []) (fun i => i ≤ xs.length ∧ (xs.take i).any (fun y => decide (x = y)) = false) (fun i => xs.length - i) (0) ⟨au2, rfl, rfl, rfl, trivial⟩ au1 ⟨Nat.zero_le _, rfl⟩ ?_
 rintro i ⟨hi, ha⟩
 change wpM _ _ _ _ _ _ _ ([]) _ _ _
 refine wpM.seq (wpM.region ?_)
 refine LM.val (ov_lss rfl rfl) ?_
 refine LM.nil (QM.sub (e' := [(0, _), (1, _), (7, _), (8, _), (9, _)]) ⟨rfl, rfl, rfl, rfl, rfl, trivial⟩ (QM.then ?_))
 refine wpM.seq ?_
 refine wpM.condD rfl (fun h1 => ?_) (fun h1 => ?_)
 ·
  refine wpM.skip ?_
  refine QM.then ?_
  refine wpM.seq ?_
  refine wpM.block ?_
  refine wpM.seq (wpM.region ?_)
  refine LM.mv rfl ?_
  refine LM.as rfl ?_
  refine LM.nil (QM.sub (e' := [(0, _), (1, _), (5, _), (7, _), (8, _)]) ⟨rfl, rfl, rfl, rfl, rfl, trivial⟩ (QM.then (wpM.seq (wpM.region ?_))))
  refine LM.mv rfl ?_
  refine LM.mv rfl ?_
  refine LM.mv rfl ?_
  refine LM.val (ov_idxSN au6 Tryz.underlying26 Tryz.sizeOf3 rfl rfl (by omega)) ?_
  first | refine LM.rd (om_sl1 (by assumption) (by intro _; rfl) Tryz.isAgg3 rfl rfl (by exact getq 0 au4) (by rfl)) ?_ | refine LM.rdC (om_sr1 (by assumption) Tryz.isAgg3 rfl rfl (by exact getq 0 au4) (by rfl) id) ?_ | refine LM.rd (om_ld Tryz.isAgg3 rfl rfl) ?_
  refine LM.val (ov_eql rfl rfl) ?_
  refine LM.nil (QM.sub (e' := [(0, _), (1, _), (5, _), (7, _), (8, _), (16, _)]) ⟨rfl, rfl, rfl, rfl, rfl, rfl, trivial⟩ (QM.then ?_))
  refine wpM.condD rfl (fun h2 => ?_) (fun h2 => ?_)
  ·
   refine wpM.seq (wpM.region ?_)
   refine LM.mv rfl ?_
   refine LM.as rfl ?_
   refine LM.nil (QM.sub (e' := [(4, _)]) ⟨rfl, trivial⟩ (QM.then ?_))
   refine wpM.ret ?_
   refine QM.block_ret ?_
   refine QM.then_ret ?_
   refine QM.then_ret ?_
   refine QM.block_ret ?_
   refine QM.then_ret ?_
   refine QM.leave (.inl rfl) [.tmp 4] Tryz.results170 rfl ?_
   intro w' hm' hc' hg'
   exact ⟨by show Value.int .i64 _ = _; rw [fix_hit 0 ha (by omega) (decide_eq_true h2)], hc'⟩
  refine wpM.skip ?_
  refine QM.block_normal ?_
  refine QM.then (wpM.region ?_)
  refine LM.val (ov_add64 rfl rfl (by omega)) ?_
  refine LM.mv rfl ?_
  refine LM.nil (QM.sub (e' := [(0, _), (1, _), (7, _), (8, _)]) ⟨rfl, rfl, rfl, rfl, trivial⟩ ?_)
  refine QM.againK (i + 1) ⟨au2, rfl, rfl, rfl, trivial⟩ au1 (fun _ h => h) ?_ ?_
  · exact ⟨by omega, by rw [any_snoc 0 (by omega), ha, Bool.false_or]; exact decide_eq_false h2⟩
  · omega
 refine wpM.exit ?_
 refine QM.then_exit ?_
 refine QM.then_exit ?_
 refine QM.block_hit ?_
 refine QM.then (wpM.seq (wpM.region ?_))
 refine LM.as rfl ?_
 refine LM.nil (QM.sub (e' := [(4, _)]) ⟨rfl, trivial⟩ (QM.then ?_))
 refine wpM.ret ?_
 refine QM.leave (.inl rfl) [.tmp 4] Tryz.results170 rfl ?_
 intro w' hm' hc' hg'
 have hil : i = xs.length := (by omega); subst hil; rw [List.take_length] at ha; exact ⟨by show Value.int .i64 _ = _; rw [fix_miss ha], hc'⟩
set_option maxRecDepth 100000 in
theorem contains_int {xs : List Int} {ad : Option Addr} {n cap : Nat} (x : Int) (w : World) (hn : n = xs.length) (hl : Sr fI 1 xs (.slice ad n cap) w) (hx : xs.length ≤ 1000) : Ret Tryz.prog 154 #[.slice ad n cap, .int .i64 x] w (fun v w' => v = .bool (xs.any (fun y => decide (x = y))) ∧ Ext w w') := by
 refine Ret.enterM (l := [.slice ad n cap, .int .i64 x]) Tryz.func154 rfl Tryz.ntmps154 rfl ([]) (no) (Mem.nil w) ?_
 refine wpM.seq (wpM.region ?_)
 refine LM.as rfl ?_
 refine LM.nil (QM.sub (e' := [(0, _), (1, _)]) ⟨rfl, rfl, trivial⟩ (QM.then (wpM.seq (wpM.region ?_))))
 refine LM.mv rfl ?_
 refine LM.mv rfl ?_
 refine LM.callE (oc_call (enters_fn Tryz.func170 (by kernel_rfl) rfl) rfl) (fun w hm hc hg => index_int x w hn (hl.ext hc) hx) ?_
 refine LM.val (ov_geq rfl rfl) ?_
 refine LM.as rfl ?_
 refine LM.nil (QM.sub (e' := [(4, _)]) ⟨rfl, trivial⟩ (QM.then ?_))
 refine wpM.ret ?_
 refine QM.leave (.inl rfl) [.tmp 4] Tryz.results154 rfl ?_
 intro w' hm' hc' hg'
 exact ⟨by show Value.bool _ = _; rw [← fix_pos], hc'⟩
set_option maxRecDepth 100000 in
theorem takes_spec (k : Int) (w : World) : Ret Tryz.prog 151 #[.int .i64 k] w (fun v w' => v = .bool (takesB k) ∧ Ext w w') := by
 refine Ret.enterM (l := [.int .i64 k]) Tryz.func151 rfl Tryz.ntmps151 rfl ([]) (no) (Mem.nil w) ?_
 refine wpM.seq (wpM.region ?_)
 refine LM.as rfl ?_
 refine LM.nil (QM.sub (e' := [(0, _)]) ⟨rfl, trivial⟩ (QM.then (wpM.seq (wpM.region ?_))))
 refine LM.row (vs := [_, _, _, _]) Tryz.underlying26 Tryz.sizeOf3 Tryz.zeroValue3 rfl rfl rfl rfl rfl rfl (fun b3 hb3 => ?_)
 refine LM.mv rfl ?_
 refine LM.callE (oc_call (enters_fn Tryz.func154 (by kernel_rfl) rfl) rfl) (fun w hm hc hg => contains_int (xs := [2, 3, 4, 5]) k w rfl (row_sr 4 (hm.at b3) rfl rfl (fun _ => rfl)) (by decide)) ?_
 refine LM.as rfl ?_
 refine LM.nil (QM.sub (e' := [(2, _)]) ⟨rfl, trivial⟩ (QM.then ?_))
 refine wpM.ret ?_
 refine QM.leave (.inl rfl) [.tmp 2] Tryz.results151 rfl ?_
 intro w' hm' hc' hg'
 exact ⟨by show Value.bool _ = _; rw [takes_row], hc'⟩
set_option maxRecDepth 100000 in
theorem passes_spec (o : COp) (w : World) : Ret Tryz.prog 132 #[.agg (fO o).toArray] w (fun v w' => v = .bool (passB o.k) ∧ Ext w w') := by
 refine Ret.enterM (l := [.agg (fO o).toArray]) Tryz.func132 rfl Tryz.ntmps132 rfl ([]) (no) (Mem.nil w) ?_
 refine wpM.seq (wpM.region ?_)
 refine LM.box rfl rfl (fun b1 hb1 => ?_)
 refine LM.as rfl ?_
 refine LM.nil (QM.sub (e' := [(1, _)]) ⟨rfl, trivial⟩ (QM.then (wpM.seq (wpM.region ?_))))
 refine LM.row (vs := [_, _, _, _]) Tryz.underlying26 Tryz.sizeOf3 Tryz.zeroValue3 rfl rfl rfl rfl rfl rfl (fun b3 hb3 => ?_)
 refine LM.val (ov_field Tryz.underlying135 rfl Tryz.sizeOf3 rfl (k := 0) rfl rfl) ?_
 refine LM.rd (om_ld Tryz.isAgg3 rfl rfl) ?_
 refine LM.callE (oc_call (enters_fn Tryz.func154 (by kernel_rfl) rfl) rfl) (fun w hm hc hg => contains_int (xs := [1, 7, 8, 11]) o.k w rfl (row_sr 4 (hm.at b3) rfl rfl (fun _ => rfl)) (by decide)) ?_
 refine LM.as rfl ?_
 refine LM.nil (QM.sub (e' := [(2, _)]) ⟨rfl, trivial⟩ (QM.then ?_))
 refine wpM.ret ?_
 refine QM.leave (.inl rfl) [.tmp 2] Tryz.results132 rfl ?_
 intro w' hm' hc' hg'
 exact ⟨by show Value.bool _ = _; rw [pass_row], hc'⟩
set_option maxRecDepth 100000 in
theorem ixf_pass {xs : List COp} {ad : Option Addr} {n cap : Nat} (w : World) (hn : n = xs.length) (hl : Sr fO 3 xs (.slice ad n cap) w) (hx : xs.length ≤ 1000000) : Ret Tryz.prog 153 #[.slice ad n cap, .func (.func 132) #[] #[]] w (fun v w' => v = .int .i64 (fixI (fun o => passB o.k) xs) ∧ Ext w w') := by
 refine Ret.enterM (l := [.slice ad n cap, .func (.func 132) #[] #[]]) Tryz.func153 rfl Tryz.ntmps153 rfl ([]) (no) (Mem.nil w) ?_
 refine wpM.seq (wpM.region ?_)
 refine LM.as rfl ?_
 refine LM.nil (QM.sub (e' := [(0, _), (1, _)]) ⟨rfl, rfl, trivial⟩ (QM.then ?_))
 refine wpM.seq ?_
 refine wpM.seq (wpM.region ?_)
 refine LM.mv rfl ?_
 refine LM.val (ov_len Tryz.underlying85 rfl) ?_
 refine LM.mv rfl ?_
 refine LM.nil (QM.sub (e' := [(0, _), (1, _), (7, _), (8, _)]) ⟨rfl, rfl, rfl, rfl, trivial⟩ (QM.then ?_))
 refine wpM.block ?_
 refine wpM.loopK0 (α := Nat) (fun i => [(8, .int .i64 (i : Nat))]) [(0, _), (1, _), (7, _)] (fun i => []) (fun i => i ≤ xs.length ∧ (xs.take i).any (fun o => passB o.k) = false) (fun i => xs.length - i) (0) ⟨au2, rfl, rfl, rfl, trivial⟩ au1 ⟨Nat.zero_le _, rfl⟩ ?_
 rintro i ⟨hi, ha⟩
 change wpM _ _ _ _ _ _ _ ([]) _ _ _
 refine wpM.seq (wpM.region ?_)
 refine LM.val (ov_lss rfl rfl) ?_
 refine LM.nil (QM.sub (e' := [(0, _), (1, _), (7, _), (8, _), (9, _)]) ⟨rfl, rfl, rfl, rfl, rfl, trivial⟩ (QM.then ?_))
 refine wpM.seq ?_
 refine wpM.condD rfl (fun h1 => ?_) (fun h1 => ?_)
 ·
  refine wpM.skip ?_
  refine QM.then ?_
  refine wpM.seq ?_
  refine wpM.block ?_
  refine wpM.seq (wpM.region ?_)
  refine LM.mv rfl ?_
  refine LM.as rfl ?_
  refine LM.nil (QM.sub (e' := [(0, _), (1, _), (5, _), (7, _), (8, _)]) ⟨rfl, rfl, rfl, rfl, rfl, trivial⟩ (QM.then (wpM.seq (wpM.region ?_))))
  refine LM.mv rfl ?_
  refine LM.mv rfl ?_
  refine LM.mv rfl ?_
  refine LM.val (ov_idxSN au6 Tryz.underlying85 Tryz.sizeOf135 rfl rfl (by omega)) ?_
  first | refine LM.rd (om_slA (by assumption) (by intro _; rfl) Tryz.isAgg135 Tryz.sizeOf135 rfl au3) ?_ | refine LM.rdC (om_srEA (by assumption) (by intro _; rfl) Tryz.isAgg135 Tryz.sizeOf135 rfl au3 id) ?_ | refine LM.rd (om_ldW Tryz.isAgg135 Tryz.sizeOf135 rfl rfl) ?_ | refine LM.rd (om_ldA Tryz.isAgg135 Tryz.sizeOf135 rfl (vs := [_, _, _]) rfl ⟨rfl, rfl, rfl, trivial⟩) ?_
  refine LM.callE (oc_callV rfl (enters_fn Tryz.func132 (by kernel_rfl) rfl) rfl) (fun w hm hc hg => passes_spec _ w) ?_
  refine LM.nil (QM.sub (e' := [(0, _), (1, _), (5, _), (7, _), (8, _), (16, _)]) ⟨rfl, rfl, rfl, rfl, rfl, rfl, trivial⟩ (QM.then ?_))
  first | refine wpM.condD rfl (fun h2 => ?_) (fun h2 => ?_) | refine wpM.condB rfl (fun h2 => ?_) (fun h2 => ?_)
  ·
   refine wpM.seq (wpM.region ?_)
   refine LM.mv rfl ?_
   refine LM.as rfl ?_
   refine LM.nil (QM.sub (e' := [(4, _)]) ⟨rfl, trivial⟩ (QM.then ?_))
   refine wpM.ret ?_
   refine QM.block_ret ?_
   refine QM.then_ret ?_
   refine QM.then_ret ?_
   refine QM.block_ret ?_
   refine QM.then_ret ?_
   refine QM.leave (.inl rfl) [.tmp 4] Tryz.results153 rfl ?_
   intro w' hm' hc' hg'
   exact ⟨by show Value.int .i64 _ = _; rw [fix_hit default ha (by omega) (by simpa using h2)], hc'⟩
  refine wpM.skip ?_
  refine QM.block_normal ?_
  refine QM.then (wpM.region ?_)
  refine LM.val (ov_add64 rfl rfl (by omega)) ?_
  refine LM.mv rfl ?_
  refine LM.nil (QM.sub (e' := [(0, _), (1, _), (7, _), (8, _)]) ⟨rfl, rfl, rfl, rfl, trivial⟩ ?_)
  refine QM.againK (i + 1) ⟨au2, rfl, rfl, rfl, trivial⟩ au1 (fun _ h => h) ?_ ?_
  · exact ⟨by omega, by rw [any_snoc default (by omega), ha, Bool.false_or]; simpa using h2⟩
  · omega
 refine wpM.exit ?_
 refine QM.then_exit ?_
 refine QM.then_exit ?_
 refine QM.block_hit ?_
 refine QM.then (wpM.seq (wpM.region ?_))
 refine LM.as rfl ?_
 refine LM.nil (QM.sub (e' := [(4, _)]) ⟨rfl, trivial⟩ (QM.then ?_))
 refine wpM.ret ?_
 refine QM.leave (.inl rfl) [.tmp 4] Tryz.results153 rfl ?_
 intro w' hm' hc' hg'
 have hil : i = xs.length := (by omega); subst hil; rw [List.take_length] at ha; exact ⟨by show Value.int .i64 _ = _; rw [fix_miss ha], hc'⟩
set_option maxRecDepth 100000 in
theorem cof_pass {xs : List COp} {ad : Option Addr} {n cap : Nat} (w : World) (hn : n = xs.length) (hl : Sr fO 3 xs (.slice ad n cap) w) (hx : xs.length ≤ 1000000) : Ret Tryz.prog 131 #[.slice ad n cap, .func (.func 132) #[] #[]] w (fun v w' => v = .bool (xs.any (fun o => passB o.k)) ∧ Ext w w') := by
 refine Ret.enterM (l := [.slice ad n cap, .func (.func 132) #[] #[]]) Tryz.func131 rfl Tryz.ntmps131 rfl ([]) (no) (Mem.nil w) ?_
 refine wpM.seq (wpM.region ?_)
 refine LM.as rfl ?_
 refine LM.nil (QM.sub (e' := [(0, _), (1, _)]) ⟨rfl, rfl, trivial⟩ (QM.then (wpM.seq (wpM.region ?_))))
 refine LM.mv rfl ?_
 refine LM.mv rfl ?_
 refine LM.callE (oc_call (enters_fn Tryz.func153 (by kernel_rfl) rfl) rfl) (fun w hm hc hg => ixf_pass w hn (hl.ext hc) hx) ?_
 refine LM.val (ov_geq rfl rfl) ?_
 refine LM.as rfl ?_
 refine LM.nil (QM.sub (e' := [(4, _)]) ⟨rfl, trivial⟩ (QM.then ?_))
 refine wpM.ret ?_
 refine QM.leave (.inl rfl) [.tmp 4] Tryz.results131 rfl ?_
 intro w' hm' hc' hg'
 exact ⟨by show Value.bool _ = _; rw [← fix_pos], hc'⟩
end Go.Eng
namespace Go.Eng
open Go Go.Proofs Go.RowKit
theorem smallO.drop {xs : List COp} (h : smallO xs) (k : Nat) : smallO (xs.drop k) := ⟨by rw [List.length_drop]; have := h.1; omega, fun o ho => h.2 o (List.mem_of_mem_drop ho)⟩
abbrev sV (i to lock ticks : Int) : Value := .agg #[.int .i64 i, .int .i64 to, .int .i64 lock, .int .i64 ticks]
abbrev sBc (b : Nat) (i to lock ticks : Int) : Nat × Obj := (b, .cells #[.int .i64 i, .int .i64 to, .int .i64 lock, .int .i64 ticks] 140 (0, 0))
abbrev oB (b : Nat) (o : COp) : Nat × Obj := (b, .cells (fO o).toArray 135 (0, 0))
theorem stop_no {lock : Int} {o : COp} (h1 : ¬ o.k = 11) (h2 : ¬ (o.k = 6 ∧ o.a = lock)) : stopB lock o = false := by
  unfold stopB; rw [decide_eq_false h1]
  by_cases h : o.k = 6
  · rw [decide_eq_false (fun q => h2 ⟨h, q⟩)]; simp
  · rw [decide_eq_false h]; rfl
theorem stop_11 {lock : Int} {o : COp} (h1 : o.k = 11) : stopB lock o = true := by unfold stopB; rw [decide_eq_true h1]; rfl
theorem stop_6 {lock : Int} {o : COp} (h1 : o.k = 6) (h2 : o.a = lock) : stopB lock o = true := by unfold stopB; rw [decide_eq_true h1, decide_eq_true h2]; simp
def SecI (lock : Int) (ys : List COp) (j : Nat) (acc : Int) : Prop :=
  j ≤ ys.length ∧ (secT lock ys).1 = j + (secT lock (ys.drop j)).1 ∧ (secT lock ys).2 = acc + (secT lock (ys.drop j)).2 ∧ -((j : Int) * 1125899906842624) ≤ acc ∧ acc ≤ (j : Int) * 1125899906842624
theorem SecI.zero (lock : Int) (ys : List COp) : SecI lock ys 0 0 := ⟨Nat.zero_le _, by simp, by simp, by simp, by simp⟩
theorem SecI.step {lock : Int} {ys : List COp} {j : Nat} {acc acc' : Int} (h : SecI lock ys j acc) (hs : smallO ys) (hj : j < ys.length) (hn : stopB lock (ys.getD j default) = false) (ha : acc' = acc + if (ys.getD j default).k = 1 then (ys.getD j default).a else 0) : SecI lock ys (j + 1) acc' := by
  obtain ⟨h1, h2, h3, h4, h5⟩ := h
  have e := sec_step hj hn
  have hb := hs.at j
  rw [e] at h2 h3
  dsimp only at h2 h3
  have : ((j + 1 : Nat) : Int) * 1125899906842624 = (j : Int) * 1125899906842624 + 1125899906842624 := by push_cast; omega
  refine ⟨by omega, by omega, by rw [ha]; omega, ?_, ?_⟩ <;> rw [this, ha] <;> split <;> omega
theorem SecI.stop {lock : Int} {ys : List COp} {j : Nat} {acc : Int} (h : SecI lock ys j acc) (hj : j < ys.length) (hn : stopB lock (ys.getD j default) = true) : secT lock ys = (j, acc) := by
  obtain ⟨h1, h2, h3, h4, h5⟩ := h
  rw [sec_stop hj hn] at h2 h3
  exact Prod.ext (by simpa using h2) (by simpa using h3)
theorem SecI.fin {lock : Int} {ys : List COp} {j : Nat} {acc : Int} (h : SecI lock ys j acc) (hj : ys.length ≤ j) : secT lock ys = (ys.length, acc) := by
  obtain ⟨h1, h2, h3, h4, h5⟩ := h
  rw [sec_end hj] at h2 h3
  exact Prod.ext (by dsimp only at h2 ⊢; omega) (by simpa using h3)
set_option maxRecDepth 100000 in
theorem section_spec {xs : List COp} {fv : Bool} {ad : Option Addr} {n cap : Nat} (i : Nat) (w : World) (hn : n = xs.length) (hl : Sr fO 3 xs (.slice ad n cap) w) (hs : smallO xs) (hi : i < xs.length) : Ret Tryz.prog 152 #[pV fv ad n cap, .int .i64 (i : Nat)] w (fun v w' => v = secV xs i ∧ Ext w w') := by
 have hx20 := hs.1; have hld := hl.drop (l := i + 1) (by omega); have hsy := hs.drop (i + 1); obtain ⟨ys, hys⟩ : ∃ ys, xs.drop (i + 1) = ys := ⟨_, rfl⟩; have hyl : ys.length = xs.length - (i + 1) := (by rw [← hys, List.length_drop]); have hsec : secO xs i = secT (xs.getD i default).a ys := (by unfold secO; rw [hys]); rw [hys] at hld hsy; simp only [secV, hsec]
 refine Ret.enterM (l := [pV fv ad n cap, .int .i64 (i : Nat)]) Tryz.func152 rfl Tryz.ntmps152 rfl ([]) (no) (Mem.nil w) ?_
 refine wpM.seq (wpM.region ?_)
 refine LM.box rfl rfl (fun b2 hb2 => ?_)
 refine LM.alloc Tryz.zeroValue140 rfl (fun b4 hb4 => ?_)
 refine LM.nil (QM.sub (e' := [(1, _), (2, _), (4, _)]) ⟨rfl, rfl, rfl, trivial⟩ (QM.then ?_))
 refine wpM.seq ?_
 refine wpM.draw [(0, 0), (1, 0), (2, 1), (3, 0), (4, 0), (5, 1), (6, 0), (7, 0), (8, 0), (9, 1), (10, 0), (11, 2), (12, 3)] (by kernel_rfl) (by kernel_rfl) ?_
 refine LD.val rfl rfl (ov_move rfl) ?_
 refine LD.val rfl rfl (ov_field Tryz.underlying87 rfl Tryz.sizeOf85 rfl (k := 1) rfl rfl) ?_
 refine LD.rd rfl rfl (om_ld Tryz.isAgg85 rfl rfl) ?_
 refine LD.val rfl rfl (ov_len Tryz.underlying85 rfl) ?_
 refine LD.val rfl rfl (ov_field Tryz.underlying87 rfl Tryz.sizeOf85 rfl (k := 1) rfl rfl) ?_
 refine LD.rd rfl rfl (om_ld Tryz.isAgg85 rfl rfl) ?_
 refine LD.val rfl rfl (ov_move rfl) ?_
 refine LD.val rfl rfl (ov_idxSN au6 Tryz.underlying85 Tryz.sizeOf135 rfl rfl (by omega)) ?_
 refine LD.val rfl rfl (ov_field Tryz.underlying135 rfl Tryz.sizeOf3 rfl (k := 1) rfl rfl) ?_
 first | refine LD.rd rfl rfl (om_slE (j := 1) (by assumption) (by intro _; rfl) Tryz.isAgg3 rfl rfl au3 rfl (by rfl)) ?_ | refine LD.rdC rfl rfl (om_srE (j := 1) (by assumption) Tryz.isAgg3 rfl rfl au3 (by rfl) (by rfl) id) ?_ | refine LD.rd rfl rfl (om_ld Tryz.isAgg3 rfl rfl) ?_
 refine LD.val rfl rfl (ov_build (cs := #[_, _, _, _]) rfl (by first | rfl | kernel_rfl)) ?_
 refine LD.alloc rfl rfl Tryz.zeroValue140 rfl (fun b5 hb5 => ?_)
 refine LD.tail rfl rfl ?_
 refine LM.stW Tryz.sizeOf140 rfl rfl rfl rfl au7 au8 ?_
 refine LM.nil ?_
 refine QM.qn ?_
 refine QM.sub (e' := [(1, _), (2, _), (4, _), (5, _)]) ⟨rfl, rfl, rfl, rfl, trivial⟩ (QM.then ?_)
 refine wpM.seq ?_
 refine wpM.seq (wpM.region ?_)
 refine LM.val (ov_field Tryz.underlying87 rfl Tryz.sizeOf85 rfl (k := 1) rfl rfl) ?_
 refine LM.rd (om_ld Tryz.isAgg85 rfl rfl) ?_
 refine LM.mv rfl ?_
 refine LM.val (ov_add64 rfl rfl (by omega)) ?_
 refine LM.val (ov_subLo (i + 1) Tryz.underlying85 Tryz.sizeOf135 rfl rfl (by omega) (by omega)) ?_
 refine LM.val (ov_len Tryz.underlying85 rfl) ?_
 refine LM.mv rfl ?_
 refine LM.nil (QM.sub (e' := [(1, _), (4, _), (5, _), (23, _), (24, _), (25, _)]) ⟨rfl, rfl, rfl, rfl, rfl, rfl, trivial⟩ (QM.then ?_))
 refine wpM.block ?_
 refine wpM.loopK0 (α := Nat × Int) (fun ⟨j, acc⟩ => [(25, .int .i64 (j : Nat))]) [(1, _), (4, _), (5, _), (23, _), (24, _)] (fun ⟨j, acc⟩ => sBc b5 (i : Nat) n (xs.getD i default).a acc :: sBc b4 0 0 0 0 :: pB b2 fv ad n cap :: []) (fun ⟨j, acc⟩ => SecI (xs.getD i default).a ys j acc) (fun ⟨j, acc⟩ => ys.length - j) ((0, 0)) ⟨au2, rfl, rfl, rfl, rfl, rfl, trivial⟩ au1 (SecI.zero _ ys) ?_
 rintro ⟨j, acc⟩ hI
 change wpM _ _ _ _ _ _ _ (sBc b5 (i : Nat) n (xs.getD i default).a acc :: sBc b4 0 0 0 0 :: pB b2 fv ad n cap :: []) _ _ _
 have hj := hI.1; have hb := hsy.at j; obtain ⟨-, -, -, hb1, hb2⟩ := id hI
 refine wpM.seq (wpM.region ?_)
 refine LM.val (ov_lss rfl rfl) ?_
 refine LM.nil (QM.sub (e' := [(1, _), (4, _), (5, _), (23, _), (24, _), (25, _), (26, _)]) ⟨rfl, rfl, rfl, rfl, rfl, rfl, rfl, trivial⟩ (QM.then ?_))
 refine wpM.seq ?_
 refine wpM.condD rfl (fun h1 => ?_) (fun h1 => ?_)
 ·
  refine wpM.skip ?_
  refine QM.then ?_
  refine wpM.seq ?_
  refine wpM.block ?_
  refine wpM.seq (wpM.region ?_)
  refine LM.mv rfl ?_
  refine LM.val (ov_idxSN au6 Tryz.underlying85 Tryz.sizeOf135 rfl rfl (by omega)) ?_
  first | refine LM.rd (om_slA (by assumption) (by intro _; rfl) Tryz.isAgg135 Tryz.sizeOf135 rfl au3) ?_ | refine LM.rdC (om_srEA (by assumption) (by intro _; rfl) Tryz.isAgg135 Tryz.sizeOf135 rfl au3 id) ?_ | refine LM.rd (om_ldW Tryz.isAgg135 Tryz.sizeOf135 rfl rfl) ?_ | refine LM.rd (om_ldA Tryz.isAgg135 Tryz.sizeOf135 rfl (vs := [_, _, _]) rfl ⟨rfl, rfl, rfl, trivial⟩) ?_
  refine LM.alloc Tryz.zeroValue135 rfl (fun b7 hb7 => ?_)
  refine LM.as rfl ?_
  refine LM.stW Tryz.sizeOf135 rfl rfl rfl rfl au7 au8 ?_
  refine LM.nil (QM.sub (e' := [(1, _), (4, _), (5, _), (6, _), (7, _), (23, _), (24, _), (25, _)]) ⟨rfl, rfl, rfl, rfl, rfl, rfl, rfl, rfl, trivial⟩ (QM.then ?_))
  refine wpM.block ?_
  refine wpM.seq ?_
  refine wpM.seq (wpM.region ?_)
  refine LM.val (ov_field Tryz.underlying135 rfl Tryz.sizeOf3 rfl (k := 0) rfl rfl) ?_
  refine LM.rd (om_ld Tryz.isAgg3 rfl rfl) ?_
  refine LM.val (ov_eql rfl rfl) ?_
  refine LM.as rfl ?_
  refine LM.nil (QM.sub (e' := [(1, _), (4, _), (5, _), (6, _), (7, _), (23, _), (24, _), (25, _), (30, _)]) ⟨rfl, rfl, rfl, rfl, rfl, rfl, rfl, rfl, rfl, trivial⟩ (QM.then ?_))
  refine wpM.condXD (t := 30) rfl (fun h2 => ?_) (fun h2 => ?_)
  ·
   refine wpM.skip ?_
   refine QM.then ?_
   refine wpM.condT rfl ?_
   refine wpM.seq (wpM.region ?_)
   refine LM.mv rfl ?_
   refine LM.val (ov_add64 rfl rfl (by omega)) ?_
   refine LM.mv rfl ?_
   refine LM.val (ov_add64 rfl rfl (by omega)) ?_
   refine LM.val (ov_field Tryz.underlying140 rfl Tryz.sizeOf3 rfl (k := 1) rfl rfl) ?_
   refine LM.st Tryz.sizeOf3 rfl rfl rfl au5 rfl au8 ?_
   refine LM.nil (QM.sub (e' := [(4, _), (5, _)]) ⟨rfl, rfl, trivial⟩ (QM.then (wpM.seq (wpM.region ?_))))
   refine LM.rd (om_ldW Tryz.isAgg140 Tryz.sizeOf140 rfl rfl) ?_
   refine LM.stW Tryz.sizeOf140 rfl rfl rfl rfl au7 au8 ?_
   refine LM.nil (QM.sub (e' := [(4, _)]) ⟨rfl, trivial⟩ (QM.then ?_))
   refine wpM.ret ?_
   refine QM.block_ret ?_
   refine QM.block_ret ?_
   refine QM.then_ret ?_
   refine QM.then_ret ?_
   refine QM.block_ret ?_
   refine QM.then_ret ?_
   refine QM.leaveCs (ds := ([])) (.inl rfl) [.cell 4 140] Tryz.results152 hd_nil (rc_w rfl Tryz.isAgg140 Tryz.sizeOf140 rfl rc_nil) ?_
   intro w' hm' hc'
   have hq := hI.stop (by omega) (stop_11 h2); refine ⟨?_, hc'⟩; rw [hq]; show sV _ _ _ _ = _; congr 5
  refine wpM.region ?_
  refine LM.val (ov_field Tryz.underlying135 rfl Tryz.sizeOf3 rfl (k := 0) rfl rfl) ?_
  refine LM.rd (om_ld Tryz.isAgg3 rfl rfl) ?_
  refine LM.val (ov_eql rfl rfl) ?_
  refine LM.mv rfl ?_
  refine LM.splitD (t := 37) rfl (fun h3 => ?_) (fun h3 => ?_)
  ·
   refine LM.sp 37 rfl rfl rfl ?_
   refine LM.val (ov_field Tryz.underlying135 rfl Tryz.sizeOf3 rfl (k := 1) rfl rfl) ?_
   refine LM.sp 37 rfl rfl rfl ?_
   refine LM.rd (om_ld Tryz.isAgg3 rfl rfl) ?_
   refine LM.sp 37 rfl rfl rfl ?_
   refine LM.val (ov_field Tryz.underlying140 rfl Tryz.sizeOf3 rfl (k := 2) rfl rfl) ?_
   refine LM.sp 37 rfl rfl rfl ?_
   refine LM.rd (om_ld Tryz.isAgg3 rfl rfl) ?_
   refine LM.sp 37 rfl rfl rfl ?_
   refine LM.val (ov_eql rfl rfl) ?_
   refine LM.val (ov_pickT rfl rfl) ?_
   refine LM.as rfl ?_
   refine LM.nil (QM.sub (e' := [(1, _), (4, _), (5, _), (6, _), (7, _), (23, _), (24, _), (25, _), (30, _)]) ⟨rfl, rfl, rfl, rfl, rfl, rfl, rfl, rfl, rfl, trivial⟩ (QM.then ?_))
   refine wpM.condD rfl (fun h4 => ?_) (fun h4 => ?_)
   ·
    refine wpM.seq (wpM.region ?_)
    refine LM.mv rfl ?_
    refine LM.val (ov_add64 rfl rfl (by omega)) ?_
    refine LM.mv rfl ?_
    refine LM.val (ov_add64 rfl rfl (by omega)) ?_
    refine LM.val (ov_field Tryz.underlying140 rfl Tryz.sizeOf3 rfl (k := 1) rfl rfl) ?_
    refine LM.st Tryz.sizeOf3 rfl rfl rfl au5 rfl au8 ?_
    refine LM.nil (QM.sub (e' := [(4, _), (5, _)]) ⟨rfl, rfl, trivial⟩ (QM.then (wpM.seq (wpM.region ?_))))
    refine LM.rd (om_ldW Tryz.isAgg140 Tryz.sizeOf140 rfl rfl) ?_
    refine LM.stW Tryz.sizeOf140 rfl rfl rfl rfl au7 au8 ?_
    refine LM.nil (QM.sub (e' := [(4, _)]) ⟨rfl, trivial⟩ (QM.then ?_))
    refine wpM.ret ?_
    refine QM.block_ret ?_
    refine QM.block_ret ?_
    refine QM.then_ret ?_
    refine QM.then_ret ?_
    refine QM.block_ret ?_
    refine QM.then_ret ?_
    refine QM.leaveCs (ds := ([])) (.inl rfl) [.cell 4 140] Tryz.results152 hd_nil (rc_w rfl Tryz.isAgg140 Tryz.sizeOf140 rfl rc_nil) ?_
    intro w' hm' hc'
    have hq := hI.stop (by omega) (stop_6 h3 h4); refine ⟨?_, hc'⟩; rw [hq]; show sV _ _ _ _ = _; congr 5
   refine wpM.seq (wpM.region ?_)
   refine LM.val (ov_field Tryz.underlying135 rfl Tryz.sizeOf3 rfl (k := 0) rfl rfl) ?_
   refine LM.rd (om_ld Tryz.isAgg3 rfl rfl) ?_
   refine LM.val (ov_eql rfl rfl) ?_
   refine LM.as rfl ?_
   refine LM.nil (QM.sub (e' := [(1, _), (4, _), (5, _), (7, _), (23, _), (24, _), (25, _), (50, _)]) ⟨rfl, rfl, rfl, rfl, rfl, rfl, rfl, rfl, trivial⟩ (QM.then ?_))
   refine wpM.condD rfl (fun h5 => ?_) (fun h5 => ?_)
   ·
    refine wpM.region ?_
    refine LM.val (ov_field Tryz.underlying140 rfl Tryz.sizeOf3 rfl (k := 3) rfl rfl) ?_
    refine LM.rd (om_ld Tryz.isAgg3 rfl rfl) ?_
    refine LM.val (ov_field Tryz.underlying135 rfl Tryz.sizeOf3 rfl (k := 1) rfl rfl) ?_
    refine LM.rd (om_ld Tryz.isAgg3 rfl rfl) ?_
    refine LM.val (ov_add64 rfl rfl (by omega)) ?_
    refine LM.val (ov_field Tryz.underlying140 rfl Tryz.sizeOf3 rfl (k := 3) rfl rfl) ?_
    refine LM.st Tryz.sizeOf3 rfl rfl rfl au5 rfl au8 ?_
    refine LM.nil (QM.sub (e' := [(1, _), (4, _), (5, _), (23, _), (24, _), (25, _)]) ⟨rfl, rfl, rfl, rfl, rfl, rfl, trivial⟩ ?_)
    refine QM.block_normal ?_
    refine QM.block_normal ?_
    refine QM.then (wpM.region ?_)
    refine LM.val (ov_add64 rfl rfl (by omega)) ?_
    refine LM.mv rfl ?_
    refine LM.nil (QM.sub (e' := [(1, _), (4, _), (5, _), (23, _), (24, _), (25, _)]) ⟨rfl, rfl, rfl, rfl, rfl, rfl, trivial⟩ ?_)
    refine QM.againK ((j + 1, acc + (ys.getD j default).a)) ⟨au2, rfl, rfl, rfl, rfl, rfl, trivial⟩ au1 (fun _ h => h) ?_ ?_
    · exact hI.step hsy (by omega) (stop_no h2 (fun q => by first | exact h4 q.2 | exact h3 q.1)) (by rw [if_pos h5])
    · omega
   refine wpM.skip ?_
   refine QM.block_normal ?_
   refine QM.block_normal ?_
   refine QM.then (wpM.region ?_)
   refine LM.val (ov_add64 rfl rfl (by omega)) ?_
   refine LM.mv rfl ?_
   refine LM.nil (QM.sub (e' := [(1, _), (4, _), (5, _), (23, _), (24, _), (25, _)]) ⟨rfl, rfl, rfl, rfl, rfl, rfl, trivial⟩ ?_)
   refine QM.againK ((j + 1, acc)) ⟨au2, rfl, rfl, rfl, rfl, rfl, trivial⟩ au1 (fun _ h => h) ?_ ?_
   · exact hI.step hsy (by omega) (stop_no h2 (fun q => by first | exact h4 q.2 | exact h3 q.1)) (by rw [if_neg h5]; omega)
   · first | omega | (dsimp only; omega)
  refine LM.dr 37 rfl rfl rfl ?_
  refine LM.dr 37 rfl rfl rfl ?_
  refine LM.dr 37 rfl rfl rfl ?_
  refine LM.dr 37 rfl rfl rfl ?_
  refine LM.dr 37 rfl rfl rfl ?_
  refine LM.val (ov_pickF rfl rfl) ?_
  refine LM.as rfl ?_
  refine LM.nil (QM.sub (e' := [(1, _), (4, _), (5, _), (6, _), (7, _), (23, _), (24, _), (25, _), (30, _)]) ⟨rfl, rfl, rfl, rfl, rfl, rfl, rfl, rfl, rfl, trivial⟩ (QM.then ?_))
  refine wpM.condF rfl ?_
  refine wpM.seq (wpM.region ?_)
  refine LM.val (ov_field Tryz.underlying135 rfl Tryz.sizeOf3 rfl (k := 0) rfl rfl) ?_
  refine LM.rd (om_ld Tryz.isAgg3 rfl rfl) ?_
  refine LM.val (ov_eql rfl rfl) ?_
  refine LM.as rfl ?_
  refine LM.nil (QM.sub (e' := [(1, _), (4, _), (5, _), (7, _), (23, _), (24, _), (25, _), (50, _)]) ⟨rfl, rfl, rfl, rfl, rfl, rfl, rfl, rfl, trivial⟩ (QM.then ?_))
  refine wpM.condD rfl (fun h6 => ?_) (fun h6 => ?_)
  ·
   refine wpM.region ?_
   refine LM.val (ov_field Tryz.underlying140 rfl Tryz.sizeOf3 rfl (k := 3) rfl rfl) ?_
   refine LM.rd (om_ld Tryz.isAgg3 rfl rfl) ?_
   refine LM.val (ov_field Tryz.underlying135 rfl Tryz.sizeOf3 rfl (k := 1) rfl rfl) ?_
   refine LM.rd (om_ld Tryz.isAgg3 rfl rfl) ?_
   refine LM.val (ov_add64 rfl rfl (by omega)) ?_
   refine LM.val (ov_field Tryz.underlying140 rfl Tryz.sizeOf3 rfl (k := 3) rfl rfl) ?_
   refine LM.st Tryz.sizeOf3 rfl rfl rfl au5 rfl au8 ?_
   refine LM.nil (QM.sub (e' := [(1, _), (4, _), (5, _), (23, _), (24, _), (25, _)]) ⟨rfl, rfl, rfl, rfl, rfl, rfl, trivial⟩ ?_)
   refine QM.block_normal ?_
   refine QM.block_normal ?_
   refine QM.then (wpM.region ?_)
   refine LM.val (ov_add64 rfl rfl (by omega)) ?_
   refine LM.mv rfl ?_
   refine LM.nil (QM.sub (e' := [(1, _), (4, _), (5, _), (23, _), (24, _), (25, _)]) ⟨rfl, rfl, rfl, rfl, rfl, rfl, trivial⟩ ?_)
   refine QM.againK ((j + 1, acc + (ys.getD j default).a)) ⟨au2, rfl, rfl, rfl, rfl, rfl, trivial⟩ au1 (fun _ h => h) ?_ ?_
   · exact hI.step hsy (by omega) (stop_no h2 (fun q => by first | exact h4 q.2 | exact h3 q.1)) (by rw [if_pos h6])
   · first | omega | (dsimp only; omega)
  refine wpM.skip ?_
  refine QM.block_normal ?_
  refine QM.block_normal ?_
  refine QM.then (wpM.region ?_)
  refine LM.val (ov_add64 rfl rfl (by omega)) ?_
  refine LM.mv rfl ?_
  refine LM.nil (QM.sub (e' := [(1, _), (4, _), (5, _), (23, _), (24, _), (25, _)]) ⟨rfl, rfl, rfl, rfl, rfl, rfl, trivial⟩ ?_)
  refine QM.againK ((j + 1, acc)) ⟨au2, rfl, rfl, rfl, rfl, rfl, trivial⟩ au1 (fun _ h => h) ?_ ?_
  · exact hI.step hsy (by omega) (stop_no h2 (fun q => by first | exact h4 q.2 | exact h3 q.1)) (by rw [if_neg h6]; omega)
  · first | omega | (dsimp only; omega)
 refine wpM.exit ?_
 refine QM.then_exit ?_
 refine QM.then_exit ?_
 refine QM.block_hit ?_
 refine QM.then (wpM.seq (wpM.region ?_))
 refine LM.rd (om_ldW Tryz.isAgg140 Tryz.sizeOf140 rfl rfl) ?_
 refine LM.stW Tryz.sizeOf140 rfl rfl rfl rfl au7 au8 ?_
 refine LM.nil (QM.sub (e' := [(4, _)]) ⟨rfl, trivial⟩ (QM.then ?_))
 refine wpM.ret ?_
 refine QM.leaveCs (ds := ([])) (.inl rfl) [.cell 4 140] Tryz.results152 hd_nil (rc_w rfl Tryz.isAgg140 Tryz.sizeOf140 rfl rc_nil) ?_
 intro w' hm' hc'
 have hq := hI.fin (by omega); refine ⟨?_, hc'⟩; rw [hq]; show sV _ _ _ _ = _; congr 5; omega
end Go.Eng
namespace Go.Eng
open Go Go.Proofs Go.RowKit
abbrev lBc (b : Nat) (ad : Option Addr) (n cap : Nat) : Nat × Obj := (b, .cells #[.slice ad n cap] 27 (0, 0))
abbrev iBc (b : Nat) (x : Int) : Nat × Obj := (b, .cells #[.int .i64 x] 3 (0, 0))
abbrev eBc (b : Nat) (x : Int) : Nat × Obj := (b, .cells #[.int .i64 x] 31 (0, 0))
def EachTc (fv : Bool) (ad : Option Addr) (n cap : Nat) (n0 : Nat) (v : Value) (m : Mem0) : Prop := ∃ b1, v = .func (.func 150) #[] #[.pointer (some ⟨b1, 0, none⟩)] ∧ m = [pB b1 fv ad n cap] ∧ n0 ≤ b1
theorem EachTc.mono {fv : Bool} {ad : Option Addr} {n cap : Nat} : ∀ (k k' : Nat) u m, k' ≤ k → EachTc fv ad n cap k u m → EachTc fv ad n cap k' u m := fun k k' u m h ⟨b1, h1, h2, h3⟩ => ⟨b1, h1, h2, by omega⟩
def SecsT (fv : Bool) (ad : Option Addr) (n cap : Nat) (n0 : Nat) (v : Value) (m : Mem0) : Prop := ∃ b1, v = .func (.func 99999) #[] #[.pointer (some ⟨b1, 0, none⟩)] ∧ m = [pB b1 fv ad n cap] ∧ n0 ≤ b1
theorem SecsT.mono {fv : Bool} {ad : Option Addr} {n cap : Nat} : ∀ (k k' : Nat) u m, k' ≤ k → SecsT fv ad n cap k u m → SecsT fv ad n cap k' u m := fun k k' u m h ⟨b1, h1, h2, h3⟩ => ⟨b1, h1, h2, by omega⟩
theorem fits_lt {T K : Bool} {q : Bool} {a : Int} {n : Nat} (hq : q = ((T || K) && decide (a ≥ n))) (h : q = false) (ht : T = true) : a < n := by
  rw [h, ht, Bool.true_or, Bool.true_and] at hq
  have := of_decide_eq_false hq.symm
  omega
set_option maxRecDepth 100000 in
set_option maxHeartbeats 1000000 in
theorem fits_spec {xs : List COp} {ls : List CLk} {fv : Bool} {ad ad2 : Option Addr} {n cap n2 cap2 : Nat} (i : Nat) (progs : Int) (w : World) (hn : n = xs.length) (hl : Sr fO 3 xs (.slice ad n cap) w) (hn2 : n2 = ls.length) (hl2 : Sr fL 5 ls (.slice ad2 n2 cap2) w) (hm0 : mayB xs = true) (hi : i < xs.length) : Ret Tryz.prog 130 #[pV fv ad n cap, .int .i64 (i : Nat), .slice ad2 n2 cap2, .int .i64 progs] w (fun v w' => v = .int .i64 (fitsO fv xs ls progs i) ∧ Ext w w') := by
 have hs := may_small hm0; have hr := right_a (may_at hm0 hi)
 refine Ret.enterM (l := [pV fv ad n cap, .int .i64 (i : Nat), .slice ad2 n2 cap2, .int .i64 progs]) Tryz.func130 rfl Tryz.ntmps130 rfl ([]) (no) (Mem.nil w) ?_
 refine wpM.seq (wpM.region ?_)
 refine LM.box rfl rfl (fun b4 hb4 => ?_)
 refine LM.as rfl ?_
 refine LM.nil (QM.sub (e' := [(1, _), (2, _), (3, _), (4, _)]) ⟨rfl, rfl, rfl, rfl, trivial⟩ (QM.then (wpM.seq (wpM.region ?_))))
 refine LM.val (ov_field Tryz.underlying87 rfl Tryz.sizeOf85 rfl (k := 1) rfl rfl) ?_
 refine LM.rd (om_ld Tryz.isAgg85 rfl rfl) ?_
 refine LM.mv rfl ?_
 refine LM.val (ov_idxSN au6 Tryz.underlying85 Tryz.sizeOf135 rfl rfl (by omega)) ?_
 first | refine LM.rd (om_slA (by assumption) (by intro _; rfl) Tryz.isAgg135 Tryz.sizeOf135 rfl au3) ?_ | refine LM.rdC (om_srEA (by assumption) (by intro _; rfl) Tryz.isAgg135 Tryz.sizeOf135 rfl au3 id) ?_ | refine LM.rd (om_ldW Tryz.isAgg135 Tryz.sizeOf135 rfl rfl) ?_ | refine LM.rd (om_ldA Tryz.isAgg135 Tryz.sizeOf135 rfl (vs := [_, _, _]) rfl ⟨rfl, rfl, rfl, trivial⟩) ?_
 refine LM.alloc Tryz.zeroValue135 rfl (fun b9 hb9 => ?_)
 refine LM.stW Tryz.sizeOf135 rfl rfl rfl rfl au7 au8 ?_
 refine LM.nil (QM.sub (e' := [(1, _), (2, _), (3, _), (4, _), (9, _)]) ⟨rfl, rfl, rfl, rfl, rfl, trivial⟩ (QM.then (wpM.seq (wpM.region ?_))))
 refine LM.val (ov_field Tryz.underlying135 rfl Tryz.sizeOf3 rfl (k := 0) rfl rfl) ?_
 refine LM.rd (om_ld Tryz.isAgg3 rfl rfl) ?_
 refine LM.callE (oc_call (enters_fn Tryz.func151 (by kernel_rfl) rfl) rfl) (fun w hm hc hg => takes_spec _ w) ?_
 refine LM.as rfl ?_
 refine LM.nil (QM.sub (e' := [(1, _), (2, _), (3, _), (4, _), (9, _), (10, _)]) ⟨rfl, rfl, rfl, rfl, rfl, rfl, trivial⟩ (QM.then ?_))
 refine wpM.seq ?_
 refine wpM.block ?_
 refine wpM.seq ?_
 refine wpM.seq ?_
 refine wpM.joinK (α := Bool) (fun q => [(20, .bool q)]) [(1, _), (2, _), (3, _), (4, _), (9, _), (10, _)] (fun q => oB b9 (xs.getD i default) :: pB b4 fv ad n cap :: []) (fun q => q = ((takesB (xs.getD i default).k || decide ((xs.getD i default).k = 6)) && decide ((xs.getD i default).a ≥ n2))) ⟨rfl, rfl, rfl, rfl, rfl, rfl, trivial⟩ ?_ ?_
 ·
  refine wpM.region ?_
  refine LM.mv rfl ?_
  refine LM.mv rfl ?_
  first | refine LM.splitD (t := 22) rfl (fun h1 => ?_) (fun h1 => ?_) | refine LM.splitB (t := 22) rfl (fun h1 => ?_) (fun h1 => ?_)
  ·
   refine LM.dr 22 rfl rfl rfl ?_
   refine LM.dr 22 rfl rfl rfl ?_
   refine LM.dr 22 rfl rfl rfl ?_
   refine LM.val (ov_pickT rfl rfl) ?_
   refine LM.mv rfl ?_
   refine LM.sp 27 rfl rfl rfl ?_
   refine LM.val (ov_field Tryz.underlying135 rfl Tryz.sizeOf3 rfl (k := 1) rfl rfl) ?_
   refine LM.sp 27 rfl rfl rfl ?_
   refine LM.rd (om_ld Tryz.isAgg3 rfl rfl) ?_
   refine LM.sp 27 rfl rfl rfl ?_
   refine LM.mv rfl ?_
   refine LM.sp 27 rfl rfl rfl ?_
   refine LM.val (ov_len Tryz.underlying27 rfl) ?_
   refine LM.sp 27 rfl rfl rfl ?_
   refine LM.val (ov_geq rfl rfl) ?_
   refine LM.val (ov_pickT rfl rfl) ?_
   refine LM.as rfl ?_
   refine LM.nil (QM.sub (e' := [(1, _), (2, _), (3, _), (4, _), (9, _), (10, _), (20, _)]) ⟨rfl, rfl, rfl, rfl, rfl, rfl, rfl, trivial⟩ ?_)
   refine QM.meetK (_) ⟨au2, rfl, rfl, rfl, rfl, rfl, rfl, trivial⟩ au1 ?_
   · simp only [h1, decide_true, decide_false, Bool.true_and, Bool.false_and, Bool.and_true, Bool.and_false, Bool.not_true, Bool.not_false, Bool.true_or, Bool.false_or, Bool.or_true, Bool.or_false, ne_eq, not_true_eq_false, not_false_eq_true, Bool.and_self]
  refine LM.sp 22 rfl rfl rfl ?_
  refine LM.val (ov_field Tryz.underlying135 rfl Tryz.sizeOf3 rfl (k := 0) rfl rfl) ?_
  refine LM.sp 22 rfl rfl rfl ?_
  refine LM.rd (om_ld Tryz.isAgg3 rfl rfl) ?_
  refine LM.sp 22 rfl rfl rfl ?_
  refine LM.val (ov_eql rfl rfl) ?_
  refine LM.val (ov_pickF rfl rfl) ?_
  refine LM.mv rfl ?_
  refine LM.splitD (t := 27) rfl (fun h2 => ?_) (fun h2 => ?_)
  ·
   refine LM.sp 27 rfl rfl rfl ?_
   refine LM.val (ov_field Tryz.underlying135 rfl Tryz.sizeOf3 rfl (k := 1) rfl rfl) ?_
   refine LM.sp 27 rfl rfl rfl ?_
   refine LM.rd (om_ld Tryz.isAgg3 rfl rfl) ?_
   refine LM.sp 27 rfl rfl rfl ?_
   refine LM.mv rfl ?_
   refine LM.sp 27 rfl rfl rfl ?_
   refine LM.val (ov_len Tryz.underlying27 rfl) ?_
   refine LM.sp 27 rfl rfl rfl ?_
   refine LM.val (ov_geq rfl rfl) ?_
   refine LM.val (ov_pickT rfl rfl) ?_
   refine LM.as rfl ?_
   refine LM.nil (QM.sub (e' := [(1, _), (2, _), (3, _), (4, _), (9, _), (10, _), (20, _)]) ⟨rfl, rfl, rfl, rfl, rfl, rfl, rfl, trivial⟩ ?_)
   refine QM.meetK (_) ⟨au2, rfl, rfl, rfl, rfl, rfl, rfl, trivial⟩ au1 ?_
   · simp only [h1, h2, decide_true, decide_false, Bool.true_and, Bool.false_and, Bool.and_true, Bool.and_false, Bool.not_true, Bool.not_false, Bool.true_or, Bool.false_or, Bool.or_true, Bool.or_false, ne_eq, not_true_eq_false, not_false_eq_true, Bool.and_self]
  refine LM.dr 27 rfl rfl rfl ?_
  refine LM.dr 27 rfl rfl rfl ?_
  refine LM.dr 27 rfl rfl rfl ?_
  refine LM.dr 27 rfl rfl rfl ?_
  refine LM.dr 27 rfl rfl rfl ?_
  refine LM.val (ov_pickF rfl rfl) ?_
  refine LM.as rfl ?_
  refine LM.nil (QM.sub (e' := [(1, _), (2, _), (3, _), (4, _), (9, _), (10, _), (20, _)]) ⟨rfl, rfl, rfl, rfl, rfl, rfl, rfl, trivial⟩ ?_)
  refine QM.meetK (_) ⟨au2, rfl, rfl, rfl, rfl, rfl, rfl, trivial⟩ au1 ?_
  · simp only [h1, h2, decide_true, decide_false, Bool.true_and, Bool.false_and, Bool.and_true, Bool.and_false, Bool.not_true, Bool.not_false, Bool.true_or, Bool.false_or, Bool.or_true, Bool.or_false, ne_eq, not_true_eq_false, not_false_eq_true, Bool.and_self]
 rintro q hq
 change QM _ _ _ _ _ (oB b9 (xs.getD i default) :: pB b4 fv ad n cap :: []) _ _ _
 refine QM.then ?_
 first | refine wpM.condXD (t := 20) rfl (fun h3 => ?_) (fun h3 => ?_) | refine wpM.condXB (t := 20) rfl (fun h3 => ?_) (fun h3 => ?_)
 ·
  refine wpM.skip ?_
  refine QM.then ?_
  refine wpM.condT rfl ?_
  refine wpM.seq (wpM.region ?_)
  refine LM.as rfl ?_
  refine LM.nil (QM.sub (e' := [(8, _)]) ⟨rfl, trivial⟩ (QM.then ?_))
  refine wpM.ret ?_
  refine QM.block_ret ?_
  refine QM.then_ret ?_
  refine QM.leave (.inl rfl) [.tmp 8] Tryz.results130 rfl ?_
  intro w' hm' hc' hg'
  refine ⟨?_, hc'⟩; simp only [resV, fitsO, ← hn, ← hn2, ← hq]; simp only [h3, decide_true, decide_false, Bool.true_and, Bool.false_and, Bool.and_true, Bool.and_false, Bool.not_true, Bool.not_false, Bool.true_or, Bool.false_or, Bool.or_true, Bool.or_false, ne_eq, not_true_eq_false, not_false_eq_true, Bool.and_self, if_true, ite_true]
 refine wpM.joinK (α := Bool) (fun q2 => [(20, .bool q2)]) [(1, _), (2, _), (4, _), (9, _), (10, _)] (fun q2 => oB b9 (xs.getD i default) :: pB b4 fv ad n cap :: []) (fun q2 => q2 = (decide ((xs.getD i default).k = 9) && decide ((xs.getD i default).a ≥ progs))) ⟨rfl, rfl, rfl, rfl, rfl, trivial⟩ ?_ ?_
 ·
  refine wpM.region ?_
  refine LM.val (ov_field Tryz.underlying135 rfl Tryz.sizeOf3 rfl (k := 0) rfl rfl) ?_
  refine LM.rd (om_ld Tryz.isAgg3 rfl rfl) ?_
  refine LM.val (ov_eql rfl rfl) ?_
  refine LM.mv rfl ?_
  refine LM.splitD (t := 37) rfl (fun h4 => ?_) (fun h4 => ?_)
  ·
   refine LM.sp 37 rfl rfl rfl ?_
   refine LM.val (ov_field Tryz.underlying135 rfl Tryz.sizeOf3 rfl (k := 1) rfl rfl) ?_
   refine LM.sp 37 rfl rfl rfl ?_
   refine LM.rd (om_ld Tryz.isAgg3 rfl rfl) ?_
   refine LM.sp 37 rfl rfl rfl ?_
   refine LM.mv rfl ?_
   refine LM.sp 37 rfl rfl rfl ?_
   refine LM.val (ov_geq rfl rfl) ?_
   refine LM.val (ov_pickT rfl rfl) ?_
   refine LM.as rfl ?_
   refine LM.nil (QM.sub (e' := [(1, _), (2, _), (4, _), (9, _), (10, _), (20, _)]) ⟨rfl, rfl, rfl, rfl, rfl, rfl, trivial⟩ ?_)
   refine QM.meetK (_) ⟨au2, rfl, rfl, rfl, rfl, rfl, trivial⟩ au1 ?_
   · simp only [h3, h4, decide_true, decide_false, Bool.true_and, Bool.false_and, Bool.and_true, Bool.and_false, Bool.not_true, Bool.not_false, Bool.true_or, Bool.false_or, Bool.or_true, Bool.or_false, ne_eq, not_true_eq_false, not_false_eq_true, Bool.and_self]
  refine LM.dr 37 rfl rfl rfl ?_
  refine LM.dr 37 rfl rfl rfl ?_
  refine LM.dr 37 rfl rfl rfl ?_
  refine LM.dr 37 rfl rfl rfl ?_
  refine LM.val (ov_pickF rfl rfl) ?_
  refine LM.as rfl ?_
  refine LM.nil (QM.sub (e' := [(1, _), (2, _), (4, _), (9, _), (10, _), (20, _)]) ⟨rfl, rfl, rfl, rfl, rfl, rfl, trivial⟩ ?_)
  refine QM.meetK (_) ⟨au2, rfl, rfl, rfl, rfl, rfl, trivial⟩ au1 ?_
  · simp only [h3, h4, decide_true, decide_false, Bool.true_and, Bool.false_and, Bool.and_true, Bool.and_false, Bool.not_true, Bool.not_false, Bool.true_or, Bool.false_or, Bool.or_true, Bool.or_false, ne_eq, not_true_eq_false, not_false_eq_true, Bool.and_self]
 rintro q2 hq2
 change QM _ _ _ _ _ (oB b9 (xs.getD i default) :: pB b4 fv ad n cap :: []) _ _ _
 refine QM.then ?_
 first | refine wpM.condD rfl (fun h5 => ?_) (fun h5 => ?_) | refine wpM.condB rfl (fun h5 => ?_) (fun h5 => ?_)
 ·
  refine wpM.seq (wpM.region ?_)
  refine LM.as rfl ?_
  refine LM.nil (QM.sub (e' := [(8, _)]) ⟨rfl, trivial⟩ (QM.then ?_))
  refine wpM.ret ?_
  refine QM.block_ret ?_
  refine QM.then_ret ?_
  refine QM.leave (.inl rfl) [.tmp 8] Tryz.results130 rfl ?_
  intro w' hm' hc' hg'
  refine ⟨?_, hc'⟩; simp only [resV, fitsO, ← hn, ← hn2, ← hq, ← hq2]; simp only [h3, h5, decide_true, decide_false, Bool.true_and, Bool.false_and, Bool.and_true, Bool.and_false, Bool.not_true, Bool.not_false, Bool.true_or, Bool.false_or, Bool.or_true, Bool.or_false, ne_eq, not_true_eq_false, not_false_eq_true, Bool.and_self, if_true, ite_true]
 refine wpM.seq ?_
 refine wpM.joinK (α := Bool) (fun q3 => [(43, .bool q3)]) [(1, _), (2, _), (4, _), (9, _), (10, _)] (fun q3 => oB b9 (xs.getD i default) :: pB b4 fv ad n cap :: []) (fun q3 => q3 = (decide ((xs.getD i default).k = 3) && !(ls.getD (xs.getD i default).a.toNat default).sh)) ⟨rfl, rfl, rfl, rfl, rfl, trivial⟩ ?_ ?_
 ·
  refine wpM.region ?_
  refine LM.val (ov_field Tryz.underlying135 rfl Tryz.sizeOf3 rfl (k := 0) rfl rfl) ?_
  refine LM.rd (om_ld Tryz.isAgg3 rfl rfl) ?_
  refine LM.val (ov_eql rfl rfl) ?_
  refine LM.mv rfl ?_
  refine LM.splitD (t := 47) rfl (fun h6 => ?_) (fun h6 => ?_)
  ·
   have hlt := fits_lt hq h3 (by rw [h6]; rfl)
   refine LM.sp 47 rfl rfl rfl ?_
   refine LM.mv rfl ?_
   refine LM.sp 47 rfl rfl rfl ?_
   refine LM.val (ov_field Tryz.underlying135 rfl Tryz.sizeOf3 rfl (k := 1) rfl rfl) ?_
   refine LM.sp 47 rfl rfl rfl ?_
   refine LM.rd (om_ld Tryz.isAgg3 rfl rfl) ?_
   refine LM.sp 47 rfl rfl rfl ?_
   first | refine LM.val (ov_idxSN au6 Tryz.underlying27 Tryz.sizeOf63 rfl rfl (by omega)) ?_ | refine LM.val (ov_idxS au6 Tryz.underlying27 Tryz.sizeOf63 rfl rfl (by omega)) ?_ | refine LM.val (ov_idx Tryz.underlying27 Tryz.sizeOf63 rfl rfl (by omega)) ?_
   refine LM.sp 47 rfl rfl rfl ?_
   refine LM.val (ov_field Tryz.underlying63 rfl Tryz.sizeOf4 rfl (k := 0) rfl rfl) ?_
   refine LM.sp 47 rfl rfl rfl ?_
   first | refine LM.rd (om_slE (j := 0) (by assumption) (by intro _; rfl) Tryz.isAgg4 rfl rfl au3 rfl (by rfl)) ?_ | refine LM.rdC (om_srE (j := 0) (by assumption) Tryz.isAgg4 rfl rfl au3 (by rfl) (by rfl) id) ?_ | refine LM.rd (om_ld Tryz.isAgg4 rfl rfl) ?_
   refine LM.sp 47 rfl rfl rfl ?_
   first | refine LM.val (ov_notD rfl) ?_ | refine LM.val (ov_not rfl) ?_
   refine LM.val (ov_pickT rfl rfl) ?_
   refine LM.as rfl ?_
   refine LM.nil (QM.sub (e' := [(1, _), (2, _), (4, _), (9, _), (10, _), (43, _)]) ⟨rfl, rfl, rfl, rfl, rfl, rfl, trivial⟩ ?_)
   refine QM.meetK (_) ⟨au2, rfl, rfl, rfl, rfl, rfl, trivial⟩ au1 ?_
   · simp only [h3, h5, h6, decide_true, decide_false, Bool.true_and, Bool.false_and, Bool.and_true, Bool.and_false, Bool.not_true, Bool.not_false, Bool.true_or, Bool.false_or, Bool.or_true, Bool.or_false, ne_eq, not_true_eq_false, not_false_eq_true, Bool.and_self]
  refine LM.dr 47 rfl rfl rfl ?_
  refine LM.dr 47 rfl rfl rfl ?_
  refine LM.dr 47 rfl rfl rfl ?_
  refine LM.dr 47 rfl rfl rfl ?_
  refine LM.dr 47 rfl rfl rfl ?_
  refine LM.dr 47 rfl rfl rfl ?_
  refine LM.dr 47 rfl rfl rfl ?_
  refine LM.val (ov_pickF rfl rfl) ?_
  refine LM.as rfl ?_
  refine LM.nil (QM.sub (e' := [(1, _), (2, _), (4, _), (9, _), (10, _), (43, _)]) ⟨rfl, rfl, rfl, rfl, rfl, rfl, trivial⟩ ?_)
  refine QM.meetK (_) ⟨au2, rfl, rfl, rfl, rfl, rfl, trivial⟩ au1 ?_
  · simp only [h3, h5, h6, decide_true, decide_false, Bool.true_and, Bool.false_and, Bool.and_true, Bool.and_false, Bool.not_true, Bool.not_false, Bool.true_or, Bool.false_or, Bool.or_true, Bool.or_false, ne_eq, not_true_eq_false, not_false_eq_true, Bool.and_self]
 rintro q3 hq3
 change QM _ _ _ _ _ (oB b9 (xs.getD i default) :: pB b4 fv ad n cap :: []) _ _ _
 refine QM.then ?_
 first | refine wpM.condD rfl (fun h7 => ?_) (fun h7 => ?_) | refine wpM.condB rfl (fun h7 => ?_) (fun h7 => ?_)
 ·
  refine wpM.seq (wpM.region ?_)
  refine LM.as rfl ?_
  refine LM.nil (QM.sub (e' := [(8, _)]) ⟨rfl, trivial⟩ (QM.then ?_))
  refine wpM.ret ?_
  refine QM.block_ret ?_
  refine QM.then_ret ?_
  refine QM.leave (.inl rfl) [.tmp 8] Tryz.results130 rfl ?_
  intro w' hm' hc' hg'
  refine ⟨?_, hc'⟩; simp only [resV, fitsO, ← hn, ← hn2, ← hq, ← hq2, ← hq3]; simp only [h3, h5, h7, decide_true, decide_false, Bool.true_and, Bool.false_and, Bool.and_true, Bool.and_false, Bool.not_true, Bool.not_false, Bool.true_or, Bool.false_or, Bool.or_true, Bool.or_false, ne_eq, not_true_eq_false, not_false_eq_true, Bool.and_self, if_true, if_false, ite_true, Bool.false_eq_true]
 refine wpM.seq (wpM.region ?_)
 refine LM.mv rfl ?_
 first | refine LM.val (ov_notD rfl) ?_ | refine LM.val (ov_not rfl) ?_
 refine LM.as rfl ?_
 refine LM.nil (QM.sub (e' := [(1, _), (2, _), (4, _), (9, _), (56, _)]) ⟨rfl, rfl, rfl, rfl, rfl, trivial⟩ (QM.then ?_))
 first | refine wpM.condD rfl (fun h8 => ?_) (fun h8 => ?_) | refine wpM.condB rfl (fun h8 => ?_) (fun h8 => ?_)
 ·
  refine wpM.seq (wpM.region ?_)
  refine LM.as rfl ?_
  refine LM.nil (QM.sub (e' := [(8, _)]) ⟨rfl, trivial⟩ (QM.then ?_))
  refine wpM.ret ?_
  refine QM.block_ret ?_
  refine QM.then_ret ?_
  refine QM.leave (.inl rfl) [.tmp 8] Tryz.results130 rfl ?_
  intro w' hm' hc' hg'
  refine ⟨?_, hc'⟩; simp only [resV, fitsO, ← hn, ← hn2, ← hq, ← hq2, ← hq3]; simp only [h3, h5, h7, h8, decide_true, decide_false, Bool.true_and, Bool.false_and, Bool.and_true, Bool.and_false, Bool.not_true, Bool.not_false, Bool.true_or, Bool.false_or, Bool.or_true, Bool.or_false, ne_eq, not_true_eq_false, not_false_eq_true, Bool.and_self, if_true, if_false, ite_true, Bool.false_eq_true]
 have hlt := fits_lt hq h3 (by simpa using h8)
 refine wpM.skip ?_
 refine QM.block_normal ?_
 refine QM.then (wpM.seq (wpM.region ?_))
 refine LM.rd (om_ldW Tryz.isAgg87 Tryz.sizeOf87 rfl rfl) ?_
 refine LM.mv rfl ?_
 refine LM.callE (oc_call (enters_fn Tryz.func152 (by kernel_rfl) rfl) rfl) (fun w hm hc hg => section_spec i w hn (hl.ext hc) hs hi) ?_
 refine LM.alloc Tryz.zeroValue140 rfl (fun b11 hb11 => ?_)
 refine LM.stW Tryz.sizeOf140 rfl rfl rfl rfl au7 au8 ?_
 refine LM.nil (QM.sub (e' := [(2, _), (4, _), (9, _), (11, _)]) ⟨rfl, rfl, rfl, rfl, trivial⟩ (QM.then ?_))
 refine wpM.seq ?_
 refine wpM.seq ?_
 refine wpM.joinK (α := Bool) (fun q4 => [(87, .bool q4)]) [] (fun q4 => []) (fun q4 => q4 = (decide ((secO xs i).2 < 1) || decide ((secO xs i).2 > (ls.getD (xs.getD i default).a.toNat default).cr) || fv && decide (((i + 1 + (secO xs i).1 : Nat) : Int) = n))) trivial ?_ ?_
 ·
  refine wpM.draw [(0, 0), (1, 1), (2, 0), (3, 0), (4, 0), (5, 1), (6, 0), (7, 0), (8, 1), (9, 0), (10, 0), (11, 1), (12, 0), (13, 0), (14, 0), (15, 0), (16, 1), (17, 0), (18, 0), (19, 1), (20, 0), (21, 1), (22, 0), (23, 0), (24, 0), (25, 0)] (by kernel_rfl) (by kernel_rfl) ?_
  refine LD.val rfl rfl (ov_field Tryz.underlying140 rfl Tryz.sizeOf3 rfl (k := 3) rfl rfl) ?_
  refine LD.rd rfl rfl (om_ld Tryz.isAgg3 rfl rfl) ?_
  refine LD.val rfl rfl (ov_lss rfl rfl) ?_
  refine LD.val rfl rfl (ov_move rfl) ?_
  refine LD.splitD (t := 65) rfl (fun h9 => ?_) (fun h9 => ?_)
  ·
   refine LD.drop rfl rfl ⟨65, _, rfl, rfl, rfl⟩ ?_
   refine LD.drop rfl rfl ⟨65, _, rfl, rfl, rfl⟩ ?_
   refine LD.drop rfl rfl ⟨65, _, rfl, rfl, rfl⟩ ?_
   refine LD.drop rfl rfl ⟨65, _, rfl, rfl, rfl⟩ ?_
   refine LD.drop rfl rfl ⟨65, _, rfl, rfl, rfl⟩ ?_
   refine LD.drop rfl rfl ⟨65, _, rfl, rfl, rfl⟩ ?_
   refine LD.drop rfl rfl ⟨65, _, rfl, rfl, rfl⟩ ?_
   refine LD.drop rfl rfl ⟨65, _, rfl, rfl, rfl⟩ ?_
   refine LD.drop rfl rfl ⟨65, _, rfl, rfl, rfl⟩ ?_
   refine LD.val rfl rfl (ov_pickT rfl rfl) ?_
   refine LD.val rfl rfl (ov_move rfl) ?_
   refine LD.drop rfl rfl ⟨76, _, rfl, rfl, rfl⟩ ?_
   refine LD.drop rfl rfl ⟨76, _, rfl, rfl, rfl⟩ ?_
   refine LD.dropU rfl rfl ⟨76, _, rfl, rfl, rfl⟩ ?_
   refine LD.dropX rfl rfl rfl rfl ?_
   refine LD.dropX rfl rfl rfl rfl ?_
   refine LD.dropX rfl rfl rfl rfl ?_
   refine LD.dropX rfl rfl rfl rfl ?_
   refine LD.dropX rfl rfl rfl rfl ?_
   refine LD.dropX rfl rfl rfl rfl ?_
   refine LD.drop rfl rfl ⟨76, _, rfl, rfl, rfl⟩ ?_
   refine LD.val rfl rfl (ov_pickT rfl rfl) ?_
   refine LD.nil ?_
   refine QM.sub (e' := [(87, _)]) ⟨rfl, trivial⟩ ?_
   refine QM.meetK (_) ⟨au2, trivial⟩ au1 ?_
   · simp only [h3, h5, h7, h8, h9, decide_true, decide_false, Bool.true_and, Bool.false_and, Bool.and_true, Bool.and_false, Bool.not_true, Bool.not_false, Bool.true_or, Bool.false_or, Bool.or_true, Bool.or_false, ne_eq, not_true_eq_false, not_false_eq_true, Bool.and_self]
  refine LD.val rfl ⟨65, _, rfl, rfl, rfl⟩ (ov_field Tryz.underlying140 rfl Tryz.sizeOf3 rfl (k := 3) rfl rfl) ?_
  refine LD.rd rfl ⟨65, _, rfl, rfl, rfl⟩ (om_ld Tryz.isAgg3 rfl rfl) ?_
  refine LD.val rfl ⟨65, _, rfl, rfl, rfl⟩ (ov_move rfl) ?_
  refine LD.val rfl ⟨65, _, rfl, rfl, rfl⟩ (ov_field Tryz.underlying135 rfl Tryz.sizeOf3 rfl (k := 1) rfl rfl) ?_
  refine LD.rd rfl ⟨65, _, rfl, rfl, rfl⟩ (om_ld Tryz.isAgg3 rfl rfl) ?_
  first | refine LD.val rfl ⟨65, _, rfl, rfl, rfl⟩ (ov_idxSN au6 Tryz.underlying27 Tryz.sizeOf63 rfl rfl (by omega)) ?_ | refine LD.val rfl ⟨65, _, rfl, rfl, rfl⟩ (ov_idxS au6 Tryz.underlying27 Tryz.sizeOf63 rfl rfl (by omega)) ?_ | refine LD.val rfl ⟨65, _, rfl, rfl, rfl⟩ (ov_idx Tryz.underlying27 Tryz.sizeOf63 rfl rfl (by omega)) ?_
  refine LD.val rfl ⟨65, _, rfl, rfl, rfl⟩ (ov_field Tryz.underlying63 rfl Tryz.sizeOf3 rfl (k := 2) rfl rfl) ?_
  first | refine LD.rd rfl ⟨65, _, rfl, rfl, rfl⟩ (om_slE (j := 2) (by assumption) (by intro _; rfl) Tryz.isAgg3 rfl rfl au3 rfl (by rfl)) ?_ | refine LD.rdC rfl ⟨65, _, rfl, rfl, rfl⟩ (om_srE (j := 2) (by assumption) Tryz.isAgg3 rfl rfl au3 (by rfl) (by rfl) id) ?_ | refine LD.rd rfl ⟨65, _, rfl, rfl, rfl⟩ (om_ld Tryz.isAgg3 rfl rfl) ?_
  refine LD.val rfl ⟨65, _, rfl, rfl, rfl⟩ (ov_gtr rfl rfl) ?_
  refine LD.val rfl rfl (ov_pickF rfl rfl) ?_
  refine LD.val rfl rfl (ov_move rfl) ?_
  refine LD.splitD (t := 76) rfl (fun h10 => ?_) (fun h10 => ?_)
  ·
   refine LD.drop rfl rfl ⟨76, _, rfl, rfl, rfl⟩ ?_
   refine LD.drop rfl rfl ⟨76, _, rfl, rfl, rfl⟩ ?_
   refine LD.dropU rfl rfl ⟨76, _, rfl, rfl, rfl⟩ ?_
   refine LD.dropX rfl rfl rfl rfl ?_
   refine LD.dropX rfl rfl rfl rfl ?_
   refine LD.dropX rfl rfl rfl rfl ?_
   refine LD.dropX rfl rfl rfl rfl ?_
   refine LD.dropX rfl rfl rfl rfl ?_
   refine LD.dropX rfl rfl rfl rfl ?_
   refine LD.drop rfl rfl ⟨76, _, rfl, rfl, rfl⟩ ?_
   refine LD.val rfl rfl (ov_pickT rfl rfl) ?_
   refine LD.nil ?_
   refine QM.sub (e' := [(87, _)]) ⟨rfl, trivial⟩ ?_
   refine QM.meetK (_) ⟨au2, trivial⟩ au1 ?_
   · simp only [h3, h5, h7, h8, h9, h10, decide_true, decide_false, Bool.true_and, Bool.false_and, Bool.and_true, Bool.and_false, Bool.not_true, Bool.not_false, Bool.true_or, Bool.false_or, Bool.or_true, Bool.or_false, ne_eq, not_true_eq_false, not_false_eq_true, Bool.and_self]
  refine LD.val rfl ⟨76, _, rfl, rfl, rfl⟩ (ov_field Tryz.underlying87 rfl Tryz.sizeOf4 rfl (k := 0) rfl rfl) ?_
  refine LD.rd rfl ⟨76, _, rfl, rfl, rfl⟩ (om_ld Tryz.isAgg4 rfl rfl) ?_
  refine LD.val rfl ⟨76, _, rfl, rfl, rfl⟩ (ov_move rfl) ?_
  first | refine LD.splitD (t := 79) rfl (fun h11 => ?_) (fun h11 => ?_) | refine LD.splitB (t := 79) rfl (fun h11 => ?_) (fun h11 => ?_)
  ·
   refine LD.val rfl ⟨79, _, rfl, rfl, rfl⟩ (ov_field Tryz.underlying140 rfl Tryz.sizeOf3 rfl (k := 1) rfl rfl) ?_
   refine LD.rd rfl ⟨79, _, rfl, rfl, rfl⟩ (om_ld Tryz.isAgg3 rfl rfl) ?_
   refine LD.val rfl ⟨79, _, rfl, rfl, rfl⟩ (ov_field Tryz.underlying87 rfl Tryz.sizeOf85 rfl (k := 1) rfl rfl) ?_
   refine LD.rd rfl ⟨79, _, rfl, rfl, rfl⟩ (om_ld Tryz.isAgg85 rfl rfl) ?_
   refine LD.val rfl ⟨79, _, rfl, rfl, rfl⟩ (ov_len Tryz.underlying85 rfl) ?_
   refine LD.val rfl ⟨79, _, rfl, rfl, rfl⟩ (ov_eql rfl rfl) ?_
   refine LD.val rfl ⟨76, _, rfl, rfl, rfl⟩ (ov_pickT rfl rfl) ?_
   refine LD.val rfl rfl (ov_pickF rfl rfl) ?_
   refine LD.nil ?_
   refine QM.sub (e' := [(87, _)]) ⟨rfl, trivial⟩ ?_
   refine QM.meetK (_) ⟨au2, trivial⟩ au1 ?_
   · simp only [h3, h5, h7, h8, h9, h10, h11, decide_true, decide_false, Bool.true_and, Bool.false_and, Bool.and_true, Bool.and_false, Bool.not_true, Bool.not_false, Bool.true_or, Bool.false_or, Bool.or_true, Bool.or_false, ne_eq, not_true_eq_false, not_false_eq_true, Bool.and_self]
  refine LD.drop rfl rfl ⟨79, _, rfl, rfl, rfl⟩ ?_
  refine LD.drop rfl rfl ⟨79, _, rfl, rfl, rfl⟩ ?_
  refine LD.drop rfl rfl ⟨79, _, rfl, rfl, rfl⟩ ?_
  refine LD.drop rfl rfl ⟨79, _, rfl, rfl, rfl⟩ ?_
  refine LD.drop rfl rfl ⟨79, _, rfl, rfl, rfl⟩ ?_
  refine LD.drop rfl rfl ⟨79, _, rfl, rfl, rfl⟩ ?_
  refine LD.val rfl ⟨76, _, rfl, rfl, rfl⟩ (ov_pickF rfl rfl) ?_
  refine LD.val rfl rfl (ov_pickF rfl rfl) ?_
  refine LD.nil ?_
  refine QM.sub (e' := [(87, _)]) ⟨rfl, trivial⟩ ?_
  refine QM.meetK (_) ⟨au2, trivial⟩ au1 ?_
  · simp only [h3, h5, h7, h8, h9, h10, h11, decide_true, decide_false, Bool.true_and, Bool.false_and, Bool.and_true, Bool.and_false, Bool.not_true, Bool.not_false, Bool.true_or, Bool.false_or, Bool.or_true, Bool.or_false, ne_eq, not_true_eq_false, not_false_eq_true, Bool.and_self]
 rintro q4 hq4
 change QM _ _ _ _ _ ([]) _ _ _
 refine QM.then ?_
 first | refine wpM.condD rfl (fun h12 => ?_) (fun h12 => ?_) | refine wpM.condB rfl (fun h12 => ?_) (fun h12 => ?_)
 ·
  refine wpM.seq (wpM.region ?_)
  refine LM.as rfl ?_
  refine LM.nil (QM.sub (e' := [(8, _)]) ⟨rfl, trivial⟩ (QM.then ?_))
  refine wpM.ret ?_
  refine QM.then_ret ?_
  refine QM.leave (.inl rfl) [.tmp 8] Tryz.results130 rfl ?_
  intro w' hm' hc' hg'
  refine ⟨?_, hc'⟩; simp only [resV, fitsO, ← hn, ← hn2, ← hq, ← hq2, ← hq3, ← hq4]; simp only [h3, h5, h7, h8, h12, decide_true, decide_false, Bool.true_and, Bool.false_and, Bool.and_true, Bool.and_false, Bool.not_true, Bool.not_false, Bool.true_or, Bool.false_or, Bool.or_true, Bool.or_false, ne_eq, not_true_eq_false, not_false_eq_true, Bool.and_self, if_true, if_false, ite_true, Bool.false_eq_true]
 refine wpM.skip ?_
 refine QM.then (wpM.seq (wpM.region ?_))
 refine LM.as rfl ?_
 refine LM.nil (QM.sub (e' := [(8, _)]) ⟨rfl, trivial⟩ (QM.then ?_))
 refine wpM.ret ?_
 refine QM.leave (.inl rfl) [.tmp 8] Tryz.results130 rfl ?_
 intro w' hm' hc' hg'
 refine ⟨?_, hc'⟩; simp only [resV, fitsO, ← hn, ← hn2, ← hq, ← hq2, ← hq3, ← hq4]; simp only [h3, h5, h7, h8, h12, decide_true, decide_false, Bool.true_and, Bool.false_and, Bool.and_true, Bool.and_false, Bool.not_true, Bool.not_false, Bool.true_or, Bool.false_or, Bool.or_true, Bool.or_false, ne_eq, not_true_eq_false, not_false_eq_true, Bool.and_self, if_true, if_false, ite_true, Bool.false_eq_true]
set_option maxRecDepth 100000 in
theorem each_specC (fv : Bool) (ad : Option Addr) (n cap : Nat) (w : World) : Ret Tryz.prog 129 #[pV fv ad n cap] w (fun v w' => Ext w w' ∧ ∃ m, EachTc fv ad n cap w.heap.size v m ∧ Mem w' m ∧ ∀ p ∈ m, w.heap.size ≤ p.1) := by
 refine Ret.enterM (l := [pV fv ad n cap]) Tryz.func129 rfl Tryz.ntmps129 rfl ([]) (no) (Mem.nil w) ?_
 refine wpM.seq (wpM.region ?_)
 refine LM.box rfl rfl (fun b1 hb1 => ?_)
 refine LM.as rfl ?_
 refine LM.nil (QM.sub (e' := [(1, _)]) ⟨rfl, trivial⟩ (QM.then (wpM.seq (wpM.region ?_))))
 refine LM.val (ov_makeFunc rfl) ?_
 refine LM.as rfl ?_
 refine LM.nil (QM.sub (e' := [(2, _)]) ⟨rfl, trivial⟩ (QM.then ?_))
 refine wpM.ret ?_
 refine QM.leave (.inl rfl) [.tmp 2] Tryz.results129 rfl ?_
 intro w' hm' hc' hg'
 exact ⟨hc', _, ⟨b1, rfl, rfl, hb1⟩, hm', fun p hp => by simp only [List.mem_cons, List.not_mem_nil, or_false] at hp; subst hp; assumption⟩
set_option maxRecDepth 100000 in
set_option maxHeartbeats 1000000 in
theorem each_seqC {xs : List COp} {fv : Bool} {ad : Option Addr} {n cap : Nat} {b1 : Nat} (hn : n = xs.length) (hx2 : xs.length ≤ 1000000000000) : SeqC Tryz.prog 150 #[.pointer (some ⟨b1, 0, none⟩)] (eachA xs) (fun w => Mem w [pB b1 fv ad n cap] ∧ Sr fO 3 xs (.slice ad n cap) w) (True) := by
 refine SeqC.enter (lb := [.pointer (some ⟨b1, 0, none⟩)]) Tryz.func150 rfl Tryz.ntmps150 rfl ?_
 intro l n0 J Jx w0 hfin hJr gJ gJx hy
 refine wpM.seq (wpM.region ?_)
 refine LM.val (ov_field Tryz.underlying87 rfl Tryz.sizeOf85 rfl (k := 1) rfl rfl) ?_
 refine LM.rdC (fun w _ _ hg => om_load 0 Tryz.isAgg85 rfl rfl rfl w (hJr _ w hg).1) ?_
 refine LM.val (ov_len Tryz.underlying85 rfl) ?_
 refine LM.mv rfl ?_
 refine LM.nil (QM.sub (e' := [(0, _), (6, _), (7, _), (8, _)]) ⟨rfl, rfl, rfl, rfl, trivial⟩ (QM.then ?_))
 refine wpM.block ?_
 refine wpM.loopK (α := Nat) (fun i => [(8, .int .i64 (i : Nat))]) [(0, _), (6, _), (7, _)] (fun i => []) (fun i => J i) (fun i => i ≤ xs.length) (fun i => xs.length - i) (0) ⟨au2, rfl, rfl, rfl, trivial⟩ au1 (fun _ h => h) (Nat.zero_le _) ?_
 rintro i hi
 change wpM _ _ _ _ _ _ _ ([]) _ _ _
 refine wpM.seq (wpM.region ?_)
 refine LM.val (ov_lss rfl rfl) ?_
 refine LM.nil (QM.sub (e' := [(0, _), (6, _), (7, _), (8, _), (9, _)]) ⟨rfl, rfl, rfl, rfl, rfl, trivial⟩ (QM.then ?_))
 refine wpM.seq ?_
 refine wpM.condD rfl (fun h1 => ?_) (fun h1 => ?_)
 ·
  refine wpM.skip ?_
  refine QM.then ?_
  refine wpM.seq ?_
  refine wpM.block ?_
  refine wpM.seq (wpM.region ?_)
  refine LM.mv rfl ?_
  refine LM.know (fun w _ _ hg => (hJr _ w hg).2.spt) (fun hsp => ?_); refine LM.val (ov_idxSN hsp Tryz.underlying85 Tryz.sizeOf135 rfl rfl (by omega)) ?_
  refine LM.rdC (fun w hm hc hg => ow_srEA (hJr _ w hg).2 (by intro _; rfl) Tryz.isAgg135 Tryz.sizeOf135 rfl (getq default (by omega))) ?_
  refine LM.allocF Tryz.zeroValue135 rfl (fun b4 hb4 => ?_)
  refine LM.as rfl ?_
  refine LM.stWF Tryz.sizeOf135 rfl rfl rfl rfl au7 au8 (by omega) ?_
  refine LM.unF ?_
  refine LM.nil (QM.sub (e' := [(0, _), (3, _), (4, _), (6, _), (7, _), (8, _)]) ⟨rfl, rfl, rfl, rfl, rfl, rfl, trivial⟩ (QM.then (wpM.seq (wpM.region ?_))))
  refine LM.mv rfl ?_
  refine LM.mv rfl ?_
  refine LM.rd (om_ldW Tryz.isAgg135 Tryz.sizeOf135 rfl rfl) ?_
  refine LM.mem (M' := []) (fun w _ => Mem.nil w) ?_
  refine LM.yield (n := n0) (G1 := J (i + 1)) (G2 := Jx) rfl rfl (fun w hj => hy (i) _ w (eachA_get (by omega)) hj) (fun _ => trivial) ?_ ?_
  ·
   first | refine LM.val (ov_notD rfl) ?_ | refine LM.val (ov_not rfl) ?_
   refine LM.nil (QM.sub (e' := [(0, _), (6, _), (7, _), (8, _), (17, _)]) ⟨rfl, rfl, rfl, rfl, rfl, trivial⟩ (QM.then ?_))
   refine wpM.condF rfl ?_
   refine wpM.skip ?_
   refine QM.block_normal ?_
   refine QM.then (wpM.region ?_)
   refine LM.val (ov_add64 rfl rfl (by omega)) ?_
   refine LM.mv rfl ?_
   refine LM.nil (QM.sub (e' := [(0, _), (6, _), (7, _), (8, _)]) ⟨rfl, rfl, rfl, rfl, trivial⟩ ?_)
   refine QM.againK (i + 1) ⟨au2, rfl, rfl, rfl, trivial⟩ au1 (fun w h => h) ?_ ?_
   · omega
   · omega
  first | refine LM.val (ov_notD rfl) ?_ | refine LM.val (ov_not rfl) ?_
  refine LM.nil (QM.sub (e' := [(0, _), (6, _), (7, _), (8, _), (17, _)]) ⟨rfl, rfl, rfl, rfl, rfl, trivial⟩ (QM.then ?_))
  refine wpM.condT rfl ?_
  refine wpM.ret ?_
  refine QM.block_ret ?_
  refine QM.then_ret ?_
  refine QM.then_ret ?_
  refine QM.block_ret ?_
  refine QM.leave (.inl rfl) [] Tryz.results150 rfl ?_
  intro w' hm' hc' hg'
  exact .inr hg'
 refine wpM.exit ?_
 refine QM.then_exit ?_
 refine QM.then_exit ?_
 refine QM.block_hit ?_
 refine QM.leave (.inr rfl) [] Tryz.results150 rfl ?_
 intro w' hm' hc' hg'
 first | exact .inr hg' | (have hil : i = xs.length := (by omega); subst hil; exact .inl (by rw [eachA_len]; exact hg'))
end Go.Eng
namespace Go.Eng
open Go Go.Proofs Go.RowKit
def ckV (fv : Bool) (xs : List COp) (ls : List CLk) (progs : Int) : Value := .tuple #[.int .i64 (ckO fv xs ls progs).1, .int .i64 (ckO fv xs ls progs).2]
theorem ckV_at {fv : Bool} {xs : List COp} {ls : List CLk} {progs e : Int} {i : Nat} (h : mayB xs = true) (h0 : ∀ j, j < i → fitsO fv xs ls progs j = 0) (hi : i < xs.length) (hf : fitsO fv xs ls progs i = e) (he : e ≠ 0) : ckV fv xs ls progs = .tuple #[.int .i64 (i : Nat), .int .i64 e] := by
  unfold ckV; rw [ck_at h h0 hi (by rw [hf]; exact he), hf]
theorem ckV_end {fv : Bool} {xs : List COp} {ls : List CLk} {progs : Int} {b : Bool} (h : mayB xs = true) (h0 : ∀ j, j < xs.length → fitsO fv xs ls progs j = 0) (hb : (fv && !xs.any (fun o => passB o.k)) = b) : ckV fv xs ls progs = .tuple #[.int .i64 0, .int .i64 (if b then 1 else 0)] := by
  unfold ckV; rw [ck_end h h0, hb]; cases b <;> rfl
theorem ckV_none {fv : Bool} {xs : List COp} {ls : List CLk} {progs : Int} (h : mayB xs = false) : ckV fv xs ls progs = .tuple #[.int .i64 0, .int .i64 1] := by
  unfold ckV; rw [ck_none h]
set_option maxRecDepth 100000 in
theorem check_spec {xs : List COp} {ls : List CLk} {fv : Bool} {ad ad2 : Option Addr} {n cap n2 cap2 : Nat} (progs : Int) (w : World) (hn : n = xs.length) (hl : Sr fO 3 xs (.slice ad n cap) w) (hn2 : n2 = ls.length) (hl2 : Sr fL 5 ls (.slice ad2 n2 cap2) w) : Ret Tryz.prog 86 #[pV fv ad n cap, .slice ad2 n2 cap2, .int .i64 progs] w (fun v w' => v = ckV fv xs ls progs ∧ Ext w w') := by
 refine Ret.enterM (l := [pV fv ad n cap, .slice ad2 n2 cap2, .int .i64 progs]) Tryz.func86 rfl Tryz.ntmps86 rfl ([]) (no) (Mem.nil w) ?_
 refine wpM.seq (wpM.region ?_)
 refine LM.box rfl rfl (fun b3 hb3 => ?_)
 refine LM.box rfl rfl (fun b4 hb4 => ?_)
 refine LM.box rfl rfl (fun b5 hb5 => ?_)
 refine LM.alloc Tryz.zeroValue3 rfl (fun b6 hb6 => ?_)
 refine LM.alloc Tryz.zeroValue31 rfl (fun b7 hb7 => ?_)
 refine LM.nil (QM.sub (e' := [(3, _), (4, _), (5, _), (6, _), (7, _)]) ⟨rfl, rfl, rfl, rfl, rfl, trivial⟩ (QM.then ?_))
 refine wpM.seq ?_
 refine wpM.seq (wpM.region ?_)
 refine LM.rd (om_ldW Tryz.isAgg87 Tryz.sizeOf87 rfl rfl) ?_
 refine LM.callE (oc_call (enters_fn Tryz.func103 (by kernel_rfl) rfl) rfl) (fun w hm hc hg => pmay_spec w hn (hl.ext hc)) ?_
 first | refine LM.val (ov_notD rfl) ?_ | refine LM.val (ov_not rfl) ?_
 refine LM.nil (QM.sub (e' := [(3, _), (4, _), (5, _), (6, _), (7, _), (12, _)]) ⟨rfl, rfl, rfl, rfl, rfl, rfl, trivial⟩ (QM.then ?_))
 first | refine wpM.condD rfl (fun h1 => ?_) (fun h1 => ?_) | refine wpM.condB rfl (fun h1 => ?_) (fun h1 => ?_)
 ·
  refine wpM.seq (wpM.region ?_)
  refine LM.st Tryz.sizeOf3 rfl rfl rfl au5 rfl au8 ?_
  refine LM.st Tryz.sizeOf31 rfl rfl rfl au5 rfl au8 ?_
  refine LM.nil (QM.sub (e' := [(6, _), (7, _)]) ⟨rfl, rfl, trivial⟩ (QM.then ?_))
  refine wpM.ret ?_
  refine QM.then_ret ?_
  refine QM.leaveCs (ds := ([])) (.inl rfl) [.cell 6 3, .cell 7 31] Tryz.results86 hd_nil (rc_c rfl Tryz.isAgg3 rfl (rc_c rfl Tryz.isAgg31 rfl rc_nil)) ?_
  intro w' hm' hc'
  exact ⟨(ckV_none (by simpa using h1)).symm, hc'⟩
 have hm0 : mayB xs = true := (by simpa using h1); have hx20 := (may_small hm0).1
 refine wpM.skip ?_
 refine QM.then ?_
 refine wpM.seq ?_
 refine wpM.seq (wpM.region ?_)
 refine LM.rd (om_ldW Tryz.isAgg87 Tryz.sizeOf87 rfl rfl) ?_
 refine LM.callT (oc_call (enters_fn Tryz.func129 (by kernel_rfl) rfl) rfl) EachTc.mono (fun w hm hc hg => each_specC fv ad n cap w) ?_
 rintro u14 m14 ⟨c1, rfl, rfl, hc1⟩ -
 refine LM.nil (QM.sub (e' := [(3, _), (4, _), (5, _), (6, _), (7, _), (14, _)]) ⟨rfl, rfl, rfl, rfl, rfl, rfl, trivial⟩ (QM.then ?_))
 refine wpM.block ?_
 refine wpM.toRange (α := Unit) (fun k ⟨⟩ => pB c1 fv ad n cap :: eBc b7 0 :: iBc b6 0 :: iBc b5 progs :: lBc b4 ad2 n2 cap2 :: pB b3 fv ad n cap :: []) (⟨⟩) au1 ?_
 refine wpM.range (α := Unit) (β := Nat) (enters_fn Tryz.func150 (by kernel_rfl) rfl) rfl (each_seqC (xs := xs) hn (by omega)) (fun k ⟨⟩ => pB c1 fv ad n cap :: eBc b7 0 :: iBc b6 0 :: iBc b5 progs :: lBc b4 ad2 n2 cap2 :: pB b3 fv ad n cap :: []) (fun _ _ => top) (fun k ⟨⟩ => k ≤ xs.length ∧ ∀ j, j < k → fitsO fv xs ls progs j = 0) (fun i => eBc b7 (fitsO fv xs ls progs i) :: iBc b6 (i : Nat) :: []) (fun _ => top) (fun c i => c = .ret ∧ i < xs.length ∧ (∀ j, j < i → fitsO fv xs ls progs j = 0) ∧ fitsO fv xs ls progs i ≠ 0) ⟨⟩ rfl (fun _ h => h) ⟨Nat.zero_le _, fun j hj => absurd hj (Nat.not_lt_zero _)⟩ (by kernel_rfl) (by intro k av hav; obtain ⟨hkx, rfl⟩ := eachA_inv hav; rfl) (.inl trivial) (fun k a w hm hc _ _ => ⟨SubM.mem au1 w hm, hl.ext hc⟩) (fun _ _ _ _ => gl_top _) (fun _ _ _ => gl_top _) (fun k x _ => by ((repeat (refine mm_cons rfl ?_)); exact fun p hp => .inl (by first | exact hp | (simp at hp; done) | (simp [hp]; done) | (simp at hp ⊢; first | exact .inl hp | exact hp | (simp [hp]; done))))) (fun c z _ => by ((repeat (refine mm_cons rfl ?_)); exact fun p hp => .inl (by first | exact hp | (simp at hp; done) | (simp [hp]; done) | (simp at hp ⊢; first | exact .inl hp | exact hp | (simp [hp]; done))))) ?_ ?_ ?_ ?_
 ·
  rintro k av ⟨⟩ l D rc n1 W1 hD hll hput hrc hav ⟨hk, h0⟩
  change wpM _ _ _ _ _ _ _ ((l, Obj.loop rc) :: ([(D, Obj.deferred (some []))] ++ (pB c1 fv ad n cap :: eBc b7 0 :: iBc b6 0 :: iBc b5 progs :: lBc b4 ad2 n2 cap2 :: pB b3 fv ad n cap :: []))) _ _ _
  obtain ⟨hkx, rfl⟩ := eachA_inv hav
  refine wpM.region ?_
  refine LM.as rfl ?_
  refine LM.nil (QM.sub (e' := [(3, _), (4, _), (5, _), (6, _), (7, _), (8, _)]) ⟨rfl, rfl, rfl, rfl, rfl, rfl, trivial⟩ ?_)
  refine QM.toBodyF (hput k ⟨⟩) hll ?_
  refine wpM.block ?_
  refine wpM.seq (wpM.region ?_)
  refine LM.rd (om_ldW Tryz.isAgg87 Tryz.sizeOf87 rfl rfl) ?_
  refine LM.mv rfl ?_
  refine LM.rd (om_ld Tryz.isAgg27 rfl rfl) ?_
  refine LM.rd (om_ld Tryz.isAgg3 rfl rfl) ?_
  refine LM.callE (oc_call (enters_fn Tryz.func130 (by kernel_rfl) rfl) rfl) (fun w hm hc hg => fits_spec k progs w hn (hl.ext hc) hn2 (hl2.ext hc) hm0 hkx) ?_
  refine LM.as rfl ?_
  refine LM.nil (QM.sub (e' := [(6, _), (7, _), (8, _), (9, _)]) ⟨rfl, rfl, rfl, rfl, trivial⟩ (QM.then (wpM.seq (wpM.region ?_))))
  refine LM.mv rfl ?_
  refine LM.val (ov_neq rfl rfl) ?_
  refine LM.nil (QM.sub (e' := [(6, _), (7, _), (8, _), (9, _), (23, _)]) ⟨rfl, rfl, rfl, rfl, rfl, trivial⟩ (QM.then ?_))
  refine wpM.condD rfl (fun h2 => ?_) (fun h2 => ?_)
  ·
   refine wpM.seq (wpM.region ?_)
   refine LM.mv rfl ?_
   refine LM.mv rfl ?_
   refine LM.st Tryz.sizeOf3 rfl rfl rfl au5 rfl au8 ?_
   refine LM.st Tryz.sizeOf31 rfl rfl rfl au5 rfl au8 ?_
   refine LM.nil (QM.sub (e' := [(6, _), (7, _)]) ⟨rfl, rfl, trivial⟩ (QM.then ?_))
   refine wpM.ret ?_
   refine QM.block_ret ?_
   refine QM.rret (k) (SubM.mem au1) (fun _ h => h) ?_
   · exact ⟨rfl, hkx, h0, by simpa using h2⟩
  refine wpM.skip ?_
  refine QM.block_normal ?_
  refine QM.next (⟨⟩) (SubM.mem au1) (fun _ h => h) ?_
  · exact ⟨by omega, before_succ h0 (by simpa using h2)⟩
 ·
  rintro ⟨⟩ D0 hD0 ⟨hk, h0⟩
  refine QM.sub (e' := [(3, _), (6, _), (7, _)]) ⟨rfl, rfl, rfl, trivial⟩ ?_
  refine QM.block_normal ?_
  refine QM.then ?_
  refine wpM.seq ?_
  refine wpM.seq (wpM.region ?_)
  refine LM.val (ov_field Tryz.underlying87 rfl Tryz.sizeOf4 rfl (k := 0) rfl rfl) ?_
  refine LM.rd (om_ld Tryz.isAgg4 rfl rfl) ?_
  refine LM.mv rfl ?_
  first | refine LM.splitD (t := 28) rfl (fun h3 => ?_) (fun h3 => ?_) | refine LM.splitB (t := 28) rfl (fun h3 => ?_) (fun h3 => ?_)
  ·
   refine LM.sp 28 rfl rfl rfl ?_
   refine LM.val (ov_field Tryz.underlying87 rfl Tryz.sizeOf85 rfl (k := 1) rfl rfl) ?_
   refine LM.sp 28 rfl rfl rfl ?_
   refine LM.rd (om_ld Tryz.isAgg85 rfl rfl) ?_
   refine LM.sp 28 rfl rfl rfl ?_
   refine LM.callE (oc_call (enters_fn Tryz.func131 (by kernel_rfl) rfl) rfl) (fun w hm hc hg => cof_pass w hn (hl.ext hc) (by omega)) ?_
   refine LM.sp 28 rfl rfl rfl ?_
   first | refine LM.val (ov_notD rfl) ?_ | refine LM.val (ov_not rfl) ?_
   refine LM.val (ov_pickT rfl rfl) ?_
   refine LM.nil (QM.sub (e' := [(6, _), (7, _), (33, _)]) ⟨rfl, rfl, rfl, trivial⟩ (QM.then ?_))
   first | refine wpM.condD rfl (fun h4 => ?_) (fun h4 => ?_) | refine wpM.condB rfl (fun h4 => ?_) (fun h4 => ?_)
   ·
    refine wpM.seq (wpM.region ?_)
    refine LM.st Tryz.sizeOf3 rfl rfl rfl au5 rfl au8 ?_
    refine LM.st Tryz.sizeOf31 rfl rfl rfl au5 rfl au8 ?_
    refine LM.nil (QM.sub (e' := [(6, _), (7, _)]) ⟨rfl, rfl, trivial⟩ (QM.then ?_))
    refine wpM.ret ?_
    refine QM.then_ret ?_
    refine QM.leaveCs (ds := (D0 :: [])) (.inl rfl) [.cell 6 3, .cell 7 31] Tryz.results86 (hd_cons hD0 hd_nil) (rc_c rfl Tryz.isAgg3 rfl (rc_c rfl Tryz.isAgg31 rfl rc_nil)) ?_
    intro w' hm' hc'
    exact ⟨(ckV_end (b := true) hm0 (fun j hj => h0 j (by rw [eachA_len]; exact hj)) (by rw [h3, h4]; rfl)).symm, hc'⟩
   refine wpM.skip ?_
   refine QM.then (wpM.seq (wpM.region ?_))
   refine LM.st Tryz.sizeOf3 rfl rfl rfl au5 rfl au8 ?_
   refine LM.st Tryz.sizeOf31 rfl rfl rfl au5 rfl au8 ?_
   refine LM.nil (QM.sub (e' := [(6, _), (7, _)]) ⟨rfl, rfl, trivial⟩ (QM.then ?_))
   refine wpM.ret ?_
   refine QM.leaveCs (ds := (D0 :: [])) (.inl rfl) [.cell 6 3, .cell 7 31] Tryz.results86 (hd_cons hD0 hd_nil) (rc_c rfl Tryz.isAgg3 rfl (rc_c rfl Tryz.isAgg31 rfl rc_nil)) ?_
   intro w' hm' hc'
   exact ⟨(ckV_end (b := false) hm0 (fun j hj => h0 j (by rw [eachA_len]; exact hj)) (by rw [h3, h4]; rfl)).symm, hc'⟩
  refine LM.dr 28 rfl rfl rfl ?_
  refine LM.dr 28 rfl rfl rfl ?_
  refine LM.dr 28 rfl rfl rfl ?_
  refine LM.dr 28 rfl rfl rfl ?_
  refine LM.val (ov_pickF rfl rfl) ?_
  refine LM.nil (QM.sub (e' := [(6, _), (7, _), (33, _)]) ⟨rfl, rfl, rfl, trivial⟩ (QM.then ?_))
  refine wpM.condF rfl ?_
  refine wpM.skip ?_
  refine QM.then (wpM.seq (wpM.region ?_))
  refine LM.st Tryz.sizeOf3 rfl rfl rfl au5 rfl au8 ?_
  refine LM.st Tryz.sizeOf31 rfl rfl rfl au5 rfl au8 ?_
  refine LM.nil (QM.sub (e' := [(6, _), (7, _)]) ⟨rfl, rfl, trivial⟩ (QM.then ?_))
  refine wpM.ret ?_
  refine QM.leaveCs (ds := (D0 :: [])) (.inl rfl) [.cell 6 3, .cell 7 31] Tryz.results86 (hd_cons hD0 hd_nil) (rc_c rfl Tryz.isAgg3 rfl (rc_c rfl Tryz.isAgg31 rfl rc_nil)) ?_
  intro w' hm' hc'
  exact ⟨(ckV_end (b := false) hm0 (fun j hj => h0 j (by rw [eachA_len]; exact hj)) (by rw [h3]; rfl)).symm, hc'⟩
 ·
  rintro i D0 hD0 hx
  obtain ⟨-, hi, h0, hne⟩ := hx
  refine QM.block_ret ?_
  refine QM.then_ret ?_
  refine QM.leaveCs (ds := (D0 :: [])) (.inl rfl) [.cell 6 3, .cell 7 31] Tryz.results86 (hd_cons hD0 hd_nil) (rc_c rfl Tryz.isAgg3 rfl (rc_c rfl Tryz.isAgg31 rfl rc_nil)) ?_
  intro w' hm' hc'
  exact ⟨(ckV_at hm0 h0 hi rfl hne).symm, hc'⟩
 rintro id i D0 hD0 hx
 first | exact hx.elim | cases hx.1 | cases hx
end Go.Eng
namespace Go.Eng
open Go Go.Proofs Go.RowKit
structure PgV where
  c : PgC
  ad : Option Addr
  n : Nat
  cap : Nat
instance : Inhabited PgV := ⟨⟨default, none, 0, 0⟩⟩
def fPg (p : PgV) : List Value := [.bool p.c.fv, .slice p.ad p.n p.cap]
def PgV.In (p : PgV) (w : World) : Prop := p.n = p.c.xs.length ∧ Sr fO 3 p.c.xs (.slice p.ad p.n p.cap) w
theorem PgV.In.ext {p : PgV} {w w' : World} (h : p.In w) (k : Ext w w') : p.In w' := ⟨h.1, h.2.ext k⟩
def PgsIn (ps : List PgV) (w : World) : Prop := ∀ p ∈ ps, p.In w
theorem PgsIn.ext {ps : List PgV} {w w' : World} (h : PgsIn ps w) (k : Ext w w') : PgsIn ps w' := fun p hp => (h p hp).ext k
structure StV where
  cr : Int
  gr : Int
  gs : List Int
  ga : Option Addr
  gn : Nat
  gc : Nat
  ls : List CLk
  la : Option Addr
  ln : Nat
  lc : Nat
  ps : List PgV
  pa : Option Addr
  pn : Nat
  pc : Nat
instance : Inhabited StV := ⟨⟨0, 0, [], none, 0, 0, [], none, 0, 0, [], none, 0, 0⟩⟩
def StV.cs (s : StV) : List Value := [.int .i64 s.cr, .int .i64 s.gr, .slice s.ga s.gn s.gc, .slice s.la s.ln s.lc, .slice s.pa s.pn s.pc]
abbrev StV.val (s : StV) : Value := .agg #[.int .i64 s.cr, .int .i64 s.gr, .slice s.ga s.gn s.gc, .slice s.la s.ln s.lc, .slice s.pa s.pn s.pc]
def StV.C (s : StV) : StC := ⟨s.cr, s.gr, s.gs, s.ls, s.ps.map PgV.c⟩
structure StV.In (s : StV) (w : World) : Prop where
  hgn : s.gn = s.gs.length
  hg : Sr fI 1 s.gs (.slice s.ga s.gn s.gc) w
  hln : s.ln = s.ls.length
  hl : Sr fL 5 s.ls (.slice s.la s.ln s.lc) w
  hpn : s.pn = s.ps.length
  hp : Sr fPg 2 s.ps (.slice s.pa s.pn s.pc) w
  ops : PgsIn s.ps w
theorem StV.In.ext {s : StV} {w w' : World} (h : s.In w) (k : Ext w w') : s.In w' := ⟨h.hgn, h.hg.ext k, h.hln, h.hl.ext k, h.hpn, h.hp.ext k, h.ops.ext k⟩
theorem map_getD {ps : List PgV} {i : Nat} : (ps.map PgV.c).getD i default = (ps.getD i default).c := by
  rw [List.getD_eq_getElem?_getD, List.getD_eq_getElem?_getD, List.getElem?_map]; cases ps[i]? <;> rfl
end Go.Eng
namespace Go.Eng
open Go Go.Proofs Go.RowKit
structure SetI (ws : List Wrd) (i0 : Nat) (gs : List Int) (i1 : Nat) (e1 : Int) (ls : List CLk) (i2 : Nat) (e2 : Int) (ps : List PgC) (pl : List Int) (i3 : Nat) (e3 : Int) : Prop where
  g : (sG ws i0).2 = (i1, e1) ∧ (e1 = 0 → (sG ws i0).1 = gs)
  l : lkL ws i1 e1 [] = (ls, i2, e2)
  p : pgL ws i2 e2 [] [] = (ps, pl, i3, e3)
theorem SetI.two {ws : List Wrd} {i0 : Nat} {gs : List Int} {i1 : Nat} {e1 : Int} {ls : List CLk} {i2 : Nat} {e2 : Int} {ps : List PgC} {pl : List Int} {i3 : Nat} {e3 : Int} (h : SetI ws i0 gs i1 e1 ls i2 e2 ps pl i3 e3) : sL ws i0 = (ls, i2, e2) ∧ sP ws i0 = (ps, pl, i3, e3) := by
  have a : sL ws i0 = (ls, i2, e2) := by unfold Go.Eng.sL; rw [h.g.1]; exact h.l
  exact ⟨a, by unfold sP; rw [a]; exact h.p⟩
theorem SetI.bad {ws : List Wrd} {i0 : Nat} {gs : List Int} {i1 : Nat} {e1 : Int} {ls : List CLk} {i2 : Nat} {e2 : Int} {ps : List PgC} {pl : List Int} {i3 : Nat} {e3 : Int} (h : SetI ws i0 gs i1 e1 ls i2 e2 ps pl i3 e3) (he : e3 ≠ 0) : stpR ws i0 = (default, (i3 : Int), e3) := by
  unfold stpR; rw [h.two.2]; simp only; rw [if_pos he]
theorem SetI.ok {ws : List Wrd} {i0 : Nat} {gs : List Int} {i1 : Nat} {e1 : Int} {ls : List CLk} {i2 : Nat} {e2 : Int} {ps : List PgC} {pl : List Int} {i3 : Nat} {e3 : Int} (h : SetI ws i0 gs i1 e1 ls i2 e2 ps pl i3 e3) (he : e3 = 0) (h0 : ps.any (misB ls ps.length) = false) : stpR ws i0 = (⟨(sA ws i0).2.2, (sB2 ws i0).2.2, gs, ls, ps⟩, (i3 : Int), 0) := by
  have z2 : e2 = 0 := by
    have := pgF_zero (ws := ws) _ i2 e2 [] [] (by have := h.p; unfold pgL at this; rw [this]; exact he)
    exact this
  have z1 : e1 = 0 := by
    have := lkF_zero (ws := ws) _ i1 e1 [] (by have := h.l; unfold lkL at this; rw [this]; exact z2)
    exact this
  have e' : misI ls ps = -1 := fix_miss h0
  unfold stpR; rw [h.two.2, h.two.1]; simp only; rw [if_neg (by simp [he]), e', if_neg (by decide), h.g.2 z1]
theorem par_pos {ws : List Wrd} {i : Nat} (h : i ≤ ws.length) : 0 ≤ (parseO ws (i : Int)).2.2.1 ∧ (parseO ws (i : Int)).2.2.1.toNat ≤ ws.length := by
  have key : ∀ (f i : Nat) (ops : List COp), i ≤ ws.length → 0 ≤ (loopP f ws i ops).2.1 ∧ (loopP f ws i ops).2.1.toNat ≤ ws.length := by
    intro f
    induction f with
    | zero => intro i ops hi; exact ⟨by show (0 : Int) ≤ (i : Int); omega, by show ((i : Int)).toNat ≤ _; omega⟩
    | succ f ih =>
      intro i ops hi
      unfold loopP
      split
      · rename_i q
        have := isR_lt q
        split
        · exact ⟨by show (0 : Int) ≤ (i : Int); omega, by show ((i : Int)).toNat ≤ _; omega⟩
        · exact ⟨by show (0 : Int) ≤ ((i + 1 : Nat) : Int); omega, by show (((i + 1 : Nat) : Int)).toNat ≤ _; omega⟩
      · have hp := opR_pos (k := ops.length) hi
        split
        · exact ⟨by show (0 : Int) ≤ ((opR ws i ops.length).1 : Int); omega, by show (((opR ws i ops.length).1 : Int)).toNat ≤ _; omega⟩
        · exact ih _ _ hp
  rw [parse_nat h]
  simp only
  unfold bodyR
  split
  · rename_i q
    have := isR_lt q
    have hh : (headR ws i).2 ≤ ws.length := by
      unfold headR; simp only; split
      · rename_i q; have := isR_lt q; omega
      · omega
    split
    · rename_i q2
      have := isR_lt q2
      exact key _ _ _ (by omega)
    · exact ⟨by show (0 : Int) ≤ ((headR ws i).2 : Int); omega, by show (((headR ws i).2 : Int)).toNat ≤ _; omega⟩
  · exact ⟨by show (0 : Int) ≤ (i : Int); omega, by show ((i : Int)).toNat ≤ _; omega⟩
def StT (r : StC × Int × Int) (n0 : Nat) (v : Value) (m : Mem0) : Prop := ∃ sv : StV, v = .tuple #[sv.val, .int .i64 r.2.1, .int .i64 r.2.2] ∧ sv.C = r.1 ∧ ∀ w, Mem w m → sv.In w
theorem StT.mono {r : StC × Int × Int} : ∀ (k k' : Nat) u m, k' ≤ k → StT r k u m → StT r k' u m := fun k k' u m h q => q
theorem StT.none {p e : Int} {n0 : Nat} : StT (default, p, e) n0 (.tuple #[(default : StV).val, .int .i64 p, .int .i64 e]) [] :=
  ⟨default, rfl, rfl, fun w _ => ⟨rfl, .nil _ _ _, rfl, .nil _ _ _, rfl, .nil _ _ _, fun p hp => by cases hp⟩⟩
abbrev sO (c g : Int) (ga : Option Addr) (gn gc : Nat) (la : Option Addr) (ln lc : Nat) (pa : Option Addr) (pn pc : Nat) : Obj := .cells #[.int .i64 c, .int .i64 g, .slice ga gn gc, .slice la ln lc, .slice pa pn pc] 30 (0, 0)
abbrev z0 : Obj := sO 0 0 none 0 0 none 0 0 none 0 0
theorem snoc_map {ps : List PgV} {p : PgV} : (ps ++ [p]).map PgV.c = ps.map PgV.c ++ [p.c] := by simp
theorem snoc_in {ps : List PgV} {p : PgV} {w : World} (h : PgsIn ps w) (k : p.In w) : PgsIn (ps ++ [p]) w := fun q hq => by
  rcases List.mem_append.1 hq with hq | hq
  · exact h q hq
  · rw [List.mem_singleton] at hq; subst hq; exact k
theorem sr_of_sl {α : Type} {f : α → List Value} {E s n0 : Nat} {xs : List α} {v : Value} {m : Mem0} {w : World} (h : Sl f E s n0 xs v m) (hf : ∀ a, (f a).length = s) (hm : Mem w m) : Sr f s xs v w := h.sr hf (fun p hp => hm.2 p hp)
end Go.Eng
namespace Go.Eng
open Go Go.Proofs Go.RowKit
abbrev stB (b : Nat) (s : StV) : Nat × Obj := (b, sO s.cr s.gr s.ga s.gn s.gc s.la s.ln s.lc s.pa s.pn s.pc)
def headB (s : StC) : Bool := winB s.cr 4 && (winB s.gr 8 && (winB (s.gs.length : Int) 4 && (decide (s.ls.length ≤ 8) && winB (s.ps.length : Int) 8)))
theorem mayS_split (s : StC) : mayS s = (headB s && (s.gs.all (fun n => winB n 16) && (s.ls.all lokB && !s.ps.any (misB s.ls s.ps.length)))) := by
  unfold mayS headB
  ac_rfl
theorem all_ff {α : Type} {p : α → Bool} {xs : List α} {i : Nat} (d : α) (h : i < xs.length) (hp : p (xs.getD i d) = false) : xs.all p = false := by
  cases hm : xs.all p with
  | false => rfl
  | true => rw [List.all_eq_true.1 hm _ (List.mem_of_getElem? (getq d h))] at hp; cases hp
theorem head_eq {s : StV} (h1 : s.gn = s.gs.length) (h2 : s.ln = s.ls.length) (h3 : s.pn = s.ps.length) : headB s.C = !(!winB s.cr 4 || (!winB s.gr 8 || (!winB (s.gn : Int) 4 || (decide ((s.ln : Int) > 8) || !winB (s.pn : Int) 8)))) := by
  unfold headB StV.C
  simp only [List.length_map, ← h1, ← h2, ← h3]
  rw [show decide (s.ln ≤ 8) = !decide ((s.ln : Int) > 8) by rw [← decide_not]; exact decide_eq_decide.2 (by omega)]
  cases winB s.cr 4 <;> cases winB s.gr 8 <;> cases winB (s.gn : Int) 4 <;> cases decide ((s.ln : Int) > 8) <;> cases winB (s.pn : Int) 8 <;> rfl
def smallS (s : StC) : Bool := decide (s.gs.length ≤ 12) && decide (s.ls.length ≤ 12) && decide (s.ps.length ≤ 12) && s.ps.all (fun p => decide (p.xs.length ≤ 20))
theorem mayS_head {s : StC} (h : headB s = false) : mayS s = false := by rw [mayS_split, h]; rfl
theorem mayS_gs {s : StC} (h : s.gs.all (fun n => winB n 16) = false) : mayS s = false := by rw [mayS_split, h]; simp
theorem mayS_ls {s : StC} (h : s.ls.all lokB = false) : mayS s = false := by rw [mayS_split, h]; simp
set_option maxRecDepth 100000 in
theorem swithin_spec (n most : Int) (w : World) : Ret Tryz.prog 48 #[.int .i64 n, .int .i64 most] w (fun v w' => v = .bool (winB n most) ∧ Ext w w') := by
 refine Ret.enterM (l := [.int .i64 n, .int .i64 most]) Tryz.func48 rfl Tryz.ntmps48 rfl ([]) (no) (Mem.nil w) ?_
 refine wpM.seq (wpM.region ?_)
 refine LM.as rfl ?_
 refine LM.nil (QM.sub (e' := [(0, _), (1, _)]) ⟨rfl, rfl, trivial⟩ (QM.then (wpM.seq (wpM.region ?_))))
 refine LM.mv rfl ?_
 refine LM.val (ov_geq rfl rfl) ?_
 refine LM.mv rfl ?_
 refine LM.splitD (t := 7) rfl (fun h1 => ?_) (fun h1 => ?_)
 ·
  refine LM.sp 7 rfl rfl rfl ?_
  refine LM.mv rfl ?_
  refine LM.sp 7 rfl rfl rfl ?_
  refine LM.mv rfl ?_
  refine LM.sp 7 rfl rfl rfl ?_
  refine LM.val (ov_leq rfl rfl) ?_
  refine LM.val (ov_pickT rfl rfl) ?_
  refine LM.as rfl ?_
  refine LM.nil (QM.sub (e' := [(4, _)]) ⟨rfl, trivial⟩ (QM.then ?_))
  refine wpM.ret ?_
  refine QM.leave (.inl rfl) [.tmp 4] Tryz.results48 rfl ?_
  intro w' hm' hc' hg'
  refine ⟨?_, hc'⟩; simp only [resV, winB]; first | (rw [decide_eq_true (show 1 ≤ n by omega), Bool.true_and]; done) | (rw [decide_eq_false (show ¬ 1 ≤ n by omega), Bool.false_and]; done)
 refine LM.dr 7 rfl rfl rfl ?_
 refine LM.dr 7 rfl rfl rfl ?_
 refine LM.dr 7 rfl rfl rfl ?_
 refine LM.val (ov_pickF rfl rfl) ?_
 refine LM.as rfl ?_
 refine LM.nil (QM.sub (e' := [(4, _)]) ⟨rfl, trivial⟩ (QM.then ?_))
 refine wpM.ret ?_
 refine QM.leave (.inl rfl) [.tmp 4] Tryz.results48 rfl ?_
 intro w' hm' hc' hg'
 refine ⟨?_, hc'⟩; simp only [resV, winB]; first | (rw [decide_eq_true (show 1 ≤ n by omega), Bool.true_and]; done) | (rw [decide_eq_false (show ¬ 1 ≤ n by omega), Bool.false_and]; done)
set_option maxRecDepth 100000 in
theorem small12_spec {s : StV} (w : World) (hI : s.In w) : Ret Tryz.prog 15 #[s.val] w (fun v w' => v = .bool (smallS s.C) ∧ Ext w w') := by
 have hgn := hI.hgn; have hln := hI.hln; have hpn := hI.hpn; have hp := hI.hp
 refine Ret.enterM (l := [s.val]) Tryz.func15 rfl Tryz.ntmps15 rfl ([]) (no) (Mem.nil w) ?_
 refine wpM.seq (wpM.region ?_)
 refine LM.box rfl rfl (fun b1 hb1 => ?_)
 refine LM.as rfl ?_
 refine LM.nil (QM.sub (e' := [(1, _)]) ⟨rfl, trivial⟩ (QM.then ?_))
 refine wpM.seq ?_
 refine wpM.seq (wpM.region ?_)
 refine LM.val (ov_field Tryz.underlying30 rfl Tryz.sizeOf26 rfl (k := 2) rfl rfl) ?_
 refine LM.rd (om_ld Tryz.isAgg26 rfl rfl) ?_
 refine LM.val (ov_len Tryz.underlying26 rfl) ?_
 refine LM.val (ov_gtr rfl rfl) ?_
 refine LM.mv rfl ?_
 refine LM.splitD (t := 9) rfl (fun h1 => ?_) (fun h1 => ?_)
 ·
  refine LM.dr 9 rfl rfl rfl ?_
  refine LM.dr 9 rfl rfl rfl ?_
  refine LM.dr 9 rfl rfl rfl ?_
  refine LM.dr 9 rfl rfl rfl ?_
  refine LM.val (ov_pickT rfl rfl) ?_
  refine LM.mv rfl ?_
  refine LM.dr 15 rfl rfl rfl ?_
  refine LM.dr 15 rfl rfl rfl ?_
  refine LM.dr 15 rfl rfl rfl ?_
  refine LM.dr 15 rfl rfl rfl ?_
  refine LM.val (ov_pickT rfl rfl) ?_
  refine LM.nil (QM.sub (e' := [(1, _), (20, _)]) ⟨rfl, rfl, trivial⟩ (QM.then ?_))
  refine wpM.condT rfl ?_
  refine wpM.seq (wpM.region ?_)
  refine LM.as rfl ?_
  refine LM.nil (QM.sub (e' := [(2, _)]) ⟨rfl, trivial⟩ (QM.then ?_))
  refine wpM.ret ?_
  refine QM.then_ret ?_
  refine QM.leave (.inl rfl) [.tmp 2] Tryz.results15 rfl ?_
  intro w' hm' hc' hg'
  refine ⟨?_, hc'⟩; show Value.bool false = Value.bool (smallS s.C); unfold smallS; rw [decide_eq_false (show ¬ s.C.gs.length ≤ 12 by show ¬ s.gs.length ≤ 12; omega)]; rfl
 refine LM.sp 9 rfl rfl rfl ?_
 refine LM.val (ov_field Tryz.underlying30 rfl Tryz.sizeOf27 rfl (k := 3) rfl rfl) ?_
 refine LM.sp 9 rfl rfl rfl ?_
 refine LM.rd (om_ld Tryz.isAgg27 rfl rfl) ?_
 refine LM.sp 9 rfl rfl rfl ?_
 refine LM.val (ov_len Tryz.underlying27 rfl) ?_
 refine LM.sp 9 rfl rfl rfl ?_
 refine LM.val (ov_gtr rfl rfl) ?_
 refine LM.val (ov_pickF rfl rfl) ?_
 refine LM.mv rfl ?_
 refine LM.splitD (t := 15) rfl (fun h2 => ?_) (fun h2 => ?_)
 ·
  refine LM.dr 15 rfl rfl rfl ?_
  refine LM.dr 15 rfl rfl rfl ?_
  refine LM.dr 15 rfl rfl rfl ?_
  refine LM.dr 15 rfl rfl rfl ?_
  refine LM.val (ov_pickT rfl rfl) ?_
  refine LM.nil (QM.sub (e' := [(1, _), (20, _)]) ⟨rfl, rfl, trivial⟩ (QM.then ?_))
  refine wpM.condT rfl ?_
  refine wpM.seq (wpM.region ?_)
  refine LM.as rfl ?_
  refine LM.nil (QM.sub (e' := [(2, _)]) ⟨rfl, trivial⟩ (QM.then ?_))
  refine wpM.ret ?_
  refine QM.then_ret ?_
  refine QM.leave (.inl rfl) [.tmp 2] Tryz.results15 rfl ?_
  intro w' hm' hc' hg'
  refine ⟨?_, hc'⟩; show Value.bool false = Value.bool (smallS s.C); unfold smallS; rw [decide_eq_false (show ¬ s.C.ls.length ≤ 12 by show ¬ s.ls.length ≤ 12; omega)]; simp
 refine LM.sp 15 rfl rfl rfl ?_
 refine LM.val (ov_field Tryz.underlying30 rfl Tryz.sizeOf28 rfl (k := 4) rfl rfl) ?_
 refine LM.sp 15 rfl rfl rfl ?_
 refine LM.rd (om_ld Tryz.isAgg28 rfl rfl) ?_
 refine LM.sp 15 rfl rfl rfl ?_
 refine LM.val (ov_len Tryz.underlying28 rfl) ?_
 refine LM.sp 15 rfl rfl rfl ?_
 refine LM.val (ov_gtr rfl rfl) ?_
 refine LM.val (ov_pickF rfl rfl) ?_
 refine LM.nil (QM.sub (e' := [(1, _), (20, _)]) ⟨rfl, rfl, trivial⟩ (QM.then ?_))
 refine wpM.condD rfl (fun h3 => ?_) (fun h3 => ?_)
 ·
  refine wpM.seq (wpM.region ?_)
  refine LM.as rfl ?_
  refine LM.nil (QM.sub (e' := [(2, _)]) ⟨rfl, trivial⟩ (QM.then ?_))
  refine wpM.ret ?_
  refine QM.then_ret ?_
  refine QM.leave (.inl rfl) [.tmp 2] Tryz.results15 rfl ?_
  intro w' hm' hc' hg'
  refine ⟨?_, hc'⟩; show Value.bool false = Value.bool (smallS s.C); unfold smallS; rw [decide_eq_false (show ¬ s.C.ps.length ≤ 12 by show ¬ (s.ps.map PgV.c).length ≤ 12; rw [List.length_map]; omega)]; simp
 refine wpM.skip ?_
 refine QM.then ?_
 refine wpM.seq ?_
 refine wpM.seq (wpM.region ?_)
 refine LM.val (ov_field Tryz.underlying30 rfl Tryz.sizeOf28 rfl (k := 4) rfl rfl) ?_
 refine LM.rd (om_ld Tryz.isAgg28 rfl rfl) ?_
 refine LM.val (ov_len Tryz.underlying28 rfl) ?_
 refine LM.mv rfl ?_
 refine LM.nil (QM.sub (e' := [(22, _), (23, _), (24, _)]) ⟨rfl, rfl, rfl, trivial⟩ (QM.then ?_))
 refine wpM.block ?_
 refine wpM.loopK0 (α := Nat) (fun i => [(24, .int .i64 (i : Nat))]) [(22, _), (23, _)] (fun i => stB b1 s :: []) (fun i => i ≤ s.ps.length ∧ (s.ps.take i).all (fun p => decide (p.c.xs.length ≤ 20)) = true) (fun i => s.ps.length - i) (0) ⟨au2, rfl, rfl, trivial⟩ au1 ⟨Nat.zero_le _, rfl⟩ ?_
 rintro i ⟨hi, ha⟩
 change wpM _ _ _ _ _ _ _ (stB b1 s :: []) _ _ _
 refine wpM.seq (wpM.region ?_)
 refine LM.val (ov_lss rfl rfl) ?_
 refine LM.nil (QM.sub (e' := [(22, _), (23, _), (24, _), (25, _)]) ⟨rfl, rfl, rfl, rfl, trivial⟩ (QM.then ?_))
 refine wpM.seq ?_
 refine wpM.condD rfl (fun h4 => ?_) (fun h4 => ?_)
 ·
  have hpi : (s.ps.getD i default).In w := hI.ops _ (List.mem_of_getElem? (getq default (by omega))); have hpl := hpi.1
  refine wpM.skip ?_
  refine QM.then ?_
  refine wpM.seq ?_
  refine wpM.block ?_
  refine wpM.seq (wpM.region ?_)
  refine LM.val (ov_idxSN au6 Tryz.underlying28 Tryz.sizeOf87 rfl rfl (by omega)) ?_
  first | refine LM.rd (om_slA (by assumption) (by intro _; rfl) Tryz.isAgg87 Tryz.sizeOf87 rfl au3) ?_ | refine LM.rdC (om_srEA (by assumption) (by intro _; rfl) Tryz.isAgg87 Tryz.sizeOf87 rfl au3 id) ?_ | refine LM.rd (om_ldW Tryz.isAgg87 Tryz.sizeOf87 rfl rfl) ?_ | refine LM.rd (om_ldA Tryz.isAgg87 Tryz.sizeOf87 rfl (vs := [_, _]) rfl ⟨rfl, rfl, trivial⟩) ?_
  refine LM.alloc Tryz.zeroValue87 rfl (fun b4 hb4 => ?_)
  refine LM.stW Tryz.sizeOf87 rfl rfl rfl rfl au7 au8 ?_
  refine LM.nil (QM.sub (e' := [(4, _), (22, _), (23, _), (24, _)]) ⟨rfl, rfl, rfl, rfl, trivial⟩ (QM.then (wpM.seq (wpM.region ?_))))
  refine LM.val (ov_field Tryz.underlying87 rfl Tryz.sizeOf85 rfl (k := 1) rfl rfl) ?_
  refine LM.rd (om_ld Tryz.isAgg85 rfl rfl) ?_
  refine LM.val (ov_len Tryz.underlying85 rfl) ?_
  refine LM.val (ov_gtr rfl rfl) ?_
  refine LM.nil (QM.sub (e' := [(22, _), (23, _), (24, _), (31, _)]) ⟨rfl, rfl, rfl, rfl, trivial⟩ (QM.then ?_))
  refine wpM.condD rfl (fun h5 => ?_) (fun h5 => ?_)
  ·
   refine wpM.seq (wpM.region ?_)
   refine LM.as rfl ?_
   refine LM.nil (QM.sub (e' := [(2, _)]) ⟨rfl, trivial⟩ (QM.then ?_))
   refine wpM.ret ?_
   refine QM.block_ret ?_
   refine QM.then_ret ?_
   refine QM.then_ret ?_
   refine QM.block_ret ?_
   refine QM.then_ret ?_
   refine QM.leave (.inl rfl) [.tmp 2] Tryz.results15 rfl ?_
   intro w' hm' hc' hg'
   refine ⟨?_, hc'⟩; show Value.bool false = Value.bool (smallS s.C); unfold smallS; rw [all_ff (xs := s.C.ps) (i := i) default (by show i < (s.ps.map PgV.c).length; rw [List.length_map]; omega) (by show decide (((s.ps.map PgV.c).getD i default).xs.length ≤ 20) = false; rw [map_getD]; exact decide_eq_false (by omega))]; simp
  refine wpM.skip ?_
  refine QM.block_normal ?_
  refine QM.then (wpM.region ?_)
  refine LM.val (ov_add64 rfl rfl (by omega)) ?_
  refine LM.mv rfl ?_
  refine LM.nil (QM.sub (e' := [(22, _), (23, _), (24, _)]) ⟨rfl, rfl, rfl, trivial⟩ ?_)
  refine QM.againK (i + 1) ⟨au2, rfl, rfl, trivial⟩ au1 (fun _ h => h) ?_ ?_
  · exact ⟨by omega, by rw [all_snoc default (by omega), ha, Bool.true_and]; exact decide_eq_true (by omega)⟩
  · omega
 refine wpM.exit ?_
 refine QM.then_exit ?_
 refine QM.then_exit ?_
 refine QM.block_hit ?_
 refine QM.then (wpM.seq (wpM.region ?_))
 refine LM.as rfl ?_
 refine LM.nil (QM.sub (e' := [(2, _)]) ⟨rfl, trivial⟩ (QM.then ?_))
 refine wpM.ret ?_
 refine QM.leave (.inl rfl) [.tmp 2] Tryz.results15 rfl ?_
 intro w' hm' hc' hg'
 refine ⟨?_, hc'⟩; have hil : i = s.ps.length := (by omega); subst hil; rw [List.take_length] at ha; show Value.bool true = Value.bool (smallS s.C); unfold smallS; rw [decide_eq_true (show s.C.gs.length ≤ 12 by show s.gs.length ≤ 12; omega), decide_eq_true (show s.C.ls.length ≤ 12 by show s.ls.length ≤ 12; omega), decide_eq_true (show s.C.ps.length ≤ 12 by show (s.ps.map PgV.c).length ≤ 12; rw [List.length_map]; omega), show s.C.ps.all (fun p => decide (p.xs.length ≤ 20)) = true by show (s.ps.map PgV.c).all _ = true; rw [List.all_map]; exact ha]; rfl
set_option maxRecDepth 100000 in
theorem smay1_spec (n : Int) (w : World) : Ret Tryz.prog 50 #[.int .i64 n] w (fun v w' => v = .bool (!winB n 16) ∧ Ext w w') := by
 refine Ret.enterM (l := [.int .i64 n]) Tryz.func50 rfl Tryz.ntmps50 rfl ([]) (no) (Mem.nil w) ?_
 refine wpM.seq (wpM.region ?_)
 refine LM.as rfl ?_
 refine LM.nil (QM.sub (e' := [(0, _)]) ⟨rfl, trivial⟩ (QM.then (wpM.seq (wpM.region ?_))))
 refine LM.mv rfl ?_
 refine LM.callE (oc_call (enters_fn Tryz.func48 (by kernel_rfl) rfl) rfl) (fun w hm hc hg => swithin_spec n 16 w) ?_
 first | refine LM.val (ov_notD rfl) ?_ | refine LM.val (ov_not rfl) ?_
 refine LM.as rfl ?_
 refine LM.nil (QM.sub (e' := [(2, _)]) ⟨rfl, trivial⟩ (QM.then ?_))
 refine wpM.ret ?_
 refine QM.leave (.inl rfl) [.tmp 2] Tryz.results50 rfl ?_
 intro w' hm' hc' hg'
 exact ⟨rfl, hc'⟩
set_option maxRecDepth 100000 in
theorem lockMay_spec (x : CLk) (w : World) : Ret Tryz.prog 53 #[.agg (fL x).toArray] w (fun v w' => v = .bool (lokB x) ∧ Ext w w') := by
 refine Ret.enterM (l := [.agg (fL x).toArray]) Tryz.func53 rfl Tryz.ntmps53 rfl ([]) (no) (Mem.nil w) ?_
 refine wpM.seq (wpM.region ?_)
 refine LM.box rfl rfl (fun b1 hb1 => ?_)
 refine LM.as rfl ?_
 refine LM.nil (QM.sub (e' := [(1, _)]) ⟨rfl, trivial⟩ (QM.then ?_))
 refine wpM.seq ?_
 refine wpM.joinK (α := Bool) (fun q => [(3, .bool q)]) [(1, _)] (fun q => (b1, .cells (fL x).toArray 63 (0, 0)) :: []) (fun q => q = (decide (x.rd = 0) && decide (x.wr = 0))) ⟨rfl, trivial⟩ ?_ ?_
 ·
  refine wpM.region ?_
  refine LM.val (ov_field Tryz.underlying63 rfl Tryz.sizeOf3 rfl (k := 3) rfl rfl) ?_
  refine LM.rd (om_ld Tryz.isAgg3 rfl rfl) ?_
  refine LM.val (ov_eql rfl rfl) ?_
  refine LM.mv rfl ?_
  refine LM.splitD (t := 7) rfl (fun h1 => ?_) (fun h1 => ?_)
  ·
   refine LM.sp 7 rfl rfl rfl ?_
   refine LM.val (ov_field Tryz.underlying63 rfl Tryz.sizeOf3 rfl (k := 4) rfl rfl) ?_
   refine LM.sp 7 rfl rfl rfl ?_
   refine LM.rd (om_ld Tryz.isAgg3 rfl rfl) ?_
   refine LM.sp 7 rfl rfl rfl ?_
   refine LM.val (ov_eql rfl rfl) ?_
   refine LM.val (ov_pickT rfl rfl) ?_
   refine LM.as rfl ?_
   refine LM.nil (QM.sub (e' := [(1, _), (3, _)]) ⟨rfl, rfl, trivial⟩ ?_)
   refine QM.meetK (_) ⟨au2, rfl, trivial⟩ au1 ?_
   · (simp [h1, -List.getD_eq_getElem?_getD]; done)
  refine LM.dr 7 rfl rfl rfl ?_
  refine LM.dr 7 rfl rfl rfl ?_
  refine LM.dr 7 rfl rfl rfl ?_
  refine LM.val (ov_pickF rfl rfl) ?_
  refine LM.as rfl ?_
  refine LM.nil (QM.sub (e' := [(1, _), (3, _)]) ⟨rfl, rfl, trivial⟩ ?_)
  refine QM.meetK (_) ⟨au2, rfl, trivial⟩ au1 ?_
  · (simp [h1, -List.getD_eq_getElem?_getD]; done)
 rintro q hq
 change QM _ _ _ _ _ ((b1, .cells (fL x).toArray 63 (0, 0)) :: []) _ _ _
 refine QM.then ?_
 refine wpM.seq ?_
 refine wpM.seq (wpM.region ?_)
 refine LM.val (ov_field Tryz.underlying63 rfl Tryz.sizeOf4 rfl (k := 0) rfl rfl) ?_
 refine LM.rd (om_ld Tryz.isAgg4 rfl rfl) ?_
 refine LM.nil (QM.sub (e' := [(1, _), (3, _), (13, _)]) ⟨rfl, rfl, rfl, trivial⟩ (QM.then ?_))
 refine wpM.joinK (α := Bool) (fun q2 => [(3, .bool q2)]) [(1, _)] (fun q2 => (b1, .cells (fL x).toArray 63 (0, 0)) :: []) (fun q2 => q2 = (if x.sh then winB x.rd 16 && winB x.wr 16 else decide (x.rd = 0) && decide (x.wr = 0))) ⟨rfl, trivial⟩ ?_ ?_
 ·
  first | refine wpM.condD rfl (fun h2 => ?_) (fun h2 => ?_) | refine wpM.condB rfl (fun h2 => ?_) (fun h2 => ?_)
  ·
   refine wpM.region ?_
   refine LM.val (ov_field Tryz.underlying63 rfl Tryz.sizeOf3 rfl (k := 3) rfl rfl) ?_
   refine LM.rd (om_ld Tryz.isAgg3 rfl rfl) ?_
   refine LM.callE (oc_call (enters_fn Tryz.func48 (by kernel_rfl) rfl) rfl) (fun w hm hc hg => swithin_spec _ _ w) ?_
   refine LM.mv rfl ?_
   first | refine LM.splitD (t := 17) rfl (fun h3 => ?_) (fun h3 => ?_) | refine LM.splitB (t := 17) rfl (fun h3 => ?_) (fun h3 => ?_)
   ·
    refine LM.sp 17 rfl rfl rfl ?_
    refine LM.val (ov_field Tryz.underlying63 rfl Tryz.sizeOf3 rfl (k := 4) rfl rfl) ?_
    refine LM.sp 17 rfl rfl rfl ?_
    refine LM.rd (om_ld Tryz.isAgg3 rfl rfl) ?_
    refine LM.sp 17 rfl rfl rfl ?_
    refine LM.callE (oc_call (enters_fn Tryz.func48 (by kernel_rfl) rfl) rfl) (fun w hm hc hg => swithin_spec _ _ w) ?_
    refine LM.val (ov_pickT rfl rfl) ?_
    refine LM.as rfl ?_
    refine LM.nil (QM.sub (e' := [(1, _), (3, _)]) ⟨rfl, rfl, trivial⟩ ?_)
    refine QM.meetK (_) ⟨au2, rfl, trivial⟩ au1 ?_
    · (simp [h2, h3, -List.getD_eq_getElem?_getD]; done)
   refine LM.dr 17 rfl rfl rfl ?_
   refine LM.dr 17 rfl rfl rfl ?_
   refine LM.dr 17 rfl rfl rfl ?_
   refine LM.val (ov_pickF rfl rfl) ?_
   refine LM.as rfl ?_
   refine LM.nil (QM.sub (e' := [(1, _), (3, _)]) ⟨rfl, rfl, trivial⟩ ?_)
   refine QM.meetK (_) ⟨au2, rfl, trivial⟩ au1 ?_
   · (simp [h2, h3, -List.getD_eq_getElem?_getD]; done)
  refine wpM.skip ?_
  refine QM.meetK (_) ⟨au2, rfl, trivial⟩ au1 ?_
  · first | (simp [h2, -List.getD_eq_getElem?_getD]; done) | (simp_all [-List.getD_eq_getElem?_getD]; done)
 rintro q2 hq2
 change QM _ _ _ _ _ ((b1, .cells (fL x).toArray 63 (0, 0)) :: []) _ _ _
 refine QM.then (wpM.seq (wpM.region ?_))
 refine LM.mv rfl ?_
 refine LM.mv rfl ?_
 first | refine LM.splitD (t := 23) rfl (fun h4 => ?_) (fun h4 => ?_) | refine LM.splitB (t := 23) rfl (fun h4 => ?_) (fun h4 => ?_)
 ·
  refine LM.sp 23 rfl rfl rfl ?_
  refine LM.val (ov_field Tryz.underlying63 rfl Tryz.sizeOf3 rfl (k := 1) rfl rfl) ?_
  refine LM.sp 23 rfl rfl rfl ?_
  refine LM.rd (om_ld Tryz.isAgg3 rfl rfl) ?_
  refine LM.sp 23 rfl rfl rfl ?_
  refine LM.callE (oc_call (enters_fn Tryz.func48 (by kernel_rfl) rfl) rfl) (fun w hm hc hg => swithin_spec _ _ w) ?_
  refine LM.val (ov_pickT rfl rfl) ?_
  refine LM.mv rfl ?_
  first | refine LM.splitD (t := 28) rfl (fun h5 => ?_) (fun h5 => ?_) | refine LM.splitB (t := 28) rfl (fun h5 => ?_) (fun h5 => ?_)
  ·
   refine LM.sp 28 rfl rfl rfl ?_
   refine LM.val (ov_field Tryz.underlying63 rfl Tryz.sizeOf3 rfl (k := 2) rfl rfl) ?_
   refine LM.sp 28 rfl rfl rfl ?_
   refine LM.rd (om_ld Tryz.isAgg3 rfl rfl) ?_
   refine LM.sp 28 rfl rfl rfl ?_
   refine LM.callE (oc_call (enters_fn Tryz.func48 (by kernel_rfl) rfl) rfl) (fun w hm hc hg => swithin_spec _ _ w) ?_
   refine LM.val (ov_pickT rfl rfl) ?_
   refine LM.as rfl ?_
   refine LM.nil (QM.sub (e' := [(2, _)]) ⟨rfl, trivial⟩ (QM.then ?_))
   refine wpM.ret ?_
   refine QM.leave (.inl rfl) [.tmp 2] Tryz.results53 rfl ?_
   intro w' hm' hc' hg'
   refine ⟨?_, hc'⟩; simp only [resV, lokB, ← hq2]; simp [h4, h5]
  refine LM.dr 28 rfl rfl rfl ?_
  refine LM.dr 28 rfl rfl rfl ?_
  refine LM.dr 28 rfl rfl rfl ?_
  refine LM.val (ov_pickF rfl rfl) ?_
  refine LM.as rfl ?_
  refine LM.nil (QM.sub (e' := [(2, _)]) ⟨rfl, trivial⟩ (QM.then ?_))
  refine wpM.ret ?_
  refine QM.leave (.inl rfl) [.tmp 2] Tryz.results53 rfl ?_
  intro w' hm' hc' hg'
  refine ⟨?_, hc'⟩; simp only [resV, lokB, ← hq2]; simp [h4, h5]
 refine LM.dr 23 rfl rfl rfl ?_
 refine LM.dr 23 rfl rfl rfl ?_
 refine LM.dr 23 rfl rfl rfl ?_
 refine LM.val (ov_pickF rfl rfl) ?_
 refine LM.mv rfl ?_
 refine LM.dr 28 rfl rfl rfl ?_
 refine LM.dr 28 rfl rfl rfl ?_
 refine LM.dr 28 rfl rfl rfl ?_
 refine LM.val (ov_pickF rfl rfl) ?_
 refine LM.as rfl ?_
 refine LM.nil (QM.sub (e' := [(2, _)]) ⟨rfl, trivial⟩ (QM.then ?_))
 refine wpM.ret ?_
 refine QM.leave (.inl rfl) [.tmp 2] Tryz.results53 rfl ?_
 intro w' hm' hc' hg'
 refine ⟨?_, hc'⟩; simp only [resV, lokB, ← hq2]; simp [h4]
set_option maxRecDepth 100000 in
theorem smay2_spec (x : CLk) (w : World) : Ret Tryz.prog 52 #[.agg (fL x).toArray] w (fun v w' => v = .bool (!lokB x) ∧ Ext w w') := by
 refine Ret.enterM (l := [.agg (fL x).toArray]) Tryz.func52 rfl Tryz.ntmps52 rfl ([]) (no) (Mem.nil w) ?_
 refine wpM.seq (wpM.region ?_)
 refine LM.box rfl rfl (fun b1 hb1 => ?_)
 refine LM.as rfl ?_
 refine LM.nil (QM.sub (e' := [(1, _)]) ⟨rfl, trivial⟩ (QM.then (wpM.seq (wpM.region ?_))))
 refine LM.rd (om_ldW Tryz.isAgg63 Tryz.sizeOf63 rfl rfl) ?_
 refine LM.callE (oc_call (enters_fn Tryz.func53 (by kernel_rfl) rfl) rfl) (fun w hm hc hg => lockMay_spec x w) ?_
 first | refine LM.val (ov_notD rfl) ?_ | refine LM.val (ov_not rfl) ?_
 refine LM.as rfl ?_
 refine LM.nil (QM.sub (e' := [(2, _)]) ⟨rfl, trivial⟩ (QM.then ?_))
 refine wpM.ret ?_
 refine QM.leave (.inl rfl) [.tmp 2] Tryz.results52 rfl ?_
 intro w' hm' hc' hg'
 exact ⟨rfl, hc'⟩
set_option maxRecDepth 100000 in
theorem ixf_g {xs : List Int} {ad : Option Addr} {n cap : Nat} (w : World) (hn : n = xs.length) (hl : Sr fI 1 xs (.slice ad n cap) w) (hx : xs.length ≤ 1000000) : Ret Tryz.prog 93 #[.slice ad n cap, .func (.func 50) #[] #[]] w (fun v w' => v = .int .i64 (fixI (fun o => (!winB o 16)) xs) ∧ Ext w w') := by
 refine Ret.enterM (l := [.slice ad n cap, .func (.func 50) #[] #[]]) Tryz.func93 rfl Tryz.ntmps93 rfl ([]) (no) (Mem.nil w) ?_
 refine wpM.seq (wpM.region ?_)
 refine LM.as rfl ?_
 refine LM.nil (QM.sub (e' := [(0, _), (1, _)]) ⟨rfl, rfl, trivial⟩ (QM.then ?_))
 refine wpM.seq ?_
 refine wpM.seq (wpM.region ?_)
 refine LM.mv rfl ?_
 refine LM.val (ov_len Tryz.underlying26 rfl) ?_
 refine LM.mv rfl ?_
 refine LM.nil (QM.sub (e' := [(0, _), (1, _), (7, _), (8, _)]) ⟨rfl, rfl, rfl, rfl, trivial⟩ (QM.then ?_))
 refine wpM.block ?_
 refine wpM.loopK0 (α := Nat) (fun i => [(8, .int .i64 (i : Nat))]) [(0, _), (1, _), (7, _)] (fun i => []) (fun i => i ≤ xs.length ∧ (xs.take i).any (fun o => (!winB o 16)) = false) (fun i => xs.length - i) (0) ⟨au2, rfl, rfl, rfl, trivial⟩ au1 ⟨Nat.zero_le _, rfl⟩ ?_
 rintro i ⟨hi, ha⟩
 change wpM _ _ _ _ _ _ _ ([]) _ _ _
 refine wpM.seq (wpM.region ?_)
 refine LM.val (ov_lss rfl rfl) ?_
 refine LM.nil (QM.sub (e' := [(0, _), (1, _), (7, _), (8, _), (9, _)]) ⟨rfl, rfl, rfl, rfl, rfl, trivial⟩ (QM.then ?_))
 refine wpM.seq ?_
 refine wpM.condD rfl (fun h1 => ?_) (fun h1 => ?_)
 ·
  refine wpM.skip ?_
  refine QM.then ?_
  refine wpM.seq ?_
  refine wpM.block ?_
  refine wpM.seq (wpM.region ?_)
  refine LM.mv rfl ?_
  refine LM.as rfl ?_
  refine LM.nil (QM.sub (e' := [(0, _), (1, _), (5, _), (7, _), (8, _)]) ⟨rfl, rfl, rfl, rfl, rfl, trivial⟩ (QM.then (wpM.seq (wpM.region ?_))))
  refine LM.mv rfl ?_
  refine LM.mv rfl ?_
  refine LM.mv rfl ?_
  refine LM.val (ov_idxSN au6 Tryz.underlying26 Tryz.sizeOf3 rfl rfl (by omega)) ?_
  first | refine LM.rd (om_sl1 (by assumption) (by intro _; rfl) Tryz.isAgg3 rfl rfl (by exact getq 0 au4) (by rfl)) ?_ | refine LM.rdC (om_sr1 (by assumption) Tryz.isAgg3 rfl rfl (by exact getq 0 au4) (by rfl) id) ?_ | refine LM.rd (om_ld Tryz.isAgg3 rfl rfl) ?_
  refine LM.callE (oc_callV rfl (enters_fn Tryz.func50 (by kernel_rfl) rfl) rfl) (fun w hm hc hg => smay1_spec _ w) ?_
  refine LM.nil (QM.sub (e' := [(0, _), (1, _), (5, _), (7, _), (8, _), (16, _)]) ⟨rfl, rfl, rfl, rfl, rfl, rfl, trivial⟩ (QM.then ?_))
  first | refine wpM.condD rfl (fun h2 => ?_) (fun h2 => ?_) | refine wpM.condB rfl (fun h2 => ?_) (fun h2 => ?_)
  ·
   refine wpM.seq (wpM.region ?_)
   refine LM.mv rfl ?_
   refine LM.as rfl ?_
   refine LM.nil (QM.sub (e' := [(4, _)]) ⟨rfl, trivial⟩ (QM.then ?_))
   refine wpM.ret ?_
   refine QM.block_ret ?_
   refine QM.then_ret ?_
   refine QM.then_ret ?_
   refine QM.block_ret ?_
   refine QM.then_ret ?_
   refine QM.leave (.inl rfl) [.tmp 4] Tryz.results93 rfl ?_
   intro w' hm' hc' hg'
   exact ⟨by show Value.int .i64 _ = _; rw [fix_hit 0 ha (by omega) (by simpa using h2)], hc'⟩
  refine wpM.skip ?_
  refine QM.block_normal ?_
  refine QM.then (wpM.region ?_)
  refine LM.val (ov_add64 rfl rfl (by omega)) ?_
  refine LM.mv rfl ?_
  refine LM.nil (QM.sub (e' := [(0, _), (1, _), (7, _), (8, _)]) ⟨rfl, rfl, rfl, rfl, trivial⟩ ?_)
  refine QM.againK (i + 1) ⟨au2, rfl, rfl, rfl, trivial⟩ au1 (fun _ h => h) ?_ ?_
  · exact ⟨by omega, by rw [any_snoc 0 (by omega), ha, Bool.false_or]; simpa using h2⟩
  · omega
 refine wpM.exit ?_
 refine QM.then_exit ?_
 refine QM.then_exit ?_
 refine QM.block_hit ?_
 refine QM.then (wpM.seq (wpM.region ?_))
 refine LM.as rfl ?_
 refine LM.nil (QM.sub (e' := [(4, _)]) ⟨rfl, trivial⟩ (QM.then ?_))
 refine wpM.ret ?_
 refine QM.leave (.inl rfl) [.tmp 4] Tryz.results93 rfl ?_
 intro w' hm' hc' hg'
 have hil : i = xs.length := (by omega); subst hil; rw [List.take_length] at ha; exact ⟨by show Value.int .i64 _ = _; rw [fix_miss ha], hc'⟩
set_option maxRecDepth 100000 in
theorem cof_g {xs : List Int} {ad : Option Addr} {n cap : Nat} (w : World) (hn : n = xs.length) (hl : Sr fI 1 xs (.slice ad n cap) w) (hx : xs.length ≤ 1000000) : Ret Tryz.prog 49 #[.slice ad n cap, .func (.func 50) #[] #[]] w (fun v w' => v = .bool (xs.any (fun o => (!winB o 16))) ∧ Ext w w') := by
 refine Ret.enterM (l := [.slice ad n cap, .func (.func 50) #[] #[]]) Tryz.func49 rfl Tryz.ntmps49 rfl ([]) (no) (Mem.nil w) ?_
 refine wpM.seq (wpM.region ?_)
 refine LM.as rfl ?_
 refine LM.nil (QM.sub (e' := [(0, _), (1, _)]) ⟨rfl, rfl, trivial⟩ (QM.then (wpM.seq (wpM.region ?_))))
 refine LM.mv rfl ?_
 refine LM.mv rfl ?_
 refine LM.callE (oc_call (enters_fn Tryz.func93 (by kernel_rfl) rfl) rfl) (fun w hm hc hg => ixf_g w hn (hl.ext hc) hx) ?_
 refine LM.val (ov_geq rfl rfl) ?_
 refine LM.as rfl ?_
 refine LM.nil (QM.sub (e' := [(4, _)]) ⟨rfl, trivial⟩ (QM.then ?_))
 refine wpM.ret ?_
 refine QM.leave (.inl rfl) [.tmp 4] Tryz.results49 rfl ?_
 intro w' hm' hc' hg'
 exact ⟨by show Value.bool _ = _; rw [← fix_pos], hc'⟩
set_option maxRecDepth 100000 in
theorem ixf_l {xs : List CLk} {ad : Option Addr} {n cap : Nat} (w : World) (hn : n = xs.length) (hl : Sr fL 5 xs (.slice ad n cap) w) (hx : xs.length ≤ 1000000) : Ret Tryz.prog 94 #[.slice ad n cap, .func (.func 52) #[] #[]] w (fun v w' => v = .int .i64 (fixI (fun o => (!lokB o)) xs) ∧ Ext w w') := by
 refine Ret.enterM (l := [.slice ad n cap, .func (.func 52) #[] #[]]) Tryz.func94 rfl Tryz.ntmps94 rfl ([]) (no) (Mem.nil w) ?_
 refine wpM.seq (wpM.region ?_)
 refine LM.as rfl ?_
 refine LM.nil (QM.sub (e' := [(0, _), (1, _)]) ⟨rfl, rfl, trivial⟩ (QM.then ?_))
 refine wpM.seq ?_
 refine wpM.seq (wpM.region ?_)
 refine LM.mv rfl ?_
 refine LM.val (ov_len Tryz.underlying27 rfl) ?_
 refine LM.mv rfl ?_
 refine LM.nil (QM.sub (e' := [(0, _), (1, _), (7, _), (8, _)]) ⟨rfl, rfl, rfl, rfl, trivial⟩ (QM.then ?_))
 refine wpM.block ?_
 refine wpM.loopK0 (α := Nat) (fun i => [(8, .int .i64 (i : Nat))]) [(0, _), (1, _), (7, _)] (fun i => []) (fun i => i ≤ xs.length ∧ (xs.take i).any (fun o => (!lokB o)) = false) (fun i => xs.length - i) (0) ⟨au2, rfl, rfl, rfl, trivial⟩ au1 ⟨Nat.zero_le _, rfl⟩ ?_
 rintro i ⟨hi, ha⟩
 change wpM _ _ _ _ _ _ _ ([]) _ _ _
 refine wpM.seq (wpM.region ?_)
 refine LM.val (ov_lss rfl rfl) ?_
 refine LM.nil (QM.sub (e' := [(0, _), (1, _), (7, _), (8, _), (9, _)]) ⟨rfl, rfl, rfl, rfl, rfl, trivial⟩ (QM.then ?_))
 refine wpM.seq ?_
 refine wpM.condD rfl (fun h1 => ?_) (fun h1 => ?_)
 ·
  refine wpM.skip ?_
  refine QM.then ?_
  refine wpM.seq ?_
  refine wpM.block ?_
  refine wpM.seq (wpM.region ?_)
  refine LM.mv rfl ?_
  refine LM.as rfl ?_
  refine LM.nil (QM.sub (e' := [(0, _), (1, _), (5, _), (7, _), (8, _)]) ⟨rfl, rfl, rfl, rfl, rfl, trivial⟩ (QM.then (wpM.seq (wpM.region ?_))))
  refine LM.mv rfl ?_
  refine LM.mv rfl ?_
  refine LM.mv rfl ?_
  refine LM.val (ov_idxSN au6 Tryz.underlying27 Tryz.sizeOf63 rfl rfl (by omega)) ?_
  first | refine LM.rd (om_slA (by assumption) (by intro _; rfl) Tryz.isAgg63 Tryz.sizeOf63 rfl au3) ?_ | refine LM.rdC (om_srEA (by assumption) (by intro _; rfl) Tryz.isAgg63 Tryz.sizeOf63 rfl au3 id) ?_ | refine LM.rd (om_ldW Tryz.isAgg63 Tryz.sizeOf63 rfl rfl) ?_ | refine LM.rd (om_ldA Tryz.isAgg63 Tryz.sizeOf63 rfl (vs := [_, _, _, _, _]) rfl ⟨rfl, rfl, rfl, rfl, rfl, trivial⟩) ?_
  refine LM.callE (oc_callV rfl (enters_fn Tryz.func52 (by kernel_rfl) rfl) rfl) (fun w hm hc hg => smay2_spec _ w) ?_
  refine LM.nil (QM.sub (e' := [(0, _), (1, _), (5, _), (7, _), (8, _), (16, _)]) ⟨rfl, rfl, rfl, rfl, rfl, rfl, trivial⟩ (QM.then ?_))
  first | refine wpM.condD rfl (fun h2 => ?_) (fun h2 => ?_) | refine wpM.condB rfl (fun h2 => ?_) (fun h2 => ?_)
  ·
   refine wpM.seq (wpM.region ?_)
   refine LM.mv rfl ?_
   refine LM.as rfl ?_
   refine LM.nil (QM.sub (e' := [(4, _)]) ⟨rfl, trivial⟩ (QM.then ?_))
   refine wpM.ret ?_
   refine QM.block_ret ?_
   refine QM.then_ret ?_
   refine QM.then_ret ?_
   refine QM.block_ret ?_
   refine QM.then_ret ?_
   refine QM.leave (.inl rfl) [.tmp 4] Tryz.results94 rfl ?_
   intro w' hm' hc' hg'
   exact ⟨by show Value.int .i64 _ = _; rw [fix_hit default ha (by omega) (by simpa using h2)], hc'⟩
  refine wpM.skip ?_
  refine QM.block_normal ?_
  refine QM.then (wpM.region ?_)
  refine LM.val (ov_add64 rfl rfl (by omega)) ?_
  refine LM.mv rfl ?_
  refine LM.nil (QM.sub (e' := [(0, _), (1, _), (7, _), (8, _)]) ⟨rfl, rfl, rfl, rfl, trivial⟩ ?_)
  refine QM.againK (i + 1) ⟨au2, rfl, rfl, rfl, trivial⟩ au1 (fun _ h => h) ?_ ?_
  · exact ⟨by omega, by rw [any_snoc default (by omega), ha, Bool.false_or]; simpa using h2⟩
  · omega
 refine wpM.exit ?_
 refine QM.then_exit ?_
 refine QM.then_exit ?_
 refine QM.block_hit ?_
 refine QM.then (wpM.seq (wpM.region ?_))
 refine LM.as rfl ?_
 refine LM.nil (QM.sub (e' := [(4, _)]) ⟨rfl, trivial⟩ (QM.then ?_))
 refine wpM.ret ?_
 refine QM.leave (.inl rfl) [.tmp 4] Tryz.results94 rfl ?_
 intro w' hm' hc' hg'
 have hil : i = xs.length := (by omega); subst hil; rw [List.take_length] at ha; exact ⟨by show Value.int .i64 _ = _; rw [fix_miss ha], hc'⟩
set_option maxRecDepth 100000 in
theorem cof_l {xs : List CLk} {ad : Option Addr} {n cap : Nat} (w : World) (hn : n = xs.length) (hl : Sr fL 5 xs (.slice ad n cap) w) (hx : xs.length ≤ 1000000) : Ret Tryz.prog 51 #[.slice ad n cap, .func (.func 52) #[] #[]] w (fun v w' => v = .bool (xs.any (fun o => (!lokB o))) ∧ Ext w w') := by
 refine Ret.enterM (l := [.slice ad n cap, .func (.func 52) #[] #[]]) Tryz.func51 rfl Tryz.ntmps51 rfl ([]) (no) (Mem.nil w) ?_
 refine wpM.seq (wpM.region ?_)
 refine LM.as rfl ?_
 refine LM.nil (QM.sub (e' := [(0, _), (1, _)]) ⟨rfl, rfl, trivial⟩ (QM.then (wpM.seq (wpM.region ?_))))
 refine LM.mv rfl ?_
 refine LM.mv rfl ?_
 refine LM.callE (oc_call (enters_fn Tryz.func94 (by kernel_rfl) rfl) rfl) (fun w hm hc hg => ixf_l w hn (hl.ext hc) hx) ?_
 refine LM.val (ov_geq rfl rfl) ?_
 refine LM.as rfl ?_
 refine LM.nil (QM.sub (e' := [(4, _)]) ⟨rfl, trivial⟩ (QM.then ?_))
 refine wpM.ret ?_
 refine QM.leave (.inl rfl) [.tmp 4] Tryz.results51 rfl ?_
 intro w' hm' hc' hg'
 exact ⟨by show Value.bool _ = _; rw [← fix_pos], hc'⟩
set_option maxRecDepth 100000 in
theorem misfit_spec {s : StV} (w : World) (hI : s.In w) (hx : s.ps.length ≤ 1000000) : Ret Tryz.prog 39 #[s.val] w (fun v w' => v = .tuple #[.int .i64 (misI s.ls (s.ps.map PgV.c)), .int .i64 (misE s.ls (s.ps.map PgV.c) (misI s.ls (s.ps.map PgV.c)))] ∧ Ext w w') := by
 have hgn := hI.hgn; have hln := hI.hln; have hpn := hI.hpn; have hp := hI.hp; have hg := hI.hg; have hl := hI.hl; have hcl : (s.ps.map PgV.c).length = s.ps.length := List.length_map ..
 refine Ret.enterM (l := [s.val]) Tryz.func39 rfl Tryz.ntmps39 rfl ([]) (no) (Mem.nil w) ?_
 refine wpM.seq (wpM.region ?_)
 refine LM.box rfl rfl (fun b1 hb1 => ?_)
 refine LM.as rfl ?_
 refine LM.as rfl ?_
 refine LM.nil (QM.sub (e' := [(1, _)]) ⟨rfl, trivial⟩ (QM.then ?_))
 refine wpM.seq ?_
 refine wpM.seq (wpM.region ?_)
 refine LM.val (ov_field Tryz.underlying30 rfl Tryz.sizeOf28 rfl (k := 4) rfl rfl) ?_
 refine LM.rd (om_ld Tryz.isAgg28 rfl rfl) ?_
 refine LM.val (ov_len Tryz.underlying28 rfl) ?_
 refine LM.mv rfl ?_
 refine LM.nil (QM.sub (e' := [(1, _), (9, _), (10, _), (11, _)]) ⟨rfl, rfl, rfl, rfl, trivial⟩ (QM.then ?_))
 refine wpM.block ?_
 refine wpM.loopK0 (α := Nat) (fun k => [(11, .int .i64 (k : Nat))]) [(1, _), (9, _), (10, _)] (fun k => stB b1 s :: []) (fun k => k ≤ s.ps.length ∧ ((s.ps.map PgV.c).take k).any (misB s.ls (s.pn : Nat)) = false) (fun k => s.ps.length - k) (0) ⟨au2, rfl, rfl, rfl, trivial⟩ au1 ⟨Nat.zero_le _, rfl⟩ ?_
 rintro k ⟨hk, hap⟩
 change wpM _ _ _ _ _ _ _ (stB b1 s :: []) _ _ _
 refine wpM.seq (wpM.region ?_)
 refine LM.val (ov_lss rfl rfl) ?_
 refine LM.nil (QM.sub (e' := [(1, _), (9, _), (10, _), (11, _), (12, _)]) ⟨rfl, rfl, rfl, rfl, rfl, trivial⟩ (QM.then ?_))
 refine wpM.seq ?_
 refine wpM.condD rfl (fun h1 => ?_) (fun h1 => ?_)
 ·
  have hpm : s.ps.getD k default ∈ s.ps := List.mem_of_getElem? (getq default (by omega))
  refine wpM.skip ?_
  refine QM.then ?_
  refine wpM.seq ?_
  refine wpM.block ?_
  refine wpM.seq (wpM.region ?_)
  refine LM.mv rfl ?_
  refine LM.val (ov_idxSN au6 Tryz.underlying28 Tryz.sizeOf87 rfl rfl (by omega)) ?_
  first | refine LM.rd (om_slA (by assumption) (by intro _; rfl) Tryz.isAgg87 Tryz.sizeOf87 rfl au3) ?_ | refine LM.rdC (om_srEA (by assumption) (by intro _; rfl) Tryz.isAgg87 Tryz.sizeOf87 rfl au3 id) ?_ | refine LM.rd (om_ldW Tryz.isAgg87 Tryz.sizeOf87 rfl rfl) ?_ | refine LM.rd (om_ldA Tryz.isAgg87 Tryz.sizeOf87 rfl (vs := [_, _]) rfl ⟨rfl, rfl, trivial⟩) ?_
  refine LM.alloc Tryz.zeroValue87 rfl (fun b5 hb5 => ?_)
  refine LM.as rfl ?_
  refine LM.stW Tryz.sizeOf87 rfl rfl rfl rfl au7 au8 ?_
  refine LM.nil (QM.sub (e' := [(1, _), (4, _), (5, _), (9, _), (10, _), (11, _)]) ⟨rfl, rfl, rfl, rfl, rfl, rfl, trivial⟩ (QM.then (wpM.seq (wpM.region ?_))))
  refine LM.rd (om_ldW Tryz.isAgg87 Tryz.sizeOf87 rfl rfl) ?_
  refine LM.val (ov_field Tryz.underlying30 rfl Tryz.sizeOf27 rfl (k := 3) rfl rfl) ?_
  refine LM.rd (om_ld Tryz.isAgg27 rfl rfl) ?_
  refine LM.val (ov_field Tryz.underlying30 rfl Tryz.sizeOf28 rfl (k := 4) rfl rfl) ?_
  refine LM.rd (om_ld Tryz.isAgg28 rfl rfl) ?_
  refine LM.val (ov_len Tryz.underlying28 rfl) ?_
  refine LM.callE (oc_call (enters_fn Tryz.func86 (by kernel_rfl) rfl) rfl) (fun w hm hc hg => check_spec (s.pn : Nat) w (hI.ops _ hpm).1 ((hI.ops _ hpm).2.ext hc) hln (hl.ext hc)) ?_
  refine LM.mv rfl ?_
  refine LM.val (ov_extract rfl rfl) ?_
  refine LM.val (ov_extract rfl rfl) ?_
  refine LM.as rfl ?_
  refine LM.as rfl ?_
  refine LM.nil (QM.sub (e' := [(1, _), (4, _), (7, _), (9, _), (10, _), (11, _)]) ⟨rfl, rfl, rfl, rfl, rfl, rfl, trivial⟩ (QM.then (wpM.seq (wpM.region ?_))))
  refine LM.mv rfl ?_
  refine LM.val (ov_neq rfl rfl) ?_
  refine LM.nil (QM.sub (e' := [(1, _), (4, _), (7, _), (9, _), (10, _), (11, _), (27, _)]) ⟨rfl, rfl, rfl, rfl, rfl, rfl, rfl, trivial⟩ (QM.then ?_))
  refine wpM.condD rfl (fun h2 => ?_) (fun h2 => ?_)
  ·
   refine wpM.seq (wpM.region ?_)
   refine LM.mv rfl ?_
   refine LM.mv rfl ?_
   refine LM.as rfl ?_
   refine LM.as rfl ?_
   refine LM.nil (QM.sub (e' := [(2, _), (3, _)]) ⟨rfl, rfl, trivial⟩ (QM.then ?_))
   refine wpM.ret ?_
   refine QM.block_ret ?_
   refine QM.then_ret ?_
   refine QM.then_ret ?_
   refine QM.block_ret ?_
   refine QM.then_ret ?_
   refine QM.leave (.inl rfl) [.tmp 2, .tmp 3] Tryz.results39 rfl ?_
   intro w' hm' hc' hg'
   have e : misI s.ls (s.ps.map PgV.c) = (k : Nat) := fix_hit default (by rw [hcl, ← hpn]; exact hap) (by rw [hcl]; omega) (by rw [map_getD, hcl, ← hpn]; unfold misB; exact decide_eq_true h2); refine ⟨?_, hc'⟩; rw [e]; unfold misE; rw [if_neg (by omega), Int.toNat_natCast, map_getD, hcl, ← hpn]; rfl
  refine wpM.skip ?_
  refine QM.block_normal ?_
  refine QM.then (wpM.region ?_)
  refine LM.val (ov_add64 rfl rfl (by omega)) ?_
  refine LM.mv rfl ?_
  refine LM.nil (QM.sub (e' := [(1, _), (9, _), (10, _), (11, _)]) ⟨rfl, rfl, rfl, rfl, trivial⟩ ?_)
  refine QM.againK (k + 1) ⟨au2, rfl, rfl, rfl, trivial⟩ au1 (fun _ h => h) ?_ ?_
  · exact ⟨by omega, by rw [any_snoc default (by rw [hcl]; omega), hap, Bool.false_or, map_getD]; unfold misB; simpa using h2⟩
  · omega
 refine wpM.exit ?_
 refine QM.then_exit ?_
 refine QM.then_exit ?_
 refine QM.block_hit ?_
 refine QM.then (wpM.seq (wpM.region ?_))
 refine LM.as rfl ?_
 refine LM.as rfl ?_
 refine LM.nil (QM.sub (e' := [(2, _), (3, _)]) ⟨rfl, rfl, trivial⟩ (QM.then ?_))
 refine wpM.ret ?_
 refine QM.leave (.inl rfl) [.tmp 2, .tmp 3] Tryz.results39 rfl ?_
 intro w' hm' hc' hg'
 have hkp : k = s.ps.length := (by omega); rw [hkp, List.take_of_length_le (by omega)] at hap; have e : misI s.ls (s.ps.map PgV.c) = -1 := fix_miss (by rw [hcl, ← hpn]; exact hap); refine ⟨?_, hc'⟩; rw [e]; rfl
set_option maxRecDepth 100000 in
theorem mayS_spec {s : StV} (w : World) (hI : s.In w) : Ret Tryz.prog 14 #[s.val] w (fun v w' => v = .bool (mayS s.C) ∧ Ext w w') := by
 have hgn := hI.hgn; have hln := hI.hln; have hpn := hI.hpn; have hp := hI.hp; have hg := hI.hg; have hl := hI.hl; have hcl : (s.ps.map PgV.c).length = s.ps.length := List.length_map ..
 refine Ret.enterM (l := [s.val]) Tryz.func14 rfl Tryz.ntmps14 rfl ([]) (no) (Mem.nil w) ?_
 refine wpM.seq (wpM.region ?_)
 refine LM.box rfl rfl (fun b1 hb1 => ?_)
 refine LM.as rfl ?_
 refine LM.nil (QM.sub (e' := [(1, _)]) ⟨rfl, trivial⟩ (QM.then ?_))
 refine wpM.seq ?_
 refine wpM.block ?_
 refine wpM.seq (wpM.region ?_)
 refine LM.val (ov_field Tryz.underlying30 rfl Tryz.sizeOf3 rfl (k := 0) rfl rfl) ?_
 refine LM.rd (om_ld Tryz.isAgg3 rfl rfl) ?_
 refine LM.callE (oc_call (enters_fn Tryz.func48 (by kernel_rfl) rfl) rfl) (fun w hm hc hg => swithin_spec _ _ w) ?_
 first | refine LM.val (ov_notD rfl) ?_ | refine LM.val (ov_not rfl) ?_
 refine LM.mv rfl ?_
 first | refine LM.splitD (t := 10) rfl (fun h1 => ?_) (fun h1 => ?_) | refine LM.splitB (t := 10) rfl (fun h1 => ?_) (fun h1 => ?_)
 ·
  refine LM.dr 10 rfl rfl rfl ?_
  refine LM.dr 10 rfl rfl rfl ?_
  refine LM.dr 10 rfl rfl rfl ?_
  refine LM.dr 10 rfl rfl rfl ?_
  refine LM.val (ov_pickT rfl rfl) ?_
  refine LM.as rfl ?_
  refine LM.nil (QM.sub (e' := [(1, _), (5, _)]) ⟨rfl, rfl, trivial⟩ (QM.then ?_))
  refine wpM.condT rfl ?_
  refine wpM.seq (wpM.region ?_)
  refine LM.as rfl ?_
  refine LM.nil (QM.sub (e' := [(2, _)]) ⟨rfl, trivial⟩ (QM.then ?_))
  refine wpM.ret ?_
  refine QM.block_ret ?_
  refine QM.then_ret ?_
  refine QM.leave (.inl rfl) [.tmp 2] Tryz.results14 rfl ?_
  intro w' hm' hc' hg'
  refine ⟨?_, hc'⟩; rw [mayS_head (by rw [head_eq hgn hln hpn]; simp [h1])]; rfl
 refine LM.sp 10 rfl rfl rfl ?_
 refine LM.val (ov_field Tryz.underlying30 rfl Tryz.sizeOf3 rfl (k := 1) rfl rfl) ?_
 refine LM.sp 10 rfl rfl rfl ?_
 refine LM.rd (om_ld Tryz.isAgg3 rfl rfl) ?_
 refine LM.sp 10 rfl rfl rfl ?_
 refine LM.callE (oc_call (enters_fn Tryz.func48 (by kernel_rfl) rfl) rfl) (fun w hm hc hg => swithin_spec _ _ w) ?_
 refine LM.sp 10 rfl rfl rfl ?_
 first | refine LM.val (ov_notD rfl) ?_ | refine LM.val (ov_not rfl) ?_
 refine LM.val (ov_pickF rfl rfl) ?_
 refine LM.as rfl ?_
 refine LM.nil (QM.sub (e' := [(1, _), (5, _)]) ⟨rfl, rfl, trivial⟩ (QM.then ?_))
 first | refine wpM.condD rfl (fun h2 => ?_) (fun h2 => ?_) | refine wpM.condB rfl (fun h2 => ?_) (fun h2 => ?_)
 ·
  refine wpM.seq (wpM.region ?_)
  refine LM.as rfl ?_
  refine LM.nil (QM.sub (e' := [(2, _)]) ⟨rfl, trivial⟩ (QM.then ?_))
  refine wpM.ret ?_
  refine QM.block_ret ?_
  refine QM.then_ret ?_
  refine QM.leave (.inl rfl) [.tmp 2] Tryz.results14 rfl ?_
  intro w' hm' hc' hg'
  refine ⟨?_, hc'⟩; rw [mayS_head (by rw [head_eq hgn hln hpn]; simp [h1, h2])]; rfl
 refine wpM.seq (wpM.region ?_)
 refine LM.val (ov_field Tryz.underlying30 rfl Tryz.sizeOf26 rfl (k := 2) rfl rfl) ?_
 refine LM.rd (om_ld Tryz.isAgg26 rfl rfl) ?_
 refine LM.val (ov_len Tryz.underlying26 rfl) ?_
 refine LM.callE (oc_call (enters_fn Tryz.func48 (by kernel_rfl) rfl) rfl) (fun w hm hc hg => swithin_spec _ _ w) ?_
 first | refine LM.val (ov_notD rfl) ?_ | refine LM.val (ov_not rfl) ?_
 refine LM.mv rfl ?_
 first | refine LM.splitD (t := 22) rfl (fun h3 => ?_) (fun h3 => ?_) | refine LM.splitB (t := 22) rfl (fun h3 => ?_) (fun h3 => ?_)
 ·
  refine LM.dr 22 rfl rfl rfl ?_
  refine LM.dr 22 rfl rfl rfl ?_
  refine LM.dr 22 rfl rfl rfl ?_
  refine LM.val (ov_pickT rfl rfl) ?_
  refine LM.as rfl ?_
  refine LM.nil (QM.sub (e' := [(1, _), (16, _)]) ⟨rfl, rfl, trivial⟩ (QM.then ?_))
  refine wpM.condT rfl ?_
  refine wpM.seq (wpM.region ?_)
  refine LM.as rfl ?_
  refine LM.nil (QM.sub (e' := [(2, _)]) ⟨rfl, trivial⟩ (QM.then ?_))
  refine wpM.ret ?_
  refine QM.block_ret ?_
  refine QM.then_ret ?_
  refine QM.leave (.inl rfl) [.tmp 2] Tryz.results14 rfl ?_
  intro w' hm' hc' hg'
  refine ⟨?_, hc'⟩; rw [mayS_head (by rw [head_eq hgn hln hpn]; simp [h1, h2, h3])]; rfl
 refine LM.sp 22 rfl rfl rfl ?_
 refine LM.val (ov_field Tryz.underlying30 rfl Tryz.sizeOf26 rfl (k := 2) rfl rfl) ?_
 refine LM.sp 22 rfl rfl rfl ?_
 refine LM.rd (om_ld Tryz.isAgg26 rfl rfl) ?_
 refine LM.sp 22 rfl rfl rfl ?_
 refine LM.callE (oc_call (enters_fn Tryz.func49 (by kernel_rfl) rfl) rfl) (fun w hm hc hg => cof_g w hgn (hI.hg.ext hc) (by have h9 : winB (s.gn : Int) 4 = true := (by simpa using h3); have := (winL _ _).1 h9; omega)) ?_
 refine LM.val (ov_pickF rfl rfl) ?_
 refine LM.as rfl ?_
 refine LM.nil (QM.sub (e' := [(1, _), (16, _)]) ⟨rfl, rfl, trivial⟩ (QM.then ?_))
 first | refine wpM.condD rfl (fun h4 => ?_) (fun h4 => ?_) | refine wpM.condB rfl (fun h4 => ?_) (fun h4 => ?_)
 ·
  refine wpM.seq (wpM.region ?_)
  refine LM.as rfl ?_
  refine LM.nil (QM.sub (e' := [(2, _)]) ⟨rfl, trivial⟩ (QM.then ?_))
  refine wpM.ret ?_
  refine QM.block_ret ?_
  refine QM.then_ret ?_
  refine QM.leave (.inl rfl) [.tmp 2] Tryz.results14 rfl ?_
  intro w' hm' hc' hg'
  refine ⟨?_, hc'⟩; rw [mayS_gs (s := s.C) (by show s.gs.all _ = false; rw [all_any, h4]; rfl)]; rfl
 refine wpM.seq (wpM.region ?_)
 refine LM.val (ov_field Tryz.underlying30 rfl Tryz.sizeOf27 rfl (k := 3) rfl rfl) ?_
 refine LM.rd (om_ld Tryz.isAgg27 rfl rfl) ?_
 refine LM.val (ov_len Tryz.underlying27 rfl) ?_
 refine LM.val (ov_gtr rfl rfl) ?_
 refine LM.mv rfl ?_
 refine LM.splitD (t := 32) rfl (fun h5 => ?_) (fun h5 => ?_)
 ·
  refine LM.dr 32 rfl rfl rfl ?_
  refine LM.dr 32 rfl rfl rfl ?_
  refine LM.dr 32 rfl rfl rfl ?_
  refine LM.val (ov_pickT rfl rfl) ?_
  refine LM.as rfl ?_
  refine LM.nil (QM.sub (e' := [(1, _), (27, _)]) ⟨rfl, rfl, trivial⟩ (QM.then ?_))
  refine wpM.condT rfl ?_
  refine wpM.seq (wpM.region ?_)
  refine LM.as rfl ?_
  refine LM.nil (QM.sub (e' := [(2, _)]) ⟨rfl, trivial⟩ (QM.then ?_))
  refine wpM.ret ?_
  refine QM.block_ret ?_
  refine QM.then_ret ?_
  refine QM.leave (.inl rfl) [.tmp 2] Tryz.results14 rfl ?_
  intro w' hm' hc' hg'
  refine ⟨?_, hc'⟩; rw [mayS_head (by rw [head_eq hgn hln hpn]; simp [h1, h2, h3, h4, h5])]; rfl
 refine LM.sp 32 rfl rfl rfl ?_
 refine LM.val (ov_field Tryz.underlying30 rfl Tryz.sizeOf27 rfl (k := 3) rfl rfl) ?_
 refine LM.sp 32 rfl rfl rfl ?_
 refine LM.rd (om_ld Tryz.isAgg27 rfl rfl) ?_
 refine LM.sp 32 rfl rfl rfl ?_
 refine LM.callE (oc_call (enters_fn Tryz.func51 (by kernel_rfl) rfl) rfl) (fun w hm hc hg => cof_l w hln (hl.ext hc) (by omega)) ?_
 refine LM.val (ov_pickF rfl rfl) ?_
 refine LM.as rfl ?_
 refine LM.nil (QM.sub (e' := [(1, _), (27, _)]) ⟨rfl, rfl, trivial⟩ (QM.then ?_))
 first | refine wpM.condD rfl (fun h6 => ?_) (fun h6 => ?_) | refine wpM.condB rfl (fun h6 => ?_) (fun h6 => ?_)
 ·
  refine wpM.seq (wpM.region ?_)
  refine LM.as rfl ?_
  refine LM.nil (QM.sub (e' := [(2, _)]) ⟨rfl, trivial⟩ (QM.then ?_))
  refine wpM.ret ?_
  refine QM.block_ret ?_
  refine QM.then_ret ?_
  refine QM.leave (.inl rfl) [.tmp 2] Tryz.results14 rfl ?_
  intro w' hm' hc' hg'
  refine ⟨?_, hc'⟩; rw [mayS_ls (s := s.C) (by show s.ls.all _ = false; rw [all_any, h6]; rfl)]; rfl
 refine wpM.seq (wpM.region ?_)
 refine LM.val (ov_field Tryz.underlying30 rfl Tryz.sizeOf28 rfl (k := 4) rfl rfl) ?_
 refine LM.rd (om_ld Tryz.isAgg28 rfl rfl) ?_
 refine LM.val (ov_len Tryz.underlying28 rfl) ?_
 refine LM.callE (oc_call (enters_fn Tryz.func48 (by kernel_rfl) rfl) rfl) (fun w hm hc hg => swithin_spec _ _ w) ?_
 first | refine LM.val (ov_notD rfl) ?_ | refine LM.val (ov_not rfl) ?_
 refine LM.as rfl ?_
 refine LM.nil (QM.sub (e' := [(1, _), (37, _)]) ⟨rfl, rfl, trivial⟩ (QM.then ?_))
 first | refine wpM.condD rfl (fun h7 => ?_) (fun h7 => ?_) | refine wpM.condB rfl (fun h7 => ?_) (fun h7 => ?_)
 ·
  refine wpM.seq (wpM.region ?_)
  refine LM.as rfl ?_
  refine LM.nil (QM.sub (e' := [(2, _)]) ⟨rfl, trivial⟩ (QM.then ?_))
  refine wpM.ret ?_
  refine QM.block_ret ?_
  refine QM.then_ret ?_
  refine QM.leave (.inl rfl) [.tmp 2] Tryz.results14 rfl ?_
  intro w' hm' hc' hg'
  refine ⟨?_, hc'⟩; rw [mayS_head (by rw [head_eq hgn hln hpn]; simp [h1, h2, h3, h4, h5, h6, h7])]; rfl
 refine wpM.skip ?_
 refine QM.block_normal ?_
 refine QM.then (wpM.seq (wpM.region ?_))
 refine LM.rd (om_ldW Tryz.isAgg30 Tryz.sizeOf30 rfl rfl) ?_
 refine LM.callE (oc_call (enters_fn Tryz.func39 (by kernel_rfl) rfl) rfl) (fun w hm hc hg => misfit_spec w (hI.ext hc) (by have h9 : winB (s.pn : Int) 8 = true := (by simpa using h7); have := (winL _ _).1 h9; omega)) ?_
 refine LM.mv rfl ?_
 refine LM.val (ov_extract rfl rfl) ?_
 refine LM.val (ov_extract rfl rfl) ?_
 refine LM.as rfl ?_
 refine LM.as rfl ?_
 refine LM.nil (QM.sub (e' := [(3, _)]) ⟨rfl, trivial⟩ (QM.then (wpM.seq (wpM.region ?_))))
 refine LM.mv rfl ?_
 refine LM.val (ov_lss rfl rfl) ?_
 refine LM.as rfl ?_
 refine LM.nil (QM.sub (e' := [(2, _)]) ⟨rfl, trivial⟩ (QM.then ?_))
 refine wpM.ret ?_
 refine QM.leave (.inl rfl) [.tmp 2] Tryz.results14 rfl ?_
 intro w' hm' hc' hg'
 have hhd : headB s.C = true := (by rw [head_eq hgn hln hpn]; simp [h1, h2, h3, h4, h5, h6, h7]); have hgs : s.gs.all (fun n => winB n 16) = true := (by rw [all_any, h4]; rfl); have hls : s.ls.all lokB = true := (by rw [all_any, h6]; rfl); have hmi : decide (misI s.ls (s.ps.map PgV.c) < 0) = !(s.ps.map PgV.c).any (misB s.ls (s.ps.map PgV.c).length) := (by unfold misI; rw [← fix_pos, ← decide_not]; exact decide_eq_decide.2 (by omega)); refine ⟨?_, hc'⟩; rw [mayS_split, hhd]; show Value.bool (decide (misI s.ls (s.ps.map PgV.c) < 0)) = Value.bool (true && (s.gs.all (fun n => winB n 16) && (s.ls.all lokB && !(s.ps.map PgV.c).any (misB s.ls (s.ps.map PgV.c).length)))); rw [hmi, hgs, hls]; rfl
end Go.Eng
namespace Go.Eng
open Go Go.RowKit
structure Act where
  k : Int
  a : Int
  b : Int
  c : Int
  d : Int
deriving DecidableEq
instance : Inhabited Act := ⟨⟨0, 0, 0, 0, 0⟩⟩
def fA (o : Act) : List Value := [.int .i64 o.k, .int .i64 o.a, .int .i64 o.b, .int .i64 o.c, .int .i64 o.d]
def acW : List (List UInt8) := [[], [116, 105, 99, 107], [102, 105, 114, 101], [98, 97, 108, 97, 110, 99, 101], [115, 112, 97, 119, 110], [107, 105, 108, 108], [103, 114, 111, 117, 112], [109, 111, 118, 101], [114, 111, 117, 110, 100]]
def acT (k : Int) : List UInt8 := if 0 ≤ k ∧ k < 9 then acW.getD k.toNat [] else []
def manyA (k : Int) : Nat := if k = 1 ∨ k = 5 ∨ k = 8 then 1 else if k = 6 ∨ k = 7 then 2 else if k = 4 then 4 else 0
theorem manyA_le (k : Int) : manyA k ≤ 4 := by unfold manyA; (repeat' split) <;> omega
def kindOk (k : Int) : Bool := decide (1 ≤ k) && decide (k ≤ 8)
theorem acT_empty (k : Int) : decide (acT k ≠ []) = kindOk k := by
  unfold kindOk
  by_cases h : 0 ≤ k ∧ k < 9
  · have : k = 0 ∨ k = 1 ∨ k = 2 ∨ k = 3 ∨ k = 4 ∨ k = 5 ∨ k = 6 ∨ k = 7 ∨ k = 8 := by omega
    rcases this with rfl | rfl | rfl | rfl | rfl | rfl | rfl | rfl | rfl <;> decide +kernel
  · unfold acT; rw [if_neg h]
    by_cases h2 : 1 ≤ k
    · rw [show decide (k ≤ 8) = false from decide_eq_false (by omega)]; simp
    · rw [show decide (1 ≤ k) = false from decide_eq_false h2]; simp
def numsA (o : Act) : List Int := [o.a, o.b, o.c, o.d]
def numB (k : Int) (i : Nat) (n : Int) : Bool := decide (0 ≤ n) && decide (n ≤ 999999999) && (decide (i < manyA k) || decide (n = 0))
def rightA (o : Act) : Bool := kindOk o.k && (numB o.k 0 o.a && numB o.k 1 o.b && numB o.k 2 o.c && numB o.k 3 o.d)
theorem right_all {o : Act} (hk : kindOk o.k = true) (h : ∀ j, j < 4 → numB o.k j ((numsA o).getD j 0) = true) : rightA o = true := by
  unfold rightA
  have h0 := h 0 (by decide); have h1 := h 1 (by decide); have h2 := h 2 (by decide); have h3 := h 3 (by decide)
  simp only [numsA, List.getD_cons_zero, List.getD_cons_succ] at h0 h1 h2 h3
  rw [hk, h0, h1, h2, h3]; rfl
theorem right_not {o : Act} {j : Nat} (hj : j < 4) (h : numB o.k j ((numsA o).getD j 0) = false) : rightA o = false := by
  unfold rightA
  have : j = 0 ∨ j = 1 ∨ j = 2 ∨ j = 3 := by omega
  rcases this with rfl | rfl | rfl | rfl <;> (simp only [numsA, List.getD_cons_zero, List.getD_cons_succ] at h; rw [h]; simp)
def mayA (l : List Act) : Bool := decide (l.length ≤ 4000) && l.all rightA
def kindAT (t : List UInt8) : Int := mx0 (fixI (fun y => decide (t = y)) acW)
def kindA (ws : List Wrd) (i : Nat) : Int := if (decide (i < ws.length) && decide ((ws.getD i default).k = 1)) then kindAT (ws.getD i default).t else 0
def numG (ws : List Wrd) : Nat → Nat → Nat → List Int → Nat × Int × List Int
  | 0, j, _, xs => (j, 0, xs)
  | f + 1, j, i, xs => if (decide (ws.length ≤ j) || decide ((ws.getD j default).k ≠ 2)) then (j, 5, xs) else numG ws f (j + 1) (i + 1) (xs.set i (ws.getD j default).n)
def toA (k : Int) (xs : List Int) : Act := ⟨k, xs.getD 0 0, xs.getD 1 0, xs.getD 2 0, xs.getD 3 0⟩
def zer4 : List Int := [0, 0, 0, 0]
def numK (ws : List Wrd) (i : Nat) : Nat × Int × List Int := numG ws (manyA (kindA ws i)) (i + 1) 0 zer4
theorem numG_le (ws : List Wrd) : ∀ (f j i : Nat) (xs : List Int), j ≤ ws.length → j ≤ (numG ws f j i xs).1 ∧ (numG ws f j i xs).1 ≤ ws.length
  | 0, j, i, xs, h => ⟨Nat.le_refl _, h⟩
  | f + 1, j, i, xs, h => by
    unfold numG; split
    · exact ⟨Nat.le_refl _, h⟩
    · rename_i q
      simp only [Bool.or_eq_true, decide_eq_true_eq, not_or] at q
      have := numG_le ws f (j + 1) (i + 1) (xs.set i (ws.getD j default).n) (by omega)
      omega
def oneA (ws : List Wrd) (i : Nat) : Act × Nat × Int :=
  if kindA ws i = 0 then (default, i, 5)
  else if (numK ws i).2.1 ≠ 0 then (default, (numK ws i).1, (numK ws i).2.1)
  else if isR ws (numK ws i).1 3 [59] then (toA (kindA ws i) (numK ws i).2.2, (numK ws i).1 + 1, 0)
  else (default, (numK ws i).1, 5)
theorem kindA_lt {ws : List Wrd} {i : Nat} (h : kindA ws i ≠ 0) : i < ws.length := by
  unfold kindA at h; split at h
  · rename_i q; simp only [Bool.and_eq_true, decide_eq_true_eq] at q; exact q.1
  · exact absurd rfl h
theorem oneA_lt {ws : List Wrd} {i : Nat} (h : (oneA ws i).2.2 = 0) : i < (oneA ws i).2.1 ∧ (oneA ws i).2.1 ≤ ws.length := by
  unfold oneA at h ⊢
  split at h
  · cases h
  rename_i h1
  rw [if_neg h1]
  split at h
  · rename_i h2; exact absurd h h2
  rename_i h2
  rw [if_neg h2]
  split at h
  · rename_i h3
    rw [if_pos h3]
    have h4 := numG_le ws (manyA (kindA ws i)) (i + 1) 0 zer4 (kindA_lt h1)
    have h5 := isR_lt h3
    unfold numK at h5 ⊢
    simp only; omega
  · cases h
def loopAF : Nat → List Wrd → Nat → List Act → List Act × Int × Int
  | 0, _, i, out => (out, (i : Nat), 0)
  | f + 1, ws, i, out =>
    if ws.length ≤ i then (out, (i : Nat), 0)
    else if kindA ws i = 0 then ([], (i : Nat), 5)
    else if out.length = 4000 then ([], (i : Nat), 6)
    else if (oneA ws i).2.2 ≠ 0 then ([], ((oneA ws i).2.1 : Nat), (oneA ws i).2.2)
    else loopAF f ws (oneA ws i).2.1 (out ++ [(oneA ws i).1])
theorem loopAF_fuel (ws : List Wrd) : ∀ (f g i : Nat) (out : List Act), ws.length - i ≤ f → ws.length - i ≤ g → loopAF f ws i out = loopAF g ws i out
  | 0, 0, i, out, _, _ => rfl
  | 0, g + 1, i, out, h1, h2 => by rw [loopAF, loopAF, if_pos (by omega)]
  | f + 1, 0, i, out, h1, h2 => by rw [loopAF, loopAF, if_pos (by omega)]
  | f + 1, g + 1, i, out, h1, h2 => by
    simp only [loopAF]
    split
    · rfl
    split
    · rfl
    split
    · rfl
    split
    · rfl
    · rename_i h4
      have := oneA_lt (Classical.not_not.1 h4)
      exact loopAF_fuel ws f g _ _ (by omega) (by omega)
def loopA (ws : List Wrd) (i : Nat) (out : List Act) : List Act × Int × Int := loopAF (ws.length - i) ws i out
theorem loopA_end {ws : List Wrd} {i : Nat} {out : List Act} (h : ws.length ≤ i) : loopA ws i out = (out, (i : Int), 0) := by
  unfold loopA; rw [show ws.length - i = 0 by omega]; rfl
theorem loopA_step {ws : List Wrd} {i : Nat} {out : List Act} (h : i < ws.length) : loopA ws i out =
    if kindA ws i = 0 then ([], (i : Int), 5)
    else if out.length = 4000 then ([], (i : Int), 6)
    else if (oneA ws i).2.2 ≠ 0 then ([], ((oneA ws i).2.1 : Int), (oneA ws i).2.2)
    else loopA ws (oneA ws i).2.1 (out ++ [(oneA ws i).1]) := by
  unfold loopA
  obtain ⟨f, hf⟩ : ∃ f, ws.length - i = f + 1 := ⟨ws.length - i - 1, by omega⟩
  rw [hf, loopAF, if_neg (by omega)]
  split
  · rfl
  split
  · rfl
  split
  · rfl
  · rename_i h4
    have := oneA_lt (Classical.not_not.1 h4)
    exact loopAF_fuel ws _ _ _ _ (by omega) (by omega)
def actsO (ws : List Wrd) (p : Int) : List Act × Int × Int := if p < 0 ∨ (ws.length : Int) < p then ([], 0, 5) else loopA ws p.toNat []
theorem acts_nat {ws : List Wrd} {i : Nat} (hi : i ≤ ws.length) : actsO ws (i : Int) = loopA ws i [] := by
  unfold actsO; rw [if_neg (by omega), Int.toNat_natCast]
/-! what is parsed may be -/
end Go.Eng
namespace Go.Eng
open Go Go.Proofs Go.RowKit
theorem scanF_len (s : List UInt8) : ∀ (f i : Nat) (last : Int) (out : List Wrd), (scanF f s i last out).1.length ≤ out.length + f
  | 0, i, last, out => Nat.le_refl _
  | f + 1, i, last, out => by
    rw [scanF]
    split
    · show out.length ≤ _; omega
    split
    · have := scanF_len s f (i + 1) last out; omega
    split
    · have := scanF_len s f (i + runL notNl s i) last out; omega
    split
    · exact Nat.zero_le _
    · have := scanF_len s f (oneO s i).2.1 ((oneO s i).2.1 : Nat) (out ++ [(oneO s i).1]); rw [List.length_append, List.length_singleton] at this; omega
theorem scan_len (s : List UInt8) : (scanO s).1.length ≤ s.length := by
  unfold scanO; split
  · exact Nat.zero_le _
  · have := scanF_len s (s.length - 0) 0 (-1) []; unfold scanR; simp only [List.length_nil] at this; omega
end Go.Eng
