/- The walks of run queues: a task goes, is picked, comes back, pays, weighs otherwise; the floor. No condition. -/
import Derived.Test.YtmkblojlimhkiaaM3
import Derived.Test.YtmkblojlimhkiaaM2
set_option linter.unusedVariables false
set_option linter.unusedSimpArgs false
namespace Go.Eng
open Go Go.Proofs Go.RowKit
theorem rdy_lt {x : Qm} (h : QWf x) (hc : 0 ≤ x.cur) : (rdyO x).length < x.l.length := by
  have h1 : rdyO x = rdyO { x with l := x.l.filter (fun t => decide (t.id ≠ x.cur)) } := by
    unfold rdyO; simp only [List.filter_filter, Bool.and_self]
  rw [h1]
  refine Nat.lt_of_le_of_lt (rdy_len (nodup_filt h.nd)) ?_
  refine Nat.lt_of_le_of_ne (List.length_filter_le ..) (fun q => ?_)
  obtain ⟨h2, h3⟩ := ixO_hit (h.ix hc)
  have := List.length_filter_eq_length_iff.1 q _ h3
  rw [decide_eq_true_eq] at this
  exact this h2
theorem gQ_eta {l : List Kv} {a : Int} (h : ixO l a < l.length) : (⟨(gQ l a).V, a, (gQ l a).x⟩ : Kv) = gQ l a := by
  have := (ixO_hit h).1
  change (gQ l a).id = a at this
  generalize gQ l a = y at this ⊢
  subst this; rfl
theorem tickL_eq {l : List Kv} {a : Int} (h : ixO l a < l.length) : tickL l a = l.set (ixO l a) ⟨addO (gQ l a).V (coreO (gQ l a).x), a, (gQ l a).x⟩ := by
  unfold tickL
  congr 1
  have := (ixO_hit h).1
  show (⟨_, (gQ l a).id, _⟩ : Kv) = _
  rw [show (gQ l a).id = a from this]
theorem load_same {l : List Kv} {i : Nat} (h : i < l.length) {y : Kv} (hy : y.x = (l.getD i default).x) : loadO l = loadO (l.set i y) := by rw [load_set h, hy]; omega
theorem setlQ_nil {x : Qm} (h : x.l = []) : setlQ x = x := by unfold setlQ; rw [h]
theorem setlQ_pos {x : Qm} (h : x.l ≠ []) : setlQ x = { x with fl := if x.fl.toNat < (minO x.l).toNat then minO x.l else x.fl } := by
  have h2 : setlQ x = if x.fl.toNat < (minO x.l).toNat then { x with fl := minO x.l } else x := by
    unfold setlQ; split
    · exact absurd (by assumption) h
    · rfl
  rw [h2]
  by_cases q : x.fl.toNat < (minO x.l).toNat
  · rw [if_pos q, if_pos q]
  · rw [if_neg q, if_neg q]
set_option maxRecDepth 100000 in
theorem pick_spec {n0 b : Nat} {x : Qm} {m : Mem0} (w : World) (h : RqM n0 b x m) (hM : Mem w m) : Ret Try.prog 26 #[.pointer (some ⟨b, 0, none⟩)] w (Upd m (fun u m' => u = .tuple #[.int .i64 (pickO x), .bool (decide (0 ≤ pickO x))] ∧ RqM n0 b (pikQ x) m') w) := by
 obtain ⟨hq, bm, bt, es, cl, mt, rfl, he, ht, hb, hbm⟩ := h; have h0 : RqM n0 b x (rqC b x.g x.fl bm bt x.cur x.ran (loadO x.l) :: (bm, .map es cl) :: mt) := ⟨hq, bm, bt, es, cl, mt, rfl, he, ht, hb, hbm⟩; have hll := hq.load; have hlen := hq.len
 refine Ret.enterM (l := [.pointer (some ⟨b, 0, none⟩)]) Try.func26 rfl Try.ntmps26 rfl (rqC b x.g x.fl bm bt x.cur x.ran (loadO x.l) :: (bm, .map es cl) :: (mt ++ [])) ((inM (rqC b x.g x.fl bm bt x.cur x.ran (loadO x.l) :: (bm, .map es cl) :: mt))) (by rw [List.append_nil]; exact hM) ?_
 refine wpM.seq (wpM.region ?_)
 refine LM.as rfl (LM.as rfl ?_)
 refine LM.nil (QM.sub (e' := [(0, _)]) ⟨rfl, trivial⟩ (QM.then ?_))
 refine wpM.seq ?_
 refine wpM.seq (wpM.region ?_)
 refine LM.mv rfl ?_
 refine LM.val (ov_peql (by kernel_rfl) rfl rfl) ?_
 refine LM.mv rfl (LM.sp 9 rfl rfl rfl (LM.mv rfl (LM.sp 9 rfl rfl rfl ?_)))
 refine LM.val (ov_nilCheck rfl) ?_
 refine LM.sp 9 rfl rfl rfl (LM.val (ov_field Try.underlying93 rfl Try.sizeOf3 rfl (k := 4) rfl rfl) (LM.sp 9 rfl rfl rfl ?_))
 refine LM.rd (om_ld Try.isAgg3 rfl rfl) ?_
 refine LM.sp 9 rfl rfl rfl ?_
 refine LM.val (ov_neq rfl rfl) ?_
 refine LM.val (ov_pickF rfl rfl) ?_
 refine LM.nil (QM.sub (e' := [(0, _), (15, _)]) au9 (QM.then ?_))
 refine wpM.condD rfl (fun h1 => ?_) (fun h1 => ?_)
 ·
  refine wpM.seq (wpM.region ?_)
  refine LM.as rfl (LM.as rfl ?_)
  refine LM.nil (QM.sub (e' := [(2, _), (3, _)]) au9 (QM.then ?_))
  refine wpM.ret ?_
  refine QM.then_ret ?_
  refine QM.leave (.inl rfl) [.tmp 2, .tmp 3] Try.results26 rfl ?_
  intro w' hm' hc' hg'
  obtain ⟨hp1, hp2⟩ := pik_none (x := x) (.inl (cur_pos hq h1)); rw [hp1, hp2]; exact rqm_leaf (x' := x) hq he ht hb hbm hm' au1 hc' (inn_refl _ _)
 replace h1 := Classical.not_not.1 h1
 refine wpM.skip ?_
 refine QM.then (wpM.seq (wpM.region ?_))
 refine LM.mv rfl ?_
 refine LM.val (ov_nilCheck rfl) ?_
 refine LM.val (ov_field Try.underlying93 rfl Try.sizeOf90 rfl (k := 3) rfl rfl) ?_
 refine LM.rd (om_ld Try.isAgg90 rfl rfl) ?_
 refine LM.callE (oc_call (enters_fn Try.func73 (by kernel_rfl) rfl) rfl) (fun w hm hc hg => first_spec w ht (hm.pick mt)) ?_
 refine LM.mv rfl ?_
 refine LM.val (ov_extract rfl rfl) ?_
 refine LM.val (ov_extract rfl rfl) ?_
 refine LM.val (ov_extract rfl rfl) ?_
 refine LM.alloc Try.zeroValue100 rfl (fun b4 hb4 => ?_)
 refine LM.stW Try.sizeOf100 rfl rfl rfl rfl au7 (fun hlt => by first | exact inM_0 | exact inM_1 | exact absurd hlt (by omega)) ?_
 refine LM.as rfl (LM.as rfl ?_)
 refine LM.nil (QM.sub (e' := [(0, _), (4, _), (6, _)]) au9 (QM.then ?_))
 refine wpM.seq ?_
 refine wpM.seq (wpM.region ?_)
 refine LM.mv rfl ?_
 refine LM.val (ov_notD rfl) ?_
 refine LM.nil (QM.sub (e' := [(0, _), (4, _), (26, _)]) au9 (QM.then ?_))
 refine wpM.condD rfl (fun h2 => ?_) (fun h2 => ?_)
 ·
  refine wpM.seq (wpM.region ?_)
  refine LM.as rfl (LM.as rfl ?_)
  refine LM.nil (QM.sub (e' := [(2, _), (3, _)]) au9 (QM.then ?_))
  refine wpM.ret ?_
  refine QM.then_ret ?_
  refine QM.leave (.inl rfl) [.tmp 2, .tmp 3] Try.results26 rfl ?_
  intro w' hm' hc' hg'
  obtain ⟨hp1, hp2⟩ := pik_none (x := x) (.inr (Classical.not_not.1 h2)); rw [hp1, hp2]; exact rqm_leaf (x' := x) hq he ht hb hbm hm' au1 hc' (inn_refl _ _)
 replace h2 := Classical.not_not.1 h2; obtain ⟨t, l, e⟩ := ne_cons h2; have het : (rdyO x).headD default = t := (by rw [e]; rfl); obtain ⟨hp1, hp2⟩ := pickO_hit hq h1 e; have htm := rdy_hd_mem hq e; have hwf := pick_wf hq htm.1; have hpos := hq.pos t htm.1
 refine wpM.skip ?_
 refine QM.then ?_
 refine wpM.seq ?_
 refine wpM.draw [(0, 0), (1, 0), (2, 0), (3, 1), (4, 1), (5, 3)] (by kernel_rfl) (by kernel_rfl) ?_
 rw [het]
 refine LD.val rfl rfl (ov_move rfl) ?_
 refine LD.val rfl rfl (ov_nilCheck rfl) ?_
 refine LD.val rfl rfl (ov_field Try.underlying93 rfl Try.sizeOf90 rfl (k := 3) rfl rfl) ?_
 refine LD.rd rfl rfl (om_ld Try.isAgg90 rfl rfl) ?_
 refine LD.rd rfl rfl (om_ldW Try.isAgg100 Try.sizeOf100 rfl rfl) ?_
 refine LD.tail rfl rfl ?_
 refine LM.cU (oc_call (enters_fn Try.func67 (by kernel_rfl) rfl) rfl) (fun w hm hc hg => del_spec t t w (by rw [e]; exact List.mem_cons_self ..) ⟨rfl, rfl⟩ (by decide) ht (hm.pick mt)) ht.wlk (fun p hp _ => inM_2 p hp) ?_
 rintro u32 mt1 ⟨rfl, ht1⟩ hin1; rw [pick_rdy hq h1 htm.1 ⟨rfl, rfl⟩] at ht1
 refine LM.nil ?_
 refine QM.qn ?_
 refine QM.sub (e' := [(0, _), (4, _)]) au9 (QM.then (wpM.seq (wpM.region ?_)))
 refine LM.mv rfl (LM.mv rfl (LM.val (ov_field Try.underlying100 rfl Try.sizeOf3 rfl (k := 1) rfl rfl) ?_))
 refine LM.rd (om_ld Try.isAgg3 rfl rfl) ?_
 refine LM.val (ov_nilCheck rfl) ?_
 refine LM.val (ov_field Try.underlying93 rfl Try.sizeOf3 rfl (k := 4) rfl rfl) ?_
 refine LM.st Try.sizeOf3 rfl rfl rfl au5 rfl (fun hlt => by first | exact inM_0 | exact inM_1 | exact absurd hlt (by omega)) ?_
 refine LM.val (ov_nilCheck rfl) ?_
 refine LM.val (ov_field Try.underlying93 rfl Try.sizeOf3 rfl (k := 5) rfl rfl) ?_
 refine LM.st Try.sizeOf3 rfl rfl rfl au5 rfl (fun hlt => by first | exact inM_0 | exact inM_1 | exact absurd hlt (by omega)) ?_
 refine LM.mem (SubM.mem (M' := rqC b x.g x.fl bm bt t.id 0 (loadO x.l) :: (bm, .map es cl) :: (b4, .cells #[U t.V, .int .i64 t.id] 100 (0, 0)) :: (mt1 ++ [])) au1) ?_
 refine LM.nil (QM.sub (e' := [(4, _)]) ⟨rfl, trivial⟩ (QM.then (wpM.seq (wpM.region ?_))))
 refine LM.val (ov_field Try.underlying100 rfl Try.sizeOf3 rfl (k := 1) rfl rfl) ?_
 refine LM.rd (om_ld Try.isAgg3 rfl rfl) ?_
 refine LM.as rfl (LM.as rfl ?_)
 refine LM.nil (QM.sub (e' := [(2, _), (3, _)]) au9 (QM.then ?_))
 refine wpM.ret ?_
 refine QM.leave (.inl rfl) [.tmp 2, .tmp 3] Try.results26 rfl ?_
 intro w' hm' hc' hg'
 rw [hp1, hp2, decide_eq_true hpos]; exact rqm_leaf (x' := pickQ x t.id) hwf he ht1 hb hbm hm' au1 hc' hin1
set_option maxRecDepth 100000 in
theorem back_spec {n0 b : Nat} {x : Qm} {m : Mem0} (w : World) (h : RqM n0 b x m) (hn0 : n0 ≤ w.heap.size) (hM : Mem w m) : Ret Try.prog 28 #[.pointer (some ⟨b, 0, none⟩)] w (Upd m (fun u m' => u = .tuple #[.int .i64 x.cur, .bool (decide (x.cur ≠ -1))] ∧ RqM n0 b (bakQ x) m') w) := by
 obtain ⟨hq, bm, bt, es, cl, mt, rfl, he, ht, hb, hbm⟩ := h; have h0 : RqM n0 b x (rqC b x.g x.fl bm bt x.cur x.ran (loadO x.l) :: (bm, .map es cl) :: mt) := ⟨hq, bm, bt, es, cl, mt, rfl, he, ht, hb, hbm⟩; have hll := hq.load; have hlen := hq.len
 refine Ret.enterM (l := [.pointer (some ⟨b, 0, none⟩)]) Try.func28 rfl Try.ntmps28 rfl (rqC b x.g x.fl bm bt x.cur x.ran (loadO x.l) :: (bm, .map es cl) :: (mt ++ [])) ((inM (rqC b x.g x.fl bm bt x.cur x.ran (loadO x.l) :: (bm, .map es cl) :: mt))) (by rw [List.append_nil]; exact hM) ?_
 refine wpM.seq (wpM.region ?_)
 refine LM.as rfl (LM.as rfl ?_)
 refine LM.nil (QM.sub (e' := [(0, _)]) ⟨rfl, trivial⟩ (QM.then ?_))
 refine wpM.seq ?_
 refine wpM.seq (wpM.region ?_)
 refine LM.mv rfl ?_
 refine LM.val (ov_peql (by kernel_rfl) rfl rfl) ?_
 refine LM.mv rfl (LM.sp 7 rfl rfl rfl (LM.mv rfl (LM.sp 7 rfl rfl rfl ?_)))
 refine LM.val (ov_nilCheck rfl) ?_
 refine LM.sp 7 rfl rfl rfl (LM.val (ov_field Try.underlying93 rfl Try.sizeOf3 rfl (k := 4) rfl rfl) (LM.sp 7 rfl rfl rfl ?_))
 refine LM.rd (om_ld Try.isAgg3 rfl rfl) ?_
 refine LM.sp 7 rfl rfl rfl ?_
 refine LM.val (ov_eql rfl rfl) ?_
 refine LM.val (ov_pickF rfl rfl) ?_
 refine LM.nil (QM.sub (e' := [(0, _), (13, _)]) au9 (QM.then ?_))
 refine wpM.condD rfl (fun h1 => ?_) (fun h1 => ?_)
 ·
  refine wpM.seq (wpM.region ?_)
  refine LM.as rfl (LM.as rfl ?_)
  refine LM.nil (QM.sub (e' := [(2, _), (3, _)]) au9 (QM.then ?_))
  refine wpM.ret ?_
  refine QM.then_ret ?_
  refine QM.leave (.inl rfl) [.tmp 2, .tmp 3] Try.results28 rfl ?_
  intro w' hm' hc' hg'
  rw [show bakQ x = x from if_neg (by omega), decide_eq_false (by omega)]; exact h1 ▸ rqm_leaf (x' := x) hq he ht hb hbm hm' au1 hc' (inn_refl _ _)
 have hc0 := cur_pos hq h1; have hix := hq.ix hc0; have hwf := back_wf hq
 refine wpM.skip ?_
 refine QM.then (wpM.seq (wpM.region ?_))
 refine LM.mv rfl ?_
 refine LM.val (ov_nilCheck rfl) ?_
 refine LM.val (ov_field Try.underlying93 rfl Try.sizeOf3 rfl (k := 4) rfl rfl) ?_
 refine LM.rd (om_ld Try.isAgg3 rfl rfl) ?_
 refine LM.as rfl ?_
 refine LM.nil (QM.sub (e' := [(0, _), (4, _)]) au9 (QM.then (wpM.seq (wpM.region ?_))))
 refine LM.mv rfl (LM.mv rfl ?_)
 refine LM.val (ov_nilCheck rfl) ?_
 refine LM.val (ov_field Try.underlying93 rfl Try.sizeOf3 rfl (k := 4) rfl rfl) ?_
 refine LM.st Try.sizeOf3 rfl rfl rfl au5 rfl (fun hlt => by first | exact inM_0 | exact inM_1 | exact absurd hlt (by omega)) ?_
 refine LM.val (ov_nilCheck rfl) ?_
 refine LM.val (ov_field Try.underlying93 rfl Try.sizeOf3 rfl (k := 5) rfl rfl) ?_
 refine LM.st Try.sizeOf3 rfl rfl rfl au5 rfl (fun hlt => by first | exact inM_0 | exact inM_1 | exact absurd hlt (by omega)) ?_
 refine LM.mem (SubM.mem (M' := rqC b x.g x.fl bm bt (-1) 0 (loadO x.l) :: (bm, .map es cl) :: (mt ++ [])) au1) ?_
 refine LM.nil (QM.sub (e' := [(0, _), (4, _)]) au9 (QM.then ?_))
 refine wpM.seq ?_
 refine wpM.draw [(0, 0), (1, 0), (2, 0), (3, 1), (4, 0), (5, 0), (7, 0), (8, 0), (9, 0), (10, 1), (11, 0), (12, 1), (13, 0), (6, 2), (14, 3)] (by kernel_rfl) (by kernel_rfl) ?_
 refine LD.val rfl rfl (ov_move rfl) ?_
 refine LD.val rfl rfl (ov_nilCheck rfl) ?_
 refine LD.val rfl rfl (ov_field Try.underlying93 rfl Try.sizeOf90 rfl (k := 3) rfl rfl) ?_
 refine LD.rd rfl rfl (om_ld Try.isAgg90 rfl rfl) ?_
 refine LD.val rfl rfl (ov_move rfl) ?_
 refine LD.val rfl rfl (ov_move rfl) ?_
 refine LD.val rfl rfl (ov_move rfl) ?_
 refine LD.val rfl rfl (ov_nilCheck rfl) ?_
 refine LD.val rfl rfl (ov_field Try.underlying93 rfl Try.sizeOf89 rfl (k := 2) rfl rfl) ?_
 refine LD.rd rfl rfl (om_ld Try.isAgg89 rfl rfl) ?_
 refine LD.val rfl rfl (ov_move rfl) ?_
 refine LD.rd rfl rfl (om_lk Try.underlying89 Try.underlying3 Try.zeroValue95 rfl rfl (by assumption) (ent_get _ _)) ?_
 refine LD.val rfl rfl (ov_fieldV Try.underlying95 rfl Try.isAgg3 rfl rfl) ?_
 refine LD.callE rfl rfl (oc_call (enters_fn Try.func65 (by kernel_rfl) rfl) rfl) (fun w hm hc hg => key_spec x.cur w he (hm.pick (rqC b x.g x.fl bm bt (-1) 0 (loadO x.l) :: (bm, .map es cl) :: []))) ?_
 refine LD.tail rfl rfl ?_
 refine LM.cU (oc_call (enters_fn Try.func64 (by kernel_rfl) rfl) rfl) (fun w hm hc hg => ins_spec (⟨(gQ x.l x.cur).V, x.cur, (gQ x.l x.cur).x⟩ : Kv) w (fun y hy e => (rdy_id hq hy).2 e.2) (Nat.lt_of_lt_of_le (rdy_lt hq hc0) hlen) (by decide) ht (Nat.le_trans hn0 hc.size) (hm.pick mt)) ht.wlk (fun p hp _ => inM_2 p hp) ?_
 rintro u38 mt1 ⟨rfl, ht1⟩ hin1; rw [gQ_eta hix, back_rdy hq hc0] at ht1
 refine LM.nil ?_
 refine QM.qn ?_
 refine QM.sub (e' := [(4, _)]) ⟨rfl, trivial⟩ (QM.then (wpM.seq (wpM.region ?_)))
 refine LM.mv rfl (LM.as rfl (LM.as rfl ?_))
 refine LM.nil (QM.sub (e' := [(2, _), (3, _)]) au9 (QM.then ?_))
 refine wpM.ret ?_
 refine QM.leave (.inl rfl) [.tmp 2, .tmp 3] Try.results28 rfl ?_
 intro w' hm' hc' hg'
 rw [show bakQ x = backQ x from if_pos hc0, decide_eq_true h1]; exact rqm_leaf (x' := backQ x) hwf he ht1 hb hbm hm' au1 hc' hin1
set_option maxRecDepth 100000 in
theorem tick_spec {n0 b : Nat} {x : Qm} {m : Mem0} (w : World) (h : RqM n0 b x m) (hr : x.ran ≤ 1000000000000) (hM : Mem w m) : Ret Try.prog 30 #[.pointer (some ⟨b, 0, none⟩)] w (Upd m (fun u m' => u = .tuple #[.int .i64 x.cur, .bool (decide (x.cur ≠ -1))] ∧ RqM n0 b (tickQ x) m') w) := by
 obtain ⟨hq, bm, bt, es, cl, mt, rfl, he, ht, hb, hbm⟩ := h; have h0 : RqM n0 b x (rqC b x.g x.fl bm bt x.cur x.ran (loadO x.l) :: (bm, .map es cl) :: mt) := ⟨hq, bm, bt, es, cl, mt, rfl, he, ht, hb, hbm⟩; have hll := hq.load; have hlen := hq.len; have hrn := hq.ran
 refine Ret.enterM (l := [.pointer (some ⟨b, 0, none⟩)]) Try.func30 rfl Try.ntmps30 rfl (rqC b x.g x.fl bm bt x.cur x.ran (loadO x.l) :: (bm, .map es cl) :: (mt ++ [])) ((inM (rqC b x.g x.fl bm bt x.cur x.ran (loadO x.l) :: (bm, .map es cl) :: mt))) (by rw [List.append_nil]; exact hM) ?_
 refine wpM.seq (wpM.region ?_)
 refine LM.as rfl (LM.as rfl ?_)
 refine LM.nil (QM.sub (e' := [(0, _)]) ⟨rfl, trivial⟩ (QM.then ?_))
 refine wpM.seq ?_
 refine wpM.seq (wpM.region ?_)
 refine LM.mv rfl ?_
 refine LM.val (ov_peql (by kernel_rfl) rfl rfl) ?_
 refine LM.mv rfl (LM.sp 7 rfl rfl rfl (LM.mv rfl (LM.sp 7 rfl rfl rfl ?_)))
 refine LM.val (ov_nilCheck rfl) ?_
 refine LM.sp 7 rfl rfl rfl (LM.val (ov_field Try.underlying93 rfl Try.sizeOf3 rfl (k := 4) rfl rfl) (LM.sp 7 rfl rfl rfl ?_))
 refine LM.rd (om_ld Try.isAgg3 rfl rfl) ?_
 refine LM.sp 7 rfl rfl rfl ?_
 refine LM.val (ov_eql rfl rfl) ?_
 refine LM.val (ov_pickF rfl rfl) ?_
 refine LM.nil (QM.sub (e' := [(0, _), (13, _)]) au9 (QM.then ?_))
 refine wpM.condD rfl (fun h1 => ?_) (fun h1 => ?_)
 ·
  refine wpM.seq (wpM.region ?_)
  refine LM.as rfl (LM.as rfl ?_)
  refine LM.nil (QM.sub (e' := [(2, _), (3, _)]) au9 (QM.then ?_))
  refine wpM.ret ?_
  refine QM.then_ret ?_
  refine QM.leave (.inl rfl) [.tmp 2, .tmp 3] Try.results30 rfl ?_
  intro w' hm' hc' hg'
  rw [show tickQ x = x from if_neg (by omega), decide_eq_false (by omega)]; exact h1 ▸ rqm_leaf (x' := x) hq he ht hb hbm hm' au1 hc' (inn_refl _ _)
 have hc0 := cur_pos hq h1; have hix := hq.ix hc0; have hwf := tick_wf hq; have hrd := tick_rdy hq; have htq : tickQ x = { x with l := tickL x.l x.cur, ran := x.ran + 1 } := if_pos hc0
 refine wpM.skip ?_
 refine QM.then ?_
 refine wpM.seq ?_
 refine wpM.draw [(0, 0), (1, 0), (2, 0), (3, 1), (4, 0), (5, 0), (6, 0), (7, 1), (8, 1), (9, 2), (10, 3)] (by kernel_rfl) (by kernel_rfl) ?_
 refine LD.val rfl rfl (ov_move rfl) ?_
 refine LD.val rfl rfl (ov_nilCheck rfl) ?_
 refine LD.val rfl rfl (ov_field Try.underlying93 rfl Try.sizeOf89 rfl (k := 2) rfl rfl) ?_
 refine LD.rd rfl rfl (om_ld Try.isAgg89 rfl rfl) ?_
 refine LD.val rfl rfl (ov_move rfl) ?_
 refine LD.val rfl rfl (ov_nilCheck rfl) ?_
 refine LD.val rfl rfl (ov_field Try.underlying93 rfl Try.sizeOf3 rfl (k := 4) rfl rfl) ?_
 refine LD.rd rfl rfl (om_ld Try.isAgg3 rfl rfl) ?_
 refine LD.rd rfl rfl (om_lk Try.underlying89 Try.underlying3 Try.zeroValue95 rfl rfl (by assumption) (ent_get _ _)) ?_
 refine LD.alloc rfl rfl Try.zeroValue95 rfl (fun b4 hb4 => ?_)
 refine LD.tail rfl rfl ?_
 refine LM.stW Try.sizeOf95 rfl rfl rfl rfl au7 (fun hlt => by first | exact inM_0 | exact inM_1 | exact absurd hlt (by omega)) ?_
 refine LM.nil ?_
 refine QM.qn ?_
 refine QM.sub (e' := [(0, _), (4, _)]) au9 (QM.then ?_)
 refine wpM.seq ?_
 refine wpM.draw [(0, 0), (1, 1), (2, 0), (3, 1), (4, 2), (5, 2), (6, 0), (7, 0), (8, 0), (9, 0), (10, 3)] (by kernel_rfl) (by kernel_rfl) ?_
 refine LD.val rfl rfl (ov_field Try.underlying95 rfl Try.sizeOf26 rfl (k := 0) rfl rfl) ?_
 refine LD.rd rfl rfl (om_ld Try.isAgg26 rfl rfl) ?_
 refine LD.val rfl rfl (ov_field Try.underlying95 rfl Try.sizeOf3 rfl (k := 1) rfl rfl) ?_
 refine LD.rd rfl rfl (om_ld Try.isAgg3 rfl rfl) ?_
 refine LD.callE rfl rfl (oc_call (enters_fn Try.func16 (by kernel_rfl) rfl) rfl) (fun w hm hc hg => ucore_spec _ w) ?_
 refine LD.callE rfl rfl (oc_call (enters_fn Try.func75 (by kernel_rfl) rfl) rfl) (fun w hm hc hg => fadd_spec _ _ w) ?_
 refine LD.val rfl rfl (ov_move rfl) ?_
 refine LD.val rfl rfl (ov_extract rfl rfl) ?_
 refine LD.val rfl rfl (ov_extract rfl rfl) ?_
 refine LD.val rfl rfl (ov_field Try.underlying95 rfl Try.sizeOf26 rfl (k := 0) rfl rfl) ?_
 refine LD.tail rfl rfl ?_
 refine LM.st Try.sizeOf26 rfl rfl rfl au5 rfl (fun hlt => by first | exact inM_0 | exact inM_1 | exact absurd hlt (by omega)) ?_
 refine LM.mem (SubM.mem (M' := (b4, .cells #[U (addO (gQ x.l x.cur).V (coreO (gQ x.l x.cur).x)), .int .i64 (gQ x.l x.cur).x] 95 (0, 0)) :: rqC b x.g x.fl bm bt x.cur x.ran (loadO x.l) :: (bm, .map es cl) :: (mt ++ [])) au1) ?_
 refine LM.nil ?_
 refine QM.qn ?_
 refine QM.sub (e' := [(0, _), (4, _)]) au9 (QM.then ?_)
 refine wpM.seq ?_
 refine wpM.draw [(0, 0), (1, 0), (2, 0), (3, 1), (4, 0), (5, 0), (6, 0), (7, 1), (8, 1), (9, 3)] (by kernel_rfl) (by kernel_rfl) ?_
 refine LD.val rfl rfl (ov_move rfl) ?_
 refine LD.val rfl rfl (ov_nilCheck rfl) ?_
 refine LD.val rfl rfl (ov_field Try.underlying93 rfl Try.sizeOf89 rfl (k := 2) rfl rfl) ?_
 refine LD.rd rfl rfl (om_ld Try.isAgg89 rfl rfl) ?_
 refine LD.val rfl rfl (ov_move rfl) ?_
 refine LD.val rfl rfl (ov_nilCheck rfl) ?_
 refine LD.val rfl rfl (ov_field Try.underlying93 rfl Try.sizeOf3 rfl (k := 4) rfl rfl) ?_
 refine LD.rd rfl rfl (om_ld Try.isAgg3 rfl rfl) ?_
 refine LD.rd rfl rfl (om_ldW Try.isAgg95 Try.sizeOf95 rfl rfl) ?_
 refine LD.tail rfl rfl ?_
 refine LM.mU Try.underlying89 Try.underlying3 rfl rfl rfl (by assumption) (fun hlt => by first | exact inM_0 | exact inM_1 | exact absurd hlt (by omega)) (fun esu1 clu1 hesu1 => ?_)
 refine LM.nil ?_
 refine QM.qn ?_
 refine QM.sub (e' := [(0, _)]) ⟨rfl, trivial⟩ (QM.then (wpM.seq (wpM.region ?_)))
 rw [ent_set hix, ← tickL_eq hix] at hesu1
 refine LM.mv rfl ?_
 refine LM.val (ov_nilCheck rfl) ?_
 refine LM.val (ov_field Try.underlying93 rfl Try.sizeOf3 rfl (k := 5) rfl rfl) ?_
 refine LM.rd (om_ld Try.isAgg3 rfl rfl) ?_
 refine LM.val (ov_add64 rfl rfl (by omega)) ?_
 refine LM.val (ov_nilCheck rfl) ?_
 refine LM.val (ov_field Try.underlying93 rfl Try.sizeOf3 rfl (k := 5) rfl rfl) ?_
 refine LM.st Try.sizeOf3 rfl rfl rfl au5 rfl (fun hlt => by first | exact inM_0 | exact inM_1 | exact absurd hlt (by omega)) ?_
 refine LM.mem (SubM.mem (M' := rqC b x.g x.fl bm bt x.cur (x.ran + 1) (loadO x.l) :: (bm, .map esu1 clu1) :: (mt ++ [])) au1) ?_
 refine LM.nil (QM.sub (e' := [(0, _)]) ⟨rfl, trivial⟩ (QM.then (wpM.seq (wpM.region ?_))))
 refine LM.mv rfl ?_
 refine LM.val (ov_nilCheck rfl) ?_
 refine LM.val (ov_field Try.underlying93 rfl Try.sizeOf3 rfl (k := 4) rfl rfl) ?_
 refine LM.rd (om_ld Try.isAgg3 rfl rfl) ?_
 refine LM.as rfl (LM.as rfl ?_)
 refine LM.nil (QM.sub (e' := [(2, _), (3, _)]) au9 (QM.then ?_))
 refine wpM.ret ?_
 refine QM.leave (.inl rfl) [.tmp 2, .tmp 3] Try.results30 rfl ?_
 intro w' hm' hc' hg'
 rw [decide_eq_true h1]; rw [hrd] at ht; rw [htq] at hwf ht ⊢; have hld : loadO x.l = loadO (tickL x.l x.cur) := (by rw [tickL_eq hix]; exact load_same hix rfl); exact rqm_leaf (x' := { x with l := tickL x.l x.cur, ran := x.ran + 1 }) hwf hesu1 ht hb hbm hm' (by (repeat' (first | exact SubM.nil _ | refine SubM.cons (by first | rfl | (rw [← hld]; done) | (rw [← hld]; rfl)) ?_ | refine SubM.app ?_))) hc' (inn_refl _ _)
set_option maxRecDepth 100000 in
theorem settle_spec {n0 b : Nat} {x : Qm} {m : Mem0} (w : World) (h : RqM n0 b x m) (hM : Mem w m) : Ret Try.prog 33 #[.pointer (some ⟨b, 0, none⟩)] w (Upd m (fun u m' => u = .tuple #[] ∧ RqM n0 b (setlQ x) m') w) := by
 obtain ⟨hq, bm, bt, es, cl, mt, rfl, he, ht, hb, hbm⟩ := h; have h0 : RqM n0 b x (rqC b x.g x.fl bm bt x.cur x.ran (loadO x.l) :: (bm, .map es cl) :: mt) := ⟨hq, bm, bt, es, cl, mt, rfl, he, ht, hb, hbm⟩; have hll := hq.load; have hlen := hq.len
 refine Ret.enterM (l := [.pointer (some ⟨b, 0, none⟩)]) Try.func33 rfl Try.ntmps33 rfl (rqC b x.g x.fl bm bt x.cur x.ran (loadO x.l) :: (bm, .map es cl) :: (mt ++ [])) ((inM (rqC b x.g x.fl bm bt x.cur x.ran (loadO x.l) :: (bm, .map es cl) :: mt))) (by rw [List.append_nil]; exact hM) ?_
 refine wpM.seq ?_
 refine wpM.seq (wpM.region ?_)
 refine LM.mv rfl ?_
 refine LM.val (ov_peql (by kernel_rfl) rfl rfl) ?_
 refine LM.nil (QM.sub (e' := [(0, _), (5, _)]) au9 (QM.then ?_))
 refine wpM.condF rfl ?_
 refine wpM.skip ?_
 refine QM.then (wpM.seq (wpM.region ?_))
 refine LM.mv rfl ?_
 refine LM.callE (oc_call (enters_fn Try.func78 (by kernel_rfl) rfl) rfl) (fun w hm hc hg => least2_spec w h0 (hm.pick (rqC b x.g x.fl bm bt x.cur x.ran (loadO x.l) :: (bm, .map es cl) :: mt))) ?_
 refine LM.mv rfl ?_
 refine LM.val (ov_extract rfl rfl) ?_
 refine LM.val (ov_extract rfl rfl) ?_
 refine LM.as rfl (LM.as rfl ?_)
 refine LM.nil (QM.sub (e' := [(0, _), (2, _), (3, _)]) au9 (QM.then (wpM.seq (wpM.region ?_))))
 refine LM.mv rfl ?_
 refine LM.nil (QM.sub (e' := [(0, _), (2, _), (11, _)]) au9 (QM.then ?_))
 refine wpM.condD rfl (fun h1 => ?_) (fun h1 => ?_)
 ·
  refine wpM.region ?_
  refine LM.mv rfl (LM.mv rfl ?_)
  refine LM.val (ov_nilCheck rfl) ?_
  refine LM.val (ov_field Try.underlying93 rfl Try.sizeOf26 rfl (k := 1) rfl rfl) ?_
  refine LM.rd (om_ld Try.isAgg26 rfl rfl) ?_
  refine LM.mv rfl ?_
  refine LM.val (ov_umax rfl rfl) ?_
  refine LM.val (ov_nilCheck rfl) ?_
  refine LM.val (ov_field Try.underlying93 rfl Try.sizeOf26 rfl (k := 1) rfl rfl) ?_
  refine LM.st Try.sizeOf26 rfl rfl rfl au5 rfl (fun hlt => by first | exact inM_0 | exact inM_1 | exact absurd hlt (by omega)) ?_
  refine LM.mem (SubM.mem (M' := rqC b x.g (if x.fl.toNat < (minO x.l).toNat then minO x.l else x.fl) bm bt x.cur x.ran (loadO x.l) :: (bm, .map es cl) :: (mt ++ [])) au1) ?_
  refine LM.nil (QM.sub (e' := []) trivial ?_)
  refine QM.leave (.inr rfl) [] Try.results33 rfl ?_
  intro w' hm' hc' hg'
  have hs := setlQ_pos h1; have hwf := setl_wf hq; have hrd := setl_rdy x; rw [hs] at hwf hrd ⊢; rw [hrd] at ht; exact rqm_leaf (x' := { x with fl := if x.fl.toNat < (minO x.l).toNat then minO x.l else x.fl }) hwf he ht hb hbm hm' au1 hc' (inn_refl _ _)
 refine wpM.skip ?_
 refine QM.leave (.inr rfl) [] Try.results33 rfl ?_
 intro w' hm' hc' hg'
 rw [setlQ_nil (Classical.not_not.1 h1)]; exact rqm_leaf (x' := x) hq he ht hb hbm hm' au1 hc' (inn_refl _ _)
end Go.Eng
namespace Go.Eng
open Go Go.Proofs Go.RowKit
abbrev qP (c b : Nat) : Nat × Obj := (c, .cells #[.pointer (some ⟨b, 0, none⟩)] 24 (0, 0))
def RqA (b n0 : Nat) (v : Value) (m : Mem0) : Prop := ∃ c1, v = .func (.func 81) #[] #[.pointer (some ⟨c1, 0, none⟩)] ∧ m = [qP c1 b] ∧ n0 ≤ c1
theorem RqA.mono {b : Nat} : ∀ (k k' : Nat) u m, k' ≤ k → RqA b k u m → RqA b k' u m := fun k k' u m h ⟨b1, h1, h2, h3⟩ => ⟨b1, h1, h2, by omega⟩
end Go.Eng
namespace Go.Eng
open Go Go.Proofs Go.RowKit
def fTk (t : Kv) : List Value := [.int .i64 t.id, U t.V, .int .i64 t.x]
abbrev rfC (b : Nat) (g : Int) (fl : BitVec 64) (ad : Option Addr) (n cap : Nat) (cur ran : Int) : Nat × Obj := (b, .cells #[.int .i64 g, U fl, .slice ad n cap, .int .i64 cur, .int .i64 ran] 110 (0, 0))
def RfM (n0 b : Nat) (x : Qm) (m : Mem0) : Prop := QWf x ∧ ∃ (ad : Option Addr) (n cap : Nat) (ms : Mem0), m = rfC b x.g x.fl ad n cap x.cur x.ran :: ms ∧ n = x.l.length ∧ Sl fTk 112 3 n0 x.l (.slice ad n cap) ms ∧ n0 ≤ b
theorem RfM.ge {n0 b : Nat} {x : Qm} {m : Mem0} (h : RfM n0 b x m) : ∀ p ∈ m, n0 ≤ p.1 := by
  obtain ⟨hq, ad, n, cap, ms, rfl, hn, hs, hb⟩ := h
  intro p hp
  rcases List.mem_cons.1 hp with rfl | hp
  · exact hb
  · exact hs.ge p hp
theorem RfM.wlk {n0 b : Nat} {x : Qm} {m : Mem0} (h : RfM n0 b x m) : ∀ p ∈ m, wlk p.2 = false := by
  obtain ⟨hq, ad, n, cap, ms, rfl, hn, hs, hb⟩ := h
  intro p hp
  rcases List.mem_cons.1 hp with rfl | hp
  · rfl
  · exact hs.wlk p hp
theorem RfM.mono {n0 n1 b : Nat} {x : Qm} {m : Mem0} (h : RfM n0 b x m) (hn : n1 ≤ n0) : RfM n1 b x m := by
  obtain ⟨hq, ad, n, cap, ms, rfl, hn', hs, hb⟩ := h
  exact ⟨hq, ad, n, cap, ms, rfl, hn', hs.mono hn, Nat.le_trans hn hb⟩
def RfN (g : Int) (n0 : Nat) (v : Value) (m : Mem0) : Prop := ∃ b, v = .pointer (some ⟨b, 0, none⟩) ∧ RfM n0 b (newQ g) m
theorem RfN.mono {g : Int} : ∀ (n n' : Nat) (v : Value) (m : Mem0), n' ≤ n → RfN g n v m → RfN g n' v m := fun n n' v m hn ⟨b, h1, h⟩ => ⟨b, h1, h.mono hn⟩
end Go.Eng
namespace Go.Eng
open Go Go.Proofs Go.RowKit
end Go.Eng
namespace Go.Eng
open Go Go.Proofs Go.RowKit
theorem upd_m {m m' M : Mem0} {T : Value → Mem0 → Prop} {u : Value} {w w' : World} (hT : T u m') (hm : Mem w' M) (hs : SubM M (m' ++ [])) (hc : Chg (inM m) w w') (hin : inn m w.heap.size m') : Upd m T w u w' := by
  rw [List.append_nil] at hs
  exact ⟨hc, m', hT, hs.mem w' hm, hin⟩
theorem inM_in {m : Mem0} : ∀ p ∈ m, inM m p.1 := fun p hp => ⟨p, hp, rfl⟩
theorem go1_ran {x : Qm} (h : QWf x) : (goQ1 x).ran ≤ x.ran := by
  have := h.ran
  unfold goQ1; split
  · unfold bakQ; split
    · exact this
    · exact Int.le_refl _
  · exact Int.le_refl _
theorem go2_ran {x : Qm} (h : QWf x) : (goQ2 x).ran ≤ x.ran := by
  have h1 := go1_ran h
  have := h.ran
  unfold goQ2; split
  · exact h1
  · unfold pikQ; split
    · exact h1
    · exact this
theorem go_ran {x : Qm} (h : QWf x) : (goQ x).ran ≤ x.ran + 1 := by
  have h2 := go2_ran h
  have : (goQ x).ran = (tickQ (goQ2 x)).ran := (setl_same _).2.2.1
  rw [this]; unfold tickQ; split
  · show (goQ2 x).ran + 1 ≤ _; omega
  · omega
theorem go1_due {x : Qm} (h : dueO x = true) : goQ1 x = bakQ x := if_pos h
theorem go1_not {x : Qm} (h : dueO x = false) : goQ1 x = x := if_neg (by rw [h]; simp)
theorem due_back {x : Qm} (h : dueO x = true) : bakQ x = backQ x := by
  have : 0 ≤ x.cur := by
    rcases Int.lt_or_le x.cur 0 with q | q
    · rw [due_not (by omega)] at h; cases h
    · exact q
  exact if_pos this
set_option maxRecDepth 100000 in
theorem goOn_spec {n0 b : Nat} {x : Qm} {m : Mem0} (w : World) (h : RqM n0 b x m) (hr : x.ran ≤ 1000000000000) (hn0 : n0 ≤ w.heap.size) (hM : Mem w m) : Ret Try.prog 15 #[.pointer (some ⟨b, 0, none⟩)] w (Upd m (fun u m' => u = .int .i64 (goO x) ∧ RqM n0 b (goQ x) m') w) := by
 refine Ret.enterM (l := [.pointer (some ⟨b, 0, none⟩)]) Try.func15 rfl Try.ntmps15 rfl (m ++ []) ((inM m)) (by rw [List.append_nil]; exact hM) ?_
 refine wpM.seq (wpM.region ?_)
 refine LM.as rfl ?_
 refine LM.nil (QM.sub (e' := [(0, _)]) ⟨rfl, trivial⟩ (QM.then ?_))
 refine wpM.seq ?_
 refine wpM.seq (wpM.region ?_)
 refine LM.mv rfl ?_
 refine LM.callE (oc_call (enters_fn Try.func39 (by kernel_rfl) rfl) rfl) (fun w hm hc hg => due_spec w h (hm.pick m)) ?_
 refine LM.nil (QM.sub (e' := [(0, _), (9, _)]) au9 (QM.then ?_))
 refine wpM.joinK (α := Mem0) (fun m1 => []) [(0, _)] (fun m1 => m1 ++ []) (fun m1 => RqM n0 b (goQ1 x) m1 ∧ inn m w.heap.size m1) ⟨rfl, trivial⟩ ?_ ?_
 ·
  first | refine wpM.condD rfl (fun h1 => ?_) (fun h1 => ?_) | refine wpM.condB rfl (fun h1 => ?_) (fun h1 => ?_)
  ·
   refine wpM.region ?_
   refine LM.mv rfl ?_
   refine LM.cU (oc_call (enters_fn Try.func28 (by kernel_rfl) rfl) rfl) (fun w hm hc hg => back_spec w h (Nat.le_trans hn0 hc.size) (hm.pick m)) h.wlk (fun p hp _ => ⟨p, hp, rfl⟩) ?_
   rintro u11 m11 ⟨rfl, h11⟩ hin11
   refine LM.nil (QM.sub (e' := [(0, _)]) ⟨rfl, trivial⟩ ?_)
   refine QM.meetK (m11) ⟨rfl, trivial⟩ au1 ?_
   · exact ⟨by rw [go1_due h1]; exact h11, hin11⟩
  refine wpM.skip ?_
  refine QM.meetK (m) ⟨rfl, trivial⟩ au1 ?_
  · exact ⟨by rw [go1_not h1]; exact h, inn_refl _ _⟩
 rintro m1 ⟨hq1, hi1⟩
 change QM _ _ _ _ _ (m1 ++ []) _ _ _
 refine QM.then ?_
 refine wpM.seq ?_
 refine wpM.seq (wpM.region ?_)
 refine LM.mv rfl ?_
 refine LM.callE (oc_call (enters_fn Try.func37 (by kernel_rfl) rfl) rfl) (fun w hm hc hg => rqCur_spec w hq1 (hm.pick m1)) ?_
 refine LM.mv rfl ?_
 refine LM.val (ov_extract rfl rfl) ?_
 refine LM.val (ov_extract rfl rfl) ?_
 refine LM.val (ov_extract rfl rfl) ?_
 refine LM.as rfl (LM.as rfl (LM.as rfl ?_))
 refine LM.nil (QM.sub (e' := [(0, _), (5, _)]) au9 (QM.then (wpM.seq (wpM.region ?_))))
 refine LM.mv rfl ?_
 refine LM.val (ov_notD rfl) ?_
 refine LM.nil (QM.sub (e' := [(0, _), (19, _)]) au9 (QM.then ?_))
 refine wpM.joinK (α := Mem0) (fun m2 => []) [(0, _)] (fun m2 => m2 ++ []) (fun m2 => RqM n0 b (goQ2 x) m2 ∧ inn m w.heap.size m2) ⟨rfl, trivial⟩ ?_ ?_
 ·
  refine wpM.condD rfl (fun h2 => ?_) (fun h2 => ?_)
  ·
   refine wpM.region ?_
   refine LM.mv rfl ?_
   refine LM.cU (oc_call (enters_fn Try.func26 (by kernel_rfl) rfl) rfl) (fun w hm hc hg => pick_spec w hq1 (hm.pick m1)) hq1.wlk (inn_S hi1 inM_in) ?_
   rintro u21 m21 ⟨rfl, h21⟩ hin21
   refine LM.nil (QM.sub (e' := [(0, _)]) ⟨rfl, trivial⟩ ?_)
   refine QM.meetK (m21) ⟨rfl, trivial⟩ au1 ?_
   · exact ⟨by rw [show goQ2 x = pikQ (goQ1 x) from if_neg (by have := Classical.not_not.1 h2; omega)]; exact h21, inn_trans hi1 hin21⟩
  refine wpM.skip ?_
  refine QM.meetK (m1) ⟨rfl, trivial⟩ au1 ?_
  · exact ⟨by rw [show goQ2 x = goQ1 x from if_pos (cur_pos hq1.1 (Classical.not_not.1 h2))]; exact hq1, hi1⟩
 rintro m2 ⟨hq2, hi2⟩
 change QM _ _ _ _ _ (m2 ++ []) _ _ _
 refine QM.then (wpM.seq (wpM.region ?_))
 refine LM.mv rfl ?_
 refine LM.cU (oc_call (enters_fn Try.func30 (by kernel_rfl) rfl) rfl) (fun w hm hc hg => tick_spec w hq2 (Int.le_trans (go2_ran h.1) hr) (hm.pick m2)) hq2.wlk (inn_S hi2 inM_in) ?_
 rintro u24 m24 ⟨rfl, h24⟩ hin24
 refine LM.mv rfl ?_
 refine LM.val (ov_extract rfl rfl) ?_
 refine LM.val (ov_extract rfl rfl) ?_
 refine LM.as rfl (LM.as rfl ?_)
 refine LM.nil (QM.sub (e' := [(0, _), (6, _)]) au9 (QM.then (wpM.seq (wpM.region ?_))))
 refine LM.mv rfl ?_
 refine LM.cU (oc_call (enters_fn Try.func33 (by kernel_rfl) rfl) rfl) (fun w hm hc hg => settle_spec w h24 (hm.pick m24)) h24.wlk (inn_S (inn_trans hi2 hin24) inM_in) ?_
 rintro u28 m28 ⟨rfl, h28⟩ hin28
 refine LM.nil (QM.sub (e' := [(6, _)]) ⟨rfl, trivial⟩ (QM.then (wpM.seq (wpM.region ?_))))
 refine LM.mv rfl (LM.as rfl ?_)
 refine LM.nil (QM.sub (e' := [(2, _)]) ⟨rfl, trivial⟩ (QM.then ?_))
 refine wpM.ret ?_
 refine QM.leave (.inl rfl) [.tmp 2] Try.results15 rfl ?_
 intro w' hm' hc' hg'
 exact upd_m ⟨rfl, h28⟩ hm' au1 hc' (inn_trans (inn_trans hi2 hin24) hin28)
def awQ : Nat → Qm
  | 0 => addX (addX (newQ 1) 1 0#64 2) 2 0#64 1
  | k + 1 => goQ (awQ k)
def awN : Nat → Int
  | 0 => 0
  | k + 1 => if goO (awQ k) = 1 then awN k + 1 else awN k
theorem awQ_wf : ∀ k, QWf (awQ k)
  | 0 => addX_wf (addX_wf (new_wf 1) _ _ _) _ _ _
  | k + 1 => go_wf (awQ_wf k)
theorem awQ_ran : ∀ k, (awQ k).ran ≤ k
  | 0 => by have : (awQ 0).ran = 0 := by kernel_rfl
            omega
  | k + 1 => by have := go_ran (awQ_wf k); have := awQ_ran k; show (goQ (awQ k)).ran ≤ _; omega
theorem awN_pos {k : Nat} (h : goO (awQ k) = 1) : awN k + 1 = awN (k + 1) := by rw [show awN (k + 1) = if goO (awQ k) = 1 then awN k + 1 else awN k from rfl, if_pos h]
theorem awN_neg {k : Nat} (h : ¬ goO (awQ k) = 1) : awN k = awN (k + 1) := by rw [show awN (k + 1) = if goO (awQ k) = 1 then awN k + 1 else awN k from rfl, if_neg h]
theorem awN_bd : ∀ k, 0 ≤ awN k ∧ awN k ≤ k
  | 0 => ⟨Int.le_refl _, Int.le_refl _⟩
  | k + 1 => by have := awN_bd k; unfold awN; split <;> omega
theorem aw6 : awN 6 = 4 ∧ (gQ (awQ 6).l 1).V = 2199023255552#64 ∧ decide (ixO (awQ 6).l 1 < (awQ 6).l.length) = true ∧ (awQ 6).fl = 2199023255552#64 ∧ loadO (awQ 6).l = 3 ∧ (awQ 6).l.length = 2 := by
  refine ⟨?_, ?_, ?_, ?_, ?_, ?_⟩ <;> kernel_rfl
set_option maxRecDepth 100000 in
theorem awake16_spec (w : World) : Ret Try.prog 11 #[] w (fun v w' => v = .bool true ∧ Ext w w') := by
 refine Ret.enterM (l := []) Try.func11 rfl Try.ntmps11 rfl ([]) (no) (Mem.nil w) ?_
 refine wpM.seq (wpM.region ?_)
 refine LM.as rfl ?_
 refine LM.nil (QM.sub (e' := []) trivial (QM.then (wpM.seq (wpM.region ?_))))
 refine LM.callT (oc_call (enters_fn Try.func12 (by kernel_rfl) rfl) rfl) RqN.mono (fun w hm hc hg => rqnew_spec 1 w) ?_
 rintro u5 m5 ⟨b, rfl, h5⟩ hge5
 refine LM.as rfl ?_
 refine LM.nil (QM.sub (e' := [(1, _)]) ⟨rfl, trivial⟩ (QM.then (wpM.seq (wpM.region ?_))))
 refine LM.mv rfl ?_
 refine LM.cU (oc_call (enters_fn Try.func13 (by kernel_rfl) rfl) rfl) (fun w hm hc hg => rqAdd_spec 1 0#64 2 w h5 hc.size (hm.pick m5)) h5.wlk (fun p hp hlt => absurd hlt (Nat.not_lt_of_le (h5.ge p hp))) ?_
 rintro u7 m7 ⟨rfl, h7⟩ hin7
 refine LM.nil (QM.sub (e' := [(1, _)]) ⟨rfl, trivial⟩ (QM.then (wpM.seq (wpM.region ?_))))
 refine LM.mv rfl ?_
 refine LM.cU (oc_call (enters_fn Try.func13 (by kernel_rfl) rfl) rfl) (fun w hm hc hg => rqAdd_spec 2 0#64 1 w h7 hc.size (hm.pick m7)) h7.wlk (fun p hp hlt => absurd hlt (Nat.not_lt_of_le (h7.ge p hp))) ?_
 rintro u9 m9 ⟨rfl, h9⟩ hin9
 refine LM.nil (QM.sub (e' := [(1, _)]) ⟨rfl, trivial⟩ (QM.then (wpM.seq (wpM.region ?_))))
 refine LM.as rfl ?_
 refine LM.nil (QM.sub (e' := [(1, _), (2, _)]) au9 (QM.then ?_))
 refine wpM.seq ?_
 refine wpM.seq (wpM.region ?_)
 refine LM.mv rfl ?_
 refine LM.nil (QM.sub (e' := [(1, _), (2, _), (10, _)]) au9 (QM.then ?_))
 refine wpM.block ?_
 refine wpM.loopK0 (α := Nat × Mem0) (fun ⟨i, mi⟩ => [(2, .int .i64 (awN i)), (10, .int .i64 (i : Nat))]) [(1, _)] (fun ⟨i, mi⟩ => mi ++ []) (fun ⟨i, mi⟩ => i ≤ 6 ∧ RqM w.heap.size b (awQ i) mi) (fun ⟨i, mi⟩ => 6 - i) ((0, m9)) ⟨(by first | exact lk rfl (congrArg (Value.int .i64) (awN_pos (by assumption))) | exact lk rfl (congrArg (Value.int .i64) (awN_neg (by assumption))) | rfl), au2, rfl, trivial⟩ au1 ⟨by omega, h9⟩ ?_
 rintro ⟨i, mi⟩ ⟨hi, hq⟩
 change wpM _ _ _ _ _ _ _ (mi ++ []) _ _ _
 have hnb := awN_bd i; have hrn := awQ_ran i
 refine wpM.seq (wpM.region ?_)
 refine LM.val (ov_lss rfl rfl) ?_
 refine LM.nil (QM.sub (e' := [(1, _), (2, _), (10, _), (11, _)]) au9 (QM.then ?_))
 refine wpM.seq ?_
 refine wpM.condD rfl (fun h1 => ?_) (fun h1 => ?_)
 ·
  refine wpM.skip ?_
  refine QM.then ?_
  refine wpM.seq ?_
  refine wpM.block ?_
  refine wpM.seq (wpM.region ?_)
  refine LM.mv rfl ?_
  refine LM.cU (oc_call (enters_fn Try.func15 (by kernel_rfl) rfl) rfl) (fun w hm hc hg => goOn_spec w hq (by omega) hc.size (hm.pick mi)) hq.wlk (fun p hp hlt => absurd hlt (Nat.not_lt_of_le (hq.ge p hp))) ?_
  rintro u13 m13 ⟨rfl, h13⟩ hin13
  refine LM.val (ov_eql rfl rfl) ?_
  refine LM.nil (QM.sub (e' := [(1, _), (2, _), (10, _), (14, _)]) au9 (QM.then ?_))
  refine wpM.condD rfl (fun h2 => ?_) (fun h2 => ?_)
  ·
   refine wpM.region ?_
   refine LM.mv rfl ?_
   refine LM.val (ov_add64 rfl rfl (by omega)) ?_
   refine LM.as rfl ?_
   refine LM.nil (QM.sub (e' := [(1, _), (2, _), (10, _)]) au9 ?_)
   refine QM.block_normal ?_
   refine QM.then (wpM.region ?_)
   refine LM.val (ov_add64 rfl rfl (by omega)) ?_
   refine LM.mv rfl ?_
   refine LM.nil (QM.sub (e' := [(1, _), (2, _), (10, _)]) au9 ?_)
   refine QM.againK (i + 1, m13) ⟨(by first | exact lk rfl (congrArg (Value.int .i64) (awN_pos (by assumption))) | exact lk rfl (congrArg (Value.int .i64) (awN_neg (by assumption))) | rfl), au2, rfl, trivial⟩ au1 (fun _ h => h) ?_ ?_
   · exact ⟨by omega, h13⟩
   · first | omega | (dsimp only; omega)
  refine wpM.skip ?_
  refine QM.block_normal ?_
  refine QM.then (wpM.region ?_)
  refine LM.val (ov_add64 rfl rfl (by omega)) ?_
  refine LM.mv rfl ?_
  refine LM.nil (QM.sub (e' := [(1, _), (2, _), (10, _)]) au9 ?_)
  refine QM.againK (i + 1, m13) ⟨(by first | exact lk rfl (congrArg (Value.int .i64) (awN_pos (by assumption))) | exact lk rfl (congrArg (Value.int .i64) (awN_neg (by assumption))) | rfl), au2, rfl, trivial⟩ au1 (fun _ h => h) ?_ ?_
  · exact ⟨by omega, h13⟩
  · first | omega | (dsimp only; omega)
 have hi6 : i = 6 := (by omega); subst hi6; obtain ⟨e1, e2, e3, e4, e5, e6⟩ := aw6
 refine wpM.exit ?_
 refine QM.then_exit ?_
 refine QM.then_exit ?_
 refine QM.block_hit ?_
 refine QM.then (wpM.seq (wpM.region ?_))
 refine LM.mv rfl ?_
 refine LM.callE (oc_call (enters_fn Try.func14 (by kernel_rfl) rfl) rfl) (fun w hm hc hg => rqV_spec 1 w hq (hm.pick mi)) ?_
 refine LM.mv rfl ?_
 refine LM.val (ov_extract rfl rfl) ?_
 refine LM.val (ov_extract rfl rfl) ?_
 refine LM.as rfl (LM.as rfl ?_)
 refine LM.nil (QM.sub (e' := [(1, _), (2, _), (3, _), (4, _)]) au9 (QM.then (wpM.seq (wpM.region ?_))))
 refine LM.mv rfl ?_
 refine LM.val (ov_eql rfl rfl) ?_
 refine LM.mv rfl ?_
 refine LM.splitD (t := 25) rfl (fun h3 => ?_) (fun h3 => ?_)
 ·
  refine LM.sp 25 rfl rfl rfl (LM.mv rfl ?_)
  refine LM.val (ov_pickT rfl rfl) ?_
  refine LM.mv rfl ?_
  refine LM.splitD (t := 28) rfl (fun h4 => ?_) (fun h4 => ?_)
  ·
   refine LM.sp 28 rfl rfl rfl (LM.mv rfl (LM.sp 28 rfl rfl rfl ?_))
   refine LM.val (ov_ueql (b := 2199023255552#64) rfl rfl) ?_
   refine LM.val (ov_pickT rfl rfl) ?_
   refine LM.mv rfl ?_
   refine LM.splitD (t := 32) rfl (fun h5 => ?_) (fun h5 => ?_)
   ·
    refine LM.sp 32 rfl rfl rfl (LM.mv rfl (LM.sp 32 rfl rfl rfl ?_))
    refine LM.callE (oc_call (enters_fn Try.func19 (by kernel_rfl) rfl) rfl) (fun w hm hc hg => rqFlo_spec w hq (hm.pick mi)) ?_
    refine LM.sp 32 rfl rfl rfl ?_
    refine LM.val (ov_ueql (b := 2199023255552#64) rfl rfl) ?_
    refine LM.val (ov_pickT rfl rfl) ?_
    refine LM.mv rfl ?_
    refine LM.splitD (t := 37) rfl (fun h6 => ?_) (fun h6 => ?_)
    ·
     refine LM.sp 37 rfl rfl rfl (LM.mv rfl (LM.sp 37 rfl rfl rfl ?_))
     refine LM.callE (oc_call (enters_fn Try.func41 (by kernel_rfl) rfl) rfl) (fun w hm hc hg => rqLoad_spec w hq (hm.pick mi)) ?_
     refine LM.sp 37 rfl rfl rfl ?_
     refine LM.val (ov_eql rfl rfl) ?_
     refine LM.val (ov_pickT rfl rfl) ?_
     refine LM.mv rfl ?_
     refine LM.splitD (t := 42) rfl (fun h7 => ?_) (fun h7 => ?_)
     ·
      refine LM.sp 42 rfl rfl rfl (LM.mv rfl (LM.sp 42 rfl rfl rfl ?_))
      refine LM.callE (oc_call (enters_fn Try.func40 (by kernel_rfl) rfl) rfl) (fun w hm hc hg => rqLen_spec w hq (hm.pick mi)) ?_
      refine LM.sp 42 rfl rfl rfl ?_
      refine LM.val (ov_eql rfl rfl) ?_
      refine LM.val (ov_pickT rfl rfl) ?_
      refine LM.as rfl ?_
      refine LM.nil (QM.sub (e' := [(0, _)]) ⟨rfl, trivial⟩ (QM.then ?_))
      refine wpM.ret ?_
      refine QM.leave (.inl rfl) [.tmp 0] Try.results11 rfl ?_
      intro w' hm' hc' hg'
      exact ⟨rfl, hc'⟩
     refine LM.dr 42 rfl rfl rfl (LM.dr 42 rfl rfl rfl (LM.dr 42 rfl rfl rfl ?_))
     refine LM.val (ov_pickF rfl rfl) ?_
     refine LM.as rfl ?_
     refine LM.nil (QM.sub (e' := [(0, _)]) ⟨rfl, trivial⟩ (QM.then ?_))
     refine wpM.ret ?_
     refine QM.leave (.inl rfl) [.tmp 0] Try.results11 rfl ?_
     intro w' hm' hc' hg'
     first | exact ⟨rfl, hc'⟩ | (exfalso; first | omega | (simp at *; done) | (simp_all; done))
    refine LM.dr 37 rfl rfl rfl (LM.dr 37 rfl rfl rfl (LM.dr 37 rfl rfl rfl ?_))
    refine LM.val (ov_pickF rfl rfl) ?_
    refine LM.mv rfl (LM.dr 42 rfl rfl rfl (LM.dr 42 rfl rfl rfl (LM.dr 42 rfl rfl rfl ?_)))
    refine LM.val (ov_pickF rfl rfl) ?_
    refine LM.as rfl ?_
    refine LM.nil (QM.sub (e' := [(0, _)]) ⟨rfl, trivial⟩ (QM.then ?_))
    refine wpM.ret ?_
    refine QM.leave (.inl rfl) [.tmp 0] Try.results11 rfl ?_
    intro w' hm' hc' hg'
    first | exact ⟨rfl, hc'⟩ | (exfalso; first | omega | (simp at *; done) | (simp_all; done))
   refine LM.dr 32 rfl rfl rfl (LM.dr 32 rfl rfl rfl (LM.dr 32 rfl rfl rfl ?_))
   refine LM.val (ov_pickF rfl rfl) ?_
   refine LM.mv rfl (LM.dr 37 rfl rfl rfl (LM.dr 37 rfl rfl rfl (LM.dr 37 rfl rfl rfl ?_)))
   refine LM.val (ov_pickF rfl rfl) ?_
   refine LM.mv rfl (LM.dr 42 rfl rfl rfl (LM.dr 42 rfl rfl rfl (LM.dr 42 rfl rfl rfl ?_)))
   refine LM.val (ov_pickF rfl rfl) ?_
   refine LM.as rfl ?_
   refine LM.nil (QM.sub (e' := [(0, _)]) ⟨rfl, trivial⟩ (QM.then ?_))
   refine wpM.ret ?_
   refine QM.leave (.inl rfl) [.tmp 0] Try.results11 rfl ?_
   intro w' hm' hc' hg'
   first | exact ⟨rfl, hc'⟩ | (exfalso; first | omega | (simp at *; done) | (simp_all; done))
  refine LM.dr 28 rfl rfl rfl (LM.dr 28 rfl rfl rfl ?_)
  refine LM.val (ov_pickF rfl rfl) ?_
  refine LM.mv rfl (LM.dr 32 rfl rfl rfl (LM.dr 32 rfl rfl rfl (LM.dr 32 rfl rfl rfl ?_)))
  refine LM.val (ov_pickF rfl rfl) ?_
  refine LM.mv rfl (LM.dr 37 rfl rfl rfl (LM.dr 37 rfl rfl rfl (LM.dr 37 rfl rfl rfl ?_)))
  refine LM.val (ov_pickF rfl rfl) ?_
  refine LM.mv rfl (LM.dr 42 rfl rfl rfl (LM.dr 42 rfl rfl rfl (LM.dr 42 rfl rfl rfl ?_)))
  refine LM.val (ov_pickF rfl rfl) ?_
  refine LM.as rfl ?_
  refine LM.nil (QM.sub (e' := [(0, _)]) ⟨rfl, trivial⟩ (QM.then ?_))
  refine wpM.ret ?_
  refine QM.leave (.inl rfl) [.tmp 0] Try.results11 rfl ?_
  intro w' hm' hc' hg'
  first | exact ⟨rfl, hc'⟩ | (exfalso; first | omega | (simp at *; done) | (simp_all; done))
 refine LM.dr 25 rfl rfl rfl ?_
 refine LM.val (ov_pickF rfl rfl) ?_
 refine LM.mv rfl (LM.dr 28 rfl rfl rfl (LM.dr 28 rfl rfl rfl ?_))
 refine LM.val (ov_pickF rfl rfl) ?_
 refine LM.mv rfl (LM.dr 32 rfl rfl rfl (LM.dr 32 rfl rfl rfl (LM.dr 32 rfl rfl rfl ?_)))
 refine LM.val (ov_pickF rfl rfl) ?_
 refine LM.mv rfl (LM.dr 37 rfl rfl rfl (LM.dr 37 rfl rfl rfl (LM.dr 37 rfl rfl rfl ?_)))
 refine LM.val (ov_pickF rfl rfl) ?_
 refine LM.mv rfl (LM.dr 42 rfl rfl rfl (LM.dr 42 rfl rfl rfl (LM.dr 42 rfl rfl rfl ?_)))
 refine LM.val (ov_pickF rfl rfl) ?_
 refine LM.as rfl ?_
 refine LM.nil (QM.sub (e' := [(0, _)]) ⟨rfl, trivial⟩ (QM.then ?_))
 refine wpM.ret ?_
 refine QM.leave (.inl rfl) [.tmp 0] Try.results11 rfl ?_
 intro w' hm' hc' hg'
 first | exact ⟨rfl, hc'⟩ | (exfalso; first | omega | (simp at *; done) | (simp_all; done))
end Go.Eng
namespace Go.Eng
open Go Go.Proofs Go.RowKit
end Go.Eng
namespace Go.Eng
open Go Go.Proofs Go.RowKit
structure Ded where
  kind : Int
  id : Int
  V : BitVec 64
  W : Int
instance : Inhabited Ded := ⟨⟨0, 0, 0#64, 0⟩⟩
def RzB (x : Qm) (B : Int) : Prop := (x.cur = -1 → x.ran = 0) ∧ x.ran ≤ B
theorem RzB.mono {x : Qm} {B C : Int} (h : RzB x B) (hc : B ≤ C) : RzB x C := ⟨h.1, Int.le_trans h.2 hc⟩
end Go.Eng
namespace Go.Eng
open Go Go.RowKit
theorem ix_ids : ∀ {l l' : List Kv}, l.map (·.id) = l'.map (·.id) → ∀ a, ixO l a = ixO l' a
  | [], [], _, _ => rfl
  | [], _ :: _, h, _ => by cases h
  | _ :: _, [], h, _ => by cases h
  | t :: l, t' :: l', h, a => by
    rw [List.map_cons, List.map_cons, List.cons.injEq] at h
    rw [ixO_cons, ixO_cons, h.1, ix_ids h.2 a]
theorem gQ_mem {l : List Kv} (hn : (l.map (·.id)).Nodup) {t : Kv} (ht : t ∈ l) {a : Int} (e : t.id = a) : gQ l a = t := by
  have h := ixO_hit (l := l) (a := a) (ixO_lt.2 ⟨t, ht, e⟩)
  exact uniq_id hn h.2 ht (h.1.trans e.symm)
theorem gQ_in {l : List Kv} {a : Int} (h : ixO l a < l.length) : gQ l a ∈ l ∧ (gQ l a).id = a := ⟨(ixO_hit h).2, (ixO_hit h).1⟩
theorem gQ_set_eq {l : List Kv} (hn : (l.map (·.id)).Nodup) {a : Int} (h : ixO l a < l.length) {y : Kv} (hy : y.id = a) : gQ (l.set (ixO l a) y) a = y :=
  gQ_mem (by rw [map_set_at h hy]; exact hn) ((mem_set_at hn h hy y).2 (.inl rfl)) hy
theorem gQ_set_ne {l : List Kv} (hn : (l.map (·.id)).Nodup) {a i : Int} (h : ixO l a < l.length) {y : Kv} (hy : y.id = a) (hi : i ≠ a) : gQ (l.set (ixO l a) y) i = gQ l i := by
  have hids := map_set_at h hy
  by_cases hx : ixO l i < l.length
  · obtain ⟨h1, h2⟩ := gQ_in hx
    exact gQ_mem (by rw [hids]; exact hn) ((mem_set_at hn h hy _).2 (.inr ⟨h1, by rw [h2]; exact hi⟩)) h2
  · rw [gQ_none hx, gQ_none (by rw [ix_ids hids, List.length_set]; exact hx)]
/-! a go -/
theorem bak_l (x : Qm) : (bakQ x).l = x.l ∧ (bakQ x).fl = x.fl ∧ (bakQ x).g = x.g := by unfold bakQ; split <;> exact ⟨rfl, rfl, rfl⟩
theorem pik_l (x : Qm) : (pikQ x).l = x.l ∧ (pikQ x).fl = x.fl ∧ (pikQ x).g = x.g := by unfold pikQ; split <;> exact ⟨rfl, rfl, rfl⟩
theorem go1_l (x : Qm) : (goQ1 x).l = x.l ∧ (goQ1 x).fl = x.fl ∧ (goQ1 x).g = x.g := by unfold goQ1; split; exact bak_l x; exact ⟨rfl, rfl, rfl⟩
theorem go2_l (x : Qm) : (goQ2 x).l = x.l ∧ (goQ2 x).fl = x.fl ∧ (goQ2 x).g = x.g := by
  unfold goQ2; split
  · exact go1_l x
  · have h := pik_l (goQ1 x); have h1 := go1_l x
    exact ⟨h.1.trans h1.1, h.2.1.trans h1.2.1, h.2.2.trans h1.2.2⟩
inductive GoW (x : Qm) : Prop
  | on (h0 : 0 ≤ x.cur) (hd : dueO x = false) (e : goQ2 x = x) : GoW x
  | new (h0 : 0 ≤ (goQ2 x).cur) (hr : (goQ2 x).ran = 0) (hx : ixO x.l (goQ2 x).cur < x.l.length) (hm : ∀ t ∈ x.l, (gQ x.l (goQ2 x).cur).V.toNat ≤ t.V.toNat) : GoW x
theorem go_who {x : Qm} (h : QWf x) (hl : x.l ≠ []) : GoW x := by
  have h1 := go1_wf h
  obtain ⟨e1, e2, e3⟩ := go1_l x
  by_cases hc : 0 ≤ (goQ1 x).cur
  · have hg : goQ2 x = goQ1 x := if_pos hc
    cases hd : dueO x with
    | false => exact .on (by rw [go1_not hd] at hc; exact hc) hd (by rw [hg, go1_not hd])
    | true =>
      rw [go1_due hd, due_back hd] at hc
      exact absurd (show (0 : Int) ≤ -1 from hc) (by decide)
  · have hg : goQ2 x = pikQ (goQ1 x) := if_neg hc
    have hcm := h1.cur0 hc
    have hne : rdyO (goQ1 x) ≠ [] := fun q => hl (by rw [← e1]; exact (min_none h1 hc).1 q)
    obtain ⟨t, l, e⟩ := ne_cons hne
    obtain ⟨hp1, hp2⟩ := pickO_hit h1 hcm e
    have htm := (rdy_hd_mem h1 e).1
    rw [e1] at htm
    rw [hp2] at hg
    have hcur : (goQ2 x).cur = t.id := by rw [hg]; rfl
    have hix : ixO x.l t.id < x.l.length := ixO_lt.2 ⟨t, htm, rfl⟩
    refine .new (by rw [hcur]; exact h.pos t htm) (by rw [hg]; rfl) (by rw [hcur]; exact hix) (fun s hs => ?_)
    rw [hcur, gQ_mem h.nd htm rfl]
    have hsr : s ∈ rdyO (goQ1 x) := (rdy_mem h1.nd s).2 ⟨by rw [e1]; exact hs, by rw [hcm]; have := h.pos s hs; omega⟩
    exact srt_hd (l := l) (by rw [← e]; exact rdy_srt h1.nd) s (by rw [← e]; exact hsr)
theorem go_pos {x : Qm} (h : QWf x) (hl : x.l ≠ []) : 0 ≤ goO x ∧ ixO x.l (goO x) < x.l.length := by
  cases go_who h hl with
  | on h0 hd e => unfold goO; rw [e]; exact ⟨h0, h.ix h0⟩
  | new h0 hr hx hm => exact ⟨h0, hx⟩
theorem go_empty {x : Qm} (h : QWf x) (hl : x.l = []) : goO x = -1 ∧ goQ x = setlQ (goQ2 x) := by
  have h2 := go2_wf h
  have : ¬ 0 ≤ (goQ2 x).cur := fun q => by
    have := h2.ix q
    rw [(go2_l x).1, hl] at this; simp at this
  exact ⟨h2.cur0 this, by unfold goQ; rw [show tickQ (goQ2 x) = goQ2 x from if_neg this]⟩
theorem go_l {x : Qm} (h : QWf x) (hl : x.l ≠ []) : (goQ x).l = tickL x.l (goO x) ∧ (goQ x).ran = (goQ2 x).ran + 1 ∧ (goQ x).cur = goO x ∧ (goQ x).g = x.g := by
  obtain ⟨h0, hx⟩ := go_pos h hl
  obtain ⟨s1, s2, s3, s4⟩ := setl_same (tickQ (goQ2 x))
  have ht : tickQ (goQ2 x) = { goQ2 x with l := tickL (goQ2 x).l (goQ2 x).cur, ran := (goQ2 x).ran + 1 } := if_pos h0
  have hgo : goQ x = setlQ (tickQ (goQ2 x)) := rfl
  obtain ⟨e1, e2, e3⟩ := go2_l x
  refine ⟨?_, ?_, ?_, ?_⟩
  · rw [hgo, s1, ht]; show tickL (goQ2 x).l (goQ2 x).cur = _; rw [e1]; rfl
  · rw [hgo, s3, ht]
  · rw [hgo, s2, ht]; rfl
  · rw [hgo, s4, ht]; exact e3
theorem go_ids {x : Qm} (h : QWf x) : (goQ x).l.map (·.id) = x.l.map (·.id) := by
  by_cases hl : x.l = []
  · rw [(go_empty h hl).2, (setl_same _).1, (go2_l x).1]
  · rw [(go_l h hl).1, tickL_eq (go_pos h hl).2, map_set_at (go_pos h hl).2 rfl]
theorem go_V {x : Qm} (h : QWf x) (hl : x.l ≠ []) (i : Int) : gQ (goQ x).l i = if i = goO x then ⟨addO (gQ x.l i).V (coreO (gQ x.l i).x), i, (gQ x.l i).x⟩ else gQ x.l i := by
  rw [(go_l h hl).1, tickL_eq (go_pos h hl).2]
  by_cases e : i = goO x
  · rw [if_pos e, e]; exact gQ_set_eq h.nd (go_pos h hl).2 rfl
  · rw [if_neg e]; exact gQ_set_ne h.nd (go_pos h hl).2 rfl e
theorem go_x {x : Qm} (h : QWf x) (i : Int) : (gQ (goQ x).l i).x = (gQ x.l i).x := by
  by_cases hl : x.l = []
  · rw [(go_empty h hl).2, (setl_same _).1, (go2_l x).1]
  · rw [go_V h hl]; split <;> rfl
/-! bounds -/
theorem bring_same {n lo hi : Int} (h : lo ≤ hi) : bringO (bringO n lo hi) lo hi = bringO n lo hi := by
  have := bring_in (n := n) h
  unfold bringO at *; (repeat' split) <;> omega
theorem bring_id {n lo hi : Int} (h : lo ≤ n ∧ n ≤ hi) : bringO n lo hi = n := by unfold bringO; (repeat' split) <;> omega
theorem core_bring (w : Int) : coreO (bringO w 1 4096) = coreO w := by unfold coreO; rw [bring_same (by decide)]
theorem ofInt_nat {n : Int} (h : 0 ≤ n) (h2 : n ≤ 1000000) : (BitVec.ofInt 64 n).toNat = n.toNat := by
  rw [BitVec.toNat_ofInt, Int.emod_eq_of_lt h (by show n < 18446744073709551616; omega)]
theorem core_nat {w : Int} (h : 1 ≤ w ∧ w ≤ 4096) : (coreO w).toNat = 1099511627776 / w.toNat := by
  unfold coreO; rw [bring_id h, BitVec.toNat_udiv, ofInt_nat (by omega) (by omega)]; rfl
theorem core_le (w : Int) : (coreO w).toNat ≤ 1099511627776 := by
  rw [← core_bring, core_nat (bring_in (by decide))]; exact Nat.div_le_self _ _
theorem reach_nat {w g : Int} (hg : 1 ≤ g ∧ g ≤ 8) : (reachO w g).toNat = (coreO w).toNat * g.toNat := by
  unfold reachO
  rw [bring_id hg, BitVec.toNat_mul, ofInt_nat (by omega) (by omega)]
  refine Nat.mod_eq_of_lt ?_
  have h1 := core_le w
  have h2 : g.toNat ≤ 8 := by omega
  have := Nat.mul_le_mul h1 h2
  show _ < 18446744073709551616
  omega
theorem reach_le {w g : Int} (hg : 1 ≤ g ∧ g ≤ 8) : (reachO w g).toNat ≤ 8796093022208 := by
  rw [reach_nat hg]
  have h1 := core_le w
  have h2 : g.toNat ≤ 8 := by omega
  have := Nat.mul_le_mul h1 h2
  omega
theorem addO_ge (a b : BitVec 64) : a.toNat ≤ (addO a b).toNat := by
  unfold addO; split
  · rw [BitVec.toNat_add, Nat.mod_eq_of_lt (by omega)]; omega
  · have := a.isLt; show _ ≤ 18446744073709551615; omega
theorem addO_le (a b : BitVec 64) : (addO a b).toNat ≤ a.toNat + b.toNat := by
  unfold addO; split
  · rw [BitVec.toNat_add, Nat.mod_eq_of_lt (by omega)]; exact Nat.le_refl _
  · show 18446744073709551615 ≤ _; omega
theorem addO_eq {a b : BitVec 64} (h : a.toNat + b.toNat < 18446744073709551616) : addO a b = a + b ∧ (addO a b).toNat = a.toNat + b.toNat := by
  refine ⟨if_pos h, ?_⟩
  rw [show addO a b = a + b from if_pos h, BitVec.toNat_add]; exact Nat.mod_eq_of_lt h
theorem clamp_le (v fl r : BitVec 64) : (clampO v fl r).toNat ≤ fl.toNat + r.toNat := by
  have h1 := addO_le fl r
  unfold clampO; split
  · omega
  · split
    · exact h1
    · have := v.isLt
      by_cases h : fl.toNat + r.toNat < 18446744073709551616
      · have := (addO_eq h).2; omega
      · omega
end Go.Eng
namespace Go.Eng
open Go Go.Proofs Go.RowKit
theorem wrap_u8 (n : Int) (h : 0 ≤ n ∧ n ≤ 255) : IntKind.u8.wrap n = n := by
  simp only [IntKind.signed, IntKind.bits, IntKind.wrap]; simp; omega
structure TkI (ws : List Int) (k : Nat) (x : Qm) : Prop where
  ids : x.l.map (·.id) = (List.range k).map (fun (i : Nat) => (i : Int))
  xs : ∀ i : Nat, i < k → (gQ x.l i).x = bringO (ws.getD i 0) 1 4096
def VB (x : Qm) (B : Nat) : Prop := (∀ t ∈ x.l, t.V.toNat ≤ B) ∧ x.fl.toNat ≤ B
theorem VB.mono {x : Qm} {B C : Nat} (h : VB x B) (hc : B ≤ C) : VB x C := ⟨fun t ht => Nat.le_trans (h.1 t ht) hc, Nat.le_trans h.2 hc⟩
theorem TkI.len {ws : List Int} {k : Nat} {x : Qm} (h : TkI ws k x) : x.l.length = k := by
  have := congrArg List.length h.ids; simpa using this
theorem TkI.ix {ws : List Int} {k : Nat} {x : Qm} (h : TkI ws k x) {i : Nat} (hi : i < k) : ixO x.l (i : Int) < x.l.length := by
  have : (i : Int) ∈ x.l.map (·.id) := by rw [h.ids]; exact List.mem_map.2 ⟨i, List.mem_range.2 hi, rfl⟩
  obtain ⟨t, ht, e⟩ := List.mem_map.1 this
  exact ixO_lt.2 ⟨t, ht, e⟩
theorem TkI.id {ws : List Int} {k : Nat} {x : Qm} (h : TkI ws k x) {a : Int} (ha : ixO x.l a < x.l.length) : 0 ≤ a ∧ a < k := by
  obtain ⟨t, ht, e⟩ := ixO_lt.1 ha
  have : t.id ∈ x.l.map (·.id) := List.mem_map.2 ⟨t, ht, rfl⟩
  rw [h.ids] at this
  obtain ⟨i, hi, e2⟩ := List.mem_map.1 this
  have := List.mem_range.1 hi
  have e3 : (i : Int) = t.id := e2
  omega
theorem tk_new (ws : List Int) (g : Int) : TkI ws 0 (newQ g) := ⟨rfl, fun i h => by omega⟩
theorem vb_new (g : Int) : VB (newQ g) 0 := ⟨fun t h => (by cases h), Nat.le_refl _⟩
theorem tk_addE {ws : List Int} {k : Nat} {x : Qm} (h : TkI ws k x) (hk : k < 16) : addE x (k : Int) = 0 := by
  refine addE_ok (by omega) (fun q => ?_) (by rw [h.len]; omega)
  have := h.id q; omega
theorem tk_add {ws : List Int} {k : Nat} {x : Qm} (hq : QWf x) (h : TkI ws k x) (hk : k < 16) (v : BitVec 64) : TkI ws (k + 1) (addX x (k : Int) v (ws.getD k 0)) := by
  have hE := tk_addE h hk
  have hwf := add_wf (v := v) (w := ws.getD k 0) hq hE
  rw [show addX x (k : Int) v (ws.getD k 0) = addQ x (k : Int) v (ws.getD k 0) from if_pos hE]
  refine ⟨?_, fun i hi => ?_⟩
  · show (x.l ++ [_]).map _ = _
    rw [List.map_append, h.ids, List.range_succ, List.map_append]; rfl
  · by_cases e : i = k
    · subst e
      have : gQ (addQ x (i : Int) v (ws.getD i 0)).l (i : Int) = ⟨plcO x v (bringO (ws.getD i 0) 1 4096), i, bringO (ws.getD i 0) 1 4096⟩ := gQ_mem hwf.nd (List.mem_append_right _ (List.mem_singleton.2 rfl)) rfl
      rw [this]
    · have hik : i < k := by omega
      have hx := h.ix hik
      obtain ⟨g1, g2⟩ := gQ_in hx
      have : gQ (addQ x (k : Int) v (ws.getD k 0)).l (i : Int) = gQ x.l i := gQ_mem hwf.nd (List.mem_append_left _ g1) g2
      rw [this]; exact h.xs i hik
theorem vb_add {x : Qm} {B : Nat} (hq : QWf x) (h : VB x B) (a : Int) (v : BitVec 64) (w : Int) : VB (addX x a v w) (B + 8796093022208) := by
  unfold addX
  split
  · refine ⟨fun t ht => ?_, Nat.le_trans h.2 (Nat.le_add_right _ _)⟩
    rcases List.mem_append.1 ht with q | q
    · exact Nat.le_trans (h.1 t q) (Nat.le_add_right _ _)
    · rw [List.mem_singleton] at q; subst q
      have h1 := clamp_le v x.fl (reachO (bringO w 1 4096) x.g)
      have h2 := reach_le (w := bringO w 1 4096) hq.g
      have h3 := h.2
      show (clampO v x.fl (reachO (bringO w 1 4096) x.g)).toNat ≤ _
      omega
  · exact h.mono (Nat.le_add_right _ _)
theorem tk_go {ws : List Int} {k : Nat} {x : Qm} (hq : QWf x) (h : TkI ws k x) : TkI ws k (goQ x) :=
  ⟨(go_ids hq).trans h.ids, fun i hi => by rw [go_x hq]; exact h.xs i hi⟩
theorem go_memV {x : Qm} (h : QWf x) (hl : x.l ≠ []) {t : Kv} (ht : t ∈ (goQ x).l) : ∃ s ∈ x.l, s.V.toNat ≤ t.V.toNat ∧ t.V.toNat ≤ s.V.toNat + 1099511627776 := by
  obtain ⟨h0, hx⟩ := go_pos h hl
  obtain ⟨c1, c2⟩ := gQ_in hx
  rw [(go_l h hl).1, tickL_eq hx] at ht
  rcases (mem_set_at h.nd hx (y := ⟨addO (gQ x.l (goO x)).V (coreO (gQ x.l (goO x)).x), goO x, (gQ x.l (goO x)).x⟩) rfl t).1 ht with e | e
  · refine ⟨_, c1, by rw [e]; exact addO_ge _ _, ?_⟩
    have h1 := addO_le (gQ x.l (goO x)).V (coreO (gQ x.l (goO x)).x)
    have h2 := core_le (gQ x.l (goO x)).x
    rw [e]
    show (addO (gQ x.l (goO x)).V (coreO (gQ x.l (goO x)).x)).toNat ≤ _
    omega
  · exact ⟨t, e.1, Nat.le_refl _, by omega⟩
theorem vb_setl {x : Qm} {B : Nat} (h : VB x B) : VB (setlQ x) B := by
  refine ⟨by rw [(setl_same x).1]; exact h.1, ?_⟩
  by_cases hl : x.l = []
  · rw [setlQ_nil hl]; exact h.2
  · rw [setlQ_pos hl]
    show (if _ then _ else _ : BitVec 64).toNat ≤ _
    split
    · obtain ⟨⟨t, ht, e⟩, _⟩ := minO_spec hl
      rw [← e]; exact h.1 t ht
    · exact h.2
theorem vb_go {x : Qm} {B : Nat} (hq : QWf x) (h : VB x B) : VB (goQ x) (B + 1099511627776) := by
  by_cases hl : x.l = []
  · rw [(go_empty hq hl).2]
    exact vb_setl ⟨by rw [(go2_l x).1, hl]; exact fun t ht => (by cases ht), by rw [(go2_l x).2.1]; exact Nat.le_trans h.2 (Nat.le_add_right _ _)⟩
  · have hg : goQ x = setlQ (tickQ (goQ2 x)) := rfl
    have hl2 : (goQ x).l = (tickQ (goQ2 x)).l := (setl_same _).1
    have hf : (tickQ (goQ2 x)).fl = x.fl := by
      have : (tickQ (goQ2 x)).fl = (goQ2 x).fl := by unfold tickQ; split <;> rfl
      rw [this]; exact (go2_l x).2.1
    rw [hg]
    refine vb_setl ⟨fun t ht => ?_, by rw [hf]; exact Nat.le_trans h.2 (Nat.le_add_right _ _)⟩
    rw [← hl2] at ht
    obtain ⟨s, hs, _, h2⟩ := go_memV hq hl ht
    exact Nat.le_trans h2 (Nat.add_le_add_right (h.1 s hs) _)
theorem addX_cr (x : Qm) (a : Int) (v : BitVec 64) (w : Int) : (addX x a v w).ran = x.ran := by unfold addX; split <;> rfl
theorem tk_ne {ws : List Int} {k : Nat} {x : Qm} (h : TkI ws k x) (hk : 0 < k) : x.l ≠ [] := fun q => by have := h.len; rw [q] at this; simp at this; omega
theorem tk_pay {ws : List Int} {k : Nat} {x : Qm} {B : Nat} (hq : QWf x) (h : TkI ws k x) (hv : VB x B) (hB : B ≤ 1000000000000000000) {i : Nat} (hi : i < k) :
    (gQ (goQ x).l (i : Int)).V = (gQ x.l (i : Int)).V + (if (i : Int) = goO x then coreO (ws.getD i 0) else 0#64) := by
  rw [go_V hq (tk_ne h (by omega))]
  by_cases e : (i : Int) = goO x
  · rw [if_pos e, if_pos e, h.xs i hi, core_bring]
    have h1 := hv.1 _ (gQ_in (h.ix hi)).1
    have h2 := core_le (ws.getD i 0)
    exact (addO_eq (by omega)).1
  · rw [if_neg e, if_neg e, BitVec.add_zero]
def wasL (x : Qm) (i : Nat) : List (BitVec 64) := (List.range i).map (fun (j : Nat) => (gQ x.l (j : Int)).V)
theorem wasL_len (x : Qm) (i : Nat) : (wasL x i).length = i := by simp [wasL]
theorem wasL_succ (x : Qm) (i : Nat) : wasL x (i + 1) = wasL x i ++ [(gQ x.l (i : Int)).V] := by unfold wasL; rw [List.range_succ, List.map_append]; rfl
theorem wasL_get {x : Qm} {i k : Nat} (h : k < i) : (wasL x i).getD k 0#64 = (gQ x.l (k : Int)).V := by
  unfold wasL; rw [List.getD_eq_getElem?_getD, List.getElem?_map, List.getElem?_range h]; rfl
set_option maxRecDepth 100000 in
set_option maxHeartbeats 2000000 in
theorem runqOnce {ws : List Int} {ad : Option Addr} {n cap : Nat} (g nn : Int) (w : World) (hn : n = ws.length) (hl : Sr (fun n => [.int .u8 n]) 1 ws (.slice ad n cap) w) (hw : ∀ x ∈ ws, 0 ≤ x ∧ x ≤ 255) (hnn : 0 ≤ nn ∧ nn ≤ 255) : Ret Try.prog 3 #[.int .i64 g, .slice ad n cap, .int .u8 nn] w (fun v w' => v = .bool true ∧ Ext w w') := by
 refine Ret.enterM (l := [.int .i64 g, .slice ad n cap, .int .u8 nn]) Try.func3 rfl Try.ntmps3 rfl ([]) (no) (Mem.nil w) ?_
 refine wpM.seq (wpM.region ?_)
 refine LM.as rfl ?_
 refine LM.nil (QM.sub (e' := [(0, _), (1, _), (2, _)]) au9 (QM.then ?_))
 refine wpM.seq ?_
 refine wpM.seq (wpM.region ?_)
 refine LM.callE (oc_call (enters_fn Try.func11 (by kernel_rfl) rfl) rfl) (fun w hm hc hg => awake16_spec w) ?_
 first | refine LM.val (ov_notD rfl) ?_ | refine LM.val (ov_not rfl) ?_
 refine LM.nil (QM.sub (e' := [(0, _), (1, _), (2, _), (21, _)]) au9 (QM.then ?_))
 first | refine wpM.condD rfl (fun h1 => ?_) (fun h1 => ?_) | refine wpM.condB rfl (fun h1 => ?_) (fun h1 => ?_)
 ·
  cases h1
 refine wpM.skip ?_
 refine QM.then ?_
 refine wpM.seq ?_
 refine wpM.seq (wpM.region ?_)
 refine LM.mv rfl ?_
 refine LM.val (ov_len Try.underlying22 rfl) ?_
 refine LM.val (ov_gtr rfl rfl) ?_
 refine LM.mv rfl ?_
 refine LM.splitD (t := 25) rfl (fun h2 => ?_) (fun h2 => ?_)
 ·
  refine LM.dr 25 rfl rfl rfl (LM.dr 25 rfl rfl rfl ?_)
  refine LM.val (ov_pickT rfl rfl) ?_
  refine LM.nil (QM.sub (e' := [(0, _), (1, _), (2, _), (28, _)]) au9 (QM.then ?_))
  refine wpM.condT rfl ?_
  refine wpM.seq (wpM.region ?_)
  refine LM.as rfl ?_
  refine LM.nil (QM.sub (e' := [(6, _)]) ⟨rfl, trivial⟩ (QM.then ?_))
  refine wpM.ret ?_
  refine QM.then_ret ?_
  refine QM.leave (.inl rfl) [.tmp 6] Try.results3 rfl ?_
  intro w' hm' hc' hg'
  exact ⟨rfl, hc'⟩
 refine LM.sp 25 rfl rfl rfl (LM.mv rfl (LM.sp 25 rfl rfl rfl ?_))
 refine LM.val (ov_gtr rfl rfl) ?_
 refine LM.val (ov_pickF rfl rfl) ?_
 refine LM.nil (QM.sub (e' := [(0, _), (1, _), (2, _), (28, _)]) au9 (QM.then ?_))
 refine wpM.condD rfl (fun h3 => ?_) (fun h3 => ?_)
 ·
  refine wpM.seq (wpM.region ?_)
  refine LM.as rfl ?_
  refine LM.nil (QM.sub (e' := [(6, _)]) ⟨rfl, trivial⟩ (QM.then ?_))
  refine wpM.ret ?_
  refine QM.then_ret ?_
  refine QM.leave (.inl rfl) [.tmp 6] Try.results3 rfl ?_
  intro w' hm' hc' hg'
  exact ⟨rfl, hc'⟩
 refine wpM.skip ?_
 refine QM.then (wpM.seq (wpM.region ?_))
 refine LM.mv rfl ?_
 refine LM.callT (oc_call (enters_fn Try.func12 (by kernel_rfl) rfl) rfl) RqN.mono (fun w hm hc hg => rqnew_spec g w) ?_
 rintro u30 m30 ⟨b, rfl, h30⟩ hge30
 refine LM.as rfl ?_
 refine LM.nil (QM.sub (e' := [(1, _), (2, _), (7, _)]) au9 (QM.then ?_))
 refine wpM.seq ?_
 refine wpM.seq (wpM.region ?_)
 refine LM.mv rfl ?_
 refine LM.val (ov_len Try.underlying22 rfl) ?_
 refine LM.mv rfl ?_
 refine LM.nil (QM.sub (e' := [(1, _), (2, _), (7, _), (31, _), (32, _), (33, _)]) au9 (QM.then ?_))
 refine wpM.block ?_
 refine wpM.loopK0 (α := Nat × Qm × Mem0) (fun ⟨k, x, m⟩ => [(33, .int .i64 (k : Nat))]) [(1, _), (2, _), (7, _), (31, _), (32, _)] (fun ⟨k, x, m⟩ => m ++ []) (fun ⟨k, x, m⟩ => k ≤ ws.length ∧ RqM w.heap.size b x m ∧ TkI ws k x ∧ VB x (k * 8796093022208) ∧ x.ran ≤ 0) (fun ⟨k, x, m⟩ => ws.length - k) ((0, newQ g, m30)) ⟨au2, rfl, rfl, rfl, rfl, rfl, trivial⟩ au1 ⟨Nat.zero_le _, h30, tk_new ws g, by rw [Nat.zero_mul]; exact vb_new g, Int.le_refl _⟩ ?_
 rintro ⟨k, x, m⟩ ⟨hk, hq, htk, hvb, hrn⟩
 change wpM _ _ _ _ _ _ _ (m ++ []) _ _ _
 refine wpM.seq (wpM.region ?_)
 refine LM.val (ov_lss rfl rfl) ?_
 refine LM.nil (QM.sub (e' := [(1, _), (2, _), (7, _), (31, _), (32, _), (33, _), (34, _)]) au9 (QM.then ?_))
 refine wpM.seq ?_
 refine wpM.condD rfl (fun h4 => ?_) (fun h4 => ?_)
 ·
  have hwk := hw (ws.getD k 0) (by rw [List.getD_eq_getElem?_getD, List.getElem?_eq_getElem (by omega : k < ws.length)]; exact List.getElem_mem _)
  refine wpM.skip ?_
  refine QM.then ?_
  refine wpM.seq ?_
  refine wpM.block ?_
  refine wpM.seq (wpM.region ?_)
  refine LM.mv rfl ?_
  refine LM.val (ov_idxSN au6 Try.underlying22 Try.sizeOf5 rfl rfl (by omega)) ?_
  first | refine LM.rd (om_sl1 (by assumption) (by intro _; rfl) Try.isAgg5 rfl rfl (by exact getq 0 au4) (by rfl)) ?_ | refine LM.rdC (om_sr1 (by assumption) Try.isAgg5 rfl rfl (by exact getq 0 au4) (by rfl) id) ?_ | refine LM.rd (om_ld Try.isAgg5 rfl rfl) ?_
  refine LM.as rfl (LM.as rfl ?_)
  refine LM.nil (QM.sub (e' := [(1, _), (2, _), (7, _), (8, _), (9, _), (31, _), (32, _), (33, _)]) au9 (QM.then (wpM.region ?_)))
  refine LM.mv rfl (LM.mv rfl (LM.mv rfl ?_))
  refine LM.val (ov_toU Try.underlying3 Try.underlying26 rfl) ?_
  refine LM.val (ov_ushl rfl rfl (by omega)) ?_
  refine LM.mv rfl ?_
  refine LM.val (ov_to64 Try.underlying5 Try.underlying3 rfl (by omega)) ?_
  refine LM.cU (oc_call (enters_fn Try.func13 (by kernel_rfl) rfl) rfl) (fun w hm hc hg => rqAdd_spec (k : Int) (BitVec.ofInt 64 (k : Int) <<< 30) (ws.getD k 0) w hq hc.size (hm.pick m)) hq.wlk (fun p hp hlt => absurd hlt (Nat.not_lt_of_le (hq.ge p hp))) ?_
  rintro u45 m45 ⟨rfl, h45⟩ -
  refine LM.nil (QM.sub (e' := [(1, _), (2, _), (7, _), (31, _), (32, _), (33, _)]) au9 ?_)
  refine QM.block_normal ?_
  refine QM.then (wpM.region ?_)
  refine LM.val (ov_add64 rfl rfl (by omega)) ?_
  refine LM.mv rfl ?_
  refine LM.nil (QM.sub (e' := [(1, _), (2, _), (7, _), (31, _), (32, _), (33, _)]) au9 ?_)
  refine QM.againK (k + 1, addX x (k : Int) (BitVec.ofInt 64 (k : Int) <<< 30) (ws.getD k 0), m45) ⟨au2, rfl, rfl, rfl, rfl, rfl, trivial⟩ au1 (fun _ h => h) ?_ ?_
  · exact ⟨by omega, h45, tk_add hq.1 htk (by omega) _, by rw [Nat.succ_mul]; exact vb_add hq.1 hvb _ _ _, by rw [addX_cr]; exact hrn⟩
  · first | omega | (dsimp only; omega)
 have hkl : k = ws.length := (by omega); subst hkl
 refine wpM.exit ?_
 refine QM.then_exit ?_
 refine QM.then_exit ?_
 refine QM.block_hit ?_
 refine QM.then ?_
 refine wpM.seq ?_
 refine wpM.seq (wpM.region ?_)
 refine LM.mv rfl (LM.mv rfl ?_)
 refine LM.nil (QM.sub (e' := [(1, _), (7, _), (47, _), (48, _)]) au9 (QM.then ?_))
 refine wpM.block ?_
 refine wpM.loopK0 (α := Nat × Qm × Mem0) (fun ⟨j, y, my⟩ => [(48, .int .u8 (j : Nat))]) [(1, _), (7, _), (47, _)] (fun ⟨j, y, my⟩ => my ++ []) (fun ⟨j, y, my⟩ => (j : Int) ≤ nn ∧ RqM w.heap.size b y my ∧ TkI ws ws.length y ∧ VB y (140737488355328 + j * 1099511627776) ∧ y.ran ≤ j) (fun ⟨j, y, my⟩ => nn.toNat - j) ((0, x, m)) ⟨(by first | rfl | exact lk rfl (congrArg (Value.int .u8) (by rw [wrap_u8 _ (by omega)]; omega))), rfl, rfl, rfl, trivial⟩ au1 ⟨by omega, hq, htk, hvb.mono (by omega), hrn⟩ ?_
 rintro ⟨j, y, my⟩ ⟨hj, hqy, hty, hvy, hry⟩
 change wpM _ _ _ _ _ _ _ (my ++ []) _ _ _
 have hwfy := hqy.1
 refine wpM.seq (wpM.region ?_)
 refine LM.val (ov_lss rfl rfl) ?_
 refine LM.nil (QM.sub (e' := [(1, _), (7, _), (47, _), (48, _), (49, _)]) au9 (QM.then ?_))
 refine wpM.seq ?_
 refine wpM.condD rfl (fun h5 => ?_) (fun h5 => ?_)
 ·
  refine wpM.skip ?_
  refine QM.then ?_
  refine wpM.seq ?_
  refine wpM.block ?_
  refine wpM.seq (wpM.region ?_)
  refine LM.as rfl ?_
  refine LM.nil (QM.sub (e' := [(1, _), (7, _), (10, _), (47, _), (48, _)]) au9 (QM.then ?_))
  refine wpM.seq ?_
  refine wpM.seq (wpM.region ?_)
  refine LM.mv rfl ?_
  refine LM.val (ov_len Try.underlying22 rfl) ?_
  refine LM.mv rfl ?_
  refine LM.nil (QM.sub (e' := [(1, _), (7, _), (10, _), (47, _), (48, _), (51, _), (52, _)]) au9 (QM.then ?_))
  refine wpM.block ?_
  refine wpM.loopK0 (α := Nat × Option Addr × Nat × Nat × Mem0) (fun ⟨i, ado, no, capo, mo⟩ => [(10, .slice ado no capo), (52, .int .i64 (i : Nat))]) [(1, _), (7, _), (47, _), (48, _), (51, _)] (fun ⟨i, ado, no, capo, mo⟩ => my ++ (mo ++ [])) (fun ⟨i, ado, no, capo, mo⟩ => i ≤ ws.length ∧ no = i ∧ Sl fU 26 1 w.heap.size (wasL y i) (.slice ado no capo) mo) (fun ⟨i, ado, no, capo, mo⟩ => ws.length - i) ((0, none, 0, 0, [])) ⟨au2, au2, rfl, rfl, rfl, rfl, rfl, trivial⟩ au1 ⟨Nat.zero_le _, rfl, .nil _ _ _ _⟩ ?_
  rintro ⟨i, ado, no, capo, mo⟩ ⟨hi, hno, hso⟩
  change wpM _ _ _ _ _ _ _ (my ++ (mo ++ [])) _ _ _
  have hwl := wasL_len y i
  refine wpM.seq (wpM.region ?_)
  refine LM.val (ov_lss rfl rfl) ?_
  refine LM.nil (QM.sub (e' := [(1, _), (7, _), (10, _), (47, _), (48, _), (51, _), (52, _), (53, _)]) au9 (QM.then ?_))
  refine wpM.seq ?_
  refine wpM.condD rfl (fun h6 => ?_) (fun h6 => ?_)
  ·
   refine wpM.skip ?_
   refine QM.then ?_
   refine wpM.seq ?_
   refine wpM.block ?_
   refine wpM.seq (wpM.region ?_)
   refine LM.mv rfl (LM.as rfl ?_)
   refine LM.nil (QM.sub (e' := [(1, _), (7, _), (10, _), (11, _), (47, _), (48, _), (51, _), (52, _)]) au9 (QM.then (wpM.seq (wpM.region ?_))))
   refine LM.mv rfl (LM.mv rfl ?_)
   refine LM.callE (oc_call (enters_fn Try.func14 (by kernel_rfl) rfl) rfl) (fun w hm hc hg => rqV_spec (i : Int) w hqy (hm.pick my)) ?_
   refine LM.mv rfl ?_
   refine LM.val (ov_extract rfl rfl) ?_
   refine LM.val (ov_extract rfl rfl) ?_
   refine LM.as rfl (LM.as rfl ?_)
   refine LM.nil (QM.sub (e' := [(1, _), (7, _), (10, _), (12, _), (47, _), (48, _), (51, _), (52, _)]) au9 (QM.then (wpM.region ?_)))
   refine LM.mv rfl (LM.mv rfl ?_)
   refine LM.single Try.underlying31 Try.sizeOf26 Try.zeroValue26 rfl rfl rfl rfl rfl (fun b63 hb63 => ?_)
   refine LM.app (a := (gQ y.l (i : Int)).V) Try.underlying31 Try.typeInfo26 rfl rfl rfl rfl rfl rfl rfl (by assumption) (by rfl) (by intro _; rfl) (by intro _ u hu; simp [fU] at hu; (repeat (first | (rcases hu with rfl | hu) | subst hu | rfl))) (by first | exact Nat.le_refl _ | omega) au10 (by first | omega | (unfold maxLen; omega)) (by simp only [Try.t26]; omega) (fun ad64 n64 cap64 m64 hn64 hs64 hin64 => ?_)
   refine LM.as rfl ?_
   refine LM.nil (QM.sub (e' := [(1, _), (7, _), (10, _), (47, _), (48, _), (51, _), (52, _)]) au9 ?_)
   refine QM.block_normal ?_
   refine QM.then (wpM.region ?_)
   refine LM.val (ov_add64 rfl rfl (by omega)) ?_
   refine LM.mv rfl ?_
   refine LM.nil (QM.sub (e' := [(1, _), (7, _), (10, _), (47, _), (48, _), (51, _), (52, _)]) au9 ?_)
   refine QM.againK (i + 1, ad64, n64, cap64, m64) ⟨au2, au2, rfl, rfl, rfl, rfl, rfl, trivial⟩ au1 (fun _ h => h) ?_ ?_
   · exact ⟨by omega, by omega, by rw [wasL_succ]; exact hs64⟩
   · first | omega | (dsimp only; omega)
  have hil : i = ws.length := (by omega); subst hil
  refine wpM.exit ?_
  refine QM.then_exit ?_
  refine QM.then_exit ?_
  refine QM.block_hit ?_
  refine QM.then (wpM.seq (wpM.region ?_))
  refine LM.mv rfl ?_
  refine LM.cU (oc_call (enters_fn Try.func15 (by kernel_rfl) rfl) rfl) (fun w hm hc hg => goOn_spec w hqy (by omega) hc.size (hm.pick my)) hqy.wlk (fun p hp hlt => absurd hlt (Nat.not_lt_of_le (hqy.ge p hp))) ?_
  rintro u67 m67 ⟨rfl, h67⟩ -
  refine LM.as rfl ?_
  refine LM.nil (QM.sub (e' := [(1, _), (7, _), (10, _), (14, _), (47, _), (48, _)]) au9 (QM.then ?_))
  refine wpM.seq ?_
  refine wpM.seq (wpM.region ?_)
  refine LM.mv rfl ?_
  refine LM.val (ov_len Try.underlying22 rfl) ?_
  refine LM.val (ov_eql rfl rfl) ?_
  refine LM.nil (QM.sub (e' := [(1, _), (7, _), (10, _), (14, _), (47, _), (48, _), (70, _)]) au9 (QM.then ?_))
  refine wpM.condD rfl (fun h7 => ?_) (fun h7 => ?_)
  ·
   refine wpM.seq (wpM.region ?_)
   refine LM.mv rfl ?_
   refine LM.val (ov_eql rfl rfl) ?_
   refine LM.as rfl ?_
   refine LM.nil (QM.sub (e' := [(6, _)]) ⟨rfl, trivial⟩ (QM.then ?_))
   refine wpM.ret ?_
   refine QM.then_ret ?_
   refine QM.block_ret ?_
   refine QM.then_ret ?_
   refine QM.then_ret ?_
   refine QM.block_ret ?_
   refine QM.then_ret ?_
   refine QM.leave (.inl rfl) [.tmp 6] Try.results3 rfl ?_
   intro w' hm' hc' hg'
   have hnil : y.l = [] := List.eq_nil_of_length_eq_zero (by rw [hty.len]; omega); refine ⟨?_, hc'⟩; show Value.bool (decide (goO y = -1)) = _; rw [(go_empty hwfy hnil).1]; rfl
  have hpos : 0 < ws.length := (by omega); have hgp := go_pos hwfy (tk_ne hty hpos); have hgi := hty.id hgp.2
  refine wpM.skip ?_
  refine QM.then ?_
  refine wpM.seq ?_
  refine wpM.seq (wpM.region ?_)
  refine LM.mv rfl ?_
  refine LM.val (ov_len Try.underlying22 rfl) ?_
  refine LM.mv rfl ?_
  refine LM.nil (QM.sub (e' := [(1, _), (7, _), (10, _), (14, _), (47, _), (48, _), (73, _), (74, _), (75, _)]) au9 (QM.then ?_))
  refine wpM.block ?_
  refine wpM.loopK0 (α := Nat) (fun k2 => [(75, .int .i64 (k2 : Nat))]) [(1, _), (7, _), (10, _), (14, _), (47, _), (48, _), (73, _), (74, _)] (fun k2 => m67 ++ (mo ++ [])) (fun k2 => k2 ≤ ws.length) (fun k2 => ws.length - k2) (0) ⟨au2, rfl, rfl, rfl, rfl, rfl, rfl, rfl, rfl, trivial⟩ au1 (Nat.zero_le _) ?_
  rintro k2 hk2
  change wpM _ _ _ _ _ _ _ (m67 ++ (mo ++ [])) _ _ _
  refine wpM.seq (wpM.region ?_)
  refine LM.val (ov_lss rfl rfl) ?_
  refine LM.nil (QM.sub (e' := [(1, _), (7, _), (10, _), (14, _), (47, _), (48, _), (73, _), (74, _), (75, _), (76, _)]) au9 (QM.then ?_))
  refine wpM.seq ?_
  refine wpM.condD rfl (fun h8 => ?_) (fun h8 => ?_)
  ·
   have hwk := hw (ws.getD k2 0) (by rw [List.getD_eq_getElem?_getD, List.getElem?_eq_getElem (by omega : k2 < ws.length)]; exact List.getElem_mem _)
   refine wpM.skip ?_
   refine QM.then ?_
   refine wpM.seq ?_
   refine wpM.block ?_
   refine wpM.seq (wpM.region ?_)
   refine LM.mv rfl ?_
   refine LM.val (ov_idxSN au6 Try.underlying22 Try.sizeOf5 rfl rfl (by omega)) ?_
   first | refine LM.rd (om_sl1 (by assumption) (by intro _; rfl) Try.isAgg5 rfl rfl (by exact getq 0 au4) (by rfl)) ?_ | refine LM.rdC (om_sr1 (by assumption) Try.isAgg5 rfl rfl (by exact getq 0 au4) (by rfl) id) ?_ | refine LM.rd (om_ld Try.isAgg5 rfl rfl) ?_
   refine LM.as rfl (LM.as rfl ?_)
   refine LM.nil (QM.sub (e' := [(1, _), (7, _), (10, _), (14, _), (15, _), (16, _), (47, _), (48, _), (73, _), (74, _), (75, _)]) au9 (QM.then (wpM.seq (wpM.region ?_))))
   refine LM.mv rfl (LM.mv rfl ?_)
   refine LM.callE (oc_call (enters_fn Try.func14 (by kernel_rfl) rfl) rfl) (fun w hm hc hg => rqV_spec (k2 : Int) w h67 (hm.pick m67)) ?_
   refine LM.mv rfl ?_
   refine LM.val (ov_extract rfl rfl) ?_
   refine LM.val (ov_extract rfl rfl) ?_
   refine LM.as rfl (LM.as rfl ?_)
   refine LM.nil (QM.sub (e' := [(1, _), (7, _), (10, _), (14, _), (15, _), (16, _), (17, _), (18, _), (47, _), (48, _), (73, _), (74, _), (75, _)]) au9 (QM.then (wpM.seq (wpM.region ?_))))
   refine LM.as rfl ?_
   refine LM.nil (QM.sub (e' := [(1, _), (7, _), (10, _), (14, _), (15, _), (16, _), (17, _), (18, _), (19, _), (47, _), (48, _), (73, _), (74, _), (75, _)]) au9 (QM.then ?_))
   refine wpM.seq ?_
   refine wpM.seq (wpM.region ?_)
   refine LM.mv rfl (LM.mv rfl ?_)
   refine LM.val (ov_eql rfl rfl) ?_
   refine LM.nil (QM.sub (e' := [(1, _), (7, _), (10, _), (14, _), (15, _), (16, _), (17, _), (18, _), (19, _), (47, _), (48, _), (73, _), (74, _), (75, _), (88, _)]) au9 (QM.then ?_))
   refine wpM.joinK (α := BitVec 64) (fun p => [(19, U p)]) [(1, _), (7, _), (10, _), (14, _), (15, _), (17, _), (18, _), (47, _), (48, _), (73, _), (74, _), (75, _)] (fun p => m67 ++ (mo ++ [])) (fun p => (if (k2 : Int) = goO y then coreO (ws.getD k2 0) else 0#64) = p) ⟨rfl, rfl, rfl, rfl, rfl, rfl, rfl, rfl, rfl, rfl, rfl, rfl, trivial⟩ ?_ ?_
   ·
    refine wpM.condD rfl (fun h9 => ?_) (fun h9 => ?_)
    ·
     refine wpM.region ?_
     refine LM.mv rfl ?_
     refine LM.val (ov_to64 Try.underlying5 Try.underlying3 rfl (by omega)) ?_
     refine LM.callE (oc_call (enters_fn Try.func16 (by kernel_rfl) rfl) rfl) (fun w hm hc hg => ucore_spec (ws.getD k2 0) w) ?_
     refine LM.as rfl ?_
     refine LM.nil (QM.sub (e' := [(1, _), (7, _), (10, _), (14, _), (15, _), (17, _), (18, _), (19, _), (47, _), (48, _), (73, _), (74, _), (75, _)]) au9 ?_)
     refine QM.meetK (coreO (ws.getD k2 0)) ⟨au2, rfl, rfl, rfl, rfl, rfl, rfl, rfl, rfl, rfl, rfl, rfl, rfl, trivial⟩ au1 ?_
     · exact if_pos h9
    refine wpM.skip ?_
    refine QM.meetK (0#64) ⟨au2, rfl, rfl, rfl, rfl, rfl, rfl, rfl, rfl, rfl, rfl, rfl, rfl, trivial⟩ au1 ?_
    · exact if_neg h9
   rintro p hp
   change QM _ _ _ _ _ (m67 ++ (mo ++ [])) _ _ _
   refine QM.then (wpM.seq (wpM.region ?_))
   refine LM.mv rfl ?_
   refine LM.val (ov_notD rfl) ?_
   refine LM.mv rfl ?_
   refine LM.splitD (t := 94) rfl (fun h10 => ?_) (fun h10 => ?_)
   ·
    exact absurd ((tk_go hwfy hty).ix (by omega)) h10
   refine LM.sp 94 rfl rfl rfl (LM.mv rfl (LM.sp 94 rfl rfl rfl (LM.mv rfl (LM.sp 94 rfl rfl rfl (LM.mv rfl ?_)))))
   refine LM.sp 94 rfl rfl rfl ?_
   refine LM.val (ov_idxSN au6 Try.underlying31 Try.sizeOf26 rfl rfl (by omega)) ?_
   refine LM.sp 94 rfl rfl rfl ?_
   refine LM.rd (om_sl1 (by assumption) (by intro _; rfl) Try.isAgg26 rfl rfl (by exact getq 0#64 au4) (by rfl)) ?_
   refine LM.sp 94 rfl rfl rfl (LM.mv rfl (LM.sp 94 rfl rfl rfl ?_))
   refine LM.val (ov_uadd rfl rfl) ?_
   refine LM.sp 94 rfl rfl rfl ?_
   refine LM.val (ov_uneq rfl rfl) ?_
   refine LM.val (ov_pickF rfl rfl) ?_
   refine LM.nil (QM.sub (e' := [(1, _), (7, _), (10, _), (14, _), (47, _), (48, _), (73, _), (74, _), (75, _), (103, _)]) au9 (QM.then ?_))
   refine wpM.condD rfl (fun h11 => ?_) (fun h11 => ?_)
   ·
    exact absurd (by rw [wasL_get (by omega), ← hp]; exact tk_pay hwfy hty hvy (by omega) (by omega)) h11
   refine wpM.skip ?_
   refine QM.block_normal ?_
   refine QM.then (wpM.region ?_)
   refine LM.val (ov_add64 rfl rfl (by omega)) ?_
   refine LM.mv rfl ?_
   refine LM.nil (QM.sub (e' := [(1, _), (7, _), (10, _), (14, _), (47, _), (48, _), (73, _), (74, _), (75, _)]) au9 ?_)
   refine QM.againK (k2 + 1) ⟨au2, rfl, rfl, rfl, rfl, rfl, rfl, rfl, rfl, trivial⟩ au1 (fun _ h => h) ?_ ?_
   · omega
   · omega
  refine wpM.exit ?_
  refine QM.then_exit ?_
  refine QM.then_exit ?_
  refine QM.block_hit ?_
  refine QM.then (wpM.seq (wpM.region ?_))
  refine LM.mv rfl ?_
  refine LM.val (ov_lss rfl rfl) ?_
  refine LM.mv rfl ?_
  refine LM.splitD (t := 107) rfl (fun h12 => ?_) (fun h12 => ?_)
  ·
   omega
  refine LM.sp 107 rfl rfl rfl (LM.mv rfl (LM.sp 107 rfl rfl rfl (LM.mv rfl (LM.sp 107 rfl rfl rfl ?_))))
  refine LM.val (ov_len Try.underlying22 rfl) ?_
  refine LM.sp 107 rfl rfl rfl ?_
  refine LM.val (ov_geq rfl rfl) ?_
  refine LM.val (ov_pickF rfl rfl) ?_
  refine LM.nil (QM.sub (e' := [(1, _), (7, _), (47, _), (48, _), (112, _)]) au9 (QM.then ?_))
  refine wpM.condD rfl (fun h13 => ?_) (fun h13 => ?_)
  ·
   omega
  refine wpM.skip ?_
  refine QM.block_normal ?_
  refine QM.then (wpM.region ?_)
  refine LM.val (ov_add rfl rfl) ?_
  refine LM.mv rfl ?_
  refine LM.nil (QM.sub (e' := [(1, _), (7, _), (47, _), (48, _)]) au9 ?_)
  refine QM.againK (j + 1, goQ y, m67) ⟨(by first | rfl | exact lk rfl (congrArg (Value.int .u8) (by rw [wrap_u8 _ (by omega)]; omega))), rfl, rfl, rfl, trivial⟩ au1 (fun _ h => h) ?_ ?_
  · exact ⟨by omega, h67, tk_go hwfy hty, by rw [Nat.succ_mul, ← Nat.add_assoc]; exact vb_go hwfy hvy, by have := go_ran hwfy; omega⟩
  · first | omega | (dsimp only; omega)
 refine wpM.exit ?_
 refine QM.then_exit ?_
 refine QM.then_exit ?_
 refine QM.block_hit ?_
 refine QM.then (wpM.seq (wpM.region ?_))
 refine LM.as rfl ?_
 refine LM.nil (QM.sub (e' := [(6, _)]) ⟨rfl, trivial⟩ (QM.then ?_))
 refine wpM.ret ?_
 refine QM.leave (.inl rfl) [.tmp 6] Try.results3 rfl ?_
 intro w' hm' hc' hg'
 exact ⟨rfl, hc'⟩
end Go.Eng
