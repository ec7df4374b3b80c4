/- The walks of run queues: what is done to one. No condition. -/
import Derived.Test.YtmkblojlimhkiaaM3
import Derived.Test.YtmkblojlimhkiaaM2
import Derived.Shelf.Spec.BitsCarry
set_option linter.unusedVariables false
set_option linter.unusedSimpArgs false
namespace Go.Eng
open Go Go.Proofs Go.RowKit
def addV (x : Qm) (a : Int) (v : BitVec 64) (w : Int) : BitVec 64 := if addE x a = 0 then plcO x v (bringO w 1 4096) else 0#64
def addX (x : Qm) (a : Int) (v : BitVec 64) (w : Int) : Qm := if addE x a = 0 then addQ x a v w else x
theorem addX_wf {x : Qm} (h : QWf x) (a : Int) (v : BitVec 64) (w : Int) : QWf (addX x a v w) := by unfold addX; split; exact add_wf h (by assumption); exact h
def remX (x : Qm) (a : Int) : Qm := if ixO x.l a < x.l.length then remQ x a else x
def weighX (x : Qm) (a w : Int) : Qm := if ixO x.l a < x.l.length then weighQ x a w else x
def RqN (g : Int) (n0 : Nat) (v : Value) (m : Mem0) : Prop := ∃ b, v = .pointer (some ⟨b, 0, none⟩) ∧ RqM n0 b (newQ g) m
theorem RqN.mono {g : Int} : ∀ (n n' : Nat) (v : Value) (m : Mem0), n' ≤ n → RqN g n v m → RqN g n' v m := fun n n' v m hn ⟨b, h1, h⟩ => ⟨b, h1, h.mono hn⟩
theorem addE_neg {x : Qm} {a : Int} (h : a < 0) : addE x a = 1 := if_pos h
theorem addE_met {x : Qm} {a : Int} (h : ¬ a < 0) (h2 : ixO x.l a < x.l.length) : addE x a = 12 := by unfold addE; rw [if_neg h, if_pos h2]
theorem addE_full {x : Qm} {a : Int} (h : ¬ a < 0) (h2 : ¬ ixO x.l a < x.l.length) (h3 : 16 ≤ x.l.length) : addE x a = 3 := by unfold addE; rw [if_neg h, if_neg h2, if_pos h3]
theorem addE_ok {x : Qm} {a : Int} (h : ¬ a < 0) (h2 : ¬ ixO x.l a < x.l.length) (h3 : ¬ 16 ≤ x.l.length) : addE x a = 0 := by unfold addE; rw [if_neg h, if_neg h2, if_neg h3]
theorem addV_no {x : Qm} {a : Int} {v : BitVec 64} {w : Int} (h : addE x a ≠ 0) : addV x a v w = 0#64 := if_neg h
theorem addX_no {x : Qm} {a : Int} {v : BitVec 64} {w : Int} (h : addE x a ≠ 0) : addX x a v w = x := if_neg h
theorem gQ_new {l : List Kv} {a : Int} (h : ¬ ixO l a < l.length) (v : BitVec 64) (w : Int) : gQ (l ++ [⟨v, a, w⟩]) a = ⟨v, a, w⟩ := by
  unfold gQ
  have e : ixO (l ++ [⟨v, a, w⟩]) a = l.length := by rw [ixO_app h, ixO_cons, if_pos rfl]; rfl
  rw [e, List.getD_eq_getElem?_getD, List.getElem?_append_right (Nat.le_refl _)]; simp
theorem load_new (l : List Kv) (v : BitVec 64) (a w : Int) : loadO l + w = loadO (l ++ [⟨v, a, w⟩]) := by rw [load_app]; simp [loadO]
theorem RbN.mn {most : Nat} : ∀ (k k' : Nat) (u : Value) (m : Mem0), k' ≤ k → RbN most k u m → RbN most k' u m := fun k k' u m hn h => h.mono hn
theorem rdy_id {x : Qm} (h : QWf x) {y : Kv} (hy : y ∈ rdyO x) : y ∈ x.l ∧ y.id ≠ x.cur := (rdy_mem h.nd y).1 hy
theorem rqm_leaf {n0 b bm bt cl cl' : Nat} {x' : Qm} {g cur ran ld : Int} {fl : BitVec 64} {es es' : Array MapEntry} {mt mt' M : Mem0} {u0 : Value} {w w' : World} (hq : QWf x') (he : Ens .i64 es'.toList (entQ x'.l)) (ht : RbT n0 bt 16 (rdyO x') mt') (hb : n0 ≤ b) (hbm : n0 ≤ bm) (hm : Mem w' M)
    (hs : SubM M (rqC b x'.g x'.fl bm bt x'.cur x'.ran (loadO x'.l) :: (bm, .map es' cl') :: (mt' ++ []))) (hc : Chg (inM (rqC b g fl bm bt cur ran ld :: (bm, .map es cl) :: mt)) w w') (hin : inn mt w.heap.size mt') :
    Upd (rqC b g fl bm bt cur ran ld :: (bm, .map es cl) :: mt) (fun u m' => u = u0 ∧ RqM n0 b x' m') w u0 w' :=
  rq_leaf (p0 := rqC b x'.g x'.fl bm bt x'.cur x'.ran (loadO x'.l)) (p1 := (bm, .map es' cl')) (mt' := mt') ⟨rfl, hq, bm, bt, es', cl', mt', rfl, he, ht, hb, hbm⟩ hm hs hc rfl rfl hin
set_option maxRecDepth 100000 in
theorem rqnew_spec (g : Int) (w : World) : Ret Try.prog 12 #[.int .i64 g] w (fun v w' => Ext w w' ∧ ∃ m, RqN g w.heap.size v m ∧ Mem w' m ∧ ∀ p ∈ m, w.heap.size ≤ p.1) := by
 refine Ret.enterM (l := [.int .i64 g]) Try.func12 rfl Try.ntmps12 rfl ([]) (no) (Mem.nil w) ?_
 refine wpM.seq (wpM.region ?_)
 refine LM.as rfl ?_
 refine LM.nil (QM.sub (e' := [(0, _)]) ⟨rfl, trivial⟩ (QM.then (wpM.seq (wpM.region ?_))))
 refine LM.mv rfl ?_
 refine LM.val (ov_max rfl rfl) ?_
 rw [show (if 1 > g then 1 else g) = (if (1 : Int) > g then 1 else g) from rfl]
 refine LM.val (ov_min rfl rfl) ?_
 rw [bring_eq (by decide)]
 refine LM.makeMap rfl (fun b6 hb6 => ?_)
 refine LM.callT (oc_call (enters_fn Try.func62 (by kernel_rfl) rfl) rfl) RbN.mn (fun w hm hc hg => rbnew_spec w) ?_
 rintro u7 m7 ⟨bt, rfl, ht⟩ hge7
 refine LM.val (ov_build (cs := #[_, _, _, _, _, _, _]) rfl (by first | rfl | kernel_rfl)) ?_
 refine LM.box rfl rfl (fun b9 hb9 => ?_)
 refine LM.as rfl ?_
 refine LM.nil (QM.sub (e' := [(2, _)]) ⟨rfl, trivial⟩ (QM.then ?_))
 refine wpM.ret ?_
 refine QM.leave (.inl rfl) [.tmp 2] Try.results12 rfl ?_
 intro w' hm' hc' hg'
 have hwf := new_wf g; exact ⟨hc', _, ⟨b9, rfl, hwf, b6, bt, #[], 0, m7, rfl, rfl, ht, hb9, hb6⟩, (SubM.mem (by (repeat' (first | (rw [List.append_nil]; exact SubM.all _) | exact SubM.all _ | refine SubM.cons rfl ?_ | exact SubM.nil _)))) w' hm', fun p hp => by simp only [List.mem_cons] at hp; rcases hp with rfl | rfl | hp; exact hb9; exact hb6; exact hge7 p hp⟩
set_option maxRecDepth 100000 in
theorem rqAdd_spec {n0 b : Nat} {x : Qm} {m : Mem0} (a : Int) (v : BitVec 64) (wt : Int) (w : World) (h : RqM n0 b x m) (hn0 : n0 ≤ w.heap.size) (hM : Mem w m) : Ret Try.prog 13 #[.pointer (some ⟨b, 0, none⟩), .int .i64 a, U v, .int .i64 wt] w (Upd m (fun u m' => u = .tuple #[U (addV x a v wt), .int .i64 (addE x a)] ∧ RqM n0 b (addX x a v wt) m') w) := by
 obtain ⟨hq, bm, bt, es, cl, mt, rfl, he, ht, hb, hbm⟩ := h; have hll := hq.load; have hlen := hq.len; have hbr := bring_in (n := wt) (lo := 1) (hi := 4096) (by decide)
 refine Ret.enterM (l := [.pointer (some ⟨b, 0, none⟩), .int .i64 a, U v, .int .i64 wt]) Try.func13 rfl Try.ntmps13 rfl (rqC b x.g x.fl bm bt x.cur x.ran (loadO x.l) :: (bm, .map es cl) :: (mt ++ [])) ((inM (rqC b x.g x.fl bm bt x.cur x.ran (loadO x.l) :: (bm, .map es cl) :: mt))) (by rw [List.append_nil]; exact hM) ?_
 refine wpM.seq (wpM.region ?_)
 refine LM.as rfl (LM.as rfl ?_)
 refine LM.nil (QM.sub (e' := [(0, _), (1, _), (2, _), (3, _)]) au9 (QM.then ?_))
 refine wpM.seq ?_
 refine wpM.seq (wpM.region ?_)
 refine LM.mv rfl ?_
 refine LM.val (ov_peql (by kernel_rfl) rfl rfl) ?_
 refine LM.mv rfl (LM.sp 14 rfl rfl rfl (LM.mv rfl (LM.sp 14 rfl rfl rfl ?_)))
 refine LM.val (ov_lss rfl rfl) ?_
 refine LM.val (ov_pickF rfl rfl) ?_
 refine LM.nil (QM.sub (e' := [(0, _), (1, _), (2, _), (3, _), (17, _)]) au9 (QM.then ?_))
 refine wpM.condD rfl (fun h1 => ?_) (fun h1 => ?_)
 ·
  refine wpM.seq (wpM.region ?_)
  refine LM.as rfl (LM.as rfl ?_)
  refine LM.nil (QM.sub (e' := [(8, _), (9, _)]) au9 (QM.then ?_))
  refine wpM.ret ?_
  refine QM.then_ret ?_
  refine QM.leave (.inl rfl) [.tmp 8, .tmp 9] Try.results13 rfl ?_
  intro w' hm' hc' hg'
  have hE := addE_neg (x := x) h1; exact rq_same ⟨by rw [addV_no (by rw [hE]; decide), hE]; rfl, by rw [addX_no (by rw [hE]; decide)]; exact ⟨hq, bm, bt, es, cl, mt, rfl, he, ht, hb, hbm⟩⟩ hm' au1 hc'
 refine wpM.skip ?_
 refine QM.then ?_
 refine wpM.seq ?_
 refine wpM.seq (wpM.region ?_)
 refine LM.mv rfl ?_
 refine LM.val (ov_nilCheck rfl) ?_
 refine LM.val (ov_field Try.underlying93 rfl Try.sizeOf89 rfl (k := 2) rfl rfl) ?_
 refine LM.rd (om_ld Try.isAgg89 rfl rfl) ?_
 refine LM.mv rfl ?_
 refine LM.rd (om_lkOk Try.underlying89 Try.underlying3 Try.zeroValue95 rfl rfl (by assumption) (ent_get _ _) (ent_has _ _)) ?_
 refine LM.mv rfl ?_
 refine LM.val (ov_extract rfl rfl) ?_
 refine LM.val (ov_extract rfl rfl) ?_
 refine LM.alloc Try.zeroValue95 rfl (fun b10 hb10 => ?_)
 refine LM.stW Try.sizeOf95 rfl rfl rfl rfl au7 (fun hlt => by first | exact inM_0 | exact inM_1 | exact absurd hlt (by omega)) ?_
 refine LM.as rfl ?_
 refine LM.nil (QM.sub (e' := [(0, _), (1, _), (2, _), (3, _), (11, _)]) au9 (QM.then (wpM.seq (wpM.region ?_))))
 refine LM.mv rfl ?_
 refine LM.nil (QM.sub (e' := [(0, _), (1, _), (2, _), (3, _), (27, _)]) au9 (QM.then ?_))
 refine wpM.condD rfl (fun h2 => ?_) (fun h2 => ?_)
 ·
  refine wpM.seq (wpM.region ?_)
  refine LM.as rfl (LM.as rfl ?_)
  refine LM.nil (QM.sub (e' := [(8, _), (9, _)]) au9 (QM.then ?_))
  refine wpM.ret ?_
  refine QM.then_ret ?_
  refine QM.leave (.inl rfl) [.tmp 8, .tmp 9] Try.results13 rfl ?_
  intro w' hm' hc' hg'
  have hE := addE_met (x := x) h1 h2; exact rq_same ⟨by rw [addV_no (by rw [hE]; decide), hE]; rfl, by rw [addX_no (by rw [hE]; decide)]; exact ⟨hq, bm, bt, es, cl, mt, rfl, he, ht, hb, hbm⟩⟩ hm' au1 hc'
 refine wpM.skip ?_
 refine QM.then ?_
 refine wpM.seq ?_
 refine wpM.seq (wpM.region ?_)
 refine LM.mv rfl ?_
 refine LM.val (ov_nilCheck rfl) ?_
 refine LM.val (ov_field Try.underlying93 rfl Try.sizeOf89 rfl (k := 2) rfl rfl) ?_
 refine LM.rd (om_ld Try.isAgg89 rfl rfl) ?_
 refine LM.rd (om_mlen Try.underlying89 rfl (by assumption) rfl) ?_
 refine LM.val (ov_geq rfl rfl) ?_
 refine LM.nil (QM.sub (e' := [(0, _), (1, _), (2, _), (3, _), (33, _)]) au9 (QM.then ?_))
 refine wpM.condD rfl (fun h3 => ?_) (fun h3 => ?_)
 ·
  rw [entQ_len] at h3
  refine wpM.seq (wpM.region ?_)
  refine LM.as rfl (LM.as rfl ?_)
  refine LM.nil (QM.sub (e' := [(8, _), (9, _)]) au9 (QM.then ?_))
  refine wpM.ret ?_
  refine QM.then_ret ?_
  refine QM.leave (.inl rfl) [.tmp 8, .tmp 9] Try.results13 rfl ?_
  intro w' hm' hc' hg'
  have hE := addE_full (x := x) h1 h2 (by omega); exact rq_same ⟨by rw [addV_no (by rw [hE]; decide), hE]; rfl, by rw [addX_no (by rw [hE]; decide)]; exact ⟨hq, bm, bt, es, cl, mt, rfl, he, ht, hb, hbm⟩⟩ hm' au1 hc'
 rw [entQ_len] at h3; have hE := addE_ok h1 h2 (by omega); have hwf := add_wf (v := v) (w := wt) hq hE; have hrd := add_rdy (v := v) (w := wt) hq hE; have hld : loadO x.l + bringO wt 1 4096 = loadO (addQ x a v wt).l := load_new x.l (plcO x v (bringO wt 1 4096)) a (bringO wt 1 4096)
 refine wpM.skip ?_
 refine QM.then (wpM.seq (wpM.region ?_))
 refine LM.mv rfl ?_
 refine LM.val (ov_max rfl rfl) ?_
 refine LM.val (ov_min rfl rfl) ?_
 refine LM.as rfl ?_
 refine LM.nil (QM.sub (e' := [(0, _), (1, _), (2, _), (3, _)]) au9 (QM.then (wpM.seq (wpM.region ?_))))
 rw [bring_eq (by decide)]
 refine LM.mv rfl (LM.mv rfl (LM.mv rfl ?_))
 refine LM.callE (oc_call (enters_fn Try.func63 (by kernel_rfl) rfl) rfl) (fun w hm hc hg => place_spec v (bringO wt 1 4096) w (hm.pick (rqC b x.g x.fl bm bt x.cur x.ran (loadO x.l) :: []))) ?_
 refine LM.as rfl ?_
 refine LM.nil (QM.sub (e' := [(0, _), (1, _), (2, _), (3, _)]) au9 (QM.then (wpM.seq (wpM.region ?_))))
 refine LM.mv rfl ?_
 refine LM.val (ov_nilCheck rfl) ?_
 refine LM.val (ov_field Try.underlying93 rfl Try.sizeOf89 rfl (k := 2) rfl rfl) ?_
 refine LM.rd (om_ld Try.isAgg89 rfl rfl) ?_
 refine LM.mv rfl (LM.mv rfl (LM.mv rfl ?_))
 refine LM.val (ov_build (cs := #[U (plcO x v (bringO wt 1 4096)), .int .i64 (bringO wt 1 4096)]) rfl (by first | rfl | kernel_rfl)) ?_
 refine LM.mU Try.underlying89 Try.underlying3 rfl rfl rfl (by assumption) (fun hlt => by first | exact inM_0 | exact inM_1 | exact absurd hlt (by omega)) (fun esu1 clu1 hesu1 => ?_)
 refine LM.nil (QM.sub (e' := [(0, _), (1, _), (2, _), (3, _)]) au9 (QM.then (wpM.seq (wpM.region ?_))))
 rw [ent_new h2] at hesu1
 refine LM.mv rfl ?_
 refine LM.val (ov_nilCheck rfl) ?_
 refine LM.val (ov_field Try.underlying93 rfl Try.sizeOf3 rfl (k := 6) rfl rfl) ?_
 refine LM.rd (om_ld Try.isAgg3 rfl rfl) ?_
 refine LM.mv rfl ?_
 refine LM.val (ov_add64 rfl rfl (by omega)) ?_
 refine LM.val (ov_nilCheck rfl) ?_
 refine LM.val (ov_field Try.underlying93 rfl Try.sizeOf3 rfl (k := 6) rfl rfl) ?_
 refine LM.st Try.sizeOf3 rfl rfl rfl au5 rfl (fun hlt => by first | exact inM_0 | exact inM_1 | exact absurd hlt (by omega)) ?_
 refine LM.mem (SubM.mem (M' := rqC b x.g x.fl bm bt x.cur x.ran (loadO x.l + bringO wt 1 4096) :: (bm, .map esu1 clu1) :: (mt ++ [])) au1) ?_
 refine LM.nil (QM.sub (e' := [(0, _), (1, _), (2, _), (3, _)]) au9 (QM.then ?_))
 refine wpM.seq ?_
 refine wpM.draw [(0, 0), (1, 0), (2, 0), (3, 1), (4, 0), (5, 0), (7, 0), (6, 2), (8, 3)] (by kernel_rfl) (by kernel_rfl) ?_
 refine LD.val rfl rfl (ov_move rfl) ?_
 refine LD.val rfl rfl (ov_nilCheck rfl) ?_
 refine LD.val rfl rfl (ov_field Try.underlying93 rfl Try.sizeOf90 rfl (k := 3) rfl rfl) ?_
 refine LD.rd rfl rfl (om_ld Try.isAgg90 rfl rfl) ?_
 refine LD.val rfl rfl (ov_move rfl) ?_
 refine LD.val rfl rfl (ov_move rfl) ?_
 refine LD.val rfl rfl (ov_move rfl) ?_
 refine LD.callE rfl rfl (oc_call (enters_fn Try.func65 (by kernel_rfl) rfl) rfl) (fun w hm hc hg => (show Ret _ _ _ _ (fun u w' => u = .agg #[U (plcO x v (bringO wt 1 4096)), .int .i64 a] ∧ Ext _ w') from by have hk := key_spec a w hesu1 (hm.pick (rqC b x.g x.fl bm bt x.cur x.ran (loadO x.l + bringO wt 1 4096) :: (bm, .map esu1 clu1) :: [])); rw [gQ_new h2] at hk; exact hk)) ?_
 refine LD.tail rfl rfl ?_
 refine LM.cU (oc_call (enters_fn Try.func64 (by kernel_rfl) rfl) rfl) (fun w hm hc hg => ins_spec ⟨plcO x v (bringO wt 1 4096), a, bringO wt 1 4096⟩ w (fun y hy e => h2 (ixO_lt.2 ⟨y, (rdy_id hq hy).1, e.2⟩)) (Nat.lt_of_le_of_lt (rdy_len hq.nd) (by omega)) (by decide) ht (Nat.le_trans hn0 hc.size) (hm.pick mt)) ht.wlk (fun p hp _ => inM_2 p hp) ?_
 rintro u65 mt1 ⟨rfl, ht1⟩ hin1; rw [hrd] at ht1
 refine LM.nil ?_
 refine QM.qn ?_
 refine QM.sub (e' := [(2, _)]) ⟨rfl, trivial⟩ (QM.then (wpM.seq (wpM.region ?_)))
 refine LM.mv rfl (LM.as rfl (LM.as rfl ?_))
 refine LM.nil (QM.sub (e' := [(8, _), (9, _)]) au9 (QM.then ?_))
 refine wpM.ret ?_
 refine QM.leave (.inl rfl) [.tmp 8, .tmp 9] Try.results13 rfl ?_
 intro w' hm' hc' hg'
 rw [show addV x a v wt = plcO x v (bringO wt 1 4096) from if_pos hE, hE, show addX x a v wt = addQ x a v wt from if_pos hE]; exact rqm_leaf (x' := addQ x a v wt) hwf hesu1 ht1 hb hbm hm' (by (repeat' (first | exact SubM.nil _ | refine SubM.cons (by first | rfl | (rw [← hld]; rfl)) ?_ | refine SubM.app ?_))) hc' hin1
end Go.Eng
namespace Go.Eng
open Go Go.Proofs Go.RowKit
theorem remQ_l (x : Qm) (a : Int) : (remQ x a).l = x.l.eraseIdx (ixO x.l a) := by unfold remQ; split <;> rfl
theorem remQ_g (x : Qm) (a : Int) : (remQ x a).g = x.g ∧ (remQ x a).fl = x.fl := by unfold remQ; split <;> exact ⟨rfl, rfl⟩
theorem delK_lt {L : List Kv} {k e : Kv} (he : e ∈ L) (hk : yEq k e) : (delK L k).length < L.length := by
  unfold delK
  refine Nat.lt_of_le_of_ne (List.length_filter_le ..) (fun q => ?_)
  have := List.length_filter_eq_length_iff.1 q e he
  rw [decide_eq_true_eq] at this
  exact this hk
theorem rdy_lt {x : Qm} (h : QWf x) (hc : 0 ≤ x.cur) : (rdyO x).length < x.l.length := by
  have h1 : rdyO x = rdyO { x with l := x.l.filter (fun t => decide (t.id ≠ x.cur)) } := by
    unfold rdyO; simp only [List.filter_filter, Bool.and_self]
  rw [h1]
  refine Nat.lt_of_le_of_lt (rdy_len (nodup_filt h.nd)) ?_
  refine Nat.lt_of_le_of_ne (List.length_filter_le ..) (fun q => ?_)
  obtain ⟨h2, h3⟩ := ixO_hit (h.ix hc)
  have := List.length_filter_eq_length_iff.1 q _ h3
  rw [decide_eq_true_eq] at this
  exact this h2
theorem gQ_eta {l : List Kv} {a : Int} (h : ixO l a < l.length) : (⟨(gQ l a).V, a, (gQ l a).x⟩ : Kv) = gQ l a := by
  have := (ixO_hit h).1
  change (gQ l a).id = a at this
  generalize gQ l a = y at this ⊢
  subst this; rfl
theorem tickL_eq {l : List Kv} {a : Int} (h : ixO l a < l.length) : tickL l a = l.set (ixO l a) ⟨addO (gQ l a).V (coreO (gQ l a).x), a, (gQ l a).x⟩ := by
  unfold tickL
  congr 1
  have := (ixO_hit h).1
  show (⟨_, (gQ l a).id, _⟩ : Kv) = _
  rw [show (gQ l a).id = a from this]
theorem load_same {l : List Kv} {i : Nat} (h : i < l.length) {y : Kv} (hy : y.x = (l.getD i default).x) : loadO l = loadO (l.set i y) := by rw [load_set h, hy]; omega
theorem rdy_of {x : Qm} (h : QWf x) {a : Int} (ha : ixO x.l a < x.l.length) (hc : ¬ x.cur = a) : gQ x.l a ∈ rdyO x := (rdy_mem h.nd _).2 ⟨(ixO_hit ha).2, fun q => hc (q.symm.trans (ixO_hit ha).1)⟩
theorem setlQ_nil {x : Qm} (h : x.l = []) : setlQ x = x := by unfold setlQ; rw [h]
theorem setlQ_pos {x : Qm} (h : x.l ≠ []) : setlQ x = { x with fl := if x.fl.toNat < (minO x.l).toNat then minO x.l else x.fl } := by
  have h2 : setlQ x = if x.fl.toNat < (minO x.l).toNat then { x with fl := minO x.l } else x := by
    unfold setlQ; split
    · exact absurd (by assumption) h
    · rfl
  rw [h2]
  by_cases q : x.fl.toNat < (minO x.l).toNat
  · rw [if_pos q, if_pos q]
  · rw [if_neg q, if_neg q]
set_option maxRecDepth 100000 in
theorem rqRem_spec {n0 b : Nat} {x : Qm} {m : Mem0} (a : Int) (w : World) (h : RqM n0 b x m) (hM : Mem w m) : Ret Try.prog 17 #[.pointer (some ⟨b, 0, none⟩), .int .i64 a] w (Upd m (fun u m' => u = .tuple #[U (gQ x.l a).V, .bool (decide (ixO x.l a < x.l.length))] ∧ RqM n0 b (remX x a) m') w) := by
 obtain ⟨hq, bm, bt, es, cl, mt, rfl, he, ht, hb, hbm⟩ := h; have h0 : RqM n0 b x (rqC b x.g x.fl bm bt x.cur x.ran (loadO x.l) :: (bm, .map es cl) :: mt) := ⟨hq, bm, bt, es, cl, mt, rfl, he, ht, hb, hbm⟩; have hll := hq.load; have hlen := hq.len
 refine Ret.enterM (l := [.pointer (some ⟨b, 0, none⟩), .int .i64 a]) Try.func17 rfl Try.ntmps17 rfl (rqC b x.g x.fl bm bt x.cur x.ran (loadO x.l) :: (bm, .map es cl) :: (mt ++ [])) ((inM (rqC b x.g x.fl bm bt x.cur x.ran (loadO x.l) :: (bm, .map es cl) :: mt))) (by rw [List.append_nil]; exact hM) ?_
 refine wpM.seq (wpM.region ?_)
 refine LM.as rfl (LM.as rfl ?_)
 refine LM.nil (QM.sub (e' := [(0, _), (1, _)]) au9 (QM.then (wpM.seq (wpM.region ?_))))
 refine LM.mv rfl (LM.mv rfl ?_)
 refine LM.callE (oc_call (enters_fn Try.func14 (by kernel_rfl) rfl) rfl) (fun w hm hc hg => rqV_spec a w h0 (hm.pick (rqC b x.g x.fl bm bt x.cur x.ran (loadO x.l) :: (bm, .map es cl) :: mt))) ?_
 refine LM.mv rfl ?_
 refine LM.val (ov_extract rfl rfl) ?_
 refine LM.val (ov_extract rfl rfl) ?_
 refine LM.as rfl (LM.as rfl ?_)
 refine LM.nil (QM.sub (e' := [(0, _), (1, _), (6, _), (7, _)]) au9 (QM.then ?_))
 refine wpM.seq ?_
 refine wpM.seq (wpM.region ?_)
 refine LM.mv rfl ?_
 refine LM.val (ov_notD rfl) ?_
 refine LM.nil (QM.sub (e' := [(0, _), (1, _), (6, _), (15, _)]) au9 (QM.then ?_))
 refine wpM.condD rfl (fun h1 => ?_) (fun h1 => ?_)
 ·
  refine wpM.seq (wpM.region ?_)
  refine LM.as rfl (LM.as rfl ?_)
  refine LM.nil (QM.sub (e' := [(4, _), (5, _)]) au9 (QM.then ?_))
  refine wpM.ret ?_
  refine QM.then_ret ?_
  refine QM.leave (.inl rfl) [.tmp 4, .tmp 5] Try.results17 rfl ?_
  intro w' hm' hc' hg'
  rw [show remX x a = x from if_neg h1, show (gQ x.l a).V = 0#64 by rw [gQ_none h1]; rfl, decide_eq_false h1]; exact rqm_leaf (x' := x) hq he ht hb hbm hm' au1 hc' (inn_refl _ _)
 replace h1 := Classical.not_not.1 h1; have hwf := rem_wf hq h1; have hit := ixO_hit h1; have hwt : 1 ≤ (gQ x.l a).x ∧ (gQ x.l a).x ≤ 4096 := hq.wt _ hit.2
 refine wpM.skip ?_
 refine QM.then ?_
 refine wpM.seq ?_
 refine wpM.seq (wpM.region ?_)
 refine LM.mv rfl ?_
 refine LM.val (ov_nilCheck rfl) ?_
 refine LM.val (ov_field Try.underlying93 rfl Try.sizeOf3 rfl (k := 4) rfl rfl) ?_
 refine LM.rd (om_ld Try.isAgg3 rfl rfl) ?_
 refine LM.mv rfl ?_
 refine LM.val (ov_eql rfl rfl) ?_
 refine LM.nil (QM.sub (e' := [(0, _), (1, _), (6, _), (21, _)]) au9 (QM.then ?_))
 refine wpM.joinK (α := Int × Int × Mem0) (fun ⟨c1, r1, mt1⟩ => []) [(0, _), (1, _), (6, _)] (fun ⟨c1, r1, mt1⟩ => rqC b x.g x.fl bm bt c1 r1 (loadO x.l) :: (bm, .map es cl) :: (mt1 ++ [])) (fun ⟨c1, r1, mt1⟩ => (remQ x a).cur = c1 ∧ (remQ x a).ran = r1 ∧ RbT n0 bt 16 (rdyO (remQ x a)) mt1 ∧ inn mt w.heap.size mt1) ⟨rfl, rfl, rfl, trivial⟩ ?_ ?_
 ·
  refine wpM.condD rfl (fun h2 => ?_) (fun h2 => ?_)
  ·
   refine wpM.region ?_
   refine LM.mv rfl (LM.mv rfl ?_)
   refine LM.val (ov_nilCheck rfl) ?_
   refine LM.val (ov_field Try.underlying93 rfl Try.sizeOf3 rfl (k := 4) rfl rfl) ?_
   refine LM.st Try.sizeOf3 rfl rfl rfl au5 rfl (fun hlt => by first | exact inM_0 | exact inM_1 | exact absurd hlt (by omega)) ?_
   refine LM.val (ov_nilCheck rfl) ?_
   refine LM.val (ov_field Try.underlying93 rfl Try.sizeOf3 rfl (k := 5) rfl rfl) ?_
   refine LM.st Try.sizeOf3 rfl rfl rfl au5 rfl (fun hlt => by first | exact inM_0 | exact inM_1 | exact absurd hlt (by omega)) ?_
   refine LM.mem (SubM.mem (M' := rqC b x.g x.fl bm bt (-1) 0 (loadO x.l) :: (bm, .map es cl) :: (mt ++ [])) au1) ?_
   refine LM.nil (QM.sub (e' := [(0, _), (1, _), (6, _)]) au9 ?_)
   refine QM.meetK (-1, 0, mt) ⟨rfl, rfl, rfl, trivial⟩ au1 ?_
   · exact ⟨by unfold remQ; rw [if_pos h2], by unfold remQ; rw [if_pos h2], by rw [← rem_rdyC hq h1 h2]; exact ht, inn_refl _ _⟩
  refine wpM.draw [(0, 0), (1, 0), (2, 0), (3, 1), (4, 0), (5, 0), (6, 2), (7, 3)] (by kernel_rfl) (by kernel_rfl) ?_
  refine LD.val rfl rfl (ov_move rfl) ?_
  refine LD.val rfl rfl (ov_nilCheck rfl) ?_
  refine LD.val rfl rfl (ov_field Try.underlying93 rfl Try.sizeOf90 rfl (k := 3) rfl rfl) ?_
  refine LD.rd rfl rfl (om_ld Try.isAgg90 rfl rfl) ?_
  refine LD.val rfl rfl (ov_move rfl) ?_
  refine LD.val rfl rfl (ov_move rfl) ?_
  refine LD.callE rfl rfl (oc_call (enters_fn Try.func65 (by kernel_rfl) rfl) rfl) (fun w hm hc hg => key_spec a w he (hm.pick (rqC b x.g x.fl bm bt x.cur x.ran (loadO x.l) :: (bm, .map es cl) :: []))) ?_
  refine LD.tail rfl rfl ?_
  refine LM.cU (oc_call (enters_fn Try.func67 (by kernel_rfl) rfl) rfl) (fun w hm hc hg => del_spec (⟨(gQ x.l a).V, a, 0⟩ : Kv) (gQ x.l a) w (rdy_of hq h1 h2) ⟨rfl, hit.1.symm⟩ (by decide) ht (hm.pick mt)) ht.wlk (fun p hp _ => inM_2 p hp) ?_
  rintro u35 mt1 ⟨rfl, ht1⟩ hin1; rw [rem_rdy (k := ⟨(gQ x.l a).V, a, 0⟩) hq h1 h2 ⟨rfl, hit.1.symm⟩] at ht1
  refine LM.nil ?_
  refine QM.qn ?_
  refine QM.sub (e' := [(0, _), (1, _), (6, _)]) au9 ?_
  refine QM.meetK (x.cur, x.ran, mt1) ⟨rfl, rfl, rfl, trivial⟩ au1 ?_
  · exact ⟨by unfold remQ; rw [if_neg h2], by unfold remQ; rw [if_neg h2], ht1, hin1⟩
 rintro ⟨c1, r1, mt1⟩ ⟨hc1, hr1, ht1, hin1⟩
 change QM _ _ _ _ _ (rqC b x.g x.fl bm bt c1 r1 (loadO x.l) :: (bm, .map es cl) :: (mt1 ++ [])) _ _ _
 refine QM.then ?_
 refine wpM.seq ?_
 refine wpM.draw [(0, 0), (1, 0), (2, 0), (3, 1), (4, 0), (5, 0), (6, 0), (7, 1), (8, 0), (9, 1), (10, 0), (11, 0), (12, 0), (13, 0), (14, 3)] (by kernel_rfl) (by kernel_rfl) ?_
 refine LD.val rfl rfl (ov_move rfl) ?_
 refine LD.val rfl rfl (ov_nilCheck rfl) ?_
 refine LD.val rfl rfl (ov_field Try.underlying93 rfl Try.sizeOf3 rfl (k := 6) rfl rfl) ?_
 refine LD.rd rfl rfl (om_ld Try.isAgg3 rfl rfl) ?_
 refine LD.val rfl rfl (ov_move rfl) ?_
 refine LD.val rfl rfl (ov_nilCheck rfl) ?_
 refine LD.val rfl rfl (ov_field Try.underlying93 rfl Try.sizeOf89 rfl (k := 2) rfl rfl) ?_
 refine LD.rd rfl rfl (om_ld Try.isAgg89 rfl rfl) ?_
 refine LD.val rfl rfl (ov_move rfl) ?_
 refine LD.rd rfl rfl (om_lk Try.underlying89 Try.underlying3 Try.zeroValue95 rfl rfl (by assumption) (ent_get _ _)) ?_
 refine LD.val rfl rfl (ov_fieldV Try.underlying95 rfl Try.isAgg3 rfl rfl) ?_
 refine LD.val rfl rfl (ov_sub64 rfl rfl (by omega)) ?_
 refine LD.val rfl rfl (ov_nilCheck rfl) ?_
 refine LD.val rfl rfl (ov_field Try.underlying93 rfl Try.sizeOf3 rfl (k := 6) rfl rfl) ?_
 refine LD.tail rfl rfl ?_
 refine LM.st Try.sizeOf3 rfl rfl rfl au5 rfl (fun hlt => by first | exact inM_0 | exact inM_1 | exact absurd hlt (by omega)) ?_
 refine LM.mem (SubM.mem (M' := rqC b x.g x.fl bm bt c1 r1 (loadO x.l - (gQ x.l a).x) :: (bm, .map es cl) :: (mt1 ++ [])) au1) ?_
 refine LM.nil ?_
 refine QM.qn ?_
 refine QM.sub (e' := [(0, _), (1, _), (6, _)]) au9 (QM.then (wpM.seq (wpM.region ?_)))
 refine LM.mv rfl ?_
 refine LM.val (ov_nilCheck rfl) ?_
 refine LM.val (ov_field Try.underlying93 rfl Try.sizeOf89 rfl (k := 2) rfl rfl) ?_
 refine LM.rd (om_ld Try.isAgg89 rfl rfl) ?_
 refine LM.mv rfl ?_
 refine LM.mD Try.underlying89 Try.underlying3 rfl rfl (by assumption) (fun hlt => by first | exact inM_0 | exact inM_1 | exact absurd hlt (by omega)) (fun esu1 clu1 hesu1 => ?_)
 refine LM.nil (QM.sub (e' := [(6, _)]) ⟨rfl, trivial⟩ (QM.then (wpM.seq (wpM.region ?_))))
 refine LM.mv rfl (LM.as rfl (LM.as rfl ?_))
 refine LM.nil (QM.sub (e' := [(4, _), (5, _)]) au9 (QM.then ?_))
 refine wpM.ret ?_
 refine QM.leave (.inl rfl) [.tmp 4, .tmp 5] Try.results17 rfl ?_
 intro w' hm' hc' hg'
 rw [ent_del h1, ← remQ_l x a] at hesu1; have hld : loadO x.l - (gQ x.l a).x = loadO (remQ x a).l := (by rw [remQ_l, load_erase h1]); rw [show remX x a = remQ x a from if_pos h1, decide_eq_true h1]; subst hc1; subst hr1; rw [← (remQ_g x a).1, ← (remQ_g x a).2] at hm'; exact rqm_leaf (x' := remQ x a) hwf hesu1 ht1 hb hbm hm' (by (repeat' (first | exact SubM.nil _ | refine SubM.cons (by first | rfl | (rw [← hld]; done) | (rw [← hld]; rfl)) ?_ | refine SubM.app ?_))) hc' hin1
set_option maxRecDepth 100000 in
theorem pick_spec {n0 b : Nat} {x : Qm} {m : Mem0} (w : World) (h : RqM n0 b x m) (hM : Mem w m) : Ret Try.prog 26 #[.pointer (some ⟨b, 0, none⟩)] w (Upd m (fun u m' => u = .tuple #[.int .i64 (pickO x), .bool (decide (0 ≤ pickO x))] ∧ RqM n0 b (pikQ x) m') w) := by
 obtain ⟨hq, bm, bt, es, cl, mt, rfl, he, ht, hb, hbm⟩ := h; have h0 : RqM n0 b x (rqC b x.g x.fl bm bt x.cur x.ran (loadO x.l) :: (bm, .map es cl) :: mt) := ⟨hq, bm, bt, es, cl, mt, rfl, he, ht, hb, hbm⟩; have hll := hq.load; have hlen := hq.len
 refine Ret.enterM (l := [.pointer (some ⟨b, 0, none⟩)]) Try.func26 rfl Try.ntmps26 rfl (rqC b x.g x.fl bm bt x.cur x.ran (loadO x.l) :: (bm, .map es cl) :: (mt ++ [])) ((inM (rqC b x.g x.fl bm bt x.cur x.ran (loadO x.l) :: (bm, .map es cl) :: mt))) (by rw [List.append_nil]; exact hM) ?_
 refine wpM.seq (wpM.region ?_)
 refine LM.as rfl (LM.as rfl ?_)
 refine LM.nil (QM.sub (e' := [(0, _)]) ⟨rfl, trivial⟩ (QM.then ?_))
 refine wpM.seq ?_
 refine wpM.seq (wpM.region ?_)
 refine LM.mv rfl ?_
 refine LM.val (ov_peql (by kernel_rfl) rfl rfl) ?_
 refine LM.mv rfl (LM.sp 9 rfl rfl rfl (LM.mv rfl (LM.sp 9 rfl rfl rfl ?_)))
 refine LM.val (ov_nilCheck rfl) ?_
 refine LM.sp 9 rfl rfl rfl (LM.val (ov_field Try.underlying93 rfl Try.sizeOf3 rfl (k := 4) rfl rfl) (LM.sp 9 rfl rfl rfl ?_))
 refine LM.rd (om_ld Try.isAgg3 rfl rfl) ?_
 refine LM.sp 9 rfl rfl rfl ?_
 refine LM.val (ov_neq rfl rfl) ?_
 refine LM.val (ov_pickF rfl rfl) ?_
 refine LM.nil (QM.sub (e' := [(0, _), (15, _)]) au9 (QM.then ?_))
 refine wpM.condD rfl (fun h1 => ?_) (fun h1 => ?_)
 ·
  refine wpM.seq (wpM.region ?_)
  refine LM.as rfl (LM.as rfl ?_)
  refine LM.nil (QM.sub (e' := [(2, _), (3, _)]) au9 (QM.then ?_))
  refine wpM.ret ?_
  refine QM.then_ret ?_
  refine QM.leave (.inl rfl) [.tmp 2, .tmp 3] Try.results26 rfl ?_
  intro w' hm' hc' hg'
  obtain ⟨hp1, hp2⟩ := pik_none (x := x) (.inl (cur_pos hq h1)); rw [hp1, hp2]; exact rqm_leaf (x' := x) hq he ht hb hbm hm' au1 hc' (inn_refl _ _)
 replace h1 := Classical.not_not.1 h1
 refine wpM.skip ?_
 refine QM.then (wpM.seq (wpM.region ?_))
 refine LM.mv rfl ?_
 refine LM.val (ov_nilCheck rfl) ?_
 refine LM.val (ov_field Try.underlying93 rfl Try.sizeOf90 rfl (k := 3) rfl rfl) ?_
 refine LM.rd (om_ld Try.isAgg90 rfl rfl) ?_
 refine LM.callE (oc_call (enters_fn Try.func73 (by kernel_rfl) rfl) rfl) (fun w hm hc hg => first_spec w ht (hm.pick mt)) ?_
 refine LM.mv rfl ?_
 refine LM.val (ov_extract rfl rfl) ?_
 refine LM.val (ov_extract rfl rfl) ?_
 refine LM.val (ov_extract rfl rfl) ?_
 refine LM.alloc Try.zeroValue100 rfl (fun b4 hb4 => ?_)
 refine LM.stW Try.sizeOf100 rfl rfl rfl rfl au7 (fun hlt => by first | exact inM_0 | exact inM_1 | exact absurd hlt (by omega)) ?_
 refine LM.as rfl (LM.as rfl ?_)
 refine LM.nil (QM.sub (e' := [(0, _), (4, _), (6, _)]) au9 (QM.then ?_))
 refine wpM.seq ?_
 refine wpM.seq (wpM.region ?_)
 refine LM.mv rfl ?_
 refine LM.val (ov_notD rfl) ?_
 refine LM.nil (QM.sub (e' := [(0, _), (4, _), (26, _)]) au9 (QM.then ?_))
 refine wpM.condD rfl (fun h2 => ?_) (fun h2 => ?_)
 ·
  refine wpM.seq (wpM.region ?_)
  refine LM.as rfl (LM.as rfl ?_)
  refine LM.nil (QM.sub (e' := [(2, _), (3, _)]) au9 (QM.then ?_))
  refine wpM.ret ?_
  refine QM.then_ret ?_
  refine QM.leave (.inl rfl) [.tmp 2, .tmp 3] Try.results26 rfl ?_
  intro w' hm' hc' hg'
  obtain ⟨hp1, hp2⟩ := pik_none (x := x) (.inr (Classical.not_not.1 h2)); rw [hp1, hp2]; exact rqm_leaf (x' := x) hq he ht hb hbm hm' au1 hc' (inn_refl _ _)
 replace h2 := Classical.not_not.1 h2; obtain ⟨t, l, e⟩ := ne_cons h2; have het : (rdyO x).headD default = t := (by rw [e]; rfl); obtain ⟨hp1, hp2⟩ := pickO_hit hq h1 e; have htm := rdy_hd_mem hq e; have hwf := pick_wf hq htm.1; have hpos := hq.pos t htm.1
 refine wpM.skip ?_
 refine QM.then ?_
 refine wpM.seq ?_
 refine wpM.draw [(0, 0), (1, 0), (2, 0), (3, 1), (4, 1), (5, 3)] (by kernel_rfl) (by kernel_rfl) ?_
 rw [het]
 refine LD.val rfl rfl (ov_move rfl) ?_
 refine LD.val rfl rfl (ov_nilCheck rfl) ?_
 refine LD.val rfl rfl (ov_field Try.underlying93 rfl Try.sizeOf90 rfl (k := 3) rfl rfl) ?_
 refine LD.rd rfl rfl (om_ld Try.isAgg90 rfl rfl) ?_
 refine LD.rd rfl rfl (om_ldW Try.isAgg100 Try.sizeOf100 rfl rfl) ?_
 refine LD.tail rfl rfl ?_
 refine LM.cU (oc_call (enters_fn Try.func67 (by kernel_rfl) rfl) rfl) (fun w hm hc hg => del_spec t t w (by rw [e]; exact List.mem_cons_self ..) ⟨rfl, rfl⟩ (by decide) ht (hm.pick mt)) ht.wlk (fun p hp _ => inM_2 p hp) ?_
 rintro u32 mt1 ⟨rfl, ht1⟩ hin1; rw [pick_rdy hq h1 htm.1 ⟨rfl, rfl⟩] at ht1
 refine LM.nil ?_
 refine QM.qn ?_
 refine QM.sub (e' := [(0, _), (4, _)]) au9 (QM.then (wpM.seq (wpM.region ?_)))
 refine LM.mv rfl (LM.mv rfl (LM.val (ov_field Try.underlying100 rfl Try.sizeOf3 rfl (k := 1) rfl rfl) ?_))
 refine LM.rd (om_ld Try.isAgg3 rfl rfl) ?_
 refine LM.val (ov_nilCheck rfl) ?_
 refine LM.val (ov_field Try.underlying93 rfl Try.sizeOf3 rfl (k := 4) rfl rfl) ?_
 refine LM.st Try.sizeOf3 rfl rfl rfl au5 rfl (fun hlt => by first | exact inM_0 | exact inM_1 | exact absurd hlt (by omega)) ?_
 refine LM.val (ov_nilCheck rfl) ?_
 refine LM.val (ov_field Try.underlying93 rfl Try.sizeOf3 rfl (k := 5) rfl rfl) ?_
 refine LM.st Try.sizeOf3 rfl rfl rfl au5 rfl (fun hlt => by first | exact inM_0 | exact inM_1 | exact absurd hlt (by omega)) ?_
 refine LM.mem (SubM.mem (M' := rqC b x.g x.fl bm bt t.id 0 (loadO x.l) :: (bm, .map es cl) :: (b4, .cells #[U t.V, .int .i64 t.id] 100 (0, 0)) :: (mt1 ++ [])) au1) ?_
 refine LM.nil (QM.sub (e' := [(4, _)]) ⟨rfl, trivial⟩ (QM.then (wpM.seq (wpM.region ?_))))
 refine LM.val (ov_field Try.underlying100 rfl Try.sizeOf3 rfl (k := 1) rfl rfl) ?_
 refine LM.rd (om_ld Try.isAgg3 rfl rfl) ?_
 refine LM.as rfl (LM.as rfl ?_)
 refine LM.nil (QM.sub (e' := [(2, _), (3, _)]) au9 (QM.then ?_))
 refine wpM.ret ?_
 refine QM.leave (.inl rfl) [.tmp 2, .tmp 3] Try.results26 rfl ?_
 intro w' hm' hc' hg'
 rw [hp1, hp2, decide_eq_true hpos]; exact rqm_leaf (x' := pickQ x t.id) hwf he ht1 hb hbm hm' au1 hc' hin1
set_option maxRecDepth 100000 in
theorem back_spec {n0 b : Nat} {x : Qm} {m : Mem0} (w : World) (h : RqM n0 b x m) (hn0 : n0 ≤ w.heap.size) (hM : Mem w m) : Ret Try.prog 28 #[.pointer (some ⟨b, 0, none⟩)] w (Upd m (fun u m' => u = .tuple #[.int .i64 x.cur, .bool (decide (x.cur ≠ -1))] ∧ RqM n0 b (bakQ x) m') w) := by
 obtain ⟨hq, bm, bt, es, cl, mt, rfl, he, ht, hb, hbm⟩ := h; have h0 : RqM n0 b x (rqC b x.g x.fl bm bt x.cur x.ran (loadO x.l) :: (bm, .map es cl) :: mt) := ⟨hq, bm, bt, es, cl, mt, rfl, he, ht, hb, hbm⟩; have hll := hq.load; have hlen := hq.len
 refine Ret.enterM (l := [.pointer (some ⟨b, 0, none⟩)]) Try.func28 rfl Try.ntmps28 rfl (rqC b x.g x.fl bm bt x.cur x.ran (loadO x.l) :: (bm, .map es cl) :: (mt ++ [])) ((inM (rqC b x.g x.fl bm bt x.cur x.ran (loadO x.l) :: (bm, .map es cl) :: mt))) (by rw [List.append_nil]; exact hM) ?_
 refine wpM.seq (wpM.region ?_)
 refine LM.as rfl (LM.as rfl ?_)
 refine LM.nil (QM.sub (e' := [(0, _)]) ⟨rfl, trivial⟩ (QM.then ?_))
 refine wpM.seq ?_
 refine wpM.seq (wpM.region ?_)
 refine LM.mv rfl ?_
 refine LM.val (ov_peql (by kernel_rfl) rfl rfl) ?_
 refine LM.mv rfl (LM.sp 7 rfl rfl rfl (LM.mv rfl (LM.sp 7 rfl rfl rfl ?_)))
 refine LM.val (ov_nilCheck rfl) ?_
 refine LM.sp 7 rfl rfl rfl (LM.val (ov_field Try.underlying93 rfl Try.sizeOf3 rfl (k := 4) rfl rfl) (LM.sp 7 rfl rfl rfl ?_))
 refine LM.rd (om_ld Try.isAgg3 rfl rfl) ?_
 refine LM.sp 7 rfl rfl rfl ?_
 refine LM.val (ov_eql rfl rfl) ?_
 refine LM.val (ov_pickF rfl rfl) ?_
 refine LM.nil (QM.sub (e' := [(0, _), (13, _)]) au9 (QM.then ?_))
 refine wpM.condD rfl (fun h1 => ?_) (fun h1 => ?_)
 ·
  refine wpM.seq (wpM.region ?_)
  refine LM.as rfl (LM.as rfl ?_)
  refine LM.nil (QM.sub (e' := [(2, _), (3, _)]) au9 (QM.then ?_))
  refine wpM.ret ?_
  refine QM.then_ret ?_
  refine QM.leave (.inl rfl) [.tmp 2, .tmp 3] Try.results28 rfl ?_
  intro w' hm' hc' hg'
  rw [show bakQ x = x from if_neg (by omega), decide_eq_false (by omega)]; exact h1 ▸ rqm_leaf (x' := x) hq he ht hb hbm hm' au1 hc' (inn_refl _ _)
 have hc0 := cur_pos hq h1; have hix := hq.ix hc0; have hwf := back_wf hq
 refine wpM.skip ?_
 refine QM.then (wpM.seq (wpM.region ?_))
 refine LM.mv rfl ?_
 refine LM.val (ov_nilCheck rfl) ?_
 refine LM.val (ov_field Try.underlying93 rfl Try.sizeOf3 rfl (k := 4) rfl rfl) ?_
 refine LM.rd (om_ld Try.isAgg3 rfl rfl) ?_
 refine LM.as rfl ?_
 refine LM.nil (QM.sub (e' := [(0, _), (4, _)]) au9 (QM.then (wpM.seq (wpM.region ?_))))
 refine LM.mv rfl (LM.mv rfl ?_)
 refine LM.val (ov_nilCheck rfl) ?_
 refine LM.val (ov_field Try.underlying93 rfl Try.sizeOf3 rfl (k := 4) rfl rfl) ?_
 refine LM.st Try.sizeOf3 rfl rfl rfl au5 rfl (fun hlt => by first | exact inM_0 | exact inM_1 | exact absurd hlt (by omega)) ?_
 refine LM.val (ov_nilCheck rfl) ?_
 refine LM.val (ov_field Try.underlying93 rfl Try.sizeOf3 rfl (k := 5) rfl rfl) ?_
 refine LM.st Try.sizeOf3 rfl rfl rfl au5 rfl (fun hlt => by first | exact inM_0 | exact inM_1 | exact absurd hlt (by omega)) ?_
 refine LM.mem (SubM.mem (M' := rqC b x.g x.fl bm bt (-1) 0 (loadO x.l) :: (bm, .map es cl) :: (mt ++ [])) au1) ?_
 refine LM.nil (QM.sub (e' := [(0, _), (4, _)]) au9 (QM.then ?_))
 refine wpM.seq ?_
 refine wpM.draw [(0, 0), (1, 0), (2, 0), (3, 1), (4, 0), (5, 0), (7, 0), (8, 0), (9, 0), (10, 1), (11, 0), (12, 1), (13, 0), (6, 2), (14, 3)] (by kernel_rfl) (by kernel_rfl) ?_
 refine LD.val rfl rfl (ov_move rfl) ?_
 refine LD.val rfl rfl (ov_nilCheck rfl) ?_
 refine LD.val rfl rfl (ov_field Try.underlying93 rfl Try.sizeOf90 rfl (k := 3) rfl rfl) ?_
 refine LD.rd rfl rfl (om_ld Try.isAgg90 rfl rfl) ?_
 refine LD.val rfl rfl (ov_move rfl) ?_
 refine LD.val rfl rfl (ov_move rfl) ?_
 refine LD.val rfl rfl (ov_move rfl) ?_
 refine LD.val rfl rfl (ov_nilCheck rfl) ?_
 refine LD.val rfl rfl (ov_field Try.underlying93 rfl Try.sizeOf89 rfl (k := 2) rfl rfl) ?_
 refine LD.rd rfl rfl (om_ld Try.isAgg89 rfl rfl) ?_
 refine LD.val rfl rfl (ov_move rfl) ?_
 refine LD.rd rfl rfl (om_lk Try.underlying89 Try.underlying3 Try.zeroValue95 rfl rfl (by assumption) (ent_get _ _)) ?_
 refine LD.val rfl rfl (ov_fieldV Try.underlying95 rfl Try.isAgg3 rfl rfl) ?_
 refine LD.callE rfl rfl (oc_call (enters_fn Try.func65 (by kernel_rfl) rfl) rfl) (fun w hm hc hg => key_spec x.cur w he (hm.pick (rqC b x.g x.fl bm bt (-1) 0 (loadO x.l) :: (bm, .map es cl) :: []))) ?_
 refine LD.tail rfl rfl ?_
 refine LM.cU (oc_call (enters_fn Try.func64 (by kernel_rfl) rfl) rfl) (fun w hm hc hg => ins_spec (⟨(gQ x.l x.cur).V, x.cur, (gQ x.l x.cur).x⟩ : Kv) w (fun y hy e => (rdy_id hq hy).2 e.2) (Nat.lt_of_lt_of_le (rdy_lt hq hc0) hlen) (by decide) ht (Nat.le_trans hn0 hc.size) (hm.pick mt)) ht.wlk (fun p hp _ => inM_2 p hp) ?_
 rintro u38 mt1 ⟨rfl, ht1⟩ hin1; rw [gQ_eta hix, back_rdy hq hc0] at ht1
 refine LM.nil ?_
 refine QM.qn ?_
 refine QM.sub (e' := [(4, _)]) ⟨rfl, trivial⟩ (QM.then (wpM.seq (wpM.region ?_)))
 refine LM.mv rfl (LM.as rfl (LM.as rfl ?_))
 refine LM.nil (QM.sub (e' := [(2, _), (3, _)]) au9 (QM.then ?_))
 refine wpM.ret ?_
 refine QM.leave (.inl rfl) [.tmp 2, .tmp 3] Try.results28 rfl ?_
 intro w' hm' hc' hg'
 rw [show bakQ x = backQ x from if_pos hc0, decide_eq_true h1]; exact rqm_leaf (x' := backQ x) hwf he ht1 hb hbm hm' au1 hc' hin1
set_option maxRecDepth 100000 in
theorem tick_spec {n0 b : Nat} {x : Qm} {m : Mem0} (w : World) (h : RqM n0 b x m) (hr : x.ran ≤ 1000000000000) (hM : Mem w m) : Ret Try.prog 30 #[.pointer (some ⟨b, 0, none⟩)] w (Upd m (fun u m' => u = .tuple #[.int .i64 x.cur, .bool (decide (x.cur ≠ -1))] ∧ RqM n0 b (tickQ x) m') w) := by
 obtain ⟨hq, bm, bt, es, cl, mt, rfl, he, ht, hb, hbm⟩ := h; have h0 : RqM n0 b x (rqC b x.g x.fl bm bt x.cur x.ran (loadO x.l) :: (bm, .map es cl) :: mt) := ⟨hq, bm, bt, es, cl, mt, rfl, he, ht, hb, hbm⟩; have hll := hq.load; have hlen := hq.len; have hrn := hq.ran
 refine Ret.enterM (l := [.pointer (some ⟨b, 0, none⟩)]) Try.func30 rfl Try.ntmps30 rfl (rqC b x.g x.fl bm bt x.cur x.ran (loadO x.l) :: (bm, .map es cl) :: (mt ++ [])) ((inM (rqC b x.g x.fl bm bt x.cur x.ran (loadO x.l) :: (bm, .map es cl) :: mt))) (by rw [List.append_nil]; exact hM) ?_
 refine wpM.seq (wpM.region ?_)
 refine LM.as rfl (LM.as rfl ?_)
 refine LM.nil (QM.sub (e' := [(0, _)]) ⟨rfl, trivial⟩ (QM.then ?_))
 refine wpM.seq ?_
 refine wpM.seq (wpM.region ?_)
 refine LM.mv rfl ?_
 refine LM.val (ov_peql (by kernel_rfl) rfl rfl) ?_
 refine LM.mv rfl (LM.sp 7 rfl rfl rfl (LM.mv rfl (LM.sp 7 rfl rfl rfl ?_)))
 refine LM.val (ov_nilCheck rfl) ?_
 refine LM.sp 7 rfl rfl rfl (LM.val (ov_field Try.underlying93 rfl Try.sizeOf3 rfl (k := 4) rfl rfl) (LM.sp 7 rfl rfl rfl ?_))
 refine LM.rd (om_ld Try.isAgg3 rfl rfl) ?_
 refine LM.sp 7 rfl rfl rfl ?_
 refine LM.val (ov_eql rfl rfl) ?_
 refine LM.val (ov_pickF rfl rfl) ?_
 refine LM.nil (QM.sub (e' := [(0, _), (13, _)]) au9 (QM.then ?_))
 refine wpM.condD rfl (fun h1 => ?_) (fun h1 => ?_)
 ·
  refine wpM.seq (wpM.region ?_)
  refine LM.as rfl (LM.as rfl ?_)
  refine LM.nil (QM.sub (e' := [(2, _), (3, _)]) au9 (QM.then ?_))
  refine wpM.ret ?_
  refine QM.then_ret ?_
  refine QM.leave (.inl rfl) [.tmp 2, .tmp 3] Try.results30 rfl ?_
  intro w' hm' hc' hg'
  rw [show tickQ x = x from if_neg (by omega), decide_eq_false (by omega)]; exact h1 ▸ rqm_leaf (x' := x) hq he ht hb hbm hm' au1 hc' (inn_refl _ _)
 have hc0 := cur_pos hq h1; have hix := hq.ix hc0; have hwf := tick_wf hq; have hrd := tick_rdy hq; have htq : tickQ x = { x with l := tickL x.l x.cur, ran := x.ran + 1 } := if_pos hc0
 refine wpM.skip ?_
 refine QM.then ?_
 refine wpM.seq ?_
 refine wpM.draw [(0, 0), (1, 0), (2, 0), (3, 1), (4, 0), (5, 0), (6, 0), (7, 1), (8, 1), (9, 2), (10, 3)] (by kernel_rfl) (by kernel_rfl) ?_
 refine LD.val rfl rfl (ov_move rfl) ?_
 refine LD.val rfl rfl (ov_nilCheck rfl) ?_
 refine LD.val rfl rfl (ov_field Try.underlying93 rfl Try.sizeOf89 rfl (k := 2) rfl rfl) ?_
 refine LD.rd rfl rfl (om_ld Try.isAgg89 rfl rfl) ?_
 refine LD.val rfl rfl (ov_move rfl) ?_
 refine LD.val rfl rfl (ov_nilCheck rfl) ?_
 refine LD.val rfl rfl (ov_field Try.underlying93 rfl Try.sizeOf3 rfl (k := 4) rfl rfl) ?_
 refine LD.rd rfl rfl (om_ld Try.isAgg3 rfl rfl) ?_
 refine LD.rd rfl rfl (om_lk Try.underlying89 Try.underlying3 Try.zeroValue95 rfl rfl (by assumption) (ent_get _ _)) ?_
 refine LD.alloc rfl rfl Try.zeroValue95 rfl (fun b4 hb4 => ?_)
 refine LD.tail rfl rfl ?_
 refine LM.stW Try.sizeOf95 rfl rfl rfl rfl au7 (fun hlt => by first | exact inM_0 | exact inM_1 | exact absurd hlt (by omega)) ?_
 refine LM.nil ?_
 refine QM.qn ?_
 refine QM.sub (e' := [(0, _), (4, _)]) au9 (QM.then ?_)
 refine wpM.seq ?_
 refine wpM.draw [(0, 0), (1, 1), (2, 0), (3, 1), (4, 2), (5, 2), (6, 0), (7, 0), (8, 0), (9, 0), (10, 3)] (by kernel_rfl) (by kernel_rfl) ?_
 refine LD.val rfl rfl (ov_field Try.underlying95 rfl Try.sizeOf26 rfl (k := 0) rfl rfl) ?_
 refine LD.rd rfl rfl (om_ld Try.isAgg26 rfl rfl) ?_
 refine LD.val rfl rfl (ov_field Try.underlying95 rfl Try.sizeOf3 rfl (k := 1) rfl rfl) ?_
 refine LD.rd rfl rfl (om_ld Try.isAgg3 rfl rfl) ?_
 refine LD.callE rfl rfl (oc_call (enters_fn Try.func16 (by kernel_rfl) rfl) rfl) (fun w hm hc hg => ucore_spec _ w) ?_
 refine LD.callE rfl rfl (oc_call (enters_fn Try.func75 (by kernel_rfl) rfl) rfl) (fun w hm hc hg => fadd_spec _ _ w) ?_
 refine LD.val rfl rfl (ov_move rfl) ?_
 refine LD.val rfl rfl (ov_extract rfl rfl) ?_
 refine LD.val rfl rfl (ov_extract rfl rfl) ?_
 refine LD.val rfl rfl (ov_field Try.underlying95 rfl Try.sizeOf26 rfl (k := 0) rfl rfl) ?_
 refine LD.tail rfl rfl ?_
 refine LM.st Try.sizeOf26 rfl rfl rfl au5 rfl (fun hlt => by first | exact inM_0 | exact inM_1 | exact absurd hlt (by omega)) ?_
 refine LM.mem (SubM.mem (M' := (b4, .cells #[U (addO (gQ x.l x.cur).V (coreO (gQ x.l x.cur).x)), .int .i64 (gQ x.l x.cur).x] 95 (0, 0)) :: rqC b x.g x.fl bm bt x.cur x.ran (loadO x.l) :: (bm, .map es cl) :: (mt ++ [])) au1) ?_
 refine LM.nil ?_
 refine QM.qn ?_
 refine QM.sub (e' := [(0, _), (4, _)]) au9 (QM.then ?_)
 refine wpM.seq ?_
 refine wpM.draw [(0, 0), (1, 0), (2, 0), (3, 1), (4, 0), (5, 0), (6, 0), (7, 1), (8, 1), (9, 3)] (by kernel_rfl) (by kernel_rfl) ?_
 refine LD.val rfl rfl (ov_move rfl) ?_
 refine LD.val rfl rfl (ov_nilCheck rfl) ?_
 refine LD.val rfl rfl (ov_field Try.underlying93 rfl Try.sizeOf89 rfl (k := 2) rfl rfl) ?_
 refine LD.rd rfl rfl (om_ld Try.isAgg89 rfl rfl) ?_
 refine LD.val rfl rfl (ov_move rfl) ?_
 refine LD.val rfl rfl (ov_nilCheck rfl) ?_
 refine LD.val rfl rfl (ov_field Try.underlying93 rfl Try.sizeOf3 rfl (k := 4) rfl rfl) ?_
 refine LD.rd rfl rfl (om_ld Try.isAgg3 rfl rfl) ?_
 refine LD.rd rfl rfl (om_ldW Try.isAgg95 Try.sizeOf95 rfl rfl) ?_
 refine LD.tail rfl rfl ?_
 refine LM.mU Try.underlying89 Try.underlying3 rfl rfl rfl (by assumption) (fun hlt => by first | exact inM_0 | exact inM_1 | exact absurd hlt (by omega)) (fun esu1 clu1 hesu1 => ?_)
 refine LM.nil ?_
 refine QM.qn ?_
 refine QM.sub (e' := [(0, _)]) ⟨rfl, trivial⟩ (QM.then (wpM.seq (wpM.region ?_)))
 rw [ent_set hix, ← tickL_eq hix] at hesu1
 refine LM.mv rfl ?_
 refine LM.val (ov_nilCheck rfl) ?_
 refine LM.val (ov_field Try.underlying93 rfl Try.sizeOf3 rfl (k := 5) rfl rfl) ?_
 refine LM.rd (om_ld Try.isAgg3 rfl rfl) ?_
 refine LM.val (ov_add64 rfl rfl (by omega)) ?_
 refine LM.val (ov_nilCheck rfl) ?_
 refine LM.val (ov_field Try.underlying93 rfl Try.sizeOf3 rfl (k := 5) rfl rfl) ?_
 refine LM.st Try.sizeOf3 rfl rfl rfl au5 rfl (fun hlt => by first | exact inM_0 | exact inM_1 | exact absurd hlt (by omega)) ?_
 refine LM.mem (SubM.mem (M' := rqC b x.g x.fl bm bt x.cur (x.ran + 1) (loadO x.l) :: (bm, .map esu1 clu1) :: (mt ++ [])) au1) ?_
 refine LM.nil (QM.sub (e' := [(0, _)]) ⟨rfl, trivial⟩ (QM.then (wpM.seq (wpM.region ?_))))
 refine LM.mv rfl ?_
 refine LM.val (ov_nilCheck rfl) ?_
 refine LM.val (ov_field Try.underlying93 rfl Try.sizeOf3 rfl (k := 4) rfl rfl) ?_
 refine LM.rd (om_ld Try.isAgg3 rfl rfl) ?_
 refine LM.as rfl (LM.as rfl ?_)
 refine LM.nil (QM.sub (e' := [(2, _), (3, _)]) au9 (QM.then ?_))
 refine wpM.ret ?_
 refine QM.leave (.inl rfl) [.tmp 2, .tmp 3] Try.results30 rfl ?_
 intro w' hm' hc' hg'
 rw [decide_eq_true h1]; rw [hrd] at ht; rw [htq] at hwf ht ⊢; have hld : loadO x.l = loadO (tickL x.l x.cur) := (by rw [tickL_eq hix]; exact load_same hix rfl); exact rqm_leaf (x' := { x with l := tickL x.l x.cur, ran := x.ran + 1 }) hwf hesu1 ht hb hbm hm' (by (repeat' (first | exact SubM.nil _ | refine SubM.cons (by first | rfl | (rw [← hld]; done) | (rw [← hld]; rfl)) ?_ | refine SubM.app ?_))) hc' (inn_refl _ _)
set_option maxRecDepth 100000 in
theorem settle_spec {n0 b : Nat} {x : Qm} {m : Mem0} (w : World) (h : RqM n0 b x m) (hM : Mem w m) : Ret Try.prog 33 #[.pointer (some ⟨b, 0, none⟩)] w (Upd m (fun u m' => u = .tuple #[] ∧ RqM n0 b (setlQ x) m') w) := by
 obtain ⟨hq, bm, bt, es, cl, mt, rfl, he, ht, hb, hbm⟩ := h; have h0 : RqM n0 b x (rqC b x.g x.fl bm bt x.cur x.ran (loadO x.l) :: (bm, .map es cl) :: mt) := ⟨hq, bm, bt, es, cl, mt, rfl, he, ht, hb, hbm⟩; have hll := hq.load; have hlen := hq.len
 refine Ret.enterM (l := [.pointer (some ⟨b, 0, none⟩)]) Try.func33 rfl Try.ntmps33 rfl (rqC b x.g x.fl bm bt x.cur x.ran (loadO x.l) :: (bm, .map es cl) :: (mt ++ [])) ((inM (rqC b x.g x.fl bm bt x.cur x.ran (loadO x.l) :: (bm, .map es cl) :: mt))) (by rw [List.append_nil]; exact hM) ?_
 refine wpM.seq ?_
 refine wpM.seq (wpM.region ?_)
 refine LM.mv rfl ?_
 refine LM.val (ov_peql (by kernel_rfl) rfl rfl) ?_
 refine LM.nil (QM.sub (e' := [(0, _), (5, _)]) au9 (QM.then ?_))
 refine wpM.condF rfl ?_
 refine wpM.skip ?_
 refine QM.then (wpM.seq (wpM.region ?_))
 refine LM.mv rfl ?_
 refine LM.callE (oc_call (enters_fn Try.func78 (by kernel_rfl) rfl) rfl) (fun w hm hc hg => least2_spec w h0 (hm.pick (rqC b x.g x.fl bm bt x.cur x.ran (loadO x.l) :: (bm, .map es cl) :: mt))) ?_
 refine LM.mv rfl ?_
 refine LM.val (ov_extract rfl rfl) ?_
 refine LM.val (ov_extract rfl rfl) ?_
 refine LM.as rfl (LM.as rfl ?_)
 refine LM.nil (QM.sub (e' := [(0, _), (2, _), (3, _)]) au9 (QM.then (wpM.seq (wpM.region ?_))))
 refine LM.mv rfl ?_
 refine LM.nil (QM.sub (e' := [(0, _), (2, _), (11, _)]) au9 (QM.then ?_))
 refine wpM.condD rfl (fun h1 => ?_) (fun h1 => ?_)
 ·
  refine wpM.region ?_
  refine LM.mv rfl (LM.mv rfl ?_)
  refine LM.val (ov_nilCheck rfl) ?_
  refine LM.val (ov_field Try.underlying93 rfl Try.sizeOf26 rfl (k := 1) rfl rfl) ?_
  refine LM.rd (om_ld Try.isAgg26 rfl rfl) ?_
  refine LM.mv rfl ?_
  refine LM.val (ov_umax rfl rfl) ?_
  refine LM.val (ov_nilCheck rfl) ?_
  refine LM.val (ov_field Try.underlying93 rfl Try.sizeOf26 rfl (k := 1) rfl rfl) ?_
  refine LM.st Try.sizeOf26 rfl rfl rfl au5 rfl (fun hlt => by first | exact inM_0 | exact inM_1 | exact absurd hlt (by omega)) ?_
  refine LM.mem (SubM.mem (M' := rqC b x.g (if x.fl.toNat < (minO x.l).toNat then minO x.l else x.fl) bm bt x.cur x.ran (loadO x.l) :: (bm, .map es cl) :: (mt ++ [])) au1) ?_
  refine LM.nil (QM.sub (e' := []) trivial ?_)
  refine QM.leave (.inr rfl) [] Try.results33 rfl ?_
  intro w' hm' hc' hg'
  have hs := setlQ_pos h1; have hwf := setl_wf hq; have hrd := setl_rdy x; rw [hs] at hwf hrd ⊢; rw [hrd] at ht; exact rqm_leaf (x' := { x with fl := if x.fl.toNat < (minO x.l).toNat then minO x.l else x.fl }) hwf he ht hb hbm hm' au1 hc' (inn_refl _ _)
 refine wpM.skip ?_
 refine QM.leave (.inr rfl) [] Try.results33 rfl ?_
 intro w' hm' hc' hg'
 rw [setlQ_nil (Classical.not_not.1 h1)]; exact rqm_leaf (x' := x) hq he ht hb hbm hm' au1 hc' (inn_refl _ _)
end Go.Eng
namespace Go.Eng
open Go Go.Proofs Go.RowKit
theorem gQ_set {l : List Kv} {a : Int} (h : ixO l a < l.length) {v : BitVec 64} {w : Int} : gQ (l.set (ixO l a) ⟨v, a, w⟩) a = ⟨v, a, w⟩ := by
  have e : ∀ l : List Kv, ixO l a < l.length → ixO (l.set (ixO l a) ⟨v, a, w⟩) a = ixO l a := by
    intro l
    induction l with
    | nil => intro h; simp at h
    | cons t l ih =>
      intro h
      rw [ixO_cons] at h ⊢
      by_cases q : t.id = a
      · rw [if_pos q, List.set_cons_zero, ixO_cons, if_pos rfl]
      · rw [if_neg q, List.length_cons] at h
        rw [if_neg q, List.set_cons_succ, ixO_cons, if_neg q, ih (by omega)]
  unfold gQ
  rw [e l h, List.getD_eq_getElem?_getD, List.getElem?_set_self h]; rfl
set_option maxRecDepth 100000 in
theorem rqWgh_spec {n0 b : Nat} {x : Qm} {m : Mem0} (a wt : Int) (w : World) (h : RqM n0 b x m) (hn0 : n0 ≤ w.heap.size) (hM : Mem w m) : Ret Try.prog 18 #[.pointer (some ⟨b, 0, none⟩), .int .i64 a, .int .i64 wt] w (Upd m (fun u m' => u = .bool (decide (ixO x.l a < x.l.length)) ∧ RqM n0 b (weighX x a wt) m') w) := by
 obtain ⟨hq, bm, bt, es, cl, mt, rfl, he, ht, hb, hbm⟩ := h; have h0 : RqM n0 b x (rqC b x.g x.fl bm bt x.cur x.ran (loadO x.l) :: (bm, .map es cl) :: mt) := ⟨hq, bm, bt, es, cl, mt, rfl, he, ht, hb, hbm⟩; have hll := hq.load; have hlen := hq.len; have hbr := bring_in (n := wt) (lo := 1) (hi := 4096) (by decide)
 refine Ret.enterM (l := [.pointer (some ⟨b, 0, none⟩), .int .i64 a, .int .i64 wt]) Try.func18 rfl Try.ntmps18 rfl (rqC b x.g x.fl bm bt x.cur x.ran (loadO x.l) :: (bm, .map es cl) :: (mt ++ [])) ((inM (rqC b x.g x.fl bm bt x.cur x.ran (loadO x.l) :: (bm, .map es cl) :: mt))) (by rw [List.append_nil]; exact hM) ?_
 refine wpM.seq (wpM.region ?_)
 refine LM.as rfl ?_
 refine LM.nil (QM.sub (e' := [(0, _), (1, _), (2, _)]) au9 (QM.then ?_))
 refine wpM.seq ?_
 refine wpM.seq (wpM.region ?_)
 refine LM.mv rfl (LM.mv rfl ?_)
 refine LM.callE (oc_call (enters_fn Try.func14 (by kernel_rfl) rfl) rfl) (fun w hm hc hg => rqV_spec a w h0 (hm.pick (rqC b x.g x.fl bm bt x.cur x.ran (loadO x.l) :: (bm, .map es cl) :: mt))) ?_
 refine LM.mv rfl ?_
 refine LM.val (ov_extract rfl rfl) ?_
 refine LM.val (ov_extract rfl rfl) ?_
 refine LM.as rfl (LM.as rfl ?_)
 refine LM.nil (QM.sub (e' := [(0, _), (1, _), (2, _), (8, _)]) au9 (QM.then (wpM.seq (wpM.region ?_))))
 refine LM.mv rfl ?_
 refine LM.val (ov_notD rfl) ?_
 refine LM.nil (QM.sub (e' := [(0, _), (1, _), (2, _), (18, _)]) au9 (QM.then ?_))
 refine wpM.condD rfl (fun h1 => ?_) (fun h1 => ?_)
 ·
  refine wpM.seq (wpM.region ?_)
  refine LM.as rfl ?_
  refine LM.nil (QM.sub (e' := [(6, _)]) ⟨rfl, trivial⟩ (QM.then ?_))
  refine wpM.ret ?_
  refine QM.then_ret ?_
  refine QM.leave (.inl rfl) [.tmp 6] Try.results18 rfl ?_
  intro w' hm' hc' hg'
  rw [show weighX x a wt = x from if_neg h1, decide_eq_false h1]; exact rqm_leaf (x' := x) hq he ht hb hbm hm' au1 hc' (inn_refl _ _)
 replace h1 := Classical.not_not.1 h1; have hwf := weigh_wf (w := wt) hq h1; have hit := ixO_hit h1; have hwt : 1 ≤ (gQ x.l a).x ∧ (gQ x.l a).x ≤ 4096 := hq.wt _ hit.2
 refine wpM.skip ?_
 refine QM.then (wpM.seq (wpM.region ?_))
 refine LM.mv rfl ?_
 refine LM.val (ov_nilCheck rfl) ?_
 refine LM.val (ov_field Try.underlying93 rfl Try.sizeOf89 rfl (k := 2) rfl rfl) ?_
 refine LM.rd (om_ld Try.isAgg89 rfl rfl) ?_
 refine LM.mv rfl ?_
 refine LM.rd (om_lk Try.underlying89 Try.underlying3 Try.zeroValue95 rfl rfl (by assumption) (ent_get _ _)) ?_
 refine LM.alloc Try.zeroValue95 rfl (fun b9 hb9 => ?_)
 refine LM.stW Try.sizeOf95 rfl rfl rfl rfl au7 (fun hlt => by first | exact inM_0 | exact inM_1 | exact absurd hlt (by omega)) ?_
 refine LM.nil (QM.sub (e' := [(0, _), (1, _), (2, _), (9, _)]) au9 (QM.then (wpM.seq (wpM.region ?_))))
 refine LM.mv rfl ?_
 refine LM.val (ov_max rfl rfl) ?_
 refine LM.val (ov_min rfl rfl) ?_
 refine LM.as rfl ?_
 refine LM.nil (QM.sub (e' := [(0, _), (1, _), (2, _), (9, _)]) au9 (QM.then ?_))
 refine wpM.seq ?_
 refine wpM.seq (wpM.region ?_)
 rw [bring_eq (by decide)]
 refine LM.mv rfl (LM.mv rfl ?_)
 refine LM.val (ov_nilCheck rfl) ?_
 refine LM.val (ov_field Try.underlying93 rfl Try.sizeOf3 rfl (k := 4) rfl rfl) ?_
 refine LM.rd (om_ld Try.isAgg3 rfl rfl) ?_
 refine LM.val (ov_eql rfl rfl) ?_
 refine LM.mv rfl ?_
 refine LM.splitD (t := 34) rfl (fun h2 => ?_) (fun h2 => ?_)
 ·
  refine LM.sp 34 rfl rfl rfl (LM.mv rfl (LM.sp 34 rfl rfl rfl (LM.val (ov_field Try.underlying95 rfl Try.sizeOf3 rfl (k := 1) rfl rfl) (LM.sp 34 rfl rfl rfl ?_))))
  refine LM.rd (om_ld Try.isAgg3 rfl rfl) ?_
  refine LM.sp 34 rfl rfl rfl ?_
  refine LM.val (ov_neq rfl rfl) ?_
  refine LM.val (ov_pickT rfl rfl) ?_
  refine LM.nil (QM.sub (e' := [(0, _), (1, _), (2, _), (9, _), (39, _)]) au9 (QM.then ?_))
  refine wpM.joinK (α := Int) (fun r1 => []) [(0, _), (1, _), (2, _), (9, _)] (fun r1 => rqC b x.g x.fl bm bt x.cur r1 (loadO x.l) :: (bm, .map es cl) :: (b9, .cells #[U (gQ x.l a).V, .int .i64 (gQ x.l a).x] 95 (0, 0)) :: (mt ++ [])) (fun r1 => (weighQ x a wt).ran = r1) ⟨rfl, rfl, rfl, rfl, trivial⟩ ?_ ?_
  ·
   refine wpM.condD rfl (fun h3 => ?_) (fun h3 => ?_)
   ·
    refine wpM.region ?_
    refine LM.mv rfl (LM.mv rfl ?_)
    refine LM.val (ov_nilCheck rfl) ?_
    refine LM.val (ov_field Try.underlying93 rfl Try.sizeOf3 rfl (k := 0) rfl rfl) ?_
    refine LM.rd (om_ld Try.isAgg3 rfl rfl) ?_
    refine LM.val (ov_nilCheck rfl) ?_
    refine LM.val (ov_field Try.underlying93 rfl Try.sizeOf3 rfl (k := 5) rfl rfl) ?_
    refine LM.st Try.sizeOf3 rfl rfl rfl au5 rfl (fun hlt => by first | exact inM_0 | exact inM_1 | exact absurd hlt (by omega)) ?_
    refine LM.mem (SubM.mem (M' := rqC b x.g x.fl bm bt x.cur x.g (loadO x.l) :: (bm, .map es cl) :: (b9, .cells #[U (gQ x.l a).V, .int .i64 (gQ x.l a).x] 95 (0, 0)) :: (mt ++ [])) au1) ?_
    refine LM.nil (QM.sub (e' := [(0, _), (1, _), (2, _), (9, _)]) au9 ?_)
    refine QM.meetK (x.g) ⟨rfl, rfl, rfl, rfl, trivial⟩ au1 ?_
    · exact if_pos ⟨fun q => h3 q.symm, h2.symm⟩
   refine wpM.skip ?_
   refine QM.meetK (x.ran) ⟨rfl, rfl, rfl, rfl, trivial⟩ au1 ?_
   · exact if_neg (fun q => h3 (fun z => q.1 z.symm))
  rintro r1 hr1
  change QM _ _ _ _ _ (rqC b x.g x.fl bm bt x.cur r1 (loadO x.l) :: (bm, .map es cl) :: (b9, .cells #[U (gQ x.l a).V, .int .i64 (gQ x.l a).x] 95 (0, 0)) :: (mt ++ [])) _ _ _
  refine QM.then (wpM.seq (wpM.region ?_))
  refine LM.mv rfl (LM.mv rfl ?_)
  refine LM.callE (oc_call (enters_fn Try.func65 (by kernel_rfl) rfl) rfl) (fun w hm hc hg => key_spec a w he (hm.pick (rqC b x.g x.fl bm bt x.cur r1 (loadO x.l) :: (bm, .map es cl) :: []))) ?_
  refine LM.alloc Try.zeroValue100 rfl (fun b10 hb10 => ?_)
  refine LM.stW Try.sizeOf100 rfl rfl rfl rfl au7 (fun hlt => by first | exact inM_0 | exact inM_1 | exact absurd hlt (by omega)) ?_
  refine LM.nil (QM.sub (e' := [(0, _), (1, _), (2, _), (9, _), (10, _)]) au9 (QM.then ?_))
  refine wpM.seq ?_
  refine wpM.draw [(0, 0), (1, 0), (2, 0), (3, 1), (4, 0), (5, 0), (6, 1), (7, 0), (8, 0), (9, 0), (10, 0), (11, 3)] (by kernel_rfl) (by kernel_rfl) ?_
  refine LD.val rfl rfl (ov_move rfl) ?_
  refine LD.val rfl rfl (ov_nilCheck rfl) ?_
  refine LD.val rfl rfl (ov_field Try.underlying93 rfl Try.sizeOf3 rfl (k := 6) rfl rfl) ?_
  refine LD.rd rfl rfl (om_ld Try.isAgg3 rfl rfl) ?_
  refine LD.val rfl rfl (ov_move rfl) ?_
  refine LD.val rfl rfl (ov_field Try.underlying95 rfl Try.sizeOf3 rfl (k := 1) rfl rfl) ?_
  refine LD.rd rfl rfl (om_ld Try.isAgg3 rfl rfl) ?_
  refine LD.val rfl rfl (ov_sub64 rfl rfl (by omega)) ?_
  refine LD.val rfl rfl (ov_add64 rfl rfl (by omega)) ?_
  refine LD.val rfl rfl (ov_nilCheck rfl) ?_
  refine LD.val rfl rfl (ov_field Try.underlying93 rfl Try.sizeOf3 rfl (k := 6) rfl rfl) ?_
  refine LD.tail rfl rfl ?_
  refine LM.st Try.sizeOf3 rfl rfl rfl au5 rfl (fun hlt => by first | exact inM_0 | exact inM_1 | exact absurd hlt (by omega)) ?_
  refine LM.mem (SubM.mem (M' := rqC b x.g x.fl bm bt x.cur r1 (loadO x.l + (bringO wt 1 4096 - (gQ x.l a).x)) :: (bm, .map es cl) :: (b9, .cells #[U (gQ x.l a).V, .int .i64 (gQ x.l a).x] 95 (0, 0)) :: (b10, .cells #[U (gQ x.l a).V, .int .i64 a] 100 (0, 0)) :: (mt ++ [])) au1) ?_
  refine LM.nil ?_
  refine QM.qn ?_
  refine QM.sub (e' := [(0, _), (1, _), (2, _), (9, _), (10, _)]) au9 (QM.then (wpM.seq (wpM.region ?_)))
  refine LM.mv rfl (LM.val (ov_field Try.underlying95 rfl Try.sizeOf26 rfl (k := 0) rfl rfl) ?_)
  refine LM.rd (om_ld Try.isAgg26 rfl rfl) ?_
  refine LM.mv rfl ?_
  refine LM.callE (oc_call (enters_fn Try.func63 (by kernel_rfl) rfl) rfl) (fun w hm hc hg => place_spec (gQ x.l a).V (bringO wt 1 4096) w (hm.pick (rqC b x.g x.fl bm bt x.cur r1 (loadO x.l + (bringO wt 1 4096 - (gQ x.l a).x)) :: []))) ?_
  refine LM.mv rfl (LM.val (ov_field Try.underlying95 rfl Try.sizeOf26 rfl (k := 0) rfl rfl) ?_)
  refine LM.st Try.sizeOf26 rfl rfl rfl au5 rfl (fun hlt => by first | exact inM_0 | exact inM_1 | exact absurd hlt (by omega)) ?_
  refine LM.val (ov_field Try.underlying95 rfl Try.sizeOf3 rfl (k := 1) rfl rfl) ?_
  refine LM.st Try.sizeOf3 rfl rfl rfl au5 rfl (fun hlt => by first | exact inM_0 | exact inM_1 | exact absurd hlt (by omega)) ?_
  refine LM.mem (SubM.mem (M' := rqC b x.g x.fl bm bt x.cur r1 (loadO x.l + (bringO wt 1 4096 - (gQ x.l a).x)) :: (bm, .map es cl) :: (b9, .cells #[U (plcO x (gQ x.l a).V (bringO wt 1 4096)), .int .i64 (bringO wt 1 4096)] 95 (0, 0)) :: (b10, .cells #[U (gQ x.l a).V, .int .i64 a] 100 (0, 0)) :: (mt ++ [])) au1) ?_
  refine LM.nil (QM.sub (e' := [(0, _), (1, _), (2, _), (9, _), (10, _)]) au9 (QM.then ?_))
  refine wpM.seq ?_
  refine wpM.draw [(0, 0), (1, 0), (2, 0), (3, 1), (4, 0), (5, 1), (6, 3)] (by kernel_rfl) (by kernel_rfl) ?_
  refine LD.val rfl rfl (ov_move rfl) ?_
  refine LD.val rfl rfl (ov_nilCheck rfl) ?_
  refine LD.val rfl rfl (ov_field Try.underlying93 rfl Try.sizeOf89 rfl (k := 2) rfl rfl) ?_
  refine LD.rd rfl rfl (om_ld Try.isAgg89 rfl rfl) ?_
  refine LD.val rfl rfl (ov_move rfl) ?_
  refine LD.rd rfl rfl (om_ldW Try.isAgg95 Try.sizeOf95 rfl rfl) ?_
  refine LD.tail rfl rfl ?_
  refine LM.mU Try.underlying89 Try.underlying3 rfl rfl rfl (by assumption) (fun hlt => by first | exact inM_0 | exact inM_1 | exact absurd hlt (by omega)) (fun esu1 clu1 hesu1 => ?_)
  refine LM.nil ?_
  refine QM.qn ?_
  refine QM.sub (e' := [(0, _), (1, _), (2, _), (10, _)]) au9 (QM.then ?_)
  refine wpM.seq ?_
  refine wpM.seq (wpM.region ?_)
  rw [ent_set h1] at hesu1
  refine LM.mv rfl (LM.mv rfl ?_)
  refine LM.val (ov_nilCheck rfl) ?_
  refine LM.val (ov_field Try.underlying93 rfl Try.sizeOf3 rfl (k := 4) rfl rfl) ?_
  refine LM.rd (om_ld Try.isAgg3 rfl rfl) ?_
  refine LM.val (ov_neq rfl rfl) ?_
  refine LM.nil (QM.sub (e' := [(0, _), (1, _), (2, _), (10, _), (80, _)]) au9 (QM.then ?_))
  refine wpM.joinK (α := Mem0) (fun mt3 => []) [] (fun mt3 => rqC b x.g x.fl bm bt x.cur r1 (loadO x.l + (bringO wt 1 4096 - (gQ x.l a).x)) :: (bm, .map esu1 clu1) :: (mt3 ++ [])) (fun mt3 => RbT n0 bt 16 (rdyO (weighQ x a wt)) mt3 ∧ inn mt w.heap.size mt3) trivial ?_ ?_
  ·
   refine wpM.condD rfl (fun h4 => ?_) (fun h4 => ?_)
   ·
    have h6 := h4
    refine wpM.seq ?_
    refine wpM.draw [(0, 0), (1, 0), (2, 0), (3, 1), (4, 1), (5, 3)] (by kernel_rfl) (by kernel_rfl) ?_
    refine LD.val rfl rfl (ov_move rfl) ?_
    refine LD.val rfl rfl (ov_nilCheck rfl) ?_
    refine LD.val rfl rfl (ov_field Try.underlying93 rfl Try.sizeOf90 rfl (k := 3) rfl rfl) ?_
    refine LD.rd rfl rfl (om_ld Try.isAgg90 rfl rfl) ?_
    refine LD.rd rfl rfl (om_ldW Try.isAgg100 Try.sizeOf100 rfl rfl) ?_
    refine LD.tail rfl rfl ?_
    refine LM.cU (oc_call (enters_fn Try.func67 (by kernel_rfl) rfl) rfl) (fun w hm hc hg => del_spec (⟨(gQ x.l a).V, a, 0⟩ : Kv) (gQ x.l a) w (rdy_of hq h1 (fun q => h6 q.symm)) ⟨rfl, hit.1.symm⟩ (by decide) ht (hm.pick mt)) ht.wlk (fun p hp _ => inM_2 p hp) ?_
    rintro u86 mt1 ⟨rfl, ht1⟩ hin1; have hlt1 := delK_lt (k := (⟨(gQ x.l a).V, a, 0⟩ : Kv)) (rdy_of hq h1 (fun q => h6 q.symm)) ⟨rfl, hit.1.symm⟩
    refine LM.nil ?_
    refine QM.qn ?_
    refine QM.sub (e' := [(0, _), (1, _), (2, _)]) au9 (QM.then ?_)
    refine wpM.draw [(0, 0), (1, 0), (2, 0), (3, 1), (4, 0), (5, 0), (7, 0), (6, 2), (8, 3)] (by kernel_rfl) (by kernel_rfl) ?_
    refine LD.val rfl rfl (ov_move rfl) ?_
    refine LD.val rfl rfl (ov_nilCheck rfl) ?_
    refine LD.val rfl rfl (ov_field Try.underlying93 rfl Try.sizeOf90 rfl (k := 3) rfl rfl) ?_
    refine LD.rd rfl rfl (om_ld Try.isAgg90 rfl rfl) ?_
    refine LD.val rfl rfl (ov_move rfl) ?_
    refine LD.val rfl rfl (ov_move rfl) ?_
    refine LD.val rfl rfl (ov_move rfl) ?_
    refine LD.callE rfl rfl (oc_call (enters_fn Try.func65 (by kernel_rfl) rfl) rfl) (fun w hm hc hg => (show Ret _ _ _ _ (fun u w' => u = .agg #[U (plcO x (gQ x.l a).V (bringO wt 1 4096)), .int .i64 a] ∧ Ext _ w') from by have hk := key_spec a w hesu1 (hm.pick (rqC b x.g x.fl bm bt x.cur r1 (loadO x.l + (bringO wt 1 4096 - (gQ x.l a).x)) :: (bm, .map esu1 clu1) :: [])); rw [gQ_set h1] at hk; exact hk)) ?_
    refine LD.tail rfl rfl ?_
    refine LM.cU (oc_call (enters_fn Try.func64 (by kernel_rfl) rfl) rfl) (fun w hm hc hg => ins_spec (⟨plcO x (gQ x.l a).V (bringO wt 1 4096), a, bringO wt 1 4096⟩ : Kv) w (fun y hy e => by have hy1 := (delK_mem (rdyO x) (⟨(gQ x.l a).V, a, 0⟩ : Kv) y).1 hy; have hyy : y = gQ x.l a := uniq_id hq.nd (rdy_id hq hy1.1).1 hit.2 (e.2.trans hit.1.symm); exact hy1.2 ⟨by rw [hyy], e.2.symm⟩) (Nat.lt_of_lt_of_le hlt1 (Nat.le_trans (rdy_len hq.nd) hlen)) (by decide) ht1 (Nat.le_trans hn0 hc.size) (hm.pick mt1)) ht1.wlk (inn_S hin1 inM_2) ?_
    rintro u95 mt2 ⟨rfl, ht2⟩ hin2; rw [weigh_rdy (k := (⟨(gQ x.l a).V, a, 0⟩ : Kv)) hq h1 h6 ⟨rfl, hit.1.symm⟩] at ht2
    refine LM.nil ?_
    refine QM.qn ?_
    refine QM.sub (e' := []) trivial ?_
    refine QM.meetK (mt2) trivial au1 ?_
    · exact ⟨ht2, inn_trans hin1 hin2⟩
   refine wpM.skip ?_
   refine QM.meetK (mt) trivial au1 ?_
   · have h7 : a = x.cur := Classical.not_not.1 h4; exact ⟨by have hc0 : 0 ≤ x.cur := (by rw [← h7, ← hit.1]; exact hq.pos _ hit.2); have := weigh_rdyC (w := wt) hq hc0; rw [← h7] at this; rw [← this]; exact ht, inn_refl _ _⟩
  rintro mt3 ⟨ht3, hin3⟩
  change QM _ _ _ _ _ (rqC b x.g x.fl bm bt x.cur r1 (loadO x.l + (bringO wt 1 4096 - (gQ x.l a).x)) :: (bm, .map esu1 clu1) :: (mt3 ++ [])) _ _ _
  refine QM.then (wpM.seq (wpM.region ?_))
  refine LM.as rfl ?_
  refine LM.nil (QM.sub (e' := [(6, _)]) ⟨rfl, trivial⟩ (QM.then ?_))
  refine wpM.ret ?_
  refine QM.leave (.inl rfl) [.tmp 6] Try.results18 rfl ?_
  intro w' hm' hc' hg'
  have hld : loadO x.l + (bringO wt 1 4096 - (gQ x.l a).x) = loadO (weighQ x a wt).l := (load_set h1 (⟨plcO x (gQ x.l a).V (bringO wt 1 4096), a, bringO wt 1 4096⟩ : Kv)).symm; subst hr1; rw [show weighX x a wt = weighQ x a wt from if_pos h1, decide_eq_true h1]; exact rqm_leaf (x' := weighQ x a wt) hwf hesu1 ht3 hb hbm hm' (by (repeat' (first | exact SubM.nil _ | refine SubM.cons (by first | rfl | (rw [← hld]; done) | (rw [← hld]; rfl)) ?_ | refine SubM.app ?_))) hc' hin3
 refine LM.dr 34 rfl rfl rfl (LM.dr 34 rfl rfl rfl (LM.dr 34 rfl rfl rfl (LM.dr 34 rfl rfl rfl ?_)))
 refine LM.val (ov_pickF rfl rfl) ?_
 refine LM.nil (QM.sub (e' := [(0, _), (1, _), (2, _), (9, _), (39, _)]) au9 (QM.then ?_))
 refine wpM.joinK (α := Int) (fun r1 => []) [(0, _), (1, _), (2, _), (9, _)] (fun r1 => rqC b x.g x.fl bm bt x.cur r1 (loadO x.l) :: (bm, .map es cl) :: (b9, .cells #[U (gQ x.l a).V, .int .i64 (gQ x.l a).x] 95 (0, 0)) :: (mt ++ [])) (fun r1 => (weighQ x a wt).ran = r1) ⟨rfl, rfl, rfl, rfl, trivial⟩ ?_ ?_
 ·
  refine wpM.condF rfl ?_
  refine wpM.skip ?_
  refine QM.meetK (x.ran) ⟨rfl, rfl, rfl, rfl, trivial⟩ au1 ?_
  · exact if_neg (fun q => h2 q.2.symm)
 rintro r1 hr1
 change QM _ _ _ _ _ (rqC b x.g x.fl bm bt x.cur r1 (loadO x.l) :: (bm, .map es cl) :: (b9, .cells #[U (gQ x.l a).V, .int .i64 (gQ x.l a).x] 95 (0, 0)) :: (mt ++ [])) _ _ _
 refine QM.then (wpM.seq (wpM.region ?_))
 refine LM.mv rfl (LM.mv rfl ?_)
 refine LM.callE (oc_call (enters_fn Try.func65 (by kernel_rfl) rfl) rfl) (fun w hm hc hg => key_spec a w he (hm.pick (rqC b x.g x.fl bm bt x.cur r1 (loadO x.l) :: (bm, .map es cl) :: []))) ?_
 refine LM.alloc Try.zeroValue100 rfl (fun b10 hb10 => ?_)
 refine LM.stW Try.sizeOf100 rfl rfl rfl rfl au7 (fun hlt => by first | exact inM_0 | exact inM_1 | exact absurd hlt (by omega)) ?_
 refine LM.nil (QM.sub (e' := [(0, _), (1, _), (2, _), (9, _), (10, _)]) au9 (QM.then ?_))
 refine wpM.seq ?_
 refine wpM.draw [(0, 0), (1, 0), (2, 0), (3, 1), (4, 0), (5, 0), (6, 1), (7, 0), (8, 0), (9, 0), (10, 0), (11, 3)] (by kernel_rfl) (by kernel_rfl) ?_
 refine LD.val rfl rfl (ov_move rfl) ?_
 refine LD.val rfl rfl (ov_nilCheck rfl) ?_
 refine LD.val rfl rfl (ov_field Try.underlying93 rfl Try.sizeOf3 rfl (k := 6) rfl rfl) ?_
 refine LD.rd rfl rfl (om_ld Try.isAgg3 rfl rfl) ?_
 refine LD.val rfl rfl (ov_move rfl) ?_
 refine LD.val rfl rfl (ov_field Try.underlying95 rfl Try.sizeOf3 rfl (k := 1) rfl rfl) ?_
 refine LD.rd rfl rfl (om_ld Try.isAgg3 rfl rfl) ?_
 refine LD.val rfl rfl (ov_sub64 rfl rfl (by omega)) ?_
 refine LD.val rfl rfl (ov_add64 rfl rfl (by omega)) ?_
 refine LD.val rfl rfl (ov_nilCheck rfl) ?_
 refine LD.val rfl rfl (ov_field Try.underlying93 rfl Try.sizeOf3 rfl (k := 6) rfl rfl) ?_
 refine LD.tail rfl rfl ?_
 refine LM.st Try.sizeOf3 rfl rfl rfl au5 rfl (fun hlt => by first | exact inM_0 | exact inM_1 | exact absurd hlt (by omega)) ?_
 refine LM.mem (SubM.mem (M' := rqC b x.g x.fl bm bt x.cur r1 (loadO x.l + (bringO wt 1 4096 - (gQ x.l a).x)) :: (bm, .map es cl) :: (b9, .cells #[U (gQ x.l a).V, .int .i64 (gQ x.l a).x] 95 (0, 0)) :: (b10, .cells #[U (gQ x.l a).V, .int .i64 a] 100 (0, 0)) :: (mt ++ [])) au1) ?_
 refine LM.nil ?_
 refine QM.qn ?_
 refine QM.sub (e' := [(0, _), (1, _), (2, _), (9, _), (10, _)]) au9 (QM.then (wpM.seq (wpM.region ?_)))
 refine LM.mv rfl (LM.val (ov_field Try.underlying95 rfl Try.sizeOf26 rfl (k := 0) rfl rfl) ?_)
 refine LM.rd (om_ld Try.isAgg26 rfl rfl) ?_
 refine LM.mv rfl ?_
 refine LM.callE (oc_call (enters_fn Try.func63 (by kernel_rfl) rfl) rfl) (fun w hm hc hg => place_spec (gQ x.l a).V (bringO wt 1 4096) w (hm.pick (rqC b x.g x.fl bm bt x.cur r1 (loadO x.l + (bringO wt 1 4096 - (gQ x.l a).x)) :: []))) ?_
 refine LM.mv rfl (LM.val (ov_field Try.underlying95 rfl Try.sizeOf26 rfl (k := 0) rfl rfl) ?_)
 refine LM.st Try.sizeOf26 rfl rfl rfl au5 rfl (fun hlt => by first | exact inM_0 | exact inM_1 | exact absurd hlt (by omega)) ?_
 refine LM.val (ov_field Try.underlying95 rfl Try.sizeOf3 rfl (k := 1) rfl rfl) ?_
 refine LM.st Try.sizeOf3 rfl rfl rfl au5 rfl (fun hlt => by first | exact inM_0 | exact inM_1 | exact absurd hlt (by omega)) ?_
 refine LM.mem (SubM.mem (M' := rqC b x.g x.fl bm bt x.cur r1 (loadO x.l + (bringO wt 1 4096 - (gQ x.l a).x)) :: (bm, .map es cl) :: (b9, .cells #[U (plcO x (gQ x.l a).V (bringO wt 1 4096)), .int .i64 (bringO wt 1 4096)] 95 (0, 0)) :: (b10, .cells #[U (gQ x.l a).V, .int .i64 a] 100 (0, 0)) :: (mt ++ [])) au1) ?_
 refine LM.nil (QM.sub (e' := [(0, _), (1, _), (2, _), (9, _), (10, _)]) au9 (QM.then ?_))
 refine wpM.seq ?_
 refine wpM.draw [(0, 0), (1, 0), (2, 0), (3, 1), (4, 0), (5, 1), (6, 3)] (by kernel_rfl) (by kernel_rfl) ?_
 refine LD.val rfl rfl (ov_move rfl) ?_
 refine LD.val rfl rfl (ov_nilCheck rfl) ?_
 refine LD.val rfl rfl (ov_field Try.underlying93 rfl Try.sizeOf89 rfl (k := 2) rfl rfl) ?_
 refine LD.rd rfl rfl (om_ld Try.isAgg89 rfl rfl) ?_
 refine LD.val rfl rfl (ov_move rfl) ?_
 refine LD.rd rfl rfl (om_ldW Try.isAgg95 Try.sizeOf95 rfl rfl) ?_
 refine LD.tail rfl rfl ?_
 refine LM.mU Try.underlying89 Try.underlying3 rfl rfl rfl (by assumption) (fun hlt => by first | exact inM_0 | exact inM_1 | exact absurd hlt (by omega)) (fun esu1 clu1 hesu1 => ?_)
 refine LM.nil ?_
 refine QM.qn ?_
 refine QM.sub (e' := [(0, _), (1, _), (2, _), (10, _)]) au9 (QM.then ?_)
 refine wpM.seq ?_
 refine wpM.seq (wpM.region ?_)
 rw [ent_set h1] at hesu1
 refine LM.mv rfl (LM.mv rfl ?_)
 refine LM.val (ov_nilCheck rfl) ?_
 refine LM.val (ov_field Try.underlying93 rfl Try.sizeOf3 rfl (k := 4) rfl rfl) ?_
 refine LM.rd (om_ld Try.isAgg3 rfl rfl) ?_
 refine LM.val (ov_neq rfl rfl) ?_
 refine LM.nil (QM.sub (e' := [(0, _), (1, _), (2, _), (10, _), (80, _)]) au9 (QM.then ?_))
 refine wpM.joinK (α := Mem0) (fun mt3 => []) [] (fun mt3 => rqC b x.g x.fl bm bt x.cur r1 (loadO x.l + (bringO wt 1 4096 - (gQ x.l a).x)) :: (bm, .map esu1 clu1) :: (mt3 ++ [])) (fun mt3 => RbT n0 bt 16 (rdyO (weighQ x a wt)) mt3 ∧ inn mt w.heap.size mt3) trivial ?_ ?_
 ·
  refine wpM.condD rfl (fun h5 => ?_) (fun h5 => ?_)
  ·
   have h6 := h5
   refine wpM.seq ?_
   refine wpM.draw [(0, 0), (1, 0), (2, 0), (3, 1), (4, 1), (5, 3)] (by kernel_rfl) (by kernel_rfl) ?_
   refine LD.val rfl rfl (ov_move rfl) ?_
   refine LD.val rfl rfl (ov_nilCheck rfl) ?_
   refine LD.val rfl rfl (ov_field Try.underlying93 rfl Try.sizeOf90 rfl (k := 3) rfl rfl) ?_
   refine LD.rd rfl rfl (om_ld Try.isAgg90 rfl rfl) ?_
   refine LD.rd rfl rfl (om_ldW Try.isAgg100 Try.sizeOf100 rfl rfl) ?_
   refine LD.tail rfl rfl ?_
   refine LM.cU (oc_call (enters_fn Try.func67 (by kernel_rfl) rfl) rfl) (fun w hm hc hg => del_spec (⟨(gQ x.l a).V, a, 0⟩ : Kv) (gQ x.l a) w (rdy_of hq h1 (fun q => h6 q.symm)) ⟨rfl, hit.1.symm⟩ (by decide) ht (hm.pick mt)) ht.wlk (fun p hp _ => inM_2 p hp) ?_
   rintro u86 mt1 ⟨rfl, ht1⟩ hin1; have hlt1 := delK_lt (k := (⟨(gQ x.l a).V, a, 0⟩ : Kv)) (rdy_of hq h1 (fun q => h6 q.symm)) ⟨rfl, hit.1.symm⟩
   refine LM.nil ?_
   refine QM.qn ?_
   refine QM.sub (e' := [(0, _), (1, _), (2, _)]) au9 (QM.then ?_)
   refine wpM.draw [(0, 0), (1, 0), (2, 0), (3, 1), (4, 0), (5, 0), (7, 0), (6, 2), (8, 3)] (by kernel_rfl) (by kernel_rfl) ?_
   refine LD.val rfl rfl (ov_move rfl) ?_
   refine LD.val rfl rfl (ov_nilCheck rfl) ?_
   refine LD.val rfl rfl (ov_field Try.underlying93 rfl Try.sizeOf90 rfl (k := 3) rfl rfl) ?_
   refine LD.rd rfl rfl (om_ld Try.isAgg90 rfl rfl) ?_
   refine LD.val rfl rfl (ov_move rfl) ?_
   refine LD.val rfl rfl (ov_move rfl) ?_
   refine LD.val rfl rfl (ov_move rfl) ?_
   refine LD.callE rfl rfl (oc_call (enters_fn Try.func65 (by kernel_rfl) rfl) rfl) (fun w hm hc hg => (show Ret _ _ _ _ (fun u w' => u = .agg #[U (plcO x (gQ x.l a).V (bringO wt 1 4096)), .int .i64 a] ∧ Ext _ w') from by have hk := key_spec a w hesu1 (hm.pick (rqC b x.g x.fl bm bt x.cur r1 (loadO x.l + (bringO wt 1 4096 - (gQ x.l a).x)) :: (bm, .map esu1 clu1) :: [])); rw [gQ_set h1] at hk; exact hk)) ?_
   refine LD.tail rfl rfl ?_
   refine LM.cU (oc_call (enters_fn Try.func64 (by kernel_rfl) rfl) rfl) (fun w hm hc hg => ins_spec (⟨plcO x (gQ x.l a).V (bringO wt 1 4096), a, bringO wt 1 4096⟩ : Kv) w (fun y hy e => by have hy1 := (delK_mem (rdyO x) (⟨(gQ x.l a).V, a, 0⟩ : Kv) y).1 hy; have hyy : y = gQ x.l a := uniq_id hq.nd (rdy_id hq hy1.1).1 hit.2 (e.2.trans hit.1.symm); exact hy1.2 ⟨by rw [hyy], e.2.symm⟩) (Nat.lt_of_lt_of_le hlt1 (Nat.le_trans (rdy_len hq.nd) hlen)) (by decide) ht1 (Nat.le_trans hn0 hc.size) (hm.pick mt1)) ht1.wlk (inn_S hin1 inM_2) ?_
   rintro u95 mt2 ⟨rfl, ht2⟩ hin2; rw [weigh_rdy (k := (⟨(gQ x.l a).V, a, 0⟩ : Kv)) hq h1 h6 ⟨rfl, hit.1.symm⟩] at ht2
   refine LM.nil ?_
   refine QM.qn ?_
   refine QM.sub (e' := []) trivial ?_
   refine QM.meetK (mt2) trivial au1 ?_
   · exact ⟨ht2, inn_trans hin1 hin2⟩
  refine wpM.skip ?_
  refine QM.meetK (mt) trivial au1 ?_
  · have h7 : a = x.cur := Classical.not_not.1 h5; exact ⟨by have hc0 : 0 ≤ x.cur := (by rw [← h7, ← hit.1]; exact hq.pos _ hit.2); have := weigh_rdyC (w := wt) hq hc0; rw [← h7] at this; rw [← this]; exact ht, inn_refl _ _⟩
 rintro mt3 ⟨ht3, hin3⟩
 change QM _ _ _ _ _ (rqC b x.g x.fl bm bt x.cur r1 (loadO x.l + (bringO wt 1 4096 - (gQ x.l a).x)) :: (bm, .map esu1 clu1) :: (mt3 ++ [])) _ _ _
 refine QM.then (wpM.seq (wpM.region ?_))
 refine LM.as rfl ?_
 refine LM.nil (QM.sub (e' := [(6, _)]) ⟨rfl, trivial⟩ (QM.then ?_))
 refine wpM.ret ?_
 refine QM.leave (.inl rfl) [.tmp 6] Try.results18 rfl ?_
 intro w' hm' hc' hg'
 have hld : loadO x.l + (bringO wt 1 4096 - (gQ x.l a).x) = loadO (weighQ x a wt).l := (load_set h1 (⟨plcO x (gQ x.l a).V (bringO wt 1 4096), a, bringO wt 1 4096⟩ : Kv)).symm; subst hr1; rw [show weighX x a wt = weighQ x a wt from if_pos h1, decide_eq_true h1]; exact rqm_leaf (x' := weighQ x a wt) hwf hesu1 ht3 hb hbm hm' (by (repeat' (first | exact SubM.nil _ | refine SubM.cons (by first | rfl | (rw [← hld]; done) | (rw [← hld]; rfl)) ?_ | refine SubM.app ?_))) hc' hin3
abbrev qP (c b : Nat) : Nat × Obj := (c, .cells #[.pointer (some ⟨b, 0, none⟩)] 24 (0, 0))
def RqA (b n0 : Nat) (v : Value) (m : Mem0) : Prop := ∃ c1, v = .func (.func 81) #[] #[.pointer (some ⟨c1, 0, none⟩)] ∧ m = [qP c1 b] ∧ n0 ≤ c1
theorem RqA.mono {b : Nat} : ∀ (k k' : Nat) u m, k' ≤ k → RqA b k u m → RqA b k' u m := fun k k' u m h ⟨b1, h1, h2, h3⟩ => ⟨b1, h1, h2, by omega⟩
end Go.Eng
namespace Go.Eng
open Go Go.Proofs Go.RowKit
def fTk (t : Kv) : List Value := [.int .i64 t.id, U t.V, .int .i64 t.x]
abbrev rfC (b : Nat) (g : Int) (fl : BitVec 64) (ad : Option Addr) (n cap : Nat) (cur ran : Int) : Nat × Obj := (b, .cells #[.int .i64 g, U fl, .slice ad n cap, .int .i64 cur, .int .i64 ran] 110 (0, 0))
def RfM (n0 b : Nat) (x : Qm) (m : Mem0) : Prop := QWf x ∧ ∃ (ad : Option Addr) (n cap : Nat) (ms : Mem0), m = rfC b x.g x.fl ad n cap x.cur x.ran :: ms ∧ n = x.l.length ∧ Sl fTk 112 3 n0 x.l (.slice ad n cap) ms ∧ n0 ≤ b
theorem RfM.ge {n0 b : Nat} {x : Qm} {m : Mem0} (h : RfM n0 b x m) : ∀ p ∈ m, n0 ≤ p.1 := by
  obtain ⟨hq, ad, n, cap, ms, rfl, hn, hs, hb⟩ := h
  intro p hp
  rcases List.mem_cons.1 hp with rfl | hp
  · exact hb
  · exact hs.ge p hp
theorem RfM.wlk {n0 b : Nat} {x : Qm} {m : Mem0} (h : RfM n0 b x m) : ∀ p ∈ m, wlk p.2 = false := by
  obtain ⟨hq, ad, n, cap, ms, rfl, hn, hs, hb⟩ := h
  intro p hp
  rcases List.mem_cons.1 hp with rfl | hp
  · rfl
  · exact hs.wlk p hp
theorem RfM.mono {n0 n1 b : Nat} {x : Qm} {m : Mem0} (h : RfM n0 b x m) (hn : n1 ≤ n0) : RfM n1 b x m := by
  obtain ⟨hq, ad, n, cap, ms, rfl, hn', hs, hb⟩ := h
  exact ⟨hq, ad, n, cap, ms, rfl, hn', hs.mono hn, Nat.le_trans hn hb⟩
def RfN (g : Int) (n0 : Nat) (v : Value) (m : Mem0) : Prop := ∃ b, v = .pointer (some ⟨b, 0, none⟩) ∧ RfM n0 b (newQ g) m
theorem RfN.mono {g : Int} : ∀ (n n' : Nat) (v : Value) (m : Mem0), n' ≤ n → RfN g n v m → RfN g n' v m := fun n n' v m hn ⟨b, h1, h⟩ => ⟨b, h1, h.mono hn⟩
end Go.Eng
namespace Go.Eng
open Go Go.Proofs Go.RowKit
end Go.Eng
namespace Go.Eng
open Go Go.Proofs Go.RowKit
theorem upd_m {m m' M : Mem0} {T : Value → Mem0 → Prop} {u : Value} {w w' : World} (hT : T u m') (hm : Mem w' M) (hs : SubM M (m' ++ [])) (hc : Chg (inM m) w w') (hin : inn m w.heap.size m') : Upd m T w u w' := by
  rw [List.append_nil] at hs
  exact ⟨hc, m', hT, hs.mem w' hm, hin⟩
theorem inM_in {m : Mem0} : ∀ p ∈ m, inM m p.1 := fun p hp => ⟨p, hp, rfl⟩
theorem go1_ran {x : Qm} (h : QWf x) : (goQ1 x).ran ≤ x.ran := by
  have := h.ran
  unfold goQ1; split
  · unfold bakQ; split
    · exact this
    · exact Int.le_refl _
  · exact Int.le_refl _
theorem go2_ran {x : Qm} (h : QWf x) : (goQ2 x).ran ≤ x.ran := by
  have h1 := go1_ran h
  have := h.ran
  unfold goQ2; split
  · exact h1
  · unfold pikQ; split
    · exact h1
    · exact this
theorem go_ran {x : Qm} (h : QWf x) : (goQ x).ran ≤ x.ran + 1 := by
  have h2 := go2_ran h
  have : (goQ x).ran = (tickQ (goQ2 x)).ran := (setl_same _).2.2.1
  rw [this]; unfold tickQ; split
  · show (goQ2 x).ran + 1 ≤ _; omega
  · omega
theorem go1_due {x : Qm} (h : dueO x = true) : goQ1 x = bakQ x := if_pos h
theorem go1_not {x : Qm} (h : dueO x = false) : goQ1 x = x := if_neg (by rw [h]; simp)
theorem due_back {x : Qm} (h : dueO x = true) : bakQ x = backQ x := by
  have : 0 ≤ x.cur := by
    rcases Int.lt_or_le x.cur 0 with q | q
    · rw [due_not (by omega)] at h; cases h
    · exact q
  exact if_pos this
set_option maxRecDepth 100000 in
theorem goOn_spec {n0 b : Nat} {x : Qm} {m : Mem0} (w : World) (h : RqM n0 b x m) (hr : x.ran ≤ 1000000000000) (hn0 : n0 ≤ w.heap.size) (hM : Mem w m) : Ret Try.prog 15 #[.pointer (some ⟨b, 0, none⟩)] w (Upd m (fun u m' => u = .int .i64 (goO x) ∧ RqM n0 b (goQ x) m') w) := by
 refine Ret.enterM (l := [.pointer (some ⟨b, 0, none⟩)]) Try.func15 rfl Try.ntmps15 rfl (m ++ []) ((inM m)) (by rw [List.append_nil]; exact hM) ?_
 refine wpM.seq (wpM.region ?_)
 refine LM.as rfl ?_
 refine LM.nil (QM.sub (e' := [(0, _)]) ⟨rfl, trivial⟩ (QM.then ?_))
 refine wpM.seq ?_
 refine wpM.seq (wpM.region ?_)
 refine LM.mv rfl ?_
 refine LM.callE (oc_call (enters_fn Try.func39 (by kernel_rfl) rfl) rfl) (fun w hm hc hg => due_spec w h (hm.pick m)) ?_
 refine LM.nil (QM.sub (e' := [(0, _), (9, _)]) au9 (QM.then ?_))
 refine wpM.joinK (α := Mem0) (fun m1 => []) [(0, _)] (fun m1 => m1 ++ []) (fun m1 => RqM n0 b (goQ1 x) m1 ∧ inn m w.heap.size m1) ⟨rfl, trivial⟩ ?_ ?_
 ·
  first | refine wpM.condD rfl (fun h1 => ?_) (fun h1 => ?_) | refine wpM.condB rfl (fun h1 => ?_) (fun h1 => ?_)
  ·
   refine wpM.region ?_
   refine LM.mv rfl ?_
   refine LM.cU (oc_call (enters_fn Try.func28 (by kernel_rfl) rfl) rfl) (fun w hm hc hg => back_spec w h (Nat.le_trans hn0 hc.size) (hm.pick m)) h.wlk (fun p hp _ => ⟨p, hp, rfl⟩) ?_
   rintro u11 m11 ⟨rfl, h11⟩ hin11
   refine LM.nil (QM.sub (e' := [(0, _)]) ⟨rfl, trivial⟩ ?_)
   refine QM.meetK (m11) ⟨rfl, trivial⟩ au1 ?_
   · exact ⟨by rw [go1_due h1]; exact h11, hin11⟩
  refine wpM.skip ?_
  refine QM.meetK (m) ⟨rfl, trivial⟩ au1 ?_
  · exact ⟨by rw [go1_not h1]; exact h, inn_refl _ _⟩
 rintro m1 ⟨hq1, hi1⟩
 change QM _ _ _ _ _ (m1 ++ []) _ _ _
 refine QM.then ?_
 refine wpM.seq ?_
 refine wpM.seq (wpM.region ?_)
 refine LM.mv rfl ?_
 refine LM.callE (oc_call (enters_fn Try.func37 (by kernel_rfl) rfl) rfl) (fun w hm hc hg => rqCur_spec w hq1 (hm.pick m1)) ?_
 refine LM.mv rfl ?_
 refine LM.val (ov_extract rfl rfl) ?_
 refine LM.val (ov_extract rfl rfl) ?_
 refine LM.val (ov_extract rfl rfl) ?_
 refine LM.as rfl (LM.as rfl (LM.as rfl ?_))
 refine LM.nil (QM.sub (e' := [(0, _), (5, _)]) au9 (QM.then (wpM.seq (wpM.region ?_))))
 refine LM.mv rfl ?_
 refine LM.val (ov_notD rfl) ?_
 refine LM.nil (QM.sub (e' := [(0, _), (19, _)]) au9 (QM.then ?_))
 refine wpM.joinK (α := Mem0) (fun m2 => []) [(0, _)] (fun m2 => m2 ++ []) (fun m2 => RqM n0 b (goQ2 x) m2 ∧ inn m w.heap.size m2) ⟨rfl, trivial⟩ ?_ ?_
 ·
  refine wpM.condD rfl (fun h2 => ?_) (fun h2 => ?_)
  ·
   refine wpM.region ?_
   refine LM.mv rfl ?_
   refine LM.cU (oc_call (enters_fn Try.func26 (by kernel_rfl) rfl) rfl) (fun w hm hc hg => pick_spec w hq1 (hm.pick m1)) hq1.wlk (inn_S hi1 inM_in) ?_
   rintro u21 m21 ⟨rfl, h21⟩ hin21
   refine LM.nil (QM.sub (e' := [(0, _)]) ⟨rfl, trivial⟩ ?_)
   refine QM.meetK (m21) ⟨rfl, trivial⟩ au1 ?_
   · exact ⟨by rw [show goQ2 x = pikQ (goQ1 x) from if_neg (by have := Classical.not_not.1 h2; omega)]; exact h21, inn_trans hi1 hin21⟩
  refine wpM.skip ?_
  refine QM.meetK (m1) ⟨rfl, trivial⟩ au1 ?_
  · exact ⟨by rw [show goQ2 x = goQ1 x from if_pos (cur_pos hq1.1 (Classical.not_not.1 h2))]; exact hq1, hi1⟩
 rintro m2 ⟨hq2, hi2⟩
 change QM _ _ _ _ _ (m2 ++ []) _ _ _
 refine QM.then (wpM.seq (wpM.region ?_))
 refine LM.mv rfl ?_
 refine LM.cU (oc_call (enters_fn Try.func30 (by kernel_rfl) rfl) rfl) (fun w hm hc hg => tick_spec w hq2 (Int.le_trans (go2_ran h.1) hr) (hm.pick m2)) hq2.wlk (inn_S hi2 inM_in) ?_
 rintro u24 m24 ⟨rfl, h24⟩ hin24
 refine LM.mv rfl ?_
 refine LM.val (ov_extract rfl rfl) ?_
 refine LM.val (ov_extract rfl rfl) ?_
 refine LM.as rfl (LM.as rfl ?_)
 refine LM.nil (QM.sub (e' := [(0, _), (6, _)]) au9 (QM.then (wpM.seq (wpM.region ?_))))
 refine LM.mv rfl ?_
 refine LM.cU (oc_call (enters_fn Try.func33 (by kernel_rfl) rfl) rfl) (fun w hm hc hg => settle_spec w h24 (hm.pick m24)) h24.wlk (inn_S (inn_trans hi2 hin24) inM_in) ?_
 rintro u28 m28 ⟨rfl, h28⟩ hin28
 refine LM.nil (QM.sub (e' := [(6, _)]) ⟨rfl, trivial⟩ (QM.then (wpM.seq (wpM.region ?_))))
 refine LM.mv rfl (LM.as rfl ?_)
 refine LM.nil (QM.sub (e' := [(2, _)]) ⟨rfl, trivial⟩ (QM.then ?_))
 refine wpM.ret ?_
 refine QM.leave (.inl rfl) [.tmp 2] Try.results15 rfl ?_
 intro w' hm' hc' hg'
 exact upd_m ⟨rfl, h28⟩ hm' au1 hc' (inn_trans (inn_trans hi2 hin24) hin28)
def awQ : Nat → Qm
  | 0 => addX (addX (newQ 1) 1 0#64 2) 2 0#64 1
  | k + 1 => goQ (awQ k)
def awN : Nat → Int
  | 0 => 0
  | k + 1 => if goO (awQ k) = 1 then awN k + 1 else awN k
theorem awQ_wf : ∀ k, QWf (awQ k)
  | 0 => addX_wf (addX_wf (new_wf 1) _ _ _) _ _ _
  | k + 1 => go_wf (awQ_wf k)
theorem awQ_ran : ∀ k, (awQ k).ran ≤ k
  | 0 => by have : (awQ 0).ran = 0 := by kernel_rfl
            omega
  | k + 1 => by have := go_ran (awQ_wf k); have := awQ_ran k; show (goQ (awQ k)).ran ≤ _; omega
theorem awN_pos {k : Nat} (h : goO (awQ k) = 1) : awN k + 1 = awN (k + 1) := by rw [show awN (k + 1) = if goO (awQ k) = 1 then awN k + 1 else awN k from rfl, if_pos h]
theorem awN_neg {k : Nat} (h : ¬ goO (awQ k) = 1) : awN k = awN (k + 1) := by rw [show awN (k + 1) = if goO (awQ k) = 1 then awN k + 1 else awN k from rfl, if_neg h]
theorem awN_bd : ∀ k, 0 ≤ awN k ∧ awN k ≤ k
  | 0 => ⟨Int.le_refl _, Int.le_refl _⟩
  | k + 1 => by have := awN_bd k; unfold awN; split <;> omega
theorem aw6 : awN 6 = 4 ∧ (gQ (awQ 6).l 1).V = 2199023255552#64 ∧ decide (ixO (awQ 6).l 1 < (awQ 6).l.length) = true ∧ (awQ 6).fl = 2199023255552#64 ∧ loadO (awQ 6).l = 3 ∧ (awQ 6).l.length = 2 := by
  refine ⟨?_, ?_, ?_, ?_, ?_, ?_⟩ <;> kernel_rfl
set_option maxRecDepth 100000 in
theorem awake16_spec (w : World) : Ret Try.prog 11 #[] w (fun v w' => v = .bool true ∧ Ext w w') := by
 refine Ret.enterM (l := []) Try.func11 rfl Try.ntmps11 rfl ([]) (no) (Mem.nil w) ?_
 refine wpM.seq (wpM.region ?_)
 refine LM.as rfl ?_
 refine LM.nil (QM.sub (e' := []) trivial (QM.then (wpM.seq (wpM.region ?_))))
 refine LM.callT (oc_call (enters_fn Try.func12 (by kernel_rfl) rfl) rfl) RqN.mono (fun w hm hc hg => rqnew_spec 1 w) ?_
 rintro u5 m5 ⟨b, rfl, h5⟩ hge5
 refine LM.as rfl ?_
 refine LM.nil (QM.sub (e' := [(1, _)]) ⟨rfl, trivial⟩ (QM.then (wpM.seq (wpM.region ?_))))
 refine LM.mv rfl ?_
 refine LM.cU (oc_call (enters_fn Try.func13 (by kernel_rfl) rfl) rfl) (fun w hm hc hg => rqAdd_spec 1 0#64 2 w h5 hc.size (hm.pick m5)) h5.wlk (fun p hp hlt => absurd hlt (Nat.not_lt_of_le (h5.ge p hp))) ?_
 rintro u7 m7 ⟨rfl, h7⟩ hin7
 refine LM.nil (QM.sub (e' := [(1, _)]) ⟨rfl, trivial⟩ (QM.then (wpM.seq (wpM.region ?_))))
 refine LM.mv rfl ?_
 refine LM.cU (oc_call (enters_fn Try.func13 (by kernel_rfl) rfl) rfl) (fun w hm hc hg => rqAdd_spec 2 0#64 1 w h7 hc.size (hm.pick m7)) h7.wlk (fun p hp hlt => absurd hlt (Nat.not_lt_of_le (h7.ge p hp))) ?_
 rintro u9 m9 ⟨rfl, h9⟩ hin9
 refine LM.nil (QM.sub (e' := [(1, _)]) ⟨rfl, trivial⟩ (QM.then (wpM.seq (wpM.region ?_))))
 refine LM.as rfl ?_
 refine LM.nil (QM.sub (e' := [(1, _), (2, _)]) au9 (QM.then ?_))
 refine wpM.seq ?_
 refine wpM.seq (wpM.region ?_)
 refine LM.mv rfl ?_
 refine LM.nil (QM.sub (e' := [(1, _), (2, _), (10, _)]) au9 (QM.then ?_))
 refine wpM.block ?_
 refine wpM.loopK0 (α := Nat × Mem0) (fun ⟨i, mi⟩ => [(2, .int .i64 (awN i)), (10, .int .i64 (i : Nat))]) [(1, _)] (fun ⟨i, mi⟩ => mi ++ []) (fun ⟨i, mi⟩ => i ≤ 6 ∧ RqM w.heap.size b (awQ i) mi) (fun ⟨i, mi⟩ => 6 - i) ((0, m9)) ⟨(by first | exact lk rfl (congrArg (Value.int .i64) (awN_pos (by assumption))) | exact lk rfl (congrArg (Value.int .i64) (awN_neg (by assumption))) | rfl), au2, rfl, trivial⟩ au1 ⟨by omega, h9⟩ ?_
 rintro ⟨i, mi⟩ ⟨hi, hq⟩
 change wpM _ _ _ _ _ _ _ (mi ++ []) _ _ _
 have hnb := awN_bd i; have hrn := awQ_ran i
 refine wpM.seq (wpM.region ?_)
 refine LM.val (ov_lss rfl rfl) ?_
 refine LM.nil (QM.sub (e' := [(1, _), (2, _), (10, _), (11, _)]) au9 (QM.then ?_))
 refine wpM.seq ?_
 refine wpM.condD rfl (fun h1 => ?_) (fun h1 => ?_)
 ·
  refine wpM.skip ?_
  refine QM.then ?_
  refine wpM.seq ?_
  refine wpM.block ?_
  refine wpM.seq (wpM.region ?_)
  refine LM.mv rfl ?_
  refine LM.cU (oc_call (enters_fn Try.func15 (by kernel_rfl) rfl) rfl) (fun w hm hc hg => goOn_spec w hq (by omega) hc.size (hm.pick mi)) hq.wlk (fun p hp hlt => absurd hlt (Nat.not_lt_of_le (hq.ge p hp))) ?_
  rintro u13 m13 ⟨rfl, h13⟩ hin13
  refine LM.val (ov_eql rfl rfl) ?_
  refine LM.nil (QM.sub (e' := [(1, _), (2, _), (10, _), (14, _)]) au9 (QM.then ?_))
  refine wpM.condD rfl (fun h2 => ?_) (fun h2 => ?_)
  ·
   refine wpM.region ?_
   refine LM.mv rfl ?_
   refine LM.val (ov_add64 rfl rfl (by omega)) ?_
   refine LM.as rfl ?_
   refine LM.nil (QM.sub (e' := [(1, _), (2, _), (10, _)]) au9 ?_)
   refine QM.block_normal ?_
   refine QM.then (wpM.region ?_)
   refine LM.val (ov_add64 rfl rfl (by omega)) ?_
   refine LM.mv rfl ?_
   refine LM.nil (QM.sub (e' := [(1, _), (2, _), (10, _)]) au9 ?_)
   refine QM.againK (i + 1, m13) ⟨(by first | exact lk rfl (congrArg (Value.int .i64) (awN_pos (by assumption))) | exact lk rfl (congrArg (Value.int .i64) (awN_neg (by assumption))) | rfl), au2, rfl, trivial⟩ au1 (fun _ h => h) ?_ ?_
   · exact ⟨by omega, h13⟩
   · first | omega | (dsimp only; omega)
  refine wpM.skip ?_
  refine QM.block_normal ?_
  refine QM.then (wpM.region ?_)
  refine LM.val (ov_add64 rfl rfl (by omega)) ?_
  refine LM.mv rfl ?_
  refine LM.nil (QM.sub (e' := [(1, _), (2, _), (10, _)]) au9 ?_)
  refine QM.againK (i + 1, m13) ⟨(by first | exact lk rfl (congrArg (Value.int .i64) (awN_pos (by assumption))) | exact lk rfl (congrArg (Value.int .i64) (awN_neg (by assumption))) | rfl), au2, rfl, trivial⟩ au1 (fun _ h => h) ?_ ?_
  · exact ⟨by omega, h13⟩
  · first | omega | (dsimp only; omega)
 have hi6 : i = 6 := (by omega); subst hi6; obtain ⟨e1, e2, e3, e4, e5, e6⟩ := aw6
 refine wpM.exit ?_
 refine QM.then_exit ?_
 refine QM.then_exit ?_
 refine QM.block_hit ?_
 refine QM.then (wpM.seq (wpM.region ?_))
 refine LM.mv rfl ?_
 refine LM.callE (oc_call (enters_fn Try.func14 (by kernel_rfl) rfl) rfl) (fun w hm hc hg => rqV_spec 1 w hq (hm.pick mi)) ?_
 refine LM.mv rfl ?_
 refine LM.val (ov_extract rfl rfl) ?_
 refine LM.val (ov_extract rfl rfl) ?_
 refine LM.as rfl (LM.as rfl ?_)
 refine LM.nil (QM.sub (e' := [(1, _), (2, _), (3, _), (4, _)]) au9 (QM.then (wpM.seq (wpM.region ?_))))
 refine LM.mv rfl ?_
 refine LM.val (ov_eql rfl rfl) ?_
 refine LM.mv rfl ?_
 refine LM.splitD (t := 25) rfl (fun h3 => ?_) (fun h3 => ?_)
 ·
  refine LM.sp 25 rfl rfl rfl (LM.mv rfl ?_)
  refine LM.val (ov_pickT rfl rfl) ?_
  refine LM.mv rfl ?_
  refine LM.splitD (t := 28) rfl (fun h4 => ?_) (fun h4 => ?_)
  ·
   refine LM.sp 28 rfl rfl rfl (LM.mv rfl (LM.sp 28 rfl rfl rfl ?_))
   refine LM.val (ov_ueql (b := 2199023255552#64) rfl rfl) ?_
   refine LM.val (ov_pickT rfl rfl) ?_
   refine LM.mv rfl ?_
   refine LM.splitD (t := 32) rfl (fun h5 => ?_) (fun h5 => ?_)
   ·
    refine LM.sp 32 rfl rfl rfl (LM.mv rfl (LM.sp 32 rfl rfl rfl ?_))
    refine LM.callE (oc_call (enters_fn Try.func19 (by kernel_rfl) rfl) rfl) (fun w hm hc hg => rqFlo_spec w hq (hm.pick mi)) ?_
    refine LM.sp 32 rfl rfl rfl ?_
    refine LM.val (ov_ueql (b := 2199023255552#64) rfl rfl) ?_
    refine LM.val (ov_pickT rfl rfl) ?_
    refine LM.mv rfl ?_
    refine LM.splitD (t := 37) rfl (fun h6 => ?_) (fun h6 => ?_)
    ·
     refine LM.sp 37 rfl rfl rfl (LM.mv rfl (LM.sp 37 rfl rfl rfl ?_))
     refine LM.callE (oc_call (enters_fn Try.func41 (by kernel_rfl) rfl) rfl) (fun w hm hc hg => rqLoad_spec w hq (hm.pick mi)) ?_
     refine LM.sp 37 rfl rfl rfl ?_
     refine LM.val (ov_eql rfl rfl) ?_
     refine LM.val (ov_pickT rfl rfl) ?_
     refine LM.mv rfl ?_
     refine LM.splitD (t := 42) rfl (fun h7 => ?_) (fun h7 => ?_)
     ·
      refine LM.sp 42 rfl rfl rfl (LM.mv rfl (LM.sp 42 rfl rfl rfl ?_))
      refine LM.callE (oc_call (enters_fn Try.func40 (by kernel_rfl) rfl) rfl) (fun w hm hc hg => rqLen_spec w hq (hm.pick mi)) ?_
      refine LM.sp 42 rfl rfl rfl ?_
      refine LM.val (ov_eql rfl rfl) ?_
      refine LM.val (ov_pickT rfl rfl) ?_
      refine LM.as rfl ?_
      refine LM.nil (QM.sub (e' := [(0, _)]) ⟨rfl, trivial⟩ (QM.then ?_))
      refine wpM.ret ?_
      refine QM.leave (.inl rfl) [.tmp 0] Try.results11 rfl ?_
      intro w' hm' hc' hg'
      exact ⟨rfl, hc'⟩
     refine LM.dr 42 rfl rfl rfl (LM.dr 42 rfl rfl rfl (LM.dr 42 rfl rfl rfl ?_))
     refine LM.val (ov_pickF rfl rfl) ?_
     refine LM.as rfl ?_
     refine LM.nil (QM.sub (e' := [(0, _)]) ⟨rfl, trivial⟩ (QM.then ?_))
     refine wpM.ret ?_
     refine QM.leave (.inl rfl) [.tmp 0] Try.results11 rfl ?_
     intro w' hm' hc' hg'
     first | exact ⟨rfl, hc'⟩ | (exfalso; first | omega | (simp at *; done) | (simp_all; done))
    refine LM.dr 37 rfl rfl rfl (LM.dr 37 rfl rfl rfl (LM.dr 37 rfl rfl rfl ?_))
    refine LM.val (ov_pickF rfl rfl) ?_
    refine LM.mv rfl (LM.dr 42 rfl rfl rfl (LM.dr 42 rfl rfl rfl (LM.dr 42 rfl rfl rfl ?_)))
    refine LM.val (ov_pickF rfl rfl) ?_
    refine LM.as rfl ?_
    refine LM.nil (QM.sub (e' := [(0, _)]) ⟨rfl, trivial⟩ (QM.then ?_))
    refine wpM.ret ?_
    refine QM.leave (.inl rfl) [.tmp 0] Try.results11 rfl ?_
    intro w' hm' hc' hg'
    first | exact ⟨rfl, hc'⟩ | (exfalso; first | omega | (simp at *; done) | (simp_all; done))
   refine LM.dr 32 rfl rfl rfl (LM.dr 32 rfl rfl rfl (LM.dr 32 rfl rfl rfl ?_))
   refine LM.val (ov_pickF rfl rfl) ?_
   refine LM.mv rfl (LM.dr 37 rfl rfl rfl (LM.dr 37 rfl rfl rfl (LM.dr 37 rfl rfl rfl ?_)))
   refine LM.val (ov_pickF rfl rfl) ?_
   refine LM.mv rfl (LM.dr 42 rfl rfl rfl (LM.dr 42 rfl rfl rfl (LM.dr 42 rfl rfl rfl ?_)))
   refine LM.val (ov_pickF rfl rfl) ?_
   refine LM.as rfl ?_
   refine LM.nil (QM.sub (e' := [(0, _)]) ⟨rfl, trivial⟩ (QM.then ?_))
   refine wpM.ret ?_
   refine QM.leave (.inl rfl) [.tmp 0] Try.results11 rfl ?_
   intro w' hm' hc' hg'
   first | exact ⟨rfl, hc'⟩ | (exfalso; first | omega | (simp at *; done) | (simp_all; done))
  refine LM.dr 28 rfl rfl rfl (LM.dr 28 rfl rfl rfl ?_)
  refine LM.val (ov_pickF rfl rfl) ?_
  refine LM.mv rfl (LM.dr 32 rfl rfl rfl (LM.dr 32 rfl rfl rfl (LM.dr 32 rfl rfl rfl ?_)))
  refine LM.val (ov_pickF rfl rfl) ?_
  refine LM.mv rfl (LM.dr 37 rfl rfl rfl (LM.dr 37 rfl rfl rfl (LM.dr 37 rfl rfl rfl ?_)))
  refine LM.val (ov_pickF rfl rfl) ?_
  refine LM.mv rfl (LM.dr 42 rfl rfl rfl (LM.dr 42 rfl rfl rfl (LM.dr 42 rfl rfl rfl ?_)))
  refine LM.val (ov_pickF rfl rfl) ?_
  refine LM.as rfl ?_
  refine LM.nil (QM.sub (e' := [(0, _)]) ⟨rfl, trivial⟩ (QM.then ?_))
  refine wpM.ret ?_
  refine QM.leave (.inl rfl) [.tmp 0] Try.results11 rfl ?_
  intro w' hm' hc' hg'
  first | exact ⟨rfl, hc'⟩ | (exfalso; first | omega | (simp at *; done) | (simp_all; done))
 refine LM.dr 25 rfl rfl rfl ?_
 refine LM.val (ov_pickF rfl rfl) ?_
 refine LM.mv rfl (LM.dr 28 rfl rfl rfl (LM.dr 28 rfl rfl rfl ?_))
 refine LM.val (ov_pickF rfl rfl) ?_
 refine LM.mv rfl (LM.dr 32 rfl rfl rfl (LM.dr 32 rfl rfl rfl (LM.dr 32 rfl rfl rfl ?_)))
 refine LM.val (ov_pickF rfl rfl) ?_
 refine LM.mv rfl (LM.dr 37 rfl rfl rfl (LM.dr 37 rfl rfl rfl (LM.dr 37 rfl rfl rfl ?_)))
 refine LM.val (ov_pickF rfl rfl) ?_
 refine LM.mv rfl (LM.dr 42 rfl rfl rfl (LM.dr 42 rfl rfl rfl (LM.dr 42 rfl rfl rfl ?_)))
 refine LM.val (ov_pickF rfl rfl) ?_
 refine LM.as rfl ?_
 refine LM.nil (QM.sub (e' := [(0, _)]) ⟨rfl, trivial⟩ (QM.then ?_))
 refine wpM.ret ?_
 refine QM.leave (.inl rfl) [.tmp 0] Try.results11 rfl ?_
 intro w' hm' hc' hg'
 first | exact ⟨rfl, hc'⟩ | (exfalso; first | omega | (simp at *; done) | (simp_all; done))
end Go.Eng
namespace Go.Eng
open Go Go.Proofs Go.RowKit
end Go.Eng
namespace Go.Eng
open Go Go.Proofs Go.RowKit
structure Ded where
  kind : Int
  id : Int
  V : BitVec 64
  W : Int
instance : Inhabited Ded := ⟨⟨0, 0, 0#64, 0⟩⟩
def fDd (d : Ded) : List Value := [.int .u8 d.kind, .int .i64 d.id, U d.V, .int .i64 d.W]
def RzB (x : Qm) (B : Int) : Prop := (x.cur = -1 → x.ran = 0) ∧ x.ran ≤ B
theorem RzB.mono {x : Qm} {B C : Int} (h : RzB x B) (hc : B ≤ C) : RzB x C := ⟨h.1, Int.le_trans h.2 hc⟩
set_option maxRecDepth 100000 in
theorem rdb_forelocklaw16_Deed : Rdb Try.prog 40 fDd (fun a => (0 ≤ a.kind ∧ a.kind ≤ 255) ∧ (-9223372036854775808 ≤ a.id ∧ a.id ≤ 9223372036854775807) ∧ (-9223372036854775808 ≤ a.W ∧ a.W ≤ 9223372036854775807)) := fun {H enc w base sp held fuel cs x} h => by
  obtain ⟨h1, h2⟩ := trod_fields Try.underlying40 h
  rw [show Try.prog.cellsOf 40 = 4 by kernel_rfl] at h1
  have c3 : Try.prog.cellsOf 3 = 1 := by kernel_rfl
  have c5 : Try.prog.cellsOf 5 = 1 := by kernel_rfl
  have c26 : Try.prog.cellsOf 26 = 1 := by kernel_rfl
  match cs, h1 with
  | [a0, a1, a2, a3], _ =>
    simp only [List.forall_mem_cons, c3, c5, c26, List.drop_succ_cons, List.drop_zero, List.take_succ_cons, List.take_zero] at h2
    obtain ⟨⟨_, _, f0⟩, ⟨_, _, f1⟩, ⟨_, _, f2⟩, ⟨_, _, f3⟩, _⟩ := h2
    obtain ⟨m0, e0, _, w0⟩ := DataW.trod_int Try.underlying5 f0
    obtain ⟨m1, e1, _, w1⟩ := DataW.trod_int Try.underlying3 f1
    obtain ⟨m2, e2, _, w2⟩ := DataW.trod_int Try.underlying26 f2
    obtain ⟨m3, e3, _, w3⟩ := DataW.trod_int Try.underlying3 f3
    obtain ⟨x2, rfl⟩ := bv_of (bounds_u64 w2)
    simp only [List.cons.injEq, and_true] at e0 e1 e2 e3
    subst e0
    subst e1
    subst e2
    subst e3
    exact ⟨⟨m0, m1, x2, m3⟩, rfl, ⟨bounds_u8 w0, bounds_i64 w1, bounds_i64 w3⟩⟩
end Go.Eng
namespace Go.Eng
open Go Go.RowKit
theorem ix_ids : ∀ {l l' : List Kv}, l.map (·.id) = l'.map (·.id) → ∀ a, ixO l a = ixO l' a
  | [], [], _, _ => rfl
  | [], _ :: _, h, _ => by cases h
  | _ :: _, [], h, _ => by cases h
  | t :: l, t' :: l', h, a => by
    rw [List.map_cons, List.map_cons, List.cons.injEq] at h
    rw [ixO_cons, ixO_cons, h.1, ix_ids h.2 a]
theorem gQ_mem {l : List Kv} (hn : (l.map (·.id)).Nodup) {t : Kv} (ht : t ∈ l) {a : Int} (e : t.id = a) : gQ l a = t := by
  have h := ixO_hit (l := l) (a := a) (ixO_lt.2 ⟨t, ht, e⟩)
  exact uniq_id hn h.2 ht (h.1.trans e.symm)
theorem gQ_in {l : List Kv} {a : Int} (h : ixO l a < l.length) : gQ l a ∈ l ∧ (gQ l a).id = a := ⟨(ixO_hit h).2, (ixO_hit h).1⟩
theorem gQ_set_eq {l : List Kv} (hn : (l.map (·.id)).Nodup) {a : Int} (h : ixO l a < l.length) {y : Kv} (hy : y.id = a) : gQ (l.set (ixO l a) y) a = y :=
  gQ_mem (by rw [map_set_at h hy]; exact hn) ((mem_set_at hn h hy y).2 (.inl rfl)) hy
theorem gQ_set_ne {l : List Kv} (hn : (l.map (·.id)).Nodup) {a i : Int} (h : ixO l a < l.length) {y : Kv} (hy : y.id = a) (hi : i ≠ a) : gQ (l.set (ixO l a) y) i = gQ l i := by
  have hids := map_set_at h hy
  by_cases hx : ixO l i < l.length
  · obtain ⟨h1, h2⟩ := gQ_in hx
    exact gQ_mem (by rw [hids]; exact hn) ((mem_set_at hn h hy _).2 (.inr ⟨h1, by rw [h2]; exact hi⟩)) h2
  · rw [gQ_none hx, gQ_none (by rw [ix_ids hids, List.length_set]; exact hx)]
/-! a go -/
theorem bak_l (x : Qm) : (bakQ x).l = x.l ∧ (bakQ x).fl = x.fl ∧ (bakQ x).g = x.g := by unfold bakQ; split <;> exact ⟨rfl, rfl, rfl⟩
theorem pik_l (x : Qm) : (pikQ x).l = x.l ∧ (pikQ x).fl = x.fl ∧ (pikQ x).g = x.g := by unfold pikQ; split <;> exact ⟨rfl, rfl, rfl⟩
theorem go1_l (x : Qm) : (goQ1 x).l = x.l ∧ (goQ1 x).fl = x.fl ∧ (goQ1 x).g = x.g := by unfold goQ1; split; exact bak_l x; exact ⟨rfl, rfl, rfl⟩
theorem go2_l (x : Qm) : (goQ2 x).l = x.l ∧ (goQ2 x).fl = x.fl ∧ (goQ2 x).g = x.g := by
  unfold goQ2; split
  · exact go1_l x
  · have h := pik_l (goQ1 x); have h1 := go1_l x
    exact ⟨h.1.trans h1.1, h.2.1.trans h1.2.1, h.2.2.trans h1.2.2⟩
inductive GoW (x : Qm) : Prop
  | on (h0 : 0 ≤ x.cur) (hd : dueO x = false) (e : goQ2 x = x) : GoW x
  | new (h0 : 0 ≤ (goQ2 x).cur) (hr : (goQ2 x).ran = 0) (hx : ixO x.l (goQ2 x).cur < x.l.length) (hm : ∀ t ∈ x.l, (gQ x.l (goQ2 x).cur).V.toNat ≤ t.V.toNat) : GoW x
theorem go_who {x : Qm} (h : QWf x) (hl : x.l ≠ []) : GoW x := by
  have h1 := go1_wf h
  obtain ⟨e1, e2, e3⟩ := go1_l x
  by_cases hc : 0 ≤ (goQ1 x).cur
  · have hg : goQ2 x = goQ1 x := if_pos hc
    cases hd : dueO x with
    | false => exact .on (by rw [go1_not hd] at hc; exact hc) hd (by rw [hg, go1_not hd])
    | true =>
      rw [go1_due hd, due_back hd] at hc
      exact absurd (show (0 : Int) ≤ -1 from hc) (by decide)
  · have hg : goQ2 x = pikQ (goQ1 x) := if_neg hc
    have hcm := h1.cur0 hc
    have hne : rdyO (goQ1 x) ≠ [] := fun q => hl (by rw [← e1]; exact (min_none h1 hc).1 q)
    obtain ⟨t, l, e⟩ := ne_cons hne
    obtain ⟨hp1, hp2⟩ := pickO_hit h1 hcm e
    have htm := (rdy_hd_mem h1 e).1
    rw [e1] at htm
    rw [hp2] at hg
    have hcur : (goQ2 x).cur = t.id := by rw [hg]; rfl
    have hix : ixO x.l t.id < x.l.length := ixO_lt.2 ⟨t, htm, rfl⟩
    refine .new (by rw [hcur]; exact h.pos t htm) (by rw [hg]; rfl) (by rw [hcur]; exact hix) (fun s hs => ?_)
    rw [hcur, gQ_mem h.nd htm rfl]
    have hsr : s ∈ rdyO (goQ1 x) := (rdy_mem h1.nd s).2 ⟨by rw [e1]; exact hs, by rw [hcm]; have := h.pos s hs; omega⟩
    exact srt_hd (l := l) (by rw [← e]; exact rdy_srt h1.nd) s (by rw [← e]; exact hsr)
theorem go_pos {x : Qm} (h : QWf x) (hl : x.l ≠ []) : 0 ≤ goO x ∧ ixO x.l (goO x) < x.l.length := by
  cases go_who h hl with
  | on h0 hd e => unfold goO; rw [e]; exact ⟨h0, h.ix h0⟩
  | new h0 hr hx hm => exact ⟨h0, hx⟩
theorem go_empty {x : Qm} (h : QWf x) (hl : x.l = []) : goO x = -1 ∧ goQ x = setlQ (goQ2 x) := by
  have h2 := go2_wf h
  have : ¬ 0 ≤ (goQ2 x).cur := fun q => by
    have := h2.ix q
    rw [(go2_l x).1, hl] at this; simp at this
  exact ⟨h2.cur0 this, by unfold goQ; rw [show tickQ (goQ2 x) = goQ2 x from if_neg this]⟩
theorem go_l {x : Qm} (h : QWf x) (hl : x.l ≠ []) : (goQ x).l = tickL x.l (goO x) ∧ (goQ x).ran = (goQ2 x).ran + 1 ∧ (goQ x).cur = goO x ∧ (goQ x).g = x.g := by
  obtain ⟨h0, hx⟩ := go_pos h hl
  obtain ⟨s1, s2, s3, s4⟩ := setl_same (tickQ (goQ2 x))
  have ht : tickQ (goQ2 x) = { goQ2 x with l := tickL (goQ2 x).l (goQ2 x).cur, ran := (goQ2 x).ran + 1 } := if_pos h0
  have hgo : goQ x = setlQ (tickQ (goQ2 x)) := rfl
  obtain ⟨e1, e2, e3⟩ := go2_l x
  refine ⟨?_, ?_, ?_, ?_⟩
  · rw [hgo, s1, ht]; show tickL (goQ2 x).l (goQ2 x).cur = _; rw [e1]; rfl
  · rw [hgo, s3, ht]
  · rw [hgo, s2, ht]; rfl
  · rw [hgo, s4, ht]; exact e3
theorem go_ids {x : Qm} (h : QWf x) : (goQ x).l.map (·.id) = x.l.map (·.id) := by
  by_cases hl : x.l = []
  · rw [(go_empty h hl).2, (setl_same _).1, (go2_l x).1]
  · rw [(go_l h hl).1, tickL_eq (go_pos h hl).2, map_set_at (go_pos h hl).2 rfl]
theorem go_V {x : Qm} (h : QWf x) (hl : x.l ≠ []) (i : Int) : gQ (goQ x).l i = if i = goO x then ⟨addO (gQ x.l i).V (coreO (gQ x.l i).x), i, (gQ x.l i).x⟩ else gQ x.l i := by
  rw [(go_l h hl).1, tickL_eq (go_pos h hl).2]
  by_cases e : i = goO x
  · rw [if_pos e, e]; exact gQ_set_eq h.nd (go_pos h hl).2 rfl
  · rw [if_neg e]; exact gQ_set_ne h.nd (go_pos h hl).2 rfl e
theorem go_x {x : Qm} (h : QWf x) (i : Int) : (gQ (goQ x).l i).x = (gQ x.l i).x := by
  by_cases hl : x.l = []
  · rw [(go_empty h hl).2, (setl_same _).1, (go2_l x).1]
  · rw [go_V h hl]; split <;> rfl
/-! bounds -/
theorem bring_same {n lo hi : Int} (h : lo ≤ hi) : bringO (bringO n lo hi) lo hi = bringO n lo hi := by
  have := bring_in (n := n) h
  unfold bringO at *; (repeat' split) <;> omega
theorem bring_id {n lo hi : Int} (h : lo ≤ n ∧ n ≤ hi) : bringO n lo hi = n := by unfold bringO; (repeat' split) <;> omega
theorem core_bring (w : Int) : coreO (bringO w 1 4096) = coreO w := by unfold coreO; rw [bring_same (by decide)]
theorem reach_bring (w g : Int) : reachO (bringO w 1 4096) (bringO g 1 8) = reachO w g := by unfold reachO; rw [core_bring, bring_same (by decide)]
theorem ofInt_nat {n : Int} (h : 0 ≤ n) (h2 : n ≤ 1000000) : (BitVec.ofInt 64 n).toNat = n.toNat := by
  rw [BitVec.toNat_ofInt, Int.emod_eq_of_lt h (by show n < 18446744073709551616; omega)]
theorem core_nat {w : Int} (h : 1 ≤ w ∧ w ≤ 4096) : (coreO w).toNat = 1099511627776 / w.toNat := by
  unfold coreO; rw [bring_id h, BitVec.toNat_udiv, ofInt_nat (by omega) (by omega)]; rfl
theorem core_le (w : Int) : (coreO w).toNat ≤ 1099511627776 := by
  rw [← core_bring, core_nat (bring_in (by decide))]; exact Nat.div_le_self _ _
theorem reach_nat {w g : Int} (hg : 1 ≤ g ∧ g ≤ 8) : (reachO w g).toNat = (coreO w).toNat * g.toNat := by
  unfold reachO
  rw [bring_id hg, BitVec.toNat_mul, ofInt_nat (by omega) (by omega)]
  refine Nat.mod_eq_of_lt ?_
  have h1 := core_le w
  have h2 : g.toNat ≤ 8 := by omega
  have := Nat.mul_le_mul h1 h2
  show _ < 18446744073709551616
  omega
theorem addO_ge (a b : BitVec 64) : a.toNat ≤ (addO a b).toNat := by
  unfold addO; split
  · rw [BitVec.toNat_add, Nat.mod_eq_of_lt (by omega)]; omega
  · have := a.isLt; show _ ≤ 18446744073709551615; omega
theorem addO_le (a b : BitVec 64) : (addO a b).toNat ≤ a.toNat + b.toNat := by
  unfold addO; split
  · rw [BitVec.toNat_add, Nat.mod_eq_of_lt (by omega)]; exact Nat.le_refl _
  · show 18446744073709551615 ≤ _; omega
theorem addO_eq {a b : BitVec 64} (h : a.toNat + b.toNat < 18446744073709551616) : addO a b = a + b ∧ (addO a b).toNat = a.toNat + b.toNat := by
  refine ⟨if_pos h, ?_⟩
  rw [show addO a b = a + b from if_pos h, BitVec.toNat_add]; exact Nat.mod_eq_of_lt h
theorem clamp_ge (v fl r : BitVec 64) : fl.toNat ≤ (clampO v fl r).toNat := by
  unfold clampO; split
  · exact Nat.le_refl _
  · split
    · exact addO_ge fl r
    · omega
theorem clamp_le (v fl r : BitVec 64) : (clampO v fl r).toNat ≤ fl.toNat + r.toNat := by
  have h1 := addO_le fl r
  unfold clampO; split
  · omega
  · split
    · exact h1
    · have := v.isLt
      by_cases h : fl.toNat + r.toNat < 18446744073709551616
      · have := (addO_eq h).2; omega
      · omega
theorem clamp_id {v fl r : BitVec 64} (h1 : fl.toNat ≤ v.toNat) (h2 : v.toNat ≤ fl.toNat + r.toNat) : clampO v fl r = v := by
  unfold clampO
  rw [if_neg (by omega), if_neg (fun q => ?_)]
  have := v.isLt
  by_cases h : fl.toNat + r.toNat < 18446744073709551616
  · have := (addO_eq h).2; omega
  · rw [show addO fl r = 18446744073709551615#64 from if_neg h] at q
    have : (18446744073709551615#64).toNat = 18446744073709551615 := rfl
    omega
end Go.Eng
namespace Go.Eng
open Go Go.Proofs Go.RowKit
structure TkI (ws : List Int) (k : Nat) (x : Qm) : Prop where
  ids : x.l.map (·.id) = (List.range k).map (fun (i : Nat) => (i : Int))
  xs : ∀ i : Nat, i < k → (gQ x.l i).x = bringO (ws.getD i 0) 1 4096
def VB (x : Qm) (B : Nat) : Prop := (∀ t ∈ x.l, t.V.toNat ≤ B) ∧ x.fl.toNat ≤ B
theorem VB.mono {x : Qm} {B C : Nat} (h : VB x B) (hc : B ≤ C) : VB x C := ⟨fun t ht => Nat.le_trans (h.1 t ht) hc, Nat.le_trans h.2 hc⟩
theorem TkI.len {ws : List Int} {k : Nat} {x : Qm} (h : TkI ws k x) : x.l.length = k := by
  have := congrArg List.length h.ids; simpa using this
theorem TkI.ix {ws : List Int} {k : Nat} {x : Qm} (h : TkI ws k x) {i : Nat} (hi : i < k) : ixO x.l (i : Int) < x.l.length := by
  have : (i : Int) ∈ x.l.map (·.id) := by rw [h.ids]; exact List.mem_map.2 ⟨i, List.mem_range.2 hi, rfl⟩
  obtain ⟨t, ht, e⟩ := List.mem_map.1 this
  exact ixO_lt.2 ⟨t, ht, e⟩
theorem TkI.id {ws : List Int} {k : Nat} {x : Qm} (h : TkI ws k x) {a : Int} (ha : ixO x.l a < x.l.length) : 0 ≤ a ∧ a < k := by
  obtain ⟨t, ht, e⟩ := ixO_lt.1 ha
  have : t.id ∈ x.l.map (·.id) := List.mem_map.2 ⟨t, ht, rfl⟩
  rw [h.ids] at this
  obtain ⟨i, hi, e2⟩ := List.mem_map.1 this
  have := List.mem_range.1 hi
  have e3 : (i : Int) = t.id := e2
  omega
theorem addX_cr (x : Qm) (a : Int) (v : BitVec 64) (w : Int) : (addX x a v w).ran = x.ran := by unfold addX; split <;> rfl
end Go.Eng
namespace Go.Eng
open Go Go.Proofs Go.RowKit
abbrev bI (n : Int) : BitVec 64 := BitVec.ofInt 64 n
theorem bI_nat {n : Int} (h : 0 ≤ n) (h2 : n < 4294967296) : (bI n).toNat = n.toNat := by
  rw [BitVec.toNat_ofInt, Int.emod_eq_of_lt h (by show n < 18446744073709551616; omega)]
theorem bI_lt {x y : Int} (hx : 0 ≤ x ∧ x < 4294967296) (hy : 0 ≤ y ∧ y < 4294967296) : (bI x).toNat < (bI y).toNat ↔ x < y := by
  rw [bI_nat hx.1 hx.2, bI_nat hy.1 hy.2]; omega
theorem cmp_bI {x y : Int} (hx : 0 ≤ x ∧ x < 4294967296) (hy : 0 ≤ y ∧ y < 4294967296) : cmpU (bI x) (bI y) = cmpI x y := by
  unfold cmpU cmpI
  by_cases h : x < y
  · rw [if_pos ((bI_lt hx hy).2 h), if_pos h]
  · rw [if_neg (fun q => h ((bI_lt hx hy).1 q)), if_neg h]
    by_cases h2 : y < x
    · rw [if_pos ((bI_lt hy hx).2 h2), if_pos h2]
    · rw [if_neg (fun q => h2 ((bI_lt hy hx).1 q)), if_neg h2]
theorem or_find (c : Int) : ([cmpU 0#64 0#64, c].find? (fun x => decide (x ≠ 0))).getD 0 = c := by
  rw [show cmpU 0#64 0#64 = 0 from rfl]
  by_cases h : c = 0
  · subst h; rfl
  · simp [List.find?, h]
theorem sub64_bI {x y : Int} (hx : 0 ≤ x ∧ x < 4294967296) (hy : 0 ≤ y ∧ y ≤ x) (w : World) : (callFunc 118 #[U (bI x), U (bI y), U 0#64]).run Try.prog w = .ok (.value (.tuple #[U (bI (x - y)), U 0#64])) w := by
  have h := run_callFunc_extern (P := Try.prog) (e := sub64Entry) (f := 118) Try.func118 (by kernel_rfl) (by kernel_rfl) (by kernel_rfl) (by kernel_rfl) #[U (bI x), U (bI y), U 0#64] w
  rw [h, show (#[U (bI x), U (bI y), U 0#64] : Array Value) = #[.int .u64 ((bI x).toNat : Int), .int .u64 ((bI y).toNat : Int), .int .u64 ((0 : Nat) : Int)] from rfl, run_sub64 (bI x).toNat (bI y).toNat 0 (by decide) w]
  rw [bI_nat hx.1 hx.2, bI_nat hy.1 (by omega)]
  have e1 : (((x.toNat + 18446744073709551616 - y.toNat - 0) % 18446744073709551616 : Nat) : Int) = ((bI (x - y)).toNat : Int) := by
    rw [bI_nat (by omega) (by omega)]; omega
  simp only [Result.andThen]
  rw [e1, if_neg (by omega : ¬ x.toNat < y.toNat + 0)]
  rfl
theorem cmpI_neg {x y : Int} (h : cmpI x y < 0) : x < y := by unfold cmpI at h; split at h; assumption; split at h <;> omega
theorem cmpI_nneg {x y : Int} (h : ¬ cmpI x y < 0) : ¬ x < y := by unfold cmpI at h; split at h; omega; assumption
set_option maxRecDepth 100000 in
theorem wagainst_spec (x y : Int) (w : World) (hx : 0 ≤ x ∧ x < 4294967296) (hy : 0 ≤ y ∧ y < 4294967296) : Ret Try.prog 98 #[.agg #[U 0#64, U (bI x)], .agg #[U 0#64, U (bI y)]] w (fun v w' => v = .int .i64 (cmpI x y) ∧ Ext w w') := by
 refine Ret.enterM (l := [.agg #[U 0#64, U (bI x)], .agg #[U 0#64, U (bI y)]]) Try.func98 rfl Try.ntmps98 rfl ([]) (no) (Mem.nil w) ?_
 refine wpM.seq (wpM.region ?_)
 refine LM.box rfl rfl (fun b2 hb2 => ?_)
 refine LM.box rfl rfl (fun b3 hb3 => ?_)
 refine LM.as rfl ?_
 refine LM.nil (QM.sub (e' := [(2, _), (3, _)]) au9 (QM.then ?_))
 refine wpM.seq ?_
 refine wpM.draw [(0, 0), (1, 1), (2, 0), (3, 1), (5, 0), (6, 1), (7, 0), (8, 1), (4, 2), (9, 2), (10, 3), (11, 3), (12, 3)] (by kernel_rfl) (by kernel_rfl) ?_
 refine LD.val rfl rfl (ov_field Try.underlying140 rfl Try.sizeOf26 rfl (k := 0) rfl rfl) ?_
 refine LD.rd rfl rfl (om_ld Try.isAgg26 rfl rfl) ?_
 refine LD.val rfl rfl (ov_field Try.underlying140 rfl Try.sizeOf26 rfl (k := 0) rfl rfl) ?_
 refine LD.rd rfl rfl (om_ld Try.isAgg26 rfl rfl) ?_
 refine LD.val rfl rfl (ov_field Try.underlying140 rfl Try.sizeOf26 rfl (k := 1) rfl rfl) ?_
 refine LD.rd rfl rfl (om_ld Try.isAgg26 rfl rfl) ?_
 refine LD.val rfl rfl (ov_field Try.underlying140 rfl Try.sizeOf26 rfl (k := 1) rfl rfl) ?_
 refine LD.rd rfl rfl (om_ld Try.isAgg26 rfl rfl) ?_
 refine LD.callE rfl rfl (oc_call (enters_fn Try.func110 (by kernel_rfl) rfl) rfl) (fun w hm hc hg => cmpU_spec 0#64 0#64 w) ?_
 refine LD.callE rfl rfl (oc_call (enters_fn Try.func110 (by kernel_rfl) rfl) rfl) (fun w hm hc hg => cmpU_spec (bI x) (bI y) w) ?_
 refine LD.tail rfl rfl ?_
 refine LM.row (vs := [_, _]) Try.underlying47 Try.sizeOf3 Try.zeroValue3 rfl rfl rfl rfl rfl rfl (fun b15 hb15 => ?_)
 refine LM.callE (oc_call (enters_fn Try.func109 (by kernel_rfl) rfl) rfl) (fun w hm hc hg => (or_find (cmpU (bI x) (bI y))) ▸ cmpOr_spec (xs := [cmpU 0#64 0#64, cmpU (bI x) (bI y)]) w rfl (Sr.row (hm.at b15) rfl rfl (Nat.le_refl _) (fun _ => rfl)) (by simp)) ?_
 refine LM.as rfl ?_
 refine LM.nil ?_
 refine QM.qn ?_
 refine QM.sub (e' := [(4, _)]) ⟨rfl, trivial⟩ (QM.then ?_)
 refine wpM.ret ?_
 refine QM.leave (.inl rfl) [.tmp 4] Try.results98 rfl ?_
 intro w' hm' hc' hg'
 refine ⟨?_, hc'⟩; simp only [resV]; rw [cmp_bI hx hy]
def aptI (x y : Int) : Int := if x < y then y - x else x - y
set_option maxRecDepth 100000 in
theorem apart_spec (x y : Int) (w : World) (hx : 0 ≤ x ∧ x < 4294967296) (hy : 0 ≤ y ∧ y < 4294967296) : Ret Try.prog 97 #[.agg #[U 0#64, U (bI x)], .agg #[U 0#64, U (bI y)]] w (fun v w' => v = .agg #[U 0#64, U (bI (aptI x y))] ∧ Ext w w') := by
 refine Ret.enterM (l := [.agg #[U 0#64, U (bI x)], .agg #[U 0#64, U (bI y)]]) Try.func97 rfl Try.ntmps97 rfl ([]) (no) (Mem.nil w) ?_
 refine wpM.seq (wpM.region ?_)
 refine LM.box rfl rfl (fun b2 hb2 => ?_)
 refine LM.box rfl rfl (fun b3 hb3 => ?_)
 refine LM.alloc Try.zeroValue140 rfl (fun b4 hb4 => ?_)
 refine LM.nil (QM.sub (e' := [(2, _), (3, _), (4, _)]) au9 (QM.then ?_))
 refine wpM.seq ?_
 refine wpM.seq (wpM.region ?_)
 refine LM.rd (om_ldW Try.isAgg140 Try.sizeOf140 rfl rfl) ?_
 refine LM.rd (om_ldW Try.isAgg140 Try.sizeOf140 rfl rfl) ?_
 refine LM.callE (oc_call (enters_fn Try.func98 (by kernel_rfl) rfl) rfl) (fun w hm hc hg => wagainst_spec x y w hx hy) ?_
 refine LM.val (ov_lss rfl rfl) ?_
 refine LM.nil (QM.sub (e' := [(2, _), (3, _), (4, _), (12, _)]) au9 (QM.then ?_))
 refine wpM.joinK (α := Int × Int) (fun ⟨p, q⟩ => []) [(2, _), (3, _), (4, _)] (fun ⟨p, q⟩ => (b2, .cells #[U 0#64, U (bI p)] 140 (0, 0)) :: (b3, .cells #[U 0#64, U (bI q)] 140 (0, 0)) :: (b4, .cells #[U 0#64, U 0#64] 140 (0, 0)) :: []) (fun ⟨p, q⟩ => 0 ≤ q ∧ q ≤ p ∧ p < 4294967296 ∧ p - q = aptI x y) ⟨rfl, rfl, rfl, trivial⟩ ?_ ?_
 ·
  refine wpM.condD rfl (fun h1 => ?_) (fun h1 => ?_)
  ·
   refine wpM.region ?_
   refine LM.rd (om_ldW Try.isAgg140 Try.sizeOf140 rfl rfl) ?_
   refine LM.rd (om_ldW Try.isAgg140 Try.sizeOf140 rfl rfl) ?_
   refine LM.stW Try.sizeOf140 rfl rfl rfl rfl au7 au8 ?_
   refine LM.stW Try.sizeOf140 rfl rfl rfl rfl au7 au8 ?_
   refine LM.mem (SubM.mem (M' := (b2, .cells #[U 0#64, U (bI y)] 140 (0, 0)) :: (b3, .cells #[U 0#64, U (bI x)] 140 (0, 0)) :: (b4, .cells #[U 0#64, U 0#64] 140 (0, 0)) :: []) au1) ?_
   refine LM.nil (QM.sub (e' := [(2, _), (3, _), (4, _)]) au9 ?_)
   refine QM.meetK (y, x) ⟨rfl, rfl, rfl, trivial⟩ au1 ?_
   · have h2 : x < y := cmpI_neg h1; exact ⟨hx.1, by omega, hy.2, (if_pos h2).symm⟩
  refine wpM.skip ?_
  refine QM.meetK (x, y) ⟨rfl, rfl, rfl, trivial⟩ au1 ?_
  · have h2 : ¬ x < y := cmpI_nneg h1; exact ⟨hy.1, by omega, hx.2, (if_neg h2).symm⟩
 rintro ⟨p, q⟩ ⟨hq0, hqp, hp, he⟩
 change QM _ _ _ _ _ ((b2, .cells #[U 0#64, U (bI p)] 140 (0, 0)) :: (b3, .cells #[U 0#64, U (bI q)] 140 (0, 0)) :: (b4, .cells #[U 0#64, U 0#64] 140 (0, 0)) :: []) _ _ _
 refine QM.then (wpM.seq (wpM.region ?_))
 refine LM.val (ov_field Try.underlying140 rfl Try.sizeOf26 rfl (k := 1) rfl rfl) ?_
 refine LM.rd (om_ld Try.isAgg26 rfl rfl) ?_
 refine LM.val (ov_field Try.underlying140 rfl Try.sizeOf26 rfl (k := 1) rfl rfl) ?_
 refine LM.rd (om_ld Try.isAgg26 rfl rfl) ?_
 refine LM.val (ov_callX rfl (sub64_bI ⟨by omega, hp⟩ ⟨hq0, hqp⟩)) ?_
 refine LM.mv rfl ?_
 refine LM.val (ov_extract rfl rfl) ?_
 refine LM.val (ov_extract rfl rfl) ?_
 refine LM.as rfl (LM.as rfl ?_)
 refine LM.nil (QM.sub (e' := [(2, _), (3, _), (4, _), (5, _), (6, _)]) au9 (QM.then (wpM.seq (wpM.region ?_))))
 refine LM.val (ov_field Try.underlying140 rfl Try.sizeOf26 rfl (k := 0) rfl rfl) ?_
 refine LM.rd (om_ld Try.isAgg26 rfl rfl) ?_
 refine LM.val (ov_field Try.underlying140 rfl Try.sizeOf26 rfl (k := 0) rfl rfl) ?_
 refine LM.rd (om_ld Try.isAgg26 rfl rfl) ?_
 refine LM.mv rfl ?_
 refine LM.val (ov_callX rfl (sub64_bI (x := 0) (y := 0) ⟨by decide, by decide⟩ ⟨by decide, by decide⟩)) ?_
 refine LM.mv rfl ?_
 refine LM.val (ov_extract rfl rfl) ?_
 refine LM.val (ov_extract rfl rfl) ?_
 refine LM.as rfl (LM.as rfl ?_)
 refine LM.nil (QM.sub (e' := [(4, _), (5, _), (7, _)]) au9 (QM.then (wpM.seq (wpM.region ?_))))
 refine LM.mv rfl (LM.mv rfl ?_)
 refine LM.val (ov_build (cs := #[_, _]) rfl (by first | rfl | kernel_rfl)) ?_
 refine LM.stW Try.sizeOf140 rfl rfl rfl rfl au7 au8 ?_
 refine LM.nil (QM.sub (e' := [(4, _)]) ⟨rfl, trivial⟩ (QM.then ?_))
 refine wpM.ret ?_
 refine QM.leaveCs (ds := ([])) (.inl rfl) [.cell 4 140] Try.results97 hd_nil (rc_w rfl Try.isAgg140 Try.sizeOf140 rfl rc_nil) ?_
 intro w' hm' hc'
 rw [← he]; exact ⟨rfl, hc'⟩
end Go.Eng
namespace Go.Eng
open Go Go.RowKit
structure LagI (x : Qm) : Prop where
  wf : QWf x
  all : ∀ t ∈ x.l, x.fl.toNat ≤ t.V.toNat ∧ t.V.toNat ≤ x.fl.toNat + (coreO t.x).toNat * x.g.toNat
  cur : 0 ≤ x.cur → 1 ≤ x.ran ∧ (gQ x.l x.cur).V.toNat ≤ x.fl.toNat + (coreO (gQ x.l x.cur).x).toNat * (min x.ran x.g).toNat
theorem lag_new (g : Int) : LagI (newQ g) := ⟨new_wf g, fun t h => (by cases h), fun h => absurd h (by show ¬ (0 : Int) ≤ -1; decide)⟩
theorem ixO_hitApp {l m : List Kv} {a : Int} (h : ixO l a < l.length) : ixO (l ++ m) a = ixO l a := by
  induction l with
  | nil => simp at h
  | cons t l ih =>
    rw [List.cons_append, ixO_cons, ixO_cons]
    rw [ixO_cons] at h
    by_cases e : t.id = a
    · rw [if_pos e, if_pos e]
    · rw [if_neg e, List.length_cons] at h
      rw [if_neg e, if_neg e, ih (by omega)]
theorem gQ_app {l m : List Kv} {a : Int} (h : ixO l a < l.length) : gQ (l ++ m) a = gQ l a := by
  unfold gQ; rw [ixO_hitApp h, List.getD_eq_getElem?_getD, List.getElem?_append_left h, ← List.getD_eq_getElem?_getD]
theorem plc_ge (x : Qm) (v : BitVec 64) (w : Int) : x.fl.toNat ≤ (plcO x v w).toNat := clamp_ge _ _ _
theorem plc_le {x : Qm} (h : QWf x) (v : BitVec 64) (w : Int) : (plcO x v w).toNat ≤ x.fl.toNat + (coreO w).toNat * x.g.toNat := by
  have := clamp_le v x.fl (reachO w x.g)
  rw [reach_nat h.g] at this; exact this
theorem lag_add {x : Qm} (h : LagI x) (a : Int) (v : BitVec 64) (w : Int) : LagI (addX x a v w) := by
  unfold addX
  split
  · rename_i hE
    refine ⟨add_wf h.wf hE, fun t ht => ?_, fun hc => ?_⟩
    · rcases List.mem_append.1 ht with q | q
      · exact h.all t q
      · rw [List.mem_singleton] at q; subst q
        exact ⟨plc_ge x v _, plc_le h.wf v _⟩
    · have hix := h.wf.ix hc
      have := h.cur hc
      show 1 ≤ x.ran ∧ (gQ (x.l ++ [_]) x.cur).V.toNat ≤ x.fl.toNat + (coreO (gQ (x.l ++ [_]) x.cur).x).toNat * _
      rw [gQ_app hix]; exact this
  · exact h
theorem lag_rem {x : Qm} (h : LagI x) (a : Int) : LagI (remX x a) := by
  unfold remX
  split
  · rename_i hix
    have hwf := rem_wf h.wf hix
    have hm := mem_erase_at h.wf.nd hix
    unfold remQ at hwf ⊢
    split
    · rename_i hc
      rw [if_pos hc] at hwf
      exact ⟨hwf, fun t ht => h.all t ((hm t).1 ht).1, fun q => absurd q (by show ¬ (0 : Int) ≤ -1; decide)⟩
    · rename_i hc
      rw [if_neg hc] at hwf
      refine ⟨hwf, fun t ht => h.all t ((hm t).1 ht).1, fun q => ?_⟩
      have hq : 0 ≤ x.cur := q
      obtain ⟨g1, g2⟩ := gQ_in (h.wf.ix hq)
      have e : gQ (x.l.eraseIdx (ixO x.l a)) x.cur = gQ x.l x.cur := gQ_mem hwf.nd ((hm _).2 ⟨g1, by rw [g2]; exact hc⟩) g2
      show 1 ≤ x.ran ∧ (gQ (x.l.eraseIdx (ixO x.l a)) x.cur).V.toNat ≤ x.fl.toNat + (coreO (gQ (x.l.eraseIdx (ixO x.l a)) x.cur).x).toNat * _
      rw [e]; exact h.cur hq
  · exact h
theorem lag_weigh {x : Qm} (h : LagI x) (a w : Int) : LagI (weighX x a w) := by
  unfold weighX
  split
  · rename_i hix
    have hwf := weigh_wf (w := w) h.wf hix
    have hg := h.wf.g
    refine ⟨hwf, fun t ht => ?_, fun hc => ?_⟩
    · rcases (mem_set_at h.wf.nd hix (y := ⟨plcO x (gQ x.l a).V (bringO w 1 4096), a, bringO w 1 4096⟩) rfl t).1 ht with rfl | q
      · exact ⟨plc_ge x _ _, plc_le h.wf _ _⟩
      · exact h.all t q.1
    · have hc0 : 0 ≤ x.cur := hc
      obtain ⟨c1, c2⟩ := h.cur hc0
      show 1 ≤ (if (gQ x.l a).x ≠ bringO w 1 4096 ∧ x.cur = a then x.g else x.ran) ∧ (gQ (x.l.set (ixO x.l a) ⟨plcO x (gQ x.l a).V (bringO w 1 4096), a, bringO w 1 4096⟩) x.cur).V.toNat ≤
        x.fl.toNat + (coreO (gQ (x.l.set (ixO x.l a) ⟨plcO x (gQ x.l a).V (bringO w 1 4096), a, bringO w 1 4096⟩) x.cur).x).toNat * (min (if (gQ x.l a).x ≠ bringO w 1 4096 ∧ x.cur = a then x.g else x.ran) x.g).toNat
      by_cases e : x.cur = a
      · rw [show gQ (x.l.set (ixO x.l a) ⟨plcO x (gQ x.l a).V (bringO w 1 4096), a, bringO w 1 4096⟩) x.cur = ⟨plcO x (gQ x.l a).V (bringO w 1 4096), a, bringO w 1 4096⟩ by rw [e]; exact gQ_set_eq h.wf.nd hix rfl]
        by_cases hx : (gQ x.l a).x = bringO w 1 4096
        · rw [if_neg (fun q => q.1 hx)]
          refine ⟨c1, ?_⟩
          have hal := h.all _ (gQ_in hix).1
          rw [hx] at hal
          have hp : plcO x (gQ x.l a).V (bringO w 1 4096) = (gQ x.l a).V := clamp_id hal.1 (by rw [reach_nat hg]; exact hal.2)
          show (plcO x (gQ x.l a).V (bringO w 1 4096)).toNat ≤ _ + (coreO (bringO w 1 4096)).toNat * _
          rw [hp, ← hx, ← e]; exact c2
        · rw [if_pos ⟨hx, e⟩]
          refine ⟨hg.1, ?_⟩
          show (plcO x (gQ x.l a).V (bringO w 1 4096)).toNat ≤ _ + (coreO (bringO w 1 4096)).toNat * (min x.g x.g).toNat
          rw [Int.min_self]; exact plc_le h.wf _ _
      · rw [if_neg (fun q => e q.2), gQ_set_ne h.wf.nd hix rfl e]
        exact ⟨c1, c2⟩
  · exact h
theorem setl_fl {x : Qm} (hl : x.l ≠ []) : (setlQ x).fl.toNat = max x.fl.toNat (minO x.l).toNat := by
  rw [setlQ_pos hl]
  show (if x.fl.toNat < (minO x.l).toNat then minO x.l else x.fl).toNat = _
  split <;> omega
theorem go_fl {x : Qm} (h : QWf x) (hl : x.l ≠ []) : (goQ x).fl.toNat = max x.fl.toNat (minO (goQ x).l).toNat := by
  have hne : (tickQ (goQ2 x)).l ≠ [] := fun q => hl (by
    have h1 := (go_l h hl).1
    have h2 : (goQ x).l = (tickQ (goQ2 x)).l := (setl_same _).1
    rw [h2, q] at h1
    have := congrArg List.length h1
    unfold tickL at this
    rw [List.length_set] at this
    exact List.eq_nil_of_length_eq_zero this.symm)
  have h1 : (goQ x).fl.toNat = max (tickQ (goQ2 x)).fl.toNat (minO (tickQ (goQ2 x)).l).toNat := setl_fl hne
  have h2 : (goQ x).l = (tickQ (goQ2 x)).l := (setl_same _).1
  have h3 : (tickQ (goQ2 x)).fl = x.fl := by
    have : (tickQ (goQ2 x)).fl = (goQ2 x).fl := by unfold tickQ; split <;> rfl
    rw [this]; exact (go2_l x).2.1
  rw [h1, h2, h3]
theorem go_mem {x : Qm} (h : QWf x) (hl : x.l ≠ []) {t : Kv} (ht : t ∈ (goQ x).l) : (t.id = goO x ∧ t = ⟨addO (gQ x.l (goO x)).V (coreO (gQ x.l (goO x)).x), goO x, (gQ x.l (goO x)).x⟩) ∨ (t.id ≠ goO x ∧ t ∈ x.l) := by
  obtain ⟨h0, hx⟩ := go_pos h hl
  rw [(go_l h hl).1, tickL_eq hx] at ht
  rcases (mem_set_at h.nd hx (y := ⟨addO (gQ x.l (goO x)).V (coreO (gQ x.l (goO x)).x), goO x, (gQ x.l (goO x)).x⟩) rfl t).1 ht with e | e
  · exact .inl ⟨by rw [e], e⟩
  · exact .inr ⟨e.2, e.1⟩
theorem go_floor {x : Qm} (h : QWf x) (hl : x.l ≠ []) (hm : ∀ t ∈ x.l, (gQ x.l (goO x)).V.toNat ≤ t.V.toNat) : (gQ x.l (goO x)).V.toNat ≤ (goQ x).fl.toNat := by
  rw [go_fl h hl]
  have hne : (goQ x).l ≠ [] := fun q => hl (by
    have h1 := (go_l h hl).1
    rw [q] at h1
    have := congrArg List.length h1
    unfold tickL at this
    rw [List.length_set] at this
    exact List.eq_nil_of_length_eq_zero this.symm)
  obtain ⟨⟨t, ht, e⟩, _⟩ := minO_spec hne
  have : (gQ x.l (goO x)).V.toNat ≤ t.V.toNat := by
    rcases go_mem h hl ht with ⟨_, q⟩ | ⟨_, q⟩
    · rw [q]; exact addO_ge _ _
    · exact hm t q
  rw [← e]; omega
theorem lag_go {x : Qm} (h : LagI x) : LagI (goQ x) := by
  have hwf := go_wf h.wf
  have hg := h.wf.g
  by_cases hl : x.l = []
  · obtain ⟨e1, e2⟩ := go_empty h.wf hl
    have hll : (goQ x).l = [] := by rw [e2, (setl_same _).1, (go2_l x).1, hl]
    refine ⟨hwf, fun t ht => (by rw [hll] at ht; cases ht), fun hc => ?_⟩
    have := hwf.ix hc
    rw [hll] at this; simp at this
  · obtain ⟨h0, hx⟩ := go_pos h.wf hl
    obtain ⟨l1, l2, l3, l4⟩ := go_l h.wf hl
    have hfl := go_fl h.wf hl
    obtain ⟨c1, c2⟩ := gQ_in hx
    have hall := h.all _ c1
    have hmin : ∀ t ∈ (goQ x).l, (minO (goQ x).l).toNat ≤ t.V.toNat := fun t ht => (minO_spec (fun q => by rw [q] at ht; cases ht)).2 t ht
    -- the one that has the tick
    have key : 1 ≤ (goQ2 x).ran + 1 ∧ (addO (gQ x.l (goO x)).V (coreO (gQ x.l (goO x)).x)).toNat ≤ (goQ x).fl.toNat + (coreO (gQ x.l (goO x)).x).toNat * (min ((goQ2 x).ran + 1) x.g).toNat := by
      have ha := addO_le (gQ x.l (goO x)).V (coreO (gQ x.l (goO x)).x)
      have h2r := (go2_wf h.wf).ran
      refine ⟨by omega, ?_⟩
      have hone : (goQ x).fl.toNat + (coreO (gQ x.l (goO x)).x).toNat ≤ (goQ x).fl.toNat + (coreO (gQ x.l (goO x)).x).toNat * (min ((goQ2 x).ran + 1) x.g).toNat := by
        have : 1 ≤ (min ((goQ2 x).ran + 1) x.g).toNat := by omega
        have := Nat.mul_le_mul_left (coreO (gQ x.l (goO x)).x).toNat this
        omega
      cases go_who h.wf hl with
      | new h0 hr hx' hm =>
        have := go_floor h.wf hl hm
        omega
      | on hc hd e =>
        have hgo : goO x = x.cur := by unfold goO; rw [e]
        rw [e] at h2r hone ⊢
        rw [hgo] at ha hone ⊢
        obtain ⟨k1, k2⟩ := h.cur hc
        by_cases hrg : x.ran < x.g
        · have e1 : (min (x.ran + 1) x.g).toNat = (min x.ran x.g).toNat + 1 := by omega
          rw [e1, Nat.mul_succ]
          have : x.fl.toNat ≤ (goQ x).fl.toNat := by rw [hfl]; omega
          omega
        · have hm : ∀ t ∈ x.l, (gQ x.l x.cur).V.toNat ≤ t.V.toNat := fun t ht => by
            by_cases et : t.id = x.cur
            · rw [gQ_mem h.wf.nd ht et]; exact Nat.le_refl _
            · have htr : t ∈ rdyO x := (rdy_mem h.wf.nd t).2 ⟨ht, et⟩
              obtain ⟨s, r, er⟩ := ne_cons (l := rdyO x) (fun q => by rw [q] at htr; cases htr)
              rw [due_if ⟨hc, by omega⟩, er] at hd
              have hd2 := of_decide_eq_false hd
              have := srt_hd (l := r) (by rw [← er]; exact rdy_srt h.wf.nd) t (by rw [← er]; exact htr)
              omega
          have := go_floor h.wf hl (by rw [hgo]; exact hm)
          rw [hgo] at this
          omega
    refine ⟨hwf, fun t ht => ?_, fun hc => ?_⟩
    · have hlow := hmin t ht
      rw [l4]
      rcases go_mem h.wf hl ht with ⟨_, q⟩ | ⟨_, q⟩
      · rw [q]
        show _ ≤ (addO (gQ x.l (goO x)).V (coreO (gQ x.l (goO x)).x)).toNat ∧ (addO (gQ x.l (goO x)).V (coreO (gQ x.l (goO x)).x)).toNat ≤ _ + (coreO (gQ x.l (goO x)).x).toNat * x.g.toNat
        have hlow2 : (minO (goQ x).l).toNat ≤ (addO (gQ x.l (goO x)).V (coreO (gQ x.l (goO x)).x)).toNat := by rw [q] at hlow; exact hlow
        have hge := addO_ge (gQ x.l (goO x)).V (coreO (gQ x.l (goO x)).x)
        refine ⟨by rw [hfl]; omega, ?_⟩
        have : (min ((goQ2 x).ran + 1) x.g).toNat ≤ x.g.toNat := by omega
        have := Nat.mul_le_mul_left (coreO (gQ x.l (goO x)).x).toNat this
        omega
      · have := h.all t q
        exact ⟨by rw [hfl]; omega, by rw [hfl]; omega⟩
    · rw [l2, l3, l4, go_V h.wf hl, if_pos rfl]
      exact key
theorem lag_at {x : Qm} (h : LagI x) {a : Int} (hx : ixO x.l a < x.l.length) : x.fl.toNat ≤ (gQ x.l a).V.toNat ∧ (gQ x.l a).V.toNat - x.fl.toNat ≤ (reachO (gQ x.l a).x x.g).toNat := by
  have := h.all _ (gQ_in hx).1
  rw [reach_nat h.wf.g]
  omega
end Go.Eng
namespace Go.Eng
open Go Go.RowKit
structure FairH (U g D T : Int) (n : Nat) (w t c a b : Nat → Int) : Prop where
  g0 : 0 ≤ g
  hU : ∀ i, i < n → ∃ r, w i * c i + r = U ∧ 0 ≤ r ∧ r ≤ w i
  ht : ∀ i, i < n → t i * c i = D + b i - a i
  ha : ∀ i, i < n → 0 ≤ a i ∧ a i ≤ g * c i
  hb : ∀ i, i < n → 0 ≤ b i ∧ b i ≤ g * c i
  w0 : ∀ i, i < n → 0 ≤ w i
  t0 : ∀ i, i < n → 0 ≤ t i ∧ t i ≤ T
end Go.Eng
namespace Go.Eng
open Go Go.Proofs Go.RowKit
end Go.Eng
namespace Go.Eng
open Go Go.Proofs Go.RowKit
theorem go_g {x : Qm} (h : QWf x) : (goQ x).g = x.g := by
  have h1 := (setl_same (tickQ (goQ2 x))).2.2.2
  have : (tickQ (goQ2 x)).g = (goQ2 x).g := by unfold tickQ; split <;> rfl
  show (setlQ (tickQ (goQ2 x))).g = _
  rw [h1, this, (go2_l x).2.2]
theorem addX_g (x : Qm) (a : Int) (v : BitVec 64) (w : Int) : (addX x a v w).g = x.g := by unfold addX; split <;> rfl
end Go.Eng
namespace Go.Eng
open Go Go.Proofs Go.RowKit
theorem aput_mem : ∀ {m : List (Int × Value)} {a : Int} {v : Value}, (m.map (·.1)).Nodup → ∀ p ∈ aput m a v, p = (a, v) ∨ (p ∈ m ∧ p.1 ≠ a)
  | [], a, v, _, p, hp => by rw [aput_nil, List.mem_singleton] at hp; exact .inl hp
  | (b, u) :: m, a, v, hn, p, hp => by
    rw [List.map_cons, List.nodup_cons] at hn
    rw [aput_cons] at hp
    by_cases h : a = b
    · rw [if_pos h] at hp
      rcases List.mem_cons.1 hp with q | q
      · exact .inl q
      · exact .inr ⟨List.mem_cons_of_mem _ q, fun e => hn.1 (List.mem_map.2 ⟨p, q, by rw [e, h]⟩)⟩
    · rw [if_neg h] at hp
      rcases List.mem_cons.1 hp with q | q
      · rw [q]; exact .inr ⟨List.mem_cons_self .., fun e => h e.symm⟩
      · rcases aput_mem hn.2 p q with z | z
        · exact .inl z
        · exact .inr ⟨List.mem_cons_of_mem _ z.1, z.2⟩
theorem adel_mem : ∀ {m : List (Int × Value)} {a : Int}, (m.map (·.1)).Nodup → ∀ p ∈ adel m a, p ∈ m ∧ p.1 ≠ a
  | [], a, _, p, hp => by cases hp
  | (b, u) :: m, a, hn, p, hp => by
    rw [List.map_cons, List.nodup_cons] at hn
    rw [adel_cons] at hp
    by_cases h : a = b
    · rw [if_pos h] at hp
      exact ⟨List.mem_cons_of_mem _ hp, fun e => hn.1 (List.mem_map.2 ⟨p, hp, by rw [e, h]⟩)⟩
    · rw [if_neg h] at hp
      rcases List.mem_cons.1 hp with q | q
      · rw [q]; exact ⟨List.mem_cons_self .., fun e => h e.symm⟩
      · have z := adel_mem hn.2 p q
        exact ⟨List.mem_cons_of_mem _ z.1, z.2⟩
theorem aput_keys : ∀ {m : List (Int × Value)} {a : Int} {v : Value}, (m.map (·.1)).Nodup → ((aput m a v).map (·.1)).Nodup
  | [], a, v, _ => by rw [aput_nil]; simp
  | (b, u) :: m, a, v, hn => by
    rw [List.map_cons, List.nodup_cons] at hn
    rw [aput_cons]
    by_cases h : a = b
    · subst h; rw [if_pos rfl, List.map_cons, List.nodup_cons]; exact hn
    · rw [if_neg h, List.map_cons, List.nodup_cons]
      refine ⟨fun q => ?_, aput_keys hn.2⟩
      obtain ⟨p, hp, e⟩ := List.mem_map.1 q
      rcases aput_mem hn.2 p hp with z | z
      · rw [z] at e; exact h e
      · exact hn.1 (List.mem_map.2 ⟨p, z.1, e⟩)
theorem adel_keys : ∀ {m : List (Int × Value)} {a : Int}, (m.map (·.1)).Nodup → ((adel m a).map (·.1)).Nodup
  | [], a, _ => List.nodup_nil
  | (b, u) :: m, a, hn => by
    rw [List.map_cons, List.nodup_cons] at hn
    rw [adel_cons]
    by_cases h : a = b
    · rw [if_pos h]; exact hn.2
    · rw [if_neg h, List.map_cons, List.nodup_cons]
      refine ⟨fun q => ?_, adel_keys hn.2⟩
      obtain ⟨p, hp, e⟩ := List.mem_map.1 q
      exact hn.1 (List.mem_map.2 ⟨p, (adel_mem hn.2 p hp).1, e⟩)
def WtI (x : Qm) (m : List (Int × Value)) : Prop := (m.map (·.1)).Nodup ∧ ∀ p ∈ m, ∃ v, p.2 = .int .i64 v ∧ ixO x.l p.1 < x.l.length ∧ (gQ x.l p.1).x = bringO v 1 4096
theorem wt_nil (x : Qm) : WtI x [] := ⟨List.nodup_nil, fun p h => (by cases h)⟩
theorem wt_go {x : Qm} {m : List (Int × Value)} (hq : QWf x) (h : WtI x m) : WtI (goQ x) m := ⟨h.1, fun p hp => by
  obtain ⟨v, h1, h2, h3⟩ := h.2 p hp
  have hids := go_ids hq
  have hlen : (goQ x).l.length = x.l.length := by have := congrArg List.length hids; simpa using this
  exact ⟨v, h1, by rw [ix_ids hids, hlen]; exact h2, by rw [go_x hq]; exact h3⟩⟩
theorem wt_add {x : Qm} {m : List (Int × Value)} (hq : QWf x) (h : WtI x m) {a w : Int} {v : BitVec 64} (hE : addE x a = 0) : WtI (addX x a v w) (aput m a (.int .i64 w)) := by
  have hwf := add_wf (v := v) (w := w) hq hE
  rw [show addX x a v w = addQ x a v w from if_pos hE]
  refine ⟨aput_keys h.1, fun p hp => ?_⟩
  rcases aput_mem h.1 p hp with q | ⟨q, _⟩
  · subst q
    have hmem : (⟨plcO x v (bringO w 1 4096), a, bringO w 1 4096⟩ : Kv) ∈ (addQ x a v w).l := List.mem_append_right _ (List.mem_singleton.2 rfl)
    exact ⟨w, rfl, ixO_lt.2 ⟨_, hmem, rfl⟩, by rw [gQ_mem hwf.nd hmem rfl]⟩
  · obtain ⟨v', h1, h2, h3⟩ := h.2 p q
    refine ⟨v', h1, ?_, ?_⟩
    · show ixO (x.l ++ [_]) p.1 < (x.l ++ [_]).length
      rw [ixO_hitApp h2, List.length_append]; omega
    · show (gQ (x.l ++ [_]) p.1).x = _
      rw [gQ_app h2]; exact h3
theorem wt_rem {x : Qm} {m : List (Int × Value)} (hq : QWf x) (h : WtI x m) (a : Int) : WtI (remX x a) (adel m a) := by
  refine ⟨adel_keys h.1, fun p hp => ?_⟩
  obtain ⟨q1, q2⟩ := adel_mem h.1 p hp
  obtain ⟨v', h1, h2, h3⟩ := h.2 p q1
  unfold remX
  split
  · rename_i hix
    have hwf := rem_wf hq hix
    obtain ⟨g1, g2⟩ := gQ_in h2
    have hmem : gQ x.l p.1 ∈ (remQ x a).l := by rw [remQ_l]; exact (mem_erase_at hq.nd hix _).2 ⟨g1, by rw [g2]; exact q2⟩
    exact ⟨v', h1, ixO_lt.2 ⟨_, hmem, g2⟩, by rw [gQ_mem hwf.nd hmem g2]; exact h3⟩
  · exact ⟨v', h1, h2, h3⟩
theorem wt_weigh {x : Qm} {m : List (Int × Value)} (hq : QWf x) (h : WtI x m) {a w : Int} (hix : ixO x.l a < x.l.length) : WtI (weighX x a w) (aput m a (.int .i64 w)) := by
  rw [show weighX x a w = weighQ x a w from if_pos hix]
  have hids := map_set_at (l := x.l) hix (y := ⟨plcO x (gQ x.l a).V (bringO w 1 4096), a, bringO w 1 4096⟩) rfl
  refine ⟨aput_keys h.1, fun p hp => ?_⟩
  rcases aput_mem h.1 p hp with q | ⟨q1, q2⟩
  · subst q
    refine ⟨w, rfl, ?_, ?_⟩
    · show ixO (x.l.set _ _) a < (x.l.set _ _).length
      rw [ix_ids hids, List.length_set]; exact hix
    · show (gQ (x.l.set (ixO x.l a) ⟨plcO x (gQ x.l a).V (bringO w 1 4096), a, bringO w 1 4096⟩) a).x = _
      rw [gQ_set_eq hq.nd hix rfl]
  · obtain ⟨v', h1, h2, h3⟩ := h.2 p q1
    refine ⟨v', h1, ?_, ?_⟩
    · show ixO (x.l.set _ _) p.1 < (x.l.set _ _).length
      rw [ix_ids hids, List.length_set]; exact h2
    · show (gQ (x.l.set (ixO x.l a) ⟨plcO x (gQ x.l a).V (bringO w 1 4096), a, bringO w 1 4096⟩) p.1).x = _
      rw [gQ_set_ne hq.nd hix rfl q2]; exact h3
theorem remX_ran {x : Qm} {B : Int} (h : x.ran ≤ B) (hB : 0 ≤ B) (a : Int) : (remX x a).ran ≤ B := by
  unfold remX; split
  · unfold remQ; split
    · exact hB
    · exact h
  · exact h
theorem remX_g (x : Qm) (a : Int) : (remX x a).g = x.g := by unfold remX; split; exact (remQ_g x a).1; rfl
theorem weighX_g (x : Qm) (a w : Int) : (weighX x a w).g = x.g := by unfold weighX; split <;> rfl
theorem weighX_ran {x : Qm} {B : Int} (hq : QWf x) (h : x.ran ≤ B) (hB : 8 ≤ B) (a w : Int) : (weighX x a w).ran ≤ B := by
  unfold weighX; split
  · show (if _ ∧ x.cur = a then x.g else x.ran) ≤ B
    split
    · have := hq.g; omega
    · exact h
  · exact h
set_option maxRecDepth 100000 in
set_option maxHeartbeats 2000000 in
theorem runqLag {l : List Ded} {ad : Option Addr} {n cap : Nat} (g : Int) (w : World) (hn : n = l.length) (hl : Sr fDd 4 l (.slice ad n cap) w) (hk : ∀ d ∈ l, 0 ≤ d.kind ∧ d.kind ≤ 255) : Ret Try.prog 4 #[.int .i64 g, .slice ad n cap] w (fun v w' => v = .bool true ∧ Ext w w') := by
 refine Ret.enterM (l := [.int .i64 g, .slice ad n cap]) Try.func4 rfl Try.ntmps4 rfl ([]) (no) (Mem.nil w) ?_
 refine wpM.seq (wpM.region ?_)
 refine LM.as rfl ?_
 refine LM.nil (QM.sub (e' := [(0, _), (1, _)]) au9 (QM.then ?_))
 refine wpM.seq ?_
 refine wpM.seq (wpM.region ?_)
 refine LM.callE (oc_call (enters_fn Try.func11 (by kernel_rfl) rfl) rfl) (fun w hm hc hg => awake16_spec w) ?_
 first | refine LM.val (ov_notD rfl) ?_ | refine LM.val (ov_not rfl) ?_
 refine LM.nil (QM.sub (e' := [(0, _), (1, _), (16, _)]) au9 (QM.then ?_))
 first | refine wpM.condD rfl (fun h1 => ?_) (fun h1 => ?_) | refine wpM.condB rfl (fun h1 => ?_) (fun h1 => ?_)
 ·
  cases h1
 refine wpM.skip ?_
 refine QM.then ?_
 refine wpM.seq ?_
 refine wpM.seq (wpM.region ?_)
 refine LM.mv rfl ?_
 refine LM.val (ov_len Try.underlying37 rfl) ?_
 refine LM.val (ov_gtr rfl rfl) ?_
 refine LM.nil (QM.sub (e' := [(0, _), (1, _), (19, _)]) au9 (QM.then ?_))
 refine wpM.condD rfl (fun h2 => ?_) (fun h2 => ?_)
 ·
  refine wpM.seq (wpM.region ?_)
  refine LM.as rfl ?_
  refine LM.nil (QM.sub (e' := [(4, _)]) ⟨rfl, trivial⟩ (QM.then ?_))
  refine wpM.ret ?_
  refine QM.then_ret ?_
  refine QM.leave (.inl rfl) [.tmp 4] Try.results4 rfl ?_
  intro w' hm' hc' hg'
  exact ⟨rfl, hc'⟩
 refine wpM.skip ?_
 refine QM.then (wpM.seq (wpM.region ?_))
 refine LM.mv rfl ?_
 refine LM.callT (oc_call (enters_fn Try.func12 (by kernel_rfl) rfl) rfl) RqN.mono (fun w hm hc hg => rqnew_spec g w) ?_
 rintro u21 m21 ⟨bq, rfl, h21⟩ hge21
 refine LM.as rfl ?_
 refine LM.nil (QM.sub (e' := [(0, _), (1, _), (5, _)]) au9 (QM.then (wpM.seq (wpM.region ?_))))
 refine LM.makeMap rfl (fun b22 hb22 => ?_)
 refine LM.as rfl ?_
 refine LM.nil (QM.sub (e' := [(0, _), (1, _), (5, _), (6, _)]) au9 (QM.then ?_))
 refine wpM.seq ?_
 refine wpM.seq (wpM.region ?_)
 refine LM.mv rfl ?_
 refine LM.val (ov_len Try.underlying37 rfl) ?_
 refine LM.mv rfl ?_
 refine LM.nil (QM.sub (e' := [(0, _), (5, _), (6, _), (23, _), (24, _), (25, _)]) au9 (QM.then ?_))
 refine wpM.block ?_
 refine wpM.loopK0 (α := Nat × Qm × Mem0 × Array MapEntry × Nat × List (Int × Value)) (fun ⟨i, x, m, es, cl, mm⟩ => [(25, .int .i64 (i : Nat))]) [(0, _), (5, _), (6, _), (23, _), (24, _)] (fun ⟨i, x, m, es, cl, mm⟩ => m ++ ((b22, .map es cl) :: [])) (fun ⟨i, x, m, es, cl, mm⟩ => i ≤ l.length ∧ RqM w.heap.size bq x m ∧ LagI x ∧ x.ran ≤ 8 + (i : Int) ∧ x.g = bringO g 1 8 ∧ EnsS .i64 es cl mm ∧ WtI x mm) (fun ⟨i, x, m, es, cl, mm⟩ => l.length - i) ((0, newQ g, m21, #[], 0, [])) ⟨au2, rfl, rfl, rfl, rfl, rfl, trivial⟩ au1 ⟨Nat.zero_le _, h21, lag_new g, (by show (0 : Int) ≤ _; omega), rfl, ensS_nil _, wt_nil _⟩ ?_
 rintro ⟨i, x, m, es, cl, mm⟩ ⟨hi, hq, hlg, hrn, hgx, hes, hwt⟩
 change wpM _ _ _ _ _ _ _ (m ++ ((b22, .map es cl) :: [])) _ _ _
 have hwf := hq.1
 refine wpM.seq (wpM.region ?_)
 refine LM.val (ov_lss rfl rfl) ?_
 refine LM.nil (QM.sub (e' := [(0, _), (5, _), (6, _), (23, _), (24, _), (25, _), (26, _)]) au9 (QM.then ?_))
 refine wpM.seq ?_
 refine wpM.condD rfl (fun h3 => ?_) (fun h3 => ?_)
 ·
  have hkd := hk (l.getD i default) (by rw [List.getD_eq_getElem?_getD, List.getElem?_eq_getElem (by omega : i < l.length)]; exact List.getElem_mem _)
  refine wpM.skip ?_
  refine QM.then ?_
  refine wpM.seq ?_
  refine wpM.block ?_
  refine wpM.seq (wpM.region ?_)
  refine LM.val (ov_idxSN au6 Try.underlying37 Try.sizeOf40 rfl rfl (by omega)) ?_
  first | refine LM.rd (om_slA (by assumption) (by intro _; rfl) Try.isAgg40 Try.sizeOf40 rfl au3) ?_ | refine LM.rdC (om_srEA (by assumption) (by intro _; rfl) Try.isAgg40 Try.sizeOf40 rfl au3 id) ?_ | refine LM.rd (om_ldW Try.isAgg40 Try.sizeOf40 rfl rfl) ?_ | refine LM.rd (om_ldA Try.isAgg40 Try.sizeOf40 rfl (vs := [_, _, _, _]) rfl ⟨rfl, rfl, rfl, rfl, trivial⟩) ?_
  refine LM.alloc Try.zeroValue40 rfl (fun b8 hb8 => ?_)
  refine LM.stW Try.sizeOf40 rfl rfl rfl rfl au7 au8 ?_
  refine LM.nil (QM.sub (e' := [(0, _), (5, _), (6, _), (8, _), (23, _), (24, _), (25, _)]) au9 (QM.then (wpM.seq (wpM.region ?_))))
  refine LM.val (ov_field Try.underlying40 rfl Try.sizeOf5 rfl (k := 0) rfl rfl) ?_
  refine LM.rd (om_ld Try.isAgg5 rfl rfl) ?_
  first | refine LM.val (ov_remK rfl rfl (by omega) (by omega)) ?_ | refine LM.val (ov_remJ rfl rfl (by omega) (by omega)) ?_
  refine LM.nil (QM.sub (e' := [(0, _), (5, _), (6, _), (8, _), (23, _), (24, _), (25, _), (31, _)]) au9 (QM.then ?_))
  refine wpM.joinK (α := Qm × Mem0 × Array MapEntry × Nat × List (Int × Value)) (fun ⟨y, my, es2, cl2, mm2⟩ => []) [(0, _), (5, _), (6, _), (23, _), (24, _), (25, _)] (fun ⟨y, my, es2, cl2, mm2⟩ => my ++ ((b22, .map es2 cl2) :: [])) (fun ⟨y, my, es2, cl2, mm2⟩ => RqM w.heap.size bq y my ∧ LagI y ∧ y.ran ≤ 8 + (i : Int) + 1 ∧ y.g = bringO g 1 8 ∧ EnsS .i64 es2 cl2 mm2 ∧ WtI y mm2) ⟨rfl, rfl, rfl, rfl, rfl, rfl, trivial⟩ ?_ ?_
  ·
   refine wpM.block ?_
   refine wpM.seq (wpM.region ?_)
   refine LM.val (ov_eql rfl rfl) ?_
   refine LM.as rfl ?_
   refine LM.nil (QM.sub (e' := [(0, _), (5, _), (6, _), (8, _), (23, _), (24, _), (25, _), (31, _), (65, _)]) au9 (QM.then ?_))
   refine wpM.condD rfl (fun h4 => ?_) (fun h4 => ?_)
   ·
    refine wpM.seq (wpM.region ?_)
    refine LM.mv rfl (LM.val (ov_field Try.underlying40 rfl Try.sizeOf3 rfl (k := 1) rfl rfl) ?_)
    refine LM.rd (om_ld Try.isAgg3 rfl rfl) ?_
    refine LM.val (ov_field Try.underlying40 rfl Try.sizeOf26 rfl (k := 2) rfl rfl) ?_
    refine LM.rd (om_ld Try.isAgg26 rfl rfl) ?_
    refine LM.val (ov_urem (b := 1152921504606846976#64) rfl rfl (by first | decide | assumption)) ?_
    refine LM.val (ov_field Try.underlying40 rfl Try.sizeOf3 rfl (k := 3) rfl rfl) ?_
    refine LM.rd (om_ld Try.isAgg3 rfl rfl) ?_
    refine LM.cU (oc_call (enters_fn Try.func13 (by kernel_rfl) rfl) rfl) (fun w hm hc hg => rqAdd_spec (l.getD i default).id ((l.getD i default).V % 1152921504606846976#64) (l.getD i default).W w hq hc.size (hm.pick m)) hq.wlk (fun p hp hlt => absurd hlt (Nat.not_lt_of_le (hq.ge p hp))) ?_
    rintro u76 m76 ⟨rfl, h76⟩ -
    refine LM.mv rfl ?_
    refine LM.val (ov_extract rfl rfl) ?_
    refine LM.val (ov_extract rfl rfl) ?_
    refine LM.as rfl (LM.as rfl ?_)
    refine LM.nil (QM.sub (e' := [(0, _), (5, _), (6, _), (8, _), (10, _), (23, _), (24, _), (25, _)]) au9 (QM.then (wpM.seq (wpM.region ?_))))
    refine LM.mv rfl ?_
    refine LM.val (ov_eql rfl rfl) ?_
    refine LM.nil (QM.sub (e' := [(0, _), (5, _), (6, _), (8, _), (23, _), (24, _), (25, _), (80, _)]) au9 (QM.then ?_))
    refine wpM.condD rfl (fun h5 => ?_) (fun h5 => ?_)
    ·
     refine wpM.region ?_
     refine LM.mv rfl (LM.val (ov_field Try.underlying40 rfl Try.sizeOf3 rfl (k := 1) rfl rfl) ?_)
     refine LM.rd (om_ld Try.isAgg3 rfl rfl) ?_
     refine LM.val (ov_field Try.underlying40 rfl Try.sizeOf3 rfl (k := 3) rfl rfl) ?_
     refine LM.rd (om_ld Try.isAgg3 rfl rfl) ?_
     refine LM.mUS Try.underlying38 Try.underlying3 rfl rfl rfl (by assumption) au8 (fun esu1 clu1 hesu1 => ?_)
     refine LM.nil (QM.sub (e' := [(0, _), (5, _), (6, _), (23, _), (24, _), (25, _)]) au9 ?_)
     refine QM.block_normal ?_
     refine QM.meetK (addX x (l.getD i default).id ((l.getD i default).V % 1152921504606846976#64) (l.getD i default).W, m76, esu1, clu1, aput mm (l.getD i default).id (.int .i64 (l.getD i default).W)) ⟨rfl, rfl, rfl, rfl, rfl, rfl, trivial⟩ au1 ?_
     · exact ⟨h76, lag_add hlg _ _ _, by rw [addX_cr]; omega, by rw [addX_g]; exact hgx, hesu1, wt_add hwf hwt h5⟩
    refine wpM.skip ?_
    refine QM.block_normal ?_
    refine QM.meetK (addX x (l.getD i default).id ((l.getD i default).V % 1152921504606846976#64) (l.getD i default).W, m76, es, cl, mm) ⟨rfl, rfl, rfl, rfl, rfl, rfl, trivial⟩ au1 ?_
    · exact ⟨h76, lag_add hlg _ _ _, by rw [addX_cr]; omega, by rw [addX_g]; exact hgx, hes, by rw [addX_no h5]; exact hwt⟩
   refine wpM.seq (wpM.region ?_)
   refine LM.val (ov_eql rfl rfl) ?_
   refine LM.as rfl ?_
   refine LM.nil (QM.sub (e' := [(0, _), (5, _), (6, _), (8, _), (23, _), (24, _), (25, _), (31, _), (86, _)]) au9 (QM.then ?_))
   refine wpM.condD rfl (fun h6 => ?_) (fun h6 => ?_)
   ·
    refine wpM.seq (wpM.region ?_)
    refine LM.mv rfl (LM.val (ov_field Try.underlying40 rfl Try.sizeOf3 rfl (k := 1) rfl rfl) ?_)
    refine LM.rd (om_ld Try.isAgg3 rfl rfl) ?_
    refine LM.cU (oc_call (enters_fn Try.func17 (by kernel_rfl) rfl) rfl) (fun w hm hc hg => rqRem_spec (l.getD i default).id w hq (hm.pick m)) hq.wlk (fun p hp hlt => absurd hlt (Nat.not_lt_of_le (hq.ge p hp))) ?_
    rintro u91 m91 ⟨rfl, h91⟩ -
    refine LM.nil (QM.sub (e' := [(0, _), (5, _), (6, _), (8, _), (23, _), (24, _), (25, _)]) au9 (QM.then (wpM.region ?_)))
    refine LM.mv rfl (LM.val (ov_field Try.underlying40 rfl Try.sizeOf3 rfl (k := 1) rfl rfl) ?_)
    refine LM.rd (om_ld Try.isAgg3 rfl rfl) ?_
    refine LM.mDS Try.underlying38 Try.underlying3 rfl rfl (by assumption) au8 (fun esu1 clu1 hesu1 => ?_)
    refine LM.nil (QM.sub (e' := [(0, _), (5, _), (6, _), (23, _), (24, _), (25, _)]) au9 ?_)
    refine QM.block_normal ?_
    refine QM.meetK (remX x (l.getD i default).id, m91, esu1, clu1, adel mm (l.getD i default).id) ⟨rfl, rfl, rfl, rfl, rfl, rfl, trivial⟩ au1 ?_
    · exact ⟨h91, lag_rem hlg _, by have := remX_ran hrn (by omega) (l.getD i default).id; omega, by rw [remX_g]; exact hgx, hesu1, wt_rem hwf hwt _⟩
   refine wpM.seq (wpM.region ?_)
   refine LM.val (ov_eql rfl rfl) ?_
   refine LM.as rfl ?_
   refine LM.nil (QM.sub (e' := [(0, _), (5, _), (6, _), (8, _), (23, _), (24, _), (25, _), (95, _)]) au9 (QM.then ?_))
   refine wpM.condD rfl (fun h7 => ?_) (fun h7 => ?_)
   ·
    refine wpM.seq (wpM.region ?_)
    refine LM.mv rfl (LM.val (ov_field Try.underlying40 rfl Try.sizeOf3 rfl (k := 1) rfl rfl) ?_)
    refine LM.rd (om_ld Try.isAgg3 rfl rfl) ?_
    refine LM.val (ov_field Try.underlying40 rfl Try.sizeOf3 rfl (k := 3) rfl rfl) ?_
    refine LM.rd (om_ld Try.isAgg3 rfl rfl) ?_
    refine LM.cU (oc_call (enters_fn Try.func18 (by kernel_rfl) rfl) rfl) (fun w hm hc hg => rqWgh_spec (l.getD i default).id (l.getD i default).W w hq hc.size (hm.pick m)) hq.wlk (fun p hp hlt => absurd hlt (Nat.not_lt_of_le (hq.ge p hp))) ?_
    rintro u102 m102 ⟨rfl, h102⟩ -
    refine LM.nil (QM.sub (e' := [(0, _), (5, _), (6, _), (8, _), (23, _), (24, _), (25, _), (102, _)]) au9 (QM.then ?_))
    refine wpM.condD rfl (fun h8 => ?_) (fun h8 => ?_)
    ·
     refine wpM.region ?_
     refine LM.mv rfl (LM.val (ov_field Try.underlying40 rfl Try.sizeOf3 rfl (k := 1) rfl rfl) ?_)
     refine LM.rd (om_ld Try.isAgg3 rfl rfl) ?_
     refine LM.val (ov_field Try.underlying40 rfl Try.sizeOf3 rfl (k := 3) rfl rfl) ?_
     refine LM.rd (om_ld Try.isAgg3 rfl rfl) ?_
     refine LM.mUS Try.underlying38 Try.underlying3 rfl rfl rfl (by assumption) au8 (fun esu1 clu1 hesu1 => ?_)
     refine LM.nil (QM.sub (e' := [(0, _), (5, _), (6, _), (23, _), (24, _), (25, _)]) au9 ?_)
     refine QM.block_normal ?_
     refine QM.meetK (weighX x (l.getD i default).id (l.getD i default).W, m102, esu1, clu1, aput mm (l.getD i default).id (.int .i64 (l.getD i default).W)) ⟨rfl, rfl, rfl, rfl, rfl, rfl, trivial⟩ au1 ?_
     · exact ⟨h102, lag_weigh hlg _ _, by have := weighX_ran hwf hrn (by omega) (l.getD i default).id (l.getD i default).W; omega, by rw [weighX_g]; exact hgx, hesu1, wt_weigh hwf hwt h8⟩
    refine wpM.skip ?_
    refine QM.block_normal ?_
    refine QM.meetK (weighX x (l.getD i default).id (l.getD i default).W, m102, es, cl, mm) ⟨rfl, rfl, rfl, rfl, rfl, rfl, trivial⟩ au1 ?_
    · exact ⟨h102, lag_weigh hlg _ _, by have := weighX_ran hwf hrn (by omega) (l.getD i default).id (l.getD i default).W; omega, by rw [weighX_g]; exact hgx, hes, by rw [show weighX x (l.getD i default).id (l.getD i default).W = x from if_neg h8]; exact hwt⟩
   refine wpM.seq (wpM.region ?_)
   refine LM.mv rfl ?_
   refine LM.cU (oc_call (enters_fn Try.func15 (by kernel_rfl) rfl) rfl) (fun w hm hc hg => goOn_spec w hq (by omega) hc.size (hm.pick m)) hq.wlk (fun p hp hlt => absurd hlt (Nat.not_lt_of_le (hq.ge p hp))) ?_
   rintro u33 m33 ⟨rfl, h33⟩ -; have hlgo := lag_go hlg; have hwgo := wt_go hwf hwt
   refine LM.nil (QM.sub (e' := [(0, _), (5, _), (6, _), (23, _), (24, _), (25, _)]) au9 (QM.then (wpM.seq (wpM.region ?_))))
   refine LM.mv rfl ?_
   refine LM.mRange Try.underlying38 rfl rfl (fun b35 hb35 => ?_)
   refine LM.nil (QM.sub (e' := [(0, _), (5, _), (6, _), (23, _), (24, _), (25, _), (35, _)]) au9 (QM.then ?_))
   refine wpM.block ?_
   refine wpM.loopK0 (α := Array Nat) (fun seen => []) [(0, _), (5, _), (6, _), (23, _), (24, _), (25, _), (35, _)] (fun seen => m33 ++ ((b35, .mapIter (some b22) cl seen cl) :: (b22, .map es cl) :: [])) (fun seen => True) (fun seen => (leftOf es seen).size) (#[]) ⟨rfl, rfl, rfl, rfl, rfl, rfl, rfl, trivial⟩ au1 trivial ?_
   rintro seen -
   change wpM _ _ _ _ _ _ _ (m33 ++ ((b35, .mapIter (some b22) cl seen cl) :: (b22, .map es cl) :: [])) _ _ _
   refine wpM.seq (wpM.region ?_)
   refine LM.mNext rfl (fun p hp => hes.2.1 p hp) (Nat.le_refl _) au8 rfl (fun o ho => ?_)
   refine LM.val (ov_extract rfl (nxA_0 o)) ?_
   refine LM.nil (QM.sub (e' := [(0, _), (5, _), (6, _), (23, _), (24, _), (25, _), (35, _), (37, _)]) au9 (QM.then ?_))
   refine wpM.seq ?_
   first | refine wpM.condD rfl (fun h9 => ?_) (fun h9 => ?_) | refine wpM.condB rfl (fun h9 => ?_) (fun h9 => ?_)
   ·
    obtain ⟨p, rfl⟩ := Option.isSome_iff_exists.1 h9; rw [show nxS seen (some p) = seen.push p.born from rfl]; have hp := (mem_left (ho p rfl)).1; obtain ⟨q, hq1, hq2, hq3⟩ := ens_key hes.1 hp; obtain ⟨v, hv, hix, hxx⟩ := hwgo.2 q hq1; have hlat := lag_at hlgo hix; have hrb : reachO (gQ (goQ x).l q.1).x (goQ x).g = reachO v g := (by rw [hxx, (go_g hwf).trans hgx, reach_bring]); rw [hrb] at hlat
    refine wpM.skip ?_
    refine QM.then ?_
    refine wpM.block ?_
    refine wpM.seq (wpM.region ?_)
    refine LM.rd (om_entry rfl hp hes.2.2.1 hq2 (hq3.trans hv)) ?_
    refine LM.val (ov_extract rfl rfl) ?_
    refine LM.val (ov_extract rfl rfl) ?_
    refine LM.as rfl (LM.as rfl ?_)
    refine LM.nil (QM.sub (e' := [(0, _), (5, _), (6, _), (11, _), (12, _), (23, _), (24, _), (25, _), (35, _)]) au9 (QM.then (wpM.seq (wpM.region ?_))))
    refine LM.mv rfl (LM.mv rfl ?_)
    refine LM.callE (oc_call (enters_fn Try.func14 (by kernel_rfl) rfl) rfl) (fun w hm hc hg => rqV_spec q.1 w h33 (hm.pick m33)) ?_
    refine LM.mv rfl ?_
    refine LM.val (ov_extract rfl rfl) ?_
    refine LM.val (ov_extract rfl rfl) ?_
    refine LM.as rfl (LM.as rfl ?_)
    refine LM.nil (QM.sub (e' := [(0, _), (5, _), (6, _), (12, _), (13, _), (14, _), (23, _), (24, _), (25, _), (35, _)]) au9 (QM.then (wpM.seq (wpM.region ?_))))
    refine LM.mv rfl ?_
    refine LM.val (ov_notD rfl) ?_
    refine LM.mv rfl ?_
    refine LM.splitD (t := 49) rfl (fun h10 => ?_) (fun h10 => ?_)
    ·
     exact absurd hix h10
    refine LM.sp 49 rfl rfl rfl (LM.mv rfl (LM.sp 49 rfl rfl rfl (LM.mv rfl (LM.sp 49 rfl rfl rfl ?_))))
    refine LM.callE (oc_call (enters_fn Try.func19 (by kernel_rfl) rfl) rfl) (fun w hm hc hg => rqFlo_spec w h33 (hm.pick m33)) ?_
    refine LM.sp 49 rfl rfl rfl ?_
    refine LM.val (ov_ulss rfl rfl) ?_
    refine LM.val (ov_pickF rfl rfl) ?_
    refine LM.mv rfl ?_
    refine LM.splitD (t := 55) rfl (fun h11 => ?_) (fun h11 => ?_)
    ·
     omega
    refine LM.sp 55 rfl rfl rfl (LM.mv rfl (LM.sp 55 rfl rfl rfl (LM.mv rfl (LM.sp 55 rfl rfl rfl ?_))))
    refine LM.callE (oc_call (enters_fn Try.func19 (by kernel_rfl) rfl) rfl) (fun w hm hc hg => rqFlo_spec w h33 (hm.pick m33)) ?_
    refine LM.sp 55 rfl rfl rfl ?_
    refine LM.val (ov_usub rfl rfl) ?_
    refine LM.sp 55 rfl rfl rfl (LM.mv rfl (LM.sp 55 rfl rfl rfl (LM.mv rfl (LM.sp 55 rfl rfl rfl ?_))))
    refine LM.callE (oc_call (enters_fn Try.func20 (by kernel_rfl) rfl) rfl) (fun w hm hc hg => ureach_spec v g w) ?_
    refine LM.sp 55 rfl rfl rfl ?_
    refine LM.val (ov_ugtr rfl rfl) ?_
    refine LM.val (ov_pickF rfl rfl) ?_
    refine LM.nil (QM.sub (e' := [(0, _), (5, _), (6, _), (23, _), (24, _), (25, _), (35, _), (64, _)]) au9 (QM.then ?_))
    refine wpM.condD rfl (fun h12 => ?_) (fun h12 => ?_)
    ·
     exfalso; rw [BitVec.toNat_sub_of_le (by show (goQ x).fl.toNat ≤ _; exact hlat.1)] at h12; omega
    refine wpM.skip ?_
    refine QM.block_normal ?_
    refine QM.againK (seen.push p.born) ⟨rfl, rfl, rfl, rfl, rfl, rfl, rfl, trivial⟩ au1 (fun _ h => h) ?_ ?_
    · trivial
    · exact left_shrinks es seen p (ho p rfl)
   refine wpM.exit ?_
   refine QM.then_exit ?_
   refine QM.then_exit ?_
   refine QM.block_hit ?_
   refine QM.block_normal ?_
   refine QM.meetK (goQ x, m33, es, cl, mm) ⟨rfl, rfl, rfl, rfl, rfl, rfl, trivial⟩ au1 ?_
   · exact ⟨h33, hlgo, by have := go_ran hwf; omega, (go_g hwf).trans hgx, hes, hwgo⟩
  rintro ⟨y, my, es2, cl2, mm2⟩ ⟨hqy, hly, hry, hgy, hes2, hwt2⟩
  change QM _ _ _ _ _ (my ++ ((b22, .map es2 cl2) :: [])) _ _ _
  refine QM.block_normal ?_
  refine QM.then (wpM.region ?_)
  refine LM.val (ov_add64 rfl rfl (by omega)) ?_
  refine LM.mv rfl ?_
  refine LM.nil (QM.sub (e' := [(0, _), (5, _), (6, _), (23, _), (24, _), (25, _)]) au9 ?_)
  refine QM.againK (i + 1, y, my, es2, cl2, mm2) ⟨au2, rfl, rfl, rfl, rfl, rfl, trivial⟩ au1 (fun _ h => h) ?_ ?_
  · exact ⟨by omega, hqy, hly, by omega, hgy, hes2, hwt2⟩
  · first | omega | (dsimp only; omega)
 refine wpM.exit ?_
 refine QM.then_exit ?_
 refine QM.then_exit ?_
 refine QM.block_hit ?_
 refine QM.then (wpM.seq (wpM.region ?_))
 refine LM.as rfl ?_
 refine LM.nil (QM.sub (e' := [(4, _)]) ⟨rfl, trivial⟩ (QM.then ?_))
 refine wpM.ret ?_
 refine QM.leave (.inl rfl) [.tmp 4] Try.results4 rfl ?_
 intro w' hm' hc' hg'
 exact ⟨rfl, hc'⟩
end Go.Eng
