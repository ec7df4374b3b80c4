/- The walks of run queues: what is done to one. No condition. -/
import Derived.Test.YtmkblojlimhkiaaM3
import Derived.Test.YtmkblojlimhkiaaM2
import Derived.Shelf.Spec.BitsCarry
set_option linter.unusedVariables false
set_option linter.unusedSimpArgs false
namespace Go.Eng
open Go Go.Proofs Go.RowKit
def addV (x : Qm) (a : Int) (v : BitVec 64) (w : Int) : BitVec 64 := if addE x a = 0 then plcO x v (bringO w 1 4096) else 0#64
def addX (x : Qm) (a : Int) (v : BitVec 64) (w : Int) : Qm := if addE x a = 0 then addQ x a v w else x
theorem addX_wf {x : Qm} (h : QWf x) (a : Int) (v : BitVec 64) (w : Int) : QWf (addX x a v w) := by unfold addX; split; exact add_wf h (by assumption); exact h
def RqN (g : Int) (n0 : Nat) (v : Value) (m : Mem0) : Prop := ∃ b, v = .pointer (some ⟨b, 0, none⟩) ∧ RqM n0 b (newQ g) m
theorem RqN.mono {g : Int} : ∀ (n n' : Nat) (v : Value) (m : Mem0), n' ≤ n → RqN g n v m → RqN g n' v m := fun n n' v m hn ⟨b, h1, h⟩ => ⟨b, h1, h.mono hn⟩
theorem addE_neg {x : Qm} {a : Int} (h : a < 0) : addE x a = 1 := if_pos h
theorem addE_met {x : Qm} {a : Int} (h : ¬ a < 0) (h2 : ixO x.l a < x.l.length) : addE x a = 12 := by unfold addE; rw [if_neg h, if_pos h2]
theorem addE_full {x : Qm} {a : Int} (h : ¬ a < 0) (h2 : ¬ ixO x.l a < x.l.length) (h3 : 16 ≤ x.l.length) : addE x a = 3 := by unfold addE; rw [if_neg h, if_neg h2, if_pos h3]
theorem addE_ok {x : Qm} {a : Int} (h : ¬ a < 0) (h2 : ¬ ixO x.l a < x.l.length) (h3 : ¬ 16 ≤ x.l.length) : addE x a = 0 := by unfold addE; rw [if_neg h, if_neg h2, if_neg h3]
theorem addV_no {x : Qm} {a : Int} {v : BitVec 64} {w : Int} (h : addE x a ≠ 0) : addV x a v w = 0#64 := if_neg h
theorem addX_no {x : Qm} {a : Int} {v : BitVec 64} {w : Int} (h : addE x a ≠ 0) : addX x a v w = x := if_neg h
theorem gQ_new {l : List Kv} {a : Int} (h : ¬ ixO l a < l.length) (v : BitVec 64) (w : Int) : gQ (l ++ [⟨v, a, w⟩]) a = ⟨v, a, w⟩ := by
  unfold gQ
  have e : ixO (l ++ [⟨v, a, w⟩]) a = l.length := by rw [ixO_app h, ixO_cons, if_pos rfl]; rfl
  rw [e, List.getD_eq_getElem?_getD, List.getElem?_append_right (Nat.le_refl _)]; simp
theorem load_new (l : List Kv) (v : BitVec 64) (a w : Int) : loadO l + w = loadO (l ++ [⟨v, a, w⟩]) := by rw [load_app]; simp [loadO]
theorem RbN.mn {most : Nat} : ∀ (k k' : Nat) (u : Value) (m : Mem0), k' ≤ k → RbN most k u m → RbN most k' u m := fun k k' u m hn h => h.mono hn
theorem rdy_id {x : Qm} (h : QWf x) {y : Kv} (hy : y ∈ rdyO x) : y ∈ x.l ∧ y.id ≠ x.cur := (rdy_mem h.nd y).1 hy
theorem rqm_leaf {n0 b bm bt cl cl' : Nat} {x' : Qm} {g cur ran ld : Int} {fl : BitVec 64} {es es' : Array MapEntry} {mt mt' M : Mem0} {u0 : Value} {w w' : World} (hq : QWf x') (he : Ens .i64 es'.toList (entQ x'.l)) (ht : RbT n0 bt 16 (rdyO x') mt') (hb : n0 ≤ b) (hbm : n0 ≤ bm) (hm : Mem w' M)
    (hs : SubM M (rqC b x'.g x'.fl bm bt x'.cur x'.ran (loadO x'.l) :: (bm, .map es' cl') :: (mt' ++ []))) (hc : Chg (inM (rqC b g fl bm bt cur ran ld :: (bm, .map es cl) :: mt)) w w') (hin : inn mt w.heap.size mt') :
    Upd (rqC b g fl bm bt cur ran ld :: (bm, .map es cl) :: mt) (fun u m' => u = u0 ∧ RqM n0 b x' m') w u0 w' :=
  rq_leaf (p0 := rqC b x'.g x'.fl bm bt x'.cur x'.ran (loadO x'.l)) (p1 := (bm, .map es' cl')) (mt' := mt') ⟨rfl, hq, bm, bt, es', cl', mt', rfl, he, ht, hb, hbm⟩ hm hs hc rfl rfl hin
set_option maxRecDepth 100000 in
theorem rqnew_spec (g : Int) (w : World) : Ret Try.prog 12 #[.int .i64 g] w (fun v w' => Ext w w' ∧ ∃ m, RqN g w.heap.size v m ∧ Mem w' m ∧ ∀ p ∈ m, w.heap.size ≤ p.1) := by
 refine Ret.enterM (l := [.int .i64 g]) Try.func12 rfl Try.ntmps12 rfl ([]) (no) (Mem.nil w) ?_
 refine wpM.seq (wpM.region ?_)
 refine LM.as rfl ?_
 refine LM.nil (QM.sub (e' := [(0, _)]) ⟨rfl, trivial⟩ (QM.then (wpM.seq (wpM.region ?_))))
 refine LM.mv rfl ?_
 refine LM.val (ov_max rfl rfl) ?_
 rw [show (if 1 > g then 1 else g) = (if (1 : Int) > g then 1 else g) from rfl]
 refine LM.val (ov_min rfl rfl) ?_
 rw [bring_eq (by decide)]
 refine LM.makeMap rfl (fun b6 hb6 => ?_)
 refine LM.callT (oc_call (enters_fn Try.func62 (by kernel_rfl) rfl) rfl) RbN.mn (fun w hm hc hg => rbnew_spec w) ?_
 rintro u7 m7 ⟨bt, rfl, ht⟩ hge7
 refine LM.val (ov_build (cs := #[_, _, _, _, _, _, _]) rfl (by first | rfl | kernel_rfl)) ?_
 refine LM.box rfl rfl (fun b9 hb9 => ?_)
 refine LM.as rfl ?_
 refine LM.nil (QM.sub (e' := [(2, _)]) ⟨rfl, trivial⟩ (QM.then ?_))
 refine wpM.ret ?_
 refine QM.leave (.inl rfl) [.tmp 2] Try.results12 rfl ?_
 intro w' hm' hc' hg'
 have hwf := new_wf g; exact ⟨hc', _, ⟨b9, rfl, hwf, b6, bt, #[], 0, m7, rfl, rfl, ht, hb9, hb6⟩, (SubM.mem (by (repeat' (first | (rw [List.append_nil]; exact SubM.all _) | exact SubM.all _ | refine SubM.cons rfl ?_ | exact SubM.nil _)))) w' hm', fun p hp => by simp only [List.mem_cons] at hp; rcases hp with rfl | rfl | hp; exact hb9; exact hb6; exact hge7 p hp⟩
set_option maxRecDepth 100000 in
theorem rqAdd_spec {n0 b : Nat} {x : Qm} {m : Mem0} (a : Int) (v : BitVec 64) (wt : Int) (w : World) (h : RqM n0 b x m) (hn0 : n0 ≤ w.heap.size) (hM : Mem w m) : Ret Try.prog 13 #[.pointer (some ⟨b, 0, none⟩), .int .i64 a, U v, .int .i64 wt] w (Upd m (fun u m' => u = .tuple #[U (addV x a v wt), .int .i64 (addE x a)] ∧ RqM n0 b (addX x a v wt) m') w) := by
 obtain ⟨hq, bm, bt, es, cl, mt, rfl, he, ht, hb, hbm⟩ := h; have hll := hq.load; have hlen := hq.len; have hbr := bring_in (n := wt) (lo := 1) (hi := 4096) (by decide)
 refine Ret.enterM (l := [.pointer (some ⟨b, 0, none⟩), .int .i64 a, U v, .int .i64 wt]) Try.func13 rfl Try.ntmps13 rfl (rqC b x.g x.fl bm bt x.cur x.ran (loadO x.l) :: (bm, .map es cl) :: (mt ++ [])) ((inM (rqC b x.g x.fl bm bt x.cur x.ran (loadO x.l) :: (bm, .map es cl) :: mt))) (by rw [List.append_nil]; exact hM) ?_
 refine wpM.seq (wpM.region ?_)
 refine LM.as rfl (LM.as rfl ?_)
 refine LM.nil (QM.sub (e' := [(0, _), (1, _), (2, _), (3, _)]) au9 (QM.then ?_))
 refine wpM.seq ?_
 refine wpM.seq (wpM.region ?_)
 refine LM.mv rfl ?_
 refine LM.val (ov_peql (by kernel_rfl) rfl rfl) ?_
 refine LM.mv rfl (LM.sp 14 rfl rfl rfl (LM.mv rfl (LM.sp 14 rfl rfl rfl ?_)))
 refine LM.val (ov_lss rfl rfl) ?_
 refine LM.val (ov_pickF rfl rfl) ?_
 refine LM.nil (QM.sub (e' := [(0, _), (1, _), (2, _), (3, _), (17, _)]) au9 (QM.then ?_))
 refine wpM.condD rfl (fun h1 => ?_) (fun h1 => ?_)
 ·
  refine wpM.seq (wpM.region ?_)
  refine LM.as rfl (LM.as rfl ?_)
  refine LM.nil (QM.sub (e' := [(8, _), (9, _)]) au9 (QM.then ?_))
  refine wpM.ret ?_
  refine QM.then_ret ?_
  refine QM.leave (.inl rfl) [.tmp 8, .tmp 9] Try.results13 rfl ?_
  intro w' hm' hc' hg'
  have hE := addE_neg (x := x) h1; exact rq_same ⟨by rw [addV_no (by rw [hE]; decide), hE]; rfl, by rw [addX_no (by rw [hE]; decide)]; exact ⟨hq, bm, bt, es, cl, mt, rfl, he, ht, hb, hbm⟩⟩ hm' au1 hc'
 refine wpM.skip ?_
 refine QM.then ?_
 refine wpM.seq ?_
 refine wpM.seq (wpM.region ?_)
 refine LM.mv rfl ?_
 refine LM.val (ov_nilCheck rfl) ?_
 refine LM.val (ov_field Try.underlying93 rfl Try.sizeOf89 rfl (k := 2) rfl rfl) ?_
 refine LM.rd (om_ld Try.isAgg89 rfl rfl) ?_
 refine LM.mv rfl ?_
 refine LM.rd (om_lkOk Try.underlying89 Try.underlying3 Try.zeroValue95 rfl rfl (by assumption) (ent_get _ _) (ent_has _ _)) ?_
 refine LM.mv rfl ?_
 refine LM.val (ov_extract rfl rfl) ?_
 refine LM.val (ov_extract rfl rfl) ?_
 refine LM.alloc Try.zeroValue95 rfl (fun b10 hb10 => ?_)
 refine LM.stW Try.sizeOf95 rfl rfl rfl rfl au7 (fun hlt => by first | exact inM_0 | exact inM_1 | exact absurd hlt (by omega)) ?_
 refine LM.as rfl ?_
 refine LM.nil (QM.sub (e' := [(0, _), (1, _), (2, _), (3, _), (11, _)]) au9 (QM.then (wpM.seq (wpM.region ?_))))
 refine LM.mv rfl ?_
 refine LM.nil (QM.sub (e' := [(0, _), (1, _), (2, _), (3, _), (27, _)]) au9 (QM.then ?_))
 refine wpM.condD rfl (fun h2 => ?_) (fun h2 => ?_)
 ·
  refine wpM.seq (wpM.region ?_)
  refine LM.as rfl (LM.as rfl ?_)
  refine LM.nil (QM.sub (e' := [(8, _), (9, _)]) au9 (QM.then ?_))
  refine wpM.ret ?_
  refine QM.then_ret ?_
  refine QM.leave (.inl rfl) [.tmp 8, .tmp 9] Try.results13 rfl ?_
  intro w' hm' hc' hg'
  have hE := addE_met (x := x) h1 h2; exact rq_same ⟨by rw [addV_no (by rw [hE]; decide), hE]; rfl, by rw [addX_no (by rw [hE]; decide)]; exact ⟨hq, bm, bt, es, cl, mt, rfl, he, ht, hb, hbm⟩⟩ hm' au1 hc'
 refine wpM.skip ?_
 refine QM.then ?_
 refine wpM.seq ?_
 refine wpM.seq (wpM.region ?_)
 refine LM.mv rfl ?_
 refine LM.val (ov_nilCheck rfl) ?_
 refine LM.val (ov_field Try.underlying93 rfl Try.sizeOf89 rfl (k := 2) rfl rfl) ?_
 refine LM.rd (om_ld Try.isAgg89 rfl rfl) ?_
 refine LM.rd (om_mlen Try.underlying89 rfl (by assumption) rfl) ?_
 refine LM.val (ov_geq rfl rfl) ?_
 refine LM.nil (QM.sub (e' := [(0, _), (1, _), (2, _), (3, _), (33, _)]) au9 (QM.then ?_))
 refine wpM.condD rfl (fun h3 => ?_) (fun h3 => ?_)
 ·
  rw [entQ_len] at h3
  refine wpM.seq (wpM.region ?_)
  refine LM.as rfl (LM.as rfl ?_)
  refine LM.nil (QM.sub (e' := [(8, _), (9, _)]) au9 (QM.then ?_))
  refine wpM.ret ?_
  refine QM.then_ret ?_
  refine QM.leave (.inl rfl) [.tmp 8, .tmp 9] Try.results13 rfl ?_
  intro w' hm' hc' hg'
  have hE := addE_full (x := x) h1 h2 (by omega); exact rq_same ⟨by rw [addV_no (by rw [hE]; decide), hE]; rfl, by rw [addX_no (by rw [hE]; decide)]; exact ⟨hq, bm, bt, es, cl, mt, rfl, he, ht, hb, hbm⟩⟩ hm' au1 hc'
 rw [entQ_len] at h3; have hE := addE_ok h1 h2 (by omega); have hwf := add_wf (v := v) (w := wt) hq hE; have hrd := add_rdy (v := v) (w := wt) hq hE; have hld : loadO x.l + bringO wt 1 4096 = loadO (addQ x a v wt).l := load_new x.l (plcO x v (bringO wt 1 4096)) a (bringO wt 1 4096)
 refine wpM.skip ?_
 refine QM.then (wpM.seq (wpM.region ?_))
 refine LM.mv rfl ?_
 refine LM.val (ov_max rfl rfl) ?_
 refine LM.val (ov_min rfl rfl) ?_
 refine LM.as rfl ?_
 refine LM.nil (QM.sub (e' := [(0, _), (1, _), (2, _), (3, _)]) au9 (QM.then (wpM.seq (wpM.region ?_))))
 rw [bring_eq (by decide)]
 refine LM.mv rfl (LM.mv rfl (LM.mv rfl ?_))
 refine LM.callE (oc_call (enters_fn Try.func63 (by kernel_rfl) rfl) rfl) (fun w hm hc hg => place_spec v (bringO wt 1 4096) w (hm.pick (rqC b x.g x.fl bm bt x.cur x.ran (loadO x.l) :: []))) ?_
 refine LM.as rfl ?_
 refine LM.nil (QM.sub (e' := [(0, _), (1, _), (2, _), (3, _)]) au9 (QM.then (wpM.seq (wpM.region ?_))))
 refine LM.mv rfl ?_
 refine LM.val (ov_nilCheck rfl) ?_
 refine LM.val (ov_field Try.underlying93 rfl Try.sizeOf89 rfl (k := 2) rfl rfl) ?_
 refine LM.rd (om_ld Try.isAgg89 rfl rfl) ?_
 refine LM.mv rfl (LM.mv rfl (LM.mv rfl ?_))
 refine LM.val (ov_build (cs := #[U (plcO x v (bringO wt 1 4096)), .int .i64 (bringO wt 1 4096)]) rfl (by first | rfl | kernel_rfl)) ?_
 refine LM.mU Try.underlying89 Try.underlying3 rfl rfl rfl (by assumption) (fun hlt => by first | exact inM_0 | exact inM_1 | exact absurd hlt (by omega)) (fun esu1 clu1 hesu1 => ?_)
 refine LM.nil (QM.sub (e' := [(0, _), (1, _), (2, _), (3, _)]) au9 (QM.then (wpM.seq (wpM.region ?_))))
 rw [ent_new h2] at hesu1
 refine LM.mv rfl ?_
 refine LM.val (ov_nilCheck rfl) ?_
 refine LM.val (ov_field Try.underlying93 rfl Try.sizeOf3 rfl (k := 6) rfl rfl) ?_
 refine LM.rd (om_ld Try.isAgg3 rfl rfl) ?_
 refine LM.mv rfl ?_
 refine LM.val (ov_add64 rfl rfl (by omega)) ?_
 refine LM.val (ov_nilCheck rfl) ?_
 refine LM.val (ov_field Try.underlying93 rfl Try.sizeOf3 rfl (k := 6) rfl rfl) ?_
 refine LM.st Try.sizeOf3 rfl rfl rfl au5 rfl (fun hlt => by first | exact inM_0 | exact inM_1 | exact absurd hlt (by omega)) ?_
 refine LM.mem (SubM.mem (M' := rqC b x.g x.fl bm bt x.cur x.ran (loadO x.l + bringO wt 1 4096) :: (bm, .map esu1 clu1) :: (mt ++ [])) au1) ?_
 refine LM.nil (QM.sub (e' := [(0, _), (1, _), (2, _), (3, _)]) au9 (QM.then ?_))
 refine wpM.seq ?_
 refine wpM.draw [(0, 0), (1, 0), (2, 0), (3, 1), (4, 0), (5, 0), (7, 0), (6, 2), (8, 3)] (by kernel_rfl) (by kernel_rfl) ?_
 refine LD.val rfl rfl (ov_move rfl) ?_
 refine LD.val rfl rfl (ov_nilCheck rfl) ?_
 refine LD.val rfl rfl (ov_field Try.underlying93 rfl Try.sizeOf90 rfl (k := 3) rfl rfl) ?_
 refine LD.rd rfl rfl (om_ld Try.isAgg90 rfl rfl) ?_
 refine LD.val rfl rfl (ov_move rfl) ?_
 refine LD.val rfl rfl (ov_move rfl) ?_
 refine LD.val rfl rfl (ov_move rfl) ?_
 refine LD.callE rfl rfl (oc_call (enters_fn Try.func65 (by kernel_rfl) rfl) rfl) (fun w hm hc hg => (show Ret _ _ _ _ (fun u w' => u = .agg #[U (plcO x v (bringO wt 1 4096)), .int .i64 a] ∧ Ext _ w') from by have hk := key_spec a w hesu1 (hm.pick (rqC b x.g x.fl bm bt x.cur x.ran (loadO x.l + bringO wt 1 4096) :: (bm, .map esu1 clu1) :: [])); rw [gQ_new h2] at hk; exact hk)) ?_
 refine LD.tail rfl rfl ?_
 refine LM.cU (oc_call (enters_fn Try.func64 (by kernel_rfl) rfl) rfl) (fun w hm hc hg => ins_spec ⟨plcO x v (bringO wt 1 4096), a, bringO wt 1 4096⟩ w (fun y hy e => h2 (ixO_lt.2 ⟨y, (rdy_id hq hy).1, e.2⟩)) (Nat.lt_of_le_of_lt (rdy_len hq.nd) (by omega)) (by decide) ht (Nat.le_trans hn0 hc.size) (hm.pick mt)) ht.wlk (fun p hp _ => inM_2 p hp) ?_
 rintro u65 mt1 ⟨rfl, ht1⟩ hin1; rw [hrd] at ht1
 refine LM.nil ?_
 refine QM.qn ?_
 refine QM.sub (e' := [(2, _)]) ⟨rfl, trivial⟩ (QM.then (wpM.seq (wpM.region ?_)))
 refine LM.mv rfl (LM.as rfl (LM.as rfl ?_))
 refine LM.nil (QM.sub (e' := [(8, _), (9, _)]) au9 (QM.then ?_))
 refine wpM.ret ?_
 refine QM.leave (.inl rfl) [.tmp 8, .tmp 9] Try.results13 rfl ?_
 intro w' hm' hc' hg'
 rw [show addV x a v wt = plcO x v (bringO wt 1 4096) from if_pos hE, hE, show addX x a v wt = addQ x a v wt from if_pos hE]; exact rqm_leaf (x' := addQ x a v wt) hwf hesu1 ht1 hb hbm hm' (by (repeat' (first | exact SubM.nil _ | refine SubM.cons (by first | rfl | (rw [← hld]; rfl)) ?_ | refine SubM.app ?_))) hc' hin1
end Go.Eng
namespace Go.Eng
open Go Go.Proofs Go.RowKit
theorem rdy_lt {x : Qm} (h : QWf x) (hc : 0 ≤ x.cur) : (rdyO x).length < x.l.length := by
  have h1 : rdyO x = rdyO { x with l := x.l.filter (fun t => decide (t.id ≠ x.cur)) } := by
    unfold rdyO; simp only [List.filter_filter, Bool.and_self]
  rw [h1]
  refine Nat.lt_of_le_of_lt (rdy_len (nodup_filt h.nd)) ?_
  refine Nat.lt_of_le_of_ne (List.length_filter_le ..) (fun q => ?_)
  obtain ⟨h2, h3⟩ := ixO_hit (h.ix hc)
  have := List.length_filter_eq_length_iff.1 q _ h3
  rw [decide_eq_true_eq] at this
  exact this h2
theorem gQ_eta {l : List Kv} {a : Int} (h : ixO l a < l.length) : (⟨(gQ l a).V, a, (gQ l a).x⟩ : Kv) = gQ l a := by
  have := (ixO_hit h).1
  change (gQ l a).id = a at this
  generalize gQ l a = y at this ⊢
  subst this; rfl
theorem tickL_eq {l : List Kv} {a : Int} (h : ixO l a < l.length) : tickL l a = l.set (ixO l a) ⟨addO (gQ l a).V (coreO (gQ l a).x), a, (gQ l a).x⟩ := by
  unfold tickL
  congr 1
  have := (ixO_hit h).1
  show (⟨_, (gQ l a).id, _⟩ : Kv) = _
  rw [show (gQ l a).id = a from this]
theorem load_same {l : List Kv} {i : Nat} (h : i < l.length) {y : Kv} (hy : y.x = (l.getD i default).x) : loadO l = loadO (l.set i y) := by rw [load_set h, hy]; omega
theorem setlQ_nil {x : Qm} (h : x.l = []) : setlQ x = x := by unfold setlQ; rw [h]
theorem setlQ_pos {x : Qm} (h : x.l ≠ []) : setlQ x = { x with fl := if x.fl.toNat < (minO x.l).toNat then minO x.l else x.fl } := by
  have h2 : setlQ x = if x.fl.toNat < (minO x.l).toNat then { x with fl := minO x.l } else x := by
    unfold setlQ; split
    · exact absurd (by assumption) h
    · rfl
  rw [h2]
  by_cases q : x.fl.toNat < (minO x.l).toNat
  · rw [if_pos q, if_pos q]
  · rw [if_neg q, if_neg q]
set_option maxRecDepth 100000 in
theorem pick_spec {n0 b : Nat} {x : Qm} {m : Mem0} (w : World) (h : RqM n0 b x m) (hM : Mem w m) : Ret Try.prog 26 #[.pointer (some ⟨b, 0, none⟩)] w (Upd m (fun u m' => u = .tuple #[.int .i64 (pickO x), .bool (decide (0 ≤ pickO x))] ∧ RqM n0 b (pikQ x) m') w) := by
 obtain ⟨hq, bm, bt, es, cl, mt, rfl, he, ht, hb, hbm⟩ := h; have h0 : RqM n0 b x (rqC b x.g x.fl bm bt x.cur x.ran (loadO x.l) :: (bm, .map es cl) :: mt) := ⟨hq, bm, bt, es, cl, mt, rfl, he, ht, hb, hbm⟩; have hll := hq.load; have hlen := hq.len
 refine Ret.enterM (l := [.pointer (some ⟨b, 0, none⟩)]) Try.func26 rfl Try.ntmps26 rfl (rqC b x.g x.fl bm bt x.cur x.ran (loadO x.l) :: (bm, .map es cl) :: (mt ++ [])) ((inM (rqC b x.g x.fl bm bt x.cur x.ran (loadO x.l) :: (bm, .map es cl) :: mt))) (by rw [List.append_nil]; exact hM) ?_
 refine wpM.seq (wpM.region ?_)
 refine LM.as rfl (LM.as rfl ?_)
 refine LM.nil (QM.sub (e' := [(0, _)]) ⟨rfl, trivial⟩ (QM.then ?_))
 refine wpM.seq ?_
 refine wpM.seq (wpM.region ?_)
 refine LM.mv rfl ?_
 refine LM.val (ov_peql (by kernel_rfl) rfl rfl) ?_
 refine LM.mv rfl (LM.sp 9 rfl rfl rfl (LM.mv rfl (LM.sp 9 rfl rfl rfl ?_)))
 refine LM.val (ov_nilCheck rfl) ?_
 refine LM.sp 9 rfl rfl rfl (LM.val (ov_field Try.underlying93 rfl Try.sizeOf3 rfl (k := 4) rfl rfl) (LM.sp 9 rfl rfl rfl ?_))
 refine LM.rd (om_ld Try.isAgg3 rfl rfl) ?_
 refine LM.sp 9 rfl rfl rfl ?_
 refine LM.val (ov_neq rfl rfl) ?_
 refine LM.val (ov_pickF rfl rfl) ?_
 refine LM.nil (QM.sub (e' := [(0, _), (15, _)]) au9 (QM.then ?_))
 refine wpM.condD rfl (fun h1 => ?_) (fun h1 => ?_)
 ·
  refine wpM.seq (wpM.region ?_)
  refine LM.as rfl (LM.as rfl ?_)
  refine LM.nil (QM.sub (e' := [(2, _), (3, _)]) au9 (QM.then ?_))
  refine wpM.ret ?_
  refine QM.then_ret ?_
  refine QM.leave (.inl rfl) [.tmp 2, .tmp 3] Try.results26 rfl ?_
  intro w' hm' hc' hg'
  obtain ⟨hp1, hp2⟩ := pik_none (x := x) (.inl (cur_pos hq h1)); rw [hp1, hp2]; exact rqm_leaf (x' := x) hq he ht hb hbm hm' au1 hc' (inn_refl _ _)
 replace h1 := Classical.not_not.1 h1
 refine wpM.skip ?_
 refine QM.then (wpM.seq (wpM.region ?_))
 refine LM.mv rfl ?_
 refine LM.val (ov_nilCheck rfl) ?_
 refine LM.val (ov_field Try.underlying93 rfl Try.sizeOf90 rfl (k := 3) rfl rfl) ?_
 refine LM.rd (om_ld Try.isAgg90 rfl rfl) ?_
 refine LM.callE (oc_call (enters_fn Try.func73 (by kernel_rfl) rfl) rfl) (fun w hm hc hg => first_spec w ht (hm.pick mt)) ?_
 refine LM.mv rfl ?_
 refine LM.val (ov_extract rfl rfl) ?_
 refine LM.val (ov_extract rfl rfl) ?_
 refine LM.val (ov_extract rfl rfl) ?_
 refine LM.alloc Try.zeroValue100 rfl (fun b4 hb4 => ?_)
 refine LM.stW Try.sizeOf100 rfl rfl rfl rfl au7 (fun hlt => by first | exact inM_0 | exact inM_1 | exact absurd hlt (by omega)) ?_
 refine LM.as rfl (LM.as rfl ?_)
 refine LM.nil (QM.sub (e' := [(0, _), (4, _), (6, _)]) au9 (QM.then ?_))
 refine wpM.seq ?_
 refine wpM.seq (wpM.region ?_)
 refine LM.mv rfl ?_
 refine LM.val (ov_notD rfl) ?_
 refine LM.nil (QM.sub (e' := [(0, _), (4, _), (26, _)]) au9 (QM.then ?_))
 refine wpM.condD rfl (fun h2 => ?_) (fun h2 => ?_)
 ·
  refine wpM.seq (wpM.region ?_)
  refine LM.as rfl (LM.as rfl ?_)
  refine LM.nil (QM.sub (e' := [(2, _), (3, _)]) au9 (QM.then ?_))
  refine wpM.ret ?_
  refine QM.then_ret ?_
  refine QM.leave (.inl rfl) [.tmp 2, .tmp 3] Try.results26 rfl ?_
  intro w' hm' hc' hg'
  obtain ⟨hp1, hp2⟩ := pik_none (x := x) (.inr (Classical.not_not.1 h2)); rw [hp1, hp2]; exact rqm_leaf (x' := x) hq he ht hb hbm hm' au1 hc' (inn_refl _ _)
 replace h2 := Classical.not_not.1 h2; obtain ⟨t, l, e⟩ := ne_cons h2; have het : (rdyO x).headD default = t := (by rw [e]; rfl); obtain ⟨hp1, hp2⟩ := pickO_hit hq h1 e; have htm := rdy_hd_mem hq e; have hwf := pick_wf hq htm.1; have hpos := hq.pos t htm.1
 refine wpM.skip ?_
 refine QM.then ?_
 refine wpM.seq ?_
 refine wpM.draw [(0, 0), (1, 0), (2, 0), (3, 1), (4, 1), (5, 3)] (by kernel_rfl) (by kernel_rfl) ?_
 rw [het]
 refine LD.val rfl rfl (ov_move rfl) ?_
 refine LD.val rfl rfl (ov_nilCheck rfl) ?_
 refine LD.val rfl rfl (ov_field Try.underlying93 rfl Try.sizeOf90 rfl (k := 3) rfl rfl) ?_
 refine LD.rd rfl rfl (om_ld Try.isAgg90 rfl rfl) ?_
 refine LD.rd rfl rfl (om_ldW Try.isAgg100 Try.sizeOf100 rfl rfl) ?_
 refine LD.tail rfl rfl ?_
 refine LM.cU (oc_call (enters_fn Try.func67 (by kernel_rfl) rfl) rfl) (fun w hm hc hg => del_spec t t w (by rw [e]; exact List.mem_cons_self ..) ⟨rfl, rfl⟩ (by decide) ht (hm.pick mt)) ht.wlk (fun p hp _ => inM_2 p hp) ?_
 rintro u32 mt1 ⟨rfl, ht1⟩ hin1; rw [pick_rdy hq h1 htm.1 ⟨rfl, rfl⟩] at ht1
 refine LM.nil ?_
 refine QM.qn ?_
 refine QM.sub (e' := [(0, _), (4, _)]) au9 (QM.then (wpM.seq (wpM.region ?_)))
 refine LM.mv rfl (LM.mv rfl (LM.val (ov_field Try.underlying100 rfl Try.sizeOf3 rfl (k := 1) rfl rfl) ?_))
 refine LM.rd (om_ld Try.isAgg3 rfl rfl) ?_
 refine LM.val (ov_nilCheck rfl) ?_
 refine LM.val (ov_field Try.underlying93 rfl Try.sizeOf3 rfl (k := 4) rfl rfl) ?_
 refine LM.st Try.sizeOf3 rfl rfl rfl au5 rfl (fun hlt => by first | exact inM_0 | exact inM_1 | exact absurd hlt (by omega)) ?_
 refine LM.val (ov_nilCheck rfl) ?_
 refine LM.val (ov_field Try.underlying93 rfl Try.sizeOf3 rfl (k := 5) rfl rfl) ?_
 refine LM.st Try.sizeOf3 rfl rfl rfl au5 rfl (fun hlt => by first | exact inM_0 | exact inM_1 | exact absurd hlt (by omega)) ?_
 refine LM.mem (SubM.mem (M' := rqC b x.g x.fl bm bt t.id 0 (loadO x.l) :: (bm, .map es cl) :: (b4, .cells #[U t.V, .int .i64 t.id] 100 (0, 0)) :: (mt1 ++ [])) au1) ?_
 refine LM.nil (QM.sub (e' := [(4, _)]) ⟨rfl, trivial⟩ (QM.then (wpM.seq (wpM.region ?_))))
 refine LM.val (ov_field Try.underlying100 rfl Try.sizeOf3 rfl (k := 1) rfl rfl) ?_
 refine LM.rd (om_ld Try.isAgg3 rfl rfl) ?_
 refine LM.as rfl (LM.as rfl ?_)
 refine LM.nil (QM.sub (e' := [(2, _), (3, _)]) au9 (QM.then ?_))
 refine wpM.ret ?_
 refine QM.leave (.inl rfl) [.tmp 2, .tmp 3] Try.results26 rfl ?_
 intro w' hm' hc' hg'
 rw [hp1, hp2, decide_eq_true hpos]; exact rqm_leaf (x' := pickQ x t.id) hwf he ht1 hb hbm hm' au1 hc' hin1
set_option maxRecDepth 100000 in
theorem back_spec {n0 b : Nat} {x : Qm} {m : Mem0} (w : World) (h : RqM n0 b x m) (hn0 : n0 ≤ w.heap.size) (hM : Mem w m) : Ret Try.prog 28 #[.pointer (some ⟨b, 0, none⟩)] w (Upd m (fun u m' => u = .tuple #[.int .i64 x.cur, .bool (decide (x.cur ≠ -1))] ∧ RqM n0 b (bakQ x) m') w) := by
 obtain ⟨hq, bm, bt, es, cl, mt, rfl, he, ht, hb, hbm⟩ := h; have h0 : RqM n0 b x (rqC b x.g x.fl bm bt x.cur x.ran (loadO x.l) :: (bm, .map es cl) :: mt) := ⟨hq, bm, bt, es, cl, mt, rfl, he, ht, hb, hbm⟩; have hll := hq.load; have hlen := hq.len
 refine Ret.enterM (l := [.pointer (some ⟨b, 0, none⟩)]) Try.func28 rfl Try.ntmps28 rfl (rqC b x.g x.fl bm bt x.cur x.ran (loadO x.l) :: (bm, .map es cl) :: (mt ++ [])) ((inM (rqC b x.g x.fl bm bt x.cur x.ran (loadO x.l) :: (bm, .map es cl) :: mt))) (by rw [List.append_nil]; exact hM) ?_
 refine wpM.seq (wpM.region ?_)
 refine LM.as rfl (LM.as rfl ?_)
 refine LM.nil (QM.sub (e' := [(0, _)]) ⟨rfl, trivial⟩ (QM.then ?_))
 refine wpM.seq ?_
 refine wpM.seq (wpM.region ?_)
 refine LM.mv rfl ?_
 refine LM.val (ov_peql (by kernel_rfl) rfl rfl) ?_
 refine LM.mv rfl (LM.sp 7 rfl rfl rfl (LM.mv rfl (LM.sp 7 rfl rfl rfl ?_)))
 refine LM.val (ov_nilCheck rfl) ?_
 refine LM.sp 7 rfl rfl rfl (LM.val (ov_field Try.underlying93 rfl Try.sizeOf3 rfl (k := 4) rfl rfl) (LM.sp 7 rfl rfl rfl ?_))
 refine LM.rd (om_ld Try.isAgg3 rfl rfl) ?_
 refine LM.sp 7 rfl rfl rfl ?_
 refine LM.val (ov_eql rfl rfl) ?_
 refine LM.val (ov_pickF rfl rfl) ?_
 refine LM.nil (QM.sub (e' := [(0, _), (13, _)]) au9 (QM.then ?_))
 refine wpM.condD rfl (fun h1 => ?_) (fun h1 => ?_)
 ·
  refine wpM.seq (wpM.region ?_)
  refine LM.as rfl (LM.as rfl ?_)
  refine LM.nil (QM.sub (e' := [(2, _), (3, _)]) au9 (QM.then ?_))
  refine wpM.ret ?_
  refine QM.then_ret ?_
  refine QM.leave (.inl rfl) [.tmp 2, .tmp 3] Try.results28 rfl ?_
  intro w' hm' hc' hg'
  rw [show bakQ x = x from if_neg (by omega), decide_eq_false (by omega)]; exact h1 ▸ rqm_leaf (x' := x) hq he ht hb hbm hm' au1 hc' (inn_refl _ _)
 have hc0 := cur_pos hq h1; have hix := hq.ix hc0; have hwf := back_wf hq
 refine wpM.skip ?_
 refine QM.then (wpM.seq (wpM.region ?_))
 refine LM.mv rfl ?_
 refine LM.val (ov_nilCheck rfl) ?_
 refine LM.val (ov_field Try.underlying93 rfl Try.sizeOf3 rfl (k := 4) rfl rfl) ?_
 refine LM.rd (om_ld Try.isAgg3 rfl rfl) ?_
 refine LM.as rfl ?_
 refine LM.nil (QM.sub (e' := [(0, _), (4, _)]) au9 (QM.then (wpM.seq (wpM.region ?_))))
 refine LM.mv rfl (LM.mv rfl ?_)
 refine LM.val (ov_nilCheck rfl) ?_
 refine LM.val (ov_field Try.underlying93 rfl Try.sizeOf3 rfl (k := 4) rfl rfl) ?_
 refine LM.st Try.sizeOf3 rfl rfl rfl au5 rfl (fun hlt => by first | exact inM_0 | exact inM_1 | exact absurd hlt (by omega)) ?_
 refine LM.val (ov_nilCheck rfl) ?_
 refine LM.val (ov_field Try.underlying93 rfl Try.sizeOf3 rfl (k := 5) rfl rfl) ?_
 refine LM.st Try.sizeOf3 rfl rfl rfl au5 rfl (fun hlt => by first | exact inM_0 | exact inM_1 | exact absurd hlt (by omega)) ?_
 refine LM.mem (SubM.mem (M' := rqC b x.g x.fl bm bt (-1) 0 (loadO x.l) :: (bm, .map es cl) :: (mt ++ [])) au1) ?_
 refine LM.nil (QM.sub (e' := [(0, _), (4, _)]) au9 (QM.then ?_))
 refine wpM.seq ?_
 refine wpM.draw [(0, 0), (1, 0), (2, 0), (3, 1), (4, 0), (5, 0), (7, 0), (8, 0), (9, 0), (10, 1), (11, 0), (12, 1), (13, 0), (6, 2), (14, 3)] (by kernel_rfl) (by kernel_rfl) ?_
 refine LD.val rfl rfl (ov_move rfl) ?_
 refine LD.val rfl rfl (ov_nilCheck rfl) ?_
 refine LD.val rfl rfl (ov_field Try.underlying93 rfl Try.sizeOf90 rfl (k := 3) rfl rfl) ?_
 refine LD.rd rfl rfl (om_ld Try.isAgg90 rfl rfl) ?_
 refine LD.val rfl rfl (ov_move rfl) ?_
 refine LD.val rfl rfl (ov_move rfl) ?_
 refine LD.val rfl rfl (ov_move rfl) ?_
 refine LD.val rfl rfl (ov_nilCheck rfl) ?_
 refine LD.val rfl rfl (ov_field Try.underlying93 rfl Try.sizeOf89 rfl (k := 2) rfl rfl) ?_
 refine LD.rd rfl rfl (om_ld Try.isAgg89 rfl rfl) ?_
 refine LD.val rfl rfl (ov_move rfl) ?_
 refine LD.rd rfl rfl (om_lk Try.underlying89 Try.underlying3 Try.zeroValue95 rfl rfl (by assumption) (ent_get _ _)) ?_
 refine LD.val rfl rfl (ov_fieldV Try.underlying95 rfl Try.isAgg3 rfl rfl) ?_
 refine LD.callE rfl rfl (oc_call (enters_fn Try.func65 (by kernel_rfl) rfl) rfl) (fun w hm hc hg => key_spec x.cur w he (hm.pick (rqC b x.g x.fl bm bt (-1) 0 (loadO x.l) :: (bm, .map es cl) :: []))) ?_
 refine LD.tail rfl rfl ?_
 refine LM.cU (oc_call (enters_fn Try.func64 (by kernel_rfl) rfl) rfl) (fun w hm hc hg => ins_spec (⟨(gQ x.l x.cur).V, x.cur, (gQ x.l x.cur).x⟩ : Kv) w (fun y hy e => (rdy_id hq hy).2 e.2) (Nat.lt_of_lt_of_le (rdy_lt hq hc0) hlen) (by decide) ht (Nat.le_trans hn0 hc.size) (hm.pick mt)) ht.wlk (fun p hp _ => inM_2 p hp) ?_
 rintro u38 mt1 ⟨rfl, ht1⟩ hin1; rw [gQ_eta hix, back_rdy hq hc0] at ht1
 refine LM.nil ?_
 refine QM.qn ?_
 refine QM.sub (e' := [(4, _)]) ⟨rfl, trivial⟩ (QM.then (wpM.seq (wpM.region ?_)))
 refine LM.mv rfl (LM.as rfl (LM.as rfl ?_))
 refine LM.nil (QM.sub (e' := [(2, _), (3, _)]) au9 (QM.then ?_))
 refine wpM.ret ?_
 refine QM.leave (.inl rfl) [.tmp 2, .tmp 3] Try.results28 rfl ?_
 intro w' hm' hc' hg'
 rw [show bakQ x = backQ x from if_pos hc0, decide_eq_true h1]; exact rqm_leaf (x' := backQ x) hwf he ht1 hb hbm hm' au1 hc' hin1
set_option maxRecDepth 100000 in
theorem tick_spec {n0 b : Nat} {x : Qm} {m : Mem0} (w : World) (h : RqM n0 b x m) (hr : x.ran ≤ 1000000000000) (hM : Mem w m) : Ret Try.prog 30 #[.pointer (some ⟨b, 0, none⟩)] w (Upd m (fun u m' => u = .tuple #[.int .i64 x.cur, .bool (decide (x.cur ≠ -1))] ∧ RqM n0 b (tickQ x) m') w) := by
 obtain ⟨hq, bm, bt, es, cl, mt, rfl, he, ht, hb, hbm⟩ := h; have h0 : RqM n0 b x (rqC b x.g x.fl bm bt x.cur x.ran (loadO x.l) :: (bm, .map es cl) :: mt) := ⟨hq, bm, bt, es, cl, mt, rfl, he, ht, hb, hbm⟩; have hll := hq.load; have hlen := hq.len; have hrn := hq.ran
 refine Ret.enterM (l := [.pointer (some ⟨b, 0, none⟩)]) Try.func30 rfl Try.ntmps30 rfl (rqC b x.g x.fl bm bt x.cur x.ran (loadO x.l) :: (bm, .map es cl) :: (mt ++ [])) ((inM (rqC b x.g x.fl bm bt x.cur x.ran (loadO x.l) :: (bm, .map es cl) :: mt))) (by rw [List.append_nil]; exact hM) ?_
 refine wpM.seq (wpM.region ?_)
 refine LM.as rfl (LM.as rfl ?_)
 refine LM.nil (QM.sub (e' := [(0, _)]) ⟨rfl, trivial⟩ (QM.then ?_))
 refine wpM.seq ?_
 refine wpM.seq (wpM.region ?_)
 refine LM.mv rfl ?_
 refine LM.val (ov_peql (by kernel_rfl) rfl rfl) ?_
 refine LM.mv rfl (LM.sp 7 rfl rfl rfl (LM.mv rfl (LM.sp 7 rfl rfl rfl ?_)))
 refine LM.val (ov_nilCheck rfl) ?_
 refine LM.sp 7 rfl rfl rfl (LM.val (ov_field Try.underlying93 rfl Try.sizeOf3 rfl (k := 4) rfl rfl) (LM.sp 7 rfl rfl rfl ?_))
 refine LM.rd (om_ld Try.isAgg3 rfl rfl) ?_
 refine LM.sp 7 rfl rfl rfl ?_
 refine LM.val (ov_eql rfl rfl) ?_
 refine LM.val (ov_pickF rfl rfl) ?_
 refine LM.nil (QM.sub (e' := [(0, _), (13, _)]) au9 (QM.then ?_))
 refine wpM.condD rfl (fun h1 => ?_) (fun h1 => ?_)
 ·
  refine wpM.seq (wpM.region ?_)
  refine LM.as rfl (LM.as rfl ?_)
  refine LM.nil (QM.sub (e' := [(2, _), (3, _)]) au9 (QM.then ?_))
  refine wpM.ret ?_
  refine QM.then_ret ?_
  refine QM.leave (.inl rfl) [.tmp 2, .tmp 3] Try.results30 rfl ?_
  intro w' hm' hc' hg'
  rw [show tickQ x = x from if_neg (by omega), decide_eq_false (by omega)]; exact h1 ▸ rqm_leaf (x' := x) hq he ht hb hbm hm' au1 hc' (inn_refl _ _)
 have hc0 := cur_pos hq h1; have hix := hq.ix hc0; have hwf := tick_wf hq; have hrd := tick_rdy hq; have htq : tickQ x = { x with l := tickL x.l x.cur, ran := x.ran + 1 } := if_pos hc0
 refine wpM.skip ?_
 refine QM.then ?_
 refine wpM.seq ?_
 refine wpM.draw [(0, 0), (1, 0), (2, 0), (3, 1), (4, 0), (5, 0), (6, 0), (7, 1), (8, 1), (9, 2), (10, 3)] (by kernel_rfl) (by kernel_rfl) ?_
 refine LD.val rfl rfl (ov_move rfl) ?_
 refine LD.val rfl rfl (ov_nilCheck rfl) ?_
 refine LD.val rfl rfl (ov_field Try.underlying93 rfl Try.sizeOf89 rfl (k := 2) rfl rfl) ?_
 refine LD.rd rfl rfl (om_ld Try.isAgg89 rfl rfl) ?_
 refine LD.val rfl rfl (ov_move rfl) ?_
 refine LD.val rfl rfl (ov_nilCheck rfl) ?_
 refine LD.val rfl rfl (ov_field Try.underlying93 rfl Try.sizeOf3 rfl (k := 4) rfl rfl) ?_
 refine LD.rd rfl rfl (om_ld Try.isAgg3 rfl rfl) ?_
 refine LD.rd rfl rfl (om_lk Try.underlying89 Try.underlying3 Try.zeroValue95 rfl rfl (by assumption) (ent_get _ _)) ?_
 refine LD.alloc rfl rfl Try.zeroValue95 rfl (fun b4 hb4 => ?_)
 refine LD.tail rfl rfl ?_
 refine LM.stW Try.sizeOf95 rfl rfl rfl rfl au7 (fun hlt => by first | exact inM_0 | exact inM_1 | exact absurd hlt (by omega)) ?_
 refine LM.nil ?_
 refine QM.qn ?_
 refine QM.sub (e' := [(0, _), (4, _)]) au9 (QM.then ?_)
 refine wpM.seq ?_
 refine wpM.draw [(0, 0), (1, 1), (2, 0), (3, 1), (4, 2), (5, 2), (6, 0), (7, 0), (8, 0), (9, 0), (10, 3)] (by kernel_rfl) (by kernel_rfl) ?_
 refine LD.val rfl rfl (ov_field Try.underlying95 rfl Try.sizeOf26 rfl (k := 0) rfl rfl) ?_
 refine LD.rd rfl rfl (om_ld Try.isAgg26 rfl rfl) ?_
 refine LD.val rfl rfl (ov_field Try.underlying95 rfl Try.sizeOf3 rfl (k := 1) rfl rfl) ?_
 refine LD.rd rfl rfl (om_ld Try.isAgg3 rfl rfl) ?_
 refine LD.callE rfl rfl (oc_call (enters_fn Try.func16 (by kernel_rfl) rfl) rfl) (fun w hm hc hg => ucore_spec _ w) ?_
 refine LD.callE rfl rfl (oc_call (enters_fn Try.func75 (by kernel_rfl) rfl) rfl) (fun w hm hc hg => fadd_spec _ _ w) ?_
 refine LD.val rfl rfl (ov_move rfl) ?_
 refine LD.val rfl rfl (ov_extract rfl rfl) ?_
 refine LD.val rfl rfl (ov_extract rfl rfl) ?_
 refine LD.val rfl rfl (ov_field Try.underlying95 rfl Try.sizeOf26 rfl (k := 0) rfl rfl) ?_
 refine LD.tail rfl rfl ?_
 refine LM.st Try.sizeOf26 rfl rfl rfl au5 rfl (fun hlt => by first | exact inM_0 | exact inM_1 | exact absurd hlt (by omega)) ?_
 refine LM.mem (SubM.mem (M' := (b4, .cells #[U (addO (gQ x.l x.cur).V (coreO (gQ x.l x.cur).x)), .int .i64 (gQ x.l x.cur).x] 95 (0, 0)) :: rqC b x.g x.fl bm bt x.cur x.ran (loadO x.l) :: (bm, .map es cl) :: (mt ++ [])) au1) ?_
 refine LM.nil ?_
 refine QM.qn ?_
 refine QM.sub (e' := [(0, _), (4, _)]) au9 (QM.then ?_)
 refine wpM.seq ?_
 refine wpM.draw [(0, 0), (1, 0), (2, 0), (3, 1), (4, 0), (5, 0), (6, 0), (7, 1), (8, 1), (9, 3)] (by kernel_rfl) (by kernel_rfl) ?_
 refine LD.val rfl rfl (ov_move rfl) ?_
 refine LD.val rfl rfl (ov_nilCheck rfl) ?_
 refine LD.val rfl rfl (ov_field Try.underlying93 rfl Try.sizeOf89 rfl (k := 2) rfl rfl) ?_
 refine LD.rd rfl rfl (om_ld Try.isAgg89 rfl rfl) ?_
 refine LD.val rfl rfl (ov_move rfl) ?_
 refine LD.val rfl rfl (ov_nilCheck rfl) ?_
 refine LD.val rfl rfl (ov_field Try.underlying93 rfl Try.sizeOf3 rfl (k := 4) rfl rfl) ?_
 refine LD.rd rfl rfl (om_ld Try.isAgg3 rfl rfl) ?_
 refine LD.rd rfl rfl (om_ldW Try.isAgg95 Try.sizeOf95 rfl rfl) ?_
 refine LD.tail rfl rfl ?_
 refine LM.mU Try.underlying89 Try.underlying3 rfl rfl rfl (by assumption) (fun hlt => by first | exact inM_0 | exact inM_1 | exact absurd hlt (by omega)) (fun esu1 clu1 hesu1 => ?_)
 refine LM.nil ?_
 refine QM.qn ?_
 refine QM.sub (e' := [(0, _)]) ⟨rfl, trivial⟩ (QM.then (wpM.seq (wpM.region ?_)))
 rw [ent_set hix, ← tickL_eq hix] at hesu1
 refine LM.mv rfl ?_
 refine LM.val (ov_nilCheck rfl) ?_
 refine LM.val (ov_field Try.underlying93 rfl Try.sizeOf3 rfl (k := 5) rfl rfl) ?_
 refine LM.rd (om_ld Try.isAgg3 rfl rfl) ?_
 refine LM.val (ov_add64 rfl rfl (by omega)) ?_
 refine LM.val (ov_nilCheck rfl) ?_
 refine LM.val (ov_field Try.underlying93 rfl Try.sizeOf3 rfl (k := 5) rfl rfl) ?_
 refine LM.st Try.sizeOf3 rfl rfl rfl au5 rfl (fun hlt => by first | exact inM_0 | exact inM_1 | exact absurd hlt (by omega)) ?_
 refine LM.mem (SubM.mem (M' := rqC b x.g x.fl bm bt x.cur (x.ran + 1) (loadO x.l) :: (bm, .map esu1 clu1) :: (mt ++ [])) au1) ?_
 refine LM.nil (QM.sub (e' := [(0, _)]) ⟨rfl, trivial⟩ (QM.then (wpM.seq (wpM.region ?_))))
 refine LM.mv rfl ?_
 refine LM.val (ov_nilCheck rfl) ?_
 refine LM.val (ov_field Try.underlying93 rfl Try.sizeOf3 rfl (k := 4) rfl rfl) ?_
 refine LM.rd (om_ld Try.isAgg3 rfl rfl) ?_
 refine LM.as rfl (LM.as rfl ?_)
 refine LM.nil (QM.sub (e' := [(2, _), (3, _)]) au9 (QM.then ?_))
 refine wpM.ret ?_
 refine QM.leave (.inl rfl) [.tmp 2, .tmp 3] Try.results30 rfl ?_
 intro w' hm' hc' hg'
 rw [decide_eq_true h1]; rw [hrd] at ht; rw [htq] at hwf ht ⊢; have hld : loadO x.l = loadO (tickL x.l x.cur) := (by rw [tickL_eq hix]; exact load_same hix rfl); exact rqm_leaf (x' := { x with l := tickL x.l x.cur, ran := x.ran + 1 }) hwf hesu1 ht hb hbm hm' (by (repeat' (first | exact SubM.nil _ | refine SubM.cons (by first | rfl | (rw [← hld]; done) | (rw [← hld]; rfl)) ?_ | refine SubM.app ?_))) hc' (inn_refl _ _)
set_option maxRecDepth 100000 in
theorem settle_spec {n0 b : Nat} {x : Qm} {m : Mem0} (w : World) (h : RqM n0 b x m) (hM : Mem w m) : Ret Try.prog 33 #[.pointer (some ⟨b, 0, none⟩)] w (Upd m (fun u m' => u = .tuple #[] ∧ RqM n0 b (setlQ x) m') w) := by
 obtain ⟨hq, bm, bt, es, cl, mt, rfl, he, ht, hb, hbm⟩ := h; have h0 : RqM n0 b x (rqC b x.g x.fl bm bt x.cur x.ran (loadO x.l) :: (bm, .map es cl) :: mt) := ⟨hq, bm, bt, es, cl, mt, rfl, he, ht, hb, hbm⟩; have hll := hq.load; have hlen := hq.len
 refine Ret.enterM (l := [.pointer (some ⟨b, 0, none⟩)]) Try.func33 rfl Try.ntmps33 rfl (rqC b x.g x.fl bm bt x.cur x.ran (loadO x.l) :: (bm, .map es cl) :: (mt ++ [])) ((inM (rqC b x.g x.fl bm bt x.cur x.ran (loadO x.l) :: (bm, .map es cl) :: mt))) (by rw [List.append_nil]; exact hM) ?_
 refine wpM.seq ?_
 refine wpM.seq (wpM.region ?_)
 refine LM.mv rfl ?_
 refine LM.val (ov_peql (by kernel_rfl) rfl rfl) ?_
 refine LM.nil (QM.sub (e' := [(0, _), (5, _)]) au9 (QM.then ?_))
 refine wpM.condF rfl ?_
 refine wpM.skip ?_
 refine QM.then (wpM.seq (wpM.region ?_))
 refine LM.mv rfl ?_
 refine LM.callE (oc_call (enters_fn Try.func78 (by kernel_rfl) rfl) rfl) (fun w hm hc hg => least2_spec w h0 (hm.pick (rqC b x.g x.fl bm bt x.cur x.ran (loadO x.l) :: (bm, .map es cl) :: mt))) ?_
 refine LM.mv rfl ?_
 refine LM.val (ov_extract rfl rfl) ?_
 refine LM.val (ov_extract rfl rfl) ?_
 refine LM.as rfl (LM.as rfl ?_)
 refine LM.nil (QM.sub (e' := [(0, _), (2, _), (3, _)]) au9 (QM.then (wpM.seq (wpM.region ?_))))
 refine LM.mv rfl ?_
 refine LM.nil (QM.sub (e' := [(0, _), (2, _), (11, _)]) au9 (QM.then ?_))
 refine wpM.condD rfl (fun h1 => ?_) (fun h1 => ?_)
 ·
  refine wpM.region ?_
  refine LM.mv rfl (LM.mv rfl ?_)
  refine LM.val (ov_nilCheck rfl) ?_
  refine LM.val (ov_field Try.underlying93 rfl Try.sizeOf26 rfl (k := 1) rfl rfl) ?_
  refine LM.rd (om_ld Try.isAgg26 rfl rfl) ?_
  refine LM.mv rfl ?_
  refine LM.val (ov_umax rfl rfl) ?_
  refine LM.val (ov_nilCheck rfl) ?_
  refine LM.val (ov_field Try.underlying93 rfl Try.sizeOf26 rfl (k := 1) rfl rfl) ?_
  refine LM.st Try.sizeOf26 rfl rfl rfl au5 rfl (fun hlt => by first | exact inM_0 | exact inM_1 | exact absurd hlt (by omega)) ?_
  refine LM.mem (SubM.mem (M' := rqC b x.g (if x.fl.toNat < (minO x.l).toNat then minO x.l else x.fl) bm bt x.cur x.ran (loadO x.l) :: (bm, .map es cl) :: (mt ++ [])) au1) ?_
  refine LM.nil (QM.sub (e' := []) trivial ?_)
  refine QM.leave (.inr rfl) [] Try.results33 rfl ?_
  intro w' hm' hc' hg'
  have hs := setlQ_pos h1; have hwf := setl_wf hq; have hrd := setl_rdy x; rw [hs] at hwf hrd ⊢; rw [hrd] at ht; exact rqm_leaf (x' := { x with fl := if x.fl.toNat < (minO x.l).toNat then minO x.l else x.fl }) hwf he ht hb hbm hm' au1 hc' (inn_refl _ _)
 refine wpM.skip ?_
 refine QM.leave (.inr rfl) [] Try.results33 rfl ?_
 intro w' hm' hc' hg'
 rw [setlQ_nil (Classical.not_not.1 h1)]; exact rqm_leaf (x' := x) hq he ht hb hbm hm' au1 hc' (inn_refl _ _)
end Go.Eng
namespace Go.Eng
open Go Go.Proofs Go.RowKit
abbrev qP (c b : Nat) : Nat × Obj := (c, .cells #[.pointer (some ⟨b, 0, none⟩)] 24 (0, 0))
def RqA (b n0 : Nat) (v : Value) (m : Mem0) : Prop := ∃ c1, v = .func (.func 81) #[] #[.pointer (some ⟨c1, 0, none⟩)] ∧ m = [qP c1 b] ∧ n0 ≤ c1
theorem RqA.mono {b : Nat} : ∀ (k k' : Nat) u m, k' ≤ k → RqA b k u m → RqA b k' u m := fun k k' u m h ⟨b1, h1, h2, h3⟩ => ⟨b1, h1, h2, by omega⟩
end Go.Eng
namespace Go.Eng
open Go Go.Proofs Go.RowKit
def fTk (t : Kv) : List Value := [.int .i64 t.id, U t.V, .int .i64 t.x]
abbrev rfC (b : Nat) (g : Int) (fl : BitVec 64) (ad : Option Addr) (n cap : Nat) (cur ran : Int) : Nat × Obj := (b, .cells #[.int .i64 g, U fl, .slice ad n cap, .int .i64 cur, .int .i64 ran] 110 (0, 0))
def RfM (n0 b : Nat) (x : Qm) (m : Mem0) : Prop := QWf x ∧ ∃ (ad : Option Addr) (n cap : Nat) (ms : Mem0), m = rfC b x.g x.fl ad n cap x.cur x.ran :: ms ∧ n = x.l.length ∧ Sl fTk 112 3 n0 x.l (.slice ad n cap) ms ∧ n0 ≤ b
theorem RfM.ge {n0 b : Nat} {x : Qm} {m : Mem0} (h : RfM n0 b x m) : ∀ p ∈ m, n0 ≤ p.1 := by
  obtain ⟨hq, ad, n, cap, ms, rfl, hn, hs, hb⟩ := h
  intro p hp
  rcases List.mem_cons.1 hp with rfl | hp
  · exact hb
  · exact hs.ge p hp
theorem RfM.wlk {n0 b : Nat} {x : Qm} {m : Mem0} (h : RfM n0 b x m) : ∀ p ∈ m, wlk p.2 = false := by
  obtain ⟨hq, ad, n, cap, ms, rfl, hn, hs, hb⟩ := h
  intro p hp
  rcases List.mem_cons.1 hp with rfl | hp
  · rfl
  · exact hs.wlk p hp
theorem RfM.mono {n0 n1 b : Nat} {x : Qm} {m : Mem0} (h : RfM n0 b x m) (hn : n1 ≤ n0) : RfM n1 b x m := by
  obtain ⟨hq, ad, n, cap, ms, rfl, hn', hs, hb⟩ := h
  exact ⟨hq, ad, n, cap, ms, rfl, hn', hs.mono hn, Nat.le_trans hn hb⟩
def RfN (g : Int) (n0 : Nat) (v : Value) (m : Mem0) : Prop := ∃ b, v = .pointer (some ⟨b, 0, none⟩) ∧ RfM n0 b (newQ g) m
theorem RfN.mono {g : Int} : ∀ (n n' : Nat) (v : Value) (m : Mem0), n' ≤ n → RfN g n v m → RfN g n' v m := fun n n' v m hn ⟨b, h1, h⟩ => ⟨b, h1, h.mono hn⟩
end Go.Eng
namespace Go.Eng
open Go Go.Proofs Go.RowKit
end Go.Eng
namespace Go.Eng
open Go Go.Proofs Go.RowKit
theorem upd_m {m m' M : Mem0} {T : Value → Mem0 → Prop} {u : Value} {w w' : World} (hT : T u m') (hm : Mem w' M) (hs : SubM M (m' ++ [])) (hc : Chg (inM m) w w') (hin : inn m w.heap.size m') : Upd m T w u w' := by
  rw [List.append_nil] at hs
  exact ⟨hc, m', hT, hs.mem w' hm, hin⟩
theorem inM_in {m : Mem0} : ∀ p ∈ m, inM m p.1 := fun p hp => ⟨p, hp, rfl⟩
theorem go1_ran {x : Qm} (h : QWf x) : (goQ1 x).ran ≤ x.ran := by
  have := h.ran
  unfold goQ1; split
  · unfold bakQ; split
    · exact this
    · exact Int.le_refl _
  · exact Int.le_refl _
theorem go2_ran {x : Qm} (h : QWf x) : (goQ2 x).ran ≤ x.ran := by
  have h1 := go1_ran h
  have := h.ran
  unfold goQ2; split
  · exact h1
  · unfold pikQ; split
    · exact h1
    · exact this
theorem go_ran {x : Qm} (h : QWf x) : (goQ x).ran ≤ x.ran + 1 := by
  have h2 := go2_ran h
  have : (goQ x).ran = (tickQ (goQ2 x)).ran := (setl_same _).2.2.1
  rw [this]; unfold tickQ; split
  · show (goQ2 x).ran + 1 ≤ _; omega
  · omega
theorem go1_due {x : Qm} (h : dueO x = true) : goQ1 x = bakQ x := if_pos h
theorem go1_not {x : Qm} (h : dueO x = false) : goQ1 x = x := if_neg (by rw [h]; simp)
theorem due_back {x : Qm} (h : dueO x = true) : bakQ x = backQ x := by
  have : 0 ≤ x.cur := by
    rcases Int.lt_or_le x.cur 0 with q | q
    · rw [due_not (by omega)] at h; cases h
    · exact q
  exact if_pos this
set_option maxRecDepth 100000 in
theorem goOn_spec {n0 b : Nat} {x : Qm} {m : Mem0} (w : World) (h : RqM n0 b x m) (hr : x.ran ≤ 1000000000000) (hn0 : n0 ≤ w.heap.size) (hM : Mem w m) : Ret Try.prog 15 #[.pointer (some ⟨b, 0, none⟩)] w (Upd m (fun u m' => u = .int .i64 (goO x) ∧ RqM n0 b (goQ x) m') w) := by
 refine Ret.enterM (l := [.pointer (some ⟨b, 0, none⟩)]) Try.func15 rfl Try.ntmps15 rfl (m ++ []) ((inM m)) (by rw [List.append_nil]; exact hM) ?_
 refine wpM.seq (wpM.region ?_)
 refine LM.as rfl ?_
 refine LM.nil (QM.sub (e' := [(0, _)]) ⟨rfl, trivial⟩ (QM.then ?_))
 refine wpM.seq ?_
 refine wpM.seq (wpM.region ?_)
 refine LM.mv rfl ?_
 refine LM.callE (oc_call (enters_fn Try.func39 (by kernel_rfl) rfl) rfl) (fun w hm hc hg => due_spec w h (hm.pick m)) ?_
 refine LM.nil (QM.sub (e' := [(0, _), (9, _)]) au9 (QM.then ?_))
 refine wpM.joinK (α := Mem0) (fun m1 => []) [(0, _)] (fun m1 => m1 ++ []) (fun m1 => RqM n0 b (goQ1 x) m1 ∧ inn m w.heap.size m1) ⟨rfl, trivial⟩ ?_ ?_
 ·
  first | refine wpM.condD rfl (fun h1 => ?_) (fun h1 => ?_) | refine wpM.condB rfl (fun h1 => ?_) (fun h1 => ?_)
  ·
   refine wpM.region ?_
   refine LM.mv rfl ?_
   refine LM.cU (oc_call (enters_fn Try.func28 (by kernel_rfl) rfl) rfl) (fun w hm hc hg => back_spec w h (Nat.le_trans hn0 hc.size) (hm.pick m)) h.wlk (fun p hp _ => ⟨p, hp, rfl⟩) ?_
   rintro u11 m11 ⟨rfl, h11⟩ hin11
   refine LM.nil (QM.sub (e' := [(0, _)]) ⟨rfl, trivial⟩ ?_)
   refine QM.meetK (m11) ⟨rfl, trivial⟩ au1 ?_
   · exact ⟨by rw [go1_due h1]; exact h11, hin11⟩
  refine wpM.skip ?_
  refine QM.meetK (m) ⟨rfl, trivial⟩ au1 ?_
  · exact ⟨by rw [go1_not h1]; exact h, inn_refl _ _⟩
 rintro m1 ⟨hq1, hi1⟩
 change QM _ _ _ _ _ (m1 ++ []) _ _ _
 refine QM.then ?_
 refine wpM.seq ?_
 refine wpM.seq (wpM.region ?_)
 refine LM.mv rfl ?_
 refine LM.callE (oc_call (enters_fn Try.func37 (by kernel_rfl) rfl) rfl) (fun w hm hc hg => rqCur_spec w hq1 (hm.pick m1)) ?_
 refine LM.mv rfl ?_
 refine LM.val (ov_extract rfl rfl) ?_
 refine LM.val (ov_extract rfl rfl) ?_
 refine LM.val (ov_extract rfl rfl) ?_
 refine LM.as rfl (LM.as rfl (LM.as rfl ?_))
 refine LM.nil (QM.sub (e' := [(0, _), (5, _)]) au9 (QM.then (wpM.seq (wpM.region ?_))))
 refine LM.mv rfl ?_
 refine LM.val (ov_notD rfl) ?_
 refine LM.nil (QM.sub (e' := [(0, _), (19, _)]) au9 (QM.then ?_))
 refine wpM.joinK (α := Mem0) (fun m2 => []) [(0, _)] (fun m2 => m2 ++ []) (fun m2 => RqM n0 b (goQ2 x) m2 ∧ inn m w.heap.size m2) ⟨rfl, trivial⟩ ?_ ?_
 ·
  refine wpM.condD rfl (fun h2 => ?_) (fun h2 => ?_)
  ·
   refine wpM.region ?_
   refine LM.mv rfl ?_
   refine LM.cU (oc_call (enters_fn Try.func26 (by kernel_rfl) rfl) rfl) (fun w hm hc hg => pick_spec w hq1 (hm.pick m1)) hq1.wlk (inn_S hi1 inM_in) ?_
   rintro u21 m21 ⟨rfl, h21⟩ hin21
   refine LM.nil (QM.sub (e' := [(0, _)]) ⟨rfl, trivial⟩ ?_)
   refine QM.meetK (m21) ⟨rfl, trivial⟩ au1 ?_
   · exact ⟨by rw [show goQ2 x = pikQ (goQ1 x) from if_neg (by have := Classical.not_not.1 h2; omega)]; exact h21, inn_trans hi1 hin21⟩
  refine wpM.skip ?_
  refine QM.meetK (m1) ⟨rfl, trivial⟩ au1 ?_
  · exact ⟨by rw [show goQ2 x = goQ1 x from if_pos (cur_pos hq1.1 (Classical.not_not.1 h2))]; exact hq1, hi1⟩
 rintro m2 ⟨hq2, hi2⟩
 change QM _ _ _ _ _ (m2 ++ []) _ _ _
 refine QM.then (wpM.seq (wpM.region ?_))
 refine LM.mv rfl ?_
 refine LM.cU (oc_call (enters_fn Try.func30 (by kernel_rfl) rfl) rfl) (fun w hm hc hg => tick_spec w hq2 (Int.le_trans (go2_ran h.1) hr) (hm.pick m2)) hq2.wlk (inn_S hi2 inM_in) ?_
 rintro u24 m24 ⟨rfl, h24⟩ hin24
 refine LM.mv rfl ?_
 refine LM.val (ov_extract rfl rfl) ?_
 refine LM.val (ov_extract rfl rfl) ?_
 refine LM.as rfl (LM.as rfl ?_)
 refine LM.nil (QM.sub (e' := [(0, _), (6, _)]) au9 (QM.then (wpM.seq (wpM.region ?_))))
 refine LM.mv rfl ?_
 refine LM.cU (oc_call (enters_fn Try.func33 (by kernel_rfl) rfl) rfl) (fun w hm hc hg => settle_spec w h24 (hm.pick m24)) h24.wlk (inn_S (inn_trans hi2 hin24) inM_in) ?_
 rintro u28 m28 ⟨rfl, h28⟩ hin28
 refine LM.nil (QM.sub (e' := [(6, _)]) ⟨rfl, trivial⟩ (QM.then (wpM.seq (wpM.region ?_))))
 refine LM.mv rfl (LM.as rfl ?_)
 refine LM.nil (QM.sub (e' := [(2, _)]) ⟨rfl, trivial⟩ (QM.then ?_))
 refine wpM.ret ?_
 refine QM.leave (.inl rfl) [.tmp 2] Try.results15 rfl ?_
 intro w' hm' hc' hg'
 exact upd_m ⟨rfl, h28⟩ hm' au1 hc' (inn_trans (inn_trans hi2 hin24) hin28)
def awQ : Nat → Qm
  | 0 => addX (addX (newQ 1) 1 0#64 2) 2 0#64 1
  | k + 1 => goQ (awQ k)
def awN : Nat → Int
  | 0 => 0
  | k + 1 => if goO (awQ k) = 1 then awN k + 1 else awN k
theorem awQ_wf : ∀ k, QWf (awQ k)
  | 0 => addX_wf (addX_wf (new_wf 1) _ _ _) _ _ _
  | k + 1 => go_wf (awQ_wf k)
theorem awQ_ran : ∀ k, (awQ k).ran ≤ k
  | 0 => by have : (awQ 0).ran = 0 := by kernel_rfl
            omega
  | k + 1 => by have := go_ran (awQ_wf k); have := awQ_ran k; show (goQ (awQ k)).ran ≤ _; omega
theorem awN_pos {k : Nat} (h : goO (awQ k) = 1) : awN k + 1 = awN (k + 1) := by rw [show awN (k + 1) = if goO (awQ k) = 1 then awN k + 1 else awN k from rfl, if_pos h]
theorem awN_neg {k : Nat} (h : ¬ goO (awQ k) = 1) : awN k = awN (k + 1) := by rw [show awN (k + 1) = if goO (awQ k) = 1 then awN k + 1 else awN k from rfl, if_neg h]
theorem awN_bd : ∀ k, 0 ≤ awN k ∧ awN k ≤ k
  | 0 => ⟨Int.le_refl _, Int.le_refl _⟩
  | k + 1 => by have := awN_bd k; unfold awN; split <;> omega
theorem aw6 : awN 6 = 4 ∧ (gQ (awQ 6).l 1).V = 2199023255552#64 ∧ decide (ixO (awQ 6).l 1 < (awQ 6).l.length) = true ∧ (awQ 6).fl = 2199023255552#64 ∧ loadO (awQ 6).l = 3 ∧ (awQ 6).l.length = 2 := by
  refine ⟨?_, ?_, ?_, ?_, ?_, ?_⟩ <;> kernel_rfl
set_option maxRecDepth 100000 in
theorem awake16_spec (w : World) : Ret Try.prog 11 #[] w (fun v w' => v = .bool true ∧ Ext w w') := by
 refine Ret.enterM (l := []) Try.func11 rfl Try.ntmps11 rfl ([]) (no) (Mem.nil w) ?_
 refine wpM.seq (wpM.region ?_)
 refine LM.as rfl ?_
 refine LM.nil (QM.sub (e' := []) trivial (QM.then (wpM.seq (wpM.region ?_))))
 refine LM.callT (oc_call (enters_fn Try.func12 (by kernel_rfl) rfl) rfl) RqN.mono (fun w hm hc hg => rqnew_spec 1 w) ?_
 rintro u5 m5 ⟨b, rfl, h5⟩ hge5
 refine LM.as rfl ?_
 refine LM.nil (QM.sub (e' := [(1, _)]) ⟨rfl, trivial⟩ (QM.then (wpM.seq (wpM.region ?_))))
 refine LM.mv rfl ?_
 refine LM.cU (oc_call (enters_fn Try.func13 (by kernel_rfl) rfl) rfl) (fun w hm hc hg => rqAdd_spec 1 0#64 2 w h5 hc.size (hm.pick m5)) h5.wlk (fun p hp hlt => absurd hlt (Nat.not_lt_of_le (h5.ge p hp))) ?_
 rintro u7 m7 ⟨rfl, h7⟩ hin7
 refine LM.nil (QM.sub (e' := [(1, _)]) ⟨rfl, trivial⟩ (QM.then (wpM.seq (wpM.region ?_))))
 refine LM.mv rfl ?_
 refine LM.cU (oc_call (enters_fn Try.func13 (by kernel_rfl) rfl) rfl) (fun w hm hc hg => rqAdd_spec 2 0#64 1 w h7 hc.size (hm.pick m7)) h7.wlk (fun p hp hlt => absurd hlt (Nat.not_lt_of_le (h7.ge p hp))) ?_
 rintro u9 m9 ⟨rfl, h9⟩ hin9
 refine LM.nil (QM.sub (e' := [(1, _)]) ⟨rfl, trivial⟩ (QM.then (wpM.seq (wpM.region ?_))))
 refine LM.as rfl ?_
 refine LM.nil (QM.sub (e' := [(1, _), (2, _)]) au9 (QM.then ?_))
 refine wpM.seq ?_
 refine wpM.seq (wpM.region ?_)
 refine LM.mv rfl ?_
 refine LM.nil (QM.sub (e' := [(1, _), (2, _), (10, _)]) au9 (QM.then ?_))
 refine wpM.block ?_
 refine wpM.loopK0 (α := Nat × Mem0) (fun ⟨i, mi⟩ => [(2, .int .i64 (awN i)), (10, .int .i64 (i : Nat))]) [(1, _)] (fun ⟨i, mi⟩ => mi ++ []) (fun ⟨i, mi⟩ => i ≤ 6 ∧ RqM w.heap.size b (awQ i) mi) (fun ⟨i, mi⟩ => 6 - i) ((0, m9)) ⟨(by first | exact lk rfl (congrArg (Value.int .i64) (awN_pos (by assumption))) | exact lk rfl (congrArg (Value.int .i64) (awN_neg (by assumption))) | rfl), au2, rfl, trivial⟩ au1 ⟨by omega, h9⟩ ?_
 rintro ⟨i, mi⟩ ⟨hi, hq⟩
 change wpM _ _ _ _ _ _ _ (mi ++ []) _ _ _
 have hnb := awN_bd i; have hrn := awQ_ran i
 refine wpM.seq (wpM.region ?_)
 refine LM.val (ov_lss rfl rfl) ?_
 refine LM.nil (QM.sub (e' := [(1, _), (2, _), (10, _), (11, _)]) au9 (QM.then ?_))
 refine wpM.seq ?_
 refine wpM.condD rfl (fun h1 => ?_) (fun h1 => ?_)
 ·
  refine wpM.skip ?_
  refine QM.then ?_
  refine wpM.seq ?_
  refine wpM.block ?_
  refine wpM.seq (wpM.region ?_)
  refine LM.mv rfl ?_
  refine LM.cU (oc_call (enters_fn Try.func15 (by kernel_rfl) rfl) rfl) (fun w hm hc hg => goOn_spec w hq (by omega) hc.size (hm.pick mi)) hq.wlk (fun p hp hlt => absurd hlt (Nat.not_lt_of_le (hq.ge p hp))) ?_
  rintro u13 m13 ⟨rfl, h13⟩ hin13
  refine LM.val (ov_eql rfl rfl) ?_
  refine LM.nil (QM.sub (e' := [(1, _), (2, _), (10, _), (14, _)]) au9 (QM.then ?_))
  refine wpM.condD rfl (fun h2 => ?_) (fun h2 => ?_)
  ·
   refine wpM.region ?_
   refine LM.mv rfl ?_
   refine LM.val (ov_add64 rfl rfl (by omega)) ?_
   refine LM.as rfl ?_
   refine LM.nil (QM.sub (e' := [(1, _), (2, _), (10, _)]) au9 ?_)
   refine QM.block_normal ?_
   refine QM.then (wpM.region ?_)
   refine LM.val (ov_add64 rfl rfl (by omega)) ?_
   refine LM.mv rfl ?_
   refine LM.nil (QM.sub (e' := [(1, _), (2, _), (10, _)]) au9 ?_)
   refine QM.againK (i + 1, m13) ⟨(by first | exact lk rfl (congrArg (Value.int .i64) (awN_pos (by assumption))) | exact lk rfl (congrArg (Value.int .i64) (awN_neg (by assumption))) | rfl), au2, rfl, trivial⟩ au1 (fun _ h => h) ?_ ?_
   · exact ⟨by omega, h13⟩
   · first | omega | (dsimp only; omega)
  refine wpM.skip ?_
  refine QM.block_normal ?_
  refine QM.then (wpM.region ?_)
  refine LM.val (ov_add64 rfl rfl (by omega)) ?_
  refine LM.mv rfl ?_
  refine LM.nil (QM.sub (e' := [(1, _), (2, _), (10, _)]) au9 ?_)
  refine QM.againK (i + 1, m13) ⟨(by first | exact lk rfl (congrArg (Value.int .i64) (awN_pos (by assumption))) | exact lk rfl (congrArg (Value.int .i64) (awN_neg (by assumption))) | rfl), au2, rfl, trivial⟩ au1 (fun _ h => h) ?_ ?_
  · exact ⟨by omega, h13⟩
  · first | omega | (dsimp only; omega)
 have hi6 : i = 6 := (by omega); subst hi6; obtain ⟨e1, e2, e3, e4, e5, e6⟩ := aw6
 refine wpM.exit ?_
 refine QM.then_exit ?_
 refine QM.then_exit ?_
 refine QM.block_hit ?_
 refine QM.then (wpM.seq (wpM.region ?_))
 refine LM.mv rfl ?_
 refine LM.callE (oc_call (enters_fn Try.func14 (by kernel_rfl) rfl) rfl) (fun w hm hc hg => rqV_spec 1 w hq (hm.pick mi)) ?_
 refine LM.mv rfl ?_
 refine LM.val (ov_extract rfl rfl) ?_
 refine LM.val (ov_extract rfl rfl) ?_
 refine LM.as rfl (LM.as rfl ?_)
 refine LM.nil (QM.sub (e' := [(1, _), (2, _), (3, _), (4, _)]) au9 (QM.then (wpM.seq (wpM.region ?_))))
 refine LM.mv rfl ?_
 refine LM.val (ov_eql rfl rfl) ?_
 refine LM.mv rfl ?_
 refine LM.splitD (t := 25) rfl (fun h3 => ?_) (fun h3 => ?_)
 ·
  refine LM.sp 25 rfl rfl rfl (LM.mv rfl ?_)
  refine LM.val (ov_pickT rfl rfl) ?_
  refine LM.mv rfl ?_
  refine LM.splitD (t := 28) rfl (fun h4 => ?_) (fun h4 => ?_)
  ·
   refine LM.sp 28 rfl rfl rfl (LM.mv rfl (LM.sp 28 rfl rfl rfl ?_))
   refine LM.val (ov_ueql (b := 2199023255552#64) rfl rfl) ?_
   refine LM.val (ov_pickT rfl rfl) ?_
   refine LM.mv rfl ?_
   refine LM.splitD (t := 32) rfl (fun h5 => ?_) (fun h5 => ?_)
   ·
    refine LM.sp 32 rfl rfl rfl (LM.mv rfl (LM.sp 32 rfl rfl rfl ?_))
    refine LM.callE (oc_call (enters_fn Try.func19 (by kernel_rfl) rfl) rfl) (fun w hm hc hg => rqFlo_spec w hq (hm.pick mi)) ?_
    refine LM.sp 32 rfl rfl rfl ?_
    refine LM.val (ov_ueql (b := 2199023255552#64) rfl rfl) ?_
    refine LM.val (ov_pickT rfl rfl) ?_
    refine LM.mv rfl ?_
    refine LM.splitD (t := 37) rfl (fun h6 => ?_) (fun h6 => ?_)
    ·
     refine LM.sp 37 rfl rfl rfl (LM.mv rfl (LM.sp 37 rfl rfl rfl ?_))
     refine LM.callE (oc_call (enters_fn Try.func41 (by kernel_rfl) rfl) rfl) (fun w hm hc hg => rqLoad_spec w hq (hm.pick mi)) ?_
     refine LM.sp 37 rfl rfl rfl ?_
     refine LM.val (ov_eql rfl rfl) ?_
     refine LM.val (ov_pickT rfl rfl) ?_
     refine LM.mv rfl ?_
     refine LM.splitD (t := 42) rfl (fun h7 => ?_) (fun h7 => ?_)
     ·
      refine LM.sp 42 rfl rfl rfl (LM.mv rfl (LM.sp 42 rfl rfl rfl ?_))
      refine LM.callE (oc_call (enters_fn Try.func40 (by kernel_rfl) rfl) rfl) (fun w hm hc hg => rqLen_spec w hq (hm.pick mi)) ?_
      refine LM.sp 42 rfl rfl rfl ?_
      refine LM.val (ov_eql rfl rfl) ?_
      refine LM.val (ov_pickT rfl rfl) ?_
      refine LM.as rfl ?_
      refine LM.nil (QM.sub (e' := [(0, _)]) ⟨rfl, trivial⟩ (QM.then ?_))
      refine wpM.ret ?_
      refine QM.leave (.inl rfl) [.tmp 0] Try.results11 rfl ?_
      intro w' hm' hc' hg'
      exact ⟨rfl, hc'⟩
     refine LM.dr 42 rfl rfl rfl (LM.dr 42 rfl rfl rfl (LM.dr 42 rfl rfl rfl ?_))
     refine LM.val (ov_pickF rfl rfl) ?_
     refine LM.as rfl ?_
     refine LM.nil (QM.sub (e' := [(0, _)]) ⟨rfl, trivial⟩ (QM.then ?_))
     refine wpM.ret ?_
     refine QM.leave (.inl rfl) [.tmp 0] Try.results11 rfl ?_
     intro w' hm' hc' hg'
     first | exact ⟨rfl, hc'⟩ | (exfalso; first | omega | (simp at *; done) | (simp_all; done))
    refine LM.dr 37 rfl rfl rfl (LM.dr 37 rfl rfl rfl (LM.dr 37 rfl rfl rfl ?_))
    refine LM.val (ov_pickF rfl rfl) ?_
    refine LM.mv rfl (LM.dr 42 rfl rfl rfl (LM.dr 42 rfl rfl rfl (LM.dr 42 rfl rfl rfl ?_)))
    refine LM.val (ov_pickF rfl rfl) ?_
    refine LM.as rfl ?_
    refine LM.nil (QM.sub (e' := [(0, _)]) ⟨rfl, trivial⟩ (QM.then ?_))
    refine wpM.ret ?_
    refine QM.leave (.inl rfl) [.tmp 0] Try.results11 rfl ?_
    intro w' hm' hc' hg'
    first | exact ⟨rfl, hc'⟩ | (exfalso; first | omega | (simp at *; done) | (simp_all; done))
   refine LM.dr 32 rfl rfl rfl (LM.dr 32 rfl rfl rfl (LM.dr 32 rfl rfl rfl ?_))
   refine LM.val (ov_pickF rfl rfl) ?_
   refine LM.mv rfl (LM.dr 37 rfl rfl rfl (LM.dr 37 rfl rfl rfl (LM.dr 37 rfl rfl rfl ?_)))
   refine LM.val (ov_pickF rfl rfl) ?_
   refine LM.mv rfl (LM.dr 42 rfl rfl rfl (LM.dr 42 rfl rfl rfl (LM.dr 42 rfl rfl rfl ?_)))
   refine LM.val (ov_pickF rfl rfl) ?_
   refine LM.as rfl ?_
   refine LM.nil (QM.sub (e' := [(0, _)]) ⟨rfl, trivial⟩ (QM.then ?_))
   refine wpM.ret ?_
   refine QM.leave (.inl rfl) [.tmp 0] Try.results11 rfl ?_
   intro w' hm' hc' hg'
   first | exact ⟨rfl, hc'⟩ | (exfalso; first | omega | (simp at *; done) | (simp_all; done))
  refine LM.dr 28 rfl rfl rfl (LM.dr 28 rfl rfl rfl ?_)
  refine LM.val (ov_pickF rfl rfl) ?_
  refine LM.mv rfl (LM.dr 32 rfl rfl rfl (LM.dr 32 rfl rfl rfl (LM.dr 32 rfl rfl rfl ?_)))
  refine LM.val (ov_pickF rfl rfl) ?_
  refine LM.mv rfl (LM.dr 37 rfl rfl rfl (LM.dr 37 rfl rfl rfl (LM.dr 37 rfl rfl rfl ?_)))
  refine LM.val (ov_pickF rfl rfl) ?_
  refine LM.mv rfl (LM.dr 42 rfl rfl rfl (LM.dr 42 rfl rfl rfl (LM.dr 42 rfl rfl rfl ?_)))
  refine LM.val (ov_pickF rfl rfl) ?_
  refine LM.as rfl ?_
  refine LM.nil (QM.sub (e' := [(0, _)]) ⟨rfl, trivial⟩ (QM.then ?_))
  refine wpM.ret ?_
  refine QM.leave (.inl rfl) [.tmp 0] Try.results11 rfl ?_
  intro w' hm' hc' hg'
  first | exact ⟨rfl, hc'⟩ | (exfalso; first | omega | (simp at *; done) | (simp_all; done))
 refine LM.dr 25 rfl rfl rfl ?_
 refine LM.val (ov_pickF rfl rfl) ?_
 refine LM.mv rfl (LM.dr 28 rfl rfl rfl (LM.dr 28 rfl rfl rfl ?_))
 refine LM.val (ov_pickF rfl rfl) ?_
 refine LM.mv rfl (LM.dr 32 rfl rfl rfl (LM.dr 32 rfl rfl rfl (LM.dr 32 rfl rfl rfl ?_)))
 refine LM.val (ov_pickF rfl rfl) ?_
 refine LM.mv rfl (LM.dr 37 rfl rfl rfl (LM.dr 37 rfl rfl rfl (LM.dr 37 rfl rfl rfl ?_)))
 refine LM.val (ov_pickF rfl rfl) ?_
 refine LM.mv rfl (LM.dr 42 rfl rfl rfl (LM.dr 42 rfl rfl rfl (LM.dr 42 rfl rfl rfl ?_)))
 refine LM.val (ov_pickF rfl rfl) ?_
 refine LM.as rfl ?_
 refine LM.nil (QM.sub (e' := [(0, _)]) ⟨rfl, trivial⟩ (QM.then ?_))
 refine wpM.ret ?_
 refine QM.leave (.inl rfl) [.tmp 0] Try.results11 rfl ?_
 intro w' hm' hc' hg'
 first | exact ⟨rfl, hc'⟩ | (exfalso; first | omega | (simp at *; done) | (simp_all; done))
end Go.Eng
namespace Go.Eng
open Go Go.Proofs Go.RowKit
end Go.Eng
namespace Go.Eng
open Go Go.Proofs Go.RowKit
structure Ded where
  kind : Int
  id : Int
  V : BitVec 64
  W : Int
instance : Inhabited Ded := ⟨⟨0, 0, 0#64, 0⟩⟩
def RzB (x : Qm) (B : Int) : Prop := (x.cur = -1 → x.ran = 0) ∧ x.ran ≤ B
theorem RzB.mono {x : Qm} {B C : Int} (h : RzB x B) (hc : B ≤ C) : RzB x C := ⟨h.1, Int.le_trans h.2 hc⟩
end Go.Eng
namespace Go.Eng
open Go Go.RowKit
theorem ix_ids : ∀ {l l' : List Kv}, l.map (·.id) = l'.map (·.id) → ∀ a, ixO l a = ixO l' a
  | [], [], _, _ => rfl
  | [], _ :: _, h, _ => by cases h
  | _ :: _, [], h, _ => by cases h
  | t :: l, t' :: l', h, a => by
    rw [List.map_cons, List.map_cons, List.cons.injEq] at h
    rw [ixO_cons, ixO_cons, h.1, ix_ids h.2 a]
theorem gQ_mem {l : List Kv} (hn : (l.map (·.id)).Nodup) {t : Kv} (ht : t ∈ l) {a : Int} (e : t.id = a) : gQ l a = t := by
  have h := ixO_hit (l := l) (a := a) (ixO_lt.2 ⟨t, ht, e⟩)
  exact uniq_id hn h.2 ht (h.1.trans e.symm)
theorem gQ_in {l : List Kv} {a : Int} (h : ixO l a < l.length) : gQ l a ∈ l ∧ (gQ l a).id = a := ⟨(ixO_hit h).2, (ixO_hit h).1⟩
theorem gQ_set_eq {l : List Kv} (hn : (l.map (·.id)).Nodup) {a : Int} (h : ixO l a < l.length) {y : Kv} (hy : y.id = a) : gQ (l.set (ixO l a) y) a = y :=
  gQ_mem (by rw [map_set_at h hy]; exact hn) ((mem_set_at hn h hy y).2 (.inl rfl)) hy
theorem gQ_set_ne {l : List Kv} (hn : (l.map (·.id)).Nodup) {a i : Int} (h : ixO l a < l.length) {y : Kv} (hy : y.id = a) (hi : i ≠ a) : gQ (l.set (ixO l a) y) i = gQ l i := by
  have hids := map_set_at h hy
  by_cases hx : ixO l i < l.length
  · obtain ⟨h1, h2⟩ := gQ_in hx
    exact gQ_mem (by rw [hids]; exact hn) ((mem_set_at hn h hy _).2 (.inr ⟨h1, by rw [h2]; exact hi⟩)) h2
  · rw [gQ_none hx, gQ_none (by rw [ix_ids hids, List.length_set]; exact hx)]
/-! a go -/
theorem bak_l (x : Qm) : (bakQ x).l = x.l ∧ (bakQ x).fl = x.fl ∧ (bakQ x).g = x.g := by unfold bakQ; split <;> exact ⟨rfl, rfl, rfl⟩
theorem pik_l (x : Qm) : (pikQ x).l = x.l ∧ (pikQ x).fl = x.fl ∧ (pikQ x).g = x.g := by unfold pikQ; split <;> exact ⟨rfl, rfl, rfl⟩
theorem go1_l (x : Qm) : (goQ1 x).l = x.l ∧ (goQ1 x).fl = x.fl ∧ (goQ1 x).g = x.g := by unfold goQ1; split; exact bak_l x; exact ⟨rfl, rfl, rfl⟩
theorem go2_l (x : Qm) : (goQ2 x).l = x.l ∧ (goQ2 x).fl = x.fl ∧ (goQ2 x).g = x.g := by
  unfold goQ2; split
  · exact go1_l x
  · have h := pik_l (goQ1 x); have h1 := go1_l x
    exact ⟨h.1.trans h1.1, h.2.1.trans h1.2.1, h.2.2.trans h1.2.2⟩
inductive GoW (x : Qm) : Prop
  | on (h0 : 0 ≤ x.cur) (hd : dueO x = false) (e : goQ2 x = x) : GoW x
  | new (h0 : 0 ≤ (goQ2 x).cur) (hr : (goQ2 x).ran = 0) (hx : ixO x.l (goQ2 x).cur < x.l.length) (hm : ∀ t ∈ x.l, (gQ x.l (goQ2 x).cur).V.toNat ≤ t.V.toNat) : GoW x
theorem go_who {x : Qm} (h : QWf x) (hl : x.l ≠ []) : GoW x := by
  have h1 := go1_wf h
  obtain ⟨e1, e2, e3⟩ := go1_l x
  by_cases hc : 0 ≤ (goQ1 x).cur
  · have hg : goQ2 x = goQ1 x := if_pos hc
    cases hd : dueO x with
    | false => exact .on (by rw [go1_not hd] at hc; exact hc) hd (by rw [hg, go1_not hd])
    | true =>
      rw [go1_due hd, due_back hd] at hc
      exact absurd (show (0 : Int) ≤ -1 from hc) (by decide)
  · have hg : goQ2 x = pikQ (goQ1 x) := if_neg hc
    have hcm := h1.cur0 hc
    have hne : rdyO (goQ1 x) ≠ [] := fun q => hl (by rw [← e1]; exact (min_none h1 hc).1 q)
    obtain ⟨t, l, e⟩ := ne_cons hne
    obtain ⟨hp1, hp2⟩ := pickO_hit h1 hcm e
    have htm := (rdy_hd_mem h1 e).1
    rw [e1] at htm
    rw [hp2] at hg
    have hcur : (goQ2 x).cur = t.id := by rw [hg]; rfl
    have hix : ixO x.l t.id < x.l.length := ixO_lt.2 ⟨t, htm, rfl⟩
    refine .new (by rw [hcur]; exact h.pos t htm) (by rw [hg]; rfl) (by rw [hcur]; exact hix) (fun s hs => ?_)
    rw [hcur, gQ_mem h.nd htm rfl]
    have hsr : s ∈ rdyO (goQ1 x) := (rdy_mem h1.nd s).2 ⟨by rw [e1]; exact hs, by rw [hcm]; have := h.pos s hs; omega⟩
    exact srt_hd (l := l) (by rw [← e]; exact rdy_srt h1.nd) s (by rw [← e]; exact hsr)
theorem go_pos {x : Qm} (h : QWf x) (hl : x.l ≠ []) : 0 ≤ goO x ∧ ixO x.l (goO x) < x.l.length := by
  cases go_who h hl with
  | on h0 hd e => unfold goO; rw [e]; exact ⟨h0, h.ix h0⟩
  | new h0 hr hx hm => exact ⟨h0, hx⟩
theorem go_empty {x : Qm} (h : QWf x) (hl : x.l = []) : goO x = -1 ∧ goQ x = setlQ (goQ2 x) := by
  have h2 := go2_wf h
  have : ¬ 0 ≤ (goQ2 x).cur := fun q => by
    have := h2.ix q
    rw [(go2_l x).1, hl] at this; simp at this
  exact ⟨h2.cur0 this, by unfold goQ; rw [show tickQ (goQ2 x) = goQ2 x from if_neg this]⟩
theorem go_l {x : Qm} (h : QWf x) (hl : x.l ≠ []) : (goQ x).l = tickL x.l (goO x) ∧ (goQ x).ran = (goQ2 x).ran + 1 ∧ (goQ x).cur = goO x ∧ (goQ x).g = x.g := by
  obtain ⟨h0, hx⟩ := go_pos h hl
  obtain ⟨s1, s2, s3, s4⟩ := setl_same (tickQ (goQ2 x))
  have ht : tickQ (goQ2 x) = { goQ2 x with l := tickL (goQ2 x).l (goQ2 x).cur, ran := (goQ2 x).ran + 1 } := if_pos h0
  have hgo : goQ x = setlQ (tickQ (goQ2 x)) := rfl
  obtain ⟨e1, e2, e3⟩ := go2_l x
  refine ⟨?_, ?_, ?_, ?_⟩
  · rw [hgo, s1, ht]; show tickL (goQ2 x).l (goQ2 x).cur = _; rw [e1]; rfl
  · rw [hgo, s3, ht]
  · rw [hgo, s2, ht]; rfl
  · rw [hgo, s4, ht]; exact e3
theorem go_ids {x : Qm} (h : QWf x) : (goQ x).l.map (·.id) = x.l.map (·.id) := by
  by_cases hl : x.l = []
  · rw [(go_empty h hl).2, (setl_same _).1, (go2_l x).1]
  · rw [(go_l h hl).1, tickL_eq (go_pos h hl).2, map_set_at (go_pos h hl).2 rfl]
theorem go_V {x : Qm} (h : QWf x) (hl : x.l ≠ []) (i : Int) : gQ (goQ x).l i = if i = goO x then ⟨addO (gQ x.l i).V (coreO (gQ x.l i).x), i, (gQ x.l i).x⟩ else gQ x.l i := by
  rw [(go_l h hl).1, tickL_eq (go_pos h hl).2]
  by_cases e : i = goO x
  · rw [if_pos e, e]; exact gQ_set_eq h.nd (go_pos h hl).2 rfl
  · rw [if_neg e]; exact gQ_set_ne h.nd (go_pos h hl).2 rfl e
theorem go_x {x : Qm} (h : QWf x) (i : Int) : (gQ (goQ x).l i).x = (gQ x.l i).x := by
  by_cases hl : x.l = []
  · rw [(go_empty h hl).2, (setl_same _).1, (go2_l x).1]
  · rw [go_V h hl]; split <;> rfl
/-! bounds -/
theorem bring_same {n lo hi : Int} (h : lo ≤ hi) : bringO (bringO n lo hi) lo hi = bringO n lo hi := by
  have := bring_in (n := n) h
  unfold bringO at *; (repeat' split) <;> omega
theorem bring_id {n lo hi : Int} (h : lo ≤ n ∧ n ≤ hi) : bringO n lo hi = n := by unfold bringO; (repeat' split) <;> omega
theorem core_bring (w : Int) : coreO (bringO w 1 4096) = coreO w := by unfold coreO; rw [bring_same (by decide)]
theorem ofInt_nat {n : Int} (h : 0 ≤ n) (h2 : n ≤ 1000000) : (BitVec.ofInt 64 n).toNat = n.toNat := by
  rw [BitVec.toNat_ofInt, Int.emod_eq_of_lt h (by show n < 18446744073709551616; omega)]
theorem core_nat {w : Int} (h : 1 ≤ w ∧ w ≤ 4096) : (coreO w).toNat = 1099511627776 / w.toNat := by
  unfold coreO; rw [bring_id h, BitVec.toNat_udiv, ofInt_nat (by omega) (by omega)]; rfl
theorem core_le (w : Int) : (coreO w).toNat ≤ 1099511627776 := by
  rw [← core_bring, core_nat (bring_in (by decide))]; exact Nat.div_le_self _ _
theorem reach_nat {w g : Int} (hg : 1 ≤ g ∧ g ≤ 8) : (reachO w g).toNat = (coreO w).toNat * g.toNat := by
  unfold reachO
  rw [bring_id hg, BitVec.toNat_mul, ofInt_nat (by omega) (by omega)]
  refine Nat.mod_eq_of_lt ?_
  have h1 := core_le w
  have h2 : g.toNat ≤ 8 := by omega
  have := Nat.mul_le_mul h1 h2
  show _ < 18446744073709551616
  omega
theorem reach_le {w g : Int} (hg : 1 ≤ g ∧ g ≤ 8) : (reachO w g).toNat ≤ 8796093022208 := by
  rw [reach_nat hg]
  have h1 := core_le w
  have h2 : g.toNat ≤ 8 := by omega
  have := Nat.mul_le_mul h1 h2
  omega
theorem addO_ge (a b : BitVec 64) : a.toNat ≤ (addO a b).toNat := by
  unfold addO; split
  · rw [BitVec.toNat_add, Nat.mod_eq_of_lt (by omega)]; omega
  · have := a.isLt; show _ ≤ 18446744073709551615; omega
theorem addO_le (a b : BitVec 64) : (addO a b).toNat ≤ a.toNat + b.toNat := by
  unfold addO; split
  · rw [BitVec.toNat_add, Nat.mod_eq_of_lt (by omega)]; exact Nat.le_refl _
  · show 18446744073709551615 ≤ _; omega
theorem addO_eq {a b : BitVec 64} (h : a.toNat + b.toNat < 18446744073709551616) : addO a b = a + b ∧ (addO a b).toNat = a.toNat + b.toNat := by
  refine ⟨if_pos h, ?_⟩
  rw [show addO a b = a + b from if_pos h, BitVec.toNat_add]; exact Nat.mod_eq_of_lt h
theorem clamp_ge (v fl r : BitVec 64) : fl.toNat ≤ (clampO v fl r).toNat := by
  unfold clampO; split
  · exact Nat.le_refl _
  · split
    · exact addO_ge fl r
    · omega
theorem clamp_le (v fl r : BitVec 64) : (clampO v fl r).toNat ≤ fl.toNat + r.toNat := by
  have h1 := addO_le fl r
  unfold clampO; split
  · omega
  · split
    · exact h1
    · have := v.isLt
      by_cases h : fl.toNat + r.toNat < 18446744073709551616
      · have := (addO_eq h).2; omega
      · omega
end Go.Eng
namespace Go.Eng
open Go Go.Proofs Go.RowKit
structure TkI (ws : List Int) (k : Nat) (x : Qm) : Prop where
  ids : x.l.map (·.id) = (List.range k).map (fun (i : Nat) => (i : Int))
  xs : ∀ i : Nat, i < k → (gQ x.l i).x = bringO (ws.getD i 0) 1 4096
def VB (x : Qm) (B : Nat) : Prop := (∀ t ∈ x.l, t.V.toNat ≤ B) ∧ x.fl.toNat ≤ B
theorem VB.mono {x : Qm} {B C : Nat} (h : VB x B) (hc : B ≤ C) : VB x C := ⟨fun t ht => Nat.le_trans (h.1 t ht) hc, Nat.le_trans h.2 hc⟩
theorem TkI.len {ws : List Int} {k : Nat} {x : Qm} (h : TkI ws k x) : x.l.length = k := by
  have := congrArg List.length h.ids; simpa using this
theorem TkI.ix {ws : List Int} {k : Nat} {x : Qm} (h : TkI ws k x) {i : Nat} (hi : i < k) : ixO x.l (i : Int) < x.l.length := by
  have : (i : Int) ∈ x.l.map (·.id) := by rw [h.ids]; exact List.mem_map.2 ⟨i, List.mem_range.2 hi, rfl⟩
  obtain ⟨t, ht, e⟩ := List.mem_map.1 this
  exact ixO_lt.2 ⟨t, ht, e⟩
theorem TkI.id {ws : List Int} {k : Nat} {x : Qm} (h : TkI ws k x) {a : Int} (ha : ixO x.l a < x.l.length) : 0 ≤ a ∧ a < k := by
  obtain ⟨t, ht, e⟩ := ixO_lt.1 ha
  have : t.id ∈ x.l.map (·.id) := List.mem_map.2 ⟨t, ht, rfl⟩
  rw [h.ids] at this
  obtain ⟨i, hi, e2⟩ := List.mem_map.1 this
  have := List.mem_range.1 hi
  have e3 : (i : Int) = t.id := e2
  omega
theorem tk_new (ws : List Int) (g : Int) : TkI ws 0 (newQ g) := ⟨rfl, fun i h => by omega⟩
theorem vb_new (g : Int) : VB (newQ g) 0 := ⟨fun t h => (by cases h), Nat.le_refl _⟩
theorem tk_addE {ws : List Int} {k : Nat} {x : Qm} (h : TkI ws k x) (hk : k < 16) : addE x (k : Int) = 0 := by
  refine addE_ok (by omega) (fun q => ?_) (by rw [h.len]; omega)
  have := h.id q; omega
theorem tk_add {ws : List Int} {k : Nat} {x : Qm} (hq : QWf x) (h : TkI ws k x) (hk : k < 16) (v : BitVec 64) : TkI ws (k + 1) (addX x (k : Int) v (ws.getD k 0)) := by
  have hE := tk_addE h hk
  have hwf := add_wf (v := v) (w := ws.getD k 0) hq hE
  rw [show addX x (k : Int) v (ws.getD k 0) = addQ x (k : Int) v (ws.getD k 0) from if_pos hE]
  refine ⟨?_, fun i hi => ?_⟩
  · show (x.l ++ [_]).map _ = _
    rw [List.map_append, h.ids, List.range_succ, List.map_append]; rfl
  · by_cases e : i = k
    · subst e
      have : gQ (addQ x (i : Int) v (ws.getD i 0)).l (i : Int) = ⟨plcO x v (bringO (ws.getD i 0) 1 4096), i, bringO (ws.getD i 0) 1 4096⟩ := gQ_mem hwf.nd (List.mem_append_right _ (List.mem_singleton.2 rfl)) rfl
      rw [this]
    · have hik : i < k := by omega
      have hx := h.ix hik
      obtain ⟨g1, g2⟩ := gQ_in hx
      have : gQ (addQ x (k : Int) v (ws.getD k 0)).l (i : Int) = gQ x.l i := gQ_mem hwf.nd (List.mem_append_left _ g1) g2
      rw [this]; exact h.xs i hik
theorem vb_add {x : Qm} {B : Nat} (hq : QWf x) (h : VB x B) (a : Int) (v : BitVec 64) (w : Int) : VB (addX x a v w) (B + 8796093022208) := by
  unfold addX
  split
  · refine ⟨fun t ht => ?_, Nat.le_trans h.2 (Nat.le_add_right _ _)⟩
    rcases List.mem_append.1 ht with q | q
    · exact Nat.le_trans (h.1 t q) (Nat.le_add_right _ _)
    · rw [List.mem_singleton] at q; subst q
      have h1 := clamp_le v x.fl (reachO (bringO w 1 4096) x.g)
      have h2 := reach_le (w := bringO w 1 4096) hq.g
      have h3 := h.2
      show (clampO v x.fl (reachO (bringO w 1 4096) x.g)).toNat ≤ _
      omega
  · exact h.mono (Nat.le_add_right _ _)
theorem tk_go {ws : List Int} {k : Nat} {x : Qm} (hq : QWf x) (h : TkI ws k x) : TkI ws k (goQ x) :=
  ⟨(go_ids hq).trans h.ids, fun i hi => by rw [go_x hq]; exact h.xs i hi⟩
theorem go_memV {x : Qm} (h : QWf x) (hl : x.l ≠ []) {t : Kv} (ht : t ∈ (goQ x).l) : ∃ s ∈ x.l, s.V.toNat ≤ t.V.toNat ∧ t.V.toNat ≤ s.V.toNat + 1099511627776 := by
  obtain ⟨h0, hx⟩ := go_pos h hl
  obtain ⟨c1, c2⟩ := gQ_in hx
  rw [(go_l h hl).1, tickL_eq hx] at ht
  rcases (mem_set_at h.nd hx (y := ⟨addO (gQ x.l (goO x)).V (coreO (gQ x.l (goO x)).x), goO x, (gQ x.l (goO x)).x⟩) rfl t).1 ht with e | e
  · refine ⟨_, c1, by rw [e]; exact addO_ge _ _, ?_⟩
    have h1 := addO_le (gQ x.l (goO x)).V (coreO (gQ x.l (goO x)).x)
    have h2 := core_le (gQ x.l (goO x)).x
    rw [e]
    show (addO (gQ x.l (goO x)).V (coreO (gQ x.l (goO x)).x)).toNat ≤ _
    omega
  · exact ⟨t, e.1, Nat.le_refl _, by omega⟩
theorem vb_setl {x : Qm} {B : Nat} (h : VB x B) : VB (setlQ x) B := by
  refine ⟨by rw [(setl_same x).1]; exact h.1, ?_⟩
  by_cases hl : x.l = []
  · rw [setlQ_nil hl]; exact h.2
  · rw [setlQ_pos hl]
    show (if _ then _ else _ : BitVec 64).toNat ≤ _
    split
    · obtain ⟨⟨t, ht, e⟩, _⟩ := minO_spec hl
      rw [← e]; exact h.1 t ht
    · exact h.2
theorem vb_go {x : Qm} {B : Nat} (hq : QWf x) (h : VB x B) : VB (goQ x) (B + 1099511627776) := by
  by_cases hl : x.l = []
  · rw [(go_empty hq hl).2]
    exact vb_setl ⟨by rw [(go2_l x).1, hl]; exact fun t ht => (by cases ht), by rw [(go2_l x).2.1]; exact Nat.le_trans h.2 (Nat.le_add_right _ _)⟩
  · have hg : goQ x = setlQ (tickQ (goQ2 x)) := rfl
    have hl2 : (goQ x).l = (tickQ (goQ2 x)).l := (setl_same _).1
    have hf : (tickQ (goQ2 x)).fl = x.fl := by
      have : (tickQ (goQ2 x)).fl = (goQ2 x).fl := by unfold tickQ; split <;> rfl
      rw [this]; exact (go2_l x).2.1
    rw [hg]
    refine vb_setl ⟨fun t ht => ?_, by rw [hf]; exact Nat.le_trans h.2 (Nat.le_add_right _ _)⟩
    rw [← hl2] at ht
    obtain ⟨s, hs, _, h2⟩ := go_memV hq hl ht
    exact Nat.le_trans h2 (Nat.add_le_add_right (h.1 s hs) _)
theorem addX_cr (x : Qm) (a : Int) (v : BitVec 64) (w : Int) : (addX x a v w).ran = x.ran := by unfold addX; split <;> rfl
theorem tk_ne {ws : List Int} {k : Nat} {x : Qm} (h : TkI ws k x) (hk : 0 < k) : x.l ≠ [] := fun q => by have := h.len; rw [q] at this; simp at this; omega
theorem tk_pay {ws : List Int} {k : Nat} {x : Qm} {B : Nat} (hq : QWf x) (h : TkI ws k x) (hv : VB x B) (hB : B ≤ 1000000000000000000) {i : Nat} (hi : i < k) :
    (gQ (goQ x).l (i : Int)).V = (gQ x.l (i : Int)).V + (if (i : Int) = goO x then coreO (ws.getD i 0) else 0#64) := by
  rw [go_V hq (tk_ne h (by omega))]
  by_cases e : (i : Int) = goO x
  · rw [if_pos e, if_pos e, h.xs i hi, core_bring]
    have h1 := hv.1 _ (gQ_in (h.ix hi)).1
    have h2 := core_le (ws.getD i 0)
    exact (addO_eq (by omega)).1
  · rw [if_neg e, if_neg e, BitVec.add_zero]
end Go.Eng
namespace Go.Eng
open Go Go.Proofs Go.RowKit
abbrev bI (n : Int) : BitVec 64 := BitVec.ofInt 64 n
theorem bI_nat {n : Int} (h : 0 ≤ n) (h2 : n < 4294967296) : (bI n).toNat = n.toNat := by
  rw [BitVec.toNat_ofInt, Int.emod_eq_of_lt h (by show n < 18446744073709551616; omega)]
theorem bI_lt {x y : Int} (hx : 0 ≤ x ∧ x < 4294967296) (hy : 0 ≤ y ∧ y < 4294967296) : (bI x).toNat < (bI y).toNat ↔ x < y := by
  rw [bI_nat hx.1 hx.2, bI_nat hy.1 hy.2]; omega
theorem bI_mask {n : Int} (h : 0 ≤ n ∧ n < 4294967296) : bI n &&& 4294967295#64 = bI n := by
  apply BitVec.eq_of_toNat_eq
  rw [BitVec.toNat_and, bI_nat h.1 h.2, show (4294967295#64).toNat = 2 ^ 32 - 1 from rfl, Nat.and_two_pow_sub_one_eq_mod]
  exact Nat.mod_eq_of_lt (by omega)
theorem bI_shr {n : Int} (h : 0 ≤ n ∧ n < 4294967296) : bI n >>> 32 = 0#64 := by
  apply BitVec.eq_of_toNat_eq
  rw [BitVec.toNat_ushiftRight, bI_nat h.1 h.2, Nat.shiftRight_eq_div_pow]
  exact Nat.div_eq_of_lt (by omega)
theorem bI_mul (a b : Int) : bI a * bI b = bI (a * b) := (BitVec.ofInt_mul a b).symm
theorem bI_add (a b : Int) : bI a + bI b = bI (a + b) := (BitVec.ofInt_add a b).symm
theorem cmp_bI {x y : Int} (hx : 0 ≤ x ∧ x < 4294967296) (hy : 0 ≤ y ∧ y < 4294967296) : cmpU (bI x) (bI y) = cmpI x y := by
  unfold cmpU cmpI
  by_cases h : x < y
  · rw [if_pos ((bI_lt hx hy).2 h), if_pos h]
  · rw [if_neg (fun q => h ((bI_lt hx hy).1 q)), if_neg h]
    by_cases h2 : y < x
    · rw [if_pos ((bI_lt hy hx).2 h2), if_pos h2]
    · rw [if_neg (fun q => h2 ((bI_lt hy hx).1 q)), if_neg h2]
theorem or_find (c : Int) : ([cmpU 0#64 0#64, c].find? (fun x => decide (x ≠ 0))).getD 0 = c := by
  rw [show cmpU 0#64 0#64 = 0 from rfl]
  by_cases h : c = 0
  · subst h; rfl
  · simp [List.find?, h]
theorem sub64_bI {x y : Int} (hx : 0 ≤ x ∧ x < 4294967296) (hy : 0 ≤ y ∧ y ≤ x) (w : World) : (callFunc 118 #[U (bI x), U (bI y), U 0#64]).run Try.prog w = .ok (.value (.tuple #[U (bI (x - y)), U 0#64])) w := by
  have h := run_callFunc_extern (P := Try.prog) (e := sub64Entry) (f := 118) Try.func118 (by kernel_rfl) (by kernel_rfl) (by kernel_rfl) (by kernel_rfl) #[U (bI x), U (bI y), U 0#64] w
  rw [h, show (#[U (bI x), U (bI y), U 0#64] : Array Value) = #[.int .u64 ((bI x).toNat : Int), .int .u64 ((bI y).toNat : Int), .int .u64 ((0 : Nat) : Int)] from rfl, run_sub64 (bI x).toNat (bI y).toNat 0 (by decide) w]
  rw [bI_nat hx.1 hx.2, bI_nat hy.1 (by omega)]
  have e1 : (((x.toNat + 18446744073709551616 - y.toNat - 0) % 18446744073709551616 : Nat) : Int) = ((bI (x - y)).toNat : Int) := by
    rw [bI_nat (by omega) (by omega)]; omega
  simp only [Result.andThen]
  rw [e1, if_neg (by omega : ¬ x.toNat < y.toNat + 0)]
  rfl
theorem cmpI_neg {x y : Int} (h : cmpI x y < 0) : x < y := by unfold cmpI at h; split at h; assumption; split at h <;> omega
theorem cmpI_nneg {x y : Int} (h : ¬ cmpI x y < 0) : ¬ x < y := by unfold cmpI at h; split at h; omega; assumption
theorem cmpI_le (x y : Int) : decide (cmpI x y ≤ 0) = decide (x ≤ y) := by
  refine decide_eq_decide.2 ?_
  unfold cmpI; split
  · exact ⟨fun _ => by omega, fun _ => by decide⟩
  · split
    · exact ⟨fun q => absurd q (by decide), fun q => by omega⟩
    · exact ⟨fun _ => by omega, fun _ => by decide⟩
theorem mul_bd {a b A B : Int} (ha : 0 ≤ a ∧ a ≤ A) (hb : 0 ≤ b ∧ b ≤ B) : 0 ≤ a * b ∧ a * b ≤ A * B := ⟨Int.mul_nonneg ha.1 hb.1, Int.mul_le_mul ha.2 hb.2 hb.1 (Int.le_trans ha.1 ha.2)⟩
set_option maxRecDepth 100000 in
theorem mul64_spec (a b : Int) (w : World) (ha : 0 ≤ a ∧ a < 4294967296) (hb : 0 ≤ b ∧ b < 4294967296) (hab : 0 ≤ a * b ∧ a * b < 4294967296) : Ret Try.prog 117 #[U (bI a), U (bI b)] w (fun v w' => v = .tuple #[U 0#64, U (bI (a * b))] ∧ Ext w w') := by
 refine Ret.enterM (l := [U (bI a), U (bI b)]) Try.func117 rfl Try.ntmps117 rfl ([]) (no) (Mem.nil w) ?_
 refine wpM.seq (wpM.region ?_)
 refine LM.as rfl (LM.as rfl ?_)
 refine LM.nil (QM.sub (e' := [(0, _), (1, _)]) au9 (QM.then (wpM.seq (wpM.region ?_))))
 refine LM.mv rfl ?_
 refine LM.val (ov_uand (b := 4294967295#64) rfl rfl) ?_
 refine LM.as rfl ?_
 refine LM.nil (QM.sub (e' := [(0, _), (1, _), (6, _)]) au9 (QM.then (wpM.seq (wpM.region ?_))))
 refine LM.mv rfl ?_
 refine LM.val (ov_ushr rfl rfl (by omega)) ?_
 refine LM.as rfl ?_
 refine LM.nil (QM.sub (e' := [(0, _), (1, _), (6, _), (7, _)]) au9 (QM.then (wpM.seq (wpM.region ?_))))
 refine LM.mv rfl ?_
 refine LM.val (ov_uand (b := 4294967295#64) rfl rfl) ?_
 refine LM.as rfl ?_
 refine LM.nil (QM.sub (e' := [(0, _), (1, _), (6, _), (7, _), (8, _)]) au9 (QM.then (wpM.seq (wpM.region ?_))))
 refine LM.mv rfl ?_
 refine LM.val (ov_ushr rfl rfl (by omega)) ?_
 refine LM.as rfl ?_
 refine LM.nil (QM.sub (e' := [(0, _), (1, _), (6, _), (7, _), (8, _), (9, _)]) au9 (QM.then (wpM.seq (wpM.region ?_))))
 refine LM.mv rfl (LM.mv rfl ?_)
 refine LM.val (ov_umul rfl rfl) ?_
 refine LM.as rfl ?_
 refine LM.nil (QM.sub (e' := [(0, _), (1, _), (6, _), (7, _), (8, _), (9, _), (10, _)]) au9 (QM.then (wpM.seq (wpM.region ?_))))
 refine LM.mv rfl (LM.mv rfl ?_)
 refine LM.val (ov_umul rfl rfl) ?_
 refine LM.mv rfl ?_
 refine LM.val (ov_ushr rfl rfl (by omega)) ?_
 refine LM.val (ov_uadd rfl rfl) ?_
 refine LM.as rfl ?_
 refine LM.nil (QM.sub (e' := [(0, _), (1, _), (6, _), (7, _), (9, _), (11, _)]) au9 (QM.then (wpM.seq (wpM.region ?_))))
 refine LM.mv rfl ?_
 refine LM.val (ov_uand (b := 4294967295#64) rfl rfl) ?_
 refine LM.as rfl ?_
 refine LM.nil (QM.sub (e' := [(0, _), (1, _), (6, _), (7, _), (9, _), (11, _), (12, _)]) au9 (QM.then (wpM.seq (wpM.region ?_))))
 refine LM.mv rfl ?_
 refine LM.val (ov_ushr rfl rfl (by omega)) ?_
 refine LM.as rfl ?_
 refine LM.nil (QM.sub (e' := [(0, _), (1, _), (6, _), (7, _), (9, _), (12, _), (13, _)]) au9 (QM.then (wpM.seq (wpM.region ?_))))
 refine LM.mv rfl (LM.mv rfl (LM.mv rfl ?_))
 refine LM.val (ov_umul rfl rfl) ?_
 refine LM.val (ov_uadd rfl rfl) ?_
 refine LM.as rfl ?_
 refine LM.nil (QM.sub (e' := [(0, _), (1, _), (7, _), (9, _), (12, _), (13, _)]) au9 (QM.then (wpM.seq (wpM.region ?_))))
 refine LM.mv rfl (LM.mv rfl ?_)
 refine LM.val (ov_umul rfl rfl) ?_
 refine LM.mv rfl ?_
 refine LM.val (ov_uadd rfl rfl) ?_
 refine LM.mv rfl ?_
 refine LM.val (ov_ushr rfl rfl (by omega)) ?_
 refine LM.val (ov_uadd rfl rfl) ?_
 refine LM.as rfl ?_
 refine LM.nil (QM.sub (e' := [(0, _), (1, _), (4, _)]) au9 (QM.then (wpM.seq (wpM.region ?_))))
 refine LM.mv rfl (LM.mv rfl ?_)
 refine LM.val (ov_umul rfl rfl) ?_
 refine LM.as rfl ?_
 refine LM.nil (QM.sub (e' := [(4, _), (5, _)]) au9 (QM.then ?_))
 refine wpM.ret ?_
 refine QM.leave (.inl rfl) [.tmp 4, .tmp 5] Try.results117 rfl ?_
 intro w' hm' hc' hg'
 refine ⟨?_, hc'⟩; simp only [resV, show Int.toNat 32 = 32 from rfl, bI_mask ha, bI_mask hb, bI_shr ha, bI_shr hb, bI_mul, bI_shr hab, BitVec.zero_mul, BitVec.mul_zero, BitVec.zero_add, BitVec.add_zero, BitVec.zero_and, BitVec.zero_ushiftRight]
set_option maxRecDepth 100000 in
theorem times_spec (a b : Int) (w : World) (ha : 0 ≤ a ∧ a < 4294967296) (hb : 0 ≤ b ∧ b < 4294967296) (hab : 0 ≤ a * b ∧ a * b < 4294967296) : Ret Try.prog 96 #[U (bI a), U (bI b)] w (fun v w' => v = .agg #[U 0#64, U (bI (a * b))] ∧ Ext w w') := by
 refine Ret.enterM (l := [U (bI a), U (bI b)]) Try.func96 rfl Try.ntmps96 rfl ([]) (no) (Mem.nil w) ?_
 refine wpM.seq (wpM.region ?_)
 refine LM.alloc Try.zeroValue140 rfl (fun b4 hb4 => ?_)
 refine LM.nil (QM.sub (e' := [(0, _), (1, _), (4, _)]) au9 (QM.then (wpM.seq (wpM.region ?_))))
 refine LM.mv rfl (LM.mv rfl ?_)
 refine LM.callE (oc_call (enters_fn Try.func117 (by kernel_rfl) rfl) rfl) (fun w hm hc hg => mul64_spec a b w ha hb hab) ?_
 refine LM.mv rfl ?_
 refine LM.val (ov_extract rfl rfl) ?_
 refine LM.val (ov_extract rfl rfl) ?_
 refine LM.as rfl (LM.as rfl ?_)
 refine LM.nil (QM.sub (e' := [(4, _), (5, _), (6, _)]) au9 (QM.then (wpM.seq (wpM.region ?_))))
 refine LM.mv rfl (LM.mv rfl ?_)
 refine LM.val (ov_build (cs := #[_, _]) rfl (by first | rfl | kernel_rfl)) ?_
 refine LM.stW Try.sizeOf140 rfl rfl rfl rfl au7 au8 ?_
 refine LM.nil (QM.sub (e' := [(4, _)]) ⟨rfl, trivial⟩ (QM.then ?_))
 refine wpM.ret ?_
 refine QM.leaveCs (ds := ([])) (.inl rfl) [.cell 4 140] Try.results96 hd_nil (rc_w rfl Try.isAgg140 Try.sizeOf140 rfl rc_nil) ?_
 intro w' hm' hc'
 exact ⟨rfl, hc'⟩
set_option maxRecDepth 100000 in
theorem wagainst_spec (x y : Int) (w : World) (hx : 0 ≤ x ∧ x < 4294967296) (hy : 0 ≤ y ∧ y < 4294967296) : Ret Try.prog 98 #[.agg #[U 0#64, U (bI x)], .agg #[U 0#64, U (bI y)]] w (fun v w' => v = .int .i64 (cmpI x y) ∧ Ext w w') := by
 refine Ret.enterM (l := [.agg #[U 0#64, U (bI x)], .agg #[U 0#64, U (bI y)]]) Try.func98 rfl Try.ntmps98 rfl ([]) (no) (Mem.nil w) ?_
 refine wpM.seq (wpM.region ?_)
 refine LM.box rfl rfl (fun b2 hb2 => ?_)
 refine LM.box rfl rfl (fun b3 hb3 => ?_)
 refine LM.as rfl ?_
 refine LM.nil (QM.sub (e' := [(2, _), (3, _)]) au9 (QM.then ?_))
 refine wpM.seq ?_
 refine wpM.draw [(0, 0), (1, 1), (2, 0), (3, 1), (5, 0), (6, 1), (7, 0), (8, 1), (4, 2), (9, 2), (10, 3), (11, 3), (12, 3)] (by kernel_rfl) (by kernel_rfl) ?_
 refine LD.val rfl rfl (ov_field Try.underlying140 rfl Try.sizeOf26 rfl (k := 0) rfl rfl) ?_
 refine LD.rd rfl rfl (om_ld Try.isAgg26 rfl rfl) ?_
 refine LD.val rfl rfl (ov_field Try.underlying140 rfl Try.sizeOf26 rfl (k := 0) rfl rfl) ?_
 refine LD.rd rfl rfl (om_ld Try.isAgg26 rfl rfl) ?_
 refine LD.val rfl rfl (ov_field Try.underlying140 rfl Try.sizeOf26 rfl (k := 1) rfl rfl) ?_
 refine LD.rd rfl rfl (om_ld Try.isAgg26 rfl rfl) ?_
 refine LD.val rfl rfl (ov_field Try.underlying140 rfl Try.sizeOf26 rfl (k := 1) rfl rfl) ?_
 refine LD.rd rfl rfl (om_ld Try.isAgg26 rfl rfl) ?_
 refine LD.callE rfl rfl (oc_call (enters_fn Try.func110 (by kernel_rfl) rfl) rfl) (fun w hm hc hg => cmpU_spec 0#64 0#64 w) ?_
 refine LD.callE rfl rfl (oc_call (enters_fn Try.func110 (by kernel_rfl) rfl) rfl) (fun w hm hc hg => cmpU_spec (bI x) (bI y) w) ?_
 refine LD.tail rfl rfl ?_
 refine LM.row (vs := [_, _]) Try.underlying47 Try.sizeOf3 Try.zeroValue3 rfl rfl rfl rfl rfl rfl (fun b15 hb15 => ?_)
 refine LM.callE (oc_call (enters_fn Try.func109 (by kernel_rfl) rfl) rfl) (fun w hm hc hg => (or_find (cmpU (bI x) (bI y))) ▸ cmpOr_spec (xs := [cmpU 0#64 0#64, cmpU (bI x) (bI y)]) w rfl (Sr.row (hm.at b15) rfl rfl (Nat.le_refl _) (fun _ => rfl)) (by simp)) ?_
 refine LM.as rfl ?_
 refine LM.nil ?_
 refine QM.qn ?_
 refine QM.sub (e' := [(4, _)]) ⟨rfl, trivial⟩ (QM.then ?_)
 refine wpM.ret ?_
 refine QM.leave (.inl rfl) [.tmp 4] Try.results98 rfl ?_
 intro w' hm' hc' hg'
 refine ⟨?_, hc'⟩; simp only [resV]; rw [cmp_bI hx hy]
def aptI (x y : Int) : Int := if x < y then y - x else x - y
set_option maxRecDepth 100000 in
theorem apart_spec (x y : Int) (w : World) (hx : 0 ≤ x ∧ x < 4294967296) (hy : 0 ≤ y ∧ y < 4294967296) : Ret Try.prog 97 #[.agg #[U 0#64, U (bI x)], .agg #[U 0#64, U (bI y)]] w (fun v w' => v = .agg #[U 0#64, U (bI (aptI x y))] ∧ Ext w w') := by
 refine Ret.enterM (l := [.agg #[U 0#64, U (bI x)], .agg #[U 0#64, U (bI y)]]) Try.func97 rfl Try.ntmps97 rfl ([]) (no) (Mem.nil w) ?_
 refine wpM.seq (wpM.region ?_)
 refine LM.box rfl rfl (fun b2 hb2 => ?_)
 refine LM.box rfl rfl (fun b3 hb3 => ?_)
 refine LM.alloc Try.zeroValue140 rfl (fun b4 hb4 => ?_)
 refine LM.nil (QM.sub (e' := [(2, _), (3, _), (4, _)]) au9 (QM.then ?_))
 refine wpM.seq ?_
 refine wpM.seq (wpM.region ?_)
 refine LM.rd (om_ldW Try.isAgg140 Try.sizeOf140 rfl rfl) ?_
 refine LM.rd (om_ldW Try.isAgg140 Try.sizeOf140 rfl rfl) ?_
 refine LM.callE (oc_call (enters_fn Try.func98 (by kernel_rfl) rfl) rfl) (fun w hm hc hg => wagainst_spec x y w hx hy) ?_
 refine LM.val (ov_lss rfl rfl) ?_
 refine LM.nil (QM.sub (e' := [(2, _), (3, _), (4, _), (12, _)]) au9 (QM.then ?_))
 refine wpM.joinK (α := Int × Int) (fun ⟨p, q⟩ => []) [(2, _), (3, _), (4, _)] (fun ⟨p, q⟩ => (b2, .cells #[U 0#64, U (bI p)] 140 (0, 0)) :: (b3, .cells #[U 0#64, U (bI q)] 140 (0, 0)) :: (b4, .cells #[U 0#64, U 0#64] 140 (0, 0)) :: []) (fun ⟨p, q⟩ => 0 ≤ q ∧ q ≤ p ∧ p < 4294967296 ∧ p - q = aptI x y) ⟨rfl, rfl, rfl, trivial⟩ ?_ ?_
 ·
  refine wpM.condD rfl (fun h1 => ?_) (fun h1 => ?_)
  ·
   refine wpM.region ?_
   refine LM.rd (om_ldW Try.isAgg140 Try.sizeOf140 rfl rfl) ?_
   refine LM.rd (om_ldW Try.isAgg140 Try.sizeOf140 rfl rfl) ?_
   refine LM.stW Try.sizeOf140 rfl rfl rfl rfl au7 au8 ?_
   refine LM.stW Try.sizeOf140 rfl rfl rfl rfl au7 au8 ?_
   refine LM.mem (SubM.mem (M' := (b2, .cells #[U 0#64, U (bI y)] 140 (0, 0)) :: (b3, .cells #[U 0#64, U (bI x)] 140 (0, 0)) :: (b4, .cells #[U 0#64, U 0#64] 140 (0, 0)) :: []) au1) ?_
   refine LM.nil (QM.sub (e' := [(2, _), (3, _), (4, _)]) au9 ?_)
   refine QM.meetK (y, x) ⟨rfl, rfl, rfl, trivial⟩ au1 ?_
   · have h2 : x < y := cmpI_neg h1; exact ⟨hx.1, by omega, hy.2, (if_pos h2).symm⟩
  refine wpM.skip ?_
  refine QM.meetK (x, y) ⟨rfl, rfl, rfl, trivial⟩ au1 ?_
  · have h2 : ¬ x < y := cmpI_nneg h1; exact ⟨hy.1, by omega, hx.2, (if_neg h2).symm⟩
 rintro ⟨p, q⟩ ⟨hq0, hqp, hp, he⟩
 change QM _ _ _ _ _ ((b2, .cells #[U 0#64, U (bI p)] 140 (0, 0)) :: (b3, .cells #[U 0#64, U (bI q)] 140 (0, 0)) :: (b4, .cells #[U 0#64, U 0#64] 140 (0, 0)) :: []) _ _ _
 refine QM.then (wpM.seq (wpM.region ?_))
 refine LM.val (ov_field Try.underlying140 rfl Try.sizeOf26 rfl (k := 1) rfl rfl) ?_
 refine LM.rd (om_ld Try.isAgg26 rfl rfl) ?_
 refine LM.val (ov_field Try.underlying140 rfl Try.sizeOf26 rfl (k := 1) rfl rfl) ?_
 refine LM.rd (om_ld Try.isAgg26 rfl rfl) ?_
 refine LM.val (ov_callX rfl (sub64_bI ⟨by omega, hp⟩ ⟨hq0, hqp⟩)) ?_
 refine LM.mv rfl ?_
 refine LM.val (ov_extract rfl rfl) ?_
 refine LM.val (ov_extract rfl rfl) ?_
 refine LM.as rfl (LM.as rfl ?_)
 refine LM.nil (QM.sub (e' := [(2, _), (3, _), (4, _), (5, _), (6, _)]) au9 (QM.then (wpM.seq (wpM.region ?_))))
 refine LM.val (ov_field Try.underlying140 rfl Try.sizeOf26 rfl (k := 0) rfl rfl) ?_
 refine LM.rd (om_ld Try.isAgg26 rfl rfl) ?_
 refine LM.val (ov_field Try.underlying140 rfl Try.sizeOf26 rfl (k := 0) rfl rfl) ?_
 refine LM.rd (om_ld Try.isAgg26 rfl rfl) ?_
 refine LM.mv rfl ?_
 refine LM.val (ov_callX rfl (sub64_bI (x := 0) (y := 0) ⟨by decide, by decide⟩ ⟨by decide, by decide⟩)) ?_
 refine LM.mv rfl ?_
 refine LM.val (ov_extract rfl rfl) ?_
 refine LM.val (ov_extract rfl rfl) ?_
 refine LM.as rfl (LM.as rfl ?_)
 refine LM.nil (QM.sub (e' := [(4, _), (5, _), (7, _)]) au9 (QM.then (wpM.seq (wpM.region ?_))))
 refine LM.mv rfl (LM.mv rfl ?_)
 refine LM.val (ov_build (cs := #[_, _]) rfl (by first | rfl | kernel_rfl)) ?_
 refine LM.stW Try.sizeOf140 rfl rfl rfl rfl au7 au8 ?_
 refine LM.nil (QM.sub (e' := [(4, _)]) ⟨rfl, trivial⟩ (QM.then ?_))
 refine wpM.ret ?_
 refine QM.leaveCs (ds := ([])) (.inl rfl) [.cell 4 140] Try.results97 hd_nil (rc_w rfl Try.isAgg140 Try.sizeOf140 rfl rc_nil) ?_
 intro w' hm' hc'
 rw [← he]; exact ⟨rfl, hc'⟩
set_option maxRecDepth 100000 in
theorem near_spec (a wt t al k : Int) (w : World) (ha : 0 ≤ a ∧ a ≤ 1000) (hw : 0 ≤ wt ∧ wt ≤ 100000) (ht : 0 ≤ t ∧ t ≤ 1000) (hl : 0 ≤ al ∧ al ≤ 100000) (hk : 0 ≤ k ∧ k ≤ 1000) : Ret Try.prog 70 #[U (bI a), U (bI wt), U (bI t), U (bI al), U (bI k)] w (fun v w' => v = .bool (decide (aptI (a * al) (wt * t) ≤ k * al)) ∧ Ext w w') := by
 have h1 := mul_bd ha hl; have h2 := mul_bd hw ht; have h3 := mul_bd hk hl; have h4 : 0 ≤ aptI (a * al) (wt * t) ∧ aptI (a * al) (wt * t) < 4294967296 := (by unfold aptI; split <;> omega)
 refine Ret.enterM (l := [U (bI a), U (bI wt), U (bI t), U (bI al), U (bI k)]) Try.func70 rfl Try.ntmps70 rfl ([]) (no) (Mem.nil w) ?_
 refine wpM.seq (wpM.region ?_)
 refine LM.as rfl ?_
 refine LM.nil (QM.sub (e' := [(0, _), (1, _), (2, _), (3, _), (4, _)]) au9 (QM.then (wpM.seq (wpM.region ?_))))
 refine LM.mv rfl (LM.mv rfl ?_)
 refine LM.callE (oc_call (enters_fn Try.func96 (by kernel_rfl) rfl) rfl) (fun w hm hc hg => times_spec a al w (by omega) (by omega) ⟨h1.1, by omega⟩) ?_
 refine LM.mv rfl (LM.mv rfl ?_)
 refine LM.callE (oc_call (enters_fn Try.func96 (by kernel_rfl) rfl) rfl) (fun w hm hc hg => times_spec wt t w (by omega) (by omega) ⟨h2.1, by omega⟩) ?_
 refine LM.callE (oc_call (enters_fn Try.func97 (by kernel_rfl) rfl) rfl) (fun w hm hc hg => apart_spec (a * al) (wt * t) w ⟨h1.1, by omega⟩ ⟨h2.1, by omega⟩) ?_
 refine LM.mv rfl (LM.mv rfl ?_)
 refine LM.callE (oc_call (enters_fn Try.func96 (by kernel_rfl) rfl) rfl) (fun w hm hc hg => times_spec k al w (by omega) (by omega) ⟨h3.1, by omega⟩) ?_
 refine LM.callE (oc_call (enters_fn Try.func98 (by kernel_rfl) rfl) rfl) (fun w hm hc hg => wagainst_spec (aptI (a * al) (wt * t)) (k * al) w h4 ⟨h3.1, by omega⟩) ?_
 refine LM.val (ov_leq rfl rfl) ?_
 refine LM.as rfl ?_
 refine LM.nil (QM.sub (e' := [(10, _)]) ⟨rfl, trivial⟩ (QM.then ?_))
 refine wpM.ret ?_
 refine QM.leave (.inl rfl) [.tmp 10] Try.results70 rfl ?_
 intro w' hm' hc' hg'
 refine ⟨?_, hc'⟩; simp only [resV]; rw [cmpI_le]
end Go.Eng
namespace Go.Eng
open Go Go.RowKit
structure LagI (x : Qm) : Prop where
  wf : QWf x
  all : ∀ t ∈ x.l, x.fl.toNat ≤ t.V.toNat ∧ t.V.toNat ≤ x.fl.toNat + (coreO t.x).toNat * x.g.toNat
  cur : 0 ≤ x.cur → 1 ≤ x.ran ∧ (gQ x.l x.cur).V.toNat ≤ x.fl.toNat + (coreO (gQ x.l x.cur).x).toNat * (min x.ran x.g).toNat
theorem lag_new (g : Int) : LagI (newQ g) := ⟨new_wf g, fun t h => (by cases h), fun h => absurd h (by show ¬ (0 : Int) ≤ -1; decide)⟩
theorem ixO_hitApp {l m : List Kv} {a : Int} (h : ixO l a < l.length) : ixO (l ++ m) a = ixO l a := by
  induction l with
  | nil => simp at h
  | cons t l ih =>
    rw [List.cons_append, ixO_cons, ixO_cons]
    rw [ixO_cons] at h
    by_cases e : t.id = a
    · rw [if_pos e, if_pos e]
    · rw [if_neg e, List.length_cons] at h
      rw [if_neg e, if_neg e, ih (by omega)]
theorem gQ_app {l m : List Kv} {a : Int} (h : ixO l a < l.length) : gQ (l ++ m) a = gQ l a := by
  unfold gQ; rw [ixO_hitApp h, List.getD_eq_getElem?_getD, List.getElem?_append_left h, ← List.getD_eq_getElem?_getD]
theorem plc_ge (x : Qm) (v : BitVec 64) (w : Int) : x.fl.toNat ≤ (plcO x v w).toNat := clamp_ge _ _ _
theorem plc_le {x : Qm} (h : QWf x) (v : BitVec 64) (w : Int) : (plcO x v w).toNat ≤ x.fl.toNat + (coreO w).toNat * x.g.toNat := by
  have := clamp_le v x.fl (reachO w x.g)
  rw [reach_nat h.g] at this; exact this
theorem lag_add {x : Qm} (h : LagI x) (a : Int) (v : BitVec 64) (w : Int) : LagI (addX x a v w) := by
  unfold addX
  split
  · rename_i hE
    refine ⟨add_wf h.wf hE, fun t ht => ?_, fun hc => ?_⟩
    · rcases List.mem_append.1 ht with q | q
      · exact h.all t q
      · rw [List.mem_singleton] at q; subst q
        exact ⟨plc_ge x v _, plc_le h.wf v _⟩
    · have hix := h.wf.ix hc
      have := h.cur hc
      show 1 ≤ x.ran ∧ (gQ (x.l ++ [_]) x.cur).V.toNat ≤ x.fl.toNat + (coreO (gQ (x.l ++ [_]) x.cur).x).toNat * _
      rw [gQ_app hix]; exact this
  · exact h
theorem setl_fl {x : Qm} (hl : x.l ≠ []) : (setlQ x).fl.toNat = max x.fl.toNat (minO x.l).toNat := by
  rw [setlQ_pos hl]
  show (if x.fl.toNat < (minO x.l).toNat then minO x.l else x.fl).toNat = _
  split <;> omega
theorem go_fl {x : Qm} (h : QWf x) (hl : x.l ≠ []) : (goQ x).fl.toNat = max x.fl.toNat (minO (goQ x).l).toNat := by
  have hne : (tickQ (goQ2 x)).l ≠ [] := fun q => hl (by
    have h1 := (go_l h hl).1
    have h2 : (goQ x).l = (tickQ (goQ2 x)).l := (setl_same _).1
    rw [h2, q] at h1
    have := congrArg List.length h1
    unfold tickL at this
    rw [List.length_set] at this
    exact List.eq_nil_of_length_eq_zero this.symm)
  have h1 : (goQ x).fl.toNat = max (tickQ (goQ2 x)).fl.toNat (minO (tickQ (goQ2 x)).l).toNat := setl_fl hne
  have h2 : (goQ x).l = (tickQ (goQ2 x)).l := (setl_same _).1
  have h3 : (tickQ (goQ2 x)).fl = x.fl := by
    have : (tickQ (goQ2 x)).fl = (goQ2 x).fl := by unfold tickQ; split <;> rfl
    rw [this]; exact (go2_l x).2.1
  rw [h1, h2, h3]
theorem go_mem {x : Qm} (h : QWf x) (hl : x.l ≠ []) {t : Kv} (ht : t ∈ (goQ x).l) : (t.id = goO x ∧ t = ⟨addO (gQ x.l (goO x)).V (coreO (gQ x.l (goO x)).x), goO x, (gQ x.l (goO x)).x⟩) ∨ (t.id ≠ goO x ∧ t ∈ x.l) := by
  obtain ⟨h0, hx⟩ := go_pos h hl
  rw [(go_l h hl).1, tickL_eq hx] at ht
  rcases (mem_set_at h.nd hx (y := ⟨addO (gQ x.l (goO x)).V (coreO (gQ x.l (goO x)).x), goO x, (gQ x.l (goO x)).x⟩) rfl t).1 ht with e | e
  · exact .inl ⟨by rw [e], e⟩
  · exact .inr ⟨e.2, e.1⟩
theorem go_floor {x : Qm} (h : QWf x) (hl : x.l ≠ []) (hm : ∀ t ∈ x.l, (gQ x.l (goO x)).V.toNat ≤ t.V.toNat) : (gQ x.l (goO x)).V.toNat ≤ (goQ x).fl.toNat := by
  rw [go_fl h hl]
  have hne : (goQ x).l ≠ [] := fun q => hl (by
    have h1 := (go_l h hl).1
    rw [q] at h1
    have := congrArg List.length h1
    unfold tickL at this
    rw [List.length_set] at this
    exact List.eq_nil_of_length_eq_zero this.symm)
  obtain ⟨⟨t, ht, e⟩, _⟩ := minO_spec hne
  have : (gQ x.l (goO x)).V.toNat ≤ t.V.toNat := by
    rcases go_mem h hl ht with ⟨_, q⟩ | ⟨_, q⟩
    · rw [q]; exact addO_ge _ _
    · exact hm t q
  rw [← e]; omega
theorem lag_go {x : Qm} (h : LagI x) : LagI (goQ x) := by
  have hwf := go_wf h.wf
  have hg := h.wf.g
  by_cases hl : x.l = []
  · obtain ⟨e1, e2⟩ := go_empty h.wf hl
    have hll : (goQ x).l = [] := by rw [e2, (setl_same _).1, (go2_l x).1, hl]
    refine ⟨hwf, fun t ht => (by rw [hll] at ht; cases ht), fun hc => ?_⟩
    have := hwf.ix hc
    rw [hll] at this; simp at this
  · obtain ⟨h0, hx⟩ := go_pos h.wf hl
    obtain ⟨l1, l2, l3, l4⟩ := go_l h.wf hl
    have hfl := go_fl h.wf hl
    obtain ⟨c1, c2⟩ := gQ_in hx
    have hall := h.all _ c1
    have hmin : ∀ t ∈ (goQ x).l, (minO (goQ x).l).toNat ≤ t.V.toNat := fun t ht => (minO_spec (fun q => by rw [q] at ht; cases ht)).2 t ht
    -- the one that has the tick
    have key : 1 ≤ (goQ2 x).ran + 1 ∧ (addO (gQ x.l (goO x)).V (coreO (gQ x.l (goO x)).x)).toNat ≤ (goQ x).fl.toNat + (coreO (gQ x.l (goO x)).x).toNat * (min ((goQ2 x).ran + 1) x.g).toNat := by
      have ha := addO_le (gQ x.l (goO x)).V (coreO (gQ x.l (goO x)).x)
      have h2r := (go2_wf h.wf).ran
      refine ⟨by omega, ?_⟩
      have hone : (goQ x).fl.toNat + (coreO (gQ x.l (goO x)).x).toNat ≤ (goQ x).fl.toNat + (coreO (gQ x.l (goO x)).x).toNat * (min ((goQ2 x).ran + 1) x.g).toNat := by
        have : 1 ≤ (min ((goQ2 x).ran + 1) x.g).toNat := by omega
        have := Nat.mul_le_mul_left (coreO (gQ x.l (goO x)).x).toNat this
        omega
      cases go_who h.wf hl with
      | new h0 hr hx' hm =>
        have := go_floor h.wf hl hm
        omega
      | on hc hd e =>
        have hgo : goO x = x.cur := by unfold goO; rw [e]
        rw [e] at h2r hone ⊢
        rw [hgo] at ha hone ⊢
        obtain ⟨k1, k2⟩ := h.cur hc
        by_cases hrg : x.ran < x.g
        · have e1 : (min (x.ran + 1) x.g).toNat = (min x.ran x.g).toNat + 1 := by omega
          rw [e1, Nat.mul_succ]
          have : x.fl.toNat ≤ (goQ x).fl.toNat := by rw [hfl]; omega
          omega
        · have hm : ∀ t ∈ x.l, (gQ x.l x.cur).V.toNat ≤ t.V.toNat := fun t ht => by
            by_cases et : t.id = x.cur
            · rw [gQ_mem h.wf.nd ht et]; exact Nat.le_refl _
            · have htr : t ∈ rdyO x := (rdy_mem h.wf.nd t).2 ⟨ht, et⟩
              obtain ⟨s, r, er⟩ := ne_cons (l := rdyO x) (fun q => by rw [q] at htr; cases htr)
              rw [due_if ⟨hc, by omega⟩, er] at hd
              have hd2 := of_decide_eq_false hd
              have := srt_hd (l := r) (by rw [← er]; exact rdy_srt h.wf.nd) t (by rw [← er]; exact htr)
              omega
          have := go_floor h.wf hl (by rw [hgo]; exact hm)
          rw [hgo] at this
          omega
    refine ⟨hwf, fun t ht => ?_, fun hc => ?_⟩
    · have hlow := hmin t ht
      rw [l4]
      rcases go_mem h.wf hl ht with ⟨_, q⟩ | ⟨_, q⟩
      · rw [q]
        show _ ≤ (addO (gQ x.l (goO x)).V (coreO (gQ x.l (goO x)).x)).toNat ∧ (addO (gQ x.l (goO x)).V (coreO (gQ x.l (goO x)).x)).toNat ≤ _ + (coreO (gQ x.l (goO x)).x).toNat * x.g.toNat
        have hlow2 : (minO (goQ x).l).toNat ≤ (addO (gQ x.l (goO x)).V (coreO (gQ x.l (goO x)).x)).toNat := by rw [q] at hlow; exact hlow
        have hge := addO_ge (gQ x.l (goO x)).V (coreO (gQ x.l (goO x)).x)
        refine ⟨by rw [hfl]; omega, ?_⟩
        have : (min ((goQ2 x).ran + 1) x.g).toNat ≤ x.g.toNat := by omega
        have := Nat.mul_le_mul_left (coreO (gQ x.l (goO x)).x).toNat this
        omega
      · have := h.all t q
        exact ⟨by rw [hfl]; omega, by rw [hfl]; omega⟩
    · rw [l2, l3, l4, go_V h.wf hl, if_pos rfl]
      exact key
end Go.Eng
namespace Go.Eng
open Go Go.RowKit
theorem fair_pair {U g wi wj ci cj ri rj ti tj ai aj bi bj D T : Int} (hUi : wi * ci + ri = U) (hUj : wj * cj + rj = U) (hri : 0 ≤ ri ∧ ri ≤ wi) (hrj : 0 ≤ rj ∧ rj ≤ wj) (hi : ti * ci = D + bi - ai) (hj : tj * cj = D + bj - aj)
    (hai : 0 ≤ ai ∧ ai ≤ g * ci) (haj : 0 ≤ aj ∧ aj ≤ g * cj) (hbi : 0 ≤ bi ∧ bi ≤ g * ci) (hbj : 0 ≤ bj ∧ bj ≤ g * cj) (hg : 0 ≤ g) (hwi : 0 ≤ wi) (hwj : 0 ≤ wj) (hti : 0 ≤ ti ∧ ti ≤ T) (htj : 0 ≤ tj ∧ tj ≤ T) :
    U * (ti * wj - wi * tj) ≤ g * U * (wj + wi) + 2 * wi * T * wj ∧ -(g * U * (wj + wi) + 2 * wi * T * wj) ≤ U * (ti * wj - wi * tj) := by
  have e : U * (ti * wj - wi * tj) = wi * wj * ((bi - ai) - (bj - aj)) + wj * ti * ri - wi * tj * rj := by
    have e1 : U * (ti * wj) = wi * wj * (ti * ci) + wj * ti * ri := by rw [← hUi]; grind
    have e2 : U * (wi * tj) = wi * wj * (tj * cj) + wi * tj * rj := by rw [← hUj]; grind
    rw [hi] at e1
    rw [hj] at e2
    grind
  have p : 0 ≤ wi * wj := Int.mul_nonneg hwi hwj
  have u1 : wi * wj * ((bi - ai) - (bj - aj)) ≤ wi * wj * (g * ci + g * cj) := Int.mul_le_mul_of_nonneg_left (by omega) p
  have u1' : wi * wj * (-(g * ci + g * cj)) ≤ wi * wj * ((bi - ai) - (bj - aj)) := Int.mul_le_mul_of_nonneg_left (by omega) p
  have u2 : wi * wj * (g * ci + g * cj) = g * wj * (wi * ci) + g * wi * (wj * cj) := by grind
  have u3 : g * wj * (wi * ci) ≤ g * wj * U := Int.mul_le_mul_of_nonneg_left (by omega) (Int.mul_nonneg hg hwj)
  have u4 : g * wi * (wj * cj) ≤ g * wi * U := Int.mul_le_mul_of_nonneg_left (by omega) (Int.mul_nonneg hg hwi)
  have v1 : wj * ti * ri ≤ wj * ti * wi := Int.mul_le_mul_of_nonneg_left hri.2 (Int.mul_nonneg hwj hti.1)
  have v1' : wj * ti * wi ≤ wi * wj * T := by
    have := Int.mul_le_mul_of_nonneg_left hti.2 p
    have e3 : wj * ti * wi = wi * wj * ti := by grind
    omega
  have v2 : wi * tj * rj ≤ wi * tj * wj := Int.mul_le_mul_of_nonneg_left hrj.2 (Int.mul_nonneg hwi htj.1)
  have v2' : wi * tj * wj ≤ wi * wj * T := by
    have := Int.mul_le_mul_of_nonneg_left htj.2 p
    have e3 : wi * tj * wj = wi * wj * tj := by grind
    omega
  have z1 : 0 ≤ wj * ti * ri := Int.mul_nonneg (Int.mul_nonneg hwj hti.1) hri.1
  have z2 : 0 ≤ wi * tj * rj := Int.mul_nonneg (Int.mul_nonneg hwi htj.1) hrj.1
  have pT : 0 ≤ wi * wj * T := Int.mul_nonneg p (Int.le_trans hti.1 hti.2)
  have f1 : g * U * (wj + wi) = g * wj * U + g * wi * U := by grind
  have f2 : 2 * wi * T * wj = 2 * (wi * wj * T) := by grind
  have f3 : wi * wj * (-(g * ci + g * cj)) = -(wi * wj * (g * ci + g * cj)) := by grind
  rw [e, f1, f2]
  omega
def smI (f : Nat → Int) : Nat → Int
  | 0 => 0
  | k + 1 => smI f k + f k
theorem smI_nn {f : Nat → Int} : ∀ {k : Nat}, (∀ j, j < k → 0 ≤ f j) → 0 ≤ smI f k
  | 0, _ => Int.le_refl _
  | k + 1, h => by
    have := smI_nn (k := k) (fun j hj => h j (by omega)); have := h k (by omega)
    show 0 ≤ smI f k + f k; omega
theorem smI_le {f : Nat → Int} {i : Nat} : ∀ {k : Nat}, (∀ j, j < k → 0 ≤ f j) → i < k → f i ≤ smI f k
  | 0, _, hi => by omega
  | k + 1, h, hi => by
    have hn := smI_nn (k := k) (fun j hj => h j (by omega)); have hk := h k (by omega)
    show f i ≤ smI f k + f k
    by_cases e : i = k
    · subst e; omega
    · have := smI_le (k := k) (fun j hj => h j (by omega)) (by omega : i < k); omega
structure FairH (U g D T : Int) (n : Nat) (w t c a b : Nat → Int) : Prop where
  g0 : 0 ≤ g
  hU : ∀ i, i < n → ∃ r, w i * c i + r = U ∧ 0 ≤ r ∧ r ≤ w i
  ht : ∀ i, i < n → t i * c i = D + b i - a i
  ha : ∀ i, i < n → 0 ≤ a i ∧ a i ≤ g * c i
  hb : ∀ i, i < n → 0 ≤ b i ∧ b i ≤ g * c i
  w0 : ∀ i, i < n → 0 ≤ w i
  t0 : ∀ i, i < n → 0 ≤ t i ∧ t i ≤ T
theorem fair_sum {U g D T : Int} {n : Nat} {w t c a b : Nat → Int} (H : FairH U g D T n w t c a b) (hU : 0 ≤ U) (hT : 0 ≤ T) {i : Nat} (hi : i < n) : ∀ k, k ≤ n →
    U * (t i * smI w k - w i * smI t k) ≤ g * U * (smI w k - (if i < k then w i else 0) + (k - (if i < k then 1 else 0)) * w i) + 2 * w i * T * smI w k ∧
    -(g * U * (smI w k - (if i < k then w i else 0) + (k - (if i < k then 1 else 0)) * w i) + 2 * w i * T * smI w k) ≤ U * (t i * smI w k - w i * smI t k)
  | 0, _ => by simp [smI]
  | k + 1, hk => by
    have ih := fair_sum H hU hT hi k (by omega)
    have hgU : 0 ≤ g * U := Int.mul_nonneg H.g0 hU
    have hww : 0 ≤ 2 * w i * T * w k := Int.mul_nonneg (Int.mul_nonneg (by have := H.w0 i hi; omega) hT) (H.w0 k (by omega))
    have es : U * (t i * (smI w k + w k) - w i * (smI t k + t k)) = U * (t i * smI w k - w i * smI t k) + U * (t i * w k - w i * t k) := by grind
    have ew : 2 * w i * T * (smI w k + w k) = 2 * w i * T * smI w k + 2 * w i * T * w k := by grind
    show U * (t i * (smI w k + w k) - w i * (smI t k + t k)) ≤ g * U * ((smI w k + w k) - (if i < k + 1 then w i else 0) + (((k + 1 : Nat) : Int) - (if i < k + 1 then 1 else 0)) * w i) + 2 * w i * T * (smI w k + w k) ∧
      -(g * U * ((smI w k + w k) - (if i < k + 1 then w i else 0) + (((k + 1 : Nat) : Int) - (if i < k + 1 then 1 else 0)) * w i) + 2 * w i * T * (smI w k + w k)) ≤ U * (t i * (smI w k + w k) - w i * (smI t k + t k))
    rw [es, ew]
    by_cases e : i = k
    · subst e
      rw [if_neg (by omega), if_neg (by omega)] at ih
      rw [if_pos (by omega), if_pos (by omega)]
      have e1 : U * (t i * w i - w i * t i) = 0 := by grind
      have e2 : g * U * (smI w i + w i - w i + (((i + 1 : Nat) : Int) - 1) * w i) = g * U * (smI w i - 0 + ((i : Int) - 0) * w i) := by
        have : ((i + 1 : Nat) : Int) - 1 = (i : Int) - 0 := by omega
        rw [this]; grind
      rw [e1, e2]
      omega
    · obtain ⟨ri, hUi, hri, hri2⟩ := H.hU i hi
      obtain ⟨rk, hUk, hrk, hrk2⟩ := H.hU k (by omega)
      have hp := fair_pair hUi hUk ⟨hri, hri2⟩ ⟨hrk, hrk2⟩ (H.ht i hi) (H.ht k (by omega)) (H.ha i hi) (H.ha k (by omega)) (H.hb i hi) (H.hb k (by omega)) H.g0 (H.w0 i hi) (H.w0 k (by omega)) (H.t0 i hi) (H.t0 k (by omega))
      have ef : (if i < k + 1 then w i else 0) = (if i < k then w i else 0) := by by_cases q : i < k; rw [if_pos q, if_pos (by omega)]; rw [if_neg q, if_neg (by omega)]
      have ef2 : (if i < k + 1 then (1 : Int) else 0) = (if i < k then 1 else 0) := by by_cases q : i < k; rw [if_pos q, if_pos (by omega)]; rw [if_neg q, if_neg (by omega)]
      rw [ef, ef2]
      generalize (if i < k then w i else 0) = A at ih ⊢
      generalize (if i < k then (1 : Int) else 0) = B at ih ⊢
      have e2 : g * U * (smI w k + w k - A + (((k + 1 : Nat) : Int) - B) * w i) = g * U * (smI w k - A + ((k : Int) - B) * w i) + g * U * (w k + w i) := by
        have : ((k + 1 : Nat) : Int) = (k : Int) + 1 := by omega
        rw [this]; grind
      rw [e2]
      omega
theorem fair_all {U g D T : Int} {n : Nat} {w t c a b : Nat → Int} (H : FairH U g D T n w t c a b) (hU : 0 < U) (hT : 0 ≤ T) (hb : ∀ i, i < n → 2 * w i * T ≤ U) {i : Nat} (hi : i < n) :
    t i * smI w n - w i * smI t n ≤ (((n : Int) - 1) * g + 1) * smI w n ∧ -((((n : Int) - 1) * g + 1) * smI w n) ≤ t i * smI w n - w i * smI t n := by
  have hs := fair_sum H (by omega) hT hi n (Nat.le_refl _)
  rw [if_pos hi, if_pos hi] at hs
  have hW : 0 ≤ smI w n := smI_nn H.w0
  have hwW : w i ≤ smI w n := smI_le H.w0 hi
  have hw0 := H.w0 i hi
  have k1 : smI w n - w i + ((n : Int) - 1) * w i ≤ ((n : Int) - 1) * smI w n := by
    by_cases h1 : n = 1
    · subst h1
      have : i = 0 := by omega
      subst this
      show (0 + w 0) - w 0 + (((1 : Nat) : Int) - 1) * w 0 ≤ (((1 : Nat) : Int) - 1) * (0 + w 0)
      simp
    · have h2 : 0 ≤ (n : Int) - 2 := by omega
      have := Int.mul_le_mul_of_nonneg_left hwW h2
      have e1 : ((n : Int) - 2) * w i = ((n : Int) - 1) * w i - w i := by grind
      have e2 : ((n : Int) - 2) * smI w n = ((n : Int) - 1) * smI w n - smI w n := by grind
      omega
  have k2 : g * U * (smI w n - w i + ((n : Int) - 1) * w i) ≤ g * U * (((n : Int) - 1) * smI w n) := Int.mul_le_mul_of_nonneg_left k1 (Int.mul_nonneg H.g0 (by omega))
  have k3 : 2 * w i * T * smI w n ≤ U * smI w n := Int.mul_le_mul_of_nonneg_right (hb i hi) hW
  have k4 : U * ((((n : Int) - 1) * g + 1) * smI w n) = g * U * (((n : Int) - 1) * smI w n) + U * smI w n := by grind
  constructor
  · refine Int.le_of_mul_le_mul_left (a := U) ?_ hU
    omega
  · refine Int.le_of_mul_le_mul_left (a := U) ?_ hU
    have : U * (-((((n : Int) - 1) * g + 1) * smI w n)) = -(U * ((((n : Int) - 1) * g + 1) * smI w n)) := by grind
    omega
end Go.Eng
namespace Go.Eng
open Go Go.Proofs Go.RowKit
abbrev gI0 (l : List Int) : Nat → Int := fun j => l.getD j 0
set_option maxRecDepth 100000 in
theorem fits_spec {n cap n' cap' : Nat} {ad ad' : Option Addr} (w : World) (hn : n = n') (hl : n ≤ 64) : Ret Try.prog 68 #[.slice ad n cap, .slice ad' n' cap'] w (fun v w' => v = .bool true ∧ Ext w w') := by
 refine Ret.enterM (l := [.slice ad n cap, .slice ad' n' cap']) Try.func68 rfl Try.ntmps68 rfl ([]) (no) (Mem.nil w) ?_
 refine wpM.seq (wpM.region ?_)
 refine LM.as rfl ?_
 refine LM.nil (QM.sub (e' := [(0, _), (1, _)]) au9 (QM.then (wpM.seq (wpM.region ?_))))
 refine LM.mv rfl ?_
 refine LM.val (ov_len Try.underlying47 rfl) ?_
 refine LM.mv rfl ?_
 refine LM.val (ov_len Try.underlying47 rfl) ?_
 refine LM.val (ov_eql rfl rfl) ?_
 refine LM.mv rfl ?_
 refine LM.splitD (t := 10) rfl (fun h1 => ?_) (fun h1 => ?_)
 ·
  refine LM.sp 10 rfl rfl rfl (LM.mv rfl (LM.sp 10 rfl rfl rfl ?_))
  refine LM.val (ov_len Try.underlying47 rfl) ?_
  refine LM.sp 10 rfl rfl rfl ?_
  refine LM.val (ov_leq rfl rfl) ?_
  refine LM.val (ov_pickT rfl rfl) ?_
  refine LM.as rfl ?_
  refine LM.nil (QM.sub (e' := [(4, _)]) ⟨rfl, trivial⟩ (QM.then ?_))
  refine wpM.ret ?_
  refine QM.leave (.inl rfl) [.tmp 4] Try.results68 rfl ?_
  intro w' hm' hc' hg'
  refine ⟨?_, hc'⟩; show Value.bool (decide ((n : Int) ≤ 64)) = _; rw [decide_eq_true (by omega)]
 exact absurd (by omega) h1
set_option maxRecDepth 100000 in
theorem sums_spec {ts ws : List Int} {n cap n' cap' : Nat} {ad ad' : Option Addr} (w : World) (hn : n = ts.length) (hn' : n' = ws.length) (hl : Sr fI 1 ts (.slice ad n cap) w) (hl' : Sr fI 1 ws (.slice ad' n' cap') w) (he : ts.length = ws.length) (h16 : ts.length ≤ 16) (ht : ∀ i, i < ts.length → 0 ≤ ts.getD i 0 ∧ ts.getD i 0 ≤ 1000) (hw : ∀ i, i < ts.length → 1 ≤ ws.getD i 0 ∧ ws.getD i 0 ≤ 4096) : Ret Try.prog 69 #[.slice ad n cap, .slice ad' n' cap'] w (fun v w' => v = .tuple #[U (bI (smI (gI0 ts) ts.length)), U (bI (smI (gI0 ws) ts.length))] ∧ Ext w w') := by
 refine Ret.enterM (l := [.slice ad n cap, .slice ad' n' cap']) Try.func69 rfl Try.ntmps69 rfl ([]) (no) (Mem.nil w) ?_
 refine wpM.seq (wpM.region ?_)
 refine LM.as rfl (LM.as rfl ?_)
 refine LM.nil (QM.sub (e' := [(0, _), (1, _)]) au9 (QM.then (wpM.seq (wpM.region ?_))))
 refine LM.as rfl (LM.as rfl ?_)
 refine LM.nil (QM.sub (e' := [(0, _), (1, _), (6, _), (7, _)]) au9 (QM.then ?_))
 refine wpM.seq ?_
 refine wpM.seq (wpM.region ?_)
 refine LM.mv rfl ?_
 refine LM.val (ov_len Try.underlying47 rfl) ?_
 refine LM.mv rfl ?_
 refine LM.nil (QM.sub (e' := [(0, _), (1, _), (6, _), (7, _), (10, _), (11, _)]) au9 (QM.then ?_))
 refine wpM.block ?_
 refine wpM.loopK0 (α := Nat) (fun i => [(6, U (bI (smI (gI0 ts) i))), (7, U (bI (smI (gI0 ws) i))), (11, .int .i64 (i : Nat))]) [(0, _), (1, _), (10, _)] (fun i => []) (fun i => i ≤ ts.length) (fun i => ts.length - i) (0) ⟨(by first | rfl | exact lk rfl (by rw [bring_id ⟨(ht i (by omega)).1, by have := (ht i (by omega)).2; omega⟩, bI_add]; rfl)), (by first | rfl | exact lk rfl (by rw [bring_id (hw i (by omega)), bI_add]; rfl)), au2, rfl, rfl, rfl, trivial⟩ au1 (Nat.zero_le _) ?_
 rintro i hi
 change wpM _ _ _ _ _ _ _ ([]) _ _ _
 refine wpM.seq (wpM.region ?_)
 refine LM.val (ov_lss rfl rfl) ?_
 refine LM.nil (QM.sub (e' := [(0, _), (1, _), (6, _), (7, _), (10, _), (11, _), (12, _)]) au9 (QM.then ?_))
 refine wpM.seq ?_
 refine wpM.condD rfl (fun h1 => ?_) (fun h1 => ?_)
 ·
  refine wpM.skip ?_
  refine QM.then ?_
  refine wpM.seq ?_
  refine wpM.block ?_
  refine wpM.seq (wpM.region ?_)
  refine LM.mv rfl (LM.as rfl ?_)
  refine LM.nil (QM.sub (e' := [(0, _), (1, _), (6, _), (7, _), (8, _), (10, _), (11, _)]) au9 (QM.then (wpM.seq (wpM.region ?_))))
  refine LM.mv rfl (LM.mv rfl (LM.mv rfl ?_))
  refine LM.val (ov_idxSN au6 Try.underlying47 Try.sizeOf3 rfl rfl (by omega)) ?_
  first | refine LM.rd (om_sl1 (by assumption) (by intro _; rfl) Try.isAgg3 rfl rfl (by exact getq 0 au4) (by rfl)) ?_ | refine LM.rdC (om_sr1 (by assumption) Try.isAgg3 rfl rfl (by exact getq 0 au4) (by rfl) id) ?_ | refine LM.rd (om_ld Try.isAgg3 rfl rfl) ?_
  refine LM.callE (oc_call (enters_fn Try.func66 (by kernel_rfl) rfl) rfl) (fun w hm hc hg => ubring_spec (ts.getD i 0) 0 2147483648 w (by decide)) ?_
  refine LM.val (ov_uadd rfl rfl) ?_
  refine LM.as rfl ?_
  refine LM.nil (QM.sub (e' := [(0, _), (1, _), (6, _), (7, _), (8, _), (10, _), (11, _)]) au9 (QM.then (wpM.region ?_)))
  refine LM.mv rfl (LM.mv rfl (LM.mv rfl ?_))
  refine LM.val (ov_idxSN au6 Try.underlying47 Try.sizeOf3 rfl rfl (by omega)) ?_
  first | refine LM.rd (om_sl1 (by assumption) (by intro _; rfl) Try.isAgg3 rfl rfl (by exact getq 0 au4) (by rfl)) ?_ | refine LM.rdC (om_sr1 (by assumption) Try.isAgg3 rfl rfl (by exact getq 0 au4) (by rfl) id) ?_ | refine LM.rd (om_ld Try.isAgg3 rfl rfl) ?_
  refine LM.callE (oc_call (enters_fn Try.func66 (by kernel_rfl) rfl) rfl) (fun w hm hc hg => ubring_spec (ws.getD i 0) 1 4096 w (by decide)) ?_
  refine LM.val (ov_uadd rfl rfl) ?_
  refine LM.as rfl ?_
  refine LM.nil (QM.sub (e' := [(0, _), (1, _), (6, _), (7, _), (10, _), (11, _)]) au9 ?_)
  refine QM.block_normal ?_
  refine QM.then (wpM.region ?_)
  refine LM.val (ov_add64 rfl rfl (by omega)) ?_
  refine LM.mv rfl ?_
  refine LM.nil (QM.sub (e' := [(0, _), (1, _), (6, _), (7, _), (10, _), (11, _)]) au9 ?_)
  refine QM.againK (i + 1) ⟨(by first | rfl | exact lk rfl (by rw [bring_id ⟨(ht i (by omega)).1, by have := (ht i (by omega)).2; omega⟩, bI_add]; rfl)), (by first | rfl | exact lk rfl (by rw [bring_id (hw i (by omega)), bI_add]; rfl)), au2, rfl, rfl, rfl, trivial⟩ au1 (fun _ h => h) ?_ ?_
  · omega
  · omega
 refine wpM.exit ?_
 refine QM.then_exit ?_
 refine QM.then_exit ?_
 refine QM.block_hit ?_
 refine QM.then (wpM.seq (wpM.region ?_))
 refine LM.mv rfl (LM.mv rfl (LM.as rfl (LM.as rfl ?_)))
 refine LM.nil (QM.sub (e' := [(4, _), (5, _)]) au9 (QM.then ?_))
 refine wpM.ret ?_
 refine QM.leave (.inl rfl) [.tmp 4, .tmp 5] Try.results69 rfl ?_
 intro w' hm' hc' hg'
 have hil : i = ts.length := (by omega); subst hil; exact ⟨rfl, hc'⟩
set_option maxRecDepth 100000 in
theorem fair_spec {ts ws : List Int} {n cap n' cap' : Nat} {ad ad' : Option Addr} (k : Int) (w : World) (hn : n = ts.length) (hn' : n' = ws.length) (hl : Sr fI 1 ts (.slice ad n cap) w) (hl' : Sr fI 1 ws (.slice ad' n' cap') w) (he : ts.length = ws.length) (h16 : ts.length ≤ 16) (ht : ∀ i, i < ts.length → 0 ≤ ts.getD i 0 ∧ ts.getD i 0 ≤ 1000) (hw : ∀ i, i < ts.length → 1 ≤ ws.getD i 0 ∧ ws.getD i 0 ≤ 4096) (hT : 0 ≤ smI (gI0 ts) ts.length ∧ smI (gI0 ts) ts.length ≤ 1000) (hW : 0 ≤ smI (gI0 ws) ts.length ∧ smI (gI0 ws) ts.length ≤ 100000) (hk : 0 ≤ k ∧ k ≤ 1000) (hF : ∀ i, i < ts.length → aptI (ts.getD i 0 * smI (gI0 ws) ts.length) (ws.getD i 0 * smI (gI0 ts) ts.length) ≤ k * smI (gI0 ws) ts.length) : Ret Try.prog 22 #[.slice ad n cap, .slice ad' n' cap', .int .i64 k] w (fun v w' => v = .bool true ∧ Ext w w') := by
 refine Ret.enterM (l := [.slice ad n cap, .slice ad' n' cap', .int .i64 k]) Try.func22 rfl Try.ntmps22 rfl ([]) (no) (Mem.nil w) ?_
 refine wpM.seq (wpM.region ?_)
 refine LM.as rfl ?_
 refine LM.nil (QM.sub (e' := [(0, _), (1, _), (2, _)]) au9 (QM.then ?_))
 refine wpM.seq ?_
 refine wpM.seq (wpM.region ?_)
 refine LM.mv rfl (LM.mv rfl ?_)
 refine LM.callE (oc_call (enters_fn Try.func68 (by kernel_rfl) rfl) rfl) (fun w hm hc hg => fits_spec w (by omega) (by omega)) ?_
 first | refine LM.val (ov_notD rfl) ?_ | refine LM.val (ov_not rfl) ?_
 refine LM.nil (QM.sub (e' := [(0, _), (1, _), (2, _), (13, _)]) au9 (QM.then ?_))
 first | refine wpM.condD rfl (fun h1 => ?_) (fun h1 => ?_) | refine wpM.condB rfl (fun h1 => ?_) (fun h1 => ?_)
 ·
  cases h1
 refine wpM.skip ?_
 refine QM.then (wpM.seq (wpM.region ?_))
 refine LM.mv rfl (LM.mv rfl ?_)
 refine LM.callE (oc_call (enters_fn Try.func69 (by kernel_rfl) rfl) rfl) (fun w hm hc hg => sums_spec w hn hn' (hl.ext hc) (hl'.ext hc) he h16 ht hw) ?_
 refine LM.mv rfl ?_
 refine LM.val (ov_extract rfl rfl) ?_
 refine LM.val (ov_extract rfl rfl) ?_
 refine LM.as rfl (LM.as rfl ?_)
 refine LM.nil (QM.sub (e' := [(0, _), (1, _), (2, _), (7, _), (8, _)]) au9 (QM.then ?_))
 refine wpM.seq ?_
 refine wpM.seq (wpM.region ?_)
 refine LM.mv rfl ?_
 refine LM.val (ov_len Try.underlying47 rfl) ?_
 refine LM.mv rfl ?_
 refine LM.nil (QM.sub (e' := [(0, _), (1, _), (2, _), (7, _), (8, _), (21, _), (22, _)]) au9 (QM.then ?_))
 refine wpM.block ?_
 refine wpM.loopK0 (α := Nat) (fun i => [(22, .int .i64 (i : Nat))]) [(0, _), (1, _), (2, _), (7, _), (8, _), (21, _)] (fun i => []) (fun i => i ≤ ts.length) (fun i => ts.length - i) (0) ⟨au2, rfl, rfl, rfl, rfl, rfl, rfl, trivial⟩ au1 (Nat.zero_le _) ?_
 rintro i hi
 change wpM _ _ _ _ _ _ _ ([]) _ _ _
 refine wpM.seq (wpM.region ?_)
 refine LM.val (ov_lss rfl rfl) ?_
 refine LM.nil (QM.sub (e' := [(0, _), (1, _), (2, _), (7, _), (8, _), (21, _), (22, _), (23, _)]) au9 (QM.then ?_))
 refine wpM.seq ?_
 refine wpM.condD rfl (fun h2 => ?_) (fun h2 => ?_)
 ·
  have hti := ht i (by omega); have hwi := hw i (by omega); have hFi := hF i (by omega)
  refine wpM.skip ?_
  refine QM.then ?_
  refine wpM.seq ?_
  refine wpM.block ?_
  refine wpM.seq (wpM.region ?_)
  refine LM.mv rfl (LM.as rfl ?_)
  refine LM.nil (QM.sub (e' := [(0, _), (1, _), (2, _), (7, _), (8, _), (9, _), (21, _), (22, _)]) au9 (QM.then ?_))
  refine wpM.seq ?_
  refine wpM.draw [(0, 0), (1, 0), (2, 0), (3, 1), (5, 0), (6, 0), (7, 0), (8, 1), (10, 0), (11, 0), (12, 0), (4, 2), (9, 2), (13, 2), (14, 2), (15, 0)] (by kernel_rfl) (by kernel_rfl) ?_
  refine LD.val rfl rfl (ov_move rfl) ?_
  refine LD.val rfl rfl (ov_move rfl) ?_
  refine LD.val rfl rfl (ov_idxSN au6 Try.underlying47 Try.sizeOf3 rfl rfl (by omega)) ?_
  first | refine LD.rd rfl rfl (om_sl1 (by assumption) (by intro _; rfl) Try.isAgg3 rfl rfl (by exact getq 0 au4) (by rfl)) ?_ | refine LD.rdC rfl rfl (om_sr1 (by assumption) Try.isAgg3 rfl rfl (by exact getq 0 au4) (by rfl) id) ?_ | refine LD.rd rfl rfl (om_ld Try.isAgg3 rfl rfl) ?_
  refine LD.val rfl rfl (ov_move rfl) ?_
  refine LD.val rfl rfl (ov_move rfl) ?_
  refine LD.val rfl rfl (ov_idxSN au6 Try.underlying47 Try.sizeOf3 rfl rfl (by omega)) ?_
  first | refine LD.rd rfl rfl (om_sl1 (by assumption) (by intro _; rfl) Try.isAgg3 rfl rfl (by exact getq 0 au4) (by rfl)) ?_ | refine LD.rdC rfl rfl (om_sr1 (by assumption) Try.isAgg3 rfl rfl (by exact getq 0 au4) (by rfl) id) ?_ | refine LD.rd rfl rfl (om_ld Try.isAgg3 rfl rfl) ?_
  refine LD.val rfl rfl (ov_move rfl) ?_
  refine LD.val rfl rfl (ov_move rfl) ?_
  refine LD.val rfl rfl (ov_move rfl) ?_
  refine LD.callE rfl rfl (oc_call (enters_fn Try.func66 (by kernel_rfl) rfl) rfl) (fun w hm hc hg => (bring_id (n := ts.getD i 0) (lo := 0) (hi := 2147483648) ⟨hti.1, by omega⟩) ▸ ubring_spec (ts.getD i 0) 0 2147483648 w (by decide)) ?_
  refine LD.callE rfl rfl (oc_call (enters_fn Try.func66 (by kernel_rfl) rfl) rfl) (fun w hm hc hg => (bring_id hwi) ▸ ubring_spec (ws.getD i 0) 1 4096 w (by decide)) ?_
  refine LD.callE rfl rfl (oc_call (enters_fn Try.func66 (by kernel_rfl) rfl) rfl) (fun w hm hc hg => (bring_id (n := k) (lo := 0) (hi := 2147483648) ⟨hk.1, by omega⟩) ▸ ubring_spec k 0 2147483648 w (by decide)) ?_
  refine LD.callE rfl rfl (oc_call (enters_fn Try.func70 (by kernel_rfl) rfl) rfl) (fun w hm hc hg => near_spec (ts.getD i 0) (ws.getD i 0) (smI (gI0 ts) ts.length) (smI (gI0 ws) ts.length) k w hti ⟨by omega, by omega⟩ hT hW hk) ?_
  refine LD.val rfl rfl (ov_notD rfl) ?_
  refine LD.nil ?_
  refine QM.sub (e' := [(0, _), (1, _), (2, _), (7, _), (8, _), (21, _), (22, _), (40, _)]) au9 (QM.then ?_)
  refine wpM.condD rfl (fun h3 => ?_) (fun h3 => ?_)
  ·
   exact absurd hFi h3
  refine wpM.skip ?_
  refine QM.block_normal ?_
  refine QM.then (wpM.region ?_)
  refine LM.val (ov_add64 rfl rfl (by omega)) ?_
  refine LM.mv rfl ?_
  refine LM.nil (QM.sub (e' := [(0, _), (1, _), (2, _), (7, _), (8, _), (21, _), (22, _)]) au9 ?_)
  refine QM.againK (i + 1) ⟨au2, rfl, rfl, rfl, rfl, rfl, rfl, trivial⟩ au1 (fun _ h => h) ?_ ?_
  · omega
  · omega
 refine wpM.exit ?_
 refine QM.then_exit ?_
 refine QM.then_exit ?_
 refine QM.block_hit ?_
 refine QM.then (wpM.seq (wpM.region ?_))
 refine LM.as rfl ?_
 refine LM.nil (QM.sub (e' := [(6, _)]) ⟨rfl, trivial⟩ (QM.then ?_))
 refine wpM.ret ?_
 refine QM.leave (.inl rfl) [.tmp 6] Try.results22 rfl ?_
 intro w' hm' hc' hg'
 exact ⟨rfl, hc'⟩
end Go.Eng
namespace Go.Eng
open Go Go.Proofs Go.RowKit
theorem go_g {x : Qm} (h : QWf x) : (goQ x).g = x.g := by
  have h1 := (setl_same (tickQ (goQ2 x))).2.2.2
  have : (tickQ (goQ2 x)).g = (goQ2 x).g := by unfold tickQ; split <;> rfl
  show (setlQ (tickQ (goQ2 x))).g = _
  rw [h1, this, (go2_l x).2.2]
theorem addX_g (x : Qm) (a : Int) (v : BitVec 64) (w : Int) : (addX x a v w).g = x.g := by unfold addX; split <;> rfl
theorem tk_payN {ws : List Int} {k : Nat} {x : Qm} {B : Nat} (hq : QWf x) (h : TkI ws k x) (hv : VB x B) (hB : B ≤ 1000000000000000000) {i : Nat} (hi : i < k) :
    ((gQ (goQ x).l (i : Int)).V.toNat : Int) = (gQ x.l (i : Int)).V.toNat + (if (i : Int) = goO x then ((coreO (ws.getD i 0)).toNat : Int) else 0) := by
  rw [tk_pay hq h hv hB hi]
  have h1 := hv.1 _ (gQ_in (h.ix hi)).1
  have h2 := core_le (ws.getD i 0)
  split
  · rw [BitVec.toNat_add, Nat.mod_eq_of_lt (by omega)]; omega
  · rw [BitVec.add_zero]; omega
theorem getD_set {l : List Int} {q j : Nat} {v : Int} (hq : q < l.length) : (l.set q v).getD j 0 = if q = j then v else l.getD j 0 := by
  rw [List.getD_eq_getElem?_getD, List.getElem?_set]
  by_cases e : q = j
  · subst e; rw [if_pos rfl, if_pos rfl, if_pos hq]; rfl
  · rw [if_neg e, if_neg e, ← List.getD_eq_getElem?_getD]
theorem sm_set {l : List Int} {q : Nat} (hq : q < l.length) : ∀ k, smI (gI0 (l.set q (l.getD q 0 + 1))) k = smI (gI0 l) k + (if q < k then 1 else 0)
  | 0 => rfl
  | k + 1 => by
    have ih := sm_set hq k
    show smI (gI0 (l.set q (l.getD q 0 + 1))) k + (l.set q (l.getD q 0 + 1)).getD k 0 = smI (gI0 l) k + l.getD k 0 + _
    rw [ih, getD_set hq]
    by_cases e : q = k
    · subst e; rw [if_pos rfl, if_neg (by omega), if_pos (by omega)]; omega
    · rw [if_neg e]
      by_cases h : q < k
      · rw [if_pos h, if_pos (by omega)]; omega
      · have h2 : ¬ q < k + 1 := by omega
        rw [if_neg h, if_neg h2]; omega
theorem fair_end {wl ts : List Int} {x y : Qm} {n : Nat} {g : Int} (hx : LagI x) (hy : LagI y) (tx : TkI wl n x) (ty : TkI wl n y) (gx : x.g = g) (gy : y.g = g) (hg : 1 ≤ g ∧ g ≤ 8) (hw : ∀ i, i < n → 1 ≤ wl.getD i 0 ∧ wl.getD i 0 ≤ 4096)
    (ht : ∀ i, i < n → 0 ≤ ts.getD i 0 ∧ ((gQ y.l (i : Int)).V.toNat : Int) = (gQ x.l (i : Int)).V.toNat + ts.getD i 0 * (coreO (wl.getD i 0)).toNat) (hT : smI (gI0 ts) n ≤ 1000) {i : Nat} (hi : i < n) :
    aptI (ts.getD i 0 * smI (gI0 wl) n) (wl.getD i 0 * smI (gI0 ts) n) ≤ (((n : Int) - 1) * g + 1) * smI (gI0 wl) n := by
  have hT0 : 0 ≤ smI (gI0 ts) n := smI_nn (fun j hj => (ht j hj).1)
  have H : FairH 1099511627776 g ((y.fl.toNat : Int) - x.fl.toNat) (smI (gI0 ts) n) n (gI0 wl) (gI0 ts) (fun j => ((coreO (wl.getD j 0)).toNat : Int)) (fun j => ((gQ x.l (j : Int)).V.toNat : Int) - x.fl.toNat) (fun j => ((gQ y.l (j : Int)).V.toNat : Int) - y.fl.toNat) := by
    refine ⟨by omega, fun j hj => ?_, fun j hj => ?_, fun j hj => ?_, fun j hj => ?_, fun j hj => by have := (hw j hj).1; show 0 ≤ wl.getD j 0; omega, fun j hj => ⟨(ht j hj).1, smI_le (f := gI0 ts) (fun k hk => (ht k hk).1) hj⟩⟩
    · refine ⟨((1099511627776 % (wl.getD j 0).toNat : Nat) : Int), ?_, by omega, ?_⟩
      · have h1 := hw j hj
        have h2 := core_nat h1
        have h3 := Nat.div_add_mod 1099511627776 (wl.getD j 0).toNat
        show wl.getD j 0 * ((coreO (wl.getD j 0)).toNat : Int) + _ = _
        rw [h2]
        have h4 : wl.getD j 0 = ((wl.getD j 0).toNat : Int) := by omega
        have h5 : wl.getD j 0 * ((1099511627776 / (wl.getD j 0).toNat : Nat) : Int) = (((wl.getD j 0).toNat * (1099511627776 / (wl.getD j 0).toNat) : Nat) : Int) := by rw [Int.natCast_mul, ← h4]
        rw [h5]; omega
      · have h1 := hw j hj
        have := Nat.mod_lt 1099511627776 (by omega : 0 < (wl.getD j 0).toNat)
        show _ ≤ wl.getD j 0
        omega
    · have := (ht j hj).2
      show ts.getD j 0 * ((coreO (wl.getD j 0)).toNat : Int) = _
      omega
    · have h1 := hx.all _ (gQ_in (tx.ix hj)).1
      have h2 : (coreO (gQ x.l (j : Int)).x).toNat = (coreO (wl.getD j 0)).toNat := by rw [tx.xs j hj, core_bring]
      rw [h2, gx] at h1
      have h3 : (((coreO (wl.getD j 0)).toNat * g.toNat : Nat) : Int) = g * ((coreO (wl.getD j 0)).toNat : Int) := by rw [Int.natCast_mul, Int.mul_comm, Int.toNat_of_nonneg (by omega)]
      show 0 ≤ ((gQ x.l (j : Int)).V.toNat : Int) - x.fl.toNat ∧ _
      constructor
      · omega
      · rw [← h3]; omega
    · have h1 := hy.all _ (gQ_in (ty.ix hj)).1
      have h2 : (coreO (gQ y.l (j : Int)).x).toNat = (coreO (wl.getD j 0)).toNat := by rw [ty.xs j hj, core_bring]
      rw [h2, gy] at h1
      have h3 : (((coreO (wl.getD j 0)).toNat * g.toNat : Nat) : Int) = g * ((coreO (wl.getD j 0)).toNat : Int) := by rw [Int.natCast_mul, Int.mul_comm, Int.toNat_of_nonneg (by omega)]
      show 0 ≤ ((gQ y.l (j : Int)).V.toNat : Int) - y.fl.toNat ∧ _
      constructor
      · omega
      · rw [← h3]; omega
  have key := fair_all H (by decide) hT0 (fun j hj => by
    have h1 := hw j hj
    have h2 := mul_bd (a := wl.getD j 0) (b := smI (gI0 ts) n) (A := 4096) (B := 1000) ⟨by omega, h1.2⟩ ⟨hT0, hT⟩
    have e : 2 * gI0 wl j * smI (gI0 ts) n = 2 * (wl.getD j 0 * smI (gI0 ts) n) := Int.mul_assoc ..
    rw [e]; omega) hi
  unfold aptI
  have k1 : ts.getD i 0 * smI (gI0 wl) n - wl.getD i 0 * smI (gI0 ts) n ≤ (((n : Int) - 1) * g + 1) * smI (gI0 wl) n := key.1
  have k2 : -((((n : Int) - 1) * g + 1) * smI (gI0 wl) n) ≤ ts.getD i 0 * smI (gI0 wl) n - wl.getD i 0 * smI (gI0 ts) n := key.2
  split <;> omega
theorem sm_bd {f : Nat → Int} {C : Int} : ∀ {k : Nat}, (∀ j, j < k → 0 ≤ f j ∧ f j ≤ C) → 0 ≤ smI f k ∧ smI f k ≤ C * k
  | 0, _ => by simp [smI]
  | k + 1, h => by
    have h1 := sm_bd (k := k) (fun j hj => h j (by omega))
    have h2 := h k (by omega)
    have e : C * ((k + 1 : Nat) : Int) = C * k + C := by rw [Int.natCast_add, Int.mul_add]; simp
    show 0 ≤ smI f k + f k ∧ smI f k + f k ≤ _
    rw [e]; omega
theorem rep_get (c j : Nat) : (List.replicate c (0 : Int)).getD j 0 = 0 := by
  rw [List.getD_eq_getElem?_getD, List.getElem?_replicate]; split <;> rfl
theorem sm_zero (c : Nat) : ∀ k, smI (gI0 (List.replicate c 0)) k = ((0 : Nat) : Int)
  | 0 => rfl
  | k + 1 => by
    show smI (gI0 (List.replicate c 0)) k + (List.replicate c 0).getD k 0 = _
    rw [sm_zero c k, rep_get]; rfl
set_option maxRecDepth 100000 in
set_option maxHeartbeats 2000000 in
theorem runqFair {ws : List Int} {ad : Option Addr} {n cap : Nat} (g p0 p1 : Int) (w : World) (hn : n = ws.length) (hl : Sr (fun n => [.int .u8 n]) 1 ws (.slice ad n cap) w) (hw : ∀ x ∈ ws, 0 ≤ x ∧ x ≤ 255) (hp0 : 0 ≤ p0 ∧ p0 ≤ 65535) (hp1 : 0 ≤ p1 ∧ p1 ≤ 65535) : Ret Try.prog 5 #[.int .i64 g, .slice ad n cap, .agg #[.int .u16 p0, .int .u16 p1]] w (fun v w' => v = .bool true ∧ Ext w w') := by
 obtain ⟨wl, hwl⟩ : ∃ wl, wl = ws.map (fun x => 1 + x) := ⟨_, rfl⟩; have hwn : wl.length = ws.length := (by rw [hwl, List.length_map]); have hwi : ∀ i, i < ws.length → wl.getD i 0 = 1 + ws.getD i 0 := (fun i hi => by rw [hwl, List.getD_eq_getElem?_getD, List.getElem?_map, List.getElem?_eq_getElem hi, List.getD_eq_getElem?_getD, List.getElem?_eq_getElem hi]; rfl); have hwb : ∀ i, i < ws.length → 0 ≤ ws.getD i 0 ∧ ws.getD i 0 ≤ 255 := (fun i hi => hw _ (by rw [List.getD_eq_getElem?_getD, List.getElem?_eq_getElem hi]; exact List.getElem_mem _)); have hbg := bring_in (n := g) (lo := 1) (hi := 8) (by decide)
 refine Ret.enterM (l := [.int .i64 g, .slice ad n cap, .agg #[.int .u16 p0, .int .u16 p1]]) Try.func5 rfl Try.ntmps5 rfl ([]) (no) (Mem.nil w) ?_
 refine wpM.seq (wpM.region ?_)
 refine LM.box rfl rfl (fun b5 hb5 => ?_)
 refine LM.as rfl ?_
 refine LM.nil (QM.sub (e' := [(0, _), (1, _), (5, _)]) au9 (QM.then ?_))
 refine wpM.seq ?_
 refine wpM.seq (wpM.region ?_)
 refine LM.callE (oc_call (enters_fn Try.func11 (by kernel_rfl) rfl) rfl) (fun w hm hc hg => awake16_spec w) ?_
 first | refine LM.val (ov_notD rfl) ?_ | refine LM.val (ov_not rfl) ?_
 refine LM.nil (QM.sub (e' := [(0, _), (1, _), (5, _), (17, _)]) au9 (QM.then ?_))
 first | refine wpM.condD rfl (fun h1 => ?_) (fun h1 => ?_) | refine wpM.condB rfl (fun h1 => ?_) (fun h1 => ?_)
 ·
  cases h1
 refine wpM.skip ?_
 refine QM.then ?_
 refine wpM.seq ?_
 refine wpM.seq (wpM.region ?_)
 refine LM.mv rfl ?_
 refine LM.val (ov_len Try.underlying22 rfl) ?_
 refine LM.val (ov_gtr rfl rfl) ?_
 refine LM.mv rfl ?_
 refine LM.splitD (t := 21) rfl (fun h2 => ?_) (fun h2 => ?_)
 ·
  refine LM.dr 21 rfl rfl rfl (LM.dr 21 rfl rfl rfl (LM.dr 21 rfl rfl rfl ?_))
  refine LM.val (ov_pickT rfl rfl) ?_
  refine LM.nil (QM.sub (e' := [(0, _), (1, _), (5, _), (25, _)]) au9 (QM.then ?_))
  refine wpM.condT rfl ?_
  refine wpM.seq (wpM.region ?_)
  refine LM.as rfl ?_
  refine LM.nil (QM.sub (e' := [(6, _)]) ⟨rfl, trivial⟩ (QM.then ?_))
  refine wpM.ret ?_
  refine QM.then_ret ?_
  refine QM.leave (.inl rfl) [.tmp 6] Try.results5 rfl ?_
  intro w' hm' hc' hg'
  exact ⟨rfl, hc'⟩
 refine LM.sp 21 rfl rfl rfl (LM.mv rfl (LM.sp 21 rfl rfl rfl ?_))
 refine LM.val (ov_len Try.underlying22 rfl) ?_
 refine LM.sp 21 rfl rfl rfl ?_
 refine LM.val (ov_eql rfl rfl) ?_
 refine LM.val (ov_pickF rfl rfl) ?_
 refine LM.nil (QM.sub (e' := [(0, _), (1, _), (5, _), (25, _)]) au9 (QM.then ?_))
 refine wpM.condD rfl (fun h3 => ?_) (fun h3 => ?_)
 ·
  refine wpM.seq (wpM.region ?_)
  refine LM.as rfl ?_
  refine LM.nil (QM.sub (e' := [(6, _)]) ⟨rfl, trivial⟩ (QM.then ?_))
  refine wpM.ret ?_
  refine QM.then_ret ?_
  refine QM.leave (.inl rfl) [.tmp 6] Try.results5 rfl ?_
  intro w' hm' hc' hg'
  exact ⟨rfl, hc'⟩
 refine wpM.skip ?_
 refine QM.then (wpM.seq (wpM.region ?_))
 refine LM.mv rfl ?_
 refine LM.callT (oc_call (enters_fn Try.func12 (by kernel_rfl) rfl) rfl) RqN.mono (fun w hm hc hg => rqnew_spec g w) ?_
 rintro u27 m27 ⟨b, rfl, h27⟩ hge27
 refine LM.as rfl ?_
 refine LM.nil (QM.sub (e' := [(0, _), (1, _), (5, _), (7, _)]) au9 (QM.then (wpM.seq (wpM.region ?_))))
 refine LM.as rfl ?_
 refine LM.nil (QM.sub (e' := [(0, _), (1, _), (5, _), (7, _), (8, _)]) au9 (QM.then ?_))
 refine wpM.seq ?_
 refine wpM.seq (wpM.region ?_)
 refine LM.mv rfl ?_
 refine LM.val (ov_len Try.underlying22 rfl) ?_
 refine LM.mv rfl ?_
 refine LM.nil (QM.sub (e' := [(0, _), (5, _), (7, _), (8, _), (28, _), (29, _), (30, _)]) au9 (QM.then ?_))
 refine wpM.block ?_
 refine wpM.loopK0 (α := Nat × Qm × Mem0 × Option Addr × Nat × Nat × Mem0) (fun ⟨k, x, m, adw, nw, capw, mw⟩ => [(8, .slice adw nw capw), (30, .int .i64 (k : Nat))]) [(0, _), (5, _), (7, _), (28, _), (29, _)] (fun ⟨k, x, m, adw, nw, capw, mw⟩ => m ++ (mw ++ ((b5, .cells #[.int .u16 p0, .int .u16 p1] 46 (0, 0)) :: []))) (fun ⟨k, x, m, adw, nw, capw, mw⟩ => k ≤ ws.length ∧ RqM w.heap.size b x m ∧ TkI wl k x ∧ VB x (k * 14293651161088) ∧ x.ran ≤ 5 * (k : Int) ∧ LagI x ∧ x.g = bringO g 1 8 ∧ nw = k ∧ Sl fI 3 1 w.heap.size (wl.take k) (.slice adw nw capw) mw) (fun ⟨k, x, m, adw, nw, capw, mw⟩ => ws.length - k) ((0, newQ g, m27, none, 0, 0, [])) ⟨au2, au2, rfl, rfl, rfl, rfl, rfl, trivial⟩ au1 ⟨Nat.zero_le _, h27, tk_new wl g, by rw [Nat.zero_mul]; exact vb_new g, Int.le_refl _, lag_new g, rfl, rfl, .nil _ _ _ _⟩ ?_
 rintro ⟨k, x, m, adw, nw, capw, mw⟩ ⟨hk, hq, htk, hvb, hrn, hlg, hgx, hnw, hsw⟩
 change wpM _ _ _ _ _ _ _ (m ++ (mw ++ ((b5, .cells #[.int .u16 p0, .int .u16 p1] 46 (0, 0)) :: []))) _ _ _
 refine wpM.seq (wpM.region ?_)
 refine LM.val (ov_lss rfl rfl) ?_
 refine LM.nil (QM.sub (e' := [(0, _), (5, _), (7, _), (8, _), (28, _), (29, _), (30, _), (31, _)]) au9 (QM.then ?_))
 refine wpM.seq ?_
 refine wpM.condD rfl (fun h4 => ?_) (fun h4 => ?_)
 ·
  have hwk := hwb k (by omega); have hwki := hwi k (by omega); have hsk : wl.take k ++ [1 + ws.getD k 0] = wl.take (k + 1) := (by rw [take_snoc 0 (by omega), hwki]); have hltk : (wl.take k).length = k := (by rw [List.length_take]; omega); have hltk1 : (wl.take (k + 1)).length = k + 1 := (by rw [List.length_take]; omega); have hgk : (wl.take (k + 1)).getD k 0 = 1 + ws.getD k 0 := (by rw [← hsk, List.getD_eq_getElem?_getD, List.getElem?_append_right (by omega), hltk]; simp)
  refine wpM.skip ?_
  refine QM.then ?_
  refine wpM.seq ?_
  refine wpM.block ?_
  refine wpM.seq (wpM.region ?_)
  refine LM.mv rfl ?_
  refine LM.val (ov_idxSN au6 Try.underlying22 Try.sizeOf5 rfl rfl (by omega)) ?_
  first | refine LM.rd (om_sl1 (by assumption) (by intro _; rfl) Try.isAgg5 rfl rfl (by exact getq 0 au4) (by rfl)) ?_ | refine LM.rdC (om_sr1 (by assumption) Try.isAgg5 rfl rfl (by exact getq 0 au4) (by rfl) id) ?_ | refine LM.rd (om_ld Try.isAgg5 rfl rfl) ?_
  refine LM.as rfl (LM.as rfl ?_)
  refine LM.nil (QM.sub (e' := [(0, _), (5, _), (7, _), (8, _), (9, _), (10, _), (28, _), (29, _), (30, _)]) au9 (QM.then (wpM.seq (wpM.region ?_))))
  refine LM.mv rfl (LM.mv rfl ?_)
  refine LM.val (ov_to64 Try.underlying5 Try.underlying3 rfl (by omega)) ?_
  refine LM.val (ov_add64 rfl rfl (by omega)) ?_
  refine LM.single Try.underlying47 Try.sizeOf3 Try.zeroValue3 rfl rfl rfl rfl rfl (fun b39 hb39 => ?_)
  refine LM.app (a := 1 + ws.getD k 0) Try.underlying47 Try.typeInfo3 rfl rfl rfl rfl rfl rfl rfl (by assumption) (by rfl) (by intro _; rfl) (by intro _ u hu; simp [fI] at hu; (repeat (first | (rcases hu with rfl | hu) | subst hu | rfl))) (by first | exact Nat.le_refl _ | omega) au10 (by first | omega | (unfold maxLen; omega)) (by simp only [Try.t3]; omega) (fun ad40 n40 cap40 m40 hn40 hs40 hin40 => ?_)
  refine LM.as rfl ?_
  refine LM.nil (QM.sub (e' := [(0, _), (5, _), (7, _), (8, _), (9, _), (28, _), (29, _), (30, _)]) au9 (QM.then ?_))
  refine wpM.seq ?_
  refine wpM.seq (wpM.region ?_)
  rw [hsk] at hs40; have hn40 : n40 = k + 1 := (by omega)
  refine LM.mv rfl (LM.mv rfl (LM.mv rfl (LM.mv rfl ?_)))
  refine LM.val (ov_idxSN au6 Try.underlying47 Try.sizeOf3 rfl rfl (by omega)) ?_
  refine LM.rd (om_sl1 (by assumption) (by intro _; rfl) Try.isAgg3 rfl rfl (by exact getq 0 au4) (by rfl)) ?_
  rw [hgk]
  refine LM.cU (oc_call (enters_fn Try.func13 (by kernel_rfl) rfl) rfl) (fun w hm hc hg => rqAdd_spec (k : Int) 0#64 (1 + ws.getD k 0) w hq hc.size (hm.pick m)) hq.wlk (fun p hp hlt => absurd hlt (Nat.not_lt_of_le (hq.ge p hp))) ?_
  rintro u48 m48 ⟨rfl, h48⟩ -; have ht48 := tk_add hq.1 htk (by omega) 0#64; rw [hwki] at ht48; have hv48 := vb_add hq.1 hvb (k : Int) 0#64 (1 + ws.getD k 0); have hl48 := lag_add hlg (k : Int) 0#64 (1 + ws.getD k 0); have hg48 := (addX_g x (k : Int) 0#64 (1 + ws.getD k 0)).trans hgx; have hr48 : (addX x (k : Int) 0#64 (1 + ws.getD k 0)).ran ≤ 5 * (k : Int) := (by rw [addX_cr]; exact hrn)
  refine LM.mv rfl ?_
  refine LM.val (ov_extract rfl rfl) ?_
  refine LM.val (ov_extract rfl rfl) ?_
  refine LM.as rfl (LM.as rfl ?_)
  refine LM.nil (QM.sub (e' := [(0, _), (5, _), (7, _), (8, _), (12, _), (28, _), (29, _), (30, _)]) au9 (QM.then (wpM.seq (wpM.region ?_))))
  refine LM.mv rfl ?_
  refine LM.val (ov_neq rfl rfl) ?_
  refine LM.nil (QM.sub (e' := [(0, _), (5, _), (7, _), (8, _), (28, _), (29, _), (30, _), (52, _)]) au9 (QM.then ?_))
  refine wpM.condD rfl (fun h5 => ?_) (fun h5 => ?_)
  ·
   exact absurd (tk_addE htk (by omega)) h5
  refine wpM.skip ?_
  refine QM.then (wpM.seq (wpM.region ?_))
  first | refine LM.val (ov_idxAN Try.underlying46 Try.sizeOf45 rfl rfl (by omega)) ?_ | refine LM.val (ov_idxA Try.underlying46 Try.sizeOf45 rfl rfl (by omega)) ?_
  first | refine LM.rd (om_ldE1 (by intro _; rfl) Try.isAgg45 rfl rfl rfl (getq 0 (by omega)) (by rfl)) ?_ | refine LM.rd (om_ld Try.isAgg45 rfl rfl) ?_
  first | refine LM.val (ov_remK rfl rfl (by omega) (by omega)) ?_ | refine LM.val (ov_remJ rfl rfl (by omega) (by omega)) ?_
  refine LM.val (ov_to64 Try.underlying45 Try.underlying3 rfl (by omega)) ?_
  refine LM.mv rfl ?_
  refine LM.nil (QM.sub (e' := [(0, _), (5, _), (7, _), (8, _), (28, _), (29, _), (30, _), (56, _), (57, _)]) au9 (QM.then ?_))
  refine wpM.block ?_
  refine wpM.loopK0 (α := Nat × Qm × Mem0) (fun ⟨j, y, my⟩ => [(57, .int .i64 (j : Nat))]) [(0, _), (5, _), (7, _), (8, _), (28, _), (29, _), (30, _), (56, _)] (fun ⟨j, y, my⟩ => my ++ (m40 ++ ((b5, .cells #[.int .u16 p0, .int .u16 p1] 46 (0, 0)) :: []))) (fun ⟨j, y, my⟩ => (j : Int) ≤ p0 % 5 ∧ RqM w.heap.size b y my ∧ TkI wl (k + 1) y ∧ VB y (k * 14293651161088 + 8796093022208 + j * 1099511627776) ∧ y.ran ≤ 5 * (k : Int) + j ∧ LagI y ∧ y.g = bringO g 1 8) (fun ⟨j, y, my⟩ => (p0 % 5).toNat - j) ((0, addX x (k : Int) 0#64 (1 + ws.getD k 0), m48)) ⟨au2, rfl, rfl, rfl, rfl, rfl, rfl, rfl, rfl, trivial⟩ au1 ⟨by omega, h48, ht48, by rw [Nat.zero_mul]; exact hv48, by omega, hl48, hg48⟩ ?_
  rintro ⟨j, y, my⟩ ⟨hj, hqy, hty, hvy, hry, hly, hgy⟩
  change wpM _ _ _ _ _ _ _ (my ++ (m40 ++ ((b5, .cells #[.int .u16 p0, .int .u16 p1] 46 (0, 0)) :: []))) _ _ _
  have hwfy := hqy.1
  refine wpM.seq (wpM.region ?_)
  refine LM.val (ov_lss rfl rfl) ?_
  refine LM.nil (QM.sub (e' := [(0, _), (5, _), (7, _), (8, _), (28, _), (29, _), (30, _), (56, _), (57, _), (58, _)]) au9 (QM.then ?_))
  refine wpM.seq ?_
  refine wpM.condD rfl (fun h6 => ?_) (fun h6 => ?_)
  ·
   refine wpM.skip ?_
   refine QM.then ?_
   refine wpM.seq ?_
   refine wpM.block ?_
   refine wpM.region ?_
   refine LM.mv rfl ?_
   refine LM.cU (oc_call (enters_fn Try.func15 (by kernel_rfl) rfl) rfl) (fun w hm hc hg => goOn_spec w hqy (by omega) hc.size (hm.pick my)) hqy.wlk (fun p hp hlt => absurd hlt (Nat.not_lt_of_le (hqy.ge p hp))) ?_
   rintro u60 m60 ⟨rfl, h60⟩ -
   refine LM.nil (QM.sub (e' := [(0, _), (5, _), (7, _), (8, _), (28, _), (29, _), (30, _), (56, _), (57, _)]) au9 ?_)
   refine QM.block_normal ?_
   refine QM.then (wpM.region ?_)
   refine LM.val (ov_add64 rfl rfl (by omega)) ?_
   refine LM.mv rfl ?_
   refine LM.nil (QM.sub (e' := [(0, _), (5, _), (7, _), (8, _), (28, _), (29, _), (30, _), (56, _), (57, _)]) au9 ?_)
   refine QM.againK (j + 1, goQ y, m60) ⟨au2, rfl, rfl, rfl, rfl, rfl, rfl, rfl, rfl, trivial⟩ au1 (fun _ h => h) ?_ ?_
   · exact ⟨by omega, h60, tk_go hwfy hty, (vb_go hwfy hvy).mono (by rw [Nat.succ_mul]; omega), by have := go_ran hwfy; omega, lag_go hly, (go_g hwfy).trans hgy⟩
   · first | omega | (dsimp only; omega)
  refine wpM.exit ?_
  refine QM.then_exit ?_
  refine QM.then_exit ?_
  refine QM.block_hit ?_
  refine QM.block_normal ?_
  refine QM.then (wpM.region ?_)
  refine LM.val (ov_add64 rfl rfl (by omega)) ?_
  refine LM.mv rfl ?_
  refine LM.nil (QM.sub (e' := [(0, _), (5, _), (7, _), (8, _), (28, _), (29, _), (30, _)]) au9 ?_)
  refine QM.againK (k + 1, y, my, ad40, n40, cap40, m40) ⟨au2, au2, rfl, rfl, rfl, rfl, rfl, trivial⟩ au1 (fun _ h => h) ?_ ?_
  · exact ⟨by omega, hqy, hty, hvy.mono (by rw [Nat.succ_mul]; omega), by omega, hly, hgy, by omega, hs40⟩
  · first | omega | (dsimp only; omega)
 have hkl : k = ws.length := (by omega); subst hkl; have hlen16 : ws.length ≤ 16 := (by omega); have hpos : 0 < ws.length := (by omega)
 refine wpM.exit ?_
 refine QM.then_exit ?_
 refine QM.then_exit ?_
 refine QM.block_hit ?_
 refine QM.then (wpM.seq (wpM.region ?_))
 refine LM.mv rfl ?_
 refine LM.val (ov_len Try.underlying47 rfl) ?_
 refine LM.makeS (f := fI) (a0 := 0) Try.underlying47 Try.typeInfo3 rfl rfl rfl rfl (by intro _; rfl) rfl rfl rfl (by omega) (by simp only [Try.t3]; omega) (by omega) (by unfold maxLen; omega) (fun ad65 n65 m65 hn65 hs65 => ?_)
 refine LM.as rfl ?_
 refine LM.nil (QM.sub (e' := [(0, _), (5, _), (7, _), (8, _), (13, _)]) au9 (QM.then ?_))
 refine wpM.seq ?_
 refine wpM.seq (wpM.region ?_)
 first | refine LM.val (ov_idxAN Try.underlying46 Try.sizeOf45 rfl rfl (by omega)) ?_ | refine LM.val (ov_idxA Try.underlying46 Try.sizeOf45 rfl rfl (by omega)) ?_
 first | refine LM.rd (om_ldE1 (by intro _; rfl) Try.isAgg45 rfl rfl rfl (getq 0 (by omega)) (by rfl)) ?_ | refine LM.rd (om_ld Try.isAgg45 rfl rfl) ?_
 first | refine LM.val (ov_remK rfl rfl (by omega) (by omega)) ?_ | refine LM.val (ov_remJ rfl rfl (by omega) (by omega)) ?_
 refine LM.val (ov_to64 Try.underlying45 Try.underlying3 rfl (by omega)) ?_
 refine LM.mv rfl ?_
 refine LM.nil (QM.sub (e' := [(0, _), (7, _), (8, _), (13, _), (69, _), (70, _)]) au9 (QM.then ?_))
 refine wpM.block ?_
 refine wpM.loopK0 (α := Nat × Qm × Mem0 × List Int × Mem0) (fun ⟨j, y, my, ts, mt⟩ => [(70, .int .i64 (j : Nat))]) [(0, _), (7, _), (8, _), (13, _), (69, _)] (fun ⟨j, y, my, ts, mt⟩ => my ++ (mw ++ (mt ++ []))) (fun ⟨j, y, my, ts, mt⟩ => (j : Int) ≤ p1 % 300 ∧ RqM w.heap.size b y my ∧ TkI wl ws.length y ∧ VB y (228698418577408 + j * 1099511627776) ∧ y.ran ≤ 100 + (j : Int) ∧ LagI y ∧ y.g = bringO g 1 8 ∧ ts.length = ws.length ∧ Sl fI 3 1 w.heap.size ts (.slice ad65 n65 n65) mt ∧ smI (gI0 ts) ws.length = j ∧ ∀ i, i < ws.length → 0 ≤ ts.getD i 0 ∧ ((gQ y.l (i : Int)).V.toNat : Int) = (gQ x.l (i : Int)).V.toNat + ts.getD i 0 * (coreO (wl.getD i 0)).toNat) (fun ⟨j, y, my, ts, mt⟩ => (p1 % 300).toNat - j) ((0, x, m, List.replicate n65 0, m65)) ⟨au2, rfl, rfl, rfl, rfl, rfl, trivial⟩ au1 ⟨by omega, hq, htk, hvb.mono (by omega), by omega, hlg, hgx, by rw [List.length_replicate]; omega, hs65, (by rw [hn65]; exact sm_zero _ _), fun i hi => by rw [rep_get]; omega⟩ ?_
 rintro ⟨j, y, my, ts, mt⟩ ⟨hj, hqy, hty, hvy, hry, hly, hgy, htl, hst, hsm, hrel⟩
 change wpM _ _ _ _ _ _ _ (my ++ (mw ++ (mt ++ []))) _ _ _
 have hwfy := hqy.1
 refine wpM.seq (wpM.region ?_)
 refine LM.val (ov_lss rfl rfl) ?_
 refine LM.nil (QM.sub (e' := [(0, _), (7, _), (8, _), (13, _), (69, _), (70, _), (71, _)]) au9 (QM.then ?_))
 refine wpM.seq ?_
 refine wpM.condD rfl (fun h7 => ?_) (fun h7 => ?_)
 ·
  refine wpM.skip ?_
  refine QM.then ?_
  refine wpM.seq ?_
  refine wpM.block ?_
  refine wpM.seq (wpM.region ?_)
  refine LM.mv rfl ?_
  refine LM.cU (oc_call (enters_fn Try.func15 (by kernel_rfl) rfl) rfl) (fun w hm hc hg => goOn_spec w hqy (by omega) hc.size (hm.pick my)) hqy.wlk (fun p hp hlt => absurd hlt (Nat.not_lt_of_le (hqy.ge p hp))) ?_
  rintro u73 m73 ⟨rfl, h73⟩ -; have hgp := go_pos hwfy (tk_ne hty hpos); have hgi := hty.id hgp.2; obtain ⟨q, hgq⟩ := Int.eq_ofNat_of_zero_le hgp.1; rw [hgq] at hgi ⊢
  refine LM.as rfl ?_
  refine LM.nil (QM.sub (e' := [(0, _), (7, _), (8, _), (13, _), (14, _), (69, _), (70, _)]) au9 (QM.then ?_))
  refine wpM.seq ?_
  refine wpM.seq (wpM.region ?_)
  refine LM.mv rfl ?_
  refine LM.val (ov_lss rfl rfl) ?_
  refine LM.mv rfl ?_
  refine LM.splitD (t := 76) rfl (fun h8 => ?_) (fun h8 => ?_)
  ·
   omega
  refine LM.sp 76 rfl rfl rfl (LM.mv rfl (LM.sp 76 rfl rfl rfl (LM.mv rfl (LM.sp 76 rfl rfl rfl ?_))))
  refine LM.val (ov_len Try.underlying47 rfl) ?_
  refine LM.sp 76 rfl rfl rfl ?_
  refine LM.val (ov_geq rfl rfl) ?_
  refine LM.val (ov_pickF rfl rfl) ?_
  refine LM.nil (QM.sub (e' := [(0, _), (7, _), (8, _), (13, _), (14, _), (69, _), (70, _), (81, _)]) au9 (QM.then ?_))
  refine wpM.condD rfl (fun h9 => ?_) (fun h9 => ?_)
  ·
   omega
  have hq0 := (hrel q (by omega)).1; have hq1 : ts.getD q 0 ≤ smI (gI0 ts) ws.length := smI_le (f := gI0 ts) (fun i hi => (hrel i hi).1) (by omega)
  refine wpM.skip ?_
  refine QM.then (wpM.region ?_)
  refine LM.mv rfl (LM.mv rfl ?_)
  refine LM.val (ov_idxSN au6 Try.underlying47 Try.sizeOf3 rfl rfl (by omega)) ?_
  refine LM.rd (om_sl1 (by assumption) (by intro _; rfl) Try.isAgg3 rfl rfl (by exact getq 0 au4) (by rfl)) ?_
  refine LM.val (ov_add64 rfl rfl (by omega)) ?_
  refine LM.val (ov_idxSN au6 Try.underlying47 Try.sizeOf3 rfl rfl (by omega)) ?_
  refine LM.stS ((ts.getD q 0 + 1)) (j := 0) (by assumption) (by intro _; rfl) Try.sizeOf3 rfl rfl rfl (by exact getq 0 au4) rfl (by decide) (by rfl) rfl au10 (fun ms1 hss1 hmm1 => ?_)
  refine LM.nil (QM.sub (e' := [(0, _), (7, _), (8, _), (13, _), (69, _), (70, _)]) au9 ?_)
  refine QM.block_normal ?_
  refine QM.then (wpM.region ?_)
  refine LM.val (ov_add64 rfl rfl (by omega)) ?_
  refine LM.mv rfl ?_
  refine LM.nil (QM.sub (e' := [(0, _), (7, _), (8, _), (13, _), (69, _), (70, _)]) au9 ?_)
  refine QM.againK (j + 1, goQ y, m73, ts.set q (ts.getD q 0 + 1), ms1) ⟨au2, rfl, rfl, rfl, rfl, rfl, trivial⟩ au1 (fun _ h => h) ?_ ?_
  · exact ⟨by omega, h73, tk_go hwfy hty, (vb_go hwfy hvy).mono (by rw [Nat.succ_mul]; omega), by have := go_ran hwfy; omega, lag_go hly, (go_g hwfy).trans hgy, by rw [List.length_set]; exact htl, hss1, by rw [sm_set (by omega), hsm, if_pos (by omega)]; omega, fun i hi => by have hri := hrel i hi; rw [getD_set (by omega), tk_payN hwfy hty hvy (by omega) hi, hgq]; by_cases e : q = i; (subst e; rw [if_pos rfl, if_pos rfl]; exact ⟨by omega, by rw [hri.2, Int.add_mul]; omega⟩); (rw [if_neg e, if_neg (by omega)]; exact ⟨hri.1, by rw [hri.2]; omega⟩)⟩
  · first | omega | (dsimp only; omega)
 have hbm := mul_bd (a := (nw : Int) - 1) (b := bringO g 1 8) (A := 15) (B := 8) ⟨by omega, by omega⟩ ⟨by omega, by omega⟩; have hsw2 : Sl fI 3 1 w.heap.size wl (.slice adw nw capw) mw := (by rw [List.take_of_length_le (by omega)] at hsw; exact hsw); have hwl : ∀ i, i < ws.length → 1 ≤ wl.getD i 0 ∧ wl.getD i 0 ≤ 256 := (fun i hi => by rw [hwi i hi]; have := hwb i hi; omega); have hsmW := sm_bd (f := gI0 wl) (C := 256) (k := ws.length) (fun i hi => ⟨by have := (hwl i hi).1; show 0 ≤ wl.getD i 0; omega, (hwl i hi).2⟩)
 refine wpM.exit ?_
 refine QM.then_exit ?_
 refine QM.then_exit ?_
 refine QM.block_hit ?_
 refine QM.then (wpM.seq (wpM.region ?_))
 refine LM.mv rfl ?_
 refine LM.callE (oc_call (enters_fn Try.func21 (by kernel_rfl) rfl) rfl) (fun w hm hc hg => rbring_spec g 1 8 w) ?_
 refine LM.as rfl ?_
 refine LM.nil (QM.sub (e' := [(8, _), (13, _), (15, _)]) au9 (QM.then (wpM.seq (wpM.region ?_))))
 refine LM.mv rfl (LM.mv rfl (LM.mv rfl ?_))
 refine LM.val (ov_len Try.underlying47 rfl) ?_
 refine LM.val (ov_sub64 rfl rfl (by omega)) ?_
 refine LM.mv rfl ?_
 refine LM.val (ov_mul64 rfl rfl (by omega)) ?_
 refine LM.val (ov_add64 rfl rfl (by omega)) ?_
 refine LM.callE (oc_call (enters_fn Try.func22 (by kernel_rfl) rfl) rfl) (fun w hm hc hg => fair_spec (ts := ts) (ws := wl) (((nw : Int) - 1) * bringO g 1 8 + 1) w (by omega) (by omega) (hst.srM (by intro _; rfl) hm) (hsw2.srM (by intro _; rfl) hm) (by omega) (by omega) (fun i hi => ⟨(hrel i (by omega)).1, by have : ts.getD i 0 ≤ smI (gI0 ts) ws.length := smI_le (f := gI0 ts) (fun i hi => (hrel i hi).1) (by omega); omega⟩) (fun i hi => by have := hwl i (by omega); omega) (by rw [htl, hsm]; omega) (by rw [htl]; omega) (by omega) (fun i hi => by rw [htl, hnw]; exact fair_end hlg hly htk hty hgx hgy hbg (fun i hi => by have := hwl i hi; omega) hrel (by omega) (by omega))) ?_
 refine LM.as rfl ?_
 refine LM.nil (QM.sub (e' := [(6, _)]) ⟨rfl, trivial⟩ (QM.then ?_))
 refine wpM.ret ?_
 refine QM.leave (.inl rfl) [.tmp 6] Try.results5 rfl ?_
 intro w' hm' hc' hg'
 exact ⟨rfl, hc'⟩
end Go.Eng
