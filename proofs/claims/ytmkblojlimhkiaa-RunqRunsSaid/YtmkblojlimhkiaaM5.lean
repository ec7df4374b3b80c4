/- The walks of the document's run queue: what is done to one. No condition. -/
import Derived.Test.YtmkblojlimhkiaaM4
set_option linter.unusedVariables false
set_option linter.unusedSimpArgs false
namespace Go.Eng
open Go Go.Proofs Go.RowKit
theorem minO_snoc {l : List Kv} (h : l ≠ []) (t : Kv) : minO (l ++ [t]) = if t.V.toNat < (minO l).toNat then t.V else minO l := by
  obtain ⟨s, r, rfl⟩ := ne_cons h
  show List.foldl _ _ (r ++ [t]) = _
  rw [List.foldl_append]; rfl
theorem take_ne {l : List Kv} {i : Nat} (h1 : 1 ≤ i) (h2 : i ≤ l.length) : l.take i ≠ [] := fun e => by
  have := congrArg List.length e; rw [List.length_take, List.length_nil] at this; omega
theorem atO_lt {l : List Kv} {a : Int} (h : atO l a < 0) : ¬ ixO l a < l.length := fun q => by rw [atO_hit q] at h; omega
theorem atO_ge {l : List Kv} {a : Int} (h : ¬ atO l a < 0) : ixO l a < l.length := by
  rcases Nat.lt_or_ge (ixO l a) l.length with q | q
  · exact q
  · rw [atO_no (by omega)] at h; omega
set_option maxRecDepth 100000 in
theorem rfAdd_spec {n0 b : Nat} {x : Qm} {m : Mem0} (a : Int) (v : BitVec 64) (wt : Int) (w : World) (h : RfM n0 b x m) (hn0 : n0 ≤ w.heap.size) (hM : Mem w m) : Ret Try.prog 24 #[.pointer (some ⟨b, 0, none⟩), .int .i64 a, U v, .int .i64 wt] w (Upd m (fun u m' => u = .tuple #[U (addV x a v wt), .int .i64 (addE x a)] ∧ RfM n0 b (addX x a v wt) m') w) := by
 obtain ⟨hq, ad, n, cap, ms, rfl, hn, hs, hb⟩ := h; have hlen := hq.len; have h0 : RfM n0 b x (rfC b x.g x.fl ad n cap x.cur x.ran :: ms) := ⟨hq, ad, n, cap, ms, rfl, hn, hs, hb⟩; have hbr := bring_in (n := wt) (lo := 1) (hi := 4096) (by decide)
 refine Ret.enterM (l := [.pointer (some ⟨b, 0, none⟩), .int .i64 a, U v, .int .i64 wt]) Try.func24 rfl Try.ntmps24 rfl (rfC b x.g x.fl ad n cap x.cur x.ran :: (ms ++ [])) ((inM (rfC b x.g x.fl ad n cap x.cur x.ran :: ms))) (by rw [List.append_nil]; exact hM) ?_
 refine wpM.seq (wpM.region ?_)
 refine LM.as rfl (LM.as rfl ?_)
 refine LM.nil (QM.sub (e' := [(0, _), (1, _), (2, _), (3, _)]) au9 (QM.then ?_))
 refine wpM.seq ?_
 refine wpM.seq (wpM.region ?_)
 refine LM.mv rfl ?_
 refine LM.val (ov_lss rfl rfl) ?_
 refine LM.nil (QM.sub (e' := [(0, _), (1, _), (2, _), (3, _), (11, _)]) au9 (QM.then ?_))
 refine wpM.condD rfl (fun h1 => ?_) (fun h1 => ?_)
 ·
  refine wpM.seq (wpM.region ?_)
  refine LM.as rfl (LM.as rfl ?_)
  refine LM.nil (QM.sub (e' := [(8, _), (9, _)]) au9 (QM.then ?_))
  refine wpM.ret ?_
  refine QM.then_ret ?_
  refine QM.leave (.inl rfl) [.tmp 8, .tmp 9] Try.results24 rfl ?_
  intro w' hm' hc' hg'
  have hE := addE_neg (x := x) h1; rw [addV_no (by rw [hE]; decide), addX_no (by rw [hE]; decide), hE]; exact rfm_leaf (x' := x) hq hn hs hb hm' au1 hc' (inn_refl _ _)
 refine wpM.skip ?_
 refine QM.then ?_
 refine wpM.seq ?_
 refine wpM.seq (wpM.region ?_)
 refine LM.mv rfl (LM.mv rfl ?_)
 refine LM.callE (oc_call (enters_fn Try.func71 (by kernel_rfl) rfl) rfl) (fun w hm hc hg => rfAt_spec a w h0 (hm.pick (rfC b x.g x.fl ad n cap x.cur x.ran :: ms))) ?_
 refine LM.val (ov_geq rfl rfl) ?_
 refine LM.nil (QM.sub (e' := [(0, _), (1, _), (2, _), (3, _), (15, _)]) au9 (QM.then ?_))
 refine wpM.condD rfl (fun h2 => ?_) (fun h2 => ?_)
 ·
  refine wpM.seq (wpM.region ?_)
  refine LM.as rfl (LM.as rfl ?_)
  refine LM.nil (QM.sub (e' := [(8, _), (9, _)]) au9 (QM.then ?_))
  refine wpM.ret ?_
  refine QM.then_ret ?_
  refine QM.leave (.inl rfl) [.tmp 8, .tmp 9] Try.results24 rfl ?_
  intro w' hm' hc' hg'
  have hE := addE_met (x := x) h1 (atO_ge (by omega)); rw [addV_no (by rw [hE]; decide), addX_no (by rw [hE]; decide), hE]; exact rfm_leaf (x' := x) hq hn hs hb hm' au1 hc' (inn_refl _ _)
 refine wpM.skip ?_
 refine QM.then ?_
 refine wpM.seq ?_
 refine wpM.seq (wpM.region ?_)
 refine LM.mv rfl ?_
 refine LM.val (ov_nilCheck rfl) ?_
 refine LM.val (ov_field Try.underlying110 rfl Try.sizeOf108 rfl (k := 2) rfl rfl) ?_
 refine LM.rd (om_ld Try.isAgg108 rfl rfl) ?_
 refine LM.val (ov_len Try.underlying108 rfl) ?_
 refine LM.val (ov_geq rfl rfl) ?_
 refine LM.nil (QM.sub (e' := [(0, _), (1, _), (2, _), (3, _), (21, _)]) au9 (QM.then ?_))
 refine wpM.condD rfl (fun h3 => ?_) (fun h3 => ?_)
 ·
  refine wpM.seq (wpM.region ?_)
  refine LM.as rfl (LM.as rfl ?_)
  refine LM.nil (QM.sub (e' := [(8, _), (9, _)]) au9 (QM.then ?_))
  refine wpM.ret ?_
  refine QM.then_ret ?_
  refine QM.leave (.inl rfl) [.tmp 8, .tmp 9] Try.results24 rfl ?_
  intro w' hm' hc' hg'
  have hE := addE_full (x := x) h1 (atO_lt (by omega)) (by omega); rw [addV_no (by rw [hE]; decide), addX_no (by rw [hE]; decide), hE]; exact rfm_leaf (x' := x) hq hn hs hb hm' au1 hc' (inn_refl _ _)
 refine wpM.skip ?_
 refine QM.then (wpM.seq (wpM.region ?_))
 refine LM.mv rfl ?_
 refine LM.callE (oc_call (enters_fn Try.func21 (by kernel_rfl) rfl) rfl) (fun w hm hc hg => rbring_spec _ 1 4096 w) ?_
 refine LM.as rfl ?_
 refine LM.nil (QM.sub (e' := [(0, _), (1, _), (2, _), (3, _)]) au9 (QM.then (wpM.seq (wpM.region ?_))))
 refine LM.mv rfl (LM.mv rfl (LM.mv rfl ?_))
 refine LM.callE (oc_call (enters_fn Try.func72 (by kernel_rfl) rfl) rfl) (fun w hm hc hg => rfplace_spec v (bringO wt 1 4096) w (hm.pick (rfC b x.g x.fl ad n cap x.cur x.ran :: []))) ?_
 refine LM.as rfl ?_
 refine LM.nil (QM.sub (e' := [(0, _), (1, _), (2, _), (3, _)]) au9 (QM.then (wpM.seq (wpM.region ?_))))
 refine LM.mv rfl (LM.mv rfl ?_)
 refine LM.val (ov_nilCheck rfl) ?_
 refine LM.val (ov_field Try.underlying110 rfl Try.sizeOf108 rfl (k := 2) rfl rfl) ?_
 refine LM.rd (om_ld Try.isAgg108 rfl rfl) ?_
 refine LM.mv rfl (LM.mv rfl (LM.mv rfl ?_))
 refine LM.val (ov_build (cs := #[.int .i64 a, U (plcO x v (bringO wt 1 4096)), .int .i64 (bringO wt 1 4096)]) rfl (by first | rfl | kernel_rfl)) ?_
 refine LM.single Try.underlying108 Try.sizeOf112 Try.zeroValue112 rfl rfl rfl rfl rfl (fun b37 hb37 => ?_)
 refine LM.app (a := (⟨plcO x v (bringO wt 1 4096), a, bringO wt 1 4096⟩ : Kv)) Try.underlying108 Try.typeInfo112 rfl rfl rfl rfl rfl rfl rfl (by assumption) (by rfl) (by intro _; rfl) (by intro _ u hu; simp [fTk] at hu; (repeat (first | (rcases hu with rfl | hu) | subst hu | rfl))) (by first | exact Nat.le_refl _ | omega) (fun p hp hlt => by first | exact ⟨p, List.mem_cons_of_mem _ hp, rfl⟩ | exact absurd hlt (Nat.not_lt_of_le (Sl.ge (by assumption) p hp))) (by first | omega | (unfold maxLen; omega)) (by simp only [Try.t112]; omega) (fun ad38 n38 cap38 m38 hn38 hs38 hin38 => ?_)
 refine LM.val (ov_nilCheck rfl) ?_
 refine LM.val (ov_field Try.underlying110 rfl Try.sizeOf108 rfl (k := 2) rfl rfl) ?_
 refine LM.st Try.sizeOf108 rfl rfl rfl au5 rfl (fun hlt => by first | exact inM_0 | exact absurd hlt (by omega)) ?_
 refine LM.mem (SubM.mem (M' := rfC b x.g x.fl ad38 n38 cap38 x.cur x.ran :: (m38 ++ [])) au1) ?_
 refine LM.nil (QM.sub (e' := [(2, _)]) ⟨rfl, trivial⟩ (QM.then (wpM.seq (wpM.region ?_))))
 refine LM.mv rfl (LM.as rfl (LM.as rfl ?_))
 refine LM.nil (QM.sub (e' := [(8, _), (9, _)]) au9 (QM.then ?_))
 refine wpM.ret ?_
 refine QM.leave (.inl rfl) [.tmp 8, .tmp 9] Try.results24 rfl ?_
 intro w' hm' hc' hg'
 have hE := addE_ok (x := x) h1 (atO_lt (by omega)) (by omega); have hwf := add_wf (v := v) (w := wt) hq hE; rw [show addV x a v wt = plcO x v (bringO wt 1 4096) from if_pos hE, show addX x a v wt = addQ x a v wt from if_pos hE, hE]; exact rfm_leaf (x' := addQ x a v wt) hwf (by show n38 = (x.l ++ [_]).length; rw [List.length_append]; exact hn38) hs38 hb hm' au1 hc' hin38
set_option maxRecDepth 100000 in
theorem rfRem_spec {n0 b : Nat} {x : Qm} {m : Mem0} (a : Int) (w : World) (h : RfM n0 b x m) (hn0 : n0 ≤ w.heap.size) (hM : Mem w m) : Ret Try.prog 25 #[.pointer (some ⟨b, 0, none⟩), .int .i64 a] w (Upd m (fun u m' => u = .tuple #[U (gQ x.l a).V, .bool (decide (ixO x.l a < x.l.length))] ∧ RfM n0 b (remX x a) m') w) := by
 obtain ⟨hq, ad, n, cap, ms, rfl, hn, hs, hb⟩ := h; have hlen := hq.len; have h0 : RfM n0 b x (rfC b x.g x.fl ad n cap x.cur x.ran :: ms) := ⟨hq, ad, n, cap, ms, rfl, hn, hs, hb⟩
 refine Ret.enterM (l := [.pointer (some ⟨b, 0, none⟩), .int .i64 a]) Try.func25 rfl Try.ntmps25 rfl (rfC b x.g x.fl ad n cap x.cur x.ran :: (ms ++ [])) ((inM (rfC b x.g x.fl ad n cap x.cur x.ran :: ms))) (by rw [List.append_nil]; exact hM) ?_
 refine wpM.seq (wpM.region ?_)
 refine LM.as rfl (LM.as rfl ?_)
 refine LM.nil (QM.sub (e' := [(0, _), (1, _)]) au9 (QM.then (wpM.seq (wpM.region ?_))))
 refine LM.mv rfl (LM.mv rfl ?_)
 refine LM.callE (oc_call (enters_fn Try.func71 (by kernel_rfl) rfl) rfl) (fun w hm hc hg => rfAt_spec a w h0 (hm.pick (rfC b x.g x.fl ad n cap x.cur x.ran :: ms))) ?_
 refine LM.as rfl ?_
 refine LM.nil (QM.sub (e' := [(0, _), (1, _), (6, _)]) au9 (QM.then ?_))
 refine wpM.seq ?_
 refine wpM.seq (wpM.region ?_)
 refine LM.mv rfl ?_
 refine LM.val (ov_lss rfl rfl) ?_
 refine LM.nil (QM.sub (e' := [(0, _), (1, _), (6, _), (12, _)]) au9 (QM.then ?_))
 refine wpM.condD rfl (fun h1 => ?_) (fun h1 => ?_)
 ·
  refine wpM.seq (wpM.region ?_)
  refine LM.as rfl (LM.as rfl ?_)
  refine LM.nil (QM.sub (e' := [(4, _), (5, _)]) au9 (QM.then ?_))
  refine wpM.ret ?_
  refine QM.then_ret ?_
  refine QM.leave (.inl rfl) [.tmp 4, .tmp 5] Try.results25 rfl ?_
  intro w' hm' hc' hg'
  have hix := atO_lt h1; rw [show remX x a = x from if_neg hix, show (gQ x.l a).V = 0#64 by rw [gQ_none hix]; rfl, decide_eq_false hix]; exact rfm_leaf (x' := x) hq hn hs hb hm' au1 hc' (inn_refl _ _)
 have hix := atO_ge h1; rw [atO_hit hix]; have hwf := rem_wf hq hix; have hcl := hs.len
 refine wpM.skip ?_
 refine QM.then (wpM.seq (wpM.region ?_))
 refine LM.mv rfl ?_
 refine LM.val (ov_nilCheck rfl) ?_
 refine LM.val (ov_field Try.underlying110 rfl Try.sizeOf108 rfl (k := 2) rfl rfl) ?_
 refine LM.rd (om_ld Try.isAgg108 rfl rfl) ?_
 refine LM.mv rfl ?_
 refine LM.val (ov_idxSN au6 Try.underlying108 Try.sizeOf112 rfl rfl (by omega)) ?_
 refine LM.val (ov_field Try.underlying112 rfl Try.sizeOf26 rfl (k := 1) rfl rfl) ?_
 refine LM.rd (om_slE (j := 1) (by assumption) (by intro _; rfl) Try.isAgg26 rfl rfl au3 rfl (by rfl)) ?_
 refine LM.as rfl ?_
 refine LM.nil (QM.sub (e' := [(0, _), (1, _), (6, _), (7, _)]) au9 (QM.then ?_))
 refine wpM.seq ?_
 refine wpM.keep (rfC b x.g x.fl ad n cap x.cur x.ran :: []) (fun _ => True) (.one 0 0 (.one 2 0 (.one 3 0 (.one 4 0 (.one 5 1 (.one 6 0 (.one 7 0 (.one 9 0 (.one 10 0 (.one 11 0 (.one 12 1 (.one 13 0 (.one 14 0 (.one 15 0 (.one 1 2 (.one 8 2 (.one 16 2 (.one 17 0 (.one 18 0 (.last 19)))))))))))))))))))) (by kernel_rfl) (by kernel_rfl) au1 (fun _ _ => trivial) ?_
 refine KD.val rfl rfl (ov_move rfl) ?_
 refine KD.val rfl rfl (ov_move rfl) ?_
 refine KD.val rfl rfl (ov_nilCheck rfl) ?_
 refine KD.val rfl rfl (ov_field Try.underlying110 rfl Try.sizeOf108 rfl (k := 2) rfl rfl) ?_
 refine KD.rd rfl rfl (om_ld Try.isAgg108 rfl rfl) ?_
 refine KD.val rfl rfl (ov_move rfl) ?_
 refine KD.val rfl rfl (ov_subHi Try.underlying108 Try.sizeOf112 rfl rfl (by omega) (by omega)) ?_
 refine KD.val rfl rfl (ov_move rfl) ?_
 refine KD.val rfl rfl (ov_nilCheck rfl) ?_
 refine KD.val rfl rfl (ov_field Try.underlying110 rfl Try.sizeOf108 rfl (k := 2) rfl rfl) ?_
 refine KD.rd rfl rfl (om_ld Try.isAgg108 rfl rfl) ?_
 refine KD.val rfl rfl (ov_move rfl) ?_
 refine KD.val rfl rfl (ov_add64 rfl rfl (by omega)) ?_
 refine KD.val rfl rfl (ov_subLo (ixO x.l a + 1) Try.underlying108 Try.sizeOf112 rfl rfl rfl (by omega)) ?_
 refine KD.one rfl ?_
 refine LM.row0 Try.underlying108 Try.sizeOf112 rfl (fun b22 hb22 => ?_); have hs22 : Sl fTk 112 3 w.heap.size ([] : List Kv) (.slice (some ⟨b22, 0, none⟩) 0 0) [(b22, .cells (([] : List Value).toArray) 112 (0, 0))] := .void hb22 (Nat.zero_le _) rfl
 refine LM.nil ?_
 refine QM.one au1 (fun _ _ => trivial) ?_
 refine KD.one rfl ?_
 refine LM.appN (ys := x.l.take (ixO x.l a)) (m := [(b22, .cells (([] : List Value).toArray) 112 (0, 0))]) Try.underlying108 Try.typeInfo112 rfl rfl rfl rfl rfl rfl rfl hs22 (fun w hm hc hg => (by have hz := (hs.srM (by intro _; rfl) hm).take (k := ixO x.l a) (by omega); exact hz)) (by intro _; rfl) (by intro _ u hu; simp [fTk] at hu; (repeat (first | (rcases hu with rfl | hu) | subst hu | rfl))) (Nat.le_refl _) (fun p hp hlt => absurd hlt (Nat.not_lt_of_le (Sl.ge hs22 p hp))) (by unfold maxLen; simp only [List.length_nil, List.length_take, List.length_drop, List.length_append, List.length_cons]; omega) (by simp only [Try.t112, List.length_nil, List.length_take, List.length_drop, List.length_append, List.length_cons]; omega) (fun ad29 n29 cap29 m29 hn29 hs29 hin29 => ?_)
 refine LM.nil ?_
 refine QM.one au1 (fun _ _ => trivial) ?_
 refine KD.one rfl ?_
 refine LM.appN (ys := x.l.drop (ixO x.l a + 1)) (m := m29) Try.underlying108 Try.typeInfo112 rfl rfl rfl rfl rfl rfl rfl hs29 (fun w hm hc hg => ((hs.srM (by intro _; rfl) hm).drop (l := ixO x.l a + 1) (by omega))) (by intro _; rfl) (by intro _ u hu; simp [fTk] at hu; (repeat (first | (rcases hu with rfl | hu) | subst hu | rfl))) (Nat.le_refl _) (fun p hp hlt => absurd hlt (Nat.not_lt_of_le (Sl.ge hs29 p hp))) (by unfold maxLen; simp only [List.length_nil, List.length_take, List.length_drop, List.length_append, List.length_cons]; omega) (by simp only [Try.t112, List.length_nil, List.length_take, List.length_drop, List.length_append, List.length_cons]; omega) (fun ad37 n37 cap37 m37 hn37 hs37 hin37 => ?_)
 refine LM.nil ?_
 refine QM.one au1 (fun _ _ => trivial) ?_
 refine KD.val rfl rfl (ov_nilCheck rfl) ?_
 refine KD.val rfl rfl (ov_field Try.underlying110 rfl Try.sizeOf108 rfl (k := 2) rfl rfl) ?_
 refine KD.last rfl ?_
 refine LM.st Try.sizeOf108 rfl rfl rfl au5 rfl (fun hlt => by first | exact inM_0 | exact absurd hlt (by omega)) ?_
 refine LM.mem (SubM.mem (M' := rfC b x.g x.fl ad37 n37 cap37 x.cur x.ran :: (m37 ++ [])) au1) ?_
 refine LM.nil ?_
 refine QM.qn ?_
 refine QM.sub (e' := [(0, _), (1, _), (7, _)]) au9 (QM.then ?_)
 refine wpM.seq ?_
 refine wpM.seq (wpM.region ?_)
 refine LM.mv rfl ?_
 refine LM.val (ov_nilCheck rfl) ?_
 refine LM.val (ov_field Try.underlying110 rfl Try.sizeOf3 rfl (k := 3) rfl rfl) ?_
 refine LM.rd (om_ld Try.isAgg3 rfl rfl) ?_
 refine LM.mv rfl ?_
 refine LM.val (ov_eql rfl rfl) ?_
 refine LM.nil (QM.sub (e' := [(0, _), (7, _), (45, _)]) au9 (QM.then ?_))
 refine wpM.condD rfl (fun h2 => ?_) (fun h2 => ?_)
 ·
  refine wpM.seq (wpM.region ?_)
  refine LM.mv rfl ?_
  refine LM.val (ov_nilCheck rfl) ?_
  refine LM.val (ov_field Try.underlying110 rfl Try.sizeOf3 rfl (k := 3) rfl rfl) ?_
  refine LM.st Try.sizeOf3 rfl rfl rfl au5 rfl (fun hlt => by first | exact inM_0 | exact absurd hlt (by omega)) ?_
  refine LM.nil (QM.sub (e' := [(0, _), (7, _)]) au9 (QM.then (wpM.region ?_)))
  refine LM.mv rfl ?_
  refine LM.val (ov_nilCheck rfl) ?_
  refine LM.val (ov_field Try.underlying110 rfl Try.sizeOf3 rfl (k := 4) rfl rfl) ?_
  refine LM.st Try.sizeOf3 rfl rfl rfl au5 rfl (fun hlt => by first | exact inM_0 | exact absurd hlt (by omega)) ?_
  refine LM.mem (SubM.mem (M' := rfC b x.g x.fl ad37 n37 cap37 (-1) 0 :: (m37 ++ [])) au1) ?_
  refine LM.nil (QM.sub (e' := [(7, _)]) ⟨rfl, trivial⟩ (QM.then (wpM.seq (wpM.region ?_))))
  refine LM.mv rfl (LM.as rfl (LM.as rfl ?_))
  refine LM.nil (QM.sub (e' := [(4, _), (5, _)]) au9 (QM.then ?_))
  refine wpM.ret ?_
  refine QM.leave (.inl rfl) [.tmp 4, .tmp 5] Try.results25 rfl ?_
  intro w' hm' hc' hg'
  rw [show remX x a = remQ x a from if_pos hix, decide_eq_true hix]; rw [show remQ x a = { x with l := x.l.eraseIdx (ixO x.l a), cur := -1, ran := 0 } from if_pos h2] at hwf ⊢; rw [List.nil_append, ← List.eraseIdx_eq_take_drop_succ] at hs37; exact rfm_leaf (x' := { x with l := x.l.eraseIdx (ixO x.l a), cur := -1, ran := 0 }) hwf (hs37.len).1 (hs37.mono hn0) hb hm' au1 hc' (fun p hp => .inl (hs37.ge p hp))
 refine wpM.skip ?_
 refine QM.then (wpM.seq (wpM.region ?_))
 refine LM.mv rfl (LM.as rfl (LM.as rfl ?_))
 refine LM.nil (QM.sub (e' := [(4, _), (5, _)]) au9 (QM.then ?_))
 refine wpM.ret ?_
 refine QM.leave (.inl rfl) [.tmp 4, .tmp 5] Try.results25 rfl ?_
 intro w' hm' hc' hg'
 rw [show remX x a = remQ x a from if_pos hix, decide_eq_true hix]; rw [show remQ x a = { x with l := x.l.eraseIdx (ixO x.l a) } from if_neg h2] at hwf ⊢; rw [List.nil_append, ← List.eraseIdx_eq_take_drop_succ] at hs37; exact rfm_leaf (x' := { x with l := x.l.eraseIdx (ixO x.l a) }) hwf (hs37.len).1 (hs37.mono hn0) hb hm' au1 hc' (fun p hp => .inl (hs37.ge p hp))
set_option maxRecDepth 100000 in
theorem rfPick_spec {n0 b : Nat} {x : Qm} {m : Mem0} (w : World) (h : RfM n0 b x m) (hM : Mem w m) : Ret Try.prog 27 #[.pointer (some ⟨b, 0, none⟩)] w (Upd m (fun u m' => u = .int .i64 (pickO x) ∧ RfM n0 b (pikQ x) m') w) := by
 obtain ⟨hq, ad, n, cap, ms, rfl, hn, hs, hb⟩ := h; have hlen := hq.len; have h0 : RfM n0 b x (rfC b x.g x.fl ad n cap x.cur x.ran :: ms) := ⟨hq, ad, n, cap, ms, rfl, hn, hs, hb⟩
 refine Ret.enterM (l := [.pointer (some ⟨b, 0, none⟩)]) Try.func27 rfl Try.ntmps27 rfl (rfC b x.g x.fl ad n cap x.cur x.ran :: (ms ++ [])) ((inM (rfC b x.g x.fl ad n cap x.cur x.ran :: ms))) (by rw [List.append_nil]; exact hM) ?_
 refine wpM.seq (wpM.region ?_)
 refine LM.as rfl ?_
 refine LM.nil (QM.sub (e' := [(0, _)]) ⟨rfl, trivial⟩ (QM.then (wpM.seq (wpM.region ?_))))
 refine LM.mv rfl ?_
 refine LM.cS (oc_call (enters_fn Try.func74 (by kernel_rfl) rfl) rfl) (fun w hm hc hg => rfReady_spec w h0 (hm.pick (rfC b x.g x.fl ad n cap x.cur x.ran :: ms))) (fun ad5 n5 cap5 m5 hn5 hs5 => ?_)
 refine LM.as rfl ?_
 refine LM.nil (QM.sub (e' := [(0, _), (3, _)]) au9 (QM.then ?_))
 refine wpM.seq ?_
 refine wpM.seq (wpM.region ?_)
 refine LM.mv rfl ?_
 refine LM.val (ov_nilCheck rfl) ?_
 refine LM.val (ov_field Try.underlying110 rfl Try.sizeOf3 rfl (k := 3) rfl rfl) ?_
 refine LM.rd (om_ld Try.isAgg3 rfl rfl) ?_
 refine LM.val (ov_geq rfl rfl) ?_
 refine LM.mv rfl ?_
 refine LM.splitD (t := 11) rfl (fun h1 => ?_) (fun h1 => ?_)
 ·
  refine LM.dr 11 rfl rfl rfl (LM.dr 11 rfl rfl rfl (LM.dr 11 rfl rfl rfl ?_))
  refine LM.val (ov_pickT rfl rfl) ?_
  refine LM.nil (QM.sub (e' := [(0, _), (3, _), (15, _)]) au9 (QM.then ?_))
  refine wpM.condT rfl ?_
  refine wpM.seq (wpM.region ?_)
  refine LM.as rfl ?_
  refine LM.nil (QM.sub (e' := [(2, _)]) ⟨rfl, trivial⟩ (QM.then ?_))
  refine wpM.ret ?_
  refine QM.then_ret ?_
  refine QM.leave (.inl rfl) [.tmp 2] Try.results27 rfl ?_
  intro w' hm' hc' hg'
  obtain ⟨hp1, hp2⟩ := pik_none (x := x) (.inl h1); rw [hp1, hp2]; exact rfm_leaf (x' := x) hq hn hs hb hm' au1 hc' (inn_refl _ _)
 refine LM.sp 11 rfl rfl rfl (LM.mv rfl (LM.sp 11 rfl rfl rfl ?_))
 refine LM.val (ov_len Try.underlying108 rfl) ?_
 refine LM.sp 11 rfl rfl rfl ?_
 refine LM.val (ov_eql rfl rfl) ?_
 refine LM.val (ov_pickF rfl rfl) ?_
 refine LM.nil (QM.sub (e' := [(0, _), (3, _), (15, _)]) au9 (QM.then ?_))
 refine wpM.condD rfl (fun h2 => ?_) (fun h2 => ?_)
 ·
  refine wpM.seq (wpM.region ?_)
  refine LM.as rfl ?_
  refine LM.nil (QM.sub (e' := [(2, _)]) ⟨rfl, trivial⟩ (QM.then ?_))
  refine wpM.ret ?_
  refine QM.then_ret ?_
  refine QM.leave (.inl rfl) [.tmp 2] Try.results27 rfl ?_
  intro w' hm' hc' hg'
  obtain ⟨hp1, hp2⟩ := pik_none (x := x) (.inr (List.eq_nil_of_length_eq_zero (by omega))); rw [hp1, hp2]; exact rfm_leaf (x' := x) hq hn hs hb hm' au1 hc' (inn_refl _ _)
 obtain ⟨t, l, e⟩ := ne_cons (l := rdyO x) (fun q => h2 (by rw [hn5, q]; rfl)); have hcm := hq.cur0 h1; obtain ⟨hp1, hp2⟩ := pickO_hit hq hcm e; have htm := rdy_hd_mem hq e; have hwf := pick_wf hq htm.1; have hge : (rdyO x).getD 0 default = t := (by rw [e]; rfl); have hl1 : (rdyO x).length = l.length + 1 := (by rw [e]; rfl)
 refine wpM.skip ?_
 refine QM.then (wpM.seq (wpM.region ?_))
 refine LM.mv rfl (LM.mv rfl ?_)
 refine LM.val (ov_idxSN (i := 0) au6 Try.underlying108 Try.sizeOf112 rfl rfl (by omega)) ?_
 refine LM.val (ov_field Try.underlying112 rfl Try.sizeOf3 rfl (k := 0) rfl rfl) ?_
 refine LM.rd (om_slE (i := 0) (j := 0) (by assumption) (by intro _; rfl) Try.isAgg3 rfl rfl au3 rfl (by rfl)) ?_
 refine LM.val (ov_nilCheck rfl) ?_
 refine LM.val (ov_field Try.underlying110 rfl Try.sizeOf3 rfl (k := 3) rfl rfl) ?_
 refine LM.st Try.sizeOf3 rfl rfl rfl au5 rfl (fun hlt => by first | exact inM_0 | exact absurd hlt (by omega)) ?_
 refine LM.mem (SubM.mem (M' := rfC b x.g x.fl ad n cap ((rdyO x).getD 0 default).id x.ran :: (ms ++ [])) au1) ?_
 refine LM.nil (QM.sub (e' := [(0, _)]) ⟨rfl, trivial⟩ (QM.then (wpM.seq (wpM.region ?_))))
 refine LM.mv rfl ?_
 refine LM.val (ov_nilCheck rfl) ?_
 refine LM.val (ov_field Try.underlying110 rfl Try.sizeOf3 rfl (k := 4) rfl rfl) ?_
 refine LM.st Try.sizeOf3 rfl rfl rfl au5 rfl (fun hlt => by first | exact inM_0 | exact absurd hlt (by omega)) ?_
 refine LM.mem (SubM.mem (M' := rfC b x.g x.fl ad n cap ((rdyO x).getD 0 default).id 0 :: (ms ++ [])) au1) ?_
 refine LM.nil (QM.sub (e' := [(0, _)]) ⟨rfl, trivial⟩ (QM.then (wpM.seq (wpM.region ?_))))
 refine LM.mv rfl ?_
 refine LM.val (ov_nilCheck rfl) ?_
 refine LM.val (ov_field Try.underlying110 rfl Try.sizeOf3 rfl (k := 3) rfl rfl) ?_
 refine LM.rd (om_ld Try.isAgg3 rfl rfl) ?_
 refine LM.as rfl ?_
 refine LM.nil (QM.sub (e' := [(2, _)]) ⟨rfl, trivial⟩ (QM.then ?_))
 refine wpM.ret ?_
 refine QM.leave (.inl rfl) [.tmp 2] Try.results27 rfl ?_
 intro w' hm' hc' hg'
 rw [hge] at hm' ⊢; rw [hp1, hp2]; exact rfm_leaf (x' := pickQ x t.id) hwf hn hs hb hm' au1 hc' (inn_refl _ _)
set_option maxRecDepth 100000 in
theorem rfDue_spec {n0 b : Nat} {x : Qm} {m : Mem0} (w : World) (h : RfM n0 b x m) (hM : Mem w m) : Ret Try.prog 79 #[.pointer (some ⟨b, 0, none⟩)] w (fun u w' => u = .bool (dueO x) ∧ Ext w w') := by
 obtain ⟨hq, ad, n, cap, ms, rfl, hn, hs, hb⟩ := h; have hlen := hq.len; have h0 : RfM n0 b x (rfC b x.g x.fl ad n cap x.cur x.ran :: ms) := ⟨hq, ad, n, cap, ms, rfl, hn, hs, hb⟩
 refine Ret.enterM (l := [.pointer (some ⟨b, 0, none⟩)]) Try.func79 rfl Try.ntmps79 rfl (rfC b x.g x.fl ad n cap x.cur x.ran :: (ms ++ [])) (no) (by rw [List.append_nil]; exact hM) ?_
 refine wpM.seq (wpM.region ?_)
 refine LM.as rfl ?_
 refine LM.nil (QM.sub (e' := [(0, _)]) ⟨rfl, trivial⟩ (QM.then (wpM.seq (wpM.region ?_))))
 refine LM.mv rfl ?_
 refine LM.cS (oc_call (enters_fn Try.func74 (by kernel_rfl) rfl) rfl) (fun w hm hc hg => rfReady_spec w h0 (hm.pick (rfC b x.g x.fl ad n cap x.cur x.ran :: ms))) (fun ad5 n5 cap5 m5 hn5 hs5 => ?_)
 refine LM.as rfl ?_
 refine LM.nil (QM.sub (e' := [(0, _), (3, _)]) au9 (QM.then ?_))
 refine wpM.seq ?_
 refine wpM.draw [(0, 0), (1, 0), (2, 0), (3, 1), (4, 0), (5, 0), (6, 0), (7, 0), (8, 0), (9, 1), (10, 0), (11, 0), (12, 0), (13, 1), (14, 0), (15, 0), (16, 0), (17, 0), (18, 0), (19, 0), (20, 0), (21, 0), (22, 0), (23, 0), (24, 0), (25, 1), (26, 0), (27, 0), (28, 0), (29, 1), (30, 0), (31, 0), (32, 0), (33, 0), (34, 1), (35, 2), (36, 0), (37, 0), (38, 1), (39, 0), (40, 0), (41, 0)] (by kernel_rfl) (by kernel_rfl) ?_
 refine LD.val rfl rfl (ov_move rfl) ?_
 refine LD.val rfl rfl (ov_nilCheck rfl) ?_
 refine LD.val rfl rfl (ov_field Try.underlying110 rfl Try.sizeOf3 rfl (k := 3) rfl rfl) ?_
 refine LD.rd rfl rfl (om_ld Try.isAgg3 rfl rfl) ?_
 refine LD.val rfl rfl (ov_geq rfl rfl) ?_
 refine LD.val rfl rfl (ov_move rfl) ?_
 refine LD.splitD (t := 11) rfl (fun h1 => ?_) (fun h1 => ?_)
 ·
  have hix := hq.ix h1
  refine LD.val rfl ⟨11, _, rfl, rfl, rfl⟩ (ov_move rfl) ?_
  refine LD.val rfl ⟨11, _, rfl, rfl, rfl⟩ (ov_nilCheck rfl) ?_
  refine LD.val rfl ⟨11, _, rfl, rfl, rfl⟩ (ov_field Try.underlying110 rfl Try.sizeOf3 rfl (k := 4) rfl rfl) ?_
  refine LD.rd rfl ⟨11, _, rfl, rfl, rfl⟩ (om_ld Try.isAgg3 rfl rfl) ?_
  refine LD.val rfl ⟨11, _, rfl, rfl, rfl⟩ (ov_move rfl) ?_
  refine LD.val rfl ⟨11, _, rfl, rfl, rfl⟩ (ov_nilCheck rfl) ?_
  refine LD.val rfl ⟨11, _, rfl, rfl, rfl⟩ (ov_field Try.underlying110 rfl Try.sizeOf3 rfl (k := 0) rfl rfl) ?_
  refine LD.rd rfl ⟨11, _, rfl, rfl, rfl⟩ (om_ld Try.isAgg3 rfl rfl) ?_
  refine LD.val rfl ⟨11, _, rfl, rfl, rfl⟩ (ov_geq rfl rfl) ?_
  refine LD.val rfl rfl (ov_pickT rfl rfl) ?_
  refine LD.val rfl rfl (ov_move rfl) ?_
  refine LD.splitD (t := 22) rfl (fun h2 => ?_) (fun h2 => ?_)
  ·
   refine LD.val rfl ⟨22, _, rfl, rfl, rfl⟩ (ov_move rfl) ?_
   refine LD.val rfl ⟨22, _, rfl, rfl, rfl⟩ (ov_len Try.underlying108 rfl) ?_
   refine LD.val rfl ⟨22, _, rfl, rfl, rfl⟩ (ov_gtr rfl rfl) ?_
   refine LD.val rfl rfl (ov_pickT rfl rfl) ?_
   refine LD.val rfl rfl (ov_move rfl) ?_
   refine LD.splitD (t := 27) rfl (fun h3 => ?_) (fun h3 => ?_)
   ·
    refine LD.val rfl ⟨27, _, rfl, rfl, rfl⟩ (ov_move rfl) ?_
    refine LD.val rfl ⟨27, _, rfl, rfl, rfl⟩ (ov_idxSN (i := 0) au6 Try.underlying108 Try.sizeOf112 rfl rfl (by omega)) ?_
    refine LD.val rfl ⟨27, _, rfl, rfl, rfl⟩ (ov_field Try.underlying112 rfl Try.sizeOf26 rfl (k := 1) rfl rfl) ?_
    refine LD.rd rfl ⟨27, _, rfl, rfl, rfl⟩ (om_slE (i := 0) (j := 1) (by assumption) (by intro _; rfl) Try.isAgg26 rfl rfl au3 rfl (by rfl)) ?_
    refine LD.val rfl ⟨27, _, rfl, rfl, rfl⟩ (ov_move rfl) ?_
    refine LD.val rfl ⟨27, _, rfl, rfl, rfl⟩ (ov_nilCheck rfl) ?_
    refine LD.val rfl ⟨27, _, rfl, rfl, rfl⟩ (ov_field Try.underlying110 rfl Try.sizeOf108 rfl (k := 2) rfl rfl) ?_
    refine LD.rd rfl ⟨27, _, rfl, rfl, rfl⟩ (om_ld Try.isAgg108 rfl rfl) ?_
    refine LD.val rfl ⟨27, _, rfl, rfl, rfl⟩ (ov_move rfl) ?_
    refine LD.val rfl ⟨27, _, rfl, rfl, rfl⟩ (ov_move rfl) ?_
    refine LD.val rfl ⟨27, _, rfl, rfl, rfl⟩ (ov_nilCheck rfl) ?_
    refine LD.val rfl ⟨27, _, rfl, rfl, rfl⟩ (ov_field Try.underlying110 rfl Try.sizeOf3 rfl (k := 3) rfl rfl) ?_
    refine LD.rd rfl ⟨27, _, rfl, rfl, rfl⟩ (om_ld Try.isAgg3 rfl rfl) ?_
    refine LD.callE rfl ⟨27, _, rfl, rfl, rfl⟩ (oc_call (enters_fn Try.func71 (by kernel_rfl) rfl) rfl) (fun w hm hc hg => (atO_hit hix) ▸ rfAt_spec x.cur w h0 (hm.pick (rfC b x.g x.fl ad n cap x.cur x.ran :: ms))) ?_
    refine LD.val rfl ⟨27, _, rfl, rfl, rfl⟩ (ov_idxSN au6 Try.underlying108 Try.sizeOf112 rfl rfl (by omega)) ?_
    refine LD.val rfl ⟨27, _, rfl, rfl, rfl⟩ (ov_field Try.underlying112 rfl Try.sizeOf26 rfl (k := 1) rfl rfl) ?_
    refine LD.rd rfl ⟨27, _, rfl, rfl, rfl⟩ (om_slE (j := 1) (by assumption) (by intro _; rfl) Try.isAgg26 rfl rfl au3 rfl (by rfl)) ?_
    refine LD.val rfl ⟨27, _, rfl, rfl, rfl⟩ (ov_ulss rfl rfl) ?_
    refine LD.val rfl rfl (ov_pickT rfl rfl) ?_
    refine LD.val rfl rfl (ov_assign rfl) ?_
    refine LD.nil ?_
    refine QM.sub (e' := [(2, _)]) ⟨rfl, trivial⟩ (QM.then ?_)
    refine wpM.ret ?_
    refine QM.leave (.inl rfl) [.tmp 2] Try.results79 rfl ?_
    intro w' hm' hc' hg'
    refine ⟨?_, hc'⟩; obtain ⟨t, l, e⟩ := ne_cons (l := rdyO x) (fun q => by rw [hn5, q] at h3; simp at h3); rw [due_if ⟨by omega, by omega⟩, e]; rfl
   refine LD.drop rfl rfl ⟨27, _, rfl, rfl, rfl⟩ ?_
   refine LD.drop rfl rfl ⟨27, _, rfl, rfl, rfl⟩ ?_
   refine LD.drop rfl rfl ⟨27, _, rfl, rfl, rfl⟩ ?_
   refine LD.drop rfl rfl ⟨27, _, rfl, rfl, rfl⟩ ?_
   refine LD.drop rfl rfl ⟨27, _, rfl, rfl, rfl⟩ ?_
   refine LD.drop rfl rfl ⟨27, _, rfl, rfl, rfl⟩ ?_
   refine LD.drop rfl rfl ⟨27, _, rfl, rfl, rfl⟩ ?_
   refine LD.drop rfl rfl ⟨27, _, rfl, rfl, rfl⟩ ?_
   refine LD.drop rfl rfl ⟨27, _, rfl, rfl, rfl⟩ ?_
   refine LD.drop rfl rfl ⟨27, _, rfl, rfl, rfl⟩ ?_
   refine LD.drop rfl rfl ⟨27, _, rfl, rfl, rfl⟩ ?_
   refine LD.drop rfl rfl ⟨27, _, rfl, rfl, rfl⟩ ?_
   refine LD.drop rfl rfl ⟨27, _, rfl, rfl, rfl⟩ ?_
   refine LD.drop rfl rfl ⟨27, _, rfl, rfl, rfl⟩ ?_
   refine LD.drop rfl rfl ⟨27, _, rfl, rfl, rfl⟩ ?_
   refine LD.drop rfl rfl ⟨27, _, rfl, rfl, rfl⟩ ?_
   refine LD.drop rfl rfl ⟨27, _, rfl, rfl, rfl⟩ ?_
   refine LD.drop rfl rfl ⟨27, _, rfl, rfl, rfl⟩ ?_
   refine LD.val rfl rfl (ov_pickF rfl rfl) ?_
   refine LD.val rfl rfl (ov_assign rfl) ?_
   refine LD.nil ?_
   refine QM.sub (e' := [(2, _)]) ⟨rfl, trivial⟩ (QM.then ?_)
   refine wpM.ret ?_
   refine QM.leave (.inl rfl) [.tmp 2] Try.results79 rfl ?_
   intro w' hm' hc' hg'
   refine ⟨?_, hc'⟩; have hnil : rdyO x = [] := List.eq_nil_of_length_eq_zero (by omega); rw [due_if ⟨by omega, by omega⟩, hnil]; rfl
  refine LD.drop rfl rfl ⟨22, _, rfl, rfl, rfl⟩ ?_
  refine LD.drop rfl rfl ⟨22, _, rfl, rfl, rfl⟩ ?_
  refine LD.drop rfl rfl ⟨22, _, rfl, rfl, rfl⟩ ?_
  refine LD.val rfl rfl (ov_pickF rfl rfl) ?_
  refine LD.val rfl rfl (ov_move rfl) ?_
  refine LD.drop rfl rfl ⟨27, _, rfl, rfl, rfl⟩ ?_
  refine LD.drop rfl rfl ⟨27, _, rfl, rfl, rfl⟩ ?_
  refine LD.drop rfl rfl ⟨27, _, rfl, rfl, rfl⟩ ?_
  refine LD.drop rfl rfl ⟨27, _, rfl, rfl, rfl⟩ ?_
  refine LD.drop rfl rfl ⟨27, _, rfl, rfl, rfl⟩ ?_
  refine LD.drop rfl rfl ⟨27, _, rfl, rfl, rfl⟩ ?_
  refine LD.drop rfl rfl ⟨27, _, rfl, rfl, rfl⟩ ?_
  refine LD.drop rfl rfl ⟨27, _, rfl, rfl, rfl⟩ ?_
  refine LD.drop rfl rfl ⟨27, _, rfl, rfl, rfl⟩ ?_
  refine LD.drop rfl rfl ⟨27, _, rfl, rfl, rfl⟩ ?_
  refine LD.drop rfl rfl ⟨27, _, rfl, rfl, rfl⟩ ?_
  refine LD.drop rfl rfl ⟨27, _, rfl, rfl, rfl⟩ ?_
  refine LD.drop rfl rfl ⟨27, _, rfl, rfl, rfl⟩ ?_
  refine LD.drop rfl rfl ⟨27, _, rfl, rfl, rfl⟩ ?_
  refine LD.drop rfl rfl ⟨27, _, rfl, rfl, rfl⟩ ?_
  refine LD.drop rfl rfl ⟨27, _, rfl, rfl, rfl⟩ ?_
  refine LD.drop rfl rfl ⟨27, _, rfl, rfl, rfl⟩ ?_
  refine LD.drop rfl rfl ⟨27, _, rfl, rfl, rfl⟩ ?_
  refine LD.val rfl rfl (ov_pickF rfl rfl) ?_
  refine LD.val rfl rfl (ov_assign rfl) ?_
  refine LD.nil ?_
  refine QM.sub (e' := [(2, _)]) ⟨rfl, trivial⟩ (QM.then ?_)
  refine wpM.ret ?_
  refine QM.leave (.inl rfl) [.tmp 2] Try.results79 rfl ?_
  intro w' hm' hc' hg'
  refine ⟨?_, hc'⟩; rw [due_not (by omega)]; rfl
 refine LD.drop rfl rfl ⟨11, _, rfl, rfl, rfl⟩ ?_
 refine LD.drop rfl rfl ⟨11, _, rfl, rfl, rfl⟩ ?_
 refine LD.drop rfl rfl ⟨11, _, rfl, rfl, rfl⟩ ?_
 refine LD.drop rfl rfl ⟨11, _, rfl, rfl, rfl⟩ ?_
 refine LD.drop rfl rfl ⟨11, _, rfl, rfl, rfl⟩ ?_
 refine LD.drop rfl rfl ⟨11, _, rfl, rfl, rfl⟩ ?_
 refine LD.drop rfl rfl ⟨11, _, rfl, rfl, rfl⟩ ?_
 refine LD.drop rfl rfl ⟨11, _, rfl, rfl, rfl⟩ ?_
 refine LD.drop rfl rfl ⟨11, _, rfl, rfl, rfl⟩ ?_
 refine LD.val rfl rfl (ov_pickF rfl rfl) ?_
 refine LD.val rfl rfl (ov_move rfl) ?_
 refine LD.drop rfl rfl ⟨22, _, rfl, rfl, rfl⟩ ?_
 refine LD.drop rfl rfl ⟨22, _, rfl, rfl, rfl⟩ ?_
 refine LD.drop rfl rfl ⟨22, _, rfl, rfl, rfl⟩ ?_
 refine LD.val rfl rfl (ov_pickF rfl rfl) ?_
 refine LD.val rfl rfl (ov_move rfl) ?_
 refine LD.drop rfl rfl ⟨27, _, rfl, rfl, rfl⟩ ?_
 refine LD.drop rfl rfl ⟨27, _, rfl, rfl, rfl⟩ ?_
 refine LD.drop rfl rfl ⟨27, _, rfl, rfl, rfl⟩ ?_
 refine LD.drop rfl rfl ⟨27, _, rfl, rfl, rfl⟩ ?_
 refine LD.drop rfl rfl ⟨27, _, rfl, rfl, rfl⟩ ?_
 refine LD.drop rfl rfl ⟨27, _, rfl, rfl, rfl⟩ ?_
 refine LD.drop rfl rfl ⟨27, _, rfl, rfl, rfl⟩ ?_
 refine LD.drop rfl rfl ⟨27, _, rfl, rfl, rfl⟩ ?_
 refine LD.drop rfl rfl ⟨27, _, rfl, rfl, rfl⟩ ?_
 refine LD.drop rfl rfl ⟨27, _, rfl, rfl, rfl⟩ ?_
 refine LD.drop rfl rfl ⟨27, _, rfl, rfl, rfl⟩ ?_
 refine LD.drop rfl rfl ⟨27, _, rfl, rfl, rfl⟩ ?_
 refine LD.drop rfl rfl ⟨27, _, rfl, rfl, rfl⟩ ?_
 refine LD.drop rfl rfl ⟨27, _, rfl, rfl, rfl⟩ ?_
 refine LD.drop rfl rfl ⟨27, _, rfl, rfl, rfl⟩ ?_
 refine LD.drop rfl rfl ⟨27, _, rfl, rfl, rfl⟩ ?_
 refine LD.drop rfl rfl ⟨27, _, rfl, rfl, rfl⟩ ?_
 refine LD.drop rfl rfl ⟨27, _, rfl, rfl, rfl⟩ ?_
 refine LD.val rfl rfl (ov_pickF rfl rfl) ?_
 refine LD.val rfl rfl (ov_assign rfl) ?_
 refine LD.nil ?_
 refine QM.sub (e' := [(2, _)]) ⟨rfl, trivial⟩ (QM.then ?_)
 refine wpM.ret ?_
 refine QM.leave (.inl rfl) [.tmp 2] Try.results79 rfl ?_
 intro w' hm' hc' hg'
 refine ⟨?_, hc'⟩; rw [due_not (by omega)]; rfl
set_option maxRecDepth 100000 in
theorem rfBack_spec {n0 b : Nat} {x : Qm} {m : Mem0} (w : World) (h : RfM n0 b x m) (hM : Mem w m) : Ret Try.prog 29 #[.pointer (some ⟨b, 0, none⟩)] w (Upd m (fun u m' => u = .int .i64 x.cur ∧ RfM n0 b (backQ x) m') w) := by
 obtain ⟨hq, ad, n, cap, ms, rfl, hn, hs, hb⟩ := h; have hlen := hq.len; have h0 : RfM n0 b x (rfC b x.g x.fl ad n cap x.cur x.ran :: ms) := ⟨hq, ad, n, cap, ms, rfl, hn, hs, hb⟩
 refine Ret.enterM (l := [.pointer (some ⟨b, 0, none⟩)]) Try.func29 rfl Try.ntmps29 rfl (rfC b x.g x.fl ad n cap x.cur x.ran :: (ms ++ [])) ((inM (rfC b x.g x.fl ad n cap x.cur x.ran :: ms))) (by rw [List.append_nil]; exact hM) ?_
 refine wpM.seq (wpM.region ?_)
 refine LM.as rfl ?_
 refine LM.nil (QM.sub (e' := [(0, _)]) ⟨rfl, trivial⟩ (QM.then (wpM.seq (wpM.region ?_))))
 refine LM.mv rfl ?_
 refine LM.val (ov_nilCheck rfl) ?_
 refine LM.val (ov_field Try.underlying110 rfl Try.sizeOf3 rfl (k := 3) rfl rfl) ?_
 refine LM.rd (om_ld Try.isAgg3 rfl rfl) ?_
 refine LM.as rfl ?_
 refine LM.nil (QM.sub (e' := [(0, _), (3, _)]) au9 (QM.then (wpM.seq (wpM.region ?_))))
 refine LM.mv rfl ?_
 refine LM.val (ov_nilCheck rfl) ?_
 refine LM.val (ov_field Try.underlying110 rfl Try.sizeOf3 rfl (k := 3) rfl rfl) ?_
 refine LM.st Try.sizeOf3 rfl rfl rfl au5 rfl (fun hlt => by first | exact inM_0 | exact absurd hlt (by omega)) ?_
 refine LM.nil (QM.sub (e' := [(0, _), (3, _)]) au9 (QM.then (wpM.seq (wpM.region ?_))))
 refine LM.mv rfl ?_
 refine LM.val (ov_nilCheck rfl) ?_
 refine LM.val (ov_field Try.underlying110 rfl Try.sizeOf3 rfl (k := 4) rfl rfl) ?_
 refine LM.st Try.sizeOf3 rfl rfl rfl au5 rfl (fun hlt => by first | exact inM_0 | exact absurd hlt (by omega)) ?_
 refine LM.mem (SubM.mem (M' := rfC b x.g x.fl ad n cap (-1) 0 :: (ms ++ [])) au1) ?_
 refine LM.nil (QM.sub (e' := [(3, _)]) ⟨rfl, trivial⟩ (QM.then (wpM.seq (wpM.region ?_))))
 refine LM.mv rfl (LM.as rfl ?_)
 refine LM.nil (QM.sub (e' := [(2, _)]) ⟨rfl, trivial⟩ (QM.then ?_))
 refine wpM.ret ?_
 refine QM.leave (.inl rfl) [.tmp 2] Try.results29 rfl ?_
 intro w' hm' hc' hg'
 exact rfm_leaf (x' := backQ x) (back_wf hq) hn hs hb hm' au1 hc' (inn_refl _ _)
set_option maxRecDepth 100000 in
theorem rfTick_spec {n0 b : Nat} {x : Qm} {m : Mem0} (w : World) (h : RfM n0 b x m) (hr : x.ran ≤ 1000000000000) (hM : Mem w m) : Ret Try.prog 31 #[.pointer (some ⟨b, 0, none⟩)] w (Upd m (fun u m' => u = .int .i64 x.cur ∧ RfM n0 b (tickQ x) m') w) := by
 obtain ⟨hq, ad, n, cap, ms, rfl, hn, hs, hb⟩ := h; have hlen := hq.len; have h0 : RfM n0 b x (rfC b x.g x.fl ad n cap x.cur x.ran :: ms) := ⟨hq, ad, n, cap, ms, rfl, hn, hs, hb⟩; have hrn := hq.ran; have hwf := tick_wf hq
 refine Ret.enterM (l := [.pointer (some ⟨b, 0, none⟩)]) Try.func31 rfl Try.ntmps31 rfl (rfC b x.g x.fl ad n cap x.cur x.ran :: (ms ++ [])) ((inM (rfC b x.g x.fl ad n cap x.cur x.ran :: ms))) (by rw [List.append_nil]; exact hM) ?_
 refine wpM.seq (wpM.region ?_)
 refine LM.as rfl ?_
 refine LM.nil (QM.sub (e' := [(0, _)]) ⟨rfl, trivial⟩ (QM.then ?_))
 refine wpM.seq ?_
 refine wpM.seq (wpM.region ?_)
 refine LM.mv rfl ?_
 refine LM.val (ov_nilCheck rfl) ?_
 refine LM.val (ov_field Try.underlying110 rfl Try.sizeOf3 rfl (k := 3) rfl rfl) ?_
 refine LM.rd (om_ld Try.isAgg3 rfl rfl) ?_
 refine LM.val (ov_geq rfl rfl) ?_
 refine LM.nil (QM.sub (e' := [(0, _), (8, _)]) au9 (QM.then ?_))
 refine wpM.joinK (α := Int × List Kv × Mem0) (fun ⟨r2, l2, ms2⟩ => []) [(0, _)] (fun ⟨r2, l2, ms2⟩ => rfC b x.g x.fl ad n cap x.cur r2 :: (ms2 ++ [])) (fun ⟨r2, l2, ms2⟩ => Sl fTk 112 3 n0 l2 (.slice ad n cap) ms2 ∧ l2.length = x.l.length ∧ inn ms w.heap.size ms2 ∧ tickQ x = { x with l := l2, ran := r2 }) ⟨rfl, trivial⟩ ?_ ?_
 ·
  refine wpM.condD rfl (fun h1 => ?_) (fun h1 => ?_)
  ·
   have hix := hq.ix h1; have htq : tickQ x = { x with l := tickL x.l x.cur, ran := x.ran + 1 } := if_pos h1
   refine wpM.seq (wpM.region ?_)
   refine LM.mv rfl (LM.mv rfl ?_)
   refine LM.val (ov_nilCheck rfl) ?_
   refine LM.val (ov_field Try.underlying110 rfl Try.sizeOf3 rfl (k := 3) rfl rfl) ?_
   refine LM.rd (om_ld Try.isAgg3 rfl rfl) ?_
   refine LM.callE (oc_call (enters_fn Try.func71 (by kernel_rfl) rfl) rfl) (fun w hm hc hg => (atO_hit hix) ▸ rfAt_spec x.cur w h0 (hm.pick (rfC b x.g x.fl ad n cap x.cur x.ran :: ms))) ?_
   refine LM.as rfl ?_
   refine LM.nil (QM.sub (e' := [(0, _), (3, _)]) au9 (QM.then ?_))
   refine wpM.seq ?_
   refine wpM.draw [(0, 0), (1, 0), (2, 0), (3, 1), (4, 0), (5, 0), (6, 0), (7, 0), (8, 1), (9, 0), (10, 0), (11, 0), (12, 1), (13, 0), (14, 0), (15, 0), (16, 1), (17, 0), (18, 0), (19, 0), (20, 1), (21, 2), (22, 2), (23, 0), (24, 0), (25, 0), (26, 0), (27, 0), (28, 3)] (by kernel_rfl) (by kernel_rfl) ?_
   refine LD.val rfl rfl (ov_move rfl) ?_
   refine LD.val rfl rfl (ov_nilCheck rfl) ?_
   refine LD.val rfl rfl (ov_field Try.underlying110 rfl Try.sizeOf108 rfl (k := 2) rfl rfl) ?_
   refine LD.rd rfl rfl (om_ld Try.isAgg108 rfl rfl) ?_
   refine LD.val rfl rfl (ov_move rfl) ?_
   refine LD.val rfl rfl (ov_move rfl) ?_
   refine LD.val rfl rfl (ov_nilCheck rfl) ?_
   refine LD.val rfl rfl (ov_field Try.underlying110 rfl Try.sizeOf108 rfl (k := 2) rfl rfl) ?_
   refine LD.rd rfl rfl (om_ld Try.isAgg108 rfl rfl) ?_
   refine LD.val rfl rfl (ov_move rfl) ?_
   refine LD.val rfl rfl (ov_idxSN au6 Try.underlying108 Try.sizeOf112 rfl rfl (by omega)) ?_
   refine LD.val rfl rfl (ov_field Try.underlying112 rfl Try.sizeOf26 rfl (k := 1) rfl rfl) ?_
   refine LD.rd rfl rfl (om_slE (j := 1) (by assumption) (by intro _; rfl) Try.isAgg26 rfl rfl au3 rfl (by rfl)) ?_
   refine LD.val rfl rfl (ov_move rfl) ?_
   refine LD.val rfl rfl (ov_nilCheck rfl) ?_
   refine LD.val rfl rfl (ov_field Try.underlying110 rfl Try.sizeOf108 rfl (k := 2) rfl rfl) ?_
   refine LD.rd rfl rfl (om_ld Try.isAgg108 rfl rfl) ?_
   refine LD.val rfl rfl (ov_move rfl) ?_
   refine LD.val rfl rfl (ov_idxSN au6 Try.underlying108 Try.sizeOf112 rfl rfl (by omega)) ?_
   refine LD.val rfl rfl (ov_field Try.underlying112 rfl Try.sizeOf3 rfl (k := 2) rfl rfl) ?_
   refine LD.rd rfl rfl (om_slE (j := 2) (by assumption) (by intro _; rfl) Try.isAgg3 rfl rfl au3 rfl (by rfl)) ?_
   refine LD.callE rfl rfl (oc_call (enters_fn Try.func77 (by kernel_rfl) rfl) rfl) (fun w hm hc hg => rcore_spec _ w) ?_
   refine LD.callE rfl rfl (oc_call (enters_fn Try.func76 (by kernel_rfl) rfl) rfl) (fun w hm hc hg => radd_spec _ _ w) ?_
   refine LD.val rfl rfl (ov_move rfl) ?_
   refine LD.val rfl rfl (ov_extract rfl rfl) ?_
   refine LD.val rfl rfl (ov_extract rfl rfl) ?_
   refine LD.val rfl rfl (ov_idxSN au6 Try.underlying108 Try.sizeOf112 rfl rfl (by omega)) ?_
   refine LD.val rfl rfl (ov_field Try.underlying112 rfl Try.sizeOf26 rfl (k := 1) rfl rfl) ?_
   refine LD.tail rfl rfl ?_
   refine LM.stS (({ x.l.getD (ixO x.l x.cur) default with V := addO (x.l.getD (ixO x.l x.cur) default).V (coreO (x.l.getD (ixO x.l x.cur) default).x) } : Kv)) (j := 1) (by assumption) (by intro _; rfl) Try.sizeOf26 rfl rfl rfl au3 rfl (by decide) (by rfl) rfl (fun p hp hlt => by first | exact ⟨p, List.mem_cons_of_mem _ hp, rfl⟩ | exact absurd hlt (Nat.not_lt_of_le (Sl.ge (by assumption) p hp))) (fun ms1 hss1 hmm1 => ?_)
   refine LM.nil ?_
   refine QM.qn ?_
   refine QM.sub (e' := [(0, _)]) ⟨rfl, trivial⟩ (QM.then (wpM.region ?_))
   refine LM.mv rfl ?_
   refine LM.val (ov_nilCheck rfl) ?_
   refine LM.val (ov_field Try.underlying110 rfl Try.sizeOf3 rfl (k := 4) rfl rfl) ?_
   refine LM.rd (om_ld Try.isAgg3 rfl rfl) ?_
   refine LM.val (ov_add64 rfl rfl (by omega)) ?_
   refine LM.val (ov_nilCheck rfl) ?_
   refine LM.val (ov_field Try.underlying110 rfl Try.sizeOf3 rfl (k := 4) rfl rfl) ?_
   refine LM.st Try.sizeOf3 rfl rfl rfl au5 rfl (fun hlt => by first | exact inM_0 | exact absurd hlt (by omega)) ?_
   refine LM.mem (SubM.mem (M' := rfC b x.g x.fl ad n cap x.cur (x.ran + 1) :: (ms1 ++ [])) au1) ?_
   refine LM.nil (QM.sub (e' := [(0, _)]) ⟨rfl, trivial⟩ ?_)
   refine QM.meetK (x.ran + 1, tickL x.l x.cur, ms1) ⟨rfl, trivial⟩ au1 ?_
   · exact ⟨hss1, by unfold tickL; rw [List.length_set], fun p hp => .inr (hmm1 p hp), htq⟩
  refine wpM.skip ?_
  refine QM.meetK (x.ran, x.l, ms) ⟨rfl, trivial⟩ au1 ?_
  · exact ⟨hs, rfl, inn_refl _ _, if_neg h1⟩
 rintro ⟨r2, l2, ms2⟩ ⟨hs2, hl2, hin2, htq⟩
 change QM _ _ _ _ _ (rfC b x.g x.fl ad n cap x.cur r2 :: (ms2 ++ [])) _ _ _
 refine QM.then (wpM.seq (wpM.region ?_))
 refine LM.mv rfl ?_
 refine LM.val (ov_nilCheck rfl) ?_
 refine LM.val (ov_field Try.underlying110 rfl Try.sizeOf3 rfl (k := 3) rfl rfl) ?_
 refine LM.rd (om_ld Try.isAgg3 rfl rfl) ?_
 refine LM.as rfl ?_
 refine LM.nil (QM.sub (e' := [(2, _)]) ⟨rfl, trivial⟩ (QM.then ?_))
 refine wpM.ret ?_
 refine QM.leave (.inl rfl) [.tmp 2] Try.results31 rfl ?_
 intro w' hm' hc' hg'
 rw [htq] at hwf ⊢; exact rfm_leaf (x' := { x with l := l2, ran := r2 }) hwf (hn.trans hl2.symm) hs2 hb hm' au1 hc' hin2
set_option maxRecDepth 100000 in
theorem rfWgh_spec {n0 b : Nat} {x : Qm} {m : Mem0} (a wt : Int) (w : World) (h : RfM n0 b x m) (hM : Mem w m) : Ret Try.prog 32 #[.pointer (some ⟨b, 0, none⟩), .int .i64 a, .int .i64 wt] w (Upd m (fun u m' => u = .bool (decide (ixO x.l a < x.l.length)) ∧ RfM n0 b (weighX x a wt) m') w) := by
 obtain ⟨hq, ad, n, cap, ms, rfl, hn, hs, hb⟩ := h; have hlen := hq.len; have h0 : RfM n0 b x (rfC b x.g x.fl ad n cap x.cur x.ran :: ms) := ⟨hq, ad, n, cap, ms, rfl, hn, hs, hb⟩
 refine Ret.enterM (l := [.pointer (some ⟨b, 0, none⟩), .int .i64 a, .int .i64 wt]) Try.func32 rfl Try.ntmps32 rfl (rfC b x.g x.fl ad n cap x.cur x.ran :: (ms ++ [])) ((inM (rfC b x.g x.fl ad n cap x.cur x.ran :: ms))) (by rw [List.append_nil]; exact hM) ?_
 refine wpM.seq (wpM.region ?_)
 refine LM.as rfl ?_
 refine LM.nil (QM.sub (e' := [(0, _), (1, _), (2, _)]) au9 (QM.then (wpM.seq (wpM.region ?_))))
 refine LM.mv rfl (LM.mv rfl ?_)
 refine LM.callE (oc_call (enters_fn Try.func71 (by kernel_rfl) rfl) rfl) (fun w hm hc hg => rfAt_spec a w h0 (hm.pick (rfC b x.g x.fl ad n cap x.cur x.ran :: ms))) ?_
 refine LM.as rfl ?_
 refine LM.nil (QM.sub (e' := [(0, _), (1, _), (2, _), (7, _)]) au9 (QM.then ?_))
 refine wpM.seq ?_
 refine wpM.seq (wpM.region ?_)
 refine LM.mv rfl ?_
 refine LM.val (ov_lss rfl rfl) ?_
 refine LM.nil (QM.sub (e' := [(0, _), (1, _), (2, _), (7, _), (12, _)]) au9 (QM.then ?_))
 refine wpM.condD rfl (fun h1 => ?_) (fun h1 => ?_)
 ·
  refine wpM.seq (wpM.region ?_)
  refine LM.as rfl ?_
  refine LM.nil (QM.sub (e' := [(6, _)]) ⟨rfl, trivial⟩ (QM.then ?_))
  refine wpM.ret ?_
  refine QM.then_ret ?_
  refine QM.leave (.inl rfl) [.tmp 6] Try.results32 rfl ?_
  intro w' hm' hc' hg'
  have hix := atO_lt h1; rw [show weighX x a wt = x from if_neg hix, decide_eq_false hix]; exact rfm_leaf (x' := x) hq hn hs hb hm' au1 hc' (inn_refl _ _)
 have hix := atO_ge h1; rw [atO_hit hix]; have hwf := weigh_wf (w := wt) hq hix; have hit := ixO_hit hix; have hgx : (x.l.set (ixO x.l a) { gQ x.l a with x := bringO wt 1 4096 }).getD (ixO x.l a) default = { gQ x.l a with x := bringO wt 1 4096 } := (by rw [List.getD_eq_getElem?_getD, List.getElem?_set_self hix]; rfl)
 refine wpM.skip ?_
 refine QM.then (wpM.seq (wpM.region ?_))
 refine LM.mv rfl ?_
 refine LM.callE (oc_call (enters_fn Try.func21 (by kernel_rfl) rfl) rfl) (fun w hm hc hg => rbring_spec _ 1 4096 w) ?_
 refine LM.as rfl ?_
 refine LM.nil (QM.sub (e' := [(0, _), (1, _), (2, _), (7, _)]) au9 (QM.then ?_))
 refine wpM.seq ?_
 refine wpM.seq (wpM.region ?_)
 refine LM.mv rfl ?_
 refine LM.val (ov_nilCheck rfl) ?_
 refine LM.val (ov_field Try.underlying110 rfl Try.sizeOf108 rfl (k := 2) rfl rfl) ?_
 refine LM.rd (om_ld Try.isAgg108 rfl rfl) ?_
 refine LM.mv rfl ?_
 refine LM.val (ov_idxSN au6 Try.underlying108 Try.sizeOf112 rfl rfl (by omega)) ?_
 refine LM.val (ov_field Try.underlying112 rfl Try.sizeOf3 rfl (k := 2) rfl rfl) ?_
 refine LM.rd (om_slE (j := 2) (by assumption) (by intro _; rfl) Try.isAgg3 rfl rfl au3 rfl (by rfl)) ?_
 refine LM.mv rfl ?_
 refine LM.val (ov_neq rfl rfl) ?_
 refine LM.mv rfl ?_
 refine LM.splitD (t := 25) rfl (fun h2 => ?_) (fun h2 => ?_)
 ·
  refine LM.sp 25 rfl rfl rfl (LM.mv rfl (LM.sp 25 rfl rfl rfl ?_))
  refine LM.val (ov_nilCheck rfl) ?_
  refine LM.sp 25 rfl rfl rfl (LM.val (ov_field Try.underlying110 rfl Try.sizeOf3 rfl (k := 3) rfl rfl) (LM.sp 25 rfl rfl rfl ?_))
  refine LM.rd (om_ld Try.isAgg3 rfl rfl) ?_
  refine LM.sp 25 rfl rfl rfl (LM.mv rfl (LM.sp 25 rfl rfl rfl ?_))
  refine LM.val (ov_eql rfl rfl) ?_
  refine LM.val (ov_pickT rfl rfl) ?_
  refine LM.nil (QM.sub (e' := [(0, _), (2, _), (7, _), (32, _)]) au9 (QM.then ?_))
  refine wpM.joinK (α := Int) (fun r1 => []) [(0, _), (2, _), (7, _)] (fun r1 => rfC b x.g x.fl ad n cap x.cur r1 :: (ms ++ [])) (fun r1 => (weighQ x a wt).ran = r1) ⟨rfl, rfl, rfl, trivial⟩ ?_ ?_
  ·
   refine wpM.condD rfl (fun h3 => ?_) (fun h3 => ?_)
   ·
    refine wpM.region ?_
    refine LM.mv rfl (LM.mv rfl ?_)
    refine LM.val (ov_nilCheck rfl) ?_
    refine LM.val (ov_field Try.underlying110 rfl Try.sizeOf3 rfl (k := 0) rfl rfl) ?_
    refine LM.rd (om_ld Try.isAgg3 rfl rfl) ?_
    refine LM.val (ov_nilCheck rfl) ?_
    refine LM.val (ov_field Try.underlying110 rfl Try.sizeOf3 rfl (k := 4) rfl rfl) ?_
    refine LM.st Try.sizeOf3 rfl rfl rfl au5 rfl (fun hlt => by first | exact inM_0 | exact absurd hlt (by omega)) ?_
    refine LM.mem (SubM.mem (M' := rfC b x.g x.fl ad n cap x.cur x.g :: (ms ++ [])) au1) ?_
    refine LM.nil (QM.sub (e' := [(0, _), (2, _), (7, _)]) au9 ?_)
    refine QM.meetK (x.g) ⟨rfl, rfl, rfl, trivial⟩ au1 ?_
    · exact if_pos ⟨h2, h3⟩
   refine wpM.skip ?_
   refine QM.meetK (x.ran) ⟨rfl, rfl, rfl, trivial⟩ au1 ?_
   · exact if_neg (fun q => h3 q.2)
  rintro r1 hr1
  change QM _ _ _ _ _ (rfC b x.g x.fl ad n cap x.cur r1 :: (ms ++ [])) _ _ _
  refine QM.then (wpM.seq (wpM.region ?_))
  refine LM.mv rfl ?_
  refine LM.val (ov_nilCheck rfl) ?_
  refine LM.val (ov_field Try.underlying110 rfl Try.sizeOf108 rfl (k := 2) rfl rfl) ?_
  refine LM.rd (om_ld Try.isAgg108 rfl rfl) ?_
  refine LM.mv rfl (LM.mv rfl ?_)
  refine LM.val (ov_idxSN au6 Try.underlying108 Try.sizeOf112 rfl rfl (by omega)) ?_
  refine LM.val (ov_field Try.underlying112 rfl Try.sizeOf3 rfl (k := 2) rfl rfl) ?_
  refine LM.stS (({ gQ x.l a with x := bringO wt 1 4096 } : Kv)) (j := 2) (by assumption) (by intro _; rfl) Try.sizeOf3 rfl rfl rfl au3 rfl (by decide) (by rfl) rfl (fun p hp hlt => by first | exact ⟨p, List.mem_cons_of_mem _ hp, rfl⟩ | exact absurd hlt (Nat.not_lt_of_le (Sl.ge (by assumption) p hp))) (fun ms1 hss1 hmm1 => ?_)
  refine LM.nil (QM.sub (e' := [(0, _), (2, _), (7, _)]) au9 (QM.then ?_))
  refine wpM.seq ?_
  refine wpM.draw [(0, 0), (1, 0), (2, 0), (3, 1), (4, 0), (5, 0), (6, 0), (7, 0), (8, 0), (9, 1), (10, 0), (11, 0), (12, 0), (13, 1), (14, 0), (15, 2), (16, 0), (17, 0), (18, 3)] (by kernel_rfl) (by kernel_rfl) ?_
  refine LD.val rfl rfl (ov_move rfl) ?_
  refine LD.val rfl rfl (ov_nilCheck rfl) ?_
  refine LD.val rfl rfl (ov_field Try.underlying110 rfl Try.sizeOf108 rfl (k := 2) rfl rfl) ?_
  refine LD.rd rfl rfl (om_ld Try.isAgg108 rfl rfl) ?_
  refine LD.val rfl rfl (ov_move rfl) ?_
  refine LD.val rfl rfl (ov_move rfl) ?_
  refine LD.val rfl rfl (ov_move rfl) ?_
  refine LD.val rfl rfl (ov_nilCheck rfl) ?_
  refine LD.val rfl rfl (ov_field Try.underlying110 rfl Try.sizeOf108 rfl (k := 2) rfl rfl) ?_
  refine LD.rd rfl rfl (om_ld Try.isAgg108 rfl rfl) ?_
  refine LD.val rfl rfl (ov_move rfl) ?_
  refine LD.val rfl rfl (ov_idxSN au6 Try.underlying108 Try.sizeOf112 rfl rfl (by omega)) ?_
  refine LD.val rfl rfl (ov_field Try.underlying112 rfl Try.sizeOf26 rfl (k := 1) rfl rfl) ?_
  refine LD.rd rfl rfl (om_slE (j := 1) (by assumption) (by intro _; rfl) Try.isAgg26 rfl rfl au3 rfl (by rfl)) ?_
  rw [hgx]
  refine LD.val rfl rfl (ov_move rfl) ?_
  refine LD.callE rfl rfl (oc_call (enters_fn Try.func72 (by kernel_rfl) rfl) rfl) (fun w hm hc hg => rfplace_spec (gQ x.l a).V (bringO wt 1 4096) w (hm.pick (rfC b x.g x.fl ad n cap x.cur r1 :: []))) ?_
  refine LD.val rfl rfl (ov_idxSN au6 Try.underlying108 Try.sizeOf112 rfl rfl (by omega)) ?_
  refine LD.val rfl rfl (ov_field Try.underlying112 rfl Try.sizeOf26 rfl (k := 1) rfl rfl) ?_
  refine LD.tail rfl rfl ?_
  refine LM.stS (a := { gQ x.l a with x := bringO wt 1 4096 }) ({ gQ x.l a with x := bringO wt 1 4096, V := plcO x (gQ x.l a).V (bringO wt 1 4096) } : Kv) (j := 1) hss1 (by intro _; rfl) Try.sizeOf26 rfl rfl rfl (List.getElem?_set_self hix) rfl (by decide) (by rfl) rfl (fun p hp _ => by obtain ⟨q, hq1, e⟩ := hmm1 p hp; exact ⟨q, List.mem_cons_of_mem _ hq1, e⟩) (fun ms9 hss9 hmm9 => ?_)
  refine LM.nil ?_
  refine QM.qn ?_
  refine QM.sub (e' := []) trivial (QM.then (wpM.seq (wpM.region ?_)))
  refine LM.as rfl ?_
  refine LM.nil (QM.sub (e' := [(6, _)]) ⟨rfl, trivial⟩ (QM.then ?_))
  refine wpM.ret ?_
  refine QM.leave (.inl rfl) [.tmp 6] Try.results32 rfl ?_
  intro w' hm' hc' hg'
  rw [show weighX x a wt = weighQ x a wt from if_pos hix, decide_eq_true hix]; have hl9 : x.l.set (ixO x.l a) ({ gQ x.l a with x := bringO wt 1 4096, V := plcO x (gQ x.l a).V (bringO wt 1 4096) } : Kv) = (weighQ x a wt).l := (by show _ = x.l.set (ixO x.l a) _; congr 1; show (⟨_, (gQ x.l a).id, _⟩ : Kv) = _; rw [show (gQ x.l a).id = a from hit.1]); rw [List.set_set, hl9] at hss9; subst hr1; exact rfm_leaf (x' := weighQ x a wt) hwf (by rw [← hl9, List.length_set]; exact hn) hss9 hb hm' au1 hc' (fun p hp => .inr (by obtain ⟨q, hq1, e⟩ := hmm9 p hp; obtain ⟨q2, hq2, e2⟩ := hmm1 q hq1; exact ⟨q2, hq2, e2.trans e⟩))
 refine LM.dr 25 rfl rfl rfl (LM.dr 25 rfl rfl rfl (LM.dr 25 rfl rfl rfl (LM.dr 25 rfl rfl rfl (LM.dr 25 rfl rfl rfl (LM.dr 25 rfl rfl rfl ?_)))))
 refine LM.val (ov_pickF rfl rfl) ?_
 refine LM.nil (QM.sub (e' := [(0, _), (2, _), (7, _), (32, _)]) au9 (QM.then ?_))
 refine wpM.joinK (α := Int) (fun r1 => []) [(0, _), (2, _), (7, _)] (fun r1 => rfC b x.g x.fl ad n cap x.cur r1 :: (ms ++ [])) (fun r1 => (weighQ x a wt).ran = r1) ⟨rfl, rfl, rfl, trivial⟩ ?_ ?_
 ·
  refine wpM.condF rfl ?_
  refine wpM.skip ?_
  refine QM.meetK (x.ran) ⟨rfl, rfl, rfl, trivial⟩ au1 ?_
  · exact if_neg (fun q => h2 q.1)
 rintro r1 hr1
 change QM _ _ _ _ _ (rfC b x.g x.fl ad n cap x.cur r1 :: (ms ++ [])) _ _ _
 refine QM.then (wpM.seq (wpM.region ?_))
 refine LM.mv rfl ?_
 refine LM.val (ov_nilCheck rfl) ?_
 refine LM.val (ov_field Try.underlying110 rfl Try.sizeOf108 rfl (k := 2) rfl rfl) ?_
 refine LM.rd (om_ld Try.isAgg108 rfl rfl) ?_
 refine LM.mv rfl (LM.mv rfl ?_)
 refine LM.val (ov_idxSN au6 Try.underlying108 Try.sizeOf112 rfl rfl (by omega)) ?_
 refine LM.val (ov_field Try.underlying112 rfl Try.sizeOf3 rfl (k := 2) rfl rfl) ?_
 refine LM.stS (({ gQ x.l a with x := bringO wt 1 4096 } : Kv)) (j := 2) (by assumption) (by intro _; rfl) Try.sizeOf3 rfl rfl rfl au3 rfl (by decide) (by rfl) rfl (fun p hp hlt => by first | exact ⟨p, List.mem_cons_of_mem _ hp, rfl⟩ | exact absurd hlt (Nat.not_lt_of_le (Sl.ge (by assumption) p hp))) (fun ms1 hss1 hmm1 => ?_)
 refine LM.nil (QM.sub (e' := [(0, _), (2, _), (7, _)]) au9 (QM.then ?_))
 refine wpM.seq ?_
 refine wpM.draw [(0, 0), (1, 0), (2, 0), (3, 1), (4, 0), (5, 0), (6, 0), (7, 0), (8, 0), (9, 1), (10, 0), (11, 0), (12, 0), (13, 1), (14, 0), (15, 2), (16, 0), (17, 0), (18, 3)] (by kernel_rfl) (by kernel_rfl) ?_
 refine LD.val rfl rfl (ov_move rfl) ?_
 refine LD.val rfl rfl (ov_nilCheck rfl) ?_
 refine LD.val rfl rfl (ov_field Try.underlying110 rfl Try.sizeOf108 rfl (k := 2) rfl rfl) ?_
 refine LD.rd rfl rfl (om_ld Try.isAgg108 rfl rfl) ?_
 refine LD.val rfl rfl (ov_move rfl) ?_
 refine LD.val rfl rfl (ov_move rfl) ?_
 refine LD.val rfl rfl (ov_move rfl) ?_
 refine LD.val rfl rfl (ov_nilCheck rfl) ?_
 refine LD.val rfl rfl (ov_field Try.underlying110 rfl Try.sizeOf108 rfl (k := 2) rfl rfl) ?_
 refine LD.rd rfl rfl (om_ld Try.isAgg108 rfl rfl) ?_
 refine LD.val rfl rfl (ov_move rfl) ?_
 refine LD.val rfl rfl (ov_idxSN au6 Try.underlying108 Try.sizeOf112 rfl rfl (by omega)) ?_
 refine LD.val rfl rfl (ov_field Try.underlying112 rfl Try.sizeOf26 rfl (k := 1) rfl rfl) ?_
 refine LD.rd rfl rfl (om_slE (j := 1) (by assumption) (by intro _; rfl) Try.isAgg26 rfl rfl au3 rfl (by rfl)) ?_
 rw [hgx]
 refine LD.val rfl rfl (ov_move rfl) ?_
 refine LD.callE rfl rfl (oc_call (enters_fn Try.func72 (by kernel_rfl) rfl) rfl) (fun w hm hc hg => rfplace_spec (gQ x.l a).V (bringO wt 1 4096) w (hm.pick (rfC b x.g x.fl ad n cap x.cur r1 :: []))) ?_
 refine LD.val rfl rfl (ov_idxSN au6 Try.underlying108 Try.sizeOf112 rfl rfl (by omega)) ?_
 refine LD.val rfl rfl (ov_field Try.underlying112 rfl Try.sizeOf26 rfl (k := 1) rfl rfl) ?_
 refine LD.tail rfl rfl ?_
 refine LM.stS (a := { gQ x.l a with x := bringO wt 1 4096 }) ({ gQ x.l a with x := bringO wt 1 4096, V := plcO x (gQ x.l a).V (bringO wt 1 4096) } : Kv) (j := 1) hss1 (by intro _; rfl) Try.sizeOf26 rfl rfl rfl (List.getElem?_set_self hix) rfl (by decide) (by rfl) rfl (fun p hp _ => by obtain ⟨q, hq1, e⟩ := hmm1 p hp; exact ⟨q, List.mem_cons_of_mem _ hq1, e⟩) (fun ms9 hss9 hmm9 => ?_)
 refine LM.nil ?_
 refine QM.qn ?_
 refine QM.sub (e' := []) trivial (QM.then (wpM.seq (wpM.region ?_)))
 refine LM.as rfl ?_
 refine LM.nil (QM.sub (e' := [(6, _)]) ⟨rfl, trivial⟩ (QM.then ?_))
 refine wpM.ret ?_
 refine QM.leave (.inl rfl) [.tmp 6] Try.results32 rfl ?_
 intro w' hm' hc' hg'
 rw [show weighX x a wt = weighQ x a wt from if_pos hix, decide_eq_true hix]; have hl9 : x.l.set (ixO x.l a) ({ gQ x.l a with x := bringO wt 1 4096, V := plcO x (gQ x.l a).V (bringO wt 1 4096) } : Kv) = (weighQ x a wt).l := (by show _ = x.l.set (ixO x.l a) _; congr 1; show (⟨_, (gQ x.l a).id, _⟩ : Kv) = _; rw [show (gQ x.l a).id = a from hit.1]); rw [List.set_set, hl9] at hss9; subst hr1; exact rfm_leaf (x' := weighQ x a wt) hwf (by rw [← hl9, List.length_set]; exact hn) hss9 hb hm' au1 hc' (fun p hp => .inr (by obtain ⟨q, hq1, e⟩ := hmm9 p hp; obtain ⟨q2, hq2, e2⟩ := hmm1 q hq1; exact ⟨q2, hq2, e2.trans e⟩))
set_option maxRecDepth 100000 in
theorem rfSettle_spec {n0 b : Nat} {x : Qm} {m : Mem0} (w : World) (h : RfM n0 b x m) (hM : Mem w m) : Ret Try.prog 34 #[.pointer (some ⟨b, 0, none⟩)] w (Upd m (fun u m' => u = .tuple #[] ∧ RfM n0 b (setlQ x) m') w) := by
 obtain ⟨hq, ad, n, cap, ms, rfl, hn, hs, hb⟩ := h; have hlen := hq.len; have h0 : RfM n0 b x (rfC b x.g x.fl ad n cap x.cur x.ran :: ms) := ⟨hq, ad, n, cap, ms, rfl, hn, hs, hb⟩
 refine Ret.enterM (l := [.pointer (some ⟨b, 0, none⟩)]) Try.func34 rfl Try.ntmps34 rfl (rfC b x.g x.fl ad n cap x.cur x.ran :: (ms ++ [])) ((inM (rfC b x.g x.fl ad n cap x.cur x.ran :: ms))) (by rw [List.append_nil]; exact hM) ?_
 refine wpM.seq ?_
 refine wpM.seq (wpM.region ?_)
 refine LM.mv rfl ?_
 refine LM.val (ov_nilCheck rfl) ?_
 refine LM.val (ov_field Try.underlying110 rfl Try.sizeOf108 rfl (k := 2) rfl rfl) ?_
 refine LM.rd (om_ld Try.isAgg108 rfl rfl) ?_
 refine LM.val (ov_len Try.underlying108 rfl) ?_
 refine LM.val (ov_eql rfl rfl) ?_
 refine LM.nil (QM.sub (e' := [(0, _), (9, _)]) au9 (QM.then ?_))
 refine wpM.condD rfl (fun h1 => ?_) (fun h1 => ?_)
 ·
  refine wpM.ret ?_
  refine QM.then_ret ?_
  refine QM.leave (.inl rfl) [] Try.results34 rfl ?_
  intro w' hm' hc' hg'
  have hnil : x.l = [] := List.eq_nil_of_length_eq_zero (by omega); rw [setlQ_nil hnil]; exact rfm_leaf (x' := x) hq hn hs hb hm' au1 hc' (inn_refl _ _)
 have hl1 : 1 ≤ x.l.length := (by omega)
 refine wpM.skip ?_
 refine QM.then (wpM.seq (wpM.region ?_))
 refine LM.mv rfl ?_
 refine LM.val (ov_nilCheck rfl) ?_
 refine LM.val (ov_field Try.underlying110 rfl Try.sizeOf108 rfl (k := 2) rfl rfl) ?_
 refine LM.rd (om_ld Try.isAgg108 rfl rfl) ?_
 refine LM.val (ov_idxSN (i := 0) au6 Try.underlying108 Try.sizeOf112 rfl rfl (by omega)) ?_
 refine LM.val (ov_field Try.underlying112 rfl Try.sizeOf26 rfl (k := 1) rfl rfl) ?_
 refine LM.rd (om_slE (i := 0) (j := 1) (by assumption) (by intro _; rfl) Try.isAgg26 rfl rfl au3 rfl (by rfl)) ?_
 refine LM.as rfl ?_
 refine LM.nil (QM.sub (e' := [(0, _), (2, _)]) au9 (QM.then ?_))
 refine wpM.seq ?_
 refine wpM.seq (wpM.region ?_)
 refine LM.as rfl ?_
 refine LM.nil (QM.sub (e' := [(0, _), (2, _), (3, _)]) au9 (QM.then ?_))
 refine wpM.block ?_
 refine wpM.loopK0 (α := Nat) (fun i => [(2, U (minO (x.l.take i))), (3, .int .i64 (i : Nat))]) [(0, _)] (fun i => rfC b x.g x.fl ad n cap x.cur x.ran :: (ms ++ [])) (fun i => 1 ≤ i ∧ i ≤ x.l.length) (fun i => x.l.length - i) (1) ⟨(by first | exact lk rfl (by obtain ⟨t, l, e⟩ := ne_cons (l := x.l) (fun q => (by rw [q] at hl1; cases hl1)); rw [e]; rfl) | exact lk rfl (by rw [take_snoc default (by omega), minO_snoc (take_ne hi1 hi)]; first | rw [if_pos (by assumption)] | rw [if_neg (by assumption)])), au2, rfl, trivial⟩ au1 ⟨Nat.le_refl _, hl1⟩ ?_
 rintro i ⟨hi1, hi⟩
 change wpM _ _ _ _ _ _ _ (rfC b x.g x.fl ad n cap x.cur x.ran :: (ms ++ [])) _ _ _
 refine wpM.seq ?_
 refine wpM.seq (wpM.region ?_)
 refine LM.mv rfl (LM.mv rfl ?_)
 refine LM.val (ov_nilCheck rfl) ?_
 refine LM.val (ov_field Try.underlying110 rfl Try.sizeOf108 rfl (k := 2) rfl rfl) ?_
 refine LM.rd (om_ld Try.isAgg108 rfl rfl) ?_
 refine LM.val (ov_len Try.underlying108 rfl) ?_
 refine LM.val (ov_lss rfl rfl) ?_
 refine LM.nil (QM.sub (e' := [(0, _), (2, _), (3, _), (23, _)]) au9 (QM.then ?_))
 refine wpM.condD rfl (fun h2 => ?_) (fun h2 => ?_)
 ·
  refine wpM.skip ?_
  refine QM.then ?_
  refine wpM.seq ?_
  refine wpM.block ?_
  refine wpM.seq (wpM.region ?_)
  refine LM.mv rfl ?_
  refine LM.val (ov_nilCheck rfl) ?_
  refine LM.val (ov_field Try.underlying110 rfl Try.sizeOf108 rfl (k := 2) rfl rfl) ?_
  refine LM.rd (om_ld Try.isAgg108 rfl rfl) ?_
  refine LM.mv rfl ?_
  refine LM.val (ov_idxSN au6 Try.underlying108 Try.sizeOf112 rfl rfl (by omega)) ?_
  refine LM.val (ov_field Try.underlying112 rfl Try.sizeOf26 rfl (k := 1) rfl rfl) ?_
  refine LM.rd (om_slE (j := 1) (by assumption) (by intro _; rfl) Try.isAgg26 rfl rfl au3 rfl (by rfl)) ?_
  refine LM.mv rfl ?_
  refine LM.val (ov_ulss rfl rfl) ?_
  refine LM.nil (QM.sub (e' := [(0, _), (2, _), (3, _), (35, _)]) au9 (QM.then ?_))
  refine wpM.condD rfl (fun h3 => ?_) (fun h3 => ?_)
  ·
   refine wpM.region ?_
   refine LM.mv rfl ?_
   refine LM.val (ov_nilCheck rfl) ?_
   refine LM.val (ov_field Try.underlying110 rfl Try.sizeOf108 rfl (k := 2) rfl rfl) ?_
   refine LM.rd (om_ld Try.isAgg108 rfl rfl) ?_
   refine LM.mv rfl ?_
   refine LM.val (ov_idxSN au6 Try.underlying108 Try.sizeOf112 rfl rfl (by omega)) ?_
   refine LM.val (ov_field Try.underlying112 rfl Try.sizeOf26 rfl (k := 1) rfl rfl) ?_
   refine LM.rd (om_slE (j := 1) (by assumption) (by intro _; rfl) Try.isAgg26 rfl rfl au3 rfl (by rfl)) ?_
   refine LM.as rfl ?_
   refine LM.nil (QM.sub (e' := [(0, _), (2, _), (3, _)]) au9 ?_)
   refine QM.block_normal ?_
   refine QM.then (wpM.region ?_)
   refine LM.mv rfl ?_
   refine LM.val (ov_add64 rfl rfl (by omega)) ?_
   refine LM.as rfl ?_
   refine LM.nil (QM.sub (e' := [(0, _), (2, _), (3, _)]) au9 ?_)
   refine QM.againK (i + 1) ⟨(by first | exact lk rfl (by obtain ⟨t, l, e⟩ := ne_cons (l := x.l) (fun q => (by rw [q] at hl1; cases hl1)); rw [e]; rfl) | exact lk rfl (by rw [take_snoc default (by omega), minO_snoc (take_ne hi1 hi)]; first | rw [if_pos (by assumption)] | rw [if_neg (by assumption)])), au2, rfl, trivial⟩ au1 (fun _ h => h) ?_ ?_
   · exact ⟨by omega, by omega⟩
   · omega
  refine wpM.skip ?_
  refine QM.block_normal ?_
  refine QM.then (wpM.region ?_)
  refine LM.mv rfl ?_
  refine LM.val (ov_add64 rfl rfl (by omega)) ?_
  refine LM.as rfl ?_
  refine LM.nil (QM.sub (e' := [(0, _), (2, _), (3, _)]) au9 ?_)
  refine QM.againK (i + 1) ⟨(by first | exact lk rfl (by obtain ⟨t, l, e⟩ := ne_cons (l := x.l) (fun q => (by rw [q] at hl1; cases hl1)); rw [e]; rfl) | exact lk rfl (by rw [take_snoc default (by omega), minO_snoc (take_ne hi1 hi)]; first | rw [if_pos (by assumption)] | rw [if_neg (by assumption)])), au2, rfl, trivial⟩ au1 (fun _ h => h) ?_ ?_
  · exact ⟨by omega, by omega⟩
  · omega
 have hil : i = x.l.length := (by omega); subst hil; rw [List.take_length]
 refine wpM.exit ?_
 refine QM.then_exit ?_
 refine QM.then_exit ?_
 refine QM.block_hit ?_
 refine QM.then (wpM.seq (wpM.region ?_))
 refine LM.mv rfl (LM.mv rfl ?_)
 refine LM.val (ov_nilCheck rfl) ?_
 refine LM.val (ov_field Try.underlying110 rfl Try.sizeOf26 rfl (k := 1) rfl rfl) ?_
 refine LM.rd (om_ld Try.isAgg26 rfl rfl) ?_
 refine LM.val (ov_ugtr rfl rfl) ?_
 refine LM.nil (QM.sub (e' := [(0, _), (2, _), (49, _)]) au9 (QM.then ?_))
 refine wpM.condD rfl (fun h4 => ?_) (fun h4 => ?_)
 ·
  refine wpM.region ?_
  refine LM.mv rfl (LM.mv rfl ?_)
  refine LM.val (ov_nilCheck rfl) ?_
  refine LM.val (ov_field Try.underlying110 rfl Try.sizeOf26 rfl (k := 1) rfl rfl) ?_
  refine LM.st Try.sizeOf26 rfl rfl rfl au5 rfl (fun hlt => by first | exact inM_0 | exact absurd hlt (by omega)) ?_
  refine LM.mem (SubM.mem (M' := rfC b x.g (minO x.l) ad n cap x.cur x.ran :: (ms ++ [])) au1) ?_
  refine LM.nil (QM.sub (e' := []) trivial ?_)
  refine QM.leave (.inr rfl) [] Try.results34 rfl ?_
  intro w' hm' hc' hg'
  have hwf := setl_wf hq; rw [setlQ_pos (fun q => by rw [q] at hl1; cases hl1), if_pos h4] at hwf ⊢; exact rfm_leaf (x' := { x with fl := minO x.l }) hwf hn hs hb hm' au1 hc' (inn_refl _ _)
 refine wpM.skip ?_
 refine QM.leave (.inr rfl) [] Try.results34 rfl ?_
 intro w' hm' hc' hg'
 rw [setlQ_pos (fun q => by rw [q] at hl1; cases hl1), if_neg h4]; exact rfm_leaf (x' := x) hq hn hs hb hm' au1 hc' (inn_refl _ _)
end Go.Eng
namespace Go.Eng
open Go Go.Proofs Go.RowKit
theorem upd_m {m m' M : Mem0} {T : Value → Mem0 → Prop} {u : Value} {w w' : World} (hT : T u m') (hm : Mem w' M) (hs : SubM M (m' ++ [])) (hc : Chg (inM m) w w') (hin : inn m w.heap.size m') : Upd m T w u w' := by
  rw [List.append_nil] at hs
  exact ⟨hc, m', hT, hs.mem w' hm, hin⟩
theorem inM_in {m : Mem0} : ∀ p ∈ m, inM m p.1 := fun p hp => ⟨p, hp, rfl⟩
theorem go1_ran {x : Qm} (h : QWf x) : (goQ1 x).ran ≤ x.ran := by
  have := h.ran
  unfold goQ1; split
  · unfold bakQ; split
    · exact this
    · exact Int.le_refl _
  · exact Int.le_refl _
theorem go2_ran {x : Qm} (h : QWf x) : (goQ2 x).ran ≤ x.ran := by
  have h1 := go1_ran h
  have := h.ran
  unfold goQ2; split
  · exact h1
  · unfold pikQ; split
    · exact h1
    · exact this
theorem go_ran {x : Qm} (h : QWf x) : (goQ x).ran ≤ x.ran + 1 := by
  have h2 := go2_ran h
  have : (goQ x).ran = (tickQ (goQ2 x)).ran := (setl_same _).2.2.1
  rw [this]; unfold tickQ; split
  · show (goQ2 x).ran + 1 ≤ _; omega
  · omega
theorem go1_due {x : Qm} (h : dueO x = true) : goQ1 x = bakQ x := if_pos h
theorem go1_not {x : Qm} (h : dueO x = false) : goQ1 x = x := if_neg (by rw [h]; simp)
theorem due_back {x : Qm} (h : dueO x = true) : bakQ x = backQ x := by
  have : 0 ≤ x.cur := by
    rcases Int.lt_or_le x.cur 0 with q | q
    · rw [due_not (by omega)] at h; cases h
    · exact q
  exact if_pos this
set_option maxRecDepth 100000 in
theorem goOn_spec {n0 b : Nat} {x : Qm} {m : Mem0} (w : World) (h : RqM n0 b x m) (hr : x.ran ≤ 1000000000000) (hn0 : n0 ≤ w.heap.size) (hM : Mem w m) : Ret Try.prog 15 #[.pointer (some ⟨b, 0, none⟩)] w (Upd m (fun u m' => u = .int .i64 (goO x) ∧ RqM n0 b (goQ x) m') w) := by
 refine Ret.enterM (l := [.pointer (some ⟨b, 0, none⟩)]) Try.func15 rfl Try.ntmps15 rfl (m ++ []) ((inM m)) (by rw [List.append_nil]; exact hM) ?_
 refine wpM.seq (wpM.region ?_)
 refine LM.as rfl ?_
 refine LM.nil (QM.sub (e' := [(0, _)]) ⟨rfl, trivial⟩ (QM.then ?_))
 refine wpM.seq ?_
 refine wpM.seq (wpM.region ?_)
 refine LM.mv rfl ?_
 refine LM.callE (oc_call (enters_fn Try.func39 (by kernel_rfl) rfl) rfl) (fun w hm hc hg => due_spec w h (hm.pick m)) ?_
 refine LM.nil (QM.sub (e' := [(0, _), (9, _)]) au9 (QM.then ?_))
 refine wpM.joinK (α := Mem0) (fun m1 => []) [(0, _)] (fun m1 => m1 ++ []) (fun m1 => RqM n0 b (goQ1 x) m1 ∧ inn m w.heap.size m1) ⟨rfl, trivial⟩ ?_ ?_
 ·
  first | refine wpM.condD rfl (fun h1 => ?_) (fun h1 => ?_) | refine wpM.condB rfl (fun h1 => ?_) (fun h1 => ?_)
  ·
   refine wpM.region ?_
   refine LM.mv rfl ?_
   refine LM.cU (oc_call (enters_fn Try.func28 (by kernel_rfl) rfl) rfl) (fun w hm hc hg => back_spec w h (Nat.le_trans hn0 hc.size) (hm.pick m)) h.wlk (fun p hp _ => ⟨p, hp, rfl⟩) ?_
   rintro u11 m11 ⟨rfl, h11⟩ hin11
   refine LM.nil (QM.sub (e' := [(0, _)]) ⟨rfl, trivial⟩ ?_)
   refine QM.meetK (m11) ⟨rfl, trivial⟩ au1 ?_
   · exact ⟨by rw [go1_due h1]; exact h11, hin11⟩
  refine wpM.skip ?_
  refine QM.meetK (m) ⟨rfl, trivial⟩ au1 ?_
  · exact ⟨by rw [go1_not h1]; exact h, inn_refl _ _⟩
 rintro m1 ⟨hq1, hi1⟩
 change QM _ _ _ _ _ (m1 ++ []) _ _ _
 refine QM.then ?_
 refine wpM.seq ?_
 refine wpM.seq (wpM.region ?_)
 refine LM.mv rfl ?_
 refine LM.callE (oc_call (enters_fn Try.func37 (by kernel_rfl) rfl) rfl) (fun w hm hc hg => rqCur_spec w hq1 (hm.pick m1)) ?_
 refine LM.mv rfl ?_
 refine LM.val (ov_extract rfl rfl) ?_
 refine LM.val (ov_extract rfl rfl) ?_
 refine LM.val (ov_extract rfl rfl) ?_
 refine LM.as rfl (LM.as rfl (LM.as rfl ?_))
 refine LM.nil (QM.sub (e' := [(0, _), (5, _)]) au9 (QM.then (wpM.seq (wpM.region ?_))))
 refine LM.mv rfl ?_
 refine LM.val (ov_notD rfl) ?_
 refine LM.nil (QM.sub (e' := [(0, _), (19, _)]) au9 (QM.then ?_))
 refine wpM.joinK (α := Mem0) (fun m2 => []) [(0, _)] (fun m2 => m2 ++ []) (fun m2 => RqM n0 b (goQ2 x) m2 ∧ inn m w.heap.size m2) ⟨rfl, trivial⟩ ?_ ?_
 ·
  refine wpM.condD rfl (fun h2 => ?_) (fun h2 => ?_)
  ·
   refine wpM.region ?_
   refine LM.mv rfl ?_
   refine LM.cU (oc_call (enters_fn Try.func26 (by kernel_rfl) rfl) rfl) (fun w hm hc hg => pick_spec w hq1 (hm.pick m1)) hq1.wlk (inn_S hi1 inM_in) ?_
   rintro u21 m21 ⟨rfl, h21⟩ hin21
   refine LM.nil (QM.sub (e' := [(0, _)]) ⟨rfl, trivial⟩ ?_)
   refine QM.meetK (m21) ⟨rfl, trivial⟩ au1 ?_
   · exact ⟨by rw [show goQ2 x = pikQ (goQ1 x) from if_neg (by have := Classical.not_not.1 h2; omega)]; exact h21, inn_trans hi1 hin21⟩
  refine wpM.skip ?_
  refine QM.meetK (m1) ⟨rfl, trivial⟩ au1 ?_
  · exact ⟨by rw [show goQ2 x = goQ1 x from if_pos (cur_pos hq1.1 (Classical.not_not.1 h2))]; exact hq1, hi1⟩
 rintro m2 ⟨hq2, hi2⟩
 change QM _ _ _ _ _ (m2 ++ []) _ _ _
 refine QM.then (wpM.seq (wpM.region ?_))
 refine LM.mv rfl ?_
 refine LM.cU (oc_call (enters_fn Try.func30 (by kernel_rfl) rfl) rfl) (fun w hm hc hg => tick_spec w hq2 (Int.le_trans (go2_ran h.1) hr) (hm.pick m2)) hq2.wlk (inn_S hi2 inM_in) ?_
 rintro u24 m24 ⟨rfl, h24⟩ hin24
 refine LM.mv rfl ?_
 refine LM.val (ov_extract rfl rfl) ?_
 refine LM.val (ov_extract rfl rfl) ?_
 refine LM.as rfl (LM.as rfl ?_)
 refine LM.nil (QM.sub (e' := [(0, _), (6, _)]) au9 (QM.then (wpM.seq (wpM.region ?_))))
 refine LM.mv rfl ?_
 refine LM.cU (oc_call (enters_fn Try.func33 (by kernel_rfl) rfl) rfl) (fun w hm hc hg => settle_spec w h24 (hm.pick m24)) h24.wlk (inn_S (inn_trans hi2 hin24) inM_in) ?_
 rintro u28 m28 ⟨rfl, h28⟩ hin28
 refine LM.nil (QM.sub (e' := [(6, _)]) ⟨rfl, trivial⟩ (QM.then (wpM.seq (wpM.region ?_))))
 refine LM.mv rfl (LM.as rfl ?_)
 refine LM.nil (QM.sub (e' := [(2, _)]) ⟨rfl, trivial⟩ (QM.then ?_))
 refine wpM.ret ?_
 refine QM.leave (.inl rfl) [.tmp 2] Try.results15 rfl ?_
 intro w' hm' hc' hg'
 exact upd_m ⟨rfl, h28⟩ hm' au1 hc' (inn_trans (inn_trans hi2 hin24) hin28)
set_option maxRecDepth 100000 in
theorem rfGo_spec {n0 b : Nat} {x : Qm} {m : Mem0} (w : World) (h : RfM n0 b x m) (hr : x.ran ≤ 1000000000000) (hM : Mem w m) : Ret Try.prog 35 #[.pointer (some ⟨b, 0, none⟩)] w (Upd m (fun u m' => u = .int .i64 (goO x) ∧ RfM n0 b (goQ x) m') w) := by
 refine Ret.enterM (l := [.pointer (some ⟨b, 0, none⟩)]) Try.func35 rfl Try.ntmps35 rfl (m ++ []) ((inM m)) (by rw [List.append_nil]; exact hM) ?_
 refine wpM.seq (wpM.region ?_)
 refine LM.as rfl ?_
 refine LM.nil (QM.sub (e' := [(0, _)]) ⟨rfl, trivial⟩ (QM.then ?_))
 refine wpM.seq ?_
 refine wpM.seq (wpM.region ?_)
 refine LM.mv rfl ?_
 refine LM.callE (oc_call (enters_fn Try.func79 (by kernel_rfl) rfl) rfl) (fun w hm hc hg => rfDue_spec w h (hm.pick m)) ?_
 refine LM.nil (QM.sub (e' := [(0, _), (5, _)]) au9 (QM.then ?_))
 refine wpM.joinK (α := Mem0) (fun m1 => []) [(0, _)] (fun m1 => m1 ++ []) (fun m1 => RfM n0 b (goQ1 x) m1 ∧ inn m w.heap.size m1) ⟨rfl, trivial⟩ ?_ ?_
 ·
  first | refine wpM.condD rfl (fun h1 => ?_) (fun h1 => ?_) | refine wpM.condB rfl (fun h1 => ?_) (fun h1 => ?_)
  ·
   refine wpM.region ?_
   refine LM.mv rfl ?_
   refine LM.cU (oc_call (enters_fn Try.func29 (by kernel_rfl) rfl) rfl) (fun w hm hc hg => rfBack_spec w h (hm.pick m)) h.wlk (fun p hp _ => ⟨p, hp, rfl⟩) ?_
   rintro u7 m7 ⟨rfl, h7⟩ hin7
   refine LM.nil (QM.sub (e' := [(0, _)]) ⟨rfl, trivial⟩ ?_)
   refine QM.meetK (m7) ⟨rfl, trivial⟩ au1 ?_
   · exact ⟨by rw [go1_due h1, due_back h1]; exact h7, hin7⟩
  refine wpM.skip ?_
  refine QM.meetK (m) ⟨rfl, trivial⟩ au1 ?_
  · exact ⟨by rw [go1_not h1]; exact h, inn_refl _ _⟩
 rintro m1 ⟨hq1, hi1⟩
 change QM _ _ _ _ _ (m1 ++ []) _ _ _
 have hh1 := hq1; obtain ⟨hqf, ad1, n1, cap1, ms1, rfl, hn1, hs1, hb1⟩ := hq1
 refine QM.then ?_
 refine wpM.seq ?_
 refine wpM.seq (wpM.region ?_)
 refine LM.mv rfl ?_
 refine LM.val (ov_nilCheck rfl) ?_
 refine LM.val (ov_field Try.underlying110 rfl Try.sizeOf3 rfl (k := 3) rfl rfl) ?_
 refine LM.rd (om_ld Try.isAgg3 rfl rfl) ?_
 refine LM.val (ov_lss rfl rfl) ?_
 refine LM.nil (QM.sub (e' := [(0, _), (12, _)]) au9 (QM.then ?_))
 refine wpM.joinK (α := Mem0) (fun m2 => []) [(0, _)] (fun m2 => m2 ++ []) (fun m2 => RfM n0 b (goQ2 x) m2 ∧ inn m w.heap.size m2) ⟨rfl, trivial⟩ ?_ ?_
 ·
  refine wpM.condD rfl (fun h2 => ?_) (fun h2 => ?_)
  ·
   refine wpM.region ?_
   refine LM.mv rfl ?_
   refine LM.cU (oc_call (enters_fn Try.func27 (by kernel_rfl) rfl) rfl) (fun w hm hc hg => rfPick_spec w hh1 (hm.pick (rfC b (goQ1 x).g (goQ1 x).fl ad1 n1 cap1 (goQ1 x).cur (goQ1 x).ran :: ms1))) hh1.wlk (inn_S hi1 inM_in) ?_
   rintro u14 m14 ⟨rfl, h14⟩ hin14
   refine LM.nil (QM.sub (e' := [(0, _)]) ⟨rfl, trivial⟩ ?_)
   refine QM.meetK (m14) ⟨rfl, trivial⟩ au1 ?_
   · exact ⟨by rw [show goQ2 x = pikQ (goQ1 x) from if_neg (by omega)]; exact h14, inn_trans hi1 hin14⟩
  refine wpM.skip ?_
  refine QM.meetK (rfC b (goQ1 x).g (goQ1 x).fl ad1 n1 cap1 (goQ1 x).cur (goQ1 x).ran :: ms1) ⟨rfl, trivial⟩ au1 ?_
  · exact ⟨by rw [show goQ2 x = goQ1 x from if_pos (by omega)]; exact hh1, hi1⟩
 rintro m2 ⟨hq2, hi2⟩
 change QM _ _ _ _ _ (m2 ++ []) _ _ _
 refine QM.then (wpM.seq (wpM.region ?_))
 refine LM.mv rfl ?_
 refine LM.cU (oc_call (enters_fn Try.func31 (by kernel_rfl) rfl) rfl) (fun w hm hc hg => rfTick_spec w hq2 (Int.le_trans (go2_ran h.1) hr) (hm.pick m2)) hq2.wlk (inn_S hi2 inM_in) ?_
 rintro u16 m16 ⟨rfl, h16⟩ hin16
 refine LM.as rfl ?_
 refine LM.nil (QM.sub (e' := [(0, _), (3, _)]) au9 (QM.then (wpM.seq (wpM.region ?_))))
 refine LM.mv rfl ?_
 refine LM.cU (oc_call (enters_fn Try.func34 (by kernel_rfl) rfl) rfl) (fun w hm hc hg => rfSettle_spec w h16 (hm.pick m16)) h16.wlk (inn_S (inn_trans hi2 hin16) inM_in) ?_
 rintro u18 m18 ⟨rfl, h18⟩ hin18
 refine LM.nil (QM.sub (e' := [(3, _)]) ⟨rfl, trivial⟩ (QM.then (wpM.seq (wpM.region ?_))))
 refine LM.mv rfl (LM.as rfl ?_)
 refine LM.nil (QM.sub (e' := [(2, _)]) ⟨rfl, trivial⟩ (QM.then ?_))
 refine wpM.ret ?_
 refine QM.leave (.inl rfl) [.tmp 2] Try.results35 rfl ?_
 intro w' hm' hc' hg'
 exact upd_m ⟨rfl, h18⟩ hm' au1 hc' (inn_trans (inn_trans hi2 hin16) hin18)
def awQ : Nat → Qm
  | 0 => addX (addX (newQ 1) 1 0#64 2) 2 0#64 1
  | k + 1 => goQ (awQ k)
def awN : Nat → Int
  | 0 => 0
  | k + 1 => if goO (awQ k) = 1 then awN k + 1 else awN k
theorem awQ_wf : ∀ k, QWf (awQ k)
  | 0 => addX_wf (addX_wf (new_wf 1) _ _ _) _ _ _
  | k + 1 => go_wf (awQ_wf k)
theorem awQ_ran : ∀ k, (awQ k).ran ≤ k
  | 0 => by have : (awQ 0).ran = 0 := by kernel_rfl
            omega
  | k + 1 => by have := go_ran (awQ_wf k); have := awQ_ran k; show (goQ (awQ k)).ran ≤ _; omega
theorem awN_pos {k : Nat} (h : goO (awQ k) = 1) : awN k + 1 = awN (k + 1) := by rw [show awN (k + 1) = if goO (awQ k) = 1 then awN k + 1 else awN k from rfl, if_pos h]
theorem awN_neg {k : Nat} (h : ¬ goO (awQ k) = 1) : awN k = awN (k + 1) := by rw [show awN (k + 1) = if goO (awQ k) = 1 then awN k + 1 else awN k from rfl, if_neg h]
theorem awN_bd : ∀ k, 0 ≤ awN k ∧ awN k ≤ k
  | 0 => ⟨Int.le_refl _, Int.le_refl _⟩
  | k + 1 => by have := awN_bd k; unfold awN; split <;> omega
theorem aw6 : awN 6 = 4 ∧ (gQ (awQ 6).l 1).V = 2199023255552#64 ∧ decide (ixO (awQ 6).l 1 < (awQ 6).l.length) = true ∧ (awQ 6).fl = 2199023255552#64 ∧ loadO (awQ 6).l = 3 ∧ (awQ 6).l.length = 2 := by
  refine ⟨?_, ?_, ?_, ?_, ?_, ?_⟩ <;> kernel_rfl
set_option maxRecDepth 100000 in
theorem awake16_spec (w : World) : Ret Try.prog 11 #[] w (fun v w' => v = .bool true ∧ Ext w w') := by
 refine Ret.enterM (l := []) Try.func11 rfl Try.ntmps11 rfl ([]) (no) (Mem.nil w) ?_
 refine wpM.seq (wpM.region ?_)
 refine LM.as rfl ?_
 refine LM.nil (QM.sub (e' := []) trivial (QM.then (wpM.seq (wpM.region ?_))))
 refine LM.callT (oc_call (enters_fn Try.func12 (by kernel_rfl) rfl) rfl) RqN.mono (fun w hm hc hg => rqnew_spec 1 w) ?_
 rintro u5 m5 ⟨b, rfl, h5⟩ hge5
 refine LM.as rfl ?_
 refine LM.nil (QM.sub (e' := [(1, _)]) ⟨rfl, trivial⟩ (QM.then (wpM.seq (wpM.region ?_))))
 refine LM.mv rfl ?_
 refine LM.cU (oc_call (enters_fn Try.func13 (by kernel_rfl) rfl) rfl) (fun w hm hc hg => rqAdd_spec 1 0#64 2 w h5 hc.size (hm.pick m5)) h5.wlk (fun p hp hlt => absurd hlt (Nat.not_lt_of_le (h5.ge p hp))) ?_
 rintro u7 m7 ⟨rfl, h7⟩ hin7
 refine LM.nil (QM.sub (e' := [(1, _)]) ⟨rfl, trivial⟩ (QM.then (wpM.seq (wpM.region ?_))))
 refine LM.mv rfl ?_
 refine LM.cU (oc_call (enters_fn Try.func13 (by kernel_rfl) rfl) rfl) (fun w hm hc hg => rqAdd_spec 2 0#64 1 w h7 hc.size (hm.pick m7)) h7.wlk (fun p hp hlt => absurd hlt (Nat.not_lt_of_le (h7.ge p hp))) ?_
 rintro u9 m9 ⟨rfl, h9⟩ hin9
 refine LM.nil (QM.sub (e' := [(1, _)]) ⟨rfl, trivial⟩ (QM.then (wpM.seq (wpM.region ?_))))
 refine LM.as rfl ?_
 refine LM.nil (QM.sub (e' := [(1, _), (2, _)]) au9 (QM.then ?_))
 refine wpM.seq ?_
 refine wpM.seq (wpM.region ?_)
 refine LM.mv rfl ?_
 refine LM.nil (QM.sub (e' := [(1, _), (2, _), (10, _)]) au9 (QM.then ?_))
 refine wpM.block ?_
 refine wpM.loopK0 (α := Nat × Mem0) (fun ⟨i, mi⟩ => [(2, .int .i64 (awN i)), (10, .int .i64 (i : Nat))]) [(1, _)] (fun ⟨i, mi⟩ => mi ++ []) (fun ⟨i, mi⟩ => i ≤ 6 ∧ RqM w.heap.size b (awQ i) mi) (fun ⟨i, mi⟩ => 6 - i) ((0, m9)) ⟨(by first | exact lk rfl (congrArg (Value.int .i64) (awN_pos (by assumption))) | exact lk rfl (congrArg (Value.int .i64) (awN_neg (by assumption))) | rfl), au2, rfl, trivial⟩ au1 ⟨by omega, h9⟩ ?_
 rintro ⟨i, mi⟩ ⟨hi, hq⟩
 change wpM _ _ _ _ _ _ _ (mi ++ []) _ _ _
 have hnb := awN_bd i; have hrn := awQ_ran i
 refine wpM.seq (wpM.region ?_)
 refine LM.val (ov_lss rfl rfl) ?_
 refine LM.nil (QM.sub (e' := [(1, _), (2, _), (10, _), (11, _)]) au9 (QM.then ?_))
 refine wpM.seq ?_
 refine wpM.condD rfl (fun h1 => ?_) (fun h1 => ?_)
 ·
  refine wpM.skip ?_
  refine QM.then ?_
  refine wpM.seq ?_
  refine wpM.block ?_
  refine wpM.seq (wpM.region ?_)
  refine LM.mv rfl ?_
  refine LM.cU (oc_call (enters_fn Try.func15 (by kernel_rfl) rfl) rfl) (fun w hm hc hg => goOn_spec w hq (by omega) hc.size (hm.pick mi)) hq.wlk (fun p hp hlt => absurd hlt (Nat.not_lt_of_le (hq.ge p hp))) ?_
  rintro u13 m13 ⟨rfl, h13⟩ hin13
  refine LM.val (ov_eql rfl rfl) ?_
  refine LM.nil (QM.sub (e' := [(1, _), (2, _), (10, _), (14, _)]) au9 (QM.then ?_))
  refine wpM.condD rfl (fun h2 => ?_) (fun h2 => ?_)
  ·
   refine wpM.region ?_
   refine LM.mv rfl ?_
   refine LM.val (ov_add64 rfl rfl (by omega)) ?_
   refine LM.as rfl ?_
   refine LM.nil (QM.sub (e' := [(1, _), (2, _), (10, _)]) au9 ?_)
   refine QM.block_normal ?_
   refine QM.then (wpM.region ?_)
   refine LM.val (ov_add64 rfl rfl (by omega)) ?_
   refine LM.mv rfl ?_
   refine LM.nil (QM.sub (e' := [(1, _), (2, _), (10, _)]) au9 ?_)
   refine QM.againK (i + 1, m13) ⟨(by first | exact lk rfl (congrArg (Value.int .i64) (awN_pos (by assumption))) | exact lk rfl (congrArg (Value.int .i64) (awN_neg (by assumption))) | rfl), au2, rfl, trivial⟩ au1 (fun _ h => h) ?_ ?_
   · exact ⟨by omega, h13⟩
   · first | omega | (dsimp only; omega)
  refine wpM.skip ?_
  refine QM.block_normal ?_
  refine QM.then (wpM.region ?_)
  refine LM.val (ov_add64 rfl rfl (by omega)) ?_
  refine LM.mv rfl ?_
  refine LM.nil (QM.sub (e' := [(1, _), (2, _), (10, _)]) au9 ?_)
  refine QM.againK (i + 1, m13) ⟨(by first | exact lk rfl (congrArg (Value.int .i64) (awN_pos (by assumption))) | exact lk rfl (congrArg (Value.int .i64) (awN_neg (by assumption))) | rfl), au2, rfl, trivial⟩ au1 (fun _ h => h) ?_ ?_
  · exact ⟨by omega, h13⟩
  · first | omega | (dsimp only; omega)
 have hi6 : i = 6 := (by omega); subst hi6; obtain ⟨e1, e2, e3, e4, e5, e6⟩ := aw6
 refine wpM.exit ?_
 refine QM.then_exit ?_
 refine QM.then_exit ?_
 refine QM.block_hit ?_
 refine QM.then (wpM.seq (wpM.region ?_))
 refine LM.mv rfl ?_
 refine LM.callE (oc_call (enters_fn Try.func14 (by kernel_rfl) rfl) rfl) (fun w hm hc hg => rqV_spec 1 w hq (hm.pick mi)) ?_
 refine LM.mv rfl ?_
 refine LM.val (ov_extract rfl rfl) ?_
 refine LM.val (ov_extract rfl rfl) ?_
 refine LM.as rfl (LM.as rfl ?_)
 refine LM.nil (QM.sub (e' := [(1, _), (2, _), (3, _), (4, _)]) au9 (QM.then (wpM.seq (wpM.region ?_))))
 refine LM.mv rfl ?_
 refine LM.val (ov_eql rfl rfl) ?_
 refine LM.mv rfl ?_
 refine LM.splitD (t := 25) rfl (fun h3 => ?_) (fun h3 => ?_)
 ·
  refine LM.sp 25 rfl rfl rfl (LM.mv rfl ?_)
  refine LM.val (ov_pickT rfl rfl) ?_
  refine LM.mv rfl ?_
  refine LM.splitD (t := 28) rfl (fun h4 => ?_) (fun h4 => ?_)
  ·
   refine LM.sp 28 rfl rfl rfl (LM.mv rfl (LM.sp 28 rfl rfl rfl ?_))
   refine LM.val (ov_ueql (b := 2199023255552#64) rfl rfl) ?_
   refine LM.val (ov_pickT rfl rfl) ?_
   refine LM.mv rfl ?_
   refine LM.splitD (t := 32) rfl (fun h5 => ?_) (fun h5 => ?_)
   ·
    refine LM.sp 32 rfl rfl rfl (LM.mv rfl (LM.sp 32 rfl rfl rfl ?_))
    refine LM.callE (oc_call (enters_fn Try.func19 (by kernel_rfl) rfl) rfl) (fun w hm hc hg => rqFlo_spec w hq (hm.pick mi)) ?_
    refine LM.sp 32 rfl rfl rfl ?_
    refine LM.val (ov_ueql (b := 2199023255552#64) rfl rfl) ?_
    refine LM.val (ov_pickT rfl rfl) ?_
    refine LM.mv rfl ?_
    refine LM.splitD (t := 37) rfl (fun h6 => ?_) (fun h6 => ?_)
    ·
     refine LM.sp 37 rfl rfl rfl (LM.mv rfl (LM.sp 37 rfl rfl rfl ?_))
     refine LM.callE (oc_call (enters_fn Try.func41 (by kernel_rfl) rfl) rfl) (fun w hm hc hg => rqLoad_spec w hq (hm.pick mi)) ?_
     refine LM.sp 37 rfl rfl rfl ?_
     refine LM.val (ov_eql rfl rfl) ?_
     refine LM.val (ov_pickT rfl rfl) ?_
     refine LM.mv rfl ?_
     refine LM.splitD (t := 42) rfl (fun h7 => ?_) (fun h7 => ?_)
     ·
      refine LM.sp 42 rfl rfl rfl (LM.mv rfl (LM.sp 42 rfl rfl rfl ?_))
      refine LM.callE (oc_call (enters_fn Try.func40 (by kernel_rfl) rfl) rfl) (fun w hm hc hg => rqLen_spec w hq (hm.pick mi)) ?_
      refine LM.sp 42 rfl rfl rfl ?_
      refine LM.val (ov_eql rfl rfl) ?_
      refine LM.val (ov_pickT rfl rfl) ?_
      refine LM.as rfl ?_
      refine LM.nil (QM.sub (e' := [(0, _)]) ⟨rfl, trivial⟩ (QM.then ?_))
      refine wpM.ret ?_
      refine QM.leave (.inl rfl) [.tmp 0] Try.results11 rfl ?_
      intro w' hm' hc' hg'
      exact ⟨rfl, hc'⟩
     refine LM.dr 42 rfl rfl rfl (LM.dr 42 rfl rfl rfl (LM.dr 42 rfl rfl rfl ?_))
     refine LM.val (ov_pickF rfl rfl) ?_
     refine LM.as rfl ?_
     refine LM.nil (QM.sub (e' := [(0, _)]) ⟨rfl, trivial⟩ (QM.then ?_))
     refine wpM.ret ?_
     refine QM.leave (.inl rfl) [.tmp 0] Try.results11 rfl ?_
     intro w' hm' hc' hg'
     first | exact ⟨rfl, hc'⟩ | (exfalso; first | omega | (simp at *; done) | (simp_all; done))
    refine LM.dr 37 rfl rfl rfl (LM.dr 37 rfl rfl rfl (LM.dr 37 rfl rfl rfl ?_))
    refine LM.val (ov_pickF rfl rfl) ?_
    refine LM.mv rfl (LM.dr 42 rfl rfl rfl (LM.dr 42 rfl rfl rfl (LM.dr 42 rfl rfl rfl ?_)))
    refine LM.val (ov_pickF rfl rfl) ?_
    refine LM.as rfl ?_
    refine LM.nil (QM.sub (e' := [(0, _)]) ⟨rfl, trivial⟩ (QM.then ?_))
    refine wpM.ret ?_
    refine QM.leave (.inl rfl) [.tmp 0] Try.results11 rfl ?_
    intro w' hm' hc' hg'
    first | exact ⟨rfl, hc'⟩ | (exfalso; first | omega | (simp at *; done) | (simp_all; done))
   refine LM.dr 32 rfl rfl rfl (LM.dr 32 rfl rfl rfl (LM.dr 32 rfl rfl rfl ?_))
   refine LM.val (ov_pickF rfl rfl) ?_
   refine LM.mv rfl (LM.dr 37 rfl rfl rfl (LM.dr 37 rfl rfl rfl (LM.dr 37 rfl rfl rfl ?_)))
   refine LM.val (ov_pickF rfl rfl) ?_
   refine LM.mv rfl (LM.dr 42 rfl rfl rfl (LM.dr 42 rfl rfl rfl (LM.dr 42 rfl rfl rfl ?_)))
   refine LM.val (ov_pickF rfl rfl) ?_
   refine LM.as rfl ?_
   refine LM.nil (QM.sub (e' := [(0, _)]) ⟨rfl, trivial⟩ (QM.then ?_))
   refine wpM.ret ?_
   refine QM.leave (.inl rfl) [.tmp 0] Try.results11 rfl ?_
   intro w' hm' hc' hg'
   first | exact ⟨rfl, hc'⟩ | (exfalso; first | omega | (simp at *; done) | (simp_all; done))
  refine LM.dr 28 rfl rfl rfl (LM.dr 28 rfl rfl rfl ?_)
  refine LM.val (ov_pickF rfl rfl) ?_
  refine LM.mv rfl (LM.dr 32 rfl rfl rfl (LM.dr 32 rfl rfl rfl (LM.dr 32 rfl rfl rfl ?_)))
  refine LM.val (ov_pickF rfl rfl) ?_
  refine LM.mv rfl (LM.dr 37 rfl rfl rfl (LM.dr 37 rfl rfl rfl (LM.dr 37 rfl rfl rfl ?_)))
  refine LM.val (ov_pickF rfl rfl) ?_
  refine LM.mv rfl (LM.dr 42 rfl rfl rfl (LM.dr 42 rfl rfl rfl (LM.dr 42 rfl rfl rfl ?_)))
  refine LM.val (ov_pickF rfl rfl) ?_
  refine LM.as rfl ?_
  refine LM.nil (QM.sub (e' := [(0, _)]) ⟨rfl, trivial⟩ (QM.then ?_))
  refine wpM.ret ?_
  refine QM.leave (.inl rfl) [.tmp 0] Try.results11 rfl ?_
  intro w' hm' hc' hg'
  first | exact ⟨rfl, hc'⟩ | (exfalso; first | omega | (simp at *; done) | (simp_all; done))
 refine LM.dr 25 rfl rfl rfl ?_
 refine LM.val (ov_pickF rfl rfl) ?_
 refine LM.mv rfl (LM.dr 28 rfl rfl rfl (LM.dr 28 rfl rfl rfl ?_))
 refine LM.val (ov_pickF rfl rfl) ?_
 refine LM.mv rfl (LM.dr 32 rfl rfl rfl (LM.dr 32 rfl rfl rfl (LM.dr 32 rfl rfl rfl ?_)))
 refine LM.val (ov_pickF rfl rfl) ?_
 refine LM.mv rfl (LM.dr 37 rfl rfl rfl (LM.dr 37 rfl rfl rfl (LM.dr 37 rfl rfl rfl ?_)))
 refine LM.val (ov_pickF rfl rfl) ?_
 refine LM.mv rfl (LM.dr 42 rfl rfl rfl (LM.dr 42 rfl rfl rfl (LM.dr 42 rfl rfl rfl ?_)))
 refine LM.val (ov_pickF rfl rfl) ?_
 refine LM.as rfl ?_
 refine LM.nil (QM.sub (e' := [(0, _)]) ⟨rfl, trivial⟩ (QM.then ?_))
 refine wpM.ret ?_
 refine QM.leave (.inl rfl) [.tmp 0] Try.results11 rfl ?_
 intro w' hm' hc' hg'
 first | exact ⟨rfl, hc'⟩ | (exfalso; first | omega | (simp at *; done) | (simp_all; done))
end Go.Eng
namespace Go.Eng
open Go Go.Proofs Go.RowKit
theorem bne_tt {b c : Bool} (h : b = c) : ¬ ((b != c) = true) := by subst h; simp
theorem cur_dec {x : Qm} (h : QWf x) : decide (x.cur ≠ -1) = decide (x.cur ≥ 0) := decide_eq_decide.2 ⟨fun q => cur_pos h q, fun q => by omega⟩
theorem at_dec (l : List Kv) (a : Int) : decide (ixO l a < l.length) = decide (atO l a ≥ 0) := decide_eq_decide.2 ⟨fun q => by rw [atO_hit q]; omega, fun q => atO_ge (by omega)⟩
set_option maxRecDepth 100000 in
theorem same16_spec {n0 n1 b b' : Nat} {x : Qm} {m mf : Mem0} (a : Int) (w : World) (h : RqM n0 b x m) (h' : RfM n1 b' x mf) (hM : Mem w (m ++ mf)) : Ret Try.prog 36 #[.pointer (some ⟨b, 0, none⟩), .pointer (some ⟨b', 0, none⟩), .int .i64 a] w (fun v w' => v = .bool true ∧ Ext w w') := by
 have hh := h'; have hrl := rdy_len h.1.nd; have hlen16 := h.1.len; obtain ⟨hq, ad, n, cap, ms, rfl, hn, hs, hb⟩ := h'
 refine Ret.enterM (l := [.pointer (some ⟨b, 0, none⟩), .pointer (some ⟨b', 0, none⟩), .int .i64 a]) Try.func36 rfl Try.ntmps36 rfl (m ++ (rfC b' x.g x.fl ad n cap x.cur x.ran :: (ms ++ []))) (no) (by rw [List.append_nil]; exact hM) ?_
 refine wpM.seq (wpM.region ?_)
 refine LM.as rfl ?_
 refine LM.nil (QM.sub (e' := [(0, _), (1, _), (2, _)]) au9 (QM.then (wpM.seq (wpM.region ?_))))
 refine LM.mv rfl ?_
 refine LM.callE (oc_call (enters_fn Try.func37 (by kernel_rfl) rfl) rfl) (fun w hm hc hg => rqCur_spec w h (hm.pick m)) ?_
 refine LM.mv rfl ?_
 refine LM.val (ov_extract rfl rfl) ?_
 refine LM.val (ov_extract rfl rfl) ?_
 refine LM.val (ov_extract rfl rfl) ?_
 refine LM.as rfl (LM.as rfl (LM.as rfl ?_))
 refine LM.nil (QM.sub (e' := [(0, _), (1, _), (2, _), (7, _), (8, _), (9, _)]) au9 (QM.then ?_))
 refine wpM.seq ?_
 refine wpM.seq ?_
 refine wpM.draw [(0, 0), (1, 0), (2, 0), (3, 0), (4, 1), (5, 0), (6, 0), (7, 0), (8, 0), (9, 0), (10, 0), (11, 1), (12, 0), (13, 0), (14, 0), (15, 0), (16, 0), (17, 0), (18, 0), (19, 0), (20, 1), (21, 0), (22, 0), (23, 0), (24, 0), (26, 0), (27, 0), (28, 0), (29, 1), (25, 2), (30, 0), (31, 0), (32, 0), (33, 0), (35, 0), (36, 0), (37, 0), (38, 1), (39, 0), (34, 2), (40, 0), (41, 0), (42, 0), (43, 0), (45, 0), (44, 2), (46, 2), (47, 0), (48, 0), (49, 0), (50, 0), (52, 0), (51, 2), (53, 2), (54, 0), (55, 0)] (by kernel_rfl) (by kernel_rfl) ?_
 refine LD.val rfl rfl (ov_move rfl) ?_
 refine LD.val rfl rfl (ov_move rfl) ?_
 refine LD.val rfl rfl (ov_nilCheck rfl) ?_
 refine LD.val rfl rfl (ov_field Try.underlying110 rfl Try.sizeOf3 rfl (k := 3) rfl rfl) ?_
 refine LD.rd rfl rfl (om_ld Try.isAgg3 rfl rfl) ?_
 refine LD.val rfl rfl (ov_neq rfl rfl) ?_
 refine LD.val rfl rfl (ov_move rfl) ?_
 refine LD.splitD (t := 30) rfl (fun h1 => ?_) (fun h1 => ?_)
 ·
  exact absurd rfl h1
 refine LD.val rfl ⟨30, _, rfl, rfl, rfl⟩ (ov_move rfl) ?_
 refine LD.val rfl ⟨30, _, rfl, rfl, rfl⟩ (ov_move rfl) ?_
 refine LD.val rfl ⟨30, _, rfl, rfl, rfl⟩ (ov_nilCheck rfl) ?_
 refine LD.val rfl ⟨30, _, rfl, rfl, rfl⟩ (ov_field Try.underlying110 rfl Try.sizeOf3 rfl (k := 3) rfl rfl) ?_
 refine LD.rd rfl ⟨30, _, rfl, rfl, rfl⟩ (om_ld Try.isAgg3 rfl rfl) ?_
 refine LD.val rfl ⟨30, _, rfl, rfl, rfl⟩ (ov_geq rfl rfl) ?_
 refine LD.val rfl ⟨30, _, rfl, rfl, rfl⟩ (ov_bneq Try.underlying4 rfl rfl) ?_
 refine LD.val rfl rfl (ov_pickF rfl rfl) ?_
 refine LD.val rfl rfl (ov_move rfl) ?_
 first | refine LD.splitD (t := 39) rfl (fun h2 => ?_) (fun h2 => ?_) | refine LD.splitB (t := 39) rfl (fun h2 => ?_) (fun h2 => ?_)
 ·
  exact absurd h2 (bne_tt (cur_dec hq))
 refine LD.val rfl ⟨39, _, rfl, rfl, rfl⟩ (ov_move rfl) ?_
 refine LD.val rfl ⟨39, _, rfl, rfl, rfl⟩ (ov_move rfl) ?_
 refine LD.val rfl ⟨39, _, rfl, rfl, rfl⟩ (ov_nilCheck rfl) ?_
 refine LD.val rfl ⟨39, _, rfl, rfl, rfl⟩ (ov_field Try.underlying110 rfl Try.sizeOf3 rfl (k := 4) rfl rfl) ?_
 refine LD.rd rfl ⟨39, _, rfl, rfl, rfl⟩ (om_ld Try.isAgg3 rfl rfl) ?_
 refine LD.val rfl ⟨39, _, rfl, rfl, rfl⟩ (ov_neq rfl rfl) ?_
 refine LD.val rfl rfl (ov_pickF rfl rfl) ?_
 refine LD.val rfl rfl (ov_move rfl) ?_
 refine LD.splitD (t := 47) rfl (fun h3 => ?_) (fun h3 => ?_)
 ·
  exact absurd rfl h3
 refine LD.val rfl ⟨47, _, rfl, rfl, rfl⟩ (ov_move rfl) ?_
 refine LD.val rfl ⟨47, _, rfl, rfl, rfl⟩ (ov_move rfl) ?_
 refine LD.val rfl ⟨47, _, rfl, rfl, rfl⟩ (ov_nilCheck rfl) ?_
 refine LD.val rfl ⟨47, _, rfl, rfl, rfl⟩ (ov_field Try.underlying110 rfl Try.sizeOf26 rfl (k := 1) rfl rfl) ?_
 refine LD.rd rfl ⟨47, _, rfl, rfl, rfl⟩ (om_ld Try.isAgg26 rfl rfl) ?_
 refine LD.callE rfl ⟨47, _, rfl, rfl, rfl⟩ (oc_call (enters_fn Try.func19 (by kernel_rfl) rfl) rfl) (fun w hm hc hg => rqFlo_spec w h (hm.pick m)) ?_
 refine LD.val rfl ⟨47, _, rfl, rfl, rfl⟩ (ov_uneq rfl rfl) ?_
 refine LD.val rfl rfl (ov_pickF rfl rfl) ?_
 refine LD.val rfl rfl (ov_move rfl) ?_
 refine LD.splitD (t := 56) rfl (fun h4 => ?_) (fun h4 => ?_)
 ·
  exact absurd rfl h4
 refine LD.val rfl ⟨56, _, rfl, rfl, rfl⟩ (ov_move rfl) ?_
 refine LD.val rfl ⟨56, _, rfl, rfl, rfl⟩ (ov_move rfl) ?_
 refine LD.val rfl ⟨56, _, rfl, rfl, rfl⟩ (ov_nilCheck rfl) ?_
 refine LD.val rfl ⟨56, _, rfl, rfl, rfl⟩ (ov_field Try.underlying110 rfl Try.sizeOf108 rfl (k := 2) rfl rfl) ?_
 refine LD.rd rfl ⟨56, _, rfl, rfl, rfl⟩ (om_ld Try.isAgg108 rfl rfl) ?_
 refine LD.val rfl ⟨56, _, rfl, rfl, rfl⟩ (ov_len Try.underlying108 rfl) ?_
 refine LD.callE rfl ⟨56, _, rfl, rfl, rfl⟩ (oc_call (enters_fn Try.func40 (by kernel_rfl) rfl) rfl) (fun w hm hc hg => rqLen_spec w h (hm.pick m)) ?_
 refine LD.val rfl ⟨56, _, rfl, rfl, rfl⟩ (ov_neq rfl rfl) ?_
 refine LD.val rfl rfl (ov_pickF rfl rfl) ?_
 refine LD.val rfl rfl (ov_move rfl) ?_
 refine LD.splitD (t := 66) rfl (fun h5 => ?_) (fun h5 => ?_)
 ·
  exact absurd (by omega) h5
 refine LD.val rfl ⟨66, _, rfl, rfl, rfl⟩ (ov_move rfl) ?_
 refine LD.val rfl ⟨66, _, rfl, rfl, rfl⟩ (ov_move rfl) ?_
 refine LD.callE rfl ⟨66, _, rfl, rfl, rfl⟩ (oc_call (enters_fn Try.func41 (by kernel_rfl) rfl) rfl) (fun w hm hc hg => rqLoad_spec w h (hm.pick m)) ?_
 refine LD.callE rfl ⟨66, _, rfl, rfl, rfl⟩ (oc_call (enters_fn Try.func80 (by kernel_rfl) rfl) rfl) (fun w hm hc hg => rfLoad_spec w hh (hm.pick (rfC b' x.g x.fl ad n cap x.cur x.ran :: ms))) ?_
 refine LD.val rfl ⟨66, _, rfl, rfl, rfl⟩ (ov_neq rfl rfl) ?_
 refine LD.val rfl rfl (ov_pickF rfl rfl) ?_
 refine LD.val rfl rfl (ov_move rfl) ?_
 refine LD.splitD (t := 73) rfl (fun h6 => ?_) (fun h6 => ?_)
 ·
  exact absurd rfl h6
 refine LD.val rfl ⟨73, _, rfl, rfl, rfl⟩ (ov_move rfl) ?_
 refine LD.val rfl ⟨73, _, rfl, rfl, rfl⟩ (ov_move rfl) ?_
 refine LD.callE rfl ⟨73, _, rfl, rfl, rfl⟩ (oc_call (enters_fn Try.func39 (by kernel_rfl) rfl) rfl) (fun w hm hc hg => due_spec w h (hm.pick m)) ?_
 refine LD.callE rfl ⟨73, _, rfl, rfl, rfl⟩ (oc_call (enters_fn Try.func79 (by kernel_rfl) rfl) rfl) (fun w hm hc hg => rfDue_spec w hh (hm.pick (rfC b' x.g x.fl ad n cap x.cur x.ran :: ms))) ?_
 refine LD.val rfl ⟨73, _, rfl, rfl, rfl⟩ (ov_bneq Try.underlying4 rfl rfl) ?_
 refine LD.val rfl rfl (ov_pickF rfl rfl) ?_
 refine LD.nil ?_
 refine QM.sub (e' := [(0, _), (1, _), (2, _), (79, _)]) au9 (QM.then ?_)
 first | refine wpM.condD rfl (fun h7 => ?_) (fun h7 => ?_) | refine wpM.condB rfl (fun h7 => ?_) (fun h7 => ?_)
 ·
  exact absurd h7 (bne_tt rfl)
 refine wpM.skip ?_
 refine QM.then (wpM.seq (wpM.region ?_))
 refine LM.mv rfl (LM.mv rfl ?_)
 refine LM.callE (oc_call (enters_fn Try.func14 (by kernel_rfl) rfl) rfl) (fun w hm hc hg => rqV_spec a w h (hm.pick m)) ?_
 refine LM.mv rfl ?_
 refine LM.val (ov_extract rfl rfl) ?_
 refine LM.val (ov_extract rfl rfl) ?_
 refine LM.as rfl (LM.as rfl ?_)
 refine LM.nil (QM.sub (e' := [(0, _), (1, _), (2, _), (10, _), (11, _)]) au9 (QM.then ?_))
 refine wpM.seq ?_
 refine wpM.seq (wpM.region ?_)
 refine LM.mv rfl (LM.mv rfl ?_)
 refine LM.callE (oc_call (enters_fn Try.func71 (by kernel_rfl) rfl) rfl) (fun w hm hc hg => rfAt_spec a w hh (hm.pick (rfC b' x.g x.fl ad n cap x.cur x.ran :: ms))) ?_
 refine LM.as rfl ?_
 refine LM.nil (QM.sub (e' := [(0, _), (1, _), (10, _), (11, _), (12, _)]) au9 (QM.then ?_))
 refine wpM.seq ?_
 refine wpM.joinK (α := Unit) (fun ⟨⟩ => [(115, .bool false)]) [(0, _), (1, _)] (fun ⟨⟩ => m ++ (rfC b' x.g x.fl ad n cap x.cur x.ran :: (ms ++ []))) (fun ⟨⟩ => True) ⟨rfl, rfl, trivial⟩ ?_ ?_
 ·
  refine wpM.region ?_
  refine LM.mv rfl (LM.mv rfl ?_)
  refine LM.val (ov_geq rfl rfl) ?_
  refine LM.val (ov_bneq Try.underlying4 rfl rfl) ?_
  refine LM.mv rfl ?_
  first | refine LM.splitD (t := 93) rfl (fun h8 => ?_) (fun h8 => ?_) | refine LM.splitB (t := 93) rfl (fun h8 => ?_) (fun h8 => ?_)
  ·
   exact absurd h8 (bne_tt (at_dec x.l a))
  refine LM.sp 93 rfl rfl rfl (LM.mv rfl (LM.sp 93 rfl rfl rfl (LM.mv rfl ?_)))
  refine LM.splitD (t := 95) rfl (fun h9 => ?_) (fun h9 => ?_)
  ·
   rw [atO_hit h9]
   refine LM.sp 95 rfl rfl rfl (LM.mv rfl (LM.sp 95 rfl rfl rfl (LM.mv rfl (LM.sp 95 rfl rfl rfl ?_))))
   refine LM.val (ov_nilCheck rfl) ?_
   refine LM.sp 95 rfl rfl rfl (LM.val (ov_field Try.underlying110 rfl Try.sizeOf108 rfl (k := 2) rfl rfl) (LM.sp 95 rfl rfl rfl ?_))
   refine LM.rd (om_ld Try.isAgg108 rfl rfl) ?_
   refine LM.sp 95 rfl rfl rfl (LM.mv rfl (LM.sp 95 rfl rfl rfl ?_))
   refine LM.val (ov_idxSN au6 Try.underlying108 Try.sizeOf112 rfl rfl (by omega)) ?_
   refine LM.sp 95 rfl rfl rfl (LM.val (ov_field Try.underlying112 rfl Try.sizeOf26 rfl (k := 1) rfl rfl) (LM.sp 95 rfl rfl rfl ?_))
   refine LM.rd (om_slE (j := 1) (by assumption) (by intro _; rfl) Try.isAgg26 rfl rfl au3 rfl (by rfl)) ?_
   refine LM.sp 95 rfl rfl rfl ?_
   refine LM.val (ov_uneq rfl rfl) ?_
   refine LM.sp 93 rfl rfl rfl ?_
   refine LM.val (ov_pickT rfl rfl) ?_
   refine LM.val (ov_pickF rfl rfl) ?_
   refine LM.mv rfl ?_
   refine LM.splitD (t := 108) rfl (fun h10 => ?_) (fun h10 => ?_)
   ·
    exact absurd rfl h10
   refine LM.sp 108 rfl rfl rfl (LM.mv rfl (LM.sp 108 rfl rfl rfl ?_))
   refine LM.val (ov_notD rfl) ?_
   refine LM.sp 108 rfl rfl rfl (LM.mv rfl ?_)
   refine LM.splitD (t := 111) rfl (fun h11 => ?_) (fun h11 => ?_)
   ·
    exact absurd h9 h11
   refine LM.dr 111 rfl rfl rfl (LM.dr 111 rfl rfl rfl (LM.sp 108 rfl rfl rfl ?_))
   refine LM.val (ov_pickF rfl rfl) ?_
   refine LM.val (ov_pickF rfl rfl) ?_
   refine LM.nil (QM.sub (e' := [(0, _), (1, _), (115, _)]) au9 ?_)
   refine QM.meetK (⟨⟩) ⟨(by first | rfl | exact lk rfl (congrArg Value.bool (decide_eq_false (fun q => q (by rw [gQ_none (by assumption)]; rfl))))), rfl, rfl, trivial⟩ au1 ?_
   · trivial
  refine LM.dr 95 rfl rfl rfl (LM.dr 95 rfl rfl rfl (LM.dr 95 rfl rfl rfl (LM.dr 95 rfl rfl rfl (LM.dr 95 rfl rfl rfl (LM.dr 95 rfl rfl rfl ?_)))))
  refine LM.dr 95 rfl rfl rfl (LM.dr 95 rfl rfl rfl (LM.dr 95 rfl rfl rfl (LM.dr 95 rfl rfl rfl (LM.sp 93 rfl rfl rfl ?_))))
  refine LM.val (ov_pickF rfl rfl) ?_
  refine LM.val (ov_pickF rfl rfl) ?_
  refine LM.mv rfl (LM.sp 108 rfl rfl rfl (LM.mv rfl (LM.sp 108 rfl rfl rfl ?_)))
  refine LM.val (ov_notD rfl) ?_
  refine LM.sp 108 rfl rfl rfl (LM.mv rfl ?_)
  refine LM.splitD (t := 111) rfl (fun h12 => ?_) (fun h12 => ?_)
  ·
   refine LM.sp 111 rfl rfl rfl (LM.mv rfl (LM.sp 111 rfl rfl rfl ?_))
   refine LM.val (ov_uneq (b := 0#64) rfl rfl) ?_
   refine LM.sp 108 rfl rfl rfl ?_
   refine LM.val (ov_pickT rfl rfl) ?_
   refine LM.val (ov_pickF rfl rfl) ?_
   refine LM.nil (QM.sub (e' := [(0, _), (1, _), (115, _)]) au9 ?_)
   refine QM.meetK (⟨⟩) ⟨(by first | rfl | exact lk rfl (congrArg Value.bool (decide_eq_false (fun q => q (by rw [gQ_none (by assumption)]; rfl))))), rfl, rfl, trivial⟩ au1 ?_
   · trivial
  exact absurd h9 h12
 rintro ⟨⟩ -
 change QM _ _ _ _ _ (m ++ (rfC b' x.g x.fl ad n cap x.cur x.ran :: (ms ++ []))) _ _ _
 refine QM.then ?_
 refine wpM.condF rfl ?_
 refine wpM.skip ?_
 refine QM.then (wpM.seq (wpM.region ?_))
 refine LM.mv rfl ?_
 refine LM.cS (oc_call (enters_fn Try.func74 (by kernel_rfl) rfl) rfl) (fun w hm hc hg => rfReady_spec w hh (hm.pick (rfC b' x.g x.fl ad n cap x.cur x.ran :: ms))) (fun ad117 n117 cap117 m117 hn117 hs117 => ?_)
 refine LM.alloc Try.zeroValue108 rfl (fun b13 hb13 => ?_)
 refine LM.st Try.sizeOf108 rfl rfl rfl au5 rfl au8 ?_
 refine LM.nil (QM.sub (e' := [(0, _), (13, _)]) au9 (QM.then (wpM.seq (wpM.region ?_))))
 refine LM.alloc Try.zeroValue3 rfl (fun b14 hb14 => ?_)
 refine LM.st Try.sizeOf3 rfl rfl rfl au5 rfl au8 ?_
 refine LM.nil (QM.sub (e' := [(0, _), (13, _), (14, _)]) au9 (QM.then (wpM.seq (wpM.region ?_))))
 refine LM.alloc Try.zeroValue4 rfl (fun b15 hb15 => ?_)
 refine LM.st Try.sizeOf4 rfl rfl rfl au5 rfl au8 ?_
 refine LM.nil (QM.sub (e' := [(0, _), (13, _), (14, _), (15, _)]) au9 (QM.then ?_))
 refine wpM.seq ?_
 refine wpM.seq (wpM.region ?_)
 refine LM.mv rfl ?_
 refine LM.callT (oc_call (enters_fn Try.func38 (by kernel_rfl) rfl) rfl) RqA.mono (fun w hm hc hg => rqReady_spec b w) ?_
 rintro u119 m119 ⟨c1, rfl, rfl, hc1⟩ -
 refine LM.nil (QM.sub (e' := [(13, _), (14, _), (15, _), (119, _)]) au9 (QM.then ?_))
 refine wpM.block ?_
 refine wpM.toRange (α := Unit) (fun k ⟨⟩ => qP c1 b :: (b15, .cells #[.bool true] 4 (0, 0)) :: (b14, .cells #[.int .i64 (k : Nat)] 3 (0, 0)) :: (b13, .cells #[.slice ad117 n117 cap117] 108 (0, 0)) :: (m117 ++ (m ++ []))) (⟨⟩) au1 ?_
 refine wpM.rangeP (α := Unit) (β := Unit) (enters_fn Try.func81 (by kernel_rfl) rfl) rfl (rqReady_seq h) (fun k ⟨⟩ Mp => qP c1 b :: (b15, .cells #[.bool true] 4 (0, 0)) :: (b14, .cells #[.int .i64 (k : Nat)] 3 (0, 0)) :: (b13, .cells #[.slice ad117 n117 cap117] 108 (0, 0)) :: (m117 ++ (m ++ (Mp ++ [])))) (by rintro k ⟨⟩ Mp; first | rfl | simp) (fun _ _ => top) (fun k ⟨⟩ => k ≤ (rdyO x).length) (fun ⟨⟩ => []) (fun _ => top) (fun c ⟨⟩ => False) ⟨⟩ rfl (fun _ h => h) (Nat.zero_le _) (by kernel_rfl) (by intro k av hav; obtain ⟨hkl, rfl⟩ := rdyA_inv hav; rfl) (.inl trivial) (fun k a w hm hc hg _ => SubM.mem (by (repeat' (first | exact SubM.nil _ | exact SubM.all _ | refine SubM.cons rfl ?_ | (rw [← List.append_nil m]; refine SubM.app ?_)))) w hm) (fun _ _ _ _ => gl_top _) (fun _ _ _ => gl_top _) (fun k x hk2 => mm_cons rfl (mm_cons rfl (mm_cons rfl (mm_cons rfl (mm_app hs117.wlk (mm_app h.wlk mm_nil)))))) (fun c z _ => by ((repeat (refine mm_cons rfl ?_)); exact fun p hp => .inl (by first | exact hp | (simp at hp; done) | (simp [hp]; done) | (simp at hp ⊢; first | exact .inl hp | exact hp | (simp [hp]; done))))) ?_ ?_ ?_ ?_
 ·
  rintro k av ⟨⟩ l D rc n1 W1 Mp hD hll hput hrc hav hk
  change wpM _ _ _ _ _ _ _ ((l, Obj.loop rc) :: ([(D, Obj.deferred (some []))] ++ (qP c1 b :: (b15, .cells #[.bool true] 4 (0, 0)) :: (b14, .cells #[.int .i64 (k : Nat)] 3 (0, 0)) :: (b13, .cells #[.slice ad117 n117 cap117] 108 (0, 0)) :: (m117 ++ (m ++ (Mp ++ [])))))) _ _ _
  obtain ⟨hkl, rfl⟩ := rdyA_inv hav
  refine wpM.seq (wpM.region ?_)
  refine LM.as rfl ?_
  refine LM.nil (QM.sub (e' := [(13, _), (14, _), (15, _), (16, _), (121, _)]) au9 (QM.then (wpM.region ?_)))
  refine LM.as rfl ?_
  refine LM.nil (QM.sub (e' := [(13, _), (14, _), (15, _), (16, _), (17, _)]) au9 ?_)
  refine QM.toBodyF (hput k ⟨⟩) hll ?_
  refine wpM.block ?_
  refine wpM.seq (wpM.region ?_)
  refine LM.rd (om_ld Try.isAgg4 rfl rfl) ?_
  refine LM.mv rfl ?_
  first | refine LM.splitD (t := 123) rfl (fun h13 => ?_) (fun h13 => ?_) | refine LM.splitB (t := 123) rfl (fun h13 => ?_) (fun h13 => ?_)
  ·
   refine LM.sp 123 rfl rfl rfl ?_
   refine LM.rd (om_ld Try.isAgg3 rfl rfl) ?_
   refine LM.sp 123 rfl rfl rfl ?_
   refine LM.rd (om_ld Try.isAgg108 rfl rfl) ?_
   refine LM.sp 123 rfl rfl rfl ?_
   refine LM.val (ov_len Try.underlying108 rfl) ?_
   refine LM.sp 123 rfl rfl rfl ?_
   refine LM.val (ov_lss rfl rfl) ?_
   refine LM.val (ov_pickT rfl rfl) ?_
   refine LM.mv rfl ?_
   refine LM.splitD (t := 129) rfl (fun h14 => ?_) (fun h14 => ?_)
   ·
    refine LM.sp 129 rfl rfl rfl ?_
    refine LM.rd (om_ld Try.isAgg108 rfl rfl) ?_
    refine LM.sp 129 rfl rfl rfl ?_
    refine LM.rd (om_ld Try.isAgg3 rfl rfl) ?_
    refine LM.sp 129 rfl rfl rfl ?_
    refine LM.val (ov_idxSN au6 Try.underlying108 Try.sizeOf112 rfl rfl (by omega)) ?_
    refine LM.sp 129 rfl rfl rfl (LM.val (ov_field Try.underlying112 rfl Try.sizeOf3 rfl (k := 0) rfl rfl) (LM.sp 129 rfl rfl rfl ?_))
    refine LM.rd (om_slE (j := 0) (by assumption) (by intro _; rfl) Try.isAgg3 rfl rfl au3 rfl (by rfl)) ?_
    refine LM.sp 129 rfl rfl rfl (LM.mv rfl (LM.sp 129 rfl rfl rfl ?_))
    refine LM.val (ov_eql rfl rfl) ?_
    refine LM.val (ov_pickT rfl rfl) ?_
    refine LM.mv rfl ?_
    refine LM.splitD (t := 138) rfl (fun h15 => ?_) (fun h15 => ?_)
    ·
     refine LM.sp 138 rfl rfl rfl ?_
     refine LM.rd (om_ld Try.isAgg108 rfl rfl) ?_
     refine LM.sp 138 rfl rfl rfl ?_
     refine LM.rd (om_ld Try.isAgg3 rfl rfl) ?_
     refine LM.sp 138 rfl rfl rfl ?_
     refine LM.val (ov_idxSN au6 Try.underlying108 Try.sizeOf112 rfl rfl (by omega)) ?_
     refine LM.sp 138 rfl rfl rfl (LM.val (ov_field Try.underlying112 rfl Try.sizeOf26 rfl (k := 1) rfl rfl) (LM.sp 138 rfl rfl rfl ?_))
     refine LM.rd (om_slE (j := 1) (by assumption) (by intro _; rfl) Try.isAgg26 rfl rfl au3 rfl (by rfl)) ?_
     refine LM.sp 138 rfl rfl rfl (LM.mv rfl (LM.sp 138 rfl rfl rfl ?_))
     refine LM.val (ov_ueql rfl rfl) ?_
     refine LM.val (ov_pickT rfl rfl) ?_
     refine LM.st Try.sizeOf4 rfl rfl rfl au5 rfl au8 ?_
     refine LM.nil (QM.sub (e' := [(14, _)]) ⟨rfl, trivial⟩ (QM.then (wpM.region ?_)))
     rw [decide_eq_true (rfl : ((rdyO x).getD k default).V = ((rdyO x).getD k default).V)]
     refine LM.rd (om_ld Try.isAgg3 rfl rfl) ?_
     refine LM.val (ov_add64 rfl rfl (by omega)) ?_
     refine LM.st Try.sizeOf3 rfl rfl rfl au5 rfl au8 ?_
     refine LM.nil (QM.sub (e' := []) trivial ?_)
     refine QM.block_normal ?_
     refine QM.next (⟨⟩) (SubM.mem au1) (fun _ h => h) ?_
     · omega
    exact absurd rfl h15
   exact absurd (by omega) h14
  cases h13
 ·
  rintro ⟨⟩ D0 hD0 hk
  refine QM.sub (e' := [(13, _), (14, _), (15, _)]) au9 ?_
  refine QM.block_normal ?_
  refine QM.then (wpM.seq (wpM.region ?_))
  refine LM.rd (om_ld Try.isAgg4 rfl rfl) ?_
  refine LM.mv rfl ?_
  first | refine LM.splitD (t := 150) rfl (fun h16 => ?_) (fun h16 => ?_) | refine LM.splitB (t := 150) rfl (fun h16 => ?_) (fun h16 => ?_)
  ·
   refine LM.sp 150 rfl rfl rfl ?_
   refine LM.rd (om_ld Try.isAgg3 rfl rfl) ?_
   refine LM.sp 150 rfl rfl rfl ?_
   refine LM.rd (om_ld Try.isAgg108 rfl rfl) ?_
   refine LM.sp 150 rfl rfl rfl ?_
   refine LM.val (ov_len Try.underlying108 rfl) ?_
   refine LM.sp 150 rfl rfl rfl ?_
   refine LM.val (ov_eql rfl rfl) ?_
   refine LM.val (ov_pickT rfl rfl) ?_
   refine LM.as rfl ?_
   refine LM.nil (QM.sub (e' := [(6, _)]) ⟨rfl, trivial⟩ (QM.then ?_))
   refine wpM.ret ?_
   refine QM.leaveDF (ds := [D0]) (.inl rfl) [.tmp 6] Try.results36 rfl (fun D h => by simp only [List.mem_cons, List.not_mem_nil, or_false] at h; omega) ?_
   intro w' hm' hc'
   refine ⟨?_, hc'⟩; simp only [resV, rdyA_len, hn117, decide_true]
  cases h16
 ·
  rintro ⟨⟩ D0 hD0 hx
  exact hx.elim
 rintro id ⟨⟩ D0 hD0 hx
 exact hx.elim
end Go.Eng
namespace Go.Eng
open Go Go.Proofs Go.RowKit
structure Ded where
  kind : Int
  id : Int
  V : BitVec 64
  W : Int
instance : Inhabited Ded := ⟨⟨0, 0, 0#64, 0⟩⟩
def fDd (d : Ded) : List Value := [.int .u8 d.kind, .int .i64 d.id, U d.V, .int .i64 d.W]
def RzB (x : Qm) (B : Int) : Prop := (x.cur = -1 → x.ran = 0) ∧ x.ran ≤ B
theorem RzB.mono {x : Qm} {B C : Int} (h : RzB x B) (hc : B ≤ C) : RzB x C := ⟨h.1, Int.le_trans h.2 hc⟩
theorem rz_add {x : Qm} {B : Int} (h : RzB x B) (a : Int) (v : BitVec 64) (w : Int) : RzB (addX x a v w) B := by unfold addX; split <;> exact h
theorem rz_rem {x : Qm} {B : Int} (h : RzB x B) (hB : 0 ≤ B) (a : Int) : RzB (remX x a) B := by
  unfold remX; split
  · unfold remQ; split
    · exact ⟨fun _ => rfl, hB⟩
    · exact h
  · exact h
theorem rz_pik {x : Qm} {B : Int} (h : RzB x B) (hB : 0 ≤ B) : RzB (pikQ x) B := by
  unfold pikQ; split
  · exact h
  · exact ⟨fun q => absurd (show pickO x = -1 from q) (by omega), hB⟩
theorem rz_back {x : Qm} {B : Int} (hB : 0 ≤ B) : RzB (backQ x) B := ⟨fun _ => rfl, hB⟩
theorem rz_bak {x : Qm} {B : Int} (h : RzB x B) (hB : 0 ≤ B) : RzB (bakQ x) B := by unfold bakQ; split; exact rz_back hB; exact h
theorem rz_tick {x : Qm} {B : Int} (h : RzB x B) : RzB (tickQ x) (B + 1) := by
  have := h.2
  unfold tickQ; split
  · exact ⟨fun q => absurd (show x.cur = -1 from q) (by omega), by show x.ran + 1 ≤ _; omega⟩
  · exact h.mono (by omega)
theorem rz_weigh {x : Qm} {B : Int} (hq : QWf x) (h : RzB x B) (hB : 8 ≤ B) (a w : Int) : RzB (weighX x a w) B := by
  unfold weighX; split
  · rename_i hix
    have hp := hq.pos _ (ixO_hit hix).2
    rw [(ixO_hit hix).1] at hp
    refine ⟨fun q => ?_, ?_⟩
    · have hc : x.cur = -1 := q
      show (if _ ∧ x.cur = a then x.g else x.ran) = 0
      rw [if_neg (fun z => by have := z.2; omega)]; exact h.1 hc
    · show (if _ ∧ x.cur = a then x.g else x.ran) ≤ B
      split
      · have := hq.g; omega
      · exact h.2
  · exact h
theorem rz_setl {x : Qm} {B : Int} (h : RzB x B) : RzB (setlQ x) B := by
  obtain ⟨-, h2, h3, -⟩ := setl_same x
  exact ⟨by rw [h2, h3]; exact h.1, by rw [h3]; exact h.2⟩
theorem rz_go {x : Qm} {B : Int} (h : RzB x B) (hB : 0 ≤ B) : RzB (goQ x) (B + 1) := by
  have h1 : RzB (goQ1 x) B := by unfold goQ1; split; exact rz_bak h hB; exact h
  have h2 : RzB (goQ2 x) B := by unfold goQ2; split; exact h1; exact rz_pik h1 hB
  exact rz_setl (rz_tick h2)
theorem bak_eq {x : Qm} (hq : QWf x) (h : x.cur = -1 → x.ran = 0) : bakQ x = backQ x := by
  by_cases hc : 0 ≤ x.cur
  · exact if_pos hc
  · have h1 := hq.cur0 hc
    rw [show bakQ x = x from if_neg hc]
    show x = { x with cur := -1, ran := 0 }
    have h2 := h h1
    cases x; simp only at h1 h2; subst h1; subst h2; rfl
set_option maxRecDepth 100000 in
theorem rdb_forelocklaw16_Deed : Rdb Try.prog 40 fDd (fun a => (0 ≤ a.kind ∧ a.kind ≤ 255) ∧ (-9223372036854775808 ≤ a.id ∧ a.id ≤ 9223372036854775807) ∧ (-9223372036854775808 ≤ a.W ∧ a.W ≤ 9223372036854775807)) := fun {H enc w base sp held fuel cs x} h => by
  obtain ⟨h1, h2⟩ := trod_fields Try.underlying40 h
  rw [show Try.prog.cellsOf 40 = 4 by kernel_rfl] at h1
  have c3 : Try.prog.cellsOf 3 = 1 := by kernel_rfl
  have c5 : Try.prog.cellsOf 5 = 1 := by kernel_rfl
  have c26 : Try.prog.cellsOf 26 = 1 := by kernel_rfl
  match cs, h1 with
  | [a0, a1, a2, a3], _ =>
    simp only [List.forall_mem_cons, c3, c5, c26, List.drop_succ_cons, List.drop_zero, List.take_succ_cons, List.take_zero] at h2
    obtain ⟨⟨_, _, f0⟩, ⟨_, _, f1⟩, ⟨_, _, f2⟩, ⟨_, _, f3⟩, _⟩ := h2
    obtain ⟨m0, e0, _, w0⟩ := DataW.trod_int Try.underlying5 f0
    obtain ⟨m1, e1, _, w1⟩ := DataW.trod_int Try.underlying3 f1
    obtain ⟨m2, e2, _, w2⟩ := DataW.trod_int Try.underlying26 f2
    obtain ⟨m3, e3, _, w3⟩ := DataW.trod_int Try.underlying3 f3
    obtain ⟨x2, rfl⟩ := bv_of (bounds_u64 w2)
    simp only [List.cons.injEq, and_true] at e0 e1 e2 e3
    subst e0
    subst e1
    subst e2
    subst e3
    exact ⟨⟨m0, m1, x2, m3⟩, rfl, ⟨bounds_u8 w0, bounds_i64 w1, bounds_i64 w3⟩⟩
set_option maxRecDepth 100000 in
set_option maxHeartbeats 2000000 in
theorem runqRuns {l : List Ded} {ad : Option Addr} {n cap : Nat} (g : Int) (w : World) (hn : n = l.length) (hl : Sr fDd 4 l (.slice ad n cap) w) (hk : ∀ d ∈ l, 0 ≤ d.kind ∧ d.kind ≤ 255) : Ret Try.prog 6 #[.int .i64 g, .slice ad n cap] w (fun v w' => v = .bool true ∧ Ext w w') := by
 refine Ret.enterM (l := [.int .i64 g, .slice ad n cap]) Try.func6 rfl Try.ntmps6 rfl ([]) (no) (Mem.nil w) ?_
 refine wpM.seq (wpM.region ?_)
 refine LM.as rfl ?_
 refine LM.nil (QM.sub (e' := [(0, _), (1, _)]) au9 (QM.then ?_))
 refine wpM.seq ?_
 refine wpM.seq (wpM.region ?_)
 refine LM.callE (oc_call (enters_fn Try.func11 (by kernel_rfl) rfl) rfl) (fun w hm hc hg => awake16_spec w) ?_
 first | refine LM.val (ov_notD rfl) ?_ | refine LM.val (ov_not rfl) ?_
 refine LM.nil (QM.sub (e' := [(0, _), (1, _), (28, _)]) au9 (QM.then ?_))
 first | refine wpM.condD rfl (fun h1 => ?_) (fun h1 => ?_) | refine wpM.condB rfl (fun h1 => ?_) (fun h1 => ?_)
 ·
  cases h1
 refine wpM.skip ?_
 refine QM.then ?_
 refine wpM.seq ?_
 refine wpM.seq (wpM.region ?_)
 refine LM.mv rfl ?_
 refine LM.val (ov_len Try.underlying37 rfl) ?_
 refine LM.val (ov_gtr rfl rfl) ?_
 refine LM.nil (QM.sub (e' := [(0, _), (1, _), (31, _)]) au9 (QM.then ?_))
 refine wpM.condD rfl (fun h2 => ?_) (fun h2 => ?_)
 ·
  refine wpM.seq (wpM.region ?_)
  refine LM.as rfl ?_
  refine LM.nil (QM.sub (e' := [(4, _)]) ⟨rfl, trivial⟩ (QM.then ?_))
  refine wpM.ret ?_
  refine QM.then_ret ?_
  refine QM.leave (.inl rfl) [.tmp 4] Try.results6 rfl ?_
  intro w' hm' hc' hg'
  exact ⟨rfl, hc'⟩
 refine wpM.skip ?_
 refine QM.then (wpM.seq (wpM.region ?_))
 refine LM.mv rfl ?_
 refine LM.callT (oc_call (enters_fn Try.func12 (by kernel_rfl) rfl) rfl) RqN.mono (fun w hm hc hg => rqnew_spec g w) ?_
 rintro u33 m33 ⟨bq, rfl, h33⟩ hge33
 refine LM.mv rfl ?_
 refine LM.callT (oc_call (enters_fn Try.func23 (by kernel_rfl) rfl) rfl) RfN.mono (fun w hm hc hg => rfnew_spec g w) ?_
 rintro u35 m35 ⟨bw, rfl, h35⟩ hge35
 refine LM.as rfl (LM.as rfl ?_)
 refine LM.nil (QM.sub (e' := [(1, _), (5, _), (6, _)]) au9 (QM.then ?_))
 refine wpM.seq ?_
 refine wpM.seq (wpM.region ?_)
 refine LM.mv rfl ?_
 refine LM.val (ov_len Try.underlying37 rfl) ?_
 refine LM.mv rfl ?_
 refine LM.nil (QM.sub (e' := [(5, _), (6, _), (36, _), (37, _), (38, _)]) au9 (QM.then ?_))
 refine wpM.block ?_
 refine wpM.loopK0 (α := Nat × Qm × Mem0 × Mem0) (fun ⟨i, x, mq, mw⟩ => [(38, .int .i64 (i : Nat))]) [(5, _), (6, _), (36, _), (37, _)] (fun ⟨i, x, mq, mw⟩ => mq ++ (mw ++ [])) (fun ⟨i, x, mq, mw⟩ => i ≤ l.length ∧ RqM w.heap.size bq x mq ∧ RfM w.heap.size bw x mw ∧ RzB x (8 + i)) (fun ⟨i, x, mq, mw⟩ => l.length - i) ((0, newQ g, m33, m35)) ⟨au2, rfl, rfl, rfl, rfl, trivial⟩ au1 ⟨Nat.zero_le _, h33, h35, fun _ => rfl, by show (0 : Int) ≤ _; omega⟩ ?_
 rintro ⟨i, x, mq, mw⟩ ⟨hi, hq, hf, hz⟩
 change wpM _ _ _ _ _ _ _ (mq ++ (mw ++ [])) _ _ _
 have hwf := hq.1; have hz2 := hz.2
 refine wpM.seq (wpM.region ?_)
 refine LM.val (ov_lss rfl rfl) ?_
 refine LM.nil (QM.sub (e' := [(5, _), (6, _), (36, _), (37, _), (38, _), (39, _)]) au9 (QM.then ?_))
 refine wpM.seq ?_
 refine wpM.condD rfl (fun h3 => ?_) (fun h3 => ?_)
 ·
  have hkd := hk (l.getD i default) (by rw [List.getD_eq_getElem?_getD, List.getElem?_eq_getElem (by omega : i < l.length)]; exact List.getElem_mem _)
  refine wpM.skip ?_
  refine QM.then ?_
  refine wpM.seq ?_
  refine wpM.block ?_
  refine wpM.seq (wpM.region ?_)
  refine LM.val (ov_idxSN au6 Try.underlying37 Try.sizeOf40 rfl rfl (by omega)) ?_
  first | refine LM.rd (om_slA (by assumption) (by intro _; rfl) Try.isAgg40 Try.sizeOf40 rfl au3) ?_ | refine LM.rdC (om_srEA (by assumption) (by intro _; rfl) Try.isAgg40 Try.sizeOf40 rfl au3 id) ?_ | refine LM.rd (om_ldW Try.isAgg40 Try.sizeOf40 rfl rfl) ?_ | refine LM.rd (om_ldA Try.isAgg40 Try.sizeOf40 rfl (vs := [_, _, _, _]) rfl ⟨rfl, rfl, rfl, rfl, trivial⟩) ?_
  refine LM.alloc Try.zeroValue40 rfl (fun b8 hb8 => ?_)
  refine LM.stW Try.sizeOf40 rfl rfl rfl rfl au7 au8 ?_
  refine LM.nil (QM.sub (e' := [(5, _), (6, _), (8, _), (36, _), (37, _), (38, _)]) au9 (QM.then (wpM.seq (wpM.region ?_))))
  refine LM.as rfl ?_
  refine LM.nil (QM.sub (e' := [(5, _), (6, _), (8, _), (9, _), (36, _), (37, _), (38, _)]) au9 (QM.then ?_))
  refine wpM.seq ?_
  refine wpM.seq (wpM.region ?_)
  refine LM.val (ov_field Try.underlying40 rfl Try.sizeOf5 rfl (k := 0) rfl rfl) ?_
  refine LM.rd (om_ld Try.isAgg5 rfl rfl) ?_
  first | refine LM.val (ov_remK rfl rfl (by omega) (by omega)) ?_ | refine LM.val (ov_remJ rfl rfl (by omega) (by omega)) ?_
  refine LM.nil (QM.sub (e' := [(5, _), (6, _), (8, _), (9, _), (36, _), (37, _), (38, _), (44, _)]) au9 (QM.then ?_))
  refine wpM.joinK (α := Qm × Mem0 × Mem0) (fun ⟨y, mq2, mw2⟩ => [(9, .bool true)]) [(5, _), (6, _), (8, _), (36, _), (37, _), (38, _)] (fun ⟨y, mq2, mw2⟩ => (b8, .cells (fDd (l.getD i default)).toArray 40 (0, 0)) :: (mq2 ++ (mw2 ++ []))) (fun ⟨y, mq2, mw2⟩ => RqM w.heap.size bq y mq2 ∧ RfM w.heap.size bw y mw2 ∧ RzB y (8 + i + 1)) ⟨rfl, rfl, rfl, rfl, rfl, rfl, trivial⟩ ?_ ?_
  ·
   refine wpM.block ?_
   refine wpM.seq (wpM.region ?_)
   refine LM.val (ov_eql rfl rfl) ?_
   refine LM.as rfl ?_
   refine LM.nil (QM.sub (e' := [(5, _), (6, _), (8, _), (9, _), (36, _), (37, _), (38, _), (44, _), (50, _)]) au9 (QM.then ?_))
   refine wpM.condD rfl (fun h4 => ?_) (fun h4 => ?_)
   ·
    refine wpM.seq (wpM.region ?_)
    refine LM.mv rfl (LM.val (ov_field Try.underlying40 rfl Try.sizeOf3 rfl (k := 1) rfl rfl) ?_)
    refine LM.rd (om_ld Try.isAgg3 rfl rfl) ?_
    refine LM.val (ov_field Try.underlying40 rfl Try.sizeOf26 rfl (k := 2) rfl rfl) ?_
    refine LM.rd (om_ld Try.isAgg26 rfl rfl) ?_
    refine LM.val (ov_field Try.underlying40 rfl Try.sizeOf3 rfl (k := 3) rfl rfl) ?_
    refine LM.rd (om_ld Try.isAgg3 rfl rfl) ?_
    refine LM.cU (oc_call (enters_fn Try.func13 (by kernel_rfl) rfl) rfl) (fun w hm hc hg => rqAdd_spec (l.getD i default).id (l.getD i default).V (l.getD i default).W w hq hc.size (hm.pick mq)) hq.wlk (fun p hp hlt => absurd hlt (Nat.not_lt_of_le (hq.ge p hp))) ?_
    rintro u60 m60 ⟨rfl, h60⟩ -
    refine LM.mv rfl ?_
    refine LM.val (ov_extract rfl rfl) ?_
    refine LM.val (ov_extract rfl rfl) ?_
    refine LM.as rfl (LM.as rfl ?_)
    refine LM.nil (QM.sub (e' := [(5, _), (6, _), (8, _), (10, _), (11, _), (36, _), (37, _), (38, _)]) au9 (QM.then (wpM.seq (wpM.region ?_))))
    refine LM.mv rfl (LM.val (ov_field Try.underlying40 rfl Try.sizeOf3 rfl (k := 1) rfl rfl) ?_)
    refine LM.rd (om_ld Try.isAgg3 rfl rfl) ?_
    refine LM.val (ov_field Try.underlying40 rfl Try.sizeOf26 rfl (k := 2) rfl rfl) ?_
    refine LM.rd (om_ld Try.isAgg26 rfl rfl) ?_
    refine LM.val (ov_field Try.underlying40 rfl Try.sizeOf3 rfl (k := 3) rfl rfl) ?_
    refine LM.rd (om_ld Try.isAgg3 rfl rfl) ?_
    refine LM.cU (oc_call (enters_fn Try.func24 (by kernel_rfl) rfl) rfl) (fun w hm hc hg => rfAdd_spec (l.getD i default).id (l.getD i default).V (l.getD i default).W w hf hc.size (hm.pick mw)) hf.wlk (fun p hp hlt => absurd hlt (Nat.not_lt_of_le (hf.ge p hp))) ?_
    rintro u71 m71 ⟨rfl, h71⟩ -
    refine LM.mv rfl ?_
    refine LM.val (ov_extract rfl rfl) ?_
    refine LM.val (ov_extract rfl rfl) ?_
    refine LM.as rfl (LM.as rfl ?_)
    refine LM.nil (QM.sub (e' := [(5, _), (6, _), (8, _), (10, _), (11, _), (12, _), (13, _), (36, _), (37, _), (38, _)]) au9 (QM.then (wpM.region ?_)))
    refine LM.mv rfl (LM.mv rfl ?_)
    refine LM.val (ov_ueql rfl rfl) ?_
    refine LM.mv rfl ?_
    refine LM.splitD (t := 77) rfl (fun h5 => ?_) (fun h5 => ?_)
    ·
     refine LM.sp 77 rfl rfl rfl (LM.mv rfl (LM.sp 77 rfl rfl rfl (LM.mv rfl (LM.sp 77 rfl rfl rfl ?_))))
     refine LM.val (ov_eql rfl rfl) ?_
     refine LM.val (ov_pickT rfl rfl) ?_
     refine LM.as rfl ?_
     refine LM.nil (QM.sub (e' := [(5, _), (6, _), (8, _), (9, _), (36, _), (37, _), (38, _)]) au9 ?_)
     refine QM.block_normal ?_
     refine QM.meetK (addX x (l.getD i default).id (l.getD i default).V (l.getD i default).W, m60, m71) ⟨(by first | rfl | exact lk rfl (congrArg Value.bool (decide_eq_true rfl)) | exact lk rfl (congrArg Value.bool (beq_self_eq_true _)) | exact lk rfl (congrArg Value.bool (by simp))), rfl, rfl, rfl, rfl, rfl, rfl, trivial⟩ au1 ?_
     · exact ⟨h60, h71, (rz_add hz _ _ _).mono (by omega)⟩
    exact absurd rfl h5
   refine wpM.seq (wpM.region ?_)
   refine LM.val (ov_eql rfl rfl) ?_
   refine LM.as rfl ?_
   refine LM.nil (QM.sub (e' := [(5, _), (6, _), (8, _), (9, _), (36, _), (37, _), (38, _), (44, _), (82, _)]) au9 (QM.then ?_))
   refine wpM.condD rfl (fun h6 => ?_) (fun h6 => ?_)
   ·
    refine wpM.seq (wpM.region ?_)
    refine LM.mv rfl (LM.val (ov_field Try.underlying40 rfl Try.sizeOf3 rfl (k := 1) rfl rfl) ?_)
    refine LM.rd (om_ld Try.isAgg3 rfl rfl) ?_
    refine LM.cU (oc_call (enters_fn Try.func17 (by kernel_rfl) rfl) rfl) (fun w hm hc hg => rqRem_spec (l.getD i default).id w hq (hm.pick mq)) hq.wlk (fun p hp hlt => absurd hlt (Nat.not_lt_of_le (hq.ge p hp))) ?_
    rintro u88 m88 ⟨rfl, h88⟩ -
    refine LM.mv rfl ?_
    refine LM.val (ov_extract rfl rfl) ?_
    refine LM.val (ov_extract rfl rfl) ?_
    refine LM.as rfl (LM.as rfl ?_)
    refine LM.nil (QM.sub (e' := [(5, _), (6, _), (8, _), (14, _), (15, _), (36, _), (37, _), (38, _)]) au9 (QM.then (wpM.seq (wpM.region ?_))))
    refine LM.mv rfl (LM.val (ov_field Try.underlying40 rfl Try.sizeOf3 rfl (k := 1) rfl rfl) ?_)
    refine LM.rd (om_ld Try.isAgg3 rfl rfl) ?_
    refine LM.cU (oc_call (enters_fn Try.func25 (by kernel_rfl) rfl) rfl) (fun w hm hc hg => rfRem_spec (l.getD i default).id w hf hc.size (hm.pick mw)) hf.wlk (fun p hp hlt => absurd hlt (Nat.not_lt_of_le (hf.ge p hp))) ?_
    rintro u95 m95 ⟨rfl, h95⟩ -
    refine LM.mv rfl ?_
    refine LM.val (ov_extract rfl rfl) ?_
    refine LM.val (ov_extract rfl rfl) ?_
    refine LM.as rfl (LM.as rfl ?_)
    refine LM.nil (QM.sub (e' := [(5, _), (6, _), (8, _), (14, _), (15, _), (16, _), (17, _), (36, _), (37, _), (38, _)]) au9 (QM.then (wpM.region ?_)))
    refine LM.mv rfl (LM.mv rfl ?_)
    refine LM.val (ov_ueql rfl rfl) ?_
    refine LM.mv rfl ?_
    refine LM.splitD (t := 101) rfl (fun h7 => ?_) (fun h7 => ?_)
    ·
     refine LM.sp 101 rfl rfl rfl (LM.mv rfl (LM.sp 101 rfl rfl rfl (LM.mv rfl (LM.sp 101 rfl rfl rfl ?_))))
     refine LM.val (ov_beql Try.underlying4 rfl rfl) ?_
     refine LM.val (ov_pickT rfl rfl) ?_
     refine LM.as rfl ?_
     refine LM.nil (QM.sub (e' := [(5, _), (6, _), (8, _), (9, _), (36, _), (37, _), (38, _)]) au9 ?_)
     refine QM.block_normal ?_
     refine QM.meetK (remX x (l.getD i default).id, m88, m95) ⟨(by first | rfl | exact lk rfl (congrArg Value.bool (decide_eq_true rfl)) | exact lk rfl (congrArg Value.bool (beq_self_eq_true _)) | exact lk rfl (congrArg Value.bool (by simp))), rfl, rfl, rfl, rfl, rfl, rfl, trivial⟩ au1 ?_
     · exact ⟨h88, h95, (rz_rem hz (by omega) _).mono (by omega)⟩
    exact absurd rfl h7
   refine wpM.seq (wpM.region ?_)
   refine LM.val (ov_eql rfl rfl) ?_
   refine LM.as rfl ?_
   refine LM.nil (QM.sub (e' := [(5, _), (6, _), (8, _), (9, _), (36, _), (37, _), (38, _), (44, _), (106, _)]) au9 (QM.then ?_))
   refine wpM.condD rfl (fun h8 => ?_) (fun h8 => ?_)
   ·
    refine wpM.seq (wpM.region ?_)
    refine LM.mv rfl ?_
    refine LM.cU (oc_call (enters_fn Try.func26 (by kernel_rfl) rfl) rfl) (fun w hm hc hg => pick_spec w hq (hm.pick mq)) hq.wlk (fun p hp hlt => absurd hlt (Nat.not_lt_of_le (hq.ge p hp))) ?_
    rintro u110 m110 ⟨rfl, h110⟩ -
    refine LM.mv rfl ?_
    refine LM.val (ov_extract rfl rfl) ?_
    refine LM.val (ov_extract rfl rfl) ?_
    refine LM.as rfl (LM.as rfl ?_)
    refine LM.nil (QM.sub (e' := [(5, _), (6, _), (8, _), (18, _), (19, _), (36, _), (37, _), (38, _)]) au9 (QM.then (wpM.seq (wpM.region ?_))))
    refine LM.mv rfl ?_
    refine LM.cU (oc_call (enters_fn Try.func27 (by kernel_rfl) rfl) rfl) (fun w hm hc hg => rfPick_spec w hf (hm.pick mw)) hf.wlk (fun p hp hlt => absurd hlt (Nat.not_lt_of_le (hf.ge p hp))) ?_
    rintro u114 m114 ⟨rfl, h114⟩ -
    refine LM.as rfl ?_
    refine LM.nil (QM.sub (e' := [(5, _), (6, _), (8, _), (18, _), (19, _), (20, _), (36, _), (37, _), (38, _)]) au9 (QM.then (wpM.region ?_)))
    refine LM.mv rfl (LM.mv rfl ?_)
    refine LM.val (ov_eql rfl rfl) ?_
    refine LM.mv rfl ?_
    refine LM.splitD (t := 118) rfl (fun h9 => ?_) (fun h9 => ?_)
    ·
     refine LM.sp 118 rfl rfl rfl (LM.mv rfl (LM.sp 118 rfl rfl rfl (LM.mv rfl (LM.sp 118 rfl rfl rfl ?_))))
     refine LM.val (ov_geq rfl rfl) ?_
     refine LM.sp 118 rfl rfl rfl ?_
     refine LM.val (ov_beql Try.underlying4 rfl rfl) ?_
     refine LM.val (ov_pickT rfl rfl) ?_
     refine LM.as rfl ?_
     refine LM.nil (QM.sub (e' := [(5, _), (6, _), (8, _), (9, _), (36, _), (37, _), (38, _)]) au9 ?_)
     refine QM.block_normal ?_
     refine QM.meetK (pikQ x, m110, m114) ⟨(by first | rfl | exact lk rfl (congrArg Value.bool (decide_eq_true rfl)) | exact lk rfl (congrArg Value.bool (beq_self_eq_true _)) | exact lk rfl (congrArg Value.bool (by simp))), rfl, rfl, rfl, rfl, rfl, rfl, trivial⟩ au1 ?_
     · exact ⟨h110, h114, (rz_pik hz (by omega)).mono (by omega)⟩
    exact absurd rfl h9
   refine wpM.seq (wpM.region ?_)
   refine LM.val (ov_eql rfl rfl) ?_
   refine LM.as rfl ?_
   refine LM.nil (QM.sub (e' := [(5, _), (6, _), (8, _), (9, _), (36, _), (37, _), (38, _), (44, _), (124, _)]) au9 (QM.then ?_))
   refine wpM.condD rfl (fun h10 => ?_) (fun h10 => ?_)
   ·
    refine wpM.seq (wpM.region ?_)
    refine LM.mv rfl ?_
    refine LM.cU (oc_call (enters_fn Try.func28 (by kernel_rfl) rfl) rfl) (fun w hm hc hg => back_spec w hq hc.size (hm.pick mq)) hq.wlk (fun p hp hlt => absurd hlt (Nat.not_lt_of_le (hq.ge p hp))) ?_
    rintro u128 m128 ⟨rfl, h128⟩ -
    refine LM.mv rfl ?_
    refine LM.val (ov_extract rfl rfl) ?_
    refine LM.val (ov_extract rfl rfl) ?_
    refine LM.as rfl (LM.as rfl ?_)
    refine LM.nil (QM.sub (e' := [(5, _), (6, _), (8, _), (21, _), (22, _), (36, _), (37, _), (38, _)]) au9 (QM.then (wpM.seq (wpM.region ?_))))
    refine LM.mv rfl ?_
    refine LM.cU (oc_call (enters_fn Try.func29 (by kernel_rfl) rfl) rfl) (fun w hm hc hg => rfBack_spec w hf (hm.pick mw)) hf.wlk (fun p hp hlt => absurd hlt (Nat.not_lt_of_le (hf.ge p hp))) ?_
    rintro u132 m132 ⟨rfl, h132⟩ -; rw [cur_dec hwf]
    refine LM.as rfl ?_
    refine LM.nil (QM.sub (e' := [(5, _), (6, _), (8, _), (21, _), (22, _), (23, _), (36, _), (37, _), (38, _)]) au9 (QM.then (wpM.region ?_)))
    refine LM.mv rfl (LM.mv rfl ?_)
    refine LM.val (ov_eql rfl rfl) ?_
    refine LM.mv rfl ?_
    refine LM.splitD (t := 136) rfl (fun h11 => ?_) (fun h11 => ?_)
    ·
     refine LM.sp 136 rfl rfl rfl (LM.mv rfl (LM.sp 136 rfl rfl rfl (LM.mv rfl (LM.sp 136 rfl rfl rfl ?_))))
     refine LM.val (ov_geq rfl rfl) ?_
     refine LM.sp 136 rfl rfl rfl ?_
     refine LM.val (ov_beql Try.underlying4 rfl rfl) ?_
     refine LM.val (ov_pickT rfl rfl) ?_
     refine LM.as rfl ?_
     refine LM.nil (QM.sub (e' := [(5, _), (6, _), (8, _), (9, _), (36, _), (37, _), (38, _)]) au9 ?_)
     refine QM.block_normal ?_
     refine QM.meetK (bakQ x, m128, m132) ⟨(by first | rfl | exact lk rfl (congrArg Value.bool (decide_eq_true rfl)) | exact lk rfl (congrArg Value.bool (beq_self_eq_true _)) | exact lk rfl (congrArg Value.bool (by simp))), rfl, rfl, rfl, rfl, rfl, rfl, trivial⟩ au1 ?_
     · exact ⟨h128, by rw [bak_eq hwf hz.1]; exact h132, (rz_bak hz (by omega)).mono (by omega)⟩
    exact absurd rfl h11
   refine wpM.seq (wpM.region ?_)
   refine LM.val (ov_eql rfl rfl) ?_
   refine LM.as rfl ?_
   refine LM.nil (QM.sub (e' := [(5, _), (6, _), (8, _), (9, _), (36, _), (37, _), (38, _), (44, _), (142, _)]) au9 (QM.then ?_))
   refine wpM.condD rfl (fun h12 => ?_) (fun h12 => ?_)
   ·
    refine wpM.seq (wpM.region ?_)
    refine LM.mv rfl ?_
    refine LM.cU (oc_call (enters_fn Try.func30 (by kernel_rfl) rfl) rfl) (fun w hm hc hg => tick_spec w hq (by omega) (hm.pick mq)) hq.wlk (fun p hp hlt => absurd hlt (Nat.not_lt_of_le (hq.ge p hp))) ?_
    rintro u146 m146 ⟨rfl, h146⟩ -
    refine LM.mv rfl ?_
    refine LM.val (ov_extract rfl rfl) ?_
    refine LM.val (ov_extract rfl rfl) ?_
    refine LM.as rfl (LM.as rfl ?_)
    refine LM.nil (QM.sub (e' := [(5, _), (6, _), (8, _), (24, _), (25, _), (36, _), (37, _), (38, _)]) au9 (QM.then (wpM.seq (wpM.region ?_))))
    refine LM.mv rfl ?_
    refine LM.cU (oc_call (enters_fn Try.func31 (by kernel_rfl) rfl) rfl) (fun w hm hc hg => rfTick_spec w hf (by omega) (hm.pick mw)) hf.wlk (fun p hp hlt => absurd hlt (Nat.not_lt_of_le (hf.ge p hp))) ?_
    rintro u150 m150 ⟨rfl, h150⟩ -; rw [cur_dec hwf]
    refine LM.as rfl ?_
    refine LM.nil (QM.sub (e' := [(5, _), (6, _), (8, _), (24, _), (25, _), (26, _), (36, _), (37, _), (38, _)]) au9 (QM.then (wpM.region ?_)))
    refine LM.mv rfl (LM.mv rfl ?_)
    refine LM.val (ov_eql rfl rfl) ?_
    refine LM.mv rfl ?_
    refine LM.splitD (t := 154) rfl (fun h13 => ?_) (fun h13 => ?_)
    ·
     refine LM.sp 154 rfl rfl rfl (LM.mv rfl (LM.sp 154 rfl rfl rfl (LM.mv rfl (LM.sp 154 rfl rfl rfl ?_))))
     refine LM.val (ov_geq rfl rfl) ?_
     refine LM.sp 154 rfl rfl rfl ?_
     refine LM.val (ov_beql Try.underlying4 rfl rfl) ?_
     refine LM.val (ov_pickT rfl rfl) ?_
     refine LM.as rfl ?_
     refine LM.nil (QM.sub (e' := [(5, _), (6, _), (8, _), (9, _), (36, _), (37, _), (38, _)]) au9 ?_)
     refine QM.block_normal ?_
     refine QM.meetK (tickQ x, m146, m150) ⟨(by first | rfl | exact lk rfl (congrArg Value.bool (decide_eq_true rfl)) | exact lk rfl (congrArg Value.bool (beq_self_eq_true _)) | exact lk rfl (congrArg Value.bool (by simp))), rfl, rfl, rfl, rfl, rfl, rfl, trivial⟩ au1 ?_
     · exact ⟨h146, h150, rz_tick hz⟩
    exact absurd rfl h13
   refine wpM.seq (wpM.region ?_)
   refine LM.val (ov_eql rfl rfl) ?_
   refine LM.as rfl ?_
   refine LM.nil (QM.sub (e' := [(5, _), (6, _), (8, _), (9, _), (36, _), (37, _), (38, _), (44, _), (160, _)]) au9 (QM.then ?_))
   refine wpM.condD rfl (fun h14 => ?_) (fun h14 => ?_)
   ·
    refine wpM.keep ((b8, _) :: []) (fun _ => True) (.one 0 0 (.one 1 0 (.one 2 1 (.one 3 0 (.one 4 1 (.one 6 0 (.one 7 0 (.one 8 1 (.one 9 0 (.one 10 1 (.one 5 2 (.one 11 2 (.one 12 0 (.one 13 0 .nil)))))))))))))) (by kernel_rfl) (by kernel_rfl) au1 (fun _ _ => trivial) ?_
    refine KD.val rfl rfl (ov_move rfl) ?_
    refine KD.val rfl rfl (ov_field Try.underlying40 rfl Try.sizeOf3 rfl (k := 1) rfl rfl) ?_
    refine KD.rd rfl rfl (om_ld Try.isAgg3 rfl rfl) ?_
    refine KD.val rfl rfl (ov_field Try.underlying40 rfl Try.sizeOf3 rfl (k := 3) rfl rfl) ?_
    refine KD.rd rfl rfl (om_ld Try.isAgg3 rfl rfl) ?_
    refine KD.val rfl rfl (ov_move rfl) ?_
    refine KD.val rfl rfl (ov_field Try.underlying40 rfl Try.sizeOf3 rfl (k := 1) rfl rfl) ?_
    refine KD.rd rfl rfl (om_ld Try.isAgg3 rfl rfl) ?_
    refine KD.val rfl rfl (ov_field Try.underlying40 rfl Try.sizeOf3 rfl (k := 3) rfl rfl) ?_
    refine KD.rd rfl rfl (om_ld Try.isAgg3 rfl rfl) ?_
    refine KD.one rfl ?_
    refine LM.cU (oc_call (enters_fn Try.func18 (by kernel_rfl) rfl) rfl) (fun w hm hc hg => rqWgh_spec (l.getD i default).id (l.getD i default).W w hq hc.size (hm.pick mq)) hq.wlk (fun p hp hlt => absurd hlt (Nat.not_lt_of_le (hq.ge p hp))) ?_
    rintro u167 m167 ⟨rfl, h167⟩ -
    refine LM.nil ?_
    refine QM.one au1 (fun _ _ => trivial) ?_
    refine KD.one rfl ?_
    refine LM.cU (oc_call (enters_fn Try.func32 (by kernel_rfl) rfl) rfl) (fun w hm hc hg => rfWgh_spec (l.getD i default).id (l.getD i default).W w hf (hm.pick mw)) hf.wlk (fun p hp hlt => absurd hlt (Nat.not_lt_of_le (hf.ge p hp))) ?_
    rintro u173 m173 ⟨rfl, h173⟩ -
    refine LM.nil ?_
    refine QM.one au1 (fun _ _ => trivial) ?_
    refine KD.val rfl rfl (ov_beql Try.underlying4 rfl rfl) ?_
    refine KD.val rfl rfl (ov_assign rfl) ?_
    refine KD.nil ?_
    refine QM.sub (e' := [(5, _), (6, _), (8, _), (9, _), (36, _), (37, _), (38, _)]) au9 ?_
    refine QM.block_normal ?_
    refine QM.meetK (weighX x (l.getD i default).id (l.getD i default).W, m167, m173) ⟨(by first | rfl | exact lk rfl (congrArg Value.bool (decide_eq_true rfl)) | exact lk rfl (congrArg Value.bool (beq_self_eq_true _)) | exact lk rfl (congrArg Value.bool (by simp))), rfl, rfl, rfl, rfl, rfl, rfl, trivial⟩ au1 ?_
    · exact ⟨h167, h173, (rz_weigh hwf hz (by omega) _ _).mono (by omega)⟩
   refine wpM.seq (wpM.region ?_)
   refine LM.val (ov_eql rfl rfl) ?_
   refine LM.as rfl ?_
   refine LM.nil (QM.sub (e' := [(5, _), (6, _), (8, _), (9, _), (36, _), (37, _), (38, _), (175, _)]) au9 (QM.then ?_))
   refine wpM.condD rfl (fun h15 => ?_) (fun h15 => ?_)
   ·
    refine wpM.seq (wpM.region ?_)
    refine LM.mv rfl ?_
    refine LM.cU (oc_call (enters_fn Try.func33 (by kernel_rfl) rfl) rfl) (fun w hm hc hg => settle_spec w hq (hm.pick mq)) hq.wlk (fun p hp hlt => absurd hlt (Nat.not_lt_of_le (hq.ge p hp))) ?_
    rintro u178 m178 ⟨rfl, h178⟩ -
    refine LM.nil (QM.sub (e' := [(5, _), (6, _), (8, _), (9, _), (36, _), (37, _), (38, _)]) au9 (QM.then (wpM.region ?_)))
    refine LM.mv rfl ?_
    refine LM.cU (oc_call (enters_fn Try.func34 (by kernel_rfl) rfl) rfl) (fun w hm hc hg => rfSettle_spec w hf (hm.pick mw)) hf.wlk (fun p hp hlt => absurd hlt (Nat.not_lt_of_le (hf.ge p hp))) ?_
    rintro u180 m180 ⟨rfl, h180⟩ -
    refine LM.nil (QM.sub (e' := [(5, _), (6, _), (8, _), (9, _), (36, _), (37, _), (38, _)]) au9 ?_)
    refine QM.block_normal ?_
    refine QM.meetK (setlQ x, m178, m180) ⟨(by first | rfl | exact lk rfl (congrArg Value.bool (decide_eq_true rfl)) | exact lk rfl (congrArg Value.bool (beq_self_eq_true _)) | exact lk rfl (congrArg Value.bool (by simp))), rfl, rfl, rfl, rfl, rfl, rfl, trivial⟩ au1 ?_
    · exact ⟨h178, h180, (rz_setl hz).mono (by omega)⟩
   refine wpM.region ?_
   refine LM.mv rfl ?_
   refine LM.cU (oc_call (enters_fn Try.func15 (by kernel_rfl) rfl) rfl) (fun w hm hc hg => goOn_spec w hq (by omega) hc.size (hm.pick mq)) hq.wlk (fun p hp hlt => absurd hlt (Nat.not_lt_of_le (hq.ge p hp))) ?_
   rintro u46 m46 ⟨rfl, h46⟩ -
   refine LM.mv rfl ?_
   refine LM.cU (oc_call (enters_fn Try.func35 (by kernel_rfl) rfl) rfl) (fun w hm hc hg => rfGo_spec w hf (by omega) (hm.pick mw)) hf.wlk (fun p hp hlt => absurd hlt (Nat.not_lt_of_le (hf.ge p hp))) ?_
   rintro u48 m48 ⟨rfl, h48⟩ -
   refine LM.val (ov_eql rfl rfl) ?_
   refine LM.as rfl ?_
   refine LM.nil (QM.sub (e' := [(5, _), (6, _), (8, _), (9, _), (36, _), (37, _), (38, _)]) au9 ?_)
   refine QM.block_normal ?_
   refine QM.meetK (goQ x, m46, m48) ⟨(by first | rfl | exact lk rfl (congrArg Value.bool (decide_eq_true rfl)) | exact lk rfl (congrArg Value.bool (beq_self_eq_true _)) | exact lk rfl (congrArg Value.bool (by simp))), rfl, rfl, rfl, rfl, rfl, rfl, trivial⟩ au1 ?_
   · exact ⟨h46, h48, rz_go hz (by omega)⟩
  rintro ⟨y, mq2, mw2⟩ ⟨hq2, hf2, hzy⟩
  change QM _ _ _ _ _ ((b8, .cells (fDd (l.getD i default)).toArray 40 (0, 0)) :: (mq2 ++ (mw2 ++ []))) _ _ _
  refine QM.then (wpM.seq (wpM.region ?_))
  refine LM.mv rfl ?_
  first | refine LM.val (ov_notD rfl) ?_ | refine LM.val (ov_not rfl) ?_
  refine LM.mv rfl ?_
  first | refine LM.splitD (t := 183) rfl (fun h16 => ?_) (fun h16 => ?_) | refine LM.splitB (t := 183) rfl (fun h16 => ?_) (fun h16 => ?_)
  ·
   refine LM.dr 183 rfl rfl rfl (LM.dr 183 rfl rfl rfl (LM.dr 183 rfl rfl rfl (LM.dr 183 rfl rfl rfl (LM.dr 183 rfl rfl rfl (LM.dr 183 rfl rfl rfl ?_)))))
   refine LM.val (ov_pickT rfl rfl) ?_
   refine LM.nil (QM.sub (e' := [(5, _), (6, _), (36, _), (37, _), (38, _), (190, _)]) au9 (QM.then ?_))
   refine wpM.condT rfl ?_
   refine wpM.seq (wpM.region ?_)
   refine LM.as rfl ?_
   refine LM.nil (QM.sub (e' := [(4, _)]) ⟨rfl, trivial⟩ (QM.then ?_))
   refine wpM.ret ?_
   refine QM.block_ret ?_
   refine QM.then_ret ?_
   refine QM.then_ret ?_
   refine QM.block_ret ?_
   refine QM.then_ret ?_
   refine QM.leave (.inl rfl) [.tmp 4] Try.results6 rfl ?_
   intro w' hm' hc' hg'
   first | exact ⟨rfl, hc'⟩ | (exfalso; first | omega | (simp at *; done) | (simp_all; done))
  refine LM.sp 183 rfl rfl rfl (LM.mv rfl (LM.sp 183 rfl rfl rfl (LM.mv rfl (LM.sp 183 rfl rfl rfl (LM.val (ov_field Try.underlying40 rfl Try.sizeOf3 rfl (k := 1) rfl rfl) ?_)))))
  refine LM.sp 183 rfl rfl rfl ?_
  refine LM.rd (om_ld Try.isAgg3 rfl rfl) ?_
  refine LM.sp 183 rfl rfl rfl ?_
  refine LM.callE (oc_call (enters_fn Try.func36 (by kernel_rfl) rfl) rfl) (fun w hm hc hg => same16_spec (l.getD i default).id w hq2 hf2 (hm.pick (mq2 ++ mw2))) ?_
  refine LM.sp 183 rfl rfl rfl ?_
  first | refine LM.val (ov_notD rfl) ?_ | refine LM.val (ov_not rfl) ?_
  refine LM.val (ov_pickF rfl rfl) ?_
  refine LM.nil (QM.sub (e' := [(5, _), (6, _), (36, _), (37, _), (38, _), (190, _)]) au9 (QM.then ?_))
  first | refine wpM.condD rfl (fun h17 => ?_) (fun h17 => ?_) | refine wpM.condB rfl (fun h17 => ?_) (fun h17 => ?_)
  ·
   refine wpM.seq (wpM.region ?_)
   refine LM.as rfl ?_
   refine LM.nil (QM.sub (e' := [(4, _)]) ⟨rfl, trivial⟩ (QM.then ?_))
   refine wpM.ret ?_
   refine QM.block_ret ?_
   refine QM.then_ret ?_
   refine QM.then_ret ?_
   refine QM.block_ret ?_
   refine QM.then_ret ?_
   refine QM.leave (.inl rfl) [.tmp 4] Try.results6 rfl ?_
   intro w' hm' hc' hg'
   first | exact ⟨rfl, hc'⟩ | (exfalso; first | omega | (simp at *; done) | (simp_all; done))
  refine wpM.skip ?_
  refine QM.block_normal ?_
  refine QM.then (wpM.region ?_)
  refine LM.val (ov_add64 rfl rfl (by omega)) ?_
  refine LM.mv rfl ?_
  refine LM.nil (QM.sub (e' := [(5, _), (6, _), (36, _), (37, _), (38, _)]) au9 ?_)
  refine QM.againK (i + 1, y, mq2, mw2) ⟨au2, rfl, rfl, rfl, rfl, trivial⟩ au1 (fun _ h => h) ?_ ?_
  · exact ⟨by omega, hq2, hf2, hzy.mono (by omega)⟩
  · first | omega | (dsimp only; omega)
 refine wpM.exit ?_
 refine QM.then_exit ?_
 refine QM.then_exit ?_
 refine QM.block_hit ?_
 refine QM.then (wpM.seq (wpM.region ?_))
 refine LM.as rfl ?_
 refine LM.nil (QM.sub (e' := [(4, _)]) ⟨rfl, trivial⟩ (QM.then ?_))
 refine wpM.ret ?_
 refine QM.leave (.inl rfl) [.tmp 4] Try.results6 rfl ?_
 intro w' hm' hc' hg'
 exact ⟨rfl, hc'⟩
end Go.Eng
