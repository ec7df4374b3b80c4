/- The walks of cores: they are balanced. No condition. -/
import Derived.Test.YtmkblojlimhkiaaM5
set_option linter.unusedVariables false
set_option linter.unusedSimpArgs false
namespace Go.Eng
open Go Go.Proofs Go.RowKit
theorem QqM.pull {R : Nat → Nat → Qm → Mem0 → Prop} {n0 : Nat} {bs : List Nat} {qs : List Qm} {mm : Mem0} (h : QqM R n0 bs qs mm) {i : Nat} (hi : i < qs.length) : ∃ mq rest, R n0 (bs.getD i default) (qg qs i) mq ∧ mm.Perm (mq ++ rest) := by
  obtain ⟨M, rfl, h1, h2, h3⟩ := h
  exact ⟨_, _, h3 i hi, fl_perm M i (by omega)⟩
theorem rd_pull {p : Nat × Obj} {mm mq rest : Mem0} {w : World} (hp : mm.Perm (mq ++ rest)) (h : Mem w (p :: (mm ++ []))) : Mem w (p :: mq) := by
  rw [List.append_nil] at h
  exact (h.perm (hp.cons p)).sub ((List.sublist_append_left mq rest).cons_cons p)
abbrev pC (c b : Nat) : Nat × Obj := (c, .cells #[.pointer (some ⟨b, 0, none⟩)] 65 (0, 0))
abbrev iC (c : Nat) (x : Int) : Nat × Obj := (c, .cells #[.int .i64 x] 3 (0, 0))
theorem bal_no {qs : List Qm} (h : ∀ j, j < (rdyO (qg qs (mo qs))).length → ¬ ((rdyO (qg qs (mo qs))).getD j default).x < difO qs) : balF qs = none := findK_no (fun j hj => decide_eq_false (h j hj))
theorem bal_at {qs : List Qm} {k : Nat} (h : ∀ j, j < k → ¬ ((rdyO (qg qs (mo qs))).getD j default).x < difO qs) (hk : k < (rdyO (qg qs (mo qs))).length) (h2 : ((rdyO (qg qs (mo qs))).getD k default).x < difO qs) : balF qs = some ((rdyO (qg qs (mo qs))).getD k default) := findK_at (fun j hj => decide_eq_false (h j hj)) hk (decide_eq_true h2)
theorem rdy_raw {qs : List Qm} (hw : CWf qs) {lg : List (Int × Value)} (hg : Wg lg qs) {k : Nat} (hk : k < (rdyO (qg qs (mo qs))).length) : ∃ u : Int, aget lg ((rdyO (qg qs (mo qs))).getD k default).id = some (.int .i64 u) ∧ bringO u 1 4096 = ((rdyO (qg qs (mo qs))).getD k default).x ∧ 0 ≤ ((rdyO (qg qs (mo qs))).getD k default).id := by
  have hm := most_lt hw.len.1 qs.length (Nat.le_refl _)
  have hmem : (rdyO (qg qs (mo qs))).getD k default ∈ rdyO (qg qs (mo qs)) := by rw [List.getD_eq_getElem?_getD, List.getElem?_eq_getElem hk]; exact List.getElem_mem _
  have h1 := rdy_id (hw.wf _ hm) hmem
  have h2 : ofN qs ((rdyO (qg qs (mo qs))).getD k default).id = mo qs := hw.at hm (ixO_lt.2 ⟨_, h1.1, rfl⟩)
  obtain ⟨u, h3, h4⟩ := hg.2 ((rdyO (qg qs (mo qs))).getD k default).id (by rw [h2]; exact hm)
  refine ⟨u, h3, ?_, (hw.wf _ hm).pos _ h1.1⟩
  rw [h4, h2, gQ_eq (hw.wf _ hm) h1.1]
set_option maxRecDepth 100000 in
theorem bal_spec {n0 b : Nat} {qs : List Qm} {m : Mem0} (w : World) (h : CrM n0 b qs m) (hn0 : n0 ≤ w.heap.size) (hM : Mem w m) : Ret Try.prog 48 #[.pointer (some ⟨b, 0, none⟩)] w (Upd m (fun u m' => u = .tuple #[.int .i64 (balI qs), .int .i64 (balA qs), .int .i64 (balB qs), .bool (balF qs).isSome] ∧ CrM n0 b (balX qs) m') w) := by
 have hC := h; obtain ⟨hw, ad, n, cap, bw, bg, esw, clw, esg, clg, lw, lg, ms, mm, bs, rfl, hn, hs, hq, hew, heg, hwh, hwg, hb, hbw, hbg⟩ := h; have hbl := hq.len; have heg1 := heg.1; have hmo : mo qs < qs.length := most_lt hw.len.1 qs.length (Nat.le_refl _); have hle : le qs < qs.length := least_lt hw.len.1 qs.length (Nat.le_refl _); have hl1 := (hw.wf _ hmo).load; have hl2 := (hw.wf _ hle).load; obtain ⟨mq, rest, hr, hpl⟩ := hq.pull hmo; have hrl := rdyA_len (rdyO (qg qs (mo qs)))
 refine Ret.enterM (l := [.pointer (some ⟨b, 0, none⟩)]) Try.func48 rfl Try.ntmps48 rfl (coC b ad n cap bw bg :: (bw, .map esw clw) :: (bg, .map esg clg) :: (ms ++ (mm ++ []))) ((inM (coC b ad n cap bw bg :: (bw, .map esw clw) :: (bg, .map esg clg) :: (ms ++ mm)))) (by rw [List.append_nil]; exact hM) ?_
 refine wpM.seq (wpM.region ?_)
 refine LM.box rfl rfl (fun b1 hb1 => ?_)
 refine LM.as rfl (LM.as rfl (LM.as rfl (LM.as rfl ?_)))
 refine LM.nil (QM.sub (e' := [(1, _)]) ⟨rfl, trivial⟩ (QM.then ?_))
 refine wpM.seq ?_
 refine wpM.seq (wpM.region ?_)
 refine LM.rd (om_ld Try.isAgg65 rfl rfl) ?_
 refine LM.val (ov_peql (by kernel_rfl) rfl rfl) ?_
 refine LM.nil (QM.sub (e' := [(1, _), (12, _)]) au9 (QM.then ?_))
 refine wpM.condF rfl ?_
 refine wpM.skip ?_
 refine QM.then (wpM.seq (wpM.region ?_))
 refine LM.rd (om_ld Try.isAgg65 rfl rfl) ?_
 refine LM.callE (oc_call (enters_fn Try.func83 (by kernel_rfl) rfl) rfl) (fun w hm hc hg => cEnds_spec w hw hn hs hq (by have h9 := hm.pick (coC b ad n cap bw bg :: (ms ++ (mm ++ []))); rw [List.append_nil] at h9; exact h9)) ?_
 refine LM.mv rfl ?_
 refine LM.val (ov_extract rfl rfl) ?_
 refine LM.val (ov_extract rfl rfl) ?_
 refine LM.as rfl (LM.as rfl ?_)
 refine LM.nil (QM.sub (e' := [(1, _), (6, _), (7, _)]) au9 (QM.then ?_))
 refine wpM.seq ?_
 refine wpM.joinK (α := Nat) (fun b8 => [(8, .pointer (some ⟨b8, 0, none⟩))]) [(1, _), (6, _), (7, _)] (fun b8 => pC b1 b :: iC b8 (difO qs) :: coC b ad n cap bw bg :: (bw, .map esw clw) :: (bg, .map esg clg) :: (ms ++ (mm ++ []))) (fun b8 => w.heap.size ≤ b8) ⟨rfl, rfl, rfl, trivial⟩ ?_ ?_
 ·
  refine wpM.keep (pC b1 b :: coC b ad n cap bw bg :: (ms ++ [])) (fun _ => True) (.one 0 1 (.one 1 0 (.one 2 0 (.one 3 1 (.one 4 0 (.one 5 0 (.one 6 1 (.one 8 1 (.one 9 0 (.one 10 0 (.one 11 1 (.one 12 0 (.one 13 0 (.one 14 1 (.fork 7 (.fork 15 (.one 16 0 (.one 17 2 (.one 18 2 .nil))) 17 (.one 15 2 (.one 16 0 (.one 18 2 .nil)))) 17 (.one 7 2 (.one 15 2 (.one 16 0 (.one 18 2 .nil))))))))))))))))))) (by kernel_rfl) (by kernel_rfl) au1 (fun _ _ => trivial) ?_
  refine KD.rd rfl rfl (om_ld Try.isAgg65 rfl rfl) ?_
  refine KD.val rfl rfl (ov_nilCheck rfl) ?_
  refine KD.val rfl rfl (ov_field Try.underlying124 rfl Try.sizeOf122 rfl (k := 0) rfl rfl) ?_
  refine KD.rd rfl rfl (om_ld Try.isAgg122 rfl rfl) ?_
  refine KD.val rfl rfl (ov_move rfl) ?_
  refine KD.val rfl rfl (ov_idxSN au6 Try.underlying122 Try.sizeOf24 rfl rfl (by omega)) ?_
  refine KD.rd rfl rfl (om_sl1 (by assumption) (by intro _; rfl) Try.isAgg24 rfl rfl au3 (by rfl)) ?_
  refine KD.rd rfl rfl (om_ld Try.isAgg65 rfl rfl) ?_
  refine KD.val rfl rfl (ov_nilCheck rfl) ?_
  refine KD.val rfl rfl (ov_field Try.underlying124 rfl Try.sizeOf122 rfl (k := 0) rfl rfl) ?_
  refine KD.rd rfl rfl (om_ld Try.isAgg122 rfl rfl) ?_
  refine KD.val rfl rfl (ov_move rfl) ?_
  refine KD.val rfl rfl (ov_idxSN au6 Try.underlying122 Try.sizeOf24 rfl rfl (by omega)) ?_
  refine KD.rd rfl rfl (om_sl1 (by assumption) (by intro _; rfl) Try.isAgg24 rfl rfl au3 (by rfl)) ?_
  refine KD.fork rfl rfl ?_ ?_
  ·
   refine LM.callE (oc_call (enters_fn Try.func41 (by kernel_rfl) rfl) rfl) (fun w hm hc hg => hq.read hmo (hm.pick mm) (fun m hr hM => rqLoad_spec w hr hM)) ?_
   refine LM.nil ?_
   refine QM.one au1 (fun _ _ => trivial) ?_
   refine KD.fork rfl rfl ?_ ?_
   ·
    refine LM.callE (oc_call (enters_fn Try.func41 (by kernel_rfl) rfl) rfl) (fun w hm hc hg => hq.read hle (hm.pick mm) (fun m hr hM => rqLoad_spec w hr hM)) ?_
    refine LM.nil ?_
    refine QM.one au1 (fun _ _ => trivial) ?_
    refine KD.val rfl rfl (ov_sub64 rfl rfl (by omega)) ?_
    refine KD.one rfl ?_
    refine LM.alloc Try.zeroValue3 rfl (fun b8 hb8 => ?_)
    refine LM.nil ?_
    refine QM.one au1 (fun _ _ => trivial) ?_
    refine KD.one rfl ?_
    refine LM.st Try.sizeOf3 rfl rfl rfl au5 rfl (fun hlt => by first | exact inM_0 | exact inM_1 | exact inM_2' | exact absurd hlt (by omega)) ?_
    refine LM.nil ?_
    refine QM.one au1 (fun _ _ => trivial) ?_
    refine KD.nil ?_
    refine QM.sub (e' := [(1, _), (6, _), (7, _), (8, _)]) au9 ?_
    refine QM.meetK (b8) ⟨au2, rfl, rfl, rfl, trivial⟩ au1 ?_
    · assumption
   refine LM.alloc Try.zeroValue3 rfl (fun b8 hb8 => ?_)
   refine LM.nil ?_
   refine QM.one au1 (fun _ _ => trivial) ?_
   refine KD.one rfl ?_
   refine LM.callE (oc_call (enters_fn Try.func41 (by kernel_rfl) rfl) rfl) (fun w hm hc hg => hq.read hle (hm.pick mm) (fun m hr hM => rqLoad_spec w hr hM)) ?_
   refine LM.nil ?_
   refine QM.one au1 (fun _ _ => trivial) ?_
   refine KD.val rfl rfl (ov_sub64 rfl rfl (by omega)) ?_
   refine KD.one rfl ?_
   refine LM.st Try.sizeOf3 rfl rfl rfl au5 rfl (fun hlt => by first | exact inM_0 | exact inM_1 | exact inM_2' | exact absurd hlt (by omega)) ?_
   refine LM.nil ?_
   refine QM.one au1 (fun _ _ => trivial) ?_
   refine KD.nil ?_
   refine QM.sub (e' := [(1, _), (6, _), (7, _), (8, _)]) au9 ?_
   refine QM.meetK (b8) ⟨au2, rfl, rfl, rfl, trivial⟩ au1 ?_
   · assumption
  refine LM.alloc Try.zeroValue3 rfl (fun b8 hb8 => ?_)
  refine LM.nil ?_
  refine QM.one au1 (fun _ _ => trivial) ?_
  refine KD.one rfl ?_
  refine LM.callE (oc_call (enters_fn Try.func41 (by kernel_rfl) rfl) rfl) (fun w hm hc hg => hq.read hmo (hm.pick mm) (fun m hr hM => rqLoad_spec w hr hM)) ?_
  refine LM.nil ?_
  refine QM.one au1 (fun _ _ => trivial) ?_
  refine KD.one rfl ?_
  refine LM.callE (oc_call (enters_fn Try.func41 (by kernel_rfl) rfl) rfl) (fun w hm hc hg => hq.read hle (hm.pick mm) (fun m hr hM => rqLoad_spec w hr hM)) ?_
  refine LM.nil ?_
  refine QM.one au1 (fun _ _ => trivial) ?_
  refine KD.val rfl rfl (ov_sub64 rfl rfl (by omega)) ?_
  refine KD.one rfl ?_
  refine LM.st Try.sizeOf3 rfl rfl rfl au5 rfl (fun hlt => by first | exact inM_0 | exact inM_1 | exact inM_2' | exact absurd hlt (by omega)) ?_
  refine LM.nil ?_
  refine QM.one au1 (fun _ _ => trivial) ?_
  refine KD.nil ?_
  refine QM.sub (e' := [(1, _), (6, _), (7, _), (8, _)]) au9 ?_
  refine QM.meetK (b8) ⟨au2, rfl, rfl, rfl, trivial⟩ au1 ?_
  · assumption
 rintro b8 hb8
 change QM _ _ _ _ _ (pC b1 b :: iC b8 (difO qs) :: coC b ad n cap bw bg :: (bw, .map esw clw) :: (bg, .map esg clg) :: (ms ++ (mm ++ []))) _ _ _
 refine QM.then (wpM.seq (wpM.region ?_))
 refine LM.alloc Try.zeroValue3 rfl (fun b9 hb9 => ?_)
 refine LM.st Try.sizeOf3 rfl rfl rfl au5 rfl (fun hlt => by first | exact inM_0 | exact inM_1 | exact inM_2' | exact absurd hlt (by omega)) ?_
 refine LM.nil (QM.sub (e' := [(1, _), (6, _), (7, _), (8, _), (9, _)]) au9 (QM.then ?_))
 refine wpM.seq ?_
 refine wpM.seq (wpM.region ?_)
 refine LM.rd (om_ld Try.isAgg65 rfl rfl) ?_
 refine LM.val (ov_nilCheck rfl) ?_
 refine LM.val (ov_field Try.underlying124 rfl Try.sizeOf122 rfl (k := 0) rfl rfl) ?_
 refine LM.rd (om_ld Try.isAgg122 rfl rfl) ?_
 refine LM.mv rfl ?_
 refine LM.val (ov_idxSN au6 Try.underlying122 Try.sizeOf24 rfl rfl (by omega)) ?_
 refine LM.rd (om_sl1 (by assumption) (by intro _; rfl) Try.isAgg24 rfl rfl au3 (by rfl)) ?_
 refine LM.callT (oc_call (enters_fn Try.func38 (by kernel_rfl) rfl) rfl) RqA.mono (fun w hm hc hg => rqReady_spec (bs.getD (mo qs) default) w) ?_
 rintro u42 m42 ⟨c1, rfl, rfl, hc1⟩ -
 refine LM.nil (QM.sub (e' := [(1, _), (6, _), (7, _), (8, _), (9, _), (42, _)]) au9 (QM.then ?_))
 refine wpM.block ?_
 refine wpM.toRange (α := Unit) (fun k ⟨⟩ => qP c1 (bs.getD (mo qs) default) :: pC b1 b :: iC b8 (difO qs) :: iC b9 (-1) :: coC b ad n cap bw bg :: (bw, .map esw clw) :: (bg, .map esg clg) :: (ms ++ (mm ++ []))) (⟨⟩) au1 ?_
 refine wpM.rangeP (α := Unit) (β := Nat) (enters_fn Try.func81 (by kernel_rfl) rfl) rfl (rqReady_seq hr) (fun k ⟨⟩ Mp => qP c1 (bs.getD (mo qs) default) :: pC b1 b :: iC b8 (difO qs) :: iC b9 (-1) :: coC b ad n cap bw bg :: (bw, .map esw clw) :: (bg, .map esg clg) :: (ms ++ (mm ++ (Mp ++ [])))) (by rintro k ⟨⟩ Mp; first | rfl | simp) (fun _ _ => top) (fun k ⟨⟩ => ∀ j, j < k → ¬ ((rdyO (qg qs (mo qs))).getD j default).x < difO qs) (fun kx => pC b1 b :: iC b9 ((rdyO (qg qs (mo qs))).getD kx default).id :: coC b ad n cap bw bg :: (bw, .map esw clw) :: (bg, .map esg clg) :: (ms ++ (mm ++ []))) (fun _ => top) (fun c kx => c = .exit 0 ∧ kx < (rdyO (qg qs (mo qs))).length ∧ balF qs = some ((rdyO (qg qs (mo qs))).getD kx default)) ⟨⟩ rfl (fun _ h => h) (fun j hj => absurd hj (Nat.not_lt_zero j)) (by kernel_rfl) (by intro k av hav; obtain ⟨hkl, rfl⟩ := rdyA_inv hav; rfl) (.inl trivial) (fun k a w hm hc _ _ => rd_pull hpl ((SubM.mem au1) w hm)) (fun _ _ _ _ => gl_top _) (fun _ _ _ => gl_top _) (fun k x hk2 => mm_cons rfl (mm_cons rfl (mm_cons rfl (mm_cons rfl (mm_cons rfl (mm_cons rfl (mm_cons rfl (mm_app hs.wlk (mm_app (hq.wlk rqK) mm_nil))))))))) (fun c z hk2 => mm_cons rfl (mm_cons rfl (mm_cons rfl (mm_cons rfl (mm_cons rfl (mm_app hs.wlk (mm_app (hq.wlk rqK) mm_nil))))))) ?_ ?_ ?_ ?_
 ·
  rintro k av ⟨⟩ l D rc n1 W1 Mp hD hll hput hrc hav hnb
  change wpM _ _ _ _ _ _ _ ((l, Obj.loop rc) :: ([(D, Obj.deferred (some []))] ++ (qP c1 (bs.getD (mo qs) default) :: pC b1 b :: iC b8 (difO qs) :: iC b9 (-1) :: coC b ad n cap bw bg :: (bw, .map esw clw) :: (bg, .map esg clg) :: (ms ++ (mm ++ (Mp ++ [])))))) _ _ _
  obtain ⟨hkl, rfl⟩ := rdyA_inv hav
  obtain ⟨wr, hu1, hu2, hid0⟩ := rdy_raw hw hwg hkl
  refine wpM.region ?_
  refine LM.as rfl ?_
  refine LM.nil (QM.sub (e' := [(1, _), (6, _), (7, _), (8, _), (9, _), (10, _)]) au9 ?_)
  refine QM.toBodyF (hput k ⟨⟩) hll ?_
  refine wpM.block ?_
  refine wpM.seq ?_
  refine wpM.draw [(0, 1), (1, 0), (2, 0), (3, 1), (4, 0), (5, 1), (6, 0), (7, 0), (8, 1), (9, 0)] (by kernel_rfl) (by kernel_rfl) ?_
  refine LD.rd rfl rfl (om_ld Try.isAgg65 rfl rfl) ?_
  refine LD.val rfl rfl (ov_nilCheck rfl) ?_
  refine LD.val rfl rfl (ov_field Try.underlying124 rfl Try.sizeOf38 rfl (k := 2) rfl rfl) ?_
  refine LD.rd rfl rfl (om_ld Try.isAgg38 rfl rfl) ?_
  refine LD.val rfl rfl (ov_move rfl) ?_
  refine LD.rd rfl rfl (om_lk Try.underlying38 Try.underlying3 Try.zeroValue3 rfl rfl (by assumption) (getD_some hu1)) ?_
  refine LD.val rfl rfl (ov_max rfl rfl) ?_
  refine LD.val rfl rfl (ov_min rfl rfl) ?_
  refine LD.rd rfl rfl (om_ld Try.isAgg3 rfl rfl) ?_
  rw [bring_eq (by decide), hu2]
  refine LD.val rfl rfl (ov_lss rfl rfl) ?_
  refine LD.nil ?_
  refine QM.sub (e' := [(1, _), (6, _), (7, _), (9, _), (10, _), (54, _)]) au9 (QM.then ?_)
  refine wpM.condD rfl (fun h1 => ?_) (fun h1 => ?_)
  ·
   refine wpM.seq (wpM.region ?_)
   refine LM.mv rfl ?_
   refine LM.st Try.sizeOf3 rfl rfl rfl au5 rfl (fun hlt => by first | exact inM_0 | exact inM_1 | exact inM_2' | exact absurd hlt (by omega)) ?_
   refine LM.nil (QM.sub (e' := [(1, _), (6, _), (7, _), (9, _)]) au9 (QM.then ?_))
   refine wpM.exit ?_
   refine QM.block_miss rfl ?_
   refine QM.rexit (k) (SubM.mem au1) (fun _ h => h) ?_
   · exact ⟨rfl, hkl, bal_at hnb hkl (by assumption)⟩
  refine wpM.skip ?_
  refine QM.block_normal ?_
  refine QM.next (⟨⟩) (SubM.mem au1) (fun _ h => h) ?_
  · exact fun j hj => by rcases Nat.lt_or_ge j k with q | q; exact hnb j q; rw [show j = k by omega]; assumption
 ·
  rintro ⟨⟩ D0 hD0 hnb
  rw [hrl] at hnb; have hbf := bal_no hnb
  refine QM.sub (e' := [(1, _), (6, _), (7, _), (9, _)]) au9 ?_
  refine QM.block_normal ?_
  refine QM.then ?_
  refine wpM.seq ?_
  refine wpM.seq (wpM.region ?_)
  refine LM.rd (om_ld Try.isAgg3 rfl rfl) ?_
  refine LM.val (ov_eql rfl rfl) ?_
  refine LM.nil (QM.sub (e' := [(1, _), (6, _), (7, _), (9, _), (57, _)]) au9 (QM.then ?_))
  refine wpM.condD rfl (fun h2 => ?_) (fun h2 => ?_)
  ·
   refine wpM.seq (wpM.region ?_)
   refine LM.as rfl (LM.as rfl (LM.as rfl (LM.as rfl ?_)))
   refine LM.nil (QM.sub (e' := [(2, _), (3, _), (4, _), (5, _)]) au9 (QM.then ?_))
   refine wpM.ret ?_
   refine QM.then_ret ?_
   refine QM.leaveDF (ds := [D0]) (.inl rfl) [.tmp 2, .tmp 3, .tmp 4, .tmp 5] Try.results48 rfl (fun D h => by simp only [List.mem_cons, List.not_mem_nil, or_false] at h; omega) ?_
   intro w' hm' hc'
   rw [show balI qs = -1 by unfold balI; rw [hbf], show balA qs = -1 by unfold balA; rw [hbf], show balB qs = -1 by unfold balB; rw [hbf], show balX qs = qs by unfold balX; rw [hbf], hbf]; exact crm_leaf hw hn hs hq hew heg hwh hwg hb hbw hbg hm' (by (repeat' (first | exact SubM.nil _ | refine SubM.cons (by rfl) ?_ | refine SubM.app ?_))) hc' (inn_refl _ _)
  exact absurd rfl h2
 ·
  rintro kx D0 hD0 hx
  first | exact hx.elim | cases hx.1
 rintro id kx D0 hD0 hx
 obtain ⟨he, hkx, hbf⟩ := hx; cases he; obtain ⟨hb1, hb2, hb3, hb4, hb5, hb6, hb7⟩ := bal_some hw hbf
 refine QM.block_hit ?_
 refine QM.then ?_
 refine wpM.seq ?_
 refine wpM.seq (wpM.region ?_)
 refine LM.rd (om_ld Try.isAgg3 rfl rfl) ?_
 refine LM.val (ov_eql rfl rfl) ?_
 refine LM.nil (QM.sub (e' := [(1, _), (6, _), (7, _), (9, _), (57, _)]) au9 (QM.then ?_))
 refine wpM.condD rfl (fun h3 => ?_) (fun h3 => ?_)
 ·
  (have := (hw.wf _ hmo).pos _ hb1; omega)
 refine wpM.skip ?_
 refine QM.then (wpM.seq (wpM.region ?_))
 refine LM.rd (om_ld Try.isAgg65 rfl rfl) ?_
 refine LM.rd (om_ld Try.isAgg3 rfl rfl) ?_
 refine LM.mv rfl ?_
 refine LM.cU (oc_call (enters_fn Try.func84 (by kernel_rfl) rfl) rfl) (fun w hm hc hg => carry_spec _ (le qs) w hC (by rw [hb4]; exact hb5) hb6 hb7 (Nat.le_trans hn0 hc.size) (by have h9 := hm.pick (coC b ad n cap bw bg :: (bw, .map esw clw) :: (bg, .map esg clg) :: (ms ++ (mm ++ []))); rw [List.append_nil] at h9; exact h9)) hC.wlk (fun p hp _ => ⟨p, hp, rfl⟩) ?_
 rintro u61 m61 ⟨rfl, hq61⟩ hin61
 refine LM.nil (QM.sub (e' := [(6, _), (7, _), (9, _)]) au9 (QM.then (wpM.seq (wpM.region ?_))))
 refine LM.rd (om_ld Try.isAgg3 rfl rfl) ?_
 refine LM.mv rfl (LM.mv rfl (LM.as rfl (LM.as rfl (LM.as rfl (LM.as rfl ?_)))))
 refine LM.nil (QM.sub (e' := [(2, _), (3, _), (4, _), (5, _)]) au9 (QM.then ?_))
 refine wpM.ret ?_
 refine QM.leaveDF (ds := [D0]) (.inl rfl) [.tmp 2, .tmp 3, .tmp 4, .tmp 5] Try.results48 rfl (fun D h => by simp only [List.mem_cons, List.not_mem_nil, or_false] at h; omega) ?_
 intro w' hm' hc'
 rw [show balI qs = ((rdyO (qg qs (mo qs))).getD kx default).id by unfold balI; rw [hbf], show balA qs = (mo qs : Nat) by unfold balA; rw [hbf], show balB qs = (le qs : Nat) by unfold balB; rw [hbf], show balX qs = carX qs ((rdyO (qg qs (mo qs))).getD kx default).id (le qs) by unfold balX; rw [hbf], hbf]; exact upd_m ⟨rfl, hq61⟩ hm' (by (repeat' (first | exact SubM.nil _ | refine SubM.cons (by rfl) ?_ | refine SubM.app ?_))) hc' hin61
end Go.Eng
namespace Go.Eng
open Go Go.Proofs Go.RowKit
theorem most_pos' {qs : List Qm} {i : Nat} (h2 : loadO (qg qs (mostN qs i)).l < loadO (qg qs i).l) : ((i : Nat) : Int) = ((mostN qs (i + 1) : Nat) : Int) := by rw [most_succ, if_pos h2]
theorem most_neg' {qs : List Qm} {i : Nat} (h2 : ¬ loadO (qg qs (mostN qs i)).l < loadO (qg qs i).l) : ((mostN qs i : Nat) : Int) = ((mostN qs (i + 1) : Nat) : Int) := by rw [most_succ, if_neg h2]
theorem least_pos' {qs : List Qm} {i : Nat} (h2 : loadO (qg qs i).l < loadO (qg qs (leastN qs i)).l) : ((i : Nat) : Int) = ((leastN qs (i + 1) : Nat) : Int) := by rw [least_succ, if_pos h2]
theorem least_neg' {qs : List Qm} {i : Nat} (h2 : ¬ loadO (qg qs i).l < loadO (qg qs (leastN qs i)).l) : ((leastN qs i : Nat) : Int) = ((leastN qs (i + 1) : Nat) : Int) := by rw [least_succ, if_neg h2]
set_option maxRecDepth 100000 in
theorem rcRem_spec {n0 b : Nat} {qs : List Qm} {m : Mem0} (a : Int) (w : World) (h : RcM n0 b qs m) (hn0 : n0 ≤ w.heap.size) (hM : Mem w m) : Ret Try.prog 57 #[.pointer (some ⟨b, 0, none⟩), .int .i64 a] w (Upd m (fun u m' => u = .tuple #[U (cRemV qs a), .bool (decide (ofN qs a < qs.length))] ∧ RcM n0 b (cRemX qs a) m') w) := by
 have hC := h; obtain ⟨hw, ad, n, cap, ms, mm, bs, rfl, hn, hs, hq, hb⟩ := h; have hbl := hq.len
 refine Ret.enterM (l := [.pointer (some ⟨b, 0, none⟩), .int .i64 a]) Try.func57 rfl Try.ntmps57 rfl (rcC b ad n cap :: (ms ++ (mm ++ []))) ((inM (rcC b ad n cap :: (ms ++ mm)))) (by rw [List.append_nil]; exact hM) ?_
 refine wpM.seq (wpM.region ?_)
 refine LM.as rfl (LM.as rfl ?_)
 refine LM.nil (QM.sub (e' := [(0, _), (1, _)]) au9 (QM.then (wpM.seq (wpM.region ?_))))
 refine LM.mv rfl (LM.mv rfl ?_)
 refine LM.callE (oc_call (enters_fn Try.func60 (by kernel_rfl) rfl) rfl) (fun w hm hc hg => rcOf_spec a w hC (by have h9 := hm.pick (rcC b ad n cap :: (ms ++ (mm ++ []))); rw [List.append_nil] at h9; exact h9)) ?_
 refine LM.as rfl ?_
 refine LM.nil (QM.sub (e' := [(0, _), (1, _), (6, _)]) au9 (QM.then ?_))
 refine wpM.seq ?_
 refine wpM.seq (wpM.region ?_)
 refine LM.mv rfl ?_
 refine LM.val (ov_lss rfl rfl) ?_
 refine LM.nil (QM.sub (e' := [(0, _), (1, _), (6, _), (11, _)]) au9 (QM.then ?_))
 refine wpM.condD rfl (fun h1 => ?_) (fun h1 => ?_)
 ·
  have hof := ofO_neg h1
  refine wpM.seq (wpM.region ?_)
  refine LM.as rfl (LM.as rfl ?_)
  refine LM.nil (QM.sub (e' := [(4, _), (5, _)]) au9 (QM.then ?_))
  refine wpM.ret ?_
  refine QM.then_ret ?_
  refine QM.leave (.inl rfl) [.tmp 4, .tmp 5] Try.results57 rfl ?_
  intro w' hm' hc' hg'
  rw [show cRemV qs a = 0#64 from if_neg hof, decide_eq_false hof, show cRemX qs a = qs from if_neg hof]; exact rcm_leaf hw hn hs hq hb hm' (by (repeat' (first | exact SubM.nil _ | refine SubM.cons (by rfl) ?_ | refine SubM.app ?_))) hc' (inn_refl _ _)
 have hof := ofO_pos h1; rw [ofO_hit hof]; have hrx : remX (qg qs (ofN qs a)) a = remQ (qg qs (ofN qs a)) a := if_pos (of_hit hof)
 refine wpM.skip ?_
 refine QM.then (wpM.seq (wpM.region ?_))
 refine LM.mv rfl ?_
 refine LM.val (ov_nilCheck rfl) ?_
 refine LM.val (ov_field Try.underlying82 rfl Try.sizeOf80 rfl (k := 0) rfl rfl) ?_
 refine LM.rd (om_ld Try.isAgg80 rfl rfl) ?_
 refine LM.mv rfl ?_
 refine LM.val (ov_idxSN au6 Try.underlying80 Try.sizeOf51 rfl rfl (by omega)) ?_
 refine LM.rd (om_sl1 (by assumption) (by intro _; rfl) Try.isAgg51 rfl rfl au3 (by rfl)) ?_
 refine LM.mv rfl ?_
 refine LM.cU (oc_call (enters_fn Try.func25 (by kernel_rfl) rfl) rfl) (fun w hm hc hg => hq.upd rfK hof (hm.pick mm) (fun m hr hM => rfRem_spec a w hr (Nat.le_trans hn0 hc.size) hM)) (hq.wlk rfK) (fun p hp _ => inM_mr p hp) ?_
 rintro u20 m20 ⟨rfl, hq20⟩ hin20; rw [hrx] at hq20; rw [decide_eq_true (of_hit hof)]
 refine LM.val (ov_extract rfl rfl) ?_
 refine LM.val (ov_extract rfl rfl) ?_
 refine LM.as rfl (LM.as rfl ?_)
 refine LM.nil (QM.sub (e' := [(4, _), (5, _)]) au9 (QM.then ?_))
 refine wpM.ret ?_
 refine QM.leave (.inl rfl) [.tmp 4, .tmp 5] Try.results57 rfl ?_
 intro w' hm' hc' hg'
 rw [show cRemV qs a = (gQ (qg qs (ofN qs a)).l a).V from if_pos hof, decide_eq_true hof, show cRemX qs a = qs.set (ofN qs a) (remQ (qg qs (ofN qs a)) a) from if_pos hof]; exact rcm_leaf (crem_wf hw hof) (by rw [qg_len]; exact hn) hs hq20 hb hm' (by (repeat' (first | exact SubM.nil _ | refine SubM.cons (by rfl) ?_ | refine SubM.app ?_))) hc' hin20
set_option maxRecDepth 100000 in
theorem rcmove_spec {n0 b : Nat} {qs : List Qm} {m : Mem0} (a : Int) (to : Nat) (w : World) (h : RcM n0 b qs m) (ha : ofN qs a < qs.length) (ht : to < qs.length) (hne : to ≠ ofN qs a) (hn0 : n0 ≤ w.heap.size) (hM : Mem w m) : Ret Try.prog 86 #[.pointer (some ⟨b, 0, none⟩), .int .i64 a, .int .i64 (to : Nat)] w (Upd m (fun u m' => u = .tuple #[] ∧ RcM n0 b (carX qs a to) m') w) := by
 have hC := h; obtain ⟨hw, ad, n, cap, ms, mm, bs, rfl, hn, hs, hq, hb⟩ := h; have hbl := hq.len; have hE := car_E hw ha ht hne; have hx := (hw.wf _ ha).wt _ (has_get (of_hit ha)).1; have hrx : remX (qg qs (ofN qs a)) a = remQ (qg qs (ofN qs a)) a := if_pos (of_hit ha); have hl1 : (carX1 qs a).length = qs.length := qg_len _ _ _; have hat := car1_at hw ha ht hne; obtain ⟨hq1, hq2⟩ := addE0 hE (carV qs a to) (gQ (qg qs (ofN qs a)).l a).x; obtain ⟨adq, nq, capq, msq, hnq, hwq, hsq, hMq⟩ := hq.pull' (i := ofN qs a) ha; subst hnq; have hix := of_hit ha; have hix2 : ixO (qg qs (ofN qs a)).l a < (qg qs (ofN qs a)).l.length := hix
 refine Ret.enterM (l := [.pointer (some ⟨b, 0, none⟩), .int .i64 a, .int .i64 (to : Nat)]) Try.func86 rfl Try.ntmps86 rfl (rcC b ad n cap :: (ms ++ (mm ++ []))) ((inM (rcC b ad n cap :: (ms ++ mm)))) (by rw [List.append_nil]; exact hM) ?_
 refine wpM.seq ?_
 refine wpM.draw [(0, 0), (1, 0), (2, 0), (3, 1), (4, 0), (5, 0), (6, 2), (7, 0), (8, 1), (9, 0)] (by kernel_rfl) (by kernel_rfl) ?_
 refine LD.val rfl rfl (ov_move rfl) ?_
 refine LD.val rfl rfl (ov_nilCheck rfl) ?_
 refine LD.val rfl rfl (ov_field Try.underlying82 rfl Try.sizeOf80 rfl (k := 0) rfl rfl) ?_
 refine LD.rd rfl rfl (om_ld Try.isAgg80 rfl rfl) ?_
 refine LD.val rfl rfl (ov_move rfl) ?_
 refine LD.val rfl rfl (ov_move rfl) ?_
 refine LD.callE rfl rfl (oc_call (enters_fn Try.func60 (by kernel_rfl) rfl) rfl) (fun w hm hc hg => (by have k := rcOf_spec a w hC (by have h9 := hm.pick (rcC b ad n cap :: (ms ++ (mm ++ []))); rw [List.append_nil] at h9; exact h9); rw [ofO_hit ha] at k; exact k)) ?_
 refine LD.val rfl rfl (ov_idxSN au6 Try.underlying80 Try.sizeOf51 rfl rfl (by omega)) ?_
 refine LD.rd rfl rfl (om_sl1 (by assumption) (by intro _; rfl) Try.isAgg51 rfl rfl au3 (by rfl)) ?_
 refine LD.val rfl rfl (ov_assign rfl) ?_
 refine LD.nil ?_
 refine QM.sub (e' := [(0, _), (1, _), (2, _), (6, _)]) au9 (QM.then ?_)
 refine wpM.seq ?_
 refine wpM.joinK (α := Nat) (fun b7 => [(7, .pointer (some ⟨b7, 0, none⟩))]) [(0, _), (1, _), (2, _), (6, _)] (fun b7 => (b7, .cells (fTk (gQ (qg qs (ofN qs a)).l a)).toArray 112 (0, 0)) :: rcC b ad n cap :: (ms ++ (mm ++ []))) (fun b7 => w.heap.size ≤ b7) ⟨rfl, rfl, rfl, rfl, trivial⟩ ?_ ?_
 ·
  refine wpM.keep (rcC b ad n cap :: (ms ++ (mm ++ []))) (fun _ => True) (.one 0 0 (.one 1 0 (.one 2 0 (.one 3 1 (.one 4 0 (.one 5 0 (.fork 6 (.one 7 0 (.one 8 1 (.one 9 2 (.one 10 2 .nil)))) 9 (.one 6 2 (.one 7 0 (.one 8 1 (.one 10 2 .nil))))))))))) (by kernel_rfl) (by kernel_rfl) au1 (fun _ _ => trivial) ?_
  refine KD.val rfl rfl (ov_move rfl) ?_
  refine KD.val rfl rfl (ov_nilCheck rfl) ?_
  refine KD.val rfl rfl (ov_field Try.underlying110 rfl Try.sizeOf108 rfl (k := 2) rfl rfl) ?_
  refine KD.rdC rfl rfl (fun w hm hc hg => om_ld (M := rfC (bs.getD (ofN qs a) default) (qg qs (ofN qs a)).g (qg qs (ofN qs a)).fl adq (qg qs (ofN qs a)).l.length capq (qg qs (ofN qs a)).cur (qg qs (ofN qs a)).ran :: msq) Try.isAgg108 rfl rfl w (hMq w (hm.pick mm))) ?_
  refine KD.val rfl rfl (ov_move rfl) ?_
  refine KD.val rfl rfl (ov_move rfl) ?_
  refine KD.fork rfl rfl ?_ ?_
  ·
   refine LM.callE (oc_call (enters_fn Try.func71 (by kernel_rfl) rfl) rfl) (fun w hm hc hg => hq.read ha (hm.pick mm) (fun m hr hM => (by have k := rfAt_spec a w hr hM; rw [atO_hit hix2] at k; exact k))) ?_
   refine LM.nil ?_
   refine QM.one au1 (fun _ _ => trivial) ?_
   refine KD.val rfl rfl (ov_idxSN au6 Try.underlying108 Try.sizeOf112 rfl rfl (by omega)) ?_
   refine KD.rdC rfl rfl (fun w hm hc hg => om_slA (M := rfC (bs.getD (ofN qs a) default) (qg qs (ofN qs a)).g (qg qs (ofN qs a)).fl adq (qg qs (ofN qs a)).l.length capq (qg qs (ofN qs a)).cur (qg qs (ofN qs a)).ran :: msq) hsq (by intro _; rfl) Try.isAgg112 Try.sizeOf112 rfl (by exact getq default hix2) w (hMq w (hm.pick mm))) ?_
   refine KD.one rfl ?_
   refine LM.alloc Try.zeroValue112 rfl (fun b7 hb7 => ?_)
   refine LM.nil ?_
   refine QM.one au1 (fun _ _ => trivial) ?_
   refine KD.one rfl ?_
   refine LM.stW Try.sizeOf112 rfl rfl rfl rfl au7 (fun hlt => by first | exact inM_0 | exact inM_1 | exact absurd hlt (by omega)) ?_
   refine LM.nil ?_
   refine QM.one au1 (fun _ _ => trivial) ?_
   refine KD.nil ?_
   refine QM.sub (e' := [(0, _), (1, _), (2, _), (6, _), (7, _)]) au9 ?_
   refine QM.meetK (b7) ⟨au2, rfl, rfl, rfl, rfl, trivial⟩ au1 ?_
   · assumption
  refine LM.alloc Try.zeroValue112 rfl (fun b7 hb7 => ?_)
  refine LM.nil ?_
  refine QM.one au1 (fun _ _ => trivial) ?_
  refine KD.one rfl ?_
  refine LM.callE (oc_call (enters_fn Try.func71 (by kernel_rfl) rfl) rfl) (fun w hm hc hg => hq.read ha (hm.pick mm) (fun m hr hM => (by have k := rfAt_spec a w hr hM; rw [atO_hit hix2] at k; exact k))) ?_
  refine LM.nil ?_
  refine QM.one au1 (fun _ _ => trivial) ?_
  refine KD.val rfl rfl (ov_idxSN au6 Try.underlying108 Try.sizeOf112 rfl rfl (by omega)) ?_
  refine KD.rdC rfl rfl (fun w hm hc hg => om_slA (M := rfC (bs.getD (ofN qs a) default) (qg qs (ofN qs a)).g (qg qs (ofN qs a)).fl adq (qg qs (ofN qs a)).l.length capq (qg qs (ofN qs a)).cur (qg qs (ofN qs a)).ran :: msq) hsq (by intro _; rfl) Try.isAgg112 Try.sizeOf112 rfl (by exact getq default hix2) w (hMq w (hm.pick mm))) ?_
  refine KD.one rfl ?_
  refine LM.stW Try.sizeOf112 rfl rfl rfl rfl au7 (fun hlt => by first | exact inM_0 | exact inM_1 | exact absurd hlt (by omega)) ?_
  refine LM.nil ?_
  refine QM.one au1 (fun _ _ => trivial) ?_
  refine KD.nil ?_
  refine QM.sub (e' := [(0, _), (1, _), (2, _), (6, _), (7, _)]) au9 ?_
  refine QM.meetK (b7) ⟨au2, rfl, rfl, rfl, rfl, trivial⟩ au1 ?_
  · assumption
 rintro b7 hb7
 change QM _ _ _ _ _ ((b7, .cells (fTk (gQ (qg qs (ofN qs a)).l a)).toArray 112 (0, 0)) :: rcC b ad n cap :: (ms ++ (mm ++ []))) _ _ _
 refine QM.then ?_
 refine wpM.seq ?_
 refine wpM.draw [(0, 0), (1, 1), (2, 0), (3, 0), (4, 0), (5, 1), (6, 2), (7, 0), (8, 0), (9, 0), (10, 0), (11, 0)] (by kernel_rfl) (by kernel_rfl) ?_
 refine LD.val rfl rfl (ov_field Try.underlying112 rfl Try.sizeOf26 rfl (k := 1) rfl rfl) ?_
 refine LD.rd rfl rfl (om_ld Try.isAgg26 rfl rfl) ?_
 refine LD.val rfl rfl (ov_move rfl) ?_
 refine LD.val rfl rfl (ov_nilCheck rfl) ?_
 refine LD.val rfl rfl (ov_field Try.underlying110 rfl Try.sizeOf26 rfl (k := 1) rfl rfl) ?_
 refine LD.rdC rfl rfl (fun w hm hc hg => om_ld (M := rfC (bs.getD (ofN qs a) default) (qg qs (ofN qs a)).g (qg qs (ofN qs a)).fl adq (qg qs (ofN qs a)).l.length capq (qg qs (ofN qs a)).cur (qg qs (ofN qs a)).ran :: msq) Try.isAgg26 rfl rfl w (hMq w (hm.pick mm))) ?_
 refine LD.callE rfl rfl (oc_call (enters_fn Try.func108 (by kernel_rfl) rfl) rfl) (fun w hm hc hg => rsub_spec _ _ w) ?_
 refine LD.val rfl rfl (ov_move rfl) ?_
 refine LD.val rfl rfl (ov_extract rfl rfl) ?_
 refine LD.val rfl rfl (ov_extract rfl rfl) ?_
 refine LD.val rfl rfl (ov_assign rfl) ?_
 refine LD.val rfl rfl (ov_assign rfl) ?_
 refine LD.nil ?_
 refine QM.sub (e' := [(0, _), (1, _), (2, _), (6, _), (7, _), (8, _)]) au9 (QM.then (wpM.seq (wpM.region ?_)))
 refine LM.mv rfl (LM.mv rfl ?_)
 refine LM.cU (oc_call (enters_fn Try.func25 (by kernel_rfl) rfl) rfl) (fun w hm hc hg => hq.upd rfK ha (hm.pick mm) (fun m hr hM => rfRem_spec a w hr (Nat.le_trans hn0 hc.size) hM)) (hq.wlk rfK) (fun p hp _ => inM_mr p hp) ?_
 rintro u42 m42 ⟨rfl, hq42⟩ hin42; rw [hrx] at hq42; change QqM RfM n0 bs (carX1 qs a) m42 at hq42; obtain ⟨ad2, n2, cap2, ms2, hn2, hw2, hs2, hM2⟩ := hq42.pull' (i := to) (by omega); rw [hat] at hn2 hw2 hs2 hM2
 refine LM.nil (QM.sub (e' := [(0, _), (1, _), (2, _), (7, _), (8, _)]) au9 (QM.then (wpM.seq (wpM.region ?_))))
 refine LM.mv rfl ?_
 refine LM.val (ov_nilCheck rfl) ?_
 refine LM.val (ov_field Try.underlying82 rfl Try.sizeOf80 rfl (k := 0) rfl rfl) ?_
 refine LM.rd (om_ld Try.isAgg80 rfl rfl) ?_
 refine LM.mv rfl ?_
 refine LM.val (ov_idxSN au6 Try.underlying80 Try.sizeOf51 rfl rfl (by omega)) ?_
 refine LM.rd (om_sl1 (by assumption) (by intro _; rfl) Try.isAgg51 rfl rfl au3 (by rfl)) ?_
 refine LM.val (ov_nilCheck rfl) ?_
 refine LM.val (ov_field Try.underlying110 rfl Try.sizeOf26 rfl (k := 1) rfl rfl) ?_
 refine LM.rdC (fun w hm hc hg => om_ld (M := rfC (bs.getD to default) (qg qs to).g (qg qs to).fl ad2 n2 cap2 (qg qs to).cur (qg qs to).ran :: ms2) Try.isAgg26 rfl rfl w (hM2 w (hm.pick m42))) ?_
 refine LM.mv rfl ?_
 refine LM.callE (oc_call (enters_fn Try.func76 (by kernel_rfl) rfl) rfl) (fun w hm hc hg => radd_spec _ _ w) ?_
 refine LM.mv rfl ?_
 refine LM.val (ov_extract rfl rfl) ?_
 refine LM.val (ov_extract rfl rfl) ?_
 refine LM.as rfl (LM.as rfl ?_)
 refine LM.nil (QM.sub (e' := [(0, _), (1, _), (2, _), (7, _), (10, _)]) au9 (QM.then ?_))
 refine wpM.draw [(0, 0), (1, 0), (2, 0), (3, 1), (4, 0), (5, 0), (6, 1), (7, 0), (8, 0), (9, 0), (10, 1), (11, 3)] (by kernel_rfl) (by kernel_rfl) ?_
 refine LD.val rfl rfl (ov_move rfl) ?_
 refine LD.val rfl rfl (ov_nilCheck rfl) ?_
 refine LD.val rfl rfl (ov_field Try.underlying82 rfl Try.sizeOf80 rfl (k := 0) rfl rfl) ?_
 refine LD.rd rfl rfl (om_ld Try.isAgg80 rfl rfl) ?_
 refine LD.val rfl rfl (ov_move rfl) ?_
 refine LD.val rfl rfl (ov_idxSN au6 Try.underlying80 Try.sizeOf51 rfl rfl (by omega)) ?_
 refine LD.rd rfl rfl (om_sl1 (by assumption) (by intro _; rfl) Try.isAgg51 rfl rfl au3 (by rfl)) ?_
 refine LD.val rfl rfl (ov_move rfl) ?_
 refine LD.val rfl rfl (ov_move rfl) ?_
 refine LD.val rfl rfl (ov_field Try.underlying112 rfl Try.sizeOf3 rfl (k := 2) rfl rfl) ?_
 refine LD.rd rfl rfl (om_ld Try.isAgg3 rfl rfl) ?_
 refine LD.tail rfl rfl ?_
 refine LM.cU (oc_call (enters_fn Try.func24 (by kernel_rfl) rfl) rfl) (fun w hm hc hg => hq42.upd rfK (i := to) (by omega) (hm.pick m42) (fun m hr hM => (show Ret _ _ _ _ (Upd m (fun u m' => u = .tuple #[U (addV (qg qs to) a (carV qs a to) (gQ (qg qs (ofN qs a)).l a).x), .int .i64 (addE (qg qs to) a)] ∧ RfM n0 (bs.getD to default) (addX (qg qs to) a (carV qs a to) (gQ (qg qs (ofN qs a)).l a).x) m') _) from by have k := rfAdd_spec a (carV qs a to) (gQ (qg qs (ofN qs a)).l a).x w hr (Nat.le_trans hn0 hc.size) hM; rw [hat] at k; exact k))) (hq42.wlk rfK) (inn_S hin42 inM_mr) ?_
 rintro u69 m69 ⟨rfl, hq69⟩ hin69; rw [hq1] at hq69; change QqM RfM n0 bs (carX qs a to) m69 at hq69
 refine LM.nil ?_
 refine QM.qn ?_
 refine QM.sub (e' := []) trivial ?_
 refine QM.leave (.inr rfl) [] Try.results86 rfl ?_
 intro w' hm' hc' hg'
 exact rcm_leaf (car_wf hw ha ht hne) (by rw [carX, qg_len, hl1]; exact hn) hs hq69 hb hm' (by (repeat' (first | exact SubM.nil _ | refine SubM.cons (by rfl) ?_ | refine SubM.app ?_))) hc' (inn_trans hin42 hin69)
set_option maxRecDepth 100000 in
theorem rcMov_spec {n0 b : Nat} {qs : List Qm} {m : Mem0} (a core : Int) (w : World) (h : RcM n0 b qs m) (hn0 : n0 ≤ w.heap.size) (hM : Mem w m) : Ret Try.prog 58 #[.pointer (some ⟨b, 0, none⟩), .int .i64 a, .int .i64 core] w (Upd m (fun u m' => u = .int .i64 (cMovE qs core a) ∧ RcM n0 b (cMovX qs core a) m') w) := by
 have hC := h; obtain ⟨hw, ad, n, cap, ms, mm, bs, rfl, hn, hs, hq, hb⟩ := h; have hbl := hq.len
 refine Ret.enterM (l := [.pointer (some ⟨b, 0, none⟩), .int .i64 a, .int .i64 core]) Try.func58 rfl Try.ntmps58 rfl (rcC b ad n cap :: (ms ++ (mm ++ []))) ((inM (rcC b ad n cap :: (ms ++ mm)))) (by rw [List.append_nil]; exact hM) ?_
 refine wpM.seq (wpM.region ?_)
 refine LM.as rfl ?_
 refine LM.nil (QM.sub (e' := [(0, _), (1, _), (2, _)]) au9 (QM.then (wpM.seq (wpM.region ?_))))
 refine LM.mv rfl (LM.mv rfl ?_)
 refine LM.callE (oc_call (enters_fn Try.func60 (by kernel_rfl) rfl) rfl) (fun w hm hc hg => rcOf_spec a w hC (by have h9 := hm.pick (rcC b ad n cap :: (ms ++ (mm ++ []))); rw [List.append_nil] at h9; exact h9)) ?_
 refine LM.as rfl ?_
 refine LM.nil (QM.sub (e' := [(0, _), (1, _), (2, _), (7, _)]) au9 (QM.then ?_))
 refine wpM.seq ?_
 refine wpM.seq (wpM.region ?_)
 refine LM.mv rfl ?_
 refine LM.val (ov_lss rfl rfl) ?_
 refine LM.nil (QM.sub (e' := [(0, _), (1, _), (2, _), (7, _), (12, _)]) au9 (QM.then ?_))
 refine wpM.condD rfl (fun h1 => ?_) (fun h1 => ?_)
 ·
  have hE : cMovE qs core a = 4 := if_pos (ofO_neg h1)
  refine wpM.seq (wpM.region ?_)
  refine LM.as rfl ?_
  refine LM.nil (QM.sub (e' := [(6, _)]) ⟨rfl, trivial⟩ (QM.then ?_))
  refine wpM.ret ?_
  refine QM.then_ret ?_
  refine QM.leave (.inl rfl) [.tmp 6] Try.results58 rfl ?_
  intro w' hm' hc' hg'
  rw [hE, mov_same (by rw [hE]; decide)]; exact rcm_leaf hw hn hs hq hb hm' (by (repeat' (first | exact SubM.nil _ | refine SubM.cons (by rfl) ?_ | refine SubM.app ?_))) hc' (inn_refl _ _)
 have hof := ofO_pos h1; have hof2 : ¬ ¬ ofN qs a < qs.length := fun q => q hof; rw [ofO_hit hof]; obtain ⟨adq, nq, capq, msq, hnq, hwq, hsq, hMq⟩ := hq.pull' (i := ofN qs a) hof
 refine wpM.skip ?_
 refine QM.then ?_
 refine wpM.seq ?_
 refine wpM.seq (wpM.region ?_)
 refine LM.mv rfl ?_
 refine LM.val (ov_lss rfl rfl) ?_
 refine LM.mv rfl ?_
 refine LM.splitD (t := 15) rfl (fun h2 => ?_) (fun h2 => ?_)
 ·
  have hE : cMovE qs core a = 1 := (by unfold cMovE; rw [if_neg hof2, if_pos (by omega)])
  refine LM.dr 15 rfl rfl rfl (LM.dr 15 rfl rfl rfl (LM.dr 15 rfl rfl rfl (LM.dr 15 rfl rfl rfl (LM.dr 15 rfl rfl rfl (LM.dr 15 rfl rfl rfl ?_)))))
  refine LM.dr 15 rfl rfl rfl ?_
  refine LM.val (ov_pickT rfl rfl) ?_
  refine LM.nil (QM.sub (e' := [(0, _), (1, _), (2, _), (7, _), (23, _)]) au9 (QM.then ?_))
  refine wpM.condT rfl ?_
  refine wpM.seq (wpM.region ?_)
  refine LM.as rfl ?_
  refine LM.nil (QM.sub (e' := [(6, _)]) ⟨rfl, trivial⟩ (QM.then ?_))
  refine wpM.ret ?_
  refine QM.then_ret ?_
  refine QM.leave (.inl rfl) [.tmp 6] Try.results58 rfl ?_
  intro w' hm' hc' hg'
  rw [hE, mov_same (by rw [hE]; decide)]; exact rcm_leaf hw hn hs hq hb hm' (by (repeat' (first | exact SubM.nil _ | refine SubM.cons (by rfl) ?_ | refine SubM.app ?_))) hc' (inn_refl _ _)
 refine LM.sp 15 rfl rfl rfl (LM.mv rfl (LM.sp 15 rfl rfl rfl (LM.mv rfl (LM.sp 15 rfl rfl rfl ?_))))
 refine LM.val (ov_nilCheck rfl) ?_
 refine LM.sp 15 rfl rfl rfl (LM.val (ov_field Try.underlying82 rfl Try.sizeOf80 rfl (k := 0) rfl rfl) (LM.sp 15 rfl rfl rfl ?_))
 refine LM.rd (om_ld Try.isAgg80 rfl rfl) ?_
 refine LM.sp 15 rfl rfl rfl ?_
 refine LM.val (ov_len Try.underlying80 rfl) ?_
 refine LM.sp 15 rfl rfl rfl ?_
 refine LM.val (ov_geq rfl rfl) ?_
 refine LM.val (ov_pickF rfl rfl) ?_
 refine LM.nil (QM.sub (e' := [(0, _), (1, _), (2, _), (7, _), (23, _)]) au9 (QM.then ?_))
 refine wpM.condD rfl (fun h3 => ?_) (fun h3 => ?_)
 ·
  have hE : cMovE qs core a = 1 := (by unfold cMovE; rw [if_neg hof2, if_pos (by omega)])
  refine wpM.seq (wpM.region ?_)
  refine LM.as rfl ?_
  refine LM.nil (QM.sub (e' := [(6, _)]) ⟨rfl, trivial⟩ (QM.then ?_))
  refine wpM.ret ?_
  refine QM.then_ret ?_
  refine QM.leave (.inl rfl) [.tmp 6] Try.results58 rfl ?_
  intro w' hm' hc' hg'
  rw [hE, mov_same (by rw [hE]; decide)]; exact rcm_leaf hw hn hs hq hb hm' (by (repeat' (first | exact SubM.nil _ | refine SubM.cons (by rfl) ?_ | refine SubM.app ?_))) hc' (inn_refl _ _)
 obtain ⟨i, rfl⟩ : ∃ i : Nat, core = i := ⟨core.toNat, by omega⟩; have hi : i < qs.length := (by omega); have hi0 : ¬ ((i : Int) < 0 ∨ (qs.length : Int) ≤ i) := by omega
 refine wpM.skip ?_
 refine QM.then ?_
 refine wpM.seq ?_
 refine wpM.seq (wpM.region ?_)
 refine LM.mv rfl (LM.mv rfl ?_)
 refine LM.val (ov_eql rfl rfl) ?_
 refine LM.nil (QM.sub (e' := [(0, _), (1, _), (2, _), (7, _), (26, _)]) au9 (QM.then ?_))
 refine wpM.condD rfl (fun h4 => ?_) (fun h4 => ?_)
 ·
  have hE : cMovE qs i a = 12 := (by unfold cMovE; rw [if_neg hof2, if_neg hi0, if_pos (by first | exact h4 | omega)])
  refine wpM.seq (wpM.region ?_)
  refine LM.as rfl ?_
  refine LM.nil (QM.sub (e' := [(6, _)]) ⟨rfl, trivial⟩ (QM.then ?_))
  refine wpM.ret ?_
  refine QM.then_ret ?_
  refine QM.leave (.inl rfl) [.tmp 6] Try.results58 rfl ?_
  intro w' hm' hc' hg'
  rw [hE, mov_same (by rw [hE]; decide)]; exact rcm_leaf hw hn hs hq hb hm' (by (repeat' (first | exact SubM.nil _ | refine SubM.cons (by rfl) ?_ | refine SubM.app ?_))) hc' (inn_refl _ _)
 refine wpM.skip ?_
 refine QM.then ?_
 refine wpM.seq ?_
 refine wpM.seq (wpM.region ?_)
 refine LM.mv rfl ?_
 refine LM.val (ov_nilCheck rfl) ?_
 refine LM.val (ov_field Try.underlying82 rfl Try.sizeOf80 rfl (k := 0) rfl rfl) ?_
 refine LM.rd (om_ld Try.isAgg80 rfl rfl) ?_
 refine LM.mv rfl ?_
 refine LM.val (ov_idxSN au6 Try.underlying80 Try.sizeOf51 rfl rfl (by omega)) ?_
 refine LM.rd (om_sl1 (by assumption) (by intro _; rfl) Try.isAgg51 rfl rfl au3 (by rfl)) ?_
 refine LM.val (ov_nilCheck rfl) ?_
 refine LM.val (ov_field Try.underlying110 rfl Try.sizeOf3 rfl (k := 3) rfl rfl) ?_
 refine LM.rdC (fun w hm hc hg => om_ld (M := rfC (bs.getD (ofN qs a) default) (qg qs (ofN qs a)).g (qg qs (ofN qs a)).fl adq nq capq (qg qs (ofN qs a)).cur (qg qs (ofN qs a)).ran :: msq) Try.isAgg3 rfl rfl w (hMq w (hm.pick mm))) ?_
 refine LM.mv rfl ?_
 refine LM.val (ov_eql rfl rfl) ?_
 refine LM.nil (QM.sub (e' := [(0, _), (1, _), (2, _), (38, _)]) au9 (QM.then ?_))
 refine wpM.condD rfl (fun h5 => ?_) (fun h5 => ?_)
 ·
  have hE : cMovE qs i a = 8 := (by unfold cMovE; rw [if_neg hof2, if_neg hi0, if_neg (by omega), if_pos h5])
  refine wpM.seq (wpM.region ?_)
  refine LM.as rfl ?_
  refine LM.nil (QM.sub (e' := [(6, _)]) ⟨rfl, trivial⟩ (QM.then ?_))
  refine wpM.ret ?_
  refine QM.then_ret ?_
  refine QM.leave (.inl rfl) [.tmp 6] Try.results58 rfl ?_
  intro w' hm' hc' hg'
  rw [hE, mov_same (by rw [hE]; decide)]; exact rcm_leaf hw hn hs hq hb hm' (by (repeat' (first | exact SubM.nil _ | refine SubM.cons (by rfl) ?_ | refine SubM.app ?_))) hc' (inn_refl _ _)
 have hE : cMovE qs i a = 0 := (by unfold cMovE; rw [if_neg hof2, if_neg hi0, if_neg (by omega), if_neg h5])
 refine wpM.skip ?_
 refine QM.then (wpM.seq (wpM.region ?_))
 refine LM.mv rfl (LM.mv rfl (LM.mv rfl ?_))
 refine LM.cU (oc_call (enters_fn Try.func86 (by kernel_rfl) rfl) rfl) (fun w hm hc hg => rcmove_spec a i w hC hof hi (by omega) (Nat.le_trans hn0 hc.size) (by have h9 := hm.pick (rcC b ad n cap :: (ms ++ (mm ++ []))); rw [List.append_nil] at h9; exact h9)) hC.wlk (fun p hp _ => ⟨p, hp, rfl⟩) ?_
 rintro u42 m42 ⟨rfl, hq42⟩ hin42
 refine LM.nil (QM.sub (e' := []) trivial (QM.then (wpM.seq (wpM.region ?_))))
 refine LM.as rfl ?_
 refine LM.nil (QM.sub (e' := [(6, _)]) ⟨rfl, trivial⟩ (QM.then ?_))
 refine wpM.ret ?_
 refine QM.leave (.inl rfl) [.tmp 6] Try.results58 rfl ?_
 intro w' hm' hc' hg'
 rw [hE, show cMovX qs i a = carX qs a i from if_pos hE]; exact upd_m ⟨rfl, hq42⟩ hm' (by (repeat' (first | exact SubM.nil _ | refine SubM.cons (by rfl) ?_ | refine SubM.app ?_))) hc' hin42
set_option maxRecDepth 100000 in
theorem rcBal_spec {n0 b : Nat} {qs : List Qm} {m : Mem0} (w : World) (h : RcM n0 b qs m) (hn0 : n0 ≤ w.heap.size) (hM : Mem w m) : Ret Try.prog 59 #[.pointer (some ⟨b, 0, none⟩)] w (Upd m (fun u m' => u = .tuple #[.int .i64 (balI qs), .int .i64 (balA qs), .int .i64 (balB qs)] ∧ RcM n0 b (balX qs) m') w) := by
 have hC := h; obtain ⟨hw, ad, n, cap, ms, mm, bs, rfl, hn, hs, hq, hb⟩ := h; have hbl := hq.len; have hlen := hw.len; have hmo : mo qs < qs.length := most_lt hw.len.1 qs.length (Nat.le_refl _); have hle : le qs < qs.length := least_lt hw.len.1 qs.length (Nat.le_refl _); have hl1 := (hw.wf _ hmo).load; have hl2 := (hw.wf _ hle).load; have hrlen := rdy_len (hw.wf _ hmo).nd; have hqlen := (hw.wf _ hmo).len
 refine Ret.enterM (l := [.pointer (some ⟨b, 0, none⟩)]) Try.func59 rfl Try.ntmps59 rfl (rcC b ad n cap :: (ms ++ (mm ++ []))) ((inM (rcC b ad n cap :: (ms ++ mm)))) (by rw [List.append_nil]; exact hM) ?_
 refine wpM.seq (wpM.region ?_)
 refine LM.as rfl (LM.as rfl (LM.as rfl ?_))
 refine LM.nil (QM.sub (e' := [(0, _)]) ⟨rfl, trivial⟩ (QM.then (wpM.seq (wpM.region ?_))))
 refine LM.as rfl ?_
 refine LM.nil (QM.sub (e' := [(0, _), (5, _)]) au9 (QM.then (wpM.seq (wpM.region ?_))))
 refine LM.as rfl ?_
 refine LM.nil (QM.sub (e' := [(0, _), (5, _), (6, _)]) au9 (QM.then ?_))
 refine wpM.seq ?_
 refine wpM.seq (wpM.region ?_)
 refine LM.as rfl ?_
 refine LM.nil (QM.sub (e' := [(0, _), (5, _), (6, _), (7, _)]) au9 (QM.then ?_))
 refine wpM.block ?_
 refine wpM.loopK0 (α := Nat) (fun i => [(5, .int .i64 (mostN qs i : Nat)), (6, .int .i64 (leastN qs i : Nat)), (7, .int .i64 (i : Nat))]) [(0, _)] (fun i => rcC b ad n cap :: (ms ++ (mm ++ []))) (fun i => i ≤ qs.length) (fun i => qs.length - i) (0) ⟨(by first | exact lk rfl (by rw [most_zero]; rfl) | exact lk rfl (congrArg (Value.int .i64) (most_pos' (by assumption))) | exact lk rfl (congrArg (Value.int .i64) (most_neg' (by assumption))) | rfl), (by first | exact lk rfl (by rw [least_zero]; rfl) | exact lk rfl (congrArg (Value.int .i64) (least_pos' (by assumption))) | exact lk rfl (congrArg (Value.int .i64) (least_neg' (by assumption))) | rfl), au2, rfl, trivial⟩ au1 (Nat.zero_le _) ?_
 rintro i hi
 change wpM _ _ _ _ _ _ _ (rcC b ad n cap :: (ms ++ (mm ++ []))) _ _ _
 have hmi := most_lt hlen.1 i hi; have hli := least_lt hlen.1 i hi
 refine wpM.seq ?_
 refine wpM.seq (wpM.region ?_)
 refine LM.mv rfl (LM.mv rfl ?_)
 refine LM.val (ov_nilCheck rfl) ?_
 refine LM.val (ov_field Try.underlying82 rfl Try.sizeOf80 rfl (k := 0) rfl rfl) ?_
 refine LM.rd (om_ld Try.isAgg80 rfl rfl) ?_
 refine LM.val (ov_len Try.underlying80 rfl) ?_
 refine LM.val (ov_lss rfl rfl) ?_
 refine LM.nil (QM.sub (e' := [(0, _), (5, _), (6, _), (7, _), (16, _)]) au9 (QM.then ?_))
 refine wpM.condD rfl (fun h1 => ?_) (fun h1 => ?_)
 ·
  refine wpM.skip ?_
  refine QM.then ?_
  refine wpM.seq ?_
  refine wpM.block ?_
  refine wpM.seq ?_
  refine wpM.seq ?_
  refine wpM.draw [(0, 0), (1, 0), (2, 0), (3, 1), (4, 0), (5, 0), (6, 1), (8, 0), (9, 0), (10, 0), (11, 1), (12, 0), (13, 0), (14, 1), (7, 2), (15, 2), (16, 0)] (by kernel_rfl) (by kernel_rfl) ?_
  refine LD.val rfl rfl (ov_move rfl) ?_
  refine LD.val rfl rfl (ov_nilCheck rfl) ?_
  refine LD.val rfl rfl (ov_field Try.underlying82 rfl Try.sizeOf80 rfl (k := 0) rfl rfl) ?_
  refine LD.rd rfl rfl (om_ld Try.isAgg80 rfl rfl) ?_
  refine LD.val rfl rfl (ov_move rfl) ?_
  refine LD.val rfl rfl (ov_idxSN au6 Try.underlying80 Try.sizeOf51 rfl rfl (by omega)) ?_
  refine LD.rd rfl rfl (om_sl1 (by assumption) (by intro _; rfl) Try.isAgg51 rfl rfl au3 (by rfl)) ?_
  refine LD.val rfl rfl (ov_move rfl) ?_
  refine LD.val rfl rfl (ov_nilCheck rfl) ?_
  refine LD.val rfl rfl (ov_field Try.underlying82 rfl Try.sizeOf80 rfl (k := 0) rfl rfl) ?_
  refine LD.rd rfl rfl (om_ld Try.isAgg80 rfl rfl) ?_
  refine LD.val rfl rfl (ov_move rfl) ?_
  refine LD.val rfl rfl (ov_idxSN au6 Try.underlying80 Try.sizeOf51 rfl rfl (by omega)) ?_
  refine LD.rd rfl rfl (om_sl1 (by assumption) (by intro _; rfl) Try.isAgg51 rfl rfl au3 (by rfl)) ?_
  refine LD.callE rfl rfl (oc_call (enters_fn Try.func80 (by kernel_rfl) rfl) rfl) (fun w hm hc hg => hq.read (i := i) (by omega) (hm.pick mm) (fun m hr hM => rfLoad_spec w hr hM)) ?_
  refine LD.callE rfl rfl (oc_call (enters_fn Try.func80 (by kernel_rfl) rfl) rfl) (fun w hm hc hg => hq.read hmi (hm.pick mm) (fun m hr hM => rfLoad_spec w hr hM)) ?_
  refine LD.val rfl rfl (ov_gtr rfl rfl) ?_
  refine LD.nil ?_
  refine QM.sub (e' := [(0, _), (5, _), (6, _), (7, _), (35, _)]) au9 (QM.then ?_)
  refine wpM.condD rfl (fun h2 => ?_) (fun h2 => ?_)
  ·
   refine wpM.region ?_
   refine LM.mv rfl (LM.as rfl ?_)
   refine LM.nil (QM.sub (e' := [(0, _), (5, _), (6, _), (7, _)]) au9 (QM.then ?_))
   refine wpM.seq ?_
   refine wpM.draw [(0, 0), (1, 0), (2, 0), (3, 1), (4, 0), (5, 0), (6, 1), (8, 0), (9, 0), (10, 0), (11, 1), (12, 0), (13, 0), (14, 1), (7, 2), (15, 2), (16, 0)] (by kernel_rfl) (by kernel_rfl) ?_
   refine LD.val rfl rfl (ov_move rfl) ?_
   refine LD.val rfl rfl (ov_nilCheck rfl) ?_
   refine LD.val rfl rfl (ov_field Try.underlying82 rfl Try.sizeOf80 rfl (k := 0) rfl rfl) ?_
   refine LD.rd rfl rfl (om_ld Try.isAgg80 rfl rfl) ?_
   refine LD.val rfl rfl (ov_move rfl) ?_
   refine LD.val rfl rfl (ov_idxSN au6 Try.underlying80 Try.sizeOf51 rfl rfl (by omega)) ?_
   refine LD.rd rfl rfl (om_sl1 (by assumption) (by intro _; rfl) Try.isAgg51 rfl rfl au3 (by rfl)) ?_
   refine LD.val rfl rfl (ov_move rfl) ?_
   refine LD.val rfl rfl (ov_nilCheck rfl) ?_
   refine LD.val rfl rfl (ov_field Try.underlying82 rfl Try.sizeOf80 rfl (k := 0) rfl rfl) ?_
   refine LD.rd rfl rfl (om_ld Try.isAgg80 rfl rfl) ?_
   refine LD.val rfl rfl (ov_move rfl) ?_
   refine LD.val rfl rfl (ov_idxSN au6 Try.underlying80 Try.sizeOf51 rfl rfl (by omega)) ?_
   refine LD.rd rfl rfl (om_sl1 (by assumption) (by intro _; rfl) Try.isAgg51 rfl rfl au3 (by rfl)) ?_
   refine LD.callE rfl rfl (oc_call (enters_fn Try.func80 (by kernel_rfl) rfl) rfl) (fun w hm hc hg => hq.read (i := i) (by omega) (hm.pick mm) (fun m hr hM => rfLoad_spec w hr hM)) ?_
   refine LD.callE rfl rfl (oc_call (enters_fn Try.func80 (by kernel_rfl) rfl) rfl) (fun w hm hc hg => hq.read hli (hm.pick mm) (fun m hr hM => rfLoad_spec w hr hM)) ?_
   refine LD.val rfl rfl (ov_lss rfl rfl) ?_
   refine LD.nil ?_
   refine QM.sub (e' := [(0, _), (5, _), (6, _), (7, _), (53, _)]) au9 (QM.then ?_)
   refine wpM.condD rfl (fun h3 => ?_) (fun h3 => ?_)
   ·
    refine wpM.region ?_
    refine LM.mv rfl (LM.as rfl ?_)
    refine LM.nil (QM.sub (e' := [(0, _), (5, _), (6, _), (7, _)]) au9 ?_)
    refine QM.block_normal ?_
    refine QM.then (wpM.region ?_)
    refine LM.mv rfl ?_
    refine LM.val (ov_add64 rfl rfl (by omega)) ?_
    refine LM.as rfl ?_
    refine LM.nil (QM.sub (e' := [(0, _), (5, _), (6, _), (7, _)]) au9 ?_)
    refine QM.againK (i + 1) ⟨(by first | exact lk rfl (by rw [most_zero]; rfl) | exact lk rfl (congrArg (Value.int .i64) (most_pos' (by assumption))) | exact lk rfl (congrArg (Value.int .i64) (most_neg' (by assumption))) | rfl), (by first | exact lk rfl (by rw [least_zero]; rfl) | exact lk rfl (congrArg (Value.int .i64) (least_pos' (by assumption))) | exact lk rfl (congrArg (Value.int .i64) (least_neg' (by assumption))) | rfl), au2, rfl, trivial⟩ au1 (fun _ h => h) ?_ ?_
    · omega
    · omega
   refine wpM.skip ?_
   refine QM.block_normal ?_
   refine QM.then (wpM.region ?_)
   refine LM.mv rfl ?_
   refine LM.val (ov_add64 rfl rfl (by omega)) ?_
   refine LM.as rfl ?_
   refine LM.nil (QM.sub (e' := [(0, _), (5, _), (6, _), (7, _)]) au9 ?_)
   refine QM.againK (i + 1) ⟨(by first | exact lk rfl (by rw [most_zero]; rfl) | exact lk rfl (congrArg (Value.int .i64) (most_pos' (by assumption))) | exact lk rfl (congrArg (Value.int .i64) (most_neg' (by assumption))) | rfl), (by first | exact lk rfl (by rw [least_zero]; rfl) | exact lk rfl (congrArg (Value.int .i64) (least_pos' (by assumption))) | exact lk rfl (congrArg (Value.int .i64) (least_neg' (by assumption))) | rfl), au2, rfl, trivial⟩ au1 (fun _ h => h) ?_ ?_
   · omega
   · omega
  refine wpM.skip ?_
  refine QM.then ?_
  refine wpM.seq ?_
  refine wpM.draw [(0, 0), (1, 0), (2, 0), (3, 1), (4, 0), (5, 0), (6, 1), (8, 0), (9, 0), (10, 0), (11, 1), (12, 0), (13, 0), (14, 1), (7, 2), (15, 2), (16, 0)] (by kernel_rfl) (by kernel_rfl) ?_
  refine LD.val rfl rfl (ov_move rfl) ?_
  refine LD.val rfl rfl (ov_nilCheck rfl) ?_
  refine LD.val rfl rfl (ov_field Try.underlying82 rfl Try.sizeOf80 rfl (k := 0) rfl rfl) ?_
  refine LD.rd rfl rfl (om_ld Try.isAgg80 rfl rfl) ?_
  refine LD.val rfl rfl (ov_move rfl) ?_
  refine LD.val rfl rfl (ov_idxSN au6 Try.underlying80 Try.sizeOf51 rfl rfl (by omega)) ?_
  refine LD.rd rfl rfl (om_sl1 (by assumption) (by intro _; rfl) Try.isAgg51 rfl rfl au3 (by rfl)) ?_
  refine LD.val rfl rfl (ov_move rfl) ?_
  refine LD.val rfl rfl (ov_nilCheck rfl) ?_
  refine LD.val rfl rfl (ov_field Try.underlying82 rfl Try.sizeOf80 rfl (k := 0) rfl rfl) ?_
  refine LD.rd rfl rfl (om_ld Try.isAgg80 rfl rfl) ?_
  refine LD.val rfl rfl (ov_move rfl) ?_
  refine LD.val rfl rfl (ov_idxSN au6 Try.underlying80 Try.sizeOf51 rfl rfl (by omega)) ?_
  refine LD.rd rfl rfl (om_sl1 (by assumption) (by intro _; rfl) Try.isAgg51 rfl rfl au3 (by rfl)) ?_
  refine LD.callE rfl rfl (oc_call (enters_fn Try.func80 (by kernel_rfl) rfl) rfl) (fun w hm hc hg => hq.read (i := i) (by omega) (hm.pick mm) (fun m hr hM => rfLoad_spec w hr hM)) ?_
  refine LD.callE rfl rfl (oc_call (enters_fn Try.func80 (by kernel_rfl) rfl) rfl) (fun w hm hc hg => hq.read hli (hm.pick mm) (fun m hr hM => rfLoad_spec w hr hM)) ?_
  refine LD.val rfl rfl (ov_lss rfl rfl) ?_
  refine LD.nil ?_
  refine QM.sub (e' := [(0, _), (5, _), (6, _), (7, _), (53, _)]) au9 (QM.then ?_)
  refine wpM.condD rfl (fun h4 => ?_) (fun h4 => ?_)
  ·
   refine wpM.region ?_
   refine LM.mv rfl (LM.as rfl ?_)
   refine LM.nil (QM.sub (e' := [(0, _), (5, _), (6, _), (7, _)]) au9 ?_)
   refine QM.block_normal ?_
   refine QM.then (wpM.region ?_)
   refine LM.mv rfl ?_
   refine LM.val (ov_add64 rfl rfl (by omega)) ?_
   refine LM.as rfl ?_
   refine LM.nil (QM.sub (e' := [(0, _), (5, _), (6, _), (7, _)]) au9 ?_)
   refine QM.againK (i + 1) ⟨(by first | exact lk rfl (by rw [most_zero]; rfl) | exact lk rfl (congrArg (Value.int .i64) (most_pos' (by assumption))) | exact lk rfl (congrArg (Value.int .i64) (most_neg' (by assumption))) | rfl), (by first | exact lk rfl (by rw [least_zero]; rfl) | exact lk rfl (congrArg (Value.int .i64) (least_pos' (by assumption))) | exact lk rfl (congrArg (Value.int .i64) (least_neg' (by assumption))) | rfl), au2, rfl, trivial⟩ au1 (fun _ h => h) ?_ ?_
   · omega
   · omega
  refine wpM.skip ?_
  refine QM.block_normal ?_
  refine QM.then (wpM.region ?_)
  refine LM.mv rfl ?_
  refine LM.val (ov_add64 rfl rfl (by omega)) ?_
  refine LM.as rfl ?_
  refine LM.nil (QM.sub (e' := [(0, _), (5, _), (6, _), (7, _)]) au9 ?_)
  refine QM.againK (i + 1) ⟨(by first | exact lk rfl (by rw [most_zero]; rfl) | exact lk rfl (congrArg (Value.int .i64) (most_pos' (by assumption))) | exact lk rfl (congrArg (Value.int .i64) (most_neg' (by assumption))) | rfl), (by first | exact lk rfl (by rw [least_zero]; rfl) | exact lk rfl (congrArg (Value.int .i64) (least_pos' (by assumption))) | exact lk rfl (congrArg (Value.int .i64) (least_neg' (by assumption))) | rfl), au2, rfl, trivial⟩ au1 (fun _ h => h) ?_ ?_
  · omega
  · omega
 have hil : i = qs.length := (by omega); subst hil
 refine wpM.exit ?_
 refine QM.then_exit ?_
 refine QM.then_exit ?_
 refine QM.block_hit ?_
 refine QM.then (wpM.seq (wpM.region ?_))
 refine LM.mv rfl ?_
 refine LM.val (ov_nilCheck rfl) ?_
 refine LM.val (ov_field Try.underlying82 rfl Try.sizeOf80 rfl (k := 0) rfl rfl) ?_
 refine LM.rd (om_ld Try.isAgg80 rfl rfl) ?_
 refine LM.mv rfl ?_
 refine LM.val (ov_idxSN au6 Try.underlying80 Try.sizeOf51 rfl rfl (by omega)) ?_
 refine LM.rd (om_sl1 (by assumption) (by intro _; rfl) Try.isAgg51 rfl rfl au3 (by rfl)) ?_
 refine LM.cS (oc_call (enters_fn Try.func74 (by kernel_rfl) rfl) rfl) (fun w hm hc hg => hq.read hmo (hm.pick mm) (fun m hr hM => rfReady_spec w hr hM)) (fun ad62 n62 cap62 m62 hn62 hs62 => ?_)
 refine LM.as rfl ?_
 refine LM.nil (QM.sub (e' := [(0, _), (5, _), (6, _), (8, _)]) au9 (QM.then ?_))
 refine wpM.seq ?_
 refine wpM.seq (wpM.region ?_)
 refine LM.as rfl ?_
 refine LM.nil (QM.sub (e' := [(0, _), (5, _), (6, _), (8, _), (9, _)]) au9 (QM.then ?_))
 refine wpM.block ?_
 refine wpM.loopK0 (α := Nat) (fun j => [(9, .int .i64 (j : Nat))]) [(0, _), (5, _), (6, _), (8, _)] (fun j => rcC b ad n cap :: (ms ++ (mm ++ (m62 ++ [])))) (fun j => j ≤ (rdyO (qg qs (mo qs))).length ∧ ∀ k, k < j → ¬ ((rdyO (qg qs (mo qs))).getD k default).x < difO qs) (fun j => (rdyO (qg qs (mo qs))).length - j) (0) ⟨au2, rfl, rfl, rfl, rfl, trivial⟩ au1 ⟨Nat.zero_le _, fun k hk => absurd hk (Nat.not_lt_zero k)⟩ ?_
 rintro j ⟨hj, hnb⟩
 change wpM _ _ _ _ _ _ _ (rcC b ad n cap :: (ms ++ (mm ++ (m62 ++ [])))) _ _ _
 refine wpM.seq ?_
 refine wpM.seq (wpM.region ?_)
 refine LM.mv rfl (LM.mv rfl ?_)
 refine LM.val (ov_len Try.underlying108 rfl) ?_
 refine LM.val (ov_lss rfl rfl) ?_
 refine LM.nil (QM.sub (e' := [(0, _), (5, _), (6, _), (8, _), (9, _), (66, _)]) au9 (QM.then ?_))
 refine wpM.condD rfl (fun h5 => ?_) (fun h5 => ?_)
 ·
  refine wpM.skip ?_
  refine QM.then ?_
  refine wpM.seq ?_
  refine wpM.block ?_
  refine wpM.seq ?_
  refine wpM.draw [(0, 0), (1, 0), (2, 0), (3, 0), (4, 1), (5, 0), (6, 0), (7, 0), (8, 1), (9, 0), (10, 0), (11, 1), (13, 0), (14, 0), (15, 0), (16, 1), (17, 0), (18, 0), (19, 1), (12, 2), (20, 2), (21, 0), (22, 0)] (by kernel_rfl) (by kernel_rfl) ?_
  refine LD.val rfl rfl (ov_move rfl) ?_
  refine LD.val rfl rfl (ov_move rfl) ?_
  refine LD.val rfl rfl (ov_idxSN au6 Try.underlying108 Try.sizeOf112 rfl rfl (by omega)) ?_
  refine LD.val rfl rfl (ov_field Try.underlying112 rfl Try.sizeOf3 rfl (k := 2) rfl rfl) ?_
  refine LD.rd rfl rfl (om_slE (j := 2) (by assumption) (by intro _; rfl) Try.isAgg3 rfl rfl au3 rfl (by rfl)) ?_
  refine LD.val rfl rfl (ov_move rfl) ?_
  refine LD.val rfl rfl (ov_nilCheck rfl) ?_
  refine LD.val rfl rfl (ov_field Try.underlying82 rfl Try.sizeOf80 rfl (k := 0) rfl rfl) ?_
  refine LD.rd rfl rfl (om_ld Try.isAgg80 rfl rfl) ?_
  refine LD.val rfl rfl (ov_move rfl) ?_
  refine LD.val rfl rfl (ov_idxSN au6 Try.underlying80 Try.sizeOf51 rfl rfl (by omega)) ?_
  refine LD.rd rfl rfl (om_sl1 (by assumption) (by intro _; rfl) Try.isAgg51 rfl rfl au3 (by rfl)) ?_
  refine LD.val rfl rfl (ov_move rfl) ?_
  refine LD.val rfl rfl (ov_nilCheck rfl) ?_
  refine LD.val rfl rfl (ov_field Try.underlying82 rfl Try.sizeOf80 rfl (k := 0) rfl rfl) ?_
  refine LD.rd rfl rfl (om_ld Try.isAgg80 rfl rfl) ?_
  refine LD.val rfl rfl (ov_move rfl) ?_
  refine LD.val rfl rfl (ov_idxSN au6 Try.underlying80 Try.sizeOf51 rfl rfl (by omega)) ?_
  refine LD.rd rfl rfl (om_sl1 (by assumption) (by intro _; rfl) Try.isAgg51 rfl rfl au3 (by rfl)) ?_
  refine LD.callE rfl rfl (oc_call (enters_fn Try.func80 (by kernel_rfl) rfl) rfl) (fun w hm hc hg => hq.read hmo (hm.pick mm) (fun m hr hM => rfLoad_spec w hr hM)) ?_
  refine LD.callE rfl rfl (oc_call (enters_fn Try.func80 (by kernel_rfl) rfl) rfl) (fun w hm hc hg => hq.read hle (hm.pick mm) (fun m hr hM => rfLoad_spec w hr hM)) ?_
  refine LD.val rfl rfl (ov_sub64 rfl rfl (by omega)) ?_
  refine LD.val rfl rfl (ov_lss rfl rfl) ?_
  refine LD.nil ?_
  refine QM.sub (e' := [(0, _), (5, _), (6, _), (8, _), (9, _), (91, _)]) au9 (QM.then ?_)
  refine wpM.condD rfl (fun h6 => ?_) (fun h6 => ?_)
  ·
   have hbf := bal_at hnb (by omega) h6; obtain ⟨hb1, hb2, hb3, hb4, hb5, hb6, hb7⟩ := bal_some hw hbf
   refine wpM.seq (wpM.region ?_)
   refine LM.mv rfl (LM.mv rfl (LM.mv rfl ?_))
   refine LM.val (ov_idxSN au6 Try.underlying108 Try.sizeOf112 rfl rfl (by omega)) ?_
   refine LM.val (ov_field Try.underlying112 rfl Try.sizeOf3 rfl (k := 0) rfl rfl) ?_
   refine LM.rd (om_slE (j := 0) (by assumption) (by intro _; rfl) Try.isAgg3 rfl rfl au3 rfl (by rfl)) ?_
   refine LM.mv rfl ?_
   refine LM.cU (oc_call (enters_fn Try.func86 (by kernel_rfl) rfl) rfl) (fun w hm hc hg => rcmove_spec _ (le qs) w hC (by rw [hb4]; exact hb5) hb6 hb7 (Nat.le_trans hn0 hc.size) (by have h9 := hm.pick (rcC b ad n cap :: (ms ++ (mm ++ []))); rw [List.append_nil] at h9; exact h9)) hC.wlk (fun p hp _ => ⟨p, hp, rfl⟩) ?_
   rintro u99 m99 ⟨rfl, hq99⟩ hin99
   refine LM.nil (QM.sub (e' := [(5, _), (6, _), (8, _), (9, _)]) au9 (QM.then (wpM.seq (wpM.region ?_))))
   refine LM.mv rfl (LM.mv rfl ?_)
   refine LM.val (ov_idxSN au6 Try.underlying108 Try.sizeOf112 rfl rfl (by omega)) ?_
   refine LM.val (ov_field Try.underlying112 rfl Try.sizeOf3 rfl (k := 0) rfl rfl) ?_
   refine LM.rd (om_slE (j := 0) (by assumption) (by intro _; rfl) Try.isAgg3 rfl rfl au3 rfl (by rfl)) ?_
   refine LM.mv rfl (LM.mv rfl (LM.as rfl (LM.as rfl (LM.as rfl ?_))))
   refine LM.nil (QM.sub (e' := [(2, _), (3, _), (4, _)]) au9 (QM.then ?_))
   refine wpM.ret ?_
   refine QM.block_ret ?_
   refine QM.then_ret ?_
   refine QM.then_ret ?_
   refine QM.block_ret ?_
   refine QM.then_ret ?_
   refine QM.leave (.inl rfl) [.tmp 2, .tmp 3, .tmp 4] Try.results59 rfl ?_
   intro w' hm' hc' hg'
   rw [show balI qs = ((rdyO (qg qs (mo qs))).getD j default).id by unfold balI; rw [hbf], show balA qs = (mo qs : Nat) by unfold balA; rw [hbf], show balB qs = (le qs : Nat) by unfold balB; rw [hbf], show balX qs = carX qs ((rdyO (qg qs (mo qs))).getD j default).id (le qs) by unfold balX; rw [hbf]]; exact upd_m ⟨rfl, hq99⟩ hm' (by (repeat' (first | exact SubM.nil _ | refine SubM.cons (by rfl) ?_ | refine SubM.app ?_))) hc' hin99
  refine wpM.skip ?_
  refine QM.block_normal ?_
  refine QM.then (wpM.region ?_)
  refine LM.mv rfl ?_
  refine LM.val (ov_add64 rfl rfl (by omega)) ?_
  refine LM.as rfl ?_
  refine LM.nil (QM.sub (e' := [(0, _), (5, _), (6, _), (8, _), (9, _)]) au9 ?_)
  refine QM.againK (j + 1) ⟨au2, rfl, rfl, rfl, rfl, trivial⟩ au1 (fun _ h => h) ?_ ?_
  · exact ⟨by omega, fun k hk => by rcases Nat.lt_or_ge k j with q | q; exact hnb k q; rw [show k = j by omega]; exact h6⟩
  · omega
 have hbf : balF qs = none := bal_no (fun k hk => hnb k (by omega))
 refine wpM.exit ?_
 refine QM.then_exit ?_
 refine QM.then_exit ?_
 refine QM.block_hit ?_
 refine QM.then (wpM.seq (wpM.region ?_))
 refine LM.as rfl (LM.as rfl (LM.as rfl ?_))
 refine LM.nil (QM.sub (e' := [(2, _), (3, _), (4, _)]) au9 (QM.then ?_))
 refine wpM.ret ?_
 refine QM.leave (.inl rfl) [.tmp 2, .tmp 3, .tmp 4] Try.results59 rfl ?_
 intro w' hm' hc' hg'
 rw [show balI qs = -1 by unfold balI; rw [hbf], show balA qs = -1 by unfold balA; rw [hbf], show balB qs = -1 by unfold balB; rw [hbf], show balX qs = qs by unfold balX; rw [hbf]]; exact rcm_leaf hw hn hs hq hb hm' (by (repeat' (first | exact SubM.nil _ | refine SubM.cons (by rfl) ?_ | refine SubM.app ?_))) hc' (inn_refl _ _)
end Go.Eng
namespace Go.Eng
open Go Go.Proofs Go.RowKit
end Go.Eng
namespace Go.Eng
open Go Go.Proofs Go.RowKit
structure Ded where
  kind : Int
  id : Int
  V : BitVec 64
  W : Int
instance : Inhabited Ded := ⟨⟨0, 0, 0#64, 0⟩⟩
def RzB (x : Qm) (B : Int) : Prop := (x.cur = -1 → x.ran = 0) ∧ x.ran ≤ B
theorem RzB.mono {x : Qm} {B C : Int} (h : RzB x B) (hc : B ≤ C) : RzB x C := ⟨h.1, Int.le_trans h.2 hc⟩
theorem rz_pik {x : Qm} {B : Int} (h : RzB x B) (hB : 0 ≤ B) : RzB (pikQ x) B := by
  unfold pikQ; split
  · exact h
  · exact ⟨fun q => absurd (show pickO x = -1 from q) (by omega), hB⟩
theorem rz_back {x : Qm} {B : Int} (hB : 0 ≤ B) : RzB (backQ x) B := ⟨fun _ => rfl, hB⟩
theorem rz_bak {x : Qm} {B : Int} (h : RzB x B) (hB : 0 ≤ B) : RzB (bakQ x) B := by unfold bakQ; split; exact rz_back hB; exact h
theorem rz_tick {x : Qm} {B : Int} (h : RzB x B) : RzB (tickQ x) (B + 1) := by
  have := h.2
  unfold tickQ; split
  · exact ⟨fun q => absurd (show x.cur = -1 from q) (by omega), by show x.ran + 1 ≤ _; omega⟩
  · exact h.mono (by omega)
theorem rz_weigh {x : Qm} {B : Int} (hq : QWf x) (h : RzB x B) (hB : 8 ≤ B) (a w : Int) : RzB (weighX x a w) B := by
  unfold weighX; split
  · rename_i hix
    have hp := hq.pos _ (ixO_hit hix).2
    rw [(ixO_hit hix).1] at hp
    refine ⟨fun q => ?_, ?_⟩
    · have hc : x.cur = -1 := q
      show (if _ ∧ x.cur = a then x.g else x.ran) = 0
      rw [if_neg (fun z => by have := z.2; omega)]; exact h.1 hc
    · show (if _ ∧ x.cur = a then x.g else x.ran) ≤ B
      split
      · have := hq.g; omega
      · exact h.2
  · exact h
theorem rz_setl {x : Qm} {B : Int} (h : RzB x B) : RzB (setlQ x) B := by
  obtain ⟨-, h2, h3, -⟩ := setl_same x
  exact ⟨by rw [h2, h3]; exact h.1, by rw [h3]; exact h.2⟩
theorem bak_eq {x : Qm} (hq : QWf x) (h : x.cur = -1 → x.ran = 0) : bakQ x = backQ x := by
  by_cases hc : 0 ≤ x.cur
  · exact if_pos hc
  · have h1 := hq.cur0 hc
    rw [show bakQ x = x from if_neg hc]
    show x = { x with cur := -1, ran := 0 }
    have h2 := h h1
    cases x; simp only at h1 h2; subst h1; subst h2; rfl
end Go.Eng
namespace Go.Eng
open Go Go.Proofs Go.RowKit
theorem has_weigh {x : Qm} (h : QWf x) {a w : Int} (ha : hasK x a) {b : Int} : hasK (weighQ x a w) b ↔ hasK x b := by
  unfold hasK; rw [ixO_lt, ixO_lt]
  constructor
  · rintro ⟨t, ht, rfl⟩
    rcases (mem_set_at h.nd ha (y := ⟨plcO x (x.l.getD (ixO x.l a) default).V (bringO w 1 4096), a, bringO w 1 4096⟩) rfl t).1 ht with rfl | ⟨q, _⟩
    · exact ⟨_, (has_get ha).1, (has_get ha).2⟩
    · exact ⟨t, q, rfl⟩
  · rintro ⟨t, ht, rfl⟩
    by_cases e : t.id = a
    · exact ⟨_, (mem_set_at h.nd ha (y := ⟨plcO x (x.l.getD (ixO x.l a) default).V (bringO w 1 4096), a, bringO w 1 4096⟩) rfl _).2 (.inl rfl), e.symm⟩
    · exact ⟨t, (mem_set_at h.nd ha (y := ⟨plcO x (x.l.getD (ixO x.l a) default).V (bringO w 1 4096), a, bringO w 1 4096⟩) rfl _).2 (.inr ⟨ht, e⟩), rfl⟩
theorem get_weigh {x : Qm} (h : QWf x) {a w : Int} (ha : hasK x a) : (gQ (weighQ x a w).l a).x = bringO w 1 4096 ∧ ∀ b, hasK x b → b ≠ a → gQ (weighQ x a w).l b = gQ x.l b := by
  have hwf := weigh_wf (w := w) h ha
  constructor
  · have := gQ_eq hwf (t := ⟨plcO x (x.l.getD (ixO x.l a) default).V (bringO w 1 4096), a, bringO w 1 4096⟩) ((mem_set_at h.nd ha rfl _).2 (.inl rfl))
    exact congrArg (·.x) this
  · intro b hb hne
    obtain ⟨h1, h2⟩ := has_get hb
    have := gQ_eq hwf (t := gQ x.l b) ((mem_set_at h.nd ha rfl _).2 (.inr ⟨h1, by rw [h2]; exact hne⟩))
    rw [h2] at this; exact this
theorem cwgh_all {qs : List Qm} (h : CWf qs) {a : Int} (ha : ofN qs a < qs.length) (w : Int) {lw lg : List (Int × Value)} (hw : Wh lw qs) (hg : Wg lg qs) :
    CWf (cWghX qs a w) ∧ Wh lw (cWghX qs a w) ∧ Wg (aput lg a (.int .i64 w)) (cWghX qs a w) ∧ cWghX qs a w = qs.set (ofN qs a) (weighX (qg qs (ofN qs a)) a w) := by
  have hh := of_hit ha
  have hX : cWghX qs a w = qs.set (ofN qs a) (weighX (qg qs (ofN qs a)) a w) := if_pos ha
  have hx : weighX (qg qs (ofN qs a)) a w = weighQ (qg qs (ofN qs a)) a w := if_pos hh
  have hk : ∀ b, hasK (weighQ (qg qs (ofN qs a)) a w) b ↔ hasK (qg qs (ofN qs a)) b := fun b => has_weigh (h.wf _ ha) hh
  have hl : (weighQ (qg qs (ofN qs a)) a w).l.length = (qg qs (ofN qs a)).l.length := List.length_set
  refine ⟨?_, ?_, ?_, hX⟩
  · rw [hX, hx]
    exact h.set ha (weigh_wf (h.wf _ ha) hh) (fun j b hj hji hb q => hji (h.one j _ b hj ha q ((hk b).1 hb))) (by rw [hl]; have := h.all; omega)
  · rw [hX, hx]
    refine ⟨hw.1, ?_, fun b => ?_⟩
    · have := all_set ha (weighQ (qg qs (ofN qs a)) a w); have := hw.2.1; omega
    · rw [List.length_set, of_set ha (hk b)]; exact hw.2.2 b
  · rw [hX, hx]
    refine ⟨aputN hg.1, fun b hb => ?_⟩
    rw [List.length_set, of_set ha (hk b)] at hb
    rw [aget_aput, of_set ha (hk b), qg_set ha]
    by_cases e : b = a
    · subst e
      rw [if_pos rfl, if_pos rfl]
      exact ⟨w, rfl, (get_weigh (h.wf _ ha) hh).1.symm⟩
    · rw [if_neg e]
      obtain ⟨u, h1, h2⟩ := hg.2 b hb
      refine ⟨u, h1, ?_⟩
      rw [h2]
      by_cases e2 : ofN qs a = ofN qs b
      · rw [if_pos e2]
        have hh2 := of_hit hb
        rw [← e2] at hh2 ⊢
        rw [(get_weigh (h.wf _ ha) hh).2 b hh2 e]
      · rw [if_neg e2]
def setN (qs : List Qm) : Nat → List Qm
  | 0 => qs
  | i + 1 => (setN qs i).set i (setlQ (qg (setN qs i) i))
theorem setN_len (qs : List Qm) : ∀ i, (setN qs i).length = qs.length
  | 0 => rfl
  | i + 1 => by show ((setN qs i).set i _).length = _; rw [List.length_set]; exact setN_len qs i
theorem setN_keep {qs : List Qm} (h : CWf qs) {lw lg : List (Int × Value)} : ∀ i, i ≤ qs.length → CWf (setN qs i) ∧ (Wh lw qs → Wh lw (setN qs i)) ∧ (Wg lg qs → Wg lg (setN qs i))
  | 0, _ => ⟨h, id, id⟩
  | i + 1, hi => by
    obtain ⟨h1, h2, h3⟩ := setN_keep h (lw := lw) (lg := lg) i (by omega)
    have hi2 : i < (setN qs i).length := by rw [setN_len]; omega
    have hs : SameT (qg (setN qs i) i) (setlQ (qg (setN qs i) i)) := .of_l (setl_same _).1
    exact ⟨cwf_same h1 hi2 (setl_wf (h1.wf _ hi2)) hs, fun q => wh_same hi2 hs (h2 q), fun q => wg_same hi2 hs (h3 q)⟩
set_option maxRecDepth 100000 in
theorem nWgh2_spec (a wt : Int) (w : World) : Ret Try.prog 18 #[.pointer none, .int .i64 a, .int .i64 wt] w (fun v w' => v = .bool false ∧ Ext w w') := by
 refine Ret.enterM (l := [.pointer none, .int .i64 a, .int .i64 wt]) Try.func18 rfl Try.ntmps18 rfl ([]) (no) (Mem.nil w) ?_
 refine wpM.seq (wpM.region ?_)
 refine LM.as rfl ?_
 refine LM.nil (QM.sub (e' := [(0, _), (1, _), (2, _)]) au9 (QM.then ?_))
 refine wpM.seq ?_
 refine wpM.seq (wpM.region ?_)
 refine LM.mv rfl (LM.mv rfl ?_)
 refine LM.callE (oc_call (enters_fn Try.func14 (by kernel_rfl) rfl) rfl) (fun w hm hc hg => nV_spec _ w) ?_
 refine LM.mv rfl ?_
 refine LM.val (ov_extract rfl rfl) ?_
 refine LM.val (ov_extract rfl rfl) ?_
 refine LM.as rfl (LM.as rfl ?_)
 refine LM.nil (QM.sub (e' := [(0, _), (1, _), (2, _), (8, _)]) au9 (QM.then (wpM.seq (wpM.region ?_))))
 refine LM.mv rfl ?_
 first | refine LM.val (ov_notD rfl) ?_ | refine LM.val (ov_not rfl) ?_
 refine LM.nil (QM.sub (e' := [(0, _), (1, _), (2, _), (18, _)]) au9 (QM.then ?_))
 first | refine wpM.condD rfl (fun h1 => ?_) (fun h1 => ?_) | refine wpM.condB rfl (fun h1 => ?_) (fun h1 => ?_)
 ·
  refine wpM.seq (wpM.region ?_)
  refine LM.as rfl ?_
  refine LM.nil (QM.sub (e' := [(6, _)]) ⟨rfl, trivial⟩ (QM.then ?_))
  refine wpM.ret ?_
  refine QM.then_ret ?_
  refine QM.leave (.inl rfl) [.tmp 6] Try.results18 rfl ?_
  intro w' hm' hc' hg'
  exact ⟨rfl, hc'⟩
 cases h1
set_option maxRecDepth 100000 in
theorem cWgh_no {n0 b : Nat} {qs : List Qm} {m : Mem0} (a wt : Int) (w : World) (h : CrM n0 b qs m) (hof : ¬ ofN qs a < qs.length) (hM : Mem w m) : Ret Try.prog 53 #[.pointer (some ⟨b, 0, none⟩), .int .i64 a, .int .i64 wt] w (Upd m (fun u m' => u = .bool (decide (ofN qs a < qs.length)) ∧ CrM n0 b (cWghX qs a wt) m') w) := by
 obtain ⟨hw, ad, n, cap, bw, bg, esw, clw, esg, clg, lw, lg, ms, mm, bs, rfl, hn, hs, hq, hew, heg, hwh, hwg, hb, hbw, hbg⟩ := h
 refine Ret.enterM (l := [.pointer (some ⟨b, 0, none⟩), .int .i64 a, .int .i64 wt]) Try.func53 rfl Try.ntmps53 rfl (coC b ad n cap bw bg :: (bw, .map esw clw) :: (bg, .map esg clg) :: (ms ++ (mm ++ []))) ((inM (coC b ad n cap bw bg :: (bw, .map esw clw) :: (bg, .map esg clg) :: (ms ++ mm)))) (by rw [List.append_nil]; exact hM) ?_
 refine wpM.seq (wpM.region ?_)
 refine LM.as rfl ?_
 refine LM.nil (QM.sub (e' := [(0, _), (1, _), (2, _)]) au9 (QM.then (wpM.seq (wpM.region ?_))))
 refine LM.mv rfl (LM.mv rfl (LM.mv rfl ?_))
 refine LM.callE (oc_call (enters_fn Try.func49 (by kernel_rfl) rfl) rfl) (fun w hm hc hg => cOf_spec a w hew hwh (hm.pick (coC b ad n cap bw bg :: (bw, .map esw clw) :: []))) ?_
 refine LM.callE (oc_call (enters_fn Try.func54 (by kernel_rfl) rfl) rfl) (fun w hm hc hg => cQu_out (ofO qs a) w (by rw [ofO_no hof]; omega) (hm.pick (coC b ad n cap bw bg :: []))) ?_
 refine LM.mv rfl (LM.mv rfl ?_)
 refine LM.callE (oc_call (enters_fn Try.func18 (by kernel_rfl) rfl) rfl) (fun w hm hc hg => nWgh2_spec a wt w) ?_
 refine LM.as rfl ?_
 refine LM.nil (QM.sub (e' := [(0, _), (1, _), (2, _), (7, _)]) au9 (QM.then ?_))
 refine wpM.seq ?_
 refine wpM.seq (wpM.region ?_)
 refine LM.mv rfl ?_
 refine LM.nil (QM.sub (e' := [(0, _), (1, _), (2, _), (7, _), (16, _)]) au9 (QM.then ?_))
 first | refine wpM.condD rfl (fun h1 => ?_) (fun h1 => ?_) | refine wpM.condB rfl (fun h1 => ?_) (fun h1 => ?_)
 ·
  cases h1
 refine wpM.skip ?_
 refine QM.then (wpM.seq (wpM.region ?_))
 refine LM.mv rfl (LM.as rfl ?_)
 refine LM.nil (QM.sub (e' := [(6, _)]) ⟨rfl, trivial⟩ (QM.then ?_))
 refine wpM.ret ?_
 refine QM.leave (.inl rfl) [.tmp 6] Try.results53 rfl ?_
 intro w' hm' hc' hg'
 rw [decide_eq_false hof, show cWghX qs a wt = qs from if_neg hof]; exact crm_leaf hw hn hs hq hew heg hwh hwg hb hbw hbg hm' (by (repeat' (first | exact SubM.nil _ | refine SubM.cons (by rfl) ?_ | refine SubM.app ?_))) hc' (inn_refl _ _)
set_option maxRecDepth 100000 in
theorem cWgh_in {n0 b : Nat} {qs : List Qm} {m : Mem0} (a wt : Int) (w : World) (h : CrM n0 b qs m) (hof : ofN qs a < qs.length) (hn0 : n0 ≤ w.heap.size) (hM : Mem w m) : Ret Try.prog 53 #[.pointer (some ⟨b, 0, none⟩), .int .i64 a, .int .i64 wt] w (Upd m (fun u m' => u = .bool (decide (ofN qs a < qs.length)) ∧ CrM n0 b (cWghX qs a wt) m') w) := by
 obtain ⟨hw, ad, n, cap, bw, bg, esw, clw, esg, clg, lw, lg, ms, mm, bs, rfl, hn, hs, hq, hew, heg, hwh, hwg, hb, hbw, hbg⟩ := h; have hbl := hq.len; obtain ⟨c1, c2, c3, c4⟩ := cwgh_all hw hof wt hwh hwg
 refine Ret.enterM (l := [.pointer (some ⟨b, 0, none⟩), .int .i64 a, .int .i64 wt]) Try.func53 rfl Try.ntmps53 rfl (coC b ad n cap bw bg :: (bw, .map esw clw) :: (bg, .map esg clg) :: (ms ++ (mm ++ []))) ((inM (coC b ad n cap bw bg :: (bw, .map esw clw) :: (bg, .map esg clg) :: (ms ++ mm)))) (by rw [List.append_nil]; exact hM) ?_
 refine wpM.seq (wpM.region ?_)
 refine LM.as rfl ?_
 refine LM.nil (QM.sub (e' := [(0, _), (1, _), (2, _)]) au9 (QM.then (wpM.seq (wpM.region ?_))))
 refine LM.mv rfl (LM.mv rfl (LM.mv rfl ?_))
 refine LM.callE (oc_call (enters_fn Try.func49 (by kernel_rfl) rfl) rfl) (fun w hm hc hg => (by have k := cOf_spec a w hew hwh (hm.pick (coC b ad n cap bw bg :: (bw, .map esw clw) :: [])); rw [ofO_hit hof] at k; exact k)) ?_
 try rw [ofO_hit hof]
 refine LM.callE (oc_call (enters_fn Try.func54 (by kernel_rfl) rfl) rfl) (fun w hm hc hg => cQu_in (ofN qs a) w (by omega) hs (by omega) (by have h9 := hm.pick (coC b ad n cap bw bg :: (ms ++ [])); rw [List.append_nil] at h9; exact h9)) ?_
 refine LM.mv rfl (LM.mv rfl ?_)
 refine LM.cU (oc_call (enters_fn Try.func18 (by kernel_rfl) rfl) rfl) (fun w hm hc hg => hq.upd rqK hof (hm.pick mm) (fun m hr hM => rqWgh_spec a wt w hr (Nat.le_trans hn0 hc.size) hM)) (hq.wlk rqK) (fun p hp _ => inM_mm p hp) ?_
 rintro u15 m15 ⟨rfl, hq15⟩ hin15; rw [← c4] at hq15; rw [decide_eq_true (of_hit hof)]
 refine LM.as rfl ?_
 refine LM.nil (QM.sub (e' := [(0, _), (1, _), (2, _), (7, _)]) au9 (QM.then ?_))
 refine wpM.seq ?_
 refine wpM.seq (wpM.region ?_)
 refine LM.mv rfl ?_
 refine LM.nil (QM.sub (e' := [(0, _), (1, _), (2, _), (7, _), (16, _)]) au9 (QM.then ?_))
 first | refine wpM.condD rfl (fun h1 => ?_) (fun h1 => ?_) | refine wpM.condB rfl (fun h1 => ?_) (fun h1 => ?_)
 ·
  refine wpM.region ?_
  refine LM.mv rfl ?_
  refine LM.val (ov_nilCheck rfl) ?_
  refine LM.val (ov_field Try.underlying124 rfl Try.sizeOf38 rfl (k := 2) rfl rfl) ?_
  refine LM.rd (om_ld Try.isAgg38 rfl rfl) ?_
  refine LM.mv rfl (LM.mv rfl ?_)
  refine LM.mUS Try.underlying38 Try.underlying3 rfl rfl rfl (by assumption) (fun hlt => by first | exact inM_0 | exact inM_1 | exact inM_2' | exact absurd hlt (by omega)) (fun esu1 clu1 hesu1 => ?_)
  refine LM.nil (QM.sub (e' := [(7, _)]) ⟨rfl, trivial⟩ (QM.then (wpM.seq (wpM.region ?_))))
  refine LM.mv rfl (LM.as rfl ?_)
  refine LM.nil (QM.sub (e' := [(6, _)]) ⟨rfl, trivial⟩ (QM.then ?_))
  refine wpM.ret ?_
  refine QM.leave (.inl rfl) [.tmp 6] Try.results53 rfl ?_
  intro w' hm' hc' hg'
  rw [decide_eq_true hof]; exact crm_leaf c1 (by rw [c4, qg_len]; exact hn) hs hq15 hew hesu1 c2 c3 hb hbw hbg hm' (by (repeat' (first | exact SubM.nil _ | refine SubM.cons (by rfl) ?_ | refine SubM.app ?_))) hc' hin15
 cases h1
set_option maxRecDepth 100000 in
theorem cSet_spec {n0 b : Nat} {qs : List Qm} {m : Mem0} (w : World) (h : CrM n0 b qs m) (hM : Mem w m) : Ret Try.prog 51 #[.pointer (some ⟨b, 0, none⟩)] w (Upd m (fun u m' => u = .tuple #[] ∧ CrM n0 b (setN qs qs.length) m') w) := by
 obtain ⟨hw, ad, n, cap, bw, bg, esw, clw, esg, clg, lw, lg, ms, mm, bs, rfl, hn, hs, hq, hew, heg, hwh, hwg, hb, hbw, hbg⟩ := h; have hbl := hq.len; have hlen := hw.len
 refine Ret.enterM (l := [.pointer (some ⟨b, 0, none⟩)]) Try.func51 rfl Try.ntmps51 rfl (coC b ad n cap bw bg :: (bw, .map esw clw) :: (bg, .map esg clg) :: (ms ++ (mm ++ []))) ((inM (coC b ad n cap bw bg :: (bw, .map esw clw) :: (bg, .map esg clg) :: (ms ++ mm)))) (by rw [List.append_nil]; exact hM) ?_
 refine wpM.seq (wpM.region ?_)
 refine LM.mv rfl ?_
 refine LM.callE (oc_call (enters_fn Try.func44 (by kernel_rfl) rfl) rfl) (fun w hm hc hg => cLen_spec w (hm.pick (coC b ad n cap bw bg :: []))) ?_
 refine LM.mv rfl ?_
 refine LM.nil (QM.sub (e' := [(0, _), (4, _), (5, _)]) au9 (QM.then ?_))
 refine wpM.block ?_
 refine wpM.loopK0 (α := Nat × Mem0) (fun ⟨i, mi⟩ => [(5, .int .i64 (i : Nat))]) [(0, _), (4, _)] (fun ⟨i, mi⟩ => coC b ad n cap bw bg :: (bw, .map esw clw) :: (bg, .map esg clg) :: (ms ++ (mi ++ []))) (fun ⟨i, mi⟩ => i ≤ qs.length ∧ QqM RqM n0 bs (setN qs i) mi ∧ inn mm w.heap.size mi) (fun ⟨i, mi⟩ => qs.length - i) ((0, mm)) ⟨au2, rfl, rfl, trivial⟩ au1 ⟨Nat.zero_le _, hq, inn_refl _ _⟩ ?_
 rintro ⟨i, mi⟩ ⟨hi, hqi, hini⟩
 change wpM _ _ _ _ _ _ _ (coC b ad n cap bw bg :: (bw, .map esw clw) :: (bg, .map esg clg) :: (ms ++ (mi ++ []))) _ _ _
 have hsl := setN_len qs i
 refine wpM.seq (wpM.region ?_)
 refine LM.val (ov_lss rfl rfl) ?_
 refine LM.nil (QM.sub (e' := [(0, _), (4, _), (5, _), (6, _)]) au9 (QM.then ?_))
 refine wpM.seq ?_
 refine wpM.condD rfl (fun h1 => ?_) (fun h1 => ?_)
 ·
  refine wpM.skip ?_
  refine QM.then ?_
  refine wpM.seq ?_
  refine wpM.block ?_
  refine wpM.seq (wpM.region ?_)
  refine LM.mv rfl (LM.as rfl ?_)
  refine LM.nil (QM.sub (e' := [(0, _), (2, _), (4, _), (5, _)]) au9 (QM.then (wpM.region ?_)))
  refine LM.mv rfl ?_
  refine LM.val (ov_nilCheck rfl) ?_
  refine LM.val (ov_field Try.underlying124 rfl Try.sizeOf122 rfl (k := 0) rfl rfl) ?_
  refine LM.rd (om_ld Try.isAgg122 rfl rfl) ?_
  refine LM.mv rfl ?_
  refine LM.val (ov_idxSN au6 Try.underlying122 Try.sizeOf24 rfl rfl (by omega)) ?_
  refine LM.rd (om_sl1 (by assumption) (by intro _; rfl) Try.isAgg24 rfl rfl au3 (by rfl)) ?_
  refine LM.cU (oc_call (enters_fn Try.func33 (by kernel_rfl) rfl) rfl) (fun w hm hc hg => hqi.upd rqK (i := i) (by omega) (hm.pick mi) (fun m hr hM => settle_spec w hr hM)) (hqi.wlk rqK) (inn_S hini inM_mm) ?_
  rintro u15 m15 ⟨rfl, h15⟩ hin15; change QqM RqM n0 bs (setN qs (i + 1)) m15 at h15
  refine LM.nil (QM.sub (e' := [(0, _), (4, _), (5, _)]) au9 ?_)
  refine QM.block_normal ?_
  refine QM.then (wpM.region ?_)
  refine LM.val (ov_add64 rfl rfl (by omega)) ?_
  refine LM.mv rfl ?_
  refine LM.nil (QM.sub (e' := [(0, _), (4, _), (5, _)]) au9 ?_)
  refine QM.againK (i + 1, m15) ⟨au2, rfl, rfl, trivial⟩ au1 (fun _ h => h) ?_ ?_
  · exact ⟨by omega, h15, inn_trans hini hin15⟩
  · first | omega | (dsimp only; omega)
 refine wpM.exit ?_
 refine QM.then_exit ?_
 refine QM.then_exit ?_
 refine QM.block_hit ?_
 refine QM.leave (.inr rfl) [] Try.results51 rfl ?_
 intro w' hm' hc' hg'
 have hil : i = qs.length := (by omega); subst hil; obtain ⟨k1, k2, k3⟩ := setN_keep hw (lw := lw) (lg := lg) qs.length (Nat.le_refl _); exact crm_leaf k1 (by rw [hsl]; exact hn) hs hqi hew heg (k2 hwh) (k3 hwg) hb hbw hbg hm' (by (repeat' (first | exact SubM.nil _ | refine SubM.cons (by rfl) ?_ | refine SubM.app ?_))) hc' hini
set_option maxRecDepth 100000 in
theorem sameQ_spec {n0 n1 b bq : Nat} {qs : List Qm} {m mq : Mem0} (i : Nat) (w : World) (h : CrM n0 b qs m) (hi : i < qs.length) (h' : RfM n1 bq (qg qs i) mq) (hM : Mem w (m ++ mq)) : Ret Try.prog 87 #[.pointer (some ⟨b, 0, none⟩), .pointer (some ⟨bq, 0, none⟩), .int .i64 (i : Nat)] w (fun v w' => v = .bool true ∧ Ext w w') := by
 obtain ⟨hw, ad, n, cap, bw, bg, esw, clw, esg, clg, lw, lg, ms, mm, bs, rfl, hn, hs, hq, hew, heg, hwh, hwg, hb, hbw, hbg⟩ := h; have hbl := hq.len; obtain ⟨hwq, ad2, n2, cap2, ms2, rfl, hn2, hs2, hb2⟩ := h'; have hq16 := hwq.len
 refine Ret.enterM (l := [.pointer (some ⟨b, 0, none⟩), .pointer (some ⟨bq, 0, none⟩), .int .i64 (i : Nat)]) Try.func87 rfl Try.ntmps87 rfl (coC b ad n cap bw bg :: (bw, .map esw clw) :: (bg, .map esg clg) :: (ms ++ (mm ++ (rfC bq (qg qs i).g (qg qs i).fl ad2 n2 cap2 (qg qs i).cur (qg qs i).ran :: (ms2 ++ []))))) (no) (by simpa only [List.cons_append, List.append_assoc, List.append_nil] using hM) ?_
 refine wpM.seq (wpM.region ?_)
 refine LM.as rfl ?_
 refine LM.nil (QM.sub (e' := [(0, _), (1, _), (2, _)]) au9 (QM.then (wpM.seq (wpM.region ?_))))
 refine LM.mv rfl (LM.mv rfl ?_)
 refine LM.callE (oc_call (enters_fn Try.func54 (by kernel_rfl) rfl) rfl) (fun w hm hc hg => cQu_in i w (by omega) hs (by omega) (by have h9 := hm.pick (coC b ad n cap bw bg :: (ms ++ [])); rw [List.append_nil] at h9; exact h9)) ?_
 refine LM.as rfl ?_
 refine LM.nil (QM.sub (e' := [(1, _), (7, _)]) au9 (QM.then (wpM.seq (wpM.region ?_))))
 refine LM.mv rfl ?_
 refine LM.callE (oc_call (enters_fn Try.func37 (by kernel_rfl) rfl) rfl) (fun w hm hc hg => hq.read hi (hm.pick mm) (fun m hr hM => rqCur_spec w hr hM)) ?_
 refine LM.mv rfl ?_
 refine LM.val (ov_extract rfl rfl) ?_
 refine LM.val (ov_extract rfl rfl) ?_
 refine LM.val (ov_extract rfl rfl) ?_
 refine LM.as rfl (LM.as rfl (LM.as rfl ?_))
 refine LM.nil (QM.sub (e' := [(1, _), (7, _), (8, _), (9, _)]) au9 (QM.then ?_))
 refine wpM.seq ?_
 refine wpM.seq ?_
 refine wpM.draw [(0, 0), (1, 0), (2, 0), (3, 0), (4, 1), (5, 0), (6, 0), (7, 0), (8, 0), (9, 0), (10, 0), (11, 1), (12, 0), (13, 0), (14, 0), (15, 0), (17, 0), (18, 0), (19, 0), (20, 1), (16, 2), (21, 0), (22, 0), (23, 0), (24, 0), (26, 0), (27, 0), (28, 0), (29, 1), (30, 0), (25, 2), (31, 0), (32, 0)] (by kernel_rfl) (by kernel_rfl) ?_
 refine LD.val rfl rfl (ov_move rfl) ?_
 refine LD.val rfl rfl (ov_move rfl) ?_
 refine LD.val rfl rfl (ov_nilCheck rfl) ?_
 refine LD.val rfl rfl (ov_field Try.underlying110 rfl Try.sizeOf3 rfl (k := 3) rfl rfl) ?_
 refine LD.rd rfl rfl (om_ld Try.isAgg3 rfl rfl) ?_
 refine LD.val rfl rfl (ov_neq rfl rfl) ?_
 refine LD.val rfl rfl (ov_move rfl) ?_
 refine LD.splitD (t := 30) rfl (fun h1 => ?_) (fun h1 => ?_)
 ·
  exact absurd rfl h1
 refine LD.val rfl ⟨30, _, rfl, rfl, rfl⟩ (ov_move rfl) ?_
 refine LD.val rfl ⟨30, _, rfl, rfl, rfl⟩ (ov_move rfl) ?_
 refine LD.val rfl ⟨30, _, rfl, rfl, rfl⟩ (ov_nilCheck rfl) ?_
 refine LD.val rfl ⟨30, _, rfl, rfl, rfl⟩ (ov_field Try.underlying110 rfl Try.sizeOf3 rfl (k := 4) rfl rfl) ?_
 refine LD.rd rfl ⟨30, _, rfl, rfl, rfl⟩ (om_ld Try.isAgg3 rfl rfl) ?_
 refine LD.val rfl ⟨30, _, rfl, rfl, rfl⟩ (ov_neq rfl rfl) ?_
 refine LD.val rfl rfl (ov_pickF rfl rfl) ?_
 refine LD.val rfl rfl (ov_move rfl) ?_
 refine LD.splitD (t := 38) rfl (fun h2 => ?_) (fun h2 => ?_)
 ·
  exact absurd rfl h2
 refine LD.val rfl ⟨38, _, rfl, rfl, rfl⟩ (ov_move rfl) ?_
 refine LD.val rfl ⟨38, _, rfl, rfl, rfl⟩ (ov_move rfl) ?_
 refine LD.val rfl ⟨38, _, rfl, rfl, rfl⟩ (ov_nilCheck rfl) ?_
 refine LD.val rfl ⟨38, _, rfl, rfl, rfl⟩ (ov_field Try.underlying110 rfl Try.sizeOf26 rfl (k := 1) rfl rfl) ?_
 refine LD.rd rfl ⟨38, _, rfl, rfl, rfl⟩ (om_ld Try.isAgg26 rfl rfl) ?_
 refine LD.callE rfl ⟨38, _, rfl, rfl, rfl⟩ (oc_call (enters_fn Try.func19 (by kernel_rfl) rfl) rfl) (fun w hm hc hg => hq.read hi (hm.pick mm) (fun m hr hM => rqFlo_spec w hr hM)) ?_
 refine LD.val rfl ⟨38, _, rfl, rfl, rfl⟩ (ov_uneq rfl rfl) ?_
 refine LD.val rfl rfl (ov_pickF rfl rfl) ?_
 refine LD.val rfl rfl (ov_move rfl) ?_
 refine LD.splitD (t := 47) rfl (fun h3 => ?_) (fun h3 => ?_)
 ·
  exact absurd rfl h3
 refine LD.val rfl ⟨47, _, rfl, rfl, rfl⟩ (ov_move rfl) ?_
 refine LD.val rfl ⟨47, _, rfl, rfl, rfl⟩ (ov_move rfl) ?_
 refine LD.val rfl ⟨47, _, rfl, rfl, rfl⟩ (ov_nilCheck rfl) ?_
 refine LD.val rfl ⟨47, _, rfl, rfl, rfl⟩ (ov_field Try.underlying110 rfl Try.sizeOf108 rfl (k := 2) rfl rfl) ?_
 refine LD.rd rfl ⟨47, _, rfl, rfl, rfl⟩ (om_ld Try.isAgg108 rfl rfl) ?_
 refine LD.val rfl ⟨47, _, rfl, rfl, rfl⟩ (ov_len Try.underlying108 rfl) ?_
 refine LD.callE rfl ⟨47, _, rfl, rfl, rfl⟩ (oc_call (enters_fn Try.func40 (by kernel_rfl) rfl) rfl) (fun w hm hc hg => hq.read hi (hm.pick mm) (fun m hr hM => rqLen_spec w hr hM)) ?_
 refine LD.val rfl ⟨47, _, rfl, rfl, rfl⟩ (ov_neq rfl rfl) ?_
 refine LD.val rfl rfl (ov_pickF rfl rfl) ?_
 refine LD.nil ?_
 refine QM.sub (e' := [(1, _), (7, _), (56, _)]) au9 (QM.then ?_)
 refine wpM.condD rfl (fun h4 => ?_) (fun h4 => ?_)
 ·
  exact absurd (by omega) h4
 refine wpM.skip ?_
 refine QM.then ?_
 refine wpM.seq ?_
 refine wpM.seq (wpM.region ?_)
 refine LM.mv rfl ?_
 refine LM.val (ov_nilCheck rfl) ?_
 refine LM.val (ov_field Try.underlying110 rfl Try.sizeOf108 rfl (k := 2) rfl rfl) ?_
 refine LM.rd (om_ld Try.isAgg108 rfl rfl) ?_
 refine LM.val (ov_len Try.underlying108 rfl) ?_
 refine LM.mv rfl ?_
 refine LM.nil (QM.sub (e' := [(7, _), (60, _), (61, _), (62, _)]) au9 (QM.then ?_))
 refine wpM.block ?_
 refine wpM.loopK0 (α := Nat) (fun j => [(62, .int .i64 (j : Nat))]) [(7, _), (60, _), (61, _)] (fun j => coC b ad n cap bw bg :: (bw, .map esw clw) :: (bg, .map esg clg) :: (ms ++ (mm ++ (rfC bq (qg qs i).g (qg qs i).fl ad2 n2 cap2 (qg qs i).cur (qg qs i).ran :: (ms2 ++ []))))) (fun j => j ≤ (qg qs i).l.length) (fun j => (qg qs i).l.length - j) (0) ⟨au2, rfl, rfl, rfl, trivial⟩ au1 (Nat.zero_le _) ?_
 rintro j hj
 change wpM _ _ _ _ _ _ _ (coC b ad n cap bw bg :: (bw, .map esw clw) :: (bg, .map esg clg) :: (ms ++ (mm ++ (rfC bq (qg qs i).g (qg qs i).fl ad2 n2 cap2 (qg qs i).cur (qg qs i).ran :: (ms2 ++ []))))) _ _ _
 refine wpM.seq (wpM.region ?_)
 refine LM.val (ov_lss rfl rfl) ?_
 refine LM.nil (QM.sub (e' := [(7, _), (60, _), (61, _), (62, _), (63, _)]) au9 (QM.then ?_))
 refine wpM.seq ?_
 refine wpM.condD rfl (fun h5 => ?_) (fun h5 => ?_)
 ·
  have hjm : (qg qs i).l.getD j default ∈ (qg qs i).l := (by rw [List.getD_eq_getElem?_getD, List.getElem?_eq_getElem (by omega : j < (qg qs i).l.length)]; exact List.getElem_mem _); have hgj := gQ_eq hwq hjm; have hhj : ixO (qg qs i).l ((qg qs i).l.getD j default).id < (qg qs i).l.length := ixO_lt.2 ⟨_, hjm, rfl⟩
  refine wpM.skip ?_
  refine QM.then ?_
  refine wpM.seq ?_
  refine wpM.block ?_
  refine wpM.seq (wpM.region ?_)
  refine LM.val (ov_idxSN au6 Try.underlying108 Try.sizeOf112 rfl rfl (by omega)) ?_
  refine LM.rd (om_slA (by assumption) (by intro _; rfl) Try.isAgg112 Try.sizeOf112 rfl au3) ?_
  refine LM.alloc Try.zeroValue112 rfl (fun b12 hb12 => ?_)
  refine LM.stW Try.sizeOf112 rfl rfl rfl rfl au7 (fun hlt => by first | exact inM_0 | exact inM_1 | exact inM_2' | exact absurd hlt (by omega)) ?_
  refine LM.nil (QM.sub (e' := [(7, _), (12, _), (60, _), (61, _), (62, _)]) au9 (QM.then (wpM.seq (wpM.region ?_))))
  refine LM.mv rfl (LM.val (ov_field Try.underlying112 rfl Try.sizeOf3 rfl (k := 0) rfl rfl) ?_)
  refine LM.rd (om_ld Try.isAgg3 rfl rfl) ?_
  refine LM.callE (oc_call (enters_fn Try.func14 (by kernel_rfl) rfl) rfl) (fun w hm hc hg => (by have k := hq.read hi (hm.pick mm) (fun m hr hM => rqV_spec ((qg qs i).l.getD j default).id w hr hM); rw [hgj, decide_eq_true hhj] at k; exact k)) ?_
  refine LM.mv rfl ?_
  refine LM.val (ov_extract rfl rfl) ?_
  refine LM.val (ov_extract rfl rfl) ?_
  refine LM.as rfl (LM.as rfl ?_)
  refine LM.nil (QM.sub (e' := [(7, _), (12, _), (13, _), (14, _), (60, _), (61, _), (62, _)]) au9 (QM.then (wpM.seq (wpM.region ?_))))
  refine LM.mv rfl ?_
  first | refine LM.val (ov_notD rfl) ?_ | refine LM.val (ov_not rfl) ?_
  refine LM.mv rfl ?_
  first | refine LM.splitD (t := 75) rfl (fun h6 => ?_) (fun h6 => ?_) | refine LM.splitB (t := 75) rfl (fun h6 => ?_) (fun h6 => ?_)
  ·
   refine LM.dr 75 rfl rfl rfl (LM.dr 75 rfl rfl rfl (LM.dr 75 rfl rfl rfl (LM.dr 75 rfl rfl rfl ?_)))
   refine LM.val (ov_pickT rfl rfl) ?_
   refine LM.nil (QM.sub (e' := [(7, _), (60, _), (61, _), (62, _), (80, _)]) au9 (QM.then ?_))
   refine wpM.condT rfl ?_
   refine wpM.seq (wpM.region ?_)
   refine LM.as rfl ?_
   refine LM.nil (QM.sub (e' := [(6, _)]) ⟨rfl, trivial⟩ (QM.then ?_))
   refine wpM.ret ?_
   refine QM.block_ret ?_
   refine QM.then_ret ?_
   refine QM.then_ret ?_
   refine QM.block_ret ?_
   refine QM.then_ret ?_
   refine QM.leave (.inl rfl) [.tmp 6] Try.results87 rfl ?_
   intro w' hm' hc' hg'
   first | exact ⟨rfl, hc'⟩ | (exfalso; first | omega | (simp at *; done) | (simp_all; done))
  refine LM.sp 75 rfl rfl rfl (LM.mv rfl (LM.sp 75 rfl rfl rfl (LM.val (ov_field Try.underlying112 rfl Try.sizeOf26 rfl (k := 1) rfl rfl) (LM.sp 75 rfl rfl rfl ?_))))
  refine LM.rd (om_ld Try.isAgg26 rfl rfl) ?_
  refine LM.sp 75 rfl rfl rfl ?_
  refine LM.val (ov_uneq rfl rfl) ?_
  refine LM.val (ov_pickF rfl rfl) ?_
  refine LM.nil (QM.sub (e' := [(7, _), (60, _), (61, _), (62, _), (80, _)]) au9 (QM.then ?_))
  refine wpM.condD rfl (fun h7 => ?_) (fun h7 => ?_)
  ·
   exact absurd rfl h7
  refine wpM.skip ?_
  refine QM.block_normal ?_
  refine QM.then (wpM.region ?_)
  refine LM.val (ov_add64 rfl rfl (by omega)) ?_
  refine LM.mv rfl ?_
  refine LM.nil (QM.sub (e' := [(7, _), (60, _), (61, _), (62, _)]) au9 ?_)
  refine QM.againK (j + 1) ⟨au2, rfl, rfl, rfl, trivial⟩ au1 (fun _ h => h) ?_ ?_
  · omega
  · omega
 refine wpM.exit ?_
 refine QM.then_exit ?_
 refine QM.then_exit ?_
 refine QM.block_hit ?_
 refine QM.then (wpM.seq (wpM.region ?_))
 refine LM.as rfl ?_
 refine LM.nil (QM.sub (e' := [(6, _)]) ⟨rfl, trivial⟩ (QM.then ?_))
 refine wpM.ret ?_
 refine QM.leave (.inl rfl) [.tmp 6] Try.results87 rfl ?_
 intro w' hm' hc' hg'
 exact ⟨rfl, hc'⟩
end Go.Eng
namespace Go.Eng
open Go Go.Proofs Go.RowKit
section
variable {n0 b : Nat} {qs : List Qm} {m : Mem0} {w : World} (h : CrM n0 b qs m) (hM : Mem w m)
include h hM
theorem cOf_r (a : Int) : Ret Try.prog 49 #[.pointer (some ⟨b, 0, none⟩), .int .i64 a] w (fun u w' => u = .int .i64 (ofO qs a) ∧ Ext w w') := by
  obtain ⟨hw, ad, n, cap, bw, bg, esw, clw, esg, clg, lw, lg, ms, mm, bs, rfl, hn, hs, hq, hew, heg, hwh, hwg, hb, hbw, hbg⟩ := h
  exact cOf_spec a w hew hwh (hM.pick (coC b ad n cap bw bg :: (bw, .map esw clw) :: []))
theorem cLen_r : Ret Try.prog 44 #[.pointer (some ⟨b, 0, none⟩)] w (fun u w' => u = .int .i64 (qs.length : Nat) ∧ Ext w w') := by
  obtain ⟨hw, ad, n, cap, bw, bg, esw, clw, esg, clg, lw, lg, ms, mm, bs, rfl, hn, hs, hq, hew, heg, hwh, hwg, hb, hbw, hbg⟩ := h
  rw [← hn]
  exact cLen_spec w (hM.pick (coC b ad n cap bw bg :: []))
theorem cLoads_r : Ret Try.prog 47 #[.pointer (some ⟨b, 0, none⟩)] w (New fI 3 1 (lds qs) w) := by
  obtain ⟨hw, ad, n, cap, bw, bg, esw, clw, esg, clg, lw, lg, ms, mm, bs, rfl, hn, hs, hq, hew, heg, hwh, hwg, hb, hbw, hbg⟩ := h
  exact cLoads_spec w hn (by have := hw.len; omega) hs hq (hM.pick (coC b ad n cap bw bg :: (ms ++ mm)))
end
theorem cadd_len (qs : List Qm) (core a : Int) (v : BitVec 64) (w : Int) : (cAddX qs core a v w).length = qs.length := by unfold cAddX; split; exact List.length_set; rfl
theorem car_len (qs : List Qm) (a : Int) (to : Nat) : (carX qs a to).length = qs.length := by unfold carX carX1; rw [List.length_set, List.length_set]
theorem bal_len (qs : List Qm) : (balX qs).length = qs.length := by unfold balX; split; rfl; exact car_len ..
def aw1 : List Qm := cAddX (newQs 2 1) ((0 : Nat) : Int) 1 0#64 3
def aw2 : List Qm := cAddX aw1 ((0 : Nat) : Int) 2 0#64 2
def aw3 : List Qm := cAddX aw2 ((1 : Nat) : Int) 3 0#64 1
theorem aw_len : (newQs 2 1).length = 2 ∧ aw1.length = 2 ∧ aw2.length = 2 ∧ aw3.length = 2 := by
  have h0 : (newQs 2 1).length = 2 := by rw [newQs_len]; decide
  exact ⟨h0, by rw [aw1, cadd_len, h0], by rw [aw2, cadd_len, aw1, cadd_len, h0], by rw [aw3, cadd_len, aw2, cadd_len, aw1, cadd_len, h0]⟩
theorem aw_facts : balI aw3 = 1 ∧ balA aw3 = 0 ∧ balB aw3 = 1 ∧ (balF aw3).isSome = true ∧ lds (balX aw3) = [2, 4] ∧ ofO (balX aw3) 1 = 1 ∧ cMovE (balX aw3) ((0 : Nat) : Int) 2 = 12 := by
  refine ⟨?_, ?_, ?_, ?_, ?_, ?_, ?_⟩ <;> kernel_rfl
set_option maxRecDepth 100000 in
theorem awake17_spec (w : World) : Ret Try.prog 42 #[] w (fun v w' => v = .bool true ∧ Ext w w') := by
 obtain ⟨e0, e1, e2, e3⟩ := aw_len; obtain ⟨f1, f2, f3, f4, f5, f6, f7⟩ := aw_facts
 refine Ret.enterM (l := []) Try.func42 rfl Try.ntmps42 rfl ([]) (no) (Mem.nil w) ?_
 refine wpM.seq (wpM.region ?_)
 refine LM.as rfl ?_
 refine LM.nil (QM.sub (e' := []) trivial (QM.then (wpM.seq (wpM.region ?_))))
 refine LM.callT (oc_call (enters_fn Try.func43 (by kernel_rfl) rfl) rfl) CrN.mono (fun w hm hc hg => cNew_spec 2 1 w) ?_
 rintro u7 m7 ⟨b, rfl, h7⟩ hge7
 refine LM.as rfl ?_
 refine LM.nil (QM.sub (e' := [(1, _)]) ⟨rfl, trivial⟩ (QM.then (wpM.seq (wpM.region ?_))))
 refine LM.mv rfl ?_
 refine LM.cU (oc_call (enters_fn Try.func45 (by kernel_rfl) rfl) rfl) (fun w hm hc hg => cAdd_in 0 1 0#64 3 w h7 (by omega) hc.size (hm.pick m7)) h7.wlk (fun p hp hlt => absurd hlt (Nat.not_lt_of_le (h7.ge p hp))) ?_
 rintro u9 m9 ⟨rfl, h9⟩ hin9; change CrM w.heap.size b aw1 m9 at h9
 refine LM.nil (QM.sub (e' := [(1, _)]) ⟨rfl, trivial⟩ (QM.then (wpM.seq (wpM.region ?_))))
 refine LM.mv rfl ?_
 refine LM.cU (oc_call (enters_fn Try.func45 (by kernel_rfl) rfl) rfl) (fun w hm hc hg => cAdd_in 0 2 0#64 2 w h9 (by omega) hc.size (hm.pick m9)) h9.wlk (fun p hp hlt => absurd hlt (Nat.not_lt_of_le (h9.ge p hp))) ?_
 rintro u11 m11 ⟨rfl, h11⟩ hin11; change CrM w.heap.size b aw2 m11 at h11
 refine LM.nil (QM.sub (e' := [(1, _)]) ⟨rfl, trivial⟩ (QM.then (wpM.seq (wpM.region ?_))))
 refine LM.mv rfl ?_
 refine LM.cU (oc_call (enters_fn Try.func45 (by kernel_rfl) rfl) rfl) (fun w hm hc hg => cAdd_in 1 3 0#64 1 w h11 (by omega) hc.size (hm.pick m11)) h11.wlk (fun p hp hlt => absurd hlt (Nat.not_lt_of_le (h11.ge p hp))) ?_
 rintro u13 m13 ⟨rfl, h13⟩ hin13; change CrM w.heap.size b aw3 m13 at h13
 refine LM.nil (QM.sub (e' := [(1, _)]) ⟨rfl, trivial⟩ (QM.then (wpM.seq (wpM.region ?_))))
 refine LM.mv rfl ?_
 refine LM.cU (oc_call (enters_fn Try.func48 (by kernel_rfl) rfl) rfl) (fun w hm hc hg => bal_spec w h13 hc.size (hm.pick m13)) h13.wlk (fun p hp hlt => absurd hlt (Nat.not_lt_of_le (h13.ge p hp))) ?_
 rintro u16 m16 ⟨rfl, h16⟩ hin16; rw [f1, f2, f3, f4]
 refine LM.mv rfl ?_
 refine LM.val (ov_extract rfl rfl) ?_
 refine LM.val (ov_extract rfl rfl) ?_
 refine LM.val (ov_extract rfl rfl) ?_
 refine LM.val (ov_extract rfl rfl) ?_
 refine LM.as rfl (LM.as rfl (LM.as rfl (LM.as rfl ?_)))
 refine LM.nil (QM.sub (e' := [(1, _), (2, _), (3, _), (4, _), (5, _)]) au9 (QM.then (wpM.seq (wpM.region ?_))))
 refine LM.mv rfl ?_
 refine LM.cS (oc_call (enters_fn Try.func47 (by kernel_rfl) rfl) rfl) (fun w hm hc hg => (by have k := cLoads_r h16 (hm.pick m16); rw [f5] at k; exact k)) (fun ad22 n22 cap22 m22 hn22 hs22 => ?_)
 refine LM.as rfl ?_
 refine LM.nil (QM.sub (e' := [(1, _), (2, _), (3, _), (4, _), (5, _), (6, _)]) au9 (QM.then (wpM.seq (wpM.region ?_))))
 refine LM.mv rfl ?_
 refine LM.val (ov_eql rfl rfl) ?_
 refine LM.mv rfl ?_
 refine LM.splitD (t := 25) rfl (fun h1 => ?_) (fun h1 => ?_)
 ·
  refine LM.sp 25 rfl rfl rfl (LM.mv rfl (LM.sp 25 rfl rfl rfl ?_))
  refine LM.val (ov_eql rfl rfl) ?_
  refine LM.val (ov_pickT rfl rfl) ?_
  refine LM.mv rfl ?_
  refine LM.splitD (t := 29) rfl (fun h2 => ?_) (fun h2 => ?_)
  ·
   refine LM.sp 29 rfl rfl rfl (LM.mv rfl (LM.sp 29 rfl rfl rfl ?_))
   refine LM.val (ov_eql rfl rfl) ?_
   refine LM.val (ov_pickT rfl rfl) ?_
   refine LM.mv rfl ?_
   refine LM.splitD (t := 33) rfl (fun h3 => ?_) (fun h3 => ?_)
   ·
    refine LM.sp 33 rfl rfl rfl (LM.mv rfl ?_)
    refine LM.val (ov_pickT rfl rfl) ?_
    refine LM.mv rfl ?_
    first | refine LM.splitD (t := 36) rfl (fun h4 => ?_) (fun h4 => ?_) | refine LM.splitB (t := 36) rfl (fun h4 => ?_) (fun h4 => ?_)
    ·
     refine LM.sp 36 rfl rfl rfl (LM.mv rfl (LM.sp 36 rfl rfl rfl ?_))
     refine LM.val (ov_len Try.underlying47 rfl) ?_
     refine LM.sp 36 rfl rfl rfl ?_
     refine LM.val (ov_eql rfl rfl) ?_
     refine LM.val (ov_pickT rfl rfl) ?_
     refine LM.mv rfl ?_
     refine LM.splitD (t := 41) rfl (fun h5 => ?_) (fun h5 => ?_)
     ·
      refine LM.sp 41 rfl rfl rfl (LM.mv rfl (LM.sp 41 rfl rfl rfl ?_))
      refine LM.val (ov_idxSN (i := 0) au6 Try.underlying47 Try.sizeOf3 rfl rfl (by omega)) ?_
      refine LM.sp 41 rfl rfl rfl ?_
      refine LM.rd (om_sl1 (i := 0) (by assumption) (by intro _; rfl) Try.isAgg3 rfl rfl (by exact getq 0 au4) (by rfl)) ?_
      refine LM.sp 41 rfl rfl rfl ?_
      refine LM.val (ov_eql rfl rfl) ?_
      refine LM.val (ov_pickT rfl rfl) ?_
      refine LM.mv rfl ?_
      refine LM.splitD (t := 47) rfl (fun h6 => ?_) (fun h6 => ?_)
      ·
       refine LM.sp 47 rfl rfl rfl (LM.mv rfl (LM.sp 47 rfl rfl rfl ?_))
       refine LM.val (ov_idxSN (i := 1) au6 Try.underlying47 Try.sizeOf3 rfl rfl (by omega)) ?_
       refine LM.sp 47 rfl rfl rfl ?_
       refine LM.rd (om_sl1 (i := 1) (by assumption) (by intro _; rfl) Try.isAgg3 rfl rfl (by exact getq 0 au4) (by rfl)) ?_
       refine LM.sp 47 rfl rfl rfl ?_
       refine LM.val (ov_eql rfl rfl) ?_
       refine LM.val (ov_pickT rfl rfl) ?_
       refine LM.mv rfl ?_
       refine LM.splitD (t := 53) rfl (fun h7 => ?_) (fun h7 => ?_)
       ·
        refine LM.sp 53 rfl rfl rfl (LM.mv rfl (LM.sp 53 rfl rfl rfl ?_))
        refine LM.callE (oc_call (enters_fn Try.func49 (by kernel_rfl) rfl) rfl) (fun w hm hc hg => (by have k := cOf_r h16 (hm.pick m16) 1; rw [f6] at k; exact k)) ?_
        refine LM.sp 53 rfl rfl rfl ?_
        refine LM.val (ov_eql rfl rfl) ?_
        refine LM.val (ov_pickT rfl rfl) ?_
        refine LM.mv rfl ?_
        refine LM.splitD (t := 58) rfl (fun h8 => ?_) (fun h8 => ?_)
        ·
         refine LM.sp 58 rfl rfl rfl (LM.mv rfl (LM.sp 58 rfl rfl rfl ?_))
         refine LM.callE (oc_call (enters_fn Try.func44 (by kernel_rfl) rfl) rfl) (fun w hm hc hg => (by have k := cLen_r h16 (hm.pick m16); rw [bal_len, e3] at k; exact k)) ?_
         refine LM.sp 58 rfl rfl rfl ?_
         refine LM.val (ov_eql rfl rfl) ?_
         refine LM.val (ov_pickT rfl rfl) ?_
         refine LM.mv rfl ?_
         refine LM.splitD (t := 63) rfl (fun h9 => ?_) (fun h9 => ?_)
         ·
          refine LM.sp 63 rfl rfl rfl (LM.mv rfl (LM.sp 63 rfl rfl rfl ?_))
          refine LM.cU (oc_call (enters_fn Try.func52 (by kernel_rfl) rfl) rfl) (fun w hm hc hg => cMove_in 2 0 w h16 (by rw [bal_len]; omega) hc.size (hm.pick m16)) h16.wlk (fun p hp hlt => absurd hlt (Nat.not_lt_of_le (h16.ge p hp))) ?_
          rintro u65 m65 ⟨rfl, h65⟩ hin65; rw [f7]
          refine LM.sp 63 rfl rfl rfl ?_
          refine LM.val (ov_eql rfl rfl) ?_
          refine LM.val (ov_pickT rfl rfl) ?_
          refine LM.as rfl ?_
          refine LM.nil (QM.sub (e' := [(0, _)]) ⟨rfl, trivial⟩ (QM.then ?_))
          refine wpM.ret ?_
          refine QM.leave (.inl rfl) [.tmp 0] Try.results42 rfl ?_
          intro w' hm' hc' hg'
          exact ⟨rfl, hc'⟩
         refine LM.dr 63 rfl rfl rfl (LM.dr 63 rfl rfl rfl (LM.dr 63 rfl rfl rfl ?_))
         refine LM.val (ov_pickF rfl rfl) ?_
         refine LM.as rfl ?_
         refine LM.nil (QM.sub (e' := [(0, _)]) ⟨rfl, trivial⟩ (QM.then ?_))
         refine wpM.ret ?_
         refine QM.leave (.inl rfl) [.tmp 0] Try.results42 rfl ?_
         intro w' hm' hc' hg'
         first | exact ⟨rfl, hc'⟩ | (exfalso; first | omega | (simp at *; done) | (simp_all; done))
        refine LM.dr 58 rfl rfl rfl (LM.dr 58 rfl rfl rfl (LM.dr 58 rfl rfl rfl ?_))
        refine LM.val (ov_pickF rfl rfl) ?_
        refine LM.mv rfl (LM.dr 63 rfl rfl rfl (LM.dr 63 rfl rfl rfl (LM.dr 63 rfl rfl rfl ?_)))
        refine LM.val (ov_pickF rfl rfl) ?_
        refine LM.as rfl ?_
        refine LM.nil (QM.sub (e' := [(0, _)]) ⟨rfl, trivial⟩ (QM.then ?_))
        refine wpM.ret ?_
        refine QM.leave (.inl rfl) [.tmp 0] Try.results42 rfl ?_
        intro w' hm' hc' hg'
        first | exact ⟨rfl, hc'⟩ | (exfalso; first | omega | (simp at *; done) | (simp_all; done))
       refine LM.dr 53 rfl rfl rfl (LM.dr 53 rfl rfl rfl (LM.dr 53 rfl rfl rfl ?_))
       refine LM.val (ov_pickF rfl rfl) ?_
       refine LM.mv rfl (LM.dr 58 rfl rfl rfl (LM.dr 58 rfl rfl rfl (LM.dr 58 rfl rfl rfl ?_)))
       refine LM.val (ov_pickF rfl rfl) ?_
       refine LM.mv rfl (LM.dr 63 rfl rfl rfl (LM.dr 63 rfl rfl rfl (LM.dr 63 rfl rfl rfl ?_)))
       refine LM.val (ov_pickF rfl rfl) ?_
       refine LM.as rfl ?_
       refine LM.nil (QM.sub (e' := [(0, _)]) ⟨rfl, trivial⟩ (QM.then ?_))
       refine wpM.ret ?_
       refine QM.leave (.inl rfl) [.tmp 0] Try.results42 rfl ?_
       intro w' hm' hc' hg'
       first | exact ⟨rfl, hc'⟩ | (exfalso; first | omega | (simp at *; done) | (simp_all; done))
      refine LM.dr 47 rfl rfl rfl (LM.dr 47 rfl rfl rfl (LM.dr 47 rfl rfl rfl (LM.dr 47 rfl rfl rfl ?_)))
      refine LM.val (ov_pickF rfl rfl) ?_
      refine LM.mv rfl (LM.dr 53 rfl rfl rfl (LM.dr 53 rfl rfl rfl (LM.dr 53 rfl rfl rfl ?_)))
      refine LM.val (ov_pickF rfl rfl) ?_
      refine LM.mv rfl (LM.dr 58 rfl rfl rfl (LM.dr 58 rfl rfl rfl (LM.dr 58 rfl rfl rfl ?_)))
      refine LM.val (ov_pickF rfl rfl) ?_
      refine LM.mv rfl (LM.dr 63 rfl rfl rfl (LM.dr 63 rfl rfl rfl (LM.dr 63 rfl rfl rfl ?_)))
      refine LM.val (ov_pickF rfl rfl) ?_
      refine LM.as rfl ?_
      refine LM.nil (QM.sub (e' := [(0, _)]) ⟨rfl, trivial⟩ (QM.then ?_))
      refine wpM.ret ?_
      refine QM.leave (.inl rfl) [.tmp 0] Try.results42 rfl ?_
      intro w' hm' hc' hg'
      first | exact ⟨rfl, hc'⟩ | (exfalso; first | omega | (simp at *; done) | (simp_all; done))
     refine LM.dr 41 rfl rfl rfl (LM.dr 41 rfl rfl rfl (LM.dr 41 rfl rfl rfl (LM.dr 41 rfl rfl rfl ?_)))
     refine LM.val (ov_pickF rfl rfl) ?_
     refine LM.mv rfl (LM.dr 47 rfl rfl rfl (LM.dr 47 rfl rfl rfl (LM.dr 47 rfl rfl rfl (LM.dr 47 rfl rfl rfl ?_))))
     refine LM.val (ov_pickF rfl rfl) ?_
     refine LM.mv rfl (LM.dr 53 rfl rfl rfl (LM.dr 53 rfl rfl rfl (LM.dr 53 rfl rfl rfl ?_)))
     refine LM.val (ov_pickF rfl rfl) ?_
     refine LM.mv rfl (LM.dr 58 rfl rfl rfl (LM.dr 58 rfl rfl rfl (LM.dr 58 rfl rfl rfl ?_)))
     refine LM.val (ov_pickF rfl rfl) ?_
     refine LM.mv rfl (LM.dr 63 rfl rfl rfl (LM.dr 63 rfl rfl rfl (LM.dr 63 rfl rfl rfl ?_)))
     refine LM.val (ov_pickF rfl rfl) ?_
     refine LM.as rfl ?_
     refine LM.nil (QM.sub (e' := [(0, _)]) ⟨rfl, trivial⟩ (QM.then ?_))
     refine wpM.ret ?_
     refine QM.leave (.inl rfl) [.tmp 0] Try.results42 rfl ?_
     intro w' hm' hc' hg'
     first | exact ⟨rfl, hc'⟩ | (exfalso; first | omega | (simp at *; done) | (simp_all; done))
    refine LM.dr 36 rfl rfl rfl (LM.dr 36 rfl rfl rfl (LM.dr 36 rfl rfl rfl ?_))
    refine LM.val (ov_pickF rfl rfl) ?_
    refine LM.mv rfl (LM.dr 41 rfl rfl rfl (LM.dr 41 rfl rfl rfl (LM.dr 41 rfl rfl rfl (LM.dr 41 rfl rfl rfl ?_))))
    refine LM.val (ov_pickF rfl rfl) ?_
    refine LM.mv rfl (LM.dr 47 rfl rfl rfl (LM.dr 47 rfl rfl rfl (LM.dr 47 rfl rfl rfl (LM.dr 47 rfl rfl rfl ?_))))
    refine LM.val (ov_pickF rfl rfl) ?_
    refine LM.mv rfl (LM.dr 53 rfl rfl rfl (LM.dr 53 rfl rfl rfl (LM.dr 53 rfl rfl rfl ?_)))
    refine LM.val (ov_pickF rfl rfl) ?_
    refine LM.mv rfl (LM.dr 58 rfl rfl rfl (LM.dr 58 rfl rfl rfl (LM.dr 58 rfl rfl rfl ?_)))
    refine LM.val (ov_pickF rfl rfl) ?_
    refine LM.mv rfl (LM.dr 63 rfl rfl rfl (LM.dr 63 rfl rfl rfl (LM.dr 63 rfl rfl rfl ?_)))
    refine LM.val (ov_pickF rfl rfl) ?_
    refine LM.as rfl ?_
    refine LM.nil (QM.sub (e' := [(0, _)]) ⟨rfl, trivial⟩ (QM.then ?_))
    refine wpM.ret ?_
    refine QM.leave (.inl rfl) [.tmp 0] Try.results42 rfl ?_
    intro w' hm' hc' hg'
    first | exact ⟨rfl, hc'⟩ | (exfalso; first | omega | (simp at *; done) | (simp_all; done))
   refine LM.dr 33 rfl rfl rfl ?_
   refine LM.val (ov_pickF rfl rfl) ?_
   refine LM.mv rfl (LM.dr 36 rfl rfl rfl (LM.dr 36 rfl rfl rfl (LM.dr 36 rfl rfl rfl ?_)))
   refine LM.val (ov_pickF rfl rfl) ?_
   refine LM.mv rfl (LM.dr 41 rfl rfl rfl (LM.dr 41 rfl rfl rfl (LM.dr 41 rfl rfl rfl (LM.dr 41 rfl rfl rfl ?_))))
   refine LM.val (ov_pickF rfl rfl) ?_
   refine LM.mv rfl (LM.dr 47 rfl rfl rfl (LM.dr 47 rfl rfl rfl (LM.dr 47 rfl rfl rfl (LM.dr 47 rfl rfl rfl ?_))))
   refine LM.val (ov_pickF rfl rfl) ?_
   refine LM.mv rfl (LM.dr 53 rfl rfl rfl (LM.dr 53 rfl rfl rfl (LM.dr 53 rfl rfl rfl ?_)))
   refine LM.val (ov_pickF rfl rfl) ?_
   refine LM.mv rfl (LM.dr 58 rfl rfl rfl (LM.dr 58 rfl rfl rfl (LM.dr 58 rfl rfl rfl ?_)))
   refine LM.val (ov_pickF rfl rfl) ?_
   refine LM.mv rfl (LM.dr 63 rfl rfl rfl (LM.dr 63 rfl rfl rfl (LM.dr 63 rfl rfl rfl ?_)))
   refine LM.val (ov_pickF rfl rfl) ?_
   refine LM.as rfl ?_
   refine LM.nil (QM.sub (e' := [(0, _)]) ⟨rfl, trivial⟩ (QM.then ?_))
   refine wpM.ret ?_
   refine QM.leave (.inl rfl) [.tmp 0] Try.results42 rfl ?_
   intro w' hm' hc' hg'
   first | exact ⟨rfl, hc'⟩ | (exfalso; first | omega | (simp at *; done) | (simp_all; done))
  refine LM.dr 29 rfl rfl rfl (LM.dr 29 rfl rfl rfl ?_)
  refine LM.val (ov_pickF rfl rfl) ?_
  refine LM.mv rfl (LM.dr 33 rfl rfl rfl ?_)
  refine LM.val (ov_pickF rfl rfl) ?_
  refine LM.mv rfl (LM.dr 36 rfl rfl rfl (LM.dr 36 rfl rfl rfl (LM.dr 36 rfl rfl rfl ?_)))
  refine LM.val (ov_pickF rfl rfl) ?_
  refine LM.mv rfl (LM.dr 41 rfl rfl rfl (LM.dr 41 rfl rfl rfl (LM.dr 41 rfl rfl rfl (LM.dr 41 rfl rfl rfl ?_))))
  refine LM.val (ov_pickF rfl rfl) ?_
  refine LM.mv rfl (LM.dr 47 rfl rfl rfl (LM.dr 47 rfl rfl rfl (LM.dr 47 rfl rfl rfl (LM.dr 47 rfl rfl rfl ?_))))
  refine LM.val (ov_pickF rfl rfl) ?_
  refine LM.mv rfl (LM.dr 53 rfl rfl rfl (LM.dr 53 rfl rfl rfl (LM.dr 53 rfl rfl rfl ?_)))
  refine LM.val (ov_pickF rfl rfl) ?_
  refine LM.mv rfl (LM.dr 58 rfl rfl rfl (LM.dr 58 rfl rfl rfl (LM.dr 58 rfl rfl rfl ?_)))
  refine LM.val (ov_pickF rfl rfl) ?_
  refine LM.mv rfl (LM.dr 63 rfl rfl rfl (LM.dr 63 rfl rfl rfl (LM.dr 63 rfl rfl rfl ?_)))
  refine LM.val (ov_pickF rfl rfl) ?_
  refine LM.as rfl ?_
  refine LM.nil (QM.sub (e' := [(0, _)]) ⟨rfl, trivial⟩ (QM.then ?_))
  refine wpM.ret ?_
  refine QM.leave (.inl rfl) [.tmp 0] Try.results42 rfl ?_
  intro w' hm' hc' hg'
  first | exact ⟨rfl, hc'⟩ | (exfalso; first | omega | (simp at *; done) | (simp_all; done))
 refine LM.dr 25 rfl rfl rfl (LM.dr 25 rfl rfl rfl ?_)
 refine LM.val (ov_pickF rfl rfl) ?_
 refine LM.mv rfl (LM.dr 29 rfl rfl rfl (LM.dr 29 rfl rfl rfl ?_))
 refine LM.val (ov_pickF rfl rfl) ?_
 refine LM.mv rfl (LM.dr 33 rfl rfl rfl ?_)
 refine LM.val (ov_pickF rfl rfl) ?_
 refine LM.mv rfl (LM.dr 36 rfl rfl rfl (LM.dr 36 rfl rfl rfl (LM.dr 36 rfl rfl rfl ?_)))
 refine LM.val (ov_pickF rfl rfl) ?_
 refine LM.mv rfl (LM.dr 41 rfl rfl rfl (LM.dr 41 rfl rfl rfl (LM.dr 41 rfl rfl rfl (LM.dr 41 rfl rfl rfl ?_))))
 refine LM.val (ov_pickF rfl rfl) ?_
 refine LM.mv rfl (LM.dr 47 rfl rfl rfl (LM.dr 47 rfl rfl rfl (LM.dr 47 rfl rfl rfl (LM.dr 47 rfl rfl rfl ?_))))
 refine LM.val (ov_pickF rfl rfl) ?_
 refine LM.mv rfl (LM.dr 53 rfl rfl rfl (LM.dr 53 rfl rfl rfl (LM.dr 53 rfl rfl rfl ?_)))
 refine LM.val (ov_pickF rfl rfl) ?_
 refine LM.mv rfl (LM.dr 58 rfl rfl rfl (LM.dr 58 rfl rfl rfl (LM.dr 58 rfl rfl rfl ?_)))
 refine LM.val (ov_pickF rfl rfl) ?_
 refine LM.mv rfl (LM.dr 63 rfl rfl rfl (LM.dr 63 rfl rfl rfl (LM.dr 63 rfl rfl rfl ?_)))
 refine LM.val (ov_pickF rfl rfl) ?_
 refine LM.as rfl ?_
 refine LM.nil (QM.sub (e' := [(0, _)]) ⟨rfl, trivial⟩ (QM.then ?_))
 refine wpM.ret ?_
 refine QM.leave (.inl rfl) [.tmp 0] Try.results42 rfl ?_
 intro w' hm' hc' hg'
 first | exact ⟨rfl, hc'⟩ | (exfalso; first | omega | (simp at *; done) | (simp_all; done))
end Go.Eng
namespace Go.Eng
open Go Go.Proofs Go.RowKit
theorem mem_pull {m mm mq rest : Mem0} {w : World} (hp : mm.Perm (mq ++ rest)) (h : Mem w (m ++ mm)) : Mem w (m ++ mq) := by
  have k := h.perm (hp.append_left m)
  rw [← List.append_assoc] at k
  exact k.sub (List.sublist_append_left _ _)
set_option maxRecDepth 100000 in
theorem same17_spec {n0 n1 b b2 : Nat} {qs : List Qm} {m m2 : Mem0} (a : Int) (w : World) (h : CrM n0 b qs m) (h2 : RcM n1 b2 qs m2) (hM : Mem w (m ++ m2)) : Ret Try.prog 61 #[.pointer (some ⟨b, 0, none⟩), .pointer (some ⟨b2, 0, none⟩), .int .i64 a] w (fun v w' => v = .bool true ∧ Ext w w') := by
 have hC := h; have hC2 := h2; obtain ⟨hw, ad, n, cap, bw, bg, esw, clw, esg, clg, lw, lg, ms, mm, bs, rfl, hn, hs, hq, hew, heg, hwh, hwg, hb, hbw, hbg⟩ := h; have hbl := hq.len; obtain ⟨hw2, ad2, n2, cap2, ms2, mm2, bs2, rfl, hn2, hs2, hq2, hb2⟩ := h2; have hbl2 := hq2.len; have hll := lds_len qs; have hlen := hw.len
 refine Ret.enterM (l := [.pointer (some ⟨b, 0, none⟩), .pointer (some ⟨b2, 0, none⟩), .int .i64 a]) Try.func61 rfl Try.ntmps61 rfl (coC b ad n cap bw bg :: (bw, .map esw clw) :: (bg, .map esg clg) :: (ms ++ (mm ++ (rcC b2 ad2 n2 cap2 :: (ms2 ++ (mm2 ++ [])))))) (no) (by simpa only [List.cons_append, List.append_assoc, List.append_nil] using hM) ?_
 refine wpM.seq (wpM.region ?_)
 refine LM.as rfl ?_
 refine LM.nil (QM.sub (e' := [(0, _), (1, _), (2, _)]) au9 (QM.then (wpM.seq (wpM.region ?_))))
 refine LM.mv rfl ?_
 refine LM.cS (oc_call (enters_fn Try.func47 (by kernel_rfl) rfl) rfl) (fun w hm hc hg => cLoads_r hC (by have h9 := hm.pick (coC b ad n cap bw bg :: (bw, .map esw clw) :: (bg, .map esg clg) :: (ms ++ (mm ++ []))); rw [List.append_nil] at h9; exact h9)) (fun ad11 n11 cap11 m11 hn11 hs11 => ?_)
 refine LM.as rfl ?_
 refine LM.nil (QM.sub (e' := [(0, _), (1, _), (2, _), (7, _)]) au9 (QM.then ?_))
 refine wpM.seq ?_
 refine wpM.seq ?_
 refine wpM.draw [(0, 0), (1, 0), (3, 0), (4, 0), (2, 2), (5, 2), (6, 0), (7, 0), (8, 0), (10, 0), (11, 0), (12, 0), (13, 1), (14, 0), (9, 2), (15, 0), (16, 0), (17, 0), (18, 0), (19, 0), (20, 0), (21, 0), (22, 0), (23, 1), (24, 0), (25, 0), (26, 0)] (by kernel_rfl) (by kernel_rfl) ?_
 refine LD.val rfl rfl (ov_move rfl) ?_
 refine LD.val rfl rfl (ov_move rfl) ?_
 refine LD.val rfl rfl (ov_move rfl) ?_
 refine LD.val rfl rfl (ov_move rfl) ?_
 refine LD.callE rfl rfl (oc_call (enters_fn Try.func49 (by kernel_rfl) rfl) rfl) (fun w hm hc hg => cOf_r hC (by have h9 := hm.pick (coC b ad n cap bw bg :: (bw, .map esw clw) :: (bg, .map esg clg) :: (ms ++ (mm ++ []))); rw [List.append_nil] at h9; exact h9) a) ?_
 refine LD.callE rfl rfl (oc_call (enters_fn Try.func60 (by kernel_rfl) rfl) rfl) (fun w hm hc hg => rcOf_spec a w hC2 (by have h9 := hm.pick (rcC b2 ad2 n2 cap2 :: (ms2 ++ (mm2 ++ []))); rw [List.append_nil] at h9; exact h9)) ?_
 refine LD.val rfl rfl (ov_neq rfl rfl) ?_
 refine LD.val rfl rfl (ov_move rfl) ?_
 refine LD.splitD (t := 19) rfl (fun h1 => ?_) (fun h1 => ?_)
 ·
  exact absurd rfl h1
 refine LD.val rfl ⟨19, _, rfl, rfl, rfl⟩ (ov_move rfl) ?_
 refine LD.val rfl ⟨19, _, rfl, rfl, rfl⟩ (ov_move rfl) ?_
 refine LD.val rfl ⟨19, _, rfl, rfl, rfl⟩ (ov_nilCheck rfl) ?_
 refine LD.val rfl ⟨19, _, rfl, rfl, rfl⟩ (ov_field Try.underlying82 rfl Try.sizeOf80 rfl (k := 0) rfl rfl) ?_
 refine LD.rd rfl ⟨19, _, rfl, rfl, rfl⟩ (om_ld Try.isAgg80 rfl rfl) ?_
 refine LD.val rfl ⟨19, _, rfl, rfl, rfl⟩ (ov_len Try.underlying80 rfl) ?_
 refine LD.callE rfl ⟨19, _, rfl, rfl, rfl⟩ (oc_call (enters_fn Try.func44 (by kernel_rfl) rfl) rfl) (fun w hm hc hg => cLen_r hC (by have h9 := hm.pick (coC b ad n cap bw bg :: (bw, .map esw clw) :: (bg, .map esg clg) :: (ms ++ (mm ++ []))); rw [List.append_nil] at h9; exact h9)) ?_
 refine LD.val rfl ⟨19, _, rfl, rfl, rfl⟩ (ov_neq rfl rfl) ?_
 refine LD.val rfl rfl (ov_pickF rfl rfl) ?_
 refine LD.val rfl rfl (ov_move rfl) ?_
 refine LD.splitD (t := 29) rfl (fun h2 => ?_) (fun h2 => ?_)
 ·
  exact absurd (by omega) h2
 refine LD.val rfl ⟨29, _, rfl, rfl, rfl⟩ (ov_move rfl) ?_
 refine LD.val rfl ⟨29, _, rfl, rfl, rfl⟩ (ov_len Try.underlying47 rfl) ?_
 refine LD.val rfl ⟨29, _, rfl, rfl, rfl⟩ (ov_move rfl) ?_
 refine LD.val rfl ⟨29, _, rfl, rfl, rfl⟩ (ov_nilCheck rfl) ?_
 refine LD.val rfl ⟨29, _, rfl, rfl, rfl⟩ (ov_field Try.underlying82 rfl Try.sizeOf80 rfl (k := 0) rfl rfl) ?_
 refine LD.rd rfl ⟨29, _, rfl, rfl, rfl⟩ (om_ld Try.isAgg80 rfl rfl) ?_
 refine LD.val rfl ⟨29, _, rfl, rfl, rfl⟩ (ov_len Try.underlying80 rfl) ?_
 refine LD.val rfl ⟨29, _, rfl, rfl, rfl⟩ (ov_neq rfl rfl) ?_
 refine LD.val rfl rfl (ov_pickF rfl rfl) ?_
 refine LD.nil ?_
 refine QM.sub (e' := [(0, _), (1, _), (7, _), (38, _)]) au9 (QM.then ?_)
 refine wpM.condD rfl (fun h3 => ?_) (fun h3 => ?_)
 ·
  exact absurd (by omega) h3
 refine wpM.skip ?_
 refine QM.then ?_
 refine wpM.seq ?_
 refine wpM.seq (wpM.region ?_)
 refine LM.mv rfl ?_
 refine LM.val (ov_nilCheck rfl) ?_
 refine LM.val (ov_field Try.underlying82 rfl Try.sizeOf80 rfl (k := 0) rfl rfl) ?_
 refine LM.rd (om_ld Try.isAgg80 rfl rfl) ?_
 refine LM.val (ov_len Try.underlying80 rfl) ?_
 refine LM.mv rfl ?_
 refine LM.nil (QM.sub (e' := [(0, _), (1, _), (7, _), (42, _), (43, _), (44, _)]) au9 (QM.then ?_))
 refine wpM.block ?_
 refine wpM.loopK0 (α := Nat) (fun i => [(44, .int .i64 (i : Nat))]) [(0, _), (1, _), (7, _), (42, _), (43, _)] (fun i => coC b ad n cap bw bg :: (bw, .map esw clw) :: (bg, .map esg clg) :: (ms ++ (mm ++ (rcC b2 ad2 n2 cap2 :: (ms2 ++ (mm2 ++ (m11 ++ []))))))) (fun i => i ≤ qs.length) (fun i => qs.length - i) (0) ⟨au2, rfl, rfl, rfl, rfl, rfl, trivial⟩ au1 (Nat.zero_le _) ?_
 rintro i hi
 change wpM _ _ _ _ _ _ _ (coC b ad n cap bw bg :: (bw, .map esw clw) :: (bg, .map esg clg) :: (ms ++ (mm ++ (rcC b2 ad2 n2 cap2 :: (ms2 ++ (mm2 ++ (m11 ++ []))))))) _ _ _
 refine wpM.seq (wpM.region ?_)
 refine LM.val (ov_lss rfl rfl) ?_
 refine LM.nil (QM.sub (e' := [(0, _), (1, _), (7, _), (42, _), (43, _), (44, _), (45, _)]) au9 (QM.then ?_))
 refine wpM.seq ?_
 refine wpM.condD rfl (fun h4 => ?_) (fun h4 => ?_)
 ·
  have hiq : i < qs.length := (by omega); have hlg := lds_get hiq; obtain ⟨mq, rest, hrq, hpl⟩ := hq2.pull hiq
  refine wpM.skip ?_
  refine QM.then ?_
  refine wpM.seq ?_
  refine wpM.block ?_
  refine wpM.seq (wpM.region ?_)
  refine LM.mv rfl ?_
  refine LM.val (ov_idxSN au6 Try.underlying80 Try.sizeOf51 rfl rfl (by omega)) ?_
  refine LM.rd (om_sl1 (by assumption) (by intro _; rfl) Try.isAgg51 rfl rfl au3 (by rfl)) ?_
  refine LM.as rfl (LM.as rfl ?_)
  refine LM.nil (QM.sub (e' := [(0, _), (1, _), (7, _), (8, _), (9, _), (42, _), (43, _), (44, _)]) au9 (QM.then ?_))
  refine wpM.seq ?_
  refine wpM.draw [(0, 0), (1, 0), (2, 0), (3, 1), (4, 0), (5, 2), (6, 0), (7, 0), (8, 0), (9, 0), (10, 0), (11, 2), (12, 0), (13, 0)] (by kernel_rfl) (by kernel_rfl) ?_
  refine LD.val rfl rfl (ov_move rfl) ?_
  refine LD.val rfl rfl (ov_move rfl) ?_
  refine LD.val rfl rfl (ov_idxSN au6 Try.underlying47 Try.sizeOf3 rfl rfl (by omega)) ?_
  refine LD.rd rfl rfl (om_sl1 (by assumption) (by intro _; rfl) Try.isAgg3 rfl rfl (by exact getq 0 au4) (by rfl)) ?_
  refine LD.val rfl rfl (ov_move rfl) ?_
  refine LD.callE rfl rfl (oc_call (enters_fn Try.func80 (by kernel_rfl) rfl) rfl) (fun w hm hc hg => hq2.read (i := i) (by omega) (hm.pick mm2) (fun m hr hM => rfLoad_spec w hr hM)) ?_
  refine LD.val rfl rfl (ov_neq rfl rfl) ?_
  refine LD.val rfl rfl (ov_move rfl) ?_
  refine LD.splitD (t := 56) rfl (fun h5 => ?_) (fun h5 => ?_)
  ·
   exact absurd hlg h5
  refine LD.val rfl ⟨56, _, rfl, rfl, rfl⟩ (ov_move rfl) ?_
  refine LD.val rfl ⟨56, _, rfl, rfl, rfl⟩ (ov_move rfl) ?_
  refine LD.val rfl ⟨56, _, rfl, rfl, rfl⟩ (ov_move rfl) ?_
  refine LD.callE rfl ⟨56, _, rfl, rfl, rfl⟩ (oc_call (enters_fn Try.func87 (by kernel_rfl) rfl) rfl) (fun w hm hc hg => sameQ_spec i w hC hiq hrq (mem_pull hpl (by have h9 := hm.pick (coC b ad n cap bw bg :: (bw, .map esw clw) :: (bg, .map esg clg) :: (ms ++ (mm ++ (mm2 ++ [])))); simpa only [List.cons_append, List.append_assoc, List.append_nil] using h9))) ?_
  first | refine LD.val rfl ⟨56, _, rfl, rfl, rfl⟩ (ov_notD rfl) ?_ | refine LD.val rfl ⟨56, _, rfl, rfl, rfl⟩ (ov_not rfl) ?_
  refine LD.val rfl rfl (ov_pickF rfl rfl) ?_
  refine LD.nil ?_
  refine QM.sub (e' := [(0, _), (1, _), (7, _), (42, _), (43, _), (44, _), (62, _)]) au9 (QM.then ?_)
  first | refine wpM.condD rfl (fun h6 => ?_) (fun h6 => ?_) | refine wpM.condB rfl (fun h6 => ?_) (fun h6 => ?_)
  ·
   refine wpM.seq (wpM.region ?_)
   refine LM.as rfl ?_
   refine LM.nil (QM.sub (e' := [(6, _)]) ⟨rfl, trivial⟩ (QM.then ?_))
   refine wpM.ret ?_
   refine QM.block_ret ?_
   refine QM.then_ret ?_
   refine QM.then_ret ?_
   refine QM.block_ret ?_
   refine QM.then_ret ?_
   refine QM.leave (.inl rfl) [.tmp 6] Try.results61 rfl ?_
   intro w' hm' hc' hg'
   first | exact ⟨rfl, hc'⟩ | (exfalso; first | omega | (simp at *; done) | (simp_all; done))
  refine wpM.skip ?_
  refine QM.block_normal ?_
  refine QM.then (wpM.region ?_)
  refine LM.val (ov_add64 rfl rfl (by omega)) ?_
  refine LM.mv rfl ?_
  refine LM.nil (QM.sub (e' := [(0, _), (1, _), (7, _), (42, _), (43, _), (44, _)]) au9 ?_)
  refine QM.againK (i + 1) ⟨au2, rfl, rfl, rfl, rfl, rfl, trivial⟩ au1 (fun _ h => h) ?_ ?_
  · omega
  · omega
 refine wpM.exit ?_
 refine QM.then_exit ?_
 refine QM.then_exit ?_
 refine QM.block_hit ?_
 refine QM.then (wpM.seq (wpM.region ?_))
 refine LM.mv rfl ?_
 refine LM.callE (oc_call (enters_fn Try.func54 (by kernel_rfl) rfl) rfl) (fun w hm hc hg => cQu_out (-1) w (by omega) (hm.pick (coC b ad n cap bw bg :: []))) ?_
 refine LM.val (ov_peql (by kernel_rfl) rfl rfl) ?_
 refine LM.mv rfl ?_
 first | refine LM.splitD (t := 67) rfl (fun h7 => ?_) (fun h7 => ?_) | refine LM.splitB (t := 67) rfl (fun h7 => ?_) (fun h7 => ?_)
 ·
  refine LM.sp 67 rfl rfl rfl (LM.mv rfl (LM.sp 67 rfl rfl rfl (LM.mv rfl (LM.sp 67 rfl rfl rfl ?_))))
  refine LM.val (ov_nilCheck rfl) ?_
  refine LM.sp 67 rfl rfl rfl (LM.val (ov_field Try.underlying82 rfl Try.sizeOf80 rfl (k := 0) rfl rfl) (LM.sp 67 rfl rfl rfl ?_))
  refine LM.rd (om_ld Try.isAgg80 rfl rfl) ?_
  refine LM.sp 67 rfl rfl rfl ?_
  refine LM.val (ov_len Try.underlying80 rfl) ?_
  refine LM.sp 67 rfl rfl rfl ?_
  refine LM.callE (oc_call (enters_fn Try.func54 (by kernel_rfl) rfl) rfl) (fun w hm hc hg => cQu_out (n2 : Nat) w (by omega) (hm.pick (coC b ad n cap bw bg :: []))) ?_
  refine LM.sp 67 rfl rfl rfl ?_
  refine LM.val (ov_peql (by kernel_rfl) rfl rfl) ?_
  refine LM.val (ov_pickT rfl rfl) ?_
  refine LM.as rfl ?_
  refine LM.nil (QM.sub (e' := [(6, _)]) ⟨rfl, trivial⟩ (QM.then ?_))
  refine wpM.ret ?_
  refine QM.leave (.inl rfl) [.tmp 6] Try.results61 rfl ?_
  intro w' hm' hc' hg'
  exact ⟨rfl, hc'⟩
 refine LM.dr 67 rfl rfl rfl (LM.dr 67 rfl rfl rfl (LM.dr 67 rfl rfl rfl (LM.dr 67 rfl rfl rfl (LM.dr 67 rfl rfl rfl (LM.dr 67 rfl rfl rfl ?_)))))
 refine LM.dr 67 rfl rfl rfl (LM.dr 67 rfl rfl rfl ?_)
 refine LM.val (ov_pickF rfl rfl) ?_
 refine LM.as rfl ?_
 refine LM.nil (QM.sub (e' := [(6, _)]) ⟨rfl, trivial⟩ (QM.then ?_))
 refine wpM.ret ?_
 refine QM.leave (.inl rfl) [.tmp 6] Try.results61 rfl ?_
 intro w' hm' hc' hg'
 first | exact ⟨rfl, hc'⟩ | (exfalso; first | omega | (simp at *; done) | (simp_all; done))
end Go.Eng
namespace Go.Eng
open Go Go.Proofs Go.RowKit
structure Dec where
  kind : Int
  core : Int
  id : Int
  V : BitVec 64
  W : Int
instance : Inhabited Dec := ⟨⟨0, 0, 0, 0#64, 0⟩⟩
def fDc (d : Dec) : List Value := [.int .u8 d.kind, .int .i64 d.core, .int .i64 d.id, U d.V, .int .i64 d.W]
section
variable {n0 b : Nat} {qs : List Qm} {m : Mem0} {w : World} (h : CrM n0 b qs m) (hn0 : n0 ≤ w.heap.size) (hM : Mem w m)
include h hn0 hM
theorem cAdd_r (core a : Int) (v : BitVec 64) (wt : Int) : Ret Try.prog 45 #[.pointer (some ⟨b, 0, none⟩), .int .i64 core, .int .i64 a, U v, .int .i64 wt] w (Upd m (fun u m' => u = .tuple #[U (cAddV qs core a v wt), .int .i64 (cAddE qs core a)] ∧ CrM n0 b (cAddX qs core a v wt) m') w) := by
  by_cases hc : core < 0 ∨ (qs.length : Int) ≤ core
  · exact cAdd_out core a v wt w h hc hM
  · obtain ⟨i, rfl⟩ : ∃ i : Nat, core = i := ⟨core.toNat, by omega⟩
    exact cAdd_in i a v wt w h (by omega) hn0 hM
theorem cMov_r (a core : Int) : Ret Try.prog 52 #[.pointer (some ⟨b, 0, none⟩), .int .i64 a, .int .i64 core] w (Upd m (fun u m' => u = .int .i64 (cMovE qs core a) ∧ CrM n0 b (cMovX qs core a) m') w) := by
  by_cases hc : core < 0 ∨ (qs.length : Int) ≤ core
  · exact cMove_out a core w h hc hn0 hM
  · obtain ⟨i, rfl⟩ : ∃ i : Nat, core = i := ⟨core.toNat, by omega⟩
    exact cMove_in a i w h (by omega) hn0 hM
theorem cWgh_r (a wt : Int) : Ret Try.prog 53 #[.pointer (some ⟨b, 0, none⟩), .int .i64 a, .int .i64 wt] w (Upd m (fun u m' => u = .bool (decide (ofN qs a < qs.length)) ∧ CrM n0 b (cWghX qs a wt) m') w) := by
  by_cases hof : ofN qs a < qs.length
  · exact cWgh_in a wt w h hof hn0 hM
  · exact cWgh_no a wt w h hof hM
end
theorem cRem_r {n0 b : Nat} {qs : List Qm} {m : Mem0} {w : World} (h : CrM n0 b qs m) (hM : Mem w m) (a : Int) : Ret Try.prog 50 #[.pointer (some ⟨b, 0, none⟩), .int .i64 a] w (Upd m (fun u m' => u = .tuple #[U (cRemV qs a), .bool (decide (ofN qs a < qs.length))] ∧ CrM n0 b (cRemX qs a) m') w) := by
  by_cases hof : ofN qs a < qs.length
  · exact cRem_in a w h hof hM
  · exact cRem_no a w h hof hM
theorem of_dec (qs : List Qm) (a : Int) : decide (ofN qs a < qs.length) = decide (ofO qs a ≥ 0) := decide_eq_decide.2 ⟨fun q => by rw [ofO_hit q]; omega, fun q => ofO_pos (by omega)⟩
theorem bal_dec {qs : List Qm} (h : CWf qs) : (balF qs).isSome = decide (balI qs ≥ 0) := by
  unfold balI
  cases hb : balF qs with
  | none => rfl
  | some t =>
    obtain ⟨h1, h2, h3, h4, h5, h6, h7⟩ := bal_some h hb
    have := (h.wf _ h5).pos t h1
    exact (decide_eq_true this).symm
theorem pik_same (x : Qm) : SameT x (pikQ x) := .of_l (by unfold pikQ; split <;> rfl)
theorem bak_same (x : Qm) : SameT x (bakQ x) := .of_l (by unfold bakQ; split <;> rfl)
theorem tick_same {x : Qm} (h : QWf x) : SameT x (tickQ x) := by
  have hwt := tick_wf h
  unfold tickQ at *
  by_cases hc : 0 ≤ x.cur
  · rw [if_pos hc] at hwt ⊢
    have hix := h.ix hc
    have hid : (x.l.getD (ixO x.l x.cur) default).id = x.cur := (ixO_hit hix).1
    have hm := mem_set_at h.nd hix (y := { x.l.getD (ixO x.l x.cur) default with V := addO (x.l.getD (ixO x.l x.cur) default).V (coreO (x.l.getD (ixO x.l x.cur) default).x) }) hid
    refine ⟨List.length_set, fun b => ?_, fun b hb => ?_⟩
    · unfold hasK; rw [ixO_lt, ixO_lt]
      constructor
      · rintro ⟨t, ht, rfl⟩
        rcases (hm t).1 ht with rfl | ⟨q, _⟩
        · exact ⟨_, (has_get hix).1, rfl⟩
        · exact ⟨t, q, rfl⟩
      · rintro ⟨t, ht, rfl⟩
        by_cases e : t.id = x.cur
        · exact ⟨_, (hm _).2 (.inl rfl), hid.trans e.symm⟩
        · exact ⟨t, (hm t).2 (.inr ⟨ht, e⟩), rfl⟩
    · by_cases e : b = x.cur
      · subst e
        have := gQ_eq hwt ((hm _).2 (.inl rfl))
        rw [show ({ x.l.getD (ixO x.l x.cur) default with V := addO (x.l.getD (ixO x.l x.cur) default).V (coreO (x.l.getD (ixO x.l x.cur) default).x) } : Kv).id = x.cur from hid] at this
        exact congrArg (·.x) this
      · obtain ⟨h1, h2⟩ := has_get hb
        have := gQ_eq hwt ((hm (gQ x.l b)).2 (.inr ⟨h1, by rw [h2]; exact e⟩))
        rw [h2] at this
        exact congrArg (·.x) this
  · rw [if_neg hc]; exact .refl x
def RzA (qs : List Qm) (B : Int) : Prop := ∀ j, j < qs.length → RzB (qg qs j) B
theorem RzA.mono {qs : List Qm} {B C : Int} (h : RzA qs B) (hc : B ≤ C) : RzA qs C := fun j hj => (h j hj).mono hc
theorem rza_set {qs : List Qm} {B : Int} (h : RzA qs B) {i : Nat} {x' : Qm} (hx : RzB x' B) : RzA (qs.set i x') B := fun j hj => by
  rw [List.length_set] at hj
  by_cases hi : i < qs.length
  · rw [qg_set hi]; split
    · exact hx
    · exact h j hj
  · rw [List.set_eq_of_length_le (by omega)]; exact h j hj
theorem rza_add {qs : List Qm} {B : Int} (h : RzA qs B) (core a : Int) (v : BitVec 64) (w : Int) : RzA (cAddX qs core a v w) B := by
  unfold cAddX; split
  · rename_i hE
    have hi : core.toNat < qs.length := by unfold cAddE at hE; split at hE; cases hE; omega
    exact rza_set h (h _ hi)
  · exact h
theorem rz_remQ {x : Qm} {B : Int} (h : RzB x B) (hB : 0 ≤ B) (a : Int) : RzB (remQ x a) B := by
  unfold remQ; split
  · exact ⟨fun _ => rfl, hB⟩
  · exact h
theorem rza_rem {qs : List Qm} {B : Int} (h : RzA qs B) (hB : 0 ≤ B) (a : Int) : RzA (cRemX qs a) B := by
  unfold cRemX; split
  · rename_i hof; exact rza_set h (rz_remQ (h _ hof) hB a)
  · exact h
theorem rza_car {qs : List Qm} {B : Int} (h : RzA qs B) (hB : 0 ≤ B) {a : Int} (hof : ofN qs a < qs.length) {to : Nat} (ht : to < qs.length) : RzA (carX qs a to) B :=
  rza_set (rza_set h (rz_remQ (h _ hof) hB a)) (h _ ht)
theorem rza_mov {qs : List Qm} {B : Int} (h : RzA qs B) (hB : 0 ≤ B) (core a : Int) : RzA (cMovX qs core a) B := by
  unfold cMovX; split
  · rename_i hE
    have h1 : ofN qs a < qs.length := Classical.byContradiction fun q => by unfold cMovE at hE; rw [if_pos q] at hE; cases hE
    have h2 : ¬ (core < 0 ∨ (qs.length : Int) ≤ core) := fun q => by unfold cMovE at hE; rw [if_neg (fun z => z h1), if_pos q] at hE; cases hE
    exact rza_car h hB h1 (by omega)
  · exact h
theorem rza_bal {qs : List Qm} (hw : CWf qs) {B : Int} (h : RzA qs B) (hB : 0 ≤ B) : RzA (balX qs) B := by
  unfold balX
  cases hb : balF qs with
  | none => exact h
  | some t =>
    obtain ⟨h1, h2, h3, h4, h5, h6, h7⟩ := bal_some hw hb
    exact rza_car h hB (by rw [h4]; exact h5) h6
theorem rza_wgh {qs : List Qm} (hw : CWf qs) {B : Int} (h : RzA qs B) (hB : 8 ≤ B) (a w : Int) : RzA (cWghX qs a w) B := by
  unfold cWghX; split
  · rename_i hof; exact rza_set h (rz_weigh (hw.wf _ hof) (h _ hof) hB a w)
  · exact h
theorem rza_setN {qs : List Qm} {B : Int} (h : RzA qs B) : ∀ i, i ≤ qs.length → RzA (setN qs i) B
  | 0, _ => h
  | i + 1, hi => rza_set (rza_setN h i (by omega)) (rz_setl (rza_setN h i (by omega) i (by rw [setN_len]; omega)))
theorem rza_new (k g : Int) : RzA (newQs k g) 8 := fun j hj => by
  rw [newQs_len] at hj; rw [newQs, qg_rep hj]; exact ⟨fun _ => rfl, by show (0 : Int) ≤ 8; decide⟩
theorem crm_set {n0 b n cap bw bg clw clg : Nat} {ad : Option Addr} {esw esg : Array MapEntry} {lw lg : List (Int × Value)} {ms mm' : Mem0} {bs : List Nat} {qs : List Qm} {c : Nat} {x' : Qm} (hw : CWf qs) (hc : c < qs.length) (hx : QWf x') (hsm : SameT (qg qs c) x') (hn : n = qs.length) (hs : Sl fP 24 1 n0 bs (.slice ad n cap) ms) (hq' : QqM RqM n0 bs (qs.set c x') mm') (hew : EnsS .i64 esw clw lw) (heg : EnsS .i64 esg clg lg) (hwh : Wh lw qs) (hwg : Wg lg qs) (hb : n0 ≤ b) (hbw : n0 ≤ bw) (hbg : n0 ≤ bg) :
    CrM n0 b (qs.set c x') (coC b ad n cap bw bg :: (bw, .map esw clw) :: (bg, .map esg clg) :: (ms ++ mm')) :=
  ⟨cwf_same hw hc hx hsm, ad, n, cap, bw, bg, esw, clw, esg, clg, lw, lg, ms, mm', bs, rfl, by rw [List.length_set]; exact hn, hs, hq', hew, heg, wh_same hc hsm hwh, wg_same hc hsm hwg, hb, hbw, hbg⟩
theorem rcm_set {n0 b n cap : Nat} {ad : Option Addr} {ms mm' : Mem0} {bs : List Nat} {qs' : List Qm} (hw : CWf qs') (hn : n = qs'.length) (hs : Sl fP 51 1 n0 bs (.slice ad n cap) ms) (hq' : QqM RfM n0 bs qs' mm') (hb : n0 ≤ b) :
    RcM n0 b qs' (rcC b ad n cap :: (ms ++ mm')) := ⟨hw, ad, n, cap, ms, mm', bs, rfl, hn, hs, hq', hb⟩
set_option maxRecDepth 100000 in
theorem rdb_forelocklaw17_Deed : Rdb Try.prog 79 fDc (fun a => (0 ≤ a.kind ∧ a.kind ≤ 255) ∧ (-9223372036854775808 ≤ a.core ∧ a.core ≤ 9223372036854775807) ∧ (-9223372036854775808 ≤ a.id ∧ a.id ≤ 9223372036854775807) ∧ (-9223372036854775808 ≤ a.W ∧ a.W ≤ 9223372036854775807)) := fun {H enc w base sp held fuel cs x} h => by
  obtain ⟨h1, h2⟩ := trod_fields Try.underlying79 h
  rw [show Try.prog.cellsOf 79 = 5 by kernel_rfl] at h1
  have c3 : Try.prog.cellsOf 3 = 1 := by kernel_rfl
  have c5 : Try.prog.cellsOf 5 = 1 := by kernel_rfl
  have c26 : Try.prog.cellsOf 26 = 1 := by kernel_rfl
  match cs, h1 with
  | [a0, a1, a2, a3, a4], _ =>
    simp only [List.forall_mem_cons, c3, c5, c26, List.drop_succ_cons, List.drop_zero, List.take_succ_cons, List.take_zero] at h2
    obtain ⟨⟨_, _, f0⟩, ⟨_, _, f1⟩, ⟨_, _, f2⟩, ⟨_, _, f3⟩, ⟨_, _, f4⟩, _⟩ := h2
    obtain ⟨m0, e0, _, w0⟩ := DataW.trod_int Try.underlying5 f0
    obtain ⟨m1, e1, _, w1⟩ := DataW.trod_int Try.underlying3 f1
    obtain ⟨m2, e2, _, w2⟩ := DataW.trod_int Try.underlying3 f2
    obtain ⟨m3, e3, _, w3⟩ := DataW.trod_int Try.underlying26 f3
    obtain ⟨m4, e4, _, w4⟩ := DataW.trod_int Try.underlying3 f4
    obtain ⟨x3, rfl⟩ := bv_of (bounds_u64 w3)
    simp only [List.cons.injEq, and_true] at e0 e1 e2 e3 e4
    subst e0
    subst e1
    subst e2
    subst e3
    subst e4
    exact ⟨⟨m0, m1, m2, x3, m4⟩, rfl, ⟨bounds_u8 w0, bounds_i64 w1, bounds_i64 w2, bounds_i64 w4⟩⟩
set_option maxRecDepth 100000 in
set_option maxHeartbeats 4000000 in
theorem coresRuns {l : List Dec} {ad0 : Option Addr} {n0 cap0 : Nat} (k g : Int) (w : World) (hn0 : n0 = l.length) (hl : Sr fDc 5 l (.slice ad0 n0 cap0) w) (hk : ∀ d ∈ l, 0 ≤ d.kind ∧ d.kind ≤ 255) : Ret Try.prog 10 #[.agg #[.int .i64 k, .int .i64 g], .slice ad0 n0 cap0] w (fun v w' => v = .bool true ∧ Ext w w') := by
 refine Ret.enterM (l := [.agg #[.int .i64 k, .int .i64 g], .slice ad0 n0 cap0]) Try.func10 rfl Try.ntmps10 rfl ([]) (no) (Mem.nil w) ?_
 refine wpM.seq (wpM.region ?_)
 refine LM.box rfl rfl (fun b2 hb2 => ?_)
 refine LM.as rfl ?_
 refine LM.nil (QM.sub (e' := [(1, _), (2, _)]) au9 (QM.then ?_))
 refine wpM.seq ?_
 refine wpM.seq (wpM.region ?_)
 refine LM.callE (oc_call (enters_fn Try.func42 (by kernel_rfl) rfl) rfl) (fun w hm hc hg => awake17_spec w) ?_
 first | refine LM.val (ov_notD rfl) ?_ | refine LM.val (ov_not rfl) ?_
 refine LM.nil (QM.sub (e' := [(1, _), (2, _), (30, _)]) au9 (QM.then ?_))
 first | refine wpM.condD rfl (fun h1 => ?_) (fun h1 => ?_) | refine wpM.condB rfl (fun h1 => ?_) (fun h1 => ?_)
 ·
  cases h1
 refine wpM.skip ?_
 refine QM.then ?_
 refine wpM.seq ?_
 refine wpM.seq (wpM.region ?_)
 refine LM.mv rfl ?_
 refine LM.val (ov_len Try.underlying75 rfl) ?_
 refine LM.val (ov_gtr rfl rfl) ?_
 refine LM.nil (QM.sub (e' := [(1, _), (2, _), (33, _)]) au9 (QM.then ?_))
 refine wpM.condD rfl (fun h2 => ?_) (fun h2 => ?_)
 ·
  refine wpM.seq (wpM.region ?_)
  refine LM.as rfl ?_
  refine LM.nil (QM.sub (e' := [(4, _)]) ⟨rfl, trivial⟩ (QM.then ?_))
  refine wpM.ret ?_
  refine QM.then_ret ?_
  refine QM.leave (.inl rfl) [.tmp 4] Try.results10 rfl ?_
  intro w' hm' hc' hg'
  exact ⟨rfl, hc'⟩
 refine wpM.skip ?_
 refine QM.then ?_
 refine wpM.seq ?_
 refine wpM.draw [(0, 0), (1, 1), (2, 0), (3, 1), (5, 0), (6, 1), (7, 0), (8, 1), (4, 2), (9, 2), (10, 0), (11, 0)] (by kernel_rfl) (by kernel_rfl) ?_
 first | refine LD.val rfl rfl (ov_idxAN Try.underlying74 Try.sizeOf3 rfl rfl (by omega)) ?_ | refine LD.val rfl rfl (ov_idxA Try.underlying74 Try.sizeOf3 rfl rfl (by omega)) ?_
 first | refine LD.rd rfl rfl (om_ldE1 (by intro _; rfl) Try.isAgg3 rfl rfl rfl (getq 0 (by omega)) (by rfl)) ?_ | refine LD.rd rfl rfl (om_ld Try.isAgg3 rfl rfl) ?_
 first | refine LD.val rfl rfl (ov_idxAN Try.underlying74 Try.sizeOf3 rfl rfl (by omega)) ?_ | refine LD.val rfl rfl (ov_idxA Try.underlying74 Try.sizeOf3 rfl rfl (by omega)) ?_
 first | refine LD.rd rfl rfl (om_ldE1 (by intro _; rfl) Try.isAgg3 rfl rfl rfl (getq 0 (by omega)) (by rfl)) ?_ | refine LD.rd rfl rfl (om_ld Try.isAgg3 rfl rfl) ?_
 first | refine LD.val rfl rfl (ov_idxAN Try.underlying74 Try.sizeOf3 rfl rfl (by omega)) ?_ | refine LD.val rfl rfl (ov_idxA Try.underlying74 Try.sizeOf3 rfl rfl (by omega)) ?_
 first | refine LD.rd rfl rfl (om_ldE1 (by intro _; rfl) Try.isAgg3 rfl rfl rfl (getq 0 (by omega)) (by rfl)) ?_ | refine LD.rd rfl rfl (om_ld Try.isAgg3 rfl rfl) ?_
 first | refine LD.val rfl rfl (ov_idxAN Try.underlying74 Try.sizeOf3 rfl rfl (by omega)) ?_ | refine LD.val rfl rfl (ov_idxA Try.underlying74 Try.sizeOf3 rfl rfl (by omega)) ?_
 first | refine LD.rd rfl rfl (om_ldE1 (by intro _; rfl) Try.isAgg3 rfl rfl rfl (getq 0 (by omega)) (by rfl)) ?_ | refine LD.rd rfl rfl (om_ld Try.isAgg3 rfl rfl) ?_
 refine LD.callT rfl rfl (oc_call (enters_fn Try.func43 (by kernel_rfl) rfl) rfl) CrN.mono (fun w hm hc hg => cNew_spec k g w) ?_
 rintro u38 m38 ⟨bc, rfl, h38⟩ hge38
 refine LD.callT rfl rfl (oc_call (enters_fn Try.func55 (by kernel_rfl) rfl) rfl) RcN.mono (fun w hm hc hg => rcNew_spec k g w) ?_
 rintro u43 m43 ⟨bf, rfl, h43⟩ hge43
 refine LD.val rfl rfl (ov_assign rfl) ?_
 refine LD.val rfl rfl (ov_assign rfl) ?_
 refine LD.nil ?_
 refine QM.sub (e' := [(1, _), (5, _), (6, _)]) au9 (QM.then ?_)
 refine wpM.seq ?_
 refine wpM.seq (wpM.region ?_)
 refine LM.mv rfl ?_
 refine LM.val (ov_len Try.underlying75 rfl) ?_
 refine LM.mv rfl ?_
 refine LM.nil (QM.sub (e' := [(5, _), (6, _), (44, _), (45, _), (46, _)]) au9 (QM.then ?_))
 refine wpM.block ?_
 refine wpM.loopK0 (α := Nat × List Qm × Mem0 × Mem0) (fun ⟨i, qs, mc, mw⟩ => [(46, .int .i64 (i : Nat))]) [(5, _), (6, _), (44, _), (45, _)] (fun ⟨i, qs, mc, mw⟩ => mc ++ (mw ++ [])) (fun ⟨i, qs, mc, mw⟩ => i ≤ l.length ∧ CrM w.heap.size bc qs mc ∧ RcM w.heap.size bf qs mw ∧ RzA qs (8 + i)) (fun ⟨i, qs, mc, mw⟩ => l.length - i) ((0, newQs k g, m38, m43)) ⟨au2, rfl, rfl, rfl, rfl, trivial⟩ au1 ⟨Nat.zero_le _, h38, h43, (rza_new k g).mono (by omega)⟩ ?_
 rintro ⟨i, qs, mc, mw⟩ ⟨hi, hC, hF, hz⟩
 change wpM _ _ _ _ _ _ _ (mc ++ (mw ++ [])) _ _ _
 have hC0 := hC; have hF0 := hF; obtain ⟨hw, ad, n, cap, bw, bg, esw, clw, esg, clg, lw, lg, ms, mm, bs, rfl, hn, hs, hq, hew, heg, hwh, hwg, hb, hbw, hbg⟩ := hC; have hbl := hq.len; obtain ⟨hw2, ad2, n2, cap2, ms2, mm2, bs2, rfl, hn2, hs2, hq2, hb2⟩ := hF; have hbl2 := hq2.len; have hlen := hw.len; refine wpM.mem (M' := coC bc ad n cap bw bg :: (bw, .map esw clw) :: (bg, .map esg clg) :: (ms ++ (mm ++ (rcC bf ad2 n2 cap2 :: (ms2 ++ (mm2 ++ [])))))) (fun w hm => by simpa only [List.cons_append, List.append_assoc] using hm) ?_
 refine wpM.seq (wpM.region ?_)
 refine LM.val (ov_lss rfl rfl) ?_
 refine LM.nil (QM.sub (e' := [(5, _), (6, _), (44, _), (45, _), (46, _), (47, _)]) au9 (QM.then ?_))
 refine wpM.seq ?_
 refine wpM.condD rfl (fun h3 => ?_) (fun h3 => ?_)
 ·
  have hkd := hk (l.getD i default) (by rw [List.getD_eq_getElem?_getD, List.getElem?_eq_getElem (by omega : i < l.length)]; exact List.getElem_mem _)
  refine wpM.skip ?_
  refine QM.then ?_
  refine wpM.seq ?_
  refine wpM.block ?_
  refine wpM.seq (wpM.region ?_)
  refine LM.val (ov_idxSN au6 Try.underlying75 Try.sizeOf79 rfl rfl (by omega)) ?_
  first | refine LM.rd (om_slA (by assumption) (by intro _; rfl) Try.isAgg79 Try.sizeOf79 rfl au3) ?_ | refine LM.rdC (om_srEA (by assumption) (by intro _; rfl) Try.isAgg79 Try.sizeOf79 rfl au3 id) ?_ | refine LM.rd (om_ldW Try.isAgg79 Try.sizeOf79 rfl rfl) ?_ | refine LM.rd (om_ldA Try.isAgg79 Try.sizeOf79 rfl (vs := [_, _, _, _, _]) rfl ⟨rfl, rfl, rfl, rfl, rfl, trivial⟩) ?_
  refine LM.alloc Try.zeroValue79 rfl (fun b8 hb8 => ?_)
  refine LM.stW Try.sizeOf79 rfl rfl rfl rfl au7 au8 ?_
  refine LM.nil (QM.sub (e' := [(5, _), (6, _), (8, _), (44, _), (45, _), (46, _)]) au9 (QM.then (wpM.seq (wpM.region ?_))))
  refine LM.as rfl ?_
  refine LM.nil (QM.sub (e' := [(5, _), (6, _), (8, _), (9, _), (44, _), (45, _), (46, _)]) au9 (QM.then ?_))
  refine wpM.seq ?_
  refine wpM.joinK (α := Unit) (fun ⟨⟩ => [(10, .bool (decide (0 ≤ (l.getD i default).core ∧ (l.getD i default).core < (qs.length : Int))))]) [(5, _), (6, _), (8, _), (9, _), (44, _), (45, _), (46, _)] (fun ⟨⟩ => (b8, .cells (fDc (l.getD i default)).toArray 79 (0, 0)) :: coC bc ad n cap bw bg :: (bw, .map esw clw) :: (bg, .map esg clg) :: (ms ++ (mm ++ (rcC bf ad2 n2 cap2 :: (ms2 ++ (mm2 ++ [])))))) (fun ⟨⟩ => True) ⟨rfl, rfl, rfl, rfl, rfl, rfl, rfl, trivial⟩ ?_ ?_
  ·
   refine wpM.draw [(0, 0), (1, 1), (2, 0), (3, 0), (4, 0), (5, 1), (6, 0), (7, 0), (8, 0), (9, 1), (10, 0), (11, 0), (12, 0), (13, 0)] (by kernel_rfl) (by kernel_rfl) ?_
   refine LD.val rfl rfl (ov_field Try.underlying79 rfl Try.sizeOf3 rfl (k := 1) rfl rfl) ?_
   refine LD.rd rfl rfl (om_ld Try.isAgg3 rfl rfl) ?_
   refine LD.val rfl rfl (ov_geq rfl rfl) ?_
   refine LD.val rfl rfl (ov_move rfl) ?_
   refine LD.splitD (t := 53) rfl (fun h4 => ?_) (fun h4 => ?_)
   ·
    refine LD.val rfl ⟨53, _, rfl, rfl, rfl⟩ (ov_field Try.underlying79 rfl Try.sizeOf3 rfl (k := 1) rfl rfl) ?_
    refine LD.rd rfl ⟨53, _, rfl, rfl, rfl⟩ (om_ld Try.isAgg3 rfl rfl) ?_
    refine LD.val rfl ⟨53, _, rfl, rfl, rfl⟩ (ov_move rfl) ?_
    refine LD.val rfl ⟨53, _, rfl, rfl, rfl⟩ (ov_nilCheck rfl) ?_
    refine LD.val rfl ⟨53, _, rfl, rfl, rfl⟩ (ov_field Try.underlying82 rfl Try.sizeOf80 rfl (k := 0) rfl rfl) ?_
    refine LD.rd rfl ⟨53, _, rfl, rfl, rfl⟩ (om_ld Try.isAgg80 rfl rfl) ?_
    refine LD.val rfl ⟨53, _, rfl, rfl, rfl⟩ (ov_len Try.underlying80 rfl) ?_
    refine LD.val rfl ⟨53, _, rfl, rfl, rfl⟩ (ov_lss rfl rfl) ?_
    refine LD.val rfl rfl (ov_pickT rfl rfl) ?_
    refine LD.val rfl rfl (ov_assign rfl) ?_
    refine LD.nil ?_
    refine QM.sub (e' := [(5, _), (6, _), (8, _), (9, _), (10, _), (44, _), (45, _), (46, _)]) au9 ?_
    refine QM.meetK (⟨⟩) ⟨(by first | exact lk rfl (congrArg Value.bool (decide_eq_decide.2 ⟨fun q => by omega, fun q => by omega⟩)) | exact lk rfl (congrArg Value.bool (decide_eq_false (fun q => by omega))).symm | exact lk rfl (congrArg Value.bool (decide_eq_false (fun q => by omega)).symm)), rfl, rfl, rfl, rfl, rfl, rfl, rfl, trivial⟩ au1 ?_
    · trivial
   refine LD.drop rfl rfl ⟨53, _, rfl, rfl, rfl⟩ ?_
   refine LD.drop rfl rfl ⟨53, _, rfl, rfl, rfl⟩ ?_
   refine LD.drop rfl rfl ⟨53, _, rfl, rfl, rfl⟩ ?_
   refine LD.drop rfl rfl ⟨53, _, rfl, rfl, rfl⟩ ?_
   refine LD.drop rfl rfl ⟨53, _, rfl, rfl, rfl⟩ ?_
   refine LD.drop rfl rfl ⟨53, _, rfl, rfl, rfl⟩ ?_
   refine LD.drop rfl rfl ⟨53, _, rfl, rfl, rfl⟩ ?_
   refine LD.drop rfl rfl ⟨53, _, rfl, rfl, rfl⟩ ?_
   refine LD.val rfl rfl (ov_pickF rfl rfl) ?_
   refine LD.val rfl rfl (ov_assign rfl) ?_
   refine LD.nil ?_
   refine QM.sub (e' := [(5, _), (6, _), (8, _), (9, _), (10, _), (44, _), (45, _), (46, _)]) au9 ?_
   refine QM.meetK (⟨⟩) ⟨(by first | exact lk rfl (congrArg Value.bool (decide_eq_decide.2 ⟨fun q => by omega, fun q => by omega⟩)) | exact lk rfl (congrArg Value.bool (decide_eq_false (fun q => by omega))).symm | exact lk rfl (congrArg Value.bool (decide_eq_false (fun q => by omega)).symm)), rfl, rfl, rfl, rfl, rfl, rfl, rfl, trivial⟩ au1 ?_
   · trivial
  rintro ⟨⟩ -
  change QM _ _ _ _ _ ((b8, .cells (fDc (l.getD i default)).toArray 79 (0, 0)) :: coC bc ad n cap bw bg :: (bw, .map esw clw) :: (bg, .map esg clg) :: (ms ++ (mm ++ (rcC bf ad2 n2 cap2 :: (ms2 ++ (mm2 ++ [])))))) _ _ _
  refine QM.then ?_
  refine wpM.seq ?_
  refine wpM.seq (wpM.region ?_)
  refine LM.val (ov_field Try.underlying79 rfl Try.sizeOf5 rfl (k := 0) rfl rfl) ?_
  refine LM.rd (om_ld Try.isAgg5 rfl rfl) ?_
  first | refine LM.val (ov_remK rfl rfl (by omega) (by omega)) ?_ | refine LM.val (ov_remJ rfl rfl (by omega) (by omega)) ?_
  refine LM.nil (QM.sub (e' := [(5, _), (6, _), (8, _), (9, _), (10, _), (44, _), (45, _), (46, _), (65, _)]) au9 (QM.then ?_))
  refine wpM.joinK (α := List Qm × Mem0 × Mem0) (fun ⟨ys, mc2, mw2⟩ => [(9, .bool true)]) [(5, _), (6, _), (8, _), (44, _), (45, _), (46, _)] (fun ⟨ys, mc2, mw2⟩ => (b8, .cells (fDc (l.getD i default)).toArray 79 (0, 0)) :: (mc2 ++ (mw2 ++ []))) (fun ⟨ys, mc2, mw2⟩ => CrM w.heap.size bc ys mc2 ∧ RcM w.heap.size bf ys mw2 ∧ RzA ys (8 + i + 1)) ⟨rfl, rfl, rfl, rfl, rfl, rfl, trivial⟩ ?_ ?_
  ·
   refine wpM.block ?_
   refine wpM.seq (wpM.region ?_)
   refine LM.val (ov_eql rfl rfl) ?_
   refine LM.as rfl ?_
   refine LM.nil (QM.sub (e' := [(5, _), (6, _), (8, _), (9, _), (10, _), (44, _), (45, _), (46, _), (65, _), (81, _)]) au9 (QM.then ?_))
   refine wpM.condD rfl (fun h5 => ?_) (fun h5 => ?_)
   ·
    refine wpM.seq (wpM.region ?_)
    refine LM.mv rfl (LM.val (ov_field Try.underlying79 rfl Try.sizeOf3 rfl (k := 1) rfl rfl) ?_)
    refine LM.rd (om_ld Try.isAgg3 rfl rfl) ?_
    refine LM.val (ov_field Try.underlying79 rfl Try.sizeOf3 rfl (k := 2) rfl rfl) ?_
    refine LM.rd (om_ld Try.isAgg3 rfl rfl) ?_
    refine LM.val (ov_field Try.underlying79 rfl Try.sizeOf26 rfl (k := 3) rfl rfl) ?_
    refine LM.rd (om_ld Try.isAgg26 rfl rfl) ?_
    refine LM.val (ov_field Try.underlying79 rfl Try.sizeOf3 rfl (k := 4) rfl rfl) ?_
    refine LM.rd (om_ld Try.isAgg3 rfl rfl) ?_
    refine LM.cU (oc_call (enters_fn Try.func45 (by kernel_rfl) rfl) rfl) (fun w hm hc hg => cAdd_r hC0 hc.size (by have h9 := hm.pick (coC bc ad n cap bw bg :: (bw, .map esw clw) :: (bg, .map esg clg) :: (ms ++ (mm ++ []))); rw [List.append_nil] at h9; exact h9) (l.getD i default).core (l.getD i default).id (l.getD i default).V (l.getD i default).W) hC0.wlk (fun p hp hlt => absurd hlt (Nat.not_lt_of_le (hC0.ge p hp))) ?_
    rintro u93 m93 ⟨rfl, g93⟩ -
    refine LM.mv rfl ?_
    refine LM.val (ov_extract rfl rfl) ?_
    refine LM.val (ov_extract rfl rfl) ?_
    refine LM.as rfl (LM.as rfl ?_)
    refine LM.nil (QM.sub (e' := [(5, _), (6, _), (8, _), (11, _), (12, _), (44, _), (45, _), (46, _)]) au9 (QM.then (wpM.seq (wpM.region ?_))))
    refine LM.mv rfl (LM.val (ov_field Try.underlying79 rfl Try.sizeOf3 rfl (k := 1) rfl rfl) ?_)
    refine LM.rd (om_ld Try.isAgg3 rfl rfl) ?_
    refine LM.val (ov_field Try.underlying79 rfl Try.sizeOf3 rfl (k := 2) rfl rfl) ?_
    refine LM.rd (om_ld Try.isAgg3 rfl rfl) ?_
    refine LM.val (ov_field Try.underlying79 rfl Try.sizeOf26 rfl (k := 3) rfl rfl) ?_
    refine LM.rd (om_ld Try.isAgg26 rfl rfl) ?_
    refine LM.val (ov_field Try.underlying79 rfl Try.sizeOf3 rfl (k := 4) rfl rfl) ?_
    refine LM.rd (om_ld Try.isAgg3 rfl rfl) ?_
    refine LM.cU (oc_call (enters_fn Try.func56 (by kernel_rfl) rfl) rfl) (fun w hm hc hg => rcAdd_spec (l.getD i default).core (l.getD i default).id (l.getD i default).V (l.getD i default).W w hF0 hc.size (by have h9 := hm.pick (rcC bf ad2 n2 cap2 :: (ms2 ++ (mm2 ++ []))); rw [List.append_nil] at h9; exact h9)) hF0.wlk (fun p hp hlt => absurd hlt (Nat.not_lt_of_le (hF0.ge p hp))) ?_
    rintro u106 m106 ⟨rfl, g106⟩ -
    refine LM.mv rfl ?_
    refine LM.val (ov_extract rfl rfl) ?_
    refine LM.val (ov_extract rfl rfl) ?_
    refine LM.as rfl (LM.as rfl ?_)
    refine LM.nil (QM.sub (e' := [(5, _), (6, _), (8, _), (11, _), (12, _), (13, _), (14, _), (44, _), (45, _), (46, _)]) au9 (QM.then (wpM.region ?_)))
    refine LM.mv rfl (LM.mv rfl ?_)
    refine LM.val (ov_ueql rfl rfl) ?_
    refine LM.mv rfl ?_
    refine LM.splitD (t := 112) rfl (fun h6 => ?_) (fun h6 => ?_)
    ·
     refine LM.sp 112 rfl rfl rfl (LM.mv rfl (LM.sp 112 rfl rfl rfl (LM.mv rfl (LM.sp 112 rfl rfl rfl ?_))))
     refine LM.val (ov_eql rfl rfl) ?_
     refine LM.val (ov_pickT rfl rfl) ?_
     refine LM.as rfl ?_
     refine LM.nil (QM.sub (e' := [(5, _), (6, _), (8, _), (9, _), (44, _), (45, _), (46, _)]) au9 ?_)
     refine QM.block_normal ?_
     refine QM.meetK (cAddX qs (l.getD i default).core (l.getD i default).id (l.getD i default).V (l.getD i default).W, m93, m106) ⟨(by first | rfl | exact lk rfl (congrArg Value.bool (decide_eq_true rfl)) | exact lk rfl (congrArg Value.bool (beq_self_eq_true _)) | exact lk rfl (congrArg Value.bool (by simp))), rfl, rfl, rfl, rfl, rfl, rfl, trivial⟩ au1 ?_
     · exact ⟨g93, g106, (rza_add hz _ _ _ _).mono (by omega)⟩
    exact absurd rfl h6
   refine wpM.seq (wpM.region ?_)
   refine LM.val (ov_eql rfl rfl) ?_
   refine LM.as rfl ?_
   refine LM.nil (QM.sub (e' := [(5, _), (6, _), (8, _), (9, _), (10, _), (44, _), (45, _), (46, _), (65, _), (117, _)]) au9 (QM.then ?_))
   refine wpM.condD rfl (fun h7 => ?_) (fun h7 => ?_)
   ·
    refine wpM.seq (wpM.region ?_)
    refine LM.mv rfl (LM.val (ov_field Try.underlying79 rfl Try.sizeOf3 rfl (k := 2) rfl rfl) ?_)
    refine LM.rd (om_ld Try.isAgg3 rfl rfl) ?_
    refine LM.cU (oc_call (enters_fn Try.func50 (by kernel_rfl) rfl) rfl) (fun w hm hc hg => cRem_r hC0 (by have h9 := hm.pick (coC bc ad n cap bw bg :: (bw, .map esw clw) :: (bg, .map esg clg) :: (ms ++ (mm ++ []))); rw [List.append_nil] at h9; exact h9) (l.getD i default).id) hC0.wlk (fun p hp hlt => absurd hlt (Nat.not_lt_of_le (hC0.ge p hp))) ?_
    rintro u123 m123 ⟨rfl, g123⟩ -
    refine LM.mv rfl ?_
    refine LM.val (ov_extract rfl rfl) ?_
    refine LM.val (ov_extract rfl rfl) ?_
    refine LM.as rfl (LM.as rfl ?_)
    refine LM.nil (QM.sub (e' := [(5, _), (6, _), (8, _), (15, _), (16, _), (44, _), (45, _), (46, _)]) au9 (QM.then (wpM.seq (wpM.region ?_))))
    refine LM.mv rfl (LM.val (ov_field Try.underlying79 rfl Try.sizeOf3 rfl (k := 2) rfl rfl) ?_)
    refine LM.rd (om_ld Try.isAgg3 rfl rfl) ?_
    refine LM.cU (oc_call (enters_fn Try.func57 (by kernel_rfl) rfl) rfl) (fun w hm hc hg => rcRem_spec (l.getD i default).id w hF0 hc.size (by have h9 := hm.pick (rcC bf ad2 n2 cap2 :: (ms2 ++ (mm2 ++ []))); rw [List.append_nil] at h9; exact h9)) hF0.wlk (fun p hp hlt => absurd hlt (Nat.not_lt_of_le (hF0.ge p hp))) ?_
    rintro u130 m130 ⟨rfl, g130⟩ -
    refine LM.mv rfl ?_
    refine LM.val (ov_extract rfl rfl) ?_
    refine LM.val (ov_extract rfl rfl) ?_
    refine LM.as rfl (LM.as rfl ?_)
    refine LM.nil (QM.sub (e' := [(5, _), (6, _), (8, _), (15, _), (16, _), (17, _), (18, _), (44, _), (45, _), (46, _)]) au9 (QM.then (wpM.region ?_)))
    refine LM.mv rfl (LM.mv rfl ?_)
    refine LM.val (ov_ueql rfl rfl) ?_
    refine LM.mv rfl ?_
    refine LM.splitD (t := 136) rfl (fun h8 => ?_) (fun h8 => ?_)
    ·
     refine LM.sp 136 rfl rfl rfl (LM.mv rfl (LM.sp 136 rfl rfl rfl (LM.mv rfl (LM.sp 136 rfl rfl rfl ?_))))
     refine LM.val (ov_beql Try.underlying4 rfl rfl) ?_
     refine LM.val (ov_pickT rfl rfl) ?_
     refine LM.as rfl ?_
     refine LM.nil (QM.sub (e' := [(5, _), (6, _), (8, _), (9, _), (44, _), (45, _), (46, _)]) au9 ?_)
     refine QM.block_normal ?_
     refine QM.meetK (cRemX qs (l.getD i default).id, m123, m130) ⟨(by first | rfl | exact lk rfl (congrArg Value.bool (decide_eq_true rfl)) | exact lk rfl (congrArg Value.bool (beq_self_eq_true _)) | exact lk rfl (congrArg Value.bool (by simp))), rfl, rfl, rfl, rfl, rfl, rfl, trivial⟩ au1 ?_
     · exact ⟨g123, g130, (rza_rem hz (by omega) _).mono (by omega)⟩
    exact absurd rfl h8
   refine wpM.seq (wpM.region ?_)
   refine LM.val (ov_eql rfl rfl) ?_
   refine LM.as rfl ?_
   refine LM.nil (QM.sub (e' := [(5, _), (6, _), (8, _), (9, _), (10, _), (44, _), (45, _), (46, _), (65, _), (141, _)]) au9 (QM.then ?_))
   refine wpM.condD rfl (fun h9 => ?_) (fun h9 => ?_)
   ·
    refine wpM.keep ((b8, .cells (fDc (l.getD i default)).toArray 79 (0, 0)) :: []) (fun _ => True) (.one 0 0 (.one 1 0 (.one 2 1 (.one 3 0 (.one 4 1 (.one 6 0 (.one 7 0 (.one 8 1 (.one 9 0 (.one 10 1 (.one 5 2 (.one 11 2 (.one 12 0 (.one 13 0 .nil)))))))))))))) (by kernel_rfl) (by kernel_rfl) au1 (fun _ _ => trivial) ?_
    refine KD.val rfl rfl (ov_move rfl) ?_
    refine KD.val rfl rfl (ov_field Try.underlying79 rfl Try.sizeOf3 rfl (k := 2) rfl rfl) ?_
    refine KD.rd rfl rfl (om_ld Try.isAgg3 rfl rfl) ?_
    refine KD.val rfl rfl (ov_field Try.underlying79 rfl Try.sizeOf3 rfl (k := 1) rfl rfl) ?_
    refine KD.rd rfl rfl (om_ld Try.isAgg3 rfl rfl) ?_
    refine KD.val rfl rfl (ov_move rfl) ?_
    refine KD.val rfl rfl (ov_field Try.underlying79 rfl Try.sizeOf3 rfl (k := 2) rfl rfl) ?_
    refine KD.rd rfl rfl (om_ld Try.isAgg3 rfl rfl) ?_
    refine KD.val rfl rfl (ov_field Try.underlying79 rfl Try.sizeOf3 rfl (k := 1) rfl rfl) ?_
    refine KD.rd rfl rfl (om_ld Try.isAgg3 rfl rfl) ?_
    refine KD.one rfl ?_
    refine LM.cU (oc_call (enters_fn Try.func52 (by kernel_rfl) rfl) rfl) (fun w hm hc hg => cMov_r hC0 hc.size (by have h9 := hm.pick (coC bc ad n cap bw bg :: (bw, .map esw clw) :: (bg, .map esg clg) :: (ms ++ (mm ++ []))); rw [List.append_nil] at h9; exact h9) (l.getD i default).id (l.getD i default).core) hC0.wlk (fun p hp hlt => absurd hlt (Nat.not_lt_of_le (hC0.ge p hp))) ?_
    rintro u148 m148 ⟨rfl, g148⟩ -
    refine LM.nil ?_
    refine QM.one au1 (fun _ _ => trivial) ?_
    refine KD.one rfl ?_
    refine LM.cU (oc_call (enters_fn Try.func58 (by kernel_rfl) rfl) rfl) (fun w hm hc hg => rcMov_spec (l.getD i default).id (l.getD i default).core w hF0 hc.size (by have h9 := hm.pick (rcC bf ad2 n2 cap2 :: (ms2 ++ (mm2 ++ []))); rw [List.append_nil] at h9; exact h9)) hF0.wlk (fun p hp hlt => absurd hlt (Nat.not_lt_of_le (hF0.ge p hp))) ?_
    rintro u154 m154 ⟨rfl, g154⟩ -
    refine LM.nil ?_
    refine QM.one au1 (fun _ _ => trivial) ?_
    refine KD.val rfl rfl (ov_eql rfl rfl) ?_
    refine KD.val rfl rfl (ov_assign rfl) ?_
    refine KD.nil ?_
    refine QM.sub (e' := [(5, _), (6, _), (8, _), (9, _), (44, _), (45, _), (46, _)]) au9 ?_
    refine QM.block_normal ?_
    refine QM.meetK (cMovX qs (l.getD i default).core (l.getD i default).id, m148, m154) ⟨(by first | rfl | exact lk rfl (congrArg Value.bool (decide_eq_true rfl)) | exact lk rfl (congrArg Value.bool (beq_self_eq_true _)) | exact lk rfl (congrArg Value.bool (by simp))), rfl, rfl, rfl, rfl, rfl, rfl, trivial⟩ au1 ?_
    · exact ⟨g148, g154, (rza_mov hz (by omega) _ _).mono (by omega)⟩
   refine wpM.seq (wpM.region ?_)
   refine LM.val (ov_eql rfl rfl) ?_
   refine LM.as rfl ?_
   refine LM.nil (QM.sub (e' := [(5, _), (6, _), (8, _), (9, _), (10, _), (44, _), (45, _), (46, _), (65, _), (156, _)]) au9 (QM.then ?_))
   refine wpM.condD rfl (fun h10 => ?_) (fun h10 => ?_)
   ·
    refine wpM.seq (wpM.region ?_)
    refine LM.mv rfl ?_
    refine LM.cU (oc_call (enters_fn Try.func48 (by kernel_rfl) rfl) rfl) (fun w hm hc hg => bal_spec w hC0 hc.size (by have h9 := hm.pick (coC bc ad n cap bw bg :: (bw, .map esw clw) :: (bg, .map esg clg) :: (ms ++ (mm ++ []))); rw [List.append_nil] at h9; exact h9)) hC0.wlk (fun p hp hlt => absurd hlt (Nat.not_lt_of_le (hC0.ge p hp))) ?_
    rintro u160 m160 ⟨rfl, g160⟩ -; rw [bal_dec hw]
    refine LM.mv rfl ?_
    refine LM.val (ov_extract rfl rfl) ?_
    refine LM.val (ov_extract rfl rfl) ?_
    refine LM.val (ov_extract rfl rfl) ?_
    refine LM.val (ov_extract rfl rfl) ?_
    refine LM.as rfl (LM.as rfl (LM.as rfl (LM.as rfl ?_)))
    refine LM.nil (QM.sub (e' := [(5, _), (6, _), (8, _), (19, _), (20, _), (21, _), (22, _), (44, _), (45, _), (46, _)]) au9 (QM.then (wpM.seq (wpM.region ?_))))
    refine LM.mv rfl ?_
    refine LM.cU (oc_call (enters_fn Try.func59 (by kernel_rfl) rfl) rfl) (fun w hm hc hg => rcBal_spec w hF0 hc.size (by have h9 := hm.pick (rcC bf ad2 n2 cap2 :: (ms2 ++ (mm2 ++ []))); rw [List.append_nil] at h9; exact h9)) hF0.wlk (fun p hp hlt => absurd hlt (Nat.not_lt_of_le (hF0.ge p hp))) ?_
    rintro u167 m167 ⟨rfl, g167⟩ -
    refine LM.mv rfl ?_
    refine LM.val (ov_extract rfl rfl) ?_
    refine LM.val (ov_extract rfl rfl) ?_
    refine LM.val (ov_extract rfl rfl) ?_
    refine LM.as rfl (LM.as rfl (LM.as rfl ?_))
    refine LM.nil (QM.sub (e' := [(5, _), (6, _), (8, _), (19, _), (20, _), (21, _), (22, _), (23, _), (24, _), (25, _), (44, _), (45, _), (46, _)]) au9 (QM.then (wpM.region ?_)))
    refine LM.mv rfl (LM.mv rfl ?_)
    refine LM.val (ov_eql rfl rfl) ?_
    refine LM.mv rfl ?_
    refine LM.splitD (t := 174) rfl (fun h11 => ?_) (fun h11 => ?_)
    ·
     refine LM.sp 174 rfl rfl rfl (LM.mv rfl (LM.sp 174 rfl rfl rfl (LM.mv rfl (LM.sp 174 rfl rfl rfl ?_))))
     refine LM.val (ov_eql rfl rfl) ?_
     refine LM.val (ov_pickT rfl rfl) ?_
     refine LM.mv rfl ?_
     refine LM.splitD (t := 179) rfl (fun h12 => ?_) (fun h12 => ?_)
     ·
      refine LM.sp 179 rfl rfl rfl (LM.mv rfl (LM.sp 179 rfl rfl rfl (LM.mv rfl (LM.sp 179 rfl rfl rfl ?_))))
      refine LM.val (ov_eql rfl rfl) ?_
      refine LM.val (ov_pickT rfl rfl) ?_
      refine LM.mv rfl ?_
      refine LM.splitD (t := 184) rfl (fun h13 => ?_) (fun h13 => ?_)
      ·
       refine LM.sp 184 rfl rfl rfl (LM.mv rfl (LM.sp 184 rfl rfl rfl (LM.mv rfl (LM.sp 184 rfl rfl rfl ?_))))
       refine LM.val (ov_geq rfl rfl) ?_
       refine LM.sp 184 rfl rfl rfl ?_
       refine LM.val (ov_beql Try.underlying4 rfl rfl) ?_
       refine LM.val (ov_pickT rfl rfl) ?_
       refine LM.as rfl ?_
       refine LM.nil (QM.sub (e' := [(5, _), (6, _), (8, _), (9, _), (44, _), (45, _), (46, _)]) au9 ?_)
       refine QM.block_normal ?_
       refine QM.meetK (balX qs, m160, m167) ⟨(by first | rfl | exact lk rfl (congrArg Value.bool (decide_eq_true rfl)) | exact lk rfl (congrArg Value.bool (beq_self_eq_true _)) | exact lk rfl (congrArg Value.bool (by simp))), rfl, rfl, rfl, rfl, rfl, rfl, trivial⟩ au1 ?_
       · exact ⟨g160, g167, (rza_bal hw hz (by omega)).mono (by omega)⟩
      exact absurd rfl h13
     exact absurd rfl h12
    exact absurd rfl h11
   refine wpM.seq (wpM.region ?_)
   refine LM.val (ov_eql rfl rfl) ?_
   refine LM.as rfl ?_
   refine LM.nil (QM.sub (e' := [(5, _), (6, _), (8, _), (9, _), (10, _), (44, _), (45, _), (46, _), (65, _), (190, _)]) au9 (QM.then ?_))
   refine wpM.condD rfl (fun h14 => ?_) (fun h14 => ?_)
   ·
    refine wpM.seq (wpM.region ?_)
    refine LM.mv rfl (LM.val (ov_field Try.underlying79 rfl Try.sizeOf3 rfl (k := 2) rfl rfl) ?_)
    refine LM.rd (om_ld Try.isAgg3 rfl rfl) ?_
    refine LM.callE (oc_call (enters_fn Try.func60 (by kernel_rfl) rfl) rfl) (fun w hm hc hg => rcOf_spec (l.getD i default).id w hF0 (by have h9 := hm.pick (rcC bf ad2 n2 cap2 :: (ms2 ++ (mm2 ++ []))); rw [List.append_nil] at h9; exact h9)) ?_
    refine LM.as rfl ?_
    refine LM.nil (QM.sub (e' := [(5, _), (6, _), (8, _), (26, _), (44, _), (45, _), (46, _)]) au9 (QM.then (wpM.seq (wpM.region ?_))))
    refine LM.mv rfl (LM.val (ov_field Try.underlying79 rfl Try.sizeOf3 rfl (k := 2) rfl rfl) ?_)
    refine LM.rd (om_ld Try.isAgg3 rfl rfl) ?_
    refine LM.val (ov_field Try.underlying79 rfl Try.sizeOf3 rfl (k := 4) rfl rfl) ?_
    refine LM.rd (om_ld Try.isAgg3 rfl rfl) ?_
    refine LM.cU (oc_call (enters_fn Try.func53 (by kernel_rfl) rfl) rfl) (fun w hm hc hg => cWgh_r hC0 hc.size (by have h9 := hm.pick (coC bc ad n cap bw bg :: (bw, .map esw clw) :: (bg, .map esg clg) :: (ms ++ (mm ++ []))); rw [List.append_nil] at h9; exact h9) (l.getD i default).id (l.getD i default).W) hC0.wlk (fun p hp hlt => absurd hlt (Nat.not_lt_of_le (hC0.ge p hp))) ?_
    rintro u201 m201 ⟨rfl, g201⟩ -; rw [of_dec]
    refine LM.mv rfl ?_
    refine LM.val (ov_geq rfl rfl) ?_
    refine LM.val (ov_beql Try.underlying4 rfl rfl) ?_
    refine LM.as rfl ?_
    refine LM.nil (QM.sub (e' := [(5, _), (6, _), (8, _), (9, _), (26, _), (44, _), (45, _), (46, _)]) au9 (QM.then (wpM.seq (wpM.region ?_))))
    refine LM.mv rfl ?_
    refine LM.val (ov_geq rfl rfl) ?_
    refine LM.nil (QM.sub (e' := [(5, _), (6, _), (8, _), (9, _), (26, _), (44, _), (45, _), (46, _), (206, _)]) au9 (QM.then ?_))
    refine wpM.condD rfl (fun h15 => ?_) (fun h15 => ?_)
    ·
     have hof := ofO_pos (show ¬ ofO qs (l.getD i default).id < 0 by omega); rw [ofO_hit hof]
     refine wpM.draw [(0, 0), (1, 0), (2, 0), (3, 1), (4, 0), (5, 0), (6, 1), (7, 0), (8, 1), (9, 0), (10, 1), (11, 3)] (by kernel_rfl) (by kernel_rfl) ?_
     refine LD.val rfl rfl (ov_move rfl) ?_
     refine LD.val rfl rfl (ov_nilCheck rfl) ?_
     refine LD.val rfl rfl (ov_field Try.underlying82 rfl Try.sizeOf80 rfl (k := 0) rfl rfl) ?_
     refine LD.rd rfl rfl (om_ld Try.isAgg80 rfl rfl) ?_
     refine LD.val rfl rfl (ov_move rfl) ?_
     refine LD.val rfl rfl (ov_idxSN au6 Try.underlying80 Try.sizeOf51 rfl rfl (by omega)) ?_
     refine LD.rd rfl rfl (om_sl1 (by assumption) (by intro _; rfl) Try.isAgg51 rfl rfl au3 (by rfl)) ?_
     refine LD.val rfl rfl (ov_field Try.underlying79 rfl Try.sizeOf3 rfl (k := 2) rfl rfl) ?_
     refine LD.rd rfl rfl (om_ld Try.isAgg3 rfl rfl) ?_
     refine LD.val rfl rfl (ov_field Try.underlying79 rfl Try.sizeOf3 rfl (k := 4) rfl rfl) ?_
     refine LD.rd rfl rfl (om_ld Try.isAgg3 rfl rfl) ?_
     refine LD.tail rfl rfl ?_
     refine LM.cU (oc_call (enters_fn Try.func32 (by kernel_rfl) rfl) rfl) (fun w hm hc hg => hq2.upd rfK hof (hm.pick mm2) (fun m hr hM => rfWgh_spec (l.getD i default).id (l.getD i default).W w hr hM)) (hq2.wlk rfK) (fun p hp hlt => absurd hlt (Nat.not_lt_of_le (hq2.ge rfK p hp))) ?_
     rintro u218 m218 ⟨rfl, g218⟩ -
     refine LM.nil ?_
     refine QM.qn ?_
     refine QM.sub (e' := [(5, _), (6, _), (8, _), (9, _), (44, _), (45, _), (46, _)]) au9 ?_
     refine QM.block_normal ?_
     refine QM.meetK (cWghX qs (l.getD i default).id (l.getD i default).W, m201, rcC bf ad2 n2 cap2 :: (ms2 ++ m218)) ⟨(by first | rfl | exact lk rfl (congrArg Value.bool (decide_eq_true rfl)) | exact lk rfl (congrArg Value.bool (beq_self_eq_true _)) | exact lk rfl (congrArg Value.bool (by simp))), rfl, rfl, rfl, rfl, rfl, rfl, trivial⟩ au1 ?_
     · exact ⟨g201, (by have e : cWghX qs (l.getD i default).id (l.getD i default).W = qs.set _ _ := if_pos hof; have k := g201.1; rw [e] at k ⊢; exact rcm_set k (by rw [List.length_set]; exact hn2) hs2 g218 hb2), (rza_wgh hw hz (by omega) _ _).mono (by omega)⟩
    have hof := ofO_neg (show ofO qs (l.getD i default).id < 0 by omega)
    refine wpM.skip ?_
    refine QM.block_normal ?_
    refine QM.meetK (cWghX qs (l.getD i default).id (l.getD i default).W, m201, rcC bf ad2 n2 cap2 :: (ms2 ++ mm2)) ⟨(by first | rfl | exact lk rfl (congrArg Value.bool (decide_eq_true rfl)) | exact lk rfl (congrArg Value.bool (beq_self_eq_true _)) | exact lk rfl (congrArg Value.bool (by simp))), rfl, rfl, rfl, rfl, rfl, rfl, trivial⟩ au1 ?_
    · exact ⟨g201, (by rw [show cWghX qs (l.getD i default).id (l.getD i default).W = qs from if_neg hof]; exact hF0), (rza_wgh hw hz (by omega) _ _).mono (by omega)⟩
   refine wpM.seq (wpM.region ?_)
   refine LM.val (ov_eql rfl rfl) ?_
   refine LM.as rfl ?_
   refine LM.nil (QM.sub (e' := [(5, _), (6, _), (8, _), (9, _), (10, _), (44, _), (45, _), (46, _), (65, _), (219, _)]) au9 (QM.then ?_))
   refine wpM.condD rfl (fun h16 => ?_) (fun h16 => ?_)
   ·
    refine wpM.seq (wpM.region ?_)
    refine LM.mv rfl ?_
    refine LM.cU (oc_call (enters_fn Try.func51 (by kernel_rfl) rfl) rfl) (fun w hm hc hg => cSet_spec w hC0 (by have h9 := hm.pick (coC bc ad n cap bw bg :: (bw, .map esw clw) :: (bg, .map esg clg) :: (ms ++ (mm ++ []))); rw [List.append_nil] at h9; exact h9)) hC0.wlk (fun p hp hlt => absurd hlt (Nat.not_lt_of_le (hC0.ge p hp))) ?_
    rintro u222 m222 ⟨rfl, g222⟩ -
    refine LM.nil (QM.sub (e' := [(5, _), (6, _), (8, _), (9, _), (44, _), (45, _), (46, _)]) au9 (QM.then (wpM.seq (wpM.region ?_))))
    refine LM.mv rfl ?_
    refine LM.val (ov_nilCheck rfl) ?_
    refine LM.val (ov_field Try.underlying82 rfl Try.sizeOf80 rfl (k := 0) rfl rfl) ?_
    refine LM.rd (om_ld Try.isAgg80 rfl rfl) ?_
    refine LM.val (ov_len Try.underlying80 rfl) ?_
    refine LM.mv rfl ?_
    refine LM.nil (QM.sub (e' := [(5, _), (6, _), (8, _), (9, _), (44, _), (45, _), (46, _), (226, _), (227, _), (228, _)]) au9 (QM.then ?_))
    refine wpM.block ?_
    refine wpM.loopK0 (α := Nat × Mem0) (fun ⟨j, mi⟩ => [(228, .int .i64 (j : Nat))]) [(5, _), (6, _), (8, _), (9, _), (44, _), (45, _), (46, _), (226, _), (227, _)] (fun ⟨j, mi⟩ => (b8, .cells (fDc (l.getD i default)).toArray 79 (0, 0)) :: (m222 ++ (rcC bf ad2 n2 cap2 :: (ms2 ++ (mi ++ []))))) (fun ⟨j, mi⟩ => j ≤ qs.length ∧ QqM RfM w.heap.size bs2 (setN qs j) mi) (fun ⟨j, mi⟩ => qs.length - j) ((0, mm2)) ⟨au2, rfl, rfl, rfl, rfl, rfl, rfl, rfl, rfl, rfl, trivial⟩ au1 ⟨Nat.zero_le _, hq2⟩ ?_
    rintro ⟨j, mi⟩ ⟨hj, hqi⟩
    change wpM _ _ _ _ _ _ _ ((b8, .cells (fDc (l.getD i default)).toArray 79 (0, 0)) :: (m222 ++ (rcC bf ad2 n2 cap2 :: (ms2 ++ (mi ++ []))))) _ _ _
    have hsl := setN_len qs j
    refine wpM.seq (wpM.region ?_)
    refine LM.val (ov_lss rfl rfl) ?_
    refine LM.nil (QM.sub (e' := [(5, _), (6, _), (8, _), (9, _), (44, _), (45, _), (46, _), (226, _), (227, _), (228, _), (229, _)]) au9 (QM.then ?_))
    refine wpM.seq ?_
    refine wpM.condD rfl (fun h17 => ?_) (fun h17 => ?_)
    ·
     refine wpM.skip ?_
     refine QM.then ?_
     refine wpM.seq ?_
     refine wpM.block ?_
     refine wpM.seq (wpM.region ?_)
     refine LM.val (ov_idxSN au6 Try.underlying80 Try.sizeOf51 rfl rfl (by omega)) ?_
     refine LM.rd (om_sl1 (by assumption) (by intro _; rfl) Try.isAgg51 rfl rfl au3 (by rfl)) ?_
     refine LM.as rfl ?_
     refine LM.nil (QM.sub (e' := [(5, _), (6, _), (8, _), (9, _), (28, _), (44, _), (45, _), (46, _), (226, _), (227, _), (228, _)]) au9 (QM.then (wpM.region ?_)))
     refine LM.mv rfl ?_
     refine LM.cU (oc_call (enters_fn Try.func34 (by kernel_rfl) rfl) rfl) (fun w hm hc hg => hqi.upd rfK (i := j) (by omega) (hm.pick mi) (fun m hr hM => rfSettle_spec w hr hM)) (hqi.wlk rfK) (fun p hp hlt => absurd hlt (Nat.not_lt_of_le (hqi.ge rfK p hp))) ?_
     rintro u233 m233 ⟨rfl, g233⟩ -; change QqM RfM w.heap.size bs2 (setN qs (j + 1)) m233 at g233
     refine LM.nil (QM.sub (e' := [(5, _), (6, _), (8, _), (9, _), (44, _), (45, _), (46, _), (226, _), (227, _), (228, _)]) au9 ?_)
     refine QM.block_normal ?_
     refine QM.then (wpM.region ?_)
     refine LM.val (ov_add64 rfl rfl (by omega)) ?_
     refine LM.mv rfl ?_
     refine LM.nil (QM.sub (e' := [(5, _), (6, _), (8, _), (9, _), (44, _), (45, _), (46, _), (226, _), (227, _), (228, _)]) au9 ?_)
     refine QM.againK (j + 1, m233) ⟨au2, rfl, rfl, rfl, rfl, rfl, rfl, rfl, rfl, rfl, trivial⟩ au1 (fun _ h => h) ?_ ?_
     · exact ⟨by omega, g233⟩
     · first | omega | (dsimp only; omega)
    have hjl : j = qs.length := (by omega)
    refine wpM.exit ?_
    refine QM.then_exit ?_
    refine QM.then_exit ?_
    refine QM.block_hit ?_
    refine QM.block_normal ?_
    refine QM.meetK (setN qs qs.length, m222, rcC bf ad2 n2 cap2 :: (ms2 ++ mi)) ⟨(by first | rfl | exact lk rfl (congrArg Value.bool (decide_eq_true rfl)) | exact lk rfl (congrArg Value.bool (beq_self_eq_true _)) | exact lk rfl (congrArg Value.bool (by simp))), rfl, rfl, rfl, rfl, rfl, rfl, trivial⟩ au1 ?_
    · exact ⟨g222, (by rw [hjl] at hqi; exact rcm_set g222.1 (by rw [setN_len]; exact hn2) hs2 hqi hb2), (rza_setN hz _ (Nat.le_refl _)).mono (by omega)⟩
   refine wpM.seq (wpM.region ?_)
   refine LM.val (ov_eql rfl rfl) ?_
   refine LM.as rfl ?_
   refine LM.nil (QM.sub (e' := [(5, _), (6, _), (8, _), (9, _), (10, _), (44, _), (45, _), (46, _), (65, _), (235, _)]) au9 (QM.then ?_))
   refine wpM.condD rfl (fun h18 => ?_) (fun h18 => ?_)
   ·
    refine wpM.seq (wpM.region ?_)
    refine LM.mv rfl ?_
    refine LM.nil (QM.sub (e' := [(5, _), (6, _), (8, _), (9, _), (44, _), (45, _), (46, _), (237, _)]) au9 (QM.then ?_))
    refine wpM.condD rfl (fun h19 => ?_) (fun h19 => ?_)
    ·
     obtain ⟨c, hcc⟩ : ∃ c : Nat, (l.getD i default).core = c := ⟨(l.getD i default).core.toNat, by omega⟩; have hcl : c < qs.length := (by omega)
     refine wpM.seq (wpM.region ?_)
     refine LM.mv rfl (LM.val (ov_field Try.underlying79 rfl Try.sizeOf3 rfl (k := 1) rfl rfl) ?_)
     refine LM.rd (om_ld Try.isAgg3 rfl rfl) ?_
     refine LM.callE (oc_call (enters_fn Try.func54 (by kernel_rfl) rfl) rfl) (fun w hm hc hg => (by have k := cQu_in c w (by omega) hs (by omega) (by have h9 := hm.pick (coC bc ad n cap bw bg :: (ms ++ [])); rw [List.append_nil] at h9; exact h9); rw [← hcc] at k; exact k)) ?_
     refine LM.cU (oc_call (enters_fn Try.func26 (by kernel_rfl) rfl) rfl) (fun w hm hc hg => hq.upd rqK hcl (hm.pick mm) (fun m hr hM => pick_spec w hr hM)) (hq.wlk rqK) (fun p hp hlt => absurd hlt (Nat.not_lt_of_le (hq.ge rqK p hp))) ?_
     rintro u242 m242 ⟨rfl, g242⟩ -
     refine LM.nil (QM.sub (e' := [(5, _), (6, _), (8, _), (9, _), (44, _), (45, _), (46, _)]) au9 (QM.then ?_))
     refine wpM.draw [(0, 0), (1, 0), (2, 0), (3, 1), (4, 0), (5, 1), (6, 0), (7, 1), (8, 3)] (by kernel_rfl) (by kernel_rfl) ?_
     refine LD.val rfl rfl (ov_move rfl) ?_
     refine LD.val rfl rfl (ov_nilCheck rfl) ?_
     refine LD.val rfl rfl (ov_field Try.underlying82 rfl Try.sizeOf80 rfl (k := 0) rfl rfl) ?_
     refine LD.rd rfl rfl (om_ld Try.isAgg80 rfl rfl) ?_
     refine LD.val rfl rfl (ov_field Try.underlying79 rfl Try.sizeOf3 rfl (k := 1) rfl rfl) ?_
     refine LD.rd (v := .int .i64 ((c : Nat) : Int)) rfl rfl (fun w hm => by rw [← hcc]; exact om_ld Try.isAgg3 rfl rfl w hm) ?_
     refine LD.val rfl rfl (ov_idxSN au6 Try.underlying80 Try.sizeOf51 rfl rfl (by omega)) ?_
     refine LD.rd rfl rfl (om_sl1 (by assumption) (by intro _; rfl) Try.isAgg51 rfl rfl au3 (by rfl)) ?_
     refine LD.tail rfl rfl ?_
     refine LM.cU (oc_call (enters_fn Try.func27 (by kernel_rfl) rfl) rfl) (fun w hm hc hg => hq2.upd rfK hcl (hm.pick mm2) (fun m hr hM => rfPick_spec w hr hM)) (hq2.wlk rfK) (fun p hp hlt => absurd hlt (Nat.not_lt_of_le (hq2.ge rfK p hp))) ?_
     rintro u251 m251 ⟨rfl, g251⟩ -
     refine LM.nil ?_
     refine QM.qn ?_
     refine QM.sub (e' := [(5, _), (6, _), (8, _), (9, _), (44, _), (45, _), (46, _)]) au9 ?_
     refine QM.block_normal ?_
     refine QM.meetK (qs.set c (pikQ (qg qs c)), coC bc ad n cap bw bg :: (bw, .map esw clw) :: (bg, .map esg clg) :: (ms ++ m242), rcC bf ad2 n2 cap2 :: (ms2 ++ m251)) ⟨(by first | rfl | exact lk rfl (congrArg Value.bool (decide_eq_true rfl)) | exact lk rfl (congrArg Value.bool (beq_self_eq_true _)) | exact lk rfl (congrArg Value.bool (by simp))), rfl, rfl, rfl, rfl, rfl, rfl, trivial⟩ au1 ?_
     · exact ⟨crm_set hw hcl (pik_wf (hw.wf _ hcl)) (pik_same _) hn hs g242 hew heg hwh hwg hb hbw hbg, rcm_set (cwf_same hw hcl (pik_wf (hw.wf _ hcl)) (pik_same _)) (by rw [List.length_set]; exact hn2) hs2 g251 hb2, (rza_set hz (rz_pik (hz c hcl) (by omega))).mono (by omega)⟩
    refine wpM.skip ?_
    refine QM.block_normal ?_
    refine QM.meetK (qs, coC bc ad n cap bw bg :: (bw, .map esw clw) :: (bg, .map esg clg) :: (ms ++ mm), rcC bf ad2 n2 cap2 :: (ms2 ++ mm2)) ⟨(by first | rfl | exact lk rfl (congrArg Value.bool (decide_eq_true rfl)) | exact lk rfl (congrArg Value.bool (beq_self_eq_true _)) | exact lk rfl (congrArg Value.bool (by simp))), rfl, rfl, rfl, rfl, rfl, rfl, trivial⟩ au1 ?_
    · exact ⟨hC0, hF0, hz.mono (by omega)⟩
   refine wpM.seq (wpM.region ?_)
   refine LM.val (ov_eql rfl rfl) ?_
   refine LM.as rfl ?_
   refine LM.nil (QM.sub (e' := [(5, _), (6, _), (8, _), (9, _), (10, _), (44, _), (45, _), (46, _), (252, _)]) au9 (QM.then ?_))
   refine wpM.condD rfl (fun h20 => ?_) (fun h20 => ?_)
   ·
    refine wpM.seq (wpM.region ?_)
    refine LM.mv rfl ?_
    refine LM.nil (QM.sub (e' := [(5, _), (6, _), (8, _), (9, _), (44, _), (45, _), (46, _), (254, _)]) au9 (QM.then ?_))
    refine wpM.condD rfl (fun h21 => ?_) (fun h21 => ?_)
    ·
     obtain ⟨c, hcc⟩ : ∃ c : Nat, (l.getD i default).core = c := ⟨(l.getD i default).core.toNat, by omega⟩; have hcl : c < qs.length := (by omega)
     refine wpM.seq (wpM.region ?_)
     refine LM.mv rfl (LM.val (ov_field Try.underlying79 rfl Try.sizeOf3 rfl (k := 1) rfl rfl) ?_)
     refine LM.rd (om_ld Try.isAgg3 rfl rfl) ?_
     refine LM.callE (oc_call (enters_fn Try.func54 (by kernel_rfl) rfl) rfl) (fun w hm hc hg => (by have k := cQu_in c w (by omega) hs (by omega) (by have h9 := hm.pick (coC bc ad n cap bw bg :: (ms ++ [])); rw [List.append_nil] at h9; exact h9); rw [← hcc] at k; exact k)) ?_
     refine LM.cU (oc_call (enters_fn Try.func28 (by kernel_rfl) rfl) rfl) (fun w hm hc hg => hq.upd rqK hcl (hm.pick mm) (fun m hr hM => back_spec w hr hc.size hM)) (hq.wlk rqK) (fun p hp hlt => absurd hlt (Nat.not_lt_of_le (hq.ge rqK p hp))) ?_
     rintro u259 m259 ⟨rfl, g259⟩ -
     refine LM.nil (QM.sub (e' := [(5, _), (6, _), (8, _), (9, _), (44, _), (45, _), (46, _)]) au9 (QM.then ?_))
     refine wpM.draw [(0, 0), (1, 0), (2, 0), (3, 1), (4, 0), (5, 1), (6, 0), (7, 1), (8, 3)] (by kernel_rfl) (by kernel_rfl) ?_
     refine LD.val rfl rfl (ov_move rfl) ?_
     refine LD.val rfl rfl (ov_nilCheck rfl) ?_
     refine LD.val rfl rfl (ov_field Try.underlying82 rfl Try.sizeOf80 rfl (k := 0) rfl rfl) ?_
     refine LD.rd rfl rfl (om_ld Try.isAgg80 rfl rfl) ?_
     refine LD.val rfl rfl (ov_field Try.underlying79 rfl Try.sizeOf3 rfl (k := 1) rfl rfl) ?_
     refine LD.rd (v := .int .i64 ((c : Nat) : Int)) rfl rfl (fun w hm => by rw [← hcc]; exact om_ld Try.isAgg3 rfl rfl w hm) ?_
     refine LD.val rfl rfl (ov_idxSN au6 Try.underlying80 Try.sizeOf51 rfl rfl (by omega)) ?_
     refine LD.rd rfl rfl (om_sl1 (by assumption) (by intro _; rfl) Try.isAgg51 rfl rfl au3 (by rfl)) ?_
     refine LD.tail rfl rfl ?_
     refine LM.cU (oc_call (enters_fn Try.func29 (by kernel_rfl) rfl) rfl) (fun w hm hc hg => hq2.upd rfK hcl (hm.pick mm2) (fun m hr hM => rfBack_spec w hr hM)) (hq2.wlk rfK) (fun p hp hlt => absurd hlt (Nat.not_lt_of_le (hq2.ge rfK p hp))) ?_
     rintro u268 m268 ⟨rfl, g268⟩ -
     refine LM.nil ?_
     refine QM.qn ?_
     refine QM.sub (e' := [(5, _), (6, _), (8, _), (9, _), (44, _), (45, _), (46, _)]) au9 ?_
     refine QM.block_normal ?_
     refine QM.meetK (qs.set c (bakQ (qg qs c)), coC bc ad n cap bw bg :: (bw, .map esw clw) :: (bg, .map esg clg) :: (ms ++ m259), rcC bf ad2 n2 cap2 :: (ms2 ++ m268)) ⟨(by first | rfl | exact lk rfl (congrArg Value.bool (decide_eq_true rfl)) | exact lk rfl (congrArg Value.bool (beq_self_eq_true _)) | exact lk rfl (congrArg Value.bool (by simp))), rfl, rfl, rfl, rfl, rfl, rfl, trivial⟩ au1 ?_
     · exact ⟨crm_set hw hcl (bak_wf (hw.wf _ hcl)) (bak_same _) hn hs g259 hew heg hwh hwg hb hbw hbg, rcm_set (cwf_same hw hcl (bak_wf (hw.wf _ hcl)) (bak_same _)) (by rw [List.length_set]; exact hn2) hs2 (by rw [bak_eq (hw.wf _ hcl) (hz c hcl).1]; exact g268) hb2, (rza_set hz (rz_bak (hz c hcl) (by omega))).mono (by omega)⟩
    refine wpM.skip ?_
    refine QM.block_normal ?_
    refine QM.meetK (qs, coC bc ad n cap bw bg :: (bw, .map esw clw) :: (bg, .map esg clg) :: (ms ++ mm), rcC bf ad2 n2 cap2 :: (ms2 ++ mm2)) ⟨(by first | rfl | exact lk rfl (congrArg Value.bool (decide_eq_true rfl)) | exact lk rfl (congrArg Value.bool (beq_self_eq_true _)) | exact lk rfl (congrArg Value.bool (by simp))), rfl, rfl, rfl, rfl, rfl, rfl, trivial⟩ au1 ?_
    · exact ⟨hC0, hF0, hz.mono (by omega)⟩
   refine wpM.seq (wpM.region ?_)
   refine LM.mv rfl ?_
   refine LM.nil (QM.sub (e' := [(5, _), (6, _), (8, _), (9, _), (44, _), (45, _), (46, _), (66, _)]) au9 (QM.then ?_))
   refine wpM.condD rfl (fun h22 => ?_) (fun h22 => ?_)
   ·
    obtain ⟨c, hcc⟩ : ∃ c : Nat, (l.getD i default).core = c := ⟨(l.getD i default).core.toNat, by omega⟩; have hcl : c < qs.length := (by omega)
    refine wpM.seq (wpM.region ?_)
    refine LM.mv rfl (LM.val (ov_field Try.underlying79 rfl Try.sizeOf3 rfl (k := 1) rfl rfl) ?_)
    refine LM.rd (om_ld Try.isAgg3 rfl rfl) ?_
    refine LM.callE (oc_call (enters_fn Try.func54 (by kernel_rfl) rfl) rfl) (fun w hm hc hg => (by have k := cQu_in c w (by omega) hs (by omega) (by have h9 := hm.pick (coC bc ad n cap bw bg :: (ms ++ [])); rw [List.append_nil] at h9; exact h9); rw [← hcc] at k; exact k)) ?_
    refine LM.cU (oc_call (enters_fn Try.func30 (by kernel_rfl) rfl) rfl) (fun w hm hc hg => hq.upd rqK hcl (hm.pick mm) (fun m hr hM => tick_spec w hr (by have := (hz c hcl).2; omega) hM)) (hq.wlk rqK) (fun p hp hlt => absurd hlt (Nat.not_lt_of_le (hq.ge rqK p hp))) ?_
    rintro u71 m71 ⟨rfl, g71⟩ -
    refine LM.nil (QM.sub (e' := [(5, _), (6, _), (8, _), (9, _), (44, _), (45, _), (46, _)]) au9 (QM.then ?_))
    refine wpM.draw [(0, 0), (1, 0), (2, 0), (3, 1), (4, 0), (5, 1), (6, 0), (7, 1), (8, 3)] (by kernel_rfl) (by kernel_rfl) ?_
    refine LD.val rfl rfl (ov_move rfl) ?_
    refine LD.val rfl rfl (ov_nilCheck rfl) ?_
    refine LD.val rfl rfl (ov_field Try.underlying82 rfl Try.sizeOf80 rfl (k := 0) rfl rfl) ?_
    refine LD.rd rfl rfl (om_ld Try.isAgg80 rfl rfl) ?_
    refine LD.val rfl rfl (ov_field Try.underlying79 rfl Try.sizeOf3 rfl (k := 1) rfl rfl) ?_
    refine LD.rd (v := .int .i64 ((c : Nat) : Int)) rfl rfl (fun w hm => by rw [← hcc]; exact om_ld Try.isAgg3 rfl rfl w hm) ?_
    refine LD.val rfl rfl (ov_idxSN au6 Try.underlying80 Try.sizeOf51 rfl rfl (by omega)) ?_
    refine LD.rd rfl rfl (om_sl1 (by assumption) (by intro _; rfl) Try.isAgg51 rfl rfl au3 (by rfl)) ?_
    refine LD.tail rfl rfl ?_
    refine LM.cU (oc_call (enters_fn Try.func31 (by kernel_rfl) rfl) rfl) (fun w hm hc hg => hq2.upd rfK hcl (hm.pick mm2) (fun m hr hM => rfTick_spec w hr (by have := (hz c hcl).2; omega) hM)) (hq2.wlk rfK) (fun p hp hlt => absurd hlt (Nat.not_lt_of_le (hq2.ge rfK p hp))) ?_
    rintro u80 m80 ⟨rfl, g80⟩ -
    refine LM.nil ?_
    refine QM.qn ?_
    refine QM.sub (e' := [(5, _), (6, _), (8, _), (9, _), (44, _), (45, _), (46, _)]) au9 ?_
    refine QM.block_normal ?_
    refine QM.meetK (qs.set c (tickQ (qg qs c)), coC bc ad n cap bw bg :: (bw, .map esw clw) :: (bg, .map esg clg) :: (ms ++ m71), rcC bf ad2 n2 cap2 :: (ms2 ++ m80)) ⟨(by first | rfl | exact lk rfl (congrArg Value.bool (decide_eq_true rfl)) | exact lk rfl (congrArg Value.bool (beq_self_eq_true _)) | exact lk rfl (congrArg Value.bool (by simp))), rfl, rfl, rfl, rfl, rfl, rfl, trivial⟩ au1 ?_
    · exact ⟨crm_set hw hcl (tick_wf (hw.wf _ hcl)) (tick_same (hw.wf _ hcl)) hn hs g71 hew heg hwh hwg hb hbw hbg, rcm_set (cwf_same hw hcl (tick_wf (hw.wf _ hcl)) (tick_same (hw.wf _ hcl))) (by rw [List.length_set]; exact hn2) hs2 g80 hb2, rza_set (hz.mono (by omega)) (rz_tick (hz c hcl))⟩
   refine wpM.skip ?_
   refine QM.block_normal ?_
   refine QM.meetK (qs, coC bc ad n cap bw bg :: (bw, .map esw clw) :: (bg, .map esg clg) :: (ms ++ mm), rcC bf ad2 n2 cap2 :: (ms2 ++ mm2)) ⟨(by first | rfl | exact lk rfl (congrArg Value.bool (decide_eq_true rfl)) | exact lk rfl (congrArg Value.bool (beq_self_eq_true _)) | exact lk rfl (congrArg Value.bool (by simp))), rfl, rfl, rfl, rfl, rfl, rfl, trivial⟩ au1 ?_
   · exact ⟨hC0, hF0, hz.mono (by omega)⟩
  rintro ⟨ys, mc2, mw2⟩ ⟨hc2, hf2, hzy⟩
  change QM _ _ _ _ _ ((b8, .cells (fDc (l.getD i default)).toArray 79 (0, 0)) :: (mc2 ++ (mw2 ++ []))) _ _ _
  refine QM.then (wpM.seq (wpM.region ?_))
  refine LM.mv rfl ?_
  first | refine LM.val (ov_notD rfl) ?_ | refine LM.val (ov_not rfl) ?_
  refine LM.mv rfl ?_
  first | refine LM.splitD (t := 271) rfl (fun h23 => ?_) (fun h23 => ?_) | refine LM.splitB (t := 271) rfl (fun h23 => ?_) (fun h23 => ?_)
  ·
   refine LM.dr 271 rfl rfl rfl (LM.dr 271 rfl rfl rfl (LM.dr 271 rfl rfl rfl (LM.dr 271 rfl rfl rfl (LM.dr 271 rfl rfl rfl (LM.dr 271 rfl rfl rfl ?_)))))
   refine LM.val (ov_pickT rfl rfl) ?_
   refine LM.nil (QM.sub (e' := [(5, _), (6, _), (44, _), (45, _), (46, _), (278, _)]) au9 (QM.then ?_))
   refine wpM.condT rfl ?_
   refine wpM.seq (wpM.region ?_)
   refine LM.as rfl ?_
   refine LM.nil (QM.sub (e' := [(4, _)]) ⟨rfl, trivial⟩ (QM.then ?_))
   refine wpM.ret ?_
   refine QM.block_ret ?_
   refine QM.then_ret ?_
   refine QM.then_ret ?_
   refine QM.block_ret ?_
   refine QM.then_ret ?_
   refine QM.leave (.inl rfl) [.tmp 4] Try.results10 rfl ?_
   intro w' hm' hc' hg'
   first | exact ⟨rfl, hc'⟩ | (exfalso; first | omega | (simp at *; done) | (simp_all; done))
  refine LM.sp 271 rfl rfl rfl (LM.mv rfl (LM.sp 271 rfl rfl rfl (LM.mv rfl (LM.sp 271 rfl rfl rfl (LM.val (ov_field Try.underlying79 rfl Try.sizeOf3 rfl (k := 2) rfl rfl) ?_)))))
  refine LM.sp 271 rfl rfl rfl ?_
  refine LM.rd (om_ld Try.isAgg3 rfl rfl) ?_
  refine LM.sp 271 rfl rfl rfl ?_
  refine LM.callE (oc_call (enters_fn Try.func61 (by kernel_rfl) rfl) rfl) (fun w hm hc hg => same17_spec (l.getD i default).id w hc2 hf2 (hm.pick (mc2 ++ mw2))) ?_
  refine LM.sp 271 rfl rfl rfl ?_
  first | refine LM.val (ov_notD rfl) ?_ | refine LM.val (ov_not rfl) ?_
  refine LM.val (ov_pickF rfl rfl) ?_
  refine LM.nil (QM.sub (e' := [(5, _), (6, _), (44, _), (45, _), (46, _), (278, _)]) au9 (QM.then ?_))
  first | refine wpM.condD rfl (fun h24 => ?_) (fun h24 => ?_) | refine wpM.condB rfl (fun h24 => ?_) (fun h24 => ?_)
  ·
   refine wpM.seq (wpM.region ?_)
   refine LM.as rfl ?_
   refine LM.nil (QM.sub (e' := [(4, _)]) ⟨rfl, trivial⟩ (QM.then ?_))
   refine wpM.ret ?_
   refine QM.block_ret ?_
   refine QM.then_ret ?_
   refine QM.then_ret ?_
   refine QM.block_ret ?_
   refine QM.then_ret ?_
   refine QM.leave (.inl rfl) [.tmp 4] Try.results10 rfl ?_
   intro w' hm' hc' hg'
   first | exact ⟨rfl, hc'⟩ | (exfalso; first | omega | (simp at *; done) | (simp_all; done))
  refine wpM.skip ?_
  refine QM.block_normal ?_
  refine QM.then (wpM.region ?_)
  refine LM.val (ov_add64 rfl rfl (by omega)) ?_
  refine LM.mv rfl ?_
  refine LM.nil (QM.sub (e' := [(5, _), (6, _), (44, _), (45, _), (46, _)]) au9 ?_)
  refine QM.againK (i + 1, ys, mc2, mw2) ⟨au2, rfl, rfl, rfl, rfl, trivial⟩ au1 (fun _ h => h) ?_ ?_
  · exact ⟨by omega, hc2, hf2, hzy.mono (by omega)⟩
  · first | omega | (dsimp only; omega)
 refine wpM.exit ?_
 refine QM.then_exit ?_
 refine QM.then_exit ?_
 refine QM.block_hit ?_
 refine QM.then (wpM.seq (wpM.region ?_))
 refine LM.as rfl ?_
 refine LM.nil (QM.sub (e' := [(4, _)]) ⟨rfl, trivial⟩ (QM.then ?_))
 refine wpM.ret ?_
 refine QM.leave (.inl rfl) [.tmp 4] Try.results10 rfl ?_
 intro w' hm' hc' hg'
 exact ⟨rfl, hc'⟩
end Go.Eng
