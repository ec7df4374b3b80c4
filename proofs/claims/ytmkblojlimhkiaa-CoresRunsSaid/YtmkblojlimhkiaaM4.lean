/- The walks of red and black trees: put in, taken out, the first one, all in order. No condition. -/
import Derived.Test.YtmkblojlimhkiaaM3
import Derived.Test.YtmkblojlimhkiaaM2
import Derived.Laws.Externs
set_option linter.unusedVariables false
set_option linter.unusedSimpArgs false
namespace Go.Eng
open Go Go.Proofs Go.RowKit
def RbT (n0 b most : Nat) (L : List Kv) (m : Mem0) : Prop := ∃ (s : RbS) (bn n cap : Nat) (ms : Mem0), m = rtB b s.most bn n cap s.root s.first s.free s.n :: ms ∧ n = s.N.length ∧ NdS n0 bn n cap s.N ms ∧ RbI s L ∧ s.most = most ∧ n0 ≤ b
theorem RbT.ge {n0 b most : Nat} {L : List Kv} {m : Mem0} (h : RbT n0 b most L m) : ∀ p ∈ m, n0 ≤ p.1 := by
  obtain ⟨s, bn, n, cap, ms, rfl, hn, hs, hI, rfl, hb⟩ := h
  intro p hp
  rcases List.mem_cons.1 hp with rfl | hp
  · exact hb
  · exact hs.ge p hp
theorem RbT.wlk {n0 b most : Nat} {L : List Kv} {m : Mem0} (h : RbT n0 b most L m) : ∀ p ∈ m, wlk p.2 = false := by
  obtain ⟨s, bn, n, cap, ms, rfl, hn, hs, hI, rfl, hb⟩ := h
  exact rt_wlk hs
theorem rb_leaf {n0 b most bn n cap root first free cnt bn' n' cap' : Nat} {s' : RbS} {L' : List Kv} {N : List Nd} {ms ms' M : Mem0} {w w' : World} {u0 : Value} (h : NdS n0 bn n cap N ms) (hI : RbI s' L') (hmo : s'.most = most) (hn' : n' = s'.N.length) (h' : NdS n0 bn' n' cap' s'.N ms') (hb : n0 ≤ b) (hm : Mem w' M)
    (hs : SubM M (rtB b most bn' n' cap' s'.root s'.first s'.free s'.n :: (ms' ++ []))) (hc : Chg (fun x => x = b ∨ x = bn) w w') (hin : bn' = b ∨ bn' = bn ∨ w.heap.size ≤ bn') :
    Upd (rtB b most bn n cap root first free cnt :: ms) (fun u m' => u = u0 ∧ RbT n0 b most L' m') w u0 w' := by
  rw [List.append_nil] at hs
  obtain ⟨o, rfl⟩ := h.has_bn
  obtain ⟨o', rfl⟩ := h'.has_bn
  subst hmo
  refine ⟨hc.mono (fun x _ hx => ?_), _, ⟨rfl, s', bn', n', cap', _, rfl, hn', h', hI, rfl, hb⟩, hs.mem w' hm, fun p hp => ?_⟩
  · rcases hx with rfl | rfl
    · exact ⟨_, List.mem_cons_self .., rfl⟩
    · exact ⟨_, List.mem_cons_of_mem _ (List.mem_cons_self ..), rfl⟩
  · rcases List.mem_cons.1 hp with rfl | hp
    · exact .inr ⟨_, List.mem_cons_self .., rfl⟩
    · rw [List.mem_singleton] at hp; subst hp
      rcases hin with q | q | q
      · exact .inr ⟨_, List.mem_cons_self .., q.symm⟩
      · exact .inr ⟨_, List.mem_cons_of_mem _ (List.mem_cons_self ..), q.symm⟩
      · exact .inl q
theorem bn_in {n0 b bn n cap k bn1 n1 cap1 most root first free cnt most1 root1 first1 free1 cnt1 : Nat} {N N1 : List Nd} {ms ms1 : Mem0} (hs : NdS n0 bn n cap N ms) (hs1 : NdS n0 bn1 n1 cap1 N1 ms1)
    (h : ∀ p ∈ rtB b most1 bn1 n1 cap1 root1 first1 free1 cnt1 :: ms1, k ≤ p.1 ∨ ∃ q ∈ rtB b most bn n cap root first free cnt :: ms, q.1 = p.1) : bn1 = b ∨ bn1 = bn ∨ k ≤ bn1 := by
  obtain ⟨o, rfl⟩ := hs.has_bn
  obtain ⟨o1, rfl⟩ := hs1.has_bn
  rcases h _ (List.mem_cons_of_mem _ (List.mem_cons_self ..)) with q | ⟨q, hq, e⟩
  · exact .inr (.inr q)
  · rcases List.mem_cons.1 hq with rfl | hq
    · exact .inl e.symm
    · rw [List.mem_singleton] at hq; subst hq; exact .inr (.inl e.symm)
theorem bn_S {b bn bn1 k : Nat} {n0 n1 cap1 : Nat} {N1 : List Nd} {ms1 : Mem0} (h : bn1 = b ∨ bn1 = bn ∨ k ≤ bn1) (hs1 : NdS n0 bn1 n1 cap1 N1 ms1) : ∀ p ∈ ms1, p.1 < k → (p.1 = b ∨ p.1 = bn) := fun p hp hlt => by
  rw [hs1.at_bn p hp] at hlt ⊢
  rcases h with q | q | q
  · exact .inl q
  · exact .inr q
  · omega
theorem rt_hS1 {b bn bn1 k : Nat} {n0 most root first free cnt n1 cap1 : Nat} {N1 : List Nd} {ms1 : Mem0} (h : bn1 = b ∨ bn1 = bn ∨ k ≤ bn1) (hs1 : NdS n0 bn1 n1 cap1 N1 ms1) : ∀ p ∈ rtB b most bn1 n1 cap1 root first free cnt :: ms1, p.1 < k → (fun x => x = b ∨ x = bn) p.1 := fun p hp hlt => by
  rcases List.mem_cons.1 hp with rfl | hp
  · exact .inl rfl
  · exact bn_S h hs1 p hp hlt
theorem RbT.mono {n0 n1 b most : Nat} {L : List Kv} {m : Mem0} (h : RbT n0 b most L m) (hn : n1 ≤ n0) : RbT n1 b most L m := by
  obtain ⟨s, bn, n, cap, ms, rfl, hn', hs, hI, rfl, hb⟩ := h
  exact ⟨s, bn, n, cap, ms, rfl, hn', hs.mono hn, hI, rfl, Nat.le_trans hn hb⟩
def RbN (most : Nat) (n0 : Nat) (v : Value) (m : Mem0) : Prop := ∃ b, v = .pointer (some ⟨b, 0, none⟩) ∧ RbT n0 b most [] m
theorem RbN.mono {most n n' : Nat} {v : Value} {m : Mem0} (hn : n' ≤ n) (h : RbN most n v m) : RbN most n' v m := by
  obtain ⟨b, rfl, h⟩ := h; exact ⟨b, rfl, h.mono hn⟩
set_option maxRecDepth 100000 in
theorem rbnew_spec (w : World) : Ret Try.prog 62 #[.int .i64 16] w (fun v w' => Ext w w' ∧ ∃ m, RbN 16 w.heap.size v m ∧ Mem w' m ∧ ∀ p ∈ m, w.heap.size ≤ p.1) := by
 refine Ret.enterM (l := [.int .i64 16]) Try.func62 rfl Try.ntmps62 rfl ([]) (no) (Mem.nil w) ?_
 refine wpM.seq (wpM.region ?_)
 refine LM.as rfl ?_
 refine LM.nil (QM.sub (e' := [(0, _)]) ⟨rfl, trivial⟩ (QM.then (wpM.seq (wpM.region ?_))))
 refine LM.mv rfl ?_
 refine LM.val (ov_max rfl rfl) ?_
 refine LM.val (ov_min rfl rfl) ?_
 refine LM.make (f := fNd) (a0 := default) Try.underlying129 Try.typeInfo136 rfl rfl rfl rfl (by intro _; rfl) rfl rfl rfl (by omega) (by simp only [Try.t136]; omega) (by omega) (fun b6 hb6 => ?_)
 refine LM.val (ov_build (cs := #[_, _, _, _, _, _]) rfl (by first | rfl | kernel_rfl)) ?_
 refine LM.box rfl rfl (fun b8 hb8 => ?_)
 refine LM.as rfl ?_
 refine LM.nil (QM.sub (e' := [(2, _)]) ⟨rfl, trivial⟩ (QM.then ?_))
 refine wpM.ret ?_
 refine QM.leave (.inl rfl) [.tmp 2] Try.results62 rfl ?_
 intro w' hm' hc' hg'
 exact ⟨hc', _, ⟨b8, rfl, ⟨16, [default], 0, 0, 0, 0⟩, b6, 1, 1, _, rfl, rfl, .inr ⟨b6, 1, [], hb6, rfl, rfl, Nat.le_refl _, by unfold maxLen; decide, rfl⟩, rb_new 16, rfl, hb8⟩, (SubM.mem (by (repeat' (first | exact SubM.all _ | refine SubM.cons rfl ?_ | exact SubM.nil _)))) w' hm', fun p hp => by simp only [List.mem_cons, List.not_mem_nil, or_false] at hp; rcases hp with rfl | rfl; exact hb8; exact hb6⟩
set_option maxRecDepth 100000 in
theorem first_spec {n0 b most : Nat} {L : List Kv} {m : Mem0} (w : World) (h : RbT n0 b most L m) (hM : Mem w m) : Ret Try.prog 73 #[.pointer (some ⟨b, 0, none⟩)] w (fun v w' => v = .tuple #[.agg #[U (L.headD default).V, .int .i64 (L.headD default).id], .int .i64 (L.headD default).x, .bool (decide (L ≠ []))] ∧ Ext w w') := by
 obtain ⟨s, bn, n, cap, ms, rfl, hn, hs, hI, hmo, hb⟩ := h; obtain ⟨hf1, hf2⟩ := fst_use hI
 refine Ret.enterM (l := [.pointer (some ⟨b, 0, none⟩)]) Try.func73 rfl Try.ntmps73 rfl (rtB b s.most bn n cap s.root s.first s.free s.n :: ms) (no) hM ?_
 refine wpM.seq (wpM.region ?_)
 refine LM.alloc Try.zeroValue100 rfl (fun b2 hb2 => ?_)
 refine LM.as rfl (LM.as rfl ?_)
 refine LM.nil (QM.sub (e' := [(0, _), (2, _)]) au9 (QM.then ?_))
 refine wpM.seq ?_
 refine wpM.seq (wpM.region ?_)
 refine LM.mv rfl ?_
 refine LM.val (ov_peql (by kernel_rfl) rfl rfl) ?_
 refine LM.mv rfl (LM.sp 9 rfl rfl rfl (LM.mv rfl (LM.sp 9 rfl rfl rfl ?_)))
 refine LM.val (ov_nilCheck rfl) ?_
 refine LM.sp 9 rfl rfl rfl (LM.val (ov_field Try.underlying131 rfl Try.sizeOf3 rfl (k := 3) rfl rfl) (LM.sp 9 rfl rfl rfl ?_))
 refine LM.rd (om_ld Try.isAgg3 rfl rfl) ?_
 refine LM.sp 9 rfl rfl rfl ?_
 refine LM.val (ov_eql rfl rfl) ?_
 refine LM.val (ov_pickF rfl rfl) ?_
 refine LM.nil (QM.sub (e' := [(0, _), (2, _), (15, _)]) au9 (QM.then ?_))
 refine wpM.condD rfl (fun h1 => ?_) (fun h1 => ?_)
 ·
  have hL0 : L = [] := (by cases L with | nil => rfl | cons e l => exact absurd (Int.natCast_inj.1 h1) (hf2 e l rfl).1); subst hL0
  refine wpM.seq (wpM.region ?_)
  refine LM.as rfl ?_
  refine LM.nil (QM.sub (e' := [(2, _), (5, _)]) au9 (QM.then (wpM.seq (wpM.region ?_))))
  refine LM.val (ov_build (cs := #[_, _]) rfl (by first | rfl | kernel_rfl)) ?_
  refine LM.mv rfl ?_
  refine LM.stW Try.sizeOf100 rfl rfl rfl rfl au7 (fun hlt => by first | exact .inl rfl | exact absurd hlt (by omega)) ?_
  refine LM.as rfl (LM.as rfl ?_)
  refine LM.nil (QM.sub (e' := [(2, _), (3, _), (4, _)]) au9 (QM.then ?_))
  refine wpM.ret ?_
  refine QM.then_ret ?_
  refine QM.leaveCs (ds := ([])) (.inl rfl) [.cell 2 100, .tmp 3, .tmp 4] Try.results73 hd_nil (rc_w rfl Try.isAgg100 Try.sizeOf100 rfl (rc_tmp rfl (rc_tmp rfl rc_nil))) ?_
  intro w' hm' hc'
  exact ⟨rfl, hc'⟩
 obtain ⟨e, l, rfl⟩ : ∃ e l, L = e :: l := (by cases L with | nil => exact absurd (hf1 rfl) (fun q => h1 (Int.natCast_inj.2 q)) | cons e l => exact ⟨e, l, rfl⟩); obtain ⟨hf3, hf4, hf5⟩ := hf2 e l rfl; have hf6 : (s.N.getD s.first default).e = e := congrArg Nd.e hf5
 refine wpM.skip ?_
 refine QM.then ?_
 refine wpM.seq ?_
 refine wpM.draw [(0, 0), (1, 0), (2, 0), (3, 1), (4, 0), (5, 0), (6, 0), (7, 1), (8, 0), (9, 1), (10, 2), (11, 3)] (by kernel_rfl) (by kernel_rfl) ?_
 refine LD.val rfl rfl (ov_move rfl) ?_
 refine LD.val rfl rfl (ov_nilCheck rfl) ?_
 refine LD.val rfl rfl (ov_field Try.underlying131 rfl Try.sizeOf129 rfl (k := 1) rfl rfl) ?_
 refine LD.rd rfl rfl (om_ld Try.isAgg129 rfl rfl) ?_
 refine LD.val rfl rfl (ov_move rfl) ?_
 refine LD.val rfl rfl (ov_nilCheck rfl) ?_
 refine LD.val rfl rfl (ov_field Try.underlying131 rfl Try.sizeOf3 rfl (k := 3) rfl rfl) ?_
 refine LD.rd rfl rfl (om_ld Try.isAgg3 rfl rfl) ?_
 refine LD.val rfl rfl (ov_idxSN au6 Try.underlying129 Try.sizeOf136 rfl rfl (by omega)) ?_
 refine LD.rd rfl rfl (om_slA (by assumption) (by intro _; rfl) Try.isAgg136 Try.sizeOf136 rfl (by exact getq default (by first | omega | (simp only [nL_len, nR_len, nU_len, nC_len, List.length_set, List.length_append, List.length_cons, List.length_nil]; omega)))) ?_
 refine LD.alloc rfl rfl Try.zeroValue136 rfl (fun b6 hb6 => ?_)
 refine LD.tail rfl rfl ?_
 refine LM.stW Try.sizeOf136 rfl rfl rfl rfl au7 (fun hlt => by first | exact .inl rfl | exact absurd hlt (by omega)) ?_
 refine LM.nil ?_
 refine QM.qn ?_
 refine QM.sub (e' := [(2, _), (6, _)]) au9 (QM.then ?_)
 refine wpM.seq ?_
 refine wpM.keep ((b6, _) :: []) (fun _ => True) (.one 0 0 (.one 1 1 (.one 2 0 (.one 3 1 (.one 4 2 (.one 5 0 (.one 6 0 .nil))))))) (by kernel_rfl) (by kernel_rfl) au1 (fun _ _ => trivial) ?_
 refine KD.val rfl rfl (ov_field Try.underlying136 rfl Try.sizeOf100 rfl (k := 0) rfl rfl) ?_
 first | refine KD.rd rfl rfl (om_ldW Try.isAgg100 Try.sizeOf100 rfl rfl) ?_ | refine KD.rd rfl rfl (om_ldA Try.isAgg100 Try.sizeOf100 rfl (vs := [_, _]) rfl ⟨rfl, rfl, trivial⟩) ?_
 refine KD.val rfl rfl (ov_field Try.underlying136 rfl Try.sizeOf3 rfl (k := 2) rfl rfl) ?_
 refine KD.rd rfl rfl (om_ld Try.isAgg3 rfl rfl) ?_
 refine KD.one rfl ?_
 refine LM.stW Try.sizeOf100 rfl rfl rfl rfl au7 (fun hlt => by first | exact .inl rfl | exact absurd hlt (by omega)) ?_
 refine LM.nil ?_
 refine QM.one au1 (fun _ _ => trivial) ?_
 refine KD.val rfl rfl (ov_assign rfl) ?_
 refine KD.val rfl rfl (ov_assign rfl) ?_
 refine KD.nil ?_
 refine QM.sub (e' := [(2, _), (3, _), (4, _)]) au9 (QM.then ?_)
 refine wpM.ret ?_
 refine QM.leaveCs (ds := ([])) (.inl rfl) [.cell 2 100, .tmp 3, .tmp 4] Try.results73 hd_nil (rc_w rfl Try.isAgg100 Try.sizeOf100 rfl (rc_tmp rfl (rc_tmp rfl rc_nil))) ?_
 intro w' hm' hc'
 refine ⟨?_, hc'⟩; show resV [Value.agg #[U (s.N.getD s.first default).e.V, .int .i64 (s.N.getD s.first default).e.id], .int .i64 (s.N.getD s.first default).e.x, .bool true] = _; rw [hf6]; rfl
set_option maxRecDepth 100000 in
theorem ins_spec {n0 b most : Nat} {L : List Kv} {m : Mem0} (k : Kv) (w : World) (hno : ∀ x ∈ L, ¬ yEq x k) (hlt : L.length < most) (hmo0 : most ≤ 100000) (h : RbT n0 b most L m) (hn0 : n0 ≤ w.heap.size) (hM : Mem w m) : Ret Try.prog 64 #[.pointer (some ⟨b, 0, none⟩), .agg #[U k.V, .int .i64 k.id], .int .i64 k.x] w (Upd m (fun u m' => u = .int .i64 0 ∧ RbT n0 b most (insK L k) m') w) := by
 obtain ⟨s, bn, n, cap, ms, rfl, hn, hs, hI, rfl, hb⟩ := h; have hsn := hI.n; have hsl := hI.len; obtain ⟨u, hu, hfd, hpos, hfr, hfi, htl, htg, htw, S', hgr, hI'⟩ := ins_use hI hno (by omega); obtain ⟨T, hT⟩ : ∃ T, T = takN s.N s.free ⟨k, 0, 0, u, true⟩ := ⟨_, rfl⟩; rw [← hT] at htl htg htw hgr hI'
 refine Ret.enterM (l := [.pointer (some ⟨b, 0, none⟩), .agg #[U k.V, .int .i64 k.id], .int .i64 k.x]) Try.func64 rfl Try.ntmps64 rfl (rtB b s.most bn n cap s.root s.first s.free s.n :: ms) ((fun x => x = b ∨ x = bn)) hM ?_
 refine wpM.seq (wpM.region ?_)
 refine LM.box rfl rfl (fun b4 hb4 => ?_)
 refine LM.as rfl ?_
 refine LM.nil (QM.sub (e' := [(0, _), (2, _), (4, _)]) au9 (QM.then ?_))
 refine wpM.seq ?_
 refine wpM.seq (wpM.region ?_)
 refine LM.mv rfl ?_
 refine LM.val (ov_peql (by kernel_rfl) rfl rfl) ?_
 refine LM.nil (QM.sub (e' := [(0, _), (2, _), (4, _), (10, _)]) au9 (QM.then ?_))
 refine wpM.condF rfl ?_
 refine wpM.skip ?_
 refine QM.then (wpM.seq (wpM.region ?_))
 refine LM.mv rfl ?_
 refine LM.rd (om_ldW Try.isAgg100 Try.sizeOf100 rfl rfl) ?_
 refine LM.callE (oc_call (enters_fn Try.func89 (by kernel_rfl) rfl) rfl) (fun w hm hc hg => find_spec (N := s.N) (s.N.length + 3) k w hfd hn hs hI.wf (hm.pick (rtB b s.most bn n cap s.root s.first s.free s.n :: ms))) ?_
 refine LM.mv rfl ?_
 refine LM.val (ov_extract rfl rfl) ?_
 refine LM.val (ov_extract rfl rfl) ?_
 refine LM.as rfl (LM.as rfl ?_)
 refine LM.nil (QM.sub (e' := [(0, _), (2, _), (4, _), (7, _), (8, _)]) au9 (QM.then ?_))
 refine wpM.seq ?_
 refine wpM.block ?_
 refine wpM.seq (wpM.region ?_)
 refine LM.mv rfl ?_
 refine LM.val (ov_neq rfl rfl) ?_
 refine LM.as rfl ?_
 refine LM.nil (QM.sub (e' := [(0, _), (2, _), (4, _), (8, _), (17, _)]) au9 (QM.then ?_))
 refine wpM.condD rfl (fun h1 => ?_) (fun h1 => ?_)
 ·
  exact absurd rfl h1
 refine wpM.seq ?_
 refine wpM.draw [(0, 0), (1, 0), (2, 0), (3, 1), (4, 0), (5, 0), (6, 0), (7, 1), (8, 0), (9, 0)] (by kernel_rfl) (by kernel_rfl) ?_
 refine LD.val rfl rfl (ov_move rfl) ?_
 refine LD.val rfl rfl (ov_nilCheck rfl) ?_
 refine LD.val rfl rfl (ov_field Try.underlying131 rfl Try.sizeOf3 rfl (k := 5) rfl rfl) ?_
 refine LD.rd rfl rfl (om_ld Try.isAgg3 rfl rfl) ?_
 refine LD.val rfl rfl (ov_move rfl) ?_
 refine LD.val rfl rfl (ov_nilCheck rfl) ?_
 refine LD.val rfl rfl (ov_field Try.underlying131 rfl Try.sizeOf3 rfl (k := 0) rfl rfl) ?_
 refine LD.rd rfl rfl (om_ld Try.isAgg3 rfl rfl) ?_
 refine LD.val rfl rfl (ov_geq rfl rfl) ?_
 refine LD.val rfl rfl (ov_assign rfl) ?_
 refine LD.nil ?_
 refine QM.sub (e' := [(0, _), (2, _), (4, _), (8, _), (20, _)]) au9 (QM.then ?_)
 refine wpM.condD rfl (fun h2 => ?_) (fun h2 => ?_)
 ·
  omega
 refine wpM.skip ?_
 refine QM.block_normal ?_
 refine QM.then (wpM.seq (wpM.region ?_))
 refine LM.mv rfl ?_
 refine LM.rd (om_ldW Try.isAgg100 Try.sizeOf100 rfl rfl) ?_
 refine LM.mv rfl (LM.mv rfl ?_)
 refine LM.val (ov_build (cs := #[_, _, _, _, _, _, _]) rfl (by first | rfl | kernel_rfl)) ?_
 refine LM.cU (oc_call (enters_fn Try.func90 (by kernel_rfl) rfl) rfl) (fun w hm hc hg => take_spec (N := s.N) ⟨k, 0, 0, u, true⟩ w hn hs hpos hfr (by omega) (by omega) (Nat.le_trans hn0 hc.size) (hm.pick (rtB b s.most bn n cap s.root s.first s.free s.n :: ms))) (rt_wlk hs) (rt_hS hs) ?_
 rw [← hT]; rintro u35 m35 ⟨rfl, bn1, n1, cap1, ms1, rfl, hn1, hs1⟩ hin1; have hbn1 := bn_in hs hs1 hin1; clear hin1; have hu1 : u < T.1.length := Nat.lt_of_lt_of_le hu htg
 refine LM.as rfl ?_
 refine LM.nil (QM.sub (e' := [(0, _), (4, _), (7, _), (8, _)]) au9 (QM.then ?_))
 refine wpM.seq ?_
 refine wpM.joinK (α := List Nd × Nat × Mem0) (fun ⟨N2, root2, m2⟩ => []) [(0, _), (4, _), (7, _)] (fun ⟨N2, root2, m2⟩ => (b4, .cells #[U k.V, .int .i64 k.id] 100 (0, 0)) :: rtB b s.most bn1 n1 cap1 root2 s.first T.2.2 (s.n + 1) :: (m2 ++ [])) (fun ⟨N2, root2, m2⟩ => NdS n0 bn1 n1 cap1 N2 m2 ∧ lnkF (T.1, s.root) u T.2.1 k = (N2, root2)) ⟨rfl, rfl, rfl, trivial⟩ ?_ ?_
 ·
  refine wpM.block ?_
  refine wpM.seq (wpM.region ?_)
  refine LM.mv rfl ?_
  refine LM.val (ov_eql rfl rfl) ?_
  refine LM.as rfl ?_
  refine LM.nil (QM.sub (e' := [(0, _), (4, _), (7, _), (8, _), (44, _)]) au9 (QM.then ?_))
  refine wpM.condD rfl (fun h3 => ?_) (fun h3 => ?_)
  ·
   refine wpM.region ?_
   refine LM.mv rfl (LM.mv rfl ?_)
   refine LM.val (ov_nilCheck rfl) ?_
   refine LM.val (ov_field Try.underlying131 rfl Try.sizeOf3 rfl (k := 2) rfl rfl) ?_
   refine LM.st Try.sizeOf3 rfl rfl rfl au5 rfl (fun hlt => by first | exact .inl rfl | exact absurd hlt (by omega)) ?_
   refine LM.nil (QM.sub (e' := [(0, _), (4, _), (7, _)]) au9 ?_)
   refine QM.block_normal ?_
   refine QM.meetK (T.1, T.2.1, ms1) ⟨rfl, rfl, rfl, trivial⟩ au1 ?_
   · exact ⟨hs1, if_pos (Int.natCast_inj.1 h3)⟩
  refine wpM.seq ?_
  refine wpM.draw [(0, 1), (1, 0), (2, 0), (3, 0), (4, 1), (5, 0), (6, 0), (7, 0), (8, 1), (9, 2), (10, 0), (11, 0)] (by kernel_rfl) (by kernel_rfl) ?_
  refine LD.rd rfl rfl (om_ldW Try.isAgg100 Try.sizeOf100 rfl rfl) ?_
  refine LD.val rfl rfl (ov_move rfl) ?_
  refine LD.val rfl rfl (ov_nilCheck rfl) ?_
  refine LD.val rfl rfl (ov_field Try.underlying131 rfl Try.sizeOf129 rfl (k := 1) rfl rfl) ?_
  refine LD.rd rfl rfl (om_ld Try.isAgg129 rfl rfl) ?_
  refine LD.val rfl rfl (ov_move rfl) ?_
  refine LD.val rfl rfl (ov_idxSN au6 Try.underlying129 Try.sizeOf136 rfl rfl (by omega)) ?_
  refine LD.val rfl rfl (ov_field Try.underlying136 rfl Try.sizeOf100 rfl (k := 0) rfl rfl) ?_
  refine LD.rd rfl rfl (om_slP (j := 0) (vs := [_, _]) (by assumption) (by intro _; rfl) Try.isAgg100 Try.sizeOf100 rfl rfl (by exact getq default (by first | omega | (simp only [nL_len, nR_len, nU_len, nC_len, List.length_set, List.length_append, List.length_cons, List.length_nil]; omega))) (by decide) rfl rfl) ?_
  refine LD.callE rfl rfl (oc_call (enters_fn Try.func91 (by kernel_rfl) rfl) rfl) (fun w hm hc hg => against_spec k (T.1.getD u default).e w) ?_
  refine LD.val rfl rfl (ov_lss rfl rfl) ?_
  refine LD.val rfl rfl (ov_assign rfl) ?_
  refine LD.nil ?_
  refine QM.sub (e' := [(0, _), (4, _), (7, _), (8, _), (51, _)]) au9 (QM.then ?_)
  refine wpM.condD rfl (fun h4 => ?_) (fun h4 => ?_)
  ·
   refine wpM.region ?_
   refine LM.mv rfl ?_
   refine LM.val (ov_nilCheck rfl) ?_
   refine LM.val (ov_field Try.underlying131 rfl Try.sizeOf129 rfl (k := 1) rfl rfl) ?_
   refine LM.rd (om_ld Try.isAgg129 rfl rfl) ?_
   refine LM.mv rfl (LM.mv rfl ?_)
   refine LM.val (ov_idxSN au6 Try.underlying129 Try.sizeOf136 rfl rfl (by omega)) ?_
   refine LM.val (ov_field Try.underlying136 rfl Try.sizeOf3 rfl (k := 3) rfl rfl) ?_
   refine LM.stS ({ gN (T.1) ( u) with l :=  T.2.1 }) (j := 3) (by assumption) (by intro _; rfl) Try.sizeOf3 rfl rfl rfl (by exact getq default (by first | omega | (simp only [nL_len, nR_len, nU_len, nC_len, List.length_set, List.length_append, List.length_cons, List.length_nil]; omega))) rfl (by decide) (by rfl) rfl (bn_S hbn1 (by assumption)) (fun ms1 hss1 hmm1 => ?_)
   change Sl _ _ _ _ (nL (T.1) ( u) ( T.2.1)) _ _ at hss1
   refine LM.nil (QM.sub (e' := [(0, _), (4, _), (7, _)]) au9 ?_)
   refine QM.block_normal ?_
   refine QM.meetK (nL T.1 u T.2.1, s.root, ms1) ⟨rfl, rfl, rfl, trivial⟩ au1 ?_
   · exact ⟨by assumption, by unfold lnkF; rw [if_neg (fun q => h3 (Int.natCast_inj.2 q)), if_pos h4]⟩
  refine wpM.region ?_
  refine LM.mv rfl ?_
  refine LM.val (ov_nilCheck rfl) ?_
  refine LM.val (ov_field Try.underlying131 rfl Try.sizeOf129 rfl (k := 1) rfl rfl) ?_
  refine LM.rd (om_ld Try.isAgg129 rfl rfl) ?_
  refine LM.mv rfl (LM.mv rfl ?_)
  refine LM.val (ov_idxSN au6 Try.underlying129 Try.sizeOf136 rfl rfl (by omega)) ?_
  refine LM.val (ov_field Try.underlying136 rfl Try.sizeOf3 rfl (k := 4) rfl rfl) ?_
  refine LM.stS ({ gN (T.1) ( u) with r :=  T.2.1 }) (j := 4) (by assumption) (by intro _; rfl) Try.sizeOf3 rfl rfl rfl (by exact getq default (by first | omega | (simp only [nL_len, nR_len, nU_len, nC_len, List.length_set, List.length_append, List.length_cons, List.length_nil]; omega))) rfl (by decide) (by rfl) rfl (bn_S hbn1 (by assumption)) (fun ms1 hss1 hmm1 => ?_)
  change Sl _ _ _ _ (nR (T.1) ( u) ( T.2.1)) _ _ at hss1
  refine LM.nil (QM.sub (e' := [(0, _), (4, _), (7, _)]) au9 ?_)
  refine QM.block_normal ?_
  refine QM.meetK (nR T.1 u T.2.1, s.root, ms1) ⟨rfl, rfl, rfl, trivial⟩ au1 ?_
  · exact ⟨by assumption, by unfold lnkF; rw [if_neg (fun q => h3 (Int.natCast_inj.2 q)), if_neg h4]⟩
 rintro ⟨N2, root2, m2⟩ ⟨hs2, hl2⟩
 change QM _ _ _ _ _ ((b4, .cells #[U k.V, .int .i64 k.id] 100 (0, 0)) :: rtB b s.most bn1 n1 cap1 root2 s.first T.2.2 (s.n + 1) :: (m2 ++ [])) _ _ _
 have hw2 := lnk_wf (up := u) (k := k) htw htl; rw [hl2] at hw2 hgr hI'; have hln2 : N2.length = T.1.length := hw2.len; have hfi2 : s.first < N2.length := (by omega)
 refine QM.then ?_
 refine wpM.seq ?_
 refine wpM.seq ?_
 refine wpM.draw [(0, 0), (1, 0), (2, 0), (3, 1), (4, 0), (5, 0), (6, 1), (7, 0), (8, 0), (9, 0), (10, 1), (11, 0), (12, 0), (13, 0), (14, 1), (15, 0), (16, 0), (17, 1), (18, 2), (19, 0), (20, 0)] (by kernel_rfl) (by kernel_rfl) ?_
 refine LD.val rfl rfl (ov_move rfl) ?_
 refine LD.val rfl rfl (ov_nilCheck rfl) ?_
 refine LD.val rfl rfl (ov_field Try.underlying131 rfl Try.sizeOf3 rfl (k := 3) rfl rfl) ?_
 refine LD.rd rfl rfl (om_ld Try.isAgg3 rfl rfl) ?_
 refine LD.val rfl rfl (ov_eql rfl rfl) ?_
 refine LD.val rfl rfl (ov_move rfl) ?_
 refine LD.splitD (t := 76) rfl (fun h5 => ?_) (fun h5 => ?_)
 ·
  refine LD.drop rfl rfl ⟨76, _, rfl, rfl, rfl⟩ ?_
  refine LD.drop rfl rfl ⟨76, _, rfl, rfl, rfl⟩ ?_
  refine LD.drop rfl rfl ⟨76, _, rfl, rfl, rfl⟩ ?_
  refine LD.drop rfl rfl ⟨76, _, rfl, rfl, rfl⟩ ?_
  refine LD.drop rfl rfl ⟨76, _, rfl, rfl, rfl⟩ ?_
  refine LD.drop rfl rfl ⟨76, _, rfl, rfl, rfl⟩ ?_
  refine LD.drop rfl rfl ⟨76, _, rfl, rfl, rfl⟩ ?_
  refine LD.drop rfl rfl ⟨76, _, rfl, rfl, rfl⟩ ?_
  refine LD.drop rfl rfl ⟨76, _, rfl, rfl, rfl⟩ ?_
  refine LD.drop rfl rfl ⟨76, _, rfl, rfl, rfl⟩ ?_
  refine LD.drop rfl rfl ⟨76, _, rfl, rfl, rfl⟩ ?_
  refine LD.drop rfl rfl ⟨76, _, rfl, rfl, rfl⟩ ?_
  refine LD.drop rfl rfl ⟨76, _, rfl, rfl, rfl⟩ ?_
  refine LD.drop rfl rfl ⟨76, _, rfl, rfl, rfl⟩ ?_
  refine LD.val rfl rfl (ov_pickT rfl rfl) ?_
  refine LD.nil ?_
  refine QM.sub (e' := [(0, _), (7, _), (91, _)]) au9 (QM.then ?_)
  refine wpM.joinK (α := Nat) (fun f1 => []) [(0, _), (7, _)] (fun f1 => (b4, .cells #[U k.V, .int .i64 k.id] 100 (0, 0)) :: rtB b s.most bn1 n1 cap1 root2 f1 T.2.2 (s.n + 1) :: (m2 ++ [])) (fun f1 => frsF N2 s.first T.2.1 k = f1) ⟨rfl, rfl, trivial⟩ ?_ ?_
  ·
   refine wpM.condT rfl ?_
   refine wpM.region ?_
   refine LM.mv rfl (LM.mv rfl ?_)
   refine LM.val (ov_nilCheck rfl) ?_
   refine LM.val (ov_field Try.underlying131 rfl Try.sizeOf3 rfl (k := 3) rfl rfl) ?_
   refine LM.st Try.sizeOf3 rfl rfl rfl au5 rfl (fun hlt => by first | exact .inl rfl | exact absurd hlt (by omega)) ?_
   refine LM.nil (QM.sub (e' := [(0, _), (7, _)]) au9 ?_)
   refine QM.meetK (T.2.1) ⟨rfl, rfl, trivial⟩ au1 ?_
   · exact if_pos (.inl (Int.natCast_inj.1 h5))
  rintro f1 hf1
  change QM _ _ _ _ _ ((b4, .cells #[U k.V, .int .i64 k.id] 100 (0, 0)) :: rtB b s.most bn1 n1 cap1 root2 f1 T.2.2 (s.n + 1) :: (m2 ++ [])) _ _ _
  refine QM.then (wpM.seq (wpM.region ?_))
  refine LM.mv rfl (LM.mv rfl ?_)
  refine LM.cU (oc_call (enters_fn Try.func92 (by kernel_rfl) rfl) rfl) (fun w hm hc hg => grown_spec (N := N2) (root := root2) (s.N.length + 3) T.2.1 w hgr (hn1.trans hln2.symm) hs2 (by rw [hln2]; exact hw2) (by omega) (hm.pick (rtB b s.most bn1 n1 cap1 root2 f1 T.2.2 (s.n + 1) :: m2))) (rt_wlk hs2) (rt_hS1 hbn1 hs2) ?_
  rintro u98 m98 ⟨rfl, m3, rfl, hs3⟩ -; have hw3 := grw_wf _ _ _ _ hgr hw2 htl; rw [hf1] at hI'
  refine LM.nil (QM.sub (e' := []) trivial (QM.then (wpM.seq (wpM.region ?_))))
  refine LM.as rfl ?_
  refine LM.nil (QM.sub (e' := [(6, _)]) ⟨rfl, trivial⟩ (QM.then ?_))
  refine wpM.ret ?_
  refine QM.leave (.inl rfl) [.tmp 6] Try.results64 rfl ?_
  intro w' hm' hc' hg'
  exact rb_leaf (s' := ⟨s.most, S'.1, S'.2, f1, T.2.2, s.n + 1⟩) hs hI' rfl (hn1.trans hw3.len.symm) hs3 hb hm' au1 hc' hbn1
 refine LD.rd rfl ⟨76, _, rfl, rfl, rfl⟩ (om_ldW Try.isAgg100 Try.sizeOf100 rfl rfl) ?_
 refine LD.val rfl ⟨76, _, rfl, rfl, rfl⟩ (ov_move rfl) ?_
 refine LD.val rfl ⟨76, _, rfl, rfl, rfl⟩ (ov_nilCheck rfl) ?_
 refine LD.val rfl ⟨76, _, rfl, rfl, rfl⟩ (ov_field Try.underlying131 rfl Try.sizeOf129 rfl (k := 1) rfl rfl) ?_
 refine LD.rd rfl ⟨76, _, rfl, rfl, rfl⟩ (om_ld Try.isAgg129 rfl rfl) ?_
 refine LD.val rfl ⟨76, _, rfl, rfl, rfl⟩ (ov_move rfl) ?_
 refine LD.val rfl ⟨76, _, rfl, rfl, rfl⟩ (ov_nilCheck rfl) ?_
 refine LD.val rfl ⟨76, _, rfl, rfl, rfl⟩ (ov_field Try.underlying131 rfl Try.sizeOf3 rfl (k := 3) rfl rfl) ?_
 refine LD.rd rfl ⟨76, _, rfl, rfl, rfl⟩ (om_ld Try.isAgg3 rfl rfl) ?_
 refine LD.val rfl ⟨76, _, rfl, rfl, rfl⟩ (ov_idxSN au6 Try.underlying129 Try.sizeOf136 rfl rfl (by omega)) ?_
 refine LD.val rfl ⟨76, _, rfl, rfl, rfl⟩ (ov_field Try.underlying136 rfl Try.sizeOf100 rfl (k := 0) rfl rfl) ?_
 refine LD.rd rfl ⟨76, _, rfl, rfl, rfl⟩ (om_slP (j := 0) (vs := [_, _]) (by assumption) (by intro _; rfl) Try.isAgg100 Try.sizeOf100 rfl rfl (by exact getq default (by first | omega | (simp only [nL_len, nR_len, nU_len, nC_len, List.length_set, List.length_append, List.length_cons, List.length_nil]; omega))) (by decide) rfl rfl) ?_
 refine LD.callE rfl ⟨76, _, rfl, rfl, rfl⟩ (oc_call (enters_fn Try.func91 (by kernel_rfl) rfl) rfl) (fun w hm hc hg => against_spec k (N2.getD s.first default).e w) ?_
 refine LD.val rfl ⟨76, _, rfl, rfl, rfl⟩ (ov_lss rfl rfl) ?_
 refine LD.val rfl rfl (ov_pickF rfl rfl) ?_
 refine LD.nil ?_
 refine QM.sub (e' := [(0, _), (7, _), (91, _)]) au9 (QM.then ?_)
 refine wpM.joinK (α := Nat) (fun f1 => []) [(0, _), (7, _)] (fun f1 => (b4, .cells #[U k.V, .int .i64 k.id] 100 (0, 0)) :: rtB b s.most bn1 n1 cap1 root2 f1 T.2.2 (s.n + 1) :: (m2 ++ [])) (fun f1 => frsF N2 s.first T.2.1 k = f1) ⟨rfl, rfl, trivial⟩ ?_ ?_
 ·
  refine wpM.condD rfl (fun h6 => ?_) (fun h6 => ?_)
  ·
   refine wpM.region ?_
   refine LM.mv rfl (LM.mv rfl ?_)
   refine LM.val (ov_nilCheck rfl) ?_
   refine LM.val (ov_field Try.underlying131 rfl Try.sizeOf3 rfl (k := 3) rfl rfl) ?_
   refine LM.st Try.sizeOf3 rfl rfl rfl au5 rfl (fun hlt => by first | exact .inl rfl | exact absurd hlt (by omega)) ?_
   refine LM.nil (QM.sub (e' := [(0, _), (7, _)]) au9 ?_)
   refine QM.meetK (T.2.1) ⟨rfl, rfl, trivial⟩ au1 ?_
   · exact if_pos (.inr h6)
  refine wpM.skip ?_
  refine QM.meetK (s.first) ⟨rfl, rfl, trivial⟩ au1 ?_
  · exact if_neg (fun q => q.elim (fun q => h5 (Int.natCast_inj.2 q)) h6)
 rintro f1 hf1
 change QM _ _ _ _ _ ((b4, .cells #[U k.V, .int .i64 k.id] 100 (0, 0)) :: rtB b s.most bn1 n1 cap1 root2 f1 T.2.2 (s.n + 1) :: (m2 ++ [])) _ _ _
 refine QM.then (wpM.seq (wpM.region ?_))
 refine LM.mv rfl (LM.mv rfl ?_)
 refine LM.cU (oc_call (enters_fn Try.func92 (by kernel_rfl) rfl) rfl) (fun w hm hc hg => grown_spec (N := N2) (root := root2) (s.N.length + 3) T.2.1 w hgr (hn1.trans hln2.symm) hs2 (by rw [hln2]; exact hw2) (by omega) (hm.pick (rtB b s.most bn1 n1 cap1 root2 f1 T.2.2 (s.n + 1) :: m2))) (rt_wlk hs2) (rt_hS1 hbn1 hs2) ?_
 rintro u98 m98 ⟨rfl, m3, rfl, hs3⟩ -; have hw3 := grw_wf _ _ _ _ hgr hw2 htl; rw [hf1] at hI'
 refine LM.nil (QM.sub (e' := []) trivial (QM.then (wpM.seq (wpM.region ?_))))
 refine LM.as rfl ?_
 refine LM.nil (QM.sub (e' := [(6, _)]) ⟨rfl, trivial⟩ (QM.then ?_))
 refine wpM.ret ?_
 refine QM.leave (.inl rfl) [.tmp 6] Try.results64 rfl ?_
 intro w' hm' hc' hg'
 exact rb_leaf (s' := ⟨s.most, S'.1, S'.2, f1, T.2.2, s.n + 1⟩) hs hI' rfl (hn1.trans hw3.len.symm) hs3 hb hm' au1 hc' hbn1
theorem vic_pos {S : Ns} {i nx : Nat} (h : (gN S.1 i).l ≠ 0 ∧ (gN S.1 i).r ≠ 0) : vicF S i nx = ((S.1.set i { gN S.1 i with e := (gN S.1 nx).e }, S.2), nx) := if_pos h
theorem vic_neg {S : Ns} {i nx : Nat} (h : ¬ ((gN S.1 i).l ≠ 0 ∧ (gN S.1 i).r ≠ 0)) : vicF S i nx = (S, i) := if_neg h
theorem set_set_nd {N : List Nd} {i : Nat} {a a' : Nd} : (N.set i a).set i a' = N.set i a' := List.set_set ..
set_option maxRecDepth 100000 in
theorem del_spec {n0 b most : Nat} {L : List Kv} {m : Mem0} (k e : Kv) (w : World) (he : e ∈ L) (hke : yEq k e) (hmo0 : most ≤ 100000) (h : RbT n0 b most L m) (hM : Mem w m) : Ret Try.prog 67 #[.pointer (some ⟨b, 0, none⟩), .agg #[U k.V, .int .i64 k.id]] w (Upd m (fun u m' => u = .tuple #[.int .i64 e.x, .bool true] ∧ RbT n0 b most (delK L k) m') w) := by
 obtain ⟨s, bn, n, cap, ms, rfl, hn, hs, hI, rfl, hb⟩ := h; have hsn := hI.n; have hsl := hI.len; have hsm := hI.most; obtain ⟨i, u, hfd, hi0, hi, hex, hsn0, hfi, nx, hnx, hnxl, S', hcut, hvl, hSl, hI'⟩ := del_use hI he hke
 refine Ret.enterM (l := [.pointer (some ⟨b, 0, none⟩), .agg #[U k.V, .int .i64 k.id]]) Try.func67 rfl Try.ntmps67 rfl (rtB b s.most bn n cap s.root s.first s.free s.n :: ms) ((fun x => x = b ∨ x = bn)) hM ?_
 refine wpM.seq (wpM.region ?_)
 refine LM.box rfl rfl (fun b3 hb3 => ?_)
 refine LM.as rfl (LM.as rfl ?_)
 refine LM.nil (QM.sub (e' := [(0, _), (3, _)]) au9 (QM.then (wpM.seq (wpM.region ?_))))
 refine LM.as rfl ?_
 refine LM.nil (QM.sub (e' := [(0, _), (3, _), (6, _)]) au9 (QM.then ?_))
 refine wpM.seq ?_
 refine wpM.seq (wpM.region ?_)
 refine LM.mv rfl ?_
 refine LM.val (ov_peql (by kernel_rfl) rfl rfl) ?_
 refine LM.nil (QM.sub (e' := [(0, _), (3, _), (6, _), (12, _)]) au9 (QM.then ?_))
 refine wpM.condF rfl ?_
 refine wpM.skip ?_
 refine QM.then (wpM.seq (wpM.region ?_))
 refine LM.mv rfl ?_
 refine LM.rd (om_ldW Try.isAgg100 Try.sizeOf100 rfl rfl) ?_
 refine LM.callE (oc_call (enters_fn Try.func89 (by kernel_rfl) rfl) rfl) (fun w hm hc hg => find_spec (N := s.N) (s.N.length + 3) k w hfd hn hs hI.wf (hm.pick (rtB b s.most bn n cap s.root s.first s.free s.n :: ms))) ?_
 refine LM.mv rfl ?_
 refine LM.val (ov_extract rfl rfl) ?_
 refine LM.val (ov_extract rfl rfl) ?_
 refine LM.as rfl (LM.as rfl ?_)
 refine LM.nil (QM.sub (e' := [(0, _), (6, _), (7, _)]) au9 (QM.then ?_))
 refine wpM.seq ?_
 refine wpM.seq (wpM.region ?_)
 refine LM.mv rfl ?_
 refine LM.val (ov_eql rfl rfl) ?_
 refine LM.nil (QM.sub (e' := [(0, _), (6, _), (7, _), (21, _)]) au9 (QM.then ?_))
 refine wpM.condD rfl (fun h1 => ?_) (fun h1 => ?_)
 ·
  exact absurd (Int.natCast_inj.1 h1) hi0
 refine wpM.skip ?_
 refine QM.then (wpM.seq (wpM.region ?_))
 refine LM.mv rfl ?_
 refine LM.val (ov_nilCheck rfl) ?_
 refine LM.val (ov_field Try.underlying131 rfl Try.sizeOf129 rfl (k := 1) rfl rfl) ?_
 refine LM.rd (om_ld Try.isAgg129 rfl rfl) ?_
 refine LM.mv rfl ?_
 refine LM.val (ov_idxSN au6 Try.underlying129 Try.sizeOf136 rfl rfl (by omega)) ?_
 refine LM.val (ov_field Try.underlying136 rfl Try.sizeOf3 rfl (k := 2) rfl rfl) ?_
 refine LM.rd (om_slE (j := 2) (by assumption) (by intro _; rfl) Try.isAgg3 rfl rfl (by exact getq default (by first | omega | (simp only [nL_len, nR_len, nU_len, nC_len, List.length_set, List.length_append, List.length_cons, List.length_nil]; omega))) rfl (by rfl)) ?_
 refine LM.as rfl ?_
 refine LM.nil (QM.sub (e' := [(0, _), (7, _), (9, _)]) au9 (QM.then ?_))
 refine wpM.seq ?_
 refine wpM.seq (wpM.region ?_)
 refine LM.mv rfl ?_
 refine LM.val (ov_nilCheck rfl) ?_
 refine LM.val (ov_field Try.underlying131 rfl Try.sizeOf3 rfl (k := 3) rfl rfl) ?_
 refine LM.rd (om_ld Try.isAgg3 rfl rfl) ?_
 refine LM.mv rfl ?_
 refine LM.val (ov_eql rfl rfl) ?_
 refine LM.nil (QM.sub (e' := [(0, _), (7, _), (9, _), (36, _)]) au9 (QM.then ?_))
 refine wpM.joinK (α := Nat) (fun f1 => []) [(0, _), (7, _), (9, _)] (fun f1 => (b3, .cells #[U k.V, .int .i64 k.id] 100 (0, 0)) :: rtB b s.most bn n cap s.root f1 s.free s.n :: (ms ++ [])) (fun f1 => (if s.first = i then nx else s.first) = f1) ⟨rfl, rfl, rfl, trivial⟩ ?_ ?_
 ·
  refine wpM.condD rfl (fun h2 => ?_) (fun h2 => ?_)
  ·
   refine wpM.region ?_
   refine LM.mv rfl (LM.mv rfl (LM.mv rfl ?_))
   refine LM.callE (oc_call (enters_fn Try.func93 (by kernel_rfl) rfl) rfl) (fun w hm hc hg => next_spec (N := s.N) (root := s.root) (first := s.first) (s.N.length + 3) i w hnx hn hs hI.wf hi (hm.pick (rtB b s.most bn n cap s.root s.first s.free s.n :: ms))) ?_
   refine LM.val (ov_nilCheck rfl) ?_
   refine LM.val (ov_field Try.underlying131 rfl Try.sizeOf3 rfl (k := 3) rfl rfl) ?_
   refine LM.st Try.sizeOf3 rfl rfl rfl au5 rfl (fun hlt => by first | exact .inl rfl | exact absurd hlt (by omega)) ?_
   refine LM.nil (QM.sub (e' := [(0, _), (7, _), (9, _)]) au9 ?_)
   refine QM.meetK (nx) ⟨rfl, rfl, rfl, trivial⟩ au1 ?_
   · exact if_pos (Int.natCast_inj.1 h2)
  refine wpM.skip ?_
  refine QM.meetK (s.first) ⟨rfl, rfl, rfl, trivial⟩ au1 ?_
  · exact if_neg (fun q => h2 (Int.natCast_inj.2 q))
 rintro f1 hf1
 change QM _ _ _ _ _ ((b3, .cells #[U k.V, .int .i64 k.id] 100 (0, 0)) :: rtB b s.most bn n cap s.root f1 s.free s.n :: (ms ++ [])) _ _ _
 refine QM.then ?_
 refine wpM.seq ?_
 refine wpM.seq (wpM.region ?_)
 refine LM.mv rfl ?_
 refine LM.val (ov_nilCheck rfl) ?_
 refine LM.val (ov_field Try.underlying131 rfl Try.sizeOf129 rfl (k := 1) rfl rfl) ?_
 refine LM.rd (om_ld Try.isAgg129 rfl rfl) ?_
 refine LM.mv rfl ?_
 refine LM.val (ov_idxSN au6 Try.underlying129 Try.sizeOf136 rfl rfl (by omega)) ?_
 refine LM.val (ov_field Try.underlying136 rfl Try.sizeOf3 rfl (k := 3) rfl rfl) ?_
 refine LM.rd (om_slE (j := 3) (by assumption) (by intro _; rfl) Try.isAgg3 rfl rfl (by exact getq default (by first | omega | (simp only [nL_len, nR_len, nU_len, nC_len, List.length_set, List.length_append, List.length_cons, List.length_nil]; omega))) rfl (by rfl)) ?_
 refine LM.val (ov_neq rfl rfl) ?_
 refine LM.mv rfl ?_
 refine LM.splitD (t := 52) rfl (fun h3 => ?_) (fun h3 => ?_)
 ·
  refine LM.sp 52 rfl rfl rfl (LM.mv rfl (LM.sp 52 rfl rfl rfl ?_))
  refine LM.val (ov_nilCheck rfl) ?_
  refine LM.sp 52 rfl rfl rfl (LM.val (ov_field Try.underlying131 rfl Try.sizeOf129 rfl (k := 1) rfl rfl) (LM.sp 52 rfl rfl rfl ?_))
  refine LM.rd (om_ld Try.isAgg129 rfl rfl) ?_
  refine LM.sp 52 rfl rfl rfl (LM.mv rfl (LM.sp 52 rfl rfl rfl ?_))
  refine LM.val (ov_idxSN au6 Try.underlying129 Try.sizeOf136 rfl rfl (by omega)) ?_
  refine LM.sp 52 rfl rfl rfl (LM.val (ov_field Try.underlying136 rfl Try.sizeOf3 rfl (k := 4) rfl rfl) (LM.sp 52 rfl rfl rfl ?_))
  refine LM.rd (om_slE (j := 4) (by assumption) (by intro _; rfl) Try.isAgg3 rfl rfl (by exact getq default (by first | omega | (simp only [nL_len, nR_len, nU_len, nC_len, List.length_set, List.length_append, List.length_cons, List.length_nil]; omega))) rfl (by rfl)) ?_
  refine LM.sp 52 rfl rfl rfl ?_
  refine LM.val (ov_neq rfl rfl) ?_
  refine LM.val (ov_pickT rfl rfl) ?_
  refine LM.nil (QM.sub (e' := [(0, _), (7, _), (9, _), (62, _)]) au9 (QM.then ?_))
  refine wpM.joinK (α := List Nd × Nat × Nat × Mem0) (fun ⟨N2, i2, f2, m2⟩ => [(7, .int .i64 (i2 : Nat))]) [(0, _), (9, _)] (fun ⟨N2, i2, f2, m2⟩ => rtB b s.most bn n cap s.root f2 s.free s.n :: (m2 ++ [])) (fun ⟨N2, i2, f2, m2⟩ => NdS n0 bn n cap N2 m2 ∧ vicF (s.N, s.root) i nx = ((N2, s.root), i2) ∧ fstF s.N s.first i nx = f2) ⟨rfl, rfl, trivial⟩ ?_ ?_
  ·
   refine wpM.condD rfl (fun h4 => ?_) (fun h4 => ?_)
   ·
    refine wpM.seq (wpM.region ?_)
    refine LM.mv rfl (LM.mv rfl ?_)
    refine LM.callE (oc_call (enters_fn Try.func93 (by kernel_rfl) rfl) rfl) (fun w hm hc hg => next_spec (N := s.N) (root := s.root) (first := f1) (s.N.length + 3) i w hnx hn hs hI.wf hi (hm.pick (rtB b s.most bn n cap s.root f1 s.free s.n :: ms))) ?_
    refine LM.as rfl ?_
    refine LM.nil (QM.sub (e' := [(0, _), (7, _), (9, _), (10, _)]) au9 (QM.then ?_))
    refine wpM.seq ?_
    refine wpM.draw [(0, 0), (1, 0), (2, 0), (3, 1), (4, 0), (5, 0), (6, 0), (7, 0), (8, 1), (9, 0), (10, 0), (11, 0), (12, 0), (13, 1), (14, 0), (15, 0), (16, 0), (17, 1), (18, 0), (19, 0), (20, 0), (21, 1), (22, 0), (23, 0), (24, 0), (25, 1), (26, 0), (27, 0), (28, 3), (29, 3), (30, 3), (31, 3)] (by kernel_rfl) (by kernel_rfl) ?_
    refine LD.val rfl rfl (ov_move rfl) ?_
    refine LD.val rfl rfl (ov_nilCheck rfl) ?_
    refine LD.val rfl rfl (ov_field Try.underlying131 rfl Try.sizeOf129 rfl (k := 1) rfl rfl) ?_
    refine LD.rd rfl rfl (om_ld Try.isAgg129 rfl rfl) ?_
    refine LD.val rfl rfl (ov_move rfl) ?_
    refine LD.val rfl rfl (ov_move rfl) ?_
    refine LD.val rfl rfl (ov_nilCheck rfl) ?_
    refine LD.val rfl rfl (ov_field Try.underlying131 rfl Try.sizeOf129 rfl (k := 1) rfl rfl) ?_
    refine LD.rd rfl rfl (om_ld Try.isAgg129 rfl rfl) ?_
    refine LD.val rfl rfl (ov_move rfl) ?_
    refine LD.val rfl rfl (ov_move rfl) ?_
    refine LD.val rfl rfl (ov_nilCheck rfl) ?_
    refine LD.val rfl rfl (ov_field Try.underlying131 rfl Try.sizeOf129 rfl (k := 1) rfl rfl) ?_
    refine LD.rd rfl rfl (om_ld Try.isAgg129 rfl rfl) ?_
    refine LD.val rfl rfl (ov_move rfl) ?_
    refine LD.val rfl rfl (ov_idxSN au6 Try.underlying129 Try.sizeOf136 rfl rfl (by omega)) ?_
    refine LD.val rfl rfl (ov_field Try.underlying136 rfl Try.sizeOf100 rfl (k := 0) rfl rfl) ?_
    refine LD.rd rfl rfl (om_slP (j := 0) (vs := [_, _]) (by assumption) (by intro _; rfl) Try.isAgg100 Try.sizeOf100 rfl rfl (by exact getq default (by first | omega | (simp only [nL_len, nR_len, nU_len, nC_len, List.length_set, List.length_append, List.length_cons, List.length_nil]; omega))) (by decide) rfl rfl) ?_
    refine LD.val rfl rfl (ov_move rfl) ?_
    refine LD.val rfl rfl (ov_nilCheck rfl) ?_
    refine LD.val rfl rfl (ov_field Try.underlying131 rfl Try.sizeOf129 rfl (k := 1) rfl rfl) ?_
    refine LD.rd rfl rfl (om_ld Try.isAgg129 rfl rfl) ?_
    refine LD.val rfl rfl (ov_move rfl) ?_
    refine LD.val rfl rfl (ov_idxSN au6 Try.underlying129 Try.sizeOf136 rfl rfl (by omega)) ?_
    refine LD.val rfl rfl (ov_field Try.underlying136 rfl Try.sizeOf3 rfl (k := 2) rfl rfl) ?_
    refine LD.rd rfl rfl (om_slE (j := 2) (by assumption) (by intro _; rfl) Try.isAgg3 rfl rfl (by exact getq default (by first | omega | (simp only [nL_len, nR_len, nU_len, nC_len, List.length_set, List.length_append, List.length_cons, List.length_nil]; omega))) rfl (by rfl)) ?_
    refine LD.val rfl rfl (ov_idxSN au6 Try.underlying129 Try.sizeOf136 rfl rfl (by omega)) ?_
    refine LD.val rfl rfl (ov_field Try.underlying136 rfl Try.sizeOf100 rfl (k := 0) rfl rfl) ?_
    refine LD.tail rfl rfl ?_
    refine LM.stS (({ gN s.N i with e := ⟨(gN s.N nx).e.V, (gN s.N nx).e.id, (gN s.N i).e.x⟩ } : Nd)) (j := 0) (by assumption) (by intro _; rfl) Try.sizeOf100 rfl rfl rfl (by exact getq default (by first | omega | (simp only [nL_len, nR_len, nU_len, nC_len, List.length_set, List.length_append, List.length_cons, List.length_nil]; omega))) rfl (by decide) (by rfl) rfl (fun p hp _ => .inr (Sl.at_bn (by assumption) p hp)) (fun ms1 hss1 hmm1 => ?_)
    refine LM.val (ov_idxSN au6 Try.underlying129 Try.sizeOf136 rfl rfl (by omega)) ?_
    refine LM.val (ov_field Try.underlying136 rfl Try.sizeOf3 rfl (k := 2) rfl rfl) ?_
    refine LM.stS (a := { gN s.N i with e := ⟨(gN s.N nx).e.V, (gN s.N nx).e.id, (gN s.N i).e.x⟩ }) ({ gN s.N i with e := (gN s.N nx).e } : Nd) (j := 2) hss1 (by intro _; rfl) Try.sizeOf3 rfl rfl rfl (List.getElem?_set_self (by omega)) rfl (by decide) (by rfl) rfl (fun p hp _ => .inr (Sl.at_bn hss1 p hp)) (fun ms2 hss2 hmm2 => ?_)
    refine LM.nil ?_
    refine QM.qn ?_
    refine QM.sub (e' := [(0, _), (7, _), (9, _), (10, _)]) au9 (QM.then ?_)
    refine wpM.seq ?_
    refine wpM.seq (wpM.region ?_)
    refine LM.mv rfl ?_
    refine LM.val (ov_nilCheck rfl) ?_
    refine LM.val (ov_field Try.underlying131 rfl Try.sizeOf3 rfl (k := 3) rfl rfl) ?_
    refine LM.rd (om_ld Try.isAgg3 rfl rfl) ?_
    refine LM.mv rfl ?_
    refine LM.val (ov_eql rfl rfl) ?_
    refine LM.nil (QM.sub (e' := [(0, _), (7, _), (9, _), (10, _), (101, _)]) au9 (QM.then ?_))
    refine wpM.condD rfl (fun h5 => ?_) (fun h5 => ?_)
    ·
     refine wpM.region ?_
     refine LM.mv rfl (LM.mv rfl ?_)
     refine LM.val (ov_nilCheck rfl) ?_
     refine LM.val (ov_field Try.underlying131 rfl Try.sizeOf3 rfl (k := 3) rfl rfl) ?_
     refine LM.st Try.sizeOf3 rfl rfl rfl au5 rfl (fun hlt => by first | exact .inl rfl | exact absurd hlt (by omega)) ?_
     refine LM.nil (QM.sub (e' := [(0, _), (9, _), (10, _)]) au9 (QM.then (wpM.region ?_)))
     refine LM.mv rfl (LM.as rfl ?_)
     refine LM.nil (QM.sub (e' := [(0, _), (7, _), (9, _)]) au9 ?_)
     refine QM.meetK (s.N.set i { gN s.N i with e := (gN s.N nx).e }, nx, i, ms2) ⟨au2, rfl, rfl, trivial⟩ au1 ?_
     · exact ⟨by rw [set_set_nd] at hss2; exact hss2, vic_pos ⟨fun q => h3 (Int.natCast_inj.2 q), fun q => h4 (Int.natCast_inj.2 q)⟩, by unfold fstF; rw [if_pos ⟨fun q => h3 (Int.natCast_inj.2 q), fun q => h4 (Int.natCast_inj.2 q)⟩, hf1, if_pos (Int.natCast_inj.1 h5)]⟩
    refine wpM.skip ?_
    refine QM.then (wpM.region ?_)
    refine LM.mv rfl (LM.as rfl ?_)
    refine LM.nil (QM.sub (e' := [(0, _), (7, _), (9, _)]) au9 ?_)
    refine QM.meetK (s.N.set i { gN s.N i with e := (gN s.N nx).e }, nx, f1, ms2) ⟨au2, rfl, rfl, trivial⟩ au1 ?_
    · exact ⟨by rw [set_set_nd] at hss2; exact hss2, vic_pos ⟨fun q => h3 (Int.natCast_inj.2 q), fun q => h4 (Int.natCast_inj.2 q)⟩, by unfold fstF; rw [if_pos ⟨fun q => h3 (Int.natCast_inj.2 q), fun q => h4 (Int.natCast_inj.2 q)⟩, hf1, if_neg (fun q => h5 (Int.natCast_inj.2 q))]⟩
   refine wpM.skip ?_
   refine QM.meetK (s.N, i, f1, ms) ⟨au2, rfl, rfl, trivial⟩ au1 ?_
   · exact ⟨hs, vic_neg (fun q => q.2 (Int.natCast_inj.1 (Classical.not_not.1 h4))), by unfold fstF; rw [if_neg (fun q => q.2 (Int.natCast_inj.1 (Classical.not_not.1 h4))), hf1]⟩
  rintro ⟨N2, i2, f2, m2⟩ ⟨hs2, hv2, hf2⟩
  change QM _ _ _ _ _ (rtB b s.most bn n cap s.root f2 s.free s.n :: (m2 ++ [])) _ _ _
  have hw2 := (vic_wf (S := (s.N, s.root)) (i := i) (s := nx) hI.wf hi hnxl); rw [hv2] at hw2 hcut hvl hI'; rw [hf2] at hI'; have hln2 : N2.length = s.N.length := hw2.1.len
  refine QM.then (wpM.seq (wpM.region ?_))
  refine LM.mv rfl (LM.mv rfl ?_)
  refine LM.cU (oc_call (enters_fn Try.func94 (by kernel_rfl) rfl) rfl) (fun w hm hc hg => cut_spec (N := N2) (root := s.root) (s.N.length + 3) i2 w hcut (hn.trans hln2.symm) hs2 (by rw [hln2]; exact hw2.1) (by rw [hln2]; exact hw2.2) (hm.pick (rtB b s.most bn n cap s.root f2 s.free s.n :: m2))) (rt_wlk hs2) (rt_hS hs2) ?_
  rintro u109 m109 ⟨rfl, m3, rfl, hs3⟩ -
  refine LM.nil (QM.sub (e' := [(0, _), (7, _), (9, _)]) au9 (QM.then (wpM.seq (wpM.region ?_))))
  refine LM.mv rfl (LM.mv rfl ?_)
  refine LM.cU (oc_call (enters_fn Try.func95 (by kernel_rfl) rfl) rfl) (fun w hm hc hg => give_spec (N := S'.1) (root := S'.2) i2 w (hn.trans hSl.symm) hs3 (by rw [hSl]; exact hw2.2) hsn0 (by omega) (hm.pick (rtB b s.most bn n cap S'.2 f2 s.free s.n :: m3))) (rt_wlk hs3) (rt_hS hs3) ?_
  rintro u112 m112 ⟨rfl, m4, rfl, hs4⟩ -
  refine LM.nil (QM.sub (e' := [(9, _)]) ⟨rfl, trivial⟩ (QM.then (wpM.seq (wpM.region ?_))))
  refine LM.mv rfl (LM.as rfl (LM.as rfl ?_))
  refine LM.nil (QM.sub (e' := [(4, _), (5, _)]) au9 (QM.then ?_))
  refine wpM.ret ?_
  refine QM.leave (.inl rfl) [.tmp 4, .tmp 5] Try.results67 rfl ?_
  intro w' hm' hc' hg'
  exact hex ▸ rb_leaf (s' := ⟨s.most, S'.1.set i2 { (default : Nd) with l := s.free }, S'.2, f2, i2, s.n - 1⟩) hs hI' rfl (by rw [List.length_set, hSl]; exact hn) hs4 hb hm' au1 hc' (.inr (.inl rfl))
 refine LM.dr 52 rfl rfl rfl (LM.dr 52 rfl rfl rfl (LM.dr 52 rfl rfl rfl (LM.dr 52 rfl rfl rfl (LM.dr 52 rfl rfl rfl (LM.dr 52 rfl rfl rfl ?_)))))
 refine LM.dr 52 rfl rfl rfl (LM.dr 52 rfl rfl rfl (LM.dr 52 rfl rfl rfl ?_))
 refine LM.val (ov_pickF rfl rfl) ?_
 refine LM.nil (QM.sub (e' := [(0, _), (7, _), (9, _), (62, _)]) au9 (QM.then ?_))
 refine wpM.joinK (α := List Nd × Nat × Nat × Mem0) (fun ⟨N2, i2, f2, m2⟩ => [(7, .int .i64 (i2 : Nat))]) [(0, _), (9, _)] (fun ⟨N2, i2, f2, m2⟩ => rtB b s.most bn n cap s.root f2 s.free s.n :: (m2 ++ [])) (fun ⟨N2, i2, f2, m2⟩ => NdS n0 bn n cap N2 m2 ∧ vicF (s.N, s.root) i nx = ((N2, s.root), i2) ∧ fstF s.N s.first i nx = f2) ⟨rfl, rfl, trivial⟩ ?_ ?_
 ·
  refine wpM.condF rfl ?_
  refine wpM.skip ?_
  refine QM.meetK (s.N, i, f1, ms) ⟨au2, rfl, rfl, trivial⟩ au1 ?_
  · exact ⟨hs, vic_neg (fun q => q.1 (Int.natCast_inj.1 (Classical.not_not.1 h3))), by unfold fstF; rw [if_neg (fun q => q.1 (Int.natCast_inj.1 (Classical.not_not.1 h3))), hf1]⟩
 rintro ⟨N2, i2, f2, m2⟩ ⟨hs2, hv2, hf2⟩
 change QM _ _ _ _ _ (rtB b s.most bn n cap s.root f2 s.free s.n :: (m2 ++ [])) _ _ _
 have hw2 := (vic_wf (S := (s.N, s.root)) (i := i) (s := nx) hI.wf hi hnxl); rw [hv2] at hw2 hcut hvl hI'; rw [hf2] at hI'; have hln2 : N2.length = s.N.length := hw2.1.len
 refine QM.then (wpM.seq (wpM.region ?_))
 refine LM.mv rfl (LM.mv rfl ?_)
 refine LM.cU (oc_call (enters_fn Try.func94 (by kernel_rfl) rfl) rfl) (fun w hm hc hg => cut_spec (N := N2) (root := s.root) (s.N.length + 3) i2 w hcut (hn.trans hln2.symm) hs2 (by rw [hln2]; exact hw2.1) (by rw [hln2]; exact hw2.2) (hm.pick (rtB b s.most bn n cap s.root f2 s.free s.n :: m2))) (rt_wlk hs2) (rt_hS hs2) ?_
 rintro u109 m109 ⟨rfl, m3, rfl, hs3⟩ -
 refine LM.nil (QM.sub (e' := [(0, _), (7, _), (9, _)]) au9 (QM.then (wpM.seq (wpM.region ?_))))
 refine LM.mv rfl (LM.mv rfl ?_)
 refine LM.cU (oc_call (enters_fn Try.func95 (by kernel_rfl) rfl) rfl) (fun w hm hc hg => give_spec (N := S'.1) (root := S'.2) i2 w (hn.trans hSl.symm) hs3 (by rw [hSl]; exact hw2.2) hsn0 (by omega) (hm.pick (rtB b s.most bn n cap S'.2 f2 s.free s.n :: m3))) (rt_wlk hs3) (rt_hS hs3) ?_
 rintro u112 m112 ⟨rfl, m4, rfl, hs4⟩ -
 refine LM.nil (QM.sub (e' := [(9, _)]) ⟨rfl, trivial⟩ (QM.then (wpM.seq (wpM.region ?_))))
 refine LM.mv rfl (LM.as rfl (LM.as rfl ?_))
 refine LM.nil (QM.sub (e' := [(4, _), (5, _)]) au9 (QM.then ?_))
 refine wpM.ret ?_
 refine QM.leave (.inl rfl) [.tmp 4, .tmp 5] Try.results67 rfl ?_
 intro w' hm' hc' hg'
 exact hex ▸ rb_leaf (s' := ⟨s.most, S'.1.set i2 { (default : Nd) with l := s.free }, S'.2, f2, i2, s.n - 1⟩) hs hI' rfl (by rw [List.length_set, hSl]; exact hn) hs4 hb hm' au1 hc' (.inr (.inl rfl))
end Go.Eng
namespace Go.Eng
open Go Go.Proofs Go.RowKit
def allK (L : List Kv) : List (Array Value) := L.map (fun t => #[.agg #[U t.V, .int .i64 t.id], .int .i64 t.x])
theorem allK_len (L : List Kv) : (allK L).length = L.length := by simp [allK]
theorem allK_get {L : List Kv} {k : Nat} (h : k < L.length) : (allK L)[k]? = some #[.agg #[U (L.getD k default).V, .int .i64 (L.getD k default).id], .int .i64 (L.getD k default).x] := by
  unfold allK; rw [List.getElem?_map, getq default h]; rfl
theorem allK_inv {L : List Kv} {k : Nat} {av : Array Value} (h : (allK L)[k]? = some av) : k < L.length ∧ av = #[.agg #[U (L.getD k default).V, .int .i64 (L.getD k default).id], .int .i64 (L.getD k default).x] := by
  have hk : k < L.length := by have := (List.getElem?_eq_some_iff.1 h).1; rwa [allK_len] at this
  rw [allK_get hk] at h
  exact ⟨hk, (Option.some.inj h).symm⟩
abbrev tP (c b : Nat) : Nat × Obj := (c, .cells #[.pointer (some ⟨b, 0, none⟩)] 90 (0, 0))
set_option maxRecDepth 100000 in
theorem over_seq {n0 b bn n cap : Nat} {s : RbS} {L : List Kv} {ms : Mem0} (hn : n = s.N.length) (hs : NdS n0 bn n cap s.N ms) (hI : RbI s L) : SeqL Try.prog 106 [.pointer (some ⟨b, 0, none⟩),  .int .i64 (s.first : Nat)] (allK L) (fun w => Mem w (rtB b s.most bn n cap s.root s.first s.free s.n :: ms)) := by
 obtain ⟨ix, hx0, hxL, hix⟩ := it_use hI
 refine SeqL.enter (lb := [.pointer (some ⟨b, 0, none⟩),  .int .i64 (s.first : Nat)]) Try.func106 rfl Try.ntmps106 rfl ?_
 intro l n0 J Jx w0 hJr gJ gJx hy
 rw [← hx0]
 refine wpM.block ?_
 refine wpM.loopK (α := Nat) (fun k => [(1, .int .i64 (ix k : Nat))]) [(0, _), (2, _)] (fun k => []) (fun k => J k) (fun k => k ≤ L.length) (fun k => L.length - k) (0) ⟨au2, rfl, rfl, trivial⟩ au1 (fun _ h => h) (Nat.zero_le _) ?_
 rintro k hk
 change wpM _ _ _ _ _ _ _ ([]) _ _ _
 refine wpM.seq ?_
 refine wpM.seq (wpM.region ?_)
 refine LM.mv rfl ?_
 refine LM.val (ov_neq rfl rfl) ?_
 refine LM.nil (QM.sub (e' := [(0, _), (1, _), (2, _), (8, _)]) au9 (QM.then ?_))
 refine wpM.condD rfl (fun h1 => ?_) (fun h1 => ?_)
 ·
  have hkl : k < L.length := (by rcases Nat.lt_or_ge k L.length with q | q; exact q; exact absurd (by rw [show k = L.length by omega, hxL]; rfl) h1); obtain ⟨hxz, hxl, hxe, hxn⟩ := hix k hkl
  refine wpM.skip ?_
  refine QM.then ?_
  refine wpM.block ?_
  refine wpM.seq (wpM.region ?_)
  refine LM.mv rfl ?_
  refine LM.val (ov_nilCheck rfl) ?_
  refine LM.val (ov_field Try.underlying131 rfl Try.sizeOf129 rfl (k := 1) rfl rfl) ?_
  refine LM.rdC (fun w _ _ hg => om_ld (M := rtB b s.most bn n cap s.root s.first s.free s.n :: ms) Try.isAgg129 rfl rfl w (hJr _ w hg)) ?_
  refine LM.mv rfl ?_
  refine LM.val (ov_idxSN au6 Try.underlying129 Try.sizeOf136 rfl rfl (by omega)) ?_
  refine LM.rdC (fun w _ _ hg => ow_srEA (hs.srM (by intro _; rfl) (hJr _ w hg)) (by intro _; rfl) Try.isAgg136 Try.sizeOf136 rfl (getq default hxl)) ?_
  refine LM.allocF Try.zeroValue136 rfl (fun b6 hb6 => ?_)
  refine LM.stWF Try.sizeOf136 rfl rfl rfl rfl au7 au8 (by omega) ?_
  refine LM.unF ?_
  refine LM.nil (QM.sub (e' := [(0, _), (1, _), (2, _), (6, _)]) au9 (QM.then ?_))
  refine wpM.seq ?_
  refine wpM.seq (wpM.region ?_)
  refine LM.mv rfl (LM.val (ov_field Try.underlying136 rfl Try.sizeOf100 rfl (k := 0) rfl rfl) ?_)
  first | refine LM.rd (om_ldW Try.isAgg100 Try.sizeOf100 rfl rfl) ?_ | refine LM.rd (om_ldA Try.isAgg100 Try.sizeOf100 rfl (vs := [_, _]) rfl ⟨rfl, rfl, trivial⟩) ?_
  refine LM.val (ov_field Try.underlying136 rfl Try.sizeOf3 rfl (k := 2) rfl rfl) ?_
  refine LM.rd (om_ld Try.isAgg3 rfl rfl) ?_
  refine LM.mem (M' := []) (fun w _ => Mem.nil w) ?_
  refine LM.yield (n := n0) (G1 := J (k + 1)) (G2 := Jx) rfl rfl (fun w hj => hy (k) _ w (by rw [allK_get hkl, ← hxe]; rfl) hj) (fun _ => trivial) ?_ ?_
  ·
   first | refine LM.val (ov_notD rfl) ?_ | refine LM.val (ov_not rfl) ?_
   refine LM.nil (QM.sub (e' := [(0, _), (1, _), (2, _), (22, _)]) au9 (QM.then ?_))
   refine wpM.condF rfl ?_
   refine wpM.skip ?_
   refine QM.then (wpM.region ?_)
   refine LM.mv rfl (LM.mv rfl ?_)
   refine LM.callE (oc_call (enters_fn Try.func93 (by kernel_rfl) rfl) rfl) (fun w hm hc hg => next_spec (N := s.N) (s.N.length + 3) (ix k) w hxn hn hs hI.wf hxl (hJr _ w hg)) ?_
   refine LM.as rfl ?_
   refine LM.nil (QM.sub (e' := [(0, _), (1, _), (2, _)]) au9 ?_)
   refine QM.block_normal ?_
   refine QM.againK (k + 1) ⟨au2, rfl, rfl, trivial⟩ au1 (fun _ h => h) ?_ ?_
   · omega
   · omega
  first | refine LM.val (ov_notD rfl) ?_ | refine LM.val (ov_not rfl) ?_
  refine LM.nil (QM.sub (e' := [(0, _), (1, _), (2, _), (22, _)]) au9 (QM.then ?_))
  refine wpM.condT rfl ?_
  refine wpM.ret ?_
  refine QM.then_ret ?_
  refine QM.block_ret ?_
  refine QM.then_ret ?_
  refine QM.block_ret ?_
  refine QM.leave (.inl rfl) [] Try.results106 rfl ?_
  intro w' hm' hc' hg'
  exact .inr hg'
 refine wpM.exit ?_
 refine QM.then_exit ?_
 refine QM.then_exit ?_
 refine QM.block_hit ?_
 refine QM.leave (.inr rfl) [] Try.results106 rfl ?_
 intro w' hm' hc' hg'
 have hkl : k = L.length := (by rcases Nat.lt_or_ge k L.length with q | q; exact absurd (fun z => (hix k q).1 (Int.natCast_inj.1 z)) h1; omega); subst hkl; exact .inl (by rw [allK_len]; exact hg')
def RbA (b n0 : Nat) (v : Value) (m : Mem0) : Prop := ∃ c1, v = .func (.func 105) #[] #[.pointer (some ⟨c1, 0, none⟩)] ∧ m = [tP c1 b] ∧ n0 ≤ c1
theorem RbA.mono {b : Nat} : ∀ (k k' : Nat) u m, k' ≤ k → RbA b k u m → RbA b k' u m := fun k k' u m h ⟨b1, h1, h2, h3⟩ => ⟨b1, h1, h2, by omega⟩
set_option maxRecDepth 100000 in
theorem rball_spec (b : Nat) (w : World) : Ret Try.prog 82 #[.pointer (some ⟨b, 0, none⟩)] w (fun v w' => Ext w w' ∧ ∃ m, RbA b w.heap.size v m ∧ Mem w' m ∧ ∀ p ∈ m, w.heap.size ≤ p.1) := by
 refine Ret.enterM (l := [.pointer (some ⟨b, 0, none⟩)]) Try.func82 rfl Try.ntmps82 rfl ([]) (no) (Mem.nil w) ?_
 refine wpM.seq (wpM.region ?_)
 refine LM.box rfl rfl (fun b1 hb1 => ?_)
 refine LM.as rfl ?_
 refine LM.nil (QM.sub (e' := [(1, _)]) ⟨rfl, trivial⟩ (QM.then (wpM.seq (wpM.region ?_))))
 refine LM.val (ov_makeFunc rfl) ?_
 refine LM.as rfl ?_
 refine LM.nil (QM.sub (e' := [(2, _)]) ⟨rfl, trivial⟩ (QM.then ?_))
 refine wpM.ret ?_
 refine QM.leave (.inl rfl) [.tmp 2] Try.results82 rfl ?_
 intro w' hm' hc' hg'
 exact ⟨hc', _, ⟨b1, rfl, rfl, hb1⟩, SubM.mem au1 _ hm', fun p hp => by simp only [List.mem_cons, List.not_mem_nil, or_false] at hp; subst hp; assumption⟩
set_option maxRecDepth 100000 in
theorem rball_seq {n0 b c1 most : Nat} {L : List Kv} {m : Mem0} (h : RbT n0 b most L m) : SeqC Try.prog 105 #[.pointer (some ⟨c1, 0, none⟩)] (allK L) (fun w => Mem w (tP c1 b :: m)) (True) := by
 obtain ⟨s, bn, n, cap, ms, rfl, hn, hs, hI, hmo, hb⟩ := h
 refine SeqC.enter (lb := [.pointer (some ⟨c1, 0, none⟩)]) Try.func105 rfl Try.ntmps105 rfl ?_
 intro l n0 J Jx w0 hfin hJr gJ gJx hy
 refine wpM.seq (wpM.region ?_)
 refine LM.rdC (fun w _ _ hg => om_ld (M := tP c1 b :: rtB b s.most bn n cap s.root s.first s.free s.n :: ms) Try.isAgg90 rfl rfl w (hJr _ w hg)) ?_
 refine LM.val (ov_pneq (by kernel_rfl) rfl rfl) ?_
 refine LM.nil (QM.sub (e' := [(0, _), (1, _), (4, _)]) au9 (QM.then ?_))
 refine wpM.condT rfl ?_
 refine wpM.draw [(0, 1), (1, 1), (2, 0), (3, 0), (4, 1), (5, 0), (6, 3)] (by kernel_rfl) (by kernel_rfl) ?_
 refine LD.rdC rfl rfl (fun w _ _ hg => om_ld (M := tP c1 b :: rtB b s.most bn n cap s.root s.first s.free s.n :: ms) Try.isAgg90 rfl rfl w (hJr _ w hg)) ?_
 refine LD.rdC rfl rfl (fun w _ _ hg => om_ld (M := tP c1 b :: rtB b s.most bn n cap s.root s.first s.free s.n :: ms) Try.isAgg90 rfl rfl w (hJr _ w hg)) ?_
 refine LD.val rfl rfl (ov_nilCheck rfl) ?_
 refine LD.val rfl rfl (ov_field Try.underlying131 rfl Try.sizeOf3 rfl (k := 3) rfl rfl) ?_
 refine LD.rdC rfl rfl (fun w _ _ hg => om_ld (M := tP c1 b :: rtB b s.most bn n cap s.root s.first s.free s.n :: ms) Try.isAgg3 rfl rfl w (hJr _ w hg)) ?_
 refine LD.val rfl rfl (ov_move rfl) ?_
 refine LD.tail rfl rfl ?_
 refine LM.callL (lb := [.pointer (some ⟨b, 0, none⟩), .int .i64 (s.first : Nat)]) (oc_call (enters_fn Try.func106 (by kernel_rfl) rfl) rfl) (over_seq hn hs hI) (fun k w hj => (hJr k w hj).tail) gJ gJx hy (fun _ => trivial) (fun u => ?_)
 refine LM.nil ?_
 refine QM.qn ?_
 refine QM.sub (e' := []) trivial ?_
 refine QM.leave (.inr rfl) [] Try.results105 rfl ?_
 intro w' hm' hc' hg'
 exact hg'
end Go.Eng
namespace Go.Eng
open Go Go.RowKit
structure Qm where
  g : Int
  fl : BitVec 64
  l : List Kv
  cur : Int
  ran : Int
def bringO (n lo hi : Int) : Int := if n < lo then lo else if hi < n then hi else n
def addO (a b : BitVec 64) : BitVec 64 := if a.toNat + b.toNat < 18446744073709551616 then a + b else 18446744073709551615#64
def coreO (w : Int) : BitVec 64 := 1099511627776#64 / BitVec.ofInt 64 (bringO w 1 4096)
def reachO (w g : Int) : BitVec 64 := coreO w * BitVec.ofInt 64 (bringO g 1 8)
def clampO (v fl r : BitVec 64) : BitVec 64 := if v.toNat < fl.toNat then fl else if (addO fl r).toNat < v.toNat then addO fl r else v
def ixO (l : List Kv) (a : Int) : Nat := l.findIdx (fun t => decide (t.id = a))
def plcO (x : Qm) (v : BitVec 64) (w : Int) : BitVec 64 := clampO v x.fl (reachO w x.g)
def insAll (l : List Kv) : List Kv := l.foldl insK []
def rdyO (x : Qm) : List Kv := insAll (x.l.filter (fun t => decide (t.id ≠ x.cur)))
def loadO (l : List Kv) : Int := (l.map (·.x)).sum
structure QWf (x : Qm) : Prop where
  nd : (x.l.map (·.id)).Nodup
  pos : ∀ t ∈ x.l, 0 ≤ t.id
  len : x.l.length ≤ 16
  wt : ∀ t ∈ x.l, 1 ≤ t.x ∧ t.x ≤ 4096
  cur : x.cur = -1 ∨ ∃ t ∈ x.l, t.id = x.cur
  g : 1 ≤ x.g ∧ x.g ≤ 8
  ran : 0 ≤ x.ran
theorem ixO_cons (t : Kv) (l : List Kv) (a : Int) : ixO (t :: l) a = if t.id = a then 0 else ixO l a + 1 := by
  unfold ixO; rw [List.findIdx_cons]
  by_cases h : t.id = a
  · rw [if_pos h, decide_eq_true h]; rfl
  · rw [if_neg h, decide_eq_false h]; rfl
theorem ixO_hit {l : List Kv} {a : Int} (h : ixO l a < l.length) : (l.getD (ixO l a) default).id = a ∧ l.getD (ixO l a) default ∈ l := by
  have h2 : l.getD (ixO l a) default = l[ixO l a] := by rw [List.getD_eq_getElem?_getD, List.getElem?_eq_getElem h]; rfl
  rw [h2]
  have h3 := List.findIdx_getElem (p := fun t : Kv => decide (t.id = a)) (xs := l) (w := h)
  exact ⟨of_decide_eq_true h3, List.getElem_mem h⟩
theorem ixO_lt {l : List Kv} {a : Int} : ixO l a < l.length ↔ ∃ t ∈ l, t.id = a := by
  unfold ixO; rw [List.findIdx_lt_length]
  exact ⟨fun ⟨t, h, e⟩ => ⟨t, h, of_decide_eq_true e⟩, fun ⟨t, h, e⟩ => ⟨t, h, decide_eq_true e⟩⟩
theorem ixO_app {l m : List Kv} {a : Int} (h : ¬ ixO l a < l.length) : ixO (l ++ m) a = l.length + ixO m a := by
  induction l with
  | nil => simp
  | cons t l ih =>
    rw [ixO_cons] at h
    by_cases e : t.id = a
    · rw [if_pos e] at h; simp at h
    · rw [if_neg e, List.length_cons] at h
      rw [List.cons_append, ixO_cons, if_neg e, ih (by omega), List.length_cons]; omega
theorem uniq_id {l : List Kv} (h : (l.map (·.id)).Nodup) {a b : Kv} (ha : a ∈ l) (hb : b ∈ l) (e : a.id = b.id) : a = b := by
  induction l with
  | nil => cases ha
  | cons t l ih =>
    rw [List.map_cons, List.nodup_cons] at h
    obtain ⟨hq1, hq2⟩ := h
    rcases List.mem_cons.1 ha with ea | ha2
    · rcases List.mem_cons.1 hb with eb | hb2
      · exact ea.trans eb.symm
      · exact absurd (List.mem_map.2 ⟨b, hb2, by rw [← ea]; exact e.symm⟩) hq1
    · rcases List.mem_cons.1 hb with eb | hb2
      · exact absurd (List.mem_map.2 ⟨a, ha2, by rw [← eb]; exact e⟩) hq1
      · exact ih hq2 ha2 hb2
/-! sorted lists -/
theorem srt_ext : ∀ {a b : List Kv}, Srt a → Srt b → (∀ x, x ∈ a ↔ x ∈ b) → a = b
  | [], [], _, _, _ => rfl
  | [], y :: b, _, _, h => absurd ((h y).2 (List.mem_cons_self ..)) (by simp)
  | x :: a, [], _, _, h => absurd ((h x).1 (List.mem_cons_self ..)) (by simp)
  | x :: a, y :: b, ha, hb, h => by
    have h1 := List.pairwise_cons.1 ha
    have h2 := List.pairwise_cons.1 hb
    have hxy : x = y := by
      rcases List.mem_cons.1 ((h x).1 (List.mem_cons_self ..)) with e | e
      · exact e
      · rcases List.mem_cons.1 ((h y).2 (List.mem_cons_self ..)) with e2 | e2
        · exact e2.symm
        · exact absurd (h1.1 y e2) (h2.1 x e).asym
    subst hxy
    refine congrArg _ (srt_ext h1.2 h2.2 (fun z => ?_))
    have hz := h z
    rw [List.mem_cons, List.mem_cons] at hz
    refine ⟨fun q => ?_, fun q => ?_⟩
    · rcases hz.1 (.inr q) with e | e
      · subst e; exact absurd (h1.1 _ q) (yLt.irr _)
      · exact e
    · rcases hz.2 (.inr q) with e | e
      · subst e; exact absurd (h2.1 _ q) (yLt.irr _)
      · exact e
theorem insK_srt {L : List Kv} (h : Srt L) (k : Kv) : Srt (insK L k) := by
  unfold insK Srt
  refine List.pairwise_append.2 ⟨List.Pairwise.filter _ h, List.pairwise_cons.2 ⟨fun y hy => of_decide_eq_true (List.mem_filter.1 hy).2, List.Pairwise.filter _ h⟩, fun x hx y hy => ?_⟩
  have h1 : yLt x k := of_decide_eq_true (List.mem_filter.1 hx).2
  rcases List.mem_cons.1 hy with rfl | hy
  · exact h1
  · exact h1.trans (of_decide_eq_true (List.mem_filter.1 hy).2)
theorem insK_mem {L : List Kv} {k : Kv} (h : ∀ x ∈ L, ¬ yEq x k) (x : Kv) : x ∈ insK L k ↔ x ∈ L ∨ x = k := by
  unfold insK
  simp only [List.mem_append, List.mem_cons, List.mem_filter, decide_eq_true_eq]
  constructor
  · rintro (q | q | q)
    · exact .inl q.1
    · exact .inr q
    · exact .inl q.1
  · rintro (q | q)
    · rcases k_tri x k with e | e | e
      · exact absurd e (h x q)
      · exact .inl ⟨q, e⟩
      · exact .inr (.inr ⟨q, e⟩)
    · exact .inr (.inl q)
theorem foldl_ins : ∀ (l L : List Kv), Srt L → (l.map (·.id)).Nodup → (∀ x ∈ L, ∀ y ∈ l, x.id ≠ y.id) → Srt (l.foldl insK L) ∧ ∀ x, x ∈ l.foldl insK L ↔ x ∈ L ∨ x ∈ l
  | [], L, h, _, _ => ⟨h, fun x => by simp⟩
  | t :: l, L, h, hn, hd => by
    rw [List.map_cons, List.nodup_cons] at hn
    have hm := insK_mem (L := L) (k := t) (fun x hx e => hd x hx t (List.mem_cons_self ..) e.2)
    have ih := foldl_ins l (insK L t) (insK_srt h t) hn.2 (fun x hx y hy => by
      rcases (hm x).1 hx with q | rfl
      · exact hd x q y (List.mem_cons_of_mem _ hy)
      · exact fun e => hn.1 (List.mem_map.2 ⟨y, hy, e.symm⟩))
    refine ⟨ih.1, fun x => ?_⟩
    rw [List.foldl_cons, ih.2 x, hm x, List.mem_cons]
    constructor
    · rintro ((q | q) | q)
      · exact .inl q
      · exact .inr (.inl q)
      · exact .inr (.inr q)
    · rintro (q | q | q)
      · exact .inl (.inl q)
      · exact .inl (.inr q)
      · exact .inr q
theorem nodup_filt {l : List Kv} {p : Kv → Bool} (h : (l.map (·.id)).Nodup) : ((l.filter p).map (·.id)).Nodup := List.Sublist.nodup (List.Sublist.map _ List.filter_sublist) h
theorem rdy_srt {x : Qm} (h : (x.l.map (·.id)).Nodup) : Srt (rdyO x) := (foldl_ins _ [] List.Pairwise.nil (nodup_filt h) (fun x hx => by cases hx)).1
theorem rdy_mem {x : Qm} (h : (x.l.map (·.id)).Nodup) (t : Kv) : t ∈ rdyO x ↔ t ∈ x.l ∧ t.id ≠ x.cur := by
  unfold rdyO insAll
  rw [(foldl_ins _ [] List.Pairwise.nil (nodup_filt h) (fun x hx => by cases hx)).2 t]
  simp
theorem delK_mem (L : List Kv) (k x : Kv) : x ∈ delK L k ↔ x ∈ L ∧ ¬ yEq k x := by
  unfold delK; rw [List.mem_filter, decide_eq_true_eq]
theorem delK_srt {L : List Kv} (h : Srt L) (k : Kv) : Srt (delK L k) := List.Pairwise.filter _ h
theorem rdy_ins {x x' : Qm} {k : Kv} (h : (x.l.map (·.id)).Nodup) (h' : (x'.l.map (·.id)).Nodup) (hk : ∀ t ∈ x.l, t.id ≠ x.cur → t.id ≠ k.id)
    (hm : ∀ t, (t ∈ x'.l ∧ t.id ≠ x'.cur) ↔ (t ∈ x.l ∧ t.id ≠ x.cur) ∨ t = k) : insK (rdyO x) k = rdyO x' :=
  srt_ext (insK_srt (rdy_srt h) k) (rdy_srt h') (fun t => by
    rw [insK_mem (fun t ht e => hk t ((rdy_mem h t).1 ht).1 ((rdy_mem h t).1 ht).2 e.2), rdy_mem h, rdy_mem h', hm])
theorem rdy_del {x x' : Qm} {k : Kv} (h : (x.l.map (·.id)).Nodup) (h' : (x'.l.map (·.id)).Nodup) 
    (hm : ∀ t, (t ∈ x'.l ∧ t.id ≠ x'.cur) ↔ (t ∈ x.l ∧ t.id ≠ x.cur) ∧ ¬ yEq k t) : delK (rdyO x) k = rdyO x' :=
  srt_ext (delK_srt (rdy_srt h) k) (rdy_srt h') (fun t => by rw [delK_mem, rdy_mem h, rdy_mem h', hm])
theorem rdy_same {x x' : Qm} (h : (x.l.map (·.id)).Nodup) (h' : (x'.l.map (·.id)).Nodup) 
    (hm : ∀ t, (t ∈ x'.l ∧ t.id ≠ x'.cur) ↔ (t ∈ x.l ∧ t.id ≠ x.cur)) : rdyO x = rdyO x' :=
  srt_ext (rdy_srt h) (rdy_srt h') (fun t => by rw [rdy_mem h, rdy_mem h', hm])
theorem rdy_len {x : Qm} (h : (x.l.map (·.id)).Nodup) : (rdyO x).length ≤ x.l.length := by
  have : ∀ (l L : List Kv), (l.foldl insK L).length ≤ L.length + l.length := by
    intro l
    induction l with
    | nil => intro L; simp
    | cons t l ih =>
      intro L
      rw [List.foldl_cons, List.length_cons]
      refine Nat.le_trans (ih _) ?_
      have : (insK L t).length ≤ L.length + 1 := by
        unfold insK
        rw [List.length_append, List.length_cons]
        have : ∀ (L : List Kv), (L.filter (fun x => decide (yLt x t))).length + (L.filter (fun x => decide (yLt t x))).length ≤ L.length := by
          intro L
          induction L with
          | nil => simp
          | cons y L ih2 =>
            by_cases h1 : yLt y t
            · rw [List.filter_cons_of_pos (by simpa using h1), List.filter_cons_of_neg (by simpa using h1.asym)]; simp only [List.length_cons]; omega
            · rw [List.filter_cons_of_neg (by simpa using h1)]
              by_cases h2 : yLt t y
              · rw [List.filter_cons_of_pos (by simpa using h2)]; simp only [List.length_cons]; omega
              · rw [List.filter_cons_of_neg (by simpa using h2)]; simp only [List.length_cons]; omega
        have := this L
        omega
      omega
  have h1 := this (x.l.filter (fun t => decide (t.id ≠ x.cur))) []
  have h2 : (x.l.filter (fun t => decide (t.id ≠ x.cur))).length ≤ x.l.length := List.length_filter_le ..
  unfold rdyO insAll
  simp at h1 ⊢; simp at h2; omega
/-! what is done -/
def newQ (g : Int) : Qm := ⟨bringO g 1 8, 0#64, [], -1, 0⟩
def addQ (x : Qm) (a : Int) (v : BitVec 64) (w : Int) : Qm := { x with l := x.l ++ [⟨plcO x v (bringO w 1 4096), a, bringO w 1 4096⟩] }
def addE (x : Qm) (a : Int) : Int := if a < 0 then 1 else if ixO x.l a < x.l.length then 12 else if 16 ≤ x.l.length then 3 else 0
def remQ (x : Qm) (a : Int) : Qm := if x.cur = a then { x with l := x.l.eraseIdx (ixO x.l a), cur := -1, ran := 0 } else { x with l := x.l.eraseIdx (ixO x.l a) }
def pickQ (x : Qm) (a : Int) : Qm := { x with cur := a, ran := 0 }
def pickO (x : Qm) : Int := if 0 ≤ x.cur then -1 else match rdyO x with | [] => -1 | t :: _ => t.id
def pikQ (x : Qm) : Qm := if pickO x < 0 then x else pickQ x (pickO x)
def backQ (x : Qm) : Qm := { x with cur := -1, ran := 0 }
def bakQ (x : Qm) : Qm := if 0 ≤ x.cur then backQ x else x
def tickL (l : List Kv) (a : Int) : List Kv := l.set (ixO l a) { l.getD (ixO l a) default with V := addO (l.getD (ixO l a) default).V (coreO (l.getD (ixO l a) default).x) }
def tickQ (x : Qm) : Qm := if 0 ≤ x.cur then { x with l := tickL x.l x.cur, ran := x.ran + 1 } else x
def weighQ (x : Qm) (a w : Int) : Qm := 
  { x with ran := if (x.l.getD (ixO x.l a) default).x ≠ bringO w 1 4096 ∧ x.cur = a then x.g else x.ran
           l := x.l.set (ixO x.l a) ⟨plcO x (x.l.getD (ixO x.l a) default).V (bringO w 1 4096), a, bringO w 1 4096⟩ }
def minO : List Kv → BitVec 64
  | [] => 0#64
  | t :: l => l.foldl (fun m s => if s.V.toNat < m.toNat then s.V else m) t.V
def setlQ (x : Qm) : Qm := match x.l with | [] => x | _ :: _ => if x.fl.toNat < (minO x.l).toNat then { x with fl := minO x.l } else x
/-! they keep a queue whole -/
theorem mem_set_at {l : List Kv} {a : Int} (hn : (l.map (·.id)).Nodup) (h : ixO l a < l.length) {y : Kv} (hy : y.id = a) (t : Kv) : t ∈ l.set (ixO l a) y ↔ t = y ∨ (t ∈ l ∧ t.id ≠ a) := by
  induction l with
  | nil => simp at h
  | cons s l ih =>
    rw [List.map_cons, List.nodup_cons] at hn
    rw [ixO_cons] at h ⊢
    by_cases e : s.id = a
    · rw [if_pos e, List.set_cons_zero, List.mem_cons, List.mem_cons]
      constructor
      · rintro (q | q)
        · exact .inl q
        · exact .inr ⟨.inr q, fun e2 => hn.1 (List.mem_map.2 ⟨t, q, e2.trans e.symm⟩)⟩
      · rintro (q | ⟨q | q, e2⟩)
        · exact .inl q
        · rw [q] at e2; exact absurd e e2
        · exact .inr q
    · rw [if_neg e, List.length_cons] at h
      rw [if_neg e, List.set_cons_succ, List.mem_cons, ih hn.2 (by omega), List.mem_cons]
      constructor
      · rintro (q | q | q)
        · rw [q]; exact .inr ⟨.inl rfl, e⟩
        · exact .inl q
        · exact .inr ⟨.inr q.1, q.2⟩
      · rintro (q | ⟨q | q, e2⟩)
        · exact .inr (.inl q)
        · exact .inl q
        · exact .inr (.inr ⟨q, e2⟩)
theorem mem_erase_at {l : List Kv} {a : Int} (hn : (l.map (·.id)).Nodup) (h : ixO l a < l.length) (t : Kv) : t ∈ l.eraseIdx (ixO l a) ↔ t ∈ l ∧ t.id ≠ a := by
  induction l with
  | nil => simp at h
  | cons s l ih =>
    rw [List.map_cons, List.nodup_cons] at hn
    rw [ixO_cons] at h ⊢
    by_cases e : s.id = a
    · rw [if_pos e, List.eraseIdx_cons_zero, List.mem_cons]
      constructor
      · intro q; exact ⟨.inr q, fun e2 => hn.1 (List.mem_map.2 ⟨t, q, e2.trans e.symm⟩)⟩
      · rintro ⟨q | q, e2⟩
        · rw [q] at e2; exact absurd e e2
        · exact q
    · rw [if_neg e, List.length_cons] at h
      rw [if_neg e, List.eraseIdx_cons_succ, List.mem_cons, ih hn.2 (by omega), List.mem_cons]
      constructor
      · rintro (q | q)
        · rw [q]; exact ⟨.inl rfl, e⟩
        · exact ⟨.inr q.1, q.2⟩
      · rintro ⟨q | q, e2⟩
        · exact .inl q
        · exact .inr ⟨q, e2⟩
theorem map_set_at {l : List Kv} {a : Int} (h : ixO l a < l.length) {y : Kv} (hy : y.id = a) : (l.set (ixO l a) y).map (·.id) = l.map (·.id) := by
  rw [List.map_set]
  apply List.ext_getElem?
  intro i
  rw [List.getElem?_set]
  split
  · rename_i e; subst e
    have := (ixO_hit h).1
    rw [List.getD_eq_getElem?_getD, List.getElem?_eq_getElem h] at this
    rw [if_pos (by simpa using h), List.getElem?_map, List.getElem?_eq_getElem h, Option.map_some, hy]; exact congrArg _ this.symm
  · rfl
theorem nodup_erase {l : List Kv} {i : Nat} (h : (l.map (·.id)).Nodup) : ((l.eraseIdx i).map (·.id)).Nodup := List.Sublist.nodup (List.Sublist.map _ (List.eraseIdx_sublist ..)) h
theorem bring_in {n lo hi : Int} (h : lo ≤ hi) : lo ≤ bringO n lo hi ∧ bringO n lo hi ≤ hi := by unfold bringO; split; omega; split <;> omega
theorem QWf.ix {x : Qm} (h : QWf x) (hc : 0 ≤ x.cur) : ixO x.l x.cur < x.l.length := by
  rcases h.cur with e | e
  · omega
  · exact ixO_lt.2 e
theorem QWf.cur0 {x : Qm} (h : QWf x) (hc : ¬ 0 ≤ x.cur) : x.cur = -1 := by
  rcases h.cur with e | ⟨t, ht, e⟩
  · exact e
  · have := h.pos t ht; omega
theorem new_wf (g : Int) : QWf (newQ g) := ⟨List.nodup_nil, fun t h => (nomatch h), Nat.zero_le _, fun t h => (nomatch h), .inl rfl, bring_in (by decide), Int.le_refl _⟩
theorem add_wf {x : Qm} (h : QWf x) {a w : Int} {v : BitVec 64} (ha : addE x a = 0) : QWf (addQ x a v w) := by
  unfold addE at ha
  split at ha; · cases ha
  rename_i ha0
  split at ha; · cases ha
  rename_i ha1
  split at ha; · cases ha
  rename_i ha2
  refine ⟨?_, fun t ht => ?_, ?_, fun t ht => ?_, ?_, h.g, h.ran⟩
  · show ((x.l ++ [_]).map _).Nodup
    rw [List.map_append, List.nodup_append]
    refine ⟨h.nd, by simp, fun b hb c hc e => ?_⟩
    obtain ⟨t, ht, rfl⟩ := List.mem_map.1 hb
    simp at hc
    exact ha1 (ixO_lt.2 ⟨t, ht, e.trans hc⟩)
  · rcases List.mem_append.1 ht with q | q
    · exact h.pos t q
    · simp at q; subst q; show 0 ≤ a; omega
  · show (x.l ++ [_]).length ≤ 16
    rw [List.length_append]; simp; omega
  · rcases List.mem_append.1 ht with q | q
    · exact h.wt t q
    · simp at q; subst q; exact bring_in (by decide)
  · rcases h.cur with e | ⟨t, ht, e⟩
    · exact .inl e
    · exact .inr ⟨t, List.mem_append_left _ ht, e⟩
theorem add_rdy {x : Qm} (h : QWf x) {a w : Int} {v : BitVec 64} (ha : addE x a = 0) : insK (rdyO x) ⟨plcO x v (bringO w 1 4096), a, bringO w 1 4096⟩ = rdyO (addQ x a v w) := by
  have h' := add_wf (w := w) (v := v) h ha
  have ha2 : 0 ≤ a ∧ ¬ ixO x.l a < x.l.length := by
    unfold addE at ha
    split at ha; · cases ha
    split at ha; · cases ha
    exact ⟨by omega, by assumption⟩
  have hac : a ≠ x.cur := by
    rcases h.cur with e | e
    · omega
    · intro q; exact ha2.2 (ixO_lt.2 (by rw [q]; exact e))
  refine rdy_ins h.nd h'.nd (fun t ht _ e => ha2.2 (ixO_lt.2 ⟨t, ht, e⟩)) (fun t => ?_)
  show (t ∈ x.l ++ [_] ∧ t.id ≠ x.cur) ↔ _
  rw [List.mem_append, List.mem_singleton]
  constructor
  · rintro ⟨q | q, e⟩
    · exact .inl ⟨q, e⟩
    · exact .inr q
  · rintro (q | q)
    · exact ⟨.inl q.1, q.2⟩
    · subst q; exact ⟨.inr rfl, hac⟩
theorem rem_wf {x : Qm} (h : QWf x) {a : Int} (ha : ixO x.l a < x.l.length) : QWf (remQ x a) := by
  have hm := mem_erase_at h.nd ha
  have hl : (x.l.eraseIdx (ixO x.l a)).length ≤ 16 := Nat.le_trans (List.Sublist.length_le (List.eraseIdx_sublist ..)) h.len
  unfold remQ
  split
  · exact ⟨nodup_erase h.nd, fun t ht => h.pos t ((hm t).1 ht).1, hl, fun t ht => h.wt t ((hm t).1 ht).1, .inl rfl, h.g, Int.le_refl _⟩
  · rename_i hc
    refine ⟨nodup_erase h.nd, fun t ht => h.pos t ((hm t).1 ht).1, hl, fun t ht => h.wt t ((hm t).1 ht).1, ?_, h.g, h.ran⟩
    rcases h.cur with e | ⟨t, ht, e⟩
    · exact .inl e
    · exact .inr ⟨t, (hm t).2 ⟨ht, fun q => hc (e.symm.trans q)⟩, e⟩
theorem rem_rdyC {x : Qm} (h : QWf x) {a : Int} (ha : ixO x.l a < x.l.length) (hc : x.cur = a) : rdyO x = rdyO (remQ x a) := by
  refine rdy_same h.nd (rem_wf h ha).nd (fun t => ?_)
  have hm := mem_erase_at h.nd ha t
  unfold remQ
  rw [if_pos hc]
  show (t ∈ x.l.eraseIdx _ ∧ t.id ≠ -1) ↔ _
  rw [hm, hc]
  constructor
  · exact fun q => q.1
  · exact fun q => ⟨q, by have := h.pos t q.1; omega⟩
theorem rem_rdy {x : Qm} (h : QWf x) {a : Int} (ha : ixO x.l a < x.l.length) (hc : ¬ x.cur = a) {k : Kv} (hk : yEq k (x.l.getD (ixO x.l a) default)) : delK (rdyO x) k = rdyO (remQ x a) := by
  obtain ⟨h1, h2⟩ := ixO_hit ha
  refine rdy_del h.nd (rem_wf h ha).nd (fun t => ?_)
  have hm := mem_erase_at h.nd ha t
  unfold remQ
  rw [if_neg hc]
  show (t ∈ x.l.eraseIdx _ ∧ t.id ≠ x.cur) ↔ _
  rw [hm]
  constructor
  · rintro ⟨⟨q1, q2⟩, q3⟩
    exact ⟨⟨q1, q3⟩, fun e => q2 (e.2.symm.trans (hk.2.trans h1))⟩
  · rintro ⟨⟨q1, q2⟩, q3⟩
    refine ⟨⟨q1, fun e => q3 ?_⟩, q2⟩
    have := uniq_id h.nd q1 h2 (e.trans h1.symm)
    rw [this]; exact hk
theorem back_wf {x : Qm} (h : QWf x) : QWf (backQ x) := ⟨h.nd, h.pos, h.len, h.wt, .inl rfl, h.g, Int.le_refl _⟩
theorem bak_wf {x : Qm} (h : QWf x) : QWf (bakQ x) := by unfold bakQ; split; exact back_wf h; exact h
theorem back_rdy {x : Qm} (h : QWf x) (hc : 0 ≤ x.cur) : insK (rdyO x) (x.l.getD (ixO x.l x.cur) default) = rdyO (backQ x) := by
  obtain ⟨h1, h2⟩ := ixO_hit (h.ix hc)
  refine rdy_ins h.nd (back_wf h).nd (fun t ht e q => e (q.trans h1)) (fun t => ?_)
  show (t ∈ x.l ∧ t.id ≠ -1) ↔ _
  constructor
  · rintro ⟨q1, q2⟩
    by_cases e : t.id = x.cur
    · exact .inr (uniq_id h.nd q1 h2 (e.trans h1.symm))
    · exact .inl ⟨q1, e⟩
  · rintro (⟨q1, q2⟩ | rfl)
    · exact ⟨q1, by have := h.pos t q1; omega⟩
    · exact ⟨h2, by have := h.pos _ h2; omega⟩
theorem pick_wf {x : Qm} (h : QWf x) {t : Kv} (ht : t ∈ x.l) : QWf (pickQ x t.id) := ⟨h.nd, h.pos, h.len, h.wt, .inr ⟨t, ht, rfl⟩, h.g, Int.le_refl _⟩
theorem pick_rdy {x : Qm} (h : QWf x) (hc : x.cur = -1) {t : Kv} (ht : t ∈ x.l) {k : Kv} (hk : yEq k t) : delK (rdyO x) k = rdyO (pickQ x t.id) := by
  refine rdy_del h.nd (pick_wf h ht).nd (fun s => ?_)
  show (s ∈ x.l ∧ s.id ≠ t.id) ↔ _
  constructor
  · rintro ⟨q1, q2⟩
    exact ⟨⟨q1, by have := h.pos s q1; omega⟩, fun e => q2 (e.2.symm.trans hk.2)⟩
  · rintro ⟨⟨q1, q2⟩, q3⟩
    exact ⟨q1, fun e => q3 (by rw [uniq_id h.nd q1 ht e]; exact hk)⟩
theorem rdy_hd_mem {x : Qm} (h : QWf x) {t : Kv} {l : List Kv} (e : rdyO x = t :: l) : t ∈ x.l ∧ t.id ≠ x.cur := (rdy_mem h.nd t).1 (by rw [e]; exact List.mem_cons_self ..)
theorem pickO_hit {x : Qm} (h : QWf x) (hc : x.cur = -1) {t : Kv} {l : List Kv} (e : rdyO x = t :: l) : pickO x = t.id ∧ pikQ x = pickQ x t.id := by
  have h1 : pickO x = t.id := by unfold pickO; rw [if_neg (by omega), e]
  have h2 := h.pos t (rdy_hd_mem h e).1
  exact ⟨h1, by unfold pikQ; rw [h1, if_neg (by omega)]⟩
theorem pik_none {x : Qm} (hc : 0 ≤ x.cur ∨ rdyO x = []) : pickO x = -1 ∧ pikQ x = x := by
  have h1 : pickO x = -1 := by
    unfold pickO
    rcases hc with h | h
    · rw [if_pos h]
    · rw [h]; split <;> rfl
  exact ⟨h1, by unfold pikQ; rw [h1, if_pos (by decide)]⟩
theorem pik_wf {x : Qm} (h : QWf x) : QWf (pikQ x) := by
  by_cases hc : 0 ≤ x.cur
  · rw [(pik_none (.inl hc)).2]; exact h
  · cases e : rdyO x with
    | nil => rw [(pik_none (.inr e)).2]; exact h
    | cons t l => rw [(pickO_hit h (h.cur0 hc) e).2]; exact pick_wf h (rdy_hd_mem h e).1
theorem set_wf {x : Qm} (h : QWf x) {a : Int} (ha : ixO x.l a < x.l.length) {y : Kv} (hy : y.id = a) (hw : 1 ≤ y.x ∧ y.x ≤ 4096) {r : Int} (hr : 0 ≤ r) : QWf { x with l := x.l.set (ixO x.l a) y, ran := r } := by
  obtain ⟨h1, h2⟩ := ixO_hit ha
  have hm := mem_set_at h.nd ha hy
  refine ⟨by show ((x.l.set _ y).map _).Nodup; rw [map_set_at ha hy]; exact h.nd, fun t ht => ?_, by show (x.l.set _ y).length ≤ 16; rw [List.length_set]; exact h.len, fun t ht => ?_, ?_, h.g, hr⟩
  · rcases (hm t).1 ht with rfl | q
    · rw [hy, ← h1]; exact h.pos _ h2
    · exact h.pos t q.1
  · rcases (hm t).1 ht with rfl | q
    · exact hw
    · exact h.wt t q.1
  · rcases h.cur with e | ⟨t, ht, e⟩
    · exact .inl e
    · by_cases q : t.id = a
      · exact .inr ⟨y, (hm y).2 (.inl rfl), by rw [hy, ← q]; exact e⟩
      · exact .inr ⟨t, (hm t).2 (.inr ⟨ht, q⟩), e⟩
theorem set_rdyC {x : Qm} (h : QWf x) (hc : 0 ≤ x.cur) {y : Kv} (hy : y.id = x.cur) (hw : 1 ≤ y.x ∧ y.x ≤ 4096) {r : Int} (hr : 0 ≤ r) : rdyO x = rdyO { x with l := x.l.set (ixO x.l x.cur) y, ran := r } := by
  refine rdy_same h.nd (set_wf h (h.ix hc) hy hw hr).nd (fun t => ?_)
  show (t ∈ x.l.set _ y ∧ t.id ≠ x.cur) ↔ _
  rw [mem_set_at h.nd (h.ix hc) hy]
  constructor
  · rintro ⟨rfl | q, e⟩
    · exact absurd hy e
    · exact q
  · rintro q; exact ⟨.inr q, q.2⟩
theorem set_rdy {x : Qm} (h : QWf x) {a : Int} (ha : ixO x.l a < x.l.length) (hc : ¬ a = x.cur) {y : Kv} (hy : y.id = a) (hw : 1 ≤ y.x ∧ y.x ≤ 4096) {r : Int} (hr : 0 ≤ r) {k : Kv} (hk : yEq k (x.l.getD (ixO x.l a) default)) :
    insK (delK (rdyO x) k) y = rdyO { x with l := x.l.set (ixO x.l a) y, ran := r } := by
  obtain ⟨h1, h2⟩ := ixO_hit ha
  have hd : ∀ t, t ∈ delK (rdyO x) k ↔ (t ∈ x.l ∧ t.id ≠ x.cur) ∧ t.id ≠ a := fun t => by
    rw [delK_mem, rdy_mem h.nd]
    constructor
    · rintro ⟨⟨q1, q2⟩, q3⟩
      exact ⟨⟨q1, q2⟩, fun e => q3 (by rw [uniq_id h.nd q1 h2 (e.trans h1.symm)]; exact hk)⟩
    · rintro ⟨q1, q2⟩
      exact ⟨q1, fun e => q2 (e.2.symm.trans (hk.2.trans h1))⟩
  refine srt_ext (insK_srt (delK_srt (rdy_srt h.nd) k) y) (rdy_srt (set_wf h ha hy hw hr).nd) (fun t => ?_)
  rw [insK_mem (fun t ht e => ((hd t).1 ht).2 (e.2.trans hy)), hd, rdy_mem (set_wf h ha hy hw hr).nd]
  show _ ↔ (t ∈ x.l.set _ y ∧ t.id ≠ x.cur)
  rw [mem_set_at h.nd ha hy]
  constructor
  · rintro (⟨⟨q1, q2⟩, q3⟩ | rfl)
    · exact ⟨.inr ⟨q1, q3⟩, q2⟩
    · exact ⟨.inl rfl, by rw [hy]; exact hc⟩
  · rintro ⟨rfl | q, e⟩
    · exact .inr rfl
    · exact .inl ⟨⟨q.1, e⟩, q.2⟩
theorem tick_wf {x : Qm} (h : QWf x) : QWf (tickQ x) := by
  unfold tickQ
  split
  · rename_i hc
    obtain ⟨h1, h2⟩ := ixO_hit (h.ix hc)
    exact set_wf (y := { x.l.getD (ixO x.l x.cur) default with V := addO (x.l.getD (ixO x.l x.cur) default).V (coreO (x.l.getD (ixO x.l x.cur) default).x) }) (r := x.ran + 1) h (h.ix hc) h1 (h.wt (x.l.getD (ixO x.l x.cur) default) h2) (by have := h.ran; omega)
  · exact h
theorem tick_rdy {x : Qm} (h : QWf x) : rdyO x = rdyO (tickQ x) := by
  unfold tickQ
  split
  · rename_i hc
    obtain ⟨h1, h2⟩ := ixO_hit (h.ix hc)
    exact set_rdyC (y := { x.l.getD (ixO x.l x.cur) default with V := addO (x.l.getD (ixO x.l x.cur) default).V (coreO (x.l.getD (ixO x.l x.cur) default).x) }) (r := x.ran + 1) h hc h1 (h.wt (x.l.getD (ixO x.l x.cur) default) h2) (by have := h.ran; omega)
  · rfl
theorem weigh_wf {x : Qm} (h : QWf x) {a w : Int} (ha : ixO x.l a < x.l.length) : QWf (weighQ x a w) := 
  set_wf h ha rfl (bring_in (by decide)) (by have := h.ran; have := h.g; split <;> omega)
theorem weigh_rdyC {x : Qm} (h : QWf x) {w : Int} (hc : 0 ≤ x.cur) : rdyO x = rdyO (weighQ x x.cur w) :=
  set_rdyC h hc rfl (bring_in (by decide)) (by have := h.ran; have := h.g; split <;> omega)
theorem weigh_rdy {x : Qm} (h : QWf x) {a w : Int} (ha : ixO x.l a < x.l.length) (hc : ¬ a = x.cur) {k : Kv} (hk : yEq k (x.l.getD (ixO x.l a) default)) :
    insK (delK (rdyO x) k) ⟨plcO x (x.l.getD (ixO x.l a) default).V (bringO w 1 4096), a, bringO w 1 4096⟩ = rdyO (weighQ x a w) :=
  set_rdy h ha hc rfl (bring_in (by decide)) (by have := h.ran; have := h.g; split <;> omega) hk
theorem setl_same (x : Qm) : (setlQ x).l = x.l ∧ (setlQ x).cur = x.cur ∧ (setlQ x).ran = x.ran ∧ (setlQ x).g = x.g := by
  unfold setlQ
  split
  · exact ⟨rfl, rfl, rfl, rfl⟩
  · split <;> exact ⟨rfl, rfl, rfl, rfl⟩
theorem setl_wf {x : Qm} (h : QWf x) : QWf (setlQ x) := by
  obtain ⟨h1, h2, h3, h4⟩ := setl_same x
  exact ⟨by rw [h1]; exact h.nd, by rw [h1]; exact h.pos, by rw [h1]; exact h.len, by rw [h1]; exact h.wt, by rw [h1, h2]; exact h.cur, by rw [h4]; exact h.g, by rw [h3]; exact h.ran⟩
theorem rdy_cong {x y : Qm} (h1 : x.l = y.l) (h2 : x.cur = y.cur) : rdyO x = rdyO y := by unfold rdyO; rw [h1, h2]
theorem setl_rdy (x : Qm) : rdyO x = rdyO (setlQ x) := rdy_cong (setl_same x).1.symm (setl_same x).2.1.symm
/-! the least V -/
theorem minF_spec : ∀ (l : List Kv) (m : BitVec 64), (l.foldl (fun m s => if s.V.toNat < m.toNat then s.V else m) m = m ∨ ∃ t ∈ l, t.V = l.foldl (fun m s => if s.V.toNat < m.toNat then s.V else m) m) ∧ (l.foldl (fun m s => if s.V.toNat < m.toNat then s.V else m) m).toNat ≤ m.toNat ∧ ∀ t ∈ l, (l.foldl (fun m s => if s.V.toNat < m.toNat then s.V else m) m).toNat ≤ t.V.toNat
  | [], m => ⟨.inl rfl, Nat.le_refl _, fun t h => by cases h⟩
  | s :: l, m => by
    rw [List.foldl_cons]
    obtain ⟨h1, h2, h3⟩ := minF_spec l (if s.V.toNat < m.toNat then s.V else m)
    have h4 : (if s.V.toNat < m.toNat then s.V else m).toNat ≤ m.toNat ∧ (if s.V.toNat < m.toNat then s.V else m).toNat ≤ s.V.toNat := by split <;> omega
    refine ⟨?_, by omega, fun t ht => ?_⟩
    · rcases h1 with q | ⟨t, ht, q⟩
      · by_cases e : s.V.toNat < m.toNat
        · rw [if_pos e] at q ⊢; exact .inr ⟨s, List.mem_cons_self .., q.symm⟩
        · rw [if_neg e] at q ⊢; exact .inl q
      · exact .inr ⟨t, List.mem_cons_of_mem _ ht, q⟩
    · rcases List.mem_cons.1 ht with rfl | ht
      · omega
      · exact h3 t ht
theorem minO_spec {l : List Kv} (h : l ≠ []) : (∃ t ∈ l, t.V = minO l) ∧ ∀ t ∈ l, (minO l).toNat ≤ t.V.toNat := by
  cases l with
  | nil => exact absurd rfl h
  | cons s l =>
    obtain ⟨h1, h2, h3⟩ := minF_spec l s.V
    refine ⟨?_, fun t ht => ?_⟩
    · rcases h1 with q | ⟨t, ht, q⟩
      · exact ⟨s, List.mem_cons_self .., q.symm⟩
      · exact ⟨t, List.mem_cons_of_mem _ ht, q⟩
    · rcases List.mem_cons.1 ht with rfl | ht
      · exact h2
      · exact h3 t ht
theorem minO_eq {l : List Kv} {v : BitVec 64} (h : ∃ t ∈ l, t.V = v) (h2 : ∀ t ∈ l, v.toNat ≤ t.V.toNat) : minO l = v := by
  obtain ⟨t, ht, rfl⟩ := h
  have hne : l ≠ [] := fun e => by rw [e] at ht; cases ht
  obtain ⟨⟨s, hs, e⟩, h3⟩ := minO_spec hne
  have h4 := h3 t ht
  have h5 := h2 s hs
  rw [e] at h5
  exact BitVec.eq_of_toNat_eq (by omega)
theorem srt_hd {t : Kv} {l : List Kv} (h : Srt (t :: l)) : ∀ s ∈ t :: l, t.V.toNat ≤ s.V.toNat := fun s hs => by
  rcases List.mem_cons.1 hs with rfl | hs
  · exact Nat.le_refl _
  · rcases (List.pairwise_cons.1 h).1 s hs with q | q
    · omega
    · rw [q.1]; exact Nat.le_refl _
theorem min_none {x : Qm} (h : QWf x) (hc : ¬ 0 ≤ x.cur) : (rdyO x = [] → x.l = []) ∧ ∀ t l, rdyO x = t :: l → x.l ≠ [] ∧ minO x.l = t.V := by
  have h0 := h.cur0 hc
  have hall : ∀ t ∈ x.l, t ∈ rdyO x := fun t ht => (rdy_mem h.nd t).2 ⟨ht, by have := h.pos t ht; omega⟩
  refine ⟨fun e => ?_, fun t l e => ?_⟩
  · cases q : x.l with
    | nil => rfl
    | cons s m => have := hall s (by rw [q]; exact List.mem_cons_self ..); rw [e] at this; cases this
  · have ht := (rdy_hd_mem h e).1
    refine ⟨fun q => (by rw [q] at ht; cases ht), minO_eq ⟨t, ht, rfl⟩ (fun s hs => srt_hd (l := l) (by rw [← e]; exact rdy_srt h.nd) s (by rw [← e]; exact hall s hs))⟩
theorem min_cur {x : Qm} (h : QWf x) (hc : 0 ≤ x.cur) : x.l ≠ [] ∧ (rdyO x = [] → minO x.l = (x.l.getD (ixO x.l x.cur) default).V) ∧ ∀ t l, rdyO x = t :: l → minO x.l = if t.V.toNat < (x.l.getD (ixO x.l x.cur) default).V.toNat then t.V else (x.l.getD (ixO x.l x.cur) default).V := by
  obtain ⟨h1, h2⟩ := ixO_hit (h.ix hc)
  have hall : ∀ t ∈ x.l, t = x.l.getD (ixO x.l x.cur) default ∨ t ∈ rdyO x := fun t ht => by
    by_cases e : t.id = x.cur
    · exact .inl (uniq_id h.nd ht h2 (e.trans h1.symm))
    · exact .inr ((rdy_mem h.nd t).2 ⟨ht, e⟩)
  refine ⟨fun q => (by rw [q] at h2; cases h2), fun e => minO_eq ⟨_, h2, rfl⟩ (fun s hs => ?_), fun t l e => ?_⟩
  · rcases hall s hs with rfl | q
    · exact Nat.le_refl _
    · rw [e] at q; cases q
  · have ht := (rdy_hd_mem h e).1
    have hs2 : ∀ s ∈ rdyO x, t.V.toNat ≤ s.V.toNat := fun s hs => srt_hd (l := l) (by rw [← e]; exact rdy_srt h.nd) s (by rw [← e]; exact hs)
    split
    · rename_i q
      refine minO_eq ⟨t, ht, rfl⟩ (fun s hs => ?_)
      rcases hall s hs with rfl | z
      · omega
      · exact hs2 s z
    · rename_i q
      refine minO_eq ⟨_, h2, rfl⟩ (fun s hs => ?_)
      rcases hall s hs with rfl | z
      · exact Nat.le_refl _
      · have := hs2 s z; omega
/-! weights -/
theorem load_app (l m : List Kv) : loadO (l ++ m) = loadO l + loadO m := by unfold loadO; rw [List.map_append, List.sum_append]
theorem load_set {l : List Kv} {i : Nat} (h : i < l.length) (y : Kv) : loadO (l.set i y) = loadO l + (y.x - (l.getD i default).x) := by
  induction l generalizing i with
  | nil => simp at h
  | cons t l ih =>
    cases i with
    | zero => simp [loadO]; omega
    | succ i =>
      have := ih (i := i) (by simpa using h)
      simp only [loadO, List.set_cons_succ, List.map_cons, List.sum_cons, List.getD_cons_succ] at this ⊢
      omega
theorem load_erase {l : List Kv} {i : Nat} (h : i < l.length) : loadO (l.eraseIdx i) = loadO l - (l.getD i default).x := by
  induction l generalizing i with
  | nil => simp at h
  | cons t l ih =>
    cases i with
    | zero => simp [loadO]; omega
    | succ i =>
      have := ih (i := i) (by simpa using h)
      simp only [loadO, List.eraseIdx_cons_succ, List.map_cons, List.sum_cons, List.getD_cons_succ] at this ⊢
      omega
theorem load_bd : ∀ {l : List Kv}, (∀ t ∈ l, 1 ≤ t.x ∧ t.x ≤ 4096) → 0 ≤ loadO l ∧ loadO l ≤ 4096 * l.length
  | [], _ => by simp [loadO]
  | t :: l, h => by
    have h1 := h t (List.mem_cons_self ..)
    have h2 := load_bd (l := l) (fun s hs => h s (List.mem_cons_of_mem _ hs))
    simp only [loadO, List.map_cons, List.sum_cons, List.length_cons] at h2 ⊢
    omega
theorem QWf.load {x : Qm} (h : QWf x) : 0 ≤ loadO x.l ∧ loadO x.l ≤ 65536 := by
  have := load_bd h.wt
  have := h.len
  omega
end Go.Eng
namespace Go.Eng
open Go Go.Proofs Go.RowKit
theorem ov_callX {P : Program} {e : Env} {f : FuncId} {l : List Operand} {vs : List Value} {ats : Array TypeId} {ty : TypeId} {v : Value} (h : evs e l = some vs) (hx : ∀ w, (callFunc f vs.toArray).run P w = .ok (.value v) w) : OpP P (.call { callee := .value (.func f), args := l.toArray, argTypes := ats }) ty e v := fun w ρ hρ _ _ _ _ => by
  simp [execOp, resolve, hρ (.func f) _ rfl, Deferred.ofValue, invoke, evs_map hρ h]
  exact hx w
theorem add64_run (a b : BitVec 64) (w : World) : (callFunc 101 #[U a, U b, U 0#64]).run Try.prog w = .ok (.value (.tuple #[U (a + b), U (if a.toNat + b.toNat < 18446744073709551616 then 0#64 else 1#64)])) w := by
  have h := run_callFunc_extern (P := Try.prog) (e := add64Entry) (f := 101) Try.func101 (by kernel_rfl) (by kernel_rfl) (by kernel_rfl) (by kernel_rfl) #[U a, U b, U 0#64] w
  rw [h, show (#[U a, U b, U 0#64] : Array Value) = #[.int .u64 (a.toNat : Int), .int .u64 (b.toNat : Int), .int .u64 0] from rfl, run_add64 a.toNat b.toNat 0 (by omega) (by omega) (by omega) (by omega)]
  have e1 : ((a.toNat : Int) + b.toNat + 0) % 18446744073709551616 = ((a + b).toNat : Int) := by rw [BitVec.toNat_add]; omega
  have ha := a.isLt
  have hb := b.isLt
  have e2 : ((a.toNat : Int) + b.toNat + 0) / 18446744073709551616 = ((if a.toNat + b.toNat < 18446744073709551616 then 0#64 else 1#64 : BitVec 64).toNat : Int) := by
    split
    · show _ = (0 : Int); omega
    · show _ = (1 : Int); omega
  simp only [Result.andThen]
  rw [e1, e2]
set_option maxRecDepth 100000 in
theorem fadd_spec (a b : BitVec 64) (w : World) : Ret Try.prog 75 #[U a, U b] w (fun v w' => v = .tuple #[U (addO a b), .int .i64 (if a.toNat + b.toNat < 18446744073709551616 then 0 else 2)] ∧ Ext w w') := by
 refine Ret.enterM (l := [U a, U b]) Try.func75 rfl Try.ntmps75 rfl ([]) (no) (Mem.nil w) ?_
 refine wpM.seq (wpM.region ?_)
 refine LM.as rfl (LM.as rfl ?_)
 refine LM.nil (QM.sub (e' := [(0, _), (1, _)]) au9 (QM.then (wpM.seq (wpM.region ?_))))
 refine LM.mv rfl (LM.mv rfl ?_)
 refine LM.val (ov_callX rfl (add64_run a b)) ?_
 refine LM.mv rfl ?_
 refine LM.val (ov_extract rfl rfl) ?_
 refine LM.val (ov_extract rfl rfl) ?_
 refine LM.as rfl (LM.as rfl ?_)
 refine LM.nil (QM.sub (e' := [(6, _), (7, _)]) au9 (QM.then ?_))
 refine wpM.seq ?_
 refine wpM.seq (wpM.region ?_)
 refine LM.mv rfl ?_
 refine LM.val (ov_uneq (b := 0#64) rfl rfl) ?_
 refine LM.nil (QM.sub (e' := [(6, _), (15, _)]) au9 (QM.then ?_))
 refine wpM.condD rfl (fun h1 => ?_) (fun h1 => ?_)
 ·
  refine wpM.seq (wpM.region ?_)
  refine LM.as rfl (LM.as rfl ?_)
  refine LM.nil (QM.sub (e' := [(4, _), (5, _)]) au9 (QM.then ?_))
  refine wpM.ret ?_
  refine QM.then_ret ?_
  refine QM.leave (.inl rfl) [.tmp 4, .tmp 5] Try.results75 rfl ?_
  intro w' hm' hc' hg'
  have hlt : ¬ a.toNat + b.toNat < 18446744073709551616 := (by intro q; rw [if_pos q] at h1; exact h1 rfl); refine ⟨?_, hc'⟩; unfold addO; rw [if_neg hlt, if_neg hlt]; rfl
 refine wpM.skip ?_
 refine QM.then (wpM.seq (wpM.region ?_))
 refine LM.mv rfl (LM.as rfl (LM.as rfl ?_))
 refine LM.nil (QM.sub (e' := [(4, _), (5, _)]) au9 (QM.then ?_))
 refine wpM.ret ?_
 refine QM.leave (.inl rfl) [.tmp 4, .tmp 5] Try.results75 rfl ?_
 intro w' hm' hc' hg'
 have hlt : a.toNat + b.toNat < 18446744073709551616 := (by rcases Nat.lt_or_ge (a.toNat + b.toNat) 18446744073709551616 with q | q; exact q; rw [if_neg (by omega)] at h1; exact absurd (fun z => by cases z) h1); refine ⟨?_, hc'⟩; rw [show addO a b = a + b from if_pos hlt]; simp only [if_pos hlt]; rfl
set_option maxRecDepth 100000 in
theorem fsub_spec (a b : BitVec 64) (w : World) : Ret Try.prog 107 #[U a, U b] w (fun v w' => v = .tuple #[U (if a.toNat < b.toNat then 0#64 else a - b), .int .i64 (if a.toNat < b.toNat then 2 else 0)] ∧ Ext w w') := by
 refine Ret.enterM (l := [U a, U b]) Try.func107 rfl Try.ntmps107 rfl ([]) (no) (Mem.nil w) ?_
 refine wpM.seq (wpM.region ?_)
 refine LM.as rfl (LM.as rfl ?_)
 refine LM.nil (QM.sub (e' := [(0, _), (1, _)]) au9 (QM.then ?_))
 refine wpM.seq ?_
 refine wpM.seq (wpM.region ?_)
 refine LM.mv rfl (LM.mv rfl ?_)
 refine LM.val (ov_ulss rfl rfl) ?_
 refine LM.nil (QM.sub (e' := [(0, _), (1, _), (8, _)]) au9 (QM.then ?_))
 refine wpM.condD rfl (fun h1 => ?_) (fun h1 => ?_)
 ·
  refine wpM.seq (wpM.region ?_)
  refine LM.as rfl (LM.as rfl ?_)
  refine LM.nil (QM.sub (e' := [(4, _), (5, _)]) au9 (QM.then ?_))
  refine wpM.ret ?_
  refine QM.then_ret ?_
  refine QM.leave (.inl rfl) [.tmp 4, .tmp 5] Try.results107 rfl ?_
  intro w' hm' hc' hg'
  refine ⟨?_, hc'⟩; rw [if_pos h1, if_pos h1]; rfl
 refine wpM.skip ?_
 refine QM.then (wpM.seq (wpM.region ?_))
 refine LM.mv rfl (LM.mv rfl ?_)
 refine LM.val (ov_usub rfl rfl) ?_
 refine LM.as rfl (LM.as rfl ?_)
 refine LM.nil (QM.sub (e' := [(4, _), (5, _)]) au9 (QM.then ?_))
 refine wpM.ret ?_
 refine QM.leave (.inl rfl) [.tmp 4, .tmp 5] Try.results107 rfl ?_
 intro w' hm' hc' hg'
 refine ⟨?_, hc'⟩; rw [if_neg h1, if_neg h1]; rfl
theorem bring_eq {n lo hi : Int} (h : lo ≤ hi) : (if hi < (if lo > n then lo else n) then hi else (if lo > n then lo else n)) = bringO n lo hi := by
  unfold bringO; (repeat' split) <;> omega
set_option maxRecDepth 100000 in
theorem ubring_spec (n lo hi : Int) (w : World) (h : lo ≤ hi) : Ret Try.prog 66 #[.int .i64 n, .int .i64 lo, .int .i64 hi] w (fun v w' => v = U (BitVec.ofInt 64 (bringO n lo hi)) ∧ Ext w w') := by
 refine Ret.enterM (l := [.int .i64 n, .int .i64 lo, .int .i64 hi]) Try.func66 rfl Try.ntmps66 rfl ([]) (no) (Mem.nil w) ?_
 refine wpM.seq (wpM.region ?_)
 refine LM.as rfl ?_
 refine LM.nil (QM.sub (e' := [(0, _), (1, _), (2, _)]) au9 (QM.then (wpM.seq (wpM.region ?_))))
 refine LM.mv rfl (LM.mv rfl ?_)
 refine LM.val (ov_max rfl rfl) ?_
 refine LM.mv rfl ?_
 refine LM.val (ov_min rfl rfl) ?_
 refine LM.val (ov_toU Try.underlying3 Try.underlying26 rfl) ?_
 refine LM.as rfl ?_
 refine LM.nil (QM.sub (e' := [(6, _)]) ⟨rfl, trivial⟩ (QM.then ?_))
 refine wpM.ret ?_
 refine QM.leave (.inl rfl) [.tmp 6] Try.results66 rfl ?_
 intro w' hm' hc' hg'
 refine ⟨?_, hc'⟩; show U (BitVec.ofInt 64 _) = _; rw [bring_eq h]
theorem bring_nz {n hi : Int} (h : 1 ≤ hi) (hh : hi ≤ 100000) : BitVec.ofInt 64 (bringO n 1 hi) ≠ 0#64 := by
  have := bring_in (n := n) h
  intro e
  have e2 := congrArg BitVec.toNat e
  rw [BitVec.toNat_ofInt] at e2
  simp at e2
  omega
set_option maxRecDepth 100000 in
theorem ucore_spec (n : Int) (w : World) : Ret Try.prog 16 #[.int .i64 n] w (fun v w' => v = U (coreO n) ∧ Ext w w') := by
 have hz := bring_nz (n := n) (hi := 4096) (by decide) (by decide)
 refine Ret.enterM (l := [.int .i64 n]) Try.func16 rfl Try.ntmps16 rfl ([]) (no) (Mem.nil w) ?_
 refine wpM.seq (wpM.region ?_)
 refine LM.as rfl ?_
 refine LM.nil (QM.sub (e' := [(0, _)]) ⟨rfl, trivial⟩ (QM.then (wpM.seq (wpM.region ?_))))
 refine LM.mv rfl ?_
 refine LM.callE (oc_call (enters_fn Try.func66 (by kernel_rfl) rfl) rfl) (fun w hm hc hg => ubring_spec _ 1 4096 w (by decide)) ?_
 refine LM.val (ov_uquo (a := 1099511627776#64) rfl rfl (by first | decide | assumption)) ?_
 refine LM.as rfl ?_
 refine LM.nil (QM.sub (e' := [(2, _)]) ⟨rfl, trivial⟩ (QM.then ?_))
 refine wpM.ret ?_
 refine QM.leave (.inl rfl) [.tmp 2] Try.results16 rfl ?_
 intro w' hm' hc' hg'
 exact ⟨rfl, hc'⟩
set_option maxRecDepth 100000 in
theorem ureach_spec (n g : Int) (w : World) : Ret Try.prog 20 #[.int .i64 n, .int .i64 g] w (fun v w' => v = U (reachO n g) ∧ Ext w w') := by
 refine Ret.enterM (l := [.int .i64 n, .int .i64 g]) Try.func20 rfl Try.ntmps20 rfl ([]) (no) (Mem.nil w) ?_
 refine wpM.seq (wpM.region ?_)
 refine LM.as rfl ?_
 refine LM.nil (QM.sub (e' := [(0, _), (1, _)]) au9 (QM.then (wpM.seq (wpM.region ?_))))
 refine LM.mv rfl ?_
 refine LM.callE (oc_call (enters_fn Try.func16 (by kernel_rfl) rfl) rfl) (fun w hm hc hg => ucore_spec _ w) ?_
 refine LM.mv rfl ?_
 refine LM.callE (oc_call (enters_fn Try.func66 (by kernel_rfl) rfl) rfl) (fun w hm hc hg => ubring_spec _ 1 8 w (by decide)) ?_
 refine LM.val (ov_umul rfl rfl) ?_
 refine LM.as rfl ?_
 refine LM.nil (QM.sub (e' := [(4, _)]) ⟨rfl, trivial⟩ (QM.then ?_))
 refine wpM.ret ?_
 refine QM.leave (.inl rfl) [.tmp 4] Try.results20 rfl ?_
 intro w' hm' hc' hg'
 exact ⟨rfl, hc'⟩
theorem clamp_eq (v fl r : BitVec 64) : (if (addO fl r).toNat < (if v.toNat < fl.toNat then fl else v).toNat then addO fl r else (if v.toNat < fl.toNat then fl else v)) = clampO v fl r := by
  have ha : fl.toNat ≤ (addO fl r).toNat := by
    unfold addO; split
    · rw [BitVec.toNat_add]; rw [Nat.mod_eq_of_lt (by omega)]; omega
    · have := fl.isLt; show _ ≤ 18446744073709551615; omega
  unfold clampO
  by_cases h : v.toNat < fl.toNat
  · rw [if_pos h, if_pos h, if_neg (by omega)]
  · rw [if_neg h, if_neg h]
set_option maxRecDepth 100000 in
theorem uclamp_spec (v fl r : BitVec 64) (w : World) : Ret Try.prog 88 #[U v, U fl, U r] w (fun u w' => u = U (clampO v fl r) ∧ Ext w w') := by
 refine Ret.enterM (l := [U v, U fl, U r]) Try.func88 rfl Try.ntmps88 rfl ([]) (no) (Mem.nil w) ?_
 refine wpM.seq (wpM.region ?_)
 refine LM.as rfl ?_
 refine LM.nil (QM.sub (e' := [(0, _), (1, _), (2, _)]) au9 (QM.then (wpM.seq (wpM.region ?_))))
 refine LM.mv rfl (LM.mv rfl ?_)
 refine LM.callE (oc_call (enters_fn Try.func75 (by kernel_rfl) rfl) rfl) (fun w hm hc hg => fadd_spec _ _ w) ?_
 refine LM.mv rfl ?_
 refine LM.val (ov_extract rfl rfl) ?_
 refine LM.val (ov_extract rfl rfl) ?_
 refine LM.as rfl (LM.as rfl ?_)
 refine LM.nil (QM.sub (e' := [(0, _), (1, _), (7, _)]) au9 (QM.then (wpM.seq (wpM.region ?_))))
 refine LM.mv rfl (LM.mv rfl ?_)
 refine LM.val (ov_umax rfl rfl) ?_
 refine LM.mv rfl ?_
 refine LM.val (ov_umin rfl rfl) ?_
 refine LM.as rfl ?_
 refine LM.nil (QM.sub (e' := [(6, _)]) ⟨rfl, trivial⟩ (QM.then ?_))
 refine wpM.ret ?_
 refine QM.leave (.inl rfl) [.tmp 6] Try.results88 rfl ?_
 intro w' hm' hc' hg'
 refine ⟨?_, hc'⟩; rw [← clamp_eq]; rfl
end Go.Eng
namespace Go.Eng
open Go Go.Proofs Go.RowKit
abbrev gQ (l : List Kv) (a : Int) : Kv := l.getD (ixO l a) default
def entQ (l : List Kv) : List (Int × Value) := l.map (fun t => (t.id, .agg #[U t.V, .int .i64 t.x]))
theorem entQ_len (l : List Kv) : (entQ l).length = l.length := by simp [entQ]
theorem ent_find : ∀ (l : List Kv) (a : Int) (i : Nat), afind (entQ l) a i = if ixO l a < l.length then some (i + ixO l a, .agg #[U (gQ l a).V, .int .i64 (gQ l a).x]) else none
  | [], a, i => rfl
  | t :: l, a, i => by
    have ih := ent_find l a (i + 1)
    show (if a = t.id then some (i, Value.agg #[U t.V, .int .i64 t.x]) else afind (entQ l) a (i + 1)) = _
    unfold gQ
    rw [ixO_cons]
    by_cases h : t.id = a
    · rw [if_pos h.symm, if_pos h, if_pos (by simp)]; rfl
    · rw [if_neg (fun q => h q.symm), if_neg h, ih]
      by_cases h2 : ixO l a < l.length
      · rw [if_pos h2, if_pos (by simpa using h2)]
        simp only [List.getD_cons_succ]
        congr 2; omega
      · rw [if_neg h2, if_neg (by simpa using h2)]
theorem ent_has (l : List Kv) (a : Int) : (aget (entQ l) a).isSome = decide (ixO l a < l.length) := by
  unfold aget; rw [ent_find]
  by_cases h : ixO l a < l.length
  · rw [if_pos h, decide_eq_true h]; rfl
  · rw [if_neg h, decide_eq_false h]; rfl
theorem gQ_none {l : List Kv} {a : Int} (h : ¬ ixO l a < l.length) : gQ l a = default := by
  unfold gQ; rw [List.getD_eq_getElem?_getD, List.getElem?_eq_none (by omega)]; rfl
theorem ent_get (l : List Kv) (a : Int) : (aget (entQ l) a).getD (.agg #[.int .u64 0, .int .i64 0]) = .agg #[U (gQ l a).V, .int .i64 (gQ l a).x] := by
  unfold aget; rw [ent_find]
  by_cases h : ixO l a < l.length
  · rw [if_pos h]; rfl
  · rw [if_neg h, gQ_none h]; rfl
theorem ent_new {l : List Kv} {a : Int} (h : ¬ ixO l a < l.length) (v : BitVec 64) (x : Int) : aput (entQ l) a (.agg #[U v, .int .i64 x]) = entQ (l ++ [⟨v, a, x⟩]) := by
  unfold aput; rw [ent_find, if_neg h]; simp [entQ]
theorem ent_set {l : List Kv} {a : Int} (h : ixO l a < l.length) (v : BitVec 64) (x : Int) : aput (entQ l) a (.agg #[U v, .int .i64 x]) = entQ (l.set (ixO l a) ⟨v, a, x⟩) := by
  unfold aput; rw [ent_find, if_pos h]
  simp [entQ, List.map_set]
theorem ent_del {l : List Kv} {a : Int} (h : ixO l a < l.length) : adel (entQ l) a = entQ (l.eraseIdx (ixO l a)) := by
  unfold adel; rw [ent_find, if_pos h]
  simp only [Nat.zero_add]
  unfold entQ; rw [map_erase]
abbrev rqC (b : Nat) (g : Int) (fl : BitVec 64) (bm bt : Nat) (cur ran ld : Int) : Nat × Obj := (b, .cells #[.int .i64 g, U fl, .map (some bm), .pointer (some ⟨bt, 0, none⟩), .int .i64 cur, .int .i64 ran, .int .i64 ld] 93 (0, 0))
def RqM (n0 b : Nat) (x : Qm) (m : Mem0) : Prop := QWf x ∧ ∃ (bm bt : Nat) (es : Array MapEntry) (cl : Nat) (mt : Mem0), m = rqC b x.g x.fl bm bt x.cur x.ran (loadO x.l) :: (bm, .map es cl) :: mt ∧ Ens .i64 es.toList (entQ x.l) ∧ RbT n0 bt 16 (rdyO x) mt ∧ n0 ≤ b ∧ n0 ≤ bm
theorem RqM.ge {n0 b : Nat} {x : Qm} {m : Mem0} (h : RqM n0 b x m) : ∀ p ∈ m, n0 ≤ p.1 := by
  obtain ⟨hq, bm, bt, es, cl, mt, rfl, he, ht, hb, hbm⟩ := h
  intro p hp
  rcases List.mem_cons.1 hp with rfl | hp
  · exact hb
  · rcases List.mem_cons.1 hp with rfl | hp
    · exact hbm
    · exact ht.ge p hp
theorem RqM.wlk {n0 b : Nat} {x : Qm} {m : Mem0} (h : RqM n0 b x m) : ∀ p ∈ m, wlk p.2 = false := by
  obtain ⟨hq, bm, bt, es, cl, mt, rfl, he, ht, hb, hbm⟩ := h
  intro p hp
  rcases List.mem_cons.1 hp with rfl | hp
  · rfl
  · rcases List.mem_cons.1 hp with rfl | hp
    · rfl
    · exact ht.wlk p hp
theorem RqM.mono {n0 n1 b : Nat} {x : Qm} {m : Mem0} (h : RqM n0 b x m) (hn : n1 ≤ n0) : RqM n1 b x m := by
  obtain ⟨hq, bm, bt, es, cl, mt, rfl, he, ht, hb, hbm⟩ := h
  exact ⟨hq, bm, bt, es, cl, mt, rfl, he, ht.mono hn, Nat.le_trans hn hb, Nat.le_trans hn hbm⟩
abbrev inn (m : Mem0) (k : Nat) (x : Mem0) : Prop := ∀ p ∈ x, k ≤ p.1 ∨ ∃ q ∈ m, q.1 = p.1
theorem inn_refl (m : Mem0) (k : Nat) : inn m k m := fun p hp => .inr ⟨p, hp, rfl⟩
theorem inn_trans {m x y : Mem0} {k : Nat} (h : inn m k x) (h2 : inn x k y) : inn m k y := fun p hp => by
  rcases h2 p hp with q | ⟨q, hq, e⟩
  · exact .inl q
  · rw [← e]; exact h q hq
theorem inn_S {m x y : Mem0} {k : Nat} (h : inn x k y) (hs : ∀ p ∈ x, inM m p.1) : ∀ p ∈ y, p.1 < k → inM m p.1 := fun p hp hlt => by
  rcases h p hp with q | ⟨q, hq, e⟩
  · omega
  · rw [← e]; exact hs q hq
theorem inM_0 {b : Nat} {o : Obj} {m : Mem0} : inM ((b, o) :: m) b := ⟨_, List.mem_cons_self .., rfl⟩
theorem inM_1 {b : Nat} {o : Obj} {p : Nat × Obj} {m : Mem0} : inM (p :: (b, o) :: m) b := ⟨_, List.mem_cons_of_mem _ (List.mem_cons_self ..), rfl⟩
theorem inM_2 {p p' : Nat × Obj} {m : Mem0} : ∀ q ∈ m, inM (p :: p' :: m) q.1 := fun q hq => ⟨_, List.mem_cons_of_mem _ (List.mem_cons_of_mem _ hq), rfl⟩
theorem rq_leaf {mt mt' M : Mem0} {p0 p1 p0' p1' : Nat × Obj} {T : Value → Mem0 → Prop} {u : Value} {w w' : World} (hT : T u (p0 :: p1 :: mt')) (hm : Mem w' M) (hs : SubM M (p0 :: p1 :: (mt' ++ []))) (hc : Chg (inM (p0' :: p1' :: mt)) w w') (h0 : p0'.1 = p0.1) (h1 : p1'.1 = p1.1)
    (hin : inn mt w.heap.size mt') : Upd (p0' :: p1' :: mt) T w u w' := by
  rw [List.append_nil] at hs
  refine ⟨hc, _, hT, hs.mem w' hm, fun p hp => ?_⟩
  rcases List.mem_cons.1 hp with rfl | hp
  · exact .inr ⟨_, List.mem_cons_self .., h0⟩
  · rcases List.mem_cons.1 hp with rfl | hp
    · exact .inr ⟨_, List.mem_cons_of_mem _ (List.mem_cons_self ..), h1⟩
    · rcases hin p hp with q | ⟨q, hq, e⟩
      · exact .inl q
      · exact .inr ⟨q, List.mem_cons_of_mem _ (List.mem_cons_of_mem _ hq), e⟩
theorem rq_same {mt M : Mem0} {p0 p1 : Nat × Obj} {T : Value → Mem0 → Prop} {u : Value} {w w' : World} (hT : T u (p0 :: p1 :: mt)) (hm : Mem w' M) (hs : SubM M (p0 :: p1 :: (mt ++ []))) (hc : Chg (inM (p0 :: p1 :: mt)) w w') : Upd (p0 :: p1 :: mt) T w u w' := rq_leaf hT hm hs hc rfl rfl (inn_refl mt _)
theorem cur_pos {x : Qm} (h : QWf x) (h1 : ¬ x.cur = -1) : 0 ≤ x.cur := by
  rcases h.cur with q | ⟨t, ht, e⟩
  · exact absurd q h1
  · rw [← e]; exact h.pos t ht
theorem ne_cons {α : Type} {l : List α} (h : l ≠ []) : ∃ a t, l = a :: t := by cases l with | nil => exact absurd rfl h | cons a t => exact ⟨a, t, rfl⟩
set_option maxRecDepth 100000 in
theorem place_spec {b bm bt : Nat} {g cur ran ld : Int} {fl : BitVec 64} (v : BitVec 64) (wt : Int) (w : World) (hM : Mem w [rqC b g fl bm bt cur ran ld]) : Ret Try.prog 63 #[.pointer (some ⟨b, 0, none⟩), U v, .int .i64 wt] w (fun u w' => u = U (clampO v fl (reachO wt g)) ∧ Ext w w') := by
 refine Ret.enterM (l := [.pointer (some ⟨b, 0, none⟩), U v, .int .i64 wt]) Try.func63 rfl Try.ntmps63 rfl (rqC b g fl bm bt cur ran ld :: []) (no) hM ?_
 refine wpM.seq (wpM.region ?_)
 refine LM.as rfl ?_
 refine LM.nil (QM.sub (e' := [(0, _), (1, _), (2, _)]) au9 (QM.then ?_))
 refine wpM.seq ?_
 refine wpM.draw [(0, 0), (1, 0), (2, 0), (3, 0), (4, 1), (5, 0), (6, 0), (7, 0), (8, 0), (9, 1), (10, 2), (11, 2), (12, 0)] (by kernel_rfl) (by kernel_rfl) ?_
 refine LD.val rfl rfl (ov_move rfl) ?_
 refine LD.val rfl rfl (ov_move rfl) ?_
 refine LD.val rfl rfl (ov_nilCheck rfl) ?_
 refine LD.val rfl rfl (ov_field Try.underlying93 rfl Try.sizeOf26 rfl (k := 1) rfl rfl) ?_
 refine LD.rd rfl rfl (om_ld Try.isAgg26 rfl rfl) ?_
 refine LD.val rfl rfl (ov_move rfl) ?_
 refine LD.val rfl rfl (ov_move rfl) ?_
 refine LD.val rfl rfl (ov_nilCheck rfl) ?_
 refine LD.val rfl rfl (ov_field Try.underlying93 rfl Try.sizeOf3 rfl (k := 0) rfl rfl) ?_
 refine LD.rd rfl rfl (om_ld Try.isAgg3 rfl rfl) ?_
 refine LD.callE rfl rfl (oc_call (enters_fn Try.func20 (by kernel_rfl) rfl) rfl) (fun w hm hc hg => ureach_spec _ _ w) ?_
 refine LD.callE rfl rfl (oc_call (enters_fn Try.func88 (by kernel_rfl) rfl) rfl) (fun w hm hc hg => uclamp_spec _ _ _ w) ?_
 refine LD.val rfl rfl (ov_assign rfl) ?_
 refine LD.nil ?_
 refine QM.sub (e' := [(6, _)]) ⟨rfl, trivial⟩ (QM.then ?_)
 refine wpM.ret ?_
 refine QM.leave (.inl rfl) [.tmp 6] Try.results63 rfl ?_
 intro w' hm' hc' hg'
 exact ⟨rfl, hc'⟩
set_option maxRecDepth 100000 in
theorem key_spec {b bm bt : Nat} {g cur ran ld : Int} {fl : BitVec 64} {es : Array MapEntry} {cl : Nat} {l : List Kv} (a : Int) (w : World) (hes : Ens .i64 es.toList (entQ l)) (hM : Mem w [rqC b g fl bm bt cur ran ld, (bm, .map es cl)]) : Ret Try.prog 65 #[.pointer (some ⟨b, 0, none⟩), .int .i64 a] w (fun u w' => u = .agg #[U (gQ l a).V, .int .i64 a] ∧ Ext w w') := by
 refine Ret.enterM (l := [.pointer (some ⟨b, 0, none⟩), .int .i64 a]) Try.func65 rfl Try.ntmps65 rfl (rqC b g fl bm bt cur ran ld :: (bm, .map es cl) :: []) (no) hM ?_
 refine wpM.seq (wpM.region ?_)
 refine LM.alloc Try.zeroValue100 rfl (fun b4 hb4 => ?_)
 refine LM.nil (QM.sub (e' := [(0, _), (1, _), (4, _)]) au9 (QM.then (wpM.seq (wpM.region ?_))))
 refine LM.mv rfl ?_
 refine LM.val (ov_nilCheck rfl) ?_
 refine LM.val (ov_field Try.underlying93 rfl Try.sizeOf89 rfl (k := 2) rfl rfl) ?_
 refine LM.rd (om_ld Try.isAgg89 rfl rfl) ?_
 refine LM.mv rfl ?_
 refine LM.rd (om_lk Try.underlying89 Try.underlying3 Try.zeroValue95 rfl rfl (by assumption) (ent_get _ _)) ?_
 refine LM.val (ov_fieldV Try.underlying95 rfl Try.isAgg26 rfl rfl) ?_
 refine LM.mv rfl ?_
 refine LM.val (ov_build (cs := #[_, _]) rfl (by first | rfl | kernel_rfl)) ?_
 refine LM.stW Try.sizeOf100 rfl rfl rfl rfl au7 (fun hlt => by first | exact inM_0 | exact inM_1 | exact absurd hlt (by omega)) ?_
 refine LM.nil (QM.sub (e' := [(4, _)]) ⟨rfl, trivial⟩ (QM.then ?_))
 refine wpM.ret ?_
 refine QM.leaveCs (ds := ([])) (.inl rfl) [.cell 4 100] Try.results65 hd_nil (rc_w rfl Try.isAgg100 Try.sizeOf100 rfl rc_nil) ?_
 intro w' hm' hc'
 exact ⟨rfl, hc'⟩
set_option maxRecDepth 100000 in
theorem rqV_spec {n0 b : Nat} {x : Qm} {m : Mem0} (a : Int) (w : World) (h : RqM n0 b x m) (hM : Mem w m) : Ret Try.prog 14 #[.pointer (some ⟨b, 0, none⟩), .int .i64 a] w (fun u w' => u = .tuple #[U (gQ x.l a).V, .bool (decide (ixO x.l a < x.l.length))] ∧ Ext w w') := by
 obtain ⟨hq, bm, bt, es, cl, mt, rfl, he, ht, hb, hbm⟩ := h
 refine Ret.enterM (l := [.pointer (some ⟨b, 0, none⟩), .int .i64 a]) Try.func14 rfl Try.ntmps14 rfl (rqC b x.g x.fl bm bt x.cur x.ran (loadO x.l) :: (bm, .map es cl) :: (mt ++ [])) (no) (by rw [List.append_nil]; exact hM) ?_
 refine wpM.seq (wpM.region ?_)
 refine LM.as rfl (LM.as rfl ?_)
 refine LM.nil (QM.sub (e' := [(0, _), (1, _)]) au9 (QM.then ?_))
 refine wpM.seq ?_
 refine wpM.seq (wpM.region ?_)
 refine LM.mv rfl ?_
 refine LM.val (ov_peql (by kernel_rfl) rfl rfl) ?_
 refine LM.nil (QM.sub (e' := [(0, _), (1, _), (9, _)]) au9 (QM.then ?_))
 refine wpM.condF rfl ?_
 refine wpM.skip ?_
 refine QM.then (wpM.seq (wpM.region ?_))
 refine LM.mv rfl ?_
 refine LM.val (ov_nilCheck rfl) ?_
 refine LM.val (ov_field Try.underlying93 rfl Try.sizeOf89 rfl (k := 2) rfl rfl) ?_
 refine LM.rd (om_ld Try.isAgg89 rfl rfl) ?_
 refine LM.mv rfl ?_
 refine LM.rd (om_lkOk Try.underlying89 Try.underlying3 Try.zeroValue95 rfl rfl (by assumption) (ent_get _ _) (ent_has _ _)) ?_
 refine LM.mv rfl ?_
 refine LM.val (ov_extract rfl rfl) ?_
 refine LM.val (ov_extract rfl rfl) ?_
 refine LM.alloc Try.zeroValue95 rfl (fun b6 hb6 => ?_)
 refine LM.stW Try.sizeOf95 rfl rfl rfl rfl au7 (fun hlt => by first | exact inM_0 | exact inM_1 | exact absurd hlt (by omega)) ?_
 refine LM.as rfl ?_
 refine LM.nil (QM.sub (e' := [(6, _), (7, _)]) au9 (QM.then (wpM.seq (wpM.region ?_))))
 refine LM.val (ov_field Try.underlying95 rfl Try.sizeOf26 rfl (k := 0) rfl rfl) ?_
 refine LM.rd (om_ld Try.isAgg26 rfl rfl) ?_
 refine LM.mv rfl (LM.as rfl (LM.as rfl ?_))
 refine LM.nil (QM.sub (e' := [(4, _), (5, _)]) au9 (QM.then ?_))
 refine wpM.ret ?_
 refine QM.leave (.inl rfl) [.tmp 4, .tmp 5] Try.results14 rfl ?_
 intro w' hm' hc' hg'
 exact ⟨rfl, hc'⟩
set_option maxRecDepth 100000 in
theorem rqCur_spec {n0 b : Nat} {x : Qm} {m : Mem0} (w : World) (h : RqM n0 b x m) (hM : Mem w m) : Ret Try.prog 37 #[.pointer (some ⟨b, 0, none⟩)] w (fun u w' => u = .tuple #[.int .i64 x.cur, .int .i64 x.ran, .bool (decide (x.cur ≠ -1))] ∧ Ext w w') := by
 obtain ⟨hq, bm, bt, es, cl, mt, rfl, he, ht, hb, hbm⟩ := h
 refine Ret.enterM (l := [.pointer (some ⟨b, 0, none⟩)]) Try.func37 rfl Try.ntmps37 rfl (rqC b x.g x.fl bm bt x.cur x.ran (loadO x.l) :: (bm, .map es cl) :: (mt ++ [])) (no) (by rw [List.append_nil]; exact hM) ?_
 refine wpM.seq (wpM.region ?_)
 refine LM.as rfl (LM.as rfl (LM.as rfl ?_))
 refine LM.nil (QM.sub (e' := [(0, _)]) ⟨rfl, trivial⟩ (QM.then ?_))
 refine wpM.seq ?_
 refine wpM.seq (wpM.region ?_)
 refine LM.mv rfl ?_
 refine LM.val (ov_peql (by kernel_rfl) rfl rfl) ?_
 refine LM.nil (QM.sub (e' := [(0, _), (6, _)]) au9 (QM.then ?_))
 refine wpM.condF rfl ?_
 refine wpM.skip ?_
 refine QM.then ?_
 refine wpM.seq ?_
 refine wpM.draw [(0, 0), (1, 0), (2, 0), (3, 1), (4, 0), (5, 0), (6, 0), (7, 1), (8, 0), (9, 0), (10, 0), (11, 1), (12, 0), (13, 0), (14, 0), (15, 0)] (by kernel_rfl) (by kernel_rfl) ?_
 refine LD.val rfl rfl (ov_move rfl) ?_
 refine LD.val rfl rfl (ov_nilCheck rfl) ?_
 refine LD.val rfl rfl (ov_field Try.underlying93 rfl Try.sizeOf3 rfl (k := 4) rfl rfl) ?_
 refine LD.rd rfl rfl (om_ld Try.isAgg3 rfl rfl) ?_
 refine LD.val rfl rfl (ov_move rfl) ?_
 refine LD.val rfl rfl (ov_nilCheck rfl) ?_
 refine LD.val rfl rfl (ov_field Try.underlying93 rfl Try.sizeOf3 rfl (k := 5) rfl rfl) ?_
 refine LD.rd rfl rfl (om_ld Try.isAgg3 rfl rfl) ?_
 refine LD.val rfl rfl (ov_move rfl) ?_
 refine LD.val rfl rfl (ov_nilCheck rfl) ?_
 refine LD.val rfl rfl (ov_field Try.underlying93 rfl Try.sizeOf3 rfl (k := 4) rfl rfl) ?_
 refine LD.rd rfl rfl (om_ld Try.isAgg3 rfl rfl) ?_
 refine LD.val rfl rfl (ov_neq rfl rfl) ?_
 refine LD.val rfl rfl (ov_assign rfl) ?_
 refine LD.val rfl rfl (ov_assign rfl) ?_
 refine LD.val rfl rfl (ov_assign rfl) ?_
 refine LD.nil ?_
 refine QM.sub (e' := [(2, _), (3, _), (4, _)]) au9 (QM.then ?_)
 refine wpM.ret ?_
 refine QM.leave (.inl rfl) [.tmp 2, .tmp 3, .tmp 4] Try.results37 rfl ?_
 intro w' hm' hc' hg'
 exact ⟨rfl, hc'⟩
set_option maxRecDepth 100000 in
theorem rqFlo_spec {n0 b : Nat} {x : Qm} {m : Mem0} (w : World) (h : RqM n0 b x m) (hM : Mem w m) : Ret Try.prog 19 #[.pointer (some ⟨b, 0, none⟩)] w (fun u w' => u = U x.fl ∧ Ext w w') := by
 obtain ⟨hq, bm, bt, es, cl, mt, rfl, he, ht, hb, hbm⟩ := h
 refine Ret.enterM (l := [.pointer (some ⟨b, 0, none⟩)]) Try.func19 rfl Try.ntmps19 rfl (rqC b x.g x.fl bm bt x.cur x.ran (loadO x.l) :: (bm, .map es cl) :: (mt ++ [])) (no) (by rw [List.append_nil]; exact hM) ?_
 refine wpM.seq (wpM.region ?_)
 refine LM.as rfl ?_
 refine LM.nil (QM.sub (e' := [(0, _)]) ⟨rfl, trivial⟩ (QM.then ?_))
 refine wpM.seq ?_
 refine wpM.seq (wpM.region ?_)
 refine LM.mv rfl ?_
 refine LM.val (ov_peql (by kernel_rfl) rfl rfl) ?_
 refine LM.nil (QM.sub (e' := [(0, _), (4, _)]) au9 (QM.then ?_))
 refine wpM.condF rfl ?_
 refine wpM.skip ?_
 refine QM.then (wpM.seq (wpM.region ?_))
 refine LM.mv rfl ?_
 refine LM.val (ov_nilCheck rfl) ?_
 refine LM.val (ov_field Try.underlying93 rfl Try.sizeOf26 rfl (k := 1) rfl rfl) ?_
 refine LM.rd (om_ld Try.isAgg26 rfl rfl) ?_
 refine LM.as rfl ?_
 refine LM.nil (QM.sub (e' := [(2, _)]) ⟨rfl, trivial⟩ (QM.then ?_))
 refine wpM.ret ?_
 refine QM.leave (.inl rfl) [.tmp 2] Try.results19 rfl ?_
 intro w' hm' hc' hg'
 exact ⟨rfl, hc'⟩
set_option maxRecDepth 100000 in
theorem rqLen_spec {n0 b : Nat} {x : Qm} {m : Mem0} (w : World) (h : RqM n0 b x m) (hM : Mem w m) : Ret Try.prog 40 #[.pointer (some ⟨b, 0, none⟩)] w (fun u w' => u = .int .i64 (x.l.length : Nat) ∧ Ext w w') := by
 obtain ⟨hq, bm, bt, es, cl, mt, rfl, he, ht, hb, hbm⟩ := h
 refine Ret.enterM (l := [.pointer (some ⟨b, 0, none⟩)]) Try.func40 rfl Try.ntmps40 rfl (rqC b x.g x.fl bm bt x.cur x.ran (loadO x.l) :: (bm, .map es cl) :: (mt ++ [])) (no) (by rw [List.append_nil]; exact hM) ?_
 refine wpM.seq (wpM.region ?_)
 refine LM.as rfl ?_
 refine LM.nil (QM.sub (e' := [(0, _)]) ⟨rfl, trivial⟩ (QM.then ?_))
 refine wpM.seq ?_
 refine wpM.seq (wpM.region ?_)
 refine LM.mv rfl ?_
 refine LM.val (ov_peql (by kernel_rfl) rfl rfl) ?_
 refine LM.nil (QM.sub (e' := [(0, _), (4, _)]) au9 (QM.then ?_))
 refine wpM.condF rfl ?_
 refine wpM.skip ?_
 refine QM.then (wpM.seq (wpM.region ?_))
 refine LM.mv rfl ?_
 refine LM.val (ov_nilCheck rfl) ?_
 refine LM.val (ov_field Try.underlying93 rfl Try.sizeOf89 rfl (k := 2) rfl rfl) ?_
 refine LM.rd (om_ld Try.isAgg89 rfl rfl) ?_
 refine LM.rd (om_mlen Try.underlying89 rfl (by assumption) rfl) ?_
 refine LM.as rfl ?_
 refine LM.nil (QM.sub (e' := [(2, _)]) ⟨rfl, trivial⟩ (QM.then ?_))
 refine wpM.ret ?_
 refine QM.leave (.inl rfl) [.tmp 2] Try.results40 rfl ?_
 intro w' hm' hc' hg'
 exact ⟨by show Value.int .i64 ((entQ x.l).length : Nat) = _; rw [entQ_len], hc'⟩
set_option maxRecDepth 100000 in
theorem rqLoad_spec {n0 b : Nat} {x : Qm} {m : Mem0} (w : World) (h : RqM n0 b x m) (hM : Mem w m) : Ret Try.prog 41 #[.pointer (some ⟨b, 0, none⟩)] w (fun u w' => u = .int .i64 (loadO x.l) ∧ Ext w w') := by
 obtain ⟨hq, bm, bt, es, cl, mt, rfl, he, ht, hb, hbm⟩ := h
 refine Ret.enterM (l := [.pointer (some ⟨b, 0, none⟩)]) Try.func41 rfl Try.ntmps41 rfl (rqC b x.g x.fl bm bt x.cur x.ran (loadO x.l) :: (bm, .map es cl) :: (mt ++ [])) (no) (by rw [List.append_nil]; exact hM) ?_
 refine wpM.seq (wpM.region ?_)
 refine LM.as rfl ?_
 refine LM.nil (QM.sub (e' := [(0, _)]) ⟨rfl, trivial⟩ (QM.then ?_))
 refine wpM.seq ?_
 refine wpM.seq (wpM.region ?_)
 refine LM.mv rfl ?_
 refine LM.val (ov_peql (by kernel_rfl) rfl rfl) ?_
 refine LM.nil (QM.sub (e' := [(0, _), (4, _)]) au9 (QM.then ?_))
 refine wpM.condF rfl ?_
 refine wpM.skip ?_
 refine QM.then (wpM.seq (wpM.region ?_))
 refine LM.mv rfl ?_
 refine LM.val (ov_nilCheck rfl) ?_
 refine LM.val (ov_field Try.underlying93 rfl Try.sizeOf3 rfl (k := 6) rfl rfl) ?_
 refine LM.rd (om_ld Try.isAgg3 rfl rfl) ?_
 refine LM.as rfl ?_
 refine LM.nil (QM.sub (e' := [(2, _)]) ⟨rfl, trivial⟩ (QM.then ?_))
 refine wpM.ret ?_
 refine QM.leave (.inl rfl) [.tmp 2] Try.results41 rfl ?_
 intro w' hm' hc' hg'
 exact ⟨rfl, hc'⟩
set_option maxRecDepth 100000 in
theorem least2_spec {n0 b : Nat} {x : Qm} {m : Mem0} (w : World) (h : RqM n0 b x m) (hM : Mem w m) : Ret Try.prog 78 #[.pointer (some ⟨b, 0, none⟩)] w (fun u w' => u = .tuple #[U (minO x.l), .bool (decide (x.l ≠ []))] ∧ Ext w w') := by
 obtain ⟨hq, bm, bt, es, cl, mt, rfl, he, ht, hb, hbm⟩ := h
 refine Ret.enterM (l := [.pointer (some ⟨b, 0, none⟩)]) Try.func78 rfl Try.ntmps78 rfl (rqC b x.g x.fl bm bt x.cur x.ran (loadO x.l) :: (bm, .map es cl) :: (mt ++ [])) (no) (by rw [List.append_nil]; exact hM) ?_
 refine wpM.seq (wpM.region ?_)
 refine LM.as rfl (LM.as rfl ?_)
 refine LM.nil (QM.sub (e' := [(0, _)]) ⟨rfl, trivial⟩ (QM.then (wpM.seq (wpM.region ?_))))
 refine LM.mv rfl ?_
 refine LM.val (ov_nilCheck rfl) ?_
 refine LM.val (ov_field Try.underlying93 rfl Try.sizeOf90 rfl (k := 3) rfl rfl) ?_
 refine LM.rd (om_ld Try.isAgg90 rfl rfl) ?_
 refine LM.callE (oc_call (enters_fn Try.func73 (by kernel_rfl) rfl) rfl) (fun w hm hc hg => first_spec w ht (hm.pick mt)) ?_
 refine LM.mv rfl ?_
 refine LM.val (ov_extract rfl rfl) ?_
 refine LM.val (ov_extract rfl rfl) ?_
 refine LM.val (ov_extract rfl rfl) ?_
 refine LM.alloc Try.zeroValue100 rfl (fun b4 hb4 => ?_)
 refine LM.stW Try.sizeOf100 rfl rfl rfl rfl au7 (fun hlt => by first | exact inM_0 | exact inM_1 | exact absurd hlt (by omega)) ?_
 refine LM.as rfl (LM.as rfl ?_)
 refine LM.nil (QM.sub (e' := [(0, _), (4, _), (6, _)]) au9 (QM.then ?_))
 refine wpM.seq ?_
 refine wpM.seq (wpM.region ?_)
 refine LM.mv rfl ?_
 refine LM.val (ov_nilCheck rfl) ?_
 refine LM.val (ov_field Try.underlying93 rfl Try.sizeOf3 rfl (k := 4) rfl rfl) ?_
 refine LM.rd (om_ld Try.isAgg3 rfl rfl) ?_
 refine LM.val (ov_eql rfl rfl) ?_
 refine LM.nil (QM.sub (e' := [(0, _), (4, _), (6, _), (21, _)]) au9 (QM.then ?_))
 refine wpM.condD rfl (fun h1 => ?_) (fun h1 => ?_)
 ·
  refine wpM.seq (wpM.region ?_)
  refine LM.val (ov_field Try.underlying100 rfl Try.sizeOf26 rfl (k := 0) rfl rfl) ?_
  refine LM.rd (om_ld Try.isAgg26 rfl rfl) ?_
  refine LM.mv rfl (LM.as rfl (LM.as rfl ?_))
  refine LM.nil (QM.sub (e' := [(2, _), (3, _)]) au9 (QM.then ?_))
  refine wpM.ret ?_
  refine QM.then_ret ?_
  refine QM.leave (.inl rfl) [.tmp 2, .tmp 3] Try.results78 rfl ?_
  intro w' hm' hc' hg'
  refine ⟨?_, hc'⟩; obtain ⟨h5, h6⟩ := min_none hq (by omega); by_cases h7 : rdyO x = []; (have h8 := h5 h7; simp only [resV, h7, h8]; try rfl); (obtain ⟨t, l, e⟩ := ne_cons h7; obtain ⟨h8, h9⟩ := h6 t l e; simp only [resV, e, h9, List.headD_cons, decide_eq_true h8]; try rfl)
 refine wpM.skip ?_
 refine QM.then ?_
 refine wpM.seq ?_
 refine wpM.draw [(0, 0), (1, 0), (2, 0), (3, 1), (4, 0), (5, 0), (6, 0), (7, 1), (8, 1), (9, 0), (10, 0)] (by kernel_rfl) (by kernel_rfl) ?_
 refine LD.val rfl rfl (ov_move rfl) ?_
 refine LD.val rfl rfl (ov_nilCheck rfl) ?_
 refine LD.val rfl rfl (ov_field Try.underlying93 rfl Try.sizeOf89 rfl (k := 2) rfl rfl) ?_
 refine LD.rd rfl rfl (om_ld Try.isAgg89 rfl rfl) ?_
 refine LD.val rfl rfl (ov_move rfl) ?_
 refine LD.val rfl rfl (ov_nilCheck rfl) ?_
 refine LD.val rfl rfl (ov_field Try.underlying93 rfl Try.sizeOf3 rfl (k := 4) rfl rfl) ?_
 refine LD.rd rfl rfl (om_ld Try.isAgg3 rfl rfl) ?_
 refine LD.rd rfl rfl (om_lk Try.underlying89 Try.underlying3 Try.zeroValue95 rfl rfl (by assumption) (ent_get _ _)) ?_
 refine LD.val rfl rfl (ov_fieldV Try.underlying95 rfl Try.isAgg26 rfl rfl) ?_
 refine LD.val rfl rfl (ov_assign rfl) ?_
 refine LD.nil ?_
 refine QM.sub (e' := [(4, _), (6, _), (7, _)]) au9 (QM.then ?_)
 refine wpM.seq ?_
 refine wpM.seq (wpM.region ?_)
 refine LM.mv rfl ?_
 refine LM.nil (QM.sub (e' := [(4, _), (7, _), (35, _)]) au9 (QM.then ?_))
 refine wpM.condD rfl (fun h2 => ?_) (fun h2 => ?_)
 ·
  refine wpM.region ?_
  refine LM.mv rfl (LM.val (ov_field Try.underlying100 rfl Try.sizeOf26 rfl (k := 0) rfl rfl) ?_)
  refine LM.rd (om_ld Try.isAgg26 rfl rfl) ?_
  refine LM.val (ov_umin rfl rfl) ?_
  refine LM.as rfl ?_
  refine LM.nil (QM.sub (e' := [(7, _)]) ⟨rfl, trivial⟩ (QM.then (wpM.seq (wpM.region ?_))))
  refine LM.mv rfl (LM.as rfl (LM.as rfl ?_))
  refine LM.nil (QM.sub (e' := [(2, _), (3, _)]) au9 (QM.then ?_))
  refine wpM.ret ?_
  refine QM.leave (.inl rfl) [.tmp 2, .tmp 3] Try.results78 rfl ?_
  intro w' hm' hc' hg'
  refine ⟨?_, hc'⟩; obtain ⟨h5, h6, h7⟩ := min_cur hq (cur_pos hq h1); obtain ⟨t, l, e⟩ := ne_cons h2; simp only [resV, e, h7 t l e, List.headD_cons, decide_eq_true h5]; try rfl
 refine wpM.skip ?_
 refine QM.then (wpM.seq (wpM.region ?_))
 refine LM.mv rfl (LM.as rfl (LM.as rfl ?_))
 refine LM.nil (QM.sub (e' := [(2, _), (3, _)]) au9 (QM.then ?_))
 refine wpM.ret ?_
 refine QM.leave (.inl rfl) [.tmp 2, .tmp 3] Try.results78 rfl ?_
 intro w' hm' hc' hg'
 refine ⟨?_, hc'⟩; obtain ⟨h5, h6, h7⟩ := min_cur hq (cur_pos hq h1); simp only [resV, h6 (Classical.not_not.1 h2), decide_eq_true h5]; try rfl
end Go.Eng
namespace Go.Eng
open Go Go.Proofs Go.RowKit
def addV (x : Qm) (a : Int) (v : BitVec 64) (w : Int) : BitVec 64 := if addE x a = 0 then plcO x v (bringO w 1 4096) else 0#64
def addX (x : Qm) (a : Int) (v : BitVec 64) (w : Int) : Qm := if addE x a = 0 then addQ x a v w else x
def remX (x : Qm) (a : Int) : Qm := if ixO x.l a < x.l.length then remQ x a else x
def weighX (x : Qm) (a w : Int) : Qm := if ixO x.l a < x.l.length then weighQ x a w else x
def RqN (g : Int) (n0 : Nat) (v : Value) (m : Mem0) : Prop := ∃ b, v = .pointer (some ⟨b, 0, none⟩) ∧ RqM n0 b (newQ g) m
theorem RqN.mono {g : Int} : ∀ (n n' : Nat) (v : Value) (m : Mem0), n' ≤ n → RqN g n v m → RqN g n' v m := fun n n' v m hn ⟨b, h1, h⟩ => ⟨b, h1, h.mono hn⟩
theorem addE_neg {x : Qm} {a : Int} (h : a < 0) : addE x a = 1 := if_pos h
theorem addE_met {x : Qm} {a : Int} (h : ¬ a < 0) (h2 : ixO x.l a < x.l.length) : addE x a = 12 := by unfold addE; rw [if_neg h, if_pos h2]
theorem addE_full {x : Qm} {a : Int} (h : ¬ a < 0) (h2 : ¬ ixO x.l a < x.l.length) (h3 : 16 ≤ x.l.length) : addE x a = 3 := by unfold addE; rw [if_neg h, if_neg h2, if_pos h3]
theorem addE_ok {x : Qm} {a : Int} (h : ¬ a < 0) (h2 : ¬ ixO x.l a < x.l.length) (h3 : ¬ 16 ≤ x.l.length) : addE x a = 0 := by unfold addE; rw [if_neg h, if_neg h2, if_neg h3]
theorem addV_no {x : Qm} {a : Int} {v : BitVec 64} {w : Int} (h : addE x a ≠ 0) : addV x a v w = 0#64 := if_neg h
theorem addX_no {x : Qm} {a : Int} {v : BitVec 64} {w : Int} (h : addE x a ≠ 0) : addX x a v w = x := if_neg h
theorem gQ_new {l : List Kv} {a : Int} (h : ¬ ixO l a < l.length) (v : BitVec 64) (w : Int) : gQ (l ++ [⟨v, a, w⟩]) a = ⟨v, a, w⟩ := by
  unfold gQ
  have e : ixO (l ++ [⟨v, a, w⟩]) a = l.length := by rw [ixO_app h, ixO_cons, if_pos rfl]; rfl
  rw [e, List.getD_eq_getElem?_getD, List.getElem?_append_right (Nat.le_refl _)]; simp
theorem load_new (l : List Kv) (v : BitVec 64) (a w : Int) : loadO l + w = loadO (l ++ [⟨v, a, w⟩]) := by rw [load_app]; simp [loadO]
theorem RbN.mn {most : Nat} : ∀ (k k' : Nat) (u : Value) (m : Mem0), k' ≤ k → RbN most k u m → RbN most k' u m := fun k k' u m hn h => h.mono hn
theorem rdy_id {x : Qm} (h : QWf x) {y : Kv} (hy : y ∈ rdyO x) : y ∈ x.l ∧ y.id ≠ x.cur := (rdy_mem h.nd y).1 hy
theorem rqm_leaf {n0 b bm bt cl cl' : Nat} {x' : Qm} {g cur ran ld : Int} {fl : BitVec 64} {es es' : Array MapEntry} {mt mt' M : Mem0} {u0 : Value} {w w' : World} (hq : QWf x') (he : Ens .i64 es'.toList (entQ x'.l)) (ht : RbT n0 bt 16 (rdyO x') mt') (hb : n0 ≤ b) (hbm : n0 ≤ bm) (hm : Mem w' M)
    (hs : SubM M (rqC b x'.g x'.fl bm bt x'.cur x'.ran (loadO x'.l) :: (bm, .map es' cl') :: (mt' ++ []))) (hc : Chg (inM (rqC b g fl bm bt cur ran ld :: (bm, .map es cl) :: mt)) w w') (hin : inn mt w.heap.size mt') :
    Upd (rqC b g fl bm bt cur ran ld :: (bm, .map es cl) :: mt) (fun u m' => u = u0 ∧ RqM n0 b x' m') w u0 w' :=
  rq_leaf (p0 := rqC b x'.g x'.fl bm bt x'.cur x'.ran (loadO x'.l)) (p1 := (bm, .map es' cl')) (mt' := mt') ⟨rfl, hq, bm, bt, es', cl', mt', rfl, he, ht, hb, hbm⟩ hm hs hc rfl rfl hin
set_option maxRecDepth 100000 in
theorem rqnew_spec (g : Int) (w : World) : Ret Try.prog 12 #[.int .i64 g] w (fun v w' => Ext w w' ∧ ∃ m, RqN g w.heap.size v m ∧ Mem w' m ∧ ∀ p ∈ m, w.heap.size ≤ p.1) := by
 refine Ret.enterM (l := [.int .i64 g]) Try.func12 rfl Try.ntmps12 rfl ([]) (no) (Mem.nil w) ?_
 refine wpM.seq (wpM.region ?_)
 refine LM.as rfl ?_
 refine LM.nil (QM.sub (e' := [(0, _)]) ⟨rfl, trivial⟩ (QM.then (wpM.seq (wpM.region ?_))))
 refine LM.mv rfl ?_
 refine LM.val (ov_max rfl rfl) ?_
 rw [show (if 1 > g then 1 else g) = (if (1 : Int) > g then 1 else g) from rfl]
 refine LM.val (ov_min rfl rfl) ?_
 rw [bring_eq (by decide)]
 refine LM.makeMap rfl (fun b6 hb6 => ?_)
 refine LM.callT (oc_call (enters_fn Try.func62 (by kernel_rfl) rfl) rfl) RbN.mn (fun w hm hc hg => rbnew_spec w) ?_
 rintro u7 m7 ⟨bt, rfl, ht⟩ hge7
 refine LM.val (ov_build (cs := #[_, _, _, _, _, _, _]) rfl (by first | rfl | kernel_rfl)) ?_
 refine LM.box rfl rfl (fun b9 hb9 => ?_)
 refine LM.as rfl ?_
 refine LM.nil (QM.sub (e' := [(2, _)]) ⟨rfl, trivial⟩ (QM.then ?_))
 refine wpM.ret ?_
 refine QM.leave (.inl rfl) [.tmp 2] Try.results12 rfl ?_
 intro w' hm' hc' hg'
 have hwf := new_wf g; exact ⟨hc', _, ⟨b9, rfl, hwf, b6, bt, #[], 0, m7, rfl, rfl, ht, hb9, hb6⟩, (SubM.mem (by (repeat' (first | (rw [List.append_nil]; exact SubM.all _) | exact SubM.all _ | refine SubM.cons rfl ?_ | exact SubM.nil _)))) w' hm', fun p hp => by simp only [List.mem_cons] at hp; rcases hp with rfl | rfl | hp; exact hb9; exact hb6; exact hge7 p hp⟩
set_option maxRecDepth 100000 in
theorem rqAdd_spec {n0 b : Nat} {x : Qm} {m : Mem0} (a : Int) (v : BitVec 64) (wt : Int) (w : World) (h : RqM n0 b x m) (hn0 : n0 ≤ w.heap.size) (hM : Mem w m) : Ret Try.prog 13 #[.pointer (some ⟨b, 0, none⟩), .int .i64 a, U v, .int .i64 wt] w (Upd m (fun u m' => u = .tuple #[U (addV x a v wt), .int .i64 (addE x a)] ∧ RqM n0 b (addX x a v wt) m') w) := by
 obtain ⟨hq, bm, bt, es, cl, mt, rfl, he, ht, hb, hbm⟩ := h; have hll := hq.load; have hlen := hq.len; have hbr := bring_in (n := wt) (lo := 1) (hi := 4096) (by decide)
 refine Ret.enterM (l := [.pointer (some ⟨b, 0, none⟩), .int .i64 a, U v, .int .i64 wt]) Try.func13 rfl Try.ntmps13 rfl (rqC b x.g x.fl bm bt x.cur x.ran (loadO x.l) :: (bm, .map es cl) :: (mt ++ [])) ((inM (rqC b x.g x.fl bm bt x.cur x.ran (loadO x.l) :: (bm, .map es cl) :: mt))) (by rw [List.append_nil]; exact hM) ?_
 refine wpM.seq (wpM.region ?_)
 refine LM.as rfl (LM.as rfl ?_)
 refine LM.nil (QM.sub (e' := [(0, _), (1, _), (2, _), (3, _)]) au9 (QM.then ?_))
 refine wpM.seq ?_
 refine wpM.seq (wpM.region ?_)
 refine LM.mv rfl ?_
 refine LM.val (ov_peql (by kernel_rfl) rfl rfl) ?_
 refine LM.mv rfl (LM.sp 14 rfl rfl rfl (LM.mv rfl (LM.sp 14 rfl rfl rfl ?_)))
 refine LM.val (ov_lss rfl rfl) ?_
 refine LM.val (ov_pickF rfl rfl) ?_
 refine LM.nil (QM.sub (e' := [(0, _), (1, _), (2, _), (3, _), (17, _)]) au9 (QM.then ?_))
 refine wpM.condD rfl (fun h1 => ?_) (fun h1 => ?_)
 ·
  refine wpM.seq (wpM.region ?_)
  refine LM.as rfl (LM.as rfl ?_)
  refine LM.nil (QM.sub (e' := [(8, _), (9, _)]) au9 (QM.then ?_))
  refine wpM.ret ?_
  refine QM.then_ret ?_
  refine QM.leave (.inl rfl) [.tmp 8, .tmp 9] Try.results13 rfl ?_
  intro w' hm' hc' hg'
  have hE := addE_neg (x := x) h1; exact rq_same ⟨by rw [addV_no (by rw [hE]; decide), hE]; rfl, by rw [addX_no (by rw [hE]; decide)]; exact ⟨hq, bm, bt, es, cl, mt, rfl, he, ht, hb, hbm⟩⟩ hm' au1 hc'
 refine wpM.skip ?_
 refine QM.then ?_
 refine wpM.seq ?_
 refine wpM.seq (wpM.region ?_)
 refine LM.mv rfl ?_
 refine LM.val (ov_nilCheck rfl) ?_
 refine LM.val (ov_field Try.underlying93 rfl Try.sizeOf89 rfl (k := 2) rfl rfl) ?_
 refine LM.rd (om_ld Try.isAgg89 rfl rfl) ?_
 refine LM.mv rfl ?_
 refine LM.rd (om_lkOk Try.underlying89 Try.underlying3 Try.zeroValue95 rfl rfl (by assumption) (ent_get _ _) (ent_has _ _)) ?_
 refine LM.mv rfl ?_
 refine LM.val (ov_extract rfl rfl) ?_
 refine LM.val (ov_extract rfl rfl) ?_
 refine LM.alloc Try.zeroValue95 rfl (fun b10 hb10 => ?_)
 refine LM.stW Try.sizeOf95 rfl rfl rfl rfl au7 (fun hlt => by first | exact inM_0 | exact inM_1 | exact absurd hlt (by omega)) ?_
 refine LM.as rfl ?_
 refine LM.nil (QM.sub (e' := [(0, _), (1, _), (2, _), (3, _), (11, _)]) au9 (QM.then (wpM.seq (wpM.region ?_))))
 refine LM.mv rfl ?_
 refine LM.nil (QM.sub (e' := [(0, _), (1, _), (2, _), (3, _), (27, _)]) au9 (QM.then ?_))
 refine wpM.condD rfl (fun h2 => ?_) (fun h2 => ?_)
 ·
  refine wpM.seq (wpM.region ?_)
  refine LM.as rfl (LM.as rfl ?_)
  refine LM.nil (QM.sub (e' := [(8, _), (9, _)]) au9 (QM.then ?_))
  refine wpM.ret ?_
  refine QM.then_ret ?_
  refine QM.leave (.inl rfl) [.tmp 8, .tmp 9] Try.results13 rfl ?_
  intro w' hm' hc' hg'
  have hE := addE_met (x := x) h1 h2; exact rq_same ⟨by rw [addV_no (by rw [hE]; decide), hE]; rfl, by rw [addX_no (by rw [hE]; decide)]; exact ⟨hq, bm, bt, es, cl, mt, rfl, he, ht, hb, hbm⟩⟩ hm' au1 hc'
 refine wpM.skip ?_
 refine QM.then ?_
 refine wpM.seq ?_
 refine wpM.seq (wpM.region ?_)
 refine LM.mv rfl ?_
 refine LM.val (ov_nilCheck rfl) ?_
 refine LM.val (ov_field Try.underlying93 rfl Try.sizeOf89 rfl (k := 2) rfl rfl) ?_
 refine LM.rd (om_ld Try.isAgg89 rfl rfl) ?_
 refine LM.rd (om_mlen Try.underlying89 rfl (by assumption) rfl) ?_
 refine LM.val (ov_geq rfl rfl) ?_
 refine LM.nil (QM.sub (e' := [(0, _), (1, _), (2, _), (3, _), (33, _)]) au9 (QM.then ?_))
 refine wpM.condD rfl (fun h3 => ?_) (fun h3 => ?_)
 ·
  rw [entQ_len] at h3
  refine wpM.seq (wpM.region ?_)
  refine LM.as rfl (LM.as rfl ?_)
  refine LM.nil (QM.sub (e' := [(8, _), (9, _)]) au9 (QM.then ?_))
  refine wpM.ret ?_
  refine QM.then_ret ?_
  refine QM.leave (.inl rfl) [.tmp 8, .tmp 9] Try.results13 rfl ?_
  intro w' hm' hc' hg'
  have hE := addE_full (x := x) h1 h2 (by omega); exact rq_same ⟨by rw [addV_no (by rw [hE]; decide), hE]; rfl, by rw [addX_no (by rw [hE]; decide)]; exact ⟨hq, bm, bt, es, cl, mt, rfl, he, ht, hb, hbm⟩⟩ hm' au1 hc'
 rw [entQ_len] at h3; have hE := addE_ok h1 h2 (by omega); have hwf := add_wf (v := v) (w := wt) hq hE; have hrd := add_rdy (v := v) (w := wt) hq hE; have hld : loadO x.l + bringO wt 1 4096 = loadO (addQ x a v wt).l := load_new x.l (plcO x v (bringO wt 1 4096)) a (bringO wt 1 4096)
 refine wpM.skip ?_
 refine QM.then (wpM.seq (wpM.region ?_))
 refine LM.mv rfl ?_
 refine LM.val (ov_max rfl rfl) ?_
 refine LM.val (ov_min rfl rfl) ?_
 refine LM.as rfl ?_
 refine LM.nil (QM.sub (e' := [(0, _), (1, _), (2, _), (3, _)]) au9 (QM.then (wpM.seq (wpM.region ?_))))
 rw [bring_eq (by decide)]
 refine LM.mv rfl (LM.mv rfl (LM.mv rfl ?_))
 refine LM.callE (oc_call (enters_fn Try.func63 (by kernel_rfl) rfl) rfl) (fun w hm hc hg => place_spec v (bringO wt 1 4096) w (hm.pick (rqC b x.g x.fl bm bt x.cur x.ran (loadO x.l) :: []))) ?_
 refine LM.as rfl ?_
 refine LM.nil (QM.sub (e' := [(0, _), (1, _), (2, _), (3, _)]) au9 (QM.then (wpM.seq (wpM.region ?_))))
 refine LM.mv rfl ?_
 refine LM.val (ov_nilCheck rfl) ?_
 refine LM.val (ov_field Try.underlying93 rfl Try.sizeOf89 rfl (k := 2) rfl rfl) ?_
 refine LM.rd (om_ld Try.isAgg89 rfl rfl) ?_
 refine LM.mv rfl (LM.mv rfl (LM.mv rfl ?_))
 refine LM.val (ov_build (cs := #[U (plcO x v (bringO wt 1 4096)), .int .i64 (bringO wt 1 4096)]) rfl (by first | rfl | kernel_rfl)) ?_
 refine LM.mU Try.underlying89 Try.underlying3 rfl rfl rfl (by assumption) (fun hlt => by first | exact inM_0 | exact inM_1 | exact absurd hlt (by omega)) (fun esu1 clu1 hesu1 => ?_)
 refine LM.nil (QM.sub (e' := [(0, _), (1, _), (2, _), (3, _)]) au9 (QM.then (wpM.seq (wpM.region ?_))))
 rw [ent_new h2] at hesu1
 refine LM.mv rfl ?_
 refine LM.val (ov_nilCheck rfl) ?_
 refine LM.val (ov_field Try.underlying93 rfl Try.sizeOf3 rfl (k := 6) rfl rfl) ?_
 refine LM.rd (om_ld Try.isAgg3 rfl rfl) ?_
 refine LM.mv rfl ?_
 refine LM.val (ov_add64 rfl rfl (by omega)) ?_
 refine LM.val (ov_nilCheck rfl) ?_
 refine LM.val (ov_field Try.underlying93 rfl Try.sizeOf3 rfl (k := 6) rfl rfl) ?_
 refine LM.st Try.sizeOf3 rfl rfl rfl au5 rfl (fun hlt => by first | exact inM_0 | exact inM_1 | exact absurd hlt (by omega)) ?_
 refine LM.mem (SubM.mem (M' := rqC b x.g x.fl bm bt x.cur x.ran (loadO x.l + bringO wt 1 4096) :: (bm, .map esu1 clu1) :: (mt ++ [])) au1) ?_
 refine LM.nil (QM.sub (e' := [(0, _), (1, _), (2, _), (3, _)]) au9 (QM.then ?_))
 refine wpM.seq ?_
 refine wpM.draw [(0, 0), (1, 0), (2, 0), (3, 1), (4, 0), (5, 0), (7, 0), (6, 2), (8, 3)] (by kernel_rfl) (by kernel_rfl) ?_
 refine LD.val rfl rfl (ov_move rfl) ?_
 refine LD.val rfl rfl (ov_nilCheck rfl) ?_
 refine LD.val rfl rfl (ov_field Try.underlying93 rfl Try.sizeOf90 rfl (k := 3) rfl rfl) ?_
 refine LD.rd rfl rfl (om_ld Try.isAgg90 rfl rfl) ?_
 refine LD.val rfl rfl (ov_move rfl) ?_
 refine LD.val rfl rfl (ov_move rfl) ?_
 refine LD.val rfl rfl (ov_move rfl) ?_
 refine LD.callE rfl rfl (oc_call (enters_fn Try.func65 (by kernel_rfl) rfl) rfl) (fun w hm hc hg => (show Ret _ _ _ _ (fun u w' => u = .agg #[U (plcO x v (bringO wt 1 4096)), .int .i64 a] ∧ Ext _ w') from by have hk := key_spec a w hesu1 (hm.pick (rqC b x.g x.fl bm bt x.cur x.ran (loadO x.l + bringO wt 1 4096) :: (bm, .map esu1 clu1) :: [])); rw [gQ_new h2] at hk; exact hk)) ?_
 refine LD.tail rfl rfl ?_
 refine LM.cU (oc_call (enters_fn Try.func64 (by kernel_rfl) rfl) rfl) (fun w hm hc hg => ins_spec ⟨plcO x v (bringO wt 1 4096), a, bringO wt 1 4096⟩ w (fun y hy e => h2 (ixO_lt.2 ⟨y, (rdy_id hq hy).1, e.2⟩)) (Nat.lt_of_le_of_lt (rdy_len hq.nd) (by omega)) (by decide) ht (Nat.le_trans hn0 hc.size) (hm.pick mt)) ht.wlk (fun p hp _ => inM_2 p hp) ?_
 rintro u65 mt1 ⟨rfl, ht1⟩ hin1; rw [hrd] at ht1
 refine LM.nil ?_
 refine QM.qn ?_
 refine QM.sub (e' := [(2, _)]) ⟨rfl, trivial⟩ (QM.then (wpM.seq (wpM.region ?_)))
 refine LM.mv rfl (LM.as rfl (LM.as rfl ?_))
 refine LM.nil (QM.sub (e' := [(8, _), (9, _)]) au9 (QM.then ?_))
 refine wpM.ret ?_
 refine QM.leave (.inl rfl) [.tmp 8, .tmp 9] Try.results13 rfl ?_
 intro w' hm' hc' hg'
 rw [show addV x a v wt = plcO x v (bringO wt 1 4096) from if_pos hE, hE, show addX x a v wt = addQ x a v wt from if_pos hE]; exact rqm_leaf (x' := addQ x a v wt) hwf hesu1 ht1 hb hbm hm' (by (repeat' (first | exact SubM.nil _ | refine SubM.cons (by first | rfl | (rw [← hld]; rfl)) ?_ | refine SubM.app ?_))) hc' hin1
end Go.Eng
namespace Go.Eng
open Go Go.Proofs Go.RowKit
theorem remQ_l (x : Qm) (a : Int) : (remQ x a).l = x.l.eraseIdx (ixO x.l a) := by unfold remQ; split <;> rfl
theorem remQ_g (x : Qm) (a : Int) : (remQ x a).g = x.g ∧ (remQ x a).fl = x.fl := by unfold remQ; split <;> exact ⟨rfl, rfl⟩
theorem delK_lt {L : List Kv} {k e : Kv} (he : e ∈ L) (hk : yEq k e) : (delK L k).length < L.length := by
  unfold delK
  refine Nat.lt_of_le_of_ne (List.length_filter_le ..) (fun q => ?_)
  have := List.length_filter_eq_length_iff.1 q e he
  rw [decide_eq_true_eq] at this
  exact this hk
theorem rdy_lt {x : Qm} (h : QWf x) (hc : 0 ≤ x.cur) : (rdyO x).length < x.l.length := by
  have h1 : rdyO x = rdyO { x with l := x.l.filter (fun t => decide (t.id ≠ x.cur)) } := by
    unfold rdyO; simp only [List.filter_filter, Bool.and_self]
  rw [h1]
  refine Nat.lt_of_le_of_lt (rdy_len (nodup_filt h.nd)) ?_
  refine Nat.lt_of_le_of_ne (List.length_filter_le ..) (fun q => ?_)
  obtain ⟨h2, h3⟩ := ixO_hit (h.ix hc)
  have := List.length_filter_eq_length_iff.1 q _ h3
  rw [decide_eq_true_eq] at this
  exact this h2
theorem gQ_eta {l : List Kv} {a : Int} (h : ixO l a < l.length) : (⟨(gQ l a).V, a, (gQ l a).x⟩ : Kv) = gQ l a := by
  have := (ixO_hit h).1
  change (gQ l a).id = a at this
  generalize gQ l a = y at this ⊢
  subst this; rfl
theorem tickL_eq {l : List Kv} {a : Int} (h : ixO l a < l.length) : tickL l a = l.set (ixO l a) ⟨addO (gQ l a).V (coreO (gQ l a).x), a, (gQ l a).x⟩ := by
  unfold tickL
  congr 1
  have := (ixO_hit h).1
  show (⟨_, (gQ l a).id, _⟩ : Kv) = _
  rw [show (gQ l a).id = a from this]
theorem load_same {l : List Kv} {i : Nat} (h : i < l.length) {y : Kv} (hy : y.x = (l.getD i default).x) : loadO l = loadO (l.set i y) := by rw [load_set h, hy]; omega
theorem rdy_of {x : Qm} (h : QWf x) {a : Int} (ha : ixO x.l a < x.l.length) (hc : ¬ x.cur = a) : gQ x.l a ∈ rdyO x := (rdy_mem h.nd _).2 ⟨(ixO_hit ha).2, fun q => hc (q.symm.trans (ixO_hit ha).1)⟩
theorem setlQ_nil {x : Qm} (h : x.l = []) : setlQ x = x := by unfold setlQ; rw [h]
theorem setlQ_pos {x : Qm} (h : x.l ≠ []) : setlQ x = { x with fl := if x.fl.toNat < (minO x.l).toNat then minO x.l else x.fl } := by
  have h2 : setlQ x = if x.fl.toNat < (minO x.l).toNat then { x with fl := minO x.l } else x := by
    unfold setlQ; split
    · exact absurd (by assumption) h
    · rfl
  rw [h2]
  by_cases q : x.fl.toNat < (minO x.l).toNat
  · rw [if_pos q, if_pos q]
  · rw [if_neg q, if_neg q]
set_option maxRecDepth 100000 in
theorem rqRem_spec {n0 b : Nat} {x : Qm} {m : Mem0} (a : Int) (w : World) (h : RqM n0 b x m) (hM : Mem w m) : Ret Try.prog 17 #[.pointer (some ⟨b, 0, none⟩), .int .i64 a] w (Upd m (fun u m' => u = .tuple #[U (gQ x.l a).V, .bool (decide (ixO x.l a < x.l.length))] ∧ RqM n0 b (remX x a) m') w) := by
 obtain ⟨hq, bm, bt, es, cl, mt, rfl, he, ht, hb, hbm⟩ := h; have h0 : RqM n0 b x (rqC b x.g x.fl bm bt x.cur x.ran (loadO x.l) :: (bm, .map es cl) :: mt) := ⟨hq, bm, bt, es, cl, mt, rfl, he, ht, hb, hbm⟩; have hll := hq.load; have hlen := hq.len
 refine Ret.enterM (l := [.pointer (some ⟨b, 0, none⟩), .int .i64 a]) Try.func17 rfl Try.ntmps17 rfl (rqC b x.g x.fl bm bt x.cur x.ran (loadO x.l) :: (bm, .map es cl) :: (mt ++ [])) ((inM (rqC b x.g x.fl bm bt x.cur x.ran (loadO x.l) :: (bm, .map es cl) :: mt))) (by rw [List.append_nil]; exact hM) ?_
 refine wpM.seq (wpM.region ?_)
 refine LM.as rfl (LM.as rfl ?_)
 refine LM.nil (QM.sub (e' := [(0, _), (1, _)]) au9 (QM.then (wpM.seq (wpM.region ?_))))
 refine LM.mv rfl (LM.mv rfl ?_)
 refine LM.callE (oc_call (enters_fn Try.func14 (by kernel_rfl) rfl) rfl) (fun w hm hc hg => rqV_spec a w h0 (hm.pick (rqC b x.g x.fl bm bt x.cur x.ran (loadO x.l) :: (bm, .map es cl) :: mt))) ?_
 refine LM.mv rfl ?_
 refine LM.val (ov_extract rfl rfl) ?_
 refine LM.val (ov_extract rfl rfl) ?_
 refine LM.as rfl (LM.as rfl ?_)
 refine LM.nil (QM.sub (e' := [(0, _), (1, _), (6, _), (7, _)]) au9 (QM.then ?_))
 refine wpM.seq ?_
 refine wpM.seq (wpM.region ?_)
 refine LM.mv rfl ?_
 refine LM.val (ov_notD rfl) ?_
 refine LM.nil (QM.sub (e' := [(0, _), (1, _), (6, _), (15, _)]) au9 (QM.then ?_))
 refine wpM.condD rfl (fun h1 => ?_) (fun h1 => ?_)
 ·
  refine wpM.seq (wpM.region ?_)
  refine LM.as rfl (LM.as rfl ?_)
  refine LM.nil (QM.sub (e' := [(4, _), (5, _)]) au9 (QM.then ?_))
  refine wpM.ret ?_
  refine QM.then_ret ?_
  refine QM.leave (.inl rfl) [.tmp 4, .tmp 5] Try.results17 rfl ?_
  intro w' hm' hc' hg'
  rw [show remX x a = x from if_neg h1, show (gQ x.l a).V = 0#64 by rw [gQ_none h1]; rfl, decide_eq_false h1]; exact rqm_leaf (x' := x) hq he ht hb hbm hm' au1 hc' (inn_refl _ _)
 replace h1 := Classical.not_not.1 h1; have hwf := rem_wf hq h1; have hit := ixO_hit h1; have hwt : 1 ≤ (gQ x.l a).x ∧ (gQ x.l a).x ≤ 4096 := hq.wt _ hit.2
 refine wpM.skip ?_
 refine QM.then ?_
 refine wpM.seq ?_
 refine wpM.seq (wpM.region ?_)
 refine LM.mv rfl ?_
 refine LM.val (ov_nilCheck rfl) ?_
 refine LM.val (ov_field Try.underlying93 rfl Try.sizeOf3 rfl (k := 4) rfl rfl) ?_
 refine LM.rd (om_ld Try.isAgg3 rfl rfl) ?_
 refine LM.mv rfl ?_
 refine LM.val (ov_eql rfl rfl) ?_
 refine LM.nil (QM.sub (e' := [(0, _), (1, _), (6, _), (21, _)]) au9 (QM.then ?_))
 refine wpM.joinK (α := Int × Int × Mem0) (fun ⟨c1, r1, mt1⟩ => []) [(0, _), (1, _), (6, _)] (fun ⟨c1, r1, mt1⟩ => rqC b x.g x.fl bm bt c1 r1 (loadO x.l) :: (bm, .map es cl) :: (mt1 ++ [])) (fun ⟨c1, r1, mt1⟩ => (remQ x a).cur = c1 ∧ (remQ x a).ran = r1 ∧ RbT n0 bt 16 (rdyO (remQ x a)) mt1 ∧ inn mt w.heap.size mt1) ⟨rfl, rfl, rfl, trivial⟩ ?_ ?_
 ·
  refine wpM.condD rfl (fun h2 => ?_) (fun h2 => ?_)
  ·
   refine wpM.region ?_
   refine LM.mv rfl (LM.mv rfl ?_)
   refine LM.val (ov_nilCheck rfl) ?_
   refine LM.val (ov_field Try.underlying93 rfl Try.sizeOf3 rfl (k := 4) rfl rfl) ?_
   refine LM.st Try.sizeOf3 rfl rfl rfl au5 rfl (fun hlt => by first | exact inM_0 | exact inM_1 | exact absurd hlt (by omega)) ?_
   refine LM.val (ov_nilCheck rfl) ?_
   refine LM.val (ov_field Try.underlying93 rfl Try.sizeOf3 rfl (k := 5) rfl rfl) ?_
   refine LM.st Try.sizeOf3 rfl rfl rfl au5 rfl (fun hlt => by first | exact inM_0 | exact inM_1 | exact absurd hlt (by omega)) ?_
   refine LM.mem (SubM.mem (M' := rqC b x.g x.fl bm bt (-1) 0 (loadO x.l) :: (bm, .map es cl) :: (mt ++ [])) au1) ?_
   refine LM.nil (QM.sub (e' := [(0, _), (1, _), (6, _)]) au9 ?_)
   refine QM.meetK (-1, 0, mt) ⟨rfl, rfl, rfl, trivial⟩ au1 ?_
   · exact ⟨by unfold remQ; rw [if_pos h2], by unfold remQ; rw [if_pos h2], by rw [← rem_rdyC hq h1 h2]; exact ht, inn_refl _ _⟩
  refine wpM.draw [(0, 0), (1, 0), (2, 0), (3, 1), (4, 0), (5, 0), (6, 2), (7, 3)] (by kernel_rfl) (by kernel_rfl) ?_
  refine LD.val rfl rfl (ov_move rfl) ?_
  refine LD.val rfl rfl (ov_nilCheck rfl) ?_
  refine LD.val rfl rfl (ov_field Try.underlying93 rfl Try.sizeOf90 rfl (k := 3) rfl rfl) ?_
  refine LD.rd rfl rfl (om_ld Try.isAgg90 rfl rfl) ?_
  refine LD.val rfl rfl (ov_move rfl) ?_
  refine LD.val rfl rfl (ov_move rfl) ?_
  refine LD.callE rfl rfl (oc_call (enters_fn Try.func65 (by kernel_rfl) rfl) rfl) (fun w hm hc hg => key_spec a w he (hm.pick (rqC b x.g x.fl bm bt x.cur x.ran (loadO x.l) :: (bm, .map es cl) :: []))) ?_
  refine LD.tail rfl rfl ?_
  refine LM.cU (oc_call (enters_fn Try.func67 (by kernel_rfl) rfl) rfl) (fun w hm hc hg => del_spec (⟨(gQ x.l a).V, a, 0⟩ : Kv) (gQ x.l a) w (rdy_of hq h1 h2) ⟨rfl, hit.1.symm⟩ (by decide) ht (hm.pick mt)) ht.wlk (fun p hp _ => inM_2 p hp) ?_
  rintro u35 mt1 ⟨rfl, ht1⟩ hin1; rw [rem_rdy (k := ⟨(gQ x.l a).V, a, 0⟩) hq h1 h2 ⟨rfl, hit.1.symm⟩] at ht1
  refine LM.nil ?_
  refine QM.qn ?_
  refine QM.sub (e' := [(0, _), (1, _), (6, _)]) au9 ?_
  refine QM.meetK (x.cur, x.ran, mt1) ⟨rfl, rfl, rfl, trivial⟩ au1 ?_
  · exact ⟨by unfold remQ; rw [if_neg h2], by unfold remQ; rw [if_neg h2], ht1, hin1⟩
 rintro ⟨c1, r1, mt1⟩ ⟨hc1, hr1, ht1, hin1⟩
 change QM _ _ _ _ _ (rqC b x.g x.fl bm bt c1 r1 (loadO x.l) :: (bm, .map es cl) :: (mt1 ++ [])) _ _ _
 refine QM.then ?_
 refine wpM.seq ?_
 refine wpM.draw [(0, 0), (1, 0), (2, 0), (3, 1), (4, 0), (5, 0), (6, 0), (7, 1), (8, 0), (9, 1), (10, 0), (11, 0), (12, 0), (13, 0), (14, 3)] (by kernel_rfl) (by kernel_rfl) ?_
 refine LD.val rfl rfl (ov_move rfl) ?_
 refine LD.val rfl rfl (ov_nilCheck rfl) ?_
 refine LD.val rfl rfl (ov_field Try.underlying93 rfl Try.sizeOf3 rfl (k := 6) rfl rfl) ?_
 refine LD.rd rfl rfl (om_ld Try.isAgg3 rfl rfl) ?_
 refine LD.val rfl rfl (ov_move rfl) ?_
 refine LD.val rfl rfl (ov_nilCheck rfl) ?_
 refine LD.val rfl rfl (ov_field Try.underlying93 rfl Try.sizeOf89 rfl (k := 2) rfl rfl) ?_
 refine LD.rd rfl rfl (om_ld Try.isAgg89 rfl rfl) ?_
 refine LD.val rfl rfl (ov_move rfl) ?_
 refine LD.rd rfl rfl (om_lk Try.underlying89 Try.underlying3 Try.zeroValue95 rfl rfl (by assumption) (ent_get _ _)) ?_
 refine LD.val rfl rfl (ov_fieldV Try.underlying95 rfl Try.isAgg3 rfl rfl) ?_
 refine LD.val rfl rfl (ov_sub64 rfl rfl (by omega)) ?_
 refine LD.val rfl rfl (ov_nilCheck rfl) ?_
 refine LD.val rfl rfl (ov_field Try.underlying93 rfl Try.sizeOf3 rfl (k := 6) rfl rfl) ?_
 refine LD.tail rfl rfl ?_
 refine LM.st Try.sizeOf3 rfl rfl rfl au5 rfl (fun hlt => by first | exact inM_0 | exact inM_1 | exact absurd hlt (by omega)) ?_
 refine LM.mem (SubM.mem (M' := rqC b x.g x.fl bm bt c1 r1 (loadO x.l - (gQ x.l a).x) :: (bm, .map es cl) :: (mt1 ++ [])) au1) ?_
 refine LM.nil ?_
 refine QM.qn ?_
 refine QM.sub (e' := [(0, _), (1, _), (6, _)]) au9 (QM.then (wpM.seq (wpM.region ?_)))
 refine LM.mv rfl ?_
 refine LM.val (ov_nilCheck rfl) ?_
 refine LM.val (ov_field Try.underlying93 rfl Try.sizeOf89 rfl (k := 2) rfl rfl) ?_
 refine LM.rd (om_ld Try.isAgg89 rfl rfl) ?_
 refine LM.mv rfl ?_
 refine LM.mD Try.underlying89 Try.underlying3 rfl rfl (by assumption) (fun hlt => by first | exact inM_0 | exact inM_1 | exact absurd hlt (by omega)) (fun esu1 clu1 hesu1 => ?_)
 refine LM.nil (QM.sub (e' := [(6, _)]) ⟨rfl, trivial⟩ (QM.then (wpM.seq (wpM.region ?_))))
 refine LM.mv rfl (LM.as rfl (LM.as rfl ?_))
 refine LM.nil (QM.sub (e' := [(4, _), (5, _)]) au9 (QM.then ?_))
 refine wpM.ret ?_
 refine QM.leave (.inl rfl) [.tmp 4, .tmp 5] Try.results17 rfl ?_
 intro w' hm' hc' hg'
 rw [ent_del h1, ← remQ_l x a] at hesu1; have hld : loadO x.l - (gQ x.l a).x = loadO (remQ x a).l := (by rw [remQ_l, load_erase h1]); rw [show remX x a = remQ x a from if_pos h1, decide_eq_true h1]; subst hc1; subst hr1; rw [← (remQ_g x a).1, ← (remQ_g x a).2] at hm'; exact rqm_leaf (x' := remQ x a) hwf hesu1 ht1 hb hbm hm' (by (repeat' (first | exact SubM.nil _ | refine SubM.cons (by first | rfl | (rw [← hld]; done) | (rw [← hld]; rfl)) ?_ | refine SubM.app ?_))) hc' hin1
set_option maxRecDepth 100000 in
theorem pick_spec {n0 b : Nat} {x : Qm} {m : Mem0} (w : World) (h : RqM n0 b x m) (hM : Mem w m) : Ret Try.prog 26 #[.pointer (some ⟨b, 0, none⟩)] w (Upd m (fun u m' => u = .tuple #[.int .i64 (pickO x), .bool (decide (0 ≤ pickO x))] ∧ RqM n0 b (pikQ x) m') w) := by
 obtain ⟨hq, bm, bt, es, cl, mt, rfl, he, ht, hb, hbm⟩ := h; have h0 : RqM n0 b x (rqC b x.g x.fl bm bt x.cur x.ran (loadO x.l) :: (bm, .map es cl) :: mt) := ⟨hq, bm, bt, es, cl, mt, rfl, he, ht, hb, hbm⟩; have hll := hq.load; have hlen := hq.len
 refine Ret.enterM (l := [.pointer (some ⟨b, 0, none⟩)]) Try.func26 rfl Try.ntmps26 rfl (rqC b x.g x.fl bm bt x.cur x.ran (loadO x.l) :: (bm, .map es cl) :: (mt ++ [])) ((inM (rqC b x.g x.fl bm bt x.cur x.ran (loadO x.l) :: (bm, .map es cl) :: mt))) (by rw [List.append_nil]; exact hM) ?_
 refine wpM.seq (wpM.region ?_)
 refine LM.as rfl (LM.as rfl ?_)
 refine LM.nil (QM.sub (e' := [(0, _)]) ⟨rfl, trivial⟩ (QM.then ?_))
 refine wpM.seq ?_
 refine wpM.seq (wpM.region ?_)
 refine LM.mv rfl ?_
 refine LM.val (ov_peql (by kernel_rfl) rfl rfl) ?_
 refine LM.mv rfl (LM.sp 9 rfl rfl rfl (LM.mv rfl (LM.sp 9 rfl rfl rfl ?_)))
 refine LM.val (ov_nilCheck rfl) ?_
 refine LM.sp 9 rfl rfl rfl (LM.val (ov_field Try.underlying93 rfl Try.sizeOf3 rfl (k := 4) rfl rfl) (LM.sp 9 rfl rfl rfl ?_))
 refine LM.rd (om_ld Try.isAgg3 rfl rfl) ?_
 refine LM.sp 9 rfl rfl rfl ?_
 refine LM.val (ov_neq rfl rfl) ?_
 refine LM.val (ov_pickF rfl rfl) ?_
 refine LM.nil (QM.sub (e' := [(0, _), (15, _)]) au9 (QM.then ?_))
 refine wpM.condD rfl (fun h1 => ?_) (fun h1 => ?_)
 ·
  refine wpM.seq (wpM.region ?_)
  refine LM.as rfl (LM.as rfl ?_)
  refine LM.nil (QM.sub (e' := [(2, _), (3, _)]) au9 (QM.then ?_))
  refine wpM.ret ?_
  refine QM.then_ret ?_
  refine QM.leave (.inl rfl) [.tmp 2, .tmp 3] Try.results26 rfl ?_
  intro w' hm' hc' hg'
  obtain ⟨hp1, hp2⟩ := pik_none (x := x) (.inl (cur_pos hq h1)); rw [hp1, hp2]; exact rqm_leaf (x' := x) hq he ht hb hbm hm' au1 hc' (inn_refl _ _)
 replace h1 := Classical.not_not.1 h1
 refine wpM.skip ?_
 refine QM.then (wpM.seq (wpM.region ?_))
 refine LM.mv rfl ?_
 refine LM.val (ov_nilCheck rfl) ?_
 refine LM.val (ov_field Try.underlying93 rfl Try.sizeOf90 rfl (k := 3) rfl rfl) ?_
 refine LM.rd (om_ld Try.isAgg90 rfl rfl) ?_
 refine LM.callE (oc_call (enters_fn Try.func73 (by kernel_rfl) rfl) rfl) (fun w hm hc hg => first_spec w ht (hm.pick mt)) ?_
 refine LM.mv rfl ?_
 refine LM.val (ov_extract rfl rfl) ?_
 refine LM.val (ov_extract rfl rfl) ?_
 refine LM.val (ov_extract rfl rfl) ?_
 refine LM.alloc Try.zeroValue100 rfl (fun b4 hb4 => ?_)
 refine LM.stW Try.sizeOf100 rfl rfl rfl rfl au7 (fun hlt => by first | exact inM_0 | exact inM_1 | exact absurd hlt (by omega)) ?_
 refine LM.as rfl (LM.as rfl ?_)
 refine LM.nil (QM.sub (e' := [(0, _), (4, _), (6, _)]) au9 (QM.then ?_))
 refine wpM.seq ?_
 refine wpM.seq (wpM.region ?_)
 refine LM.mv rfl ?_
 refine LM.val (ov_notD rfl) ?_
 refine LM.nil (QM.sub (e' := [(0, _), (4, _), (26, _)]) au9 (QM.then ?_))
 refine wpM.condD rfl (fun h2 => ?_) (fun h2 => ?_)
 ·
  refine wpM.seq (wpM.region ?_)
  refine LM.as rfl (LM.as rfl ?_)
  refine LM.nil (QM.sub (e' := [(2, _), (3, _)]) au9 (QM.then ?_))
  refine wpM.ret ?_
  refine QM.then_ret ?_
  refine QM.leave (.inl rfl) [.tmp 2, .tmp 3] Try.results26 rfl ?_
  intro w' hm' hc' hg'
  obtain ⟨hp1, hp2⟩ := pik_none (x := x) (.inr (Classical.not_not.1 h2)); rw [hp1, hp2]; exact rqm_leaf (x' := x) hq he ht hb hbm hm' au1 hc' (inn_refl _ _)
 replace h2 := Classical.not_not.1 h2; obtain ⟨t, l, e⟩ := ne_cons h2; have het : (rdyO x).headD default = t := (by rw [e]; rfl); obtain ⟨hp1, hp2⟩ := pickO_hit hq h1 e; have htm := rdy_hd_mem hq e; have hwf := pick_wf hq htm.1; have hpos := hq.pos t htm.1
 refine wpM.skip ?_
 refine QM.then ?_
 refine wpM.seq ?_
 refine wpM.draw [(0, 0), (1, 0), (2, 0), (3, 1), (4, 1), (5, 3)] (by kernel_rfl) (by kernel_rfl) ?_
 rw [het]
 refine LD.val rfl rfl (ov_move rfl) ?_
 refine LD.val rfl rfl (ov_nilCheck rfl) ?_
 refine LD.val rfl rfl (ov_field Try.underlying93 rfl Try.sizeOf90 rfl (k := 3) rfl rfl) ?_
 refine LD.rd rfl rfl (om_ld Try.isAgg90 rfl rfl) ?_
 refine LD.rd rfl rfl (om_ldW Try.isAgg100 Try.sizeOf100 rfl rfl) ?_
 refine LD.tail rfl rfl ?_
 refine LM.cU (oc_call (enters_fn Try.func67 (by kernel_rfl) rfl) rfl) (fun w hm hc hg => del_spec t t w (by rw [e]; exact List.mem_cons_self ..) ⟨rfl, rfl⟩ (by decide) ht (hm.pick mt)) ht.wlk (fun p hp _ => inM_2 p hp) ?_
 rintro u32 mt1 ⟨rfl, ht1⟩ hin1; rw [pick_rdy hq h1 htm.1 ⟨rfl, rfl⟩] at ht1
 refine LM.nil ?_
 refine QM.qn ?_
 refine QM.sub (e' := [(0, _), (4, _)]) au9 (QM.then (wpM.seq (wpM.region ?_)))
 refine LM.mv rfl (LM.mv rfl (LM.val (ov_field Try.underlying100 rfl Try.sizeOf3 rfl (k := 1) rfl rfl) ?_))
 refine LM.rd (om_ld Try.isAgg3 rfl rfl) ?_
 refine LM.val (ov_nilCheck rfl) ?_
 refine LM.val (ov_field Try.underlying93 rfl Try.sizeOf3 rfl (k := 4) rfl rfl) ?_
 refine LM.st Try.sizeOf3 rfl rfl rfl au5 rfl (fun hlt => by first | exact inM_0 | exact inM_1 | exact absurd hlt (by omega)) ?_
 refine LM.val (ov_nilCheck rfl) ?_
 refine LM.val (ov_field Try.underlying93 rfl Try.sizeOf3 rfl (k := 5) rfl rfl) ?_
 refine LM.st Try.sizeOf3 rfl rfl rfl au5 rfl (fun hlt => by first | exact inM_0 | exact inM_1 | exact absurd hlt (by omega)) ?_
 refine LM.mem (SubM.mem (M' := rqC b x.g x.fl bm bt t.id 0 (loadO x.l) :: (bm, .map es cl) :: (b4, .cells #[U t.V, .int .i64 t.id] 100 (0, 0)) :: (mt1 ++ [])) au1) ?_
 refine LM.nil (QM.sub (e' := [(4, _)]) ⟨rfl, trivial⟩ (QM.then (wpM.seq (wpM.region ?_))))
 refine LM.val (ov_field Try.underlying100 rfl Try.sizeOf3 rfl (k := 1) rfl rfl) ?_
 refine LM.rd (om_ld Try.isAgg3 rfl rfl) ?_
 refine LM.as rfl (LM.as rfl ?_)
 refine LM.nil (QM.sub (e' := [(2, _), (3, _)]) au9 (QM.then ?_))
 refine wpM.ret ?_
 refine QM.leave (.inl rfl) [.tmp 2, .tmp 3] Try.results26 rfl ?_
 intro w' hm' hc' hg'
 rw [hp1, hp2, decide_eq_true hpos]; exact rqm_leaf (x' := pickQ x t.id) hwf he ht1 hb hbm hm' au1 hc' hin1
set_option maxRecDepth 100000 in
theorem back_spec {n0 b : Nat} {x : Qm} {m : Mem0} (w : World) (h : RqM n0 b x m) (hn0 : n0 ≤ w.heap.size) (hM : Mem w m) : Ret Try.prog 28 #[.pointer (some ⟨b, 0, none⟩)] w (Upd m (fun u m' => u = .tuple #[.int .i64 x.cur, .bool (decide (x.cur ≠ -1))] ∧ RqM n0 b (bakQ x) m') w) := by
 obtain ⟨hq, bm, bt, es, cl, mt, rfl, he, ht, hb, hbm⟩ := h; have h0 : RqM n0 b x (rqC b x.g x.fl bm bt x.cur x.ran (loadO x.l) :: (bm, .map es cl) :: mt) := ⟨hq, bm, bt, es, cl, mt, rfl, he, ht, hb, hbm⟩; have hll := hq.load; have hlen := hq.len
 refine Ret.enterM (l := [.pointer (some ⟨b, 0, none⟩)]) Try.func28 rfl Try.ntmps28 rfl (rqC b x.g x.fl bm bt x.cur x.ran (loadO x.l) :: (bm, .map es cl) :: (mt ++ [])) ((inM (rqC b x.g x.fl bm bt x.cur x.ran (loadO x.l) :: (bm, .map es cl) :: mt))) (by rw [List.append_nil]; exact hM) ?_
 refine wpM.seq (wpM.region ?_)
 refine LM.as rfl (LM.as rfl ?_)
 refine LM.nil (QM.sub (e' := [(0, _)]) ⟨rfl, trivial⟩ (QM.then ?_))
 refine wpM.seq ?_
 refine wpM.seq (wpM.region ?_)
 refine LM.mv rfl ?_
 refine LM.val (ov_peql (by kernel_rfl) rfl rfl) ?_
 refine LM.mv rfl (LM.sp 7 rfl rfl rfl (LM.mv rfl (LM.sp 7 rfl rfl rfl ?_)))
 refine LM.val (ov_nilCheck rfl) ?_
 refine LM.sp 7 rfl rfl rfl (LM.val (ov_field Try.underlying93 rfl Try.sizeOf3 rfl (k := 4) rfl rfl) (LM.sp 7 rfl rfl rfl ?_))
 refine LM.rd (om_ld Try.isAgg3 rfl rfl) ?_
 refine LM.sp 7 rfl rfl rfl ?_
 refine LM.val (ov_eql rfl rfl) ?_
 refine LM.val (ov_pickF rfl rfl) ?_
 refine LM.nil (QM.sub (e' := [(0, _), (13, _)]) au9 (QM.then ?_))
 refine wpM.condD rfl (fun h1 => ?_) (fun h1 => ?_)
 ·
  refine wpM.seq (wpM.region ?_)
  refine LM.as rfl (LM.as rfl ?_)
  refine LM.nil (QM.sub (e' := [(2, _), (3, _)]) au9 (QM.then ?_))
  refine wpM.ret ?_
  refine QM.then_ret ?_
  refine QM.leave (.inl rfl) [.tmp 2, .tmp 3] Try.results28 rfl ?_
  intro w' hm' hc' hg'
  rw [show bakQ x = x from if_neg (by omega), decide_eq_false (by omega)]; exact h1 ▸ rqm_leaf (x' := x) hq he ht hb hbm hm' au1 hc' (inn_refl _ _)
 have hc0 := cur_pos hq h1; have hix := hq.ix hc0; have hwf := back_wf hq
 refine wpM.skip ?_
 refine QM.then (wpM.seq (wpM.region ?_))
 refine LM.mv rfl ?_
 refine LM.val (ov_nilCheck rfl) ?_
 refine LM.val (ov_field Try.underlying93 rfl Try.sizeOf3 rfl (k := 4) rfl rfl) ?_
 refine LM.rd (om_ld Try.isAgg3 rfl rfl) ?_
 refine LM.as rfl ?_
 refine LM.nil (QM.sub (e' := [(0, _), (4, _)]) au9 (QM.then (wpM.seq (wpM.region ?_))))
 refine LM.mv rfl (LM.mv rfl ?_)
 refine LM.val (ov_nilCheck rfl) ?_
 refine LM.val (ov_field Try.underlying93 rfl Try.sizeOf3 rfl (k := 4) rfl rfl) ?_
 refine LM.st Try.sizeOf3 rfl rfl rfl au5 rfl (fun hlt => by first | exact inM_0 | exact inM_1 | exact absurd hlt (by omega)) ?_
 refine LM.val (ov_nilCheck rfl) ?_
 refine LM.val (ov_field Try.underlying93 rfl Try.sizeOf3 rfl (k := 5) rfl rfl) ?_
 refine LM.st Try.sizeOf3 rfl rfl rfl au5 rfl (fun hlt => by first | exact inM_0 | exact inM_1 | exact absurd hlt (by omega)) ?_
 refine LM.mem (SubM.mem (M' := rqC b x.g x.fl bm bt (-1) 0 (loadO x.l) :: (bm, .map es cl) :: (mt ++ [])) au1) ?_
 refine LM.nil (QM.sub (e' := [(0, _), (4, _)]) au9 (QM.then ?_))
 refine wpM.seq ?_
 refine wpM.draw [(0, 0), (1, 0), (2, 0), (3, 1), (4, 0), (5, 0), (7, 0), (8, 0), (9, 0), (10, 1), (11, 0), (12, 1), (13, 0), (6, 2), (14, 3)] (by kernel_rfl) (by kernel_rfl) ?_
 refine LD.val rfl rfl (ov_move rfl) ?_
 refine LD.val rfl rfl (ov_nilCheck rfl) ?_
 refine LD.val rfl rfl (ov_field Try.underlying93 rfl Try.sizeOf90 rfl (k := 3) rfl rfl) ?_
 refine LD.rd rfl rfl (om_ld Try.isAgg90 rfl rfl) ?_
 refine LD.val rfl rfl (ov_move rfl) ?_
 refine LD.val rfl rfl (ov_move rfl) ?_
 refine LD.val rfl rfl (ov_move rfl) ?_
 refine LD.val rfl rfl (ov_nilCheck rfl) ?_
 refine LD.val rfl rfl (ov_field Try.underlying93 rfl Try.sizeOf89 rfl (k := 2) rfl rfl) ?_
 refine LD.rd rfl rfl (om_ld Try.isAgg89 rfl rfl) ?_
 refine LD.val rfl rfl (ov_move rfl) ?_
 refine LD.rd rfl rfl (om_lk Try.underlying89 Try.underlying3 Try.zeroValue95 rfl rfl (by assumption) (ent_get _ _)) ?_
 refine LD.val rfl rfl (ov_fieldV Try.underlying95 rfl Try.isAgg3 rfl rfl) ?_
 refine LD.callE rfl rfl (oc_call (enters_fn Try.func65 (by kernel_rfl) rfl) rfl) (fun w hm hc hg => key_spec x.cur w he (hm.pick (rqC b x.g x.fl bm bt (-1) 0 (loadO x.l) :: (bm, .map es cl) :: []))) ?_
 refine LD.tail rfl rfl ?_
 refine LM.cU (oc_call (enters_fn Try.func64 (by kernel_rfl) rfl) rfl) (fun w hm hc hg => ins_spec (⟨(gQ x.l x.cur).V, x.cur, (gQ x.l x.cur).x⟩ : Kv) w (fun y hy e => (rdy_id hq hy).2 e.2) (Nat.lt_of_lt_of_le (rdy_lt hq hc0) hlen) (by decide) ht (Nat.le_trans hn0 hc.size) (hm.pick mt)) ht.wlk (fun p hp _ => inM_2 p hp) ?_
 rintro u38 mt1 ⟨rfl, ht1⟩ hin1; rw [gQ_eta hix, back_rdy hq hc0] at ht1
 refine LM.nil ?_
 refine QM.qn ?_
 refine QM.sub (e' := [(4, _)]) ⟨rfl, trivial⟩ (QM.then (wpM.seq (wpM.region ?_)))
 refine LM.mv rfl (LM.as rfl (LM.as rfl ?_))
 refine LM.nil (QM.sub (e' := [(2, _), (3, _)]) au9 (QM.then ?_))
 refine wpM.ret ?_
 refine QM.leave (.inl rfl) [.tmp 2, .tmp 3] Try.results28 rfl ?_
 intro w' hm' hc' hg'
 rw [show bakQ x = backQ x from if_pos hc0, decide_eq_true h1]; exact rqm_leaf (x' := backQ x) hwf he ht1 hb hbm hm' au1 hc' hin1
set_option maxRecDepth 100000 in
theorem tick_spec {n0 b : Nat} {x : Qm} {m : Mem0} (w : World) (h : RqM n0 b x m) (hr : x.ran ≤ 1000000000000) (hM : Mem w m) : Ret Try.prog 30 #[.pointer (some ⟨b, 0, none⟩)] w (Upd m (fun u m' => u = .tuple #[.int .i64 x.cur, .bool (decide (x.cur ≠ -1))] ∧ RqM n0 b (tickQ x) m') w) := by
 obtain ⟨hq, bm, bt, es, cl, mt, rfl, he, ht, hb, hbm⟩ := h; have h0 : RqM n0 b x (rqC b x.g x.fl bm bt x.cur x.ran (loadO x.l) :: (bm, .map es cl) :: mt) := ⟨hq, bm, bt, es, cl, mt, rfl, he, ht, hb, hbm⟩; have hll := hq.load; have hlen := hq.len; have hrn := hq.ran
 refine Ret.enterM (l := [.pointer (some ⟨b, 0, none⟩)]) Try.func30 rfl Try.ntmps30 rfl (rqC b x.g x.fl bm bt x.cur x.ran (loadO x.l) :: (bm, .map es cl) :: (mt ++ [])) ((inM (rqC b x.g x.fl bm bt x.cur x.ran (loadO x.l) :: (bm, .map es cl) :: mt))) (by rw [List.append_nil]; exact hM) ?_
 refine wpM.seq (wpM.region ?_)
 refine LM.as rfl (LM.as rfl ?_)
 refine LM.nil (QM.sub (e' := [(0, _)]) ⟨rfl, trivial⟩ (QM.then ?_))
 refine wpM.seq ?_
 refine wpM.seq (wpM.region ?_)
 refine LM.mv rfl ?_
 refine LM.val (ov_peql (by kernel_rfl) rfl rfl) ?_
 refine LM.mv rfl (LM.sp 7 rfl rfl rfl (LM.mv rfl (LM.sp 7 rfl rfl rfl ?_)))
 refine LM.val (ov_nilCheck rfl) ?_
 refine LM.sp 7 rfl rfl rfl (LM.val (ov_field Try.underlying93 rfl Try.sizeOf3 rfl (k := 4) rfl rfl) (LM.sp 7 rfl rfl rfl ?_))
 refine LM.rd (om_ld Try.isAgg3 rfl rfl) ?_
 refine LM.sp 7 rfl rfl rfl ?_
 refine LM.val (ov_eql rfl rfl) ?_
 refine LM.val (ov_pickF rfl rfl) ?_
 refine LM.nil (QM.sub (e' := [(0, _), (13, _)]) au9 (QM.then ?_))
 refine wpM.condD rfl (fun h1 => ?_) (fun h1 => ?_)
 ·
  refine wpM.seq (wpM.region ?_)
  refine LM.as rfl (LM.as rfl ?_)
  refine LM.nil (QM.sub (e' := [(2, _), (3, _)]) au9 (QM.then ?_))
  refine wpM.ret ?_
  refine QM.then_ret ?_
  refine QM.leave (.inl rfl) [.tmp 2, .tmp 3] Try.results30 rfl ?_
  intro w' hm' hc' hg'
  rw [show tickQ x = x from if_neg (by omega), decide_eq_false (by omega)]; exact h1 ▸ rqm_leaf (x' := x) hq he ht hb hbm hm' au1 hc' (inn_refl _ _)
 have hc0 := cur_pos hq h1; have hix := hq.ix hc0; have hwf := tick_wf hq; have hrd := tick_rdy hq; have htq : tickQ x = { x with l := tickL x.l x.cur, ran := x.ran + 1 } := if_pos hc0
 refine wpM.skip ?_
 refine QM.then ?_
 refine wpM.seq ?_
 refine wpM.draw [(0, 0), (1, 0), (2, 0), (3, 1), (4, 0), (5, 0), (6, 0), (7, 1), (8, 1), (9, 2), (10, 3)] (by kernel_rfl) (by kernel_rfl) ?_
 refine LD.val rfl rfl (ov_move rfl) ?_
 refine LD.val rfl rfl (ov_nilCheck rfl) ?_
 refine LD.val rfl rfl (ov_field Try.underlying93 rfl Try.sizeOf89 rfl (k := 2) rfl rfl) ?_
 refine LD.rd rfl rfl (om_ld Try.isAgg89 rfl rfl) ?_
 refine LD.val rfl rfl (ov_move rfl) ?_
 refine LD.val rfl rfl (ov_nilCheck rfl) ?_
 refine LD.val rfl rfl (ov_field Try.underlying93 rfl Try.sizeOf3 rfl (k := 4) rfl rfl) ?_
 refine LD.rd rfl rfl (om_ld Try.isAgg3 rfl rfl) ?_
 refine LD.rd rfl rfl (om_lk Try.underlying89 Try.underlying3 Try.zeroValue95 rfl rfl (by assumption) (ent_get _ _)) ?_
 refine LD.alloc rfl rfl Try.zeroValue95 rfl (fun b4 hb4 => ?_)
 refine LD.tail rfl rfl ?_
 refine LM.stW Try.sizeOf95 rfl rfl rfl rfl au7 (fun hlt => by first | exact inM_0 | exact inM_1 | exact absurd hlt (by omega)) ?_
 refine LM.nil ?_
 refine QM.qn ?_
 refine QM.sub (e' := [(0, _), (4, _)]) au9 (QM.then ?_)
 refine wpM.seq ?_
 refine wpM.draw [(0, 0), (1, 1), (2, 0), (3, 1), (4, 2), (5, 2), (6, 0), (7, 0), (8, 0), (9, 0), (10, 3)] (by kernel_rfl) (by kernel_rfl) ?_
 refine LD.val rfl rfl (ov_field Try.underlying95 rfl Try.sizeOf26 rfl (k := 0) rfl rfl) ?_
 refine LD.rd rfl rfl (om_ld Try.isAgg26 rfl rfl) ?_
 refine LD.val rfl rfl (ov_field Try.underlying95 rfl Try.sizeOf3 rfl (k := 1) rfl rfl) ?_
 refine LD.rd rfl rfl (om_ld Try.isAgg3 rfl rfl) ?_
 refine LD.callE rfl rfl (oc_call (enters_fn Try.func16 (by kernel_rfl) rfl) rfl) (fun w hm hc hg => ucore_spec _ w) ?_
 refine LD.callE rfl rfl (oc_call (enters_fn Try.func75 (by kernel_rfl) rfl) rfl) (fun w hm hc hg => fadd_spec _ _ w) ?_
 refine LD.val rfl rfl (ov_move rfl) ?_
 refine LD.val rfl rfl (ov_extract rfl rfl) ?_
 refine LD.val rfl rfl (ov_extract rfl rfl) ?_
 refine LD.val rfl rfl (ov_field Try.underlying95 rfl Try.sizeOf26 rfl (k := 0) rfl rfl) ?_
 refine LD.tail rfl rfl ?_
 refine LM.st Try.sizeOf26 rfl rfl rfl au5 rfl (fun hlt => by first | exact inM_0 | exact inM_1 | exact absurd hlt (by omega)) ?_
 refine LM.mem (SubM.mem (M' := (b4, .cells #[U (addO (gQ x.l x.cur).V (coreO (gQ x.l x.cur).x)), .int .i64 (gQ x.l x.cur).x] 95 (0, 0)) :: rqC b x.g x.fl bm bt x.cur x.ran (loadO x.l) :: (bm, .map es cl) :: (mt ++ [])) au1) ?_
 refine LM.nil ?_
 refine QM.qn ?_
 refine QM.sub (e' := [(0, _), (4, _)]) au9 (QM.then ?_)
 refine wpM.seq ?_
 refine wpM.draw [(0, 0), (1, 0), (2, 0), (3, 1), (4, 0), (5, 0), (6, 0), (7, 1), (8, 1), (9, 3)] (by kernel_rfl) (by kernel_rfl) ?_
 refine LD.val rfl rfl (ov_move rfl) ?_
 refine LD.val rfl rfl (ov_nilCheck rfl) ?_
 refine LD.val rfl rfl (ov_field Try.underlying93 rfl Try.sizeOf89 rfl (k := 2) rfl rfl) ?_
 refine LD.rd rfl rfl (om_ld Try.isAgg89 rfl rfl) ?_
 refine LD.val rfl rfl (ov_move rfl) ?_
 refine LD.val rfl rfl (ov_nilCheck rfl) ?_
 refine LD.val rfl rfl (ov_field Try.underlying93 rfl Try.sizeOf3 rfl (k := 4) rfl rfl) ?_
 refine LD.rd rfl rfl (om_ld Try.isAgg3 rfl rfl) ?_
 refine LD.rd rfl rfl (om_ldW Try.isAgg95 Try.sizeOf95 rfl rfl) ?_
 refine LD.tail rfl rfl ?_
 refine LM.mU Try.underlying89 Try.underlying3 rfl rfl rfl (by assumption) (fun hlt => by first | exact inM_0 | exact inM_1 | exact absurd hlt (by omega)) (fun esu1 clu1 hesu1 => ?_)
 refine LM.nil ?_
 refine QM.qn ?_
 refine QM.sub (e' := [(0, _)]) ⟨rfl, trivial⟩ (QM.then (wpM.seq (wpM.region ?_)))
 rw [ent_set hix, ← tickL_eq hix] at hesu1
 refine LM.mv rfl ?_
 refine LM.val (ov_nilCheck rfl) ?_
 refine LM.val (ov_field Try.underlying93 rfl Try.sizeOf3 rfl (k := 5) rfl rfl) ?_
 refine LM.rd (om_ld Try.isAgg3 rfl rfl) ?_
 refine LM.val (ov_add64 rfl rfl (by omega)) ?_
 refine LM.val (ov_nilCheck rfl) ?_
 refine LM.val (ov_field Try.underlying93 rfl Try.sizeOf3 rfl (k := 5) rfl rfl) ?_
 refine LM.st Try.sizeOf3 rfl rfl rfl au5 rfl (fun hlt => by first | exact inM_0 | exact inM_1 | exact absurd hlt (by omega)) ?_
 refine LM.mem (SubM.mem (M' := rqC b x.g x.fl bm bt x.cur (x.ran + 1) (loadO x.l) :: (bm, .map esu1 clu1) :: (mt ++ [])) au1) ?_
 refine LM.nil (QM.sub (e' := [(0, _)]) ⟨rfl, trivial⟩ (QM.then (wpM.seq (wpM.region ?_))))
 refine LM.mv rfl ?_
 refine LM.val (ov_nilCheck rfl) ?_
 refine LM.val (ov_field Try.underlying93 rfl Try.sizeOf3 rfl (k := 4) rfl rfl) ?_
 refine LM.rd (om_ld Try.isAgg3 rfl rfl) ?_
 refine LM.as rfl (LM.as rfl ?_)
 refine LM.nil (QM.sub (e' := [(2, _), (3, _)]) au9 (QM.then ?_))
 refine wpM.ret ?_
 refine QM.leave (.inl rfl) [.tmp 2, .tmp 3] Try.results30 rfl ?_
 intro w' hm' hc' hg'
 rw [decide_eq_true h1]; rw [hrd] at ht; rw [htq] at hwf ht ⊢; have hld : loadO x.l = loadO (tickL x.l x.cur) := (by rw [tickL_eq hix]; exact load_same hix rfl); exact rqm_leaf (x' := { x with l := tickL x.l x.cur, ran := x.ran + 1 }) hwf hesu1 ht hb hbm hm' (by (repeat' (first | exact SubM.nil _ | refine SubM.cons (by first | rfl | (rw [← hld]; done) | (rw [← hld]; rfl)) ?_ | refine SubM.app ?_))) hc' (inn_refl _ _)
set_option maxRecDepth 100000 in
theorem settle_spec {n0 b : Nat} {x : Qm} {m : Mem0} (w : World) (h : RqM n0 b x m) (hM : Mem w m) : Ret Try.prog 33 #[.pointer (some ⟨b, 0, none⟩)] w (Upd m (fun u m' => u = .tuple #[] ∧ RqM n0 b (setlQ x) m') w) := by
 obtain ⟨hq, bm, bt, es, cl, mt, rfl, he, ht, hb, hbm⟩ := h; have h0 : RqM n0 b x (rqC b x.g x.fl bm bt x.cur x.ran (loadO x.l) :: (bm, .map es cl) :: mt) := ⟨hq, bm, bt, es, cl, mt, rfl, he, ht, hb, hbm⟩; have hll := hq.load; have hlen := hq.len
 refine Ret.enterM (l := [.pointer (some ⟨b, 0, none⟩)]) Try.func33 rfl Try.ntmps33 rfl (rqC b x.g x.fl bm bt x.cur x.ran (loadO x.l) :: (bm, .map es cl) :: (mt ++ [])) ((inM (rqC b x.g x.fl bm bt x.cur x.ran (loadO x.l) :: (bm, .map es cl) :: mt))) (by rw [List.append_nil]; exact hM) ?_
 refine wpM.seq ?_
 refine wpM.seq (wpM.region ?_)
 refine LM.mv rfl ?_
 refine LM.val (ov_peql (by kernel_rfl) rfl rfl) ?_
 refine LM.nil (QM.sub (e' := [(0, _), (5, _)]) au9 (QM.then ?_))
 refine wpM.condF rfl ?_
 refine wpM.skip ?_
 refine QM.then (wpM.seq (wpM.region ?_))
 refine LM.mv rfl ?_
 refine LM.callE (oc_call (enters_fn Try.func78 (by kernel_rfl) rfl) rfl) (fun w hm hc hg => least2_spec w h0 (hm.pick (rqC b x.g x.fl bm bt x.cur x.ran (loadO x.l) :: (bm, .map es cl) :: mt))) ?_
 refine LM.mv rfl ?_
 refine LM.val (ov_extract rfl rfl) ?_
 refine LM.val (ov_extract rfl rfl) ?_
 refine LM.as rfl (LM.as rfl ?_)
 refine LM.nil (QM.sub (e' := [(0, _), (2, _), (3, _)]) au9 (QM.then (wpM.seq (wpM.region ?_))))
 refine LM.mv rfl ?_
 refine LM.nil (QM.sub (e' := [(0, _), (2, _), (11, _)]) au9 (QM.then ?_))
 refine wpM.condD rfl (fun h1 => ?_) (fun h1 => ?_)
 ·
  refine wpM.region ?_
  refine LM.mv rfl (LM.mv rfl ?_)
  refine LM.val (ov_nilCheck rfl) ?_
  refine LM.val (ov_field Try.underlying93 rfl Try.sizeOf26 rfl (k := 1) rfl rfl) ?_
  refine LM.rd (om_ld Try.isAgg26 rfl rfl) ?_
  refine LM.mv rfl ?_
  refine LM.val (ov_umax rfl rfl) ?_
  refine LM.val (ov_nilCheck rfl) ?_
  refine LM.val (ov_field Try.underlying93 rfl Try.sizeOf26 rfl (k := 1) rfl rfl) ?_
  refine LM.st Try.sizeOf26 rfl rfl rfl au5 rfl (fun hlt => by first | exact inM_0 | exact inM_1 | exact absurd hlt (by omega)) ?_
  refine LM.mem (SubM.mem (M' := rqC b x.g (if x.fl.toNat < (minO x.l).toNat then minO x.l else x.fl) bm bt x.cur x.ran (loadO x.l) :: (bm, .map es cl) :: (mt ++ [])) au1) ?_
  refine LM.nil (QM.sub (e' := []) trivial ?_)
  refine QM.leave (.inr rfl) [] Try.results33 rfl ?_
  intro w' hm' hc' hg'
  have hs := setlQ_pos h1; have hwf := setl_wf hq; have hrd := setl_rdy x; rw [hs] at hwf hrd ⊢; rw [hrd] at ht; exact rqm_leaf (x' := { x with fl := if x.fl.toNat < (minO x.l).toNat then minO x.l else x.fl }) hwf he ht hb hbm hm' au1 hc' (inn_refl _ _)
 refine wpM.skip ?_
 refine QM.leave (.inr rfl) [] Try.results33 rfl ?_
 intro w' hm' hc' hg'
 rw [setlQ_nil (Classical.not_not.1 h1)]; exact rqm_leaf (x' := x) hq he ht hb hbm hm' au1 hc' (inn_refl _ _)
end Go.Eng
namespace Go.Eng
open Go Go.Proofs Go.RowKit
theorem gQ_set {l : List Kv} {a : Int} (h : ixO l a < l.length) {v : BitVec 64} {w : Int} : gQ (l.set (ixO l a) ⟨v, a, w⟩) a = ⟨v, a, w⟩ := by
  have e : ∀ l : List Kv, ixO l a < l.length → ixO (l.set (ixO l a) ⟨v, a, w⟩) a = ixO l a := by
    intro l
    induction l with
    | nil => intro h; simp at h
    | cons t l ih =>
      intro h
      rw [ixO_cons] at h ⊢
      by_cases q : t.id = a
      · rw [if_pos q, List.set_cons_zero, ixO_cons, if_pos rfl]
      · rw [if_neg q, List.length_cons] at h
        rw [if_neg q, List.set_cons_succ, ixO_cons, if_neg q, ih (by omega)]
  unfold gQ
  rw [e l h, List.getD_eq_getElem?_getD, List.getElem?_set_self h]; rfl
set_option maxRecDepth 100000 in
theorem rqWgh_spec {n0 b : Nat} {x : Qm} {m : Mem0} (a wt : Int) (w : World) (h : RqM n0 b x m) (hn0 : n0 ≤ w.heap.size) (hM : Mem w m) : Ret Try.prog 18 #[.pointer (some ⟨b, 0, none⟩), .int .i64 a, .int .i64 wt] w (Upd m (fun u m' => u = .bool (decide (ixO x.l a < x.l.length)) ∧ RqM n0 b (weighX x a wt) m') w) := by
 obtain ⟨hq, bm, bt, es, cl, mt, rfl, he, ht, hb, hbm⟩ := h; have h0 : RqM n0 b x (rqC b x.g x.fl bm bt x.cur x.ran (loadO x.l) :: (bm, .map es cl) :: mt) := ⟨hq, bm, bt, es, cl, mt, rfl, he, ht, hb, hbm⟩; have hll := hq.load; have hlen := hq.len; have hbr := bring_in (n := wt) (lo := 1) (hi := 4096) (by decide)
 refine Ret.enterM (l := [.pointer (some ⟨b, 0, none⟩), .int .i64 a, .int .i64 wt]) Try.func18 rfl Try.ntmps18 rfl (rqC b x.g x.fl bm bt x.cur x.ran (loadO x.l) :: (bm, .map es cl) :: (mt ++ [])) ((inM (rqC b x.g x.fl bm bt x.cur x.ran (loadO x.l) :: (bm, .map es cl) :: mt))) (by rw [List.append_nil]; exact hM) ?_
 refine wpM.seq (wpM.region ?_)
 refine LM.as rfl ?_
 refine LM.nil (QM.sub (e' := [(0, _), (1, _), (2, _)]) au9 (QM.then ?_))
 refine wpM.seq ?_
 refine wpM.seq (wpM.region ?_)
 refine LM.mv rfl (LM.mv rfl ?_)
 refine LM.callE (oc_call (enters_fn Try.func14 (by kernel_rfl) rfl) rfl) (fun w hm hc hg => rqV_spec a w h0 (hm.pick (rqC b x.g x.fl bm bt x.cur x.ran (loadO x.l) :: (bm, .map es cl) :: mt))) ?_
 refine LM.mv rfl ?_
 refine LM.val (ov_extract rfl rfl) ?_
 refine LM.val (ov_extract rfl rfl) ?_
 refine LM.as rfl (LM.as rfl ?_)
 refine LM.nil (QM.sub (e' := [(0, _), (1, _), (2, _), (8, _)]) au9 (QM.then (wpM.seq (wpM.region ?_))))
 refine LM.mv rfl ?_
 refine LM.val (ov_notD rfl) ?_
 refine LM.nil (QM.sub (e' := [(0, _), (1, _), (2, _), (18, _)]) au9 (QM.then ?_))
 refine wpM.condD rfl (fun h1 => ?_) (fun h1 => ?_)
 ·
  refine wpM.seq (wpM.region ?_)
  refine LM.as rfl ?_
  refine LM.nil (QM.sub (e' := [(6, _)]) ⟨rfl, trivial⟩ (QM.then ?_))
  refine wpM.ret ?_
  refine QM.then_ret ?_
  refine QM.leave (.inl rfl) [.tmp 6] Try.results18 rfl ?_
  intro w' hm' hc' hg'
  rw [show weighX x a wt = x from if_neg h1, decide_eq_false h1]; exact rqm_leaf (x' := x) hq he ht hb hbm hm' au1 hc' (inn_refl _ _)
 replace h1 := Classical.not_not.1 h1; have hwf := weigh_wf (w := wt) hq h1; have hit := ixO_hit h1; have hwt : 1 ≤ (gQ x.l a).x ∧ (gQ x.l a).x ≤ 4096 := hq.wt _ hit.2
 refine wpM.skip ?_
 refine QM.then (wpM.seq (wpM.region ?_))
 refine LM.mv rfl ?_
 refine LM.val (ov_nilCheck rfl) ?_
 refine LM.val (ov_field Try.underlying93 rfl Try.sizeOf89 rfl (k := 2) rfl rfl) ?_
 refine LM.rd (om_ld Try.isAgg89 rfl rfl) ?_
 refine LM.mv rfl ?_
 refine LM.rd (om_lk Try.underlying89 Try.underlying3 Try.zeroValue95 rfl rfl (by assumption) (ent_get _ _)) ?_
 refine LM.alloc Try.zeroValue95 rfl (fun b9 hb9 => ?_)
 refine LM.stW Try.sizeOf95 rfl rfl rfl rfl au7 (fun hlt => by first | exact inM_0 | exact inM_1 | exact absurd hlt (by omega)) ?_
 refine LM.nil (QM.sub (e' := [(0, _), (1, _), (2, _), (9, _)]) au9 (QM.then (wpM.seq (wpM.region ?_))))
 refine LM.mv rfl ?_
 refine LM.val (ov_max rfl rfl) ?_
 refine LM.val (ov_min rfl rfl) ?_
 refine LM.as rfl ?_
 refine LM.nil (QM.sub (e' := [(0, _), (1, _), (2, _), (9, _)]) au9 (QM.then ?_))
 refine wpM.seq ?_
 refine wpM.seq (wpM.region ?_)
 rw [bring_eq (by decide)]
 refine LM.mv rfl (LM.mv rfl ?_)
 refine LM.val (ov_nilCheck rfl) ?_
 refine LM.val (ov_field Try.underlying93 rfl Try.sizeOf3 rfl (k := 4) rfl rfl) ?_
 refine LM.rd (om_ld Try.isAgg3 rfl rfl) ?_
 refine LM.val (ov_eql rfl rfl) ?_
 refine LM.mv rfl ?_
 refine LM.splitD (t := 34) rfl (fun h2 => ?_) (fun h2 => ?_)
 ·
  refine LM.sp 34 rfl rfl rfl (LM.mv rfl (LM.sp 34 rfl rfl rfl (LM.val (ov_field Try.underlying95 rfl Try.sizeOf3 rfl (k := 1) rfl rfl) (LM.sp 34 rfl rfl rfl ?_))))
  refine LM.rd (om_ld Try.isAgg3 rfl rfl) ?_
  refine LM.sp 34 rfl rfl rfl ?_
  refine LM.val (ov_neq rfl rfl) ?_
  refine LM.val (ov_pickT rfl rfl) ?_
  refine LM.nil (QM.sub (e' := [(0, _), (1, _), (2, _), (9, _), (39, _)]) au9 (QM.then ?_))
  refine wpM.joinK (α := Int) (fun r1 => []) [(0, _), (1, _), (2, _), (9, _)] (fun r1 => rqC b x.g x.fl bm bt x.cur r1 (loadO x.l) :: (bm, .map es cl) :: (b9, .cells #[U (gQ x.l a).V, .int .i64 (gQ x.l a).x] 95 (0, 0)) :: (mt ++ [])) (fun r1 => (weighQ x a wt).ran = r1) ⟨rfl, rfl, rfl, rfl, trivial⟩ ?_ ?_
  ·
   refine wpM.condD rfl (fun h3 => ?_) (fun h3 => ?_)
   ·
    refine wpM.region ?_
    refine LM.mv rfl (LM.mv rfl ?_)
    refine LM.val (ov_nilCheck rfl) ?_
    refine LM.val (ov_field Try.underlying93 rfl Try.sizeOf3 rfl (k := 0) rfl rfl) ?_
    refine LM.rd (om_ld Try.isAgg3 rfl rfl) ?_
    refine LM.val (ov_nilCheck rfl) ?_
    refine LM.val (ov_field Try.underlying93 rfl Try.sizeOf3 rfl (k := 5) rfl rfl) ?_
    refine LM.st Try.sizeOf3 rfl rfl rfl au5 rfl (fun hlt => by first | exact inM_0 | exact inM_1 | exact absurd hlt (by omega)) ?_
    refine LM.mem (SubM.mem (M' := rqC b x.g x.fl bm bt x.cur x.g (loadO x.l) :: (bm, .map es cl) :: (b9, .cells #[U (gQ x.l a).V, .int .i64 (gQ x.l a).x] 95 (0, 0)) :: (mt ++ [])) au1) ?_
    refine LM.nil (QM.sub (e' := [(0, _), (1, _), (2, _), (9, _)]) au9 ?_)
    refine QM.meetK (x.g) ⟨rfl, rfl, rfl, rfl, trivial⟩ au1 ?_
    · exact if_pos ⟨fun q => h3 q.symm, h2.symm⟩
   refine wpM.skip ?_
   refine QM.meetK (x.ran) ⟨rfl, rfl, rfl, rfl, trivial⟩ au1 ?_
   · exact if_neg (fun q => h3 (fun z => q.1 z.symm))
  rintro r1 hr1
  change QM _ _ _ _ _ (rqC b x.g x.fl bm bt x.cur r1 (loadO x.l) :: (bm, .map es cl) :: (b9, .cells #[U (gQ x.l a).V, .int .i64 (gQ x.l a).x] 95 (0, 0)) :: (mt ++ [])) _ _ _
  refine QM.then (wpM.seq (wpM.region ?_))
  refine LM.mv rfl (LM.mv rfl ?_)
  refine LM.callE (oc_call (enters_fn Try.func65 (by kernel_rfl) rfl) rfl) (fun w hm hc hg => key_spec a w he (hm.pick (rqC b x.g x.fl bm bt x.cur r1 (loadO x.l) :: (bm, .map es cl) :: []))) ?_
  refine LM.alloc Try.zeroValue100 rfl (fun b10 hb10 => ?_)
  refine LM.stW Try.sizeOf100 rfl rfl rfl rfl au7 (fun hlt => by first | exact inM_0 | exact inM_1 | exact absurd hlt (by omega)) ?_
  refine LM.nil (QM.sub (e' := [(0, _), (1, _), (2, _), (9, _), (10, _)]) au9 (QM.then ?_))
  refine wpM.seq ?_
  refine wpM.draw [(0, 0), (1, 0), (2, 0), (3, 1), (4, 0), (5, 0), (6, 1), (7, 0), (8, 0), (9, 0), (10, 0), (11, 3)] (by kernel_rfl) (by kernel_rfl) ?_
  refine LD.val rfl rfl (ov_move rfl) ?_
  refine LD.val rfl rfl (ov_nilCheck rfl) ?_
  refine LD.val rfl rfl (ov_field Try.underlying93 rfl Try.sizeOf3 rfl (k := 6) rfl rfl) ?_
  refine LD.rd rfl rfl (om_ld Try.isAgg3 rfl rfl) ?_
  refine LD.val rfl rfl (ov_move rfl) ?_
  refine LD.val rfl rfl (ov_field Try.underlying95 rfl Try.sizeOf3 rfl (k := 1) rfl rfl) ?_
  refine LD.rd rfl rfl (om_ld Try.isAgg3 rfl rfl) ?_
  refine LD.val rfl rfl (ov_sub64 rfl rfl (by omega)) ?_
  refine LD.val rfl rfl (ov_add64 rfl rfl (by omega)) ?_
  refine LD.val rfl rfl (ov_nilCheck rfl) ?_
  refine LD.val rfl rfl (ov_field Try.underlying93 rfl Try.sizeOf3 rfl (k := 6) rfl rfl) ?_
  refine LD.tail rfl rfl ?_
  refine LM.st Try.sizeOf3 rfl rfl rfl au5 rfl (fun hlt => by first | exact inM_0 | exact inM_1 | exact absurd hlt (by omega)) ?_
  refine LM.mem (SubM.mem (M' := rqC b x.g x.fl bm bt x.cur r1 (loadO x.l + (bringO wt 1 4096 - (gQ x.l a).x)) :: (bm, .map es cl) :: (b9, .cells #[U (gQ x.l a).V, .int .i64 (gQ x.l a).x] 95 (0, 0)) :: (b10, .cells #[U (gQ x.l a).V, .int .i64 a] 100 (0, 0)) :: (mt ++ [])) au1) ?_
  refine LM.nil ?_
  refine QM.qn ?_
  refine QM.sub (e' := [(0, _), (1, _), (2, _), (9, _), (10, _)]) au9 (QM.then (wpM.seq (wpM.region ?_)))
  refine LM.mv rfl (LM.val (ov_field Try.underlying95 rfl Try.sizeOf26 rfl (k := 0) rfl rfl) ?_)
  refine LM.rd (om_ld Try.isAgg26 rfl rfl) ?_
  refine LM.mv rfl ?_
  refine LM.callE (oc_call (enters_fn Try.func63 (by kernel_rfl) rfl) rfl) (fun w hm hc hg => place_spec (gQ x.l a).V (bringO wt 1 4096) w (hm.pick (rqC b x.g x.fl bm bt x.cur r1 (loadO x.l + (bringO wt 1 4096 - (gQ x.l a).x)) :: []))) ?_
  refine LM.mv rfl (LM.val (ov_field Try.underlying95 rfl Try.sizeOf26 rfl (k := 0) rfl rfl) ?_)
  refine LM.st Try.sizeOf26 rfl rfl rfl au5 rfl (fun hlt => by first | exact inM_0 | exact inM_1 | exact absurd hlt (by omega)) ?_
  refine LM.val (ov_field Try.underlying95 rfl Try.sizeOf3 rfl (k := 1) rfl rfl) ?_
  refine LM.st Try.sizeOf3 rfl rfl rfl au5 rfl (fun hlt => by first | exact inM_0 | exact inM_1 | exact absurd hlt (by omega)) ?_
  refine LM.mem (SubM.mem (M' := rqC b x.g x.fl bm bt x.cur r1 (loadO x.l + (bringO wt 1 4096 - (gQ x.l a).x)) :: (bm, .map es cl) :: (b9, .cells #[U (plcO x (gQ x.l a).V (bringO wt 1 4096)), .int .i64 (bringO wt 1 4096)] 95 (0, 0)) :: (b10, .cells #[U (gQ x.l a).V, .int .i64 a] 100 (0, 0)) :: (mt ++ [])) au1) ?_
  refine LM.nil (QM.sub (e' := [(0, _), (1, _), (2, _), (9, _), (10, _)]) au9 (QM.then ?_))
  refine wpM.seq ?_
  refine wpM.draw [(0, 0), (1, 0), (2, 0), (3, 1), (4, 0), (5, 1), (6, 3)] (by kernel_rfl) (by kernel_rfl) ?_
  refine LD.val rfl rfl (ov_move rfl) ?_
  refine LD.val rfl rfl (ov_nilCheck rfl) ?_
  refine LD.val rfl rfl (ov_field Try.underlying93 rfl Try.sizeOf89 rfl (k := 2) rfl rfl) ?_
  refine LD.rd rfl rfl (om_ld Try.isAgg89 rfl rfl) ?_
  refine LD.val rfl rfl (ov_move rfl) ?_
  refine LD.rd rfl rfl (om_ldW Try.isAgg95 Try.sizeOf95 rfl rfl) ?_
  refine LD.tail rfl rfl ?_
  refine LM.mU Try.underlying89 Try.underlying3 rfl rfl rfl (by assumption) (fun hlt => by first | exact inM_0 | exact inM_1 | exact absurd hlt (by omega)) (fun esu1 clu1 hesu1 => ?_)
  refine LM.nil ?_
  refine QM.qn ?_
  refine QM.sub (e' := [(0, _), (1, _), (2, _), (10, _)]) au9 (QM.then ?_)
  refine wpM.seq ?_
  refine wpM.seq (wpM.region ?_)
  rw [ent_set h1] at hesu1
  refine LM.mv rfl (LM.mv rfl ?_)
  refine LM.val (ov_nilCheck rfl) ?_
  refine LM.val (ov_field Try.underlying93 rfl Try.sizeOf3 rfl (k := 4) rfl rfl) ?_
  refine LM.rd (om_ld Try.isAgg3 rfl rfl) ?_
  refine LM.val (ov_neq rfl rfl) ?_
  refine LM.nil (QM.sub (e' := [(0, _), (1, _), (2, _), (10, _), (80, _)]) au9 (QM.then ?_))
  refine wpM.joinK (α := Mem0) (fun mt3 => []) [] (fun mt3 => rqC b x.g x.fl bm bt x.cur r1 (loadO x.l + (bringO wt 1 4096 - (gQ x.l a).x)) :: (bm, .map esu1 clu1) :: (mt3 ++ [])) (fun mt3 => RbT n0 bt 16 (rdyO (weighQ x a wt)) mt3 ∧ inn mt w.heap.size mt3) trivial ?_ ?_
  ·
   refine wpM.condD rfl (fun h4 => ?_) (fun h4 => ?_)
   ·
    have h6 := h4
    refine wpM.seq ?_
    refine wpM.draw [(0, 0), (1, 0), (2, 0), (3, 1), (4, 1), (5, 3)] (by kernel_rfl) (by kernel_rfl) ?_
    refine LD.val rfl rfl (ov_move rfl) ?_
    refine LD.val rfl rfl (ov_nilCheck rfl) ?_
    refine LD.val rfl rfl (ov_field Try.underlying93 rfl Try.sizeOf90 rfl (k := 3) rfl rfl) ?_
    refine LD.rd rfl rfl (om_ld Try.isAgg90 rfl rfl) ?_
    refine LD.rd rfl rfl (om_ldW Try.isAgg100 Try.sizeOf100 rfl rfl) ?_
    refine LD.tail rfl rfl ?_
    refine LM.cU (oc_call (enters_fn Try.func67 (by kernel_rfl) rfl) rfl) (fun w hm hc hg => del_spec (⟨(gQ x.l a).V, a, 0⟩ : Kv) (gQ x.l a) w (rdy_of hq h1 (fun q => h6 q.symm)) ⟨rfl, hit.1.symm⟩ (by decide) ht (hm.pick mt)) ht.wlk (fun p hp _ => inM_2 p hp) ?_
    rintro u86 mt1 ⟨rfl, ht1⟩ hin1; have hlt1 := delK_lt (k := (⟨(gQ x.l a).V, a, 0⟩ : Kv)) (rdy_of hq h1 (fun q => h6 q.symm)) ⟨rfl, hit.1.symm⟩
    refine LM.nil ?_
    refine QM.qn ?_
    refine QM.sub (e' := [(0, _), (1, _), (2, _)]) au9 (QM.then ?_)
    refine wpM.draw [(0, 0), (1, 0), (2, 0), (3, 1), (4, 0), (5, 0), (7, 0), (6, 2), (8, 3)] (by kernel_rfl) (by kernel_rfl) ?_
    refine LD.val rfl rfl (ov_move rfl) ?_
    refine LD.val rfl rfl (ov_nilCheck rfl) ?_
    refine LD.val rfl rfl (ov_field Try.underlying93 rfl Try.sizeOf90 rfl (k := 3) rfl rfl) ?_
    refine LD.rd rfl rfl (om_ld Try.isAgg90 rfl rfl) ?_
    refine LD.val rfl rfl (ov_move rfl) ?_
    refine LD.val rfl rfl (ov_move rfl) ?_
    refine LD.val rfl rfl (ov_move rfl) ?_
    refine LD.callE rfl rfl (oc_call (enters_fn Try.func65 (by kernel_rfl) rfl) rfl) (fun w hm hc hg => (show Ret _ _ _ _ (fun u w' => u = .agg #[U (plcO x (gQ x.l a).V (bringO wt 1 4096)), .int .i64 a] ∧ Ext _ w') from by have hk := key_spec a w hesu1 (hm.pick (rqC b x.g x.fl bm bt x.cur r1 (loadO x.l + (bringO wt 1 4096 - (gQ x.l a).x)) :: (bm, .map esu1 clu1) :: [])); rw [gQ_set h1] at hk; exact hk)) ?_
    refine LD.tail rfl rfl ?_
    refine LM.cU (oc_call (enters_fn Try.func64 (by kernel_rfl) rfl) rfl) (fun w hm hc hg => ins_spec (⟨plcO x (gQ x.l a).V (bringO wt 1 4096), a, bringO wt 1 4096⟩ : Kv) w (fun y hy e => by have hy1 := (delK_mem (rdyO x) (⟨(gQ x.l a).V, a, 0⟩ : Kv) y).1 hy; have hyy : y = gQ x.l a := uniq_id hq.nd (rdy_id hq hy1.1).1 hit.2 (e.2.trans hit.1.symm); exact hy1.2 ⟨by rw [hyy], e.2.symm⟩) (Nat.lt_of_lt_of_le hlt1 (Nat.le_trans (rdy_len hq.nd) hlen)) (by decide) ht1 (Nat.le_trans hn0 hc.size) (hm.pick mt1)) ht1.wlk (inn_S hin1 inM_2) ?_
    rintro u95 mt2 ⟨rfl, ht2⟩ hin2; rw [weigh_rdy (k := (⟨(gQ x.l a).V, a, 0⟩ : Kv)) hq h1 h6 ⟨rfl, hit.1.symm⟩] at ht2
    refine LM.nil ?_
    refine QM.qn ?_
    refine QM.sub (e' := []) trivial ?_
    refine QM.meetK (mt2) trivial au1 ?_
    · exact ⟨ht2, inn_trans hin1 hin2⟩
   refine wpM.skip ?_
   refine QM.meetK (mt) trivial au1 ?_
   · have h7 : a = x.cur := Classical.not_not.1 h4; exact ⟨by have hc0 : 0 ≤ x.cur := (by rw [← h7, ← hit.1]; exact hq.pos _ hit.2); have := weigh_rdyC (w := wt) hq hc0; rw [← h7] at this; rw [← this]; exact ht, inn_refl _ _⟩
  rintro mt3 ⟨ht3, hin3⟩
  change QM _ _ _ _ _ (rqC b x.g x.fl bm bt x.cur r1 (loadO x.l + (bringO wt 1 4096 - (gQ x.l a).x)) :: (bm, .map esu1 clu1) :: (mt3 ++ [])) _ _ _
  refine QM.then (wpM.seq (wpM.region ?_))
  refine LM.as rfl ?_
  refine LM.nil (QM.sub (e' := [(6, _)]) ⟨rfl, trivial⟩ (QM.then ?_))
  refine wpM.ret ?_
  refine QM.leave (.inl rfl) [.tmp 6] Try.results18 rfl ?_
  intro w' hm' hc' hg'
  have hld : loadO x.l + (bringO wt 1 4096 - (gQ x.l a).x) = loadO (weighQ x a wt).l := (load_set h1 (⟨plcO x (gQ x.l a).V (bringO wt 1 4096), a, bringO wt 1 4096⟩ : Kv)).symm; subst hr1; rw [show weighX x a wt = weighQ x a wt from if_pos h1, decide_eq_true h1]; exact rqm_leaf (x' := weighQ x a wt) hwf hesu1 ht3 hb hbm hm' (by (repeat' (first | exact SubM.nil _ | refine SubM.cons (by first | rfl | (rw [← hld]; done) | (rw [← hld]; rfl)) ?_ | refine SubM.app ?_))) hc' hin3
 refine LM.dr 34 rfl rfl rfl (LM.dr 34 rfl rfl rfl (LM.dr 34 rfl rfl rfl (LM.dr 34 rfl rfl rfl ?_)))
 refine LM.val (ov_pickF rfl rfl) ?_
 refine LM.nil (QM.sub (e' := [(0, _), (1, _), (2, _), (9, _), (39, _)]) au9 (QM.then ?_))
 refine wpM.joinK (α := Int) (fun r1 => []) [(0, _), (1, _), (2, _), (9, _)] (fun r1 => rqC b x.g x.fl bm bt x.cur r1 (loadO x.l) :: (bm, .map es cl) :: (b9, .cells #[U (gQ x.l a).V, .int .i64 (gQ x.l a).x] 95 (0, 0)) :: (mt ++ [])) (fun r1 => (weighQ x a wt).ran = r1) ⟨rfl, rfl, rfl, rfl, trivial⟩ ?_ ?_
 ·
  refine wpM.condF rfl ?_
  refine wpM.skip ?_
  refine QM.meetK (x.ran) ⟨rfl, rfl, rfl, rfl, trivial⟩ au1 ?_
  · exact if_neg (fun q => h2 q.2.symm)
 rintro r1 hr1
 change QM _ _ _ _ _ (rqC b x.g x.fl bm bt x.cur r1 (loadO x.l) :: (bm, .map es cl) :: (b9, .cells #[U (gQ x.l a).V, .int .i64 (gQ x.l a).x] 95 (0, 0)) :: (mt ++ [])) _ _ _
 refine QM.then (wpM.seq (wpM.region ?_))
 refine LM.mv rfl (LM.mv rfl ?_)
 refine LM.callE (oc_call (enters_fn Try.func65 (by kernel_rfl) rfl) rfl) (fun w hm hc hg => key_spec a w he (hm.pick (rqC b x.g x.fl bm bt x.cur r1 (loadO x.l) :: (bm, .map es cl) :: []))) ?_
 refine LM.alloc Try.zeroValue100 rfl (fun b10 hb10 => ?_)
 refine LM.stW Try.sizeOf100 rfl rfl rfl rfl au7 (fun hlt => by first | exact inM_0 | exact inM_1 | exact absurd hlt (by omega)) ?_
 refine LM.nil (QM.sub (e' := [(0, _), (1, _), (2, _), (9, _), (10, _)]) au9 (QM.then ?_))
 refine wpM.seq ?_
 refine wpM.draw [(0, 0), (1, 0), (2, 0), (3, 1), (4, 0), (5, 0), (6, 1), (7, 0), (8, 0), (9, 0), (10, 0), (11, 3)] (by kernel_rfl) (by kernel_rfl) ?_
 refine LD.val rfl rfl (ov_move rfl) ?_
 refine LD.val rfl rfl (ov_nilCheck rfl) ?_
 refine LD.val rfl rfl (ov_field Try.underlying93 rfl Try.sizeOf3 rfl (k := 6) rfl rfl) ?_
 refine LD.rd rfl rfl (om_ld Try.isAgg3 rfl rfl) ?_
 refine LD.val rfl rfl (ov_move rfl) ?_
 refine LD.val rfl rfl (ov_field Try.underlying95 rfl Try.sizeOf3 rfl (k := 1) rfl rfl) ?_
 refine LD.rd rfl rfl (om_ld Try.isAgg3 rfl rfl) ?_
 refine LD.val rfl rfl (ov_sub64 rfl rfl (by omega)) ?_
 refine LD.val rfl rfl (ov_add64 rfl rfl (by omega)) ?_
 refine LD.val rfl rfl (ov_nilCheck rfl) ?_
 refine LD.val rfl rfl (ov_field Try.underlying93 rfl Try.sizeOf3 rfl (k := 6) rfl rfl) ?_
 refine LD.tail rfl rfl ?_
 refine LM.st Try.sizeOf3 rfl rfl rfl au5 rfl (fun hlt => by first | exact inM_0 | exact inM_1 | exact absurd hlt (by omega)) ?_
 refine LM.mem (SubM.mem (M' := rqC b x.g x.fl bm bt x.cur r1 (loadO x.l + (bringO wt 1 4096 - (gQ x.l a).x)) :: (bm, .map es cl) :: (b9, .cells #[U (gQ x.l a).V, .int .i64 (gQ x.l a).x] 95 (0, 0)) :: (b10, .cells #[U (gQ x.l a).V, .int .i64 a] 100 (0, 0)) :: (mt ++ [])) au1) ?_
 refine LM.nil ?_
 refine QM.qn ?_
 refine QM.sub (e' := [(0, _), (1, _), (2, _), (9, _), (10, _)]) au9 (QM.then (wpM.seq (wpM.region ?_)))
 refine LM.mv rfl (LM.val (ov_field Try.underlying95 rfl Try.sizeOf26 rfl (k := 0) rfl rfl) ?_)
 refine LM.rd (om_ld Try.isAgg26 rfl rfl) ?_
 refine LM.mv rfl ?_
 refine LM.callE (oc_call (enters_fn Try.func63 (by kernel_rfl) rfl) rfl) (fun w hm hc hg => place_spec (gQ x.l a).V (bringO wt 1 4096) w (hm.pick (rqC b x.g x.fl bm bt x.cur r1 (loadO x.l + (bringO wt 1 4096 - (gQ x.l a).x)) :: []))) ?_
 refine LM.mv rfl (LM.val (ov_field Try.underlying95 rfl Try.sizeOf26 rfl (k := 0) rfl rfl) ?_)
 refine LM.st Try.sizeOf26 rfl rfl rfl au5 rfl (fun hlt => by first | exact inM_0 | exact inM_1 | exact absurd hlt (by omega)) ?_
 refine LM.val (ov_field Try.underlying95 rfl Try.sizeOf3 rfl (k := 1) rfl rfl) ?_
 refine LM.st Try.sizeOf3 rfl rfl rfl au5 rfl (fun hlt => by first | exact inM_0 | exact inM_1 | exact absurd hlt (by omega)) ?_
 refine LM.mem (SubM.mem (M' := rqC b x.g x.fl bm bt x.cur r1 (loadO x.l + (bringO wt 1 4096 - (gQ x.l a).x)) :: (bm, .map es cl) :: (b9, .cells #[U (plcO x (gQ x.l a).V (bringO wt 1 4096)), .int .i64 (bringO wt 1 4096)] 95 (0, 0)) :: (b10, .cells #[U (gQ x.l a).V, .int .i64 a] 100 (0, 0)) :: (mt ++ [])) au1) ?_
 refine LM.nil (QM.sub (e' := [(0, _), (1, _), (2, _), (9, _), (10, _)]) au9 (QM.then ?_))
 refine wpM.seq ?_
 refine wpM.draw [(0, 0), (1, 0), (2, 0), (3, 1), (4, 0), (5, 1), (6, 3)] (by kernel_rfl) (by kernel_rfl) ?_
 refine LD.val rfl rfl (ov_move rfl) ?_
 refine LD.val rfl rfl (ov_nilCheck rfl) ?_
 refine LD.val rfl rfl (ov_field Try.underlying93 rfl Try.sizeOf89 rfl (k := 2) rfl rfl) ?_
 refine LD.rd rfl rfl (om_ld Try.isAgg89 rfl rfl) ?_
 refine LD.val rfl rfl (ov_move rfl) ?_
 refine LD.rd rfl rfl (om_ldW Try.isAgg95 Try.sizeOf95 rfl rfl) ?_
 refine LD.tail rfl rfl ?_
 refine LM.mU Try.underlying89 Try.underlying3 rfl rfl rfl (by assumption) (fun hlt => by first | exact inM_0 | exact inM_1 | exact absurd hlt (by omega)) (fun esu1 clu1 hesu1 => ?_)
 refine LM.nil ?_
 refine QM.qn ?_
 refine QM.sub (e' := [(0, _), (1, _), (2, _), (10, _)]) au9 (QM.then ?_)
 refine wpM.seq ?_
 refine wpM.seq (wpM.region ?_)
 rw [ent_set h1] at hesu1
 refine LM.mv rfl (LM.mv rfl ?_)
 refine LM.val (ov_nilCheck rfl) ?_
 refine LM.val (ov_field Try.underlying93 rfl Try.sizeOf3 rfl (k := 4) rfl rfl) ?_
 refine LM.rd (om_ld Try.isAgg3 rfl rfl) ?_
 refine LM.val (ov_neq rfl rfl) ?_
 refine LM.nil (QM.sub (e' := [(0, _), (1, _), (2, _), (10, _), (80, _)]) au9 (QM.then ?_))
 refine wpM.joinK (α := Mem0) (fun mt3 => []) [] (fun mt3 => rqC b x.g x.fl bm bt x.cur r1 (loadO x.l + (bringO wt 1 4096 - (gQ x.l a).x)) :: (bm, .map esu1 clu1) :: (mt3 ++ [])) (fun mt3 => RbT n0 bt 16 (rdyO (weighQ x a wt)) mt3 ∧ inn mt w.heap.size mt3) trivial ?_ ?_
 ·
  refine wpM.condD rfl (fun h5 => ?_) (fun h5 => ?_)
  ·
   have h6 := h5
   refine wpM.seq ?_
   refine wpM.draw [(0, 0), (1, 0), (2, 0), (3, 1), (4, 1), (5, 3)] (by kernel_rfl) (by kernel_rfl) ?_
   refine LD.val rfl rfl (ov_move rfl) ?_
   refine LD.val rfl rfl (ov_nilCheck rfl) ?_
   refine LD.val rfl rfl (ov_field Try.underlying93 rfl Try.sizeOf90 rfl (k := 3) rfl rfl) ?_
   refine LD.rd rfl rfl (om_ld Try.isAgg90 rfl rfl) ?_
   refine LD.rd rfl rfl (om_ldW Try.isAgg100 Try.sizeOf100 rfl rfl) ?_
   refine LD.tail rfl rfl ?_
   refine LM.cU (oc_call (enters_fn Try.func67 (by kernel_rfl) rfl) rfl) (fun w hm hc hg => del_spec (⟨(gQ x.l a).V, a, 0⟩ : Kv) (gQ x.l a) w (rdy_of hq h1 (fun q => h6 q.symm)) ⟨rfl, hit.1.symm⟩ (by decide) ht (hm.pick mt)) ht.wlk (fun p hp _ => inM_2 p hp) ?_
   rintro u86 mt1 ⟨rfl, ht1⟩ hin1; have hlt1 := delK_lt (k := (⟨(gQ x.l a).V, a, 0⟩ : Kv)) (rdy_of hq h1 (fun q => h6 q.symm)) ⟨rfl, hit.1.symm⟩
   refine LM.nil ?_
   refine QM.qn ?_
   refine QM.sub (e' := [(0, _), (1, _), (2, _)]) au9 (QM.then ?_)
   refine wpM.draw [(0, 0), (1, 0), (2, 0), (3, 1), (4, 0), (5, 0), (7, 0), (6, 2), (8, 3)] (by kernel_rfl) (by kernel_rfl) ?_
   refine LD.val rfl rfl (ov_move rfl) ?_
   refine LD.val rfl rfl (ov_nilCheck rfl) ?_
   refine LD.val rfl rfl (ov_field Try.underlying93 rfl Try.sizeOf90 rfl (k := 3) rfl rfl) ?_
   refine LD.rd rfl rfl (om_ld Try.isAgg90 rfl rfl) ?_
   refine LD.val rfl rfl (ov_move rfl) ?_
   refine LD.val rfl rfl (ov_move rfl) ?_
   refine LD.val rfl rfl (ov_move rfl) ?_
   refine LD.callE rfl rfl (oc_call (enters_fn Try.func65 (by kernel_rfl) rfl) rfl) (fun w hm hc hg => (show Ret _ _ _ _ (fun u w' => u = .agg #[U (plcO x (gQ x.l a).V (bringO wt 1 4096)), .int .i64 a] ∧ Ext _ w') from by have hk := key_spec a w hesu1 (hm.pick (rqC b x.g x.fl bm bt x.cur r1 (loadO x.l + (bringO wt 1 4096 - (gQ x.l a).x)) :: (bm, .map esu1 clu1) :: [])); rw [gQ_set h1] at hk; exact hk)) ?_
   refine LD.tail rfl rfl ?_
   refine LM.cU (oc_call (enters_fn Try.func64 (by kernel_rfl) rfl) rfl) (fun w hm hc hg => ins_spec (⟨plcO x (gQ x.l a).V (bringO wt 1 4096), a, bringO wt 1 4096⟩ : Kv) w (fun y hy e => by have hy1 := (delK_mem (rdyO x) (⟨(gQ x.l a).V, a, 0⟩ : Kv) y).1 hy; have hyy : y = gQ x.l a := uniq_id hq.nd (rdy_id hq hy1.1).1 hit.2 (e.2.trans hit.1.symm); exact hy1.2 ⟨by rw [hyy], e.2.symm⟩) (Nat.lt_of_lt_of_le hlt1 (Nat.le_trans (rdy_len hq.nd) hlen)) (by decide) ht1 (Nat.le_trans hn0 hc.size) (hm.pick mt1)) ht1.wlk (inn_S hin1 inM_2) ?_
   rintro u95 mt2 ⟨rfl, ht2⟩ hin2; rw [weigh_rdy (k := (⟨(gQ x.l a).V, a, 0⟩ : Kv)) hq h1 h6 ⟨rfl, hit.1.symm⟩] at ht2
   refine LM.nil ?_
   refine QM.qn ?_
   refine QM.sub (e' := []) trivial ?_
   refine QM.meetK (mt2) trivial au1 ?_
   · exact ⟨ht2, inn_trans hin1 hin2⟩
  refine wpM.skip ?_
  refine QM.meetK (mt) trivial au1 ?_
  · have h7 : a = x.cur := Classical.not_not.1 h5; exact ⟨by have hc0 : 0 ≤ x.cur := (by rw [← h7, ← hit.1]; exact hq.pos _ hit.2); have := weigh_rdyC (w := wt) hq hc0; rw [← h7] at this; rw [← this]; exact ht, inn_refl _ _⟩
 rintro mt3 ⟨ht3, hin3⟩
 change QM _ _ _ _ _ (rqC b x.g x.fl bm bt x.cur r1 (loadO x.l + (bringO wt 1 4096 - (gQ x.l a).x)) :: (bm, .map esu1 clu1) :: (mt3 ++ [])) _ _ _
 refine QM.then (wpM.seq (wpM.region ?_))
 refine LM.as rfl ?_
 refine LM.nil (QM.sub (e' := [(6, _)]) ⟨rfl, trivial⟩ (QM.then ?_))
 refine wpM.ret ?_
 refine QM.leave (.inl rfl) [.tmp 6] Try.results18 rfl ?_
 intro w' hm' hc' hg'
 have hld : loadO x.l + (bringO wt 1 4096 - (gQ x.l a).x) = loadO (weighQ x a wt).l := (load_set h1 (⟨plcO x (gQ x.l a).V (bringO wt 1 4096), a, bringO wt 1 4096⟩ : Kv)).symm; subst hr1; rw [show weighX x a wt = weighQ x a wt from if_pos h1, decide_eq_true h1]; exact rqm_leaf (x' := weighQ x a wt) hwf hesu1 ht3 hb hbm hm' (by (repeat' (first | exact SubM.nil _ | refine SubM.cons (by first | rfl | (rw [← hld]; done) | (rw [← hld]; rfl)) ?_ | refine SubM.app ?_))) hc' hin3
abbrev qP (c b : Nat) : Nat × Obj := (c, .cells #[.pointer (some ⟨b, 0, none⟩)] 24 (0, 0))
abbrev yQ (c l : Nat) : Nat × Obj := (c, .cells #[.func (.yield l) #[] #[]] 64 (0, 0))
def RqA (b n0 : Nat) (v : Value) (m : Mem0) : Prop := ∃ c1, v = .func (.func 81) #[] #[.pointer (some ⟨c1, 0, none⟩)] ∧ m = [qP c1 b] ∧ n0 ≤ c1
theorem RqA.mono {b : Nat} : ∀ (k k' : Nat) u m, k' ≤ k → RqA b k u m → RqA b k' u m := fun k k' u m h ⟨b1, h1, h2, h3⟩ => ⟨b1, h1, h2, by omega⟩
def rdyA (L : List Kv) : List (Array Value) := L.map (fun t => #[.int .i64 t.id, U t.V])
theorem rdyA_len (L : List Kv) : (rdyA L).length = L.length := by simp [rdyA]
theorem rdyA_get {L : List Kv} {k : Nat} (h : k < L.length) : (rdyA L)[k]? = some #[.int .i64 (L.getD k default).id, U (L.getD k default).V] := by
  unfold rdyA; rw [List.getElem?_map, getq default h]; rfl
theorem rdyA_inv {L : List Kv} {k : Nat} {av : Array Value} (h : (rdyA L)[k]? = some av) : k < L.length ∧ av = #[.int .i64 (L.getD k default).id, U (L.getD k default).V] := by
  have hk : k < L.length := by have := (List.getElem?_eq_some_iff.1 h).1; rwa [rdyA_len] at this
  rw [rdyA_get hk] at h
  exact ⟨hk, (Option.some.inj h).symm⟩
set_option maxRecDepth 100000 in
theorem rqReady_spec (b : Nat) (w : World) : Ret Try.prog 38 #[.pointer (some ⟨b, 0, none⟩)] w (fun v w' => Ext w w' ∧ ∃ m, RqA b w.heap.size v m ∧ Mem w' m ∧ ∀ p ∈ m, w.heap.size ≤ p.1) := by
 refine Ret.enterM (l := [.pointer (some ⟨b, 0, none⟩)]) Try.func38 rfl Try.ntmps38 rfl ([]) (no) (Mem.nil w) ?_
 refine wpM.seq (wpM.region ?_)
 refine LM.box rfl rfl (fun b1 hb1 => ?_)
 refine LM.as rfl ?_
 refine LM.nil (QM.sub (e' := [(1, _)]) ⟨rfl, trivial⟩ (QM.then (wpM.seq (wpM.region ?_))))
 refine LM.val (ov_makeFunc rfl) ?_
 refine LM.as rfl ?_
 refine LM.nil (QM.sub (e' := [(2, _)]) ⟨rfl, trivial⟩ (QM.then ?_))
 refine wpM.ret ?_
 refine QM.leave (.inl rfl) [.tmp 2] Try.results38 rfl ?_
 intro w' hm' hc' hg'
 exact ⟨hc', _, ⟨b1, rfl, rfl, hb1⟩, SubM.mem au1 _ hm', fun p hp => by simp only [List.mem_cons, List.not_mem_nil, or_false] at hp; subst hp; assumption⟩
set_option maxRecDepth 100000 in
theorem rqReady_seq {n0' b c1 : Nat} {x : Qm} {m : Mem0} (h : RqM n0' b x m) : SeqCP Try.prog 81 #[.pointer (some ⟨c1, 0, none⟩)] (rdyA (rdyO x)) (fun w => Mem w (qP c1 b :: m)) (True) := by
 obtain ⟨hq, bm, bt, es, cl, mt, rfl, he, ht, hb, hbm⟩ := h
 refine SeqCP.enter (lb := [.pointer (some ⟨c1, 0, none⟩)]) Try.func81 rfl Try.ntmps81 rfl ?_
 intro l0 n0 J Jx w0 hn0 hfin hJr hL hy
 refine wpM.openJ (n := n0) (fun wj1 hmj1 hCj1 hjj1 hkj1 => ?_)
 refine wpM.seq (wpM.region ?_)
 refine LM.box rfl rfl (fun b2 hb2 => ?_)
 refine LM.nil (QM.sub (e' := [(1, _), (2, _)]) au9 (QM.then ?_))
 refine wpM.seq ?_
 refine wpM.seq (wpM.region ?_)
 refine LM.rdC (fun w hm hc hg => om_ld (M := qP c1 b :: rqC b x.g x.fl bm bt x.cur x.ran (loadO x.l) :: (bm, .map es cl) :: mt) Try.isAgg24 rfl rfl w ((hL.rd hJr hjj1 hc))) ?_
 refine LM.val (ov_peql (by kernel_rfl) rfl rfl) ?_
 refine LM.nil (QM.sub (e' := [(1, _), (2, _), (5, _)]) au9 (QM.then ?_))
 refine wpM.condF rfl ?_
 refine wpM.skip ?_
 refine QM.then (wpM.seq (wpM.region ?_))
 refine LM.rdC (fun w hm hc hg => om_ld (M := qP c1 b :: rqC b x.g x.fl bm bt x.cur x.ran (loadO x.l) :: (bm, .map es cl) :: mt) Try.isAgg24 rfl rfl w ((hL.rd hJr hjj1 hc))) ?_
 refine LM.val (ov_nilCheck rfl) ?_
 refine LM.val (ov_field Try.underlying93 rfl Try.sizeOf90 rfl (k := 3) rfl rfl) ?_
 refine LM.rdC (fun w hm hc hg => om_ld (M := qP c1 b :: rqC b x.g x.fl bm bt x.cur x.ran (loadO x.l) :: (bm, .map es cl) :: mt) Try.isAgg90 rfl rfl w ((hL.rd hJr hjj1 hc))) ?_
 refine LM.callT (oc_call (enters_fn Try.func82 (by kernel_rfl) rfl) rfl) RbA.mono (fun w hm hc hg => rball_spec bt w) ?_
 rintro u10 m10 ⟨c10, rfl, rfl, hc10⟩ -; have hne : ∀ p ∈ mt, p.1 ≠ c10 := fun p hp e => (by have := Mem.lt (hJr _ _ _ hjj1) (p := p) (by simp [hp]); omega)
 refine LM.nil (QM.sub (e' := [(2, _), (10, _)]) au9 (QM.then ?_))
 refine wpM.block ?_
 refine wpM.closeJ hL hCj1 hjj1 hkj1 (kk_top _) (yQ b2 l0 :: tP c10 bt :: []) (SubM.mem (by (try dsimp only); (repeat' (first | exact SubM.nil _ | refine SubM.cons rfl ?_ | refine SubM.app ?_)))) (by (try dsimp only); (repeat' (first | exact pn_nil | refine pn_cons (by first | (left; omega) | (right; simp; done)) rfl ?_))) ?_
 refine wpM.toRange (α := Unit) (fun k ⟨⟩ => yQ b2 l0 :: tP c10 bt :: []) (⟨⟩) au1 ?_
 refine wpM.rangeJ (α := Unit) (β := Unit) (enters_fn Try.func105 (by kernel_rfl) rfl) rfl (rball_seq ht) (fun k ⟨⟩ => yQ b2 l0 :: tP c10 bt :: []) (fun k ⟨⟩ => (fun w => J (k) (yQ b2 l0 :: tP c10 bt :: []) w ∧ top w)) (fun k ⟨⟩ => True) (fun ⟨⟩ => []) (fun _ => (fun w => Jx w ∧ top w)) (fun c ⟨⟩ => c = .ret ∧ True) ⟨⟩ rfl (fun _ h => h) trivial (by kernel_rfl) (by intro k av hav; obtain ⟨hkl, rfl⟩ := allK_inv hav; rfl) (.inl trivial) (fun k a w hm hc hg _ => Mem.cons (hJr _ _ _ hg.1).tail.tail.tail (hm.at c10) hne) (fun w hg _ _ => gl_j hL (hL.le _ _ _ hg.1) (gl_top _)) (fun w hg _ => gl_x hL (hL.le _ _ _ hg.1) (gl_top _)) (fun k x _ => by ((repeat (refine mm_cons rfl ?_)); exact fun p hp => .inl (by first | exact hp | (simp at hp; done) | (simp [hp]; done) | (simp at hp ⊢; first | exact .inl hp | exact hp | (simp [hp]; done))))) (fun c z _ => by ((repeat (refine mm_cons rfl ?_)); exact fun p hp => .inl (by first | exact hp | (simp at hp; done) | (simp [hp]; done) | (simp at hp ⊢; first | exact .inl hp | exact hp | (simp [hp]; done))))) ?_ ?_ ?_ ?_
 ·
  rintro k av ⟨⟩ l D rc n1 W1 hnn hD hll hput hrc hav -
  have hnn1 : n0 ≤ n1 := (by obtain ⟨w, hg, hw⟩ := hnn; exact Nat.le_trans (hL.le _ _ _ hg.1) hw)
  change wpM _ _ _ _ _ _ _ ((l, Obj.loop rc) :: ([(D, Obj.deferred (some []))] ++ (yQ b2 l0 :: tP c10 bt :: []))) _ _ _
  obtain ⟨hkl, rfl⟩ := allK_inv hav
  refine wpM.openJ2 (n := n0) (fun wj2 hmj2 hCj2 hjj2 hkj2 => ?_)
  refine wpM.region ?_
  refine LM.alloc Try.zeroValue100 rfl (fun b3 hb3 => ?_)
  refine LM.stW Try.sizeOf100 rfl rfl rfl rfl au7 (fun hlt => by first | exact inM_0 | exact inM_1 | exact absurd hlt (by omega)) ?_
  refine LM.nil (QM.sub (e' := [(2, _), (3, _)]) au9 ?_)
  refine QM.closeJ2 hL hCj2 hjj2 hkj2 (kk_and (kk_top _) hnn1) (yQ b2 l0 :: tP c10 bt :: []) (SubM.mem (by (try dsimp only); (repeat' (first | exact SubM.nil _ | refine SubM.cons rfl ?_ | refine SubM.app ?_)))) (by (try dsimp only); (repeat' (first | exact pn_nil | refine pn_cons (by first | (left; omega) | (right; simp; done)) rfl ?_))) ?_
  refine QM.toBodyF (hput k ⟨⟩) hll ?_
  refine wpM.openJ2 (n := n0) (fun wj3 hmj3 hCj3 hjj3 hkj3 => ?_)
  refine wpM.block ?_
  refine wpM.seq (wpM.region ?_)
  refine LM.rd (om_ld Try.isAgg64 rfl rfl) ?_
  refine LM.val (ov_field Try.underlying100 rfl Try.sizeOf3 rfl (k := 1) rfl rfl) ?_
  refine LM.rd (om_ld Try.isAgg3 rfl rfl) ?_
  refine LM.val (ov_field Try.underlying100 rfl Try.sizeOf26 rfl (k := 0) rfl rfl) ?_
  refine LM.rd (om_ld Try.isAgg26 rfl rfl) ?_
  refine LM.yieldJ (n := n0) (k := k) hL rfl rfl (fun m w hj => hy (k) _ m w (rdyA_get hkl) hj) hCj3 hjj3 hkj3 (kk_and (kk_top _) hnn1) ((l, Obj.loop (busyOf rc)) :: (D, Obj.deferred (some [])) :: ([])) (yQ b2 l0 :: tP c10 bt :: []) ((l, Obj.loop (busyOf rc)) :: (D, Obj.deferred (some [])) :: (yQ b2 l0 :: tP c10 bt :: [])) (by simp only [List.append_assoc, List.cons_append, List.nil_append]) (SubM.mem au1) (by (repeat' (first | exact pn_nil | refine lo_cons (by omega) rfl ?_ | refine lo_dm (by intro D hD; first | (have := hds1 D hD; omega) | (have := hds2 D hD; omega)) ?_))) (by (try dsimp only); (repeat' (first | exact pn_nil | refine pn_cons (by first | (left; omega) | (right; simp; done)) rfl ?_))) (fun wj4 hmj4 hCj4 hjj4 hkj4 => ?_) (fun wj4 hmj4 hCj4 hjj4 hkj4 => ?_)
  ·
   change LM _ _ _ _ _ _ _ _ ((l, Obj.loop (busyOf rc)) :: (D, Obj.deferred (some [])) :: (yQ b2 l0 :: tP c10 bt :: [])) _ _ _
   first | refine LM.val (ov_notD rfl) ?_ | refine LM.val (ov_not rfl) ?_
   refine LM.nil (QM.sub (e' := [(19, _)]) ⟨rfl, trivial⟩ (QM.then ?_))
   refine wpM.condF rfl ?_
   refine wpM.skip ?_
   refine QM.block_normal ?_
   refine QM.closeJ2 hL hCj4 hjj4 hkj4 (kk_and (kk_top _) hnn1) ((fun (k : Nat) => ((fun ⟨⟩ => yQ b2 l0 :: tP c10 bt :: []) : Unit → Mem0)) (k + 1) (⟨⟩)) (SubM.mem (by (try dsimp only); (repeat' (first | exact SubM.nil _ | refine SubM.cons rfl ?_ | refine SubM.app ?_)))) (by (try dsimp only); (repeat' (first | exact pn_nil | refine pn_cons (by first | (left; omega) | (right; simp; done)) rfl ?_))) ?_
   refine QM.next (⟨⟩) (SubM.mem au1) (fun _ h => h) ?_
   · trivial
  change LM _ _ _ _ _ _ _ _ ((l, Obj.loop (busyOf rc)) :: (D, Obj.deferred (some [])) :: ([])) _ _ _
  first | refine LM.val (ov_notD rfl) ?_ | refine LM.val (ov_not rfl) ?_
  refine LM.nil (QM.sub (e' := [(19, _)]) ⟨rfl, trivial⟩ (QM.then ?_))
  refine wpM.condT rfl ?_
  refine wpM.ret ?_
  refine QM.block_ret ?_
  refine QM.closeX2 hL hCj4 hjj4 hkj4 (kk_and (kk_top _) hnn1) ?_
  refine QM.rret (⟨⟩) (SubM.mem au1) (fun _ h => h) ?_
  · exact ⟨rfl, trivial⟩
 ·
  rintro ⟨⟩ D0 hD0 -
  refine QM.openJ (n := n0) (fun wj5 hmj5 hCj5 hjj5 hkj5 => ?_)
  refine QM.sub (e' := []) trivial ?_
  refine QM.block_normal ?_
  refine QM.closeJ hL hCj5 hjj5 hkj5 (kk_top _) ([]) (SubM.mem (by (try dsimp only); (repeat' (first | exact SubM.nil _ | refine SubM.cons rfl ?_ | refine SubM.app ?_)))) (by (try dsimp only); (repeat' (first | exact pn_nil | refine pn_cons (by first | (left; omega) | (right; simp; done)) rfl ?_))) ?_
  refine QM.leaveDJ (ds := (D0 :: [])) (.inr rfl) [] Try.results81 rfl hn0 (hd_cons hD0 hd_nil) (gl_j hL (Nat.le_refl _) (gl_top _)) ?_
  intro w' hm' hg'
  exact .inl (by rw [rdyA_len, ← allK_len]; exact hg'.1)
 ·
  rintro ⟨⟩ D0 hD0 hx
  obtain ⟨-, hx⟩ := hx
  refine QM.openX (n := n0) (fun wj6 hmj6 hCj6 hjj6 hkj6 => ?_)
  refine QM.block_ret ?_
  refine QM.closeX hL hCj6 hjj6 hkj6 (kk_top _) ?_
  refine QM.leaveDJ (ds := (D0 :: [])) (.inl rfl) [] Try.results81 rfl hn0 (hd_cons hD0 hd_nil) (gl_x hL (Nat.le_refl _) (gl_top _)) ?_
  intro w' hm' hg'
  exact .inr hg'.1
 rintro id ⟨⟩ D0 hD0 hx
 first | exact hx.elim | cases hx.1 | cases hx
end Go.Eng
namespace Go.Eng
open Go Go.RowKit
instance : Inhabited Qm := ⟨newQ 0⟩
abbrev hasK (x : Qm) (a : Int) : Prop := ixO x.l a < x.l.length
abbrev qg (qs : List Qm) (i : Nat) : Qm := qs.getD i default
def ofN (qs : List Qm) (a : Int) : Nat := qs.findIdx (fun x => decide (hasK x a))
def ofO (qs : List Qm) (a : Int) : Int := if ofN qs a < qs.length then (ofN qs a : Nat) else -1
def allO (qs : List Qm) : Nat := (qs.map (fun x => x.l.length)).sum
structure CWf (qs : List Qm) : Prop where
  len : 1 ≤ qs.length ∧ qs.length ≤ 4
  wf : ∀ i, i < qs.length → QWf (qg qs i)
  one : ∀ i j a, i < qs.length → j < qs.length → hasK (qg qs i) a → hasK (qg qs j) a → i = j
  all : allO qs ≤ 16
theorem qg_eq {qs : List Qm} {i : Nat} (h : i < qs.length) : qg qs i = qs[i] := by unfold qg; rw [List.getD_eq_getElem?_getD, List.getElem?_eq_getElem h]; rfl
theorem qg_set {qs : List Qm} {i : Nat} (h : i < qs.length) (x : Qm) (j : Nat) : qg (qs.set i x) j = if i = j then x else qg qs j := by
  unfold qg
  rw [List.getD_eq_getElem?_getD, List.getD_eq_getElem?_getD, List.getElem?_set]
  by_cases e : i = j
  · subst e; rw [if_pos rfl, if_pos rfl, if_pos h]; rfl
  · rw [if_neg e, if_neg e]
theorem qg_snoc (qs : List Qm) (x : Qm) (j : Nat) (h : j ≤ qs.length) : qg (qs ++ [x]) j = if j = qs.length then x else qg qs j := by
  unfold qg
  rw [List.getD_eq_getElem?_getD, List.getD_eq_getElem?_getD]
  by_cases e : j = qs.length
  · subst e; rw [if_pos rfl]; simp
  · rw [if_neg e, List.getElem?_append_left (by omega)]
theorem of_hit {qs : List Qm} {a : Int} (h : ofN qs a < qs.length) : hasK (qg qs (ofN qs a)) a := by
  have := List.findIdx_getElem (xs := qs) (p := fun x => decide (hasK x a)) (w := h)
  simp only [decide_eq_true_eq] at this
  rw [qg_eq h]; exact this
theorem of_no {qs : List Qm} {a : Int} (h : ¬ ofN qs a < qs.length) {i : Nat} (hi : i < qs.length) : ¬ hasK (qg qs i) a := fun q => by
  rw [qg_eq hi] at q
  exact h (List.findIdx_lt_length_of_exists ⟨qs[i], List.getElem_mem hi, by simpa using q⟩)
theorem of_at {qs : List Qm} {a : Int} {i : Nat} (hi : i < qs.length) (hk : hasK (qg qs i) a) (hu : ∀ j, j < qs.length → hasK (qg qs j) a → j = i) : ofN qs a = i := by
  have h1 : ofN qs a < qs.length := Classical.byContradiction fun q => of_no q hi hk
  exact hu _ h1 (of_hit h1)
theorem of_none {qs : List Qm} {a : Int} (h : ∀ j, j < qs.length → ¬ hasK (qg qs j) a) : ¬ ofN qs a < qs.length := fun q => h _ q (of_hit q)
theorem CWf.at {qs : List Qm} (h : CWf qs) {a : Int} {i : Nat} (hi : i < qs.length) (hk : hasK (qg qs i) a) : ofN qs a = i := of_at hi hk (fun j hj hkj => h.one j i a hj hi hkj hk)
theorem ofO_hit {qs : List Qm} {a : Int} (h : ofN qs a < qs.length) : ofO qs a = (ofN qs a : Nat) := if_pos h
theorem ofO_no {qs : List Qm} {a : Int} (h : ¬ ofN qs a < qs.length) : ofO qs a = -1 := if_neg h
theorem CWf.pos {qs : List Qm} (h : CWf qs) {a : Int} (ha : ofN qs a < qs.length) : 0 ≤ a := by
  obtain ⟨t, ht, e⟩ := ixO_lt.1 (of_hit ha)
  have := (h.wf _ ha).pos t ht
  omega
/-! ### what a queue has -/
theorem gQ_eq {x : Qm} (h : QWf x) {t : Kv} (ht : t ∈ x.l) : gQ x.l t.id = t := by
  have h1 : ixO x.l t.id < x.l.length := ixO_lt.2 ⟨t, ht, rfl⟩
  obtain ⟨h2, h3⟩ := ixO_hit h1
  exact uniq_id h.nd h3 ht h2
theorem has_get {x : Qm} {a : Int} (h : hasK x a) : gQ x.l a ∈ x.l ∧ (gQ x.l a).id = a := ⟨(ixO_hit h).2, (ixO_hit h).1⟩
theorem has_add {x : Qm} {a w : Int} {v : BitVec 64} {b : Int} : hasK (addQ x a v w) b ↔ hasK x b ∨ b = a := by
  unfold hasK; rw [ixO_lt, ixO_lt]
  show (∃ t ∈ x.l ++ [(⟨_, a, _⟩ : Kv)], t.id = b) ↔ _
  simp only [List.mem_append, List.mem_singleton]
  constructor
  · rintro ⟨t, ht | rfl, e⟩
    · exact .inl ⟨t, ht, e⟩
    · exact .inr e.symm
  · rintro (⟨t, ht, e⟩ | rfl)
    · exact ⟨t, .inl ht, e⟩
    · exact ⟨_, .inr rfl, rfl⟩
theorem get_add {x : Qm} (h : QWf x) {a w : Int} {v : BitVec 64} (ha : addE x a = 0) {b : Int} : (hasK x b → gQ (addQ x a v w).l b = gQ x.l b) ∧ gQ (addQ x a v w).l a = ⟨plcO x v (bringO w 1 4096), a, bringO w 1 4096⟩ := by
  have hwf := add_wf (v := v) (w := w) h ha
  constructor
  · intro hb
    obtain ⟨h1, h2⟩ := has_get hb
    have := gQ_eq hwf (t := gQ x.l b) (List.mem_append_left _ h1)
    rw [h2] at this; exact this
  · exact gQ_eq hwf (t := ⟨plcO x v (bringO w 1 4096), a, bringO w 1 4096⟩) (List.mem_append_right _ (List.mem_singleton.2 rfl))
theorem rem_l (x : Qm) (a : Int) : (remQ x a).l = x.l.eraseIdx (ixO x.l a) := by unfold remQ; split <;> rfl
theorem has_rem {x : Qm} (h : QWf x) {a b : Int} (ha : hasK x a) : hasK (remQ x a) b ↔ hasK x b ∧ b ≠ a := by
  unfold hasK; rw [ixO_lt, ixO_lt, rem_l]
  constructor
  · rintro ⟨t, ht, rfl⟩
    have := (mem_erase_at h.nd ha t).1 ht
    exact ⟨⟨t, this.1, rfl⟩, this.2⟩
  · rintro ⟨⟨t, ht, rfl⟩, hne⟩
    exact ⟨t, (mem_erase_at h.nd ha t).2 ⟨ht, hne⟩, rfl⟩
theorem get_rem {x : Qm} (h : QWf x) {a b : Int} (ha : hasK x a) (hb : hasK x b) (hne : b ≠ a) : gQ (remQ x a).l b = gQ x.l b := by
  obtain ⟨h1, h2⟩ := has_get hb
  have hm : gQ x.l b ∈ (remQ x a).l := by rw [rem_l]; exact (mem_erase_at h.nd ha _).2 ⟨h1, by rw [h2]; exact hne⟩
  have := gQ_eq (rem_wf h ha) hm
  rw [h2] at this; exact this
theorem len_add (x : Qm) (a : Int) (v : BitVec 64) (w : Int) : (addQ x a v w).l.length = x.l.length + 1 := by simp [addQ]
theorem len_rem {x : Qm} {a : Int} (ha : hasK x a) : (remQ x a).l.length + 1 = x.l.length := by
  rw [rem_l, List.length_eraseIdx, if_pos ha]; have := ha; unfold hasK at this; omega
/-! ### how many there are -/
theorem all_set : ∀ {qs : List Qm} {i : Nat} (h : i < qs.length) (x : Qm), allO (qs.set i x) + (qg qs i).l.length = allO qs + x.l.length
  | [], i, h, x => by cases h
  | q :: qs, 0, h, x => by show (x.l.length + allO qs) + q.l.length = (q.l.length + allO qs) + x.l.length; omega
  | q :: qs, i + 1, h, x => by
    have := all_set (qs := qs) (Nat.lt_of_succ_lt_succ h) x
    show (q.l.length + allO (qs.set i x)) + (qg qs i).l.length = (q.l.length + allO qs) + x.l.length
    omega
theorem all_ge : ∀ {qs : List Qm} {i : Nat} (h : i < qs.length), (qg qs i).l.length ≤ allO qs
  | [], i, h => by cases h
  | q :: qs, 0, h => by show q.l.length ≤ q.l.length + allO qs; omega
  | q :: qs, i + 1, h => by
    have := all_ge (qs := qs) (Nat.lt_of_succ_lt_succ h)
    show (qg qs i).l.length ≤ q.l.length + allO qs
    omega
/-! ### what the two maps have -/
def Wh (lw : List (Int × Value)) (qs : List Qm) : Prop := (lw.map (·.1)).Nodup ∧ lw.length = allO qs ∧ ∀ a, aget lw a = if ofN qs a < qs.length then some (.int .i64 (ofN qs a : Nat)) else none
def Wg (lg : List (Int × Value)) (qs : List Qm) : Prop := (lg.map (·.1)).Nodup ∧ ∀ a, ofN qs a < qs.length → ∃ w : Int, aget lg a = some (.int .i64 w) ∧ bringO w 1 4096 = (gQ (qg qs (ofN qs a)).l a).x
theorem aget_none : ∀ {l : List (Int × Value)} {a : Int}, aget l a = none ↔ a ∉ l.map (·.1)
  | [], a => by simp [aget_nil]
  | (b, u) :: l, a => by
    rw [aget_cons]
    by_cases e : a = b
    · subst e; simp
    · rw [if_neg e, aget_none]; simp [e]
theorem aput_lenN : ∀ {l : List (Int × Value)} {a : Int} {v : Value}, (aput l a v).length = if aget l a = none then l.length + 1 else l.length
  | [], a, v => by rw [aput_nil, aget_nil, if_pos rfl]; rfl
  | (b, u) :: l, a, v => by
    rw [aput_cons, aget_cons]
    by_cases e : a = b
    · rw [if_pos e, if_pos e, if_neg (by simp)]; rfl
    · rw [if_neg e, if_neg e, List.length_cons, aput_lenN]; split <;> rfl
theorem adel_lenN : ∀ {l : List (Int × Value)} {a : Int}, aget l a ≠ none → (adel l a).length + 1 = l.length
  | [], a, h => absurd (aget_nil a) h
  | (b, u) :: l, a, h => by
    rw [adel_cons]
    rw [aget_cons] at h
    by_cases e : a = b
    · rw [if_pos e]; rfl
    · rw [if_neg e] at h ⊢; have := adel_lenN h; simp only [List.length_cons]; omega
theorem aget_adel : ∀ {l : List (Int × Value)} {a : Int}, (l.map (·.1)).Nodup → ∀ b, aget (adel l a) b = if b = a then none else aget l b
  | [], a, h, b => by rw [adel_nil, aget_nil]; split <;> rfl
  | (c, u) :: l, a, h, b => by
    simp only [List.map_cons, List.nodup_cons] at h
    rw [adel_cons]
    by_cases e : a = c
    · subst e
      rw [if_pos rfl, aget_cons]
      by_cases e2 : b = a
      · subst e2; rw [if_pos rfl]; exact aget_none.2 h.1
      · rw [if_neg e2, if_neg e2]
    · rw [if_neg e, aget_cons, aget_cons, aget_adel h.2]
      by_cases e2 : b = c
      · subst e2; rw [if_pos rfl, if_pos rfl, if_neg (fun q => e q.symm)]
      · rw [if_neg e2, if_neg e2]
theorem aputK : ∀ {m : List (Int × Value)} {a : Int} {v : Value} {b : Int}, b ∈ (aput m a v).map (·.1) → b = a ∨ b ∈ m.map (·.1)
  | [], a, v, b, h => by rw [aput_nil] at h; simp at h; exact .inl h
  | (c, u) :: m, a, v, b, h => by
    rw [aput_cons] at h
    by_cases e : a = c
    · rw [if_pos e] at h; simp only [List.map_cons, List.mem_cons] at h ⊢; rcases h with h | h; exact .inl h; exact .inr (.inr h)
    · rw [if_neg e] at h
      simp only [List.map_cons, List.mem_cons] at h ⊢
      rcases h with h | h
      · exact .inr (.inl h)
      · rcases aputK h with q | q
        · exact .inl q
        · exact .inr (.inr q)
theorem aputN : ∀ {m : List (Int × Value)} {a : Int} {v : Value}, (m.map (·.1)).Nodup → ((aput m a v).map (·.1)).Nodup
  | [], a, v, _ => by rw [aput_nil]; simp
  | (c, u) :: m, a, v, h => by
    simp only [List.map_cons, List.nodup_cons] at h
    rw [aput_cons]
    by_cases e : a = c
    · rw [if_pos e]; subst e; simp only [List.map_cons, List.nodup_cons]; exact h
    · rw [if_neg e]; simp only [List.map_cons, List.nodup_cons]
      refine ⟨fun q => ?_, aputN h.2⟩
      rcases aputK q with z | z
      · exact e z.symm
      · exact h.1 z
theorem adelK : ∀ {m : List (Int × Value)} {a b : Int}, b ∈ (adel m a).map (·.1) → b ∈ m.map (·.1)
  | [], a, b, h => h
  | (c, u) :: m, a, b, h => by
    rw [adel_cons] at h
    by_cases e : a = c
    · rw [if_pos e] at h; exact List.mem_cons_of_mem _ h
    · rw [if_neg e] at h
      simp only [List.map_cons, List.mem_cons] at h ⊢
      rcases h with h | h
      · exact .inl h
      · exact .inr (adelK h)
theorem adelN : ∀ {m : List (Int × Value)} {a : Int}, (m.map (·.1)).Nodup → ((adel m a).map (·.1)).Nodup
  | [], a, h => h
  | (c, u) :: m, a, h => by
    simp only [List.map_cons, List.nodup_cons] at h
    rw [adel_cons]
    by_cases e : a = c
    · rw [if_pos e]; exact h.2
    · rw [if_neg e]; simp only [List.map_cons, List.nodup_cons]; exact ⟨fun q => h.1 (adelK q), adelN h.2⟩
end Go.Eng
namespace Go.Eng
open Go Go.RowKit
theorem of_cong {qs qs' : List Qm} {b : Int} (hl : qs'.length = qs.length) (h : ∀ j, j < qs.length → (hasK (qg qs' j) b ↔ hasK (qg qs j) b)) : ofN qs' b = ofN qs b := by
  have e : qs'.map (fun x => decide (hasK x b)) = qs.map (fun x => decide (hasK x b)) := by
    apply List.ext_getElem (by simp [hl])
    intro j h1 h2
    rw [List.length_map] at h1 h2
    rw [List.getElem_map, List.getElem_map]
    have := h j h2
    rw [qg_eq h1, qg_eq h2] at this
    exact decide_eq_decide.2 this
  unfold ofN
  have h1 := List.findIdx_map (p := id) (f := fun x => decide (hasK x b)) (xs := qs)
  have h2 := List.findIdx_map (p := id) (f := fun x => decide (hasK x b)) (xs := qs')
  rw [e, h1] at h2
  exact h2.symm
theorem CWf.set {qs : List Qm} (h : CWf qs) {i : Nat} (hi : i < qs.length) {x' : Qm} (hx : QWf x') (hk : ∀ j b, j < qs.length → j ≠ i → hasK x' b → ¬ hasK (qg qs j) b) (hl : allO qs + x'.l.length ≤ 16 + (qg qs i).l.length) : CWf (qs.set i x') := by
  refine ⟨by rw [List.length_set]; exact h.len, fun j hj => ?_, fun j k a hj hk' h1 h2 => ?_, ?_⟩
  · rw [List.length_set] at hj
    rw [qg_set hi]; split
    · exact hx
    · exact h.wf j hj
  · rw [List.length_set] at hj hk'
    rw [qg_set hi] at h1 h2
    by_cases e1 : i = j
    · by_cases e2 : i = k
      · omega
      · rw [if_pos e1] at h1; rw [if_neg e2] at h2
        exact absurd h2 (hk k a hk' (fun q => e2 q.symm) h1)
    · rw [if_neg e1] at h1
      by_cases e2 : i = k
      · rw [if_pos e2] at h2
        exact absurd h1 (hk j a hj (fun q => e1 q.symm) h2)
      · rw [if_neg e2] at h2
        exact h.one j k a hj hk' h1 h2
  · have := all_set hi x'; omega
theorem of_set {qs : List Qm} {i : Nat} (hi : i < qs.length) {x' : Qm} {b : Int} (h : hasK x' b ↔ hasK (qg qs i) b) : ofN (qs.set i x') b = ofN qs b :=
  of_cong (by rw [List.length_set]) (fun j hj => by
    rw [qg_set hi]
    by_cases e : i = j
    · rw [if_pos e, ← e]; exact h
    · rw [if_neg e])
theorem of_set_at {qs : List Qm} {i : Nat} (hi : i < qs.length) {x' : Qm} (hw : CWf (qs.set i x')) {b : Int} (h : hasK x' b) : ofN (qs.set i x') b = i :=
  hw.at (by rw [List.length_set]; exact hi) (by rw [qg_set hi, if_pos rfl]; exact h)
def SameT (x x' : Qm) : Prop := x'.l.length = x.l.length ∧ (∀ b, hasK x' b ↔ hasK x b) ∧ ∀ b, hasK x b → (gQ x'.l b).x = (gQ x.l b).x
theorem SameT.refl (x : Qm) : SameT x x := ⟨rfl, fun b => Iff.rfl, fun b _ => rfl⟩
theorem SameT.of_l {x x' : Qm} (h : x'.l = x.l) : SameT x x' := by unfold SameT hasK; rw [h]; exact ⟨rfl, fun b => Iff.rfl, fun b _ => rfl⟩
theorem cwf_same {qs : List Qm} (h : CWf qs) {i : Nat} (hi : i < qs.length) {x' : Qm} (hx : QWf x') (hs : SameT (qg qs i) x') : CWf (qs.set i x') :=
  h.set hi hx (fun j b hj hji hb q => hji (h.one j i b hj hi q ((hs.2.1 b).1 hb))) (by have := hs.1; have := h.all; omega)
theorem wh_same {qs : List Qm} {i : Nat} (hi : i < qs.length) {x' : Qm} (hs : SameT (qg qs i) x') {lw : List (Int × Value)} (hw : Wh lw qs) : Wh lw (qs.set i x') := by
  refine ⟨hw.1, ?_, fun a => ?_⟩
  · have := all_set hi x'; have := hs.1; have := hw.2.1; omega
  · rw [List.length_set, of_set hi (hs.2.1 a)]; exact hw.2.2 a
theorem wg_same {qs : List Qm} {i : Nat} (hi : i < qs.length) {x' : Qm} (hs : SameT (qg qs i) x') {lg : List (Int × Value)} (hw : Wg lg qs) : Wg lg (qs.set i x') := by
  refine ⟨hw.1, fun a ha => ?_⟩
  rw [List.length_set, of_set hi (hs.2.1 a)] at ha
  obtain ⟨w, h1, h2⟩ := hw.2 a ha
  refine ⟨w, h1, ?_⟩
  rw [of_set hi (hs.2.1 a), qg_set hi]
  by_cases e : i = ofN qs a
  · rw [if_pos e, h2]
    have hh := of_hit ha
    rw [← e] at hh ⊢
    exact (hs.2.2 a hh).symm
  · rw [if_neg e]; exact h2
/-! ### one more -/
def cAddE (qs : List Qm) (core a : Int) : Int := if core < 0 ∨ (qs.length : Int) ≤ core ∨ a < 0 then 1 else if ofN qs a < qs.length then 12 else if 16 ≤ allO qs then 3 else 0
def cAddV (qs : List Qm) (core a : Int) (v : BitVec 64) (w : Int) : BitVec 64 := if cAddE qs core a = 0 then plcO (qg qs core.toNat) v (bringO w 1 4096) else 0#64
def cAddX (qs : List Qm) (core a : Int) (v : BitVec 64) (w : Int) : List Qm := if cAddE qs core a = 0 then qs.set core.toNat (addQ (qg qs core.toNat) a v w) else qs
theorem cadd_E {qs : List Qm} (h : CWf qs) {i : Nat} (hi : i < qs.length) {a : Int} (ha : 0 ≤ a) (hn : ¬ ofN qs a < qs.length) (hf : allO qs < 16) : addE (qg qs i) a = 0 :=
  addE_ok (by omega) (of_no hn hi) (by have := all_ge hi; omega)
theorem cadd_wf {qs : List Qm} (h : CWf qs) {i : Nat} (hi : i < qs.length) {a : Int} (ha : 0 ≤ a) (hn : ¬ ofN qs a < qs.length) (hf : allO qs < 16) (v : BitVec 64) (w : Int) : CWf (qs.set i (addQ (qg qs i) a v w)) :=
  h.set hi (add_wf (h.wf i hi) (cadd_E h hi ha hn hf)) (fun j b hj hji hb q => by
    rcases has_add.1 hb with z | rfl
    · exact hji (h.one j i b hj hi q z)
    · exact of_no hn hj q) (by rw [len_add]; omega)
theorem cadd_wh {qs : List Qm} (h : CWf qs) {i : Nat} (hi : i < qs.length) {a : Int} (ha : 0 ≤ a) (hn : ¬ ofN qs a < qs.length) (hf : allO qs < 16) (v : BitVec 64) (w : Int) {lw : List (Int × Value)} (hw : Wh lw qs) :
    Wh (aput lw a (.int .i64 (i : Nat))) (qs.set i (addQ (qg qs i) a v w)) := by
  have hwf := cadd_wf h hi ha hn hf v w
  have hno : aget lw a = none := by rw [hw.2.2 a, if_neg hn]
  refine ⟨aputN hw.1, ?_, fun b => ?_⟩
  · rw [aput_lenN, if_pos hno, hw.2.1]
    have := all_set hi (addQ (qg qs i) a v w); rw [len_add] at this; omega
  · rw [aget_aput, List.length_set]
    by_cases e : b = a
    · subst e
      rw [if_pos rfl, of_set_at hi hwf (has_add.2 (.inr rfl)), if_pos hi]
    · rw [if_neg e, of_set hi (by rw [has_add]; exact ⟨fun q => q.resolve_right e, .inl⟩)]
      exact hw.2.2 b
theorem cadd_wg {qs : List Qm} (h : CWf qs) {i : Nat} (hi : i < qs.length) {a : Int} (ha : 0 ≤ a) (hn : ¬ ofN qs a < qs.length) (hf : allO qs < 16) (v : BitVec 64) (w : Int) {lg : List (Int × Value)} (hw : Wg lg qs) :
    Wg (aput lg a (.int .i64 w)) (qs.set i (addQ (qg qs i) a v w)) := by
  have hwf := cadd_wf h hi ha hn hf v w
  have hE := cadd_E h hi ha hn hf
  have hg := fun b => get_add (v := v) (w := w) (h.wf i hi) hE (b := b)
  refine ⟨aputN hw.1, fun b hb => ?_⟩
  rw [List.length_set] at hb
  rw [aget_aput]
  by_cases e : b = a
  · subst e
    rw [if_pos rfl, of_set_at hi hwf (has_add.2 (.inr rfl)), qg_set hi, if_pos rfl, (hg b).2]
    exact ⟨w, rfl, rfl⟩
  · have hs : hasK (addQ (qg qs i) a v w) b ↔ hasK (qg qs i) b := by rw [has_add]; exact ⟨fun q => q.resolve_right e, .inl⟩
    rw [of_set hi hs] at hb ⊢
    obtain ⟨u, h1, h2⟩ := hw.2 b hb
    rw [if_neg e]
    refine ⟨u, h1, ?_⟩
    rw [h2, qg_set hi]
    by_cases e2 : i = ofN qs b
    · rw [if_pos e2, ← e2]
      have hh := of_hit hb; rw [← e2] at hh
      rw [(hg b).1 hh]
    · rw [if_neg e2]
/-! ### one less -/
def cRemX (qs : List Qm) (a : Int) : List Qm := if ofN qs a < qs.length then qs.set (ofN qs a) (remQ (qg qs (ofN qs a)) a) else qs
def cRemV (qs : List Qm) (a : Int) : BitVec 64 := if ofN qs a < qs.length then (gQ (qg qs (ofN qs a)).l a).V else 0#64
theorem crem_wf {qs : List Qm} (h : CWf qs) {a : Int} (ha : ofN qs a < qs.length) : CWf (qs.set (ofN qs a) (remQ (qg qs (ofN qs a)) a)) := by
  have hh := of_hit ha
  refine h.set ha (rem_wf (h.wf _ ha) hh) (fun j b hj hji hb q => hji (h.one j _ b hj ha q ((has_rem (h.wf _ ha) hh).1 hb).1)) ?_
  have := len_rem hh; have := h.all; omega
theorem crem_no {qs : List Qm} (h : CWf qs) {a : Int} (ha : ofN qs a < qs.length) : ¬ ofN (qs.set (ofN qs a) (remQ (qg qs (ofN qs a)) a)) a < (qs.set (ofN qs a) (remQ (qg qs (ofN qs a)) a)).length := of_none (fun j hj q => by
  rw [List.length_set] at hj
  rw [qg_set ha] at q
  by_cases e : ofN qs a = j
  · rw [if_pos e] at q; exact ((has_rem (h.wf _ ha) (of_hit ha)).1 q).2 rfl
  · rw [if_neg e] at q; exact e (h.at hj q))
theorem crem_all {qs : List Qm} {a : Int} (ha : ofN qs a < qs.length) : allO (qs.set (ofN qs a) (remQ (qg qs (ofN qs a)) a)) + 1 = allO qs := by
  have h1 := all_set ha (remQ (qg qs (ofN qs a)) a)
  have h2 := len_rem (of_hit ha)
  omega
theorem crem_wh {qs : List Qm} (h : CWf qs) {a : Int} (ha : ofN qs a < qs.length) {lw : List (Int × Value)} (hw : Wh lw qs) : Wh (adel lw a) (qs.set (ofN qs a) (remQ (qg qs (ofN qs a)) a)) := by
  have hh := of_hit ha
  have hsome : aget lw a ≠ none := by rw [hw.2.2 a, if_pos ha]; exact fun q => by cases q
  refine ⟨adelN hw.1, ?_, fun b => ?_⟩
  · have h1 := adel_lenN hsome
    have h2 := crem_all ha
    have h3 := hw.2.1
    omega
  · rw [aget_adel hw.1]
    by_cases e : b = a
    · subst e; rw [if_pos rfl, if_neg (crem_no h ha)]
    · rw [if_neg e, List.length_set, of_set ha (by rw [has_rem (h.wf _ ha) hh]; exact ⟨fun q => q.1, fun q => ⟨q, e⟩⟩)]
      exact hw.2.2 b
theorem crem_wg {qs : List Qm} (h : CWf qs) {a : Int} (ha : ofN qs a < qs.length) {lg : List (Int × Value)} (hw : Wg lg qs) : Wg (adel lg a) (qs.set (ofN qs a) (remQ (qg qs (ofN qs a)) a)) := by
  have hh := of_hit ha
  refine ⟨adelN hw.1, fun b hb => ?_⟩
  rw [aget_adel hw.1]
  by_cases e : b = a
  · subst e; exact absurd hb (crem_no h ha)
  · have hs : hasK (remQ (qg qs (ofN qs a)) a) b ↔ hasK (qg qs (ofN qs a)) b := by rw [has_rem (h.wf _ ha) hh]; exact ⟨fun q => q.1, fun q => ⟨q, e⟩⟩
    rw [List.length_set] at hb
    rw [of_set ha hs] at hb ⊢
    obtain ⟨u, h1, h2⟩ := hw.2 b hb
    rw [if_neg e]
    refine ⟨u, h1, ?_⟩
    rw [h2, qg_set ha]
    by_cases e2 : ofN qs a = ofN qs b
    · rw [if_pos e2]
      have hh2 := of_hit hb
      rw [← e2] at hh2 ⊢
      rw [get_rem (h.wf _ ha) hh hh2 e]
    · rw [if_neg e2]
/-! ### another weight -/
def cWghX (qs : List Qm) (a w : Int) : List Qm := if ofN qs a < qs.length then qs.set (ofN qs a) (weighX (qg qs (ofN qs a)) a w) else qs
/-! ### to another core -/
def subO (a b : BitVec 64) : BitVec 64 := if a.toNat < b.toNat then 0#64 else a - b
def carX1 (qs : List Qm) (a : Int) : List Qm := qs.set (ofN qs a) (remQ (qg qs (ofN qs a)) a)
def carV (qs : List Qm) (a : Int) (to : Nat) : BitVec 64 := addO (qg qs to).fl (subO (gQ (qg qs (ofN qs a)).l a).V (qg qs (ofN qs a)).fl)
def carX (qs : List Qm) (a : Int) (to : Nat) : List Qm := (carX1 qs a).set to (addQ (qg qs to) a (carV qs a to) (gQ (qg qs (ofN qs a)).l a).x)
theorem addQ_cong (x : Qm) (a : Int) (v : BitVec 64) {w w' : Int} (h : bringO w 1 4096 = bringO w' 1 4096) : addQ x a v w = addQ x a v w' := by unfold addQ; rw [h]
theorem bring_id {w : Int} (h : 1 ≤ w ∧ w ≤ 4096) : bringO w 1 4096 = w := by unfold bringO; rw [if_neg (by omega), if_neg (by omega)]
theorem car1_at {qs : List Qm} (_ : CWf qs) {a : Int} (ha : ofN qs a < qs.length) {to : Nat} (_ : to < qs.length) (hne : to ≠ ofN qs a) : qg (carX1 qs a) to = qg qs to := by unfold carX1; rw [qg_set ha, if_neg (fun q => hne q.symm)]
theorem car1_wf {qs : List Qm} (h : CWf qs) {a : Int} (ha : ofN qs a < qs.length) {to : Nat} (ht : to < qs.length) (_ : to ≠ ofN qs a) : CWf (carX1 qs a) ∧ to < (carX1 qs a).length ∧ 0 ≤ a ∧ ¬ ofN (carX1 qs a) a < (carX1 qs a).length ∧ allO (carX1 qs a) < 16 :=
  ⟨crem_wf h ha, by unfold carX1; rw [List.length_set]; exact ht, h.pos ha, crem_no h ha, by have h1 := crem_all ha; have h2 := h.all; unfold carX1; omega⟩
section
variable {qs : List Qm} (h : CWf qs) {a : Int} (ha : ofN qs a < qs.length) {to : Nat} (ht : to < qs.length) (hne : to ≠ ofN qs a)
include h ha ht hne
theorem car_eq : carX qs a to = (carX1 qs a).set to (addQ (qg (carX1 qs a) to) a (carV qs a to) (gQ (qg qs (ofN qs a)).l a).x) := by rw [car1_at h ha ht hne]; rfl
theorem car_wf : CWf (carX qs a to) := by
  obtain ⟨h1, h2, h3, h4, h5⟩ := car1_wf h ha ht hne
  rw [car_eq h ha ht hne]; exact cadd_wf h1 h2 h3 h4 h5 _ _
theorem car_E : addE (qg qs to) a = 0 := by
  obtain ⟨h1, h2, h3, h4, h5⟩ := car1_wf h ha ht hne
  rw [← car1_at h ha ht hne]; exact cadd_E h1 h2 h3 h4 h5
theorem car_wh {lw : List (Int × Value)} (hw : Wh lw qs) : Wh (aput lw a (.int .i64 (to : Nat))) (carX qs a to) := by
  obtain ⟨h1, h2, h3, h4, h5⟩ := car1_wf h ha ht hne
  have k := cadd_wh h1 h2 h3 h4 h5 (carV qs a to) (gQ (qg qs (ofN qs a)).l a).x (crem_wh h ha hw)
  rw [car_eq h ha ht hne]
  have hsome : aget lw a ≠ none := by rw [hw.2.2 a, if_pos ha]; exact fun q => by cases q
  refine ⟨aputN hw.1, ?_, fun b => ?_⟩
  · rw [← k.2.1, aput_lenN, aput_lenN, if_neg hsome, if_pos (by rw [aget_adel hw.1, if_pos rfl])]
    exact (adel_lenN hsome).symm
  · rw [← k.2.2 b, aget_aput, aget_aput, aget_adel hw.1]
    by_cases e : b = a
    · rw [if_pos e, if_pos e]
    · rw [if_neg e, if_neg e, if_neg e]
theorem car_wg {lg : List (Int × Value)} (hw : Wg lg qs) : Wg lg (carX qs a to) := by
  obtain ⟨h1, h2, h3, h4, h5⟩ := car1_wf h ha ht hne
  obtain ⟨u, hu1, hu2⟩ := hw.2 a ha
  have hx := (h.wf _ ha).wt _ (has_get (of_hit ha)).1
  have k := cadd_wg h1 h2 h3 h4 h5 (carV qs a to) u (crem_wg h ha hw)
  rw [addQ_cong _ a _ (w' := (gQ (qg qs (ofN qs a)).l a).x) (by rw [hu2, bring_id hx]), ← car_eq h ha ht hne] at k
  refine ⟨hw.1, fun b hb => ?_⟩
  obtain ⟨y, hy1, hy2⟩ := k.2 b hb
  refine ⟨y, ?_, hy2⟩
  rw [aget_aput, aget_adel hw.1] at hy1
  by_cases e : b = a
  · rw [if_pos e] at hy1; rw [e, hu1]; exact hy1
  · rw [if_neg e, if_neg e] at hy1; exact hy1
end
/-! ### the heaviest and the lightest -/
abbrev ldN (qs : List Qm) (i : Nat) : Int := loadO (qg qs i).l
def mostN (qs : List Qm) : Nat → Nat
  | 0 => 0
  | i + 1 => if ldN qs (mostN qs i) < ldN qs i then i else mostN qs i
def leastN (qs : List Qm) : Nat → Nat
  | 0 => 0
  | i + 1 => if ldN qs i < ldN qs (leastN qs i) then i else leastN qs i
theorem most_lt {qs : List Qm} (h : 1 ≤ qs.length) : ∀ i, i ≤ qs.length → mostN qs i < qs.length
  | 0, _ => h
  | i + 1, hi => by have := most_lt h i (by omega); unfold mostN; split <;> omega
theorem least_lt {qs : List Qm} (h : 1 ≤ qs.length) : ∀ i, i ≤ qs.length → leastN qs i < qs.length
  | 0, _ => h
  | i + 1, hi => by have := least_lt h i (by omega); unfold leastN; split <;> omega
abbrev mo (qs : List Qm) : Nat := mostN qs qs.length
abbrev le (qs : List Qm) : Nat := leastN qs qs.length
def difO (qs : List Qm) : Int := ldN qs (mo qs) - ldN qs (le qs)
def balF (qs : List Qm) : Option Kv := (rdyO (qg qs (mo qs))).find? (fun t => decide (t.x < difO qs))
def balX (qs : List Qm) : List Qm := match balF qs with | none => qs | some t => carX qs t.id (le qs)
def balI (qs : List Qm) : Int := match balF qs with | none => -1 | some t => t.id
def balA (qs : List Qm) : Int := match balF qs with | none => -1 | some _ => (mo qs : Nat)
def balB (qs : List Qm) : Int := match balF qs with | none => -1 | some _ => (le qs : Nat)
theorem findK_at {L : List Kv} {p : Kv → Bool} : ∀ {k : Nat}, (∀ j, j < k → p (L.getD j default) = false) → k < L.length → p (L.getD k default) = true → L.find? p = some (L.getD k default) := by
  induction L with
  | nil => intro k _ h; cases h
  | cons x L ih =>
    intro k h1 h2 h3
    cases k with
    | zero => simp only [List.getD_cons_zero] at h3 ⊢; rw [List.find?_cons, h3]
    | succ k =>
      have h0 := h1 0 (by omega)
      simp only [List.getD_cons_zero] at h0
      simp only [List.getD_cons_succ] at h3 ⊢
      rw [List.find?_cons, h0]
      exact ih (fun j hj => by have := h1 (j + 1) (by omega); rwa [List.getD_cons_succ] at this) (by simpa using h2) h3
theorem findK_no {L : List Kv} {p : Kv → Bool} (h : ∀ j, j < L.length → p (L.getD j default) = false) : L.find? p = none := by
  rw [List.find?_eq_none]
  intro x hx
  obtain ⟨j, hj, rfl⟩ := List.getElem_of_mem hx
  have := h j hj
  rw [List.getD_eq_getElem?_getD, List.getElem?_eq_getElem hj] at this
  simpa using this
theorem bal_some {qs : List Qm} (h : CWf qs) {t : Kv} (hb : balF qs = some t) : t ∈ (qg qs (mo qs)).l ∧ t.id ≠ (qg qs (mo qs)).cur ∧ t.x < difO qs ∧ ofN qs t.id = mo qs ∧ mo qs < qs.length ∧ le qs < qs.length ∧ le qs ≠ ofN qs t.id := by
  have hm := most_lt h.len.1 qs.length (Nat.le_refl _)
  have hl := least_lt h.len.1 qs.length (Nat.le_refl _)
  have h1 := List.mem_of_find?_eq_some hb
  have h2 := List.find?_some hb
  simp only [decide_eq_true_eq] at h2
  obtain ⟨h3, h4⟩ := (rdy_mem (h.wf _ hm).nd t).1 h1
  have h5 : ofN qs t.id = mo qs := h.at hm (ixO_lt.2 ⟨t, h3, rfl⟩)
  refine ⟨h3, h4, h2, h5, hm, hl, fun e => ?_⟩
  rw [h5] at e
  have h6 := ((h.wf _ hm).wt t h3).1
  unfold difO at h2
  rw [e] at h2
  omega
theorem most_succ (qs : List Qm) (i : Nat) : mostN qs (i + 1) = if ldN qs (mostN qs i) < ldN qs i then i else mostN qs i := rfl
theorem least_succ (qs : List Qm) (i : Nat) : leastN qs (i + 1) = if ldN qs i < ldN qs (leastN qs i) then i else leastN qs i := rfl
theorem most_zero (qs : List Qm) : mostN qs 0 = 0 := rfl
theorem least_zero (qs : List Qm) : leastN qs 0 = 0 := rfl
attribute [irreducible] mostN leastN
end Go.Eng
namespace Go.Eng
open Go Go.RowKit
theorem fl_perm : ∀ (M : List Mem0) (i : Nat), i < M.length → M.flatten.Perm (M.getD i [] ++ (M.eraseIdx i).flatten)
  | [], i, h => by cases h
  | m :: M, 0, h => by simp
  | m :: M, i + 1, h => by
    have ih := fl_perm M i (Nat.lt_of_succ_lt_succ h)
    simp only [List.flatten_cons, List.getD_cons_succ, List.eraseIdx_cons_succ]
    refine (ih.append_left m).trans ?_
    rw [← List.append_assoc, ← List.append_assoc]
    exact List.perm_append_comm.append_right _
theorem fl_permS {M : List Mem0} {i : Nat} (h : i < M.length) (m' : Mem0) : (M.set i m').flatten.Perm (m' ++ (M.eraseIdx i).flatten) := by
  have h1 := fl_perm (M.set i m') i (by rw [List.length_set]; exact h)
  rw [List.getD_eq_getElem?_getD, List.getElem?_set, if_pos rfl, if_pos h, Option.getD_some] at h1
  have h2 : (M.set i m').eraseIdx i = M.eraseIdx i := by
    apply List.ext_getElem?
    intro j
    rw [List.getElem?_eraseIdx, List.getElem?_eraseIdx]
    split
    · rw [List.getElem?_set_ne (by omega)]
    · rw [List.getElem?_set_ne (by omega)]
  rw [h2] at h1; exact h1
theorem fl_mem {M : List Mem0} {i : Nat} (h : i < M.length) {p : Nat × Obj} (hp : p ∈ M.getD i []) : p ∈ M.flatten :=
  (fl_perm M i h).mem_iff.2 (List.mem_append_left _ hp)
theorem fl_get {M : List Mem0} {i : Nat} (h : i < M.length) {w : World} (hm : Mem w M.flatten) : Mem w (M.getD i []) :=
  (hm.perm (fl_perm M i h)).sub (List.sublist_append_left ..)
structure QKd (R : Nat → Nat → Qm → Mem0 → Prop) : Prop where
  ge : ∀ {n0 b x m}, R n0 b x m → ∀ p ∈ m, n0 ≤ p.1
  wlk : ∀ {n0 b x m}, R n0 b x m → ∀ p ∈ m, wlk p.2 = false
  mono : ∀ {n0 n1 b x m}, R n0 b x m → n1 ≤ n0 → R n1 b x m
theorem rqK : QKd RqM := ⟨RqM.ge, RqM.wlk, RqM.mono⟩
def QqM (R : Nat → Nat → Qm → Mem0 → Prop) (n0 : Nat) (bs : List Nat) (qs : List Qm) (mm : Mem0) : Prop :=
  ∃ M : List Mem0, mm = M.flatten ∧ bs.length = qs.length ∧ M.length = qs.length ∧ ∀ i, i < qs.length → R n0 (bs.getD i default) (qg qs i) (M.getD i [])
section
variable {R : Nat → Nat → Qm → Mem0 → Prop} (hR : QKd R) {n0 : Nat} {bs : List Nat} {qs : List Qm} {mm : Mem0}
theorem QqM.nil : QqM R n0 [] [] [] := ⟨[], rfl, rfl, rfl, fun i h => by cases h⟩
theorem QqM.len (h : QqM R n0 bs qs mm) : bs.length = qs.length := by obtain ⟨M, _, h, _⟩ := h; exact h
include hR in
theorem QqM.ge (h : QqM R n0 bs qs mm) : ∀ p ∈ mm, n0 ≤ p.1 := by
  obtain ⟨M, rfl, h1, h2, h3⟩ := h
  intro p hp
  obtain ⟨m, hm, hpm⟩ := List.mem_flatten.1 hp
  obtain ⟨i, hi, rfl⟩ := List.getElem_of_mem hm
  refine hR.ge (h3 i (by omega)) p ?_
  rw [List.getD_eq_getElem?_getD, List.getElem?_eq_getElem hi]; exact hpm
include hR in
theorem QqM.wlk (h : QqM R n0 bs qs mm) : ∀ p ∈ mm, wlk p.2 = false := by
  obtain ⟨M, rfl, h1, h2, h3⟩ := h
  intro p hp
  obtain ⟨m, hm, hpm⟩ := List.mem_flatten.1 hp
  obtain ⟨i, hi, rfl⟩ := List.getElem_of_mem hm
  refine hR.wlk (h3 i (by omega)) p ?_
  rw [List.getD_eq_getElem?_getD, List.getElem?_eq_getElem hi]; exact hpm
include hR in
theorem QqM.mono (h : QqM R n0 bs qs mm) {n1 : Nat} (hn : n1 ≤ n0) : QqM R n1 bs qs mm := by
  obtain ⟨M, rfl, h1, h2, h3⟩ := h
  exact ⟨M, rfl, h1, h2, fun i hi => hR.mono (h3 i hi) hn⟩
theorem QqM.snoc (h : QqM R n0 bs qs mm) {b : Nat} {x : Qm} {m : Mem0} (hx : R n0 b x m) : QqM R n0 (bs ++ [b]) (qs ++ [x]) (mm ++ m) := by
  obtain ⟨M, rfl, h1, h2, h3⟩ := h
  refine ⟨M ++ [m], by simp, by simp [h1], by simp [h2], fun i hi => ?_⟩
  rw [List.length_append, List.length_singleton] at hi
  rw [qg_snoc qs x i (by omega)]
  rw [List.getD_eq_getElem?_getD, List.getD_eq_getElem?_getD]
  by_cases e : i = qs.length
  · rw [if_pos e, List.getElem?_append_right (by omega), List.getElem?_append_right (by omega), h1, h2, e]; simpa using hx
  · rw [if_neg e, List.getElem?_append_left (by omega), List.getElem?_append_left (by omega)]
    have := h3 i (by omega)
    rw [List.getD_eq_getElem?_getD, List.getD_eq_getElem?_getD] at this; exact this
theorem QqM.read {P : Program} {f : FuncId} {args : Array Value} {w : World} {Q : Value → World → Prop} {i : Nat} (h : QqM R n0 bs qs mm) (hi : i < qs.length) (hm : Mem w mm)
    (hs : ∀ m, R n0 (bs.getD i default) (qg qs i) m → Mem w m → Ret P f args w Q) : Ret P f args w Q := by
  obtain ⟨M, rfl, h1, h2, h3⟩ := h
  exact hs _ (h3 i hi) (fl_get (by omega) hm)
include hR in
theorem QqM.upd {P : Program} {f : FuncId} {args : Array Value} {w : World} {u0 : Value} {x' : Qm} {i : Nat} (h : QqM R n0 bs qs mm) (hi : i < qs.length) (hm : Mem w mm)
    (hs : ∀ m, R n0 (bs.getD i default) (qg qs i) m → Mem w m → Ret P f args w (Upd m (fun u m' => u = u0 ∧ R n0 (bs.getD i default) x' m') w)) :
    Ret P f args w (Upd mm (fun u m' => u = u0 ∧ QqM R n0 bs (qs.set i x') m') w) := by
  obtain ⟨M, rfl, h1, h2, h3⟩ := h
  have hiM : i < M.length := by omega
  refine (hs _ (h3 i hi) (fl_get hiM hm)).mono (fun u w' hU => ?_)
  have hin := fun p hp => fl_mem (M := M) (i := i) hiM (p := p) hp
  obtain ⟨m', ⟨hu, hr⟩, hnew, hM, hC, _⟩ := upd_step (G := top) (S := fun b => ∃ q ∈ M.flatten, q.1 = b) (w0 := w) (hm.perm (fl_perm M i hiM)) (hR.wlk (h3 i hi)) (fun p hp _ => ⟨p, hin p hp, rfl⟩) (Chg.refl _ _) trivial hU
  refine ⟨hC, (M.set i m').flatten, ⟨hu, M.set i m', rfl, by rw [List.length_set]; exact h1, by rw [List.length_set, List.length_set]; exact h2, fun j hj => ?_⟩, hM.perm (fl_permS hiM m').symm, fun p hp => ?_⟩
  · rw [List.length_set] at hj
    rw [qg_set hi, List.getD_eq_getElem?_getD (l := M.set i m'), List.getElem?_set]
    by_cases e : i = j
    · subst e; rw [if_pos rfl, if_pos rfl, if_pos hiM]; exact hr
    · rw [if_neg e, if_neg e]
      have := h3 j hj
      rw [List.getD_eq_getElem?_getD (l := M)] at this; exact this
  · rcases List.mem_append.1 ((fl_permS hiM m').mem_iff.1 hp) with q | q
    · rcases hnew p q with z | ⟨q', hq', e⟩
      · exact .inl z
      · exact .inr ⟨q', hin q' hq', e⟩
    · exact .inr ⟨p, (fl_perm M i hiM).mem_iff.2 (List.mem_append_right _ q), rfl⟩
end
end Go.Eng
