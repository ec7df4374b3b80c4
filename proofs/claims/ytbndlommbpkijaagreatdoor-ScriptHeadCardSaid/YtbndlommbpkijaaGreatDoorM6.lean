/- The law of a script's head. No condition. -/
import Derived.Test.YtbndlommbpkijaaGreatDoorM5
set_option linter.unusedVariables false
set_option linter.unusedSimpArgs false
namespace Go.Eng
open Go Go.Proofs Go.RowKit
def hdN (k : Int) (m : Nat) : Int := if (m : Int) < (if 0 > k then 0 else k) then (m : Int) else (if 0 > k then 0 else k)
theorem hdN_le (k : Int) (m : Nat) : 0 ≤ hdN k m ∧ hdN k m ≤ (m : Int) := by
  unfold hdN; split <;> split <;> omega
theorem hd_top {k : Int} {m : Nat} (h : (m : Int) ≤ k) : hdN k m = m := by
  unfold hdN; split <;> split <;> omega
theorem hd_all {x : ScV} {k : Int} (hn : x.n = x.xs.length) (h : (x.n : Int) ≤ k) : x.xs.take (hdN k x.n).toNat = x.xs := by
  rw [hd_top h, Int.toNat_natCast, hn, List.take_length]
theorem hd_eq {x : ScV} (hn : x.n = x.xs.length) (k : Int) (ad : Option Addr) (n cap : Nat) : ScV.same ⟨x.sv, x.xs.take (hdN k x.n).toNat, ad, n, cap⟩ x = decide (hdN k x.n = (x.n : Int)) := by
  unfold ScV.same
  simp only [decide_true, Bool.true_and]
  congr 1
  rw [eq_iff_iff]
  have h := hdN_le k x.n
  constructor
  · intro q
    have := congrArg List.length q
    rw [List.length_take] at this; omega
  · intro q
    rw [q, Int.toNat_natCast, hn, List.take_length]
theorem big60 {n : Nat} (h : n ≤ 60) : (n : Int) ≤ 1152921504606846976 := Int.le_trans (Int.ofNat_le.2 h) (by decide)
def HdT (x : ScV) (k : Int) (n0 : Nat) (v : Value) (m : Mem0) : Prop := ∃ ad n cap, v = ScV.val ⟨x.sv, x.xs.take (hdN k x.n).toNat, ad, n, cap⟩ ∧ n = (x.xs.take (hdN k x.n).toNat).length ∧ Sl fA 123 5 n0 (x.xs.take (hdN k x.n).toNat) (.slice ad n cap) m
theorem HdT.mono {x : ScV} {k : Int} : ∀ (n n' : Nat) u m, n' ≤ n → HdT x k n u m → HdT x k n' u m := fun n n' u m h ⟨ad, q, cap, h1, h2, h3⟩ => ⟨ad, q, cap, h1, h2, h3.mono h⟩
set_option maxRecDepth 100000 in
theorem cloneA_spec {xs : List Act} {ad : Option Addr} {n cap : Nat} (w : World) (hn : n = xs.length) (hl : Sr fA 5 xs (.slice ad n cap) w) (hx : xs.length ≤ 1000000) : Ret Tryz.prog 76 #[.slice ad n cap] w (New fA 123 5 xs w) := by
 refine Ret.enterM (l := [.slice ad n cap]) Tryz.func76 rfl Tryz.ntmps76 rfl ([]) (no) (Mem.nil w) ?_
 refine wpM.seq (wpM.region ?_)
 refine LM.as rfl ?_
 refine LM.nil (QM.sub (e' := [(0, _)]) ⟨rfl, trivial⟩ (QM.then ?_))
 refine wpM.seq ?_
 refine wpM.seq (wpM.region ?_)
 refine LM.mv rfl ?_
 refine LM.val (ov_slnil Tryz.underlying47 rfl rfl) ?_
 refine LM.nil (QM.sub (e' := [(0, _), (4, _)]) ⟨rfl, rfl, trivial⟩ (QM.then ?_))
 first | refine wpM.condD rfl (fun h1 => ?_) (fun h1 => ?_) | refine wpM.condB rfl (fun h1 => ?_) (fun h1 => ?_)
 ·
  refine wpM.seq (wpM.region ?_)
  refine LM.as rfl ?_
  refine LM.nil (QM.sub (e' := [(2, _)]) ⟨rfl, trivial⟩ (QM.then ?_))
  refine wpM.ret ?_
  refine QM.then_ret ?_
  refine QM.leave (.inl rfl) [.tmp 2] Tryz.results76 rfl ?_
  intro w' hm' hc' hg'
  have hx0 : xs = [] := (by rcases Nat.eq_zero_or_pos xs.length with q | q; exact List.eq_nil_of_length_eq_zero q; exfalso; obtain ⟨b, off, cs, E, fz, hq, _⟩ := hl.open.2.2 q; rw [hq] at h1; cases h1); subst hx0; exact ⟨hc', [], .nil _ _ _ _, Mem.nil _⟩
 refine wpM.skip ?_
 refine QM.then (wpM.seq (wpM.region ?_))
 refine LM.row0 Tryz.underlying47 Tryz.sizeOf123 rfl (fun b5 hb5 => ?_); have hs5 : Sl fA 123 5 w.heap.size ([] : List Act) (.slice (some ⟨b5, 0, none⟩) 0 0) [(b5, .cells (([] : List Value).toArray) 123 (0, 0))] := .void hb5 (Nat.zero_le _) rfl
 refine LM.mv rfl ?_
 refine LM.appN (ys := xs) (m := [(b5, .cells (([] : List Value).toArray) 123 (0, 0))]) Tryz.underlying47 Tryz.typeInfo123 rfl rfl rfl rfl rfl rfl rfl hs5 (fun w hm hc hg => hl.ext hc) (by intro _; rfl) (by intro _ u hu; simp [fA] at hu; (repeat (first | (rcases hu with rfl | hu) | subst hu | rfl))) (Nat.le_refl _) (fun p hp hlt => absurd hlt (Nat.not_lt_of_le (Sl.ge hs5 p hp))) (by unfold maxLen; simp only [List.length_nil]; omega) (by simp only [Tryz.t123, List.length_nil]; omega) (fun ad7 n7 cap7 m7 hn7 hs7 hin7 => ?_)
 refine LM.as rfl ?_
 refine LM.nil (QM.sub (e' := [(2, _)]) ⟨rfl, trivial⟩ (QM.then ?_))
 refine wpM.ret ?_
 refine QM.leave (.inl rfl) [.tmp 2] Tryz.results76 rfl ?_
 intro w' hm' hc' hg'
 exact ⟨hc', m7, hs7, hm'.pick _⟩
set_option maxRecDepth 100000 in
theorem head_spec {x : ScV} (k : Int) (w : World) (hX : x.In w) (hx : x.xs.length ≤ 1000000) : Ret Tryz.prog 31 #[x.val, .int .i64 k] w (fun v w' => Ext w w' ∧ ∃ m, HdT x k w.heap.size v m ∧ Mem w' m ∧ ∀ p ∈ m, w.heap.size ≤ p.1) := by
 refine Ret.enterM (l := [x.val, .int .i64 k]) Tryz.func31 rfl Tryz.ntmps31 rfl ([]) (no) (Mem.nil w) ?_
 refine wpM.seq (wpM.region ?_)
 refine LM.box rfl rfl (fun b2 hb2 => ?_)
 refine LM.alloc Tryz.zeroValue49 rfl (fun b4 hb4 => ?_)
 refine LM.nil (QM.sub (e' := [(1, _), (2, _), (4, _)]) ⟨rfl, rfl, rfl, trivial⟩ (QM.then ?_))
 refine wpM.seq ?_
 refine wpM.draw [(0, 0), (1, 1), (2, 0), (3, 1), (4, 0), (5, 0), (6, 0), (7, 1), (8, 0), (9, 0), (10, 0), (11, 2), (12, 0), (13, 3)] (by kernel_rfl) (by kernel_rfl) ?_
 refine LD.val rfl rfl (ov_field Tryz.underlying49 rfl Tryz.sizeOf30 rfl (k := 0) rfl rfl) ?_
 first | refine LD.rd rfl rfl (om_ldW Tryz.isAgg30 Tryz.sizeOf30 rfl rfl) ?_ | refine LD.rd rfl rfl (om_ldA Tryz.isAgg30 Tryz.sizeOf30 rfl (vs := [_, _, _, _, _]) rfl ⟨rfl, rfl, rfl, rfl, rfl, trivial⟩) ?_
 refine LD.val rfl rfl (ov_field Tryz.underlying49 rfl Tryz.sizeOf47 rfl (k := 5) rfl rfl) ?_
 refine LD.rd rfl rfl (om_ld Tryz.isAgg47 rfl rfl) ?_
 refine LD.val rfl rfl (ov_move rfl) ?_
 refine LD.val rfl rfl (ov_max rfl rfl) ?_
 refine LD.val rfl rfl (ov_field Tryz.underlying49 rfl Tryz.sizeOf47 rfl (k := 5) rfl rfl) ?_
 refine LD.rd rfl rfl (om_ld Tryz.isAgg47 rfl rfl) ?_
 refine LD.val rfl rfl (ov_len Tryz.underlying47 rfl) ?_
 refine LD.val rfl rfl (ov_min rfl rfl) ?_
 refine LD.val rfl rfl (ov_subHi Tryz.underlying47 Tryz.sizeOf123 rfl rfl (hdN_le k x.n).1 (by have := (hdN_le k x.n).2; have := hX.hx.open; omega)) ?_
 refine LD.cS rfl rfl (oc_call (enters_fn Tryz.func76 (by kernel_rfl) rfl) rfl) (fun w hm hc hg => cloneA_spec (xs := x.xs.take (hdN k x.n).toNat) (n := (hdN k x.n).toNat) w (by have := hdN_le k x.n; have := hX.hn; rw [List.length_take]; omega) ((hX.hx.ext hc).take (by have := hdN_le k x.n; have := hX.hn; omega)) (by rw [List.length_take]; omega)) (fun ad16 n16 cap16 m16 hn16 hs16 => ?_)
 refine LD.val rfl rfl (ov_build (cs := #[.int .i64 x.sv.cr, .int .i64 x.sv.gr, .slice x.sv.ga x.sv.gn x.sv.gc, .slice x.sv.la x.sv.ln x.sv.lc, .slice x.sv.pa x.sv.pn x.sv.pc, .slice ad16 n16 cap16]) rfl (by kernel_rfl)) ?_
 refine LD.tail rfl rfl ?_
 refine LM.stW Tryz.sizeOf49 rfl rfl rfl rfl au7 au8 ?_
 refine LM.nil ?_
 refine QM.qn ?_
 refine QM.sub (e' := [(4, _)]) ⟨rfl, trivial⟩ (QM.then ?_)
 refine wpM.ret ?_
 refine QM.leaveCs (ds := ([])) (.inl rfl) [.cell 4 49] Tryz.results31 hd_nil (rc_w rfl Tryz.isAgg49 Tryz.sizeOf49 rfl rc_nil) ?_
 intro w' hm' hc'
 exact ⟨hc', m16, ⟨ad16, n16, cap16, rfl, hn16, hs16⟩, hm'.pick _, Sl.ge hs16⟩
set_option maxRecDepth 100000 in
set_option maxHeartbeats 2000000 in
theorem scriptHead {x : ScV} (k : Int) (w : World) (hT : Tb w) (hX : x.In w) : Ret Tryz.prog 8 #[x.val, .int .i64 k] w (fun v w' => v = .bool true ∧ Ext w w') := by
 refine Ret.enterM (l := [x.val, .int .i64 k]) Tryz.func8 rfl Tryz.ntmps8 rfl ([]) (no) (Mem.nil w) ?_
 refine wpM.seq (wpM.region ?_)
 refine LM.box rfl rfl (fun b2 hb2 => ?_)
 refine LM.as rfl ?_
 refine LM.nil (QM.sub (e' := [(1, _), (2, _)]) ⟨rfl, rfl, trivial⟩ (QM.then ?_))
 refine wpM.seq ?_
 refine wpM.seq (wpM.region ?_)
 refine LM.callE (oc_call (enters_fn Tryz.func23 (by kernel_rfl) rfl) rfl) (fun w hm hc hg => awake14_spec w (hT.ext hc)) ?_
 first | refine LM.val (ov_notD rfl) ?_ | refine LM.val (ov_not rfl) ?_
 refine LM.nil (QM.sub (e' := [(1, _), (2, _), (8, _)]) ⟨rfl, rfl, rfl, trivial⟩ (QM.then ?_))
 first | refine wpM.condD rfl (fun h1 => ?_) (fun h1 => ?_) | refine wpM.condB rfl (fun h1 => ?_) (fun h1 => ?_)
 ·
  refine wpM.seq (wpM.region ?_)
  refine LM.as rfl ?_
  refine LM.nil (QM.sub (e' := [(4, _)]) ⟨rfl, trivial⟩ (QM.then ?_))
  refine wpM.ret ?_
  refine QM.then_ret ?_
  refine QM.leave (.inl rfl) [.tmp 4] Tryz.results8 rfl ?_
  intro w' hm' hc' hg'
  first | exact ⟨rfl, hc'⟩ | (exfalso; first | omega | (simp at *; done) | (simp_all; done))
 refine wpM.skip ?_
 refine QM.then ?_
 refine wpM.seq ?_
 refine wpM.seq (wpM.region ?_)
 refine LM.val (ov_field Tryz.underlying49 rfl Tryz.sizeOf30 rfl (k := 0) rfl rfl) ?_
 first | refine LM.rd (om_ldW Tryz.isAgg30 Tryz.sizeOf30 rfl rfl) ?_ | refine LM.rd (om_ldA Tryz.isAgg30 Tryz.sizeOf30 rfl (vs := [_, _, _, _, _]) rfl ⟨rfl, rfl, rfl, rfl, rfl, trivial⟩) ?_
 refine LM.callE (oc_call (enters_fn Tryz.func15 (by kernel_rfl) rfl) rfl) (fun w hm hc hg => small12_spec w (hX.st.ext hc)) ?_
 first | refine LM.val (ov_notD rfl) ?_ | refine LM.val (ov_not rfl) ?_
 refine LM.mv rfl ?_
 first | refine LM.splitD (t := 13) rfl (fun h2 => ?_) (fun h2 => ?_) | refine LM.splitB (t := 13) rfl (fun h2 => ?_) (fun h2 => ?_)
 ·
  refine LM.dr 13 rfl rfl rfl ?_
  refine LM.dr 13 rfl rfl rfl ?_
  refine LM.dr 13 rfl rfl rfl ?_
  refine LM.dr 13 rfl rfl rfl ?_
  refine LM.val (ov_pickT rfl rfl) ?_
  refine LM.nil (QM.sub (e' := [(1, _), (2, _), (18, _)]) ⟨rfl, rfl, rfl, trivial⟩ (QM.then ?_))
  refine wpM.condT rfl ?_
  refine wpM.seq (wpM.region ?_)
  refine LM.as rfl ?_
  refine LM.nil (QM.sub (e' := [(4, _)]) ⟨rfl, trivial⟩ (QM.then ?_))
  refine wpM.ret ?_
  refine QM.then_ret ?_
  refine QM.leave (.inl rfl) [.tmp 4] Tryz.results8 rfl ?_
  intro w' hm' hc' hg'
  exact ⟨rfl, hc'⟩
 have hbd : x.sv.Bd := bd_small (by simpa using h2)
 refine LM.sp 13 rfl rfl rfl ?_
 refine LM.val (ov_field Tryz.underlying49 rfl Tryz.sizeOf47 rfl (k := 5) rfl rfl) ?_
 refine LM.sp 13 rfl rfl rfl ?_
 refine LM.rd (om_ld Tryz.isAgg47 rfl rfl) ?_
 refine LM.sp 13 rfl rfl rfl ?_
 refine LM.val (ov_len Tryz.underlying47 rfl) ?_
 refine LM.sp 13 rfl rfl rfl ?_
 refine LM.val (ov_gtr rfl rfl) ?_
 refine LM.val (ov_pickF rfl rfl) ?_
 refine LM.nil (QM.sub (e' := [(1, _), (2, _), (18, _)]) ⟨rfl, rfl, rfl, trivial⟩ (QM.then ?_))
 refine wpM.condD rfl (fun h3 => ?_) (fun h3 => ?_)
 ·
  refine wpM.seq (wpM.region ?_)
  refine LM.as rfl ?_
  refine LM.nil (QM.sub (e' := [(4, _)]) ⟨rfl, trivial⟩ (QM.then ?_))
  refine wpM.ret ?_
  refine QM.then_ret ?_
  refine QM.leave (.inl rfl) [.tmp 4] Tryz.results8 rfl ?_
  intro w' hm' hc' hg'
  exact ⟨rfl, hc'⟩
 have hn60 : x.n ≤ 60 := (by omega); have hln : x.xs.length ≤ 60 := (by have := hX.hn; omega)
 refine wpM.skip ?_
 refine QM.then (wpM.seq (wpM.region ?_))
 refine LM.rd (om_ldW Tryz.isAgg49 Tryz.sizeOf49 rfl rfl) ?_
 refine LM.mv rfl ?_
 refine LM.callT (oc_call (enters_fn Tryz.func31 (by kernel_rfl) rfl) rfl) HdT.mono (fun w hm hc hg => head_spec (x := x) k w (hX.ext hc) (by omega)) ?_
 rintro u21 m21 ⟨ad21, n21, cap21, rfl, hn21, hs21⟩ -
 refine LM.alloc Tryz.zeroValue49 rfl (fun b5 hb5 => ?_)
 refine LM.stW Tryz.sizeOf49 rfl rfl rfl rfl au7 au8 ?_
 refine LM.nil (QM.sub (e' := [(1, _), (2, _), (5, _)]) ⟨rfl, rfl, rfl, trivial⟩ (QM.then (wpM.seq (wpM.region ?_))))
 refine LM.mv rfl ?_
 refine LM.val (ov_max rfl rfl) ?_
 refine LM.val (ov_field Tryz.underlying49 rfl Tryz.sizeOf47 rfl (k := 5) rfl rfl) ?_
 refine LM.rd (om_ld Tryz.isAgg47 rfl rfl) ?_
 refine LM.val (ov_len Tryz.underlying47 rfl) ?_
 refine LM.val (ov_min rfl rfl) ?_
 refine LM.as rfl ?_
 refine LM.nil (QM.sub (e' := [(2, _), (5, _), (6, _)]) ⟨rfl, rfl, rfl, trivial⟩ (QM.then ?_))
 refine wpM.seq ?_
 refine wpM.draw [(0, 1), (1, 0), (2, 1), (3, 0), (4, 1), (5, 0), (6, 0), (7, 0), (8, 2), (9, 0), (10, 1), (11, 1), (13, 0), (14, 0), (15, 1), (16, 0), (17, 0), (12, 2), (18, 0), (19, 0), (20, 0), (21, 1), (24, 0), (25, 1), (22, 2), (23, 0), (26, 2), (27, 0), (28, 0)] (by kernel_rfl) (by kernel_rfl) ?_
 refine LD.rd rfl rfl (om_ldW Tryz.isAgg49 Tryz.sizeOf49 rfl rfl) ?_
 refine LD.val rfl rfl (ov_field Tryz.underlying49 rfl Tryz.sizeOf30 rfl (k := 0) rfl rfl) ?_
 first | refine LD.rd rfl rfl (om_ldW Tryz.isAgg30 Tryz.sizeOf30 rfl rfl) ?_ | refine LD.rd rfl rfl (om_ldA Tryz.isAgg30 Tryz.sizeOf30 rfl (vs := [_, _, _, _, _]) rfl ⟨rfl, rfl, rfl, rfl, rfl, trivial⟩) ?_
 refine LD.val rfl rfl (ov_field Tryz.underlying49 rfl Tryz.sizeOf47 rfl (k := 5) rfl rfl) ?_
 refine LD.rd rfl rfl (om_ld Tryz.isAgg47 rfl rfl) ?_
 refine LD.val rfl rfl (ov_move rfl) ?_
 refine LD.val rfl rfl (ov_subHi Tryz.underlying47 Tryz.sizeOf123 rfl rfl (hdN_le k x.n).1 (by have := (hdN_le k x.n).2; have := hX.hx.open; omega)) ?_
 refine LD.val rfl rfl (ov_build (cs := #[.int .i64 x.sv.cr, .int .i64 x.sv.gr, .slice x.sv.ga x.sv.gn x.sv.gc, .slice x.sv.la x.sv.ln x.sv.lc, .slice x.sv.pa x.sv.pn x.sv.pc, .slice x.ad (hdN k x.n).toNat x.cap]) rfl (by kernel_rfl)) ?_
 refine LD.callE rfl rfl (oc_call (enters_fn Tryz.func26 (by kernel_rfl) rfl) rfl) (fun w hm hc hg => rxsame_spec (x := ⟨x.sv, x.xs.take (hdN k x.n).toNat, ad21, n21, cap21⟩) (y := ⟨x.sv, x.xs.take (hdN k x.n).toNat, x.ad, (hdN k x.n).toNat, x.cap⟩) w ⟨hX.st.ext hc, hn21, hs21.srM (by intro _; rfl) hm⟩ ⟨hX.st.ext hc, by have := hdN_le k x.n; have := hX.hn; simp only [List.length_take]; omega, (hX.hx.ext hc).take (by have := hdN_le k x.n; have := hX.hn; omega)⟩ hbd (by simp only [List.length_take]; omega)) ?_
 refine LD.val rfl rfl (ov_move rfl) ?_
 first | refine LD.splitD (t := 37) rfl (fun h4 => ?_) (fun h4 => ?_) | refine LD.splitB (t := 37) rfl (fun h4 => ?_) (fun h4 => ?_)
 ·
  refine LD.rd rfl ⟨37, _, rfl, rfl, rfl⟩ (om_ldW Tryz.isAgg49 Tryz.sizeOf49 rfl rfl) ?_
  refine LD.rd rfl ⟨37, _, rfl, rfl, rfl⟩ (om_ldW Tryz.isAgg49 Tryz.sizeOf49 rfl rfl) ?_
  refine LD.val rfl ⟨37, _, rfl, rfl, rfl⟩ (ov_move rfl) ?_
  refine LD.val rfl ⟨37, _, rfl, rfl, rfl⟩ (ov_field Tryz.underlying49 rfl Tryz.sizeOf47 rfl (k := 5) rfl rfl) ?_
  refine LD.rd rfl ⟨37, _, rfl, rfl, rfl⟩ (om_ld Tryz.isAgg47 rfl rfl) ?_
  refine LD.val rfl ⟨37, _, rfl, rfl, rfl⟩ (ov_len Tryz.underlying47 rfl) ?_
  refine LD.val rfl ⟨37, _, rfl, rfl, rfl⟩ (ov_eql rfl rfl) ?_
  refine LD.callE rfl ⟨37, _, rfl, rfl, rfl⟩ (oc_call (enters_fn Tryz.func30 (by kernel_rfl) rfl) rfl) (fun w hm hc hg => xsame_spec (x := ⟨x.sv, x.xs.take (hdN k x.n).toNat, ad21, n21, cap21⟩) (y := x) w ⟨hX.st.ext hc, hn21, hs21.srM (by intro _; rfl) hm⟩ (hX.ext hc) hbd (by simp only [List.length_take]; omega)) ?_
  refine LD.val rfl ⟨37, _, rfl, rfl, rfl⟩ (ov_beql Tryz.underlying4 rfl rfl) ?_
  refine LD.val rfl rfl (ov_pickT rfl rfl) ?_
  refine LD.val rfl rfl (ov_move rfl) ?_
  refine LD.splitD (t := 48) rfl (fun h5 => ?_) (fun h5 => ?_)
  ·
   refine LD.rd rfl ⟨48, _, rfl, rfl, rfl⟩ (om_ldW Tryz.isAgg49 Tryz.sizeOf49 rfl rfl) ?_
   refine LD.val rfl ⟨48, _, rfl, rfl, rfl⟩ (ov_field Tryz.underlying49 rfl Tryz.sizeOf47 rfl (k := 5) rfl rfl) ?_
   refine LD.rd rfl ⟨48, _, rfl, rfl, rfl⟩ (om_ld Tryz.isAgg47 rfl rfl) ?_
   refine LD.callT rfl ⟨48, _, rfl, rfl, rfl⟩ (oc_call (enters_fn Tryz.func31 (by kernel_rfl) rfl) rfl) HdT.mono (fun w hm hc hg => head_spec (x := x) 1152921504606846976 w (hX.ext hc) (by omega)) ?_
   rintro u50 m50 ⟨ad50, n50, cap50, rfl, hn50, hs50⟩ -; rw [hd_all hX.hn (big60 hn60)] at hn50 hs50
   refine LD.val rfl ⟨48, _, rfl, rfl, rfl⟩ (ov_fieldV Tryz.underlying49 rfl Tryz.isAgg47 rfl rfl) ?_
   refine LD.callE rfl ⟨48, _, rfl, rfl, rfl⟩ (oc_call (enters_fn Tryz.func32 (by kernel_rfl) rfl) rfl) (fun w hm hc hg => asame_spec w hn50 (hs50.srM (by intro _; rfl) hm) hX.hn (hX.hx.ext hc) (by omega)) ?_
   refine LD.val rfl rfl (ov_pickT rfl rfl) ?_
   refine LD.val rfl rfl (ov_assign rfl) ?_
   refine LD.nil ?_
   refine QM.sub (e' := [(4, _)]) ⟨rfl, trivial⟩ (QM.then ?_)
   refine wpM.ret ?_
   refine QM.leave (.inl rfl) [.tmp 4] Tryz.results8 rfl ?_
   intro w' hm' hc' hg'
   refine ⟨?_, hc'⟩; show Value.bool (decide (x.xs = x.xs)) = _; rw [decide_eq_true rfl]
  refine LD.drop rfl rfl ⟨48, _, rfl, rfl, rfl⟩ ?_
  refine LD.drop rfl rfl ⟨48, _, rfl, rfl, rfl⟩ ?_
  refine LD.drop rfl rfl ⟨48, _, rfl, rfl, rfl⟩ ?_
  refine LD.drop rfl rfl ⟨48, _, rfl, rfl, rfl⟩ ?_
  refine LD.drop rfl rfl ⟨48, _, rfl, rfl, rfl⟩ ?_
  refine LD.drop rfl rfl ⟨48, _, rfl, rfl, rfl⟩ ?_
  refine LD.val rfl rfl (ov_pickF rfl rfl) ?_
  refine LD.val rfl rfl (ov_assign rfl) ?_
  refine LD.nil ?_
  refine QM.sub (e' := [(4, _)]) ⟨rfl, trivial⟩ (QM.then ?_)
  refine wpM.ret ?_
  refine QM.leave (.inl rfl) [.tmp 4] Tryz.results8 rfl ?_
  intro w' hm' hc' hg'
  exact absurd (hd_eq hX.hn k _ _ _) h5
 refine LD.drop rfl rfl ⟨37, _, rfl, rfl, rfl⟩ ?_
 refine LD.drop rfl rfl ⟨37, _, rfl, rfl, rfl⟩ ?_
 refine LD.drop rfl rfl ⟨37, _, rfl, rfl, rfl⟩ ?_
 refine LD.drop rfl rfl ⟨37, _, rfl, rfl, rfl⟩ ?_
 refine LD.drop rfl rfl ⟨37, _, rfl, rfl, rfl⟩ ?_
 refine LD.drop rfl rfl ⟨37, _, rfl, rfl, rfl⟩ ?_
 refine LD.drop rfl rfl ⟨37, _, rfl, rfl, rfl⟩ ?_
 refine LD.drop rfl rfl ⟨37, _, rfl, rfl, rfl⟩ ?_
 refine LD.drop rfl rfl ⟨37, _, rfl, rfl, rfl⟩ ?_
 refine LD.val rfl rfl (ov_pickF rfl rfl) ?_
 refine LD.val rfl rfl (ov_move rfl) ?_
 refine LD.drop rfl rfl ⟨48, _, rfl, rfl, rfl⟩ ?_
 refine LD.drop rfl rfl ⟨48, _, rfl, rfl, rfl⟩ ?_
 refine LD.drop rfl rfl ⟨48, _, rfl, rfl, rfl⟩ ?_
 refine LD.drop rfl rfl ⟨48, _, rfl, rfl, rfl⟩ ?_
 refine LD.drop rfl rfl ⟨48, _, rfl, rfl, rfl⟩ ?_
 refine LD.drop rfl rfl ⟨48, _, rfl, rfl, rfl⟩ ?_
 refine LD.val rfl rfl (ov_pickF rfl rfl) ?_
 refine LD.val rfl rfl (ov_assign rfl) ?_
 refine LD.nil ?_
 refine QM.sub (e' := [(4, _)]) ⟨rfl, trivial⟩ (QM.then ?_)
 refine wpM.ret ?_
 refine QM.leave (.inl rfl) [.tmp 4] Tryz.results8 rfl ?_
 intro w' hm' hc' hg'
 rw [same_refl (by rfl) (by rfl)] at h4; cases h4
end Go.Eng
namespace Go.Eng
open Go Go.Proofs Go.RowKit
end Go.Eng
namespace Go.Eng
open Go Go.Proofs Go.RowKit Go.ChangeShapes Go.WideShapes
set_option maxRecDepth 100000 in
theorem rdb_api_Act : Rdb Tryz.prog 123 fA (fun a => (-9223372036854775808 ≤ a.k ∧ a.k ≤ 9223372036854775807) ∧ (-9223372036854775808 ≤ a.a ∧ a.a ≤ 9223372036854775807) ∧ (-9223372036854775808 ≤ a.b ∧ a.b ≤ 9223372036854775807) ∧ (-9223372036854775808 ≤ a.c ∧ a.c ≤ 9223372036854775807) ∧ (-9223372036854775808 ≤ a.d ∧ a.d ≤ 9223372036854775807)) := fun {H enc w base sp held fuel cs x} h => by
  obtain ⟨h1, h2⟩ := trod_fields Tryz.underlying123 h
  rw [show Tryz.prog.cellsOf 123 = 5 by kernel_rfl] at h1
  have c3 : Tryz.prog.cellsOf 3 = 1 := by kernel_rfl
  match cs, h1 with
  | [a0, a1, a2, a3, a4], _ =>
    simp only [List.forall_mem_cons, c3, List.drop_succ_cons, List.drop_zero, List.take_succ_cons, List.take_zero] at h2
    obtain ⟨⟨_, _, f0⟩, ⟨_, _, f1⟩, ⟨_, _, f2⟩, ⟨_, _, f3⟩, ⟨_, _, f4⟩, _⟩ := h2
    obtain ⟨m0, e0, _, w0⟩ := DataW.trod_int Tryz.underlying3 f0
    obtain ⟨m1, e1, _, w1⟩ := DataW.trod_int Tryz.underlying3 f1
    obtain ⟨m2, e2, _, w2⟩ := DataW.trod_int Tryz.underlying3 f2
    obtain ⟨m3, e3, _, w3⟩ := DataW.trod_int Tryz.underlying3 f3
    obtain ⟨m4, e4, _, w4⟩ := DataW.trod_int Tryz.underlying3 f4
    simp only [List.cons.injEq, and_true] at e0 e1 e2 e3 e4
    subst e0
    subst e1
    subst e2
    subst e3
    subst e4
    exact ⟨⟨m0, m1, m2, m3, m4⟩, rfl, ⟨bounds_i64 w0, bounds_i64 w1, bounds_i64 w2, bounds_i64 w3, bounds_i64 w4⟩⟩
def ScV.cs (x : ScV) : List Value := [.int .i64 x.sv.cr, .int .i64 x.sv.gr, .slice x.sv.ga x.sv.gn x.sv.gc, .slice x.sv.la x.sv.ln x.sv.lc, .slice x.sv.pa x.sv.pn x.sv.pc, .slice x.ad x.n x.cap]
set_option maxRecDepth 100000 in
theorem rdW_Script (w : World) : RdW Tryz.prog w 49 ScV.cs (fun s => s.In w) := fun {H enc base sp held fuel cs x} h => by
  obtain ⟨h1, h2⟩ := trod_fields Tryz.underlying49 h
  rw [show Tryz.prog.cellsOf 49 = 6 by kernel_rfl] at h1
  have c0 : Tryz.prog.cellsOf 30 = 5 := by kernel_rfl
  have c1 : Tryz.prog.cellsOf 47 = 1 := by kernel_rfl
  match cs, h1 with
  | [a0, a1, a2, a3, a4, a5], _ =>
    simp only [List.forall_mem_cons, c0, c1, List.drop_succ_cons, List.drop_zero, List.take_succ_cons, List.take_zero] at h2
    obtain ⟨⟨_, _, f0⟩, ⟨_, _, f1⟩, _⟩ := h2
    obtain ⟨s, e0, hs⟩ := rdW_Setup w f0
    obtain ⟨xs, ad, cap, e1, h3, _, _⟩ := rdW_sl (s := 5) Tryz.underlying47 (rdb_api_Act.at w) (by kernel_rfl) (by decide) (fun _ => rfl) f1
    simp only [StV.cs, List.cons.injEq, and_true] at e0 e1
    obtain ⟨rfl, rfl, rfl, rfl, rfl⟩ := e0
    subst e1
    exact ⟨⟨s, xs, ad, xs.length, cap⟩, rfl, ⟨hs, rfl, h3⟩⟩
set_option maxRecDepth 100000 in
theorem open_api_Script {H : Type} {enc : TypeId × Value → H} {w : World} {base : Nat} {sp : Nat → Bool} {held : Bool} {r : Reach} {b0 : Nat} {v : Value} {d : DataW H} {ps : List MemPlace}
    (hval : Value.okWide Tryz.prog w r b0 49 v) (h : DataW.Trod enc Tryz.prog w base sp held 49 v d ps) : ∃ s : ScV, v = s.val ∧ s.In w := by
  obtain ⟨s, h1, h2⟩ := open_aggW (rdW_Script w) (.inr ⟨_, Tryz.underlying49⟩) hval h
  exact ⟨s, h1, h2⟩
end Go.Eng
