/- The walks of ops and of programs that may be. No condition. -/
import Derived.Test.YtbndlommbpkijaaGreatDoorM2
set_option linter.unusedVariables false
set_option linter.unusedSimpArgs false
namespace Go.Eng
open Go Go.Proofs Go.RowKit
theorem loA_cases (k : Int) : loA k = -1 ∨ 0 ≤ loA k := by unfold loA; (repeat' split) <;> omega
theorem all_any {α : Type} {p : α → Bool} {xs : List α} : xs.all p = !xs.any (fun o => !p o) := by rw [List.all_eq_not_any_not]
theorem all_snoc {α : Type} {p : α → Bool} {xs : List α} {i : Nat} (d : α) (h : i < xs.length) : (xs.take (i + 1)).all p = ((xs.take i).all p && p (xs.getD i d)) := by
  rw [take_snoc d h, List.all_append]; simp
theorem may_not {xs : List COp} {i : Nat} (h : i < xs.length) (hr : rightB (xs.getD i default) = false) : mayB xs = false := by
  cases hm : mayB xs with
  | false => rfl
  | true => rw [may_at hm h] at hr; cases hr
theorem hasB5 {k b : Int} (h : k = 5) : hasB (loB k) (hiB k) b = (decide (1 ≤ b) && decide (b ≤ 64)) := by subst h; rfl
theorem hasBn {k b : Int} (h : ¬ k = 5) : hasB (loB k) (hiB k) b = decide (b = 0) := by unfold loB hiB; rw [if_neg h, if_neg h]; rfl
abbrev pV (fv : Bool) (ad : Option Addr) (n cap : Nat) : Value := .agg #[.bool fv, .slice ad n cap]
abbrev pB (b : Nat) (fv : Bool) (ad : Option Addr) (n cap : Nat) : Nat × Obj := (b, .cells #[.bool fv, .slice ad n cap] 87 (0, 0))
set_option maxRecDepth 100000 in
theorem names_spec (w : World) : Ret Tryz.prog 141 #[] w (New fB 9 1 nmW w) := by
 refine Ret.enterM (l := []) Tryz.func141 rfl Tryz.ntmps141 rfl ([]) (no) (Mem.nil w) ?_
 refine wpM.seq (wpM.region ?_)
 refine LM.as rfl ?_
 refine LM.nil (QM.sub (e' := []) trivial (QM.then (wpM.seq (wpM.region ?_))))
 refine LM.row (vs := [_, _, _, _, _, _, _, _, _, _, _, _]) Tryz.underlying188 Tryz.sizeOf9 Tryz.zeroValue9 rfl rfl rfl rfl rfl rfl (fun b1 hb1 => ?_)
 refine LM.as rfl ?_
 refine LM.nil (QM.sub (e' := [(0, _)]) ⟨rfl, trivial⟩ (QM.then ?_))
 refine wpM.ret ?_
 refine QM.leave (.inl rfl) [.tmp 0] Tryz.results141 rfl ?_
 intro w' hm' hc' hg'
 exact ⟨hc', [(b1, .cells (arr fB nmW []) 9 (0, 0))], .inr ⟨b1, 12, [], hb1, rfl, rfl, by decide, by unfold maxLen; decide, rfl⟩, hm'⟩
set_option maxRecDepth 100000 in
theorem name_spec (k : Int) (w : World) : Ret Tryz.prog 105 #[.int .i64 k] w (fun v w' => v = vS (nmT k) ∧ Ext w w') := by
 refine Ret.enterM (l := [.int .i64 k]) Tryz.func105 rfl Tryz.ntmps105 rfl ([]) (no) (Mem.nil w) ?_
 refine wpM.seq (wpM.region ?_)
 refine LM.as rfl ?_
 refine LM.nil (QM.sub (e' := [(0, _)]) ⟨rfl, trivial⟩ (QM.then ?_))
 refine wpM.seq ?_
 refine wpM.seq (wpM.region ?_)
 refine LM.mv rfl ?_
 refine LM.val (ov_lss rfl rfl) ?_
 refine LM.mv rfl ?_
 refine LM.splitD (t := 5) rfl (fun h1 => ?_) (fun h1 => ?_)
 ·
  refine LM.dr 5 rfl rfl rfl (LM.dr 5 rfl rfl rfl (LM.dr 5 rfl rfl rfl (LM.dr 5 rfl rfl rfl ?_)))
  refine LM.val (ov_pickT rfl rfl) ?_
  refine LM.nil (QM.sub (e' := [(0, _), (10, _)]) au9 (QM.then ?_))
  refine wpM.condT rfl ?_
  refine wpM.seq (wpM.region ?_)
  refine LM.as rfl ?_
  refine LM.nil (QM.sub (e' := [(2, _)]) ⟨rfl, trivial⟩ (QM.then ?_))
  refine wpM.ret ?_
  refine QM.then_ret ?_
  refine QM.leave (.inl rfl) [.tmp 2] Tryz.results105 rfl ?_
  intro w' hm' hc' hg'
  have hl13 : nmW.length = 12 := rfl; refine ⟨?_, hc'⟩; show vS _ = _; congr 1; first | (rw [nmT, if_neg (by omega)]; done) | (rw [nmT, if_pos (by omega)]; rfl)
 refine LM.sp 5 rfl rfl rfl (LM.mv rfl (LM.sp 5 rfl rfl rfl ?_))
 refine LM.cS (oc_call (enters_fn Tryz.func141 (by kernel_rfl) rfl) rfl) (fun w hm hc hg => names_spec w) (fun ad7 n7 cap7 m7 hn7 hs7 => ?_)
 refine LM.sp 5 rfl rfl rfl ?_
 refine LM.val (ov_len Tryz.underlying188 rfl) ?_
 refine LM.sp 5 rfl rfl rfl ?_
 have hl12 : n7 = 12 := hn7
 refine LM.val (ov_geq rfl rfl) ?_
 refine LM.val (ov_pickF rfl rfl) ?_
 refine LM.nil (QM.sub (e' := [(0, _), (10, _)]) au9 (QM.then ?_))
 refine wpM.condD rfl (fun h2 => ?_) (fun h2 => ?_)
 ·
  refine wpM.seq (wpM.region ?_)
  refine LM.as rfl ?_
  refine LM.nil (QM.sub (e' := [(2, _)]) ⟨rfl, trivial⟩ (QM.then ?_))
  refine wpM.ret ?_
  refine QM.then_ret ?_
  refine QM.leave (.inl rfl) [.tmp 2] Tryz.results105 rfl ?_
  intro w' hm' hc' hg'
  have hl13 : nmW.length = 12 := rfl; refine ⟨?_, hc'⟩; show vS _ = _; congr 1; first | (rw [nmT, if_neg (by omega)]; done) | (rw [nmT, if_pos (by omega)]; rfl)
 refine wpM.skip ?_
 refine QM.then (wpM.seq (wpM.region ?_))
 refine LM.cS (oc_call (enters_fn Tryz.func141 (by kernel_rfl) rfl) rfl) (fun w hm hc hg => names_spec w) (fun ad11 n11 cap11 m11 hn11 hs11 => ?_)
 have hl12 : n11 = 12 := hn11
 refine LM.mv rfl ?_
 first | refine LM.val (ov_idxSN au6 Tryz.underlying188 Tryz.sizeOf9 rfl rfl (by omega)) ?_ | refine LM.val (ov_idxS au6 Tryz.underlying188 Tryz.sizeOf9 rfl rfl (by omega)) ?_ | refine LM.val (ov_idx1 Tryz.underlying188 Tryz.sizeOf9 rfl rfl (by omega)) ?_
 refine LM.rd (om_sl1 (by assumption) (by intro _; rfl) Tryz.isAgg9 rfl rfl au3 (by rfl)) ?_
 refine LM.as rfl ?_
 refine LM.nil (QM.sub (e' := [(2, _)]) ⟨rfl, trivial⟩ (QM.then ?_))
 refine wpM.ret ?_
 refine QM.leave (.inl rfl) [.tmp 2] Tryz.results105 rfl ?_
 intro w' hm' hc' hg'
 have hl13 : nmW.length = 12 := rfl; refine ⟨?_, hc'⟩; show vS _ = _; congr 1; first | (rw [nmT, if_neg (by omega)]; done) | (rw [nmT, if_pos (by omega)]; rfl)
set_option maxRecDepth 100000 in
theorem rname_spec (k : Int) (w : World) : Ret Tryz.prog 88 #[.int .i64 k] w (fun v w' => v = vS (nmT k) ∧ Ext w w') := by
 refine Ret.enterM (l := [.int .i64 k]) Tryz.func88 rfl Tryz.ntmps88 rfl ([]) (no) (Mem.nil w) ?_
 refine wpM.seq (wpM.region ?_)
 refine LM.as rfl ?_
 refine LM.nil (QM.sub (e' := [(0, _)]) ⟨rfl, trivial⟩ (QM.then (wpM.seq (wpM.region ?_))))
 refine LM.row (vs := [_, _, _, _, _, _, _, _, _, _, _, _]) Tryz.underlying188 Tryz.sizeOf9 Tryz.zeroValue9 rfl rfl rfl rfl rfl rfl (fun b4 hb4 => ?_)
 refine LM.as rfl ?_
 refine LM.nil (QM.sub (e' := [(0, _), (3, _)]) au9 (QM.then ?_))
 refine wpM.seq ?_
 refine wpM.seq (wpM.region ?_)
 refine LM.mv rfl ?_
 refine LM.val (ov_lss rfl rfl) ?_
 refine LM.mv rfl ?_
 refine LM.splitD (t := 7) rfl (fun h1 => ?_) (fun h1 => ?_)
 ·
  refine LM.dr 7 rfl rfl rfl (LM.dr 7 rfl rfl rfl ?_)
  refine LM.val (ov_pickT rfl rfl) ?_
  refine LM.nil (QM.sub (e' := [(0, _), (3, _), (10, _)]) au9 (QM.then ?_))
  refine wpM.condT rfl ?_
  refine wpM.seq (wpM.region ?_)
  refine LM.as rfl ?_
  refine LM.nil (QM.sub (e' := [(2, _)]) ⟨rfl, trivial⟩ (QM.then ?_))
  refine wpM.ret ?_
  refine QM.then_ret ?_
  refine QM.leave (.inl rfl) [.tmp 2] Tryz.results88 rfl ?_
  intro w' hm' hc' hg'
  refine ⟨?_, hc'⟩; show vS _ = _; congr 1; first | (rw [nmT, if_neg (by omega)]; done) | (rw [nmT, if_pos (by omega)]; rfl)
 refine LM.sp 7 rfl rfl rfl (LM.mv rfl (LM.sp 7 rfl rfl rfl ?_))
 refine LM.val (ov_gtr rfl rfl) ?_
 refine LM.val (ov_pickF rfl rfl) ?_
 refine LM.nil (QM.sub (e' := [(0, _), (3, _), (10, _)]) au9 (QM.then ?_))
 refine wpM.condD rfl (fun h2 => ?_) (fun h2 => ?_)
 ·
  refine wpM.seq (wpM.region ?_)
  refine LM.as rfl ?_
  refine LM.nil (QM.sub (e' := [(2, _)]) ⟨rfl, trivial⟩ (QM.then ?_))
  refine wpM.ret ?_
  refine QM.then_ret ?_
  refine QM.leave (.inl rfl) [.tmp 2] Tryz.results88 rfl ?_
  intro w' hm' hc' hg'
  refine ⟨?_, hc'⟩; show vS _ = _; congr 1; first | (rw [nmT, if_neg (by omega)]; done) | (rw [nmT, if_pos (by omega)]; rfl)
 refine wpM.skip ?_
 refine QM.then (wpM.seq (wpM.region ?_))
 refine LM.mv rfl (LM.mv rfl ?_)
 change LM _ _ _ _ _ _ _ _ ((b4, Obj.cells (arr fB nmW []) 9 (0, 0)) :: _) _ _ _; have hs4 : Sl fB 9 1 w.heap.size nmW (.slice (some ⟨b4, 0, none⟩) 12 12) [(b4, .cells (arr fB nmW []) 9 (0, 0))] := .inr ⟨b4, 12, [], hb4, rfl, rfl, by decide, by unfold maxLen; decide, rfl⟩; have hl12 : nmW.length = 12 := rfl
 first | refine LM.val (ov_idxSN au6 Tryz.underlying188 Tryz.sizeOf9 rfl rfl (by omega)) ?_ | refine LM.val (ov_idxS au6 Tryz.underlying188 Tryz.sizeOf9 rfl rfl (by omega)) ?_ | refine LM.val (ov_idx1 Tryz.underlying188 Tryz.sizeOf9 rfl rfl (by omega)) ?_
 refine LM.rd (om_sl1 (by assumption) (by intro _; rfl) Tryz.isAgg9 rfl rfl au3 (by rfl)) ?_
 refine LM.as rfl ?_
 refine LM.nil (QM.sub (e' := [(2, _)]) ⟨rfl, trivial⟩ (QM.then ?_))
 refine wpM.ret ?_
 refine QM.leave (.inl rfl) [.tmp 2] Tryz.results88 rfl ?_
 intro w' hm' hc' hg'
 refine ⟨?_, hc'⟩; show vS _ = _; congr 1; first | (rw [nmT, if_neg (by omega)]; done) | (rw [nmT, if_pos (by omega)]; rfl)
set_option maxRecDepth 100000 in
theorem index_str {xs : List (List UInt8)} {ad : Option Addr} {n cap : Nat} (x : List UInt8) (w : World) (hn : n = xs.length) (hl : Sr fB 1 xs (.slice ad n cap) w) (hx : xs.length ≤ 1000) : Ret Tryz.prog 146 #[.slice ad n cap, vS x] w (fun v w' => v = .int .i64 (fixI (fun y => decide (x = y)) xs) ∧ Ext w w') := by
 refine Ret.enterM (l := [.slice ad n cap, vS x]) Tryz.func146 rfl Tryz.ntmps146 rfl ([]) (no) (Mem.nil w) ?_
 refine wpM.seq (wpM.region ?_)
 refine LM.as rfl ?_
 refine LM.nil (QM.sub (e' := [(0, _), (1, _)]) au9 (QM.then ?_))
 refine wpM.seq ?_
 refine wpM.seq (wpM.region ?_)
 refine LM.mv rfl ?_
 refine LM.val (ov_len Tryz.underlying188 rfl) ?_
 refine LM.mv rfl ?_
 refine LM.nil (QM.sub (e' := [(0, _), (1, _), (7, _), (8, _)]) au9 (QM.then ?_))
 refine wpM.block ?_
 refine wpM.loopK0 (α := Nat) (fun i => [(8, .int .i64 (i : Nat))]) [(0, _), (1, _), (7, _)] (fun i => []) (fun i => i ≤ xs.length ∧ (xs.take i).any (fun y => decide (x = y)) = false) (fun i => xs.length - i) (0) ⟨au2, rfl, rfl, rfl, trivial⟩ au1 ⟨Nat.zero_le _, rfl⟩ ?_
 rintro i ⟨hi, ha⟩
 change wpM _ _ _ _ _ _ _ ([]) _ _ _
 refine wpM.seq (wpM.region ?_)
 refine LM.val (ov_lss rfl rfl) ?_
 refine LM.nil (QM.sub (e' := [(0, _), (1, _), (7, _), (8, _), (9, _)]) au9 (QM.then ?_))
 refine wpM.seq ?_
 refine wpM.condD rfl (fun h1 => ?_) (fun h1 => ?_)
 ·
  refine wpM.skip ?_
  refine QM.then ?_
  refine wpM.seq ?_
  refine wpM.block ?_
  refine wpM.seq (wpM.region ?_)
  refine LM.mv rfl (LM.as rfl ?_)
  refine LM.nil (QM.sub (e' := [(0, _), (1, _), (5, _), (7, _), (8, _)]) au9 (QM.then (wpM.seq (wpM.region ?_))))
  refine LM.mv rfl (LM.mv rfl (LM.mv rfl ?_))
  refine LM.val (ov_idxSN au6 Tryz.underlying188 Tryz.sizeOf9 rfl rfl (by omega)) ?_
  first | refine LM.rd (om_sl1 (by assumption) (by intro _; rfl) Tryz.isAgg9 rfl rfl au3 (by rfl)) ?_ | refine LM.rdC (om_sr1 (by assumption) Tryz.isAgg9 rfl rfl au3 (by rfl) id) ?_ | refine LM.rd (om_ld Tryz.isAgg9 rfl rfl) ?_
  refine LM.val (ov_seqlL rfl rfl) ?_
  refine LM.nil (QM.sub (e' := [(0, _), (1, _), (5, _), (7, _), (8, _), (16, _)]) au9 (QM.then ?_))
  refine wpM.condD rfl (fun h2 => ?_) (fun h2 => ?_)
  ·
   refine wpM.seq (wpM.region ?_)
   refine LM.mv rfl (LM.as rfl ?_)
   refine LM.nil (QM.sub (e' := [(4, _)]) ⟨rfl, trivial⟩ (QM.then ?_))
   refine wpM.ret ?_
   refine QM.block_ret ?_
   refine QM.then_ret ?_
   refine QM.then_ret ?_
   refine QM.block_ret ?_
   refine QM.then_ret ?_
   refine QM.leave (.inl rfl) [.tmp 4] Tryz.results146 rfl ?_
   intro w' hm' hc' hg'
   exact ⟨by show Value.int .i64 _ = _; rw [fix_hit [] ha (by omega) (decide_eq_true h2)], hc'⟩
  refine wpM.skip ?_
  refine QM.block_normal ?_
  refine QM.then (wpM.region ?_)
  refine LM.val (ov_add64 rfl rfl (by omega)) ?_
  refine LM.mv rfl ?_
  refine LM.nil (QM.sub (e' := [(0, _), (1, _), (7, _), (8, _)]) au9 ?_)
  refine QM.againK (i + 1) ⟨au2, rfl, rfl, rfl, trivial⟩ au1 (fun _ h => h) ?_ ?_
  · exact ⟨by omega, by rw [any_snoc [] (by omega), ha, Bool.false_or]; exact decide_eq_false h2⟩
  · omega
 refine wpM.exit ?_
 refine QM.then_exit ?_
 refine QM.then_exit ?_
 refine QM.block_hit ?_
 refine QM.then (wpM.seq (wpM.region ?_))
 refine LM.as rfl ?_
 refine LM.nil (QM.sub (e' := [(4, _)]) ⟨rfl, trivial⟩ (QM.then ?_))
 refine wpM.ret ?_
 refine QM.leave (.inl rfl) [.tmp 4] Tryz.results146 rfl ?_
 intro w' hm' hc' hg'
 have hil : i = xs.length := (by omega); subst hil; rw [List.take_length] at ha; exact ⟨by show Value.int .i64 _ = _; rw [fix_miss ha], hc'⟩
set_option maxRecDepth 100000 in
theorem spans_spec (k : Int) (w : World) : Ret Tryz.prog 106 #[.int .i64 k] w (fun v w' => v = .tuple #[.agg #[.int .i64 (loA k), .int .i64 (hiA k)], .agg #[.int .i64 (loB k), .int .i64 (hiB k)]] ∧ Ext w w') := by
 refine Ret.enterM (l := [.int .i64 k]) Tryz.func106 rfl Tryz.ntmps106 rfl ([]) (no) (Mem.nil w) ?_
 refine wpM.seq (wpM.region ?_)
 refine LM.alloc Tryz.zeroValue159 rfl (fun b2 hb2 => ?_)
 refine LM.alloc Tryz.zeroValue159 rfl (fun b3 hb3 => ?_)
 refine LM.nil (QM.sub (e' := [(0, _), (2, _), (3, _)]) au9 (QM.then (wpM.seq (wpM.region ?_))))
 refine LM.val (ov_build (cs := #[_, _]) rfl (by first | rfl | kernel_rfl)) ?_
 refine LM.alloc Tryz.zeroValue159 rfl (fun b4 hb4 => ?_)
 refine LM.stW Tryz.sizeOf159 rfl rfl rfl rfl au7 au8 ?_
 refine LM.nil (QM.sub (e' := [(0, _), (2, _), (3, _), (4, _)]) au9 (QM.then ?_))
 refine wpM.seq ?_
 refine wpM.seq (wpM.region ?_)
 refine LM.mv rfl ?_
 refine LM.nil (QM.sub (e' := [(2, _), (3, _), (4, _), (6, _)]) au9 (QM.then ?_))
 refine wpM.block ?_
 refine wpM.seq (wpM.region ?_)
 refine LM.val (ov_eql rfl rfl) ?_
 refine LM.as rfl ?_
 refine LM.nil (QM.sub (e' := [(2, _), (3, _), (4, _), (6, _), (7, _)]) au9 (QM.then ?_))
 refine wpM.condD rfl (fun h1 => ?_) (fun h1 => ?_)
 ·
  refine wpM.seq ?_
  refine wpM.toAltO (b2) [.cells #[.int .i64 0, .int .i64 0] 159 (0, 0), .cells #[.int .i64 (1), .int .i64 (16)] 159 (0, 0)] (by first | exact .head _ | (simp; done)) (fun hMc => ?_)
  refine wpM.draw [(0, 0), (1, 1), (2, 2), (3, 3)] (by kernel_rfl) (by kernel_rfl) ?_
  refine LD.val rfl rfl (ov_build (cs := #[_, _]) rfl (by first | rfl | kernel_rfl)) ?_
  refine LD.rd rfl rfl (om_ldW Tryz.isAgg159 Tryz.sizeOf159 rfl rfl) ?_
  refine LD.stAltO [.cells #[.int .i64 (1), .int .i64 (16)] 159 (0, 0)] rfl rfl Tryz.sizeOf159 rfl rfl rfl (by decide) (by simp) (by simp only [List.forall_mem_cons, List.not_mem_nil, false_implies, implies_true, and_true]; exact ⟨⟨_, _, rfl, by decide, .head _⟩, ⟨_, _, rfl, by decide, .head _⟩⟩) au8 hMc ?_
  refine LD.tail rfl rfl ?_
  refine LM.ofAltO ?_
  refine LM.stW Tryz.sizeOf159 rfl rfl rfl rfl au7 au8 ?_
  refine LM.nil ?_
  refine QM.qn ?_
  refine QM.sub (e' := [(2, _), (3, _)]) au9 (QM.then ?_)
  refine wpM.ret ?_
  refine QM.block_ret ?_
  refine QM.then_ret ?_
  refine QM.leaveCs (ds := ([])) (.inl rfl) [.cell 2 159, .cell 3 159] Tryz.results106 hd_nil (rc_w rfl Tryz.isAgg159 Tryz.sizeOf159 rfl (rc_w rfl Tryz.isAgg159 Tryz.sizeOf159 rfl rc_nil)) ?_
  intro w' hm' hc'
  refine ⟨?_, hc'⟩; simp only [resV, loA, hiA, loB, hiB]; try ((repeat' split) <;> first | rfl | omega)
 refine wpM.seq ?_
 refine wpM.seq (wpM.region ?_)
 refine LM.val (ov_eql rfl rfl) ?_
 refine LM.as rfl ?_
 refine LM.nil (QM.sub (e' := [(2, _), (3, _), (4, _), (6, _), (11, _)]) au9 (QM.then ?_))
 refine wpM.condXD (t := 11) rfl (fun h2 => ?_) (fun h2 => ?_)
 ·
  refine wpM.skip ?_
  refine QM.then ?_
  refine wpM.condT rfl ?_
  refine wpM.seq ?_
  refine wpM.toAltO (b2) [.cells #[.int .i64 0, .int .i64 0] 159 (0, 0), .cells #[.int .i64 (0), .int .i64 (7)] 159 (0, 0)] (by first | exact .head _ | (simp; done)) (fun hMc => ?_)
  refine wpM.draw [(0, 0), (1, 1), (2, 2), (3, 3)] (by kernel_rfl) (by kernel_rfl) ?_
  refine LD.val rfl rfl (ov_build (cs := #[_, _]) rfl (by first | rfl | kernel_rfl)) ?_
  refine LD.rd rfl rfl (om_ldW Tryz.isAgg159 Tryz.sizeOf159 rfl rfl) ?_
  refine LD.stAltO [.cells #[.int .i64 (0), .int .i64 (7)] 159 (0, 0)] rfl rfl Tryz.sizeOf159 rfl rfl rfl (by decide) (by simp) (by simp only [List.forall_mem_cons, List.not_mem_nil, false_implies, implies_true, and_true]; exact ⟨⟨_, _, rfl, by decide, .head _⟩, ⟨_, _, rfl, by decide, .head _⟩⟩) au8 hMc ?_
  refine LD.tail rfl rfl ?_
  refine LM.ofAltO ?_
  refine LM.stW Tryz.sizeOf159 rfl rfl rfl rfl au7 au8 ?_
  refine LM.nil ?_
  refine QM.qn ?_
  refine QM.sub (e' := [(2, _), (3, _)]) au9 (QM.then ?_)
  refine wpM.ret ?_
  refine QM.block_ret ?_
  refine QM.then_ret ?_
  refine QM.leaveCs (ds := ([])) (.inl rfl) [.cell 2 159, .cell 3 159] Tryz.results106 hd_nil (rc_w rfl Tryz.isAgg159 Tryz.sizeOf159 rfl (rc_w rfl Tryz.isAgg159 Tryz.sizeOf159 rfl rc_nil)) ?_
  intro w' hm' hc'
  refine ⟨?_, hc'⟩; simp only [resV, loA, hiA, loB, hiB]; try ((repeat' split) <;> first | rfl | omega)
 refine wpM.seq (wpM.region ?_)
 refine LM.val (ov_eql rfl rfl) ?_
 refine LM.as rfl ?_
 refine LM.nil (QM.sub (e' := [(2, _), (3, _), (4, _), (6, _), (11, _)]) au9 (QM.then ?_))
 refine wpM.condXD (t := 11) rfl (fun h3 => ?_) (fun h3 => ?_)
 ·
  refine wpM.skip ?_
  refine QM.then ?_
  refine wpM.condT rfl ?_
  refine wpM.seq ?_
  refine wpM.toAltO (b2) [.cells #[.int .i64 0, .int .i64 0] 159 (0, 0), .cells #[.int .i64 (0), .int .i64 (7)] 159 (0, 0)] (by first | exact .head _ | (simp; done)) (fun hMc => ?_)
  refine wpM.draw [(0, 0), (1, 1), (2, 2), (3, 3)] (by kernel_rfl) (by kernel_rfl) ?_
  refine LD.val rfl rfl (ov_build (cs := #[_, _]) rfl (by first | rfl | kernel_rfl)) ?_
  refine LD.rd rfl rfl (om_ldW Tryz.isAgg159 Tryz.sizeOf159 rfl rfl) ?_
  refine LD.stAltO [.cells #[.int .i64 (0), .int .i64 (7)] 159 (0, 0)] rfl rfl Tryz.sizeOf159 rfl rfl rfl (by decide) (by simp) (by simp only [List.forall_mem_cons, List.not_mem_nil, false_implies, implies_true, and_true]; exact ⟨⟨_, _, rfl, by decide, .head _⟩, ⟨_, _, rfl, by decide, .head _⟩⟩) au8 hMc ?_
  refine LD.tail rfl rfl ?_
  refine LM.ofAltO ?_
  refine LM.stW Tryz.sizeOf159 rfl rfl rfl rfl au7 au8 ?_
  refine LM.nil ?_
  refine QM.qn ?_
  refine QM.sub (e' := [(2, _), (3, _)]) au9 (QM.then ?_)
  refine wpM.ret ?_
  refine QM.block_ret ?_
  refine QM.then_ret ?_
  refine QM.leaveCs (ds := ([])) (.inl rfl) [.cell 2 159, .cell 3 159] Tryz.results106 hd_nil (rc_w rfl Tryz.isAgg159 Tryz.sizeOf159 rfl (rc_w rfl Tryz.isAgg159 Tryz.sizeOf159 rfl rc_nil)) ?_
  intro w' hm' hc'
  refine ⟨?_, hc'⟩; simp only [resV, loA, hiA, loB, hiB]; try ((repeat' split) <;> first | rfl | omega)
 refine wpM.seq (wpM.region ?_)
 refine LM.val (ov_eql rfl rfl) ?_
 refine LM.as rfl ?_
 refine LM.nil (QM.sub (e' := [(2, _), (3, _), (4, _), (6, _), (11, _)]) au9 (QM.then ?_))
 refine wpM.condXD (t := 11) rfl (fun h4 => ?_) (fun h4 => ?_)
 ·
  refine wpM.skip ?_
  refine QM.then ?_
  refine wpM.condT rfl ?_
  refine wpM.seq ?_
  refine wpM.toAltO (b2) [.cells #[.int .i64 0, .int .i64 0] 159 (0, 0), .cells #[.int .i64 (0), .int .i64 (7)] 159 (0, 0)] (by first | exact .head _ | (simp; done)) (fun hMc => ?_)
  refine wpM.draw [(0, 0), (1, 1), (2, 2), (3, 3)] (by kernel_rfl) (by kernel_rfl) ?_
  refine LD.val rfl rfl (ov_build (cs := #[_, _]) rfl (by first | rfl | kernel_rfl)) ?_
  refine LD.rd rfl rfl (om_ldW Tryz.isAgg159 Tryz.sizeOf159 rfl rfl) ?_
  refine LD.stAltO [.cells #[.int .i64 (0), .int .i64 (7)] 159 (0, 0)] rfl rfl Tryz.sizeOf159 rfl rfl rfl (by decide) (by simp) (by simp only [List.forall_mem_cons, List.not_mem_nil, false_implies, implies_true, and_true]; exact ⟨⟨_, _, rfl, by decide, .head _⟩, ⟨_, _, rfl, by decide, .head _⟩⟩) au8 hMc ?_
  refine LD.tail rfl rfl ?_
  refine LM.ofAltO ?_
  refine LM.stW Tryz.sizeOf159 rfl rfl rfl rfl au7 au8 ?_
  refine LM.nil ?_
  refine QM.qn ?_
  refine QM.sub (e' := [(2, _), (3, _)]) au9 (QM.then ?_)
  refine wpM.ret ?_
  refine QM.block_ret ?_
  refine QM.then_ret ?_
  refine QM.leaveCs (ds := ([])) (.inl rfl) [.cell 2 159, .cell 3 159] Tryz.results106 hd_nil (rc_w rfl Tryz.isAgg159 Tryz.sizeOf159 rfl (rc_w rfl Tryz.isAgg159 Tryz.sizeOf159 rfl rc_nil)) ?_
  intro w' hm' hc'
  refine ⟨?_, hc'⟩; simp only [resV, loA, hiA, loB, hiB]; try ((repeat' split) <;> first | rfl | omega)
 refine wpM.seq (wpM.region ?_)
 refine LM.val (ov_eql rfl rfl) ?_
 refine LM.as rfl ?_
 refine LM.nil (QM.sub (e' := [(2, _), (3, _), (4, _), (6, _), (11, _)]) au9 (QM.then ?_))
 refine wpM.condXD (t := 11) rfl (fun h5 => ?_) (fun h5 => ?_)
 ·
  refine wpM.skip ?_
  refine QM.then ?_
  refine wpM.condT rfl ?_
  refine wpM.seq ?_
  refine wpM.toAltO (b2) [.cells #[.int .i64 0, .int .i64 0] 159 (0, 0), .cells #[.int .i64 (0), .int .i64 (7)] 159 (0, 0)] (by first | exact .head _ | (simp; done)) (fun hMc => ?_)
  refine wpM.draw [(0, 0), (1, 1), (2, 2), (3, 3)] (by kernel_rfl) (by kernel_rfl) ?_
  refine LD.val rfl rfl (ov_build (cs := #[_, _]) rfl (by first | rfl | kernel_rfl)) ?_
  refine LD.rd rfl rfl (om_ldW Tryz.isAgg159 Tryz.sizeOf159 rfl rfl) ?_
  refine LD.stAltO [.cells #[.int .i64 (0), .int .i64 (7)] 159 (0, 0)] rfl rfl Tryz.sizeOf159 rfl rfl rfl (by decide) (by simp) (by simp only [List.forall_mem_cons, List.not_mem_nil, false_implies, implies_true, and_true]; exact ⟨⟨_, _, rfl, by decide, .head _⟩, ⟨_, _, rfl, by decide, .head _⟩⟩) au8 hMc ?_
  refine LD.tail rfl rfl ?_
  refine LM.ofAltO ?_
  refine LM.stW Tryz.sizeOf159 rfl rfl rfl rfl au7 au8 ?_
  refine LM.nil ?_
  refine QM.qn ?_
  refine QM.sub (e' := [(2, _), (3, _)]) au9 (QM.then ?_)
  refine wpM.ret ?_
  refine QM.block_ret ?_
  refine QM.then_ret ?_
  refine QM.leaveCs (ds := ([])) (.inl rfl) [.cell 2 159, .cell 3 159] Tryz.results106 hd_nil (rc_w rfl Tryz.isAgg159 Tryz.sizeOf159 rfl (rc_w rfl Tryz.isAgg159 Tryz.sizeOf159 rfl rc_nil)) ?_
  intro w' hm' hc'
  refine ⟨?_, hc'⟩; simp only [resV, loA, hiA, loB, hiB]; try ((repeat' split) <;> first | rfl | omega)
 refine wpM.region ?_
 refine LM.val (ov_eql rfl rfl) ?_
 refine LM.as rfl ?_
 refine LM.nil (QM.sub (e' := [(2, _), (3, _), (4, _), (6, _), (11, _)]) au9 (QM.then ?_))
 refine wpM.condD rfl (fun h6 => ?_) (fun h6 => ?_)
 ·
  refine wpM.seq ?_
  refine wpM.toAltO (b2) [.cells #[.int .i64 0, .int .i64 0] 159 (0, 0), .cells #[.int .i64 (0), .int .i64 (7)] 159 (0, 0)] (by first | exact .head _ | (simp; done)) (fun hMc => ?_)
  refine wpM.draw [(0, 0), (1, 1), (2, 2), (3, 3)] (by kernel_rfl) (by kernel_rfl) ?_
  refine LD.val rfl rfl (ov_build (cs := #[_, _]) rfl (by first | rfl | kernel_rfl)) ?_
  refine LD.rd rfl rfl (om_ldW Tryz.isAgg159 Tryz.sizeOf159 rfl rfl) ?_
  refine LD.stAltO [.cells #[.int .i64 (0), .int .i64 (7)] 159 (0, 0)] rfl rfl Tryz.sizeOf159 rfl rfl rfl (by decide) (by simp) (by simp only [List.forall_mem_cons, List.not_mem_nil, false_implies, implies_true, and_true]; exact ⟨⟨_, _, rfl, by decide, .head _⟩, ⟨_, _, rfl, by decide, .head _⟩⟩) au8 hMc ?_
  refine LD.tail rfl rfl ?_
  refine LM.ofAltO ?_
  refine LM.stW Tryz.sizeOf159 rfl rfl rfl rfl au7 au8 ?_
  refine LM.nil ?_
  refine QM.qn ?_
  refine QM.sub (e' := [(2, _), (3, _)]) au9 (QM.then ?_)
  refine wpM.ret ?_
  refine QM.block_ret ?_
  refine QM.then_ret ?_
  refine QM.leaveCs (ds := ([])) (.inl rfl) [.cell 2 159, .cell 3 159] Tryz.results106 hd_nil (rc_w rfl Tryz.isAgg159 Tryz.sizeOf159 rfl (rc_w rfl Tryz.isAgg159 Tryz.sizeOf159 rfl rc_nil)) ?_
  intro w' hm' hc'
  refine ⟨?_, hc'⟩; simp only [resV, loA, hiA, loB, hiB]; try ((repeat' split) <;> first | rfl | omega)
 refine wpM.seq (wpM.region ?_)
 refine LM.val (ov_eql rfl rfl) ?_
 refine LM.as rfl ?_
 refine LM.nil (QM.sub (e' := [(2, _), (3, _), (4, _), (6, _), (19, _)]) au9 (QM.then ?_))
 refine wpM.condD rfl (fun h7 => ?_) (fun h7 => ?_)
 ·
  refine wpM.seq (wpM.region ?_)
  refine LM.val (ov_build (cs := #[_, _]) rfl (by first | rfl | kernel_rfl)) ?_
  refine LM.val (ov_build (cs := #[_, _]) rfl (by first | rfl | kernel_rfl)) ?_
  refine LM.stW Tryz.sizeOf159 rfl rfl rfl rfl au7 au8 ?_
  refine LM.stW Tryz.sizeOf159 rfl rfl rfl rfl au7 au8 ?_
  refine LM.nil (QM.sub (e' := [(2, _), (3, _)]) au9 (QM.then ?_))
  refine wpM.ret ?_
  refine QM.block_ret ?_
  refine QM.then_ret ?_
  refine QM.leaveCs (ds := ([])) (.inl rfl) [.cell 2 159, .cell 3 159] Tryz.results106 hd_nil (rc_w rfl Tryz.isAgg159 Tryz.sizeOf159 rfl (rc_w rfl Tryz.isAgg159 Tryz.sizeOf159 rfl rc_nil)) ?_
  intro w' hm' hc'
  refine ⟨?_, hc'⟩; simp only [resV, loA, hiA, loB, hiB]; try ((repeat' split) <;> first | rfl | omega)
 refine wpM.seq (wpM.region ?_)
 refine LM.val (ov_eql rfl rfl) ?_
 refine LM.as rfl ?_
 refine LM.nil (QM.sub (e' := [(2, _), (3, _), (4, _), (6, _), (23, _)]) au9 (QM.then ?_))
 refine wpM.condD rfl (fun h8 => ?_) (fun h8 => ?_)
 ·
  refine wpM.seq ?_
  refine wpM.toAltO (b2) [.cells #[.int .i64 0, .int .i64 0] 159 (0, 0), .cells #[.int .i64 (1), .int .i64 (64)] 159 (0, 0)] (by first | exact .head _ | (simp; done)) (fun hMc => ?_)
  refine wpM.draw [(0, 0), (1, 1), (2, 2), (3, 3)] (by kernel_rfl) (by kernel_rfl) ?_
  refine LD.val rfl rfl (ov_build (cs := #[_, _]) rfl (by first | rfl | kernel_rfl)) ?_
  refine LD.rd rfl rfl (om_ldW Tryz.isAgg159 Tryz.sizeOf159 rfl rfl) ?_
  refine LD.stAltO [.cells #[.int .i64 (1), .int .i64 (64)] 159 (0, 0)] rfl rfl Tryz.sizeOf159 rfl rfl rfl (by decide) (by simp) (by simp only [List.forall_mem_cons, List.not_mem_nil, false_implies, implies_true, and_true]; exact ⟨⟨_, _, rfl, by decide, .head _⟩, ⟨_, _, rfl, by decide, .head _⟩⟩) au8 hMc ?_
  refine LD.tail rfl rfl ?_
  refine LM.ofAltO ?_
  refine LM.stW Tryz.sizeOf159 rfl rfl rfl rfl au7 au8 ?_
  refine LM.nil ?_
  refine QM.qn ?_
  refine QM.sub (e' := [(2, _), (3, _)]) au9 (QM.then ?_)
  refine wpM.ret ?_
  refine QM.block_ret ?_
  refine QM.then_ret ?_
  refine QM.leaveCs (ds := ([])) (.inl rfl) [.cell 2 159, .cell 3 159] Tryz.results106 hd_nil (rc_w rfl Tryz.isAgg159 Tryz.sizeOf159 rfl (rc_w rfl Tryz.isAgg159 Tryz.sizeOf159 rfl rc_nil)) ?_
  intro w' hm' hc'
  refine ⟨?_, hc'⟩; simp only [resV, loA, hiA, loB, hiB]; try ((repeat' split) <;> first | rfl | omega)
 refine wpM.seq (wpM.region ?_)
 refine LM.val (ov_eql rfl rfl) ?_
 refine LM.as rfl ?_
 refine LM.nil (QM.sub (e' := [(2, _), (3, _), (4, _), (27, _)]) au9 (QM.then ?_))
 refine wpM.condD rfl (fun h9 => ?_) (fun h9 => ?_)
 ·
  refine wpM.seq ?_
  refine wpM.toAltO (b2) [.cells #[.int .i64 0, .int .i64 0] 159 (0, 0), .cells #[.int .i64 (1), .int .i64 (16)] 159 (0, 0)] (by first | exact .head _ | (simp; done)) (fun hMc => ?_)
  refine wpM.draw [(0, 0), (1, 1), (2, 2), (3, 3)] (by kernel_rfl) (by kernel_rfl) ?_
  refine LD.val rfl rfl (ov_build (cs := #[_, _]) rfl (by first | rfl | kernel_rfl)) ?_
  refine LD.rd rfl rfl (om_ldW Tryz.isAgg159 Tryz.sizeOf159 rfl rfl) ?_
  refine LD.stAltO [.cells #[.int .i64 (1), .int .i64 (16)] 159 (0, 0)] rfl rfl Tryz.sizeOf159 rfl rfl rfl (by decide) (by simp) (by simp only [List.forall_mem_cons, List.not_mem_nil, false_implies, implies_true, and_true]; exact ⟨⟨_, _, rfl, by decide, .head _⟩, ⟨_, _, rfl, by decide, .head _⟩⟩) au8 hMc ?_
  refine LD.tail rfl rfl ?_
  refine LM.ofAltO ?_
  refine LM.stW Tryz.sizeOf159 rfl rfl rfl rfl au7 au8 ?_
  refine LM.nil ?_
  refine QM.qn ?_
  refine QM.sub (e' := [(2, _), (3, _)]) au9 (QM.then ?_)
  refine wpM.ret ?_
  refine QM.block_ret ?_
  refine QM.then_ret ?_
  refine QM.leaveCs (ds := ([])) (.inl rfl) [.cell 2 159, .cell 3 159] Tryz.results106 hd_nil (rc_w rfl Tryz.isAgg159 Tryz.sizeOf159 rfl (rc_w rfl Tryz.isAgg159 Tryz.sizeOf159 rfl rc_nil)) ?_
  intro w' hm' hc'
  refine ⟨?_, hc'⟩; simp only [resV, loA, hiA, loB, hiB]; try ((repeat' split) <;> first | rfl | omega)
 refine wpM.skip ?_
 refine QM.block_normal ?_
 refine QM.then ?_
 refine wpM.seq ?_
 refine wpM.toAltO (b2) [.cells #[.int .i64 0, .int .i64 0] 159 (0, 0), .cells #[.int .i64 (-1), .int .i64 (-1)] 159 (0, 0)] (by first | exact .head _ | (simp; done)) (fun hMc => ?_)
 refine wpM.draw [(0, 1), (1, 1), (2, 2), (3, 3)] (by kernel_rfl) (by kernel_rfl) ?_
 refine LD.rd rfl rfl (om_ldW Tryz.isAgg159 Tryz.sizeOf159 rfl rfl) ?_
 refine LD.rd rfl rfl (om_ldW Tryz.isAgg159 Tryz.sizeOf159 rfl rfl) ?_
 refine LD.stAltO [.cells #[.int .i64 (-1), .int .i64 (-1)] 159 (0, 0)] rfl rfl Tryz.sizeOf159 rfl rfl rfl (by decide) (by simp) (by simp only [List.forall_mem_cons, List.not_mem_nil, false_implies, implies_true, and_true]; exact ⟨⟨_, _, rfl, by decide, .head _⟩, ⟨_, _, rfl, by decide, .head _⟩⟩) au8 hMc ?_
 refine LD.tail rfl rfl ?_
 refine LM.ofAltO ?_
 refine LM.stW Tryz.sizeOf159 rfl rfl rfl rfl au7 au8 ?_
 refine LM.nil ?_
 refine QM.qn ?_
 refine QM.sub (e' := [(2, _), (3, _)]) au9 (QM.then ?_)
 refine wpM.ret ?_
 refine QM.leaveCs (ds := ([])) (.inl rfl) [.cell 2 159, .cell 3 159] Tryz.results106 hd_nil (rc_w rfl Tryz.isAgg159 Tryz.sizeOf159 rfl (rc_w rfl Tryz.isAgg159 Tryz.sizeOf159 rfl rc_nil)) ?_
 intro w' hm' hc'
 refine ⟨?_, hc'⟩; simp only [resV, loA, hiA, loB, hiB]; try ((repeat' split) <;> first | rfl | omega)
set_option maxRecDepth 100000 in
theorem has_spec (lo hi n : Int) (w : World) : Ret Tryz.prog 165 #[.agg #[.int .i64 lo, .int .i64 hi], .int .i64 n] w (fun v w' => v = .bool (hasB lo hi n) ∧ Ext w w') := by
 refine Ret.enterM (l := [.agg #[.int .i64 lo, .int .i64 hi], .int .i64 n]) Tryz.func165 rfl Tryz.ntmps165 rfl ([]) (no) (Mem.nil w) ?_
 refine wpM.seq (wpM.region ?_)
 refine LM.box rfl rfl (fun b2 hb2 => ?_)
 refine LM.as rfl ?_
 refine LM.nil (QM.sub (e' := [(1, _), (2, _)]) au9 (QM.then ?_))
 refine wpM.seq ?_
 refine wpM.seq (wpM.region ?_)
 refine LM.val (ov_field Tryz.underlying159 rfl Tryz.sizeOf3 rfl (k := 0) rfl rfl) ?_
 refine LM.rd (om_ld Tryz.isAgg3 rfl rfl) ?_
 refine LM.val (ov_eql rfl rfl) ?_
 refine LM.nil (QM.sub (e' := [(1, _), (2, _), (7, _)]) au9 (QM.then ?_))
 refine wpM.condD rfl (fun h1 => ?_) (fun h1 => ?_)
 ·
  refine wpM.seq (wpM.region ?_)
  refine LM.mv rfl ?_
  refine LM.val (ov_eql rfl rfl) ?_
  refine LM.as rfl ?_
  refine LM.nil (QM.sub (e' := [(4, _)]) ⟨rfl, trivial⟩ (QM.then ?_))
  refine wpM.ret ?_
  refine QM.then_ret ?_
  refine QM.leave (.inl rfl) [.tmp 4] Tryz.results165 rfl ?_
  intro w' hm' hc' hg'
  refine ⟨?_, hc'⟩; simp only [resV, hasB]; simp only [h1, decide_true, decide_false, Bool.true_and, Bool.false_and, Bool.and_true, Bool.and_false, Bool.not_true, Bool.not_false, Bool.true_or, Bool.false_or, Bool.or_true, Bool.or_false, ne_eq, not_true_eq_false, not_false_eq_true, Bool.and_self, if_true, if_false, reduceIte]
 refine wpM.skip ?_
 refine QM.then (wpM.seq (wpM.region ?_))
 refine LM.mv rfl (LM.val (ov_field Tryz.underlying159 rfl Tryz.sizeOf3 rfl (k := 0) rfl rfl) ?_)
 refine LM.rd (om_ld Tryz.isAgg3 rfl rfl) ?_
 refine LM.val (ov_geq rfl rfl) ?_
 refine LM.mv rfl ?_
 refine LM.splitD (t := 14) rfl (fun h2 => ?_) (fun h2 => ?_)
 ·
  refine LM.sp 14 rfl rfl rfl (LM.mv rfl (LM.sp 14 rfl rfl rfl (LM.val (ov_field Tryz.underlying159 rfl Tryz.sizeOf3 rfl (k := 1) rfl rfl) (LM.sp 14 rfl rfl rfl ?_))))
  refine LM.rd (om_ld Tryz.isAgg3 rfl rfl) ?_
  refine LM.sp 14 rfl rfl rfl ?_
  refine LM.val (ov_leq rfl rfl) ?_
  refine LM.val (ov_pickT rfl rfl) ?_
  refine LM.as rfl ?_
  refine LM.nil (QM.sub (e' := [(4, _)]) ⟨rfl, trivial⟩ (QM.then ?_))
  refine wpM.ret ?_
  refine QM.leave (.inl rfl) [.tmp 4] Tryz.results165 rfl ?_
  intro w' hm' hc' hg'
  refine ⟨?_, hc'⟩; simp only [resV, hasB]; simp only [h1, h2, decide_true, decide_false, Bool.true_and, Bool.false_and, Bool.and_true, Bool.and_false, Bool.not_true, Bool.not_false, Bool.true_or, Bool.false_or, Bool.or_true, Bool.or_false, ne_eq, not_true_eq_false, not_false_eq_true, Bool.and_self, if_true, if_false, reduceIte]
 refine LM.dr 14 rfl rfl rfl (LM.dr 14 rfl rfl rfl (LM.dr 14 rfl rfl rfl (LM.dr 14 rfl rfl rfl ?_)))
 refine LM.val (ov_pickF rfl rfl) ?_
 refine LM.as rfl ?_
 refine LM.nil (QM.sub (e' := [(4, _)]) ⟨rfl, trivial⟩ (QM.then ?_))
 refine wpM.ret ?_
 refine QM.leave (.inl rfl) [.tmp 4] Tryz.results165 rfl ?_
 intro w' hm' hc' hg'
 refine ⟨?_, hc'⟩; simp only [resV, hasB]; simp only [h1, h2, decide_true, decide_false, Bool.true_and, Bool.false_and, Bool.and_true, Bool.and_false, Bool.not_true, Bool.not_false, Bool.true_or, Bool.false_or, Bool.or_true, Bool.or_false, ne_eq, not_true_eq_false, not_false_eq_true, Bool.and_self, if_true, if_false, reduceIte]
set_option maxRecDepth 100000 in
theorem right_spec (o : COp) (w : World) : Ret Tryz.prog 140 #[.agg (fO o).toArray] w (fun v w' => v = .bool (rightB o) ∧ Ext w w') := by
 refine Ret.enterM (l := [.agg (fO o).toArray]) Tryz.func140 rfl Tryz.ntmps140 rfl ([]) (no) (Mem.nil w) ?_
 refine wpM.seq (wpM.region ?_)
 refine LM.box rfl rfl (fun b1 hb1 => ?_)
 refine LM.as rfl ?_
 refine LM.nil (QM.sub (e' := [(1, _)]) ⟨rfl, trivial⟩ (QM.then (wpM.seq (wpM.region ?_))))
 refine LM.val (ov_field Tryz.underlying135 rfl Tryz.sizeOf3 rfl (k := 0) rfl rfl) ?_
 refine LM.rd (om_ld Tryz.isAgg3 rfl rfl) ?_
 refine LM.callE (oc_call (enters_fn Tryz.func106 (by kernel_rfl) rfl) rfl) (fun w hm hc hg => spans_spec o.k w) ?_
 refine LM.mv rfl ?_
 refine LM.val (ov_extract rfl rfl) ?_
 refine LM.val (ov_extract rfl rfl) ?_
 refine LM.alloc Tryz.zeroValue159 rfl (fun b3 hb3 => ?_)
 refine LM.alloc Tryz.zeroValue159 rfl (fun b4 hb4 => ?_)
 refine LM.stW Tryz.sizeOf159 rfl rfl rfl rfl au7 au8 ?_
 refine LM.stW Tryz.sizeOf159 rfl rfl rfl rfl au7 au8 ?_
 refine LM.nil (QM.sub (e' := [(1, _), (3, _), (4, _)]) au9 (QM.then (wpM.seq (wpM.region ?_))))
 refine LM.val (ov_field Tryz.underlying135 rfl Tryz.sizeOf3 rfl (k := 0) rfl rfl) ?_
 refine LM.rd (om_ld Tryz.isAgg3 rfl rfl) ?_
 refine LM.callE (oc_call (enters_fn Tryz.func105 (by kernel_rfl) rfl) rfl) (fun w hm hc hg => name_spec o.k w) ?_
 refine LM.val (ov_sneqL rfl rfl) ?_
 refine LM.mv rfl ?_
 refine LM.splitD (t := 15) rfl (fun h1 => ?_) (fun h1 => ?_)
 ·
  refine LM.sp 15 rfl rfl rfl ?_
  refine LM.rd (om_ldW Tryz.isAgg159 Tryz.sizeOf159 rfl rfl) ?_
  refine LM.sp 15 rfl rfl rfl (LM.val (ov_field Tryz.underlying135 rfl Tryz.sizeOf3 rfl (k := 1) rfl rfl) (LM.sp 15 rfl rfl rfl ?_))
  refine LM.rd (om_ld Tryz.isAgg3 rfl rfl) ?_
  refine LM.sp 15 rfl rfl rfl ?_
  refine LM.callE (oc_call (enters_fn Tryz.func165 (by kernel_rfl) rfl) rfl) (fun w hm hc hg => has_spec _ _ _ w) ?_
  refine LM.val (ov_pickT rfl rfl) ?_
  refine LM.mv rfl ?_
  first | refine LM.splitD (t := 21) rfl (fun h2 => ?_) (fun h2 => ?_) | refine LM.splitB (t := 21) rfl (fun h2 => ?_) (fun h2 => ?_)
  ·
   refine LM.sp 21 rfl rfl rfl ?_
   refine LM.rd (om_ldW Tryz.isAgg159 Tryz.sizeOf159 rfl rfl) ?_
   refine LM.sp 21 rfl rfl rfl (LM.val (ov_field Tryz.underlying135 rfl Tryz.sizeOf3 rfl (k := 2) rfl rfl) (LM.sp 21 rfl rfl rfl ?_))
   refine LM.rd (om_ld Tryz.isAgg3 rfl rfl) ?_
   refine LM.sp 21 rfl rfl rfl ?_
   refine LM.callE (oc_call (enters_fn Tryz.func165 (by kernel_rfl) rfl) rfl) (fun w hm hc hg => has_spec _ _ _ w) ?_
   refine LM.val (ov_pickT rfl rfl) ?_
   refine LM.as rfl ?_
   refine LM.nil (QM.sub (e' := [(2, _)]) ⟨rfl, trivial⟩ (QM.then ?_))
   refine wpM.ret ?_
   refine QM.leave (.inl rfl) [.tmp 2] Tryz.results140 rfl ?_
   intro w' hm' hc' hg'
   refine ⟨?_, hc'⟩; have hk := nmT_empty o.k; simp only [resV, rightB, ← hk]; simp only [h1, h2, decide_true, decide_false, Bool.true_and, Bool.false_and, Bool.and_true, Bool.and_false, Bool.not_true, Bool.not_false, Bool.true_or, Bool.false_or, Bool.or_true, Bool.or_false, ne_eq, not_true_eq_false, not_false_eq_true, Bool.and_self]
  refine LM.dr 21 rfl rfl rfl (LM.dr 21 rfl rfl rfl (LM.dr 21 rfl rfl rfl (LM.dr 21 rfl rfl rfl ?_)))
  refine LM.val (ov_pickF rfl rfl) ?_
  refine LM.as rfl ?_
  refine LM.nil (QM.sub (e' := [(2, _)]) ⟨rfl, trivial⟩ (QM.then ?_))
  refine wpM.ret ?_
  refine QM.leave (.inl rfl) [.tmp 2] Tryz.results140 rfl ?_
  intro w' hm' hc' hg'
  refine ⟨?_, hc'⟩; have hk := nmT_empty o.k; simp only [resV, rightB, ← hk]; simp only [h1, h2, decide_true, decide_false, Bool.true_and, Bool.false_and, Bool.and_true, Bool.and_false, Bool.not_true, Bool.not_false, Bool.true_or, Bool.false_or, Bool.or_true, Bool.or_false, ne_eq, not_true_eq_false, not_false_eq_true, Bool.and_self]
 refine LM.dr 15 rfl rfl rfl (LM.dr 15 rfl rfl rfl (LM.dr 15 rfl rfl rfl (LM.dr 15 rfl rfl rfl ?_)))
 refine LM.val (ov_pickF rfl rfl) ?_
 refine LM.mv rfl (LM.dr 21 rfl rfl rfl (LM.dr 21 rfl rfl rfl (LM.dr 21 rfl rfl rfl (LM.dr 21 rfl rfl rfl ?_))))
 refine LM.val (ov_pickF rfl rfl) ?_
 refine LM.as rfl ?_
 refine LM.nil (QM.sub (e' := [(2, _)]) ⟨rfl, trivial⟩ (QM.then ?_))
 refine wpM.ret ?_
 refine QM.leave (.inl rfl) [.tmp 2] Tryz.results140 rfl ?_
 intro w' hm' hc' hg'
 refine ⟨?_, hc'⟩; have hk := nmT_empty o.k; simp only [resV, rightB, ← hk]; simp only [h1, decide_true, decide_false, Bool.true_and, Bool.false_and, Bool.and_true, Bool.and_false, Bool.not_true, Bool.not_false, Bool.true_or, Bool.false_or, Bool.or_true, Bool.or_false, ne_eq, not_true_eq_false, not_false_eq_true, Bool.and_self]
set_option maxRecDepth 100000 in
theorem may1_spec (o : COp) (w : World) : Ret Tryz.prog 139 #[.agg (fO o).toArray] w (fun v w' => v = .bool (!rightB o) ∧ Ext w w') := by
 refine Ret.enterM (l := [.agg (fO o).toArray]) Tryz.func139 rfl Tryz.ntmps139 rfl ([]) (no) (Mem.nil w) ?_
 refine wpM.seq (wpM.region ?_)
 refine LM.box rfl rfl (fun b1 hb1 => ?_)
 refine LM.as rfl ?_
 refine LM.nil (QM.sub (e' := [(1, _)]) ⟨rfl, trivial⟩ (QM.then (wpM.seq (wpM.region ?_))))
 refine LM.rd (om_ldW Tryz.isAgg135 Tryz.sizeOf135 rfl rfl) ?_
 refine LM.callE (oc_call (enters_fn Tryz.func140 (by kernel_rfl) rfl) rfl) (fun w hm hc hg => right_spec o w) ?_
 first | refine LM.val (ov_notD rfl) ?_ | refine LM.val (ov_not rfl) ?_
 refine LM.as rfl ?_
 refine LM.nil (QM.sub (e' := [(2, _)]) ⟨rfl, trivial⟩ (QM.then ?_))
 refine wpM.ret ?_
 refine QM.leave (.inl rfl) [.tmp 2] Tryz.results139 rfl ?_
 intro w' hm' hc' hg'
 exact ⟨rfl, hc'⟩
set_option maxRecDepth 100000 in
theorem ixf_may {xs : List COp} {ad : Option Addr} {n cap : Nat} (w : World) (hn : n = xs.length) (hl : Sr fO 3 xs (.slice ad n cap) w) (hx : xs.length ≤ 1000000) : Ret Tryz.prog 153 #[.slice ad n cap, .func (.func 139) #[] #[]] w (fun v w' => v = .int .i64 (fixI (fun o => !rightB o) xs) ∧ Ext w w') := by
 refine Ret.enterM (l := [.slice ad n cap, .func (.func 139) #[] #[]]) Tryz.func153 rfl Tryz.ntmps153 rfl ([]) (no) (Mem.nil w) ?_
 refine wpM.seq (wpM.region ?_)
 refine LM.as rfl ?_
 refine LM.nil (QM.sub (e' := [(0, _), (1, _)]) au9 (QM.then ?_))
 refine wpM.seq ?_
 refine wpM.seq (wpM.region ?_)
 refine LM.mv rfl ?_
 refine LM.val (ov_len Tryz.underlying85 rfl) ?_
 refine LM.mv rfl ?_
 refine LM.nil (QM.sub (e' := [(0, _), (1, _), (7, _), (8, _)]) au9 (QM.then ?_))
 refine wpM.block ?_
 refine wpM.loopK0 (α := Nat) (fun i => [(8, .int .i64 (i : Nat))]) [(0, _), (1, _), (7, _)] (fun i => []) (fun i => i ≤ xs.length ∧ (xs.take i).any (fun o => !rightB o) = false) (fun i => xs.length - i) (0) ⟨au2, rfl, rfl, rfl, trivial⟩ au1 ⟨Nat.zero_le _, rfl⟩ ?_
 rintro i ⟨hi, ha⟩
 change wpM _ _ _ _ _ _ _ ([]) _ _ _
 refine wpM.seq (wpM.region ?_)
 refine LM.val (ov_lss rfl rfl) ?_
 refine LM.nil (QM.sub (e' := [(0, _), (1, _), (7, _), (8, _), (9, _)]) au9 (QM.then ?_))
 refine wpM.seq ?_
 refine wpM.condD rfl (fun h1 => ?_) (fun h1 => ?_)
 ·
  refine wpM.skip ?_
  refine QM.then ?_
  refine wpM.seq ?_
  refine wpM.block ?_
  refine wpM.seq (wpM.region ?_)
  refine LM.mv rfl (LM.as rfl ?_)
  refine LM.nil (QM.sub (e' := [(0, _), (1, _), (5, _), (7, _), (8, _)]) au9 (QM.then (wpM.seq (wpM.region ?_))))
  refine LM.mv rfl (LM.mv rfl (LM.mv rfl ?_))
  refine LM.val (ov_idxSN au6 Tryz.underlying85 Tryz.sizeOf135 rfl rfl (by omega)) ?_
  first | refine LM.rd (om_slA (by assumption) (by intro _; rfl) Tryz.isAgg135 Tryz.sizeOf135 rfl au3) ?_ | refine LM.rdC (om_srEA (by assumption) (by intro _; rfl) Tryz.isAgg135 Tryz.sizeOf135 rfl au3 id) ?_ | refine LM.rd (om_ldW Tryz.isAgg135 Tryz.sizeOf135 rfl rfl) ?_ | refine LM.rd (om_ldA Tryz.isAgg135 Tryz.sizeOf135 rfl (vs := [_, _, _]) rfl ⟨rfl, rfl, rfl, trivial⟩) ?_
  refine LM.callE (oc_callV rfl (enters_fn Tryz.func139 (by kernel_rfl) rfl) rfl) (fun w hm hc hg => may1_spec _ w) ?_
  refine LM.nil (QM.sub (e' := [(0, _), (1, _), (5, _), (7, _), (8, _), (16, _)]) au9 (QM.then ?_))
  first | refine wpM.condD rfl (fun h2 => ?_) (fun h2 => ?_) | refine wpM.condB rfl (fun h2 => ?_) (fun h2 => ?_)
  ·
   refine wpM.seq (wpM.region ?_)
   refine LM.mv rfl (LM.as rfl ?_)
   refine LM.nil (QM.sub (e' := [(4, _)]) ⟨rfl, trivial⟩ (QM.then ?_))
   refine wpM.ret ?_
   refine QM.block_ret ?_
   refine QM.then_ret ?_
   refine QM.then_ret ?_
   refine QM.block_ret ?_
   refine QM.then_ret ?_
   refine QM.leave (.inl rfl) [.tmp 4] Tryz.results153 rfl ?_
   intro w' hm' hc' hg'
   exact ⟨by show Value.int .i64 _ = _; rw [fix_hit default ha (by omega) (by simpa using h2)], hc'⟩
  refine wpM.skip ?_
  refine QM.block_normal ?_
  refine QM.then (wpM.region ?_)
  refine LM.val (ov_add64 rfl rfl (by omega)) ?_
  refine LM.mv rfl ?_
  refine LM.nil (QM.sub (e' := [(0, _), (1, _), (7, _), (8, _)]) au9 ?_)
  refine QM.againK (i + 1) ⟨au2, rfl, rfl, rfl, trivial⟩ au1 (fun _ h => h) ?_ ?_
  · exact ⟨by omega, by rw [any_snoc default (by omega), ha, Bool.false_or]; simpa using h2⟩
  · omega
 refine wpM.exit ?_
 refine QM.then_exit ?_
 refine QM.then_exit ?_
 refine QM.block_hit ?_
 refine QM.then (wpM.seq (wpM.region ?_))
 refine LM.as rfl ?_
 refine LM.nil (QM.sub (e' := [(4, _)]) ⟨rfl, trivial⟩ (QM.then ?_))
 refine wpM.ret ?_
 refine QM.leave (.inl rfl) [.tmp 4] Tryz.results153 rfl ?_
 intro w' hm' hc' hg'
 have hil : i = xs.length := (by omega); subst hil; rw [List.take_length] at ha; exact ⟨by show Value.int .i64 _ = _; rw [fix_miss ha], hc'⟩
set_option maxRecDepth 100000 in
theorem cof_may {xs : List COp} {ad : Option Addr} {n cap : Nat} (w : World) (hn : n = xs.length) (hl : Sr fO 3 xs (.slice ad n cap) w) (hx : xs.length ≤ 1000000) : Ret Tryz.prog 131 #[.slice ad n cap, .func (.func 139) #[] #[]] w (fun v w' => v = .bool (xs.any (fun o => !rightB o)) ∧ Ext w w') := by
 refine Ret.enterM (l := [.slice ad n cap, .func (.func 139) #[] #[]]) Tryz.func131 rfl Tryz.ntmps131 rfl ([]) (no) (Mem.nil w) ?_
 refine wpM.seq (wpM.region ?_)
 refine LM.as rfl ?_
 refine LM.nil (QM.sub (e' := [(0, _), (1, _)]) au9 (QM.then (wpM.seq (wpM.region ?_))))
 refine LM.mv rfl (LM.mv rfl ?_)
 refine LM.callE (oc_call (enters_fn Tryz.func153 (by kernel_rfl) rfl) rfl) (fun w hm hc hg => ixf_may w hn (hl.ext hc) hx) ?_
 refine LM.val (ov_geq rfl rfl) ?_
 refine LM.as rfl ?_
 refine LM.nil (QM.sub (e' := [(4, _)]) ⟨rfl, trivial⟩ (QM.then ?_))
 refine wpM.ret ?_
 refine QM.leave (.inl rfl) [.tmp 4] Tryz.results131 rfl ?_
 intro w' hm' hc' hg'
 exact ⟨by show Value.bool _ = _; rw [← fix_pos], hc'⟩
set_option maxRecDepth 100000 in
theorem pmay_spec {xs : List COp} {fv : Bool} {ad : Option Addr} {n cap : Nat} (w : World) (hn : n = xs.length) (hl : Sr fO 3 xs (.slice ad n cap) w) : Ret Tryz.prog 103 #[pV fv ad n cap] w (fun v w' => v = .bool (mayB xs) ∧ Ext w w') := by
 refine Ret.enterM (l := [pV fv ad n cap]) Tryz.func103 rfl Tryz.ntmps103 rfl ([]) (no) (Mem.nil w) ?_
 refine wpM.seq (wpM.region ?_)
 refine LM.box rfl rfl (fun b1 hb1 => ?_)
 refine LM.as rfl ?_
 refine LM.nil (QM.sub (e' := [(1, _)]) ⟨rfl, trivial⟩ (QM.then (wpM.seq (wpM.region ?_))))
 refine LM.val (ov_field Tryz.underlying87 rfl Tryz.sizeOf85 rfl (k := 1) rfl rfl) ?_
 refine LM.rd (om_ld Tryz.isAgg85 rfl rfl) ?_
 refine LM.val (ov_len Tryz.underlying85 rfl) ?_
 refine LM.val (ov_gtr rfl rfl) ?_
 refine LM.mv rfl ?_
 refine LM.splitD (t := 7) rfl (fun h1 => ?_) (fun h1 => ?_)
 ·
  refine LM.sp 7 rfl rfl rfl (LM.val (ov_field Tryz.underlying87 rfl Tryz.sizeOf85 rfl (k := 1) rfl rfl) (LM.sp 7 rfl rfl rfl ?_))
  refine LM.rd (om_ld Tryz.isAgg85 rfl rfl) ?_
  refine LM.sp 7 rfl rfl rfl ?_
  refine LM.val (ov_len Tryz.underlying85 rfl) ?_
  refine LM.sp 7 rfl rfl rfl ?_
  refine LM.val (ov_leq rfl rfl) ?_
  refine LM.val (ov_pickT rfl rfl) ?_
  refine LM.mv rfl ?_
  refine LM.splitD (t := 13) rfl (fun h2 => ?_) (fun h2 => ?_)
  ·
   refine LM.sp 13 rfl rfl rfl (LM.val (ov_field Tryz.underlying87 rfl Tryz.sizeOf85 rfl (k := 1) rfl rfl) (LM.sp 13 rfl rfl rfl ?_))
   refine LM.rd (om_ld Tryz.isAgg85 rfl rfl) ?_
   refine LM.sp 13 rfl rfl rfl ?_
   refine LM.callE (oc_call (enters_fn Tryz.func131 (by kernel_rfl) rfl) rfl) (fun w hm hc hg => cof_may w hn (hl.ext hc) (by omega)) ?_
   refine LM.sp 13 rfl rfl rfl ?_
   first | refine LM.val (ov_notD rfl) ?_ | refine LM.val (ov_not rfl) ?_
   refine LM.val (ov_pickT rfl rfl) ?_
   refine LM.as rfl ?_
   refine LM.nil (QM.sub (e' := [(2, _)]) ⟨rfl, trivial⟩ (QM.then ?_))
   refine wpM.ret ?_
   refine QM.leave (.inl rfl) [.tmp 2] Tryz.results103 rfl ?_
   intro w' hm' hc' hg'
   refine ⟨?_, hc'⟩; simp only [resV, mayB]; congr 1; first | (rw [decide_eq_false (show ¬ 0 < xs.length by omega)]; rfl) | (rw [decide_eq_false (show ¬ xs.length ≤ 12 by omega)]; simp; done) | (rw [decide_eq_true (show 0 < xs.length by omega), decide_eq_true (show xs.length ≤ 12 by omega), all_any]; rfl)
  refine LM.dr 13 rfl rfl rfl (LM.dr 13 rfl rfl rfl (LM.dr 13 rfl rfl rfl (LM.dr 13 rfl rfl rfl ?_)))
  refine LM.val (ov_pickF rfl rfl) ?_
  refine LM.as rfl ?_
  refine LM.nil (QM.sub (e' := [(2, _)]) ⟨rfl, trivial⟩ (QM.then ?_))
  refine wpM.ret ?_
  refine QM.leave (.inl rfl) [.tmp 2] Tryz.results103 rfl ?_
  intro w' hm' hc' hg'
  refine ⟨?_, hc'⟩; simp only [resV, mayB]; congr 1; first | (rw [decide_eq_false (show ¬ 0 < xs.length by omega)]; rfl) | (rw [decide_eq_false (show ¬ xs.length ≤ 12 by omega)]; simp; done) | (rw [decide_eq_true (show 0 < xs.length by omega), decide_eq_true (show xs.length ≤ 12 by omega), all_any]; rfl)
 refine LM.dr 7 rfl rfl rfl (LM.dr 7 rfl rfl rfl (LM.dr 7 rfl rfl rfl (LM.dr 7 rfl rfl rfl ?_)))
 refine LM.val (ov_pickF rfl rfl) ?_
 refine LM.mv rfl (LM.dr 13 rfl rfl rfl (LM.dr 13 rfl rfl rfl (LM.dr 13 rfl rfl rfl (LM.dr 13 rfl rfl rfl ?_))))
 refine LM.val (ov_pickF rfl rfl) ?_
 refine LM.as rfl ?_
 refine LM.nil (QM.sub (e' := [(2, _)]) ⟨rfl, trivial⟩ (QM.then ?_))
 refine wpM.ret ?_
 refine QM.leave (.inl rfl) [.tmp 2] Tryz.results103 rfl ?_
 intro w' hm' hc' hg'
 refine ⟨?_, hc'⟩; simp only [resV, mayB]; congr 1; first | (rw [decide_eq_false (show ¬ 0 < xs.length by omega)]; rfl) | (rw [decide_eq_false (show ¬ xs.length ≤ 12 by omega)]; simp; done) | (rw [decide_eq_true (show 0 < xs.length by omega), decide_eq_true (show xs.length ≤ 12 by omega), all_any]; rfl)
set_option maxRecDepth 100000 in
theorem limits_spec (k : Int) (w : World) : Ret Tryz.prog 89 #[.int .i64 k] w (fun v w' => v = .tuple #[.int .i64 (loA k), .int .i64 (hiA k)] ∧ Ext w w') := by
 refine Ret.enterM (l := [.int .i64 k]) Tryz.func89 rfl Tryz.ntmps89 rfl ([]) (no) (Mem.nil w) ?_
 refine wpM.seq (wpM.region ?_)
 refine LM.as rfl (LM.as rfl ?_)
 refine LM.nil (QM.sub (e' := [(0, _)]) ⟨rfl, trivial⟩ (QM.then ?_))
 refine wpM.seq ?_
 refine wpM.seq (wpM.region ?_)
 refine LM.mv rfl ?_
 refine LM.val (ov_eql rfl rfl) ?_
 refine LM.nil (QM.sub (e' := [(0, _), (5, _)]) au9 (QM.then ?_))
 refine wpM.condD rfl (fun h1 => ?_) (fun h1 => ?_)
 ·
  refine wpM.seq (wpM.region ?_)
  refine LM.as rfl (LM.as rfl ?_)
  refine LM.nil (QM.sub (e' := [(2, _), (3, _)]) au9 (QM.then ?_))
  refine wpM.ret ?_
  refine QM.then_ret ?_
  refine QM.leave (.inl rfl) [.tmp 2, .tmp 3] Tryz.results89 rfl ?_
  intro w' hm' hc' hg'
  refine ⟨?_, hc'⟩; simp only [resV, loA, hiA]; try ((repeat' split) <;> first | rfl | omega)
 refine wpM.skip ?_
 refine QM.then ?_
 refine wpM.seq ?_
 refine wpM.seq (wpM.region ?_)
 refine LM.mv rfl ?_
 refine LM.val (ov_geq rfl rfl) ?_
 refine LM.mv rfl ?_
 refine LM.splitD (t := 8) rfl (fun h2 => ?_) (fun h2 => ?_)
 ·
  refine LM.sp 8 rfl rfl rfl (LM.mv rfl (LM.sp 8 rfl rfl rfl ?_))
  refine LM.val (ov_leq rfl rfl) ?_
  refine LM.val (ov_pickT rfl rfl) ?_
  refine LM.mv rfl ?_
  refine LM.splitD (t := 12) rfl (fun h3 => ?_) (fun h3 => ?_)
  ·
   refine LM.dr 12 rfl rfl rfl (LM.dr 12 rfl rfl rfl ?_)
   refine LM.val (ov_pickT rfl rfl) ?_
   refine LM.nil (QM.sub (e' := [(0, _), (15, _)]) au9 (QM.then ?_))
   refine wpM.condT rfl ?_
   refine wpM.seq (wpM.region ?_)
   refine LM.as rfl (LM.as rfl ?_)
   refine LM.nil (QM.sub (e' := [(2, _), (3, _)]) au9 (QM.then ?_))
   refine wpM.ret ?_
   refine QM.then_ret ?_
   refine QM.leave (.inl rfl) [.tmp 2, .tmp 3] Tryz.results89 rfl ?_
   intro w' hm' hc' hg'
   refine ⟨?_, hc'⟩; simp only [resV, loA, hiA]; try ((repeat' split) <;> first | rfl | omega)
  refine LM.sp 12 rfl rfl rfl (LM.mv rfl (LM.sp 12 rfl rfl rfl ?_))
  refine LM.val (ov_eql rfl rfl) ?_
  refine LM.val (ov_pickF rfl rfl) ?_
  refine LM.nil (QM.sub (e' := [(0, _), (15, _)]) au9 (QM.then ?_))
  refine wpM.condD rfl (fun h4 => ?_) (fun h4 => ?_)
  ·
   refine wpM.seq (wpM.region ?_)
   refine LM.as rfl (LM.as rfl ?_)
   refine LM.nil (QM.sub (e' := [(2, _), (3, _)]) au9 (QM.then ?_))
   refine wpM.ret ?_
   refine QM.then_ret ?_
   refine QM.leave (.inl rfl) [.tmp 2, .tmp 3] Tryz.results89 rfl ?_
   intro w' hm' hc' hg'
   refine ⟨?_, hc'⟩; simp only [resV, loA, hiA]; try ((repeat' split) <;> first | rfl | omega)
  refine wpM.skip ?_
  refine QM.then ?_
  refine wpM.seq ?_
  refine wpM.seq (wpM.region ?_)
  refine LM.mv rfl ?_
  refine LM.val (ov_eql rfl rfl) ?_
  refine LM.nil (QM.sub (e' := [(0, _), (17, _)]) au9 (QM.then ?_))
  refine wpM.condD rfl (fun h5 => ?_) (fun h5 => ?_)
  ·
   refine wpM.seq (wpM.region ?_)
   refine LM.as rfl (LM.as rfl ?_)
   refine LM.nil (QM.sub (e' := [(2, _), (3, _)]) au9 (QM.then ?_))
   refine wpM.ret ?_
   refine QM.then_ret ?_
   refine QM.leave (.inl rfl) [.tmp 2, .tmp 3] Tryz.results89 rfl ?_
   intro w' hm' hc' hg'
   refine ⟨?_, hc'⟩; simp only [resV, loA, hiA]; try ((repeat' split) <;> first | rfl | omega)
  refine wpM.skip ?_
  refine QM.then ?_
  refine wpM.seq ?_
  refine wpM.seq (wpM.region ?_)
  refine LM.mv rfl ?_
  refine LM.val (ov_eql rfl rfl) ?_
  refine LM.nil (QM.sub (e' := [(19, _)]) ⟨rfl, trivial⟩ (QM.then ?_))
  refine wpM.condD rfl (fun h6 => ?_) (fun h6 => ?_)
  ·
   refine wpM.seq (wpM.region ?_)
   refine LM.as rfl (LM.as rfl ?_)
   refine LM.nil (QM.sub (e' := [(2, _), (3, _)]) au9 (QM.then ?_))
   refine wpM.ret ?_
   refine QM.then_ret ?_
   refine QM.leave (.inl rfl) [.tmp 2, .tmp 3] Tryz.results89 rfl ?_
   intro w' hm' hc' hg'
   refine ⟨?_, hc'⟩; simp only [resV, loA, hiA]; try ((repeat' split) <;> first | rfl | omega)
  refine wpM.skip ?_
  refine QM.then (wpM.seq (wpM.region ?_))
  refine LM.as rfl (LM.as rfl ?_)
  refine LM.nil (QM.sub (e' := [(2, _), (3, _)]) au9 (QM.then ?_))
  refine wpM.ret ?_
  refine QM.leave (.inl rfl) [.tmp 2, .tmp 3] Tryz.results89 rfl ?_
  intro w' hm' hc' hg'
  refine ⟨?_, hc'⟩; simp only [resV, loA, hiA]; try ((repeat' split) <;> first | rfl | omega)
 refine LM.dr 8 rfl rfl rfl (LM.dr 8 rfl rfl rfl ?_)
 refine LM.val (ov_pickF rfl rfl) ?_
 refine LM.mv rfl (LM.sp 12 rfl rfl rfl (LM.mv rfl (LM.sp 12 rfl rfl rfl ?_)))
 refine LM.val (ov_eql rfl rfl) ?_
 refine LM.val (ov_pickF rfl rfl) ?_
 refine LM.nil (QM.sub (e' := [(0, _), (15, _)]) au9 (QM.then ?_))
 refine wpM.condD rfl (fun h7 => ?_) (fun h7 => ?_)
 ·
  refine wpM.seq (wpM.region ?_)
  refine LM.as rfl (LM.as rfl ?_)
  refine LM.nil (QM.sub (e' := [(2, _), (3, _)]) au9 (QM.then ?_))
  refine wpM.ret ?_
  refine QM.then_ret ?_
  refine QM.leave (.inl rfl) [.tmp 2, .tmp 3] Tryz.results89 rfl ?_
  intro w' hm' hc' hg'
  refine ⟨?_, hc'⟩; simp only [resV, loA, hiA]; try ((repeat' split) <;> first | rfl | omega)
 refine wpM.skip ?_
 refine QM.then ?_
 refine wpM.seq ?_
 refine wpM.seq (wpM.region ?_)
 refine LM.mv rfl ?_
 refine LM.val (ov_eql rfl rfl) ?_
 refine LM.nil (QM.sub (e' := [(0, _), (17, _)]) au9 (QM.then ?_))
 refine wpM.condD rfl (fun h8 => ?_) (fun h8 => ?_)
 ·
  refine wpM.seq (wpM.region ?_)
  refine LM.as rfl (LM.as rfl ?_)
  refine LM.nil (QM.sub (e' := [(2, _), (3, _)]) au9 (QM.then ?_))
  refine wpM.ret ?_
  refine QM.then_ret ?_
  refine QM.leave (.inl rfl) [.tmp 2, .tmp 3] Tryz.results89 rfl ?_
  intro w' hm' hc' hg'
  refine ⟨?_, hc'⟩; simp only [resV, loA, hiA]; try ((repeat' split) <;> first | rfl | omega)
 refine wpM.skip ?_
 refine QM.then ?_
 refine wpM.seq ?_
 refine wpM.seq (wpM.region ?_)
 refine LM.mv rfl ?_
 refine LM.val (ov_eql rfl rfl) ?_
 refine LM.nil (QM.sub (e' := [(19, _)]) ⟨rfl, trivial⟩ (QM.then ?_))
 refine wpM.condD rfl (fun h9 => ?_) (fun h9 => ?_)
 ·
  refine wpM.seq (wpM.region ?_)
  refine LM.as rfl (LM.as rfl ?_)
  refine LM.nil (QM.sub (e' := [(2, _), (3, _)]) au9 (QM.then ?_))
  refine wpM.ret ?_
  refine QM.then_ret ?_
  refine QM.leave (.inl rfl) [.tmp 2, .tmp 3] Tryz.results89 rfl ?_
  intro w' hm' hc' hg'
  refine ⟨?_, hc'⟩; simp only [resV, loA, hiA]; try ((repeat' split) <;> first | rfl | omega)
 refine wpM.skip ?_
 refine QM.then (wpM.seq (wpM.region ?_))
 refine LM.as rfl (LM.as rfl ?_)
 refine LM.nil (QM.sub (e' := [(2, _), (3, _)]) au9 (QM.then ?_))
 refine wpM.ret ?_
 refine QM.leave (.inl rfl) [.tmp 2, .tmp 3] Tryz.results89 rfl ?_
 intro w' hm' hc' hg'
 refine ⟨?_, hc'⟩; simp only [resV, loA, hiA]; try ((repeat' split) <;> first | rfl | omega)
set_option maxRecDepth 100000 in
theorem one_spec (o : COp) (w : World) : Ret Tryz.prog 133 #[.agg (fO o).toArray] w (fun v w' => v = .bool (rightB o) ∧ Ext w w') := by
 refine Ret.enterM (l := [.agg (fO o).toArray]) Tryz.func133 rfl Tryz.ntmps133 rfl ([]) (no) (Mem.nil w) ?_
 refine wpM.seq (wpM.region ?_)
 refine LM.box rfl rfl (fun b1 hb1 => ?_)
 refine LM.as rfl ?_
 refine LM.nil (QM.sub (e' := [(1, _)]) ⟨rfl, trivial⟩ (QM.then ?_))
 refine wpM.seq ?_
 refine wpM.seq (wpM.region ?_)
 refine LM.val (ov_field Tryz.underlying135 rfl Tryz.sizeOf3 rfl (k := 0) rfl rfl) ?_
 refine LM.rd (om_ld Tryz.isAgg3 rfl rfl) ?_
 refine LM.callE (oc_call (enters_fn Tryz.func88 (by kernel_rfl) rfl) rfl) (fun w hm hc hg => rname_spec o.k w) ?_
 refine LM.val (ov_seqlL rfl rfl) ?_
 refine LM.nil (QM.sub (e' := [(1, _), (10, _)]) au9 (QM.then ?_))
 refine wpM.condD rfl (fun h1 => ?_) (fun h1 => ?_)
 ·
  refine wpM.seq (wpM.region ?_)
  refine LM.as rfl ?_
  refine LM.nil (QM.sub (e' := [(2, _)]) ⟨rfl, trivial⟩ (QM.then ?_))
  refine wpM.ret ?_
  refine QM.then_ret ?_
  refine QM.leave (.inl rfl) [.tmp 2] Tryz.results133 rfl ?_
  intro w' hm' hc' hg'
  refine ⟨?_, hc'⟩; have hk : kindB o.k = false := (by rw [← nmT_empty, h1]; rfl); simp only [resV, rightB, hk, Bool.false_and]
 refine wpM.skip ?_
 refine QM.then (wpM.seq (wpM.region ?_))
 refine LM.val (ov_field Tryz.underlying135 rfl Tryz.sizeOf3 rfl (k := 0) rfl rfl) ?_
 refine LM.rd (om_ld Tryz.isAgg3 rfl rfl) ?_
 refine LM.callE (oc_call (enters_fn Tryz.func89 (by kernel_rfl) rfl) rfl) (fun w hm hc hg => limits_spec o.k w) ?_
 refine LM.mv rfl ?_
 refine LM.val (ov_extract rfl rfl) ?_
 refine LM.val (ov_extract rfl rfl) ?_
 refine LM.as rfl (LM.as rfl ?_)
 refine LM.nil (QM.sub (e' := [(1, _), (3, _), (4, _)]) au9 (QM.then (wpM.seq (wpM.region ?_))))
 refine LM.val (ov_field Tryz.underlying135 rfl Tryz.sizeOf3 rfl (k := 1) rfl rfl) ?_
 refine LM.rd (om_ld Tryz.isAgg3 rfl rfl) ?_
 refine LM.val (ov_eql rfl rfl) ?_
 refine LM.as rfl ?_
 refine LM.nil (QM.sub (e' := [(1, _), (3, _), (4, _), (5, _)]) au9 (QM.then ?_))
 refine wpM.seq ?_
 refine wpM.seq (wpM.region ?_)
 refine LM.mv rfl ?_
 refine LM.val (ov_geq rfl rfl) ?_
 refine LM.nil (QM.sub (e' := [(1, _), (3, _), (4, _), (5, _), (21, _)]) au9 (QM.then ?_))
 refine wpM.joinK (α := Bool) (fun b => [(5, .bool b)]) [(1, _)] (fun b => (b1, .cells (fO o).toArray 135 (0, 0)) :: []) (fun b => b = hasB (loA o.k) (hiA o.k) o.a) ⟨rfl, trivial⟩ ?_ ?_
 ·
  refine wpM.condD rfl (fun h2 => ?_) (fun h2 => ?_)
  ·
   refine wpM.region ?_
   refine LM.val (ov_field Tryz.underlying135 rfl Tryz.sizeOf3 rfl (k := 1) rfl rfl) ?_
   refine LM.rd (om_ld Tryz.isAgg3 rfl rfl) ?_
   refine LM.mv rfl ?_
   refine LM.val (ov_geq rfl rfl) ?_
   refine LM.mv rfl ?_
   refine LM.splitD (t := 26) rfl (fun h3 => ?_) (fun h3 => ?_)
   ·
    refine LM.sp 26 rfl rfl rfl (LM.val (ov_field Tryz.underlying135 rfl Tryz.sizeOf3 rfl (k := 1) rfl rfl) (LM.sp 26 rfl rfl rfl ?_))
    refine LM.rd (om_ld Tryz.isAgg3 rfl rfl) ?_
    refine LM.sp 26 rfl rfl rfl (LM.mv rfl (LM.sp 26 rfl rfl rfl ?_))
    refine LM.val (ov_leq rfl rfl) ?_
    refine LM.val (ov_pickT rfl rfl) ?_
    refine LM.as rfl ?_
    refine LM.nil (QM.sub (e' := [(1, _), (5, _)]) au9 ?_)
    have hlc := loA_cases o.k
    refine QM.meetK (_) ⟨au2, rfl, trivial⟩ au1 ?_
    · first | (rw [hasB, if_pos (by omega)]; done) | (rw [hasB, if_neg (by omega), decide_eq_false (show ¬ loA o.k ≤ o.a by omega)]; rfl) | (rw [hasB, if_neg (by omega), decide_eq_true (show loA o.k ≤ o.a by omega)]; rfl)
   refine LM.dr 26 rfl rfl rfl (LM.dr 26 rfl rfl rfl (LM.dr 26 rfl rfl rfl (LM.dr 26 rfl rfl rfl ?_)))
   refine LM.val (ov_pickF rfl rfl) ?_
   refine LM.as rfl ?_
   refine LM.nil (QM.sub (e' := [(1, _), (5, _)]) au9 ?_)
   have hlc := loA_cases o.k
   refine QM.meetK (_) ⟨au2, rfl, trivial⟩ au1 ?_
   · first | (rw [hasB, if_pos (by omega)]; done) | (rw [hasB, if_neg (by omega), decide_eq_false (show ¬ loA o.k ≤ o.a by omega)]; rfl) | (rw [hasB, if_neg (by omega), decide_eq_true (show loA o.k ≤ o.a by omega)]; rfl)
  refine wpM.skip ?_
  have hlc := loA_cases o.k
  refine QM.meetK (_) ⟨au2, rfl, trivial⟩ au1 ?_
  · (rw [hasB, if_pos (by omega)]; done)
 rintro b hb1
 change QM _ _ _ _ _ ((b1, .cells (fO o).toArray 135 (0, 0)) :: []) _ _ _
 refine QM.then (wpM.seq (wpM.region ?_))
 refine LM.val (ov_field Tryz.underlying135 rfl Tryz.sizeOf3 rfl (k := 2) rfl rfl) ?_
 refine LM.rd (om_ld Tryz.isAgg3 rfl rfl) ?_
 refine LM.val (ov_eql rfl rfl) ?_
 refine LM.as rfl ?_
 refine LM.nil (QM.sub (e' := [(1, _), (5, _), (6, _)]) au9 (QM.then ?_))
 refine wpM.seq ?_
 refine wpM.seq (wpM.region ?_)
 refine LM.val (ov_field Tryz.underlying135 rfl Tryz.sizeOf3 rfl (k := 0) rfl rfl) ?_
 refine LM.rd (om_ld Tryz.isAgg3 rfl rfl) ?_
 refine LM.val (ov_eql rfl rfl) ?_
 refine LM.nil (QM.sub (e' := [(1, _), (5, _), (6, _), (37, _)]) au9 (QM.then ?_))
 refine wpM.joinK (α := Bool) (fun b' => [(6, .bool b')]) [(5, _)] (fun b' => (b1, .cells (fO o).toArray 135 (0, 0)) :: []) (fun b' => b' = hasB (loB o.k) (hiB o.k) o.b) ⟨rfl, trivial⟩ ?_ ?_
 ·
  refine wpM.condD rfl (fun h4 => ?_) (fun h4 => ?_)
  ·
   refine wpM.region ?_
   refine LM.val (ov_field Tryz.underlying135 rfl Tryz.sizeOf3 rfl (k := 2) rfl rfl) ?_
   refine LM.rd (om_ld Tryz.isAgg3 rfl rfl) ?_
   refine LM.val (ov_geq rfl rfl) ?_
   refine LM.mv rfl ?_
   refine LM.splitD (t := 41) rfl (fun h5 => ?_) (fun h5 => ?_)
   ·
    refine LM.sp 41 rfl rfl rfl (LM.val (ov_field Tryz.underlying135 rfl Tryz.sizeOf3 rfl (k := 2) rfl rfl) (LM.sp 41 rfl rfl rfl ?_))
    refine LM.rd (om_ld Tryz.isAgg3 rfl rfl) ?_
    refine LM.sp 41 rfl rfl rfl ?_
    refine LM.val (ov_leq rfl rfl) ?_
    refine LM.val (ov_pickT rfl rfl) ?_
    refine LM.as rfl ?_
    refine LM.nil (QM.sub (e' := [(5, _), (6, _)]) au9 ?_)
    refine QM.meetK (_) ⟨au2, rfl, trivial⟩ au1 ?_
    · first | (rw [hasBn (by assumption)]; done) | (rw [hasB5 (by assumption), decide_eq_false (show ¬ 1 ≤ o.b by omega)]; rfl) | (rw [hasB5 (by assumption), decide_eq_true (show 1 ≤ o.b by omega)]; rfl)
   refine LM.dr 41 rfl rfl rfl (LM.dr 41 rfl rfl rfl (LM.dr 41 rfl rfl rfl ?_))
   refine LM.val (ov_pickF rfl rfl) ?_
   refine LM.as rfl ?_
   refine LM.nil (QM.sub (e' := [(5, _), (6, _)]) au9 ?_)
   refine QM.meetK (_) ⟨au2, rfl, trivial⟩ au1 ?_
   · first | (rw [hasBn (by assumption)]; done) | (rw [hasB5 (by assumption), decide_eq_false (show ¬ 1 ≤ o.b by omega)]; rfl) | (rw [hasB5 (by assumption), decide_eq_true (show 1 ≤ o.b by omega)]; rfl)
  refine wpM.skip ?_
  refine QM.meetK (_) ⟨au2, rfl, trivial⟩ au1 ?_
  · (rw [hasBn (by assumption)]; done)
 rintro b' hb2
 change QM _ _ _ _ _ ((b1, .cells (fO o).toArray 135 (0, 0)) :: []) _ _ _
 refine QM.then (wpM.seq (wpM.region ?_))
 refine LM.mv rfl (LM.mv rfl ?_)
 first | refine LM.splitD (t := 47) rfl (fun h6 => ?_) (fun h6 => ?_) | refine LM.splitB (t := 47) rfl (fun h6 => ?_) (fun h6 => ?_)
 ·
  refine LM.sp 47 rfl rfl rfl (LM.mv rfl ?_)
  refine LM.val (ov_pickT rfl rfl) ?_
  refine LM.as rfl ?_
  refine LM.nil (QM.sub (e' := [(2, _)]) ⟨rfl, trivial⟩ (QM.then ?_))
  refine wpM.ret ?_
  refine QM.leave (.inl rfl) [.tmp 2] Tryz.results133 rfl ?_
  intro w' hm' hc' hg'
  refine ⟨?_, hc'⟩; have hk : kindB o.k = true := (by rw [← nmT_empty]; exact decide_eq_true h1); simp only [resV, rightB, hk, Bool.true_and, ← hb1, ← hb2]; simp only [h1, h6, decide_true, decide_false, Bool.true_and, Bool.false_and, Bool.and_true, Bool.and_false, Bool.not_true, Bool.not_false, Bool.true_or, Bool.false_or, Bool.or_true, Bool.or_false, ne_eq, not_true_eq_false, not_false_eq_true, Bool.and_self]
 refine LM.dr 47 rfl rfl rfl ?_
 refine LM.val (ov_pickF rfl rfl) ?_
 refine LM.as rfl ?_
 refine LM.nil (QM.sub (e' := [(2, _)]) ⟨rfl, trivial⟩ (QM.then ?_))
 refine wpM.ret ?_
 refine QM.leave (.inl rfl) [.tmp 2] Tryz.results133 rfl ?_
 intro w' hm' hc' hg'
 refine ⟨?_, hc'⟩; have hk : kindB o.k = true := (by rw [← nmT_empty]; exact decide_eq_true h1); simp only [resV, rightB, hk, Bool.true_and, ← hb1, ← hb2]; simp only [h1, h6, decide_true, decide_false, Bool.true_and, Bool.false_and, Bool.and_true, Bool.and_false, Bool.not_true, Bool.not_false, Bool.true_or, Bool.false_or, Bool.or_true, Bool.or_false, ne_eq, not_true_eq_false, not_false_eq_true, Bool.and_self]
set_option maxRecDepth 100000 in
theorem rmay_spec {xs : List COp} {fv : Bool} {ad : Option Addr} {n cap : Nat} (w : World) (hn : n = xs.length) (hl : Sr fO 3 xs (.slice ad n cap) w) : Ret Tryz.prog 90 #[pV fv ad n cap] w (fun v w' => v = .bool (mayB xs) ∧ Ext w w') := by
 refine Ret.enterM (l := [pV fv ad n cap]) Tryz.func90 rfl Tryz.ntmps90 rfl ([]) (no) (Mem.nil w) ?_
 refine wpM.seq (wpM.region ?_)
 refine LM.box rfl rfl (fun b1 hb1 => ?_)
 refine LM.as rfl ?_
 refine LM.nil (QM.sub (e' := [(1, _)]) ⟨rfl, trivial⟩ (QM.then ?_))
 refine wpM.seq ?_
 refine wpM.seq (wpM.region ?_)
 refine LM.as rfl ?_
 refine LM.nil (QM.sub (e' := [(1, _), (3, _)]) au9 (QM.then ?_))
 refine wpM.block ?_
 refine wpM.loopK0 (α := Nat) (fun i => [(3, .int .i64 (i : Nat))]) [(1, _)] (fun i => pB b1 fv ad n cap :: []) (fun i => i ≤ xs.length ∧ i ≤ 12 ∧ (xs.take i).all rightB = true) (fun i => xs.length - i) (0) ⟨au2, rfl, trivial⟩ au1 ⟨Nat.zero_le _, Nat.zero_le _, rfl⟩ ?_
 rintro i ⟨hi, hi2, ha⟩
 change wpM _ _ _ _ _ _ _ (pB b1 fv ad n cap :: []) _ _ _
 refine wpM.seq ?_
 refine wpM.seq (wpM.region ?_)
 refine LM.mv rfl (LM.val (ov_field Tryz.underlying87 rfl Tryz.sizeOf85 rfl (k := 1) rfl rfl) ?_)
 refine LM.rd (om_ld Tryz.isAgg85 rfl rfl) ?_
 refine LM.val (ov_len Tryz.underlying85 rfl) ?_
 refine LM.val (ov_lss rfl rfl) ?_
 refine LM.nil (QM.sub (e' := [(1, _), (3, _), (8, _)]) au9 (QM.then ?_))
 refine wpM.condD rfl (fun h1 => ?_) (fun h1 => ?_)
 ·
  refine wpM.skip ?_
  refine QM.then ?_
  refine wpM.seq ?_
  refine wpM.block ?_
  refine wpM.seq (wpM.region ?_)
  refine LM.mv rfl ?_
  refine LM.val (ov_gtr rfl rfl) ?_
  refine LM.mv rfl ?_
  refine LM.splitD (t := 13) rfl (fun h2 => ?_) (fun h2 => ?_)
  ·
   refine LM.dr 13 rfl rfl rfl (LM.dr 13 rfl rfl rfl (LM.dr 13 rfl rfl rfl (LM.dr 13 rfl rfl rfl (LM.dr 13 rfl rfl rfl (LM.dr 13 rfl rfl rfl ?_)))))
   refine LM.dr 13 rfl rfl rfl ?_
   refine LM.val (ov_pickT rfl rfl) ?_
   refine LM.nil (QM.sub (e' := [(1, _), (3, _), (21, _)]) au9 (QM.then ?_))
   refine wpM.condT rfl ?_
   refine wpM.seq (wpM.region ?_)
   refine LM.as rfl ?_
   refine LM.nil (QM.sub (e' := [(2, _)]) ⟨rfl, trivial⟩ (QM.then ?_))
   refine wpM.ret ?_
   refine QM.block_ret ?_
   refine QM.then_ret ?_
   refine QM.then_ret ?_
   refine QM.block_ret ?_
   refine QM.then_ret ?_
   refine QM.leave (.inl rfl) [.tmp 2] Tryz.results90 rfl ?_
   intro w' hm' hc' hg'
   refine ⟨?_, hc'⟩; simp only [resV]; have hm : mayB xs = false := (by unfold mayB; rw [decide_eq_false (show ¬ xs.length ≤ 12 by omega)]; simp); rw [hm]
  refine LM.sp 13 rfl rfl rfl (LM.val (ov_field Tryz.underlying87 rfl Tryz.sizeOf85 rfl (k := 1) rfl rfl) (LM.sp 13 rfl rfl rfl ?_))
  refine LM.rd (om_ld Tryz.isAgg85 rfl rfl) ?_
  refine LM.sp 13 rfl rfl rfl (LM.mv rfl (LM.sp 13 rfl rfl rfl ?_))
  refine LM.val (ov_idxSN au6 Tryz.underlying85 Tryz.sizeOf135 rfl rfl (by omega)) ?_
  refine LM.sp 13 rfl rfl rfl ?_
  first | refine LM.rd (om_slA (by assumption) (by intro _; rfl) Tryz.isAgg135 Tryz.sizeOf135 rfl au3) ?_ | refine LM.rdC (om_srEA (by assumption) (by intro _; rfl) Tryz.isAgg135 Tryz.sizeOf135 rfl au3 id) ?_ | refine LM.rd (om_ldW Tryz.isAgg135 Tryz.sizeOf135 rfl rfl) ?_ | refine LM.rd (om_ldA Tryz.isAgg135 Tryz.sizeOf135 rfl (vs := [_, _, _]) rfl ⟨rfl, rfl, rfl, trivial⟩) ?_
  refine LM.sp 13 rfl rfl rfl ?_
  refine LM.callE (oc_call (enters_fn Tryz.func133 (by kernel_rfl) rfl) rfl) (fun w hm hc hg => one_spec _ w) ?_
  refine LM.sp 13 rfl rfl rfl ?_
  first | refine LM.val (ov_notD rfl) ?_ | refine LM.val (ov_not rfl) ?_
  refine LM.val (ov_pickF rfl rfl) ?_
  refine LM.nil (QM.sub (e' := [(1, _), (3, _), (21, _)]) au9 (QM.then ?_))
  first | refine wpM.condD rfl (fun h3 => ?_) (fun h3 => ?_) | refine wpM.condB rfl (fun h3 => ?_) (fun h3 => ?_)
  ·
   refine wpM.seq (wpM.region ?_)
   refine LM.as rfl ?_
   refine LM.nil (QM.sub (e' := [(2, _)]) ⟨rfl, trivial⟩ (QM.then ?_))
   refine wpM.ret ?_
   refine QM.block_ret ?_
   refine QM.then_ret ?_
   refine QM.then_ret ?_
   refine QM.block_ret ?_
   refine QM.then_ret ?_
   refine QM.leave (.inl rfl) [.tmp 2] Tryz.results90 rfl ?_
   intro w' hm' hc' hg'
   refine ⟨?_, hc'⟩; simp only [resV]; rw [may_not (i := i) (by omega) (by simpa using h3)]
  refine wpM.skip ?_
  refine QM.block_normal ?_
  refine QM.then (wpM.region ?_)
  refine LM.mv rfl ?_
  refine LM.val (ov_add64 rfl rfl (by omega)) ?_
  refine LM.as rfl ?_
  refine LM.nil (QM.sub (e' := [(1, _), (3, _)]) au9 ?_)
  refine QM.againK (i + 1) ⟨au2, rfl, trivial⟩ au1 (fun _ h => h) ?_ ?_
  · exact ⟨by omega, by omega, by rw [all_snoc default (by omega), ha, Bool.true_and]; simpa using h3⟩
  · omega
 refine wpM.exit ?_
 refine QM.then_exit ?_
 refine QM.then_exit ?_
 refine QM.block_hit ?_
 refine QM.then (wpM.seq (wpM.region ?_))
 refine LM.val (ov_field Tryz.underlying87 rfl Tryz.sizeOf85 rfl (k := 1) rfl rfl) ?_
 refine LM.rd (om_ld Tryz.isAgg85 rfl rfl) ?_
 refine LM.val (ov_len Tryz.underlying85 rfl) ?_
 refine LM.val (ov_gtr rfl rfl) ?_
 refine LM.as rfl ?_
 refine LM.nil (QM.sub (e' := [(2, _)]) ⟨rfl, trivial⟩ (QM.then ?_))
 refine wpM.ret ?_
 refine QM.leave (.inl rfl) [.tmp 2] Tryz.results90 rfl ?_
 intro w' hm' hc' hg'
 have hil : i = xs.length := (by omega); subst hil; rw [List.take_length] at ha; refine ⟨?_, hc'⟩; simp only [resV, mayB]; congr 1; rw [ha, decide_eq_true (show xs.length ≤ 12 by omega), Bool.and_true, Bool.and_true]; exact decide_eq_decide.2 (by omega)
end Go.Eng
namespace Go.Eng
open Go Go.Proofs Go.RowKit
theorem Sr.kp {α : Type} {f : α → List Value} {s : Nat} {xs : List α} {ad : Option Addr} {n cap b : Nat} {w w' : World} (h : Sr f s xs (.slice ad n cap) w) (k : Chg (fun x => x = b) w w') (hab : 0 < xs.length → adB ad ≠ b) : Sr f s xs (.slice ad n cap) w' := by
  by_cases h0 : 0 < xs.length
  · exact h.keep k (fun b' off n' c' e => by simp only [Value.slice.injEq] at e; obtain ⟨rfl, _, _⟩ := e; exact hab h0)
  · obtain ⟨ad', cap', h1, h2, h3⟩ := h
    exact ⟨ad', cap', h1, h2, fun q => absurd q h0⟩
abbrev rO (ad : Option Addr) (n cap : Nat) (i : Nat) (e : Int) : Obj := .cells #[.slice ad n cap, .int .i64 (i : Nat), .int .i64 e] 181 (0, 0)
abbrev rB (b : Nat) (ad : Option Addr) (n cap : Nat) (i : Nat) (e : Int) : Nat × Obj := (b, rO ad n cap i e)
def isE (ws : List Wrd) (i : Nat) (e k : Int) (t : List UInt8) : Bool := decide (e = 0) && decide (i < ws.length) && decide ((ws.getD i default).k = k) && decide ((ws.getD i default).t = t)
theorem isE_eq {ws : List Wrd} {i : Nat} {e k : Int} {t : List UInt8} : isE ws i e k t = (decide (e = 0) && isR ws i k t) := by unfold isE isR; rw [Bool.and_assoc, Bool.and_assoc, Bool.and_assoc]
theorem isE_lt {ws : List Wrd} {i : Nat} {e k : Int} {t : List UInt8} (h : isE ws i e k t = true) : i < ws.length ∧ e = 0 := by
  unfold isE at h; simp only [Bool.and_eq_true, decide_eq_true_eq] at h; exact ⟨h.1.1.2, h.1.1.1⟩
def mayE (ws : List Wrd) (i : Nat) (e k : Int) (t : List UInt8) : Nat := if isE ws i e k t then i + 1 else i
def needE (ws : List Wrd) (i : Nat) (e k : Int) (t : List UInt8) : Nat × Int := if isE ws i e k t then (i + 1, e) else if e = 0 then (i, 5) else (i, e)
def numE (ws : List Wrd) (i : Nat) (e lo hi : Int) : Nat × Int × Int := if e ≠ 0 then (i, e, 0) else numR ws i lo hi
theorem num_a {ws : List Wrd} {i : Nat} {e lo hi : Int} (h : lo = -1) : numE ws i e lo hi = (i, e, 0) := by
  unfold numE numR; rw [if_pos h]
  by_cases h0 : e = 0
  · rw [if_neg (by simp [h0]), h0]
  · rw [if_pos h0]
theorem num_b {ws : List Wrd} {i : Nat} {e lo hi : Int} (h : e ≠ 0) : numE ws i e lo hi = (i, e, 0) := by unfold numE; rw [if_pos h]
theorem num_c {ws : List Wrd} {i : Nat} {lo hi : Int} (h : ¬ lo = -1) (h2 : ws.length ≤ i ∨ (ws.getD i default).k ≠ 2) : numE ws i 0 lo hi = (i, 5, 0) := by
  unfold numE numR; rw [if_neg (by simp), if_neg h, if_pos (by simp only [Bool.or_eq_true, decide_eq_true_eq]; exact h2)]
theorem num_d {ws : List Wrd} {i : Nat} {lo hi : Int} (h : ¬ lo = -1) (h2 : i < ws.length) (h3 : (ws.getD i default).k = 2) (h4 : hasB lo hi (ws.getD i default).n = false) : numE ws i 0 lo hi = (i, 1, 0) := by
  unfold numE numR; rw [if_neg (by simp), if_neg h, if_neg (by simp only [Bool.or_eq_true, decide_eq_true_eq, not_or]; exact ⟨by omega, fun q => q h3⟩), if_neg (by rw [h4]; simp)]
theorem num_e {ws : List Wrd} {i : Nat} {lo hi : Int} (h : ¬ lo = -1) (h2 : i < ws.length) (h3 : (ws.getD i default).k = 2) (h4 : hasB lo hi (ws.getD i default).n = true) : numE ws i 0 lo hi = (i + 1, 0, (ws.getD i default).n) := by
  unfold numE numR; rw [if_neg (by simp), if_neg h, if_neg (by simp only [Bool.or_eq_true, decide_eq_true_eq, not_or]; exact ⟨by omega, fun q => q h3⟩), if_pos h4]
set_option maxRecDepth 100000 in
theorem fail_spec (b : Nat) {ad : Option Addr} {n cap : Nat} (i : Nat) (e0 e : Int) (w : World) (hM : Mem w [rB b ad n cap i e0]) : Ret Tryz.prog 128 #[.pointer (some ⟨b, 0, none⟩), .int .i64 e] w (WrP b (.tuple #[]) (rO ad n cap i (if e0 = 0 then e else e0)) w) := by
 refine Ret.enterM (l := [.pointer (some ⟨b, 0, none⟩), .int .i64 e]) Tryz.func128 rfl Tryz.ntmps128 rfl ([rB b ad n cap i e0]) ((fun x => x = b)) hM ?_
 refine wpM.seq (wpM.region ?_)
 refine LM.mv rfl ?_
 refine LM.val (ov_nilCheck rfl) ?_
 refine LM.val (ov_field Tryz.underlying181 rfl Tryz.sizeOf31 rfl (k := 2) rfl rfl) ?_
 refine LM.rd (om_ld Tryz.isAgg31 rfl rfl) ?_
 refine LM.val (ov_eql rfl rfl) ?_
 refine LM.nil (QM.sub (e' := [(0, _), (1, _), (8, _)]) au9 (QM.then ?_))
 refine wpM.condD rfl (fun h1 => ?_) (fun h1 => ?_)
 ·
  refine wpM.region ?_
  refine LM.mv rfl (LM.mv rfl ?_)
  refine LM.val (ov_nilCheck rfl) ?_
  refine LM.val (ov_field Tryz.underlying181 rfl Tryz.sizeOf31 rfl (k := 2) rfl rfl) ?_
  refine LM.st Tryz.sizeOf31 rfl rfl rfl au5 rfl (fun _ => rfl) ?_
  refine LM.nil (QM.sub (e' := []) trivial ?_)
  refine QM.leave (.inr rfl) [] Tryz.results128 rfl ?_
  intro w' hm' hc' hg'
  refine ⟨rfl, hc', ?_⟩; rw [if_pos h1]; exact hm'.at b
 refine wpM.skip ?_
 refine QM.leave (.inr rfl) [] Tryz.results128 rfl ?_
 intro w' hm' hc' hg'
 refine ⟨rfl, hc', ?_⟩; rw [if_neg h1]; exact hm'.at b
set_option maxRecDepth 100000 in
set_option maxHeartbeats 1000000 in
theorem is_spec {ws : List Wrd} (b : Nat) {ad : Option Addr} {n cap : Nat} (i : Nat) (e k : Int) (t : List UInt8) (w : World) (hn : n = ws.length) (hl : Sr fW 4 ws (.slice ad n cap) w) (hM : Mem w [rB b ad n cap i e]) : Ret Tryz.prog 126 #[.pointer (some ⟨b, 0, none⟩), .int .i64 k, vS t] w (fun v w' => v = .bool (isE ws i e k t) ∧ Ext w w') := by
 refine Ret.enterM (l := [.pointer (some ⟨b, 0, none⟩), .int .i64 k, vS t]) Tryz.func126 rfl Tryz.ntmps126 rfl ([rB b ad n cap i e]) (no) hM ?_
 refine wpM.seq (wpM.region ?_)
 refine LM.as rfl ?_
 refine LM.nil (QM.sub (e' := [(0, _), (1, _), (2, _)]) au9 (QM.then ?_))
 refine wpM.seq ?_
 refine wpM.draw [(0, 0), (1, 0), (2, 0), (3, 1), (4, 0), (5, 0), (6, 0), (7, 0), (8, 0), (9, 1), (10, 0), (11, 0), (12, 0), (13, 1), (14, 0), (15, 0), (16, 0), (17, 0), (18, 0), (19, 0), (20, 0), (21, 1), (22, 0), (23, 0), (24, 0), (25, 1), (26, 0), (27, 0), (28, 1), (29, 0), (30, 0), (31, 0), (32, 0), (33, 0), (34, 0), (35, 0), (36, 1), (37, 0), (38, 0), (39, 0), (40, 1), (41, 0), (42, 0), (43, 1), (44, 0), (45, 0), (46, 0), (47, 0)] (by kernel_rfl) (by kernel_rfl) ?_
 refine LD.val rfl rfl (ov_move rfl) ?_
 refine LD.val rfl rfl (ov_nilCheck rfl) ?_
 refine LD.val rfl rfl (ov_field Tryz.underlying181 rfl Tryz.sizeOf31 rfl (k := 2) rfl rfl) ?_
 refine LD.rd rfl rfl (om_ld Tryz.isAgg31 rfl rfl) ?_
 refine LD.val rfl rfl (ov_eql rfl rfl) ?_
 refine LD.val rfl rfl (ov_move rfl) ?_
 refine LD.splitD (t := 12) rfl (fun h1 => ?_) (fun h1 => ?_)
 ·
  refine LD.val rfl ⟨12, _, rfl, rfl, rfl⟩ (ov_move rfl) ?_
  refine LD.val rfl ⟨12, _, rfl, rfl, rfl⟩ (ov_nilCheck rfl) ?_
  refine LD.val rfl ⟨12, _, rfl, rfl, rfl⟩ (ov_field Tryz.underlying181 rfl Tryz.sizeOf3 rfl (k := 1) rfl rfl) ?_
  refine LD.rd rfl ⟨12, _, rfl, rfl, rfl⟩ (om_ld Tryz.isAgg3 rfl rfl) ?_
  refine LD.val rfl ⟨12, _, rfl, rfl, rfl⟩ (ov_move rfl) ?_
  refine LD.val rfl ⟨12, _, rfl, rfl, rfl⟩ (ov_nilCheck rfl) ?_
  refine LD.val rfl ⟨12, _, rfl, rfl, rfl⟩ (ov_field Tryz.underlying181 rfl Tryz.sizeOf23 rfl (k := 0) rfl rfl) ?_
  refine LD.rd rfl ⟨12, _, rfl, rfl, rfl⟩ (om_ld Tryz.isAgg23 rfl rfl) ?_
  refine LD.val rfl ⟨12, _, rfl, rfl, rfl⟩ (ov_len Tryz.underlying23 rfl) ?_
  refine LD.val rfl ⟨12, _, rfl, rfl, rfl⟩ (ov_lss rfl rfl) ?_
  refine LD.val rfl rfl (ov_pickT rfl rfl) ?_
  refine LD.val rfl rfl (ov_move rfl) ?_
  refine LD.splitD (t := 24) rfl (fun h2 => ?_) (fun h2 => ?_)
  ·
   refine LD.val rfl ⟨24, _, rfl, rfl, rfl⟩ (ov_move rfl) ?_
   refine LD.val rfl ⟨24, _, rfl, rfl, rfl⟩ (ov_nilCheck rfl) ?_
   refine LD.val rfl ⟨24, _, rfl, rfl, rfl⟩ (ov_field Tryz.underlying181 rfl Tryz.sizeOf23 rfl (k := 0) rfl rfl) ?_
   refine LD.rd rfl ⟨24, _, rfl, rfl, rfl⟩ (om_ld Tryz.isAgg23 rfl rfl) ?_
   refine LD.val rfl ⟨24, _, rfl, rfl, rfl⟩ (ov_move rfl) ?_
   refine LD.val rfl ⟨24, _, rfl, rfl, rfl⟩ (ov_nilCheck rfl) ?_
   refine LD.val rfl ⟨24, _, rfl, rfl, rfl⟩ (ov_field Tryz.underlying181 rfl Tryz.sizeOf3 rfl (k := 1) rfl rfl) ?_
   refine LD.rd rfl ⟨24, _, rfl, rfl, rfl⟩ (om_ld Tryz.isAgg3 rfl rfl) ?_
   refine LD.val rfl ⟨24, _, rfl, rfl, rfl⟩ (ov_idxSN au6 Tryz.underlying23 Tryz.sizeOf65 rfl rfl (by omega)) ?_
   refine LD.val rfl ⟨24, _, rfl, rfl, rfl⟩ (ov_field Tryz.underlying65 rfl Tryz.sizeOf3 rfl (k := 0) rfl rfl) ?_
   first | refine LD.rd rfl ⟨24, _, rfl, rfl, rfl⟩ (om_slE (j := 0) (by assumption) (by intro _; rfl) Tryz.isAgg3 rfl rfl au3 rfl (by rfl)) ?_ | refine LD.rdC rfl ⟨24, _, rfl, rfl, rfl⟩ (om_srE (j := 0) (by assumption) Tryz.isAgg3 rfl rfl au3 (by rfl) (by rfl) id) ?_ | refine LD.rd rfl ⟨24, _, rfl, rfl, rfl⟩ (om_ld Tryz.isAgg3 rfl rfl) ?_
   refine LD.val rfl ⟨24, _, rfl, rfl, rfl⟩ (ov_move rfl) ?_
   refine LD.val rfl ⟨24, _, rfl, rfl, rfl⟩ (ov_eql rfl rfl) ?_
   refine LD.val rfl rfl (ov_pickT rfl rfl) ?_
   refine LD.val rfl rfl (ov_move rfl) ?_
   refine LD.splitD (t := 39) rfl (fun h3 => ?_) (fun h3 => ?_)
   ·
    refine LD.val rfl ⟨39, _, rfl, rfl, rfl⟩ (ov_move rfl) ?_
    refine LD.val rfl ⟨39, _, rfl, rfl, rfl⟩ (ov_nilCheck rfl) ?_
    refine LD.val rfl ⟨39, _, rfl, rfl, rfl⟩ (ov_field Tryz.underlying181 rfl Tryz.sizeOf23 rfl (k := 0) rfl rfl) ?_
    refine LD.rd rfl ⟨39, _, rfl, rfl, rfl⟩ (om_ld Tryz.isAgg23 rfl rfl) ?_
    refine LD.val rfl ⟨39, _, rfl, rfl, rfl⟩ (ov_move rfl) ?_
    refine LD.val rfl ⟨39, _, rfl, rfl, rfl⟩ (ov_nilCheck rfl) ?_
    refine LD.val rfl ⟨39, _, rfl, rfl, rfl⟩ (ov_field Tryz.underlying181 rfl Tryz.sizeOf3 rfl (k := 1) rfl rfl) ?_
    refine LD.rd rfl ⟨39, _, rfl, rfl, rfl⟩ (om_ld Tryz.isAgg3 rfl rfl) ?_
    refine LD.val rfl ⟨39, _, rfl, rfl, rfl⟩ (ov_idxSN au6 Tryz.underlying23 Tryz.sizeOf65 rfl rfl (by omega)) ?_
    refine LD.val rfl ⟨39, _, rfl, rfl, rfl⟩ (ov_field Tryz.underlying65 rfl Tryz.sizeOf9 rfl (k := 1) rfl rfl) ?_
    first | refine LD.rd rfl ⟨39, _, rfl, rfl, rfl⟩ (om_slE (j := 1) (by assumption) (by intro _; rfl) Tryz.isAgg9 rfl rfl au3 rfl (by rfl)) ?_ | refine LD.rdC rfl ⟨39, _, rfl, rfl, rfl⟩ (om_srE (j := 1) (by assumption) Tryz.isAgg9 rfl rfl au3 (by rfl) (by rfl) id) ?_ | refine LD.rd rfl ⟨39, _, rfl, rfl, rfl⟩ (om_ld Tryz.isAgg9 rfl rfl) ?_
    refine LD.val rfl ⟨39, _, rfl, rfl, rfl⟩ (ov_move rfl) ?_
    refine LD.val rfl ⟨39, _, rfl, rfl, rfl⟩ (ov_seqlL rfl rfl) ?_
    refine LD.val rfl rfl (ov_pickT rfl rfl) ?_
    refine LD.val rfl rfl (ov_assign rfl) ?_
    refine LD.nil ?_
    refine QM.sub (e' := [(6, _)]) ⟨rfl, trivial⟩ (QM.then ?_)
    refine wpM.ret ?_
    refine QM.leave (.inl rfl) [.tmp 6] Tryz.results126 rfl ?_
    intro w' hm' hc' hg'
    refine ⟨?_, hc'⟩; simp only [resV, isE]; rw [decide_eq_true h1, decide_eq_true (show i < ws.length by omega), decide_eq_true h3]; simp only [Bool.true_and]
   refine LD.drop rfl rfl ⟨39, _, rfl, rfl, rfl⟩ ?_
   refine LD.drop rfl rfl ⟨39, _, rfl, rfl, rfl⟩ ?_
   refine LD.drop rfl rfl ⟨39, _, rfl, rfl, rfl⟩ ?_
   refine LD.drop rfl rfl ⟨39, _, rfl, rfl, rfl⟩ ?_
   refine LD.drop rfl rfl ⟨39, _, rfl, rfl, rfl⟩ ?_
   refine LD.drop rfl rfl ⟨39, _, rfl, rfl, rfl⟩ ?_
   refine LD.drop rfl rfl ⟨39, _, rfl, rfl, rfl⟩ ?_
   refine LD.drop rfl rfl ⟨39, _, rfl, rfl, rfl⟩ ?_
   refine LD.drop rfl rfl ⟨39, _, rfl, rfl, rfl⟩ ?_
   refine LD.drop rfl rfl ⟨39, _, rfl, rfl, rfl⟩ ?_
   refine LD.drop rfl rfl ⟨39, _, rfl, rfl, rfl⟩ ?_
   refine LD.drop rfl rfl ⟨39, _, rfl, rfl, rfl⟩ ?_
   refine LD.drop rfl rfl ⟨39, _, rfl, rfl, rfl⟩ ?_
   refine LD.val rfl rfl (ov_pickF rfl rfl) ?_
   refine LD.val rfl rfl (ov_assign rfl) ?_
   refine LD.nil ?_
   refine QM.sub (e' := [(6, _)]) ⟨rfl, trivial⟩ (QM.then ?_)
   refine wpM.ret ?_
   refine QM.leave (.inl rfl) [.tmp 6] Tryz.results126 rfl ?_
   intro w' hm' hc' hg'
   refine ⟨?_, hc'⟩; simp only [resV, isE]; rw [decide_eq_false h3]; simp only [Bool.and_false, Bool.false_and]
  refine LD.drop rfl rfl ⟨24, _, rfl, rfl, rfl⟩ ?_
  refine LD.drop rfl rfl ⟨24, _, rfl, rfl, rfl⟩ ?_
  refine LD.drop rfl rfl ⟨24, _, rfl, rfl, rfl⟩ ?_
  refine LD.drop rfl rfl ⟨24, _, rfl, rfl, rfl⟩ ?_
  refine LD.drop rfl rfl ⟨24, _, rfl, rfl, rfl⟩ ?_
  refine LD.drop rfl rfl ⟨24, _, rfl, rfl, rfl⟩ ?_
  refine LD.drop rfl rfl ⟨24, _, rfl, rfl, rfl⟩ ?_
  refine LD.drop rfl rfl ⟨24, _, rfl, rfl, rfl⟩ ?_
  refine LD.drop rfl rfl ⟨24, _, rfl, rfl, rfl⟩ ?_
  refine LD.drop rfl rfl ⟨24, _, rfl, rfl, rfl⟩ ?_
  refine LD.drop rfl rfl ⟨24, _, rfl, rfl, rfl⟩ ?_
  refine LD.drop rfl rfl ⟨24, _, rfl, rfl, rfl⟩ ?_
  refine LD.drop rfl rfl ⟨24, _, rfl, rfl, rfl⟩ ?_
  refine LD.val rfl rfl (ov_pickF rfl rfl) ?_
  refine LD.val rfl rfl (ov_move rfl) ?_
  refine LD.drop rfl rfl ⟨39, _, rfl, rfl, rfl⟩ ?_
  refine LD.drop rfl rfl ⟨39, _, rfl, rfl, rfl⟩ ?_
  refine LD.drop rfl rfl ⟨39, _, rfl, rfl, rfl⟩ ?_
  refine LD.drop rfl rfl ⟨39, _, rfl, rfl, rfl⟩ ?_
  refine LD.drop rfl rfl ⟨39, _, rfl, rfl, rfl⟩ ?_
  refine LD.drop rfl rfl ⟨39, _, rfl, rfl, rfl⟩ ?_
  refine LD.drop rfl rfl ⟨39, _, rfl, rfl, rfl⟩ ?_
  refine LD.drop rfl rfl ⟨39, _, rfl, rfl, rfl⟩ ?_
  refine LD.drop rfl rfl ⟨39, _, rfl, rfl, rfl⟩ ?_
  refine LD.drop rfl rfl ⟨39, _, rfl, rfl, rfl⟩ ?_
  refine LD.drop rfl rfl ⟨39, _, rfl, rfl, rfl⟩ ?_
  refine LD.drop rfl rfl ⟨39, _, rfl, rfl, rfl⟩ ?_
  refine LD.drop rfl rfl ⟨39, _, rfl, rfl, rfl⟩ ?_
  refine LD.val rfl rfl (ov_pickF rfl rfl) ?_
  refine LD.val rfl rfl (ov_assign rfl) ?_
  refine LD.nil ?_
  refine QM.sub (e' := [(6, _)]) ⟨rfl, trivial⟩ (QM.then ?_)
  refine wpM.ret ?_
  refine QM.leave (.inl rfl) [.tmp 6] Tryz.results126 rfl ?_
  intro w' hm' hc' hg'
  refine ⟨?_, hc'⟩; simp only [resV, isE]; rw [decide_eq_false (show ¬ i < ws.length by omega)]; simp only [Bool.and_false, Bool.false_and]
 refine LD.drop rfl rfl ⟨12, _, rfl, rfl, rfl⟩ ?_
 refine LD.drop rfl rfl ⟨12, _, rfl, rfl, rfl⟩ ?_
 refine LD.drop rfl rfl ⟨12, _, rfl, rfl, rfl⟩ ?_
 refine LD.drop rfl rfl ⟨12, _, rfl, rfl, rfl⟩ ?_
 refine LD.drop rfl rfl ⟨12, _, rfl, rfl, rfl⟩ ?_
 refine LD.drop rfl rfl ⟨12, _, rfl, rfl, rfl⟩ ?_
 refine LD.drop rfl rfl ⟨12, _, rfl, rfl, rfl⟩ ?_
 refine LD.drop rfl rfl ⟨12, _, rfl, rfl, rfl⟩ ?_
 refine LD.drop rfl rfl ⟨12, _, rfl, rfl, rfl⟩ ?_
 refine LD.drop rfl rfl ⟨12, _, rfl, rfl, rfl⟩ ?_
 refine LD.val rfl rfl (ov_pickF rfl rfl) ?_
 refine LD.val rfl rfl (ov_move rfl) ?_
 refine LD.drop rfl rfl ⟨24, _, rfl, rfl, rfl⟩ ?_
 refine LD.drop rfl rfl ⟨24, _, rfl, rfl, rfl⟩ ?_
 refine LD.drop rfl rfl ⟨24, _, rfl, rfl, rfl⟩ ?_
 refine LD.drop rfl rfl ⟨24, _, rfl, rfl, rfl⟩ ?_
 refine LD.drop rfl rfl ⟨24, _, rfl, rfl, rfl⟩ ?_
 refine LD.drop rfl rfl ⟨24, _, rfl, rfl, rfl⟩ ?_
 refine LD.drop rfl rfl ⟨24, _, rfl, rfl, rfl⟩ ?_
 refine LD.drop rfl rfl ⟨24, _, rfl, rfl, rfl⟩ ?_
 refine LD.drop rfl rfl ⟨24, _, rfl, rfl, rfl⟩ ?_
 refine LD.drop rfl rfl ⟨24, _, rfl, rfl, rfl⟩ ?_
 refine LD.drop rfl rfl ⟨24, _, rfl, rfl, rfl⟩ ?_
 refine LD.drop rfl rfl ⟨24, _, rfl, rfl, rfl⟩ ?_
 refine LD.drop rfl rfl ⟨24, _, rfl, rfl, rfl⟩ ?_
 refine LD.val rfl rfl (ov_pickF rfl rfl) ?_
 refine LD.val rfl rfl (ov_move rfl) ?_
 refine LD.drop rfl rfl ⟨39, _, rfl, rfl, rfl⟩ ?_
 refine LD.drop rfl rfl ⟨39, _, rfl, rfl, rfl⟩ ?_
 refine LD.drop rfl rfl ⟨39, _, rfl, rfl, rfl⟩ ?_
 refine LD.drop rfl rfl ⟨39, _, rfl, rfl, rfl⟩ ?_
 refine LD.drop rfl rfl ⟨39, _, rfl, rfl, rfl⟩ ?_
 refine LD.drop rfl rfl ⟨39, _, rfl, rfl, rfl⟩ ?_
 refine LD.drop rfl rfl ⟨39, _, rfl, rfl, rfl⟩ ?_
 refine LD.drop rfl rfl ⟨39, _, rfl, rfl, rfl⟩ ?_
 refine LD.drop rfl rfl ⟨39, _, rfl, rfl, rfl⟩ ?_
 refine LD.drop rfl rfl ⟨39, _, rfl, rfl, rfl⟩ ?_
 refine LD.drop rfl rfl ⟨39, _, rfl, rfl, rfl⟩ ?_
 refine LD.drop rfl rfl ⟨39, _, rfl, rfl, rfl⟩ ?_
 refine LD.drop rfl rfl ⟨39, _, rfl, rfl, rfl⟩ ?_
 refine LD.val rfl rfl (ov_pickF rfl rfl) ?_
 refine LD.val rfl rfl (ov_assign rfl) ?_
 refine LD.nil ?_
 refine QM.sub (e' := [(6, _)]) ⟨rfl, trivial⟩ (QM.then ?_)
 refine wpM.ret ?_
 refine QM.leave (.inl rfl) [.tmp 6] Tryz.results126 rfl ?_
 intro w' hm' hc' hg'
 refine ⟨?_, hc'⟩; simp only [resV, isE]; rw [decide_eq_false h1]; simp only [Bool.and_false, Bool.false_and]
set_option maxRecDepth 100000 in
theorem maybe_spec {ws : List Wrd} (b : Nat) {ad : Option Addr} {n cap : Nat} (i : Nat) (e k : Int) (t : List UInt8) (w : World) (hn : n = ws.length) (hx : ws.length ≤ 1000000000) (hl : Sr fW 4 ws (.slice ad n cap) w) (hab : 0 < ws.length → adB ad ≠ b) (hM : Mem w [rB b ad n cap i e]) : Ret Tryz.prog 125 #[.pointer (some ⟨b, 0, none⟩), .int .i64 k, vS t] w (WrP b (.bool (isE ws i e k t)) (rO ad n cap (mayE ws i e k t) e) w) := by
 refine Ret.enterM (l := [.pointer (some ⟨b, 0, none⟩), .int .i64 k, vS t]) Tryz.func125 rfl Tryz.ntmps125 rfl ([rB b ad n cap i e]) ((fun x => x = b)) hM ?_
 refine wpM.seq (wpM.region ?_)
 refine LM.as rfl ?_
 refine LM.nil (QM.sub (e' := [(0, _), (1, _), (2, _)]) au9 (QM.then ?_))
 refine wpM.seq ?_
 refine wpM.seq (wpM.region ?_)
 refine LM.mv rfl (LM.mv rfl (LM.mv rfl ?_))
 refine LM.callE (oc_call (enters_fn Tryz.func126 (by kernel_rfl) rfl) rfl) (fun w hm hc hg => is_spec b i e k t w hn (hl.kp hc hab) (hm.pick _)) ?_
 refine LM.nil (QM.sub (e' := [(0, _), (10, _)]) au9 (QM.then ?_))
 first | refine wpM.condD rfl (fun h1 => ?_) (fun h1 => ?_) | refine wpM.condB rfl (fun h1 => ?_) (fun h1 => ?_)
 ·
  have hlt := (isE_lt h1).1
  refine wpM.seq (wpM.region ?_)
  refine LM.mv rfl ?_
  refine LM.val (ov_nilCheck rfl) ?_
  refine LM.val (ov_field Tryz.underlying181 rfl Tryz.sizeOf3 rfl (k := 1) rfl rfl) ?_
  refine LM.rd (om_ld Tryz.isAgg3 rfl rfl) ?_
  refine LM.val (ov_add64 rfl rfl (by omega)) ?_
  refine LM.val (ov_nilCheck rfl) ?_
  refine LM.val (ov_field Tryz.underlying181 rfl Tryz.sizeOf3 rfl (k := 1) rfl rfl) ?_
  refine LM.st Tryz.sizeOf3 rfl rfl rfl au5 rfl (fun _ => rfl) ?_
  refine LM.nil (QM.sub (e' := []) trivial (QM.then (wpM.seq (wpM.region ?_))))
  refine LM.as rfl ?_
  refine LM.nil (QM.sub (e' := [(6, _)]) ⟨rfl, trivial⟩ (QM.then ?_))
  refine wpM.ret ?_
  refine QM.then_ret ?_
  refine QM.leave (.inl rfl) [.tmp 6] Tryz.results125 rfl ?_
  intro w' hm' hc' hg'
  refine ⟨by rw [h1]; rfl, hc', ?_⟩; unfold mayE; rw [if_pos h1]; exact hm'.at b
 refine wpM.skip ?_
 refine QM.then (wpM.seq (wpM.region ?_))
 refine LM.as rfl ?_
 refine LM.nil (QM.sub (e' := [(6, _)]) ⟨rfl, trivial⟩ (QM.then ?_))
 refine wpM.ret ?_
 refine QM.leave (.inl rfl) [.tmp 6] Tryz.results125 rfl ?_
 intro w' hm' hc' hg'
 refine ⟨by rw [h1]; rfl, hc', ?_⟩; unfold mayE; rw [if_neg (by rw [h1]; simp)]; exact hm'.at b
set_option maxRecDepth 100000 in
theorem need_spec {ws : List Wrd} (b : Nat) {ad : Option Addr} {n cap : Nat} (i : Nat) (e k : Int) (t : List UInt8) (w : World) (hn : n = ws.length) (hx : ws.length ≤ 1000000000) (hl : Sr fW 4 ws (.slice ad n cap) w) (hab : 0 < ws.length → adB ad ≠ b) (hM : Mem w [rB b ad n cap i e]) : Ret Tryz.prog 124 #[.pointer (some ⟨b, 0, none⟩), .int .i64 k, vS t] w (WrP b (.tuple #[]) (rO ad n cap (needE ws i e k t).1 (needE ws i e k t).2) w) := by
 refine Ret.enterM (l := [.pointer (some ⟨b, 0, none⟩), .int .i64 k, vS t]) Tryz.func124 rfl Tryz.ntmps124 rfl ([rB b ad n cap i e]) ((fun x => x = b)) hM ?_
 refine wpM.seq (wpM.region ?_)
 refine LM.mv rfl (LM.mv rfl (LM.mv rfl ?_))
 refine LM.cW (oc_call (enters_fn Tryz.func125 (by kernel_rfl) rfl) rfl) (fun w hm hc hg => maybe_spec b i e k t w hn hx (hl.kp hc hab) hab (hm.pick _)) rfl (fun _ => rfl) ?_
 first | refine LM.val (ov_notD rfl) ?_ | refine LM.val (ov_not rfl) ?_
 refine LM.nil (QM.sub (e' := [(0, _), (10, _)]) au9 (QM.then ?_))
 first | refine wpM.condD rfl (fun h1 => ?_) (fun h1 => ?_) | refine wpM.condB rfl (fun h1 => ?_) (fun h1 => ?_)
 ·
  refine wpM.region ?_
  refine LM.mv rfl ?_
  refine LM.cW (oc_call (enters_fn Tryz.func128 (by kernel_rfl) rfl) rfl) (fun w hm hc hg => fail_spec b (ad := ad) (n := n) (cap := cap) (mayE ws i e k t) e 5 w (hm.pick _)) rfl (fun _ => rfl) ?_
  refine LM.nil (QM.sub (e' := []) trivial ?_)
  refine QM.leave (.inr rfl) [] Tryz.results124 rfl ?_
  intro w' hm' hc' hg'
  have hf : isE ws i e k t = false := (by simpa using h1); refine ⟨rfl, hc', ?_⟩; have h3 := hm'.at b; unfold mayE at h3; rw [if_neg (by rw [hf]; simp)] at h3; unfold needE; rw [if_neg (by rw [hf]; simp)]; by_cases h0 : e = 0; (rw [if_pos h0] at h3 ⊢; exact h3); (rw [if_neg h0] at h3 ⊢; exact h3)
 refine wpM.skip ?_
 refine QM.leave (.inr rfl) [] Tryz.results124 rfl ?_
 intro w' hm' hc' hg'
 have hf : isE ws i e k t = true := (by simpa using h1); refine ⟨rfl, hc', ?_⟩; have h3 := hm'.at b; unfold mayE at h3; rw [if_pos hf] at h3; unfold needE; rw [if_pos hf]; exact h3
set_option maxRecDepth 100000 in
set_option maxHeartbeats 1000000 in
theorem number_spec {ws : List Wrd} (b : Nat) {ad : Option Addr} {n cap : Nat} (i : Nat) (e lo hi : Int) (w : World) (hn : n = ws.length) (hx : ws.length ≤ 1000000000) (hl : Sr fW 4 ws (.slice ad n cap) w) (hab : 0 < ws.length → adB ad ≠ b) (hM : Mem w [rB b ad n cap i e]) : Ret Tryz.prog 149 #[.pointer (some ⟨b, 0, none⟩), .agg #[.int .i64 lo, .int .i64 hi]] w (WrP b (.int .i64 (numE ws i e lo hi).2.2) (rO ad n cap (numE ws i e lo hi).1 (numE ws i e lo hi).2.1) w) := by
 refine Ret.enterM (l := [.pointer (some ⟨b, 0, none⟩), .agg #[.int .i64 lo, .int .i64 hi]]) Tryz.func149 rfl Tryz.ntmps149 rfl ([rB b ad n cap i e]) ((fun x => x = b)) hM ?_
 refine wpM.seq (wpM.region ?_)
 refine LM.box rfl rfl (fun b3 hb3 => ?_)
 refine LM.as rfl ?_
 refine LM.nil (QM.sub (e' := [(0, _), (3, _)]) au9 (QM.then ?_))
 refine wpM.seq ?_
 refine wpM.block ?_
 refine wpM.seq (wpM.region ?_)
 refine LM.val (ov_field Tryz.underlying159 rfl Tryz.sizeOf3 rfl (k := 0) rfl rfl) ?_
 refine LM.rd (om_ld Tryz.isAgg3 rfl rfl) ?_
 refine LM.val (ov_eql rfl rfl) ?_
 refine LM.mv rfl ?_
 refine LM.splitD (t := 9) rfl (fun h1 => ?_) (fun h1 => ?_)
 ·
  refine LM.dr 9 rfl rfl rfl (LM.dr 9 rfl rfl rfl (LM.dr 9 rfl rfl rfl (LM.dr 9 rfl rfl rfl (LM.dr 9 rfl rfl rfl ?_))))
  refine LM.val (ov_pickT rfl rfl) ?_
  refine LM.as rfl ?_
  refine LM.nil (QM.sub (e' := [(0, _), (3, _), (5, _)]) au9 (QM.then ?_))
  refine wpM.condT rfl ?_
  refine wpM.seq (wpM.region ?_)
  refine LM.as rfl ?_
  refine LM.nil (QM.sub (e' := [(4, _)]) ⟨rfl, trivial⟩ (QM.then ?_))
  refine wpM.ret ?_
  refine QM.block_ret ?_
  refine QM.then_ret ?_
  refine QM.leave (.inl rfl) [.tmp 4] Tryz.results149 rfl ?_
  intro w' hm' hc' hg'
  rw [num_a h1]; exact ⟨rfl, hc', hm'.at b⟩
 refine LM.sp 9 rfl rfl rfl (LM.mv rfl (LM.sp 9 rfl rfl rfl ?_))
 refine LM.val (ov_nilCheck rfl) ?_
 refine LM.sp 9 rfl rfl rfl (LM.val (ov_field Tryz.underlying181 rfl Tryz.sizeOf31 rfl (k := 2) rfl rfl) (LM.sp 9 rfl rfl rfl ?_))
 refine LM.rd (om_ld Tryz.isAgg31 rfl rfl) ?_
 refine LM.sp 9 rfl rfl rfl ?_
 refine LM.val (ov_neq rfl rfl) ?_
 refine LM.val (ov_pickF rfl rfl) ?_
 refine LM.as rfl ?_
 refine LM.nil (QM.sub (e' := [(0, _), (3, _), (5, _)]) au9 (QM.then ?_))
 refine wpM.condD rfl (fun h2 => ?_) (fun h2 => ?_)
 ·
  refine wpM.seq (wpM.region ?_)
  refine LM.as rfl ?_
  refine LM.nil (QM.sub (e' := [(4, _)]) ⟨rfl, trivial⟩ (QM.then ?_))
  refine wpM.ret ?_
  refine QM.block_ret ?_
  refine QM.then_ret ?_
  refine QM.leave (.inl rfl) [.tmp 4] Tryz.results149 rfl ?_
  intro w' hm' hc' hg'
  rw [num_b h2]; exact ⟨rfl, hc', hm'.at b⟩
 obtain rfl : e = 0 := Classical.not_not.1 h2
 refine wpM.seq ?_
 refine wpM.draw [(0, 0), (1, 0), (2, 0), (3, 1), (4, 0), (5, 0), (6, 0), (7, 1), (8, 0), (9, 0), (10, 0), (11, 0), (12, 0), (13, 0), (14, 1), (15, 0), (16, 0), (17, 0), (18, 1), (19, 0), (20, 0), (21, 1), (22, 0), (23, 0), (24, 0)] (by kernel_rfl) (by kernel_rfl) ?_
 refine LD.val rfl rfl (ov_move rfl) ?_
 refine LD.val rfl rfl (ov_nilCheck rfl) ?_
 refine LD.val rfl rfl (ov_field Tryz.underlying181 rfl Tryz.sizeOf3 rfl (k := 1) rfl rfl) ?_
 refine LD.rd rfl rfl (om_ld Tryz.isAgg3 rfl rfl) ?_
 refine LD.val rfl rfl (ov_move rfl) ?_
 refine LD.val rfl rfl (ov_nilCheck rfl) ?_
 refine LD.val rfl rfl (ov_field Tryz.underlying181 rfl Tryz.sizeOf23 rfl (k := 0) rfl rfl) ?_
 refine LD.rd rfl rfl (om_ld Tryz.isAgg23 rfl rfl) ?_
 refine LD.val rfl rfl (ov_len Tryz.underlying23 rfl) ?_
 refine LD.val rfl rfl (ov_geq rfl rfl) ?_
 refine LD.val rfl rfl (ov_move rfl) ?_
 refine LD.splitD (t := 27) rfl (fun h3 => ?_) (fun h3 => ?_)
 ·
  refine LD.drop rfl rfl ⟨27, _, rfl, rfl, rfl⟩ ?_
  refine LD.drop rfl rfl ⟨27, _, rfl, rfl, rfl⟩ ?_
  refine LD.drop rfl rfl ⟨27, _, rfl, rfl, rfl⟩ ?_
  refine LD.drop rfl rfl ⟨27, _, rfl, rfl, rfl⟩ ?_
  refine LD.drop rfl rfl ⟨27, _, rfl, rfl, rfl⟩ ?_
  refine LD.drop rfl rfl ⟨27, _, rfl, rfl, rfl⟩ ?_
  refine LD.drop rfl rfl ⟨27, _, rfl, rfl, rfl⟩ ?_
  refine LD.drop rfl rfl ⟨27, _, rfl, rfl, rfl⟩ ?_
  refine LD.drop rfl rfl ⟨27, _, rfl, rfl, rfl⟩ ?_
  refine LD.drop rfl rfl ⟨27, _, rfl, rfl, rfl⟩ ?_
  refine LD.drop rfl rfl ⟨27, _, rfl, rfl, rfl⟩ ?_
  refine LD.drop rfl rfl ⟨27, _, rfl, rfl, rfl⟩ ?_
  refine LD.val rfl rfl (ov_pickT rfl rfl) ?_
  refine LD.val rfl rfl (ov_assign rfl) ?_
  refine LD.nil ?_
  refine QM.sub (e' := [(0, _), (3, _), (16, _)]) au9 (QM.then ?_)
  refine wpM.condT rfl ?_
  refine wpM.seq (wpM.region ?_)
  refine LM.mv rfl ?_
  refine LM.cW (oc_call (enters_fn Tryz.func128 (by kernel_rfl) rfl) rfl) (fun w hm hc hg => fail_spec b (ad := ad) (n := n) (cap := cap) i 0 _ w (hm.pick _)) rfl (fun _ => rfl) ?_
  refine LM.nil (QM.sub (e' := []) trivial (QM.then (wpM.seq (wpM.region ?_))))
  refine LM.as rfl ?_
  refine LM.nil (QM.sub (e' := [(4, _)]) ⟨rfl, trivial⟩ (QM.then ?_))
  refine wpM.ret ?_
  refine QM.block_ret ?_
  refine QM.then_ret ?_
  refine QM.leave (.inl rfl) [.tmp 4] Tryz.results149 rfl ?_
  intro w' hm' hc' hg'
  rw [num_c h1 (.inl (by omega))]; exact ⟨rfl, hc', hm'.at b⟩
 refine LD.val rfl ⟨27, _, rfl, rfl, rfl⟩ (ov_move rfl) ?_
 refine LD.val rfl ⟨27, _, rfl, rfl, rfl⟩ (ov_nilCheck rfl) ?_
 refine LD.val rfl ⟨27, _, rfl, rfl, rfl⟩ (ov_field Tryz.underlying181 rfl Tryz.sizeOf23 rfl (k := 0) rfl rfl) ?_
 refine LD.rd rfl ⟨27, _, rfl, rfl, rfl⟩ (om_ld Tryz.isAgg23 rfl rfl) ?_
 refine LD.val rfl ⟨27, _, rfl, rfl, rfl⟩ (ov_move rfl) ?_
 refine LD.val rfl ⟨27, _, rfl, rfl, rfl⟩ (ov_nilCheck rfl) ?_
 refine LD.val rfl ⟨27, _, rfl, rfl, rfl⟩ (ov_field Tryz.underlying181 rfl Tryz.sizeOf3 rfl (k := 1) rfl rfl) ?_
 refine LD.rd rfl ⟨27, _, rfl, rfl, rfl⟩ (om_ld Tryz.isAgg3 rfl rfl) ?_
 refine LD.val rfl ⟨27, _, rfl, rfl, rfl⟩ (ov_idxSN au6 Tryz.underlying23 Tryz.sizeOf65 rfl rfl (by omega)) ?_
 refine LD.val rfl ⟨27, _, rfl, rfl, rfl⟩ (ov_field Tryz.underlying65 rfl Tryz.sizeOf3 rfl (k := 0) rfl rfl) ?_
 first | refine LD.rd rfl ⟨27, _, rfl, rfl, rfl⟩ (om_slE (j := 0) (by assumption) (by intro _; rfl) Tryz.isAgg3 rfl rfl au3 rfl (by rfl)) ?_ | refine LD.rdC rfl ⟨27, _, rfl, rfl, rfl⟩ (om_srE (j := 0) (by assumption) Tryz.isAgg3 rfl rfl au3 (by rfl) (by rfl) (by exact hab (by omega))) ?_ | refine LD.rd rfl ⟨27, _, rfl, rfl, rfl⟩ (om_ld Tryz.isAgg3 rfl rfl) ?_
 refine LD.val rfl ⟨27, _, rfl, rfl, rfl⟩ (ov_neq rfl rfl) ?_
 refine LD.val rfl rfl (ov_pickF rfl rfl) ?_
 refine LD.val rfl rfl (ov_assign rfl) ?_
 refine LD.nil ?_
 refine QM.sub (e' := [(0, _), (3, _), (16, _)]) au9 (QM.then ?_)
 refine wpM.condD rfl (fun h4 => ?_) (fun h4 => ?_)
 ·
  refine wpM.seq (wpM.region ?_)
  refine LM.mv rfl ?_
  refine LM.cW (oc_call (enters_fn Tryz.func128 (by kernel_rfl) rfl) rfl) (fun w hm hc hg => fail_spec b (ad := ad) (n := n) (cap := cap) i 0 _ w (hm.pick _)) rfl (fun _ => rfl) ?_
  refine LM.nil (QM.sub (e' := []) trivial (QM.then (wpM.seq (wpM.region ?_))))
  refine LM.as rfl ?_
  refine LM.nil (QM.sub (e' := [(4, _)]) ⟨rfl, trivial⟩ (QM.then ?_))
  refine wpM.ret ?_
  refine QM.block_ret ?_
  refine QM.then_ret ?_
  refine QM.leave (.inl rfl) [.tmp 4] Tryz.results149 rfl ?_
  intro w' hm' hc' hg'
  rw [num_c h1 (.inr h4)]; exact ⟨rfl, hc', hm'.at b⟩
 refine wpM.seq ?_
 refine wpM.draw [(0, 1), (1, 0), (2, 0), (3, 0), (4, 1), (5, 0), (6, 0), (7, 0), (8, 1), (9, 0), (10, 0), (11, 1), (12, 2), (13, 0), (14, 0)] (by kernel_rfl) (by kernel_rfl) ?_
 refine LD.rd rfl rfl (om_ldW Tryz.isAgg159 Tryz.sizeOf159 rfl rfl) ?_
 refine LD.val rfl rfl (ov_move rfl) ?_
 refine LD.val rfl rfl (ov_nilCheck rfl) ?_
 refine LD.val rfl rfl (ov_field Tryz.underlying181 rfl Tryz.sizeOf23 rfl (k := 0) rfl rfl) ?_
 refine LD.rd rfl rfl (om_ld Tryz.isAgg23 rfl rfl) ?_
 refine LD.val rfl rfl (ov_move rfl) ?_
 refine LD.val rfl rfl (ov_nilCheck rfl) ?_
 refine LD.val rfl rfl (ov_field Tryz.underlying181 rfl Tryz.sizeOf3 rfl (k := 1) rfl rfl) ?_
 refine LD.rd rfl rfl (om_ld Tryz.isAgg3 rfl rfl) ?_
 refine LD.val rfl rfl (ov_idxSN au6 Tryz.underlying23 Tryz.sizeOf65 rfl rfl (by omega)) ?_
 refine LD.val rfl rfl (ov_field Tryz.underlying65 rfl Tryz.sizeOf3 rfl (k := 2) rfl rfl) ?_
 first | refine LD.rd rfl rfl (om_slE (j := 2) (by assumption) (by intro _; rfl) Tryz.isAgg3 rfl rfl au3 rfl (by rfl)) ?_ | refine LD.rdC rfl rfl (om_srE (j := 2) (by assumption) Tryz.isAgg3 rfl rfl au3 (by rfl) (by rfl) (by exact hab (by omega))) ?_ | refine LD.rd rfl rfl (om_ld Tryz.isAgg3 rfl rfl) ?_
 refine LD.callE rfl rfl (oc_call (enters_fn Tryz.func165 (by kernel_rfl) rfl) rfl) (fun w hm hc hg => has_spec lo hi _ w) ?_
 first | refine LD.val rfl rfl (ov_notD rfl) ?_ | refine LD.val rfl rfl (ov_not rfl) ?_
 refine LD.val rfl rfl (ov_assign rfl) ?_
 refine LD.nil ?_
 refine QM.sub (e' := [(0, _), (43, _)]) au9 (QM.then ?_)
 first | refine wpM.condD rfl (fun h5 => ?_) (fun h5 => ?_) | refine wpM.condB rfl (fun h5 => ?_) (fun h5 => ?_)
 ·
  refine wpM.seq (wpM.region ?_)
  refine LM.mv rfl ?_
  refine LM.cW (oc_call (enters_fn Tryz.func128 (by kernel_rfl) rfl) rfl) (fun w hm hc hg => fail_spec b (ad := ad) (n := n) (cap := cap) i 0 _ w (hm.pick _)) rfl (fun _ => rfl) ?_
  refine LM.nil (QM.sub (e' := []) trivial (QM.then (wpM.seq (wpM.region ?_))))
  refine LM.as rfl ?_
  refine LM.nil (QM.sub (e' := [(4, _)]) ⟨rfl, trivial⟩ (QM.then ?_))
  refine wpM.ret ?_
  refine QM.block_ret ?_
  refine QM.then_ret ?_
  refine QM.leave (.inl rfl) [.tmp 4] Tryz.results149 rfl ?_
  intro w' hm' hc' hg'
  rw [num_d h1 (by omega) (Classical.not_not.1 h4) (by simpa using h5)]; exact ⟨rfl, hc', hm'.at b⟩
 refine wpM.skip ?_
 refine QM.block_normal ?_
 refine QM.then (wpM.seq (wpM.region ?_))
 refine LM.mv rfl ?_
 refine LM.val (ov_nilCheck rfl) ?_
 refine LM.val (ov_field Tryz.underlying181 rfl Tryz.sizeOf3 rfl (k := 1) rfl rfl) ?_
 refine LM.rd (om_ld Tryz.isAgg3 rfl rfl) ?_
 refine LM.val (ov_add64 rfl rfl (by omega)) ?_
 refine LM.val (ov_nilCheck rfl) ?_
 refine LM.val (ov_field Tryz.underlying181 rfl Tryz.sizeOf3 rfl (k := 1) rfl rfl) ?_
 refine LM.st Tryz.sizeOf3 rfl rfl rfl au5 rfl (fun _ => rfl) ?_
 refine LM.nil (QM.sub (e' := [(0, _)]) ⟨rfl, trivial⟩ (QM.then ?_))
 refine wpM.seq ?_
 refine wpM.draw [(0, 0), (1, 0), (2, 0), (3, 1), (4, 0), (5, 0), (6, 0), (7, 1), (8, 0), (9, 0), (10, 0), (11, 1), (12, 0)] (by kernel_rfl) (by kernel_rfl) ?_
 refine LD.val rfl rfl (ov_move rfl) ?_
 refine LD.val rfl rfl (ov_nilCheck rfl) ?_
 refine LD.val rfl rfl (ov_field Tryz.underlying181 rfl Tryz.sizeOf23 rfl (k := 0) rfl rfl) ?_
 refine LD.rd rfl rfl (om_ld Tryz.isAgg23 rfl rfl) ?_
 refine LD.val rfl rfl (ov_move rfl) ?_
 refine LD.val rfl rfl (ov_nilCheck rfl) ?_
 refine LD.val rfl rfl (ov_field Tryz.underlying181 rfl Tryz.sizeOf3 rfl (k := 1) rfl rfl) ?_
 refine LD.rd rfl rfl (om_ld Tryz.isAgg3 rfl rfl) ?_
 refine LD.val rfl rfl (ov_sub64 rfl rfl (by omega)) ?_
 first | refine LD.val rfl rfl (ov_idxSN au6 Tryz.underlying23 Tryz.sizeOf65 rfl rfl (by omega)) ?_ | refine LD.val rfl rfl (ov_idxS au6 Tryz.underlying23 Tryz.sizeOf65 rfl rfl (by omega)) ?_ | refine LD.val rfl rfl (ov_idx Tryz.underlying23 Tryz.sizeOf65 rfl rfl (by omega)) ?_
 refine LD.val rfl rfl (ov_field Tryz.underlying65 rfl Tryz.sizeOf3 rfl (k := 2) rfl rfl) ?_
 first | refine LD.rd rfl rfl (om_slE (j := 2) (by assumption) (by intro _; rfl) Tryz.isAgg3 rfl rfl au3 rfl (by rfl)) ?_ | refine LD.rdC rfl rfl (om_srE (j := 2) (by assumption) Tryz.isAgg3 rfl rfl au3 (by rfl) (by rfl) (by exact hab (by omega))) ?_ | refine LD.rd rfl rfl (om_ld Tryz.isAgg3 rfl rfl) ?_
 refine LD.val rfl rfl (ov_assign rfl) ?_
 refine LD.nil ?_
 refine QM.sub (e' := [(4, _)]) ⟨rfl, trivial⟩ (QM.then ?_)
 refine wpM.ret ?_
 refine QM.leave (.inl rfl) [.tmp 4] Tryz.results149 rfl ?_
 intro w' hm' hc' hg'
 rw [num_e h1 (by omega) (Classical.not_not.1 h4) (by simpa using h5), show ((i : Int) + 1 - 1).toNat = i by omega]; exact ⟨rfl, hc', hm'.at b⟩
end Go.Eng
namespace Go.Eng
open Go Go.Proofs Go.RowKit
theorem op_need {ws : List Wrd} {i ahead : Nat} (h1 : kindR ws i ≠ 0) (h2 : ahead < 12) : opR ws i ahead = ((needE ws (opB ws i).1 (opB ws i).2.1 3 [59]).1, (needE ws (opB ws i).1 (opB ws i).2.1 3 [59]).2, ⟨kindR ws i, (opA ws i).2.2, (opB ws i).2.2⟩) := by
  unfold opR needE; rw [if_neg h1, if_neg (by omega), isE_eq]
  by_cases h : (opB ws i).2.1 = 0
  · rw [if_neg (by simp [h]), decide_eq_true h, Bool.true_and]
    split
    · rw [h]
    · rfl
  · rw [if_pos h, decide_eq_false h, Bool.false_and, if_neg (by simp), if_neg h]
theorem op_a {ws : List Wrd} {i ahead : Nat} (h1 : kindR ws i = 0) : opR ws i ahead = (i, 5, ⟨0, 0, 0⟩) := by unfold opR; rw [if_pos h1]
theorem op_b {ws : List Wrd} {i ahead : Nat} (h1 : kindR ws i ≠ 0) (h2 : 12 ≤ ahead) : opR ws i ahead = (i, 6, ⟨0, 0, 0⟩) := by unfold opR; rw [if_neg h1, if_pos h2]
set_option maxRecDepth 100000 in
set_option maxHeartbeats 1000000 in
theorem op_spec {ws : List Wrd} (b : Nat) {ad : Option Addr} {n cap : Nat} (i ahead : Nat) (w : World) (hn : n = ws.length) (hx : ws.length ≤ 1000000000) (hl : Sr fW 4 ws (.slice ad n cap) w) (hab : 0 < ws.length → adB ad ≠ b) (hM : Mem w [rB b ad n cap i 0]) : Ret Tryz.prog 127 #[.pointer (some ⟨b, 0, none⟩), .int .i64 (ahead : Nat)] w (WrP b (.agg (fO (opR ws i ahead).2.2).toArray) (rO ad n cap (opR ws i ahead).1 (opR ws i ahead).2.1) w) := by
 refine Ret.enterM (l := [.pointer (some ⟨b, 0, none⟩), .int .i64 (ahead : Nat)]) Tryz.func127 rfl Tryz.ntmps127 rfl ([rB b ad n cap i 0]) ((fun x => x = b)) hM ?_
 refine wpM.seq (wpM.region ?_)
 refine LM.alloc Tryz.zeroValue135 rfl (fun b4 hb4 => ?_)
 refine LM.nil (QM.sub (e' := [(0, _), (1, _), (4, _)]) au9 (QM.then (wpM.seq (wpM.region ?_))))
 refine LM.as rfl ?_
 refine LM.nil (QM.sub (e' := [(0, _), (1, _), (4, _), (5, _)]) au9 (QM.then ?_))
 refine wpM.seq ?_
 refine wpM.seq ?_
 refine wpM.joinK (α := Bool) (fun q => [(32, .bool q)]) [(0, _), (1, _), (4, _), (5, _)] (fun q => rB b ad n cap i 0 :: (b4, .cells #[.int .i64 0, .int .i64 0, .int .i64 0] 135 (0, 0)) :: []) (fun q => q = (decide (i < ws.length) && decide ((ws.getD i default).k = 1))) ⟨rfl, rfl, rfl, rfl, trivial⟩ ?_ ?_
 ·
  refine wpM.draw [(0, 0), (1, 0), (2, 0), (3, 1), (4, 0), (5, 0), (6, 0), (7, 1), (8, 0), (9, 0), (10, 0), (11, 0), (12, 0), (13, 0), (14, 1), (15, 0), (16, 0), (17, 0), (18, 1), (19, 0), (20, 0), (21, 1), (22, 0), (23, 0)] (by kernel_rfl) (by kernel_rfl) ?_
  refine LD.val rfl rfl (ov_move rfl) ?_
  refine LD.val rfl rfl (ov_nilCheck rfl) ?_
  refine LD.val rfl rfl (ov_field Tryz.underlying181 rfl Tryz.sizeOf3 rfl (k := 1) rfl rfl) ?_
  refine LD.rd rfl rfl (om_ld Tryz.isAgg3 rfl rfl) ?_
  refine LD.val rfl rfl (ov_move rfl) ?_
  refine LD.val rfl rfl (ov_nilCheck rfl) ?_
  refine LD.val rfl rfl (ov_field Tryz.underlying181 rfl Tryz.sizeOf23 rfl (k := 0) rfl rfl) ?_
  refine LD.rd rfl rfl (om_ld Tryz.isAgg23 rfl rfl) ?_
  refine LD.val rfl rfl (ov_len Tryz.underlying23 rfl) ?_
  refine LD.val rfl rfl (ov_lss rfl rfl) ?_
  refine LD.val rfl rfl (ov_move rfl) ?_
  refine LD.splitD (t := 19) rfl (fun h1 => ?_) (fun h1 => ?_)
  ·
   refine LD.val rfl ⟨19, _, rfl, rfl, rfl⟩ (ov_move rfl) ?_
   refine LD.val rfl ⟨19, _, rfl, rfl, rfl⟩ (ov_nilCheck rfl) ?_
   refine LD.val rfl ⟨19, _, rfl, rfl, rfl⟩ (ov_field Tryz.underlying181 rfl Tryz.sizeOf23 rfl (k := 0) rfl rfl) ?_
   refine LD.rd rfl ⟨19, _, rfl, rfl, rfl⟩ (om_ld Tryz.isAgg23 rfl rfl) ?_
   refine LD.val rfl ⟨19, _, rfl, rfl, rfl⟩ (ov_move rfl) ?_
   refine LD.val rfl ⟨19, _, rfl, rfl, rfl⟩ (ov_nilCheck rfl) ?_
   refine LD.val rfl ⟨19, _, rfl, rfl, rfl⟩ (ov_field Tryz.underlying181 rfl Tryz.sizeOf3 rfl (k := 1) rfl rfl) ?_
   refine LD.rd rfl ⟨19, _, rfl, rfl, rfl⟩ (om_ld Tryz.isAgg3 rfl rfl) ?_
   refine LD.val rfl ⟨19, _, rfl, rfl, rfl⟩ (ov_idxSN au6 Tryz.underlying23 Tryz.sizeOf65 rfl rfl (by omega)) ?_
   refine LD.val rfl ⟨19, _, rfl, rfl, rfl⟩ (ov_field Tryz.underlying65 rfl Tryz.sizeOf3 rfl (k := 0) rfl rfl) ?_
   first | refine LD.rd rfl ⟨19, _, rfl, rfl, rfl⟩ (om_slE (j := 0) (by assumption) (by intro _; rfl) Tryz.isAgg3 rfl rfl au3 rfl (by rfl)) ?_ | refine LD.rdC rfl ⟨19, _, rfl, rfl, rfl⟩ (om_srE (j := 0) (by assumption) Tryz.isAgg3 rfl rfl au3 (by rfl) (by rfl) (by exact hab (by omega))) ?_ | refine LD.rd rfl ⟨19, _, rfl, rfl, rfl⟩ (om_ld Tryz.isAgg3 rfl rfl) ?_
   refine LD.val rfl ⟨19, _, rfl, rfl, rfl⟩ (ov_eql rfl rfl) ?_
   refine LD.val rfl rfl (ov_pickT rfl rfl) ?_
   refine LD.nil ?_
   refine QM.sub (e' := [(0, _), (1, _), (4, _), (5, _), (32, _)]) au9 ?_
   refine QM.meetK (_) ⟨au2, rfl, rfl, rfl, rfl, trivial⟩ au1 ?_
   · (rw [decide_eq_true (show i < ws.length by omega)]; rfl)
  refine LD.drop rfl rfl ⟨19, _, rfl, rfl, rfl⟩ ?_
  refine LD.drop rfl rfl ⟨19, _, rfl, rfl, rfl⟩ ?_
  refine LD.drop rfl rfl ⟨19, _, rfl, rfl, rfl⟩ ?_
  refine LD.drop rfl rfl ⟨19, _, rfl, rfl, rfl⟩ ?_
  refine LD.drop rfl rfl ⟨19, _, rfl, rfl, rfl⟩ ?_
  refine LD.drop rfl rfl ⟨19, _, rfl, rfl, rfl⟩ ?_
  refine LD.drop rfl rfl ⟨19, _, rfl, rfl, rfl⟩ ?_
  refine LD.drop rfl rfl ⟨19, _, rfl, rfl, rfl⟩ ?_
  refine LD.drop rfl rfl ⟨19, _, rfl, rfl, rfl⟩ ?_
  refine LD.drop rfl rfl ⟨19, _, rfl, rfl, rfl⟩ ?_
  refine LD.drop rfl rfl ⟨19, _, rfl, rfl, rfl⟩ ?_
  refine LD.drop rfl rfl ⟨19, _, rfl, rfl, rfl⟩ ?_
  refine LD.val rfl rfl (ov_pickF rfl rfl) ?_
  refine LD.nil ?_
  refine QM.sub (e' := [(0, _), (1, _), (4, _), (5, _), (32, _)]) au9 ?_
  refine QM.meetK (_) ⟨au2, rfl, rfl, rfl, rfl, trivial⟩ au1 ?_
  · first | (rw [decide_eq_true (show i < ws.length by omega)]; rfl) | (rw [decide_eq_false (show ¬ i < ws.length by omega)]; rfl)
 rintro q hq
 change QM _ _ _ _ _ (rB b ad n cap i 0 :: (b4, .cells #[.int .i64 0, .int .i64 0, .int .i64 0] 135 (0, 0)) :: []) _ _ _
 refine QM.then ?_
 refine wpM.joinK (α := Int) (fun kd => [(5, .int .i64 kd)]) [(0, _), (1, _), (4, _)] (fun kd => rB b ad n cap i 0 :: (b4, .cells #[.int .i64 0, .int .i64 0, .int .i64 0] 135 (0, 0)) :: []) (fun kd => kd = kindR ws i) ⟨rfl, rfl, rfl, trivial⟩ ?_ ?_
 ·
  first | refine wpM.condD rfl (fun h2 => ?_) (fun h2 => ?_) | refine wpM.condB rfl (fun h2 => ?_) (fun h2 => ?_)
  ·
   have hlt : i < ws.length := (by rw [h2] at hq; simp only [Bool.true_eq, Bool.and_eq_true, decide_eq_true_eq] at hq; exact hq.1)
   refine wpM.draw [(1, 0), (2, 0), (3, 0), (4, 1), (5, 0), (6, 0), (7, 0), (8, 1), (9, 0), (10, 0), (11, 1), (0, 2), (12, 2), (13, 0), (14, 0)] (by kernel_rfl) (by kernel_rfl) ?_
   refine LD.val rfl rfl (ov_move rfl) ?_
   refine LD.val rfl rfl (ov_nilCheck rfl) ?_
   refine LD.val rfl rfl (ov_field Tryz.underlying181 rfl Tryz.sizeOf23 rfl (k := 0) rfl rfl) ?_
   refine LD.rd rfl rfl (om_ld Tryz.isAgg23 rfl rfl) ?_
   refine LD.val rfl rfl (ov_move rfl) ?_
   refine LD.val rfl rfl (ov_nilCheck rfl) ?_
   refine LD.val rfl rfl (ov_field Tryz.underlying181 rfl Tryz.sizeOf3 rfl (k := 1) rfl rfl) ?_
   refine LD.rd rfl rfl (om_ld Tryz.isAgg3 rfl rfl) ?_
   refine LD.val rfl rfl (ov_idxSN au6 Tryz.underlying23 Tryz.sizeOf65 rfl rfl (by omega)) ?_
   refine LD.val rfl rfl (ov_field Tryz.underlying65 rfl Tryz.sizeOf9 rfl (k := 1) rfl rfl) ?_
   first | refine LD.rd rfl rfl (om_slE (j := 1) (by assumption) (by intro _; rfl) Tryz.isAgg9 rfl rfl au3 rfl (by rfl)) ?_ | refine LD.rdC rfl rfl (om_srE (j := 1) (by assumption) Tryz.isAgg9 rfl rfl au3 (by rfl) (by rfl) (by exact hab (by omega))) ?_ | refine LD.rd rfl rfl (om_ld Tryz.isAgg9 rfl rfl) ?_
   refine LD.cS rfl rfl (oc_call (enters_fn Tryz.func141 (by kernel_rfl) rfl) rfl) (fun w hm hc hg => names_spec w) (fun ad33 n33 cap33 m33 hn33 hs33 => ?_)
   refine LD.callE rfl rfl (oc_call (enters_fn Tryz.func146 (by kernel_rfl) rfl) rfl) (fun w hm hc hg => index_str (ws.getD i default).t w hn33 (hs33.srM (fun _ => rfl) hm) (by decide)) ?_
   refine LD.val rfl rfl (ov_max rfl rfl) ?_
   refine LD.val rfl rfl (ov_assign rfl) ?_
   refine LD.nil ?_
   refine QM.sub (e' := [(0, _), (1, _), (4, _), (5, _)]) au9 ?_
   refine QM.meetK (_) ⟨au2, rfl, rfl, rfl, trivial⟩ au1 ?_
   · show mx0 (fixI _ nmW) = kindR ws i; unfold kindR; rw [if_pos (by rw [← hq]; exact h2)]; rfl
  refine wpM.skip ?_
  refine QM.meetK (_) ⟨au2, rfl, rfl, rfl, trivial⟩ au1 ?_
  · unfold kindR; rw [if_neg (by rw [← hq, h2]; simp)]
 rintro kd rfl
 change QM _ _ _ _ _ (rB b ad n cap i 0 :: (b4, .cells #[.int .i64 0, .int .i64 0, .int .i64 0] 135 (0, 0)) :: []) _ _ _
 have hkr := kindR_rng ws i
 refine QM.then ?_
 refine wpM.seq ?_
 refine wpM.block ?_
 refine wpM.seq (wpM.region ?_)
 refine LM.mv rfl ?_
 refine LM.val (ov_eql rfl rfl) ?_
 refine LM.as rfl ?_
 refine LM.nil (QM.sub (e' := [(0, _), (1, _), (4, _), (5, _), (47, _)]) au9 (QM.then ?_))
 refine wpM.condD rfl (fun h3 => ?_) (fun h3 => ?_)
 ·
  refine wpM.seq (wpM.region ?_)
  refine LM.mv rfl ?_
  refine LM.cW (oc_call (enters_fn Tryz.func128 (by kernel_rfl) rfl) rfl) (fun w hm hc hg => fail_spec b (ad := ad) (n := n) (cap := cap) i 0 _ w (SubM.mem au1 w hm)) rfl (fun hlt => by first | exact rfl | exact absurd hlt (by omega)) ?_
  refine LM.nil (QM.sub (e' := [(4, _)]) ⟨rfl, trivial⟩ (QM.then (wpM.seq (wpM.region ?_))))
  refine LM.val (ov_build (cs := #[_, _, _]) rfl (by first | rfl | kernel_rfl)) ?_
  refine LM.stW Tryz.sizeOf135 rfl rfl rfl rfl au7 (fun hlt => by first | exact rfl | exact absurd hlt (by omega)) ?_
  refine LM.nil (QM.sub (e' := [(4, _)]) ⟨rfl, trivial⟩ (QM.then ?_))
  refine wpM.ret ?_
  refine QM.block_ret ?_
  refine QM.then_ret ?_
  refine QM.leaveCs (ds := ([])) (.inl rfl) [.cell 4 135] Tryz.results127 hd_nil (rc_w rfl Tryz.isAgg135 Tryz.sizeOf135 rfl rc_nil) ?_
  intro w' hm' hc'
  rw [op_a h3]; exact ⟨rfl, hc', hm'.at b⟩
 have hlt2 := kindR_lt h3
 refine wpM.seq (wpM.region ?_)
 refine LM.mv rfl ?_
 refine LM.val (ov_geq rfl rfl) ?_
 refine LM.as rfl ?_
 refine LM.nil (QM.sub (e' := [(0, _), (4, _), (5, _), (53, _)]) au9 (QM.then ?_))
 refine wpM.condD rfl (fun h4 => ?_) (fun h4 => ?_)
 ·
  refine wpM.seq (wpM.region ?_)
  refine LM.mv rfl ?_
  refine LM.cW (oc_call (enters_fn Tryz.func128 (by kernel_rfl) rfl) rfl) (fun w hm hc hg => fail_spec b (ad := ad) (n := n) (cap := cap) i 0 _ w (SubM.mem au1 w hm)) rfl (fun hlt => by first | exact rfl | exact absurd hlt (by omega)) ?_
  refine LM.nil (QM.sub (e' := [(4, _)]) ⟨rfl, trivial⟩ (QM.then (wpM.seq (wpM.region ?_))))
  refine LM.val (ov_build (cs := #[_, _, _]) rfl (by first | rfl | kernel_rfl)) ?_
  refine LM.stW Tryz.sizeOf135 rfl rfl rfl rfl au7 (fun hlt => by first | exact rfl | exact absurd hlt (by omega)) ?_
  refine LM.nil (QM.sub (e' := [(4, _)]) ⟨rfl, trivial⟩ (QM.then ?_))
  refine wpM.ret ?_
  refine QM.block_ret ?_
  refine QM.then_ret ?_
  refine QM.leaveCs (ds := ([])) (.inl rfl) [.cell 4 135] Tryz.results127 hd_nil (rc_w rfl Tryz.isAgg135 Tryz.sizeOf135 rfl rc_nil) ?_
  intro w' hm' hc'
  rw [op_b h3 (by omega)]; exact ⟨rfl, hc', hm'.at b⟩
 refine wpM.skip ?_
 refine QM.block_normal ?_
 refine QM.then (wpM.seq (wpM.region ?_))
 refine LM.mv rfl ?_
 refine LM.val (ov_nilCheck rfl) ?_
 refine LM.val (ov_field Tryz.underlying181 rfl Tryz.sizeOf3 rfl (k := 1) rfl rfl) ?_
 refine LM.rd (om_ld Tryz.isAgg3 rfl rfl) ?_
 refine LM.val (ov_add64 rfl rfl (by omega)) ?_
 refine LM.val (ov_nilCheck rfl) ?_
 refine LM.val (ov_field Tryz.underlying181 rfl Tryz.sizeOf3 rfl (k := 1) rfl rfl) ?_
 refine LM.st Tryz.sizeOf3 rfl rfl rfl au5 rfl (fun hlt => by first | exact rfl | exact absurd hlt (by omega)) ?_
 refine LM.nil (QM.sub (e' := [(0, _), (4, _), (5, _)]) au9 (QM.then (wpM.seq (wpM.region ?_))))
 refine LM.mv rfl ?_
 refine LM.callE (oc_call (enters_fn Tryz.func106 (by kernel_rfl) rfl) rfl) (fun w hm hc hg => spans_spec (kindR ws i) w) ?_
 refine LM.mv rfl ?_
 refine LM.val (ov_extract rfl rfl) ?_
 refine LM.val (ov_extract rfl rfl) ?_
 refine LM.alloc Tryz.zeroValue159 rfl (fun b6 hb6 => ?_)
 refine LM.alloc Tryz.zeroValue159 rfl (fun b7 hb7 => ?_)
 refine LM.stW Tryz.sizeOf159 rfl rfl rfl rfl au7 (fun hlt => by first | exact rfl | exact absurd hlt (by omega)) ?_
 refine LM.stW Tryz.sizeOf159 rfl rfl rfl rfl au7 (fun hlt => by first | exact rfl | exact absurd hlt (by omega)) ?_
 refine LM.nil (QM.sub (e' := [(0, _), (4, _), (5, _), (6, _), (7, _)]) au9 (QM.then (wpM.seq (wpM.region ?_))))
 refine LM.mv rfl (LM.mv rfl ?_)
 refine LM.rd (om_ldW Tryz.isAgg159 Tryz.sizeOf159 rfl rfl) ?_
 refine LM.cW (oc_call (enters_fn Tryz.func149 (by kernel_rfl) rfl) rfl) (fun w hm hc hg => number_spec b (i + 1) 0 (loA (kindR ws i)) (hiA (kindR ws i)) w hn hx (hl.kp hc hab) hab (SubM.mem au1 w hm)) rfl (fun hlt => by first | exact rfl | exact absurd hlt (by omega)) ?_
 refine LM.val (ov_build (cs := #[_, _, _]) rfl (by first | rfl | kernel_rfl)) ?_
 refine LM.alloc Tryz.zeroValue135 rfl (fun b8 hb8 => ?_)
 refine LM.stW Tryz.sizeOf135 rfl rfl rfl rfl au7 (fun hlt => by first | exact rfl | exact absurd hlt (by omega)) ?_
 refine LM.nil (QM.sub (e' := [(0, _), (4, _), (7, _), (8, _)]) au9 (QM.then (wpM.seq (wpM.region ?_))))
 refine LM.mv rfl ?_
 refine LM.rd (om_ldW Tryz.isAgg159 Tryz.sizeOf159 rfl rfl) ?_
 refine LM.cW (oc_call (enters_fn Tryz.func149 (by kernel_rfl) rfl) rfl) (fun w hm hc hg => number_spec b (opA ws i).1 (opA ws i).2.1 (loB (kindR ws i)) (hiB (kindR ws i)) w hn hx (hl.kp hc hab) hab (SubM.mem au1 w hm)) rfl (fun hlt => by first | exact rfl | exact absurd hlt (by omega)) ?_
 refine LM.val (ov_field Tryz.underlying135 rfl Tryz.sizeOf3 rfl (k := 2) rfl rfl) ?_
 refine LM.st Tryz.sizeOf3 rfl rfl rfl au5 rfl (fun hlt => by first | exact rfl | exact absurd hlt (by omega)) ?_
 refine LM.nil (QM.sub (e' := [(0, _), (4, _), (8, _)]) au9 (QM.then (wpM.seq (wpM.region ?_))))
 refine LM.mv rfl ?_
 refine LM.cW (oc_call (enters_fn Tryz.func124 (by kernel_rfl) rfl) rfl) (fun w hm hc hg => need_spec b (opB ws i).1 (opB ws i).2.1 3 [59] w hn hx (hl.kp hc hab) hab (SubM.mem au1 w hm)) rfl (fun hlt => by first | exact rfl | exact absurd hlt (by omega)) ?_
 refine LM.nil (QM.sub (e' := [(4, _), (8, _)]) au9 (QM.then (wpM.seq (wpM.region ?_))))
 refine LM.rd (om_ldW Tryz.isAgg135 Tryz.sizeOf135 rfl rfl) ?_
 refine LM.stW Tryz.sizeOf135 rfl rfl rfl rfl au7 (fun hlt => by first | exact rfl | exact absurd hlt (by omega)) ?_
 refine LM.nil (QM.sub (e' := [(4, _)]) ⟨rfl, trivial⟩ (QM.then ?_))
 refine wpM.ret ?_
 refine QM.leaveCs (ds := ([])) (.inl rfl) [.cell 4 135] Tryz.results127 hd_nil (rc_w rfl Tryz.isAgg135 Tryz.sizeOf135 rfl rc_nil) ?_
 intro w' hm' hc'
 rw [op_need h3 (by omega)]; exact ⟨rfl, hc', hm'.at b⟩
end Go.Eng
namespace Go.Eng
open Go Go.Proofs Go.RowKit
theorem Sr.adlt {α : Type} {f : α → List Value} {s : Nat} {xs : List α} {ad : Option Addr} {n cap : Nat} {w : World} (h : Sr f s xs (.slice ad n cap) w) (h0 : 0 < xs.length) : adB ad < w.heap.size := by
  obtain ⟨rfl, _, h3⟩ := h.open
  obtain ⟨b, off, cs, E, fz, rfl, hb, _⟩ := h3 h0
  exact (Array.getElem?_eq_some_iff.1 hb).1
def ParT (r : Bool × List COp × Int × Int) (n0 : Nat) (v : Value) (m : Mem0) : Prop := ∃ ad n cap, v = .tuple #[.agg #[.bool r.1, .slice ad n cap], .int .i64 r.2.2.1, .int .i64 r.2.2.2] ∧ n = r.2.1.length ∧ Sl fO 135 3 n0 r.2.1 (.slice ad n cap) m
theorem ParT.mono {r : Bool × List COp × Int × Int} : ∀ (k k' : Nat) u m, k' ≤ k → ParT r k u m → ParT r k' u m := fun k k' u m h ⟨ad, n, cap, h1, h2, h3⟩ => ⟨ad, n, cap, h1, h2, h3.mono h⟩
def pA (ws : List Wrd) (i : Nat) : Nat × Int := needE ws i 0 1 wProg
def pFv (ws : List Wrd) (i : Nat) : Bool := isE ws (pA ws i).1 (pA ws i).2 1 wForever
def pB1 (ws : List Wrd) (i : Nat) : Nat := mayE ws (pA ws i).1 (pA ws i).2 1 wForever
def pC (ws : List Wrd) (i : Nat) : Nat × Int := needE ws (pB1 ws i) (pA ws i).2 3 [123]
def StI (ws : List Wrd) (R : List COp × Int × Int) (i : Nat) (e : Int) (ops : List COp) : Prop := (e = 0 → loopR ws i ops = R) ∧ (e ≠ 0 → R = ([], (i : Int), e)) ∧ i ≤ ws.length
theorem isE_0 {ws : List Wrd} {i : Nat} {k : Int} {t : List UInt8} : isE ws i 0 k t = isR ws i k t := by rw [isE_eq]; rfl
theorem isE_bad {ws : List Wrd} {i : Nat} {e k : Int} {t : List UInt8} (h : e ≠ 0) : isE ws i e k t = false := by rw [isE_eq, decide_eq_false h]; rfl
theorem start_inv {ws : List Wrd} {i : Nat} (hi : i ≤ ws.length) : StI ws (bodyR ws i) (pC ws i).1 (pC ws i).2 [] ∧ ((bodyR ws i).2.2 = 0 → pFv ws i = (headR ws i).1) := by
  unfold StI bodyR
  cases h1 : isR ws i 1 wProg with
  | false =>
    have a : pA ws i = (i, 5) := by unfold pA needE; rw [isE_0, h1, if_neg (by simp), if_pos rfl]
    have b : pB1 ws i = i := by unfold pB1 mayE; rw [a, isE_bad (by simp), if_neg (by simp)]
    have c : pC ws i = (i, 5) := by unfold pC needE; rw [a, b, isE_bad (by simp), if_neg (by simp), if_neg (by simp)]
    rw [c]; simp [hi]
  | true =>
    have hlt := isR_lt h1
    have a : pA ws i = (i + 1, 0) := by unfold pA needE; rw [isE_0, h1, if_pos rfl]
    have f : pFv ws i = (headR ws i).1 := by unfold pFv; rw [a, isE_0]; rfl
    have b : pB1 ws i = (headR ws i).2 := by unfold pB1 mayE headR; rw [a, isE_0]
    have hb : (headR ws i).2 ≤ ws.length := by
      unfold headR; simp only; split
      · rename_i q; have := isR_lt q; omega
      · omega
    rw [if_pos rfl]
    cases h2 : isR ws (headR ws i).2 3 [123] with
    | false =>
      have c : pC ws i = ((headR ws i).2, 5) := by unfold pC needE; rw [a, b, isE_0, h2, if_neg (by simp), if_pos rfl]
      rw [c]; simp [hb]
    | true =>
      have hlt2 := isR_lt h2
      have c : pC ws i = ((headR ws i).2 + 1, 0) := by unfold pC needE; rw [a, b, isE_0, h2, if_pos rfl]
      rw [c, if_pos rfl]; exact ⟨⟨fun _ => rfl, fun h => absurd rfl h, hlt2⟩, fun _ => f⟩
def measP (L i : Nat) (e : Int) : Nat := if e = 0 then L - i + 1 else 0
theorem meas_lt {ws : List Wrd} {i k : Nat} (hi : i ≤ ws.length) : measP ws.length (opR ws i k).1 (opR ws i k).2.1 < measP ws.length i 0 := by
  unfold measP
  rw [if_pos rfl]
  split
  · rename_i h; have := opR_lt h; omega
  · omega
theorem opR_pos {ws : List Wrd} {i k : Nat} (hi : i ≤ ws.length) : (opR ws i k).1 ≤ ws.length := by
  by_cases h1 : kindR ws i = 0
  · rw [op_a h1]; exact hi
  · by_cases h2 : 12 ≤ k
    · rw [op_b h1 h2]; exact hi
    · rw [op_need h1 (by omega)]
      have h3 := opB_le h1
      unfold needE; split
      · rename_i q; have := (isE_lt q).1; simp only; omega
      · split <;> simp only <;> omega
theorem StI.next {ws : List Wrd} {R : List COp × Int × Int} {i : Nat} {ops : List COp} (h : StI ws R i 0 ops) (hn : isR ws i 3 [125] = false) : StI ws R (opR ws i ops.length).1 (opR ws i ops.length).2.1 (ops ++ [(opR ws i ops.length).2.2]) := by
  obtain ⟨h1, _, h3⟩ := h
  have h1 := h1 rfl
  refine ⟨fun q => ?_, fun q => ?_, opR_pos h3⟩
  · rw [← loopR_next hn q]; exact h1
  · rw [← h1, loopR_bad hn q]
theorem parse_nat {ws : List Wrd} {i : Nat} (hi : i ≤ ws.length) : parseO ws (i : Int) = (decide ((bodyR ws i).2.2 = 0) && (headR ws i).1, bodyR ws i) := by
  unfold parseO; rw [if_neg (by omega), Int.toNat_natCast]
theorem fin_bad {ws : List Wrd} {i0 : Nat} {i e : Int} {n0 : Nat} (hi : i0 ≤ ws.length) (h : bodyR ws i0 = ([], i, e)) (he : e ≠ 0) : ParT (parseO ws (i0 : Int)) n0 (.tuple #[.agg #[.bool false, .slice none 0 0], .int .i64 i, .int .i64 e]) [] := by
  rw [parse_nat hi, h, decide_eq_false he]; exact ⟨none, 0, 0, rfl, rfl, .nil _ _ _ _⟩
theorem fin_ok {ws : List Wrd} {i0 : Nat} {i : Int} {n0 : Nat} {ops : List COp} {ad : Option Addr} {n cap : Nat} {m : Mem0} (hi : i0 ≤ ws.length) (h : bodyR ws i0 = (ops, i, 0)) (hn : n = ops.length) (hs : Sl fO 135 3 n0 ops (.slice ad n cap) m) : ParT (parseO ws (i0 : Int)) n0 (.tuple #[.agg #[.bool (pFv ws i0), .slice ad n cap], .int .i64 i, .int .i64 0]) m := by
  have hf := (start_inv hi).2 (by rw [h])
  rw [parse_nat hi, h, hf]; exact ⟨ad, n, cap, rfl, hn, hs⟩
set_option maxRecDepth 100000 in
set_option maxHeartbeats 2000000 in
theorem parse_spec {ws : List Wrd} {ad : Option Addr} {n cap : Nat} (p : Int) (w : World) (hn : n = ws.length) (hx : ws.length ≤ 1000000000) (hl : Sr fW 4 ws (.slice ad n cap) w) : Ret Tryz.prog 85 #[.slice ad n cap, .int .i64 p] w (fun v w' => Ext w w' ∧ ∃ m, ParT (parseO ws p) w.heap.size v m ∧ Mem w' m ∧ ∀ p ∈ m, w.heap.size ≤ p.1) := by
 refine Ret.enterM (l := [.slice ad n cap, .int .i64 p]) Tryz.func85 rfl Tryz.ntmps85 rfl ([]) (no) (Mem.nil w) ?_
 refine wpM.seq (wpM.region ?_)
 refine LM.alloc Tryz.zeroValue87 rfl (fun b4 hb4 => ?_)
 refine LM.as rfl (LM.as rfl ?_)
 refine LM.nil (QM.sub (e' := [(0, _), (1, _), (4, _)]) au9 (QM.then ?_))
 refine wpM.seq ?_
 refine wpM.seq (wpM.region ?_)
 refine LM.mv rfl ?_
 refine LM.val (ov_lss rfl rfl) ?_
 refine LM.mv rfl ?_
 refine LM.splitD (t := 11) rfl (fun h1 => ?_) (fun h1 => ?_)
 ·
  refine LM.dr 11 rfl rfl rfl (LM.dr 11 rfl rfl rfl (LM.dr 11 rfl rfl rfl (LM.dr 11 rfl rfl rfl ?_)))
  refine LM.val (ov_pickT rfl rfl) ?_
  refine LM.nil (QM.sub (e' := [(0, _), (1, _), (4, _), (16, _)]) au9 (QM.then ?_))
  refine wpM.condT rfl ?_
  refine wpM.seq (wpM.region ?_)
  refine LM.val (ov_build (cs := #[_, _]) rfl (by first | rfl | kernel_rfl)) ?_
  refine LM.stW Tryz.sizeOf87 rfl rfl rfl rfl au7 au8 ?_
  refine LM.as rfl (LM.as rfl ?_)
  refine LM.nil (QM.sub (e' := [(4, _), (5, _), (6, _)]) au9 (QM.then ?_))
  refine wpM.ret ?_
  refine QM.then_ret ?_
  refine QM.leaveCs (ds := ([])) (.inl rfl) [.cell 4 87, .tmp 5, .tmp 6] Tryz.results85 hd_nil (rc_w rfl Tryz.isAgg87 Tryz.sizeOf87 rfl (rc_tmp rfl (rc_tmp rfl rc_nil))) ?_
  intro w' hm' hc'
  have hpar : parseO ws p = (false, [], 0, 5) := (by unfold parseO; rw [if_pos (by omega)]); rw [hpar]; exact ⟨hc', [], ⟨none, 0, 0, rfl, rfl, .nil _ _ _ _⟩, Mem.nil _, fun p hp => by cases hp⟩
 refine LM.sp 11 rfl rfl rfl (LM.mv rfl (LM.sp 11 rfl rfl rfl (LM.mv rfl (LM.sp 11 rfl rfl rfl ?_))))
 refine LM.val (ov_len Tryz.underlying23 rfl) ?_
 refine LM.sp 11 rfl rfl rfl ?_
 refine LM.val (ov_gtr rfl rfl) ?_
 refine LM.val (ov_pickF rfl rfl) ?_
 refine LM.nil (QM.sub (e' := [(0, _), (1, _), (4, _), (16, _)]) au9 (QM.then ?_))
 refine wpM.condD rfl (fun h2 => ?_) (fun h2 => ?_)
 ·
  refine wpM.seq (wpM.region ?_)
  refine LM.val (ov_build (cs := #[_, _]) rfl (by first | rfl | kernel_rfl)) ?_
  refine LM.stW Tryz.sizeOf87 rfl rfl rfl rfl au7 au8 ?_
  refine LM.as rfl (LM.as rfl ?_)
  refine LM.nil (QM.sub (e' := [(4, _), (5, _), (6, _)]) au9 (QM.then ?_))
  refine wpM.ret ?_
  refine QM.then_ret ?_
  refine QM.leaveCs (ds := ([])) (.inl rfl) [.cell 4 87, .tmp 5, .tmp 6] Tryz.results85 hd_nil (rc_w rfl Tryz.isAgg87 Tryz.sizeOf87 rfl (rc_tmp rfl (rc_tmp rfl rc_nil))) ?_
  intro w' hm' hc'
  have hpar : parseO ws p = (false, [], 0, 5) := (by unfold parseO; rw [if_pos (by omega)]); rw [hpar]; exact ⟨hc', [], ⟨none, 0, 0, rfl, rfl, .nil _ _ _ _⟩, Mem.nil _, fun p hp => by cases hp⟩
 obtain ⟨i0, rfl⟩ : ∃ i0 : Nat, p = (i0 : Nat) := ⟨p.toNat, by omega⟩; have hi0 : i0 ≤ ws.length := (by omega)
 refine wpM.skip ?_
 refine QM.then (wpM.seq (wpM.region ?_))
 refine LM.mv rfl (LM.mv rfl ?_)
 refine LM.val (ov_build (cs := #[_, _, _]) rfl (by first | rfl | kernel_rfl)) ?_
 refine LM.box rfl rfl (fun b21 hb21 => ?_)
 refine LM.as rfl ?_
 refine LM.nil (QM.sub (e' := [(4, _), (7, _)]) au9 (QM.then (wpM.seq (wpM.region ?_))))
 have hab21 : 0 < ws.length → adB ad ≠ b21 := (fun h0 => by have := hl.adlt h0; omega)
 refine LM.mv rfl ?_
 refine LM.cW (oc_call (enters_fn Tryz.func124 (by kernel_rfl) rfl) rfl) (fun w hm hc hg => need_spec b21 i0 0 1 wProg w hn hx (hl.ext hc) hab21 (SubM.mem au1 w hm)) rfl au8 ?_
 refine LM.nil (QM.sub (e' := [(4, _), (7, _)]) au9 (QM.then (wpM.seq (wpM.region ?_))))
 refine LM.mv rfl ?_
 refine LM.cW (oc_call (enters_fn Tryz.func125 (by kernel_rfl) rfl) rfl) (fun w hm hc hg => maybe_spec b21 (pA ws i0).1 (pA ws i0).2 1 wForever w hn hx (hl.ext hc) hab21 (SubM.mem au1 w hm)) rfl au8 ?_
 refine LM.val (ov_build (cs := #[_, _]) rfl (by first | rfl | kernel_rfl)) ?_
 refine LM.alloc Tryz.zeroValue87 rfl (fun b8 hb8 => ?_)
 refine LM.stW Tryz.sizeOf87 rfl rfl rfl rfl au7 au8 ?_
 refine LM.nil (QM.sub (e' := [(4, _), (7, _), (8, _)]) au9 (QM.then (wpM.seq (wpM.region ?_))))
 refine LM.mv rfl ?_
 refine LM.cW (oc_call (enters_fn Tryz.func124 (by kernel_rfl) rfl) rfl) (fun w hm hc hg => need_spec b21 (pB1 ws i0) (pA ws i0).2 3 [123] w hn hx (hl.ext hc) hab21 (SubM.mem au1 w hm)) rfl au8 ?_
 refine LM.nil (QM.sub (e' := [(4, _), (7, _), (8, _)]) au9 (QM.then ?_))
 refine wpM.seq ?_
 refine wpM.block ?_
 refine wpM.loopK0 (α := Nat × Int × List COp × Option Addr × Nat × Nat × Mem0) (fun ⟨i, e, ops, ado, no, capo, mo⟩ => []) [(4, _), (7, _), (8, _)] (fun ⟨i, e, ops, ado, no, capo, mo⟩ => mo ++ ((b8, .cells #[.bool (pFv ws i0), .slice ado no capo] 87 (0, 0)) :: rB b21 ad n cap i e :: (b4, .cells #[.bool false, .slice none 0 0] 87 (0, 0)) :: [])) (fun ⟨i, e, ops, ado, no, capo, mo⟩ => StI ws (bodyR ws i0) i e ops ∧ no = ops.length ∧ Sl fO 135 3 w.heap.size ops (.slice ado no capo) mo ∧ (e = 0 → ops.length ≤ i)) (fun ⟨i, e, ops, ado, no, capo, mo⟩ => measP ws.length i e) (((pC ws i0).1, (pC ws i0).2, [], none, 0, 0, [])) ⟨rfl, rfl, rfl, trivial⟩ au1 ⟨(start_inv (by omega)).1, rfl, .nil _ _ _ _, fun _ => Nat.zero_le _⟩ ?_
 rintro ⟨i, e, ops, ado, no, capo, mo⟩ ⟨hI, hno, hso, hol⟩
 change wpM _ _ _ _ _ _ _ (mo ++ ((b8, .cells #[.bool (pFv ws i0), .slice ado no capo] 87 (0, 0)) :: rB b21 ad n cap i e :: (b4, .cells #[.bool false, .slice none 0 0] 87 (0, 0)) :: [])) _ _ _
 have hile := hI.2.2
 refine wpM.seq ?_
 refine wpM.seq (wpM.region ?_)
 refine LM.mv rfl ?_
 refine LM.val (ov_nilCheck rfl) ?_
 refine LM.val (ov_field Tryz.underlying181 rfl Tryz.sizeOf31 rfl (k := 2) rfl rfl) ?_
 refine LM.rd (om_ld Tryz.isAgg31 rfl rfl) ?_
 refine LM.val (ov_eql rfl rfl) ?_
 refine LM.mv rfl ?_
 refine LM.splitD (t := 34) rfl (fun h3 => ?_) (fun h3 => ?_)
 ·
  refine LM.sp 34 rfl rfl rfl (LM.mv rfl (LM.sp 34 rfl rfl rfl ?_))
  refine LM.callE (oc_call (enters_fn Tryz.func126 (by kernel_rfl) rfl) rfl) (fun w hm hc hg => is_spec b21 i e 3 [125] w hn (hl.ext hc) (SubM.mem au1 w hm)) ?_
  refine LM.sp 34 rfl rfl rfl ?_
  first | refine LM.val (ov_notD rfl) ?_ | refine LM.val (ov_not rfl) ?_
  refine LM.val (ov_pickT rfl rfl) ?_
  refine LM.nil (QM.sub (e' := [(4, _), (7, _), (8, _), (38, _)]) au9 (QM.then ?_))
  first | refine wpM.condD rfl (fun h4 => ?_) (fun h4 => ?_) | refine wpM.condB rfl (fun h4 => ?_) (fun h4 => ?_)
  ·
   refine wpM.skip ?_
   refine QM.then ?_
   refine wpM.block ?_
   refine wpM.keep ((b8, .cells #[.bool (pFv ws i0), .slice ado no capo] 87 (0, 0)) :: []) (fun _ => True) (.one 0 0 (.one 1 1 (.one 2 0 (.one 3 0 (.one 4 1 (.one 5 0 (.one 6 2 (.one 7 2 (.one 8 2 (.one 9 0 (.last 10))))))))))) (by kernel_rfl) (by kernel_rfl) au1 (fun _ _ => trivial) ?_
   refine KD.val rfl rfl (ov_field Tryz.underlying87 rfl Tryz.sizeOf85 rfl (k := 1) rfl rfl) ?_
   refine KD.rd rfl rfl (om_ld Tryz.isAgg85 rfl rfl) ?_
   refine KD.val rfl rfl (ov_move rfl) ?_
   refine KD.val rfl rfl (ov_field Tryz.underlying87 rfl Tryz.sizeOf85 rfl (k := 1) rfl rfl) ?_
   refine KD.rd rfl rfl (om_ld Tryz.isAgg85 rfl rfl) ?_
   refine KD.val rfl rfl (ov_len Tryz.underlying85 rfl) ?_
   refine KD.one rfl ?_
   rw [h3]
   refine LM.cW (oc_call (enters_fn Tryz.func127 (by kernel_rfl) rfl) rfl) (fun w hm hc hg => op_spec b21 i no w hn hx (hl.ext hc) hab21 (SubM.mem au1 w hm)) rfl au8 ?_
   refine LM.nil ?_
   refine QM.one au1 (fun _ _ => trivial) ?_
   refine KD.one rfl ?_
   refine LM.single Tryz.underlying85 Tryz.sizeOf135 Tryz.zeroValue135 rfl rfl rfl rfl rfl (fun b46 hb46 => ?_)
   refine LM.nil ?_
   refine QM.one au1 (fun _ _ => trivial) ?_
   refine KD.one rfl ?_
   refine LM.app (a := (opR ws i no).2.2) Tryz.underlying85 Tryz.typeInfo135 rfl rfl rfl rfl rfl rfl rfl (by assumption) (by rfl) (by intro _; rfl) (by intro _ u hu; simp [fO] at hu; (repeat (first | (rcases hu with rfl | hu) | subst hu | rfl))) (by first | exact Nat.le_refl _ | omega) au10 (by first | omega | (unfold maxLen; omega)) (by simp only [Tryz.t135]; omega) (fun ad47 n47 cap47 m47 hn47 hs47 hin47 => ?_)
   refine LM.nil ?_
   refine QM.one au1 (fun _ _ => trivial) ?_
   refine KD.val rfl rfl (ov_field Tryz.underlying87 rfl Tryz.sizeOf85 rfl (k := 1) rfl rfl) ?_
   refine KD.last rfl ?_
   refine LM.st Tryz.sizeOf85 rfl rfl rfl au5 rfl au8 ?_
   refine LM.nil ?_
   refine QM.qn ?_
   refine QM.sub (e' := [(4, _), (7, _), (8, _)]) au9 ?_
   refine QM.block_normal ?_
   have hn0 : isR ws i 3 [125] = false := (by rw [h3, isE_0] at h4; simpa using h4)
   refine QM.againK (((opR ws i no).1, (opR ws i no).2.1, ops ++ [(opR ws i no).2.2], ad47, n47, cap47, m47)) ⟨rfl, rfl, rfl, trivial⟩ au1 (fun _ h => h) ?_ ?_
   · refine ⟨?_, by rw [hn47]; simp, hs47, fun q => ?_⟩; (rw [hno]; exact StI.next (h3 ▸ hI) hn0); (have h8 := opR_lt q; have h9 := hol h3; simp; omega)
   · show measP _ _ _ < measP _ _ _; first | exact meas_lt hile | (rw [h3]; exact meas_lt hile)
  refine wpM.exit ?_
  refine QM.then_exit ?_
  refine QM.then_exit ?_
  refine QM.block_hit ?_
  refine QM.then ?_
  refine wpM.seq ?_
  refine wpM.seq (wpM.region ?_)
  refine LM.val (ov_field Tryz.underlying87 rfl Tryz.sizeOf85 rfl (k := 1) rfl rfl) ?_
  refine LM.rd (om_ld Tryz.isAgg85 rfl rfl) ?_
  refine LM.val (ov_len Tryz.underlying85 rfl) ?_
  refine LM.val (ov_eql rfl rfl) ?_
  refine LM.nil (QM.sub (e' := [(4, _), (7, _), (8, _), (52, _)]) au9 (QM.then ?_))
  refine wpM.condD rfl (fun h5 => ?_) (fun h5 => ?_)
  ·
   refine wpM.region ?_
   refine LM.mv rfl ?_
   refine LM.cW (oc_call (enters_fn Tryz.func128 (by kernel_rfl) rfl) rfl) (fun w hm hc hg => fail_spec b21 (ad := ad) (n := n) (cap := cap) i e 4 w (SubM.mem au1 w hm)) rfl au8 ?_
   refine LM.nil (QM.sub (e' := [(4, _), (7, _), (8, _)]) au9 (QM.then ?_))
   refine wpM.seq ?_
   refine wpM.seq (wpM.region ?_)
   refine LM.mv rfl ?_
   refine LM.val (ov_nilCheck rfl) ?_
   refine LM.val (ov_field Tryz.underlying181 rfl Tryz.sizeOf31 rfl (k := 2) rfl rfl) ?_
   refine LM.rd (om_ld Tryz.isAgg31 rfl rfl) ?_
   refine LM.val (ov_neq rfl rfl) ?_
   refine LM.nil (QM.sub (e' := [(4, _), (7, _), (8, _), (59, _)]) au9 (QM.then ?_))
   refine wpM.condD rfl (fun h6 => ?_) (fun h6 => ?_)
   ·
    refine wpM.seq ?_
    refine wpM.keep ((b21, _) :: []) (fun _ => True) (.one 0 0 (.one 1 0 (.one 2 0 (.one 3 0 (.one 4 1 (.one 5 0 (.one 6 0 (.one 7 0 (.one 8 1 (.one 9 2 (.one 10 0 (.one 11 0 .nil)))))))))))) (by kernel_rfl) (by kernel_rfl) au1 (fun _ _ => trivial) ?_
    refine KD.val rfl rfl (ov_build (cs := #[_, _]) rfl (by first | rfl | kernel_rfl)) ?_
    refine KD.val rfl rfl (ov_move rfl) ?_
    refine KD.val rfl rfl (ov_nilCheck rfl) ?_
    refine KD.val rfl rfl (ov_field Tryz.underlying181 rfl Tryz.sizeOf3 rfl (k := 1) rfl rfl) ?_
    refine KD.rd rfl rfl (om_ld Tryz.isAgg3 rfl rfl) ?_
    refine KD.val rfl rfl (ov_move rfl) ?_
    refine KD.val rfl rfl (ov_nilCheck rfl) ?_
    refine KD.val rfl rfl (ov_field Tryz.underlying181 rfl Tryz.sizeOf31 rfl (k := 2) rfl rfl) ?_
    refine KD.rd rfl rfl (om_ld Tryz.isAgg31 rfl rfl) ?_
    refine KD.one rfl ?_
    refine LM.stW Tryz.sizeOf87 rfl rfl rfl rfl au7 au8 ?_
    refine LM.nil ?_
    refine QM.one au1 (fun _ _ => trivial) ?_
    refine KD.val rfl rfl (ov_assign rfl) ?_
    refine KD.val rfl rfl (ov_assign rfl) ?_
    refine KD.nil ?_
    refine QM.sub (e' := [(4, _), (5, _), (6, _)]) au9 (QM.then ?_)
    refine wpM.ret ?_
    refine QM.then_ret ?_
    refine QM.leaveCs (ds := ([])) (.inl rfl) [.cell 4 87, .tmp 5, .tmp 6] Tryz.results85 hd_nil (rc_w rfl Tryz.isAgg87 Tryz.sizeOf87 rfl (rc_tmp rfl (rc_tmp rfl rc_nil))) ?_
    intro w' hm' hc'
    have hn0 : isR ws i 3 [125] = true := (by rw [h3, isE_0] at h4; simpa using h4); have hb := hI.1 h3; rw [loopR_done hn0, if_pos (by omega)] at hb; refine ⟨hc', [], ?_, Mem.nil _, fun p hp => by cases hp⟩; show ParT _ _ (.tuple #[.agg #[.bool false, .slice none 0 0], .int .i64 (i : Nat), .int .i64 (if e = 0 then 4 else e)]) []; rw [if_pos h3]; exact fin_bad hi0 hb.symm (by decide)
   refine wpM.skip ?_
   refine QM.then ?_
   refine wpM.seq ?_
   refine wpM.keep ((b21, _) :: (b8, _) :: []) (fun _ => True) (.one 0 1 (.one 1 0 (.one 2 0 (.one 3 0 (.one 4 1 (.one 5 0 (.one 6 2 (.one 7 0 (.one 8 0 .nil))))))))) (by kernel_rfl) (by kernel_rfl) au1 (fun _ _ => trivial) ?_
   refine KD.rd rfl rfl (om_ldW Tryz.isAgg87 Tryz.sizeOf87 rfl rfl) ?_
   refine KD.val rfl rfl (ov_move rfl) ?_
   refine KD.val rfl rfl (ov_nilCheck rfl) ?_
   refine KD.val rfl rfl (ov_field Tryz.underlying181 rfl Tryz.sizeOf3 rfl (k := 1) rfl rfl) ?_
   refine KD.rd rfl rfl (om_ld Tryz.isAgg3 rfl rfl) ?_
   refine KD.val rfl rfl (ov_add64 rfl rfl (by omega)) ?_
   refine KD.one rfl ?_
   refine LM.stW Tryz.sizeOf87 rfl rfl rfl rfl au7 au8 ?_
   refine LM.nil ?_
   refine QM.one au1 (fun _ _ => trivial) ?_
   refine KD.val rfl rfl (ov_assign rfl) ?_
   refine KD.val rfl rfl (ov_assign rfl) ?_
   refine KD.nil ?_
   refine QM.sub (e' := [(4, _), (5, _), (6, _)]) au9 (QM.then ?_)
   refine wpM.ret ?_
   refine QM.leaveCs (ds := ([])) (.inl rfl) [.cell 4 87, .tmp 5, .tmp 6] Tryz.results85 hd_nil (rc_w rfl Tryz.isAgg87 Tryz.sizeOf87 rfl (rc_tmp rfl (rc_tmp rfl rc_nil))) ?_
   intro w' hm' hc'
   exact absurd h6 (by rw [if_pos h3]; decide)
  refine wpM.skip ?_
  refine QM.then ?_
  refine wpM.seq ?_
  refine wpM.seq (wpM.region ?_)
  refine LM.mv rfl ?_
  refine LM.val (ov_nilCheck rfl) ?_
  refine LM.val (ov_field Tryz.underlying181 rfl Tryz.sizeOf31 rfl (k := 2) rfl rfl) ?_
  refine LM.rd (om_ld Tryz.isAgg31 rfl rfl) ?_
  refine LM.val (ov_neq rfl rfl) ?_
  refine LM.nil (QM.sub (e' := [(4, _), (7, _), (8, _), (59, _)]) au9 (QM.then ?_))
  refine wpM.condD rfl (fun h7 => ?_) (fun h7 => ?_)
  ·
   refine wpM.seq ?_
   refine wpM.keep ((b21, _) :: []) (fun _ => True) (.one 0 0 (.one 1 0 (.one 2 0 (.one 3 0 (.one 4 1 (.one 5 0 (.one 6 0 (.one 7 0 (.one 8 1 (.one 9 2 (.one 10 0 (.one 11 0 .nil)))))))))))) (by kernel_rfl) (by kernel_rfl) au1 (fun _ _ => trivial) ?_
   refine KD.val rfl rfl (ov_build (cs := #[_, _]) rfl (by first | rfl | kernel_rfl)) ?_
   refine KD.val rfl rfl (ov_move rfl) ?_
   refine KD.val rfl rfl (ov_nilCheck rfl) ?_
   refine KD.val rfl rfl (ov_field Tryz.underlying181 rfl Tryz.sizeOf3 rfl (k := 1) rfl rfl) ?_
   refine KD.rd rfl rfl (om_ld Tryz.isAgg3 rfl rfl) ?_
   refine KD.val rfl rfl (ov_move rfl) ?_
   refine KD.val rfl rfl (ov_nilCheck rfl) ?_
   refine KD.val rfl rfl (ov_field Tryz.underlying181 rfl Tryz.sizeOf31 rfl (k := 2) rfl rfl) ?_
   refine KD.rd rfl rfl (om_ld Tryz.isAgg31 rfl rfl) ?_
   refine KD.one rfl ?_
   refine LM.stW Tryz.sizeOf87 rfl rfl rfl rfl au7 au8 ?_
   refine LM.nil ?_
   refine QM.one au1 (fun _ _ => trivial) ?_
   refine KD.val rfl rfl (ov_assign rfl) ?_
   refine KD.val rfl rfl (ov_assign rfl) ?_
   refine KD.nil ?_
   refine QM.sub (e' := [(4, _), (5, _), (6, _)]) au9 (QM.then ?_)
   refine wpM.ret ?_
   refine QM.then_ret ?_
   refine QM.leaveCs (ds := ([])) (.inl rfl) [.cell 4 87, .tmp 5, .tmp 6] Tryz.results85 hd_nil (rc_w rfl Tryz.isAgg87 Tryz.sizeOf87 rfl (rc_tmp rfl (rc_tmp rfl rc_nil))) ?_
   intro w' hm' hc'
   exact absurd h3 h7
  refine wpM.skip ?_
  refine QM.then ?_
  refine wpM.seq ?_
  refine wpM.keep ((b21, _) :: (b8, _) :: []) (fun _ => True) (.one 0 1 (.one 1 0 (.one 2 0 (.one 3 0 (.one 4 1 (.one 5 0 (.one 6 2 (.one 7 0 (.one 8 0 .nil))))))))) (by kernel_rfl) (by kernel_rfl) au1 (fun _ _ => trivial) ?_
  refine KD.rd rfl rfl (om_ldW Tryz.isAgg87 Tryz.sizeOf87 rfl rfl) ?_
  refine KD.val rfl rfl (ov_move rfl) ?_
  refine KD.val rfl rfl (ov_nilCheck rfl) ?_
  refine KD.val rfl rfl (ov_field Tryz.underlying181 rfl Tryz.sizeOf3 rfl (k := 1) rfl rfl) ?_
  refine KD.rd rfl rfl (om_ld Tryz.isAgg3 rfl rfl) ?_
  refine KD.val rfl rfl (ov_add64 rfl rfl (by omega)) ?_
  refine KD.one rfl ?_
  refine LM.stW Tryz.sizeOf87 rfl rfl rfl rfl au7 au8 ?_
  refine LM.nil ?_
  refine QM.one au1 (fun _ _ => trivial) ?_
  refine KD.val rfl rfl (ov_assign rfl) ?_
  refine KD.val rfl rfl (ov_assign rfl) ?_
  refine KD.nil ?_
  refine QM.sub (e' := [(4, _), (5, _), (6, _)]) au9 (QM.then ?_)
  refine wpM.ret ?_
  refine QM.leaveCs (ds := ([])) (.inl rfl) [.cell 4 87, .tmp 5, .tmp 6] Tryz.results85 hd_nil (rc_w rfl Tryz.isAgg87 Tryz.sizeOf87 rfl (rc_tmp rfl (rc_tmp rfl rc_nil))) ?_
  intro w' hm' hc'
  have hn0 : isR ws i 3 [125] = true := (by rw [h3, isE_0] at h4; simpa using h4); have hb := hI.1 h3; rw [loopR_done hn0, if_neg (by omega)] at hb; exact ⟨hc', mo, fin_ok hi0 hb.symm hno hso, hm'.pick mo, fun p hp => Sl.ge hso p hp⟩
 refine LM.dr 34 rfl rfl rfl (LM.dr 34 rfl rfl rfl (LM.dr 34 rfl rfl rfl ?_))
 refine LM.val (ov_pickF rfl rfl) ?_
 refine LM.nil (QM.sub (e' := [(4, _), (7, _), (8, _), (38, _)]) au9 (QM.then ?_))
 refine wpM.condF rfl ?_
 refine wpM.exit ?_
 refine QM.then_exit ?_
 refine QM.then_exit ?_
 refine QM.block_hit ?_
 refine QM.then ?_
 refine wpM.seq ?_
 refine wpM.seq (wpM.region ?_)
 refine LM.val (ov_field Tryz.underlying87 rfl Tryz.sizeOf85 rfl (k := 1) rfl rfl) ?_
 refine LM.rd (om_ld Tryz.isAgg85 rfl rfl) ?_
 refine LM.val (ov_len Tryz.underlying85 rfl) ?_
 refine LM.val (ov_eql rfl rfl) ?_
 refine LM.nil (QM.sub (e' := [(4, _), (7, _), (8, _), (52, _)]) au9 (QM.then ?_))
 refine wpM.condD rfl (fun h8 => ?_) (fun h8 => ?_)
 ·
  refine wpM.region ?_
  refine LM.mv rfl ?_
  refine LM.cW (oc_call (enters_fn Tryz.func128 (by kernel_rfl) rfl) rfl) (fun w hm hc hg => fail_spec b21 (ad := ad) (n := n) (cap := cap) i e 4 w (SubM.mem au1 w hm)) rfl au8 ?_
  refine LM.nil (QM.sub (e' := [(4, _), (7, _), (8, _)]) au9 (QM.then ?_))
  refine wpM.seq ?_
  refine wpM.seq (wpM.region ?_)
  refine LM.mv rfl ?_
  refine LM.val (ov_nilCheck rfl) ?_
  refine LM.val (ov_field Tryz.underlying181 rfl Tryz.sizeOf31 rfl (k := 2) rfl rfl) ?_
  refine LM.rd (om_ld Tryz.isAgg31 rfl rfl) ?_
  refine LM.val (ov_neq rfl rfl) ?_
  refine LM.nil (QM.sub (e' := [(4, _), (7, _), (8, _), (59, _)]) au9 (QM.then ?_))
  refine wpM.condD rfl (fun h9 => ?_) (fun h9 => ?_)
  ·
   refine wpM.seq ?_
   refine wpM.keep ((b21, _) :: []) (fun _ => True) (.one 0 0 (.one 1 0 (.one 2 0 (.one 3 0 (.one 4 1 (.one 5 0 (.one 6 0 (.one 7 0 (.one 8 1 (.one 9 2 (.one 10 0 (.one 11 0 .nil)))))))))))) (by kernel_rfl) (by kernel_rfl) au1 (fun _ _ => trivial) ?_
   refine KD.val rfl rfl (ov_build (cs := #[_, _]) rfl (by first | rfl | kernel_rfl)) ?_
   refine KD.val rfl rfl (ov_move rfl) ?_
   refine KD.val rfl rfl (ov_nilCheck rfl) ?_
   refine KD.val rfl rfl (ov_field Tryz.underlying181 rfl Tryz.sizeOf3 rfl (k := 1) rfl rfl) ?_
   refine KD.rd rfl rfl (om_ld Tryz.isAgg3 rfl rfl) ?_
   refine KD.val rfl rfl (ov_move rfl) ?_
   refine KD.val rfl rfl (ov_nilCheck rfl) ?_
   refine KD.val rfl rfl (ov_field Tryz.underlying181 rfl Tryz.sizeOf31 rfl (k := 2) rfl rfl) ?_
   refine KD.rd rfl rfl (om_ld Tryz.isAgg31 rfl rfl) ?_
   refine KD.one rfl ?_
   refine LM.stW Tryz.sizeOf87 rfl rfl rfl rfl au7 au8 ?_
   refine LM.nil ?_
   refine QM.one au1 (fun _ _ => trivial) ?_
   refine KD.val rfl rfl (ov_assign rfl) ?_
   refine KD.val rfl rfl (ov_assign rfl) ?_
   refine KD.nil ?_
   refine QM.sub (e' := [(4, _), (5, _), (6, _)]) au9 (QM.then ?_)
   refine wpM.ret ?_
   refine QM.then_ret ?_
   refine QM.leaveCs (ds := ([])) (.inl rfl) [.cell 4 87, .tmp 5, .tmp 6] Tryz.results85 hd_nil (rc_w rfl Tryz.isAgg87 Tryz.sizeOf87 rfl (rc_tmp rfl (rc_tmp rfl rc_nil))) ?_
   intro w' hm' hc'
   refine ⟨hc', [], ?_, Mem.nil _, fun p hp => by cases hp⟩; show ParT _ _ (.tuple #[.agg #[.bool false, .slice none 0 0], .int .i64 (i : Nat), .int .i64 (if e = 0 then 4 else e)]) []; rw [if_neg h3]; exact fin_bad hi0 (hI.2.1 h3) h3
  refine wpM.skip ?_
  refine QM.then ?_
  refine wpM.seq ?_
  refine wpM.keep ((b21, _) :: (b8, _) :: []) (fun _ => True) (.one 0 1 (.one 1 0 (.one 2 0 (.one 3 0 (.one 4 1 (.one 5 0 (.one 6 2 (.one 7 0 (.one 8 0 .nil))))))))) (by kernel_rfl) (by kernel_rfl) au1 (fun _ _ => trivial) ?_
  refine KD.rd rfl rfl (om_ldW Tryz.isAgg87 Tryz.sizeOf87 rfl rfl) ?_
  refine KD.val rfl rfl (ov_move rfl) ?_
  refine KD.val rfl rfl (ov_nilCheck rfl) ?_
  refine KD.val rfl rfl (ov_field Tryz.underlying181 rfl Tryz.sizeOf3 rfl (k := 1) rfl rfl) ?_
  refine KD.rd rfl rfl (om_ld Tryz.isAgg3 rfl rfl) ?_
  refine KD.val rfl rfl (ov_add64 rfl rfl (by omega)) ?_
  refine KD.one rfl ?_
  refine LM.stW Tryz.sizeOf87 rfl rfl rfl rfl au7 au8 ?_
  refine LM.nil ?_
  refine QM.one au1 (fun _ _ => trivial) ?_
  refine KD.val rfl rfl (ov_assign rfl) ?_
  refine KD.val rfl rfl (ov_assign rfl) ?_
  refine KD.nil ?_
  refine QM.sub (e' := [(4, _), (5, _), (6, _)]) au9 (QM.then ?_)
  refine wpM.ret ?_
  refine QM.leaveCs (ds := ([])) (.inl rfl) [.cell 4 87, .tmp 5, .tmp 6] Tryz.results85 hd_nil (rc_w rfl Tryz.isAgg87 Tryz.sizeOf87 rfl (rc_tmp rfl (rc_tmp rfl rc_nil))) ?_
  intro w' hm' hc'
  exact absurd h9 (by rw [if_neg h3]; exact fun q => q h3)
 refine wpM.skip ?_
 refine QM.then ?_
 refine wpM.seq ?_
 refine wpM.seq (wpM.region ?_)
 refine LM.mv rfl ?_
 refine LM.val (ov_nilCheck rfl) ?_
 refine LM.val (ov_field Tryz.underlying181 rfl Tryz.sizeOf31 rfl (k := 2) rfl rfl) ?_
 refine LM.rd (om_ld Tryz.isAgg31 rfl rfl) ?_
 refine LM.val (ov_neq rfl rfl) ?_
 refine LM.nil (QM.sub (e' := [(4, _), (7, _), (8, _), (59, _)]) au9 (QM.then ?_))
 refine wpM.condD rfl (fun h10 => ?_) (fun h10 => ?_)
 ·
  refine wpM.seq ?_
  refine wpM.keep ((b21, _) :: []) (fun _ => True) (.one 0 0 (.one 1 0 (.one 2 0 (.one 3 0 (.one 4 1 (.one 5 0 (.one 6 0 (.one 7 0 (.one 8 1 (.one 9 2 (.one 10 0 (.one 11 0 .nil)))))))))))) (by kernel_rfl) (by kernel_rfl) au1 (fun _ _ => trivial) ?_
  refine KD.val rfl rfl (ov_build (cs := #[_, _]) rfl (by first | rfl | kernel_rfl)) ?_
  refine KD.val rfl rfl (ov_move rfl) ?_
  refine KD.val rfl rfl (ov_nilCheck rfl) ?_
  refine KD.val rfl rfl (ov_field Tryz.underlying181 rfl Tryz.sizeOf3 rfl (k := 1) rfl rfl) ?_
  refine KD.rd rfl rfl (om_ld Tryz.isAgg3 rfl rfl) ?_
  refine KD.val rfl rfl (ov_move rfl) ?_
  refine KD.val rfl rfl (ov_nilCheck rfl) ?_
  refine KD.val rfl rfl (ov_field Tryz.underlying181 rfl Tryz.sizeOf31 rfl (k := 2) rfl rfl) ?_
  refine KD.rd rfl rfl (om_ld Tryz.isAgg31 rfl rfl) ?_
  refine KD.one rfl ?_
  refine LM.stW Tryz.sizeOf87 rfl rfl rfl rfl au7 au8 ?_
  refine LM.nil ?_
  refine QM.one au1 (fun _ _ => trivial) ?_
  refine KD.val rfl rfl (ov_assign rfl) ?_
  refine KD.val rfl rfl (ov_assign rfl) ?_
  refine KD.nil ?_
  refine QM.sub (e' := [(4, _), (5, _), (6, _)]) au9 (QM.then ?_)
  refine wpM.ret ?_
  refine QM.then_ret ?_
  refine QM.leaveCs (ds := ([])) (.inl rfl) [.cell 4 87, .tmp 5, .tmp 6] Tryz.results85 hd_nil (rc_w rfl Tryz.isAgg87 Tryz.sizeOf87 rfl (rc_tmp rfl (rc_tmp rfl rc_nil))) ?_
  intro w' hm' hc'
  exact ⟨hc', [], fin_bad hi0 (hI.2.1 h3) h3, Mem.nil _, fun p hp => by cases hp⟩
 refine wpM.skip ?_
 refine QM.then ?_
 refine wpM.seq ?_
 refine wpM.keep ((b21, _) :: (b8, _) :: []) (fun _ => True) (.one 0 1 (.one 1 0 (.one 2 0 (.one 3 0 (.one 4 1 (.one 5 0 (.one 6 2 (.one 7 0 (.one 8 0 .nil))))))))) (by kernel_rfl) (by kernel_rfl) au1 (fun _ _ => trivial) ?_
 refine KD.rd rfl rfl (om_ldW Tryz.isAgg87 Tryz.sizeOf87 rfl rfl) ?_
 refine KD.val rfl rfl (ov_move rfl) ?_
 refine KD.val rfl rfl (ov_nilCheck rfl) ?_
 refine KD.val rfl rfl (ov_field Tryz.underlying181 rfl Tryz.sizeOf3 rfl (k := 1) rfl rfl) ?_
 refine KD.rd rfl rfl (om_ld Tryz.isAgg3 rfl rfl) ?_
 refine KD.val rfl rfl (ov_add64 rfl rfl (by omega)) ?_
 refine KD.one rfl ?_
 refine LM.stW Tryz.sizeOf87 rfl rfl rfl rfl au7 au8 ?_
 refine LM.nil ?_
 refine QM.one au1 (fun _ _ => trivial) ?_
 refine KD.val rfl rfl (ov_assign rfl) ?_
 refine KD.val rfl rfl (ov_assign rfl) ?_
 refine KD.nil ?_
 refine QM.sub (e' := [(4, _), (5, _), (6, _)]) au9 (QM.then ?_)
 refine wpM.ret ?_
 refine QM.leaveCs (ds := ([])) (.inl rfl) [.cell 4 87, .tmp 5, .tmp 6] Tryz.results85 hd_nil (rc_w rfl Tryz.isAgg87 Tryz.sizeOf87 rfl (rc_tmp rfl (rc_tmp rfl rc_nil))) ?_
 intro w' hm' hc'
 exact absurd h3 h10
end Go.Eng
namespace Go.Eng
open Go Go.Proofs Go.RowKit
theorem body_c {ws : List Wrd} {i : Nat} (h : isR ws i 1 wProg = true) (h2 : isR ws (headR ws i).2 3 [123] = true) : loopR ws ((headR ws i).2 + 1) [] = bodyR ws i := by unfold bodyR; rw [if_pos h, if_pos h2]
theorem nR1 {ws : List Wrd} {i : Nat} {lo hi : Int} (h : lo = -1) : numR ws i lo hi = (i, 0, 0) := by unfold numR; rw [if_pos h]
theorem nR2 {ws : List Wrd} {i : Nat} {lo hi : Int} (h : ¬ lo = -1) (h2 : ws.length ≤ i ∨ (ws.getD i default).k ≠ 2) : numR ws i lo hi = (i, 5, 0) := by
  unfold numR; rw [if_neg h, if_pos (by simp only [Bool.or_eq_true, decide_eq_true_eq]; exact h2)]
theorem nR3 {ws : List Wrd} {i : Nat} {lo hi : Int} (h : ¬ lo = -1) (h2 : i < ws.length) (h3 : (ws.getD i default).k = 2) (h4 : (ws.getD i default).n < lo ∨ hi < (ws.getD i default).n) : numR ws i lo hi = (i, 1, 0) := by
  unfold numR hasB; rw [if_neg h, if_neg (by simp only [Bool.or_eq_true, decide_eq_true_eq, not_or]; exact ⟨by omega, fun q => q h3⟩), if_neg h, if_neg (by simp only [Bool.and_eq_true, decide_eq_true_eq]; omega)]
theorem nR4 {ws : List Wrd} {i : Nat} {lo hi : Int} (h : ¬ lo = -1) (h2 : i < ws.length) (h3 : (ws.getD i default).k = 2) (h4 : lo ≤ (ws.getD i default).n ∧ (ws.getD i default).n ≤ hi) : numR ws i lo hi = (i + 1, 0, (ws.getD i default).n) := by
  unfold numR hasB; rw [if_neg h, if_neg (by simp only [Bool.or_eq_true, decide_eq_true_eq, not_or]; exact ⟨by omega, fun q => q h3⟩), if_neg h, if_pos (by simp only [Bool.and_eq_true, decide_eq_true_eq]; exact h4)]
theorem opB_of {ws : List Wrd} {i j : Nat} {a : Int} (h : opA ws i = (j, 0, a)) : opB ws i = numR ws j (loB (kindR ws i)) (hiB (kindR ws i)) := by unfold opB num2; rw [h, if_neg (by simp)]
theorem opR_Ab {ws : List Wrd} {i j ah : Nat} {e a : Int} (h1 : kindR ws i ≠ 0) (h2 : ah < 12) (h : opA ws i = (j, e, a)) (he : e ≠ 0) : (opR ws i ah).1 = j ∧ (opR ws i ah).2.1 = e := by
  have hB : opB ws i = (j, e, 0) := by unfold opB num2; rw [h, if_pos he]
  unfold opR; rw [if_neg h1, if_neg (by omega), hB, if_pos he]; exact ⟨rfl, rfl⟩
theorem opR_Bb {ws : List Wrd} {i j ah : Nat} {e b : Int} (h1 : kindR ws i ≠ 0) (h2 : ah < 12) (h : opB ws i = (j, e, b)) (he : e ≠ 0) : (opR ws i ah).1 = j ∧ (opR ws i ah).2.1 = e := by
  unfold opR; rw [if_neg h1, if_neg (by omega), h, if_pos he]; exact ⟨rfl, rfl⟩
theorem opR_ok {ws : List Wrd} {i j ah : Nat} {a b : Int} (h1 : kindR ws i ≠ 0) (h2 : ah < 12) (hA : (opA ws i).2.2 = a) (h : opB ws i = (j, 0, b)) (he : isR ws j 3 [59] = true) : opR ws i ah = (j + 1, 0, ⟨kindR ws i, a, b⟩) := by
  unfold opR; rw [if_neg h1, if_neg (by omega), h, if_neg (by simp), if_pos he, hA]
def NumI (ws : List Wrd) (i k j : Nat) (lo hi a b : Int) : Prop :=
  k ≤ 2 ∧ j ≤ ws.length ∧ (k = 0 → j = i + 1 ∧ lo = loA (kindR ws i) ∧ hi = hiA (kindR ws i) ∧ a = 0 ∧ b = 0) ∧ (k = 1 → opA ws i = (j, 0, a) ∧ b = 0) ∧ (k = 2 → (opA ws i).2.2 = a ∧ opB ws i = (j, 0, b))
theorem NumI.skip {ws : List Wrd} {i k j : Nat} {lo hi a b : Int} (h : NumI ws i k j lo hi a b) (hq : (k = 0 ∧ lo < 0) ∨ (k = 1 ∧ kindR ws i ≠ 5)) : NumI ws i (k + 1) j lo hi a b := by
  obtain ⟨h1, h2, h3, h4, h5⟩ := h
  rcases hq with ⟨rfl, hq⟩ | ⟨rfl, hq⟩
  · obtain ⟨e1, e2, e3, e4, e5⟩ := h3 rfl
    subst e1; subst e4; subst e5; subst e2; subst e3
    have := loA_cases (kindR ws i)
    exact ⟨by omega, h2, fun q => by omega, fun _ => ⟨nR1 (by omega), rfl⟩, fun q => by omega⟩
  · obtain ⟨e1, e2⟩ := h4 rfl
    subst e2
    exact ⟨by omega, h2, fun q => by omega, fun q => by omega, fun _ => ⟨by rw [e1], by rw [opB_of e1, nR1 (by unfold loB; rw [if_neg hq])]⟩⟩
theorem NumI.bad {ws : List Wrd} {i k j ah : Nat} {lo hi a b e : Int} (h : NumI ws i k j lo hi a b) (hk : k < 2) (h1 : kindR ws i ≠ 0) (h2 : ah < 12) (hq : ¬ ((k = 0 ∧ lo < 0) ∨ (k = 1 ∧ kindR ws i ≠ 5))) (he : e ≠ 0)
    (h3 : (e = 5 ∧ (ws.length ≤ j ∨ (ws.getD j default).k ≠ 2)) ∨ (e = 1 ∧ j < ws.length ∧ (ws.getD j default).k = 2 ∧ ((k = 0 ∧ ((ws.getD j default).n < lo ∨ hi < (ws.getD j default).n)) ∨ (k = 1 ∧ ((ws.getD j default).n < 1 ∨ 64 < (ws.getD j default).n))))) : (opR ws i ah).1 = j ∧ (opR ws i ah).2.1 = e := by
  obtain ⟨_, _, h5, h6, _⟩ := h
  have : k = 0 ∨ k = 1 := by omega
  rcases this with rfl | rfl
  · obtain ⟨e1, e2, e3, e4, e5⟩ := h5 rfl
    subst e1; subst e2; subst e3
    have hlo : ¬ loA (kindR ws i) = -1 := by omega
    rcases h3 with ⟨rfl, h3⟩ | ⟨rfl, a1, a2, a3⟩
    · exact opR_Ab h1 h2 (nR2 hlo h3) he
    · rcases a3 with ⟨_, a3⟩ | ⟨a3, _⟩
      · exact opR_Ab h1 h2 (nR3 hlo a1 a2 a3) he
      · cases a3
  · obtain ⟨e1, e2⟩ := h6 rfl
    have h5' : kindR ws i = 5 := by omega
    have e3 := opB_of e1
    unfold loB hiB at e3; rw [if_pos h5', if_pos h5'] at e3
    rcases h3 with ⟨rfl, h3⟩ | ⟨rfl, a1, a2, a3⟩
    · exact opR_Bb h1 h2 (e3.trans (nR2 (by decide) h3)) he
    · rcases a3 with ⟨a3, _⟩ | ⟨_, a3⟩
      · cases a3
      · exact opR_Bb h1 h2 (e3.trans (nR3 (by decide) a1 a2 a3)) he
end Go.Eng
namespace Go.Eng
open Go Go.Proofs Go.RowKit
deriving instance DecidableEq for COp
def mk3 (t : List UInt8) : Wrd := ⟨3, t, 0, 0⟩
def opW (o : COp) : List Wrd := ⟨1, nmT o.k, 0, 0⟩ :: ((if loA o.k ≠ -1 then [⟨2, [], o.a, 0⟩] else []) ++ ((if loB o.k ≠ -1 then [⟨2, [], o.b, 0⟩] else []) ++ [mk3 [59]]))
def wordsF (fv : Bool) (xs : List COp) : List Wrd := (⟨1, wProg, 0, 0⟩ :: (if fv then [⟨1, wForever, 0, 0⟩] else [])) ++ [mk3 [123]] ++ xs.flatMap opW ++ [mk3 [125]]
def wordsO (fv : Bool) (xs : List COp) : List Wrd × Int := if mayB xs then (wordsF fv xs, 0) else ([], 1)
def WoT (r : List Wrd × Int) (n0 : Nat) (v : Value) (m : Mem0) : Prop := ∃ ad n cap, v = .tuple #[.slice ad n cap, .int .i64 r.2] ∧ n = r.1.length ∧ Sl fW 65 4 n0 r.1 (.slice ad n cap) m
theorem WoT.mono {r : List Wrd × Int} : ∀ (k k' : Nat) u m, k' ≤ k → WoT r k u m → WoT r k' u m := fun k k' u m h ⟨ad, n, cap, h1, h2, h3⟩ => ⟨ad, n, cap, h1, h2, h3.mono h⟩
theorem nm_len (k : Int) : (nmT k).length ≤ 7 := by
  unfold nmT; split
  · rename_i h
    have : k = 0 ∨ k = 1 ∨ k = 2 ∨ k = 3 ∨ k = 4 ∨ k = 5 ∨ k = 6 ∨ k = 7 ∨ k = 8 ∨ k = 9 ∨ k = 10 ∨ k = 11 := by omega
    rcases this with rfl | rfl | rfl | rfl | rfl | rfl | rfl | rfl | rfl | rfl | rfl | rfl <;> decide
  · decide
theorem opW_len (o : COp) : (opW o).length ≤ 4 := by unfold opW; (repeat' split) <;> simp
theorem opW_text (o : COp) : ∀ x ∈ opW o, x.t.length ≤ 7 := by
  have := nm_len o.k
  intro x hx
  unfold opW mk3 at hx
  simp only [List.mem_cons, List.mem_append, List.not_mem_nil, or_false] at hx
  rcases hx with rfl | hx | hx | rfl
  · exact this
  · split at hx
    · simp at hx; subst hx; simp
    · cases hx
  · split at hx
    · simp at hx; subst hx; simp
    · cases hx
  · simp
theorem flat_len (xs : List COp) : (xs.flatMap opW).length ≤ 4 * xs.length := by
  induction xs with
  | nil => simp
  | cons o xs ih => have := opW_len o; rw [List.flatMap_cons, List.length_append, List.length_cons]; omega
theorem words_len (fv : Bool) (xs : List COp) : (wordsF fv xs).length ≤ 4 * xs.length + 4 := by
  have := flat_len xs
  unfold wordsF; simp only [List.length_append, List.length_cons, List.length_nil]; cases fv <;> simp only [if_true, if_false, Bool.false_eq_true, List.length_cons, List.length_nil] <;> omega
theorem words_text (fv : Bool) (xs : List COp) : ∀ x ∈ wordsF fv xs, x.t.length ≤ 7 := by
  intro x hx
  unfold wordsF mk3 at hx
  simp only [List.mem_cons, List.mem_append, List.not_mem_nil, or_false, List.mem_flatMap] at hx
  rcases hx with (((rfl | hx) | rfl) | ⟨o, _, hx⟩) | rfl
  · simp
  · cases fv
    · simp at hx
    · simp at hx; subst hx; simp
  · simp
  · exact opW_text o x hx
  · simp
theorem flat_snoc {xs : List COp} {i : Nat} (h : i < xs.length) : (xs.take (i + 1)).flatMap opW = (xs.take i).flatMap opW ++ opW (xs.getD i default) := by
  rw [take_snoc default h, List.flatMap_append]; simp
theorem fO_veqs (a b : COp) : veqs (fO a) (fO b) = decide (a = b) := by
  cases a; cases b; simp only [veqs, veq, fO, Bool.and_true, COp.mk.injEq, Bool.decide_and]; rfl
theorem eq_at {xs ys : List COp} {i : Nat} (hl : xs.length = ys.length) (h : i < xs.length) (hp : xs.take i = ys.take i) (e : xs.getD i default = ys.getD i default) : xs.take (i + 1) = ys.take (i + 1) := by
  rw [take_snoc default h, take_snoc default (hl ▸ h), hp, e]
set_option maxRecDepth 100000 in
theorem pmark_spec (t : List UInt8) (w : World) : Ret Tryz.prog 104 #[vS t] w (fun v w' => v = .agg (fW (mk3 t)).toArray ∧ Ext w w') := by
 refine Ret.enterM (l := [vS t]) Tryz.func104 rfl Tryz.ntmps104 rfl ([]) (no) (Mem.nil w) ?_
 refine wpM.seq (wpM.region ?_)
 refine LM.alloc Tryz.zeroValue65 rfl (fun b2 hb2 => ?_)
 refine LM.nil (QM.sub (e' := [(0, _), (2, _)]) au9 (QM.then (wpM.seq (wpM.region ?_))))
 refine LM.mv rfl ?_
 refine LM.val (ov_build (cs := #[_, _, _, _]) rfl (by first | rfl | kernel_rfl)) ?_
 refine LM.stW Tryz.sizeOf65 rfl rfl rfl rfl au7 au8 ?_
 refine LM.nil (QM.sub (e' := [(2, _)]) ⟨rfl, trivial⟩ (QM.then ?_))
 refine wpM.ret ?_
 refine QM.leaveCs (ds := ([])) (.inl rfl) [.cell 2 65] Tryz.results104 hd_nil (rc_w rfl Tryz.isAgg65 Tryz.sizeOf65 rfl rc_nil) ?_
 intro w' hm' hc'
 exact ⟨rfl, hc'⟩
set_option maxRecDepth 100000 in
set_option maxHeartbeats 1000000 in
theorem words_spec {xs : List COp} {fv : Bool} {ad : Option Addr} {n cap : Nat} (w : World) (hn : n = xs.length) (hl : Sr fO 3 xs (.slice ad n cap) w) : Ret Tryz.prog 58 #[pV fv ad n cap] w (fun v w' => Ext w w' ∧ ∃ m, WoT (wordsO fv xs) w.heap.size v m ∧ Mem w' m ∧ ∀ p ∈ m, w.heap.size ≤ p.1) := by
 refine Ret.enterM (l := [pV fv ad n cap]) Tryz.func58 rfl Tryz.ntmps58 rfl ([]) (no) (Mem.nil w) ?_
 refine wpM.seq (wpM.region ?_)
 refine LM.box rfl rfl (fun b1 hb1 => ?_)
 refine LM.as rfl (LM.as rfl ?_)
 refine LM.nil (QM.sub (e' := [(1, _)]) ⟨rfl, trivial⟩ (QM.then ?_))
 refine wpM.seq ?_
 refine wpM.seq (wpM.region ?_)
 refine LM.rd (om_ldW Tryz.isAgg87 Tryz.sizeOf87 rfl rfl) ?_
 refine LM.callE (oc_call (enters_fn Tryz.func103 (by kernel_rfl) rfl) rfl) (fun w hm hc hg => pmay_spec w hn (hl.ext hc)) ?_
 first | refine LM.val (ov_notD rfl) ?_ | refine LM.val (ov_not rfl) ?_
 refine LM.nil (QM.sub (e' := [(1, _), (11, _)]) au9 (QM.then ?_))
 first | refine wpM.condD rfl (fun h1 => ?_) (fun h1 => ?_) | refine wpM.condB rfl (fun h1 => ?_) (fun h1 => ?_)
 ·
  refine wpM.seq (wpM.region ?_)
  refine LM.as rfl (LM.as rfl ?_)
  refine LM.nil (QM.sub (e' := [(2, _), (3, _)]) au9 (QM.then ?_))
  refine wpM.ret ?_
  refine QM.then_ret ?_
  refine QM.leave (.inl rfl) [.tmp 2, .tmp 3] Tryz.results58 rfl ?_
  intro w' hm' hc' hg'
  have hm : mayB xs = false := (by simpa using h1); have hw : wordsO fv xs = ([], 1) := (by unfold wordsO; rw [if_neg (by rw [hm]; simp)]); rw [hw]; exact ⟨hc', [], ⟨none, 0, 0, rfl, rfl, .nil _ _ _ _⟩, Mem.nil _, fun p hp => by cases hp⟩
 have hxl : xs.length ≤ 12 := (by have hm : mayB xs = true := (by simpa using h1); unfold mayB at hm; simp only [Bool.and_eq_true, decide_eq_true_eq] at hm; omega)
 refine wpM.skip ?_
 refine QM.then (wpM.seq (wpM.region ?_))
 refine LM.val (ov_build (cs := #[_, _, _, _]) rfl (by first | rfl | kernel_rfl)) ?_
 refine LM.single Tryz.underlying23 Tryz.sizeOf65 Tryz.zeroValue65 rfl rfl rfl rfl rfl (fun b13 hb13 => ?_)
 refine LM.as rfl ?_
 refine LM.nil (QM.sub (e' := [(1, _), (4, _)]) au9 (QM.then ?_))
 refine wpM.seq ?_
 refine wpM.seq (wpM.region ?_)
 have hlen13 : [(⟨1, wProg, 0, 0⟩ : Wrd)].length = 1 := rfl; change LM _ _ _ _ _ _ _ _ ((b13, Obj.cells (arr fW [(⟨1, wProg, 0, 0⟩ : Wrd)] []) 65 (0, 0)) :: _) _ _ _; have hs13 : Sl fW 65 4 w.heap.size [(⟨1, wProg, 0, 0⟩ : Wrd)] (.slice (some ⟨b13, 0, none⟩) 1 1) [(b13, .cells (arr fW [(⟨1, wProg, 0, 0⟩ : Wrd)] []) 65 (0, 0))] := .inr ⟨b13, 1, [], hb13, rfl, rfl, by decide, by unfold maxLen; decide, rfl⟩
 refine LM.val (ov_field Tryz.underlying87 rfl Tryz.sizeOf4 rfl (k := 0) rfl rfl) ?_
 refine LM.rd (om_ld Tryz.isAgg4 rfl rfl) ?_
 refine LM.nil (QM.sub (e' := [(1, _), (4, _), (15, _)]) au9 (QM.then ?_))
 refine wpM.joinK (α := List Wrd × Option Addr × Nat × Nat × Mem0) (fun ⟨l0, ad0, n0, cap0, m0⟩ => [(4, .slice ad0 n0 cap0)]) [(1, _)] (fun ⟨l0, ad0, n0, cap0, m0⟩ => m0 ++ (pB b1 fv ad n cap :: [])) (fun ⟨l0, ad0, n0, cap0, m0⟩ => l0.length ≤ 2 ∧ l0 = ⟨1, wProg, 0, 0⟩ :: (if fv then [⟨1, wForever, 0, 0⟩] else []) ∧ n0 = l0.length ∧ Sl fW 65 4 w.heap.size l0 (.slice ad0 n0 cap0) m0) ⟨rfl, trivial⟩ ?_ ?_
 ·
  first | refine wpM.condD rfl (fun h2 => ?_) (fun h2 => ?_) | refine wpM.condB rfl (fun h2 => ?_) (fun h2 => ?_)
  ·
   refine wpM.region ?_
   refine LM.mv rfl ?_
   refine LM.val (ov_build (cs := #[_, _, _, _]) rfl (by first | rfl | kernel_rfl)) ?_
   refine LM.single Tryz.underlying23 Tryz.sizeOf65 Tryz.zeroValue65 rfl rfl rfl rfl rfl (fun b18 hb18 => ?_)
   refine LM.app (a := (⟨1, wForever, 0, 0⟩ : Wrd)) Tryz.underlying23 Tryz.typeInfo65 rfl rfl rfl rfl rfl rfl rfl (by assumption) (by rfl) (by intro _; rfl) (by intro _ u hu; simp [fW] at hu; (repeat (first | (rcases hu with rfl | hu) | subst hu | rfl))) (by first | exact Nat.le_refl _ | omega) au10 (by first | omega | (unfold maxLen; omega)) (by simp only [Tryz.t65]; omega) (fun ad19 n19 cap19 m19 hn19 hs19 hin19 => ?_)
   refine LM.as rfl ?_
   refine LM.nil (QM.sub (e' := [(1, _), (4, _)]) au9 ?_)
   refine QM.meetK (([(⟨1, wProg, 0, 0⟩ : Wrd)] ++ [⟨1, wForever, 0, 0⟩], ad19, n19, cap19, m19)) ⟨au2, rfl, trivial⟩ au1 ?_
   · exact ⟨by simp, by rw [if_pos h2]; rfl, by rw [hn19]; rfl, hs19⟩
  refine wpM.skip ?_
  refine QM.meetK (([(⟨1, wProg, 0, 0⟩ : Wrd)], some ⟨b13, 0, none⟩, 1, 1, [(b13, .cells (arr fW [(⟨1, wProg, 0, 0⟩ : Wrd)] []) 65 (0, 0))])) ⟨au2, rfl, trivial⟩ au1 ?_
  · exact ⟨by decide, by rw [if_neg (by rw [h2]; simp)], rfl, hs13⟩
 rintro ⟨l0, ad0, n0, cap0, m0⟩ ⟨hz0, hl0, hn0, hs0⟩
 change QM _ _ _ _ _ (m0 ++ (pB b1 fv ad n cap :: [])) _ _ _
 refine QM.then (wpM.seq (wpM.region ?_))
 refine LM.mv rfl ?_
 refine LM.callE (oc_call (enters_fn Tryz.func104 (by kernel_rfl) rfl) rfl) (fun w hm hc hg => pmark_spec [123] w) ?_
 refine LM.single Tryz.underlying23 Tryz.sizeOf65 Tryz.zeroValue65 rfl rfl rfl rfl rfl (fun b22 hb22 => ?_)
 refine LM.app (a := mk3 [123]) Tryz.underlying23 Tryz.typeInfo65 rfl rfl rfl rfl rfl rfl rfl (by assumption) (by rfl) (by intro _; rfl) (by intro _ u hu; simp [fW] at hu; (repeat (first | (rcases hu with rfl | hu) | subst hu | rfl))) (by first | exact Nat.le_refl _ | omega) au10 (by first | omega | (unfold maxLen; omega)) (by simp only [Tryz.t65]; omega) (fun ad23 n23 cap23 m23 hn23 hs23 hin23 => ?_)
 refine LM.as rfl ?_
 refine LM.nil (QM.sub (e' := [(1, _), (4, _)]) au9 (QM.then ?_))
 refine wpM.seq ?_
 refine wpM.seq (wpM.region ?_)
 refine LM.val (ov_field Tryz.underlying87 rfl Tryz.sizeOf85 rfl (k := 1) rfl rfl) ?_
 refine LM.rd (om_ld Tryz.isAgg85 rfl rfl) ?_
 refine LM.val (ov_len Tryz.underlying85 rfl) ?_
 refine LM.mv rfl ?_
 refine LM.nil (QM.sub (e' := [(4, _), (25, _), (26, _), (27, _)]) au9 (QM.then ?_))
 refine wpM.block ?_
 refine wpM.loopK0 (α := Nat × List Wrd × Option Addr × Nat × Nat × Mem0) (fun ⟨i, l1, ad1, n1, cap1, m1⟩ => [(4, .slice ad1 n1 cap1), (27, .int .i64 (i : Nat))]) [(25, _), (26, _)] (fun ⟨i, l1, ad1, n1, cap1, m1⟩ => m1 ++ (pB b1 fv ad n cap :: [])) (fun ⟨i, l1, ad1, n1, cap1, m1⟩ => i ≤ xs.length ∧ l1.length ≤ 3 + 4 * i ∧ l1 = l0 ++ [mk3 [123]] ++ (xs.take i).flatMap opW ∧ n1 = l1.length ∧ Sl fW 65 4 w.heap.size l1 (.slice ad1 n1 cap1) m1) (fun ⟨i, l1, ad1, n1, cap1, m1⟩ => xs.length - i) ((0, l0 ++ [mk3 [123]], ad23, n23, cap23, m23)) ⟨au2, au2, rfl, rfl, trivial⟩ au1 ⟨Nat.zero_le _, by simp; omega, by simp, by rw [hn23]; simp, hs23⟩ ?_
 rintro ⟨i, l1, ad1, n1, cap1, m1⟩ ⟨hi, hz1, hl1, hn1, hs1⟩
 change wpM _ _ _ _ _ _ _ (m1 ++ (pB b1 fv ad n cap :: [])) _ _ _
 refine wpM.seq (wpM.region ?_)
 refine LM.val (ov_lss rfl rfl) ?_
 refine LM.nil (QM.sub (e' := [(4, _), (25, _), (26, _), (27, _), (28, _)]) au9 (QM.then ?_))
 refine wpM.seq ?_
 refine wpM.condD rfl (fun h3 => ?_) (fun h3 => ?_)
 ·
  refine wpM.skip ?_
  refine QM.then ?_
  refine wpM.seq ?_
  refine wpM.block ?_
  refine wpM.seq (wpM.region ?_)
  refine LM.val (ov_idxSN au6 Tryz.underlying85 Tryz.sizeOf135 rfl rfl (by omega)) ?_
  first | refine LM.rd (om_slA (by assumption) (by intro _; rfl) Tryz.isAgg135 Tryz.sizeOf135 rfl au3) ?_ | refine LM.rdC (om_srEA (by assumption) (by intro _; rfl) Tryz.isAgg135 Tryz.sizeOf135 rfl au3 id) ?_ | refine LM.rd (om_ldW Tryz.isAgg135 Tryz.sizeOf135 rfl rfl) ?_ | refine LM.rd (om_ldA Tryz.isAgg135 Tryz.sizeOf135 rfl (vs := [_, _, _]) rfl ⟨rfl, rfl, rfl, trivial⟩) ?_
  refine LM.alloc Tryz.zeroValue135 rfl (fun b6 hb6 => ?_)
  refine LM.stW Tryz.sizeOf135 rfl rfl rfl rfl au7 au8 ?_
  refine LM.nil (QM.sub (e' := [(4, _), (6, _), (25, _), (26, _), (27, _)]) au9 (QM.then (wpM.seq (wpM.region ?_))))
  refine LM.mv rfl (LM.val (ov_field Tryz.underlying135 rfl Tryz.sizeOf3 rfl (k := 0) rfl rfl) ?_)
  refine LM.rd (om_ld Tryz.isAgg3 rfl rfl) ?_
  refine LM.callE (oc_call (enters_fn Tryz.func105 (by kernel_rfl) rfl) rfl) (fun w hm hc hg => name_spec _ w) ?_
  refine LM.val (ov_build (cs := #[_, _, _, _]) rfl (by first | rfl | kernel_rfl)) ?_
  refine LM.single Tryz.underlying23 Tryz.sizeOf65 Tryz.zeroValue65 rfl rfl rfl rfl rfl (fun b36 hb36 => ?_)
  refine LM.app (a := (⟨1, nmT (xs.getD i default).k, 0, 0⟩ : Wrd)) Tryz.underlying23 Tryz.typeInfo65 rfl rfl rfl rfl rfl rfl rfl (by assumption) (by rfl) (by intro _; rfl) (by intro _ u hu; simp [fW] at hu; (repeat (first | (rcases hu with rfl | hu) | subst hu | rfl))) (by first | exact Nat.le_refl _ | omega) au10 (by first | omega | (unfold maxLen; omega)) (by simp only [Tryz.t65]; omega) (fun ad37 n37 cap37 m37 hn37 hs37 hin37 => ?_)
  refine LM.as rfl ?_
  refine LM.nil (QM.sub (e' := [(4, _), (6, _), (25, _), (26, _), (27, _)]) au9 (QM.then (wpM.seq (wpM.region ?_))))
  refine LM.val (ov_field Tryz.underlying135 rfl Tryz.sizeOf3 rfl (k := 0) rfl rfl) ?_
  refine LM.rd (om_ld Tryz.isAgg3 rfl rfl) ?_
  refine LM.callE (oc_call (enters_fn Tryz.func106 (by kernel_rfl) rfl) rfl) (fun w hm hc hg => spans_spec _ w) ?_
  refine LM.mv rfl ?_
  refine LM.val (ov_extract rfl rfl) ?_
  refine LM.val (ov_extract rfl rfl) ?_
  refine LM.alloc Tryz.zeroValue159 rfl (fun b7 hb7 => ?_)
  refine LM.alloc Tryz.zeroValue159 rfl (fun b8 hb8 => ?_)
  refine LM.stW Tryz.sizeOf159 rfl rfl rfl rfl au7 au8 ?_
  refine LM.stW Tryz.sizeOf159 rfl rfl rfl rfl au7 au8 ?_
  refine LM.nil (QM.sub (e' := [(4, _), (6, _), (7, _), (8, _), (25, _), (26, _), (27, _)]) au9 (QM.then ?_))
  refine wpM.seq ?_
  refine wpM.seq (wpM.region ?_)
  refine LM.val (ov_field Tryz.underlying159 rfl Tryz.sizeOf3 rfl (k := 0) rfl rfl) ?_
  refine LM.rd (om_ld Tryz.isAgg3 rfl rfl) ?_
  refine LM.val (ov_neq rfl rfl) ?_
  refine LM.nil (QM.sub (e' := [(4, _), (6, _), (8, _), (25, _), (26, _), (27, _), (46, _)]) au9 (QM.then ?_))
  refine wpM.joinK (α := List Wrd × Option Addr × Nat × Nat × Mem0) (fun ⟨l2, ad2, n2, cap2, m2⟩ => [(4, .slice ad2 n2 cap2)]) [(6, _), (8, _), (25, _), (26, _), (27, _)] (fun ⟨l2, ad2, n2, cap2, m2⟩ => m2 ++ ((b8, .cells #[.int .i64 (loB (xs.getD i default).k), .int .i64 (hiB (xs.getD i default).k)] 159 (0, 0)) :: (b6, .cells (fO (xs.getD i default)).toArray 135 (0, 0)) :: pB b1 fv ad n cap :: [])) (fun ⟨l2, ad2, n2, cap2, m2⟩ => l2.length ≤ 5 + 4 * i ∧ l2 = l1 ++ [⟨1, nmT (xs.getD i default).k, 0, 0⟩] ++ (if loA (xs.getD i default).k ≠ -1 then [⟨2, [], (xs.getD i default).a, 0⟩] else []) ∧ n2 = l2.length ∧ Sl fW 65 4 w.heap.size l2 (.slice ad2 n2 cap2) m2) ⟨rfl, rfl, rfl, rfl, rfl, trivial⟩ ?_ ?_
  ·
   refine wpM.condD rfl (fun h4 => ?_) (fun h4 => ?_)
   ·
    refine wpM.region ?_
    have hlp : (l1 ++ [(⟨1, nmT (xs.getD i default).k, 0, 0⟩ : Wrd)]).length = l1.length + 1 := (by simp)
    refine LM.mv rfl (LM.val (ov_field Tryz.underlying135 rfl Tryz.sizeOf3 rfl (k := 1) rfl rfl) ?_)
    refine LM.rd (om_ld Tryz.isAgg3 rfl rfl) ?_
    refine LM.val (ov_build (cs := #[_, _, _, _]) rfl (by first | rfl | kernel_rfl)) ?_
    refine LM.single Tryz.underlying23 Tryz.sizeOf65 Tryz.zeroValue65 rfl rfl rfl rfl rfl (fun b51 hb51 => ?_)
    refine LM.app (a := (⟨2, [], (xs.getD i default).a, 0⟩ : Wrd)) Tryz.underlying23 Tryz.typeInfo65 rfl rfl rfl rfl rfl rfl rfl (by assumption) (by rfl) (by intro _; rfl) (by intro _ u hu; simp [fW] at hu; (repeat (first | (rcases hu with rfl | hu) | subst hu | rfl))) (by first | exact Nat.le_refl _ | omega) au10 (by first | omega | (unfold maxLen; omega)) (by simp only [Tryz.t65]; omega) (fun ad52 n52 cap52 m52 hn52 hs52 hin52 => ?_)
    refine LM.as rfl ?_
    refine LM.nil (QM.sub (e' := [(4, _), (6, _), (8, _), (25, _), (26, _), (27, _)]) au9 ?_)
    refine QM.meetK ((l1 ++ [(⟨1, nmT (xs.getD i default).k, 0, 0⟩ : Wrd)] ++ [⟨2, [], (xs.getD i default).a, 0⟩], ad52, n52, cap52, m52)) ⟨au2, rfl, rfl, rfl, rfl, rfl, trivial⟩ au1 ?_
    · exact ⟨by simp; omega, by rw [if_pos h4], by rw [hn52]; simp, hs52⟩
   refine wpM.skip ?_
   refine QM.meetK ((l1 ++ [(⟨1, nmT (xs.getD i default).k, 0, 0⟩ : Wrd)], ad37, n37, cap37, m37)) ⟨au2, rfl, rfl, rfl, rfl, rfl, trivial⟩ au1 ?_
   · exact ⟨by simp; omega, by rw [if_neg h4]; simp, by rw [hn37]; simp, hs37⟩
  rintro ⟨l2, ad2, n2, cap2, m2⟩ ⟨hz2, hl2, hn2, hs2⟩
  change QM _ _ _ _ _ (m2 ++ ((b8, .cells #[.int .i64 (loB (xs.getD i default).k), .int .i64 (hiB (xs.getD i default).k)] 159 (0, 0)) :: (b6, .cells (fO (xs.getD i default)).toArray 135 (0, 0)) :: pB b1 fv ad n cap :: [])) _ _ _
  refine QM.then ?_
  refine wpM.seq ?_
  refine wpM.seq (wpM.region ?_)
  refine LM.val (ov_field Tryz.underlying159 rfl Tryz.sizeOf3 rfl (k := 0) rfl rfl) ?_
  refine LM.rd (om_ld Tryz.isAgg3 rfl rfl) ?_
  refine LM.val (ov_neq rfl rfl) ?_
  refine LM.nil (QM.sub (e' := [(4, _), (6, _), (25, _), (26, _), (27, _), (55, _)]) au9 (QM.then ?_))
  refine wpM.joinK (α := List Wrd × Option Addr × Nat × Nat × Mem0) (fun ⟨l3, ad3, n3, cap3, m3⟩ => [(4, .slice ad3 n3 cap3)]) [(25, _), (26, _), (27, _)] (fun ⟨l3, ad3, n3, cap3, m3⟩ => m3 ++ (pB b1 fv ad n cap :: [])) (fun ⟨l3, ad3, n3, cap3, m3⟩ => l3.length ≤ 6 + 4 * i ∧ l3 = l2 ++ (if loB (xs.getD i default).k ≠ -1 then [⟨2, [], (xs.getD i default).b, 0⟩] else []) ∧ n3 = l3.length ∧ Sl fW 65 4 w.heap.size l3 (.slice ad3 n3 cap3) m3) ⟨rfl, rfl, rfl, trivial⟩ ?_ ?_
  ·
   refine wpM.condD rfl (fun h5 => ?_) (fun h5 => ?_)
   ·
    refine wpM.region ?_
    refine LM.mv rfl (LM.val (ov_field Tryz.underlying135 rfl Tryz.sizeOf3 rfl (k := 2) rfl rfl) ?_)
    refine LM.rd (om_ld Tryz.isAgg3 rfl rfl) ?_
    refine LM.val (ov_build (cs := #[_, _, _, _]) rfl (by first | rfl | kernel_rfl)) ?_
    refine LM.single Tryz.underlying23 Tryz.sizeOf65 Tryz.zeroValue65 rfl rfl rfl rfl rfl (fun b60 hb60 => ?_)
    refine LM.app (a := (⟨2, [], (xs.getD i default).b, 0⟩ : Wrd)) Tryz.underlying23 Tryz.typeInfo65 rfl rfl rfl rfl rfl rfl rfl (by assumption) (by rfl) (by intro _; rfl) (by intro _ u hu; simp [fW] at hu; (repeat (first | (rcases hu with rfl | hu) | subst hu | rfl))) (by first | exact Nat.le_refl _ | omega) au10 (by first | omega | (unfold maxLen; omega)) (by simp only [Tryz.t65]; omega) (fun ad61 n61 cap61 m61 hn61 hs61 hin61 => ?_)
    refine LM.as rfl ?_
    refine LM.nil (QM.sub (e' := [(4, _), (25, _), (26, _), (27, _)]) au9 ?_)
    refine QM.meetK ((l2 ++ [(⟨2, [], (xs.getD i default).b, 0⟩ : Wrd)], ad61, n61, cap61, m61)) ⟨au2, rfl, rfl, rfl, trivial⟩ au1 ?_
    · exact ⟨by simp; omega, by rw [if_pos h5], by rw [hn61]; simp, hs61⟩
   refine wpM.skip ?_
   refine QM.meetK ((l2, ad2, n2, cap2, m2)) ⟨au2, rfl, rfl, rfl, trivial⟩ au1 ?_
   · exact ⟨by omega, by rw [if_neg h5]; simp, hn2, hs2⟩
  rintro ⟨l3, ad3, n3, cap3, m3⟩ ⟨hz3, hl3, hn3, hs3⟩
  change QM _ _ _ _ _ (m3 ++ (pB b1 fv ad n cap :: [])) _ _ _
  refine QM.then (wpM.region ?_)
  refine LM.mv rfl ?_
  refine LM.callE (oc_call (enters_fn Tryz.func104 (by kernel_rfl) rfl) rfl) (fun w hm hc hg => pmark_spec [59] w) ?_
  refine LM.single Tryz.underlying23 Tryz.sizeOf65 Tryz.zeroValue65 rfl rfl rfl rfl rfl (fun b64 hb64 => ?_)
  refine LM.app (a := mk3 [59]) Tryz.underlying23 Tryz.typeInfo65 rfl rfl rfl rfl rfl rfl rfl (by assumption) (by rfl) (by intro _; rfl) (by intro _ u hu; simp [fW] at hu; (repeat (first | (rcases hu with rfl | hu) | subst hu | rfl))) (by first | exact Nat.le_refl _ | omega) au10 (by first | omega | (unfold maxLen; omega)) (by simp only [Tryz.t65]; omega) (fun ad65 n65 cap65 m65 hn65 hs65 hin65 => ?_)
  refine LM.as rfl ?_
  refine LM.nil (QM.sub (e' := [(4, _), (25, _), (26, _), (27, _)]) au9 ?_)
  refine QM.block_normal ?_
  refine QM.then (wpM.region ?_)
  refine LM.val (ov_add64 rfl rfl (by omega)) ?_
  refine LM.mv rfl ?_
  refine LM.nil (QM.sub (e' := [(4, _), (25, _), (26, _), (27, _)]) au9 ?_)
  refine QM.againK ((i + 1, l3 ++ [mk3 [59]], ad65, n65, cap65, m65)) ⟨au2, au2, rfl, rfl, trivial⟩ au1 (fun _ h => h) ?_ ?_
  · exact ⟨by omega, by simp; omega, by rw [hl3, hl2, hl1, flat_snoc (by omega)]; simp [opW], by rw [hn65]; simp, hs65⟩
  · first | omega | (dsimp only; omega)
 refine wpM.exit ?_
 refine QM.then_exit ?_
 refine QM.then_exit ?_
 refine QM.block_hit ?_
 refine QM.then (wpM.seq (wpM.region ?_))
 refine LM.mv rfl ?_
 refine LM.callE (oc_call (enters_fn Tryz.func104 (by kernel_rfl) rfl) rfl) (fun w hm hc hg => pmark_spec [125] w) ?_
 refine LM.single Tryz.underlying23 Tryz.sizeOf65 Tryz.zeroValue65 rfl rfl rfl rfl rfl (fun b69 hb69 => ?_)
 refine LM.app (a := mk3 [125]) Tryz.underlying23 Tryz.typeInfo65 rfl rfl rfl rfl rfl rfl rfl (by assumption) (by rfl) (by intro _; rfl) (by intro _ u hu; simp [fW] at hu; (repeat (first | (rcases hu with rfl | hu) | subst hu | rfl))) (by first | exact Nat.le_refl _ | omega) au10 (by first | omega | (unfold maxLen; omega)) (by simp only [Tryz.t65]; omega) (fun ad70 n70 cap70 m70 hn70 hs70 hin70 => ?_)
 refine LM.as rfl (LM.as rfl ?_)
 refine LM.nil (QM.sub (e' := [(2, _), (3, _)]) au9 (QM.then ?_))
 refine wpM.ret ?_
 refine QM.leave (.inl rfl) [.tmp 2, .tmp 3] Tryz.results58 rfl ?_
 intro w' hm' hc' hg'
 have hm : mayB xs = true := (by simpa using h1); have hil : i = xs.length := (by omega); subst hil; rw [List.take_length] at hl1; have hw : wordsO fv xs = (l1 ++ [mk3 [125]], 0) := (by unfold wordsO wordsF; rw [if_pos hm, hl1, hl0]); rw [hw]; exact ⟨hc', m70, ⟨ad70, n70, cap70, rfl, by rw [hn70]; simp, hs70⟩, hm'.pick _, fun p hp => Sl.ge hs70 p hp⟩
set_option maxRecDepth 100000 in
theorem rsame_spec {xs ys : List COp} {f1 f2 : Bool} {ad1 ad2 : Option Addr} {n1 n2 cap1 cap2 : Nat} (w : World) (hn1 : n1 = xs.length) (hl1 : Sr fO 3 xs (.slice ad1 n1 cap1) w) (hn2 : n2 = ys.length) (hl2 : Sr fO 3 ys (.slice ad2 n2 cap2) w) (hx : xs.length ≤ 1000000000) : Ret Tryz.prog 47 #[pV f1 ad1 n1 cap1, pV f2 ad2 n2 cap2] w (fun v w' => v = .bool (decide (f1 = f2) && decide (xs = ys)) ∧ Ext w w') := by
 refine Ret.enterM (l := [pV f1 ad1 n1 cap1, pV f2 ad2 n2 cap2]) Tryz.func47 rfl Tryz.ntmps47 rfl ([]) (no) (Mem.nil w) ?_
 refine wpM.seq (wpM.region ?_)
 refine LM.box rfl rfl (fun b2 hb2 => ?_)
 refine LM.box rfl rfl (fun b3 hb3 => ?_)
 refine LM.as rfl ?_
 refine LM.nil (QM.sub (e' := [(2, _), (3, _)]) au9 (QM.then ?_))
 refine wpM.seq ?_
 refine wpM.seq (wpM.region ?_)
 refine LM.val (ov_field Tryz.underlying87 rfl Tryz.sizeOf4 rfl (k := 0) rfl rfl) ?_
 refine LM.rd (om_ld Tryz.isAgg4 rfl rfl) ?_
 refine LM.val (ov_field Tryz.underlying87 rfl Tryz.sizeOf4 rfl (k := 0) rfl rfl) ?_
 refine LM.rd (om_ld Tryz.isAgg4 rfl rfl) ?_
 refine LM.val (ov_bneq Tryz.underlying4 rfl rfl) ?_
 refine LM.mv rfl ?_
 first | refine LM.splitD (t := 11) rfl (fun h1 => ?_) (fun h1 => ?_) | refine LM.splitB (t := 11) rfl (fun h1 => ?_) (fun h1 => ?_)
 ·
  refine LM.dr 11 rfl rfl rfl (LM.dr 11 rfl rfl rfl (LM.dr 11 rfl rfl rfl (LM.dr 11 rfl rfl rfl (LM.dr 11 rfl rfl rfl (LM.dr 11 rfl rfl rfl ?_)))))
  refine LM.dr 11 rfl rfl rfl ?_
  refine LM.val (ov_pickT rfl rfl) ?_
  refine LM.nil (QM.sub (e' := [(2, _), (3, _), (19, _)]) au9 (QM.then ?_))
  refine wpM.condT rfl ?_
  refine wpM.seq (wpM.region ?_)
  refine LM.as rfl ?_
  refine LM.nil (QM.sub (e' := [(4, _)]) ⟨rfl, trivial⟩ (QM.then ?_))
  refine wpM.ret ?_
  refine QM.then_ret ?_
  refine QM.leave (.inl rfl) [.tmp 4] Tryz.results47 rfl ?_
  intro w' hm' hc' hg'
  refine ⟨?_, hc'⟩; show Value.bool false = _; rw [decide_eq_false (show ¬ f1 = f2 by simpa using h1), Bool.false_and]
 refine LM.sp 11 rfl rfl rfl (LM.val (ov_field Tryz.underlying87 rfl Tryz.sizeOf85 rfl (k := 1) rfl rfl) (LM.sp 11 rfl rfl rfl ?_))
 refine LM.rd (om_ld Tryz.isAgg85 rfl rfl) ?_
 refine LM.sp 11 rfl rfl rfl ?_
 refine LM.val (ov_len Tryz.underlying85 rfl) ?_
 refine LM.sp 11 rfl rfl rfl (LM.val (ov_field Tryz.underlying87 rfl Tryz.sizeOf85 rfl (k := 1) rfl rfl) (LM.sp 11 rfl rfl rfl ?_))
 refine LM.rd (om_ld Tryz.isAgg85 rfl rfl) ?_
 refine LM.sp 11 rfl rfl rfl ?_
 refine LM.val (ov_len Tryz.underlying85 rfl) ?_
 refine LM.sp 11 rfl rfl rfl ?_
 refine LM.val (ov_neq rfl rfl) ?_
 refine LM.val (ov_pickF rfl rfl) ?_
 refine LM.nil (QM.sub (e' := [(2, _), (3, _), (19, _)]) au9 (QM.then ?_))
 refine wpM.condD rfl (fun h2 => ?_) (fun h2 => ?_)
 ·
  refine wpM.seq (wpM.region ?_)
  refine LM.as rfl ?_
  refine LM.nil (QM.sub (e' := [(4, _)]) ⟨rfl, trivial⟩ (QM.then ?_))
  refine wpM.ret ?_
  refine QM.then_ret ?_
  refine QM.leave (.inl rfl) [.tmp 4] Tryz.results47 rfl ?_
  intro w' hm' hc' hg'
  refine ⟨?_, hc'⟩; show Value.bool false = _; rw [decide_eq_false (show ¬ xs = ys by intro q; have := congrArg List.length q; omega), Bool.and_false]
 refine wpM.skip ?_
 refine QM.then ?_
 refine wpM.seq ?_
 refine wpM.seq (wpM.region ?_)
 refine LM.as rfl ?_
 refine LM.nil (QM.sub (e' := [(2, _), (3, _), (5, _)]) au9 (QM.then ?_))
 refine wpM.block ?_
 refine wpM.loopK0 (α := Nat) (fun i => [(5, .int .i64 (i : Nat))]) [(2, _), (3, _)] (fun i => pB b2 f1 ad1 n1 cap1 :: pB b3 f2 ad2 n2 cap2 :: []) (fun i => i ≤ xs.length ∧ xs.take i = ys.take i) (fun i => xs.length - i) (0) ⟨au2, rfl, rfl, trivial⟩ au1 ⟨Nat.zero_le _, rfl⟩ ?_
 rintro i ⟨hi, ha⟩
 change wpM _ _ _ _ _ _ _ (pB b2 f1 ad1 n1 cap1 :: pB b3 f2 ad2 n2 cap2 :: []) _ _ _
 refine wpM.seq ?_
 refine wpM.seq (wpM.region ?_)
 refine LM.mv rfl (LM.val (ov_field Tryz.underlying87 rfl Tryz.sizeOf85 rfl (k := 1) rfl rfl) ?_)
 refine LM.rd (om_ld Tryz.isAgg85 rfl rfl) ?_
 refine LM.val (ov_len Tryz.underlying85 rfl) ?_
 refine LM.val (ov_lss rfl rfl) ?_
 refine LM.nil (QM.sub (e' := [(2, _), (3, _), (5, _), (24, _)]) au9 (QM.then ?_))
 refine wpM.condD rfl (fun h3 => ?_) (fun h3 => ?_)
 ·
  refine wpM.skip ?_
  refine QM.then ?_
  refine wpM.seq ?_
  refine wpM.block ?_
  refine wpM.seq ?_
  refine wpM.draw [(0, 0), (1, 1), (2, 0), (3, 0), (4, 1), (5, 0), (6, 1), (7, 0), (8, 0), (9, 1), (10, 0)] (by kernel_rfl) (by kernel_rfl) ?_
  refine LD.val rfl rfl (ov_field Tryz.underlying87 rfl Tryz.sizeOf85 rfl (k := 1) rfl rfl) ?_
  refine LD.rd rfl rfl (om_ld Tryz.isAgg85 rfl rfl) ?_
  refine LD.val rfl rfl (ov_move rfl) ?_
  refine LD.val rfl rfl (ov_idxSN au6 Tryz.underlying85 Tryz.sizeOf135 rfl rfl (by omega)) ?_
  first | refine LD.rd rfl rfl (om_slA (by assumption) (by intro _; rfl) Tryz.isAgg135 Tryz.sizeOf135 rfl au3) ?_ | refine LD.rdC rfl rfl (om_srEA (by assumption) (by intro _; rfl) Tryz.isAgg135 Tryz.sizeOf135 rfl au3 id) ?_ | refine LD.rd rfl rfl (om_ldW Tryz.isAgg135 Tryz.sizeOf135 rfl rfl) ?_ | refine LD.rd rfl rfl (om_ldA Tryz.isAgg135 Tryz.sizeOf135 rfl (vs := [_, _, _]) rfl ⟨rfl, rfl, rfl, trivial⟩) ?_
  refine LD.val rfl rfl (ov_field Tryz.underlying87 rfl Tryz.sizeOf85 rfl (k := 1) rfl rfl) ?_
  refine LD.rd rfl rfl (om_ld Tryz.isAgg85 rfl rfl) ?_
  refine LD.val rfl rfl (ov_move rfl) ?_
  refine LD.val rfl rfl (ov_idxSN au6 Tryz.underlying85 Tryz.sizeOf135 rfl rfl (by omega)) ?_
  first | refine LD.rd rfl rfl (om_slA (by assumption) (by intro _; rfl) Tryz.isAgg135 Tryz.sizeOf135 rfl au3) ?_ | refine LD.rdC rfl rfl (om_srEA (by assumption) (by intro _; rfl) Tryz.isAgg135 Tryz.sizeOf135 rfl au3 id) ?_ | refine LD.rd rfl rfl (om_ldW Tryz.isAgg135 Tryz.sizeOf135 rfl rfl) ?_ | refine LD.rd rfl rfl (om_ldA Tryz.isAgg135 Tryz.sizeOf135 rfl (vs := [_, _, _]) rfl ⟨rfl, rfl, rfl, trivial⟩) ?_
  refine LD.val rfl rfl (ov_aneq Tryz.underlying135 (by kernel_rfl) (by kernel_rfl) (by decide) rfl rfl (by rfl) ⟨(by first | rfl | trivial), (by first | rfl | trivial), (by first | rfl | trivial), trivial⟩) ?_
  refine LD.nil ?_
  refine QM.sub (e' := [(2, _), (3, _), (5, _), (37, _)]) au9 (QM.then ?_)
  first | refine wpM.condD rfl (fun h4 => ?_) (fun h4 => ?_) | refine wpM.condB rfl (fun h4 => ?_) (fun h4 => ?_)
  ·
   refine wpM.seq (wpM.region ?_)
   refine LM.as rfl ?_
   refine LM.nil (QM.sub (e' := [(4, _)]) ⟨rfl, trivial⟩ (QM.then ?_))
   refine wpM.ret ?_
   refine QM.block_ret ?_
   refine QM.then_ret ?_
   refine QM.then_ret ?_
   refine QM.block_ret ?_
   refine QM.then_ret ?_
   refine QM.leave (.inl rfl) [.tmp 4] Tryz.results47 rfl ?_
   intro w' hm' hc' hg'
   refine ⟨?_, hc'⟩; show Value.bool false = _; rw [decide_eq_false (show ¬ xs = ys by intro q; rw [fO_veqs, q] at h4; simp at h4), Bool.and_false]
  refine wpM.skip ?_
  refine QM.block_normal ?_
  refine QM.then (wpM.region ?_)
  refine LM.mv rfl ?_
  refine LM.val (ov_add64 rfl rfl (by omega)) ?_
  refine LM.as rfl ?_
  refine LM.nil (QM.sub (e' := [(2, _), (3, _), (5, _)]) au9 ?_)
  refine QM.againK (i + 1) ⟨au2, rfl, rfl, trivial⟩ au1 (fun _ h => h) ?_ ?_
  · exact ⟨by omega, eq_at (by omega) (by omega) ha (by rw [fO_veqs] at h4; simpa using h4)⟩
  · omega
 refine wpM.exit ?_
 refine QM.then_exit ?_
 refine QM.then_exit ?_
 refine QM.block_hit ?_
 refine QM.then (wpM.seq (wpM.region ?_))
 refine LM.as rfl ?_
 refine LM.nil (QM.sub (e' := [(4, _)]) ⟨rfl, trivial⟩ (QM.then ?_))
 refine wpM.ret ?_
 refine QM.leave (.inl rfl) [.tmp 4] Tryz.results47 rfl ?_
 intro w' hm' hc' hg'
 refine ⟨?_, hc'⟩; show Value.bool true = _; rw [decide_eq_true (show f1 = f2 by simpa using h1), Bool.true_and, decide_eq_true]; have e1 : xs.take i = xs := List.take_of_length_le (by omega); have e2 : ys.take i = ys := List.take_of_length_le (by omega); rw [← e1, ← e2, ha]
end Go.Eng
namespace Go.Eng
open Go Go.Proofs Go.RowKit
theorem drop_len {α : Type} {ws l : List α} {p : Nat} (h : ws.drop p = l) {j : Nat} (hj : j < l.length) : p + j < ws.length := by
  have := congrArg List.length h; rw [List.length_drop] at this; omega
theorem drop_getD {α : Type} {ws l : List α} {p : Nat} (d : α) (h : ws.drop p = l) (j : Nat) : ws.getD (p + j) d = l.getD j d := by
  rw [← h, List.getD_eq_getElem?_getD, List.getD_eq_getElem?_getD, List.getElem?_drop]
theorem drop_add {α : Type} {ws a b : List α} {p : Nat} (h : ws.drop p = a ++ b) : ws.drop (p + a.length) = b := by
  rw [← List.drop_drop, h, List.drop_left]
theorem isR_of {ws : List Wrd} {i : Nat} {k : Int} {t : List UInt8} {x : Wrd} (hi : i < ws.length) (hx : ws.getD i default = x) : isR ws i k t = (decide (x.k = k) && decide (x.t = t)) := by
  unfold isR; rw [hx, decide_eq_true hi, Bool.true_and]
theorem kindT_nm {k : Int} (h : 1 ≤ k ∧ k ≤ 11) : kindT (nmT k) = k := by
  have : k = 1 ∨ k = 2 ∨ k = 3 ∨ k = 4 ∨ k = 5 ∨ k = 6 ∨ k = 7 ∨ k = 8 ∨ k = 9 ∨ k = 10 ∨ k = 11 := by omega
  rcases this with rfl | rfl | rfl | rfl | rfl | rfl | rfl | rfl | rfl | rfl | rfl <;> decide +kernel
theorem kindR_of {ws : List Wrd} {i : Nat} {x : Wrd} (hi : i < ws.length) (hx : ws.getD i default = x) (hk : x.k = 1) : kindR ws i = kindT x.t := by
  unfold kindR; rw [hx, decide_eq_true hi, decide_eq_true hk]; rfl
theorem right_inv {o : COp} (h : rightB o = true) : (1 ≤ o.k ∧ o.k ≤ 11) ∧ hasB (loA o.k) (hiA o.k) o.a = true ∧ hasB (loB o.k) (hiB o.k) o.b = true := by
  unfold rightB kindB at h; simp only [Bool.and_eq_true, decide_eq_true_eq] at h; exact ⟨h.1.1, h.1.2, h.2⟩
theorem hasB_no {n : Int} {lo hi : Int} (h : hasB lo hi n = true) (hl : lo = -1) : n = 0 := by
  unfold hasB at h; rw [if_pos hl] at h; simpa using h
theorem opR_words {ws tl : List Wrd} {p ahead : Nat} {o : COp} (h : ws.drop p = opW o ++ tl) (hr : rightB o = true) (ha : ahead < 12) : opR ws p ahead = (p + (opW o).length, 0, o) := by
  obtain ⟨hk, h1, h2⟩ := right_inv hr
  obtain ⟨k, a, b⟩ := o
  simp only at hk h1 h2
  have g := fun j => drop_getD (default : Wrd) h j
  have l := fun j hj => drop_len h (j := j) hj
  have g0 : ws.getD p default = ⟨1, nmT k, 0, 0⟩ := g 0
  have l0 : p < ws.length := l 0 (by unfold opW; simp)
  have hK : kindR ws p = k := by rw [kindR_of l0 g0 rfl]; exact kindT_nm hk
  have sep : (∃ m n, opA ws p = (p + m, 0, a) ∧ opB ws p = (p + n, 0, b) ∧ n + 1 = (opW ⟨k, a, b⟩).length ∧ (opW ⟨k, a, b⟩ ++ tl).getD n default = mk3 [59]) → opR ws p ahead = (p + (opW ⟨k, a, b⟩).length, 0, ⟨k, a, b⟩) := by
    rintro ⟨m, n, eA, eB, hn, hm⟩
    have hs : isR ws (p + n) 3 [59] = true := by
      rw [isR_of (l n (by rw [List.length_append]; omega)) ((g n).trans hm)]; rfl
    rw [opR_ok (by rw [hK]; omega) ha (by rw [eA]) eB hs, hK, ← hn]; rfl
  apply sep
  unfold opA
  rw [hK]
  by_cases hA : loA k = -1
  · have ea := hasB_no h1 hA
    subst ea
    by_cases hB : loB k = -1
    · have eb := hasB_no h2 hB
      subst eb
      have e : opW ⟨k, 0, 0⟩ = [⟨1, nmT k, 0, 0⟩, mk3 [59]] := by unfold opW; rw [if_neg (by simpa using hA), if_neg (by simpa using hB)]; rfl
      refine ⟨1, 1, by rw [nR1 hA], ?_, by rw [e]; rfl, by rw [e]; rfl⟩
      rw [opB_of (j := p + 1) (a := 0) (by unfold opA; rw [hK, nR1 hA]), hK, nR1 hB]
    · have e : opW ⟨k, 0, b⟩ = [⟨1, nmT k, 0, 0⟩, ⟨2, [], b, 0⟩, mk3 [59]] := by unfold opW; rw [if_neg (by simpa using hA), if_pos (by simpa using hB)]; rfl
      have g1 : ws.getD (p + 1) default = ⟨2, [], b, 0⟩ := (g 1).trans (by rw [e]; rfl)
      have l1 : p + 1 < ws.length := l 1 (by rw [e]; simp)
      refine ⟨1, 2, by rw [nR1 hA], ?_, by rw [e]; rfl, by rw [e]; rfl⟩
      rw [opB_of (j := p + 1) (a := 0) (by unfold opA; rw [hK, nR1 hA]), hK, nR4 hB l1 (by rw [g1]) (by rw [g1]; unfold hasB at h2; rw [if_neg hB] at h2; simpa using h2), g1]
  · by_cases hB : loB k = -1
    · have eb := hasB_no h2 hB
      subst eb
      have e : opW ⟨k, a, 0⟩ = [⟨1, nmT k, 0, 0⟩, ⟨2, [], a, 0⟩, mk3 [59]] := by unfold opW; rw [if_pos (by simpa using hA), if_neg (by simpa using hB)]; rfl
      have g1 : ws.getD (p + 1) default = ⟨2, [], a, 0⟩ := (g 1).trans (by rw [e]; rfl)
      have l1 : p + 1 < ws.length := l 1 (by rw [e]; simp)
      have hA4 := nR4 hA l1 (by rw [g1]) (by rw [g1]; unfold hasB at h1; rw [if_neg hA] at h1; simpa using h1)
      rw [g1] at hA4
      refine ⟨2, 2, hA4, ?_, by rw [e]; rfl, by rw [e]; rfl⟩
      rw [opB_of (j := p + 2) (a := a) (by unfold opA; rw [hK]; exact hA4), hK, nR1 hB]
    · have e : opW ⟨k, a, b⟩ = [⟨1, nmT k, 0, 0⟩, ⟨2, [], a, 0⟩, ⟨2, [], b, 0⟩, mk3 [59]] := by unfold opW; rw [if_pos (by simpa using hA), if_pos (by simpa using hB)]; rfl
      have g1 : ws.getD (p + 1) default = ⟨2, [], a, 0⟩ := (g 1).trans (by rw [e]; rfl)
      have l1 : p + 1 < ws.length := l 1 (by rw [e]; simp)
      have g2 : ws.getD (p + 2) default = ⟨2, [], b, 0⟩ := (g 2).trans (by rw [e]; rfl)
      have l2 : p + 2 < ws.length := l 2 (by rw [e]; simp)
      have hA4 := nR4 hA l1 (by rw [g1]) (by rw [g1]; unfold hasB at h1; rw [if_neg hA] at h1; simpa using h1)
      rw [g1] at hA4
      refine ⟨2, 3, hA4, ?_, by rw [e]; rfl, by rw [e]; rfl⟩
      rw [opB_of (j := p + 2) (a := a) (by unfold opA; rw [hK]; exact hA4), hK, nR4 hB l2 (by rw [g2]) (by rw [g2]; unfold hasB at h2; rw [if_neg hB] at h2; simpa using h2), g2]
theorem opW_ne (o : COp) : ∃ r, opW o = ⟨1, nmT o.k, 0, 0⟩ :: r := ⟨_, rfl⟩
theorem loop_words {ws tl : List Wrd} : ∀ (ys ops : List COp) (p : Nat), ws.drop p = ys.flatMap opW ++ (mk3 [125] :: tl) → ys.all rightB = true → ops.length + ys.length ≤ 12 → 0 < ops.length + ys.length → loopR ws p ops = (ops ++ ys, ((p + (ys.flatMap opW).length + 1 : Nat) : Int), 0)
  | [], ops, p, h, _, _, h0 => by
    have hs : isR ws p 3 [125] = true := by
      have e : ws.getD p default = mk3 [125] := drop_getD (default : Wrd) h 0
      have l : p < ws.length := drop_len h (j := 0) (by simp)
      rw [isR_of l e]; rfl
    rw [loopR_done hs, if_neg (by simp at h0; omega)]; simp
  | o :: ys, ops, p, h, hr, hl, _ => by
    rw [List.all_cons, Bool.and_eq_true] at hr
    rw [List.length_cons] at hl
    have h1 : ws.drop p = opW o ++ (ys.flatMap opW ++ (mk3 [125] :: tl)) := by rw [h, List.flatMap_cons, List.append_assoc]
    have hop := opR_words h1 hr.1 (show ops.length < 12 by omega)
    have hn : isR ws p 3 [125] = false := by
      obtain ⟨r, hr⟩ := opW_ne o
      have e : ws.getD p default = ⟨1, nmT o.k, 0, 0⟩ := (drop_getD (default : Wrd) h1 0).trans (by rw [hr]; rfl)
      have l : p < ws.length := drop_len h1 (j := 0) (by rw [hr]; simp)
      rw [isR_of l e]; rfl
    rw [loopR_next hn (by rw [hop]), hop]
    simp only
    rw [loop_words ys (ops ++ [o]) (p + (opW o).length) (drop_add h1) hr.2 (by simp; omega) (by simp; omega)]
    simp [Nat.add_assoc]
theorem words_cons (fv : Bool) (xs : List COp) (tl : List Wrd) : wordsF fv xs ++ tl = ⟨1, wProg, 0, 0⟩ :: ((if fv then [⟨1, wForever, 0, 0⟩] else []) ++ (mk3 [123] :: (xs.flatMap opW ++ (mk3 [125] :: tl)))) := by
  unfold wordsF; cases fv <;> simp
theorem mayB_inv {xs : List COp} (h : mayB xs = true) : 0 < xs.length ∧ xs.length ≤ 12 ∧ xs.all rightB = true := by
  unfold mayB at h; simp only [Bool.and_eq_true, decide_eq_true_eq] at h; exact ⟨h.1.1, h.1.2, h.2⟩
theorem parse_words {ws tl : List Wrd} {p : Nat} {fv : Bool} {xs : List COp} (h : ws.drop p = wordsF fv xs ++ tl) (hm : mayB xs = true) : parseO ws (p : Int) = (fv, xs, ((p + (wordsF fv xs).length : Nat) : Int), 0) := by
  obtain ⟨m1, m2, m3⟩ := mayB_inv hm
  have hw := words_cons fv xs tl
  rw [hw] at h
  have l0 : p < ws.length := drop_len h (j := 0) (by simp)
  have g0 : ws.getD p default = ⟨1, wProg, 0, 0⟩ := drop_getD default h 0
  have hp : isR ws p 1 wProg = true := by rw [isR_of l0 g0]; rfl
  rw [parse_nat (Nat.le_of_lt l0)]
  cases fv with
  | true =>
    have g1 : ws.getD (p + 1) default = ⟨1, wForever, 0, 0⟩ := drop_getD default h 1
    have l1 : p + 1 < ws.length := drop_len h (j := 1) (by simp)
    have hf : isR ws (p + 1) 1 wForever = true := by rw [isR_of l1 g1]; rfl
    have hH : headR ws p = (true, p + 2) := by unfold headR; rw [hf]; rfl
    have g2 : ws.getD (p + 2) default = mk3 [123] := drop_getD default h 2
    have l2 : p + 2 < ws.length := drop_len h (j := 2) (by simp)
    have hb : isR ws (headR ws p).2 3 [123] = true := by rw [hH]; exact (isR_of l2 g2).trans rfl
    have hd : ws.drop (p + 3) = xs.flatMap opW ++ (mk3 [125] :: tl) := by rw [← List.drop_drop, h]; rfl
    rw [← body_c hp hb, hH]
    rw [loop_words xs [] (p + 2 + 1) hd m3 (by simpa using m2) (by simpa using m1)]
    simp [wordsF]; omega
  | false =>
    have g1 : ws.getD (p + 1) default = mk3 [123] := drop_getD default h 1
    have l1 : p + 1 < ws.length := drop_len h (j := 1) (by simp)
    have hf : isR ws (p + 1) 1 wForever = false := by rw [isR_of l1 g1]; rfl
    have hH : headR ws p = (false, p + 1) := by unfold headR; rw [hf]; rfl
    have hb : isR ws (headR ws p).2 3 [123] = true := by rw [hH]; exact (isR_of l1 g1).trans rfl
    have hd : ws.drop (p + 2) = xs.flatMap opW ++ (mk3 [125] :: tl) := by rw [← List.drop_drop, h]; rfl
    rw [← body_c hp hb, hH]
    rw [loop_words xs [] (p + 1 + 1) hd m3 (by simpa using m2) (by simpa using m1)]
    simp [wordsF]; omega
/-! a program's text -/
theorem num_ok {n : Int} (h : 0 ≤ n ∧ n ≤ 999999999) : (textO ⟨2, [], n, 0⟩).2 = 0 := by
  have : isNum ⟨2, [], n, 0⟩ = true := by unfold isNum; simp [h.1, h.2]
  unfold textO; rw [this]; rfl
theorem nm_ok {k : Int} (h : 1 ≤ k ∧ k ≤ 11) : (textO ⟨1, nmT k, 0, 0⟩).2 = 0 := by
  have : k = 1 ∨ k = 2 ∨ k = 3 ∨ k = 4 ∨ k = 5 ∨ k = 6 ∨ k = 7 ∨ k = 8 ∨ k = 9 ∨ k = 10 ∨ k = 11 := by omega
  rcases this with rfl | rfl | rfl | rfl | rfl | rfl | rfl | rfl | rfl | rfl | rfl <;> decide +kernel
theorem loA_rng {k : Int} (h : loA k ≠ -1) : 0 ≤ loA k ∧ hiA k ≤ 64 := by
  unfold loA at h ⊢; unfold hiA; (repeat' split) <;> first | omega | (exfalso; simp_all; done) | (constructor <;> omega)
theorem loB_rng {k : Int} (h : loB k ≠ -1) : 0 ≤ loB k ∧ hiB k ≤ 64 := by
  unfold loB at h ⊢; unfold hiB; (repeat' split) <;> first | omega | (exfalso; simp_all; done) | (constructor <;> omega)
theorem opW_ok {o : COp} (hr : rightB o = true) : ∀ x ∈ opW o, (textO x).2 = 0 := by
  obtain ⟨hk, h1, h2⟩ := right_inv hr
  intro x hx
  unfold opW at hx
  simp only [List.mem_cons, List.mem_append, List.not_mem_nil, or_false] at hx
  rcases hx with rfl | hx | hx | rfl
  · exact nm_ok hk
  · split at hx
    · rename_i q
      simp at hx; subst hx
      have := loA_rng q
      unfold hasB at h1; rw [if_neg (by simpa using q)] at h1; simp only [Bool.and_eq_true, decide_eq_true_eq] at h1
      exact num_ok (by omega)
    · cases hx
  · split at hx
    · rename_i q
      simp at hx; subst hx
      have := loB_rng q
      unfold hasB at h2; rw [if_neg (by simpa using q)] at h2; simp only [Bool.and_eq_true, decide_eq_true_eq] at h2
      exact num_ok (by omega)
    · cases hx
  · decide +kernel
theorem words_ok {fv : Bool} {xs : List COp} (hm : mayB xs = true) : ∀ x ∈ wordsF fv xs, (textO x).2 = 0 := by
  obtain ⟨m1, m2, m3⟩ := mayB_inv hm
  intro x hx
  unfold wordsF at hx
  simp only [List.mem_cons, List.mem_append, List.not_mem_nil, or_false, List.mem_flatMap] at hx
  rcases hx with (((rfl | hx) | rfl) | ⟨o, ho, hx⟩) | rfl
  · decide +kernel
  · cases fv
    · simp at hx
    · simp at hx; subst hx; decide +kernel
  · decide +kernel
  · exact opW_ok (List.all_eq_true.1 m3 o ho) x hx
  · decide +kernel
end Go.Eng
namespace Go.Eng
open Go Go.RowKit
deriving instance DecidableEq for CLk
structure PgC where
  fv : Bool
  xs : List COp
deriving DecidableEq
instance : Inhabited PgC := ⟨⟨false, []⟩⟩
structure StC where
  cr : Int
  gr : Int
  gs : List Int
  ls : List CLk
  ps : List PgC
deriving DecidableEq
instance : Inhabited StC := ⟨⟨0, 0, [], [], []⟩⟩
abbrev wCores : List UInt8 := [99, 111, 114, 101, 115]
abbrev wGrain : List UInt8 := [103, 114, 97, 105, 110]
abbrev wGroup : List UInt8 := [103, 114, 111, 117, 112]
abbrev wLock : List UInt8 := [108, 111, 99, 107]
abbrev wShared : List UInt8 := [115, 104, 97, 114, 101, 100]
abbrev wSlice : List UInt8 := [115, 108, 105, 99, 101]
abbrev wCrit : List UInt8 := [99, 114, 105, 116]
abbrev wRead : List UInt8 := [114, 101, 97, 100]
abbrev wWrite : List UInt8 := [119, 114, 105, 116, 101]
def fldE (ws : List Wrd) (i : Nat) (e : Int) (nm : List UInt8) (most : Int) : Nat × Int × Int := numE ws (needE ws i e 1 nm).1 (needE ws i e 1 nm).2 1 most
def linE (ws : List Wrd) (i : Nat) (e : Int) (nm : List UInt8) (most : Int) : Nat × Int × Int := ((needE ws (fldE ws i e nm most).1 (fldE ws i e nm most).2.1 3 [59]).1, (needE ws (fldE ws i e nm most).1 (fldE ws i e nm most).2.1 3 [59]).2, (fldE ws i e nm most).2.2)
def lkA (ws : List Wrd) (i : Nat) (e : Int) : Nat × Int × Int := fldE ws i e wSlice 16
def lkB (ws : List Wrd) (i : Nat) (e : Int) : Nat × Int × Int := fldE ws (lkA ws i e).1 (lkA ws i e).2.1 wCrit 32
def lkC (ws : List Wrd) (sh : Bool) (i : Nat) (e : Int) : Nat × Int × Int := if sh then fldE ws (lkB ws i e).1 (lkB ws i e).2.1 wRead 16 else ((lkB ws i e).1, (lkB ws i e).2.1, 0)
def lkD (ws : List Wrd) (sh : Bool) (i : Nat) (e : Int) : Nat × Int × Int := if sh then fldE ws (lkC ws sh i e).1 (lkC ws sh i e).2.1 wWrite 16 else ((lkC ws sh i e).1, (lkC ws sh i e).2.1, 0)
def lckE (ws : List Wrd) (sh : Bool) (i : Nat) (e : Int) : Nat × Int × CLk :=
  ((needE ws (lkD ws sh i e).1 (lkD ws sh i e).2.1 3 [59]).1, (needE ws (lkD ws sh i e).1 (lkD ws sh i e).2.1 3 [59]).2, ⟨sh, (lkA ws i e).2.2, (lkB ws i e).2.2, (lkC ws sh i e).2.2, (lkD ws sh i e).2.2⟩)
def gpF (ws : List Wrd) : Nat → Nat → Int → List Int → List Int × Nat × Int
  | 0, i, e, gs => if isE ws i e 1 wGroup then (gs, i, 6) else (gs, i, e)
  | f + 1, i, e, gs => if isE ws i e 1 wGroup then gpF ws f (linE ws i e wGroup 16).1 (linE ws i e wGroup 16).2.1 (gs ++ [(linE ws i e wGroup 16).2.2]) else (gs, i, e)
def gpL (ws : List Wrd) (i : Nat) (e : Int) (gs : List Int) : List Int × Nat × Int := gpF ws (4 - gs.length) i e gs
def gpO (ws : List Wrd) (i : Nat) (e : Int) : List Int × Nat × Int := gpL ws (linE ws i e wGroup 16).1 (linE ws i e wGroup 16).2.1 [(linE ws i e wGroup 16).2.2]
def isL (ws : List Wrd) (i : Nat) (e : Int) : Bool := isE ws i e 1 wLock || isE ws i e 1 wShared
def lkF (ws : List Wrd) : Nat → Nat → Int → List CLk → List CLk × Nat × Int
  | 0, i, e, ls => if isL ws i e then (ls, i, 6) else (ls, i, e)
  | f + 1, i, e, ls => if isL ws i e then lkF ws f (lckE ws (isE ws i e 1 wShared) (i + 1) e).1 (lckE ws (isE ws i e 1 wShared) (i + 1) e).2.1 (ls ++ [(lckE ws (isE ws i e 1 wShared) (i + 1) e).2.2]) else (ls, i, e)
def lkL (ws : List Wrd) (i : Nat) (e : Int) (ls : List CLk) : List CLk × Nat × Int := lkF ws (8 - ls.length) i e ls
def isP (ws : List Wrd) (i : Nat) (e : Int) (ps : List PgC) : Bool := decide (e = 0) && (decide (ps.length = 0) || isE ws i e 1 wProg)
def prC (r : Bool × List COp × Int × Int) : PgC := ⟨r.1, r.2.1⟩
def pgF (ws : List Wrd) : Nat → Nat → Int → List PgC → List Int → List PgC × List Int × Nat × Int
  | 0, i, e, ps, pl => if isP ws i e ps then (ps, pl, i, 6) else (ps, pl, i, e)
  | f + 1, i, e, ps, pl => if isP ws i e ps then pgF ws f (parseO ws (i : Int)).2.2.1.toNat (parseO ws (i : Int)).2.2.2 (ps ++ [prC (parseO ws (i : Int))]) (pl ++ [(i : Int)]) else (ps, pl, i, e)
def pgL (ws : List Wrd) (i : Nat) (e : Int) (ps : List PgC) (pl : List Int) : List PgC × List Int × Nat × Int := pgF ws (8 - ps.length) i e ps pl
def misB (ls : List CLk) (n : Nat) (p : PgC) : Bool := decide ((ckO p.fv p.xs ls (n : Int)).2 ≠ 0)
def misI (ls : List CLk) (ps : List PgC) : Int := fixI (misB ls ps.length) ps
def misE (ls : List CLk) (ps : List PgC) (j : Int) : Int := if j < 0 then 0 else (ckO (ps.getD j.toNat default).fv (ps.getD j.toNat default).xs ls (ps.length : Int)).2
def sA (ws : List Wrd) (i : Nat) : Nat × Int × Int := linE ws i 0 wCores 4
def sB2 (ws : List Wrd) (i : Nat) : Nat × Int × Int := linE ws (sA ws i).1 (sA ws i).2.1 wGrain 8
def sG (ws : List Wrd) (i : Nat) : List Int × Nat × Int := gpO ws (sB2 ws i).1 (sB2 ws i).2.1
def sL (ws : List Wrd) (i : Nat) : List CLk × Nat × Int := lkL ws (sG ws i).2.1 (sG ws i).2.2 []
def sP (ws : List Wrd) (i : Nat) : List PgC × List Int × Nat × Int := pgL ws (sL ws i).2.1 (sL ws i).2.2 [] []
def stpR (ws : List Wrd) (i : Nat) : StC × Int × Int :=
  if (sP ws i).2.2.2 ≠ 0 then (default, ((sP ws i).2.2.1 : Int), (sP ws i).2.2.2)
  else if 0 ≤ misI (sL ws i).1 (sP ws i).1 then (default, (sP ws i).2.1.getD (misI (sL ws i).1 (sP ws i).1).toNat 0, misE (sL ws i).1 (sP ws i).1 (misI (sL ws i).1 (sP ws i).1))
  else (⟨(sA ws i).2.2, (sB2 ws i).2.2, (sG ws i).1, (sL ws i).1, (sP ws i).1⟩, ((sP ws i).2.2.1 : Int), 0)
def setO (ws : List Wrd) (p : Int) : StC × Int × Int := if p < 0 ∨ (ws.length : Int) < p then (default, 0, 5) else stpR ws p.toNat
theorem set_nat {ws : List Wrd} {i : Nat} (h : i ≤ ws.length) : setO ws (i : Int) = stpR ws i := by
  unfold setO; rw [if_neg (by omega), Int.toNat_natCast]
/-! where they stand -/
theorem need_le {ws : List Wrd} {i : Nat} {e k : Int} {t : List UInt8} (h : i ≤ ws.length) : (needE ws i e k t).1 ≤ ws.length := by
  unfold needE; split
  · rename_i q; exact (isE_lt q).1
  · split <;> exact h
theorem fld_le {ws : List Wrd} {i : Nat} {e : Int} {nm : List UInt8} {m : Int} (h : i ≤ ws.length) : (fldE ws i e nm m).1 ≤ ws.length := by
  have h1 := need_le (ws := ws) (i := i) (e := e) (k := 1) (t := nm) h
  unfold fldE numE; split
  · exact h1
  · exact (numR_le h1).2
theorem lin_le {ws : List Wrd} {i : Nat} {e : Int} {nm : List UInt8} {m : Int} (h : i ≤ ws.length) : (linE ws i e nm m).1 ≤ ws.length := need_le (fld_le h)
theorem lkA_le {ws : List Wrd} {i : Nat} {e : Int} (h : i ≤ ws.length) : (lkA ws i e).1 ≤ ws.length := fld_le h
theorem lkB_le {ws : List Wrd} {i : Nat} {e : Int} (h : i ≤ ws.length) : (lkB ws i e).1 ≤ ws.length := fld_le (lkA_le h)
theorem lkC_le {ws : List Wrd} {i : Nat} {e : Int} {sh : Bool} (h : i ≤ ws.length) : (lkC ws sh i e).1 ≤ ws.length := by
  unfold lkC; split
  · exact fld_le (lkB_le h)
  · exact lkB_le h
theorem lkD_le {ws : List Wrd} {i : Nat} {e : Int} {sh : Bool} (h : i ≤ ws.length) : (lkD ws sh i e).1 ≤ ws.length := by
  unfold lkD; split
  · exact fld_le (lkC_le h)
  · exact lkC_le h
theorem lck_le {ws : List Wrd} {i : Nat} {e : Int} {sh : Bool} (h : i ≤ ws.length) : (lckE ws sh i e).1 ≤ ws.length := need_le (lkD_le h)
/-! a state with an error stays -/
/-! steps of the loops -/
theorem gpL_stop {ws : List Wrd} {i : Nat} {e : Int} {gs : List Int} (h : isE ws i e 1 wGroup = false) : gpL ws i e gs = (gs, i, e) := by
  unfold gpL; cases 4 - gs.length <;> (unfold gpF; rw [if_neg (by rw [h]; simp)])
theorem gpL_full {ws : List Wrd} {i : Nat} {e : Int} {gs : List Int} (h : isE ws i e 1 wGroup = true) (hl : 4 ≤ gs.length) : gpL ws i e gs = (gs, i, 6) := by
  unfold gpL; rw [show 4 - gs.length = 0 by omega]; unfold gpF; rw [if_pos h]
theorem gpL_next {ws : List Wrd} {i : Nat} {e : Int} {gs : List Int} (h : isE ws i e 1 wGroup = true) (hl : gs.length < 4) : gpL ws i e gs = gpL ws (linE ws i e wGroup 16).1 (linE ws i e wGroup 16).2.1 (gs ++ [(linE ws i e wGroup 16).2.2]) := by
  unfold gpL
  obtain ⟨f, hf⟩ : ∃ f, 4 - gs.length = f + 1 := ⟨4 - gs.length - 1, by omega⟩
  rw [hf, gpF, if_pos h, List.length_append, List.length_singleton, show 4 - (gs.length + 1) = f by omega]
theorem lkL_stop {ws : List Wrd} {i : Nat} {e : Int} {ls : List CLk} (h : isL ws i e = false) : lkL ws i e ls = (ls, i, e) := by
  unfold lkL; cases 8 - ls.length <;> (unfold lkF; rw [if_neg (by rw [h]; simp)])
theorem lkL_full {ws : List Wrd} {i : Nat} {e : Int} {ls : List CLk} (h : isL ws i e = true) (hl : 8 ≤ ls.length) : lkL ws i e ls = (ls, i, 6) := by
  unfold lkL; rw [show 8 - ls.length = 0 by omega]; unfold lkF; rw [if_pos h]
theorem lkL_next {ws : List Wrd} {i : Nat} {e : Int} {ls : List CLk} (h : isL ws i e = true) (hl : ls.length < 8) : lkL ws i e ls = lkL ws (lckE ws (isE ws i e 1 wShared) (i + 1) e).1 (lckE ws (isE ws i e 1 wShared) (i + 1) e).2.1 (ls ++ [(lckE ws (isE ws i e 1 wShared) (i + 1) e).2.2]) := by
  unfold lkL
  obtain ⟨f, hf⟩ : ∃ f, 8 - ls.length = f + 1 := ⟨8 - ls.length - 1, by omega⟩
  rw [hf, lkF, if_pos h, List.length_append, List.length_singleton, show 8 - (ls.length + 1) = f by omega]
theorem pgL_stop {ws : List Wrd} {i : Nat} {e : Int} {ps : List PgC} {pl : List Int} (h : isP ws i e ps = false) : pgL ws i e ps pl = (ps, pl, i, e) := by
  unfold pgL; cases 8 - ps.length <;> (unfold pgF; rw [if_neg (by rw [h]; simp)])
theorem pgL_full {ws : List Wrd} {i : Nat} {e : Int} {ps : List PgC} {pl : List Int} (h : isP ws i e ps = true) (hl : 8 ≤ ps.length) : pgL ws i e ps pl = (ps, pl, i, 6) := by
  unfold pgL; rw [show 8 - ps.length = 0 by omega]; unfold pgF; rw [if_pos h]
theorem pgL_next {ws : List Wrd} {i : Nat} {e : Int} {ps : List PgC} {pl : List Int} (h : isP ws i e ps = true) (hl : ps.length < 8) : pgL ws i e ps pl = pgL ws (parseO ws (i : Int)).2.2.1.toNat (parseO ws (i : Int)).2.2.2 (ps ++ [prC (parseO ws (i : Int))]) (pl ++ [(i : Int)]) := by
  unfold pgL
  obtain ⟨f, hf⟩ : ∃ f, 8 - ps.length = f + 1 := ⟨8 - ps.length - 1, by omega⟩
  rw [hf, pgF, if_pos h, List.length_append, List.length_singleton, show 8 - (ps.length + 1) = f by omega]
/-! which may be -/
def winB (n most : Int) : Bool := decide (1 ≤ n) && decide (n ≤ most)
def lokB (x : CLk) : Bool := (if x.sh then winB x.rd 16 && winB x.wr 16 else decide (x.rd = 0) && decide (x.wr = 0)) && winB x.sl 16 && winB x.cr 32
def mayS (s : StC) : Bool := winB s.cr 4 && winB s.gr 8 && (winB (s.gs.length : Int) 4 && s.gs.all (fun n => winB n 16)) && (decide (s.ls.length ≤ 8) && s.ls.all lokB) && winB (s.ps.length : Int) 8 && !s.ps.any (misB s.ls s.ps.length)
/-! its words -/
def nmE (t : List UInt8) : Wrd := ⟨1, t, 0, 0⟩
def noE (n : Int) : Wrd := ⟨2, [], n, 0⟩
def fldW (t : List UInt8) (n : Int) : List Wrd := [nmE t, noE n]
def linW (t : List UInt8) (n : Int) : List Wrd := fldW t n ++ [mk3 [59]]
def lckW (x : CLk) : List Wrd := nmE (if x.sh then wShared else wLock) :: (fldW wSlice x.sl ++ fldW wCrit x.cr ++ (if x.sh then fldW wRead x.rd ++ fldW wWrite x.wr else []) ++ [mk3 [59]])
def setW (s : StC) : List Wrd := linW wCores s.cr ++ linW wGrain s.gr ++ s.gs.flatMap (linW wGroup) ++ s.ls.flatMap lckW ++ s.ps.flatMap (fun p => wordsF p.fv p.xs)
def wordsS (s : StC) : List Wrd × Int := if mayS s then (setW s, 0) else ([], 1)
end Go.Eng
namespace Go.Eng
open Go Go.RowKit
theorem fix_ge {α : Type} {p : α → Bool} {xs : List α} (d : α) (h : 0 ≤ fixI p xs) : (fixI p xs).toNat < xs.length ∧ p (xs.getD (fixI p xs).toNat d) = true := by
  unfold fixI at h ⊢
  split at h
  · rename_i q
    rw [if_pos q, Int.toNat_natCast]
    have hlt : xs.findIdx p < xs.length := by
      obtain ⟨x, hx, hp⟩ := List.any_eq_true.1 q
      exact List.findIdx_lt_length_of_exists ⟨x, hx, hp⟩
    refine ⟨hlt, ?_⟩
    have e := getq d hlt
    rw [List.getElem?_eq_getElem hlt] at e
    rw [← Option.some.inj e]
    exact List.findIdx_getElem (w := hlt)
  · omega
theorem fix_lt {α : Type} {p : α → Bool} {xs : List α} (h : ¬ 0 ≤ fixI p xs) : xs.any p = false := by
  unfold fixI at h
  cases q : xs.any p with
  | false => rfl
  | true => rw [if_pos q] at h; omega
/-! what is parsed may be -/
theorem isL_lt {ws : List Wrd} {i : Nat} {e : Int} (h : isL ws i e = true) : i < ws.length ∧ e = 0 := by
  unfold isL at h; rw [Bool.or_eq_true] at h
  rcases h with h | h <;> exact isE_lt h
theorem lkF_zero {ws : List Wrd} : ∀ (f i : Nat) (e : Int) (ls : List CLk), (lkF ws f i e ls).2.2 = 0 → e = 0
  | 0, i, e, ls, h => by
    unfold lkF at h; split at h
    · rename_i q; exact (isL_lt q).2
    · exact h
  | f + 1, i, e, ls, h => by
    unfold lkF at h; split at h
    · rename_i q; exact (isL_lt q).2
    · exact h
theorem isP_zero {ws : List Wrd} {i : Nat} {e : Int} {ps : List PgC} (h : isP ws i e ps = true) : e = 0 := by
  unfold isP at h; simp only [Bool.and_eq_true, decide_eq_true_eq] at h; exact h.1
theorem pgF_zero {ws : List Wrd} : ∀ (f i : Nat) (e : Int) (ps : List PgC) (pl : List Int), (pgF ws f i e ps pl).2.2.2 = 0 → e = 0
  | 0, i, e, ps, pl, h => by
    unfold pgF at h; split at h
    · rename_i q; exact isP_zero q
    · exact h
  | f + 1, i, e, ps, pl, h => by
    unfold pgF at h; split at h
    · rename_i q; exact isP_zero q
    · exact h
theorem winL (n : Nat) (m : Int) : winB (n : Int) m = true ↔ 1 ≤ n ∧ (n : Int) ≤ m := by
  unfold winB; simp only [Bool.and_eq_true, decide_eq_true_eq]; omega
/-! words are parsed again -/
theorem isR_at {ws : List Wrd} {p j : Nat} {l : List Wrd} {k : Int} {t : List UInt8} {x : Wrd} (h : ws.drop p = l) (hj : j < l.length) (hx : l.getD j default = x) : isR ws (p + j) k t = (decide (x.k = k) && decide (x.t = t)) :=
  isR_of (drop_len h hj) ((drop_getD default h j).trans hx)
theorem need_hit {ws : List Wrd} {p : Nat} {k : Int} {t : List UInt8} (h : isR ws p k t = true) : needE ws p 0 k t = (p + 1, 0) := by
  unfold needE; rw [isE_0, if_pos h]
theorem fld_words {ws tl : List Wrd} {p : Nat} {t : List UInt8} {n m : Int} (h : ws.drop p = fldW t n ++ tl) (hw : winB n m = true) : fldE ws p 0 t m = (p + 2, 0, n) := by
  have h0 : isR ws p 1 t = true := by
    have := isR_at (j := 0) (k := 1) (t := t) (x := nmE t) h (by simp [fldW]) rfl
    rw [Nat.add_zero] at this; rw [this]; simp [nmE]
  have h1 : ws.getD (p + 1) default = noE n := (drop_getD default h 1).trans rfl
  have l1 : p + 1 < ws.length := drop_len h (j := 1) (by simp [fldW])
  unfold fldE; rw [need_hit h0]
  rw [num_e (by decide) l1 (by rw [h1]; rfl) (by rw [h1]; unfold hasB; rw [if_neg (by decide)]; exact hw), h1]
  rfl
theorem end_words {ws tl : List Wrd} {p : Nat} (h : ws.drop p = mk3 [59] :: tl) : needE ws p 0 3 [59] = (p + 1, 0) := by
  refine need_hit ?_
  have := isR_at (j := 0) (k := 3) (t := [59]) (x := mk3 [59]) h (by simp) rfl
  rw [Nat.add_zero] at this; rw [this]; rfl
theorem lin_words {ws tl : List Wrd} {p : Nat} {t : List UInt8} {n m : Int} (h : ws.drop p = linW t n ++ tl) (hw : winB n m = true) : linE ws p 0 t m = (p + 3, 0, n) := by
  have h1 : ws.drop p = fldW t n ++ (mk3 [59] :: tl) := by rw [h]; simp [linW]
  have hf := fld_words h1 hw
  have h2 : ws.drop (p + 2) = mk3 [59] :: tl := drop_add h1
  unfold linE; rw [hf]; simp only; rw [end_words h2]
theorem lck_words {ws tl : List Wrd} {p : Nat} {x : CLk} (h : ws.drop p = (fldW wSlice x.sl ++ fldW wCrit x.cr ++ (if x.sh then fldW wRead x.rd ++ fldW wWrite x.wr else []) ++ [mk3 [59]]) ++ tl) (hx : lokB x = true) :
    lckE ws x.sh p 0 = (p + (if x.sh then 9 else 5), 0, x) := by
  obtain ⟨sh, sl, cr, rd, wr⟩ := x
  unfold lokB at hx
  simp only [Bool.and_eq_true] at hx
  obtain ⟨⟨h1, h2⟩, h3⟩ := hx
  cases sh with
  | true =>
    rw [if_pos rfl, Bool.and_eq_true] at h1
    simp only at h h1 h2 h3 ⊢
    have e0 : ws.drop p = fldW wSlice sl ++ (fldW wCrit cr ++ (fldW wRead rd ++ (fldW wWrite wr ++ (mk3 [59] :: tl)))) := by rw [h]; simp
    have a := fld_words e0 h2
    have e1 : ws.drop (p + 2) = _ := drop_add e0
    have b := fld_words e1 h3
    have e2 : ws.drop (p + 2 + 2) = _ := drop_add e1
    have c := fld_words e2 h1.1
    have e3 : ws.drop (p + 2 + 2 + 2) = _ := drop_add e2
    have d := fld_words e3 h1.2
    have e4 : ws.drop (p + 2 + 2 + 2 + 2) = _ := drop_add e3
    have z := end_words e4
    have kA : lkA ws p 0 = (p + 2, 0, sl) := a
    have kB : lkB ws p 0 = (p + 2 + 2, 0, cr) := by unfold lkB; rw [kA]; exact b
    have kC : lkC ws true p 0 = (p + 2 + 2 + 2, 0, rd) := by unfold lkC; rw [if_pos rfl, kB]; exact c
    have kD : lkD ws true p 0 = (p + 2 + 2 + 2 + 2, 0, wr) := by unfold lkD; rw [if_pos rfl, kC]; exact d
    unfold lckE; rw [kA, kB, kC, kD]; simp only; rw [z]; rfl
  | false =>
    simp only [Bool.false_eq_true, if_false, Bool.and_eq_true, decide_eq_true_eq] at h h1 h2 h3 ⊢
    obtain ⟨rfl, rfl⟩ := h1
    have e0 : ws.drop p = fldW wSlice sl ++ (fldW wCrit cr ++ (mk3 [59] :: tl)) := by rw [h]; simp
    have a := fld_words e0 h2
    have e1 : ws.drop (p + 2) = _ := drop_add e0
    have b := fld_words e1 h3
    have e2 : ws.drop (p + 2 + 2) = _ := drop_add e1
    have z := end_words e2
    have kA : lkA ws p 0 = (p + 2, 0, sl) := a
    have kB : lkB ws p 0 = (p + 2 + 2, 0, cr) := by unfold lkB; rw [kA]; exact b
    have kC : lkC ws false p 0 = (p + 2 + 2, 0, 0) := by unfold lkC; rw [if_neg (by simp), kB]
    have kD : lkD ws false p 0 = (p + 2 + 2, 0, 0) := by unfold lkD; rw [if_neg (by simp), kC]
    unfold lckE; rw [kA, kB, kC, kD]; simp only; rw [z]
theorem gp_words {ws tl : List Wrd} : ∀ (ys gs : List Int) (p : Nat), ws.drop p = ys.flatMap (linW wGroup) ++ tl → ys.all (fun n => winB n 16) = true → gs.length + ys.length ≤ 4 → isR ws (p + (ys.flatMap (linW wGroup)).length) 1 wGroup = false → gpL ws p 0 gs = (gs ++ ys, p + (ys.flatMap (linW wGroup)).length, 0)
  | [], gs, p, h, _, _, hn => by
    rw [gpL_stop (by rw [isE_0]; simpa using hn)]; simp
  | y :: ys, gs, p, h, ha, hl, hn => by
    rw [List.all_cons, Bool.and_eq_true] at ha
    rw [List.length_cons] at hl
    have h1 : ws.drop p = linW wGroup y ++ (ys.flatMap (linW wGroup) ++ tl) := by rw [h, List.flatMap_cons, List.append_assoc]
    have h0 : isE ws p 0 1 wGroup = true := by
      have := isR_at (j := 0) (k := 1) (t := wGroup) (x := nmE wGroup) h1 (by simp [linW, fldW]) rfl
      rw [Nat.add_zero] at this; rw [isE_0, this]; rfl
    have hll : (linW wGroup y).length = 3 := rfl
    rw [gpL_next h0 (by omega), lin_words h1 ha.1]
    simp only
    have hfl : ((y :: ys).flatMap (linW wGroup)).length = 3 + (ys.flatMap (linW wGroup)).length := by rw [List.flatMap_cons, List.length_append]; rfl
    rw [hfl] at hn ⊢
    rw [gp_words ys (gs ++ [y]) (p + 3) (drop_add h1) ha.2 (by simp; omega) (by rw [Nat.add_assoc]; exact hn)]
    simp [Nat.add_assoc]
theorem lckW_len (x : CLk) : (lckW x).length = 1 + (if x.sh then 9 else 5) := by
  unfold lckW fldW; cases x.sh <;> simp
theorem lk_words {ws tl : List Wrd} : ∀ (ys ls : List CLk) (p : Nat), ws.drop p = ys.flatMap lckW ++ tl → ys.all lokB = true → ls.length + ys.length ≤ 8 → isL ws (p + (ys.flatMap lckW).length) 0 = false → lkL ws p 0 ls = (ls ++ ys, p + (ys.flatMap lckW).length, 0)
  | [], ls, p, h, _, _, hn => by
    rw [lkL_stop (by simpa using hn)]; simp
  | y :: ys, ls, p, h, ha, hl, hn => by
    rw [List.all_cons, Bool.and_eq_true] at ha
    rw [List.length_cons] at hl
    have h1 : ws.drop p = lckW y ++ (ys.flatMap lckW ++ tl) := by rw [h, List.flatMap_cons, List.append_assoc]
    have hS : isE ws p 0 1 wShared = y.sh := by
      have := isR_at (j := 0) (k := 1) (t := wShared) (x := nmE (if y.sh then wShared else wLock)) h1 (by simp [lckW]) rfl
      rw [Nat.add_zero] at this; rw [isE_0, this]; cases y.sh <;> rfl
    have h0 : isL ws p 0 = true := by
      have := isR_at (j := 0) (k := 1) (t := wLock) (x := nmE (if y.sh then wShared else wLock)) h1 (by simp [lckW]) rfl
      rw [Nat.add_zero] at this
      unfold isL; rw [hS, isE_0, this]; cases y.sh <;> rfl
    have h2 : ws.drop (p + 1) = (fldW wSlice y.sl ++ fldW wCrit y.cr ++ (if y.sh then fldW wRead y.rd ++ fldW wWrite y.wr else []) ++ [mk3 [59]]) ++ (ys.flatMap lckW ++ tl) := by
      rw [← List.drop_drop, h1]; rfl
    have hc := lck_words h2 ha.1
    rw [lkL_next h0 (by omega), hS, hc]
    simp only
    have hfl : ((y :: ys).flatMap lckW).length = (lckW y).length + (ys.flatMap lckW).length := by rw [List.flatMap_cons, List.length_append]
    rw [hfl] at hn ⊢
    have h3 := drop_add h1
    rw [lckW_len] at h3 hn ⊢
    rw [show p + 1 + (if y.sh = true then 9 else 5) = p + (1 + (if y.sh = true then 9 else 5)) by omega]
    rw [lk_words ys (ls ++ [y]) _ h3 ha.2 (by simp; omega) (by rw [Nat.add_assoc]; exact hn)]
    simp [Nat.add_assoc]
theorem pg_words {ws tl : List Wrd} : ∀ (ys ps : List PgC) (pl : List Int) (p : Nat), ws.drop p = ys.flatMap (fun p => wordsF p.fv p.xs) ++ tl → ys.all (fun p => mayB p.xs) = true → 0 < ps.length + ys.length → ps.length + ys.length ≤ 8 → isR ws (p + (ys.flatMap (fun p => wordsF p.fv p.xs)).length) 1 wProg = false →
    ∃ pl', pgL ws p 0 ps pl = (ps ++ ys, pl', p + (ys.flatMap (fun p => wordsF p.fv p.xs)).length, 0)
  | [], ps, pl, p, h, _, h0, _, hn => by
    refine ⟨pl, ?_⟩
    have h1 : ¬ ps.length = 0 := by rw [List.length_nil] at h0; omega
    rw [List.flatMap_nil, List.length_nil, Nat.add_zero] at hn
    rw [pgL_stop (by unfold isP; rw [isE_0, decide_eq_false h1, hn]; rfl)]; simp
  | y :: ys, ps, pl, p, h, ha, h0, hl, hn => by
    rw [List.all_cons, Bool.and_eq_true] at ha
    rw [List.length_cons] at hl
    have h1 : ws.drop p = wordsF y.fv y.xs ++ (ys.flatMap (fun p => wordsF p.fv p.xs) ++ tl) := by rw [h, List.flatMap_cons, List.append_assoc]
    have hP : isP ws p 0 ps = true := by
      have := isR_at (j := 0) (k := 1) (t := wProg) (x := nmE wProg) h1 (by rw [words_cons]; simp) (by rw [words_cons]; rfl)
      rw [Nat.add_zero] at this; unfold isP; rw [isE_0, this]; simp [nmE]
    have hpar := parse_words h1 ha.1
    rw [pgL_next hP (by omega), hpar]
    simp only [Int.toNat_natCast]
    have hfl : ((y :: ys).flatMap (fun p => wordsF p.fv p.xs)).length = (wordsF y.fv y.xs).length + (ys.flatMap (fun p => wordsF p.fv p.xs)).length := by rw [List.flatMap_cons, List.length_append]
    rw [hfl] at hn ⊢
    obtain ⟨pl', hp⟩ := pg_words ys (ps ++ [prC (y.fv, y.xs, ((p + (wordsF y.fv y.xs).length : Nat) : Int), 0)]) (pl ++ [(p : Int)]) (p + (wordsF y.fv y.xs).length) (drop_add h1) ha.2 (by simp; omega) (by simp; omega) (by rw [Nat.add_assoc]; exact hn)
    refine ⟨pl', ?_⟩
    rw [hp]
    have e : prC (y.fv, y.xs, ((p + (wordsF y.fv y.xs).length : Nat) : Int), 0) = y := rfl
    rw [e]; simp [Nat.add_assoc]
theorem mayS_inv {s : StC} (h : mayS s = true) : winB s.cr 4 = true ∧ winB s.gr 8 = true ∧ (1 ≤ s.gs.length ∧ s.gs.length ≤ 4) ∧ s.gs.all (fun n => winB n 16) = true ∧ s.ls.length ≤ 8 ∧ s.ls.all lokB = true ∧ (1 ≤ s.ps.length ∧ s.ps.length ≤ 8) ∧ s.ps.any (misB s.ls s.ps.length) = false := by
  unfold mayS at h
  simp only [Bool.and_eq_true, decide_eq_true_eq, Bool.not_eq_true', winL] at h
  obtain ⟨⟨⟨⟨⟨a, b⟩, ⟨c, d⟩⟩, ⟨e, f⟩⟩, g⟩, k⟩ := h
  exact ⟨a, b, ⟨c.1, by omega⟩, d, e, f, ⟨g.1, by omega⟩, k⟩
theorem mayS_progs {s : StC} (h : mayS s = true) : s.ps.all (fun p => mayB p.xs) = true := by
  have h1 := (mayS_inv h).2.2.2.2.2.2.2
  rw [List.all_eq_true]
  intro p hp
  have h2 := List.any_eq_false.1 h1 p hp
  have h3 : (ckO p.fv p.xs s.ls (s.ps.length : Int)).2 = 0 := by
    unfold misB at h2; simpa using h2
  exact (ck_zero h3).1
theorem head_ls {s : List CLk} {tl : List Wrd} {t : List UInt8} (h1 : t ≠ wShared) (h2 : t ≠ wLock) : ∀ {ws : List Wrd} {p : Nat}, ws.drop p = s.flatMap lckW ++ tl → (s = [] → isR ws p 1 t = false) → isR ws p 1 t = false := by
  intro ws p h h0
  cases s with
  | nil => exact h0 rfl
  | cons y ys =>
    have := isR_at (j := 0) (k := 1) (t := t) (x := nmE (if y.sh then wShared else wLock)) h (by simp [lckW]) (by simp [lckW])
    rw [Nat.add_zero] at this; rw [this]
    cases y.sh
    · show (decide ((1 : Int) = 1) && decide (wLock = t)) = false
      rw [show decide (wLock = t) = false from decide_eq_false (fun q => h2 q.symm)]; rfl
    · show (decide ((1 : Int) = 1) && decide (wShared = t)) = false
      rw [show decide (wShared = t) = false from decide_eq_false (fun q => h1 q.symm)]; rfl
theorem head_ps {s : List PgC} {tl : List Wrd} {t : List UInt8} (h1 : t ≠ wProg) (h0 : 0 < s.length) : ∀ {ws : List Wrd} {p : Nat}, ws.drop p = s.flatMap (fun p => wordsF p.fv p.xs) ++ tl → isR ws p 1 t = false := by
  intro ws p h
  cases s with
  | nil => simp at h0
  | cons y ys =>
    have e : (y :: ys).flatMap (fun p => wordsF p.fv p.xs) ++ tl = wordsF y.fv y.xs ++ (ys.flatMap (fun p => wordsF p.fv p.xs) ++ tl) := by rw [List.flatMap_cons, List.append_assoc]
    rw [e, words_cons] at h
    have := isR_at (j := 0) (k := 1) (t := t) (x := nmE wProg) h (by simp) rfl
    rw [Nat.add_zero] at this; rw [this]
    show (decide ((1 : Int) = 1) && decide (wProg = t)) = false
    rw [show decide (wProg = t) = false from decide_eq_false (fun q => h1 q.symm)]; rfl
theorem stpR_words {ws tl : List Wrd} {p : Nat} {s : StC} (h : ws.drop p = setW s ++ tl) (hm : mayS s = true) (hn : isR ws (p + (setW s).length) 1 wProg = false) : stpR ws p = (s, ((p + (setW s).length : Nat) : Int), 0) := by
  obtain ⟨a, b, c, d, e, f, g, k⟩ := mayS_inv hm
  have hp := mayS_progs hm
  obtain ⟨cr, gr, gs, ls, ps⟩ := s
  simp only at a b c d e f g k hp
  unfold setW at h hn ⊢
  simp only at h hn ⊢
  have e0 : ws.drop p = linW wCores cr ++ (linW wGrain gr ++ (gs.flatMap (linW wGroup) ++ (ls.flatMap lckW ++ (ps.flatMap (fun p => wordsF p.fv p.xs) ++ tl)))) := by rw [h]; simp
  have e1 : ws.drop (p + 3) = _ := drop_add e0
  have e2 : ws.drop (p + 3 + 3) = _ := drop_add e1
  have e3 := drop_add e2
  have e4 := drop_add e3
  have hL3 : ∀ (t : List UInt8), t ≠ wShared → t ≠ wLock → t ≠ wProg → isR ws (p + 3 + 3 + (gs.flatMap (linW wGroup)).length) 1 t = false := fun t h1 h2 h3 =>
    head_ls h1 h2 e3 (fun q => by subst q; exact head_ps h3 g.1 (by simpa using e3))
  have kA : sA ws p = (p + 3, 0, cr) := lin_words e0 a
  have kB : sB2 ws p = (p + 3 + 3, 0, gr) := by unfold sB2; rw [kA]; exact lin_words e1 b
  have kG : sG ws p = (gs, p + 3 + 3 + (gs.flatMap (linW wGroup)).length, 0) := by
    unfold sG; rw [kB]
    show gpO ws (p + 3 + 3) 0 = _
    cases gs with
    | nil => simp at c
    | cons y ys =>
      rw [List.all_cons, Bool.and_eq_true] at d
      have e2' : ws.drop (p + 3 + 3) = linW wGroup y ++ (ys.flatMap (linW wGroup) ++ (ls.flatMap lckW ++ (ps.flatMap (fun p => wordsF p.fv p.xs) ++ tl))) := by rw [e2, List.flatMap_cons, List.append_assoc]
      have hg := hL3 wGroup (by decide) (by decide) (by decide)
      have hfl : ((y :: ys).flatMap (linW wGroup)).length = 3 + (ys.flatMap (linW wGroup)).length := by rw [List.flatMap_cons, List.length_append]; rfl
      rw [hfl] at hg ⊢
      unfold gpO; rw [lin_words e2' d.1]
      simp only
      rw [gp_words ys [y] (p + 3 + 3 + 3) (drop_add e2') d.2 (by simpa [Nat.add_comm] using c.2) (by rw [← hg, Nat.add_assoc (p + 3 + 3)])]
      rw [List.singleton_append, Nat.add_assoc (p + 3 + 3)]
  have kL : sL ws p = (ls, p + 3 + 3 + (gs.flatMap (linW wGroup)).length + (ls.flatMap lckW).length, 0) := by
    unfold sL; rw [kG]
    simp only
    rw [lk_words ls [] _ e3 f (by simpa using e) (by unfold isL; rw [isE_0, isE_0, head_ps (by decide) g.1 e4, head_ps (by decide) g.1 e4]; rfl)]
    simp
  have hlen : (linW wCores cr ++ linW wGrain gr ++ gs.flatMap (linW wGroup) ++ ls.flatMap lckW ++ ps.flatMap (fun p => wordsF p.fv p.xs)).length = 3 + 3 + (gs.flatMap (linW wGroup)).length + (ls.flatMap lckW).length + (ps.flatMap (fun p => wordsF p.fv p.xs)).length := by
    simp only [List.length_append]; rfl
  rw [hlen] at hn ⊢
  obtain ⟨pl', hpg⟩ := pg_words ps [] [] _ e4 hp (by simp only [List.length_nil]; omega) (by simpa using g.2) (by rw [← hn]; congr 1; omega)
  have kP : sP ws p = (ps, pl', p + (3 + 3 + (gs.flatMap (linW wGroup)).length + (ls.flatMap lckW).length + (ps.flatMap (fun p => wordsF p.fv p.xs)).length), 0) := by
    unfold sP; rw [kL]; simp only; rw [hpg]; simp [Nat.add_assoc]
  have hmis : ¬ 0 ≤ misI ls ps := by unfold misI; rw [fix_miss k]; decide
  unfold stpR
  rw [kA, kB, kG, kL, kP]
  simp only
  rw [if_neg (by simp), if_neg hmis]
/-! how many words -/
theorem setW_text (s : StC) : ∀ x ∈ setW s, x.t.length ≤ 7 := by
  have hf : ∀ (t : List UInt8) (n : Int), t.length ≤ 7 → ∀ x ∈ fldW t n, x.t.length ≤ 7 := by
    intro t n ht x hx
    simp only [fldW, List.mem_cons, List.not_mem_nil, or_false] at hx
    rcases hx with rfl | rfl
    · exact ht
    · simp [noE]
  have hl : ∀ (t : List UInt8) (n : Int), t.length ≤ 7 → ∀ x ∈ linW t n, x.t.length ≤ 7 := by
    intro t n ht x hx
    simp only [linW, List.mem_append, List.mem_cons, List.not_mem_nil, or_false] at hx
    rcases hx with hx | rfl
    · exact hf t n ht x hx
    · simp [mk3]
  intro x hx
  simp only [setW, List.mem_append, List.mem_flatMap] at hx
  rcases hx with (((hx | hx) | ⟨g, _, hx⟩) | ⟨l, _, hx⟩) | ⟨p, _, hx⟩
  · exact hl _ _ (by decide) x hx
  · exact hl _ _ (by decide) x hx
  · exact hl _ _ (by decide) x hx
  · simp only [lckW, List.mem_cons, List.mem_append, List.not_mem_nil, or_false] at hx
    rcases hx with rfl | ((hx | hx) | hx) | rfl
    · cases l.sh <;> simp [nmE]
    · exact hf _ _ (by decide) x hx
    · exact hf _ _ (by decide) x hx
    · split at hx
      · rcases List.mem_append.1 hx with hx | hx
        · exact hf _ _ (by decide) x hx
        · exact hf _ _ (by decide) x hx
      · cases hx
    · simp [mk3]
  · exact words_text p.fv p.xs x hx
end Go.Eng
namespace Go.Eng
open Go Go.Proofs Go.RowKit
theorem row_sr {α : Type} {f : α → List Value} {s : Nat} {xs : List α} {b : Nat} {cs : Array Value} {E : TypeId} {fz : Nat × Nat} {w : World} (n : Nat) (h : w.heap[b]? = some (.cells cs E fz)) (hn : n = xs.length) (hcs : cs = arr f xs []) (hf : ∀ a, (f a).length = s) : Sr f s xs (.slice (some ⟨b, 0, none⟩) n n) w := by
  subst hn; exact Sr.row h hcs rfl (Nat.le_refl _) hf
set_option maxRecDepth 100000 in
theorem index_int {xs : List Int} {ad : Option Addr} {n cap : Nat} (x : Int) (w : World) (hn : n = xs.length) (hl : Sr fI 1 xs (.slice ad n cap) w) (hx : xs.length ≤ 1000) : Ret Tryz.prog 170 #[.slice ad n cap, .int .i64 x] w (fun v w' => v = .int .i64 (fixI (fun y => decide (x = y)) xs) ∧ Ext w w') := by
 refine Ret.enterM (l := [.slice ad n cap, .int .i64 x]) Tryz.func170 rfl Tryz.ntmps170 rfl ([]) (no) (Mem.nil w) ?_
 refine wpM.seq (wpM.region ?_)
 refine LM.as rfl ?_
 refine LM.nil (QM.sub (e' := [(0, _), (1, _)]) au9 (QM.then ?_))
 refine wpM.seq ?_
 refine wpM.seq (wpM.region ?_)
 refine LM.mv rfl ?_
 refine LM.val (ov_len Tryz.underlying26 rfl) ?_
 refine LM.mv rfl ?_
 refine LM.nil (QM.sub (e' := [(0, _), (1, _), (7, _), (8, _)]) au9 (QM.then ?_))
 refine wpM.block ?_
 refine wpM.loopK0 (α := Nat) (fun i => [(8, .int .i64 (i : Nat))]) [(0, _), (1, _), (7, _)] (fun i => []) (fun i => i ≤ xs.length ∧ (xs.take i).any (fun y => decide (x = y)) = false) (fun i => xs.length - i) (0) ⟨au2, rfl, rfl, rfl, trivial⟩ au1 ⟨Nat.zero_le _, rfl⟩ ?_
 rintro i ⟨hi, ha⟩
 change wpM _ _ _ _ _ _ _ ([]) _ _ _
 refine wpM.seq (wpM.region ?_)
 refine LM.val (ov_lss rfl rfl) ?_
 refine LM.nil (QM.sub (e' := [(0, _), (1, _), (7, _), (8, _), (9, _)]) au9 (QM.then ?_))
 refine wpM.seq ?_
 refine wpM.condD rfl (fun h1 => ?_) (fun h1 => ?_)
 ·
  refine wpM.skip ?_
  refine QM.then ?_
  refine wpM.seq ?_
  refine wpM.block ?_
  refine wpM.seq (wpM.region ?_)
  refine LM.mv rfl (LM.as rfl ?_)
  refine LM.nil (QM.sub (e' := [(0, _), (1, _), (5, _), (7, _), (8, _)]) au9 (QM.then (wpM.seq (wpM.region ?_))))
  refine LM.mv rfl (LM.mv rfl (LM.mv rfl ?_))
  refine LM.val (ov_idxSN au6 Tryz.underlying26 Tryz.sizeOf3 rfl rfl (by omega)) ?_
  first | refine LM.rd (om_sl1 (by assumption) (by intro _; rfl) Tryz.isAgg3 rfl rfl (by exact getq 0 au4) (by rfl)) ?_ | refine LM.rdC (om_sr1 (by assumption) Tryz.isAgg3 rfl rfl (by exact getq 0 au4) (by rfl) id) ?_ | refine LM.rd (om_ld Tryz.isAgg3 rfl rfl) ?_
  refine LM.val (ov_eql rfl rfl) ?_
  refine LM.nil (QM.sub (e' := [(0, _), (1, _), (5, _), (7, _), (8, _), (16, _)]) au9 (QM.then ?_))
  refine wpM.condD rfl (fun h2 => ?_) (fun h2 => ?_)
  ·
   refine wpM.seq (wpM.region ?_)
   refine LM.mv rfl (LM.as rfl ?_)
   refine LM.nil (QM.sub (e' := [(4, _)]) ⟨rfl, trivial⟩ (QM.then ?_))
   refine wpM.ret ?_
   refine QM.block_ret ?_
   refine QM.then_ret ?_
   refine QM.then_ret ?_
   refine QM.block_ret ?_
   refine QM.then_ret ?_
   refine QM.leave (.inl rfl) [.tmp 4] Tryz.results170 rfl ?_
   intro w' hm' hc' hg'
   exact ⟨by show Value.int .i64 _ = _; rw [fix_hit 0 ha (by omega) (decide_eq_true h2)], hc'⟩
  refine wpM.skip ?_
  refine QM.block_normal ?_
  refine QM.then (wpM.region ?_)
  refine LM.val (ov_add64 rfl rfl (by omega)) ?_
  refine LM.mv rfl ?_
  refine LM.nil (QM.sub (e' := [(0, _), (1, _), (7, _), (8, _)]) au9 ?_)
  refine QM.againK (i + 1) ⟨au2, rfl, rfl, rfl, trivial⟩ au1 (fun _ h => h) ?_ ?_
  · exact ⟨by omega, by rw [any_snoc 0 (by omega), ha, Bool.false_or]; exact decide_eq_false h2⟩
  · omega
 refine wpM.exit ?_
 refine QM.then_exit ?_
 refine QM.then_exit ?_
 refine QM.block_hit ?_
 refine QM.then (wpM.seq (wpM.region ?_))
 refine LM.as rfl ?_
 refine LM.nil (QM.sub (e' := [(4, _)]) ⟨rfl, trivial⟩ (QM.then ?_))
 refine wpM.ret ?_
 refine QM.leave (.inl rfl) [.tmp 4] Tryz.results170 rfl ?_
 intro w' hm' hc' hg'
 have hil : i = xs.length := (by omega); subst hil; rw [List.take_length] at ha; exact ⟨by show Value.int .i64 _ = _; rw [fix_miss ha], hc'⟩
set_option maxRecDepth 100000 in
theorem contains_int {xs : List Int} {ad : Option Addr} {n cap : Nat} (x : Int) (w : World) (hn : n = xs.length) (hl : Sr fI 1 xs (.slice ad n cap) w) (hx : xs.length ≤ 1000) : Ret Tryz.prog 154 #[.slice ad n cap, .int .i64 x] w (fun v w' => v = .bool (xs.any (fun y => decide (x = y))) ∧ Ext w w') := by
 refine Ret.enterM (l := [.slice ad n cap, .int .i64 x]) Tryz.func154 rfl Tryz.ntmps154 rfl ([]) (no) (Mem.nil w) ?_
 refine wpM.seq (wpM.region ?_)
 refine LM.as rfl ?_
 refine LM.nil (QM.sub (e' := [(0, _), (1, _)]) au9 (QM.then (wpM.seq (wpM.region ?_))))
 refine LM.mv rfl (LM.mv rfl ?_)
 refine LM.callE (oc_call (enters_fn Tryz.func170 (by kernel_rfl) rfl) rfl) (fun w hm hc hg => index_int x w hn (hl.ext hc) hx) ?_
 refine LM.val (ov_geq rfl rfl) ?_
 refine LM.as rfl ?_
 refine LM.nil (QM.sub (e' := [(4, _)]) ⟨rfl, trivial⟩ (QM.then ?_))
 refine wpM.ret ?_
 refine QM.leave (.inl rfl) [.tmp 4] Tryz.results154 rfl ?_
 intro w' hm' hc' hg'
 exact ⟨by show Value.bool _ = _; rw [← fix_pos], hc'⟩
set_option maxRecDepth 100000 in
theorem takes_spec (k : Int) (w : World) : Ret Tryz.prog 151 #[.int .i64 k] w (fun v w' => v = .bool (takesB k) ∧ Ext w w') := by
 refine Ret.enterM (l := [.int .i64 k]) Tryz.func151 rfl Tryz.ntmps151 rfl ([]) (no) (Mem.nil w) ?_
 refine wpM.seq (wpM.region ?_)
 refine LM.as rfl ?_
 refine LM.nil (QM.sub (e' := [(0, _)]) ⟨rfl, trivial⟩ (QM.then (wpM.seq (wpM.region ?_))))
 refine LM.row (vs := [_, _, _, _]) Tryz.underlying26 Tryz.sizeOf3 Tryz.zeroValue3 rfl rfl rfl rfl rfl rfl (fun b3 hb3 => ?_)
 refine LM.mv rfl ?_
 refine LM.callE (oc_call (enters_fn Tryz.func154 (by kernel_rfl) rfl) rfl) (fun w hm hc hg => contains_int (xs := [2, 3, 4, 5]) k w rfl (row_sr 4 (hm.at b3) rfl rfl (fun _ => rfl)) (by decide)) ?_
 refine LM.as rfl ?_
 refine LM.nil (QM.sub (e' := [(2, _)]) ⟨rfl, trivial⟩ (QM.then ?_))
 refine wpM.ret ?_
 refine QM.leave (.inl rfl) [.tmp 2] Tryz.results151 rfl ?_
 intro w' hm' hc' hg'
 exact ⟨by show Value.bool _ = _; rw [takes_row], hc'⟩
set_option maxRecDepth 100000 in
theorem passes_spec (o : COp) (w : World) : Ret Tryz.prog 132 #[.agg (fO o).toArray] w (fun v w' => v = .bool (passB o.k) ∧ Ext w w') := by
 refine Ret.enterM (l := [.agg (fO o).toArray]) Tryz.func132 rfl Tryz.ntmps132 rfl ([]) (no) (Mem.nil w) ?_
 refine wpM.seq (wpM.region ?_)
 refine LM.box rfl rfl (fun b1 hb1 => ?_)
 refine LM.as rfl ?_
 refine LM.nil (QM.sub (e' := [(1, _)]) ⟨rfl, trivial⟩ (QM.then (wpM.seq (wpM.region ?_))))
 refine LM.row (vs := [_, _, _, _]) Tryz.underlying26 Tryz.sizeOf3 Tryz.zeroValue3 rfl rfl rfl rfl rfl rfl (fun b3 hb3 => ?_)
 refine LM.val (ov_field Tryz.underlying135 rfl Tryz.sizeOf3 rfl (k := 0) rfl rfl) ?_
 refine LM.rd (om_ld Tryz.isAgg3 rfl rfl) ?_
 refine LM.callE (oc_call (enters_fn Tryz.func154 (by kernel_rfl) rfl) rfl) (fun w hm hc hg => contains_int (xs := [1, 7, 8, 11]) o.k w rfl (row_sr 4 (hm.at b3) rfl rfl (fun _ => rfl)) (by decide)) ?_
 refine LM.as rfl ?_
 refine LM.nil (QM.sub (e' := [(2, _)]) ⟨rfl, trivial⟩ (QM.then ?_))
 refine wpM.ret ?_
 refine QM.leave (.inl rfl) [.tmp 2] Tryz.results132 rfl ?_
 intro w' hm' hc' hg'
 exact ⟨by show Value.bool _ = _; rw [pass_row], hc'⟩
set_option maxRecDepth 100000 in
theorem ixf_pass {xs : List COp} {ad : Option Addr} {n cap : Nat} (w : World) (hn : n = xs.length) (hl : Sr fO 3 xs (.slice ad n cap) w) (hx : xs.length ≤ 1000000) : Ret Tryz.prog 153 #[.slice ad n cap, .func (.func 132) #[] #[]] w (fun v w' => v = .int .i64 (fixI (fun o => passB o.k) xs) ∧ Ext w w') := by
 refine Ret.enterM (l := [.slice ad n cap, .func (.func 132) #[] #[]]) Tryz.func153 rfl Tryz.ntmps153 rfl ([]) (no) (Mem.nil w) ?_
 refine wpM.seq (wpM.region ?_)
 refine LM.as rfl ?_
 refine LM.nil (QM.sub (e' := [(0, _), (1, _)]) au9 (QM.then ?_))
 refine wpM.seq ?_
 refine wpM.seq (wpM.region ?_)
 refine LM.mv rfl ?_
 refine LM.val (ov_len Tryz.underlying85 rfl) ?_
 refine LM.mv rfl ?_
 refine LM.nil (QM.sub (e' := [(0, _), (1, _), (7, _), (8, _)]) au9 (QM.then ?_))
 refine wpM.block ?_
 refine wpM.loopK0 (α := Nat) (fun i => [(8, .int .i64 (i : Nat))]) [(0, _), (1, _), (7, _)] (fun i => []) (fun i => i ≤ xs.length ∧ (xs.take i).any (fun o => passB o.k) = false) (fun i => xs.length - i) (0) ⟨au2, rfl, rfl, rfl, trivial⟩ au1 ⟨Nat.zero_le _, rfl⟩ ?_
 rintro i ⟨hi, ha⟩
 change wpM _ _ _ _ _ _ _ ([]) _ _ _
 refine wpM.seq (wpM.region ?_)
 refine LM.val (ov_lss rfl rfl) ?_
 refine LM.nil (QM.sub (e' := [(0, _), (1, _), (7, _), (8, _), (9, _)]) au9 (QM.then ?_))
 refine wpM.seq ?_
 refine wpM.condD rfl (fun h1 => ?_) (fun h1 => ?_)
 ·
  refine wpM.skip ?_
  refine QM.then ?_
  refine wpM.seq ?_
  refine wpM.block ?_
  refine wpM.seq (wpM.region ?_)
  refine LM.mv rfl (LM.as rfl ?_)
  refine LM.nil (QM.sub (e' := [(0, _), (1, _), (5, _), (7, _), (8, _)]) au9 (QM.then (wpM.seq (wpM.region ?_))))
  refine LM.mv rfl (LM.mv rfl (LM.mv rfl ?_))
  refine LM.val (ov_idxSN au6 Tryz.underlying85 Tryz.sizeOf135 rfl rfl (by omega)) ?_
  first | refine LM.rd (om_slA (by assumption) (by intro _; rfl) Tryz.isAgg135 Tryz.sizeOf135 rfl au3) ?_ | refine LM.rdC (om_srEA (by assumption) (by intro _; rfl) Tryz.isAgg135 Tryz.sizeOf135 rfl au3 id) ?_ | refine LM.rd (om_ldW Tryz.isAgg135 Tryz.sizeOf135 rfl rfl) ?_ | refine LM.rd (om_ldA Tryz.isAgg135 Tryz.sizeOf135 rfl (vs := [_, _, _]) rfl ⟨rfl, rfl, rfl, trivial⟩) ?_
  refine LM.callE (oc_callV rfl (enters_fn Tryz.func132 (by kernel_rfl) rfl) rfl) (fun w hm hc hg => passes_spec _ w) ?_
  refine LM.nil (QM.sub (e' := [(0, _), (1, _), (5, _), (7, _), (8, _), (16, _)]) au9 (QM.then ?_))
  first | refine wpM.condD rfl (fun h2 => ?_) (fun h2 => ?_) | refine wpM.condB rfl (fun h2 => ?_) (fun h2 => ?_)
  ·
   refine wpM.seq (wpM.region ?_)
   refine LM.mv rfl (LM.as rfl ?_)
   refine LM.nil (QM.sub (e' := [(4, _)]) ⟨rfl, trivial⟩ (QM.then ?_))
   refine wpM.ret ?_
   refine QM.block_ret ?_
   refine QM.then_ret ?_
   refine QM.then_ret ?_
   refine QM.block_ret ?_
   refine QM.then_ret ?_
   refine QM.leave (.inl rfl) [.tmp 4] Tryz.results153 rfl ?_
   intro w' hm' hc' hg'
   exact ⟨by show Value.int .i64 _ = _; rw [fix_hit default ha (by omega) (by simpa using h2)], hc'⟩
  refine wpM.skip ?_
  refine QM.block_normal ?_
  refine QM.then (wpM.region ?_)
  refine LM.val (ov_add64 rfl rfl (by omega)) ?_
  refine LM.mv rfl ?_
  refine LM.nil (QM.sub (e' := [(0, _), (1, _), (7, _), (8, _)]) au9 ?_)
  refine QM.againK (i + 1) ⟨au2, rfl, rfl, rfl, trivial⟩ au1 (fun _ h => h) ?_ ?_
  · exact ⟨by omega, by rw [any_snoc default (by omega), ha, Bool.false_or]; simpa using h2⟩
  · omega
 refine wpM.exit ?_
 refine QM.then_exit ?_
 refine QM.then_exit ?_
 refine QM.block_hit ?_
 refine QM.then (wpM.seq (wpM.region ?_))
 refine LM.as rfl ?_
 refine LM.nil (QM.sub (e' := [(4, _)]) ⟨rfl, trivial⟩ (QM.then ?_))
 refine wpM.ret ?_
 refine QM.leave (.inl rfl) [.tmp 4] Tryz.results153 rfl ?_
 intro w' hm' hc' hg'
 have hil : i = xs.length := (by omega); subst hil; rw [List.take_length] at ha; exact ⟨by show Value.int .i64 _ = _; rw [fix_miss ha], hc'⟩
set_option maxRecDepth 100000 in
theorem cof_pass {xs : List COp} {ad : Option Addr} {n cap : Nat} (w : World) (hn : n = xs.length) (hl : Sr fO 3 xs (.slice ad n cap) w) (hx : xs.length ≤ 1000000) : Ret Tryz.prog 131 #[.slice ad n cap, .func (.func 132) #[] #[]] w (fun v w' => v = .bool (xs.any (fun o => passB o.k)) ∧ Ext w w') := by
 refine Ret.enterM (l := [.slice ad n cap, .func (.func 132) #[] #[]]) Tryz.func131 rfl Tryz.ntmps131 rfl ([]) (no) (Mem.nil w) ?_
 refine wpM.seq (wpM.region ?_)
 refine LM.as rfl ?_
 refine LM.nil (QM.sub (e' := [(0, _), (1, _)]) au9 (QM.then (wpM.seq (wpM.region ?_))))
 refine LM.mv rfl (LM.mv rfl ?_)
 refine LM.callE (oc_call (enters_fn Tryz.func153 (by kernel_rfl) rfl) rfl) (fun w hm hc hg => ixf_pass w hn (hl.ext hc) hx) ?_
 refine LM.val (ov_geq rfl rfl) ?_
 refine LM.as rfl ?_
 refine LM.nil (QM.sub (e' := [(4, _)]) ⟨rfl, trivial⟩ (QM.then ?_))
 refine wpM.ret ?_
 refine QM.leave (.inl rfl) [.tmp 4] Tryz.results131 rfl ?_
 intro w' hm' hc' hg'
 exact ⟨by show Value.bool _ = _; rw [← fix_pos], hc'⟩
set_option maxRecDepth 100000 in
theorem rtakes_spec (o : COp) (w : World) : Ret Tryz.prog 91 #[.agg (fO o).toArray] w (fun v w' => v = .bool (takesB o.k) ∧ Ext w w') := by
 refine Ret.enterM (l := [.agg (fO o).toArray]) Tryz.func91 rfl Tryz.ntmps91 rfl ([]) (no) (Mem.nil w) ?_
 refine wpM.seq (wpM.region ?_)
 refine LM.box rfl rfl (fun b1 hb1 => ?_)
 refine LM.as rfl ?_
 refine LM.nil (QM.sub (e' := [(1, _)]) ⟨rfl, trivial⟩ (QM.then (wpM.seq (wpM.region ?_))))
 refine LM.val (ov_field Tryz.underlying135 rfl Tryz.sizeOf3 rfl (k := 0) rfl rfl) ?_
 refine LM.rd (om_ld Tryz.isAgg3 rfl rfl) ?_
 refine LM.val (ov_geq rfl rfl) ?_
 refine LM.mv rfl ?_
 refine LM.splitD (t := 6) rfl (fun h1 => ?_) (fun h1 => ?_)
 ·
  refine LM.sp 6 rfl rfl rfl (LM.val (ov_field Tryz.underlying135 rfl Tryz.sizeOf3 rfl (k := 0) rfl rfl) (LM.sp 6 rfl rfl rfl ?_))
  refine LM.rd (om_ld Tryz.isAgg3 rfl rfl) ?_
  refine LM.sp 6 rfl rfl rfl ?_
  refine LM.val (ov_leq rfl rfl) ?_
  refine LM.val (ov_pickT rfl rfl) ?_
  refine LM.as rfl ?_
  refine LM.nil (QM.sub (e' := [(2, _)]) ⟨rfl, trivial⟩ (QM.then ?_))
  refine wpM.ret ?_
  refine QM.leave (.inl rfl) [.tmp 2] Tryz.results91 rfl ?_
  intro w' hm' hc' hg'
  refine ⟨?_, hc'⟩; simp only [resV, takesB]; congr 1; first | (rw [decide_eq_false (show ¬ 2 ≤ o.k by omega)]; rfl) | (rw [decide_eq_true (show 2 ≤ o.k by omega)]; rfl)
 refine LM.dr 6 rfl rfl rfl (LM.dr 6 rfl rfl rfl (LM.dr 6 rfl rfl rfl ?_))
 refine LM.val (ov_pickF rfl rfl) ?_
 refine LM.as rfl ?_
 refine LM.nil (QM.sub (e' := [(2, _)]) ⟨rfl, trivial⟩ (QM.then ?_))
 refine wpM.ret ?_
 refine QM.leave (.inl rfl) [.tmp 2] Tryz.results91 rfl ?_
 intro w' hm' hc' hg'
 refine ⟨?_, hc'⟩; simp only [resV, takesB]; congr 1; first | (rw [decide_eq_false (show ¬ 2 ≤ o.k by omega)]; rfl) | (rw [decide_eq_true (show 2 ≤ o.k by omega)]; rfl)
end Go.Eng
