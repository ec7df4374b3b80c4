/- The walks of ops and of programs that may be. No condition. -/
import Derived.Test.YtbndlommbpkijaaGreatDoorM2
set_option linter.unusedVariables false
set_option linter.unusedSimpArgs false
namespace Go.Eng
open Go Go.Proofs Go.RowKit
theorem loA_cases (k : Int) : loA k = -1 ∨ 0 ≤ loA k := by unfold loA; (repeat' split) <;> omega
theorem all_any {α : Type} {p : α → Bool} {xs : List α} : xs.all p = !xs.any (fun o => !p o) := by rw [List.all_eq_not_any_not]
theorem all_snoc {α : Type} {p : α → Bool} {xs : List α} {i : Nat} (d : α) (h : i < xs.length) : (xs.take (i + 1)).all p = ((xs.take i).all p && p (xs.getD i d)) := by
  rw [take_snoc d h, List.all_append]; simp
theorem may_not {xs : List COp} {i : Nat} (h : i < xs.length) (hr : rightB (xs.getD i default) = false) : mayB xs = false := by
  cases hm : mayB xs with
  | false => rfl
  | true => rw [may_at hm h] at hr; cases hr
theorem hasB5 {k b : Int} (h : k = 5) : hasB (loB k) (hiB k) b = (decide (1 ≤ b) && decide (b ≤ 64)) := by subst h; rfl
theorem hasBn {k b : Int} (h : ¬ k = 5) : hasB (loB k) (hiB k) b = decide (b = 0) := by unfold loB hiB; rw [if_neg h, if_neg h]; rfl
abbrev pV (fv : Bool) (ad : Option Addr) (n cap : Nat) : Value := .agg #[.bool fv, .slice ad n cap]
abbrev pB (b : Nat) (fv : Bool) (ad : Option Addr) (n cap : Nat) : Nat × Obj := (b, .cells #[.bool fv, .slice ad n cap] 87 (0, 0))
set_option maxRecDepth 100000 in
theorem names_spec (w : World) : Ret Tryz.prog 141 #[] w (New fB 9 1 nmW w) := by
 refine Ret.enterM (l := []) Tryz.func141 rfl Tryz.ntmps141 rfl ([]) (no) (Mem.nil w) ?_
 refine wpM.seq (wpM.region ?_)
 refine LM.as rfl ?_
 refine LM.nil (QM.sub (e' := []) trivial (QM.then (wpM.seq (wpM.region ?_))))
 refine LM.row (vs := [_, _, _, _, _, _, _, _, _, _, _, _]) Tryz.underlying188 Tryz.sizeOf9 Tryz.zeroValue9 rfl rfl rfl rfl rfl rfl (fun b1 hb1 => ?_)
 refine LM.as rfl ?_
 refine LM.nil (QM.sub (e' := [(0, _)]) ⟨rfl, trivial⟩ (QM.then ?_))
 refine wpM.ret ?_
 refine QM.leave (.inl rfl) [.tmp 0] Tryz.results141 rfl ?_
 intro w' hm' hc' hg'
 exact ⟨hc', [(b1, .cells (arr fB nmW []) 9 (0, 0))], .inr ⟨b1, 12, [], hb1, rfl, rfl, by decide, by unfold maxLen; decide, rfl⟩, hm'⟩
set_option maxRecDepth 100000 in
theorem name_spec (k : Int) (w : World) : Ret Tryz.prog 105 #[.int .i64 k] w (fun v w' => v = vS (nmT k) ∧ Ext w w') := by
 refine Ret.enterM (l := [.int .i64 k]) Tryz.func105 rfl Tryz.ntmps105 rfl ([]) (no) (Mem.nil w) ?_
 refine wpM.seq (wpM.region ?_)
 refine LM.as rfl ?_
 refine LM.nil (QM.sub (e' := [(0, _)]) ⟨rfl, trivial⟩ (QM.then ?_))
 refine wpM.seq ?_
 refine wpM.seq (wpM.region ?_)
 refine LM.mv rfl ?_
 refine LM.val (ov_lss rfl rfl) ?_
 refine LM.mv rfl ?_
 refine LM.splitD (t := 5) rfl (fun h1 => ?_) (fun h1 => ?_)
 ·
  refine LM.dr 5 rfl rfl rfl ?_
  refine LM.dr 5 rfl rfl rfl ?_
  refine LM.dr 5 rfl rfl rfl ?_
  refine LM.dr 5 rfl rfl rfl ?_
  refine LM.val (ov_pickT rfl rfl) ?_
  refine LM.nil (QM.sub (e' := [(0, _), (10, _)]) ⟨rfl, rfl, trivial⟩ (QM.then ?_))
  refine wpM.condT rfl ?_
  refine wpM.seq (wpM.region ?_)
  refine LM.as rfl ?_
  refine LM.nil (QM.sub (e' := [(2, _)]) ⟨rfl, trivial⟩ (QM.then ?_))
  refine wpM.ret ?_
  refine QM.then_ret ?_
  refine QM.leave (.inl rfl) [.tmp 2] Tryz.results105 rfl ?_
  intro w' hm' hc' hg'
  have hl13 : nmW.length = 12 := rfl; refine ⟨?_, hc'⟩; show vS _ = _; congr 1; first | (rw [nmT, if_neg (by omega)]; done) | (rw [nmT, if_pos (by omega)]; rfl)
 refine LM.sp 5 rfl rfl rfl ?_
 refine LM.mv rfl ?_
 refine LM.sp 5 rfl rfl rfl ?_
 refine LM.cS (oc_call (enters_fn Tryz.func141 (by kernel_rfl) rfl) rfl) (fun w hm hc hg => names_spec w) (fun ad7 n7 cap7 m7 hn7 hs7 => ?_)
 refine LM.sp 5 rfl rfl rfl ?_
 refine LM.val (ov_len Tryz.underlying188 rfl) ?_
 refine LM.sp 5 rfl rfl rfl ?_
 have hl12 : n7 = 12 := hn7
 refine LM.val (ov_geq rfl rfl) ?_
 refine LM.val (ov_pickF rfl rfl) ?_
 refine LM.nil (QM.sub (e' := [(0, _), (10, _)]) ⟨rfl, rfl, trivial⟩ (QM.then ?_))
 refine wpM.condD rfl (fun h2 => ?_) (fun h2 => ?_)
 ·
  refine wpM.seq (wpM.region ?_)
  refine LM.as rfl ?_
  refine LM.nil (QM.sub (e' := [(2, _)]) ⟨rfl, trivial⟩ (QM.then ?_))
  refine wpM.ret ?_
  refine QM.then_ret ?_
  refine QM.leave (.inl rfl) [.tmp 2] Tryz.results105 rfl ?_
  intro w' hm' hc' hg'
  have hl13 : nmW.length = 12 := rfl; refine ⟨?_, hc'⟩; show vS _ = _; congr 1; first | (rw [nmT, if_neg (by omega)]; done) | (rw [nmT, if_pos (by omega)]; rfl)
 refine wpM.skip ?_
 refine QM.then (wpM.seq (wpM.region ?_))
 refine LM.cS (oc_call (enters_fn Tryz.func141 (by kernel_rfl) rfl) rfl) (fun w hm hc hg => names_spec w) (fun ad11 n11 cap11 m11 hn11 hs11 => ?_)
 have hl12 : n11 = 12 := hn11
 refine LM.mv rfl ?_
 first | refine LM.val (ov_idxSN au6 Tryz.underlying188 Tryz.sizeOf9 rfl rfl (by omega)) ?_ | refine LM.val (ov_idxS au6 Tryz.underlying188 Tryz.sizeOf9 rfl rfl (by omega)) ?_ | refine LM.val (ov_idx1 Tryz.underlying188 Tryz.sizeOf9 rfl rfl (by omega)) ?_
 refine LM.rd (om_sl1 (by assumption) (by intro _; rfl) Tryz.isAgg9 rfl rfl au3 (by rfl)) ?_
 refine LM.as rfl ?_
 refine LM.nil (QM.sub (e' := [(2, _)]) ⟨rfl, trivial⟩ (QM.then ?_))
 refine wpM.ret ?_
 refine QM.leave (.inl rfl) [.tmp 2] Tryz.results105 rfl ?_
 intro w' hm' hc' hg'
 have hl13 : nmW.length = 12 := rfl; refine ⟨?_, hc'⟩; show vS _ = _; congr 1; first | (rw [nmT, if_neg (by omega)]; done) | (rw [nmT, if_pos (by omega)]; rfl)
set_option maxRecDepth 100000 in
theorem rname_spec (k : Int) (w : World) : Ret Tryz.prog 88 #[.int .i64 k] w (fun v w' => v = vS (nmT k) ∧ Ext w w') := by
 refine Ret.enterM (l := [.int .i64 k]) Tryz.func88 rfl Tryz.ntmps88 rfl ([]) (no) (Mem.nil w) ?_
 refine wpM.seq (wpM.region ?_)
 refine LM.as rfl ?_
 refine LM.nil (QM.sub (e' := [(0, _)]) ⟨rfl, trivial⟩ (QM.then (wpM.seq (wpM.region ?_))))
 refine LM.row (vs := [_, _, _, _, _, _, _, _, _, _, _, _]) Tryz.underlying188 Tryz.sizeOf9 Tryz.zeroValue9 rfl rfl rfl rfl rfl rfl (fun b4 hb4 => ?_)
 refine LM.as rfl ?_
 refine LM.nil (QM.sub (e' := [(0, _), (3, _)]) ⟨rfl, rfl, trivial⟩ (QM.then ?_))
 refine wpM.seq ?_
 refine wpM.seq (wpM.region ?_)
 refine LM.mv rfl ?_
 refine LM.val (ov_lss rfl rfl) ?_
 refine LM.mv rfl ?_
 refine LM.splitD (t := 7) rfl (fun h1 => ?_) (fun h1 => ?_)
 ·
  refine LM.dr 7 rfl rfl rfl ?_
  refine LM.dr 7 rfl rfl rfl ?_
  refine LM.val (ov_pickT rfl rfl) ?_
  refine LM.nil (QM.sub (e' := [(0, _), (3, _), (10, _)]) ⟨rfl, rfl, rfl, trivial⟩ (QM.then ?_))
  refine wpM.condT rfl ?_
  refine wpM.seq (wpM.region ?_)
  refine LM.as rfl ?_
  refine LM.nil (QM.sub (e' := [(2, _)]) ⟨rfl, trivial⟩ (QM.then ?_))
  refine wpM.ret ?_
  refine QM.then_ret ?_
  refine QM.leave (.inl rfl) [.tmp 2] Tryz.results88 rfl ?_
  intro w' hm' hc' hg'
  refine ⟨?_, hc'⟩; show vS _ = _; congr 1; first | (rw [nmT, if_neg (by omega)]; done) | (rw [nmT, if_pos (by omega)]; rfl)
 refine LM.sp 7 rfl rfl rfl ?_
 refine LM.mv rfl ?_
 refine LM.sp 7 rfl rfl rfl ?_
 refine LM.val (ov_gtr rfl rfl) ?_
 refine LM.val (ov_pickF rfl rfl) ?_
 refine LM.nil (QM.sub (e' := [(0, _), (3, _), (10, _)]) ⟨rfl, rfl, rfl, trivial⟩ (QM.then ?_))
 refine wpM.condD rfl (fun h2 => ?_) (fun h2 => ?_)
 ·
  refine wpM.seq (wpM.region ?_)
  refine LM.as rfl ?_
  refine LM.nil (QM.sub (e' := [(2, _)]) ⟨rfl, trivial⟩ (QM.then ?_))
  refine wpM.ret ?_
  refine QM.then_ret ?_
  refine QM.leave (.inl rfl) [.tmp 2] Tryz.results88 rfl ?_
  intro w' hm' hc' hg'
  refine ⟨?_, hc'⟩; show vS _ = _; congr 1; first | (rw [nmT, if_neg (by omega)]; done) | (rw [nmT, if_pos (by omega)]; rfl)
 refine wpM.skip ?_
 refine QM.then (wpM.seq (wpM.region ?_))
 refine LM.mv rfl ?_
 refine LM.mv rfl ?_
 change LM _ _ _ _ _ _ _ _ ((b4, Obj.cells (arr fB nmW []) 9 (0, 0)) :: _) _ _ _; have hs4 : Sl fB 9 1 w.heap.size nmW (.slice (some ⟨b4, 0, none⟩) 12 12) [(b4, .cells (arr fB nmW []) 9 (0, 0))] := .inr ⟨b4, 12, [], hb4, rfl, rfl, by decide, by unfold maxLen; decide, rfl⟩; have hl12 : nmW.length = 12 := rfl
 first | refine LM.val (ov_idxSN au6 Tryz.underlying188 Tryz.sizeOf9 rfl rfl (by omega)) ?_ | refine LM.val (ov_idxS au6 Tryz.underlying188 Tryz.sizeOf9 rfl rfl (by omega)) ?_ | refine LM.val (ov_idx1 Tryz.underlying188 Tryz.sizeOf9 rfl rfl (by omega)) ?_
 refine LM.rd (om_sl1 (by assumption) (by intro _; rfl) Tryz.isAgg9 rfl rfl au3 (by rfl)) ?_
 refine LM.as rfl ?_
 refine LM.nil (QM.sub (e' := [(2, _)]) ⟨rfl, trivial⟩ (QM.then ?_))
 refine wpM.ret ?_
 refine QM.leave (.inl rfl) [.tmp 2] Tryz.results88 rfl ?_
 intro w' hm' hc' hg'
 refine ⟨?_, hc'⟩; show vS _ = _; congr 1; first | (rw [nmT, if_neg (by omega)]; done) | (rw [nmT, if_pos (by omega)]; rfl)
set_option maxRecDepth 100000 in
theorem index_str {xs : List (List UInt8)} {ad : Option Addr} {n cap : Nat} (x : List UInt8) (w : World) (hn : n = xs.length) (hl : Sr fB 1 xs (.slice ad n cap) w) (hx : xs.length ≤ 1000) : Ret Tryz.prog 146 #[.slice ad n cap, vS x] w (fun v w' => v = .int .i64 (fixI (fun y => decide (x = y)) xs) ∧ Ext w w') := by
 refine Ret.enterM (l := [.slice ad n cap, vS x]) Tryz.func146 rfl Tryz.ntmps146 rfl ([]) (no) (Mem.nil w) ?_
 refine wpM.seq (wpM.region ?_)
 refine LM.as rfl ?_
 refine LM.nil (QM.sub (e' := [(0, _), (1, _)]) ⟨rfl, rfl, trivial⟩ (QM.then ?_))
 refine wpM.seq ?_
 refine wpM.seq (wpM.region ?_)
 refine LM.mv rfl ?_
 refine LM.val (ov_len Tryz.underlying188 rfl) ?_
 refine LM.mv rfl ?_
 refine LM.nil (QM.sub (e' := [(0, _), (1, _), (7, _), (8, _)]) ⟨rfl, rfl, rfl, rfl, trivial⟩ (QM.then ?_))
 refine wpM.block ?_
 refine wpM.loopK0 (α := Nat) (fun i => [(8, .int .i64 (i : Nat))]) [(0, _), (1, _), (7, _)] (fun i => []) (fun i => i ≤ xs.length ∧ (xs.take i).any (fun y => decide (x = y)) = false) (fun i => xs.length - i) (0) ⟨au2, rfl, rfl, rfl, trivial⟩ au1 ⟨Nat.zero_le _, rfl⟩ ?_
 rintro i ⟨hi, ha⟩
 change wpM _ _ _ _ _ _ _ ([]) _ _ _
 refine wpM.seq (wpM.region ?_)
 refine LM.val (ov_lss rfl rfl) ?_
 refine LM.nil (QM.sub (e' := [(0, _), (1, _), (7, _), (8, _), (9, _)]) ⟨rfl, rfl, rfl, rfl, rfl, trivial⟩ (QM.then ?_))
 refine wpM.seq ?_
 refine wpM.condD rfl (fun h1 => ?_) (fun h1 => ?_)
 ·
  refine wpM.skip ?_
  refine QM.then ?_
  refine wpM.seq ?_
  refine wpM.block ?_
  refine wpM.seq (wpM.region ?_)
  refine LM.mv rfl ?_
  refine LM.as rfl ?_
  refine LM.nil (QM.sub (e' := [(0, _), (1, _), (5, _), (7, _), (8, _)]) ⟨rfl, rfl, rfl, rfl, rfl, trivial⟩ (QM.then (wpM.seq (wpM.region ?_))))
  refine LM.mv rfl ?_
  refine LM.mv rfl ?_
  refine LM.mv rfl ?_
  refine LM.val (ov_idxSN au6 Tryz.underlying188 Tryz.sizeOf9 rfl rfl (by omega)) ?_
  first | refine LM.rd (om_sl1 (by assumption) (by intro _; rfl) Tryz.isAgg9 rfl rfl au3 (by rfl)) ?_ | refine LM.rdC (om_sr1 (by assumption) Tryz.isAgg9 rfl rfl au3 (by rfl) id) ?_ | refine LM.rd (om_ld Tryz.isAgg9 rfl rfl) ?_
  refine LM.val (ov_seqlL rfl rfl) ?_
  refine LM.nil (QM.sub (e' := [(0, _), (1, _), (5, _), (7, _), (8, _), (16, _)]) ⟨rfl, rfl, rfl, rfl, rfl, rfl, trivial⟩ (QM.then ?_))
  refine wpM.condD rfl (fun h2 => ?_) (fun h2 => ?_)
  ·
   refine wpM.seq (wpM.region ?_)
   refine LM.mv rfl ?_
   refine LM.as rfl ?_
   refine LM.nil (QM.sub (e' := [(4, _)]) ⟨rfl, trivial⟩ (QM.then ?_))
   refine wpM.ret ?_
   refine QM.block_ret ?_
   refine QM.then_ret ?_
   refine QM.then_ret ?_
   refine QM.block_ret ?_
   refine QM.then_ret ?_
   refine QM.leave (.inl rfl) [.tmp 4] Tryz.results146 rfl ?_
   intro w' hm' hc' hg'
   exact ⟨by show Value.int .i64 _ = _; rw [fix_hit [] ha (by omega) (decide_eq_true h2)], hc'⟩
  refine wpM.skip ?_
  refine QM.block_normal ?_
  refine QM.then (wpM.region ?_)
  refine LM.val (ov_add64 rfl rfl (by omega)) ?_
  refine LM.mv rfl ?_
  refine LM.nil (QM.sub (e' := [(0, _), (1, _), (7, _), (8, _)]) ⟨rfl, rfl, rfl, rfl, trivial⟩ ?_)
  refine QM.againK (i + 1) ⟨au2, rfl, rfl, rfl, trivial⟩ au1 (fun _ h => h) ?_ ?_
  · exact ⟨by omega, by rw [any_snoc [] (by omega), ha, Bool.false_or]; exact decide_eq_false h2⟩
  · omega
 refine wpM.exit ?_
 refine QM.then_exit ?_
 refine QM.then_exit ?_
 refine QM.block_hit ?_
 refine QM.then (wpM.seq (wpM.region ?_))
 refine LM.as rfl ?_
 refine LM.nil (QM.sub (e' := [(4, _)]) ⟨rfl, trivial⟩ (QM.then ?_))
 refine wpM.ret ?_
 refine QM.leave (.inl rfl) [.tmp 4] Tryz.results146 rfl ?_
 intro w' hm' hc' hg'
 have hil : i = xs.length := (by omega); subst hil; rw [List.take_length] at ha; exact ⟨by show Value.int .i64 _ = _; rw [fix_miss ha], hc'⟩
set_option maxRecDepth 100000 in
theorem spans_spec (k : Int) (w : World) : Ret Tryz.prog 106 #[.int .i64 k] w (fun v w' => v = .tuple #[.agg #[.int .i64 (loA k), .int .i64 (hiA k)], .agg #[.int .i64 (loB k), .int .i64 (hiB k)]] ∧ Ext w w') := by
 refine Ret.enterM (l := [.int .i64 k]) Tryz.func106 rfl Tryz.ntmps106 rfl ([]) (no) (Mem.nil w) ?_
 refine wpM.seq (wpM.region ?_)
 refine LM.alloc Tryz.zeroValue159 rfl (fun b2 hb2 => ?_)
 refine LM.alloc Tryz.zeroValue159 rfl (fun b3 hb3 => ?_)
 refine LM.nil (QM.sub (e' := [(0, _), (2, _), (3, _)]) ⟨rfl, rfl, rfl, trivial⟩ (QM.then (wpM.seq (wpM.region ?_))))
 refine LM.val (ov_build (cs := #[_, _]) rfl (by first | rfl | kernel_rfl)) ?_
 refine LM.alloc Tryz.zeroValue159 rfl (fun b4 hb4 => ?_)
 refine LM.stW Tryz.sizeOf159 rfl rfl rfl rfl au7 au8 ?_
 refine LM.nil (QM.sub (e' := [(0, _), (2, _), (3, _), (4, _)]) ⟨rfl, rfl, rfl, rfl, trivial⟩ (QM.then ?_))
 refine wpM.seq ?_
 refine wpM.seq (wpM.region ?_)
 refine LM.mv rfl ?_
 refine LM.nil (QM.sub (e' := [(2, _), (3, _), (4, _), (6, _)]) ⟨rfl, rfl, rfl, rfl, trivial⟩ (QM.then ?_))
 refine wpM.block ?_
 refine wpM.seq (wpM.region ?_)
 refine LM.val (ov_eql rfl rfl) ?_
 refine LM.as rfl ?_
 refine LM.nil (QM.sub (e' := [(2, _), (3, _), (4, _), (6, _), (7, _)]) ⟨rfl, rfl, rfl, rfl, rfl, trivial⟩ (QM.then ?_))
 refine wpM.condD rfl (fun h1 => ?_) (fun h1 => ?_)
 ·
  refine wpM.seq ?_
  refine wpM.toAltO (b2) [.cells #[.int .i64 0, .int .i64 0] 159 (0, 0), .cells #[.int .i64 (1), .int .i64 (16)] 159 (0, 0)] (by first | exact .head _ | (simp; done)) (fun hMc => ?_)
  refine wpM.draw [(0, 0), (1, 1), (2, 2), (3, 3)] (by kernel_rfl) (by kernel_rfl) ?_
  refine LD.val rfl rfl (ov_build (cs := #[_, _]) rfl (by first | rfl | kernel_rfl)) ?_
  refine LD.rd rfl rfl (om_ldW Tryz.isAgg159 Tryz.sizeOf159 rfl rfl) ?_
  refine LD.stAltO [.cells #[.int .i64 (1), .int .i64 (16)] 159 (0, 0)] rfl rfl Tryz.sizeOf159 rfl rfl rfl (by decide) (by simp) (by simp only [List.forall_mem_cons, List.not_mem_nil, false_implies, implies_true, and_true]; exact ⟨⟨_, _, rfl, by decide, .head _⟩, ⟨_, _, rfl, by decide, .head _⟩⟩) au8 hMc ?_
  refine LD.tail rfl rfl ?_
  refine LM.ofAltO ?_
  refine LM.stW Tryz.sizeOf159 rfl rfl rfl rfl au7 au8 ?_
  refine LM.nil ?_
  refine QM.qn ?_
  refine QM.sub (e' := [(2, _), (3, _)]) ⟨rfl, rfl, trivial⟩ (QM.then ?_)
  refine wpM.ret ?_
  refine QM.block_ret ?_
  refine QM.then_ret ?_
  refine QM.leaveCs (ds := ([])) (.inl rfl) [.cell 2 159, .cell 3 159] Tryz.results106 hd_nil (rc_w rfl Tryz.isAgg159 Tryz.sizeOf159 rfl (rc_w rfl Tryz.isAgg159 Tryz.sizeOf159 rfl rc_nil)) ?_
  intro w' hm' hc'
  refine ⟨?_, hc'⟩; simp only [resV, loA, hiA, loB, hiB]; try ((repeat' split) <;> first | rfl | omega)
 refine wpM.seq ?_
 refine wpM.seq (wpM.region ?_)
 refine LM.val (ov_eql rfl rfl) ?_
 refine LM.as rfl ?_
 refine LM.nil (QM.sub (e' := [(2, _), (3, _), (4, _), (6, _), (11, _)]) ⟨rfl, rfl, rfl, rfl, rfl, trivial⟩ (QM.then ?_))
 refine wpM.condXD (t := 11) rfl (fun h2 => ?_) (fun h2 => ?_)
 ·
  refine wpM.skip ?_
  refine QM.then ?_
  refine wpM.condT rfl ?_
  refine wpM.seq ?_
  refine wpM.toAltO (b2) [.cells #[.int .i64 0, .int .i64 0] 159 (0, 0), .cells #[.int .i64 (0), .int .i64 (7)] 159 (0, 0)] (by first | exact .head _ | (simp; done)) (fun hMc => ?_)
  refine wpM.draw [(0, 0), (1, 1), (2, 2), (3, 3)] (by kernel_rfl) (by kernel_rfl) ?_
  refine LD.val rfl rfl (ov_build (cs := #[_, _]) rfl (by first | rfl | kernel_rfl)) ?_
  refine LD.rd rfl rfl (om_ldW Tryz.isAgg159 Tryz.sizeOf159 rfl rfl) ?_
  refine LD.stAltO [.cells #[.int .i64 (0), .int .i64 (7)] 159 (0, 0)] rfl rfl Tryz.sizeOf159 rfl rfl rfl (by decide) (by simp) (by simp only [List.forall_mem_cons, List.not_mem_nil, false_implies, implies_true, and_true]; exact ⟨⟨_, _, rfl, by decide, .head _⟩, ⟨_, _, rfl, by decide, .head _⟩⟩) au8 hMc ?_
  refine LD.tail rfl rfl ?_
  refine LM.ofAltO ?_
  refine LM.stW Tryz.sizeOf159 rfl rfl rfl rfl au7 au8 ?_
  refine LM.nil ?_
  refine QM.qn ?_
  refine QM.sub (e' := [(2, _), (3, _)]) ⟨rfl, rfl, trivial⟩ (QM.then ?_)
  refine wpM.ret ?_
  refine QM.block_ret ?_
  refine QM.then_ret ?_
  refine QM.leaveCs (ds := ([])) (.inl rfl) [.cell 2 159, .cell 3 159] Tryz.results106 hd_nil (rc_w rfl Tryz.isAgg159 Tryz.sizeOf159 rfl (rc_w rfl Tryz.isAgg159 Tryz.sizeOf159 rfl rc_nil)) ?_
  intro w' hm' hc'
  refine ⟨?_, hc'⟩; simp only [resV, loA, hiA, loB, hiB]; try ((repeat' split) <;> first | rfl | omega)
 refine wpM.seq (wpM.region ?_)
 refine LM.val (ov_eql rfl rfl) ?_
 refine LM.as rfl ?_
 refine LM.nil (QM.sub (e' := [(2, _), (3, _), (4, _), (6, _), (11, _)]) ⟨rfl, rfl, rfl, rfl, rfl, trivial⟩ (QM.then ?_))
 refine wpM.condXD (t := 11) rfl (fun h3 => ?_) (fun h3 => ?_)
 ·
  refine wpM.skip ?_
  refine QM.then ?_
  refine wpM.condT rfl ?_
  refine wpM.seq ?_
  refine wpM.toAltO (b2) [.cells #[.int .i64 0, .int .i64 0] 159 (0, 0), .cells #[.int .i64 (0), .int .i64 (7)] 159 (0, 0)] (by first | exact .head _ | (simp; done)) (fun hMc => ?_)
  refine wpM.draw [(0, 0), (1, 1), (2, 2), (3, 3)] (by kernel_rfl) (by kernel_rfl) ?_
  refine LD.val rfl rfl (ov_build (cs := #[_, _]) rfl (by first | rfl | kernel_rfl)) ?_
  refine LD.rd rfl rfl (om_ldW Tryz.isAgg159 Tryz.sizeOf159 rfl rfl) ?_
  refine LD.stAltO [.cells #[.int .i64 (0), .int .i64 (7)] 159 (0, 0)] rfl rfl Tryz.sizeOf159 rfl rfl rfl (by decide) (by simp) (by simp only [List.forall_mem_cons, List.not_mem_nil, false_implies, implies_true, and_true]; exact ⟨⟨_, _, rfl, by decide, .head _⟩, ⟨_, _, rfl, by decide, .head _⟩⟩) au8 hMc ?_
  refine LD.tail rfl rfl ?_
  refine LM.ofAltO ?_
  refine LM.stW Tryz.sizeOf159 rfl rfl rfl rfl au7 au8 ?_
  refine LM.nil ?_
  refine QM.qn ?_
  refine QM.sub (e' := [(2, _), (3, _)]) ⟨rfl, rfl, trivial⟩ (QM.then ?_)
  refine wpM.ret ?_
  refine QM.block_ret ?_
  refine QM.then_ret ?_
  refine QM.leaveCs (ds := ([])) (.inl rfl) [.cell 2 159, .cell 3 159] Tryz.results106 hd_nil (rc_w rfl Tryz.isAgg159 Tryz.sizeOf159 rfl (rc_w rfl Tryz.isAgg159 Tryz.sizeOf159 rfl rc_nil)) ?_
  intro w' hm' hc'
  refine ⟨?_, hc'⟩; simp only [resV, loA, hiA, loB, hiB]; try ((repeat' split) <;> first | rfl | omega)
 refine wpM.seq (wpM.region ?_)
 refine LM.val (ov_eql rfl rfl) ?_
 refine LM.as rfl ?_
 refine LM.nil (QM.sub (e' := [(2, _), (3, _), (4, _), (6, _), (11, _)]) ⟨rfl, rfl, rfl, rfl, rfl, trivial⟩ (QM.then ?_))
 refine wpM.condXD (t := 11) rfl (fun h4 => ?_) (fun h4 => ?_)
 ·
  refine wpM.skip ?_
  refine QM.then ?_
  refine wpM.condT rfl ?_
  refine wpM.seq ?_
  refine wpM.toAltO (b2) [.cells #[.int .i64 0, .int .i64 0] 159 (0, 0), .cells #[.int .i64 (0), .int .i64 (7)] 159 (0, 0)] (by first | exact .head _ | (simp; done)) (fun hMc => ?_)
  refine wpM.draw [(0, 0), (1, 1), (2, 2), (3, 3)] (by kernel_rfl) (by kernel_rfl) ?_
  refine LD.val rfl rfl (ov_build (cs := #[_, _]) rfl (by first | rfl | kernel_rfl)) ?_
  refine LD.rd rfl rfl (om_ldW Tryz.isAgg159 Tryz.sizeOf159 rfl rfl) ?_
  refine LD.stAltO [.cells #[.int .i64 (0), .int .i64 (7)] 159 (0, 0)] rfl rfl Tryz.sizeOf159 rfl rfl rfl (by decide) (by simp) (by simp only [List.forall_mem_cons, List.not_mem_nil, false_implies, implies_true, and_true]; exact ⟨⟨_, _, rfl, by decide, .head _⟩, ⟨_, _, rfl, by decide, .head _⟩⟩) au8 hMc ?_
  refine LD.tail rfl rfl ?_
  refine LM.ofAltO ?_
  refine LM.stW Tryz.sizeOf159 rfl rfl rfl rfl au7 au8 ?_
  refine LM.nil ?_
  refine QM.qn ?_
  refine QM.sub (e' := [(2, _), (3, _)]) ⟨rfl, rfl, trivial⟩ (QM.then ?_)
  refine wpM.ret ?_
  refine QM.block_ret ?_
  refine QM.then_ret ?_
  refine QM.leaveCs (ds := ([])) (.inl rfl) [.cell 2 159, .cell 3 159] Tryz.results106 hd_nil (rc_w rfl Tryz.isAgg159 Tryz.sizeOf159 rfl (rc_w rfl Tryz.isAgg159 Tryz.sizeOf159 rfl rc_nil)) ?_
  intro w' hm' hc'
  refine ⟨?_, hc'⟩; simp only [resV, loA, hiA, loB, hiB]; try ((repeat' split) <;> first | rfl | omega)
 refine wpM.seq (wpM.region ?_)
 refine LM.val (ov_eql rfl rfl) ?_
 refine LM.as rfl ?_
 refine LM.nil (QM.sub (e' := [(2, _), (3, _), (4, _), (6, _), (11, _)]) ⟨rfl, rfl, rfl, rfl, rfl, trivial⟩ (QM.then ?_))
 refine wpM.condXD (t := 11) rfl (fun h5 => ?_) (fun h5 => ?_)
 ·
  refine wpM.skip ?_
  refine QM.then ?_
  refine wpM.condT rfl ?_
  refine wpM.seq ?_
  refine wpM.toAltO (b2) [.cells #[.int .i64 0, .int .i64 0] 159 (0, 0), .cells #[.int .i64 (0), .int .i64 (7)] 159 (0, 0)] (by first | exact .head _ | (simp; done)) (fun hMc => ?_)
  refine wpM.draw [(0, 0), (1, 1), (2, 2), (3, 3)] (by kernel_rfl) (by kernel_rfl) ?_
  refine LD.val rfl rfl (ov_build (cs := #[_, _]) rfl (by first | rfl | kernel_rfl)) ?_
  refine LD.rd rfl rfl (om_ldW Tryz.isAgg159 Tryz.sizeOf159 rfl rfl) ?_
  refine LD.stAltO [.cells #[.int .i64 (0), .int .i64 (7)] 159 (0, 0)] rfl rfl Tryz.sizeOf159 rfl rfl rfl (by decide) (by simp) (by simp only [List.forall_mem_cons, List.not_mem_nil, false_implies, implies_true, and_true]; exact ⟨⟨_, _, rfl, by decide, .head _⟩, ⟨_, _, rfl, by decide, .head _⟩⟩) au8 hMc ?_
  refine LD.tail rfl rfl ?_
  refine LM.ofAltO ?_
  refine LM.stW Tryz.sizeOf159 rfl rfl rfl rfl au7 au8 ?_
  refine LM.nil ?_
  refine QM.qn ?_
  refine QM.sub (e' := [(2, _), (3, _)]) ⟨rfl, rfl, trivial⟩ (QM.then ?_)
  refine wpM.ret ?_
  refine QM.block_ret ?_
  refine QM.then_ret ?_
  refine QM.leaveCs (ds := ([])) (.inl rfl) [.cell 2 159, .cell 3 159] Tryz.results106 hd_nil (rc_w rfl Tryz.isAgg159 Tryz.sizeOf159 rfl (rc_w rfl Tryz.isAgg159 Tryz.sizeOf159 rfl rc_nil)) ?_
  intro w' hm' hc'
  refine ⟨?_, hc'⟩; simp only [resV, loA, hiA, loB, hiB]; try ((repeat' split) <;> first | rfl | omega)
 refine wpM.region ?_
 refine LM.val (ov_eql rfl rfl) ?_
 refine LM.as rfl ?_
 refine LM.nil (QM.sub (e' := [(2, _), (3, _), (4, _), (6, _), (11, _)]) ⟨rfl, rfl, rfl, rfl, rfl, trivial⟩ (QM.then ?_))
 refine wpM.condD rfl (fun h6 => ?_) (fun h6 => ?_)
 ·
  refine wpM.seq ?_
  refine wpM.toAltO (b2) [.cells #[.int .i64 0, .int .i64 0] 159 (0, 0), .cells #[.int .i64 (0), .int .i64 (7)] 159 (0, 0)] (by first | exact .head _ | (simp; done)) (fun hMc => ?_)
  refine wpM.draw [(0, 0), (1, 1), (2, 2), (3, 3)] (by kernel_rfl) (by kernel_rfl) ?_
  refine LD.val rfl rfl (ov_build (cs := #[_, _]) rfl (by first | rfl | kernel_rfl)) ?_
  refine LD.rd rfl rfl (om_ldW Tryz.isAgg159 Tryz.sizeOf159 rfl rfl) ?_
  refine LD.stAltO [.cells #[.int .i64 (0), .int .i64 (7)] 159 (0, 0)] rfl rfl Tryz.sizeOf159 rfl rfl rfl (by decide) (by simp) (by simp only [List.forall_mem_cons, List.not_mem_nil, false_implies, implies_true, and_true]; exact ⟨⟨_, _, rfl, by decide, .head _⟩, ⟨_, _, rfl, by decide, .head _⟩⟩) au8 hMc ?_
  refine LD.tail rfl rfl ?_
  refine LM.ofAltO ?_
  refine LM.stW Tryz.sizeOf159 rfl rfl rfl rfl au7 au8 ?_
  refine LM.nil ?_
  refine QM.qn ?_
  refine QM.sub (e' := [(2, _), (3, _)]) ⟨rfl, rfl, trivial⟩ (QM.then ?_)
  refine wpM.ret ?_
  refine QM.block_ret ?_
  refine QM.then_ret ?_
  refine QM.leaveCs (ds := ([])) (.inl rfl) [.cell 2 159, .cell 3 159] Tryz.results106 hd_nil (rc_w rfl Tryz.isAgg159 Tryz.sizeOf159 rfl (rc_w rfl Tryz.isAgg159 Tryz.sizeOf159 rfl rc_nil)) ?_
  intro w' hm' hc'
  refine ⟨?_, hc'⟩; simp only [resV, loA, hiA, loB, hiB]; try ((repeat' split) <;> first | rfl | omega)
 refine wpM.seq (wpM.region ?_)
 refine LM.val (ov_eql rfl rfl) ?_
 refine LM.as rfl ?_
 refine LM.nil (QM.sub (e' := [(2, _), (3, _), (4, _), (6, _), (19, _)]) ⟨rfl, rfl, rfl, rfl, rfl, trivial⟩ (QM.then ?_))
 refine wpM.condD rfl (fun h7 => ?_) (fun h7 => ?_)
 ·
  refine wpM.seq (wpM.region ?_)
  refine LM.val (ov_build (cs := #[_, _]) rfl (by first | rfl | kernel_rfl)) ?_
  refine LM.val (ov_build (cs := #[_, _]) rfl (by first | rfl | kernel_rfl)) ?_
  refine LM.stW Tryz.sizeOf159 rfl rfl rfl rfl au7 au8 ?_
  refine LM.stW Tryz.sizeOf159 rfl rfl rfl rfl au7 au8 ?_
  refine LM.nil (QM.sub (e' := [(2, _), (3, _)]) ⟨rfl, rfl, trivial⟩ (QM.then ?_))
  refine wpM.ret ?_
  refine QM.block_ret ?_
  refine QM.then_ret ?_
  refine QM.leaveCs (ds := ([])) (.inl rfl) [.cell 2 159, .cell 3 159] Tryz.results106 hd_nil (rc_w rfl Tryz.isAgg159 Tryz.sizeOf159 rfl (rc_w rfl Tryz.isAgg159 Tryz.sizeOf159 rfl rc_nil)) ?_
  intro w' hm' hc'
  refine ⟨?_, hc'⟩; simp only [resV, loA, hiA, loB, hiB]; try ((repeat' split) <;> first | rfl | omega)
 refine wpM.seq (wpM.region ?_)
 refine LM.val (ov_eql rfl rfl) ?_
 refine LM.as rfl ?_
 refine LM.nil (QM.sub (e' := [(2, _), (3, _), (4, _), (6, _), (23, _)]) ⟨rfl, rfl, rfl, rfl, rfl, trivial⟩ (QM.then ?_))
 refine wpM.condD rfl (fun h8 => ?_) (fun h8 => ?_)
 ·
  refine wpM.seq ?_
  refine wpM.toAltO (b2) [.cells #[.int .i64 0, .int .i64 0] 159 (0, 0), .cells #[.int .i64 (1), .int .i64 (64)] 159 (0, 0)] (by first | exact .head _ | (simp; done)) (fun hMc => ?_)
  refine wpM.draw [(0, 0), (1, 1), (2, 2), (3, 3)] (by kernel_rfl) (by kernel_rfl) ?_
  refine LD.val rfl rfl (ov_build (cs := #[_, _]) rfl (by first | rfl | kernel_rfl)) ?_
  refine LD.rd rfl rfl (om_ldW Tryz.isAgg159 Tryz.sizeOf159 rfl rfl) ?_
  refine LD.stAltO [.cells #[.int .i64 (1), .int .i64 (64)] 159 (0, 0)] rfl rfl Tryz.sizeOf159 rfl rfl rfl (by decide) (by simp) (by simp only [List.forall_mem_cons, List.not_mem_nil, false_implies, implies_true, and_true]; exact ⟨⟨_, _, rfl, by decide, .head _⟩, ⟨_, _, rfl, by decide, .head _⟩⟩) au8 hMc ?_
  refine LD.tail rfl rfl ?_
  refine LM.ofAltO ?_
  refine LM.stW Tryz.sizeOf159 rfl rfl rfl rfl au7 au8 ?_
  refine LM.nil ?_
  refine QM.qn ?_
  refine QM.sub (e' := [(2, _), (3, _)]) ⟨rfl, rfl, trivial⟩ (QM.then ?_)
  refine wpM.ret ?_
  refine QM.block_ret ?_
  refine QM.then_ret ?_
  refine QM.leaveCs (ds := ([])) (.inl rfl) [.cell 2 159, .cell 3 159] Tryz.results106 hd_nil (rc_w rfl Tryz.isAgg159 Tryz.sizeOf159 rfl (rc_w rfl Tryz.isAgg159 Tryz.sizeOf159 rfl rc_nil)) ?_
  intro w' hm' hc'
  refine ⟨?_, hc'⟩; simp only [resV, loA, hiA, loB, hiB]; try ((repeat' split) <;> first | rfl | omega)
 refine wpM.seq (wpM.region ?_)
 refine LM.val (ov_eql rfl rfl) ?_
 refine LM.as rfl ?_
 refine LM.nil (QM.sub (e' := [(2, _), (3, _), (4, _), (27, _)]) ⟨rfl, rfl, rfl, rfl, trivial⟩ (QM.then ?_))
 refine wpM.condD rfl (fun h9 => ?_) (fun h9 => ?_)
 ·
  refine wpM.seq ?_
  refine wpM.toAltO (b2) [.cells #[.int .i64 0, .int .i64 0] 159 (0, 0), .cells #[.int .i64 (1), .int .i64 (16)] 159 (0, 0)] (by first | exact .head _ | (simp; done)) (fun hMc => ?_)
  refine wpM.draw [(0, 0), (1, 1), (2, 2), (3, 3)] (by kernel_rfl) (by kernel_rfl) ?_
  refine LD.val rfl rfl (ov_build (cs := #[_, _]) rfl (by first | rfl | kernel_rfl)) ?_
  refine LD.rd rfl rfl (om_ldW Tryz.isAgg159 Tryz.sizeOf159 rfl rfl) ?_
  refine LD.stAltO [.cells #[.int .i64 (1), .int .i64 (16)] 159 (0, 0)] rfl rfl Tryz.sizeOf159 rfl rfl rfl (by decide) (by simp) (by simp only [List.forall_mem_cons, List.not_mem_nil, false_implies, implies_true, and_true]; exact ⟨⟨_, _, rfl, by decide, .head _⟩, ⟨_, _, rfl, by decide, .head _⟩⟩) au8 hMc ?_
  refine LD.tail rfl rfl ?_
  refine LM.ofAltO ?_
  refine LM.stW Tryz.sizeOf159 rfl rfl rfl rfl au7 au8 ?_
  refine LM.nil ?_
  refine QM.qn ?_
  refine QM.sub (e' := [(2, _), (3, _)]) ⟨rfl, rfl, trivial⟩ (QM.then ?_)
  refine wpM.ret ?_
  refine QM.block_ret ?_
  refine QM.then_ret ?_
  refine QM.leaveCs (ds := ([])) (.inl rfl) [.cell 2 159, .cell 3 159] Tryz.results106 hd_nil (rc_w rfl Tryz.isAgg159 Tryz.sizeOf159 rfl (rc_w rfl Tryz.isAgg159 Tryz.sizeOf159 rfl rc_nil)) ?_
  intro w' hm' hc'
  refine ⟨?_, hc'⟩; simp only [resV, loA, hiA, loB, hiB]; try ((repeat' split) <;> first | rfl | omega)
 refine wpM.skip ?_
 refine QM.block_normal ?_
 refine QM.then ?_
 refine wpM.seq ?_
 refine wpM.toAltO (b2) [.cells #[.int .i64 0, .int .i64 0] 159 (0, 0), .cells #[.int .i64 (-1), .int .i64 (-1)] 159 (0, 0)] (by first | exact .head _ | (simp; done)) (fun hMc => ?_)
 refine wpM.draw [(0, 1), (1, 1), (2, 2), (3, 3)] (by kernel_rfl) (by kernel_rfl) ?_
 refine LD.rd rfl rfl (om_ldW Tryz.isAgg159 Tryz.sizeOf159 rfl rfl) ?_
 refine LD.rd rfl rfl (om_ldW Tryz.isAgg159 Tryz.sizeOf159 rfl rfl) ?_
 refine LD.stAltO [.cells #[.int .i64 (-1), .int .i64 (-1)] 159 (0, 0)] rfl rfl Tryz.sizeOf159 rfl rfl rfl (by decide) (by simp) (by simp only [List.forall_mem_cons, List.not_mem_nil, false_implies, implies_true, and_true]; exact ⟨⟨_, _, rfl, by decide, .head _⟩, ⟨_, _, rfl, by decide, .head _⟩⟩) au8 hMc ?_
 refine LD.tail rfl rfl ?_
 refine LM.ofAltO ?_
 refine LM.stW Tryz.sizeOf159 rfl rfl rfl rfl au7 au8 ?_
 refine LM.nil ?_
 refine QM.qn ?_
 refine QM.sub (e' := [(2, _), (3, _)]) ⟨rfl, rfl, trivial⟩ (QM.then ?_)
 refine wpM.ret ?_
 refine QM.leaveCs (ds := ([])) (.inl rfl) [.cell 2 159, .cell 3 159] Tryz.results106 hd_nil (rc_w rfl Tryz.isAgg159 Tryz.sizeOf159 rfl (rc_w rfl Tryz.isAgg159 Tryz.sizeOf159 rfl rc_nil)) ?_
 intro w' hm' hc'
 refine ⟨?_, hc'⟩; simp only [resV, loA, hiA, loB, hiB]; try ((repeat' split) <;> first | rfl | omega)
set_option maxRecDepth 100000 in
theorem has_spec (lo hi n : Int) (w : World) : Ret Tryz.prog 165 #[.agg #[.int .i64 lo, .int .i64 hi], .int .i64 n] w (fun v w' => v = .bool (hasB lo hi n) ∧ Ext w w') := by
 refine Ret.enterM (l := [.agg #[.int .i64 lo, .int .i64 hi], .int .i64 n]) Tryz.func165 rfl Tryz.ntmps165 rfl ([]) (no) (Mem.nil w) ?_
 refine wpM.seq (wpM.region ?_)
 refine LM.box rfl rfl (fun b2 hb2 => ?_)
 refine LM.as rfl ?_
 refine LM.nil (QM.sub (e' := [(1, _), (2, _)]) ⟨rfl, rfl, trivial⟩ (QM.then ?_))
 refine wpM.seq ?_
 refine wpM.seq (wpM.region ?_)
 refine LM.val (ov_field Tryz.underlying159 rfl Tryz.sizeOf3 rfl (k := 0) rfl rfl) ?_
 refine LM.rd (om_ld Tryz.isAgg3 rfl rfl) ?_
 refine LM.val (ov_eql rfl rfl) ?_
 refine LM.nil (QM.sub (e' := [(1, _), (2, _), (7, _)]) ⟨rfl, rfl, rfl, trivial⟩ (QM.then ?_))
 refine wpM.condD rfl (fun h1 => ?_) (fun h1 => ?_)
 ·
  refine wpM.seq (wpM.region ?_)
  refine LM.mv rfl ?_
  refine LM.val (ov_eql rfl rfl) ?_
  refine LM.as rfl ?_
  refine LM.nil (QM.sub (e' := [(4, _)]) ⟨rfl, trivial⟩ (QM.then ?_))
  refine wpM.ret ?_
  refine QM.then_ret ?_
  refine QM.leave (.inl rfl) [.tmp 4] Tryz.results165 rfl ?_
  intro w' hm' hc' hg'
  refine ⟨?_, hc'⟩; simp only [resV, hasB]; simp only [h1, decide_true, decide_false, Bool.true_and, Bool.false_and, Bool.and_true, Bool.and_false, Bool.not_true, Bool.not_false, Bool.true_or, Bool.false_or, Bool.or_true, Bool.or_false, ne_eq, not_true_eq_false, not_false_eq_true, Bool.and_self, if_true, if_false, reduceIte]
 refine wpM.skip ?_
 refine QM.then (wpM.seq (wpM.region ?_))
 refine LM.mv rfl ?_
 refine LM.val (ov_field Tryz.underlying159 rfl Tryz.sizeOf3 rfl (k := 0) rfl rfl) ?_
 refine LM.rd (om_ld Tryz.isAgg3 rfl rfl) ?_
 refine LM.val (ov_geq rfl rfl) ?_
 refine LM.mv rfl ?_
 refine LM.splitD (t := 14) rfl (fun h2 => ?_) (fun h2 => ?_)
 ·
  refine LM.sp 14 rfl rfl rfl ?_
  refine LM.mv rfl ?_
  refine LM.sp 14 rfl rfl rfl ?_
  refine LM.val (ov_field Tryz.underlying159 rfl Tryz.sizeOf3 rfl (k := 1) rfl rfl) ?_
  refine LM.sp 14 rfl rfl rfl ?_
  refine LM.rd (om_ld Tryz.isAgg3 rfl rfl) ?_
  refine LM.sp 14 rfl rfl rfl ?_
  refine LM.val (ov_leq rfl rfl) ?_
  refine LM.val (ov_pickT rfl rfl) ?_
  refine LM.as rfl ?_
  refine LM.nil (QM.sub (e' := [(4, _)]) ⟨rfl, trivial⟩ (QM.then ?_))
  refine wpM.ret ?_
  refine QM.leave (.inl rfl) [.tmp 4] Tryz.results165 rfl ?_
  intro w' hm' hc' hg'
  refine ⟨?_, hc'⟩; simp only [resV, hasB]; simp only [h1, h2, decide_true, decide_false, Bool.true_and, Bool.false_and, Bool.and_true, Bool.and_false, Bool.not_true, Bool.not_false, Bool.true_or, Bool.false_or, Bool.or_true, Bool.or_false, ne_eq, not_true_eq_false, not_false_eq_true, Bool.and_self, if_true, if_false, reduceIte]
 refine LM.dr 14 rfl rfl rfl ?_
 refine LM.dr 14 rfl rfl rfl ?_
 refine LM.dr 14 rfl rfl rfl ?_
 refine LM.dr 14 rfl rfl rfl ?_
 refine LM.val (ov_pickF rfl rfl) ?_
 refine LM.as rfl ?_
 refine LM.nil (QM.sub (e' := [(4, _)]) ⟨rfl, trivial⟩ (QM.then ?_))
 refine wpM.ret ?_
 refine QM.leave (.inl rfl) [.tmp 4] Tryz.results165 rfl ?_
 intro w' hm' hc' hg'
 refine ⟨?_, hc'⟩; simp only [resV, hasB]; simp only [h1, h2, decide_true, decide_false, Bool.true_and, Bool.false_and, Bool.and_true, Bool.and_false, Bool.not_true, Bool.not_false, Bool.true_or, Bool.false_or, Bool.or_true, Bool.or_false, ne_eq, not_true_eq_false, not_false_eq_true, Bool.and_self, if_true, if_false, reduceIte]
set_option maxRecDepth 100000 in
theorem right_spec (o : COp) (w : World) : Ret Tryz.prog 140 #[.agg (fO o).toArray] w (fun v w' => v = .bool (rightB o) ∧ Ext w w') := by
 refine Ret.enterM (l := [.agg (fO o).toArray]) Tryz.func140 rfl Tryz.ntmps140 rfl ([]) (no) (Mem.nil w) ?_
 refine wpM.seq (wpM.region ?_)
 refine LM.box rfl rfl (fun b1 hb1 => ?_)
 refine LM.as rfl ?_
 refine LM.nil (QM.sub (e' := [(1, _)]) ⟨rfl, trivial⟩ (QM.then (wpM.seq (wpM.region ?_))))
 refine LM.val (ov_field Tryz.underlying135 rfl Tryz.sizeOf3 rfl (k := 0) rfl rfl) ?_
 refine LM.rd (om_ld Tryz.isAgg3 rfl rfl) ?_
 refine LM.callE (oc_call (enters_fn Tryz.func106 (by kernel_rfl) rfl) rfl) (fun w hm hc hg => spans_spec o.k w) ?_
 refine LM.mv rfl ?_
 refine LM.val (ov_extract rfl rfl) ?_
 refine LM.val (ov_extract rfl rfl) ?_
 refine LM.alloc Tryz.zeroValue159 rfl (fun b3 hb3 => ?_)
 refine LM.alloc Tryz.zeroValue159 rfl (fun b4 hb4 => ?_)
 refine LM.stW Tryz.sizeOf159 rfl rfl rfl rfl au7 au8 ?_
 refine LM.stW Tryz.sizeOf159 rfl rfl rfl rfl au7 au8 ?_
 refine LM.nil (QM.sub (e' := [(1, _), (3, _), (4, _)]) ⟨rfl, rfl, rfl, trivial⟩ (QM.then (wpM.seq (wpM.region ?_))))
 refine LM.val (ov_field Tryz.underlying135 rfl Tryz.sizeOf3 rfl (k := 0) rfl rfl) ?_
 refine LM.rd (om_ld Tryz.isAgg3 rfl rfl) ?_
 refine LM.callE (oc_call (enters_fn Tryz.func105 (by kernel_rfl) rfl) rfl) (fun w hm hc hg => name_spec o.k w) ?_
 refine LM.val (ov_sneqL rfl rfl) ?_
 refine LM.mv rfl ?_
 refine LM.splitD (t := 15) rfl (fun h1 => ?_) (fun h1 => ?_)
 ·
  refine LM.sp 15 rfl rfl rfl ?_
  refine LM.rd (om_ldW Tryz.isAgg159 Tryz.sizeOf159 rfl rfl) ?_
  refine LM.sp 15 rfl rfl rfl ?_
  refine LM.val (ov_field Tryz.underlying135 rfl Tryz.sizeOf3 rfl (k := 1) rfl rfl) ?_
  refine LM.sp 15 rfl rfl rfl ?_
  refine LM.rd (om_ld Tryz.isAgg3 rfl rfl) ?_
  refine LM.sp 15 rfl rfl rfl ?_
  refine LM.callE (oc_call (enters_fn Tryz.func165 (by kernel_rfl) rfl) rfl) (fun w hm hc hg => has_spec _ _ _ w) ?_
  refine LM.val (ov_pickT rfl rfl) ?_
  refine LM.mv rfl ?_
  first | refine LM.splitD (t := 21) rfl (fun h2 => ?_) (fun h2 => ?_) | refine LM.splitB (t := 21) rfl (fun h2 => ?_) (fun h2 => ?_)
  ·
   refine LM.sp 21 rfl rfl rfl ?_
   refine LM.rd (om_ldW Tryz.isAgg159 Tryz.sizeOf159 rfl rfl) ?_
   refine LM.sp 21 rfl rfl rfl ?_
   refine LM.val (ov_field Tryz.underlying135 rfl Tryz.sizeOf3 rfl (k := 2) rfl rfl) ?_
   refine LM.sp 21 rfl rfl rfl ?_
   refine LM.rd (om_ld Tryz.isAgg3 rfl rfl) ?_
   refine LM.sp 21 rfl rfl rfl ?_
   refine LM.callE (oc_call (enters_fn Tryz.func165 (by kernel_rfl) rfl) rfl) (fun w hm hc hg => has_spec _ _ _ w) ?_
   refine LM.val (ov_pickT rfl rfl) ?_
   refine LM.as rfl ?_
   refine LM.nil (QM.sub (e' := [(2, _)]) ⟨rfl, trivial⟩ (QM.then ?_))
   refine wpM.ret ?_
   refine QM.leave (.inl rfl) [.tmp 2] Tryz.results140 rfl ?_
   intro w' hm' hc' hg'
   refine ⟨?_, hc'⟩; have hk := nmT_empty o.k; simp only [resV, rightB, ← hk]; simp only [h1, h2, decide_true, decide_false, Bool.true_and, Bool.false_and, Bool.and_true, Bool.and_false, Bool.not_true, Bool.not_false, Bool.true_or, Bool.false_or, Bool.or_true, Bool.or_false, ne_eq, not_true_eq_false, not_false_eq_true, Bool.and_self]
  refine LM.dr 21 rfl rfl rfl ?_
  refine LM.dr 21 rfl rfl rfl ?_
  refine LM.dr 21 rfl rfl rfl ?_
  refine LM.dr 21 rfl rfl rfl ?_
  refine LM.val (ov_pickF rfl rfl) ?_
  refine LM.as rfl ?_
  refine LM.nil (QM.sub (e' := [(2, _)]) ⟨rfl, trivial⟩ (QM.then ?_))
  refine wpM.ret ?_
  refine QM.leave (.inl rfl) [.tmp 2] Tryz.results140 rfl ?_
  intro w' hm' hc' hg'
  refine ⟨?_, hc'⟩; have hk := nmT_empty o.k; simp only [resV, rightB, ← hk]; simp only [h1, h2, decide_true, decide_false, Bool.true_and, Bool.false_and, Bool.and_true, Bool.and_false, Bool.not_true, Bool.not_false, Bool.true_or, Bool.false_or, Bool.or_true, Bool.or_false, ne_eq, not_true_eq_false, not_false_eq_true, Bool.and_self]
 refine LM.dr 15 rfl rfl rfl ?_
 refine LM.dr 15 rfl rfl rfl ?_
 refine LM.dr 15 rfl rfl rfl ?_
 refine LM.dr 15 rfl rfl rfl ?_
 refine LM.val (ov_pickF rfl rfl) ?_
 refine LM.mv rfl ?_
 refine LM.dr 21 rfl rfl rfl ?_
 refine LM.dr 21 rfl rfl rfl ?_
 refine LM.dr 21 rfl rfl rfl ?_
 refine LM.dr 21 rfl rfl rfl ?_
 refine LM.val (ov_pickF rfl rfl) ?_
 refine LM.as rfl ?_
 refine LM.nil (QM.sub (e' := [(2, _)]) ⟨rfl, trivial⟩ (QM.then ?_))
 refine wpM.ret ?_
 refine QM.leave (.inl rfl) [.tmp 2] Tryz.results140 rfl ?_
 intro w' hm' hc' hg'
 refine ⟨?_, hc'⟩; have hk := nmT_empty o.k; simp only [resV, rightB, ← hk]; simp only [h1, decide_true, decide_false, Bool.true_and, Bool.false_and, Bool.and_true, Bool.and_false, Bool.not_true, Bool.not_false, Bool.true_or, Bool.false_or, Bool.or_true, Bool.or_false, ne_eq, not_true_eq_false, not_false_eq_true, Bool.and_self]
set_option maxRecDepth 100000 in
theorem may1_spec (o : COp) (w : World) : Ret Tryz.prog 139 #[.agg (fO o).toArray] w (fun v w' => v = .bool (!rightB o) ∧ Ext w w') := by
 refine Ret.enterM (l := [.agg (fO o).toArray]) Tryz.func139 rfl Tryz.ntmps139 rfl ([]) (no) (Mem.nil w) ?_
 refine wpM.seq (wpM.region ?_)
 refine LM.box rfl rfl (fun b1 hb1 => ?_)
 refine LM.as rfl ?_
 refine LM.nil (QM.sub (e' := [(1, _)]) ⟨rfl, trivial⟩ (QM.then (wpM.seq (wpM.region ?_))))
 refine LM.rd (om_ldW Tryz.isAgg135 Tryz.sizeOf135 rfl rfl) ?_
 refine LM.callE (oc_call (enters_fn Tryz.func140 (by kernel_rfl) rfl) rfl) (fun w hm hc hg => right_spec o w) ?_
 first | refine LM.val (ov_notD rfl) ?_ | refine LM.val (ov_not rfl) ?_
 refine LM.as rfl ?_
 refine LM.nil (QM.sub (e' := [(2, _)]) ⟨rfl, trivial⟩ (QM.then ?_))
 refine wpM.ret ?_
 refine QM.leave (.inl rfl) [.tmp 2] Tryz.results139 rfl ?_
 intro w' hm' hc' hg'
 exact ⟨rfl, hc'⟩
set_option maxRecDepth 100000 in
theorem ixf_may {xs : List COp} {ad : Option Addr} {n cap : Nat} (w : World) (hn : n = xs.length) (hl : Sr fO 3 xs (.slice ad n cap) w) (hx : xs.length ≤ 1000000) : Ret Tryz.prog 153 #[.slice ad n cap, .func (.func 139) #[] #[]] w (fun v w' => v = .int .i64 (fixI (fun o => !rightB o) xs) ∧ Ext w w') := by
 refine Ret.enterM (l := [.slice ad n cap, .func (.func 139) #[] #[]]) Tryz.func153 rfl Tryz.ntmps153 rfl ([]) (no) (Mem.nil w) ?_
 refine wpM.seq (wpM.region ?_)
 refine LM.as rfl ?_
 refine LM.nil (QM.sub (e' := [(0, _), (1, _)]) ⟨rfl, rfl, trivial⟩ (QM.then ?_))
 refine wpM.seq ?_
 refine wpM.seq (wpM.region ?_)
 refine LM.mv rfl ?_
 refine LM.val (ov_len Tryz.underlying85 rfl) ?_
 refine LM.mv rfl ?_
 refine LM.nil (QM.sub (e' := [(0, _), (1, _), (7, _), (8, _)]) ⟨rfl, rfl, rfl, rfl, trivial⟩ (QM.then ?_))
 refine wpM.block ?_
 refine wpM.loopK0 (α := Nat) (fun i => [(8, .int .i64 (i : Nat))]) [(0, _), (1, _), (7, _)] (fun i => []) (fun i => i ≤ xs.length ∧ (xs.take i).any (fun o => !rightB o) = false) (fun i => xs.length - i) (0) ⟨au2, rfl, rfl, rfl, trivial⟩ au1 ⟨Nat.zero_le _, rfl⟩ ?_
 rintro i ⟨hi, ha⟩
 change wpM _ _ _ _ _ _ _ ([]) _ _ _
 refine wpM.seq (wpM.region ?_)
 refine LM.val (ov_lss rfl rfl) ?_
 refine LM.nil (QM.sub (e' := [(0, _), (1, _), (7, _), (8, _), (9, _)]) ⟨rfl, rfl, rfl, rfl, rfl, trivial⟩ (QM.then ?_))
 refine wpM.seq ?_
 refine wpM.condD rfl (fun h1 => ?_) (fun h1 => ?_)
 ·
  refine wpM.skip ?_
  refine QM.then ?_
  refine wpM.seq ?_
  refine wpM.block ?_
  refine wpM.seq (wpM.region ?_)
  refine LM.mv rfl ?_
  refine LM.as rfl ?_
  refine LM.nil (QM.sub (e' := [(0, _), (1, _), (5, _), (7, _), (8, _)]) ⟨rfl, rfl, rfl, rfl, rfl, trivial⟩ (QM.then (wpM.seq (wpM.region ?_))))
  refine LM.mv rfl ?_
  refine LM.mv rfl ?_
  refine LM.mv rfl ?_
  refine LM.val (ov_idxSN au6 Tryz.underlying85 Tryz.sizeOf135 rfl rfl (by omega)) ?_
  first | refine LM.rd (om_slA (by assumption) (by intro _; rfl) Tryz.isAgg135 Tryz.sizeOf135 rfl au3) ?_ | refine LM.rdC (om_srEA (by assumption) (by intro _; rfl) Tryz.isAgg135 Tryz.sizeOf135 rfl au3 id) ?_ | refine LM.rd (om_ldW Tryz.isAgg135 Tryz.sizeOf135 rfl rfl) ?_ | refine LM.rd (om_ldA Tryz.isAgg135 Tryz.sizeOf135 rfl (vs := [_, _, _]) rfl ⟨rfl, rfl, rfl, trivial⟩) ?_
  refine LM.callE (oc_callV rfl (enters_fn Tryz.func139 (by kernel_rfl) rfl) rfl) (fun w hm hc hg => may1_spec _ w) ?_
  refine LM.nil (QM.sub (e' := [(0, _), (1, _), (5, _), (7, _), (8, _), (16, _)]) ⟨rfl, rfl, rfl, rfl, rfl, rfl, trivial⟩ (QM.then ?_))
  first | refine wpM.condD rfl (fun h2 => ?_) (fun h2 => ?_) | refine wpM.condB rfl (fun h2 => ?_) (fun h2 => ?_)
  ·
   refine wpM.seq (wpM.region ?_)
   refine LM.mv rfl ?_
   refine LM.as rfl ?_
   refine LM.nil (QM.sub (e' := [(4, _)]) ⟨rfl, trivial⟩ (QM.then ?_))
   refine wpM.ret ?_
   refine QM.block_ret ?_
   refine QM.then_ret ?_
   refine QM.then_ret ?_
   refine QM.block_ret ?_
   refine QM.then_ret ?_
   refine QM.leave (.inl rfl) [.tmp 4] Tryz.results153 rfl ?_
   intro w' hm' hc' hg'
   exact ⟨by show Value.int .i64 _ = _; rw [fix_hit default ha (by omega) (by simpa using h2)], hc'⟩
  refine wpM.skip ?_
  refine QM.block_normal ?_
  refine QM.then (wpM.region ?_)
  refine LM.val (ov_add64 rfl rfl (by omega)) ?_
  refine LM.mv rfl ?_
  refine LM.nil (QM.sub (e' := [(0, _), (1, _), (7, _), (8, _)]) ⟨rfl, rfl, rfl, rfl, trivial⟩ ?_)
  refine QM.againK (i + 1) ⟨au2, rfl, rfl, rfl, trivial⟩ au1 (fun _ h => h) ?_ ?_
  · exact ⟨by omega, by rw [any_snoc default (by omega), ha, Bool.false_or]; simpa using h2⟩
  · omega
 refine wpM.exit ?_
 refine QM.then_exit ?_
 refine QM.then_exit ?_
 refine QM.block_hit ?_
 refine QM.then (wpM.seq (wpM.region ?_))
 refine LM.as rfl ?_
 refine LM.nil (QM.sub (e' := [(4, _)]) ⟨rfl, trivial⟩ (QM.then ?_))
 refine wpM.ret ?_
 refine QM.leave (.inl rfl) [.tmp 4] Tryz.results153 rfl ?_
 intro w' hm' hc' hg'
 have hil : i = xs.length := (by omega); subst hil; rw [List.take_length] at ha; exact ⟨by show Value.int .i64 _ = _; rw [fix_miss ha], hc'⟩
set_option maxRecDepth 100000 in
theorem cof_may {xs : List COp} {ad : Option Addr} {n cap : Nat} (w : World) (hn : n = xs.length) (hl : Sr fO 3 xs (.slice ad n cap) w) (hx : xs.length ≤ 1000000) : Ret Tryz.prog 131 #[.slice ad n cap, .func (.func 139) #[] #[]] w (fun v w' => v = .bool (xs.any (fun o => !rightB o)) ∧ Ext w w') := by
 refine Ret.enterM (l := [.slice ad n cap, .func (.func 139) #[] #[]]) Tryz.func131 rfl Tryz.ntmps131 rfl ([]) (no) (Mem.nil w) ?_
 refine wpM.seq (wpM.region ?_)
 refine LM.as rfl ?_
 refine LM.nil (QM.sub (e' := [(0, _), (1, _)]) ⟨rfl, rfl, trivial⟩ (QM.then (wpM.seq (wpM.region ?_))))
 refine LM.mv rfl ?_
 refine LM.mv rfl ?_
 refine LM.callE (oc_call (enters_fn Tryz.func153 (by kernel_rfl) rfl) rfl) (fun w hm hc hg => ixf_may w hn (hl.ext hc) hx) ?_
 refine LM.val (ov_geq rfl rfl) ?_
 refine LM.as rfl ?_
 refine LM.nil (QM.sub (e' := [(4, _)]) ⟨rfl, trivial⟩ (QM.then ?_))
 refine wpM.ret ?_
 refine QM.leave (.inl rfl) [.tmp 4] Tryz.results131 rfl ?_
 intro w' hm' hc' hg'
 exact ⟨by show Value.bool _ = _; rw [← fix_pos], hc'⟩
set_option maxRecDepth 100000 in
theorem pmay_spec {xs : List COp} {fv : Bool} {ad : Option Addr} {n cap : Nat} (w : World) (hn : n = xs.length) (hl : Sr fO 3 xs (.slice ad n cap) w) : Ret Tryz.prog 103 #[pV fv ad n cap] w (fun v w' => v = .bool (mayB xs) ∧ Ext w w') := by
 refine Ret.enterM (l := [pV fv ad n cap]) Tryz.func103 rfl Tryz.ntmps103 rfl ([]) (no) (Mem.nil w) ?_
 refine wpM.seq (wpM.region ?_)
 refine LM.box rfl rfl (fun b1 hb1 => ?_)
 refine LM.as rfl ?_
 refine LM.nil (QM.sub (e' := [(1, _)]) ⟨rfl, trivial⟩ (QM.then (wpM.seq (wpM.region ?_))))
 refine LM.val (ov_field Tryz.underlying87 rfl Tryz.sizeOf85 rfl (k := 1) rfl rfl) ?_
 refine LM.rd (om_ld Tryz.isAgg85 rfl rfl) ?_
 refine LM.val (ov_len Tryz.underlying85 rfl) ?_
 refine LM.val (ov_gtr rfl rfl) ?_
 refine LM.mv rfl ?_
 refine LM.splitD (t := 7) rfl (fun h1 => ?_) (fun h1 => ?_)
 ·
  refine LM.sp 7 rfl rfl rfl ?_
  refine LM.val (ov_field Tryz.underlying87 rfl Tryz.sizeOf85 rfl (k := 1) rfl rfl) ?_
  refine LM.sp 7 rfl rfl rfl ?_
  refine LM.rd (om_ld Tryz.isAgg85 rfl rfl) ?_
  refine LM.sp 7 rfl rfl rfl ?_
  refine LM.val (ov_len Tryz.underlying85 rfl) ?_
  refine LM.sp 7 rfl rfl rfl ?_
  refine LM.val (ov_leq rfl rfl) ?_
  refine LM.val (ov_pickT rfl rfl) ?_
  refine LM.mv rfl ?_
  refine LM.splitD (t := 13) rfl (fun h2 => ?_) (fun h2 => ?_)
  ·
   refine LM.sp 13 rfl rfl rfl ?_
   refine LM.val (ov_field Tryz.underlying87 rfl Tryz.sizeOf85 rfl (k := 1) rfl rfl) ?_
   refine LM.sp 13 rfl rfl rfl ?_
   refine LM.rd (om_ld Tryz.isAgg85 rfl rfl) ?_
   refine LM.sp 13 rfl rfl rfl ?_
   refine LM.callE (oc_call (enters_fn Tryz.func131 (by kernel_rfl) rfl) rfl) (fun w hm hc hg => cof_may w hn (hl.ext hc) (by omega)) ?_
   refine LM.sp 13 rfl rfl rfl ?_
   first | refine LM.val (ov_notD rfl) ?_ | refine LM.val (ov_not rfl) ?_
   refine LM.val (ov_pickT rfl rfl) ?_
   refine LM.as rfl ?_
   refine LM.nil (QM.sub (e' := [(2, _)]) ⟨rfl, trivial⟩ (QM.then ?_))
   refine wpM.ret ?_
   refine QM.leave (.inl rfl) [.tmp 2] Tryz.results103 rfl ?_
   intro w' hm' hc' hg'
   refine ⟨?_, hc'⟩; simp only [resV, mayB]; congr 1; first | (rw [decide_eq_false (show ¬ 0 < xs.length by omega)]; rfl) | (rw [decide_eq_false (show ¬ xs.length ≤ 12 by omega)]; simp; done) | (rw [decide_eq_true (show 0 < xs.length by omega), decide_eq_true (show xs.length ≤ 12 by omega), all_any]; rfl)
  refine LM.dr 13 rfl rfl rfl ?_
  refine LM.dr 13 rfl rfl rfl ?_
  refine LM.dr 13 rfl rfl rfl ?_
  refine LM.dr 13 rfl rfl rfl ?_
  refine LM.val (ov_pickF rfl rfl) ?_
  refine LM.as rfl ?_
  refine LM.nil (QM.sub (e' := [(2, _)]) ⟨rfl, trivial⟩ (QM.then ?_))
  refine wpM.ret ?_
  refine QM.leave (.inl rfl) [.tmp 2] Tryz.results103 rfl ?_
  intro w' hm' hc' hg'
  refine ⟨?_, hc'⟩; simp only [resV, mayB]; congr 1; first | (rw [decide_eq_false (show ¬ 0 < xs.length by omega)]; rfl) | (rw [decide_eq_false (show ¬ xs.length ≤ 12 by omega)]; simp; done) | (rw [decide_eq_true (show 0 < xs.length by omega), decide_eq_true (show xs.length ≤ 12 by omega), all_any]; rfl)
 refine LM.dr 7 rfl rfl rfl ?_
 refine LM.dr 7 rfl rfl rfl ?_
 refine LM.dr 7 rfl rfl rfl ?_
 refine LM.dr 7 rfl rfl rfl ?_
 refine LM.val (ov_pickF rfl rfl) ?_
 refine LM.mv rfl ?_
 refine LM.dr 13 rfl rfl rfl ?_
 refine LM.dr 13 rfl rfl rfl ?_
 refine LM.dr 13 rfl rfl rfl ?_
 refine LM.dr 13 rfl rfl rfl ?_
 refine LM.val (ov_pickF rfl rfl) ?_
 refine LM.as rfl ?_
 refine LM.nil (QM.sub (e' := [(2, _)]) ⟨rfl, trivial⟩ (QM.then ?_))
 refine wpM.ret ?_
 refine QM.leave (.inl rfl) [.tmp 2] Tryz.results103 rfl ?_
 intro w' hm' hc' hg'
 refine ⟨?_, hc'⟩; simp only [resV, mayB]; congr 1; first | (rw [decide_eq_false (show ¬ 0 < xs.length by omega)]; rfl) | (rw [decide_eq_false (show ¬ xs.length ≤ 12 by omega)]; simp; done) | (rw [decide_eq_true (show 0 < xs.length by omega), decide_eq_true (show xs.length ≤ 12 by omega), all_any]; rfl)
set_option maxRecDepth 100000 in
theorem limits_spec (k : Int) (w : World) : Ret Tryz.prog 89 #[.int .i64 k] w (fun v w' => v = .tuple #[.int .i64 (loA k), .int .i64 (hiA k)] ∧ Ext w w') := by
 refine Ret.enterM (l := [.int .i64 k]) Tryz.func89 rfl Tryz.ntmps89 rfl ([]) (no) (Mem.nil w) ?_
 refine wpM.seq (wpM.region ?_)
 refine LM.as rfl ?_
 refine LM.as rfl ?_
 refine LM.nil (QM.sub (e' := [(0, _)]) ⟨rfl, trivial⟩ (QM.then ?_))
 refine wpM.seq ?_
 refine wpM.seq (wpM.region ?_)
 refine LM.mv rfl ?_
 refine LM.val (ov_eql rfl rfl) ?_
 refine LM.nil (QM.sub (e' := [(0, _), (5, _)]) ⟨rfl, rfl, trivial⟩ (QM.then ?_))
 refine wpM.condD rfl (fun h1 => ?_) (fun h1 => ?_)
 ·
  refine wpM.seq (wpM.region ?_)
  refine LM.as rfl ?_
  refine LM.as rfl ?_
  refine LM.nil (QM.sub (e' := [(2, _), (3, _)]) ⟨rfl, rfl, trivial⟩ (QM.then ?_))
  refine wpM.ret ?_
  refine QM.then_ret ?_
  refine QM.leave (.inl rfl) [.tmp 2, .tmp 3] Tryz.results89 rfl ?_
  intro w' hm' hc' hg'
  refine ⟨?_, hc'⟩; simp only [resV, loA, hiA]; try ((repeat' split) <;> first | rfl | omega)
 refine wpM.skip ?_
 refine QM.then ?_
 refine wpM.seq ?_
 refine wpM.seq (wpM.region ?_)
 refine LM.mv rfl ?_
 refine LM.val (ov_geq rfl rfl) ?_
 refine LM.mv rfl ?_
 refine LM.splitD (t := 8) rfl (fun h2 => ?_) (fun h2 => ?_)
 ·
  refine LM.sp 8 rfl rfl rfl ?_
  refine LM.mv rfl ?_
  refine LM.sp 8 rfl rfl rfl ?_
  refine LM.val (ov_leq rfl rfl) ?_
  refine LM.val (ov_pickT rfl rfl) ?_
  refine LM.mv rfl ?_
  refine LM.splitD (t := 12) rfl (fun h3 => ?_) (fun h3 => ?_)
  ·
   refine LM.dr 12 rfl rfl rfl ?_
   refine LM.dr 12 rfl rfl rfl ?_
   refine LM.val (ov_pickT rfl rfl) ?_
   refine LM.nil (QM.sub (e' := [(0, _), (15, _)]) ⟨rfl, rfl, trivial⟩ (QM.then ?_))
   refine wpM.condT rfl ?_
   refine wpM.seq (wpM.region ?_)
   refine LM.as rfl ?_
   refine LM.as rfl ?_
   refine LM.nil (QM.sub (e' := [(2, _), (3, _)]) ⟨rfl, rfl, trivial⟩ (QM.then ?_))
   refine wpM.ret ?_
   refine QM.then_ret ?_
   refine QM.leave (.inl rfl) [.tmp 2, .tmp 3] Tryz.results89 rfl ?_
   intro w' hm' hc' hg'
   refine ⟨?_, hc'⟩; simp only [resV, loA, hiA]; try ((repeat' split) <;> first | rfl | omega)
  refine LM.sp 12 rfl rfl rfl ?_
  refine LM.mv rfl ?_
  refine LM.sp 12 rfl rfl rfl ?_
  refine LM.val (ov_eql rfl rfl) ?_
  refine LM.val (ov_pickF rfl rfl) ?_
  refine LM.nil (QM.sub (e' := [(0, _), (15, _)]) ⟨rfl, rfl, trivial⟩ (QM.then ?_))
  refine wpM.condD rfl (fun h4 => ?_) (fun h4 => ?_)
  ·
   refine wpM.seq (wpM.region ?_)
   refine LM.as rfl ?_
   refine LM.as rfl ?_
   refine LM.nil (QM.sub (e' := [(2, _), (3, _)]) ⟨rfl, rfl, trivial⟩ (QM.then ?_))
   refine wpM.ret ?_
   refine QM.then_ret ?_
   refine QM.leave (.inl rfl) [.tmp 2, .tmp 3] Tryz.results89 rfl ?_
   intro w' hm' hc' hg'
   refine ⟨?_, hc'⟩; simp only [resV, loA, hiA]; try ((repeat' split) <;> first | rfl | omega)
  refine wpM.skip ?_
  refine QM.then ?_
  refine wpM.seq ?_
  refine wpM.seq (wpM.region ?_)
  refine LM.mv rfl ?_
  refine LM.val (ov_eql rfl rfl) ?_
  refine LM.nil (QM.sub (e' := [(0, _), (17, _)]) ⟨rfl, rfl, trivial⟩ (QM.then ?_))
  refine wpM.condD rfl (fun h5 => ?_) (fun h5 => ?_)
  ·
   refine wpM.seq (wpM.region ?_)
   refine LM.as rfl ?_
   refine LM.as rfl ?_
   refine LM.nil (QM.sub (e' := [(2, _), (3, _)]) ⟨rfl, rfl, trivial⟩ (QM.then ?_))
   refine wpM.ret ?_
   refine QM.then_ret ?_
   refine QM.leave (.inl rfl) [.tmp 2, .tmp 3] Tryz.results89 rfl ?_
   intro w' hm' hc' hg'
   refine ⟨?_, hc'⟩; simp only [resV, loA, hiA]; try ((repeat' split) <;> first | rfl | omega)
  refine wpM.skip ?_
  refine QM.then ?_
  refine wpM.seq ?_
  refine wpM.seq (wpM.region ?_)
  refine LM.mv rfl ?_
  refine LM.val (ov_eql rfl rfl) ?_
  refine LM.nil (QM.sub (e' := [(19, _)]) ⟨rfl, trivial⟩ (QM.then ?_))
  refine wpM.condD rfl (fun h6 => ?_) (fun h6 => ?_)
  ·
   refine wpM.seq (wpM.region ?_)
   refine LM.as rfl ?_
   refine LM.as rfl ?_
   refine LM.nil (QM.sub (e' := [(2, _), (3, _)]) ⟨rfl, rfl, trivial⟩ (QM.then ?_))
   refine wpM.ret ?_
   refine QM.then_ret ?_
   refine QM.leave (.inl rfl) [.tmp 2, .tmp 3] Tryz.results89 rfl ?_
   intro w' hm' hc' hg'
   refine ⟨?_, hc'⟩; simp only [resV, loA, hiA]; try ((repeat' split) <;> first | rfl | omega)
  refine wpM.skip ?_
  refine QM.then (wpM.seq (wpM.region ?_))
  refine LM.as rfl ?_
  refine LM.as rfl ?_
  refine LM.nil (QM.sub (e' := [(2, _), (3, _)]) ⟨rfl, rfl, trivial⟩ (QM.then ?_))
  refine wpM.ret ?_
  refine QM.leave (.inl rfl) [.tmp 2, .tmp 3] Tryz.results89 rfl ?_
  intro w' hm' hc' hg'
  refine ⟨?_, hc'⟩; simp only [resV, loA, hiA]; try ((repeat' split) <;> first | rfl | omega)
 refine LM.dr 8 rfl rfl rfl ?_
 refine LM.dr 8 rfl rfl rfl ?_
 refine LM.val (ov_pickF rfl rfl) ?_
 refine LM.mv rfl ?_
 refine LM.sp 12 rfl rfl rfl ?_
 refine LM.mv rfl ?_
 refine LM.sp 12 rfl rfl rfl ?_
 refine LM.val (ov_eql rfl rfl) ?_
 refine LM.val (ov_pickF rfl rfl) ?_
 refine LM.nil (QM.sub (e' := [(0, _), (15, _)]) ⟨rfl, rfl, trivial⟩ (QM.then ?_))
 refine wpM.condD rfl (fun h7 => ?_) (fun h7 => ?_)
 ·
  refine wpM.seq (wpM.region ?_)
  refine LM.as rfl ?_
  refine LM.as rfl ?_
  refine LM.nil (QM.sub (e' := [(2, _), (3, _)]) ⟨rfl, rfl, trivial⟩ (QM.then ?_))
  refine wpM.ret ?_
  refine QM.then_ret ?_
  refine QM.leave (.inl rfl) [.tmp 2, .tmp 3] Tryz.results89 rfl ?_
  intro w' hm' hc' hg'
  refine ⟨?_, hc'⟩; simp only [resV, loA, hiA]; try ((repeat' split) <;> first | rfl | omega)
 refine wpM.skip ?_
 refine QM.then ?_
 refine wpM.seq ?_
 refine wpM.seq (wpM.region ?_)
 refine LM.mv rfl ?_
 refine LM.val (ov_eql rfl rfl) ?_
 refine LM.nil (QM.sub (e' := [(0, _), (17, _)]) ⟨rfl, rfl, trivial⟩ (QM.then ?_))
 refine wpM.condD rfl (fun h8 => ?_) (fun h8 => ?_)
 ·
  refine wpM.seq (wpM.region ?_)
  refine LM.as rfl ?_
  refine LM.as rfl ?_
  refine LM.nil (QM.sub (e' := [(2, _), (3, _)]) ⟨rfl, rfl, trivial⟩ (QM.then ?_))
  refine wpM.ret ?_
  refine QM.then_ret ?_
  refine QM.leave (.inl rfl) [.tmp 2, .tmp 3] Tryz.results89 rfl ?_
  intro w' hm' hc' hg'
  refine ⟨?_, hc'⟩; simp only [resV, loA, hiA]; try ((repeat' split) <;> first | rfl | omega)
 refine wpM.skip ?_
 refine QM.then ?_
 refine wpM.seq ?_
 refine wpM.seq (wpM.region ?_)
 refine LM.mv rfl ?_
 refine LM.val (ov_eql rfl rfl) ?_
 refine LM.nil (QM.sub (e' := [(19, _)]) ⟨rfl, trivial⟩ (QM.then ?_))
 refine wpM.condD rfl (fun h9 => ?_) (fun h9 => ?_)
 ·
  refine wpM.seq (wpM.region ?_)
  refine LM.as rfl ?_
  refine LM.as rfl ?_
  refine LM.nil (QM.sub (e' := [(2, _), (3, _)]) ⟨rfl, rfl, trivial⟩ (QM.then ?_))
  refine wpM.ret ?_
  refine QM.then_ret ?_
  refine QM.leave (.inl rfl) [.tmp 2, .tmp 3] Tryz.results89 rfl ?_
  intro w' hm' hc' hg'
  refine ⟨?_, hc'⟩; simp only [resV, loA, hiA]; try ((repeat' split) <;> first | rfl | omega)
 refine wpM.skip ?_
 refine QM.then (wpM.seq (wpM.region ?_))
 refine LM.as rfl ?_
 refine LM.as rfl ?_
 refine LM.nil (QM.sub (e' := [(2, _), (3, _)]) ⟨rfl, rfl, trivial⟩ (QM.then ?_))
 refine wpM.ret ?_
 refine QM.leave (.inl rfl) [.tmp 2, .tmp 3] Tryz.results89 rfl ?_
 intro w' hm' hc' hg'
 refine ⟨?_, hc'⟩; simp only [resV, loA, hiA]; try ((repeat' split) <;> first | rfl | omega)
set_option maxRecDepth 100000 in
theorem one_spec (o : COp) (w : World) : Ret Tryz.prog 133 #[.agg (fO o).toArray] w (fun v w' => v = .bool (rightB o) ∧ Ext w w') := by
 refine Ret.enterM (l := [.agg (fO o).toArray]) Tryz.func133 rfl Tryz.ntmps133 rfl ([]) (no) (Mem.nil w) ?_
 refine wpM.seq (wpM.region ?_)
 refine LM.box rfl rfl (fun b1 hb1 => ?_)
 refine LM.as rfl ?_
 refine LM.nil (QM.sub (e' := [(1, _)]) ⟨rfl, trivial⟩ (QM.then ?_))
 refine wpM.seq ?_
 refine wpM.seq (wpM.region ?_)
 refine LM.val (ov_field Tryz.underlying135 rfl Tryz.sizeOf3 rfl (k := 0) rfl rfl) ?_
 refine LM.rd (om_ld Tryz.isAgg3 rfl rfl) ?_
 refine LM.callE (oc_call (enters_fn Tryz.func88 (by kernel_rfl) rfl) rfl) (fun w hm hc hg => rname_spec o.k w) ?_
 refine LM.val (ov_seqlL rfl rfl) ?_
 refine LM.nil (QM.sub (e' := [(1, _), (10, _)]) ⟨rfl, rfl, trivial⟩ (QM.then ?_))
 refine wpM.condD rfl (fun h1 => ?_) (fun h1 => ?_)
 ·
  refine wpM.seq (wpM.region ?_)
  refine LM.as rfl ?_
  refine LM.nil (QM.sub (e' := [(2, _)]) ⟨rfl, trivial⟩ (QM.then ?_))
  refine wpM.ret ?_
  refine QM.then_ret ?_
  refine QM.leave (.inl rfl) [.tmp 2] Tryz.results133 rfl ?_
  intro w' hm' hc' hg'
  refine ⟨?_, hc'⟩; have hk : kindB o.k = false := (by rw [← nmT_empty, h1]; rfl); simp only [resV, rightB, hk, Bool.false_and]
 refine wpM.skip ?_
 refine QM.then (wpM.seq (wpM.region ?_))
 refine LM.val (ov_field Tryz.underlying135 rfl Tryz.sizeOf3 rfl (k := 0) rfl rfl) ?_
 refine LM.rd (om_ld Tryz.isAgg3 rfl rfl) ?_
 refine LM.callE (oc_call (enters_fn Tryz.func89 (by kernel_rfl) rfl) rfl) (fun w hm hc hg => limits_spec o.k w) ?_
 refine LM.mv rfl ?_
 refine LM.val (ov_extract rfl rfl) ?_
 refine LM.val (ov_extract rfl rfl) ?_
 refine LM.as rfl ?_
 refine LM.as rfl ?_
 refine LM.nil (QM.sub (e' := [(1, _), (3, _), (4, _)]) ⟨rfl, rfl, rfl, trivial⟩ (QM.then (wpM.seq (wpM.region ?_))))
 refine LM.val (ov_field Tryz.underlying135 rfl Tryz.sizeOf3 rfl (k := 1) rfl rfl) ?_
 refine LM.rd (om_ld Tryz.isAgg3 rfl rfl) ?_
 refine LM.val (ov_eql rfl rfl) ?_
 refine LM.as rfl ?_
 refine LM.nil (QM.sub (e' := [(1, _), (3, _), (4, _), (5, _)]) ⟨rfl, rfl, rfl, rfl, trivial⟩ (QM.then ?_))
 refine wpM.seq ?_
 refine wpM.seq (wpM.region ?_)
 refine LM.mv rfl ?_
 refine LM.val (ov_geq rfl rfl) ?_
 refine LM.nil (QM.sub (e' := [(1, _), (3, _), (4, _), (5, _), (21, _)]) ⟨rfl, rfl, rfl, rfl, rfl, trivial⟩ (QM.then ?_))
 refine wpM.joinK (α := Bool) (fun b => [(5, .bool b)]) [(1, _)] (fun b => (b1, .cells (fO o).toArray 135 (0, 0)) :: []) (fun b => b = hasB (loA o.k) (hiA o.k) o.a) ⟨rfl, trivial⟩ ?_ ?_
 ·
  refine wpM.condD rfl (fun h2 => ?_) (fun h2 => ?_)
  ·
   refine wpM.region ?_
   refine LM.val (ov_field Tryz.underlying135 rfl Tryz.sizeOf3 rfl (k := 1) rfl rfl) ?_
   refine LM.rd (om_ld Tryz.isAgg3 rfl rfl) ?_
   refine LM.mv rfl ?_
   refine LM.val (ov_geq rfl rfl) ?_
   refine LM.mv rfl ?_
   refine LM.splitD (t := 26) rfl (fun h3 => ?_) (fun h3 => ?_)
   ·
    refine LM.sp 26 rfl rfl rfl ?_
    refine LM.val (ov_field Tryz.underlying135 rfl Tryz.sizeOf3 rfl (k := 1) rfl rfl) ?_
    refine LM.sp 26 rfl rfl rfl ?_
    refine LM.rd (om_ld Tryz.isAgg3 rfl rfl) ?_
    refine LM.sp 26 rfl rfl rfl ?_
    refine LM.mv rfl ?_
    refine LM.sp 26 rfl rfl rfl ?_
    refine LM.val (ov_leq rfl rfl) ?_
    refine LM.val (ov_pickT rfl rfl) ?_
    refine LM.as rfl ?_
    refine LM.nil (QM.sub (e' := [(1, _), (5, _)]) ⟨rfl, rfl, trivial⟩ ?_)
    have hlc := loA_cases o.k
    refine QM.meetK (_) ⟨au2, rfl, trivial⟩ au1 ?_
    · first | (rw [hasB, if_pos (by omega)]; done) | (rw [hasB, if_neg (by omega), decide_eq_false (show ¬ loA o.k ≤ o.a by omega)]; rfl) | (rw [hasB, if_neg (by omega), decide_eq_true (show loA o.k ≤ o.a by omega)]; rfl)
   refine LM.dr 26 rfl rfl rfl ?_
   refine LM.dr 26 rfl rfl rfl ?_
   refine LM.dr 26 rfl rfl rfl ?_
   refine LM.dr 26 rfl rfl rfl ?_
   refine LM.val (ov_pickF rfl rfl) ?_
   refine LM.as rfl ?_
   refine LM.nil (QM.sub (e' := [(1, _), (5, _)]) ⟨rfl, rfl, trivial⟩ ?_)
   have hlc := loA_cases o.k
   refine QM.meetK (_) ⟨au2, rfl, trivial⟩ au1 ?_
   · first | (rw [hasB, if_pos (by omega)]; done) | (rw [hasB, if_neg (by omega), decide_eq_false (show ¬ loA o.k ≤ o.a by omega)]; rfl) | (rw [hasB, if_neg (by omega), decide_eq_true (show loA o.k ≤ o.a by omega)]; rfl)
  refine wpM.skip ?_
  have hlc := loA_cases o.k
  refine QM.meetK (_) ⟨au2, rfl, trivial⟩ au1 ?_
  · (rw [hasB, if_pos (by omega)]; done)
 rintro b hb1
 change QM _ _ _ _ _ ((b1, .cells (fO o).toArray 135 (0, 0)) :: []) _ _ _
 refine QM.then (wpM.seq (wpM.region ?_))
 refine LM.val (ov_field Tryz.underlying135 rfl Tryz.sizeOf3 rfl (k := 2) rfl rfl) ?_
 refine LM.rd (om_ld Tryz.isAgg3 rfl rfl) ?_
 refine LM.val (ov_eql rfl rfl) ?_
 refine LM.as rfl ?_
 refine LM.nil (QM.sub (e' := [(1, _), (5, _), (6, _)]) ⟨rfl, rfl, rfl, trivial⟩ (QM.then ?_))
 refine wpM.seq ?_
 refine wpM.seq (wpM.region ?_)
 refine LM.val (ov_field Tryz.underlying135 rfl Tryz.sizeOf3 rfl (k := 0) rfl rfl) ?_
 refine LM.rd (om_ld Tryz.isAgg3 rfl rfl) ?_
 refine LM.val (ov_eql rfl rfl) ?_
 refine LM.nil (QM.sub (e' := [(1, _), (5, _), (6, _), (37, _)]) ⟨rfl, rfl, rfl, rfl, trivial⟩ (QM.then ?_))
 refine wpM.joinK (α := Bool) (fun b' => [(6, .bool b')]) [(5, _)] (fun b' => (b1, .cells (fO o).toArray 135 (0, 0)) :: []) (fun b' => b' = hasB (loB o.k) (hiB o.k) o.b) ⟨rfl, trivial⟩ ?_ ?_
 ·
  refine wpM.condD rfl (fun h4 => ?_) (fun h4 => ?_)
  ·
   refine wpM.region ?_
   refine LM.val (ov_field Tryz.underlying135 rfl Tryz.sizeOf3 rfl (k := 2) rfl rfl) ?_
   refine LM.rd (om_ld Tryz.isAgg3 rfl rfl) ?_
   refine LM.val (ov_geq rfl rfl) ?_
   refine LM.mv rfl ?_
   refine LM.splitD (t := 41) rfl (fun h5 => ?_) (fun h5 => ?_)
   ·
    refine LM.sp 41 rfl rfl rfl ?_
    refine LM.val (ov_field Tryz.underlying135 rfl Tryz.sizeOf3 rfl (k := 2) rfl rfl) ?_
    refine LM.sp 41 rfl rfl rfl ?_
    refine LM.rd (om_ld Tryz.isAgg3 rfl rfl) ?_
    refine LM.sp 41 rfl rfl rfl ?_
    refine LM.val (ov_leq rfl rfl) ?_
    refine LM.val (ov_pickT rfl rfl) ?_
    refine LM.as rfl ?_
    refine LM.nil (QM.sub (e' := [(5, _), (6, _)]) ⟨rfl, rfl, trivial⟩ ?_)
    refine QM.meetK (_) ⟨au2, rfl, trivial⟩ au1 ?_
    · first | (rw [hasBn (by assumption)]; done) | (rw [hasB5 (by assumption), decide_eq_false (show ¬ 1 ≤ o.b by omega)]; rfl) | (rw [hasB5 (by assumption), decide_eq_true (show 1 ≤ o.b by omega)]; rfl)
   refine LM.dr 41 rfl rfl rfl ?_
   refine LM.dr 41 rfl rfl rfl ?_
   refine LM.dr 41 rfl rfl rfl ?_
   refine LM.val (ov_pickF rfl rfl) ?_
   refine LM.as rfl ?_
   refine LM.nil (QM.sub (e' := [(5, _), (6, _)]) ⟨rfl, rfl, trivial⟩ ?_)
   refine QM.meetK (_) ⟨au2, rfl, trivial⟩ au1 ?_
   · first | (rw [hasBn (by assumption)]; done) | (rw [hasB5 (by assumption), decide_eq_false (show ¬ 1 ≤ o.b by omega)]; rfl) | (rw [hasB5 (by assumption), decide_eq_true (show 1 ≤ o.b by omega)]; rfl)
  refine wpM.skip ?_
  refine QM.meetK (_) ⟨au2, rfl, trivial⟩ au1 ?_
  · (rw [hasBn (by assumption)]; done)
 rintro b' hb2
 change QM _ _ _ _ _ ((b1, .cells (fO o).toArray 135 (0, 0)) :: []) _ _ _
 refine QM.then (wpM.seq (wpM.region ?_))
 refine LM.mv rfl ?_
 refine LM.mv rfl ?_
 first | refine LM.splitD (t := 47) rfl (fun h6 => ?_) (fun h6 => ?_) | refine LM.splitB (t := 47) rfl (fun h6 => ?_) (fun h6 => ?_)
 ·
  refine LM.sp 47 rfl rfl rfl ?_
  refine LM.mv rfl ?_
  refine LM.val (ov_pickT rfl rfl) ?_
  refine LM.as rfl ?_
  refine LM.nil (QM.sub (e' := [(2, _)]) ⟨rfl, trivial⟩ (QM.then ?_))
  refine wpM.ret ?_
  refine QM.leave (.inl rfl) [.tmp 2] Tryz.results133 rfl ?_
  intro w' hm' hc' hg'
  refine ⟨?_, hc'⟩; have hk : kindB o.k = true := (by rw [← nmT_empty]; exact decide_eq_true h1); simp only [resV, rightB, hk, Bool.true_and, ← hb1, ← hb2]; simp only [h1, h6, decide_true, decide_false, Bool.true_and, Bool.false_and, Bool.and_true, Bool.and_false, Bool.not_true, Bool.not_false, Bool.true_or, Bool.false_or, Bool.or_true, Bool.or_false, ne_eq, not_true_eq_false, not_false_eq_true, Bool.and_self]
 refine LM.dr 47 rfl rfl rfl ?_
 refine LM.val (ov_pickF rfl rfl) ?_
 refine LM.as rfl ?_
 refine LM.nil (QM.sub (e' := [(2, _)]) ⟨rfl, trivial⟩ (QM.then ?_))
 refine wpM.ret ?_
 refine QM.leave (.inl rfl) [.tmp 2] Tryz.results133 rfl ?_
 intro w' hm' hc' hg'
 refine ⟨?_, hc'⟩; have hk : kindB o.k = true := (by rw [← nmT_empty]; exact decide_eq_true h1); simp only [resV, rightB, hk, Bool.true_and, ← hb1, ← hb2]; simp only [h1, h6, decide_true, decide_false, Bool.true_and, Bool.false_and, Bool.and_true, Bool.and_false, Bool.not_true, Bool.not_false, Bool.true_or, Bool.false_or, Bool.or_true, Bool.or_false, ne_eq, not_true_eq_false, not_false_eq_true, Bool.and_self]
set_option maxRecDepth 100000 in
theorem rmay_spec {xs : List COp} {fv : Bool} {ad : Option Addr} {n cap : Nat} (w : World) (hn : n = xs.length) (hl : Sr fO 3 xs (.slice ad n cap) w) : Ret Tryz.prog 90 #[pV fv ad n cap] w (fun v w' => v = .bool (mayB xs) ∧ Ext w w') := by
 refine Ret.enterM (l := [pV fv ad n cap]) Tryz.func90 rfl Tryz.ntmps90 rfl ([]) (no) (Mem.nil w) ?_
 refine wpM.seq (wpM.region ?_)
 refine LM.box rfl rfl (fun b1 hb1 => ?_)
 refine LM.as rfl ?_
 refine LM.nil (QM.sub (e' := [(1, _)]) ⟨rfl, trivial⟩ (QM.then ?_))
 refine wpM.seq ?_
 refine wpM.seq (wpM.region ?_)
 refine LM.as rfl ?_
 refine LM.nil (QM.sub (e' := [(1, _), (3, _)]) ⟨rfl, rfl, trivial⟩ (QM.then ?_))
 refine wpM.block ?_
 refine wpM.loopK0 (α := Nat) (fun i => [(3, .int .i64 (i : Nat))]) [(1, _)] (fun i => pB b1 fv ad n cap :: []) (fun i => i ≤ xs.length ∧ i ≤ 12 ∧ (xs.take i).all rightB = true) (fun i => xs.length - i) (0) ⟨au2, rfl, trivial⟩ au1 ⟨Nat.zero_le _, Nat.zero_le _, rfl⟩ ?_
 rintro i ⟨hi, hi2, ha⟩
 change wpM _ _ _ _ _ _ _ (pB b1 fv ad n cap :: []) _ _ _
 refine wpM.seq ?_
 refine wpM.seq (wpM.region ?_)
 refine LM.mv rfl ?_
 refine LM.val (ov_field Tryz.underlying87 rfl Tryz.sizeOf85 rfl (k := 1) rfl rfl) ?_
 refine LM.rd (om_ld Tryz.isAgg85 rfl rfl) ?_
 refine LM.val (ov_len Tryz.underlying85 rfl) ?_
 refine LM.val (ov_lss rfl rfl) ?_
 refine LM.nil (QM.sub (e' := [(1, _), (3, _), (8, _)]) ⟨rfl, rfl, rfl, trivial⟩ (QM.then ?_))
 refine wpM.condD rfl (fun h1 => ?_) (fun h1 => ?_)
 ·
  refine wpM.skip ?_
  refine QM.then ?_
  refine wpM.seq ?_
  refine wpM.block ?_
  refine wpM.seq (wpM.region ?_)
  refine LM.mv rfl ?_
  refine LM.val (ov_gtr rfl rfl) ?_
  refine LM.mv rfl ?_
  refine LM.splitD (t := 13) rfl (fun h2 => ?_) (fun h2 => ?_)
  ·
   refine LM.dr 13 rfl rfl rfl ?_
   refine LM.dr 13 rfl rfl rfl ?_
   refine LM.dr 13 rfl rfl rfl ?_
   refine LM.dr 13 rfl rfl rfl ?_
   refine LM.dr 13 rfl rfl rfl ?_
   refine LM.dr 13 rfl rfl rfl ?_
   refine LM.dr 13 rfl rfl rfl ?_
   refine LM.val (ov_pickT rfl rfl) ?_
   refine LM.nil (QM.sub (e' := [(1, _), (3, _), (21, _)]) ⟨rfl, rfl, rfl, trivial⟩ (QM.then ?_))
   refine wpM.condT rfl ?_
   refine wpM.seq (wpM.region ?_)
   refine LM.as rfl ?_
   refine LM.nil (QM.sub (e' := [(2, _)]) ⟨rfl, trivial⟩ (QM.then ?_))
   refine wpM.ret ?_
   refine QM.block_ret ?_
   refine QM.then_ret ?_
   refine QM.then_ret ?_
   refine QM.block_ret ?_
   refine QM.then_ret ?_
   refine QM.leave (.inl rfl) [.tmp 2] Tryz.results90 rfl ?_
   intro w' hm' hc' hg'
   refine ⟨?_, hc'⟩; simp only [resV]; have hm : mayB xs = false := (by unfold mayB; rw [decide_eq_false (show ¬ xs.length ≤ 12 by omega)]; simp); rw [hm]
  refine LM.sp 13 rfl rfl rfl ?_
  refine LM.val (ov_field Tryz.underlying87 rfl Tryz.sizeOf85 rfl (k := 1) rfl rfl) ?_
  refine LM.sp 13 rfl rfl rfl ?_
  refine LM.rd (om_ld Tryz.isAgg85 rfl rfl) ?_
  refine LM.sp 13 rfl rfl rfl ?_
  refine LM.mv rfl ?_
  refine LM.sp 13 rfl rfl rfl ?_
  refine LM.val (ov_idxSN au6 Tryz.underlying85 Tryz.sizeOf135 rfl rfl (by omega)) ?_
  refine LM.sp 13 rfl rfl rfl ?_
  first | refine LM.rd (om_slA (by assumption) (by intro _; rfl) Tryz.isAgg135 Tryz.sizeOf135 rfl au3) ?_ | refine LM.rdC (om_srEA (by assumption) (by intro _; rfl) Tryz.isAgg135 Tryz.sizeOf135 rfl au3 id) ?_ | refine LM.rd (om_ldW Tryz.isAgg135 Tryz.sizeOf135 rfl rfl) ?_ | refine LM.rd (om_ldA Tryz.isAgg135 Tryz.sizeOf135 rfl (vs := [_, _, _]) rfl ⟨rfl, rfl, rfl, trivial⟩) ?_
  refine LM.sp 13 rfl rfl rfl ?_
  refine LM.callE (oc_call (enters_fn Tryz.func133 (by kernel_rfl) rfl) rfl) (fun w hm hc hg => one_spec _ w) ?_
  refine LM.sp 13 rfl rfl rfl ?_
  first | refine LM.val (ov_notD rfl) ?_ | refine LM.val (ov_not rfl) ?_
  refine LM.val (ov_pickF rfl rfl) ?_
  refine LM.nil (QM.sub (e' := [(1, _), (3, _), (21, _)]) ⟨rfl, rfl, rfl, trivial⟩ (QM.then ?_))
  first | refine wpM.condD rfl (fun h3 => ?_) (fun h3 => ?_) | refine wpM.condB rfl (fun h3 => ?_) (fun h3 => ?_)
  ·
   refine wpM.seq (wpM.region ?_)
   refine LM.as rfl ?_
   refine LM.nil (QM.sub (e' := [(2, _)]) ⟨rfl, trivial⟩ (QM.then ?_))
   refine wpM.ret ?_
   refine QM.block_ret ?_
   refine QM.then_ret ?_
   refine QM.then_ret ?_
   refine QM.block_ret ?_
   refine QM.then_ret ?_
   refine QM.leave (.inl rfl) [.tmp 2] Tryz.results90 rfl ?_
   intro w' hm' hc' hg'
   refine ⟨?_, hc'⟩; simp only [resV]; rw [may_not (i := i) (by omega) (by simpa using h3)]
  refine wpM.skip ?_
  refine QM.block_normal ?_
  refine QM.then (wpM.region ?_)
  refine LM.mv rfl ?_
  refine LM.val (ov_add64 rfl rfl (by omega)) ?_
  refine LM.as rfl ?_
  refine LM.nil (QM.sub (e' := [(1, _), (3, _)]) ⟨rfl, rfl, trivial⟩ ?_)
  refine QM.againK (i + 1) ⟨au2, rfl, trivial⟩ au1 (fun _ h => h) ?_ ?_
  · exact ⟨by omega, by omega, by rw [all_snoc default (by omega), ha, Bool.true_and]; simpa using h3⟩
  · omega
 refine wpM.exit ?_
 refine QM.then_exit ?_
 refine QM.then_exit ?_
 refine QM.block_hit ?_
 refine QM.then (wpM.seq (wpM.region ?_))
 refine LM.val (ov_field Tryz.underlying87 rfl Tryz.sizeOf85 rfl (k := 1) rfl rfl) ?_
 refine LM.rd (om_ld Tryz.isAgg85 rfl rfl) ?_
 refine LM.val (ov_len Tryz.underlying85 rfl) ?_
 refine LM.val (ov_gtr rfl rfl) ?_
 refine LM.as rfl ?_
 refine LM.nil (QM.sub (e' := [(2, _)]) ⟨rfl, trivial⟩ (QM.then ?_))
 refine wpM.ret ?_
 refine QM.leave (.inl rfl) [.tmp 2] Tryz.results90 rfl ?_
 intro w' hm' hc' hg'
 have hil : i = xs.length := (by omega); subst hil; rw [List.take_length] at ha; refine ⟨?_, hc'⟩; simp only [resV, mayB]; congr 1; rw [ha, decide_eq_true (show xs.length ≤ 12 by omega), Bool.and_true, Bool.and_true]; exact decide_eq_decide.2 (by omega)
end Go.Eng
namespace Go.Eng
open Go Go.Proofs Go.RowKit
theorem Sr.kp {α : Type} {f : α → List Value} {s : Nat} {xs : List α} {ad : Option Addr} {n cap b : Nat} {w w' : World} (h : Sr f s xs (.slice ad n cap) w) (k : Chg (fun x => x = b) w w') (hab : 0 < xs.length → adB ad ≠ b) : Sr f s xs (.slice ad n cap) w' := by
  by_cases h0 : 0 < xs.length
  · exact h.keep k (fun b' off n' c' e => by simp only [Value.slice.injEq] at e; obtain ⟨rfl, _, _⟩ := e; exact hab h0)
  · obtain ⟨ad', cap', h1, h2, h3⟩ := h
    exact ⟨ad', cap', h1, h2, fun q => absurd q h0⟩
abbrev rO (ad : Option Addr) (n cap : Nat) (i : Nat) (e : Int) : Obj := .cells #[.slice ad n cap, .int .i64 (i : Nat), .int .i64 e] 181 (0, 0)
abbrev rB (b : Nat) (ad : Option Addr) (n cap : Nat) (i : Nat) (e : Int) : Nat × Obj := (b, rO ad n cap i e)
def isE (ws : List Wrd) (i : Nat) (e k : Int) (t : List UInt8) : Bool := decide (e = 0) && decide (i < ws.length) && decide ((ws.getD i default).k = k) && decide ((ws.getD i default).t = t)
theorem isE_eq {ws : List Wrd} {i : Nat} {e k : Int} {t : List UInt8} : isE ws i e k t = (decide (e = 0) && isR ws i k t) := by unfold isE isR; rw [Bool.and_assoc, Bool.and_assoc, Bool.and_assoc]
theorem isE_lt {ws : List Wrd} {i : Nat} {e k : Int} {t : List UInt8} (h : isE ws i e k t = true) : i < ws.length ∧ e = 0 := by
  unfold isE at h; simp only [Bool.and_eq_true, decide_eq_true_eq] at h; exact ⟨h.1.1.2, h.1.1.1⟩
def mayE (ws : List Wrd) (i : Nat) (e k : Int) (t : List UInt8) : Nat := if isE ws i e k t then i + 1 else i
def needE (ws : List Wrd) (i : Nat) (e k : Int) (t : List UInt8) : Nat × Int := if isE ws i e k t then (i + 1, e) else if e = 0 then (i, 5) else (i, e)
def numE (ws : List Wrd) (i : Nat) (e lo hi : Int) : Nat × Int × Int := if e ≠ 0 then (i, e, 0) else numR ws i lo hi
theorem num_a {ws : List Wrd} {i : Nat} {e lo hi : Int} (h : lo = -1) : numE ws i e lo hi = (i, e, 0) := by
  unfold numE numR; rw [if_pos h]
  by_cases h0 : e = 0
  · rw [if_neg (by simp [h0]), h0]
  · rw [if_pos h0]
theorem num_b {ws : List Wrd} {i : Nat} {e lo hi : Int} (h : e ≠ 0) : numE ws i e lo hi = (i, e, 0) := by unfold numE; rw [if_pos h]
theorem num_c {ws : List Wrd} {i : Nat} {lo hi : Int} (h : ¬ lo = -1) (h2 : ws.length ≤ i ∨ (ws.getD i default).k ≠ 2) : numE ws i 0 lo hi = (i, 5, 0) := by
  unfold numE numR; rw [if_neg (by simp), if_neg h, if_pos (by simp only [Bool.or_eq_true, decide_eq_true_eq]; exact h2)]
theorem num_d {ws : List Wrd} {i : Nat} {lo hi : Int} (h : ¬ lo = -1) (h2 : i < ws.length) (h3 : (ws.getD i default).k = 2) (h4 : hasB lo hi (ws.getD i default).n = false) : numE ws i 0 lo hi = (i, 1, 0) := by
  unfold numE numR; rw [if_neg (by simp), if_neg h, if_neg (by simp only [Bool.or_eq_true, decide_eq_true_eq, not_or]; exact ⟨by omega, fun q => q h3⟩), if_neg (by rw [h4]; simp)]
theorem num_e {ws : List Wrd} {i : Nat} {lo hi : Int} (h : ¬ lo = -1) (h2 : i < ws.length) (h3 : (ws.getD i default).k = 2) (h4 : hasB lo hi (ws.getD i default).n = true) : numE ws i 0 lo hi = (i + 1, 0, (ws.getD i default).n) := by
  unfold numE numR; rw [if_neg (by simp), if_neg h, if_neg (by simp only [Bool.or_eq_true, decide_eq_true_eq, not_or]; exact ⟨by omega, fun q => q h3⟩), if_pos h4]
set_option maxRecDepth 100000 in
theorem fail_spec (b : Nat) {ad : Option Addr} {n cap : Nat} (i : Nat) (e0 e : Int) (w : World) (hM : Mem w [rB b ad n cap i e0]) : Ret Tryz.prog 128 #[.pointer (some ⟨b, 0, none⟩), .int .i64 e] w (WrP b (.tuple #[]) (rO ad n cap i (if e0 = 0 then e else e0)) w) := by
 refine Ret.enterM (l := [.pointer (some ⟨b, 0, none⟩), .int .i64 e]) Tryz.func128 rfl Tryz.ntmps128 rfl ([rB b ad n cap i e0]) ((fun x => x = b)) hM ?_
 refine wpM.seq (wpM.region ?_)
 refine LM.mv rfl ?_
 refine LM.val (ov_nilCheck rfl) ?_
 refine LM.val (ov_field Tryz.underlying181 rfl Tryz.sizeOf31 rfl (k := 2) rfl rfl) ?_
 refine LM.rd (om_ld Tryz.isAgg31 rfl rfl) ?_
 refine LM.val (ov_eql rfl rfl) ?_
 refine LM.nil (QM.sub (e' := [(0, _), (1, _), (8, _)]) ⟨rfl, rfl, rfl, trivial⟩ (QM.then ?_))
 refine wpM.condD rfl (fun h1 => ?_) (fun h1 => ?_)
 ·
  refine wpM.region ?_
  refine LM.mv rfl ?_
  refine LM.mv rfl ?_
  refine LM.val (ov_nilCheck rfl) ?_
  refine LM.val (ov_field Tryz.underlying181 rfl Tryz.sizeOf31 rfl (k := 2) rfl rfl) ?_
  refine LM.st Tryz.sizeOf31 rfl rfl rfl au5 rfl (fun _ => rfl) ?_
  refine LM.nil (QM.sub (e' := []) trivial ?_)
  refine QM.leave (.inr rfl) [] Tryz.results128 rfl ?_
  intro w' hm' hc' hg'
  refine ⟨rfl, hc', ?_⟩; rw [if_pos h1]; exact hm'.at b
 refine wpM.skip ?_
 refine QM.leave (.inr rfl) [] Tryz.results128 rfl ?_
 intro w' hm' hc' hg'
 refine ⟨rfl, hc', ?_⟩; rw [if_neg h1]; exact hm'.at b
set_option maxRecDepth 100000 in
set_option maxHeartbeats 1000000 in
theorem is_spec {ws : List Wrd} (b : Nat) {ad : Option Addr} {n cap : Nat} (i : Nat) (e k : Int) (t : List UInt8) (w : World) (hn : n = ws.length) (hl : Sr fW 4 ws (.slice ad n cap) w) (hM : Mem w [rB b ad n cap i e]) : Ret Tryz.prog 126 #[.pointer (some ⟨b, 0, none⟩), .int .i64 k, vS t] w (fun v w' => v = .bool (isE ws i e k t) ∧ Ext w w') := by
 refine Ret.enterM (l := [.pointer (some ⟨b, 0, none⟩), .int .i64 k, vS t]) Tryz.func126 rfl Tryz.ntmps126 rfl ([rB b ad n cap i e]) (no) hM ?_
 refine wpM.seq (wpM.region ?_)
 refine LM.as rfl ?_
 refine LM.nil (QM.sub (e' := [(0, _), (1, _), (2, _)]) ⟨rfl, rfl, rfl, trivial⟩ (QM.then ?_))
 refine wpM.seq ?_
 refine wpM.draw [(0, 0), (1, 0), (2, 0), (3, 1), (4, 0), (5, 0), (6, 0), (7, 0), (8, 0), (9, 1), (10, 0), (11, 0), (12, 0), (13, 1), (14, 0), (15, 0), (16, 0), (17, 0), (18, 0), (19, 0), (20, 0), (21, 1), (22, 0), (23, 0), (24, 0), (25, 1), (26, 0), (27, 0), (28, 1), (29, 0), (30, 0), (31, 0), (32, 0), (33, 0), (34, 0), (35, 0), (36, 1), (37, 0), (38, 0), (39, 0), (40, 1), (41, 0), (42, 0), (43, 1), (44, 0), (45, 0), (46, 0), (47, 0)] (by kernel_rfl) (by kernel_rfl) ?_
 refine LD.val rfl rfl (ov_move rfl) ?_
 refine LD.val rfl rfl (ov_nilCheck rfl) ?_
 refine LD.val rfl rfl (ov_field Tryz.underlying181 rfl Tryz.sizeOf31 rfl (k := 2) rfl rfl) ?_
 refine LD.rd rfl rfl (om_ld Tryz.isAgg31 rfl rfl) ?_
 refine LD.val rfl rfl (ov_eql rfl rfl) ?_
 refine LD.val rfl rfl (ov_move rfl) ?_
 refine LD.splitD (t := 12) rfl (fun h1 => ?_) (fun h1 => ?_)
 ·
  refine LD.val rfl ⟨12, _, rfl, rfl, rfl⟩ (ov_move rfl) ?_
  refine LD.val rfl ⟨12, _, rfl, rfl, rfl⟩ (ov_nilCheck rfl) ?_
  refine LD.val rfl ⟨12, _, rfl, rfl, rfl⟩ (ov_field Tryz.underlying181 rfl Tryz.sizeOf3 rfl (k := 1) rfl rfl) ?_
  refine LD.rd rfl ⟨12, _, rfl, rfl, rfl⟩ (om_ld Tryz.isAgg3 rfl rfl) ?_
  refine LD.val rfl ⟨12, _, rfl, rfl, rfl⟩ (ov_move rfl) ?_
  refine LD.val rfl ⟨12, _, rfl, rfl, rfl⟩ (ov_nilCheck rfl) ?_
  refine LD.val rfl ⟨12, _, rfl, rfl, rfl⟩ (ov_field Tryz.underlying181 rfl Tryz.sizeOf23 rfl (k := 0) rfl rfl) ?_
  refine LD.rd rfl ⟨12, _, rfl, rfl, rfl⟩ (om_ld Tryz.isAgg23 rfl rfl) ?_
  refine LD.val rfl ⟨12, _, rfl, rfl, rfl⟩ (ov_len Tryz.underlying23 rfl) ?_
  refine LD.val rfl ⟨12, _, rfl, rfl, rfl⟩ (ov_lss rfl rfl) ?_
  refine LD.val rfl rfl (ov_pickT rfl rfl) ?_
  refine LD.val rfl rfl (ov_move rfl) ?_
  refine LD.splitD (t := 24) rfl (fun h2 => ?_) (fun h2 => ?_)
  ·
   refine LD.val rfl ⟨24, _, rfl, rfl, rfl⟩ (ov_move rfl) ?_
   refine LD.val rfl ⟨24, _, rfl, rfl, rfl⟩ (ov_nilCheck rfl) ?_
   refine LD.val rfl ⟨24, _, rfl, rfl, rfl⟩ (ov_field Tryz.underlying181 rfl Tryz.sizeOf23 rfl (k := 0) rfl rfl) ?_
   refine LD.rd rfl ⟨24, _, rfl, rfl, rfl⟩ (om_ld Tryz.isAgg23 rfl rfl) ?_
   refine LD.val rfl ⟨24, _, rfl, rfl, rfl⟩ (ov_move rfl) ?_
   refine LD.val rfl ⟨24, _, rfl, rfl, rfl⟩ (ov_nilCheck rfl) ?_
   refine LD.val rfl ⟨24, _, rfl, rfl, rfl⟩ (ov_field Tryz.underlying181 rfl Tryz.sizeOf3 rfl (k := 1) rfl rfl) ?_
   refine LD.rd rfl ⟨24, _, rfl, rfl, rfl⟩ (om_ld Tryz.isAgg3 rfl rfl) ?_
   refine LD.val rfl ⟨24, _, rfl, rfl, rfl⟩ (ov_idxSN au6 Tryz.underlying23 Tryz.sizeOf65 rfl rfl (by omega)) ?_
   refine LD.val rfl ⟨24, _, rfl, rfl, rfl⟩ (ov_field Tryz.underlying65 rfl Tryz.sizeOf3 rfl (k := 0) rfl rfl) ?_
   first | refine LD.rd rfl ⟨24, _, rfl, rfl, rfl⟩ (om_slE (j := 0) (by assumption) (by intro _; rfl) Tryz.isAgg3 rfl rfl au3 rfl (by rfl)) ?_ | refine LD.rdC rfl ⟨24, _, rfl, rfl, rfl⟩ (om_srE (j := 0) (by assumption) Tryz.isAgg3 rfl rfl au3 (by rfl) (by rfl) id) ?_ | refine LD.rd rfl ⟨24, _, rfl, rfl, rfl⟩ (om_ld Tryz.isAgg3 rfl rfl) ?_
   refine LD.val rfl ⟨24, _, rfl, rfl, rfl⟩ (ov_move rfl) ?_
   refine LD.val rfl ⟨24, _, rfl, rfl, rfl⟩ (ov_eql rfl rfl) ?_
   refine LD.val rfl rfl (ov_pickT rfl rfl) ?_
   refine LD.val rfl rfl (ov_move rfl) ?_
   refine LD.splitD (t := 39) rfl (fun h3 => ?_) (fun h3 => ?_)
   ·
    refine LD.val rfl ⟨39, _, rfl, rfl, rfl⟩ (ov_move rfl) ?_
    refine LD.val rfl ⟨39, _, rfl, rfl, rfl⟩ (ov_nilCheck rfl) ?_
    refine LD.val rfl ⟨39, _, rfl, rfl, rfl⟩ (ov_field Tryz.underlying181 rfl Tryz.sizeOf23 rfl (k := 0) rfl rfl) ?_
    refine LD.rd rfl ⟨39, _, rfl, rfl, rfl⟩ (om_ld Tryz.isAgg23 rfl rfl) ?_
    refine LD.val rfl ⟨39, _, rfl, rfl, rfl⟩ (ov_move rfl) ?_
    refine LD.val rfl ⟨39, _, rfl, rfl, rfl⟩ (ov_nilCheck rfl) ?_
    refine LD.val rfl ⟨39, _, rfl, rfl, rfl⟩ (ov_field Tryz.underlying181 rfl Tryz.sizeOf3 rfl (k := 1) rfl rfl) ?_
    refine LD.rd rfl ⟨39, _, rfl, rfl, rfl⟩ (om_ld Tryz.isAgg3 rfl rfl) ?_
    refine LD.val rfl ⟨39, _, rfl, rfl, rfl⟩ (ov_idxSN au6 Tryz.underlying23 Tryz.sizeOf65 rfl rfl (by omega)) ?_
    refine LD.val rfl ⟨39, _, rfl, rfl, rfl⟩ (ov_field Tryz.underlying65 rfl Tryz.sizeOf9 rfl (k := 1) rfl rfl) ?_
    first | refine LD.rd rfl ⟨39, _, rfl, rfl, rfl⟩ (om_slE (j := 1) (by assumption) (by intro _; rfl) Tryz.isAgg9 rfl rfl au3 rfl (by rfl)) ?_ | refine LD.rdC rfl ⟨39, _, rfl, rfl, rfl⟩ (om_srE (j := 1) (by assumption) Tryz.isAgg9 rfl rfl au3 (by rfl) (by rfl) id) ?_ | refine LD.rd rfl ⟨39, _, rfl, rfl, rfl⟩ (om_ld Tryz.isAgg9 rfl rfl) ?_
    refine LD.val rfl ⟨39, _, rfl, rfl, rfl⟩ (ov_move rfl) ?_
    refine LD.val rfl ⟨39, _, rfl, rfl, rfl⟩ (ov_seqlL rfl rfl) ?_
    refine LD.val rfl rfl (ov_pickT rfl rfl) ?_
    refine LD.val rfl rfl (ov_assign rfl) ?_
    refine LD.nil ?_
    refine QM.sub (e' := [(6, _)]) ⟨rfl, trivial⟩ (QM.then ?_)
    refine wpM.ret ?_
    refine QM.leave (.inl rfl) [.tmp 6] Tryz.results126 rfl ?_
    intro w' hm' hc' hg'
    refine ⟨?_, hc'⟩; simp only [resV, isE]; rw [decide_eq_true h1, decide_eq_true (show i < ws.length by omega), decide_eq_true h3]; simp only [Bool.true_and]
   refine LD.drop rfl rfl ⟨39, _, rfl, rfl, rfl⟩ ?_
   refine LD.drop rfl rfl ⟨39, _, rfl, rfl, rfl⟩ ?_
   refine LD.drop rfl rfl ⟨39, _, rfl, rfl, rfl⟩ ?_
   refine LD.drop rfl rfl ⟨39, _, rfl, rfl, rfl⟩ ?_
   refine LD.drop rfl rfl ⟨39, _, rfl, rfl, rfl⟩ ?_
   refine LD.drop rfl rfl ⟨39, _, rfl, rfl, rfl⟩ ?_
   refine LD.drop rfl rfl ⟨39, _, rfl, rfl, rfl⟩ ?_
   refine LD.drop rfl rfl ⟨39, _, rfl, rfl, rfl⟩ ?_
   refine LD.drop rfl rfl ⟨39, _, rfl, rfl, rfl⟩ ?_
   refine LD.drop rfl rfl ⟨39, _, rfl, rfl, rfl⟩ ?_
   refine LD.drop rfl rfl ⟨39, _, rfl, rfl, rfl⟩ ?_
   refine LD.drop rfl rfl ⟨39, _, rfl, rfl, rfl⟩ ?_
   refine LD.drop rfl rfl ⟨39, _, rfl, rfl, rfl⟩ ?_
   refine LD.val rfl rfl (ov_pickF rfl rfl) ?_
   refine LD.val rfl rfl (ov_assign rfl) ?_
   refine LD.nil ?_
   refine QM.sub (e' := [(6, _)]) ⟨rfl, trivial⟩ (QM.then ?_)
   refine wpM.ret ?_
   refine QM.leave (.inl rfl) [.tmp 6] Tryz.results126 rfl ?_
   intro w' hm' hc' hg'
   refine ⟨?_, hc'⟩; simp only [resV, isE]; rw [decide_eq_false h3]; simp only [Bool.and_false, Bool.false_and]
  refine LD.drop rfl rfl ⟨24, _, rfl, rfl, rfl⟩ ?_
  refine LD.drop rfl rfl ⟨24, _, rfl, rfl, rfl⟩ ?_
  refine LD.drop rfl rfl ⟨24, _, rfl, rfl, rfl⟩ ?_
  refine LD.drop rfl rfl ⟨24, _, rfl, rfl, rfl⟩ ?_
  refine LD.drop rfl rfl ⟨24, _, rfl, rfl, rfl⟩ ?_
  refine LD.drop rfl rfl ⟨24, _, rfl, rfl, rfl⟩ ?_
  refine LD.drop rfl rfl ⟨24, _, rfl, rfl, rfl⟩ ?_
  refine LD.drop rfl rfl ⟨24, _, rfl, rfl, rfl⟩ ?_
  refine LD.drop rfl rfl ⟨24, _, rfl, rfl, rfl⟩ ?_
  refine LD.drop rfl rfl ⟨24, _, rfl, rfl, rfl⟩ ?_
  refine LD.drop rfl rfl ⟨24, _, rfl, rfl, rfl⟩ ?_
  refine LD.drop rfl rfl ⟨24, _, rfl, rfl, rfl⟩ ?_
  refine LD.drop rfl rfl ⟨24, _, rfl, rfl, rfl⟩ ?_
  refine LD.val rfl rfl (ov_pickF rfl rfl) ?_
  refine LD.val rfl rfl (ov_move rfl) ?_
  refine LD.drop rfl rfl ⟨39, _, rfl, rfl, rfl⟩ ?_
  refine LD.drop rfl rfl ⟨39, _, rfl, rfl, rfl⟩ ?_
  refine LD.drop rfl rfl ⟨39, _, rfl, rfl, rfl⟩ ?_
  refine LD.drop rfl rfl ⟨39, _, rfl, rfl, rfl⟩ ?_
  refine LD.drop rfl rfl ⟨39, _, rfl, rfl, rfl⟩ ?_
  refine LD.drop rfl rfl ⟨39, _, rfl, rfl, rfl⟩ ?_
  refine LD.drop rfl rfl ⟨39, _, rfl, rfl, rfl⟩ ?_
  refine LD.drop rfl rfl ⟨39, _, rfl, rfl, rfl⟩ ?_
  refine LD.drop rfl rfl ⟨39, _, rfl, rfl, rfl⟩ ?_
  refine LD.drop rfl rfl ⟨39, _, rfl, rfl, rfl⟩ ?_
  refine LD.drop rfl rfl ⟨39, _, rfl, rfl, rfl⟩ ?_
  refine LD.drop rfl rfl ⟨39, _, rfl, rfl, rfl⟩ ?_
  refine LD.drop rfl rfl ⟨39, _, rfl, rfl, rfl⟩ ?_
  refine LD.val rfl rfl (ov_pickF rfl rfl) ?_
  refine LD.val rfl rfl (ov_assign rfl) ?_
  refine LD.nil ?_
  refine QM.sub (e' := [(6, _)]) ⟨rfl, trivial⟩ (QM.then ?_)
  refine wpM.ret ?_
  refine QM.leave (.inl rfl) [.tmp 6] Tryz.results126 rfl ?_
  intro w' hm' hc' hg'
  refine ⟨?_, hc'⟩; simp only [resV, isE]; rw [decide_eq_false (show ¬ i < ws.length by omega)]; simp only [Bool.and_false, Bool.false_and]
 refine LD.drop rfl rfl ⟨12, _, rfl, rfl, rfl⟩ ?_
 refine LD.drop rfl rfl ⟨12, _, rfl, rfl, rfl⟩ ?_
 refine LD.drop rfl rfl ⟨12, _, rfl, rfl, rfl⟩ ?_
 refine LD.drop rfl rfl ⟨12, _, rfl, rfl, rfl⟩ ?_
 refine LD.drop rfl rfl ⟨12, _, rfl, rfl, rfl⟩ ?_
 refine LD.drop rfl rfl ⟨12, _, rfl, rfl, rfl⟩ ?_
 refine LD.drop rfl rfl ⟨12, _, rfl, rfl, rfl⟩ ?_
 refine LD.drop rfl rfl ⟨12, _, rfl, rfl, rfl⟩ ?_
 refine LD.drop rfl rfl ⟨12, _, rfl, rfl, rfl⟩ ?_
 refine LD.drop rfl rfl ⟨12, _, rfl, rfl, rfl⟩ ?_
 refine LD.val rfl rfl (ov_pickF rfl rfl) ?_
 refine LD.val rfl rfl (ov_move rfl) ?_
 refine LD.drop rfl rfl ⟨24, _, rfl, rfl, rfl⟩ ?_
 refine LD.drop rfl rfl ⟨24, _, rfl, rfl, rfl⟩ ?_
 refine LD.drop rfl rfl ⟨24, _, rfl, rfl, rfl⟩ ?_
 refine LD.drop rfl rfl ⟨24, _, rfl, rfl, rfl⟩ ?_
 refine LD.drop rfl rfl ⟨24, _, rfl, rfl, rfl⟩ ?_
 refine LD.drop rfl rfl ⟨24, _, rfl, rfl, rfl⟩ ?_
 refine LD.drop rfl rfl ⟨24, _, rfl, rfl, rfl⟩ ?_
 refine LD.drop rfl rfl ⟨24, _, rfl, rfl, rfl⟩ ?_
 refine LD.drop rfl rfl ⟨24, _, rfl, rfl, rfl⟩ ?_
 refine LD.drop rfl rfl ⟨24, _, rfl, rfl, rfl⟩ ?_
 refine LD.drop rfl rfl ⟨24, _, rfl, rfl, rfl⟩ ?_
 refine LD.drop rfl rfl ⟨24, _, rfl, rfl, rfl⟩ ?_
 refine LD.drop rfl rfl ⟨24, _, rfl, rfl, rfl⟩ ?_
 refine LD.val rfl rfl (ov_pickF rfl rfl) ?_
 refine LD.val rfl rfl (ov_move rfl) ?_
 refine LD.drop rfl rfl ⟨39, _, rfl, rfl, rfl⟩ ?_
 refine LD.drop rfl rfl ⟨39, _, rfl, rfl, rfl⟩ ?_
 refine LD.drop rfl rfl ⟨39, _, rfl, rfl, rfl⟩ ?_
 refine LD.drop rfl rfl ⟨39, _, rfl, rfl, rfl⟩ ?_
 refine LD.drop rfl rfl ⟨39, _, rfl, rfl, rfl⟩ ?_
 refine LD.drop rfl rfl ⟨39, _, rfl, rfl, rfl⟩ ?_
 refine LD.drop rfl rfl ⟨39, _, rfl, rfl, rfl⟩ ?_
 refine LD.drop rfl rfl ⟨39, _, rfl, rfl, rfl⟩ ?_
 refine LD.drop rfl rfl ⟨39, _, rfl, rfl, rfl⟩ ?_
 refine LD.drop rfl rfl ⟨39, _, rfl, rfl, rfl⟩ ?_
 refine LD.drop rfl rfl ⟨39, _, rfl, rfl, rfl⟩ ?_
 refine LD.drop rfl rfl ⟨39, _, rfl, rfl, rfl⟩ ?_
 refine LD.drop rfl rfl ⟨39, _, rfl, rfl, rfl⟩ ?_
 refine LD.val rfl rfl (ov_pickF rfl rfl) ?_
 refine LD.val rfl rfl (ov_assign rfl) ?_
 refine LD.nil ?_
 refine QM.sub (e' := [(6, _)]) ⟨rfl, trivial⟩ (QM.then ?_)
 refine wpM.ret ?_
 refine QM.leave (.inl rfl) [.tmp 6] Tryz.results126 rfl ?_
 intro w' hm' hc' hg'
 refine ⟨?_, hc'⟩; simp only [resV, isE]; rw [decide_eq_false h1]; simp only [Bool.and_false, Bool.false_and]
set_option maxRecDepth 100000 in
theorem maybe_spec {ws : List Wrd} (b : Nat) {ad : Option Addr} {n cap : Nat} (i : Nat) (e k : Int) (t : List UInt8) (w : World) (hn : n = ws.length) (hx : ws.length ≤ 1000000000) (hl : Sr fW 4 ws (.slice ad n cap) w) (hab : 0 < ws.length → adB ad ≠ b) (hM : Mem w [rB b ad n cap i e]) : Ret Tryz.prog 125 #[.pointer (some ⟨b, 0, none⟩), .int .i64 k, vS t] w (WrP b (.bool (isE ws i e k t)) (rO ad n cap (mayE ws i e k t) e) w) := by
 refine Ret.enterM (l := [.pointer (some ⟨b, 0, none⟩), .int .i64 k, vS t]) Tryz.func125 rfl Tryz.ntmps125 rfl ([rB b ad n cap i e]) ((fun x => x = b)) hM ?_
 refine wpM.seq (wpM.region ?_)
 refine LM.as rfl ?_
 refine LM.nil (QM.sub (e' := [(0, _), (1, _), (2, _)]) ⟨rfl, rfl, rfl, trivial⟩ (QM.then ?_))
 refine wpM.seq ?_
 refine wpM.seq (wpM.region ?_)
 refine LM.mv rfl ?_
 refine LM.mv rfl ?_
 refine LM.mv rfl ?_
 refine LM.callE (oc_call (enters_fn Tryz.func126 (by kernel_rfl) rfl) rfl) (fun w hm hc hg => is_spec b i e k t w hn (hl.kp hc hab) (hm.pick _)) ?_
 refine LM.nil (QM.sub (e' := [(0, _), (10, _)]) ⟨rfl, rfl, trivial⟩ (QM.then ?_))
 first | refine wpM.condD rfl (fun h1 => ?_) (fun h1 => ?_) | refine wpM.condB rfl (fun h1 => ?_) (fun h1 => ?_)
 ·
  have hlt := (isE_lt h1).1
  refine wpM.seq (wpM.region ?_)
  refine LM.mv rfl ?_
  refine LM.val (ov_nilCheck rfl) ?_
  refine LM.val (ov_field Tryz.underlying181 rfl Tryz.sizeOf3 rfl (k := 1) rfl rfl) ?_
  refine LM.rd (om_ld Tryz.isAgg3 rfl rfl) ?_
  refine LM.val (ov_add64 rfl rfl (by omega)) ?_
  refine LM.val (ov_nilCheck rfl) ?_
  refine LM.val (ov_field Tryz.underlying181 rfl Tryz.sizeOf3 rfl (k := 1) rfl rfl) ?_
  refine LM.st Tryz.sizeOf3 rfl rfl rfl au5 rfl (fun _ => rfl) ?_
  refine LM.nil (QM.sub (e' := []) trivial (QM.then (wpM.seq (wpM.region ?_))))
  refine LM.as rfl ?_
  refine LM.nil (QM.sub (e' := [(6, _)]) ⟨rfl, trivial⟩ (QM.then ?_))
  refine wpM.ret ?_
  refine QM.then_ret ?_
  refine QM.leave (.inl rfl) [.tmp 6] Tryz.results125 rfl ?_
  intro w' hm' hc' hg'
  refine ⟨by rw [h1]; rfl, hc', ?_⟩; unfold mayE; rw [if_pos h1]; exact hm'.at b
 refine wpM.skip ?_
 refine QM.then (wpM.seq (wpM.region ?_))
 refine LM.as rfl ?_
 refine LM.nil (QM.sub (e' := [(6, _)]) ⟨rfl, trivial⟩ (QM.then ?_))
 refine wpM.ret ?_
 refine QM.leave (.inl rfl) [.tmp 6] Tryz.results125 rfl ?_
 intro w' hm' hc' hg'
 refine ⟨by rw [h1]; rfl, hc', ?_⟩; unfold mayE; rw [if_neg (by rw [h1]; simp)]; exact hm'.at b
set_option maxRecDepth 100000 in
theorem need_spec {ws : List Wrd} (b : Nat) {ad : Option Addr} {n cap : Nat} (i : Nat) (e k : Int) (t : List UInt8) (w : World) (hn : n = ws.length) (hx : ws.length ≤ 1000000000) (hl : Sr fW 4 ws (.slice ad n cap) w) (hab : 0 < ws.length → adB ad ≠ b) (hM : Mem w [rB b ad n cap i e]) : Ret Tryz.prog 124 #[.pointer (some ⟨b, 0, none⟩), .int .i64 k, vS t] w (WrP b (.tuple #[]) (rO ad n cap (needE ws i e k t).1 (needE ws i e k t).2) w) := by
 refine Ret.enterM (l := [.pointer (some ⟨b, 0, none⟩), .int .i64 k, vS t]) Tryz.func124 rfl Tryz.ntmps124 rfl ([rB b ad n cap i e]) ((fun x => x = b)) hM ?_
 refine wpM.seq (wpM.region ?_)
 refine LM.mv rfl ?_
 refine LM.mv rfl ?_
 refine LM.mv rfl ?_
 refine LM.cW (oc_call (enters_fn Tryz.func125 (by kernel_rfl) rfl) rfl) (fun w hm hc hg => maybe_spec b i e k t w hn hx (hl.kp hc hab) hab (hm.pick _)) rfl (fun _ => rfl) ?_
 first | refine LM.val (ov_notD rfl) ?_ | refine LM.val (ov_not rfl) ?_
 refine LM.nil (QM.sub (e' := [(0, _), (10, _)]) ⟨rfl, rfl, trivial⟩ (QM.then ?_))
 first | refine wpM.condD rfl (fun h1 => ?_) (fun h1 => ?_) | refine wpM.condB rfl (fun h1 => ?_) (fun h1 => ?_)
 ·
  refine wpM.region ?_
  refine LM.mv rfl ?_
  refine LM.cW (oc_call (enters_fn Tryz.func128 (by kernel_rfl) rfl) rfl) (fun w hm hc hg => fail_spec b (ad := ad) (n := n) (cap := cap) (mayE ws i e k t) e 5 w (hm.pick _)) rfl (fun _ => rfl) ?_
  refine LM.nil (QM.sub (e' := []) trivial ?_)
  refine QM.leave (.inr rfl) [] Tryz.results124 rfl ?_
  intro w' hm' hc' hg'
  have hf : isE ws i e k t = false := (by simpa using h1); refine ⟨rfl, hc', ?_⟩; have h3 := hm'.at b; unfold mayE at h3; rw [if_neg (by rw [hf]; simp)] at h3; unfold needE; rw [if_neg (by rw [hf]; simp)]; by_cases h0 : e = 0; (rw [if_pos h0] at h3 ⊢; exact h3); (rw [if_neg h0] at h3 ⊢; exact h3)
 refine wpM.skip ?_
 refine QM.leave (.inr rfl) [] Tryz.results124 rfl ?_
 intro w' hm' hc' hg'
 have hf : isE ws i e k t = true := (by simpa using h1); refine ⟨rfl, hc', ?_⟩; have h3 := hm'.at b; unfold mayE at h3; rw [if_pos hf] at h3; unfold needE; rw [if_pos hf]; exact h3
set_option maxRecDepth 100000 in
set_option maxHeartbeats 1000000 in
theorem number_spec {ws : List Wrd} (b : Nat) {ad : Option Addr} {n cap : Nat} (i : Nat) (e lo hi : Int) (w : World) (hn : n = ws.length) (hx : ws.length ≤ 1000000000) (hl : Sr fW 4 ws (.slice ad n cap) w) (hab : 0 < ws.length → adB ad ≠ b) (hM : Mem w [rB b ad n cap i e]) : Ret Tryz.prog 149 #[.pointer (some ⟨b, 0, none⟩), .agg #[.int .i64 lo, .int .i64 hi]] w (WrP b (.int .i64 (numE ws i e lo hi).2.2) (rO ad n cap (numE ws i e lo hi).1 (numE ws i e lo hi).2.1) w) := by
 refine Ret.enterM (l := [.pointer (some ⟨b, 0, none⟩), .agg #[.int .i64 lo, .int .i64 hi]]) Tryz.func149 rfl Tryz.ntmps149 rfl ([rB b ad n cap i e]) ((fun x => x = b)) hM ?_
 refine wpM.seq (wpM.region ?_)
 refine LM.box rfl rfl (fun b3 hb3 => ?_)
 refine LM.as rfl ?_
 refine LM.nil (QM.sub (e' := [(0, _), (3, _)]) ⟨rfl, rfl, trivial⟩ (QM.then ?_))
 refine wpM.seq ?_
 refine wpM.block ?_
 refine wpM.seq (wpM.region ?_)
 refine LM.val (ov_field Tryz.underlying159 rfl Tryz.sizeOf3 rfl (k := 0) rfl rfl) ?_
 refine LM.rd (om_ld Tryz.isAgg3 rfl rfl) ?_
 refine LM.val (ov_eql rfl rfl) ?_
 refine LM.mv rfl ?_
 refine LM.splitD (t := 9) rfl (fun h1 => ?_) (fun h1 => ?_)
 ·
  refine LM.dr 9 rfl rfl rfl ?_
  refine LM.dr 9 rfl rfl rfl ?_
  refine LM.dr 9 rfl rfl rfl ?_
  refine LM.dr 9 rfl rfl rfl ?_
  refine LM.dr 9 rfl rfl rfl ?_
  refine LM.val (ov_pickT rfl rfl) ?_
  refine LM.as rfl ?_
  refine LM.nil (QM.sub (e' := [(0, _), (3, _), (5, _)]) ⟨rfl, rfl, rfl, trivial⟩ (QM.then ?_))
  refine wpM.condT rfl ?_
  refine wpM.seq (wpM.region ?_)
  refine LM.as rfl ?_
  refine LM.nil (QM.sub (e' := [(4, _)]) ⟨rfl, trivial⟩ (QM.then ?_))
  refine wpM.ret ?_
  refine QM.block_ret ?_
  refine QM.then_ret ?_
  refine QM.leave (.inl rfl) [.tmp 4] Tryz.results149 rfl ?_
  intro w' hm' hc' hg'
  rw [num_a h1]; exact ⟨rfl, hc', hm'.at b⟩
 refine LM.sp 9 rfl rfl rfl ?_
 refine LM.mv rfl ?_
 refine LM.sp 9 rfl rfl rfl ?_
 refine LM.val (ov_nilCheck rfl) ?_
 refine LM.sp 9 rfl rfl rfl ?_
 refine LM.val (ov_field Tryz.underlying181 rfl Tryz.sizeOf31 rfl (k := 2) rfl rfl) ?_
 refine LM.sp 9 rfl rfl rfl ?_
 refine LM.rd (om_ld Tryz.isAgg31 rfl rfl) ?_
 refine LM.sp 9 rfl rfl rfl ?_
 refine LM.val (ov_neq rfl rfl) ?_
 refine LM.val (ov_pickF rfl rfl) ?_
 refine LM.as rfl ?_
 refine LM.nil (QM.sub (e' := [(0, _), (3, _), (5, _)]) ⟨rfl, rfl, rfl, trivial⟩ (QM.then ?_))
 refine wpM.condD rfl (fun h2 => ?_) (fun h2 => ?_)
 ·
  refine wpM.seq (wpM.region ?_)
  refine LM.as rfl ?_
  refine LM.nil (QM.sub (e' := [(4, _)]) ⟨rfl, trivial⟩ (QM.then ?_))
  refine wpM.ret ?_
  refine QM.block_ret ?_
  refine QM.then_ret ?_
  refine QM.leave (.inl rfl) [.tmp 4] Tryz.results149 rfl ?_
  intro w' hm' hc' hg'
  rw [num_b h2]; exact ⟨rfl, hc', hm'.at b⟩
 obtain rfl : e = 0 := Classical.not_not.1 h2
 refine wpM.seq ?_
 refine wpM.draw [(0, 0), (1, 0), (2, 0), (3, 1), (4, 0), (5, 0), (6, 0), (7, 1), (8, 0), (9, 0), (10, 0), (11, 0), (12, 0), (13, 0), (14, 1), (15, 0), (16, 0), (17, 0), (18, 1), (19, 0), (20, 0), (21, 1), (22, 0), (23, 0), (24, 0)] (by kernel_rfl) (by kernel_rfl) ?_
 refine LD.val rfl rfl (ov_move rfl) ?_
 refine LD.val rfl rfl (ov_nilCheck rfl) ?_
 refine LD.val rfl rfl (ov_field Tryz.underlying181 rfl Tryz.sizeOf3 rfl (k := 1) rfl rfl) ?_
 refine LD.rd rfl rfl (om_ld Tryz.isAgg3 rfl rfl) ?_
 refine LD.val rfl rfl (ov_move rfl) ?_
 refine LD.val rfl rfl (ov_nilCheck rfl) ?_
 refine LD.val rfl rfl (ov_field Tryz.underlying181 rfl Tryz.sizeOf23 rfl (k := 0) rfl rfl) ?_
 refine LD.rd rfl rfl (om_ld Tryz.isAgg23 rfl rfl) ?_
 refine LD.val rfl rfl (ov_len Tryz.underlying23 rfl) ?_
 refine LD.val rfl rfl (ov_geq rfl rfl) ?_
 refine LD.val rfl rfl (ov_move rfl) ?_
 refine LD.splitD (t := 27) rfl (fun h3 => ?_) (fun h3 => ?_)
 ·
  refine LD.drop rfl rfl ⟨27, _, rfl, rfl, rfl⟩ ?_
  refine LD.drop rfl rfl ⟨27, _, rfl, rfl, rfl⟩ ?_
  refine LD.drop rfl rfl ⟨27, _, rfl, rfl, rfl⟩ ?_
  refine LD.drop rfl rfl ⟨27, _, rfl, rfl, rfl⟩ ?_
  refine LD.drop rfl rfl ⟨27, _, rfl, rfl, rfl⟩ ?_
  refine LD.drop rfl rfl ⟨27, _, rfl, rfl, rfl⟩ ?_
  refine LD.drop rfl rfl ⟨27, _, rfl, rfl, rfl⟩ ?_
  refine LD.drop rfl rfl ⟨27, _, rfl, rfl, rfl⟩ ?_
  refine LD.drop rfl rfl ⟨27, _, rfl, rfl, rfl⟩ ?_
  refine LD.drop rfl rfl ⟨27, _, rfl, rfl, rfl⟩ ?_
  refine LD.drop rfl rfl ⟨27, _, rfl, rfl, rfl⟩ ?_
  refine LD.drop rfl rfl ⟨27, _, rfl, rfl, rfl⟩ ?_
  refine LD.val rfl rfl (ov_pickT rfl rfl) ?_
  refine LD.val rfl rfl (ov_assign rfl) ?_
  refine LD.nil ?_
  refine QM.sub (e' := [(0, _), (3, _), (16, _)]) ⟨rfl, rfl, rfl, trivial⟩ (QM.then ?_)
  refine wpM.condT rfl ?_
  refine wpM.seq (wpM.region ?_)
  refine LM.mv rfl ?_
  refine LM.cW (oc_call (enters_fn Tryz.func128 (by kernel_rfl) rfl) rfl) (fun w hm hc hg => fail_spec b (ad := ad) (n := n) (cap := cap) i 0 _ w (hm.pick _)) rfl (fun _ => rfl) ?_
  refine LM.nil (QM.sub (e' := []) trivial (QM.then (wpM.seq (wpM.region ?_))))
  refine LM.as rfl ?_
  refine LM.nil (QM.sub (e' := [(4, _)]) ⟨rfl, trivial⟩ (QM.then ?_))
  refine wpM.ret ?_
  refine QM.block_ret ?_
  refine QM.then_ret ?_
  refine QM.leave (.inl rfl) [.tmp 4] Tryz.results149 rfl ?_
  intro w' hm' hc' hg'
  rw [num_c h1 (.inl (by omega))]; exact ⟨rfl, hc', hm'.at b⟩
 refine LD.val rfl ⟨27, _, rfl, rfl, rfl⟩ (ov_move rfl) ?_
 refine LD.val rfl ⟨27, _, rfl, rfl, rfl⟩ (ov_nilCheck rfl) ?_
 refine LD.val rfl ⟨27, _, rfl, rfl, rfl⟩ (ov_field Tryz.underlying181 rfl Tryz.sizeOf23 rfl (k := 0) rfl rfl) ?_
 refine LD.rd rfl ⟨27, _, rfl, rfl, rfl⟩ (om_ld Tryz.isAgg23 rfl rfl) ?_
 refine LD.val rfl ⟨27, _, rfl, rfl, rfl⟩ (ov_move rfl) ?_
 refine LD.val rfl ⟨27, _, rfl, rfl, rfl⟩ (ov_nilCheck rfl) ?_
 refine LD.val rfl ⟨27, _, rfl, rfl, rfl⟩ (ov_field Tryz.underlying181 rfl Tryz.sizeOf3 rfl (k := 1) rfl rfl) ?_
 refine LD.rd rfl ⟨27, _, rfl, rfl, rfl⟩ (om_ld Tryz.isAgg3 rfl rfl) ?_
 refine LD.val rfl ⟨27, _, rfl, rfl, rfl⟩ (ov_idxSN au6 Tryz.underlying23 Tryz.sizeOf65 rfl rfl (by omega)) ?_
 refine LD.val rfl ⟨27, _, rfl, rfl, rfl⟩ (ov_field Tryz.underlying65 rfl Tryz.sizeOf3 rfl (k := 0) rfl rfl) ?_
 first | refine LD.rd rfl ⟨27, _, rfl, rfl, rfl⟩ (om_slE (j := 0) (by assumption) (by intro _; rfl) Tryz.isAgg3 rfl rfl au3 rfl (by rfl)) ?_ | refine LD.rdC rfl ⟨27, _, rfl, rfl, rfl⟩ (om_srE (j := 0) (by assumption) Tryz.isAgg3 rfl rfl au3 (by rfl) (by rfl) (by exact hab (by omega))) ?_ | refine LD.rd rfl ⟨27, _, rfl, rfl, rfl⟩ (om_ld Tryz.isAgg3 rfl rfl) ?_
 refine LD.val rfl ⟨27, _, rfl, rfl, rfl⟩ (ov_neq rfl rfl) ?_
 refine LD.val rfl rfl (ov_pickF rfl rfl) ?_
 refine LD.val rfl rfl (ov_assign rfl) ?_
 refine LD.nil ?_
 refine QM.sub (e' := [(0, _), (3, _), (16, _)]) ⟨rfl, rfl, rfl, trivial⟩ (QM.then ?_)
 refine wpM.condD rfl (fun h4 => ?_) (fun h4 => ?_)
 ·
  refine wpM.seq (wpM.region ?_)
  refine LM.mv rfl ?_
  refine LM.cW (oc_call (enters_fn Tryz.func128 (by kernel_rfl) rfl) rfl) (fun w hm hc hg => fail_spec b (ad := ad) (n := n) (cap := cap) i 0 _ w (hm.pick _)) rfl (fun _ => rfl) ?_
  refine LM.nil (QM.sub (e' := []) trivial (QM.then (wpM.seq (wpM.region ?_))))
  refine LM.as rfl ?_
  refine LM.nil (QM.sub (e' := [(4, _)]) ⟨rfl, trivial⟩ (QM.then ?_))
  refine wpM.ret ?_
  refine QM.block_ret ?_
  refine QM.then_ret ?_
  refine QM.leave (.inl rfl) [.tmp 4] Tryz.results149 rfl ?_
  intro w' hm' hc' hg'
  rw [num_c h1 (.inr h4)]; exact ⟨rfl, hc', hm'.at b⟩
 refine wpM.seq ?_
 refine wpM.draw [(0, 1), (1, 0), (2, 0), (3, 0), (4, 1), (5, 0), (6, 0), (7, 0), (8, 1), (9, 0), (10, 0), (11, 1), (12, 2), (13, 0), (14, 0)] (by kernel_rfl) (by kernel_rfl) ?_
 refine LD.rd rfl rfl (om_ldW Tryz.isAgg159 Tryz.sizeOf159 rfl rfl) ?_
 refine LD.val rfl rfl (ov_move rfl) ?_
 refine LD.val rfl rfl (ov_nilCheck rfl) ?_
 refine LD.val rfl rfl (ov_field Tryz.underlying181 rfl Tryz.sizeOf23 rfl (k := 0) rfl rfl) ?_
 refine LD.rd rfl rfl (om_ld Tryz.isAgg23 rfl rfl) ?_
 refine LD.val rfl rfl (ov_move rfl) ?_
 refine LD.val rfl rfl (ov_nilCheck rfl) ?_
 refine LD.val rfl rfl (ov_field Tryz.underlying181 rfl Tryz.sizeOf3 rfl (k := 1) rfl rfl) ?_
 refine LD.rd rfl rfl (om_ld Tryz.isAgg3 rfl rfl) ?_
 refine LD.val rfl rfl (ov_idxSN au6 Tryz.underlying23 Tryz.sizeOf65 rfl rfl (by omega)) ?_
 refine LD.val rfl rfl (ov_field Tryz.underlying65 rfl Tryz.sizeOf3 rfl (k := 2) rfl rfl) ?_
 first | refine LD.rd rfl rfl (om_slE (j := 2) (by assumption) (by intro _; rfl) Tryz.isAgg3 rfl rfl au3 rfl (by rfl)) ?_ | refine LD.rdC rfl rfl (om_srE (j := 2) (by assumption) Tryz.isAgg3 rfl rfl au3 (by rfl) (by rfl) (by exact hab (by omega))) ?_ | refine LD.rd rfl rfl (om_ld Tryz.isAgg3 rfl rfl) ?_
 refine LD.callE rfl rfl (oc_call (enters_fn Tryz.func165 (by kernel_rfl) rfl) rfl) (fun w hm hc hg => has_spec lo hi _ w) ?_
 first | refine LD.val rfl rfl (ov_notD rfl) ?_ | refine LD.val rfl rfl (ov_not rfl) ?_
 refine LD.val rfl rfl (ov_assign rfl) ?_
 refine LD.nil ?_
 refine QM.sub (e' := [(0, _), (43, _)]) ⟨rfl, rfl, trivial⟩ (QM.then ?_)
 first | refine wpM.condD rfl (fun h5 => ?_) (fun h5 => ?_) | refine wpM.condB rfl (fun h5 => ?_) (fun h5 => ?_)
 ·
  refine wpM.seq (wpM.region ?_)
  refine LM.mv rfl ?_
  refine LM.cW (oc_call (enters_fn Tryz.func128 (by kernel_rfl) rfl) rfl) (fun w hm hc hg => fail_spec b (ad := ad) (n := n) (cap := cap) i 0 _ w (hm.pick _)) rfl (fun _ => rfl) ?_
  refine LM.nil (QM.sub (e' := []) trivial (QM.then (wpM.seq (wpM.region ?_))))
  refine LM.as rfl ?_
  refine LM.nil (QM.sub (e' := [(4, _)]) ⟨rfl, trivial⟩ (QM.then ?_))
  refine wpM.ret ?_
  refine QM.block_ret ?_
  refine QM.then_ret ?_
  refine QM.leave (.inl rfl) [.tmp 4] Tryz.results149 rfl ?_
  intro w' hm' hc' hg'
  rw [num_d h1 (by omega) (Classical.not_not.1 h4) (by simpa using h5)]; exact ⟨rfl, hc', hm'.at b⟩
 refine wpM.skip ?_
 refine QM.block_normal ?_
 refine QM.then (wpM.seq (wpM.region ?_))
 refine LM.mv rfl ?_
 refine LM.val (ov_nilCheck rfl) ?_
 refine LM.val (ov_field Tryz.underlying181 rfl Tryz.sizeOf3 rfl (k := 1) rfl rfl) ?_
 refine LM.rd (om_ld Tryz.isAgg3 rfl rfl) ?_
 refine LM.val (ov_add64 rfl rfl (by omega)) ?_
 refine LM.val (ov_nilCheck rfl) ?_
 refine LM.val (ov_field Tryz.underlying181 rfl Tryz.sizeOf3 rfl (k := 1) rfl rfl) ?_
 refine LM.st Tryz.sizeOf3 rfl rfl rfl au5 rfl (fun _ => rfl) ?_
 refine LM.nil (QM.sub (e' := [(0, _)]) ⟨rfl, trivial⟩ (QM.then ?_))
 refine wpM.seq ?_
 refine wpM.draw [(0, 0), (1, 0), (2, 0), (3, 1), (4, 0), (5, 0), (6, 0), (7, 1), (8, 0), (9, 0), (10, 0), (11, 1), (12, 0)] (by kernel_rfl) (by kernel_rfl) ?_
 refine LD.val rfl rfl (ov_move rfl) ?_
 refine LD.val rfl rfl (ov_nilCheck rfl) ?_
 refine LD.val rfl rfl (ov_field Tryz.underlying181 rfl Tryz.sizeOf23 rfl (k := 0) rfl rfl) ?_
 refine LD.rd rfl rfl (om_ld Tryz.isAgg23 rfl rfl) ?_
 refine LD.val rfl rfl (ov_move rfl) ?_
 refine LD.val rfl rfl (ov_nilCheck rfl) ?_
 refine LD.val rfl rfl (ov_field Tryz.underlying181 rfl Tryz.sizeOf3 rfl (k := 1) rfl rfl) ?_
 refine LD.rd rfl rfl (om_ld Tryz.isAgg3 rfl rfl) ?_
 refine LD.val rfl rfl (ov_sub64 rfl rfl (by omega)) ?_
 first | refine LD.val rfl rfl (ov_idxSN au6 Tryz.underlying23 Tryz.sizeOf65 rfl rfl (by omega)) ?_ | refine LD.val rfl rfl (ov_idxS au6 Tryz.underlying23 Tryz.sizeOf65 rfl rfl (by omega)) ?_ | refine LD.val rfl rfl (ov_idx Tryz.underlying23 Tryz.sizeOf65 rfl rfl (by omega)) ?_
 refine LD.val rfl rfl (ov_field Tryz.underlying65 rfl Tryz.sizeOf3 rfl (k := 2) rfl rfl) ?_
 first | refine LD.rd rfl rfl (om_slE (j := 2) (by assumption) (by intro _; rfl) Tryz.isAgg3 rfl rfl au3 rfl (by rfl)) ?_ | refine LD.rdC rfl rfl (om_srE (j := 2) (by assumption) Tryz.isAgg3 rfl rfl au3 (by rfl) (by rfl) (by exact hab (by omega))) ?_ | refine LD.rd rfl rfl (om_ld Tryz.isAgg3 rfl rfl) ?_
 refine LD.val rfl rfl (ov_assign rfl) ?_
 refine LD.nil ?_
 refine QM.sub (e' := [(4, _)]) ⟨rfl, trivial⟩ (QM.then ?_)
 refine wpM.ret ?_
 refine QM.leave (.inl rfl) [.tmp 4] Tryz.results149 rfl ?_
 intro w' hm' hc' hg'
 rw [num_e h1 (by omega) (Classical.not_not.1 h4) (by simpa using h5), show ((i : Int) + 1 - 1).toNat = i by omega]; exact ⟨rfl, hc', hm'.at b⟩
end Go.Eng
namespace Go.Eng
open Go Go.Proofs Go.RowKit
theorem op_need {ws : List Wrd} {i ahead : Nat} (h1 : kindR ws i ≠ 0) (h2 : ahead < 12) : opR ws i ahead = ((needE ws (opB ws i).1 (opB ws i).2.1 3 [59]).1, (needE ws (opB ws i).1 (opB ws i).2.1 3 [59]).2, ⟨kindR ws i, (opA ws i).2.2, (opB ws i).2.2⟩) := by
  unfold opR needE; rw [if_neg h1, if_neg (by omega), isE_eq]
  by_cases h : (opB ws i).2.1 = 0
  · rw [if_neg (by simp [h]), decide_eq_true h, Bool.true_and]
    split
    · rw [h]
    · rfl
  · rw [if_pos h, decide_eq_false h, Bool.false_and, if_neg (by simp), if_neg h]
theorem op_a {ws : List Wrd} {i ahead : Nat} (h1 : kindR ws i = 0) : opR ws i ahead = (i, 5, ⟨0, 0, 0⟩) := by unfold opR; rw [if_pos h1]
theorem op_b {ws : List Wrd} {i ahead : Nat} (h1 : kindR ws i ≠ 0) (h2 : 12 ≤ ahead) : opR ws i ahead = (i, 6, ⟨0, 0, 0⟩) := by unfold opR; rw [if_neg h1, if_pos h2]
set_option maxRecDepth 100000 in
set_option maxHeartbeats 1000000 in
theorem op_spec {ws : List Wrd} (b : Nat) {ad : Option Addr} {n cap : Nat} (i ahead : Nat) (w : World) (hn : n = ws.length) (hx : ws.length ≤ 1000000000) (hl : Sr fW 4 ws (.slice ad n cap) w) (hab : 0 < ws.length → adB ad ≠ b) (hM : Mem w [rB b ad n cap i 0]) : Ret Tryz.prog 127 #[.pointer (some ⟨b, 0, none⟩), .int .i64 (ahead : Nat)] w (WrP b (.agg (fO (opR ws i ahead).2.2).toArray) (rO ad n cap (opR ws i ahead).1 (opR ws i ahead).2.1) w) := by
 refine Ret.enterM (l := [.pointer (some ⟨b, 0, none⟩), .int .i64 (ahead : Nat)]) Tryz.func127 rfl Tryz.ntmps127 rfl ([rB b ad n cap i 0]) ((fun x => x = b)) hM ?_
 refine wpM.seq (wpM.region ?_)
 refine LM.alloc Tryz.zeroValue135 rfl (fun b4 hb4 => ?_)
 refine LM.nil (QM.sub (e' := [(0, _), (1, _), (4, _)]) ⟨rfl, rfl, rfl, trivial⟩ (QM.then (wpM.seq (wpM.region ?_))))
 refine LM.as rfl ?_
 refine LM.nil (QM.sub (e' := [(0, _), (1, _), (4, _), (5, _)]) ⟨rfl, rfl, rfl, rfl, trivial⟩ (QM.then ?_))
 refine wpM.seq ?_
 refine wpM.seq ?_
 refine wpM.joinK (α := Bool) (fun q => [(32, .bool q)]) [(0, _), (1, _), (4, _), (5, _)] (fun q => rB b ad n cap i 0 :: (b4, .cells #[.int .i64 0, .int .i64 0, .int .i64 0] 135 (0, 0)) :: []) (fun q => q = (decide (i < ws.length) && decide ((ws.getD i default).k = 1))) ⟨rfl, rfl, rfl, rfl, trivial⟩ ?_ ?_
 ·
  refine wpM.draw [(0, 0), (1, 0), (2, 0), (3, 1), (4, 0), (5, 0), (6, 0), (7, 1), (8, 0), (9, 0), (10, 0), (11, 0), (12, 0), (13, 0), (14, 1), (15, 0), (16, 0), (17, 0), (18, 1), (19, 0), (20, 0), (21, 1), (22, 0), (23, 0)] (by kernel_rfl) (by kernel_rfl) ?_
  refine LD.val rfl rfl (ov_move rfl) ?_
  refine LD.val rfl rfl (ov_nilCheck rfl) ?_
  refine LD.val rfl rfl (ov_field Tryz.underlying181 rfl Tryz.sizeOf3 rfl (k := 1) rfl rfl) ?_
  refine LD.rd rfl rfl (om_ld Tryz.isAgg3 rfl rfl) ?_
  refine LD.val rfl rfl (ov_move rfl) ?_
  refine LD.val rfl rfl (ov_nilCheck rfl) ?_
  refine LD.val rfl rfl (ov_field Tryz.underlying181 rfl Tryz.sizeOf23 rfl (k := 0) rfl rfl) ?_
  refine LD.rd rfl rfl (om_ld Tryz.isAgg23 rfl rfl) ?_
  refine LD.val rfl rfl (ov_len Tryz.underlying23 rfl) ?_
  refine LD.val rfl rfl (ov_lss rfl rfl) ?_
  refine LD.val rfl rfl (ov_move rfl) ?_
  refine LD.splitD (t := 19) rfl (fun h1 => ?_) (fun h1 => ?_)
  ·
   refine LD.val rfl ⟨19, _, rfl, rfl, rfl⟩ (ov_move rfl) ?_
   refine LD.val rfl ⟨19, _, rfl, rfl, rfl⟩ (ov_nilCheck rfl) ?_
   refine LD.val rfl ⟨19, _, rfl, rfl, rfl⟩ (ov_field Tryz.underlying181 rfl Tryz.sizeOf23 rfl (k := 0) rfl rfl) ?_
   refine LD.rd rfl ⟨19, _, rfl, rfl, rfl⟩ (om_ld Tryz.isAgg23 rfl rfl) ?_
   refine LD.val rfl ⟨19, _, rfl, rfl, rfl⟩ (ov_move rfl) ?_
   refine LD.val rfl ⟨19, _, rfl, rfl, rfl⟩ (ov_nilCheck rfl) ?_
   refine LD.val rfl ⟨19, _, rfl, rfl, rfl⟩ (ov_field Tryz.underlying181 rfl Tryz.sizeOf3 rfl (k := 1) rfl rfl) ?_
   refine LD.rd rfl ⟨19, _, rfl, rfl, rfl⟩ (om_ld Tryz.isAgg3 rfl rfl) ?_
   refine LD.val rfl ⟨19, _, rfl, rfl, rfl⟩ (ov_idxSN au6 Tryz.underlying23 Tryz.sizeOf65 rfl rfl (by omega)) ?_
   refine LD.val rfl ⟨19, _, rfl, rfl, rfl⟩ (ov_field Tryz.underlying65 rfl Tryz.sizeOf3 rfl (k := 0) rfl rfl) ?_
   first | refine LD.rd rfl ⟨19, _, rfl, rfl, rfl⟩ (om_slE (j := 0) (by assumption) (by intro _; rfl) Tryz.isAgg3 rfl rfl au3 rfl (by rfl)) ?_ | refine LD.rdC rfl ⟨19, _, rfl, rfl, rfl⟩ (om_srE (j := 0) (by assumption) Tryz.isAgg3 rfl rfl au3 (by rfl) (by rfl) (by exact hab (by omega))) ?_ | refine LD.rd rfl ⟨19, _, rfl, rfl, rfl⟩ (om_ld Tryz.isAgg3 rfl rfl) ?_
   refine LD.val rfl ⟨19, _, rfl, rfl, rfl⟩ (ov_eql rfl rfl) ?_
   refine LD.val rfl rfl (ov_pickT rfl rfl) ?_
   refine LD.nil ?_
   refine QM.sub (e' := [(0, _), (1, _), (4, _), (5, _), (32, _)]) ⟨rfl, rfl, rfl, rfl, rfl, trivial⟩ ?_
   refine QM.meetK (_) ⟨au2, rfl, rfl, rfl, rfl, trivial⟩ au1 ?_
   · (rw [decide_eq_true (show i < ws.length by omega)]; rfl)
  refine LD.drop rfl rfl ⟨19, _, rfl, rfl, rfl⟩ ?_
  refine LD.drop rfl rfl ⟨19, _, rfl, rfl, rfl⟩ ?_
  refine LD.drop rfl rfl ⟨19, _, rfl, rfl, rfl⟩ ?_
  refine LD.drop rfl rfl ⟨19, _, rfl, rfl, rfl⟩ ?_
  refine LD.drop rfl rfl ⟨19, _, rfl, rfl, rfl⟩ ?_
  refine LD.drop rfl rfl ⟨19, _, rfl, rfl, rfl⟩ ?_
  refine LD.drop rfl rfl ⟨19, _, rfl, rfl, rfl⟩ ?_
  refine LD.drop rfl rfl ⟨19, _, rfl, rfl, rfl⟩ ?_
  refine LD.drop rfl rfl ⟨19, _, rfl, rfl, rfl⟩ ?_
  refine LD.drop rfl rfl ⟨19, _, rfl, rfl, rfl⟩ ?_
  refine LD.drop rfl rfl ⟨19, _, rfl, rfl, rfl⟩ ?_
  refine LD.drop rfl rfl ⟨19, _, rfl, rfl, rfl⟩ ?_
  refine LD.val rfl rfl (ov_pickF rfl rfl) ?_
  refine LD.nil ?_
  refine QM.sub (e' := [(0, _), (1, _), (4, _), (5, _), (32, _)]) ⟨rfl, rfl, rfl, rfl, rfl, trivial⟩ ?_
  refine QM.meetK (_) ⟨au2, rfl, rfl, rfl, rfl, trivial⟩ au1 ?_
  · first | (rw [decide_eq_true (show i < ws.length by omega)]; rfl) | (rw [decide_eq_false (show ¬ i < ws.length by omega)]; rfl)
 rintro q hq
 change QM _ _ _ _ _ (rB b ad n cap i 0 :: (b4, .cells #[.int .i64 0, .int .i64 0, .int .i64 0] 135 (0, 0)) :: []) _ _ _
 refine QM.then ?_
 refine wpM.joinK (α := Int) (fun kd => [(5, .int .i64 kd)]) [(0, _), (1, _), (4, _)] (fun kd => rB b ad n cap i 0 :: (b4, .cells #[.int .i64 0, .int .i64 0, .int .i64 0] 135 (0, 0)) :: []) (fun kd => kd = kindR ws i) ⟨rfl, rfl, rfl, trivial⟩ ?_ ?_
 ·
  first | refine wpM.condD rfl (fun h2 => ?_) (fun h2 => ?_) | refine wpM.condB rfl (fun h2 => ?_) (fun h2 => ?_)
  ·
   have hlt : i < ws.length := (by rw [h2] at hq; simp only [Bool.true_eq, Bool.and_eq_true, decide_eq_true_eq] at hq; exact hq.1)
   refine wpM.draw [(1, 0), (2, 0), (3, 0), (4, 1), (5, 0), (6, 0), (7, 0), (8, 1), (9, 0), (10, 0), (11, 1), (0, 2), (12, 2), (13, 0), (14, 0)] (by kernel_rfl) (by kernel_rfl) ?_
   refine LD.val rfl rfl (ov_move rfl) ?_
   refine LD.val rfl rfl (ov_nilCheck rfl) ?_
   refine LD.val rfl rfl (ov_field Tryz.underlying181 rfl Tryz.sizeOf23 rfl (k := 0) rfl rfl) ?_
   refine LD.rd rfl rfl (om_ld Tryz.isAgg23 rfl rfl) ?_
   refine LD.val rfl rfl (ov_move rfl) ?_
   refine LD.val rfl rfl (ov_nilCheck rfl) ?_
   refine LD.val rfl rfl (ov_field Tryz.underlying181 rfl Tryz.sizeOf3 rfl (k := 1) rfl rfl) ?_
   refine LD.rd rfl rfl (om_ld Tryz.isAgg3 rfl rfl) ?_
   refine LD.val rfl rfl (ov_idxSN au6 Tryz.underlying23 Tryz.sizeOf65 rfl rfl (by omega)) ?_
   refine LD.val rfl rfl (ov_field Tryz.underlying65 rfl Tryz.sizeOf9 rfl (k := 1) rfl rfl) ?_
   first | refine LD.rd rfl rfl (om_slE (j := 1) (by assumption) (by intro _; rfl) Tryz.isAgg9 rfl rfl au3 rfl (by rfl)) ?_ | refine LD.rdC rfl rfl (om_srE (j := 1) (by assumption) Tryz.isAgg9 rfl rfl au3 (by rfl) (by rfl) (by exact hab (by omega))) ?_ | refine LD.rd rfl rfl (om_ld Tryz.isAgg9 rfl rfl) ?_
   refine LD.cS rfl rfl (oc_call (enters_fn Tryz.func141 (by kernel_rfl) rfl) rfl) (fun w hm hc hg => names_spec w) (fun ad33 n33 cap33 m33 hn33 hs33 => ?_)
   refine LD.callE rfl rfl (oc_call (enters_fn Tryz.func146 (by kernel_rfl) rfl) rfl) (fun w hm hc hg => index_str (ws.getD i default).t w hn33 (hs33.srM (fun _ => rfl) hm) (by decide)) ?_
   refine LD.val rfl rfl (ov_max rfl rfl) ?_
   refine LD.val rfl rfl (ov_assign rfl) ?_
   refine LD.nil ?_
   refine QM.sub (e' := [(0, _), (1, _), (4, _), (5, _)]) ⟨rfl, rfl, rfl, rfl, trivial⟩ ?_
   refine QM.meetK (_) ⟨au2, rfl, rfl, rfl, trivial⟩ au1 ?_
   · show mx0 (fixI _ nmW) = kindR ws i; unfold kindR; rw [if_pos (by rw [← hq]; exact h2)]; rfl
  refine wpM.skip ?_
  refine QM.meetK (_) ⟨au2, rfl, rfl, rfl, trivial⟩ au1 ?_
  · unfold kindR; rw [if_neg (by rw [← hq, h2]; simp)]
 rintro kd rfl
 change QM _ _ _ _ _ (rB b ad n cap i 0 :: (b4, .cells #[.int .i64 0, .int .i64 0, .int .i64 0] 135 (0, 0)) :: []) _ _ _
 have hkr := kindR_rng ws i
 refine QM.then ?_
 refine wpM.seq ?_
 refine wpM.block ?_
 refine wpM.seq (wpM.region ?_)
 refine LM.mv rfl ?_
 refine LM.val (ov_eql rfl rfl) ?_
 refine LM.as rfl ?_
 refine LM.nil (QM.sub (e' := [(0, _), (1, _), (4, _), (5, _), (47, _)]) ⟨rfl, rfl, rfl, rfl, rfl, trivial⟩ (QM.then ?_))
 refine wpM.condD rfl (fun h3 => ?_) (fun h3 => ?_)
 ·
  refine wpM.seq (wpM.region ?_)
  refine LM.mv rfl ?_
  refine LM.cW (oc_call (enters_fn Tryz.func128 (by kernel_rfl) rfl) rfl) (fun w hm hc hg => fail_spec b (ad := ad) (n := n) (cap := cap) i 0 _ w (SubM.mem au1 w hm)) rfl (fun hlt => by first | exact rfl | exact absurd hlt (by omega)) ?_
  refine LM.nil (QM.sub (e' := [(4, _)]) ⟨rfl, trivial⟩ (QM.then (wpM.seq (wpM.region ?_))))
  refine LM.val (ov_build (cs := #[_, _, _]) rfl (by first | rfl | kernel_rfl)) ?_
  refine LM.stW Tryz.sizeOf135 rfl rfl rfl rfl au7 (fun hlt => by first | exact rfl | exact absurd hlt (by omega)) ?_
  refine LM.nil (QM.sub (e' := [(4, _)]) ⟨rfl, trivial⟩ (QM.then ?_))
  refine wpM.ret ?_
  refine QM.block_ret ?_
  refine QM.then_ret ?_
  refine QM.leaveCs (ds := ([])) (.inl rfl) [.cell 4 135] Tryz.results127 hd_nil (rc_w rfl Tryz.isAgg135 Tryz.sizeOf135 rfl rc_nil) ?_
  intro w' hm' hc'
  rw [op_a h3]; exact ⟨rfl, hc', hm'.at b⟩
 have hlt2 := kindR_lt h3
 refine wpM.seq (wpM.region ?_)
 refine LM.mv rfl ?_
 refine LM.val (ov_geq rfl rfl) ?_
 refine LM.as rfl ?_
 refine LM.nil (QM.sub (e' := [(0, _), (4, _), (5, _), (53, _)]) ⟨rfl, rfl, rfl, rfl, trivial⟩ (QM.then ?_))
 refine wpM.condD rfl (fun h4 => ?_) (fun h4 => ?_)
 ·
  refine wpM.seq (wpM.region ?_)
  refine LM.mv rfl ?_
  refine LM.cW (oc_call (enters_fn Tryz.func128 (by kernel_rfl) rfl) rfl) (fun w hm hc hg => fail_spec b (ad := ad) (n := n) (cap := cap) i 0 _ w (SubM.mem au1 w hm)) rfl (fun hlt => by first | exact rfl | exact absurd hlt (by omega)) ?_
  refine LM.nil (QM.sub (e' := [(4, _)]) ⟨rfl, trivial⟩ (QM.then (wpM.seq (wpM.region ?_))))
  refine LM.val (ov_build (cs := #[_, _, _]) rfl (by first | rfl | kernel_rfl)) ?_
  refine LM.stW Tryz.sizeOf135 rfl rfl rfl rfl au7 (fun hlt => by first | exact rfl | exact absurd hlt (by omega)) ?_
  refine LM.nil (QM.sub (e' := [(4, _)]) ⟨rfl, trivial⟩ (QM.then ?_))
  refine wpM.ret ?_
  refine QM.block_ret ?_
  refine QM.then_ret ?_
  refine QM.leaveCs (ds := ([])) (.inl rfl) [.cell 4 135] Tryz.results127 hd_nil (rc_w rfl Tryz.isAgg135 Tryz.sizeOf135 rfl rc_nil) ?_
  intro w' hm' hc'
  rw [op_b h3 (by omega)]; exact ⟨rfl, hc', hm'.at b⟩
 refine wpM.skip ?_
 refine QM.block_normal ?_
 refine QM.then (wpM.seq (wpM.region ?_))
 refine LM.mv rfl ?_
 refine LM.val (ov_nilCheck rfl) ?_
 refine LM.val (ov_field Tryz.underlying181 rfl Tryz.sizeOf3 rfl (k := 1) rfl rfl) ?_
 refine LM.rd (om_ld Tryz.isAgg3 rfl rfl) ?_
 refine LM.val (ov_add64 rfl rfl (by omega)) ?_
 refine LM.val (ov_nilCheck rfl) ?_
 refine LM.val (ov_field Tryz.underlying181 rfl Tryz.sizeOf3 rfl (k := 1) rfl rfl) ?_
 refine LM.st Tryz.sizeOf3 rfl rfl rfl au5 rfl (fun hlt => by first | exact rfl | exact absurd hlt (by omega)) ?_
 refine LM.nil (QM.sub (e' := [(0, _), (4, _), (5, _)]) ⟨rfl, rfl, rfl, trivial⟩ (QM.then (wpM.seq (wpM.region ?_))))
 refine LM.mv rfl ?_
 refine LM.callE (oc_call (enters_fn Tryz.func106 (by kernel_rfl) rfl) rfl) (fun w hm hc hg => spans_spec (kindR ws i) w) ?_
 refine LM.mv rfl ?_
 refine LM.val (ov_extract rfl rfl) ?_
 refine LM.val (ov_extract rfl rfl) ?_
 refine LM.alloc Tryz.zeroValue159 rfl (fun b6 hb6 => ?_)
 refine LM.alloc Tryz.zeroValue159 rfl (fun b7 hb7 => ?_)
 refine LM.stW Tryz.sizeOf159 rfl rfl rfl rfl au7 (fun hlt => by first | exact rfl | exact absurd hlt (by omega)) ?_
 refine LM.stW Tryz.sizeOf159 rfl rfl rfl rfl au7 (fun hlt => by first | exact rfl | exact absurd hlt (by omega)) ?_
 refine LM.nil (QM.sub (e' := [(0, _), (4, _), (5, _), (6, _), (7, _)]) ⟨rfl, rfl, rfl, rfl, rfl, trivial⟩ (QM.then (wpM.seq (wpM.region ?_))))
 refine LM.mv rfl ?_
 refine LM.mv rfl ?_
 refine LM.rd (om_ldW Tryz.isAgg159 Tryz.sizeOf159 rfl rfl) ?_
 refine LM.cW (oc_call (enters_fn Tryz.func149 (by kernel_rfl) rfl) rfl) (fun w hm hc hg => number_spec b (i + 1) 0 (loA (kindR ws i)) (hiA (kindR ws i)) w hn hx (hl.kp hc hab) hab (SubM.mem au1 w hm)) rfl (fun hlt => by first | exact rfl | exact absurd hlt (by omega)) ?_
 refine LM.val (ov_build (cs := #[_, _, _]) rfl (by first | rfl | kernel_rfl)) ?_
 refine LM.alloc Tryz.zeroValue135 rfl (fun b8 hb8 => ?_)
 refine LM.stW Tryz.sizeOf135 rfl rfl rfl rfl au7 (fun hlt => by first | exact rfl | exact absurd hlt (by omega)) ?_
 refine LM.nil (QM.sub (e' := [(0, _), (4, _), (7, _), (8, _)]) ⟨rfl, rfl, rfl, rfl, trivial⟩ (QM.then (wpM.seq (wpM.region ?_))))
 refine LM.mv rfl ?_
 refine LM.rd (om_ldW Tryz.isAgg159 Tryz.sizeOf159 rfl rfl) ?_
 refine LM.cW (oc_call (enters_fn Tryz.func149 (by kernel_rfl) rfl) rfl) (fun w hm hc hg => number_spec b (opA ws i).1 (opA ws i).2.1 (loB (kindR ws i)) (hiB (kindR ws i)) w hn hx (hl.kp hc hab) hab (SubM.mem au1 w hm)) rfl (fun hlt => by first | exact rfl | exact absurd hlt (by omega)) ?_
 refine LM.val (ov_field Tryz.underlying135 rfl Tryz.sizeOf3 rfl (k := 2) rfl rfl) ?_
 refine LM.st Tryz.sizeOf3 rfl rfl rfl au5 rfl (fun hlt => by first | exact rfl | exact absurd hlt (by omega)) ?_
 refine LM.nil (QM.sub (e' := [(0, _), (4, _), (8, _)]) ⟨rfl, rfl, rfl, trivial⟩ (QM.then (wpM.seq (wpM.region ?_))))
 refine LM.mv rfl ?_
 refine LM.cW (oc_call (enters_fn Tryz.func124 (by kernel_rfl) rfl) rfl) (fun w hm hc hg => need_spec b (opB ws i).1 (opB ws i).2.1 3 [59] w hn hx (hl.kp hc hab) hab (SubM.mem au1 w hm)) rfl (fun hlt => by first | exact rfl | exact absurd hlt (by omega)) ?_
 refine LM.nil (QM.sub (e' := [(4, _), (8, _)]) ⟨rfl, rfl, trivial⟩ (QM.then (wpM.seq (wpM.region ?_))))
 refine LM.rd (om_ldW Tryz.isAgg135 Tryz.sizeOf135 rfl rfl) ?_
 refine LM.stW Tryz.sizeOf135 rfl rfl rfl rfl au7 (fun hlt => by first | exact rfl | exact absurd hlt (by omega)) ?_
 refine LM.nil (QM.sub (e' := [(4, _)]) ⟨rfl, trivial⟩ (QM.then ?_))
 refine wpM.ret ?_
 refine QM.leaveCs (ds := ([])) (.inl rfl) [.cell 4 135] Tryz.results127 hd_nil (rc_w rfl Tryz.isAgg135 Tryz.sizeOf135 rfl rc_nil) ?_
 intro w' hm' hc'
 rw [op_need h3 (by omega)]; exact ⟨rfl, hc', hm'.at b⟩
end Go.Eng
namespace Go.Eng
open Go Go.Proofs Go.RowKit
theorem Sr.adlt {α : Type} {f : α → List Value} {s : Nat} {xs : List α} {ad : Option Addr} {n cap : Nat} {w : World} (h : Sr f s xs (.slice ad n cap) w) (h0 : 0 < xs.length) : adB ad < w.heap.size := by
  obtain ⟨rfl, _, h3⟩ := h.open
  obtain ⟨b, off, cs, E, fz, rfl, hb, _⟩ := h3 h0
  exact (Array.getElem?_eq_some_iff.1 hb).1
def ParT (r : Bool × List COp × Int × Int) (n0 : Nat) (v : Value) (m : Mem0) : Prop := ∃ ad n cap, v = .tuple #[.agg #[.bool r.1, .slice ad n cap], .int .i64 r.2.2.1, .int .i64 r.2.2.2] ∧ n = r.2.1.length ∧ Sl fO 135 3 n0 r.2.1 (.slice ad n cap) m
theorem ParT.mono {r : Bool × List COp × Int × Int} : ∀ (k k' : Nat) u m, k' ≤ k → ParT r k u m → ParT r k' u m := fun k k' u m h ⟨ad, n, cap, h1, h2, h3⟩ => ⟨ad, n, cap, h1, h2, h3.mono h⟩
def pA (ws : List Wrd) (i : Nat) : Nat × Int := needE ws i 0 1 wProg
def pFv (ws : List Wrd) (i : Nat) : Bool := isE ws (pA ws i).1 (pA ws i).2 1 wForever
def pB1 (ws : List Wrd) (i : Nat) : Nat := mayE ws (pA ws i).1 (pA ws i).2 1 wForever
def pC (ws : List Wrd) (i : Nat) : Nat × Int := needE ws (pB1 ws i) (pA ws i).2 3 [123]
def StI (ws : List Wrd) (R : List COp × Int × Int) (i : Nat) (e : Int) (ops : List COp) : Prop := (e = 0 → loopR ws i ops = R) ∧ (e ≠ 0 → R = ([], (i : Int), e)) ∧ i ≤ ws.length
theorem isE_0 {ws : List Wrd} {i : Nat} {k : Int} {t : List UInt8} : isE ws i 0 k t = isR ws i k t := by rw [isE_eq]; rfl
theorem isE_bad {ws : List Wrd} {i : Nat} {e k : Int} {t : List UInt8} (h : e ≠ 0) : isE ws i e k t = false := by rw [isE_eq, decide_eq_false h]; rfl
theorem start_inv {ws : List Wrd} {i : Nat} (hi : i ≤ ws.length) : StI ws (bodyR ws i) (pC ws i).1 (pC ws i).2 [] ∧ ((bodyR ws i).2.2 = 0 → pFv ws i = (headR ws i).1) := by
  unfold StI bodyR
  cases h1 : isR ws i 1 wProg with
  | false =>
    have a : pA ws i = (i, 5) := by unfold pA needE; rw [isE_0, h1, if_neg (by simp), if_pos rfl]
    have b : pB1 ws i = i := by unfold pB1 mayE; rw [a, isE_bad (by simp), if_neg (by simp)]
    have c : pC ws i = (i, 5) := by unfold pC needE; rw [a, b, isE_bad (by simp), if_neg (by simp), if_neg (by simp)]
    rw [c]; simp [hi]
  | true =>
    have hlt := isR_lt h1
    have a : pA ws i = (i + 1, 0) := by unfold pA needE; rw [isE_0, h1, if_pos rfl]
    have f : pFv ws i = (headR ws i).1 := by unfold pFv; rw [a, isE_0]; rfl
    have b : pB1 ws i = (headR ws i).2 := by unfold pB1 mayE headR; rw [a, isE_0]
    have hb : (headR ws i).2 ≤ ws.length := by
      unfold headR; simp only; split
      · rename_i q; have := isR_lt q; omega
      · omega
    rw [if_pos rfl]
    cases h2 : isR ws (headR ws i).2 3 [123] with
    | false =>
      have c : pC ws i = ((headR ws i).2, 5) := by unfold pC needE; rw [a, b, isE_0, h2, if_neg (by simp), if_pos rfl]
      rw [c]; simp [hb]
    | true =>
      have hlt2 := isR_lt h2
      have c : pC ws i = ((headR ws i).2 + 1, 0) := by unfold pC needE; rw [a, b, isE_0, h2, if_pos rfl]
      rw [c, if_pos rfl]; exact ⟨⟨fun _ => rfl, fun h => absurd rfl h, hlt2⟩, fun _ => f⟩
def measP (L i : Nat) (e : Int) : Nat := if e = 0 then L - i + 1 else 0
theorem meas_lt {ws : List Wrd} {i k : Nat} (hi : i ≤ ws.length) : measP ws.length (opR ws i k).1 (opR ws i k).2.1 < measP ws.length i 0 := by
  unfold measP
  rw [if_pos rfl]
  split
  · rename_i h; have := opR_lt h; omega
  · omega
theorem opR_pos {ws : List Wrd} {i k : Nat} (hi : i ≤ ws.length) : (opR ws i k).1 ≤ ws.length := by
  by_cases h1 : kindR ws i = 0
  · rw [op_a h1]; exact hi
  · by_cases h2 : 12 ≤ k
    · rw [op_b h1 h2]; exact hi
    · rw [op_need h1 (by omega)]
      have h3 := opB_le h1
      unfold needE; split
      · rename_i q; have := (isE_lt q).1; simp only; omega
      · split <;> simp only <;> omega
theorem StI.next {ws : List Wrd} {R : List COp × Int × Int} {i : Nat} {ops : List COp} (h : StI ws R i 0 ops) (hn : isR ws i 3 [125] = false) : StI ws R (opR ws i ops.length).1 (opR ws i ops.length).2.1 (ops ++ [(opR ws i ops.length).2.2]) := by
  obtain ⟨h1, _, h3⟩ := h
  have h1 := h1 rfl
  refine ⟨fun q => ?_, fun q => ?_, opR_pos h3⟩
  · rw [← loopR_next hn q]; exact h1
  · rw [← h1, loopR_bad hn q]
theorem parse_nat {ws : List Wrd} {i : Nat} (hi : i ≤ ws.length) : parseO ws (i : Int) = (decide ((bodyR ws i).2.2 = 0) && (headR ws i).1, bodyR ws i) := by
  unfold parseO; rw [if_neg (by omega), Int.toNat_natCast]
theorem fin_bad {ws : List Wrd} {i0 : Nat} {i e : Int} {n0 : Nat} (hi : i0 ≤ ws.length) (h : bodyR ws i0 = ([], i, e)) (he : e ≠ 0) : ParT (parseO ws (i0 : Int)) n0 (.tuple #[.agg #[.bool false, .slice none 0 0], .int .i64 i, .int .i64 e]) [] := by
  rw [parse_nat hi, h, decide_eq_false he]; exact ⟨none, 0, 0, rfl, rfl, .nil _ _ _ _⟩
theorem fin_ok {ws : List Wrd} {i0 : Nat} {i : Int} {n0 : Nat} {ops : List COp} {ad : Option Addr} {n cap : Nat} {m : Mem0} (hi : i0 ≤ ws.length) (h : bodyR ws i0 = (ops, i, 0)) (hn : n = ops.length) (hs : Sl fO 135 3 n0 ops (.slice ad n cap) m) : ParT (parseO ws (i0 : Int)) n0 (.tuple #[.agg #[.bool (pFv ws i0), .slice ad n cap], .int .i64 i, .int .i64 0]) m := by
  have hf := (start_inv hi).2 (by rw [h])
  rw [parse_nat hi, h, hf]; exact ⟨ad, n, cap, rfl, hn, hs⟩
set_option maxRecDepth 100000 in
set_option maxHeartbeats 2000000 in
theorem parse_spec {ws : List Wrd} {ad : Option Addr} {n cap : Nat} (p : Int) (w : World) (hn : n = ws.length) (hx : ws.length ≤ 1000000000) (hl : Sr fW 4 ws (.slice ad n cap) w) : Ret Tryz.prog 85 #[.slice ad n cap, .int .i64 p] w (fun v w' => Ext w w' ∧ ∃ m, ParT (parseO ws p) w.heap.size v m ∧ Mem w' m ∧ ∀ p ∈ m, w.heap.size ≤ p.1) := by
 refine Ret.enterM (l := [.slice ad n cap, .int .i64 p]) Tryz.func85 rfl Tryz.ntmps85 rfl ([]) (no) (Mem.nil w) ?_
 refine wpM.seq (wpM.region ?_)
 refine LM.alloc Tryz.zeroValue87 rfl (fun b4 hb4 => ?_)
 refine LM.as rfl ?_
 refine LM.as rfl ?_
 refine LM.nil (QM.sub (e' := [(0, _), (1, _), (4, _)]) ⟨rfl, rfl, rfl, trivial⟩ (QM.then ?_))
 refine wpM.seq ?_
 refine wpM.seq (wpM.region ?_)
 refine LM.mv rfl ?_
 refine LM.val (ov_lss rfl rfl) ?_
 refine LM.mv rfl ?_
 refine LM.splitD (t := 11) rfl (fun h1 => ?_) (fun h1 => ?_)
 ·
  refine LM.dr 11 rfl rfl rfl ?_
  refine LM.dr 11 rfl rfl rfl ?_
  refine LM.dr 11 rfl rfl rfl ?_
  refine LM.dr 11 rfl rfl rfl ?_
  refine LM.val (ov_pickT rfl rfl) ?_
  refine LM.nil (QM.sub (e' := [(0, _), (1, _), (4, _), (16, _)]) ⟨rfl, rfl, rfl, rfl, trivial⟩ (QM.then ?_))
  refine wpM.condT rfl ?_
  refine wpM.seq (wpM.region ?_)
  refine LM.val (ov_build (cs := #[_, _]) rfl (by first | rfl | kernel_rfl)) ?_
  refine LM.stW Tryz.sizeOf87 rfl rfl rfl rfl au7 au8 ?_
  refine LM.as rfl ?_
  refine LM.as rfl ?_
  refine LM.nil (QM.sub (e' := [(4, _), (5, _), (6, _)]) ⟨rfl, rfl, rfl, trivial⟩ (QM.then ?_))
  refine wpM.ret ?_
  refine QM.then_ret ?_
  refine QM.leaveCs (ds := ([])) (.inl rfl) [.cell 4 87, .tmp 5, .tmp 6] Tryz.results85 hd_nil (rc_w rfl Tryz.isAgg87 Tryz.sizeOf87 rfl (rc_tmp rfl (rc_tmp rfl rc_nil))) ?_
  intro w' hm' hc'
  have hpar : parseO ws p = (false, [], 0, 5) := (by unfold parseO; rw [if_pos (by omega)]); rw [hpar]; exact ⟨hc', [], ⟨none, 0, 0, rfl, rfl, .nil _ _ _ _⟩, Mem.nil _, fun p hp => by cases hp⟩
 refine LM.sp 11 rfl rfl rfl ?_
 refine LM.mv rfl ?_
 refine LM.sp 11 rfl rfl rfl ?_
 refine LM.mv rfl ?_
 refine LM.sp 11 rfl rfl rfl ?_
 refine LM.val (ov_len Tryz.underlying23 rfl) ?_
 refine LM.sp 11 rfl rfl rfl ?_
 refine LM.val (ov_gtr rfl rfl) ?_
 refine LM.val (ov_pickF rfl rfl) ?_
 refine LM.nil (QM.sub (e' := [(0, _), (1, _), (4, _), (16, _)]) ⟨rfl, rfl, rfl, rfl, trivial⟩ (QM.then ?_))
 refine wpM.condD rfl (fun h2 => ?_) (fun h2 => ?_)
 ·
  refine wpM.seq (wpM.region ?_)
  refine LM.val (ov_build (cs := #[_, _]) rfl (by first | rfl | kernel_rfl)) ?_
  refine LM.stW Tryz.sizeOf87 rfl rfl rfl rfl au7 au8 ?_
  refine LM.as rfl ?_
  refine LM.as rfl ?_
  refine LM.nil (QM.sub (e' := [(4, _), (5, _), (6, _)]) ⟨rfl, rfl, rfl, trivial⟩ (QM.then ?_))
  refine wpM.ret ?_
  refine QM.then_ret ?_
  refine QM.leaveCs (ds := ([])) (.inl rfl) [.cell 4 87, .tmp 5, .tmp 6] Tryz.results85 hd_nil (rc_w rfl Tryz.isAgg87 Tryz.sizeOf87 rfl (rc_tmp rfl (rc_tmp rfl rc_nil))) ?_
  intro w' hm' hc'
  have hpar : parseO ws p = (false, [], 0, 5) := (by unfold parseO; rw [if_pos (by omega)]); rw [hpar]; exact ⟨hc', [], ⟨none, 0, 0, rfl, rfl, .nil _ _ _ _⟩, Mem.nil _, fun p hp => by cases hp⟩
 obtain ⟨i0, rfl⟩ : ∃ i0 : Nat, p = (i0 : Nat) := ⟨p.toNat, by omega⟩; have hi0 : i0 ≤ ws.length := (by omega)
 refine wpM.skip ?_
 refine QM.then (wpM.seq (wpM.region ?_))
 refine LM.mv rfl ?_
 refine LM.mv rfl ?_
 refine LM.val (ov_build (cs := #[_, _, _]) rfl (by first | rfl | kernel_rfl)) ?_
 refine LM.box rfl rfl (fun b21 hb21 => ?_)
 refine LM.as rfl ?_
 refine LM.nil (QM.sub (e' := [(4, _), (7, _)]) ⟨rfl, rfl, trivial⟩ (QM.then (wpM.seq (wpM.region ?_))))
 have hab21 : 0 < ws.length → adB ad ≠ b21 := (fun h0 => by have := hl.adlt h0; omega)
 refine LM.mv rfl ?_
 refine LM.cW (oc_call (enters_fn Tryz.func124 (by kernel_rfl) rfl) rfl) (fun w hm hc hg => need_spec b21 i0 0 1 wProg w hn hx (hl.ext hc) hab21 (SubM.mem au1 w hm)) rfl au8 ?_
 refine LM.nil (QM.sub (e' := [(4, _), (7, _)]) ⟨rfl, rfl, trivial⟩ (QM.then (wpM.seq (wpM.region ?_))))
 refine LM.mv rfl ?_
 refine LM.cW (oc_call (enters_fn Tryz.func125 (by kernel_rfl) rfl) rfl) (fun w hm hc hg => maybe_spec b21 (pA ws i0).1 (pA ws i0).2 1 wForever w hn hx (hl.ext hc) hab21 (SubM.mem au1 w hm)) rfl au8 ?_
 refine LM.val (ov_build (cs := #[_, _]) rfl (by first | rfl | kernel_rfl)) ?_
 refine LM.alloc Tryz.zeroValue87 rfl (fun b8 hb8 => ?_)
 refine LM.stW Tryz.sizeOf87 rfl rfl rfl rfl au7 au8 ?_
 refine LM.nil (QM.sub (e' := [(4, _), (7, _), (8, _)]) ⟨rfl, rfl, rfl, trivial⟩ (QM.then (wpM.seq (wpM.region ?_))))
 refine LM.mv rfl ?_
 refine LM.cW (oc_call (enters_fn Tryz.func124 (by kernel_rfl) rfl) rfl) (fun w hm hc hg => need_spec b21 (pB1 ws i0) (pA ws i0).2 3 [123] w hn hx (hl.ext hc) hab21 (SubM.mem au1 w hm)) rfl au8 ?_
 refine LM.nil (QM.sub (e' := [(4, _), (7, _), (8, _)]) ⟨rfl, rfl, rfl, trivial⟩ (QM.then ?_))
 refine wpM.seq ?_
 refine wpM.block ?_
 refine wpM.loopK0 (α := Nat × Int × List COp × Option Addr × Nat × Nat × Mem0) (fun ⟨i, e, ops, ado, no, capo, mo⟩ => []) [(4, _), (7, _), (8, _)] (fun ⟨i, e, ops, ado, no, capo, mo⟩ => mo ++ ((b8, .cells #[.bool (pFv ws i0), .slice ado no capo] 87 (0, 0)) :: rB b21 ad n cap i e :: (b4, .cells #[.bool false, .slice none 0 0] 87 (0, 0)) :: [])) (fun ⟨i, e, ops, ado, no, capo, mo⟩ => StI ws (bodyR ws i0) i e ops ∧ no = ops.length ∧ Sl fO 135 3 w.heap.size ops (.slice ado no capo) mo ∧ (e = 0 → ops.length ≤ i)) (fun ⟨i, e, ops, ado, no, capo, mo⟩ => measP ws.length i e) (((pC ws i0).1, (pC ws i0).2, [], none, 0, 0, [])) ⟨rfl, rfl, rfl, trivial⟩ au1 ⟨(start_inv (by omega)).1, rfl, .nil _ _ _ _, fun _ => Nat.zero_le _⟩ ?_
 rintro ⟨i, e, ops, ado, no, capo, mo⟩ ⟨hI, hno, hso, hol⟩
 change wpM _ _ _ _ _ _ _ (mo ++ ((b8, .cells #[.bool (pFv ws i0), .slice ado no capo] 87 (0, 0)) :: rB b21 ad n cap i e :: (b4, .cells #[.bool false, .slice none 0 0] 87 (0, 0)) :: [])) _ _ _
 have hile := hI.2.2
 refine wpM.seq ?_
 refine wpM.seq (wpM.region ?_)
 refine LM.mv rfl ?_
 refine LM.val (ov_nilCheck rfl) ?_
 refine LM.val (ov_field Tryz.underlying181 rfl Tryz.sizeOf31 rfl (k := 2) rfl rfl) ?_
 refine LM.rd (om_ld Tryz.isAgg31 rfl rfl) ?_
 refine LM.val (ov_eql rfl rfl) ?_
 refine LM.mv rfl ?_
 refine LM.splitD (t := 34) rfl (fun h3 => ?_) (fun h3 => ?_)
 ·
  refine LM.sp 34 rfl rfl rfl ?_
  refine LM.mv rfl ?_
  refine LM.sp 34 rfl rfl rfl ?_
  refine LM.callE (oc_call (enters_fn Tryz.func126 (by kernel_rfl) rfl) rfl) (fun w hm hc hg => is_spec b21 i e 3 [125] w hn (hl.ext hc) (SubM.mem au1 w hm)) ?_
  refine LM.sp 34 rfl rfl rfl ?_
  first | refine LM.val (ov_notD rfl) ?_ | refine LM.val (ov_not rfl) ?_
  refine LM.val (ov_pickT rfl rfl) ?_
  refine LM.nil (QM.sub (e' := [(4, _), (7, _), (8, _), (38, _)]) ⟨rfl, rfl, rfl, rfl, trivial⟩ (QM.then ?_))
  first | refine wpM.condD rfl (fun h4 => ?_) (fun h4 => ?_) | refine wpM.condB rfl (fun h4 => ?_) (fun h4 => ?_)
  ·
   refine wpM.skip ?_
   refine QM.then ?_
   refine wpM.block ?_
   refine wpM.keep ((b8, .cells #[.bool (pFv ws i0), .slice ado no capo] 87 (0, 0)) :: []) (fun _ => True) (.one 0 0 (.one 1 1 (.one 2 0 (.one 3 0 (.one 4 1 (.one 5 0 (.one 6 2 (.one 7 2 (.one 8 2 (.one 9 0 (.last 10))))))))))) (by kernel_rfl) (by kernel_rfl) au1 (fun _ _ => trivial) ?_
   refine KD.val rfl rfl (ov_field Tryz.underlying87 rfl Tryz.sizeOf85 rfl (k := 1) rfl rfl) ?_
   refine KD.rd rfl rfl (om_ld Tryz.isAgg85 rfl rfl) ?_
   refine KD.val rfl rfl (ov_move rfl) ?_
   refine KD.val rfl rfl (ov_field Tryz.underlying87 rfl Tryz.sizeOf85 rfl (k := 1) rfl rfl) ?_
   refine KD.rd rfl rfl (om_ld Tryz.isAgg85 rfl rfl) ?_
   refine KD.val rfl rfl (ov_len Tryz.underlying85 rfl) ?_
   refine KD.one rfl ?_
   rw [h3]
   refine LM.cW (oc_call (enters_fn Tryz.func127 (by kernel_rfl) rfl) rfl) (fun w hm hc hg => op_spec b21 i no w hn hx (hl.ext hc) hab21 (SubM.mem au1 w hm)) rfl au8 ?_
   refine LM.nil ?_
   refine QM.one au1 (fun _ _ => trivial) ?_
   refine KD.one rfl ?_
   refine LM.single Tryz.underlying85 Tryz.sizeOf135 Tryz.zeroValue135 rfl rfl rfl rfl rfl (fun b46 hb46 => ?_)
   refine LM.nil ?_
   refine QM.one au1 (fun _ _ => trivial) ?_
   refine KD.one rfl ?_
   refine LM.app (a := (opR ws i no).2.2) Tryz.underlying85 Tryz.typeInfo135 rfl rfl rfl rfl rfl rfl rfl (by assumption) (by rfl) (by intro _; rfl) (by intro _ u hu; simp [fO] at hu; (repeat (first | (rcases hu with rfl | hu) | subst hu | rfl))) (by first | exact Nat.le_refl _ | omega) au9 (by first | omega | (unfold maxLen; omega)) (by simp only [Tryz.t135]; omega) (fun ad47 n47 cap47 m47 hn47 hs47 hin47 => ?_)
   refine LM.nil ?_
   refine QM.one au1 (fun _ _ => trivial) ?_
   refine KD.val rfl rfl (ov_field Tryz.underlying87 rfl Tryz.sizeOf85 rfl (k := 1) rfl rfl) ?_
   refine KD.last rfl ?_
   refine LM.st Tryz.sizeOf85 rfl rfl rfl au5 rfl au8 ?_
   refine LM.nil ?_
   refine QM.qn ?_
   refine QM.sub (e' := [(4, _), (7, _), (8, _)]) ⟨rfl, rfl, rfl, trivial⟩ ?_
   refine QM.block_normal ?_
   have hn0 : isR ws i 3 [125] = false := (by rw [h3, isE_0] at h4; simpa using h4)
   refine QM.againK (((opR ws i no).1, (opR ws i no).2.1, ops ++ [(opR ws i no).2.2], ad47, n47, cap47, m47)) ⟨rfl, rfl, rfl, trivial⟩ au1 (fun _ h => h) ?_ ?_
   · refine ⟨?_, by rw [hn47]; simp, hs47, fun q => ?_⟩; (rw [hno]; exact StI.next (h3 ▸ hI) hn0); (have h8 := opR_lt q; have h9 := hol h3; simp; omega)
   · show measP _ _ _ < measP _ _ _; first | exact meas_lt hile | (rw [h3]; exact meas_lt hile)
  refine wpM.exit ?_
  refine QM.then_exit ?_
  refine QM.then_exit ?_
  refine QM.block_hit ?_
  refine QM.then ?_
  refine wpM.seq ?_
  refine wpM.seq (wpM.region ?_)
  refine LM.val (ov_field Tryz.underlying87 rfl Tryz.sizeOf85 rfl (k := 1) rfl rfl) ?_
  refine LM.rd (om_ld Tryz.isAgg85 rfl rfl) ?_
  refine LM.val (ov_len Tryz.underlying85 rfl) ?_
  refine LM.val (ov_eql rfl rfl) ?_
  refine LM.nil (QM.sub (e' := [(4, _), (7, _), (8, _), (52, _)]) ⟨rfl, rfl, rfl, rfl, trivial⟩ (QM.then ?_))
  refine wpM.condD rfl (fun h5 => ?_) (fun h5 => ?_)
  ·
   refine wpM.region ?_
   refine LM.mv rfl ?_
   refine LM.cW (oc_call (enters_fn Tryz.func128 (by kernel_rfl) rfl) rfl) (fun w hm hc hg => fail_spec b21 (ad := ad) (n := n) (cap := cap) i e 4 w (SubM.mem au1 w hm)) rfl au8 ?_
   refine LM.nil (QM.sub (e' := [(4, _), (7, _), (8, _)]) ⟨rfl, rfl, rfl, trivial⟩ (QM.then ?_))
   refine wpM.seq ?_
   refine wpM.seq (wpM.region ?_)
   refine LM.mv rfl ?_
   refine LM.val (ov_nilCheck rfl) ?_
   refine LM.val (ov_field Tryz.underlying181 rfl Tryz.sizeOf31 rfl (k := 2) rfl rfl) ?_
   refine LM.rd (om_ld Tryz.isAgg31 rfl rfl) ?_
   refine LM.val (ov_neq rfl rfl) ?_
   refine LM.nil (QM.sub (e' := [(4, _), (7, _), (8, _), (59, _)]) ⟨rfl, rfl, rfl, rfl, trivial⟩ (QM.then ?_))
   refine wpM.condD rfl (fun h6 => ?_) (fun h6 => ?_)
   ·
    refine wpM.seq ?_
    refine wpM.keep ((b21, _) :: []) (fun _ => True) (.one 0 0 (.one 1 0 (.one 2 0 (.one 3 0 (.one 4 1 (.one 5 0 (.one 6 0 (.one 7 0 (.one 8 1 (.one 9 2 (.one 10 0 (.one 11 0 .nil)))))))))))) (by kernel_rfl) (by kernel_rfl) au1 (fun _ _ => trivial) ?_
    refine KD.val rfl rfl (ov_build (cs := #[_, _]) rfl (by first | rfl | kernel_rfl)) ?_
    refine KD.val rfl rfl (ov_move rfl) ?_
    refine KD.val rfl rfl (ov_nilCheck rfl) ?_
    refine KD.val rfl rfl (ov_field Tryz.underlying181 rfl Tryz.sizeOf3 rfl (k := 1) rfl rfl) ?_
    refine KD.rd rfl rfl (om_ld Tryz.isAgg3 rfl rfl) ?_
    refine KD.val rfl rfl (ov_move rfl) ?_
    refine KD.val rfl rfl (ov_nilCheck rfl) ?_
    refine KD.val rfl rfl (ov_field Tryz.underlying181 rfl Tryz.sizeOf31 rfl (k := 2) rfl rfl) ?_
    refine KD.rd rfl rfl (om_ld Tryz.isAgg31 rfl rfl) ?_
    refine KD.one rfl ?_
    refine LM.stW Tryz.sizeOf87 rfl rfl rfl rfl au7 au8 ?_
    refine LM.nil ?_
    refine QM.one au1 (fun _ _ => trivial) ?_
    refine KD.val rfl rfl (ov_assign rfl) ?_
    refine KD.val rfl rfl (ov_assign rfl) ?_
    refine KD.nil ?_
    refine QM.sub (e' := [(4, _), (5, _), (6, _)]) ⟨rfl, rfl, rfl, trivial⟩ (QM.then ?_)
    refine wpM.ret ?_
    refine QM.then_ret ?_
    refine QM.leaveCs (ds := ([])) (.inl rfl) [.cell 4 87, .tmp 5, .tmp 6] Tryz.results85 hd_nil (rc_w rfl Tryz.isAgg87 Tryz.sizeOf87 rfl (rc_tmp rfl (rc_tmp rfl rc_nil))) ?_
    intro w' hm' hc'
    have hn0 : isR ws i 3 [125] = true := (by rw [h3, isE_0] at h4; simpa using h4); have hb := hI.1 h3; rw [loopR_done hn0, if_pos (by omega)] at hb; refine ⟨hc', [], ?_, Mem.nil _, fun p hp => by cases hp⟩; show ParT _ _ (.tuple #[.agg #[.bool false, .slice none 0 0], .int .i64 (i : Nat), .int .i64 (if e = 0 then 4 else e)]) []; rw [if_pos h3]; exact fin_bad hi0 hb.symm (by decide)
   refine wpM.skip ?_
   refine QM.then ?_
   refine wpM.seq ?_
   refine wpM.keep ((b21, _) :: (b8, _) :: []) (fun _ => True) (.one 0 1 (.one 1 0 (.one 2 0 (.one 3 0 (.one 4 1 (.one 5 0 (.one 6 2 (.one 7 0 (.one 8 0 .nil))))))))) (by kernel_rfl) (by kernel_rfl) au1 (fun _ _ => trivial) ?_
   refine KD.rd rfl rfl (om_ldW Tryz.isAgg87 Tryz.sizeOf87 rfl rfl) ?_
   refine KD.val rfl rfl (ov_move rfl) ?_
   refine KD.val rfl rfl (ov_nilCheck rfl) ?_
   refine KD.val rfl rfl (ov_field Tryz.underlying181 rfl Tryz.sizeOf3 rfl (k := 1) rfl rfl) ?_
   refine KD.rd rfl rfl (om_ld Tryz.isAgg3 rfl rfl) ?_
   refine KD.val rfl rfl (ov_add64 rfl rfl (by omega)) ?_
   refine KD.one rfl ?_
   refine LM.stW Tryz.sizeOf87 rfl rfl rfl rfl au7 au8 ?_
   refine LM.nil ?_
   refine QM.one au1 (fun _ _ => trivial) ?_
   refine KD.val rfl rfl (ov_assign rfl) ?_
   refine KD.val rfl rfl (ov_assign rfl) ?_
   refine KD.nil ?_
   refine QM.sub (e' := [(4, _), (5, _), (6, _)]) ⟨rfl, rfl, rfl, trivial⟩ (QM.then ?_)
   refine wpM.ret ?_
   refine QM.leaveCs (ds := ([])) (.inl rfl) [.cell 4 87, .tmp 5, .tmp 6] Tryz.results85 hd_nil (rc_w rfl Tryz.isAgg87 Tryz.sizeOf87 rfl (rc_tmp rfl (rc_tmp rfl rc_nil))) ?_
   intro w' hm' hc'
   exact absurd h6 (by rw [if_pos h3]; decide)
  refine wpM.skip ?_
  refine QM.then ?_
  refine wpM.seq ?_
  refine wpM.seq (wpM.region ?_)
  refine LM.mv rfl ?_
  refine LM.val (ov_nilCheck rfl) ?_
  refine LM.val (ov_field Tryz.underlying181 rfl Tryz.sizeOf31 rfl (k := 2) rfl rfl) ?_
  refine LM.rd (om_ld Tryz.isAgg31 rfl rfl) ?_
  refine LM.val (ov_neq rfl rfl) ?_
  refine LM.nil (QM.sub (e' := [(4, _), (7, _), (8, _), (59, _)]) ⟨rfl, rfl, rfl, rfl, trivial⟩ (QM.then ?_))
  refine wpM.condD rfl (fun h7 => ?_) (fun h7 => ?_)
  ·
   refine wpM.seq ?_
   refine wpM.keep ((b21, _) :: []) (fun _ => True) (.one 0 0 (.one 1 0 (.one 2 0 (.one 3 0 (.one 4 1 (.one 5 0 (.one 6 0 (.one 7 0 (.one 8 1 (.one 9 2 (.one 10 0 (.one 11 0 .nil)))))))))))) (by kernel_rfl) (by kernel_rfl) au1 (fun _ _ => trivial) ?_
   refine KD.val rfl rfl (ov_build (cs := #[_, _]) rfl (by first | rfl | kernel_rfl)) ?_
   refine KD.val rfl rfl (ov_move rfl) ?_
   refine KD.val rfl rfl (ov_nilCheck rfl) ?_
   refine KD.val rfl rfl (ov_field Tryz.underlying181 rfl Tryz.sizeOf3 rfl (k := 1) rfl rfl) ?_
   refine KD.rd rfl rfl (om_ld Tryz.isAgg3 rfl rfl) ?_
   refine KD.val rfl rfl (ov_move rfl) ?_
   refine KD.val rfl rfl (ov_nilCheck rfl) ?_
   refine KD.val rfl rfl (ov_field Tryz.underlying181 rfl Tryz.sizeOf31 rfl (k := 2) rfl rfl) ?_
   refine KD.rd rfl rfl (om_ld Tryz.isAgg31 rfl rfl) ?_
   refine KD.one rfl ?_
   refine LM.stW Tryz.sizeOf87 rfl rfl rfl rfl au7 au8 ?_
   refine LM.nil ?_
   refine QM.one au1 (fun _ _ => trivial) ?_
   refine KD.val rfl rfl (ov_assign rfl) ?_
   refine KD.val rfl rfl (ov_assign rfl) ?_
   refine KD.nil ?_
   refine QM.sub (e' := [(4, _), (5, _), (6, _)]) ⟨rfl, rfl, rfl, trivial⟩ (QM.then ?_)
   refine wpM.ret ?_
   refine QM.then_ret ?_
   refine QM.leaveCs (ds := ([])) (.inl rfl) [.cell 4 87, .tmp 5, .tmp 6] Tryz.results85 hd_nil (rc_w rfl Tryz.isAgg87 Tryz.sizeOf87 rfl (rc_tmp rfl (rc_tmp rfl rc_nil))) ?_
   intro w' hm' hc'
   exact absurd h3 h7
  refine wpM.skip ?_
  refine QM.then ?_
  refine wpM.seq ?_
  refine wpM.keep ((b21, _) :: (b8, _) :: []) (fun _ => True) (.one 0 1 (.one 1 0 (.one 2 0 (.one 3 0 (.one 4 1 (.one 5 0 (.one 6 2 (.one 7 0 (.one 8 0 .nil))))))))) (by kernel_rfl) (by kernel_rfl) au1 (fun _ _ => trivial) ?_
  refine KD.rd rfl rfl (om_ldW Tryz.isAgg87 Tryz.sizeOf87 rfl rfl) ?_
  refine KD.val rfl rfl (ov_move rfl) ?_
  refine KD.val rfl rfl (ov_nilCheck rfl) ?_
  refine KD.val rfl rfl (ov_field Tryz.underlying181 rfl Tryz.sizeOf3 rfl (k := 1) rfl rfl) ?_
  refine KD.rd rfl rfl (om_ld Tryz.isAgg3 rfl rfl) ?_
  refine KD.val rfl rfl (ov_add64 rfl rfl (by omega)) ?_
  refine KD.one rfl ?_
  refine LM.stW Tryz.sizeOf87 rfl rfl rfl rfl au7 au8 ?_
  refine LM.nil ?_
  refine QM.one au1 (fun _ _ => trivial) ?_
  refine KD.val rfl rfl (ov_assign rfl) ?_
  refine KD.val rfl rfl (ov_assign rfl) ?_
  refine KD.nil ?_
  refine QM.sub (e' := [(4, _), (5, _), (6, _)]) ⟨rfl, rfl, rfl, trivial⟩ (QM.then ?_)
  refine wpM.ret ?_
  refine QM.leaveCs (ds := ([])) (.inl rfl) [.cell 4 87, .tmp 5, .tmp 6] Tryz.results85 hd_nil (rc_w rfl Tryz.isAgg87 Tryz.sizeOf87 rfl (rc_tmp rfl (rc_tmp rfl rc_nil))) ?_
  intro w' hm' hc'
  have hn0 : isR ws i 3 [125] = true := (by rw [h3, isE_0] at h4; simpa using h4); have hb := hI.1 h3; rw [loopR_done hn0, if_neg (by omega)] at hb; exact ⟨hc', mo, fin_ok hi0 hb.symm hno hso, hm'.pick mo, fun p hp => Sl.ge hso p hp⟩
 refine LM.dr 34 rfl rfl rfl ?_
 refine LM.dr 34 rfl rfl rfl ?_
 refine LM.dr 34 rfl rfl rfl ?_
 refine LM.val (ov_pickF rfl rfl) ?_
 refine LM.nil (QM.sub (e' := [(4, _), (7, _), (8, _), (38, _)]) ⟨rfl, rfl, rfl, rfl, trivial⟩ (QM.then ?_))
 refine wpM.condF rfl ?_
 refine wpM.exit ?_
 refine QM.then_exit ?_
 refine QM.then_exit ?_
 refine QM.block_hit ?_
 refine QM.then ?_
 refine wpM.seq ?_
 refine wpM.seq (wpM.region ?_)
 refine LM.val (ov_field Tryz.underlying87 rfl Tryz.sizeOf85 rfl (k := 1) rfl rfl) ?_
 refine LM.rd (om_ld Tryz.isAgg85 rfl rfl) ?_
 refine LM.val (ov_len Tryz.underlying85 rfl) ?_
 refine LM.val (ov_eql rfl rfl) ?_
 refine LM.nil (QM.sub (e' := [(4, _), (7, _), (8, _), (52, _)]) ⟨rfl, rfl, rfl, rfl, trivial⟩ (QM.then ?_))
 refine wpM.condD rfl (fun h8 => ?_) (fun h8 => ?_)
 ·
  refine wpM.region ?_
  refine LM.mv rfl ?_
  refine LM.cW (oc_call (enters_fn Tryz.func128 (by kernel_rfl) rfl) rfl) (fun w hm hc hg => fail_spec b21 (ad := ad) (n := n) (cap := cap) i e 4 w (SubM.mem au1 w hm)) rfl au8 ?_
  refine LM.nil (QM.sub (e' := [(4, _), (7, _), (8, _)]) ⟨rfl, rfl, rfl, trivial⟩ (QM.then ?_))
  refine wpM.seq ?_
  refine wpM.seq (wpM.region ?_)
  refine LM.mv rfl ?_
  refine LM.val (ov_nilCheck rfl) ?_
  refine LM.val (ov_field Tryz.underlying181 rfl Tryz.sizeOf31 rfl (k := 2) rfl rfl) ?_
  refine LM.rd (om_ld Tryz.isAgg31 rfl rfl) ?_
  refine LM.val (ov_neq rfl rfl) ?_
  refine LM.nil (QM.sub (e' := [(4, _), (7, _), (8, _), (59, _)]) ⟨rfl, rfl, rfl, rfl, trivial⟩ (QM.then ?_))
  refine wpM.condD rfl (fun h9 => ?_) (fun h9 => ?_)
  ·
   refine wpM.seq ?_
   refine wpM.keep ((b21, _) :: []) (fun _ => True) (.one 0 0 (.one 1 0 (.one 2 0 (.one 3 0 (.one 4 1 (.one 5 0 (.one 6 0 (.one 7 0 (.one 8 1 (.one 9 2 (.one 10 0 (.one 11 0 .nil)))))))))))) (by kernel_rfl) (by kernel_rfl) au1 (fun _ _ => trivial) ?_
   refine KD.val rfl rfl (ov_build (cs := #[_, _]) rfl (by first | rfl | kernel_rfl)) ?_
   refine KD.val rfl rfl (ov_move rfl) ?_
   refine KD.val rfl rfl (ov_nilCheck rfl) ?_
   refine KD.val rfl rfl (ov_field Tryz.underlying181 rfl Tryz.sizeOf3 rfl (k := 1) rfl rfl) ?_
   refine KD.rd rfl rfl (om_ld Tryz.isAgg3 rfl rfl) ?_
   refine KD.val rfl rfl (ov_move rfl) ?_
   refine KD.val rfl rfl (ov_nilCheck rfl) ?_
   refine KD.val rfl rfl (ov_field Tryz.underlying181 rfl Tryz.sizeOf31 rfl (k := 2) rfl rfl) ?_
   refine KD.rd rfl rfl (om_ld Tryz.isAgg31 rfl rfl) ?_
   refine KD.one rfl ?_
   refine LM.stW Tryz.sizeOf87 rfl rfl rfl rfl au7 au8 ?_
   refine LM.nil ?_
   refine QM.one au1 (fun _ _ => trivial) ?_
   refine KD.val rfl rfl (ov_assign rfl) ?_
   refine KD.val rfl rfl (ov_assign rfl) ?_
   refine KD.nil ?_
   refine QM.sub (e' := [(4, _), (5, _), (6, _)]) ⟨rfl, rfl, rfl, trivial⟩ (QM.then ?_)
   refine wpM.ret ?_
   refine QM.then_ret ?_
   refine QM.leaveCs (ds := ([])) (.inl rfl) [.cell 4 87, .tmp 5, .tmp 6] Tryz.results85 hd_nil (rc_w rfl Tryz.isAgg87 Tryz.sizeOf87 rfl (rc_tmp rfl (rc_tmp rfl rc_nil))) ?_
   intro w' hm' hc'
   refine ⟨hc', [], ?_, Mem.nil _, fun p hp => by cases hp⟩; show ParT _ _ (.tuple #[.agg #[.bool false, .slice none 0 0], .int .i64 (i : Nat), .int .i64 (if e = 0 then 4 else e)]) []; rw [if_neg h3]; exact fin_bad hi0 (hI.2.1 h3) h3
  refine wpM.skip ?_
  refine QM.then ?_
  refine wpM.seq ?_
  refine wpM.keep ((b21, _) :: (b8, _) :: []) (fun _ => True) (.one 0 1 (.one 1 0 (.one 2 0 (.one 3 0 (.one 4 1 (.one 5 0 (.one 6 2 (.one 7 0 (.one 8 0 .nil))))))))) (by kernel_rfl) (by kernel_rfl) au1 (fun _ _ => trivial) ?_
  refine KD.rd rfl rfl (om_ldW Tryz.isAgg87 Tryz.sizeOf87 rfl rfl) ?_
  refine KD.val rfl rfl (ov_move rfl) ?_
  refine KD.val rfl rfl (ov_nilCheck rfl) ?_
  refine KD.val rfl rfl (ov_field Tryz.underlying181 rfl Tryz.sizeOf3 rfl (k := 1) rfl rfl) ?_
  refine KD.rd rfl rfl (om_ld Tryz.isAgg3 rfl rfl) ?_
  refine KD.val rfl rfl (ov_add64 rfl rfl (by omega)) ?_
  refine KD.one rfl ?_
  refine LM.stW Tryz.sizeOf87 rfl rfl rfl rfl au7 au8 ?_
  refine LM.nil ?_
  refine QM.one au1 (fun _ _ => trivial) ?_
  refine KD.val rfl rfl (ov_assign rfl) ?_
  refine KD.val rfl rfl (ov_assign rfl) ?_
  refine KD.nil ?_
  refine QM.sub (e' := [(4, _), (5, _), (6, _)]) ⟨rfl, rfl, rfl, trivial⟩ (QM.then ?_)
  refine wpM.ret ?_
  refine QM.leaveCs (ds := ([])) (.inl rfl) [.cell 4 87, .tmp 5, .tmp 6] Tryz.results85 hd_nil (rc_w rfl Tryz.isAgg87 Tryz.sizeOf87 rfl (rc_tmp rfl (rc_tmp rfl rc_nil))) ?_
  intro w' hm' hc'
  exact absurd h9 (by rw [if_neg h3]; exact fun q => q h3)
 refine wpM.skip ?_
 refine QM.then ?_
 refine wpM.seq ?_
 refine wpM.seq (wpM.region ?_)
 refine LM.mv rfl ?_
 refine LM.val (ov_nilCheck rfl) ?_
 refine LM.val (ov_field Tryz.underlying181 rfl Tryz.sizeOf31 rfl (k := 2) rfl rfl) ?_
 refine LM.rd (om_ld Tryz.isAgg31 rfl rfl) ?_
 refine LM.val (ov_neq rfl rfl) ?_
 refine LM.nil (QM.sub (e' := [(4, _), (7, _), (8, _), (59, _)]) ⟨rfl, rfl, rfl, rfl, trivial⟩ (QM.then ?_))
 refine wpM.condD rfl (fun h10 => ?_) (fun h10 => ?_)
 ·
  refine wpM.seq ?_
  refine wpM.keep ((b21, _) :: []) (fun _ => True) (.one 0 0 (.one 1 0 (.one 2 0 (.one 3 0 (.one 4 1 (.one 5 0 (.one 6 0 (.one 7 0 (.one 8 1 (.one 9 2 (.one 10 0 (.one 11 0 .nil)))))))))))) (by kernel_rfl) (by kernel_rfl) au1 (fun _ _ => trivial) ?_
  refine KD.val rfl rfl (ov_build (cs := #[_, _]) rfl (by first | rfl | kernel_rfl)) ?_
  refine KD.val rfl rfl (ov_move rfl) ?_
  refine KD.val rfl rfl (ov_nilCheck rfl) ?_
  refine KD.val rfl rfl (ov_field Tryz.underlying181 rfl Tryz.sizeOf3 rfl (k := 1) rfl rfl) ?_
  refine KD.rd rfl rfl (om_ld Tryz.isAgg3 rfl rfl) ?_
  refine KD.val rfl rfl (ov_move rfl) ?_
  refine KD.val rfl rfl (ov_nilCheck rfl) ?_
  refine KD.val rfl rfl (ov_field Tryz.underlying181 rfl Tryz.sizeOf31 rfl (k := 2) rfl rfl) ?_
  refine KD.rd rfl rfl (om_ld Tryz.isAgg31 rfl rfl) ?_
  refine KD.one rfl ?_
  refine LM.stW Tryz.sizeOf87 rfl rfl rfl rfl au7 au8 ?_
  refine LM.nil ?_
  refine QM.one au1 (fun _ _ => trivial) ?_
  refine KD.val rfl rfl (ov_assign rfl) ?_
  refine KD.val rfl rfl (ov_assign rfl) ?_
  refine KD.nil ?_
  refine QM.sub (e' := [(4, _), (5, _), (6, _)]) ⟨rfl, rfl, rfl, trivial⟩ (QM.then ?_)
  refine wpM.ret ?_
  refine QM.then_ret ?_
  refine QM.leaveCs (ds := ([])) (.inl rfl) [.cell 4 87, .tmp 5, .tmp 6] Tryz.results85 hd_nil (rc_w rfl Tryz.isAgg87 Tryz.sizeOf87 rfl (rc_tmp rfl (rc_tmp rfl rc_nil))) ?_
  intro w' hm' hc'
  exact ⟨hc', [], fin_bad hi0 (hI.2.1 h3) h3, Mem.nil _, fun p hp => by cases hp⟩
 refine wpM.skip ?_
 refine QM.then ?_
 refine wpM.seq ?_
 refine wpM.keep ((b21, _) :: (b8, _) :: []) (fun _ => True) (.one 0 1 (.one 1 0 (.one 2 0 (.one 3 0 (.one 4 1 (.one 5 0 (.one 6 2 (.one 7 0 (.one 8 0 .nil))))))))) (by kernel_rfl) (by kernel_rfl) au1 (fun _ _ => trivial) ?_
 refine KD.rd rfl rfl (om_ldW Tryz.isAgg87 Tryz.sizeOf87 rfl rfl) ?_
 refine KD.val rfl rfl (ov_move rfl) ?_
 refine KD.val rfl rfl (ov_nilCheck rfl) ?_
 refine KD.val rfl rfl (ov_field Tryz.underlying181 rfl Tryz.sizeOf3 rfl (k := 1) rfl rfl) ?_
 refine KD.rd rfl rfl (om_ld Tryz.isAgg3 rfl rfl) ?_
 refine KD.val rfl rfl (ov_add64 rfl rfl (by omega)) ?_
 refine KD.one rfl ?_
 refine LM.stW Tryz.sizeOf87 rfl rfl rfl rfl au7 au8 ?_
 refine LM.nil ?_
 refine QM.one au1 (fun _ _ => trivial) ?_
 refine KD.val rfl rfl (ov_assign rfl) ?_
 refine KD.val rfl rfl (ov_assign rfl) ?_
 refine KD.nil ?_
 refine QM.sub (e' := [(4, _), (5, _), (6, _)]) ⟨rfl, rfl, rfl, trivial⟩ (QM.then ?_)
 refine wpM.ret ?_
 refine QM.leaveCs (ds := ([])) (.inl rfl) [.cell 4 87, .tmp 5, .tmp 6] Tryz.results85 hd_nil (rc_w rfl Tryz.isAgg87 Tryz.sizeOf87 rfl (rc_tmp rfl (rc_tmp rfl rc_nil))) ?_
 intro w' hm' hc'
 exact absurd h3 h10
end Go.Eng
namespace Go.Eng
open Go Go.Proofs Go.RowKit
def kacc (ws : List Wrd) (i : Nat) : Nat → Int
  | 0 => 0
  | m + 1 => if isR ws i 1 (nmT ((m + 1 : Nat) : Int)) then ((m + 1 : Nat) : Int) else kacc ws i m
theorem nmT_nat {k : Nat} (h : k < 12) : nmT (k : Int) = nmW.getD k [] := by unfold nmT; rw [if_pos (by omega), Int.toNat_natCast]
theorem kacc_eq (ws : List Wrd) (i : Nat) : kacc ws i 11 = kindR ws i := by
  unfold kindR
  cases hc : (decide (i < ws.length) && decide ((ws.getD i default).k = 1)) with
  | false =>
    rw [if_neg (by simp)]
    have : ∀ m, kacc ws i m = 0 := by
      intro m
      induction m with
      | zero => rfl
      | succ m ih => unfold kacc isR; rw [hc, Bool.false_and, if_neg (by simp), ih]
    exact this 11
  | true =>
    rw [if_pos rfl, ← refK_eq]
    have : ∀ m, m ≤ 11 → kacc ws i m = refK (ws.getD i default).t m := by
      intro m
      induction m with
      | zero => intro _; rfl
      | succ m ih =>
        intro hm
        unfold kacc refK isR; rw [hc, Bool.true_and, ih (by omega), nmT_nat (by omega)]
        by_cases q : (ws.getD i default).t = nmW.getD (m + 1) []
        · rw [if_pos q, if_pos (decide_eq_true q)]
        · rw [if_neg q, if_neg (by rw [decide_eq_false q]; simp)]
    exact this 11 (Nat.le_refl _)
theorem kacc_t {ws : List Wrd} {i k : Nat} (h1 : 1 ≤ k) (h : isR ws i 1 (nmT (k : Int)) = true) : kacc ws i k = (k : Int) := by
  obtain ⟨m, rfl⟩ : ∃ m, k = m + 1 := ⟨k - 1, by omega⟩
  unfold kacc; rw [if_pos h]
theorem kacc_f {ws : List Wrd} {i k : Nat} (h1 : 1 ≤ k) (h : isR ws i 1 (nmT (k : Int)) = false) : kacc ws i k = kacc ws i (k - 1) := by
  obtain ⟨m, rfl⟩ : ∃ m, k = m + 1 := ⟨k - 1, by omega⟩
  rw [show m + 1 - 1 = m by omega]
  conv => lhs; unfold kacc
  rw [if_neg (by rw [h]; simp)]
theorem body_a {ws : List Wrd} {i : Nat} (h : isR ws i 1 wProg = false) : bodyR ws i = ([], (i : Int), 5) := by unfold bodyR; rw [if_neg (by rw [h]; simp)]
theorem body_b {ws : List Wrd} {i : Nat} (h : isR ws i 1 wProg = true) (h2 : isR ws (headR ws i).2 3 [123] = false) : bodyR ws i = ([], ((headR ws i).2 : Int), 5) := by unfold bodyR; rw [if_pos h, if_neg (by rw [h2]; simp)]
theorem body_c {ws : List Wrd} {i : Nat} (h : isR ws i 1 wProg = true) (h2 : isR ws (headR ws i).2 3 [123] = true) : loopR ws ((headR ws i).2 + 1) [] = bodyR ws i := by unfold bodyR; rw [if_pos h, if_pos h2]
theorem nR1 {ws : List Wrd} {i : Nat} {lo hi : Int} (h : lo = -1) : numR ws i lo hi = (i, 0, 0) := by unfold numR; rw [if_pos h]
theorem nR2 {ws : List Wrd} {i : Nat} {lo hi : Int} (h : ¬ lo = -1) (h2 : ws.length ≤ i ∨ (ws.getD i default).k ≠ 2) : numR ws i lo hi = (i, 5, 0) := by
  unfold numR; rw [if_neg h, if_pos (by simp only [Bool.or_eq_true, decide_eq_true_eq]; exact h2)]
theorem nR3 {ws : List Wrd} {i : Nat} {lo hi : Int} (h : ¬ lo = -1) (h2 : i < ws.length) (h3 : (ws.getD i default).k = 2) (h4 : (ws.getD i default).n < lo ∨ hi < (ws.getD i default).n) : numR ws i lo hi = (i, 1, 0) := by
  unfold numR hasB; rw [if_neg h, if_neg (by simp only [Bool.or_eq_true, decide_eq_true_eq, not_or]; exact ⟨by omega, fun q => q h3⟩), if_neg h, if_neg (by simp only [Bool.and_eq_true, decide_eq_true_eq]; omega)]
theorem nR4 {ws : List Wrd} {i : Nat} {lo hi : Int} (h : ¬ lo = -1) (h2 : i < ws.length) (h3 : (ws.getD i default).k = 2) (h4 : lo ≤ (ws.getD i default).n ∧ (ws.getD i default).n ≤ hi) : numR ws i lo hi = (i + 1, 0, (ws.getD i default).n) := by
  unfold numR hasB; rw [if_neg h, if_neg (by simp only [Bool.or_eq_true, decide_eq_true_eq, not_or]; exact ⟨by omega, fun q => q h3⟩), if_neg h, if_pos (by simp only [Bool.and_eq_true, decide_eq_true_eq]; exact h4)]
theorem opB_of {ws : List Wrd} {i j : Nat} {a : Int} (h : opA ws i = (j, 0, a)) : opB ws i = numR ws j (loB (kindR ws i)) (hiB (kindR ws i)) := by unfold opB num2; rw [h, if_neg (by simp)]
theorem opR_Ab {ws : List Wrd} {i j ah : Nat} {e a : Int} (h1 : kindR ws i ≠ 0) (h2 : ah < 12) (h : opA ws i = (j, e, a)) (he : e ≠ 0) : (opR ws i ah).1 = j ∧ (opR ws i ah).2.1 = e := by
  have hB : opB ws i = (j, e, 0) := by unfold opB num2; rw [h, if_pos he]
  unfold opR; rw [if_neg h1, if_neg (by omega), hB, if_pos he]; exact ⟨rfl, rfl⟩
theorem opR_Bb {ws : List Wrd} {i j ah : Nat} {e b : Int} (h1 : kindR ws i ≠ 0) (h2 : ah < 12) (h : opB ws i = (j, e, b)) (he : e ≠ 0) : (opR ws i ah).1 = j ∧ (opR ws i ah).2.1 = e := by
  unfold opR; rw [if_neg h1, if_neg (by omega), h, if_pos he]; exact ⟨rfl, rfl⟩
theorem opR_sb {ws : List Wrd} {i j ah : Nat} {b : Int} (h1 : kindR ws i ≠ 0) (h2 : ah < 12) (h : opB ws i = (j, 0, b)) (he : isR ws j 3 [59] = false) : (opR ws i ah).1 = j ∧ (opR ws i ah).2.1 = 5 := by
  unfold opR; rw [if_neg h1, if_neg (by omega), h, if_neg (by simp), if_neg (by rw [he]; simp)]; exact ⟨rfl, rfl⟩
theorem opR_ok {ws : List Wrd} {i j ah : Nat} {a b : Int} (h1 : kindR ws i ≠ 0) (h2 : ah < 12) (hA : (opA ws i).2.2 = a) (h : opB ws i = (j, 0, b)) (he : isR ws j 3 [59] = true) : opR ws i ah = (j + 1, 0, ⟨kindR ws i, a, b⟩) := by
  unfold opR; rw [if_neg h1, if_neg (by omega), h, if_neg (by simp), if_pos he, hA]
theorem bad_of {ws : List Wrd} {R : List COp × Int × Int} {i j : Nat} {e : Int} {ops : List COp} (h : loopR ws i ops = R) (hn : isR ws i 3 [125] = false) (h1 : (opR ws i ops.length).1 = j ∧ (opR ws i ops.length).2.1 = e) (he : e ≠ 0) : R = ([], (j : Int), e) := by
  rw [← h, loopR_bad hn (by rw [h1.2]; exact he), h1.1, h1.2]
theorem fin_ok2 {ws : List Wrd} {i0 : Nat} {i : Int} {n0 : Nat} {ops : List COp} {ad : Option Addr} {n cap : Nat} {m : Mem0} (hi : i0 ≤ ws.length) (h : bodyR ws i0 = (ops, i, 0)) (hn : n = ops.length) (hs : Sl fO 135 3 n0 ops (.slice ad n cap) m) : ParT (parseO ws (i0 : Int)) n0 (.tuple #[.agg #[.bool (headR ws i0).1, .slice ad n cap], .int .i64 i, .int .i64 0]) m := by
  rw [parse_nat hi, h]; exact ⟨ad, n, cap, rfl, hn, hs⟩
def NumI (ws : List Wrd) (i k j : Nat) (lo hi a b : Int) : Prop :=
  k ≤ 2 ∧ j ≤ ws.length ∧ (k = 0 → j = i + 1 ∧ lo = loA (kindR ws i) ∧ hi = hiA (kindR ws i) ∧ a = 0 ∧ b = 0) ∧ (k = 1 → opA ws i = (j, 0, a) ∧ b = 0) ∧ (k = 2 → (opA ws i).2.2 = a ∧ opB ws i = (j, 0, b))
theorem NumI.skip {ws : List Wrd} {i k j : Nat} {lo hi a b : Int} (h : NumI ws i k j lo hi a b) (hq : (k = 0 ∧ lo < 0) ∨ (k = 1 ∧ kindR ws i ≠ 5)) : NumI ws i (k + 1) j lo hi a b := by
  obtain ⟨h1, h2, h3, h4, h5⟩ := h
  rcases hq with ⟨rfl, hq⟩ | ⟨rfl, hq⟩
  · obtain ⟨e1, e2, e3, e4, e5⟩ := h3 rfl
    subst e1; subst e4; subst e5; subst e2; subst e3
    have := loA_cases (kindR ws i)
    exact ⟨by omega, h2, fun q => by omega, fun _ => ⟨nR1 (by omega), rfl⟩, fun q => by omega⟩
  · obtain ⟨e1, e2⟩ := h4 rfl
    subst e2
    exact ⟨by omega, h2, fun q => by omega, fun q => by omega, fun _ => ⟨by rw [e1], by rw [opB_of e1, nR1 (by unfold loB; rw [if_neg hq])]⟩⟩
theorem NumI.take0 {ws : List Wrd} {i j : Nat} {lo hi a b : Int} (h : NumI ws i 0 j lo hi a b) (hq : ¬ lo < 0) (h2 : j < ws.length) (h3 : (ws.getD j default).k = 2) (h4 : lo ≤ (ws.getD j default).n ∧ (ws.getD j default).n ≤ hi) : NumI ws i 1 (j + 1) lo hi (ws.getD j default).n b := by
  obtain ⟨h1, _, h5, _, _⟩ := h
  obtain ⟨e1, e2, e3, e4, e5⟩ := h5 rfl
  subst e1; subst e2; subst e3; subst e5
  exact ⟨by omega, h2, fun q => by omega, fun _ => ⟨nR4 (by omega) h2 h3 h4, rfl⟩, fun q => by omega⟩
theorem NumI.take1 {ws : List Wrd} {i j : Nat} {lo hi lo' hi' a b : Int} (h : NumI ws i 1 j lo hi a b) (hq : kindR ws i = 5) (h2 : j < ws.length) (h3 : (ws.getD j default).k = 2) (h4 : 1 ≤ (ws.getD j default).n ∧ (ws.getD j default).n ≤ 64) : NumI ws i 2 (j + 1) lo' hi' a (ws.getD j default).n := by
  obtain ⟨h1, _, _, h5, _⟩ := h
  obtain ⟨e1, e2⟩ := h5 rfl
  exact ⟨by omega, h2, fun q => by omega, fun q => by omega, fun _ => ⟨by rw [e1], by rw [opB_of e1]; unfold loB hiB; rw [if_pos hq, if_pos hq]; exact nR4 (by decide) h2 h3 h4⟩⟩
theorem NumI.bad {ws : List Wrd} {i k j ah : Nat} {lo hi a b e : Int} (h : NumI ws i k j lo hi a b) (hk : k < 2) (h1 : kindR ws i ≠ 0) (h2 : ah < 12) (hq : ¬ ((k = 0 ∧ lo < 0) ∨ (k = 1 ∧ kindR ws i ≠ 5))) (he : e ≠ 0)
    (h3 : (e = 5 ∧ (ws.length ≤ j ∨ (ws.getD j default).k ≠ 2)) ∨ (e = 1 ∧ j < ws.length ∧ (ws.getD j default).k = 2 ∧ ((k = 0 ∧ ((ws.getD j default).n < lo ∨ hi < (ws.getD j default).n)) ∨ (k = 1 ∧ ((ws.getD j default).n < 1 ∨ 64 < (ws.getD j default).n))))) : (opR ws i ah).1 = j ∧ (opR ws i ah).2.1 = e := by
  obtain ⟨_, _, h5, h6, _⟩ := h
  have : k = 0 ∨ k = 1 := by omega
  rcases this with rfl | rfl
  · obtain ⟨e1, e2, e3, e4, e5⟩ := h5 rfl
    subst e1; subst e2; subst e3
    have hlo : ¬ loA (kindR ws i) = -1 := by omega
    rcases h3 with ⟨rfl, h3⟩ | ⟨rfl, a1, a2, a3⟩
    · exact opR_Ab h1 h2 (nR2 hlo h3) he
    · rcases a3 with ⟨_, a3⟩ | ⟨a3, _⟩
      · exact opR_Ab h1 h2 (nR3 hlo a1 a2 a3) he
      · cases a3
  · obtain ⟨e1, e2⟩ := h6 rfl
    have h5' : kindR ws i = 5 := by omega
    have e3 := opB_of e1
    unfold loB hiB at e3; rw [if_pos h5', if_pos h5'] at e3
    rcases h3 with ⟨rfl, h3⟩ | ⟨rfl, a1, a2, a3⟩
    · exact opR_Bb h1 h2 (e3.trans (nR2 (by decide) h3)) he
    · rcases a3 with ⟨a3, _⟩ | ⟨_, a3⟩
      · cases a3
      · exact opR_Bb h1 h2 (e3.trans (nR3 (by decide) a1 a2 a3)) he
set_option maxRecDepth 100000 in
theorem ris_spec {ws : List Wrd} {ad : Option Addr} {n cap : Nat} (i : Nat) (k : Int) (t : List UInt8) (w : World) (hn : n = ws.length) (hl : Sr fW 4 ws (.slice ad n cap) w) : Ret Tryz.prog 87 #[.slice ad n cap, .int .i64 (i : Nat), .int .i64 k, vS t] w (fun v w' => v = .bool (isR ws i k t) ∧ Ext w w') := by
 refine Ret.enterM (l := [.slice ad n cap, .int .i64 (i : Nat), .int .i64 k, vS t]) Tryz.func87 rfl Tryz.ntmps87 rfl ([]) (no) (Mem.nil w) ?_
 refine wpM.seq (wpM.region ?_)
 refine LM.as rfl ?_
 refine LM.nil (QM.sub (e' := [(0, _), (1, _), (2, _), (3, _)]) ⟨rfl, rfl, rfl, rfl, trivial⟩ (QM.then (wpM.seq (wpM.region ?_))))
 refine LM.mv rfl ?_
 refine LM.mv rfl ?_
 refine LM.val (ov_len Tryz.underlying23 rfl) ?_
 refine LM.val (ov_lss rfl rfl) ?_
 refine LM.mv rfl ?_
 refine LM.splitD (t := 13) rfl (fun h1 => ?_) (fun h1 => ?_)
 ·
  refine LM.sp 13 rfl rfl rfl ?_
  refine LM.mv rfl ?_
  refine LM.sp 13 rfl rfl rfl ?_
  refine LM.mv rfl ?_
  refine LM.sp 13 rfl rfl rfl ?_
  refine LM.val (ov_idxSN au6 Tryz.underlying23 Tryz.sizeOf65 rfl rfl (by omega)) ?_
  refine LM.sp 13 rfl rfl rfl ?_
  refine LM.val (ov_field Tryz.underlying65 rfl Tryz.sizeOf3 rfl (k := 0) rfl rfl) ?_
  refine LM.sp 13 rfl rfl rfl ?_
  first | refine LM.rd (om_slE (j := 0) (by assumption) (by intro _; rfl) Tryz.isAgg3 rfl rfl au3 rfl (by rfl)) ?_ | refine LM.rdC (om_srE (j := 0) (by assumption) Tryz.isAgg3 rfl rfl au3 (by rfl) (by rfl) id) ?_ | refine LM.rd (om_ld Tryz.isAgg3 rfl rfl) ?_
  refine LM.sp 13 rfl rfl rfl ?_
  refine LM.mv rfl ?_
  refine LM.sp 13 rfl rfl rfl ?_
  refine LM.val (ov_eql rfl rfl) ?_
  refine LM.val (ov_pickT rfl rfl) ?_
  refine LM.mv rfl ?_
  refine LM.splitD (t := 22) rfl (fun h2 => ?_) (fun h2 => ?_)
  ·
   refine LM.sp 22 rfl rfl rfl ?_
   refine LM.mv rfl ?_
   refine LM.sp 22 rfl rfl rfl ?_
   refine LM.mv rfl ?_
   refine LM.sp 22 rfl rfl rfl ?_
   refine LM.val (ov_idxSN au6 Tryz.underlying23 Tryz.sizeOf65 rfl rfl (by omega)) ?_
   refine LM.sp 22 rfl rfl rfl ?_
   refine LM.val (ov_field Tryz.underlying65 rfl Tryz.sizeOf9 rfl (k := 1) rfl rfl) ?_
   refine LM.sp 22 rfl rfl rfl ?_
   first | refine LM.rd (om_slE (j := 1) (by assumption) (by intro _; rfl) Tryz.isAgg9 rfl rfl au3 rfl (by rfl)) ?_ | refine LM.rdC (om_srE (j := 1) (by assumption) Tryz.isAgg9 rfl rfl au3 (by rfl) (by rfl) id) ?_ | refine LM.rd (om_ld Tryz.isAgg9 rfl rfl) ?_
   refine LM.sp 22 rfl rfl rfl ?_
   refine LM.mv rfl ?_
   refine LM.sp 22 rfl rfl rfl ?_
   refine LM.val (ov_seqlL rfl rfl) ?_
   refine LM.val (ov_pickT rfl rfl) ?_
   refine LM.as rfl ?_
   refine LM.nil (QM.sub (e' := [(8, _)]) ⟨rfl, trivial⟩ (QM.then ?_))
   refine wpM.ret ?_
   refine QM.leave (.inl rfl) [.tmp 8] Tryz.results87 rfl ?_
   intro w' hm' hc' hg'
   refine ⟨?_, hc'⟩; simp only [resV, isR]; rw [decide_eq_true (show i < ws.length by omega), decide_eq_true h2]; simp only [Bool.true_and]
  refine LM.dr 22 rfl rfl rfl ?_
  refine LM.dr 22 rfl rfl rfl ?_
  refine LM.dr 22 rfl rfl rfl ?_
  refine LM.dr 22 rfl rfl rfl ?_
  refine LM.dr 22 rfl rfl rfl ?_
  refine LM.dr 22 rfl rfl rfl ?_
  refine LM.dr 22 rfl rfl rfl ?_
  refine LM.val (ov_pickF rfl rfl) ?_
  refine LM.as rfl ?_
  refine LM.nil (QM.sub (e' := [(8, _)]) ⟨rfl, trivial⟩ (QM.then ?_))
  refine wpM.ret ?_
  refine QM.leave (.inl rfl) [.tmp 8] Tryz.results87 rfl ?_
  intro w' hm' hc' hg'
  refine ⟨?_, hc'⟩; simp only [resV, isR]; rw [decide_eq_false h2]; simp only [Bool.and_false, Bool.false_and]
 refine LM.dr 13 rfl rfl rfl ?_
 refine LM.dr 13 rfl rfl rfl ?_
 refine LM.dr 13 rfl rfl rfl ?_
 refine LM.dr 13 rfl rfl rfl ?_
 refine LM.dr 13 rfl rfl rfl ?_
 refine LM.dr 13 rfl rfl rfl ?_
 refine LM.dr 13 rfl rfl rfl ?_
 refine LM.val (ov_pickF rfl rfl) ?_
 refine LM.mv rfl ?_
 refine LM.dr 22 rfl rfl rfl ?_
 refine LM.dr 22 rfl rfl rfl ?_
 refine LM.dr 22 rfl rfl rfl ?_
 refine LM.dr 22 rfl rfl rfl ?_
 refine LM.dr 22 rfl rfl rfl ?_
 refine LM.dr 22 rfl rfl rfl ?_
 refine LM.dr 22 rfl rfl rfl ?_
 refine LM.val (ov_pickF rfl rfl) ?_
 refine LM.as rfl ?_
 refine LM.nil (QM.sub (e' := [(8, _)]) ⟨rfl, trivial⟩ (QM.then ?_))
 refine wpM.ret ?_
 refine QM.leave (.inl rfl) [.tmp 8] Tryz.results87 rfl ?_
 intro w' hm' hc' hg'
 refine ⟨?_, hc'⟩; simp only [resV, isR]; rw [decide_eq_false (show ¬ i < ws.length by omega)]; simp only [Bool.and_false, Bool.false_and]
set_option maxRecDepth 100000 in
set_option maxHeartbeats 1000000 in
theorem rparse_spec {ws : List Wrd} {ad : Option Addr} {n cap : Nat} (p : Int) (w : World) (hn : n = ws.length) (hx : ws.length ≤ 1000000000) (hl : Sr fW 4 ws (.slice ad n cap) w) : Ret Tryz.prog 45 #[.slice ad n cap, .int .i64 p] w (fun v w' => Ext w w' ∧ ∃ m, ParT (parseO ws p) w.heap.size v m ∧ Mem w' m ∧ ∀ p ∈ m, w.heap.size ≤ p.1) := by
 refine Ret.enterM (l := [.slice ad n cap, .int .i64 p]) Tryz.func45 rfl Tryz.ntmps45 rfl ([]) (no) (Mem.nil w) ?_
 refine wpM.seq (wpM.region ?_)
 refine LM.alloc Tryz.zeroValue87 rfl (fun b4 hb4 => ?_)
 refine LM.as rfl ?_
 refine LM.as rfl ?_
 refine LM.nil (QM.sub (e' := [(0, _), (1, _), (4, _)]) ⟨rfl, rfl, rfl, trivial⟩ (QM.then (wpM.seq (wpM.region ?_))))
 refine LM.val (ov_build (cs := #[_, _]) rfl (by first | rfl | kernel_rfl)) ?_
 refine LM.alloc Tryz.zeroValue87 rfl (fun b7 hb7 => ?_)
 refine LM.stW Tryz.sizeOf87 rfl rfl rfl rfl au7 au8 ?_
 refine LM.nil (QM.sub (e' := [(0, _), (1, _), (4, _), (7, _)]) ⟨rfl, rfl, rfl, rfl, trivial⟩ (QM.then ?_))
 refine wpM.seq ?_
 refine wpM.seq (wpM.region ?_)
 refine LM.mv rfl ?_
 refine LM.val (ov_lss rfl rfl) ?_
 refine LM.mv rfl ?_
 refine LM.splitD (t := 18) rfl (fun h1 => ?_) (fun h1 => ?_)
 ·
  refine LM.dr 18 rfl rfl rfl ?_
  refine LM.dr 18 rfl rfl rfl ?_
  refine LM.dr 18 rfl rfl rfl ?_
  refine LM.dr 18 rfl rfl rfl ?_
  refine LM.val (ov_pickT rfl rfl) ?_
  refine LM.nil (QM.sub (e' := [(0, _), (1, _), (4, _), (7, _), (23, _)]) ⟨rfl, rfl, rfl, rfl, rfl, trivial⟩ (QM.then ?_))
  refine wpM.condT rfl ?_
  refine wpM.seq (wpM.region ?_)
  refine LM.rd (om_ldW Tryz.isAgg87 Tryz.sizeOf87 rfl rfl) ?_
  refine LM.stW Tryz.sizeOf87 rfl rfl rfl rfl au7 au8 ?_
  refine LM.as rfl ?_
  refine LM.as rfl ?_
  refine LM.nil (QM.sub (e' := [(4, _), (5, _), (6, _)]) ⟨rfl, rfl, rfl, trivial⟩ (QM.then ?_))
  refine wpM.ret ?_
  refine QM.then_ret ?_
  refine QM.leaveCs (ds := ([])) (.inl rfl) [.cell 4 87, .tmp 5, .tmp 6] Tryz.results45 hd_nil (rc_w rfl Tryz.isAgg87 Tryz.sizeOf87 rfl (rc_tmp rfl (rc_tmp rfl rc_nil))) ?_
  intro w' hm' hc'
  have hpar : parseO ws p = (false, [], 0, 5) := (by unfold parseO; rw [if_pos (by omega)]); rw [hpar]; exact ⟨hc', [], ⟨none, 0, 0, rfl, rfl, .nil _ _ _ _⟩, Mem.nil _, fun p hp => by cases hp⟩
 refine LM.sp 18 rfl rfl rfl ?_
 refine LM.mv rfl ?_
 refine LM.sp 18 rfl rfl rfl ?_
 refine LM.mv rfl ?_
 refine LM.sp 18 rfl rfl rfl ?_
 refine LM.val (ov_len Tryz.underlying23 rfl) ?_
 refine LM.sp 18 rfl rfl rfl ?_
 refine LM.val (ov_gtr rfl rfl) ?_
 refine LM.val (ov_pickF rfl rfl) ?_
 refine LM.nil (QM.sub (e' := [(0, _), (1, _), (4, _), (7, _), (23, _)]) ⟨rfl, rfl, rfl, rfl, rfl, trivial⟩ (QM.then ?_))
 refine wpM.condD rfl (fun h2 => ?_) (fun h2 => ?_)
 ·
  refine wpM.seq (wpM.region ?_)
  refine LM.rd (om_ldW Tryz.isAgg87 Tryz.sizeOf87 rfl rfl) ?_
  refine LM.stW Tryz.sizeOf87 rfl rfl rfl rfl au7 au8 ?_
  refine LM.as rfl ?_
  refine LM.as rfl ?_
  refine LM.nil (QM.sub (e' := [(4, _), (5, _), (6, _)]) ⟨rfl, rfl, rfl, trivial⟩ (QM.then ?_))
  refine wpM.ret ?_
  refine QM.then_ret ?_
  refine QM.leaveCs (ds := ([])) (.inl rfl) [.cell 4 87, .tmp 5, .tmp 6] Tryz.results45 hd_nil (rc_w rfl Tryz.isAgg87 Tryz.sizeOf87 rfl (rc_tmp rfl (rc_tmp rfl rc_nil))) ?_
  intro w' hm' hc'
  have hpar : parseO ws p = (false, [], 0, 5) := (by unfold parseO; rw [if_pos (by omega)]); rw [hpar]; exact ⟨hc', [], ⟨none, 0, 0, rfl, rfl, .nil _ _ _ _⟩, Mem.nil _, fun p hp => by cases hp⟩
 obtain ⟨i0, rfl⟩ : ∃ i0 : Nat, p = (i0 : Nat) := ⟨p.toNat, by omega⟩; have hi0 : i0 ≤ ws.length := (by omega)
 refine wpM.skip ?_
 refine QM.then ?_
 refine wpM.seq ?_
 refine wpM.seq (wpM.region ?_)
 refine LM.mv rfl ?_
 refine LM.mv rfl ?_
 refine LM.callE (oc_call (enters_fn Tryz.func87 (by kernel_rfl) rfl) rfl) (fun w hm hc hg => ris_spec i0 1 wProg w hn (hl.ext hc)) ?_
 first | refine LM.val (ov_notD rfl) ?_ | refine LM.val (ov_not rfl) ?_
 refine LM.nil (QM.sub (e' := [(0, _), (1, _), (4, _), (7, _), (28, _)]) ⟨rfl, rfl, rfl, rfl, rfl, trivial⟩ (QM.then ?_))
 first | refine wpM.condD rfl (fun h3 => ?_) (fun h3 => ?_) | refine wpM.condB rfl (fun h3 => ?_) (fun h3 => ?_)
 ·
  refine wpM.seq (wpM.region ?_)
  refine LM.rd (om_ldW Tryz.isAgg87 Tryz.sizeOf87 rfl rfl) ?_
  refine LM.mv rfl ?_
  refine LM.stW Tryz.sizeOf87 rfl rfl rfl rfl au7 au8 ?_
  refine LM.as rfl ?_
  refine LM.as rfl ?_
  refine LM.nil (QM.sub (e' := [(4, _), (5, _), (6, _)]) ⟨rfl, rfl, rfl, trivial⟩ (QM.then ?_))
  refine wpM.ret ?_
  refine QM.then_ret ?_
  refine QM.leaveCs (ds := ([])) (.inl rfl) [.cell 4 87, .tmp 5, .tmp 6] Tryz.results45 hd_nil (rc_w rfl Tryz.isAgg87 Tryz.sizeOf87 rfl (rc_tmp rfl (rc_tmp rfl rc_nil))) ?_
  intro w' hm' hc'
  exact ⟨hc', [], fin_bad hi0 (body_a (by simpa using h3)) (by decide), Mem.nil _, fun p hp => by cases hp⟩
 have hp : isR ws i0 1 wProg = true := (by simpa using h3)
 refine wpM.skip ?_
 refine QM.then (wpM.seq (wpM.region ?_))
 refine LM.mv rfl ?_
 refine LM.val (ov_add64 rfl rfl (by omega)) ?_
 refine LM.as rfl ?_
 refine LM.nil (QM.sub (e' := [(0, _), (1, _), (4, _), (7, _)]) ⟨rfl, rfl, rfl, rfl, trivial⟩ (QM.then ?_))
 refine wpM.seq ?_
 refine wpM.seq (wpM.region ?_)
 refine LM.mv rfl ?_
 refine LM.mv rfl ?_
 rw [show ((i0 : Int) + 1) = ((i0 + 1 : Nat) : Int) from rfl]
 refine LM.callE (oc_call (enters_fn Tryz.func87 (by kernel_rfl) rfl) rfl) (fun w hm hc hg => ris_spec (i0 + 1) 1 wForever w hn (hl.ext hc)) ?_
 refine LM.nil (QM.sub (e' := [(0, _), (1, _), (4, _), (7, _), (35, _)]) ⟨rfl, rfl, rfl, rfl, rfl, trivial⟩ (QM.then ?_))
 refine wpM.joinK (α := Nat) (fun jj => [(1, .int .i64 (jj : Nat))]) [(0, _), (4, _), (7, _)] (fun jj => (b7, .cells #[.bool (headR ws i0).1, .slice none 0 0] 87 (0, 0)) :: (b4, .cells #[.bool false, .slice none 0 0] 87 (0, 0)) :: []) (fun jj => jj = (headR ws i0).2) ⟨rfl, rfl, rfl, trivial⟩ ?_ ?_
 ·
  first | refine wpM.condD rfl (fun h4 => ?_) (fun h4 => ?_) | refine wpM.condB rfl (fun h4 => ?_) (fun h4 => ?_)
  ·
   refine wpM.seq (wpM.region ?_)
   refine LM.val (ov_field Tryz.underlying87 rfl Tryz.sizeOf4 rfl (k := 0) rfl rfl) ?_
   refine LM.st Tryz.sizeOf4 rfl rfl rfl au5 rfl au8 ?_
   refine LM.nil (QM.sub (e' := [(0, _), (1, _), (4, _), (7, _)]) ⟨rfl, rfl, rfl, rfl, trivial⟩ (QM.then (wpM.region ?_)))
   refine LM.mv rfl ?_
   refine LM.val (ov_add64 rfl rfl (by omega)) ?_
   refine LM.as rfl ?_
   refine LM.nil (QM.sub (e' := [(0, _), (1, _), (4, _), (7, _)]) ⟨rfl, rfl, rfl, rfl, trivial⟩ ?_)
   rw [show (headR ws i0).1 = true from h4]
   refine QM.meetK (i0 + 1 + 1) ⟨au2, rfl, rfl, rfl, trivial⟩ au1 ?_
   · show i0 + 1 + 1 = (if isR ws (i0 + 1) 1 wForever then i0 + 2 else i0 + 1); rw [if_pos h4]
  refine wpM.skip ?_
  rw [show (headR ws i0).1 = false from h4]
  refine QM.meetK (i0 + 1) ⟨au2, rfl, rfl, rfl, trivial⟩ au1 ?_
  · show i0 + 1 = (if isR ws (i0 + 1) 1 wForever then i0 + 2 else i0 + 1); rw [if_neg (by rw [h4]; simp)]
 rintro jj rfl
 change QM _ _ _ _ _ ((b7, .cells #[.bool (headR ws i0).1, .slice none 0 0] 87 (0, 0)) :: (b4, .cells #[.bool false, .slice none 0 0] 87 (0, 0)) :: []) _ _ _
 refine QM.then ?_
 refine wpM.seq ?_
 refine wpM.seq (wpM.region ?_)
 refine LM.mv rfl ?_
 refine LM.mv rfl ?_
 refine LM.callE (oc_call (enters_fn Tryz.func87 (by kernel_rfl) rfl) rfl) (fun w hm hc hg => ris_spec (headR ws i0).2 3 [123] w hn (hl.ext hc)) ?_
 first | refine LM.val (ov_notD rfl) ?_ | refine LM.val (ov_not rfl) ?_
 refine LM.nil (QM.sub (e' := [(0, _), (1, _), (4, _), (7, _), (42, _)]) ⟨rfl, rfl, rfl, rfl, rfl, trivial⟩ (QM.then ?_))
 first | refine wpM.condD rfl (fun h5 => ?_) (fun h5 => ?_) | refine wpM.condB rfl (fun h5 => ?_) (fun h5 => ?_)
 ·
  refine wpM.seq (wpM.region ?_)
  refine LM.val (ov_build (cs := #[_, _]) rfl (by first | rfl | kernel_rfl)) ?_
  refine LM.mv rfl ?_
  refine LM.stW Tryz.sizeOf87 rfl rfl rfl rfl au7 au8 ?_
  refine LM.as rfl ?_
  refine LM.as rfl ?_
  refine LM.nil (QM.sub (e' := [(4, _), (5, _), (6, _)]) ⟨rfl, rfl, rfl, trivial⟩ (QM.then ?_))
  refine wpM.ret ?_
  refine QM.then_ret ?_
  refine QM.leaveCs (ds := ([])) (.inl rfl) [.cell 4 87, .tmp 5, .tmp 6] Tryz.results45 hd_nil (rc_w rfl Tryz.isAgg87 Tryz.sizeOf87 rfl (rc_tmp rfl (rc_tmp rfl rc_nil))) ?_
  intro w' hm' hc'
  exact ⟨hc', [], fin_bad hi0 (body_b hp (by simpa using h5)) (by decide), Mem.nil _, fun p hp => by cases hp⟩
 have hbr : isR ws (headR ws i0).2 3 [123] = true := (by simpa using h5); have hbr2 := isR_lt hbr
 refine wpM.skip ?_
 refine QM.then (wpM.seq (wpM.region ?_))
 refine LM.mv rfl ?_
 refine LM.val (ov_add64 rfl rfl (by omega)) ?_
 refine LM.as rfl ?_
 refine LM.nil (QM.sub (e' := [(0, _), (1, _), (4, _), (7, _)]) ⟨rfl, rfl, rfl, rfl, trivial⟩ (QM.then ?_))
 refine wpM.seq ?_
 refine wpM.block ?_
 refine wpM.loopK0 (α := Nat × List COp × Option Addr × Nat × Nat × Mem0) (fun ⟨i, ops, ado, no, capo, mo⟩ => [(1, .int .i64 (i : Nat))]) [(0, _), (4, _), (7, _)] (fun ⟨i, ops, ado, no, capo, mo⟩ => mo ++ ((b7, .cells #[.bool (headR ws i0).1, .slice ado no capo] 87 (0, 0)) :: (b4, .cells #[.bool false, .slice none 0 0] 87 (0, 0)) :: [])) (fun ⟨i, ops, ado, no, capo, mo⟩ => loopR ws i ops = bodyR ws i0 ∧ i ≤ ws.length ∧ no = ops.length ∧ Sl fO 135 3 w.heap.size ops (.slice ado no capo) mo ∧ ops.length ≤ 12) (fun ⟨i, ops, ado, no, capo, mo⟩ => ws.length - i) (((headR ws i0).2 + 1, [], none, 0, 0, [])) ⟨au2, rfl, rfl, rfl, trivial⟩ au1 ⟨body_c hp hbr, isR_lt hbr, rfl, .nil _ _ _ _, by decide⟩ ?_
 rintro ⟨i, ops, ado, no, capo, mo⟩ ⟨hL, hile, hno, hso, hol⟩
 change wpM _ _ _ _ _ _ _ (mo ++ ((b7, .cells #[.bool (headR ws i0).1, .slice ado no capo] 87 (0, 0)) :: (b4, .cells #[.bool false, .slice none 0 0] 87 (0, 0)) :: [])) _ _ _
 refine wpM.seq ?_
 refine wpM.seq (wpM.region ?_)
 refine LM.mv rfl ?_
 refine LM.mv rfl ?_
 refine LM.callE (oc_call (enters_fn Tryz.func87 (by kernel_rfl) rfl) rfl) (fun w hm hc hg => ris_spec i 3 [125] w hn (hl.ext hc)) ?_
 first | refine LM.val (ov_notD rfl) ?_ | refine LM.val (ov_not rfl) ?_
 refine LM.nil (QM.sub (e' := [(0, _), (1, _), (4, _), (7, _), (50, _)]) ⟨rfl, rfl, rfl, rfl, rfl, trivial⟩ (QM.then ?_))
 first | refine wpM.condD rfl (fun h6 => ?_) (fun h6 => ?_) | refine wpM.condB rfl (fun h6 => ?_) (fun h6 => ?_)
 ·
  have hn0 : isR ws i 3 [125] = false := (by simpa using h6)
  refine wpM.skip ?_
  refine QM.then ?_
  refine wpM.block ?_
  refine wpM.seq (wpM.region ?_)
  refine LM.as rfl ?_
  refine LM.nil (QM.sub (e' := [(0, _), (1, _), (4, _), (7, _), (8, _)]) ⟨rfl, rfl, rfl, rfl, rfl, trivial⟩ (QM.then ?_))
  refine wpM.seq ?_
  refine wpM.seq (wpM.region ?_)
  refine LM.as rfl ?_
  refine LM.nil (QM.sub (e' := [(0, _), (1, _), (4, _), (7, _), (8, _), (9, _)]) ⟨rfl, rfl, rfl, rfl, rfl, rfl, trivial⟩ (QM.then ?_))
  refine wpM.block ?_
  refine wpM.loopK0 (α := Nat × Int) (fun ⟨k, kd⟩ => [(8, .int .i64 kd), (9, .int .i64 (k : Nat))]) [(0, _), (1, _), (4, _), (7, _)] (fun ⟨k, kd⟩ => mo ++ ((b7, .cells #[.bool (headR ws i0).1, .slice ado no capo] 87 (0, 0)) :: (b4, .cells #[.bool false, .slice none 0 0] 87 (0, 0)) :: [])) (fun ⟨k, kd⟩ => 1 ≤ k ∧ k ≤ 12 ∧ kd = kacc ws i (k - 1)) (fun ⟨k, kd⟩ => 12 - k) ((1, 0)) ⟨au2, au2, rfl, rfl, rfl, rfl, trivial⟩ au1 ⟨by omega, by omega, rfl⟩ ?_
  rintro ⟨k, kd⟩ ⟨hk1, hk2, hkd⟩
  change wpM _ _ _ _ _ _ _ (mo ++ ((b7, .cells #[.bool (headR ws i0).1, .slice ado no capo] 87 (0, 0)) :: (b4, .cells #[.bool false, .slice none 0 0] 87 (0, 0)) :: [])) _ _ _
  refine wpM.seq ?_
  refine wpM.seq (wpM.region ?_)
  refine LM.mv rfl ?_
  refine LM.val (ov_leq rfl rfl) ?_
  refine LM.nil (QM.sub (e' := [(0, _), (1, _), (4, _), (7, _), (8, _), (9, _), (52, _)]) ⟨rfl, rfl, rfl, rfl, rfl, rfl, rfl, trivial⟩ (QM.then ?_))
  refine wpM.condD rfl (fun h7 => ?_) (fun h7 => ?_)
  ·
   refine wpM.skip ?_
   refine QM.then ?_
   refine wpM.seq ?_
   refine wpM.block ?_
   refine wpM.seq (wpM.region ?_)
   refine LM.mv rfl ?_
   refine LM.mv rfl ?_
   refine LM.mv rfl ?_
   refine LM.callE (oc_call (enters_fn Tryz.func88 (by kernel_rfl) rfl) rfl) (fun w hm hc hg => rname_spec _ w) ?_
   refine LM.callE (oc_call (enters_fn Tryz.func87 (by kernel_rfl) rfl) rfl) (fun w hm hc hg => ris_spec i 1 _ w hn (hl.ext hc)) ?_
   refine LM.nil (QM.sub (e' := [(0, _), (1, _), (4, _), (7, _), (8, _), (9, _), (59, _)]) ⟨rfl, rfl, rfl, rfl, rfl, rfl, rfl, trivial⟩ (QM.then ?_))
   first | refine wpM.condD rfl (fun h8 => ?_) (fun h8 => ?_) | refine wpM.condB rfl (fun h8 => ?_) (fun h8 => ?_)
   ·
    refine wpM.region ?_
    refine LM.mv rfl ?_
    refine LM.as rfl ?_
    refine LM.nil (QM.sub (e' := [(0, _), (1, _), (4, _), (7, _), (8, _), (9, _)]) ⟨rfl, rfl, rfl, rfl, rfl, rfl, trivial⟩ ?_)
    refine QM.block_normal ?_
    refine QM.then (wpM.region ?_)
    refine LM.mv rfl ?_
    refine LM.val (ov_add64 rfl rfl (by omega)) ?_
    refine LM.as rfl ?_
    refine LM.nil (QM.sub (e' := [(0, _), (1, _), (4, _), (7, _), (8, _), (9, _)]) ⟨rfl, rfl, rfl, rfl, rfl, rfl, trivial⟩ ?_)
    refine QM.againK ((k + 1, (k : Int))) ⟨au2, au2, rfl, rfl, rfl, rfl, trivial⟩ au1 (fun _ h => h) ?_ ?_
    · exact ⟨by omega, by omega, (kacc_t hk1 h8).symm⟩
    · first | omega | (dsimp only; omega)
   refine wpM.skip ?_
   refine QM.block_normal ?_
   refine QM.then (wpM.region ?_)
   refine LM.mv rfl ?_
   refine LM.val (ov_add64 rfl rfl (by omega)) ?_
   refine LM.as rfl ?_
   refine LM.nil (QM.sub (e' := [(0, _), (1, _), (4, _), (7, _), (8, _), (9, _)]) ⟨rfl, rfl, rfl, rfl, rfl, rfl, trivial⟩ ?_)
   refine QM.againK ((k + 1, kd)) ⟨au2, au2, rfl, rfl, rfl, rfl, trivial⟩ au1 (fun _ h => h) ?_ ?_
   · exact ⟨by omega, by omega, by rw [hkd]; exact (kacc_f hk1 h8).symm⟩
   · first | omega | (dsimp only; omega)
  obtain rfl : kd = kindR ws i := (by rw [hkd, show k - 1 = 11 by omega, kacc_eq])
  refine wpM.exit ?_
  refine QM.then_exit ?_
  refine QM.then_exit ?_
  refine QM.block_hit ?_
  refine QM.then ?_
  refine wpM.seq ?_
  refine wpM.seq (wpM.region ?_)
  refine LM.mv rfl ?_
  refine LM.val (ov_eql rfl rfl) ?_
  refine LM.nil (QM.sub (e' := [(0, _), (1, _), (4, _), (7, _), (8, _), (62, _)]) ⟨rfl, rfl, rfl, rfl, rfl, rfl, trivial⟩ (QM.then ?_))
  refine wpM.condD rfl (fun h9 => ?_) (fun h9 => ?_)
  ·
   refine wpM.seq (wpM.region ?_)
   refine LM.val (ov_build (cs := #[_, _]) rfl (by first | rfl | kernel_rfl)) ?_
   refine LM.mv rfl ?_
   refine LM.stW Tryz.sizeOf87 rfl rfl rfl rfl au7 au8 ?_
   refine LM.as rfl ?_
   refine LM.as rfl ?_
   refine LM.nil (QM.sub (e' := [(4, _), (5, _), (6, _)]) ⟨rfl, rfl, rfl, trivial⟩ (QM.then ?_))
   refine wpM.ret ?_
   refine QM.then_ret ?_
   refine QM.block_ret ?_
   refine QM.then_ret ?_
   refine QM.block_ret ?_
   refine QM.then_ret ?_
   refine QM.leaveCs (ds := ([])) (.inl rfl) [.cell 4 87, .tmp 5, .tmp 6] Tryz.results45 hd_nil (rc_w rfl Tryz.isAgg87 Tryz.sizeOf87 rfl (rc_tmp rfl (rc_tmp rfl rc_nil))) ?_
   intro w' hm' hc'
   exact ⟨hc', [], fin_bad hi0 (bad_of hL hn0 (by rw [op_a h9]; exact ⟨rfl, rfl⟩) (by decide)) (by decide), Mem.nil _, fun p hp => by cases hp⟩
  have hk0 : kindR ws i ≠ 0 := h9; have hklt := kindR_lt hk0
  refine wpM.skip ?_
  refine QM.then ?_
  refine wpM.seq ?_
  refine wpM.seq (wpM.region ?_)
  refine LM.val (ov_field Tryz.underlying87 rfl Tryz.sizeOf85 rfl (k := 1) rfl rfl) ?_
  refine LM.rd (om_ld Tryz.isAgg85 rfl rfl) ?_
  refine LM.val (ov_len Tryz.underlying85 rfl) ?_
  refine LM.val (ov_eql rfl rfl) ?_
  refine LM.nil (QM.sub (e' := [(0, _), (1, _), (4, _), (7, _), (8, _), (68, _)]) ⟨rfl, rfl, rfl, rfl, rfl, rfl, trivial⟩ (QM.then ?_))
  refine wpM.condD rfl (fun h10 => ?_) (fun h10 => ?_)
  ·
   refine wpM.seq (wpM.region ?_)
   refine LM.val (ov_build (cs := #[_, _]) rfl (by first | rfl | kernel_rfl)) ?_
   refine LM.mv rfl ?_
   refine LM.stW Tryz.sizeOf87 rfl rfl rfl rfl au7 au8 ?_
   refine LM.as rfl ?_
   refine LM.as rfl ?_
   refine LM.nil (QM.sub (e' := [(4, _), (5, _), (6, _)]) ⟨rfl, rfl, rfl, trivial⟩ (QM.then ?_))
   refine wpM.ret ?_
   refine QM.then_ret ?_
   refine QM.block_ret ?_
   refine QM.then_ret ?_
   refine QM.block_ret ?_
   refine QM.then_ret ?_
   refine QM.leaveCs (ds := ([])) (.inl rfl) [.cell 4 87, .tmp 5, .tmp 6] Tryz.results45 hd_nil (rc_w rfl Tryz.isAgg87 Tryz.sizeOf87 rfl (rc_tmp rfl (rc_tmp rfl rc_nil))) ?_
   intro w' hm' hc'
   exact ⟨hc', [], fin_bad hi0 (bad_of hL hn0 (by rw [op_b hk0 (by omega)]; exact ⟨rfl, rfl⟩) (by decide)) (by decide), Mem.nil _, fun p hp => by cases hp⟩
  have hah : ops.length < 12 := (by omega)
  refine wpM.skip ?_
  refine QM.then (wpM.seq (wpM.region ?_))
  refine LM.mv rfl ?_
  refine LM.val (ov_add64 rfl rfl (by omega)) ?_
  refine LM.as rfl ?_
  refine LM.nil (QM.sub (e' := [(0, _), (1, _), (4, _), (7, _), (8, _)]) ⟨rfl, rfl, rfl, rfl, rfl, trivial⟩ (QM.then (wpM.seq (wpM.region ?_))))
  refine LM.mv rfl ?_
  refine LM.val (ov_build (cs := #[_, _, _]) rfl (by first | rfl | kernel_rfl)) ?_
  refine LM.alloc Tryz.zeroValue135 rfl (fun b10 hb10 => ?_)
  refine LM.stW Tryz.sizeOf135 rfl rfl rfl rfl au7 au8 ?_
  refine LM.nil (QM.sub (e' := [(0, _), (1, _), (4, _), (7, _), (8, _), (10, _)]) ⟨rfl, rfl, rfl, rfl, rfl, rfl, trivial⟩ (QM.then (wpM.seq (wpM.region ?_))))
  refine LM.mv rfl ?_
  refine LM.callE (oc_call (enters_fn Tryz.func89 (by kernel_rfl) rfl) rfl) (fun w hm hc hg => limits_spec _ w) ?_
  refine LM.mv rfl ?_
  refine LM.val (ov_extract rfl rfl) ?_
  refine LM.val (ov_extract rfl rfl) ?_
  refine LM.as rfl ?_
  refine LM.as rfl ?_
  refine LM.nil (QM.sub (e' := [(0, _), (1, _), (4, _), (7, _), (8, _), (10, _), (11, _), (12, _)]) ⟨rfl, rfl, rfl, rfl, rfl, rfl, rfl, rfl, trivial⟩ (QM.then ?_))
  refine wpM.seq ?_
  refine wpM.seq (wpM.region ?_)
  refine LM.as rfl ?_
  refine LM.nil (QM.sub (e' := [(0, _), (1, _), (4, _), (7, _), (8, _), (10, _), (11, _), (12, _), (13, _)]) ⟨rfl, rfl, rfl, rfl, rfl, rfl, rfl, rfl, rfl, trivial⟩ (QM.then ?_))
  refine wpM.block ?_
  refine wpM.loopK0 (α := Nat × Nat × Int × Int × Int × Int) (fun ⟨k, j, lo, hi, a, b⟩ => [(1, .int .i64 (j : Nat)), (11, .int .i64 lo), (12, .int .i64 hi), (13, .int .i64 (k : Nat))]) [(0, _), (4, _), (7, _), (8, _), (10, _)] (fun ⟨k, j, lo, hi, a, b⟩ => mo ++ ((b10, .cells #[.int .i64 (kindR ws i), .int .i64 a, .int .i64 b] 135 (0, 0)) :: (b7, .cells #[.bool (headR ws i0).1, .slice ado no capo] 87 (0, 0)) :: (b4, .cells #[.bool false, .slice none 0 0] 87 (0, 0)) :: [])) (fun ⟨k, j, lo, hi, a, b⟩ => NumI ws i k j lo hi a b) (fun ⟨k, j, lo, hi, a, b⟩ => 2 - k) ((0, i + 1, loA (kindR ws i), hiA (kindR ws i), 0, 0)) ⟨au2, au2, au2, au2, rfl, rfl, rfl, rfl, rfl, trivial⟩ au1 ⟨by omega, kindR_lt hk0, fun _ => ⟨rfl, rfl, rfl, rfl, rfl⟩, fun q => by omega, fun q => by omega⟩ ?_
  rintro ⟨k, j, lo, hi, a, b⟩ hN
  change wpM _ _ _ _ _ _ _ (mo ++ ((b10, .cells #[.int .i64 (kindR ws i), .int .i64 a, .int .i64 b] 135 (0, 0)) :: (b7, .cells #[.bool (headR ws i0).1, .slice ado no capo] 87 (0, 0)) :: (b4, .cells #[.bool false, .slice none 0 0] 87 (0, 0)) :: [])) _ _ _
  have hjl := hN.2.1; have hk2 := hN.1
  refine wpM.seq ?_
  refine wpM.seq (wpM.region ?_)
  refine LM.mv rfl ?_
  refine LM.val (ov_lss rfl rfl) ?_
  refine LM.nil (QM.sub (e' := [(0, _), (1, _), (4, _), (7, _), (8, _), (10, _), (11, _), (12, _), (13, _), (81, _)]) ⟨rfl, rfl, rfl, rfl, rfl, rfl, rfl, rfl, rfl, rfl, trivial⟩ (QM.then ?_))
  refine wpM.condD rfl (fun h11 => ?_) (fun h11 => ?_)
  ·
   refine wpM.skip ?_
   refine QM.then ?_
   refine wpM.seq ?_
   refine wpM.block ?_
   refine wpM.seq ?_
   refine wpM.seq ?_
   refine wpM.joinK (α := Bool) (fun q => [(97, .bool q)]) [(0, _), (1, _), (4, _), (7, _), (8, _), (10, _), (11, _), (12, _), (13, _)] (fun q => mo ++ ((b10, .cells #[.int .i64 (kindR ws i), .int .i64 a, .int .i64 b] 135 (0, 0)) :: (b7, .cells #[.bool (headR ws i0).1, .slice ado no capo] 87 (0, 0)) :: (b4, .cells #[.bool false, .slice none 0 0] 87 (0, 0)) :: [])) (fun q => q = decide ((k = 0 ∧ lo < 0) ∨ (k = 1 ∧ kindR ws i ≠ 5))) ⟨rfl, rfl, rfl, rfl, rfl, rfl, rfl, rfl, rfl, trivial⟩ ?_ ?_
   ·
    refine wpM.region ?_
    refine LM.mv rfl ?_
    refine LM.val (ov_eql rfl rfl) ?_
    refine LM.mv rfl ?_
    refine LM.splitD (t := 86) rfl (fun h12 => ?_) (fun h12 => ?_)
    ·
     refine LM.sp 86 rfl rfl rfl ?_
     refine LM.mv rfl ?_
     refine LM.sp 86 rfl rfl rfl ?_
     refine LM.val (ov_lss rfl rfl) ?_
     refine LM.val (ov_pickT rfl rfl) ?_
     refine LM.mv rfl ?_
     refine LM.splitD (t := 90) rfl (fun h13 => ?_) (fun h13 => ?_)
     ·
      refine LM.dr 90 rfl rfl rfl ?_
      refine LM.dr 90 rfl rfl rfl ?_
      refine LM.dropU (t := 90) rfl rfl rfl ?_
      refine LM.dropX (t := 93) rfl rfl ?_
      refine LM.dropX (t := 93) rfl rfl ?_
      refine LM.dr 90 rfl rfl rfl ?_
      refine LM.val (ov_pickT rfl rfl) ?_
      refine LM.nil (QM.sub (e' := [(0, _), (1, _), (4, _), (7, _), (8, _), (10, _), (11, _), (12, _), (13, _), (97, _)]) ⟨rfl, rfl, rfl, rfl, rfl, rfl, rfl, rfl, rfl, rfl, trivial⟩ ?_)
      refine QM.meetK (_) ⟨au2, rfl, rfl, rfl, rfl, rfl, rfl, rfl, rfl, rfl, trivial⟩ au1 ?_
      · exact (decide_eq_true (.inl ⟨by omega, h13⟩)).symm
     refine LM.sp 90 rfl rfl rfl ?_
     refine LM.mv rfl ?_
     refine LM.sp 90 rfl rfl rfl ?_
     refine LM.val (ov_eql rfl rfl) ?_
     refine LM.sp 90 rfl rfl rfl ?_
     refine LM.mv rfl ?_
     refine LM.splitD (t := 93) rfl (fun h14 => ?_) (fun h14 => ?_)
     ·
      refine LM.sp 93 rfl rfl rfl ?_
      refine LM.mv rfl ?_
      refine LM.sp 93 rfl rfl rfl ?_
      refine LM.val (ov_neq rfl rfl) ?_
      refine LM.sp 90 rfl rfl rfl ?_
      refine LM.val (ov_pickT rfl rfl) ?_
      refine LM.val (ov_pickF rfl rfl) ?_
      refine LM.nil (QM.sub (e' := [(0, _), (1, _), (4, _), (7, _), (8, _), (10, _), (11, _), (12, _), (13, _), (97, _)]) ⟨rfl, rfl, rfl, rfl, rfl, rfl, rfl, rfl, rfl, rfl, trivial⟩ ?_)
      refine QM.meetK (_) ⟨au2, rfl, rfl, rfl, rfl, rfl, rfl, rfl, rfl, rfl, trivial⟩ au1 ?_
      · exfalso; omega
     refine LM.dr 93 rfl rfl rfl ?_
     refine LM.dr 93 rfl rfl rfl ?_
     refine LM.sp 90 rfl rfl rfl ?_
     refine LM.val (ov_pickF rfl rfl) ?_
     refine LM.val (ov_pickF rfl rfl) ?_
     refine LM.nil (QM.sub (e' := [(0, _), (1, _), (4, _), (7, _), (8, _), (10, _), (11, _), (12, _), (13, _), (97, _)]) ⟨rfl, rfl, rfl, rfl, rfl, rfl, rfl, rfl, rfl, rfl, trivial⟩ ?_)
     refine QM.meetK (_) ⟨au2, rfl, rfl, rfl, rfl, rfl, rfl, rfl, rfl, rfl, trivial⟩ au1 ?_
     · exact (decide_eq_false (fun q => by rcases q with ⟨_, q⟩ | ⟨q, _⟩; exact h13 q; omega)).symm
    refine LM.dr 86 rfl rfl rfl ?_
    refine LM.dr 86 rfl rfl rfl ?_
    refine LM.val (ov_pickF rfl rfl) ?_
    refine LM.mv rfl ?_
    refine LM.sp 90 rfl rfl rfl ?_
    refine LM.mv rfl ?_
    refine LM.sp 90 rfl rfl rfl ?_
    refine LM.val (ov_eql rfl rfl) ?_
    refine LM.sp 90 rfl rfl rfl ?_
    refine LM.mv rfl ?_
    refine LM.splitD (t := 93) rfl (fun h15 => ?_) (fun h15 => ?_)
    ·
     refine LM.sp 93 rfl rfl rfl ?_
     refine LM.mv rfl ?_
     refine LM.sp 93 rfl rfl rfl ?_
     refine LM.val (ov_neq rfl rfl) ?_
     refine LM.sp 90 rfl rfl rfl ?_
     refine LM.val (ov_pickT rfl rfl) ?_
     refine LM.val (ov_pickF rfl rfl) ?_
     refine LM.nil (QM.sub (e' := [(0, _), (1, _), (4, _), (7, _), (8, _), (10, _), (11, _), (12, _), (13, _), (97, _)]) ⟨rfl, rfl, rfl, rfl, rfl, rfl, rfl, rfl, rfl, rfl, trivial⟩ ?_)
     refine QM.meetK (_) ⟨au2, rfl, rfl, rfl, rfl, rfl, rfl, rfl, rfl, rfl, trivial⟩ au1 ?_
     · exact decide_eq_decide.2 ⟨fun q => .inr ⟨by omega, q⟩, fun q => by rcases q with ⟨q, _⟩ | ⟨_, q⟩; (exfalso; omega); exact q⟩
    refine LM.dr 93 rfl rfl rfl ?_
    refine LM.dr 93 rfl rfl rfl ?_
    refine LM.sp 90 rfl rfl rfl ?_
    refine LM.val (ov_pickF rfl rfl) ?_
    refine LM.val (ov_pickF rfl rfl) ?_
    refine LM.nil (QM.sub (e' := [(0, _), (1, _), (4, _), (7, _), (8, _), (10, _), (11, _), (12, _), (13, _), (97, _)]) ⟨rfl, rfl, rfl, rfl, rfl, rfl, rfl, rfl, rfl, rfl, trivial⟩ ?_)
    refine QM.meetK (_) ⟨au2, rfl, rfl, rfl, rfl, rfl, rfl, rfl, rfl, rfl, trivial⟩ au1 ?_
    · exact (decide_eq_false (fun q => by rcases q with ⟨q, _⟩ | ⟨q, _⟩ <;> omega)).symm
   rintro q hq
   change QM _ _ _ _ _ (mo ++ ((b10, .cells #[.int .i64 (kindR ws i), .int .i64 a, .int .i64 b] 135 (0, 0)) :: (b7, .cells #[.bool (headR ws i0).1, .slice ado no capo] 87 (0, 0)) :: (b4, .cells #[.bool false, .slice none 0 0] 87 (0, 0)) :: [])) _ _ _
   refine QM.then ?_
   first | refine wpM.condD rfl (fun h16 => ?_) (fun h16 => ?_) | refine wpM.condB rfl (fun h16 => ?_) (fun h16 => ?_)
   ·
    refine wpM.exit ?_
    refine QM.then_exit ?_
    refine QM.block_hit ?_
    refine QM.then (wpM.region ?_)
    refine LM.mv rfl ?_
    refine LM.val (ov_add64 rfl rfl (by omega)) ?_
    refine LM.as rfl ?_
    refine LM.nil (QM.sub (e' := [(0, _), (1, _), (4, _), (7, _), (8, _), (10, _), (11, _), (12, _), (13, _)]) ⟨rfl, rfl, rfl, rfl, rfl, rfl, rfl, rfl, rfl, trivial⟩ ?_)
    refine QM.againK ((k + 1, j, lo, hi, a, b)) ⟨au2, au2, au2, au2, rfl, rfl, rfl, rfl, rfl, trivial⟩ au1 (fun _ h => h) ?_ ?_
    · exact hN.skip (of_decide_eq_true (hq ▸ h16))
    · first | omega | (dsimp only; omega)
   have hnq : ¬ ((k = 0 ∧ lo < 0) ∨ (k = 1 ∧ kindR ws i ≠ 5)) := of_decide_eq_false (hq ▸ h16)
   refine wpM.skip ?_
   refine QM.then ?_
   refine wpM.seq ?_
   refine wpM.seq (wpM.region ?_)
   refine LM.mv rfl ?_
   refine LM.mv rfl ?_
   refine LM.val (ov_len Tryz.underlying23 rfl) ?_
   refine LM.val (ov_geq rfl rfl) ?_
   refine LM.mv rfl ?_
   refine LM.splitD (t := 102) rfl (fun h17 => ?_) (fun h17 => ?_)
   ·
    refine LM.dr 102 rfl rfl rfl ?_
    refine LM.dr 102 rfl rfl rfl ?_
    refine LM.dr 102 rfl rfl rfl ?_
    refine LM.dr 102 rfl rfl rfl ?_
    refine LM.dr 102 rfl rfl rfl ?_
    refine LM.dr 102 rfl rfl rfl ?_
    refine LM.val (ov_pickT rfl rfl) ?_
    refine LM.nil (QM.sub (e' := [(0, _), (1, _), (4, _), (7, _), (8, _), (10, _), (11, _), (12, _), (13, _), (109, _)]) ⟨rfl, rfl, rfl, rfl, rfl, rfl, rfl, rfl, rfl, rfl, trivial⟩ (QM.then ?_))
    refine wpM.condT rfl ?_
    refine wpM.seq (wpM.region ?_)
    refine LM.val (ov_build (cs := #[_, _]) rfl (by first | rfl | kernel_rfl)) ?_
    refine LM.mv rfl ?_
    refine LM.stW Tryz.sizeOf87 rfl rfl rfl rfl au7 au8 ?_
    refine LM.as rfl ?_
    refine LM.as rfl ?_
    refine LM.nil (QM.sub (e' := [(4, _), (5, _), (6, _)]) ⟨rfl, rfl, rfl, trivial⟩ (QM.then ?_))
    refine wpM.ret ?_
    refine QM.then_ret ?_
    refine QM.block_ret ?_
    refine QM.then_ret ?_
    refine QM.then_ret ?_
    refine QM.block_ret ?_
    refine QM.then_ret ?_
    refine QM.block_ret ?_
    refine QM.then_ret ?_
    refine QM.block_ret ?_
    refine QM.then_ret ?_
    refine QM.leaveCs (ds := ([])) (.inl rfl) [.cell 4 87, .tmp 5, .tmp 6] Tryz.results45 hd_nil (rc_w rfl Tryz.isAgg87 Tryz.sizeOf87 rfl (rc_tmp rfl (rc_tmp rfl rc_nil))) ?_
    intro w' hm' hc'
    exact ⟨hc', [], fin_bad hi0 (bad_of hL hn0 (hN.bad (e := 5) (by omega) hk0 hah hnq (by decide) (.inl ⟨rfl, .inl (by omega)⟩)) (by decide)) (by decide), Mem.nil _, fun p hp => by cases hp⟩
   refine LM.sp 102 rfl rfl rfl ?_
   refine LM.mv rfl ?_
   refine LM.sp 102 rfl rfl rfl ?_
   refine LM.mv rfl ?_
   refine LM.sp 102 rfl rfl rfl ?_
   refine LM.val (ov_idxSN au6 Tryz.underlying23 Tryz.sizeOf65 rfl rfl (by omega)) ?_
   refine LM.sp 102 rfl rfl rfl ?_
   refine LM.val (ov_field Tryz.underlying65 rfl Tryz.sizeOf3 rfl (k := 0) rfl rfl) ?_
   refine LM.sp 102 rfl rfl rfl ?_
   first | refine LM.rd (om_slE (j := 0) (by assumption) (by intro _; rfl) Tryz.isAgg3 rfl rfl au3 rfl (by rfl)) ?_ | refine LM.rdC (om_srE (j := 0) (by assumption) Tryz.isAgg3 rfl rfl au3 (by rfl) (by rfl) id) ?_ | refine LM.rd (om_ld Tryz.isAgg3 rfl rfl) ?_
   refine LM.sp 102 rfl rfl rfl ?_
   refine LM.val (ov_neq rfl rfl) ?_
   refine LM.val (ov_pickF rfl rfl) ?_
   refine LM.nil (QM.sub (e' := [(0, _), (1, _), (4, _), (7, _), (8, _), (10, _), (11, _), (12, _), (13, _), (109, _)]) ⟨rfl, rfl, rfl, rfl, rfl, rfl, rfl, rfl, rfl, rfl, trivial⟩ (QM.then ?_))
   refine wpM.condD rfl (fun h18 => ?_) (fun h18 => ?_)
   ·
    refine wpM.seq (wpM.region ?_)
    refine LM.val (ov_build (cs := #[_, _]) rfl (by first | rfl | kernel_rfl)) ?_
    refine LM.mv rfl ?_
    refine LM.stW Tryz.sizeOf87 rfl rfl rfl rfl au7 au8 ?_
    refine LM.as rfl ?_
    refine LM.as rfl ?_
    refine LM.nil (QM.sub (e' := [(4, _), (5, _), (6, _)]) ⟨rfl, rfl, rfl, trivial⟩ (QM.then ?_))
    refine wpM.ret ?_
    refine QM.then_ret ?_
    refine QM.block_ret ?_
    refine QM.then_ret ?_
    refine QM.then_ret ?_
    refine QM.block_ret ?_
    refine QM.then_ret ?_
    refine QM.block_ret ?_
    refine QM.then_ret ?_
    refine QM.block_ret ?_
    refine QM.then_ret ?_
    refine QM.leaveCs (ds := ([])) (.inl rfl) [.cell 4 87, .tmp 5, .tmp 6] Tryz.results45 hd_nil (rc_w rfl Tryz.isAgg87 Tryz.sizeOf87 rfl (rc_tmp rfl (rc_tmp rfl rc_nil))) ?_
    intro w' hm' hc'
    exact ⟨hc', [], fin_bad hi0 (bad_of hL hn0 (hN.bad (e := 5) (by omega) hk0 hah hnq (by decide) (.inl ⟨rfl, .inr h18⟩)) (by decide)) (by decide), Mem.nil _, fun p hp => by cases hp⟩
   refine wpM.skip ?_
   refine QM.then (wpM.seq (wpM.region ?_))
   refine LM.mv rfl ?_
   refine LM.mv rfl ?_
   refine LM.val (ov_idxSN au6 Tryz.underlying23 Tryz.sizeOf65 rfl rfl (by omega)) ?_
   refine LM.val (ov_field Tryz.underlying65 rfl Tryz.sizeOf3 rfl (k := 2) rfl rfl) ?_
   first | refine LM.rd (om_slE (j := 2) (by assumption) (by intro _; rfl) Tryz.isAgg3 rfl rfl au3 rfl (by rfl)) ?_ | refine LM.rdC (om_srE (j := 2) (by assumption) Tryz.isAgg3 rfl rfl au3 (by rfl) (by rfl) id) ?_ | refine LM.rd (om_ld Tryz.isAgg3 rfl rfl) ?_
   refine LM.as rfl ?_
   refine LM.nil (QM.sub (e' := [(0, _), (1, _), (4, _), (7, _), (8, _), (10, _), (11, _), (12, _), (13, _), (14, _)]) ⟨rfl, rfl, rfl, rfl, rfl, rfl, rfl, rfl, rfl, rfl, trivial⟩ (QM.then ?_))
   refine wpM.seq ?_
   refine wpM.seq (wpM.region ?_)
   refine LM.mv rfl ?_
   refine LM.val (ov_eql rfl rfl) ?_
   refine LM.nil (QM.sub (e' := [(0, _), (1, _), (4, _), (7, _), (8, _), (10, _), (11, _), (12, _), (13, _), (14, _), (118, _)]) ⟨rfl, rfl, rfl, rfl, rfl, rfl, rfl, rfl, rfl, rfl, rfl, trivial⟩ (QM.then ?_))
   refine wpM.condD rfl (fun h19 => ?_) (fun h19 => ?_)
   ·
    refine wpM.seq (wpM.region ?_)
    refine LM.as rfl ?_
    refine LM.nil (QM.sub (e' := [(0, _), (1, _), (4, _), (7, _), (8, _), (10, _), (11, _), (13, _), (14, _)]) ⟨rfl, rfl, rfl, rfl, rfl, rfl, rfl, rfl, rfl, trivial⟩ (QM.then (wpM.seq (wpM.region ?_))))
    refine LM.as rfl ?_
    refine LM.nil (QM.sub (e' := [(0, _), (1, _), (4, _), (7, _), (8, _), (10, _), (11, _), (12, _), (13, _), (14, _)]) ⟨rfl, rfl, rfl, rfl, rfl, rfl, rfl, rfl, rfl, rfl, trivial⟩ (QM.then (wpM.region ?_)))
    refine LM.mv rfl ?_
    refine LM.val (ov_field Tryz.underlying135 rfl Tryz.sizeOf3 rfl (k := 2) rfl rfl) ?_
    refine LM.st Tryz.sizeOf3 rfl rfl rfl au5 rfl au8 ?_
    refine LM.nil (QM.sub (e' := [(0, _), (1, _), (4, _), (7, _), (8, _), (10, _), (11, _), (12, _), (13, _), (14, _)]) ⟨rfl, rfl, rfl, rfl, rfl, rfl, rfl, rfl, rfl, rfl, trivial⟩ (QM.then ?_))
    refine wpM.seq ?_
    refine wpM.seq (wpM.region ?_)
    refine LM.mv rfl ?_
    refine LM.mv rfl ?_
    refine LM.val (ov_lss rfl rfl) ?_
    refine LM.mv rfl ?_
    refine LM.splitD (t := 126) rfl (fun h20 => ?_) (fun h20 => ?_)
    ·
     refine LM.dr 126 rfl rfl rfl ?_
     refine LM.dr 126 rfl rfl rfl ?_
     refine LM.dr 126 rfl rfl rfl ?_
     refine LM.val (ov_pickT rfl rfl) ?_
     refine LM.nil (QM.sub (e' := [(0, _), (1, _), (4, _), (7, _), (8, _), (10, _), (11, _), (12, _), (13, _), (130, _)]) ⟨rfl, rfl, rfl, rfl, rfl, rfl, rfl, rfl, rfl, rfl, trivial⟩ (QM.then ?_))
     refine wpM.condT rfl ?_
     refine wpM.seq (wpM.region ?_)
     refine LM.val (ov_build (cs := #[_, _]) rfl (by first | rfl | kernel_rfl)) ?_
     refine LM.mv rfl ?_
     refine LM.stW Tryz.sizeOf87 rfl rfl rfl rfl au7 au8 ?_
     refine LM.as rfl ?_
     refine LM.as rfl ?_
     refine LM.nil (QM.sub (e' := [(4, _), (5, _), (6, _)]) ⟨rfl, rfl, rfl, trivial⟩ (QM.then ?_))
     refine wpM.ret ?_
     refine QM.then_ret ?_
     refine QM.block_ret ?_
     refine QM.then_ret ?_
     refine QM.then_ret ?_
     refine QM.block_ret ?_
     refine QM.then_ret ?_
     refine QM.block_ret ?_
     refine QM.then_ret ?_
     refine QM.block_ret ?_
     refine QM.then_ret ?_
     refine QM.leaveCs (ds := ([])) (.inl rfl) [.cell 4 87, .tmp 5, .tmp 6] Tryz.results45 hd_nil (rc_w rfl Tryz.isAgg87 Tryz.sizeOf87 rfl (rc_tmp rfl (rc_tmp rfl rc_nil))) ?_
     intro w' hm' hc'
     exact ⟨hc', [], fin_bad hi0 (bad_of hL hn0 (hN.bad (e := 1) (by omega) hk0 hah hnq (by decide) (.inr ⟨rfl, by omega, Classical.not_not.1 h18, .inr ⟨by omega, .inl h20⟩⟩)) (by decide)) (by decide), Mem.nil _, fun p hp => by cases hp⟩
    refine LM.sp 126 rfl rfl rfl ?_
    refine LM.mv rfl ?_
    refine LM.sp 126 rfl rfl rfl ?_
    refine LM.mv rfl ?_
    refine LM.sp 126 rfl rfl rfl ?_
    refine LM.val (ov_gtr rfl rfl) ?_
    refine LM.val (ov_pickF rfl rfl) ?_
    refine LM.nil (QM.sub (e' := [(0, _), (1, _), (4, _), (7, _), (8, _), (10, _), (11, _), (12, _), (13, _), (130, _)]) ⟨rfl, rfl, rfl, rfl, rfl, rfl, rfl, rfl, rfl, rfl, trivial⟩ (QM.then ?_))
    refine wpM.condD rfl (fun h21 => ?_) (fun h21 => ?_)
    ·
     refine wpM.seq (wpM.region ?_)
     refine LM.val (ov_build (cs := #[_, _]) rfl (by first | rfl | kernel_rfl)) ?_
     refine LM.mv rfl ?_
     refine LM.stW Tryz.sizeOf87 rfl rfl rfl rfl au7 au8 ?_
     refine LM.as rfl ?_
     refine LM.as rfl ?_
     refine LM.nil (QM.sub (e' := [(4, _), (5, _), (6, _)]) ⟨rfl, rfl, rfl, trivial⟩ (QM.then ?_))
     refine wpM.ret ?_
     refine QM.then_ret ?_
     refine QM.block_ret ?_
     refine QM.then_ret ?_
     refine QM.then_ret ?_
     refine QM.block_ret ?_
     refine QM.then_ret ?_
     refine QM.block_ret ?_
     refine QM.then_ret ?_
     refine QM.block_ret ?_
     refine QM.then_ret ?_
     refine QM.leaveCs (ds := ([])) (.inl rfl) [.cell 4 87, .tmp 5, .tmp 6] Tryz.results45 hd_nil (rc_w rfl Tryz.isAgg87 Tryz.sizeOf87 rfl (rc_tmp rfl (rc_tmp rfl rc_nil))) ?_
     intro w' hm' hc'
     exact ⟨hc', [], fin_bad hi0 (bad_of hL hn0 (hN.bad (e := 1) (by omega) hk0 hah hnq (by decide) (.inr ⟨rfl, by omega, Classical.not_not.1 h18, .inr ⟨by omega, .inr (by omega)⟩⟩)) (by decide)) (by decide), Mem.nil _, fun p hp => by cases hp⟩
    refine wpM.skip ?_
    refine QM.then (wpM.region ?_)
    refine LM.mv rfl ?_
    refine LM.val (ov_add64 rfl rfl (by omega)) ?_
    refine LM.as rfl ?_
    refine LM.nil (QM.sub (e' := [(0, _), (1, _), (4, _), (7, _), (8, _), (10, _), (11, _), (12, _), (13, _)]) ⟨rfl, rfl, rfl, rfl, rfl, rfl, rfl, rfl, rfl, trivial⟩ ?_)
    refine QM.block_normal ?_
    refine QM.then (wpM.region ?_)
    refine LM.mv rfl ?_
    refine LM.val (ov_add64 rfl rfl (by omega)) ?_
    refine LM.as rfl ?_
    refine LM.nil (QM.sub (e' := [(0, _), (1, _), (4, _), (7, _), (8, _), (10, _), (11, _), (12, _), (13, _)]) ⟨rfl, rfl, rfl, rfl, rfl, rfl, rfl, rfl, rfl, trivial⟩ ?_)
    obtain rfl : k = 1 := (by omega)
    refine QM.againK ((2, j + 1, 1, 64, a, (ws.getD j default).n)) ⟨au2, au2, au2, au2, rfl, rfl, rfl, rfl, rfl, trivial⟩ au1 (fun _ h => h) ?_ ?_
    · exact hN.take1 (Classical.byContradiction fun q => hnq (.inr ⟨rfl, q⟩)) (by omega) (Classical.not_not.1 h18) ⟨by omega, by omega⟩
    · first | omega | (dsimp only; omega)
   refine wpM.region ?_
   refine LM.mv rfl ?_
   refine LM.val (ov_field Tryz.underlying135 rfl Tryz.sizeOf3 rfl (k := 1) rfl rfl) ?_
   refine LM.st Tryz.sizeOf3 rfl rfl rfl au5 rfl au8 ?_
   refine LM.nil (QM.sub (e' := [(0, _), (1, _), (4, _), (7, _), (8, _), (10, _), (11, _), (12, _), (13, _), (14, _)]) ⟨rfl, rfl, rfl, rfl, rfl, rfl, rfl, rfl, rfl, rfl, trivial⟩ (QM.then ?_))
   refine wpM.seq ?_
   refine wpM.seq (wpM.region ?_)
   refine LM.mv rfl ?_
   refine LM.mv rfl ?_
   refine LM.val (ov_lss rfl rfl) ?_
   refine LM.mv rfl ?_
   refine LM.splitD (t := 126) rfl (fun h22 => ?_) (fun h22 => ?_)
   ·
    refine LM.dr 126 rfl rfl rfl ?_
    refine LM.dr 126 rfl rfl rfl ?_
    refine LM.dr 126 rfl rfl rfl ?_
    refine LM.val (ov_pickT rfl rfl) ?_
    refine LM.nil (QM.sub (e' := [(0, _), (1, _), (4, _), (7, _), (8, _), (10, _), (11, _), (12, _), (13, _), (130, _)]) ⟨rfl, rfl, rfl, rfl, rfl, rfl, rfl, rfl, rfl, rfl, trivial⟩ (QM.then ?_))
    refine wpM.condT rfl ?_
    refine wpM.seq (wpM.region ?_)
    refine LM.val (ov_build (cs := #[_, _]) rfl (by first | rfl | kernel_rfl)) ?_
    refine LM.mv rfl ?_
    refine LM.stW Tryz.sizeOf87 rfl rfl rfl rfl au7 au8 ?_
    refine LM.as rfl ?_
    refine LM.as rfl ?_
    refine LM.nil (QM.sub (e' := [(4, _), (5, _), (6, _)]) ⟨rfl, rfl, rfl, trivial⟩ (QM.then ?_))
    refine wpM.ret ?_
    refine QM.then_ret ?_
    refine QM.block_ret ?_
    refine QM.then_ret ?_
    refine QM.then_ret ?_
    refine QM.block_ret ?_
    refine QM.then_ret ?_
    refine QM.block_ret ?_
    refine QM.then_ret ?_
    refine QM.block_ret ?_
    refine QM.then_ret ?_
    refine QM.leaveCs (ds := ([])) (.inl rfl) [.cell 4 87, .tmp 5, .tmp 6] Tryz.results45 hd_nil (rc_w rfl Tryz.isAgg87 Tryz.sizeOf87 rfl (rc_tmp rfl (rc_tmp rfl rc_nil))) ?_
    intro w' hm' hc'
    exact ⟨hc', [], fin_bad hi0 (bad_of hL hn0 (hN.bad (e := 1) (by omega) hk0 hah hnq (by decide) (.inr ⟨rfl, by omega, Classical.not_not.1 h18, .inl ⟨by omega, .inl h22⟩⟩)) (by decide)) (by decide), Mem.nil _, fun p hp => by cases hp⟩
   refine LM.sp 126 rfl rfl rfl ?_
   refine LM.mv rfl ?_
   refine LM.sp 126 rfl rfl rfl ?_
   refine LM.mv rfl ?_
   refine LM.sp 126 rfl rfl rfl ?_
   refine LM.val (ov_gtr rfl rfl) ?_
   refine LM.val (ov_pickF rfl rfl) ?_
   refine LM.nil (QM.sub (e' := [(0, _), (1, _), (4, _), (7, _), (8, _), (10, _), (11, _), (12, _), (13, _), (130, _)]) ⟨rfl, rfl, rfl, rfl, rfl, rfl, rfl, rfl, rfl, rfl, trivial⟩ (QM.then ?_))
   refine wpM.condD rfl (fun h23 => ?_) (fun h23 => ?_)
   ·
    refine wpM.seq (wpM.region ?_)
    refine LM.val (ov_build (cs := #[_, _]) rfl (by first | rfl | kernel_rfl)) ?_
    refine LM.mv rfl ?_
    refine LM.stW Tryz.sizeOf87 rfl rfl rfl rfl au7 au8 ?_
    refine LM.as rfl ?_
    refine LM.as rfl ?_
    refine LM.nil (QM.sub (e' := [(4, _), (5, _), (6, _)]) ⟨rfl, rfl, rfl, trivial⟩ (QM.then ?_))
    refine wpM.ret ?_
    refine QM.then_ret ?_
    refine QM.block_ret ?_
    refine QM.then_ret ?_
    refine QM.then_ret ?_
    refine QM.block_ret ?_
    refine QM.then_ret ?_
    refine QM.block_ret ?_
    refine QM.then_ret ?_
    refine QM.block_ret ?_
    refine QM.then_ret ?_
    refine QM.leaveCs (ds := ([])) (.inl rfl) [.cell 4 87, .tmp 5, .tmp 6] Tryz.results45 hd_nil (rc_w rfl Tryz.isAgg87 Tryz.sizeOf87 rfl (rc_tmp rfl (rc_tmp rfl rc_nil))) ?_
    intro w' hm' hc'
    exact ⟨hc', [], fin_bad hi0 (bad_of hL hn0 (hN.bad (e := 1) (by omega) hk0 hah hnq (by decide) (.inr ⟨rfl, by omega, Classical.not_not.1 h18, .inl ⟨by omega, .inr (by omega)⟩⟩)) (by decide)) (by decide), Mem.nil _, fun p hp => by cases hp⟩
   refine wpM.skip ?_
   refine QM.then (wpM.region ?_)
   refine LM.mv rfl ?_
   refine LM.val (ov_add64 rfl rfl (by omega)) ?_
   refine LM.as rfl ?_
   refine LM.nil (QM.sub (e' := [(0, _), (1, _), (4, _), (7, _), (8, _), (10, _), (11, _), (12, _), (13, _)]) ⟨rfl, rfl, rfl, rfl, rfl, rfl, rfl, rfl, rfl, trivial⟩ ?_)
   refine QM.block_normal ?_
   refine QM.then (wpM.region ?_)
   refine LM.mv rfl ?_
   refine LM.val (ov_add64 rfl rfl (by omega)) ?_
   refine LM.as rfl ?_
   refine LM.nil (QM.sub (e' := [(0, _), (1, _), (4, _), (7, _), (8, _), (10, _), (11, _), (12, _), (13, _)]) ⟨rfl, rfl, rfl, rfl, rfl, rfl, rfl, rfl, rfl, trivial⟩ ?_)
   obtain rfl : k = 0 := (by omega)
   refine QM.againK ((1, j + 1, lo, hi, (ws.getD j default).n, b)) ⟨au2, au2, au2, au2, rfl, rfl, rfl, rfl, rfl, trivial⟩ au1 (fun _ h => h) ?_ ?_
   · exact hN.take0 (fun q => hnq (.inl ⟨rfl, q⟩)) (by omega) (Classical.not_not.1 h18) ⟨by omega, by omega⟩
   · first | omega | (dsimp only; omega)
  refine wpM.exit ?_
  refine QM.then_exit ?_
  refine QM.then_exit ?_
  refine QM.block_hit ?_
  refine QM.then ?_
  refine wpM.seq ?_
  refine wpM.seq (wpM.region ?_)
  refine LM.mv rfl ?_
  refine LM.mv rfl ?_
  refine LM.callE (oc_call (enters_fn Tryz.func87 (by kernel_rfl) rfl) rfl) (fun w hm hc hg => ris_spec j 3 [59] w hn (hl.ext hc)) ?_
  first | refine LM.val (ov_notD rfl) ?_ | refine LM.val (ov_not rfl) ?_
  refine LM.nil (QM.sub (e' := [(0, _), (1, _), (4, _), (7, _), (10, _), (138, _)]) ⟨rfl, rfl, rfl, rfl, rfl, rfl, trivial⟩ (QM.then ?_))
  first | refine wpM.condD rfl (fun h24 => ?_) (fun h24 => ?_) | refine wpM.condB rfl (fun h24 => ?_) (fun h24 => ?_)
  ·
   refine wpM.seq (wpM.region ?_)
   refine LM.val (ov_build (cs := #[_, _]) rfl (by first | rfl | kernel_rfl)) ?_
   refine LM.mv rfl ?_
   refine LM.stW Tryz.sizeOf87 rfl rfl rfl rfl au7 au8 ?_
   refine LM.as rfl ?_
   refine LM.as rfl ?_
   refine LM.nil (QM.sub (e' := [(4, _), (5, _), (6, _)]) ⟨rfl, rfl, rfl, trivial⟩ (QM.then ?_))
   refine wpM.ret ?_
   refine QM.then_ret ?_
   refine QM.block_ret ?_
   refine QM.then_ret ?_
   refine QM.block_ret ?_
   refine QM.then_ret ?_
   refine QM.leaveCs (ds := ([])) (.inl rfl) [.cell 4 87, .tmp 5, .tmp 6] Tryz.results45 hd_nil (rc_w rfl Tryz.isAgg87 Tryz.sizeOf87 rfl (rc_tmp rfl (rc_tmp rfl rc_nil))) ?_
   intro w' hm' hc'
   have hA := hN.2.2.2.2 (by omega); exact ⟨hc', [], fin_bad hi0 (bad_of hL hn0 (opR_sb hk0 hah hA.2 (by simpa using h24)) (by decide)) (by decide), Mem.nil _, fun p hp => by cases hp⟩
  refine wpM.skip ?_
  refine QM.then (wpM.seq (wpM.region ?_))
  refine LM.mv rfl ?_
  refine LM.val (ov_add64 rfl rfl (by omega)) ?_
  refine LM.as rfl ?_
  refine LM.nil (QM.sub (e' := [(0, _), (1, _), (4, _), (7, _), (10, _)]) ⟨rfl, rfl, rfl, rfl, rfl, trivial⟩ (QM.then (wpM.region ?_)))
  refine LM.val (ov_field Tryz.underlying87 rfl Tryz.sizeOf85 rfl (k := 1) rfl rfl) ?_
  refine LM.rd (om_ld Tryz.isAgg85 rfl rfl) ?_
  refine LM.rd (om_ldW Tryz.isAgg135 Tryz.sizeOf135 rfl rfl) ?_
  refine LM.single Tryz.underlying85 Tryz.sizeOf135 Tryz.zeroValue135 rfl rfl rfl rfl rfl (fun b146 hb146 => ?_)
  refine LM.app (a := COp.mk (kindR ws i) a b) Tryz.underlying85 Tryz.typeInfo135 rfl rfl rfl rfl rfl rfl rfl (by assumption) (by rfl) (by intro _; rfl) (by intro _ u hu; simp [fO] at hu; (repeat (first | (rcases hu with rfl | hu) | subst hu | rfl))) (by first | exact Nat.le_refl _ | omega) au9 (by first | omega | (unfold maxLen; omega)) (by simp only [Tryz.t135]; omega) (fun ad147 n147 cap147 m147 hn147 hs147 hin147 => ?_)
  refine LM.val (ov_field Tryz.underlying87 rfl Tryz.sizeOf85 rfl (k := 1) rfl rfl) ?_
  refine LM.st Tryz.sizeOf85 rfl rfl rfl au5 rfl au8 ?_
  refine LM.nil (QM.sub (e' := [(0, _), (1, _), (4, _), (7, _)]) ⟨rfl, rfl, rfl, rfl, trivial⟩ ?_)
  refine QM.block_normal ?_
  have hA := hN.2.2.2.2 (by omega); have hok := opR_ok hk0 hah hA.1 hA.2 (show isR ws j 3 [59] = true by simpa using h24); have hlt := opR_lt (ws := ws) (i := i) (ahead := ops.length) (by rw [hok]); rw [hok] at hlt; have hlt : i < j + 1 ∧ j + 1 ≤ ws.length := hlt
  refine QM.againK ((j + 1, ops ++ [⟨kindR ws i, a, b⟩], ad147, n147, cap147, m147)) ⟨au2, rfl, rfl, rfl, trivial⟩ au1 (fun _ h => h) ?_ ?_
  · exact ⟨by rw [← hL, loopR_next hn0 (by rw [hok]), hok], hlt.2, by rw [hn147]; simp, hs147, by simp; omega⟩
  · first | omega | (dsimp only; omega)
 refine wpM.exit ?_
 refine QM.then_exit ?_
 refine QM.then_exit ?_
 refine QM.block_hit ?_
 refine QM.then ?_
 refine wpM.seq ?_
 refine wpM.seq (wpM.region ?_)
 refine LM.val (ov_field Tryz.underlying87 rfl Tryz.sizeOf85 rfl (k := 1) rfl rfl) ?_
 refine LM.rd (om_ld Tryz.isAgg85 rfl rfl) ?_
 refine LM.val (ov_len Tryz.underlying85 rfl) ?_
 refine LM.val (ov_eql rfl rfl) ?_
 refine LM.nil (QM.sub (e' := [(1, _), (4, _), (7, _), (152, _)]) ⟨rfl, rfl, rfl, rfl, trivial⟩ (QM.then ?_))
 refine wpM.condD rfl (fun h25 => ?_) (fun h25 => ?_)
 ·
  refine wpM.seq (wpM.region ?_)
  refine LM.val (ov_build (cs := #[_, _]) rfl (by first | rfl | kernel_rfl)) ?_
  refine LM.mv rfl ?_
  refine LM.stW Tryz.sizeOf87 rfl rfl rfl rfl au7 au8 ?_
  refine LM.as rfl ?_
  refine LM.as rfl ?_
  refine LM.nil (QM.sub (e' := [(4, _), (5, _), (6, _)]) ⟨rfl, rfl, rfl, trivial⟩ (QM.then ?_))
  refine wpM.ret ?_
  refine QM.then_ret ?_
  refine QM.leaveCs (ds := ([])) (.inl rfl) [.cell 4 87, .tmp 5, .tmp 6] Tryz.results45 hd_nil (rc_w rfl Tryz.isAgg87 Tryz.sizeOf87 rfl (rc_tmp rfl (rc_tmp rfl rc_nil))) ?_
  intro w' hm' hc'
  have hn1 : isR ws i 3 [125] = true := (by simpa using h6); have hb := hL; rw [loopR_done hn1, if_pos (by omega)] at hb; exact ⟨hc', [], fin_bad hi0 hb.symm (by decide), Mem.nil _, fun p hp => by cases hp⟩
 refine wpM.skip ?_
 refine QM.then (wpM.seq (wpM.region ?_))
 refine LM.rd (om_ldW Tryz.isAgg87 Tryz.sizeOf87 rfl rfl) ?_
 refine LM.mv rfl ?_
 refine LM.val (ov_add64 rfl rfl (by omega)) ?_
 refine LM.stW Tryz.sizeOf87 rfl rfl rfl rfl au7 au8 ?_
 refine LM.as rfl ?_
 refine LM.as rfl ?_
 refine LM.nil (QM.sub (e' := [(4, _), (5, _), (6, _)]) ⟨rfl, rfl, rfl, trivial⟩ (QM.then ?_))
 refine wpM.ret ?_
 refine QM.leaveCs (ds := ([])) (.inl rfl) [.cell 4 87, .tmp 5, .tmp 6] Tryz.results45 hd_nil (rc_w rfl Tryz.isAgg87 Tryz.sizeOf87 rfl (rc_tmp rfl (rc_tmp rfl rc_nil))) ?_
 intro w' hm' hc'
 have hn1 : isR ws i 3 [125] = true := (by simpa using h6); have hb := hL; rw [loopR_done hn1, if_neg (by omega)] at hb; exact ⟨hc', mo, fin_ok2 hi0 hb.symm hno hso, hm'.pick mo, fun p hp => Sl.ge hso p hp⟩
end Go.Eng
