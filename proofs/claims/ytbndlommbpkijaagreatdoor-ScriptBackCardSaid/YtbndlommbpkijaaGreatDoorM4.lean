/- The walks of critical sections, and of ops that fit. No condition. -/
import Derived.Test.YtbndlommbpkijaaGreatDoorM3
import Derived.Test.YtbndlommbpkijaaGreatDoorM2
set_option linter.unusedVariables false
set_option linter.unusedSimpArgs false
namespace Go.Eng
open Go Go.Proofs Go.RowKit
theorem smallO.drop {xs : List COp} (h : smallO xs) (k : Nat) : smallO (xs.drop k) := ⟨by rw [List.length_drop]; have := h.1; omega, fun o ho => h.2 o (List.mem_of_mem_drop ho)⟩
theorem getD_drop {xs : List COp} {i j : Nat} : (xs.drop i).getD j default = xs.getD (i + j) default := by rw [List.getD_eq_getElem?_getD, List.getElem?_drop, ← List.getD_eq_getElem?_getD]
abbrev sV (i to lock ticks : Int) : Value := .agg #[.int .i64 i, .int .i64 to, .int .i64 lock, .int .i64 ticks]
abbrev sBc (b : Nat) (i to lock ticks : Int) : Nat × Obj := (b, .cells #[.int .i64 i, .int .i64 to, .int .i64 lock, .int .i64 ticks] 140 (0, 0))
abbrev oB (b : Nat) (o : COp) : Nat × Obj := (b, .cells (fO o).toArray 135 (0, 0))
theorem stop_no {lock : Int} {o : COp} (h1 : ¬ o.k = 11) (h2 : ¬ (o.k = 6 ∧ o.a = lock)) : stopB lock o = false := by
  unfold stopB; rw [decide_eq_false h1]
  by_cases h : o.k = 6
  · rw [decide_eq_false (fun q => h2 ⟨h, q⟩)]; simp
  · rw [decide_eq_false h]; rfl
theorem stop_11 {lock : Int} {o : COp} (h1 : o.k = 11) : stopB lock o = true := by unfold stopB; rw [decide_eq_true h1]; rfl
theorem stop_6 {lock : Int} {o : COp} (h1 : o.k = 6) (h2 : o.a = lock) : stopB lock o = true := by unfold stopB; rw [decide_eq_true h1, decide_eq_true h2]; simp
def SecI (lock : Int) (ys : List COp) (j : Nat) (acc : Int) : Prop :=
  j ≤ ys.length ∧ (secT lock ys).1 = j + (secT lock (ys.drop j)).1 ∧ (secT lock ys).2 = acc + (secT lock (ys.drop j)).2 ∧ -((j : Int) * 1125899906842624) ≤ acc ∧ acc ≤ (j : Int) * 1125899906842624
theorem SecI.zero (lock : Int) (ys : List COp) : SecI lock ys 0 0 := ⟨Nat.zero_le _, by simp, by simp, by simp, by simp⟩
theorem SecI.step {lock : Int} {ys : List COp} {j : Nat} {acc acc' : Int} (h : SecI lock ys j acc) (hs : smallO ys) (hj : j < ys.length) (hn : stopB lock (ys.getD j default) = false) (ha : acc' = acc + if (ys.getD j default).k = 1 then (ys.getD j default).a else 0) : SecI lock ys (j + 1) acc' := by
  obtain ⟨h1, h2, h3, h4, h5⟩ := h
  have e := sec_step hj hn
  have hb := hs.at j
  rw [e] at h2 h3
  dsimp only at h2 h3
  have : ((j + 1 : Nat) : Int) * 1125899906842624 = (j : Int) * 1125899906842624 + 1125899906842624 := by push_cast; omega
  refine ⟨by omega, by omega, by rw [ha]; omega, ?_, ?_⟩ <;> rw [this, ha] <;> split <;> omega
theorem SecI.stop {lock : Int} {ys : List COp} {j : Nat} {acc : Int} (h : SecI lock ys j acc) (hj : j < ys.length) (hn : stopB lock (ys.getD j default) = true) : secT lock ys = (j, acc) := by
  obtain ⟨h1, h2, h3, h4, h5⟩ := h
  rw [sec_stop hj hn] at h2 h3
  exact Prod.ext (by simpa using h2) (by simpa using h3)
theorem SecI.fin {lock : Int} {ys : List COp} {j : Nat} {acc : Int} (h : SecI lock ys j acc) (hj : ys.length ≤ j) : secT lock ys = (ys.length, acc) := by
  obtain ⟨h1, h2, h3, h4, h5⟩ := h
  rw [sec_end hj] at h2 h3
  exact Prod.ext (by dsimp only at h2 ⊢; omega) (by simpa using h3)
set_option maxRecDepth 100000 in
theorem section_spec {xs : List COp} {fv : Bool} {ad : Option Addr} {n cap : Nat} (i : Nat) (w : World) (hn : n = xs.length) (hl : Sr fO 3 xs (.slice ad n cap) w) (hs : smallO xs) (hi : i < xs.length) : Ret Tryz.prog 152 #[pV fv ad n cap, .int .i64 (i : Nat)] w (fun v w' => v = secV xs i ∧ Ext w w') := by
 have hx20 := hs.1; have hld := hl.drop (l := i + 1) (by omega); have hsy := hs.drop (i + 1); obtain ⟨ys, hys⟩ : ∃ ys, xs.drop (i + 1) = ys := ⟨_, rfl⟩; have hyl : ys.length = xs.length - (i + 1) := (by rw [← hys, List.length_drop]); have hsec : secO xs i = secT (xs.getD i default).a ys := (by unfold secO; rw [hys]); rw [hys] at hld hsy; simp only [secV, hsec]
 refine Ret.enterM (l := [pV fv ad n cap, .int .i64 (i : Nat)]) Tryz.func152 rfl Tryz.ntmps152 rfl ([]) (no) (Mem.nil w) ?_
 refine wpM.seq (wpM.region ?_)
 refine LM.box rfl rfl (fun b2 hb2 => ?_)
 refine LM.alloc Tryz.zeroValue140 rfl (fun b4 hb4 => ?_)
 refine LM.nil (QM.sub (e' := [(1, _), (2, _), (4, _)]) au9 (QM.then ?_))
 refine wpM.seq ?_
 refine wpM.draw [(0, 0), (1, 0), (2, 1), (3, 0), (4, 0), (5, 1), (6, 0), (7, 0), (8, 0), (9, 1), (10, 0), (11, 2), (12, 3)] (by kernel_rfl) (by kernel_rfl) ?_
 refine LD.val rfl rfl (ov_move rfl) ?_
 refine LD.val rfl rfl (ov_field Tryz.underlying87 rfl Tryz.sizeOf85 rfl (k := 1) rfl rfl) ?_
 refine LD.rd rfl rfl (om_ld Tryz.isAgg85 rfl rfl) ?_
 refine LD.val rfl rfl (ov_len Tryz.underlying85 rfl) ?_
 refine LD.val rfl rfl (ov_field Tryz.underlying87 rfl Tryz.sizeOf85 rfl (k := 1) rfl rfl) ?_
 refine LD.rd rfl rfl (om_ld Tryz.isAgg85 rfl rfl) ?_
 refine LD.val rfl rfl (ov_move rfl) ?_
 refine LD.val rfl rfl (ov_idxSN au6 Tryz.underlying85 Tryz.sizeOf135 rfl rfl (by omega)) ?_
 refine LD.val rfl rfl (ov_field Tryz.underlying135 rfl Tryz.sizeOf3 rfl (k := 1) rfl rfl) ?_
 first | refine LD.rd rfl rfl (om_slE (j := 1) (by assumption) (by intro _; rfl) Tryz.isAgg3 rfl rfl au3 rfl (by rfl)) ?_ | refine LD.rdC rfl rfl (om_srE (j := 1) (by assumption) Tryz.isAgg3 rfl rfl au3 (by rfl) (by rfl) id) ?_ | refine LD.rd rfl rfl (om_ld Tryz.isAgg3 rfl rfl) ?_
 refine LD.val rfl rfl (ov_build (cs := #[_, _, _, _]) rfl (by first | rfl | kernel_rfl)) ?_
 refine LD.alloc rfl rfl Tryz.zeroValue140 rfl (fun b5 hb5 => ?_)
 refine LD.tail rfl rfl ?_
 refine LM.stW Tryz.sizeOf140 rfl rfl rfl rfl au7 au8 ?_
 refine LM.nil ?_
 refine QM.qn ?_
 refine QM.sub (e' := [(1, _), (2, _), (4, _), (5, _)]) au9 (QM.then ?_)
 refine wpM.seq ?_
 refine wpM.seq (wpM.region ?_)
 refine LM.val (ov_field Tryz.underlying87 rfl Tryz.sizeOf85 rfl (k := 1) rfl rfl) ?_
 refine LM.rd (om_ld Tryz.isAgg85 rfl rfl) ?_
 refine LM.mv rfl ?_
 refine LM.val (ov_add64 rfl rfl (by omega)) ?_
 refine LM.val (ov_subLo (i + 1) Tryz.underlying85 Tryz.sizeOf135 rfl rfl (by omega) (by omega)) ?_
 refine LM.val (ov_len Tryz.underlying85 rfl) ?_
 refine LM.mv rfl ?_
 refine LM.nil (QM.sub (e' := [(1, _), (4, _), (5, _), (23, _), (24, _), (25, _)]) au9 (QM.then ?_))
 refine wpM.block ?_
 refine wpM.loopK0 (α := Nat × Int) (fun ⟨j, acc⟩ => [(25, .int .i64 (j : Nat))]) [(1, _), (4, _), (5, _), (23, _), (24, _)] (fun ⟨j, acc⟩ => sBc b5 (i : Nat) n (xs.getD i default).a acc :: sBc b4 0 0 0 0 :: pB b2 fv ad n cap :: []) (fun ⟨j, acc⟩ => SecI (xs.getD i default).a ys j acc) (fun ⟨j, acc⟩ => ys.length - j) ((0, 0)) ⟨au2, rfl, rfl, rfl, rfl, rfl, trivial⟩ au1 (SecI.zero _ ys) ?_
 rintro ⟨j, acc⟩ hI
 change wpM _ _ _ _ _ _ _ (sBc b5 (i : Nat) n (xs.getD i default).a acc :: sBc b4 0 0 0 0 :: pB b2 fv ad n cap :: []) _ _ _
 have hj := hI.1; have hb := hsy.at j; obtain ⟨-, -, -, hb1, hb2⟩ := id hI
 refine wpM.seq (wpM.region ?_)
 refine LM.val (ov_lss rfl rfl) ?_
 refine LM.nil (QM.sub (e' := [(1, _), (4, _), (5, _), (23, _), (24, _), (25, _), (26, _)]) au9 (QM.then ?_))
 refine wpM.seq ?_
 refine wpM.condD rfl (fun h1 => ?_) (fun h1 => ?_)
 ·
  refine wpM.skip ?_
  refine QM.then ?_
  refine wpM.seq ?_
  refine wpM.block ?_
  refine wpM.seq (wpM.region ?_)
  refine LM.mv rfl ?_
  refine LM.val (ov_idxSN au6 Tryz.underlying85 Tryz.sizeOf135 rfl rfl (by omega)) ?_
  first | refine LM.rd (om_slA (by assumption) (by intro _; rfl) Tryz.isAgg135 Tryz.sizeOf135 rfl au3) ?_ | refine LM.rdC (om_srEA (by assumption) (by intro _; rfl) Tryz.isAgg135 Tryz.sizeOf135 rfl au3 id) ?_ | refine LM.rd (om_ldW Tryz.isAgg135 Tryz.sizeOf135 rfl rfl) ?_ | refine LM.rd (om_ldA Tryz.isAgg135 Tryz.sizeOf135 rfl (vs := [_, _, _]) rfl ⟨rfl, rfl, rfl, trivial⟩) ?_
  refine LM.alloc Tryz.zeroValue135 rfl (fun b7 hb7 => ?_)
  refine LM.as rfl ?_
  refine LM.stW Tryz.sizeOf135 rfl rfl rfl rfl au7 au8 ?_
  refine LM.nil (QM.sub (e' := [(1, _), (4, _), (5, _), (6, _), (7, _), (23, _), (24, _), (25, _)]) au9 (QM.then ?_))
  refine wpM.block ?_
  refine wpM.seq ?_
  refine wpM.seq (wpM.region ?_)
  refine LM.val (ov_field Tryz.underlying135 rfl Tryz.sizeOf3 rfl (k := 0) rfl rfl) ?_
  refine LM.rd (om_ld Tryz.isAgg3 rfl rfl) ?_
  refine LM.val (ov_eql rfl rfl) ?_
  refine LM.as rfl ?_
  refine LM.nil (QM.sub (e' := [(1, _), (4, _), (5, _), (6, _), (7, _), (23, _), (24, _), (25, _), (30, _)]) au9 (QM.then ?_))
  refine wpM.condXD (t := 30) rfl (fun h2 => ?_) (fun h2 => ?_)
  ·
   refine wpM.skip ?_
   refine QM.then ?_
   refine wpM.condT rfl ?_
   refine wpM.seq (wpM.region ?_)
   refine LM.mv rfl ?_
   refine LM.val (ov_add64 rfl rfl (by omega)) ?_
   refine LM.mv rfl ?_
   refine LM.val (ov_add64 rfl rfl (by omega)) ?_
   refine LM.val (ov_field Tryz.underlying140 rfl Tryz.sizeOf3 rfl (k := 1) rfl rfl) ?_
   refine LM.st Tryz.sizeOf3 rfl rfl rfl au5 rfl au8 ?_
   refine LM.nil (QM.sub (e' := [(4, _), (5, _)]) au9 (QM.then (wpM.seq (wpM.region ?_))))
   refine LM.rd (om_ldW Tryz.isAgg140 Tryz.sizeOf140 rfl rfl) ?_
   refine LM.stW Tryz.sizeOf140 rfl rfl rfl rfl au7 au8 ?_
   refine LM.nil (QM.sub (e' := [(4, _)]) ⟨rfl, trivial⟩ (QM.then ?_))
   refine wpM.ret ?_
   refine QM.block_ret ?_
   refine QM.block_ret ?_
   refine QM.then_ret ?_
   refine QM.then_ret ?_
   refine QM.block_ret ?_
   refine QM.then_ret ?_
   refine QM.leaveCs (ds := ([])) (.inl rfl) [.cell 4 140] Tryz.results152 hd_nil (rc_w rfl Tryz.isAgg140 Tryz.sizeOf140 rfl rc_nil) ?_
   intro w' hm' hc'
   have hq := hI.stop (by omega) (stop_11 h2); refine ⟨?_, hc'⟩; rw [hq]; show sV _ _ _ _ = _; congr 5
  refine wpM.region ?_
  refine LM.val (ov_field Tryz.underlying135 rfl Tryz.sizeOf3 rfl (k := 0) rfl rfl) ?_
  refine LM.rd (om_ld Tryz.isAgg3 rfl rfl) ?_
  refine LM.val (ov_eql rfl rfl) ?_
  refine LM.mv rfl ?_
  refine LM.splitD (t := 37) rfl (fun h3 => ?_) (fun h3 => ?_)
  ·
   refine LM.sp 37 rfl rfl rfl (LM.val (ov_field Tryz.underlying135 rfl Tryz.sizeOf3 rfl (k := 1) rfl rfl) (LM.sp 37 rfl rfl rfl ?_))
   refine LM.rd (om_ld Tryz.isAgg3 rfl rfl) ?_
   refine LM.sp 37 rfl rfl rfl (LM.val (ov_field Tryz.underlying140 rfl Tryz.sizeOf3 rfl (k := 2) rfl rfl) (LM.sp 37 rfl rfl rfl ?_))
   refine LM.rd (om_ld Tryz.isAgg3 rfl rfl) ?_
   refine LM.sp 37 rfl rfl rfl ?_
   refine LM.val (ov_eql rfl rfl) ?_
   refine LM.val (ov_pickT rfl rfl) ?_
   refine LM.as rfl ?_
   refine LM.nil (QM.sub (e' := [(1, _), (4, _), (5, _), (6, _), (7, _), (23, _), (24, _), (25, _), (30, _)]) au9 (QM.then ?_))
   refine wpM.condD rfl (fun h4 => ?_) (fun h4 => ?_)
   ·
    refine wpM.seq (wpM.region ?_)
    refine LM.mv rfl ?_
    refine LM.val (ov_add64 rfl rfl (by omega)) ?_
    refine LM.mv rfl ?_
    refine LM.val (ov_add64 rfl rfl (by omega)) ?_
    refine LM.val (ov_field Tryz.underlying140 rfl Tryz.sizeOf3 rfl (k := 1) rfl rfl) ?_
    refine LM.st Tryz.sizeOf3 rfl rfl rfl au5 rfl au8 ?_
    refine LM.nil (QM.sub (e' := [(4, _), (5, _)]) au9 (QM.then (wpM.seq (wpM.region ?_))))
    refine LM.rd (om_ldW Tryz.isAgg140 Tryz.sizeOf140 rfl rfl) ?_
    refine LM.stW Tryz.sizeOf140 rfl rfl rfl rfl au7 au8 ?_
    refine LM.nil (QM.sub (e' := [(4, _)]) ⟨rfl, trivial⟩ (QM.then ?_))
    refine wpM.ret ?_
    refine QM.block_ret ?_
    refine QM.block_ret ?_
    refine QM.then_ret ?_
    refine QM.then_ret ?_
    refine QM.block_ret ?_
    refine QM.then_ret ?_
    refine QM.leaveCs (ds := ([])) (.inl rfl) [.cell 4 140] Tryz.results152 hd_nil (rc_w rfl Tryz.isAgg140 Tryz.sizeOf140 rfl rc_nil) ?_
    intro w' hm' hc'
    have hq := hI.stop (by omega) (stop_6 h3 h4); refine ⟨?_, hc'⟩; rw [hq]; show sV _ _ _ _ = _; congr 5
   refine wpM.seq (wpM.region ?_)
   refine LM.val (ov_field Tryz.underlying135 rfl Tryz.sizeOf3 rfl (k := 0) rfl rfl) ?_
   refine LM.rd (om_ld Tryz.isAgg3 rfl rfl) ?_
   refine LM.val (ov_eql rfl rfl) ?_
   refine LM.as rfl ?_
   refine LM.nil (QM.sub (e' := [(1, _), (4, _), (5, _), (7, _), (23, _), (24, _), (25, _), (50, _)]) au9 (QM.then ?_))
   refine wpM.condD rfl (fun h5 => ?_) (fun h5 => ?_)
   ·
    refine wpM.region ?_
    refine LM.val (ov_field Tryz.underlying140 rfl Tryz.sizeOf3 rfl (k := 3) rfl rfl) ?_
    refine LM.rd (om_ld Tryz.isAgg3 rfl rfl) ?_
    refine LM.val (ov_field Tryz.underlying135 rfl Tryz.sizeOf3 rfl (k := 1) rfl rfl) ?_
    refine LM.rd (om_ld Tryz.isAgg3 rfl rfl) ?_
    refine LM.val (ov_add64 rfl rfl (by omega)) ?_
    refine LM.val (ov_field Tryz.underlying140 rfl Tryz.sizeOf3 rfl (k := 3) rfl rfl) ?_
    refine LM.st Tryz.sizeOf3 rfl rfl rfl au5 rfl au8 ?_
    refine LM.nil (QM.sub (e' := [(1, _), (4, _), (5, _), (23, _), (24, _), (25, _)]) au9 ?_)
    refine QM.block_normal ?_
    refine QM.block_normal ?_
    refine QM.then (wpM.region ?_)
    refine LM.val (ov_add64 rfl rfl (by omega)) ?_
    refine LM.mv rfl ?_
    refine LM.nil (QM.sub (e' := [(1, _), (4, _), (5, _), (23, _), (24, _), (25, _)]) au9 ?_)
    refine QM.againK ((j + 1, acc + (ys.getD j default).a)) ⟨au2, rfl, rfl, rfl, rfl, rfl, trivial⟩ au1 (fun _ h => h) ?_ ?_
    · exact hI.step hsy (by omega) (stop_no h2 (fun q => by first | exact h4 q.2 | exact h3 q.1)) (by rw [if_pos h5])
    · omega
   refine wpM.skip ?_
   refine QM.block_normal ?_
   refine QM.block_normal ?_
   refine QM.then (wpM.region ?_)
   refine LM.val (ov_add64 rfl rfl (by omega)) ?_
   refine LM.mv rfl ?_
   refine LM.nil (QM.sub (e' := [(1, _), (4, _), (5, _), (23, _), (24, _), (25, _)]) au9 ?_)
   refine QM.againK ((j + 1, acc)) ⟨au2, rfl, rfl, rfl, rfl, rfl, trivial⟩ au1 (fun _ h => h) ?_ ?_
   · exact hI.step hsy (by omega) (stop_no h2 (fun q => by first | exact h4 q.2 | exact h3 q.1)) (by rw [if_neg h5]; omega)
   · first | omega | (dsimp only; omega)
  refine LM.dr 37 rfl rfl rfl (LM.dr 37 rfl rfl rfl (LM.dr 37 rfl rfl rfl (LM.dr 37 rfl rfl rfl (LM.dr 37 rfl rfl rfl ?_))))
  refine LM.val (ov_pickF rfl rfl) ?_
  refine LM.as rfl ?_
  refine LM.nil (QM.sub (e' := [(1, _), (4, _), (5, _), (6, _), (7, _), (23, _), (24, _), (25, _), (30, _)]) au9 (QM.then ?_))
  refine wpM.condF rfl ?_
  refine wpM.seq (wpM.region ?_)
  refine LM.val (ov_field Tryz.underlying135 rfl Tryz.sizeOf3 rfl (k := 0) rfl rfl) ?_
  refine LM.rd (om_ld Tryz.isAgg3 rfl rfl) ?_
  refine LM.val (ov_eql rfl rfl) ?_
  refine LM.as rfl ?_
  refine LM.nil (QM.sub (e' := [(1, _), (4, _), (5, _), (7, _), (23, _), (24, _), (25, _), (50, _)]) au9 (QM.then ?_))
  refine wpM.condD rfl (fun h6 => ?_) (fun h6 => ?_)
  ·
   refine wpM.region ?_
   refine LM.val (ov_field Tryz.underlying140 rfl Tryz.sizeOf3 rfl (k := 3) rfl rfl) ?_
   refine LM.rd (om_ld Tryz.isAgg3 rfl rfl) ?_
   refine LM.val (ov_field Tryz.underlying135 rfl Tryz.sizeOf3 rfl (k := 1) rfl rfl) ?_
   refine LM.rd (om_ld Tryz.isAgg3 rfl rfl) ?_
   refine LM.val (ov_add64 rfl rfl (by omega)) ?_
   refine LM.val (ov_field Tryz.underlying140 rfl Tryz.sizeOf3 rfl (k := 3) rfl rfl) ?_
   refine LM.st Tryz.sizeOf3 rfl rfl rfl au5 rfl au8 ?_
   refine LM.nil (QM.sub (e' := [(1, _), (4, _), (5, _), (23, _), (24, _), (25, _)]) au9 ?_)
   refine QM.block_normal ?_
   refine QM.block_normal ?_
   refine QM.then (wpM.region ?_)
   refine LM.val (ov_add64 rfl rfl (by omega)) ?_
   refine LM.mv rfl ?_
   refine LM.nil (QM.sub (e' := [(1, _), (4, _), (5, _), (23, _), (24, _), (25, _)]) au9 ?_)
   refine QM.againK ((j + 1, acc + (ys.getD j default).a)) ⟨au2, rfl, rfl, rfl, rfl, rfl, trivial⟩ au1 (fun _ h => h) ?_ ?_
   · exact hI.step hsy (by omega) (stop_no h2 (fun q => by first | exact h4 q.2 | exact h3 q.1)) (by rw [if_pos h6])
   · first | omega | (dsimp only; omega)
  refine wpM.skip ?_
  refine QM.block_normal ?_
  refine QM.block_normal ?_
  refine QM.then (wpM.region ?_)
  refine LM.val (ov_add64 rfl rfl (by omega)) ?_
  refine LM.mv rfl ?_
  refine LM.nil (QM.sub (e' := [(1, _), (4, _), (5, _), (23, _), (24, _), (25, _)]) au9 ?_)
  refine QM.againK ((j + 1, acc)) ⟨au2, rfl, rfl, rfl, rfl, rfl, trivial⟩ au1 (fun _ h => h) ?_ ?_
  · exact hI.step hsy (by omega) (stop_no h2 (fun q => by first | exact h4 q.2 | exact h3 q.1)) (by rw [if_neg h6]; omega)
  · first | omega | (dsimp only; omega)
 refine wpM.exit ?_
 refine QM.then_exit ?_
 refine QM.then_exit ?_
 refine QM.block_hit ?_
 refine QM.then (wpM.seq (wpM.region ?_))
 refine LM.rd (om_ldW Tryz.isAgg140 Tryz.sizeOf140 rfl rfl) ?_
 refine LM.stW Tryz.sizeOf140 rfl rfl rfl rfl au7 au8 ?_
 refine LM.nil (QM.sub (e' := [(4, _)]) ⟨rfl, trivial⟩ (QM.then ?_))
 refine wpM.ret ?_
 refine QM.leaveCs (ds := ([])) (.inl rfl) [.cell 4 140] Tryz.results152 hd_nil (rc_w rfl Tryz.isAgg140 Tryz.sizeOf140 rfl rc_nil) ?_
 intro w' hm' hc'
 have hq := hI.fin (by omega); refine ⟨?_, hc'⟩; rw [hq]; show sV _ _ _ _ = _; congr 5; omega
set_option maxRecDepth 100000 in
theorem rsection_spec {xs : List COp} {fv : Bool} {ad : Option Addr} {n cap : Nat} (i : Nat) (w : World) (hn : n = xs.length) (hl : Sr fO 3 xs (.slice ad n cap) w) (hs : smallO xs) (hi : i < xs.length) : Ret Tryz.prog 92 #[pV fv ad n cap, .int .i64 (i : Nat)] w (fun v w' => v = secV xs i ∧ Ext w w') := by
 have hx20 := hs.1; have hsy := hs.drop (i + 1); obtain ⟨ys, hys⟩ : ∃ ys, xs.drop (i + 1) = ys := ⟨_, rfl⟩; have hyl : ys.length = xs.length - (i + 1) := (by rw [← hys, List.length_drop]); have hsec : secO xs i = secT (xs.getD i default).a ys := (by unfold secO; rw [hys]); have hyx : ∀ j, ys.getD j default = xs.getD (i + 1 + j) default := (fun j => by rw [← hys, getD_drop]); rw [hys] at hsy; simp only [secV, hsec]
 refine Ret.enterM (l := [pV fv ad n cap, .int .i64 (i : Nat)]) Tryz.func92 rfl Tryz.ntmps92 rfl ([]) (no) (Mem.nil w) ?_
 refine wpM.seq (wpM.region ?_)
 refine LM.box rfl rfl (fun b2 hb2 => ?_)
 refine LM.alloc Tryz.zeroValue140 rfl (fun b4 hb4 => ?_)
 refine LM.nil (QM.sub (e' := [(1, _), (2, _), (4, _)]) au9 (QM.then (wpM.seq (wpM.region ?_))))
 refine LM.mv rfl (LM.mv rfl ?_)
 refine LM.val (ov_add64 rfl rfl (by omega)) ?_
 refine LM.val (ov_field Tryz.underlying87 rfl Tryz.sizeOf85 rfl (k := 1) rfl rfl) ?_
 refine LM.rd (om_ld Tryz.isAgg85 rfl rfl) ?_
 refine LM.mv rfl ?_
 refine LM.val (ov_idxSN au6 Tryz.underlying85 Tryz.sizeOf135 rfl rfl (by omega)) ?_
 refine LM.val (ov_field Tryz.underlying135 rfl Tryz.sizeOf3 rfl (k := 1) rfl rfl) ?_
 first | refine LM.rd (om_slE (j := 1) (by assumption) (by intro _; rfl) Tryz.isAgg3 rfl rfl au3 rfl (by rfl)) ?_ | refine LM.rdC (om_srE (j := 1) (by assumption) Tryz.isAgg3 rfl rfl au3 (by rfl) (by rfl) id) ?_ | refine LM.rd (om_ld Tryz.isAgg3 rfl rfl) ?_
 refine LM.val (ov_build (cs := #[_, _, _, _]) rfl (by first | rfl | kernel_rfl)) ?_
 refine LM.alloc Tryz.zeroValue140 rfl (fun b5 hb5 => ?_)
 refine LM.stW Tryz.sizeOf140 rfl rfl rfl rfl au7 au8 ?_
 refine LM.nil (QM.sub (e' := [(2, _), (4, _), (5, _)]) au9 (QM.then ?_))
 refine wpM.seq ?_
 refine wpM.block ?_
 refine wpM.loopK0 (α := Nat × Int × Int) (fun ⟨j, to, acc⟩ => []) [(2, _), (4, _), (5, _)] (fun ⟨j, to, acc⟩ => sBc b5 (i : Nat) to (xs.getD i default).a acc :: sBc b4 0 0 0 0 :: pB b2 fv ad n cap :: []) (fun ⟨j, to, acc⟩ => SecI (xs.getD i default).a ys j acc ∧ to = (i : Int) + 1 + (j : Nat)) (fun ⟨j, to, acc⟩ => ys.length - j) ((0, (i : Int) + 1, 0)) ⟨rfl, rfl, rfl, trivial⟩ au1 ⟨SecI.zero _ ys, by simp⟩ ?_
 rintro ⟨j, to, acc⟩ ⟨hI, hto⟩
 change wpM _ _ _ _ _ _ _ (sBc b5 (i : Nat) to (xs.getD i default).a acc :: sBc b4 0 0 0 0 :: pB b2 fv ad n cap :: []) _ _ _
 have hj := hI.1; have htn : to.toNat = i + 1 + j := (by omega); have hyt : ys.getD j default = xs.getD to.toNat default := (by rw [hyx, htn]); have hb := hsy.at j; rw [hyt] at hb; obtain ⟨-, -, -, hb1, hb2⟩ := id hI
 refine wpM.seq ?_
 refine wpM.seq (wpM.region ?_)
 refine LM.val (ov_field Tryz.underlying140 rfl Tryz.sizeOf3 rfl (k := 1) rfl rfl) ?_
 refine LM.rd (om_ld Tryz.isAgg3 rfl rfl) ?_
 refine LM.val (ov_field Tryz.underlying87 rfl Tryz.sizeOf85 rfl (k := 1) rfl rfl) ?_
 refine LM.rd (om_ld Tryz.isAgg85 rfl rfl) ?_
 refine LM.val (ov_len Tryz.underlying85 rfl) ?_
 refine LM.val (ov_lss rfl rfl) ?_
 refine LM.nil (QM.sub (e' := [(2, _), (4, _), (5, _), (22, _)]) au9 (QM.then ?_))
 refine wpM.condD rfl (fun h1 => ?_) (fun h1 => ?_)
 ·
  refine wpM.skip ?_
  refine QM.then ?_
  refine wpM.block ?_
  refine wpM.seq (wpM.region ?_)
  refine LM.val (ov_field Tryz.underlying87 rfl Tryz.sizeOf85 rfl (k := 1) rfl rfl) ?_
  refine LM.rd (om_ld Tryz.isAgg85 rfl rfl) ?_
  refine LM.val (ov_field Tryz.underlying140 rfl Tryz.sizeOf3 rfl (k := 1) rfl rfl) ?_
  refine LM.rd (om_ld Tryz.isAgg3 rfl rfl) ?_
  first | refine LM.val (ov_idxSN au6 Tryz.underlying85 Tryz.sizeOf135 rfl rfl (by omega)) ?_ | refine LM.val (ov_idxS au6 Tryz.underlying85 Tryz.sizeOf135 rfl rfl (by omega)) ?_ | refine LM.val (ov_idx Tryz.underlying85 Tryz.sizeOf135 rfl rfl (by omega)) ?_
  first | refine LM.rd (om_slA (by assumption) (by intro _; rfl) Tryz.isAgg135 Tryz.sizeOf135 rfl au3) ?_ | refine LM.rdC (om_srEA (by assumption) (by intro _; rfl) Tryz.isAgg135 Tryz.sizeOf135 rfl au3 id) ?_ | refine LM.rd (om_ldW Tryz.isAgg135 Tryz.sizeOf135 rfl rfl) ?_ | refine LM.rd (om_ldA Tryz.isAgg135 Tryz.sizeOf135 rfl (vs := [_, _, _]) rfl ⟨rfl, rfl, rfl, trivial⟩) ?_
  refine LM.alloc Tryz.zeroValue135 rfl (fun b6 hb6 => ?_)
  refine LM.stW Tryz.sizeOf135 rfl rfl rfl rfl au7 au8 ?_
  refine LM.nil (QM.sub (e' := [(2, _), (4, _), (5, _), (6, _)]) au9 (QM.then ?_))
  refine wpM.seq ?_
  refine wpM.seq (wpM.region ?_)
  refine LM.val (ov_field Tryz.underlying135 rfl Tryz.sizeOf3 rfl (k := 0) rfl rfl) ?_
  refine LM.rd (om_ld Tryz.isAgg3 rfl rfl) ?_
  refine LM.val (ov_eql rfl rfl) ?_
  refine LM.mv rfl ?_
  refine LM.splitD (t := 32) rfl (fun h2 => ?_) (fun h2 => ?_)
  ·
   refine LM.dr 32 rfl rfl rfl (LM.dr 32 rfl rfl rfl (LM.dr 32 rfl rfl rfl ?_))
   refine LM.dropU (t := 32) rfl rfl rfl ?_
   refine LM.dropX (t := 36) rfl rfl ?_
   refine LM.dropX (t := 36) rfl rfl ?_
   refine LM.dropX (t := 36) rfl rfl ?_
   refine LM.dropX (t := 36) rfl rfl ?_
   refine LM.dropX (t := 36) rfl rfl ?_
   refine LM.dr 32 rfl rfl rfl ?_
   refine LM.val (ov_pickT rfl rfl) ?_
   refine LM.nil (QM.sub (e' := [(2, _), (4, _), (5, _), (6, _), (43, _)]) au9 (QM.then ?_))
   refine wpM.condT rfl ?_
   refine wpM.seq (wpM.region ?_)
   refine LM.rd (om_ldW Tryz.isAgg140 Tryz.sizeOf140 rfl rfl) ?_
   refine LM.stW Tryz.sizeOf140 rfl rfl rfl rfl au7 au8 ?_
   refine LM.nil (QM.sub (e' := [(4, _)]) ⟨rfl, trivial⟩ (QM.then ?_))
   refine wpM.ret ?_
   refine QM.then_ret ?_
   refine QM.block_ret ?_
   refine QM.then_ret ?_
   refine QM.block_ret ?_
   refine QM.then_ret ?_
   refine QM.leaveCs (ds := ([])) (.inl rfl) [.cell 4 140] Tryz.results92 hd_nil (rc_w rfl Tryz.isAgg140 Tryz.sizeOf140 rfl rc_nil) ?_
   intro w' hm' hc'
   have hq := hI.stop (by omega) (by rw [hyt]; exact stop_11 h2); refine ⟨?_, hc'⟩; rw [hq]; show sV _ _ _ _ = _; congr 5
  refine LM.sp 32 rfl rfl rfl (LM.val (ov_field Tryz.underlying135 rfl Tryz.sizeOf3 rfl (k := 0) rfl rfl) (LM.sp 32 rfl rfl rfl ?_))
  refine LM.rd (om_ld Tryz.isAgg3 rfl rfl) ?_
  refine LM.sp 32 rfl rfl rfl ?_
  refine LM.val (ov_eql rfl rfl) ?_
  refine LM.sp 32 rfl rfl rfl (LM.mv rfl ?_)
  refine LM.splitD (t := 36) rfl (fun h3 => ?_) (fun h3 => ?_)
  ·
   refine LM.sp 36 rfl rfl rfl (LM.val (ov_field Tryz.underlying135 rfl Tryz.sizeOf3 rfl (k := 1) rfl rfl) (LM.sp 36 rfl rfl rfl ?_))
   refine LM.rd (om_ld Tryz.isAgg3 rfl rfl) ?_
   refine LM.sp 36 rfl rfl rfl (LM.val (ov_field Tryz.underlying140 rfl Tryz.sizeOf3 rfl (k := 2) rfl rfl) (LM.sp 36 rfl rfl rfl ?_))
   refine LM.rd (om_ld Tryz.isAgg3 rfl rfl) ?_
   refine LM.sp 36 rfl rfl rfl ?_
   refine LM.val (ov_eql rfl rfl) ?_
   refine LM.sp 32 rfl rfl rfl ?_
   refine LM.val (ov_pickT rfl rfl) ?_
   refine LM.val (ov_pickF rfl rfl) ?_
   refine LM.nil (QM.sub (e' := [(2, _), (4, _), (5, _), (6, _), (43, _)]) au9 (QM.then ?_))
   refine wpM.condD rfl (fun h4 => ?_) (fun h4 => ?_)
   ·
    refine wpM.seq (wpM.region ?_)
    refine LM.rd (om_ldW Tryz.isAgg140 Tryz.sizeOf140 rfl rfl) ?_
    refine LM.stW Tryz.sizeOf140 rfl rfl rfl rfl au7 au8 ?_
    refine LM.nil (QM.sub (e' := [(4, _)]) ⟨rfl, trivial⟩ (QM.then ?_))
    refine wpM.ret ?_
    refine QM.then_ret ?_
    refine QM.block_ret ?_
    refine QM.then_ret ?_
    refine QM.block_ret ?_
    refine QM.then_ret ?_
    refine QM.leaveCs (ds := ([])) (.inl rfl) [.cell 4 140] Tryz.results92 hd_nil (rc_w rfl Tryz.isAgg140 Tryz.sizeOf140 rfl rc_nil) ?_
    intro w' hm' hc'
    have hq := hI.stop (by omega) (by rw [hyt]; exact stop_6 h3 h4); refine ⟨?_, hc'⟩; rw [hq]; show sV _ _ _ _ = _; congr 5
   refine wpM.skip ?_
   refine QM.then ?_
   refine wpM.seq ?_
   refine wpM.seq (wpM.region ?_)
   refine LM.val (ov_field Tryz.underlying135 rfl Tryz.sizeOf3 rfl (k := 0) rfl rfl) ?_
   refine LM.rd (om_ld Tryz.isAgg3 rfl rfl) ?_
   refine LM.val (ov_eql rfl rfl) ?_
   refine LM.nil (QM.sub (e' := [(2, _), (4, _), (5, _), (6, _), (47, _)]) au9 (QM.then ?_))
   refine wpM.condD rfl (fun h5 => ?_) (fun h5 => ?_)
   ·
    refine wpM.region ?_
    refine LM.val (ov_field Tryz.underlying140 rfl Tryz.sizeOf3 rfl (k := 3) rfl rfl) ?_
    refine LM.rd (om_ld Tryz.isAgg3 rfl rfl) ?_
    refine LM.val (ov_field Tryz.underlying135 rfl Tryz.sizeOf3 rfl (k := 1) rfl rfl) ?_
    refine LM.rd (om_ld Tryz.isAgg3 rfl rfl) ?_
    refine LM.val (ov_add64 rfl rfl (by omega)) ?_
    refine LM.val (ov_field Tryz.underlying140 rfl Tryz.sizeOf3 rfl (k := 3) rfl rfl) ?_
    refine LM.st Tryz.sizeOf3 rfl rfl rfl au5 rfl au8 ?_
    refine LM.nil (QM.sub (e' := [(2, _), (4, _), (5, _)]) au9 (QM.then (wpM.region ?_)))
    refine LM.val (ov_field Tryz.underlying140 rfl Tryz.sizeOf3 rfl (k := 1) rfl rfl) ?_
    refine LM.rd (om_ld Tryz.isAgg3 rfl rfl) ?_
    refine LM.val (ov_add64 rfl rfl (by omega)) ?_
    refine LM.val (ov_field Tryz.underlying140 rfl Tryz.sizeOf3 rfl (k := 1) rfl rfl) ?_
    refine LM.st Tryz.sizeOf3 rfl rfl rfl au5 rfl au8 ?_
    refine LM.nil (QM.sub (e' := [(2, _), (4, _), (5, _)]) au9 ?_)
    refine QM.block_normal ?_
    refine QM.againK ((j + 1, to + 1, acc + (xs.getD to.toNat default).a)) ⟨rfl, rfl, rfl, trivial⟩ au1 (fun _ h => h) ?_ ?_
    · exact ⟨hI.step hsy (by omega) (by rw [hyt]; exact stop_no h2 (fun q => by first | exact h4 q.2 | exact h3 q.1)) (by rw [hyt, if_pos h5]), by push_cast; omega⟩
    · omega
   refine wpM.skip ?_
   refine QM.then (wpM.region ?_)
   refine LM.val (ov_field Tryz.underlying140 rfl Tryz.sizeOf3 rfl (k := 1) rfl rfl) ?_
   refine LM.rd (om_ld Tryz.isAgg3 rfl rfl) ?_
   refine LM.val (ov_add64 rfl rfl (by omega)) ?_
   refine LM.val (ov_field Tryz.underlying140 rfl Tryz.sizeOf3 rfl (k := 1) rfl rfl) ?_
   refine LM.st Tryz.sizeOf3 rfl rfl rfl au5 rfl au8 ?_
   refine LM.nil (QM.sub (e' := [(2, _), (4, _), (5, _)]) au9 ?_)
   refine QM.block_normal ?_
   refine QM.againK ((j + 1, to + 1, acc)) ⟨rfl, rfl, rfl, trivial⟩ au1 (fun _ h => h) ?_ ?_
   · exact ⟨hI.step hsy (by omega) (by rw [hyt]; exact stop_no h2 (fun q => by first | exact h4 q.2 | exact h3 q.1)) (by rw [hyt, if_neg h5]; omega), by push_cast; omega⟩
   · first | omega | (dsimp only; omega)
  refine LM.dr 36 rfl rfl rfl (LM.dr 36 rfl rfl rfl (LM.dr 36 rfl rfl rfl (LM.dr 36 rfl rfl rfl (LM.dr 36 rfl rfl rfl (LM.sp 32 rfl rfl rfl ?_)))))
  refine LM.val (ov_pickF rfl rfl) ?_
  refine LM.val (ov_pickF rfl rfl) ?_
  refine LM.nil (QM.sub (e' := [(2, _), (4, _), (5, _), (6, _), (43, _)]) au9 (QM.then ?_))
  refine wpM.condF rfl ?_
  refine wpM.skip ?_
  refine QM.then ?_
  refine wpM.seq ?_
  refine wpM.seq (wpM.region ?_)
  refine LM.val (ov_field Tryz.underlying135 rfl Tryz.sizeOf3 rfl (k := 0) rfl rfl) ?_
  refine LM.rd (om_ld Tryz.isAgg3 rfl rfl) ?_
  refine LM.val (ov_eql rfl rfl) ?_
  refine LM.nil (QM.sub (e' := [(2, _), (4, _), (5, _), (6, _), (47, _)]) au9 (QM.then ?_))
  refine wpM.condD rfl (fun h6 => ?_) (fun h6 => ?_)
  ·
   refine wpM.region ?_
   refine LM.val (ov_field Tryz.underlying140 rfl Tryz.sizeOf3 rfl (k := 3) rfl rfl) ?_
   refine LM.rd (om_ld Tryz.isAgg3 rfl rfl) ?_
   refine LM.val (ov_field Tryz.underlying135 rfl Tryz.sizeOf3 rfl (k := 1) rfl rfl) ?_
   refine LM.rd (om_ld Tryz.isAgg3 rfl rfl) ?_
   refine LM.val (ov_add64 rfl rfl (by omega)) ?_
   refine LM.val (ov_field Tryz.underlying140 rfl Tryz.sizeOf3 rfl (k := 3) rfl rfl) ?_
   refine LM.st Tryz.sizeOf3 rfl rfl rfl au5 rfl au8 ?_
   refine LM.nil (QM.sub (e' := [(2, _), (4, _), (5, _)]) au9 (QM.then (wpM.region ?_)))
   refine LM.val (ov_field Tryz.underlying140 rfl Tryz.sizeOf3 rfl (k := 1) rfl rfl) ?_
   refine LM.rd (om_ld Tryz.isAgg3 rfl rfl) ?_
   refine LM.val (ov_add64 rfl rfl (by omega)) ?_
   refine LM.val (ov_field Tryz.underlying140 rfl Tryz.sizeOf3 rfl (k := 1) rfl rfl) ?_
   refine LM.st Tryz.sizeOf3 rfl rfl rfl au5 rfl au8 ?_
   refine LM.nil (QM.sub (e' := [(2, _), (4, _), (5, _)]) au9 ?_)
   refine QM.block_normal ?_
   refine QM.againK ((j + 1, to + 1, acc + (xs.getD to.toNat default).a)) ⟨rfl, rfl, rfl, trivial⟩ au1 (fun _ h => h) ?_ ?_
   · exact ⟨hI.step hsy (by omega) (by rw [hyt]; exact stop_no h2 (fun q => by first | exact h4 q.2 | exact h3 q.1)) (by rw [hyt, if_pos h6]), by push_cast; omega⟩
   · first | omega | (dsimp only; omega)
  refine wpM.skip ?_
  refine QM.then (wpM.region ?_)
  refine LM.val (ov_field Tryz.underlying140 rfl Tryz.sizeOf3 rfl (k := 1) rfl rfl) ?_
  refine LM.rd (om_ld Tryz.isAgg3 rfl rfl) ?_
  refine LM.val (ov_add64 rfl rfl (by omega)) ?_
  refine LM.val (ov_field Tryz.underlying140 rfl Tryz.sizeOf3 rfl (k := 1) rfl rfl) ?_
  refine LM.st Tryz.sizeOf3 rfl rfl rfl au5 rfl au8 ?_
  refine LM.nil (QM.sub (e' := [(2, _), (4, _), (5, _)]) au9 ?_)
  refine QM.block_normal ?_
  refine QM.againK ((j + 1, to + 1, acc)) ⟨rfl, rfl, rfl, trivial⟩ au1 (fun _ h => h) ?_ ?_
  · exact ⟨hI.step hsy (by omega) (by rw [hyt]; exact stop_no h2 (fun q => by first | exact h4 q.2 | exact h3 q.1)) (by rw [hyt, if_neg h6]; omega), by push_cast; omega⟩
  · first | omega | (dsimp only; omega)
 refine wpM.exit ?_
 refine QM.then_exit ?_
 refine QM.then_exit ?_
 refine QM.block_hit ?_
 refine QM.then (wpM.seq (wpM.region ?_))
 refine LM.rd (om_ldW Tryz.isAgg140 Tryz.sizeOf140 rfl rfl) ?_
 refine LM.stW Tryz.sizeOf140 rfl rfl rfl rfl au7 au8 ?_
 refine LM.nil (QM.sub (e' := [(4, _)]) ⟨rfl, trivial⟩ (QM.then ?_))
 refine wpM.ret ?_
 refine QM.leaveCs (ds := ([])) (.inl rfl) [.cell 4 140] Tryz.results92 hd_nil (rc_w rfl Tryz.isAgg140 Tryz.sizeOf140 rfl rc_nil) ?_
 intro w' hm' hc'
 have hq := hI.fin (by omega); refine ⟨?_, hc'⟩; rw [hq]; show sV _ _ _ _ = _; congr 5; omega
end Go.Eng
namespace Go.Eng
open Go Go.Proofs Go.RowKit
abbrev lBc (b : Nat) (ad : Option Addr) (n cap : Nat) : Nat × Obj := (b, .cells #[.slice ad n cap] 27 (0, 0))
abbrev iBc (b : Nat) (x : Int) : Nat × Obj := (b, .cells #[.int .i64 x] 3 (0, 0))
abbrev eBc (b : Nat) (x : Int) : Nat × Obj := (b, .cells #[.int .i64 x] 31 (0, 0))
def EachTc (fv : Bool) (ad : Option Addr) (n cap : Nat) (n0 : Nat) (v : Value) (m : Mem0) : Prop := ∃ b1, v = .func (.func 150) #[] #[.pointer (some ⟨b1, 0, none⟩)] ∧ m = [pB b1 fv ad n cap] ∧ n0 ≤ b1
theorem EachTc.mono {fv : Bool} {ad : Option Addr} {n cap : Nat} : ∀ (k k' : Nat) u m, k' ≤ k → EachTc fv ad n cap k u m → EachTc fv ad n cap k' u m := fun k k' u m h ⟨b1, h1, h2, h3⟩ => ⟨b1, h1, h2, by omega⟩
def SecsT (fv : Bool) (ad : Option Addr) (n cap : Nat) (n0 : Nat) (v : Value) (m : Mem0) : Prop := ∃ b1, v = .func (.func 99999) #[] #[.pointer (some ⟨b1, 0, none⟩)] ∧ m = [pB b1 fv ad n cap] ∧ n0 ≤ b1
theorem SecsT.mono {fv : Bool} {ad : Option Addr} {n cap : Nat} : ∀ (k k' : Nat) u m, k' ≤ k → SecsT fv ad n cap k u m → SecsT fv ad n cap k' u m := fun k k' u m h ⟨b1, h1, h2, h3⟩ => ⟨b1, h1, h2, by omega⟩
theorem fits_lt {T K : Bool} {q : Bool} {a : Int} {n : Nat} (hq : q = ((T || K) && decide (a ≥ n))) (h : q = false) (ht : T = true) : a < n := by
  rw [h, ht, Bool.true_or, Bool.true_and] at hq
  have := of_decide_eq_false hq.symm
  omega
set_option maxRecDepth 100000 in
set_option maxHeartbeats 1000000 in
theorem fits_spec {xs : List COp} {ls : List CLk} {fv : Bool} {ad ad2 : Option Addr} {n cap n2 cap2 : Nat} (i : Nat) (progs : Int) (w : World) (hn : n = xs.length) (hl : Sr fO 3 xs (.slice ad n cap) w) (hn2 : n2 = ls.length) (hl2 : Sr fL 5 ls (.slice ad2 n2 cap2) w) (hm0 : mayB xs = true) (hi : i < xs.length) : Ret Tryz.prog 130 #[pV fv ad n cap, .int .i64 (i : Nat), .slice ad2 n2 cap2, .int .i64 progs] w (fun v w' => v = .int .i64 (fitsO fv xs ls progs i) ∧ Ext w w') := by
 have hs := may_small hm0; have hr := right_a (may_at hm0 hi)
 refine Ret.enterM (l := [pV fv ad n cap, .int .i64 (i : Nat), .slice ad2 n2 cap2, .int .i64 progs]) Tryz.func130 rfl Tryz.ntmps130 rfl ([]) (no) (Mem.nil w) ?_
 refine wpM.seq (wpM.region ?_)
 refine LM.box rfl rfl (fun b4 hb4 => ?_)
 refine LM.as rfl ?_
 refine LM.nil (QM.sub (e' := [(1, _), (2, _), (3, _), (4, _)]) au9 (QM.then (wpM.seq (wpM.region ?_))))
 refine LM.val (ov_field Tryz.underlying87 rfl Tryz.sizeOf85 rfl (k := 1) rfl rfl) ?_
 refine LM.rd (om_ld Tryz.isAgg85 rfl rfl) ?_
 refine LM.mv rfl ?_
 refine LM.val (ov_idxSN au6 Tryz.underlying85 Tryz.sizeOf135 rfl rfl (by omega)) ?_
 first | refine LM.rd (om_slA (by assumption) (by intro _; rfl) Tryz.isAgg135 Tryz.sizeOf135 rfl au3) ?_ | refine LM.rdC (om_srEA (by assumption) (by intro _; rfl) Tryz.isAgg135 Tryz.sizeOf135 rfl au3 id) ?_ | refine LM.rd (om_ldW Tryz.isAgg135 Tryz.sizeOf135 rfl rfl) ?_ | refine LM.rd (om_ldA Tryz.isAgg135 Tryz.sizeOf135 rfl (vs := [_, _, _]) rfl ⟨rfl, rfl, rfl, trivial⟩) ?_
 refine LM.alloc Tryz.zeroValue135 rfl (fun b9 hb9 => ?_)
 refine LM.stW Tryz.sizeOf135 rfl rfl rfl rfl au7 au8 ?_
 refine LM.nil (QM.sub (e' := [(1, _), (2, _), (3, _), (4, _), (9, _)]) au9 (QM.then (wpM.seq (wpM.region ?_))))
 refine LM.val (ov_field Tryz.underlying135 rfl Tryz.sizeOf3 rfl (k := 0) rfl rfl) ?_
 refine LM.rd (om_ld Tryz.isAgg3 rfl rfl) ?_
 refine LM.callE (oc_call (enters_fn Tryz.func151 (by kernel_rfl) rfl) rfl) (fun w hm hc hg => takes_spec _ w) ?_
 refine LM.as rfl ?_
 refine LM.nil (QM.sub (e' := [(1, _), (2, _), (3, _), (4, _), (9, _), (10, _)]) au9 (QM.then ?_))
 refine wpM.seq ?_
 refine wpM.block ?_
 refine wpM.seq ?_
 refine wpM.seq ?_
 refine wpM.joinK (α := Bool) (fun q => [(20, .bool q)]) [(1, _), (2, _), (3, _), (4, _), (9, _), (10, _)] (fun q => oB b9 (xs.getD i default) :: pB b4 fv ad n cap :: []) (fun q => q = ((takesB (xs.getD i default).k || decide ((xs.getD i default).k = 6)) && decide ((xs.getD i default).a ≥ n2))) ⟨rfl, rfl, rfl, rfl, rfl, rfl, trivial⟩ ?_ ?_
 ·
  refine wpM.region ?_
  refine LM.mv rfl (LM.mv rfl ?_)
  first | refine LM.splitD (t := 22) rfl (fun h1 => ?_) (fun h1 => ?_) | refine LM.splitB (t := 22) rfl (fun h1 => ?_) (fun h1 => ?_)
  ·
   refine LM.dr 22 rfl rfl rfl (LM.dr 22 rfl rfl rfl (LM.dr 22 rfl rfl rfl ?_))
   refine LM.val (ov_pickT rfl rfl) ?_
   refine LM.mv rfl (LM.sp 27 rfl rfl rfl (LM.val (ov_field Tryz.underlying135 rfl Tryz.sizeOf3 rfl (k := 1) rfl rfl) (LM.sp 27 rfl rfl rfl ?_)))
   refine LM.rd (om_ld Tryz.isAgg3 rfl rfl) ?_
   refine LM.sp 27 rfl rfl rfl (LM.mv rfl (LM.sp 27 rfl rfl rfl ?_))
   refine LM.val (ov_len Tryz.underlying27 rfl) ?_
   refine LM.sp 27 rfl rfl rfl ?_
   refine LM.val (ov_geq rfl rfl) ?_
   refine LM.val (ov_pickT rfl rfl) ?_
   refine LM.as rfl ?_
   refine LM.nil (QM.sub (e' := [(1, _), (2, _), (3, _), (4, _), (9, _), (10, _), (20, _)]) au9 ?_)
   refine QM.meetK (_) ⟨au2, rfl, rfl, rfl, rfl, rfl, rfl, trivial⟩ au1 ?_
   · simp only [h1, decide_true, decide_false, Bool.true_and, Bool.false_and, Bool.and_true, Bool.and_false, Bool.not_true, Bool.not_false, Bool.true_or, Bool.false_or, Bool.or_true, Bool.or_false, ne_eq, not_true_eq_false, not_false_eq_true, Bool.and_self]
  refine LM.sp 22 rfl rfl rfl (LM.val (ov_field Tryz.underlying135 rfl Tryz.sizeOf3 rfl (k := 0) rfl rfl) (LM.sp 22 rfl rfl rfl ?_))
  refine LM.rd (om_ld Tryz.isAgg3 rfl rfl) ?_
  refine LM.sp 22 rfl rfl rfl ?_
  refine LM.val (ov_eql rfl rfl) ?_
  refine LM.val (ov_pickF rfl rfl) ?_
  refine LM.mv rfl ?_
  refine LM.splitD (t := 27) rfl (fun h2 => ?_) (fun h2 => ?_)
  ·
   refine LM.sp 27 rfl rfl rfl (LM.val (ov_field Tryz.underlying135 rfl Tryz.sizeOf3 rfl (k := 1) rfl rfl) (LM.sp 27 rfl rfl rfl ?_))
   refine LM.rd (om_ld Tryz.isAgg3 rfl rfl) ?_
   refine LM.sp 27 rfl rfl rfl (LM.mv rfl (LM.sp 27 rfl rfl rfl ?_))
   refine LM.val (ov_len Tryz.underlying27 rfl) ?_
   refine LM.sp 27 rfl rfl rfl ?_
   refine LM.val (ov_geq rfl rfl) ?_
   refine LM.val (ov_pickT rfl rfl) ?_
   refine LM.as rfl ?_
   refine LM.nil (QM.sub (e' := [(1, _), (2, _), (3, _), (4, _), (9, _), (10, _), (20, _)]) au9 ?_)
   refine QM.meetK (_) ⟨au2, rfl, rfl, rfl, rfl, rfl, rfl, trivial⟩ au1 ?_
   · simp only [h1, h2, decide_true, decide_false, Bool.true_and, Bool.false_and, Bool.and_true, Bool.and_false, Bool.not_true, Bool.not_false, Bool.true_or, Bool.false_or, Bool.or_true, Bool.or_false, ne_eq, not_true_eq_false, not_false_eq_true, Bool.and_self]
  refine LM.dr 27 rfl rfl rfl (LM.dr 27 rfl rfl rfl (LM.dr 27 rfl rfl rfl (LM.dr 27 rfl rfl rfl (LM.dr 27 rfl rfl rfl ?_))))
  refine LM.val (ov_pickF rfl rfl) ?_
  refine LM.as rfl ?_
  refine LM.nil (QM.sub (e' := [(1, _), (2, _), (3, _), (4, _), (9, _), (10, _), (20, _)]) au9 ?_)
  refine QM.meetK (_) ⟨au2, rfl, rfl, rfl, rfl, rfl, rfl, trivial⟩ au1 ?_
  · simp only [h1, h2, decide_true, decide_false, Bool.true_and, Bool.false_and, Bool.and_true, Bool.and_false, Bool.not_true, Bool.not_false, Bool.true_or, Bool.false_or, Bool.or_true, Bool.or_false, ne_eq, not_true_eq_false, not_false_eq_true, Bool.and_self]
 rintro q hq
 change QM _ _ _ _ _ (oB b9 (xs.getD i default) :: pB b4 fv ad n cap :: []) _ _ _
 refine QM.then ?_
 first | refine wpM.condXD (t := 20) rfl (fun h3 => ?_) (fun h3 => ?_) | refine wpM.condXB (t := 20) rfl (fun h3 => ?_) (fun h3 => ?_)
 ·
  refine wpM.skip ?_
  refine QM.then ?_
  refine wpM.condT rfl ?_
  refine wpM.seq (wpM.region ?_)
  refine LM.as rfl ?_
  refine LM.nil (QM.sub (e' := [(8, _)]) ⟨rfl, trivial⟩ (QM.then ?_))
  refine wpM.ret ?_
  refine QM.block_ret ?_
  refine QM.then_ret ?_
  refine QM.leave (.inl rfl) [.tmp 8] Tryz.results130 rfl ?_
  intro w' hm' hc' hg'
  refine ⟨?_, hc'⟩; simp only [resV, fitsO, ← hn, ← hn2, ← hq]; simp only [h3, decide_true, decide_false, Bool.true_and, Bool.false_and, Bool.and_true, Bool.and_false, Bool.not_true, Bool.not_false, Bool.true_or, Bool.false_or, Bool.or_true, Bool.or_false, ne_eq, not_true_eq_false, not_false_eq_true, Bool.and_self, if_true, ite_true]
 refine wpM.joinK (α := Bool) (fun q2 => [(20, .bool q2)]) [(1, _), (2, _), (4, _), (9, _), (10, _)] (fun q2 => oB b9 (xs.getD i default) :: pB b4 fv ad n cap :: []) (fun q2 => q2 = (decide ((xs.getD i default).k = 9) && decide ((xs.getD i default).a ≥ progs))) ⟨rfl, rfl, rfl, rfl, rfl, trivial⟩ ?_ ?_
 ·
  refine wpM.region ?_
  refine LM.val (ov_field Tryz.underlying135 rfl Tryz.sizeOf3 rfl (k := 0) rfl rfl) ?_
  refine LM.rd (om_ld Tryz.isAgg3 rfl rfl) ?_
  refine LM.val (ov_eql rfl rfl) ?_
  refine LM.mv rfl ?_
  refine LM.splitD (t := 37) rfl (fun h4 => ?_) (fun h4 => ?_)
  ·
   refine LM.sp 37 rfl rfl rfl (LM.val (ov_field Tryz.underlying135 rfl Tryz.sizeOf3 rfl (k := 1) rfl rfl) (LM.sp 37 rfl rfl rfl ?_))
   refine LM.rd (om_ld Tryz.isAgg3 rfl rfl) ?_
   refine LM.sp 37 rfl rfl rfl (LM.mv rfl (LM.sp 37 rfl rfl rfl ?_))
   refine LM.val (ov_geq rfl rfl) ?_
   refine LM.val (ov_pickT rfl rfl) ?_
   refine LM.as rfl ?_
   refine LM.nil (QM.sub (e' := [(1, _), (2, _), (4, _), (9, _), (10, _), (20, _)]) au9 ?_)
   refine QM.meetK (_) ⟨au2, rfl, rfl, rfl, rfl, rfl, trivial⟩ au1 ?_
   · simp only [h3, h4, decide_true, decide_false, Bool.true_and, Bool.false_and, Bool.and_true, Bool.and_false, Bool.not_true, Bool.not_false, Bool.true_or, Bool.false_or, Bool.or_true, Bool.or_false, ne_eq, not_true_eq_false, not_false_eq_true, Bool.and_self]
  refine LM.dr 37 rfl rfl rfl (LM.dr 37 rfl rfl rfl (LM.dr 37 rfl rfl rfl (LM.dr 37 rfl rfl rfl ?_)))
  refine LM.val (ov_pickF rfl rfl) ?_
  refine LM.as rfl ?_
  refine LM.nil (QM.sub (e' := [(1, _), (2, _), (4, _), (9, _), (10, _), (20, _)]) au9 ?_)
  refine QM.meetK (_) ⟨au2, rfl, rfl, rfl, rfl, rfl, trivial⟩ au1 ?_
  · simp only [h3, h4, decide_true, decide_false, Bool.true_and, Bool.false_and, Bool.and_true, Bool.and_false, Bool.not_true, Bool.not_false, Bool.true_or, Bool.false_or, Bool.or_true, Bool.or_false, ne_eq, not_true_eq_false, not_false_eq_true, Bool.and_self]
 rintro q2 hq2
 change QM _ _ _ _ _ (oB b9 (xs.getD i default) :: pB b4 fv ad n cap :: []) _ _ _
 refine QM.then ?_
 first | refine wpM.condD rfl (fun h5 => ?_) (fun h5 => ?_) | refine wpM.condB rfl (fun h5 => ?_) (fun h5 => ?_)
 ·
  refine wpM.seq (wpM.region ?_)
  refine LM.as rfl ?_
  refine LM.nil (QM.sub (e' := [(8, _)]) ⟨rfl, trivial⟩ (QM.then ?_))
  refine wpM.ret ?_
  refine QM.block_ret ?_
  refine QM.then_ret ?_
  refine QM.leave (.inl rfl) [.tmp 8] Tryz.results130 rfl ?_
  intro w' hm' hc' hg'
  refine ⟨?_, hc'⟩; simp only [resV, fitsO, ← hn, ← hn2, ← hq, ← hq2]; simp only [h3, h5, decide_true, decide_false, Bool.true_and, Bool.false_and, Bool.and_true, Bool.and_false, Bool.not_true, Bool.not_false, Bool.true_or, Bool.false_or, Bool.or_true, Bool.or_false, ne_eq, not_true_eq_false, not_false_eq_true, Bool.and_self, if_true, ite_true]
 refine wpM.seq ?_
 refine wpM.joinK (α := Bool) (fun q3 => [(43, .bool q3)]) [(1, _), (2, _), (4, _), (9, _), (10, _)] (fun q3 => oB b9 (xs.getD i default) :: pB b4 fv ad n cap :: []) (fun q3 => q3 = (decide ((xs.getD i default).k = 3) && !(ls.getD (xs.getD i default).a.toNat default).sh)) ⟨rfl, rfl, rfl, rfl, rfl, trivial⟩ ?_ ?_
 ·
  refine wpM.region ?_
  refine LM.val (ov_field Tryz.underlying135 rfl Tryz.sizeOf3 rfl (k := 0) rfl rfl) ?_
  refine LM.rd (om_ld Tryz.isAgg3 rfl rfl) ?_
  refine LM.val (ov_eql rfl rfl) ?_
  refine LM.mv rfl ?_
  refine LM.splitD (t := 47) rfl (fun h6 => ?_) (fun h6 => ?_)
  ·
   have hlt := fits_lt hq h3 (by rw [h6]; rfl)
   refine LM.sp 47 rfl rfl rfl (LM.mv rfl (LM.sp 47 rfl rfl rfl (LM.val (ov_field Tryz.underlying135 rfl Tryz.sizeOf3 rfl (k := 1) rfl rfl) (LM.sp 47 rfl rfl rfl ?_))))
   refine LM.rd (om_ld Tryz.isAgg3 rfl rfl) ?_
   refine LM.sp 47 rfl rfl rfl ?_
   first | refine LM.val (ov_idxSN au6 Tryz.underlying27 Tryz.sizeOf63 rfl rfl (by omega)) ?_ | refine LM.val (ov_idxS au6 Tryz.underlying27 Tryz.sizeOf63 rfl rfl (by omega)) ?_ | refine LM.val (ov_idx Tryz.underlying27 Tryz.sizeOf63 rfl rfl (by omega)) ?_
   refine LM.sp 47 rfl rfl rfl (LM.val (ov_field Tryz.underlying63 rfl Tryz.sizeOf4 rfl (k := 0) rfl rfl) (LM.sp 47 rfl rfl rfl ?_))
   first | refine LM.rd (om_slE (j := 0) (by assumption) (by intro _; rfl) Tryz.isAgg4 rfl rfl au3 rfl (by rfl)) ?_ | refine LM.rdC (om_srE (j := 0) (by assumption) Tryz.isAgg4 rfl rfl au3 (by rfl) (by rfl) id) ?_ | refine LM.rd (om_ld Tryz.isAgg4 rfl rfl) ?_
   refine LM.sp 47 rfl rfl rfl ?_
   first | refine LM.val (ov_notD rfl) ?_ | refine LM.val (ov_not rfl) ?_
   refine LM.val (ov_pickT rfl rfl) ?_
   refine LM.as rfl ?_
   refine LM.nil (QM.sub (e' := [(1, _), (2, _), (4, _), (9, _), (10, _), (43, _)]) au9 ?_)
   refine QM.meetK (_) ⟨au2, rfl, rfl, rfl, rfl, rfl, trivial⟩ au1 ?_
   · simp only [h3, h5, h6, decide_true, decide_false, Bool.true_and, Bool.false_and, Bool.and_true, Bool.and_false, Bool.not_true, Bool.not_false, Bool.true_or, Bool.false_or, Bool.or_true, Bool.or_false, ne_eq, not_true_eq_false, not_false_eq_true, Bool.and_self]
  refine LM.dr 47 rfl rfl rfl (LM.dr 47 rfl rfl rfl (LM.dr 47 rfl rfl rfl (LM.dr 47 rfl rfl rfl (LM.dr 47 rfl rfl rfl (LM.dr 47 rfl rfl rfl ?_)))))
  refine LM.dr 47 rfl rfl rfl ?_
  refine LM.val (ov_pickF rfl rfl) ?_
  refine LM.as rfl ?_
  refine LM.nil (QM.sub (e' := [(1, _), (2, _), (4, _), (9, _), (10, _), (43, _)]) au9 ?_)
  refine QM.meetK (_) ⟨au2, rfl, rfl, rfl, rfl, rfl, trivial⟩ au1 ?_
  · simp only [h3, h5, h6, decide_true, decide_false, Bool.true_and, Bool.false_and, Bool.and_true, Bool.and_false, Bool.not_true, Bool.not_false, Bool.true_or, Bool.false_or, Bool.or_true, Bool.or_false, ne_eq, not_true_eq_false, not_false_eq_true, Bool.and_self]
 rintro q3 hq3
 change QM _ _ _ _ _ (oB b9 (xs.getD i default) :: pB b4 fv ad n cap :: []) _ _ _
 refine QM.then ?_
 first | refine wpM.condD rfl (fun h7 => ?_) (fun h7 => ?_) | refine wpM.condB rfl (fun h7 => ?_) (fun h7 => ?_)
 ·
  refine wpM.seq (wpM.region ?_)
  refine LM.as rfl ?_
  refine LM.nil (QM.sub (e' := [(8, _)]) ⟨rfl, trivial⟩ (QM.then ?_))
  refine wpM.ret ?_
  refine QM.block_ret ?_
  refine QM.then_ret ?_
  refine QM.leave (.inl rfl) [.tmp 8] Tryz.results130 rfl ?_
  intro w' hm' hc' hg'
  refine ⟨?_, hc'⟩; simp only [resV, fitsO, ← hn, ← hn2, ← hq, ← hq2, ← hq3]; simp only [h3, h5, h7, decide_true, decide_false, Bool.true_and, Bool.false_and, Bool.and_true, Bool.and_false, Bool.not_true, Bool.not_false, Bool.true_or, Bool.false_or, Bool.or_true, Bool.or_false, ne_eq, not_true_eq_false, not_false_eq_true, Bool.and_self, if_true, if_false, ite_true, Bool.false_eq_true]
 refine wpM.seq (wpM.region ?_)
 refine LM.mv rfl ?_
 first | refine LM.val (ov_notD rfl) ?_ | refine LM.val (ov_not rfl) ?_
 refine LM.as rfl ?_
 refine LM.nil (QM.sub (e' := [(1, _), (2, _), (4, _), (9, _), (56, _)]) au9 (QM.then ?_))
 first | refine wpM.condD rfl (fun h8 => ?_) (fun h8 => ?_) | refine wpM.condB rfl (fun h8 => ?_) (fun h8 => ?_)
 ·
  refine wpM.seq (wpM.region ?_)
  refine LM.as rfl ?_
  refine LM.nil (QM.sub (e' := [(8, _)]) ⟨rfl, trivial⟩ (QM.then ?_))
  refine wpM.ret ?_
  refine QM.block_ret ?_
  refine QM.then_ret ?_
  refine QM.leave (.inl rfl) [.tmp 8] Tryz.results130 rfl ?_
  intro w' hm' hc' hg'
  refine ⟨?_, hc'⟩; simp only [resV, fitsO, ← hn, ← hn2, ← hq, ← hq2, ← hq3]; simp only [h3, h5, h7, h8, decide_true, decide_false, Bool.true_and, Bool.false_and, Bool.and_true, Bool.and_false, Bool.not_true, Bool.not_false, Bool.true_or, Bool.false_or, Bool.or_true, Bool.or_false, ne_eq, not_true_eq_false, not_false_eq_true, Bool.and_self, if_true, if_false, ite_true, Bool.false_eq_true]
 have hlt := fits_lt hq h3 (by simpa using h8)
 refine wpM.skip ?_
 refine QM.block_normal ?_
 refine QM.then (wpM.seq (wpM.region ?_))
 refine LM.rd (om_ldW Tryz.isAgg87 Tryz.sizeOf87 rfl rfl) ?_
 refine LM.mv rfl ?_
 refine LM.callE (oc_call (enters_fn Tryz.func152 (by kernel_rfl) rfl) rfl) (fun w hm hc hg => section_spec i w hn (hl.ext hc) hs hi) ?_
 refine LM.alloc Tryz.zeroValue140 rfl (fun b11 hb11 => ?_)
 refine LM.stW Tryz.sizeOf140 rfl rfl rfl rfl au7 au8 ?_
 refine LM.nil (QM.sub (e' := [(2, _), (4, _), (9, _), (11, _)]) au9 (QM.then ?_))
 refine wpM.seq ?_
 refine wpM.seq ?_
 refine wpM.joinK (α := Bool) (fun q4 => [(87, .bool q4)]) [] (fun q4 => []) (fun q4 => q4 = (decide ((secO xs i).2 < 1) || decide ((secO xs i).2 > (ls.getD (xs.getD i default).a.toNat default).cr) || fv && decide (((i + 1 + (secO xs i).1 : Nat) : Int) = n))) trivial ?_ ?_
 ·
  refine wpM.draw [(0, 0), (1, 1), (2, 0), (3, 0), (4, 0), (5, 1), (6, 0), (7, 0), (8, 1), (9, 0), (10, 0), (11, 1), (12, 0), (13, 0), (14, 0), (15, 0), (16, 1), (17, 0), (18, 0), (19, 1), (20, 0), (21, 1), (22, 0), (23, 0), (24, 0), (25, 0)] (by kernel_rfl) (by kernel_rfl) ?_
  refine LD.val rfl rfl (ov_field Tryz.underlying140 rfl Tryz.sizeOf3 rfl (k := 3) rfl rfl) ?_
  refine LD.rd rfl rfl (om_ld Tryz.isAgg3 rfl rfl) ?_
  refine LD.val rfl rfl (ov_lss rfl rfl) ?_
  refine LD.val rfl rfl (ov_move rfl) ?_
  refine LD.splitD (t := 65) rfl (fun h9 => ?_) (fun h9 => ?_)
  ·
   refine LD.drop rfl rfl ⟨65, _, rfl, rfl, rfl⟩ ?_
   refine LD.drop rfl rfl ⟨65, _, rfl, rfl, rfl⟩ ?_
   refine LD.drop rfl rfl ⟨65, _, rfl, rfl, rfl⟩ ?_
   refine LD.drop rfl rfl ⟨65, _, rfl, rfl, rfl⟩ ?_
   refine LD.drop rfl rfl ⟨65, _, rfl, rfl, rfl⟩ ?_
   refine LD.drop rfl rfl ⟨65, _, rfl, rfl, rfl⟩ ?_
   refine LD.drop rfl rfl ⟨65, _, rfl, rfl, rfl⟩ ?_
   refine LD.drop rfl rfl ⟨65, _, rfl, rfl, rfl⟩ ?_
   refine LD.drop rfl rfl ⟨65, _, rfl, rfl, rfl⟩ ?_
   refine LD.val rfl rfl (ov_pickT rfl rfl) ?_
   refine LD.val rfl rfl (ov_move rfl) ?_
   refine LD.drop rfl rfl ⟨76, _, rfl, rfl, rfl⟩ ?_
   refine LD.drop rfl rfl ⟨76, _, rfl, rfl, rfl⟩ ?_
   refine LD.dropU rfl rfl ⟨76, _, rfl, rfl, rfl⟩ ?_
   refine LD.dropX rfl rfl rfl rfl ?_
   refine LD.dropX rfl rfl rfl rfl ?_
   refine LD.dropX rfl rfl rfl rfl ?_
   refine LD.dropX rfl rfl rfl rfl ?_
   refine LD.dropX rfl rfl rfl rfl ?_
   refine LD.dropX rfl rfl rfl rfl ?_
   refine LD.drop rfl rfl ⟨76, _, rfl, rfl, rfl⟩ ?_
   refine LD.val rfl rfl (ov_pickT rfl rfl) ?_
   refine LD.nil ?_
   refine QM.sub (e' := [(87, _)]) ⟨rfl, trivial⟩ ?_
   refine QM.meetK (_) ⟨au2, trivial⟩ au1 ?_
   · simp only [h3, h5, h7, h8, h9, decide_true, decide_false, Bool.true_and, Bool.false_and, Bool.and_true, Bool.and_false, Bool.not_true, Bool.not_false, Bool.true_or, Bool.false_or, Bool.or_true, Bool.or_false, ne_eq, not_true_eq_false, not_false_eq_true, Bool.and_self]
  refine LD.val rfl ⟨65, _, rfl, rfl, rfl⟩ (ov_field Tryz.underlying140 rfl Tryz.sizeOf3 rfl (k := 3) rfl rfl) ?_
  refine LD.rd rfl ⟨65, _, rfl, rfl, rfl⟩ (om_ld Tryz.isAgg3 rfl rfl) ?_
  refine LD.val rfl ⟨65, _, rfl, rfl, rfl⟩ (ov_move rfl) ?_
  refine LD.val rfl ⟨65, _, rfl, rfl, rfl⟩ (ov_field Tryz.underlying135 rfl Tryz.sizeOf3 rfl (k := 1) rfl rfl) ?_
  refine LD.rd rfl ⟨65, _, rfl, rfl, rfl⟩ (om_ld Tryz.isAgg3 rfl rfl) ?_
  first | refine LD.val rfl ⟨65, _, rfl, rfl, rfl⟩ (ov_idxSN au6 Tryz.underlying27 Tryz.sizeOf63 rfl rfl (by omega)) ?_ | refine LD.val rfl ⟨65, _, rfl, rfl, rfl⟩ (ov_idxS au6 Tryz.underlying27 Tryz.sizeOf63 rfl rfl (by omega)) ?_ | refine LD.val rfl ⟨65, _, rfl, rfl, rfl⟩ (ov_idx Tryz.underlying27 Tryz.sizeOf63 rfl rfl (by omega)) ?_
  refine LD.val rfl ⟨65, _, rfl, rfl, rfl⟩ (ov_field Tryz.underlying63 rfl Tryz.sizeOf3 rfl (k := 2) rfl rfl) ?_
  first | refine LD.rd rfl ⟨65, _, rfl, rfl, rfl⟩ (om_slE (j := 2) (by assumption) (by intro _; rfl) Tryz.isAgg3 rfl rfl au3 rfl (by rfl)) ?_ | refine LD.rdC rfl ⟨65, _, rfl, rfl, rfl⟩ (om_srE (j := 2) (by assumption) Tryz.isAgg3 rfl rfl au3 (by rfl) (by rfl) id) ?_ | refine LD.rd rfl ⟨65, _, rfl, rfl, rfl⟩ (om_ld Tryz.isAgg3 rfl rfl) ?_
  refine LD.val rfl ⟨65, _, rfl, rfl, rfl⟩ (ov_gtr rfl rfl) ?_
  refine LD.val rfl rfl (ov_pickF rfl rfl) ?_
  refine LD.val rfl rfl (ov_move rfl) ?_
  refine LD.splitD (t := 76) rfl (fun h10 => ?_) (fun h10 => ?_)
  ·
   refine LD.drop rfl rfl ⟨76, _, rfl, rfl, rfl⟩ ?_
   refine LD.drop rfl rfl ⟨76, _, rfl, rfl, rfl⟩ ?_
   refine LD.dropU rfl rfl ⟨76, _, rfl, rfl, rfl⟩ ?_
   refine LD.dropX rfl rfl rfl rfl ?_
   refine LD.dropX rfl rfl rfl rfl ?_
   refine LD.dropX rfl rfl rfl rfl ?_
   refine LD.dropX rfl rfl rfl rfl ?_
   refine LD.dropX rfl rfl rfl rfl ?_
   refine LD.dropX rfl rfl rfl rfl ?_
   refine LD.drop rfl rfl ⟨76, _, rfl, rfl, rfl⟩ ?_
   refine LD.val rfl rfl (ov_pickT rfl rfl) ?_
   refine LD.nil ?_
   refine QM.sub (e' := [(87, _)]) ⟨rfl, trivial⟩ ?_
   refine QM.meetK (_) ⟨au2, trivial⟩ au1 ?_
   · simp only [h3, h5, h7, h8, h9, h10, decide_true, decide_false, Bool.true_and, Bool.false_and, Bool.and_true, Bool.and_false, Bool.not_true, Bool.not_false, Bool.true_or, Bool.false_or, Bool.or_true, Bool.or_false, ne_eq, not_true_eq_false, not_false_eq_true, Bool.and_self]
  refine LD.val rfl ⟨76, _, rfl, rfl, rfl⟩ (ov_field Tryz.underlying87 rfl Tryz.sizeOf4 rfl (k := 0) rfl rfl) ?_
  refine LD.rd rfl ⟨76, _, rfl, rfl, rfl⟩ (om_ld Tryz.isAgg4 rfl rfl) ?_
  refine LD.val rfl ⟨76, _, rfl, rfl, rfl⟩ (ov_move rfl) ?_
  first | refine LD.splitD (t := 79) rfl (fun h11 => ?_) (fun h11 => ?_) | refine LD.splitB (t := 79) rfl (fun h11 => ?_) (fun h11 => ?_)
  ·
   refine LD.val rfl ⟨79, _, rfl, rfl, rfl⟩ (ov_field Tryz.underlying140 rfl Tryz.sizeOf3 rfl (k := 1) rfl rfl) ?_
   refine LD.rd rfl ⟨79, _, rfl, rfl, rfl⟩ (om_ld Tryz.isAgg3 rfl rfl) ?_
   refine LD.val rfl ⟨79, _, rfl, rfl, rfl⟩ (ov_field Tryz.underlying87 rfl Tryz.sizeOf85 rfl (k := 1) rfl rfl) ?_
   refine LD.rd rfl ⟨79, _, rfl, rfl, rfl⟩ (om_ld Tryz.isAgg85 rfl rfl) ?_
   refine LD.val rfl ⟨79, _, rfl, rfl, rfl⟩ (ov_len Tryz.underlying85 rfl) ?_
   refine LD.val rfl ⟨79, _, rfl, rfl, rfl⟩ (ov_eql rfl rfl) ?_
   refine LD.val rfl ⟨76, _, rfl, rfl, rfl⟩ (ov_pickT rfl rfl) ?_
   refine LD.val rfl rfl (ov_pickF rfl rfl) ?_
   refine LD.nil ?_
   refine QM.sub (e' := [(87, _)]) ⟨rfl, trivial⟩ ?_
   refine QM.meetK (_) ⟨au2, trivial⟩ au1 ?_
   · simp only [h3, h5, h7, h8, h9, h10, h11, decide_true, decide_false, Bool.true_and, Bool.false_and, Bool.and_true, Bool.and_false, Bool.not_true, Bool.not_false, Bool.true_or, Bool.false_or, Bool.or_true, Bool.or_false, ne_eq, not_true_eq_false, not_false_eq_true, Bool.and_self]
  refine LD.drop rfl rfl ⟨79, _, rfl, rfl, rfl⟩ ?_
  refine LD.drop rfl rfl ⟨79, _, rfl, rfl, rfl⟩ ?_
  refine LD.drop rfl rfl ⟨79, _, rfl, rfl, rfl⟩ ?_
  refine LD.drop rfl rfl ⟨79, _, rfl, rfl, rfl⟩ ?_
  refine LD.drop rfl rfl ⟨79, _, rfl, rfl, rfl⟩ ?_
  refine LD.drop rfl rfl ⟨79, _, rfl, rfl, rfl⟩ ?_
  refine LD.val rfl ⟨76, _, rfl, rfl, rfl⟩ (ov_pickF rfl rfl) ?_
  refine LD.val rfl rfl (ov_pickF rfl rfl) ?_
  refine LD.nil ?_
  refine QM.sub (e' := [(87, _)]) ⟨rfl, trivial⟩ ?_
  refine QM.meetK (_) ⟨au2, trivial⟩ au1 ?_
  · simp only [h3, h5, h7, h8, h9, h10, h11, decide_true, decide_false, Bool.true_and, Bool.false_and, Bool.and_true, Bool.and_false, Bool.not_true, Bool.not_false, Bool.true_or, Bool.false_or, Bool.or_true, Bool.or_false, ne_eq, not_true_eq_false, not_false_eq_true, Bool.and_self]
 rintro q4 hq4
 change QM _ _ _ _ _ ([]) _ _ _
 refine QM.then ?_
 first | refine wpM.condD rfl (fun h12 => ?_) (fun h12 => ?_) | refine wpM.condB rfl (fun h12 => ?_) (fun h12 => ?_)
 ·
  refine wpM.seq (wpM.region ?_)
  refine LM.as rfl ?_
  refine LM.nil (QM.sub (e' := [(8, _)]) ⟨rfl, trivial⟩ (QM.then ?_))
  refine wpM.ret ?_
  refine QM.then_ret ?_
  refine QM.leave (.inl rfl) [.tmp 8] Tryz.results130 rfl ?_
  intro w' hm' hc' hg'
  refine ⟨?_, hc'⟩; simp only [resV, fitsO, ← hn, ← hn2, ← hq, ← hq2, ← hq3, ← hq4]; simp only [h3, h5, h7, h8, h12, decide_true, decide_false, Bool.true_and, Bool.false_and, Bool.and_true, Bool.and_false, Bool.not_true, Bool.not_false, Bool.true_or, Bool.false_or, Bool.or_true, Bool.or_false, ne_eq, not_true_eq_false, not_false_eq_true, Bool.and_self, if_true, if_false, ite_true, Bool.false_eq_true]
 refine wpM.skip ?_
 refine QM.then (wpM.seq (wpM.region ?_))
 refine LM.as rfl ?_
 refine LM.nil (QM.sub (e' := [(8, _)]) ⟨rfl, trivial⟩ (QM.then ?_))
 refine wpM.ret ?_
 refine QM.leave (.inl rfl) [.tmp 8] Tryz.results130 rfl ?_
 intro w' hm' hc' hg'
 refine ⟨?_, hc'⟩; simp only [resV, fitsO, ← hn, ← hn2, ← hq, ← hq2, ← hq3, ← hq4]; simp only [h3, h5, h7, h8, h12, decide_true, decide_false, Bool.true_and, Bool.false_and, Bool.and_true, Bool.and_false, Bool.not_true, Bool.not_false, Bool.true_or, Bool.false_or, Bool.or_true, Bool.or_false, ne_eq, not_true_eq_false, not_false_eq_true, Bool.and_self, if_true, if_false, ite_true, Bool.false_eq_true]
set_option maxRecDepth 100000 in
theorem each_specC (fv : Bool) (ad : Option Addr) (n cap : Nat) (w : World) : Ret Tryz.prog 129 #[pV fv ad n cap] w (fun v w' => Ext w w' ∧ ∃ m, EachTc fv ad n cap w.heap.size v m ∧ Mem w' m ∧ ∀ p ∈ m, w.heap.size ≤ p.1) := by
 refine Ret.enterM (l := [pV fv ad n cap]) Tryz.func129 rfl Tryz.ntmps129 rfl ([]) (no) (Mem.nil w) ?_
 refine wpM.seq (wpM.region ?_)
 refine LM.box rfl rfl (fun b1 hb1 => ?_)
 refine LM.as rfl ?_
 refine LM.nil (QM.sub (e' := [(1, _)]) ⟨rfl, trivial⟩ (QM.then (wpM.seq (wpM.region ?_))))
 refine LM.val (ov_makeFunc rfl) ?_
 refine LM.as rfl ?_
 refine LM.nil (QM.sub (e' := [(2, _)]) ⟨rfl, trivial⟩ (QM.then ?_))
 refine wpM.ret ?_
 refine QM.leave (.inl rfl) [.tmp 2] Tryz.results129 rfl ?_
 intro w' hm' hc' hg'
 exact ⟨hc', _, ⟨b1, rfl, rfl, hb1⟩, hm', fun p hp => by simp only [List.mem_cons, List.not_mem_nil, or_false] at hp; subst hp; assumption⟩
set_option maxRecDepth 100000 in
set_option maxHeartbeats 1000000 in
theorem each_seqC {xs : List COp} {fv : Bool} {ad : Option Addr} {n cap : Nat} {b1 : Nat} (hn : n = xs.length) (hx2 : xs.length ≤ 1000000000000) : SeqC Tryz.prog 150 #[.pointer (some ⟨b1, 0, none⟩)] (eachA xs) (fun w => Mem w [pB b1 fv ad n cap] ∧ Sr fO 3 xs (.slice ad n cap) w) (True) := by
 refine SeqC.enter (lb := [.pointer (some ⟨b1, 0, none⟩)]) Tryz.func150 rfl Tryz.ntmps150 rfl ?_
 intro l n0 J Jx w0 hfin hJr gJ gJx hy
 refine wpM.seq (wpM.region ?_)
 refine LM.val (ov_field Tryz.underlying87 rfl Tryz.sizeOf85 rfl (k := 1) rfl rfl) ?_
 refine LM.rdC (fun w _ _ hg => om_load 0 Tryz.isAgg85 rfl rfl rfl w (hJr _ w hg).1) ?_
 refine LM.val (ov_len Tryz.underlying85 rfl) ?_
 refine LM.mv rfl ?_
 refine LM.nil (QM.sub (e' := [(0, _), (6, _), (7, _), (8, _)]) au9 (QM.then ?_))
 refine wpM.block ?_
 refine wpM.loopK (α := Nat) (fun i => [(8, .int .i64 (i : Nat))]) [(0, _), (6, _), (7, _)] (fun i => []) (fun i => J i) (fun i => i ≤ xs.length) (fun i => xs.length - i) (0) ⟨au2, rfl, rfl, rfl, trivial⟩ au1 (fun _ h => h) (Nat.zero_le _) ?_
 rintro i hi
 change wpM _ _ _ _ _ _ _ ([]) _ _ _
 refine wpM.seq (wpM.region ?_)
 refine LM.val (ov_lss rfl rfl) ?_
 refine LM.nil (QM.sub (e' := [(0, _), (6, _), (7, _), (8, _), (9, _)]) au9 (QM.then ?_))
 refine wpM.seq ?_
 refine wpM.condD rfl (fun h1 => ?_) (fun h1 => ?_)
 ·
  refine wpM.skip ?_
  refine QM.then ?_
  refine wpM.seq ?_
  refine wpM.block ?_
  refine wpM.seq (wpM.region ?_)
  refine LM.mv rfl ?_
  refine LM.know (fun w _ _ hg => (hJr _ w hg).2.spt) (fun hsp => ?_); refine LM.val (ov_idxSN hsp Tryz.underlying85 Tryz.sizeOf135 rfl rfl (by omega)) ?_
  refine LM.rdC (fun w hm hc hg => ow_srEA (hJr _ w hg).2 (by intro _; rfl) Tryz.isAgg135 Tryz.sizeOf135 rfl (getq default (by omega))) ?_
  refine LM.allocF Tryz.zeroValue135 rfl (fun b4 hb4 => ?_)
  refine LM.as rfl ?_
  refine LM.stWF Tryz.sizeOf135 rfl rfl rfl rfl au7 au8 (by omega) ?_
  refine LM.unF ?_
  refine LM.nil (QM.sub (e' := [(0, _), (3, _), (4, _), (6, _), (7, _), (8, _)]) au9 (QM.then (wpM.seq (wpM.region ?_))))
  refine LM.mv rfl (LM.mv rfl ?_)
  refine LM.rd (om_ldW Tryz.isAgg135 Tryz.sizeOf135 rfl rfl) ?_
  refine LM.mem (M' := []) (fun w _ => Mem.nil w) ?_
  refine LM.yield (n := n0) (G1 := J (i + 1)) (G2 := Jx) rfl rfl (fun w hj => hy (i) _ w (eachA_get (by omega)) hj) (fun _ => trivial) ?_ ?_
  ·
   first | refine LM.val (ov_notD rfl) ?_ | refine LM.val (ov_not rfl) ?_
   refine LM.nil (QM.sub (e' := [(0, _), (6, _), (7, _), (8, _), (17, _)]) au9 (QM.then ?_))
   refine wpM.condF rfl ?_
   refine wpM.skip ?_
   refine QM.block_normal ?_
   refine QM.then (wpM.region ?_)
   refine LM.val (ov_add64 rfl rfl (by omega)) ?_
   refine LM.mv rfl ?_
   refine LM.nil (QM.sub (e' := [(0, _), (6, _), (7, _), (8, _)]) au9 ?_)
   refine QM.againK (i + 1) ⟨au2, rfl, rfl, rfl, trivial⟩ au1 (fun w h => h) ?_ ?_
   · omega
   · omega
  first | refine LM.val (ov_notD rfl) ?_ | refine LM.val (ov_not rfl) ?_
  refine LM.nil (QM.sub (e' := [(0, _), (6, _), (7, _), (8, _), (17, _)]) au9 (QM.then ?_))
  refine wpM.condT rfl ?_
  refine wpM.ret ?_
  refine QM.block_ret ?_
  refine QM.then_ret ?_
  refine QM.then_ret ?_
  refine QM.block_ret ?_
  refine QM.leave (.inl rfl) [] Tryz.results150 rfl ?_
  intro w' hm' hc' hg'
  exact .inr hg'
 refine wpM.exit ?_
 refine QM.then_exit ?_
 refine QM.then_exit ?_
 refine QM.block_hit ?_
 refine QM.leave (.inr rfl) [] Tryz.results150 rfl ?_
 intro w' hm' hc' hg'
 first | exact .inr hg' | (have hil : i = xs.length := (by omega); subst hil; exact .inl (by rw [eachA_len]; exact hg'))
end Go.Eng
namespace Go.Eng
open Go Go.Proofs Go.RowKit
def ckV (fv : Bool) (xs : List COp) (ls : List CLk) (progs : Int) : Value := .tuple #[.int .i64 (ckO fv xs ls progs).1, .int .i64 (ckO fv xs ls progs).2]
theorem fits_lt2 {T K r : Bool} {q : Bool} {a : Int} {n : Nat} (hq : q = ((T || K) && decide (a ≥ n) || r)) (h : q = false) (ht : T = true) : a < n := by
  rw [h, ht, Bool.true_or, Bool.true_and] at hq
  have := (Bool.or_eq_false_iff.1 hq.symm).1
  have := of_decide_eq_false this
  omega
theorem ckV_at {fv : Bool} {xs : List COp} {ls : List CLk} {progs e : Int} {i : Nat} (h : mayB xs = true) (h0 : ∀ j, j < i → fitsO fv xs ls progs j = 0) (hi : i < xs.length) (hf : fitsO fv xs ls progs i = e) (he : e ≠ 0) : ckV fv xs ls progs = .tuple #[.int .i64 (i : Nat), .int .i64 e] := by
  unfold ckV; rw [ck_at h h0 hi (by rw [hf]; exact he), hf]
theorem ckV_end {fv : Bool} {xs : List COp} {ls : List CLk} {progs : Int} {b : Bool} (h : mayB xs = true) (h0 : ∀ j, j < xs.length → fitsO fv xs ls progs j = 0) (hb : (fv && !xs.any (fun o => passB o.k)) = b) : ckV fv xs ls progs = .tuple #[.int .i64 0, .int .i64 (if b then 1 else 0)] := by
  unfold ckV; rw [ck_end h h0, hb]; cases b <;> rfl
theorem ckV_none {fv : Bool} {xs : List COp} {ls : List CLk} {progs : Int} (h : mayB xs = false) : ckV fv xs ls progs = .tuple #[.int .i64 0, .int .i64 1] := by
  unfold ckV; rw [ck_none h]
set_option maxRecDepth 100000 in
theorem check_spec {xs : List COp} {ls : List CLk} {fv : Bool} {ad ad2 : Option Addr} {n cap n2 cap2 : Nat} (progs : Int) (w : World) (hn : n = xs.length) (hl : Sr fO 3 xs (.slice ad n cap) w) (hn2 : n2 = ls.length) (hl2 : Sr fL 5 ls (.slice ad2 n2 cap2) w) : Ret Tryz.prog 86 #[pV fv ad n cap, .slice ad2 n2 cap2, .int .i64 progs] w (fun v w' => v = ckV fv xs ls progs ∧ Ext w w') := by
 refine Ret.enterM (l := [pV fv ad n cap, .slice ad2 n2 cap2, .int .i64 progs]) Tryz.func86 rfl Tryz.ntmps86 rfl ([]) (no) (Mem.nil w) ?_
 refine wpM.seq (wpM.region ?_)
 refine LM.box rfl rfl (fun b3 hb3 => ?_)
 refine LM.box rfl rfl (fun b4 hb4 => ?_)
 refine LM.box rfl rfl (fun b5 hb5 => ?_)
 refine LM.alloc Tryz.zeroValue3 rfl (fun b6 hb6 => ?_)
 refine LM.alloc Tryz.zeroValue31 rfl (fun b7 hb7 => ?_)
 refine LM.nil (QM.sub (e' := [(3, _), (4, _), (5, _), (6, _), (7, _)]) au9 (QM.then ?_))
 refine wpM.seq ?_
 refine wpM.seq (wpM.region ?_)
 refine LM.rd (om_ldW Tryz.isAgg87 Tryz.sizeOf87 rfl rfl) ?_
 refine LM.callE (oc_call (enters_fn Tryz.func103 (by kernel_rfl) rfl) rfl) (fun w hm hc hg => pmay_spec w hn (hl.ext hc)) ?_
 first | refine LM.val (ov_notD rfl) ?_ | refine LM.val (ov_not rfl) ?_
 refine LM.nil (QM.sub (e' := [(3, _), (4, _), (5, _), (6, _), (7, _), (12, _)]) au9 (QM.then ?_))
 first | refine wpM.condD rfl (fun h1 => ?_) (fun h1 => ?_) | refine wpM.condB rfl (fun h1 => ?_) (fun h1 => ?_)
 ·
  refine wpM.seq (wpM.region ?_)
  refine LM.st Tryz.sizeOf3 rfl rfl rfl au5 rfl au8 ?_
  refine LM.st Tryz.sizeOf31 rfl rfl rfl au5 rfl au8 ?_
  refine LM.nil (QM.sub (e' := [(6, _), (7, _)]) au9 (QM.then ?_))
  refine wpM.ret ?_
  refine QM.then_ret ?_
  refine QM.leaveCs (ds := ([])) (.inl rfl) [.cell 6 3, .cell 7 31] Tryz.results86 hd_nil (rc_c rfl Tryz.isAgg3 rfl (rc_c rfl Tryz.isAgg31 rfl rc_nil)) ?_
  intro w' hm' hc'
  exact ⟨(ckV_none (by simpa using h1)).symm, hc'⟩
 have hm0 : mayB xs = true := (by simpa using h1); have hx20 := (may_small hm0).1
 refine wpM.skip ?_
 refine QM.then ?_
 refine wpM.seq ?_
 refine wpM.seq (wpM.region ?_)
 refine LM.rd (om_ldW Tryz.isAgg87 Tryz.sizeOf87 rfl rfl) ?_
 refine LM.callT (oc_call (enters_fn Tryz.func129 (by kernel_rfl) rfl) rfl) EachTc.mono (fun w hm hc hg => each_specC fv ad n cap w) ?_
 rintro u14 m14 ⟨c1, rfl, rfl, hc1⟩ -
 refine LM.nil (QM.sub (e' := [(3, _), (4, _), (5, _), (6, _), (7, _), (14, _)]) au9 (QM.then ?_))
 refine wpM.block ?_
 refine wpM.toRange (α := Unit) (fun k ⟨⟩ => pB c1 fv ad n cap :: eBc b7 0 :: iBc b6 0 :: iBc b5 progs :: lBc b4 ad2 n2 cap2 :: pB b3 fv ad n cap :: []) (⟨⟩) au1 ?_
 refine wpM.range (α := Unit) (β := Nat) (enters_fn Tryz.func150 (by kernel_rfl) rfl) rfl (each_seqC (xs := xs) hn (by omega)) (fun k ⟨⟩ => pB c1 fv ad n cap :: eBc b7 0 :: iBc b6 0 :: iBc b5 progs :: lBc b4 ad2 n2 cap2 :: pB b3 fv ad n cap :: []) (fun _ _ => top) (fun k ⟨⟩ => k ≤ xs.length ∧ ∀ j, j < k → fitsO fv xs ls progs j = 0) (fun i => eBc b7 (fitsO fv xs ls progs i) :: iBc b6 (i : Nat) :: []) (fun _ => top) (fun c i => c = .ret ∧ i < xs.length ∧ (∀ j, j < i → fitsO fv xs ls progs j = 0) ∧ fitsO fv xs ls progs i ≠ 0) ⟨⟩ rfl (fun _ h => h) ⟨Nat.zero_le _, fun j hj => absurd hj (Nat.not_lt_zero _)⟩ (by kernel_rfl) (by intro k av hav; obtain ⟨hkx, rfl⟩ := eachA_inv hav; rfl) (.inl trivial) (fun k a w hm hc _ _ => ⟨SubM.mem au1 w hm, hl.ext hc⟩) (fun _ _ _ _ => gl_top _) (fun _ _ _ => gl_top _) (fun k x _ => by ((repeat (refine mm_cons rfl ?_)); exact fun p hp => .inl (by first | exact hp | (simp at hp; done) | (simp [hp]; done) | (simp at hp ⊢; first | exact .inl hp | exact hp | (simp [hp]; done))))) (fun c z _ => by ((repeat (refine mm_cons rfl ?_)); exact fun p hp => .inl (by first | exact hp | (simp at hp; done) | (simp [hp]; done) | (simp at hp ⊢; first | exact .inl hp | exact hp | (simp [hp]; done))))) ?_ ?_ ?_ ?_
 ·
  rintro k av ⟨⟩ l D rc n1 W1 hD hll hput hrc hav ⟨hk, h0⟩
  change wpM _ _ _ _ _ _ _ ((l, Obj.loop rc) :: ([(D, Obj.deferred (some []))] ++ (pB c1 fv ad n cap :: eBc b7 0 :: iBc b6 0 :: iBc b5 progs :: lBc b4 ad2 n2 cap2 :: pB b3 fv ad n cap :: []))) _ _ _
  obtain ⟨hkx, rfl⟩ := eachA_inv hav
  refine wpM.region ?_
  refine LM.as rfl ?_
  refine LM.nil (QM.sub (e' := [(3, _), (4, _), (5, _), (6, _), (7, _), (8, _)]) au9 ?_)
  refine QM.toBodyF (hput k ⟨⟩) hll ?_
  refine wpM.block ?_
  refine wpM.seq (wpM.region ?_)
  refine LM.rd (om_ldW Tryz.isAgg87 Tryz.sizeOf87 rfl rfl) ?_
  refine LM.mv rfl ?_
  refine LM.rd (om_ld Tryz.isAgg27 rfl rfl) ?_
  refine LM.rd (om_ld Tryz.isAgg3 rfl rfl) ?_
  refine LM.callE (oc_call (enters_fn Tryz.func130 (by kernel_rfl) rfl) rfl) (fun w hm hc hg => fits_spec k progs w hn (hl.ext hc) hn2 (hl2.ext hc) hm0 hkx) ?_
  refine LM.as rfl ?_
  refine LM.nil (QM.sub (e' := [(6, _), (7, _), (8, _), (9, _)]) au9 (QM.then (wpM.seq (wpM.region ?_))))
  refine LM.mv rfl ?_
  refine LM.val (ov_neq rfl rfl) ?_
  refine LM.nil (QM.sub (e' := [(6, _), (7, _), (8, _), (9, _), (23, _)]) au9 (QM.then ?_))
  refine wpM.condD rfl (fun h2 => ?_) (fun h2 => ?_)
  ·
   refine wpM.seq (wpM.region ?_)
   refine LM.mv rfl (LM.mv rfl ?_)
   refine LM.st Tryz.sizeOf3 rfl rfl rfl au5 rfl au8 ?_
   refine LM.st Tryz.sizeOf31 rfl rfl rfl au5 rfl au8 ?_
   refine LM.nil (QM.sub (e' := [(6, _), (7, _)]) au9 (QM.then ?_))
   refine wpM.ret ?_
   refine QM.block_ret ?_
   refine QM.rret (k) (SubM.mem au1) (fun _ h => h) ?_
   · exact ⟨rfl, hkx, h0, by simpa using h2⟩
  refine wpM.skip ?_
  refine QM.block_normal ?_
  refine QM.next (⟨⟩) (SubM.mem au1) (fun _ h => h) ?_
  · exact ⟨by omega, before_succ h0 (by simpa using h2)⟩
 ·
  rintro ⟨⟩ D0 hD0 ⟨hk, h0⟩
  refine QM.sub (e' := [(3, _), (6, _), (7, _)]) au9 ?_
  refine QM.block_normal ?_
  refine QM.then ?_
  refine wpM.seq ?_
  refine wpM.seq (wpM.region ?_)
  refine LM.val (ov_field Tryz.underlying87 rfl Tryz.sizeOf4 rfl (k := 0) rfl rfl) ?_
  refine LM.rd (om_ld Tryz.isAgg4 rfl rfl) ?_
  refine LM.mv rfl ?_
  first | refine LM.splitD (t := 28) rfl (fun h3 => ?_) (fun h3 => ?_) | refine LM.splitB (t := 28) rfl (fun h3 => ?_) (fun h3 => ?_)
  ·
   refine LM.sp 28 rfl rfl rfl (LM.val (ov_field Tryz.underlying87 rfl Tryz.sizeOf85 rfl (k := 1) rfl rfl) (LM.sp 28 rfl rfl rfl ?_))
   refine LM.rd (om_ld Tryz.isAgg85 rfl rfl) ?_
   refine LM.sp 28 rfl rfl rfl ?_
   refine LM.callE (oc_call (enters_fn Tryz.func131 (by kernel_rfl) rfl) rfl) (fun w hm hc hg => cof_pass w hn (hl.ext hc) (by omega)) ?_
   refine LM.sp 28 rfl rfl rfl ?_
   first | refine LM.val (ov_notD rfl) ?_ | refine LM.val (ov_not rfl) ?_
   refine LM.val (ov_pickT rfl rfl) ?_
   refine LM.nil (QM.sub (e' := [(6, _), (7, _), (33, _)]) au9 (QM.then ?_))
   first | refine wpM.condD rfl (fun h4 => ?_) (fun h4 => ?_) | refine wpM.condB rfl (fun h4 => ?_) (fun h4 => ?_)
   ·
    refine wpM.seq (wpM.region ?_)
    refine LM.st Tryz.sizeOf3 rfl rfl rfl au5 rfl au8 ?_
    refine LM.st Tryz.sizeOf31 rfl rfl rfl au5 rfl au8 ?_
    refine LM.nil (QM.sub (e' := [(6, _), (7, _)]) au9 (QM.then ?_))
    refine wpM.ret ?_
    refine QM.then_ret ?_
    refine QM.leaveCs (ds := (D0 :: [])) (.inl rfl) [.cell 6 3, .cell 7 31] Tryz.results86 (hd_cons hD0 hd_nil) (rc_c rfl Tryz.isAgg3 rfl (rc_c rfl Tryz.isAgg31 rfl rc_nil)) ?_
    intro w' hm' hc'
    exact ⟨(ckV_end (b := true) hm0 (fun j hj => h0 j (by rw [eachA_len]; exact hj)) (by rw [h3, h4]; rfl)).symm, hc'⟩
   refine wpM.skip ?_
   refine QM.then (wpM.seq (wpM.region ?_))
   refine LM.st Tryz.sizeOf3 rfl rfl rfl au5 rfl au8 ?_
   refine LM.st Tryz.sizeOf31 rfl rfl rfl au5 rfl au8 ?_
   refine LM.nil (QM.sub (e' := [(6, _), (7, _)]) au9 (QM.then ?_))
   refine wpM.ret ?_
   refine QM.leaveCs (ds := (D0 :: [])) (.inl rfl) [.cell 6 3, .cell 7 31] Tryz.results86 (hd_cons hD0 hd_nil) (rc_c rfl Tryz.isAgg3 rfl (rc_c rfl Tryz.isAgg31 rfl rc_nil)) ?_
   intro w' hm' hc'
   exact ⟨(ckV_end (b := false) hm0 (fun j hj => h0 j (by rw [eachA_len]; exact hj)) (by rw [h3, h4]; rfl)).symm, hc'⟩
  refine LM.dr 28 rfl rfl rfl (LM.dr 28 rfl rfl rfl (LM.dr 28 rfl rfl rfl (LM.dr 28 rfl rfl rfl ?_)))
  refine LM.val (ov_pickF rfl rfl) ?_
  refine LM.nil (QM.sub (e' := [(6, _), (7, _), (33, _)]) au9 (QM.then ?_))
  refine wpM.condF rfl ?_
  refine wpM.skip ?_
  refine QM.then (wpM.seq (wpM.region ?_))
  refine LM.st Tryz.sizeOf3 rfl rfl rfl au5 rfl au8 ?_
  refine LM.st Tryz.sizeOf31 rfl rfl rfl au5 rfl au8 ?_
  refine LM.nil (QM.sub (e' := [(6, _), (7, _)]) au9 (QM.then ?_))
  refine wpM.ret ?_
  refine QM.leaveCs (ds := (D0 :: [])) (.inl rfl) [.cell 6 3, .cell 7 31] Tryz.results86 (hd_cons hD0 hd_nil) (rc_c rfl Tryz.isAgg3 rfl (rc_c rfl Tryz.isAgg31 rfl rc_nil)) ?_
  intro w' hm' hc'
  exact ⟨(ckV_end (b := false) hm0 (fun j hj => h0 j (by rw [eachA_len]; exact hj)) (by rw [h3]; rfl)).symm, hc'⟩
 ·
  rintro i D0 hD0 hx
  obtain ⟨-, hi, h0, hne⟩ := hx
  refine QM.block_ret ?_
  refine QM.then_ret ?_
  refine QM.leaveCs (ds := (D0 :: [])) (.inl rfl) [.cell 6 3, .cell 7 31] Tryz.results86 (hd_cons hD0 hd_nil) (rc_c rfl Tryz.isAgg3 rfl (rc_c rfl Tryz.isAgg31 rfl rc_nil)) ?_
  intro w' hm' hc'
  exact ⟨(ckV_at hm0 h0 hi rfl hne).symm, hc'⟩
 rintro id i D0 hD0 hx
 first | exact hx.elim | cases hx.1 | cases hx
set_option maxRecDepth 100000 in
set_option maxHeartbeats 1000000 in
theorem rcheck_spec {xs : List COp} {ls : List CLk} {fv : Bool} {ad ad2 : Option Addr} {n cap n2 cap2 : Nat} (progs : Int) (w : World) (hn : n = xs.length) (hl : Sr fO 3 xs (.slice ad n cap) w) (hn2 : n2 = ls.length) (hl2 : Sr fL 5 ls (.slice ad2 n2 cap2) w) : Ret Tryz.prog 46 #[pV fv ad n cap, .slice ad2 n2 cap2, .int .i64 progs] w (fun v w' => v = ckV fv xs ls progs ∧ Ext w w') := by
 refine Ret.enterM (l := [pV fv ad n cap, .slice ad2 n2 cap2, .int .i64 progs]) Tryz.func46 rfl Tryz.ntmps46 rfl ([]) (no) (Mem.nil w) ?_
 refine wpM.seq (wpM.region ?_)
 refine LM.box rfl rfl (fun b3 hb3 => ?_)
 refine LM.as rfl (LM.as rfl ?_)
 refine LM.nil (QM.sub (e' := [(1, _), (2, _), (3, _)]) au9 (QM.then ?_))
 refine wpM.seq ?_
 refine wpM.seq (wpM.region ?_)
 refine LM.rd (om_ldW Tryz.isAgg87 Tryz.sizeOf87 rfl rfl) ?_
 refine LM.callE (oc_call (enters_fn Tryz.func90 (by kernel_rfl) rfl) rfl) (fun w hm hc hg => rmay_spec w hn (hl.ext hc)) ?_
 first | refine LM.val (ov_notD rfl) ?_ | refine LM.val (ov_not rfl) ?_
 refine LM.nil (QM.sub (e' := [(1, _), (2, _), (3, _), (14, _)]) au9 (QM.then ?_))
 first | refine wpM.condD rfl (fun h1 => ?_) (fun h1 => ?_) | refine wpM.condB rfl (fun h1 => ?_) (fun h1 => ?_)
 ·
  refine wpM.seq (wpM.region ?_)
  refine LM.as rfl (LM.as rfl ?_)
  refine LM.nil (QM.sub (e' := [(6, _), (7, _)]) au9 (QM.then ?_))
  refine wpM.ret ?_
  refine QM.then_ret ?_
  refine QM.leave (.inl rfl) [.tmp 6, .tmp 7] Tryz.results46 rfl ?_
  intro w' hm' hc' hg'
  exact ⟨(ckV_none (by simpa using h1)).symm, hc'⟩
 have hm0 : mayB xs = true := (by simpa using h1); have hsm := may_small hm0; have hx20 := hsm.1
 refine wpM.skip ?_
 refine QM.then (wpM.seq (wpM.region ?_))
 refine LM.as rfl ?_
 refine LM.nil (QM.sub (e' := [(1, _), (2, _), (3, _), (8, _)]) au9 (QM.then ?_))
 refine wpM.seq ?_
 refine wpM.seq (wpM.region ?_)
 refine LM.as rfl ?_
 refine LM.nil (QM.sub (e' := [(1, _), (2, _), (3, _), (8, _), (9, _)]) au9 (QM.then ?_))
 refine wpM.block ?_
 refine wpM.loopK0 (α := Nat) (fun i => [(8, .bool ((xs.take i).any (fun o => passB o.k))), (9, .int .i64 (i : Nat))]) [(1, _), (2, _), (3, _)] (fun i => pB b3 fv ad n cap :: []) (fun i => i ≤ xs.length ∧ ∀ j, j < i → fitsO fv xs ls progs j = 0) (fun i => xs.length - i) (0) ⟨au2, au2, rfl, rfl, rfl, trivial⟩ au1 ⟨Nat.zero_le _, fun j hj => absurd hj (Nat.not_lt_zero _)⟩ ?_
 rintro i ⟨hi, h0⟩
 change wpM _ _ _ _ _ _ _ (pB b3 fv ad n cap :: []) _ _ _
 refine wpM.seq ?_
 refine wpM.seq (wpM.region ?_)
 refine LM.mv rfl (LM.val (ov_field Tryz.underlying87 rfl Tryz.sizeOf85 rfl (k := 1) rfl rfl) ?_)
 refine LM.rd (om_ld Tryz.isAgg85 rfl rfl) ?_
 refine LM.val (ov_len Tryz.underlying85 rfl) ?_
 refine LM.val (ov_lss rfl rfl) ?_
 refine LM.nil (QM.sub (e' := [(1, _), (2, _), (3, _), (8, _), (9, _), (19, _)]) au9 (QM.then ?_))
 refine wpM.condD rfl (fun h2 => ?_) (fun h2 => ?_)
 ·
  refine wpM.skip ?_
  refine QM.then ?_
  refine wpM.seq ?_
  refine wpM.block ?_
  refine wpM.seq (wpM.region ?_)
  refine LM.val (ov_field Tryz.underlying87 rfl Tryz.sizeOf85 rfl (k := 1) rfl rfl) ?_
  refine LM.rd (om_ld Tryz.isAgg85 rfl rfl) ?_
  refine LM.mv rfl ?_
  refine LM.val (ov_idxSN au6 Tryz.underlying85 Tryz.sizeOf135 rfl rfl (by omega)) ?_
  first | refine LM.rd (om_slA (by assumption) (by intro _; rfl) Tryz.isAgg135 Tryz.sizeOf135 rfl au3) ?_ | refine LM.rdC (om_srEA (by assumption) (by intro _; rfl) Tryz.isAgg135 Tryz.sizeOf135 rfl au3 id) ?_ | refine LM.rd (om_ldW Tryz.isAgg135 Tryz.sizeOf135 rfl rfl) ?_ | refine LM.rd (om_ldA Tryz.isAgg135 Tryz.sizeOf135 rfl (vs := [_, _, _]) rfl ⟨rfl, rfl, rfl, trivial⟩) ?_
  refine LM.alloc Tryz.zeroValue135 rfl (fun b10 hb10 => ?_)
  refine LM.stW Tryz.sizeOf135 rfl rfl rfl rfl au7 au8 ?_
  refine LM.nil (QM.sub (e' := [(1, _), (2, _), (3, _), (8, _), (9, _), (10, _)]) au9 (QM.then ?_))
  refine wpM.seq ?_
  refine wpM.joinK (α := Bool) (fun t => [(8, .bool t)]) [(1, _), (2, _), (3, _), (9, _), (10, _)] (fun t => oB b10 (xs.getD i default) :: pB b3 fv ad n cap :: []) (fun t => t = (xs.take (i + 1)).any (fun o => passB o.k)) ⟨rfl, rfl, rfl, rfl, rfl, trivial⟩ ?_ ?_
  ·
   refine wpM.region ?_
   refine LM.mv rfl (LM.mv rfl ?_)
   first | refine LM.splitD (t := 28) rfl (fun h3 => ?_) (fun h3 => ?_) | refine LM.splitB (t := 28) rfl (fun h3 => ?_) (fun h3 => ?_)
   ·
    refine LM.dr 28 rfl rfl rfl (LM.dr 28 rfl rfl rfl (LM.dr 28 rfl rfl rfl ?_))
    refine LM.val (ov_pickT rfl rfl) ?_
    refine LM.mv rfl (LM.dr 33 rfl rfl rfl (LM.dr 33 rfl rfl rfl (LM.dr 33 rfl rfl rfl ?_)))
    refine LM.val (ov_pickT rfl rfl) ?_
    refine LM.mv rfl (LM.dr 38 rfl rfl rfl (LM.dr 38 rfl rfl rfl (LM.dr 38 rfl rfl rfl ?_)))
    refine LM.val (ov_pickT rfl rfl) ?_
    refine LM.mv rfl (LM.dr 43 rfl rfl rfl (LM.dr 43 rfl rfl rfl (LM.dr 43 rfl rfl rfl ?_)))
    refine LM.val (ov_pickT rfl rfl) ?_
    refine LM.as rfl ?_
    refine LM.nil (QM.sub (e' := [(1, _), (2, _), (3, _), (8, _), (9, _), (10, _)]) au9 ?_)
    refine QM.meetK (_) ⟨au2, rfl, rfl, rfl, rfl, rfl, trivial⟩ au1 ?_
    · rw [any_snoc default (by omega), passB]; simp only [h1, h2, h3, decide_true, decide_false, Bool.true_and, Bool.false_and, Bool.and_true, Bool.and_false, Bool.not_true, Bool.not_false, Bool.true_or, Bool.false_or, Bool.or_true, Bool.or_false, ne_eq, not_true_eq_false, not_false_eq_true, Bool.and_self]
   refine LM.sp 28 rfl rfl rfl (LM.val (ov_field Tryz.underlying135 rfl Tryz.sizeOf3 rfl (k := 0) rfl rfl) (LM.sp 28 rfl rfl rfl ?_))
   refine LM.rd (om_ld Tryz.isAgg3 rfl rfl) ?_
   refine LM.sp 28 rfl rfl rfl ?_
   refine LM.val (ov_eql rfl rfl) ?_
   refine LM.val (ov_pickF rfl rfl) ?_
   refine LM.mv rfl ?_
   refine LM.splitD (t := 33) rfl (fun h4 => ?_) (fun h4 => ?_)
   ·
    refine LM.dr 33 rfl rfl rfl (LM.dr 33 rfl rfl rfl (LM.dr 33 rfl rfl rfl ?_))
    refine LM.val (ov_pickT rfl rfl) ?_
    refine LM.mv rfl (LM.dr 38 rfl rfl rfl (LM.dr 38 rfl rfl rfl (LM.dr 38 rfl rfl rfl ?_)))
    refine LM.val (ov_pickT rfl rfl) ?_
    refine LM.mv rfl (LM.dr 43 rfl rfl rfl (LM.dr 43 rfl rfl rfl (LM.dr 43 rfl rfl rfl ?_)))
    refine LM.val (ov_pickT rfl rfl) ?_
    refine LM.as rfl ?_
    refine LM.nil (QM.sub (e' := [(1, _), (2, _), (3, _), (8, _), (9, _), (10, _)]) au9 ?_)
    refine QM.meetK (_) ⟨au2, rfl, rfl, rfl, rfl, rfl, trivial⟩ au1 ?_
    · rw [any_snoc default (by omega), passB]; simp only [h1, h2, h3, h4, decide_true, decide_false, Bool.true_and, Bool.false_and, Bool.and_true, Bool.and_false, Bool.not_true, Bool.not_false, Bool.true_or, Bool.false_or, Bool.or_true, Bool.or_false, ne_eq, not_true_eq_false, not_false_eq_true, Bool.and_self]
   refine LM.sp 33 rfl rfl rfl (LM.val (ov_field Tryz.underlying135 rfl Tryz.sizeOf3 rfl (k := 0) rfl rfl) (LM.sp 33 rfl rfl rfl ?_))
   refine LM.rd (om_ld Tryz.isAgg3 rfl rfl) ?_
   refine LM.sp 33 rfl rfl rfl ?_
   refine LM.val (ov_eql rfl rfl) ?_
   refine LM.val (ov_pickF rfl rfl) ?_
   refine LM.mv rfl ?_
   refine LM.splitD (t := 38) rfl (fun h5 => ?_) (fun h5 => ?_)
   ·
    refine LM.dr 38 rfl rfl rfl (LM.dr 38 rfl rfl rfl (LM.dr 38 rfl rfl rfl ?_))
    refine LM.val (ov_pickT rfl rfl) ?_
    refine LM.mv rfl (LM.dr 43 rfl rfl rfl (LM.dr 43 rfl rfl rfl (LM.dr 43 rfl rfl rfl ?_)))
    refine LM.val (ov_pickT rfl rfl) ?_
    refine LM.as rfl ?_
    refine LM.nil (QM.sub (e' := [(1, _), (2, _), (3, _), (8, _), (9, _), (10, _)]) au9 ?_)
    refine QM.meetK (_) ⟨au2, rfl, rfl, rfl, rfl, rfl, trivial⟩ au1 ?_
    · rw [any_snoc default (by omega), passB]; simp only [h1, h2, h3, h4, h5, decide_true, decide_false, Bool.true_and, Bool.false_and, Bool.and_true, Bool.and_false, Bool.not_true, Bool.not_false, Bool.true_or, Bool.false_or, Bool.or_true, Bool.or_false, ne_eq, not_true_eq_false, not_false_eq_true, Bool.and_self]
   refine LM.sp 38 rfl rfl rfl (LM.val (ov_field Tryz.underlying135 rfl Tryz.sizeOf3 rfl (k := 0) rfl rfl) (LM.sp 38 rfl rfl rfl ?_))
   refine LM.rd (om_ld Tryz.isAgg3 rfl rfl) ?_
   refine LM.sp 38 rfl rfl rfl ?_
   refine LM.val (ov_eql rfl rfl) ?_
   refine LM.val (ov_pickF rfl rfl) ?_
   refine LM.mv rfl ?_
   refine LM.splitD (t := 43) rfl (fun h6 => ?_) (fun h6 => ?_)
   ·
    refine LM.dr 43 rfl rfl rfl (LM.dr 43 rfl rfl rfl (LM.dr 43 rfl rfl rfl ?_))
    refine LM.val (ov_pickT rfl rfl) ?_
    refine LM.as rfl ?_
    refine LM.nil (QM.sub (e' := [(1, _), (2, _), (3, _), (8, _), (9, _), (10, _)]) au9 ?_)
    refine QM.meetK (_) ⟨au2, rfl, rfl, rfl, rfl, rfl, trivial⟩ au1 ?_
    · rw [any_snoc default (by omega), passB]; simp only [h1, h2, h3, h4, h5, h6, decide_true, decide_false, Bool.true_and, Bool.false_and, Bool.and_true, Bool.and_false, Bool.not_true, Bool.not_false, Bool.true_or, Bool.false_or, Bool.or_true, Bool.or_false, ne_eq, not_true_eq_false, not_false_eq_true, Bool.and_self]
   refine LM.sp 43 rfl rfl rfl (LM.val (ov_field Tryz.underlying135 rfl Tryz.sizeOf3 rfl (k := 0) rfl rfl) (LM.sp 43 rfl rfl rfl ?_))
   refine LM.rd (om_ld Tryz.isAgg3 rfl rfl) ?_
   refine LM.sp 43 rfl rfl rfl ?_
   refine LM.val (ov_eql rfl rfl) ?_
   refine LM.val (ov_pickF rfl rfl) ?_
   refine LM.as rfl ?_
   refine LM.nil (QM.sub (e' := [(1, _), (2, _), (3, _), (8, _), (9, _), (10, _)]) au9 ?_)
   refine QM.meetK (_) ⟨au2, rfl, rfl, rfl, rfl, rfl, trivial⟩ au1 ?_
   · rw [any_snoc default (by omega), passB]; simp only [h1, h2, h3, h4, h5, h6, decide_true, decide_false, Bool.true_and, Bool.false_and, Bool.and_true, Bool.and_false, Bool.not_true, Bool.not_false, Bool.true_or, Bool.false_or, Bool.or_true, Bool.or_false, ne_eq, not_true_eq_false, not_false_eq_true, Bool.and_self]
  rintro t rfl
  change QM _ _ _ _ _ (oB b10 (xs.getD i default) :: pB b3 fv ad n cap :: []) _ _ _
  have hr := right_a (may_at hm0 (show i < xs.length by omega))
  refine QM.then ?_
  refine wpM.seq ?_
  refine wpM.seq ?_
  refine wpM.joinK (α := Bool) (fun q => [(72, .bool q)]) [(1, _), (2, _), (3, _), (8, _), (9, _), (10, _)] (fun q => oB b10 (xs.getD i default) :: pB b3 fv ad n cap :: []) (fun q => q = ((takesB (xs.getD i default).k || decide ((xs.getD i default).k = 6)) && decide ((xs.getD i default).a ≥ n2) || decide ((xs.getD i default).k = 9) && decide ((xs.getD i default).a ≥ progs))) ⟨rfl, rfl, rfl, rfl, rfl, rfl, trivial⟩ ?_ ?_
  ·
   refine wpM.region ?_
   refine LM.rd (om_ldW Tryz.isAgg135 Tryz.sizeOf135 rfl rfl) ?_
   refine LM.callE (oc_call (enters_fn Tryz.func91 (by kernel_rfl) rfl) rfl) (fun w hm hc hg => rtakes_spec _ w) ?_
   refine LM.mv rfl ?_
   first | refine LM.splitD (t := 50) rfl (fun h7 => ?_) (fun h7 => ?_) | refine LM.splitB (t := 50) rfl (fun h7 => ?_) (fun h7 => ?_)
   ·
    refine LM.dr 50 rfl rfl rfl (LM.dr 50 rfl rfl rfl (LM.dr 50 rfl rfl rfl ?_))
    refine LM.val (ov_pickT rfl rfl) ?_
    refine LM.mv rfl (LM.sp 55 rfl rfl rfl (LM.val (ov_field Tryz.underlying135 rfl Tryz.sizeOf3 rfl (k := 1) rfl rfl) (LM.sp 55 rfl rfl rfl ?_)))
    refine LM.rd (om_ld Tryz.isAgg3 rfl rfl) ?_
    refine LM.sp 55 rfl rfl rfl (LM.mv rfl (LM.sp 55 rfl rfl rfl ?_))
    refine LM.val (ov_len Tryz.underlying27 rfl) ?_
    refine LM.sp 55 rfl rfl rfl ?_
    refine LM.val (ov_geq rfl rfl) ?_
    refine LM.val (ov_pickT rfl rfl) ?_
    refine LM.mv rfl ?_
    refine LM.splitD (t := 62) rfl (fun h8 => ?_) (fun h8 => ?_)
    ·
     refine LM.dr 62 rfl rfl rfl (LM.dr 62 rfl rfl rfl (LM.dr 62 rfl rfl rfl ?_))
     refine LM.dropU (t := 62) rfl rfl rfl ?_
     refine LM.dropX (t := 66) rfl rfl ?_
     refine LM.dropX (t := 66) rfl rfl ?_
     refine LM.dropX (t := 66) rfl rfl ?_
     refine LM.dropX (t := 66) rfl rfl ?_
     refine LM.dr 62 rfl rfl rfl ?_
     refine LM.val (ov_pickT rfl rfl) ?_
     refine LM.nil (QM.sub (e' := [(1, _), (2, _), (3, _), (8, _), (9, _), (10, _), (72, _)]) au9 ?_)
     refine QM.meetK (_) ⟨au2, rfl, rfl, rfl, rfl, rfl, rfl, trivial⟩ au1 ?_
     · first | (exfalso; omega) | (simp only [h1, h2, h7, h8, decide_true, decide_false, Bool.true_and, Bool.false_and, Bool.and_true, Bool.and_false, Bool.not_true, Bool.not_false, Bool.true_or, Bool.false_or, Bool.or_true, Bool.or_false, ne_eq, not_true_eq_false, not_false_eq_true, Bool.and_self]; done) | (simp only [h1, h2, h7, h8, decide_true, decide_false, Bool.true_and, Bool.false_and, Bool.and_true, Bool.and_false, Bool.not_true, Bool.not_false, Bool.true_or, Bool.false_or, Bool.or_true, Bool.or_false, ne_eq, not_true_eq_false, not_false_eq_true, Bool.and_self]; rfl)
    refine LM.sp 62 rfl rfl rfl (LM.val (ov_field Tryz.underlying135 rfl Tryz.sizeOf3 rfl (k := 0) rfl rfl) (LM.sp 62 rfl rfl rfl ?_))
    refine LM.rd (om_ld Tryz.isAgg3 rfl rfl) ?_
    refine LM.sp 62 rfl rfl rfl ?_
    refine LM.val (ov_eql rfl rfl) ?_
    refine LM.sp 62 rfl rfl rfl (LM.mv rfl ?_)
    refine LM.splitD (t := 66) rfl (fun h9 => ?_) (fun h9 => ?_)
    ·
     refine LM.sp 66 rfl rfl rfl (LM.val (ov_field Tryz.underlying135 rfl Tryz.sizeOf3 rfl (k := 1) rfl rfl) (LM.sp 66 rfl rfl rfl ?_))
     refine LM.rd (om_ld Tryz.isAgg3 rfl rfl) ?_
     refine LM.sp 66 rfl rfl rfl (LM.mv rfl (LM.sp 66 rfl rfl rfl ?_))
     refine LM.val (ov_geq rfl rfl) ?_
     refine LM.sp 62 rfl rfl rfl ?_
     refine LM.val (ov_pickT rfl rfl) ?_
     refine LM.val (ov_pickF rfl rfl) ?_
     refine LM.nil (QM.sub (e' := [(1, _), (2, _), (3, _), (8, _), (9, _), (10, _), (72, _)]) au9 ?_)
     refine QM.meetK (_) ⟨au2, rfl, rfl, rfl, rfl, rfl, rfl, trivial⟩ au1 ?_
     · first | (exfalso; omega) | (simp only [h1, h2, h7, h8, h9, decide_true, decide_false, Bool.true_and, Bool.false_and, Bool.and_true, Bool.and_false, Bool.not_true, Bool.not_false, Bool.true_or, Bool.false_or, Bool.or_true, Bool.or_false, ne_eq, not_true_eq_false, not_false_eq_true, Bool.and_self]; done) | (simp only [h1, h2, h7, h8, h9, decide_true, decide_false, Bool.true_and, Bool.false_and, Bool.and_true, Bool.and_false, Bool.not_true, Bool.not_false, Bool.true_or, Bool.false_or, Bool.or_true, Bool.or_false, ne_eq, not_true_eq_false, not_false_eq_true, Bool.and_self]; rfl)
    refine LM.dr 66 rfl rfl rfl (LM.dr 66 rfl rfl rfl (LM.dr 66 rfl rfl rfl (LM.dr 66 rfl rfl rfl (LM.sp 62 rfl rfl rfl ?_))))
    refine LM.val (ov_pickF rfl rfl) ?_
    refine LM.val (ov_pickF rfl rfl) ?_
    refine LM.nil (QM.sub (e' := [(1, _), (2, _), (3, _), (8, _), (9, _), (10, _), (72, _)]) au9 ?_)
    refine QM.meetK (_) ⟨au2, rfl, rfl, rfl, rfl, rfl, rfl, trivial⟩ au1 ?_
    · first | (exfalso; omega) | (simp only [h1, h2, h7, h8, h9, decide_true, decide_false, Bool.true_and, Bool.false_and, Bool.and_true, Bool.and_false, Bool.not_true, Bool.not_false, Bool.true_or, Bool.false_or, Bool.or_true, Bool.or_false, ne_eq, not_true_eq_false, not_false_eq_true, Bool.and_self]; done) | (simp only [h1, h2, h7, h8, h9, decide_true, decide_false, Bool.true_and, Bool.false_and, Bool.and_true, Bool.and_false, Bool.not_true, Bool.not_false, Bool.true_or, Bool.false_or, Bool.or_true, Bool.or_false, ne_eq, not_true_eq_false, not_false_eq_true, Bool.and_self]; rfl)
   refine LM.sp 50 rfl rfl rfl (LM.val (ov_field Tryz.underlying135 rfl Tryz.sizeOf3 rfl (k := 0) rfl rfl) (LM.sp 50 rfl rfl rfl ?_))
   refine LM.rd (om_ld Tryz.isAgg3 rfl rfl) ?_
   refine LM.sp 50 rfl rfl rfl ?_
   refine LM.val (ov_eql rfl rfl) ?_
   refine LM.val (ov_pickF rfl rfl) ?_
   refine LM.mv rfl ?_
   refine LM.splitD (t := 55) rfl (fun h10 => ?_) (fun h10 => ?_)
   ·
    refine LM.sp 55 rfl rfl rfl (LM.val (ov_field Tryz.underlying135 rfl Tryz.sizeOf3 rfl (k := 1) rfl rfl) (LM.sp 55 rfl rfl rfl ?_))
    refine LM.rd (om_ld Tryz.isAgg3 rfl rfl) ?_
    refine LM.sp 55 rfl rfl rfl (LM.mv rfl (LM.sp 55 rfl rfl rfl ?_))
    refine LM.val (ov_len Tryz.underlying27 rfl) ?_
    refine LM.sp 55 rfl rfl rfl ?_
    refine LM.val (ov_geq rfl rfl) ?_
    refine LM.val (ov_pickT rfl rfl) ?_
    refine LM.mv rfl ?_
    refine LM.splitD (t := 62) rfl (fun h11 => ?_) (fun h11 => ?_)
    ·
     refine LM.dr 62 rfl rfl rfl (LM.dr 62 rfl rfl rfl (LM.dr 62 rfl rfl rfl ?_))
     refine LM.dropU (t := 62) rfl rfl rfl ?_
     refine LM.dropX (t := 66) rfl rfl ?_
     refine LM.dropX (t := 66) rfl rfl ?_
     refine LM.dropX (t := 66) rfl rfl ?_
     refine LM.dropX (t := 66) rfl rfl ?_
     refine LM.dr 62 rfl rfl rfl ?_
     refine LM.val (ov_pickT rfl rfl) ?_
     refine LM.nil (QM.sub (e' := [(1, _), (2, _), (3, _), (8, _), (9, _), (10, _), (72, _)]) au9 ?_)
     refine QM.meetK (_) ⟨au2, rfl, rfl, rfl, rfl, rfl, rfl, trivial⟩ au1 ?_
     · first | (exfalso; omega) | (simp only [h1, h2, h7, h10, h11, decide_true, decide_false, Bool.true_and, Bool.false_and, Bool.and_true, Bool.and_false, Bool.not_true, Bool.not_false, Bool.true_or, Bool.false_or, Bool.or_true, Bool.or_false, ne_eq, not_true_eq_false, not_false_eq_true, Bool.and_self]; done) | (simp only [h1, h2, h7, h10, h11, decide_true, decide_false, Bool.true_and, Bool.false_and, Bool.and_true, Bool.and_false, Bool.not_true, Bool.not_false, Bool.true_or, Bool.false_or, Bool.or_true, Bool.or_false, ne_eq, not_true_eq_false, not_false_eq_true, Bool.and_self]; rfl)
    refine LM.sp 62 rfl rfl rfl (LM.val (ov_field Tryz.underlying135 rfl Tryz.sizeOf3 rfl (k := 0) rfl rfl) (LM.sp 62 rfl rfl rfl ?_))
    refine LM.rd (om_ld Tryz.isAgg3 rfl rfl) ?_
    refine LM.sp 62 rfl rfl rfl ?_
    refine LM.val (ov_eql rfl rfl) ?_
    refine LM.sp 62 rfl rfl rfl (LM.mv rfl ?_)
    refine LM.splitD (t := 66) rfl (fun h12 => ?_) (fun h12 => ?_)
    ·
     refine LM.sp 66 rfl rfl rfl (LM.val (ov_field Tryz.underlying135 rfl Tryz.sizeOf3 rfl (k := 1) rfl rfl) (LM.sp 66 rfl rfl rfl ?_))
     refine LM.rd (om_ld Tryz.isAgg3 rfl rfl) ?_
     refine LM.sp 66 rfl rfl rfl (LM.mv rfl (LM.sp 66 rfl rfl rfl ?_))
     refine LM.val (ov_geq rfl rfl) ?_
     refine LM.sp 62 rfl rfl rfl ?_
     refine LM.val (ov_pickT rfl rfl) ?_
     refine LM.val (ov_pickF rfl rfl) ?_
     refine LM.nil (QM.sub (e' := [(1, _), (2, _), (3, _), (8, _), (9, _), (10, _), (72, _)]) au9 ?_)
     refine QM.meetK (_) ⟨au2, rfl, rfl, rfl, rfl, rfl, rfl, trivial⟩ au1 ?_
     · (exfalso; omega)
    refine LM.dr 66 rfl rfl rfl (LM.dr 66 rfl rfl rfl (LM.dr 66 rfl rfl rfl (LM.dr 66 rfl rfl rfl (LM.sp 62 rfl rfl rfl ?_))))
    refine LM.val (ov_pickF rfl rfl) ?_
    refine LM.val (ov_pickF rfl rfl) ?_
    refine LM.nil (QM.sub (e' := [(1, _), (2, _), (3, _), (8, _), (9, _), (10, _), (72, _)]) au9 ?_)
    refine QM.meetK (_) ⟨au2, rfl, rfl, rfl, rfl, rfl, rfl, trivial⟩ au1 ?_
    · first | (exfalso; omega) | (simp only [h1, h2, h7, h10, h11, h12, decide_true, decide_false, Bool.true_and, Bool.false_and, Bool.and_true, Bool.and_false, Bool.not_true, Bool.not_false, Bool.true_or, Bool.false_or, Bool.or_true, Bool.or_false, ne_eq, not_true_eq_false, not_false_eq_true, Bool.and_self]; done) | (simp only [h1, h2, h7, h10, h11, h12, decide_true, decide_false, Bool.true_and, Bool.false_and, Bool.and_true, Bool.and_false, Bool.not_true, Bool.not_false, Bool.true_or, Bool.false_or, Bool.or_true, Bool.or_false, ne_eq, not_true_eq_false, not_false_eq_true, Bool.and_self]; rfl)
   refine LM.dr 55 rfl rfl rfl (LM.dr 55 rfl rfl rfl (LM.dr 55 rfl rfl rfl (LM.dr 55 rfl rfl rfl (LM.dr 55 rfl rfl rfl ?_))))
   refine LM.val (ov_pickF rfl rfl) ?_
   refine LM.mv rfl (LM.sp 62 rfl rfl rfl (LM.val (ov_field Tryz.underlying135 rfl Tryz.sizeOf3 rfl (k := 0) rfl rfl) (LM.sp 62 rfl rfl rfl ?_)))
   refine LM.rd (om_ld Tryz.isAgg3 rfl rfl) ?_
   refine LM.sp 62 rfl rfl rfl ?_
   refine LM.val (ov_eql rfl rfl) ?_
   refine LM.sp 62 rfl rfl rfl (LM.mv rfl ?_)
   refine LM.splitD (t := 66) rfl (fun h13 => ?_) (fun h13 => ?_)
   ·
    refine LM.sp 66 rfl rfl rfl (LM.val (ov_field Tryz.underlying135 rfl Tryz.sizeOf3 rfl (k := 1) rfl rfl) (LM.sp 66 rfl rfl rfl ?_))
    refine LM.rd (om_ld Tryz.isAgg3 rfl rfl) ?_
    refine LM.sp 66 rfl rfl rfl (LM.mv rfl (LM.sp 66 rfl rfl rfl ?_))
    refine LM.val (ov_geq rfl rfl) ?_
    refine LM.sp 62 rfl rfl rfl ?_
    refine LM.val (ov_pickT rfl rfl) ?_
    refine LM.val (ov_pickF rfl rfl) ?_
    refine LM.nil (QM.sub (e' := [(1, _), (2, _), (3, _), (8, _), (9, _), (10, _), (72, _)]) au9 ?_)
    refine QM.meetK (_) ⟨au2, rfl, rfl, rfl, rfl, rfl, rfl, trivial⟩ au1 ?_
    · first | (exfalso; omega) | (simp only [h1, h2, h7, h10, h13, decide_true, decide_false, Bool.true_and, Bool.false_and, Bool.and_true, Bool.and_false, Bool.not_true, Bool.not_false, Bool.true_or, Bool.false_or, Bool.or_true, Bool.or_false, ne_eq, not_true_eq_false, not_false_eq_true, Bool.and_self]; done) | (simp only [h1, h2, h7, h10, h13, decide_true, decide_false, Bool.true_and, Bool.false_and, Bool.and_true, Bool.and_false, Bool.not_true, Bool.not_false, Bool.true_or, Bool.false_or, Bool.or_true, Bool.or_false, ne_eq, not_true_eq_false, not_false_eq_true, Bool.and_self]; rfl)
   refine LM.dr 66 rfl rfl rfl (LM.dr 66 rfl rfl rfl (LM.dr 66 rfl rfl rfl (LM.dr 66 rfl rfl rfl (LM.sp 62 rfl rfl rfl ?_))))
   refine LM.val (ov_pickF rfl rfl) ?_
   refine LM.val (ov_pickF rfl rfl) ?_
   refine LM.nil (QM.sub (e' := [(1, _), (2, _), (3, _), (8, _), (9, _), (10, _), (72, _)]) au9 ?_)
   refine QM.meetK (_) ⟨au2, rfl, rfl, rfl, rfl, rfl, rfl, trivial⟩ au1 ?_
   · first | (exfalso; omega) | (simp only [h1, h2, h7, h10, h13, decide_true, decide_false, Bool.true_and, Bool.false_and, Bool.and_true, Bool.and_false, Bool.not_true, Bool.not_false, Bool.true_or, Bool.false_or, Bool.or_true, Bool.or_false, ne_eq, not_true_eq_false, not_false_eq_true, Bool.and_self]; done) | (simp only [h1, h2, h7, h10, h13, decide_true, decide_false, Bool.true_and, Bool.false_and, Bool.and_true, Bool.and_false, Bool.not_true, Bool.not_false, Bool.true_or, Bool.false_or, Bool.or_true, Bool.or_false, ne_eq, not_true_eq_false, not_false_eq_true, Bool.and_self]; rfl)
  rintro q hq
  change QM _ _ _ _ _ (oB b10 (xs.getD i default) :: pB b3 fv ad n cap :: []) _ _ _
  refine QM.then ?_
  first | refine wpM.condD rfl (fun h14 => ?_) (fun h14 => ?_) | refine wpM.condB rfl (fun h14 => ?_) (fun h14 => ?_)
  ·
   refine wpM.seq (wpM.region ?_)
   refine LM.mv rfl (LM.as rfl (LM.as rfl ?_))
   refine LM.nil (QM.sub (e' := [(6, _), (7, _)]) au9 (QM.then ?_))
   refine wpM.ret ?_
   refine QM.then_ret ?_
   refine QM.block_ret ?_
   refine QM.then_ret ?_
   refine QM.then_ret ?_
   refine QM.block_ret ?_
   refine QM.then_ret ?_
   refine QM.leave (.inl rfl) [.tmp 6, .tmp 7] Tryz.results46 rfl ?_
   intro w' hm' hc' hg'
   exact ⟨(ckV_at (e := 4) hm0 h0 (by omega) (by simp only [fitsO, ← hn, ← hn2, ← hq]; simp only [h1, h2, h14, decide_true, decide_false, Bool.true_and, Bool.false_and, Bool.and_true, Bool.and_false, Bool.not_true, Bool.not_false, Bool.true_or, Bool.false_or, Bool.or_true, Bool.or_false, ne_eq, not_true_eq_false, not_false_eq_true, Bool.and_self, if_true]) (by decide)).symm, hc'⟩
  refine wpM.skip ?_
  refine QM.then ?_
  refine wpM.seq ?_
  refine wpM.seq ?_
  refine wpM.joinK (α := Bool) (fun q3 => [(85, .bool q3)]) [(1, _), (2, _), (3, _), (8, _), (9, _), (10, _)] (fun q3 => oB b10 (xs.getD i default) :: pB b3 fv ad n cap :: []) (fun q3 => q3 = (decide ((xs.getD i default).k = 3) && !(ls.getD (xs.getD i default).a.toNat default).sh)) ⟨rfl, rfl, rfl, rfl, rfl, rfl, trivial⟩ ?_ ?_
  ·
   refine wpM.region ?_
   refine LM.val (ov_field Tryz.underlying135 rfl Tryz.sizeOf3 rfl (k := 0) rfl rfl) ?_
   refine LM.rd (om_ld Tryz.isAgg3 rfl rfl) ?_
   refine LM.val (ov_eql rfl rfl) ?_
   refine LM.mv rfl ?_
   refine LM.splitD (t := 77) rfl (fun h15 => ?_) (fun h15 => ?_)
   ·
    have hlt := fits_lt2 hq h14 (by rw [h15]; rfl)
    refine LM.sp 77 rfl rfl rfl (LM.mv rfl (LM.sp 77 rfl rfl rfl (LM.val (ov_field Tryz.underlying135 rfl Tryz.sizeOf3 rfl (k := 1) rfl rfl) (LM.sp 77 rfl rfl rfl ?_))))
    refine LM.rd (om_ld Tryz.isAgg3 rfl rfl) ?_
    refine LM.sp 77 rfl rfl rfl ?_
    first | refine LM.val (ov_idxSN au6 Tryz.underlying27 Tryz.sizeOf63 rfl rfl (by omega)) ?_ | refine LM.val (ov_idxS au6 Tryz.underlying27 Tryz.sizeOf63 rfl rfl (by omega)) ?_ | refine LM.val (ov_idx Tryz.underlying27 Tryz.sizeOf63 rfl rfl (by omega)) ?_
    refine LM.sp 77 rfl rfl rfl (LM.val (ov_field Tryz.underlying63 rfl Tryz.sizeOf4 rfl (k := 0) rfl rfl) (LM.sp 77 rfl rfl rfl ?_))
    first | refine LM.rd (om_slE (j := 0) (by assumption) (by intro _; rfl) Tryz.isAgg4 rfl rfl au3 rfl (by rfl)) ?_ | refine LM.rdC (om_srE (j := 0) (by assumption) Tryz.isAgg4 rfl rfl au3 (by rfl) (by rfl) id) ?_ | refine LM.rd (om_ld Tryz.isAgg4 rfl rfl) ?_
    refine LM.sp 77 rfl rfl rfl ?_
    first | refine LM.val (ov_notD rfl) ?_ | refine LM.val (ov_not rfl) ?_
    refine LM.val (ov_pickT rfl rfl) ?_
    refine LM.nil (QM.sub (e' := [(1, _), (2, _), (3, _), (8, _), (9, _), (10, _), (85, _)]) au9 ?_)
    refine QM.meetK (_) ⟨au2, rfl, rfl, rfl, rfl, rfl, rfl, trivial⟩ au1 ?_
    · simp only [h1, h2, h14, h15, decide_true, decide_false, Bool.true_and, Bool.false_and, Bool.and_true, Bool.and_false, Bool.not_true, Bool.not_false, Bool.true_or, Bool.false_or, Bool.or_true, Bool.or_false, ne_eq, not_true_eq_false, not_false_eq_true, Bool.and_self]
   refine LM.dr 77 rfl rfl rfl (LM.dr 77 rfl rfl rfl (LM.dr 77 rfl rfl rfl (LM.dr 77 rfl rfl rfl (LM.dr 77 rfl rfl rfl (LM.dr 77 rfl rfl rfl ?_)))))
   refine LM.dr 77 rfl rfl rfl ?_
   refine LM.val (ov_pickF rfl rfl) ?_
   refine LM.nil (QM.sub (e' := [(1, _), (2, _), (3, _), (8, _), (9, _), (10, _), (85, _)]) au9 ?_)
   refine QM.meetK (_) ⟨au2, rfl, rfl, rfl, rfl, rfl, rfl, trivial⟩ au1 ?_
   · simp only [h1, h2, h14, h15, decide_true, decide_false, Bool.true_and, Bool.false_and, Bool.and_true, Bool.and_false, Bool.not_true, Bool.not_false, Bool.true_or, Bool.false_or, Bool.or_true, Bool.or_false, ne_eq, not_true_eq_false, not_false_eq_true, Bool.and_self]
  rintro q3 hq3
  change QM _ _ _ _ _ (oB b10 (xs.getD i default) :: pB b3 fv ad n cap :: []) _ _ _
  refine QM.then ?_
  first | refine wpM.condD rfl (fun h16 => ?_) (fun h16 => ?_) | refine wpM.condB rfl (fun h16 => ?_) (fun h16 => ?_)
  ·
   refine wpM.seq (wpM.region ?_)
   refine LM.mv rfl (LM.as rfl (LM.as rfl ?_))
   refine LM.nil (QM.sub (e' := [(6, _), (7, _)]) au9 (QM.then ?_))
   refine wpM.ret ?_
   refine QM.then_ret ?_
   refine QM.block_ret ?_
   refine QM.then_ret ?_
   refine QM.then_ret ?_
   refine QM.block_ret ?_
   refine QM.then_ret ?_
   refine QM.leave (.inl rfl) [.tmp 6, .tmp 7] Tryz.results46 rfl ?_
   intro w' hm' hc' hg'
   exact ⟨(ckV_at (e := 1) hm0 h0 (by omega) (by simp only [fitsO, ← hn, ← hn2, ← hq, ← hq3]; simp only [h1, h2, h14, h16, decide_true, decide_false, Bool.true_and, Bool.false_and, Bool.and_true, Bool.and_false, Bool.not_true, Bool.not_false, Bool.true_or, Bool.false_or, Bool.or_true, Bool.or_false, ne_eq, not_true_eq_false, not_false_eq_true, Bool.and_self, if_true, if_false, Bool.false_eq_true]) (by decide)).symm, hc'⟩
  refine wpM.skip ?_
  refine QM.then (wpM.seq (wpM.region ?_))
  refine LM.rd (om_ldW Tryz.isAgg135 Tryz.sizeOf135 rfl rfl) ?_
  refine LM.callE (oc_call (enters_fn Tryz.func91 (by kernel_rfl) rfl) rfl) (fun w hm hc hg => rtakes_spec _ w) ?_
  refine LM.nil (QM.sub (e' := [(1, _), (2, _), (3, _), (8, _), (9, _), (10, _), (88, _)]) au9 (QM.then ?_))
  first | refine wpM.condD rfl (fun h17 => ?_) (fun h17 => ?_) | refine wpM.condB rfl (fun h17 => ?_) (fun h17 => ?_)
  ·
   have hlt := fits_lt2 hq h14 h17
   refine wpM.seq (wpM.region ?_)
   refine LM.rd (om_ldW Tryz.isAgg87 Tryz.sizeOf87 rfl rfl) ?_
   refine LM.mv rfl ?_
   refine LM.callE (oc_call (enters_fn Tryz.func92 (by kernel_rfl) rfl) rfl) (fun w hm hc hg => rsection_spec i w hn (hl.ext hc) hsm (by omega)) ?_
   refine LM.alloc Tryz.zeroValue140 rfl (fun b11 hb11 => ?_)
   refine LM.stW Tryz.sizeOf140 rfl rfl rfl rfl au7 au8 ?_
   refine LM.nil (QM.sub (e' := [(1, _), (2, _), (3, _), (8, _), (9, _), (10, _), (11, _)]) au9 (QM.then ?_))
   refine wpM.seq ?_
   refine wpM.joinK (α := Bool) (fun q4 => [(117, .bool q4)]) [(1, _), (2, _), (3, _), (8, _), (9, _)] (fun q4 => pB b3 fv ad n cap :: []) (fun q4 => q4 = (decide ((secO xs i).2 < 1) || decide ((secO xs i).2 > (ls.getD (xs.getD i default).a.toNat default).cr) || fv && decide (((i + 1 + (secO xs i).1 : Nat) : Int) = n))) ⟨rfl, rfl, rfl, rfl, rfl, trivial⟩ ?_ ?_
   ·
    refine wpM.draw [(0, 0), (1, 1), (2, 0), (3, 0), (4, 0), (5, 1), (6, 0), (7, 0), (8, 1), (9, 0), (10, 0), (11, 1), (12, 0), (13, 0), (14, 0), (15, 0), (16, 1), (17, 0), (18, 0), (19, 1), (20, 0), (21, 1), (22, 0), (23, 0), (24, 0), (25, 0)] (by kernel_rfl) (by kernel_rfl) ?_
    refine LD.val rfl rfl (ov_field Tryz.underlying140 rfl Tryz.sizeOf3 rfl (k := 3) rfl rfl) ?_
    refine LD.rd rfl rfl (om_ld Tryz.isAgg3 rfl rfl) ?_
    refine LD.val rfl rfl (ov_lss rfl rfl) ?_
    refine LD.val rfl rfl (ov_move rfl) ?_
    refine LD.splitD (t := 95) rfl (fun h18 => ?_) (fun h18 => ?_)
    ·
     refine LD.drop rfl rfl ⟨95, _, rfl, rfl, rfl⟩ ?_
     refine LD.drop rfl rfl ⟨95, _, rfl, rfl, rfl⟩ ?_
     refine LD.drop rfl rfl ⟨95, _, rfl, rfl, rfl⟩ ?_
     refine LD.drop rfl rfl ⟨95, _, rfl, rfl, rfl⟩ ?_
     refine LD.drop rfl rfl ⟨95, _, rfl, rfl, rfl⟩ ?_
     refine LD.drop rfl rfl ⟨95, _, rfl, rfl, rfl⟩ ?_
     refine LD.drop rfl rfl ⟨95, _, rfl, rfl, rfl⟩ ?_
     refine LD.drop rfl rfl ⟨95, _, rfl, rfl, rfl⟩ ?_
     refine LD.drop rfl rfl ⟨95, _, rfl, rfl, rfl⟩ ?_
     refine LD.val rfl rfl (ov_pickT rfl rfl) ?_
     refine LD.val rfl rfl (ov_move rfl) ?_
     refine LD.drop rfl rfl ⟨106, _, rfl, rfl, rfl⟩ ?_
     refine LD.drop rfl rfl ⟨106, _, rfl, rfl, rfl⟩ ?_
     refine LD.dropU rfl rfl ⟨106, _, rfl, rfl, rfl⟩ ?_
     refine LD.dropX rfl rfl rfl rfl ?_
     refine LD.dropX rfl rfl rfl rfl ?_
     refine LD.dropX rfl rfl rfl rfl ?_
     refine LD.dropX rfl rfl rfl rfl ?_
     refine LD.dropX rfl rfl rfl rfl ?_
     refine LD.dropX rfl rfl rfl rfl ?_
     refine LD.drop rfl rfl ⟨106, _, rfl, rfl, rfl⟩ ?_
     refine LD.val rfl rfl (ov_pickT rfl rfl) ?_
     refine LD.nil ?_
     refine QM.sub (e' := [(1, _), (2, _), (3, _), (8, _), (9, _), (117, _)]) au9 ?_
     refine QM.meetK (_) ⟨au2, rfl, rfl, rfl, rfl, rfl, trivial⟩ au1 ?_
     · simp only [h1, h2, h14, h16, h17, h18, decide_true, decide_false, Bool.true_and, Bool.false_and, Bool.and_true, Bool.and_false, Bool.not_true, Bool.not_false, Bool.true_or, Bool.false_or, Bool.or_true, Bool.or_false, ne_eq, not_true_eq_false, not_false_eq_true, Bool.and_self]
    refine LD.val rfl ⟨95, _, rfl, rfl, rfl⟩ (ov_field Tryz.underlying140 rfl Tryz.sizeOf3 rfl (k := 3) rfl rfl) ?_
    refine LD.rd rfl ⟨95, _, rfl, rfl, rfl⟩ (om_ld Tryz.isAgg3 rfl rfl) ?_
    refine LD.val rfl ⟨95, _, rfl, rfl, rfl⟩ (ov_move rfl) ?_
    refine LD.val rfl ⟨95, _, rfl, rfl, rfl⟩ (ov_field Tryz.underlying135 rfl Tryz.sizeOf3 rfl (k := 1) rfl rfl) ?_
    refine LD.rd rfl ⟨95, _, rfl, rfl, rfl⟩ (om_ld Tryz.isAgg3 rfl rfl) ?_
    first | refine LD.val rfl ⟨95, _, rfl, rfl, rfl⟩ (ov_idxSN au6 Tryz.underlying27 Tryz.sizeOf63 rfl rfl (by omega)) ?_ | refine LD.val rfl ⟨95, _, rfl, rfl, rfl⟩ (ov_idxS au6 Tryz.underlying27 Tryz.sizeOf63 rfl rfl (by omega)) ?_ | refine LD.val rfl ⟨95, _, rfl, rfl, rfl⟩ (ov_idx Tryz.underlying27 Tryz.sizeOf63 rfl rfl (by omega)) ?_
    refine LD.val rfl ⟨95, _, rfl, rfl, rfl⟩ (ov_field Tryz.underlying63 rfl Tryz.sizeOf3 rfl (k := 2) rfl rfl) ?_
    first | refine LD.rd rfl ⟨95, _, rfl, rfl, rfl⟩ (om_slE (j := 2) (by assumption) (by intro _; rfl) Tryz.isAgg3 rfl rfl au3 rfl (by rfl)) ?_ | refine LD.rdC rfl ⟨95, _, rfl, rfl, rfl⟩ (om_srE (j := 2) (by assumption) Tryz.isAgg3 rfl rfl au3 (by rfl) (by rfl) id) ?_ | refine LD.rd rfl ⟨95, _, rfl, rfl, rfl⟩ (om_ld Tryz.isAgg3 rfl rfl) ?_
    refine LD.val rfl ⟨95, _, rfl, rfl, rfl⟩ (ov_gtr rfl rfl) ?_
    refine LD.val rfl rfl (ov_pickF rfl rfl) ?_
    refine LD.val rfl rfl (ov_move rfl) ?_
    refine LD.splitD (t := 106) rfl (fun h19 => ?_) (fun h19 => ?_)
    ·
     refine LD.drop rfl rfl ⟨106, _, rfl, rfl, rfl⟩ ?_
     refine LD.drop rfl rfl ⟨106, _, rfl, rfl, rfl⟩ ?_
     refine LD.dropU rfl rfl ⟨106, _, rfl, rfl, rfl⟩ ?_
     refine LD.dropX rfl rfl rfl rfl ?_
     refine LD.dropX rfl rfl rfl rfl ?_
     refine LD.dropX rfl rfl rfl rfl ?_
     refine LD.dropX rfl rfl rfl rfl ?_
     refine LD.dropX rfl rfl rfl rfl ?_
     refine LD.dropX rfl rfl rfl rfl ?_
     refine LD.drop rfl rfl ⟨106, _, rfl, rfl, rfl⟩ ?_
     refine LD.val rfl rfl (ov_pickT rfl rfl) ?_
     refine LD.nil ?_
     refine QM.sub (e' := [(1, _), (2, _), (3, _), (8, _), (9, _), (117, _)]) au9 ?_
     refine QM.meetK (_) ⟨au2, rfl, rfl, rfl, rfl, rfl, trivial⟩ au1 ?_
     · simp only [h1, h2, h14, h16, h17, h18, h19, decide_true, decide_false, Bool.true_and, Bool.false_and, Bool.and_true, Bool.and_false, Bool.not_true, Bool.not_false, Bool.true_or, Bool.false_or, Bool.or_true, Bool.or_false, ne_eq, not_true_eq_false, not_false_eq_true, Bool.and_self]
    refine LD.val rfl ⟨106, _, rfl, rfl, rfl⟩ (ov_field Tryz.underlying87 rfl Tryz.sizeOf4 rfl (k := 0) rfl rfl) ?_
    refine LD.rd rfl ⟨106, _, rfl, rfl, rfl⟩ (om_ld Tryz.isAgg4 rfl rfl) ?_
    refine LD.val rfl ⟨106, _, rfl, rfl, rfl⟩ (ov_move rfl) ?_
    first | refine LD.splitD (t := 109) rfl (fun h20 => ?_) (fun h20 => ?_) | refine LD.splitB (t := 109) rfl (fun h20 => ?_) (fun h20 => ?_)
    ·
     refine LD.val rfl ⟨109, _, rfl, rfl, rfl⟩ (ov_field Tryz.underlying140 rfl Tryz.sizeOf3 rfl (k := 1) rfl rfl) ?_
     refine LD.rd rfl ⟨109, _, rfl, rfl, rfl⟩ (om_ld Tryz.isAgg3 rfl rfl) ?_
     refine LD.val rfl ⟨109, _, rfl, rfl, rfl⟩ (ov_field Tryz.underlying87 rfl Tryz.sizeOf85 rfl (k := 1) rfl rfl) ?_
     refine LD.rd rfl ⟨109, _, rfl, rfl, rfl⟩ (om_ld Tryz.isAgg85 rfl rfl) ?_
     refine LD.val rfl ⟨109, _, rfl, rfl, rfl⟩ (ov_len Tryz.underlying85 rfl) ?_
     refine LD.val rfl ⟨109, _, rfl, rfl, rfl⟩ (ov_eql rfl rfl) ?_
     refine LD.val rfl ⟨106, _, rfl, rfl, rfl⟩ (ov_pickT rfl rfl) ?_
     refine LD.val rfl rfl (ov_pickF rfl rfl) ?_
     refine LD.nil ?_
     refine QM.sub (e' := [(1, _), (2, _), (3, _), (8, _), (9, _), (117, _)]) au9 ?_
     refine QM.meetK (_) ⟨au2, rfl, rfl, rfl, rfl, rfl, trivial⟩ au1 ?_
     · simp only [h1, h2, h14, h16, h17, h18, h19, h20, decide_true, decide_false, Bool.true_and, Bool.false_and, Bool.and_true, Bool.and_false, Bool.not_true, Bool.not_false, Bool.true_or, Bool.false_or, Bool.or_true, Bool.or_false, ne_eq, not_true_eq_false, not_false_eq_true, Bool.and_self]
    refine LD.drop rfl rfl ⟨109, _, rfl, rfl, rfl⟩ ?_
    refine LD.drop rfl rfl ⟨109, _, rfl, rfl, rfl⟩ ?_
    refine LD.drop rfl rfl ⟨109, _, rfl, rfl, rfl⟩ ?_
    refine LD.drop rfl rfl ⟨109, _, rfl, rfl, rfl⟩ ?_
    refine LD.drop rfl rfl ⟨109, _, rfl, rfl, rfl⟩ ?_
    refine LD.drop rfl rfl ⟨109, _, rfl, rfl, rfl⟩ ?_
    refine LD.val rfl ⟨106, _, rfl, rfl, rfl⟩ (ov_pickF rfl rfl) ?_
    refine LD.val rfl rfl (ov_pickF rfl rfl) ?_
    refine LD.nil ?_
    refine QM.sub (e' := [(1, _), (2, _), (3, _), (8, _), (9, _), (117, _)]) au9 ?_
    refine QM.meetK (_) ⟨au2, rfl, rfl, rfl, rfl, rfl, trivial⟩ au1 ?_
    · simp only [h1, h2, h14, h16, h17, h18, h19, h20, decide_true, decide_false, Bool.true_and, Bool.false_and, Bool.and_true, Bool.and_false, Bool.not_true, Bool.not_false, Bool.true_or, Bool.false_or, Bool.or_true, Bool.or_false, ne_eq, not_true_eq_false, not_false_eq_true, Bool.and_self]
   rintro q4 hq4
   change QM _ _ _ _ _ (pB b3 fv ad n cap :: []) _ _ _
   refine QM.then ?_
   first | refine wpM.condD rfl (fun h21 => ?_) (fun h21 => ?_) | refine wpM.condB rfl (fun h21 => ?_) (fun h21 => ?_)
   ·
    refine wpM.seq (wpM.region ?_)
    refine LM.mv rfl (LM.as rfl (LM.as rfl ?_))
    refine LM.nil (QM.sub (e' := [(6, _), (7, _)]) au9 (QM.then ?_))
    refine wpM.ret ?_
    refine QM.block_ret ?_
    refine QM.then_ret ?_
    refine QM.then_ret ?_
    refine QM.block_ret ?_
    refine QM.then_ret ?_
    refine QM.leave (.inl rfl) [.tmp 6, .tmp 7] Tryz.results46 rfl ?_
    intro w' hm' hc' hg'
    exact ⟨(ckV_at (e := 13) hm0 h0 (by omega) (by simp only [fitsO, ← hn, ← hn2, ← hq, ← hq3, ← hq4]; simp only [h1, h2, h14, h16, h17, h21, decide_true, decide_false, Bool.true_and, Bool.false_and, Bool.and_true, Bool.and_false, Bool.not_true, Bool.not_false, Bool.true_or, Bool.false_or, Bool.or_true, Bool.or_false, ne_eq, not_true_eq_false, not_false_eq_true, Bool.and_self, if_true, if_false, Bool.false_eq_true]) (by decide)).symm, hc'⟩
   refine wpM.skip ?_
   refine QM.block_normal ?_
   refine QM.then (wpM.region ?_)
   refine LM.mv rfl ?_
   refine LM.val (ov_add64 rfl rfl (by omega)) ?_
   refine LM.as rfl ?_
   refine LM.nil (QM.sub (e' := [(1, _), (2, _), (3, _), (8, _), (9, _)]) au9 ?_)
   refine QM.againK (i + 1) ⟨au2, au2, rfl, rfl, rfl, trivial⟩ au1 (fun _ h => h) ?_ ?_
   · exact ⟨by omega, before_succ h0 (by simp only [fitsO, ← hn, ← hn2, ← hq, ← hq3, ← hq4]; simp only [h1, h2, h14, h16, h17, h21, decide_true, decide_false, Bool.true_and, Bool.false_and, Bool.and_true, Bool.and_false, Bool.not_true, Bool.not_false, Bool.true_or, Bool.false_or, Bool.or_true, Bool.or_false, ne_eq, not_true_eq_false, not_false_eq_true, Bool.and_self, if_true, if_false, ite_true, Bool.false_eq_true])⟩
   · omega
  refine wpM.skip ?_
  refine QM.block_normal ?_
  refine QM.then (wpM.region ?_)
  refine LM.mv rfl ?_
  refine LM.val (ov_add64 rfl rfl (by omega)) ?_
  refine LM.as rfl ?_
  refine LM.nil (QM.sub (e' := [(1, _), (2, _), (3, _), (8, _), (9, _)]) au9 ?_)
  refine QM.againK (i + 1) ⟨au2, au2, rfl, rfl, rfl, trivial⟩ au1 (fun _ h => h) ?_ ?_
  · exact ⟨by omega, before_succ h0 (by simp only [fitsO, ← hn, ← hn2, ← hq, ← hq3]; simp only [h1, h2, h14, h16, h17, decide_true, decide_false, Bool.true_and, Bool.false_and, Bool.and_true, Bool.and_false, Bool.not_true, Bool.not_false, Bool.true_or, Bool.false_or, Bool.or_true, Bool.or_false, ne_eq, not_true_eq_false, not_false_eq_true, Bool.and_self, if_true, if_false, ite_true, Bool.false_eq_true])⟩
  · omega
 refine wpM.exit ?_
 refine QM.then_exit ?_
 refine QM.then_exit ?_
 refine QM.block_hit ?_
 refine QM.then ?_
 refine wpM.seq ?_
 refine wpM.seq (wpM.region ?_)
 refine LM.val (ov_field Tryz.underlying87 rfl Tryz.sizeOf4 rfl (k := 0) rfl rfl) ?_
 refine LM.rd (om_ld Tryz.isAgg4 rfl rfl) ?_
 refine LM.mv rfl ?_
 first | refine LM.splitD (t := 121) rfl (fun h22 => ?_) (fun h22 => ?_) | refine LM.splitB (t := 121) rfl (fun h22 => ?_) (fun h22 => ?_)
 ·
  refine LM.sp 121 rfl rfl rfl (LM.mv rfl (LM.sp 121 rfl rfl rfl ?_))
  first | refine LM.val (ov_notD rfl) ?_ | refine LM.val (ov_not rfl) ?_
  refine LM.val (ov_pickT rfl rfl) ?_
  refine LM.nil (QM.sub (e' := [(124, _)]) ⟨rfl, trivial⟩ (QM.then ?_))
  first | refine wpM.condD rfl (fun h23 => ?_) (fun h23 => ?_) | refine wpM.condB rfl (fun h23 => ?_) (fun h23 => ?_)
  ·
   refine wpM.seq (wpM.region ?_)
   refine LM.as rfl (LM.as rfl ?_)
   refine LM.nil (QM.sub (e' := [(6, _), (7, _)]) au9 (QM.then ?_))
   refine wpM.ret ?_
   refine QM.then_ret ?_
   refine QM.leave (.inl rfl) [.tmp 6, .tmp 7] Tryz.results46 rfl ?_
   intro w' hm' hc' hg'
   have hil : i = xs.length := (by omega); subst hil; rw [List.take_length] at h23; exact ⟨(ckV_end (b := true) hm0 h0 (by rw [h22, h23]; rfl)).symm, hc'⟩
  refine wpM.skip ?_
  refine QM.then (wpM.seq (wpM.region ?_))
  refine LM.as rfl (LM.as rfl ?_)
  refine LM.nil (QM.sub (e' := [(6, _), (7, _)]) au9 (QM.then ?_))
  refine wpM.ret ?_
  refine QM.leave (.inl rfl) [.tmp 6, .tmp 7] Tryz.results46 rfl ?_
  intro w' hm' hc' hg'
  have hil : i = xs.length := (by omega); subst hil; rw [List.take_length] at h23; exact ⟨(ckV_end (b := false) hm0 h0 (by rw [h22, h23]; rfl)).symm, hc'⟩
 refine LM.dr 121 rfl rfl rfl (LM.dr 121 rfl rfl rfl ?_)
 refine LM.val (ov_pickF rfl rfl) ?_
 refine LM.nil (QM.sub (e' := [(124, _)]) ⟨rfl, trivial⟩ (QM.then ?_))
 refine wpM.condF rfl ?_
 refine wpM.skip ?_
 refine QM.then (wpM.seq (wpM.region ?_))
 refine LM.as rfl (LM.as rfl ?_)
 refine LM.nil (QM.sub (e' := [(6, _), (7, _)]) au9 (QM.then ?_))
 refine wpM.ret ?_
 refine QM.leave (.inl rfl) [.tmp 6, .tmp 7] Tryz.results46 rfl ?_
 intro w' hm' hc' hg'
 have hil : i = xs.length := (by omega); subst hil; exact ⟨(ckV_end (b := false) hm0 h0 (by rw [h22]; rfl)).symm, hc'⟩
end Go.Eng
namespace Go.Eng
open Go Go.Proofs Go.RowKit
structure PgV where
  c : PgC
  ad : Option Addr
  n : Nat
  cap : Nat
instance : Inhabited PgV := ⟨⟨default, none, 0, 0⟩⟩
def fPg (p : PgV) : List Value := [.bool p.c.fv, .slice p.ad p.n p.cap]
def PgV.In (p : PgV) (w : World) : Prop := p.n = p.c.xs.length ∧ Sr fO 3 p.c.xs (.slice p.ad p.n p.cap) w
theorem PgV.In.ext {p : PgV} {w w' : World} (h : p.In w) (k : Ext w w') : p.In w' := ⟨h.1, h.2.ext k⟩
def PgsIn (ps : List PgV) (w : World) : Prop := ∀ p ∈ ps, p.In w
theorem PgsIn.ext {ps : List PgV} {w w' : World} (h : PgsIn ps w) (k : Ext w w') : PgsIn ps w' := fun p hp => (h p hp).ext k
structure StV where
  cr : Int
  gr : Int
  gs : List Int
  ga : Option Addr
  gn : Nat
  gc : Nat
  ls : List CLk
  la : Option Addr
  ln : Nat
  lc : Nat
  ps : List PgV
  pa : Option Addr
  pn : Nat
  pc : Nat
instance : Inhabited StV := ⟨⟨0, 0, [], none, 0, 0, [], none, 0, 0, [], none, 0, 0⟩⟩
def StV.cs (s : StV) : List Value := [.int .i64 s.cr, .int .i64 s.gr, .slice s.ga s.gn s.gc, .slice s.la s.ln s.lc, .slice s.pa s.pn s.pc]
abbrev StV.val (s : StV) : Value := .agg #[.int .i64 s.cr, .int .i64 s.gr, .slice s.ga s.gn s.gc, .slice s.la s.ln s.lc, .slice s.pa s.pn s.pc]
def StV.C (s : StV) : StC := ⟨s.cr, s.gr, s.gs, s.ls, s.ps.map PgV.c⟩
structure StV.In (s : StV) (w : World) : Prop where
  hgn : s.gn = s.gs.length
  hg : Sr fI 1 s.gs (.slice s.ga s.gn s.gc) w
  hln : s.ln = s.ls.length
  hl : Sr fL 5 s.ls (.slice s.la s.ln s.lc) w
  hpn : s.pn = s.ps.length
  hp : Sr fPg 2 s.ps (.slice s.pa s.pn s.pc) w
  ops : PgsIn s.ps w
theorem StV.In.ext {s : StV} {w w' : World} (h : s.In w) (k : Ext w w') : s.In w' := ⟨h.hgn, h.hg.ext k, h.hln, h.hl.ext k, h.hpn, h.hp.ext k, h.ops.ext k⟩
theorem map_getD {ps : List PgV} {i : Nat} : (ps.map PgV.c).getD i default = (ps.getD i default).c := by
  rw [List.getD_eq_getElem?_getD, List.getD_eq_getElem?_getD, List.getElem?_map]; cases ps[i]? <;> rfl
end Go.Eng
namespace Go.Eng
open Go Go.Proofs Go.RowKit
structure SetI (ws : List Wrd) (i0 : Nat) (gs : List Int) (i1 : Nat) (e1 : Int) (ls : List CLk) (i2 : Nat) (e2 : Int) (ps : List PgC) (pl : List Int) (i3 : Nat) (e3 : Int) : Prop where
  g : (sG ws i0).2 = (i1, e1) ∧ (e1 = 0 → (sG ws i0).1 = gs)
  l : lkL ws i1 e1 [] = (ls, i2, e2)
  p : pgL ws i2 e2 [] [] = (ps, pl, i3, e3)
theorem SetI.two {ws : List Wrd} {i0 : Nat} {gs : List Int} {i1 : Nat} {e1 : Int} {ls : List CLk} {i2 : Nat} {e2 : Int} {ps : List PgC} {pl : List Int} {i3 : Nat} {e3 : Int} (h : SetI ws i0 gs i1 e1 ls i2 e2 ps pl i3 e3) : sL ws i0 = (ls, i2, e2) ∧ sP ws i0 = (ps, pl, i3, e3) := by
  have a : sL ws i0 = (ls, i2, e2) := by unfold Go.Eng.sL; rw [h.g.1]; exact h.l
  exact ⟨a, by unfold sP; rw [a]; exact h.p⟩
theorem SetI.bad {ws : List Wrd} {i0 : Nat} {gs : List Int} {i1 : Nat} {e1 : Int} {ls : List CLk} {i2 : Nat} {e2 : Int} {ps : List PgC} {pl : List Int} {i3 : Nat} {e3 : Int} (h : SetI ws i0 gs i1 e1 ls i2 e2 ps pl i3 e3) (he : e3 ≠ 0) : stpR ws i0 = (default, (i3 : Int), e3) := by
  unfold stpR; rw [h.two.2]; simp only; rw [if_pos he]
theorem SetI.ok {ws : List Wrd} {i0 : Nat} {gs : List Int} {i1 : Nat} {e1 : Int} {ls : List CLk} {i2 : Nat} {e2 : Int} {ps : List PgC} {pl : List Int} {i3 : Nat} {e3 : Int} (h : SetI ws i0 gs i1 e1 ls i2 e2 ps pl i3 e3) (he : e3 = 0) (h0 : ps.any (misB ls ps.length) = false) : stpR ws i0 = (⟨(sA ws i0).2.2, (sB2 ws i0).2.2, gs, ls, ps⟩, (i3 : Int), 0) := by
  have z2 : e2 = 0 := by
    have := pgF_zero (ws := ws) _ i2 e2 [] [] (by have := h.p; unfold pgL at this; rw [this]; exact he)
    exact this
  have z1 : e1 = 0 := by
    have := lkF_zero (ws := ws) _ i1 e1 [] (by have := h.l; unfold lkL at this; rw [this]; exact z2)
    exact this
  have e' : misI ls ps = -1 := fix_miss h0
  unfold stpR; rw [h.two.2, h.two.1]; simp only; rw [if_neg (by simp [he]), e', if_neg (by decide), h.g.2 z1]
theorem par_pos {ws : List Wrd} {i : Nat} (h : i ≤ ws.length) : 0 ≤ (parseO ws (i : Int)).2.2.1 ∧ (parseO ws (i : Int)).2.2.1.toNat ≤ ws.length := by
  have key : ∀ (f i : Nat) (ops : List COp), i ≤ ws.length → 0 ≤ (loopP f ws i ops).2.1 ∧ (loopP f ws i ops).2.1.toNat ≤ ws.length := by
    intro f
    induction f with
    | zero => intro i ops hi; exact ⟨by show (0 : Int) ≤ (i : Int); omega, by show ((i : Int)).toNat ≤ _; omega⟩
    | succ f ih =>
      intro i ops hi
      unfold loopP
      split
      · rename_i q
        have := isR_lt q
        split
        · exact ⟨by show (0 : Int) ≤ (i : Int); omega, by show ((i : Int)).toNat ≤ _; omega⟩
        · exact ⟨by show (0 : Int) ≤ ((i + 1 : Nat) : Int); omega, by show (((i + 1 : Nat) : Int)).toNat ≤ _; omega⟩
      · have hp := opR_pos (k := ops.length) hi
        split
        · exact ⟨by show (0 : Int) ≤ ((opR ws i ops.length).1 : Int); omega, by show (((opR ws i ops.length).1 : Int)).toNat ≤ _; omega⟩
        · exact ih _ _ hp
  rw [parse_nat h]
  simp only
  unfold bodyR
  split
  · rename_i q
    have := isR_lt q
    have hh : (headR ws i).2 ≤ ws.length := by
      unfold headR; simp only; split
      · rename_i q; have := isR_lt q; omega
      · omega
    split
    · rename_i q2
      have := isR_lt q2
      exact key _ _ _ (by omega)
    · exact ⟨by show (0 : Int) ≤ ((headR ws i).2 : Int); omega, by show (((headR ws i).2 : Int)).toNat ≤ _; omega⟩
  · exact ⟨by show (0 : Int) ≤ (i : Int); omega, by show ((i : Int)).toNat ≤ _; omega⟩
def StT (r : StC × Int × Int) (n0 : Nat) (v : Value) (m : Mem0) : Prop := ∃ sv : StV, v = .tuple #[sv.val, .int .i64 r.2.1, .int .i64 r.2.2] ∧ sv.C = r.1 ∧ ∀ w, Mem w m → sv.In w
theorem StT.mono {r : StC × Int × Int} : ∀ (k k' : Nat) u m, k' ≤ k → StT r k u m → StT r k' u m := fun k k' u m h q => q
theorem StT.none {p e : Int} {n0 : Nat} : StT (default, p, e) n0 (.tuple #[(default : StV).val, .int .i64 p, .int .i64 e]) [] :=
  ⟨default, rfl, rfl, fun w _ => ⟨rfl, .nil _ _ _, rfl, .nil _ _ _, rfl, .nil _ _ _, fun p hp => by cases hp⟩⟩
abbrev sO (c g : Int) (ga : Option Addr) (gn gc : Nat) (la : Option Addr) (ln lc : Nat) (pa : Option Addr) (pn pc : Nat) : Obj := .cells #[.int .i64 c, .int .i64 g, .slice ga gn gc, .slice la ln lc, .slice pa pn pc] 30 (0, 0)
abbrev z0 : Obj := sO 0 0 none 0 0 none 0 0 none 0 0
theorem snoc_map {ps : List PgV} {p : PgV} : (ps ++ [p]).map PgV.c = ps.map PgV.c ++ [p.c] := by simp
theorem snoc_in {ps : List PgV} {p : PgV} {w : World} (h : PgsIn ps w) (k : p.In w) : PgsIn (ps ++ [p]) w := fun q hq => by
  rcases List.mem_append.1 hq with hq | hq
  · exact h q hq
  · rw [List.mem_singleton] at hq; subst hq; exact k
theorem sr_of_sl {α : Type} {f : α → List Value} {E s n0 : Nat} {xs : List α} {v : Value} {m : Mem0} {w : World} (h : Sl f E s n0 xs v m) (hf : ∀ a, (f a).length = s) (hm : Mem w m) : Sr f s xs v w := h.sr hf (fun p hp => hm.2 p hp)
end Go.Eng
namespace Go.Eng
open Go Go.Proofs Go.RowKit
abbrev stB (b : Nat) (s : StV) : Nat × Obj := (b, sO s.cr s.gr s.ga s.gn s.gc s.la s.ln s.lc s.pa s.pn s.pc)
def headB (s : StC) : Bool := winB s.cr 4 && (winB s.gr 8 && (winB (s.gs.length : Int) 4 && (decide (s.ls.length ≤ 8) && winB (s.ps.length : Int) 8)))
theorem mayS_split (s : StC) : mayS s = (headB s && (s.gs.all (fun n => winB n 16) && (s.ls.all lokB && !s.ps.any (misB s.ls s.ps.length)))) := by
  unfold mayS headB
  ac_rfl
theorem all_ff {α : Type} {p : α → Bool} {xs : List α} {i : Nat} (d : α) (h : i < xs.length) (hp : p (xs.getD i d) = false) : xs.all p = false := by
  cases hm : xs.all p with
  | false => rfl
  | true => rw [List.all_eq_true.1 hm _ (List.mem_of_getElem? (getq d h))] at hp; cases hp
theorem any_tt {α : Type} {p : α → Bool} {xs : List α} {i : Nat} (d : α) (h : i < xs.length) (hp : p (xs.getD i d) = true) : xs.any p = true := List.any_eq_true.2 ⟨_, List.mem_of_getElem? (getq d h), hp⟩
theorem head_eq {s : StV} (h1 : s.gn = s.gs.length) (h2 : s.ln = s.ls.length) (h3 : s.pn = s.ps.length) : headB s.C = !(!winB s.cr 4 || (!winB s.gr 8 || (!winB (s.gn : Int) 4 || (decide ((s.ln : Int) > 8) || !winB (s.pn : Int) 8)))) := by
  unfold headB StV.C
  simp only [List.length_map, ← h1, ← h2, ← h3]
  rw [show decide (s.ln ≤ 8) = !decide ((s.ln : Int) > 8) by rw [← decide_not]; exact decide_eq_decide.2 (by omega)]
  cases winB s.cr 4 <;> cases winB s.gr 8 <;> cases winB (s.gn : Int) 4 <;> cases decide ((s.ln : Int) > 8) <;> cases winB (s.pn : Int) 8 <;> rfl
def smallS (s : StC) : Bool := decide (s.gs.length ≤ 12) && decide (s.ls.length ≤ 12) && decide (s.ps.length ≤ 12) && s.ps.all (fun p => decide (p.xs.length ≤ 20))
theorem mayS_head {s : StC} (h : headB s = false) : mayS s = false := by rw [mayS_split, h]; rfl
theorem mayS_gs {s : StC} (h : s.gs.all (fun n => winB n 16) = false) : mayS s = false := by rw [mayS_split, h]; simp
theorem mayS_ls {s : StC} (h : s.ls.all lokB = false) : mayS s = false := by rw [mayS_split, h]; simp
theorem mayS_ps {s : StC} (h : s.ps.any (misB s.ls s.ps.length) = true) : mayS s = false := by rw [mayS_split, h]; simp
theorem lok_eq {x : CLk} : lokB x = !((!winB x.sl 16 || !winB x.cr 32) || ((x.sh && (!winB x.rd 16 || !winB x.wr 16)) || (!x.sh && (decide (x.rd ≠ 0) || decide (x.wr ≠ 0))))) := by
  unfold lokB
  cases x.sh <;> cases winB x.sl 16 <;> cases winB x.cr 32 <;> simp
set_option maxRecDepth 100000 in
theorem rwithin_spec (n most : Int) (w : World) : Ret Tryz.prog 59 #[.int .i64 n, .int .i64 most] w (fun v w' => v = .bool (winB n most) ∧ Ext w w') := by
 refine Ret.enterM (l := [.int .i64 n, .int .i64 most]) Tryz.func59 rfl Tryz.ntmps59 rfl ([]) (no) (Mem.nil w) ?_
 refine wpM.seq (wpM.region ?_)
 refine LM.as rfl ?_
 refine LM.nil (QM.sub (e' := [(0, _), (1, _)]) au9 (QM.then (wpM.seq (wpM.region ?_))))
 refine LM.mv rfl ?_
 refine LM.val (ov_geq rfl rfl) ?_
 refine LM.mv rfl ?_
 refine LM.splitD (t := 7) rfl (fun h1 => ?_) (fun h1 => ?_)
 ·
  refine LM.sp 7 rfl rfl rfl (LM.mv rfl (LM.sp 7 rfl rfl rfl (LM.mv rfl (LM.sp 7 rfl rfl rfl ?_))))
  refine LM.val (ov_leq rfl rfl) ?_
  refine LM.val (ov_pickT rfl rfl) ?_
  refine LM.as rfl ?_
  refine LM.nil (QM.sub (e' := [(4, _)]) ⟨rfl, trivial⟩ (QM.then ?_))
  refine wpM.ret ?_
  refine QM.leave (.inl rfl) [.tmp 4] Tryz.results59 rfl ?_
  intro w' hm' hc' hg'
  refine ⟨?_, hc'⟩; simp only [resV, winB]; first | (rw [decide_eq_true (show 1 ≤ n by omega), Bool.true_and]; done) | (rw [decide_eq_false (show ¬ 1 ≤ n by omega), Bool.false_and]; done)
 refine LM.dr 7 rfl rfl rfl (LM.dr 7 rfl rfl rfl (LM.dr 7 rfl rfl rfl ?_))
 refine LM.val (ov_pickF rfl rfl) ?_
 refine LM.as rfl ?_
 refine LM.nil (QM.sub (e' := [(4, _)]) ⟨rfl, trivial⟩ (QM.then ?_))
 refine wpM.ret ?_
 refine QM.leave (.inl rfl) [.tmp 4] Tryz.results59 rfl ?_
 intro w' hm' hc' hg'
 refine ⟨?_, hc'⟩; simp only [resV, winB]; first | (rw [decide_eq_true (show 1 ≤ n by omega), Bool.true_and]; done) | (rw [decide_eq_false (show ¬ 1 ≤ n by omega), Bool.false_and]; done)
set_option maxRecDepth 100000 in
theorem swithin_spec (n most : Int) (w : World) : Ret Tryz.prog 48 #[.int .i64 n, .int .i64 most] w (fun v w' => v = .bool (winB n most) ∧ Ext w w') := by
 refine Ret.enterM (l := [.int .i64 n, .int .i64 most]) Tryz.func48 rfl Tryz.ntmps48 rfl ([]) (no) (Mem.nil w) ?_
 refine wpM.seq (wpM.region ?_)
 refine LM.as rfl ?_
 refine LM.nil (QM.sub (e' := [(0, _), (1, _)]) au9 (QM.then (wpM.seq (wpM.region ?_))))
 refine LM.mv rfl ?_
 refine LM.val (ov_geq rfl rfl) ?_
 refine LM.mv rfl ?_
 refine LM.splitD (t := 7) rfl (fun h1 => ?_) (fun h1 => ?_)
 ·
  refine LM.sp 7 rfl rfl rfl (LM.mv rfl (LM.sp 7 rfl rfl rfl (LM.mv rfl (LM.sp 7 rfl rfl rfl ?_))))
  refine LM.val (ov_leq rfl rfl) ?_
  refine LM.val (ov_pickT rfl rfl) ?_
  refine LM.as rfl ?_
  refine LM.nil (QM.sub (e' := [(4, _)]) ⟨rfl, trivial⟩ (QM.then ?_))
  refine wpM.ret ?_
  refine QM.leave (.inl rfl) [.tmp 4] Tryz.results48 rfl ?_
  intro w' hm' hc' hg'
  refine ⟨?_, hc'⟩; simp only [resV, winB]; first | (rw [decide_eq_true (show 1 ≤ n by omega), Bool.true_and]; done) | (rw [decide_eq_false (show ¬ 1 ≤ n by omega), Bool.false_and]; done)
 refine LM.dr 7 rfl rfl rfl (LM.dr 7 rfl rfl rfl (LM.dr 7 rfl rfl rfl ?_))
 refine LM.val (ov_pickF rfl rfl) ?_
 refine LM.as rfl ?_
 refine LM.nil (QM.sub (e' := [(4, _)]) ⟨rfl, trivial⟩ (QM.then ?_))
 refine wpM.ret ?_
 refine QM.leave (.inl rfl) [.tmp 4] Tryz.results48 rfl ?_
 intro w' hm' hc' hg'
 refine ⟨?_, hc'⟩; simp only [resV, winB]; first | (rw [decide_eq_true (show 1 ≤ n by omega), Bool.true_and]; done) | (rw [decide_eq_false (show ¬ 1 ≤ n by omega), Bool.false_and]; done)
set_option maxRecDepth 100000 in
theorem small12_spec {s : StV} (w : World) (hI : s.In w) : Ret Tryz.prog 15 #[s.val] w (fun v w' => v = .bool (smallS s.C) ∧ Ext w w') := by
 have hgn := hI.hgn; have hln := hI.hln; have hpn := hI.hpn; have hp := hI.hp
 refine Ret.enterM (l := [s.val]) Tryz.func15 rfl Tryz.ntmps15 rfl ([]) (no) (Mem.nil w) ?_
 refine wpM.seq (wpM.region ?_)
 refine LM.box rfl rfl (fun b1 hb1 => ?_)
 refine LM.as rfl ?_
 refine LM.nil (QM.sub (e' := [(1, _)]) ⟨rfl, trivial⟩ (QM.then ?_))
 refine wpM.seq ?_
 refine wpM.seq (wpM.region ?_)
 refine LM.val (ov_field Tryz.underlying30 rfl Tryz.sizeOf26 rfl (k := 2) rfl rfl) ?_
 refine LM.rd (om_ld Tryz.isAgg26 rfl rfl) ?_
 refine LM.val (ov_len Tryz.underlying26 rfl) ?_
 refine LM.val (ov_gtr rfl rfl) ?_
 refine LM.mv rfl ?_
 refine LM.splitD (t := 9) rfl (fun h1 => ?_) (fun h1 => ?_)
 ·
  refine LM.dr 9 rfl rfl rfl (LM.dr 9 rfl rfl rfl (LM.dr 9 rfl rfl rfl (LM.dr 9 rfl rfl rfl ?_)))
  refine LM.val (ov_pickT rfl rfl) ?_
  refine LM.mv rfl (LM.dr 15 rfl rfl rfl (LM.dr 15 rfl rfl rfl (LM.dr 15 rfl rfl rfl (LM.dr 15 rfl rfl rfl ?_))))
  refine LM.val (ov_pickT rfl rfl) ?_
  refine LM.nil (QM.sub (e' := [(1, _), (20, _)]) au9 (QM.then ?_))
  refine wpM.condT rfl ?_
  refine wpM.seq (wpM.region ?_)
  refine LM.as rfl ?_
  refine LM.nil (QM.sub (e' := [(2, _)]) ⟨rfl, trivial⟩ (QM.then ?_))
  refine wpM.ret ?_
  refine QM.then_ret ?_
  refine QM.leave (.inl rfl) [.tmp 2] Tryz.results15 rfl ?_
  intro w' hm' hc' hg'
  refine ⟨?_, hc'⟩; show Value.bool false = Value.bool (smallS s.C); unfold smallS; rw [decide_eq_false (show ¬ s.C.gs.length ≤ 12 by show ¬ s.gs.length ≤ 12; omega)]; rfl
 refine LM.sp 9 rfl rfl rfl (LM.val (ov_field Tryz.underlying30 rfl Tryz.sizeOf27 rfl (k := 3) rfl rfl) (LM.sp 9 rfl rfl rfl ?_))
 refine LM.rd (om_ld Tryz.isAgg27 rfl rfl) ?_
 refine LM.sp 9 rfl rfl rfl ?_
 refine LM.val (ov_len Tryz.underlying27 rfl) ?_
 refine LM.sp 9 rfl rfl rfl ?_
 refine LM.val (ov_gtr rfl rfl) ?_
 refine LM.val (ov_pickF rfl rfl) ?_
 refine LM.mv rfl ?_
 refine LM.splitD (t := 15) rfl (fun h2 => ?_) (fun h2 => ?_)
 ·
  refine LM.dr 15 rfl rfl rfl (LM.dr 15 rfl rfl rfl (LM.dr 15 rfl rfl rfl (LM.dr 15 rfl rfl rfl ?_)))
  refine LM.val (ov_pickT rfl rfl) ?_
  refine LM.nil (QM.sub (e' := [(1, _), (20, _)]) au9 (QM.then ?_))
  refine wpM.condT rfl ?_
  refine wpM.seq (wpM.region ?_)
  refine LM.as rfl ?_
  refine LM.nil (QM.sub (e' := [(2, _)]) ⟨rfl, trivial⟩ (QM.then ?_))
  refine wpM.ret ?_
  refine QM.then_ret ?_
  refine QM.leave (.inl rfl) [.tmp 2] Tryz.results15 rfl ?_
  intro w' hm' hc' hg'
  refine ⟨?_, hc'⟩; show Value.bool false = Value.bool (smallS s.C); unfold smallS; rw [decide_eq_false (show ¬ s.C.ls.length ≤ 12 by show ¬ s.ls.length ≤ 12; omega)]; simp
 refine LM.sp 15 rfl rfl rfl (LM.val (ov_field Tryz.underlying30 rfl Tryz.sizeOf28 rfl (k := 4) rfl rfl) (LM.sp 15 rfl rfl rfl ?_))
 refine LM.rd (om_ld Tryz.isAgg28 rfl rfl) ?_
 refine LM.sp 15 rfl rfl rfl ?_
 refine LM.val (ov_len Tryz.underlying28 rfl) ?_
 refine LM.sp 15 rfl rfl rfl ?_
 refine LM.val (ov_gtr rfl rfl) ?_
 refine LM.val (ov_pickF rfl rfl) ?_
 refine LM.nil (QM.sub (e' := [(1, _), (20, _)]) au9 (QM.then ?_))
 refine wpM.condD rfl (fun h3 => ?_) (fun h3 => ?_)
 ·
  refine wpM.seq (wpM.region ?_)
  refine LM.as rfl ?_
  refine LM.nil (QM.sub (e' := [(2, _)]) ⟨rfl, trivial⟩ (QM.then ?_))
  refine wpM.ret ?_
  refine QM.then_ret ?_
  refine QM.leave (.inl rfl) [.tmp 2] Tryz.results15 rfl ?_
  intro w' hm' hc' hg'
  refine ⟨?_, hc'⟩; show Value.bool false = Value.bool (smallS s.C); unfold smallS; rw [decide_eq_false (show ¬ s.C.ps.length ≤ 12 by show ¬ (s.ps.map PgV.c).length ≤ 12; rw [List.length_map]; omega)]; simp
 refine wpM.skip ?_
 refine QM.then ?_
 refine wpM.seq ?_
 refine wpM.seq (wpM.region ?_)
 refine LM.val (ov_field Tryz.underlying30 rfl Tryz.sizeOf28 rfl (k := 4) rfl rfl) ?_
 refine LM.rd (om_ld Tryz.isAgg28 rfl rfl) ?_
 refine LM.val (ov_len Tryz.underlying28 rfl) ?_
 refine LM.mv rfl ?_
 refine LM.nil (QM.sub (e' := [(22, _), (23, _), (24, _)]) au9 (QM.then ?_))
 refine wpM.block ?_
 refine wpM.loopK0 (α := Nat) (fun i => [(24, .int .i64 (i : Nat))]) [(22, _), (23, _)] (fun i => stB b1 s :: []) (fun i => i ≤ s.ps.length ∧ (s.ps.take i).all (fun p => decide (p.c.xs.length ≤ 20)) = true) (fun i => s.ps.length - i) (0) ⟨au2, rfl, rfl, trivial⟩ au1 ⟨Nat.zero_le _, rfl⟩ ?_
 rintro i ⟨hi, ha⟩
 change wpM _ _ _ _ _ _ _ (stB b1 s :: []) _ _ _
 refine wpM.seq (wpM.region ?_)
 refine LM.val (ov_lss rfl rfl) ?_
 refine LM.nil (QM.sub (e' := [(22, _), (23, _), (24, _), (25, _)]) au9 (QM.then ?_))
 refine wpM.seq ?_
 refine wpM.condD rfl (fun h4 => ?_) (fun h4 => ?_)
 ·
  have hpi : (s.ps.getD i default).In w := hI.ops _ (List.mem_of_getElem? (getq default (by omega))); have hpl := hpi.1
  refine wpM.skip ?_
  refine QM.then ?_
  refine wpM.seq ?_
  refine wpM.block ?_
  refine wpM.seq (wpM.region ?_)
  refine LM.val (ov_idxSN au6 Tryz.underlying28 Tryz.sizeOf87 rfl rfl (by omega)) ?_
  first | refine LM.rd (om_slA (by assumption) (by intro _; rfl) Tryz.isAgg87 Tryz.sizeOf87 rfl au3) ?_ | refine LM.rdC (om_srEA (by assumption) (by intro _; rfl) Tryz.isAgg87 Tryz.sizeOf87 rfl au3 id) ?_ | refine LM.rd (om_ldW Tryz.isAgg87 Tryz.sizeOf87 rfl rfl) ?_ | refine LM.rd (om_ldA Tryz.isAgg87 Tryz.sizeOf87 rfl (vs := [_, _]) rfl ⟨rfl, rfl, trivial⟩) ?_
  refine LM.alloc Tryz.zeroValue87 rfl (fun b4 hb4 => ?_)
  refine LM.stW Tryz.sizeOf87 rfl rfl rfl rfl au7 au8 ?_
  refine LM.nil (QM.sub (e' := [(4, _), (22, _), (23, _), (24, _)]) au9 (QM.then (wpM.seq (wpM.region ?_))))
  refine LM.val (ov_field Tryz.underlying87 rfl Tryz.sizeOf85 rfl (k := 1) rfl rfl) ?_
  refine LM.rd (om_ld Tryz.isAgg85 rfl rfl) ?_
  refine LM.val (ov_len Tryz.underlying85 rfl) ?_
  refine LM.val (ov_gtr rfl rfl) ?_
  refine LM.nil (QM.sub (e' := [(22, _), (23, _), (24, _), (31, _)]) au9 (QM.then ?_))
  refine wpM.condD rfl (fun h5 => ?_) (fun h5 => ?_)
  ·
   refine wpM.seq (wpM.region ?_)
   refine LM.as rfl ?_
   refine LM.nil (QM.sub (e' := [(2, _)]) ⟨rfl, trivial⟩ (QM.then ?_))
   refine wpM.ret ?_
   refine QM.block_ret ?_
   refine QM.then_ret ?_
   refine QM.then_ret ?_
   refine QM.block_ret ?_
   refine QM.then_ret ?_
   refine QM.leave (.inl rfl) [.tmp 2] Tryz.results15 rfl ?_
   intro w' hm' hc' hg'
   refine ⟨?_, hc'⟩; show Value.bool false = Value.bool (smallS s.C); unfold smallS; rw [all_ff (xs := s.C.ps) (i := i) default (by show i < (s.ps.map PgV.c).length; rw [List.length_map]; omega) (by show decide (((s.ps.map PgV.c).getD i default).xs.length ≤ 20) = false; rw [map_getD]; exact decide_eq_false (by omega))]; simp
  refine wpM.skip ?_
  refine QM.block_normal ?_
  refine QM.then (wpM.region ?_)
  refine LM.val (ov_add64 rfl rfl (by omega)) ?_
  refine LM.mv rfl ?_
  refine LM.nil (QM.sub (e' := [(22, _), (23, _), (24, _)]) au9 ?_)
  refine QM.againK (i + 1) ⟨au2, rfl, rfl, trivial⟩ au1 (fun _ h => h) ?_ ?_
  · exact ⟨by omega, by rw [all_snoc default (by omega), ha, Bool.true_and]; exact decide_eq_true (by omega)⟩
  · omega
 refine wpM.exit ?_
 refine QM.then_exit ?_
 refine QM.then_exit ?_
 refine QM.block_hit ?_
 refine QM.then (wpM.seq (wpM.region ?_))
 refine LM.as rfl ?_
 refine LM.nil (QM.sub (e' := [(2, _)]) ⟨rfl, trivial⟩ (QM.then ?_))
 refine wpM.ret ?_
 refine QM.leave (.inl rfl) [.tmp 2] Tryz.results15 rfl ?_
 intro w' hm' hc' hg'
 refine ⟨?_, hc'⟩; have hil : i = s.ps.length := (by omega); subst hil; rw [List.take_length] at ha; show Value.bool true = Value.bool (smallS s.C); unfold smallS; rw [decide_eq_true (show s.C.gs.length ≤ 12 by show s.gs.length ≤ 12; omega), decide_eq_true (show s.C.ls.length ≤ 12 by show s.ls.length ≤ 12; omega), decide_eq_true (show s.C.ps.length ≤ 12 by show (s.ps.map PgV.c).length ≤ 12; rw [List.length_map]; omega), show s.C.ps.all (fun p => decide (p.xs.length ≤ 20)) = true by show (s.ps.map PgV.c).all _ = true; rw [List.all_map]; exact ha]; rfl
set_option maxRecDepth 100000 in
set_option maxHeartbeats 2000000 in
theorem rmayS_spec {s : StV} (w : World) (hI : s.In w) : Ret Tryz.prog 19 #[s.val] w (fun v w' => v = .bool (mayS s.C) ∧ Ext w w') := by
 have hgn := hI.hgn; have hln := hI.hln; have hpn := hI.hpn; have hp := hI.hp; have hg := hI.hg; have hl := hI.hl; have hcl : (s.ps.map PgV.c).length = s.ps.length := List.length_map ..
 refine Ret.enterM (l := [s.val]) Tryz.func19 rfl Tryz.ntmps19 rfl ([]) (no) (Mem.nil w) ?_
 refine wpM.seq (wpM.region ?_)
 refine LM.box rfl rfl (fun b1 hb1 => ?_)
 refine LM.as rfl ?_
 refine LM.nil (QM.sub (e' := [(1, _)]) ⟨rfl, trivial⟩ (QM.then ?_))
 refine wpM.seq ?_
 refine wpM.seq ?_
 refine wpM.joinK (α := Bool) (fun q => [(38, .bool q)]) [(1, _)] (fun q => stB b1 s :: []) (fun q => q = (!winB s.cr 4 || (!winB s.gr 8 || (!winB (s.gn : Int) 4 || (decide ((s.ln : Int) > 8) || !winB (s.pn : Int) 8))))) ⟨rfl, trivial⟩ ?_ ?_
 ·
  refine wpM.region ?_
  refine LM.val (ov_field Tryz.underlying30 rfl Tryz.sizeOf3 rfl (k := 0) rfl rfl) ?_
  refine LM.rd (om_ld Tryz.isAgg3 rfl rfl) ?_
  refine LM.callE (oc_call (enters_fn Tryz.func59 (by kernel_rfl) rfl) rfl) (fun w hm hc hg => rwithin_spec _ _ w) ?_
  first | refine LM.val (ov_notD rfl) ?_ | refine LM.val (ov_not rfl) ?_
  refine LM.mv rfl ?_
  first | refine LM.splitD (t := 13) rfl (fun h1 => ?_) (fun h1 => ?_) | refine LM.splitB (t := 13) rfl (fun h1 => ?_) (fun h1 => ?_)
  ·
   refine LM.dr 13 rfl rfl rfl (LM.dr 13 rfl rfl rfl (LM.dr 13 rfl rfl rfl (LM.dr 13 rfl rfl rfl ?_)))
   refine LM.val (ov_pickT rfl rfl) ?_
   refine LM.mv rfl (LM.dr 19 rfl rfl rfl (LM.dr 19 rfl rfl rfl (LM.dr 19 rfl rfl rfl (LM.dr 19 rfl rfl rfl (LM.dr 19 rfl rfl rfl ?_)))))
   refine LM.val (ov_pickT rfl rfl) ?_
   refine LM.mv rfl (LM.dr 26 rfl rfl rfl (LM.dr 26 rfl rfl rfl (LM.dr 26 rfl rfl rfl (LM.dr 26 rfl rfl rfl ?_))))
   refine LM.val (ov_pickT rfl rfl) ?_
   refine LM.mv rfl (LM.dr 32 rfl rfl rfl (LM.dr 32 rfl rfl rfl (LM.dr 32 rfl rfl rfl (LM.dr 32 rfl rfl rfl (LM.dr 32 rfl rfl rfl ?_)))))
   refine LM.val (ov_pickT rfl rfl) ?_
   refine LM.nil (QM.sub (e' := [(1, _), (38, _)]) au9 ?_)
   refine QM.meetK (_) ⟨au2, rfl, trivial⟩ au1 ?_
   · (simp [h1, -List.getD_eq_getElem?_getD]; done)
  refine LM.sp 13 rfl rfl rfl (LM.val (ov_field Tryz.underlying30 rfl Tryz.sizeOf3 rfl (k := 1) rfl rfl) (LM.sp 13 rfl rfl rfl ?_))
  refine LM.rd (om_ld Tryz.isAgg3 rfl rfl) ?_
  refine LM.sp 13 rfl rfl rfl ?_
  refine LM.callE (oc_call (enters_fn Tryz.func59 (by kernel_rfl) rfl) rfl) (fun w hm hc hg => rwithin_spec _ _ w) ?_
  refine LM.sp 13 rfl rfl rfl ?_
  first | refine LM.val (ov_notD rfl) ?_ | refine LM.val (ov_not rfl) ?_
  refine LM.val (ov_pickF rfl rfl) ?_
  refine LM.mv rfl ?_
  first | refine LM.splitD (t := 19) rfl (fun h2 => ?_) (fun h2 => ?_) | refine LM.splitB (t := 19) rfl (fun h2 => ?_) (fun h2 => ?_)
  ·
   refine LM.dr 19 rfl rfl rfl (LM.dr 19 rfl rfl rfl (LM.dr 19 rfl rfl rfl (LM.dr 19 rfl rfl rfl (LM.dr 19 rfl rfl rfl ?_))))
   refine LM.val (ov_pickT rfl rfl) ?_
   refine LM.mv rfl (LM.dr 26 rfl rfl rfl (LM.dr 26 rfl rfl rfl (LM.dr 26 rfl rfl rfl (LM.dr 26 rfl rfl rfl ?_))))
   refine LM.val (ov_pickT rfl rfl) ?_
   refine LM.mv rfl (LM.dr 32 rfl rfl rfl (LM.dr 32 rfl rfl rfl (LM.dr 32 rfl rfl rfl (LM.dr 32 rfl rfl rfl (LM.dr 32 rfl rfl rfl ?_)))))
   refine LM.val (ov_pickT rfl rfl) ?_
   refine LM.nil (QM.sub (e' := [(1, _), (38, _)]) au9 ?_)
   refine QM.meetK (_) ⟨au2, rfl, trivial⟩ au1 ?_
   · (simp [h1, h2, -List.getD_eq_getElem?_getD]; done)
  refine LM.sp 19 rfl rfl rfl (LM.val (ov_field Tryz.underlying30 rfl Tryz.sizeOf26 rfl (k := 2) rfl rfl) (LM.sp 19 rfl rfl rfl ?_))
  refine LM.rd (om_ld Tryz.isAgg26 rfl rfl) ?_
  refine LM.sp 19 rfl rfl rfl ?_
  refine LM.val (ov_len Tryz.underlying26 rfl) ?_
  refine LM.sp 19 rfl rfl rfl ?_
  refine LM.callE (oc_call (enters_fn Tryz.func59 (by kernel_rfl) rfl) rfl) (fun w hm hc hg => rwithin_spec _ _ w) ?_
  refine LM.sp 19 rfl rfl rfl ?_
  first | refine LM.val (ov_notD rfl) ?_ | refine LM.val (ov_not rfl) ?_
  refine LM.val (ov_pickF rfl rfl) ?_
  refine LM.mv rfl ?_
  first | refine LM.splitD (t := 26) rfl (fun h3 => ?_) (fun h3 => ?_) | refine LM.splitB (t := 26) rfl (fun h3 => ?_) (fun h3 => ?_)
  ·
   refine LM.dr 26 rfl rfl rfl (LM.dr 26 rfl rfl rfl (LM.dr 26 rfl rfl rfl (LM.dr 26 rfl rfl rfl ?_)))
   refine LM.val (ov_pickT rfl rfl) ?_
   refine LM.mv rfl (LM.dr 32 rfl rfl rfl (LM.dr 32 rfl rfl rfl (LM.dr 32 rfl rfl rfl (LM.dr 32 rfl rfl rfl (LM.dr 32 rfl rfl rfl ?_)))))
   refine LM.val (ov_pickT rfl rfl) ?_
   refine LM.nil (QM.sub (e' := [(1, _), (38, _)]) au9 ?_)
   refine QM.meetK (_) ⟨au2, rfl, trivial⟩ au1 ?_
   · (simp [h1, h2, h3, -List.getD_eq_getElem?_getD]; done)
  refine LM.sp 26 rfl rfl rfl (LM.val (ov_field Tryz.underlying30 rfl Tryz.sizeOf27 rfl (k := 3) rfl rfl) (LM.sp 26 rfl rfl rfl ?_))
  refine LM.rd (om_ld Tryz.isAgg27 rfl rfl) ?_
  refine LM.sp 26 rfl rfl rfl ?_
  refine LM.val (ov_len Tryz.underlying27 rfl) ?_
  refine LM.sp 26 rfl rfl rfl ?_
  refine LM.val (ov_gtr rfl rfl) ?_
  refine LM.val (ov_pickF rfl rfl) ?_
  refine LM.mv rfl ?_
  refine LM.splitD (t := 32) rfl (fun h4 => ?_) (fun h4 => ?_)
  ·
   refine LM.dr 32 rfl rfl rfl (LM.dr 32 rfl rfl rfl (LM.dr 32 rfl rfl rfl (LM.dr 32 rfl rfl rfl (LM.dr 32 rfl rfl rfl ?_))))
   refine LM.val (ov_pickT rfl rfl) ?_
   refine LM.nil (QM.sub (e' := [(1, _), (38, _)]) au9 ?_)
   refine QM.meetK (_) ⟨au2, rfl, trivial⟩ au1 ?_
   · (simp [h1, h2, h3, h4, -List.getD_eq_getElem?_getD]; done)
  refine LM.sp 32 rfl rfl rfl (LM.val (ov_field Tryz.underlying30 rfl Tryz.sizeOf28 rfl (k := 4) rfl rfl) (LM.sp 32 rfl rfl rfl ?_))
  refine LM.rd (om_ld Tryz.isAgg28 rfl rfl) ?_
  refine LM.sp 32 rfl rfl rfl ?_
  refine LM.val (ov_len Tryz.underlying28 rfl) ?_
  refine LM.sp 32 rfl rfl rfl ?_
  refine LM.callE (oc_call (enters_fn Tryz.func59 (by kernel_rfl) rfl) rfl) (fun w hm hc hg => rwithin_spec _ _ w) ?_
  refine LM.sp 32 rfl rfl rfl ?_
  first | refine LM.val (ov_notD rfl) ?_ | refine LM.val (ov_not rfl) ?_
  refine LM.val (ov_pickF rfl rfl) ?_
  refine LM.nil (QM.sub (e' := [(1, _), (38, _)]) au9 ?_)
  refine QM.meetK (_) ⟨au2, rfl, trivial⟩ au1 ?_
  · (simp [h1, h2, h3, h4, -List.getD_eq_getElem?_getD]; done)
 rintro q hq
 change QM _ _ _ _ _ (stB b1 s :: []) _ _ _
 refine QM.then ?_
 first | refine wpM.condD rfl (fun h5 => ?_) (fun h5 => ?_) | refine wpM.condB rfl (fun h5 => ?_) (fun h5 => ?_)
 ·
  refine wpM.seq (wpM.region ?_)
  refine LM.as rfl ?_
  refine LM.nil (QM.sub (e' := [(2, _)]) ⟨rfl, trivial⟩ (QM.then ?_))
  refine wpM.ret ?_
  refine QM.then_ret ?_
  refine QM.leave (.inl rfl) [.tmp 2] Tryz.results19 rfl ?_
  intro w' hm' hc' hg'
  refine ⟨?_, hc'⟩; rw [mayS_head (by rw [head_eq hgn hln hpn, ← hq, h5]; rfl)]; rfl
 have hhd : headB s.C = true := (by rw [head_eq hgn hln hpn, ← hq, h5]; rfl); have hh4 := hhd; unfold headB at hh4; simp only [Bool.and_eq_true, decide_eq_true_eq, winL] at hh4; have hG4 : s.gs.length ≤ 4 := (by have := hh4.2.2.1.2; show s.gs.length ≤ 4; have h9 : (s.C.gs.length : Int) ≤ 4 := this; have h8 : s.C.gs.length = s.gs.length := rfl; omega); have hL8 : s.ls.length ≤ 8 := hh4.2.2.2.1; have hP8 : s.ps.length ≤ 8 := (by have h9 := hh4.2.2.2.2.2; have h8 : s.C.ps.length = s.ps.length := hcl; omega)
 refine wpM.skip ?_
 refine QM.then ?_
 refine wpM.seq ?_
 refine wpM.seq (wpM.region ?_)
 refine LM.as rfl ?_
 refine LM.nil (QM.sub (e' := [(1, _), (3, _)]) au9 (QM.then ?_))
 refine wpM.block ?_
 refine wpM.loopK0 (α := Nat) (fun i => [(3, .int .i64 (i : Nat))]) [(1, _)] (fun i => stB b1 s :: []) (fun i => i ≤ s.gs.length ∧ (s.gs.take i).all (fun n => winB n 16) = true) (fun i => s.gs.length - i) (0) ⟨au2, rfl, trivial⟩ au1 ⟨Nat.zero_le _, rfl⟩ ?_
 rintro i ⟨hi, hag⟩
 change wpM _ _ _ _ _ _ _ (stB b1 s :: []) _ _ _
 refine wpM.seq ?_
 refine wpM.seq (wpM.region ?_)
 refine LM.mv rfl (LM.val (ov_field Tryz.underlying30 rfl Tryz.sizeOf26 rfl (k := 2) rfl rfl) ?_)
 refine LM.rd (om_ld Tryz.isAgg26 rfl rfl) ?_
 refine LM.val (ov_len Tryz.underlying26 rfl) ?_
 refine LM.val (ov_lss rfl rfl) ?_
 refine LM.nil (QM.sub (e' := [(1, _), (3, _), (43, _)]) au9 (QM.then ?_))
 refine wpM.condD rfl (fun h6 => ?_) (fun h6 => ?_)
 ·
  refine wpM.skip ?_
  refine QM.then ?_
  refine wpM.seq ?_
  refine wpM.block ?_
  refine wpM.seq (wpM.region ?_)
  refine LM.val (ov_field Tryz.underlying30 rfl Tryz.sizeOf26 rfl (k := 2) rfl rfl) ?_
  refine LM.rd (om_ld Tryz.isAgg26 rfl rfl) ?_
  refine LM.mv rfl ?_
  refine LM.val (ov_idxSN au6 Tryz.underlying26 Tryz.sizeOf3 rfl rfl (by omega)) ?_
  first | refine LM.rd (om_sl1 (by assumption) (by intro _; rfl) Tryz.isAgg3 rfl rfl (by exact getq 0 au4) (by rfl)) ?_ | refine LM.rdC (om_sr1 (by assumption) Tryz.isAgg3 rfl rfl (by exact getq 0 au4) (by rfl) id) ?_ | refine LM.rd (om_ld Tryz.isAgg3 rfl rfl) ?_
  refine LM.callE (oc_call (enters_fn Tryz.func59 (by kernel_rfl) rfl) rfl) (fun w hm hc hg => rwithin_spec _ _ w) ?_
  first | refine LM.val (ov_notD rfl) ?_ | refine LM.val (ov_not rfl) ?_
  refine LM.nil (QM.sub (e' := [(1, _), (3, _), (52, _)]) au9 (QM.then ?_))
  first | refine wpM.condD rfl (fun h7 => ?_) (fun h7 => ?_) | refine wpM.condB rfl (fun h7 => ?_) (fun h7 => ?_)
  ·
   refine wpM.seq (wpM.region ?_)
   refine LM.as rfl ?_
   refine LM.nil (QM.sub (e' := [(2, _)]) ⟨rfl, trivial⟩ (QM.then ?_))
   refine wpM.ret ?_
   refine QM.block_ret ?_
   refine QM.then_ret ?_
   refine QM.then_ret ?_
   refine QM.block_ret ?_
   refine QM.then_ret ?_
   refine QM.leave (.inl rfl) [.tmp 2] Tryz.results19 rfl ?_
   intro w' hm' hc' hg'
   refine ⟨?_, hc'⟩; rw [mayS_gs (s := s.C) (all_ff (xs := s.gs) (i := i) 0 (by omega) (by simpa using h7))]; rfl
  refine wpM.skip ?_
  refine QM.block_normal ?_
  refine QM.then (wpM.region ?_)
  refine LM.mv rfl ?_
  refine LM.val (ov_add64 rfl rfl (by omega)) ?_
  refine LM.as rfl ?_
  refine LM.nil (QM.sub (e' := [(1, _), (3, _)]) au9 ?_)
  refine QM.againK (i + 1) ⟨au2, rfl, trivial⟩ au1 (fun _ h => h) ?_ ?_
  · exact ⟨by omega, by rw [all_snoc 0 (by omega), hag, Bool.true_and]; simpa using h7⟩
  · omega
 refine wpM.exit ?_
 refine QM.then_exit ?_
 refine QM.then_exit ?_
 refine QM.block_hit ?_
 refine QM.then ?_
 refine wpM.seq ?_
 refine wpM.seq (wpM.region ?_)
 refine LM.as rfl ?_
 refine LM.nil (QM.sub (e' := [(1, _), (4, _)]) au9 (QM.then ?_))
 refine wpM.block ?_
 refine wpM.loopK0 (α := Nat) (fun j => [(4, .int .i64 (j : Nat))]) [(1, _)] (fun j => stB b1 s :: []) (fun j => j ≤ s.ls.length ∧ (s.ls.take j).all lokB = true) (fun j => s.ls.length - j) (0) ⟨au2, rfl, trivial⟩ au1 ⟨Nat.zero_le _, rfl⟩ ?_
 rintro j ⟨hj, hal⟩
 change wpM _ _ _ _ _ _ _ (stB b1 s :: []) _ _ _
 refine wpM.seq ?_
 refine wpM.seq (wpM.region ?_)
 refine LM.mv rfl (LM.val (ov_field Tryz.underlying30 rfl Tryz.sizeOf27 rfl (k := 3) rfl rfl) ?_)
 refine LM.rd (om_ld Tryz.isAgg27 rfl rfl) ?_
 refine LM.val (ov_len Tryz.underlying27 rfl) ?_
 refine LM.val (ov_lss rfl rfl) ?_
 refine LM.nil (QM.sub (e' := [(1, _), (4, _), (57, _)]) au9 (QM.then ?_))
 refine wpM.condD rfl (fun h8 => ?_) (fun h8 => ?_)
 ·
  refine wpM.skip ?_
  refine QM.then ?_
  refine wpM.seq ?_
  refine wpM.block ?_
  refine wpM.seq (wpM.region ?_)
  refine LM.val (ov_field Tryz.underlying30 rfl Tryz.sizeOf27 rfl (k := 3) rfl rfl) ?_
  refine LM.rd (om_ld Tryz.isAgg27 rfl rfl) ?_
  refine LM.mv rfl ?_
  refine LM.val (ov_idxSN au6 Tryz.underlying27 Tryz.sizeOf63 rfl rfl (by omega)) ?_
  first | refine LM.rd (om_slA (by assumption) (by intro _; rfl) Tryz.isAgg63 Tryz.sizeOf63 rfl au3) ?_ | refine LM.rdC (om_srEA (by assumption) (by intro _; rfl) Tryz.isAgg63 Tryz.sizeOf63 rfl au3 id) ?_ | refine LM.rd (om_ldW Tryz.isAgg63 Tryz.sizeOf63 rfl rfl) ?_ | refine LM.rd (om_ldA Tryz.isAgg63 Tryz.sizeOf63 rfl (vs := [_, _, _, _, _]) rfl ⟨rfl, rfl, rfl, rfl, rfl, trivial⟩) ?_
  refine LM.alloc Tryz.zeroValue63 rfl (fun b5 hb5 => ?_)
  refine LM.stW Tryz.sizeOf63 rfl rfl rfl rfl au7 au8 ?_
  refine LM.nil (QM.sub (e' := [(1, _), (4, _), (5, _)]) au9 (QM.then ?_))
  refine wpM.seq ?_
  refine wpM.seq ?_
  refine wpM.joinK (α := Bool) (fun q2 => [(74, .bool q2)]) [(1, _), (4, _), (5, _)] (fun q2 => (b5, .cells (fL (s.ls.getD j default)).toArray 63 (0, 0)) :: stB b1 s :: []) (fun q2 => q2 = (!winB (s.ls.getD j default).sl 16 || !winB (s.ls.getD j default).cr 32)) ⟨rfl, rfl, rfl, trivial⟩ ?_ ?_
  ·
   refine wpM.region ?_
   refine LM.val (ov_field Tryz.underlying63 rfl Tryz.sizeOf3 rfl (k := 1) rfl rfl) ?_
   refine LM.rd (om_ld Tryz.isAgg3 rfl rfl) ?_
   refine LM.callE (oc_call (enters_fn Tryz.func59 (by kernel_rfl) rfl) rfl) (fun w hm hc hg => rwithin_spec _ _ w) ?_
   first | refine LM.val (ov_notD rfl) ?_ | refine LM.val (ov_not rfl) ?_
   refine LM.mv rfl ?_
   first | refine LM.splitD (t := 69) rfl (fun h9 => ?_) (fun h9 => ?_) | refine LM.splitB (t := 69) rfl (fun h9 => ?_) (fun h9 => ?_)
   ·
    refine LM.dr 69 rfl rfl rfl (LM.dr 69 rfl rfl rfl (LM.dr 69 rfl rfl rfl (LM.dr 69 rfl rfl rfl ?_)))
    refine LM.val (ov_pickT rfl rfl) ?_
    refine LM.nil (QM.sub (e' := [(1, _), (4, _), (5, _), (74, _)]) au9 ?_)
    refine QM.meetK (_) ⟨au2, rfl, rfl, rfl, trivial⟩ au1 ?_
    · (simp [h5, h6, h8, h9, -List.getD_eq_getElem?_getD]; done)
   refine LM.sp 69 rfl rfl rfl (LM.val (ov_field Tryz.underlying63 rfl Tryz.sizeOf3 rfl (k := 2) rfl rfl) (LM.sp 69 rfl rfl rfl ?_))
   refine LM.rd (om_ld Tryz.isAgg3 rfl rfl) ?_
   refine LM.sp 69 rfl rfl rfl ?_
   refine LM.callE (oc_call (enters_fn Tryz.func59 (by kernel_rfl) rfl) rfl) (fun w hm hc hg => rwithin_spec _ _ w) ?_
   refine LM.sp 69 rfl rfl rfl ?_
   first | refine LM.val (ov_notD rfl) ?_ | refine LM.val (ov_not rfl) ?_
   refine LM.val (ov_pickF rfl rfl) ?_
   refine LM.nil (QM.sub (e' := [(1, _), (4, _), (5, _), (74, _)]) au9 ?_)
   refine QM.meetK (_) ⟨au2, rfl, rfl, rfl, trivial⟩ au1 ?_
   · (simp [h5, h6, h8, h9, -List.getD_eq_getElem?_getD]; done)
  rintro q2 hq2
  change QM _ _ _ _ _ ((b5, .cells (fL (s.ls.getD j default)).toArray 63 (0, 0)) :: stB b1 s :: []) _ _ _
  refine QM.then ?_
  first | refine wpM.condD rfl (fun h10 => ?_) (fun h10 => ?_) | refine wpM.condB rfl (fun h10 => ?_) (fun h10 => ?_)
  ·
   refine wpM.seq (wpM.region ?_)
   refine LM.as rfl ?_
   refine LM.nil (QM.sub (e' := [(2, _)]) ⟨rfl, trivial⟩ (QM.then ?_))
   refine wpM.ret ?_
   refine QM.then_ret ?_
   refine QM.block_ret ?_
   refine QM.then_ret ?_
   refine QM.then_ret ?_
   refine QM.block_ret ?_
   refine QM.then_ret ?_
   refine QM.leave (.inl rfl) [.tmp 2] Tryz.results19 rfl ?_
   intro w' hm' hc' hg'
   refine ⟨?_, hc'⟩; rw [mayS_ls (s := s.C) (all_ff (xs := s.ls) (i := j) default (by omega) (by rw [lok_eq, ← hq2, h10]; rfl))]; rfl
  refine wpM.skip ?_
  refine QM.then ?_
  refine wpM.seq ?_
  refine wpM.joinK (α := Bool) (fun q3 => [(103, .bool q3)]) [(1, _), (4, _)] (fun q3 => (b5, .cells (fL (s.ls.getD j default)).toArray 63 (0, 0)) :: stB b1 s :: []) (fun q3 => q3 = (((s.ls.getD j default).sh && (!winB (s.ls.getD j default).rd 16 || !winB (s.ls.getD j default).wr 16)) || (!(s.ls.getD j default).sh && (decide ((s.ls.getD j default).rd ≠ 0) || decide ((s.ls.getD j default).wr ≠ 0))))) ⟨rfl, rfl, trivial⟩ ?_ ?_
  ·
   refine wpM.region ?_
   refine LM.val (ov_field Tryz.underlying63 rfl Tryz.sizeOf4 rfl (k := 0) rfl rfl) ?_
   refine LM.rd (om_ld Tryz.isAgg4 rfl rfl) ?_
   refine LM.mv rfl ?_
   first | refine LM.splitD (t := 77) rfl (fun h11 => ?_) (fun h11 => ?_) | refine LM.splitB (t := 77) rfl (fun h11 => ?_) (fun h11 => ?_)
   ·
    refine LM.sp 77 rfl rfl rfl (LM.val (ov_field Tryz.underlying63 rfl Tryz.sizeOf3 rfl (k := 3) rfl rfl) (LM.sp 77 rfl rfl rfl ?_))
    refine LM.rd (om_ld Tryz.isAgg3 rfl rfl) ?_
    refine LM.sp 77 rfl rfl rfl ?_
    refine LM.callE (oc_call (enters_fn Tryz.func59 (by kernel_rfl) rfl) rfl) (fun w hm hc hg => rwithin_spec _ _ w) ?_
    refine LM.sp 77 rfl rfl rfl ?_
    first | refine LM.val (ov_notD rfl) ?_ | refine LM.val (ov_not rfl) ?_
    refine LM.sp 77 rfl rfl rfl (LM.mv rfl ?_)
    first | refine LM.splitD (t := 82) rfl (fun h12 => ?_) (fun h12 => ?_) | refine LM.splitB (t := 82) rfl (fun h12 => ?_) (fun h12 => ?_)
    ·
     refine LM.dr 82 rfl rfl rfl (LM.dr 82 rfl rfl rfl (LM.dr 82 rfl rfl rfl (LM.dr 82 rfl rfl rfl (LM.sp 77 rfl rfl rfl ?_))))
     refine LM.val (ov_pickT rfl rfl) ?_
     refine LM.val (ov_pickT rfl rfl) ?_
     refine LM.mv rfl (LM.dr 89 rfl rfl rfl (LM.dr 89 rfl rfl rfl (LM.dr 89 rfl rfl rfl ?_)))
     refine LM.dropU (t := 89) rfl rfl rfl ?_
     refine LM.dropX (t := 93) rfl rfl ?_
     refine LM.dropX (t := 93) rfl rfl ?_
     refine LM.dropX (t := 93) rfl rfl ?_
     refine LM.dropX (t := 93) rfl rfl ?_
     refine LM.dropX (t := 97) rfl rfl ?_
     refine LM.dropX (t := 97) rfl rfl ?_
     refine LM.dropX (t := 97) rfl rfl ?_
     refine LM.dropX (t := 93) rfl rfl ?_
     refine LM.dr 89 rfl rfl rfl ?_
     refine LM.val (ov_pickT rfl rfl) ?_
     refine LM.nil (QM.sub (e' := [(1, _), (4, _), (103, _)]) au9 ?_)
     refine QM.meetK (_) ⟨au2, rfl, rfl, trivial⟩ au1 ?_
     · (simp [h5, h6, h8, h10, h11, h12, -List.getD_eq_getElem?_getD]; done)
    refine LM.sp 82 rfl rfl rfl (LM.val (ov_field Tryz.underlying63 rfl Tryz.sizeOf3 rfl (k := 4) rfl rfl) (LM.sp 82 rfl rfl rfl ?_))
    refine LM.rd (om_ld Tryz.isAgg3 rfl rfl) ?_
    refine LM.sp 82 rfl rfl rfl ?_
    refine LM.callE (oc_call (enters_fn Tryz.func59 (by kernel_rfl) rfl) rfl) (fun w hm hc hg => rwithin_spec _ _ w) ?_
    refine LM.sp 82 rfl rfl rfl ?_
    first | refine LM.val (ov_notD rfl) ?_ | refine LM.val (ov_not rfl) ?_
    refine LM.sp 77 rfl rfl rfl ?_
    refine LM.val (ov_pickF rfl rfl) ?_
    refine LM.val (ov_pickT rfl rfl) ?_
    refine LM.mv rfl ?_
    first | refine LM.splitD (t := 89) rfl (fun h13 => ?_) (fun h13 => ?_) | refine LM.splitB (t := 89) rfl (fun h13 => ?_) (fun h13 => ?_)
    ·
     refine LM.dr 89 rfl rfl rfl (LM.dr 89 rfl rfl rfl (LM.dr 89 rfl rfl rfl ?_))
     refine LM.dropU (t := 89) rfl rfl rfl ?_
     refine LM.dropX (t := 93) rfl rfl ?_
     refine LM.dropX (t := 93) rfl rfl ?_
     refine LM.dropX (t := 93) rfl rfl ?_
     refine LM.dropX (t := 93) rfl rfl ?_
     refine LM.dropX (t := 97) rfl rfl ?_
     refine LM.dropX (t := 97) rfl rfl ?_
     refine LM.dropX (t := 97) rfl rfl ?_
     refine LM.dropX (t := 93) rfl rfl ?_
     refine LM.dr 89 rfl rfl rfl ?_
     refine LM.val (ov_pickT rfl rfl) ?_
     refine LM.nil (QM.sub (e' := [(1, _), (4, _), (103, _)]) au9 ?_)
     refine QM.meetK (_) ⟨au2, rfl, rfl, trivial⟩ au1 ?_
     · (simp [h5, h6, h8, h10, h11, h12, h13, -List.getD_eq_getElem?_getD]; done)
    refine LM.sp 89 rfl rfl rfl (LM.val (ov_field Tryz.underlying63 rfl Tryz.sizeOf4 rfl (k := 0) rfl rfl) (LM.sp 89 rfl rfl rfl ?_))
    refine LM.rd (om_ld Tryz.isAgg4 rfl rfl) ?_
    refine LM.sp 89 rfl rfl rfl ?_
    first | refine LM.val (ov_notD rfl) ?_ | refine LM.val (ov_not rfl) ?_
    refine LM.sp 89 rfl rfl rfl (LM.mv rfl ?_)
    first | refine LM.splitD (t := 93) rfl (fun h14 => ?_) (fun h14 => ?_) | refine LM.splitB (t := 93) rfl (fun h14 => ?_) (fun h14 => ?_)
    ·
     refine LM.sp 93 rfl rfl rfl (LM.val (ov_field Tryz.underlying63 rfl Tryz.sizeOf3 rfl (k := 3) rfl rfl) (LM.sp 93 rfl rfl rfl ?_))
     refine LM.rd (om_ld Tryz.isAgg3 rfl rfl) ?_
     refine LM.sp 93 rfl rfl rfl ?_
     refine LM.val (ov_neq rfl rfl) ?_
     refine LM.sp 93 rfl rfl rfl (LM.mv rfl ?_)
     refine LM.splitD (t := 97) rfl (fun h15 => ?_) (fun h15 => ?_)
     ·
      refine LM.dr 97 rfl rfl rfl (LM.dr 97 rfl rfl rfl (LM.dr 97 rfl rfl rfl (LM.sp 93 rfl rfl rfl ?_)))
      refine LM.val (ov_pickT rfl rfl) ?_
      refine LM.sp 89 rfl rfl rfl ?_
      refine LM.val (ov_pickT rfl rfl) ?_
      refine LM.val (ov_pickF rfl rfl) ?_
      refine LM.nil (QM.sub (e' := [(1, _), (4, _), (103, _)]) au9 ?_)
      refine QM.meetK (_) ⟨au2, rfl, rfl, trivial⟩ au1 ?_
      · first | (simp [h5, h6, h8, h10, h11, h12, h13, h14, h15, -List.getD_eq_getElem?_getD]; done) | (simp_all [-List.getD_eq_getElem?_getD]; done)
     refine LM.sp 97 rfl rfl rfl (LM.val (ov_field Tryz.underlying63 rfl Tryz.sizeOf3 rfl (k := 4) rfl rfl) (LM.sp 97 rfl rfl rfl ?_))
     refine LM.rd (om_ld Tryz.isAgg3 rfl rfl) ?_
     refine LM.sp 97 rfl rfl rfl ?_
     refine LM.val (ov_neq rfl rfl) ?_
     refine LM.sp 93 rfl rfl rfl ?_
     refine LM.val (ov_pickF rfl rfl) ?_
     refine LM.sp 89 rfl rfl rfl ?_
     refine LM.val (ov_pickT rfl rfl) ?_
     refine LM.val (ov_pickF rfl rfl) ?_
     refine LM.nil (QM.sub (e' := [(1, _), (4, _), (103, _)]) au9 ?_)
     refine QM.meetK (_) ⟨au2, rfl, rfl, trivial⟩ au1 ?_
     · first | (simp [h5, h6, h8, h10, h11, h12, h13, h14, h15, -List.getD_eq_getElem?_getD]; done) | (simp_all [-List.getD_eq_getElem?_getD]; done)
    refine LM.dr 93 rfl rfl rfl (LM.dr 93 rfl rfl rfl (LM.dr 93 rfl rfl rfl ?_))
    refine LM.dropU (t := 93) rfl rfl rfl ?_
    refine LM.dropX (t := 97) rfl rfl ?_
    refine LM.dropX (t := 97) rfl rfl ?_
    refine LM.dropX (t := 97) rfl rfl ?_
    refine LM.dr 93 rfl rfl rfl (LM.sp 89 rfl rfl rfl ?_)
    refine LM.val (ov_pickF rfl rfl) ?_
    refine LM.val (ov_pickF rfl rfl) ?_
    refine LM.nil (QM.sub (e' := [(1, _), (4, _), (103, _)]) au9 ?_)
    refine QM.meetK (_) ⟨au2, rfl, rfl, trivial⟩ au1 ?_
    · (simp [h5, h6, h8, h10, h11, h12, h13, h14, -List.getD_eq_getElem?_getD]; done)
   refine LM.dr 77 rfl rfl rfl (LM.dr 77 rfl rfl rfl (LM.dr 77 rfl rfl rfl (LM.dr 77 rfl rfl rfl ?_)))
   refine LM.dropU (t := 77) rfl rfl rfl ?_
   refine LM.dropX (t := 82) rfl rfl ?_
   refine LM.dropX (t := 82) rfl rfl ?_
   refine LM.dropX (t := 82) rfl rfl ?_
   refine LM.dropX (t := 82) rfl rfl ?_
   refine LM.dr 77 rfl rfl rfl ?_
   refine LM.val (ov_pickF rfl rfl) ?_
   refine LM.mv rfl (LM.sp 89 rfl rfl rfl (LM.val (ov_field Tryz.underlying63 rfl Tryz.sizeOf4 rfl (k := 0) rfl rfl) (LM.sp 89 rfl rfl rfl ?_)))
   refine LM.rd (om_ld Tryz.isAgg4 rfl rfl) ?_
   refine LM.sp 89 rfl rfl rfl ?_
   first | refine LM.val (ov_notD rfl) ?_ | refine LM.val (ov_not rfl) ?_
   refine LM.sp 89 rfl rfl rfl (LM.mv rfl ?_)
   first | refine LM.splitD (t := 93) rfl (fun h16 => ?_) (fun h16 => ?_) | refine LM.splitB (t := 93) rfl (fun h16 => ?_) (fun h16 => ?_)
   ·
    refine LM.sp 93 rfl rfl rfl (LM.val (ov_field Tryz.underlying63 rfl Tryz.sizeOf3 rfl (k := 3) rfl rfl) (LM.sp 93 rfl rfl rfl ?_))
    refine LM.rd (om_ld Tryz.isAgg3 rfl rfl) ?_
    refine LM.sp 93 rfl rfl rfl ?_
    refine LM.val (ov_neq rfl rfl) ?_
    refine LM.sp 93 rfl rfl rfl (LM.mv rfl ?_)
    refine LM.splitD (t := 97) rfl (fun h17 => ?_) (fun h17 => ?_)
    ·
     refine LM.dr 97 rfl rfl rfl (LM.dr 97 rfl rfl rfl (LM.dr 97 rfl rfl rfl (LM.sp 93 rfl rfl rfl ?_)))
     refine LM.val (ov_pickT rfl rfl) ?_
     refine LM.sp 89 rfl rfl rfl ?_
     refine LM.val (ov_pickT rfl rfl) ?_
     refine LM.val (ov_pickF rfl rfl) ?_
     refine LM.nil (QM.sub (e' := [(1, _), (4, _), (103, _)]) au9 ?_)
     refine QM.meetK (_) ⟨au2, rfl, rfl, trivial⟩ au1 ?_
     · (simp [h5, h6, h8, h10, h11, h16, h17, -List.getD_eq_getElem?_getD]; done)
    refine LM.sp 97 rfl rfl rfl (LM.val (ov_field Tryz.underlying63 rfl Tryz.sizeOf3 rfl (k := 4) rfl rfl) (LM.sp 97 rfl rfl rfl ?_))
    refine LM.rd (om_ld Tryz.isAgg3 rfl rfl) ?_
    refine LM.sp 97 rfl rfl rfl ?_
    refine LM.val (ov_neq rfl rfl) ?_
    refine LM.sp 93 rfl rfl rfl ?_
    refine LM.val (ov_pickF rfl rfl) ?_
    refine LM.sp 89 rfl rfl rfl ?_
    refine LM.val (ov_pickT rfl rfl) ?_
    refine LM.val (ov_pickF rfl rfl) ?_
    refine LM.nil (QM.sub (e' := [(1, _), (4, _), (103, _)]) au9 ?_)
    refine QM.meetK (_) ⟨au2, rfl, rfl, trivial⟩ au1 ?_
    · (simp [h5, h6, h8, h10, h11, h16, h17, -List.getD_eq_getElem?_getD]; done)
   refine LM.dr 93 rfl rfl rfl (LM.dr 93 rfl rfl rfl (LM.dr 93 rfl rfl rfl ?_))
   refine LM.dropU (t := 93) rfl rfl rfl ?_
   refine LM.dropX (t := 97) rfl rfl ?_
   refine LM.dropX (t := 97) rfl rfl ?_
   refine LM.dropX (t := 97) rfl rfl ?_
   refine LM.dr 93 rfl rfl rfl (LM.sp 89 rfl rfl rfl ?_)
   refine LM.val (ov_pickF rfl rfl) ?_
   refine LM.val (ov_pickF rfl rfl) ?_
   refine LM.nil (QM.sub (e' := [(1, _), (4, _), (103, _)]) au9 ?_)
   refine QM.meetK (_) ⟨au2, rfl, rfl, trivial⟩ au1 ?_
   · first | (simp [h5, h6, h8, h10, h11, h16, -List.getD_eq_getElem?_getD]; done) | (simp_all [-List.getD_eq_getElem?_getD]; done)
  rintro q3 hq3
  change QM _ _ _ _ _ ((b5, .cells (fL (s.ls.getD j default)).toArray 63 (0, 0)) :: stB b1 s :: []) _ _ _
  refine QM.then ?_
  first | refine wpM.condD rfl (fun h18 => ?_) (fun h18 => ?_) | refine wpM.condB rfl (fun h18 => ?_) (fun h18 => ?_)
  ·
   refine wpM.seq (wpM.region ?_)
   refine LM.as rfl ?_
   refine LM.nil (QM.sub (e' := [(2, _)]) ⟨rfl, trivial⟩ (QM.then ?_))
   refine wpM.ret ?_
   refine QM.block_ret ?_
   refine QM.then_ret ?_
   refine QM.then_ret ?_
   refine QM.block_ret ?_
   refine QM.then_ret ?_
   refine QM.leave (.inl rfl) [.tmp 2] Tryz.results19 rfl ?_
   intro w' hm' hc' hg'
   refine ⟨?_, hc'⟩; rw [mayS_ls (s := s.C) (all_ff (xs := s.ls) (i := j) default (by omega) (by rw [lok_eq, ← hq3, h18]; simp))]; rfl
  refine wpM.skip ?_
  refine QM.block_normal ?_
  refine QM.then (wpM.region ?_)
  refine LM.mv rfl ?_
  refine LM.val (ov_add64 rfl rfl (by omega)) ?_
  refine LM.as rfl ?_
  refine LM.nil (QM.sub (e' := [(1, _), (4, _)]) au9 ?_)
  refine QM.againK (j + 1) ⟨au2, rfl, trivial⟩ au1 (fun _ h => h) ?_ ?_
  · exact ⟨by omega, by rw [all_snoc default (by omega), hal, Bool.true_and, lok_eq, ← hq2, ← hq3, h10, h18]; rfl⟩
  · omega
 refine wpM.exit ?_
 refine QM.then_exit ?_
 refine QM.then_exit ?_
 refine QM.block_hit ?_
 refine QM.then ?_
 refine wpM.seq ?_
 refine wpM.seq (wpM.region ?_)
 refine LM.as rfl ?_
 refine LM.nil (QM.sub (e' := [(1, _), (6, _)]) au9 (QM.then ?_))
 refine wpM.block ?_
 refine wpM.loopK0 (α := Nat) (fun k => [(6, .int .i64 (k : Nat))]) [(1, _)] (fun k => stB b1 s :: []) (fun k => k ≤ s.ps.length ∧ ((s.ps.map PgV.c).take k).any (misB s.ls (s.pn : Nat)) = false) (fun k => s.ps.length - k) (0) ⟨au2, rfl, trivial⟩ au1 ⟨Nat.zero_le _, rfl⟩ ?_
 rintro k ⟨hk, hap⟩
 change wpM _ _ _ _ _ _ _ (stB b1 s :: []) _ _ _
 refine wpM.seq ?_
 refine wpM.seq (wpM.region ?_)
 refine LM.mv rfl (LM.val (ov_field Tryz.underlying30 rfl Tryz.sizeOf28 rfl (k := 4) rfl rfl) ?_)
 refine LM.rd (om_ld Tryz.isAgg28 rfl rfl) ?_
 refine LM.val (ov_len Tryz.underlying28 rfl) ?_
 refine LM.val (ov_lss rfl rfl) ?_
 refine LM.nil (QM.sub (e' := [(1, _), (6, _), (108, _)]) au9 (QM.then ?_))
 refine wpM.condD rfl (fun h19 => ?_) (fun h19 => ?_)
 ·
  have hpm : s.ps.getD k default ∈ s.ps := List.mem_of_getElem? (getq default (by omega))
  refine wpM.skip ?_
  refine QM.then ?_
  refine wpM.seq ?_
  refine wpM.block ?_
  refine wpM.seq ?_
  refine wpM.draw [(0, 0), (1, 1), (2, 0), (3, 0), (4, 1), (5, 0), (6, 1), (7, 0), (8, 1), (9, 0), (10, 2), (11, 0), (12, 0), (13, 0), (14, 0), (15, 0)] (by kernel_rfl) (by kernel_rfl) ?_
  refine LD.val rfl rfl (ov_field Tryz.underlying30 rfl Tryz.sizeOf28 rfl (k := 4) rfl rfl) ?_
  refine LD.rd rfl rfl (om_ld Tryz.isAgg28 rfl rfl) ?_
  refine LD.val rfl rfl (ov_move rfl) ?_
  refine LD.val rfl rfl (ov_idxSN au6 Tryz.underlying28 Tryz.sizeOf87 rfl rfl (by omega)) ?_
  first | refine LD.rd rfl rfl (om_slA (by assumption) (by intro _; rfl) Tryz.isAgg87 Tryz.sizeOf87 rfl au3) ?_ | refine LD.rdC rfl rfl (om_srEA (by assumption) (by intro _; rfl) Tryz.isAgg87 Tryz.sizeOf87 rfl au3 id) ?_ | refine LD.rd rfl rfl (om_ldW Tryz.isAgg87 Tryz.sizeOf87 rfl rfl) ?_ | refine LD.rd rfl rfl (om_ldA Tryz.isAgg87 Tryz.sizeOf87 rfl (vs := [_, _]) rfl ⟨rfl, rfl, trivial⟩) ?_
  refine LD.val rfl rfl (ov_field Tryz.underlying30 rfl Tryz.sizeOf27 rfl (k := 3) rfl rfl) ?_
  refine LD.rd rfl rfl (om_ld Tryz.isAgg27 rfl rfl) ?_
  refine LD.val rfl rfl (ov_field Tryz.underlying30 rfl Tryz.sizeOf28 rfl (k := 4) rfl rfl) ?_
  refine LD.rd rfl rfl (om_ld Tryz.isAgg28 rfl rfl) ?_
  refine LD.val rfl rfl (ov_len Tryz.underlying28 rfl) ?_
  refine LD.callE rfl rfl (oc_call (enters_fn Tryz.func46 (by kernel_rfl) rfl) rfl) (fun w hm hc hg => rcheck_spec (s.pn : Nat) w (hI.ops _ hpm).1 ((hI.ops _ hpm).2.ext hc) hln (hl.ext hc)) ?_
  refine LD.val rfl rfl (ov_move rfl) ?_
  refine LD.val rfl rfl (ov_extract rfl rfl) ?_
  refine LD.val rfl rfl (ov_extract rfl rfl) ?_
  refine LD.val rfl rfl (ov_assign rfl) ?_
  refine LD.val rfl rfl (ov_assign rfl) ?_
  refine LD.nil ?_
  refine QM.sub (e' := [(1, _), (6, _), (8, _)]) au9 (QM.then (wpM.seq (wpM.region ?_)))
  refine LM.mv rfl ?_
  refine LM.val (ov_neq rfl rfl) ?_
  refine LM.nil (QM.sub (e' := [(1, _), (6, _), (126, _)]) au9 (QM.then ?_))
  refine wpM.condD rfl (fun h20 => ?_) (fun h20 => ?_)
  ·
   refine wpM.seq (wpM.region ?_)
   refine LM.as rfl ?_
   refine LM.nil (QM.sub (e' := [(2, _)]) ⟨rfl, trivial⟩ (QM.then ?_))
   refine wpM.ret ?_
   refine QM.block_ret ?_
   refine QM.then_ret ?_
   refine QM.then_ret ?_
   refine QM.block_ret ?_
   refine QM.then_ret ?_
   refine QM.leave (.inl rfl) [.tmp 2] Tryz.results19 rfl ?_
   intro w' hm' hc' hg'
   refine ⟨?_, hc'⟩; rw [mayS_ps (s := s.C) (any_tt (xs := s.C.ps) (i := k) default (by show k < (s.ps.map PgV.c).length; omega) (by show misB s.ls (s.ps.map PgV.c).length ((s.ps.map PgV.c).getD k default) = true; rw [map_getD, hcl]; unfold misB; rw [← hpn]; exact decide_eq_true h20))]; rfl
  refine wpM.skip ?_
  refine QM.block_normal ?_
  refine QM.then (wpM.region ?_)
  refine LM.mv rfl ?_
  refine LM.val (ov_add64 rfl rfl (by omega)) ?_
  refine LM.as rfl ?_
  refine LM.nil (QM.sub (e' := [(1, _), (6, _)]) au9 ?_)
  refine QM.againK (k + 1) ⟨au2, rfl, trivial⟩ au1 (fun _ h => h) ?_ ?_
  · exact ⟨by omega, by rw [any_snoc default (by rw [hcl]; omega), hap, Bool.false_or, map_getD]; unfold misB; simpa using h20⟩
  · omega
 refine wpM.exit ?_
 refine QM.then_exit ?_
 refine QM.then_exit ?_
 refine QM.block_hit ?_
 refine QM.then (wpM.seq (wpM.region ?_))
 refine LM.as rfl ?_
 refine LM.nil (QM.sub (e' := [(2, _)]) ⟨rfl, trivial⟩ (QM.then ?_))
 refine wpM.ret ?_
 refine QM.leave (.inl rfl) [.tmp 2] Tryz.results19 rfl ?_
 intro w' hm' hc' hg'
 refine ⟨?_, hc'⟩; have hig : i = s.gs.length := (by omega); have hjl : j = s.ls.length := (by omega); have hkp : k = s.ps.length := (by omega); rw [hig, List.take_length] at hag; rw [hjl, List.take_length] at hal; rw [hkp, List.take_of_length_le (by omega)] at hap; rw [mayS_split, hhd]; show Value.bool true = Value.bool (true && (s.gs.all (fun n => winB n 16) && (s.ls.all lokB && !(s.ps.map PgV.c).any (misB s.ls (s.ps.map PgV.c).length)))); rw [hag, hal, hcl, ← hpn, hap]; rfl
set_option maxRecDepth 100000 in
theorem smay1_spec (n : Int) (w : World) : Ret Tryz.prog 50 #[.int .i64 n] w (fun v w' => v = .bool (!winB n 16) ∧ Ext w w') := by
 refine Ret.enterM (l := [.int .i64 n]) Tryz.func50 rfl Tryz.ntmps50 rfl ([]) (no) (Mem.nil w) ?_
 refine wpM.seq (wpM.region ?_)
 refine LM.as rfl ?_
 refine LM.nil (QM.sub (e' := [(0, _)]) ⟨rfl, trivial⟩ (QM.then (wpM.seq (wpM.region ?_))))
 refine LM.mv rfl ?_
 refine LM.callE (oc_call (enters_fn Tryz.func48 (by kernel_rfl) rfl) rfl) (fun w hm hc hg => swithin_spec n 16 w) ?_
 first | refine LM.val (ov_notD rfl) ?_ | refine LM.val (ov_not rfl) ?_
 refine LM.as rfl ?_
 refine LM.nil (QM.sub (e' := [(2, _)]) ⟨rfl, trivial⟩ (QM.then ?_))
 refine wpM.ret ?_
 refine QM.leave (.inl rfl) [.tmp 2] Tryz.results50 rfl ?_
 intro w' hm' hc' hg'
 exact ⟨rfl, hc'⟩
set_option maxRecDepth 100000 in
theorem lockMay_spec (x : CLk) (w : World) : Ret Tryz.prog 53 #[.agg (fL x).toArray] w (fun v w' => v = .bool (lokB x) ∧ Ext w w') := by
 refine Ret.enterM (l := [.agg (fL x).toArray]) Tryz.func53 rfl Tryz.ntmps53 rfl ([]) (no) (Mem.nil w) ?_
 refine wpM.seq (wpM.region ?_)
 refine LM.box rfl rfl (fun b1 hb1 => ?_)
 refine LM.as rfl ?_
 refine LM.nil (QM.sub (e' := [(1, _)]) ⟨rfl, trivial⟩ (QM.then ?_))
 refine wpM.seq ?_
 refine wpM.joinK (α := Bool) (fun q => [(3, .bool q)]) [(1, _)] (fun q => (b1, .cells (fL x).toArray 63 (0, 0)) :: []) (fun q => q = (decide (x.rd = 0) && decide (x.wr = 0))) ⟨rfl, trivial⟩ ?_ ?_
 ·
  refine wpM.region ?_
  refine LM.val (ov_field Tryz.underlying63 rfl Tryz.sizeOf3 rfl (k := 3) rfl rfl) ?_
  refine LM.rd (om_ld Tryz.isAgg3 rfl rfl) ?_
  refine LM.val (ov_eql rfl rfl) ?_
  refine LM.mv rfl ?_
  refine LM.splitD (t := 7) rfl (fun h1 => ?_) (fun h1 => ?_)
  ·
   refine LM.sp 7 rfl rfl rfl (LM.val (ov_field Tryz.underlying63 rfl Tryz.sizeOf3 rfl (k := 4) rfl rfl) (LM.sp 7 rfl rfl rfl ?_))
   refine LM.rd (om_ld Tryz.isAgg3 rfl rfl) ?_
   refine LM.sp 7 rfl rfl rfl ?_
   refine LM.val (ov_eql rfl rfl) ?_
   refine LM.val (ov_pickT rfl rfl) ?_
   refine LM.as rfl ?_
   refine LM.nil (QM.sub (e' := [(1, _), (3, _)]) au9 ?_)
   refine QM.meetK (_) ⟨au2, rfl, trivial⟩ au1 ?_
   · (simp [h1, -List.getD_eq_getElem?_getD]; done)
  refine LM.dr 7 rfl rfl rfl (LM.dr 7 rfl rfl rfl (LM.dr 7 rfl rfl rfl ?_))
  refine LM.val (ov_pickF rfl rfl) ?_
  refine LM.as rfl ?_
  refine LM.nil (QM.sub (e' := [(1, _), (3, _)]) au9 ?_)
  refine QM.meetK (_) ⟨au2, rfl, trivial⟩ au1 ?_
  · (simp [h1, -List.getD_eq_getElem?_getD]; done)
 rintro q hq
 change QM _ _ _ _ _ ((b1, .cells (fL x).toArray 63 (0, 0)) :: []) _ _ _
 refine QM.then ?_
 refine wpM.seq ?_
 refine wpM.seq (wpM.region ?_)
 refine LM.val (ov_field Tryz.underlying63 rfl Tryz.sizeOf4 rfl (k := 0) rfl rfl) ?_
 refine LM.rd (om_ld Tryz.isAgg4 rfl rfl) ?_
 refine LM.nil (QM.sub (e' := [(1, _), (3, _), (13, _)]) au9 (QM.then ?_))
 refine wpM.joinK (α := Bool) (fun q2 => [(3, .bool q2)]) [(1, _)] (fun q2 => (b1, .cells (fL x).toArray 63 (0, 0)) :: []) (fun q2 => q2 = (if x.sh then winB x.rd 16 && winB x.wr 16 else decide (x.rd = 0) && decide (x.wr = 0))) ⟨rfl, trivial⟩ ?_ ?_
 ·
  first | refine wpM.condD rfl (fun h2 => ?_) (fun h2 => ?_) | refine wpM.condB rfl (fun h2 => ?_) (fun h2 => ?_)
  ·
   refine wpM.region ?_
   refine LM.val (ov_field Tryz.underlying63 rfl Tryz.sizeOf3 rfl (k := 3) rfl rfl) ?_
   refine LM.rd (om_ld Tryz.isAgg3 rfl rfl) ?_
   refine LM.callE (oc_call (enters_fn Tryz.func48 (by kernel_rfl) rfl) rfl) (fun w hm hc hg => swithin_spec _ _ w) ?_
   refine LM.mv rfl ?_
   first | refine LM.splitD (t := 17) rfl (fun h3 => ?_) (fun h3 => ?_) | refine LM.splitB (t := 17) rfl (fun h3 => ?_) (fun h3 => ?_)
   ·
    refine LM.sp 17 rfl rfl rfl (LM.val (ov_field Tryz.underlying63 rfl Tryz.sizeOf3 rfl (k := 4) rfl rfl) (LM.sp 17 rfl rfl rfl ?_))
    refine LM.rd (om_ld Tryz.isAgg3 rfl rfl) ?_
    refine LM.sp 17 rfl rfl rfl ?_
    refine LM.callE (oc_call (enters_fn Tryz.func48 (by kernel_rfl) rfl) rfl) (fun w hm hc hg => swithin_spec _ _ w) ?_
    refine LM.val (ov_pickT rfl rfl) ?_
    refine LM.as rfl ?_
    refine LM.nil (QM.sub (e' := [(1, _), (3, _)]) au9 ?_)
    refine QM.meetK (_) ⟨au2, rfl, trivial⟩ au1 ?_
    · (simp [h2, h3, -List.getD_eq_getElem?_getD]; done)
   refine LM.dr 17 rfl rfl rfl (LM.dr 17 rfl rfl rfl (LM.dr 17 rfl rfl rfl ?_))
   refine LM.val (ov_pickF rfl rfl) ?_
   refine LM.as rfl ?_
   refine LM.nil (QM.sub (e' := [(1, _), (3, _)]) au9 ?_)
   refine QM.meetK (_) ⟨au2, rfl, trivial⟩ au1 ?_
   · (simp [h2, h3, -List.getD_eq_getElem?_getD]; done)
  refine wpM.skip ?_
  refine QM.meetK (_) ⟨au2, rfl, trivial⟩ au1 ?_
  · first | (simp [h2, -List.getD_eq_getElem?_getD]; done) | (simp_all [-List.getD_eq_getElem?_getD]; done)
 rintro q2 hq2
 change QM _ _ _ _ _ ((b1, .cells (fL x).toArray 63 (0, 0)) :: []) _ _ _
 refine QM.then (wpM.seq (wpM.region ?_))
 refine LM.mv rfl (LM.mv rfl ?_)
 first | refine LM.splitD (t := 23) rfl (fun h4 => ?_) (fun h4 => ?_) | refine LM.splitB (t := 23) rfl (fun h4 => ?_) (fun h4 => ?_)
 ·
  refine LM.sp 23 rfl rfl rfl (LM.val (ov_field Tryz.underlying63 rfl Tryz.sizeOf3 rfl (k := 1) rfl rfl) (LM.sp 23 rfl rfl rfl ?_))
  refine LM.rd (om_ld Tryz.isAgg3 rfl rfl) ?_
  refine LM.sp 23 rfl rfl rfl ?_
  refine LM.callE (oc_call (enters_fn Tryz.func48 (by kernel_rfl) rfl) rfl) (fun w hm hc hg => swithin_spec _ _ w) ?_
  refine LM.val (ov_pickT rfl rfl) ?_
  refine LM.mv rfl ?_
  first | refine LM.splitD (t := 28) rfl (fun h5 => ?_) (fun h5 => ?_) | refine LM.splitB (t := 28) rfl (fun h5 => ?_) (fun h5 => ?_)
  ·
   refine LM.sp 28 rfl rfl rfl (LM.val (ov_field Tryz.underlying63 rfl Tryz.sizeOf3 rfl (k := 2) rfl rfl) (LM.sp 28 rfl rfl rfl ?_))
   refine LM.rd (om_ld Tryz.isAgg3 rfl rfl) ?_
   refine LM.sp 28 rfl rfl rfl ?_
   refine LM.callE (oc_call (enters_fn Tryz.func48 (by kernel_rfl) rfl) rfl) (fun w hm hc hg => swithin_spec _ _ w) ?_
   refine LM.val (ov_pickT rfl rfl) ?_
   refine LM.as rfl ?_
   refine LM.nil (QM.sub (e' := [(2, _)]) ⟨rfl, trivial⟩ (QM.then ?_))
   refine wpM.ret ?_
   refine QM.leave (.inl rfl) [.tmp 2] Tryz.results53 rfl ?_
   intro w' hm' hc' hg'
   refine ⟨?_, hc'⟩; simp only [resV, lokB, ← hq2]; simp [h4, h5]
  refine LM.dr 28 rfl rfl rfl (LM.dr 28 rfl rfl rfl (LM.dr 28 rfl rfl rfl ?_))
  refine LM.val (ov_pickF rfl rfl) ?_
  refine LM.as rfl ?_
  refine LM.nil (QM.sub (e' := [(2, _)]) ⟨rfl, trivial⟩ (QM.then ?_))
  refine wpM.ret ?_
  refine QM.leave (.inl rfl) [.tmp 2] Tryz.results53 rfl ?_
  intro w' hm' hc' hg'
  refine ⟨?_, hc'⟩; simp only [resV, lokB, ← hq2]; simp [h4, h5]
 refine LM.dr 23 rfl rfl rfl (LM.dr 23 rfl rfl rfl (LM.dr 23 rfl rfl rfl ?_))
 refine LM.val (ov_pickF rfl rfl) ?_
 refine LM.mv rfl (LM.dr 28 rfl rfl rfl (LM.dr 28 rfl rfl rfl (LM.dr 28 rfl rfl rfl ?_)))
 refine LM.val (ov_pickF rfl rfl) ?_
 refine LM.as rfl ?_
 refine LM.nil (QM.sub (e' := [(2, _)]) ⟨rfl, trivial⟩ (QM.then ?_))
 refine wpM.ret ?_
 refine QM.leave (.inl rfl) [.tmp 2] Tryz.results53 rfl ?_
 intro w' hm' hc' hg'
 refine ⟨?_, hc'⟩; simp only [resV, lokB, ← hq2]; simp [h4]
set_option maxRecDepth 100000 in
theorem smay2_spec (x : CLk) (w : World) : Ret Tryz.prog 52 #[.agg (fL x).toArray] w (fun v w' => v = .bool (!lokB x) ∧ Ext w w') := by
 refine Ret.enterM (l := [.agg (fL x).toArray]) Tryz.func52 rfl Tryz.ntmps52 rfl ([]) (no) (Mem.nil w) ?_
 refine wpM.seq (wpM.region ?_)
 refine LM.box rfl rfl (fun b1 hb1 => ?_)
 refine LM.as rfl ?_
 refine LM.nil (QM.sub (e' := [(1, _)]) ⟨rfl, trivial⟩ (QM.then (wpM.seq (wpM.region ?_))))
 refine LM.rd (om_ldW Tryz.isAgg63 Tryz.sizeOf63 rfl rfl) ?_
 refine LM.callE (oc_call (enters_fn Tryz.func53 (by kernel_rfl) rfl) rfl) (fun w hm hc hg => lockMay_spec x w) ?_
 first | refine LM.val (ov_notD rfl) ?_ | refine LM.val (ov_not rfl) ?_
 refine LM.as rfl ?_
 refine LM.nil (QM.sub (e' := [(2, _)]) ⟨rfl, trivial⟩ (QM.then ?_))
 refine wpM.ret ?_
 refine QM.leave (.inl rfl) [.tmp 2] Tryz.results52 rfl ?_
 intro w' hm' hc' hg'
 exact ⟨rfl, hc'⟩
set_option maxRecDepth 100000 in
theorem ixf_g {xs : List Int} {ad : Option Addr} {n cap : Nat} (w : World) (hn : n = xs.length) (hl : Sr fI 1 xs (.slice ad n cap) w) (hx : xs.length ≤ 1000000) : Ret Tryz.prog 93 #[.slice ad n cap, .func (.func 50) #[] #[]] w (fun v w' => v = .int .i64 (fixI (fun o => (!winB o 16)) xs) ∧ Ext w w') := by
 refine Ret.enterM (l := [.slice ad n cap, .func (.func 50) #[] #[]]) Tryz.func93 rfl Tryz.ntmps93 rfl ([]) (no) (Mem.nil w) ?_
 refine wpM.seq (wpM.region ?_)
 refine LM.as rfl ?_
 refine LM.nil (QM.sub (e' := [(0, _), (1, _)]) au9 (QM.then ?_))
 refine wpM.seq ?_
 refine wpM.seq (wpM.region ?_)
 refine LM.mv rfl ?_
 refine LM.val (ov_len Tryz.underlying26 rfl) ?_
 refine LM.mv rfl ?_
 refine LM.nil (QM.sub (e' := [(0, _), (1, _), (7, _), (8, _)]) au9 (QM.then ?_))
 refine wpM.block ?_
 refine wpM.loopK0 (α := Nat) (fun i => [(8, .int .i64 (i : Nat))]) [(0, _), (1, _), (7, _)] (fun i => []) (fun i => i ≤ xs.length ∧ (xs.take i).any (fun o => (!winB o 16)) = false) (fun i => xs.length - i) (0) ⟨au2, rfl, rfl, rfl, trivial⟩ au1 ⟨Nat.zero_le _, rfl⟩ ?_
 rintro i ⟨hi, ha⟩
 change wpM _ _ _ _ _ _ _ ([]) _ _ _
 refine wpM.seq (wpM.region ?_)
 refine LM.val (ov_lss rfl rfl) ?_
 refine LM.nil (QM.sub (e' := [(0, _), (1, _), (7, _), (8, _), (9, _)]) au9 (QM.then ?_))
 refine wpM.seq ?_
 refine wpM.condD rfl (fun h1 => ?_) (fun h1 => ?_)
 ·
  refine wpM.skip ?_
  refine QM.then ?_
  refine wpM.seq ?_
  refine wpM.block ?_
  refine wpM.seq (wpM.region ?_)
  refine LM.mv rfl (LM.as rfl ?_)
  refine LM.nil (QM.sub (e' := [(0, _), (1, _), (5, _), (7, _), (8, _)]) au9 (QM.then (wpM.seq (wpM.region ?_))))
  refine LM.mv rfl (LM.mv rfl (LM.mv rfl ?_))
  refine LM.val (ov_idxSN au6 Tryz.underlying26 Tryz.sizeOf3 rfl rfl (by omega)) ?_
  first | refine LM.rd (om_sl1 (by assumption) (by intro _; rfl) Tryz.isAgg3 rfl rfl (by exact getq 0 au4) (by rfl)) ?_ | refine LM.rdC (om_sr1 (by assumption) Tryz.isAgg3 rfl rfl (by exact getq 0 au4) (by rfl) id) ?_ | refine LM.rd (om_ld Tryz.isAgg3 rfl rfl) ?_
  refine LM.callE (oc_callV rfl (enters_fn Tryz.func50 (by kernel_rfl) rfl) rfl) (fun w hm hc hg => smay1_spec _ w) ?_
  refine LM.nil (QM.sub (e' := [(0, _), (1, _), (5, _), (7, _), (8, _), (16, _)]) au9 (QM.then ?_))
  first | refine wpM.condD rfl (fun h2 => ?_) (fun h2 => ?_) | refine wpM.condB rfl (fun h2 => ?_) (fun h2 => ?_)
  ·
   refine wpM.seq (wpM.region ?_)
   refine LM.mv rfl (LM.as rfl ?_)
   refine LM.nil (QM.sub (e' := [(4, _)]) ⟨rfl, trivial⟩ (QM.then ?_))
   refine wpM.ret ?_
   refine QM.block_ret ?_
   refine QM.then_ret ?_
   refine QM.then_ret ?_
   refine QM.block_ret ?_
   refine QM.then_ret ?_
   refine QM.leave (.inl rfl) [.tmp 4] Tryz.results93 rfl ?_
   intro w' hm' hc' hg'
   exact ⟨by show Value.int .i64 _ = _; rw [fix_hit 0 ha (by omega) (by simpa using h2)], hc'⟩
  refine wpM.skip ?_
  refine QM.block_normal ?_
  refine QM.then (wpM.region ?_)
  refine LM.val (ov_add64 rfl rfl (by omega)) ?_
  refine LM.mv rfl ?_
  refine LM.nil (QM.sub (e' := [(0, _), (1, _), (7, _), (8, _)]) au9 ?_)
  refine QM.againK (i + 1) ⟨au2, rfl, rfl, rfl, trivial⟩ au1 (fun _ h => h) ?_ ?_
  · exact ⟨by omega, by rw [any_snoc 0 (by omega), ha, Bool.false_or]; simpa using h2⟩
  · omega
 refine wpM.exit ?_
 refine QM.then_exit ?_
 refine QM.then_exit ?_
 refine QM.block_hit ?_
 refine QM.then (wpM.seq (wpM.region ?_))
 refine LM.as rfl ?_
 refine LM.nil (QM.sub (e' := [(4, _)]) ⟨rfl, trivial⟩ (QM.then ?_))
 refine wpM.ret ?_
 refine QM.leave (.inl rfl) [.tmp 4] Tryz.results93 rfl ?_
 intro w' hm' hc' hg'
 have hil : i = xs.length := (by omega); subst hil; rw [List.take_length] at ha; exact ⟨by show Value.int .i64 _ = _; rw [fix_miss ha], hc'⟩
set_option maxRecDepth 100000 in
theorem cof_g {xs : List Int} {ad : Option Addr} {n cap : Nat} (w : World) (hn : n = xs.length) (hl : Sr fI 1 xs (.slice ad n cap) w) (hx : xs.length ≤ 1000000) : Ret Tryz.prog 49 #[.slice ad n cap, .func (.func 50) #[] #[]] w (fun v w' => v = .bool (xs.any (fun o => (!winB o 16))) ∧ Ext w w') := by
 refine Ret.enterM (l := [.slice ad n cap, .func (.func 50) #[] #[]]) Tryz.func49 rfl Tryz.ntmps49 rfl ([]) (no) (Mem.nil w) ?_
 refine wpM.seq (wpM.region ?_)
 refine LM.as rfl ?_
 refine LM.nil (QM.sub (e' := [(0, _), (1, _)]) au9 (QM.then (wpM.seq (wpM.region ?_))))
 refine LM.mv rfl (LM.mv rfl ?_)
 refine LM.callE (oc_call (enters_fn Tryz.func93 (by kernel_rfl) rfl) rfl) (fun w hm hc hg => ixf_g w hn (hl.ext hc) hx) ?_
 refine LM.val (ov_geq rfl rfl) ?_
 refine LM.as rfl ?_
 refine LM.nil (QM.sub (e' := [(4, _)]) ⟨rfl, trivial⟩ (QM.then ?_))
 refine wpM.ret ?_
 refine QM.leave (.inl rfl) [.tmp 4] Tryz.results49 rfl ?_
 intro w' hm' hc' hg'
 exact ⟨by show Value.bool _ = _; rw [← fix_pos], hc'⟩
set_option maxRecDepth 100000 in
theorem ixf_l {xs : List CLk} {ad : Option Addr} {n cap : Nat} (w : World) (hn : n = xs.length) (hl : Sr fL 5 xs (.slice ad n cap) w) (hx : xs.length ≤ 1000000) : Ret Tryz.prog 94 #[.slice ad n cap, .func (.func 52) #[] #[]] w (fun v w' => v = .int .i64 (fixI (fun o => (!lokB o)) xs) ∧ Ext w w') := by
 refine Ret.enterM (l := [.slice ad n cap, .func (.func 52) #[] #[]]) Tryz.func94 rfl Tryz.ntmps94 rfl ([]) (no) (Mem.nil w) ?_
 refine wpM.seq (wpM.region ?_)
 refine LM.as rfl ?_
 refine LM.nil (QM.sub (e' := [(0, _), (1, _)]) au9 (QM.then ?_))
 refine wpM.seq ?_
 refine wpM.seq (wpM.region ?_)
 refine LM.mv rfl ?_
 refine LM.val (ov_len Tryz.underlying27 rfl) ?_
 refine LM.mv rfl ?_
 refine LM.nil (QM.sub (e' := [(0, _), (1, _), (7, _), (8, _)]) au9 (QM.then ?_))
 refine wpM.block ?_
 refine wpM.loopK0 (α := Nat) (fun i => [(8, .int .i64 (i : Nat))]) [(0, _), (1, _), (7, _)] (fun i => []) (fun i => i ≤ xs.length ∧ (xs.take i).any (fun o => (!lokB o)) = false) (fun i => xs.length - i) (0) ⟨au2, rfl, rfl, rfl, trivial⟩ au1 ⟨Nat.zero_le _, rfl⟩ ?_
 rintro i ⟨hi, ha⟩
 change wpM _ _ _ _ _ _ _ ([]) _ _ _
 refine wpM.seq (wpM.region ?_)
 refine LM.val (ov_lss rfl rfl) ?_
 refine LM.nil (QM.sub (e' := [(0, _), (1, _), (7, _), (8, _), (9, _)]) au9 (QM.then ?_))
 refine wpM.seq ?_
 refine wpM.condD rfl (fun h1 => ?_) (fun h1 => ?_)
 ·
  refine wpM.skip ?_
  refine QM.then ?_
  refine wpM.seq ?_
  refine wpM.block ?_
  refine wpM.seq (wpM.region ?_)
  refine LM.mv rfl (LM.as rfl ?_)
  refine LM.nil (QM.sub (e' := [(0, _), (1, _), (5, _), (7, _), (8, _)]) au9 (QM.then (wpM.seq (wpM.region ?_))))
  refine LM.mv rfl (LM.mv rfl (LM.mv rfl ?_))
  refine LM.val (ov_idxSN au6 Tryz.underlying27 Tryz.sizeOf63 rfl rfl (by omega)) ?_
  first | refine LM.rd (om_slA (by assumption) (by intro _; rfl) Tryz.isAgg63 Tryz.sizeOf63 rfl au3) ?_ | refine LM.rdC (om_srEA (by assumption) (by intro _; rfl) Tryz.isAgg63 Tryz.sizeOf63 rfl au3 id) ?_ | refine LM.rd (om_ldW Tryz.isAgg63 Tryz.sizeOf63 rfl rfl) ?_ | refine LM.rd (om_ldA Tryz.isAgg63 Tryz.sizeOf63 rfl (vs := [_, _, _, _, _]) rfl ⟨rfl, rfl, rfl, rfl, rfl, trivial⟩) ?_
  refine LM.callE (oc_callV rfl (enters_fn Tryz.func52 (by kernel_rfl) rfl) rfl) (fun w hm hc hg => smay2_spec _ w) ?_
  refine LM.nil (QM.sub (e' := [(0, _), (1, _), (5, _), (7, _), (8, _), (16, _)]) au9 (QM.then ?_))
  first | refine wpM.condD rfl (fun h2 => ?_) (fun h2 => ?_) | refine wpM.condB rfl (fun h2 => ?_) (fun h2 => ?_)
  ·
   refine wpM.seq (wpM.region ?_)
   refine LM.mv rfl (LM.as rfl ?_)
   refine LM.nil (QM.sub (e' := [(4, _)]) ⟨rfl, trivial⟩ (QM.then ?_))
   refine wpM.ret ?_
   refine QM.block_ret ?_
   refine QM.then_ret ?_
   refine QM.then_ret ?_
   refine QM.block_ret ?_
   refine QM.then_ret ?_
   refine QM.leave (.inl rfl) [.tmp 4] Tryz.results94 rfl ?_
   intro w' hm' hc' hg'
   exact ⟨by show Value.int .i64 _ = _; rw [fix_hit default ha (by omega) (by simpa using h2)], hc'⟩
  refine wpM.skip ?_
  refine QM.block_normal ?_
  refine QM.then (wpM.region ?_)
  refine LM.val (ov_add64 rfl rfl (by omega)) ?_
  refine LM.mv rfl ?_
  refine LM.nil (QM.sub (e' := [(0, _), (1, _), (7, _), (8, _)]) au9 ?_)
  refine QM.againK (i + 1) ⟨au2, rfl, rfl, rfl, trivial⟩ au1 (fun _ h => h) ?_ ?_
  · exact ⟨by omega, by rw [any_snoc default (by omega), ha, Bool.false_or]; simpa using h2⟩
  · omega
 refine wpM.exit ?_
 refine QM.then_exit ?_
 refine QM.then_exit ?_
 refine QM.block_hit ?_
 refine QM.then (wpM.seq (wpM.region ?_))
 refine LM.as rfl ?_
 refine LM.nil (QM.sub (e' := [(4, _)]) ⟨rfl, trivial⟩ (QM.then ?_))
 refine wpM.ret ?_
 refine QM.leave (.inl rfl) [.tmp 4] Tryz.results94 rfl ?_
 intro w' hm' hc' hg'
 have hil : i = xs.length := (by omega); subst hil; rw [List.take_length] at ha; exact ⟨by show Value.int .i64 _ = _; rw [fix_miss ha], hc'⟩
set_option maxRecDepth 100000 in
theorem cof_l {xs : List CLk} {ad : Option Addr} {n cap : Nat} (w : World) (hn : n = xs.length) (hl : Sr fL 5 xs (.slice ad n cap) w) (hx : xs.length ≤ 1000000) : Ret Tryz.prog 51 #[.slice ad n cap, .func (.func 52) #[] #[]] w (fun v w' => v = .bool (xs.any (fun o => (!lokB o))) ∧ Ext w w') := by
 refine Ret.enterM (l := [.slice ad n cap, .func (.func 52) #[] #[]]) Tryz.func51 rfl Tryz.ntmps51 rfl ([]) (no) (Mem.nil w) ?_
 refine wpM.seq (wpM.region ?_)
 refine LM.as rfl ?_
 refine LM.nil (QM.sub (e' := [(0, _), (1, _)]) au9 (QM.then (wpM.seq (wpM.region ?_))))
 refine LM.mv rfl (LM.mv rfl ?_)
 refine LM.callE (oc_call (enters_fn Tryz.func94 (by kernel_rfl) rfl) rfl) (fun w hm hc hg => ixf_l w hn (hl.ext hc) hx) ?_
 refine LM.val (ov_geq rfl rfl) ?_
 refine LM.as rfl ?_
 refine LM.nil (QM.sub (e' := [(4, _)]) ⟨rfl, trivial⟩ (QM.then ?_))
 refine wpM.ret ?_
 refine QM.leave (.inl rfl) [.tmp 4] Tryz.results51 rfl ?_
 intro w' hm' hc' hg'
 exact ⟨by show Value.bool _ = _; rw [← fix_pos], hc'⟩
set_option maxRecDepth 100000 in
theorem misfit_spec {s : StV} (w : World) (hI : s.In w) (hx : s.ps.length ≤ 1000000) : Ret Tryz.prog 39 #[s.val] w (fun v w' => v = .tuple #[.int .i64 (misI s.ls (s.ps.map PgV.c)), .int .i64 (misE s.ls (s.ps.map PgV.c) (misI s.ls (s.ps.map PgV.c)))] ∧ Ext w w') := by
 have hgn := hI.hgn; have hln := hI.hln; have hpn := hI.hpn; have hp := hI.hp; have hg := hI.hg; have hl := hI.hl; have hcl : (s.ps.map PgV.c).length = s.ps.length := List.length_map ..
 refine Ret.enterM (l := [s.val]) Tryz.func39 rfl Tryz.ntmps39 rfl ([]) (no) (Mem.nil w) ?_
 refine wpM.seq (wpM.region ?_)
 refine LM.box rfl rfl (fun b1 hb1 => ?_)
 refine LM.as rfl (LM.as rfl ?_)
 refine LM.nil (QM.sub (e' := [(1, _)]) ⟨rfl, trivial⟩ (QM.then ?_))
 refine wpM.seq ?_
 refine wpM.seq (wpM.region ?_)
 refine LM.val (ov_field Tryz.underlying30 rfl Tryz.sizeOf28 rfl (k := 4) rfl rfl) ?_
 refine LM.rd (om_ld Tryz.isAgg28 rfl rfl) ?_
 refine LM.val (ov_len Tryz.underlying28 rfl) ?_
 refine LM.mv rfl ?_
 refine LM.nil (QM.sub (e' := [(1, _), (9, _), (10, _), (11, _)]) au9 (QM.then ?_))
 refine wpM.block ?_
 refine wpM.loopK0 (α := Nat) (fun k => [(11, .int .i64 (k : Nat))]) [(1, _), (9, _), (10, _)] (fun k => stB b1 s :: []) (fun k => k ≤ s.ps.length ∧ ((s.ps.map PgV.c).take k).any (misB s.ls (s.pn : Nat)) = false) (fun k => s.ps.length - k) (0) ⟨au2, rfl, rfl, rfl, trivial⟩ au1 ⟨Nat.zero_le _, rfl⟩ ?_
 rintro k ⟨hk, hap⟩
 change wpM _ _ _ _ _ _ _ (stB b1 s :: []) _ _ _
 refine wpM.seq (wpM.region ?_)
 refine LM.val (ov_lss rfl rfl) ?_
 refine LM.nil (QM.sub (e' := [(1, _), (9, _), (10, _), (11, _), (12, _)]) au9 (QM.then ?_))
 refine wpM.seq ?_
 refine wpM.condD rfl (fun h1 => ?_) (fun h1 => ?_)
 ·
  have hpm : s.ps.getD k default ∈ s.ps := List.mem_of_getElem? (getq default (by omega))
  refine wpM.skip ?_
  refine QM.then ?_
  refine wpM.seq ?_
  refine wpM.block ?_
  refine wpM.seq (wpM.region ?_)
  refine LM.mv rfl ?_
  refine LM.val (ov_idxSN au6 Tryz.underlying28 Tryz.sizeOf87 rfl rfl (by omega)) ?_
  first | refine LM.rd (om_slA (by assumption) (by intro _; rfl) Tryz.isAgg87 Tryz.sizeOf87 rfl au3) ?_ | refine LM.rdC (om_srEA (by assumption) (by intro _; rfl) Tryz.isAgg87 Tryz.sizeOf87 rfl au3 id) ?_ | refine LM.rd (om_ldW Tryz.isAgg87 Tryz.sizeOf87 rfl rfl) ?_ | refine LM.rd (om_ldA Tryz.isAgg87 Tryz.sizeOf87 rfl (vs := [_, _]) rfl ⟨rfl, rfl, trivial⟩) ?_
  refine LM.alloc Tryz.zeroValue87 rfl (fun b5 hb5 => ?_)
  refine LM.as rfl ?_
  refine LM.stW Tryz.sizeOf87 rfl rfl rfl rfl au7 au8 ?_
  refine LM.nil (QM.sub (e' := [(1, _), (4, _), (5, _), (9, _), (10, _), (11, _)]) au9 (QM.then (wpM.seq (wpM.region ?_))))
  refine LM.rd (om_ldW Tryz.isAgg87 Tryz.sizeOf87 rfl rfl) ?_
  refine LM.val (ov_field Tryz.underlying30 rfl Tryz.sizeOf27 rfl (k := 3) rfl rfl) ?_
  refine LM.rd (om_ld Tryz.isAgg27 rfl rfl) ?_
  refine LM.val (ov_field Tryz.underlying30 rfl Tryz.sizeOf28 rfl (k := 4) rfl rfl) ?_
  refine LM.rd (om_ld Tryz.isAgg28 rfl rfl) ?_
  refine LM.val (ov_len Tryz.underlying28 rfl) ?_
  refine LM.callE (oc_call (enters_fn Tryz.func86 (by kernel_rfl) rfl) rfl) (fun w hm hc hg => check_spec (s.pn : Nat) w (hI.ops _ hpm).1 ((hI.ops _ hpm).2.ext hc) hln (hl.ext hc)) ?_
  refine LM.mv rfl ?_
  refine LM.val (ov_extract rfl rfl) ?_
  refine LM.val (ov_extract rfl rfl) ?_
  refine LM.as rfl (LM.as rfl ?_)
  refine LM.nil (QM.sub (e' := [(1, _), (4, _), (7, _), (9, _), (10, _), (11, _)]) au9 (QM.then (wpM.seq (wpM.region ?_))))
  refine LM.mv rfl ?_
  refine LM.val (ov_neq rfl rfl) ?_
  refine LM.nil (QM.sub (e' := [(1, _), (4, _), (7, _), (9, _), (10, _), (11, _), (27, _)]) au9 (QM.then ?_))
  refine wpM.condD rfl (fun h2 => ?_) (fun h2 => ?_)
  ·
   refine wpM.seq (wpM.region ?_)
   refine LM.mv rfl (LM.mv rfl (LM.as rfl (LM.as rfl ?_)))
   refine LM.nil (QM.sub (e' := [(2, _), (3, _)]) au9 (QM.then ?_))
   refine wpM.ret ?_
   refine QM.block_ret ?_
   refine QM.then_ret ?_
   refine QM.then_ret ?_
   refine QM.block_ret ?_
   refine QM.then_ret ?_
   refine QM.leave (.inl rfl) [.tmp 2, .tmp 3] Tryz.results39 rfl ?_
   intro w' hm' hc' hg'
   have e : misI s.ls (s.ps.map PgV.c) = (k : Nat) := fix_hit default (by rw [hcl, ← hpn]; exact hap) (by rw [hcl]; omega) (by rw [map_getD, hcl, ← hpn]; unfold misB; exact decide_eq_true h2); refine ⟨?_, hc'⟩; rw [e]; unfold misE; rw [if_neg (by omega), Int.toNat_natCast, map_getD, hcl, ← hpn]; rfl
  refine wpM.skip ?_
  refine QM.block_normal ?_
  refine QM.then (wpM.region ?_)
  refine LM.val (ov_add64 rfl rfl (by omega)) ?_
  refine LM.mv rfl ?_
  refine LM.nil (QM.sub (e' := [(1, _), (9, _), (10, _), (11, _)]) au9 ?_)
  refine QM.againK (k + 1) ⟨au2, rfl, rfl, rfl, trivial⟩ au1 (fun _ h => h) ?_ ?_
  · exact ⟨by omega, by rw [any_snoc default (by rw [hcl]; omega), hap, Bool.false_or, map_getD]; unfold misB; simpa using h2⟩
  · omega
 refine wpM.exit ?_
 refine QM.then_exit ?_
 refine QM.then_exit ?_
 refine QM.block_hit ?_
 refine QM.then (wpM.seq (wpM.region ?_))
 refine LM.as rfl (LM.as rfl ?_)
 refine LM.nil (QM.sub (e' := [(2, _), (3, _)]) au9 (QM.then ?_))
 refine wpM.ret ?_
 refine QM.leave (.inl rfl) [.tmp 2, .tmp 3] Tryz.results39 rfl ?_
 intro w' hm' hc' hg'
 have hkp : k = s.ps.length := (by omega); rw [hkp, List.take_of_length_le (by omega)] at hap; have e : misI s.ls (s.ps.map PgV.c) = -1 := fix_miss (by rw [hcl, ← hpn]; exact hap); refine ⟨?_, hc'⟩; rw [e]; rfl
set_option maxRecDepth 100000 in
theorem mayS_spec {s : StV} (w : World) (hI : s.In w) : Ret Tryz.prog 14 #[s.val] w (fun v w' => v = .bool (mayS s.C) ∧ Ext w w') := by
 have hgn := hI.hgn; have hln := hI.hln; have hpn := hI.hpn; have hp := hI.hp; have hg := hI.hg; have hl := hI.hl; have hcl : (s.ps.map PgV.c).length = s.ps.length := List.length_map ..
 refine Ret.enterM (l := [s.val]) Tryz.func14 rfl Tryz.ntmps14 rfl ([]) (no) (Mem.nil w) ?_
 refine wpM.seq (wpM.region ?_)
 refine LM.box rfl rfl (fun b1 hb1 => ?_)
 refine LM.as rfl ?_
 refine LM.nil (QM.sub (e' := [(1, _)]) ⟨rfl, trivial⟩ (QM.then ?_))
 refine wpM.seq ?_
 refine wpM.block ?_
 refine wpM.seq (wpM.region ?_)
 refine LM.val (ov_field Tryz.underlying30 rfl Tryz.sizeOf3 rfl (k := 0) rfl rfl) ?_
 refine LM.rd (om_ld Tryz.isAgg3 rfl rfl) ?_
 refine LM.callE (oc_call (enters_fn Tryz.func48 (by kernel_rfl) rfl) rfl) (fun w hm hc hg => swithin_spec _ _ w) ?_
 first | refine LM.val (ov_notD rfl) ?_ | refine LM.val (ov_not rfl) ?_
 refine LM.mv rfl ?_
 first | refine LM.splitD (t := 10) rfl (fun h1 => ?_) (fun h1 => ?_) | refine LM.splitB (t := 10) rfl (fun h1 => ?_) (fun h1 => ?_)
 ·
  refine LM.dr 10 rfl rfl rfl (LM.dr 10 rfl rfl rfl (LM.dr 10 rfl rfl rfl (LM.dr 10 rfl rfl rfl ?_)))
  refine LM.val (ov_pickT rfl rfl) ?_
  refine LM.as rfl ?_
  refine LM.nil (QM.sub (e' := [(1, _), (5, _)]) au9 (QM.then ?_))
  refine wpM.condT rfl ?_
  refine wpM.seq (wpM.region ?_)
  refine LM.as rfl ?_
  refine LM.nil (QM.sub (e' := [(2, _)]) ⟨rfl, trivial⟩ (QM.then ?_))
  refine wpM.ret ?_
  refine QM.block_ret ?_
  refine QM.then_ret ?_
  refine QM.leave (.inl rfl) [.tmp 2] Tryz.results14 rfl ?_
  intro w' hm' hc' hg'
  refine ⟨?_, hc'⟩; rw [mayS_head (by rw [head_eq hgn hln hpn]; simp [h1])]; rfl
 refine LM.sp 10 rfl rfl rfl (LM.val (ov_field Tryz.underlying30 rfl Tryz.sizeOf3 rfl (k := 1) rfl rfl) (LM.sp 10 rfl rfl rfl ?_))
 refine LM.rd (om_ld Tryz.isAgg3 rfl rfl) ?_
 refine LM.sp 10 rfl rfl rfl ?_
 refine LM.callE (oc_call (enters_fn Tryz.func48 (by kernel_rfl) rfl) rfl) (fun w hm hc hg => swithin_spec _ _ w) ?_
 refine LM.sp 10 rfl rfl rfl ?_
 first | refine LM.val (ov_notD rfl) ?_ | refine LM.val (ov_not rfl) ?_
 refine LM.val (ov_pickF rfl rfl) ?_
 refine LM.as rfl ?_
 refine LM.nil (QM.sub (e' := [(1, _), (5, _)]) au9 (QM.then ?_))
 first | refine wpM.condD rfl (fun h2 => ?_) (fun h2 => ?_) | refine wpM.condB rfl (fun h2 => ?_) (fun h2 => ?_)
 ·
  refine wpM.seq (wpM.region ?_)
  refine LM.as rfl ?_
  refine LM.nil (QM.sub (e' := [(2, _)]) ⟨rfl, trivial⟩ (QM.then ?_))
  refine wpM.ret ?_
  refine QM.block_ret ?_
  refine QM.then_ret ?_
  refine QM.leave (.inl rfl) [.tmp 2] Tryz.results14 rfl ?_
  intro w' hm' hc' hg'
  refine ⟨?_, hc'⟩; rw [mayS_head (by rw [head_eq hgn hln hpn]; simp [h1, h2])]; rfl
 refine wpM.seq (wpM.region ?_)
 refine LM.val (ov_field Tryz.underlying30 rfl Tryz.sizeOf26 rfl (k := 2) rfl rfl) ?_
 refine LM.rd (om_ld Tryz.isAgg26 rfl rfl) ?_
 refine LM.val (ov_len Tryz.underlying26 rfl) ?_
 refine LM.callE (oc_call (enters_fn Tryz.func48 (by kernel_rfl) rfl) rfl) (fun w hm hc hg => swithin_spec _ _ w) ?_
 first | refine LM.val (ov_notD rfl) ?_ | refine LM.val (ov_not rfl) ?_
 refine LM.mv rfl ?_
 first | refine LM.splitD (t := 22) rfl (fun h3 => ?_) (fun h3 => ?_) | refine LM.splitB (t := 22) rfl (fun h3 => ?_) (fun h3 => ?_)
 ·
  refine LM.dr 22 rfl rfl rfl (LM.dr 22 rfl rfl rfl (LM.dr 22 rfl rfl rfl ?_))
  refine LM.val (ov_pickT rfl rfl) ?_
  refine LM.as rfl ?_
  refine LM.nil (QM.sub (e' := [(1, _), (16, _)]) au9 (QM.then ?_))
  refine wpM.condT rfl ?_
  refine wpM.seq (wpM.region ?_)
  refine LM.as rfl ?_
  refine LM.nil (QM.sub (e' := [(2, _)]) ⟨rfl, trivial⟩ (QM.then ?_))
  refine wpM.ret ?_
  refine QM.block_ret ?_
  refine QM.then_ret ?_
  refine QM.leave (.inl rfl) [.tmp 2] Tryz.results14 rfl ?_
  intro w' hm' hc' hg'
  refine ⟨?_, hc'⟩; rw [mayS_head (by rw [head_eq hgn hln hpn]; simp [h1, h2, h3])]; rfl
 refine LM.sp 22 rfl rfl rfl (LM.val (ov_field Tryz.underlying30 rfl Tryz.sizeOf26 rfl (k := 2) rfl rfl) (LM.sp 22 rfl rfl rfl ?_))
 refine LM.rd (om_ld Tryz.isAgg26 rfl rfl) ?_
 refine LM.sp 22 rfl rfl rfl ?_
 refine LM.callE (oc_call (enters_fn Tryz.func49 (by kernel_rfl) rfl) rfl) (fun w hm hc hg => cof_g w hgn (hI.hg.ext hc) (by have h9 : winB (s.gn : Int) 4 = true := (by simpa using h3); have := (winL _ _).1 h9; omega)) ?_
 refine LM.val (ov_pickF rfl rfl) ?_
 refine LM.as rfl ?_
 refine LM.nil (QM.sub (e' := [(1, _), (16, _)]) au9 (QM.then ?_))
 first | refine wpM.condD rfl (fun h4 => ?_) (fun h4 => ?_) | refine wpM.condB rfl (fun h4 => ?_) (fun h4 => ?_)
 ·
  refine wpM.seq (wpM.region ?_)
  refine LM.as rfl ?_
  refine LM.nil (QM.sub (e' := [(2, _)]) ⟨rfl, trivial⟩ (QM.then ?_))
  refine wpM.ret ?_
  refine QM.block_ret ?_
  refine QM.then_ret ?_
  refine QM.leave (.inl rfl) [.tmp 2] Tryz.results14 rfl ?_
  intro w' hm' hc' hg'
  refine ⟨?_, hc'⟩; rw [mayS_gs (s := s.C) (by show s.gs.all _ = false; rw [all_any, h4]; rfl)]; rfl
 refine wpM.seq (wpM.region ?_)
 refine LM.val (ov_field Tryz.underlying30 rfl Tryz.sizeOf27 rfl (k := 3) rfl rfl) ?_
 refine LM.rd (om_ld Tryz.isAgg27 rfl rfl) ?_
 refine LM.val (ov_len Tryz.underlying27 rfl) ?_
 refine LM.val (ov_gtr rfl rfl) ?_
 refine LM.mv rfl ?_
 refine LM.splitD (t := 32) rfl (fun h5 => ?_) (fun h5 => ?_)
 ·
  refine LM.dr 32 rfl rfl rfl (LM.dr 32 rfl rfl rfl (LM.dr 32 rfl rfl rfl ?_))
  refine LM.val (ov_pickT rfl rfl) ?_
  refine LM.as rfl ?_
  refine LM.nil (QM.sub (e' := [(1, _), (27, _)]) au9 (QM.then ?_))
  refine wpM.condT rfl ?_
  refine wpM.seq (wpM.region ?_)
  refine LM.as rfl ?_
  refine LM.nil (QM.sub (e' := [(2, _)]) ⟨rfl, trivial⟩ (QM.then ?_))
  refine wpM.ret ?_
  refine QM.block_ret ?_
  refine QM.then_ret ?_
  refine QM.leave (.inl rfl) [.tmp 2] Tryz.results14 rfl ?_
  intro w' hm' hc' hg'
  refine ⟨?_, hc'⟩; rw [mayS_head (by rw [head_eq hgn hln hpn]; simp [h1, h2, h3, h4, h5])]; rfl
 refine LM.sp 32 rfl rfl rfl (LM.val (ov_field Tryz.underlying30 rfl Tryz.sizeOf27 rfl (k := 3) rfl rfl) (LM.sp 32 rfl rfl rfl ?_))
 refine LM.rd (om_ld Tryz.isAgg27 rfl rfl) ?_
 refine LM.sp 32 rfl rfl rfl ?_
 refine LM.callE (oc_call (enters_fn Tryz.func51 (by kernel_rfl) rfl) rfl) (fun w hm hc hg => cof_l w hln (hl.ext hc) (by omega)) ?_
 refine LM.val (ov_pickF rfl rfl) ?_
 refine LM.as rfl ?_
 refine LM.nil (QM.sub (e' := [(1, _), (27, _)]) au9 (QM.then ?_))
 first | refine wpM.condD rfl (fun h6 => ?_) (fun h6 => ?_) | refine wpM.condB rfl (fun h6 => ?_) (fun h6 => ?_)
 ·
  refine wpM.seq (wpM.region ?_)
  refine LM.as rfl ?_
  refine LM.nil (QM.sub (e' := [(2, _)]) ⟨rfl, trivial⟩ (QM.then ?_))
  refine wpM.ret ?_
  refine QM.block_ret ?_
  refine QM.then_ret ?_
  refine QM.leave (.inl rfl) [.tmp 2] Tryz.results14 rfl ?_
  intro w' hm' hc' hg'
  refine ⟨?_, hc'⟩; rw [mayS_ls (s := s.C) (by show s.ls.all _ = false; rw [all_any, h6]; rfl)]; rfl
 refine wpM.seq (wpM.region ?_)
 refine LM.val (ov_field Tryz.underlying30 rfl Tryz.sizeOf28 rfl (k := 4) rfl rfl) ?_
 refine LM.rd (om_ld Tryz.isAgg28 rfl rfl) ?_
 refine LM.val (ov_len Tryz.underlying28 rfl) ?_
 refine LM.callE (oc_call (enters_fn Tryz.func48 (by kernel_rfl) rfl) rfl) (fun w hm hc hg => swithin_spec _ _ w) ?_
 first | refine LM.val (ov_notD rfl) ?_ | refine LM.val (ov_not rfl) ?_
 refine LM.as rfl ?_
 refine LM.nil (QM.sub (e' := [(1, _), (37, _)]) au9 (QM.then ?_))
 first | refine wpM.condD rfl (fun h7 => ?_) (fun h7 => ?_) | refine wpM.condB rfl (fun h7 => ?_) (fun h7 => ?_)
 ·
  refine wpM.seq (wpM.region ?_)
  refine LM.as rfl ?_
  refine LM.nil (QM.sub (e' := [(2, _)]) ⟨rfl, trivial⟩ (QM.then ?_))
  refine wpM.ret ?_
  refine QM.block_ret ?_
  refine QM.then_ret ?_
  refine QM.leave (.inl rfl) [.tmp 2] Tryz.results14 rfl ?_
  intro w' hm' hc' hg'
  refine ⟨?_, hc'⟩; rw [mayS_head (by rw [head_eq hgn hln hpn]; simp [h1, h2, h3, h4, h5, h6, h7])]; rfl
 refine wpM.skip ?_
 refine QM.block_normal ?_
 refine QM.then (wpM.seq (wpM.region ?_))
 refine LM.rd (om_ldW Tryz.isAgg30 Tryz.sizeOf30 rfl rfl) ?_
 refine LM.callE (oc_call (enters_fn Tryz.func39 (by kernel_rfl) rfl) rfl) (fun w hm hc hg => misfit_spec w (hI.ext hc) (by have h9 : winB (s.pn : Int) 8 = true := (by simpa using h7); have := (winL _ _).1 h9; omega)) ?_
 refine LM.mv rfl ?_
 refine LM.val (ov_extract rfl rfl) ?_
 refine LM.val (ov_extract rfl rfl) ?_
 refine LM.as rfl (LM.as rfl ?_)
 refine LM.nil (QM.sub (e' := [(3, _)]) ⟨rfl, trivial⟩ (QM.then (wpM.seq (wpM.region ?_))))
 refine LM.mv rfl ?_
 refine LM.val (ov_lss rfl rfl) ?_
 refine LM.as rfl ?_
 refine LM.nil (QM.sub (e' := [(2, _)]) ⟨rfl, trivial⟩ (QM.then ?_))
 refine wpM.ret ?_
 refine QM.leave (.inl rfl) [.tmp 2] Tryz.results14 rfl ?_
 intro w' hm' hc' hg'
 have hhd : headB s.C = true := (by rw [head_eq hgn hln hpn]; simp [h1, h2, h3, h4, h5, h6, h7]); have hgs : s.gs.all (fun n => winB n 16) = true := (by rw [all_any, h4]; rfl); have hls : s.ls.all lokB = true := (by rw [all_any, h6]; rfl); have hmi : decide (misI s.ls (s.ps.map PgV.c) < 0) = !(s.ps.map PgV.c).any (misB s.ls (s.ps.map PgV.c).length) := (by unfold misI; rw [← fix_pos, ← decide_not]; exact decide_eq_decide.2 (by omega)); refine ⟨?_, hc'⟩; rw [mayS_split, hhd]; show Value.bool (decide (misI s.ls (s.ps.map PgV.c) < 0)) = Value.bool (true && (s.gs.all (fun n => winB n 16) && (s.ls.all lokB && !(s.ps.map PgV.c).any (misB s.ls (s.ps.map PgV.c).length)))); rw [hmi, hgs, hls]; rfl
end Go.Eng
namespace Go.Eng
open Go Go.RowKit
structure Act where
  k : Int
  a : Int
  b : Int
  c : Int
  d : Int
deriving DecidableEq
instance : Inhabited Act := ⟨⟨0, 0, 0, 0, 0⟩⟩
def fA (o : Act) : List Value := [.int .i64 o.k, .int .i64 o.a, .int .i64 o.b, .int .i64 o.c, .int .i64 o.d]
def acW : List (List UInt8) := [[], [116, 105, 99, 107], [102, 105, 114, 101], [98, 97, 108, 97, 110, 99, 101], [115, 112, 97, 119, 110], [107, 105, 108, 108], [103, 114, 111, 117, 112], [109, 111, 118, 101], [114, 111, 117, 110, 100]]
def acT (k : Int) : List UInt8 := if 0 ≤ k ∧ k < 9 then acW.getD k.toNat [] else []
def manyA (k : Int) : Nat := if k = 1 ∨ k = 5 ∨ k = 8 then 1 else if k = 6 ∨ k = 7 then 2 else if k = 4 then 4 else 0
theorem manyA_le (k : Int) : manyA k ≤ 4 := by unfold manyA; (repeat' split) <;> omega
def manyL : List Int := [0, 1, 0, 0, 4, 1, 2, 2, 1]
theorem manyL_get {k : Int} (h : 0 ≤ k ∧ k < 9) : manyL.getD k.toNat 0 = (manyA k : Int) := by
  have : k = 0 ∨ k = 1 ∨ k = 2 ∨ k = 3 ∨ k = 4 ∨ k = 5 ∨ k = 6 ∨ k = 7 ∨ k = 8 := by omega
  rcases this with rfl | rfl | rfl | rfl | rfl | rfl | rfl | rfl | rfl <;> rfl
def kindOk (k : Int) : Bool := decide (1 ≤ k) && decide (k ≤ 8)
theorem acT_empty (k : Int) : decide (acT k ≠ []) = kindOk k := by
  unfold kindOk
  by_cases h : 0 ≤ k ∧ k < 9
  · have : k = 0 ∨ k = 1 ∨ k = 2 ∨ k = 3 ∨ k = 4 ∨ k = 5 ∨ k = 6 ∨ k = 7 ∨ k = 8 := by omega
    rcases this with rfl | rfl | rfl | rfl | rfl | rfl | rfl | rfl | rfl <;> decide +kernel
  · unfold acT; rw [if_neg h]
    by_cases h2 : 1 ≤ k
    · rw [show decide (k ≤ 8) = false from decide_eq_false (by omega)]; simp
    · rw [show decide (1 ≤ k) = false from decide_eq_false h2]; simp
def numsA (o : Act) : List Int := [o.a, o.b, o.c, o.d]
def numB (k : Int) (i : Nat) (n : Int) : Bool := decide (0 ≤ n) && decide (n ≤ 999999999) && (decide (i < manyA k) || decide (n = 0))
def rightA (o : Act) : Bool := kindOk o.k && (numB o.k 0 o.a && numB o.k 1 o.b && numB o.k 2 o.c && numB o.k 3 o.d)
theorem right_all {o : Act} (hk : kindOk o.k = true) (h : ∀ j, j < 4 → numB o.k j ((numsA o).getD j 0) = true) : rightA o = true := by
  unfold rightA
  have h0 := h 0 (by decide); have h1 := h 1 (by decide); have h2 := h 2 (by decide); have h3 := h 3 (by decide)
  simp only [numsA, List.getD_cons_zero, List.getD_cons_succ] at h0 h1 h2 h3
  rw [hk, h0, h1, h2, h3]; rfl
theorem right_not {o : Act} {j : Nat} (hj : j < 4) (h : numB o.k j ((numsA o).getD j 0) = false) : rightA o = false := by
  unfold rightA
  have : j = 0 ∨ j = 1 ∨ j = 2 ∨ j = 3 := by omega
  rcases this with rfl | rfl | rfl | rfl <;> (simp only [numsA, List.getD_cons_zero, List.getD_cons_succ] at h; rw [h]; simp)
def mayA (l : List Act) : Bool := decide (l.length ≤ 4000) && l.all rightA
def kindAT (t : List UInt8) : Int := mx0 (fixI (fun y => decide (t = y)) acW)
def kindA (ws : List Wrd) (i : Nat) : Int := if (decide (i < ws.length) && decide ((ws.getD i default).k = 1)) then kindAT (ws.getD i default).t else 0
def numG (ws : List Wrd) : Nat → Nat → Nat → List Int → Nat × Int × List Int
  | 0, j, _, xs => (j, 0, xs)
  | f + 1, j, i, xs => if (decide (ws.length ≤ j) || decide ((ws.getD j default).k ≠ 2)) then (j, 5, xs) else numG ws f (j + 1) (i + 1) (xs.set i (ws.getD j default).n)
def toA (k : Int) (xs : List Int) : Act := ⟨k, xs.getD 0 0, xs.getD 1 0, xs.getD 2 0, xs.getD 3 0⟩
def zer4 : List Int := [0, 0, 0, 0]
def numK (ws : List Wrd) (i : Nat) : Nat × Int × List Int := numG ws (manyA (kindA ws i)) (i + 1) 0 zer4
theorem numG_le (ws : List Wrd) : ∀ (f j i : Nat) (xs : List Int), j ≤ ws.length → j ≤ (numG ws f j i xs).1 ∧ (numG ws f j i xs).1 ≤ ws.length
  | 0, j, i, xs, h => ⟨Nat.le_refl _, h⟩
  | f + 1, j, i, xs, h => by
    unfold numG; split
    · exact ⟨Nat.le_refl _, h⟩
    · rename_i q
      simp only [Bool.or_eq_true, decide_eq_true_eq, not_or] at q
      have := numG_le ws f (j + 1) (i + 1) (xs.set i (ws.getD j default).n) (by omega)
      omega
def oneA (ws : List Wrd) (i : Nat) : Act × Nat × Int :=
  if kindA ws i = 0 then (default, i, 5)
  else if (numK ws i).2.1 ≠ 0 then (default, (numK ws i).1, (numK ws i).2.1)
  else if isR ws (numK ws i).1 3 [59] then (toA (kindA ws i) (numK ws i).2.2, (numK ws i).1 + 1, 0)
  else (default, (numK ws i).1, 5)
theorem kindA_lt {ws : List Wrd} {i : Nat} (h : kindA ws i ≠ 0) : i < ws.length := by
  unfold kindA at h; split at h
  · rename_i q; simp only [Bool.and_eq_true, decide_eq_true_eq] at q; exact q.1
  · exact absurd rfl h
theorem oneA_lt {ws : List Wrd} {i : Nat} (h : (oneA ws i).2.2 = 0) : i < (oneA ws i).2.1 ∧ (oneA ws i).2.1 ≤ ws.length := by
  unfold oneA at h ⊢
  split at h
  · cases h
  rename_i h1
  rw [if_neg h1]
  split at h
  · rename_i h2; exact absurd h h2
  rename_i h2
  rw [if_neg h2]
  split at h
  · rename_i h3
    rw [if_pos h3]
    have h4 := numG_le ws (manyA (kindA ws i)) (i + 1) 0 zer4 (kindA_lt h1)
    have h5 := isR_lt h3
    unfold numK at h5 ⊢
    simp only; omega
  · cases h
def loopAF : Nat → List Wrd → Nat → List Act → List Act × Int × Int
  | 0, _, i, out => (out, (i : Nat), 0)
  | f + 1, ws, i, out =>
    if ws.length ≤ i then (out, (i : Nat), 0)
    else if kindA ws i = 0 then ([], (i : Nat), 5)
    else if out.length = 4000 then ([], (i : Nat), 6)
    else if (oneA ws i).2.2 ≠ 0 then ([], ((oneA ws i).2.1 : Nat), (oneA ws i).2.2)
    else loopAF f ws (oneA ws i).2.1 (out ++ [(oneA ws i).1])
theorem loopAF_fuel (ws : List Wrd) : ∀ (f g i : Nat) (out : List Act), ws.length - i ≤ f → ws.length - i ≤ g → loopAF f ws i out = loopAF g ws i out
  | 0, 0, i, out, _, _ => rfl
  | 0, g + 1, i, out, h1, h2 => by rw [loopAF, loopAF, if_pos (by omega)]
  | f + 1, 0, i, out, h1, h2 => by rw [loopAF, loopAF, if_pos (by omega)]
  | f + 1, g + 1, i, out, h1, h2 => by
    simp only [loopAF]
    split
    · rfl
    split
    · rfl
    split
    · rfl
    split
    · rfl
    · rename_i h4
      have := oneA_lt (Classical.not_not.1 h4)
      exact loopAF_fuel ws f g _ _ (by omega) (by omega)
def loopA (ws : List Wrd) (i : Nat) (out : List Act) : List Act × Int × Int := loopAF (ws.length - i) ws i out
theorem loopA_end {ws : List Wrd} {i : Nat} {out : List Act} (h : ws.length ≤ i) : loopA ws i out = (out, (i : Int), 0) := by
  unfold loopA; rw [show ws.length - i = 0 by omega]; rfl
theorem loopA_step {ws : List Wrd} {i : Nat} {out : List Act} (h : i < ws.length) : loopA ws i out =
    if kindA ws i = 0 then ([], (i : Int), 5)
    else if out.length = 4000 then ([], (i : Int), 6)
    else if (oneA ws i).2.2 ≠ 0 then ([], ((oneA ws i).2.1 : Int), (oneA ws i).2.2)
    else loopA ws (oneA ws i).2.1 (out ++ [(oneA ws i).1]) := by
  unfold loopA
  obtain ⟨f, hf⟩ : ∃ f, ws.length - i = f + 1 := ⟨ws.length - i - 1, by omega⟩
  rw [hf, loopAF, if_neg (by omega)]
  split
  · rfl
  split
  · rfl
  split
  · rfl
  · rename_i h4
    have := oneA_lt (Classical.not_not.1 h4)
    exact loopAF_fuel ws _ _ _ _ (by omega) (by omega)
def actsO (ws : List Wrd) (p : Int) : List Act × Int × Int := if p < 0 ∨ (ws.length : Int) < p then ([], 0, 5) else loopA ws p.toNat []
theorem acts_nat {ws : List Wrd} {i : Nat} (hi : i ≤ ws.length) : actsO ws (i : Int) = loopA ws i [] := by
  unfold actsO; rw [if_neg (by omega), Int.toNat_natCast]
/-! what is parsed may be -/
end Go.Eng
namespace Go.Eng
open Go Go.Proofs Go.RowKit
theorem scanF_len (s : List UInt8) : ∀ (f i : Nat) (last : Int) (out : List Wrd), (scanF f s i last out).1.length ≤ out.length + f
  | 0, i, last, out => Nat.le_refl _
  | f + 1, i, last, out => by
    rw [scanF]
    split
    · show out.length ≤ _; omega
    split
    · have := scanF_len s f (i + 1) last out; omega
    split
    · have := scanF_len s f (i + runL notNl s i) last out; omega
    split
    · exact Nat.zero_le _
    · have := scanF_len s f (oneO s i).2.1 ((oneO s i).2.1 : Nat) (out ++ [(oneO s i).1]); rw [List.length_append, List.length_singleton] at this; omega
theorem scan_len (s : List UInt8) : (scanO s).1.length ≤ s.length := by
  unfold scanO; split
  · exact Nat.zero_le _
  · have := scanF_len s (s.length - 0) 0 (-1) []; unfold scanR; simp only [List.length_nil] at this; omega
end Go.Eng
namespace Go.Eng
open Go Go.Proofs Go.RowKit
set_option maxRecDepth 100000 in
theorem eqo_spec {xs ys : List COp} {ad1 ad2 : Option Addr} {n1 n2 cap1 cap2 : Nat} (w : World) (hn1 : n1 = xs.length) (hl1 : Sr fO 3 xs (.slice ad1 n1 cap1) w) (hn2 : n2 = ys.length) (hl2 : Sr fO 3 ys (.slice ad2 n2 cap2) w) (hx : xs.length ≤ 1000000000) : Ret Tryz.prog 107 #[.slice ad1 n1 cap1, .slice ad2 n2 cap2] w (fun v w' => v = .bool (decide (xs = ys)) ∧ Ext w w') := by
 refine Ret.enterM (l := [.slice ad1 n1 cap1, .slice ad2 n2 cap2]) Tryz.func107 rfl Tryz.ntmps107 rfl ([]) (no) (Mem.nil w) ?_
 refine wpM.seq (wpM.region ?_)
 refine LM.as rfl ?_
 refine LM.nil (QM.sub (e' := [(0, _), (1, _)]) au9 (QM.then ?_))
 refine wpM.seq ?_
 refine wpM.seq (wpM.region ?_)
 refine LM.mv rfl ?_
 refine LM.val (ov_len Tryz.underlying85 rfl) ?_
 refine LM.mv rfl ?_
 refine LM.val (ov_len Tryz.underlying85 rfl) ?_
 refine LM.val (ov_neq rfl rfl) ?_
 refine LM.nil (QM.sub (e' := [(0, _), (1, _), (10, _)]) au9 (QM.then ?_))
 refine wpM.condD rfl (fun h1 => ?_) (fun h1 => ?_)
 ·
  refine wpM.seq (wpM.region ?_)
  refine LM.as rfl ?_
  refine LM.nil (QM.sub (e' := [(4, _)]) ⟨rfl, trivial⟩ (QM.then ?_))
  refine wpM.ret ?_
  refine QM.then_ret ?_
  refine QM.leave (.inl rfl) [.tmp 4] Tryz.results107 rfl ?_
  intro w' hm' hc' hg'
  refine ⟨?_, hc'⟩; show Value.bool false = _; rw [decide_eq_false (show ¬ xs = ys by intro q; have := congrArg List.length q; omega)]
 refine wpM.skip ?_
 refine QM.then ?_
 refine wpM.seq ?_
 refine wpM.seq (wpM.region ?_)
 refine LM.mv rfl ?_
 refine LM.val (ov_len Tryz.underlying85 rfl) ?_
 refine LM.mv rfl ?_
 refine LM.nil (QM.sub (e' := [(0, _), (1, _), (12, _), (13, _)]) au9 (QM.then ?_))
 refine wpM.block ?_
 refine wpM.loopK0 (α := Nat) (fun i => [(13, .int .i64 (i : Nat))]) [(0, _), (1, _), (12, _)] (fun i => []) (fun i => i ≤ xs.length ∧ xs.take i = ys.take i) (fun i => xs.length - i) (0) ⟨au2, rfl, rfl, rfl, trivial⟩ au1 ⟨Nat.zero_le _, rfl⟩ ?_
 rintro i ⟨hi, ha⟩
 change wpM _ _ _ _ _ _ _ ([]) _ _ _
 refine wpM.seq (wpM.region ?_)
 refine LM.val (ov_lss rfl rfl) ?_
 refine LM.nil (QM.sub (e' := [(0, _), (1, _), (12, _), (13, _), (14, _)]) au9 (QM.then ?_))
 refine wpM.seq ?_
 refine wpM.condD rfl (fun h2 => ?_) (fun h2 => ?_)
 ·
  refine wpM.skip ?_
  refine QM.then ?_
  refine wpM.seq ?_
  refine wpM.block ?_
  refine wpM.seq (wpM.region ?_)
  refine LM.mv rfl (LM.as rfl ?_)
  refine LM.nil (QM.sub (e' := [(0, _), (1, _), (5, _), (12, _), (13, _)]) au9 (QM.then ?_))
  refine wpM.seq ?_
  refine wpM.draw [(0, 0), (1, 0), (2, 0), (3, 1), (4, 0), (5, 0), (6, 0), (7, 1), (8, 0)] (by kernel_rfl) (by kernel_rfl) ?_
  refine LD.val rfl rfl (ov_move rfl) ?_
  refine LD.val rfl rfl (ov_move rfl) ?_
  refine LD.val rfl rfl (ov_idxSN au6 Tryz.underlying85 Tryz.sizeOf135 rfl rfl (by omega)) ?_
  first | refine LD.rd rfl rfl (om_slA (by assumption) (by intro _; rfl) Tryz.isAgg135 Tryz.sizeOf135 rfl au3) ?_ | refine LD.rdC rfl rfl (om_srEA (by assumption) (by intro _; rfl) Tryz.isAgg135 Tryz.sizeOf135 rfl au3 id) ?_ | refine LD.rd rfl rfl (om_ldW Tryz.isAgg135 Tryz.sizeOf135 rfl rfl) ?_ | refine LD.rd rfl rfl (om_ldA Tryz.isAgg135 Tryz.sizeOf135 rfl (vs := [_, _, _]) rfl ⟨rfl, rfl, rfl, trivial⟩) ?_
  refine LD.val rfl rfl (ov_move rfl) ?_
  refine LD.val rfl rfl (ov_move rfl) ?_
  refine LD.val rfl rfl (ov_idxSN au6 Tryz.underlying85 Tryz.sizeOf135 rfl rfl (by omega)) ?_
  first | refine LD.rd rfl rfl (om_slA (by assumption) (by intro _; rfl) Tryz.isAgg135 Tryz.sizeOf135 rfl au3) ?_ | refine LD.rdC rfl rfl (om_srEA (by assumption) (by intro _; rfl) Tryz.isAgg135 Tryz.sizeOf135 rfl au3 id) ?_ | refine LD.rd rfl rfl (om_ldW Tryz.isAgg135 Tryz.sizeOf135 rfl rfl) ?_ | refine LD.rd rfl rfl (om_ldA Tryz.isAgg135 Tryz.sizeOf135 rfl (vs := [_, _, _]) rfl ⟨rfl, rfl, rfl, trivial⟩) ?_
  refine LD.val rfl rfl (ov_aneq Tryz.underlying135 (by kernel_rfl) (by kernel_rfl) (by decide) rfl rfl (by rfl) ⟨(by first | rfl | trivial), (by first | rfl | trivial), (by first | rfl | trivial), trivial⟩) ?_
  refine LD.nil ?_
  refine QM.sub (e' := [(0, _), (1, _), (12, _), (13, _), (24, _)]) au9 (QM.then ?_)
  first | refine wpM.condD rfl (fun h3 => ?_) (fun h3 => ?_) | refine wpM.condB rfl (fun h3 => ?_) (fun h3 => ?_)
  ·
   refine wpM.seq (wpM.region ?_)
   refine LM.as rfl ?_
   refine LM.nil (QM.sub (e' := [(4, _)]) ⟨rfl, trivial⟩ (QM.then ?_))
   refine wpM.ret ?_
   refine QM.block_ret ?_
   refine QM.then_ret ?_
   refine QM.then_ret ?_
   refine QM.block_ret ?_
   refine QM.then_ret ?_
   refine QM.leave (.inl rfl) [.tmp 4] Tryz.results107 rfl ?_
   intro w' hm' hc' hg'
   refine ⟨?_, hc'⟩; show Value.bool false = _; rw [decide_eq_false (show ¬ xs = ys by intro q; rw [fO_veqs, q] at h3; simp at h3)]
  refine wpM.skip ?_
  refine QM.block_normal ?_
  refine QM.then (wpM.region ?_)
  refine LM.val (ov_add64 rfl rfl (by omega)) ?_
  refine LM.mv rfl ?_
  refine LM.nil (QM.sub (e' := [(0, _), (1, _), (12, _), (13, _)]) au9 ?_)
  refine QM.againK (i + 1) ⟨au2, rfl, rfl, rfl, trivial⟩ au1 (fun _ h => h) ?_ ?_
  · exact ⟨by omega, eq_at (by omega) (by omega) ha (by rw [fO_veqs] at h3; simpa using h3)⟩
  · omega
 refine wpM.exit ?_
 refine QM.then_exit ?_
 refine QM.then_exit ?_
 refine QM.block_hit ?_
 refine QM.then (wpM.seq (wpM.region ?_))
 refine LM.as rfl ?_
 refine LM.nil (QM.sub (e' := [(4, _)]) ⟨rfl, trivial⟩ (QM.then ?_))
 refine wpM.ret ?_
 refine QM.leave (.inl rfl) [.tmp 4] Tryz.results107 rfl ?_
 intro w' hm' hc' hg'
 refine ⟨?_, hc'⟩; show Value.bool true = _; rw [decide_eq_true]; have e1 : xs.take i = xs := List.take_of_length_le (by omega); have e2 : ys.take i = ys := List.take_of_length_le (by omega); rw [← e1, ← e2, ha]
set_option maxRecDepth 100000 in
theorem psame_spec {xs ys : List COp} {f1 f2 : Bool} {ad1 ad2 : Option Addr} {n1 n2 cap1 cap2 : Nat} (w : World) (hn1 : n1 = xs.length) (hl1 : Sr fO 3 xs (.slice ad1 n1 cap1) w) (hn2 : n2 = ys.length) (hl2 : Sr fO 3 ys (.slice ad2 n2 cap2) w) (hx : xs.length ≤ 1000000000) : Ret Tryz.prog 65 #[pV f1 ad1 n1 cap1, pV f2 ad2 n2 cap2] w (fun v w' => v = .bool (decide (f1 = f2) && decide (xs = ys)) ∧ Ext w w') := by
 refine Ret.enterM (l := [pV f1 ad1 n1 cap1, pV f2 ad2 n2 cap2]) Tryz.func65 rfl Tryz.ntmps65 rfl ([]) (no) (Mem.nil w) ?_
 refine wpM.seq (wpM.region ?_)
 refine LM.box rfl rfl (fun b2 hb2 => ?_)
 refine LM.box rfl rfl (fun b3 hb3 => ?_)
 refine LM.as rfl ?_
 refine LM.nil (QM.sub (e' := [(2, _), (3, _)]) au9 (QM.then (wpM.seq (wpM.region ?_))))
 refine LM.val (ov_field Tryz.underlying87 rfl Tryz.sizeOf4 rfl (k := 0) rfl rfl) ?_
 refine LM.rd (om_ld Tryz.isAgg4 rfl rfl) ?_
 refine LM.val (ov_field Tryz.underlying87 rfl Tryz.sizeOf4 rfl (k := 0) rfl rfl) ?_
 refine LM.rd (om_ld Tryz.isAgg4 rfl rfl) ?_
 refine LM.val (ov_beql Tryz.underlying4 rfl rfl) ?_
 refine LM.mv rfl ?_
 refine LM.splitD (t := 10) rfl (fun h1 => ?_) (fun h1 => ?_)
 ·
  refine LM.sp 10 rfl rfl rfl (LM.val (ov_field Tryz.underlying87 rfl Tryz.sizeOf85 rfl (k := 1) rfl rfl) (LM.sp 10 rfl rfl rfl ?_))
  refine LM.rd (om_ld Tryz.isAgg85 rfl rfl) ?_
  refine LM.sp 10 rfl rfl rfl (LM.val (ov_field Tryz.underlying87 rfl Tryz.sizeOf85 rfl (k := 1) rfl rfl) (LM.sp 10 rfl rfl rfl ?_))
  refine LM.rd (om_ld Tryz.isAgg85 rfl rfl) ?_
  refine LM.sp 10 rfl rfl rfl ?_
  refine LM.callE (oc_call (enters_fn Tryz.func107 (by kernel_rfl) rfl) rfl) (fun w hm hc hg => eqo_spec w hn1 (hl1.ext hc) hn2 (hl2.ext hc) hx) ?_
  refine LM.val (ov_pickT rfl rfl) ?_
  refine LM.as rfl ?_
  refine LM.nil (QM.sub (e' := [(4, _)]) ⟨rfl, trivial⟩ (QM.then ?_))
  refine wpM.ret ?_
  refine QM.leave (.inl rfl) [.tmp 4] Tryz.results65 rfl ?_
  intro w' hm' hc' hg'
  refine ⟨?_, hc'⟩; show Value.bool (decide (xs = ys)) = _; rw [decide_eq_true (show f1 = f2 by simpa using h1), Bool.true_and]
 refine LM.dr 10 rfl rfl rfl (LM.dr 10 rfl rfl rfl (LM.dr 10 rfl rfl rfl (LM.dr 10 rfl rfl rfl (LM.dr 10 rfl rfl rfl ?_))))
 refine LM.val (ov_pickF rfl rfl) ?_
 refine LM.as rfl ?_
 refine LM.nil (QM.sub (e' := [(4, _)]) ⟨rfl, trivial⟩ (QM.then ?_))
 refine wpM.ret ?_
 refine QM.leave (.inl rfl) [.tmp 4] Tryz.results65 rfl ?_
 intro w' hm' hc' hg'
 refine ⟨?_, hc'⟩; show Value.bool false = _; rw [decide_eq_false (show ¬ f1 = f2 by simpa using h1), Bool.false_and]
end Go.Eng
